/- Cells: what is proved on the way: every input of the statement; no condition. Texts joined: LayC LayD LayE RefA RefB RemA RmB TreA CelP. -/
import Derived.Test.YtmjdnljneifpcaaGreatDoorBce
import Derived.Test.YtmjdnljneifpcaaGreatDoorBcf
import Derived.Test.YtmjdnljneifpcaaGreatDoorBcc
set_option linter.unusedVariables false
set_option linter.unusedSimpArgs false
set_option linter.unusedSectionVars false
namespace Go.Proofs.YtmjdnljneifpcaaGreatDoor
open Go.SL
theorem Ap (x y z:Nat):ZD [x,y,z]=if x < 65536∧Vf (Rl x y z) then some (Rl x y z) else none:=rfl
theorem aQ [Q4] (v:Value) (n:Nat) (hn:n≠3) (hv:∃ a c,v = .slice a n c) {w:World} {fr:List Q2} (H:Q0 w fr) :
  Calls Tryz.prog 86 #[v] w (ret fun x w'=>x = .tuple #[Yy 0 (.slice none 0 0) 0 (.slice none 0 0),.int .i64 4]∧Q0 w' fr):=by
 obtain⟨a,c,rfl⟩:=hv;refine Q9 Tryz.func86 rfl (by kernel_rfl) ?_;refine Vp H ?_;clear H;intro b2 w H;refine Dx H ?_;rw[show ((n:Int) != 3)=true by simp;omega];refine Bl H ?_;clear H;intro w H;refine J0 H ?_;exact Q3 (Jz H (fun w' H' => .cellN H' rfl (by repeat first|exact .nil _|apply QV.cons rfl) (.tmp .nil)) fun w' H'=>⟨rfl,H'.drop⟩)
theorem aV [Q4] (v:Value) (x y z:Nat) (hx:x < 18446744073709551616) (hy:y < 18446744073709551616) (hz:z < 18446744073709551616) {w:World} {fr:List Q2} [hT:YX 0 Lib.deBruijn64tab fr] (hr:Vu fr v 3 1 (Qa [x,y,z])) (H:Q0 w fr) :
  Calls Tryz.prog 86 #[v] w (ret fun r w'=>(ZD [x,y,z]=none∧r = .tuple #[Yy 0 (.slice none 0 0) 0 (.slice none 0 0),.int .i64 4]∧Q0 w' fr) ∨
   ∃ l vr vq,ZD [x,y,z]=some l∧r = .tuple #[Yy l.fixed vr l.record vq,.int .i64 0]∧Q0 w' (NL vr l.refs::NL vq l.recs::fr)):=by
 obtain⟨_,ad,cap,rfl,hr'⟩:=id hr
 rcases hr' with h|⟨b,o,E,fz,c,rfl,hA,hrd⟩
 ·omega
 haveI:=hA;have c0:c[o+0*1]? = some (.int .u64 x):=by have:=hrd.get 0 (.int .u64 x) (by simp[Qa]);simpa using this
 have c1:c[o+1*1]? = some (.int .u64 y):=by have:=hrd.get 1 (.int .u64 y) (by simp[Qa]);simpa using this
 have c2:c[o+2*1]? = some (.int .u64 z):=by have:=hrd.get 2 (.int .u64 z) (by simp[Qa]);simpa using this
 refine Q9 Tryz.func86 rfl (by kernel_rfl) ?_;refine Vp H ?_;clear H;intro b2 w H;refine AY H ?_;refine Q5 rfl (ZO rfl rfl ?_);refine Y7 H ?_;refine J1 H ?_;clear H;intro w H;refine Ja 0 ?_;refine Ji 1 ?_;refine Vm 2 [4] H rfl (Q8.none rfl) rfl c0 (by kernel_rfl) ?_;refine Jo 3 H ?_;refine Jk rfl rfl (Tz H) ?_;clear H;rintro v w H;refine Jo 4 H ?_;refine Jk rfl rfl (Hh x hx _ Xz Tx (by decide) H) ?_;clear H;rintro v2 w ⟨u,rfl,H⟩;obtain⟨au,cu,rfl⟩:=QF H (m:=3) (by simp[Qa,Xz]) (by decide);refine Ja 5 ?_;refine Bw H ?_;refine Jx H ?_;obtain⟨bu,su,rfl,H,hclose⟩:=V5 H (by omega);have d0:(Qa (Xz.map (Yx x))++su)[0+0*1]? = some (.int .u64 (Yx x (0,8))):=rfl;have d1:(Qa (Xz.map (Yx x))++su)[0+1*1]? = some (.int .u64 (Yx x (8,8))):=rfl;have d2:(Qa (Xz.map (Yx x))++su)[0+2*1]? = some (.int .u64 (Yx x (16,48))):=rfl
 have e8:IntKind.i64.wrap ((Yx x (0,8):Nat):Int)=((x % 256:Nat):Int):=by
  rw[KC (by have:=Nat.mod_lt (x / 2 ^ 0) (show 0 < 2 ^ 8 by decide);show x / 2 ^ 0 % 2 ^ 8 < _;omega)];show ((x / 2 ^ 0 % 2 ^ 8:Nat):Int)=_;simp
 have e16:IntKind.i64.wrap ((Yx x (8,8):Nat):Int)=((x / 256 % 256:Nat):Int):=by
  rw[KC (by have:=Nat.mod_lt (x / 2 ^ 8) (show 0 < 2 ^ 8 by decide);show x / 2 ^ 8 % 2 ^ 8 < _;omega)];rfl
 refine J6 H ?_
 refine Y6 (fun ms σ w=>ms=[]∧∃ b6 va vb,σ 2=pp b2∧σ 4 = .slice (some ⟨bu,0,none⟩) 3 cu∧σ 6=pp b6 ∧
  Q0 w (pts b6 (row 102 [.int .i64 ((x % 256:Nat):Int),va,.int .i64 ((x / 256 % 256:Nat):Int),vb])::NL va (Ve y 64)::NL vb (Ve z 64)::pts bu (row 83 (Qa (Xz.map (Yx x))++su))::pts b2 (row 102 [.int .i64 0,.slice none 0 0,.int .i64 0,.slice none 0 0])::fr)) ?_ ?_
 ·replace H:=Js [0,1] 1 H;refine J1 H ?_;clear H;intro w H;refine Ja 0 ?_;refine Ji 1 ?_;refine Vm 2 [18] H rfl (Q8.none rfl) rfl d0 (by kernel_rfl) ?_;refine Dc H ?_;refine Ja 4 ?_;refine Ji 5 ?_;refine Vm 6 [7] H rfl (Q8.none rfl) rfl c1 (by kernel_rfl) ?_;refine Ja 8 ?_;refine Ji 9 ?_;refine Vm 10 [18] H rfl (Q8.none rfl) rfl d1 (by kernel_rfl) ?_;refine U7 11 rfl (Q8.none rfl) rfl (by kernel_rfl) ?_;refine Ja 12 ?_;refine Ji 13 ?_;refine Vm 14 [15] H rfl (Q8.none rfl) rfl c2 (by kernel_rfl) ?_;rw[e8,e16];refine Jw 7 17 H rfl rfl (V1 (a:=[]) (b:=[]) rfl rfl (call (CE y hy H) ?_)) (Vo H rfl ?_)
  ·clear H;intro va w H;obtain⟨aa,ma,ca,rfl⟩:=Qw H;refine Jw 15 17 H rfl rfl (V1 (a:=[]) (b:=[]) rfl rfl (call (CE z hz H) ?_)) (Vo H rfl ?_)
   ·clear H;intro vb w H;obtain⟨ab,mb,cb,rfl⟩:=Qw H;refine Zq 16 rfl (Q8.none rfl) rfl (by kernel_rfl) ?_;refine Jo 17 H ?_;refine Vo H rfl ?_;clear H;intro b6 w H;refine Jo 18 H ?_;refine U9 H ?_;clear H;intro w H;refine Jx H ?_;replace H:=Js [0,1,0,0,0] 0 H;exact .inl ⟨rfl,rfl,b6,_,_,rfl,rfl,rfl,H⟩
   ·clear H;intro b6 w H;refine Jo 15 H ?_;refine Jk rfl rfl (CE z hz H) ?_;clear H;intro vb w H;obtain⟨ab,mb,cb,rfl⟩:=Qw H;refine Zq 16 rfl (Q8.none rfl) rfl (by kernel_rfl) ?_;refine Jo 18 H ?_;refine U9 H ?_;clear H;intro w H;refine Jx H ?_;replace H:=Js [1,1,0,0,0] 0 H;exact .inl ⟨rfl,rfl,b6,_,_,rfl,rfl,rfl,H⟩
  ·clear H;intro b6 w H;refine Jo 7 H ?_;refine Jk rfl rfl (CE y hy H) ?_;clear H;intro va w H;obtain⟨aa,ma,ca,rfl⟩:=Qw H;refine Jo 15 H ?_;refine Jk rfl rfl (CE z hz H) ?_;clear H;intro vb w H;obtain⟨ab,mb,cb,rfl⟩:=Qw H;refine Zq 16 rfl (Q8.none rfl) rfl (by kernel_rfl) ?_;refine Jo 18 H ?_;refine U9 H ?_;clear H;intro w H;refine Jx H ?_;replace H:=Js [2,1,0,0,0] 0 H;exact .inl ⟨rfl,rfl,b6,_,_,rfl,rfl,rfl,H⟩
 ·clear H;rintro ms σ w ⟨rfl,b6,va,vb,g2,g4,g6,H⟩;rw[Q1 g2,Q1 g4,Q1 g6];have hla:=Ao y 64;have hlb:=Ao z 64;obtain⟨aa,ca,rfl⟩:=QF (H.drop) (QH (Ve y 64)) (by decide);obtain⟨ab,cb,rfl⟩:=QF (H.drop.drop) (QH (Ve z 64)) (by decide);refine YY H ?_;refine Jd ?_;refine Q5 rfl (QR H rfl d2 rfl ?_);refine Jv ?_
  have hn:Yx x (16,48)=x / 65536:=by
   show x / 2 ^ 16 % 2 ^ 48=_;rw[Nat.mod_eq_of_lt (by omega)]
  rw[hn];by_cases hb:x < 65536
  ·rw[show (((x / 65536:Nat):Int) != 0)=false by simp;omega];refine Jv ?_;refine WZ H ?_;have h8:x / 256 % 256=x / 256:=Nat.mod_eq_of_lt (by omega);rw[h8] at H ⊢;replace H:=Js [1,1,0,0,0] 0 H;obtain⟨D1,H,hD1,hC1⟩:=sls_rd H (QH (Ve y 64)) (by decide);obtain⟨D2,H,hD2,hC2⟩:=sls_rd H.swap (QH (Ve z 64)) (by decide);refine QT rfl rfl rfl (V1 (a:=[]) (b:=[]) rfl rfl (call (I3 _ _ (Rl x y z) ⟨by show x % 256≤_;omega,by show x / 256≤_;omega,by show (Ve y 64).length≤_;omega,by show (Ve z 64).length≤_;omega⟩ ⟨(hD1 _).there,hD2 _⟩ H) ?_));clear H;rintro v w ⟨⟨q,rfl,hq⟩,H⟩;have H:=(hC1 _ _ (hC2 _ _ H).swap);cases q with
   | true=>
    refine Xr H ?_;refine KH H ?_;clear H;intro w H;refine J0 H ?_;replace H:=Js [4,0,0] 2 H;refine Q3 (Jz H (fun w' H' => .cellN H' rfl (by repeat first|exact .nil _|apply QV.cons rfl) (.tmp .nil)) fun w' H' => .inr ⟨Rl x y z,_,_,?_,rfl,H'.drop⟩);rw[Ap];rw[if_pos ⟨hb,hq.1 rfl⟩]
   | false=>
    refine Ym H ?_;refine KM H ?_;clear H;intro w H;refine J0 H ?_;replace H:=Js [4] 4 H;refine Q3 (Jz H (fun w' H' => .cellN H' rfl (by repeat first|exact .nil _|apply QV.cons rfl) (.tmp .nil)) fun w' H' => .inl ⟨?_,rfl,H'.drop⟩);rw[Ap];rw[if_neg];rintro⟨_,h2⟩;have:=hq.2 h2;cases this
  ·rw[show (((x / 65536:Nat):Int) != 0)=true by simp;omega];refine Dr H ?_;refine KM H ?_;clear H;intro w H;refine J0 H ?_;replace H:=Js [4] 4 H;refine Q3 (Jz H (fun w' H' => .cellN H' rfl (by repeat first|exact .nil _|apply QV.cons rfl) (.tmp .nil)) fun w' H' => .inl ⟨?_,rfl,H'.drop⟩);rw[Ap];rw[if_neg];rintro⟨h1,_⟩;exact hb h1
open List
abbrev Z7:=Value×Value×QM
@[reducible] def YG (x:Z7):Q2:=star [NL x.1 x.2.2.refs,NL x.2.1 x.2.2.recs]
@[reducible] def Ex (x:Z7):List Value:=[.int .i64 x.2.2.fixed,x.1,.int .i64 x.2.2.record,x.2.1]
def VD (l:List Z7):List Value:=l.flatMap Ex
theorem Rm (l:List Z7):(VD l).length=l.length*4:=by
 induction l with
 | nil=>rfl
 | cons x l ih=>simp only[VD,flatMap_cons,length_append,length_cons,length_nil] at *;omega
theorem Mu (a b:List Z7):VD (a++b)=VD a++VD b:=by simp[VD]
theorem Mv:∀ {L:List Z7} {i:Nat} {x:Z7},L[i]? = some x→(VD L)[i*4]? = some (.int .i64 x.2.2.fixed)∧(VD L)[i*4+1]? = some x.1∧(VD L)[i*4+2]? = some (.int .i64 x.2.2.record)∧(VD L)[i*4+3]? = some x.2.1
 | y::L,0,x,h=>by
  simp at h;subst h;simp[VD]
 | y::L,i+1,x,h=>by
  have:=Mv (L:=L) (i:=i) (by simpa using h);have e:VD (y::L)=Ex y++VD L:=by simp[VD]
  rw[e];rw[show (i+1)*4=i*4+4 by omega];simpa [Ex] using this
theorem I4 {L:List Z7} {spare:List Value} {i:Nat} {x:Z7} (h:L[i]? = some x):QV (VD L++spare) (0+i*4) 4 (Ex x):=by
 obtain⟨h0,h1,h2,h3⟩:=Mv h;have hl:=(List.getElem?_eq_some_iff.1 h3).1;rw[Nat.zero_add];refine QV.cons ?_ (QV.cons ?_ (QV.cons ?_ (QV.cons ?_ (QV.nil _))))
 all_goals rw[getElem?_append_left (by omega)]
 ·exact h0
 ·exact h1
 ·exact h2
 ·exact h3
def Qh (p:Nat) (ls:List QM):Q2:=ex fun q:Value×List Z7=>star [prop (q.2.map (·.2.2)=ls∧ls.length≤64∧∀ x∈ls,Vf x),pts p (row 242 [q.1]),QC 102 4 q.1 (VD q.2),star (q.2.map YG)]
theorem I5 [Q4] {w:World} {p:Nat} {ls:List QM} {l:List Q2} (H:Q0 w (Qh p ls::l)):∃ v q,(q.map (·.2.2)=ls∧ls.length≤64∧∀ x∈ls,Vf x)∧Q0 w (pts p (row 242 [v])::QC 102 4 v (VD q)::star (q.map YG)::l):=by
 obtain⟨⟨v,q⟩,H⟩:=Q0.ex.1 H;have H:=Q0.star.1 H;obtain⟨h,H⟩:=Q0.prop.1 H;exact⟨v,q,h,H⟩
theorem Aq [Q4] {w:World} {p:Nat} {ls:List QM} {l:List Q2} {v:Value} {q:List Z7} (h:q.map (·.2.2)=ls∧ls.length≤64∧∀ x∈ls,Vf x) (H:Q0 w (pts p (row 242 [v])::QC 102 4 v (VD q)::star (q.map YG)::l)):Q0 w (Qh p ls::l):=
 Q0.ex.2 ⟨(v,q),Q0.star.2 (Q0.prop.2 ⟨h,H⟩)⟩
theorem aY [Q4] {w:World} {fr:List Q2} (H:Q0 w fr):Calls Tryz.prog 82 #[] w (ret fun v w'=>∃ p,v=pp p∧Q0 w' (Qh p []::fr)):=by
 refine Q9 Tryz.func82 rfl (by kernel_rfl) ?_;refine Db H ?_;refine XH H ?_;clear H;intro b2 w H;refine J0 H ?_;have H:Q0 w (star (([]:List Z7).map YG)::pts b2 (row 242 [.slice none 0 0])::fr):=Q0.star.2 H;have H:=Z2 (E:=102) (k:=4) H;replace H:=Js [2,0,0] 0 H;exact Q3 (Jy (Aq (q:=[]) ⟨rfl,by simp,by simp⟩ H) rfl fun w' H'=>⟨_,rfl,H'⟩)
theorem aZ [Q4] (p:Nat) (ls:List QM) (vr vq:Value) (l:QM) (hR:Vf l) {w:World} {fr:List Q2} (hr:Ub fr vr vq l) (H:Q0 w (Qh p ls::fr)) :
  Calls Tryz.prog 87 #[pp p,Yy l.fixed vr l.record vq] w (ret fun x w'=>(ls.length=64∧x = .tuple #[.int .i64 0,.int .i64 5]∧Q0 w' (Qh p ls::fr)) ∨
   (ls.length < 64∧x = .tuple #[.int .i64 ((ls.length+1:Nat):Int),.int .i64 0]∧Q0 w' (Qh p (ls++[l])::fr))):=by
 obtain⟨_,ad1,cap1,rfl,hr1⟩:=id hr.r;obtain⟨_,ad2,cap2,rfl,hr2⟩:=id hr.q;obtain⟨v,q,⟨hq,hlen,hall⟩,H⟩:=I5 H;have hql:q.length=ls.length:=by rw[← hq,length_map]
 obtain⟨av,cv,rfl⟩:=QF H.drop (Rm q) (by decide);refine Q9 Tryz.func87 rfl (by kernel_rfl) ?_;refine J8 H ?_;clear H;intro b3 w H;refine KE H ?_;refine Y6 (fun ms σ w=>ms=[]∧ls.length < 64∧σ 0=pp p∧σ 3=pp b3∧Q0 w (pts b3 (row 102 [.int .i64 l.fixed,.slice ad1 l.refs.length cap1,.int .i64 l.record,.slice ad2 l.recs.length cap2])::pts p (row 242 [.slice av q.length cv])::QC 102 4 (.slice av q.length cv) (VD q)::star (q.map YG)::fr)) ?_ ?_
 ·refine RW H ?_;refine GJ H ?_;refine Jc rfl rfl (I3 _ _ l hR.small hr.there.there.there.there H) ?_;clear H;rintro v w ⟨⟨b,rfl,hb⟩,H⟩;obtain rfl:=hb.2 hR;refine KF H ?_;refine Dy H ?_;refine J3 H ?_;by_cases h64:q.length=64
  ·rw[show ((q.length:Int) == 64)=true by simp;omega];refine Yn H ?_;exact Q3 (.inr ⟨by simp,Jy (Aq ⟨hq,hlen,hall⟩ H.drop) rfl fun w' H' => .inl ⟨by omega,rfl,H'⟩⟩)
  ·rw[show ((q.length:Int) == 64)=false by simp;omega];refine V6 H ?_;exact .inl ⟨rfl,rfl,by omega,rfl,rfl,H⟩
 ·clear H;rintro ms σ w ⟨rfl,h64,g0,g3,H⟩;rw[Q1 g0,Q1 g3];refine J1 H ?_;clear H;intro w H;refine RJ H ?_;refine Jl 4 [8,11] H ?_;refine VP 5 [6,7,8,11] H rfl (Q8.none rfl) rfl (by repeat first|exact .nil _|apply QV.cons rfl) (by kernel_rfl) ?_;refine Jo 6 H ?_;refine Jk rfl rfl (Mt _ _ l hR.small hr.there.there.there.there H) ?_;clear H;rintro v w ⟨vr',vq',rfl,H⟩;obtain⟨a4,m4,c4,rfl⟩:=Qw H;obtain⟨a5,m5,c5,rfl⟩:=Qw H.swap
  refine Jo 7 H ?_;refine WU H ?_;clear H;intro b27 w H;replace H:=Js [5,0,3,0,0,1] 1 H;refine Jo 8 H ?_;refine YO H rfl rfl (by repeat first|exact .nil _|apply QV.cons rfl) rfl (by decide) (by rw[Rm];simp only[length_cons,length_nil];omega) rfl rfl ?_;clear H;intro v28 w H
  have e1:VD q++[.int .i64 l.fixed,.slice a4 m4 c4,.int .i64 l.record,.slice a5 m5 c5]=VD (q++[(.slice a4 m4 c4,.slice a5 m5 c5,l)]):=by
   rw[Mu];rfl
  rw[e1] at H;have hql':(q++[((.slice a4 m4 c4:Value),(.slice a5 m5 c5:Value),l)]).length=ls.length+1:=by simp[hql]
  obtain⟨a28,c28,rfl⟩:=QF H (m:=ls.length+1) (by rw[Rm,hql']) (by decide);refine Ja 9 ?_;refine Jf 10 ?_;refine Jo 11 H ?_;refine UQ H ?_;clear H;intro w H;refine Jx H ?_;refine Dy H ?_;refine J3 H ?_;replace H:=Js [2,0,1,1,1] 1 H
  have H1:Q0 w (star ((q++[((.slice a4 m4 c4:Value),(.slice a5 m5 c5:Value),l)]).map YG)::pts p (row 242 [.slice a28 (ls.length+1) c28])::QC 102 4 (.slice a28 (ls.length+1) c28) (VD (q++[(.slice a4 m4 c4,.slice a5 m5 c5,l)]))::fr):=by
   refine(Q0.pick (x:=((.slice a4 m4 c4:Value),(.slice a5 m5 c5:Value),l)) (g1:=q) (g2:=[]) rfl).2 ?_;rw[append_nil];refine Q0.star.2 ?_;replace H:=Js [2,2,2,0,0] 0 H;exact H
  replace H1:=Js [1,1,0] 0 H1
  have H2:=Aq (ls:=ls++[l]) (q:=q++[((.slice a4 m4 c4:Value),(.slice a5 m5 c5:Value),l)]) ⟨by rw[map_append,hq];rfl,by simp;omega,fun x hx=>by
   rcases mem_append.1 hx with hx|hx
   ·exact hall x hx
   ·simp at hx;subst hx;exact hR⟩ H1
  exact Q3 (Jy H2 rfl fun w' H' => .inr ⟨h64,rfl,H'⟩)
theorem aG [Q4] (p:Nat) (ls:List QM) (id:Int) (hid:id < 1∨(ls.length:Int) < id) {w:World} {fr:List Q2} (H:Q0 w (Qh p ls::fr)) :
  Calls Tryz.prog 88 #[pp p,.int .i64 id] w (ret fun x w'=>x = .tuple #[Yy 0 (.slice none 0 0) 0 (.slice none 0 0),.int .i64 6]∧Q0 w' (Qh p ls::fr)):=by
 obtain⟨v,q,⟨hq,hlen,hall⟩,H⟩:=I5 H;have hql:q.length=ls.length:=by rw[← hq,length_map]
 obtain⟨av,cv,rfl⟩:=QF H.drop (Rm q) (by decide);refine Q9 Tryz.func88 rfl (by kernel_rfl) ?_;refine Vp H ?_;clear H;intro b4 w H;refine YZ H ?_;refine Dz H ?_;by_cases h1:id < 1
 ·rw[show decide (id < 1)=true from decide_eq_true (by omega)];refine Bx H ?_;refine E0 H ?_;clear H;intro w H;refine J0 H ?_;exact Q3 (Jz H (fun w' H' => .cellN H' rfl (by repeat first|exact .nil _|apply QV.cons rfl) (.tmp .nil)) fun w' H'=>⟨rfl,Aq ⟨hq,hlen,hall⟩ H'.drop⟩)
 ·rw[show decide (id < 1)=false from decide_eq_false (by omega)];refine KN H ?_;rw[show decide (id > (q.length:Int))=true from decide_eq_true (by omega)];refine E0 H ?_;clear H;intro w H;refine J0 H ?_;exact Q3 (Jz H (fun w' H' => .cellN H' rfl (by repeat first|exact .nil _|apply QV.cons rfl) (.tmp .nil)) fun w' H'=>⟨rfl,Aq ⟨hq,hlen,hall⟩ H'.drop⟩)
theorem aX [Q4] (p:Nat) (ls:List QM) (k:Nat) (l:QM) (hk:ls[k]? = some l) {w:World} {fr:List Q2} (H:Q0 w (Qh p ls::fr)) :
  Calls Tryz.prog 88 #[pp p,.int .i64 ((k:Int)+1)] w (ret fun x w'=>∃ vr vq,x = .tuple #[Yy l.fixed vr l.record vq,.int .i64 0]∧Q0 w' (NL vr l.refs::NL vq l.recs::Qh p ls::fr)):=by
 obtain⟨v,q,⟨hq,hlen,hall⟩,H⟩:=I5 H;have hql:q.length=ls.length:=by rw[← hq,length_map]
 have hkl:k < ls.length:=(List.getElem?_eq_some_iff.1 hk).1;obtain⟨av,cv,rfl⟩:=QF H.drop (Rm q) (by decide);have hR:Vf l:=hall l (mem_of_getElem? hk)
 obtain⟨x,hx,hxl⟩:∃ x,q[k]? = some x∧x.2.2=l:=by
  rw[← hq,getElem?_map,Option.map_eq_some_iff] at hk;exact hk
 obtain⟨vr,vq,l'⟩:=x;obtain rfl:l'=l:=hxl;have hpick:q=q.take k++(vr,vq,l')::q.drop (k+1):=split_at hx;refine Q9 Tryz.func88 rfl (by kernel_rfl) ?_;refine Vp H ?_;clear H;intro b4 w H;refine YZ H ?_;refine Y6 (fun ms σ w=>ms=[]∧σ 0=pp p∧σ 1 = .int .i64 ((k:Int)+1)∧σ 4=pp b4∧Q0 w (pts b4 (row 102 [.int .i64 0,.slice none 0 0,.int .i64 0,.slice none 0 0])::pts p (row 242 [.slice av q.length cv])::QC 102 4 (.slice av q.length cv) (VD q)::star (q.map YG)::fr)) ?_ ?_
 ·refine Dz H ?_;rw[show decide ((k:Int)+1 < 1)=false from decide_eq_false (by omega)];refine KN H ?_;rw[show decide ((k:Int)+1 > (q.length:Int))=false from decide_eq_false (by omega)];refine WH H ?_;exact .inl ⟨rfl,rfl,rfl,rfl,rfl,H⟩
 ·clear H;rintro ms σ w ⟨rfl,g0,g1,g4,H⟩;rw[Q1 g0,Q1 g1,Q1 g4];replace H:=Js [3,2,0,0] 0 H;have H:=Q0.star.1 ((Q0.pick hpick).1 H);replace H:Q0 w (NL vr l'.refs::NL vq l'.recs::star ((q.take k++q.drop (k+1)).map YG)::QC 102 4 (.slice av q.length cv) (VD q)::pts b4 (row 102 [.int .i64 0,.slice none 0 0,.int .i64 0,.slice none 0 0])::pts p (row 242 [.slice av q.length cv])::fr):=H;obtain⟨ar,cr,rfl⟩:=QF H (QH _) (by decide);obtain⟨aq,cq,rfl⟩:=QF H.drop (QH _) (by decide);obtain⟨D1,H,hD1,hC1⟩:=sls_rd H (QH _) (by decide);obtain⟨D2,H,hD2,hC2⟩:=sls_rd H.swap (QH _) (by decide);replace H:=Js [3,0,0,0,0,0] 0 H;obtain⟨b,s,rfl,H,hclose⟩:=V5 H (by omega);refine GM H ?_;rw[Qb (x:=(k:Int)+1 - 1) (by omega) (by omega),show (k:Int)+1 - 1=(k:Int) by omega];refine Jd ?_;refine Q5 rfl (VN H rfl (I4 hx) rfl ?_);refine Jc rfl rfl (Mt _ _ l' hR.small ⟨(hD1 _).there.there,(hD2 _).there⟩ H) ?_;clear H;rintro v w ⟨vr',vq',rfl,H⟩;obtain⟨a4,m4,c4,rfl⟩:=Qw H;obtain⟨a5,m5,c5,rfl⟩:=Qw H.swap;refine J4 H ?_;clear H;intro w H;refine J0 H ?_;replace H:=Js [3,3,2,2,2,2,0,0] 0 H;replace H:=hC1 _ _ (hC2 _ _ H).swap;replace H:=Js [0,0,1,0,0,0,0,0] 0 H;replace H:Q0 w (star (q.map YG)::_):=(Q0.pick hpick).2 (Q0.star.2 H);replace H:=Js [1,1,2,2,1,0] 0 H;replace H:=hclose _ _ H;replace H:=Js [1,1,1,1,0,0] 0 H;exact Q3 (Jz H (fun w' H' => .cellN H' rfl (by repeat first|exact .nil _|apply QV.cons rfl) (.tmp .nil)) fun w' H'=>⟨_,_,rfl,(Aq (l:=NL (.slice a4 m4 c4) l'.refs::NL (.slice a5 m5 c5) l'.recs::fr) ⟨hq,hlen,hall⟩ (by have H':=H'.drop;replace H':=Q0.sel [2,2,2,0,0] 0 H';dsimp only[SL.sel,SL.pull,List.drop] at H';exact H')).sel [1,1,0] 0⟩)
def Z8 (l:List Nat) (x:Nat):Nat:=l.countP (· < x)
theorem aK (l:List Nat) (x:Nat):(l.map fun a:Nat=>(a:Int)).contains (x:Int)=decide (x∈l):=by
 induction l with
 | nil=>simp
 | cons a l ih=>
  rw[map_cons,contains_cons,ih];by_cases h:x=a
  ·subst h;simp
  ·have:((x:Int) == (a:Int))=false:=by simp;omega
   simp[this,h]
theorem aR (l:List Nat) (x:Nat):(l.map fun a:Nat=>(a:Int)).countP (· < (x:Int))=Z8 l x:=by
 unfold Z8;rw[countP_map];congr 1
 funext a
 simp
theorem Ar [Q4] (v:Value) (l:List Nat) (hl:l.length≤1000000) (hs:l.Pairwise (· < ·)) (x:Nat) {w:World} {fr:List Q2} (hr:Vu fr v l.length 1 (QW l)) (H:Q0 w fr) :
  Calls Tryz.prog 112 #[v,.int .i64 x] w (ret fun r w'=>r = .tuple #[.int .i64 (Z8 l x:Nat),.bool (decide (x∈l))]∧Q0 w' fr):=by
 obtain⟨_,ad,cap,rfl,hr'⟩:=id hr;by_cases h0:l=[]
 ·subst h0;refine Q9 Tryz.func112 rfl (by kernel_rfl) ?_;refine J5 H ?_;refine UV H ?_;refine By H ?_;refine QP ?_;refine Ql (fun ms σ w q=>ms=[]∧σ 6 = .int .i64 0∧σ 7 = .int .i64 0∧σ 8 = .int .i64 0∧Q0 w fr) (m:=0) ⟨rfl,rfl,rfl,rfl,H⟩ ?_;clear H;rintro ms σ w q ⟨rfl,g6,g7,g8,H⟩;rw[Q1 g6,Q1 g7,Q1 g8];refine By H ?_;refine KJ H ?_;refine J9 H ?_;refine AA H ?_;refine Bs H ?_;refine RH H ?_;refine RH H ?_;refine RH H ?_;refine Dt H ?_;refine YP H ?_;refine J0 H ?_;exact Q3 (Jy H rfl fun w' H'=>⟨rfl,H'⟩)
 ·rcases hr' with h|⟨b,o,E,fz,c,rfl,hA,hrd⟩
  ·exact absurd (eq_nil_of_length_eq_zero h) h0
  haveI:=hA
  have hc:∀ j,j < l.length→w.cell? ⟨b,o+j,none⟩=some (.int .i64 (l.getD j 0)):=fun j hj=>by
   refine Zo H.at ?_;rw[Nat.mul_one] at hrd;refine hrd.get j _ ?_;simp[QW,hj]
  have e1:∀ j,(l.map fun a:Nat=>(a:Int)).getD j 0=((l.getD j 0:Nat):Int):=fun j=>by
   simp only[getD_eq_getElem?_getD,getElem?_map];cases l[j]? <;> rfl
  have e2:(l.map fun a:Nat=>(a:Int)).take l.length=l.map fun a:Nat=>(a:Int):=take_of_length_le (by simp);refine(Any.slices_BinarySearch_int Tryz.laysBs b o l.length cap (l.map fun a:Nat=>(a:Int)) x w (by simp) (by omega) (fun j hj=>by rw[hc j (by simpa using hj),e1]) ?_).mono ?_
  ·rw[e2];refine List.Pairwise.map _ (fun a b h=>?_) hs;omega
  ·rintro e w' ⟨rfl,q,rfl⟩;refine⟨?_,H.heap rfl⟩;rw[e2,aK,aR]
theorem aW [Q4] (vr vq:Value) (l:QM) (hR:Vf l) (count:Int) (place:Int) {n:Nat} (hz:VG l count=(n,0)) (hp:place < 0∨(n:Int)≤place) {w:World} {fr:List Q2} (hr:Ub fr vr vq l) (H:Q0 w fr) :
  Calls Tryz.prog 204 #[Yy l.fixed vr l.record vq,.int .i64 count,.int .i64 place] w (ret fun x w'=>x = .tuple #[.bool false,.int .i64 3]∧Q0 w' fr):=by
 obtain⟨_,ad1,cap1,rfl,hr1⟩:=id hr.r;obtain⟨_,ad2,cap2,rfl,hr2⟩:=id hr.q;refine Q9 Tryz.func204 rfl (by kernel_rfl) ?_;refine J8 H ?_;clear H;intro b3 w H;refine J3 H ?_;refine AD H ?_;refine Jc rfl rfl (CC _ _ l hR count hr.there H) ?_;clear H;rintro v w ⟨rfl,H⟩;rw[hz];refine WC H ?_;refine QP ?_;refine AE H ?_;by_cases h1:place < 0
 ·rw[show decide (place < 0)=true from decide_eq_true (by omega)];refine Dr H ?_;refine J3 H ?_;refine Yn H ?_;exact Q3 (Jy H.drop rfl fun w' H'=>⟨rfl,H'⟩)
 ·rw[show decide (place < 0)=false from decide_eq_false (by omega)];refine WJ H ?_;rw[show decide (place≥(n:Int))=true from decide_eq_true (by omega)];refine J3 H ?_;refine Yn H ?_;exact Q3 (Jy H.drop rfl fun w' H'=>⟨rfl,H'⟩)
theorem aB [Q4] (vr vq:Value) (l:QM) (hR:Vf l) (count:Int) (p:Nat) {n:Nat} (hz:VG l count=(n,0)) (hp:p < n) {w:World} {fr:List Q2} (hr:Ub fr vr vq l) (H:Q0 w fr) :
  Calls Tryz.prog 204 #[Yy l.fixed vr l.record vq,.int .i64 count,.int .i64 p] w (ret fun x w'=>x = .tuple #[.bool (VU l p),.int .i64 0]∧Q0 w' fr):=by
 have hsm:=hR.small;obtain⟨z1,z2,z3,z4,z5⟩:=I2 hz;obtain⟨_,ad1,cap1,rfl,hr1⟩:=id hr.r;obtain⟨_,ad2,cap2,rfl,hr2⟩:=id hr.q;refine Q9 Tryz.func204 rfl (by kernel_rfl) ?_;refine J8 H ?_;clear H;intro b3 w H;refine J3 H ?_;refine AD H ?_;refine Jc rfl rfl (CC _ _ l hR count hr.there H) ?_;clear H;rintro v w ⟨rfl,H⟩;rw[hz];refine WC H ?_;refine Y6 (fun ms σ w=>ms=[]∧σ 2 = .int .i64 p∧σ 3=pp b3∧Q0 w (pts b3 (row 102 [.int .i64 l.fixed,.slice ad1 l.refs.length cap1,.int .i64 l.record,.slice ad2 l.recs.length cap2])::fr)) ?_ ?_
 ·refine QP ?_;refine AE H ?_;rw[show decide ((p:Int) < 0)=false from decide_eq_false (by omega)];refine WJ H ?_;rw[show decide ((p:Int)≥(n:Int))=false from decide_eq_false (by omega)];refine WH H ?_;exact .inl ⟨rfl,rfl,rfl,rfl,H⟩
 ·clear H;rintro ms σ w ⟨rfl,g2,g3,H⟩;rw[Q1 g2,Q1 g3];refine De H ?_;refine AY H ?_;refine ZB H ?_;refine J0 H ?_;by_cases h1:p < l.fixed
  ·rw[show decide ((p:Int)≥(l.fixed:Int))=false from decide_eq_false (by omega)];refine AF H ?_;refine Jc rfl rfl (Ar _ l.refs hsm.a hR.2.2.2.1.2 p hr.r.there H) ?_;clear H;rintro v w ⟨rfl,H⟩;refine Zs H ?_;refine VX H ?_;exact Q3 (Jy H.drop rfl fun w' H'=>⟨by unfold VU;rw[if_pos h1];rfl,H'⟩)
  ·have hrec:l.record≠0:=by
    intro h0;rw[h0] at z3;omega
   have e1:IntKind.i64.wrap ((p:Int) - (l.fixed:Int))=((p - l.fixed:Nat):Int):=by rw[Qb (by omega) (by omega)];omega
   rw[show decide ((p:Int)≥(l.fixed:Int))=true from decide_eq_true (by omega)];refine J6 H ?_;refine Qo (fun ms σ w=>ms=[]∧σ 10 = .slice ad2 l.recs.length cap2∧σ 11 = .int .i64 (((p - l.fixed) % l.record:Nat):Int)∧Q0 w (pts b3 (row 102 [.int .i64 l.fixed,.slice ad1 l.refs.length cap1,.int .i64 l.record,.slice ad2 l.recs.length cap2])::fr)) ?_ ?_
   ·refine Vh rfl ?_;refine J1 H ?_;clear H;intro w H;refine RX H ?_;refine Jf 3 ?_;refine Jl 4 [] H ?_;refine Ja 5 ?_;refine Jf 6 ?_;refine Jl 7 [] H ?_;rw[e1]
    refine GC (v := .int .i64 (((p - l.fixed) % l.record:Nat):Int)) 8 rfl (Q8.none rfl) (by
     show (if IntKind.i64=IntKind.i64 then (if (l.record:Int)=0 then none else some (Value.int .i64 (Int.tmod ((p - l.fixed:Nat):Int) (l.record:Int)))) else none)=_;rw[if_pos rfl,if_neg (by omega),Int.tmod_eq_emod_of_nonneg (by omega),Int.natCast_emod]) (by kernel_rfl) ?_
    refine Ja 9 ?_;refine WX H ?_;exact⟨rfl,rfl,rfl,rfl,H⟩
   ·clear H;rintro ms σ w ⟨rfl,g10,g11,H⟩;rw[Q1 g10,Q1 g11];refine J9 H ?_;refine Jc rfl rfl (Ar _ l.recs hsm.b hR.2.2.2.2.2 _ hr.q.there H) ?_;clear H;rintro v w ⟨rfl,H⟩;refine Zs H ?_;refine VX H ?_;exact Q3 (Jy H.drop rfl fun w' H'=>⟨by unfold VU;rw[if_neg h1];rfl,H'⟩)
theorem Mw [Q4] (v:Value) (l:List Nat) (size:Nat) (hl:l.length≤1000000) {w:World} {fr:List Q2} (hr:Vu fr v l.length 1 (QW l)) (H:Q0 w fr) :
  Calls Tryz.prog 262 #[v,.int .i64 size] w (ret fun x w'=>(∃ b,x = .bool b∧(b=true↔X0 l size))∧Q0 w' fr):=by
 obtain⟨_,ad,cap,rfl,hr⟩:=hr;refine Q9 Tryz.func262 rfl (by kernel_rfl) ?_;refine E1 H ?_;refine Ql (fun ms σ w q=>ms=[]∧∃ (i:Nat) (t:Int),i≤l.length∧q=l.length - i∧X0 (l.take i) size∧((i=0∧t = -1)∨∃ y:Nat,(l.take i).getLast? = some y∧t=y)∧σ 0 = .slice ad l.length cap∧σ 1 = .int .i64 size∧σ 5 = .int .i64 t∧σ 6 = .int .i64 i∧Q0 w fr) (m:=l.length) ⟨rfl,0,-1,by omega,rfl,⟨by simp,by simp⟩,.inl ⟨rfl,rfl⟩,rfl,rfl,rfl,rfl,H⟩ ?_;clear H;rintro ms σ w q ⟨rfl,i,t,hi,rfl,hR,ht,g0,g1,g5,g6,H⟩;rw[Q1 g0,Q1 g1,Q1 g5,Q1 g6];refine KO H ?_;refine Qk rfl (fun h=>QB ?_) (fun h=>Qq ?_)
 ·have hlt:i < l.length:=by omega
  have hx:=getElem?_eq_getElem hlt;have htk:l.take (i+1)=l.take i++[l[i]]:=by rw[take_add_one,hx];rfl
  have hmem:l[i]∈l:=getElem_mem hlt;have hlast:(l.take (i+1)).getLast? = some l[i]:=by rw[htk,getLast?_concat]
  have hbad:∀ y:Nat,(l.take i).getLast? = some y→l.Pairwise (· < ·)→y < l[i]:=fun y hy hp=>by
   have hi0:0 < i:=by
    rcases Nat.eq_zero_or_pos i with h0|h0
    ·subst h0;simp at hy
    ·exact h0
   rw[getLast?_eq_getElem?,length_take,Nat.min_eq_left hi,getElem?_take_of_lt (by omega),getElem?_eq_getElem (by omega)] at hy;have:=pairwise_iff_getElem.1 hp (i - 1) i (by omega) hlt (by omega);injection hy with hy
   omega
  generalize l[i]=x at hx htk hmem hlast hbad
  rcases hr with hr|⟨b,o,E,fz,c,rfl,hA,hrd⟩
  ·omega
  haveI:=hA
  have hcell:c[o+i*1]? = some (.int .i64 x):=by
   rw[Nat.mul_one];exact hrd.get i _ (by simp[QW,hx])
  refine Xw H ?_;refine Jd ?_;refine Q5 rfl (QR H rfl hcell rfl ?_);refine YP H ?_;by_cases h1:(x:Int)≤t
  ·rw[show decide ((x:Int)≤t)=true from decide_eq_true (by omega)];refine E2 H ?_;refine Bu H ?_;refine UO H ?_;refine Q3 (Jy H rfl fun w' H'=>⟨⟨false,rfl,⟨fun h=>(by cases h),fun h=>?_⟩⟩,H'⟩)
   rcases ht with ⟨_,rfl⟩|⟨y,hy,rfl⟩
   ·omega
   ·have:=hbad y hy h.2;omega
  ·rw[show decide ((x:Int)≤t)=false from decide_eq_false (by omega)];refine Uu H ?_;refine QT rfl rfl rfl (GF rfl rfl (by omega) (by omega) rfl ?_);refine QT rfl rfl rfl (QR H rfl hcell rfl ?_);refine Zr H ?_;by_cases h2:x < size
   ·rw[show decide ((x:Int)≥(size:Int))=false from decide_eq_false (by omega)];refine Y7 H ?_;refine J9 H ?_;refine Jd ?_;refine Q5 rfl (QR H rfl hcell rfl ?_);refine Bz H ?_;refine⟨_,⟨rfl,i+1,x,hlt,rfl,?_,.inr ⟨x,hlast,rfl⟩,rfl,rfl,rfl,Qc (by omega),H⟩,by omega⟩;rw[htk];refine⟨fun p hp=>?_,Mr hR.2 fun z hz=>?_⟩
    ·simp at hp
     rcases hp with hp|rfl
     ·exact hR.1 p hp
     ·exact h2
    ·rcases ht with ⟨rfl,rfl⟩|⟨y,hy,rfl⟩
     ·simp at hz
     ·rw[hy] at hz;cases hz;omega
   ·rw[show decide ((x:Int)≥(size:Int))=true from decide_eq_true (by omega)];refine UO H ?_;refine Q3 (Jy H rfl fun w' H'=>⟨⟨false,rfl,⟨fun h=>(by cases h),fun h=>?_⟩⟩,H'⟩);exact absurd (h.1 x hmem) h2
 ·have hge:i=l.length:=by omega
  subst hge;rw[take_length] at hR;refine VB H ?_;exact Q3 (Jy H rfl fun w' H'=>⟨⟨true,rfl,by simp[hR]⟩,H'⟩)
theorem Mx [Q4] (v:Value) (l:List Nat) (x:Nat) (hl:l.length≤1000000) {w:World} {fr:List Q2} (hr:Vu fr v l.length 1 (QW l)) (H:Q0 w fr) :
  Calls Tryz.prog 105 #[v,.int .i64 x] w (ret fun r w'=>r = .bool (decide (x∈l))∧Q0 w' fr):=by
 obtain⟨_,ad,cap,rfl,hr⟩:=hr;refine Q9 Tryz.func105 rfl (by kernel_rfl) ?_;refine HL H ?_;refine Ql (fun ms σ w q=>ms=[]∧∃ i:Nat,i≤l.length∧q=l.length - i∧x∉l.take i∧σ 0 = .slice ad l.length cap∧σ 1 = .int .i64 x∧σ 5 = .int .i64 i∧Q0 w fr) (m:=l.length) ⟨rfl,0,by omega,rfl,by simp,rfl,rfl,rfl,H⟩ ?_;clear H;rintro ms σ w q ⟨rfl,i,hi,rfl,hn,g0,g1,g5,H⟩;rw[Q1 g0,Q1 g1,Q1 g5];refine KO H ?_;refine Qk rfl (fun h=>QB ?_) (fun h=>Qq ?_)
 ·have hlt:i < l.length:=by omega
  have hx:=getElem?_eq_getElem hlt;have htk:l.take (i+1)=l.take i++[l[i]]:=by rw[take_add_one,hx];rfl
  have hmem:l[i]∈l:=getElem_mem hlt;generalize l[i]=y at hx htk hmem
  rcases hr with hr|⟨b,o,E,fz,c,rfl,hA,hrd⟩
  ·omega
  haveI:=hA
  have hcell:c[o+i*1]? = some (.int .i64 y):=by
   rw[Nat.mul_one];exact hrd.get i _ (by simp[QW,hx])
  refine Xw H ?_;refine Jd ?_;refine Q5 rfl (QR H rfl hcell rfl ?_);refine J3 H ?_;by_cases h1:y=x
  ·subst h1;rw[show ((y:Int) == (y:Int))=true by simp];refine YD H ?_;exact Q3 (Jy H rfl fun w' H'=>⟨by rw[decide_eq_true hmem];rfl,H'⟩)
  ·rw[show ((y:Int) == (x:Int))=false by simp;omega];refine AC H ?_;refine⟨_,⟨rfl,i+1,hlt,rfl,?_,rfl,rfl,Qc (by omega),H⟩,by omega⟩;rw[htk];simp only[mem_append,mem_singleton];rintro(h|h)
   ·exact hn h
   ·exact h1 h.symm
 ·have hge:i=l.length:=by omega
  subst hge;rw[take_length] at hn;refine VB H ?_;exact Q3 (Jy H rfl fun w' H'=>⟨by rw[decide_eq_false hn];rfl,H'⟩)
theorem CF [Q4] (x:Nat) (hx:x < 18446744073709551616) {w:World} {fr:List Q2} (H:Q0 w fr) :
  Calls Tryz.prog 253 #[.int .u64 x] w (ret fun v w'=>Q0 w' (NL v (Ve x 64)::fr)):=by
 refine Q9 Tryz.func253 rfl (by kernel_rfl) ?_;refine E1 H ?_;refine Ql (fun ms σ w n=>ms=[]∧∃ (k:Nat) (g:Value),k≤64∧n=64 - k∧σ 0 = .int .u64 ((x / 2 ^ k:Nat):Int)∧σ 3=g∧σ 4 = .int .i64 k∧Q0 w (NL g (Ve x k)::fr)) (m:=64) ⟨rfl,0,_,by omega,rfl,by simp;rfl,rfl,rfl,Z2 H⟩ ?_;clear H;rintro ms σ w n ⟨rfl,k,g,hk,rfl,g0,g3,g4,H⟩;obtain⟨ag,mg,cg,rfl⟩:=Qw H;rw[Q1 g0,Q1 g3,Q1 g4];refine J5 H ?_;by_cases h64:k < 64
 ·rw[show decide ((k:Int) < 64)=true from decide_eq_true (by omega)];refine J6 H ?_;refine Xv H ?_;have hdle:x / 2 ^ k≤x:=Nat.div_le_self _ _;have hbit:x.testBit k=decide (x / 2 ^ k % 2=1):=Nat.testBit_eq_decide_div_mod_eq;have hnext:x / 2 ^ (k+1)=x / 2 ^ k / 2:=by rw[Nat.pow_succ,Nat.div_div_eq_div_mul]
  generalize hy:x / 2 ^ k=y at hdle hbit hnext;have hrem:Int.tmod (y:Int) 2=((y % 2:Nat):Int):=by rw[Int.tmod_eq_emod_of_nonneg (by omega)];omega
  have hquo:IntKind.u64.wrap (Int.tdiv (y:Int) 2)=((y / 2:Nat):Int):=by
   rw[Int.tdiv_eq_ediv_of_nonneg (by omega),show (y:Int) / 2=((y / 2:Nat):Int) by omega,UH (by omega)]
  refine Xw H ?_;rw[hrem];refine YZ H ?_;refine Qo (fun ms σ w=>ms=[]∧∃ g:Value,σ 0 = .int .u64 y∧σ 3=g∧σ 4 = .int .i64 k∧Q0 w (NL g (Ve x (k+1))::fr)) ?_ ?_
  ·by_cases h1:y % 2=1
   ·have e2:Ve x (k+1)=Ve x k++[k]:=by rw[Ev,hbit,decide_eq_true h1];rfl
    rw[show (((y % 2:Nat):Int) == 1)=true by simp;omega];refine Vh rfl ?_;refine E3 H ?_;clear H;intro b14 w H;refine Q5 rfl (YO H.swap rfl rfl (by repeat first|exact .nil _|apply QV.cons rfl) rfl (by decide) (by rw[QH];have:=Ao x k;simp only[length_cons,length_nil];omega) rfl rfl ?_);clear H;intro v15 w H;obtain⟨a15,m15,c15,rfl⟩:=Qw H;refine J0 H ?_;refine⟨rfl,rfl,_,rfl,rfl,rfl,?_⟩;rw[e2];show Q0 w (QC _ 1 _ (QW (Ve x k++[k]))::_);rw[WT];exact Q0.drop H.swap
   ·have e2:Ve x (k+1)=Ve x k:=by rw[Ev,hbit,decide_eq_false h1];simp
    rw[show (((y % 2:Nat):Int) == 1)=false by simp;omega];refine VF rfl (QB ?_);exact⟨rfl,rfl,_,rfl,rfl,rfl,by rw[e2];exact H⟩
  ·clear H;rintro ms σ w ⟨rfl,g,g0,g3,g4,H⟩;obtain⟨ag,mg,cg,rfl⟩:=Qw H;rw[Q1 g0,Q1 g3,Q1 g4];refine J9 H ?_;rw[hquo];refine Bz H ?_;exact⟨_,⟨rfl,k+1,_,h64,rfl,by rw[hnext];rfl,rfl,Qc (by omega),H⟩,by omega⟩
 ·have hk64:k=64:=by omega
  subst hk64;rw[show decide (((64:Nat):Int) < 64)=false from rfl];refine J6 H ?_;refine KJ H ?_;refine J5 H ?_;exact Q3 (Jy H rfl fun w' H'=>H')
theorem My [Q4] (vr vq:Value) (l:QM) (hs:Ew l) {w:World} {fr:List Q2} (hr:Ub fr vr vq l) (H:Q0 w fr) :
  Calls Tryz.prog 254 #[Yy l.fixed vr l.record vq] w (ret fun x w'=>(∃ b,x = .bool b∧(b=true↔Vf l))∧Q0 w' fr):=by
 obtain⟨s1,s2,s3,s4⟩:=hs;obtain⟨hr1,hr2⟩:=hr;obtain⟨_,ad1,cap1,rfl,hr1'⟩:=id hr1;obtain⟨_,ad2,cap2,rfl,hr2'⟩:=id hr2;refine Q9 Tryz.func254 rfl (by kernel_rfl) ?_;refine J8 H ?_;clear H;intro b1 w H;refine J0 H ?_;refine Xq H ?_;rw[show decide ((l.fixed:Int) < 0)=false from decide_eq_false (by omega)];refine A8 H ?_;by_cases h1:l.fixed≤64
 ·rw[show decide ((l.fixed:Int) > 64)=false from decide_eq_false (by omega)];refine Bc H ?_;rw[show decide ((l.record:Int) < 0)=false from decide_eq_false (by omega)];refine Bc H ?_;by_cases h2:l.record≤64
  ·rw[show decide ((l.record:Int) > 64)=false from decide_eq_false (by omega)];refine Y7 H ?_;refine Du H ?_;refine Jc rfl rfl (Mw _ l.refs l.fixed s3 hr1.there H) ?_;clear H;rintro v w ⟨⟨b,rfl,hb⟩,H⟩;refine WK H ?_;refine ZB H ?_;refine Jc rfl rfl (Mw _ l.recs l.record s4 hr2.there H) ?_;clear H;rintro v w ⟨⟨c,rfl,hc⟩,H⟩;refine J0 H ?_
   have key:(b=true∧c=true∧l.fixed+l.record≠0)↔Vf l:=by
    rw[hb,hc];exact⟨fun h=>⟨h1,h2,h.2.2,h.1,h.2.1⟩,fun h=>⟨h.2.2.2.1,h.2.2.2.2,h.2.2.1⟩⟩
   cases b with
   | false=>
    refine J9 H ?_;refine Qm rfl rfl rfl ?_;refine XI H ?_;refine Dw H ?_;exact Q3 (Jy H.drop rfl fun w' H'=>⟨⟨false,rfl,⟨fun h=>(by cases h),fun h=>(by have:=(key.2 h).1;cases this)⟩⟩,H'⟩)
   | true=>
    cases c with
    | false=>
     refine J9 H ?_;refine Ym H ?_;refine XI H ?_;refine Dw H ?_;exact Q3 (Jy H.drop rfl fun w' H'=>⟨⟨false,rfl,⟨fun h=>(by cases h),fun h=>(by have:=(key.2 h).2.1;cases this)⟩⟩,H'⟩)
    | true=>
     refine J9 H ?_;refine Ym H ?_;refine Bc H ?_;by_cases h3:l.fixed > 0
     ·rw[show decide ((l.fixed:Int) > 0)=true from decide_eq_true (by omega)];refine Ym H ?_;refine KL H ?_;refine Xs H ?_;exact Q3 (Jy H.drop rfl fun w' H'=>⟨⟨true,rfl,⟨fun _=>key.1 ⟨rfl,rfl,by omega⟩,fun _=>rfl⟩⟩,H'⟩)
     ·rw[show decide ((l.fixed:Int) > 0)=false from decide_eq_false (by omega)];refine Bv H ?_;by_cases h4:l.record > 0
      ·rw[show decide ((l.record:Int) > 0)=true from decide_eq_true (by omega)];refine Xs H ?_;exact Q3 (Jy H.drop rfl fun w' H'=>⟨⟨true,rfl,⟨fun _=>key.1 ⟨rfl,rfl,by omega⟩,fun _=>rfl⟩⟩,H'⟩)
      ·rw[show decide ((l.record:Int) > 0)=false from decide_eq_false (by omega)];refine Xs H ?_;exact Q3 (Jy H.drop rfl fun w' H'=>⟨⟨false,rfl,⟨fun h=>(by cases h),fun h=>(by have:=(key.2 h).2.2;omega)⟩⟩,H'⟩)
  ·rw[show decide ((l.record:Int) > 64)=true from decide_eq_true (by omega)];refine UO H ?_;exact Q3 (Jy H.drop rfl fun w' H'=>⟨⟨false,rfl,⟨fun h=>(by cases h),fun h=>(by unfold Vf at h;omega)⟩⟩,H'⟩)
 ·rw[show decide ((l.fixed:Int) > 64)=true from decide_eq_true (by omega)];refine Dv H ?_;refine Dv H ?_;refine UO H ?_;exact Q3 (Jy H.drop rfl fun w' H'=>⟨⟨false,rfl,⟨fun h=>(by cases h),fun h=>(by unfold Vf at h;omega)⟩⟩,H'⟩)
theorem aC [Q4] (vr vq:Value) (l:QM) (hR:Vf l) (count:Int) {w:World} {fr:List Q2} (hr:Ub fr vr vq l) (H:Q0 w fr) :
  Calls Tryz.prog 255 #[Yy l.fixed vr l.record vq,.int .i64 count] w (ret fun x w'=>x = .tuple #[.int .i64 ((VG l count).1:Nat),.int .i64 ((VG l count).2:Nat)]∧Q0 w' fr):=by
 have hf:=hR.1;have hc:=hR.2.1;obtain⟨_,ad1,cap1,rfl,hr1⟩:=id hr.r;obtain⟨_,ad2,cap2,rfl,hr2⟩:=id hr.q;refine Q9 Tryz.func255 rfl (by kernel_rfl) ?_;refine J8 H ?_;clear H;intro b2 w H;refine J3 H ?_;refine GJ H ?_;refine Jc rfl rfl (My _ _ l hR.small hr.there H) ?_;clear H;rintro v w ⟨⟨b,rfl,hb⟩,H⟩;obtain rfl:=hb.2 hR;refine Yv H ?_;refine J6 H ?_;refine Qo (fun ms σ w=>ms=[]∧(∃ q,σ 26 = .bool q∧(q=true↔(count < 0∨count > 1024∨(count > 0∧l.record=0))))∧σ 1 = .int .i64 count∧σ 2=pp b2∧Q0 w (pts b2 (row 102 [.int .i64 l.fixed,.slice ad1 l.refs.length cap1,.int .i64 l.record,.slice ad2 l.recs.length cap2])::fr)) ?_ ?_
 ·refine J9 H ?_;by_cases c0:count < 0
  ·rw[show decide (count < 0)=true from decide_eq_true (by omega)];refine Jv ?_;refine C0 H ?_;refine RH H ?_;refine Qm rfl rfl rfl ?_;refine J0 H ?_;exact⟨rfl,rfl,⟨true,rfl,by simp[c0]⟩,rfl,rfl,H⟩
  ·rw[show decide (count < 0)=false from decide_eq_false (by omega)];refine Uu H ?_;by_cases c1:count > 1024
   ·rw[show decide (count > 1024)=true from decide_eq_true (by omega)];refine XI H ?_;refine RH H ?_;refine Qm rfl rfl rfl ?_;refine J0 H ?_;exact⟨rfl,rfl,⟨true,rfl,by simp[c1]⟩,rfl,rfl,H⟩
   ·rw[show decide (count > 1024)=false from decide_eq_false (by omega)];refine Bc H ?_;by_cases c3:l.record=0
    ·rw[show ((l.record:Int) == 0)=true by simp;omega];refine XD H ?_;by_cases c2:count > 0
     ·rw[show decide (count > 0)=true from decide_eq_true (by omega)];refine Dj H ?_;exact⟨rfl,rfl,⟨true,rfl,by simp[c2,c3]⟩,rfl,rfl,H⟩
     ·rw[show decide (count > 0)=false from decide_eq_false (by omega)];refine Dj H ?_;exact⟨rfl,rfl,⟨false,rfl,by simp only[Bool.false_eq_true,false_iff];omega⟩,rfl,rfl,H⟩
    ·rw[show ((l.record:Int) == 0)=false by simp;omega];refine Ym H ?_;refine Bu H ?_;refine Dj H ?_;exact⟨rfl,rfl,⟨false,rfl,by simp only[Bool.false_eq_true,false_iff];omega⟩,rfl,rfl,H⟩
 clear H;rintro ms σ w ⟨rfl,⟨q,g26,hq⟩,g1,g2,H⟩;rw[Q1 g26,Q1 g1,Q1 g2];cases q with
 | true=>
  have hs:VG l count=(0,3):=by unfold VG;rw[if_pos (hq.1 rfl)]
  refine Yn H ?_;exact Q3 (Jy H.drop rfl fun w' H'=>⟨by rw[hs];rfl,H'⟩)
 | false=>
  have hq':¬ (count < 0∨count > 1024∨(count > 0∧l.record=0)):=fun h=>by have:=hq.2 h;cases this
  obtain⟨c,rfl⟩:∃ c:Nat,count=c:=⟨count.toNat,by omega⟩;have hcm:c*l.record≤1024*64:=Nat.mul_le_mul (by omega) hc;have hcm2:(l.record:Int)*(c:Int)=((c*l.record:Nat):Int):=by rw[Int.natCast_mul,Int.mul_comm]
  refine V6 H ?_;refine Du H ?_;refine AH H ?_;refine VX H ?_;rw[hcm2,Qb (x:=((c*l.record:Nat):Int)) (by omega) (by omega),Qb (x:=(l.fixed:Int)+((c*l.record:Nat):Int)) (by omega) (by omega),Qb (x:=(l.fixed:Int)+((c*l.record:Nat):Int)+1) (by omega) (by omega)];by_cases c3:l.fixed+c*l.record≥8192
  ·have hs:VG l (c:Int)=(0,10):=by unfold VG;rw[if_neg hq',if_pos (by simpa using c3)]
   rw[show decide ((l.fixed:Int)+((c*l.record:Nat):Int)+1 > 8192)=true from decide_eq_true (by omega)];refine Yn H ?_;exact Q3 (Jy H.drop rfl fun w' H'=>⟨by rw[hs];rfl,H'⟩)
  ·have hs:VG l (c:Int)=(l.fixed+c*l.record,0):=by unfold VG;rw[if_neg hq',if_neg (by simpa using c3)];simp
   rw[show decide ((l.fixed:Int)+((c*l.record:Nat):Int)+1 > 8192)=false from decide_eq_false (by omega)];refine AC H ?_;exact Q3 (Jy H.drop rfl fun w' H'=>⟨by rw[hs];show Value.tuple #[.int .i64 ((l.fixed:Int)+((c*l.record:Nat):Int)),_]=_;rw[← Int.natCast_add];rfl,H'⟩)
theorem aD [Q4] (vr vq:Value) (l:QM) (hR:Vf l) (p:Nat) (hp:l.record≠0∨p < l.fixed) (hp2:p < 1000000) {w:World} {fr:List Q2} (hr:Ub fr vr vq l) (H:Q0 w fr) :
  Calls Tryz.prog 39 #[Yy l.fixed vr l.record vq,.int .i64 p] w (ret fun x w'=>x = .bool (VU l p)∧Q0 w' fr):=by
 have hsm:=hR.small;obtain⟨_,ad1,cap1,rfl,hr1⟩:=id hr.r;obtain⟨_,ad2,cap2,rfl,hr2⟩:=id hr.q;refine Q9 Tryz.func39 rfl (by kernel_rfl) ?_;refine J8 H ?_;clear H;intro b2 w H;refine AY H ?_;refine ZB H ?_;refine J0 H ?_;by_cases h1:p < l.fixed
 ·rw[show decide ((p:Int) < (l.fixed:Int))=true from decide_eq_true (by omega)];refine VM H ?_;refine Xq H ?_;refine Jc rfl rfl (Mx _ l.refs p hsm.a hr.r.there H) ?_;clear H;rintro v w ⟨rfl,H⟩;refine J0 H ?_;exact Q3 (Jy H.drop rfl fun w' H'=>⟨by unfold VU;rw[if_pos h1];rfl,H'⟩)
 ·have e1:IntKind.i64.wrap ((p:Int) - (l.fixed:Int))=((p - l.fixed:Nat):Int):=by rw[Qb (by omega) (by omega)];omega
  rw[show decide ((p:Int) < (l.fixed:Int))=false from decide_eq_false (by omega)];refine C1 H ?_;clear H;intro w H;refine Jf 0 ?_;refine Jl 1 [9] H ?_;refine Ja 2 ?_;refine Jf 3 ?_;refine Jl 4 [9] H ?_;refine Ja 5 ?_;refine Jf 6 ?_;refine Jl 7 [9] H ?_;rw[e1]
  refine GC (v := .int .i64 (((p - l.fixed) % l.record:Nat):Int)) 8 rfl (Q8.none rfl) (by
   show (if IntKind.i64=IntKind.i64 then (if (l.record:Int)=0 then none else some (Value.int .i64 (Int.tmod ((p - l.fixed:Nat):Int) (l.record:Int)))) else none)=_;rw[if_pos rfl,if_neg (by omega),Int.tmod_eq_emod_of_nonneg (by omega),Int.natCast_emod]) (by kernel_rfl) ?_
  refine Jo 9 H ?_;refine Jk rfl rfl (Mx _ l.recs _ hsm.b hr.q.there H) ?_;clear H;rintro v w ⟨rfl,H⟩;refine WX H ?_;exact Q3 (Jy H.drop rfl fun w' H'=>⟨by unfold VU;rw[if_neg h1];rfl,H'⟩)
abbrev Rf:=Int×Int
theorem Rn:GD Tryz.prog 133 kp:=Lt inferInstance
theorem VC:GD Tryz.prog 3 (ki .i64):=SO inferInstance
@[reducible] def vm:Nat→Value:=fun b => .map (some b)
@[reducible] def v1:Int→Value:=fun x => .int .i64 x
@[reducible] def rf (r:Rf):Value := .agg #[.int .i64 r.1,.int .i64 r.2]
structure Gr where
 key:Int
 blk:Nat
 m:List (Rf×Int)
@[reducible] def Ro (g:Gr):Q2:=mp kp v1 g.blk g.m
@[reducible] def Zu (g:Gr):Int×Nat:=(g.key,g.blk)
def mem (G:List Gr) (k:Int) (r:Rf):Prop:=∃ g∈G,g.key=k∧r∈g.m.map (·.1)
def Uc (bo:Nat) (S:Int→Rf→Prop):Q2:=ex fun G=>star [prop (∀ k r,mem G k r↔S k r),mp (ki .i64) vm bo (G.map Zu),star (G.map Ro)]
theorem Ey [Q4] {w:World} {bo:Nat} {S:Int→Rf→Prop} {l:List Q2} (H:Q0 w (Uc bo S::l)) :
  ∃ G,(∀ k r,mem G k r↔S k r)∧Q0 w (mp (ki .i64) vm bo (G.map Zu)::star (G.map Ro)::l):=by
 obtain⟨G,H⟩:=Q0.ex.1 H;have H:=Q0.star.1 H;obtain⟨h1,H⟩:=Q0.prop.1 H;exact⟨G,h1,H⟩
theorem K0 [Q4] {w:World} {bo:Nat} {S:Int→Rf→Prop} {l:List Q2} (G:List Gr) (h:∀ k r,mem G k r↔S k r) (H:Q0 w (mp (ki .i64) vm bo (G.map Zu)::star (G.map Ro)::l)):Q0 w (Uc bo S::l):=
 Q0.ex.2 ⟨G,Q0.star.2 (Q0.prop.2 ⟨h,H⟩)⟩
theorem Ki [Q4] {w:World} {K V:Type} {ek:K→Value} {vv:V→Value} (b:Nat) {m:List (K×V)} {l:List Q2} (H:Q0 w l) [Up ek vv b m l]:(m.map (·.1)).Nodup:=by
 obtain⟨es,c,_,h⟩:=Q0.mp H (ek:=ek) (vv:=vv) (b:=b) (m:=m);exact h.nodup
theorem Wa (G:List Gr):(G.map Zu).map (·.1)=G.map (·.key):=by simp[Zu,Function.comp_def]
theorem Ez {G:List Gr} {k:Int} {b:Nat} (h:QY (G.map Zu) k=some b):∃ g g1 g2,G=g1++g::g2∧g.key=k∧g.blk=b:=by
 have h1:=UC h;obtain⟨g,hg,e⟩:=mem_map.1 h1;obtain⟨g1,g2,rfl⟩:=append_of_mem hg;simp only[Zu,Prod.mk.injEq] at e;exact⟨g,g1,g2,rfl,e.1,e.2⟩
theorem Wb {K V:Type} [DecidableEq K] {l1 l2:List (K×V)} {p:K×V} (h:((l1++p::l2).map (·.1)).Nodup):QD (l1++p::l2) p.1=l1++l2:=by
 induction l1 with
 | nil=>simp[QD]
 | cons q l1 ih=>
  simp only[cons_append,map_cons,nodup_cons] at h;have hne:q.1≠p.1:=fun e=>h.1 (by rw[e];simp);simp[QD,hne,ih h.2]
theorem Wc {g1 g2:List Gr} {g:Gr} {k:Int} {r:Rf}:mem (g1++g::g2) k r↔(g.key=k∧r∈g.m.map (·.1))∨mem (g1++g2) k r:=by
 unfold mem;simp only[mem_append,mem_cons];constructor
 ·rintro⟨x,hx|rfl|hx,h⟩
  ·exact .inr ⟨x,.inl hx,h⟩
  ·exact .inl h
  ·exact .inr ⟨x,.inr hx,h⟩
 ·rintro(h|⟨x,hx|hx,h⟩)
  ·exact⟨g,.inr (.inl rfl),h⟩
  ·exact⟨x,.inl hx,h⟩
  ·exact⟨x,.inr (.inr hx),h⟩
theorem Rp {G:List Gr} {k:Int} {r:Rf} (h:mem G k r):k∈G.map (·.key):=by
 obtain⟨g,hg,rfl,_⟩:=h;exact mem_map_of_mem hg
theorem CH {g1 g2:List Gr} {g:Gr} (h:((g1++g::g2).map (·.key)).Nodup):g.key∉(g1++g2).map (·.key):=by
 rw[((perm_middle (a:=g) (l₁:=g1) (l₂:=g2)).map (·.key)).nodup_iff] at h;exact(nodup_cons.1 h).1
theorem Mz {g1 g2:List Gr} {g g':Gr} (hk:g'.key=g.key) (hn:((g1++g::g2).map (·.key)).Nodup) {k:Int} {r:Rf}:mem (g1++g'::g2) k r↔if k=g.key then r∈g'.m.map (·.1) else mem (g1++g::g2) k r:=by
 have hr:=CH hn;rw[Wc,Wc,hk];by_cases h:k=g.key
 ·subst h;simp only[if_true,true_and];exact⟨fun h=>h.elim id fun h=>absurd (Rp h) hr,.inl⟩
 ·rw[if_neg h];constructor
  ·rintro(⟨e,_⟩|h')
   ·exact absurd e.symm h
   ·exact .inr h'
  ·rintro(⟨e,_⟩|h')
   ·exact absurd e.symm h
   ·exact .inr h'
theorem N0 [Q4] (bo:Nat) (S:Int→Rf→Prop) (k:Int) (r:Rf) {w:World} {fr:List Q2} (H:Q0 w (Uc bo S::fr)) :
  Calls Tryz.prog 126 #[.map (some bo),.int .i64 k,rf r] w (ret fun v w'=>Q0 w' (Uc bo (fun k' r'=>S k' r'∧¬ (k'=k∧r'=r))::fr)):=by
 obtain⟨a,b⟩:=r;refine Q9 Tryz.func126 rfl (by kernel_rfl) ?_;obtain⟨G,hG,H⟩:=Ey H;refine J8 H ?_;clear H;intro b5 w H;refine WL H ?_;refine Q5 rfl (ZR (key:=k) H rfl rfl VC rfl ?_);have hn0:=Ki bo H;have hn:(G.map (·.key)).Nodup:=by rw[← Wa];exact hn0
 cases hf:QY (G.map Zu) k with
 | none=>
  refine RL H ?_;refine Q5 rfl (Sc (key:=(a,b)) rfl rfl Rn rfl ?_);refine WL H ?_;refine Q5 rfl (ZR (key:=k) H rfl rfl VC rfl ?_);rw[hf];refine Q5 rfl (Sd rfl rfl ?_);refine J0 H ?_;refine Vh rfl ?_;refine J9 H ?_;refine Q5 rfl (Xo (key:=k) H rfl rfl VC rfl ?_);clear H;intro w H;refine J2 H ?_;have hk:=W7.1 hf;rw[BE hk] at H;refine YV _ (.inl rfl) (K0 G (fun k' r'=>?_) H.drop) rfl (fun w' H'=>H');rw[← hG k' r'];exact⟨fun h=>⟨h,fun e=>hk (by rw[Wa,← e.1];exact Rp h)⟩,(·.1)⟩
 | some bi=>
  obtain⟨g,g1,g2,rfl,rfl,rfl⟩:=Ez hf;have H:=(Q0.pick rfl).1 (H.pull 2);refine RL H ?_;have hi:=Ki g.blk H;refine Q5 rfl (Xo (key:=(a,b)) H rfl rfl Rn rfl ?_);clear H;intro w H;refine WL H ?_;refine Q5 rfl (ZR (key:=g.key) H rfl rfl VC rfl ?_);rw[hf];refine Q5 rfl (A1 kp v1 H rfl rfl ?_);refine J0 H ?_;refine W4 rfl (fun ht=>?_) (fun ht=>?_)
  ·refine J9 H ?_;refine Q5 rfl (Xo (key:=g.key) H rfl rfl VC rfl ?_);clear H;intro w H;refine J2 H ?_
   have e:QD ((g1++g::g2).map Zu) g.key=(g1++g2).map Zu:=by
    simp only[map_append,map_cons] at hn0 ⊢;exact Wb (p:=Zu g) (by simpa using hn0)
   rw[e] at H;refine YV _ (.inl rfl) (K0 (g1++g2) (fun k' r'=>?_) (l:=fr) ?_) rfl (fun w' H'=>H')
   ·have hr:=CH hn;have hz:QD g.m (a,b)=[]:=eq_nil_of_length_eq_zero (by simpa using ht);rw[← hG k' r',Wc];constructor
    ·intro h;exact⟨.inr h,fun e=>hr (by rw[← e.1];exact Rp h)⟩
    ·rintro⟨⟨rfl,h⟩|h,h2⟩
     ·have:=(BF (m:=g.m) (x:=(a,b)) (y:=r') hi).2 ⟨fun e=>h2 ⟨rfl,e⟩,h⟩;rw[hz] at this;simp at this
     ·exact h
   ·replace H:=Js [3,1] 2 H;exact H
  ·refine QB ?_;replace H:=Js [0,0,1] 1 H;refine YV _ (.inl rfl) (K0 (g1++{ g with m:=QD g.m (a,b) }::g2) (fun k' r'=>?_) (l:=fr) ?_) rfl (fun w' H'=>H')
   ·rw[Mz (g:=g) (g':={ g with m:=QD g.m (a,b) }) rfl hn,← hG k' r'];split
    ·rename_i e;subst e;rw[BF hi,Wc];have hr:=CH hn;constructor
     ·rintro⟨h1,h2⟩;exact⟨.inl ⟨rfl,h2⟩,fun e=>h1 e.2⟩
     ·rintro⟨⟨_,h⟩|h,h2⟩
      ·exact⟨fun e=>h2 ⟨rfl,e⟩,h⟩
      ·exact absurd (Rp h) hr
    ·rename_i e;exact⟨fun h=>⟨h,fun e'=>e e'.1⟩,(·.1)⟩
   ·have H:=((Q0.pick (R:=Ro) (gs:=g1++{ g with m:=QD g.m (a,b) }::g2) rfl).2 H).swap;simpa only[map_append,map_cons,map_nil,Zu] using H
theorem N2 [Q4] (bo:Nat) (S:Int→Rf→Prop) (k:Int) (r:Rf) {w:World} {fr:List Q2} (H:Q0 w (Uc bo S::fr)) :
  Calls Tryz.prog 252 #[.map (some bo),.int .i64 k,rf r] w (ret fun v w'=>Q0 w' (Uc bo (fun k' r'=>S k' r'∨(k'=k∧r'=r))::fr)):=by
 obtain⟨a,b⟩:=r;refine Q9 Tryz.func252 rfl (by kernel_rfl) ?_;obtain⟨G,hG,H⟩:=Ey H;refine J8 H ?_;clear H;intro b5 w H;refine WL H ?_;refine Q5 rfl (ZR (key:=k) H rfl rfl VC rfl ?_);have hn0:=Ki bo H;have hn:(G.map (·.key)).Nodup:=by rw[← Wa];exact hn0
 cases hf:QY (G.map Zu) k with
 | none=>
  refine Q5 rfl (Lw rfl rfl (.inl rfl) rfl ?_);refine J2 H ?_;refine Vh rfl ?_;refine J9 H ?_;refine Q5 rfl (KA v1 kp H rfl ?_);clear H;intro b12 w H;refine Q5 rfl (XW (key:=k) (v:=b12) H rfl rfl rfl VC rfl ?_);clear H;intro w H;refine WL H ?_;have hk:=W7.1 hf;refine Q5 rfl (ZR (key:=k) H rfl rfl VC rfl ?_);have hf2:QY (Vy (G.map Zu) k b12) k=some b12:=by rw[U5,if_pos rfl]
  rw[hf2];refine RL H ?_;refine Q5 rfl (XW (key:=(a,b)) (v:=1) H rfl rfl rfl Rn rfl ?_);clear H;intro w H;refine J2 H ?_;rw[Xl hk] at H;replace H:=Js [0,2,1] 1 H;refine YV _ (.inl rfl) (K0 (G++{ key:=k,blk:=b12,m:=[((a,b),1)] }::[]) (fun k' r'=>?_) (l:=fr) ?_) rfl (fun w' H'=>H')
  ·rw[Wc,append_nil,hG k' r'];constructor
   ·rintro(⟨rfl,h⟩|h)
    ·exact .inr ⟨rfl,by simpa using h⟩
    ·exact .inl h
   ·rintro(h|⟨rfl,rfl⟩)
    ·exact .inr h
    ·exact .inl ⟨rfl,by simp⟩
  ·have H:=((Q0.pick (R:=Ro) (gs:=G++{ key:=k,blk:=b12,m:=[((a,b),1)] }::[]) rfl).2 (by rw[append_nil];exact H)).swap;simpa only[map_append,map_cons,map_nil,Zu] using H
 | some bi=>
  obtain⟨g,g1,g2,rfl,rfl,rfl⟩:=Ez hf;have H:=(Q0.pick rfl).1 (H.pull 2);refine Q5 rfl (Lw rfl rfl (.inl rfl) rfl ?_);refine J2 H ?_;refine VF rfl (QB ?_);refine J9 H ?_;refine Q5 rfl (ZR (key:=g.key) H rfl rfl VC rfl ?_);rw[hf];refine RL H ?_;refine Q5 rfl (XW (key:=(a,b)) (v:=1) H rfl rfl rfl Rn rfl ?_);clear H;intro w H;refine J2 H ?_;replace H:=Js [0,0,1] 1 H;refine YV _ (.inl rfl) (K0 (g1++{ g with m:=Vy g.m (a,b) 1 }::g2) (fun k' r'=>?_) (l:=fr) ?_) rfl (fun w' H'=>H')
  ·rw[Mz (g:=g) (g':={ g with m:=Vy g.m (a,b) 1 }) rfl hn,← hG k' r'];split
   ·rename_i e;subst e;rw[Lk,Wc];have hr:=CH hn;constructor
    ·rintro(h|h)
     ·exact .inr ⟨rfl,h⟩
     ·exact .inl (.inl ⟨rfl,h⟩)
    ·rintro((⟨_,h⟩|h)|⟨_,h⟩)
     ·exact .inr h
     ·exact absurd (Rp h) hr
     ·exact .inl h
   ·rename_i e;exact⟨.inl,fun h=>h.elim id fun e'=>absurd e'.1 e⟩
  ·have H:=((Q0.pick (R:=Ro) (gs:=g1++{ g with m:=Vy g.m (a,b) 1 }::g2) rfl).2 H).swap;simpa only[map_append,map_cons,map_nil,Zu] using H
def RS (p:Nat) (m:List (Rf×Int)):Q2:=ex fun q:Nat×Nat×Nat=>
 star [pts p (row 148 [.map (some q.1),.map (some q.2.1),.map (some q.2.2)]),mp kp v1 q.1 m,Uc q.2.1 (fun k r=>QY m r=some k),Uc q.2.2 (fun k r=>r.1=k∧(QY m r).isSome=true)]
theorem Wd [Q4] {w:World} {p:Nat} {m:List (Rf×Int)} {l:List Q2} (H:Q0 w (RS p m::l)) :
  ∃ bt bo bf,Q0 w (pts p (row 148 [.map (some bt),.map (some bo),.map (some bf)])::mp kp v1 bt m::Uc bo (fun k r=>QY m r=some k)::Uc bf (fun k r=>r.1=k∧(QY m r).isSome=true)::l):=by
 obtain⟨⟨bt,bo,bf⟩,H⟩:=Q0.ex.1 H;exact⟨bt,bo,bf,Q0.star.1 H⟩
theorem Kj [Q4] {w:World} {p:Nat} {m:List (Rf×Int)} {l:List Q2} {S T:Int→Rf→Prop} (bt bo bf:Nat) (hS:∀ k r,S k r↔QY m r=some k) (hT:∀ k r,T k r↔(r.1=k∧(QY m r).isSome=true))
  (H:Q0 w (pts p (row 148 [.map (some bt),.map (some bo),.map (some bf)])::mp kp v1 bt m::Uc bo S::Uc bf T::l)):Q0 w (RS p m::l):=by
 have e1:S=fun k r=>QY m r=some k:=by funext k r;exact propext (hS k r)
 have e2:T=fun k r=>r.1=k∧(QY m r).isSome=true:=by funext k r;exact propext (hT k r)
 subst e1 e2;exact Q0.ex.2 ⟨(bt,bo,bf),Q0.star.2 H⟩
theorem N3 [Q4] {w:World} {bo:Nat} {l:List Q2} (H:Q0 w (mp (ki .i64) vm bo []::l)):Q0 w (Uc bo (fun _ _=>False)::l):=
 K0 [] (by simp[mem]) (Q0.swap ((Q0.star (k:=[])).2 H))
theorem aE [Q4] {w:World} {fr:List Q2} (H:Q0 w fr):Calls Tryz.prog 85 #[] w (ret fun v w'=>∃ p,v=pp p∧Q0 w' (RS p []::fr)):=by
 refine Q9 Tryz.func85 rfl (by kernel_rfl) ?_;refine C2 H ?_;refine Q5 rfl (KA v1 kp H rfl ?_);clear H;intro b1 w H;refine Q5 rfl (KA vm (ki .i64) H rfl ?_);clear H;intro b2 w H;refine Q5 rfl (KA vm (ki .i64) H rfl ?_);clear H;intro b3 w H;refine XE H ?_;clear H;intro b5 w H;refine J0 H ?_;refine Q3 ?_;replace H:=N3 (H.pull 1);replace H:=N3 (H.pull 2);replace H:=Js [2,2,0,0] 0 H;exact Jy H rfl (fun w' H'=>⟨b5,rfl,Kj b1 b2 b3 (S:=fun _ _=>False) (T:=fun _ _=>False) (by simp[QY]) (by simp[QY]) H'⟩)
theorem aF (o:Option Int):W9 (.int .i64 0) v1 o = .int .i64 (o.getD 0):=by cases o <;> rfl
theorem I6 [Q4] (p:Nat) (m:List (Rf×Int)) (r:Rf) {w:World} {fr:List Q2} (H:Q0 w (RS p m::fr)) :
  Calls Tryz.prog 114 #[pp p,rf r] w (ret fun v w'=>v = .tuple #[.int .i64 ((QY m r).getD 0),.bool (QY m r).isSome]∧Q0 w' (RS p m::fr)):=by
 obtain⟨a,b⟩:=r;refine Q9 Tryz.func114 rfl (by kernel_rfl) ?_;obtain⟨bt,bo,bf,H⟩:=Wd H;refine J8 H ?_;clear H;intro b3 w H;refine E4 H ?_;refine J1 H ?_;clear H;intro w H;refine XF H ?_;refine VP 4 [] H rfl (Q8.none rfl) rfl (by repeat first|exact .nil _|apply QV.cons rfl) (by kernel_rfl) ?_;refine Uq 5 [] (key:=(a,b)) H rfl (Q8.none rfl) rfl rfl Rn (by kernel_rfl) ?_;rw[aF];refine Bw H ?_;refine WX H ?_;refine WM H ?_;refine Q3 (Jy (Kj bt bo bf (fun _ _=>Iff.rfl) (fun _ _=>Iff.rfl) H.drop) rfl fun w' H'=>⟨rfl,H'⟩)
theorem CI [Q4] (p:Nat) (m:List (Rf×Int)) (hm:(m.map (·.1)).Nodup) (r:Rf) {w:World} {fr:List Q2} (H:Q0 w (RS p m::fr)) :
  Calls Tryz.prog 62 #[pp p,rf r] w (ret fun v w'=>v = .bool (QY m r).isSome∧Q0 w' (RS p (QD m r)::fr)):=by
 obtain⟨a,b⟩:=r;refine Q9 Tryz.func62 rfl (by kernel_rfl) ?_;refine J8 H ?_;clear H;intro b3 w H;refine KP H ?_;refine Jc rfl rfl (I6 p m (a,b) H.swap) ?_;clear H;rintro v w ⟨rfl,H⟩;refine Uw H ?_;cases hf:QY m (a,b) with
 | none=>
  refine YD H ?_;rw[BE (W7.1 hf)];refine Q3 (Jy H.swap.drop rfl fun w' H'=>⟨rfl,H'⟩)
 | some t=>
  refine V6 H ?_;obtain⟨bt,bo,bf,H⟩:=Wd H;refine J1 H ?_;clear H;intro w H;refine E5 H ?_;refine Xo (key:=(a,b)) H rfl rfl Rn rfl ?_;clear H;intro w H;refine Jx H ?_;replace H:=Js [2,0,0,0,0] 0 H;refine J1 H ?_;clear H;intro w H;refine C3 H ?_;refine Ja 4 ?_;refine C4 H ?_;refine Jk rfl rfl (N0 bo _ t (a,b) H) ?_;clear H;intro v w H;refine Jx H ?_;replace H:=Js [3,0,0,0,0] 0 H;refine J1 H ?_;clear H;intro w H;refine Ja 0 ?_;refine Ja 1 ?_;refine Jf 2 ?_;refine Jl 3 [7] H ?_;refine Jf 4 ?_;refine Jl 5 [7] H ?_;refine E6 H ?_;refine Jk rfl rfl (N0 bf _ a (a,b) H) ?_;clear H;intro v w H;refine Bp H ?_;replace H:=Js [2,2,1,0] 1 H;refine Q3 (Jy (Kj bt bo bf (fun k r=>?_) (fun k r=>?_) H) rfl fun w' H'=>⟨rfl,H'⟩)
  ·rw[Xm hm];split
   ·rename_i e;subst e;rw[hf];simp;rintro rfl;rfl
   ·rename_i e;exact⟨(·.1),fun h=>⟨h,fun e'=>e e'.2.symm⟩⟩
  ·rw[Xm hm];split
   ·rename_i e;subst e;simp;rintro rfl _;rfl
   ·rename_i e;exact⟨(·.1),fun h=>⟨h,fun e'=>e e'.2.symm⟩⟩
theorem N4 [Q4] (p:Nat) (m:List (Rf×Int)) (hm:(m.map (·.1)).Nodup) (r:Rf) (t:Int) {w:World} {fr:List Q2} (H:Q0 w (RS p m::fr)) :
  Calls Tryz.prog 226 #[pp p,rf r,.int .i64 t] w (ret fun v w'=>v = .bool (!(QY m r).isSome)∧Q0 w' (RS p (Vy (QD m r) r t)::fr)):=by
 obtain⟨a,b⟩:=r;refine Q9 Tryz.func226 rfl (by kernel_rfl) ?_;refine J8 H ?_;clear H;intro b4 w H;refine AI H ?_;refine Gv H ?_;refine Jc rfl rfl (CI p m hm (a,b) H.swap) ?_;clear H;rintro v w ⟨rfl,H⟩;refine J0 H ?_;obtain⟨bt,bo,bf,H⟩:=Wd H;refine J1 H ?_;clear H;intro w H;refine C3 H ?_;refine E7 H ?_;refine Ja 5 ?_;refine Jo 6 H ?_;refine XW (key:=(a,b)) (v:=t) H rfl rfl rfl Rn rfl ?_;clear H;intro w H;refine Jx H ?_;replace H:=Js [2,0,0,0,0] 0 H;refine J1 H ?_;clear H;intro w H;refine C3 H ?_;refine Ja 4 ?_;refine C4 H ?_;refine Jk rfl rfl (N2 bo _ t (a,b) H) ?_;clear H;intro v w H;refine Jx H ?_;replace H:=Js [3,0,0,0,0] 0 H;refine J1 H ?_;clear H;intro w H;refine Ja 0 ?_;refine Ja 1 ?_;refine Jf 2 ?_;refine Jl 3 [7] H ?_;refine Jf 4 ?_;refine Jl 5 [7] H ?_;refine E6 H ?_;refine Jk rfl rfl (N2 bf _ a (a,b) H) ?_;clear H;intro v w H;refine Jx H ?_;refine VX H ?_;replace H:=Js [2,2,1,0] 1 H;have hn:=Xm hm (x:=(a,b)) (y:=(a,b));rw[if_pos rfl] at hn;refine Q3 (Jy (Kj bt bo bf (fun k r=>?_) (fun k r=>?_) H) rfl fun w' H'=>⟨rfl,H'⟩)
 ·rw[U5];split
  ·rename_i e;subst e;rw[hn];simp;exact eq_comm
  ·rename_i e;exact⟨fun h=>h.elim id fun e'=>absurd e'.2.symm e,.inl⟩
 ·rw[U5];split
  ·rename_i e;subst e;rw[hn];simp;exact eq_comm
  ·rename_i e;exact⟨fun h=>h.elim id fun e'=>absurd e'.2.symm e,.inl⟩
theorem aH [Q4] (p:Nat) (m:List (Rf×Int)) {w:World} {fr:List Q2} (H:Q0 w (RS p m::fr)) :
  Calls Tryz.prog 18 #[pp p] w (ret fun v w'=>v = .int .i64 m.length∧Q0 w' (RS p m::fr)):=by
 refine Q9 Tryz.func18 rfl (by kernel_rfl) ?_;obtain⟨bt,bo,bf,H⟩:=Wd H;refine Xt H ?_;refine Q5 rfl (A1 kp v1 H rfl rfl ?_);refine J0 H ?_;refine Q3 (Jy (Kj bt bo bf (fun _ _=>Iff.rfl) (fun _ _=>Iff.rfl) H) rfl fun w' H'=>⟨rfl,H'⟩)
def Qf (p last:Nat) (par:List (Int×Int)):Q2:=ex fun b:Nat=>star [pts p (row 122 [.map (some b),.int .i64 last]),mp (ki .i64) v1 b par]
theorem Kk [Q4] {w:World} {p last:Nat} {par:List (Int×Int)} {l:List Q2} (H:Q0 w (Qf p last par::l)):∃ b,Q0 w (pts p (row 122 [.map (some b),.int .i64 last])::mp (ki .i64) v1 b par::l):=by
 obtain⟨b,H⟩:=Q0.ex.1 H;exact⟨b,Q0.star.1 H⟩
theorem K1 [Q4] {w:World} {p last b:Nat} {par:List (Int×Int)} {l:List Q2} (H:Q0 w (pts p (row 122 [.map (some b),.int .i64 last])::mp (ki .i64) v1 b par::l)):Q0 w (Qf p last par::l):=
 Q0.ex.2 ⟨b,Q0.star.2 H⟩
theorem I7 [Q4] {w:World} {p last:Nat} {par:List (Int×Int)} {l:List Q2} (H:Q0 w (Qf p last par::l)):(par.map (·.1)).Nodup:=by
 obtain⟨b,H⟩:=Kk H;exact Ki b H
theorem aI [Q4] {w:World} {fr:List Q2} (H:Q0 w fr):Calls Tryz.prog 84 #[] w (ret fun v w'=>∃ p,v=pp p∧Q0 w' (Qf p 0 []::fr)):=by
 refine Q9 Tryz.func84 rfl (by kernel_rfl) ?_;refine C2 H ?_;refine Q5 rfl (KA v1 (ki .i64) H rfl ?_);clear H;intro b1 w H;refine XE H ?_;clear H;intro b3 w H;refine J0 H ?_;exact Q3 (Jy H rfl fun w' H'=>⟨_,rfl,K1 H'⟩)
theorem CL [Q4] (p last:Nat) (par:List (Int×Int)) (id:Int) {w:World} {fr:List Q2} (H:Q0 w (Qf p last par::fr)) :
  Calls Tryz.prog 46 #[pp p,.int .i64 id] w (ret fun v w'=>v = .bool (QY par id).isSome∧Q0 w' (Qf p last par::fr)):=by
 obtain⟨b,H⟩:=Kk H;refine Q9 Tryz.func46 rfl (by kernel_rfl) ?_;refine WN H ?_;refine Q5 rfl (ZR (key:=id) H rfl rfl VC rfl ?_);refine AA H ?_;refine XR rfl rfl ?_;refine YA H ?_;exact Q3 (Jy (K1 H) rfl fun w' H'=>⟨rfl,H'⟩)
theorem aJ [Q4] (p last:Nat) (par:List (Int×Int)) {w:World} {fr:List Q2} (H:Q0 w (Qf p last par::fr)) :
  Calls Tryz.prog 19 #[pp p] w (ret fun v w'=>v = .int .i64 par.length∧Q0 w' (Qf p last par::fr)):=by
 obtain⟨b,H⟩:=Kk H;refine Q9 Tryz.func19 rfl (by kernel_rfl) ?_;refine Xt H ?_;refine Q5 rfl (A1 (ki .i64) v1 H rfl rfl ?_);refine J0 H ?_;exact Q3 (Jy (K1 H) rfl fun w' H'=>⟨rfl,H'⟩)
theorem I8 [Q4] (p last:Nat) (par:List (Int×Int)) (id:Int) {w:World} {fr:List Q2} (H:Q0 w (Qf p last par::fr)) :
  Calls Tryz.prog 52 #[pp p,.int .i64 id] w (ret fun v w'=>v = .int .i64 (if (QY par id).isSome then 0 else 6)∧Q0 w' (Qf p last par::fr)):=by
 refine Q9 Tryz.func52 rfl (by kernel_rfl) ?_;refine J7 H ?_;refine Y6 (fun ms σ w=>ms=[]∧(QY par id).isSome=true∧Q0 w (Qf p last par::fr)) ?_ ?_
 ·refine Dz H ?_;refine Jc rfl rfl (CL p last par id H) ?_;clear H;rintro v w ⟨rfl,H⟩;cases hf:(QY par id).isSome with
  | true=>
   refine WH H ?_;exact .inl ⟨rfl,rfl,rfl,H⟩
  | false=>
   refine E8 H ?_;exact Q3 (.inr ⟨by simp,Jy H rfl fun w' H'=>⟨rfl,H'⟩⟩)
 ·clear H;rintro ms σ w ⟨rfl,hf,H⟩;rw[hf];refine VB H ?_;exact Q3 (Jy H rfl fun w' H'=>⟨rfl,H'⟩)
def Z9 (par:List (Int×Int)) (parent:Int):Nat:=if parent≠0∧(QY par parent).isSome=false then 6 else if par.length=64 then 5 else 0
theorem N5 [Q4] (p last:Nat) (par:List (Int×Int)) (parent:Int) (hlast:last < 1000000) (hup:∀ r q,(r,q)∈par→r≤(last:Int)) {w:World} {fr:List Q2} (H:Q0 w (Qf p last par::fr)) :
  Calls Tryz.prog 71 #[pp p,.int .i64 parent] w (ret fun v w'=>(Z9 par parent≠0∧v = .tuple #[.int .i64 0,.int .i64 (Z9 par parent)]∧Q0 w' (Qf p last par::fr)) ∨
   (Z9 par parent=0∧v = .tuple #[.int .i64 ((last+1:Nat):Int),.int .i64 0]∧Q0 w' (Qf p (last+1) (par++[(((last+1:Nat):Int),parent)])::fr))):=by
 refine Q9 Tryz.func71 rfl (by kernel_rfl) ?_;refine Bq H ?_;refine Y6 (fun ms σ w=>ms=[]∧Z9 par parent=0∧σ 0=pp p∧σ 1 = .int .i64 parent∧Q0 w (Qf p last par::fr)) ?_ ?_
 ·refine RW H ?_;refine J6 H ?_;refine Qo (fun ms σ w=>ms=[]∧(∃ q,σ 9 = .bool q∧(q=true↔parent≠0∧(QY par parent).isSome=false))∧σ 0=pp p∧σ 1 = .int .i64 parent∧Q0 w (Qf p last par::fr)) ?_ ?_
  ·refine J9 H ?_;by_cases h0:parent=0
   ·rw[show (parent != 0)=false by simpa using h0];refine E2 H ?_;refine J3 H ?_;exact⟨rfl,rfl,⟨false,rfl,by simp[h0]⟩,rfl,rfl,H⟩
   ·rw[show (parent != 0)=true by simpa using h0];refine Uu H ?_;refine QT rfl rfl rfl (V1 (a:=[]) (b:=[]) rfl rfl (call (CL p last par parent H) ?_));clear H;rintro v w ⟨rfl,H⟩;refine Xs H ?_;exact⟨rfl,rfl,⟨!(QY par parent).isSome,rfl,by simp[h0]⟩,rfl,rfl,H⟩
  ·clear H;rintro ms σ w ⟨rfl,⟨q,g9,hq⟩,g0,g1,H⟩;rw[Q1 g9,Q1 g0,Q1 g1];cases q with
   | true=>
    have he:Z9 par parent=6:=by unfold Z9;rw[if_pos (hq.1 rfl)]
    refine Yn H ?_;exact Q3 (.inr ⟨by simp,Jy H rfl fun w' H' => .inl ⟨by omega,by rw[he];rfl,H'⟩⟩)
   | false=>
    have hq':¬ (parent≠0∧(QY par parent).isSome=false):=fun h=>by have:=hq.2 h;cases this
    obtain⟨b,H⟩:=Kk H;refine C5 H ?_;refine Yd H ?_;refine Q5 rfl (A1 (ki .i64) v1 H rfl rfl ?_);refine J3 H ?_;by_cases h64:par.length=64
    ·have he:Z9 par parent=5:=by unfold Z9;rw[if_neg hq',if_pos h64]
     rw[show ((par.length:Int) == 64)=true by simp;omega];refine Yn H ?_;exact Q3 (.inr ⟨by simp,Jy (K1 H) rfl fun w' H' => .inl ⟨by omega,by rw[he];rfl,H'⟩⟩)
    ·have he:Z9 par parent=0:=by unfold Z9;rw[if_neg hq',if_neg h64]
     rw[show ((par.length:Int) == 64)=false by simp;omega];refine V6 H ?_;exact .inl ⟨rfl,rfl,he,rfl,rfl,K1 H⟩
 ·clear H;rintro ms σ w ⟨rfl,he,g0,g1,H⟩;rw[Q1 g0,Q1 g1];obtain⟨b,H⟩:=Kk H;refine VQ H ?_;rw[Qb (x:=((last:Nat):Int)+1) (by omega) (by omega),show ((last:Nat):Int)+1=((last+1:Nat):Int) by omega];refine GO H ?_;clear H;intro w H;refine J2 H ?_;refine J1 H ?_;clear H;intro w H;refine E9 H ?_;refine EQ H ?_;refine Jl 7 [9] H ?_;refine Ja 8 ?_;refine Jo 9 H ?_;refine XW (v:=parent) (key:=((last+1:Nat):Int)) H rfl rfl rfl VC rfl ?_;clear H;intro w H;refine Jx H ?_;refine Yd H ?_;refine J3 H ?_
  rw[Xl (fun h=>by
   obtain⟨⟨a,q⟩,hm,h1⟩:=mem_map.1 h;have h1:a=((last+1:Nat):Int):=h1;have:=hup a q hm;omega)] at H
  exact Q3 (Jy (K1 H) rfl fun w' H' => .inr ⟨he,rfl,H'⟩)
structure Q7 where
 addr:Nat
 region:Int
 held:Bool
 pinned:Bool
 lay:Nat
 count:Nat
 ws:List Nat
structure QX where
 gen:Nat
 ent:Option Q7
def Qd (ts:List QX) (i g:Int):Option (Nat×Q7):=
 if 0≤i then
  match ts[i.toNat]? with
  | some ⟨n,some e⟩=>if (n:Int)=g then some (i.toNat,e) else none
  | _=>none
 else none
theorem Y8 {ts:List QX} {i g:Int} {k:Nat} {e:Q7}:Qd ts i g=some (k,e)↔∃ n:Nat,i=k∧g=n∧ts[k]? = some ⟨n,some e⟩:=by
 unfold Qd;constructor
 ·intro h;split at h
  ·rename_i h0;split at h
   ·rename_i n e' he;split at h
    ·rename_i hn;injection h with h
     injection h with h1 h2
     subst h1 h2;exact⟨n,by omega,hn.symm,he⟩
    ·cases h
   ·cases h
  ·cases h
 ·rintro⟨n,rfl,rfl,h⟩;rw[if_pos (by omega)];simp only[Int.toNat_natCast,h];rw[if_pos trivial]
def Qr (ts:List QX) (i g:Int):Option (Nat×Q7):=
 match Qd ts i g with
 | some (k,e)=>if e.held then some (k,e) else none
 | none=>none
theorem XP {ts:List QX} {i g:Int} {k:Nat} {e:Q7}:Qr ts i g=some (k,e)↔Qd ts i g=some (k,e)∧e.held=true:=by
 unfold Qr;cases h:Qd ts i g with
 | none=>simp
 | some q=>
  obtain⟨k',e'⟩:=q;simp only;split
  ·rename_i hh;constructor
   ·intro h1;cases h1;exact⟨rfl,hh⟩
   ·rintro⟨h1,_⟩;exact h1
  ·rename_i hh;constructor
   ·intro h1;cases h1
   ·rintro⟨h1,h2⟩;cases h1;exact absurd h2 hh
structure QE where
 parts:List (Nat×Nat)
 at':Nat
 fin:Nat
def QU (l:List (Nat×Nat)):List Nat:=l.flatMap fun p=>(List.range p.2).map (p.1+·)
structure CS where
 size:Nat
 own:List Nat
 lays:List QM
 tab:List QX
 last:Nat
 par:List (Int×Int)
 rem:List ((Int×Int)×Int)
 sps:List (Int×Nat×QE)
 mns:List (Int×Nat×List Nat)
structure X4 (lays:List QM) (i:Nat) (e:Q7):Prop where
 may:Xy e.lay e.count i
 lay:∃ l,lays[e.lay - 1]? = some l∧Vf l∧VG l e.count=(e.ws.length,0)∧∀ p w,e.ws[p]? = some w→w < 18446744073709551616∧(VU l p=true→∃ k,Ga k∧w=VK k)
def QJ (e:Q7):Nat:=e.addr+1+e.ws.length
def Zv (size:Nat) (own:List Nat) (e:Q7):Prop:=QJ e≤own.length*size∧∀ c,e.addr / size≤c→c≤(e.addr+e.ws.length) / size→∃ r:Nat,own[c]? = some r∧(r:Int)=e.region∧1≤r
structure Gc (size:Nat) (own:List Nat) (r:Int) (S:QE):Prop where
 at1:S.at'≤S.fin
 fin:S.fin≠0→∃ c,S.fin=(c+1)*size∧c*size < S.at'∧(c,1)∈S.parts
 parts:∀ p∈S.parts,1≤p.2∧p.1+p.2≤own.length
 nodup:(QU S.parts).Nodup
 owned:∀ c,c∈QU S.parts↔∃ q:Nat,own[c]? = some q∧(q:Int)=r∧q≠0
structure WF (s:CS):Prop where
 size:1≤s.size∧s.size≤1024
 own:1≤s.own.length∧s.own.length≤63
 slots:1≤s.tab.length∧s.tab.length≤63
 lays:s.lays.length≤64∧∀ l∈s.lays,Vf l
 gen:∀ (i:Nat) (t:QX),s.tab[i]? = some t→t.gen≤255∧(t.ent.isSome=true→1≤t.gen)
 obj:∀ (i g:Nat) (e:Q7),s.tab[i]? = some ⟨g,some e⟩→X4 s.lays i e∧Zv s.size s.own e∧(∃ q,(e.region,q)∈s.par)
 apart:∀ (i j g h:Nat) (e f:Q7),i≠j→s.tab[i]? = some ⟨g,some e⟩→s.tab[j]? = some ⟨h,some f⟩→QJ e≤f.addr∨QJ f≤e.addr
 par:s.par.length≤64∧s.last < 1000000∧∀ r q,(r,q)∈s.par→1≤r∧r≤s.last
 skeys:s.sps.map (·.1)=s.par.map (·.1)
 mkeys:s.mns.map (·.1)=s.par.map (·.1)
 spc:∀ x∈s.sps,Gc s.size s.own x.1 x.2.2
 free:∀ x∈s.sps,∀ (i g:Nat) (e:Q7),s.tab[i]? = some ⟨g,some e⟩→QJ e≤x.2.2.at'∨x.2.2.fin≤e.addr
 live:∀ (c r:Nat),s.own[c]? = some r→r≠0→∃ q,((r:Int),q)∈s.par
 mine:∀ x∈s.mns,x.2.2.Pairwise (· < ·)∧∀ i,i∈x.2.2↔∃ g e,s.tab[i]? = some ⟨g,some e⟩∧e.region=x.1
structure Va (s:CS) (mem:List Nat):Prop where
 len:mem.length=s.own.length*s.size
 head:∀ (i g:Nat) (e:Q7),s.tab[i]? = some ⟨g,some e⟩→mem[e.addr]? = some (G7 e.lay e.count i)
 words:∀ (i g:Nat) (e:Q7),s.tab[i]? = some ⟨g,some e⟩→∀ (p w:Nat),e.ws[p]? = some w→mem[e.addr+1+p]? = some w
theorem V3 {ts:List QX} {i j:Nat} {t u:QX} (h:(ts.set i t)[j]? = some u):(j=i∧u=t∧i < ts.length)∨(j≠i∧ts[j]? = some u):=by
 rw[getElem?_set] at h;by_cases hij:i=j
 ·subst hij;rw[if_pos rfl] at h;split at h
  ·rename_i hl;injection h with h
   exact .inl ⟨rfl,h.symm,hl⟩
  ·cases h
 ·rw[if_neg hij] at h;exact .inr ⟨fun e=>hij e.symm,h⟩
structure Kl (e e':Q7):Prop where
 addr:e'.addr=e.addr
 region:e'.region=e.region
 lay:e'.lay=e.lay
 count:e'.count=e.count
 len:e'.ws.length=e.ws.length
theorem Kl.end {e e':Q7} (h:Kl e e'):QJ e'=QJ e:=by unfold QJ;rw[h.addr,h.len]
theorem Kl.lies {e e':Q7} (h:Kl e e') {size:Nat} {own:List Nat} (l:Zv size own e):Zv size own e':=by
 unfold Zv at *;rw[h.end,h.addr,h.len,h.region];exact l
def VO (s:CS) (i g:Nat) (e:Q7):CS:={ s with tab:=s.tab.set i ⟨g,some e⟩ }
theorem F0 {s:CS} (h:WF s) {i g:Nat} {e e':Q7} (hi:s.tab[i]? = some ⟨g,some e⟩) (a:Kl e e') (ok:X4 s.lays i e'):WF (VO s i g e'):=by
 have ho:=h.obj i g e hi;refine⟨h.size,h.own,by show 1≤(s.tab.set _ _).length∧(s.tab.set _ _).length≤63;rw[length_set];exact h.slots,h.lays,?_,?_,?_,h.par,h.skeys,h.mkeys,h.spc,?_,h.live,?_⟩
 ·intro j t hj
  rcases V3 hj with ⟨rfl,rfl,_⟩|⟨_,hj⟩
  ·exact⟨(h.gen _ _ hi).1,fun _=>(h.gen _ _ hi).2 rfl⟩
  ·exact h.gen _ _ hj
 ·intro j k f hj
  rcases V3 hj with ⟨rfl,ht,_⟩|⟨_,hj⟩
  ·injection ht with h1 h2
   injection h2 with h2
   subst h1 h2;exact⟨ok,a.lies ho.2.1,by rw[a.region];exact ho.2.2⟩
  ·exact h.obj _ _ _ hj
 ·intro j k m n f f' hne hj hk
  rcases V3 hj with ⟨rfl,ht,_⟩|⟨hji,hj'⟩ <;> rcases V3 hk with ⟨rfl,hu,_⟩|⟨hki,hk'⟩
  ·exact absurd rfl hne
  ·injection ht with h1 h2
   injection h2 with h2
   subst h1 h2;rw[a.end,a.addr];exact h.apart _ _ _ n _ _ hne hi hk'
  ·injection hu with h1 h2
   injection h2 with h2
   subst h1 h2;rw[a.end,a.addr];exact h.apart _ _ m _ _ _ hne hj' hi
  ·exact h.apart _ _ _ _ _ _ hne hj' hk'
 ·intro x hx j k f hj
  rcases V3 hj with ⟨rfl,ht,_⟩|⟨_,hj⟩
  ·injection ht with h1 h2
   injection h2 with h2
   subst h1 h2;rw[a.end,a.addr];exact h.free x hx _ _ _ hi
  ·exact h.free x hx _ _ _ hj
 ·intro x hx;obtain⟨h1,h2⟩:=h.mine x hx;refine⟨h1,fun j=>?_⟩;rw[h2];have hil:i < s.tab.length:=(List.getElem?_eq_some_iff.1 hi).1;constructor
  ·rintro⟨m,f,hj,hf⟩;by_cases hij:j=i
   ·subst hij;rw[hi] at hj;cases hj;exact⟨g,e',by show (s.tab.set _ _)[_]? = _;simp[hil],by rw[a.region];exact hf⟩
   ·exact⟨m,f,by show (s.tab.set _ _)[_]? = _;rw[getElem?_set_ne (fun q=>hij q.symm)];exact hj,hf⟩
  ·rintro⟨m,f,hj,hf⟩
   rcases V3 hj with ⟨rfl,ht,_⟩|⟨_,hj⟩
   ·injection ht with h1 h2
    injection h2 with h2
    subst h1 h2;exact⟨_,_,hi,by rw[← a.region];exact hf⟩
   ·exact⟨m,f,hj,hf⟩
theorem N6 {s:CS} (h:WF s) {mem:List Nat} (m:Va s mem) {i g:Nat} {e e':Q7} (hi:s.tab[i]? = some ⟨g,some e⟩) (a:Kl e e') {mem':List Nat} (hl:mem'.length=mem.length)
  (hin:∀ (p w:Nat),e'.ws[p]? = some w→mem'[e.addr+1+p]? = some w) (hh:mem'[e.addr]? = mem[e.addr]?) (hout:∀ k,k < e.addr∨QJ e≤k→mem'[k]? = mem[k]?):Va (VO s i g e') mem':=by
 refine⟨by rw[hl];exact m.len,?_,?_⟩
 ·intro j k f hj
  rcases V3 hj with ⟨rfl,ht,_⟩|⟨hji,hj⟩
  ·injection ht with h1 h2
   injection h2 with h2
   subst h1 h2;rw[a.addr,a.lay,a.count,hh];exact m.head _ _ _ hi
  ·have:=h.apart _ _ _ _ _ _ hji hj hi;rw[hout _ (by unfold QJ at this ⊢;omega)];exact m.head _ _ _ hj
 ·intro j k f hj p w hw
  rcases V3 hj with ⟨rfl,ht,_⟩|⟨hji,hj⟩
  ·injection ht with h1 h2
   injection h2 with h2
   subst h1 h2;rw[a.addr];exact hin p w hw
  ·have:=h.apart _ _ _ _ _ _ hji hj hi;have hp:=(List.getElem?_eq_some_iff.1 hw).1;rw[hout _ (by unfold QJ at this ⊢;omega)];exact m.words _ _ _ hj p w hw
theorem I9 {s:CS} (h:WF s) {mem:List Nat} (m:Va s mem) {i g:Nat} {e:Q7} (hi:s.tab[i]? = some ⟨g,some e⟩) {p x:Nat} (hp:p < e.ws.length):Va (VO s i g { e with ws:=e.ws.set p x }) (mem.set (e.addr+1+p) x):=by
 have hend:QJ e≤mem.length:=by rw[m.len];exact(h.obj i g e hi).2.1.1
 refine N6 (e':={ e with ws:=e.ws.set p x }) h m hi ⟨rfl,rfl,rfl,rfl,by show (e.ws.set p x).length=_;simp⟩ (by simp) ?_ ?_ ?_
 ·intro q w hw;have hw:(e.ws.set p x)[q]? = some w:=hw;rw[getElem?_set] at hw;by_cases hpq:p=q
  ·subst hpq;rw[if_pos rfl,if_pos hp] at hw;injection hw with hw
   subst hw;rw[getElem?_set_self (by unfold QJ at hend;omega)]
  ·rw[if_neg hpq] at hw;rw[getElem?_set_ne (by omega)];exact m.words _ _ _ hi q w hw
 ·rw[getElem?_set_ne (by omega)]
 ·intro k hk;rw[getElem?_set_ne (by unfold QJ at hk;omega)]
theorem aM {s:CS} (h:WF s) {mem:List Nat} (m:Va s mem) {i g:Nat} {e e':Q7} (hi:s.tab[i]? = some ⟨g,some e⟩) (a:Kl e e') (hw:e'.ws=e.ws):Va (VO s i g e') mem:=
 N6 h m hi a rfl (fun p w hp=>m.words _ _ _ hi p w (by rw[← hw];exact hp)) rfl (fun _ _=>rfl)
theorem aN {lays:List QM} {i:Nat} {e e':Q7} (h:X4 lays i e) (a:Kl e e') (hw:e'.ws=e.ws):X4 lays i e':=by
 obtain⟨m,l,h1,h2,h3,h4⟩:=h;exact⟨by rw[a.lay,a.count];exact m,l,by rw[a.lay];exact h1,h2,by rw[a.count,hw];exact h3,by rw[hw];exact h4⟩
theorem IQ {lays:List QM} {i:Nat} {e:Q7} (h:X4 lays i e) {l:QM} (hl:lays[e.lay - 1]? = some l) {p x:Nat} (hx:x < 18446744073709551616) (hr:VU l p=true→∃ k,Ga k∧x=VK k):X4 lays i { e with ws:=e.ws.set p x }:=by
 obtain⟨m,l',h1,h2,h3,h4⟩:=h;rw[hl] at h1;cases h1;refine⟨m,l,hl,h2,by simpa using h3,fun q w hw=>?_⟩;have hw:(e.ws.set p x)[q]? = some w:=hw;rw[getElem?_set] at hw;by_cases hpq:p=q
 ·subst hpq;rw[if_pos rfl] at hw;split at hw
  ·injection hw with hw
   subst hw;exact⟨hx,hr⟩
  ·cases hw
 ·rw[if_neg hpq] at hw;exact h4 q w hw
end Go.Proofs.YtmjdnljneifpcaaGreatDoor
