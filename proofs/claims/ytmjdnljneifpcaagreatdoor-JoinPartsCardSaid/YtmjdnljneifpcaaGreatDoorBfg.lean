/- Cells: what is proved on the way: every input of the statement; no condition. Texts joined: LayC LayD LayE RefA RefB RemA RmB TreA CelP. -/
import Derived.Test.YtmjdnljneifpcaaGreatDoorBfe
import Derived.Test.YtmjdnljneifpcaaGreatDoorBff
import Derived.Test.YtmjdnljneifpcaaGreatDoorBfc
set_option linter.unusedVariables false
set_option linter.unusedSimpArgs false
set_option linter.unusedSectionVars false
namespace Go.Proofs.YtmjdnljneifpcaaGreatDoor
open Go.SL
theorem Fq (x y z:Nat):Gw [x,y,z]=if x < 65536∧YK (CP x y z) then some (CP x y z) else none:=rfl
theorem pn [Q4] (v:Value) (n:Nat) (hn:n≠3) (hv:∃ a c,v = .slice a n c) {w:World} {fr:List Q2} (H:Q0 w fr) :
  Calls Tryz.prog 86 #[v] w (ret fun x w'=>x = .tuple #[GD 0 (.slice none 0 0) 0 (.slice none 0 0),.int .i64 4]∧Q0 w' fr):=by
 obtain⟨a,c,rfl⟩:=hv;refine QQ Tryz.func86 rfl (by kernel_rfl) ?_;refine YN H ?_;intro b2 w H;refine Mv H ?_;rw[show ((n:Int) != 3)=true by simp;omega];refine ID H ?_;intro w H;refine J0 H ?_;exact Q3 (Jz H (fun w' H' => .cellN H' rfl (by repeat first|exact .nil _|apply QY.cons rfl) (.tmp .nil)) fun w' H'=>⟨rfl,H'.drop⟩)
theorem po [Q4] (v:Value) (x y z:Nat) (hx:x < 18446744073709551616) (hy:y < 18446744073709551616) (hz:z < 18446744073709551616) {w:World} {fr:List Q2} [hT:Z5 0 Lib.deBruijn64tab fr] (hr:YM fr v 3 1 (Qj [x,y,z])) (H:Q0 w fr) :
  Calls Tryz.prog 86 #[v] w (ret fun r w'=>(Gw [x,y,z]=none∧r = .tuple #[GD 0 (.slice none 0 0) 0 (.slice none 0 0),.int .i64 4]∧Q0 w' fr) ∨
   ∃ l vr vq,Gw [x,y,z]=some l∧r = .tuple #[GD l.fixed vr l.record vq,.int .i64 0]∧Q0 w' (NL vr l.refs::NL vq l.recs::fr)):=by
 obtain⟨_,ad,cap,rfl,Ym⟩:=id hr
 rcases Ym with h|⟨b,o,E,fz,c,rfl,hA,Qv⟩
 ·omega
 haveI:=hA;have c0:c[o+0*1]? = some (.int .u64 x):=by have:=Qv.get 0 (.int .u64 x) (by simp[Qj]);simpa using this
 have c1:c[o+1*1]? = some (.int .u64 y):=by have:=Qv.get 1 (.int .u64 y) (by simp[Qj]);simpa using this
 have c2:c[o+2*1]? = some (.int .u64 z):=by have:=Qv.get 2 (.int .u64 z) (by simp[Qj]);simpa using this
 refine QQ Tryz.func86 rfl (by kernel_rfl) ?_;refine YN H ?_;intro b2 w H;refine F2 H ?_;refine Q5 rfl (Gm rfl rfl ?_);refine YT H ?_;refine J1 H ?_;intro w H;refine Ja 0 ?_;refine Ji 1 ?_;refine Y2 2 [4] H rfl (Q8.none rfl) rfl c0 (by kernel_rfl) ?_;refine Jo 3 H ?_;refine Jk rfl rfl (pm H) ?_;rintro v w H;refine Jo 4 H ?_;refine Jk rfl rfl (SB x hx _ AV pk (by decide) H) ?_;rintro v2 w ⟨u,rfl,H⟩;obtain⟨au,cu,rfl⟩:=QI H (m:=3) (by simp[Qj,AV]) (by decide);refine Ja 5 ?_;refine DP H ?_;refine Ja 9 ?_;refine Jx H ?_;obtain⟨bu,su,rfl,H,QU⟩:=VY H (by omega);have d0:(Qj (AV.map (GB x))++su)[0+0*1]? = some (.int .u64 (GB x (0,8))):=rfl;have d1:(Qj (AV.map (GB x))++su)[0+1*1]? = some (.int .u64 (GB x (8,8))):=rfl;have d2:(Qj (AV.map (GB x))++su)[0+2*1]? = some (.int .u64 (GB x (16,48))):=rfl
 have e8:IntKind.i64.wrap ((GB x (0,8):Nat):Int)=((x % 256:Nat):Int):=by
  rw[As (by have:=Nat.mod_lt (x / 2 ^ 0) (show 0 < 2 ^ 8 by decide);show x / 2 ^ 0 % 2 ^ 8 < _;omega)];show ((x / 2 ^ 0 % 2 ^ 8:Nat):Int)=_;simp
 have e16:IntKind.i64.wrap ((GB x (8,8):Nat):Int)=((x / 256 % 256:Nat):Int):=by
  rw[As (by have:=Nat.mod_lt (x / 2 ^ 8) (show 0 < 2 ^ 8 by decide);show x / 2 ^ 8 % 2 ^ 8 < _;omega)];rfl
 refine J6 H ?_
 refine Z0 (fun ms σ w=>ms=[]∧∃ b6 va vb,σ 2=pp b2∧σ 4 = .slice (some ⟨bu,0,none⟩) 3 cu∧σ 6=pp b6 ∧
  Q0 w (pts b6 (row 102 [.int .i64 ((x % 256:Nat):Int),va,.int .i64 ((x / 256 % 256:Nat):Int),vb])::NL va (YX y 64)::NL vb (YX z 64)::pts bu (row 83 (Qj (AV.map (GB x))++su))::pts b2 (row 102 [.int .i64 0,.slice none 0 0,.int .i64 0,.slice none 0 0])::fr)) ?_ ?_
 ·replace H:=Js [0,1] 1 H;refine J1 H ?_;intro w H;refine Ja 0 ?_;refine Ji 1 ?_;refine Y2 2 [18] H rfl (Q8.none rfl) rfl d0 (by kernel_rfl) ?_;refine Me H ?_;refine Ja 4 ?_;refine Ji 5 ?_;refine Y2 6 [7] H rfl (Q8.none rfl) rfl c1 (by kernel_rfl) ?_;refine Ja 8 ?_;refine Ji 9 ?_;refine Y2 10 [18] H rfl (Q8.none rfl) rfl d1 (by kernel_rfl) ?_;refine KI 11 rfl (Q8.none rfl) rfl (by kernel_rfl) ?_;refine Ja 12 ?_;refine Ji 13 ?_;refine Y2 14 [15] H rfl (Q8.none rfl) rfl c2 (by kernel_rfl) ?_;rw[e8,e16];refine Jw 7 17 H rfl rfl (V3 (a:=[]) (b:=[]) rfl rfl (call (JR y hy H) ?_)) (YW H rfl ?_)
  ·intro va w H;obtain⟨aa,ma,ca,rfl⟩:=VZ H;refine Jw 15 17 H rfl rfl (V3 (a:=[]) (b:=[]) rfl rfl (call (JR z hz H) ?_)) (YW H rfl ?_)
   ·intro vb w H;obtain⟨ab,mb,cb,rfl⟩:=VZ H;refine Uf 16 rfl (Q8.none rfl) rfl (by kernel_rfl) ?_;refine Jo 17 H ?_;refine YW H rfl ?_;intro b6 w H;refine Jo 18 H ?_;refine KM H ?_;intro w H;refine Jx H ?_;replace H:=Js [0,1,0,0,0] 0 H;exact .inl ⟨rfl,rfl,b6,_,_,rfl,rfl,rfl,H⟩
   ·intro b6 w H;refine Jo 15 H ?_;refine Jk rfl rfl (JR z hz H) ?_;intro vb w H;obtain⟨ab,mb,cb,rfl⟩:=VZ H;refine Uf 16 rfl (Q8.none rfl) rfl (by kernel_rfl) ?_;refine Jo 18 H ?_;refine KM H ?_;intro w H;refine Jx H ?_;replace H:=Js [1,1,0,0,0] 0 H;exact .inl ⟨rfl,rfl,b6,_,_,rfl,rfl,rfl,H⟩
  ·intro b6 w H;refine Jo 7 H ?_;refine Jk rfl rfl (JR y hy H) ?_;intro va w H;obtain⟨aa,ma,ca,rfl⟩:=VZ H;refine Jo 15 H ?_;refine Jk rfl rfl (JR z hz H) ?_;intro vb w H;obtain⟨ab,mb,cb,rfl⟩:=VZ H;refine Uf 16 rfl (Q8.none rfl) rfl (by kernel_rfl) ?_;refine Jo 18 H ?_;refine KM H ?_;intro w H;refine Jx H ?_;replace H:=Js [2,1,0,0,0] 0 H;exact .inl ⟨rfl,rfl,b6,_,_,rfl,rfl,rfl,H⟩
 ·rintro ms σ w ⟨rfl,b6,va,vb,g2,g4,g6,H⟩;rw[Q1 g2,Q1 g4,Q1 g6];have AY:=Fm y 64;have pq:=Fm z 64;obtain⟨aa,ca,rfl⟩:=QI (H.drop) (QM (YX y 64)) (by decide);obtain⟨ab,cb,rfl⟩:=QI (H.drop.drop) (QM (YX z 64)) (by decide);refine Z6 H ?_;refine Jd ?_;refine Q5 rfl (QC H rfl d2 rfl ?_);refine Jv ?_
  have hn:GB x (16,48)=x / 65536:=by
   show x / 2 ^ 16 % 2 ^ 48=_;rw[Nat.mod_eq_of_lt (by omega)]
  rw[hn];by_cases hb:x < 65536
  ·rw[show (((x / 65536:Nat):Int) != 0)=false by simp;omega];refine Jv ?_;refine DA H ?_;have h8:x / 256 % 256=x / 256:=Nat.mod_eq_of_lt (by omega);rw[h8] at H ⊢;replace H:=Js [1,1,0,0,0] 0 H;obtain⟨D1,H,Y5,Vo⟩:=sls_rd H (QM (YX y 64)) (by decide);obtain⟨D2,H,Zl,ZU⟩:=sls_rd H.swap (QM (YX z 64)) (by decide);refine Qe rfl rfl rfl (V3 (a:=[]) (b:=[]) rfl rfl (call (Sk _ _ (CP x y z) ⟨by show x % 256≤_;omega,by show x / 256≤_;omega,by show (YX y 64).length≤_;omega,by show (YX z 64).length≤_;omega⟩ ⟨(Y5 _).there,Zl _⟩ H) ?_));rintro v w ⟨⟨q,rfl,hq⟩,H⟩;have H:=(Vo _ _ (ZU _ _ H).swap);cases q with
   | true=>
    refine WQ H ?_;refine Ay H ?_;intro w H;refine J0 H ?_;replace H:=Js [4,0,0] 2 H;refine Q3 (Jz H (fun w' H' => .cellN H' rfl (by repeat first|exact .nil _|apply QY.cons rfl) (.tmp .nil)) fun w' H' => .inr ⟨CP x y z,_,_,?_,rfl,H'.drop⟩);rw[Fq];rw[if_pos ⟨hb,hq.1 rfl⟩]
   | false=>
    refine Zq H ?_;refine B2 H ?_;intro w H;refine J0 H ?_;replace H:=Js [4] 4 H;refine Q3 (Jz H (fun w' H' => .cellN H' rfl (by repeat first|exact .nil _|apply QY.cons rfl) (.tmp .nil)) fun w' H' => .inl ⟨?_,rfl,H'.drop⟩);rw[Fq];rw[if_neg];rintro⟨_,h2⟩;have:=hq.2 h2;cases this
  ·rw[show (((x / 65536:Nat):Int) != 0)=true by simp;omega];refine Mr H ?_;refine B2 H ?_;intro w H;refine J0 H ?_;replace H:=Js [4] 4 H;refine Q3 (Jz H (fun w' H' => .cellN H' rfl (by repeat first|exact .nil _|apply QY.cons rfl) (.tmp .nil)) fun w' H' => .inl ⟨?_,rfl,H'.drop⟩);rw[Fq];rw[if_neg];rintro⟨h1,_⟩;exact hb h1
open List
abbrev Gd:=Value×Value×Qa
@[reducible] def Yq (x:Gd):Q2:=star [NL x.1 x.2.2.refs,NL x.2.1 x.2.2.recs]
@[reducible] def Ny (x:Gd):List Value:=[.int .i64 x.2.2.fixed,x.1,.int .i64 x.2.2.record,x.2.1]
def Vf (l:List Gd):List Value:=l.flatMap Ny
theorem Ca (l:List Gd):(Vf l).length=l.length*4:=by
 induction l with
 | nil=>rfl
 | cons x l ih=>simp only[Vf,flatMap_cons,length_append,length_cons,length_nil] at *;omega
theorem fp (a b:List Gd):Vf (a++b)=Vf a++Vf b:=by simp[Vf]
theorem fq:∀ {L:List Gd} {i:Nat} {x:Gd},L[i]? = some x→(Vf L)[i*4]? = some (.int .i64 x.2.2.fixed)∧(Vf L)[i*4+1]? = some x.1∧(Vf L)[i*4+2]? = some (.int .i64 x.2.2.record)∧(Vf L)[i*4+3]? = some x.2.1
 | y::L,0,x,h=>by
  simp at h;subst h;simp[Vf]
 | y::L,i+1,x,h=>by
  have:=fq (L:=L) (i:=i) (by simpa using h);have e:Vf (y::L)=Ny y++Vf L:=by simp[Vf]
  rw[e];rw[show (i+1)*4=i*4+4 by omega];simpa [Ny] using this
theorem Nz {L:List Gd} {spare:List Value} {i:Nat} {x:Gd} (h:L[i]? = some x):QY (Vf L++spare) (0+i*4) 4 (Ny x):=by
 obtain⟨h0,h1,h2,h3⟩:=fq h;have hl:=(List.getElem?_eq_some_iff.1 h3).1;rw[Nat.zero_add];refine QY.cons ?_ (QY.cons ?_ (QY.cons ?_ (QY.cons ?_ (QY.nil _))))
 all_goals rw[getElem?_append_left (by omega)]
 ·exact h0
 ·exact h1
 ·exact h2
 ·exact h3
def Qq (p:Nat) (ls:List Qa):Q2:=ex fun q:Value×List Gd=>star [prop (q.2.map (·.2.2)=ls∧ls.length≤64∧∀ x∈ls,YK x),pts p (row 242 [q.1]),QF 102 4 q.1 (Vf q.2),star (q.2.map Yq)]
theorem Sm [Q4] {w:World} {p:Nat} {ls:List Qa} {l:List Q2} (H:Q0 w (Qq p ls::l)):∃ v q,(q.map (·.2.2)=ls∧ls.length≤64∧∀ x∈ls,YK x)∧Q0 w (pts p (row 242 [v])::QF 102 4 v (Vf q)::star (q.map Yq)::l):=by
 obtain⟨⟨v,q⟩,H⟩:=Q0.ex.1 H;have H:=Q0.star.1 H;obtain⟨h,H⟩:=Q0.prop.1 H;exact⟨v,q,h,H⟩
theorem Fr [Q4] {w:World} {p:Nat} {ls:List Qa} {l:List Q2} {v:Value} {q:List Gd} (h:q.map (·.2.2)=ls∧ls.length≤64∧∀ x∈ls,YK x) (H:Q0 w (pts p (row 242 [v])::QF 102 4 v (Vf q)::star (q.map Yq)::l)):Q0 w (Qq p ls::l):=
 Q0.ex.2 ⟨(v,q),Q0.star.2 (Q0.prop.2 ⟨h,H⟩)⟩
theorem pr [Q4] {w:World} {fr:List Q2} (H:Q0 w fr):Calls Tryz.prog 82 #[] w (ret fun v w'=>∃ p,v=pp p∧Q0 w' (Qq p []::fr)):=by
 refine QQ Tryz.func82 rfl (by kernel_rfl) ?_;refine Md H ?_;refine Rj H ?_;intro b2 w H;refine J0 H ?_;have H:Q0 w (star (([]:List Gd).map Yq)::pts b2 (row 242 [.slice none 0 0])::fr):=Q0.star.2 H;have H:=GK (E:=102) (k:=4) H;replace H:=Js [2,0,0] 0 H;exact Q3 (Jy (Fr (q:=[]) ⟨rfl,by simp,by simp⟩ H) rfl fun w' H'=>⟨_,rfl,H'⟩)
theorem pt [Q4] (p:Nat) (ls:List Qa) (vr vq:Value) (l:Qa) (hR:YK l) {w:World} {fr:List Q2} (hr:R4 fr vr vq l) (H:Q0 w (Qq p ls::fr)) :
  Calls Tryz.prog 87 #[pp p,GD l.fixed vr l.record vq] w (ret fun x w'=>(ls.length=64∧x = .tuple #[.int .i64 0,.int .i64 5]∧Q0 w' (Qq p ls::fr)) ∨
   (ls.length < 64∧x = .tuple #[.int .i64 ((ls.length+1:Nat):Int),.int .i64 0]∧Q0 w' (Qq p (ls++[l])::fr))):=by
 obtain⟨_,ad1,cap1,rfl,ZG⟩:=id hr.r;obtain⟨_,ad2,cap2,rfl,KS⟩:=id hr.q;obtain⟨v,q,⟨hq,Qw,Z3⟩,H⟩:=Sm H;have Sn:q.length=ls.length:=by rw[← hq,length_map]
 obtain⟨av,cv,rfl⟩:=QI H.drop (Ca q) (by decide);refine QQ Tryz.func87 rfl (by kernel_rfl) ?_;refine J8 H ?_;intro b3 w H;refine Av H ?_;refine Z0 (fun ms σ w=>ms=[]∧ls.length < 64∧σ 0=pp p∧σ 3=pp b3∧Q0 w (pts b3 (row 102 [.int .i64 l.fixed,.slice ad1 l.refs.length cap1,.int .i64 l.record,.slice ad2 l.recs.length cap2])::pts p (row 242 [.slice av q.length cv])::QF 102 4 (.slice av q.length cv) (Vf q)::star (q.map Yq)::fr)) ?_ ?_
 ·refine CZ H ?_;refine XL H ?_;refine Jc rfl rfl (Sk _ _ l hR.small hr.there.there.there.there H) ?_;rintro v w ⟨⟨b,rfl,hb⟩,H⟩;obtain rfl:=hb.2 hR;refine Aw H ?_;refine Mw H ?_;refine J4 H ?_;by_cases Y3:q.length=64
  ·rw[show ((q.length:Int) == 64)=true by simp;omega];refine G7 H ?_;exact Q3 (.inr ⟨by simp,Jy (Fr ⟨hq,Qw,Z3⟩ H.drop) rfl fun w' H' => .inl ⟨by omega,rfl,H'⟩⟩)
  ·rw[show ((q.length:Int) == 64)=false by simp;omega];refine Vk H ?_;exact .inl ⟨rfl,rfl,by omega,rfl,rfl,H⟩
 ·rintro ms σ w ⟨rfl,Y3,g0,g3,H⟩;rw[Q1 g0,Q1 g3];refine J1 H ?_;intro w H;refine CX H ?_;refine Jl 4 [8,11] H ?_;refine Vz 5 [6,7,8,11] H rfl (Q8.none rfl) rfl (by repeat first|exact .nil _|apply QY.cons rfl) (by kernel_rfl) ?_;refine Jo 6 H ?_;refine Jk rfl rfl (fm _ _ l hR.small hr.there.there.there.there H) ?_;rintro v w ⟨vr',vq',rfl,H⟩;obtain⟨a4,m4,c4,rfl⟩:=VZ H;obtain⟨a5,m5,c5,rfl⟩:=VZ H.swap
  refine Jo 7 H ?_;refine DC H ?_;intro b27 w H;replace H:=Js [5,0,3,0,0,1] 1 H;refine Jo 8 H ?_;refine ZY H rfl rfl (by repeat first|exact .nil _|apply QY.cons rfl) rfl (by decide) (by rw[Ca];simp only[length_cons,length_nil];omega) rfl rfl ?_;intro v28 w H
  have e1:Vf q++[.int .i64 l.fixed,.slice a4 m4 c4,.int .i64 l.record,.slice a5 m5 c5]=Vf (q++[(.slice a4 m4 c4,.slice a5 m5 c5,l)]):=by
   rw[fp];rfl
  rw[e1] at H;have So:(q++[((.slice a4 m4 c4:Value),(.slice a5 m5 c5:Value),l)]).length=ls.length+1:=by simp[Sn]
  obtain⟨a28,c28,rfl⟩:=QI H (m:=ls.length+1) (by rw[Ca,So]) (by decide);refine Ja 9 ?_;refine Jf 10 ?_;refine Jo 11 H ?_;refine XM H ?_;intro w H;refine Jx H ?_;refine Mw H ?_;refine J4 H ?_;replace H:=Js [2,0,1,1,1] 1 H
  have H1:Q0 w (star ((q++[((.slice a4 m4 c4:Value),(.slice a5 m5 c5:Value),l)]).map Yq)::pts p (row 242 [.slice a28 (ls.length+1) c28])::QF 102 4 (.slice a28 (ls.length+1) c28) (Vf (q++[(.slice a4 m4 c4,.slice a5 m5 c5,l)]))::fr):=by
   refine(Q0.pick (x:=((.slice a4 m4 c4:Value),(.slice a5 m5 c5:Value),l)) (g1:=q) (g2:=[]) rfl).2 ?_;rw[append_nil];refine Q0.star.2 ?_;replace H:=Js [2,2,2,0,0] 0 H;exact H
  replace H1:=Js [1,1,0] 0 H1
  have H2:=Fr (ls:=ls++[l]) (q:=q++[((.slice a4 m4 c4:Value),(.slice a5 m5 c5:Value),l)]) ⟨by rw[map_append,hq];rfl,by simp;omega,fun x hx=>by
   rcases mem_append.1 hx with hx|hx
   ·exact Z3 x hx
   ·simp at hx;subst hx;exact hR⟩ H1
  exact Q3 (Jy H2 rfl fun w' H' => .inr ⟨Y3,rfl,H'⟩)
theorem pu [Q4] (p:Nat) (ls:List Qa) (id:Int) (Qx:id < 1∨(ls.length:Int) < id) {w:World} {fr:List Q2} (H:Q0 w (Qq p ls::fr)) :
  Calls Tryz.prog 88 #[pp p,.int .i64 id] w (ret fun x w'=>x = .tuple #[GD 0 (.slice none 0 0) 0 (.slice none 0 0),.int .i64 6]∧Q0 w' (Qq p ls::fr)):=by
 obtain⟨v,q,⟨hq,Qw,Z3⟩,H⟩:=Sm H;have Sn:q.length=ls.length:=by rw[← hq,length_map]
 obtain⟨av,cv,rfl⟩:=QI H.drop (Ca q) (by decide);refine QQ Tryz.func88 rfl (by kernel_rfl) ?_;refine YN H ?_;intro b4 w H;refine Yn H ?_;refine Mx H ?_;by_cases h1:id < 1
 ·rw[show decide (id < 1)=true from decide_eq_true (by omega)];refine Ib H ?_;refine My H ?_;intro w H;refine J0 H ?_;exact Q3 (Jz H (fun w' H' => .cellN H' rfl (by repeat first|exact .nil _|apply QY.cons rfl) (.tmp .nil)) fun w' H'=>⟨rfl,Fr ⟨hq,Qw,Z3⟩ H'.drop⟩)
 ·rw[show decide (id < 1)=false from decide_eq_false (by omega)];refine B3 H ?_;rw[show decide (id > (q.length:Int))=true from decide_eq_true (by omega)];refine My H ?_;intro w H;refine J0 H ?_;exact Q3 (Jz H (fun w' H' => .cellN H' rfl (by repeat first|exact .nil _|apply QY.cons rfl) (.tmp .nil)) fun w' H'=>⟨rfl,Fr ⟨hq,Qw,Z3⟩ H'.drop⟩)
theorem pw [Q4] (p:Nat) (ls:List Qa) (k:Nat) (l:Qa) (hk:ls[k]? = some l) {w:World} {fr:List Q2} (H:Q0 w (Qq p ls::fr)) :
  Calls Tryz.prog 88 #[pp p,.int .i64 ((k:Int)+1)] w (ret fun x w'=>∃ vr vq,x = .tuple #[GD l.fixed vr l.record vq,.int .i64 0]∧Q0 w' (NL vr l.refs::NL vq l.recs::Qq p ls::fr)):=by
 obtain⟨v,q,⟨hq,Qw,Z3⟩,H⟩:=Sm H;have Sn:q.length=ls.length:=by rw[← hq,length_map]
 have VC:k < ls.length:=(List.getElem?_eq_some_iff.1 hk).1;obtain⟨av,cv,rfl⟩:=QI H.drop (Ca q) (by decide);have hR:YK l:=Z3 l (mem_of_getElem? hk)
 obtain⟨x,hx,Fs⟩:∃ x,q[k]? = some x∧x.2.2=l:=by
  rw[← hq,getElem?_map,Option.map_eq_some_iff] at hk;exact hk
 obtain⟨vr,vq,l'⟩:=x;obtain rfl:l'=l:=Fs;have ft:q=q.take k++(vr,vq,l')::q.drop (k+1):=split_at hx;refine QQ Tryz.func88 rfl (by kernel_rfl) ?_;refine YN H ?_;intro b4 w H;refine Yn H ?_;refine Z0 (fun ms σ w=>ms=[]∧σ 0=pp p∧σ 1 = .int .i64 ((k:Int)+1)∧σ 4=pp b4∧Q0 w (pts b4 (row 102 [.int .i64 0,.slice none 0 0,.int .i64 0,.slice none 0 0])::pts p (row 242 [.slice av q.length cv])::QF 102 4 (.slice av q.length cv) (Vf q)::star (q.map Yq)::fr)) ?_ ?_
 ·refine Mx H ?_;rw[show decide ((k:Int)+1 < 1)=false from decide_eq_false (by omega)];refine B3 H ?_;rw[show decide ((k:Int)+1 > (q.length:Int))=false from decide_eq_false (by omega)];refine DN H ?_;exact .inl ⟨rfl,rfl,rfl,rfl,rfl,H⟩
 ·rintro ms σ w ⟨rfl,g0,g1,g4,H⟩;rw[Q1 g0,Q1 g1,Q1 g4];replace H:=Js [3,2,0,0] 0 H;have H:=Q0.star.1 ((Q0.pick ft).1 H);replace H:Q0 w (NL vr l'.refs::NL vq l'.recs::star ((q.take k++q.drop (k+1)).map Yq)::QF 102 4 (.slice av q.length cv) (Vf q)::pts b4 (row 102 [.int .i64 0,.slice none 0 0,.int .i64 0,.slice none 0 0])::pts p (row 242 [.slice av q.length cv])::fr):=H;obtain⟨ar,cr,rfl⟩:=QI H (QM _) (by decide);obtain⟨aq,cq,rfl⟩:=QI H.drop (QM _) (by decide);obtain⟨D1,H,Y5,Vo⟩:=sls_rd H (QM _) (by decide);obtain⟨D2,H,Zl,ZU⟩:=sls_rd H.swap (QM _) (by decide);replace H:=Js [3,0,0,0,0,0] 0 H;obtain⟨b,s,rfl,H,QU⟩:=VY H (by omega);refine X6 H ?_;rw[Qh (x:=(k:Int)+1 - 1) (by omega) (by omega),show (k:Int)+1 - 1=(k:Int) by omega];refine Jd ?_;refine Q5 rfl (Vy H rfl (Nz hx) rfl ?_);refine Jc rfl rfl (fm _ _ l' hR.small ⟨(Y5 _).there.there,(Zl _).there⟩ H) ?_;rintro v w ⟨vr',vq',rfl,H⟩;obtain⟨a4,m4,c4,rfl⟩:=VZ H;obtain⟨a5,m5,c5,rfl⟩:=VZ H.swap;refine J5 H ?_;intro w H;refine J0 H ?_;replace H:=Js [3,3,2,2,2,2,0,0] 0 H;replace H:=Vo _ _ (ZU _ _ H).swap;replace H:=Js [0,0,1,0,0,0,0,0] 0 H;replace H:Q0 w (star (q.map Yq)::_):=(Q0.pick ft).2 (Q0.star.2 H);replace H:=Js [1,1,2,2,1,0] 0 H;replace H:=QU _ _ H;replace H:=Js [1,1,1,1,0,0] 0 H;exact Q3 (Jz H (fun w' H' => .cellN H' rfl (by repeat first|exact .nil _|apply QY.cons rfl) (.tmp .nil)) fun w' H'=>⟨_,_,rfl,(Fr (l:=NL (.slice a4 m4 c4) l'.refs::NL (.slice a5 m5 c5) l'.recs::fr) ⟨hq,Qw,Z3⟩ (by have H':=H'.drop;replace H':=Q0.sel [2,2,2,0,0] 0 H';dsimp only[SL.sel,SL.pull,List.drop] at H';exact H')).sel [1,1,0] 0⟩)
def Ge (l:List Nat) (x:Nat):Nat:=l.countP (· < x)
theorem pz (l:List Nat) (x:Nat):(l.map fun a:Nat=>(a:Int)).contains (x:Int)=decide (x∈l):=by
 induction l with
 | nil=>simp
 | cons a l ih=>
  rw[map_cons,contains_cons,ih];by_cases h:x=a
  ·subst h;simp
  ·have:((x:Int) == (a:Int))=false:=by simp;omega
   simp[this,h]
theorem q9 (l:List Nat) (x:Nat):(l.map fun a:Nat=>(a:Int)).countP (· < (x:Int))=Ge l x:=by
 unfold Ge;rw[countP_map];congr 1
 funext a
 simp
theorem Ft [Q4] (v:Value) (l:List Nat) (hl:l.length≤1000000) (hs:l.Pairwise (· < ·)) (x:Nat) {w:World} {fr:List Q2} (hr:YM fr v l.length 1 (QH l)) (H:Q0 w fr) :
  Calls Tryz.prog 112 #[v,.int .i64 x] w (ret fun r w'=>r = .tuple #[.int .i64 (Ge l x:Nat),.bool (decide (x∈l))]∧Q0 w' fr):=by
 obtain⟨_,ad,cap,rfl,Ym⟩:=id hr;by_cases h0:l=[]
 ·subst h0;refine QQ Tryz.func112 rfl (by kernel_rfl) ?_;refine J3 H ?_;refine XN H ?_;refine Ic H ?_;refine Qd ?_;refine Qp (fun ms σ w q=>ms=[]∧σ 6 = .int .i64 0∧σ 7 = .int .i64 0∧σ 8 = .int .i64 0∧Q0 w fr) (m:=0) ⟨rfl,rfl,rfl,rfl,H⟩ ?_;rintro ms σ w q ⟨rfl,g6,g7,g8,H⟩;rw[Q1 g6,Q1 g7,Q1 g8];refine Ic H ?_;refine B0 H ?_;refine J9 H ?_;refine FV H ?_;refine IM H ?_;refine CG H ?_;refine CG H ?_;refine CG H ?_;refine Ms H ?_;refine ZT H ?_;refine J0 H ?_;exact Q3 (Jy H rfl fun w' H'=>⟨rfl,H'⟩)
 ·rcases Ym with h|⟨b,o,E,fz,c,rfl,hA,Qv⟩
  ·exact absurd (eq_nil_of_length_eq_zero h) h0
  haveI:=hA
  have hc:∀ j,j < l.length→w.cell? ⟨b,o+j,none⟩=some (.int .i64 (l.getD j 0)):=fun j hj=>by
   refine Ud H.at ?_;rw[Nat.mul_one] at Qv;refine Qv.get j _ ?_;simp[QH,hj]
  have e1:∀ j,(l.map fun a:Nat=>(a:Int)).getD j 0=((l.getD j 0:Nat):Int):=fun j=>by
   simp only[getD_eq_getElem?_getD,getElem?_map];cases l[j]? <;> rfl
  have e2:(l.map fun a:Nat=>(a:Int)).take l.length=l.map fun a:Nat=>(a:Int):=take_of_length_le (by simp);refine(Any.slices_BinarySearch_int Tryz.laysBs b o l.length cap (l.map fun a:Nat=>(a:Int)) x w (by simp) (by omega) (fun j hj=>by rw[hc j (by simpa using hj),e1]) ?_).mono ?_
  ·rw[e2];refine List.Pairwise.map _ (fun a b h=>?_) hs;omega
  ·rintro e w' ⟨rfl,q,rfl⟩;refine⟨?_,H.heap rfl⟩;rw[e2,pz,q9]
theorem qQ [Q4] (vr vq:Value) (l:Qa) (hR:YK l) (count:Int) (place:Int) {n:Nat} (hz:Vh l count=(n,0)) (hp:place < 0∨(n:Int)≤place) {w:World} {fr:List Q2} (hr:R4 fr vr vq l) (H:Q0 w fr) :
  Calls Tryz.prog 204 #[GD l.fixed vr l.record vq,.int .i64 count,.int .i64 place] w (ret fun x w'=>x = .tuple #[.bool false,.int .i64 3]∧Q0 w' fr):=by
 obtain⟨_,ad1,cap1,rfl,ZG⟩:=id hr.r;obtain⟨_,ad2,cap2,rfl,KS⟩:=id hr.q;refine QQ Tryz.func204 rfl (by kernel_rfl) ?_;refine J8 H ?_;intro b3 w H;refine J4 H ?_;refine FU H ?_;refine Jc rfl rfl (JX _ _ l hR count hr.there H) ?_;rintro v w ⟨rfl,H⟩;rw[hz];refine DL H ?_;refine Qd ?_;refine FX H ?_;by_cases h1:place < 0
 ·rw[show decide (place < 0)=true from decide_eq_true (by omega)];refine Mr H ?_;refine J4 H ?_;refine G7 H ?_;exact Q3 (Jy H.drop rfl fun w' H'=>⟨rfl,H'⟩)
 ·rw[show decide (place < 0)=false from decide_eq_false (by omega)];refine DS H ?_;rw[show decide (place≥(n:Int))=true from decide_eq_true (by omega)];refine J4 H ?_;refine G7 H ?_;exact Q3 (Jy H.drop rfl fun w' H'=>⟨rfl,H'⟩)
theorem qV [Q4] (vr vq:Value) (l:Qa) (hR:YK l) (count:Int) (p:Nat) {n:Nat} (hz:Vh l count=(n,0)) (hp:p < n) {w:World} {fr:List Q2} (hr:R4 fr vr vq l) (H:Q0 w fr) :
  Calls Tryz.prog 204 #[GD l.fixed vr l.record vq,.int .i64 count,.int .i64 p] w (ret fun x w'=>x = .tuple #[.bool (Ve l p),.int .i64 0]∧Q0 w' fr):=by
 have Zi:=hR.small;obtain⟨z1,z2,z3,z4,z5⟩:=Sj hz;obtain⟨_,ad1,cap1,rfl,ZG⟩:=id hr.r;obtain⟨_,ad2,cap2,rfl,KS⟩:=id hr.q;refine QQ Tryz.func204 rfl (by kernel_rfl) ?_;refine J8 H ?_;intro b3 w H;refine J4 H ?_;refine FU H ?_;refine Jc rfl rfl (JX _ _ l hR count hr.there H) ?_;rintro v w ⟨rfl,H⟩;rw[hz];refine DL H ?_;refine Z0 (fun ms σ w=>ms=[]∧σ 2 = .int .i64 p∧σ 3=pp b3∧Q0 w (pts b3 (row 102 [.int .i64 l.fixed,.slice ad1 l.refs.length cap1,.int .i64 l.record,.slice ad2 l.recs.length cap2])::fr)) ?_ ?_
 ·refine Qd ?_;refine FX H ?_;rw[show decide ((p:Int) < 0)=false from decide_eq_false (by omega)];refine DS H ?_;rw[show decide ((p:Int)≥(n:Int))=false from decide_eq_false (by omega)];refine DN H ?_;exact .inl ⟨rfl,rfl,rfl,rfl,H⟩
 ·rintro ms σ w ⟨rfl,g2,g3,H⟩;rw[Q1 g2,Q1 g3];refine Mg H ?_;refine F2 H ?_;refine Gs H ?_;refine J0 H ?_;by_cases h1:p < l.fixed
  ·rw[show decide ((p:Int)≥(l.fixed:Int))=false from decide_eq_false (by omega)];refine FK H ?_;refine Jc rfl rfl (Ft _ l.refs Zi.a hR.2.2.2.1.2 p hr.r.there H) ?_;rintro v w ⟨rfl,H⟩;refine Gt H ?_;refine Vj H ?_;exact Q3 (Jy H.drop rfl fun w' H'=>⟨by unfold Ve;rw[if_pos h1];rfl,H'⟩)
  ·have Fu:l.record≠0:=by
    intro h0;rw[h0] at z3;omega
   have e1:IntKind.i64.wrap ((p:Int) - (l.fixed:Int))=((p - l.fixed:Nat):Int):=by rw[Qh (by omega) (by omega)];omega
   rw[show decide ((p:Int)≥(l.fixed:Int))=true from decide_eq_true (by omega)];refine J6 H ?_;refine Qt (fun ms σ w=>ms=[]∧σ 10 = .slice ad2 l.recs.length cap2∧σ 11 = .int .i64 (((p - l.fixed) % l.record:Nat):Int)∧Q0 w (pts b3 (row 102 [.int .i64 l.fixed,.slice ad1 l.refs.length cap1,.int .i64 l.record,.slice ad2 l.recs.length cap2])::fr)) ?_ ?_
   ·refine YU rfl ?_;refine J1 H ?_;intro w H;refine C8 H ?_;refine Jf 3 ?_;refine Jl 4 [] H ?_;refine Ja 5 ?_;refine Jf 6 ?_;refine Jl 7 [] H ?_;rw[e1]
    refine XF (v := .int .i64 (((p - l.fixed) % l.record:Nat):Int)) 8 rfl (Q8.none rfl) (by
     show (if IntKind.i64=IntKind.i64 then (if (l.record:Int)=0 then none else some (Value.int .i64 (Int.tmod ((p - l.fixed:Nat):Int) (l.record:Int)))) else none)=_;rw[if_pos rfl,if_neg (by omega),Int.tmod_eq_emod_of_nonneg (by omega),Int.natCast_emod]) (by kernel_rfl) ?_
    refine CQ H ?_;refine Jx H ?_;exact⟨rfl,rfl,rfl,rfl,H⟩
   ·rintro ms σ w ⟨rfl,g10,g11,H⟩;rw[Q1 g10,Q1 g11];refine J9 H ?_;refine Jc rfl rfl (Ft _ l.recs Zi.b hR.2.2.2.2.2 _ hr.q.there H) ?_;rintro v w ⟨rfl,H⟩;refine Gt H ?_;refine Vj H ?_;exact Q3 (Jy H.drop rfl fun w' H'=>⟨by unfold Ve;rw[if_neg h1];rfl,H'⟩)
theorem fw [Q4] (v:Value) (l:List Nat) (size:Nat) (hl:l.length≤1000000) {w:World} {fr:List Q2} (hr:YM fr v l.length 1 (QH l)) (H:Q0 w fr) :
  Calls Tryz.prog 262 #[v,.int .i64 size] w (ret fun x w'=>(∃ b,x = .bool b∧(b=true↔Rp l size))∧Q0 w' fr):=by
 obtain⟨_,ad,cap,rfl,hr⟩:=hr;refine QQ Tryz.func262 rfl (by kernel_rfl) ?_;refine Ie H ?_;refine Qp (fun ms σ w q=>ms=[]∧∃ (i:Nat) (t:Int),i≤l.length∧q=l.length - i∧Rp (l.take i) size∧((i=0∧t = -1)∨∃ y:Nat,(l.take i).getLast? = some y∧t=y)∧σ 0 = .slice ad l.length cap∧σ 1 = .int .i64 size∧σ 5 = .int .i64 t∧σ 6 = .int .i64 i∧Q0 w fr) (m:=l.length) ⟨rfl,0,-1,by omega,rfl,⟨by simp,by simp⟩,.inl ⟨rfl,rfl⟩,rfl,rfl,rfl,rfl,H⟩ ?_;rintro ms σ w q ⟨rfl,i,t,hi,rfl,hR,ht,g0,g1,g5,g6,H⟩;rw[Q1 g0,Q1 g1,Q1 g5,Q1 g6];refine B4 H ?_;refine Qk rfl (fun h=>QE ?_) (fun h=>Qu ?_)
 ·have Q6:i < l.length:=by omega
  have hx:=getElem?_eq_getElem Q6;have Qi:l.take (i+1)=l.take i++[l[i]]:=by rw[take_add_one,hx];rfl
  have VR:l[i]∈l:=getElem_mem Q6;have Gc:(l.take (i+1)).getLast? = some l[i]:=by rw[Qi,getLast?_concat]
  have gQ:∀ y:Nat,(l.take i).getLast? = some y→l.Pairwise (· < ·)→y < l[i]:=fun y hy hp=>by
   have pf:0 < i:=by
    rcases Nat.eq_zero_or_pos i with h0|h0
    ·subst h0;simp at hy
    ·exact h0
   rw[getLast?_eq_getElem?,length_take,Nat.min_eq_left hi,getElem?_take_of_lt (by omega),getElem?_eq_getElem (by omega)] at hy;have:=pairwise_iff_getElem.1 hp (i - 1) i (by omega) Q6 (by omega);injection hy with hy
   omega
  generalize l[i]=x at hx Qi VR Gc gQ
  rcases hr with hr|⟨b,o,E,fz,c,rfl,hA,Qv⟩
  ·omega
  haveI:=hA
  have BX:c[o+i*1]? = some (.int .i64 x):=by
   rw[Nat.mul_one];exact Qv.get i _ (by simp[QH,hx])
  refine A4 H ?_;refine Jd ?_;refine Q5 rfl (QC H rfl BX rfl ?_);refine ZT H ?_;by_cases h1:(x:Int)≤t
  ·rw[show decide ((x:Int)≤t)=true from decide_eq_true (by omega)];refine Mz H ?_;refine IS H ?_;refine Kw H ?_;refine Q3 (Jy H rfl fun w' H'=>⟨⟨false,rfl,⟨fun h=>(by cases h),fun h=>?_⟩⟩,H'⟩)
   rcases ht with ⟨_,rfl⟩|⟨y,hy,rfl⟩
   ·omega
   ·have:=gQ y hy h.2;omega
  ·rw[show decide ((x:Int)≤t)=false from decide_eq_false (by omega)];refine KO H ?_;refine Qe rfl rfl rfl (X4 rfl rfl (by omega) (by omega) rfl ?_);refine Qe rfl rfl rfl (QC H rfl BX rfl ?_);refine Gq H ?_;by_cases h2:x < size
   ·rw[show decide ((x:Int)≥(size:Int))=false from decide_eq_false (by omega)];refine YT H ?_;refine J9 H ?_;refine Jd ?_;refine Q5 rfl (QC H rfl BX rfl ?_);refine FR H ?_;refine⟨_,⟨rfl,i+1,x,Q6,rfl,?_,.inr ⟨x,Gc,rfl⟩,rfl,rfl,rfl,Qg (by omega),H⟩,by omega⟩;rw[Qi];refine⟨fun p hp=>?_,fk hR.2 fun z hz=>?_⟩
    ·simp at hp
     rcases hp with hp|rfl
     ·exact hR.1 p hp
     ·exact h2
    ·rcases ht with ⟨rfl,rfl⟩|⟨y,hy,rfl⟩
     ·simp at hz
     ·rw[hy] at hz;cases hz;omega
   ·rw[show decide ((x:Int)≥(size:Int))=true from decide_eq_true (by omega)];refine Kw H ?_;refine Q3 (Jy H rfl fun w' H'=>⟨⟨false,rfl,⟨fun h=>(by cases h),fun h=>?_⟩⟩,H'⟩);exact absurd (h.1 x VR) h2
 ·have V0:i=l.length:=by omega
  subst V0;rw[take_length] at hR;refine Vg H ?_;exact Q3 (Jy H rfl fun w' H'=>⟨⟨true,rfl,by simp[hR]⟩,H'⟩)
theorem gV [Q4] (v:Value) (l:List Nat) (x:Nat) (hl:l.length≤1000000) {w:World} {fr:List Q2} (hr:YM fr v l.length 1 (QH l)) (H:Q0 w fr) :
  Calls Tryz.prog 105 #[v,.int .i64 x] w (ret fun r w'=>r = .bool (decide (x∈l))∧Q0 w' fr):=by
 obtain⟨_,ad,cap,rfl,hr⟩:=hr;refine QQ Tryz.func105 rfl (by kernel_rfl) ?_;refine S8 H ?_;refine Qp (fun ms σ w q=>ms=[]∧∃ i:Nat,i≤l.length∧q=l.length - i∧x∉l.take i∧σ 0 = .slice ad l.length cap∧σ 1 = .int .i64 x∧σ 5 = .int .i64 i∧Q0 w fr) (m:=l.length) ⟨rfl,0,by omega,rfl,by simp,rfl,rfl,rfl,H⟩ ?_;rintro ms σ w q ⟨rfl,i,hi,rfl,hn,g0,g1,g5,H⟩;rw[Q1 g0,Q1 g1,Q1 g5];refine B4 H ?_;refine Qk rfl (fun h=>QE ?_) (fun h=>Qu ?_)
 ·have Q6:i < l.length:=by omega
  have hx:=getElem?_eq_getElem Q6;have Qi:l.take (i+1)=l.take i++[l[i]]:=by rw[take_add_one,hx];rfl
  have VR:l[i]∈l:=getElem_mem Q6;generalize l[i]=y at hx Qi VR
  rcases hr with hr|⟨b,o,E,fz,c,rfl,hA,Qv⟩
  ·omega
  haveI:=hA
  have BX:c[o+i*1]? = some (.int .i64 y):=by
   rw[Nat.mul_one];exact Qv.get i _ (by simp[QH,hx])
  refine A4 H ?_;refine Jd ?_;refine Q5 rfl (QC H rfl BX rfl ?_);refine J4 H ?_;by_cases h1:y=x
  ·subst h1;rw[show ((y:Int) == (y:Int))=true by simp];refine ZB H ?_;exact Q3 (Jy H rfl fun w' H'=>⟨by rw[decide_eq_true VR];rfl,H'⟩)
  ·rw[show ((y:Int) == (x:Int))=false by simp;omega];refine FG H ?_;refine⟨_,⟨rfl,i+1,Q6,rfl,?_,rfl,rfl,Qg (by omega),H⟩,by omega⟩;rw[Qi];simp only[mem_append,mem_singleton];rintro(h|h)
   ·exact hn h
   ·exact h1 h.symm
 ·have V0:i=l.length:=by omega
  subst V0;rw[take_length] at hn;refine Vg H ?_;exact Q3 (Jy H rfl fun w' H'=>⟨by rw[decide_eq_false hn];rfl,H'⟩)
theorem JW [Q4] (x:Nat) (hx:x < 18446744073709551616) {w:World} {fr:List Q2} (H:Q0 w fr) :
  Calls Tryz.prog 253 #[.int .u64 x] w (ret fun v w'=>Q0 w' (NL v (YX x 64)::fr)):=by
 refine QQ Tryz.func253 rfl (by kernel_rfl) ?_;refine Ie H ?_;refine Qp (fun ms σ w n=>ms=[]∧∃ (k:Nat) (g:Value),k≤64∧n=64 - k∧σ 0 = .int .u64 ((x / 2 ^ k:Nat):Int)∧σ 3=g∧σ 4 = .int .i64 k∧Q0 w (NL g (YX x k)::fr)) (m:=64) ⟨rfl,0,_,by omega,rfl,by simp;rfl,rfl,rfl,GK H⟩ ?_;rintro ms σ w n ⟨rfl,k,g,hk,rfl,g0,g3,g4,H⟩;obtain⟨ag,mg,cg,rfl⟩:=VZ H;rw[Q1 g0,Q1 g3,Q1 g4];refine J3 H ?_;by_cases Y3:k < 64
 ·rw[show decide ((k:Int) < 64)=true from decide_eq_true (by omega)];refine J6 H ?_;refine A3 H ?_;have qY:x / 2 ^ k≤x:=Nat.div_le_self _ _;have Uk:x.testBit k=decide (x / 2 ^ k % 2=1):=Nat.testBit_eq_decide_div_mod_eq;have gY:x / 2 ^ (k+1)=x / 2 ^ k / 2:=by rw[Nat.pow_succ,Nat.div_div_eq_div_mul]
  generalize hy:x / 2 ^ k=y at qY Uk gY;have qZ:Int.tmod (y:Int) 2=((y % 2:Nat):Int):=by rw[Int.tmod_eq_emod_of_nonneg (by omega)];omega
  have qG:IntKind.u64.wrap (Int.tdiv (y:Int) 2)=((y / 2:Nat):Int):=by
   rw[Int.tdiv_eq_ediv_of_nonneg (by omega),show (y:Int) / 2=((y / 2:Nat):Int) by omega,Kr (by omega)]
  refine A4 H ?_;rw[qZ];refine Yn H ?_;refine Qt (fun ms σ w=>ms=[]∧∃ g:Value,σ 0 = .int .u64 y∧σ 3=g∧σ 4 = .int .i64 k∧Q0 w (NL g (YX x (k+1))::fr)) ?_ ?_
  ·by_cases h1:y % 2=1
   ·have e2:YX x (k+1)=YX x k++[k]:=by rw[Nu,Uk,decide_eq_true h1];rfl
    rw[show (((y % 2:Nat):Int) == 1)=true by simp;omega];refine YU rfl ?_;refine If H ?_;intro b14 w H;refine Q5 rfl (ZY H.swap rfl rfl (by repeat first|exact .nil _|apply QY.cons rfl) rfl (by decide) (by rw[QM];have:=Fm x k;simp only[length_cons,length_nil];omega) rfl rfl ?_);intro v15 w H;obtain⟨a15,m15,c15,rfl⟩:=VZ H;refine J0 H ?_;refine⟨rfl,rfl,_,rfl,rfl,rfl,?_⟩;rw[e2];show Q0 w (QF _ 1 _ (QH (YX x k++[k]))::_);rw[BU];exact Q0.drop H.swap
   ·have e2:YX x (k+1)=YX x k:=by rw[Nu,Uk,decide_eq_false h1];simp
    rw[show (((y % 2:Nat):Int) == 1)=false by simp;omega];refine Vw rfl (QE ?_);exact⟨rfl,rfl,_,rfl,rfl,rfl,by rw[e2];exact H⟩
  ·rintro ms σ w ⟨rfl,g,g0,g3,g4,H⟩;obtain⟨ag,mg,cg,rfl⟩:=VZ H;rw[Q1 g0,Q1 g3,Q1 g4];refine J9 H ?_;rw[qG];refine FR H ?_;exact⟨_,⟨rfl,k+1,_,Y3,rfl,by rw[gY];rfl,rfl,Qg (by omega),H⟩,by omega⟩
 ·have qU:k=64:=by omega
  subst qU;rw[show decide (((64:Nat):Int) < 64)=false from rfl];refine J6 H ?_;refine B0 H ?_;refine J3 H ?_;exact Q3 (Jy H rfl fun w' H'=>H')
theorem gZ [Q4] (vr vq:Value) (l:Qa) (hs:Nw l) {w:World} {fr:List Q2} (hr:R4 fr vr vq l) (H:Q0 w fr) :
  Calls Tryz.prog 254 #[GD l.fixed vr l.record vq] w (ret fun x w'=>(∃ b,x = .bool b∧(b=true↔YK l))∧Q0 w' fr):=by
 obtain⟨s1,s2,s3,s4⟩:=hs;obtain⟨ZG,KS⟩:=hr;obtain⟨_,ad1,cap1,rfl,pi⟩:=id ZG;obtain⟨_,ad2,cap2,rfl,pj⟩:=id KS;refine QQ Tryz.func254 rfl (by kernel_rfl) ?_;refine J8 H ?_;intro b1 w H;refine J0 H ?_;refine Wy H ?_;rw[show decide ((l.fixed:Int) < 0)=false from decide_eq_false (by omega)];refine Ex H ?_;by_cases h1:l.fixed≤64
 ·rw[show decide ((l.fixed:Int) > 64)=false from decide_eq_false (by omega)];refine IX H ?_;rw[show decide ((l.record:Int) < 0)=false from decide_eq_false (by omega)];refine IX H ?_;by_cases h2:l.record≤64
  ·rw[show decide ((l.record:Int) > 64)=false from decide_eq_false (by omega)];refine YT H ?_;refine Mt H ?_;refine Jc rfl rfl (fw _ l.refs l.fixed s3 ZG.there H) ?_;rintro v w ⟨⟨b,rfl,hb⟩,H⟩;refine DE H ?_;refine Gs H ?_;refine Jc rfl rfl (fw _ l.recs l.record s4 KS.there H) ?_;rintro v w ⟨⟨c,rfl,hc⟩,H⟩;refine J0 H ?_
   have key:(b=true∧c=true∧l.fixed+l.record≠0)↔YK l:=by
    rw[hb,hc];exact⟨fun h=>⟨h1,h2,h.2.2,h.1,h.2.1⟩,fun h=>⟨h.2.2.2.1,h.2.2.2.2,h.2.2.1⟩⟩
   cases b with
   | false=>
    refine J9 H ?_;refine Qz rfl rfl rfl ?_;refine WK H ?_;refine Mu H ?_;exact Q3 (Jy H.drop rfl fun w' H'=>⟨⟨false,rfl,⟨fun h=>(by cases h),fun h=>(by have:=(key.2 h).1;cases this)⟩⟩,H'⟩)
   | true=>
    cases c with
    | false=>
     refine J9 H ?_;refine Zq H ?_;refine WK H ?_;refine Mu H ?_;exact Q3 (Jy H.drop rfl fun w' H'=>⟨⟨false,rfl,⟨fun h=>(by cases h),fun h=>(by have:=(key.2 h).2.1;cases this)⟩⟩,H'⟩)
    | true=>
     refine J9 H ?_;refine Zq H ?_;refine IX H ?_;by_cases h3:l.fixed > 0
     ·rw[show decide ((l.fixed:Int) > 0)=true from decide_eq_true (by omega)];refine Zq H ?_;refine B1 H ?_;refine A0 H ?_;exact Q3 (Jy H.drop rfl fun w' H'=>⟨⟨true,rfl,⟨fun _=>key.1 ⟨rfl,rfl,by omega⟩,fun _=>rfl⟩⟩,H'⟩)
     ·rw[show decide ((l.fixed:Int) > 0)=false from decide_eq_false (by omega)];refine Ia H ?_;by_cases h4:l.record > 0
      ·rw[show decide ((l.record:Int) > 0)=true from decide_eq_true (by omega)];refine A0 H ?_;exact Q3 (Jy H.drop rfl fun w' H'=>⟨⟨true,rfl,⟨fun _=>key.1 ⟨rfl,rfl,by omega⟩,fun _=>rfl⟩⟩,H'⟩)
      ·rw[show decide ((l.record:Int) > 0)=false from decide_eq_false (by omega)];refine A0 H ?_;exact Q3 (Jy H.drop rfl fun w' H'=>⟨⟨false,rfl,⟨fun h=>(by cases h),fun h=>(by have:=(key.2 h).2.2;omega)⟩⟩,H'⟩)
  ·rw[show decide ((l.record:Int) > 64)=true from decide_eq_true (by omega)];refine Kw H ?_;exact Q3 (Jy H.drop rfl fun w' H'=>⟨⟨false,rfl,⟨fun h=>(by cases h),fun h=>(by unfold YK at h;omega)⟩⟩,H'⟩)
 ·rw[show decide ((l.fixed:Int) > 64)=true from decide_eq_true (by omega)];refine IT H ?_;refine IT H ?_;refine Kw H ?_;exact Q3 (Jy H.drop rfl fun w' H'=>⟨⟨false,rfl,⟨fun h=>(by cases h),fun h=>(by unfold YK at h;omega)⟩⟩,H'⟩)
theorem qX [Q4] (vr vq:Value) (l:Qa) (hR:YK l) (count:Int) {w:World} {fr:List Q2} (hr:R4 fr vr vq l) (H:Q0 w fr) :
  Calls Tryz.prog 255 #[GD l.fixed vr l.record vq,.int .i64 count] w (ret fun x w'=>x = .tuple #[.int .i64 ((Vh l count).1:Nat),.int .i64 ((Vh l count).2:Nat)]∧Q0 w' fr):=by
 have hf:=hR.1;have hc:=hR.2.1;obtain⟨_,ad1,cap1,rfl,ZG⟩:=id hr.r;obtain⟨_,ad2,cap2,rfl,KS⟩:=id hr.q;refine QQ Tryz.func255 rfl (by kernel_rfl) ?_;refine J8 H ?_;intro b2 w H;refine J4 H ?_;refine XL H ?_;refine Jc rfl rfl (gZ _ _ l hR.small hr.there H) ?_;rintro v w ⟨⟨b,rfl,hb⟩,H⟩;obtain rfl:=hb.2 hR;refine Za H ?_;refine J6 H ?_;refine Qt (fun ms σ w=>ms=[]∧(∃ q,σ 26 = .bool q∧(q=true↔(count < 0∨count > 1024∨(count > 0∧l.record=0))))∧σ 1 = .int .i64 count∧σ 2=pp b2∧Q0 w (pts b2 (row 102 [.int .i64 l.fixed,.slice ad1 l.refs.length cap1,.int .i64 l.record,.slice ad2 l.recs.length cap2])::fr)) ?_ ?_
 ·refine J9 H ?_;by_cases c0:count < 0
  ·rw[show decide (count < 0)=true from decide_eq_true (by omega)];refine Jv ?_;refine Ig H ?_;refine CG H ?_;refine Qz rfl rfl rfl ?_;refine J0 H ?_;exact⟨rfl,rfl,⟨true,rfl,by simp[c0]⟩,rfl,rfl,H⟩
  ·rw[show decide (count < 0)=false from decide_eq_false (by omega)];refine KO H ?_;by_cases c1:count > 1024
   ·rw[show decide (count > 1024)=true from decide_eq_true (by omega)];refine WK H ?_;refine CG H ?_;refine Qz rfl rfl rfl ?_;refine J0 H ?_;exact⟨rfl,rfl,⟨true,rfl,by simp[c1]⟩,rfl,rfl,H⟩
   ·rw[show decide (count > 1024)=false from decide_eq_false (by omega)];refine IX H ?_;by_cases c3:l.record=0
    ·rw[show ((l.record:Int) == 0)=true by simp;omega];refine WZ H ?_;by_cases c2:count > 0
     ·rw[show decide (count > 0)=true from decide_eq_true (by omega)];refine Ml H ?_;exact⟨rfl,rfl,⟨true,rfl,by simp[c2,c3]⟩,rfl,rfl,H⟩
     ·rw[show decide (count > 0)=false from decide_eq_false (by omega)];refine Ml H ?_;exact⟨rfl,rfl,⟨false,rfl,by simp only[Bool.false_eq_true,false_iff];omega⟩,rfl,rfl,H⟩
    ·rw[show ((l.record:Int) == 0)=false by simp;omega];refine Zq H ?_;refine IS H ?_;refine Ml H ?_;exact⟨rfl,rfl,⟨false,rfl,by simp only[Bool.false_eq_true,false_iff];omega⟩,rfl,rfl,H⟩
 rintro ms σ w ⟨rfl,⟨q,g26,hq⟩,g1,g2,H⟩;rw[Q1 g26,Q1 g1,Q1 g2];cases q with
 | true=>
  have hs:Vh l count=(0,3):=by unfold Vh;rw[if_pos (hq.1 rfl)]
  refine G7 H ?_;exact Q3 (Jy H.drop rfl fun w' H'=>⟨by rw[hs];rfl,H'⟩)
 | false=>
  have Ww:¬ (count < 0∨count > 1024∨(count > 0∧l.record=0)):=fun h=>by have:=hq.2 h;cases this
  obtain⟨c,rfl⟩:∃ c:Nat,count=c:=⟨count.toNat,by omega⟩;have BR:c*l.record≤1024*64:=Nat.mul_le_mul (by omega) hc;have Sl:(l.record:Int)*(c:Int)=((c*l.record:Nat):Int):=by rw[Int.natCast_mul,Int.mul_comm]
  refine Vk H ?_;refine Mt H ?_;refine FW H ?_;refine Vj H ?_;rw[Sl,Qh (x:=((c*l.record:Nat):Int)) (by omega) (by omega),Qh (x:=(l.fixed:Int)+((c*l.record:Nat):Int)) (by omega) (by omega),Qh (x:=(l.fixed:Int)+((c*l.record:Nat):Int)+1) (by omega) (by omega)];by_cases c3:l.fixed+c*l.record≥8192
  ·have hs:Vh l (c:Int)=(0,10):=by unfold Vh;rw[if_neg Ww,if_pos (by simpa using c3)]
   rw[show decide ((l.fixed:Int)+((c*l.record:Nat):Int)+1 > 8192)=true from decide_eq_true (by omega)];refine G7 H ?_;exact Q3 (Jy H.drop rfl fun w' H'=>⟨by rw[hs];rfl,H'⟩)
  ·have hs:Vh l (c:Int)=(l.fixed+c*l.record,0):=by unfold Vh;rw[if_neg Ww,if_neg (by simpa using c3)];simp
   rw[show decide ((l.fixed:Int)+((c*l.record:Nat):Int)+1 > 8192)=false from decide_eq_false (by omega)];refine FG H ?_;exact Q3 (Jy H.drop rfl fun w' H'=>⟨by rw[hs];show Value.tuple #[.int .i64 ((l.fixed:Int)+((c*l.record:Nat):Int)),_]=_;rw[← Int.natCast_add];rfl,H'⟩)
theorem gG [Q4] (vr vq:Value) (l:Qa) (hR:YK l) (p:Nat) (hp:l.record≠0∨p < l.fixed) (GF:p < 1000000) {w:World} {fr:List Q2} (hr:R4 fr vr vq l) (H:Q0 w fr) :
  Calls Tryz.prog 39 #[GD l.fixed vr l.record vq,.int .i64 p] w (ret fun x w'=>x = .bool (Ve l p)∧Q0 w' fr):=by
 have Zi:=hR.small;obtain⟨_,ad1,cap1,rfl,ZG⟩:=id hr.r;obtain⟨_,ad2,cap2,rfl,KS⟩:=id hr.q;refine QQ Tryz.func39 rfl (by kernel_rfl) ?_;refine J8 H ?_;intro b2 w H;refine F2 H ?_;refine Gs H ?_;refine J0 H ?_;by_cases h1:p < l.fixed
 ·rw[show decide ((p:Int) < (l.fixed:Int))=true from decide_eq_true (by omega)];refine Vt H ?_;refine Wy H ?_;refine Jc rfl rfl (gV _ l.refs p Zi.a hr.r.there H) ?_;rintro v w ⟨rfl,H⟩;refine J0 H ?_;exact Q3 (Jy H.drop rfl fun w' H'=>⟨by unfold Ve;rw[if_pos h1];rfl,H'⟩)
 ·have e1:IntKind.i64.wrap ((p:Int) - (l.fixed:Int))=((p - l.fixed:Nat):Int):=by rw[Qh (by omega) (by omega)];omega
  rw[show decide ((p:Int) < (l.fixed:Int))=false from decide_eq_false (by omega)];refine N0 H ?_;intro w H;refine Jf 0 ?_;refine Jl 1 [9] H ?_;refine Ja 2 ?_;refine Jf 3 ?_;refine Jl 4 [9] H ?_;refine Ja 5 ?_;refine Jf 6 ?_;refine Jl 7 [9] H ?_;rw[e1]
  refine XF (v := .int .i64 (((p - l.fixed) % l.record:Nat):Int)) 8 rfl (Q8.none rfl) (by
   show (if IntKind.i64=IntKind.i64 then (if (l.record:Int)=0 then none else some (Value.int .i64 (Int.tmod ((p - l.fixed:Nat):Int) (l.record:Int)))) else none)=_;rw[if_pos rfl,if_neg (by omega),Int.tmod_eq_emod_of_nonneg (by omega),Int.natCast_emod]) (by kernel_rfl) ?_
  refine Jo 9 H ?_;refine Jk rfl rfl (gV _ l.recs _ Zi.b hr.q.there H) ?_;rintro v w ⟨rfl,H⟩;refine Ja 10 ?_;refine Jx H ?_;exact Q3 (Jy H.drop rfl fun w' H'=>⟨by unfold Ve;rw[if_neg h1];rfl,H'⟩)
abbrev Rf:=Int×Int
theorem Cb:XH Tryz.prog 133 kp:=eK inferInstance
theorem Vp:XH Tryz.prog 3 (ki .i64):=np inferInstance
@[reducible] def vm:Nat→Value:=fun b => .map (some b)
@[reducible] def v1:Int→Value:=fun x => .int .i64 x
@[reducible] def rf (r:Rf):Value := .agg #[.int .i64 r.1,.int .i64 r.2]
structure Gr where
 key:Int
 blk:Nat
 m:List (Rf×Int)
@[reducible] def Cc (g:Gr):Q2:=mp kp v1 g.blk g.m
@[reducible] def Um (g:Gr):Int×Nat:=(g.key,g.blk)
def mem (G:List Gr) (k:Int) (r:Rf):Prop:=∃ g∈G,g.key=k∧r∈g.m.map (·.1)
def R5 (bo:Nat) (S:Int→Rf→Prop):Q2:=ex fun G=>star [prop (∀ k r,mem G k r↔S k r),mp (ki .i64) vm bo (G.map Um),star (G.map Cc)]
theorem O0 [Q4] {w:World} {bo:Nat} {S:Int→Rf→Prop} {l:List Q2} (H:Q0 w (R5 bo S::l)) :
  ∃ G,(∀ k r,mem G k r↔S k r)∧Q0 w (mp (ki .i64) vm bo (G.map Um)::star (G.map Cc)::l):=by
 obtain⟨G,H⟩:=Q0.ex.1 H;have H:=Q0.star.1 H;obtain⟨h1,H⟩:=Q0.prop.1 H;exact⟨G,h1,H⟩
theorem AZ [Q4] {w:World} {bo:Nat} {S:Int→Rf→Prop} {l:List Q2} (G:List Gr) (h:∀ k r,mem G k r↔S k r) (H:Q0 w (mp (ki .i64) vm bo (G.map Um)::star (G.map Cc)::l)):Q0 w (R5 bo S::l):=
 Q0.ex.2 ⟨G,Q0.star.2 (Q0.prop.2 ⟨h,H⟩)⟩
theorem BW [Q4] {w:World} {K V:Type} {ek:K→Value} {vv:V→Value} (b:Nat) {m:List (K×V)} {l:List Q2} (H:Q0 w l) [Rb ek vv b m l]:(m.map (·.1)).Nodup:=by
 obtain⟨es,c,_,h⟩:=Q0.mp H (ek:=ek) (vv:=vv) (b:=b) (m:=m);exact h.nodup
theorem Dm (G:List Gr):(G.map Um).map (·.1)=G.map (·.key):=by simp[Um,Function.comp_def]
theorem O1 {G:List Gr} {k:Int} {b:Nat} (h:QV (G.map Um) k=some b):∃ g g1 g2,G=g1++g::g2∧g.key=k∧g.blk=b:=by
 have h1:=KE h;obtain⟨g,hg,e⟩:=mem_map.1 h1;obtain⟨g1,g2,rfl⟩:=append_of_mem hg;simp only[Um,Prod.mk.injEq] at e;exact⟨g,g1,g2,rfl,e.1,e.2⟩
theorem Dn {K V:Type} [DecidableEq K] {l1 l2:List (K×V)} {p:K×V} (h:((l1++p::l2).map (·.1)).Nodup):QO (l1++p::l2) p.1=l1++l2:=by
 induction l1 with
 | nil=>simp[QO]
 | cons q l1 ih=>
  simp only[cons_append,map_cons,nodup_cons] at h;have QA:q.1≠p.1:=fun e=>h.1 (by rw[e];simp);simp[QO,QA,ih h.2]
theorem Dp {g1 g2:List Gr} {g:Gr} {k:Int} {r:Rf}:mem (g1++g::g2) k r↔(g.key=k∧r∈g.m.map (·.1))∨mem (g1++g2) k r:=by
 unfold mem;simp only[mem_append,mem_cons];constructor
 ·rintro⟨x,hx|rfl|hx,h⟩
  ·exact .inr ⟨x,.inl hx,h⟩
  ·exact .inl h
  ·exact .inr ⟨x,.inr hx,h⟩
 ·rintro(h|⟨x,hx|hx,h⟩)
  ·exact⟨g,.inr (.inl rfl),h⟩
  ·exact⟨x,.inl hx,h⟩
  ·exact⟨x,.inr (.inr hx),h⟩
theorem Cd {G:List Gr} {k:Int} {r:Rf} (h:mem G k r):k∈G.map (·.key):=by
 obtain⟨g,hg,rfl,_⟩:=h;exact mem_map_of_mem hg
theorem JA {g1 g2:List Gr} {g:Gr} (h:((g1++g::g2).map (·.key)).Nodup):g.key∉(g1++g2).map (·.key):=by
 rw[((perm_middle (a:=g) (l₁:=g1) (l₂:=g2)).map (·.key)).nodup_iff] at h;exact(nodup_cons.1 h).1
theorem gU {g1 g2:List Gr} {g g':Gr} (hk:g'.key=g.key) (hn:((g1++g::g2).map (·.key)).Nodup) {k:Int} {r:Rf}:mem (g1++g'::g2) k r↔if k=g.key then r∈g'.m.map (·.1) else mem (g1++g::g2) k r:=by
 have hr:=JA hn;rw[Dp,Dp,hk];by_cases h:k=g.key
 ·subst h;simp only[if_true,true_and];exact⟨fun h=>h.elim id fun h=>absurd (Cd h) hr,.inl⟩
 ·rw[if_neg h];constructor
  ·rintro(⟨e,_⟩|h')
   ·exact absurd e.symm h
   ·exact .inr h'
  ·rintro(⟨e,_⟩|h')
   ·exact absurd e.symm h
   ·exact .inr h'
theorem gX [Q4] (bo:Nat) (S:Int→Rf→Prop) (k:Int) (r:Rf) {w:World} {fr:List Q2} (H:Q0 w (R5 bo S::fr)) :
  Calls Tryz.prog 126 #[.map (some bo),.int .i64 k,rf r] w (ret fun v w'=>Q0 w' (R5 bo (fun k' r'=>S k' r'∧¬ (k'=k∧r'=r))::fr)):=by
 obtain⟨a,b⟩:=r;refine QQ Tryz.func126 rfl (by kernel_rfl) ?_;obtain⟨G,hG,H⟩:=O0 H;refine J8 H ?_;intro b5 w H;refine DT H ?_;refine Q5 rfl (GO (key:=k) H rfl rfl Vp rfl ?_);have BA:=BW bo H;have hn:(G.map (·.key)).Nodup:=by rw[← Dm];exact BA
 cases hf:QV (G.map Um) k with
 | none=>
  refine CK H ?_;refine Q5 rfl (nt (key:=(a,b)) rfl rfl Cb rfl ?_);refine DT H ?_;refine Q5 rfl (GO (key:=k) H rfl rfl Vp rfl ?_);rw[hf];refine Q5 rfl (nu rfl rfl ?_);refine J0 H ?_;refine YU rfl ?_;refine J9 H ?_;refine Q5 rfl (Ws (key:=k) H rfl rfl Vp rfl ?_);intro w H;refine J2 H ?_;have hk:=D9.1 hf;rw[Hw hk] at H;refine Z2 _ (.inl rfl) (AZ G (fun k' r'=>?_) H.drop) rfl (fun w' H'=>H');rw[← hG k' r'];exact⟨fun h=>⟨h,fun e=>hk (by rw[Dm,← e.1];exact Cd h)⟩,(·.1)⟩
 | some bi=>
  obtain⟨g,g1,g2,rfl,rfl,rfl⟩:=O1 hf;have H:=(Q0.pick rfl).1 (H.pull 2);refine CK H ?_;have hi:=BW g.blk H;refine Q5 rfl (Ws (key:=(a,b)) H rfl rfl Cb rfl ?_);intro w H;refine DT H ?_;refine Q5 rfl (GO (key:=g.key) H rfl rfl Vp rfl ?_);rw[hf];refine Q5 rfl (Ek kp v1 H rfl rfl ?_);refine J0 H ?_;refine D4 rfl (fun ht=>?_) (fun ht=>?_)
  ·refine J9 H ?_;refine Q5 rfl (Ws (key:=g.key) H rfl rfl Vp rfl ?_);intro w H;refine J2 H ?_
   have e:QO ((g1++g::g2).map Um) g.key=(g1++g2).map Um:=by
    simp only[map_append,map_cons] at BA ⊢;exact Dn (p:=Um g) (by simpa using BA)
   rw[e] at H;refine Z2 _ (.inl rfl) (AZ (g1++g2) (fun k' r'=>?_) (l:=fr) ?_) rfl (fun w' H'=>H')
   ·have hr:=JA hn;have hz:QO g.m (a,b)=[]:=eq_nil_of_length_eq_zero (by simpa using ht);rw[← hG k' r',Dp];constructor
    ·intro h;exact⟨.inr h,fun e=>hr (by rw[← e.1];exact Cd h)⟩
    ·rintro⟨⟨rfl,h⟩|h,h2⟩
     ·have:=(Hx (m:=g.m) (x:=(a,b)) (y:=r') hi).2 ⟨fun e=>h2 ⟨rfl,e⟩,h⟩;rw[hz] at this;simp at this
     ·exact h
   ·replace H:=Js [3,1] 2 H;exact H
  ·refine QE ?_;replace H:=Js [0,0,1] 1 H;refine Z2 _ (.inl rfl) (AZ (g1++{ g with m:=QO g.m (a,b) }::g2) (fun k' r'=>?_) (l:=fr) ?_) rfl (fun w' H'=>H')
   ·rw[gU (g:=g) (g':={ g with m:=QO g.m (a,b) }) rfl hn,← hG k' r'];split
    ·rename_i e;subst e;rw[Hx hi,Dp];have hr:=JA hn;constructor
     ·rintro⟨h1,h2⟩;exact⟨.inl ⟨rfl,h2⟩,fun e=>h1 e.2⟩
     ·rintro⟨⟨_,h⟩|h,h2⟩
      ·exact⟨fun e=>h2 ⟨rfl,e⟩,h⟩
      ·exact absurd (Cd h) hr
    ·rename_i e;exact⟨fun h=>⟨h,fun e'=>e e'.1⟩,(·.1)⟩
   ·have H:=((Q0.pick (R:=Cc) (gs:=g1++{ g with m:=QO g.m (a,b) }::g2) rfl).2 H).swap;simpa only[map_append,map_cons,map_nil,Um] using H
theorem gK [Q4] (bo:Nat) (S:Int→Rf→Prop) (k:Int) (r:Rf) {w:World} {fr:List Q2} (H:Q0 w (R5 bo S::fr)) :
  Calls Tryz.prog 252 #[.map (some bo),.int .i64 k,rf r] w (ret fun v w'=>Q0 w' (R5 bo (fun k' r'=>S k' r'∨(k'=k∧r'=r))::fr)):=by
 obtain⟨a,b⟩:=r;refine QQ Tryz.func252 rfl (by kernel_rfl) ?_;obtain⟨G,hG,H⟩:=O0 H;refine J8 H ?_;intro b5 w H;refine DT H ?_;refine Q5 rfl (GO (key:=k) H rfl rfl Vp rfl ?_);have BA:=BW bo H;have hn:(G.map (·.key)).Nodup:=by rw[← Dm];exact BA
 cases hf:QV (G.map Um) k with
 | none=>
  refine Q5 rfl (eA rfl rfl (.inl rfl) rfl ?_);refine J2 H ?_;refine YU rfl ?_;refine J9 H ?_;refine Q5 rfl (Ao v1 kp H rfl ?_);intro b12 w H;refine Q5 rfl (W7 (key:=k) (v:=b12) H rfl rfl rfl Vp rfl ?_);intro w H;refine DT H ?_;have hk:=D9.1 hf;refine Q5 rfl (GO (key:=k) H rfl rfl Vp rfl ?_);have Sp:QV (Yh (G.map Um) k b12) k=some b12:=by rw[KD,if_pos rfl]
  rw[Sp];refine CK H ?_;refine Q5 rfl (W7 (key:=(a,b)) (v:=1) H rfl rfl rfl Cb rfl ?_);intro w H;refine J2 H ?_;rw[Wp hk] at H;replace H:=Js [0,2,1] 1 H;refine Z2 _ (.inl rfl) (AZ (G++{ key:=k,blk:=b12,m:=[((a,b),1)] }::[]) (fun k' r'=>?_) (l:=fr) ?_) rfl (fun w' H'=>H')
  ·rw[Dp,append_nil,hG k' r'];constructor
   ·rintro(⟨rfl,h⟩|h)
    ·exact .inr ⟨rfl,by simpa using h⟩
    ·exact .inl h
   ·rintro(h|⟨rfl,rfl⟩)
    ·exact .inr h
    ·exact .inl ⟨rfl,by simp⟩
  ·have H:=((Q0.pick (R:=Cc) (gs:=G++{ key:=k,blk:=b12,m:=[((a,b),1)] }::[]) rfl).2 (by rw[append_nil];exact H)).swap;simpa only[map_append,map_cons,map_nil,Um] using H
 | some bi=>
  obtain⟨g,g1,g2,rfl,rfl,rfl⟩:=O1 hf;have H:=(Q0.pick rfl).1 (H.pull 2);refine Q5 rfl (eA rfl rfl (.inl rfl) rfl ?_);refine J2 H ?_;refine Vw rfl (QE ?_);refine J9 H ?_;refine Q5 rfl (GO (key:=g.key) H rfl rfl Vp rfl ?_);rw[hf];refine CK H ?_;refine Q5 rfl (W7 (key:=(a,b)) (v:=1) H rfl rfl rfl Cb rfl ?_);intro w H;refine J2 H ?_;replace H:=Js [0,0,1] 1 H;refine Z2 _ (.inl rfl) (AZ (g1++{ g with m:=Yh g.m (a,b) 1 }::g2) (fun k' r'=>?_) (l:=fr) ?_) rfl (fun w' H'=>H')
  ·rw[gU (g:=g) (g':={ g with m:=Yh g.m (a,b) 1 }) rfl hn,← hG k' r'];split
   ·rename_i e;subst e;rw[e9,Dp];have hr:=JA hn;constructor
    ·rintro(h|h)
     ·exact .inr ⟨rfl,h⟩
     ·exact .inl (.inl ⟨rfl,h⟩)
    ·rintro((⟨_,h⟩|h)|⟨_,h⟩)
     ·exact .inr h
     ·exact absurd (Cd h) hr
     ·exact .inl h
   ·rename_i e;exact⟨.inl,fun h=>h.elim id fun e'=>absurd e'.1 e⟩
  ·have H:=((Q0.pick (R:=Cc) (gs:=g1++{ g with m:=Yh g.m (a,b) 1 }::g2) rfl).2 H).swap;simpa only[map_append,map_cons,map_nil,Um] using H
def RS (p:Nat) (m:List (Rf×Int)):Q2:=ex fun q:Nat×Nat×Nat=>
 star [pts p (row 148 [.map (some q.1),.map (some q.2.1),.map (some q.2.2)]),mp kp v1 q.1 m,R5 q.2.1 (fun k r=>QV m r=some k),R5 q.2.2 (fun k r=>r.1=k∧(QV m r).isSome=true)]
theorem Dq [Q4] {w:World} {p:Nat} {m:List (Rf×Int)} {l:List Q2} (H:Q0 w (RS p m::l)) :
  ∃ bt bo bf,Q0 w (pts p (row 148 [.map (some bt),.map (some bo),.map (some bf)])::mp kp v1 bt m::R5 bo (fun k r=>QV m r=some k)::R5 bf (fun k r=>r.1=k∧(QV m r).isSome=true)::l):=by
 obtain⟨⟨bt,bo,bf⟩,H⟩:=Q0.ex.1 H;exact⟨bt,bo,bf,Q0.star.1 H⟩
theorem BB [Q4] {w:World} {p:Nat} {m:List (Rf×Int)} {l:List Q2} {S T:Int→Rf→Prop} (bt bo bf:Nat) (hS:∀ k r,S k r↔QV m r=some k) (hT:∀ k r,T k r↔(r.1=k∧(QV m r).isSome=true))
  (H:Q0 w (pts p (row 148 [.map (some bt),.map (some bo),.map (some bf)])::mp kp v1 bt m::R5 bo S::R5 bf T::l)):Q0 w (RS p m::l):=by
 have e1:S=fun k r=>QV m r=some k:=by funext k r;exact propext (hS k r)
 have e2:T=fun k r=>r.1=k∧(QV m r).isSome=true:=by funext k r;exact propext (hT k r)
 subst e1 e2;exact Q0.ex.2 ⟨(bt,bo,bf),Q0.star.2 H⟩
theorem gR [Q4] {w:World} {bo:Nat} {l:List Q2} (H:Q0 w (mp (ki .i64) vm bo []::l)):Q0 w (R5 bo (fun _ _=>False)::l):=
 AZ [] (by simp[mem]) (Q0.swap ((Q0.star (k:=[])).2 H))
theorem qK [Q4] {w:World} {fr:List Q2} (H:Q0 w fr):Calls Tryz.prog 85 #[] w (ret fun v w'=>∃ p,v=pp p∧Q0 w' (RS p []::fr)):=by
 refine QQ Tryz.func85 rfl (by kernel_rfl) ?_;refine Ih H ?_;refine Q5 rfl (Ao v1 kp H rfl ?_);intro b1 w H;refine Q5 rfl (Ao vm (ki .i64) H rfl ?_);intro b2 w H;refine Q5 rfl (Ao vm (ki .i64) H rfl ?_);intro b3 w H;refine WG H ?_;intro b5 w H;refine J0 H ?_;refine Q3 ?_;replace H:=gR (H.pull 1);replace H:=gR (H.pull 2);replace H:=Js [2,2,0,0] 0 H;exact Jy H rfl (fun w' H'=>⟨b5,rfl,BB b1 b2 b3 (S:=fun _ _=>False) (T:=fun _ _=>False) (by simp[QV]) (by simp[QV]) H'⟩)
theorem qR (o:Option Int):DV (.int .i64 0) v1 o = .int .i64 (o.getD 0):=by cases o <;> rfl
theorem Sq [Q4] (p:Nat) (m:List (Rf×Int)) (r:Rf) {w:World} {fr:List Q2} (H:Q0 w (RS p m::fr)) :
  Calls Tryz.prog 114 #[pp p,rf r] w (ret fun v w'=>v = .tuple #[.int .i64 ((QV m r).getD 0),.bool (QV m r).isSome]∧Q0 w' (RS p m::fr)):=by
 obtain⟨a,b⟩:=r;refine QQ Tryz.func114 rfl (by kernel_rfl) ?_;obtain⟨bt,bo,bf,H⟩:=Dq H;refine J8 H ?_;intro b3 w H;refine N2 H ?_;refine J1 H ?_;intro w H;refine WX H ?_;refine Vz 4 [] H rfl (Q8.none rfl) rfl (by repeat first|exact .nil _|apply QY.cons rfl) (by kernel_rfl) ?_;refine Rc 5 [] (key:=(a,b)) H rfl (Q8.none rfl) rfl rfl Cb (by kernel_rfl) ?_;rw[qR];refine Ja 6 ?_;refine Da H ?_;refine Jx H ?_;refine Db H ?_;refine Q3 (Jy (BB bt bo bf (fun _ _=>Iff.rfl) (fun _ _=>Iff.rfl) H.drop) rfl fun w' H'=>⟨rfl,H'⟩)
theorem JB [Q4] (p:Nat) (m:List (Rf×Int)) (hm:(m.map (·.1)).Nodup) (r:Rf) {w:World} {fr:List Q2} (H:Q0 w (RS p m::fr)) :
  Calls Tryz.prog 62 #[pp p,rf r] w (ret fun v w'=>v = .bool (QV m r).isSome∧Q0 w' (RS p (QO m r)::fr)):=by
 obtain⟨a,b⟩:=r;refine QQ Tryz.func62 rfl (by kernel_rfl) ?_;refine J8 H ?_;intro b3 w H;refine B5 H ?_;refine Jc rfl rfl (Sq p m (a,b) H.swap) ?_;rintro v w ⟨rfl,H⟩;refine Rk H ?_;cases hf:QV m (a,b) with
 | none=>
  refine ZB H ?_;rw[Hw (D9.1 hf)];refine Q3 (Jy H.swap.drop rfl fun w' H'=>⟨rfl,H'⟩)
 | some t=>
  refine Vk H ?_;obtain⟨bt,bo,bf,H⟩:=Dq H;refine J1 H ?_;intro w H;refine N3 H ?_;refine Ws (key:=(a,b)) H rfl rfl Cb rfl ?_;intro w H;refine Jx H ?_;replace H:=Js [2,0,0,0,0] 0 H;refine J1 H ?_;intro w H;refine FA H ?_;refine Ja 4 ?_;refine Ii H ?_;refine Jk rfl rfl (gX bo _ t (a,b) H) ?_;intro v w H;refine Jx H ?_;replace H:=Js [3,0,0,0,0] 0 H;refine J1 H ?_;intro w H;refine Ja 0 ?_;refine Ja 1 ?_;refine Jf 2 ?_;refine Jl 3 [7] H ?_;refine Jf 4 ?_;refine Jl 5 [7] H ?_;refine N4 H ?_;refine Jk rfl rfl (gX bf _ a (a,b) H) ?_;intro v w H;refine II H ?_;replace H:=Js [2,2,1,0] 1 H;refine Q3 (Jy (BB bt bo bf (fun k r=>?_) (fun k r=>?_) H) rfl fun w' H'=>⟨rfl,H'⟩)
  ·rw[Wq hm];split
   ·rename_i e;subst e;rw[hf];simp;rintro rfl;rfl
   ·rename_i e;exact⟨(·.1),fun h=>⟨h,fun e'=>e e'.2.symm⟩⟩
  ·rw[Wq hm];split
   ·rename_i e;subst e;simp;rintro rfl _;rfl
   ·rename_i e;exact⟨(·.1),fun h=>⟨h,fun e'=>e e'.2.symm⟩⟩
theorem gW [Q4] (p:Nat) (m:List (Rf×Int)) (hm:(m.map (·.1)).Nodup) (r:Rf) (t:Int) {w:World} {fr:List Q2} (H:Q0 w (RS p m::fr)) :
  Calls Tryz.prog 226 #[pp p,rf r,.int .i64 t] w (ret fun v w'=>v = .bool (!(QV m r).isSome)∧Q0 w' (RS p (Yh (QO m r) r t)::fr)):=by
 obtain⟨a,b⟩:=r;refine QQ Tryz.func226 rfl (by kernel_rfl) ?_;refine J8 H ?_;intro b4 w H;refine FE H ?_;refine Xy H ?_;refine Jc rfl rfl (JB p m hm (a,b) H.swap) ?_;rintro v w ⟨rfl,H⟩;refine J0 H ?_;obtain⟨bt,bo,bf,H⟩:=Dq H;refine J1 H ?_;intro w H;refine FA H ?_;refine Ij H ?_;refine Ja 5 ?_;refine Jo 6 H ?_;refine W7 (key:=(a,b)) (v:=t) H rfl rfl rfl Cb rfl ?_;intro w H;refine Jx H ?_;replace H:=Js [2,0,0,0,0] 0 H;refine J1 H ?_;intro w H;refine FA H ?_;refine Ja 4 ?_;refine Ii H ?_;refine Jk rfl rfl (gK bo _ t (a,b) H) ?_;intro v w H;refine Jx H ?_;replace H:=Js [3,0,0,0,0] 0 H;refine J1 H ?_;intro w H;refine Ja 0 ?_;refine Ja 1 ?_;refine Jf 2 ?_;refine Jl 3 [7] H ?_;refine Jf 4 ?_;refine Jl 5 [7] H ?_;refine N4 H ?_;refine Jk rfl rfl (gK bf _ a (a,b) H) ?_;intro v w H;refine Jx H ?_;refine Vj H ?_;replace H:=Js [2,2,1,0] 1 H;have hn:=Wq hm (x:=(a,b)) (y:=(a,b));rw[if_pos rfl] at hn;refine Q3 (Jy (BB bt bo bf (fun k r=>?_) (fun k r=>?_) H) rfl fun w' H'=>⟨rfl,H'⟩)
 ·rw[KD];split
  ·rename_i e;subst e;rw[hn];simp;exact eq_comm
  ·rename_i e;exact⟨fun h=>h.elim id fun e'=>absurd e'.2.symm e,.inl⟩
 ·rw[KD];split
  ·rename_i e;subst e;rw[hn];simp;exact eq_comm
  ·rename_i e;exact⟨fun h=>h.elim id fun e'=>absurd e'.2.symm e,.inl⟩
theorem qW [Q4] (p:Nat) (m:List (Rf×Int)) {w:World} {fr:List Q2} (H:Q0 w (RS p m::fr)) :
  Calls Tryz.prog 18 #[pp p] w (ret fun v w'=>v = .int .i64 m.length∧Q0 w' (RS p m::fr)):=by
 refine QQ Tryz.func18 rfl (by kernel_rfl) ?_;obtain⟨bt,bo,bf,H⟩:=Dq H;refine A1 H ?_;refine Q5 rfl (Ek kp v1 H rfl rfl ?_);refine J0 H ?_;refine Q3 (Jy (BB bt bo bf (fun _ _=>Iff.rfl) (fun _ _=>Iff.rfl) H) rfl fun w' H'=>⟨rfl,H'⟩)
def Qo (p last:Nat) (par:List (Int×Int)):Q2:=ex fun b:Nat=>star [pts p (row 122 [.map (some b),.int .i64 last]),mp (ki .i64) v1 b par]
theorem BC [Q4] {w:World} {p last:Nat} {par:List (Int×Int)} {l:List Q2} (H:Q0 w (Qo p last par::l)):∃ b,Q0 w (pts p (row 122 [.map (some b),.int .i64 last])::mp (ki .i64) v1 b par::l):=by
 obtain⟨b,H⟩:=Q0.ex.1 H;exact⟨b,Q0.star.1 H⟩
theorem AG [Q4] {w:World} {p last b:Nat} {par:List (Int×Int)} {l:List Q2} (H:Q0 w (pts p (row 122 [.map (some b),.int .i64 last])::mp (ki .i64) v1 b par::l)):Q0 w (Qo p last par::l):=
 Q0.ex.2 ⟨b,Q0.star.2 H⟩
theorem Sr [Q4] {w:World} {p last:Nat} {par:List (Int×Int)} {l:List Q2} (H:Q0 w (Qo p last par::l)):(par.map (·.1)).Nodup:=by
 obtain⟨b,H⟩:=BC H;exact BW b H
theorem qA [Q4] {w:World} {fr:List Q2} (H:Q0 w fr):Calls Tryz.prog 84 #[] w (ret fun v w'=>∃ p,v=pp p∧Q0 w' (Qo p 0 []::fr)):=by
 refine QQ Tryz.func84 rfl (by kernel_rfl) ?_;refine Ih H ?_;refine Q5 rfl (Ao v1 (ki .i64) H rfl ?_);intro b1 w H;refine WG H ?_;intro b3 w H;refine J0 H ?_;exact Q3 (Jy H rfl fun w' H'=>⟨_,rfl,AG H'⟩)
theorem JC [Q4] (p last:Nat) (par:List (Int×Int)) (id:Int) {w:World} {fr:List Q2} (H:Q0 w (Qo p last par::fr)) :
  Calls Tryz.prog 46 #[pp p,.int .i64 id] w (ret fun v w'=>v = .bool (QV par id).isSome∧Q0 w' (Qo p last par::fr)):=by
 obtain⟨b,H⟩:=BC H;refine QQ Tryz.func46 rfl (by kernel_rfl) ?_;refine Dc H ?_;refine Q5 rfl (GO (key:=id) H rfl rfl Vp rfl ?_);refine FV H ?_;refine W6 rfl rfl ?_;refine ZZ H ?_;exact Q3 (Jy (AG H) rfl fun w' H'=>⟨rfl,H'⟩)
theorem JD [Q4] (p last:Nat) (par:List (Int×Int)) {w:World} {fr:List Q2} (H:Q0 w (Qo p last par::fr)) :
  Calls Tryz.prog 19 #[pp p] w (ret fun v w'=>v = .int .i64 par.length∧Q0 w' (Qo p last par::fr)):=by
 obtain⟨b,H⟩:=BC H;refine QQ Tryz.func19 rfl (by kernel_rfl) ?_;refine A1 H ?_;refine Q5 rfl (Ek (ki .i64) v1 H rfl rfl ?_);refine J0 H ?_;exact Q3 (Jy (AG H) rfl fun w' H'=>⟨rfl,H'⟩)
theorem Ss [Q4] (p last:Nat) (par:List (Int×Int)) (id:Int) {w:World} {fr:List Q2} (H:Q0 w (Qo p last par::fr)) :
  Calls Tryz.prog 52 #[pp p,.int .i64 id] w (ret fun v w'=>v = .int .i64 (if (QV par id).isSome then 0 else 6)∧Q0 w' (Qo p last par::fr)):=by
 refine QQ Tryz.func52 rfl (by kernel_rfl) ?_;refine J7 H ?_;refine Z0 (fun ms σ w=>ms=[]∧(QV par id).isSome=true∧Q0 w (Qo p last par::fr)) ?_ ?_
 ·refine Mx H ?_;refine Jc rfl rfl (JC p last par id H) ?_;rintro v w ⟨rfl,H⟩;cases hf:(QV par id).isSome with
  | true=>
   refine DN H ?_;exact .inl ⟨rfl,rfl,rfl,H⟩
  | false=>
   refine N5 H ?_;exact Q3 (.inr ⟨by simp,Jy H rfl fun w' H'=>⟨rfl,H'⟩⟩)
 ·rintro ms σ w ⟨rfl,hf,H⟩;rw[hf];refine Vg H ?_;exact Q3 (Jy H rfl fun w' H'=>⟨rfl,H'⟩)
def Gf (par:List (Int×Int)) (parent:Int):Nat:=if parent≠0∧(QV par parent).isSome=false then 6 else if par.length=64 then 5 else 0
theorem gA [Q4] (p last:Nat) (par:List (Int×Int)) (parent:Int) (Gc:last < 1000000) (Zt:∀ r q,(r,q)∈par→r≤(last:Int)) {w:World} {fr:List Q2} (H:Q0 w (Qo p last par::fr)) :
  Calls Tryz.prog 71 #[pp p,.int .i64 parent] w (ret fun v w'=>(Gf par parent≠0∧v = .tuple #[.int .i64 0,.int .i64 (Gf par parent)]∧Q0 w' (Qo p last par::fr)) ∨
   (Gf par parent=0∧v = .tuple #[.int .i64 ((last+1:Nat):Int),.int .i64 0]∧Q0 w' (Qo p (last+1) (par++[(((last+1:Nat):Int),parent)])::fr))):=by
 refine QQ Tryz.func71 rfl (by kernel_rfl) ?_;refine IJ H ?_;refine Z0 (fun ms σ w=>ms=[]∧Gf par parent=0∧σ 0=pp p∧σ 1 = .int .i64 parent∧Q0 w (Qo p last par::fr)) ?_ ?_
 ·refine CZ H ?_;refine J6 H ?_;refine Qt (fun ms σ w=>ms=[]∧(∃ q,σ 9 = .bool q∧(q=true↔parent≠0∧(QV par parent).isSome=false))∧σ 0=pp p∧σ 1 = .int .i64 parent∧Q0 w (Qo p last par::fr)) ?_ ?_
  ·refine J9 H ?_;by_cases h0:parent=0
   ·rw[show (parent != 0)=false by simpa using h0];refine Mz H ?_;refine J4 H ?_;exact⟨rfl,rfl,⟨false,rfl,by simp[h0]⟩,rfl,rfl,H⟩
   ·rw[show (parent != 0)=true by simpa using h0];refine KO H ?_;refine Qe rfl rfl rfl (V3 (a:=[]) (b:=[]) rfl rfl (call (JC p last par parent H) ?_));rintro v w ⟨rfl,H⟩;refine A0 H ?_;exact⟨rfl,rfl,⟨!(QV par parent).isSome,rfl,by simp[h0]⟩,rfl,rfl,H⟩
  ·rintro ms σ w ⟨rfl,⟨q,g9,hq⟩,g0,g1,H⟩;rw[Q1 g9,Q1 g0,Q1 g1];cases q with
   | true=>
    have he:Gf par parent=6:=by unfold Gf;rw[if_pos (hq.1 rfl)]
    refine G7 H ?_;exact Q3 (.inr ⟨by simp,Jy H rfl fun w' H' => .inl ⟨by omega,by rw[he];rfl,H'⟩⟩)
   | false=>
    have Ww:¬ (parent≠0∧(QV par parent).isSome=false):=fun h=>by have:=hq.2 h;cases this
    obtain⟨b,H⟩:=BC H;refine FF H ?_;refine G6 H ?_;refine Q5 rfl (Ek (ki .i64) v1 H rfl rfl ?_);refine J4 H ?_;by_cases Y3:par.length=64
    ·have he:Gf par parent=5:=by unfold Gf;rw[if_neg Ww,if_pos Y3]
     rw[show ((par.length:Int) == 64)=true by simp;omega];refine G7 H ?_;exact Q3 (.inr ⟨by simp,Jy (AG H) rfl fun w' H' => .inl ⟨by omega,by rw[he];rfl,H'⟩⟩)
    ·have he:Gf par parent=0:=by unfold Gf;rw[if_neg Ww,if_neg Y3]
     rw[show ((par.length:Int) == 64)=false by simp;omega];refine Vk H ?_;exact .inl ⟨rfl,rfl,he,rfl,rfl,AG H⟩
 ·rintro ms σ w ⟨rfl,he,g0,g1,H⟩;rw[Q1 g0,Q1 g1];obtain⟨b,H⟩:=BC H;refine Vb H ?_;rw[Qh (x:=((last:Nat):Int)+1) (by omega) (by omega),show ((last:Nat):Int)+1=((last+1:Nat):Int) by omega];refine XO H ?_;intro w H;refine J2 H ?_;refine J1 H ?_;intro w H;refine N6 H ?_;refine N7 H ?_;refine Jl 7 [9] H ?_;refine Ja 8 ?_;refine Jo 9 H ?_;refine W7 (v:=parent) (key:=((last+1:Nat):Int)) H rfl rfl rfl Vp rfl ?_;intro w H;refine Jx H ?_;refine G6 H ?_;refine J4 H ?_
  rw[Wp (fun h=>by
   obtain⟨⟨a,q⟩,hm,h1⟩:=mem_map.1 h;have h1:a=((last+1:Nat):Int):=h1;have:=Zt a q hm;omega)] at H
  exact Q3 (Jy (AG H) rfl fun w' H' => .inr ⟨he,rfl,H'⟩)
structure Q9 where
 addr:Nat
 region:Int
 held:Bool
 pinned:Bool
 lay:Nat
 count:Nat
 ws:List Nat
structure QW where
 gen:Nat
 ent:Option Q9
def Ql (ts:List QW) (i g:Int):Option (Nat×Q9):=
 if 0≤i then
  match ts[i.toNat]? with
  | some ⟨n,some e⟩=>if (n:Int)=g then some (i.toNat,e) else none
  | _=>none
 else none
theorem Z1 {ts:List QW} {i g:Int} {k:Nat} {e:Q9}:Ql ts i g=some (k,e)↔∃ n:Nat,i=k∧g=n∧ts[k]? = some ⟨n,some e⟩:=by
 unfold Ql;constructor
 ·intro h;split at h
  ·rename_i h0;split at h
   ·rename_i n e' he;split at h
    ·rename_i hn;injection h with h
     injection h with h1 h2
     subst h1 h2;exact⟨n,by omega,hn.symm,he⟩
    ·cases h
   ·cases h
  ·cases h
 ·rintro⟨n,rfl,rfl,h⟩;rw[if_pos (by omega)];simp only[Int.toNat_natCast,h];rw[if_pos trivial]
def V4 (ts:List QW) (i g:Int):Option (Nat×Q9):=
 match Ql ts i g with
 | some (k,e)=>if e.held then some (k,e) else none
 | none=>none
theorem Rq {ts:List QW} {i g:Int} {k:Nat} {e:Q9}:V4 ts i g=some (k,e)↔Ql ts i g=some (k,e)∧e.held=true:=by
 unfold V4;cases h:Ql ts i g with
 | none=>simp
 | some q=>
  obtain⟨k',e'⟩:=q;simp only;split
  ·rename_i hh;constructor
   ·intro h1;cases h1;exact⟨rfl,hh⟩
   ·rintro⟨h1,_⟩;exact h1
  ·rename_i hh;constructor
   ·intro h1;cases h1
   ·rintro⟨h1,h2⟩;cases h1;exact absurd h2 hh
structure QP where
 parts:List (Nat×Nat)
 at':Nat
 fin:Nat
def QR (l:List (Nat×Nat)):List Nat:=l.flatMap fun p=>(List.range p.2).map (p.1+·)
structure CS where
 size:Nat
 own:List Nat
 lays:List Qa
 tab:List QW
 last:Nat
 par:List (Int×Int)
 rem:List ((Int×Int)×Int)
 sps:List (Int×Nat×QP)
 mns:List (Int×Nat×List Nat)
structure Rs (lays:List Qa) (i:Nat) (e:Q9):Prop where
 may:A9 e.lay e.count i
 lay:∃ l,lays[e.lay - 1]? = some l∧YK l∧Vh l e.count=(e.ws.length,0)∧∀ p w,e.ws[p]? = some w→w < 18446744073709551616∧(Ve l p=true→∃ k,XS k∧w=Vm k)
def QT (e:Q9):Nat:=e.addr+1+e.ws.length
def Un (size:Nat) (own:List Nat) (e:Q9):Prop:=QT e≤own.length*size∧∀ c,e.addr / size≤c→c≤(e.addr+e.ws.length) / size→∃ r:Nat,own[c]? = some r∧(r:Int)=e.region∧1≤r
structure Xb (size:Nat) (own:List Nat) (r:Int) (S:QP):Prop where
 at1:S.at'≤S.fin
 fin:S.fin≠0→∃ c,S.fin=(c+1)*size∧c*size < S.at'∧(c,1)∈S.parts
 parts:∀ p∈S.parts,1≤p.2∧p.1+p.2≤own.length
 nodup:(QR S.parts).Nodup
 owned:∀ c,c∈QR S.parts↔∃ q:Nat,own[c]? = some q∧(q:Int)=r∧q≠0
structure WF (s:CS):Prop where
 size:1≤s.size∧s.size≤1024
 own:1≤s.own.length∧s.own.length≤63
 slots:1≤s.tab.length∧s.tab.length≤63
 lays:s.lays.length≤64∧∀ l∈s.lays,YK l
 gen:∀ (i:Nat) (t:QW),s.tab[i]? = some t→t.gen≤255∧(t.ent.isSome=true→1≤t.gen)
 obj:∀ (i g:Nat) (e:Q9),s.tab[i]? = some ⟨g,some e⟩→Rs s.lays i e∧Un s.size s.own e∧(∃ q,(e.region,q)∈s.par)
 apart:∀ (i j g h:Nat) (e f:Q9),i≠j→s.tab[i]? = some ⟨g,some e⟩→s.tab[j]? = some ⟨h,some f⟩→QT e≤f.addr∨QT f≤e.addr
 par:s.par.length≤64∧s.last < 1000000∧∀ r q,(r,q)∈s.par→1≤r∧r≤s.last
 skeys:s.sps.map (·.1)=s.par.map (·.1)
 mkeys:s.mns.map (·.1)=s.par.map (·.1)
 spc:∀ x∈s.sps,Xb s.size s.own x.1 x.2.2
 free:∀ x∈s.sps,∀ (i g:Nat) (e:Q9),s.tab[i]? = some ⟨g,some e⟩→QT e≤x.2.2.at'∨x.2.2.fin≤e.addr
 live:∀ (c r:Nat),s.own[c]? = some r→r≠0→∃ q,((r:Int),q)∈s.par
 mine:∀ x∈s.mns,x.2.2.Pairwise (· < ·)∧∀ i,i∈x.2.2↔∃ g e,s.tab[i]? = some ⟨g,some e⟩∧e.region=x.1
structure YY (s:CS) (mem:List Nat):Prop where
 len:mem.length=s.own.length*s.size
 head:∀ (i g:Nat) (e:Q9),s.tab[i]? = some ⟨g,some e⟩→mem[e.addr]? = some (X9 e.lay e.count i)
 words:∀ (i g:Nat) (e:Q9),s.tab[i]? = some ⟨g,some e⟩→∀ (p w:Nat),e.ws[p]? = some w→mem[e.addr+1+p]? = some w
theorem VE {ts:List QW} {i j:Nat} {t u:QW} (h:(ts.set i t)[j]? = some u):(j=i∧u=t∧i < ts.length)∨(j≠i∧ts[j]? = some u):=by
 rw[getElem?_set] at h;by_cases ZR:i=j
 ·subst ZR;rw[if_pos rfl] at h;split at h
  ·rename_i hl;injection h with h
   exact .inl ⟨rfl,h.symm,hl⟩
  ·cases h
 ·rw[if_neg ZR] at h;exact .inr ⟨fun e=>ZR e.symm,h⟩
structure BD (e e':Q9):Prop where
 addr:e'.addr=e.addr
 region:e'.region=e.region
 lay:e'.lay=e.lay
 count:e'.count=e.count
 len:e'.ws.length=e.ws.length
theorem BD.end {e e':Q9} (h:BD e e'):QT e'=QT e:=by unfold QT;rw[h.addr,h.len]
theorem BD.lies {e e':Q9} (h:BD e e') {size:Nat} {own:List Nat} (l:Un size own e):Un size own e':=by
 unfold Un at *;rw[h.end,h.addr,h.len,h.region];exact l
def Y6 (s:CS) (i g:Nat) (e:Q9):CS:={ s with tab:=s.tab.set i ⟨g,some e⟩ }
theorem O2 {s:CS} (h:WF s) {i g:Nat} {e e':Q9} (hi:s.tab[i]? = some ⟨g,some e⟩) (a:BD e e') (ok:Rs s.lays i e'):WF (Y6 s i g e'):=by
 have ho:=h.obj i g e hi;refine⟨h.size,h.own,by show 1≤(s.tab.set _ _).length∧(s.tab.set _ _).length≤63;rw[length_set];exact h.slots,h.lays,?_,?_,?_,h.par,h.skeys,h.mkeys,h.spc,?_,h.live,?_⟩
 ·intro j t hj
  rcases VE hj with ⟨rfl,rfl,_⟩|⟨_,hj⟩
  ·exact⟨(h.gen _ _ hi).1,fun _=>(h.gen _ _ hi).2 rfl⟩
  ·exact h.gen _ _ hj
 ·intro j k f hj
  rcases VE hj with ⟨rfl,ht,_⟩|⟨_,hj⟩
  ·injection ht with h1 h2
   injection h2 with h2
   subst h1 h2;exact⟨ok,a.lies ho.2.1,by rw[a.region];exact ho.2.2⟩
  ·exact h.obj _ _ _ hj
 ·intro j k m n f f' QA hj hk
  rcases VE hj with ⟨rfl,ht,_⟩|⟨Yg,G4⟩ <;> rcases VE hk with ⟨rfl,hu,_⟩|⟨Pa,Yb⟩
  ·exact absurd rfl QA
  ·injection ht with h1 h2
   injection h2 with h2
   subst h1 h2;rw[a.end,a.addr];exact h.apart _ _ _ n _ _ QA hi Yb
  ·injection hu with h1 h2
   injection h2 with h2
   subst h1 h2;rw[a.end,a.addr];exact h.apart _ _ m _ _ _ QA G4 hi
  ·exact h.apart _ _ _ _ _ _ QA G4 Yb
 ·intro x hx j k f hj
  rcases VE hj with ⟨rfl,ht,_⟩|⟨_,hj⟩
  ·injection ht with h1 h2
   injection h2 with h2
   subst h1 h2;rw[a.end,a.addr];exact h.free x hx _ _ _ hi
  ·exact h.free x hx _ _ _ hj
 ·intro x hx;obtain⟨h1,h2⟩:=h.mine x hx;refine⟨h1,fun j=>?_⟩;rw[h2];have UN:i < s.tab.length:=(List.getElem?_eq_some_iff.1 hi).1;constructor
  ·rintro⟨m,f,hj,hf⟩;by_cases ZR:j=i
   ·subst ZR;rw[hi] at hj;cases hj;exact⟨g,e',by show (s.tab.set _ _)[_]? = _;simp[UN],by rw[a.region];exact hf⟩
   ·exact⟨m,f,by show (s.tab.set _ _)[_]? = _;rw[getElem?_set_ne (fun q=>ZR q.symm)];exact hj,hf⟩
  ·rintro⟨m,f,hj,hf⟩
   rcases VE hj with ⟨rfl,ht,_⟩|⟨_,hj⟩
   ·injection ht with h1 h2
    injection h2 with h2
    subst h1 h2;exact⟨_,_,hi,by rw[← a.region];exact hf⟩
   ·exact⟨m,f,hj,hf⟩
theorem gB {s:CS} (h:WF s) {mem:List Nat} (m:YY s mem) {i g:Nat} {e e':Q9} (hi:s.tab[i]? = some ⟨g,some e⟩) (a:BD e e') {mem':List Nat} (hl:mem'.length=mem.length)
  (VQ:∀ (p w:Nat),e'.ws[p]? = some w→mem'[e.addr+1+p]? = some w) (hh:mem'[e.addr]? = mem[e.addr]?) (YB:∀ k,k < e.addr∨QT e≤k→mem'[k]? = mem[k]?):YY (Y6 s i g e') mem':=by
 refine⟨by rw[hl];exact m.len,?_,?_⟩
 ·intro j k f hj
  rcases VE hj with ⟨rfl,ht,_⟩|⟨Yg,hj⟩
  ·injection ht with h1 h2
   injection h2 with h2
   subst h1 h2;rw[a.addr,a.lay,a.count,hh];exact m.head _ _ _ hi
  ·have:=h.apart _ _ _ _ _ _ Yg hj hi;rw[YB _ (by unfold QT at this ⊢;omega)];exact m.head _ _ _ hj
 ·intro j k f hj p w hw
  rcases VE hj with ⟨rfl,ht,_⟩|⟨Yg,hj⟩
  ·injection ht with h1 h2
   injection h2 with h2
   subst h1 h2;rw[a.addr];exact VQ p w hw
  ·have:=h.apart _ _ _ _ _ _ Yg hj hi;have hp:=(List.getElem?_eq_some_iff.1 hw).1;rw[YB _ (by unfold QT at this ⊢;omega)];exact m.words _ _ _ hj p w hw
theorem Su {s:CS} (h:WF s) {mem:List Nat} (m:YY s mem) {i g:Nat} {e:Q9} (hi:s.tab[i]? = some ⟨g,some e⟩) {p x:Nat} (hp:p < e.ws.length):YY (Y6 s i g { e with ws:=e.ws.set p x }) (mem.set (e.addr+1+p) x):=by
 have Sv:QT e≤mem.length:=by rw[m.len];exact(h.obj i g e hi).2.1.1
 refine gB (e':={ e with ws:=e.ws.set p x }) h m hi ⟨rfl,rfl,rfl,rfl,by show (e.ws.set p x).length=_;simp⟩ (by simp) ?_ ?_ ?_
 ·intro q w hw;have hw:(e.ws.set p x)[q]? = some w:=hw;rw[getElem?_set] at hw;by_cases hpq:p=q
  ·subst hpq;rw[if_pos rfl,if_pos hp] at hw;injection hw with hw
   subst hw;rw[getElem?_set_self (by unfold QT at Sv;omega)]
  ·rw[if_neg hpq] at hw;rw[getElem?_set_ne (by omega)];exact m.words _ _ _ hi q w hw
 ·rw[getElem?_set_ne (by omega)]
 ·intro k hk;rw[getElem?_set_ne (by unfold QT at hk;omega)]
theorem qB {s:CS} (h:WF s) {mem:List Nat} (m:YY s mem) {i g:Nat} {e e':Q9} (hi:s.tab[i]? = some ⟨g,some e⟩) (a:BD e e') (hw:e'.ws=e.ws):YY (Y6 s i g e') mem:=
 gB h m hi a rfl (fun p w hp=>m.words _ _ _ hi p w (by rw[← hw];exact hp)) rfl (fun _ _=>rfl)
theorem qC {lays:List Qa} {i:Nat} {e e':Q9} (h:Rs lays i e) (a:BD e e') (hw:e'.ws=e.ws):Rs lays i e':=by
 obtain⟨m,l,h1,h2,h3,h4⟩:=h;exact⟨by rw[a.lay,a.count];exact m,l,by rw[a.lay];exact h1,h2,by rw[a.count,hw];exact h3,by rw[hw];exact h4⟩
theorem Sw {lays:List Qa} {i:Nat} {e:Q9} (h:Rs lays i e) {l:Qa} (hl:lays[e.lay - 1]? = some l) {p x:Nat} (hx:x < 18446744073709551616) (hr:Ve l p=true→∃ k,XS k∧x=Vm k):Rs lays i { e with ws:=e.ws.set p x }:=by
 obtain⟨m,l',h1,h2,h3,h4⟩:=h;rw[hl] at h1;cases h1;refine⟨m,l,hl,h2,by simpa using h3,fun q w hw=>?_⟩;have hw:(e.ws.set p x)[q]? = some w:=hw;rw[getElem?_set] at hw;by_cases hpq:p=q
 ·subst hpq;rw[if_pos rfl] at hw;split at hw
  ·injection hw with hw
   subst hw;exact⟨hx,hr⟩
  ·cases hw
 ·rw[if_neg hpq] at hw;exact h4 q w hw
end Go.Proofs.YtmjdnljneifpcaaGreatDoor
