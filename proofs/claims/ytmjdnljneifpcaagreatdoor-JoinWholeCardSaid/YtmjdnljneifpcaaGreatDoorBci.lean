/- Cells: what is proved on the way: every input of the statement; no condition. Texts joined: RefC RefD ModA ModB ModC ModD ModE TabA TabB TabC. -/
import Derived.Test.YtmjdnljneifpcaaGreatDoorBce
import Derived.Test.YtmjdnljneifpcaaGreatDoorBcg
import Derived.Test.YtmjdnljneifpcaaGreatDoorBch
set_option linter.unusedVariables false
set_option linter.unusedSimpArgs false
set_option linter.unusedSectionVars false
namespace Go.Proofs.YtmjdnljneifpcaaGreatDoor
open List
open Go.SL
theorem IR [Q4] (va vb:Value) (a b:List Int) (hl:a.length≤1000000) {w:World} {fr:List Q2} (H:Q0 w (IL va a::IL vb b::fr)) :
  Calls Tryz.prog 24 #[va,vb] w (ret fun v w'=>v = .bool (decide (a=b))∧Q0 w' (IL va a::IL vb b::fr)):=by
 obtain⟨aa,ca,rfl⟩:=QF H (Vn a) (by decide);obtain⟨ab,cb,rfl⟩:=QF H.drop (Vn b) (by decide);refine Q9 Tryz.func24 rfl (by kernel_rfl) ?_;refine RI H ?_;refine Be H ?_;refine UN H ?_;by_cases hlen:a.length=b.length
 ·rw[show ((a.length:Int) != (b.length:Int))=false by simp;omega];refine V6 H ?_;refine AG H ?_;refine Ql (fun ms σ w q=>ms=[]∧∃ i:Nat,i≤a.length∧q=a.length - i∧a.take i=b.take i∧σ 0 = .slice aa a.length ca∧σ 1 = .slice ab b.length cb∧σ 5 = .int .i64 i∧Q0 w (IL (.slice aa a.length ca) a::IL (.slice ab b.length cb) b::fr)) (m:=a.length) ⟨rfl,0,by omega,rfl,by simp,rfl,rfl,rfl,H⟩ ?_;clear H;rintro ms σ w q ⟨rfl,i,hi,rfl,heq,g0,g1,g5,H⟩;rw[Q1 g0,Q1 g1,Q1 g5];refine KO H ?_;refine Qk rfl (fun h=>QB ?_) (fun h=>Qq ?_)
  ·have hlt:i < a.length:=by omega
   have hlt2:i < b.length:=by omega
   have hx:=getElem?_eq_getElem hlt;have hy:=getElem?_eq_getElem hlt2;generalize a[i]=x at hx;generalize b[i]=y at hy;obtain⟨ba,sa,rfl,H,hca⟩:=V5 H (by omega);obtain⟨bb,sb,rfl,H,hcb⟩:=V5 H.swap (by omega)
   have c1:(Qg a++sa)[0+i*1]? = some (.int .i64 x):=by
    rw[Nat.zero_add,Nat.mul_one,getElem?_append_left (by simpa [Qg] using hlt)];simp[Qg,hx]
   have c2:(Qg b++sb)[0+i*1]? = some (.int .i64 y):=by
    rw[Nat.zero_add,Nat.mul_one,getElem?_append_left (by simpa [Qg] using hlt2)];simp[Qg,hy]
   refine CQ H ?_;clear H;intro w H;refine WG H ?_;refine Ji 2 ?_;refine Vm 3 [] H rfl (Q8.none rfl) rfl c1 (by kernel_rfl) ?_;refine Us H ?_;refine Ji 6 ?_;refine Vm 7 [] H rfl (Q8.none rfl) rfl c2 (by kernel_rfl) ?_;refine XM H ?_;replace H:=hcb _ _ H;replace H:=hca _ _ H.swap;by_cases hxy:x=y
   ·rw[show (x != y)=false by simpa using hxy];refine AC H ?_;refine⟨_,⟨rfl,i+1,hlt,rfl,?_,rfl,rfl,Qc (by omega),H⟩,by omega⟩;rw[take_add_one,take_add_one,hx,hy,heq,hxy]
   ·rw[show (x != y)=true by simpa using hxy];refine YD H ?_;refine Q3 (Jy H rfl fun w' H'=>⟨?_,H'⟩)
    have hne:a≠b:=by
     rintro rfl;rw[hx] at hy;injection hy with hy
     exact hxy hy
    rw[decide_eq_false hne];rfl
  ·have hge:i=a.length:=by omega
   subst hge;rw[take_length,hlen,take_length] at heq;refine VB H ?_;exact Q3 (Jy H rfl fun w' H'=>⟨by rw[decide_eq_true heq];rfl,H'⟩)
 ·rw[show ((a.length:Int) != (b.length:Int))=true by simp;omega];refine YD H ?_;refine Q3 (Jy H rfl fun w' H'=>⟨?_,H'⟩);have hne:a≠b:=by rintro rfl;exact hlen rfl
  rw[decide_eq_false hne];rfl
theorem be [Q4] (v:Value) (ws:List Nat) (hws:∀ x∈ws,x < 18446744073709551616) {w:World} {fr:List Q2} (hr:Vu fr v ws.length 1 (Qa ws)) (H:Q0 w fr) :
  Calls Tryz.prog 228 #[v] w (ret fun r w'=>(ZD ws=none∧r = .tuple #[Yy 0 (.slice none 0 0) 0 (.slice none 0 0),.bool false]∧Q0 w' fr) ∨
   ∃ l vr vq,ZD ws=some l∧r = .tuple #[Yy l.fixed vr l.record vq,.bool true]∧Q0 w' (NL vr l.refs::NL vq l.recs::fr)):=by
 obtain⟨_,ad,cap,rfl,hr'⟩:=id hr;refine Q9 Tryz.func228 rfl (by kernel_rfl) ?_;refine Vp H ?_;clear H;intro b2 w H;refine AY H ?_;refine Be H ?_;by_cases h3:ws.length=3
 ·obtain⟨x,y,z,rfl⟩:∃ x y z,ws=[x,y,z]:=by
   match ws,h3 with
   | [x,y,z],_=>exact⟨x,y,z,rfl⟩
  have hx:=hws x (by simp);have hy:=hws y (by simp);have hz:=hws z (by simp)
  rcases hr' with h|⟨b,o,E,fz,c,rfl,hA,hrd⟩
  ·cases h
  haveI:=hA;have c0:c[o+0*1]? = some (.int .u64 x):=by have:=hrd.get 0 (.int .u64 x) (by simp[Qa]);simpa using this
  have c1:c[o+1*1]? = some (.int .u64 y):=by have:=hrd.get 1 (.int .u64 y) (by simp[Qa]);simpa using this
  have c2:c[o+2*1]? = some (.int .u64 z):=by have:=hrd.get 2 (.int .u64 z) (by simp[Qa]);simpa using this
  rw[show ((([x,y,z]:List Nat).length:Int) != 3)=false from rfl];refine AQ H ?_;refine QT rfl rfl rfl (GF rfl rfl (by omega) (by show (0:Int) < (3:Nat);omega) rfl ?_);refine QT rfl rfl rfl (QR H rfl c0 rfl ?_);refine Ym H ?_;by_cases hb:x < 65536
  ·rw[show decide ((x:Int)≥65536)=false from decide_eq_false (by omega)];refine Y7 H ?_;have m8:Int.tmod (x:Int) 256=((x % 256:Nat):Int):=by rw[Int.tmod_eq_emod_of_nonneg (by omega)];omega
   have q8:IntKind.u64.wrap (Int.tdiv (x:Int) 256)=((x / 256:Nat):Int):=by
    rw[Int.tdiv_eq_ediv_of_nonneg (by omega),show (x:Int) / 256=((x / 256:Nat):Int) by omega,UH (by omega)]
   have w8:IntKind.i64.wrap ((x % 256:Nat):Int)=((x % 256:Nat):Int):=KC (by omega);have v8:IntKind.i64.wrap ((x / 256:Nat):Int)=((x / 256:Nat):Int):=KC (by omega);refine J6 H ?_
   refine Y6 (fun ms σ w=>ms=[]∧∃ b4 va vb,σ 2=pp b2∧σ 4=pp b4 ∧
    Q0 w (pts b4 (row 102 [.int .i64 ((x % 256:Nat):Int),va,.int .i64 ((x / 256:Nat):Int),vb])::NL va (Ve y 64)::NL vb (Ve z 64)::pts b2 (row 102 [.int .i64 0,.slice none 0 0,.int .i64 0,.slice none 0 0])::fr)) ?_ ?_
   ·refine J1 H ?_;clear H;intro w H;refine Ja 0 ?_;refine R8 1 rfl (Q8.none rfl) rfl rfl (by omega) (by show (0:Int) < (3:Nat);omega) (by kernel_rfl) ?_;refine Vm 2 [20] H rfl (Q8.none rfl) rfl c0 (by kernel_rfl) ?_;refine Ja 3 ?_;refine U7 4 rfl (Q8.none rfl) rfl (by kernel_rfl) ?_;refine Ja 5 ?_;refine R8 6 rfl (Q8.none rfl) rfl rfl (by omega) (by show (1:Int) < (3:Nat);omega) (by kernel_rfl) ?_;refine Vm 7 [8] H rfl (Q8.none rfl) rfl c1 (by kernel_rfl) ?_;refine Ja 9 ?_;refine R8 10 rfl (Q8.none rfl) rfl rfl (by omega) (by show (0:Int) < (3:Nat);omega) (by kernel_rfl) ?_;refine Vm 11 [20] H rfl (Q8.none rfl) rfl c0 (by kernel_rfl) ?_;refine Ja 12 ?_;refine U7 13 rfl (Q8.none rfl) rfl (by kernel_rfl) ?_;refine Ja 14 ?_;refine R8 15 rfl (Q8.none rfl) rfl rfl (by omega) (by show (2:Int) < (3:Nat);omega) (by kernel_rfl) ?_;refine Vm 16 [17] H rfl (Q8.none rfl) rfl c2 (by kernel_rfl) ?_;rw[m8,q8,w8,v8];refine Jw 8 19 H rfl rfl (V1 (a:=[]) (b:=[]) rfl rfl (call (CF y hy H) ?_)) (Vo H rfl ?_)
    ·clear H;intro va w H;obtain⟨aa,ma,ca,rfl⟩:=Qw H;refine Jw 17 19 H rfl rfl (V1 (a:=[]) (b:=[]) rfl rfl (call (CF z hz H) ?_)) (Vo H rfl ?_)
     ·clear H;intro vb w H;obtain⟨ab,mb,cb,rfl⟩:=Qw H;refine Zq 18 rfl (Q8.none rfl) rfl (by kernel_rfl) ?_;refine Jo 19 H ?_;refine Vo H rfl ?_;clear H;intro b4 w H;refine Jo 20 H ?_;refine U9 H ?_;clear H;intro w H;refine Jx H ?_;replace H:=Js [0,1,0,0] 0 H;exact .inl ⟨rfl,rfl,b4,_,_,rfl,rfl,H⟩
     ·clear H;intro b4 w H;refine Jo 17 H ?_;refine Jk rfl rfl (CF z hz H) ?_;clear H;intro vb w H;obtain⟨ab,mb,cb,rfl⟩:=Qw H;refine Zq 18 rfl (Q8.none rfl) rfl (by kernel_rfl) ?_;refine Jo 20 H ?_;refine U9 H ?_;clear H;intro w H;refine Jx H ?_;replace H:=Js [1,1,0,0] 0 H;exact .inl ⟨rfl,rfl,b4,_,_,rfl,rfl,H⟩
    ·clear H;intro b4 w H;refine Jo 8 H ?_;refine Jk rfl rfl (CF y hy H) ?_;clear H;intro va w H;obtain⟨aa,ma,ca,rfl⟩:=Qw H;refine Jo 17 H ?_;refine Jk rfl rfl (CF z hz H) ?_;clear H;intro vb w H;obtain⟨ab,mb,cb,rfl⟩:=Qw H;refine Zq 18 rfl (Q8.none rfl) rfl (by kernel_rfl) ?_;refine Jo 20 H ?_;refine U9 H ?_;clear H;intro w H;refine Jx H ?_;replace H:=Js [2,1,0,0] 0 H;exact .inl ⟨rfl,rfl,b4,_,_,rfl,rfl,H⟩
   ·clear H;rintro ms σ w ⟨rfl,b4,va,vb,g2,g4,H⟩;rw[Q1 g2,Q1 g4];have hla:=Ao y 64;have hlb:=Ao z 64;obtain⟨aa,ca,rfl⟩:=QF (H.drop) (QH (Ve y 64)) (by decide);obtain⟨ab,cb,rfl⟩:=QF (H.drop.drop) (QH (Ve z 64)) (by decide);refine GJ H ?_;replace H:=Js [1,1,0,0] 0 H;obtain⟨D1,H,hD1,hC1⟩:=sls_rd H (QH (Ve y 64)) (by decide);obtain⟨D2,H,hD2,hC2⟩:=sls_rd H.swap (QH (Ve z 64)) (by decide);refine Jc rfl rfl (My _ _ (Rl x y z) ⟨by show x % 256≤_;omega,by show x / 256≤_;omega,by show (Ve y 64).length≤_;omega,by show (Ve z 64).length≤_;omega⟩ ⟨(hD1 _).there,hD2 _⟩ H) ?_;clear H;rintro v w ⟨⟨q,rfl,hq⟩,H⟩;have H:=(hC1 _ _ (hC2 _ _ H).swap);refine J0 H ?_;cases q with
    | true=>
     refine U8 H ?_;refine KH H ?_;clear H;intro w H;refine J0 H ?_;replace H:=Js [3,0,0] 1 H;refine Q3 (Jz H (fun w' H' => .cellN H' rfl (by repeat first|exact .nil _|apply QV.cons rfl) (.tmp .nil)) fun w' H' => .inr ⟨Rl x y z,_,_,?_,rfl,H'.drop⟩);rw[Ap,if_pos ⟨hb,hq.1 rfl⟩]
    | false=>
     refine J5 H ?_;refine Bl H ?_;clear H;intro w H;refine J0 H ?_;replace H:=Js [3] 3 H;refine Q3 (Jz H (fun w' H' => .cellN H' rfl (by repeat first|exact .nil _|apply QV.cons rfl) (.tmp .nil)) fun w' H' => .inl ⟨?_,rfl,H'.drop⟩);rw[Ap,if_neg];rintro⟨_,h2⟩;have:=hq.2 h2;cases this
  ·rw[show decide ((x:Int)≥65536)=true from decide_eq_true (by omega)];refine KM H ?_;clear H;intro w H;refine J0 H ?_;refine Q3 (Jz H (fun w' H' => .cellN H' rfl (by repeat first|exact .nil _|apply QV.cons rfl) (.tmp .nil)) fun w' H' => .inl ⟨?_,rfl,H'.drop⟩);rw[Ap,if_neg];rintro⟨h1,_⟩;exact hb h1
 ·have hd:ZD ws=none:=by
   match ws with
   | []=>rfl
   | [_]=>rfl
   | [_,_]=>rfl
   | [_,_,_]=>exact absurd rfl h3
   | _::_::_::_::_=>rfl
  rw[show ((ws.length:Int) != 3)=true by simp;omega];refine E2 H ?_;refine KM H ?_;clear H;intro w H;refine J0 H ?_;exact Q3 (Jz H (fun w' H' => .cellN H' rfl (by repeat first|exact .nil _|apply QV.cons rfl) (.tmp .nil)) fun w' H' => .inl ⟨hd,rfl,H'.drop⟩)
def Y0 (P:List Int) (id:Int):Bool:=decide (0 < id∧id < P.length∧0≤P.getD id.toNat 0)
def X6 (P:List Int) (f:Int→Bool) (k:Nat):List Nat:=(List.range k).filter fun i=>decide (1≤i) && f (P.getD i 0)
def V0 (P:List Int):List Nat:=X6 P (fun q=>decide (0≤q)) P.length
theorem bh (P:List Int) (f:Int→Bool) (k:Nat) (hk:1≤k):X6 P f (k+1)=X6 P f k++if f (P.getD k 0) then [k] else []:=by
 unfold X6;rw[range_succ,filter_append];congr 1;simp only[filter_cons,filter_nil,decide_eq_true hk,Bool.true_and]
theorem bj (P:List Int) (f:Int→Bool):X6 P f 1=[]:=rfl
theorem br (P:List Int) (f:Int→Bool) (k:Nat):(X6 P f k).length≤k:=by
 have:=length_filter_le (fun i=>decide (1≤i) && f (P.getD i 0)) (List.range k);simpa [X6] using this
theorem NE {P:List Int} {f:Int→Bool} {k i:Nat}:i∈X6 P f k↔i < k∧1≤i∧f (P.getD i 0)=true:=by
 unfold X6;simp[mem_filter]
theorem bw (P:List Int) (f:Int→Bool) (k:Nat):(X6 P f k).Pairwise (· < ·):=List.Pairwise.filter _ pairwise_lt_range
def VS (p:Nat) (P:List Int):Q2:=ex fun v:Value=>star [pts p (row 161 [v]),IL v P]
theorem Kn [Q4] {w:World} {p:Nat} {P:List Int} {l:List Q2} (H:Q0 w (VS p P::l)):∃ a c,Q0 w (pts p (row 161 [.slice a P.length c])::IL (.slice a P.length c) P::l):=by
 obtain⟨v,H⟩:=Q0.ex.1 H;have H:=Q0.star.1 H;obtain⟨a,c,rfl⟩:=QF H.drop (Vn P) (by decide);exact⟨a,c,H⟩
theorem Gf [Q4] {w:World} {p:Nat} {P:List Int} {v:Value} {l:List Q2} (H:Q0 w (pts p (row 161 [v])::IL v P::l)):Q0 w (VS p P::l):=
 Q0.ex.2 ⟨v,Q0.star.2 H⟩
theorem bz [Q4] {w:World} {fr:List Q2} (H:Q0 w fr):Calls Tryz.prog 159 #[] w (ret fun v w'=>∃ p,v=pp p∧Q0 w' (VS p [-1]::fr)):=by
 refine Q9 Tryz.func159 rfl (by kernel_rfl) ?_;refine C2 H ?_;refine GN H ?_;clear H;intro b1 w H;refine XE H ?_;clear H;intro b3 w H;refine J0 H ?_;have H:=Ur (len:=1) (k:=1) (by rfl) H.swap;exact Q3 (Jy H.swap rfl fun w' H'=>⟨_,rfl,Gf (P:=[-1]) H'⟩)
theorem Az {P:List Int} {s:List Value} {i:Nat} (h:i < P.length):(Qg P++s)[0+i*1]? = some (.int .i64 (P.getD i 0)):=by
 rw[Nat.zero_add,Nat.mul_one,getElem?_append_left (by simpa [Qg] using h)];simp[Qg,h]
theorem Wg [Q4] (p:Nat) (P:List Int) (id:Int) {w:World} {fr:List Q2} (H:Q0 w (VS p P::fr)) :
  Calls Tryz.prog 21 #[pp p,.int .i64 id] w (ret fun v w'=>v = .bool (Y0 P id)∧Q0 w' (VS p P::fr)):=by
 obtain⟨a,c,H⟩:=Kn H;refine Q9 Tryz.func21 rfl (by kernel_rfl) ?_;refine Uy H ?_;by_cases h1:id > 0
 ·rw[show decide (id > 0)=true from decide_eq_true (by omega)];refine KN H ?_;by_cases h2:id < (P.length:Int)
  ·rw[show decide (id < (P.length:Int))=true from decide_eq_true (by omega)];obtain⟨k,rfl⟩:∃ k:Nat,id=k:=⟨id.toNat,by omega⟩;obtain⟨b,s,rfl,H,hclose⟩:=V5 H.swap (by omega);have hc:=Az (P:=P) (s:=s) (i:=k) (by omega);refine AN H ?_;refine QT rfl rfl rfl (GF rfl rfl (by omega) (by omega) rfl ?_);refine QT rfl rfl rfl (QR H rfl hc rfl ?_);refine Xs H ?_;replace H:=(hclose _ _ H).swap;refine Q3 (Jy (Gf H) rfl fun w' H'=>⟨?_,H'⟩);show Value.bool (decide (P.getD k 0≥0))=_;unfold Y0;congr 1;rw[decide_eq_decide,Int.toNat_natCast];exact⟨fun h=>⟨h1,h2,h⟩,fun h=>h.2.2⟩
  ·rw[show decide (id < (P.length:Int))=false from decide_eq_false (by omega)];refine ER H ?_;refine J3 H ?_;refine Q3 (Jy (Gf H) rfl fun w' H'=>⟨?_,H'⟩);show Value.bool false=_;unfold Y0;rw[decide_eq_false (fun h=>h2 h.2.1)]
 ·rw[show decide (id > 0)=false from decide_eq_false (by omega)];refine Bx H ?_;refine ER H ?_;refine J3 H ?_;refine Q3 (Jy (Gf H) rfl fun w' H'=>⟨?_,H'⟩);show Value.bool false=_;unfold Y0;rw[decide_eq_false (fun h=>h1 h.1)]
theorem IW [Q4] (p:Nat) (P:List Int) (hl:P.length≤1000000) {w:World} {fr:List Q2} (H:Q0 w (VS p P::fr)) :
  Calls Tryz.prog 42 #[pp p] w (ret fun v w'=>Q0 w' (NL v (V0 P)::VS p P::fr)):=by
 refine Q9 Tryz.func42 rfl (by kernel_rfl) ?_;refine E1 H ?_;refine Ql (fun ms σ w n=>ms=[]∧∃ (i:Nat) (g:Value),1≤i∧(i≤P.length∨i=1)∧n=P.length - i∧σ 0=pp p∧σ 3=g∧σ 4 = .int .i64 i∧Q0 w (NL g (X6 P (fun q=>decide (0≤q)) i)::VS p P::fr)) (m:=P.length - 1) ⟨rfl,1,_,by omega,.inr rfl,rfl,rfl,rfl,rfl,Z2 H⟩ ?_;clear H;rintro ms σ w n ⟨rfl,i,g,hi1,hi2,rfl,g0,g3,g4,H⟩;obtain⟨ag,mg,cg,rfl⟩:=Qw H;obtain⟨a,c,H⟩:=Kn H.swap;rw[Q1 g0,Q1 g3,Q1 g4];refine Kc H ?_;refine Qk rfl (fun h=>QB ?_) (fun h=>Qq ?_)
 ·have hlt:i < P.length:=by omega
  obtain⟨b,s,rfl,H,hclose⟩:=V5 H.swap (by omega);have hc:=Az (P:=P) (s:=s) (i:=i) (by omega);have hnx:=bh P (fun q=>decide (0≤q)) i hi1;generalize P.getD i 0=y at hc hnx;refine AW H ?_;refine Jd ?_;refine Q5 rfl (QR H rfl hc rfl ?_);refine J0 H ?_;replace H:=Gf (hclose _ _ H).swap;refine J6 H ?_;refine Qk rfl (fun h=>?_) (fun h=>QB ?_)
  ·rw[if_pos (by simpa using h)] at hnx;refine E3 H ?_;clear H;intro b24 w H;replace H:=Js [2,0,0] 0 H;refine Q5 rfl (YO H rfl rfl (by repeat first|exact .nil _|apply QV.cons rfl) rfl (by decide) (by rw[QH];have:=br P (fun q=>decide (0≤q)) i;simp only[length_cons,length_nil];omega) rfl rfl ?_);clear H;intro v25 w H;obtain⟨a25,m25,c25,rfl⟩:=Qw H;refine Bz H ?_;replace H:=Js [0,1] 1 H;refine⟨_,⟨rfl,i+1,_,by omega,.inl hlt,rfl,rfl,rfl,Qc (by omega),?_⟩,by omega⟩;rw[hnx];show Q0 w (QC _ 1 _ (QW (_++[i]))::_);rw[WT];exact H
  ·rw[if_neg (by simpa using h),append_nil] at hnx;refine VX H ?_;exact⟨_,⟨rfl,i+1,_,by omega,.inl hlt,rfl,rfl,rfl,Qc (by omega),by rw[hnx];exact H.swap⟩,by omega⟩
 ·have he:X6 P (fun q=>decide (0≤q)) i=V0 P:=by
   unfold V0
   rcases hi2 with h1|rfl
   ·rw[show i=P.length by omega]
   ·rw[bj]
    symm
    rw[eq_nil_iff_forall_not_mem];intro x hx;have:=NE.1 hx;omega
  rw[he] at H;refine J5 H ?_;have H:=(Gf H).swap;exact Q3 (Jy H rfl fun w' H'=>H')
def ZV (P:List Int) (parent:Int):Nat:=if parent≠0∧Y0 P parent=false then 6 else if 64≤(V0 P).length then 5 else 0
theorem NF [Q4] (p:Nat) (P:List Int) (parent:Int) (hl:P.length≤100000) (h1:1≤P.length) {w:World} {fr:List Q2} (H:Q0 w (VS p P::fr)) :
  Calls Tryz.prog 178 #[pp p,.int .i64 parent] w (ret fun v w'=>(ZV P parent≠0∧v = .tuple #[.int .i64 0,.int .i64 (ZV P parent)]∧Q0 w' (VS p P::fr)) ∨
   (ZV P parent=0∧v = .tuple #[.int .i64 P.length,.int .i64 0]∧Q0 w' (VS p (P++[parent])::fr))):=by
 refine Q9 Tryz.func178 rfl (by kernel_rfl) ?_;refine XL H ?_;refine Jc rfl rfl (Wg p P parent H) ?_;clear H;rintro v w ⟨rfl,H⟩;generalize hlv:Y0 P parent=lv;refine YZ H ?_;refine Qo (fun ms σ w=>ms=[]∧(∃ q,σ 16 = .bool q∧(q=true↔parent≠0∧Y0 P parent=false))∧σ 0=pp p∧σ 1 = .int .i64 parent∧Q0 w (VS p P::fr)) ?_ ?_
 ·refine J9 H ?_;by_cases h0:parent=0
  ·rw[show (parent != 0)=false by simpa using h0];refine Jv ?_;refine Bu H ?_;refine J0 H ?_;exact⟨rfl,rfl,⟨false,rfl,by simp[h0]⟩,rfl,rfl,H⟩
  ·rw[show (parent != 0)=true by simpa using h0];refine Uu H ?_;refine J0 H ?_;exact⟨rfl,rfl,⟨!lv,rfl,by simp[h0,hlv]⟩,rfl,rfl,H⟩
 clear H;rintro ms σ w ⟨rfl,⟨q,g16,hq⟩,g0,g1,H⟩;rw[Q1 g16,Q1 g0,Q1 g1];cases q with
 | true=>
  have he:ZV P parent=6:=by unfold ZV;rw[if_pos (hq.1 rfl)]
  refine Yn H ?_;exact Q3 (Jy H rfl fun w' H' => .inl ⟨by omega,by rw[he];rfl,H'⟩)
 | false=>
  have hq':¬ (parent≠0∧Y0 P parent=false):=fun h=>by have:=hq.2 h;cases this
  refine AR H ?_;refine Jc rfl rfl (IW p P (by omega) H) ?_;clear H;intro v w H;obtain⟨aa,ca,rfl⟩:=QF H (QH _) (by decide);refine Dx H ?_;by_cases h64:64≤(V0 P).length
  ·have he:ZV P parent=5:=by unfold ZV;rw[if_neg hq',if_pos h64]
   rw[show decide (((V0 P).length:Int)≥64)=true from decide_eq_true (by omega)];refine Yn H ?_;exact Q3 (Jy H.drop rfl fun w' H' => .inl ⟨by omega,by rw[he];rfl,H'⟩)
  ·have he:ZV P parent=0:=by unfold ZV;rw[if_neg hq',if_neg h64]
   rw[show decide (((V0 P).length:Int)≥64)=false from decide_eq_false (by omega)];refine V6 H ?_;replace H:=H.drop;obtain⟨a,c,H⟩:=Kn H;refine AM H ?_;refine GN H ?_;clear H;intro b28 w H;replace H:=Js [2,0,0] 0 H;refine Q5 rfl (YO H rfl rfl (by repeat first|exact .nil _|apply QV.cons rfl) rfl (by decide) (by rw[Vn];simp only[length_cons,length_nil];omega) rfl rfl ?_);clear H;intro v29 w H;have e1:Qg P++[.int .i64 parent]=Qg (P++[parent]):=by rw[Au];rfl
   rw[e1] at H;obtain⟨a29,c29,rfl⟩:=QF H (Vn _) (by decide);refine GO H ?_;clear H;intro w H;refine J2 H ?_;refine Dy H ?_;refine YP H ?_;refine J0 H ?_;replace H:=Js [2,0] 1 H;refine Q3 (Jy (Gf H) rfl fun w' H' => .inr ⟨he,?_,H'⟩);show Value.tuple #[.int .i64 (IntKind.i64.wrap (((P++[parent]).length:Int) - 1)),_]=_;rw[show (P++[parent]).length=P.length+1 by simp,Qb (by omega) (by omega),show (((P.length+1:Nat):Int)) - 1=(P.length:Int) by omega];rfl
structure QI where
 region:Nat
 lay:Nat
 count:Nat
 w:List Nat
 kind:List Nat
 to:List Nat
 held:Bool
 pinned:Bool
 gone:Bool
structure MS where
 P:List Int
 lays:List QM
 objs:List QI
structure Gz (lays:List QM) (n:Nat) (x:QI):Prop where
 lay:∃ l,lays[x.lay - 1]? = some l∧Vf l∧VG l x.count=(x.w.length,0)
 lay1:1≤x.lay
 kind:x.kind.length=x.w.length
 to:x.to.length=x.w.length
 goes:∀ p,x.kind[p]? = some 2→x.to.getD p 0 < n
structure VY (m:MS):Prop where
 P:1≤m.P.length∧m.P.length≤100000
 lays:m.lays.length≤64∧∀ l∈m.lays,Vf l
 objs:∀ x∈m.objs,Gz m.lays m.objs.length x
 few:m.objs.length≤100000
def Vt (m:MS) (x:QI):QM:=(m.lays[x.lay - 1]?).getD ⟨0,[],0,[]⟩
theorem cQ {lays:List QM} {P:List Int} {os:List QI} {n:Nat} {x:QI} (h:Gz lays n x):lays[x.lay - 1]? = some (Vt ⟨P,lays,os⟩ x)∧Vf (Vt ⟨P,lays,os⟩ x)∧VG (Vt ⟨P,lays,os⟩ x) x.count=(x.w.length,0):=by
 obtain⟨l,h1,h2,h3⟩:=h.lay;have:Vt ⟨P,lays,os⟩ x=l:=by unfold Vt;rw[h1];rfl
 rw[this];exact⟨h1,h2,h3⟩
structure OC where
 ptr:Nat
 vw:Value
 vk:Value
 vt:Value
 ob:QI
@[reducible] def K4 (vw vk vt:Value) (x:QI):Obj:=row 76 [.int .i64 x.region,.int .i64 x.lay,.int .i64 x.count,vw,vk,vt,.bool x.held,.bool x.pinned,.bool x.gone]
@[reducible] def Yp (x:OC):Q2:=star [pts x.ptr (K4 x.vw x.vk x.vt x.ob),UL x.vw x.ob.w,NL x.vk x.ob.kind,NL x.vt x.ob.to]
structure MQ where
 t:Nat
 vL:Value
 lc:List Z7
 vO:Value
 oc:List OC
def Qs (p:Nat) (m:MS):Q2:=ex fun q:MQ=>star [prop (VY m∧q.lc.map (·.2.2)=m.lays∧q.oc.map (·.ob)=m.objs),pts p (row 58 [pp q.t,q.vL,q.vO]),VS q.t m.P,QC 102 4 q.vL (VD q.lc),star (q.lc.map YG),QC 77 1 q.vO (q.oc.map fun x=>pp x.ptr),star (q.oc.map Yp)]
theorem ZT [Q4] {w:World} {p:Nat} {m:MS} {l:List Q2} (H:Q0 w (Qs p m::l)):∃ (t:Nat) (lc:List Z7) (oc:List OC) (aL:Option Addr) (cL:Nat) (aO:Option Addr) (cO:Nat),VY m∧lc.map (·.2.2)=m.lays∧oc.map (·.ob)=m.objs∧lc.length=m.lays.length∧oc.length=m.objs.length ∧
  Q0 w (pts p (row 58 [pp t,.slice aL m.lays.length cL,.slice aO m.objs.length cO])::VS t m.P::QC 102 4 (.slice aL m.lays.length cL) (VD lc)::star (lc.map YG)::QC 77 1 (.slice aO m.objs.length cO) (oc.map fun x=>pp x.ptr)::star (oc.map Yp)::l):=by
 obtain⟨⟨t,vL,lc,vO,oc⟩,H⟩:=Q0.ex.1 H;have H:=Q0.star.1 H;obtain⟨⟨h1,h2,h3⟩,H⟩:=Q0.prop.1 H;have hl1:lc.length=m.lays.length:=by rw[← h2,length_map]
 have hl2:oc.length=m.objs.length:=by rw[← h3,length_map]
 obtain⟨aL,cL,rfl⟩:=QF (H.drop.drop) (Rm lc) (by decide);obtain⟨aO,cO,rfl⟩:=QF (m:=oc.length) (H.drop.drop.drop.drop) (by simp) (by decide);refine⟨t,lc,oc,aL,cL,aO,cO,h1,h2,h3,hl1,hl2,?_⟩;rw[← hl1,← hl2];exact H
theorem Yq [Q4] {w:World} {p t:Nat} {m:MS} {l:List Q2} {lc:List Z7} {oc:List OC} {vL vO:Value} (h1:VY m) (h2:lc.map (·.2.2)=m.lays) (h3:oc.map (·.ob)=m.objs)
  (H:Q0 w (pts p (row 58 [pp t,vL,vO])::VS t m.P::QC 102 4 vL (VD lc)::star (lc.map YG)::QC 77 1 vO (oc.map fun x=>pp x.ptr)::star (oc.map Yp)::l)):Q0 w (Qs p m::l):=
 Q0.ex.2 ⟨⟨t,vL,lc,vO,oc⟩,Q0.star.2 (Q0.prop.2 ⟨⟨h1,h2,h3⟩,H⟩)⟩
theorem Gg [Q4] {w:World} {p:Nat} {m:MS} {l:List Q2} (H:Q0 w (Qs p m::l)) {o:Nat} {x:QI} (ho:m.objs[o]? = some x):∃ (t:Nat) (lc:List Z7) (aL:Option Addr) (cL bO cO:Nat) (s ptrs:List Value) (q:Nat) (vw vk vt:Value) (rest:List Q2),VY m∧lc.map (·.2.2)=m.lays∧(ptrs++s)[0+o*1]? = some (pp q) ∧
  Q0 w (pts q (K4 vw vk vt x)::UL vw x.w::NL vk x.kind::NL vt x.to::pts bO (row 77 (ptrs++s))::pts p (row 58 [pp t,.slice aL m.lays.length cL,.slice (some ⟨bO,0,none⟩) m.objs.length cO])::QC 102 4 (.slice aL m.lays.length cL) (VD lc)::star (lc.map YG)::VS t m.P::star rest::l) ∧
  ∀ (w':World) (l':List Q2) (x':QI),VY { m with objs:=m.objs.set o x' }→Q0 w' (pts q (K4 vw vk vt x')::UL vw x'.w::NL vk x'.kind::NL vt x'.to::pts bO (row 77 (ptrs++s))::pts p (row 58 [pp t,.slice aL m.lays.length cL,.slice (some ⟨bO,0,none⟩) m.objs.length cO])::QC 102 4 (.slice aL m.lays.length cL) (VD lc)::star (lc.map YG)::VS t m.P::star rest::l')→Q0 w' (Qs p { m with objs:=m.objs.set o x' }::l'):=by
 obtain⟨t,lc,oc,aL,cL,aO,cO,h1,h2,h3,hl1,hl2,H⟩:=ZT H;have hol:o < m.objs.length:=(List.getElem?_eq_some_iff.1 ho).1
 obtain⟨y,hy,hyx⟩:∃ y,oc[o]? = some y∧y.ob=x:=by
  rw[← h3,getElem?_map,Option.map_eq_some_iff] at ho;exact ho
 obtain⟨q,vw,vk,vt,x1⟩:=y;obtain rfl:x1=x:=hyx;have hpk:=SL.split_at hy;replace H:=Js [4,4,0,0,0,0] 0 H;obtain⟨bO,s,rfl,H,hclose⟩:=V5 H (by omega);replace H:=Js [1,0,0,0,0,0] 0 H;have H:=Q0.star.1 ((Q0.pick (R:=Yp) hpk).1 H);replace H:Q0 w (pts q (K4 vw vk vt x1)::UL vw x1.w::NL vk x1.kind::NL vt x1.to::star ((oc.take o++oc.drop (o+1)).map Yp)::pts bO (row 77 ((oc.map fun x=>pp x.ptr)++s))::pts p (row 58 [pp t,.slice aL m.lays.length cL,.slice (some ⟨bO,0,none⟩) m.objs.length cO])::VS t m.P::QC 102 4 (.slice aL m.lays.length cL) (VD lc)::star (lc.map YG)::l):=H;refine⟨t,lc,aL,cL,bO,cO,s,oc.map fun x=>pp x.ptr,q,vw,vk,vt,(oc.take o++oc.drop (o+1)).map Yp,h1,h2,?_,?_,?_⟩
 ·rw[Nat.zero_add,Nat.mul_one,getElem?_append_left (by simp;omega),getElem?_map,hy];rfl
 ·replace H:=Js [0,0,0,0,1,1,2,2,1,0] 0 H;exact H
 ·intro w' l' x' hm' H;replace H:=Js [0,0,0,0,5,0,0,2,0,0] 0 H;have H:=(Q0.pick (R:=Yp) (x:=⟨q,vw,vk,vt,x'⟩) (g1:=oc.take o) (g2:=oc.drop (o+1)) rfl).2 (Q0.star.2 H);rw[← SL.set_split hy] at H;replace H:=Js [1,0,0,0,0,0] 0 H;have H:=hclose _ _ H
  have hp:(oc.map fun x=>pp x.ptr)=((oc.set o ⟨q,vw,vk,vt,x'⟩).map fun x=>pp x.ptr):=by
   rw[map_set]
   symm
   apply ext_getElem?;intro i;rw[getElem?_set];split
   ·rename_i hi;subst hi;rw[getElem?_map,hy];simp;omega
   ·rfl
  rw[hp] at H;replace H:=Js [2,2,2,2,0,0] 0 H;have hs:({ m with objs:=m.objs.set o x' }:MS).objs=m.objs.set o x':=rfl;exact Yq (m:={ m with objs:=m.objs.set o x' }) hm' h2 (by rw[map_set,h3]) H
def V7 (m:MS) (o:Int):Option (Nat×QI):=
 if 0≤o then
  match m.objs[o.toNat]? with
  | some x=>if x.held && !x.gone then some (o.toNat,x) else none
  | none=>none
 else none
theorem CO (m:MS) (o:Nat):V7 m o=match m.objs[o]? with|some x=>if x.held && !x.gone then some (o,x) else none|none=>none:=by
 unfold V7;rw[if_pos (by omega),Int.toNat_natCast]
def VI (m:MS) (o place:Int) (ref:Bool):Nat:=
 match V7 m o with
 | none=>8
 | some (_,x)=>QO (Vt m x) x.w.length place ref
theorem UX [Q4] {w:World} {p:Nat} {m:MS} {l:List Q2} {o:Nat} {x:QI} (ho:m.objs[o]? = some x) (H:Q0 w (Qs p { m with objs:=m.objs.set o x }::l)):Q0 w (Qs p m::l):=by
 have:m.objs.set o x=m.objs:=by
  apply ext_getElem?;intro i;rw[getElem?_set];split
  ·rename_i hi;subst hi;rw[ho];have:=(List.getElem?_eq_some_iff.1 ho).1;simp[this]
  ·rfl
 rw[this] at H;exact H
theorem Rr {m:MS} {o:Nat} {x:QI} (ho:m.objs[o]? = some x) (h:VY m):VY { m with objs:=m.objs.set o x }:=by
 have:m.objs.set o x=m.objs:=by
  apply ext_getElem?;intro i;rw[getElem?_set];split
  ·rename_i hi;subst hi;rw[ho];have:=(List.getElem?_eq_some_iff.1 ho).1;simp[this]
  ·rfl
 rw[this];exact h
theorem B0 [Q4] (p:Nat) (m:MS) (o:Int) {w:World} {fr:List Q2} (H:Q0 w (Qs p m::fr)) :
  Calls Tryz.prog 38 #[pp p,.int .i64 o] w (ret fun v w'=>v = .bool (V7 m o).isSome∧Q0 w' (Qs p m::fr)):=by
 by_cases h0:o≥0
 ·obtain⟨k,rfl⟩:∃ k:Nat,o=k:=⟨o.toNat,by omega⟩;by_cases h1:k < m.objs.length
  ·have hx:=getElem?_eq_getElem h1;generalize m.objs[k]=x at hx;have hv:V7 m k=if x.held && !x.gone then some (k,x) else none:=by rw[CO,hx]
   obtain⟨t,lc,aL,cL,bO,cO,s,ptrs,q,vw,vk,vt,rest,hm,h2,hp,H,hclose⟩:=Gg H hx;have hm':=Rr hx hm;obtain⟨xr,xl,xc,xw,xk,xt,xh,xp,xg⟩:=x;refine Q9 Tryz.func38 rfl (by kernel_rfl) ?_;refine Uy H ?_;rw[show decide ((k:Int)≥0)=true from decide_eq_true (by omega)];refine KN H ?_;rw[show decide ((k:Int) < (m.objs.length:Int))=true from decide_eq_true (by omega)];refine AN H ?_;refine QT rfl rfl rfl (GF rfl rfl (by omega) (by omega) rfl ?_);refine QT rfl rfl rfl (QR H rfl hp rfl ?_);cases xh with
   | true=>
    refine Ym H ?_;refine KD H ?_;refine AN H ?_;refine QT rfl rfl rfl (GF rfl rfl (by omega) (by omega) rfl ?_);refine QT rfl rfl rfl (QR H rfl hp rfl ?_);refine Bv H ?_;refine J3 H ?_;refine Q3 (Jy (UX hx (hclose _ _ _ hm' H)) rfl fun w' H'=>⟨?_,H'⟩);rw[hv];cases xg <;> rfl
   | false=>
    refine Ym H ?_;refine KD H ?_;refine XI H ?_;refine Bs H ?_;refine J3 H ?_;refine Q3 (Jy (UX hx (hclose _ _ _ hm' H)) rfl fun w' H'=>⟨?_,H'⟩);rw[hv];rfl
  ·have hv:V7 m k=none:=by rw[CO,getElem?_eq_none (by omega)]
   obtain⟨t,lc,oc,aL,cL,aO,cO,a1,a2,a3,a4,a5,H⟩:=ZT H;refine Q9 Tryz.func38 rfl (by kernel_rfl) ?_;refine Uy H ?_;rw[show decide ((k:Int)≥0)=true from decide_eq_true (by omega)];refine KN H ?_;rw[show decide ((k:Int) < (m.objs.length:Int))=false from decide_eq_false (by omega)];refine ER H ?_;refine C0 H ?_;refine Bs H ?_;refine J3 H ?_;refine Q3 (Jy (Yq a1 a2 a3 H) rfl fun w' H'=>⟨?_,H'⟩);rw[hv];rfl
 ·have hv:V7 m o=none:=by unfold V7;rw[if_neg (by omega)]
  refine Q9 Tryz.func38 rfl (by kernel_rfl) ?_;refine Uy H ?_;rw[show decide (o≥0)=false from decide_eq_false (by omega)];refine Bx H ?_;refine ER H ?_;refine C0 H ?_;refine Bs H ?_;refine J3 H ?_;refine Q3 (Jy H rfl fun w' H'=>⟨?_,H'⟩);rw[hv];rfl
theorem NH [Q4] {w:World} {aL:Option Addr} {n cL:Nat} {lc:List Z7} {l:List Q2} (hn:lc.length=n) (H:Q0 w (QC 102 4 (.slice aL n cL) (VD lc)::star (lc.map YG)::l)) {i:Nat} {y:Z7} (hy:lc[i]? = some y) :
  ∃ (bL:Nat) (s:List Value) (D1 D2 R:Q2),aL=some ⟨bL,0,none⟩∧Q0 w (pts bL (row 102 (VD lc++s))::D1::D2::R::l)∧(∀ l',Ub (D1::D2::l') y.1 y.2.1 y.2.2) ∧
   ∀ (w':World) (l':List Q2),Q0 w' (pts bL (row 102 (VD lc++s))::D1::D2::R::l')→Q0 w' (QC 102 4 (.slice aL n cL) (VD lc)::star (lc.map YG)::l'):=by
 have hi:i < lc.length:=(List.getElem?_eq_some_iff.1 hy).1;have hpk:=SL.split_at hy;obtain⟨vr,vq,l'⟩:=y;obtain⟨bL,s,rfl,H,hclose⟩:=V5 H (by omega);have H:=Q0.star.1 ((Q0.pick (R:=YG) hpk).1 H.swap);replace H:Q0 w (NL vr l'.refs::NL vq l'.recs::star ((lc.take i++lc.drop (i+1)).map YG)::pts bL (row 102 (VD lc++s))::l):=H;obtain⟨D1,H,hD1,hC1⟩:=sls_rd H (QH _) (by decide);obtain⟨D2,H,hD2,hC2⟩:=sls_rd H.swap (QH _) (by decide);replace H:=Js [3,0,0,0] 0 H;refine⟨bL,s,D2,D1,star ((lc.take i++lc.drop (i+1)).map YG),rfl,H,fun l'=>⟨(hD1 _).there,hD2 _⟩,?_⟩;intro w' l2 H;replace H:=Js [1,1,1,0] 0 H;have H:=hC1 _ _ (hC2 _ _ H).swap;replace H:=Js [0,0,0,0] 0 H;have H:=(Q0.pick (R:=YG) hpk).2 (Q0.star.2 H);exact hclose _ _ H.swap
theorem Rs {m:MS} {w:VY m} {x:QI} {o:Nat} (h:m.objs[o]? = some x):x.w.length < 8192:=by
 obtain⟨l,_,_,h⟩:=(w.objs x (mem_of_getElem? h)).lay;unfold VG at h;split at h
 ·injection h with h1 h2;cases h2
 ·split at h
  ·injection h with h1 h2;cases h2
  ·injection h with h1 h2;omega
theorem K5 {m:MS} {o:Int} {k:Nat} {x:QI} (h:V7 m o=some (k,x)):o=k∧m.objs[k]? = some x∧x.held=true∧x.gone=false:=by
 unfold V7 at h;split at h
 ·split at h
  ·rename_i y hy;split at h
   ·rename_i hh;injection h with h
    injection h with h1 h2
    subst h1 h2;have hh':=Bool.and_eq_true_iff.1 hh;exact⟨by omega,hy,hh'.1,by simpa using hh'.2⟩
   ·cases h
  ·cases h
 ·cases h
theorem cV {m:MS} (h:VY m) {lc:List Z7} (hl:lc.map (·.2.2)=m.lays) {x:QI} {o:Nat} (hx:m.objs[o]? = some x):∃ y:Z7,lc[x.lay - 1]? = some y∧y.2.2=Vt m x∧1≤x.lay∧x.lay≤lc.length∧Vf (Vt m x)∧VG (Vt m x) x.count=(x.w.length,0):=by
 have hm:=h.objs x (mem_of_getElem? hx);obtain⟨h1,h2,h3⟩:=cQ (P:=m.P) (os:=m.objs) hm;have h1':m.lays[x.lay - 1]? = some (Vt m x):=h1;have h3':(lc.map (·.2.2))[x.lay - 1]? = some (Vt m x):=by rw[hl];exact h1'
 rw[getElem?_map,Option.map_eq_some_iff] at h3';obtain⟨y,hy,e⟩:=h3';have:=(List.getElem?_eq_some_iff.1 hy).1;have:=hm.lay1;exact⟨y,hy,e,hm.lay1,by omega,h2,h3⟩
theorem cY {l:QM} {c:Nat} {n p:Nat} (h:VG l c=(n,0)) (hp:p < n):l.record≠0∨p < l.fixed:=by
 unfold VG at h;split at h
 ·injection h with h1 h2;cases h2
 ·split at h
  ·injection h with h1 h2;cases h2
  ·injection h with h1 h2
   by_cases h0:l.record=0
   ·rw[h0] at h1;right;omega
   ·left;exact h0
theorem Rt [Q4] (p:Nat) (m:MS) (o place:Int) (ref:Bool) {w:World} {fr:List Q2} (H:Q0 w (Qs p m::fr)) :
  Calls Tryz.prog 164 #[pp p,.int .i64 o,.int .i64 place,.bool ref] w (ret fun v w'=>v = .int .i64 (VI m o place ref:Nat)∧Q0 w' (Qs p m::fr)):=by
 refine Q9 Tryz.func164 rfl (by kernel_rfl) ?_;refine Uy H ?_;refine Jc rfl rfl (B0 p m o H) ?_;clear H;rintro v w ⟨rfl,H⟩;refine J0 H ?_;cases hv:V7 m o with
 | none=>
  have hr:VI m o place ref=8:=by unfold VI;rw[hv]
  refine AO H ?_;refine Q3 (Jy H rfl fun w' H'=>⟨by rw[hr];rfl,H'⟩)
 | some kx=>
  obtain⟨k,x⟩:=kx;obtain⟨rfl,hx,hh,hg⟩:=K5 hv;have hr:VI m k place ref=QO (Vt m x) x.w.length place ref:=by unfold VI;rw[hv]
  have hkl:=(List.getElem?_eq_some_iff.1 hx).1;obtain⟨t,lc,aL,cL,bO,cO,s,ptrs,q,vw,vk,vt,rest,hm,h2,hp,H,hclose⟩:=Gg H hx;have hm':=Rr hx hm;obtain⟨y,hy,hyl,hl1,hl2,hR,hsz⟩:=cV hm h2 hx;obtain⟨aw,cw,rfl⟩:=QF H.drop (Z4 _) (by decide);refine U8 H ?_;refine VQ H ?_;refine Jd ?_;refine Q5 rfl (QR H rfl hp rfl ?_);refine J0 H ?_;refine J9 H ?_;by_cases h1:place < 0∨(x.w.length:Int)≤place
  ·have hr':VI m k place ref=3:=by rw[hr];unfold QO;rw[if_pos h1]
   by_cases h0:place < 0
   ·rw[show decide (place < 0)=true from decide_eq_true (by omega)];refine Bx H ?_;refine UO H ?_;refine Q3 (Jy (UX hx (hclose _ _ _ hm' H)) rfl fun w' H'=>⟨by rw[hr'];rfl,H'⟩)
   ·rw[show decide (place < 0)=false from decide_eq_false (by omega)];refine KN H ?_;rw[show decide (place≥(x.w.length:Int))=true from decide_eq_true (by omega)];refine UO H ?_;refine Q3 (Jy (UX hx (hclose _ _ _ hm' H)) rfl fun w' H'=>⟨by rw[hr'];rfl,H'⟩)
  ·obtain⟨j,rfl⟩:∃ j:Nat,place=j:=⟨place.toNat,by omega⟩;have hsm:=Rs (w:=hm) hx;rw[show decide ((j:Int) < 0)=false from decide_eq_false (by omega)];refine KN H ?_;rw[show decide ((j:Int)≥(x.w.length:Int))=false from decide_eq_false (by omega)];refine Y7 H ?_;replace H:=Js [6,6,0,0,0,0,0,0,0,0] 0 H;obtain⟨bL,sL,D1,D2,R,rfl,H,hD,hcl⟩:=NH (by rw[← h2,length_map]) H hy;obtain⟨vr,vq,ly⟩:=y;obtain rfl:ly=Vt m x:=hyl;refine J1 H ?_;clear H;intro w H;refine Y3 H ?_;refine Jl 3 [12] H ?_;refine EQ H ?_;refine Jl 7 [12] H ?_;refine Ja 8 ?_;rw[show IntKind.i64.wrap ((x.lay:Int) - 1)=((x.lay - 1:Nat):Int) by rw[Qb (by omega) (by have:=hm.lays.1;rw[← h2,length_map] at this;omega)];omega];refine R8 9 rfl (Q8.none rfl) rfl rfl (by omega) (by rw[← h2,length_map];omega) (by kernel_rfl) ?_;refine VP 10 [12] H rfl (Q8.none rfl) rfl (I4 hy) (by kernel_rfl) ?_;refine Ja 11 ?_;refine Jo 12 H ?_;refine Jk rfl rfl (aD vr vq (Vt m x) hR j (cY hsz (by omega)) (by omega) ((hD _).there) H) ?_;clear H;rintro v w ⟨rfl,H⟩;refine RM H ?_;replace H:=hcl _ _ H;replace H:=Js [2,2,2,2,2,2,0,0,0,0] 0 H;replace H:=UX hx (hclose _ _ _ hm' H);generalize hbb:VU (Vt m x) j=bb;cases bb with
   | true=>
    cases ref with
    | true=>
     refine EW H ?_;have hr':VI m k j true=0:=by rw[hr];unfold QO;rw[if_neg h1,Int.toNat_natCast,if_neg (by rw[hbb];decide)]
     refine Kb H ?_;refine Q3 (Jy H rfl fun w' H'=>⟨by rw[hr'];rfl,H'⟩)
    | false=>
     refine EW H ?_;have hr':VI m k j false=9:=by rw[hr];unfold QO;rw[if_neg h1,Int.toNat_natCast,if_pos (by rw[hbb];decide)]
     refine YD H ?_;refine Q3 (Jy H rfl fun w' H'=>⟨by rw[hr'];rfl,H'⟩)
   | false=>
    cases ref with
    | true=>
     refine EW H ?_;have hr':VI m k j true=9:=by rw[hr];unfold QO;rw[if_neg h1,Int.toNat_natCast,if_pos (by rw[hbb];decide)]
     refine YD H ?_;refine Q3 (Jy H rfl fun w' H'=>⟨by rw[hr'];rfl,H'⟩)
    | false=>
     refine EW H ?_;have hr':VI m k j false=0:=by rw[hr];unfold QO;rw[if_neg h1,Int.toNat_natCast,if_neg (by rw[hbb];decide)]
     refine Kb H ?_;refine Q3 (Jy H rfl fun w' H'=>⟨by rw[hr'];rfl,H'⟩)
@[reducible] def Yr (m:MS) (k:Nat) (x:QI):MS:={ m with objs:=m.objs.set k x }
theorem Wh {m:MS} (h:VY m) {o:Nat} {x:QI} (hx:Gz m.lays m.objs.length x):VY (Yr m o x):=by
 refine⟨h.P,h.lays,fun y hy=>?_,by show (m.objs.set o x).length≤_;rw[length_set];exact h.few⟩;have hl:(m.objs.set o x).length=m.objs.length:=length_set;show Gz m.lays (m.objs.set o x).length y;rw[hl]
 rcases mem_or_eq_of_mem_set hy with hy|rfl
 ·exact h.objs y hy
 ·exact hx
def Gh (m:MS) (o:Int):MS×Nat:=
 match V7 m o with
 | none=>(m,8)
 | some (k,x)=>(Yr m k { x with held:=false },0)
theorem cZ [Q4] (p:Nat) (m:MS) (o:Int) {w:World} {fr:List Q2} (H:Q0 w (Qs p m::fr)) :
  Calls Tryz.prog 172 #[pp p,.int .i64 o] w (ret fun v w'=>v = .int .i64 ((Gh m o).2:Nat)∧Q0 w' (Qs p (Gh m o).1::fr)):=by
 refine Q9 Tryz.func172 rfl (by kernel_rfl) ?_;refine Uy H ?_;refine Jc rfl rfl (B0 p m o H) ?_;clear H;rintro v w ⟨rfl,H⟩;refine J0 H ?_;cases hv:V7 m o with
 | none=>
  have hr:Gh m o=(m,8):=by unfold Gh;rw[hv]
  rw[hr];refine AO H ?_;refine Q3 (Jy H rfl fun w' H'=>⟨rfl,H'⟩)
 | some kx=>
  obtain⟨k,x⟩:=kx;have hr:Gh m o=(Yr m k { x with held:=false },0):=by unfold Gh;rw[hv]
  rw[hr];obtain⟨rfl,hx,hh,hg⟩:=K5 hv;have hkl:=(List.getElem?_eq_some_iff.1 hx).1;obtain⟨t,lc,aL,cL,bO,cO,s,ptrs,q,vw,vk,vt,rest,hm,h2,hp,H,hclose⟩:=Gg H hx;have hm':VY (Yr m k { x with held:=false }):=Wh hm (by obtain⟨a,b,c,d,e⟩:=hm.objs x (mem_of_getElem? hx);exact⟨a,b,c,d,e⟩);refine U8 H ?_;refine VQ H ?_;refine Jd ?_;refine Q5 rfl (QR H rfl hp rfl ?_);refine GO H ?_;clear H;intro w H;refine WW H ?_;refine Q3 (Jy (hclose _ _ _ hm' H) rfl fun w' H'=>⟨rfl,H'⟩)
def Gi (m:MS) (o:Int) (on:Bool):MS×Nat:=
 match V7 m o with
 | none=>(m,8)
 | some (k,x)=>if x.pinned=on then (m,7) else (Yr m k { x with pinned:=on },0)
theorem cG [Q4] (p:Nat) (m:MS) (o:Int) (on:Bool) {w:World} {fr:List Q2} (H:Q0 w (Qs p m::fr)) :
  Calls Tryz.prog 174 #[pp p,.int .i64 o,.bool on] w (ret fun v w'=>v = .int .i64 ((Gi m o on).2:Nat)∧Q0 w' (Qs p (Gi m o on).1::fr)):=by
 refine Q9 Tryz.func174 rfl (by kernel_rfl) ?_;refine Uy H ?_;refine Jc rfl rfl (B0 p m o H) ?_;clear H;rintro v w ⟨rfl,H⟩;refine J0 H ?_;cases hv:V7 m o with
 | none=>
  have hr:Gi m o on=(m,8):=by unfold Gi;rw[hv]
  rw[hr];refine AO H ?_;refine Q3 (Jy H rfl fun w' H'=>⟨rfl,H'⟩)
 | some kx=>
  obtain⟨k,x⟩:=kx;have hr:Gi m o on=if x.pinned=on then (m,7) else (Yr m k { x with pinned:=on },0):=by unfold Gi;rw[hv]
  rw[hr];obtain⟨rfl,hx,hh,hg⟩:=K5 hv;have hkl:=(List.getElem?_eq_some_iff.1 hx).1;obtain⟨t,lc,aL,cL,bO,cO,s,ptrs,q,vw,vk,vt,rest,hm,h2,hp,H,hclose⟩:=Gg H hx;have hm0:=Rr hx hm;have hm':VY (Yr m k { x with pinned:=on }):=Wh hm (by obtain⟨a,b,c,d,e⟩:=hm.objs x (mem_of_getElem? hx);exact⟨a,b,c,d,e⟩);refine U8 H ?_;obtain⟨xr,xl,xc,xw,xk,xt,xh,xp,xg⟩:=x;refine VQ H ?_;refine Jd ?_;refine Q5 rfl (QR H rfl hp rfl ?_);cases xp with
  | true=>
   cases on with
   | true=>
    refine EA H ?_;refine J2 H ?_;refine YD H ?_;refine Q3 (Jy (UX hx (hclose _ _ _ hm0 H)) rfl fun w' H'=>⟨rfl,H'⟩)
   | false=>
    refine EA H ?_;refine RN H ?_;refine VQ H ?_;refine Jd ?_;refine Q5 rfl (QR H rfl hp rfl ?_);refine YP H ?_;refine UY H ?_;clear H;intro w H;refine WW H ?_;refine Q3 (Jy (hclose _ _ _ hm' H) rfl fun w' H'=>⟨rfl,H'⟩)
  | false=>
   cases on with
   | true=>
    refine EA H ?_;refine RN H ?_;refine VQ H ?_;refine Jd ?_;refine Q5 rfl (QR H rfl hp rfl ?_);refine YP H ?_;refine UY H ?_;clear H;intro w H;refine WW H ?_;refine Q3 (Jy (hclose _ _ _ hm' H) rfl fun w' H'=>⟨rfl,H'⟩)
   | false=>
    refine EA H ?_;refine J2 H ?_;refine YD H ?_;refine Q3 (Jy (UX hx (hclose _ _ _ hm0 H)) rfl fun w' H'=>⟨rfl,H'⟩)
theorem B1 {l:List Nat} {spare:List Value} {i x:Nat} {v:Int} (h:i < l.length) (hv:v=(x:Nat)):(QW l++spare).set (0+i*1) (.int .i64 v)=QW (l.set i x)++spare:=by subst hv;exact Er h
theorem Ud {m:MS} {o place:Int} {ref:Bool} {k:Nat} {x:QI} (h:V7 m o=some (k,x)):VI m o place ref=QO (Vt m x) x.w.length place ref:=by unfold VI;rw[h]
theorem Xa {m:MS} {o place:Int} {ref:Bool} (h:V7 m o=none):VI m o place ref=8:=by unfold VI;rw[h]
def Ue (m:MS) (o place:Int):MS×Nat:=
 match V7 m o with
 | none=>(m,8)
 | some (k,x)=>if QO (Vt m x) x.w.length place true=0 then (Yr m k { x with kind:=x.kind.set place.toNat 0,to:=x.to.set place.toNat 0 },0) else (m,QO (Vt m x) x.w.length place true)
theorem NI {m:MS} {o place:Int} (h:V7 m o=none):Ue m o place=(m,8):=by unfold Ue;rw[h]
theorem IA {m:MS} {o place:Int} {k:Nat} {x:QI} (h:V7 m o=some (k,x)):Ue m o place=if QO (Vt m x) x.w.length place true=0 then (Yr m k { x with kind:=x.kind.set place.toNat 0,to:=x.to.set place.toNat 0 },0) else (m,QO (Vt m x) x.w.length place true):=by unfold Ue;rw[h]
theorem IB {ls:List QM} {n:Nat} {x:QI} (h:Gz ls n x) (j kd t:Nat) (hk:kd=2→t < n):Gz ls n { x with kind:=x.kind.set j kd,to:=x.to.set j t }:=by
 obtain⟨a,b,c,d,e⟩:=h;refine⟨a,b,by show (x.kind.set j kd).length=_;rw[length_set];exact c,by show (x.to.set j t).length=_;rw[length_set];exact d,?_⟩;intro i (hi:(x.kind.set j kd)[i]? = some 2);show (x.to.set j t).getD i 0 < n;by_cases hji:j=i
 ·subst hji
  have hl:j < x.kind.length:=by
   have:=(List.getElem?_eq_some_iff.1 hi).1;simpa using this
  rw[getElem?_set_self hl] at hi;injection hi with hi
  rw[getD_eq_getElem?_getD,getElem?_set_self (by omega)];exact hk hi
 ·rw[getElem?_set_ne hji] at hi;have:=e i hi;rw[getD_eq_getElem?_getD,getElem?_set_ne hji,← getD_eq_getElem?_getD];exact this
theorem cX [Q4] (p:Nat) (m:MS) (o place:Int) {w:World} {fr:List Q2} (H:Q0 w (Qs p m::fr)) :
  Calls Tryz.prog 170 #[pp p,.int .i64 o,.int .i64 place] w (ret fun v w'=>v = .int .i64 ((Ue m o place).2:Nat)∧Q0 w' (Qs p (Ue m o place).1::fr)):=by
 refine Q9 Tryz.func170 rfl (by kernel_rfl) ?_;refine WR H ?_;refine Jc rfl rfl (Rt p m o place true H) ?_;clear H;rintro v w ⟨rfl,H⟩;refine YA H ?_;by_cases h0:VI m o place true=0
 ·obtain⟨k,x,hv⟩:∃ k x,V7 m o=some (k,x):=by
   cases hv:V7 m o with
   | none=>rw[Xa hv] at h0;cases h0
   | some kx=>exact⟨kx.1,kx.2,rfl⟩
  rw[Ud hv] at h0 ⊢;rw[IA hv,if_pos h0,h0];obtain⟨rfl,hx,hh,hg⟩:=K5 hv;have hkl:=(List.getElem?_eq_some_iff.1 hx).1;obtain⟨j,rfl,hj,hr⟩:=Zm h0;rw[Int.toNat_natCast];obtain⟨t,lc,aL,cL,bO,cO,s,ptrs,q,vw,vk,vt,rest,hm,h2,hp,H,hclose⟩:=Gg H hx;have hob:=hm.objs x (mem_of_getElem? hx);have hkn:=hob.kind;have htn:=hob.to;have hsm:=Rs (w:=hm) hx;obtain⟨ak,ck,rfl⟩:=QF H.drop.drop (QH _) (by decide);obtain⟨at',ct,rfl⟩:=QF H.drop.drop.drop (QH _) (by decide);replace H:=Js [2,0,0,0] 0 H;obtain⟨bk,sk,rfl,H,_,_,hck⟩:=Z3 H (by omega);replace H:=Js [3,0,0,0] 0 H;obtain⟨bt,st,rfl,H,_,_,hct⟩:=Z3 H (by omega);refine VM H ?_;refine VQ H ?_;refine Jd ?_;refine Q5 rfl (QR H rfl hp rfl ?_);refine AP H ?_;refine Jd ?_;refine Q5 rfl (Yj H rfl rfl inferInstance rfl (by simp only[length_append,QH];omega) rfl ?_);clear H;intro w H;rw[Int.toNat_natCast,B1 (v:=0) (x:=0) (by omega) rfl] at H;refine EB H ?_;refine Jd ?_;refine Q5 rfl (QR H rfl hp rfl ?_);refine AP H ?_;refine Jd ?_;refine Q5 rfl (Yj H rfl rfl inferInstance rfl (by simp only[length_append,QH];omega) rfl ?_);clear H;intro w H;rw[Int.toNat_natCast,B1 (v:=0) (x:=0) (by omega) rfl] at H;refine J2 H ?_;replace H:=Js [1,0,0,0] 0 H;replace H:=hck _ _ (QW (x.kind.set j 0)) (by simp[QW]) H;replace H:=Js [1,0,0,0] 0 H;replace H:=hct _ _ (QW (x.to.set j 0)) (by simp[QW]) H;replace H:=Js [2,2,1,0] 0 H;replace H:=hclose _ _ { x with kind:=x.kind.set j 0,to:=x.to.set j 0 } (Wh hm (IB hob j 0 0 (by omega))) H;refine J5 H ?_;exact Q3 (Jy H rfl fun w' H'=>⟨rfl,H'⟩)
 ·have hc:Ue m o place=(m,VI m o place true):=by
   cases hv:V7 m o with
   | none=>rw[NI hv,Xa hv]
   | some kx=>
    obtain⟨k,x⟩:=kx;rw[Ud hv] at h0 ⊢;rw[IA hv,if_neg h0]
  rw[hc,show (((VI m o place true:Nat):Int) == 0)=false by simpa using h0];refine WD H ?_;exact Q3 (Jy H rfl fun w' H'=>⟨rfl,H'⟩)
def Yg (m:MS) (o place u:Int):MS×Nat:=
 match V7 m o with
 | none=>(m,8)
 | some (k,x)=>if QO (Vt m x) x.w.length place true=0 then match V7 m u with
  | none=>(m,8)
  | some (ku,_)=>(Yr m k { x with kind:=x.kind.set place.toNat 2,to:=x.to.set place.toNat ku },0)
  else (m,QO (Vt m x) x.w.length place true)
theorem cK [Q4] (p:Nat) (m:MS) (o place u:Int) {w:World} {fr:List Q2} (H:Q0 w (Qs p m::fr)) :
  Calls Tryz.prog 168 #[pp p,.int .i64 o,.int .i64 place,.int .i64 u] w (ret fun v w'=>v = .int .i64 ((Yg m o place u).2:Nat)∧Q0 w' (Qs p (Yg m o place u).1::fr)):=by
 refine Q9 Tryz.func168 rfl (by kernel_rfl) ?_;refine WR H ?_;refine Jc rfl rfl (Rt p m o place true H) ?_;clear H;rintro v w ⟨rfl,H⟩;refine YA H ?_;by_cases h0:VI m o place true=0
 ·obtain⟨k,x,hv⟩:∃ k x,V7 m o=some (k,x):=by
   cases hv:V7 m o with
   | none=>rw[Xa hv] at h0;cases h0
   | some kx=>exact⟨kx.1,kx.2,rfl⟩
  rw[Ud hv] at h0 ⊢;rw[h0];refine AF H ?_;refine Jc rfl rfl (B0 p m u H) ?_;clear H;rintro v w ⟨rfl,H⟩;refine J0 H ?_;cases hu:V7 m u with
  | none=>
   have hr:Yg m o place u=(m,8):=by unfold Yg;rw[hv];show (if QO _ _ _ _=0 then _ else _)=_;rw[if_pos h0,hu]
   rw[hr];refine AO H ?_;exact Q3 (Jy H rfl fun w' H'=>⟨rfl,H'⟩)
  | some kx=>
  obtain⟨ku,xu⟩:=kx;have hr:Yg m o place u=(Yr m k { x with kind:=x.kind.set place.toNat 2,to:=x.to.set place.toNat ku },0):=by unfold Yg;rw[hv];show (if QO _ _ _ _=0 then _ else _)=_;rw[if_pos h0,hu]
  rw[hr];obtain⟨rfl,hx,hh,hg⟩:=K5 hv;obtain⟨rfl,hxu,_,_⟩:=K5 hu;have hkl:=(List.getElem?_eq_some_iff.1 hx).1;have hkul:=(List.getElem?_eq_some_iff.1 hxu).1;obtain⟨j,rfl,hj,hr⟩:=Zm h0;rw[Int.toNat_natCast];refine U8 H ?_;obtain⟨t,lc,aL,cL,bO,cO,s,ptrs,q,vw,vk,vt,rest,hm,h2,hp,H,hclose⟩:=Gg H hx;have hob:=hm.objs x (mem_of_getElem? hx);have hkn:=hob.kind;have htn:=hob.to;have hsm:=Rs (w:=hm) hx;obtain⟨ak,ck,rfl⟩:=QF H.drop.drop (QH _) (by decide);obtain⟨at',ct,rfl⟩:=QF H.drop.drop.drop (QH _) (by decide);replace H:=Js [2,0,0,0] 0 H;obtain⟨bk,sk,rfl,H,_,_,hck⟩:=Z3 H (by omega);replace H:=Js [3,0,0,0] 0 H;obtain⟨bt,st,rfl,H,_,_,hct⟩:=Z3 H (by omega);refine VQ H ?_;refine Jd ?_;refine Q5 rfl (QR H rfl hp rfl ?_);refine AP H ?_;refine Jd ?_;refine Q5 rfl (Yj H rfl rfl inferInstance rfl (by simp only[length_append,QH];omega) rfl ?_);clear H;intro w H;rw[Int.toNat_natCast,B1 (v:=2) (x:=2) (by omega) rfl] at H;refine EB H ?_;refine Jd ?_;refine Q5 rfl (QR H rfl hp rfl ?_);refine Jv ?_;refine WI H ?_;refine Jd ?_;refine Q5 rfl (Yj H rfl rfl inferInstance rfl (by simp only[length_append,QH];omega) rfl ?_);clear H;intro w H;rw[Int.toNat_natCast,B1 (v:=ku) (x:=ku) (by omega) rfl] at H;refine J2 H ?_;replace H:=Js [1,0,0,0] 0 H;replace H:=hck _ _ (QW (x.kind.set j 2)) (by simp[QW]) H;replace H:=Js [1,0,0,0] 0 H;replace H:=hct _ _ (QW (x.to.set j ku)) (by simp[QW]) H;replace H:=Js [2,2,1,0] 0 H;replace H:=hclose _ _ { x with kind:=x.kind.set j 2,to:=x.to.set j ku } (Wh hm (IB hob j 2 ku (fun _=>hkul))) H;refine VB H ?_;exact Q3 (Jy H rfl fun w' H'=>⟨rfl,H'⟩)
 ·have hc:Yg m o place u=(m,VI m o place true):=by
   cases hv:V7 m o with
   | none=>unfold Yg;rw[hv,Xa hv]
   | some kx=>
    obtain⟨k,x⟩:=kx;rw[Ud hv] at h0 ⊢;unfold Yg;rw[hv];show (if QO _ _ _ _=0 then _ else _)=_;rw[if_neg h0]
  rw[hc,show (((VI m o place true:Nat):Int) != 0)=true by simpa using h0];refine Yn H ?_;exact Q3 (Jy H rfl fun w' H'=>⟨rfl,H'⟩)
def K6 (m:MS) (t:Nat):MS:=match m.objs[t]? with|some y=>Yr m t { y with held:=true }|none=>m
def YE (m:MS) (o place:Int):MS×Nat×Nat×Nat:=
 match V7 m o with
 | none=>(m,0,0,8)
 | some (_,x)=>if QO (Vt m x) x.w.length place true=0 then (if x.kind.getD place.toNat 0=2 then K6 m (x.to.getD place.toNat 0) else m,x.kind.getD place.toNat 0,x.to.getD place.toNat 0,0) else (m,0,0,QO (Vt m x) x.w.length place true)
theorem cR [Q4] (p:Nat) (m:MS) (o place:Int) {w:World} {fr:List Q2} (H:Q0 w (Qs p m::fr)) :
  Calls Tryz.prog 167 #[pp p,.int .i64 o,.int .i64 place] w (ret fun v w'=>v = .tuple #[.int .i64 ((YE m o place).2.1:Nat),.int .i64 ((YE m o place).2.2.1:Nat),.int .i64 ((YE m o place).2.2.2:Nat)]∧Q0 w' (Qs p (YE m o place).1::fr)):=by
 refine Q9 Tryz.func167 rfl (by kernel_rfl) ?_;refine VX H ?_;refine Vq H ?_;refine Jc rfl rfl (Rt p m o place true H) ?_;clear H;rintro v w ⟨rfl,H⟩;refine YA H ?_;by_cases h0:VI m o place true=0
 ·obtain⟨k,x,hv⟩:∃ k x,V7 m o=some (k,x):=by
   cases hv:V7 m o with
   | none=>rw[Xa hv] at h0;cases h0
   | some kx=>exact⟨kx.1,kx.2,rfl⟩
  rw[Ud hv] at h0 ⊢;have hrm:YE m o place=(if x.kind.getD place.toNat 0=2 then K6 m (x.to.getD place.toNat 0) else m,x.kind.getD place.toNat 0,x.to.getD place.toNat 0,0):=by unfold YE;rw[hv];show (if QO _ _ _ _=0 then _ else _)=_;rw[if_pos h0]
  rw[hrm,h0];refine V6 H ?_;obtain⟨rfl,hx,hh,hg⟩:=K5 hv;have hkl:=(List.getElem?_eq_some_iff.1 hx).1;obtain⟨j,rfl,hj,hr⟩:=Zm h0;rw[Int.toNat_natCast];obtain⟨t,lc,aL,cL,bO,cO,s,ptrs,q,vw,vk,vt,rest,hm,h2,hp,H,hclose⟩:=Gg H hx;have hob:=hm.objs x (mem_of_getElem? hx);have hkn:=hob.kind;have htn:=hob.to;have hsm:=Rs (w:=hm) hx;obtain⟨ak,ck,rfl⟩:=QF H.drop.drop (QH _) (by decide);obtain⟨at',ct,rfl⟩:=QF H.drop.drop.drop (QH _) (by decide);replace H:=Js [2,0,0,0] 0 H;obtain⟨bk,sk,rfl,H,_,_,hck⟩:=Z3 H (by omega);replace H:=Js [3,0,0,0] 0 H;obtain⟨bt,st,rfl,H,_,_,hct⟩:=Z3 H (by omega);have hkj:=getElem?_eq_getElem (l:=x.kind) (i:=j) (by omega);have htj:=getElem?_eq_getElem (l:=x.to) (i:=j) (by omega);have hkd:x.kind.getD j 0=x.kind[j]:=by rw[getD_eq_getElem?_getD,hkj];rfl
  have htd:x.to.getD j 0=x.to[j]:=by rw[getD_eq_getElem?_getD,htj];rfl
  have hgo:=hob.goes j;rw[htd] at hgo;rw[hkd,htd];generalize x.kind[j]=kd at *;generalize x.to[j]=td at *;refine VQ H ?_;refine Jd ?_;refine Q5 rfl (QR H rfl hp rfl ?_);refine AP H ?_;refine Jd ?_;refine Q5 rfl (QR H rfl (G8 hkj) rfl ?_);refine J0 H ?_;refine VQ H ?_;refine Jd ?_;refine Q5 rfl (QR H rfl hp rfl ?_);refine AP H ?_;refine Jd ?_;refine Q5 rfl (QR H rfl (G8 htj) rfl ?_);refine J0 H ?_;replace H:=Js [1,0,0,0] 0 H;replace H:=hck _ _ (QW x.kind) rfl H;replace H:=Js [1,0,0,0] 0 H;replace H:=hct _ _ (QW x.to) rfl H;replace H:=Js [2,2,1,0] 0 H;replace H:=UX hx (hclose _ _ x (Rr hx hm) H);clear hck hct hclose;refine J5 H ?_;by_cases h2':kd=2
  ·subst h2';rw[if_pos rfl];have htl:=hgo hkj;have hy:=getElem?_eq_getElem htl;generalize m.objs[td]=y at hy;have hh':K6 m td=Yr m td { y with held:=true }:=by unfold K6;rw[hy]
   rw[hh'];refine VM H ?_;obtain⟨t',lc',aL',cL',bO',cO',s',ptrs',q',vw',vk',vt',rest',hm',h2',hp',H,hclose⟩:=Gg H hy;refine VQ H ?_;refine Jd ?_;refine Q5 rfl (QR H rfl hp' rfl ?_);refine GO H ?_;clear H;intro w H;refine J2 H ?_;refine KI H ?_;refine Q3 (Jy (hclose _ _ { y with held:=true } (Wh hm (by obtain⟨a,b,c,d,e⟩:=hm.objs y (mem_of_getElem? hy);exact⟨a,b,c,d,e⟩)) H) rfl fun w' H'=>⟨rfl,H'⟩)
  ·rw[if_neg h2',show ((kd:Int) == 2)=false by simp;omega];refine V6 H ?_;refine KI H ?_;exact Q3 (Jy H rfl fun w' H'=>⟨rfl,H'⟩)
 ·have hc:YE m o place=(m,0,0,VI m o place true):=by
   cases hv:V7 m o with
   | none=>unfold YE;rw[hv,Xa hv]
   | some kx=>
    obtain⟨k,x⟩:=kx;rw[Ud hv] at h0 ⊢;unfold YE;rw[hv];show (if QO _ _ _ _=0 then _ else _)=_;rw[if_neg h0]
  rw[hc,show (((VI m o place true:Nat):Int) != 0)=true by simpa using h0];refine VM H ?_;refine WM H ?_;exact Q3 (Jy H rfl fun w' H'=>⟨rfl,H'⟩)
def GV:MS:=⟨[-1],[],[]⟩
theorem cW [Q4] {w:World} {fr:List Q2} (H:Q0 w fr):Calls Tryz.prog 99 #[] w (ret fun v w'=>∃ p,v=pp p∧Q0 w' (Qs p GV::fr)):=by
 refine Q9 Tryz.func99 rfl (by kernel_rfl) ?_;refine C2 H ?_;refine Jc rfl rfl (bz H) ?_;clear H;rintro v w ⟨t,rfl,H⟩;refine XE H ?_;clear H;intro b3 w H;refine J0 H ?_;have H:Q0 w (star (([]:List OC).map Yp)::pts b3 (row 58 [pp t,.slice none 0 0,.slice none 0 0])::VS t [-1]::fr):=Q0.star.2 H;have H:=Z2 (E:=77) (k:=1) H;have H:Q0 w (star (([]:List Z7).map YG)::_):=Q0.star.2 H;have H:=Z2 (E:=102) (k:=4) H;replace H:=Js [4,4,0,0,0,0] 0 H;have hm:VY GV:=⟨⟨by simp[GV],by simp[GV]⟩,⟨by simp[GV],fun l h=>by cases h⟩,(fun l h=>by cases h),by simp[GV]⟩;exact Q3 (Jy (Yq (m:=GV) hm (lc:=[]) (oc:=[]) rfl rfl H) rfl fun w' H'=>⟨_,rfl,H'⟩)
def Xb (m:MS) (parent:Int):MS×Nat×Nat:=if ZV m.P parent=0 then ({ m with P:=m.P++[parent] },m.P.length,0) else (m,0,ZV m.P parent)
theorem NJ [Q4] (p:Nat) (m:MS) (parent:Int) (hP:m.P.length < 100000) {w:World} {fr:List Q2} (H:Q0 w (Qs p m::fr)) :
  Calls Tryz.prog 162 #[pp p,.int .i64 parent] w (ret fun v w'=>v = .tuple #[.int .i64 ((Xb m parent).2.1:Nat),.int .i64 ((Xb m parent).2.2:Nat)]∧Q0 w' (Qs p (Xb m parent).1::fr)):=by
 obtain⟨t,lc,oc,aL,cL,aO,cO,hm,h2,h3,hl1,hl2,H⟩:=ZT H;refine Q9 Tryz.func162 rfl (by kernel_rfl) ?_;refine CV H ?_;replace H:=Js [1,0] 0 H;refine Jc rfl rfl (NF t m.P parent (by omega) hm.P.1 H) ?_;clear H;rintro v w (⟨he,rfl,H⟩|⟨he,rfl,H⟩)
 ·have hr:Xb m parent=(m,0,ZV m.P parent):=by unfold Xb;rw[if_neg he]
  rw[hr];refine AH H ?_;exact Q3 (Jy (Yq hm h2 h3 H.swap) rfl fun w' H'=>⟨rfl,H'⟩)
 ·have hr:Xb m parent=({ m with P:=m.P++[parent] },m.P.length,0):=by unfold Xb;rw[if_pos he]
  rw[hr];have hm':VY { m with P:=m.P++[parent] }:=⟨⟨by simp,by simp;omega⟩,hm.lays,hm.objs,hm.few⟩;refine AH H ?_;exact Q3 (Jy (Yq (m:={ m with P:=m.P++[parent] }) hm' h2 h3 H.swap) rfl fun w' H'=>⟨rfl,H'⟩)
def Za (m:MS) (ws:List Nat):MS×Nat×Nat:=
 match ZD ws with
 | none=>(m,0,4)
 | some l=>if 64≤m.lays.length then (m,0,5) else ({ m with lays:=m.lays++[l] },m.lays.length+1,0)
theorem cB {ls:List QM} {l:QM} {n:Nat} {x:QI} (h:Gz ls n x):Gz (ls++[l]) n x:=by
 obtain⟨⟨l',a,a2⟩,b,c,d,e⟩:=h;exact⟨⟨l',by rw[getElem?_append_left (List.getElem?_eq_some_iff.1 a).1];exact a,a2⟩,b,c,d,e⟩
theorem cC [Q4] (p:Nat) (m:MS) (v:Value) (ws:List Nat) (hws:∀ x∈ws,x < 18446744073709551616) {w:World} {fr:List Q2} (hr:Vu fr v ws.length 1 (Qa ws)) (H:Q0 w (Qs p m::fr)) :
  Calls Tryz.prog 161 #[pp p,v] w (ret fun r w'=>r = .tuple #[.int .i64 ((Za m ws).2.1:Nat),.int .i64 ((Za m ws).2.2:Nat)]∧Q0 w' (Qs p (Za m ws).1::fr)):=by
 obtain⟨_,ad,cap,rfl,hr'⟩:=id hr;refine Q9 Tryz.func161 rfl (by kernel_rfl) ?_;refine DT H ?_;refine Jc rfl rfl (be _ ws hws hr.there H) ?_;clear H;rintro r w (⟨hd,rfl,H⟩|⟨l,vr,vq,hd,rfl,H⟩)
 ·have hdr:Za m ws=(m,0,4):=by unfold Za;rw[hd]
  rw[hdr];refine Vj H ?_;clear H;intro b6 w H;refine J4 H ?_;clear H;intro w H;refine CY H ?_;exact Q3 (Jy H.drop rfl fun w' H'=>⟨rfl,H'⟩)
 ·obtain⟨a1,m1,c1,rfl⟩:=Qw H;obtain⟨a2,m2,c2,rfl⟩:=Qw H.swap;replace H:=Js [2,0,0] 0 H;obtain⟨t,lc,oc,aL,cL,aO,cO,hm,h2,h3,hl1,hl2,H⟩:=ZT H;refine Vj H ?_;clear H;intro b6 w H;refine J4 H ?_;clear H;intro w H;refine Yv H ?_;refine Yd H ?_;refine UN H ?_;by_cases h64:64≤m.lays.length
  ·have hdr:Za m ws=(m,0,5):=by unfold Za;rw[hd];show (if _ then _ else _)=_;rw[if_pos h64]
   rw[hdr];rw[show decide ((m.lays.length:Int)≥64)=true from decide_eq_true (by omega)];refine Yn H ?_;have H:=Yq hm h2 h3 H.drop;replace H:=Js [0] 2 H;exact Q3 (Jy H rfl fun w' H'=>⟨rfl,H'⟩)
  ·have hdr:Za m ws=({ m with lays:=m.lays++[l] },m.lays.length+1,0):=by unfold Za;rw[hd];show (if _ then _ else _)=_;rw[if_neg h64]
   rw[hdr]
   have hR:Vf l:=by
    unfold ZD at hd;split at hd
    ·split at hd
     ·injection hd with hd;rename_i hx;rw[← hd];exact hx.2
     ·cases hd
    ·cases hd
   have hm':VY { m with lays:=m.lays++[l] }:=⟨hm.P,⟨by show (m.lays++[l]).length≤64;simp;omega,fun x hx=>by
    rcases mem_append.1 hx with hx|hx
    ·exact hm.lays.2 x hx
    ·simp at hx;subst hx;exact hR⟩,fun x hx=>cB (hm.objs x hx),hm.few⟩
   rw[show decide ((m.lays.length:Int)≥64)=false from decide_eq_false (by omega)];refine C1 H ?_;clear H;intro w H;refine RJ H ?_;refine Jl 4 [7,10] H ?_;refine HN H ?_;refine Jo 6 H ?_;refine WU H ?_;clear H;intro b27 w H;replace H:=Js [4,0,0,0,0] 0 H;refine Jo 7 H ?_;refine YO H rfl rfl (by repeat first|exact .nil _|apply QV.cons rfl) rfl (by decide) (by rw[Rm];simp only[length_cons,length_nil];omega) rfl rfl ?_;clear H;intro v28 w H
   have e1:VD lc++[.int .i64 l.fixed,.slice a1 m1 c1,.int .i64 l.record,.slice a2 m2 c2]=VD (lc++[(.slice a1 m1 c1,.slice a2 m2 c2,l)]):=by
    rw[Mu];rfl
   rw[e1] at H;have hql':(lc++[((.slice a1 m1 c1:Value),(.slice a2 m2 c2:Value),l)]).length=m.lays.length+1:=by simp[hl1]
   obtain⟨a28,c28,rfl⟩:=QF H (m:=m.lays.length+1) (by rw[Rm,hql']) (by decide);refine Ja 8 ?_;refine Jf 9 ?_;refine Jo 10 H ?_;refine UQ H ?_;clear H;intro w H;refine Jx H ?_;refine Dy H ?_;refine J3 H ?_;replace H:=Js [8,8,5,3,3,0,2,2] 2 H
   have H1:Q0 w (star ((lc++[((.slice a1 m1 c1:Value),(.slice a2 m2 c2:Value),l)]).map YG)::pts p (row 58 [pp t,.slice a28 (m.lays.length+1) c28,.slice aO m.objs.length cO])::VS t m.P::QC 102 4 (.slice a28 (m.lays.length+1) c28) (VD (lc++[(.slice a1 m1 c1,.slice a2 m2 c2,l)]))::QC 77 1 (.slice aO m.objs.length cO) (oc.map fun x=>pp x.ptr)::star (oc.map Yp)::fr):=by
    refine(Q0.pick (x:=((.slice a1 m1 c1:Value),(.slice a2 m2 c2:Value),l)) (g1:=lc) (g2:=[]) rfl).2 ?_;rw[append_nil];refine Q0.star.2 ?_;exact H
   replace H1:=Js [1,1,1,0,0,0] 0 H1;have H2:=Yq (m:={ m with lays:=m.lays++[l] }) hm' (lc:=lc++[((.slice a1 m1 c1:Value),(.slice a2 m2 c2:Value),l)]) (by rw[map_append,h2];rfl) h3 H1;exact Q3 (Jy H2 rfl fun w' H'=>⟨rfl,H'⟩)
def Vr (m:MS) (region lay count:Int):Nat×Nat:=
 if Y0 m.P region=false then (0,15) else if lay < 1∨(m.lays.length:Int) < lay then (0,6) else VG ((m.lays[lay.toNat - 1]?).getD ⟨0,[],0,[]⟩) count
theorem NM [Q4] (p:Nat) (m:MS) (region lay count:Int) {w:World} {fr:List Q2} (H:Q0 w (Qs p m::fr)) :
  Calls Tryz.prog 229 #[pp p,.int .i64 region,.int .i64 lay,.int .i64 count] w (ret fun v w'=>v = .tuple #[.int .i64 ((Vr m region lay count).1:Nat),.int .i64 ((Vr m region lay count).2:Nat)]∧Q0 w' (Qs p m::fr)):=by
 obtain⟨t,lc,oc,aL,cL,aO,cO,hm,h2,h3,hl1,hl2,H⟩:=ZT H;refine Q9 Tryz.func229 rfl (by kernel_rfl) ?_;refine CV H ?_;replace H:=Js [1,0] 0 H;refine Jc rfl rfl (Wg t m.P region H) ?_;clear H;rintro v w ⟨rfl,H⟩;generalize hlv:Y0 m.P region=lv;have hlays:=hm.lays.1;cases lv with
 | false=>
  have hr:Vr m region lay count=(0,15):=by unfold Vr;rw[if_pos hlv]
  rw[hr];refine CY H ?_;exact Q3 (Jy (Yq hm h2 h3 H.swap) rfl fun w' H'=>⟨rfl,H'⟩)
 | true=>
  replace H:=Js [1,0] 0 H;refine Yv H ?_;by_cases h1:lay < 1
  ·have hr:Vr m region lay count=(0,6):=by unfold Vr;rw[if_neg (by rw[hlv];decide),if_pos (.inl h1)]
   rw[hr];refine J9 H ?_;rw[show decide (lay < 1)=true from decide_eq_true (by omega)];refine Bx H ?_;refine Bj H ?_;exact Q3 (Jy (Yq hm h2 h3 H) rfl fun w' H'=>⟨rfl,H'⟩)
  ·refine J9 H ?_;rw[show decide (lay < 1)=false from decide_eq_false (by omega)];refine KN H ?_;by_cases h2':(m.lays.length:Int) < lay
   ·have hr:Vr m region lay count=(0,6):=by unfold Vr;rw[if_neg (by rw[hlv];decide),if_pos (.inr h2')]
    rw[hr];rw[show decide (lay > (m.lays.length:Int))=true from decide_eq_true (by omega)];refine Bj H ?_;exact Q3 (Jy (Yq hm h2 h3 H) rfl fun w' H'=>⟨rfl,H'⟩)
   ·obtain⟨la,rfl⟩:∃ la:Nat,lay=((la+1:Nat):Int):=⟨lay.toNat - 1,by omega⟩;have hla:la < lc.length:=by omega
    have hy:=getElem?_eq_getElem hla;generalize lc[la]=y at hy;have hyl:m.lays[la]? = some y.2.2:=by rw[← h2,getElem?_map,hy];rfl
    have hr:Vr m region ((la+1:Nat):Int) count=VG y.2.2 count:=by
     unfold Vr;rw[if_neg (by rw[hlv];decide),if_neg (by omega),Int.toNat_natCast,Nat.add_sub_cancel,hyl];rfl
    rw[hr];have hR:=hm.lays.2 _ (mem_of_getElem? hyl);rw[show decide (((la+1:Nat):Int) > (m.lays.length:Int))=false from decide_eq_false (by omega)];refine Y7 H ?_;replace H:=Js [2,2,0,0,0,0] 0 H;obtain⟨bL,sL,D1,D2,R,rfl,H,hD,hcl⟩:=NH hl1 H hy;obtain⟨vr,vq,l⟩:=y;refine GM H ?_;rw[show IntKind.i64.wrap (((la+1:Nat):Int) - 1)=(la:Int) by rw[Qb (by omega) (by omega)];omega];refine Jd ?_;refine Q5 rfl (VN H rfl (I4 hy) rfl ?_);refine Jv ?_;refine Jc rfl rfl (aC vr vq l hR count ((hD _).there) H) ?_;clear H;rintro v w ⟨rfl,H⟩;refine AH H ?_;replace H:=hcl _ _ H;replace H:=Js [2,2,0,0,0,0] 0 H;exact Q3 (Jy (Yq hm h2 h3 H) rfl fun w' H'=>⟨rfl,H'⟩)
def GY (region lay count:Int) (n:Nat):QI:=⟨region.toNat,lay.toNat,count.toNat,List.replicate n 0,List.replicate n 0,List.replicate n 0,true,false,false⟩
def Ko (m:MS) (region lay count:Int):MS:={ m with objs:=m.objs++[GY region lay count (Vr m region lay count).1] }
theorem FQ {m:MS} {region lay count:Int} (h:(Vr m region lay count).2=0):∃ (r la c:Nat) (l:QM),region=r∧lay=(la+1:Nat)∧count=c∧Y0 m.P region=true∧m.lays[la]? = some l∧Vr m region lay count=VG l c∧VG l c=(l.fixed+c*l.record,0)∧l.fixed+c*l.record < 8192:=by
 unfold Vr at h ⊢;by_cases h1:Y0 m.P region=false
 ·rw[if_pos h1] at h;cases h
 ·rw[if_neg h1] at h ⊢;by_cases h2:lay < 1∨(m.lays.length:Int) < lay
  ·rw[if_pos h2] at h;cases h
  ·rw[if_neg h2] at h ⊢;have h3:Y0 m.P region=true:=by simpa using h1
   have h4:0 < region:=by
    unfold Y0 at h3;exact(of_decide_eq_true h3).1
   obtain⟨la,rfl⟩:∃ la:Nat,lay=((la+1:Nat):Int):=⟨lay.toNat - 1,by omega⟩;have hla:la < m.lays.length:=by omega
   have hl:=getElem?_eq_getElem hla;generalize m.lays[la]=l at hl;rw[Int.toNat_natCast,Nat.add_sub_cancel,hl] at h ⊢;replace h:(VG l count).2=0:=h;unfold VG at h;split at h
   ·cases h
   ·rename_i hc;split at h
    ·cases h
    ·rename_i hs;obtain⟨c,rfl⟩:∃ c:Nat,count=c:=⟨count.toNat,by omega⟩;rw[Int.toNat_natCast] at hs;refine⟨region.toNat,la,c,l,by omega,rfl,rfl,h3,hl,rfl,?_,by omega⟩;unfold VG;rw[if_neg hc,Int.toNat_natCast,if_neg hs]
theorem IC {m:MS} {region lay count:Int} (h:(Vr m region lay count).2=0) (hm:VY m) (hf:m.objs.length < 100000):VY (Ko m region lay count):=by
 obtain⟨r,la,c,l,rfl,rfl,rfl,hl,hla,hmay,hsz,hlt⟩:=FQ h;have hlen:(m.objs++[GY r ((la+1:Nat):Int) c (Vr m r ((la+1:Nat):Int) c).1]).length=m.objs.length+1:=by simp
 refine⟨hm.P,hm.lays,fun x hx=>?_,by show (m.objs++[_]).length≤_;rw[hlen];omega⟩;show Gz m.lays (m.objs++[_]).length x;rw[hlen]
 rcases mem_append.1 hx with hx|hx
 ·obtain⟨a,b,c,d,e⟩:=hm.objs x hx;exact⟨a,b,c,d,fun p hp=>by have:=e p hp;omega⟩
 ·simp only[mem_singleton] at hx;subst hx;rw[hmay,hsz];refine⟨⟨l,?_,hm.lays.2 l (mem_of_getElem? hla),?_⟩,?_,rfl,rfl,?_⟩
  ·show m.lays[(((la+1:Nat):Int).toNat) - 1]? = _;rw[Int.toNat_natCast];exact hla
  ·show VG l ((((c:Nat):Int).toNat:Nat):Int)=((List.replicate (l.fixed+c*l.record) 0).length,0);rw[Int.toNat_natCast,hsz,length_replicate]
  ·show 1≤((la+1:Nat):Int).toNat;omega
  ·intro p hp;have:(List.replicate (l.fixed+c*l.record) 0)[p]? = some 2:=hp;rw[getElem?_replicate] at this;split at this <;> cases this
theorem B2 [Q4] {w:World} {p t bO bW bK bT n rr la c:Nat} {m:MS} {lc:List Z7} {oc:List OC} {aL aS:Option Addr} {cL cS:Nat} {fr:List Q2} (hm':VY { m with objs:=m.objs++[GY (rr:Int) ((la+1:Nat):Int) (c:Int) n] }) (h2:lc.map (·.2.2)=m.lays) (h3:oc.map (·.ob)=m.objs) (hl1:lc.length=m.lays.length)
  (H : Q0 w (pts bO (row 76 [.int .i64 rr, .int .i64 ((la + 1 : Nat) : Int), .int .i64 c, .slice (some ⟨bW, 0, none⟩) n n, .slice (some ⟨bK, 0, none⟩) n n, .slice (some ⟨bT, 0, none⟩) n n, .bool true, .bool false, .bool false]) :: UL (.slice (some ⟨bW, 0, none⟩) n n) (List.replicate n 0) :: NL (.slice (some ⟨bK, 0, none⟩) n n) (List.replicate n 0) :: NL (.slice (some ⟨bT, 0, none⟩) n n) (List.replicate n 0) :: star (oc.map Yp) ::
   pts p (row 58 [pp t,.slice aL m.lays.length cL,.slice aS (m.objs.length+1) cS])::VS t m.P::QC 102 4 (.slice aL m.lays.length cL) (VD lc)::star (lc.map YG)::QC 77 1 (.slice aS (m.objs.length+1) cS) ((oc.map fun x=>pp x.ptr)++[pp bO])::fr)) :
  Q0 w (Qs p { m with objs:=m.objs++[GY (rr:Int) ((la+1:Nat):Int) (c:Int) n] }::fr):=by
 have H1:Q0 w (star ((oc++[(⟨bO,.slice (some ⟨bW,0,none⟩) n n,.slice (some ⟨bK,0,none⟩) n n,.slice (some ⟨bT,0,none⟩) n n,GY (rr:Int) ((la+1:Nat):Int) (c:Int) n⟩:OC)]).map Yp)::pts p (row 58 [pp t,.slice aL m.lays.length cL,.slice aS (m.objs.length+1) cS])::VS t m.P::QC 102 4 (.slice aL m.lays.length cL) (VD lc)::star (lc.map YG)::QC 77 1 (.slice aS (m.objs.length+1) cS) ((oc.map fun x=>pp x.ptr)++[pp bO])::fr):=by
  refine(Q0.pick (g1:=oc) (g2:=[]) rfl).2 ?_;rw[append_nil];exact Q0.star.2 H
 replace H1:=Js [1,1,1,1,1,0] 0 H1;exact Yq (m:={ m with objs:=m.objs++[GY (rr:Int) ((la+1:Nat):Int) (c:Int) n] }) (oc:=oc++[(⟨bO,.slice (some ⟨bW,0,none⟩) n n,.slice (some ⟨bK,0,none⟩) n n,.slice (some ⟨bT,0,none⟩) n n,GY (rr:Int) ((la+1:Nat):Int) (c:Int) n⟩:OC)]) hm' h2 (by rw[map_append,h3];rfl) (by rw[map_append];exact H1)
theorem cD [Q4] (p:Nat) (m:MS) (region lay count:Int) (hmay:(Vr m region lay count).2=0) (hf:m.objs.length < 100000) {w:World} {fr:List Q2} (H:Q0 w (Qs p m::fr)) :
  Calls Tryz.prog 231 #[pp p,.int .i64 region,.int .i64 lay,.int .i64 count] w (ret fun v w'=>v = .tuple #[]∧Q0 w' (Qs p (Ko m region lay count)::fr)):=by
 refine Q9 Tryz.func231 rfl (by kernel_rfl) ?_;refine Xu H ?_;refine Jc rfl rfl (NM p m region lay count H) ?_;clear H;rintro v w ⟨rfl,H⟩;have hr:Ko m region lay count={ m with objs:=m.objs++[GY region lay count (Vr m region lay count).1] }:=rfl;rw[hr];obtain⟨t,lc,oc,aL,cL,aO,cO,hm,h2,h3,hl1,hl2,H⟩:=ZT H;have hm':VY _:=IC hmay hm hf;rw[hr] at hm';obtain⟨rr,la,c,l,rfl,rfl,rfl,hlv,hla,hmm,hsz,hlt⟩:=FQ hmay;have hn1:(Vr m (rr:Int) ((la+1:Nat):Int) (c:Int)).1=l.fixed+c*l.record:=by rw[hmm,hsz]
 rw[hmm,hsz] at hm' ⊢;generalize l.fixed+c*l.record=n at *
 have z1:Y2 (Qz (.int .u64 0)) n=Qa (List.replicate n 0):=by
  rw[show Qz (.int .u64 0)=[.int .u64 0] from rfl,WY];simp[Qa]
 have z2:Y2 (Qz (.int .i64 0)) n=QW (List.replicate n 0):=by
  rw[show Qz (.int .i64 0)=[.int .i64 0] from rfl,WY];simp[QW]
 refine Dd H ?_;clear H;intro w H;refine RJ H ?_;refine Jl 4 [17,20] H ?_;refine Ja 5 ?_;refine Ja 6 ?_;refine Ja 7 ?_;refine Ja 8 ?_;refine Ja 10 ?_;refine Ja 12 ?_;refine Sz 9 11 13 rfl rfl rfl (by kernel_rfl) (by repeat first|exact .nil|refine .cons (.inr H.at) ?_|refine .cons (.inr H.mp) ?_|refine .cons (.inl (by kernel_rfl)) ?_) (Q8.none rfl) (Q8.none rfl) (Q8.none rfl) (ZA H rfl rfl (by decide) (by omega) rfl ?_) (ZA H rfl rfl (by decide) (by omega) rfl ?_) (ZA H rfl rfl (by decide) (by omega) rfl ?_)
 ·clear H;intro bW w H;rw[z1] at H;refine Jw 11 13 H rfl rfl (ZA H rfl rfl (by decide) (by omega) rfl ?_) (ZA H rfl rfl (by decide) (by omega) rfl ?_)
  ·clear H;intro bK w H;rw[z2] at H;refine Jo 13 H ?_;refine ZA H rfl rfl (by decide) (by omega) rfl ?_;clear H;intro bT w H;rw[z2] at H;replace H:=Js [2,1,0] 0 H;refine AS H ?_;clear H;intro bO w H
   refine Aa H ?_;clear H;intro bS w H;replace H:=Js [9,0,0,0,0,0,0,0,0,0,0] 0 H;refine Jo 17 H ?_;refine YO H rfl rfl (by repeat first|exact .nil _|apply QV.cons rfl) rfl (by decide) (by simp;omega) rfl rfl ?_;clear H;intro vS w H;obtain⟨aS,cS,rfl⟩:=QF H (m:=m.objs.length+1) (by simp[hl2]) (by decide);refine Ab H ?_;clear H;intro w H;refine Jx H ?_;replace H:=Js [2,2,2,2,6,2,2,2,2,0] 1 H;exact YV _ (.inl rfl) (B2 hm' h2 h3 hl1 H) rfl fun w' H'=>⟨rfl,H'⟩
  ·clear H;intro bT w H;rw[z2] at H;refine Jo 11 H ?_;refine ZA H rfl rfl (by decide) (by omega) rfl ?_;clear H;intro bK w H;rw[z2] at H;replace H:=Js [2,0,0] 0 H;refine AS H ?_;clear H;intro bO w H
   refine Aa H ?_;clear H;intro bS w H;replace H:=Js [9,0,0,0,0,0,0,0,0,0,0] 0 H;refine Jo 17 H ?_;refine YO H rfl rfl (by repeat first|exact .nil _|apply QV.cons rfl) rfl (by decide) (by simp;omega) rfl rfl ?_;clear H;intro vS w H;obtain⟨aS,cS,rfl⟩:=QF H (m:=m.objs.length+1) (by simp[hl2]) (by decide);refine Ab H ?_;clear H;intro w H;refine Jx H ?_;replace H:=Js [2,2,2,2,6,2,2,2,2,0] 1 H;exact YV _ (.inl rfl) (B2 hm' h2 h3 hl1 H) rfl fun w' H'=>⟨rfl,H'⟩
 ·clear H;intro bK w H;rw[z2] at H;refine Jw 9 13 H rfl rfl (ZA H rfl rfl (by decide) (by omega) rfl ?_) (ZA H rfl rfl (by decide) (by omega) rfl ?_)
  ·clear H;intro bW w H;rw[z1] at H;refine Jo 13 H ?_;refine ZA H rfl rfl (by decide) (by omega) rfl ?_;clear H;intro bT w H;rw[z2] at H;replace H:=Js [1,1,0] 0 H;refine AS H ?_;clear H;intro bO w H
   refine Aa H ?_;clear H;intro bS w H;replace H:=Js [9,0,0,0,0,0,0,0,0,0,0] 0 H;refine Jo 17 H ?_;refine YO H rfl rfl (by repeat first|exact .nil _|apply QV.cons rfl) rfl (by decide) (by simp;omega) rfl rfl ?_;clear H;intro vS w H;obtain⟨aS,cS,rfl⟩:=QF H (m:=m.objs.length+1) (by simp[hl2]) (by decide);refine Ab H ?_;clear H;intro w H;refine Jx H ?_;replace H:=Js [2,2,2,2,6,2,2,2,2,0] 1 H;exact YV _ (.inl rfl) (B2 hm' h2 h3 hl1 H) rfl fun w' H'=>⟨rfl,H'⟩
  ·clear H;intro bT w H;rw[z2] at H;refine Jo 9 H ?_;refine ZA H rfl rfl (by decide) (by omega) rfl ?_;clear H;intro bW w H;rw[z1] at H;replace H:=Js [0,1,0] 0 H;refine AS H ?_;clear H;intro bO w H
   refine Aa H ?_;clear H;intro bS w H;replace H:=Js [9,0,0,0,0,0,0,0,0,0,0] 0 H;refine Jo 17 H ?_;refine YO H rfl rfl (by repeat first|exact .nil _|apply QV.cons rfl) rfl (by decide) (by simp;omega) rfl rfl ?_;clear H;intro vS w H;obtain⟨aS,cS,rfl⟩:=QF H (m:=m.objs.length+1) (by simp[hl2]) (by decide);refine Ab H ?_;clear H;intro w H;refine Jx H ?_;replace H:=Js [2,2,2,2,6,2,2,2,2,0] 1 H;exact YV _ (.inl rfl) (B2 hm' h2 h3 hl1 H) rfl fun w' H'=>⟨rfl,H'⟩
 ·clear H;intro bT w H;rw[z2] at H;refine Jw 9 11 H rfl rfl (ZA H rfl rfl (by decide) (by omega) rfl ?_) (ZA H rfl rfl (by decide) (by omega) rfl ?_)
  ·clear H;intro bW w H;rw[z1] at H;refine Jo 11 H ?_;refine ZA H rfl rfl (by decide) (by omega) rfl ?_;clear H;intro bK w H;rw[z2] at H;replace H:=Js [1,0,0] 0 H;refine AS H ?_;clear H;intro bO w H
   refine Aa H ?_;clear H;intro bS w H;replace H:=Js [9,0,0,0,0,0,0,0,0,0,0] 0 H;refine Jo 17 H ?_;refine YO H rfl rfl (by repeat first|exact .nil _|apply QV.cons rfl) rfl (by decide) (by simp;omega) rfl rfl ?_;clear H;intro vS w H;obtain⟨aS,cS,rfl⟩:=QF H (m:=m.objs.length+1) (by simp[hl2]) (by decide);refine Ab H ?_;clear H;intro w H;refine Jx H ?_;replace H:=Js [2,2,2,2,6,2,2,2,2,0] 1 H;exact YV _ (.inl rfl) (B2 hm' h2 h3 hl1 H) rfl fun w' H'=>⟨rfl,H'⟩
  ·clear H;intro bK w H;rw[z2] at H;refine Jo 9 H ?_;refine ZA H rfl rfl (by decide) (by omega) rfl ?_;clear H;intro bW w H;rw[z1] at H;replace H:=Js [0,0,0] 0 H;refine AS H ?_;clear H;intro bO w H
   refine Aa H ?_;clear H;intro bS w H;replace H:=Js [9,0,0,0,0,0,0,0,0,0,0] 0 H;refine Jo 17 H ?_;refine YO H rfl rfl (by repeat first|exact .nil _|apply QV.cons rfl) rfl (by decide) (by simp;omega) rfl rfl ?_;clear H;intro vS w H;obtain⟨aS,cS,rfl⟩:=QF H (m:=m.objs.length+1) (by simp[hl2]) (by decide);refine Ab H ?_;clear H;intro w H;refine Jx H ?_;replace H:=Js [2,2,2,2,6,2,2,2,2,0] 1 H;exact YV _ (.inl rfl) (B2 hm' h2 h3 hl1 H) rfl fun w' H'=>⟨rfl,H'⟩
@[reducible] def Vg (e:Q7):List Value:=[.int .i64 e.addr,.int .i64 e.region,.bool e.held,.bool e.pinned]
def VT (t:QX):List Value:=match t.ent with
 | none=>[.int .i64 t.gen,.bool false,.int .i64 0,.int .i64 0,.bool false,.bool false]
 | some e=>[.int .i64 t.gen,.bool true,.int .i64 e.addr,.int .i64 e.region,.bool e.held,.bool e.pinned]
theorem YF (t:QX):(VT t).length=6:=by unfold VT;split <;> rfl
theorem cE (t:QX):(VT t)[0]? = some (.int .i64 t.gen):=by unfold VT;split <;> rfl
theorem cF (t:QX):(VT t)[1]? = some (.bool t.ent.isSome):=by
 unfold VT;split
 ·rename_i h;rw[h];rfl
 ·rename_i h;rw[h];rfl
def busy (t:QX):Bool:=t.ent.isSome || t.gen == 255
def YH (ts:List QX):Nat:=(ts.filter fun t=>t.ent.isNone && t.gen == 255).length
def Zx (ts:List QX):Nat:=(ts.filter busy).length
structure GZ (ts:List QX) (x:Nat):Prop where
 bits:ZC ts.length x
 bit:∀ (i:Nat) (t:QX),ts[i]? = some t→x.testBit i=busy t
 gen:∀ (i:Nat) (t:QX),ts[i]? = some t→t.gen≤255
theorem cH {α:Type} {ts:List α} {f:α→Bool} {x:Nat} (h:∀ (i:Nat) (t:α),ts[i]? = some t→x.testBit i=f t):Ye ts.length x=(ts.filter f).length:=by
 unfold Ye
 have e2:∀ (l:List α) (k:Nat),(∀ (i:Nat) (t:α),l[i]? = some t→x.testBit (k+i)=f t)→((List.range' k l.length).filter fun i=>x.testBit i).length=(l.filter f).length:=by
  intro l
  induction l with
  | nil=>intro k _;rfl
  | cons a l ih=>
   intro k hk;have h0:=hk 0 a rfl;have hr:=ih (k+1) (fun i t ht=>by rw[show k+1+i=k+(i+1) by omega];exact hk (i+1) t (by simpa using ht));rw[length_cons,range'_succ,filter_cons,filter_cons];rw[Nat.add_zero] at h0;rw[h0];split
   ·simp[hr]
   ·exact hr
 rw[range_eq_range'];exact e2 ts 0 (fun i t ht=>by rw[Nat.zero_add];exact h i t ht)
theorem GZ.cnt {ts:List QX} {x:Nat} (h:GZ ts x):Ye ts.length x=Zx ts:=cH h.bit
def Qi (p:Nat) (ts:List QX):Q2:=ex fun q:Value×Nat×Nat=>star [prop (GZ ts q.2.2),pts p (row 144 [q.1,pp q.2.1,.int .i64 (YH ts)]),QC 199 6 q.1 (ts.flatMap VT),Z6 q.2.1 ts.length q.2.2]
theorem Kp [Q4] {w:World} {p:Nat} {ts:List QX} {l:List Q2} (H:Q0 w (Qi p ts::l)):∃ b c s u x,GZ ts x∧ts.length≤c ∧
  Q0 w (pts p (row 144 [.slice (some ⟨b,0,none⟩) ts.length c,pp u,.int .i64 (YH ts)])::pts b (row 199 (ts.flatMap VT++s))::Z6 u ts.length x::l) ∧
  ∀ w' l' ts' x',ts'.length=ts.length→YH ts'=YH ts→GZ ts' x'→Q0 w' (pts p (row 144 [.slice (some ⟨b,0,none⟩) ts.length c,pp u,.int .i64 (YH ts)])::pts b (row 199 (ts'.flatMap VT++s))::Z6 u ts.length x'::l')→Q0 w' (Qi p ts'::l'):=by
 obtain⟨⟨v,u,x⟩,H⟩:=Q0.ex.1 H;have H:=Q0.star.1 H;obtain⟨h,H⟩:=Q0.prop.1 H;replace H:Q0 w (pts p (row 144 [v,pp u,.int .i64 (YH ts)])::QC 199 6 v (ts.flatMap VT)::Z6 u ts.length x::l):=H;obtain⟨a,c,rfl⟩:=QF H.drop (Gu YF ts) (by decide);obtain⟨b,s,rfl,H,hcap,hsp,hclose⟩:=Z3 H.swap h.bits.pos;refine⟨b,c,s,u,x,h,hcap,H.swap,fun w' l' ts' x' e1 e2 h' H'=>?_⟩;have H':=hclose w' _ (ts'.flatMap VT) (by rw[Gu YF,Gu YF,e1]) H'.swap;refine Q0.ex.2 ⟨(.slice (some ⟨b,0,none⟩) ts.length c,u,x'),Q0.star.2 (Q0.prop.2 ⟨h',?_⟩)⟩;show Q0 w' (pts p (row 144 [_,pp u,.int .i64 (YH ts')])::QC 199 6 _ _::Z6 u ts'.length x'::l');rw[e1,e2];exact H'.swap
theorem cI [Q4] (n:Nat) (h1:1≤n) (h2:n≤63) {w:World} {fr:List Q2} (H:Q0 w fr) :
  Calls Tryz.prog 81 #[.int .i64 n] w (ret fun v w'=>∃ p,v = .tuple #[pp p,.int .i64 0]∧Q0 w' (Qi p (List.replicate n ⟨0,none⟩)::fr)):=by
 refine Q9 Tryz.func81 rfl (by kernel_rfl) ?_;refine XL H ?_;rw[show decide ((n:Int) < 1)=false from decide_eq_false (by omega)];refine Uu H ?_;rw[show decide ((n:Int) > 4096)=false from decide_eq_false (by omega)];refine Y7 H ?_;refine YY H ?_;refine Jc rfl rfl (Mm n (by omega) (by omega) H) ?_;clear H;rintro v w ⟨u,rfl,H⟩;refine Zs H ?_;refine YY H ?_;refine Q5 rfl (ZA H rfl rfl (by decide) (by omega) rfl ?_);clear H;intro b18 w H;refine Jv ?_;refine XE H ?_;clear H;intro b21 w H;refine J3 H ?_
 have hz:Y2 (Qz (.agg #[.int .i64 0,.bool false,.int .i64 0,.int .i64 0,.bool false,.bool false])) n=(List.replicate n (⟨0,none⟩:QX)).flatMap VT:=by
  clear H;clear h1 h2
  induction n with
  | zero=>rfl
  | succ n ih=>show _++Y2 _ n=_;rw[ih,replicate_succ,flatMap_cons];rfl
 have hlen:(List.replicate n (⟨0,none⟩:QX)).length=n:=by simp
 have hgone:YH (List.replicate n (⟨0,none⟩:QX))=0:=by
  unfold YH;rw[filter_eq_nil_iff.2 (fun t ht=>by rw[eq_of_mem_replicate ht];simp)];rfl
 have hok:GZ (List.replicate n (⟨0,none⟩:QX)) 0:=by
  refine⟨by rw[hlen];exact⟨by omega,h2,Nat.two_pow_pos _⟩,fun i t ht=>?_,fun i t ht=>?_⟩
  ·rw[eq_of_mem_replicate (mem_of_getElem? ht),Nat.zero_testBit];rfl
  ·rw[eq_of_mem_replicate (mem_of_getElem? ht)];simp
 have hbm:BM u n (List.replicate ((n+63) / 64) 0) 0=Z6 u n 0:=by
  rw[show (n+63) / 64=1 by omega]
  have:Ye n 0=0:=by
   unfold Ye;rw[filter_eq_nil_iff.2 (fun i _=>by simp)];rfl
  show BM u n [0] 0=BM u n [0] (Ye n 0);rw[this]
 rw[hz,hbm] at H;refine Q3 (Jy H rfl fun w' H'=>⟨_,rfl,Q0.ex.2 ⟨(.slice (some ⟨b18,0,none⟩) n n,u,0),Q0.star.2 (Q0.prop.2 ⟨hok,?_⟩)⟩⟩);show Q0 w' (pts b21 (row 144 [_,pp u,.int .i64 (YH (List.replicate n (⟨0,none⟩:QX)))])::QC 199 6 _ _::Z6 u (List.replicate n (⟨0,none⟩:QX)).length 0::fr);rw[hgone,hlen];exact H'
theorem NN [Q4] (p:Nat) (ts:List QX) {w:World} {fr:List Q2} (H:Q0 w (Qi p ts::fr)) :
  Calls Tryz.prog 90 #[pp p] w (ret fun v w'=>v = .int .i64 ((ts.length - Zx ts:Nat):Int)∧Q0 w' (Qi p ts::fr)):=by
 obtain⟨b,c,s,u,x,hok,hc,H,hclose⟩:=Kp H;have hb:=hok.bits.le;have hcnt:=hok.cnt;have hle:=Ep ts.length x;refine Q9 Tryz.func90 rfl (by kernel_rfl) ?_;refine Di H ?_;clear H;intro w H;refine XF H ?_;refine R9 4 rfl (Q8.none rfl) rfl (by kernel_rfl) ?_;refine Bm H ?_;refine Jl 8 [9] H ?_;replace H:=Js [2,0,0] 0 H;refine Jo 9 H ?_;refine Jk rfl rfl (Hn u _ _ _ H) ?_;clear H;rintro v w ⟨rfl,H⟩;refine Dh H ?_;replace H:=Js [1,1,0] 0 H;refine Q3 (Jy (hclose _ _ ts x rfl rfl hok H) rfl fun w' H'=>⟨?_,H'⟩);show Value.int .i64 (IntKind.i64.wrap ((ts.length:Int) - (Ye ts.length x:Int)))=_;rw[Qb (by omega) (by omega),← hcnt];congr 1;omega
@[reducible] def Yz (i g:Int):Value := .agg #[.int .i64 i,.int .i64 g]
theorem cJ {ts:List QX} {i g:Int} (h:Qd ts i g=none):i < 0∨(ts.length:Int)≤i∨∃ (k:Nat) (t:QX),i=k∧ts[k]? = some t∧(t.ent=none∨(t.ent.isSome=true∧(t.gen:Int)≠g)):=by
 by_cases h0:i < 0
 ·exact .inl h0
 by_cases h1:(ts.length:Int)≤i
 ·exact .inr (.inl h1)
 refine .inr (.inr ?_);obtain⟨k,rfl⟩:∃ k:Nat,i=k:=⟨i.toNat,by omega⟩;have hk:=getElem?_eq_getElem (l:=ts) (i:=k) (by omega);generalize ts[k]'(by omega)=t at hk;refine⟨k,t,rfl,hk,?_⟩;obtain⟨n,e⟩:=t;cases e with
 | none=>exact .inl rfl
 | some e=>
  refine .inr ⟨rfl,fun hg=>?_⟩;rw[(Y8 (k:=k) (e:=e)).2 ⟨n,rfl,hg.symm,hk⟩] at h;cases h
theorem FV [Q4] (p b c u:Nat) (go:Value) (hgo:go.oneCell'=true) (ts:List QX) (s:List Value) (hlen:ts.length≤63) (i g:Int) {w:World} {fr:List Q2} (H:Q0 w (pts p (row 144 [.slice (some ⟨b,0,none⟩) ts.length c,pp u,go])::pts b (row 199 (ts.flatMap VT++s))::fr)) :
  Calls Tryz.prog 132 #[pp p,Yz i g] w (ret fun v w'=>v=(match Qd ts i g with|some (k,_) => .tuple #[.pointer (some ⟨b,k*6,none⟩),.int .i64 0]|none => .tuple #[.pointer none,.int .i64 8]) ∧
   Q0 w' (pts p (row 144 [.slice (some ⟨b,0,none⟩) ts.length c,pp u,go])::pts b (row 199 (ts.flatMap VT++s))::fr)):=by
 refine Q9 Tryz.func132 rfl (by kernel_rfl) ?_;refine J8 H ?_;clear H;intro b3 w H;refine E4 H ?_;cases hL:Qd ts i g with
 | some q=>
  obtain⟨k,e⟩:=q;obtain⟨n,rfl,rfl,hk⟩:=Y8.1 hL;have hkl:k < ts.length:=(List.getElem?_eq_some_iff.1 hk).1;have c1:(ts.flatMap VT++s)[k*6+1]? = some (.bool true):=UI YF hk rfl;have c0:(ts.flatMap VT++s)[k*6+0]? = some (.int .i64 n):=UI YF hk rfl;have ei:0+((k:Nat):Int).toNat*6=k*6:=by simp
  refine J1 H ?_;clear H;intro w H;refine RX H ?_;rw[show decide ((k:Int) < 0)=false from decide_eq_false (by omega)];refine Ja 3 ?_;refine RK H ?_;refine Ad H ?_;refine Jl 9 [] H ?_;refine R9 10 rfl (Q8.of rfl rfl rfl) rfl (by kernel_rfl) ?_;refine Ja 11 ?_;rw[show decide ((k:Int)≥(ts.length:Int))=false from decide_eq_false (by omega)];refine Ja 12 ?_;refine Ja 13 ?_;refine Ja 14 ?_;refine Ja 15 ?_;refine Jf 16 ?_;refine Jl 17 [] H ?_;refine Jf 18 ?_;refine Jl 19 [] H ?_;refine Ji 20 ?_;rw[ei];refine Jf 21 ?_;refine Vm 22 [] H rfl (Q8.of rfl rfl rfl) rfl c1 (by kernel_rfl) ?_;refine Ja 23 ?_;refine Ja 24 ?_;refine Ja 25 ?_;refine Ja 26 ?_;refine Ja 27 ?_;refine Jf 28 ?_;refine Jl 29 [] H ?_;refine Jf 30 ?_;refine Jl 31 [] H ?_;refine Ji 32 ?_;rw[ei];refine Jf 33 ?_;refine Vm 34 [] H rfl (Q8.of rfl rfl rfl) rfl c0 (by kernel_rfl) ?_;refine Jf 35 ?_;refine Jl 36 [] H ?_;refine Ja 37 ?_;rw[show (((n:Nat):Int) != (n:Int))=false by simp];refine Ja 38 ?_;refine Jx H ?_;refine C1 H ?_;clear H;intro w H;refine XF H ?_;refine RK H ?_;refine Ji 6 ?_;rw[ei];refine Ja 7 ?_;refine XM H ?_;exact Q3 (Jy H.drop rfl fun w' H'=>⟨rfl,H'⟩)
 | none=>
  rcases cJ hL with h0|h1|⟨k,t,rfl,hk,ht⟩
  ·refine J1 H ?_;clear H;intro w H;refine RX H ?_;rw[show decide (i < 0)=true from decide_eq_true (by omega)];refine Ja 3 ?_;refine EC H ?_;refine Kd H ?_;refine ED H ?_;refine EE H ?_;exact Q3 (Jy H.drop rfl fun w' H'=>⟨rfl,H'⟩)
  ·by_cases h0:i < 0
   ·refine J1 H ?_;clear H;intro w H;refine RX H ?_;rw[show decide (i < 0)=true from decide_eq_true (by omega)];refine Ja 3 ?_;refine EC H ?_;refine Kd H ?_;refine ED H ?_;refine EE H ?_;exact Q3 (Jy H.drop rfl fun w' H'=>⟨rfl,H'⟩)
   ·refine J1 H ?_;clear H;intro w H;refine RX H ?_;rw[show decide (i < 0)=false from decide_eq_false (by omega)];refine Ja 3 ?_;refine RK H ?_;refine Ad H ?_;refine Jl 9 [] H ?_;refine R9 10 rfl (Q8.of rfl rfl rfl) rfl (by kernel_rfl) ?_;refine Ja 11 ?_;rw[show decide (i≥(ts.length:Int))=true from decide_eq_true (by omega)];refine Kd H ?_;refine ED H ?_;refine EE H ?_;exact Q3 (Jy H.drop rfl fun w' H'=>⟨rfl,H'⟩)
  ·have hkl:k < ts.length:=(List.getElem?_eq_some_iff.1 hk).1;have c1:(ts.flatMap VT++s)[k*6+1]? = some (.bool t.ent.isSome):=UI YF hk (cF t);have c0:(ts.flatMap VT++s)[k*6+0]? = some (.int .i64 t.gen):=UI YF hk (cE t);have ei:0+((k:Nat):Int).toNat*6=k*6:=by simp
   refine J1 H ?_;clear H;intro w H;refine RX H ?_;rw[show decide ((k:Int) < 0)=false from decide_eq_false (by omega)];refine Ja 3 ?_;refine RK H ?_;refine Ad H ?_;refine Jl 9 [] H ?_;refine R9 10 rfl (Q8.of rfl rfl rfl) rfl (by kernel_rfl) ?_;refine Ja 11 ?_;rw[show decide ((k:Int)≥(ts.length:Int))=false from decide_eq_false (by omega)];refine Ja 12 ?_;refine Ja 13 ?_;refine Ja 14 ?_;refine Ja 15 ?_;refine Jf 16 ?_;refine Jl 17 [] H ?_;refine Jf 18 ?_;refine Jl 19 [] H ?_;refine Ji 20 ?_;rw[ei];refine Jf 21 ?_;refine Vm 22 [] H rfl (Q8.of rfl rfl rfl) rfl c1 (by kernel_rfl) ?_
   rcases ht with ht|⟨ht,hne⟩
   ·rw[ht];refine Ja 23 ?_;refine EE H ?_;exact Q3 (Jy H.drop rfl fun w' H'=>⟨rfl,H'⟩)
   ·rw[ht];refine Ja 23 ?_;refine Ja 24 ?_;refine Ja 25 ?_;refine Ja 26 ?_;refine Ja 27 ?_;refine Jf 28 ?_;refine Jl 29 [] H ?_;refine Jf 30 ?_;refine Jl 31 [] H ?_;refine Ji 32 ?_;rw[ei];refine Jf 33 ?_;refine Vm 34 [] H rfl (Q8.of rfl rfl rfl) rfl c0 (by kernel_rfl) ?_;refine Jf 35 ?_;refine Jl 36 [] H ?_;refine Ja 37 ?_;rw[show (((t.gen:Nat):Int) != g)=true by simpa using hne];refine Ja 38 ?_;refine Jx H ?_
    repeat refine Q6 ?_
    refine Vh rfl ?_
    repeat refine Q6 ?_
    refine QZ ?_;refine Jv ?_;refine Jv ?_;refine QG ?_;exact Q3 (Jy H.drop rfl fun w' H'=>⟨rfl,H'⟩)
theorem FY {ts:List QX} {k:Nat} {t t':QX} (hk:ts[k]? = some t) (hb:(t'.ent.isNone && t'.gen == 255)=(t.ent.isNone && t.gen == 255)):YH (ts.set k t')=YH ts:=by
 unfold YH;rw[set_split hk]
 conv=>rhs;rw[split_at hk]
 rw[filter_append,filter_append,filter_cons,filter_cons,hb];split <;> simp
theorem GZ.set {ts:List QX} {x k:Nat} {t t':QX} (h:GZ ts x) (hk:ts[k]? = some t) (hb:busy t'=busy t) (hg:t'.gen≤255):GZ (ts.set k t') x:=by
 refine⟨by rw[length_set];exact h.bits,fun i u hu=>?_,fun i u hu=>?_⟩
 ·rcases V3 hu with ⟨rfl,rfl,_⟩|⟨_,hu⟩
  ·rw[hb];exact h.bit _ _ hk
  ·exact h.bit _ _ hu
 ·rcases V3 hu with ⟨rfl,rfl,_⟩|⟨_,hu⟩
  ·exact hg
  ·exact h.gen _ _ hu
theorem cM [Q4] (p:Nat) (ts:List QX) (i g:Int) {w:World} {fr:List Q2} (H:Q0 w (Qi p ts::fr)) :
  Calls Tryz.prog 68 #[pp p,Yz i g] w (ret fun v w'=>v=(match Qd ts i g with|some (_,e) => .tuple #[.agg (Vg e).toArray,.int .i64 0]|none => .tuple #[.agg #[.int .i64 0,.int .i64 0,.bool false,.bool false],.int .i64 8])∧Q0 w' (Qi p ts::fr)):=by
 obtain⟨b,c,s,u,x,hok,hc,H,hclose⟩:=Kp H;refine Q9 Tryz.func68 rfl (by kernel_rfl) ?_;refine J8 H ?_;clear H;intro b3 w H;refine VZ H ?_;clear H;intro b4 w H;refine KP H ?_;replace H:=Js [2,2,0,0,0] 0 H;refine Jc rfl rfl (FV p b c u _ rfl ts s hok.bits.le i g H) ?_;clear H;rintro v w ⟨rfl,H⟩;cases hL:Qd ts i g with
 | some q=>
  obtain⟨k,e⟩:=q;obtain⟨n,rfl,rfl,hk⟩:=Y8.1 hL;have hrd:QV (ts.flatMap VT++s) (k*6+2) 4 (Vg e):=RU (vs:=Vg e) YF hk (by repeat first|exact .nil _|apply QV.cons rfl);refine G4 H ?_;refine EF H ?_;refine Q5 rfl (VN H rfl hrd rfl ?_);refine J4 H ?_;clear H;intro w H;refine J0 H ?_;replace H:=Js [2,0,0,1] 1 H;exact Q3 (Jz H (fun w' H' => .cellN H' rfl (by repeat first|exact .nil _|apply QV.cons rfl) (.tmp .nil)) fun w' H'=>⟨rfl,hclose _ _ ts x rfl rfl hok H'.drop⟩)
 | none=>
  refine Uw H ?_;refine CZ H ?_;clear H;intro w H;refine J0 H ?_;replace H:=Js [2,0,0,1] 1 H;exact Q3 (Jz H (fun w' H' => .cellN H' rfl (by repeat first|exact .nil _|apply QV.cons rfl) (.tmp .nil)) fun w' H'=>⟨rfl,hclose _ _ ts x rfl rfl hok H'.drop⟩)
theorem CP [Q4] (p:Nat) (ts:List QX) (i g:Int) (e':Q7) {w:World} {fr:List Q2} (H:Q0 w (Qi p ts::fr)) :
  Calls Tryz.prog 140 #[pp p,Yz i g,.agg (Vg e').toArray] w (ret fun v w'=>(∃ k e,Qd ts i g=some (k,e)∧v = .int .i64 0∧Q0 w' (Qi p (ts.set k ⟨g.toNat,some e'⟩)::fr))∨(Qd ts i g=none∧v = .int .i64 8∧Q0 w' (Qi p ts::fr))):=by
 obtain⟨b,c,s,u,x,hok,hc,H,hclose⟩:=Kp H;refine Q9 Tryz.func140 rfl (by kernel_rfl) ?_;refine J8 H ?_;clear H;intro b4 w H;refine XH H ?_;clear H;intro b5 w H;refine KP H ?_;replace H:=Js [2,2,0,0,0] 0 H;refine Jc rfl rfl (FV p b c u _ rfl ts s hok.bits.le i g H) ?_;clear H;rintro v w ⟨rfl,H⟩;cases hL:Qd ts i g with
 | some q=>
  obtain⟨k,e⟩:=q;obtain⟨n,rfl,rfl,hk⟩:=Y8.1 hL;refine Uw H ?_;refine J6 H ?_;refine Qo (fun ms σ w=>ms=[]∧σ 8 = .int .i64 0∧Q0 w (Qi p (ts.set k ⟨n,some e'⟩)::fr)) ?_ ?_
  ·refine Vh rfl ?_;refine Gv H ?_;refine Jv ?_;refine WP H ?_;replace H:=Js [1,0,0,0,0] 0 H;have hlen:=Gu YF ts;have hkl:k < ts.length:=(List.getElem?_eq_some_iff.1 hk).1;refine Q5 rfl (ZN (vs:=Vg e') H rfl rfl inferInstance rfl rfl (by rw[length_append,hlen];omega) rfl ?_);clear H;intro w H;rw[DS (x':=⟨n,some e'⟩) YF hk (by simp) rfl] at H;refine J2 H ?_;replace H:=Js [1,0,2] 2 H;exact⟨rfl,rfl,rfl,hclose _ _ (ts.set k ⟨n,some e'⟩) x (by simp) (FY hk rfl) (hok.set hk rfl (by have:=hok.gen _ _ hk;exact this)) H⟩
  ·clear H;rintro ms σ w ⟨rfl,g8,H⟩;rw[Q1 g8];refine J5 H ?_;exact Q3 (Jy H rfl fun w' H' => .inl ⟨k,e,rfl,rfl,H'⟩)
 | none=>
  refine G4 H ?_;refine J5 H ?_;replace H:=Js [0,0,2] 2 H;exact Q3 (Jy H rfl fun w' H' => .inr ⟨rfl,rfl,hclose _ _ ts x rfl rfl hok H'⟩)
theorem cN [Q4] (p:Nat) (ts:List QX) {w:World} {fr:List Q2} (H:Q0 w (Qi p ts::fr)) :
  Calls Tryz.prog 17 #[pp p] w (ret fun v w'=>v = .int .i64 ((Zx ts - YH ts:Nat):Int)∧Q0 w' (Qi p ts::fr)):=by
 obtain⟨b,c,s,u,x,hok,hc,H,hclose⟩:=Kp H;have hb:=hok.bits.le;have hcnt:=hok.cnt;have hle:=Ep ts.length x
 have hgb:YH ts≤Zx ts:=by
  unfold YH Zx;refine List.Sublist.length_le ?_
  have:ts.filter (fun t=>t.ent.isNone && t.gen == 255)=(ts.filter busy).filter (fun t=>t.ent.isNone && t.gen == 255):=by
   rw[filter_filter];apply filter_congr;intro t _;unfold busy;cases t.ent <;> simp
  rw[this];exact filter_sublist
 refine Q9 Tryz.func17 rfl (by kernel_rfl) ?_;refine Di H ?_;clear H;intro w H;refine Y3 H ?_;refine Jl 3 [4] H ?_;refine Bm H ?_;refine Jl 8 [] H ?_;replace H:=Js [2,0,0] 0 H;refine Jo 4 H ?_;refine Jk rfl rfl (Hn u _ _ _ H) ?_;clear H;rintro v w ⟨rfl,H⟩;refine Ja 9 ?_;refine WX H ?_;replace H:=Js [1,1,0] 0 H;refine Q3 (Jy (hclose _ _ ts x rfl rfl hok H) rfl fun w' H'=>⟨?_,H'⟩);show Value.int .i64 (IntKind.i64.wrap ((Ye ts.length x:Int) - (YH ts:Int)))=_;rw[Qb (by omega) (by omega),← hcnt];congr 1;omega
end Go.Proofs.YtmjdnljneifpcaaGreatDoor
