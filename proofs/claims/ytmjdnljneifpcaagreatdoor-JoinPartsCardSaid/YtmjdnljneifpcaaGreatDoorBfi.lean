/- Cells: what is proved on the way: every input of the statement; no condition. Texts joined: RefC RefD ModA ModB ModC ModD ModE TabA TabB TabC. -/
import Derived.Test.YtmjdnljneifpcaaGreatDoorBfe
import Derived.Test.YtmjdnljneifpcaaGreatDoorBfg
import Derived.Test.YtmjdnljneifpcaaGreatDoorBfh
set_option linter.unusedVariables false
set_option linter.unusedSimpArgs false
set_option linter.unusedSectionVars false
namespace Go.Proofs.YtmjdnljneifpcaaGreatDoor
open List
open Go.SL
theorem OY [Q4] (va vb:Value) (a b:List Int) (hl:a.length≤1000000) {w:World} {fr:List Q2} (H:Q0 w (IL va a::IL vb b::fr)) :
  Calls Tryz.prog 24 #[va,vb] w (ret fun v w'=>v = .bool (decide (a=b))∧Q0 w' (IL va a::IL vb b::fr)):=by
 obtain⟨aa,ca,rfl⟩:=QI H (YZ a) (by decide);obtain⟨ab,cb,rfl⟩:=QI H.drop (YZ b) (by decide);refine QQ Tryz.func24 rfl (by kernel_rfl) ?_;refine CU H ?_;refine IK H ?_;refine WU H ?_;by_cases Qw:a.length=b.length
 ·rw[show ((a.length:Int) != (b.length:Int))=false by simp;omega];refine Vk H ?_;refine F4 H ?_;refine Qp (fun ms σ w q=>ms=[]∧∃ i:Nat,i≤a.length∧q=a.length - i∧a.take i=b.take i∧σ 0 = .slice aa a.length ca∧σ 1 = .slice ab b.length cb∧σ 5 = .int .i64 i∧Q0 w (IL (.slice aa a.length ca) a::IL (.slice ab b.length cb) b::fr)) (m:=a.length) ⟨rfl,0,by omega,rfl,by simp,rfl,rfl,rfl,H⟩ ?_;rintro ms σ w q ⟨rfl,i,hi,rfl,Ra,g0,g1,g5,H⟩;rw[Q1 g0,Q1 g1,Q1 g5];refine B4 H ?_;refine Qk rfl (fun h=>QE ?_) (fun h=>Qu ?_)
  ·have Q6:i < a.length:=by omega
   have H9:i < b.length:=by omega
   have hx:=getElem?_eq_getElem Q6;have hy:=getElem?_eq_getElem H9;generalize a[i]=x at hx;generalize b[i]=y at hy;obtain⟨ba,sa,rfl,H,Sy⟩:=VY H (by omega);obtain⟨bb,sb,rfl,H,YL⟩:=VY H.swap (by omega)
   have c1:(Qm a++sa)[0+i*1]? = some (.int .i64 x):=by
    rw[Nat.zero_add,Nat.mul_one,getElem?_append_left (by simpa [Qm] using Q6)];simp[Qm,hx]
   have c2:(Qm b++sb)[0+i*1]? = some (.int .i64 y):=by
    rw[Nat.zero_add,Nat.mul_one,getElem?_append_left (by simpa [Qm] using H9)];simp[Qm,hy]
   refine Ip H ?_;intro w H;refine DB H ?_;refine Ji 2 ?_;refine Y2 3 [] H rfl (Q8.none rfl) rfl c1 (by kernel_rfl) ?_;refine Ku H ?_;refine Ji 6 ?_;refine Y2 7 [] H rfl (Q8.none rfl) rfl c2 (by kernel_rfl) ?_;refine A5 H ?_;replace H:=YL _ _ H;replace H:=Sy _ _ H.swap;by_cases Yy:x=y
   ·rw[show (x != y)=false by simpa using Yy];refine FG H ?_;refine⟨_,⟨rfl,i+1,Q6,rfl,?_,rfl,rfl,Qg (by omega),H⟩,by omega⟩;rw[take_add_one,take_add_one,hx,hy,Ra,Yy]
   ·rw[show (x != y)=true by simpa using Yy];refine ZB H ?_;refine Q3 (Jy H rfl fun w' H'=>⟨?_,H'⟩)
    have QA:a≠b:=by
     rintro rfl;rw[hx] at hy;injection hy with hy
     exact Yy hy
    rw[decide_eq_false QA];rfl
  ·have V0:i=a.length:=by omega
   subst V0;rw[take_length,Qw,take_length] at Ra;refine Vg H ?_;exact Q3 (Jy H rfl fun w' H'=>⟨by rw[decide_eq_true Ra];rfl,H'⟩)
 ·rw[show ((a.length:Int) != (b.length:Int))=true by simp;omega];refine ZB H ?_;refine Q3 (Jy H rfl fun w' H'=>⟨?_,H'⟩);have QA:a≠b:=by rintro rfl;exact Qw rfl
  rw[decide_eq_false QA];rfl
theorem qv [Q4] (v:Value) (ws:List Nat) (Yr:∀ x∈ws,x < 18446744073709551616) {w:World} {fr:List Q2} (hr:YM fr v ws.length 1 (Qj ws)) (H:Q0 w fr) :
  Calls Tryz.prog 228 #[v] w (ret fun r w'=>(Gw ws=none∧r = .tuple #[GD 0 (.slice none 0 0) 0 (.slice none 0 0),.bool false]∧Q0 w' fr) ∨
   ∃ l vr vq,Gw ws=some l∧r = .tuple #[GD l.fixed vr l.record vq,.bool true]∧Q0 w' (NL vr l.refs::NL vq l.recs::fr)):=by
 obtain⟨_,ad,cap,rfl,Ym⟩:=id hr;refine QQ Tryz.func228 rfl (by kernel_rfl) ?_;refine YN H ?_;intro b2 w H;refine F2 H ?_;refine IK H ?_;by_cases h3:ws.length=3
 ·obtain⟨x,y,z,rfl⟩:∃ x y z,ws=[x,y,z]:=by
   match ws,h3 with
   | [x,y,z],_=>exact⟨x,y,z,rfl⟩
  have hx:=Yr x (by simp);have hy:=Yr y (by simp);have hz:=Yr z (by simp)
  rcases Ym with h|⟨b,o,E,fz,c,rfl,hA,Qv⟩
  ·cases h
  haveI:=hA;have c0:c[o+0*1]? = some (.int .u64 x):=by have:=Qv.get 0 (.int .u64 x) (by simp[Qj]);simpa using this
  have c1:c[o+1*1]? = some (.int .u64 y):=by have:=Qv.get 1 (.int .u64 y) (by simp[Qj]);simpa using this
  have c2:c[o+2*1]? = some (.int .u64 z):=by have:=Qv.get 2 (.int .u64 z) (by simp[Qj]);simpa using this
  rw[show ((([x,y,z]:List Nat).length:Int) != 3)=false from rfl];refine Ez H ?_;refine Qe rfl rfl rfl (X4 rfl rfl (by omega) (by show (0:Int) < (3:Nat);omega) rfl ?_);refine Qe rfl rfl rfl (QC H rfl c0 rfl ?_);refine Zq H ?_;by_cases hb:x < 65536
  ·rw[show decide ((x:Int)≥65536)=false from decide_eq_false (by omega)];refine YT H ?_;have m8:Int.tmod (x:Int) 256=((x % 256:Nat):Int):=by rw[Int.tmod_eq_emod_of_nonneg (by omega)];omega
   have q8:IntKind.u64.wrap (Int.tdiv (x:Int) 256)=((x / 256:Nat):Int):=by
    rw[Int.tdiv_eq_ediv_of_nonneg (by omega),show (x:Int) / 256=((x / 256:Nat):Int) by omega,Kr (by omega)]
   have w8:IntKind.i64.wrap ((x % 256:Nat):Int)=((x % 256:Nat):Int):=As (by omega);have v8:IntKind.i64.wrap ((x / 256:Nat):Int)=((x / 256:Nat):Int):=As (by omega);refine J6 H ?_
   refine Z0 (fun ms σ w=>ms=[]∧∃ b4 va vb,σ 2=pp b2∧σ 4=pp b4 ∧
    Q0 w (pts b4 (row 102 [.int .i64 ((x % 256:Nat):Int),va,.int .i64 ((x / 256:Nat):Int),vb])::NL va (YX y 64)::NL vb (YX z 64)::pts b2 (row 102 [.int .i64 0,.slice none 0 0,.int .i64 0,.slice none 0 0])::fr)) ?_ ?_
   ·refine J1 H ?_;intro w H;refine Ja 0 ?_;refine C1 1 rfl (Q8.none rfl) rfl rfl (by omega) (by show (0:Int) < (3:Nat);omega) (by kernel_rfl) ?_;refine Y2 2 [20] H rfl (Q8.none rfl) rfl c0 (by kernel_rfl) ?_;refine Ja 3 ?_;refine KI 4 rfl (Q8.none rfl) rfl (by kernel_rfl) ?_;refine Ja 5 ?_;refine C1 6 rfl (Q8.none rfl) rfl rfl (by omega) (by show (1:Int) < (3:Nat);omega) (by kernel_rfl) ?_;refine Y2 7 [8] H rfl (Q8.none rfl) rfl c1 (by kernel_rfl) ?_;refine Ja 9 ?_;refine C1 10 rfl (Q8.none rfl) rfl rfl (by omega) (by show (0:Int) < (3:Nat);omega) (by kernel_rfl) ?_;refine Y2 11 [20] H rfl (Q8.none rfl) rfl c0 (by kernel_rfl) ?_;refine Ja 12 ?_;refine KI 13 rfl (Q8.none rfl) rfl (by kernel_rfl) ?_;refine Ja 14 ?_;refine C1 15 rfl (Q8.none rfl) rfl rfl (by omega) (by show (2:Int) < (3:Nat);omega) (by kernel_rfl) ?_;refine Y2 16 [17] H rfl (Q8.none rfl) rfl c2 (by kernel_rfl) ?_;rw[m8,q8,w8,v8];refine Jw 8 19 H rfl rfl (V3 (a:=[]) (b:=[]) rfl rfl (call (JW y hy H) ?_)) (YW H rfl ?_)
    ·intro va w H;obtain⟨aa,ma,ca,rfl⟩:=VZ H;refine Jw 17 19 H rfl rfl (V3 (a:=[]) (b:=[]) rfl rfl (call (JW z hz H) ?_)) (YW H rfl ?_)
     ·intro vb w H;obtain⟨ab,mb,cb,rfl⟩:=VZ H;refine Uf 18 rfl (Q8.none rfl) rfl (by kernel_rfl) ?_;refine Jo 19 H ?_;refine YW H rfl ?_;intro b4 w H;refine Jo 20 H ?_;refine KM H ?_;intro w H;refine Jx H ?_;replace H:=Js [0,1,0,0] 0 H;exact .inl ⟨rfl,rfl,b4,_,_,rfl,rfl,H⟩
     ·intro b4 w H;refine Jo 17 H ?_;refine Jk rfl rfl (JW z hz H) ?_;intro vb w H;obtain⟨ab,mb,cb,rfl⟩:=VZ H;refine Uf 18 rfl (Q8.none rfl) rfl (by kernel_rfl) ?_;refine Jo 20 H ?_;refine KM H ?_;intro w H;refine Jx H ?_;replace H:=Js [1,1,0,0] 0 H;exact .inl ⟨rfl,rfl,b4,_,_,rfl,rfl,H⟩
    ·intro b4 w H;refine Jo 8 H ?_;refine Jk rfl rfl (JW y hy H) ?_;intro va w H;obtain⟨aa,ma,ca,rfl⟩:=VZ H;refine Jo 17 H ?_;refine Jk rfl rfl (JW z hz H) ?_;intro vb w H;obtain⟨ab,mb,cb,rfl⟩:=VZ H;refine Uf 18 rfl (Q8.none rfl) rfl (by kernel_rfl) ?_;refine Jo 20 H ?_;refine KM H ?_;intro w H;refine Jx H ?_;replace H:=Js [2,1,0,0] 0 H;exact .inl ⟨rfl,rfl,b4,_,_,rfl,rfl,H⟩
   ·rintro ms σ w ⟨rfl,b4,va,vb,g2,g4,H⟩;rw[Q1 g2,Q1 g4];have AY:=Fm y 64;have pq:=Fm z 64;obtain⟨aa,ca,rfl⟩:=QI (H.drop) (QM (YX y 64)) (by decide);obtain⟨ab,cb,rfl⟩:=QI (H.drop.drop) (QM (YX z 64)) (by decide);refine XL H ?_;replace H:=Js [1,1,0,0] 0 H;obtain⟨D1,H,Y5,Vo⟩:=sls_rd H (QM (YX y 64)) (by decide);obtain⟨D2,H,Zl,ZU⟩:=sls_rd H.swap (QM (YX z 64)) (by decide);refine Jc rfl rfl (gZ _ _ (CP x y z) ⟨by show x % 256≤_;omega,by show x / 256≤_;omega,by show (YX y 64).length≤_;omega,by show (YX z 64).length≤_;omega⟩ ⟨(Y5 _).there,Zl _⟩ H) ?_;rintro v w ⟨⟨q,rfl,hq⟩,H⟩;have H:=(Vo _ _ (ZU _ _ H).swap);refine J0 H ?_;cases q with
    | true=>
     refine KL H ?_;refine Ay H ?_;intro w H;refine J0 H ?_;replace H:=Js [3,0,0] 1 H;refine Q3 (Jz H (fun w' H' => .cellN H' rfl (by repeat first|exact .nil _|apply QY.cons rfl) (.tmp .nil)) fun w' H' => .inr ⟨CP x y z,_,_,?_,rfl,H'.drop⟩);rw[Fq,if_pos ⟨hb,hq.1 rfl⟩]
    | false=>
     refine J3 H ?_;refine ID H ?_;intro w H;refine J0 H ?_;replace H:=Js [3] 3 H;refine Q3 (Jz H (fun w' H' => .cellN H' rfl (by repeat first|exact .nil _|apply QY.cons rfl) (.tmp .nil)) fun w' H' => .inl ⟨?_,rfl,H'.drop⟩);rw[Fq,if_neg];rintro⟨_,h2⟩;have:=hq.2 h2;cases this
  ·rw[show decide ((x:Int)≥65536)=true from decide_eq_true (by omega)];refine B2 H ?_;intro w H;refine J0 H ?_;refine Q3 (Jz H (fun w' H' => .cellN H' rfl (by repeat first|exact .nil _|apply QY.cons rfl) (.tmp .nil)) fun w' H' => .inl ⟨?_,rfl,H'.drop⟩);rw[Fq,if_neg];rintro⟨h1,_⟩;exact hb h1
 ·have hd:Gw ws=none:=by
   match ws with
   | []=>rfl
   | [_]=>rfl
   | [_,_]=>rfl
   | [_,_,_]=>exact absurd rfl h3
   | _::_::_::_::_=>rfl
  rw[show ((ws.length:Int) != 3)=true by simp;omega];refine Mz H ?_;refine B2 H ?_;intro w H;refine J0 H ?_;exact Q3 (Jz H (fun w' H' => .cellN H' rfl (by repeat first|exact .nil _|apply QY.cons rfl) (.tmp .nil)) fun w' H' => .inl ⟨hd,rfl,H'.drop⟩)
def Yj (P:List Int) (id:Int):Bool:=decide (0 < id∧id < P.length∧0≤P.getD id.toNat 0)
def K5 (P:List Int) (f:Int→Bool) (k:Nat):List Nat:=(List.range k).filter fun i=>decide (1≤i) && f (P.getD i 0)
def V5 (P:List Int):List Nat:=K5 P (fun q=>decide (0≤q)) P.length
def Cg (P:List Int) (id:Int):List Nat:=K5 P (fun q=>q == id) P.length
theorem gj (P:List Int) (f:Int→Bool) (k:Nat) (hk:1≤k):K5 P f (k+1)=K5 P f k++if f (P.getD k 0) then [k] else []:=by
 unfold K5;rw[range_succ,filter_append];congr 1;simp only[filter_cons,filter_nil,decide_eq_true hk,Bool.true_and]
theorem gk (P:List Int) (f:Int→Bool):K5 P f 1=[]:=rfl
theorem OZ (P:List Int) (f:Int→Bool) (k:Nat):(K5 P f k).length≤k:=by
 have:=length_filter_le (fun i=>decide (1≤i) && f (P.getD i 0)) (List.range k);simpa [K5] using this
theorem JN {P:List Int} {f:Int→Bool} {k i:Nat}:i∈K5 P f k↔i < k∧1≤i∧f (P.getD i 0)=true:=by
 unfold K5;simp[mem_filter]
theorem gl (P:List Int) (f:Int→Bool) (k:Nat):(K5 P f k).Pairwise (· < ·):=List.Pairwise.filter _ pairwise_lt_range
def Vi (p:Nat) (P:List Int):Q2:=ex fun v:Value=>star [pts p (row 161 [v]),IL v P]
theorem AA [Q4] {w:World} {p:Nat} {P:List Int} {l:List Q2} (H:Q0 w (Vi p P::l)):∃ a c,Q0 w (pts p (row 161 [.slice a P.length c])::IL (.slice a P.length c) P::l):=by
 obtain⟨v,H⟩:=Q0.ex.1 H;have H:=Q0.star.1 H;obtain⟨a,c,rfl⟩:=QI H.drop (YZ P) (by decide);exact⟨a,c,H⟩
theorem Up [Q4] {w:World} {p:Nat} {P:List Int} {v:Value} {l:List Q2} (H:Q0 w (pts p (row 161 [v])::IL v P::l)):Q0 w (Vi p P::l):=
 Q0.ex.2 ⟨v,Q0.star.2 H⟩
theorem qw [Q4] {w:World} {fr:List Q2} (H:Q0 w fr):Calls Tryz.prog 159 #[] w (ret fun v w'=>∃ p,v=pp p∧Q0 w' (Vi p [-1]::fr)):=by
 refine QQ Tryz.func159 rfl (by kernel_rfl) ?_;refine Ih H ?_;refine X7 H ?_;intro b1 w H;refine WG H ?_;intro b3 w H;refine J0 H ?_;have H:=Rd (len:=1) (k:=1) (by rfl) H.swap;exact Q3 (Jy H.swap rfl fun w' H'=>⟨_,rfl,Up (P:=[-1]) H'⟩)
theorem Dv {P:List Int} {s:List Value} {i:Nat} (h:i < P.length):(Qm P++s)[0+i*1]? = some (.int .i64 (P.getD i 0)):=by
 rw[Nat.zero_add,Nat.mul_one,getElem?_append_left (by simpa [Qm] using h)];simp[Qm,h]
theorem Dw [Q4] (p:Nat) (P:List Int) (id:Int) {w:World} {fr:List Q2} (H:Q0 w (Vi p P::fr)) :
  Calls Tryz.prog 21 #[pp p,.int .i64 id] w (ret fun v w'=>v = .bool (Yj P id)∧Q0 w' (Vi p P::fr)):=by
 obtain⟨a,c,H⟩:=AA H;refine QQ Tryz.func21 rfl (by kernel_rfl) ?_;refine Rn H ?_;by_cases h1:id > 0
 ·rw[show decide (id > 0)=true from decide_eq_true (by omega)];refine B3 H ?_;by_cases h2:id < (P.length:Int)
  ·rw[show decide (id < (P.length:Int))=true from decide_eq_true (by omega)];obtain⟨k,rfl⟩:∃ k:Nat,id=k:=⟨id.toNat,by omega⟩;obtain⟨b,s,rfl,H,QU⟩:=VY H.swap (by omega);have hc:=Dv (P:=P) (s:=s) (i:=k) (by omega);refine CW H ?_;refine Qe rfl rfl rfl (X4 rfl rfl (by omega) (by omega) rfl ?_);refine Qe rfl rfl rfl (QC H rfl hc rfl ?_);refine A0 H ?_;replace H:=(QU _ _ H).swap;refine Q3 (Jy (Up H) rfl fun w' H'=>⟨?_,H'⟩);show Value.bool (decide (P.getD k 0≥0))=_;unfold Yj;congr 1;rw[decide_eq_decide,Int.toNat_natCast];exact⟨fun h=>⟨h1,h2,h⟩,fun h=>h.2.2⟩
  ·rw[show decide (id < (P.length:Int))=false from decide_eq_false (by omega)];refine NZ H ?_;refine J4 H ?_;refine Q3 (Jy (Up H) rfl fun w' H'=>⟨?_,H'⟩);show Value.bool false=_;unfold Yj;rw[decide_eq_false (fun h=>h2 h.2.1)]
 ·rw[show decide (id > 0)=false from decide_eq_false (by omega)];refine Ib H ?_;refine NZ H ?_;refine J4 H ?_;refine Q3 (Jy (Up H) rfl fun w' H'=>⟨?_,H'⟩);show Value.bool false=_;unfold Yj;rw[decide_eq_false (fun h=>h1 h.1)]
theorem JO [Q4] (p:Nat) (P:List Int) (hl:P.length≤1000000) {w:World} {fr:List Q2} (H:Q0 w (Vi p P::fr)) :
  Calls Tryz.prog 42 #[pp p] w (ret fun v w'=>Q0 w' (NL v (V5 P)::Vi p P::fr)):=by
 refine QQ Tryz.func42 rfl (by kernel_rfl) ?_;refine Ie H ?_;refine Qp (fun ms σ w n=>ms=[]∧∃ (i:Nat) (g:Value),1≤i∧(i≤P.length∨i=1)∧n=P.length - i∧σ 0=pp p∧σ 3=g∧σ 4 = .int .i64 i∧Q0 w (NL g (K5 P (fun q=>decide (0≤q)) i)::Vi p P::fr)) (m:=P.length - 1) ⟨rfl,1,_,by omega,.inr rfl,rfl,rfl,rfl,rfl,GK H⟩ ?_;rintro ms σ w n ⟨rfl,i,g,Rg,AB,rfl,g0,g3,g4,H⟩;obtain⟨ag,mg,cg,rfl⟩:=VZ H;obtain⟨a,c,H⟩:=AA H.swap;rw[Q1 g0,Q1 g3,Q1 g4];refine A6 H ?_;refine Qk rfl (fun h=>QE ?_) (fun h=>Qu ?_)
 ·have Q6:i < P.length:=by omega
  obtain⟨b,s,rfl,H,QU⟩:=VY H.swap (by omega);have hc:=Dv (P:=P) (s:=s) (i:=i) (by omega);have US:=gj P (fun q=>decide (0≤q)) i Rg;generalize P.getD i 0=y at hc US;refine DM H ?_;refine Jd ?_;refine Q5 rfl (QC H rfl hc rfl ?_);refine J0 H ?_;replace H:=Up (QU _ _ H).swap;refine J6 H ?_;refine Qk rfl (fun h=>?_) (fun h=>QE ?_)
  ·rw[if_pos (by simpa using h)] at US;refine If H ?_;intro b24 w H;replace H:=Js [2,0,0] 0 H;refine Q5 rfl (ZY H rfl rfl (by repeat first|exact .nil _|apply QY.cons rfl) rfl (by decide) (by rw[QM];have:=OZ P (fun q=>decide (0≤q)) i;simp only[length_cons,length_nil];omega) rfl rfl ?_);intro v25 w H;obtain⟨a25,m25,c25,rfl⟩:=VZ H;refine FR H ?_;replace H:=Js [0,1] 1 H;refine⟨_,⟨rfl,i+1,_,by omega,.inl Q6,rfl,rfl,rfl,Qg (by omega),?_⟩,by omega⟩;rw[US];show Q0 w (QF _ 1 _ (QH (_++[i]))::_);rw[BU];exact H
  ·rw[if_neg (by simpa using h),append_nil] at US;refine Vj H ?_;exact⟨_,⟨rfl,i+1,_,by omega,.inl Q6,rfl,rfl,rfl,Qg (by omega),by rw[US];exact H.swap⟩,by omega⟩
 ·have he:K5 P (fun q=>decide (0≤q)) i=V5 P:=by
   unfold V5
   rcases AB with h1|rfl
   ·rw[show i=P.length by omega]
   ·rw[gk]
    symm
    rw[eq_nil_iff_forall_not_mem];intro x hx;have:=JN.1 hx;omega
  rw[he] at H;refine J3 H ?_;have H:=(Up H).swap;exact Q3 (Jy H rfl fun w' H'=>H')
theorem qx [Q4] (p:Nat) (P:List Int) (id:Int) (hl:P.length≤1000000) {w:World} {fr:List Q2} (H:Q0 w (Vi p P::fr)) :
  Calls Tryz.prog 43 #[pp p,.int .i64 id] w (ret fun v w'=>Q0 w' (NL v (Cg P id)::Vi p P::fr)):=by
 refine QQ Tryz.func43 rfl (by kernel_rfl) ?_;refine Ie H ?_;refine Qp (fun ms σ w n=>ms=[]∧∃ (i:Nat) (g:Value),1≤i∧(i≤P.length∨i=1)∧n=P.length - i∧σ 0=pp p∧σ 1 = .int .i64 id∧σ 5=g∧σ 6 = .int .i64 i∧Q0 w (NL g (K5 P (fun q=>q == id) i)::Vi p P::fr)) (m:=P.length - 1) ⟨rfl,1,_,by omega,.inr rfl,rfl,rfl,rfl,rfl,rfl,GK H⟩ ?_;rintro ms σ w n ⟨rfl,i,g,Rg,AB,rfl,g0,g1,g3,g4,H⟩;obtain⟨ag,mg,cg,rfl⟩:=VZ H;obtain⟨a,c,H⟩:=AA H.swap;rw[Q1 g0,Q1 g1,Q1 g3,Q1 g4];refine A6 H ?_;refine Qk rfl (fun h=>QE ?_) (fun h=>Qu ?_)
 ·have Q6:i < P.length:=by omega
  obtain⟨b,s,rfl,H,QU⟩:=VY H.swap (by omega);have hc:=Dv (P:=P) (s:=s) (i:=i) (by omega);have US:=gj P (fun q=>q == id) i Rg;generalize P.getD i 0=y at hc US;refine DM H ?_;refine Jd ?_;refine Q5 rfl (QC H rfl hc rfl ?_);refine J4 H ?_;replace H:=Up (QU _ _ H).swap;refine J6 H ?_;refine Qk rfl (fun h=>?_) (fun h=>QE ?_)
  ·rw[if_pos (by simpa using h)] at US;refine If H ?_;intro b27 w H;replace H:=Js [2,0,0] 0 H;refine Q5 rfl (ZY H rfl rfl (by repeat first|exact .nil _|apply QY.cons rfl) rfl (by decide) (by rw[QM];have:=OZ P (fun q=>q == id) i;simp only[length_cons,length_nil];omega) rfl rfl ?_);intro v25 w H;obtain⟨a25,m25,c25,rfl⟩:=VZ H;refine FR H ?_;replace H:=Js [0,1] 1 H;refine⟨_,⟨rfl,i+1,_,by omega,.inl Q6,rfl,rfl,rfl,rfl,Qg (by omega),?_⟩,by omega⟩;rw[US];show Q0 w (QF _ 1 _ (QH (_++[i]))::_);rw[BU];exact H
  ·rw[if_neg (by simpa using h),append_nil] at US;refine Vj H ?_;exact⟨_,⟨rfl,i+1,_,by omega,.inl Q6,rfl,rfl,rfl,rfl,Qg (by omega),by rw[US];exact H.swap⟩,by omega⟩
 ·have he:K5 P (fun q=>q == id) i=Cg P id:=by
   unfold Cg
   rcases AB with h1|rfl
   ·rw[show i=P.length by omega]
   ·rw[gk]
    symm
    rw[eq_nil_iff_forall_not_mem];intro x hx;have:=JN.1 hx;omega
  rw[he] at H;refine J3 H ?_;have H:=(Up H).swap;exact Q3 (Jy H rfl fun w' H'=>H')
def Gh (P:List Int) (parent:Int):Nat:=if parent≠0∧Yj P parent=false then 6 else if 64≤(V5 P).length then 5 else 0
theorem gm [Q4] (p:Nat) (P:List Int) (parent:Int) (hl:P.length≤100000) (h1:1≤P.length) {w:World} {fr:List Q2} (H:Q0 w (Vi p P::fr)) :
  Calls Tryz.prog 178 #[pp p,.int .i64 parent] w (ret fun v w'=>(Gh P parent≠0∧v = .tuple #[.int .i64 0,.int .i64 (Gh P parent)]∧Q0 w' (Vi p P::fr)) ∨
   (Gh P parent=0∧v = .tuple #[.int .i64 P.length,.int .i64 0]∧Q0 w' (Vi p (P++[parent])::fr))):=by
 refine QQ Tryz.func178 rfl (by kernel_rfl) ?_;refine WR H ?_;refine Jc rfl rfl (Dw p P parent H) ?_;rintro v w ⟨rfl,H⟩;generalize ZE:Yj P parent=lv;refine Yn H ?_;refine Qt (fun ms σ w=>ms=[]∧(∃ q,σ 16 = .bool q∧(q=true↔parent≠0∧Yj P parent=false))∧σ 0=pp p∧σ 1 = .int .i64 parent∧Q0 w (Vi p P::fr)) ?_ ?_
 ·refine J9 H ?_;by_cases h0:parent=0
  ·rw[show (parent != 0)=false by simpa using h0];refine Jv ?_;refine IS H ?_;refine J0 H ?_;exact⟨rfl,rfl,⟨false,rfl,by simp[h0]⟩,rfl,rfl,H⟩
  ·rw[show (parent != 0)=true by simpa using h0];refine KO H ?_;refine J0 H ?_;exact⟨rfl,rfl,⟨!lv,rfl,by simp[h0,ZE]⟩,rfl,rfl,H⟩
 rintro ms σ w ⟨rfl,⟨q,g16,hq⟩,g0,g1,H⟩;rw[Q1 g16,Q1 g0,Q1 g1];cases q with
 | true=>
  have he:Gh P parent=6:=by unfold Gh;rw[if_pos (hq.1 rfl)]
  refine G7 H ?_;exact Q3 (Jy H rfl fun w' H' => .inl ⟨by omega,by rw[he];rfl,H'⟩)
 | false=>
  have Ww:¬ (parent≠0∧Yj P parent=false):=fun h=>by have:=hq.2 h;cases this
  refine F8 H ?_;refine Jc rfl rfl (JO p P (by omega) H) ?_;intro v w H;obtain⟨aa,ca,rfl⟩:=QI H (QM _) (by decide);refine Mv H ?_;by_cases Y3:64≤(V5 P).length
  ·have he:Gh P parent=5:=by unfold Gh;rw[if_neg Ww,if_pos Y3]
   rw[show decide (((V5 P).length:Int)≥64)=true from decide_eq_true (by omega)];refine G7 H ?_;exact Q3 (Jy H.drop rfl fun w' H' => .inl ⟨by omega,by rw[he];rfl,H'⟩)
  ·have he:Gh P parent=0:=by unfold Gh;rw[if_neg Ww,if_neg Y3]
   rw[show decide (((V5 P).length:Int)≥64)=false from decide_eq_false (by omega)];refine Vk H ?_;replace H:=H.drop;obtain⟨a,c,H⟩:=AA H;refine FI H ?_;refine X7 H ?_;intro b28 w H;replace H:=Js [2,0,0] 0 H;refine Q5 rfl (ZY H rfl rfl (by repeat first|exact .nil _|apply QY.cons rfl) rfl (by decide) (by rw[YZ];simp only[length_cons,length_nil];omega) rfl rfl ?_);intro v29 w H;have e1:Qm P++[.int .i64 parent]=Qm (P++[parent]):=by rw[Fx];rfl
   rw[e1] at H;obtain⟨a29,c29,rfl⟩:=QI H (YZ _) (by decide);refine XO H ?_;intro w H;refine J2 H ?_;refine Mw H ?_;refine ZT H ?_;refine J0 H ?_;replace H:=Js [2,0] 1 H;refine Q3 (Jy (Up H) rfl fun w' H' => .inr ⟨he,?_,H'⟩);show Value.tuple #[.int .i64 (IntKind.i64.wrap (((P++[parent]).length:Int) - 1)),_]=_;rw[show (P++[parent]).length=P.length+1 by simp,Qh (by omega) (by omega),show (((P.length+1:Nat):Int)) - 1=(P.length:Int) by omega];rfl
structure QS where
 region:Nat
 lay:Nat
 count:Nat
 w:List Nat
 kind:List Nat
 to:List Nat
 held:Bool
 pinned:Bool
 gone:Bool
structure MS where
 P:List Int
 lays:List Qa
 objs:List QS
structure K6 (lays:List Qa) (n:Nat) (x:QS):Prop where
 lay:∃ l,lays[x.lay - 1]? = some l∧YK l∧Vh l x.count=(x.w.length,0)
 lay1:1≤x.lay
 kind:x.kind.length=x.w.length
 to:x.to.length=x.w.length
 goes:∀ p,x.kind[p]? = some 2→x.to.getD p 0 < n
structure VF (m:MS):Prop where
 P:1≤m.P.length∧m.P.length≤100000
 lays:m.lays.length≤64∧∀ l∈m.lays,YK l
 objs:∀ x∈m.objs,K6 m.lays m.objs.length x
 few:m.objs.length≤100000
def YF (m:MS) (x:QS):Qa:=(m.lays[x.lay - 1]?).getD ⟨0,[],0,[]⟩
theorem qy {lays:List Qa} {P:List Int} {os:List QS} {n:Nat} {x:QS} (h:K6 lays n x):lays[x.lay - 1]? = some (YF ⟨P,lays,os⟩ x)∧YK (YF ⟨P,lays,os⟩ x)∧Vh (YF ⟨P,lays,os⟩ x) x.count=(x.w.length,0):=by
 obtain⟨l,h1,h2,h3⟩:=h.lay;have:YF ⟨P,lays,os⟩ x=l:=by unfold YF;rw[h1];rfl
 rw[this];exact⟨h1,h2,h3⟩
structure OC where
 ptr:Nat
 vw:Value
 vk:Value
 vt:Value
 ob:QS
@[reducible] def K7 (vw vk vt:Value) (x:QS):Obj:=row 76 [.int .i64 x.region,.int .i64 x.lay,.int .i64 x.count,vw,vk,vt,.bool x.held,.bool x.pinned,.bool x.gone]
@[reducible] def Zm (x:OC):Q2:=star [pts x.ptr (K7 x.vw x.vk x.vt x.ob),UL x.vw x.ob.w,NL x.vk x.ob.kind,NL x.vt x.ob.to]
structure MQ where
 t:Nat
 vL:Value
 lc:List Gd
 vO:Value
 oc:List OC
def Qy (p:Nat) (m:MS):Q2:=ex fun q:MQ=>star [prop (VF m∧q.lc.map (·.2.2)=m.lays∧q.oc.map (·.ob)=m.objs),pts p (row 58 [pp q.t,q.vL,q.vO]),Vi q.t m.P,QF 102 4 q.vL (Vf q.lc),star (q.lc.map Yq),QF 77 1 q.vO (q.oc.map fun x=>pp x.ptr),star (q.oc.map Zm)]
theorem GI [Q4] {w:World} {p:Nat} {m:MS} {l:List Q2} (H:Q0 w (Qy p m::l)):∃ (t:Nat) (lc:List Gd) (oc:List OC) (aL:Option Addr) (cL:Nat) (aO:Option Addr) (cO:Nat),VF m∧lc.map (·.2.2)=m.lays∧oc.map (·.ob)=m.objs∧lc.length=m.lays.length∧oc.length=m.objs.length ∧
  Q0 w (pts p (row 58 [pp t,.slice aL m.lays.length cL,.slice aO m.objs.length cO])::Vi t m.P::QF 102 4 (.slice aL m.lays.length cL) (Vf lc)::star (lc.map Yq)::QF 77 1 (.slice aO m.objs.length cO) (oc.map fun x=>pp x.ptr)::star (oc.map Zm)::l):=by
 obtain⟨⟨t,vL,lc,vO,oc⟩,H⟩:=Q0.ex.1 H;have H:=Q0.star.1 H;obtain⟨⟨h1,h2,h3⟩,H⟩:=Q0.prop.1 H;have Ys:lc.length=m.lays.length:=by rw[← h2,length_map]
 have Vu:oc.length=m.objs.length:=by rw[← h3,length_map]
 obtain⟨aL,cL,rfl⟩:=QI (H.drop.drop) (Ca lc) (by decide);obtain⟨aO,cO,rfl⟩:=QI (m:=oc.length) (H.drop.drop.drop.drop) (by simp) (by decide);refine⟨t,lc,oc,aL,cL,aO,cO,h1,h2,h3,Ys,Vu,?_⟩;rw[← Ys,← Vu];exact H
theorem Zv [Q4] {w:World} {p t:Nat} {m:MS} {l:List Q2} {lc:List Gd} {oc:List OC} {vL vO:Value} (h1:VF m) (h2:lc.map (·.2.2)=m.lays) (h3:oc.map (·.ob)=m.objs)
  (H:Q0 w (pts p (row 58 [pp t,vL,vO])::Vi t m.P::QF 102 4 vL (Vf lc)::star (lc.map Yq)::QF 77 1 vO (oc.map fun x=>pp x.ptr)::star (oc.map Zm)::l)):Q0 w (Qy p m::l):=
 Q0.ex.2 ⟨⟨t,vL,lc,vO,oc⟩,Q0.star.2 (Q0.prop.2 ⟨⟨h1,h2,h3⟩,H⟩)⟩
theorem UT [Q4] {w:World} {p:Nat} {m:MS} {l:List Q2} (H:Q0 w (Qy p m::l)) {o:Nat} {x:QS} (ho:m.objs[o]? = some x):∃ (t:Nat) (lc:List Gd) (aL:Option Addr) (cL bO cO:Nat) (s ptrs:List Value) (q:Nat) (vw vk vt:Value) (rest:List Q2),VF m∧lc.map (·.2.2)=m.lays∧(ptrs++s)[0+o*1]? = some (pp q) ∧
  Q0 w (pts q (K7 vw vk vt x)::UL vw x.w::NL vk x.kind::NL vt x.to::pts bO (row 77 (ptrs++s))::pts p (row 58 [pp t,.slice aL m.lays.length cL,.slice (some ⟨bO,0,none⟩) m.objs.length cO])::QF 102 4 (.slice aL m.lays.length cL) (Vf lc)::star (lc.map Yq)::Vi t m.P::star rest::l) ∧
  ∀ (w':World) (l':List Q2) (x':QS),VF { m with objs:=m.objs.set o x' }→Q0 w' (pts q (K7 vw vk vt x')::UL vw x'.w::NL vk x'.kind::NL vt x'.to::pts bO (row 77 (ptrs++s))::pts p (row 58 [pp t,.slice aL m.lays.length cL,.slice (some ⟨bO,0,none⟩) m.objs.length cO])::QF 102 4 (.slice aL m.lays.length cL) (Vf lc)::star (lc.map Yq)::Vi t m.P::star rest::l')→Q0 w' (Qy p { m with objs:=m.objs.set o x' }::l'):=by
 obtain⟨t,lc,oc,aL,cL,aO,cO,h1,h2,h3,Ys,Vu,H⟩:=GI H;have VH:o < m.objs.length:=(List.getElem?_eq_some_iff.1 ho).1
 obtain⟨y,hy,qz⟩:∃ y,oc[o]? = some y∧y.ob=x:=by
  rw[← h3,getElem?_map,Option.map_eq_some_iff] at ho;exact ho
 obtain⟨q,vw,vk,vt,x1⟩:=y;obtain rfl:x1=x:=qz;have OG:=SL.split_at hy;replace H:=Js [4,4,0,0,0,0] 0 H;obtain⟨bO,s,rfl,H,QU⟩:=VY H (by omega);replace H:=Js [1,0,0,0,0,0] 0 H;have H:=Q0.star.1 ((Q0.pick (R:=Zm) OG).1 H);replace H:Q0 w (pts q (K7 vw vk vt x1)::UL vw x1.w::NL vk x1.kind::NL vt x1.to::star ((oc.take o++oc.drop (o+1)).map Zm)::pts bO (row 77 ((oc.map fun x=>pp x.ptr)++s))::pts p (row 58 [pp t,.slice aL m.lays.length cL,.slice (some ⟨bO,0,none⟩) m.objs.length cO])::Vi t m.P::QF 102 4 (.slice aL m.lays.length cL) (Vf lc)::star (lc.map Yq)::l):=H;refine⟨t,lc,aL,cL,bO,cO,s,oc.map fun x=>pp x.ptr,q,vw,vk,vt,(oc.take o++oc.drop (o+1)).map Zm,h1,h2,?_,?_,?_⟩
 ·rw[Nat.zero_add,Nat.mul_one,getElem?_append_left (by simp;omega),getElem?_map,hy];rfl
 ·replace H:=Js [0,0,0,0,1,1,2,2,1,0] 0 H;exact H
 ·intro w' l' x' V7 H;replace H:=Js [0,0,0,0,5,0,0,2,0,0] 0 H;have H:=(Q0.pick (R:=Zm) (x:=⟨q,vw,vk,vt,x'⟩) (g1:=oc.take o) (g2:=oc.drop (o+1)) rfl).2 (Q0.star.2 H);rw[← SL.set_split hy] at H;replace H:=Js [1,0,0,0,0,0] 0 H;have H:=QU _ _ H
  have hp:(oc.map fun x=>pp x.ptr)=((oc.set o ⟨q,vw,vk,vt,x'⟩).map fun x=>pp x.ptr):=by
   rw[map_set]
   symm
   apply ext_getElem?;intro i;rw[getElem?_set];split
   ·rename_i hi;subst hi;rw[getElem?_map,hy];simp;omega
   ·rfl
  rw[hp] at H;replace H:=Js [2,2,2,2,0,0] 0 H;have hs:({ m with objs:=m.objs.set o x' }:MS).objs=m.objs.set o x':=rfl;exact Zv (m:={ m with objs:=m.objs.set o x' }) V7 h2 (by rw[map_set,h3]) H
def VL (m:MS) (o:Int):Option (Nat×QS):=
 if 0≤o then
  match m.objs[o.toNat]? with
  | some x=>if x.held && !x.gone then some (o.toNat,x) else none
  | none=>none
 else none
theorem JP (m:MS) (o:Nat):VL m o=match m.objs[o]? with|some x=>if x.held && !x.gone then some (o,x) else none|none=>none:=by
 unfold VL;rw[if_pos (by omega),Int.toNat_natCast]
def Vr (m:MS) (o place:Int) (ref:Bool):Nat:=
 match VL m o with
 | none=>8
 | some (_,x)=>Qb (YF m x) x.w.length place ref
theorem K8 [Q4] {w:World} {p:Nat} {m:MS} {l:List Q2} {o:Nat} {x:QS} (ho:m.objs[o]? = some x) (H:Q0 w (Qy p { m with objs:=m.objs.set o x }::l)):Q0 w (Qy p m::l):=by
 have:m.objs.set o x=m.objs:=by
  apply ext_getElem?;intro i;rw[getElem?_set];split
  ·rename_i hi;subst hi;rw[ho];have:=(List.getElem?_eq_some_iff.1 ho).1;simp[this]
  ·rfl
 rw[this] at H;exact H
theorem BJ {m:MS} {o:Nat} {x:QS} (ho:m.objs[o]? = some x) (h:VF m):VF { m with objs:=m.objs.set o x }:=by
 have:m.objs.set o x=m.objs:=by
  apply ext_getElem?;intro i;rw[getElem?_set];split
  ·rename_i hi;subst hi;rw[ho];have:=(List.getElem?_eq_some_iff.1 ho).1;simp[this]
  ·rfl
 rw[this];exact h
theorem Dx [Q4] (p:Nat) (m:MS) (o:Int) {w:World} {fr:List Q2} (H:Q0 w (Qy p m::fr)) :
  Calls Tryz.prog 38 #[pp p,.int .i64 o] w (ret fun v w'=>v = .bool (VL m o).isSome∧Q0 w' (Qy p m::fr)):=by
 by_cases h0:o≥0
 ·obtain⟨k,rfl⟩:∃ k:Nat,o=k:=⟨o.toNat,by omega⟩;by_cases h1:k < m.objs.length
  ·have hx:=getElem?_eq_getElem h1;generalize m.objs[k]=x at hx;have hv:VL m k=if x.held && !x.gone then some (k,x) else none:=by rw[JP,hx]
   obtain⟨t,lc,aL,cL,bO,cO,s,ptrs,q,vw,vk,vt,rest,hm,h2,hp,H,QU⟩:=UT H hx;have V7:=BJ hx hm;obtain⟨xr,xl,xc,xw,xk,xt,xh,xp,xg⟩:=x;refine QQ Tryz.func38 rfl (by kernel_rfl) ?_;refine Rn H ?_;rw[show decide ((k:Int)≥0)=true from decide_eq_true (by omega)];refine B3 H ?_;rw[show decide ((k:Int) < (m.objs.length:Int))=true from decide_eq_true (by omega)];refine CW H ?_;refine Qe rfl rfl rfl (X4 rfl rfl (by omega) (by omega) rfl ?_);refine Qe rfl rfl rfl (QC H rfl hp rfl ?_);cases xh with
   | true=>
    refine Zq H ?_;refine Kt H ?_;refine CW H ?_;refine Qe rfl rfl rfl (X4 rfl rfl (by omega) (by omega) rfl ?_);refine Qe rfl rfl rfl (QC H rfl hp rfl ?_);refine Ia H ?_;refine J4 H ?_;refine Q3 (Jy (K8 hx (QU _ _ _ V7 H)) rfl fun w' H'=>⟨?_,H'⟩);rw[hv];cases xg <;> rfl
   | false=>
    refine Zq H ?_;refine Kt H ?_;refine WK H ?_;refine IM H ?_;refine J4 H ?_;refine Q3 (Jy (K8 hx (QU _ _ _ V7 H)) rfl fun w' H'=>⟨?_,H'⟩);rw[hv];rfl
  ·have hv:VL m k=none:=by rw[JP,getElem?_eq_none (by omega)]
   obtain⟨t,lc,oc,aL,cL,aO,cO,a1,a2,a3,a4,a5,H⟩:=GI H;refine QQ Tryz.func38 rfl (by kernel_rfl) ?_;refine Rn H ?_;rw[show decide ((k:Int)≥0)=true from decide_eq_true (by omega)];refine B3 H ?_;rw[show decide ((k:Int) < (m.objs.length:Int))=false from decide_eq_false (by omega)];refine NZ H ?_;refine Ig H ?_;refine IM H ?_;refine J4 H ?_;refine Q3 (Jy (Zv a1 a2 a3 H) rfl fun w' H'=>⟨?_,H'⟩);rw[hv];rfl
 ·have hv:VL m o=none:=by unfold VL;rw[if_neg (by omega)]
  refine QQ Tryz.func38 rfl (by kernel_rfl) ?_;refine Rn H ?_;rw[show decide (o≥0)=false from decide_eq_false (by omega)];refine Ib H ?_;refine NZ H ?_;refine Ig H ?_;refine IM H ?_;refine J4 H ?_;refine Q3 (Jy H rfl fun w' H'=>⟨?_,H'⟩);rw[hv];rfl
theorem T8 [Q4] {w:World} {aL:Option Addr} {n cL:Nat} {lc:List Gd} {l:List Q2} (hn:lc.length=n) (H:Q0 w (QF 102 4 (.slice aL n cL) (Vf lc)::star (lc.map Yq)::l)) {i:Nat} {y:Gd} (hy:lc[i]? = some y) :
  ∃ (bL:Nat) (s:List Value) (D1 D2 R:Q2),aL=some ⟨bL,0,none⟩∧Q0 w (pts bL (row 102 (Vf lc++s))::D1::D2::R::l)∧(∀ l',R4 (D1::D2::l') y.1 y.2.1 y.2.2) ∧
   ∀ (w':World) (l':List Q2),Q0 w' (pts bL (row 102 (Vf lc++s))::D1::D2::R::l')→Q0 w' (QF 102 4 (.slice aL n cL) (Vf lc)::star (lc.map Yq)::l'):=by
 have hi:i < lc.length:=(List.getElem?_eq_some_iff.1 hy).1;have OG:=SL.split_at hy;obtain⟨vr,vq,l'⟩:=y;obtain⟨bL,s,rfl,H,QU⟩:=VY H (by omega);have H:=Q0.star.1 ((Q0.pick (R:=Yq) OG).1 H.swap);replace H:Q0 w (NL vr l'.refs::NL vq l'.recs::star ((lc.take i++lc.drop (i+1)).map Yq)::pts bL (row 102 (Vf lc++s))::l):=H;obtain⟨D1,H,Y5,Vo⟩:=sls_rd H (QM _) (by decide);obtain⟨D2,H,Zl,ZU⟩:=sls_rd H.swap (QM _) (by decide);replace H:=Js [3,0,0,0] 0 H;refine⟨bL,s,D2,D1,star ((lc.take i++lc.drop (i+1)).map Yq),rfl,H,fun l'=>⟨(Y5 _).there,Zl _⟩,?_⟩;intro w' l2 H;replace H:=Js [1,1,1,0] 0 H;have H:=Vo _ _ (ZU _ _ H).swap;replace H:=Js [0,0,0,0] 0 H;have H:=(Q0.pick (R:=Yq) OG).2 (Q0.star.2 H);exact QU _ _ H.swap
theorem BL {m:MS} {w:VF m} {x:QS} {o:Nat} (h:m.objs[o]? = some x):x.w.length < 8192:=by
 obtain⟨l,_,_,h⟩:=(w.objs x (mem_of_getElem? h)).lay;unfold Vh at h;split at h
 ·injection h with h1 h2;cases h2
 ·split at h
  ·injection h with h1 h2;cases h2
  ·injection h with h1 h2;omega
theorem WM {m:MS} {o:Int} {k:Nat} {x:QS} (h:VL m o=some (k,x)):o=k∧m.objs[k]? = some x∧x.held=true∧x.gone=false:=by
 unfold VL at h;split at h
 ·split at h
  ·rename_i y hy;split at h
   ·rename_i hh;injection h with h
    injection h with h1 h2
    subst h1 h2;have OU:=Bool.and_eq_true_iff.1 hh;exact⟨by omega,hy,OU.1,by simpa using OU.2⟩
   ·cases h
  ·cases h
 ·cases h
theorem gn {m:MS} (h:VF m) {lc:List Gd} (hl:lc.map (·.2.2)=m.lays) {x:QS} {o:Nat} (hx:m.objs[o]? = some x):∃ y:Gd,lc[x.lay - 1]? = some y∧y.2.2=YF m x∧1≤x.lay∧x.lay≤lc.length∧YK (YF m x)∧Vh (YF m x) x.count=(x.w.length,0):=by
 have hm:=h.objs x (mem_of_getElem? hx);obtain⟨h1,h2,h3⟩:=qy (P:=m.P) (os:=m.objs) hm;have I4:m.lays[x.lay - 1]? = some (YF m x):=h1;have T9:(lc.map (·.2.2))[x.lay - 1]? = some (YF m x):=by rw[hl];exact I4
 rw[getElem?_map,Option.map_eq_some_iff] at T9;obtain⟨y,hy,e⟩:=T9;have:=(List.getElem?_eq_some_iff.1 hy).1;have:=hm.lay1;exact⟨y,hy,e,hm.lay1,by omega,h2,h3⟩
theorem gp {l:Qa} {c:Nat} {n p:Nat} (h:Vh l c=(n,0)) (hp:p < n):l.record≠0∨p < l.fixed:=by
 unfold Vh at h;split at h
 ·injection h with h1 h2;cases h2
 ·split at h
  ·injection h with h1 h2;cases h2
  ·injection h with h1 h2
   by_cases h0:l.record=0
   ·rw[h0] at h1;right;omega
   ·left;exact h0
theorem Ch [Q4] (p:Nat) (m:MS) (o place:Int) (ref:Bool) {w:World} {fr:List Q2} (H:Q0 w (Qy p m::fr)) :
  Calls Tryz.prog 164 #[pp p,.int .i64 o,.int .i64 place,.bool ref] w (ret fun v w'=>v = .int .i64 (Vr m o place ref:Nat)∧Q0 w' (Qy p m::fr)):=by
 refine QQ Tryz.func164 rfl (by kernel_rfl) ?_;refine Rn H ?_;refine Jc rfl rfl (Dx p m o H) ?_;rintro v w ⟨rfl,H⟩;refine J0 H ?_;cases hv:VL m o with
 | none=>
  have hr:Vr m o place ref=8:=by unfold Vr;rw[hv]
  refine FM H ?_;refine Q3 (Jy H rfl fun w' H'=>⟨by rw[hr];rfl,H'⟩)
 | some kx=>
  obtain⟨k,x⟩:=kx;obtain⟨rfl,hx,hh,hg⟩:=WM hv;have hr:Vr m k place ref=Qb (YF m x) x.w.length place ref:=by unfold Vr;rw[hv]
  have VC:=(List.getElem?_eq_some_iff.1 hx).1;obtain⟨t,lc,aL,cL,bO,cO,s,ptrs,q,vw,vk,vt,rest,hm,h2,hp,H,QU⟩:=UT H hx;have V7:=BJ hx hm;obtain⟨y,hy,CT,Ys,Vu,hR,Va⟩:=gn hm h2 hx;obtain⟨aw,cw,rfl⟩:=QI H.drop (GA _) (by decide);refine KL H ?_;refine Vb H ?_;refine Jd ?_;refine Q5 rfl (QC H rfl hp rfl ?_);refine J0 H ?_;refine J9 H ?_;by_cases h1:place < 0∨(x.w.length:Int)≤place
  ·have Ym:Vr m k place ref=3:=by rw[hr];unfold Qb;rw[if_pos h1]
   by_cases h0:place < 0
   ·rw[show decide (place < 0)=true from decide_eq_true (by omega)];refine Ib H ?_;refine Kw H ?_;refine Q3 (Jy (K8 hx (QU _ _ _ V7 H)) rfl fun w' H'=>⟨by rw[Ym];rfl,H'⟩)
   ·rw[show decide (place < 0)=false from decide_eq_false (by omega)];refine B3 H ?_;rw[show decide (place≥(x.w.length:Int))=true from decide_eq_true (by omega)];refine Kw H ?_;refine Q3 (Jy (K8 hx (QU _ _ _ V7 H)) rfl fun w' H'=>⟨by rw[Ym];rfl,H'⟩)
  ·obtain⟨j,rfl⟩:∃ j:Nat,place=j:=⟨place.toNat,by omega⟩;have Zi:=BL (w:=hm) hx;rw[show decide ((j:Int) < 0)=false from decide_eq_false (by omega)];refine B3 H ?_;rw[show decide ((j:Int)≥(x.w.length:Int))=false from decide_eq_false (by omega)];refine YT H ?_;replace H:=Js [6,6,0,0,0,0,0,0,0,0] 0 H;obtain⟨bL,sL,D1,D2,R,rfl,H,hD,QJ⟩:=T8 (by rw[← h2,length_map]) H hy;obtain⟨vr,vq,ly⟩:=y;obtain rfl:ly=YF m x:=CT;refine J1 H ?_;intro w H;refine YI H ?_;refine Jl 3 [12] H ?_;refine N7 H ?_;refine Jl 7 [12] H ?_;refine Ja 8 ?_;rw[show IntKind.i64.wrap ((x.lay:Int) - 1)=((x.lay - 1:Nat):Int) by rw[Qh (by omega) (by have:=hm.lays.1;rw[← h2,length_map] at this;omega)];omega];refine C1 9 rfl (Q8.none rfl) rfl rfl (by omega) (by rw[← h2,length_map];omega) (by kernel_rfl) ?_;refine Vz 10 [12] H rfl (Q8.none rfl) rfl (Nz hy) (by kernel_rfl) ?_;refine Ja 11 ?_;refine Jo 12 H ?_;refine Jk rfl rfl (gG vr vq (YF m x) hR j (gp Va (by omega)) (by omega) ((hD _).there) H) ?_;rintro v w ⟨rfl,H⟩;refine CA H ?_;replace H:=QJ _ _ H;replace H:=Js [2,2,2,2,2,2,0,0,0,0] 0 H;replace H:=K8 hx (QU _ _ _ V7 H);generalize hbb:Ve (YF m x) j=bb;cases bb with
   | true=>
    cases ref with
    | true=>
     refine NG H ?_;have Ym:Vr m k j true=0:=by rw[hr];unfold Qb;rw[if_neg h1,Int.toNat_natCast,if_neg (by rw[hbb];decide)]
     refine De H ?_;refine Q3 (Jy H rfl fun w' H'=>⟨by rw[Ym];rfl,H'⟩)
    | false=>
     refine NG H ?_;have Ym:Vr m k j false=9:=by rw[hr];unfold Qb;rw[if_neg h1,Int.toNat_natCast,if_pos (by rw[hbb];decide)]
     refine ZB H ?_;refine Q3 (Jy H rfl fun w' H'=>⟨by rw[Ym];rfl,H'⟩)
   | false=>
    cases ref with
    | true=>
     refine NG H ?_;have Ym:Vr m k j true=9:=by rw[hr];unfold Qb;rw[if_neg h1,Int.toNat_natCast,if_pos (by rw[hbb];decide)]
     refine ZB H ?_;refine Q3 (Jy H rfl fun w' H'=>⟨by rw[Ym];rfl,H'⟩)
    | false=>
     refine NG H ?_;have Ym:Vr m k j false=0:=by rw[hr];unfold Qb;rw[if_neg h1,Int.toNat_natCast,if_neg (by rw[hbb];decide)]
     refine De H ?_;refine Q3 (Jy H rfl fun w' H'=>⟨by rw[Ym];rfl,H'⟩)
@[reducible] def G9 (m:MS) (k:Nat) (x:QS):MS:={ m with objs:=m.objs.set k x }
theorem Dy {m:MS} (h:VF m) {o:Nat} {x:QS} (hx:K6 m.lays m.objs.length x):VF (G9 m o x):=by
 refine⟨h.P,h.lays,fun y hy=>?_,by show (m.objs.set o x).length≤_;rw[length_set];exact h.few⟩;have hl:(m.objs.set o x).length=m.objs.length:=length_set;show K6 m.lays (m.objs.set o x).length y;rw[hl]
 rcases mem_or_eq_of_mem_set hy with hy|rfl
 ·exact h.objs y hy
 ·exact hx
def Xh (m:MS) (o:Int):MS×Nat:=
 match VL m o with
 | none=>(m,8)
 | some (k,x)=>(G9 m k { x with held:=false },0)
theorem r4 [Q4] (p:Nat) (m:MS) (o:Int) {w:World} {fr:List Q2} (H:Q0 w (Qy p m::fr)) :
  Calls Tryz.prog 172 #[pp p,.int .i64 o] w (ret fun v w'=>v = .int .i64 ((Xh m o).2:Nat)∧Q0 w' (Qy p (Xh m o).1::fr)):=by
 refine QQ Tryz.func172 rfl (by kernel_rfl) ?_;refine Rn H ?_;refine Jc rfl rfl (Dx p m o H) ?_;rintro v w ⟨rfl,H⟩;refine J0 H ?_;cases hv:VL m o with
 | none=>
  have hr:Xh m o=(m,8):=by unfold Xh;rw[hv]
  rw[hr];refine FM H ?_;refine Q3 (Jy H rfl fun w' H'=>⟨rfl,H'⟩)
 | some kx=>
  obtain⟨k,x⟩:=kx;have hr:Xh m o=(G9 m k { x with held:=false },0):=by unfold Xh;rw[hv]
  rw[hr];obtain⟨rfl,hx,hh,hg⟩:=WM hv;have VC:=(List.getElem?_eq_some_iff.1 hx).1;obtain⟨t,lc,aL,cL,bO,cO,s,ptrs,q,vw,vk,vt,rest,hm,h2,hp,H,QU⟩:=UT H hx;have V7:VF (G9 m k { x with held:=false }):=Dy hm (by obtain⟨a,b,c,d,e⟩:=hm.objs x (mem_of_getElem? hx);exact⟨a,b,c,d,e⟩);refine KL H ?_;refine Vb H ?_;refine Jd ?_;refine Q5 rfl (QC H rfl hp rfl ?_);refine XO H ?_;intro w H;refine DH H ?_;refine Q3 (Jy (QU _ _ _ V7 H) rfl fun w' H'=>⟨rfl,H'⟩)
def Xi (m:MS) (o:Int) (on:Bool):MS×Nat:=
 match VL m o with
 | none=>(m,8)
 | some (k,x)=>if x.pinned=on then (m,7) else (G9 m k { x with pinned:=on },0)
theorem r5 [Q4] (p:Nat) (m:MS) (o:Int) (on:Bool) {w:World} {fr:List Q2} (H:Q0 w (Qy p m::fr)) :
  Calls Tryz.prog 174 #[pp p,.int .i64 o,.bool on] w (ret fun v w'=>v = .int .i64 ((Xi m o on).2:Nat)∧Q0 w' (Qy p (Xi m o on).1::fr)):=by
 refine QQ Tryz.func174 rfl (by kernel_rfl) ?_;refine Rn H ?_;refine Jc rfl rfl (Dx p m o H) ?_;rintro v w ⟨rfl,H⟩;refine J0 H ?_;cases hv:VL m o with
 | none=>
  have hr:Xi m o on=(m,8):=by unfold Xi;rw[hv]
  rw[hr];refine FM H ?_;refine Q3 (Jy H rfl fun w' H'=>⟨rfl,H'⟩)
 | some kx=>
  obtain⟨k,x⟩:=kx;have hr:Xi m o on=if x.pinned=on then (m,7) else (G9 m k { x with pinned:=on },0):=by unfold Xi;rw[hv]
  rw[hr];obtain⟨rfl,hx,hh,hg⟩:=WM hv;have VC:=(List.getElem?_eq_some_iff.1 hx).1;obtain⟨t,lc,aL,cL,bO,cO,s,ptrs,q,vw,vk,vt,rest,hm,h2,hp,H,QU⟩:=UT H hx;have Et:=BJ hx hm;have V7:VF (G9 m k { x with pinned:=on }):=Dy hm (by obtain⟨a,b,c,d,e⟩:=hm.objs x (mem_of_getElem? hx);exact⟨a,b,c,d,e⟩);refine KL H ?_;obtain⟨xr,xl,xc,xw,xk,xt,xh,xp,xg⟩:=x;refine Vb H ?_;refine Jd ?_;refine Q5 rfl (QC H rfl hp rfl ?_);cases xp with
  | true=>
   cases on with
   | true=>
    refine NU H ?_;refine J2 H ?_;refine ZB H ?_;refine Q3 (Jy (K8 hx (QU _ _ _ Et H)) rfl fun w' H'=>⟨rfl,H'⟩)
   | false=>
    refine NU H ?_;refine CB H ?_;refine Vb H ?_;refine Jd ?_;refine Q5 rfl (QC H rfl hp rfl ?_);refine ZT H ?_;refine Rh H ?_;intro w H;refine DH H ?_;refine Q3 (Jy (QU _ _ _ V7 H) rfl fun w' H'=>⟨rfl,H'⟩)
  | false=>
   cases on with
   | true=>
    refine NU H ?_;refine CB H ?_;refine Vb H ?_;refine Jd ?_;refine Q5 rfl (QC H rfl hp rfl ?_);refine ZT H ?_;refine Rh H ?_;intro w H;refine DH H ?_;refine Q3 (Jy (QU _ _ _ V7 H) rfl fun w' H'=>⟨rfl,H'⟩)
   | false=>
    refine NU H ?_;refine J2 H ?_;refine ZB H ?_;refine Q3 (Jy (K8 hx (QU _ _ _ Et H)) rfl fun w' H'=>⟨rfl,H'⟩)
theorem HQ {l:List Nat} {spare:List Value} {i x:Nat} {v:Int} (h:i < l.length) (hv:v=(x:Nat)):(QH l++spare).set (0+i*1) (.int .i64 v)=QH (l.set i x)++spare:=by subst hv;exact Nq h
theorem K9 {m:MS} {o place:Int} {ref:Bool} {k:Nat} {x:QS} (h:VL m o=some (k,x)):Vr m o place ref=Qb (YF m x) x.w.length place ref:=by unfold Vr;rw[h]
theorem WN {m:MS} {o place:Int} {ref:Bool} (h:VL m o=none):Vr m o place ref=8:=by unfold Vr;rw[h]
def R8 (m:MS) (o place:Int):MS×Nat:=
 match VL m o with
 | none=>(m,8)
 | some (k,x)=>if Qb (YF m x) x.w.length place true=0 then (G9 m k { x with kind:=x.kind.set place.toNat 0,to:=x.to.set place.toNat 0 },0) else (m,Qb (YF m x) x.w.length place true)
theorem gr {m:MS} {o place:Int} (h:VL m o=none):R8 m o place=(m,8):=by unfold R8;rw[h]
theorem TV {m:MS} {o place:Int} {k:Nat} {x:QS} (h:VL m o=some (k,x)):R8 m o place=if Qb (YF m x) x.w.length place true=0 then (G9 m k { x with kind:=x.kind.set place.toNat 0,to:=x.to.set place.toNat 0 },0) else (m,Qb (YF m x) x.w.length place true):=by unfold R8;rw[h]
theorem TY {ls:List Qa} {n:Nat} {x:QS} (h:K6 ls n x) (j kd t:Nat) (hk:kd=2→t < n):K6 ls n { x with kind:=x.kind.set j kd,to:=x.to.set j t }:=by
 obtain⟨a,b,c,d,e⟩:=h;refine⟨a,b,by show (x.kind.set j kd).length=_;rw[length_set];exact c,by show (x.to.set j t).length=_;rw[length_set];exact d,?_⟩;intro i (hi:(x.kind.set j kd)[i]? = some 2);show (x.to.set j t).getD i 0 < n;by_cases Yg:j=i
 ·subst Yg
  have hl:j < x.kind.length:=by
   have:=(List.getElem?_eq_some_iff.1 hi).1;simpa using this
  rw[getElem?_set_self hl] at hi;injection hi with hi
  rw[getD_eq_getElem?_getD,getElem?_set_self (by omega)];exact hk hi
 ·rw[getElem?_set_ne Yg] at hi;have:=e i hi;rw[getD_eq_getElem?_getD,getElem?_set_ne Yg,← getD_eq_getElem?_getD];exact this
theorem r6 [Q4] (p:Nat) (m:MS) (o place:Int) {w:World} {fr:List Q2} (H:Q0 w (Qy p m::fr)) :
  Calls Tryz.prog 170 #[pp p,.int .i64 o,.int .i64 place] w (ret fun v w'=>v = .int .i64 ((R8 m o place).2:Nat)∧Q0 w' (Qy p (R8 m o place).1::fr)):=by
 refine QQ Tryz.func170 rfl (by kernel_rfl) ?_;refine DF H ?_;refine Jc rfl rfl (Ch p m o place true H) ?_;rintro v w ⟨rfl,H⟩;refine ZZ H ?_;by_cases h0:Vr m o place true=0
 ·obtain⟨k,x,hv⟩:∃ k x,VL m o=some (k,x):=by
   cases hv:VL m o with
   | none=>rw[WN hv] at h0;cases h0
   | some kx=>exact⟨kx.1,kx.2,rfl⟩
  rw[K9 hv] at h0 ⊢;rw[TV hv,if_pos h0,h0];obtain⟨rfl,hx,hh,hg⟩:=WM hv;have VC:=(List.getElem?_eq_some_iff.1 hx).1;obtain⟨j,rfl,hj,hr⟩:=UP h0;rw[Int.toNat_natCast];obtain⟨t,lc,aL,cL,bO,cO,s,ptrs,q,vw,vk,vt,rest,hm,h2,hp,H,QU⟩:=UT H hx;have Uq:=hm.objs x (mem_of_getElem? hx);have U0:=Uq.kind;have OX:=Uq.to;have Zi:=BL (w:=hm) hx;obtain⟨ak,ck,rfl⟩:=QI H.drop.drop (QM _) (by decide);obtain⟨at',ct,rfl⟩:=QI H.drop.drop.drop (QM _) (by decide);replace H:=Js [2,0,0,0] 0 H;obtain⟨bk,sk,rfl,H,_,_,UV⟩:=GP H (by omega);replace H:=Js [3,0,0,0] 0 H;obtain⟨bt,st,rfl,H,_,_,R9⟩:=GP H (by omega);refine Vt H ?_;refine Vb H ?_;refine Jd ?_;refine Q5 rfl (QC H rfl hp rfl ?_);refine FN H ?_;refine Jd ?_;refine Q5 rfl (G1 H rfl rfl inferInstance rfl (by simp only[length_append,QM];omega) rfl ?_);intro w H;rw[Int.toNat_natCast,HQ (v:=0) (x:=0) (by omega) rfl] at H;refine NX H ?_;refine Jd ?_;refine Q5 rfl (QC H rfl hp rfl ?_);refine FN H ?_;refine Jd ?_;refine Q5 rfl (G1 H rfl rfl inferInstance rfl (by simp only[length_append,QM];omega) rfl ?_);intro w H;rw[Int.toNat_natCast,HQ (v:=0) (x:=0) (by omega) rfl] at H;refine J2 H ?_;replace H:=Js [1,0,0,0] 0 H;replace H:=UV _ _ (QH (x.kind.set j 0)) (by simp[QH]) H;replace H:=Js [1,0,0,0] 0 H;replace H:=R9 _ _ (QH (x.to.set j 0)) (by simp[QH]) H;replace H:=Js [2,2,1,0] 0 H;replace H:=QU _ _ { x with kind:=x.kind.set j 0,to:=x.to.set j 0 } (Dy hm (TY Uq j 0 0 (by omega))) H;refine J3 H ?_;exact Q3 (Jy H rfl fun w' H'=>⟨rfl,H'⟩)
 ·have hc:R8 m o place=(m,Vr m o place true):=by
   cases hv:VL m o with
   | none=>rw[gr hv,WN hv]
   | some kx=>
    obtain⟨k,x⟩:=kx;rw[K9 hv] at h0 ⊢;rw[TV hv,if_neg h0]
  rw[hc,show (((Vr m o place true:Nat):Int) == 0)=false by simpa using h0];refine FQ H ?_;exact Q3 (Jy H rfl fun w' H'=>⟨rfl,H'⟩)
def Zw (m:MS) (o place u:Int):MS×Nat:=
 match VL m o with
 | none=>(m,8)
 | some (k,x)=>if Qb (YF m x) x.w.length place true=0 then match VL m u with
  | none=>(m,8)
  | some (ku,_)=>(G9 m k { x with kind:=x.kind.set place.toNat 2,to:=x.to.set place.toNat ku },0)
  else (m,Qb (YF m x) x.w.length place true)
theorem r7 [Q4] (p:Nat) (m:MS) (o place u:Int) {w:World} {fr:List Q2} (H:Q0 w (Qy p m::fr)) :
  Calls Tryz.prog 168 #[pp p,.int .i64 o,.int .i64 place,.int .i64 u] w (ret fun v w'=>v = .int .i64 ((Zw m o place u).2:Nat)∧Q0 w' (Qy p (Zw m o place u).1::fr)):=by
 refine QQ Tryz.func168 rfl (by kernel_rfl) ?_;refine DF H ?_;refine Jc rfl rfl (Ch p m o place true H) ?_;rintro v w ⟨rfl,H⟩;refine ZZ H ?_;by_cases h0:Vr m o place true=0
 ·obtain⟨k,x,hv⟩:∃ k x,VL m o=some (k,x):=by
   cases hv:VL m o with
   | none=>rw[WN hv] at h0;cases h0
   | some kx=>exact⟨kx.1,kx.2,rfl⟩
  rw[K9 hv] at h0 ⊢;rw[h0];refine FK H ?_;refine Jc rfl rfl (Dx p m u H) ?_;rintro v w ⟨rfl,H⟩;refine J0 H ?_;cases hu:VL m u with
  | none=>
   have hr:Zw m o place u=(m,8):=by unfold Zw;rw[hv];show (if Qb _ _ _ _=0 then _ else _)=_;rw[if_pos h0,hu]
   rw[hr];refine FM H ?_;exact Q3 (Jy H rfl fun w' H'=>⟨rfl,H'⟩)
  | some kx=>
  obtain⟨ku,xu⟩:=kx;have hr:Zw m o place u=(G9 m k { x with kind:=x.kind.set place.toNat 2,to:=x.to.set place.toNat ku },0):=by unfold Zw;rw[hv];show (if Qb _ _ _ _=0 then _ else _)=_;rw[if_pos h0,hu]
  rw[hr];obtain⟨rfl,hx,hh,hg⟩:=WM hv;obtain⟨rfl,r8,_,_⟩:=WM hu;have VC:=(List.getElem?_eq_some_iff.1 hx).1;have r9:=(List.getElem?_eq_some_iff.1 r8).1;obtain⟨j,rfl,hj,hr⟩:=UP h0;rw[Int.toNat_natCast];refine KL H ?_;obtain⟨t,lc,aL,cL,bO,cO,s,ptrs,q,vw,vk,vt,rest,hm,h2,hp,H,QU⟩:=UT H hx;have Uq:=hm.objs x (mem_of_getElem? hx);have U0:=Uq.kind;have OX:=Uq.to;have Zi:=BL (w:=hm) hx;obtain⟨ak,ck,rfl⟩:=QI H.drop.drop (QM _) (by decide);obtain⟨at',ct,rfl⟩:=QI H.drop.drop.drop (QM _) (by decide);replace H:=Js [2,0,0,0] 0 H;obtain⟨bk,sk,rfl,H,_,_,UV⟩:=GP H (by omega);replace H:=Js [3,0,0,0] 0 H;obtain⟨bt,st,rfl,H,_,_,R9⟩:=GP H (by omega);refine Vb H ?_;refine Jd ?_;refine Q5 rfl (QC H rfl hp rfl ?_);refine FN H ?_;refine Jd ?_;refine Q5 rfl (G1 H rfl rfl inferInstance rfl (by simp only[length_append,QM];omega) rfl ?_);intro w H;rw[Int.toNat_natCast,HQ (v:=2) (x:=2) (by omega) rfl] at H;refine NX H ?_;refine Jd ?_;refine Q5 rfl (QC H rfl hp rfl ?_);refine Jv ?_;refine DO H ?_;refine Jd ?_;refine Q5 rfl (G1 H rfl rfl inferInstance rfl (by simp only[length_append,QM];omega) rfl ?_);intro w H;rw[Int.toNat_natCast,HQ (v:=ku) (x:=ku) (by omega) rfl] at H;refine J2 H ?_;replace H:=Js [1,0,0,0] 0 H;replace H:=UV _ _ (QH (x.kind.set j 2)) (by simp[QH]) H;replace H:=Js [1,0,0,0] 0 H;replace H:=R9 _ _ (QH (x.to.set j ku)) (by simp[QH]) H;replace H:=Js [2,2,1,0] 0 H;replace H:=QU _ _ { x with kind:=x.kind.set j 2,to:=x.to.set j ku } (Dy hm (TY Uq j 2 ku (fun _=>r9))) H;refine Vg H ?_;exact Q3 (Jy H rfl fun w' H'=>⟨rfl,H'⟩)
 ·have hc:Zw m o place u=(m,Vr m o place true):=by
   cases hv:VL m o with
   | none=>unfold Zw;rw[hv,WN hv]
   | some kx=>
    obtain⟨k,x⟩:=kx;rw[K9 hv] at h0 ⊢;unfold Zw;rw[hv];show (if Qb _ _ _ _=0 then _ else _)=_;rw[if_neg h0]
  rw[hc,show (((Vr m o place true:Nat):Int) != 0)=true by simpa using h0];refine G7 H ?_;exact Q3 (Jy H rfl fun w' H'=>⟨rfl,H'⟩)
def AC (m:MS) (t:Nat):MS:=match m.objs[t]? with|some y=>G9 m t { y with held:=true }|none=>m
def ZF (m:MS) (o place:Int):MS×Nat×Nat×Nat:=
 match VL m o with
 | none=>(m,0,0,8)
 | some (_,x)=>if Qb (YF m x) x.w.length place true=0 then (if x.kind.getD place.toNat 0=2 then AC m (x.to.getD place.toNat 0) else m,x.kind.getD place.toNat 0,x.to.getD place.toNat 0,0) else (m,0,0,Qb (YF m x) x.w.length place true)
theorem rQ [Q4] (p:Nat) (m:MS) (o place:Int) {w:World} {fr:List Q2} (H:Q0 w (Qy p m::fr)) :
  Calls Tryz.prog 167 #[pp p,.int .i64 o,.int .i64 place] w (ret fun v w'=>v = .tuple #[.int .i64 ((ZF m o place).2.1:Nat),.int .i64 ((ZF m o place).2.2.1:Nat),.int .i64 ((ZF m o place).2.2.2:Nat)]∧Q0 w' (Qy p (ZF m o place).1::fr)):=by
 refine QQ Tryz.func167 rfl (by kernel_rfl) ?_;refine Vj H ?_;refine YJ H ?_;refine Jc rfl rfl (Ch p m o place true H) ?_;rintro v w ⟨rfl,H⟩;refine ZZ H ?_;by_cases h0:Vr m o place true=0
 ·obtain⟨k,x,hv⟩:∃ k x,VL m o=some (k,x):=by
   cases hv:VL m o with
   | none=>rw[WN hv] at h0;cases h0
   | some kx=>exact⟨kx.1,kx.2,rfl⟩
  rw[K9 hv] at h0 ⊢;have rV:ZF m o place=(if x.kind.getD place.toNat 0=2 then AC m (x.to.getD place.toNat 0) else m,x.kind.getD place.toNat 0,x.to.getD place.toNat 0,0):=by unfold ZF;rw[hv];show (if Qb _ _ _ _=0 then _ else _)=_;rw[if_pos h0]
  rw[rV,h0];refine Vk H ?_;obtain⟨rfl,hx,hh,hg⟩:=WM hv;have VC:=(List.getElem?_eq_some_iff.1 hx).1;obtain⟨j,rfl,hj,hr⟩:=UP h0;rw[Int.toNat_natCast];obtain⟨t,lc,aL,cL,bO,cO,s,ptrs,q,vw,vk,vt,rest,hm,h2,hp,H,QU⟩:=UT H hx;have Uq:=hm.objs x (mem_of_getElem? hx);have U0:=Uq.kind;have OX:=Uq.to;have Zi:=BL (w:=hm) hx;obtain⟨ak,ck,rfl⟩:=QI H.drop.drop (QM _) (by decide);obtain⟨at',ct,rfl⟩:=QI H.drop.drop.drop (QM _) (by decide);replace H:=Js [2,0,0,0] 0 H;obtain⟨bk,sk,rfl,H,_,_,UV⟩:=GP H (by omega);replace H:=Js [3,0,0,0] 0 H;obtain⟨bt,st,rfl,H,_,_,R9⟩:=GP H (by omega);have Xj:=getElem?_eq_getElem (l:=x.kind) (i:=j) (by omega);have WO:=getElem?_eq_getElem (l:=x.to) (i:=j) (by omega);have GQ:x.kind.getD j 0=x.kind[j]:=by rw[getD_eq_getElem?_getD,Xj];rfl
  have BN:x.to.getD j 0=x.to[j]:=by rw[getD_eq_getElem?_getD,WO];rfl
  have KQ:=Uq.goes j;rw[BN] at KQ;rw[GQ,BN];generalize x.kind[j]=kd at *;generalize x.to[j]=td at *;refine Vb H ?_;refine Jd ?_;refine Q5 rfl (QC H rfl hp rfl ?_);refine FN H ?_;refine Jd ?_;refine Q5 rfl (QC H rfl (Gb Xj) rfl ?_);refine J0 H ?_;refine Vb H ?_;refine Jd ?_;refine Q5 rfl (QC H rfl hp rfl ?_);refine FN H ?_;refine Jd ?_;refine Q5 rfl (QC H rfl (Gb WO) rfl ?_);refine J0 H ?_;replace H:=Js [1,0,0,0] 0 H;replace H:=UV _ _ (QH x.kind) rfl H;replace H:=Js [1,0,0,0] 0 H;replace H:=R9 _ _ (QH x.to) rfl H;replace H:=Js [2,2,1,0] 0 H;replace H:=K8 hx (QU _ _ x (BJ hx hm) H);clear UV R9 QU;refine J3 H ?_;by_cases Yk:kd=2
  ·subst Yk;rw[if_pos rfl];have X5:=KQ Xj;have hy:=getElem?_eq_getElem X5;generalize m.objs[td]=y at hy;have OU:AC m td=G9 m td { y with held:=true }:=by unfold AC;rw[hy]
   rw[OU];refine Vt H ?_;obtain⟨t',lc',aL',cL',bO',cO',s',ptrs',q',vw',vk',vt',rest',V7,Yk,Ru,H,QU⟩:=UT H hy;refine Vb H ?_;refine Jd ?_;refine Q5 rfl (QC H rfl Ru rfl ?_);refine XO H ?_;intro w H;refine J2 H ?_;refine Az H ?_;refine Q3 (Jy (QU _ _ { y with held:=true } (Dy hm (by obtain⟨a,b,c,d,e⟩:=hm.objs y (mem_of_getElem? hy);exact⟨a,b,c,d,e⟩)) H) rfl fun w' H'=>⟨rfl,H'⟩)
  ·rw[if_neg Yk,show ((kd:Int) == 2)=false by simp;omega];refine Vk H ?_;refine Az H ?_;exact Q3 (Jy H rfl fun w' H'=>⟨rfl,H'⟩)
 ·have hc:ZF m o place=(m,0,0,Vr m o place true):=by
   cases hv:VL m o with
   | none=>unfold ZF;rw[hv,WN hv]
   | some kx=>
    obtain⟨k,x⟩:=kx;rw[K9 hv] at h0 ⊢;unfold ZF;rw[hv];show (if Qb _ _ _ _=0 then _ else _)=_;rw[if_neg h0]
  rw[hc,show (((Vr m o place true:Nat):Int) != 0)=true by simpa using h0];refine Vt H ?_;refine Db H ?_;exact Q3 (Jy H rfl fun w' H'=>⟨rfl,H'⟩)
def XZ:MS:=⟨[-1],[],[]⟩
theorem rY [Q4] {w:World} {fr:List Q2} (H:Q0 w fr):Calls Tryz.prog 99 #[] w (ret fun v w'=>∃ p,v=pp p∧Q0 w' (Qy p XZ::fr)):=by
 refine QQ Tryz.func99 rfl (by kernel_rfl) ?_;refine Ih H ?_;refine Jc rfl rfl (qw H) ?_;rintro v w ⟨t,rfl,H⟩;refine WG H ?_;intro b3 w H;refine J0 H ?_;have H:Q0 w (star (([]:List OC).map Zm)::pts b3 (row 58 [pp t,.slice none 0 0,.slice none 0 0])::Vi t [-1]::fr):=Q0.star.2 H;have H:=GK (E:=77) (k:=1) H;have H:Q0 w (star (([]:List Gd).map Yq)::_):=Q0.star.2 H;have H:=GK (E:=102) (k:=4) H;replace H:=Js [4,4,0,0,0,0] 0 H;have hm:VF XZ:=⟨⟨by simp[XZ],by simp[XZ]⟩,⟨by simp[XZ],fun l h=>by cases h⟩,(fun l h=>by cases h),by simp[XZ]⟩;exact Q3 (Jy (Zv (m:=XZ) hm (lc:=[]) (oc:=[]) rfl rfl H) rfl fun w' H'=>⟨_,rfl,H'⟩)
def WP (m:MS) (parent:Int):MS×Nat×Nat:=if Gh m.P parent=0 then ({ m with P:=m.P++[parent] },m.P.length,0) else (m,0,Gh m.P parent)
theorem gu [Q4] (p:Nat) (m:MS) (parent:Int) (hP:m.P.length < 100000) {w:World} {fr:List Q2} (H:Q0 w (Qy p m::fr)) :
  Calls Tryz.prog 162 #[pp p,.int .i64 parent] w (ret fun v w'=>v = .tuple #[.int .i64 ((WP m parent).2.1:Nat),.int .i64 ((WP m parent).2.2:Nat)]∧Q0 w' (Qy p (WP m parent).1::fr)):=by
 obtain⟨t,lc,oc,aL,cL,aO,cO,hm,h2,h3,Ys,Vu,H⟩:=GI H;refine QQ Tryz.func162 rfl (by kernel_rfl) ?_;refine Iq H ?_;replace H:=Js [1,0] 0 H;refine Jc rfl rfl (gm t m.P parent (by omega) hm.P.1 H) ?_;rintro v w (⟨he,rfl,H⟩|⟨he,rfl,H⟩)
 ·have hr:WP m parent=(m,0,Gh m.P parent):=by unfold WP;rw[if_neg he]
  rw[hr];refine FW H ?_;exact Q3 (Jy (Zv hm h2 h3 H.swap) rfl fun w' H'=>⟨rfl,H'⟩)
 ·have hr:WP m parent=({ m with P:=m.P++[parent] },m.P.length,0):=by unfold WP;rw[if_pos he]
  rw[hr];have V7:VF { m with P:=m.P++[parent] }:=⟨⟨by simp,by simp;omega⟩,hm.lays,hm.objs,hm.few⟩;refine FW H ?_;exact Q3 (Jy (Zv (m:={ m with P:=m.P++[parent] }) V7 h2 h3 H.swap) rfl fun w' H'=>⟨rfl,H'⟩)
def UY (m:MS) (ws:List Nat):MS×Nat×Nat:=
 match Gw ws with
 | none=>(m,0,4)
 | some l=>if 64≤m.lays.length then (m,0,5) else ({ m with lays:=m.lays++[l] },m.lays.length+1,0)
theorem rZ {ls:List Qa} {l:Qa} {n:Nat} {x:QS} (h:K6 ls n x):K6 (ls++[l]) n x:=by
 obtain⟨⟨l',a,a2⟩,b,c,d,e⟩:=h;exact⟨⟨l',by rw[getElem?_append_left (List.getElem?_eq_some_iff.1 a).1];exact a,a2⟩,b,c,d,e⟩
theorem rG [Q4] (p:Nat) (m:MS) (v:Value) (ws:List Nat) (Yr:∀ x∈ws,x < 18446744073709551616) {w:World} {fr:List Q2} (hr:YM fr v ws.length 1 (Qj ws)) (H:Q0 w (Qy p m::fr)) :
  Calls Tryz.prog 161 #[pp p,v] w (ret fun r w'=>r = .tuple #[.int .i64 ((UY m ws).2.1:Nat),.int .i64 ((UY m ws).2.2:Nat)]∧Q0 w' (Qy p (UY m ws).1::fr)):=by
 obtain⟨_,ad,cap,rfl,Ym⟩:=id hr;refine QQ Tryz.func161 rfl (by kernel_rfl) ?_;refine Mc H ?_;refine Jc rfl rfl (qv _ ws Yr hr.there H) ?_;rintro r w (⟨hd,rfl,H⟩|⟨l,vr,vq,hd,rfl,H⟩)
 ·have G5:UY m ws=(m,0,4):=by unfold UY;rw[hd]
  rw[G5];refine YC H ?_;intro b6 w H;refine J5 H ?_;intro w H;refine Ir H ?_;exact Q3 (Jy H.drop rfl fun w' H'=>⟨rfl,H'⟩)
 ·obtain⟨a1,m1,c1,rfl⟩:=VZ H;obtain⟨a2,m2,c2,rfl⟩:=VZ H.swap;replace H:=Js [2,0,0] 0 H;obtain⟨t,lc,oc,aL,cL,aO,cO,hm,h2,h3,Ys,Vu,H⟩:=GI H;refine YC H ?_;intro b6 w H;refine J5 H ?_;intro w H;refine Za H ?_;refine NK H ?_;by_cases Y3:64≤m.lays.length
  ·have G5:UY m ws=(m,0,5):=by unfold UY;rw[hd];show (if _ then _ else _)=_;rw[if_pos Y3]
   rw[G5];rw[show decide ((m.lays.length:Int)≥64)=true from decide_eq_true (by omega)];refine G7 H ?_;have H:=Zv hm h2 h3 H.drop;replace H:=Js [0] 2 H;exact Q3 (Jy H rfl fun w' H'=>⟨rfl,H'⟩)
  ·have G5:UY m ws=({ m with lays:=m.lays++[l] },m.lays.length+1,0):=by unfold UY;rw[hd];show (if _ then _ else _)=_;rw[if_neg Y3]
   rw[G5]
   have hR:YK l:=by
    unfold Gw at hd;split at hd
    ·split at hd
     ·injection hd with hd;rename_i hx;rw[← hd];exact hx.2
     ·cases hd
    ·cases hd
   have V7:VF { m with lays:=m.lays++[l] }:=⟨hm.P,⟨by show (m.lays++[l]).length≤64;simp;omega,fun x hx=>by
    rcases mem_append.1 hx with hx|hx
    ·exact hm.lays.2 x hx
    ·simp at hx;subst hx;exact hR⟩,fun x hx=>rZ (hm.objs x hx),hm.few⟩
   rw[show decide ((m.lays.length:Int)≥64)=false from decide_eq_false (by omega)];refine N0 H ?_;intro w H;refine CX H ?_;refine Jl 4 [7,10] H ?_;refine S9 H ?_;refine Jo 6 H ?_;refine DC H ?_;intro b27 w H;replace H:=Js [4,0,0,0,0] 0 H;refine Jo 7 H ?_;refine ZY H rfl rfl (by repeat first|exact .nil _|apply QY.cons rfl) rfl (by decide) (by rw[Ca];simp only[length_cons,length_nil];omega) rfl rfl ?_;intro v28 w H
   have e1:Vf lc++[.int .i64 l.fixed,.slice a1 m1 c1,.int .i64 l.record,.slice a2 m2 c2]=Vf (lc++[(.slice a1 m1 c1,.slice a2 m2 c2,l)]):=by
    rw[fp];rfl
   rw[e1] at H;have So:(lc++[((.slice a1 m1 c1:Value),(.slice a2 m2 c2:Value),l)]).length=m.lays.length+1:=by simp[Ys]
   obtain⟨a28,c28,rfl⟩:=QI H (m:=m.lays.length+1) (by rw[Ca,So]) (by decide);refine Ja 8 ?_;refine Jf 9 ?_;refine Jo 10 H ?_;refine XM H ?_;intro w H;refine Jx H ?_;refine Mw H ?_;refine J4 H ?_;replace H:=Js [8,8,5,3,3,0,2,2] 2 H
   have H1:Q0 w (star ((lc++[((.slice a1 m1 c1:Value),(.slice a2 m2 c2:Value),l)]).map Yq)::pts p (row 58 [pp t,.slice a28 (m.lays.length+1) c28,.slice aO m.objs.length cO])::Vi t m.P::QF 102 4 (.slice a28 (m.lays.length+1) c28) (Vf (lc++[(.slice a1 m1 c1,.slice a2 m2 c2,l)]))::QF 77 1 (.slice aO m.objs.length cO) (oc.map fun x=>pp x.ptr)::star (oc.map Zm)::fr):=by
    refine(Q0.pick (x:=((.slice a1 m1 c1:Value),(.slice a2 m2 c2:Value),l)) (g1:=lc) (g2:=[]) rfl).2 ?_;rw[append_nil];refine Q0.star.2 ?_;exact H
   replace H1:=Js [1,1,1,0,0,0] 0 H1;have H2:=Zv (m:={ m with lays:=m.lays++[l] }) V7 (lc:=lc++[((.slice a1 m1 c1:Value),(.slice a2 m2 c2:Value),l)]) (by rw[map_append,h2];rfl) h3 H1;exact Q3 (Jy H2 rfl fun w' H'=>⟨rfl,H'⟩)
def YO (m:MS) (region lay count:Int):Nat×Nat:=
 if Yj m.P region=false then (0,15) else if lay < 1∨(m.lays.length:Int) < lay then (0,6) else Vh ((m.lays[lay.toNat - 1]?).getD ⟨0,[],0,[]⟩) count
theorem gw [Q4] (p:Nat) (m:MS) (region lay count:Int) {w:World} {fr:List Q2} (H:Q0 w (Qy p m::fr)) :
  Calls Tryz.prog 229 #[pp p,.int .i64 region,.int .i64 lay,.int .i64 count] w (ret fun v w'=>v = .tuple #[.int .i64 ((YO m region lay count).1:Nat),.int .i64 ((YO m region lay count).2:Nat)]∧Q0 w' (Qy p m::fr)):=by
 obtain⟨t,lc,oc,aL,cL,aO,cO,hm,h2,h3,Ys,Vu,H⟩:=GI H;refine QQ Tryz.func229 rfl (by kernel_rfl) ?_;refine Iq H ?_;replace H:=Js [1,0] 0 H;refine Jc rfl rfl (Dw t m.P region H) ?_;rintro v w ⟨rfl,H⟩;generalize ZE:Yj m.P region=lv;have Q1k:=hm.lays.1;cases lv with
 | false=>
  have hr:YO m region lay count=(0,15):=by unfold YO;rw[if_pos ZE]
  rw[hr];refine Ir H ?_;exact Q3 (Jy (Zv hm h2 h3 H.swap) rfl fun w' H'=>⟨rfl,H'⟩)
 | true=>
  replace H:=Js [1,0] 0 H;refine Za H ?_;by_cases h1:lay < 1
  ·have hr:YO m region lay count=(0,6):=by unfold YO;rw[if_neg (by rw[ZE];decide),if_pos (.inl h1)]
   rw[hr];refine J9 H ?_;rw[show decide (lay < 1)=true from decide_eq_true (by omega)];refine Ib H ?_;refine IB H ?_;exact Q3 (Jy (Zv hm h2 h3 H) rfl fun w' H'=>⟨rfl,H'⟩)
  ·refine J9 H ?_;rw[show decide (lay < 1)=false from decide_eq_false (by omega)];refine B3 H ?_;by_cases Yk:(m.lays.length:Int) < lay
   ·have hr:YO m region lay count=(0,6):=by unfold YO;rw[if_neg (by rw[ZE];decide),if_pos (.inr Yk)]
    rw[hr];rw[show decide (lay > (m.lays.length:Int))=true from decide_eq_true (by omega)];refine IB H ?_;exact Q3 (Jy (Zv hm h2 h3 H) rfl fun w' H'=>⟨rfl,H'⟩)
   ·obtain⟨la,rfl⟩:∃ la:Nat,lay=((la+1:Nat):Int):=⟨lay.toNat - 1,by omega⟩;have AY:la < lc.length:=by omega
    have hy:=getElem?_eq_getElem AY;generalize lc[la]=y at hy;have CT:m.lays[la]? = some y.2.2:=by rw[← h2,getElem?_map,hy];rfl
    have hr:YO m region ((la+1:Nat):Int) count=Vh y.2.2 count:=by
     unfold YO;rw[if_neg (by rw[ZE];decide),if_neg (by omega),Int.toNat_natCast,Nat.add_sub_cancel,CT];rfl
    rw[hr];have hR:=hm.lays.2 _ (mem_of_getElem? CT);rw[show decide (((la+1:Nat):Int) > (m.lays.length:Int))=false from decide_eq_false (by omega)];refine YT H ?_;replace H:=Js [2,2,0,0,0,0] 0 H;obtain⟨bL,sL,D1,D2,R,rfl,H,hD,QJ⟩:=T8 Ys H hy;obtain⟨vr,vq,l⟩:=y;refine X6 H ?_;rw[show IntKind.i64.wrap (((la+1:Nat):Int) - 1)=(la:Int) by rw[Qh (by omega) (by omega)];omega];refine Jd ?_;refine Q5 rfl (Vy H rfl (Nz hy) rfl ?_);refine Jv ?_;refine Jc rfl rfl (qX vr vq l hR count ((hD _).there) H) ?_;rintro v w ⟨rfl,H⟩;refine FW H ?_;replace H:=QJ _ _ H;replace H:=Js [2,2,0,0,0,0] 0 H;exact Q3 (Jy (Zv hm h2 h3 H) rfl fun w' H'=>⟨rfl,H'⟩)
def XG (region lay count:Int) (n:Nat):QS:=⟨region.toNat,lay.toNat,count.toNat,List.replicate n 0,List.replicate n 0,List.replicate n 0,true,false,false⟩
def BO (m:MS) (region lay count:Int):MS:={ m with objs:=m.objs++[XG region lay count (YO m region lay count).1] }
theorem OK {m:MS} {region lay count:Int} (h:(YO m region lay count).2=0):∃ (r la c:Nat) (l:Qa),region=r∧lay=(la+1:Nat)∧count=c∧Yj m.P region=true∧m.lays[la]? = some l∧YO m region lay count=Vh l c∧Vh l c=(l.fixed+c*l.record,0)∧l.fixed+c*l.record < 8192:=by
 unfold YO at h ⊢;by_cases h1:Yj m.P region=false
 ·rw[if_pos h1] at h;cases h
 ·rw[if_neg h1] at h ⊢;by_cases h2:lay < 1∨(m.lays.length:Int) < lay
  ·rw[if_pos h2] at h;cases h
  ·rw[if_neg h2] at h ⊢;have h3:Yj m.P region=true:=by simpa using h1
   have h4:0 < region:=by
    unfold Yj at h3;exact(of_decide_eq_true h3).1
   obtain⟨la,rfl⟩:∃ la:Nat,lay=((la+1:Nat):Int):=⟨lay.toNat - 1,by omega⟩;have AY:la < m.lays.length:=by omega
   have hl:=getElem?_eq_getElem AY;generalize m.lays[la]=l at hl;rw[Int.toNat_natCast,Nat.add_sub_cancel,hl] at h ⊢;replace h:(Vh l count).2=0:=h;unfold Vh at h;split at h
   ·cases h
   ·rename_i hc;split at h
    ·cases h
    ·rename_i hs;obtain⟨c,rfl⟩:∃ c:Nat,count=c:=⟨count.toNat,by omega⟩;rw[Int.toNat_natCast] at hs;refine⟨region.toNat,la,c,l,by omega,rfl,rfl,h3,hl,rfl,?_,by omega⟩;unfold Vh;rw[if_neg hc,Int.toNat_natCast,if_neg hs]
theorem TZ {m:MS} {region lay count:Int} (h:(YO m region lay count).2=0) (hm:VF m) (hf:m.objs.length < 100000):VF (BO m region lay count):=by
 obtain⟨r,la,c,l,rfl,rfl,rfl,hl,AY,Yt,Va,Q6⟩:=OK h;have Qw:(m.objs++[XG r ((la+1:Nat):Int) c (YO m r ((la+1:Nat):Int) c).1]).length=m.objs.length+1:=by simp
 refine⟨hm.P,hm.lays,fun x hx=>?_,by show (m.objs++[_]).length≤_;rw[Qw];omega⟩;show K6 m.lays (m.objs++[_]).length x;rw[Qw]
 rcases mem_append.1 hx with hx|hx
 ·obtain⟨a,b,c,d,e⟩:=hm.objs x hx;exact⟨a,b,c,d,fun p hp=>by have:=e p hp;omega⟩
 ·simp only[mem_singleton] at hx;subst hx;rw[Yt,Va];refine⟨⟨l,?_,hm.lays.2 l (mem_of_getElem? AY),?_⟩,?_,rfl,rfl,?_⟩
  ·show m.lays[(((la+1:Nat):Int).toNat) - 1]? = _;rw[Int.toNat_natCast];exact AY
  ·show Vh l ((((c:Nat):Int).toNat:Nat):Int)=((List.replicate (l.fixed+c*l.record) 0).length,0);rw[Int.toNat_natCast,Va,length_replicate]
  ·show 1≤((la+1:Nat):Int).toNat;omega
  ·intro p hp;have:(List.replicate (l.fixed+c*l.record) 0)[p]? = some 2:=hp;rw[getElem?_replicate] at this;split at this <;> cases this
theorem HV [Q4] {w:World} {p t bO bW bK bT n rr la c:Nat} {m:MS} {lc:List Gd} {oc:List OC} {aL aS:Option Addr} {cL cS:Nat} {fr:List Q2} (V7:VF { m with objs:=m.objs++[XG (rr:Int) ((la+1:Nat):Int) (c:Int) n] }) (h2:lc.map (·.2.2)=m.lays) (h3:oc.map (·.ob)=m.objs) (Ys:lc.length=m.lays.length)
  (H : Q0 w (pts bO (row 76 [.int .i64 rr, .int .i64 ((la + 1 : Nat) : Int), .int .i64 c, .slice (some ⟨bW, 0, none⟩) n n, .slice (some ⟨bK, 0, none⟩) n n, .slice (some ⟨bT, 0, none⟩) n n, .bool true, .bool false, .bool false]) :: UL (.slice (some ⟨bW, 0, none⟩) n n) (List.replicate n 0) :: NL (.slice (some ⟨bK, 0, none⟩) n n) (List.replicate n 0) :: NL (.slice (some ⟨bT, 0, none⟩) n n) (List.replicate n 0) :: star (oc.map Zm) ::
   pts p (row 58 [pp t,.slice aL m.lays.length cL,.slice aS (m.objs.length+1) cS])::Vi t m.P::QF 102 4 (.slice aL m.lays.length cL) (Vf lc)::star (lc.map Yq)::QF 77 1 (.slice aS (m.objs.length+1) cS) ((oc.map fun x=>pp x.ptr)++[pp bO])::fr)) :
  Q0 w (Qy p { m with objs:=m.objs++[XG (rr:Int) ((la+1:Nat):Int) (c:Int) n] }::fr):=by
 have H1:Q0 w (star ((oc++[(⟨bO,.slice (some ⟨bW,0,none⟩) n n,.slice (some ⟨bK,0,none⟩) n n,.slice (some ⟨bT,0,none⟩) n n,XG (rr:Int) ((la+1:Nat):Int) (c:Int) n⟩:OC)]).map Zm)::pts p (row 58 [pp t,.slice aL m.lays.length cL,.slice aS (m.objs.length+1) cS])::Vi t m.P::QF 102 4 (.slice aL m.lays.length cL) (Vf lc)::star (lc.map Yq)::QF 77 1 (.slice aS (m.objs.length+1) cS) ((oc.map fun x=>pp x.ptr)++[pp bO])::fr):=by
  refine(Q0.pick (g1:=oc) (g2:=[]) rfl).2 ?_;rw[append_nil];exact Q0.star.2 H
 replace H1:=Js [1,1,1,1,1,0] 0 H1;exact Zv (m:={ m with objs:=m.objs++[XG (rr:Int) ((la+1:Nat):Int) (c:Int) n] }) (oc:=oc++[(⟨bO,.slice (some ⟨bW,0,none⟩) n n,.slice (some ⟨bK,0,none⟩) n n,.slice (some ⟨bT,0,none⟩) n n,XG (rr:Int) ((la+1:Nat):Int) (c:Int) n⟩:OC)]) V7 h2 (by rw[map_append,h3];rfl) (by rw[map_append];exact H1)
theorem rU [Q4] (p:Nat) (m:MS) (region lay count:Int) (Yt:(YO m region lay count).2=0) (hf:m.objs.length < 100000) {w:World} {fr:List Q2} (H:Q0 w (Qy p m::fr)) :
  Calls Tryz.prog 231 #[pp p,.int .i64 region,.int .i64 lay,.int .i64 count] w (ret fun v w'=>v = .tuple #[]∧Q0 w' (Qy p (BO m region lay count)::fr)):=by
 refine QQ Tryz.func231 rfl (by kernel_rfl) ?_;refine A2 H ?_;refine Jc rfl rfl (gw p m region lay count H) ?_;rintro v w ⟨rfl,H⟩;have hr:BO m region lay count={ m with objs:=m.objs++[XG region lay count (YO m region lay count).1] }:=rfl;rw[hr];obtain⟨t,lc,oc,aL,cL,aO,cO,hm,h2,h3,Ys,Vu,H⟩:=GI H;have V7:VF _:=TZ Yt hm hf;rw[hr] at V7;obtain⟨rr,la,c,l,rfl,rfl,rfl,ZE,AY,Gy,Va,Q6⟩:=OK Yt;have K3:(YO m (rr:Int) ((la+1:Nat):Int) (c:Int)).1=l.fixed+c*l.record:=by rw[Gy,Va]
 rw[Gy,Va] at V7 ⊢;generalize l.fixed+c*l.record=n at *
 have z1:Yl (VA (.int .u64 0)) n=Qj (List.replicate n 0):=by
  rw[show VA (.int .u64 0)=[.int .u64 0] from rfl,DR];simp[Qj]
 have z2:Yl (VA (.int .i64 0)) n=QH (List.replicate n 0):=by
  rw[show VA (.int .i64 0)=[.int .i64 0] from rfl,DR];simp[QH]
 refine Mf H ?_;intro w H;refine CX H ?_;refine Jl 4 [17,20] H ?_;refine Ja 5 ?_;refine DP H ?_;refine Ja 10 ?_;refine Ja 12 ?_;refine oD 9 11 13 rfl rfl rfl (by kernel_rfl) (by repeat first|exact .nil|refine .cons (.inr H.at) ?_|refine .cons (.inr H.mp) ?_|refine .cons (.inl (by kernel_rfl)) ?_) (Q8.none rfl) (Q8.none rfl) (Q8.none rfl) (Gp H rfl rfl (by decide) (by omega) rfl ?_) (Gp H rfl rfl (by decide) (by omega) rfl ?_) (Gp H rfl rfl (by decide) (by omega) rfl ?_)
 ·intro bW w H;rw[z1] at H;refine Jw 11 13 H rfl rfl (Gp H rfl rfl (by decide) (by omega) rfl ?_) (Gp H rfl rfl (by decide) (by omega) rfl ?_)
  ·intro bK w H;rw[z2] at H;refine Jo 13 H ?_;refine Gp H rfl rfl (by decide) (by omega) rfl ?_;intro bT w H;rw[z2] at H;replace H:=Js [2,1,0] 0 H;refine FO H ?_;intro bO w H
   refine FP H ?_;intro bS w H;replace H:=Js [9,0,0,0,0,0,0,0,0,0,0] 0 H;refine Jo 17 H ?_;refine ZY H rfl rfl (by repeat first|exact .nil _|apply QY.cons rfl) rfl (by decide) (by simp;omega) rfl rfl ?_;intro vS w H;obtain⟨aS,cS,rfl⟩:=QI H (m:=m.objs.length+1) (by simp[Vu]) (by decide);refine FS H ?_;intro w H;refine Jx H ?_;replace H:=Js [2,2,2,2,6,2,2,2,2,0] 1 H;exact Z2 _ (.inl rfl) (HV V7 h2 h3 Ys H) rfl fun w' H'=>⟨rfl,H'⟩
  ·intro bT w H;rw[z2] at H;refine Jo 11 H ?_;refine Gp H rfl rfl (by decide) (by omega) rfl ?_;intro bK w H;rw[z2] at H;replace H:=Js [2,0,0] 0 H;refine FO H ?_;intro bO w H
   refine FP H ?_;intro bS w H;replace H:=Js [9,0,0,0,0,0,0,0,0,0,0] 0 H;refine Jo 17 H ?_;refine ZY H rfl rfl (by repeat first|exact .nil _|apply QY.cons rfl) rfl (by decide) (by simp;omega) rfl rfl ?_;intro vS w H;obtain⟨aS,cS,rfl⟩:=QI H (m:=m.objs.length+1) (by simp[Vu]) (by decide);refine FS H ?_;intro w H;refine Jx H ?_;replace H:=Js [2,2,2,2,6,2,2,2,2,0] 1 H;exact Z2 _ (.inl rfl) (HV V7 h2 h3 Ys H) rfl fun w' H'=>⟨rfl,H'⟩
 ·intro bK w H;rw[z2] at H;refine Jw 9 13 H rfl rfl (Gp H rfl rfl (by decide) (by omega) rfl ?_) (Gp H rfl rfl (by decide) (by omega) rfl ?_)
  ·intro bW w H;rw[z1] at H;refine Jo 13 H ?_;refine Gp H rfl rfl (by decide) (by omega) rfl ?_;intro bT w H;rw[z2] at H;replace H:=Js [1,1,0] 0 H;refine FO H ?_;intro bO w H
   refine FP H ?_;intro bS w H;replace H:=Js [9,0,0,0,0,0,0,0,0,0,0] 0 H;refine Jo 17 H ?_;refine ZY H rfl rfl (by repeat first|exact .nil _|apply QY.cons rfl) rfl (by decide) (by simp;omega) rfl rfl ?_;intro vS w H;obtain⟨aS,cS,rfl⟩:=QI H (m:=m.objs.length+1) (by simp[Vu]) (by decide);refine FS H ?_;intro w H;refine Jx H ?_;replace H:=Js [2,2,2,2,6,2,2,2,2,0] 1 H;exact Z2 _ (.inl rfl) (HV V7 h2 h3 Ys H) rfl fun w' H'=>⟨rfl,H'⟩
  ·intro bT w H;rw[z2] at H;refine Jo 9 H ?_;refine Gp H rfl rfl (by decide) (by omega) rfl ?_;intro bW w H;rw[z1] at H;replace H:=Js [0,1,0] 0 H;refine FO H ?_;intro bO w H
   refine FP H ?_;intro bS w H;replace H:=Js [9,0,0,0,0,0,0,0,0,0,0] 0 H;refine Jo 17 H ?_;refine ZY H rfl rfl (by repeat first|exact .nil _|apply QY.cons rfl) rfl (by decide) (by simp;omega) rfl rfl ?_;intro vS w H;obtain⟨aS,cS,rfl⟩:=QI H (m:=m.objs.length+1) (by simp[Vu]) (by decide);refine FS H ?_;intro w H;refine Jx H ?_;replace H:=Js [2,2,2,2,6,2,2,2,2,0] 1 H;exact Z2 _ (.inl rfl) (HV V7 h2 h3 Ys H) rfl fun w' H'=>⟨rfl,H'⟩
 ·intro bT w H;rw[z2] at H;refine Jw 9 11 H rfl rfl (Gp H rfl rfl (by decide) (by omega) rfl ?_) (Gp H rfl rfl (by decide) (by omega) rfl ?_)
  ·intro bW w H;rw[z1] at H;refine Jo 11 H ?_;refine Gp H rfl rfl (by decide) (by omega) rfl ?_;intro bK w H;rw[z2] at H;replace H:=Js [1,0,0] 0 H;refine FO H ?_;intro bO w H
   refine FP H ?_;intro bS w H;replace H:=Js [9,0,0,0,0,0,0,0,0,0,0] 0 H;refine Jo 17 H ?_;refine ZY H rfl rfl (by repeat first|exact .nil _|apply QY.cons rfl) rfl (by decide) (by simp;omega) rfl rfl ?_;intro vS w H;obtain⟨aS,cS,rfl⟩:=QI H (m:=m.objs.length+1) (by simp[Vu]) (by decide);refine FS H ?_;intro w H;refine Jx H ?_;replace H:=Js [2,2,2,2,6,2,2,2,2,0] 1 H;exact Z2 _ (.inl rfl) (HV V7 h2 h3 Ys H) rfl fun w' H'=>⟨rfl,H'⟩
  ·intro bK w H;rw[z2] at H;refine Jo 9 H ?_;refine Gp H rfl rfl (by decide) (by omega) rfl ?_;intro bW w H;rw[z1] at H;replace H:=Js [0,0,0] 0 H;refine FO H ?_;intro bO w H
   refine FP H ?_;intro bS w H;replace H:=Js [9,0,0,0,0,0,0,0,0,0,0] 0 H;refine Jo 17 H ?_;refine ZY H rfl rfl (by repeat first|exact .nil _|apply QY.cons rfl) rfl (by decide) (by simp;omega) rfl rfl ?_;intro vS w H;obtain⟨aS,cS,rfl⟩:=QI H (m:=m.objs.length+1) (by simp[Vu]) (by decide);refine FS H ?_;intro w H;refine Jx H ?_;replace H:=Js [2,2,2,2,6,2,2,2,2,0] 1 H;exact Z2 _ (.inl rfl) (HV V7 h2 h3 Ys H) rfl fun w' H'=>⟨rfl,H'⟩
@[reducible] def YR (e:Q9):List Value:=[.int .i64 e.addr,.int .i64 e.region,.bool e.held,.bool e.pinned]
def Y9 (t:QW):List Value:=match t.ent with
 | none=>[.int .i64 t.gen,.bool false,.int .i64 0,.int .i64 0,.bool false,.bool false]
 | some e=>[.int .i64 t.gen,.bool true,.int .i64 e.addr,.int .i64 e.region,.bool e.held,.bool e.pinned]
theorem ZH (t:QW):(Y9 t).length=6:=by unfold Y9;split <;> rfl
theorem rX (t:QW):(Y9 t)[0]? = some (.int .i64 t.gen):=by unfold Y9;split <;> rfl
theorem rK (t:QW):(Y9 t)[1]? = some (.bool t.ent.isSome):=by
 unfold Y9;split
 ·rename_i h;rw[h];rfl
 ·rename_i h;rw[h];rfl
def busy (t:QW):Bool:=t.ent.isSome || t.gen == 255
def ZI (ts:List QW):Nat:=(ts.filter fun t=>t.ent.isNone && t.gen == 255).length
def Ur (ts:List QW):Nat:=(ts.filter busy).length
structure XU (ts:List QW) (x:Nat):Prop where
 bits:Gu ts.length x
 bit:∀ (i:Nat) (t:QW),ts[i]? = some t→x.testBit i=busy t
 gen:∀ (i:Nat) (t:QW),ts[i]? = some t→t.gen≤255
theorem rR {α:Type} {ts:List α} {f:α→Bool} {x:Nat} (h:∀ (i:Nat) (t:α),ts[i]? = some t→x.testBit i=f t):Zk ts.length x=(ts.filter f).length:=by
 unfold Zk
 have e2:∀ (l:List α) (k:Nat),(∀ (i:Nat) (t:α),l[i]? = some t→x.testBit (k+i)=f t)→((List.range' k l.length).filter fun i=>x.testBit i).length=(l.filter f).length:=by
  intro l
  induction l with
  | nil=>intro k _;rfl
  | cons a l ih=>
   intro k hk;have h0:=hk 0 a rfl;have hr:=ih (k+1) (fun i t ht=>by rw[show k+1+i=k+(i+1) by omega];exact hk (i+1) t (by simpa using ht));rw[length_cons,range'_succ,filter_cons,filter_cons];rw[Nat.add_zero] at h0;rw[h0];split
   ·simp[hr]
   ·exact hr
 rw[range_eq_range'];exact e2 ts 0 (fun i t ht=>by rw[Nat.zero_add];exact h i t ht)
theorem XU.cnt {ts:List QW} {x:Nat} (h:XU ts x):Zk ts.length x=Ur ts:=rR h.bit
def Qr (p:Nat) (ts:List QW):Q2:=ex fun q:Value×Nat×Nat=>star [prop (XU ts q.2.2),pts p (row 144 [q.1,pp q.2.1,.int .i64 (ZI ts)]),QF 199 6 q.1 (ts.flatMap Y9),Ga q.2.1 ts.length q.2.2]
theorem BP [Q4] {w:World} {p:Nat} {ts:List QW} {l:List Q2} (H:Q0 w (Qr p ts::l)):∃ b c s u x,XU ts x∧ts.length≤c ∧
  Q0 w (pts p (row 144 [.slice (some ⟨b,0,none⟩) ts.length c,pp u,.int .i64 (ZI ts)])::pts b (row 199 (ts.flatMap Y9++s))::Ga u ts.length x::l) ∧
  ∀ w' l' ts' x',ts'.length=ts.length→ZI ts'=ZI ts→XU ts' x'→Q0 w' (pts p (row 144 [.slice (some ⟨b,0,none⟩) ts.length c,pp u,.int .i64 (ZI ts)])::pts b (row 199 (ts'.flatMap Y9++s))::Ga u ts.length x'::l')→Q0 w' (Qr p ts'::l'):=by
 obtain⟨⟨v,u,x⟩,H⟩:=Q0.ex.1 H;have H:=Q0.star.1 H;obtain⟨h,H⟩:=Q0.prop.1 H;replace H:Q0 w (pts p (row 144 [v,pp u,.int .i64 (ZI ts)])::QF 199 6 v (ts.flatMap Y9)::Ga u ts.length x::l):=H;obtain⟨a,c,rfl⟩:=QI H.drop (Xx ZH ts) (by decide);obtain⟨b,s,rfl,H,Dk,Yz,QU⟩:=GP H.swap h.bits.pos;refine⟨b,c,s,u,x,h,Dk,H.swap,fun w' l' ts' x' e1 e2 h' H'=>?_⟩;have H':=QU w' _ (ts'.flatMap Y9) (by rw[Xx ZH,Xx ZH,e1]) H'.swap;refine Q0.ex.2 ⟨(.slice (some ⟨b,0,none⟩) ts.length c,u,x'),Q0.star.2 (Q0.prop.2 ⟨h',?_⟩)⟩;show Q0 w' (pts p (row 144 [_,pp u,.int .i64 (ZI ts')])::QF 199 6 _ _::Ga u ts'.length x'::l');rw[e1,e2];exact H'.swap
theorem rW [Q4] (n:Nat) (h1:1≤n) (h2:n≤63) {w:World} {fr:List Q2} (H:Q0 w fr) :
  Calls Tryz.prog 81 #[.int .i64 n] w (ret fun v w'=>∃ p,v = .tuple #[pp p,.int .i64 0]∧Q0 w' (Qr p (List.replicate n ⟨0,none⟩)::fr)):=by
 refine QQ Tryz.func81 rfl (by kernel_rfl) ?_;refine WR H ?_;rw[show decide ((n:Int) < 1)=false from decide_eq_false (by omega)];refine KO H ?_;rw[show decide ((n:Int) > 4096)=false from decide_eq_false (by omega)];refine YT H ?_;refine Z6 H ?_;refine Jc rfl rfl (fe n (by omega) (by omega) H) ?_;clear H;rintro v w ⟨u,rfl,H⟩;refine Gt H ?_;refine Z6 H ?_;refine Q5 rfl (Gp H rfl rfl (by decide) (by omega) rfl ?_);clear H;intro b18 w H;refine Jv ?_;refine WG H ?_;clear H;intro b21 w H;refine J4 H ?_
 have hz:Yl (VA (.agg #[.int .i64 0,.bool false,.int .i64 0,.int .i64 0,.bool false,.bool false])) n=(List.replicate n (⟨0,none⟩:QW)).flatMap Y9:=by
  clear H;clear h1 h2
  induction n with
  | zero=>rfl
  | succ n ih=>show _++Yl _ n=_;rw[ih,replicate_succ,flatMap_cons];rfl
 have Qw:(List.replicate n (⟨0,none⟩:QW)).length=n:=by simp
 have rA:ZI (List.replicate n (⟨0,none⟩:QW))=0:=by
  unfold ZI;rw[filter_eq_nil_iff.2 (fun t ht=>by rw[eq_of_mem_replicate ht];simp)];rfl
 have QK:XU (List.replicate n (⟨0,none⟩:QW)) 0:=by
  refine⟨by rw[Qw];exact⟨by omega,h2,Nat.two_pow_pos _⟩,fun i t ht=>?_,fun i t ht=>?_⟩
  ·rw[eq_of_mem_replicate (mem_of_getElem? ht),Nat.zero_testBit];rfl
  ·rw[eq_of_mem_replicate (mem_of_getElem? ht)];simp
 have rB:BM u n (List.replicate ((n+63) / 64) 0) 0=Ga u n 0:=by
  rw[show (n+63) / 64=1 by omega]
  have:Zk n 0=0:=by
   unfold Zk;rw[filter_eq_nil_iff.2 (fun i _=>by simp)];rfl
  show BM u n [0] 0=BM u n [0] (Zk n 0);rw[this]
 rw[hz,rB] at H;refine Q3 (Jy H rfl fun w' H'=>⟨_,rfl,Q0.ex.2 ⟨(.slice (some ⟨b18,0,none⟩) n n,u,0),Q0.star.2 (Q0.prop.2 ⟨QK,?_⟩)⟩⟩);show Q0 w' (pts b21 (row 144 [_,pp u,.int .i64 (ZI (List.replicate n (⟨0,none⟩:QW)))])::QF 199 6 _ _::Ga u (List.replicate n (⟨0,none⟩:QW)).length 0::fr);rw[rA,Qw];exact H'
theorem gz [Q4] (p:Nat) (ts:List QW) {w:World} {fr:List Q2} (H:Q0 w (Qr p ts::fr)) :
  Calls Tryz.prog 90 #[pp p] w (ret fun v w'=>v = .int .i64 ((ts.length - Ur ts:Nat):Int)∧Q0 w' (Qr p ts::fr)):=by
 obtain⟨b,c,s,u,x,QK,hc,H,QU⟩:=BP H;have hb:=QK.bits.le;have TG:=QK.cnt;have VS:=Np ts.length x;refine QQ Tryz.func90 rfl (by kernel_rfl) ?_;refine Mk H ?_;intro w H;refine WX H ?_;refine Ap 4 rfl (Q8.none rfl) rfl (by kernel_rfl) ?_;refine F9 H ?_;refine Jl 8 [9] H ?_;replace H:=Js [2,0,0] 0 H;refine Jo 9 H ?_;refine Jk rfl rfl (SJ u _ _ _ H) ?_;rintro v w ⟨rfl,H⟩;refine Mj H ?_;replace H:=Js [1,1,0] 0 H;refine Q3 (Jy (QU _ _ ts x rfl rfl QK H) rfl fun w' H'=>⟨?_,H'⟩);show Value.int .i64 (IntKind.i64.wrap ((ts.length:Int) - (Zk ts.length x:Int)))=_;rw[Qh (by omega) (by omega),← TG];congr 1;omega
@[reducible] def GJ (i g:Int):Value := .agg #[.int .i64 i,.int .i64 g]
theorem rC {ts:List QW} {i g:Int} (h:Ql ts i g=none):i < 0∨(ts.length:Int)≤i∨∃ (k:Nat) (t:QW),i=k∧ts[k]? = some t∧(t.ent=none∨(t.ent.isSome=true∧(t.gen:Int)≠g)):=by
 by_cases h0:i < 0
 ·exact .inl h0
 by_cases h1:(ts.length:Int)≤i
 ·exact .inr (.inl h1)
 refine .inr (.inr ?_);obtain⟨k,rfl⟩:∃ k:Nat,i=k:=⟨i.toNat,by omega⟩;have hk:=getElem?_eq_getElem (l:=ts) (i:=k) (by omega);generalize ts[k]'(by omega)=t at hk;refine⟨k,t,rfl,hk,?_⟩;obtain⟨n,e⟩:=t;cases e with
 | none=>exact .inl rfl
 | some e=>
  refine .inr ⟨rfl,fun hg=>?_⟩;rw[(Z1 (k:=k) (e:=e)).2 ⟨n,rfl,hg.symm,hk⟩] at h;cases h
theorem OR [Q4] (p b c u:Nat) (go:Value) (KQ:go.oneCell'=true) (ts:List QW) (s:List Value) (Qw:ts.length≤63) (i g:Int) {w:World} {fr:List Q2} (H:Q0 w (pts p (row 144 [.slice (some ⟨b,0,none⟩) ts.length c,pp u,go])::pts b (row 199 (ts.flatMap Y9++s))::fr)) :
  Calls Tryz.prog 132 #[pp p,GJ i g] w (ret fun v w'=>v=(match Ql ts i g with|some (k,_) => .tuple #[.pointer (some ⟨b,k*6,none⟩),.int .i64 0]|none => .tuple #[.pointer none,.int .i64 8]) ∧
   Q0 w' (pts p (row 144 [.slice (some ⟨b,0,none⟩) ts.length c,pp u,go])::pts b (row 199 (ts.flatMap Y9++s))::fr)):=by
 refine QQ Tryz.func132 rfl (by kernel_rfl) ?_;refine J8 H ?_;intro b3 w H;refine N2 H ?_;cases hL:Ql ts i g with
 | some q=>
  obtain⟨k,e⟩:=q;obtain⟨n,rfl,rfl,hk⟩:=Z1.1 hL;have VC:k < ts.length:=(List.getElem?_eq_some_iff.1 hk).1;have c1:(ts.flatMap Y9++s)[k*6+1]? = some (.bool true):=Ks ZH hk rfl;have c0:(ts.flatMap Y9++s)[k*6+0]? = some (.int .i64 n):=Ks ZH hk rfl;have ei:0+((k:Nat):Int).toNat*6=k*6:=by simp
  refine J1 H ?_;intro w H;refine C8 H ?_;rw[show decide ((k:Int) < 0)=false from decide_eq_false (by omega)];refine Ja 3 ?_;refine C9 H ?_;refine FT H ?_;refine Jl 9 [] H ?_;refine Ap 10 rfl (Q8.of rfl rfl rfl) rfl (by kernel_rfl) ?_;refine Ja 11 ?_;rw[show decide ((k:Int)≥(ts.length:Int))=false from decide_eq_false (by omega)];refine Ja 12 ?_;refine Ja 13 ?_;refine Ja 14 ?_;refine Ja 15 ?_;refine Jf 16 ?_;refine Jl 17 [] H ?_;refine Jf 18 ?_;refine Jl 19 [] H ?_;refine Ji 20 ?_;rw[ei];refine Jf 21 ?_;refine Y2 22 [] H rfl (Q8.of rfl rfl rfl) rfl c1 (by kernel_rfl) ?_;refine Ja 23 ?_;refine Ja 24 ?_;refine Ja 25 ?_;refine Ja 26 ?_;refine Ja 27 ?_;refine Jf 28 ?_;refine Jl 29 [] H ?_;refine Jf 30 ?_;refine Jl 31 [] H ?_;refine Ji 32 ?_;rw[ei];refine Jf 33 ?_;refine Y2 34 [] H rfl (Q8.of rfl rfl rfl) rfl c0 (by kernel_rfl) ?_;refine Jf 35 ?_;refine Jl 36 [] H ?_;refine Ja 37 ?_;rw[show (((n:Nat):Int) != (n:Int))=false by simp];refine Ja 38 ?_;refine Ax H ?_;refine J1 H ?_;intro w H;refine WX H ?_;refine C9 H ?_;refine Ji 6 ?_;rw[ei];refine Df H ?_;refine Jx H ?_;exact Q3 (Jy H.drop rfl fun w' H'=>⟨rfl,H'⟩)
 | none=>
  rcases rC hL with h0|h1|⟨k,t,rfl,hk,ht⟩
  ·refine J1 H ?_;intro w H;refine C8 H ?_;rw[show decide (i < 0)=true from decide_eq_true (by omega)];refine Ja 3 ?_;refine NR H ?_;refine Dg H ?_;refine NW H ?_;refine NA H ?_;exact Q3 (Jy H.drop rfl fun w' H'=>⟨rfl,H'⟩)
  ·by_cases h0:i < 0
   ·refine J1 H ?_;intro w H;refine C8 H ?_;rw[show decide (i < 0)=true from decide_eq_true (by omega)];refine Ja 3 ?_;refine NR H ?_;refine Dg H ?_;refine NW H ?_;refine NA H ?_;exact Q3 (Jy H.drop rfl fun w' H'=>⟨rfl,H'⟩)
   ·refine J1 H ?_;intro w H;refine C8 H ?_;rw[show decide (i < 0)=false from decide_eq_false (by omega)];refine Ja 3 ?_;refine C9 H ?_;refine FT H ?_;refine Jl 9 [] H ?_;refine Ap 10 rfl (Q8.of rfl rfl rfl) rfl (by kernel_rfl) ?_;refine Ja 11 ?_;rw[show decide (i≥(ts.length:Int))=true from decide_eq_true (by omega)];refine Dg H ?_;refine NW H ?_;refine NA H ?_;exact Q3 (Jy H.drop rfl fun w' H'=>⟨rfl,H'⟩)
  ·have VC:k < ts.length:=(List.getElem?_eq_some_iff.1 hk).1;have c1:(ts.flatMap Y9++s)[k*6+1]? = some (.bool t.ent.isSome):=Ks ZH hk (rK t);have c0:(ts.flatMap Y9++s)[k*6+0]? = some (.int .i64 t.gen):=Ks ZH hk (rX t);have ei:0+((k:Nat):Int).toNat*6=k*6:=by simp
   refine J1 H ?_;intro w H;refine C8 H ?_;rw[show decide ((k:Int) < 0)=false from decide_eq_false (by omega)];refine Ja 3 ?_;refine C9 H ?_;refine FT H ?_;refine Jl 9 [] H ?_;refine Ap 10 rfl (Q8.of rfl rfl rfl) rfl (by kernel_rfl) ?_;refine Ja 11 ?_;rw[show decide ((k:Int)≥(ts.length:Int))=false from decide_eq_false (by omega)];refine Ja 12 ?_;refine Ja 13 ?_;refine Ja 14 ?_;refine Ja 15 ?_;refine Jf 16 ?_;refine Jl 17 [] H ?_;refine Jf 18 ?_;refine Jl 19 [] H ?_;refine Ji 20 ?_;rw[ei];refine Jf 21 ?_;refine Y2 22 [] H rfl (Q8.of rfl rfl rfl) rfl c1 (by kernel_rfl) ?_
   rcases ht with ht|⟨ht,QA⟩
   ·rw[ht];refine Ja 23 ?_;refine NA H ?_;exact Q3 (Jy H.drop rfl fun w' H'=>⟨rfl,H'⟩)
   ·rw[ht];refine Ja 23 ?_;refine Ja 24 ?_;refine Ja 25 ?_;refine Ja 26 ?_;refine Ja 27 ?_;refine Jf 28 ?_;refine Jl 29 [] H ?_;refine Jf 30 ?_;refine Jl 31 [] H ?_;refine Ji 32 ?_;rw[ei];refine Jf 33 ?_;refine Y2 34 [] H rfl (Q8.of rfl rfl rfl) rfl c0 (by kernel_rfl) ?_;refine Jf 35 ?_;refine Jl 36 [] H ?_;refine Ja 37 ?_;rw[show (((t.gen:Nat):Int) != g)=true by simpa using QA];refine Ja 38 ?_;refine Jx H ?_
    repeat refine Q7 ?_
    refine YU rfl ?_
    repeat refine Q7 ?_
    refine QG ?_;refine Jv ?_;refine Jv ?_;refine QX ?_;exact Q3 (Jy H.drop rfl fun w' H'=>⟨rfl,H'⟩)
theorem OW {ts:List QW} {k:Nat} {t t':QW} (hk:ts[k]? = some t) (hb:(t'.ent.isNone && t'.gen == 255)=(t.ent.isNone && t.gen == 255)):ZI (ts.set k t')=ZI ts:=by
 unfold ZI;rw[set_split hk]
 conv=>rhs;rw[split_at hk]
 rw[filter_append,filter_append,filter_cons,filter_cons,hb];split <;> simp
theorem XU.set {ts:List QW} {x k:Nat} {t t':QW} (h:XU ts x) (hk:ts[k]? = some t) (hb:busy t'=busy t) (hg:t'.gen≤255):XU (ts.set k t') x:=by
 refine⟨by rw[length_set];exact h.bits,fun i u hu=>?_,fun i u hu=>?_⟩
 ·rcases VE hu with ⟨rfl,rfl,_⟩|⟨_,hu⟩
  ·rw[hb];exact h.bit _ _ hk
  ·exact h.bit _ _ hu
 ·rcases VE hu with ⟨rfl,rfl,_⟩|⟨_,hu⟩
  ·exact hg
  ·exact h.gen _ _ hu
theorem rD [Q4] (p:Nat) (ts:List QW) (i g:Int) {w:World} {fr:List Q2} (H:Q0 w (Qr p ts::fr)) :
  Calls Tryz.prog 68 #[pp p,GJ i g] w (ret fun v w'=>v=(match Ql ts i g with|some (_,e) => .tuple #[.agg (YR e).toArray,.int .i64 0]|none => .tuple #[.agg #[.int .i64 0,.int .i64 0,.bool false,.bool false],.int .i64 8])∧Q0 w' (Qr p ts::fr)):=by
 obtain⟨b,c,s,u,x,QK,hc,H,QU⟩:=BP H;refine QQ Tryz.func68 rfl (by kernel_rfl) ?_;refine J8 H ?_;intro b3 w H;refine VO H ?_;intro b4 w H;refine B5 H ?_;replace H:=Js [2,2,0,0,0] 0 H;refine Jc rfl rfl (OR p b c u _ rfl ts s QK.bits.le i g H) ?_;rintro v w ⟨rfl,H⟩;cases hL:Ql ts i g with
 | some q=>
  obtain⟨k,e⟩:=q;obtain⟨n,rfl,rfl,hk⟩:=Z1.1 hL;have Qv:QY (ts.flatMap Y9++s) (k*6+2) 4 (YR e):=C7 (vs:=YR e) ZH hk (by repeat first|exact .nil _|apply QY.cons rfl);refine UI H ?_;refine NB H ?_;refine Q5 rfl (Vy H rfl Qv rfl ?_);refine J5 H ?_;intro w H;refine J0 H ?_;replace H:=Js [2,0,0,1] 1 H;exact Q3 (Jz H (fun w' H' => .cellN H' rfl (by repeat first|exact .nil _|apply QY.cons rfl) (.tmp .nil)) fun w' H'=>⟨rfl,QU _ _ ts x rfl rfl QK H'.drop⟩)
 | none=>
  refine Rk H ?_;refine Is H ?_;intro w H;refine J0 H ?_;replace H:=Js [2,0,0,1] 1 H;exact Q3 (Jz H (fun w' H' => .cellN H' rfl (by repeat first|exact .nil _|apply QY.cons rfl) (.tmp .nil)) fun w' H'=>⟨rfl,QU _ _ ts x rfl rfl QK H'.drop⟩)
theorem JS [Q4] (p:Nat) (ts:List QW) (i g:Int) (e':Q9) {w:World} {fr:List Q2} (H:Q0 w (Qr p ts::fr)) :
  Calls Tryz.prog 140 #[pp p,GJ i g,.agg (YR e').toArray] w (ret fun v w'=>(∃ k e,Ql ts i g=some (k,e)∧v = .int .i64 0∧Q0 w' (Qr p (ts.set k ⟨g.toNat,some e'⟩)::fr))∨(Ql ts i g=none∧v = .int .i64 8∧Q0 w' (Qr p ts::fr))):=by
 obtain⟨b,c,s,u,x,QK,hc,H,QU⟩:=BP H;refine QQ Tryz.func140 rfl (by kernel_rfl) ?_;refine J8 H ?_;intro b4 w H;refine Rj H ?_;intro b5 w H;refine B5 H ?_;replace H:=Js [2,2,0,0,0] 0 H;refine Jc rfl rfl (OR p b c u _ rfl ts s QK.bits.le i g H) ?_;rintro v w ⟨rfl,H⟩;cases hL:Ql ts i g with
 | some q=>
  obtain⟨k,e⟩:=q;obtain⟨n,rfl,rfl,hk⟩:=Z1.1 hL;refine Rk H ?_;refine J6 H ?_;refine Qt (fun ms σ w=>ms=[]∧σ 8 = .int .i64 0∧Q0 w (Qr p (ts.set k ⟨n,some e'⟩)::fr)) ?_ ?_
  ·refine YU rfl ?_;refine It H ?_;refine Dh H ?_;replace H:=Js [1,0,0,0,0] 0 H;have Qw:=Xx ZH ts;have VC:k < ts.length:=(List.getElem?_eq_some_iff.1 hk).1;refine Q5 rfl (U8 (vs:=YR e') H rfl rfl inferInstance rfl rfl (by rw[length_append,Qw];omega) rfl ?_);intro w H;rw[Ma (x':=⟨n,some e'⟩) ZH hk (by simp) rfl] at H;refine J2 H ?_;replace H:=Js [1,0,2] 2 H;exact⟨rfl,rfl,rfl,QU _ _ (ts.set k ⟨n,some e'⟩) x (by simp) (OW hk rfl) (QK.set hk rfl (by have:=QK.gen _ _ hk;exact this)) H⟩
  ·rintro ms σ w ⟨rfl,g8,H⟩;rw[Q1 g8];refine J3 H ?_;exact Q3 (Jy H rfl fun w' H' => .inl ⟨k,e,rfl,rfl,H'⟩)
 | none=>
  refine UI H ?_;refine J3 H ?_;replace H:=Js [0,0,2] 2 H;exact Q3 (Jy H rfl fun w' H' => .inr ⟨rfl,rfl,QU _ _ ts x rfl rfl QK H'⟩)
theorem rE [Q4] (p:Nat) (ts:List QW) {w:World} {fr:List Q2} (H:Q0 w (Qr p ts::fr)) :
  Calls Tryz.prog 17 #[pp p] w (ret fun v w'=>v = .int .i64 ((Ur ts - ZI ts:Nat):Int)∧Q0 w' (Qr p ts::fr)):=by
 obtain⟨b,c,s,u,x,QK,hc,H,QU⟩:=BP H;have hb:=QK.bits.le;have TG:=QK.cnt;have VS:=Np ts.length x
 have hY:ZI ts≤Ur ts:=by
  unfold ZI Ur;refine List.Sublist.length_le ?_
  have:ts.filter (fun t=>t.ent.isNone && t.gen == 255)=(ts.filter busy).filter (fun t=>t.ent.isNone && t.gen == 255):=by
   rw[filter_filter];apply filter_congr;intro t _;unfold busy;cases t.ent <;> simp
  rw[this];exact filter_sublist
 refine QQ Tryz.func17 rfl (by kernel_rfl) ?_;refine Mk H ?_;intro w H;refine YI H ?_;refine Jl 3 [4] H ?_;refine F9 H ?_;refine Jl 8 [] H ?_;replace H:=Js [2,0,0] 0 H;refine Jo 4 H ?_;refine Jk rfl rfl (SJ u _ _ _ H) ?_;rintro v w ⟨rfl,H⟩;refine CQ H ?_;refine Jx H ?_;replace H:=Js [1,1,0] 0 H;refine Q3 (Jy (QU _ _ ts x rfl rfl QK H) rfl fun w' H'=>⟨?_,H'⟩);show Value.int .i64 (IntKind.i64.wrap ((Zk ts.length x:Int) - (ZI ts:Int)))=_;rw[Qh (by omega) (by omega),← TG];congr 1;omega
end Go.Proofs.YtmjdnljneifpcaaGreatDoor
