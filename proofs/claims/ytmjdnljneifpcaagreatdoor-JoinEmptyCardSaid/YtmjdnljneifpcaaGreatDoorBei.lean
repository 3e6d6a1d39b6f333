/- Cells: what is proved on the way: every input of the statement; no condition. Texts joined: RefC RefD ModA ModB ModC ModD ModE TabA TabB. -/
import Derived.Test.YtmjdnljneifpcaaGreatDoorBee
import Derived.Test.YtmjdnljneifpcaaGreatDoorBeg
import Derived.Test.YtmjdnljneifpcaaGreatDoorBeh
set_option linter.unusedVariables false
set_option linter.unusedSimpArgs false
set_option linter.unusedSectionVars false
namespace Go.Proofs.YtmjdnljneifpcaaGreatDoor
open List
open Go.SL
theorem JG [Q4] (va vb:Value) (a b:List Int) (hl:a.length≤1000000) {w:World} {fr:List Q2} (H:Q0 w (IL va a::IL vb b::fr)) :
  Calls Tryz.prog 24 #[va,vb] w (ret fun v w'=>v = .bool (decide (a=b))∧Q0 w' (IL va a::IL vb b::fr)):=by
 obtain⟨aa,ca,rfl⟩:=QI H (YC a) (by decide);obtain⟨ab,cb,rfl⟩:=QI H.drop (YC b) (by decide);refine QQ Tryz.func24 rfl (by kernel_rfl) ?_;refine Bz H ?_;refine Hx H ?_;refine W7 H ?_;by_cases Qw:a.length=b.length
 ·rw[show ((a.length:Int) != (b.length:Int))=false by simp;omega];refine Vf H ?_;refine Eo H ?_;refine Qq (fun ms σ w q=>ms=[]∧∃ i:Nat,i≤a.length∧q=a.length - i∧a.take i=b.take i∧σ 0 = .slice aa a.length ca∧σ 1 = .slice ab b.length cb∧σ 5 = .int .i64 i∧Q0 w (IL (.slice aa a.length ca) a::IL (.slice ab b.length cb) b::fr)) (m:=a.length) ⟨rfl,0,by omega,rfl,by simp,rfl,rfl,rfl,H⟩ ?_;clear H;rintro ms σ w q ⟨rfl,i,hi,rfl,RI,g0,g1,g5,H⟩;rw[Q1 g0,Q1 g1,Q1 g5];refine As H ?_;refine Qm rfl (fun h=>QF ?_) (fun h=>Qv ?_)
  ·have Q6:i < a.length:=by omega
   have Fk:i < b.length:=by omega
   have hx:=getElem?_eq_getElem Q6;have hy:=getElem?_eq_getElem Fk;generalize a[i]=x at hx;generalize b[i]=y at hy;obtain⟨ba,sa,rfl,H,So⟩:=VX H (by omega);obtain⟨bb,sb,rfl,H,YL⟩:=VX H.swap (by omega)
   have c1:(Qn a++sa)[0+i*1]? = some (.int .i64 x):=by
    rw[Nat.zero_add,Nat.mul_one,getElem?_append_left (by simpa [Qn] using Q6)];simp[Qn,hx]
   have c2:(Qn b++sb)[0+i*1]? = some (.int .i64 y):=by
    rw[Nat.zero_add,Nat.mul_one,getElem?_append_left (by simpa [Qn] using Fk)];simp[Qn,hy]
   refine IJ H ?_;clear H;intro w H;refine DU H ?_;refine Ji 2 ?_;refine YZ 3 [] H rfl (Q9.none rfl) rfl c1 (by kernel_rfl) ?_;refine KI H ?_;refine Ji 6 ?_;refine YZ 7 [] H rfl (Q9.none rfl) rfl c2 (by kernel_rfl) ?_;refine WY H ?_;replace H:=YL _ _ H;replace H:=So _ _ H.swap;by_cases Yv:x=y
   ·rw[show (x != y)=false by simpa using Yv];refine Ex H ?_;refine⟨_,⟨rfl,i+1,Q6,rfl,?_,rfl,rfl,Qh (by omega),H⟩,by omega⟩;rw[take_add_one,take_add_one,hx,hy,RI,Yv]
   ·rw[show (x != y)=true by simpa using Yv];refine ZD H ?_;refine Q3 (Jy H rfl fun w' H'=>⟨?_,H'⟩)
    have QB:a≠b:=by
     rintro rfl;rw[hx] at hy;injection hy with hy
     exact Yv hy
    rw[decide_eq_false QB];rfl
  ·have V2:i=a.length:=by omega
   subst V2;rw[take_length,Qw,take_length] at RI;refine Vl H ?_;exact Q3 (Jy H rfl fun w' H'=>⟨by rw[decide_eq_true RI];rfl,H'⟩)
 ·rw[show ((a.length:Int) != (b.length:Int))=true by simp;omega];refine ZD H ?_;refine Q3 (Jy H rfl fun w' H'=>⟨?_,H'⟩);have QB:a≠b:=by rintro rfl;exact Qw rfl
  rw[decide_eq_false QB];rfl
theorem qL [Q4] (v:Value) (ws:List Nat) (Yq:∀ x∈ws,x < 18446744073709551616) {w:World} {fr:List Q2} (hr:Ya fr v ws.length 1 (Qi ws)) (H:Q0 w fr) :
  Calls Tryz.prog 228 #[v] w (ret fun r w'=>(Gq ws=none∧r = .tuple #[GU 0 (.slice none 0 0) 0 (.slice none 0 0),.bool false]∧Q0 w' fr) ∨
   ∃ l vr vq,Gq ws=some l∧r = .tuple #[GU l.fixed vr l.record vq,.bool true]∧Q0 w' (NL vr l.refs::NL vq l.recs::fr)):=by
 obtain⟨_,ad,cap,rfl,Ym⟩:=id hr;refine QQ Tryz.func228 rfl (by kernel_rfl) ?_;refine YM H ?_;clear H;intro b2 w H;refine Em H ?_;refine Hx H ?_;by_cases h3:ws.length=3
 ·obtain⟨x,y,z,rfl⟩:∃ x y z,ws=[x,y,z]:=by
   match ws,h3 with
   | [x,y,z],_=>exact⟨x,y,z,rfl⟩
  have hx:=Yq x (by simp);have hy:=Yq y (by simp);have hz:=Yq z (by simp)
  rcases Ym with h|⟨b,o,E,fz,c,rfl,hA,Qu⟩
  ·cases h
  haveI:=hA;have c0:c[o+0*1]? = some (.int .u64 x):=by have:=Qu.get 0 (.int .u64 x) (by simp[Qi]);simpa using this
  have c1:c[o+1*1]? = some (.int .u64 y):=by have:=Qu.get 1 (.int .u64 y) (by simp[Qi]);simpa using this
  have c2:c[o+2*1]? = some (.int .u64 z):=by have:=Qu.get 2 (.int .u64 z) (by simp[Qi]);simpa using this
  rw[show ((([x,y,z]:List Nat).length:Int) != 3)=false from rfl];refine Ej H ?_;refine QS rfl rfl rfl (Ut rfl rfl (by omega) (by show (0:Int) < (3:Nat);omega) rfl ?_);refine QS rfl rfl rfl (QA H rfl c0 rfl ?_);refine Zm H ?_;by_cases hb:x < 65536
  ·rw[show decide ((x:Int)≥65536)=false from decide_eq_false (by omega)];refine YS H ?_;have m8:Int.tmod (x:Int) 256=((x % 256:Nat):Int):=by rw[Int.tmod_eq_emod_of_nonneg (by omega)];omega
   have q8:IntKind.u64.wrap (Int.tdiv (x:Int) 256)=((x / 256:Nat):Int):=by
    rw[Int.tdiv_eq_ediv_of_nonneg (by omega),show (x:Int) / 256=((x / 256:Nat):Int) by omega,Kk (by omega)]
   have w8:IntKind.i64.wrap ((x % 256:Nat):Int)=((x % 256:Nat):Int):=Ag (by omega);have v8:IntKind.i64.wrap ((x / 256:Nat):Int)=((x / 256:Nat):Int):=Ag (by omega);refine J6 H ?_
   refine Yx (fun ms σ w=>ms=[]∧∃ b4 va vb,σ 2=pp b2∧σ 4=pp b4 ∧
    Q0 w (pts b4 (row 102 [.int .i64 ((x % 256:Nat):Int),va,.int .i64 ((x / 256:Nat):Int),vb])::NL va (YG y 64)::NL vb (YG z 64)::pts b2 (row 102 [.int .i64 0,.slice none 0 0,.int .i64 0,.slice none 0 0])::fr)) ?_ ?_
   ·refine J1 H ?_;clear H;intro w H;refine Ja 0 ?_;refine Bn 1 rfl (Q9.none rfl) rfl rfl (by omega) (by show (0:Int) < (3:Nat);omega) (by kernel_rfl) ?_;refine YZ 2 [20] H rfl (Q9.none rfl) rfl c0 (by kernel_rfl) ?_;refine Ja 3 ?_;refine KA 4 rfl (Q9.none rfl) rfl (by kernel_rfl) ?_;refine Ja 5 ?_;refine Bn 6 rfl (Q9.none rfl) rfl rfl (by omega) (by show (1:Int) < (3:Nat);omega) (by kernel_rfl) ?_;refine YZ 7 [8] H rfl (Q9.none rfl) rfl c1 (by kernel_rfl) ?_;refine Ja 9 ?_;refine Bn 10 rfl (Q9.none rfl) rfl rfl (by omega) (by show (0:Int) < (3:Nat);omega) (by kernel_rfl) ?_;refine YZ 11 [20] H rfl (Q9.none rfl) rfl c0 (by kernel_rfl) ?_;refine Ja 12 ?_;refine KA 13 rfl (Q9.none rfl) rfl (by kernel_rfl) ?_;refine Ja 14 ?_;refine Bn 15 rfl (Q9.none rfl) rfl rfl (by omega) (by show (2:Int) < (3:Nat);omega) (by kernel_rfl) ?_;refine YZ 16 [17] H rfl (Q9.none rfl) rfl c2 (by kernel_rfl) ?_;rw[m8,q8,w8,v8];refine Jw 8 19 H rfl rfl (V1 (a:=[]) (b:=[]) rfl rfl (call (It y hy H) ?_)) (YH H rfl ?_)
    ·clear H;intro va w H;obtain⟨aa,ma,ca,rfl⟩:=V8 H;refine Jw 17 19 H rfl rfl (V1 (a:=[]) (b:=[]) rfl rfl (call (It z hz H) ?_)) (YH H rfl ?_)
     ·clear H;intro vb w H;obtain⟨ab,mb,cb,rfl⟩:=V8 H;refine Uc 18 rfl (Q9.none rfl) rfl (by kernel_rfl) ?_;refine Jo 19 H ?_;refine YH H rfl ?_;clear H;intro b4 w H;refine Jo 20 H ?_;refine KD H ?_;clear H;intro w H;refine Jx H ?_;replace H:=Js [0,1,0,0] 0 H;exact .inl ⟨rfl,rfl,b4,_,_,rfl,rfl,H⟩
     ·clear H;intro b4 w H;refine Jo 17 H ?_;refine Jk rfl rfl (It z hz H) ?_;clear H;intro vb w H;obtain⟨ab,mb,cb,rfl⟩:=V8 H;refine Uc 18 rfl (Q9.none rfl) rfl (by kernel_rfl) ?_;refine Jo 20 H ?_;refine KD H ?_;clear H;intro w H;refine Jx H ?_;replace H:=Js [1,1,0,0] 0 H;exact .inl ⟨rfl,rfl,b4,_,_,rfl,rfl,H⟩
    ·clear H;intro b4 w H;refine Jo 8 H ?_;refine Jk rfl rfl (It y hy H) ?_;clear H;intro va w H;obtain⟨aa,ma,ca,rfl⟩:=V8 H;refine Jo 17 H ?_;refine Jk rfl rfl (It z hz H) ?_;clear H;intro vb w H;obtain⟨ab,mb,cb,rfl⟩:=V8 H;refine Uc 18 rfl (Q9.none rfl) rfl (by kernel_rfl) ?_;refine Jo 20 H ?_;refine KD H ?_;clear H;intro w H;refine Jx H ?_;replace H:=Js [2,1,0,0] 0 H;exact .inl ⟨rfl,rfl,b4,_,_,rfl,rfl,H⟩
   ·clear H;rintro ms σ w ⟨rfl,b4,va,vb,g2,g4,H⟩;rw[Q1 g2,Q1 g4];have A1:=FM y 64;have pE:=FM z 64;obtain⟨aa,ca,rfl⟩:=QI (H.drop) (QJ (YG y 64)) (by decide);obtain⟨ab,cb,rfl⟩:=QI (H.drop.drop) (QJ (YG z 64)) (by decide);refine XD H ?_;replace H:=Js [1,1,0,0] 0 H;obtain⟨D1,H,Y2,Vo⟩:=sls_rd H (QJ (YG y 64)) (by decide);obtain⟨D2,H,Zj,ZR⟩:=sls_rd H.swap (QJ (YG z 64)) (by decide);refine Jc rfl rfl (fT _ _ (CA x y z) ⟨by show x % 256≤_;omega,by show x / 256≤_;omega,by show (YG y 64).length≤_;omega,by show (YG z 64).length≤_;omega⟩ ⟨(Y2 _).there,Zj _⟩ H) ?_;clear H;rintro v w ⟨⟨q,rfl,hq⟩,H⟩;have H:=(Vo _ _ (ZR _ _ H).swap);refine J0 H ?_;cases q with
    | true=>
     refine KC H ?_;refine Ak H ?_;clear H;intro w H;refine J0 H ?_;replace H:=Js [3,0,0] 1 H;refine Q3 (Jz H (fun w' H' => .cellN H' rfl (by repeat first|exact .nil _|apply QY.cons rfl) (.tmp .nil)) fun w' H' => .inr ⟨CA x y z,_,_,?_,rfl,H'.drop⟩);rw[FP,if_pos ⟨hb,hq.1 rfl⟩]
    | false=>
     refine J3 H ?_;refine I4 H ?_;clear H;intro w H;refine J0 H ?_;replace H:=Js [3] 3 H;refine Q3 (Jz H (fun w' H' => .cellN H' rfl (by repeat first|exact .nil _|apply QY.cons rfl) (.tmp .nil)) fun w' H' => .inl ⟨?_,rfl,H'.drop⟩);rw[FP,if_neg];rintro⟨_,h2⟩;have:=hq.2 h2;cases this
  ·rw[show decide ((x:Int)≥65536)=true from decide_eq_true (by omega)];refine Aq H ?_;clear H;intro w H;refine J0 H ?_;refine Q3 (Jz H (fun w' H' => .cellN H' rfl (by repeat first|exact .nil _|apply QY.cons rfl) (.tmp .nil)) fun w' H' => .inl ⟨?_,rfl,H'.drop⟩);rw[FP,if_neg];rintro⟨h1,_⟩;exact hb h1
 ·have hd:Gq ws=none:=by
   match ws with
   | []=>rfl
   | [_]=>rfl
   | [_,_]=>rfl
   | [_,_,_]=>exact absurd rfl h3
   | _::_::_::_::_=>rfl
  rw[show ((ws.length:Int) != 3)=true by simp;omega];refine Jv ?_;refine C2 H ?_;refine Aq H ?_;clear H;intro w H;refine J0 H ?_;exact Q3 (Jz H (fun w' H' => .cellN H' rfl (by repeat first|exact .nil _|apply QY.cons rfl) (.tmp .nil)) fun w' H' => .inl ⟨hd,rfl,H'.drop⟩)
def Yb (P:List Int) (id:Int):Bool:=decide (0 < id∧id < P.length∧0≤P.getD id.toNat 0)
def K0 (P:List Int) (f:Int→Bool) (k:Nat):List Nat:=(List.range k).filter fun i=>decide (1≤i) && f (P.getD i 0)
def V4 (P:List Int):List Nat:=K0 P (fun q=>decide (0≤q)) P.length
def CM (P:List Int) (id:Int):List Nat:=K0 P (fun q=>q == id) P.length
theorem gF (P:List Int) (f:Int→Bool) (k:Nat) (hk:1≤k):K0 P f (k+1)=K0 P f k++if f (P.getD k 0) then [k] else []:=by
 unfold K0;rw[range_succ,filter_append];congr 1;simp only[filter_cons,filter_nil,decide_eq_true hk,Bool.true_and]
theorem gH (P:List Int) (f:Int→Bool):K0 P f 1=[]:=rfl
theorem Nz (P:List Int) (f:Int→Bool) (k:Nat):(K0 P f k).length≤k:=by
 have:=length_filter_le (fun i=>decide (1≤i) && f (P.getD i 0)) (List.range k);simpa [K0] using this
theorem JU {P:List Int} {f:Int→Bool} {k i:Nat}:i∈K0 P f k↔i < k∧1≤i∧f (P.getD i 0)=true:=by
 unfold K0;simp[mem_filter]
theorem gI (P:List Int) (f:Int→Bool) (k:Nat):(K0 P f k).Pairwise (· < ·):=List.Pairwise.filter _ pairwise_lt_range
def Vh (p:Nat) (P:List Int):Q2:=ex fun v:Value=>star [pts p (row 161 [v]),IL v P]
theorem A9 [Q4] {w:World} {p:Nat} {P:List Int} {l:List Q2} (H:Q0 w (Vh p P::l)):∃ a c,Q0 w (pts p (row 161 [.slice a P.length c])::IL (.slice a P.length c) P::l):=by
 obtain⟨v,H⟩:=Q0.ex.1 H;have H:=Q0.star.1 H;obtain⟨a,c,rfl⟩:=QI H.drop (YC P) (by decide);exact⟨a,c,H⟩
theorem Ui [Q4] {w:World} {p:Nat} {P:List Int} {v:Value} {l:List Q2} (H:Q0 w (pts p (row 161 [v])::IL v P::l)):Q0 w (Vh p P::l):=
 Q0.ex.2 ⟨v,Q0.star.2 H⟩
theorem qM [Q4] {w:World} {fr:List Q2} (H:Q0 w fr):Calls Tryz.prog 159 #[] w (ret fun v w'=>∃ p,v=pp p∧Q0 w' (Vh p [-1]::fr)):=by
 refine QQ Tryz.func159 rfl (by kernel_rfl) ?_;refine IA H ?_;refine Uw H ?_;clear H;intro b1 w H;refine W6 H ?_;clear H;intro b3 w H;refine J0 H ?_;have H:=RN (len:=1) (k:=1) (by rfl) H.swap;exact Q3 (Jy H.swap rfl fun w' H'=>⟨_,rfl,Ui (P:=[-1]) H'⟩)
theorem Dj {P:List Int} {s:List Value} {i:Nat} (h:i < P.length):(Qn P++s)[0+i*1]? = some (.int .i64 (P.getD i 0)):=by
 rw[Nat.zero_add,Nat.mul_one,getElem?_append_left (by simpa [Qn] using h)];simp[Qn,h]
theorem CN [Q4] (p:Nat) (P:List Int) (id:Int) {w:World} {fr:List Q2} (H:Q0 w (Vh p P::fr)) :
  Calls Tryz.prog 21 #[pp p,.int .i64 id] w (ret fun v w'=>v = .bool (Yb P id)∧Q0 w' (Vh p P::fr)):=by
 obtain⟨a,c,H⟩:=A9 H;refine QQ Tryz.func21 rfl (by kernel_rfl) ?_;refine Re H ?_;by_cases h1:id > 0
 ·rw[show decide (id > 0)=true from decide_eq_true (by omega)];refine Ar H ?_;by_cases h2:id < (P.length:Int)
  ·rw[show decide (id < (P.length:Int))=true from decide_eq_true (by omega)];obtain⟨k,rfl⟩:∃ k:Nat,id=k:=⟨id.toNat,by omega⟩;obtain⟨b,s,rfl,H,QK⟩:=VX H.swap (by omega);have hc:=Dj (P:=P) (s:=s) (i:=k) (by omega);refine Wu H ?_;refine QS rfl rfl rfl (Ut rfl rfl (by omega) (by omega) rfl ?_);refine QS rfl rfl rfl (QA H rfl hc rfl ?_);refine W5 H ?_;replace H:=(QK _ _ H).swap;refine Q3 (Jy (Ui H) rfl fun w' H'=>⟨?_,H'⟩);show Value.bool (decide (P.getD k 0≥0))=_;unfold Yb;congr 1;rw[decide_eq_decide,Int.toNat_natCast];exact⟨fun h=>⟨h1,h2,h⟩,fun h=>h.2.2⟩
  ·rw[show decide (id < (P.length:Int))=false from decide_eq_false (by omega)];refine U3 H ?_;refine C2 H ?_;refine J4 H ?_;refine Q3 (Jy (Ui H) rfl fun w' H'=>⟨?_,H'⟩);show Value.bool false=_;unfold Yb;rw[decide_eq_false (fun h=>h2 h.2.1)]
 ·rw[show decide (id > 0)=false from decide_eq_false (by omega)];refine IG H ?_;refine U3 H ?_;refine C2 H ?_;refine J4 H ?_;refine Q3 (Jy (Ui H) rfl fun w' H'=>⟨?_,H'⟩);show Value.bool false=_;unfold Yb;rw[decide_eq_false (fun h=>h1 h.1)]
theorem JX [Q4] (p:Nat) (P:List Int) (hl:P.length≤1000000) {w:World} {fr:List Q2} (H:Q0 w (Vh p P::fr)) :
  Calls Tryz.prog 42 #[pp p] w (ret fun v w'=>Q0 w' (NL v (V4 P)::Vh p P::fr)):=by
 refine QQ Tryz.func42 rfl (by kernel_rfl) ?_;refine IX H ?_;refine Qq (fun ms σ w n=>ms=[]∧∃ (i:Nat) (g:Value),1≤i∧(i≤P.length∨i=1)∧n=P.length - i∧σ 0=pp p∧σ 3=g∧σ 4 = .int .i64 i∧Q0 w (NL g (K0 P (fun q=>decide (0≤q)) i)::Vh p P::fr)) (m:=P.length - 1) ⟨rfl,1,_,by omega,.inr rfl,rfl,rfl,rfl,rfl,Zy H⟩ ?_;clear H;rintro ms σ w n ⟨rfl,i,g,RT,AQ,rfl,g0,g3,g4,H⟩;obtain⟨ag,mg,cg,rfl⟩:=V8 H;obtain⟨a,c,H⟩:=A9 H.swap;rw[Q1 g0,Q1 g3,Q1 g4];refine Wv H ?_;refine Qm rfl (fun h=>QF ?_) (fun h=>Qv ?_)
 ·have Q6:i < P.length:=by omega
  obtain⟨b,s,rfl,H,QK⟩:=VX H.swap (by omega);have hc:=Dj (P:=P) (s:=s) (i:=i) (by omega);have UM:=gF P (fun q=>decide (0≤q)) i RT;generalize P.getD i 0=y at hc UM;refine DH H ?_;refine Jd ?_;refine Q5 rfl (QA H rfl hc rfl ?_);refine J0 H ?_;replace H:=Ui (QK _ _ H).swap;refine J6 H ?_;refine Qm rfl (fun h=>?_) (fun h=>QF ?_)
  ·rw[if_pos (by simpa using h)] at UM;refine IR H ?_;clear H;intro b24 w H;replace H:=Js [2,0,0] 0 H;refine Q5 rfl (ZU H rfl rfl (by repeat first|exact .nil _|apply QY.cons rfl) rfl (by decide) (by rw[QJ];have:=Nz P (fun q=>decide (0≤q)) i;simp only[length_cons,length_nil];omega) rfl rfl ?_);clear H;intro v25 w H;obtain⟨a25,m25,c25,rfl⟩:=V8 H;refine F1 H ?_;replace H:=Js [0,1] 1 H;refine⟨_,⟨rfl,i+1,_,by omega,.inl Q6,rfl,rfl,rfl,Qh (by omega),?_⟩,by omega⟩;rw[UM];show Q0 w (QE _ 1 _ (QH (_++[i]))::_);rw[B4];exact H
  ·rw[if_neg (by simpa using h),append_nil] at UM;refine Vj H ?_;exact⟨_,⟨rfl,i+1,_,by omega,.inl Q6,rfl,rfl,rfl,Qh (by omega),by rw[UM];exact H.swap⟩,by omega⟩
 ·have he:K0 P (fun q=>decide (0≤q)) i=V4 P:=by
   unfold V4
   rcases AQ with h1|rfl
   ·rw[show i=P.length by omega]
   ·rw[gH]
    symm
    rw[eq_nil_iff_forall_not_mem];intro x hx;have:=JU.1 hx;omega
  rw[he] at H;refine J3 H ?_;have H:=(Ui H).swap;exact Q3 (Jy H rfl fun w' H'=>H')
theorem qN [Q4] (p:Nat) (P:List Int) (id:Int) (hl:P.length≤1000000) {w:World} {fr:List Q2} (H:Q0 w (Vh p P::fr)) :
  Calls Tryz.prog 43 #[pp p,.int .i64 id] w (ret fun v w'=>Q0 w' (NL v (CM P id)::Vh p P::fr)):=by
 refine QQ Tryz.func43 rfl (by kernel_rfl) ?_;refine IX H ?_;refine Qq (fun ms σ w n=>ms=[]∧∃ (i:Nat) (g:Value),1≤i∧(i≤P.length∨i=1)∧n=P.length - i∧σ 0=pp p∧σ 1 = .int .i64 id∧σ 5=g∧σ 6 = .int .i64 i∧Q0 w (NL g (K0 P (fun q=>q == id) i)::Vh p P::fr)) (m:=P.length - 1) ⟨rfl,1,_,by omega,.inr rfl,rfl,rfl,rfl,rfl,rfl,Zy H⟩ ?_;clear H;rintro ms σ w n ⟨rfl,i,g,RT,AQ,rfl,g0,g1,g3,g4,H⟩;obtain⟨ag,mg,cg,rfl⟩:=V8 H;obtain⟨a,c,H⟩:=A9 H.swap;rw[Q1 g0,Q1 g1,Q1 g3,Q1 g4];refine Wv H ?_;refine Qm rfl (fun h=>QF ?_) (fun h=>Qv ?_)
 ·have Q6:i < P.length:=by omega
  obtain⟨b,s,rfl,H,QK⟩:=VX H.swap (by omega);have hc:=Dj (P:=P) (s:=s) (i:=i) (by omega);have UM:=gF P (fun q=>q == id) i RT;generalize P.getD i 0=y at hc UM;refine DH H ?_;refine Jd ?_;refine Q5 rfl (QA H rfl hc rfl ?_);refine J4 H ?_;replace H:=Ui (QK _ _ H).swap;refine J6 H ?_;refine Qm rfl (fun h=>?_) (fun h=>QF ?_)
  ·rw[if_pos (by simpa using h)] at UM;refine IR H ?_;clear H;intro b27 w H;replace H:=Js [2,0,0] 0 H;refine Q5 rfl (ZU H rfl rfl (by repeat first|exact .nil _|apply QY.cons rfl) rfl (by decide) (by rw[QJ];have:=Nz P (fun q=>q == id) i;simp only[length_cons,length_nil];omega) rfl rfl ?_);clear H;intro v25 w H;obtain⟨a25,m25,c25,rfl⟩:=V8 H;refine F1 H ?_;replace H:=Js [0,1] 1 H;refine⟨_,⟨rfl,i+1,_,by omega,.inl Q6,rfl,rfl,rfl,rfl,Qh (by omega),?_⟩,by omega⟩;rw[UM];show Q0 w (QE _ 1 _ (QH (_++[i]))::_);rw[B4];exact H
  ·rw[if_neg (by simpa using h),append_nil] at UM;refine Vj H ?_;exact⟨_,⟨rfl,i+1,_,by omega,.inl Q6,rfl,rfl,rfl,rfl,Qh (by omega),by rw[UM];exact H.swap⟩,by omega⟩
 ·have he:K0 P (fun q=>q == id) i=CM P id:=by
   unfold CM
   rcases AQ with h1|rfl
   ·rw[show i=P.length by omega]
   ·rw[gH]
    symm
    rw[eq_nil_iff_forall_not_mem];intro x hx;have:=JU.1 hx;omega
  rw[he] at H;refine J3 H ?_;have H:=(Ui H).swap;exact Q3 (Jy H rfl fun w' H'=>H')
def Gc (P:List Int) (parent:Int):Nat:=if parent≠0∧Yb P parent=false then 6 else if 64≤(V4 P).length then 5 else 0
theorem gJ [Q4] (p:Nat) (P:List Int) (parent:Int) (hl:P.length≤100000) (h1:1≤P.length) {w:World} {fr:List Q2} (H:Q0 w (Vh p P::fr)) :
  Calls Tryz.prog 178 #[pp p,.int .i64 parent] w (ret fun v w'=>(Gc P parent≠0∧v = .tuple #[.int .i64 0,.int .i64 (Gc P parent)]∧Q0 w' (Vh p P::fr)) ∨
   (Gc P parent=0∧v = .tuple #[.int .i64 P.length,.int .i64 0]∧Q0 w' (Vh p (P++[parent])::fr))):=by
 refine QQ Tryz.func178 rfl (by kernel_rfl) ?_;refine WV H ?_;refine Jc rfl rfl (CN p P parent H) ?_;clear H;rintro v w ⟨rfl,H⟩;generalize ZQ:Yb P parent=lv;refine Yy H ?_;refine Qt (fun ms σ w=>ms=[]∧(∃ q,σ 16 = .bool q∧(q=true↔parent≠0∧Yb P parent=false))∧σ 0=pp p∧σ 1 = .int .i64 parent∧Q0 w (Vh p P::fr)) ?_ ?_
 ·refine J9 H ?_;by_cases h0:parent=0
  ·rw[show (parent != 0)=false by simpa using h0];refine Mp H ?_;refine J0 H ?_;exact⟨rfl,rfl,⟨false,rfl,by simp[h0]⟩,rfl,rfl,H⟩
  ·rw[show (parent != 0)=true by simpa using h0];refine Rb H ?_;refine J0 H ?_;exact⟨rfl,rfl,⟨!lv,rfl,by simp[h0,ZQ]⟩,rfl,rfl,H⟩
 clear H;rintro ms σ w ⟨rfl,⟨q,g16,hq⟩,g0,g1,H⟩;rw[Q1 g16,Q1 g0,Q1 g1];cases q with
 | true=>
  have he:Gc P parent=6:=by unfold Gc;rw[if_pos (hq.1 rfl)]
  refine G2 H ?_;exact Q3 (Jy H rfl fun w' H' => .inl ⟨by omega,by rw[he];rfl,H'⟩)
 | false=>
  have Wm:¬ (parent≠0∧Yb P parent=false):=fun h=>by have:=hq.2 h;cases this
  refine Et H ?_;refine Jc rfl rfl (JX p P (by omega) H) ?_;clear H;intro v w H;obtain⟨aa,ca,rfl⟩:=QI H (QJ _) (by decide);refine Ml H ?_;by_cases Y0:64≤(V4 P).length
  ·have he:Gc P parent=5:=by unfold Gc;rw[if_neg Wm,if_pos Y0]
   rw[show decide (((V4 P).length:Int)≥64)=true from decide_eq_true (by omega)];refine G2 H ?_;exact Q3 (Jy H.drop rfl fun w' H' => .inl ⟨by omega,by rw[he];rfl,H'⟩)
  ·have he:Gc P parent=0:=by unfold Gc;rw[if_neg Wm,if_neg Y0]
   rw[show decide (((V4 P).length:Int)≥64)=false from decide_eq_false (by omega)];refine Vf H ?_;replace H:=H.drop;obtain⟨a,c,H⟩:=A9 H;refine F7 H ?_;refine Uw H ?_;clear H;intro b28 w H;replace H:=Js [2,0,0] 0 H;refine Q5 rfl (ZU H rfl rfl (by repeat first|exact .nil _|apply QY.cons rfl) rfl (by decide) (by rw[YC];simp only[length_cons,length_nil];omega) rfl rfl ?_);clear H;intro v29 w H;have e1:Qn P++[.int .i64 parent]=Qn (P++[parent]):=by rw[Ff];rfl
   rw[e1] at H;obtain⟨a29,c29,rfl⟩:=QI H (YC _) (by decide);refine XH H ?_;clear H;intro w H;refine J2 H ?_;refine Mm H ?_;refine ZS H ?_;refine J0 H ?_;replace H:=Js [2,0] 1 H;refine Q3 (Jy (Ui H) rfl fun w' H' => .inr ⟨he,?_,H'⟩);show Value.tuple #[.int .i64 (IntKind.i64.wrap (((P++[parent]).length:Int) - 1)),_]=_;rw[show (P++[parent]).length=P.length+1 by simp,Qg (by omega) (by omega),show (((P.length+1:Nat):Int)) - 1=(P.length:Int) by omega];rfl
structure QT where
 region:Nat
 lay:Nat
 count:Nat
 w:List Nat
 kind:List Nat
 to:List Nat
 held:Bool
 pinned:Bool
 gone:Bool
structure MS where
 P:List Int
 lays:List Qb
 objs:List QT
structure K1 (lays:List Qb) (n:Nat) (x:QT):Prop where
 lay:∃ l,lays[x.lay - 1]? = some l∧YU l∧Vg l x.count=(x.w.length,0)
 lay1:1≤x.lay
 kind:x.kind.length=x.w.length
 to:x.to.length=x.w.length
 goes:∀ p,x.kind[p]? = some 2→x.to.getD p 0 < n
structure Vc (m:MS):Prop where
 P:1≤m.P.length∧m.P.length≤100000
 lays:m.lays.length≤64∧∀ l∈m.lays,YU l
 objs:∀ x∈m.objs,K1 m.lays m.objs.length x
 few:m.objs.length≤100000
def YE (m:MS) (x:QT):Qb:=(m.lays[x.lay - 1]?).getD ⟨0,[],0,[]⟩
theorem qO {lays:List Qb} {P:List Int} {os:List QT} {n:Nat} {x:QT} (h:K1 lays n x):lays[x.lay - 1]? = some (YE ⟨P,lays,os⟩ x)∧YU (YE ⟨P,lays,os⟩ x)∧Vg (YE ⟨P,lays,os⟩ x) x.count=(x.w.length,0):=by
 obtain⟨l,h1,h2,h3⟩:=h.lay;have:YE ⟨P,lays,os⟩ x=l:=by unfold YE;rw[h1];rfl
 rw[this];exact⟨h1,h2,h3⟩
structure OC where
 ptr:Nat
 vw:Value
 vk:Value
 vt:Value
 ob:QT
@[reducible] def Kw (vw vk vt:Value) (x:QT):Obj:=row 76 [.int .i64 x.region,.int .i64 x.lay,.int .i64 x.count,vw,vk,vt,.bool x.held,.bool x.pinned,.bool x.gone]
@[reducible] def Zk (x:OC):Q2:=star [pts x.ptr (Kw x.vw x.vk x.vt x.ob),UL x.vw x.ob.w,NL x.vk x.ob.kind,NL x.vt x.ob.to]
structure MQ where
 t:Nat
 vL:Value
 lc:List GP
 vO:Value
 oc:List OC
def V0 (p:Nat) (m:MS):Q2:=ex fun q:MQ=>star [prop (Vc m∧q.lc.map (·.2.2)=m.lays∧q.oc.map (·.ob)=m.objs),pts p (row 58 [pp q.t,q.vL,q.vO]),Vh q.t m.P,QE 102 4 q.vL (Vb q.lc),star (q.lc.map Yp),QE 77 1 q.vO (q.oc.map fun x=>pp x.ptr),star (q.oc.map Zk)]
theorem GA [Q4] {w:World} {p:Nat} {m:MS} {l:List Q2} (H:Q0 w (V0 p m::l)):∃ (t:Nat) (lc:List GP) (oc:List OC) (aL:Option Addr) (cL:Nat) (aO:Option Addr) (cO:Nat),Vc m∧lc.map (·.2.2)=m.lays∧oc.map (·.ob)=m.objs∧lc.length=m.lays.length∧oc.length=m.objs.length ∧
  Q0 w (pts p (row 58 [pp t,.slice aL m.lays.length cL,.slice aO m.objs.length cO])::Vh t m.P::QE 102 4 (.slice aL m.lays.length cL) (Vb lc)::star (lc.map Yp)::QE 77 1 (.slice aO m.objs.length cO) (oc.map fun x=>pp x.ptr)::star (oc.map Zk)::l):=by
 obtain⟨⟨t,vL,lc,vO,oc⟩,H⟩:=Q0.ex.1 H;have H:=Q0.star.1 H;obtain⟨⟨h1,h2,h3⟩,H⟩:=Q0.prop.1 H;have Z0:lc.length=m.lays.length:=by rw[← h2,length_map]
 have Y5:oc.length=m.objs.length:=by rw[← h3,length_map]
 obtain⟨aL,cL,rfl⟩:=QI (H.drop.drop) (CC lc) (by decide);obtain⟨aO,cO,rfl⟩:=QI (m:=oc.length) (H.drop.drop.drop.drop) (by simp) (by decide);refine⟨t,lc,oc,aL,cL,aO,cO,h1,h2,h3,Z0,Y5,?_⟩;rw[← Z0,← Y5];exact H
theorem Zq [Q4] {w:World} {p t:Nat} {m:MS} {l:List Q2} {lc:List GP} {oc:List OC} {vL vO:Value} (h1:Vc m) (h2:lc.map (·.2.2)=m.lays) (h3:oc.map (·.ob)=m.objs)
  (H:Q0 w (pts p (row 58 [pp t,vL,vO])::Vh t m.P::QE 102 4 vL (Vb lc)::star (lc.map Yp)::QE 77 1 vO (oc.map fun x=>pp x.ptr)::star (oc.map Zk)::l)):Q0 w (V0 p m::l):=
 Q0.ex.2 ⟨⟨t,vL,lc,vO,oc⟩,Q0.star.2 (Q0.prop.2 ⟨⟨h1,h2,h3⟩,H⟩)⟩
theorem X5 [Q4] {w:World} {p:Nat} {m:MS} {l:List Q2} (H:Q0 w (V0 p m::l)) {o:Nat} {x:QT} (ho:m.objs[o]? = some x):∃ (t:Nat) (lc:List GP) (aL:Option Addr) (cL bO cO:Nat) (s ptrs:List Value) (q:Nat) (vw vk vt:Value) (rest:List Q2),Vc m∧lc.map (·.2.2)=m.lays∧(ptrs++s)[0+o*1]? = some (pp q) ∧
  Q0 w (pts q (Kw vw vk vt x)::UL vw x.w::NL vk x.kind::NL vt x.to::pts bO (row 77 (ptrs++s))::pts p (row 58 [pp t,.slice aL m.lays.length cL,.slice (some ⟨bO,0,none⟩) m.objs.length cO])::QE 102 4 (.slice aL m.lays.length cL) (Vb lc)::star (lc.map Yp)::Vh t m.P::star rest::l) ∧
  ∀ (w':World) (l':List Q2) (x':QT),Vc { m with objs:=m.objs.set o x' }→Q0 w' (pts q (Kw vw vk vt x')::UL vw x'.w::NL vk x'.kind::NL vt x'.to::pts bO (row 77 (ptrs++s))::pts p (row 58 [pp t,.slice aL m.lays.length cL,.slice (some ⟨bO,0,none⟩) m.objs.length cO])::QE 102 4 (.slice aL m.lays.length cL) (Vb lc)::star (lc.map Yp)::Vh t m.P::star rest::l')→Q0 w' (V0 p { m with objs:=m.objs.set o x' }::l'):=by
 obtain⟨t,lc,oc,aL,cL,aO,cO,h1,h2,h3,Z0,Y5,H⟩:=GA H;have Vi:o < m.objs.length:=(List.getElem?_eq_some_iff.1 ho).1
 obtain⟨y,hy,qP⟩:∃ y,oc[o]? = some y∧y.ob=x:=by
  rw[← h3,getElem?_map,Option.map_eq_some_iff] at ho;exact ho
 obtain⟨q,vw,vk,vt,x1⟩:=y;obtain rfl:x1=x:=qP;have O0:=SL.split_at hy;replace H:=Js [4,4,0,0,0,0] 0 H;obtain⟨bO,s,rfl,H,QK⟩:=VX H (by omega);replace H:=Js [1,0,0,0,0,0] 0 H;have H:=Q0.star.1 ((Q0.pick (R:=Zk) O0).1 H);replace H:Q0 w (pts q (Kw vw vk vt x1)::UL vw x1.w::NL vk x1.kind::NL vt x1.to::star ((oc.take o++oc.drop (o+1)).map Zk)::pts bO (row 77 ((oc.map fun x=>pp x.ptr)++s))::pts p (row 58 [pp t,.slice aL m.lays.length cL,.slice (some ⟨bO,0,none⟩) m.objs.length cO])::Vh t m.P::QE 102 4 (.slice aL m.lays.length cL) (Vb lc)::star (lc.map Yp)::l):=H;refine⟨t,lc,aL,cL,bO,cO,s,oc.map fun x=>pp x.ptr,q,vw,vk,vt,(oc.take o++oc.drop (o+1)).map Zk,h1,h2,?_,?_,?_⟩
 ·rw[Nat.zero_add,Nat.mul_one,getElem?_append_left (by simp;omega),getElem?_map,hy];rfl
 ·replace H:=Js [0,0,0,0,1,1,2,2,1,0] 0 H;exact H
 ·intro w' l' x' V7 H;replace H:=Js [0,0,0,0,5,0,0,2,0,0] 0 H;have H:=(Q0.pick (R:=Zk) (x:=⟨q,vw,vk,vt,x'⟩) (g1:=oc.take o) (g2:=oc.drop (o+1)) rfl).2 (Q0.star.2 H);rw[← SL.set_split hy] at H;replace H:=Js [1,0,0,0,0,0] 0 H;have H:=QK _ _ H
  have hp:(oc.map fun x=>pp x.ptr)=((oc.set o ⟨q,vw,vk,vt,x'⟩).map fun x=>pp x.ptr):=by
   rw[map_set]
   symm
   apply ext_getElem?;intro i;rw[getElem?_set];split
   ·rename_i hi;subst hi;rw[getElem?_map,hy];simp;omega
   ·rfl
  rw[hp] at H;replace H:=Js [2,2,2,2,0,0] 0 H;have hs:({ m with objs:=m.objs.set o x' }:MS).objs=m.objs.set o x':=rfl;exact Zq (m:={ m with objs:=m.objs.set o x' }) V7 h2 (by rw[map_set,h3]) H
def VH (m:MS) (o:Int):Option (Nat×QT):=
 if 0≤o then
  match m.objs[o.toNat]? with
  | some x=>if x.held && !x.gone then some (o.toNat,x) else none
  | none=>none
 else none
theorem JK (m:MS) (o:Nat):VH m o=match m.objs[o]? with|some x=>if x.held && !x.gone then some (o,x) else none|none=>none:=by
 unfold VH;rw[if_pos (by omega),Int.toNat_natCast]
def Vs (m:MS) (o place:Int) (ref:Bool):Nat:=
 match VH m o with
 | none=>8
 | some (_,x)=>Qc (YE m x) x.w.length place ref
theorem K2 [Q4] {w:World} {p:Nat} {m:MS} {l:List Q2} {o:Nat} {x:QT} (ho:m.objs[o]? = some x) (H:Q0 w (V0 p { m with objs:=m.objs.set o x }::l)):Q0 w (V0 p m::l):=by
 have:m.objs.set o x=m.objs:=by
  apply ext_getElem?;intro i;rw[getElem?_set];split
  ·rename_i hi;subst hi;rw[ho];have:=(List.getElem?_eq_some_iff.1 ho).1;simp[this]
  ·rfl
 rw[this] at H;exact H
theorem BK {m:MS} {o:Nat} {x:QT} (ho:m.objs[o]? = some x) (h:Vc m):Vc { m with objs:=m.objs.set o x }:=by
 have:m.objs.set o x=m.objs:=by
  apply ext_getElem?;intro i;rw[getElem?_set];split
  ·rename_i hi;subst hi;rw[ho];have:=(List.getElem?_eq_some_iff.1 ho).1;simp[this]
  ·rfl
 rw[this];exact h
theorem Dk [Q4] (p:Nat) (m:MS) (o:Int) {w:World} {fr:List Q2} (H:Q0 w (V0 p m::fr)) :
  Calls Tryz.prog 38 #[pp p,.int .i64 o] w (ret fun v w'=>v = .bool (VH m o).isSome∧Q0 w' (V0 p m::fr)):=by
 by_cases h0:o≥0
 ·obtain⟨k,rfl⟩:∃ k:Nat,o=k:=⟨o.toNat,by omega⟩;by_cases h1:k < m.objs.length
  ·have hx:=getElem?_eq_getElem h1;generalize m.objs[k]=x at hx;have hv:VH m k=if x.held && !x.gone then some (k,x) else none:=by rw[JK,hx]
   obtain⟨t,lc,aL,cL,bO,cO,s,ptrs,q,vw,vk,vt,rest,hm,h2,hp,H,QK⟩:=X5 H hx;have V7:=BK hx hm;obtain⟨xr,xl,xc,xw,xk,xt,xh,xp,xg⟩:=x;refine QQ Tryz.func38 rfl (by kernel_rfl) ?_;refine Re H ?_;rw[show decide ((k:Int)≥0)=true from decide_eq_true (by omega)];refine Ar H ?_;rw[show decide ((k:Int) < (m.objs.length:Int))=true from decide_eq_true (by omega)];refine Wu H ?_;refine QS rfl rfl rfl (Ut rfl rfl (by omega) (by omega) rfl ?_);refine QS rfl rfl rfl (QA H rfl hp rfl ?_);cases xh with
   | true=>
    refine Zm H ?_;refine Ra H ?_;refine Wu H ?_;refine QS rfl rfl rfl (Ut rfl rfl (by omega) (by omega) rfl ?_);refine QS rfl rfl rfl (QA H rfl hp rfl ?_);refine IY H ?_;refine J4 H ?_;refine Q3 (Jy (K2 hx (QK _ _ _ V7 H)) rfl fun w' H'=>⟨?_,H'⟩);rw[hv];cases xg <;> rfl
   | false=>
    refine Zm H ?_;refine Ra H ?_;refine U3 H ?_;refine IQ H ?_;refine J4 H ?_;refine Q3 (Jy (K2 hx (QK _ _ _ V7 H)) rfl fun w' H'=>⟨?_,H'⟩);rw[hv];rfl
  ·have hv:VH m k=none:=by rw[JK,getElem?_eq_none (by omega)]
   obtain⟨t,lc,oc,aL,cL,aO,cO,a1,a2,a3,a4,a5,H⟩:=GA H;refine QQ Tryz.func38 rfl (by kernel_rfl) ?_;refine Re H ?_;rw[show decide ((k:Int)≥0)=true from decide_eq_true (by omega)];refine Ar H ?_;rw[show decide ((k:Int) < (m.objs.length:Int))=false from decide_eq_false (by omega)];refine U3 H ?_;refine IK H ?_;refine U3 H ?_;refine IQ H ?_;refine J4 H ?_;refine Q3 (Jy (Zq a1 a2 a3 H) rfl fun w' H'=>⟨?_,H'⟩);rw[hv];rfl
 ·have hv:VH m o=none:=by unfold VH;rw[if_neg (by omega)]
  refine QQ Tryz.func38 rfl (by kernel_rfl) ?_;refine Re H ?_;rw[show decide (o≥0)=false from decide_eq_false (by omega)];refine IG H ?_;refine U3 H ?_;refine IK H ?_;refine U3 H ?_;refine IQ H ?_;refine J4 H ?_;refine Q3 (Jy H rfl fun w' H'=>⟨?_,H'⟩);rw[hv];rfl
theorem Sx [Q4] {w:World} {aL:Option Addr} {n cL:Nat} {lc:List GP} {l:List Q2} (hn:lc.length=n) (H:Q0 w (QE 102 4 (.slice aL n cL) (Vb lc)::star (lc.map Yp)::l)) {i:Nat} {y:GP} (hy:lc[i]? = some y) :
  ∃ (bL:Nat) (s:List Value) (D1 D2 R:Q2),aL=some ⟨bL,0,none⟩∧Q0 w (pts bL (row 102 (Vb lc++s))::D1::D2::R::l)∧(∀ l',Ks (D1::D2::l') y.1 y.2.1 y.2.2) ∧
   ∀ (w':World) (l':List Q2),Q0 w' (pts bL (row 102 (Vb lc++s))::D1::D2::R::l')→Q0 w' (QE 102 4 (.slice aL n cL) (Vb lc)::star (lc.map Yp)::l'):=by
 have hi:i < lc.length:=(List.getElem?_eq_some_iff.1 hy).1;have O0:=SL.split_at hy;obtain⟨vr,vq,l'⟩:=y;obtain⟨bL,s,rfl,H,QK⟩:=VX H (by omega);have H:=Q0.star.1 ((Q0.pick (R:=Yp) O0).1 H.swap);replace H:Q0 w (NL vr l'.refs::NL vq l'.recs::star ((lc.take i++lc.drop (i+1)).map Yp)::pts bL (row 102 (Vb lc++s))::l):=H;obtain⟨D1,H,Y2,Vo⟩:=sls_rd H (QJ _) (by decide);obtain⟨D2,H,Zj,ZR⟩:=sls_rd H.swap (QJ _) (by decide);replace H:=Js [3,0,0,0] 0 H;refine⟨bL,s,D2,D1,star ((lc.take i++lc.drop (i+1)).map Yp),rfl,H,fun l'=>⟨(Y2 _).there,Zj _⟩,?_⟩;intro w' l2 H;replace H:=Js [1,1,1,0] 0 H;have H:=Vo _ _ (ZR _ _ H).swap;replace H:=Js [0,0,0,0] 0 H;have H:=(Q0.pick (R:=Yp) O0).2 (Q0.star.2 H);exact QK _ _ H.swap
theorem BR {m:MS} {w:Vc m} {x:QT} {o:Nat} (h:m.objs[o]? = some x):x.w.length < 8192:=by
 obtain⟨l,_,_,h⟩:=(w.objs x (mem_of_getElem? h)).lay;unfold Vg at h;split at h
 ·injection h with h1 h2;cases h2
 ·split at h
  ·injection h with h1 h2;cases h2
  ·injection h with h1 h2;omega
theorem WD {m:MS} {o:Int} {k:Nat} {x:QT} (h:VH m o=some (k,x)):o=k∧m.objs[k]? = some x∧x.held=true∧x.gone=false:=by
 unfold VH at h;split at h
 ·split at h
  ·rename_i y hy;split at h
   ·rename_i hh;injection h with h
    injection h with h1 h2
    subst h1 h2;have O1:=Bool.and_eq_true_iff.1 hh;exact⟨by omega,hy,O1.1,by simpa using O1.2⟩
   ·cases h
  ·cases h
 ·cases h
theorem gL {m:MS} (h:Vc m) {lc:List GP} (hl:lc.map (·.2.2)=m.lays) {x:QT} {o:Nat} (hx:m.objs[o]? = some x):∃ y:GP,lc[x.lay - 1]? = some y∧y.2.2=YE m x∧1≤x.lay∧x.lay≤lc.length∧YU (YE m x)∧Vg (YE m x) x.count=(x.w.length,0):=by
 have hm:=h.objs x (mem_of_getElem? hx);obtain⟨h1,h2,h3⟩:=qO (P:=m.P) (os:=m.objs) hm;have Hi:m.lays[x.lay - 1]? = some (YE m x):=h1;have Sy:(lc.map (·.2.2))[x.lay - 1]? = some (YE m x):=by rw[hl];exact Hi
 rw[getElem?_map,Option.map_eq_some_iff] at Sy;obtain⟨y,hy,e⟩:=Sy;have:=(List.getElem?_eq_some_iff.1 hy).1;have:=hm.lay1;exact⟨y,hy,e,hm.lay1,by omega,h2,h3⟩
theorem gM {l:Qb} {c:Nat} {n p:Nat} (h:Vg l c=(n,0)) (hp:p < n):l.record≠0∨p < l.fixed:=by
 unfold Vg at h;split at h
 ·injection h with h1 h2;cases h2
 ·split at h
  ·injection h with h1 h2;cases h2
  ·injection h with h1 h2
   by_cases h0:l.record=0
   ·rw[h0] at h1;right;omega
   ·left;exact h0
theorem CO [Q4] (p:Nat) (m:MS) (o place:Int) (ref:Bool) {w:World} {fr:List Q2} (H:Q0 w (V0 p m::fr)) :
  Calls Tryz.prog 164 #[pp p,.int .i64 o,.int .i64 place,.bool ref] w (ret fun v w'=>v = .int .i64 (Vs m o place ref:Nat)∧Q0 w' (V0 p m::fr)):=by
 refine QQ Tryz.func164 rfl (by kernel_rfl) ?_;refine Re H ?_;refine Jc rfl rfl (Dk p m o H) ?_;clear H;rintro v w ⟨rfl,H⟩;refine J0 H ?_;cases hv:VH m o with
 | none=>
  have hr:Vs m o place ref=8:=by unfold Vs;rw[hv]
  refine FQ H ?_;refine Q3 (Jy H rfl fun w' H'=>⟨by rw[hr];rfl,H'⟩)
 | some kx=>
  obtain⟨k,x⟩:=kx;obtain⟨rfl,hx,hh,hg⟩:=WD hv;have hr:Vs m k place ref=Qc (YE m x) x.w.length place ref:=by unfold Vs;rw[hv]
  have VB:=(List.getElem?_eq_some_iff.1 hx).1;obtain⟨t,lc,aL,cL,bO,cO,s,ptrs,q,vw,vk,vt,rest,hm,h2,hp,H,QK⟩:=X5 H hx;have V7:=BK hx hm;obtain⟨y,hy,CB,Z0,Y5,hR,Ve⟩:=gL hm h2 hx;obtain⟨aw,cw,rfl⟩:=QI H.drop (GY _) (by decide);refine KC H ?_;refine VM H ?_;refine Jd ?_;refine Q5 rfl (QA H rfl hp rfl ?_);refine J0 H ?_;refine J9 H ?_;by_cases h1:place < 0∨(x.w.length:Int)≤place
  ·have Ym:Vs m k place ref=3:=by rw[hr];unfold Qc;rw[if_pos h1]
   by_cases h0:place < 0
   ·rw[show decide (place < 0)=true from decide_eq_true (by omega)];refine IG H ?_;refine Kn H ?_;refine Q3 (Jy (K2 hx (QK _ _ _ V7 H)) rfl fun w' H'=>⟨by rw[Ym];rfl,H'⟩)
   ·rw[show decide (place < 0)=false from decide_eq_false (by omega)];refine Ar H ?_;rw[show decide (place≥(x.w.length:Int))=true from decide_eq_true (by omega)];refine Kn H ?_;refine Q3 (Jy (K2 hx (QK _ _ _ V7 H)) rfl fun w' H'=>⟨by rw[Ym];rfl,H'⟩)
  ·obtain⟨j,rfl⟩:∃ j:Nat,place=j:=⟨place.toNat,by omega⟩;have Zg:=BR (w:=hm) hx;rw[show decide ((j:Int) < 0)=false from decide_eq_false (by omega)];refine Ar H ?_;rw[show decide ((j:Int)≥(x.w.length:Int))=false from decide_eq_false (by omega)];refine YS H ?_;replace H:=Js [6,6,0,0,0,0,0,0,0,0] 0 H;obtain⟨bL,sL,D1,D2,R,rfl,H,hD,QM⟩:=Sx (by rw[← h2,length_map]) H hy;obtain⟨vr,vq,ly⟩:=y;obtain rfl:ly=YE m x:=CB;refine J1 H ?_;clear H;intro w H;refine YN H ?_;refine Jl 3 [12] H ?_;refine Mv H ?_;refine Jl 7 [12] H ?_;refine Ja 8 ?_;rw[show IntKind.i64.wrap ((x.lay:Int) - 1)=((x.lay - 1:Nat):Int) by rw[Qg (by omega) (by have:=hm.lays.1;rw[← h2,length_map] at this;omega)];omega];refine Bn 9 rfl (Q9.none rfl) rfl rfl (by omega) (by rw[← h2,length_map];omega) (by kernel_rfl) ?_;refine Vw 10 [12] H rfl (Q9.none rfl) rfl (Nl hy) (by kernel_rfl) ?_;refine Ja 11 ?_;refine Jo 12 H ?_;refine Jk rfl rfl (fa vr vq (YE m x) hR j (gM Ve (by omega)) (by omega) ((hD _).there) H) ?_;clear H;rintro v w ⟨rfl,H⟩;refine C4 H ?_;replace H:=QM _ _ H;replace H:=Js [2,2,2,2,2,2,0,0,0,0] 0 H;replace H:=K2 hx (QK _ _ _ V7 H);generalize hbb:Va (YE m x) j=bb;cases bb with
   | true=>
    cases ref with
    | true=>
     refine N2 H ?_;have Ym:Vs m k j true=0:=by rw[hr];unfold Qc;rw[if_neg h1,Int.toNat_natCast,if_neg (by rw[hbb];decide)]
     refine Ay H ?_;refine Q3 (Jy H rfl fun w' H'=>⟨by rw[Ym];rfl,H'⟩)
    | false=>
     refine N2 H ?_;have Ym:Vs m k j false=9:=by rw[hr];unfold Qc;rw[if_neg h1,Int.toNat_natCast,if_pos (by rw[hbb];decide)]
     refine ZD H ?_;refine Q3 (Jy H rfl fun w' H'=>⟨by rw[Ym];rfl,H'⟩)
   | false=>
    cases ref with
    | true=>
     refine N2 H ?_;have Ym:Vs m k j true=9:=by rw[hr];unfold Qc;rw[if_neg h1,Int.toNat_natCast,if_pos (by rw[hbb];decide)]
     refine ZD H ?_;refine Q3 (Jy H rfl fun w' H'=>⟨by rw[Ym];rfl,H'⟩)
    | false=>
     refine N2 H ?_;have Ym:Vs m k j false=0:=by rw[hr];unfold Qc;rw[if_neg h1,Int.toNat_natCast,if_neg (by rw[hbb];decide)]
     refine Ay H ?_;refine Q3 (Jy H rfl fun w' H'=>⟨by rw[Ym];rfl,H'⟩)
@[reducible] def G4 (m:MS) (k:Nat) (x:QT):MS:={ m with objs:=m.objs.set k x }
theorem Dm {m:MS} (h:Vc m) {o:Nat} {x:QT} (hx:K1 m.lays m.objs.length x):Vc (G4 m o x):=by
 refine⟨h.P,h.lays,fun y hy=>?_,by show (m.objs.set o x).length≤_;rw[length_set];exact h.few⟩;have hl:(m.objs.set o x).length=m.objs.length:=length_set;show K1 m.lays (m.objs.set o x).length y;rw[hl]
 rcases mem_or_eq_of_mem_set hy with hy|rfl
 ·exact h.objs y hy
 ·exact hx
def Xc (m:MS) (o:Int):MS×Nat:=
 match VH m o with
 | none=>(m,8)
 | some (k,x)=>(G4 m k { x with held:=false },0)
theorem qS [Q4] (p:Nat) (m:MS) (o:Int) {w:World} {fr:List Q2} (H:Q0 w (V0 p m::fr)) :
  Calls Tryz.prog 172 #[pp p,.int .i64 o] w (ret fun v w'=>v = .int .i64 ((Xc m o).2:Nat)∧Q0 w' (V0 p (Xc m o).1::fr)):=by
 refine QQ Tryz.func172 rfl (by kernel_rfl) ?_;refine Re H ?_;refine Jc rfl rfl (Dk p m o H) ?_;clear H;rintro v w ⟨rfl,H⟩;refine J0 H ?_;cases hv:VH m o with
 | none=>
  have hr:Xc m o=(m,8):=by unfold Xc;rw[hv]
  rw[hr];refine FQ H ?_;refine Q3 (Jy H rfl fun w' H'=>⟨rfl,H'⟩)
 | some kx=>
  obtain⟨k,x⟩:=kx;have hr:Xc m o=(G4 m k { x with held:=false },0):=by unfold Xc;rw[hv]
  rw[hr];obtain⟨rfl,hx,hh,hg⟩:=WD hv;have VB:=(List.getElem?_eq_some_iff.1 hx).1;obtain⟨t,lc,aL,cL,bO,cO,s,ptrs,q,vw,vk,vt,rest,hm,h2,hp,H,QK⟩:=X5 H hx;have V7:Vc (G4 m k { x with held:=false }):=Dm hm (by obtain⟨a,b,c,d,e⟩:=hm.objs x (mem_of_getElem? hx);exact⟨a,b,c,d,e⟩);refine KC H ?_;refine VM H ?_;refine Jd ?_;refine Q5 rfl (QA H rfl hp rfl ?_);refine XH H ?_;clear H;intro w H;refine DB H ?_;refine Q3 (Jy (QK _ _ _ V7 H) rfl fun w' H'=>⟨rfl,H'⟩)
def Xd (m:MS) (o:Int) (on:Bool):MS×Nat:=
 match VH m o with
 | none=>(m,8)
 | some (k,x)=>if x.pinned=on then (m,7) else (G4 m k { x with pinned:=on },0)
theorem qT [Q4] (p:Nat) (m:MS) (o:Int) (on:Bool) {w:World} {fr:List Q2} (H:Q0 w (V0 p m::fr)) :
  Calls Tryz.prog 174 #[pp p,.int .i64 o,.bool on] w (ret fun v w'=>v = .int .i64 ((Xd m o on).2:Nat)∧Q0 w' (V0 p (Xd m o on).1::fr)):=by
 refine QQ Tryz.func174 rfl (by kernel_rfl) ?_;refine Re H ?_;refine Jc rfl rfl (Dk p m o H) ?_;clear H;rintro v w ⟨rfl,H⟩;refine J0 H ?_;cases hv:VH m o with
 | none=>
  have hr:Xd m o on=(m,8):=by unfold Xd;rw[hv]
  rw[hr];refine FQ H ?_;refine Q3 (Jy H rfl fun w' H'=>⟨rfl,H'⟩)
 | some kx=>
  obtain⟨k,x⟩:=kx;have hr:Xd m o on=if x.pinned=on then (m,7) else (G4 m k { x with pinned:=on },0):=by unfold Xd;rw[hv]
  rw[hr];obtain⟨rfl,hx,hh,hg⟩:=WD hv;have VB:=(List.getElem?_eq_some_iff.1 hx).1;obtain⟨t,lc,aL,cL,bO,cO,s,ptrs,q,vw,vk,vt,rest,hm,h2,hp,H,QK⟩:=X5 H hx;have Ed:=BK hx hm;have V7:Vc (G4 m k { x with pinned:=on }):=Dm hm (by obtain⟨a,b,c,d,e⟩:=hm.objs x (mem_of_getElem? hx);exact⟨a,b,c,d,e⟩);refine KC H ?_;obtain⟨xr,xl,xc,xw,xk,xt,xh,xp,xg⟩:=x;refine VM H ?_;refine Jd ?_;refine Q5 rfl (QA H rfl hp rfl ?_);cases xp with
  | true=>
   cases on with
   | true=>
    refine N3 H ?_;refine J2 H ?_;refine ZD H ?_;refine Q3 (Jy (K2 hx (QK _ _ _ Ed H)) rfl fun w' H'=>⟨rfl,H'⟩)
   | false=>
    refine N3 H ?_;refine C5 H ?_;refine VM H ?_;refine Jd ?_;refine Q5 rfl (QA H rfl hp rfl ?_);refine ZS H ?_;refine Rc H ?_;clear H;intro w H;refine DB H ?_;refine Q3 (Jy (QK _ _ _ V7 H) rfl fun w' H'=>⟨rfl,H'⟩)
  | false=>
   cases on with
   | true=>
    refine N3 H ?_;refine C5 H ?_;refine VM H ?_;refine Jd ?_;refine Q5 rfl (QA H rfl hp rfl ?_);refine ZS H ?_;refine Rc H ?_;clear H;intro w H;refine DB H ?_;refine Q3 (Jy (QK _ _ _ V7 H) rfl fun w' H'=>⟨rfl,H'⟩)
   | false=>
    refine N3 H ?_;refine J2 H ?_;refine ZD H ?_;refine Q3 (Jy (K2 hx (QK _ _ _ Ed H)) rfl fun w' H'=>⟨rfl,H'⟩)
theorem Fm {l:List Nat} {spare:List Value} {i x:Nat} {v:Int} (h:i < l.length) (hv:v=(x:Nat)):(QH l++spare).set (0+i*1) (.int .i64 v)=QH (l.set i x)++spare:=by subst hv;exact Nb h
theorem K3 {m:MS} {o place:Int} {ref:Bool} {k:Nat} {x:QT} (h:VH m o=some (k,x)):Vs m o place ref=Qc (YE m x) x.w.length place ref:=by unfold Vs;rw[h]
theorem WE {m:MS} {o place:Int} {ref:Bool} (h:VH m o=none):Vs m o place ref=8:=by unfold Vs;rw[h]
def Kx (m:MS) (o place:Int):MS×Nat:=
 match VH m o with
 | none=>(m,8)
 | some (k,x)=>if Qc (YE m x) x.w.length place true=0 then (G4 m k { x with kind:=x.kind.set place.toNat 0,to:=x.to.set place.toNat 0 },0) else (m,Qc (YE m x) x.w.length place true)
theorem gN {m:MS} {o place:Int} (h:VH m o=none):Kx m o place=(m,8):=by unfold Kx;rw[h]
theorem Sz {m:MS} {o place:Int} {k:Nat} {x:QT} (h:VH m o=some (k,x)):Kx m o place=if Qc (YE m x) x.w.length place true=0 then (G4 m k { x with kind:=x.kind.set place.toNat 0,to:=x.to.set place.toNat 0 },0) else (m,Qc (YE m x) x.w.length place true):=by unfold Kx;rw[h]
theorem T0 {ls:List Qb} {n:Nat} {x:QT} (h:K1 ls n x) (j kd t:Nat) (hk:kd=2→t < n):K1 ls n { x with kind:=x.kind.set j kd,to:=x.to.set j t }:=by
 obtain⟨a,b,c,d,e⟩:=h;refine⟨a,b,by show (x.kind.set j kd).length=_;rw[length_set];exact c,by show (x.to.set j t).length=_;rw[length_set];exact d,?_⟩;intro i (hi:(x.kind.set j kd)[i]? = some 2);show (x.to.set j t).getD i 0 < n;by_cases Yf:j=i
 ·subst Yf
  have hl:j < x.kind.length:=by
   have:=(List.getElem?_eq_some_iff.1 hi).1;simpa using this
  rw[getElem?_set_self hl] at hi;injection hi with hi
  rw[getD_eq_getElem?_getD,getElem?_set_self (by omega)];exact hk hi
 ·rw[getElem?_set_ne Yf] at hi;have:=e i hi;rw[getD_eq_getElem?_getD,getElem?_set_ne Yf,← getD_eq_getElem?_getD];exact this
theorem qa [Q4] (p:Nat) (m:MS) (o place:Int) {w:World} {fr:List Q2} (H:Q0 w (V0 p m::fr)) :
  Calls Tryz.prog 170 #[pp p,.int .i64 o,.int .i64 place] w (ret fun v w'=>v = .int .i64 ((Kx m o place).2:Nat)∧Q0 w' (V0 p (Kx m o place).1::fr)):=by
 refine QQ Tryz.func170 rfl (by kernel_rfl) ?_;refine DA H ?_;refine Jc rfl rfl (CO p m o place true H) ?_;clear H;rintro v w ⟨rfl,H⟩;refine ZX H ?_;by_cases h0:Vs m o place true=0
 ·obtain⟨k,x,hv⟩:∃ k x,VH m o=some (k,x):=by
   cases hv:VH m o with
   | none=>rw[WE hv] at h0;cases h0
   | some kx=>exact⟨kx.1,kx.2,rfl⟩
  rw[K3 hv] at h0 ⊢;rw[Sz hv,if_pos h0,h0];obtain⟨rfl,hx,hh,hg⟩:=WD hv;have VB:=(List.getElem?_eq_some_iff.1 hx).1;obtain⟨j,rfl,hj,hr⟩:=UI h0;rw[Int.toNat_natCast];obtain⟨t,lc,aL,cL,bO,cO,s,ptrs,q,vw,vk,vt,rest,hm,h2,hp,H,QK⟩:=X5 H hx;have Uj:=hm.objs x (mem_of_getElem? hx);have Gt:=Uj.kind;have O2:=Uj.to;have Zg:=BR (w:=hm) hx;obtain⟨ak,ck,rfl⟩:=QI H.drop.drop (QJ _) (by decide);obtain⟨at',ct,rfl⟩:=QI H.drop.drop.drop (QJ _) (by decide);replace H:=Js [2,0,0,0] 0 H;obtain⟨bk,sk,rfl,H,_,_,U6⟩:=GJ H (by omega);replace H:=Js [3,0,0,0] 0 H;obtain⟨bt,st,rfl,H,_,_,Ky⟩:=GJ H (by omega);refine Vr H ?_;refine VM H ?_;refine Jd ?_;refine Q5 rfl (QA H rfl hp rfl ?_);refine FV H ?_;refine Jd ?_;refine Q5 rfl (Zv H rfl rfl inferInstance rfl (by simp only[length_append,QJ];omega) rfl ?_);clear H;intro w H;rw[Int.toNat_natCast,Fm (v:=0) (x:=0) (by omega) rfl] at H;refine N4 H ?_;refine Jd ?_;refine Q5 rfl (QA H rfl hp rfl ?_);refine FV H ?_;refine Jd ?_;refine Q5 rfl (Zv H rfl rfl inferInstance rfl (by simp only[length_append,QJ];omega) rfl ?_);clear H;intro w H;rw[Int.toNat_natCast,Fm (v:=0) (x:=0) (by omega) rfl] at H;refine J2 H ?_;replace H:=Js [1,0,0,0] 0 H;replace H:=U6 _ _ (QH (x.kind.set j 0)) (by simp[QH]) H;replace H:=Js [1,0,0,0] 0 H;replace H:=Ky _ _ (QH (x.to.set j 0)) (by simp[QH]) H;replace H:=Js [2,2,1,0] 0 H;replace H:=QK _ _ { x with kind:=x.kind.set j 0,to:=x.to.set j 0 } (Dm hm (T0 Uj j 0 0 (by omega))) H;refine J3 H ?_;exact Q3 (Jy H rfl fun w' H'=>⟨rfl,H'⟩)
 ·have hc:Kx m o place=(m,Vs m o place true):=by
   cases hv:VH m o with
   | none=>rw[gN hv,WE hv]
   | some kx=>
    obtain⟨k,x⟩:=kx;rw[K3 hv] at h0 ⊢;rw[Sz hv,if_neg h0]
  rw[hc,show (((Vs m o place true:Nat):Int) == 0)=false by simpa using h0];refine DF H ?_;exact Q3 (Jy H rfl fun w' H'=>⟨rfl,H'⟩)
def Zr (m:MS) (o place u:Int):MS×Nat:=
 match VH m o with
 | none=>(m,8)
 | some (k,x)=>if Qc (YE m x) x.w.length place true=0 then match VH m u with
  | none=>(m,8)
  | some (ku,_)=>(G4 m k { x with kind:=x.kind.set place.toNat 2,to:=x.to.set place.toNat ku },0)
  else (m,Qc (YE m x) x.w.length place true)
theorem qb [Q4] (p:Nat) (m:MS) (o place u:Int) {w:World} {fr:List Q2} (H:Q0 w (V0 p m::fr)) :
  Calls Tryz.prog 168 #[pp p,.int .i64 o,.int .i64 place,.int .i64 u] w (ret fun v w'=>v = .int .i64 ((Zr m o place u).2:Nat)∧Q0 w' (V0 p (Zr m o place u).1::fr)):=by
 refine QQ Tryz.func168 rfl (by kernel_rfl) ?_;refine DA H ?_;refine Jc rfl rfl (CO p m o place true H) ?_;clear H;rintro v w ⟨rfl,H⟩;refine ZX H ?_;by_cases h0:Vs m o place true=0
 ·obtain⟨k,x,hv⟩:∃ k x,VH m o=some (k,x):=by
   cases hv:VH m o with
   | none=>rw[WE hv] at h0;cases h0
   | some kx=>exact⟨kx.1,kx.2,rfl⟩
  rw[K3 hv] at h0 ⊢;rw[h0];refine F0 H ?_;refine Jc rfl rfl (Dk p m u H) ?_;clear H;rintro v w ⟨rfl,H⟩;refine J0 H ?_;cases hu:VH m u with
  | none=>
   have hr:Zr m o place u=(m,8):=by unfold Zr;rw[hv];show (if Qc _ _ _ _=0 then _ else _)=_;rw[if_pos h0,hu]
   rw[hr];refine FQ H ?_;exact Q3 (Jy H rfl fun w' H'=>⟨rfl,H'⟩)
  | some kx=>
  obtain⟨ku,xu⟩:=kx;have hr:Zr m o place u=(G4 m k { x with kind:=x.kind.set place.toNat 2,to:=x.to.set place.toNat ku },0):=by unfold Zr;rw[hv];show (if Qc _ _ _ _=0 then _ else _)=_;rw[if_pos h0,hu]
  rw[hr];obtain⟨rfl,hx,hh,hg⟩:=WD hv;obtain⟨rfl,qc,_,_⟩:=WD hu;have VB:=(List.getElem?_eq_some_iff.1 hx).1;have qd:=(List.getElem?_eq_some_iff.1 qc).1;obtain⟨j,rfl,hj,hr⟩:=UI h0;rw[Int.toNat_natCast];refine KC H ?_;obtain⟨t,lc,aL,cL,bO,cO,s,ptrs,q,vw,vk,vt,rest,hm,h2,hp,H,QK⟩:=X5 H hx;have Uj:=hm.objs x (mem_of_getElem? hx);have Gt:=Uj.kind;have O2:=Uj.to;have Zg:=BR (w:=hm) hx;obtain⟨ak,ck,rfl⟩:=QI H.drop.drop (QJ _) (by decide);obtain⟨at',ct,rfl⟩:=QI H.drop.drop.drop (QJ _) (by decide);replace H:=Js [2,0,0,0] 0 H;obtain⟨bk,sk,rfl,H,_,_,U6⟩:=GJ H (by omega);replace H:=Js [3,0,0,0] 0 H;obtain⟨bt,st,rfl,H,_,_,Ky⟩:=GJ H (by omega);refine VM H ?_;refine Jd ?_;refine Q5 rfl (QA H rfl hp rfl ?_);refine FV H ?_;refine Jd ?_;refine Q5 rfl (Zv H rfl rfl inferInstance rfl (by simp only[length_append,QJ];omega) rfl ?_);clear H;intro w H;rw[Int.toNat_natCast,Fm (v:=2) (x:=2) (by omega) rfl] at H;refine N4 H ?_;refine Jd ?_;refine Q5 rfl (QA H rfl hp rfl ?_);refine Jv ?_;refine DJ H ?_;refine Jd ?_;refine Q5 rfl (Zv H rfl rfl inferInstance rfl (by simp only[length_append,QJ];omega) rfl ?_);clear H;intro w H;rw[Int.toNat_natCast,Fm (v:=ku) (x:=ku) (by omega) rfl] at H;refine J2 H ?_;replace H:=Js [1,0,0,0] 0 H;replace H:=U6 _ _ (QH (x.kind.set j 2)) (by simp[QH]) H;replace H:=Js [1,0,0,0] 0 H;replace H:=Ky _ _ (QH (x.to.set j ku)) (by simp[QH]) H;replace H:=Js [2,2,1,0] 0 H;replace H:=QK _ _ { x with kind:=x.kind.set j 2,to:=x.to.set j ku } (Dm hm (T0 Uj j 2 ku (fun _=>qd))) H;refine Vl H ?_;exact Q3 (Jy H rfl fun w' H'=>⟨rfl,H'⟩)
 ·have hc:Zr m o place u=(m,Vs m o place true):=by
   cases hv:VH m o with
   | none=>unfold Zr;rw[hv,WE hv]
   | some kx=>
    obtain⟨k,x⟩:=kx;rw[K3 hv] at h0 ⊢;unfold Zr;rw[hv];show (if Qc _ _ _ _=0 then _ else _)=_;rw[if_neg h0]
  rw[hc,show (((Vs m o place true:Nat):Int) != 0)=true by simpa using h0];refine G2 H ?_;exact Q3 (Jy H rfl fun w' H'=>⟨rfl,H'⟩)
def AV (m:MS) (t:Nat):MS:=match m.objs[t]? with|some y=>G4 m t { y with held:=true }|none=>m
def ZF (m:MS) (o place:Int):MS×Nat×Nat×Nat:=
 match VH m o with
 | none=>(m,0,0,8)
 | some (_,x)=>if Qc (YE m x) x.w.length place true=0 then (if x.kind.getD place.toNat 0=2 then AV m (x.to.getD place.toNat 0) else m,x.kind.getD place.toNat 0,x.to.getD place.toNat 0,0) else (m,0,0,Qc (YE m x) x.w.length place true)
theorem qe [Q4] (p:Nat) (m:MS) (o place:Int) {w:World} {fr:List Q2} (H:Q0 w (V0 p m::fr)) :
  Calls Tryz.prog 167 #[pp p,.int .i64 o,.int .i64 place] w (ret fun v w'=>v = .tuple #[.int .i64 ((ZF m o place).2.1:Nat),.int .i64 ((ZF m o place).2.2.1:Nat),.int .i64 ((ZF m o place).2.2.2:Nat)]∧Q0 w' (V0 p (ZF m o place).1::fr)):=by
 refine QQ Tryz.func167 rfl (by kernel_rfl) ?_;refine Vj H ?_;refine Y7 H ?_;refine Jc rfl rfl (CO p m o place true H) ?_;clear H;rintro v w ⟨rfl,H⟩;refine ZX H ?_;by_cases h0:Vs m o place true=0
 ·obtain⟨k,x,hv⟩:∃ k x,VH m o=some (k,x):=by
   cases hv:VH m o with
   | none=>rw[WE hv] at h0;cases h0
   | some kx=>exact⟨kx.1,kx.2,rfl⟩
  rw[K3 hv] at h0 ⊢;have qf:ZF m o place=(if x.kind.getD place.toNat 0=2 then AV m (x.to.getD place.toNat 0) else m,x.kind.getD place.toNat 0,x.to.getD place.toNat 0,0):=by unfold ZF;rw[hv];show (if Qc _ _ _ _=0 then _ else _)=_;rw[if_pos h0]
  rw[qf,h0];refine Vf H ?_;obtain⟨rfl,hx,hh,hg⟩:=WD hv;have VB:=(List.getElem?_eq_some_iff.1 hx).1;obtain⟨j,rfl,hj,hr⟩:=UI h0;rw[Int.toNat_natCast];obtain⟨t,lc,aL,cL,bO,cO,s,ptrs,q,vw,vk,vt,rest,hm,h2,hp,H,QK⟩:=X5 H hx;have Uj:=hm.objs x (mem_of_getElem? hx);have Gt:=Uj.kind;have O2:=Uj.to;have Zg:=BR (w:=hm) hx;obtain⟨ak,ck,rfl⟩:=QI H.drop.drop (QJ _) (by decide);obtain⟨at',ct,rfl⟩:=QI H.drop.drop.drop (QJ _) (by decide);replace H:=Js [2,0,0,0] 0 H;obtain⟨bk,sk,rfl,H,_,_,U6⟩:=GJ H (by omega);replace H:=Js [3,0,0,0] 0 H;obtain⟨bt,st,rfl,H,_,_,Ky⟩:=GJ H (by omega);have Xe:=getElem?_eq_getElem (l:=x.kind) (i:=j) (by omega);have WH:=getElem?_eq_getElem (l:=x.to) (i:=j) (by omega);have G5:x.kind.getD j 0=x.kind[j]:=by rw[getD_eq_getElem?_getD,Xe];rfl
  have BW:x.to.getD j 0=x.to[j]:=by rw[getD_eq_getElem?_getD,WH];rfl
  have K4:=Uj.goes j;rw[BW] at K4;rw[G5,BW];generalize x.kind[j]=kd at *;generalize x.to[j]=td at *;refine VM H ?_;refine Jd ?_;refine Q5 rfl (QA H rfl hp rfl ?_);refine FV H ?_;refine Jd ?_;refine Q5 rfl (QA H rfl (U4 Xe) rfl ?_);refine J0 H ?_;refine VM H ?_;refine Jd ?_;refine Q5 rfl (QA H rfl hp rfl ?_);refine FV H ?_;refine Jd ?_;refine Q5 rfl (QA H rfl (U4 WH) rfl ?_);refine J0 H ?_;replace H:=Js [1,0,0,0] 0 H;replace H:=U6 _ _ (QH x.kind) rfl H;replace H:=Js [1,0,0,0] 0 H;replace H:=Ky _ _ (QH x.to) rfl H;replace H:=Js [2,2,1,0] 0 H;replace H:=K2 hx (QK _ _ x (BK hx hm) H);clear U6 Ky QK;refine J3 H ?_;by_cases Yj:kd=2
  ·subst Yj;rw[if_pos rfl];have Bt:=K4 Xe;have hy:=getElem?_eq_getElem Bt;generalize m.objs[td]=y at hy;have O1:AV m td=G4 m td { y with held:=true }:=by unfold AV;rw[hy]
   rw[O1];refine Vr H ?_;obtain⟨t',lc',aL',cL',bO',cO',s',ptrs',q',vw',vk',vt',rest',V7,Yj,Rk,H,QK⟩:=X5 H hy;refine VM H ?_;refine Jd ?_;refine Q5 rfl (QA H rfl Rk rfl ?_);refine XH H ?_;clear H;intro w H;refine J2 H ?_;refine Al H ?_;refine Q3 (Jy (QK _ _ { y with held:=true } (Dm hm (by obtain⟨a,b,c,d,e⟩:=hm.objs y (mem_of_getElem? hy);exact⟨a,b,c,d,e⟩)) H) rfl fun w' H'=>⟨rfl,H'⟩)
  ·rw[if_neg Yj,show ((kd:Int) == 2)=false by simp;omega];refine Vf H ?_;refine Al H ?_;exact Q3 (Jy H rfl fun w' H'=>⟨rfl,H'⟩)
 ·have hc:ZF m o place=(m,0,0,Vs m o place true):=by
   cases hv:VH m o with
   | none=>unfold ZF;rw[hv,WE hv]
   | some kx=>
    obtain⟨k,x⟩:=kx;rw[K3 hv] at h0 ⊢;unfold ZF;rw[hv];show (if Qc _ _ _ _=0 then _ else _)=_;rw[if_neg h0]
  rw[hc,show (((Vs m o place true:Nat):Int) != 0)=true by simpa using h0];refine Vr H ?_;refine DN H ?_;exact Q3 (Jy H rfl fun w' H'=>⟨rfl,H'⟩)
def X6:MS:=⟨[-1],[],[]⟩
theorem qg [Q4] {w:World} {fr:List Q2} (H:Q0 w fr):Calls Tryz.prog 99 #[] w (ret fun v w'=>∃ p,v=pp p∧Q0 w' (V0 p X6::fr)):=by
 refine QQ Tryz.func99 rfl (by kernel_rfl) ?_;refine IA H ?_;refine Jc rfl rfl (qM H) ?_;clear H;rintro v w ⟨t,rfl,H⟩;refine W6 H ?_;clear H;intro b3 w H;refine J0 H ?_;have H:Q0 w (star (([]:List OC).map Zk)::pts b3 (row 58 [pp t,.slice none 0 0,.slice none 0 0])::Vh t [-1]::fr):=Q0.star.2 H;have H:=Zy (E:=77) (k:=1) H;have H:Q0 w (star (([]:List GP).map Yp)::_):=Q0.star.2 H;have H:=Zy (E:=102) (k:=4) H;replace H:=Js [4,4,0,0,0,0] 0 H;have hm:Vc X6:=⟨⟨by simp[X6],by simp[X6]⟩,⟨by simp[X6],fun l h=>by cases h⟩,(fun l h=>by cases h),by simp[X6]⟩;exact Q3 (Jy (Zq (m:=X6) hm (lc:=[]) (oc:=[]) rfl rfl H) rfl fun w' H'=>⟨_,rfl,H'⟩)
def WI (m:MS) (parent:Int):MS×Nat×Nat:=if Gc m.P parent=0 then ({ m with P:=m.P++[parent] },m.P.length,0) else (m,0,Gc m.P parent)
theorem gO [Q4] (p:Nat) (m:MS) (parent:Int) (hP:m.P.length < 100000) {w:World} {fr:List Q2} (H:Q0 w (V0 p m::fr)) :
  Calls Tryz.prog 162 #[pp p,.int .i64 parent] w (ret fun v w'=>v = .tuple #[.int .i64 ((WI m parent).2.1:Nat),.int .i64 ((WI m parent).2.2:Nat)]∧Q0 w' (V0 p (WI m parent).1::fr)):=by
 obtain⟨t,lc,oc,aL,cL,aO,cO,hm,h2,h3,Z0,Y5,H⟩:=GA H;refine QQ Tryz.func162 rfl (by kernel_rfl) ?_;refine IM H ?_;replace H:=Js [1,0] 0 H;refine Jc rfl rfl (gJ t m.P parent (by omega) hm.P.1 H) ?_;clear H;rintro v w (⟨he,rfl,H⟩|⟨he,rfl,H⟩)
 ·have hr:WI m parent=(m,0,Gc m.P parent):=by unfold WI;rw[if_neg he]
  rw[hr];refine F2 H ?_;exact Q3 (Jy (Zq hm h2 h3 H.swap) rfl fun w' H'=>⟨rfl,H'⟩)
 ·have hr:WI m parent=({ m with P:=m.P++[parent] },m.P.length,0):=by unfold WI;rw[if_pos he]
  rw[hr];have V7:Vc { m with P:=m.P++[parent] }:=⟨⟨by simp,by simp;omega⟩,hm.lays,hm.objs,hm.few⟩;refine F2 H ?_;exact Q3 (Jy (Zq (m:={ m with P:=m.P++[parent] }) V7 h2 h3 H.swap) rfl fun w' H'=>⟨rfl,H'⟩)
def U7 (m:MS) (ws:List Nat):MS×Nat×Nat:=
 match Gq ws with
 | none=>(m,0,4)
 | some l=>if 64≤m.lays.length then (m,0,5) else ({ m with lays:=m.lays++[l] },m.lays.length+1,0)
theorem qh {ls:List Qb} {l:Qb} {n:Nat} {x:QT} (h:K1 ls n x):K1 (ls++[l]) n x:=by
 obtain⟨⟨l',a,a2⟩,b,c,d,e⟩:=h;exact⟨⟨l',by rw[getElem?_append_left (List.getElem?_eq_some_iff.1 a).1];exact a,a2⟩,b,c,d,e⟩
theorem qi [Q4] (p:Nat) (m:MS) (v:Value) (ws:List Nat) (Yq:∀ x∈ws,x < 18446744073709551616) {w:World} {fr:List Q2} (hr:Ya fr v ws.length 1 (Qi ws)) (H:Q0 w (V0 p m::fr)) :
  Calls Tryz.prog 161 #[pp p,v] w (ret fun r w'=>r = .tuple #[.int .i64 ((U7 m ws).2.1:Nat),.int .i64 ((U7 m ws).2.2:Nat)]∧Q0 w' (V0 p (U7 m ws).1::fr)):=by
 obtain⟨_,ad,cap,rfl,Ym⟩:=id hr;refine QQ Tryz.func161 rfl (by kernel_rfl) ?_;refine MC H ?_;refine Jc rfl rfl (qL _ ws Yq hr.there H) ?_;clear H;rintro r w (⟨hd,rfl,H⟩|⟨l,vr,vq,hd,rfl,H⟩)
 ·have G0:U7 m ws=(m,0,4):=by unfold U7;rw[hd]
  rw[G0];refine YA H ?_;clear H;intro b6 w H;refine J5 H ?_;clear H;intro w H;refine IP H ?_;exact Q3 (Jy H.drop rfl fun w' H'=>⟨rfl,H'⟩)
 ·obtain⟨a1,m1,c1,rfl⟩:=V8 H;obtain⟨a2,m2,c2,rfl⟩:=V8 H.swap;replace H:=Js [2,0,0] 0 H;obtain⟨t,lc,oc,aL,cL,aO,cO,hm,h2,h3,Z0,Y5,H⟩:=GA H;refine YA H ?_;clear H;intro b6 w H;refine J5 H ?_;clear H;intro w H;refine ZT H ?_;refine N5 H ?_;by_cases Y0:64≤m.lays.length
  ·have G0:U7 m ws=(m,0,5):=by unfold U7;rw[hd];show (if _ then _ else _)=_;rw[if_pos Y0]
   rw[G0];rw[show decide ((m.lays.length:Int)≥64)=true from decide_eq_true (by omega)];refine G2 H ?_;have H:=Zq hm h2 h3 H.drop;replace H:=Js [0] 2 H;exact Q3 (Jy H rfl fun w' H'=>⟨rfl,H'⟩)
  ·have G0:U7 m ws=({ m with lays:=m.lays++[l] },m.lays.length+1,0):=by unfold U7;rw[hd];show (if _ then _ else _)=_;rw[if_neg Y0]
   rw[G0]
   have hR:YU l:=by
    unfold Gq at hd;split at hd
    ·split at hd
     ·injection hd with hd;rename_i hx;rw[← hd];exact hx.2
     ·cases hd
    ·cases hd
   have V7:Vc { m with lays:=m.lays++[l] }:=⟨hm.P,⟨by show (m.lays++[l]).length≤64;simp;omega,fun x hx=>by
    rcases mem_append.1 hx with hx|hx
    ·exact hm.lays.2 x hx
    ·simp at hx;subst hx;exact hR⟩,fun x hx=>qh (hm.objs x hx),hm.few⟩
   rw[show decide ((m.lays.length:Int)≥64)=false from decide_eq_false (by omega)];refine IW H ?_;clear H;intro w H;refine C0 H ?_;refine Jl 4 [7,10] H ?_;refine S0 H ?_;refine Jo 6 H ?_;refine DX H ?_;clear H;intro b27 w H;replace H:=Js [4,0,0,0,0] 0 H;refine Jo 7 H ?_;refine ZU H rfl rfl (by repeat first|exact .nil _|apply QY.cons rfl) rfl (by decide) (by rw[CC];simp only[length_cons,length_nil];omega) rfl rfl ?_;clear H;intro v28 w H
   have e1:Vb lc++[.int .i64 l.fixed,.slice a1 m1 c1,.int .i64 l.record,.slice a2 m2 c2]=Vb (lc++[(.slice a1 m1 c1,.slice a2 m2 c2,l)]):=by
    rw[fJ];rfl
   rw[e1] at H;have Sf:(lc++[((.slice a1 m1 c1:Value),(.slice a2 m2 c2:Value),l)]).length=m.lays.length+1:=by simp[Z0]
   obtain⟨a28,c28,rfl⟩:=QI H (m:=m.lays.length+1) (by rw[CC,Sf]) (by decide);refine Ja 8 ?_;refine Jf 9 ?_;refine Jo 10 H ?_;refine KE H ?_;clear H;intro w H;refine Jx H ?_;refine Mm H ?_;refine J4 H ?_;replace H:=Js [8,8,5,3,3,0,2,2] 2 H
   have H1:Q0 w (star ((lc++[((.slice a1 m1 c1:Value),(.slice a2 m2 c2:Value),l)]).map Yp)::pts p (row 58 [pp t,.slice a28 (m.lays.length+1) c28,.slice aO m.objs.length cO])::Vh t m.P::QE 102 4 (.slice a28 (m.lays.length+1) c28) (Vb (lc++[(.slice a1 m1 c1,.slice a2 m2 c2,l)]))::QE 77 1 (.slice aO m.objs.length cO) (oc.map fun x=>pp x.ptr)::star (oc.map Zk)::fr):=by
    refine(Q0.pick (x:=((.slice a1 m1 c1:Value),(.slice a2 m2 c2:Value),l)) (g1:=lc) (g2:=[]) rfl).2 ?_;rw[append_nil];refine Q0.star.2 ?_;exact H
   replace H1:=Js [1,1,1,0,0,0] 0 H1;have H2:=Zq (m:={ m with lays:=m.lays++[l] }) V7 (lc:=lc++[((.slice a1 m1 c1:Value),(.slice a2 m2 c2:Value),l)]) (by rw[map_append,h2];rfl) h3 H1;exact Q3 (Jy H2 rfl fun w' H'=>⟨rfl,H'⟩)
def YO (m:MS) (region lay count:Int):Nat×Nat:=
 if Yb m.P region=false then (0,15) else if lay < 1∨(m.lays.length:Int) < lay then (0,6) else Vg ((m.lays[lay.toNat - 1]?).getD ⟨0,[],0,[]⟩) count
theorem gP [Q4] (p:Nat) (m:MS) (region lay count:Int) {w:World} {fr:List Q2} (H:Q0 w (V0 p m::fr)) :
  Calls Tryz.prog 229 #[pp p,.int .i64 region,.int .i64 lay,.int .i64 count] w (ret fun v w'=>v = .tuple #[.int .i64 ((YO m region lay count).1:Nat),.int .i64 ((YO m region lay count).2:Nat)]∧Q0 w' (V0 p m::fr)):=by
 obtain⟨t,lc,oc,aL,cL,aO,cO,hm,h2,h3,Z0,Y5,H⟩:=GA H;refine QQ Tryz.func229 rfl (by kernel_rfl) ?_;refine IM H ?_;replace H:=Js [1,0] 0 H;refine Jc rfl rfl (CN t m.P region H) ?_;clear H;rintro v w ⟨rfl,H⟩;generalize ZQ:Yb m.P region=lv;have Q0i:=hm.lays.1;cases lv with
 | false=>
  have hr:YO m region lay count=(0,15):=by unfold YO;rw[if_pos ZQ]
  rw[hr];refine IP H ?_;exact Q3 (Jy (Zq hm h2 h3 H.swap) rfl fun w' H'=>⟨rfl,H'⟩)
 | true=>
  replace H:=Js [1,0] 0 H;refine ZT H ?_;by_cases h1:lay < 1
  ·have hr:YO m region lay count=(0,6):=by unfold YO;rw[if_neg (by rw[ZQ];decide),if_pos (.inl h1)]
   rw[hr];refine J9 H ?_;rw[show decide (lay < 1)=true from decide_eq_true (by omega)];refine IG H ?_;refine I2 H ?_;exact Q3 (Jy (Zq hm h2 h3 H) rfl fun w' H'=>⟨rfl,H'⟩)
  ·refine J9 H ?_;rw[show decide (lay < 1)=false from decide_eq_false (by omega)];refine Ar H ?_;by_cases Yj:(m.lays.length:Int) < lay
   ·have hr:YO m region lay count=(0,6):=by unfold YO;rw[if_neg (by rw[ZQ];decide),if_pos (.inr Yj)]
    rw[hr];rw[show decide (lay > (m.lays.length:Int))=true from decide_eq_true (by omega)];refine I2 H ?_;exact Q3 (Jy (Zq hm h2 h3 H) rfl fun w' H'=>⟨rfl,H'⟩)
   ·obtain⟨la,rfl⟩:∃ la:Nat,lay=((la+1:Nat):Int):=⟨lay.toNat - 1,by omega⟩;have A1:la < lc.length:=by omega
    have hy:=getElem?_eq_getElem A1;generalize lc[la]=y at hy;have CB:m.lays[la]? = some y.2.2:=by rw[← h2,getElem?_map,hy];rfl
    have hr:YO m region ((la+1:Nat):Int) count=Vg y.2.2 count:=by
     unfold YO;rw[if_neg (by rw[ZQ];decide),if_neg (by omega),Int.toNat_natCast,Nat.add_sub_cancel,CB];rfl
    rw[hr];have hR:=hm.lays.2 _ (mem_of_getElem? CB);rw[show decide (((la+1:Nat):Int) > (m.lays.length:Int))=false from decide_eq_false (by omega)];refine YS H ?_;replace H:=Js [2,2,0,0,0,0] 0 H;obtain⟨bL,sL,D1,D2,R,rfl,H,hD,QM⟩:=Sx Z0 H hy;obtain⟨vr,vq,l⟩:=y;refine XF H ?_;rw[show IntKind.i64.wrap (((la+1:Nat):Int) - 1)=(la:Int) by rw[Qg (by omega) (by omega)];omega];refine Jd ?_;refine Q5 rfl (Vz H rfl (Nl hy) rfl ?_);refine Jv ?_;refine Jc rfl rfl (pb vr vq l hR count ((hD _).there) H) ?_;clear H;rintro v w ⟨rfl,H⟩;refine F2 H ?_;replace H:=QM _ _ H;replace H:=Js [2,2,0,0,0,0] 0 H;exact Q3 (Jy (Zq hm h2 h3 H) rfl fun w' H'=>⟨rfl,H'⟩)
def X7 (region lay count:Int) (n:Nat):QT:=⟨region.toNat,lay.toNat,count.toNat,List.replicate n 0,List.replicate n 0,List.replicate n 0,true,false,false⟩
def BA (m:MS) (region lay count:Int):MS:={ m with objs:=m.objs++[X7 region lay count (YO m region lay count).1] }
theorem O3 {m:MS} {region lay count:Int} (h:(YO m region lay count).2=0):∃ (r la c:Nat) (l:Qb),region=r∧lay=(la+1:Nat)∧count=c∧Yb m.P region=true∧m.lays[la]? = some l∧YO m region lay count=Vg l c∧Vg l c=(l.fixed+c*l.record,0)∧l.fixed+c*l.record < 8192:=by
 unfold YO at h ⊢;by_cases h1:Yb m.P region=false
 ·rw[if_pos h1] at h;cases h
 ·rw[if_neg h1] at h ⊢;by_cases h2:lay < 1∨(m.lays.length:Int) < lay
  ·rw[if_pos h2] at h;cases h
  ·rw[if_neg h2] at h ⊢;have h3:Yb m.P region=true:=by simpa using h1
   have h4:0 < region:=by
    unfold Yb at h3;exact(of_decide_eq_true h3).1
   obtain⟨la,rfl⟩:∃ la:Nat,lay=((la+1:Nat):Int):=⟨lay.toNat - 1,by omega⟩;have A1:la < m.lays.length:=by omega
   have hl:=getElem?_eq_getElem A1;generalize m.lays[la]=l at hl;rw[Int.toNat_natCast,Nat.add_sub_cancel,hl] at h ⊢;replace h:(Vg l count).2=0:=h;unfold Vg at h;split at h
   ·cases h
   ·rename_i hc;split at h
    ·cases h
    ·rename_i hs;obtain⟨c,rfl⟩:∃ c:Nat,count=c:=⟨count.toNat,by omega⟩;rw[Int.toNat_natCast] at hs;refine⟨region.toNat,la,c,l,by omega,rfl,rfl,h3,hl,rfl,?_,by omega⟩;unfold Vg;rw[if_neg hc,Int.toNat_natCast,if_neg hs]
theorem T3 {m:MS} {region lay count:Int} (h:(YO m region lay count).2=0) (hm:Vc m) (hf:m.objs.length < 100000):Vc (BA m region lay count):=by
 obtain⟨r,la,c,l,rfl,rfl,rfl,hl,A1,Yr,Ve,Q6⟩:=O3 h;have Qw:(m.objs++[X7 r ((la+1:Nat):Int) c (YO m r ((la+1:Nat):Int) c).1]).length=m.objs.length+1:=by simp
 refine⟨hm.P,hm.lays,fun x hx=>?_,by show (m.objs++[_]).length≤_;rw[Qw];omega⟩;show K1 m.lays (m.objs++[_]).length x;rw[Qw]
 rcases mem_append.1 hx with hx|hx
 ·obtain⟨a,b,c,d,e⟩:=hm.objs x hx;exact⟨a,b,c,d,fun p hp=>by have:=e p hp;omega⟩
 ·simp only[mem_singleton] at hx;subst hx;rw[Yr,Ve];refine⟨⟨l,?_,hm.lays.2 l (mem_of_getElem? A1),?_⟩,?_,rfl,rfl,?_⟩
  ·show m.lays[(((la+1:Nat):Int).toNat) - 1]? = _;rw[Int.toNat_natCast];exact A1
  ·show Vg l ((((c:Nat):Int).toNat:Nat):Int)=((List.replicate (l.fixed+c*l.record) 0).length,0);rw[Int.toNat_natCast,Ve,length_replicate]
  ·show 1≤((la+1:Nat):Int).toNat;omega
  ·intro p hp;have:(List.replicate (l.fixed+c*l.record) 0)[p]? = some 2:=hp;rw[getElem?_replicate] at this;split at this <;> cases this
theorem Fo [Q4] {w:World} {p t bO bW bK bT n rr la c:Nat} {m:MS} {lc:List GP} {oc:List OC} {aL aS:Option Addr} {cL cS:Nat} {fr:List Q2} (V7:Vc { m with objs:=m.objs++[X7 (rr:Int) ((la+1:Nat):Int) (c:Int) n] }) (h2:lc.map (·.2.2)=m.lays) (h3:oc.map (·.ob)=m.objs) (Z0:lc.length=m.lays.length)
  (H : Q0 w (pts bO (row 76 [.int .i64 rr, .int .i64 ((la + 1 : Nat) : Int), .int .i64 c, .slice (some ⟨bW, 0, none⟩) n n, .slice (some ⟨bK, 0, none⟩) n n, .slice (some ⟨bT, 0, none⟩) n n, .bool true, .bool false, .bool false]) :: UL (.slice (some ⟨bW, 0, none⟩) n n) (List.replicate n 0) :: NL (.slice (some ⟨bK, 0, none⟩) n n) (List.replicate n 0) :: NL (.slice (some ⟨bT, 0, none⟩) n n) (List.replicate n 0) :: star (oc.map Zk) ::
   pts p (row 58 [pp t,.slice aL m.lays.length cL,.slice aS (m.objs.length+1) cS])::Vh t m.P::QE 102 4 (.slice aL m.lays.length cL) (Vb lc)::star (lc.map Yp)::QE 77 1 (.slice aS (m.objs.length+1) cS) ((oc.map fun x=>pp x.ptr)++[pp bO])::fr)) :
  Q0 w (V0 p { m with objs:=m.objs++[X7 (rr:Int) ((la+1:Nat):Int) (c:Int) n] }::fr):=by
 have H1:Q0 w (star ((oc++[(⟨bO,.slice (some ⟨bW,0,none⟩) n n,.slice (some ⟨bK,0,none⟩) n n,.slice (some ⟨bT,0,none⟩) n n,X7 (rr:Int) ((la+1:Nat):Int) (c:Int) n⟩:OC)]).map Zk)::pts p (row 58 [pp t,.slice aL m.lays.length cL,.slice aS (m.objs.length+1) cS])::Vh t m.P::QE 102 4 (.slice aL m.lays.length cL) (Vb lc)::star (lc.map Yp)::QE 77 1 (.slice aS (m.objs.length+1) cS) ((oc.map fun x=>pp x.ptr)++[pp bO])::fr):=by
  refine(Q0.pick (g1:=oc) (g2:=[]) rfl).2 ?_;rw[append_nil];exact Q0.star.2 H
 replace H1:=Js [1,1,1,1,1,0] 0 H1;exact Zq (m:={ m with objs:=m.objs++[X7 (rr:Int) ((la+1:Nat):Int) (c:Int) n] }) (oc:=oc++[(⟨bO,.slice (some ⟨bW,0,none⟩) n n,.slice (some ⟨bK,0,none⟩) n n,.slice (some ⟨bT,0,none⟩) n n,X7 (rr:Int) ((la+1:Nat):Int) (c:Int) n⟩:OC)]) V7 h2 (by rw[map_append,h3];rfl) (by rw[map_append];exact H1)
theorem qj [Q4] (p:Nat) (m:MS) (region lay count:Int) (Yr:(YO m region lay count).2=0) (hf:m.objs.length < 100000) {w:World} {fr:List Q2} (H:Q0 w (V0 p m::fr)) :
  Calls Tryz.prog 231 #[pp p,.int .i64 region,.int .i64 lay,.int .i64 count] w (ret fun v w'=>v = .tuple #[]∧Q0 w' (V0 p (BA m region lay count)::fr)):=by
 refine QQ Tryz.func231 rfl (by kernel_rfl) ?_;refine Wr H ?_;refine Jc rfl rfl (gP p m region lay count H) ?_;clear H;rintro v w ⟨rfl,H⟩;have hr:BA m region lay count={ m with objs:=m.objs++[X7 region lay count (YO m region lay count).1] }:=rfl;rw[hr];obtain⟨t,lc,oc,aL,cL,aO,cO,hm,h2,h3,Z0,Y5,H⟩:=GA H;have V7:Vc _:=T3 Yr hm hf;rw[hr] at V7;obtain⟨rr,la,c,l,rfl,rfl,rfl,ZQ,A1,UJ,Ve,Q6⟩:=O3 Yr;have Xy:(YO m (rr:Int) ((la+1:Nat):Int) (c:Int)).1=l.fixed+c*l.record:=by rw[UJ,Ve]
 rw[UJ,Ve] at V7 ⊢;generalize l.fixed+c*l.record=n at *
 have z1:Yl (VK (.int .u64 0)) n=Qi (List.replicate n 0):=by
  rw[show VK (.int .u64 0)=[.int .u64 0] from rfl,DV];simp[Qi]
 have z2:Yl (VK (.int .i64 0)) n=QH (List.replicate n 0):=by
  rw[show VK (.int .i64 0)=[.int .i64 0] from rfl,DV];simp[QH]
 refine MI H ?_;clear H;intro w H;refine C0 H ?_;refine Jl 4 [17,20] H ?_;refine Ja 5 ?_;refine Ja 6 ?_;refine Ja 7 ?_;refine Ja 8 ?_;refine Ja 10 ?_;refine Ja 12 ?_;refine nt 9 11 13 rfl rfl rfl (by kernel_rfl) (by repeat first|exact .nil|refine .cons (.inr H.at) ?_|refine .cons (.inr H.mp) ?_|refine .cons (.inl (by kernel_rfl)) ?_) (Q9.none rfl) (Q9.none rfl) (Q9.none rfl) (Gl H rfl rfl (by decide) (by omega) rfl ?_) (Gl H rfl rfl (by decide) (by omega) rfl ?_) (Gl H rfl rfl (by decide) (by omega) rfl ?_)
 ·clear H;intro bW w H;rw[z1] at H;refine Jw 11 13 H rfl rfl (Gl H rfl rfl (by decide) (by omega) rfl ?_) (Gl H rfl rfl (by decide) (by omega) rfl ?_)
  ·clear H;intro bK w H;rw[z2] at H;refine Jo 13 H ?_;refine Gl H rfl rfl (by decide) (by omega) rfl ?_;clear H;intro bT w H;rw[z2] at H;replace H:=Js [2,1,0] 0 H;refine FY H ?_;clear H;intro bO w H
   refine FZ H ?_;clear H;intro bS w H;replace H:=Js [9,0,0,0,0,0,0,0,0,0,0] 0 H;refine Jo 17 H ?_;refine ZU H rfl rfl (by repeat first|exact .nil _|apply QY.cons rfl) rfl (by decide) (by simp;omega) rfl rfl ?_;clear H;intro vS w H;obtain⟨aS,cS,rfl⟩:=QI H (m:=m.objs.length+1) (by simp[Y5]) (by decide);refine FG H ?_;clear H;intro w H;refine Jx H ?_;replace H:=Js [2,2,2,2,6,2,2,2,2,0] 1 H;exact Z2 _ (.inl rfl) (Fo V7 h2 h3 Z0 H) rfl fun w' H'=>⟨rfl,H'⟩
  ·clear H;intro bT w H;rw[z2] at H;refine Jo 11 H ?_;refine Gl H rfl rfl (by decide) (by omega) rfl ?_;clear H;intro bK w H;rw[z2] at H;replace H:=Js [2,0,0] 0 H;refine FY H ?_;clear H;intro bO w H
   refine FZ H ?_;clear H;intro bS w H;replace H:=Js [9,0,0,0,0,0,0,0,0,0,0] 0 H;refine Jo 17 H ?_;refine ZU H rfl rfl (by repeat first|exact .nil _|apply QY.cons rfl) rfl (by decide) (by simp;omega) rfl rfl ?_;clear H;intro vS w H;obtain⟨aS,cS,rfl⟩:=QI H (m:=m.objs.length+1) (by simp[Y5]) (by decide);refine FG H ?_;clear H;intro w H;refine Jx H ?_;replace H:=Js [2,2,2,2,6,2,2,2,2,0] 1 H;exact Z2 _ (.inl rfl) (Fo V7 h2 h3 Z0 H) rfl fun w' H'=>⟨rfl,H'⟩
 ·clear H;intro bK w H;rw[z2] at H;refine Jw 9 13 H rfl rfl (Gl H rfl rfl (by decide) (by omega) rfl ?_) (Gl H rfl rfl (by decide) (by omega) rfl ?_)
  ·clear H;intro bW w H;rw[z1] at H;refine Jo 13 H ?_;refine Gl H rfl rfl (by decide) (by omega) rfl ?_;clear H;intro bT w H;rw[z2] at H;replace H:=Js [1,1,0] 0 H;refine FY H ?_;clear H;intro bO w H
   refine FZ H ?_;clear H;intro bS w H;replace H:=Js [9,0,0,0,0,0,0,0,0,0,0] 0 H;refine Jo 17 H ?_;refine ZU H rfl rfl (by repeat first|exact .nil _|apply QY.cons rfl) rfl (by decide) (by simp;omega) rfl rfl ?_;clear H;intro vS w H;obtain⟨aS,cS,rfl⟩:=QI H (m:=m.objs.length+1) (by simp[Y5]) (by decide);refine FG H ?_;clear H;intro w H;refine Jx H ?_;replace H:=Js [2,2,2,2,6,2,2,2,2,0] 1 H;exact Z2 _ (.inl rfl) (Fo V7 h2 h3 Z0 H) rfl fun w' H'=>⟨rfl,H'⟩
  ·clear H;intro bT w H;rw[z2] at H;refine Jo 9 H ?_;refine Gl H rfl rfl (by decide) (by omega) rfl ?_;clear H;intro bW w H;rw[z1] at H;replace H:=Js [0,1,0] 0 H;refine FY H ?_;clear H;intro bO w H
   refine FZ H ?_;clear H;intro bS w H;replace H:=Js [9,0,0,0,0,0,0,0,0,0,0] 0 H;refine Jo 17 H ?_;refine ZU H rfl rfl (by repeat first|exact .nil _|apply QY.cons rfl) rfl (by decide) (by simp;omega) rfl rfl ?_;clear H;intro vS w H;obtain⟨aS,cS,rfl⟩:=QI H (m:=m.objs.length+1) (by simp[Y5]) (by decide);refine FG H ?_;clear H;intro w H;refine Jx H ?_;replace H:=Js [2,2,2,2,6,2,2,2,2,0] 1 H;exact Z2 _ (.inl rfl) (Fo V7 h2 h3 Z0 H) rfl fun w' H'=>⟨rfl,H'⟩
 ·clear H;intro bT w H;rw[z2] at H;refine Jw 9 11 H rfl rfl (Gl H rfl rfl (by decide) (by omega) rfl ?_) (Gl H rfl rfl (by decide) (by omega) rfl ?_)
  ·clear H;intro bW w H;rw[z1] at H;refine Jo 11 H ?_;refine Gl H rfl rfl (by decide) (by omega) rfl ?_;clear H;intro bK w H;rw[z2] at H;replace H:=Js [1,0,0] 0 H;refine FY H ?_;clear H;intro bO w H
   refine FZ H ?_;clear H;intro bS w H;replace H:=Js [9,0,0,0,0,0,0,0,0,0,0] 0 H;refine Jo 17 H ?_;refine ZU H rfl rfl (by repeat first|exact .nil _|apply QY.cons rfl) rfl (by decide) (by simp;omega) rfl rfl ?_;clear H;intro vS w H;obtain⟨aS,cS,rfl⟩:=QI H (m:=m.objs.length+1) (by simp[Y5]) (by decide);refine FG H ?_;clear H;intro w H;refine Jx H ?_;replace H:=Js [2,2,2,2,6,2,2,2,2,0] 1 H;exact Z2 _ (.inl rfl) (Fo V7 h2 h3 Z0 H) rfl fun w' H'=>⟨rfl,H'⟩
  ·clear H;intro bK w H;rw[z2] at H;refine Jo 9 H ?_;refine Gl H rfl rfl (by decide) (by omega) rfl ?_;clear H;intro bW w H;rw[z1] at H;replace H:=Js [0,0,0] 0 H;refine FY H ?_;clear H;intro bO w H
   refine FZ H ?_;clear H;intro bS w H;replace H:=Js [9,0,0,0,0,0,0,0,0,0,0] 0 H;refine Jo 17 H ?_;refine ZU H rfl rfl (by repeat first|exact .nil _|apply QY.cons rfl) rfl (by decide) (by simp;omega) rfl rfl ?_;clear H;intro vS w H;obtain⟨aS,cS,rfl⟩:=QI H (m:=m.objs.length+1) (by simp[Y5]) (by decide);refine FG H ?_;clear H;intro w H;refine Jx H ?_;replace H:=Js [2,2,2,2,6,2,2,2,2,0] 1 H;exact Z2 _ (.inl rfl) (Fo V7 h2 h3 Z0 H) rfl fun w' H'=>⟨rfl,H'⟩
@[reducible] def YX (e:Q8):List Value:=[.int .i64 e.addr,.int .i64 e.region,.bool e.held,.bool e.pinned]
def Y6 (t:QW):List Value:=match t.ent with
 | none=>[.int .i64 t.gen,.bool false,.int .i64 0,.int .i64 0,.bool false,.bool false]
 | some e=>[.int .i64 t.gen,.bool true,.int .i64 e.addr,.int .i64 e.region,.bool e.held,.bool e.pinned]
theorem ZH (t:QW):(Y6 t).length=6:=by unfold Y6;split <;> rfl
theorem qk (t:QW):(Y6 t)[0]? = some (.int .i64 t.gen):=by unfold Y6;split <;> rfl
theorem ql (t:QW):(Y6 t)[1]? = some (.bool t.ent.isSome):=by
 unfold Y6;split
 ·rename_i h;rw[h];rfl
 ·rename_i h;rw[h];rfl
def busy (t:QW):Bool:=t.ent.isSome || t.gen == 255
def ZV (ts:List QW):Nat:=(ts.filter fun t=>t.ent.isNone && t.gen == 255).length
def U8 (ts:List QW):Nat:=(ts.filter busy).length
structure X8 (ts:List QW) (x:Nat):Prop where
 bits:Gn ts.length x
 bit:∀ (i:Nat) (t:QW),ts[i]? = some t→x.testBit i=busy t
 gen:∀ (i:Nat) (t:QW),ts[i]? = some t→t.gen≤255
theorem qm {α:Type} {ts:List α} {f:α→Bool} {x:Nat} (h:∀ (i:Nat) (t:α),ts[i]? = some t→x.testBit i=f t):Zi ts.length x=(ts.filter f).length:=by
 unfold Zi
 have e2:∀ (l:List α) (k:Nat),(∀ (i:Nat) (t:α),l[i]? = some t→x.testBit (k+i)=f t)→((List.range' k l.length).filter fun i=>x.testBit i).length=(l.filter f).length:=by
  intro l
  induction l with
  | nil=>intro k _;rfl
  | cons a l ih=>
   intro k hk;have h0:=hk 0 a rfl;have hr:=ih (k+1) (fun i t ht=>by rw[show k+1+i=k+(i+1) by omega];exact hk (i+1) t (by simpa using ht));rw[length_cons,range'_succ,filter_cons,filter_cons];rw[Nat.add_zero] at h0;rw[h0];split
   ·simp[hr]
   ·exact hr
 rw[range_eq_range'];exact e2 ts 0 (fun i t ht=>by rw[Nat.zero_add];exact h i t ht)
theorem X8.cnt {ts:List QW} {x:Nat} (h:X8 ts x):Zi ts.length x=U8 ts:=qm h.bit
def Qr (p:Nat) (ts:List QW):Q2:=ex fun q:Value×Nat×Nat=>star [prop (X8 ts q.2.2),pts p (row 144 [q.1,pp q.2.1,.int .i64 (ZV ts)]),QE 199 6 q.1 (ts.flatMap Y6),GO q.2.1 ts.length q.2.2]
theorem BB [Q4] {w:World} {p:Nat} {ts:List QW} {l:List Q2} (H:Q0 w (Qr p ts::l)):∃ b c s u x,X8 ts x∧ts.length≤c ∧
  Q0 w (pts p (row 144 [.slice (some ⟨b,0,none⟩) ts.length c,pp u,.int .i64 (ZV ts)])::pts b (row 199 (ts.flatMap Y6++s))::GO u ts.length x::l) ∧
  ∀ w' l' ts' x',ts'.length=ts.length→ZV ts'=ZV ts→X8 ts' x'→Q0 w' (pts p (row 144 [.slice (some ⟨b,0,none⟩) ts.length c,pp u,.int .i64 (ZV ts)])::pts b (row 199 (ts'.flatMap Y6++s))::GO u ts.length x'::l')→Q0 w' (Qr p ts'::l'):=by
 obtain⟨⟨v,u,x⟩,H⟩:=Q0.ex.1 H;have H:=Q0.star.1 H;obtain⟨h,H⟩:=Q0.prop.1 H;replace H:Q0 w (pts p (row 144 [v,pp u,.int .i64 (ZV ts)])::QE 199 6 v (ts.flatMap Y6)::GO u ts.length x::l):=H;obtain⟨a,c,rfl⟩:=QI H.drop (Xs ZH ts) (by decide);obtain⟨b,s,rfl,H,Dc,Yw,QK⟩:=GJ H.swap h.bits.pos;refine⟨b,c,s,u,x,h,Dc,H.swap,fun w' l' ts' x' e1 e2 h' H'=>?_⟩;have H':=QK w' _ (ts'.flatMap Y6) (by rw[Xs ZH,Xs ZH,e1]) H'.swap;refine Q0.ex.2 ⟨(.slice (some ⟨b,0,none⟩) ts.length c,u,x'),Q0.star.2 (Q0.prop.2 ⟨h',?_⟩)⟩;show Q0 w' (pts p (row 144 [_,pp u,.int .i64 (ZV ts')])::QE 199 6 _ _::GO u ts'.length x'::l');rw[e1,e2];exact H'.swap
theorem qo [Q4] (n:Nat) (h1:1≤n) (h2:n≤63) {w:World} {fr:List Q2} (H:Q0 w fr) :
  Calls Tryz.prog 81 #[.int .i64 n] w (ret fun v w'=>∃ p,v = .tuple #[pp p,.int .i64 0]∧Q0 w' (Qr p (List.replicate n ⟨0,none⟩)::fr)):=by
 refine QQ Tryz.func81 rfl (by kernel_rfl) ?_;refine WV H ?_;rw[show decide ((n:Int) < 1)=false from decide_eq_false (by omega)];refine Rb H ?_;rw[show decide ((n:Int) > 4096)=false from decide_eq_false (by omega)];refine YS H ?_;refine Z4 H ?_;refine Jc rfl rfl (fB n (by omega) (by omega) H) ?_;clear H;rintro v w ⟨u,rfl,H⟩;refine U2 H ?_;refine Z4 H ?_;refine Q5 rfl (Gl H rfl rfl (by decide) (by omega) rfl ?_);clear H;intro b18 w H;refine Jv ?_;refine W6 H ?_;clear H;intro b21 w H;refine J4 H ?_
 have hz:Yl (VK (.agg #[.int .i64 0,.bool false,.int .i64 0,.int .i64 0,.bool false,.bool false])) n=(List.replicate n (⟨0,none⟩:QW)).flatMap Y6:=by
  clear H;clear h1 h2
  induction n with
  | zero=>rfl
  | succ n ih=>show _++Yl _ n=_;rw[ih,replicate_succ,flatMap_cons];rfl
 have Qw:(List.replicate n (⟨0,none⟩:QW)).length=n:=by simp
 have qp:ZV (List.replicate n (⟨0,none⟩:QW))=0:=by
  unfold ZV;rw[filter_eq_nil_iff.2 (fun t ht=>by rw[eq_of_mem_replicate ht];simp)];rfl
 have QX:X8 (List.replicate n (⟨0,none⟩:QW)) 0:=by
  refine⟨by rw[Qw];exact⟨by omega,h2,Nat.two_pow_pos _⟩,fun i t ht=>?_,fun i t ht=>?_⟩
  ·rw[eq_of_mem_replicate (mem_of_getElem? ht),Nat.zero_testBit];rfl
  ·rw[eq_of_mem_replicate (mem_of_getElem? ht)];simp
 have qr:BM u n (List.replicate ((n+63) / 64) 0) 0=GO u n 0:=by
  rw[show (n+63) / 64=1 by omega]
  have:Zi n 0=0:=by
   unfold Zi;rw[filter_eq_nil_iff.2 (fun i _=>by simp)];rfl
  show BM u n [0] 0=BM u n [0] (Zi n 0);rw[this]
 rw[hz,qr] at H;refine Q3 (Jy H rfl fun w' H'=>⟨_,rfl,Q0.ex.2 ⟨(.slice (some ⟨b18,0,none⟩) n n,u,0),Q0.star.2 (Q0.prop.2 ⟨QX,?_⟩)⟩⟩);show Q0 w' (pts b21 (row 144 [_,pp u,.int .i64 (ZV (List.replicate n (⟨0,none⟩:QW)))])::QE 199 6 _ _::GO u (List.replicate n (⟨0,none⟩:QW)).length 0::fr);rw[qp,Qw];exact H'
theorem gS [Q4] (p:Nat) (ts:List QW) {w:World} {fr:List Q2} (H:Q0 w (Qr p ts::fr)) :
  Calls Tryz.prog 90 #[pp p] w (ret fun v w'=>v = .int .i64 ((ts.length - U8 ts:Nat):Int)∧Q0 w' (Qr p ts::fr)):=by
 obtain⟨b,c,s,u,x,QX,hc,H,QK⟩:=BB H;have hb:=QX.bits.le;have T4:=QX.cnt;have VO:=Na ts.length x;refine QQ Tryz.func90 rfl (by kernel_rfl) ?_;refine MT H ?_;clear H;intro w H;refine W8 H ?_;refine Aa 4 rfl (Q9.none rfl) rfl (by kernel_rfl) ?_;refine Eu H ?_;refine Jl 8 [9] H ?_;replace H:=Js [2,0,0] 0 H;refine Jo 9 H ?_;refine Jk rfl rfl (SR u _ _ _ H) ?_;clear H;rintro v w ⟨rfl,H⟩;refine MP H ?_;replace H:=Js [1,1,0] 0 H;refine Q3 (Jy (QK _ _ ts x rfl rfl QX H) rfl fun w' H'=>⟨?_,H'⟩);show Value.int .i64 (IntKind.i64.wrap ((ts.length:Int) - (Zi ts.length x:Int)))=_;rw[Qg (by omega) (by omega),← T4];congr 1;omega
@[reducible] def GB (i g:Int):Value := .agg #[.int .i64 i,.int .i64 g]
theorem qs {ts:List QW} {i g:Int} (h:Qk ts i g=none):i < 0∨(ts.length:Int)≤i∨∃ (k:Nat) (t:QW),i=k∧ts[k]? = some t∧(t.ent=none∨(t.ent.isSome=true∧(t.gen:Int)≠g)):=by
 by_cases h0:i < 0
 ·exact .inl h0
 by_cases h1:(ts.length:Int)≤i
 ·exact .inr (.inl h1)
 refine .inr (.inr ?_);obtain⟨k,rfl⟩:∃ k:Nat,i=k:=⟨i.toNat,by omega⟩;have hk:=getElem?_eq_getElem (l:=ts) (i:=k) (by omega);generalize ts[k]'(by omega)=t at hk;refine⟨k,t,rfl,hk,?_⟩;obtain⟨n,e⟩:=t;cases e with
 | none=>exact .inl rfl
 | some e=>
  refine .inr ⟨rfl,fun hg=>?_⟩;rw[(Yz (k:=k) (e:=e)).2 ⟨n,rfl,hg.symm,hk⟩] at h;cases h
theorem O4 [Q4] (p b c u:Nat) (go:Value) (K4:go.oneCell'=true) (ts:List QW) (s:List Value) (Qw:ts.length≤63) (i g:Int) {w:World} {fr:List Q2} (H:Q0 w (pts p (row 144 [.slice (some ⟨b,0,none⟩) ts.length c,pp u,go])::pts b (row 199 (ts.flatMap Y6++s))::fr)) :
  Calls Tryz.prog 132 #[pp p,GB i g] w (ret fun v w'=>v=(match Qk ts i g with|some (k,_) => .tuple #[.pointer (some ⟨b,k*6,none⟩),.int .i64 0]|none => .tuple #[.pointer none,.int .i64 8]) ∧
   Q0 w' (pts p (row 144 [.slice (some ⟨b,0,none⟩) ts.length c,pp u,go])::pts b (row 199 (ts.flatMap Y6++s))::fr)):=by
 refine QQ Tryz.func132 rfl (by kernel_rfl) ?_;refine J8 H ?_;clear H;intro b3 w H;refine Mq H ?_;cases hL:Qk ts i g with
 | some q=>
  obtain⟨k,e⟩:=q;obtain⟨n,rfl,rfl,hk⟩:=Yz.1 hL;have VB:k < ts.length:=(List.getElem?_eq_some_iff.1 hk).1;have c1:(ts.flatMap Y6++s)[k*6+1]? = some (.bool true):=Kl ZH hk rfl;have c0:(ts.flatMap Y6++s)[k*6+0]? = some (.int .i64 n):=Kl ZH hk rfl;have ei:0+((k:Nat):Int).toNat*6=k*6:=by simp
  refine J1 H ?_;clear H;intro w H;refine Bu H ?_;rw[show decide ((k:Int) < 0)=false from decide_eq_false (by omega)];refine Ja 3 ?_;refine Bv H ?_;refine FU H ?_;refine Jl 9 [] H ?_;refine Aa 10 rfl (Q9.of rfl rfl rfl) rfl (by kernel_rfl) ?_;refine Ja 11 ?_;rw[show decide ((k:Int)≥(ts.length:Int))=false from decide_eq_false (by omega)];refine Ja 12 ?_;refine Ja 13 ?_;refine Ja 14 ?_;refine Ja 15 ?_;refine Jf 16 ?_;refine Jl 17 [] H ?_;refine Jf 18 ?_;refine Jl 19 [] H ?_;refine Ji 20 ?_;rw[ei];refine Jf 21 ?_;refine YZ 22 [] H rfl (Q9.of rfl rfl rfl) rfl c1 (by kernel_rfl) ?_;refine Ja 23 ?_;refine Ja 24 ?_;refine Ja 25 ?_;refine Ja 26 ?_;refine Ja 27 ?_;refine Jf 28 ?_;refine Jl 29 [] H ?_;refine Jf 30 ?_;refine Jl 31 [] H ?_;refine Ji 32 ?_;rw[ei];refine Jf 33 ?_;refine YZ 34 [] H rfl (Q9.of rfl rfl rfl) rfl c0 (by kernel_rfl) ?_;refine Jf 35 ?_;refine Jl 36 [] H ?_;refine Ja 37 ?_;rw[show (((n:Nat):Int) != (n:Int))=false by simp];refine Ja 38 ?_;refine Jx H ?_;refine IW H ?_;clear H;intro w H;refine W8 H ?_;refine Bv H ?_;refine Ji 6 ?_;rw[ei];refine Ja 7 ?_;refine WY H ?_;exact Q3 (Jy H.drop rfl fun w' H'=>⟨rfl,H'⟩)
 | none=>
  rcases qs hL with h0|h1|⟨k,t,rfl,hk,ht⟩
  ·refine J1 H ?_;clear H;intro w H;refine Bu H ?_;rw[show decide (i < 0)=true from decide_eq_true (by omega)];refine Ja 3 ?_;refine N6 H ?_;refine Ww H ?_;refine N7 H ?_;refine N8 H ?_;exact Q3 (Jy H.drop rfl fun w' H'=>⟨rfl,H'⟩)
  ·by_cases h0:i < 0
   ·refine J1 H ?_;clear H;intro w H;refine Bu H ?_;rw[show decide (i < 0)=true from decide_eq_true (by omega)];refine Ja 3 ?_;refine N6 H ?_;refine Ww H ?_;refine N7 H ?_;refine N8 H ?_;exact Q3 (Jy H.drop rfl fun w' H'=>⟨rfl,H'⟩)
   ·refine J1 H ?_;clear H;intro w H;refine Bu H ?_;rw[show decide (i < 0)=false from decide_eq_false (by omega)];refine Ja 3 ?_;refine Bv H ?_;refine FU H ?_;refine Jl 9 [] H ?_;refine Aa 10 rfl (Q9.of rfl rfl rfl) rfl (by kernel_rfl) ?_;refine Ja 11 ?_;rw[show decide (i≥(ts.length:Int))=true from decide_eq_true (by omega)];refine Ww H ?_;refine N7 H ?_;refine N8 H ?_;exact Q3 (Jy H.drop rfl fun w' H'=>⟨rfl,H'⟩)
  ·have VB:k < ts.length:=(List.getElem?_eq_some_iff.1 hk).1;have c1:(ts.flatMap Y6++s)[k*6+1]? = some (.bool t.ent.isSome):=Kl ZH hk (ql t);have c0:(ts.flatMap Y6++s)[k*6+0]? = some (.int .i64 t.gen):=Kl ZH hk (qk t);have ei:0+((k:Nat):Int).toNat*6=k*6:=by simp
   refine J1 H ?_;clear H;intro w H;refine Bu H ?_;rw[show decide ((k:Int) < 0)=false from decide_eq_false (by omega)];refine Ja 3 ?_;refine Bv H ?_;refine FU H ?_;refine Jl 9 [] H ?_;refine Aa 10 rfl (Q9.of rfl rfl rfl) rfl (by kernel_rfl) ?_;refine Ja 11 ?_;rw[show decide ((k:Int)≥(ts.length:Int))=false from decide_eq_false (by omega)];refine Ja 12 ?_;refine Ja 13 ?_;refine Ja 14 ?_;refine Ja 15 ?_;refine Jf 16 ?_;refine Jl 17 [] H ?_;refine Jf 18 ?_;refine Jl 19 [] H ?_;refine Ji 20 ?_;rw[ei];refine Jf 21 ?_;refine YZ 22 [] H rfl (Q9.of rfl rfl rfl) rfl c1 (by kernel_rfl) ?_
   rcases ht with ht|⟨ht,QB⟩
   ·rw[ht];refine Ja 23 ?_;refine N8 H ?_;exact Q3 (Jy H.drop rfl fun w' H'=>⟨rfl,H'⟩)
   ·rw[ht];refine Ja 23 ?_;refine Ja 24 ?_;refine Ja 25 ?_;refine Ja 26 ?_;refine Ja 27 ?_;refine Jf 28 ?_;refine Jl 29 [] H ?_;refine Jf 30 ?_;refine Jl 31 [] H ?_;refine Ji 32 ?_;rw[ei];refine Jf 33 ?_;refine YZ 34 [] H rfl (Q9.of rfl rfl rfl) rfl c0 (by kernel_rfl) ?_;refine Jf 35 ?_;refine Jl 36 [] H ?_;refine Ja 37 ?_;rw[show (((t.gen:Nat):Int) != g)=true by simpa using QB];refine Ja 38 ?_;refine Jx H ?_
    repeat refine Q7 ?_
    refine YY rfl ?_
    repeat refine Q7 ?_
    refine QG ?_;refine Jv ?_;refine Jv ?_;refine QU ?_;exact Q3 (Jy H.drop rfl fun w' H'=>⟨rfl,H'⟩)
end Go.Proofs.YtmjdnljneifpcaaGreatDoor
