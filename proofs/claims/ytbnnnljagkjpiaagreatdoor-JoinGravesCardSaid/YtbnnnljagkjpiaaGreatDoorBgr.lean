/- Cells: what is proved on the way: every input of the statement; no condition. Texts joined: RefC RefD ModA ModB ModC ModD. -/
import Derived.Test.YtbnnnljagkjpiaaGreatDoorBgf
import Derived.Test.YtbnnnljagkjpiaaGreatDoorBgq
import Derived.Test.YtbnnnljagkjpiaaGreatDoorBgk
set_option linter.unusedVariables false
set_option linter.unusedSimpArgs false
set_option linter.unusedSectionVars false
namespace Go.Proofs.YtbnnnljagkjpiaaGreatDoor
open List
open Go.SL
theorem If [Q4] (va vb:Value) (a b:List Int) (hl:a.length≤1000000) {w:World} {fr:List Q2} (H:Q0 w (IL va a::IL vb b::fr)) :
  Calls Tryz.prog 26 #[va,vb] w (ret fun v w'=>v = .bool (decide (a=b))∧Q0 w' (IL va a::IL vb b::fr)):=by
 obtain⟨aa,ca,rfl⟩:=QE H (Vo a) (by decide);obtain⟨ab,cb,rfl⟩:=QE H.drop (Vo b) (by decide);refine QQ Tryz.func26 rfl (by kernel_rfl) ?_;refine XC H ?_;refine DO H ?_;refine Gx H ?_;by_cases hlen:a.length=b.length
 ·rw[show ((a.length:Int) != (b.length:Int))=false by simp;omega];refine V4 H ?_;refine A9 H ?_;refine Ql (fun ms σ w q=>ms=[]∧∃ i:Nat,i≤a.length∧q=a.length - i∧a.take i=b.take i∧σ 0 = .slice aa a.length ca∧σ 1 = .slice ab b.length cb∧σ 5 = .int .i64 i∧Q0 w (IL (.slice aa a.length ca) a::IL (.slice ab b.length cb) b::fr)) (m:=a.length) ⟨rfl,0,by omega,rfl,by simp,rfl,rfl,rfl,H⟩ ?_;clear H;rintro ms σ w q ⟨rfl,i,hi,rfl,heq,g0,g1,g5,H⟩;rw[Q1 g0,Q1 g1,Q1 g5];refine KT H ?_;refine Qj rfl (fun h=>QD ?_) (fun h=>Qp ?_)
  ·have hlt:i < a.length:=by omega
   have hlt2:i < b.length:=by omega
   have hx:=getElem?_eq_getElem hlt;have hy:=getElem?_eq_getElem hlt2;generalize a[i]=x at hx;generalize b[i]=y at hy;obtain⟨ba,sa,rfl,H,hca⟩:=V3 H (by omega);obtain⟨bb,sb,rfl,H,hcb⟩:=V3 H.swap (by omega)
   have c1:(Qe a++sa)[0+i*1]? = some (.int .i64 x):=by
    rw[Nat.zero_add,Nat.mul_one,getElem?_append_left (by simpa [Qe] using hlt)];simp[Qe,hx]
   have c2:(Qe b++sb)[0+i*1]? = some (.int .i64 y):=by
    rw[Nat.zero_add,Nat.mul_one,getElem?_append_left (by simpa [Qe] using hlt2)];simp[Qe,hy]
   refine C7 H ?_;clear H;intro w H;refine WG H ?_;refine Ji 2 ?_;refine Vn 3 [] H rfl (Q7.none rfl) rfl c1 (by kernel_rfl) ?_;refine Us H ?_;refine Ji 6 ?_;refine Vn 7 [] H rfl (Q7.none rfl) rfl c2 (by kernel_rfl) ?_;refine XH H ?_;replace H:=hcb _ _ H;replace H:=hca _ _ H.swap;by_cases hxy:x=y
   ·rw[show (x != y)=false by simpa using hxy];refine AW H ?_;refine⟨_,⟨rfl,i+1,hlt,rfl,?_,rfl,rfl,Qc (by omega),H⟩,by omega⟩;rw[take_add_one,take_add_one,hx,hy,heq,hxy]
   ·rw[show (x != y)=true by simpa using hxy];refine YC H ?_;refine Q3 (Jy H rfl fun w' H'=>⟨?_,H'⟩)
    have hne:a≠b:=by
     rintro rfl;rw[hx] at hy;injection hy with hy
     exact hxy hy
    rw[decide_eq_false hne];rfl
  ·have hge:i=a.length:=by omega
   subst hge;rw[take_length,hlen,take_length] at heq;refine VF H ?_;exact Q3 (Jy H rfl fun w' H'=>⟨by rw[decide_eq_true heq];rfl,H'⟩)
 ·rw[show ((a.length:Int) != (b.length:Int))=true by simp;omega];refine YC H ?_;refine Q3 (Jy H rfl fun w' H'=>⟨?_,H'⟩);have hne:a≠b:=by rintro rfl;exact hlen rfl
  rw[decide_eq_false hne];rfl
theorem eD [Q4] (v:Value) (ws:List Nat) (hws:∀ x∈ws,x < 18446744073709551616) {w:World} {fr:List Q2} (hr:Vt fr v ws.length 1 (Qa ws)) (H:Q0 w fr) :
  Calls Tryz.prog 212 #[v] w (ret fun r w'=>(ZC ws=none∧r = .tuple #[Yx 0 (.slice none 0 0) 0 (.slice none 0 0),.bool false]∧Q0 w' fr) ∨
   ∃ l vr vq,ZC ws=some l∧r = .tuple #[Yx l.fixed vr l.record vq,.bool true]∧Q0 w' (NL vr l.refs::NL vq l.recs::fr)):=by
 obtain⟨_,ad,cap,rfl,hr'⟩:=id hr;refine QQ Tryz.func212 rfl (by kernel_rfl) ?_;refine Y7 H ?_;clear H;intro b2 w H;refine Da H ?_;refine DO H ?_;by_cases h3:ws.length=3
 ·obtain⟨x,y,z,rfl⟩:∃ x y z,ws=[x,y,z]:=by
   match ws,h3 with
   | [x,y,z],_=>exact⟨x,y,z,rfl⟩
  have hx:=hws x (by simp);have hy:=hws y (by simp);have hz:=hws z (by simp)
  rcases hr' with h|⟨b,o,E,fz,c,rfl,hA,hrd⟩
  ·cases h
  haveI:=hA;have c0:c[o+0*1]? = some (.int .u64 x):=by have:=hrd.get 0 (.int .u64 x) (by simp[Qa]);simpa using this
  have c1:c[o+1*1]? = some (.int .u64 y):=by have:=hrd.get 1 (.int .u64 y) (by simp[Qa]);simpa using this
  have c2:c[o+2*1]? = some (.int .u64 z):=by have:=hrd.get 2 (.int .u64 z) (by simp[Qa]);simpa using this
  rw[show ((([x,y,z]:List Nat).length:Int) != 3)=false from rfl];refine A6 H ?_;refine QT rfl rfl rfl (GC rfl rfl (by omega) (by show (0:Int) < (3:Nat);omega) rfl ?_);refine QT rfl rfl rfl (QB H rfl c0 rfl ?_);refine Yj H ?_;by_cases hb:x < 65536
  ·rw[show decide ((x:Int)≥65536)=false from decide_eq_false (by omega)];refine Vx H ?_;have m8:Int.tmod (x:Int) 256=((x % 256:Nat):Int):=by rw[Int.tmod_eq_emod_of_nonneg (by omega)];omega
   have q8:IntKind.u64.wrap (Int.tdiv (x:Int) 256)=((x / 256:Nat):Int):=by
    rw[Int.tdiv_eq_ediv_of_nonneg (by omega),show (x:Int) / 256=((x / 256:Nat):Int) by omega,UH (by omega)]
   have w8:IntKind.i64.wrap ((x % 256:Nat):Int)=((x % 256:Nat):Int):=KW (by omega);have v8:IntKind.i64.wrap ((x / 256:Nat):Int)=((x / 256:Nat):Int):=KW (by omega);refine J6 H ?_
   refine Y4 (fun ms σ w=>ms=[]∧∃ b4 va vb,σ 2=pp b2∧σ 4=pp b4 ∧
    Q0 w (pts b4 (row 164 [.int .i64 ((x % 256:Nat):Int),va,.int .i64 ((x / 256:Nat):Int),vb])::NL va (Vg y 64)::NL vb (Vg z 64)::pts b2 (row 164 [.int .i64 0,.slice none 0 0,.int .i64 0,.slice none 0 0])::fr)) ?_ ?_
   ·refine J1 H ?_;clear H;intro w H;refine Ja 0 ?_;refine R4 1 rfl (Q7.none rfl) rfl rfl (by omega) (by show (0:Int) < (3:Nat);omega) (by kernel_rfl) ?_;refine Vn 2 [20] H rfl (Q7.none rfl) rfl c0 (by kernel_rfl) ?_;refine Ja 3 ?_;refine U8 4 rfl (Q7.none rfl) rfl (by kernel_rfl) ?_;refine Ja 5 ?_;refine R4 6 rfl (Q7.none rfl) rfl rfl (by omega) (by show (1:Int) < (3:Nat);omega) (by kernel_rfl) ?_;refine Vn 7 [8] H rfl (Q7.none rfl) rfl c1 (by kernel_rfl) ?_;refine Ja 9 ?_;refine R4 10 rfl (Q7.none rfl) rfl rfl (by omega) (by show (0:Int) < (3:Nat);omega) (by kernel_rfl) ?_;refine Vn 11 [20] H rfl (Q7.none rfl) rfl c0 (by kernel_rfl) ?_;refine Ja 12 ?_;refine U8 13 rfl (Q7.none rfl) rfl (by kernel_rfl) ?_;refine Ja 14 ?_;refine R4 15 rfl (Q7.none rfl) rfl rfl (by omega) (by show (2:Int) < (3:Nat);omega) (by kernel_rfl) ?_;refine Vn 16 [17] H rfl (Q7.none rfl) rfl c2 (by kernel_rfl) ?_;rw[m8,q8,w8,v8];refine Jw 8 19 H rfl rfl (Qy (a:=[]) (b:=[]) rfl rfl (call (Cp y hy H) ?_)) (VN H rfl ?_)
    ·clear H;intro va w H;obtain⟨aa,ma,ca,rfl⟩:=Qs H;refine Jw 17 19 H rfl rfl (Qy (a:=[]) (b:=[]) rfl rfl (call (Cp z hz H) ?_)) (VN H rfl ?_)
     ·clear H;intro vb w H;obtain⟨ab,mb,cb,rfl⟩:=Qs H;refine GF 18 rfl (Q7.none rfl) rfl (by kernel_rfl) ?_;refine Jo 19 H ?_;refine VN H rfl ?_;clear H;intro b4 w H;refine Jo 20 H ?_;refine Gy H ?_;clear H;intro w H;refine Jx H ?_;replace H:=Js [0,1,0,0] 0 H;exact .inl ⟨rfl,rfl,b4,_,_,rfl,rfl,H⟩
     ·clear H;intro b4 w H;refine Jo 17 H ?_;refine Jk rfl rfl (Cp z hz H) ?_;clear H;intro vb w H;obtain⟨ab,mb,cb,rfl⟩:=Qs H;refine GF 18 rfl (Q7.none rfl) rfl (by kernel_rfl) ?_;refine Jo 20 H ?_;refine Gy H ?_;clear H;intro w H;refine Jx H ?_;replace H:=Js [1,1,0,0] 0 H;exact .inl ⟨rfl,rfl,b4,_,_,rfl,rfl,H⟩
    ·clear H;intro b4 w H;refine Jo 8 H ?_;refine Jk rfl rfl (Cp y hy H) ?_;clear H;intro va w H;obtain⟨aa,ma,ca,rfl⟩:=Qs H;refine Jo 17 H ?_;refine Jk rfl rfl (Cp z hz H) ?_;clear H;intro vb w H;obtain⟨ab,mb,cb,rfl⟩:=Qs H;refine GF 18 rfl (Q7.none rfl) rfl (by kernel_rfl) ?_;refine Jo 20 H ?_;refine Gy H ?_;clear H;intro w H;refine Jx H ?_;replace H:=Js [2,1,0,0] 0 H;exact .inl ⟨rfl,rfl,b4,_,_,rfl,rfl,H⟩
   ·clear H;rintro ms σ w ⟨rfl,b4,va,vb,g2,g4,H⟩;rw[Q1 g2,Q1 g4];have hla:=Ah y 64;have hlb:=Ah z 64;obtain⟨aa,ca,rfl⟩:=QE (H.drop) (QH (Vg y 64)) (by decide);obtain⟨ab,cb,rfl⟩:=QE (H.drop.drop) (QH (Vg z 64)) (by decide);refine GH H ?_;replace H:=Js [1,1,0,0] 0 H;obtain⟨D1,H,hD1,hC1⟩:=sls_rd H (QH (Vg y 64)) (by decide);obtain⟨D2,H,hD2,hC2⟩:=sls_rd H.swap (QH (Vg z 64)) (by decide);refine Jc rfl rfl (OW _ _ (Rl x y z) ⟨by show x % 256≤_;omega,by show x / 256≤_;omega,by show (Vg y 64).length≤_;omega,by show (Vg z 64).length≤_;omega⟩ ⟨(hD1 _).there,hD2 _⟩ H) ?_;clear H;rintro v w ⟨⟨q,rfl,hq⟩,H⟩;have H:=(hC1 _ _ (hC2 _ _ H).swap);refine J0 H ?_;cases q with
    | true=>
     refine Gw H ?_;refine KD H ?_;clear H;intro w H;refine J0 H ?_;replace H:=Js [3,0,0] 1 H;refine Q3 (Jz H (fun w' H' => .cellN H' rfl (by repeat first|exact .nil _|apply Q9.cons rfl) (.tmp .nil)) fun w' H' => .inr ⟨Rl x y z,_,_,?_,rfl,H'.drop⟩);rw[Ai,if_pos ⟨hb,hq.1 rfl⟩]
    | false=>
     refine J4 H ?_;refine Bd H ?_;clear H;intro w H;refine J0 H ?_;replace H:=Js [3] 3 H;refine Q3 (Jz H (fun w' H' => .cellN H' rfl (by repeat first|exact .nil _|apply Q9.cons rfl) (.tmp .nil)) fun w' H' => .inl ⟨?_,rfl,H'.drop⟩);rw[Ai,if_neg];rintro⟨_,h2⟩;have:=hq.2 h2;cases this
  ·rw[show decide ((x:Int)≥65536)=true from decide_eq_true (by omega)];refine Xt H ?_;clear H;intro w H;refine J0 H ?_;refine Q3 (Jz H (fun w' H' => .cellN H' rfl (by repeat first|exact .nil _|apply Q9.cons rfl) (.tmp .nil)) fun w' H' => .inl ⟨?_,rfl,H'.drop⟩);rw[Ai,if_neg];rintro⟨h1,_⟩;exact hb h1
 ·have hd:ZC ws=none:=by
   match ws with
   | []=>rfl
   | [_]=>rfl
   | [_,_]=>rfl
   | [_,_,_]=>exact absurd rfl h3
   | _::_::_::_::_=>rfl
  rw[show ((ws.length:Int) != 3)=true by simp;omega];refine E2 H ?_;refine Xt H ?_;clear H;intro w H;refine J0 H ?_;exact Q3 (Jz H (fun w' H' => .cellN H' rfl (by repeat first|exact .nil _|apply Q9.cons rfl) (.tmp .nil)) fun w' H' => .inl ⟨hd,rfl,H'.drop⟩)
def Y1 (P:List Int) (id:Int):Bool:=decide (0 < id∧id < P.length∧0≤P.getD id.toNat 0)
def X9 (P:List Int) (f:Int→Bool) (k:Nat):List Nat:=(List.range k).filter fun i=>decide (1≤i) && f (P.getD i 0)
def ZS (P:List Int):List Nat:=X9 P (fun q=>decide (0≤q)) P.length
theorem eE (P:List Int) (f:Int→Bool) (k:Nat) (hk:1≤k):X9 P f (k+1)=X9 P f k++if f (P.getD k 0) then [k] else []:=by
 unfold X9;rw[range_succ,filter_append];congr 1;simp only[filter_cons,filter_nil,decide_eq_true hk,Bool.true_and]
theorem eF (P:List Int) (f:Int→Bool):X9 P f 1=[]:=rfl
theorem eH (P:List Int) (f:Int→Bool) (k:Nat):(X9 P f k).length≤k:=by
 have:=length_filter_le (fun i=>decide (1≤i) && f (P.getD i 0)) (List.range k);simpa [X9] using this
theorem OA {P:List Int} {f:Int→Bool} {k i:Nat}:i∈X9 P f k↔i < k∧1≤i∧f (P.getD i 0)=true:=by
 unfold X9;simp[mem_filter]
theorem eI (P:List Int) (f:Int→Bool) (k:Nat):(X9 P f k).Pairwise (· < ·):=List.Pairwise.filter _ pairwise_lt_range
def Vi (p:Nat) (P:List Int):Q2:=ex fun v:Value=>star [pts p (row 112 [v]),IL v P]
theorem Kp [Q4] {w:World} {p:Nat} {P:List Int} {l:List Q2} (H:Q0 w (Vi p P::l)):∃ a c,Q0 w (pts p (row 112 [.slice a P.length c])::IL (.slice a P.length c) P::l):=by
 obtain⟨v,H⟩:=Q0.ex.1 H;have H:=Q0.star.1 H;obtain⟨a,c,rfl⟩:=QE H.drop (Vo P) (by decide);exact⟨a,c,H⟩
theorem Gh [Q4] {w:World} {p:Nat} {P:List Int} {v:Value} {l:List Q2} (H:Q0 w (pts p (row 112 [v])::IL v P::l)):Q0 w (Vi p P::l):=
 Q0.ex.2 ⟨v,Q0.star.2 H⟩
theorem eJ [Q4] {w:World} {fr:List Q2} (H:Q0 w fr):Calls Tryz.prog 146 #[] w (ret fun v w'=>∃ p,v=pp p∧Q0 w' (Vi p [-1]::fr)):=by
 refine QQ Tryz.func146 rfl (by kernel_rfl) ?_;refine Bs H ?_;refine GJ H ?_;clear H;intro b1 w H;refine XW H ?_;clear H;intro b3 w H;refine J0 H ?_;have H:=Uq (len:=1) (k:=1) (by rfl) H.swap;exact Q3 (Jy H.swap rfl fun w' H'=>⟨_,rfl,Gh (P:=[-1]) H'⟩)
theorem B0 {P:List Int} {s:List Value} {i:Nat} (h:i < P.length):(Qe P++s)[0+i*1]? = some (.int .i64 (P.getD i 0)):=by
 rw[Nat.zero_add,Nat.mul_one,getElem?_append_left (by simpa [Qe] using h)];simp[Qe,h]
theorem Wh [Q4] (p:Nat) (P:List Int) (id:Int) {w:World} {fr:List Q2} (H:Q0 w (Vi p P::fr)) :
  Calls Tryz.prog 165 #[pp p,.int .i64 id] w (ret fun v w'=>v = .bool (Y1 P id)∧Q0 w' (Vi p P::fr)):=by
 obtain⟨a,c,H⟩:=Kp H;refine QQ Tryz.func165 rfl (by kernel_rfl) ?_;refine Uw H ?_;by_cases h1:id > 0
 ·rw[show decide (id > 0)=true from decide_eq_true (by omega)];refine KL H ?_;by_cases h2:id < (P.length:Int)
  ·rw[show decide (id < (P.length:Int))=true from decide_eq_true (by omega)];obtain⟨k,rfl⟩:∃ k:Nat,id=k:=⟨id.toNat,by omega⟩;obtain⟨b,s,rfl,H,hclose⟩:=V3 H.swap (by omega);have hc:=B0 (P:=P) (s:=s) (i:=k) (by omega);refine AL H ?_;refine QT rfl rfl rfl (GC rfl rfl (by omega) (by omega) rfl ?_);refine QT rfl rfl rfl (QB H rfl hc rfl ?_);refine Xp H ?_;replace H:=(hclose _ _ H).swap;refine Q3 (Jy (Gh H) rfl fun w' H'=>⟨?_,H'⟩);show Value.bool (decide (P.getD k 0≥0))=_;unfold Y1;congr 1;rw[decide_eq_decide,Int.toNat_natCast];exact⟨fun h=>⟨h1,h2,h⟩,fun h=>h.2.2⟩
  ·rw[show decide (id < (P.length:Int))=false from decide_eq_false (by omega)];refine AO H ?_;refine J3 H ?_;refine Q3 (Jy (Gh H) rfl fun w' H'=>⟨?_,H'⟩);show Value.bool false=_;unfold Y1;rw[decide_eq_false (fun h=>h2 h.2.1)]
 ·rw[show decide (id > 0)=false from decide_eq_false (by omega)];refine Bp H ?_;refine AO H ?_;refine J3 H ?_;refine Q3 (Jy (Gh H) rfl fun w' H'=>⟨?_,H'⟩);show Value.bool false=_;unfold Y1;rw[decide_eq_false (fun h=>h1 h.1)]
theorem OB [Q4] (p:Nat) (P:List Int) (hl:P.length≤1000000) {w:World} {fr:List Q2} (H:Q0 w (Vi p P::fr)) :
  Calls Tryz.prog 9 #[pp p] w (ret fun v w'=>Q0 w' (NL v (ZS P)::Vi p P::fr)):=by
 refine QQ Tryz.func9 rfl (by kernel_rfl) ?_;refine EM H ?_;refine Ql (fun ms σ w n=>ms=[]∧∃ (i:Nat) (g:Value),1≤i∧(i≤P.length∨i=1)∧n=P.length - i∧σ 0=pp p∧σ 3=g∧σ 4 = .int .i64 i∧Q0 w (NL g (X9 P (fun q=>decide (0≤q)) i)::Vi p P::fr)) (m:=P.length - 1) ⟨rfl,1,_,by omega,.inr rfl,rfl,rfl,rfl,rfl,Yt H⟩ ?_;clear H;rintro ms σ w n ⟨rfl,i,g,hi1,hi2,rfl,g0,g3,g4,H⟩;obtain⟨ag,mg,cg,rfl⟩:=Qs H;obtain⟨a,c,H⟩:=Kp H.swap;rw[Q1 g0,Q1 g3,Q1 g4];refine Ka H ?_;refine Qj rfl (fun h=>QD ?_) (fun h=>Qp ?_)
 ·have hlt:i < P.length:=by omega
  obtain⟨b,s,rfl,H,hclose⟩:=V3 H.swap (by omega);have hc:=B0 (P:=P) (s:=s) (i:=i) (by omega);have hnx:=eE P (fun q=>decide (0≤q)) i hi1;generalize P.getD i 0=y at hc hnx;refine AX H ?_;refine Jd ?_;refine Q5 rfl (QB H rfl hc rfl ?_);refine J0 H ?_;replace H:=Gh (hclose _ _ H).swap;refine J6 H ?_;refine Qj rfl (fun h=>?_) (fun h=>QD ?_)
  ·rw[if_pos (by simpa using h)] at hnx;refine EG H ?_;clear H;intro b24 w H;replace H:=Js [2,0,0] 0 H;refine Q5 rfl (YR H rfl rfl (by repeat first|exact .nil _|apply Q9.cons rfl) rfl (by decide) (by rw[QH];have:=eH P (fun q=>decide (0≤q)) i;simp only[length_cons,length_nil];omega) rfl rfl ?_);clear H;intro v25 w H;obtain⟨a25,m25,c25,rfl⟩:=Qs H;refine C6 H ?_;replace H:=Js [0,1] 1 H;refine⟨_,⟨rfl,i+1,_,by omega,.inl hlt,rfl,rfl,rfl,Qc (by omega),?_⟩,by omega⟩;rw[hnx];show Q0 w (QX _ 1 _ (QA (_++[i]))::_);rw[WT];exact H
  ·rw[if_neg (by simpa using h),append_nil] at hnx;refine VX H ?_;exact⟨_,⟨rfl,i+1,_,by omega,.inl hlt,rfl,rfl,rfl,Qc (by omega),by rw[hnx];exact H.swap⟩,by omega⟩
 ·have he:X9 P (fun q=>decide (0≤q)) i=ZS P:=by
   unfold ZS
   rcases hi2 with h1|rfl
   ·rw[show i=P.length by omega]
   ·rw[eF]
    symm
    rw[eq_nil_iff_forall_not_mem];intro x hx;have:=OA.1 hx;omega
  rw[he] at H;refine J4 H ?_;have H:=(Gh H).swap;exact Q3 (Jy H rfl fun w' H'=>H')
def ZV (P:List Int) (parent:Int):Nat:=if parent≠0∧Y1 P parent=false then 6 else if 64≤(ZS P).length then 5 else 0
theorem OD [Q4] (p:Nat) (P:List Int) (parent:Int) (hl:P.length≤100000) (h1:1≤P.length) {w:World} {fr:List Q2} (H:Q0 w (Vi p P::fr)) :
  Calls Tryz.prog 170 #[pp p,.int .i64 parent] w (ret fun v w'=>(ZV P parent≠0∧v = .tuple #[.int .i64 0,.int .i64 (ZV P parent)]∧Q0 w' (Vi p P::fr)) ∨
   (ZV P parent=0∧v = .tuple #[.int .i64 P.length,.int .i64 0]∧Q0 w' (Vi p (P++[parent])::fr))):=by
 refine QQ Tryz.func170 rfl (by kernel_rfl) ?_;refine XF H ?_;refine Jc rfl rfl (Wh p P parent H) ?_;clear H;rintro v w ⟨rfl,H⟩;generalize hlv:Y1 P parent=lv;refine Y8 H ?_;refine Qk (fun ms σ w=>ms=[]∧(∃ q,σ 16 = .bool q∧(q=true↔parent≠0∧Y1 P parent=false))∧σ 0=pp p∧σ 1 = .int .i64 parent∧Q0 w (Vi p P::fr)) ?_ ?_
 ·refine J9 H ?_;by_cases h0:parent=0
  ·rw[show (parent != 0)=false by simpa using h0];refine Jv ?_;refine KI H ?_;refine J0 H ?_;exact⟨rfl,rfl,⟨false,rfl,by simp[h0]⟩,rfl,rfl,H⟩
  ·rw[show (parent != 0)=true by simpa using h0];refine UQ H ?_;refine J0 H ?_;exact⟨rfl,rfl,⟨!lv,rfl,by simp[h0,hlv]⟩,rfl,rfl,H⟩
 clear H;rintro ms σ w ⟨rfl,⟨q,g16,hq⟩,g0,g1,H⟩;rw[Q1 g16,Q1 g0,Q1 g1];cases q with
 | true=>
  have he:ZV P parent=6:=by unfold ZV;rw[if_pos (hq.1 rfl)]
  refine Yc H ?_;exact Q3 (Jy H rfl fun w' H' => .inl ⟨by omega,by rw[he];rfl,H'⟩)
 | false=>
  have hq':¬ (parent≠0∧Y1 P parent=false):=fun h=>by have:=hq.2 h;cases this
  refine AU H ?_;refine Jc rfl rfl (OB p P (by omega) H) ?_;clear H;intro v w H;obtain⟨aa,ca,rfl⟩:=QE H (QH _) (by decide);refine Dt H ?_;by_cases h64:64≤(ZS P).length
  ·have he:ZV P parent=5:=by unfold ZV;rw[if_neg hq',if_pos h64]
   rw[show decide (((ZS P).length:Int)≥64)=true from decide_eq_true (by omega)];refine Yc H ?_;exact Q3 (Jy H.drop rfl fun w' H' => .inl ⟨by omega,by rw[he];rfl,H'⟩)
  ·have he:ZV P parent=0:=by unfold ZV;rw[if_neg hq',if_neg h64]
   rw[show decide (((ZS P).length:Int)≥64)=false from decide_eq_false (by omega)];refine V4 H ?_;replace H:=H.drop;obtain⟨a,c,H⟩:=Kp H;refine AH H ?_;refine GJ H ?_;clear H;intro b28 w H;replace H:=Js [2,0,0] 0 H;refine Q5 rfl (YR H rfl rfl (by repeat first|exact .nil _|apply Q9.cons rfl) rfl (by decide) (by rw[Vo];simp only[length_cons,length_nil];omega) rfl rfl ?_);clear H;intro v29 w H;have e1:Qe P++[.int .i64 parent]=Qe (P++[parent]):=by rw[Ao];rfl
   rw[e1] at H;obtain⟨a29,c29,rfl⟩:=QE H (Vo _) (by decide);refine GL H ?_;clear H;intro w H;refine J2 H ?_;refine Du H ?_;refine AK H ?_;replace H:=Js [2,0] 1 H;refine Q3 (Jy (Gh H) rfl fun w' H' => .inr ⟨he,?_,H'⟩);show Value.tuple #[.int .i64 (IntKind.i64.wrap (((P++[parent]).length:Int) - 1)),_]=_;rw[show (P++[parent]).length=P.length+1 by simp,Qb (by omega) (by omega),show (((P.length+1:Nat):Int)) - 1=(P.length:Int) by omega];rfl
structure QI where
 region:Nat
 lay:Nat
 count:Nat
 w:List Nat
 kind:List Nat
 to:List Nat
 held:Bool
 pinned:Bool
 gone:Bool
structure MS where
 P:List Int
 lays:List QL
 objs:List QI
structure U2 (lays:List QL) (n:Nat) (x:QI):Prop where
 lay:∃ l,lays[x.lay - 1]? = some l∧Vh l∧VQ l x.count=(x.w.length,0)
 lay1:1≤x.lay
 kind:x.kind.length=x.w.length
 to:x.to.length=x.w.length
 goes:∀ p,x.kind[p]? = some 2→x.to.getD p 0 < n
structure V9 (m:MS):Prop where
 P:1≤m.P.length∧m.P.length≤100000
 lays:m.lays.length≤64∧∀ l∈m.lays,Vh l
 objs:∀ x∈m.objs,U2 m.lays m.objs.length x
 few:m.objs.length≤100000
def Vs (m:MS) (x:QI):QL:=(m.lays[x.lay - 1]?).getD ⟨0,[],0,[]⟩
theorem eL {lays:List QL} {P:List Int} {os:List QI} {n:Nat} {x:QI} (h:U2 lays n x):lays[x.lay - 1]? = some (Vs ⟨P,lays,os⟩ x)∧Vh (Vs ⟨P,lays,os⟩ x)∧VQ (Vs ⟨P,lays,os⟩ x) x.count=(x.w.length,0):=by
 obtain⟨l,h1,h2,h3⟩:=h.lay;have:Vs ⟨P,lays,os⟩ x=l:=by unfold Vs;rw[h1];rfl
 rw[this];exact⟨h1,h2,h3⟩
structure OC where
 ptr:Nat
 vw:Value
 vk:Value
 vt:Value
 ob:QI
@[reducible] def K6 (vw vk vt:Value) (x:QI):Obj:=row 266 [.int .i64 x.region,.int .i64 x.lay,.int .i64 x.count,vw,vk,vt,.bool x.held,.bool x.pinned,.bool x.gone]
@[reducible] def ZY (x:OC):Q2:=star [pts x.ptr (K6 x.vw x.vk x.vt x.ob),UL x.vw x.ob.w,NL x.vk x.ob.kind,NL x.vt x.ob.to]
structure MQ where
 t:Nat
 vL:Value
 lc:List Z5
 vO:Value
 oc:List OC
def Qq (p:Nat) (m:MS):Q2:=ex fun q:MQ=>star [prop (V9 m∧q.lc.map (·.2.2)=m.lays∧q.oc.map (·.ob)=m.objs),pts p (row 56 [pp q.t,q.vL,q.vO]),Vi q.t m.P,QX 164 4 q.vL (VI q.lc),star (q.lc.map YG),QX 267 1 q.vO (q.oc.map fun x=>pp x.ptr),star (q.oc.map ZY)]
theorem Zj [Q4] {w:World} {p:Nat} {m:MS} {l:List Q2} (H:Q0 w (Qq p m::l)):∃ (t:Nat) (lc:List Z5) (oc:List OC) (aL:Option Addr) (cL:Nat) (aO:Option Addr) (cO:Nat),V9 m∧lc.map (·.2.2)=m.lays∧oc.map (·.ob)=m.objs∧lc.length=m.lays.length∧oc.length=m.objs.length ∧
  Q0 w (pts p (row 56 [pp t,.slice aL m.lays.length cL,.slice aO m.objs.length cO])::Vi t m.P::QX 164 4 (.slice aL m.lays.length cL) (VI lc)::star (lc.map YG)::QX 267 1 (.slice aO m.objs.length cO) (oc.map fun x=>pp x.ptr)::star (oc.map ZY)::l):=by
 obtain⟨⟨t,vL,lc,vO,oc⟩,H⟩:=Q0.ex.1 H;have H:=Q0.star.1 H;obtain⟨⟨h1,h2,h3⟩,H⟩:=Q0.prop.1 H;have hl1:lc.length=m.lays.length:=by rw[← h2,length_map]
 have hl2:oc.length=m.objs.length:=by rw[← h3,length_map]
 obtain⟨aL,cL,rfl⟩:=QE (H.drop.drop) (Rn lc) (by decide);obtain⟨aO,cO,rfl⟩:=QE (m:=oc.length) (H.drop.drop.drop.drop) (by simp) (by decide);refine⟨t,lc,oc,aL,cL,aO,cO,h1,h2,h3,hl1,hl2,?_⟩;rw[← hl1,← hl2];exact H
theorem Yz [Q4] {w:World} {p t:Nat} {m:MS} {l:List Q2} {lc:List Z5} {oc:List OC} {vL vO:Value} (h1:V9 m) (h2:lc.map (·.2.2)=m.lays) (h3:oc.map (·.ob)=m.objs)
  (H:Q0 w (pts p (row 56 [pp t,vL,vO])::Vi t m.P::QX 164 4 vL (VI lc)::star (lc.map YG)::QX 267 1 vO (oc.map fun x=>pp x.ptr)::star (oc.map ZY)::l)):Q0 w (Qq p m::l):=
 Q0.ex.2 ⟨⟨t,vL,lc,vO,oc⟩,Q0.star.2 (Q0.prop.2 ⟨⟨h1,h2,h3⟩,H⟩)⟩
theorem Gi [Q4] {w:World} {p:Nat} {m:MS} {l:List Q2} (H:Q0 w (Qq p m::l)) {o:Nat} {x:QI} (ho:m.objs[o]? = some x):∃ (t:Nat) (lc:List Z5) (aL:Option Addr) (cL bO cO:Nat) (s ptrs:List Value) (q:Nat) (vw vk vt:Value) (rest:List Q2),V9 m∧lc.map (·.2.2)=m.lays∧(ptrs++s)[0+o*1]? = some (pp q) ∧
  Q0 w (pts q (K6 vw vk vt x)::UL vw x.w::NL vk x.kind::NL vt x.to::pts bO (row 267 (ptrs++s))::pts p (row 56 [pp t,.slice aL m.lays.length cL,.slice (some ⟨bO,0,none⟩) m.objs.length cO])::QX 164 4 (.slice aL m.lays.length cL) (VI lc)::star (lc.map YG)::Vi t m.P::star rest::l) ∧
  ∀ (w':World) (l':List Q2) (x':QI),V9 { m with objs:=m.objs.set o x' }→Q0 w' (pts q (K6 vw vk vt x')::UL vw x'.w::NL vk x'.kind::NL vt x'.to::pts bO (row 267 (ptrs++s))::pts p (row 56 [pp t,.slice aL m.lays.length cL,.slice (some ⟨bO,0,none⟩) m.objs.length cO])::QX 164 4 (.slice aL m.lays.length cL) (VI lc)::star (lc.map YG)::Vi t m.P::star rest::l')→Q0 w' (Qq p { m with objs:=m.objs.set o x' }::l'):=by
 obtain⟨t,lc,oc,aL,cL,aO,cO,h1,h2,h3,hl1,hl2,H⟩:=Zj H;have hol:o < m.objs.length:=(List.getElem?_eq_some_iff.1 ho).1
 obtain⟨y,hy,hyx⟩:∃ y,oc[o]? = some y∧y.ob=x:=by
  rw[← h3,getElem?_map,Option.map_eq_some_iff] at ho;exact ho
 obtain⟨q,vw,vk,vt,x1⟩:=y;obtain rfl:x1=x:=hyx;have hpk:=SL.split_at hy;replace H:=Js [4,4,0,0,0,0] 0 H;obtain⟨bO,s,rfl,H,hclose⟩:=V3 H (by omega);replace H:=Js [1,0,0,0,0,0] 0 H;have H:=Q0.star.1 ((Q0.pick (R:=ZY) hpk).1 H);replace H:Q0 w (pts q (K6 vw vk vt x1)::UL vw x1.w::NL vk x1.kind::NL vt x1.to::star ((oc.take o++oc.drop (o+1)).map ZY)::pts bO (row 267 ((oc.map fun x=>pp x.ptr)++s))::pts p (row 56 [pp t,.slice aL m.lays.length cL,.slice (some ⟨bO,0,none⟩) m.objs.length cO])::Vi t m.P::QX 164 4 (.slice aL m.lays.length cL) (VI lc)::star (lc.map YG)::l):=H;refine⟨t,lc,aL,cL,bO,cO,s,oc.map fun x=>pp x.ptr,q,vw,vk,vt,(oc.take o++oc.drop (o+1)).map ZY,h1,h2,?_,?_,?_⟩
 ·rw[Nat.zero_add,Nat.mul_one,getElem?_append_left (by simp;omega),getElem?_map,hy];rfl
 ·replace H:=Js [0,0,0,0,1,1,2,2,1,0] 0 H;exact H
 ·intro w' l' x' hm' H;replace H:=Js [0,0,0,0,5,0,0,2,0,0] 0 H;have H:=(Q0.pick (R:=ZY) (x:=⟨q,vw,vk,vt,x'⟩) (g1:=oc.take o) (g2:=oc.drop (o+1)) rfl).2 (Q0.star.2 H);rw[← SL.set_split hy] at H;replace H:=Js [1,0,0,0,0,0] 0 H;have H:=hclose _ _ H
  have hp:(oc.map fun x=>pp x.ptr)=((oc.set o ⟨q,vw,vk,vt,x'⟩).map fun x=>pp x.ptr):=by
   rw[map_set]
   symm
   apply ext_getElem?;intro i;rw[getElem?_set];split
   ·rename_i hi;subst hi;rw[getElem?_map,hy];simp;omega
   ·rfl
  rw[hp] at H;replace H:=Js [2,2,2,2,0,0] 0 H;have hs:({ m with objs:=m.objs.set o x' }:MS).objs=m.objs.set o x':=rfl;exact Yz (m:={ m with objs:=m.objs.set o x' }) hm' h2 (by rw[map_set,h3]) H
def V5 (m:MS) (o:Int):Option (Nat×QI):=
 if 0≤o then
  match m.objs[o.toNat]? with
  | some x=>if x.held && !x.gone then some (o.toNat,x) else none
  | none=>none
 else none
theorem Cq (m:MS) (o:Nat):V5 m o=match m.objs[o]? with|some x=>if x.held && !x.gone then some (o,x) else none|none=>none:=by
 unfold V5;rw[if_pos (by omega),Int.toNat_natCast]
def VD (m:MS) (o place:Int) (ref:Bool):Nat:=
 match V5 m o with
 | none=>8
 | some (_,x)=>QM (Vs m x) x.w.length place ref
theorem UW [Q4] {w:World} {p:Nat} {m:MS} {l:List Q2} {o:Nat} {x:QI} (ho:m.objs[o]? = some x) (H:Q0 w (Qq p { m with objs:=m.objs.set o x }::l)):Q0 w (Qq p m::l):=by
 have:m.objs.set o x=m.objs:=by
  apply ext_getElem?;intro i;rw[getElem?_set];split
  ·rename_i hi;subst hi;rw[ho];have:=(List.getElem?_eq_some_iff.1 ho).1;simp[this]
  ·rfl
 rw[this] at H;exact H
theorem Rs {m:MS} {o:Nat} {x:QI} (ho:m.objs[o]? = some x) (h:V9 m):V9 { m with objs:=m.objs.set o x }:=by
 have:m.objs.set o x=m.objs:=by
  apply ext_getElem?;intro i;rw[getElem?_set];split
  ·rename_i hi;subst hi;rw[ho];have:=(List.getElem?_eq_some_iff.1 ho).1;simp[this]
  ·rfl
 rw[this];exact h
theorem B1 [Q4] (p:Nat) (m:MS) (o:Int) {w:World} {fr:List Q2} (H:Q0 w (Qq p m::fr)) :
  Calls Tryz.prog 169 #[pp p,.int .i64 o] w (ret fun v w'=>v = .bool (V5 m o).isSome∧Q0 w' (Qq p m::fr)):=by
 by_cases h0:o≥0
 ·obtain⟨k,rfl⟩:∃ k:Nat,o=k:=⟨o.toNat,by omega⟩;by_cases h1:k < m.objs.length
  ·have hx:=getElem?_eq_getElem h1;generalize m.objs[k]=x at hx;have hv:V5 m k=if x.held && !x.gone then some (k,x) else none:=by rw[Cq,hx]
   obtain⟨t,lc,aL,cL,bO,cO,s,ptrs,q,vw,vk,vt,rest,hm,h2,hp,H,hclose⟩:=Gi H hx;have hm':=Rs hx hm;obtain⟨xr,xl,xc,xw,xk,xt,xh,xp,xg⟩:=x;refine QQ Tryz.func169 rfl (by kernel_rfl) ?_;refine Uw H ?_;rw[show decide ((k:Int)≥0)=true from decide_eq_true (by omega)];refine KL H ?_;rw[show decide ((k:Int) < (m.objs.length:Int))=true from decide_eq_true (by omega)];refine AL H ?_;refine QT rfl rfl rfl (GC rfl rfl (by omega) (by omega) rfl ?_);refine QT rfl rfl rfl (QB H rfl hp rfl ?_);cases xh with
   | true=>
    refine Yj H ?_;refine Ur H ?_;refine AL H ?_;refine QT rfl rfl rfl (GC rfl rfl (by omega) (by omega) rfl ?_);refine QT rfl rfl rfl (QB H rfl hp rfl ?_);refine Dq H ?_;refine J3 H ?_;refine Q3 (Jy (UW hx (hclose _ _ _ hm' H)) rfl fun w' H'=>⟨?_,H'⟩);rw[hv];cases xg <;> rfl
   | false=>
    refine Yj H ?_;refine Ur H ?_;refine Uy H ?_;refine Bm H ?_;refine J3 H ?_;refine Q3 (Jy (UW hx (hclose _ _ _ hm' H)) rfl fun w' H'=>⟨?_,H'⟩);rw[hv];rfl
  ·have hv:V5 m k=none:=by rw[Cq,getElem?_eq_none (by omega)]
   obtain⟨t,lc,oc,aL,cL,aO,cO,a1,a2,a3,a4,a5,H⟩:=Zj H;refine QQ Tryz.func169 rfl (by kernel_rfl) ?_;refine Uw H ?_;rw[show decide ((k:Int)≥0)=true from decide_eq_true (by omega)];refine KL H ?_;rw[show decide ((k:Int) < (m.objs.length:Int))=false from decide_eq_false (by omega)];refine AO H ?_;refine KI H ?_;refine Uy H ?_;refine Bm H ?_;refine J3 H ?_;refine Q3 (Jy (Yz a1 a2 a3 H) rfl fun w' H'=>⟨?_,H'⟩);rw[hv];rfl
 ·have hv:V5 m o=none:=by unfold V5;rw[if_neg (by omega)]
  refine QQ Tryz.func169 rfl (by kernel_rfl) ?_;refine Uw H ?_;rw[show decide (o≥0)=false from decide_eq_false (by omega)];refine Bp H ?_;refine AO H ?_;refine KI H ?_;refine Uy H ?_;refine Bm H ?_;refine J3 H ?_;refine Q3 (Jy H rfl fun w' H'=>⟨?_,H'⟩);rw[hv];rfl
theorem OE [Q4] {w:World} {aL:Option Addr} {n cL:Nat} {lc:List Z5} {l:List Q2} (hn:lc.length=n) (H:Q0 w (QX 164 4 (.slice aL n cL) (VI lc)::star (lc.map YG)::l)) {i:Nat} {y:Z5} (hy:lc[i]? = some y) :
  ∃ (bL:Nat) (s:List Value) (D1 D2 R:Q2),aL=some ⟨bL,0,none⟩∧Q0 w (pts bL (row 164 (VI lc++s))::D1::D2::R::l)∧(∀ l',UT (D1::D2::l') y.1 y.2.1 y.2.2) ∧
   ∀ (w':World) (l':List Q2),Q0 w' (pts bL (row 164 (VI lc++s))::D1::D2::R::l')→Q0 w' (QX 164 4 (.slice aL n cL) (VI lc)::star (lc.map YG)::l'):=by
 have hi:i < lc.length:=(List.getElem?_eq_some_iff.1 hy).1;have hpk:=SL.split_at hy;obtain⟨vr,vq,l'⟩:=y;obtain⟨bL,s,rfl,H,hclose⟩:=V3 H (by omega);have H:=Q0.star.1 ((Q0.pick (R:=YG) hpk).1 H.swap);replace H:Q0 w (NL vr l'.refs::NL vq l'.recs::star ((lc.take i++lc.drop (i+1)).map YG)::pts bL (row 164 (VI lc++s))::l):=H;obtain⟨D1,H,hD1,hC1⟩:=sls_rd H (QH _) (by decide);obtain⟨D2,H,hD2,hC2⟩:=sls_rd H.swap (QH _) (by decide);replace H:=Js [3,0,0,0] 0 H;refine⟨bL,s,D2,D1,star ((lc.take i++lc.drop (i+1)).map YG),rfl,H,fun l'=>⟨(hD1 _).there,hD2 _⟩,?_⟩;intro w' l2 H;replace H:=Js [1,1,1,0] 0 H;have H:=hC1 _ _ (hC2 _ _ H).swap;replace H:=Js [0,0,0,0] 0 H;have H:=(Q0.pick (R:=YG) hpk).2 (Q0.star.2 H);exact hclose _ _ H.swap
theorem Rt {m:MS} {w:V9 m} {x:QI} {o:Nat} (h:m.objs[o]? = some x):x.w.length < 8192:=by
 obtain⟨l,_,_,h⟩:=(w.objs x (mem_of_getElem? h)).lay;unfold VQ at h;split at h
 ·injection h with h1 h2;cases h2
 ·split at h
  ·injection h with h1 h2;cases h2
  ·injection h with h1 h2;omega
theorem K7 {m:MS} {o:Int} {k:Nat} {x:QI} (h:V5 m o=some (k,x)):o=k∧m.objs[k]? = some x∧x.held=true∧x.gone=false:=by
 unfold V5 at h;split at h
 ·split at h
  ·rename_i y hy;split at h
   ·rename_i hh;injection h with h
    injection h with h1 h2
    subst h1 h2;have hh':=Bool.and_eq_true_iff.1 hh;exact⟨by omega,hy,hh'.1,by simpa using hh'.2⟩
   ·cases h
  ·cases h
 ·cases h
theorem eM {m:MS} (h:V9 m) {lc:List Z5} (hl:lc.map (·.2.2)=m.lays) {x:QI} {o:Nat} (hx:m.objs[o]? = some x):∃ y:Z5,lc[x.lay - 1]? = some y∧y.2.2=Vs m x∧1≤x.lay∧x.lay≤lc.length∧Vh (Vs m x)∧VQ (Vs m x) x.count=(x.w.length,0):=by
 have hm:=h.objs x (mem_of_getElem? hx);obtain⟨h1,h2,h3⟩:=eL (P:=m.P) (os:=m.objs) hm;have h1':m.lays[x.lay - 1]? = some (Vs m x):=h1;have h3':(lc.map (·.2.2))[x.lay - 1]? = some (Vs m x):=by rw[hl];exact h1'
 rw[getElem?_map,Option.map_eq_some_iff] at h3';obtain⟨y,hy,e⟩:=h3';have:=(List.getElem?_eq_some_iff.1 hy).1;have:=hm.lay1;exact⟨y,hy,e,hm.lay1,by omega,h2,h3⟩
theorem eN {l:QL} {c:Nat} {n p:Nat} (h:VQ l c=(n,0)) (hp:p < n):l.record≠0∨p < l.fixed:=by
 unfold VQ at h;split at h
 ·injection h with h1 h2;cases h2
 ·split at h
  ·injection h with h1 h2;cases h2
  ·injection h with h1 h2
   by_cases h0:l.record=0
   ·rw[h0] at h1;right;omega
   ·left;exact h0
theorem Ru [Q4] (p:Nat) (m:MS) (o place:Int) (ref:Bool) {w:World} {fr:List Q2} (H:Q0 w (Qq p m::fr)) :
  Calls Tryz.prog 152 #[pp p,.int .i64 o,.int .i64 place,.bool ref] w (ret fun v w'=>v = .int .i64 (VD m o place ref:Nat)∧Q0 w' (Qq p m::fr)):=by
 refine QQ Tryz.func152 rfl (by kernel_rfl) ?_;refine Uw H ?_;refine Jc rfl rfl (B1 p m o H) ?_;clear H;rintro v w ⟨rfl,H⟩;refine J0 H ?_;cases hv:V5 m o with
 | none=>
  have hr:VD m o place ref=8:=by unfold VD;rw[hv]
  refine AP H ?_;refine Q3 (Jy H rfl fun w' H'=>⟨by rw[hr];rfl,H'⟩)
 | some kx=>
  obtain⟨k,x⟩:=kx;obtain⟨rfl,hx,hh,hg⟩:=K7 hv;have hr:VD m k place ref=QM (Vs m x) x.w.length place ref:=by unfold VD;rw[hv]
  have hkl:=(List.getElem?_eq_some_iff.1 hx).1;obtain⟨t,lc,aL,cL,bO,cO,s,ptrs,q,vw,vk,vt,rest,hm,h2,hp,H,hclose⟩:=Gi H hx;have hm':=Rs hx hm;obtain⟨y,hy,hyl,hl1,hl2,hR,hsz⟩:=eM hm h2 hx;obtain⟨aw,cw,rfl⟩:=QE H.drop (Z3 _) (by decide);refine Gw H ?_;refine V2 H ?_;refine Jd ?_;refine Q5 rfl (QB H rfl hp rfl ?_);refine J0 H ?_;refine J9 H ?_;by_cases h1:place < 0∨(x.w.length:Int)≤place
  ·have hr':VD m k place ref=3:=by rw[hr];unfold QM;rw[if_pos h1]
   by_cases h0:place < 0
   ·rw[show decide (place < 0)=true from decide_eq_true (by omega)];refine Bp H ?_;refine UM H ?_;refine Q3 (Jy (UW hx (hclose _ _ _ hm' H)) rfl fun w' H'=>⟨by rw[hr'];rfl,H'⟩)
   ·rw[show decide (place < 0)=false from decide_eq_false (by omega)];refine KL H ?_;rw[show decide (place≥(x.w.length:Int))=true from decide_eq_true (by omega)];refine UM H ?_;refine Q3 (Jy (UW hx (hclose _ _ _ hm' H)) rfl fun w' H'=>⟨by rw[hr'];rfl,H'⟩)
  ·obtain⟨j,rfl⟩:∃ j:Nat,place=j:=⟨place.toNat,by omega⟩;have hsm:=Rt (w:=hm) hx;rw[show decide ((j:Int) < 0)=false from decide_eq_false (by omega)];refine KL H ?_;rw[show decide ((j:Int)≥(x.w.length:Int))=false from decide_eq_false (by omega)];refine Vx H ?_;replace H:=Js [6,6,0,0,0,0,0,0,0,0] 0 H;obtain⟨bL,sL,D1,D2,R,rfl,H,hD,hcl⟩:=OE (by rw[← h2,length_map]) H hy;obtain⟨vr,vq,ly⟩:=y;obtain rfl:ly=Vs m x:=hyl;refine J1 H ?_;clear H;intro w H;refine Yu H ?_;refine Jl 3 [12] H ?_;refine E4 H ?_;refine Jl 7 [12] H ?_;refine Ja 8 ?_;rw[show IntKind.i64.wrap ((x.lay:Int) - 1)=((x.lay - 1:Nat):Int) by rw[Qb (by omega) (by have:=hm.lays.1;rw[← h2,length_map] at this;omega)];omega];refine R4 9 rfl (Q7.none rfl) rfl rfl (by omega) (by rw[← h2,length_map];omega) (by kernel_rfl) ?_;refine VB 10 [12] H rfl (Q7.none rfl) rfl (Hs hy) (by kernel_rfl) ?_;refine Ja 11 ?_;refine Jo 12 H ?_;refine Jk rfl rfl (eC vr vq (Vs m x) hR j (eN hsz (by omega)) (by omega) ((hD _).there) H) ?_;clear H;rintro v w ⟨rfl,H⟩;refine Rb H ?_;replace H:=hcl _ _ H;replace H:=Js [2,2,2,2,2,2,0,0,0,0] 0 H;replace H:=UW hx (hclose _ _ _ hm' H);generalize hbb:VV (Vs m x) j=bb;cases bb with
   | true=>
    cases ref with
    | true=>
     refine EN H ?_;have hr':VD m k j true=0:=by rw[hr];unfold QM;rw[if_neg h1,Int.toNat_natCast,if_neg (by rw[hbb];decide)]
     refine KS H ?_;refine Q3 (Jy H rfl fun w' H'=>⟨by rw[hr'];rfl,H'⟩)
    | false=>
     refine EN H ?_;have hr':VD m k j false=9:=by rw[hr];unfold QM;rw[if_neg h1,Int.toNat_natCast,if_pos (by rw[hbb];decide)]
     refine YC H ?_;refine Q3 (Jy H rfl fun w' H'=>⟨by rw[hr'];rfl,H'⟩)
   | false=>
    cases ref with
    | true=>
     refine EN H ?_;have hr':VD m k j true=9:=by rw[hr];unfold QM;rw[if_neg h1,Int.toNat_natCast,if_pos (by rw[hbb];decide)]
     refine YC H ?_;refine Q3 (Jy H rfl fun w' H'=>⟨by rw[hr'];rfl,H'⟩)
    | false=>
     refine EN H ?_;have hr':VD m k j false=0:=by rw[hr];unfold QM;rw[if_neg h1,Int.toNat_natCast,if_neg (by rw[hbb];decide)]
     refine KS H ?_;refine Q3 (Jy H rfl fun w' H'=>⟨by rw[hr'];rfl,H'⟩)
@[reducible] def Yq (m:MS) (k:Nat) (x:QI):MS:={ m with objs:=m.objs.set k x }
theorem Wi {m:MS} (h:V9 m) {o:Nat} {x:QI} (hx:U2 m.lays m.objs.length x):V9 (Yq m o x):=by
 refine⟨h.P,h.lays,fun y hy=>?_,by show (m.objs.set o x).length≤_;rw[length_set];exact h.few⟩;have hl:(m.objs.set o x).length=m.objs.length:=length_set;show U2 m.lays (m.objs.set o x).length y;rw[hl]
 rcases mem_or_eq_of_mem_set hy with hy|rfl
 ·exact h.objs y hy
 ·exact hx
def Gj (m:MS) (o:Int):MS×Nat:=
 match V5 m o with
 | none=>(m,8)
 | some (k,x)=>(Yq m k { x with held:=false },0)
theorem eO [Q4] (p:Nat) (m:MS) (o:Int) {w:World} {fr:List Q2} (H:Q0 w (Qq p m::fr)) :
  Calls Tryz.prog 161 #[pp p,.int .i64 o] w (ret fun v w'=>v = .int .i64 ((Gj m o).2:Nat)∧Q0 w' (Qq p (Gj m o).1::fr)):=by
 refine QQ Tryz.func161 rfl (by kernel_rfl) ?_;refine Uw H ?_;refine Jc rfl rfl (B1 p m o H) ?_;clear H;rintro v w ⟨rfl,H⟩;refine J0 H ?_;cases hv:V5 m o with
 | none=>
  have hr:Gj m o=(m,8):=by unfold Gj;rw[hv]
  rw[hr];refine AP H ?_;refine Q3 (Jy H rfl fun w' H'=>⟨rfl,H'⟩)
 | some kx=>
  obtain⟨k,x⟩:=kx;have hr:Gj m o=(Yq m k { x with held:=false },0):=by unfold Gj;rw[hv]
  rw[hr];obtain⟨rfl,hx,hh,hg⟩:=K7 hv;have hkl:=(List.getElem?_eq_some_iff.1 hx).1;obtain⟨t,lc,aL,cL,bO,cO,s,ptrs,q,vw,vk,vt,rest,hm,h2,hp,H,hclose⟩:=Gi H hx;have hm':V9 (Yq m k { x with held:=false }):=Wi hm (by obtain⟨a,b,c,d,e⟩:=hm.objs x (mem_of_getElem? hx);exact⟨a,b,c,d,e⟩);refine Gw H ?_;refine V2 H ?_;refine Jd ?_;refine Q5 rfl (QB H rfl hp rfl ?_);refine GL H ?_;clear H;intro w H;refine WR H ?_;refine Q3 (Jy (hclose _ _ _ hm' H) rfl fun w' H'=>⟨rfl,H'⟩)
def Gk (m:MS) (o:Int) (on:Bool):MS×Nat:=
 match V5 m o with
 | none=>(m,8)
 | some (k,x)=>if x.pinned=on then (m,7) else (Yq m k { x with pinned:=on },0)
theorem eP [Q4] (p:Nat) (m:MS) (o:Int) (on:Bool) {w:World} {fr:List Q2} (H:Q0 w (Qq p m::fr)) :
  Calls Tryz.prog 163 #[pp p,.int .i64 o,.bool on] w (ret fun v w'=>v = .int .i64 ((Gk m o on).2:Nat)∧Q0 w' (Qq p (Gk m o on).1::fr)):=by
 refine QQ Tryz.func163 rfl (by kernel_rfl) ?_;refine Uw H ?_;refine Jc rfl rfl (B1 p m o H) ?_;clear H;rintro v w ⟨rfl,H⟩;refine J0 H ?_;cases hv:V5 m o with
 | none=>
  have hr:Gk m o on=(m,8):=by unfold Gk;rw[hv]
  rw[hr];refine AP H ?_;refine Q3 (Jy H rfl fun w' H'=>⟨rfl,H'⟩)
 | some kx=>
  obtain⟨k,x⟩:=kx;have hr:Gk m o on=if x.pinned=on then (m,7) else (Yq m k { x with pinned:=on },0):=by unfold Gk;rw[hv]
  rw[hr];obtain⟨rfl,hx,hh,hg⟩:=K7 hv;have hkl:=(List.getElem?_eq_some_iff.1 hx).1;obtain⟨t,lc,aL,cL,bO,cO,s,ptrs,q,vw,vk,vt,rest,hm,h2,hp,H,hclose⟩:=Gi H hx;have hm0:=Rs hx hm;have hm':V9 (Yq m k { x with pinned:=on }):=Wi hm (by obtain⟨a,b,c,d,e⟩:=hm.objs x (mem_of_getElem? hx);exact⟨a,b,c,d,e⟩);refine Gw H ?_;obtain⟨xr,xl,xc,xw,xk,xt,xh,xp,xg⟩:=x;refine V2 H ?_;refine Jd ?_;refine Q5 rfl (QB H rfl hp rfl ?_);cases xp with
  | true=>
   cases on with
   | true=>
    refine EO H ?_;refine J2 H ?_;refine YC H ?_;refine Q3 (Jy (UW hx (hclose _ _ _ hm0 H)) rfl fun w' H'=>⟨rfl,H'⟩)
   | false=>
    refine EO H ?_;refine RT H ?_;refine V2 H ?_;refine Jd ?_;refine Q5 rfl (QB H rfl hp rfl ?_);refine YA H ?_;refine Uu H ?_;clear H;intro w H;refine WR H ?_;refine Q3 (Jy (hclose _ _ _ hm' H) rfl fun w' H'=>⟨rfl,H'⟩)
  | false=>
   cases on with
   | true=>
    refine EO H ?_;refine RT H ?_;refine V2 H ?_;refine Jd ?_;refine Q5 rfl (QB H rfl hp rfl ?_);refine YA H ?_;refine Uu H ?_;clear H;intro w H;refine WR H ?_;refine Q3 (Jy (hclose _ _ _ hm' H) rfl fun w' H'=>⟨rfl,H'⟩)
   | false=>
    refine EO H ?_;refine J2 H ?_;refine YC H ?_;refine Q3 (Jy (UW hx (hclose _ _ _ hm0 H)) rfl fun w' H'=>⟨rfl,H'⟩)
theorem B2 {l:List Nat} {spare:List Value} {i x:Nat} {v:Int} (h:i < l.length) (hv:v=(x:Nat)):(QA l++spare).set (0+i*1) (.int .i64 v)=QA (l.set i x)++spare:=by subst hv;exact Em h
theorem Uh {m:MS} {o place:Int} {ref:Bool} {k:Nat} {x:QI} (h:V5 m o=some (k,x)):VD m o place ref=QM (Vs m x) x.w.length place ref:=by unfold VD;rw[h]
theorem XT {m:MS} {o place:Int} {ref:Bool} (h:V5 m o=none):VD m o place ref=8:=by unfold VD;rw[h]
def Ui (m:MS) (o place:Int):MS×Nat:=
 match V5 m o with
 | none=>(m,8)
 | some (k,x)=>if QM (Vs m x) x.w.length place true=0 then (Yq m k { x with kind:=x.kind.set place.toNat 0,to:=x.to.set place.toNat 0 },0) else (m,QM (Vs m x) x.w.length place true)
theorem OF {m:MS} {o place:Int} (h:V5 m o=none):Ui m o place=(m,8):=by unfold Ui;rw[h]
theorem Ig {m:MS} {o place:Int} {k:Nat} {x:QI} (h:V5 m o=some (k,x)):Ui m o place=if QM (Vs m x) x.w.length place true=0 then (Yq m k { x with kind:=x.kind.set place.toNat 0,to:=x.to.set place.toNat 0 },0) else (m,QM (Vs m x) x.w.length place true):=by unfold Ui;rw[h]
theorem Ih {ls:List QL} {n:Nat} {x:QI} (h:U2 ls n x) (j kd t:Nat) (hk:kd=2→t < n):U2 ls n { x with kind:=x.kind.set j kd,to:=x.to.set j t }:=by
 obtain⟨a,b,c,d,e⟩:=h;refine⟨a,b,by show (x.kind.set j kd).length=_;rw[length_set];exact c,by show (x.to.set j t).length=_;rw[length_set];exact d,?_⟩;intro i (hi:(x.kind.set j kd)[i]? = some 2);show (x.to.set j t).getD i 0 < n;by_cases hji:j=i
 ·subst hji
  have hl:j < x.kind.length:=by
   have:=(List.getElem?_eq_some_iff.1 hi).1;simpa using this
  rw[getElem?_set_self hl] at hi;injection hi with hi
  rw[getD_eq_getElem?_getD,getElem?_set_self (by omega)];exact hk hi
 ·rw[getElem?_set_ne hji] at hi;have:=e i hi;rw[getD_eq_getElem?_getD,getElem?_set_ne hji,← getD_eq_getElem?_getD];exact this
theorem eS [Q4] (p:Nat) (m:MS) (o place:Int) {w:World} {fr:List Q2} (H:Q0 w (Qq p m::fr)) :
  Calls Tryz.prog 159 #[pp p,.int .i64 o,.int .i64 place] w (ret fun v w'=>v = .int .i64 ((Ui m o place).2:Nat)∧Q0 w' (Qq p (Ui m o place).1::fr)):=by
 refine QQ Tryz.func159 rfl (by kernel_rfl) ?_;refine WK H ?_;refine Jc rfl rfl (Ru p m o place true H) ?_;clear H;rintro v w ⟨rfl,H⟩;refine YY H ?_;by_cases h0:VD m o place true=0
 ·obtain⟨k,x,hv⟩:∃ k x,V5 m o=some (k,x):=by
   cases hv:V5 m o with
   | none=>rw[XT hv] at h0;cases h0
   | some kx=>exact⟨kx.1,kx.2,rfl⟩
  rw[Uh hv] at h0 ⊢;rw[Ig hv,if_pos h0,h0];obtain⟨rfl,hx,hh,hg⟩:=K7 hv;have hkl:=(List.getElem?_eq_some_iff.1 hx).1;obtain⟨j,rfl,hj,hr⟩:=Zh h0;rw[Int.toNat_natCast];obtain⟨t,lc,aL,cL,bO,cO,s,ptrs,q,vw,vk,vt,rest,hm,h2,hp,H,hclose⟩:=Gi H hx;have hob:=hm.objs x (mem_of_getElem? hx);have hkn:=hob.kind;have htn:=hob.to;have hsm:=Rt (w:=hm) hx;obtain⟨ak,ck,rfl⟩:=QE H.drop.drop (QH _) (by decide);obtain⟨at',ct,rfl⟩:=QE H.drop.drop.drop (QH _) (by decide);replace H:=Js [2,0,0,0] 0 H;obtain⟨bk,sk,rfl,H,_,_,hck⟩:=Z2 H (by omega);replace H:=Js [3,0,0,0] 0 H;obtain⟨bt,st,rfl,H,_,_,hct⟩:=Z2 H (by omega);refine VH H ?_;refine V2 H ?_;refine Jd ?_;refine Q5 rfl (QB H rfl hp rfl ?_);refine C8 H ?_;refine Jd ?_;refine Q5 rfl (Yh H rfl rfl inferInstance rfl (by simp only[length_append,QH];omega) rfl ?_);clear H;intro w H;rw[Int.toNat_natCast,B2 (v:=0) (x:=0) (by omega) rfl] at H;refine EB H ?_;refine Jd ?_;refine Q5 rfl (QB H rfl hp rfl ?_);refine C8 H ?_;refine Jd ?_;refine Q5 rfl (Yh H rfl rfl inferInstance rfl (by simp only[length_append,QH];omega) rfl ?_);clear H;intro w H;rw[Int.toNat_natCast,B2 (v:=0) (x:=0) (by omega) rfl] at H;refine J2 H ?_;replace H:=Js [1,0,0,0] 0 H;replace H:=hck _ _ (QA (x.kind.set j 0)) (by simp[QA]) H;replace H:=Js [1,0,0,0] 0 H;replace H:=hct _ _ (QA (x.to.set j 0)) (by simp[QA]) H;replace H:=Js [2,2,1,0] 0 H;replace H:=hclose _ _ { x with kind:=x.kind.set j 0,to:=x.to.set j 0 } (Wi hm (Ih hob j 0 0 (by omega))) H;refine J4 H ?_;exact Q3 (Jy H rfl fun w' H'=>⟨rfl,H'⟩)
 ·have hc:Ui m o place=(m,VD m o place true):=by
   cases hv:V5 m o with
   | none=>rw[OF hv,XT hv]
   | some kx=>
    obtain⟨k,x⟩:=kx;rw[Uh hv] at h0 ⊢;rw[Ig hv,if_neg h0]
  rw[hc,show (((VD m o place true:Nat):Int) == 0)=false by simpa using h0];refine Bg H ?_;exact Q3 (Jy H rfl fun w' H'=>⟨rfl,H'⟩)
def Yg (m:MS) (o place u:Int):MS×Nat:=
 match V5 m o with
 | none=>(m,8)
 | some (k,x)=>if QM (Vs m x) x.w.length place true=0 then match V5 m u with
  | none=>(m,8)
  | some (ku,_)=>(Yq m k { x with kind:=x.kind.set place.toNat 2,to:=x.to.set place.toNat ku },0)
  else (m,QM (Vs m x) x.w.length place true)
theorem eT [Q4] (p:Nat) (m:MS) (o place u:Int) {w:World} {fr:List Q2} (H:Q0 w (Qq p m::fr)) :
  Calls Tryz.prog 157 #[pp p,.int .i64 o,.int .i64 place,.int .i64 u] w (ret fun v w'=>v = .int .i64 ((Yg m o place u).2:Nat)∧Q0 w' (Qq p (Yg m o place u).1::fr)):=by
 refine QQ Tryz.func157 rfl (by kernel_rfl) ?_;refine WK H ?_;refine Jc rfl rfl (Ru p m o place true H) ?_;clear H;rintro v w ⟨rfl,H⟩;refine YY H ?_;by_cases h0:VD m o place true=0
 ·obtain⟨k,x,hv⟩:∃ k x,V5 m o=some (k,x):=by
   cases hv:V5 m o with
   | none=>rw[XT hv] at h0;cases h0
   | some kx=>exact⟨kx.1,kx.2,rfl⟩
  rw[Uh hv] at h0 ⊢;rw[h0];refine AC H ?_;refine Jc rfl rfl (B1 p m u H) ?_;clear H;rintro v w ⟨rfl,H⟩;refine J0 H ?_;cases hu:V5 m u with
  | none=>
   have hr:Yg m o place u=(m,8):=by unfold Yg;rw[hv];show (if QM _ _ _ _=0 then _ else _)=_;rw[if_pos h0,hu]
   rw[hr];refine AP H ?_;exact Q3 (Jy H rfl fun w' H'=>⟨rfl,H'⟩)
  | some kx=>
  obtain⟨ku,xu⟩:=kx;have hr:Yg m o place u=(Yq m k { x with kind:=x.kind.set place.toNat 2,to:=x.to.set place.toNat ku },0):=by unfold Yg;rw[hv];show (if QM _ _ _ _=0 then _ else _)=_;rw[if_pos h0,hu]
  rw[hr];obtain⟨rfl,hx,hh,hg⟩:=K7 hv;obtain⟨rfl,hxu,_,_⟩:=K7 hu;have hkl:=(List.getElem?_eq_some_iff.1 hx).1;have hkul:=(List.getElem?_eq_some_iff.1 hxu).1;obtain⟨j,rfl,hj,hr⟩:=Zh h0;rw[Int.toNat_natCast];refine Gw H ?_;obtain⟨t,lc,aL,cL,bO,cO,s,ptrs,q,vw,vk,vt,rest,hm,h2,hp,H,hclose⟩:=Gi H hx;have hob:=hm.objs x (mem_of_getElem? hx);have hkn:=hob.kind;have htn:=hob.to;have hsm:=Rt (w:=hm) hx;obtain⟨ak,ck,rfl⟩:=QE H.drop.drop (QH _) (by decide);obtain⟨at',ct,rfl⟩:=QE H.drop.drop.drop (QH _) (by decide);replace H:=Js [2,0,0,0] 0 H;obtain⟨bk,sk,rfl,H,_,_,hck⟩:=Z2 H (by omega);replace H:=Js [3,0,0,0] 0 H;obtain⟨bt,st,rfl,H,_,_,hct⟩:=Z2 H (by omega);refine V2 H ?_;refine Jd ?_;refine Q5 rfl (QB H rfl hp rfl ?_);refine C8 H ?_;refine Jd ?_;refine Q5 rfl (Yh H rfl rfl inferInstance rfl (by simp only[length_append,QH];omega) rfl ?_);clear H;intro w H;rw[Int.toNat_natCast,B2 (v:=2) (x:=2) (by omega) rfl] at H;refine EB H ?_;refine Jd ?_;refine Q5 rfl (QB H rfl hp rfl ?_);refine Jv ?_;refine Dr H ?_;refine Jd ?_;refine Q5 rfl (Yh H rfl rfl inferInstance rfl (by simp only[length_append,QH];omega) rfl ?_);clear H;intro w H;rw[Int.toNat_natCast,B2 (v:=ku) (x:=ku) (by omega) rfl] at H;refine J2 H ?_;replace H:=Js [1,0,0,0] 0 H;replace H:=hck _ _ (QA (x.kind.set j 2)) (by simp[QA]) H;replace H:=Js [1,0,0,0] 0 H;replace H:=hct _ _ (QA (x.to.set j ku)) (by simp[QA]) H;replace H:=Js [2,2,1,0] 0 H;replace H:=hclose _ _ { x with kind:=x.kind.set j 2,to:=x.to.set j ku } (Wi hm (Ih hob j 2 ku (fun _=>hkul))) H;refine VF H ?_;exact Q3 (Jy H rfl fun w' H'=>⟨rfl,H'⟩)
 ·have hc:Yg m o place u=(m,VD m o place true):=by
   cases hv:V5 m o with
   | none=>unfold Yg;rw[hv,XT hv]
   | some kx=>
    obtain⟨k,x⟩:=kx;rw[Uh hv] at h0 ⊢;unfold Yg;rw[hv];show (if QM _ _ _ _=0 then _ else _)=_;rw[if_neg h0]
  rw[hc,show (((VD m o place true:Nat):Int) != 0)=true by simpa using h0];refine Yc H ?_;exact Q3 (Jy H rfl fun w' H'=>⟨rfl,H'⟩)
def K8 (m:MS) (t:Nat):MS:=match m.objs[t]? with|some y=>Yq m t { y with held:=true }|none=>m
def YF (m:MS) (o place:Int):MS×Nat×Nat×Nat:=
 match V5 m o with
 | none=>(m,0,0,8)
 | some (_,x)=>if QM (Vs m x) x.w.length place true=0 then (if x.kind.getD place.toNat 0=2 then K8 m (x.to.getD place.toNat 0) else m,x.kind.getD place.toNat 0,x.to.getD place.toNat 0,0) else (m,0,0,QM (Vs m x) x.w.length place true)
theorem eb [Q4] (p:Nat) (m:MS) (o place:Int) {w:World} {fr:List Q2} (H:Q0 w (Qq p m::fr)) :
  Calls Tryz.prog 155 #[pp p,.int .i64 o,.int .i64 place] w (ret fun v w'=>v = .tuple #[.int .i64 ((YF m o place).2.1:Nat),.int .i64 ((YF m o place).2.2.1:Nat),.int .i64 ((YF m o place).2.2.2:Nat)]∧Q0 w' (Qq p (YF m o place).1::fr)):=by
 refine QQ Tryz.func155 rfl (by kernel_rfl) ?_;refine VX H ?_;refine Vc H ?_;refine Jc rfl rfl (Ru p m o place true H) ?_;clear H;rintro v w ⟨rfl,H⟩;refine YY H ?_;by_cases h0:VD m o place true=0
 ·obtain⟨k,x,hv⟩:∃ k x,V5 m o=some (k,x):=by
   cases hv:V5 m o with
   | none=>rw[XT hv] at h0;cases h0
   | some kx=>exact⟨kx.1,kx.2,rfl⟩
  rw[Uh hv] at h0 ⊢;have hrm:YF m o place=(if x.kind.getD place.toNat 0=2 then K8 m (x.to.getD place.toNat 0) else m,x.kind.getD place.toNat 0,x.to.getD place.toNat 0,0):=by unfold YF;rw[hv];show (if QM _ _ _ _=0 then _ else _)=_;rw[if_pos h0]
  rw[hrm,h0];refine V4 H ?_;obtain⟨rfl,hx,hh,hg⟩:=K7 hv;have hkl:=(List.getElem?_eq_some_iff.1 hx).1;obtain⟨j,rfl,hj,hr⟩:=Zh h0;rw[Int.toNat_natCast];obtain⟨t,lc,aL,cL,bO,cO,s,ptrs,q,vw,vk,vt,rest,hm,h2,hp,H,hclose⟩:=Gi H hx;have hob:=hm.objs x (mem_of_getElem? hx);have hkn:=hob.kind;have htn:=hob.to;have hsm:=Rt (w:=hm) hx;obtain⟨ak,ck,rfl⟩:=QE H.drop.drop (QH _) (by decide);obtain⟨at',ct,rfl⟩:=QE H.drop.drop.drop (QH _) (by decide);replace H:=Js [2,0,0,0] 0 H;obtain⟨bk,sk,rfl,H,_,_,hck⟩:=Z2 H (by omega);replace H:=Js [3,0,0,0] 0 H;obtain⟨bt,st,rfl,H,_,_,hct⟩:=Z2 H (by omega);have hkj:=getElem?_eq_getElem (l:=x.kind) (i:=j) (by omega);have htj:=getElem?_eq_getElem (l:=x.to) (i:=j) (by omega);have hkd:x.kind.getD j 0=x.kind[j]:=by rw[getD_eq_getElem?_getD,hkj];rfl
  have htd:x.to.getD j 0=x.to[j]:=by rw[getD_eq_getElem?_getD,htj];rfl
  have hgo:=hob.goes j;rw[htd] at hgo;rw[hkd,htd];generalize x.kind[j]=kd at *;generalize x.to[j]=td at *;refine V2 H ?_;refine Jd ?_;refine Q5 rfl (QB H rfl hp rfl ?_);refine C8 H ?_;refine Jd ?_;refine Q5 rfl (QB H rfl (Gz hkj) rfl ?_);refine J0 H ?_;refine V2 H ?_;refine Jd ?_;refine Q5 rfl (QB H rfl hp rfl ?_);refine C8 H ?_;refine Jd ?_;refine Q5 rfl (QB H rfl (Gz htj) rfl ?_);refine J0 H ?_;replace H:=Js [1,0,0,0] 0 H;replace H:=hck _ _ (QA x.kind) rfl H;replace H:=Js [1,0,0,0] 0 H;replace H:=hct _ _ (QA x.to) rfl H;replace H:=Js [2,2,1,0] 0 H;replace H:=UW hx (hclose _ _ x (Rs hx hm) H);clear hck hct hclose;refine J4 H ?_;by_cases h2':kd=2
  ·subst h2';rw[if_pos rfl];have htl:=hgo hkj;have hy:=getElem?_eq_getElem htl;generalize m.objs[td]=y at hy;have hh':K8 m td=Yq m td { y with held:=true }:=by unfold K8;rw[hy]
   rw[hh'];refine VH H ?_;obtain⟨t',lc',aL',cL',bO',cO',s',ptrs',q',vw',vk',vt',rest',hm',h2',hp',H,hclose⟩:=Gi H hy;refine V2 H ?_;refine Jd ?_;refine Q5 rfl (QB H rfl hp' rfl ?_);refine GL H ?_;clear H;intro w H;refine J2 H ?_;refine KF H ?_;refine Q3 (Jy (hclose _ _ { y with held:=true } (Wi hm (by obtain⟨a,b,c,d,e⟩:=hm.objs y (mem_of_getElem? hy);exact⟨a,b,c,d,e⟩)) H) rfl fun w' H'=>⟨rfl,H'⟩)
  ·rw[if_neg h2',show ((kd:Int) == 2)=false by simp;omega];refine V4 H ?_;refine KF H ?_;exact Q3 (Jy H rfl fun w' H'=>⟨rfl,H'⟩)
 ·have hc:YF m o place=(m,0,0,VD m o place true):=by
   cases hv:V5 m o with
   | none=>unfold YF;rw[hv,XT hv]
   | some kx=>
    obtain⟨k,x⟩:=kx;rw[Uh hv] at h0 ⊢;unfold YF;rw[hv];show (if QM _ _ _ _=0 then _ else _)=_;rw[if_neg h0]
  rw[hc,show (((VD m o place true:Nat):Int) != 0)=true by simpa using h0];refine VH H ?_;refine WJ H ?_;exact Q3 (Jy H rfl fun w' H'=>⟨rfl,H'⟩)
def GY:MS:=⟨[-1],[],[]⟩
theorem ef [Q4] {w:World} {fr:List Q2} (H:Q0 w fr):Calls Tryz.prog 88 #[] w (ret fun v w'=>∃ p,v=pp p∧Q0 w' (Qq p GY::fr)):=by
 refine QQ Tryz.func88 rfl (by kernel_rfl) ?_;refine Bs H ?_;refine Jc rfl rfl (eJ H) ?_;clear H;rintro v w ⟨t,rfl,H⟩;refine XW H ?_;clear H;intro b3 w H;refine J0 H ?_;have H:Q0 w (star (([]:List OC).map ZY)::pts b3 (row 56 [pp t,.slice none 0 0,.slice none 0 0])::Vi t [-1]::fr):=Q0.star.2 H;have H:=Yt (E:=267) (k:=1) H;have H:Q0 w (star (([]:List Z5).map YG)::_):=Q0.star.2 H;have H:=Yt (E:=164) (k:=4) H;replace H:=Js [4,4,0,0,0,0] 0 H;have hm:V9 GY:=⟨⟨by simp[GY],by simp[GY]⟩,⟨by simp[GY],fun l h=>by cases h⟩,(fun l h=>by cases h),by simp[GY]⟩;exact Q3 (Jy (Yz (m:=GY) hm (lc:=[]) (oc:=[]) rfl rfl H) rfl fun w' H'=>⟨_,rfl,H'⟩)
def Xa (m:MS) (parent:Int):MS×Nat×Nat:=if ZV m.P parent=0 then ({ m with P:=m.P++[parent] },m.P.length,0) else (m,0,ZV m.P parent)
theorem OH [Q4] (p:Nat) (m:MS) (parent:Int) (hP:m.P.length < 100000) {w:World} {fr:List Q2} (H:Q0 w (Qq p m::fr)) :
  Calls Tryz.prog 149 #[pp p,.int .i64 parent] w (ret fun v w'=>v = .tuple #[.int .i64 ((Xa m parent).2.1:Nat),.int .i64 ((Xa m parent).2.2:Nat)]∧Q0 w' (Qq p (Xa m parent).1::fr)):=by
 obtain⟨t,lc,oc,aL,cL,aO,cO,hm,h2,h3,hl1,hl2,H⟩:=Zj H;refine QQ Tryz.func149 rfl (by kernel_rfl) ?_;refine C9 H ?_;replace H:=Js [1,0] 0 H;refine Jc rfl rfl (OD t m.P parent (by omega) hm.P.1 H) ?_;clear H;rintro v w (⟨he,rfl,H⟩|⟨he,rfl,H⟩)
 ·have hr:Xa m parent=(m,0,ZV m.P parent):=by unfold Xa;rw[if_neg he]
  rw[hr];refine AI H ?_;exact Q3 (Jy (Yz hm h2 h3 H.swap) rfl fun w' H'=>⟨rfl,H'⟩)
 ·have hr:Xa m parent=({ m with P:=m.P++[parent] },m.P.length,0):=by unfold Xa;rw[if_pos he]
  rw[hr];have hm':V9 { m with P:=m.P++[parent] }:=⟨⟨by simp,by simp;omega⟩,hm.lays,hm.objs,hm.few⟩;refine AI H ?_;exact Q3 (Jy (Yz (m:={ m with P:=m.P++[parent] }) hm' h2 h3 H.swap) rfl fun w' H'=>⟨rfl,H'⟩)
def ZT (m:MS) (ws:List Nat):MS×Nat×Nat:=
 match ZC ws with
 | none=>(m,0,4)
 | some l=>if 64≤m.lays.length then (m,0,5) else ({ m with lays:=m.lays++[l] },m.lays.length+1,0)
theorem eg {ls:List QL} {l:QL} {n:Nat} {x:QI} (h:U2 ls n x):U2 (ls++[l]) n x:=by
 obtain⟨⟨l',a,a2⟩,b,c,d,e⟩:=h;exact⟨⟨l',by rw[getElem?_append_left (List.getElem?_eq_some_iff.1 a).1];exact a,a2⟩,b,c,d,e⟩
theorem eo [Q4] (p:Nat) (m:MS) (v:Value) (ws:List Nat) (hws:∀ x∈ws,x < 18446744073709551616) {w:World} {fr:List Q2} (hr:Vt fr v ws.length 1 (Qa ws)) (H:Q0 w (Qq p m::fr)) :
  Calls Tryz.prog 148 #[pp p,v] w (ret fun r w'=>r = .tuple #[.int .i64 ((ZT m ws).2.1:Nat),.int .i64 ((ZT m ws).2.2:Nat)]∧Q0 w' (Qq p (ZT m ws).1::fr)):=by
 obtain⟨_,ad,cap,rfl,hr'⟩:=id hr;refine QQ Tryz.func148 rfl (by kernel_rfl) ?_;refine DN H ?_;refine Jc rfl rfl (eD _ ws hws hr.there H) ?_;clear H;rintro r w (⟨hd,rfl,H⟩|⟨l,vr,vq,hd,rfl,H⟩)
 ·have hdr:ZT m ws=(m,0,4):=by unfold ZT;rw[hd]
  rw[hdr];refine Ve H ?_;clear H;intro b6 w H;refine J5 H ?_;clear H;intro w H;refine C1 H ?_;exact Q3 (Jy H.drop rfl fun w' H'=>⟨rfl,H'⟩)
 ·obtain⟨a1,m1,c1,rfl⟩:=Qs H;obtain⟨a2,m2,c2,rfl⟩:=Qs H.swap;replace H:=Js [2,0,0] 0 H;obtain⟨t,lc,oc,aL,cL,aO,cO,hm,h2,h3,hl1,hl2,H⟩:=Zj H;refine Ve H ?_;clear H;intro b6 w H;refine J5 H ?_;clear H;intro w H;refine Yl H ?_;refine Yk H ?_;refine Gx H ?_;by_cases h64:64≤m.lays.length
  ·have hdr:ZT m ws=(m,0,5):=by unfold ZT;rw[hd];show (if _ then _ else _)=_;rw[if_pos h64]
   rw[hdr];rw[show decide ((m.lays.length:Int)≥64)=true from decide_eq_true (by omega)];refine Yc H ?_;have H:=Yz hm h2 h3 H.drop;replace H:=Js [0] 2 H;exact Q3 (Jy H rfl fun w' H'=>⟨rfl,H'⟩)
  ·have hdr:ZT m ws=({ m with lays:=m.lays++[l] },m.lays.length+1,0):=by unfold ZT;rw[hd];show (if _ then _ else _)=_;rw[if_neg h64]
   rw[hdr]
   have hR:Vh l:=by
    unfold ZC at hd;split at hd
    ·split at hd
     ·injection hd with hd;rename_i hx;rw[← hd];exact hx.2
     ·cases hd
    ·cases hd
   have hm':V9 { m with lays:=m.lays++[l] }:=⟨hm.P,⟨by show (m.lays++[l]).length≤64;simp;omega,fun x hx=>by
    rcases mem_append.1 hx with hx|hx
    ·exact hm.lays.2 x hx
    ·simp at hx;subst hx;exact hR⟩,fun x hx=>eg (hm.objs x hx),hm.few⟩
   rw[show decide ((m.lays.length:Int)≥64)=false from decide_eq_false (by omega)];refine Bz H ?_;clear H;intro w H;refine WH H ?_;refine Jl 4 [7,10] H ?_;refine HI H ?_;refine Jo 6 H ?_;refine WU H ?_;clear H;intro b27 w H;replace H:=Js [4,0,0,0,0] 0 H;refine Jo 7 H ?_;refine YR H rfl rfl (by repeat first|exact .nil _|apply Q9.cons rfl) rfl (by decide) (by rw[Rn];simp only[length_cons,length_nil];omega) rfl rfl ?_;clear H;intro v28 w H
   have e1:VI lc++[.int .i64 l.fixed,.slice a1 m1 c1,.int .i64 l.record,.slice a2 m2 c2]=VI (lc++[(.slice a1 m1 c1,.slice a2 m2 c2,l)]):=by
    rw[Mm];rfl
   rw[e1] at H;have hql':(lc++[((.slice a1 m1 c1:Value),(.slice a2 m2 c2:Value),l)]).length=m.lays.length+1:=by simp[hl1]
   obtain⟨a28,c28,rfl⟩:=QE H (m:=m.lays.length+1) (by rw[Rn,hql']) (by decide);refine Ja 8 ?_;refine Jf 9 ?_;refine Jo 10 H ?_;refine Ut H ?_;clear H;intro w H;refine Jx H ?_;refine Du H ?_;refine J3 H ?_;replace H:=Js [8,8,5,3,3,0,2,2] 2 H
   have H1:Q0 w (star ((lc++[((.slice a1 m1 c1:Value),(.slice a2 m2 c2:Value),l)]).map YG)::pts p (row 56 [pp t,.slice a28 (m.lays.length+1) c28,.slice aO m.objs.length cO])::Vi t m.P::QX 164 4 (.slice a28 (m.lays.length+1) c28) (VI (lc++[(.slice a1 m1 c1,.slice a2 m2 c2,l)]))::QX 267 1 (.slice aO m.objs.length cO) (oc.map fun x=>pp x.ptr)::star (oc.map ZY)::fr):=by
    refine(Q0.pick (x:=((.slice a1 m1 c1:Value),(.slice a2 m2 c2:Value),l)) (g1:=lc) (g2:=[]) rfl).2 ?_;rw[append_nil];refine Q0.star.2 ?_;exact H
   replace H1:=Js [1,1,1,0,0,0] 0 H1;have H2:=Yz (m:={ m with lays:=m.lays++[l] }) hm' (lc:=lc++[((.slice a1 m1 c1:Value),(.slice a2 m2 c2:Value),l)]) (by rw[map_append,h2];rfl) h3 H1;exact Q3 (Jy H2 rfl fun w' H'=>⟨rfl,H'⟩)
def Vq (m:MS) (region lay count:Int):Nat×Nat:=
 if Y1 m.P region=false then (0,15) else if lay < 1∨(m.lays.length:Int) < lay then (0,6) else VQ ((m.lays[lay.toNat - 1]?).getD ⟨0,[],0,[]⟩) count
theorem OI [Q4] (p:Nat) (m:MS) (region lay count:Int) {w:World} {fr:List Q2} (H:Q0 w (Qq p m::fr)) :
  Calls Tryz.prog 213 #[pp p,.int .i64 region,.int .i64 lay,.int .i64 count] w (ret fun v w'=>v = .tuple #[.int .i64 ((Vq m region lay count).1:Nat),.int .i64 ((Vq m region lay count).2:Nat)]∧Q0 w' (Qq p m::fr)):=by
 obtain⟨t,lc,oc,aL,cL,aO,cO,hm,h2,h3,hl1,hl2,H⟩:=Zj H;refine QQ Tryz.func213 rfl (by kernel_rfl) ?_;refine C9 H ?_;replace H:=Js [1,0] 0 H;refine Jc rfl rfl (Wh t m.P region H) ?_;clear H;rintro v w ⟨rfl,H⟩;generalize hlv:Y1 m.P region=lv;have hlays:=hm.lays.1;cases lv with
 | false=>
  have hr:Vq m region lay count=(0,15):=by unfold Vq;rw[if_pos hlv]
  rw[hr];refine C1 H ?_;exact Q3 (Jy (Yz hm h2 h3 H.swap) rfl fun w' H'=>⟨rfl,H'⟩)
 | true=>
  replace H:=Js [1,0] 0 H;refine Yl H ?_;by_cases h1:lay < 1
  ·have hr:Vq m region lay count=(0,6):=by unfold Vq;rw[if_neg (by rw[hlv];decide),if_pos (.inl h1)]
   rw[hr];refine J9 H ?_;rw[show decide (lay < 1)=true from decide_eq_true (by omega)];refine Bp H ?_;refine Bb H ?_;exact Q3 (Jy (Yz hm h2 h3 H) rfl fun w' H'=>⟨rfl,H'⟩)
  ·refine J9 H ?_;rw[show decide (lay < 1)=false from decide_eq_false (by omega)];refine KL H ?_;by_cases h2':(m.lays.length:Int) < lay
   ·have hr:Vq m region lay count=(0,6):=by unfold Vq;rw[if_neg (by rw[hlv];decide),if_pos (.inr h2')]
    rw[hr];rw[show decide (lay > (m.lays.length:Int))=true from decide_eq_true (by omega)];refine Bb H ?_;exact Q3 (Jy (Yz hm h2 h3 H) rfl fun w' H'=>⟨rfl,H'⟩)
   ·obtain⟨la,rfl⟩:∃ la:Nat,lay=((la+1:Nat):Int):=⟨lay.toNat - 1,by omega⟩;have hla:la < lc.length:=by omega
    have hy:=getElem?_eq_getElem hla;generalize lc[la]=y at hy;have hyl:m.lays[la]? = some y.2.2:=by rw[← h2,getElem?_map,hy];rfl
    have hr:Vq m region ((la+1:Nat):Int) count=VQ y.2.2 count:=by
     unfold Vq;rw[if_neg (by rw[hlv];decide),if_neg (by omega),Int.toNat_natCast,Nat.add_sub_cancel,hyl];rfl
    rw[hr];have hR:=hm.lays.2 _ (mem_of_getElem? hyl);rw[show decide (((la+1:Nat):Int) > (m.lays.length:Int))=false from decide_eq_false (by omega)];refine Vx H ?_;replace H:=Js [2,2,0,0,0,0] 0 H;obtain⟨bL,sL,D1,D2,R,rfl,H,hD,hcl⟩:=OE hl1 H hy;obtain⟨vr,vq,l⟩:=y;refine GI H ?_;rw[show IntKind.i64.wrap (((la+1:Nat):Int) - 1)=(la:Int) by rw[Qb (by omega) (by omega)];omega];refine Jd ?_;refine Q5 rfl (VA H rfl (Hs hy) rfl ?_);refine Jv ?_;refine Jc rfl rfl (eB vr vq l hR count ((hD _).there) H) ?_;clear H;rintro v w ⟨rfl,H⟩;refine AI H ?_;replace H:=hcl _ _ H;replace H:=Js [2,2,0,0,0,0] 0 H;exact Q3 (Jy (Yz hm h2 h3 H) rfl fun w' H'=>⟨rfl,H'⟩)
end Go.Proofs.YtbnnnljagkjpiaaGreatDoor
