/- Cells: what is proved on the way: every input of the statement; no condition. Texts joined: BumF BumG TreC TreD MovP MovQ SplP. -/
import Derived.Test.YtbnnnljagkjpiaaGreatDoorBgf
import Derived.Test.YtbnnnljagkjpiaaGreatDoorBgo
import Derived.LaidEqlPtr
import Derived.Test.YtbnnnljagkjpiaaGreatDoorBgn
set_option linter.unusedVariables false
set_option linter.unusedSimpArgs false
set_option linter.unusedSectionVars false
namespace Go.Proofs.YtbnnnljagkjpiaaGreatDoor
open List
open Go.SL
set_option maxRecDepth 10000 in
theorem Nz [Q4] (p sp owner:Nat) (S:QF) (size:Nat) (mem own:List Nat) (c n:Nat) (ho:1≤owner) (hp:S.parts.length≤100000) (h63:own.length≤63)
  (hown:∀ j,j < n→c+j < own.length∧own.getD (c+j) 0≠0) (hc:c < 64) (hn:n < 64) {w:World} {fr:List Q2} (H:Q0 w (Qm p sp owner S::ST sp size mem own::fr)) :
  Calls Tryz.prog 117 #[pp p,.agg #[.int .i64 c,.int .i64 n]] w (ret fun v w'=>v = .tuple #[]∧Q0 w' (Qm p sp owner { S with parts:=S.parts++[(c,n)] }::ST sp size mem (V7 own c n owner)::fr)):=by
 refine QQ Tryz.func117 rfl (by kernel_rfl) ?_;refine J7 H ?_;clear H;intro b3 w H;refine J2 H ?_;refine AM H ?_;replace H:=Js [2,1,0] 0 H;refine J6 H ?_;refine Qk (fun ms σ w=>ms=[]∧σ 0=pp p∧σ 3=pp b3∧Q0 w (ST sp size mem (V7 own c n owner)::Qm p sp owner S::pts b3 (row 226 [.int .i64 c,.int .i64 n])::fr)) ?_ ?_
 ·refine QP ?_;refine Ql (fun ms σ w z=>ms=[]∧∃ j:Nat,j≤n∧z=n - j∧σ 0=pp p∧σ 3=pp b3∧σ 6 = .int .i64 n∧σ 7 = .int .i64 j∧Q0 w (ST sp size mem (V7 own c j owner)::Qm p sp owner S::pts b3 (row 226 [.int .i64 c,.int .i64 n])::fr)) (m:=n) ⟨rfl,0,by omega,rfl,rfl,rfl,rfl,rfl,by rw[Er];exact H⟩ ?_;clear H;rintro ms σ w z ⟨rfl,j,hj,rfl,g0,g3,g6,g7,H⟩;rw[Q1 g0,Q1 g3,Q1 g6,Q1 g7];refine J8 H ?_;refine Qj rfl (fun h=>QD ?_) (fun h=>Qp ?_)
  ·have hlt:j < n:=by omega
   obtain⟨ho1,ho2⟩:=hown j hlt;have hsl:(V7 own c j owner).length=own.length:=Vy (by omega);obtain⟨a,cc,H⟩:=G9 H.swap;replace H:=Js [2,0,1,0] 0 H;refine RH H ?_;refine J1 H ?_;clear H;intro w H;refine XA H ?_;refine RG H ?_;refine Ja 6 ?_;refine Ja 7 ?_;rw[show IntKind.i64.wrap ((c:Int)+(j:Int))=((c+j:Nat):Int) by rw[Qb (by omega) (by omega)];omega];refine EH H ?_;refine Jl 11 [] H ?_;refine Jo 12 H ?_;refine Jk rfl rfl (dT sp size mem (V7 own c j owner) (c+j) owner ho (by omega) (by omega) (by rw[Rk (by omega),if_neg (by omega)];exact ho2) H) ?_;clear H;rintro v w ⟨rfl,H⟩;rw[Nw (by omega)] at H;refine Jx H ?_;replace H:=Js [1,2,0,0] 0 H;replace H:=(Z8 (S:=S) H).swap;refine J4 H ?_;exact⟨_,⟨rfl,j+1,hlt,rfl,rfl,rfl,rfl,Qc (by omega),H⟩,by omega⟩
  ·have hge:j=n:=by omega
   subst hge;exact⟨rfl,rfl,rfl,rfl,H⟩
 clear H;rintro ms σ w ⟨rfl,g0,g3,H⟩;rw[Q1 g0,Q1 g3];obtain⟨a,cc,H⟩:=G9 H.swap;replace H:=Js [0,2,0,0] 0 H;refine J1 H ?_;clear H;intro w H;refine WH H ?_;refine Jl 4 [7,10] H ?_;refine HI H ?_;refine Jo 6 H ?_;refine WU H ?_;clear H;intro b30 w H;replace H:=Js [3,0,0,0] 0 H;refine Jo 7 H ?_;refine YR H rfl rfl (by repeat first|exact .nil _|apply Q9.cons rfl) rfl (by decide) (by rw[Gu XL];simp only[length_cons,length_nil];omega) rfl rfl ?_;clear H;intro v31 w H;obtain⟨a31,m31,c31,rfl⟩:=Qs H;have e1:S.parts.flatMap Vk++[.int .i64 c,.int .i64 n]=(S.parts++[(c,n)]).flatMap Vk:=by simp
 rw[e1] at H;refine Ja 8 ?_;refine Jf 9 ?_;refine Jo 10 H ?_;refine Ut H ?_;clear H;intro w H;refine Jx H ?_;replace H:=Js [2,0,2] 2 H;exact Y6 _ (.inl rfl) (Z8 (S:={ S with parts:=S.parts++[(c,n)] }) H) rfl fun w' H'=>⟨rfl,H'⟩
end Go.Proofs.YtbnnnljagkjpiaaGreatDoor
namespace Go.SL
open List
open Go.Op
section
variable {P:Program} {w:World}
theorem da {t te:TypeId} {j:TypeInfo} {a b:Addr} {ca cb:Array Value} {ta tb:TypeId} (X Y:Operand) (hp:P.underlying t=some (.pointer te)) (hte:P.info? te=some j) (hsz:j.size≠0) (hne:a≠b) (ha:w.heap[a.block]? = some (.cells ca ta (0,0))) (hb:w.heap[b.block]? = some (.cells cb tb (0,0))) :
  (do eqGuard .eql t X Y (.pointer (some a)) (.pointer (some b));binOp .eql t (.pointer (some a)) (.pointer (some b)):Sem Value).run P w = .ok (.bool false) w:=by
 have h:=run_eql_ptr_other w hp hte hsz hne ha hb;simp[eqGuard,h]
theorem db {t te:TypeId} {j:TypeInfo} (a:Addr) (X Y:Operand) (hp:P.underlying t=some (.pointer te)) (hte:P.info? te=some j) :
  (do eqGuard .neq t X Y (.pointer (some a)) (.pointer (some a));binOp .neq t (.pointer (some a)) (.pointer (some a)):Sem Value).run P w = .ok (.bool false) w:=by
 have h:∀ d:Nat,(Op.equalIn (d+1) t (.pointer (some a)) (.pointer (some a))).run P w = .ok true w:=fun d=>by
  simp[Op.equalIn,run_underlying hp,sizeOf,typeInfo,hte,run_sameAddr_same]
 simp[eqGuard,binOp,Op.equal,Op.maxDepth,h 9999]
end
section
variable {P:Program} {n:Nat} {r:Option Nat} {ops:Array Oper} {σ:QU} {w:World}
variable {ivs:List (List Nat×(World→Prop))} {T:QU→World→Prop} {f:Nat} {L:Array Bool}
variable {u t yt:TypeId} {p:String} {af:Array Edge} {g:Option (Nat×Bool)} {d:Option Tmp} {x y:Operand}
theorem dc [Q4] {l:List Q2} {te:TypeId} {a b E F k:Nat} {ca cb:List Value} (i:Nat) (D:List Nat) (H:Q0 w l) (hi:ops[i]? = some ⟨d,.binOp .eql t x y yt,u,p,af,g⟩) (hg:Q7 ops σ ⟨d,.binOp .eql t x y yt,u,p,af,g⟩ true) (hp:P.underlying t=some (.pointer te)) (hte:(P.info? te).map (·.size)=some (k+1))
  (hx:ev σ x = .pointer (some ⟨a,0,none⟩)) (hy:ev σ y = .pointer (some ⟨b,0,none⟩)) (hne:a≠b) [ha:At a (row E ca) l] [hb:At b (row F cb) l]
  (hs:YX n ops (ivs.map (·.1)) L i D=true) (h:Any P n r ops ((D,fun w=>w.heap[a]? = some (row E ca)∧w.heap[b]? = some (row F cb))::ivs) T f (L.setIfInBounds i true) (put σ d (.bool false)) w):Any P n r ops ivs T (f+1) L σ w:=by
 obtain⟨j,hj,hk⟩:=Option.map_eq_some_iff.1 hte
 exact BG i D hi ⟨_,hi,fun c e=>(by cases e),.inl ⟨hg,fun w hw=>by
  simp only[execOp,hx,hy,Sem.run_bind];rw[← Sem.run_bind,da x y hp hj (by omega) (fun e=>hne (by injection e)) hw.1 hw.2];rfl⟩⟩ hs h
theorem de {te:TypeId} {a:Addr} {k:Nat} (i:Nat) (hi:ops[i]? = some ⟨d,.binOp .neq t x y yt,u,p,af,g⟩) (hg:Q7 ops σ ⟨d,.binOp .neq t x y yt,u,p,af,g⟩ true) (hp:P.underlying t=some (.pointer te)) (hte:(P.info? te).map (·.size)=some k)
  (hx:ev σ x = .pointer (some a)) (hy:ev σ y = .pointer (some a))
  (hs:YX n ops (ivs.map (·.1)) L i []=true) (h:Any P n r ops ivs T f (L.setIfInBounds i true) (put σ d (.bool false)) w):Any P n r ops ivs T (f+1) L σ w:=by
 obtain⟨j,hj,hk⟩:=Option.map_eq_some_iff.1 hte
 exact U7 i hi hg (fun c e=>by cases e) (fun w=>by
  simp only[execOp,hx,hy,Sem.run_bind];rw[← Sem.run_bind,db a x y hp hj];rfl) hs h
end
end Go.SL
namespace Go.Proofs.YtbnnnljagkjpiaaGreatDoor
open List
open Go.SL
theorem df [Q4] {w:World} {p o sp owner sp2 owner2:Nat} {S T:QF} {l:List Q2} (H:Q0 w (Qm p sp owner S::Qm o sp2 owner2 T::l)):p≠o:=by
 obtain⟨a,c,H⟩:=G9 H;replace H:=Js [2,0,0] 0 H;obtain⟨a2,c2,H⟩:=G9 H;replace H:=Js [2,0,0,0] 0 H;exact Q0.ne H
theorem O0 [Q4] (p o sp owner owner2:Nat) (S T:QF) {w:World} {fr:List Q2} (H:Q0 w (Qm p sp owner S::Qm o sp owner2 T::fr)) :
  Calls Tryz.prog 116 #[pp p,pp o] w (ret fun v w'=>v = .int .i64 0∧Q0 w' (Qm p sp owner S::Qm o sp owner2 T::fr)):=by
 have hne:=df H;obtain⟨a,c,H⟩:=G9 H;replace H:=Js [2,0,0] 0 H;obtain⟨a2,c2,H⟩:=G9 H;refine QQ Tryz.func116 rfl (by kernel_rfl) ?_;refine J8 H ?_;refine Y4 (fun ms σ w=>ms=[]∧Q0 w (pts o (row 224 [pp sp,.int .i64 owner2,.slice a2 T.parts.length c2,.int .i64 T.at',.int .i64 T.fin])::QX 226 2 (.slice a2 T.parts.length c2) (T.parts.flatMap Vk)::pts p (row 224 [pp sp,.int .i64 owner,.slice a S.parts.length c,.int .i64 S.at',.int .i64 S.fin])::QX 226 2 (.slice a S.parts.length c) (S.parts.flatMap Vk)::fr)) ?_ ?_
 ·refine RK H ?_;refine J1 H ?_;clear H;intro w H;refine Ja 0 ?_;refine SC 1 rfl (Q7.none rfl) rfl rfl (.inl rfl) (by kernel_rfl) ?_;refine Ja 2 ?_;refine Ja 3 ?_;refine Ja 4 ?_;refine dc (k:=4) 5 [] H rfl (Q7.of rfl rfl rfl) Tryz.underlying139 (by kernel_rfl) rfl rfl (Ne.symm hne) (by kernel_rfl) ?_;refine Bo H ?_;refine Jf 10 ?_;refine Jl 11 [] H ?_;refine Ja 12 ?_;refine Ja 13 ?_;refine Jf 14 ?_;refine Jl 15 [] H ?_;refine de (k:=4) 16 rfl (Q7.of rfl rfl rfl) Tryz.underlying35 (by kernel_rfl) rfl rfl (by kernel_rfl) ?_;refine Ja 17 ?_;refine Ja 18 ?_;refine Fs (by kernel_rfl) (by repeat (first|exact Vj.nil|refine Vj.cons (.inr ⟨Q0.at H,Q0.at H⟩) ?_|refine Vj.cons (.inr (Q0.at H)) ?_|refine Vj.cons (.inl (by kernel_rfl)) ?_)) ?_;refine V4 H ?_;exact .inl ⟨rfl,rfl,H⟩
 clear H;rintro ms σ w ⟨rfl,H⟩;refine VF H ?_;replace H:=Js [2,2,0,0] 0 H;replace H:=Z8 (S:=S) H;replace H:=Js [1,1,0] 0 H;replace H:=Z8 (S:=T) H;exact Q3 (Jy H.swap rfl fun w' H'=>⟨rfl,H'⟩)
def ZQ (S T:QF):QF:=⟨S.parts++T.parts,if T.fin=0 then S.at' else T.at',if T.fin=0 then S.fin else T.fin⟩
set_option maxRecDepth 10000 in
theorem O1 [Q4] (p o sp owner owner2:Nat) (S T:QF) (size:Nat) (mem own:List Nat) (ho:1≤owner) (hS:S.parts.length≤1000) (hT:T.parts.length≤1000) (h63:own.length≤63)
  (hn:∀ x∈T.parts,1≤x.2∧x.1+x.2≤own.length) (hown:∀ c∈QR T.parts,own.getD c 0≠0) {w:World} {fr:List Q2} (H:Q0 w (Qm p sp owner S::Qm o sp owner2 T::ST sp size mem own::fr)) :
  Calls Tryz.prog 49 #[pp p,pp o] w (ret fun v w'=>v = .int .i64 0∧∃ own':List Nat,own'.length=own.length∧(∀ j,own'.getD j 0=if j∈QR T.parts then owner else own.getD j 0)∧Q0 w' (Qm p sp owner (ZQ S T)::Qm o sp owner2 ⟨[],0,0⟩::ST sp size mem own'::fr)):=by
 refine QQ Tryz.func49 rfl (by kernel_rfl) ?_;refine Uw H ?_;refine Jc rfl rfl (O0 p o sp owner owner2 S T H) ?_;clear H;rintro v w ⟨rfl,H⟩;refine Yl H ?_;replace H:=Js [1,0,0] 0 H;obtain⟨a2,c2,H⟩:=G9 H;refine Yk H ?_;refine Bx H ?_;refine Qk (fun ms σ w=>ms=[]∧σ 0=pp p∧σ 1=pp o∧∃ own':List Nat,own'.length=own.length∧(∀ j,own'.getD j 0=if j∈QR T.parts then owner else own.getD j 0)∧Q0 w (Qm p sp owner { S with parts:=S.parts++T.parts }::ST sp size mem own'::pts o (row 224 [pp sp,.int .i64 owner2,.slice a2 T.parts.length c2,.int .i64 T.at',.int .i64 T.fin])::QX 226 2 (.slice a2 T.parts.length c2) (T.parts.flatMap Vk)::fr)) ?_ ?_
 ·refine QP ?_;replace H:=Js [2,2,0,0] 0 H;refine Ql (fun ms σ w z=>ms=[]∧∃ (i:Nat) (own':List Nat),i≤T.parts.length∧z=T.parts.length - i∧own'.length=own.length∧(∀ j,own'.getD j 0=if j∈QR (T.parts.take i) then owner else own.getD j 0)∧σ 0=pp p∧σ 1=pp o∧σ 17 = .slice a2 T.parts.length c2∧σ 18 = .int .i64 T.parts.length∧σ 19 = .int .i64 i∧Q0 w (Qm p sp owner { S with parts:=S.parts++T.parts.take i }::ST sp size mem own'::pts o (row 224 [pp sp,.int .i64 owner2,.slice a2 T.parts.length c2,.int .i64 T.at',.int .i64 T.fin])::QX 226 2 (.slice a2 T.parts.length c2) (T.parts.flatMap Vk)::fr)) (m:=T.parts.length) ⟨rfl,0,own,by omega,rfl,rfl,(fun j=>by rw[if_neg (by simp[QR])]),rfl,rfl,rfl,rfl,rfl,by rw[take_zero,append_nil];exact H⟩ ?_;clear H;rintro ms σ w z ⟨rfl,i,own',hi,rfl,hol,hog,g0,g1,g17,g18,g19,H⟩;rw[Q1 g0,Q1 g1,Q1 g17,Q1 g18,Q1 g19];refine J8 H ?_;refine Qj rfl (fun h=>QD ?_) (fun h=>Qp ?_)
  ·have hlt:i < T.parts.length:=by omega
   have hx:=getElem?_eq_getElem hlt;have htk:T.parts.take (i+1)=T.parts.take i++[T.parts[i]]:=by rw[take_add_one,hx];rfl
   have hmem:=getElem_mem hlt;generalize T.parts[i]=x at hx htk hmem;obtain⟨c,n⟩:=x;obtain⟨hn1,hn2⟩:=hn _ hmem;have hn1:1≤n:=hn1;have hn2:c+n≤own.length:=hn2;replace H:=Js [3,0,0,0] 0 H;obtain⟨bT,sT,rfl,H,hcl⟩:=V3 H (by omega);have hrd:Q9 (T.parts.flatMap Vk++sT) (i*2+0) 2 (Vk (c,n)):=RV (vs:=Vk (c,n)) XL hx (by repeat first|exact .nil _|apply Q9.cons rfl);have ei:0+((i:Nat):Int).toNat*2=i*2:=by simp
   refine YB H ?_;refine Jd ?_;rw[ei];refine Q5 rfl (VA H rfl hrd rfl ?_);refine VZ H ?_;clear H;intro b7 w H;refine J5 H ?_;clear H;intro w H;refine J2 H ?_;replace H:=Js [1,0,0] 0 H;replace H:=hcl _ _ H;replace H:=Js [2,2,1,0] 0 H;refine Gv H ?_
   have hg:=Nz p sp owner { S with parts:=S.parts++T.parts.take i } size mem own' c n ho (by show (S.parts++T.parts.take i).length≤100000;rw[length_append,length_take];omega) (by omega) (fun j hj=>⟨by omega,by
    rw[hog];split
    ·omega
    ·exact hown _ (mem_flatMap.2 ⟨(c,n),hmem,mem_map.2 ⟨j,mem_range.2 hj,rfl⟩⟩)⟩) (by omega) (by omega) H
   refine Jc rfl rfl (hg) ?_;clear H hg;rintro v w ⟨rfl,H⟩;refine XB H ?_;replace H:=Js [0,0,2,1] 1 H;have hpe:(S.parts++T.parts.take i)++[(c,n)]=S.parts++T.parts.take (i+1):=by rw[htk,append_assoc]
   rw[hpe] at H;have hch:QR (T.parts.take (i+1))=QR (T.parts.take i)++(List.range n).map (c+·):=by rw[htk,GP,K2]
   refine⟨_,⟨rfl,i+1,V7 own' c n owner,hlt,rfl,by rw[Vy (by omega)];exact hol,(fun j=>?_),rfl,rfl,rfl,rfl,Qc (by omega),H⟩,by omega⟩;rw[Rk (by omega),hch,hog];by_cases h1:c≤j∧j < c+n
   ·rw[if_pos h1,if_pos (mem_append.2 (.inr (GS.2 h1)))]
   ·rw[if_neg h1];by_cases h2:j∈QR (T.parts.take i)
    ·rw[if_pos h2,if_pos (mem_append.2 (.inl h2))]
    ·rw[if_neg h2,if_neg];intro h3
     rcases mem_append.1 h3 with h3|h3
     ·exact h2 h3
     ·exact h1 (GS.1 h3)
  ·have hge:i=T.parts.length:=by omega
   subst hge;rw[take_length] at hog H;exact⟨rfl,rfl,rfl,rfl,own',hol,hog,H⟩
 clear H;rintro ms σ w ⟨rfl,g0,g1,own',hol,hog,H⟩;rw[Q1 g0,Q1 g1];obtain⟨a,c,H⟩:=G9 H;replace H:=Js [3,0,0,0] 0 H;refine Yk H ?_;refine Y8 H ?_;refine Qk (fun ms σ w=>ms=[]∧σ 1=pp o∧Q0 w (pts o (row 224 [pp sp,.int .i64 owner2,.slice a2 T.parts.length c2,.int .i64 T.at',.int .i64 T.fin])::pts p (row 224 [pp sp,.int .i64 owner,.slice a (S.parts++T.parts).length c,.int .i64 (ZQ S T).at',.int .i64 (ZQ S T).fin])::QX 226 2 (.slice a (S.parts++T.parts).length c) ((S.parts++T.parts).flatMap Vk)::ST sp size mem own'::QX 226 2 (.slice a2 T.parts.length c2) (T.parts.flatMap Vk)::fr)) ?_ ?_
 ·by_cases hf:T.fin=0
  ·rw[show decide (((T.fin:Nat):Int) > 0)=false from decide_eq_false (by omega)];refine VM rfl (QD ?_);refine⟨rfl,rfl,rfl,?_⟩;unfold ZQ;rw[if_pos hf,if_pos hf];exact H
  ·rw[show decide (((T.fin:Nat):Int) > 0)=true from decide_eq_true (by omega)];refine Vp rfl ?_;refine J1 H ?_;clear H;intro w H;refine EL H ?_;refine Jf 4 ?_;refine Jl 5 [12,15] H ?_;refine AJ H ?_;refine Jl 9 [12,15] H ?_;refine Ja 10 ?_;refine Jf 11 ?_;refine Jo 12 H ?_;refine Ut H ?_;clear H;intro w H;refine Ja 13 ?_;refine Jf 14 ?_;refine Jo 15 H ?_;refine Ut H ?_;clear H;intro w H;refine Jx H ?_;refine⟨rfl,rfl,rfl,?_⟩;unfold ZQ;rw[if_neg hf,if_neg hf];exact H
 clear H;rintro ms σ w ⟨rfl,g1,H⟩;rw[Q1 g1];refine Xq H ?_;refine Uu H ?_;clear H;intro w H;refine GL H ?_;clear H;intro w H;refine GL H ?_;clear H;intro w H;refine WR H ?_;replace H:=Yt (E:=226) (k:=2) H;replace H:=Js [1,0,0,0,0] 0 H;replace H:=Z8 (S:=⟨[],0,0⟩) H;replace H:=Js [1,1,0,0] 0 H;replace H:=Z8 (S:=ZQ S T) H;replace H:=Js [0,0,0] 1 H;refine Q3 (Jy H rfl fun w' H'=>⟨rfl,own',hol,hog,H'⟩)
theorem dh [Q4] (x:Option Nat) (m:List (Int×Int)) {w:World} {fr:List Q2} (H:Q0 w (YS (ki .i64) v1 (.map x) m::fr)) :
  Calls Tryz.prog 115 #[.map x] w
   (ret fun v w'=>∃ b,v = .func (.func 198) #[] #[pp b]∧Q0 w' (pts b (row 51 [.map x])::YS (ki .i64) v1 (.map x) m::fr)):=by
 refine QQ Tryz.func115 rfl (by kernel_rfl) ?_;refine Yv H ?_;clear H;intro b1 w H;refine YY H ?_;refine Q3 (Jy H rfl fun w' H'=>⟨b1,rfl,H'⟩)
theorem di [Q4] (yl b:Nat) (x:Option Nat) (m:List (Int×Int)) (J:List Int→Q2)
  (hy:∀ ks r rest w,ks.length < m.length→Q0 w (J ks::rest)→SL.Yields Tryz.prog yl #[(.int .i64 r)] w (fun v w'=>v = .bool true∧Q0 w' (J (ks++[r])::rest)))
  {w:World} {fr:List Q2} (H:Q0 w (J []::pts b (row 51 [.map x])::YS (ki .i64) v1 (.map x) m::fr)) :
  Calls Tryz.prog 198 #[.func (.yield yl) #[] #[],pp b] w
   (ret fun _ w'=>∃ ks,ks.Perm (m.map (·.1))∧Q0 w' (J ks::YS (ki .i64) v1 (.map x) m::fr)):=by
 refine QQ Tryz.func198 rfl (by kernel_rfl) ?_;refine Zg H ?_;replace H:=Js [2,0,0] 0 H;refine Q5 rfl (H0 (ki .i64) v1 H rfl rfl ?_);clear H;intro bi w H;refine J2 H ?_;refine QP ?_;refine Ql (fun ms σ w n=>ms=[]∧∃ ks:List Int,σ 0 = .func (.yield yl) #[] #[]∧σ 5=pp bi∧n=m.length - ks.length∧Q0 w (KR (ki .i64) v1 (.map x) m bi ks::J ks::pts b (row 51 [.map x])::fr)) (m:=m.length) ⟨rfl,[],rfl,rfl,rfl,H⟩ ?_;clear H w;rintro ms σ w n ⟨rfl,ks,h0,h5,rfl,H⟩;rw[Q1 h0,Q1 h5];refine Zn H ?_;refine Q5 rfl (H8 H Vf.inj rfl rfl (fun hp w H=>?_) (fun q hq hn hnd hsub w H=>?_))
 ·refine Y8 H ?_;refine KH H ?_;replace H:=Fz H;replace H:=Js [1,0] 1 H;exact Y6 _ (.inl rfl) H rfl fun w' H'=>⟨ks,hp,H'⟩
 ·have hlt:ks.length < m.length:=by
   have h1:(ks++[q.1]).Nodup:=by
    rw[nodup_append];exact⟨hnd,by simp,fun c hc c' hc' e0=>by simp at hc';subst hc';subst e0;exact hn hc⟩
   have h2:=Ga h1 (l₂:=m.map (·.1)) (fun z hz=>by
    rcases mem_append.1 hz with hz|hz
    ·exact hsub z hz
    ·simp at hz;subst hz;exact mem_map_of_mem hq)
   simp at h2;omega
  refine Y8 H ?_;refine Xr H ?_;refine QP ?_;refine Zn H ?_;refine Q5 rfl (H9 H Vf.inj hq rfl rfl ?_);refine J3 H ?_;refine J9 H ?_;replace H:=Js [1,0,0] 0 H;refine Q5 rfl (Ky rfl rfl (SL.Yields.mono (hy ks q.1 _ _ hlt H) ?_));clear H;rintro v w ⟨rfl,H⟩;refine Vx H ?_;replace H:=Js [1,0,0] 0 H;exact⟨_,⟨rfl,ks++[q.1],rfl,rfl,rfl,H⟩,by simp;omega⟩
def IS (L:Q2) (b2:Nat) (ks:List Int):Q2:=ex fun v:Value=>star [QX 3 1 v (Qe ks),L,pts b2 (row 25 [v])]
theorem O2 [Q4] {w:World} {L:Q2} {b2:Nat} {ks:List Int} {l:List Q2} (H:Q0 w (IS L b2 ks::l)):∃ v,Q0 w (QX 3 1 v (Qe ks)::L::pts b2 (row 25 [v])::l):=by
 obtain⟨v,H⟩:=Q0.ex.1 H;exact⟨v,Q0.star.1 H⟩
theorem O3 [Q4] {w:World} {L:Q2} {b2:Nat} {ks:List Int} {l:List Q2} {v:Value} (H:Q0 w (QX 3 1 v (Qe ks)::L::pts b2 (row 25 [v])::l)):Q0 w (IS L b2 ks::l):=
 Q0.ex.2 ⟨v,Q0.star.2 H⟩
theorem dj [Q4] (b:Nat) (x:Option Nat) (m:List (Int×Int)) (hm:m.length≤1000000) {w:World} {fr:List Q2} (H:Q0 w (pts b (row 51 [.map x])::YS (ki .i64) v1 (.map x) m::fr)) :
  Calls Tryz.prog 197 #[.slice none 0 0,.func (.func 198) #[] #[pp b]] w
   (ret fun v w'=>∃ ks,ks.Perm (m.map (·.1))∧Q0 w' (QX 3 1 v (Qe ks)::YS (ki .i64) v1 (.map x) m::fr)):=by
 refine QQ Tryz.func197 rfl (by kernel_rfl) ?_;refine Yv H ?_;clear H;intro b2 w H;refine Be H ?_;refine QP (Xn (a:=[]) (b:=[pp b]) H rfl (fun yl D w H=>?_));generalize hL:LR _ yl _ _ _ _ D .ready=L at H ⊢;replace H:=Yt (E:=3) (k:=1) H;replace H:=Js [0,0,1,1,1,0] 0 H;refine call (di yl b x m (IS L b2) ?_ (O3 (ks:=[]) H)) ?_
 ·intro ks r rest w hlt H;obtain⟨v,H⟩:=O2 H;have h1:=Aq H;subst hL;replace H:=Js [1,0,0] 0 H;refine XX (args:=[.int .i64 r]) H rfl rfl ?_;refine VF H ?_;refine⟨rfl,_,H,fun w H=>QP ?_⟩;refine Ux H ?_;refine GJ H ?_;clear H;intro b10 w H;replace H:=Js [2,0,0,0] 0 H;refine Q5 rfl (YR H rfl rfl (by repeat first|exact .nil _|apply Q9.cons rfl) rfl (by decide) (by simp only[Vo,length_cons,length_nil];omega) rfl rfl ?_);clear H;intro v11 w H;obtain⟨a11,c11,rfl⟩:=QE (m:=ks.length+1) H (by simp[Vo]) (by decide);refine Q5 rfl (Yh H rfl rfl inferInstance (Aq H) (Nat.le_of_ble_eq_true rfl) rfl ?_);clear H;intro w H;refine J2 H ?_;replace H:=Js [2,0,1] 1 H;refine⟨rfl,_,H,fun w H=>⟨rfl,O3 (v := .slice a11 (ks.length+1) c11) ?_⟩⟩;replace H:=Js [1,0,0] 0 H;rw[Ao];exact H
 ·rintro v w' ⟨ks,hp,H⟩;obtain⟨v2,H⟩:=O2 H;have h1:=Aq H;subst hL;replace H:=Js [1,0,0,0,0] 0 H;refine⟨_,H,fun w H=>?_⟩;refine Zg H ?_;refine UN H ?_;replace H:=Js [3,0,1] 1 H;exact Q3 (Kx (ms:=[D]) _ (.inr rfl) ((Q0.star (k:=[pts D (.deferred (some []))])).2 H) rfl fun w' H'=>⟨ks,hp,H'⟩)
theorem dl [Q4] (b:Nat) (x:Option Nat) (m:List (Int×Int)) (hm:m.length≤1000000) {w:World} {fr:List Q2} (H:Q0 w (pts b (row 51 [.map x])::YS (ki .i64) v1 (.map x) m::fr)) :
  Calls Tryz.prog 114 #[.func (.func 198) #[] #[pp b]] w
   (ret fun v w'=>∃ ks,ks.Perm (m.map (·.1))∧Q0 w' (QX 3 1 v (Qe ks)::YS (ki .i64) v1 (.map x) m::fr)):=by
 refine QQ Tryz.func114 rfl (by kernel_rfl) ?_;refine XC H ?_;refine Jc rfl rfl (dj b x m hm H) ?_;rintro v w ⟨ks,hp,H⟩;refine UN H ?_;exact Q3 (Jy H rfl fun w' H'=>⟨ks,hp,H'⟩)
theorem dm [Q4] {K V:Type} [DecidableEq K] {ek:K→Value} {vv:V→Value} {b:Nat} {m:List (K×V)} {w:World} {l:List Q2} (H:Q0 w (YS ek vv (.map (some b)) m::l)):Q0 w (mp ek vv b m::l):=H.head fun h hm=>by
 rcases hm with ⟨h1,_⟩|⟨b',h1,h2⟩
 ·cases h1
 ·injection h1 with h1
  injection h1 with h1
  subst h1;exact h2
theorem dn {K V:Type} [DecidableEq K] {m:List (K×V)} {x:K} {v:V} (h:x∈m.map (·.1)):(Vw m x v).map (·.1)=m.map (·.1):=by
 induction m with
 | nil=>cases h
 | cons p l ih=>
  unfold Vw;split
  ·rename_i h1;rw[map_cons,map_cons,← h1]
  ·rename_i h1;rw[map_cons,mem_cons] at h;rw[map_cons,map_cons,ih (h.resolve_left fun h2=>h1 h2.symm)]
theorem dp [Q4] (p last:Nat) (par:List (Int×Int)) (id:Int) {w:World} {fr:List Q2} (H:Q0 w (Qf p last par::fr)) :
  Calls Tryz.prog 10 #[pp p,.int .i64 id] w (ret fun v w'=>v = .tuple #[.int .i64 ((QY par id).getD 0),.int .i64 (if (QY par id).isSome then 0 else 6)]∧Q0 w' (Qf p last par::fr)):=by
 refine QQ Tryz.func10 rfl (by kernel_rfl) ?_;refine XF H ?_;refine Jc rfl rfl (Hu p last par id H) ?_;clear H;rintro v w ⟨rfl,H⟩;cases hf:QY par id with
 | none=>
  refine AN H ?_;exact Q3 (Jy H rfl fun w' H'=>⟨rfl,H'⟩)
 | some x=>
  refine Yl H ?_;obtain⟨b,H⟩:=Kc H;refine V2 H ?_;refine Q5 rfl (G0 (key:=id) H rfl rfl Vf rfl ?_);rw[hf];refine J3 H ?_;exact Q3 (Jy (K1 H) rfl fun w' H'=>⟨rfl,H'⟩)
def FW (par:List (Int×Int)) (id q:Int) (par':List (Int×Int)):Prop:=par'.map (·.1)=(par.map (·.1)).filter (·≠id)∧∀ r,QY par' r=if r=id then none else if QY par r=some id then some q else QY par r
theorem dq [Q4] (p last:Nat) (par:List (Int×Int)) (id:Int) (hnd:(par.map (·.1)).Nodup) (hl:par.length≤1000) {w:World} {fr:List Q2} (H:Q0 w (Qf p last par::fr)) :
  Calls Tryz.prog 48 #[pp p,.int .i64 id] w (ret fun v w'=>
   (QY par id=none∧v = .tuple #[.int .i64 0,.int .i64 6]∧Q0 w' (Qf p last par::fr)) ∨
   (QY par id=some 0∧v = .tuple #[.int .i64 0,.int .i64 16]∧Q0 w' (Qf p last par::fr)) ∨
   ∃ q par',QY par id=some q∧q≠0∧FW par id q par'∧v = .tuple #[.int .i64 q,.int .i64 0]∧Q0 w' (Qf p last par'::fr)):=by
 refine QQ Tryz.func48 rfl (by kernel_rfl) ?_;refine XF H ?_;refine Jc rfl rfl (dp p last par id H) ?_;clear H;rintro v w ⟨rfl,H⟩;refine WB H ?_;refine Y4 (fun ms σ w=>ms=[]∧σ 0=pp p∧σ 1 = .int .i64 id∧∃ q,QY par id=some q∧q≠0∧σ 6 = .int .i64 q∧Q0 w (Qf p last par::fr)) ?_ ?_
 ·refine QP ?_;cases hf:QY par id with
  | none=>
   refine J9 H ?_;refine XE H ?_;refine VX H ?_;exact Q3 (.inr ⟨by simp,Jy H rfl fun w' H' => .inl ⟨rfl,rfl,H'⟩⟩)
  | some q=>
   refine J9 H ?_;refine Bc H ?_;by_cases hq:q=0
   ·subst hq;refine J9 H ?_;refine Bb H ?_;exact Q3 (.inr ⟨by simp,Jy H rfl fun w' H' => .inr (.inl ⟨rfl,rfl,H'⟩)⟩)
   ·refine J9 H ?_;rw[show (((some q).getD 0:Int) == 0)=false from by simpa using hq];refine Vx H ?_;exact .inl ⟨rfl,rfl,rfl,rfl,q,rfl,hq,rfl,H⟩
 clear H;rintro ms σ w ⟨rfl,g0,g1,q,hf,hq,g6,H⟩;rw[Q1 g0,Q1 g1,Q1 g6];obtain⟨b,H⟩:=Kc H;refine Yk H ?_;replace H:=Js [1,0] 0 H;replace H:=DH H;refine Jc rfl rfl (dh (some b) par H) ?_;clear H;rintro v w ⟨bk,rfl,H⟩
 refine Jc rfl rfl (dl bk (some b) par (by omega) H) ?_;clear H;rintro v w ⟨ks,hks,H⟩;obtain⟨ak,ck,rfl⟩:=QE H (Vo ks) (by decide);refine Gx H ?_;have hkl:ks.length≤1000:=by rw[hks.length_eq,length_map];exact hl
 have hkn:ks.Nodup:=hks.nodup_iff.2 hnd;replace H:=Js [1,0] 0 H;replace H:=dm H;replace H:=Js [2,0,0] 0 H;refine J6 H ?_;refine Qk (fun ms σ w=>ms=[]∧σ 0=pp p∧σ 1 = .int .i64 id∧σ 6 = .int .i64 q∧∃ par1,par1.map (·.1)=par.map (·.1)∧(∀ r,QY par1 r=if QY par r=some id then some q else QY par r)∧Q0 w (pts p (row 114 [.map (some b),.int .i64 last])::mp (ki .i64) v1 b par1::fr)) ?_ ?_
 ·refine QP ?_;refine Ql (fun ms σ w n=>ms=[]∧∃ (i:Nat) (par1:List (Int×Int)),i≤ks.length∧n=ks.length - i∧par1.map (·.1)=par.map (·.1)∧(∀ r,QY par1 r=if r∈ks.take i∧QY par r=some id then some q else QY par r)∧σ 0=pp p∧σ 1 = .int .i64 id∧σ 6 = .int .i64 q∧σ 28 = .slice ak ks.length ck∧σ 29 = .int .i64 ks.length∧σ 30 = .int .i64 i∧Q0 w (pts p (row 114 [.map (some b),.int .i64 last])::mp (ki .i64) v1 b par1::IL (.slice ak ks.length ck) ks::fr)) (m:=ks.length) ⟨rfl,0,par,by omega,rfl,rfl,(fun r=>by rw[if_neg (by simp)]),rfl,rfl,rfl,rfl,rfl,rfl,H⟩ ?_;clear H;rintro ms σ w n ⟨rfl,i,par1,hi,rfl,hp1,hp2,g0,g1,g6,g28,g29,g30,H⟩;rw[Q1 g0,Q1 g1,Q1 g6,Q1 g28,Q1 g29,Q1 g30];refine J8 H ?_;refine Qj rfl (fun h=>QD ?_) (fun h=>Qp ?_)
  ·have hlt:i < ks.length:=by omega
   have hx:=getElem?_eq_getElem hlt;have htk:ks.take (i+1)=ks.take i++[ks[i]]:=by rw[take_add_one,hx];rfl
   have hnt:ks[i]∉ks.take i:=fun hh=>by
    obtain⟨j,hj⟩:=getElem?_of_mem hh;rw[getElem?_take] at hj;split at hj
    ·rename_i hji;obtain⟨hj1,hj2⟩:=List.getElem?_eq_some_iff.1 hj;exact(pairwise_iff_getElem.1 hkn) j i hj1 hlt hji hj2
    ·cases hj
   have hxm:ks[i]∈par.map (·.1):=hks.mem_iff.1 (getElem_mem hlt);generalize ks[i]=x at hx htk hnt hxm
   obtain⟨y,hy⟩:∃ y,QY par x=some y:=by
    cases hf:QY par x with
    | some y=>exact⟨y,rfl⟩
    | none=>exact absurd hxm (W6.1 hf)
   have hy1:QY par1 x=some y:=by rw[hp2,if_neg (fun h=>hnt h.1),hy]
   replace H:=Js [2,0,0] 0 H;obtain⟨bT,sT,rfl,H,hcl⟩:=V3 H (by omega);refine YB H ?_;refine Jd ?_;refine Q5 rfl (QB H rfl (by simpa using Ue hx) rfl ?_);refine J0 H ?_;replace H:=hcl _ _ H;replace H:=Js [1,1,0] 0 H;refine V2 H ?_;refine Q5 rfl (G0 (key:=x) H rfl rfl Vf rfl ?_);rw[hy1];refine J3 H ?_;by_cases hyi:y=id
   ·subst hyi;rw[show (y == y)=true from beq_self_eq_true y];refine VH H ?_;refine GI H ?_;refine Q5 rfl (Xj (key:=x) (v:=q) H rfl rfl rfl Vf rfl ?_);clear H;intro w H;refine XB H ?_;refine⟨_,⟨rfl,i+1,Vw par1 x q,hlt,rfl,?_,fun r=>?_,rfl,rfl,rfl,rfl,rfl,Qc (by omega),H⟩,by omega⟩
    ·rw[dn (by rw[hp1];exact hxm),hp1]
    ·rw[UC,hp2,htk];by_cases hxr:x=r
     ·subst hxr;rw[if_pos rfl,if_pos ⟨by simp,hy⟩]
     ·rw[if_neg hxr]
      have h1:r∈ks.take i++[x]↔r∈ks.take i:=by
       rw[mem_append,mem_singleton];exact⟨fun h=>h.elim (fun h=>h) fun h=>absurd h.symm hxr,.inl⟩
      simp only[h1]
   ·rw[show (y == id)=false from by simpa using hyi];refine Bg H ?_;refine⟨_,⟨rfl,i+1,par1,hlt,rfl,hp1,fun r=>?_,rfl,rfl,rfl,rfl,rfl,Qc (by omega),H⟩,by omega⟩;rw[hp2,htk];by_cases hxr:x=r
    ·subst hxr;have h2:¬ QY par x=some id:=by rw[hy];intro h2;injection h2 with h2;exact hyi h2
     rw[if_neg (fun h=>h2 h.2),if_neg (fun h=>h2 h.2)]
    ·have h1:r∈ks.take i++[x]↔r∈ks.take i:=by
      rw[mem_append,mem_singleton];exact⟨fun h=>h.elim (fun h=>h) fun h=>absurd h.symm hxr,.inl⟩
     simp only[h1]
  ·have hge:i=ks.length:=by omega
   subst hge;rw[take_length] at hp2;refine⟨rfl,rfl,rfl,rfl,rfl,par1,hp1,fun r=>?_,?_⟩
   ·rw[hp2];by_cases h1:QY par r=some id
    ·rw[if_pos h1,if_pos ⟨hks.mem_iff.2 (mem_map.2 ⟨(r,id),Un h1,rfl⟩),h1⟩]
    ·rw[if_neg h1,if_neg (fun h=>h1 h.2)]
   ·replace H:=Js [0,0] 1 H;exact H
 clear H;rintro ms σ w ⟨rfl,g0,g1,g6,par1,hp1,hp2,H⟩;rw[Q1 g0,Q1 g1,Q1 g6];refine V2 H ?_;refine Q5 rfl (Xk (key:=id) H rfl rfl Vf rfl ?_);clear H;intro w H;refine WA H ?_;have hnd1:(par1.map (·.1)).Nodup:=by rw[hp1];exact hnd
 refine Q3 (Jy (K1 H) rfl fun w' H' => .inr (.inr ⟨q,QC par1 id,hf,hq,⟨?_,fun r=>?_⟩,rfl,H'⟩))
 ·have hid:id∈par1.map (·.1):=by rw[hp1];exact mem_map.2 ⟨(id,q),Un hf,rfl⟩
  obtain⟨⟨x',y⟩,h1,h2⟩:=mem_map.1 hid;have h2:x'=id:=h2;subst h2;obtain⟨a1,a2,h3⟩:=append_of_mem h1;have hnd2:=hnd1;rw[← hp1];rw[h3] at hnd1 ⊢;rw[WO (p:=(x',y)) hnd1,map_append,map_append,map_cons];rw[map_append,map_cons] at hnd1;rw[nodup_append] at hnd1;obtain⟨n1,n2,n3⟩:=hnd1;rw[nodup_cons] at n2
  rw[filter_append,filter_cons,if_neg (by simp),filter_eq_self.2 (fun a ha=>by
   have:=n3 a ha x' mem_cons_self;simpa using this),filter_eq_self.2 (fun a ha=>by
   have:a≠x':=fun h4=>n2.1 (h4▸ha);simpa using this)]
 ·rw[Xh hnd1,hp2];by_cases h1:id=r
  ·rw[if_pos h1,if_pos h1.symm]
  ·rw[if_neg h1,if_neg (show ¬ r=id from fun h=>h1 h.symm)]
structure ZH (s:CS) (R0:List (Rf×Int)) (D:List Rf) (R:List (Rf×Int)):Prop where
 nd:(R.map (·.1)).Nodup
 on:∀ r∈D,∀ t,QY R r=some t↔Ci s r t
 off:∀ r,r∉D→QY R r=QY R0 r
theorem ZH.start {s:CS} {R0:List (Rf×Int)} (h:(R0.map (·.1)).Nodup):ZH s R0 [] R0:=⟨h,fun r hr=>(by cases hr),fun _ _=>rfl⟩
theorem ZH.step {s:CS} {R0 R:List (Rf×Int)} {D:List Rf} (h:ZH s R0 D R) {k g p:Nat} {e:Q8} (hk:s.tab[k]? = some ⟨g,some e⟩) (hp:p < e.ws.length) (hr:VV (QJ s e) p=true) :
  ZH s R0 (D++[((k:Int),(p:Int))]) (Ye { s with rem:=R } k e p (Qx e p)):=by
 have hnd:(({ s with rem:=R }:CS).rem.map (·.1)).Nodup:=h.nd;refine⟨Na hnd k e p _,fun r hrD t=>?_,fun r hrD=>?_⟩
 ·by_cases h1:r=((k:Int),(p:Int))
  ·subst h1;rw[Nb hnd];constructor
   ·rintro⟨a,b,f,h1,h2,h3,h4⟩;obtain⟨h5,h6⟩:=Zt (c:=a) h2;exact⟨k,p,g,e,a,b,f,rfl,hk,hp,hr,h1,h2,h3,h4⟩
   ·rintro⟨k',p',g',e',a,b,f,h1,h2,h3,h4,h5,h6,h7,h8⟩;injection h1 with h1 h9
    obtain rfl:k=k':=by omega
    obtain rfl:p=p':=by omega
    rw[hk] at h2;injection h2 with h2
    injection h2 with h2 h2'
    injection h2' with h2'
    subst h2';exact⟨a,b,f,h5,h6,h7,h8⟩
  ·rw[IA hnd h1]
   rcases mem_append.1 hrD with h2|h2
   ·exact h.on r h2 t
   ·rw[mem_singleton] at h2;exact absurd h2 h1
 ·have h1:r≠((k:Int),(p:Int)):=fun h2=>hrD (mem_append.2 (.inr (mem_singleton.2 h2)));rw[IA hnd h1];exact h.off r fun h2=>hrD (mem_append.2 (.inl h2))
def Wg (s:CS) (k:Nat) (e:Q8):List Rf:=(X6 (QJ s e) e.ws.length).map fun p:Nat=>((k:Int),(p:Int))
def O4 (s:CS) (K:Nat→Prop) (D:List Rf):Prop:=∀ r,r∈D↔∃ (k g:Nat) (e:Q8),K k∧s.tab[k]? = some ⟨g,some e⟩∧r∈Wg s k e
theorem O5 {s:CS} {k:Nat} {e:Q8} {r:Rf}:r∈Wg s k e↔∃ p:Nat,r=((k:Int),(p:Int))∧p < e.ws.length∧VV (QJ s e) p=true:=by
 unfold Wg X6;rw[mem_map];constructor
 ·rintro⟨p,h1,rfl⟩;rw[mem_filter,mem_range] at h1;exact⟨p,rfl,h1.1,h1.2⟩
 ·rintro⟨p,rfl,h1,h2⟩;exact⟨p,by rw[mem_filter,mem_range];exact⟨h1,h2⟩,rfl⟩
structure Uf (s s':CS) (mv:Nat→Q8→Q8):Prop where
 lays:s'.lays=s.lays
 tabl:s'.tab.length=s.tab.length
 tab:∀ (k:Nat) (t:QK),s.tab[k]? = some t→s'.tab[k]? = some ⟨t.gen,t.ent.map (mv k)⟩
 same:∀ k e,(mv k e).lay=e.lay∧(mv k e).count=e.count∧(mv k e).ws=e.ws∧(mv k e).held=e.held∧(mv k e).pinned=e.pinned
theorem Uf.at {s s':CS} {mv:Nat→Q8→Q8} (h:Uf s s' mv) {k g:Nat} {e:Q8} (hk:s.tab[k]? = some ⟨g,some e⟩):s'.tab[k]? = some ⟨g,some (mv k e)⟩:=h.tab k _ hk
theorem Uf.from {s s':CS} {mv:Nat→Q8→Q8} (h:Uf s s' mv) {k g:Nat} {e':Q8} (hk:s'.tab[k]? = some ⟨g,some e'⟩):∃ e,s.tab[k]? = some ⟨g,some e⟩∧e'=mv k e:=by
 have hlt:k < s.tab.length:=by
  have:=(List.getElem?_eq_some_iff.1 hk).1;rw[h.tabl] at this;exact this
 have h1:=getElem?_eq_getElem hlt;generalize s.tab[k]=t at h1;have h2:=h.tab k t h1;rw[hk] at h2;obtain⟨g0,e0⟩:=t;injection h2 with h2
 injection h2 with h3 h4
 subst h3;cases e0 with
 | none=>cases h4
 | some e=>
  injection h4 with h4
  exact⟨e,h1,h4⟩
theorem Uf.lay {s s':CS} {mv:Nat→Q8→Q8} (h:Uf s s' mv) (k:Nat) (e:Q8):QJ s' (mv k e)=QJ s e:=by
 unfold QJ;rw[h.lays,(h.same k e).1]
theorem Uf.lk {s s':CS} {mv:Nat→Q8→Q8} (h:Uf s s' mv) (k:Nat) (e:Q8) (p:Nat):Qx (mv k e) p=Qx e p:=by
 unfold Qx;rw[(h.same k e).2.2.1]
theorem IT {ts:List QK} {a b:Nat} {f:Q8} (h:ts[a]? = some ⟨b,some f⟩):QS ts a b=some (a,f):=Y9.2 ⟨b,rfl,rfl,h⟩
theorem O6 {s s':CS} {mv:Nat→Q8→Q8} (h:Uf s s' mv) (hI:Inv s) {D:List Rf} (hN:ZH s' s.rem D s'.rem)
  (hoff:∀ (k g p a b:Nat) (e f:Q8),((k:Int),(p:Int))∉D→s.tab[k]? = some ⟨g,some e⟩→p < e.ws.length→VV (QJ s e) p=true→s.tab[a]? = some ⟨b,some f⟩→((mv a f).region≠(mv k e).region↔f.region≠e.region)):Inv s':=by
 refine⟨hN.nd,fun r t=>?_,fun k g e' p a b hk hp hr hl=>?_⟩
 ·by_cases hD:r∈D
  ·exact hN.on r hD t
  ·rw[hN.off r hD,hI.rem];constructor
   ·rintro⟨k,p,g,e,a,b,f,rfl,hk,hp,hrf,hl,hlo,hfar,rfl⟩;obtain⟨_,ha⟩:=Zt hlo;exact⟨k,p,g,mv k e,a,b,mv a f,rfl,h.at hk,by rw[(h.same k e).2.2.1];exact hp,by rw[h.lay];exact hrf,by rw[h.lk];exact hl,IT (h.at ha),(hoff k g p a b e f hD hk hp hrf ha).2 hfar,rfl⟩
   ·rintro⟨k,p,g,e',a,b,f',rfl,hk,hp,hrf,hl,hlo,hfar,rfl⟩;obtain⟨e,hk0,rfl⟩:=h.from hk;obtain⟨_,ha⟩:=Zt hlo;obtain⟨f,ha0,rfl⟩:=h.from ha;rw[(h.same k e).2.2.1] at hp;rw[h.lay] at hrf;rw[h.lk] at hl;exact⟨k,p,g,e,a,b,f,rfl,hk0,hp,hrf,hl,IT ha0,(hoff k g p a b e f hD hk0 hp hrf ha0).1 hfar,rfl⟩
 ·obtain⟨e,hk0,rfl⟩:=h.from hk;rw[(h.same k e).2.2.1] at hp;rw[h.lay] at hr;rw[h.lk] at hl;obtain⟨f,hf⟩:=hI.link k g e p a b hk0 hp hr hl;obtain⟨_,ha⟩:=Zt hf;exact⟨_,IT (h.at ha)⟩
theorem O7 {lays:List QL} {i:Nat} {e e':Q8} (h:X4 lays i e) (h1:e'.lay=e.lay) (h2:e'.count=e.count) (h3:e'.ws=e.ws):X4 lays i e':=by
 obtain⟨m,l,a1,a2,a3,a4⟩:=h;exact⟨by rw[h1,h2];exact m,l,by rw[h1];exact a1,a2,by rw[h2,h3];exact a3,by rw[h3];exact a4⟩
def Yp (id q:Int) (e:Q8):Q8:=if e.region=id then { e with region:=q } else e
def Zu (id q:Int) (t:QK):QK:=⟨t.gen,t.ent.map (Yp id q)⟩
theorem Ax (id q:Int) (e:Q8):(Yp id q e).lay=e.lay∧(Yp id q e).count=e.count∧(Yp id q e).ws=e.ws∧(Yp id q e).held=e.held∧(Yp id q e).pinned=e.pinned:=by
 unfold Yp;split <;> exact⟨rfl,rfl,rfl,rfl,rfl⟩
theorem XS (id q:Int) (e:Q8):(Yp id q e).addr=e.addr∧QN (Yp id q e)=QN e:=by
 unfold Yp;split <;> exact⟨rfl,rfl⟩
theorem X8 (id q:Int) (e:Q8):(Yp id q e).region=if e.region=id then q else e.region:=by
 unfold Yp;split <;> rfl
theorem Km {ts:List QK} {id q:Int} {k g:Nat} {e':Q8} (h:(ts.map (Zu id q))[k]? = some ⟨g,some e'⟩):∃ e,ts[k]? = some ⟨g,some e⟩∧e'=Yp id q e:=by
 rw[getElem?_map] at h;cases ht:ts[k]? with
 | none=>rw[ht] at h;cases h
 | some t=>
  rw[ht] at h;obtain⟨g0,e0⟩:=t;injection h with h
  injection h with h1 h2
  have h1:g0=g:=h1;subst h1;cases e0 with
  | none=>cases h2
  | some e=>
   injection h2 with h2
   exact⟨e,rfl,h2.symm⟩
theorem Ia {ts:List QK} {id q:Int} {k g:Nat} {e:Q8} (h:ts[k]? = some ⟨g,some e⟩):(ts.map (Zu id q))[k]? = some ⟨g,some (Yp id q e)⟩:=by
 rw[getElem?_map,h];rfl
theorem Kn {l:List (Nat×Nat)} {x:Nat×Nat} (hx:x∈l) {c:Nat} (h1:x.1≤c) (h2:c < x.1+x.2):c∈QR l:=mem_flatMap.2 ⟨x,hx,GS.2 ⟨h1,h2⟩⟩
theorem dr {s:CS} (h:WF s) (hnd:(s.par.map (·.1)).Nodup) {id q:Int} (hne:id≠q) {par':List (Int×Int)} (hp:FW s.par id q par')
  {bi bq:Nat} {S T:QF} {a1 a2 c1 c2:List (Int×Nat×QF)} (hs1:s.sps=a1++(id,bi,T)::a2) (hs2:a1++a2=c1++(q,bq,S)::c2)
  {gi gq:Nat} {M N N':List Nat} {d1 d2 e1 e2:List (Int×Nat×List Nat)} (hm1:s.mns=d1++(id,gi,M)::d2) (hm2:d1++d2=e1++(q,gq,N)::e2)
  {own':List Nat} (hol:own'.length=s.own.length) (hog:∀ j,own'.getD j 0=if j∈QR T.parts then q.toNat else s.own.getD j 0)
  (hN:N'.Pairwise (· < ·)) (hN':∀ j,j∈N'↔j∈M∨j∈N) (R:List ((Int×Int)×Int)) :
  WF { s with own:=own',tab:=s.tab.map (Zu id q),par:=par',rem:=R,sps:=c1++(q,bq,ZQ S T)::c2,mns:=e1++(q,gq,N')::e2 }:=by
 have hTm:(id,bi,T)∈s.sps:=by rw[hs1];simp
 have hT:=h.spc _ hTm;obtain⟨s1,s2⟩:=UR (f:=fun y:Int×Nat×QF=>y.1) hs1 (by rw[h.skeys];exact hnd);obtain⟨t1,t2⟩:=UR (f:=fun y:Int×Nat×List Nat=>y.1) hm1 (by rw[h.mkeys];exact hnd);have hSm:(q,bq,S)∈s.sps:=(s2 _ (by rw[hs2];simp)).1;have hNm:(q,gq,N)∈s.mns:=(t2 _ (by rw[hm2];simp)).1;have hMm:(id,gi,M)∈s.mns:=by rw[hm1];simp
 have hS:=h.spc _ hSm;have hidk:id∈s.par.map (·.1):=by rw[← h.skeys];exact mem_map.2 ⟨_,hTm,rfl⟩
 have hqk:q∈s.par.map (·.1):=by rw[← h.skeys];exact mem_map.2 ⟨_,hSm,rfl⟩
 have hpos:∀ r:Int,r∈s.par.map (·.1)→1≤r∧r≤s.last:=fun r hr=>by
  obtain⟨⟨r',z⟩,h1,h2⟩:=mem_map.1 hr;have h2:r'=r:=h2;subst h2;exact h.par.2.2 _ _ h1
 have hq1:=(hpos q hqk).1
 have hk':∀ r:Int,r∈par'.map (·.1)↔r∈s.par.map (·.1)∧r≠id:=fun r=>by
  rw[hp.1,mem_filter];simp
 have hown:∀ (c r:Nat),own'[c]? = some r→r≠0→∃ r0:Nat,s.own[c]? = some r0∧r0≠0∧(r:Int)=if (r0:Int)=id then q else r0:=by
  intro c r h1 h2;have h3:=hog c;have hcl:c < s.own.length:=by rw[← hol];exact(List.getElem?_eq_some_iff.1 h1).1
  have h0:=getElem?_eq_getElem hcl;rw[getD_eq_getElem?_getD,getD_eq_getElem?_getD,h1,h0] at h3;generalize s.own[c]=r0 at h0 h3;simp only[Option.getD_some] at h3;by_cases hc:c∈QR T.parts
  ·rw[if_pos hc] at h3;obtain⟨y,h4,h5,h6⟩:=(hT.owned c).1 hc;rw[h0] at h4;injection h4 with h4
   subst h4;have h5:(r0:Int)=id:=h5;exact⟨r0,h0,h6,by rw[if_pos h5];omega⟩
  ·rw[if_neg hc] at h3;subst h3;refine⟨r,h0,h2,?_⟩;rw[if_neg];intro h5;exact hc ((hT.owned c).2 ⟨r,h0,h5,h2⟩)
 have hown2:∀ (c r0:Nat),s.own[c]? = some r0→r0≠0→∃ r:Nat,own'[c]? = some r∧r≠0∧(r:Int)=if (r0:Int)=id then q else r0:=by
  intro c r0 h0 h2;have h3:=hog c;have hcl:c < own'.length:=by rw[hol];exact(List.getElem?_eq_some_iff.1 h0).1
  have h1:=getElem?_eq_getElem hcl;rw[getD_eq_getElem?_getD,getD_eq_getElem?_getD,h1,h0] at h3;generalize own'[c]=r at h1 h3;simp only[Option.getD_some] at h3;by_cases hc:c∈QR T.parts
  ·rw[if_pos hc] at h3;obtain⟨y,h4,h5,h6⟩:=(hT.owned c).1 hc;rw[h0] at h4;injection h4 with h4
   subst h4;have h5:(r0:Int)=id:=h5;exact⟨r,h1,by omega,by rw[if_pos h5];omega⟩
  ·rw[if_neg hc] at h3;subst h3;refine⟨r,h1,h2,?_⟩;rw[if_neg];intro h5;exact hc ((hT.owned c).2 ⟨r,h0,h5,h2⟩)
 have hoth:∀ x∈c1++c2,x∈s.sps∧x.1≠id∧x.1≠q:=by
  intro x hx;obtain⟨h1,h2⟩:=s2 x (by rw[hs2];exact X5 hx);obtain⟨u1,u2⟩:=UR (f:=fun y:Int×Nat×QF=>y.1) hs2 (by rw[s1];exact(by rw[h.skeys];exact hnd:(s.sps.map fun y=>y.1).Nodup).filter _);exact⟨h1,h2,(u2 x hx).2⟩
 have hothM:∀ x∈e1++e2,x∈s.mns∧x.1≠id∧x.1≠q:=by
  intro x hx;obtain⟨h1,h2⟩:=t2 x (by rw[hm2];exact X5 hx);obtain⟨u1,u2⟩:=UR (f:=fun y:Int×Nat×List Nat=>y.1) hm2 (by rw[t1];exact(by rw[h.mkeys];exact hnd:(s.mns.map fun y=>y.1).Nodup).filter _);exact⟨h1,h2,(u2 x hx).2⟩
 have hone:∀ (c:Nat) (r:Int),r≠id→r≠q→((∃ y:Nat,own'[c]? = some y∧(y:Int)=r∧y≠0)↔∃ y:Nat,s.own[c]? = some y∧(y:Int)=r∧y≠0):=by
  intro c r h1 h2;constructor
  ·rintro⟨y,h3,h4,h5⟩;obtain⟨r0,h6,h7,h8⟩:=hown c y h3 h5;split at h8
   ·omega
   ·exact⟨r0,h6,by omega,h7⟩
  ·rintro⟨y,h3,h4,h5⟩;obtain⟨r,h6,h7,h8⟩:=hown2 c y h3 h5;rw[if_neg (by omega)] at h8;exact⟨r,h6,by omega,h7⟩
 refine⟨h.size,by show 1≤own'.length∧own'.length≤63;rw[hol];exact h.own,by show 1≤(s.tab.map _).length∧(s.tab.map _).length≤63;rw[length_map];exact h.slots,h.lays,fun i t hi=>?_,fun i g e hi=>?_,fun i j g g' e f hij hi hj=>?_,⟨?_,h.par.2.1,fun r z hr=>?_⟩,?_,?_,fun x hx=>?_,fun x hx i g e hi=>?_,fun c r hc hr=>?_,fun x hx=>?_⟩
 ·have hi:(s.tab.map (Zu id q))[i]? = some t:=hi;rw[getElem?_map] at hi;cases ht:s.tab[i]? with
  | none=>rw[ht] at hi;cases hi
  | some t0=>
   rw[ht] at hi;injection hi with hi
   subst hi;obtain⟨h1,h2⟩:=h.gen i t0 ht;refine⟨h1,fun h3=>h2 ?_⟩;have h3:(t0.ent.map (Yp id q)).isSome=true:=h3
   rwa [Option.isSome_map] at h3
 ·obtain⟨e,hiZ,heZ⟩:=Km hi;subst heZ;replace hi:=hiZ;obtain⟨h1,⟨h2,h3⟩,z,h4⟩:=h.obj i g e hi;obtain⟨u1,u2,u3,_,_⟩:=Ax id q e;refine⟨O7 h1 u1 u2 u3,⟨?_,fun c hc1 hc2=>?_⟩,?_⟩
  ·rw[(XS id q e).2];show _≤own'.length*s.size;rw[hol];exact h2
  ·rw[(XS id q e).1] at hc1 hc2;rw[u3] at hc2;obtain⟨r,h5,h6,h7⟩:=h3 c hc1 hc2;obtain⟨r',h8,h9,h10⟩:=hown2 c r h5 (by omega);refine⟨r',h8,?_,by omega⟩;rw[X8,h10,h6]
  ·have:(Yp id q e).region∈par'.map (·.1):=by
    rw[hk',X8];by_cases h5:e.region=id
    ·rw[if_pos h5];exact⟨hqk,hne.symm⟩
    ·rw[if_neg h5];exact⟨mem_map.2 ⟨_,h4,rfl⟩,h5⟩
   obtain⟨⟨r,z'⟩,h5,h6⟩:=mem_map.1 this;exact⟨z',by rw[← h6];exact h5⟩
 ·obtain⟨e,hiZ,heZ⟩:=Km hi;subst heZ;replace hi:=hiZ;obtain⟨f,hjZ,heZ⟩:=Km hj;subst heZ;replace hj:=hjZ;rw[(XS id q e).1,(XS id q e).2,(XS id q f).1,(XS id q f).2];exact h.apart i j _ _ e f hij hi hj
 ·have h1:=congrArg List.length hp.1;rw[length_map] at h1;have h2:=length_filter_le (·≠id) (s.par.map (·.1));rw[length_map] at h2;have:=h.par.1;show par'.length≤64;omega
 ·have h1:r∈par'.map (·.1):=mem_map.2 ⟨_,hr,rfl⟩;exact hpos r ((hk' r).1 h1).1
 ·show (c1++(q,bq,ZQ S T)::c2).map (·.1)=par'.map (·.1);rw[CD (x':=(q,bq,ZQ S T)) (x:=(q,bq,S)) rfl,← hs2,hp.1,← h.skeys];exact s1
 ·show (e1++(q,gq,N')::e2).map (·.1)=par'.map (·.1);rw[CD (x':=(q,gq,N')) (x:=(q,gq,N)) rfl,← hm2,hp.1,← h.mkeys];exact t1
 ·rcases G8 hx with rfl|hx
  ·refine⟨?_,fun hf=>?_,fun y hy=>?_,?_,fun c=>?_⟩
   ·show (if T.fin=0 then S.at' else T.at')≤(if T.fin=0 then S.fin else T.fin);split
    ·exact hS.at1
    ·exact hT.at1
   ·have hf:(if T.fin=0 then S.fin else T.fin)≠0:=hf;show ∃ c,(if T.fin=0 then S.fin else T.fin)=(c+1)*s.size∧c*s.size < (if T.fin=0 then S.at' else T.at')∧(c,1)∈S.parts++T.parts;by_cases h0:T.fin=0
    ·rw[if_pos h0] at hf;rw[if_pos h0,if_pos h0];obtain⟨c,u1,u2,u3⟩:=hS.fin hf;exact⟨c,u1,u2,mem_append.2 (.inl u3)⟩
    ·rw[if_neg h0,if_neg h0];obtain⟨c,u1,u2,u3⟩:=hT.fin h0;exact⟨c,u1,u2,mem_append.2 (.inr u3)⟩
   ·have hy:y∈S.parts++T.parts:=hy;rw[hol]
    rcases mem_append.1 hy with hy|hy
    ·exact hS.parts y hy
    ·exact hT.parts y hy
   ·show (QR (S.parts++T.parts)).Nodup;rw[GP,nodup_append];refine⟨hS.nodup,hT.nodup,fun a ha b hb hab=>?_⟩;subst hab;obtain⟨y,u1,u2,_⟩:=(hS.owned a).1 ha;obtain⟨z,v1,v2,_⟩:=(hT.owned a).1 hb;rw[u1] at v1;injection v1 with v1
    subst v1;exact hne (v2.symm.trans u2)
   ·show c∈QR (S.parts++T.parts)↔∃ y:Nat,own'[c]? = some y∧(y:Int)=q∧y≠0;rw[GP,mem_append,hS.owned,hT.owned];constructor
    ·rintro(⟨y,u1,u2,u3⟩|⟨y,u1,u2,u3⟩)
     ·obtain⟨r,v1,v2,v3⟩:=hown2 c y u1 u3;have u2:(y:Int)=q:=u2;rw[if_neg (by omega)] at v3;exact⟨r,v1,by omega,v2⟩
     ·obtain⟨r,v1,v2,v3⟩:=hown2 c y u1 u3;rw[if_pos u2] at v3;exact⟨r,v1,v3,v2⟩
    ·rintro⟨y,u1,u2,u3⟩;obtain⟨r,v1,v2,v3⟩:=hown c y u1 u3;by_cases h5:(r:Int)=id
     ·exact .inr ⟨r,v1,h5,v2⟩
     ·rw[if_neg h5] at v3;exact .inl ⟨r,v1,by show (r:Int)=q;omega,v2⟩
  ·obtain⟨h1,h2,h3⟩:=hoth x hx;obtain⟨a,b,c,d,e⟩:=h.spc x h1;exact⟨a,b,fun z hz=>by rw[hol];exact c z hz,d,fun z=>by rw[e,← hone z x.1 h2 h3]⟩
 ·obtain⟨e,hiZ,heZ⟩:=Km hi;subst heZ;replace hi:=hiZ;rw[(XS id q e).1,(XS id q e).2]
  rcases G8 hx with rfl|hx
  ·show QN e≤(if T.fin=0 then S.at' else T.at')∨(if T.fin=0 then S.fin else T.fin)≤e.addr;split
   ·exact h.free _ hSm i g e hi
   ·exact h.free _ hTm i g e hi
  ·exact h.free x (hoth x hx).1 i g e hi
 ·obtain⟨r0,h1,h2,h3⟩:=hown c r hc hr
  have:(r:Int)∈par'.map (·.1):=by
   rw[hk'];by_cases h5:(r0:Int)=id
   ·rw[if_pos h5] at h3;rw[h3];exact⟨hqk,hne.symm⟩
   ·rw[if_neg h5] at h3;obtain⟨z,hz⟩:=h.live c r0 h1 h2;rw[h3];exact⟨mem_map.2 ⟨_,hz,rfl⟩,h5⟩
  obtain⟨⟨r,z'⟩,h5,h6⟩:=mem_map.1 this;exact⟨z',by rw[← h6];exact h5⟩
 ·rcases G8 hx with rfl|hx
  ·refine⟨hN,fun i=>?_⟩;show i∈N'↔∃ g e,(s.tab.map (Zu id q))[i]? = some ⟨g,some e⟩∧e.region=q;rw[hN',(h.mine _ hMm).2,(h.mine _ hNm).2];constructor
   ·rintro(⟨g,e,u1,u2⟩|⟨g,e,u1,u2⟩)
    ·exact⟨g,_,Ia u1,by rw[X8,if_pos u2]⟩
    ·have u2:e.region=q:=u2;exact⟨g,_,Ia u1,by rw[X8,if_neg (by rw[u2];exact hne.symm),u2]⟩
   ·rintro⟨g,e',u1,u2⟩;obtain⟨e,u1Z,heZ⟩:=Km u1;subst heZ;replace u1:=u1Z;rw[X8] at u2;split at u2
    ·rename_i u3;exact .inl ⟨g,e,u1,u3⟩
    ·exact .inr ⟨g,e,u1,u2⟩
  ·obtain⟨h1,h2,h3⟩:=hothM x hx;obtain⟨u1,u2⟩:=h.mine x h1;refine⟨u1,fun i=>?_⟩;show i∈x.2.2↔∃ g e,(s.tab.map (Zu id q))[i]? = some ⟨g,some e⟩∧e.region=x.1;rw[u2];constructor
   ·rintro⟨g,e,u3,u4⟩;exact⟨g,_,Ia u3,by rw[X8,if_neg (by rw[u4];exact h2),u4]⟩
   ·rintro⟨g,e',u3,u4⟩;obtain⟨e,u3Z,heZ⟩:=Km u3;subst heZ;replace u3:=u3Z;rw[X8] at u4;split at u4
    ·exact absurd u4.symm h3
    ·exact⟨g,e,u3,u4⟩
theorem dt {s s':CS} {mem:List Nat} (m:VT s mem) {id q:Int} (h1:s'.own.length=s.own.length) (h2:s'.size=s.size) (h3:s'.tab=s.tab.map (Zu id q)):VT s' mem:=by
 refine⟨by rw[h1,h2];exact m.len,fun i g e' hi=>?_,fun i g e' hi p w hp=>?_⟩
 ·rw[h3] at hi;obtain⟨e,hiZ,heZ⟩:=Km hi;subst heZ;replace hi:=hiZ;obtain⟨u1,u2,u3,_,_⟩:=Ax id q e;rw[(XS id q e).1,u1,u2];exact m.head i g e hi
 ·rw[h3] at hi;obtain⟨e,hiZ,heZ⟩:=Km hi;subst heZ;replace hi:=hiZ;obtain⟨u1,u2,u3,_,_⟩:=Ax id q e;rw[(XS id q e).1];rw[u3] at hp;exact m.words i g e hi p w hp
theorem du {s s':CS} (hP:Y0 s) (hnd:(s.sps.map (·.1)).Nodup) {id q:Int} {bi bq:Nat} {S T:QF} {a1 a2 c1 c2:List (Int×Nat×QF)} (hs1:s.sps=a1++(id,bi,T)::a2) (hs2:a1++a2=c1++(q,bq,S)::c2)
  (h1:s'.size=s.size) (h2:s'.tab=s.tab.map (Zu id q)) (h3:s'.sps=c1++(q,bq,ZQ S T)::c2):Y0 s':=by
 intro k g e' hk;rw[h2] at hk;obtain⟨e,hkZ,heZ⟩:=Km hk;subst heZ;replace hk:=hkZ;obtain⟨x,x1,x2,y,y1,y2⟩:=hP k g e hk;have y2':GV s'.size y (Yp id q e):=by rw[h1];exact y2.alike (XS id q e).1 (by rw[(Ax id q e).2.2.1])
 rw[h3,X8];rw[hs1] at x1
 rcases G8 x1 with rfl|x1
 ·have x2:id=e.region:=x2;rw[if_pos x2.symm];exact⟨(q,bq,ZQ S T),by simp,rfl,y,mem_append.2 (.inr y1),y2'⟩
 ·have hxi:x.1≠id:=by
   rw[hs1] at hnd;exact((UR (f:=fun y:Int×Nat×QF=>y.1) rfl hnd).2 x x1).2
  rw[if_neg (by rw[← x2];exact hxi)];rw[hs2] at x1
  rcases G8 x1 with rfl|x1
  ·exact⟨(q,bq,ZQ S T),by simp,x2,y,mem_append.2 (.inl y1),y2'⟩
  ·exact⟨x,X5 x1,x2,y,y1,y2'⟩
theorem dv {par par':List (Int×Int)} (h:Yo par) {id q:Int} (hid:QY par id=some q) (hq:q≠0) (hp:FW par id q par'):Yo par':=by
 refine⟨by rw[hp.1];exact h.nd.filter _,fun r z hr=>?_⟩;obtain⟨q1,q2,q3⟩:=h.up id q hid;have hqs:(QY par q).isSome=true:=q3.elim (fun h=>absurd h hq) (fun h=>h)
 have hlive:∀ x:Int,x≠id→(QY par x).isSome=true→(QY par' x).isSome=true:=fun x h1 h2=>by
  rw[hp.2,if_neg h1];split
  ·rfl
  ·exact h2
 rw[hp.2] at hr;split at hr
 ·cases hr
 ·rename_i h1;split at hr
  ·rename_i h2;injection hr with hr
   subst hr;have:=(h.up r id h2).2.1;exact⟨q1,by omega,.inr (hlive _ (by omega) hqs)⟩
  ·rename_i h2;obtain⟨z1,z2,z3⟩:=h.up r z hr;exact⟨z1,z2,z3.imp (fun h=>h) fun h3=>hlive z (fun h4=>h2 (by rw[hr,h4])) h3⟩
structure Ay (s:CS) (id q:Int) (s':CS):Prop where
 size:s'.size=s.size
 own:s'.own.length=s.own.length
 lays:s'.lays=s.lays
 last:s'.last=s.last
 par:FW s.par id q s'.par
 tab:s'.tab=s.tab.map (Zu id q)
 rem:∃ D,O4 s' (fun k=>∃ g e,s'.tab[k]? = some ⟨g,some e⟩∧e.region=q) D∧ZH s' s.rem D s'.rem
 part:Y0 s→Y0 s'
theorem Ay.mv {s s':CS} {id q:Int} (h:Ay s id q s'):Uf s s' (fun _=>Yp id q):=by
 refine⟨h.lays,by rw[h.tab,length_map],fun k t hk=>?_,fun _ e=>Ax id q e⟩;rw[h.tab,getElem?_map,hk];rfl
theorem dw {s s':CS} {id q:Int} (h:Ay s id q s') (hne:id≠q) (hI:Inv s):Inv s':=by
 obtain⟨D,hD,hN⟩:=h.rem;refine O6 h.mv hI hN fun k g p a b e f hnD hk hp hr ha=>?_;have hrq:(Yp id q e).region≠q:=fun h1=>hnD ((hD _).2 ⟨k,g,Yp id q e,⟨g,_,h.mv.at hk,h1⟩,h.mv.at hk,O5.2 ⟨p,rfl,by rw[(Ax id q e).2.2.1];exact hp,by rw[h.mv.lay k e];exact hr⟩⟩);show (Yp id q f).region≠(Yp id q e).region↔_;rw[X8] at hrq;rw[X8,X8];by_cases h1:e.region=id
 ·rw[if_pos h1] at hrq;exact absurd rfl hrq
 ·rw[if_neg h1] at hrq ⊢;by_cases h2:f.region=id
  ·rw[if_pos h2,h2];exact⟨fun _ h3=>h1 h3.symm,fun _ h3=>hrq h3.symm⟩
  ·rw[if_neg h2]
def Ko (size:Nat) (T:QF) (a n:Nat):Prop:=∃ c,(c,1)∈T.parts∧c*size≤a∧a+n≤(c+1)*size∧(a+n≤T.at'∨T.fin≤a)
theorem O8 {size:Nat} (hs:1≤size) {own:List Nat} {x:Int} {S:QF} (h:GO size own x S) {e:Q8} (hl:Zr size own e) (hne:e.region≠x):QN e≤S.at'∨S.fin≤e.addr:=by
 by_cases h0:S.fin=0
 ·right;omega
 obtain⟨c,hc1,hc2,hc3⟩:=h.fin h0;have hcm:c∈QR S.parts:=Kn hc3 (Nat.le_refl _) (Nat.lt_succ_self _);obtain⟨y,hy1,hy2,hy3⟩:=(h.owned c).1 hcm;have hat:=h.at1
 rcases hl.chunk hs c with (h1|h1)|⟨z,hz1,hz2,hz3⟩
 ·left;omega
 ·right;omega
 ·rw[hy1] at hz1;injection hz1 with hz1
  subst hz1;exact absurd (hz2.symm.trans hy2) hne
theorem O9 {s:CS} (h:WF s) {k g:Nat} {e:Q8} (hk:s.tab[k]? = some ⟨g,some e⟩) {r id:Int} (hr:e.region=r) (hne:id≠r) (hnd:(s.par.map (·.1)).Nodup)
  {p1 p2:List (Int×Nat×QF)} {b0 bs:Nat} {S T S' T':QF} (hsps:s.sps=p1++(r,b0,S)::(p2++[(id,bs,T)]))
  {m1 m2:List (Int×Nat×List Nat)} {c0 bm:Nat} {M N:List Nat} (hmns:s.mns=m1++(r,c0,M)::(m2++[(id,bm,N)])) {own':List Nat} {a:Nat} {e':Q8} (he:e'={ e with region:=id,addr:=a })
  (hol:own'.length=s.own.length) (hE:Zr s.size own' e') (hL:∀ (j n:Nat) (f:Q8),j≠k→s.tab[j]? = some ⟨n,some f⟩→Zr s.size own' f)
  (hap:∀ (j n:Nat) (f:Q8),j≠k→s.tab[j]? = some ⟨n,some f⟩→QN f≤e'.addr∨QN e'≤f.addr)
  (hS:GO s.size own' r S') (hT:GO s.size own' id T') (ho:∀ x∈p1++p2,GO s.size own' x.1 x.2.2)
  (hfS:∀ (j n:Nat) (f:Q8),(s.tab.set k ⟨g,some e'⟩)[j]? = some ⟨n,some f⟩→QN f≤S'.at'∨S'.fin≤f.addr) (hfT:∀ (j n:Nat) (f:Q8),(s.tab.set k ⟨g,some e'⟩)[j]? = some ⟨n,some f⟩→QN f≤T'.at'∨T'.fin≤f.addr)
  (hlive:∀ (c x:Nat),own'[c]? = some x→x≠0→(x:Int)=id∨s.own[c]? = some x) {b0' bs':Nat} :
  WF { s with own:=own',tab:=s.tab.set k ⟨g,some e'⟩,sps:=p1++(r,b0,S')::(p2++[(id,bs,T')]),mns:=m1++(r,c0,M.filter (·≠k))::(m2++[(id,bm,YO N k)]) }:=by
 have hkl:=(List.getElem?_eq_some_iff.1 hk).1;have hidk:id∈s.par.map (·.1):=by rw[← h.skeys,hsps];simp
 obtain⟨z,hz⟩:∃ z,(id,z)∈s.par:=by
  obtain⟨⟨x,z⟩,h1,h2⟩:=mem_map.1 hidk;exact⟨z,by rw[← h2];exact h1⟩
 have hlive':∀ (c x:Nat),own'[c]? = some x→x≠0→∃ q,((x:Int),q)∈s.par:=fun c x h1 h2=>by
  rcases hlive c x h1 h2 with h3|h3
  ·exact⟨z,by rw[h3];exact hz⟩
  ·exact h.live c x h3 h2
 have heg:e'.region=id:=by rw[he]
 have hoth:∀ x∈p1++p2,x∈s.sps∧x.1≠r∧x.1≠id:=by
  intro x hx;have hnk:(s.sps.map fun y=>y.1).Nodup:=by rw[h.skeys];exact hnd
  obtain⟨u1,u2⟩:=UR (f:=fun y:Int×Nat×QF=>y.1) hsps hnk
  have hx1:x∈p1++(p2++[(id,bs,T)]):=by
   rcases mem_append.1 hx with hx|hx
   ·exact mem_append.2 (.inl hx)
   ·exact mem_append.2 (.inr (mem_append.2 (.inl hx)))
  obtain⟨v1,v2⟩:=UR (f:=fun y:Int×Nat×QF=>y.1) (l:=p1++(p2++[(id,bs,T)])) (l1:=p1++p2) (l2:=[]) (a:=(id,bs,T)) (by simp) (by rw[u1];exact hnk.filter _);exact⟨(u2 x hx1).1,(u2 x hx1).2,(v2 x (by simpa using hx)).2⟩
 have hothM:∀ x∈m1++m2,x∈s.mns∧x.1≠r∧x.1≠id:=by
  intro x hx;have hnk:(s.mns.map fun y=>y.1).Nodup:=by rw[h.mkeys];exact hnd
  obtain⟨u1,u2⟩:=UR (f:=fun y:Int×Nat×List Nat=>y.1) hmns hnk
  have hx1:x∈m1++(m2++[(id,bm,N)]):=by
   rcases mem_append.1 hx with hx|hx
   ·exact mem_append.2 (.inl hx)
   ·exact mem_append.2 (.inr (mem_append.2 (.inl hx)))
  obtain⟨v1,v2⟩:=UR (f:=fun y:Int×Nat×List Nat=>y.1) (l:=m1++(m2++[(id,bm,N)])) (l1:=m1++m2) (l2:=[]) (a:=(id,bm,N)) (by simp) (by rw[u1];exact hnk.filter _);exact⟨(u2 x hx1).1,(u2 x hx1).2,(v2 x (by simpa using hx)).2⟩
 have hin:∀ {α:Type} {l1 l2:List α} {u v x:α},x∈l1++u::(l2++[v])→x=u∨x=v∨x∈l1++l2:=by
  intro α l1 l2 u v x hx
  rcases mem_append.1 hx with hx|hx
  ·exact .inr (.inr (mem_append.2 (.inl hx)))
  ·rcases mem_cons.1 hx with hx|hx
   ·exact .inl hx
   ·rcases mem_append.1 hx with hx|hx
    ·exact .inr (.inr (mem_append.2 (.inr hx)))
    ·exact .inr (.inl (mem_singleton.1 hx))
 have hMm:(r,c0,M)∈s.mns:=by rw[hmns];simp
 have hNm:(id,bm,N)∈s.mns:=by rw[hmns];simp
 have hM:=h.mine _ hMm;have hN:=h.mine _ hNm;refine⟨h.size,by show 1≤own'.length∧own'.length≤63;rw[hol];exact h.own,by show 1≤(s.tab.set _ _).length∧(s.tab.set _ _).length≤63;rw[length_set];exact h.slots,h.lays,fun i t hi=>?_,fun i n f hi=>?_,fun i j n n' f f' hij hi hj=>?_,h.par,?_,?_,fun x hx=>?_,fun x hx j n f hj=>?_,hlive',fun x hx=>?_⟩
 ·rcases Qz hi with ⟨rfl,rfl,_⟩|⟨_,hi⟩
  ·exact⟨(h.gen _ _ hk).1,fun _=>(h.gen _ _ hk).2 rfl⟩
  ·exact h.gen i t hi
 ·rcases Qz hi with ⟨rfl,h1,_⟩|⟨h0,hi⟩
  ·injection h1 with h1 h2
   injection h2 with h2
   subst h1 h2;exact⟨O7 (h.obj _ _ _ hk).1 (by rw[he]) (by rw[he]) (by rw[he]),hE,z,by rw[heg];exact hz⟩
  ·obtain⟨o1,_,o3⟩:=h.obj i n f hi;exact⟨o1,hL i n f h0 hi,o3⟩
 ·rcases Qz hi with ⟨rfl,h1,_⟩|⟨h0,hi2⟩ <;> rcases Qz hj with ⟨rfl,h2,_⟩|⟨h0',hj2⟩
  ·exact absurd rfl hij
  ·injection h1 with _ h1
   injection h1 with h1
   subst h1;exact(hap j n' f' h0' hj2).symm
  ·injection h2 with _ h2
   injection h2 with h2
   subst h2;exact hap i n f h0 hi2
  ·exact h.apart i j n n' f f' hij hi2 hj2
 ·rw[← h.skeys,hsps];simp
 ·rw[← h.mkeys,hmns];simp
 ·rcases hin hx with rfl|rfl|hx
  ·exact hS
  ·exact hT
  ·exact ho x hx
 ·rcases hin hx with rfl|rfl|hx2
  ·exact hfS j n f hj
  ·exact hfT j n f hj
  ·rcases Qz hj with ⟨rfl,h1,_⟩|⟨h0,hj2⟩
   ·injection h1 with _ h1
    injection h1 with h1
    subst h1;exact O8 h.size.1 (ho x hx2) hE (by rw[heg];exact(hoth x hx2).2.2.symm)
   ·exact h.free x (hoth x hx2).1 j n f hj2
 ·rcases hin hx with rfl|rfl|hx
  ·refine⟨hM.1.filter _,fun i=>?_⟩;show i∈M.filter (·≠k)↔∃ n f,(s.tab.set k ⟨g,some e'⟩)[i]? = some ⟨n,some f⟩∧f.region=r;rw[mem_filter,hM.2];constructor
   ·rintro⟨⟨n,f,h1,h2⟩,h3⟩;have h3:i≠k:=by simpa using h3
    exact⟨n,f,by rw[getElem?_set_ne (fun h=>h3 h.symm)];exact h1,h2⟩
   ·rintro⟨n,f,h1,h2⟩
    rcases Qz h1 with ⟨rfl,h3,_⟩|⟨h0,h1⟩
    ·injection h3 with _ h3
     injection h3 with h3
     subst h3;exact absurd (heg.symm.trans h2) hne
    ·exact⟨⟨n,f,h1,h2⟩,by simpa using h0⟩
  ·have hkN:k∉N:=fun h1=>by
    obtain⟨n,f,h2,h3⟩:=(hN.2 k).1 h1;rw[hk] at h2;injection h2 with h2
    injection h2 with _ h2
    injection h2 with h2
    subst h2;exact hne (h3.symm.trans hr)
   refine⟨FY hN.1 hkN,fun i=>?_⟩;show i∈YO N k↔∃ n f,(s.tab.set k ⟨g,some e'⟩)[i]? = some ⟨n,some f⟩∧f.region=id;rw[FV,hN.2];constructor
   ·rintro(rfl|⟨n,f,h1,h2⟩)
    ·exact⟨g,e',getElem?_set_self hkl,heg⟩
    ·refine⟨n,f,?_,h2⟩;rw[getElem?_set_ne]
     ·exact h1
     ·intro h3;subst h3;exact hkN ((hN.2 _).2 ⟨n,f,h1,h2⟩)
   ·rintro⟨n,f,h1,h2⟩
    rcases Qz h1 with ⟨rfl,h3,_⟩|⟨h0,h1⟩
    ·exact .inl rfl
    ·exact .inr ⟨n,f,h1,h2⟩
  ·obtain⟨u1,u2,u3⟩:=hothM x hx;obtain⟨v1,v2⟩:=h.mine x u1;refine⟨v1,fun i=>?_⟩;show i∈x.2.2↔∃ n f,(s.tab.set k ⟨g,some e'⟩)[i]? = some ⟨n,some f⟩∧f.region=x.1;rw[v2];constructor
   ·rintro⟨n,f,h1,h2⟩;refine⟨n,f,?_,h2⟩;rw[getElem?_set_ne]
    ·exact h1
    ·intro h3;subst h3;rw[hk] at h1;injection h1 with h1
     injection h1 with _ h1
     injection h1 with h1
     subst h1;exact u2 (h2.symm.trans hr)
   ·rintro⟨n,f,h1,h2⟩
    rcases Qz h1 with ⟨rfl,h3,_⟩|⟨h0,h1⟩
    ·injection h3 with _ h3
     injection h3 with h3
     subst h3;exact absurd (h2.symm.trans heg) u3
    ·exact⟨n,f,h1,h2⟩
theorem dx {s:CS} (h:WF s) {k g:Nat} {e:Q8} (hk:s.tab[k]? = some ⟨g,some e⟩) {r id:Int} (hr:e.region=r) (hne:id≠r) (hnd:(s.par.map (·.1)).Nodup)
  {p1 p2:List (Int×Nat×QF)} {b0 bs:Nat} {S T:QF} (hsps:s.sps=p1++(r,b0,S)::(p2++[(id,bs,T)]))
  {m1 m2:List (Int×Nat×List Nat)} {c0 bm:Nat} {M N:List Nat} (hmns:s.mns=m1++(r,c0,M)::(m2++[(id,bm,N)])) {a:Nat}
  (hs:Ko s.size T a (e.ws.length+1)) (hfree:∀ (j n:Nat) (f:Q8),j≠k→s.tab[j]? = some ⟨n,some f⟩→QN f≤a∨a+(e.ws.length+1)≤f.addr) :
  WF { s with tab:=s.tab.set k ⟨g,some { e with region:=id,addr:=a }⟩,mns:=m1++(r,c0,M.filter (·≠k))::(m2++[(id,bm,YO N k)]) }:=by
 obtain⟨c,c1,c2,c3,c4⟩:=hs;have hTm:(id,bs,T)∈s.sps:=by rw[hsps];simp
 have hSm:(r,b0,S)∈s.sps:=by rw[hsps];simp
 have hT:=h.spc _ hTm;obtain⟨y,hy1,hy2,hy3⟩:=(hT.owned c).1 (Kn c1 (Nat.le_refl _) (Nat.lt_succ_self _));have hcl:=(List.getElem?_eq_some_iff.1 hy1).1;have hle:(c+1)*s.size≤s.own.length*s.size:=Nat.mul_le_mul_right _ hcl;have hs1:=h.size.1
 have hE:Zr s.size s.own { e with region:=id,addr:=a }:=by
  refine⟨by show a+1+e.ws.length≤_;omega,fun d h1 h2=>?_⟩;have h1:a / s.size≤d:=h1;have h2:d≤(a+e.ws.length) / s.size:=h2;have e1:a / s.size=c:=Nat.div_eq_of_lt_le (by omega) (by omega);have e2:(a+e.ws.length) / s.size=c:=Nat.div_eq_of_lt_le (by omega) (by omega);obtain rfl:d=c:=by omega
  exact⟨y,hy1,hy2,by omega⟩
 have hw:=O9 (S':=S) (T':=T) (own':=s.own) (b0':=0) (bs':=0) h hk hr hne hnd hsps hmns (a:=a) rfl rfl hE (fun j n f _ hj=>(h.obj j n f hj).2.1) (fun j n f h0 hj=>by
   have:=hfree j n f h0 hj;show QN f≤a∨a+1+e.ws.length≤f.addr;omega) (h.spc _ hSm) hT (fun x hx=>h.spc x (by
   rw[hsps]
   rcases mem_append.1 hx with hx|hx
   ·exact mem_append.2 (.inl hx)
   ·exact mem_append.2 (.inr (mem_cons_of_mem _ (mem_append.2 (.inl hx)))))) (fun j n f hj=>?_) (fun j n f hj=>?_) (fun _ _ h1 _ => .inr h1)
 ·rw[← hsps] at hw;exact hw
 ·rcases Qz hj with ⟨rfl,h1,_⟩|⟨h0,hj⟩
  ·injection h1 with _ h1
   injection h1 with h1
   subst h1;exact O8 hs1 (h.spc _ hSm) hE hne
  ·exact h.free _ hSm j n f hj
 ·rcases Qz hj with ⟨rfl,h1,_⟩|⟨h0,hj⟩
  ·injection h1 with _ h1
   injection h1 with h1
   subst h1;show a+1+e.ws.length≤T.at'∨T.fin≤a;omega
  ·exact h.free _ hTm j n f hj
theorem OQ {s s':CS} (h:WF s) {mem mem':List Nat} (m:VT s mem) {k g:Nat} {e:Q8} (hk:s.tab[k]? = some ⟨g,some e⟩) {id:Int} {a:Nat} (hfree:∀ (j n:Nat) (f:Q8),j≠k→s.tab[j]? = some ⟨n,some f⟩→QN f≤a∨a+(e.ws.length+1)≤f.addr)
  (hl:mem'.length=mem.length) (hin:∀ i,i < e.ws.length+1→mem'[a+i]? = mem[e.addr+i]?) (hout:∀ j,j < a∨a+(e.ws.length+1)≤j→mem'[j]? = mem[j]?)
  (h1:s'.own.length=s.own.length) (h2:s'.size=s.size) (h3:s'.tab=s.tab.set k ⟨g,some { e with region:=id,addr:=a }⟩):VT s' mem':=by
 refine⟨by rw[h1,h2,hl];exact m.len,fun i n f hi=>?_,fun i n f hi p w hp=>?_⟩
 ·rw[h3] at hi
  rcases Qz hi with ⟨rfl,u1,_⟩|⟨h0,hi⟩
  ·injection u1 with _ u1
   injection u1 with u1
   subst u1;have:=hin 0 (by omega);show mem'[a]? = _;rw[Nat.add_zero,Nat.add_zero] at this;rw[this];exact m.head _ _ _ hk
  ·rw[hout f.addr (by have:=hfree i n f h0 hi;unfold QN at this;omega)];exact m.head i n f hi
 ·rw[h3] at hi
  rcases Qz hi with ⟨rfl,u1,_⟩|⟨h0,hi⟩
  ·injection u1 with _ u1
   injection u1 with u1
   subst u1;have hp:e.ws[p]? = some w:=hp;have hpl:=(List.getElem?_eq_some_iff.1 hp).1;have:=hin (1+p) (by omega);show mem'[a+1+p]? = _;rw[Nat.add_assoc,this,← Nat.add_assoc];exact m.words _ _ _ hk p w hp
  ·have hpl:=(List.getElem?_eq_some_iff.1 hp).1;rw[hout (f.addr+1+p) (by have:=hfree i n f h0 hi;unfold QN at this;omega)];exact m.words i n f hi p w hp
theorem dy {s s':CS} (hP:Y0 s) {k g:Nat} {e:Q8} {id:Int} {a:Nat} {bs:Nat} {T:QF} (hT:(id,bs,T)∈s'.sps) (hs:Ko s.size T a (e.ws.length+1)) (h1:s'.size=s.size) (h2:s'.tab=s.tab.set k ⟨g,some { e with region:=id,addr:=a }⟩) (h3:s'.sps=s.sps):Y0 s':=by
 intro j n f hj;rw[h2] at hj
 rcases Qz hj with ⟨rfl,u1,_⟩|⟨h0,hj⟩
 ·injection u1 with _ u1
  injection u1 with u1
  subst u1;obtain⟨c,c1,c2,c3,_⟩:=hs;refine⟨_,hT,rfl,(c,1),c1,.inl ⟨rfl,?_,?_⟩⟩
  ·rw[h1];exact c2
  ·rw[h1];show a+1+e.ws.length≤(c+1)*s.size;omega
 ·rw[h3,h1];exact hP j n f hj
end Go.Proofs.YtbnnnljagkjpiaaGreatDoor
