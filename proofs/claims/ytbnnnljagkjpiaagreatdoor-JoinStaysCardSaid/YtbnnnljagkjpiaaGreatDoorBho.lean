/- Cells: what is proved on the way: every input of the statement; no condition. Texts joined: BumH StoE ImgE SplR LawB LawC LawD LawE LawF. -/
import Derived.Test.YtbnnnljagkjpiaaGreatDoorBhd
import Derived.Test.YtbnnnljagkjpiaaGreatDoorBhj
import Derived.Test.YtbnnnljagkjpiaaGreatDoorBhf
import Derived.Test.YtbnnnljagkjpiaaGreatDoorBhg
import Derived.Test.YtbnnnljagkjpiaaGreatDoorBhn
import Derived.Test.YtbnnnljagkjpiaaGreatDoorBhc
import Derived.Test.YtbnnnljagkjpiaaGreatDoorBhi
import Derived.Test.YtbnnnljagkjpiaaGreatDoorBhk
set_option linter.unusedVariables false
set_option linter.unusedSimpArgs false
set_option linter.unusedSectionVars false
namespace Go.Proofs.YtbnnnljagkjpiaaGreatDoor
open List
open Go.SL
theorem fT [Q4] (p o sp owner owner2:Nat) (S T:QH) (size:Nat) (mem own:List Nat) {A B:List (Nat×Nat)} {c n:Nat} (hSp:S.parts=A++(c,n)::B) (hA:∀ y∈A,y.1≠c) (hn2:2≤n) (ho:1≤owner2) (hS:S.parts.length≤1000) (hT:T.parts.length≤1000) (h63:own.length≤63)
  (hcn:c+n≤own.length) (hown:∀ d,c≤d→d < c+n→own.getD d 0≠0) {w:World} {fr:List Q2} (H:Q0 w (Ql p sp owner S::Ql o sp owner2 T::ST sp size mem own::fr)) :
  Calls Tryz.prog 58 #[pp p,pp o,.int .i64 c] w (ret fun v w'=>v = .int .i64 0∧Q0 w' (Ql p sp owner { S with parts:=A++B }::Ql o sp owner2 { T with parts:=T.parts++[(c,n)] }::ST sp size mem (V4 own c n owner2)::fr)):=by
 have hf:Xr S.parts c=some (c,n):=by
  unfold Xr;rw[hSp,find?_append,find?_eq_none.2 (fun y hy=>by simpa using hA y hy),find?_cons_of_pos (by simp)];rfl
 have hk:S.parts[A.length]? = some (c,n):=by rw[hSp,getElem?_append_right (Nat.le_refl _),Nat.sub_self];rfl
 have htk:S.parts.take A.length=A:=by rw[hSp,take_left'];rfl
 have hdr:S.parts.drop (A.length+1)=B:=by
  rw[hSp,show A++(c,n)::B=(A++[(c,n)])++B by simp,drop_left'];simp
 refine QV Tryz.func58 rfl (by kernel_rfl) ?_;refine Gy H ?_;refine Jc rfl rfl (Nj p o sp owner owner2 S T H) ?_;clear H;rintro v w ⟨rfl,H⟩;refine Yp H ?_;refine J5 H ?_;refine Jc rfl rfl (IX p sp owner S c (by omega) H) ?_;clear H;rintro v w ⟨rfl,H⟩;rw[hf];refine Vj H ?_;clear H;intro b8 w H;refine J4 H ?_;clear H;intro w H;refine Dw H ?_;refine XO H ?_;rw[show (((n:Nat):Int) == (1:Int))=false by rw[beq_eq_false_iff_ne];omega];refine Vo H ?_;refine GZ H ?_;replace H:=Js [1,0] 0 H;refine Jc rfl rfl (Nd p sp owner S A.length c n hk (by rw[htk];exact fun y hy h=>hA y hy (by rw[h])) (by omega) H) ?_;clear H;rintro v w ⟨rfl,H⟩;rw[htk,hdr] at H;refine Q6 ?_;refine GZ H ?_;replace H:=Js [2,2,0,0] 0 H;refine Jc rfl rfl (Ni o sp owner2 T size mem own c n ho (by omega) h63 (fun j hj=>⟨by omega,hown _ (by omega) (by omega)⟩) (by omega) (by omega) H) ?_;clear H;rintro v w ⟨rfl,H⟩;refine Rx H ?_;replace H:=Js [2,0,0] 1 H;exact Q3 (Jy H rfl fun w' H'=>⟨rfl,H'⟩)
def Cp (S:QH) (d:Nat):Bool:=S.parts.any fun x=>decide (1 < x.2∧x.1≤d∧d < x.1+x.2)
theorem fa [Q4] (p sp owner:Nat) (S:QH) (d:Nat) (hp:S.parts.length≤1000) (hb:∀ x∈S.parts,x.1+x.2≤1000) {w:World} {fr:List Q2} (H:Q0 w (Ql p sp owner S::fr)) :
  Calls Tryz.prog 55 #[pp p,.int .i64 d] w (ret fun v w'=>v = .bool (Cp S d)∧Q0 w' (Ql p sp owner S::fr)):=by
 obtain⟨a,c,H⟩:=G0 H;refine QV Tryz.func55 rfl (by kernel_rfl) ?_;refine Ky H ?_;refine AR H ?_;replace H:=Js [1,0] 0 H;refine Qi (fun ms σ w z=>ms=[]∧∃ i:Nat,i≤S.parts.length∧z=S.parts.length - i∧(∀ y∈S.parts.take i,¬ (1 < y.2∧y.1≤d∧d < y.1+y.2))∧σ 1 = .int .i64 d∧σ 12 = .slice a S.parts.length c∧σ 13 = .int .i64 S.parts.length∧σ 14 = .int .i64 i∧Q0 w (QC 226 2 (.slice a S.parts.length c) (S.parts.flatMap Ve)::pts p (row 224 [pp sp,.int .i64 owner,.slice a S.parts.length c,.int .i64 S.at',.int .i64 S.fin])::fr)) (m:=S.parts.length) ⟨rfl,0,by omega,by omega,(fun y hy=>by simp at hy),rfl,rfl,rfl,rfl,H⟩ ?_;clear H;rintro ms σ w z ⟨rfl,i,hi,rfl,hno,g1,g12,g13,g14,H⟩;rw[Q1 g1,Q1 g12,Q1 g13,Q1 g14];refine J6 H ?_;refine Qh rfl (fun h=>QR ?_) (fun h=>Qj ?_)
 ·have hlt:i < S.parts.length:=by omega
  have hn:=getElem?_eq_getElem hlt;have htk:S.parts.take (i+1)=S.parts.take i++[S.parts[i]]:=by rw[take_add_one,hn];rfl
  have hmem:=getElem_mem hlt;generalize S.parts[i]=x at hn htk hmem;obtain⟨x1,x2⟩:=x;have hb0:x1+x2≤1000:=hb _ hmem;obtain⟨bT,sT,rfl,H,hcl⟩:=Qw H (by omega);have hrd:QZ (S.parts.flatMap Ve++sT) (i*2+0) 2 (Ve (x1,x2)):=Ww (vs:=Ve (x1,x2)) XZ hn (by repeat first|exact .nil _|apply QZ.cons rfl);have ei:0+((i:Nat):Int).toNat*2=i*2:=by simp
  refine Y9 H ?_;refine Jd ?_;rw[ei];refine Q5 rfl (VH H rfl hrd rfl ?_);refine VQ H ?_;clear H;intro b6 w H;refine J4 H ?_;clear H;intro w H;refine Q6 ?_;have hfin:∀ {w:World} {l:List Q2},Q0 w l→(1 < x2∧x1≤d∧d < x1+x2)→Cp S d=true:=fun _ h=>any_eq_true.2 ⟨_,hmem,decide_eq_true h⟩
  have hstep:¬ (1 < x2∧x1≤d∧d < x1+x2)→∀ y∈S.parts.take (i+1),¬ (1 < y.2∧y.1≤d∧d < y.1+y.2):=fun h y hy=>by
   rw[htk] at hy
   rcases mem_append.1 hy with hy|hy
   ·exact hno y hy
   ·rw[mem_singleton] at hy;subst hy;exact h
  replace H:=Js [1,0] 0 H;replace H:=hcl _ _ H;replace H:=Js [1,0] 0 H;refine Kv H ?_;by_cases h1:1 < x2
  ·rw[show decide (((x2:Nat):Int) > (1:Int))=true from decide_eq_true (by omega)];refine Jv ?_;refine W6 H ?_;by_cases h2:x1≤d
   ·rw[show decide (((d:Nat):Int)≥((x1:Nat):Int))=true from decide_eq_true (by omega)];refine BA H ?_;refine WZ H ?_;rw[Qb (x:=(x1:Int)+(x2:Int)) (by omega) (by omega)];refine YT H ?_;by_cases h3:d < x1+x2
    ·rw[show decide (((d:Nat):Int) < (x1:Int)+(x2:Int))=true from decide_eq_true (by omega)];refine UK H ?_;rw[hfin H ⟨h1,h2,h3⟩];exact Q3 (Jy H rfl fun w' H'=>⟨rfl,Z3 H'.drop.swap⟩)
    ·rw[show decide (((d:Nat):Int) < (x1:Int)+(x2:Int))=false from decide_eq_false (by omega)];refine KK H ?_;exact⟨_,⟨rfl,i+1,hlt,rfl,hstep (fun h=>h3 h.2.2),rfl,rfl,rfl,Qa (by omega),H.drop⟩,by omega⟩
   ·rw[show decide (((d:Nat):Int)≥((x1:Nat):Int))=false from decide_eq_false (by omega)];refine Zk H ?_;refine A8 H ?_;refine KK H ?_;exact⟨_,⟨rfl,i+1,hlt,rfl,hstep (fun h=>h2 h.2.1),rfl,rfl,rfl,Qa (by omega),H.drop⟩,by omega⟩
  ·rw[show decide (((x2:Nat):Int) > (1:Int))=false from decide_eq_false (by omega)];refine Jv ?_;refine W5 H ?_;refine Zk H ?_;refine A8 H ?_;refine KK H ?_;exact⟨_,⟨rfl,i+1,hlt,rfl,hstep (fun h=>h1 h.1),rfl,rfl,rfl,Qa (by omega),H.drop⟩,by omega⟩
 ·have hge:i=S.parts.length:=by omega
  subst hge;rw[take_length] at hno;have hf:Cp S d=false:=any_eq_false.2 (fun y hy=>by simpa using hno y hy);rw[hf];refine VJ H ?_;exact Q3 (Jy H rfl fun w' H'=>⟨rfl,Z3 H'.swap⟩)
end Go.Proofs.YtbnnnljagkjpiaaGreatDoor
namespace Go.SL
open List
open Go.Op
section
variable {P:Program} {n:Nat} {r:Option Nat} {σ:QX} {w:World} {l:List Q2}
variable {t u:TypeId} {p:String} {af:Array Edge} {g:Option (Nat×Bool)} {d:Option Tmp} {x y z:Operand} {K:QX→World→Prop}
theorem fb [Q4] {e size bytes b o1 o2 m cap cap' E:Nat} {c vs:List Value} [hT:VB P t e size bytes] (H:Q0 w (pts b (row E c)::l)) (hx:ev σ x = .slice (some ⟨b,o1,none⟩) m cap) (hy:ev σ y = .slice (some ⟨b,o2,none⟩) m cap') (hrd:QZ c o2 (m*size) vs) (hl:o1+m*size≤c.length) (h1:vs.all (·.oneCell')=true) (hd:Qf n d=true)
  (k:∀ w',Q0 w' (pts b (row E (wr c o1 vs))::l)→K (put σ d (.int .i64 m)) w'):St P n r ⟨d,.call { callee := .builtin .copy,args:=#[x,y],argTypes:=#[t,t] },u,p,af,g⟩ σ w K:=by
 have hs:(sizeOf e).run P w = .ok size w:=by
  obtain⟨k,hk,e2⟩:=Option.map_eq_some_iff.1 hT.info;simp only[Prod.mk.injEq] at e2;exact Zu (by rw[hk];simp[e2.1])
 have ev1:=hrd.len;have hbk:w.heap[b]? = some (.cells c.toArray E (0,0)):=H.pts
 have hfc:(Builtin.firstCells size m (.slice (some ⟨b,o2,none⟩) m cap')).run P w = .ok vs.toArray w:=by
  unfold Builtin.firstCells
  have:=run_loadCells_list (P:=P) (w:=w) ⟨b,o2,none⟩ vs (fun j v hj=>by
   rw[ZV];exact Zj hbk (hrd.get j v hj))
  rwa [ev1] at this
 obtain⟨w',hr,h2,h3,h4⟩:=B1 (P:=P) vs w b o1 E c 0 H.pts (by omega) (all_eq_true.1 h1);rw[Nat.add_zero] at h2;have H':=H.set (o':=row E (wr c o1 vs)) h2 h3 h4;refine V3 (v := .int .i64 m) (w':=w') hd (fun c e=>by cases e) ?_ (k w' H');have hmin:Nat.min m m=m:=Nat.min_self m;simp[execOp,resolve,invoke,builtin,hx,hy,Builtin.copy_,Vn hT.und,Builtin.lenOf,hmin,hs,hfc,hr,goInt]
end
end Go.SL
namespace Go.Proofs.YtbnnnljagkjpiaaGreatDoor
open List
open Go.SL
def Uw (l:List Nat) (a b n:Nat):List Nat:=l.take a++(l.drop b).take n++l.drop (a+n)
theorem Od {l:List Nat} {a b n:Nat} (h1:a+n≤l.length) (h2:b+n≤l.length):(Uw l a b n).length=l.length:=by simp[Uw];omega
theorem fc {l:List Nat} {a b n:Nat} (h1:a+n≤l.length) (h2:b+n≤l.length) {i:Nat} (hi:i < n):(Uw l a b n)[a+i]? = l[b+i]?:=by
 unfold Uw;rw[append_assoc,getElem?_append_right (by simp;omega),getElem?_append_left (by simp;omega)];have e1:(l.take a).length=a:=by simp;omega
 rw[e1,Nat.add_sub_cancel_left,getElem?_take_of_lt hi,getElem?_drop]
theorem fe {l:List Nat} {a b n:Nat} (h1:a+n≤l.length) (h2:b+n≤l.length) {j:Nat} (hj:j < a∨a+n≤j):(Uw l a b n)[j]? = l[j]?:=by
 unfold Uw;rw[append_assoc]
 rcases hj with hj|hj
 ·rw[getElem?_append_left (by simp;omega),getElem?_take_of_lt hj]
 ·rw[getElem?_append_right (by simp;omega),getElem?_append_right (by simp;omega),getElem?_drop];congr 1;simp;omega
theorem ff [Q4] (p size:Nat) (mem own:List Nat) (a b n:Nat) (h1:1≤n) (h2:a+n≤mem.length) (h3:Gh size own a n) (h4:b+n≤mem.length) (h5:Gh size own b n) {w:World} {fr:List Q2} (H:Q0 w (ST p size mem own::fr)) :
  Calls Tryz.prog 125 #[pp p,.int .i64 a,.int .i64 b,.int .i64 n] w (ret fun v w'=>v = .int .i64 0∧Q0 w' (ST p size (Uw mem a b n) own::fr)):=by
 refine QV Tryz.func125 rfl (by kernel_rfl) ?_;refine BP H ?_;refine Vi H ?_;refine Jc rfl rfl (AL p size mem own a n h1 h2 h3 H) ?_;clear H;rintro v w ⟨rfl,H⟩;refine W1 H ?_;refine Jc rfl rfl (AL p size mem own b n h1 h4 h5 H) ?_;clear H;rintro v w ⟨rfl,H⟩;refine K9 H ?_;refine Y1 (fun ms σ w=>ms=[]∧σ 0=pp p∧σ 1 = .int .i64 a∧σ 2 = .int .i64 b∧σ 3 = .int .i64 n∧Q0 w (ST p size mem own::fr)) ?_ ?_
 ·refine QS ?_;refine W2 H ?_;refine KQ H ?_;refine W2 H ?_;refine W3 H ?_;exact .inl ⟨rfl,rfl,rfl,rfl,rfl,rfl,H⟩
 ·clear H;rintro ms σ w ⟨rfl,g0,g1,g2,g3,H⟩;rw[Q1 g0,Q1 g1,Q1 g2,Q1 g3];obtain⟨v,v2,u,ws,many,hok,H⟩:=Gz H;have H:=H.swap;have hmem:mem.length≤1048576:=by rw[hok.len];exact Nat.mul_le_mul hok.c2 hok.s2
  obtain⟨a1,c1,rfl⟩:=QD H (Yz mem) (by decide)
  rcases GV H with ⟨h,_⟩|⟨bb,len,cap',s,h,e3,e4,e5,H⟩
  ·injection h with h4 h5 h6;omega
  injection h with h6 h7 h8
  subst h6 h7 h8;have hvl:(QP ((mem.drop b).take n)).length=n:=by simp[QP];omega
  have hrd:QZ (QP mem++s) (0+b*1) ((b+n - b)*1) (QP ((mem.drop b).take n)):=by
   have e:(QP ((mem.drop b).take n)).length=(b+n - b)*1:=by rw[hvl];omega
   rw[← e];refine QZ.of_get fun j v hj=>?_;have hj':j < n:=by have:=(List.getElem?_eq_some_iff.1 hj).1;omega
   rw[getElem?_append_left (by simp[QP];omega)];simp only[QP,getElem?_map,getElem?_take_of_lt hj',getElem?_drop] at hj;simp only[QP,getElem?_map,Nat.zero_add,Nat.mul_one];exact hj
  have hrd:QZ (QP mem++s) (0+b*1) ((a+n - a)*1) (QP ((mem.drop b).take n)):=by
   rw[show a+n - a=b+n - b by omega];exact hrd
  have hs1:(QP ((mem.drop b).take n)).all (·.oneCell')=true:=all_eq_true.2 fun v hv=>by
   simp only[QP,mem_map] at hv;obtain⟨x,_,rfl⟩:=hv;rfl
  refine J1 H ?_;clear H;intro w H;refine Yo H ?_;refine Jl 3 [18] H ?_;refine Ui H ?_;refine Ja 6 ?_;refine Ja 7 ?_;rw[Qb (x:=(a:Int)+(n:Int)) (by omega) (by omega),show (a:Int)+(n:Int)=((a+n:Nat):Int) by omega];refine BK 8 rfl (Q9.none rfl) rfl rfl rfl (by omega) (by omega) (by omega) (by kernel_rfl) ?_;refine Bb H ?_;refine Jl 12 [18] H ?_;refine Ja 13 ?_;refine Ja 14 ?_;refine Ja 15 ?_;refine Ja 16 ?_;rw[Qb (x:=(b:Int)+(n:Int)) (by omega) (by omega),show (b:Int)+(n:Int)=((b+n:Nat):Int) by omega];refine BK 17 rfl (Q9.none rfl) rfl rfl rfl (by omega) (by omega) (by omega) (by kernel_rfl) ?_;rw[show b+n - b=a+n - a by omega];refine Jo 18 H ?_;refine fb H rfl rfl hrd (by simp only[length_append,Yz];omega) hs1 rfl ?_;clear H;intro w H;refine Bc H ?_;have hcl:(Uw mem a b n).length=mem.length:=Od h2 h4
  have hwr:wr (QP mem++s) (0+a*1) (QP ((mem.drop b).take n))=QP (Uw mem a b n)++s:=by
   rw[DW _ _ _ (by rw[hvl,length_append,Yz];omega),hvl];unfold Uw QP;rw[Nat.zero_add,Nat.mul_one,take_append_of_le_length (by simp;omega),drop_append_of_le_length (by simp;omega)];simp[map_take,map_drop]
  rw[hwr] at H;exact Q3 (Jy (GA (hok.mem hcl) (ZZ (by rw[Yz,hcl]) e4 e5 H).swap) rfl fun w' H'=>⟨rfl,H'⟩)
theorem fg [Q4] (ip sp bp size:Nat) (ls:List QJ) (mem own:List Nat) (to addr i c s n:Nat) (l:QJ) (h:XG ls size mem own addr i c s n l) (hto:to+(n+1)≤mem.length) (ho:Gh size own to (n+1)) {w:World} {fr:List Q2} (H:Q0 w (Qv ip sp bp::Qo bp ls::ST sp size mem own::fr)) :
  Calls Tryz.prog 59 #[pp ip,.int .i64 to,.int .i64 addr] w (ret fun v w'=>v = .tuple #[.int .i64 ((n+1:Nat):Int),.int .i64 0]∧Q0 w' (Qv ip sp bp::Qo bp ls::ST sp size (Uw mem to addr (n+1)) own::fr)):=by
 have hf:=h.fit;refine QV Tryz.func59 rfl (by kernel_rfl) ?_;refine Uo H ?_;refine Jc rfl rfl (CW ip sp bp size ls mem own addr i c s n l h H) ?_;clear H;rintro v w ⟨rfl,H⟩;refine AK H ?_;refine VQ H ?_;clear H;intro b8 w H;refine J4 H ?_;clear H;intro w H;refine Bp H ?_;refine ZU H ?_;refine W1 H ?_;replace H:=Js [3,0,0,0] 0 H;refine Jc rfl rfl (ff sp size mem own to addr (n+1) (by omega) hto ho (by omega) h.owned H) ?_;clear H;rintro v w ⟨rfl,H⟩;refine Yp H ?_;refine VG H ?_;replace H:=Js [2,2,0] 1 H;exact Q3 (Jy H rfl fun w' H'=>⟨rfl,H'⟩)
theorem fh {T:QH} (h:T.at'≤T.fin):Z6 ⟨[],0,0⟩ T=T:=by
 obtain⟨ps,x,y⟩:=T;have h:x≤y:=h;unfold Z6;by_cases h0:y=0
 ·subst h0;obtain rfl:x=0:=by omega
  rfl
 ·show QH.mk _ (if y=0 then 0 else x) (if y=0 then 0 else y)=_;rw[if_neg h0,if_neg h0];rfl
theorem Av:GQ Tryz.prog 62 kp:=LS inferInstance
set_option maxRecDepth 10000 in
theorem Oe [Q4] (p:Nat) (s:CS) (r:Nat) (hid:(Q8 s.par (r:Int)).isSome=true) (hT:Y3 s.par) (hP:Vp s) (hlast:s.last+1 < 1000000) (v:Value) (l:List (Nat×Nat)) (hl:l.length≤1000) {w:World} {fr:List Q2} [hTab:YX 0 Lib.deBruijn64tab fr] (H:Q0 w (QU p s::Qz v l::fr)) :
  Calls Tryz.prog 15 #[pp p,.int .i64 r,v] w (ret fun x w'=>
   (Za s r l≠0∧x = .tuple #[.int .i64 0,.int .i64 (Za s r l:Nat)]∧Q0 w' (QU p s::Qz v l::fr)) ∨
   (Za s r l=0∧x = .tuple #[.int .i64 0,.int .i64 11]∧s.own.length - (s.own.filter (· != 0)).length < l.length∧Q0 w' (QU p s::Qz v l::fr)) ∨
   (Za s r l=0∧x = .tuple #[.int .i64 ((s.last+1:Nat):Int),.int .i64 0]∧∃ (Z:List Pl) (s':CS),Z.map (fun z=>(z.k,z.g))=l∧Kf s r Z s'∧Q0 w' (QU p s'::Qz v l::fr))):=by
 obtain⟨a,c,rfl⟩:=QD H.drop (Kl l) (by decide);obtain⟨u,mem,hw,hm,H⟩:=Vv H;have hr1:=Cn hT hid;refine QV Tryz.func15 rfl (by kernel_rfl) ?_;refine J3 H ?_;replace H:=Js [5,0,0,0,0,0,0,0,0,0,0,0] 0 H;refine J5 H ?_;refine Jc rfl rfl (FK p u s.last s.par r H) ?_;clear H;rintro v w ⟨rfl,H⟩;rw[if_pos hid];refine Yp H ?_;replace H:=Js [5,1,0,8,0,0,0,0,0,0,0,0] 0 H;refine Vi H ?_;refine Jc rfl rfl (fI p u s r (.slice a l.length c) l hl H) ?_;clear H;rintro v w ⟨rfl,H⟩;refine YI H ?_;by_cases hc:Za s r l=0
 case neg=>
  rw[show (((Za s r l:Nat):Int) != 0)=true by rw[bne_iff_ne];omega];refine Dx H ?_;replace H:=Js [1,3,3,3,0,0,1,1,1,1,1,0] 0 H;exact Q3 (Jy H rfl fun w' H' => .inl ⟨hc,rfl,VV hw hm H'⟩)
 rw[hc];refine V8 H ?_;have hrk:(r:Int)∈s.par.map (·.1):=WC hid;obtain⟨b0,hkS⟩:=KT (l:=s.sps) (f:=fun x=>x.1) (g:=fun x=>x.2.1) (k:=(r:Int)) (by rw[hw.skeys];exact hrk);obtain⟨⟨r1,b0',S⟩,p1,p2,hsps,hs1,hs2⟩:=KS hkS;have hs1:r1=(r:Int):=hs1;have hs2:b0'=b0:=hs2;subst hs1 hs2;obtain⟨c0,hkM⟩:=KT (l:=s.mns) (f:=fun x=>x.1) (g:=fun x=>x.2.1) (k:=(r:Int)) (by rw[hw.mkeys];exact hrk);obtain⟨⟨r2,c0',M⟩,m1,m2,hmns,hs3,hs4⟩:=KS hkM;have hs3:r2=(r:Int):=hs3;have hs4:c0'=c0:=hs4;subst hs3 hs4;have hkS':Q8 (s.sps.map VN) (r:Int)=some b0':=hkS;have hkM':Q8 (s.mns.map V2) (r:Int)=some c0':=hkM;have hSm:((r:Int),b0',S)∈s.sps:=by rw[hsps];simp
 obtain⟨t1,t2,t3,t4,t5,t6⟩:=Aj hw hSm;have t1:S.parts.length≤63:=t1;have t2:∀ x∈S.parts,1≤x.2∧x.1+x.2≤s.own.length:=t2;have ho:=hw.own.2;have hsz:=hw.size;refine J9 H ?_;refine Q5 rfl (Zv (key:=(r:Int)) H rfl rfl VL rfl ?_);rw[hkS'];refine J0 H ?_;refine J9 H ?_;refine Jc rfl rfl (Hr u.sp r (by omega) H) ?_;clear H;rintro w0 w ⟨bt,rfl,H⟩;refine ZE H ?_;replace H:=Js [7,0,0,0,0,0,0,0,0,0,0,0,0] 0 H;refine ZU H ?_;refine Jc rfl rfl (Ee u.sp s.size mem s.own H) ?_;clear H;rintro v w ⟨rfl,H⟩;refine J0 H ?_;refine Yq H ?_;refine Q5 rfl (XJ v1 kp H rfl ?_);clear H;intro bat w H;refine Dh H ?_;replace H:=Js [11,0,0,0,0,0,0,0,0,0,0,0,0,0] 0 H;replace H:Q0 w (Ql b0' u.sp r S::star ((p1++p2).map (VO u.sp))::_):=(Q0.pick (R:=VO u.sp) (x:=((r:Int),b0',S)) hsps).1 H;replace H:=Js [8,5,5,0,3,2,3,3,1,1,1,1,0,0,0] 0 H
 have hchk:Yw s.tab r [] l=0:=by
  unfold Za at hc;split at hc
  ·cases hc
  ·split at hc
   ·rename_i h1 h2;exact absurd hc h2
   ·rename_i h1 h2;exact Classical.not_not.1 h2
 obtain⟨hall,hnodl⟩:=FF hchk;have hmml:=hm.len;refine J7 H ?_
 refine Y1 (fun ms σ w=>ms=[]∧∃ (Z:List Pl) (own' mem':List Nat) (T:QH) (at':List ((Int×Int)×Int)),Z.map (fun z=>(z.k,z.g))=l∧(∀ z∈Z,s.tab[z.k]? = some ⟨z.g,some z.e⟩∧z.e.region=(r:Int))∧YM s r S Z mem own' mem' T∧(∀ z∈Z,Q8 at' ((z.k:Int),(z.g:Int))=some (z.a:Int)) ∧
  σ 0=pp p∧σ 1 = .int .i64 r∧σ 2 = .slice a l.length c∧σ 10=pp b0'∧σ 11=pp bt∧σ 13 = .int .i64 s.size∧σ 14 = .map (some bat)∧Q0 w (Qz (.slice a l.length c) l::Qk u.tp s.tab::V5 p u::Ql b0' u.sp r S::Ql bt u.sp r T::ST u.sp s.size mem' own'::Qv u.ip u.sp u.bp::Qo u.bp s.lays::mp kp v1 bat at'::Qe u.trp s.last s.par::RS u.rp s.rem::mp (ki .i64) Qr u.sm (s.sps.map VN)::star ((p1++p2).map (VO u.sp))::mp (ki .i64) Qr u.mm (s.mns.map V2)::star (s.mns.map VX)::fr)) ?_ ?_
 ·refine QS ?_
  refine Qi (fun ms σ w z=>ms=[]∧∃ (i:Nat) (Z:List Pl) (own' mem':List Nat) (T:QH) (at':List ((Int×Int)×Int)),i≤l.length∧z=l.length - i∧Z.map (fun z=>(z.k,z.g))=l.take i∧(∀ z∈Z,s.tab[z.k]? = some ⟨z.g,some z.e⟩∧z.e.region=(r:Int))∧YM s r S Z mem own' mem' T∧(∀ z∈Z,Q8 at' ((z.k:Int),(z.g:Int))=some (z.a:Int)) ∧
   σ 0=pp p∧σ 1 = .int .i64 r∧σ 2 = .slice a l.length c∧σ 10=pp b0'∧σ 11=pp bt∧σ 13 = .int .i64 s.size∧σ 14 = .map (some bat)∧σ 66 = .slice a l.length c∧σ 67 = .int .i64 l.length∧σ 68 = .int .i64 i∧Q0 w (Qz (.slice a l.length c) l::Qk u.tp s.tab::V5 p u::Ql b0' u.sp r S::Ql bt u.sp r T::ST u.sp s.size mem' own'::Qv u.ip u.sp u.bp::Qo u.bp s.lays::mp kp v1 bat at'::Qe u.trp s.last s.par::RS u.rp s.rem::mp (ki .i64) Qr u.sm (s.sps.map VN)::star ((p1++p2).map (VO u.sp))::mp (ki .i64) Qr u.mm (s.mns.map V2)::star (s.mns.map VX)::fr)) (m:=l.length) ⟨rfl,0,[],s.own,mem,⟨[],0,0⟩,[],by omega,by omega,rfl,(fun z hz=>(by cases hz)),YM.start s r S mem,(fun z hz=>(by cases hz)),rfl,rfl,rfl,rfl,rfl,rfl,rfl,rfl,rfl,rfl,H⟩ ?_
  clear H;rintro ms σ w z ⟨rfl,i,Z,own',mem',T,at',hi,rfl,hZ,hents,hA,hat,g0,g1,g2,g10,g11,g13,g14,g66,g67,g68,H⟩;rw[Q1 g0,Q1 g1,Q1 g2,Q1 g10,Q1 g11,Q1 g13,Q1 g14,Q1 g66,Q1 g67,Q1 g68];refine J6 H ?_;refine Qh rfl (fun h=>QR ?_) (fun h=>Qj ?_)
  ·have hlt:i < l.length:=by omega
   have hx:=getElem?_eq_getElem hlt;have htk:l.take (i+1)=l.take i++[l[i]]:=by rw[take_add_one,hx];rfl
   have hmem:=getElem_mem hlt
   have hnt:l[i]∉l.take i:=fun hh=>by
    obtain⟨j,hj⟩:=getElem?_of_mem hh;rw[getElem?_take] at hj;split at hj
    ·rename_i hji;obtain⟨hj1,hj2⟩:=List.getElem?_eq_some_iff.1 hj;exact(pairwise_iff_getElem.1 hnodl) j i hj1 hlt hji hj2
    ·cases hj
   generalize l[i]=tt at hx htk hmem hnt;obtain⟨k,n⟩:=tt;obtain⟨⟨e,hk,hheld,hreg,hpin⟩,_⟩:=hall _ hmem;have hk:s.tab[k]? = some ⟨n,some e⟩:=hk;have hL:Qn s.tab k n=some (k,e):=As hk;obtain⟨bT,sT,rfl,H,hcl⟩:=Qw H (by omega);refine Y9 H ?_;refine Jd ?_;refine Q5 rfl (VH H rfl (Xy hx) rfl ?_);refine VQ H ?_;clear H;intro b16 w H;refine J4 H ?_;clear H;intro w H;refine Q6 ?_;replace H:=Js [1,0] 0 H;replace H:=hcl _ _ H;replace H:Q0 w (Qz (.slice (some ⟨bT,0,none⟩) l.length c) l::pts b16 (row 62 [.int .i64 k,.int .i64 n])::_):=H;replace H:=Js [2,1,0,0,0,0,0,0,0,0] 0 H;refine J7 H ?_;refine Qm (fun ms σ w=>ms=[]∧∃ b17,σ 0=pp p∧σ 1 = .int .i64 r∧σ 2 = .slice (some ⟨bT,0,none⟩) l.length c∧σ 10=pp b0'∧σ 11=pp bt∧σ 13 = .int .i64 s.size∧σ 14 = .map (some bat)∧σ 16=pp b16∧σ 17=pp b17∧σ 66 = .slice (some ⟨bT,0,none⟩) l.length c∧σ 67 = .int .i64 l.length∧σ 68 = .int .i64 i∧Q0 w (Qk u.tp s.tab::pts b17 (row 78 (YJ e))::pts b16 (row 62 [.int .i64 k,.int .i64 n])::Qz (.slice (some ⟨bT,0,none⟩) l.length c) l::V5 p u::Ql b0' u.sp r S::Ql bt u.sp r T::ST u.sp s.size mem' own'::Qv u.ip u.sp u.bp::Qo u.bp s.lays::mp kp v1 bat at'::Qe u.trp s.last s.par::RS u.rp s.rem::mp (ki .i64) Qr u.sm (s.sps.map VN)::star ((p1++p2).map (VO u.sp))::mp (ki .i64) Qr u.mm (s.mns.map V2)::star (s.mns.map VX)::fr)) ?_ ?_
   ·refine J1 H ?_;clear H;intro w H;refine Xc H ?_;refine Jw 5 9 H rfl rfl (V0 (a:=[]) (b:=[]) rfl rfl (call (ZM u.tp s.tab k n H) ?_)) (Vr H rfl ?_)
    ·clear H;rintro v w ⟨rfl,H⟩;rw[hL];refine Xd H ?_;clear H;intro b17 w H;refine Xe H ?_;clear H;intro w H;refine ZH H ?_;replace H:=Js [1,0] 0 H;exact⟨rfl,rfl,b17,rfl,rfl,rfl,rfl,rfl,rfl,rfl,rfl,rfl,rfl,rfl,rfl,H⟩
    ·clear H;intro b17 w H;refine Jo 5 H ?_;refine Jk rfl rfl (ZM u.tp s.tab k n H.swap) ?_;clear H;rintro v w ⟨rfl,H⟩;rw[hL];refine Xf H ?_;clear H;intro w H;refine ZH H ?_;exact⟨rfl,rfl,b17,rfl,rfl,rfl,rfl,rfl,rfl,rfl,rfl,rfl,rfl,rfl,rfl,H⟩
   clear H;rintro ms σ w ⟨rfl,b17,g0,g1,g2,g10,g11,g13,g14,g16,g17,g66,g67,g68,H⟩;rw[Q1 g0,Q1 g1,Q1 g2,Q1 g10,Q1 g11,Q1 g13,Q1 g14,Q1 g16,Q1 g17,Q1 g66,Q1 g67,Q1 g68];refine GZ H ?_;refine Gg H ?_;refine Q5 rfl (Uf (ek:=kp) (vv:=v1) (v:=((e.addr:Nat):Int)) (key:=(((k:Nat):Int),((n:Nat):Int))) H rfl rfl rfl Av rfl ?_);clear H;intro w H;refine Q6 ?_;replace H:=Js [5,0,0,0,0,0] 0 H
   have hfit:e.addr < 9223372036854775808:=by
    have h1:=(hw.obj k n e hk).2.1.1;have h2:=Nat.mul_le_mul ho hsz.2;unfold QN at h1;omega
   refine YQ H ?_;refine R6 H ?_
   refine UV (v := .int .i64 ((e.addr / s.size:Nat):Int)) (by
    show (if IntKind.i64=IntKind.i64 then (if ((s.size:Nat):Int)=0 then none else some (Value.int IntKind.i64 (IntKind.i64.wrap (Int.tdiv ((e.addr:Nat):Int) ((s.size:Nat):Int))))) else none)=_;rw[if_pos rfl,if_neg (by omega),WA hfit]) rfl ?_
   refine Jc rfl rfl (fa b0' u.sp r S (e.addr / s.size) (by omega) (fun x hx=>by have:=(t2 x hx).2;omega) H) ?_;clear H;rintro v w ⟨rfl,H⟩;refine Q6 ?_
   have hins:∀ (v:Int) (z:Pl),z∈Z→Q8 (Vm at' (((k:Nat):Int),((n:Nat):Int)) v) ((z.k:Int),(z.g:Int))=Q8 at' ((z.k:Int),(z.g:Int)):=fun v z hz=>by
    rw[Gd,if_neg];intro h1;injection h1 with h1 h2
    have h3:(z.k,z.g)∈l.take i:=by rw[← hZ];exact mem_map.2 ⟨z,hz,rfl⟩
    have h4:k=z.k:=by omega
    have h5:n=z.g:=by omega
    subst h4 h5;exact hnt h3
   cases hb:Zr S s.size e with
   | true=>
    have hb':Cp S (e.addr / s.size)=true:=hb;rw[hb'];refine VR H ?_;refine Qj ?_;replace H:=Js [4,1,3,0,2,2,2,2,2] 2 H;show C _ _ _ _ _ _ _ _;refine J3 H ?_;refine⟨_,⟨rfl,i+1,Z++[⟨k,n,e,e.addr⟩],own',mem',T,_,hlt,rfl,by rw[map_append,hZ,htk];rfl,(fun z hz=>?_),hA.big hb rfl,(fun z hz=>?_),rfl,rfl,rfl,rfl,rfl,rfl,rfl,rfl,rfl,Qa (by omega),H⟩,by omega⟩
    ·rcases mem_append.1 hz with hz|hz
     ·exact hents z hz
     ·rw[mem_singleton] at hz;subst hz;exact⟨hk,hreg⟩
    ·rcases mem_append.1 hz with hz|hz
     ·rw[hins _ z hz];exact hat z hz
     ·rw[mem_singleton] at hz;subst hz;rw[Gd,if_pos rfl]
   | false=>
    have hb':Cp S (e.addr / s.size)=false:=hb;rw[hb'];refine V8 H ?_;have hImg:=hA.img hw (by omega) hm hk;have hlen1:e.ws.length+1≤s.size:=dc hw hT.nd hP hk (by rw[hreg];exact hSm) hb;replace H:=Js [8,8,7,0,0,0,0,0,0,0,0] 0 H;refine J7 H ?_;refine Qm (fun ms σ w=>ms=[]∧σ 0=pp p∧σ 1 = .int .i64 r∧σ 2 = .slice (some ⟨bT,0,none⟩) l.length c∧σ 10=pp b0'∧σ 11=pp bt∧σ 13 = .int .i64 s.size∧σ 14 = .map (some bat)∧σ 16=pp b16∧σ 17=pp b17∧σ 20 = .int .i64 ((e.ws.length+1:Nat):Int)∧σ 66 = .slice (some ⟨bT,0,none⟩) l.length c∧σ 67 = .int .i64 l.length∧σ 68 = .int .i64 i∧Q0 w (Qv u.ip u.sp u.bp::Qo u.bp s.lays::ST u.sp s.size mem' own'::Ql b0' u.sp r S::Qk u.tp s.tab::pts b17 (row 78 (YJ e))::pts b16 (row 62 [.int .i64 k,.int .i64 n])::Qz (.slice (some ⟨bT,0,none⟩) l.length c) l::V5 p u::Ql bt u.sp r T::mp kp v1 bat (Vm at' (((k:Nat):Int),((n:Nat):Int)) ((e.addr:Nat):Int))::Qe u.trp s.last s.par::RS u.rp s.rem::mp (ki .i64) Qr u.sm (s.sps.map VN)::star ((p1++p2).map (VO u.sp))::mp (ki .i64) Qr u.mm (s.mns.map V2)::star (s.mns.map VX)::fr)) ?_ ?_
    ·refine J1 H ?_;clear H;intro w H;refine Yo H ?_;refine Jl 3 [6,12] H ?_;refine Jf 4 ?_;refine Jl 5 [6,12] H ?_;refine Jw 6 11 H rfl rfl (V0 (a:=[]) (b:=[]) rfl rfl (call (CW u.ip u.sp u.bp s.size s.lays mem' own' e.addr e.lay e.count k e.ws.length (QO s e) hImg H) ?_)) (Vr H rfl ?_)
     ·clear H;rintro v w ⟨rfl,H⟩;refine EG H ?_;refine By H ?_;clear H;intro b19 w H;refine Xg H ?_;clear H;intro w H;refine AA H ?_;replace H:=Js [1,1,1] 1 H;exact⟨rfl,rfl,rfl,rfl,rfl,rfl,rfl,rfl,rfl,rfl,rfl,rfl,rfl,rfl,rfl,H⟩
     ·clear H;intro b19 w H;replace H:=Js [1,1,1,0] 0 H;refine Jo 6 H ?_;refine Jk rfl rfl (CW u.ip u.sp u.bp s.size s.lays mem' own' e.addr e.lay e.count k e.ws.length (QO s e) hImg H) ?_;clear H;rintro v w ⟨rfl,H⟩;refine EG H ?_;refine Xg H ?_;clear H;intro w H;refine AA H ?_;replace H:=Js [0,0,0] 1 H;exact⟨rfl,rfl,rfl,rfl,rfl,rfl,rfl,rfl,rfl,rfl,rfl,rfl,rfl,rfl,rfl,H⟩
    clear H;rintro ms σ w ⟨rfl,g0,g1,g2,g10,g11,g13,g14,g16,g17,g20,g66,g67,g68,H⟩;rw[Q1 g0,Q1 g1,Q1 g2,Q1 g10,Q1 g11,Q1 g13,Q1 g14,Q1 g16,Q1 g17,Q1 g20,Q1 g66,Q1 g67,Q1 g68];obtain⟨v1',v2',v3',v4'⟩:=hA.bnd hw;replace H:=Js [9,2,0,0,0,0,0,0,0,0,0] 0 H;refine J5 H ?_;refine Jc rfl rfl (Mn bt u.sp r s.size (e.ws.length+1) T mem' own' (by omega) (by omega) (by omega) hA.at1 (by omega) (by rw[hA.ol];exact ho) hsz.1 hsz.2 (by omega) H) ?_;clear H;rintro v w (⟨a2,own2,mem2,T2,rfl,al,H⟩|⟨rfl,hfull,H⟩)
    ·refine HY H ?_;refine Gf H ?_;refine GZ H ?_;refine Jv ?_;refine Q5 rfl (Uf (ek:=kp) (vv:=v1) (v:=((a2:Nat):Int)) (key:=(((k:Nat):Int),((n:Nat):Int))) H rfl rfl rfl Av rfl ?_);clear H;intro w H;refine Q6 ?_;replace H:=Js [8,5,7,4,0,0,0,0,2] 2 H;refine J3 H ?_;refine⟨_,⟨rfl,i+1,Z++[⟨k,n,e,a2⟩],own2,mem2,T2,_,hlt,rfl,by rw[map_append,hZ,htk];rfl,(fun z hz=>?_),hA.small hw (by omega) hmml (z:=⟨k,n,e,a2⟩) hb hlen1 al,(fun z hz=>?_),rfl,rfl,rfl,rfl,rfl,rfl,rfl,rfl,rfl,Qa (by omega),H⟩,by omega⟩
     ·rcases mem_append.1 hz with hz|hz
      ·exact hents z hz
      ·rw[mem_singleton] at hz;subst hz;exact⟨hk,hreg⟩
     ·rcases mem_append.1 hz with hz|hz
      ·rw[Gd,if_neg,hins _ z hz]
       ·exact hat z hz
       ·intro h1;injection h1 with h1 h2
        have h3:(z.k,z.g)∈l.take i:=by rw[← hZ];exact mem_map.2 ⟨z,hz,rfl⟩
        have h4:k=z.k:=by omega
        have h5:n=z.g:=by omega
        subst h4 h5;exact hnt h3
      ·rw[mem_singleton] at hz;subst hz;rw[Gd,if_pos rfl]
    ·refine Bf H ?_;refine VR H ?_;refine YQ H ?_;refine Jc rfl rfl (Ng bt u.sp r T s.size mem' own' (fun x hx=>by obtain⟨y1,y2⟩:=hA.parts x hx;have:=(List.getElem?_eq_some_iff.1 y2).1;rw[hA.ol];omega) hA.nd (fun d hd=>by rw[hA.og,if_pos hd];omega) v1' (by omega) (by rw[hA.ol];exact ho) hsz.2 v3' H) ?_;clear H;rintro v w ⟨rfl,own3,ho3,hg3,H⟩;have hown3:=hA.undo hw ho3 hg3;subst hown3;refine Rz H ?_;replace H:=Js [3,12,7,1,1,0,0,4,4,4,4,4,2] 3 H;replace H:=(Q0.pick (R:=VO u.sp) (x:=((r:Int),b0',S)) hsps).2 H;replace H:=Js [1,1,1,1,1,1,1,1,0,0,0,0] 0 H;replace H:=VV hw (Nx hw hA hm rfl rfl rfl) H
     have hZl:Z.length=i:=by
      have:=congrArg List.length hZ;rw[length_map,length_take] at this;omega
     have hfree:s.own.length - (s.own.filter (· != 0)).length≤Z.length:=hA.full hw fun a ha=>by
      have hz:(e.ws.length+1 - 1) / s.size=0:=Nat.div_eq_of_lt (by omega);rw[hz] at hfull;obtain⟨j,j1,j2,j3⟩:=hfull a (by omega);have:j=a:=by omega
      rw[← this];exact j3
     exact Q3 (.inr ⟨by simp,Jy H rfl fun w' H' => .inr (.inl ⟨rfl,rfl,by omega,H'⟩)⟩)
  ·obtain rfl:i=l.length:=by omega
   rw[take_length] at hZ;exact .inl ⟨rfl,rfl,Z,own',mem',T,at',hZ,hents,hA,hat,rfl,rfl,rfl,rfl,rfl,rfl,rfl,H⟩
 clear H;rintro ms σ w ⟨rfl,Z,own',mem',T,at',hZ,hents,hA,hat,g0,g1,g2,g10,g11,g13,g14,H⟩;rw[Q1 g0,Q1 g1,Q1 g2,Q1 g10,Q1 g11,Q1 g13,Q1 g14]
 have hl64:s.par.length≠64:=by
  unfold Za at hc;intro h;rw[if_neg (fun h1=>by rw[if_pos h1] at hc;cases hc),if_neg (fun h1=>h1 hchk),if_pos h] at hc;cases hc
 have hae:Z2 s.par r=0:=by
  unfold Z2;rw[if_neg (fun h=>by rw[hid] at h;cases h.2),if_neg hl64]
 obtain⟨v1',v2',v3',v4'⟩:=hA.bnd hw;replace H:=Js [9,0,0,0,0,0,0,0,0,0] 0 H;refine J9 H ?_;refine Jc rfl rfl (Mh u.trp s.last s.par r (by omega) (fun x q hx=>(hw.par.2.2 x q hx).2) H) ?_;clear H;rintro w0 w (⟨h1,_,_⟩|⟨_,rfl,H⟩)
 ·exact absurd hae h1
 refine ZE H ?_;refine J9 H ?_;refine Jc rfl rfl (Hr u.sp (s.last+1) (by omega) H) ?_;clear H;rintro w0 w ⟨bs,rfl,H⟩;refine ZE H ?_
 have hup:((s.last+1:Nat):Int)∉s.par.map (·.1):=fun h=>by
  obtain⟨⟨x,q⟩,h1,h2⟩:=mem_map.1 h;have h2:x=((s.last+1:Nat):Int):=h2;have:=(hw.par.2.2 x q h1).2;omega
 have hkn1:((s.last+1:Nat):Int)∉(s.sps.map VN).map (·.1):=by rw[map_map];show _∉s.sps.map fun z=>z.1;rw[hw.skeys];exact hup
 have hkn2:((s.last+1:Nat):Int)∉(s.mns.map V2).map (·.1):=by rw[map_map];show _∉s.mns.map fun z=>z.1;rw[hw.mkeys];exact hup
 replace H:=Js [12,0,0,0,0,0,0,0,0,0,0,0,0,0,0] 0 H;obtain⟨es1,ct1,hmo1,H⟩:=M6 H;replace H:=Js [14,0,0,0,0,0,0,0,0,0,0,0,0,0,0] 0 H;obtain⟨es2,ct2,hmo2,H⟩:=M6 H;refine J1 H ?_;clear H;intro w H;refine Yo H ?_;refine Jl 3 [12,14,15,17] H ?_;refine Dc H ?_;refine Jl 8 [12,14,15,17] H ?_;refine Ja 9 ?_;refine Ja 10 ?_;refine Jo 11 H ?_;refine Jk rfl rfl (Hu H) ?_;clear H;rintro w0 w ⟨bm,rfl,H⟩;replace H:=Js [2,0,0] 0 H;refine Jo 12 H ?_;refine M8 (ek:=ki .i64) (vv:=Qr) (key:=((s.last+1:Nat):Int)) H hmo1 hkn1 rfl rfl VL rfl ?_;clear H;intro w H;refine Ja 13 ?_;refine Jo 14 H ?_;refine M9 H hmo1.born rfl rfl rfl rfl ?_;clear H;intro w H;replace H:=M7 (hmo1.push hkn1 bs) H;replace H:=Js [2,0,0] 0 H;refine Jo 15 H ?_;refine M8 (ek:=ki .i64) (vv:=Qr) (key:=((s.last+1:Nat):Int)) H hmo2 hkn2 rfl rfl VL rfl ?_;clear H;intro w H;refine Ja 16 ?_;refine Jo 17 H ?_;refine M9 H hmo2.born rfl rfl rfl rfl ?_;clear H;intro w H;replace H:=M7 (hmo2.push hkn2 bm) H;refine Jx H ?_;replace H:=Js [3,8,8,0,0,0,0,0,0,0,0] 0 H;refine J5 H ?_
 have hTn:∀ x∈T.parts,1≤x.2∧x.1+x.2≤own'.length:=fun x hx=>by
  obtain⟨y1,y2⟩:=hA.parts x hx;have:=(List.getElem?_eq_some_iff.1 y2).1;rw[hA.ol];omega
 have hJ:=Nk bs bt u.sp (s.last+1) r ⟨[],0,0⟩ T s.size mem' own' (by omega) (by simp) (by omega) (by rw[hA.ol];exact ho) hTn (fun d hd=>by rw[hA.og,if_pos hd];omega) H;refine Jc rfl rfl (hJ) ?_;clear H hJ;rintro w0 w ⟨rfl,own2,hol2,hog2,H⟩;rw[fh hA.at1] at H;refine Q6 ?_;refine Xa H ?_;obtain⟨s1,hs1e⟩:∃ x:CS,x={ s with own:=own2,last:=s.last+1,par:=s.par++[(((s.last+1:Nat):Int),(r:Int))],sps:=s.sps++[(((s.last+1:Nat):Int),bs,T)],mns:=s.mns++[(((s.last+1:Nat):Int),bm,[])] }:=⟨_,rfl⟩;have hol3:own2.length=s.own.length:=hol2.trans hA.ol;have hw1:WF s1:=by rw[hs1e];exact df hw hA (by have:=hw.par.1;omega) hlast hol2 hog2 bs bm
 have hm1:VM s1 mem':=by rw[hs1e];exact Nx hw hA hm hol3 rfl rfl
 have hkeys:(Z.map Pl.k).Nodup:=by
  have h1:=fD hchk;rw[← hZ,map_map] at h1;exact h1
 have hB1:UO s r (s.last+1) [] Z s1 S T:=by rw[hs1e];exact dn hw hT.nd hP hSm hA hents hkeys hol3 (dm hA hol2 hog2) bs bm
 have hsp1:s1.sps=p1++((r:Int),b0',S)::(p2++[(((s.last+1:Nat):Int),bs,T)]):=by rw[hs1e];show s.sps++_=_;rw[hsps];simp
 have hmn1:s1.mns=m1++((r:Int),c0',M)::(m2++[(((s.last+1:Nat):Int),bm,[])]):=by rw[hs1e];show s.mns++_=_;rw[hmns];simp
 have hZl:Z.length=l.length:=by rw[← hZ,length_map]
 have hkMr:Q8 (s.mns.map V2++[(((s.last+1:Nat):Int),bm)]) (r:Int)=some c0':=by
  rw[← XF hkn2,Gd,if_neg (fun h=>hup (by rw[h];exact hrk))];exact hkM'
 have hkMi:Q8 (s.mns.map V2++[(((s.last+1:Nat):Int),bm)]) ((s.last+1:Nat):Int)=some bm:=by rw[← XF hkn2,Gd,if_pos rfl]
 have hown1:s1.own=own2:=by rw[hs1e]
 have htab1:s1.tab=s.tab:=by rw[hs1e]
 replace H:=Js [16,0,0,0,0,0,0,0,0,0,0,0,0,0,0,0,0] 0 H;replace H:Q0 w (Qs c0' M::star ((m1++m2).map VX)::_):=(Q0.pick (R:=VX) (x:=((r:Int),c0',M)) hmns).1 H;replace H:=Js [9,9,9,5,0,5,6,1,2,4,4,4,3,3,2,2,0,0] 0 H;replace H:=Js [0,0,0,0,0,0,0,0,0,0,0,0,0,0,0,0,0] 1 H;refine J7 H ?_;refine Qm (fun ms σ w=>ms=[]∧∃ (s':CS) (mem1:List Nat) (S1 T1:QH) (M1 N1:List Nat),(WF s'∧VM s' mem1∧UO s r (s.last+1) (Z) ([]) s' S1 T1∧s'.sps=p1++((r:Int),b0',S1)::(p2++[(((s.last+1:Nat):Int),bs,T1)])∧s'.mns=m1++((r:Int),c0',M1)::(m2++[(((s.last+1:Nat):Int),bm,N1)]))∧σ 0=pp p∧σ 1 = .int .i64 r∧σ 2 = .slice a l.length c∧σ 10=pp b0'∧σ 13 = .int .i64 s.size∧σ 14 = .map (some bat)∧σ 24 = .int .i64 ((s.last+1:Nat):Int)∧σ 26=pp bs∧Q0 w (Qz (.slice a l.length c) l::Qk u.tp s'.tab::V5 p u::mp (ki .i64) Qr u.mm (s.mns.map V2++[(((s.last+1:Nat):Int),bm)])::Qs c0' M1::Qs bm N1::Ql b0' u.sp r S1::Ql bs u.sp (s.last+1) T1::ST u.sp s.size mem1 s'.own::Qv u.ip u.sp u.bp::Qo u.bp s.lays::mp kp v1 bat at'::Qe u.trp (s.last+1) (s.par++[(((s.last+1:Nat):Int),(r:Int))])::RS u.rp s.rem::mp (ki .i64) Qr u.sm (s.sps.map VN++[(((s.last+1:Nat):Int),bs)])::star ((p1++p2).map (VO u.sp))::star ((m1++m2).map VX)::fr)) ?_ ?_
 ·refine QS ?_;refine Qi (fun ms σ w q=>ms=[]∧∃ (i:Nat) (s':CS) (mem1:List Nat) (S1 T1:QH) (M1 N1:List Nat),i≤l.length∧q=l.length - i∧(WF s'∧VM s' mem1∧UO s r (s.last+1) (Z.take i) (Z.drop i) s' S1 T1∧s'.sps=p1++((r:Int),b0',S1)::(p2++[(((s.last+1:Nat):Int),bs,T1)])∧s'.mns=m1++((r:Int),c0',M1)::(m2++[(((s.last+1:Nat):Int),bm,N1)]))∧σ 0=pp p∧σ 1 = .int .i64 r∧σ 2 = .slice a l.length c∧σ 10=pp b0'∧σ 13 = .int .i64 s.size∧σ 14 = .map (some bat)∧σ 24 = .int .i64 ((s.last+1:Nat):Int)∧σ 26=pp bs∧σ 154 = .slice a l.length c∧σ 155 = .int .i64 l.length∧σ 156 = .int .i64 i∧Q0 w (Qz (.slice a l.length c) l::Qk u.tp s'.tab::V5 p u::mp (ki .i64) Qr u.mm (s.mns.map V2++[(((s.last+1:Nat):Int),bm)])::Qs c0' M1::Qs bm N1::Ql b0' u.sp r S1::Ql bs u.sp (s.last+1) T1::ST u.sp s.size mem1 s'.own::Qv u.ip u.sp u.bp::Qo u.bp s.lays::mp kp v1 bat at'::Qe u.trp (s.last+1) (s.par++[(((s.last+1:Nat):Int),(r:Int))])::RS u.rp s.rem::mp (ki .i64) Qr u.sm (s.sps.map VN++[(((s.last+1:Nat):Int),bs)])::star ((p1++p2).map (VO u.sp))::star ((m1++m2).map VX)::fr)) (m:=l.length) ⟨rfl,0,s1,mem',S,T,M,[],by omega,by omega,⟨hw1,hm1,hB1,hsp1,hmn1⟩,rfl,rfl,rfl,rfl,rfl,rfl,rfl,rfl,rfl,rfl,rfl,by rw[hown1,htab1];exact H⟩ ?_;clear H;rintro ms σ w q ⟨rfl,i,s',mem1,S1,T1,M1,N1,hi,rfl,⟨hw',hm',hB,hsp,hmn⟩,g0,g1,g2,g10,g13,g14,g24,g26,g154,g155,g156,H⟩;rw[Q1 g0,Q1 g1,Q1 g2,Q1 g10,Q1 g13,Q1 g14,Q1 g24,Q1 g26,Q1 g154,Q1 g155,Q1 g156];refine J6 H ?_;refine Qh rfl (fun h=>QR ?_) (fun h=>Qj ?_)
  ·have hlt:i < l.length:=by omega
   have hiZ:i < Z.length:=by omega
   have hzi:=getElem?_eq_getElem hiZ;have htz:Z.take (i+1)=Z.take i++[Z[i]]:=by rw[take_add_one,hzi];rfl
   have hdz:=drop_eq_getElem_cons hiZ;have hzm:=getElem_mem hiZ;have hx:l[i]? = some (Z[i].k,Z[i].g):=by rw[← hZ,getElem?_map,hzi];rfl
   rw[hdz] at hB;generalize Z[i]=z at hzi htz hdz hzm hx hB;have hpend:=hB.pend z mem_cons_self;have hatz:=hat z hzm;obtain⟨zk,zg,ze,za⟩:=z;obtain⟨hk,hzr,hcase⟩:=hpend;have hk:s'.tab[zk]? = some ⟨zg,some ze⟩:=hk;have hzr:ze.region=(r:Int):=hzr;have hatz:Q8 at' ((zk:Int),(zg:Int))=some (za:Int):=hatz;have hx:l[i]? = some (zk,zg):=hx;have hL:Qn s'.tab zk zg=some (zk,ze):=As hk
   have hndp':(s'.par.map (·.1)).Nodup:=by
    rw[hB.par,map_append,nodup_append];refine⟨hT.nd,by simp,fun x hx y hy hxy=>?_⟩;subst hxy;simp at hy;exact hup (by rw[← show x=((s.last+1:Nat):Int) by omega];exact hx)
   obtain⟨bT,sT,rfl,H,hcl⟩:=Qw H (by omega);refine Y9 H ?_;refine Jd ?_;refine Q5 rfl (VH H rfl (Xy hx) rfl ?_);refine VQ H ?_;clear H;intro b29 w H;refine J4 H ?_;clear H;intro w H;refine Q6 ?_;replace H:=Js [1,0] 0 H;replace H:=hcl _ _ H;replace H:Q0 w (Qz (.slice (some ⟨bT,0,none⟩) l.length c) l::pts b29 (row 62 [.int .i64 zk,.int .i64 zg])::_):=H;replace H:=Js [2,1,0] 0 H;refine J7 H ?_;refine Qm (fun ms σ w=>ms=[]∧∃ b30,σ 0=pp p∧σ 1 = .int .i64 r∧σ 2 = .slice (some ⟨bT,0,none⟩) l.length c∧σ 10=pp b0'∧σ 13 = .int .i64 s.size∧σ 14 = .map (some bat)∧σ 24 = .int .i64 ((s.last+1:Nat):Int)∧σ 26=pp bs∧σ 154 = .slice (some ⟨bT,0,none⟩) l.length c∧σ 155 = .int .i64 l.length∧σ 156 = .int .i64 i∧σ 29=pp b29∧σ 30=pp b30∧Q0 w (Qk u.tp s'.tab::pts b30 (row 78 (YJ ze))::pts b29 (row 62 [.int .i64 zk,.int .i64 zg])::Qz (.slice (some ⟨bT,0,none⟩) l.length c) l::V5 p u::mp (ki .i64) Qr u.mm (s.mns.map V2++[(((s.last+1:Nat):Int),bm)])::Qs c0' M1::Qs bm N1::Ql b0' u.sp r S1::Ql bs u.sp (s.last+1) T1::ST u.sp s.size mem1 s'.own::Qv u.ip u.sp u.bp::Qo u.bp s.lays::mp kp v1 bat at'::Qe u.trp (s.last+1) (s.par++[(((s.last+1:Nat):Int),(r:Int))])::RS u.rp s.rem::mp (ki .i64) Qr u.sm (s.sps.map VN++[(((s.last+1:Nat):Int),bs)])::star ((p1++p2).map (VO u.sp))::star ((m1++m2).map VX)::fr)) ?_ ?_
   ·refine J1 H ?_;clear H;intro w H;refine Xc H ?_;refine Jw 5 9 H rfl rfl (V0 (a:=[]) (b:=[]) rfl rfl (call (ZM u.tp s'.tab zk zg H) ?_)) (Vr H rfl ?_)
    ·clear H;rintro v w ⟨rfl,H⟩;rw[hL];refine Xd H ?_;clear H;intro b30 w H;refine Xe H ?_;clear H;intro w H;refine ZH H ?_;replace H:=Js [1,0] 0 H;exact⟨rfl,rfl,b30,rfl,rfl,rfl,rfl,rfl,rfl,rfl,rfl,rfl,rfl,rfl,rfl,rfl,H⟩
    ·clear H;intro b30 w H;refine Jo 5 H ?_;refine Jk rfl rfl (ZM u.tp s'.tab zk zg H.swap) ?_;clear H;rintro v w ⟨rfl,H⟩;rw[hL];refine Xf H ?_;clear H;intro w H;refine ZH H ?_;exact⟨rfl,rfl,b30,rfl,rfl,rfl,rfl,rfl,rfl,rfl,rfl,rfl,rfl,rfl,rfl,rfl,H⟩
   clear H;rintro ms σ w ⟨rfl,b30,g0,g1,g2,g10,g13,g14,g24,g26,g154,g155,g156,g29,g30,H⟩;rw[Q1 g0,Q1 g1,Q1 g2,Q1 g10,Q1 g13,Q1 g14,Q1 g24,Q1 g26,Q1 g154,Q1 g155,Q1 g156,Q1 g29,Q1 g30];refine J1 H ?_;clear H;intro w H;refine Ja 0 ?_;refine VP 1 [] H rfl (Q9.none rfl) rfl (by repeat first|exact .nil _|apply QZ.cons rfl) (by kernel_rfl) ?_;refine XM 2 [] (key:=(((zk:Nat):Int),((zg:Nat):Int))) H rfl (Q9.none rfl) rfl rfl Av (by kernel_rfl) ?_;rw[hatz];refine Jf 3 ?_;refine Jl 4 [] H ?_;refine Ja 5 ?_;refine Jx H ?_;have hSm1:((r:Int),b0',S1)∈s'.sps:=by rw[hsp];simp
   have hTm1:(((s.last+1:Nat):Int),bs,T1)∈s'.sps:=by rw[hsp];simp
   have hneI:((s.last+1:Nat):Int)≠(r:Int):=fun h=>hup (by rw[h];exact hrk);have hown63:s'.own.length≤63:=hw'.own.2;obtain⟨w1',w2',w3',w4',w5',w6'⟩:=Aj hw' hSm1;obtain⟨x1',_,_,_,_,_⟩:=Aj hw' hTm1;have w1':S1.parts.length≤63:=w1';have x1':T1.parts.length≤63:=x1';have w4':(QK S1.parts).Nodup:=w4'
   have hfitZ:ze.addr < 9223372036854775808:=by
    have h1:=(hw'.obj zk zg ze hk).2.1.1;have h2:=Nat.mul_le_mul hw'.own.2 hw'.size.2;unfold QN at h1;omega
   refine J7 H ?_;refine Qm (fun ms σ w=>ms=[]∧∃ (s2:CS) (mem2:List Nat) (S2 T2:QH),(WF s2∧VM s2 mem2∧UO s r (s.last+1) (Z.take i++[⟨zk,zg,ze,za⟩]) (Z.drop (i+1)) s2 S2 T2∧s2.sps=p1++((r:Int),b0',S2)::(p2++[(((s.last+1:Nat):Int),bs,T2)])∧s2.mns=m1++((r:Int),c0',M1.filter (·≠zk))::(m2++[(((s.last+1:Nat):Int),bm,YL N1 zk)])∧s2.tab=s'.tab.set zk ⟨zg,some { ze with region:=((s.last+1:Nat):Int),addr:=za }⟩)∧σ 0=pp p∧σ 1 = .int .i64 r∧σ 2 = .slice (some ⟨bT,0,none⟩) l.length c∧σ 10=pp b0'∧σ 13 = .int .i64 s.size∧σ 14 = .map (some bat)∧σ 24 = .int .i64 ((s.last+1:Nat):Int)∧σ 26=pp bs∧σ 29=pp b29∧σ 154 = .slice (some ⟨bT,0,none⟩) l.length c∧σ 155 = .int .i64 l.length∧σ 156 = .int .i64 i∧Q0 w (Qk u.tp s'.tab::pts b29 (row 62 [.int .i64 zk,.int .i64 zg])::Qz (.slice (some ⟨bT,0,none⟩) l.length c) l::V5 p u::mp (ki .i64) Qr u.mm (s.mns.map V2++[(((s.last+1:Nat):Int),bm)])::Qs c0' M1::Qs bm N1::Ql b0' u.sp r S2::Ql bs u.sp (s.last+1) T2::ST u.sp s.size mem2 s2.own::Qv u.ip u.sp u.bp::Qo u.bp s.lays::mp kp v1 bat at'::Qe u.trp (s.last+1) (s.par++[(((s.last+1:Nat):Int),(r:Int))])::RS u.rp s.rem::mp (ki .i64) Qr u.sm (s.sps.map VN++[(((s.last+1:Nat):Int),bs)])::star ((p1++p2).map (VO u.sp))::star ((m1++m2).map VX)::fr)) ?_ ?_
   ·rcases hcase with ⟨hza,⟨cc,nn⟩,y1,y2,y3⟩|⟨hza,hsit,hbes⟩
    ·have hza:za=ze.addr:=hza;subst hza;have y2:2≤nn:=y2;obtain⟨A,B,hAB⟩:=append_of_mem y1;have hcap:=FY (by rw[← hAB];exact w4':(QK (A++(cc,nn)::B)).Nodup)
     have hfst:∀ y∈A,y.1≠cc:=fun y hy h=>by
      have hy1:=(w2' y (by show y∈S1.parts;rw[hAB];exact mem_append.2 (.inl hy))).1;exact hcap.2 cc (Nat.le_refl _) (by show cc < cc+nn;omega) (Kd (mem_append.2 (.inl hy)) (by omega) (by omega))
     have haddr:ze.addr / s.size=cc:=by
      rcases y3 with ⟨h1,_⟩|⟨_,h1,_⟩
      ·have h1:nn=1:=h1;omega
      ·have h1:ze.addr=cc*s'.size:=h1;rw[hB.size] at h1;rw[h1];exact Nat.mul_div_cancel _ (by omega)
     have hcn:cc+nn≤s'.own.length:=(w2' (cc,nn) y1).2;rw[show (((ze.addr:Nat):Int) == ((ze.addr:Nat):Int))=true from beq_self_eq_true _];refine VE rfl ?_;replace H:=Js [8,8,8,0,0,0,0,0,0,0,0,0,0] 0 H;refine J9 H ?_
     refine UV (v := .int .i64 ((ze.addr / s.size:Nat):Int)) (by
      show (if IntKind.i64=IntKind.i64 then (if ((s.size:Nat):Int)=0 then none else some (Value.int IntKind.i64 (IntKind.i64.wrap (Int.tdiv ((ze.addr:Nat):Int) ((s.size:Nat):Int))))) else none)=_;rw[if_pos rfl,if_neg (by omega),WA hfitZ]) rfl ?_
     rw[haddr];have hHand:=fT b0' bs u.sp r (s.last+1) S1 T1 s.size mem1 s'.own hAB hfst y2 (by omega) (by omega) (by omega) hown63 hcn (fun d h1 h2=>w5' d (Kd y1 h1 h2)) H;refine Jc rfl rfl (hHand) ?_;clear H hHand;rintro w0 w ⟨rfl,H⟩;refine Q6 ?_;replace H:=Js [3,4,4,4,4,4,4,0,0,0,1,1] 1 H;have hw2:=dT (id:=s.last+1) hw' hB.part hk hzr hneI hndp' hsp hmn hAB y2 y3;refine⟨rfl,rfl,{ s' with own:=V4 s'.own cc nn (s.last+1),tab:=s'.tab.set zk ⟨zg,some { ze with region:=((s.last+1:Nat):Int),addr:=ze.addr }⟩,sps:=p1++((r:Int),b0',{ S1 with parts:=A++B })::(p2++[(((s.last+1:Nat):Int),bs,{ T1 with parts:=T1.parts++[(cc,nn)] })]),mns:=m1++((r:Int),c0',M1.filter (·≠zk))::(m2++[(((s.last+1:Nat):Int),bm,YL N1 zk)]) },mem1,_,_,⟨hw2,?_,?_,rfl,rfl,rfl⟩,rfl,rfl,rfl,rfl,rfl,rfl,rfl,rfl,rfl,rfl,rfl,rfl,H⟩
     ·exact Nu (id:=((s.last+1:Nat):Int)) (a:=ze.addr) hw' hm' hk (fun j n f hj hjk=>by
       show QN f≤ze.addr∨ze.addr+(ze.ws.length+1)≤f.addr
       rcases hw'.apart j zk n zg f ze hj hjk hk with h1|h1
       ·exact .inl h1
       ·have h1:ze.addr+1+ze.ws.length≤f.addr:=h1;right;omega) rfl (fun _ _=>rfl) (fun _ _=>rfl) (Vu hcn) rfl rfl
     ·exact hB.hand hw' hndp' rfl hsp hAB y2 y3 rfl (Vu hcn) rfl rfl rfl rfl rfl rfl
    ·have hza:za≠ze.addr:=hza;rw[show (((za:Nat):Int) == ((ze.addr:Nat):Int))=false by rw[beq_eq_false_iff_ne];omega];refine VY rfl ?_;have hfree:∀ (j n:Nat) (f:QQ),j≠zk→s'.tab[j]? = some ⟨n,some f⟩→QN f≤za∨za+(ze.ws.length+1)≤f.addr:=fun j n f _ hj=>hbes j n f hj;have hw2:=dP hw' hk hzr hneI hndp' hsp hmn hsit hfree;have hkl:=(List.getElem?_eq_some_iff.1 hk).1;have hlies:Zn s'.size s'.own { ze with region:=((s.last+1:Nat):Int),addr:=za }:=(hw2.obj zk zg _ (getElem?_set_self hkl)).2.1;have hown:=NK hlies;have hml1:=hm'.len
     have hto:za+(ze.ws.length+1)≤mem1.length:=by
      have h1:za+1+ze.ws.length≤s'.own.length*s'.size:=hlies.1;omega
     have hfr:ze.addr+(ze.ws.length+1)≤mem1.length:=by
      have h1:ze.addr+1+ze.ws.length≤s'.own.length*s'.size:=(hw'.obj zk zg ze hk).2.1.1;omega
     have hImg:=KM hw' hm' hk;rw[hB.lays,hB.size] at hImg;rw[hB.size] at hown;replace H:=Js [11,11,10,0,0,0,0,0,0,0,0,0,0] 0 H;refine J1 H ?_;clear H;intro w H;refine Bo H ?_;refine Ja 4 ?_;refine VP 5 [9] H rfl (Q9.none rfl) rfl (by repeat first|exact .nil _|apply QZ.cons rfl) (by kernel_rfl) ?_;refine XM 6 [9] (key:=(((zk:Nat):Int),((zg:Nat):Int))) H rfl (Q9.none rfl) rfl rfl Av (by kernel_rfl) ?_;rw[hatz];refine Jf 7 ?_;refine Jl 8 [9] H ?_;have hMove:=fg u.ip u.sp u.bp s.size s.lays mem1 s'.own za ze.addr ze.lay ze.count zk ze.ws.length (QO s' ze) hImg hto hown H;refine Jo 9 H ?_;refine Jk rfl rfl (hMove) ?_;clear H hMove;rintro w0 w ⟨rfl,H⟩;refine Jx H ?_;replace H:=Js [3,4,4,4,4,4,4,4,4,2,0,0] 1 H;refine⟨rfl,rfl,{ s' with tab:=s'.tab.set zk ⟨zg,some { ze with region:=((s.last+1:Nat):Int),addr:=za }⟩,mns:=m1++((r:Int),c0',M1.filter (·≠zk))::(m2++[(((s.last+1:Nat):Int),bm,YL N1 zk)]) },Uw mem1 za ze.addr (ze.ws.length+1),S1,T1,⟨hw2,?_,?_,hsp,rfl,rfl⟩,rfl,rfl,rfl,rfl,rfl,rfl,rfl,rfl,rfl,rfl,rfl,rfl,H⟩
     ·exact Nu (id:=((s.last+1:Nat):Int)) (a:=za) hw' hm' hk hfree (Od hto hfr) (fun j hj=>fc hto hfr hj) (fun j hj=>fe hto hfr hj) rfl rfl rfl
     ·exact hB.shift hza hTm1 rfl rfl rfl rfl rfl rfl rfl rfl
   clear H;rintro ms σ w ⟨rfl,s2,mem2,S2,T2,⟨hw2,hm2,hB2,hsp2,hmn2,htab2⟩,g0,g1,g2,g10,g13,g14,g24,g26,g29,g154,g155,g156,H⟩;rw[Q1 g0,Q1 g1,Q1 g2,Q1 g10,Q1 g13,Q1 g14,Q1 g24,Q1 g26,Q1 g29,Q1 g154,Q1 g155,Q1 g156];have hMm':=hw'.mine ((r:Int),c0',M1) (by rw[hmn];simp);have hNm':=hw'.mine (((s.last+1:Nat):Int),bm,N1) (by rw[hmn];simp)
   have hbl:∀ L:List Nat,L.Pairwise (· < ·)→(∀ y∈L,y < s'.tab.length)→L.length≤64:=fun L h1 h2=>by
    have:=RH L 0 64 (fun y hy=>⟨Nat.zero_le _,by have:=h2 y hy;have:=hw'.slots.2;omega⟩) h1;omega
   have hM64:M1.length≤64:=hbl M1 hMm'.1 fun y hy=>by
    obtain⟨g,f,h3,_⟩:=(hMm'.2 y).1 hy;exact(List.getElem?_eq_some_iff.1 h3).1
   have hN64:N1.length≤64:=hbl N1 hNm'.1 fun y hy=>by
    obtain⟨g,f,h3,_⟩:=(hNm'.2 y).1 hy;exact(List.getElem?_eq_some_iff.1 h3).1
   have hkN:zk∉N1:=fun h=>by
    obtain⟨g,f,h3,h4⟩:=(hNm'.2 zk).1 h;rw[hk] at h3;injection h3 with h3
    injection h3 with _ h3
    injection h3 with h3
    subst h3;exact hneI (h4.symm.trans hzr)
   replace H:=Js [0,2,2,2,2,0,0] 0 H;refine J1 H ?_;clear H;intro w H;refine Ja 0 ?_;refine Jf 1 ?_;refine Jl 2 [7] H ?_;refine Ja 3 ?_;refine Ja 4 ?_;refine HK H ?_;refine XM 6 [7] (key:=(((zk:Nat):Int),((zg:Nat):Int))) H rfl (Q9.none rfl) rfl rfl Av (by kernel_rfl) ?_;rw[hatz];have hHome:=OT p u s'.tab (s.mns.map V2++[(((s.last+1:Nat):Int),bm)]) zk zg ze hk ((s.last+1:Nat):Int) za c0' bm M1 N1 (by rw[hzr];exact hkMr) hkMi hMm'.1 (by omega) hNm'.1 (by omega) hkN H;refine Jo 7 H ?_;refine Jk rfl rfl (hHome) ?_;clear H hHome;rintro w0 w ⟨rfl,H⟩;rw[← htab2] at H;refine DE H ?_;replace H:=Js [6,0,0,0,0,0,1,1,1,1,1] 1 H;exact⟨_,⟨rfl,i+1,s2,mem2,S2,T2,M1.filter (·≠zk),YL N1 zk,hlt,rfl,⟨hw2,hm2,by rw[htz];exact hB2,hsp2,hmn2⟩,rfl,rfl,rfl,rfl,rfl,rfl,rfl,rfl,rfl,rfl,Qa (by omega),H⟩,by omega⟩
  ·obtain rfl:i=l.length:=by omega
   rw[← hZl,take_length,drop_length] at hB;exact⟨rfl,rfl,s',mem1,S1,T1,M1,N1,⟨hw',hm',hB,hsp,hmn⟩,rfl,rfl,rfl,rfl,rfl,rfl,rfl,rfl,H⟩
 clear H;rintro ms σ w ⟨rfl,s',mem1,S1,T1,M1,N1,⟨hw',hm',hB,hsp,hmn⟩,g0,g1,g2,g10,g13,g14,g24,g26,H⟩;rw[Q1 g0,Q1 g1,Q1 g2,Q1 g10,Q1 g13,Q1 g14,Q1 g24,Q1 g26];replace H:=Js [5,15,4,5,12,4,0,0,0,0,0,0,0,1,1,1] 1 H;replace H:=(Q0.pick (R:=VX) (x:=(((s.last+1:Nat):Int),bm,N1)) (gs:=m1++(m2++[(((s.last+1:Nat):Int),bm,N1)])) (g1:=m1++m2) (g2:=[]) (by simp)).2 (by rw[append_nil];exact H);replace H:=Js [1,0] 0 H;replace H:=(Q0.pick (R:=VX) (x:=((r:Int),c0',M1)) hmn).2 H;replace H:=Js [1,1,1,0] 0 H;replace H:=(Q0.pick (R:=VO u.sp) (x:=(((s.last+1:Nat):Int),bs,T1)) (gs:=p1++(p2++[(((s.last+1:Nat):Int),bs,T1)])) (g1:=p1++p2) (g2:=[]) (by simp)).2 (by rw[append_nil];exact H);replace H:=Js [1,0] 0 H;replace H:=(Q0.pick (R:=VO u.sp) (x:=((r:Int),b0',S1)) hsp).2 H;have hk1:s.mns.map V2++[(((s.last+1:Nat):Int),bm)]=s'.mns.map V2:=by rw[hmn,hmns];simp
 have hk2:s.sps.map VN++[(((s.last+1:Nat):Int),bs)]=s'.sps.map VN:=by rw[hsp,hsps];simp
 rw[hk1,hk2,← hB.par,← hB.last,← hB.rem,← hB.lays,← hB.size] at H;have hnd:=Ah (H.pull 10);replace H:=Js [4,6,6,5,3,4,4,4,0,2,0,0] 0 H;replace H:=VV hw' hm' H;refine Vi H ?_;refine GX H ?_;clear H;intro bS w H;replace H:Q0 w (pts bS (row 3 (Qc [(r:Int),((s.last+1:Nat):Int)]++[]))::QU p { s' with rem:=s'.rem }::Qz (.slice a l.length c) l::fr):=H;replace H:=ZZ (E:=3) (k:=1) (len:=2) (cap:=2) (c:=Qc [(r:Int),((s.last+1:Nat):Int)]) (spare:=[]) rfl ⟨by decide,by decide⟩ (by decide) H
 have hrec:=Oa p s' s'.rem hnd _ [(r:Int),((s.last+1:Nat):Int)] (fun x hx=>by
  rw[hmn]
  rcases mem_cons.1 hx with rfl|hx
  ·simp
  ·rw[mem_singleton] at hx;subst hx;simp) (by simp) H
 refine Jc rfl rfl (hrec) ?_;clear H hrec;rintro w0 w ⟨rfl,D,R',hD,hN,H⟩;refine Rz H ?_;refine Q3 (Jy H rfl fun w' H' => .inr (.inr ⟨rfl,rfl,Z,{ s' with rem:=R' },hZ,⟨hB.size,hB.own,hB.lays,hB.last,hB.par,hB.tabl,hB.tab,hents,hkeys,⟨D,fun x=>?_,⟨hN.nd,hN.on,fun x hx=>by rw[hN.off x hx,hB.rem]⟩⟩,hB.part,fun hZ0=>hB.zero (by rw[hZ0];rfl)⟩,H'⟩));rw[hD x];constructor
 ·rintro⟨k,g,e,h1,h2,h3⟩;refine⟨k,g,e,⟨g,e,h1,?_⟩,h1,h3⟩
  rcases mem_cons.1 h2 with h2|h2
  ·exact .inl h2
  ·exact .inr (mem_singleton.1 h2)
 ·rintro⟨k,g,e,⟨g',e',h1,h2⟩,h3,h4⟩;refine⟨k,g,e,h3,?_,h4⟩;have h1:=h1.symm.trans h3;injection h1 with h1
  injection h1 with _ h1
  injection h1 with h1
  rw[← h1]
  rcases h2 with h2|h2
  ·rw[h2];exact mem_cons_self
  ·rw[h2];exact mem_cons_of_mem _ (mem_singleton.2 rfl)
theorem Iy (a b c:Int):veq [.int .i64 a,.int .i64 b,.int .i64 c] [.int .i64 a,.int .i64 b,.int .i64 c]=true:=by
 simp[veq]
theorem Cq (xs ys:List Value):(if Y8 BinOp.eql=true then veq xs ys else !veq xs ys)=veq xs ys:=if_pos rfl
theorem Og [Q4] (p c mo:Nat) (a:Option Addr) (cap:Nat) (told:List (Nat×Nat)) (kd t:Nat) (hkd:kd≤2) (ht:kd=2→t < told.length) {w:World} {fr:List Q2} (H:Q0 w (Vl p c mo (.slice a told.length cap)::Qz (.slice a told.length cap) told::fr)) :
  Calls Tryz.prog 156 #[pp p,ZI (Z9 told kd t),.int .i64 kd,.int .i64 t] w (ret fun v w'=>v = .bool true∧Q0 w' (Vl p c mo (.slice a told.length cap)::Qz (.slice a told.length cap) told::fr)):=by
 by_cases h2:kd=2
 ·subst h2;have hlt:=ht rfl;have hn:=getElem?_eq_getElem hlt;generalize told[t]=xy at hn;obtain⟨x,y⟩:=xy;have hln:Z9 told 2 t = .obj x y:=by unfold Z9;rw[if_pos rfl,hn];rfl
  rw[hln];refine QV Tryz.func156 rfl (by kernel_rfl) ?_;refine J8 H ?_;clear H;intro b5 w H;refine YI H ?_;refine VR H ?_;replace H:=Js [2,0,0] 0 H;obtain⟨bT,sT,rfl,H,hcl⟩:=Qw H (by omega);refine J1 H ?_;clear H;intro w H;refine W8 H ?_;refine Jl 4 [] H ?_;refine Kp 5 rfl (Q9.none rfl) rfl (by kernel_rfl) ?_;refine Ja 6 ?_;rw[show decide ((t:Int) < (told.length:Int))=true from decide_eq_true (by omega)];refine Ja 7 ?_;refine VP 8 [] H rfl (Q9.of rfl rfl rfl) rfl (by repeat first|exact .nil _|apply QZ.cons rfl) (by kernel_rfl) ?_;refine Bb H ?_;refine Jl 12 [] H ?_;refine Ja 13 ?_;refine Ji 14 ?_;refine VP 15 [] H rfl (Q9.of rfl rfl rfl) rfl (Xy hn) (by kernel_rfl) ?_;refine GY 16 rfl (Q9.of rfl rfl rfl) rfl (by kernel_rfl) ?_;refine Lz 17 rfl (Q9.of rfl rfl rfl) rfl rfl rfl rfl (.inl rfl) (by kernel_rfl) ?_;rw[Cq,Iy];refine Ja 18 ?_;refine Ja 19 ?_;refine Jx H ?_;replace H:=hcl _ _ H;replace H:=Js [2,0] 1 H;exact Q3 (Jy H rfl fun w' H'=>⟨rfl,H'⟩)
 ·have hln:ZI (Z9 told kd t) = .agg #[.int .i64 kd,.int .i64 0,.int .i64 0]:=by
   unfold Z9;rw[if_neg h2];by_cases h1:kd=1
   ·subst h1;rfl
   ·obtain rfl:kd=0:=by omega
    rfl
  rw[hln];refine QV Tryz.func156 rfl (by kernel_rfl) ?_;refine J8 H ?_;clear H;intro b5 w H;refine YI H ?_;rw[show ((kd:Int) == 2)=false by simp;omega];refine V8 H ?_;refine AY H ?_;refine Gu H ?_;refine Q5 rfl (Wv rfl rfl rfl rfl (.inl rfl) rfl ?_);refine J0 H ?_;have hv:=Iy kd 0 0;exact Q3 (Jy H.drop rfl fun w' H'=>⟨congrArg Value.bool ((Cq _ _).trans hv),H'⟩)
def fj (own:List Nat) (n:Nat):Prop:=∃ a,a+n≤own.length∧∀ i,a≤i→i < a+n→own.getD i 0=0
theorem Oh [Q4] (p c mo:Nat) (v:Value) (s:CS) {w:World} {fr:List Q2} (H:Q0 w (Vl p c mo v::QU c s::fr)) :
  Calls Tryz.prog 214 #[pp p] w (ret fun x w'=>∃ b:Nat,x = .int .i64 b∧fj s.own b∧Q0 w' (Vl p c mo v::QU c s::fr)):=by
 obtain⟨q,mem,hw,hm,H⟩:=Vv H.swap;have hol:=hw.own.2;refine QV Tryz.func214 rfl (by kernel_rfl) ?_;refine VJ H ?_;refine J3 H ?_;replace H:=Js [3,0,0,0,0,0,0,0,0,0,0,0] 0 H;refine EH H ?_;refine Jc rfl rfl (MO q.sp s.size mem s.own H) ?_;clear H;rintro v w ⟨rfl,H⟩;refine YK H ?_;refine QS ?_
 refine Qi (fun ms σ w n=>ms=[]∧∃ j row best:Nat,j≤s.own.length∧n=s.own.length - j∧row≤j∧best≤j∧(∀ i,j - row≤i→i < j→s.own.getD i 0=0)∧(∃ a,a+best≤j∧∀ i,a≤i→i < a+best→s.own.getD i 0=0)∧σ 0=pp p∧σ 3 = .int .i64 best∧σ 4 = .int .i64 row∧σ 13 = .int .i64 s.own.length∧σ 14 = .int .i64 j ∧
  Q0 w (ST q.sp s.size mem s.own::V5 c q::Qv q.ip q.sp q.bp::Qo q.bp s.lays::Qk q.tp s.tab::Qe q.trp s.last s.par::RS q.rp s.rem::mp (ki .i64) Qr q.sm (s.sps.map VN)::star (s.sps.map (VO q.sp))::mp (ki .i64) Qr q.mm (s.mns.map V2)::star (s.mns.map VX)::Vl p c mo v::fr)) (m:=s.own.length) ⟨rfl,0,0,0,by omega,rfl,by omega,by omega,by omega,⟨0,by omega,by omega⟩,rfl,rfl,rfl,rfl,rfl,H⟩ ?_
 clear H;rintro ms σ w n ⟨rfl,j,row,best,hj,rfl,hrj,hbj,hrow,hbest,g0,g3,g4,g13,g14,H⟩;rw[Q1 g0,Q1 g3,Q1 g4,Q1 g13,Q1 g14];refine J6 H ?_;refine Qh rfl (fun h=>QR ?_) (fun h=>Qj ?_)
 ·have hlt:j < s.own.length:=by omega
  refine R7 H ?_;refine VG H ?_;rw[Qa (by omega)];refine J9 H ?_;refine R6 H ?_;refine Jc rfl rfl (TX q.sp s.size mem s.own j H hlt) ?_;clear H;rintro v w ⟨rfl,H⟩;refine J0 H ?_;by_cases h0:s.own.getD j 0=0
  ·rw[show (((s.own.getD j 0:Nat):Int) != 0)=false by rw[h0];rfl];refine AG H ?_;refine A3 H ?_;rw[show (if ((row+1:Nat):Int) > ((best:Nat):Int) then ((row+1:Nat):Int) else ((best:Nat):Int))=((max best (row+1):Nat):Int) by split <;> omega];refine YI H ?_;rw[Qa (by omega)];refine⟨_,⟨rfl,j+1,row+1,max best (row+1),hlt,rfl,by omega,by omega,?_,?_,rfl,rfl,rfl,rfl,rfl,H⟩,by omega⟩
   ·intro i h1 h2;by_cases hij:i=j
    ·rw[hij];exact h0
    ·exact hrow i (by omega) (by omega)
   ·by_cases hb:row+1≤best
    ·obtain⟨a,h1,h2⟩:=hbest;rw[Nat.max_eq_left hb];exact⟨a,by omega,h2⟩
    ·rw[Nat.max_eq_right (by omega)];refine⟨j - row,by omega,fun i h1 h2=>?_⟩;by_cases hij:i=j
     ·rw[hij];exact h0
     ·exact hrow i (by omega) (by omega)
  ·rw[show (((s.own.getD j 0:Nat):Int) != 0)=true by rw[bne_iff_ne];omega];refine YR H ?_;refine J5 H ?_;refine A3 H ?_;rw[show (if (0:Int) > ((best:Nat):Int) then (0:Int) else ((best:Nat):Int))=((best:Nat):Int) by split <;> omega];refine YI H ?_;rw[Qa (by omega)];obtain⟨a,h1,h2⟩:=hbest;exact⟨_,⟨rfl,j+1,0,best,hlt,rfl,by omega,by omega,by omega,⟨a,by omega,h2⟩,rfl,rfl,rfl,rfl,rfl,H⟩,by omega⟩
 ·obtain⟨a,h1,h2⟩:=hbest;refine J3 H ?_;replace H:=Js [1,1,1,0,0,0,0,0,0,0,0,0] 0 H;exact Q3 (Jy ((VV hw hm H).swap) rfl fun w' H'=>⟨best,rfl,⟨a,by omega,h2⟩,H'⟩)
theorem Oi (a b c d:Int) (e:Bool):veq [.int .i64 a,.int .i64 b,.int .i64 c,.int .i64 d,.bool e] [.int .i64 a,.int .i64 b,.int .i64 c,.int .i64 d,.bool e]=true:=by
 simp[veq]
theorem fk [Q4] (p c mo:Nat) (v:Value) (s:CS) (m:MS) (told:List (Nat×Nat)) (R:RT s m told) (i g o:Int) (P:Vd s m told i g o) {w:World} {fr:List Q2} (H:Q0 w (Vl p c mo v::QU c s::Qp mo m::fr)) :
  Calls Tryz.prog 164 #[pp p,ZL i g,.int .i64 o] w (ret fun x w'=>x = .bool true∧Q0 w' (Vl p c mo v::QU c s::Qp mo m::fr)):=by
 have hT:=fun (w:World) (fr:List Q2) (H:Q0 w (QU c s::fr))=>CN c s i g H;rw[eN R P] at hT
 obtain⟨a1,a2,a3,a4,a5,a6,hsh⟩:∃ a1 a2 a3 a4 a5 a6,OZ (V1 m o) = .tuple #[.agg #[.int .i64 a1,.int .i64 a2,.int .i64 a3,.int .i64 a4,.bool a5],.int .i64 a6]:=by
  cases V1 m o <;> exact⟨_,_,_,_,_,_,rfl⟩
 refine QV Tryz.func164 rfl (by kernel_rfl) ?_;refine J8 H ?_;clear H;intro b4 w H;refine J0 H ?_;replace H:=Js [2,0,0,0] 0 H;refine J7 H ?_;refine Qm (fun ms σ w=>ms=[]∧∃ b7,σ 0=pp p∧σ 2 = .int .i64 o∧σ 7=pp b7∧σ 8 = .int .i64 a6∧Q0 w (pts b7 (row 64 [.int .i64 a1,.int .i64 a2,.int .i64 a3,.int .i64 a4,.bool a5])::Vl p c mo v::QU c s::Qp mo m::fr)) ?_ ?_
 ·refine J1 H ?_;clear H;intro w H;refine Xc H ?_;refine Jw 5 9 H rfl rfl (V0 (a:=[]) (b:=[]) rfl rfl (call (hT _ _ H) ?_)) (Vr H rfl ?_)
  ·clear H;rintro v w ⟨rfl,H⟩;rw[hsh];refine Xd H ?_;clear H;intro b7 w H;refine Xe H ?_;clear H;intro w H;refine ZH H ?_;replace H:=Js [0,2,0,1] 1 H;exact⟨rfl,rfl,b7,rfl,rfl,rfl,rfl,H⟩
  ·clear H;intro b7 w H;refine Jo 5 H ?_;refine Jk rfl rfl (hT _ _ H.swap) ?_;clear H;rintro v w ⟨rfl,H⟩;rw[hsh];refine Xf H ?_;clear H;intro w H;refine ZH H ?_;replace H:=Js [1,2,0,1] 1 H;exact⟨rfl,rfl,b7,rfl,rfl,rfl,rfl,H⟩
 clear H;rintro ms σ w ⟨rfl,b7,g0,g2,g7,g8,H⟩;rw[Q1 g0,Q1 g2,Q1 g7,Q1 g8];replace H:=Js [3,0,0,0] 0 H;refine J9 H ?_;refine Jc rfl rfl (Am mo m o H) ?_;clear H;rintro v w ⟨rfl,H⟩
 cases hv:V1 m o with
 | none=>
  rw[hv] at hsh;cases hsh;refine Un H ?_;refine Vi H ?_;refine C6 H ?_;refine QT rfl rfl rfl (Wv rfl rfl rfl rfl (.inl rfl) rfl ?_);refine J2 H ?_;replace H:=Js [2,2,0] 1 H;exact Q3 (Jy H rfl fun w' H'=>⟨congrArg Value.bool ((Cq _ _).trans (Oi 0 0 0 0 false)),H'⟩)
 | some nx=>
  obtain⟨n,x⟩:=nx;rw[hv] at hsh;cases hsh;obtain⟨rfl,hx,hh,hg⟩:=Xt hv;have hol:=(List.getElem?_eq_some_iff.1 hx).1;obtain⟨t,lc,aL,cL,bO,cO,sO,ptrs,q,vw,vk,vt,rest,hm,h2,hp,H,hclose⟩:=GN H hx;have hm':=RM hx hm;obtain⟨aw,cw,rfl⟩:=QD H.drop (Yz _) (by decide);refine Vo H ?_;refine J9 H ?_;refine R6 H ?_;refine Jd ?_;refine Q5 rfl (QW H rfl hp rfl ?_);refine YK H ?_;refine Wr H mixed ?_;clear H;intro w H;refine Ja 0 ?_;refine Ja 1 ?_;refine Ja 2 ?_;refine VP 3 [] H rfl (Q9.of rfl rfl rfl) rfl (by repeat first|exact .nil _|apply QZ.cons rfl) (by kernel_rfl) ?_;refine Dv H ?_;refine EW H ?_;refine Jl 11 [] H ?_;refine KC H ?_;refine Jf 14 ?_;refine Jl 15 [] H ?_;refine Ja 16 ?_;refine Ja 17 ?_;refine Jf 18 ?_;refine Jl 19 [] H ?_;refine Kp 20 rfl (Q9.of rfl rfl rfl) rfl (by kernel_rfl) ?_;refine Ja 21 ?_;refine Ja 22 ?_;refine Jf 23 ?_;refine Jl 24 [] H ?_;refine GY 25 rfl (Q9.of rfl rfl rfl) rfl (by kernel_rfl) ?_;refine Lz 26 rfl (Q9.of rfl rfl rfl) rfl rfl rfl rfl (.inl rfl) (by kernel_rfl) ?_;rw[Cq,Oi];refine Ja 27 ?_;refine Ja 28 ?_;refine Jx H ?_;replace H:=U7 hx (hclose _ _ _ hm' H);replace H:=Js [2,2,0] 1 H;exact Q3 (Jy H rfl fun w' H'=>⟨rfl,H'⟩)
end Go.Proofs.YtbnnnljagkjpiaaGreatDoor
namespace Go.SL
open List
section
variable {P:Program} {n:Nat} {r:Option Nat} {ops:Array Oper} {σ:QX} {w:World}
variable {ivs:List (List Nat×(World→Prop))} {T:QX→World→Prop} {f:Nat} {L:Array Bool}
variable {u:TypeId} {p:String} {af:Array Edge} {g:Option (Nat×Bool)} {d:Option Tmp} {x y:Operand}
end
end Go.SL
namespace Go.Proofs.YtbnnnljagkjpiaaGreatDoor
open List
open Go.SL
def Vf (ts:List QF):List (Nat×Bool):=ts.map fun t=>(t.gen,t.ent.isSome)
theorem Cr {ts:List QF} {k g:Nat} {e e':QQ} (h:ts[k]? = some ⟨g,some e⟩):Vf (ts.set k ⟨g,some e'⟩)=Vf ts:=by
 unfold Vf;rw[map_set];apply ext_getElem?;intro i;rw[getElem?_set];split
 ·rename_i hi;subst hi;have:=(List.getElem?_eq_some_iff.1 h).1;rw[getElem?_map,h];simp[this]
 ·rfl
structure Cs (s:CS) (m:MS) (told:List (Nat×Nat)) (s':CS) (m':MS) (told':List (Nat×Nat)):Prop where
 P:m'.P.length≤m.P.length+1
 objs:m'.objs.length≤m.objs.length+1
 tab:(told'=told∧Vf s'.tab=Vf s.tab)∨∃ k g0:Nat,told'=told++[(k,g0+1)]∧s.tab[k]? = some ⟨g0,none⟩∧(∀ (j:Nat) (t:QF),j < k→s.tab[j]? = some t→busy t=true)∧Vf s'.tab=(Vf s.tab).set k (g0+1,true)
 inv:Inv s→Inv s'
 tree:Y3 s.par→Y3 s'.par:=by exact id
 part:Vp s→Vp s':=by exact id
def Iz (s:CS) (region id count:Int) (i g e:Nat) (s':CS):Prop:=
 (ZO s region id count≠0∧i=0∧g=0∧e=ZO s region id count∧s'=s) ∨
 (ZO s region id count=0∧(∀ t∈s.tab,busy t=true)∧i=0∧g=0∧e=12∧s'=s) ∨
 (ZO s region id count=0∧(∀ a,a+(YW s id count / s.size+1)≤s.own.length→∃ i,a≤i∧i < a+(YW s id count / s.size+1)∧s.own.getD i 0≠0)∧i=0∧g=0∧e=11∧s'=s) ∨
 (ZO s region id count = 0 ∧ e = 0 ∧ ∃ g0 addr, s.tab[i]? = some ⟨g0, none⟩ ∧ g0 ≤ 254 ∧ (∀ (j : Nat) (t : QF), j < i → s.tab[j]? = some t → busy t = true) ∧ g = g0 + 1 ∧
  s'.size=s.size∧s'.lays=s.lays∧s'.last=s.last∧s'.par=s.par∧s'.rem=s.rem∧s'.tab=s.tab.set i ⟨g0+1,some ⟨addr,region,true,false,id.toNat,count.toNat,List.replicate (YW s id count) 0⟩⟩∧F6 s.own s'.own (YW s id count / s.size+1)∧(Vp s→Vp s'))
theorem fl (x y:Int×Int):(if Y8 BinOp.eql=true then decide (x=y) else !decide (x=y))=decide (x=y):=if_pos rfl
theorem FI [Q4] (p:Nat) (s:CS) (region id count:Int) {w:World} {fr:List Q2} [hT:YX 0 Lib.deBruijn64tab fr] (H:Q0 w (QU p s::fr)) :
  Calls Tryz.prog 23 #[pp p,.int .i64 region,.int .i64 id,.int .i64 count] w (ret fun v w'=>∃ i g e s',v = .tuple #[XV i g,.int .i64 (e:Nat)]∧Iz s region id count i g e s'∧Q0 w' (QU p s'::fr)):=by
 refine call (bM p s region id count H) ?_;rintro v w (⟨h1,rfl,H⟩|⟨h1,h2,rfl,H⟩|⟨h1,h2,rfl,H⟩|⟨h1,k,g0,addr,s',h2,h3,h4,rfl,h5,h6,h7,h8,h9,h10,h11,h12,H⟩)
 ·exact⟨0,0,ZO s region id count,s,rfl,.inl ⟨h1,rfl,rfl,rfl,rfl⟩,H⟩
 ·exact⟨0,0,12,s,rfl,.inr (.inl ⟨h1,h2,rfl,rfl,rfl,rfl⟩),H⟩
 ·exact⟨0,0,11,s,rfl,.inr (.inr (.inl ⟨h1,h2,rfl,rfl,rfl,rfl⟩)),H⟩
 ·exact⟨k,g0+1,0,s',rfl,.inr (.inr (.inr ⟨h1,rfl,g0,addr,h2,h3,h4,rfl,h5,h6,h7,h8,h9,h10,h11,h12⟩)),H⟩
theorem fm [Q4] (p c mo:Nat) (a:Option Addr) (cap:Nat) (s:CS) (m:MS) (told:List (Nat×Nat)) (R:Rel s m told) (hfew:m.objs.length < 100000) (k A B C X i g:Int) (kX:IntKind) (vW:Value) (raw:Bool) (hvW:vW.oneCell'=true) {w:World} {fr:List Q2} [hT:YX 0 Lib.deBruijn64tab fr]
  (H:Q0 w (Vl p c mo (.slice a told.length cap)::QU c s::Qp mo m::Qz (.slice a told.length cap) told::fr)) :
  Calls Tryz.prog 150 #[pp p,.agg #[.int .i64 k,.int .i64 A,.int .i64 B,.int .i64 C,.int .u64 X,vW,.bool raw,.int .i64 i,.int .i64 g]] w (ret fun v w'=>v = .bool true∧∃ s' m' told' a' cap',Rel s' m' told'∧Cs s m told s' m' told'∧Q0 w' (Vl p c mo (.slice a' told'.length cap')::QU c s'::Qp mo m'::Qz (.slice a' told'.length cap') told'::fr)):=by
 refine QV Tryz.func150 rfl (by kernel_rfl) ?_;refine J8 H ?_;clear H;intro b3 w H;refine YK H ?_;refine Qm (fun ms σ w=>ms=[]∧∃ (b5 i' g' e:Nat) (s':CS),Iz s A B C i' g' e s'∧σ 0=pp p∧σ 3=pp b3∧σ 5=pp b5∧σ 6 = .int .i64 e∧Q0 w (pts b5 (row 62 [.int .i64 i',.int .i64 g'])::pts b3 (row 103 [.int .i64 k,.int .i64 A,.int .i64 B,.int .i64 C,.int .u64 X,vW,.bool raw,.int .i64 i,.int .i64 g])::Vl p c mo (.slice a told.length cap)::QU c s'::Qp mo m::Qz (.slice a told.length cap) told::fr)) ?_ ?_
 ·replace H:=Js [2,0,0,0,0] 0 H;refine J1 H ?_;clear H;intro w H;refine Yo H ?_;refine Jl 3 [10,15] H ?_;refine Jf 4 ?_;refine Jl 5 [10,15] H ?_;refine Jf 6 ?_;refine Jl 7 [10,15] H ?_;refine Jf 8 ?_;refine Jl 9 [10,15] H ?_;refine Jw 10 14 H rfl rfl (V0 (a:=[]) (b:=[]) rfl rfl (call (FI c s A B C H) ?_)) (Vr H rfl ?_)
  ·clear H;rintro v w ⟨i',g',e,s',rfl,hM,H⟩;refine Ja 11 ?_;refine KC H ?_;refine Jo 14 H ?_;refine Vr H rfl ?_;clear H;intro b5 w H;refine Jo 15 H ?_;refine Gv H ?_;clear H;intro w H;refine Ja 16 ?_;refine Jx H ?_;replace H:=Js [0,1,1,0,0,0] 0 H;exact⟨rfl,rfl,b5,i',g',e,s',hM,rfl,rfl,rfl,rfl,H⟩
  ·clear H;intro b5 w H;refine Jo 10 H ?_;refine Jk rfl rfl (FI c s A B C H.swap) ?_;clear H;rintro v w ⟨i',g',e,s',rfl,hM,H⟩;refine Ja 11 ?_;refine KC H ?_;refine Jo 15 H ?_;refine Gv H ?_;clear H;intro w H;refine Ja 16 ?_;refine Jx H ?_;replace H:=Js [1,1,1,0,0,0] 0 H;exact⟨rfl,rfl,b5,i',g',e,s',hM,rfl,rfl,rfl,rfl,H⟩
 clear H;rintro ms σ w ⟨rfl,b5,i',g',e,s',hM,g0,g3,g5,g6,H⟩;rw[Q1 g0,Q1 g3,Q1 g5,Q1 g6];obtain⟨hm1,hm2⟩:=Ih R A B C;replace H:=Js [4,0,0,0,0,0] 0 H;refine J1 H ?_;clear H;intro w H;refine Yo H ?_;refine Jl 3 [10] H ?_;refine Jf 4 ?_;refine Jl 5 [10] H ?_;refine Jf 6 ?_;refine Jl 7 [10] H ?_;refine Jf 8 ?_;refine Jl 9 [10] H ?_;refine Jo 10 H ?_;refine Jk rfl rfl (O8 mo m A B C H) ?_;clear H;rintro v w ⟨rfl,H⟩;refine Ja 11 ?_;refine BE H ?_;refine Zf H ?_
 rcases hM with ⟨h1,rfl,rfl,rfl,rfl⟩|⟨h1,h2,rfl,rfl,rfl,rfl⟩|⟨h1,h2,rfl,rfl,rfl,rfl⟩|⟨h1,rfl,g0',addr,h2,h3,h4,rfl,h5,h6,h7,h8,h9,h10,h11,h12⟩
 ·have hw':(Vk m A B C).2≠0:=by rw[← hm1];exact h1
  refine VG H ?_;rw[show ((((Vk m A B C).2:Nat):Int) != 0)=true by rw[bne_iff_ne];omega];refine EB H ?_;rw[show ((((ZO s' A B C:Nat):Int)) == (((Vk m A B C).2:Nat):Int))=true by rw[hm1];exact beq_self_eq_true _];refine Jv ?_;refine C6 H ?_;refine QT rfl rfl rfl (Fp rfl rfl (.inl rfl) rfl ?_);refine J2 H ?_;replace H:=Js [3,3,0,2] 2 H;exact Q3 (Jy H rfl fun w' H'=>⟨rfl,s',m,told,a,cap,R,⟨by omega,by omega,.inl ⟨rfl,rfl⟩,id,id,id⟩,H'⟩)
 ·have hw':(Vk m A B C).2=0:=by rw[← hm1];exact h1
  rw[hw'];refine AZ H ?_;refine Un H ?_;replace H:=Js [4,0,0,0,0,0] 0 H;obtain⟨q,mem,hw,hm,H⟩:=Vv H;replace H:=Js [4,0,0,0,0,0,0,0,0,0,0,0,0,0,0,0] 0 H;refine EH H ?_;refine Jc rfl rfl (N0 q.tp s'.tab H) ?_;clear H;rintro v w ⟨rfl,H⟩
  have hbt:s'.tab.length - Xq s'.tab=0:=by
   unfold Xq;rw[filter_eq_self.2 h2,Nat.sub_self]
  rw[hbt];refine YP H ?_;refine C6 H ?_;refine QT rfl rfl rfl (Fp rfl rfl (.inl rfl) rfl ?_);refine J2 H ?_;replace H:=Js [1,1,1,1,0,0,0,0,0,0,0,0,0,0,0,0] 0 H;replace H:=VV hw hm H;replace H:=Js [4,0,0,2] 2 H;exact Q3 (Jy H rfl fun w' H'=>⟨rfl,s',m,told,a,cap,R,⟨by omega,by omega,.inl ⟨rfl,rfl⟩,id,id,id⟩,H'⟩)
 ·have hw':(Vk m A B C).2=0:=by rw[← hm1];exact h1
  have hn:=hm2 hw';rw[hw',← hn];refine AZ H ?_;refine C7 H ?_;refine Un H ?_;replace H:=Js [4,0,0,0,0,0] 0 H;obtain⟨q,mem,hw,hm,H⟩:=Vv H;replace H:=Js [3,0,0,0,0,0,0,0,0,0,0,0,0,0,0,0] 0 H;refine EH H ?_;refine Jc rfl rfl (Ee q.sp s'.size mem s'.own H) ?_;clear H;rintro v w ⟨rfl,H⟩;replace H:=Js [1,1,1,0,0,0,0,0,0,0,0,0,0,0,0,0] 0 H;replace H:=VV hw hm H;refine J0 H ?_;replace H:=Js [4,0,0,0,0,0] 0 H;have hsz:=hw.size;have hpos:s'.size > 0:=by omega
  have hmx:(if (1:Int) > ((s'.size:Nat):Int) then (1:Int) else ((s'.size:Nat):Int))=((s'.size:Nat):Int):=by split <;> omega
  have hnlt:YW s' B C < 100000:=by
   obtain⟨r,la,c',l,_,_,_,_,_,e1,e2,e3⟩:=FZ hw';rw[hn,e1,e2];show l.fixed+c'*l.record < _;omega
  refine J1 H ?_;clear H;intro w H;refine VP 0 [9,12] H rfl (Q9.none rfl) rfl (by repeat first|exact .nil _|apply QZ.cons rfl) (by kernel_rfl) ?_;refine GY 1 rfl (Q9.none rfl) rfl (by kernel_rfl) ?_;refine S0 2 rfl (Q9.none rfl) rfl rfl (.inl rfl) (by kernel_rfl) ?_;rw[fl,decide_eq_true (show (((0:Nat):Int),((0:Nat):Int))=((0:Int),(0:Int)) from rfl)];refine Ja 3 ?_;refine Ui H ?_;rw[show decide ((s'.size:Int) > 0)=true from decide_eq_true (by omega)];refine W7 H ?_;refine Ja 10 ?_;refine Ja 11 ?_;refine Jw 9 12 H rfl rfl (V0 (a:=[]) (b:=[]) rfl rfl (call (Oh p c mo _ s' H) ?_)) (H9 rfl rfl rfl ?_)
  ·clear H;rintro v w ⟨bb,rfl,hfr,H⟩
   have hlt:bb < YW s' B C / s'.size+1:=by
    refine Nat.lt_of_not_le fun hle=>?_;obtain⟨a0,ha,hz⟩:=hfr;obtain⟨i0,hi1,hi2,hi3⟩:=h2 a0 (by omega);exact hi3 (hz i0 hi1 (by omega))
   have hdl:YW s' B C / s'.size≤YW s' B C:=Nat.div_le_self _ _;refine Jo 12 H ?_;refine H9 rfl rfl rfl ?_;rw[hmx]
   refine Gc (v := .int .i64 ((YW s' B C / s'.size:Nat):Int)) 13 rfl (Q9.of rfl rfl rfl) (by
    show (if IntKind.i64=IntKind.i64 then (if ((s'.size:Nat):Int)=0 then none else some (Value.int IntKind.i64 (IntKind.i64.wrap (Int.tdiv ((YW s' B C:Nat):Int) ((s'.size:Nat):Int))))) else none)=_;rw[if_pos rfl,if_neg (by omega),WA (by omega)]) (by kernel_rfl) ?_
   refine Ja 14 ?_;rw[Qa (by omega)];refine Ja 15 ?_;rw[show decide ((bb:Int) < ((YW s' B C / s'.size+1:Nat):Int))=true from decide_eq_true (by omega)];refine Ja 16 ?_;refine Ja 17 ?_;refine Jx H ?_;replace H:=Js [0,0,0,2] 2 H;exact Q3 (Jy H rfl fun w' H'=>⟨rfl,s',m,told,a,cap,R,⟨by omega,by omega,.inl ⟨rfl,rfl⟩,id,id,id⟩,H'⟩)
  ·rw[hmx];have hdl:YW s' B C / s'.size≤YW s' B C:=Nat.div_le_self _ _
   refine Gc (v := .int .i64 ((YW s' B C / s'.size:Nat):Int)) 13 rfl (Q9.of rfl rfl rfl) (by
    show (if IntKind.i64=IntKind.i64 then (if ((s'.size:Nat):Int)=0 then none else some (Value.int IntKind.i64 (IntKind.i64.wrap (Int.tdiv ((YW s' B C:Nat):Int) ((s'.size:Nat):Int))))) else none)=_;rw[if_pos rfl,if_neg (by omega),WA (by omega)]) (by kernel_rfl) ?_
   refine Ja 14 ?_;rw[Qa (by omega)];refine Jo 9 H ?_;refine Jk rfl rfl (Oh p c mo _ s' H) ?_;clear H;rintro v w ⟨bb,rfl,hfr,H⟩
   have hlt:bb < YW s' B C / s'.size+1:=by
    refine Nat.lt_of_not_le fun hle=>?_;obtain⟨a0,ha,hz⟩:=hfr;obtain⟨i0,hi1,hi2,hi3⟩:=h2 a0 (by omega);exact hi3 (hz i0 hi1 (by omega))
   refine Ja 15 ?_;rw[show decide ((bb:Int) < ((YW s' B C / s'.size+1:Nat):Int))=true from decide_eq_true (by omega)];refine Ja 16 ?_;refine Ja 17 ?_;refine Jx H ?_;replace H:=Js [0,0,0,2] 2 H;exact Q3 (Jy H rfl fun w' H'=>⟨rfl,s',m,told,a,cap,R,⟨by omega,by omega,.inl ⟨rfl,rfl⟩,id,id,id⟩,H'⟩)
 ·have hw':(Vk m A B C).2=0:=by rw[← hm1];exact h1
  rw[hw'];obtain⟨_,_,_,_,_,_,_,hmw,_⟩:=id (ZP H);obtain⟨hnew,R'⟩:=OU R hmw hw' h2 h6 h7 h8 h10;have htl:told.length < 100000:=by rw[R.len];exact hfew
  refine AZ H ?_;refine C7 H ?_;refine C7 H ?_;refine Vo H ?_;replace H:=Js [3,0,0,0,0,0] 0 H;refine ZU H ?_;refine Ul H ?_;replace H:=Js [5,2,2,0,1,0] 0 H;refine Zf H ?_;refine Qi (fun ms σ w q=>ms=[]∧∃ j:Nat,j≤told.length∧q=told.length - j∧σ 0=pp p∧σ 3=pp b3∧σ 5=pp b5∧σ 102 = .slice a told.length cap∧σ 103 = .int .i64 told.length∧σ 104 = .int .i64 j∧Q0 w (Qz (.slice a told.length cap) told::pts b5 (row 62 [.int .i64 (i':Nat),.int .i64 ((g0'+1:Nat):Int)])::pts b3 (row 103 [.int .i64 k,.int .i64 A,.int .i64 B,.int .i64 C,.int .u64 X,vW,.bool raw,.int .i64 i,.int .i64 g])::Vl p c mo (.slice a told.length cap)::QU c s'::Qp mo m::fr)) (m:=told.length) ⟨rfl,0,by omega,rfl,rfl,rfl,rfl,rfl,rfl,rfl,H⟩ ?_;clear H;rintro ms σ w q ⟨rfl,j,hj,rfl,g0,g3,g5,g102,g103,g104,H⟩;rw[Q1 g0,Q1 g3,Q1 g5,Q1 g102,Q1 g103,Q1 g104];refine J6 H ?_;refine Qh rfl (fun h=>QR ?_) (fun h=>Qj ?_)
  ·have hlt:j < told.length:=by omega
   have hn:=getElem?_eq_getElem hlt;generalize told[j]=xy at hn;obtain⟨x,y⟩:=xy;obtain⟨bT,sT,rfl,H,hcl⟩:=Qw H (by omega);refine Y9 H ?_;refine Jd ?_;refine Q5 rfl (VH H rfl (Xy hn) rfl ?_);refine VQ H ?_;clear H;intro b11 w H;refine J4 H ?_;clear H;intro w H;refine ER H ?_;refine Q6 ?_;replace H:=hcl _ _ H.drop;refine Qh (p:=((x:Int),(y:Int))=(((i':Nat):Int),((g0'+1:Nat):Int))) rfl (fun he=>?_) (fun he=>QR ?_)
   ·exfalso;injection he with e1 e2
    obtain rfl:x=i':=by omega
    obtain rfl:y=g0'+1:=by omega
    exact hnew j hn
   ·refine J3 H ?_;exact⟨_,⟨rfl,j+1,hlt,rfl,rfl,rfl,rfl,rfl,rfl,Qa (by omega),H⟩,by omega⟩
  ·replace H:=Js [5,0,0,0,0,0] 0 H;refine J1 H ?_;clear H;intro w H;refine Yo H ?_;refine Jl 3 [10] H ?_;refine Jf 4 ?_;refine Jl 5 [10] H ?_;refine Jf 6 ?_;refine Jl 7 [10] H ?_;refine Jf 8 ?_;refine Jl 9 [10] H ?_;refine Jo 10 H ?_;refine Jk rfl rfl (eR mo m A B C hw' hfew H) ?_;clear H;rintro v w ⟨rfl,H⟩;refine Jx H ?_;replace H:=Js [1,1,2,0,0,0] 0 H;refine J1 H ?_;clear H;intro w H;refine W8 H ?_;refine Jl 4 [7,10] H ?_;refine HW H ?_;refine Jo 6 H ?_;refine Ru H ?_;clear H;intro bS w H;replace H:=H.swap;refine Jo 7 H ?_;refine YF H rfl rfl (by repeat first|exact .nil _|apply QZ.cons rfl) rfl (by decide) (by rw[Kl];simp only[length_cons,length_nil];omega) rfl rfl ?_;clear H;intro vS w H
   have e1:ZB told++[.int .i64 ((i':Nat):Int),.int .i64 ((g0'+1:Nat):Int)]=ZB (told++[(i',g0'+1)]):=by
    rw[Iw];rfl
   rw[e1] at H;obtain⟨aS,cS,rfl⟩:=QD H (m:=(told++[(i',g0'+1)]).length) (Kl _) (by decide);refine Ja 8 ?_;refine Jf 9 ?_;refine Jo 10 H ?_;refine Uj H ?_;clear H;intro w H;refine Bc H ?_;replace H:=Js [3,5,3,0] 3 H;refine Q3 (Jy H rfl fun w' H'=>⟨rfl,s',_,_,aS,cS,R',⟨?_,?_,.inr ⟨i',g0',rfl,h2,h4,?_⟩,fun hI=>NI hI h2 h6 h9 h10 rfl,fun hT=>by rw[h8];exact hT,h12⟩,H'⟩)
   ·show m.P.length≤_;omega
   ·show (m.objs++[_]).length≤_;simp
   ·rw[h10];unfold Vf;rw[map_set];rfl
theorem Oj (s:CS) (i g p:Int) (x:Nat):Vf (UF s i g p x).1.tab=Vf s.tab:=by
 cases hv:Qg s.tab i g with
 | none=>rw[CD hv]
 | some q=>
  obtain⟨k,e⟩:=q;obtain⟨n,rfl,rfl,hk,_⟩:=ZW hv;rw[CE hv];split
  ·rw[Int.toNat_natCast];exact Cr hk
  ·rfl
theorem fp (s:CS) (i g:Int):Vf (UH s i g).1.tab=Vf s.tab:=by
 cases hv:Qg s.tab i g with
 | none=>rw[CH hv]
 | some q=>
  obtain⟨k,e⟩:=q;obtain⟨n,rfl,rfl,hk,_⟩:=ZW hv;rw[CI hv,Int.toNat_natCast];exact Cr hk
theorem fq (s:CS) (i g:Int) (on:Bool):Vf (UI s i g on).1.tab=Vf s.tab:=by
 cases hv:Qg s.tab i g with
 | none=>rw[CL hv]
 | some q=>
  obtain⟨k,e⟩:=q;obtain⟨n,rfl,rfl,hk,_⟩:=ZW hv;rw[CM hv];split
  ·rfl
  ·rw[Int.toNat_natCast];exact Cr hk
theorem Ol (s:CS) (i g p:Int) (l:Vy):Vf (GH s i g p l).1.tab=Vf s.tab:=by
 cases hv:Qg s.tab i g with
 | none=>rw[CP hv]
 | some q=>
  obtain⟨k,e⟩:=q;obtain⟨n,rfl,rfl,hk,_⟩:=ZW hv;rw[WI hv];split
  ·rw[Int.toNat_natCast];exact Cr hk
  ·rfl
theorem Om (s:CS) (i g p u v:Int):Vf (Yk s i g p u v).1.tab=Vf s.tab:=by
 unfold Yk;split
 ·rfl
 ·split
  ·rfl
  ·exact Ol s i g p _
theorem ft (s:CS) (i g p:Int):Vf (ZN s i g p).tab=Vf s.tab:=by
 unfold ZN;split
 ·rename_i a b _;cases hl:Qn s.tab a b with
  | none=>rw[CT hl]
  | some q=>
   obtain⟨k,e⟩:=q;obtain⟨n,h1,h2,hk⟩:=Vz.1 hl;obtain rfl:b=n:=by omega
   rw[Ca hl];exact Cr hk
 ·rfl
theorem fu (s:CS) (ws:List Nat):Vf (UJ s ws).1.tab=Vf s.tab:=by
 cases hd:ZX ws with
 | none=>rw[Cb hd]
 | some l=>
  rw[Ai hd];split <;> rfl
theorem Aw (m:MS) (k:Nat) (x:QI):(Yl m k x).objs.length=m.objs.length:=length_set
theorem On (m:MS) (o p:Int):(US m o p).1.objs.length=m.objs.length∧(US m o p).1.P=m.P:=by
 unfold US;split
 ·exact⟨rfl,rfl⟩
 ·split
  ·exact⟨Aw _ _ _,rfl⟩
  ·exact⟨rfl,rfl⟩
theorem Oo (m:MS) (o p u:Int):(Yg m o p u).1.objs.length=m.objs.length∧(Yg m o p u).1.P=m.P:=by
 unfold Yg;split
 ·exact⟨rfl,rfl⟩
 ·split
  ·split
   ·exact⟨rfl,rfl⟩
   ·exact⟨Aw _ _ _,rfl⟩
  ·exact⟨rfl,rfl⟩
theorem Oq (m:MS) (o:Int):(GO m o).1.objs.length=m.objs.length∧(GO m o).1.P=m.P:=by
 unfold GO;split
 ·exact⟨rfl,rfl⟩
 ·exact⟨Aw _ _ _,rfl⟩
theorem Ot (m:MS) (o:Int) (on:Bool):(GP m o on).1.objs.length=m.objs.length∧(GP m o on).1.P=m.P:=by
 unfold GP;split
 ·exact⟨rfl,rfl⟩
 ·split
  ·exact⟨rfl,rfl⟩
  ·exact⟨Aw _ _ _,rfl⟩
theorem fw (m:MS) (t:Nat):(Xu m t).objs.length=m.objs.length∧(Xu m t).P=m.P:=by
 unfold Xu;split
 ·exact⟨Aw _ _ _,rfl⟩
 ·exact⟨rfl,rfl⟩
theorem Ou (m:MS) (o p:Int):(YA m o p).1.objs.length=m.objs.length∧(YA m o p).1.P=m.P:=by
 unfold YA;split
 ·exact⟨rfl,rfl⟩
 ·split
  ·show (if _ then _ else _:MS).objs.length=_∧(if _ then _ else _:MS).P=_;split
   ·exact fw m _
   ·exact⟨rfl,rfl⟩
  ·exact⟨rfl,rfl⟩
theorem gQ (m:MS) (o p:Int) (X:Nat):(Kj m o p X).objs.length=m.objs.length∧(Kj m o p X).P=m.P:=by
 unfold Kj;split
 ·exact⟨rfl,rfl⟩
 ·split
  ·exact⟨Aw _ _ _,rfl⟩
  ·exact⟨rfl,rfl⟩
theorem Ov (m:MS) (ws:List Nat):(ZS m ws).1.objs=m.objs∧(ZS m ws).1.P=m.P:=by
 unfold ZS;split
 ·exact⟨rfl,rfl⟩
 ·split <;> exact⟨rfl,rfl⟩
theorem Ow (s:CS) (i g p:Int) (x:Nat):Y0 s (UF s i g p x).1:=by
 cases hv:Qg s.tab i g with
 | none=>rw[CD hv];exact Y0.refl s
 | some q=>
  obtain⟨k,e⟩:=q;obtain⟨n,rfl,rfl,hk,_⟩:=ZW hv;rw[CE hv];split
  ·rw[Int.toNat_natCast];exact Y0.set (e':={ e with ws:=e.ws.set p.toNat x }) hk ⟨rfl,rfl,length_set⟩ s.rem
  ·exact Y0.refl s
theorem gV (s:CS) (i g:Int):Y0 s (UH s i g).1:=by
 cases hv:Qg s.tab i g with
 | none=>rw[CH hv];exact Y0.refl s
 | some q=>
  obtain⟨k,e⟩:=q;obtain⟨n,rfl,rfl,hk,_⟩:=ZW hv;rw[CI hv,Int.toNat_natCast];exact Y0.set (e':={ e with held:=false }) hk ⟨rfl,rfl,rfl⟩ s.rem
theorem gY (s:CS) (i g:Int) (on:Bool):Y0 s (UI s i g on).1:=by
 cases hv:Qg s.tab i g with
 | none=>rw[CL hv];exact Y0.refl s
 | some q=>
  obtain⟨k,e⟩:=q;obtain⟨n,rfl,rfl,hk,_⟩:=ZW hv;rw[CM hv];split
  ·exact Y0.refl s
  ·rw[Int.toNat_natCast];exact Y0.set (e':={ e with pinned:=on }) hk ⟨rfl,rfl,rfl⟩ s.rem
theorem Ox (s:CS) (i g p:Int) (l:Vy):Y0 s (GH s i g p l).1:=by
 cases hv:Qg s.tab i g with
 | none=>rw[CP hv];exact Y0.refl s
 | some q=>
  obtain⟨k,e⟩:=q;obtain⟨n,rfl,rfl,hk,_⟩:=ZW hv;rw[WI hv];split
  ·rw[Int.toNat_natCast];exact Y0.set (e':={ e with ws:=e.ws.set p.toNat (VU l) }) hk ⟨rfl,rfl,length_set⟩ _
  ·exact Y0.refl s
theorem gZ (s:CS) (i g p u v:Int):Y0 s (Yk s i g p u v).1:=by
 unfold Yk;split
 ·exact Y0.refl s
 ·split
  ·exact Y0.refl s
  ·exact Ox s i g p _
theorem gG (s:CS) (i g p:Int):Y0 s (ZN s i g p):=by
 unfold ZN;split
 ·rename_i a b _;cases hl:Qn s.tab a b with
  | none=>rw[CT hl];exact Y0.refl s
  | some q=>
   obtain⟨k,e⟩:=q;obtain⟨n,h1,h2,hk⟩:=Vz.1 hl;obtain rfl:b=n:=by omega
   rw[Ca hl];exact Y0.set (e':={ e with held:=true }) hk ⟨rfl,rfl,rfl⟩ s.rem
 ·exact Y0.refl s
theorem Oy (s:CS) (ws:List Nat):Y0 s (UJ s ws).1:=by
 cases hd:ZX ws with
 | none=>rw[Cb hd];exact Y0.refl s
 | some l=>
  rw[Ai hd];split
  ·exact Y0.refl s
  ·exact⟨rfl,rfl,rfl,fun k g e h=>⟨e,h,rfl,rfl,rfl⟩⟩
theorem gU (s:CS) (q:Int) (b b2:Nat) (hP:Vp s):Vp (WJ s q b b2):=fun k g e hk=>by
 obtain⟨x,x1,x2,x3⟩:=hP k g e hk;exact⟨x,mem_append.2 (.inl x1),x2,x3⟩
theorem U9 {s s':CS} {m m':MS} {told:List (Nat×Nat)} (h1:m'.objs.length=m.objs.length) (h2:m'.P=m.P) (h3:Vf s'.tab=Vf s.tab) (h4:Inv s→Inv s':=by exact id) (h5:Y0 s s':=by exact Y0.refl _):Cs s m told s' m' told:=⟨by rw[h2];omega,by omega,.inl ⟨rfl,h3⟩,h4,fun h=>by rw[h5.par];exact h,h5.part⟩
end Go.Proofs.YtbnnnljagkjpiaaGreatDoor
