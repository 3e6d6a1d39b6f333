/- Cells: what is proved on the way: every input of the statement; no condition. Texts joined: StoB LayP LayA LayB LayC LayD LayE RmB TreA CelP. -/
import Derived.Test.YtbnnnljagkjpiaaGreatDoorBhd
import Derived.Test.YtbnnnljagkjpiaaGreatDoorBhe
import Derived.Test.YtbnnnljagkjpiaaGreatDoorBhc
set_option linter.unusedVariables false
set_option linter.unusedSimpArgs false
set_option linter.unusedSectionVars false
namespace Go.Proofs.YtbnnnljagkjpiaaGreatDoor
open List
open Go.SL
theorem Hg [Q4] (p size:Nat) (mem own:List Nat) (a:Nat) (h2:a < mem.length) (h3:Gh size own a 1) {w:World} {fr:List Q2} (H:Q0 w (ST p size mem own::fr)) :
  Calls Tryz.prog 128 #[pp p,.int .i64 a] w (ret fun v w'=>v = .tuple #[.int .u64 (mem.getD a 0),.int .i64 0]∧Q0 w' (ST p size mem own::fr)):=by
 refine QV Tryz.func128 rfl (by kernel_rfl) ?_;refine Da H ?_;refine J5 H ?_;refine Jc rfl rfl (AL p size mem own a 1 (by decide) (by omega) h3 H) ?_;clear H;rintro v w ⟨rfl,H⟩;refine Yp H ?_;obtain⟨v,v2,u,ws,many,hok,H⟩:=Gz H;have H:=H.swap;obtain⟨a1,c1,rfl⟩:=QD H (Yz mem) (by decide);obtain⟨b,s,rfl,H,hclose⟩:=Qw H (by omega);have hx:=getElem?_eq_getElem h2;have hg:mem.getD a 0=mem[a]:=by simp[h2]
 rw[hg];generalize mem[a]=x at hx;refine J9 H ?_;refine Jd ?_;refine Q5 rfl (QW H rfl (HC hx) rfl ?_);refine J2 H ?_;exact Q3 (Jy (GA hok (hclose _ _ H).swap) rfl fun w' H'=>⟨rfl,H'⟩)
theorem RK.mem {size:Nat} {mem mem' own ws:List Nat} {many:Nat} (h:RK size mem own ws many) (e:mem'.length=mem.length):RK size mem' own ws many:=⟨h.s1,h.s2,h.c1,h.c2,e.trans h.len,h.many,h.one⟩
theorem Ef [Q4] (p size:Nat) (mem own:List Nat) (a x:Nat) (h2:a < mem.length) (h3:Gh size own a 1) {w:World} {fr:List Q2} (H:Q0 w (ST p size mem own::fr)) :
  Calls Tryz.prog 105 #[pp p,.int .i64 a,.int .u64 x] w (ret fun v w'=>v = .int .i64 0∧Q0 w' (ST p size (mem.set a x) own::fr)):=by
 refine QV Tryz.func105 rfl (by kernel_rfl) ?_;refine Db H ?_;refine Jc rfl rfl (AL p size mem own a 1 (by decide) (by omega) h3 H) ?_;clear H;rintro v w ⟨rfl,H⟩;refine YI H ?_;obtain⟨v,v2,u,ws,many,hok,H⟩:=Gz H;have H:=H.swap;obtain⟨a1,c1,rfl⟩:=QD H (Yz mem) (by decide);obtain⟨b,s,rfl,H,_,_,hclose⟩:=Yx H (by omega);refine J7 H ?_;refine Qm (fun ms σ w=>ms=[]∧σ 7 = .int .i64 0∧Q0 w (pts b (row 94 (QP (mem.set a x)++s))::pts p (row 230 [.slice (some ⟨b,0,none⟩) mem.length c1,.int .i64 size,v2,pp u])::NL v2 own::BM u own.length ws many::fr)) ?_ ?_
 ·refine VE rfl ?_;refine GU H ?_;refine Jd ?_;refine Q5 rfl (Yh H rfl rfl inferInstance rfl (by simp only[length_append,Yz];omega) rfl ?_);clear H;intro w H;rw[MN (by omega)] at H;refine Q6 ?_;exact⟨rfl,rfl,rfl,H⟩
 ·clear H;rintro ms σ w ⟨rfl,g7,H⟩;rw[Q1 g7];refine J3 H ?_;exact Q3 (Jy (GA (hok.mem (by simp)) (hclose _ _ _ (by simp[QP]) H).swap) rfl fun w' H'=>⟨rfl,H'⟩)
theorem TR [Q4] (p size:Nat) (mem own:List Nat) (a n:Nat) (h1:1≤n) (h2:a+n≤mem.length) (h3:Gh size own a n) {w:World} {fr:List Q2} (H:Q0 w (ST p size mem own::fr)) :
  Calls Tryz.prog 125 #[pp p,.int .i64 a,.int .i64 a,.int .i64 n] w (ret fun v w'=>v = .int .i64 0∧Q0 w' (ST p size mem own::fr)):=by
 refine QV Tryz.func125 rfl (by kernel_rfl) ?_;refine BP H ?_;refine Vi H ?_;refine Jc rfl rfl (AL p size mem own a n h1 h2 h3 H) ?_;clear H;rintro v w ⟨rfl,H⟩;refine W1 H ?_;refine Jc rfl rfl (AL p size mem own a n h1 h2 h3 H) ?_;clear H;rintro v w ⟨rfl,H⟩;refine K9 H ?_;refine Y1 (fun ms σ w=>ms=[]∧σ 0=pp p∧σ 1 = .int .i64 a∧σ 2 = .int .i64 a∧σ 3 = .int .i64 n∧Q0 w (ST p size mem own::fr)) ?_ ?_
 ·refine QS ?_;refine W2 H ?_;refine KQ H ?_;refine W2 H ?_;refine W3 H ?_;exact .inl ⟨rfl,rfl,rfl,rfl,rfl,rfl,H⟩
 ·clear H;rintro ms σ w ⟨rfl,g0,g1,g2,g3,H⟩;rw[Q1 g0,Q1 g1,Q1 g2,Q1 g3];obtain⟨v,v2,u,ws,many,hok,H⟩:=Gz H;have H:=H.swap;have hmem:mem.length≤1048576:=by rw[hok.len];exact Nat.mul_le_mul hok.c2 hok.s2
  obtain⟨a1,c1,rfl⟩:=QD H (Yz mem) (by decide)
  rcases GV H with ⟨h,_⟩|⟨b,len,cap',s,h,e3,e4,e5,H⟩
  ·injection h with h4 h5 h6;omega
  injection h with h4 h5 h6
  subst h4 h5 h6
  have hrd:QZ (QP mem++s) (0+a*1) ((a+n - a)*1) (QP ((mem.drop a).take n)):=by
   have e:(QP ((mem.drop a).take n)).length=(a+n - a)*1:=by simp[QP];omega
   rw[← e];refine QZ.of_get fun j v hj=>?_;have hj':j < n:=by have:=(List.getElem?_eq_some_iff.1 hj).1;simp[QP] at this;omega
   rw[getElem?_append_left (by simp[QP];omega)];simp only[QP,getElem?_map,getElem?_take_of_lt hj',getElem?_drop] at hj;simp only[QP,getElem?_map,Nat.zero_add,Nat.mul_one];exact hj
  have hs1:(QP ((mem.drop a).take n)).all (·.oneCell')=true:=all_eq_true.2 fun v hv=>by
   simp only[QP,mem_map] at hv;obtain⟨x,_,rfl⟩:=hv;rfl
  refine J1 H ?_;clear H;intro w H;refine Yo H ?_;refine Jl 3 [18] H ?_;refine Ui H ?_;refine Ja 6 ?_;refine Ja 7 ?_;rw[Qb (x:=(a:Int)+(n:Int)) (by omega) (by omega),show (a:Int)+(n:Int)=((a+n:Nat):Int) by omega];refine BK 8 rfl (Q9.none rfl) rfl rfl rfl (by omega) (by omega) (by omega) (by kernel_rfl) ?_;refine Bb H ?_;refine Jl 12 [18] H ?_;refine Ja 13 ?_;refine Ja 14 ?_;refine Ja 15 ?_;refine Ja 16 ?_;rw[Qb (x:=(a:Int)+(n:Int)) (by omega) (by omega),show (a:Int)+(n:Int)=((a+n:Nat):Int) by omega];refine BK 17 rfl (Q9.none rfl) rfl rfl rfl (by omega) (by omega) (by omega) (by kernel_rfl) ?_;refine Jo 18 H ?_;refine SN H rfl rfl hrd (by simp only[length_append,Yz];omega) hs1 rfl ?_;clear H;intro w H;refine Bc H ?_;exact Q3 (Jy (GA hok (ZZ e3 e4 e5 H).swap) rfl fun w' H'=>⟨rfl,H'⟩)
def V4 (l:List Nat) (a n v:Nat):List Nat:=l.take a++List.replicate n v++l.drop (a+n)
theorem Vu {l:List Nat} {a n v:Nat} (h:a+n≤l.length):(V4 l a n v).length=l.length:=by simp[V4];omega
theorem Zm {l:List Nat} {a n v:Nat} (h:a+n≤l.length) (i:Nat):(V4 l a n v)[i]? = if a≤i∧i < a+n then some v else l[i]?:=by
 unfold V4;by_cases h1:i < a
 ·rw[if_neg (by omega),append_assoc,getElem?_append_left (by simp;omega),getElem?_take_of_lt h1]
 ·have e1:(l.take a).length=a:=by simp;omega
  rw[append_assoc,getElem?_append_right (by omega),e1];by_cases h2:i < a+n
  ·rw[if_pos (by omega),getElem?_append_left (by simp;omega),getElem?_replicate,if_pos (by omega)]
  ·rw[if_neg (by omega),getElem?_append_right (by simp;omega),getElem?_drop,length_replicate];congr 1;omega
theorem RR {l:List Nat} {a n v:Nat} (h:a+n≤l.length) (i:Nat):(V4 l a n v).getD i 0=if a≤i∧i < a+n then v else l.getD i 0:=by
 rw[getD_eq_getElem?_getD,Zm h];split
 ·rfl
 ·rw[getD_eq_getElem?_getD]
theorem Eg {l:List Nat} {a v:Nat}:V4 l a 0 v=l:=by simp[V4]
theorem MP {l:List Nat} {a n v:Nat} (h:a+n < l.length):(V4 l a n v).set (a+n) v=V4 l a (n+1) v:=by
 apply ext_getElem?;intro i;rw[getElem?_set,Zm (by omega),Zm (by omega),Vu (by omega)];by_cases h1:a+n=i
 ·subst h1;rw[if_pos rfl,if_pos (by omega),if_pos (by omega)]
 ·rw[if_neg h1];by_cases h2:a≤i∧i < a+n
  ·rw[if_pos h2,if_pos (by omega)]
  ·rw[if_neg h2,if_neg (by omega)]
theorem Hh {size:Nat} {mem own ws:List Nat} {many:Nat} (h:RK size mem own ws many) (h63:own.length≤63):∃ x,ws=[x]∧ZJ own.length x∧many=Yd own.length x∧∀ c,c < own.length→x.testBit c=decide (own.getD c 0≠0):=by
 obtain⟨x,h1,h2,h3⟩:=h.one h63;exact⟨x,h1,⟨h.c1,h63,h2⟩,by rw[Ed own x h3];exact h.many,h3⟩
theorem TW [Q4] (p size:Nat) (mem own:List Nat) (o n:Nat) (h63:own.length≤63) (ho:1≤o) (hn:1≤n) (hn2:n < 1000000) {w:World} {fr:List Q2} [hT:YX 0 Lib.deBruijn64tab fr] (H:Q0 w (ST p size mem own::fr)) :
  Calls Tryz.prog 122 #[pp p,.int .i64 o,.int .i64 n] w (ret fun v w'=>
   (∃ a:Nat,v = .tuple #[.int .i64 a,.int .i64 0]∧a+n≤own.length∧(∀ i,a≤i→i < a+n→own.getD i 0=0)∧Q0 w' (ST p size (V4 mem (a*size) (n*size) 0) (V4 own a n o)::fr)) ∨
   (v = .tuple #[.int .i64 0,.int .i64 11]∧(∀ a,a+n≤own.length→∃ i,a≤i∧i < a+n∧own.getD i 0≠0)∧Q0 w' (ST p size mem own::fr))):=by
 obtain⟨v,v2,u,ws,many,hok,H⟩:=Gz H;obtain⟨x,rfl,hb,rfl,hx⟩:=Hh hok h63;refine QV Tryz.func122 rfl (by kernel_rfl) ?_;refine Bd H ?_;refine Y1 (fun ms σ w=>ms=[]∧σ 0=pp p∧σ 1 = .int .i64 o∧σ 2 = .int .i64 n∧Q0 w (pts p (row 230 [v,.int .i64 size,v2,pp u])::UL v mem::NL v2 own::Zg u own.length x::fr)) ?_ ?_
 ·refine Kz H ?_;refine Vi H ?_;rw[show decide ((o:Int) < 1)=false from decide_eq_false (by omega)];refine Yy H ?_;refine J2 H ?_;rw[show decide ((n:Int) < 1)=false from decide_eq_false (by omega)];refine V8 H ?_;exact .inl ⟨rfl,rfl,rfl,rfl,rfl,H⟩
 ·clear H;rintro ms σ w ⟨rfl,g0,g1,g2,H⟩;rw[Q1 g0,Q1 g1,Q1 g2];refine J9 H ?_;replace H:=Js [3,0,0,0] 0 H;refine Jc rfl rfl (TZ u _ x n _ hb hn hn2 H) ?_;clear H;rintro r w ⟨hR,H⟩
  rcases hR with ⟨a,rfl,ha,hfree⟩|⟨rfl,hno⟩
  ·have hlen:=hok.len;have hs1:=hok.s1;have hs2:=hok.s2;have hmem:mem.length≤1048576:=by rw[hok.len];exact Nat.mul_le_mul hok.c2 hok.s2
   have hmul:(a+n)*size≤mem.length:=by rw[hlen];exact Nat.mul_le_mul_right _ ha
   have hmul2:(a+n)*size=a*size+n*size:=Nat.add_mul _ _ _;have hns:1*1≤n*size:=Nat.mul_le_mul hn hs1;refine Zw H ?_;refine GU H ?_;refine Jc rfl rfl (MJ u _ x a n true hb ha H) ?_;clear H;rintro v w ⟨rfl,H⟩;refine UX H ?_;obtain⟨a2,c2,rfl⟩:=QD (H.drop.drop.drop) (QE own) (by decide);refine J7 H ?_;refine Y1 (fun ms σ w=>ms=[]∧σ 0=pp p∧σ 2 = .int .i64 n∧σ 8 = .int .i64 a∧Q0 w (NL (.slice a2 own.length c2) (V4 own a n o)::pts p (row 230 [v,.int .i64 size,.slice a2 own.length c2,pp u])::UL v mem::Zg u own.length (XY x a n true)::fr)) ?_ ?_
   ·refine QS ?_;replace H:=Js [3,1,1,0] 0 H;refine Qi (fun ms σ w q=>ms=[]∧∃ j:Nat,j≤n∧q=n - j∧σ 0=pp p∧σ 1 = .int .i64 o∧σ 2 = .int .i64 n∧σ 8 = .int .i64 a∧σ 10 = .int .i64 ((a+j:Nat):Int)∧Q0 w (NL (.slice a2 own.length c2) (V4 own a j o)::pts p (row 230 [v,.int .i64 size,.slice a2 own.length c2,pp u])::UL v mem::Zg u own.length (XY x a n true)::fr)) (m:=n) ⟨rfl,0,by omega,rfl,rfl,rfl,rfl,rfl,rfl,by rw[Eg];exact H⟩ ?_;clear H;rintro ms σ w q ⟨rfl,j,hj,rfl,g0,g1,g2,g8,g10,H⟩;rw[Q1 g0,Q1 g1,Q1 g2,Q1 g8,Q1 g10];refine KU H ?_;rw[Qb (x:=(a:Int)+(n:Int)) (by omega) (by omega)];refine J7 H ?_;refine Qh rfl (fun h=>QR ?_) (fun h=>Qj ?_)
    ·have hlt:j < n:=by omega
     have hsl:=Vu (l:=own) (a:=a) (n:=j) (v:=o) (by omega);obtain⟨b,s,rfl,H,_,_,hclose⟩:=Yx H (by omega);refine Zf H ?_;refine GU H ?_;refine Jd ?_;refine Q5 rfl (Yh H rfl rfl inferInstance rfl (by simp only[length_append,QE];omega) rfl ?_);clear H;intro w H;rw[Int.toNat_natCast,Ec (by omega),MP (by omega)] at H;replace H:=hclose _ _ _ (by rw[QE,QE,Vu (by omega),Vu (by omega)]) H;refine Rz H ?_;exact⟨_,⟨rfl,j+1,hlt,rfl,rfl,rfl,rfl,rfl,by rw[show ((a+(j+1):Nat):Int)=((a+j:Nat):Int)+1 by omega];exact Qa (i:=a+j) (by omega),H⟩,by omega⟩
    ·have hge:j=n:=by omega
     subst hge;exact .inl ⟨rfl,rfl,rfl,rfl,rfl,H⟩
   ·clear H;rintro ms σ w ⟨rfl,g0,g2,g8,H⟩;rw[Q1 g0,Q1 g2,Q1 g8];replace H:=Js [2,1,0,0] 0 H;obtain⟨a1,c1,rfl⟩:=QD H (Yz mem) (by decide);obtain⟨b,s,rfl,H,hcap,hsp,hclose⟩:=Yx H (by omega);refine J1 H ?_;clear H;intro w H;refine Yo H ?_;refine Jl 3 [19] H ?_;refine Dc H ?_;refine Jl 8 [19] H ?_;refine Ja 9 ?_;refine Ja 10 ?_;refine Ja 11 ?_;refine Be H ?_;refine Jf 15 ?_;refine Jl 16 [19] H ?_;refine Ja 17 ?_;rw[Qb (x:=(a:Int)+(n:Int)) (by omega) (by omega),show ((a:Int)+(n:Int))*(size:Int)=(((a+n)*size:Nat):Int) by rw[Int.natCast_mul,Int.natCast_add],Qb (x:=(((a+n)*size:Nat):Int)) (by omega) (by omega),← Int.natCast_mul,Qb (x:=((a*size:Nat):Int)) (by omega) (by omega)];refine BK 18 rfl (Q9.none rfl) rfl rfl rfl (by omega) (by omega) (by omega) (by kernel_rfl) ?_
    have hz:Vx (Qt (.int .u64 0)) ((a+n)*size - a*size)=QP (List.replicate (n*size) 0):=by
     rw[show Qt (.int .u64 0)=[.int .u64 0] from rfl,Rr,show (a+n)*size - a*size=n*size by omega];simp[QP]
    refine Jo 19 H ?_;refine SG H rfl (by omega) (by rw[hz];simp only[length_append,Yz,length_replicate];omega) rfl rfl ?_;clear H;intro w H;rw[hz] at H
    have hw:wr (QP mem++s) (0+a*size*1) (QP (List.replicate (n*size) 0))=QP (V4 mem (a*size) (n*size) 0)++s:=by
     rw[DW _ _ _ (by simp[QP];omega)];rw[take_append_of_le_length (by simp[QP];omega),drop_append_of_le_length (by simp[QP];omega)];simp only[Nat.zero_add,Nat.mul_one,QP,V4,map_append,map_take,map_drop,length_map,length_replicate,append_assoc]
    rw[hw] at H;replace H:=hclose _ _ _ (by simp[QP,Vu (show a*size+n*size≤mem.length by omega)]) H;refine Jx H ?_;refine VG H ?_;replace H:=Js [1,0,0,0] 0 H;have hsl:=Vu (l:=own) (v:=o) ha
    have hx':∀ c,c < (V4 own a n o).length→(XY x a n true).testBit c=decide ((V4 own a n o).getD c 0≠0):=by
     intro c hc;rw[MI,RR ha];split
     ·simp;omega
     ·exact hx c (by omega)
    have hbf:=hb.fill (a:=a) (k:=n) (on:=true) ha;refine Q3 (Jy (GA (own:=V4 own a n o) (ws:=[XY x a n true]) (many:=Yd own.length (XY x a n true)) ⟨hs1,hs2,by rw[hsl];exact hok.c1,by rw[hsl];exact hok.c2,by rw[Vu (by omega),hsl,hlen],?_,fun _=>⟨_,rfl,by rw[hsl];exact hbf.lt,hx'⟩⟩ (by rw[hsl];exact H)) rfl fun w' H' => .inl ⟨a,rfl,ha,fun i h1 h2=>?_,H'⟩)
    ·rw[← hsl];exact Ed _ _ hx'
    ·have:=hx i (by omega);rw[hfree i h1 h2] at this;simpa using this.symm
  ·refine Bf H ?_;refine Yi H ?_;replace H:=Js [1,1,1,0] 0 H;refine Q3 (Jy (GA hok H) rfl fun w' H' => .inr ⟨rfl,fun a ha=>?_,H'⟩);obtain⟨i,h1,h2,h3⟩:=hno a ha;refine⟨i,h1,h2,?_⟩;have:=hx i (by omega);rw[h3] at this;simpa using this.symm
def VS (w k:Nat):List Nat:=(List.range k).filter fun i=>w.testBit i
theorem Eh (w k:Nat):VS w (k+1)=VS w k++if w.testBit k then [k] else []:=by
 unfold VS;rw[range_succ,filter_append];congr 1;by_cases h:w.testBit k <;> simp[h]
theorem Hi {w k:Nat}:∀ {t:Nat},k≤t→(∀ i,k≤i→i < t→w.testBit i=false)→VS w t=VS w k
 | 0,h,_=>by rw[show k=0 by omega]
 | t+1,h,hh=>by
  by_cases hk:k=t+1
  ·rw[hk]
  ·rw[Eh,hh t (by omega) (by omega),Hi (t:=t) (by omega) (fun i h1 h2=>hh i h1 (by omega))];simp
theorem AM (w k:Nat):(VS w k).length≤k:=by
 have:=length_filter_le (fun i=>w.testBit i) (List.range k);simpa [VS] using this
theorem TA {x t:Nat} (ht:x.testBit t=true) (hl:∀ i,i < t→x.testBit i=false):x=2 ^ (t+1)*(x / 2 ^ (t+1))+2 ^ t:=by
 have e:x % 2 ^ (t+1)=2 ^ t:=by
  apply Nat.eq_of_testBit_eq;intro j;rw[Nat.testBit_mod_two_pow,Nat.testBit_two_pow];by_cases h1:j < t
  ·rw[hl j h1];simp;omega
  ·by_cases h2:j=t
   ·subst h2;simp[ht]
   ·have:¬ j < t+1:=by omega
    simp[this];omega
 have:=Nat.div_add_mod x (2 ^ (t+1));omega
theorem TB {x t:Nat} (ht:x.testBit t=true) (hl:∀ i,i < t→x.testBit i=false) (j:Nat):(x &&& (x - 1)).testBit j=(x.testBit j && decide (j≠t)):=by
 have e:=TA ht hl;have hp:0 < 2 ^ t:=Nat.two_pow_pos t;have hlt:2 ^ t - 1 < 2 ^ (t+1):=by rw[Nat.pow_succ];omega
 have e1:x - 1=2 ^ (t+1)*(x / 2 ^ (t+1))+(2 ^ t - 1):=by omega
 rw[Nat.testBit_and,e1,Nat.testBit_two_pow_mul_add _ hlt,Nat.testBit_two_pow_sub_one];by_cases h1:j < t
 ·rw[hl j h1];simp
 ·by_cases h2:j=t
  ·subst h2;simp
  ·rw[if_neg (by omega),Nat.testBit_div_two_pow,show j - (t+1)+(t+1)=j by omega];simp[h2]
def Uq (l:List Nat) (size:Nat):Prop:=(∀ p∈l,p < size)∧l.Pairwise (· < ·)
instance (l:List Nat) (size:Nat):Decidable (Uq l size):=inferInstanceAs (Decidable (_∧_))
theorem MT {l:List Nat} {x:Nat} (h:l.Pairwise (· < ·)) (hx:∀ y,l.getLast? = some y→y < x):(l++[x]).Pairwise (· < ·):=by
 rw[pairwise_append];refine⟨h,by simp,fun a ha b hb=>?_⟩;simp at hb;subst hb
 obtain⟨y,hy⟩:∃ y,l.getLast? = some y:=by
  cases l with
  | nil=>cases ha
  | cons c l=>exact⟨_,getLast?_eq_some_getLast (by simp)⟩
 have h1:=hx y hy
 have h2:a≤y:=by
  obtain⟨l',rfl⟩:=getLast?_eq_some_iff.1 hy;rw[pairwise_append] at h;simp at ha
  rcases ha with ha|rfl
  ·exact Nat.le_of_lt (h.2.2 a ha y (by simp))
  ·exact Nat.le_refl _
 omega
structure QJ where
 fixed:Nat
 refs:List Nat
 record:Nat
 recs:List Nat
def VT (l:QJ):Prop:=l.fixed≤64∧l.record≤64∧l.fixed+l.record≠0∧Uq l.refs l.fixed∧Uq l.recs l.record
instance (l:QJ):Decidable (VT l):=inferInstanceAs (Decidable (_∧_))
def V9 (l:QJ) (count:Int):Nat×Nat:=
 if count < 0∨count > 1024∨(count > 0∧l.record=0) then (0,3)
 else if l.fixed+count.toNat*l.record≥8192 then (0,10) else (l.fixed+count.toNat*l.record,0)
def VW (l:QJ) (p:Nat):Bool:=if p < l.fixed then decide (p∈l.refs) else decide ((p - l.fixed) % l.record∈l.recs)
def RW (a b c:Nat):QJ:=⟨a % 256,VS b 64,a / 256,VS c 64⟩
def ZX (ws:List Nat):Option QJ:=
 match ws with
 | [a,b,c]=>if a < 65536∧VT (RW a b c) then some (RW a b c) else none
 | _=>none
theorem TC {ws:List Nat} {l:QJ} (h:ZX ws=some l):VT l:=by
 unfold ZX at h;split at h
 ·split at h
  ·rename_i h1;cases h;exact h1.2
  ·cases h
 ·cases h
theorem Hj {l:QJ} {c:Int} {n:Nat} (h:V9 l c=(n,0)):0≤c∧c≤1024∧n=l.fixed+c.toNat*l.record∧n < 8192∧(c > 0→l.record≠0):=by
 unfold V9 at h;split at h
 ·cases h
 ·split at h
  ·cases h
  ·rename_i h1 h2;injection h with h3 h4
   omega
theorem Ma [Q4] (v:Value) (l:List Nat) (size:Nat) (hl:l.length≤1000000) {w:World} {fr:List Q2} (hr:Vh fr v l.length 1 (QA l)) (H:Q0 w fr) :
  Calls Tryz.prog 207 #[v,.int .i64 size] w (ret fun x w'=>(∃ b,x = .bool b∧(b=true↔Uq l size))∧Q0 w' fr):=by
 obtain⟨_,ad,cap,rfl,hr⟩:=hr;refine QV Tryz.func207 rfl (by kernel_rfl) ?_;refine Wz H ?_;refine Qi (fun ms σ w q=>ms=[]∧∃ i:Nat,i≤l.length∧q=l.length - i∧Uq (l.take i) size∧σ 0 = .slice ad l.length cap∧σ 1 = .int .i64 size∧σ 7 = .slice ad l.length cap∧σ 8 = .int .i64 l.length∧σ 9 = .int .i64 i∧Q0 w fr) (m:=l.length) ⟨rfl,0,by omega,rfl,⟨by simp,by simp⟩,rfl,rfl,rfl,rfl,rfl,H⟩ ?_;clear H;rintro ms σ w q ⟨rfl,i,hi,rfl,hR,g0,g1,g7,g8,g9,H⟩;rw[Q1 g0,Q1 g1,Q1 g7,Q1 g8,Q1 g9];refine J6 H ?_;refine Qh rfl (fun h=>QR ?_) (fun h=>Qj ?_)
 ·have hlt:i < l.length:=by omega
  have hx:=getElem?_eq_getElem hlt;have htk:l.take (i+1)=l.take i++[l[i]]:=by rw[take_add_one,hx];rfl
  have hmem:l[i]∈l:=getElem_mem hlt;generalize l[i]=x at hx htk hmem
  rcases hr with hr|⟨b,o,E,fz,c,rfl,hA,hrd⟩
  ·omega
  haveI:=hA
  have hcell:c[o+i*1]? = some (.int .i64 x):=by
   rw[Nat.mul_one];exact hrd.get i _ (by simp[QA,hx])
  refine BC H ?_;refine Jd ?_;refine Q5 rfl (QW H rfl hcell rfl ?_);refine J2 H ?_;refine Vi H ?_;rw[show decide ((x:Int) < 0)=false from decide_eq_false (by omega)];refine Gw H ?_;refine Jv ?_;by_cases hxs:x < size
  ·rw[show decide ((x:Int)≥(size:Int))=false from decide_eq_false (by omega)];refine XS H ?_;by_cases hi0:0 < i
   ·rw[show decide ((i:Int) > 0)=true from decide_eq_true (by omega)];refine Yy H ?_;refine Gw H ?_;rw[Qb (x:=(i:Int) - 1) (by omega) (by omega),show (i:Int) - 1=((i - 1:Nat):Int) by omega];have hy:=getElem?_eq_getElem (l:=l) (i:=i - 1) (by omega)
    have hlast:(l.take i).getLast? = some l[i - 1]:=by
     rw[getLast?_eq_getElem?,length_take,Nat.min_eq_left hi,getElem?_take_of_lt (by omega),hy]
    have hpw:l.Pairwise (· < ·)→l[i - 1] < x:=fun hp=>by
     have:=pairwise_iff_getElem.1 hp (i - 1) i (by omega) hlt (by omega)
     have e:l[i]=x:=by
      have:=getElem?_eq_getElem hlt;rw[hx] at this;exact(Option.some.inj this).symm
     omega
    generalize l[i - 1]'(by omega)=y at hy hlast hpw
    have hcell2:c[o+(i - 1)*1]? = some (.int .i64 y):=by
     rw[Nat.mul_one];exact hrd.get (i - 1) _ (by simp[QA,hy])
    refine QT rfl rfl rfl (Gq rfl rfl (by omega) (by omega) rfl ?_);refine QT rfl rfl rfl (QW H rfl hcell2 rfl ?_);refine Yy H ?_;refine YK H ?_;refine Qh rfl (fun h=>?_) (fun h=>QR ?_)
    ·refine VJ H ?_
     exact Q3 (Jy H rfl fun w' H'=>⟨⟨false,rfl,by
      constructor
      ·intro h';cases h'
      ·rintro⟨_,h2⟩;have:=hpw h2;omega⟩,H'⟩)
    ·refine J3 H ?_;refine⟨_,⟨rfl,i+1,hlt,rfl,?_,rfl,rfl,rfl,rfl,Qa (by omega),H⟩,by omega⟩;rw[htk];refine⟨fun p hp=>?_,MT hR.2 fun z hz=>?_⟩
     ·simp at hp
      rcases hp with hp|rfl
      ·exact hR.1 p hp
      ·exact hxs
     ·rw[hlast] at hz;cases hz;omega
   ·have hi00:i=0:=by omega
    subst hi00;rw[show decide (((0:Nat):Int) > 0)=false from rfl];refine YT H ?_;refine Bg H ?_;refine YT H ?_;refine KK H ?_;refine⟨_,⟨rfl,1,hlt,rfl,?_,rfl,rfl,rfl,rfl,Qa (i:=0) (by omega),H⟩,by omega⟩;rw[htk];exact⟨by simpa using hxs,by simp⟩
  ·rw[show decide ((x:Int)≥(size:Int))=true from decide_eq_true (by omega)];refine Dd H ?_;refine XT H ?_;refine XT H ?_;refine W4 H ?_;refine UK H ?_
   exact Q3 (Jy H rfl fun w' H'=>⟨⟨false,rfl,by
    constructor
    ·intro h';cases h'
    ·rintro⟨h1,_⟩;have:=h1 x hmem;omega⟩,H'⟩)
 ·have hge:i=l.length:=by omega
  subst hge;rw[take_length] at hR;refine VJ H ?_;exact Q3 (Jy H rfl fun w' H'=>⟨⟨true,rfl,by simp[hR]⟩,H'⟩)
@[reducible] def Ys (f:Nat) (vr:Value) (r:Nat) (vq:Value):Value := .agg #[.int .i64 f,vr,.int .i64 r,vq]
structure UC (fr:List Q2) (vr vq:Value) (l:QJ):Prop where
 r:Vh fr vr l.refs.length 1 (QA l.refs)
 q:Vh fr vq l.recs.length 1 (QA l.recs)
theorem UC.there {A:Q2} {fr:List Q2} {vr vq:Value} {l:QJ} (h:UC fr vr vq l):UC (A::fr) vr vq l:=⟨h.r.there,h.q.there⟩
structure Ei (l:QJ):Prop where
 f:l.fixed≤1000000
 r:l.record≤1000000
 a:l.refs.length≤1000000
 b:l.recs.length≤1000000
theorem Hk [Q4] (vr vq:Value) (l:QJ) (hs:Ei l) {w:World} {fr:List Q2} (hr:UC fr vr vq l) (H:Q0 w fr) :
  Calls Tryz.prog 137 #[Ys l.fixed vr l.record vq] w (ret fun x w'=>(∃ b,x = .bool b∧(b=true↔VT l))∧Q0 w' fr):=by
 obtain⟨s1,s2,s3,s4⟩:=hs;obtain⟨hr1,hr2⟩:=hr;obtain⟨_,ad1,cap1,rfl,hr1'⟩:=id hr1;obtain⟨_,ad2,cap2,rfl,hr2'⟩:=id hr2;refine QV Tryz.func137 rfl (by kernel_rfl) ?_;refine J8 H ?_;clear H;intro b1 w H;refine YK H ?_;refine Y1 (fun ms σ w=>ms=[]∧(l.fixed≤64∧l.record≤64∧l.fixed+l.record≠0)∧σ 1=pp b1∧Q0 w (pts b1 (row 164 [.int .i64 l.fixed,.slice ad1 l.refs.length cap1,.int .i64 l.record,.slice ad2 l.recs.length cap2])::fr)) ?_ ?_
 ·refine QS ?_;refine Kv H ?_;rw[show decide ((l.fixed:Int) < 0)=false from decide_eq_false (by omega)];refine Wy H ?_;by_cases h1:l.fixed≤64
  ·rw[show decide ((l.fixed:Int) > 64)=false from decide_eq_false (by omega)];refine KQ H ?_;refine Kv H ?_;rw[show decide ((l.record:Int) < 0)=false from decide_eq_false (by omega)];refine Wy H ?_;by_cases h2:l.record≤64
   ·rw[show decide ((l.record:Int) > 64)=false from decide_eq_false (by omega)];refine KQ H ?_;refine Bh H ?_;refine A7 H ?_;rw[Qb (x:=(l.fixed:Int)+(l.record:Int)) (by omega) (by omega)];by_cases h3:l.fixed+l.record=0
    ·rw[show (((l.fixed:Int)+(l.record:Int)) == 0)=true by simp;omega];refine YR H ?_;exact Q3 (.inr ⟨by simp,Jy H.drop rfl fun w' H'=>⟨⟨false,rfl,⟨fun h=>(by cases h),fun h=>by unfold VT at h;omega⟩⟩,H'⟩⟩)
    ·rw[show (((l.fixed:Int)+(l.record:Int)) == 0)=false by simp;omega];refine V8 H ?_;exact .inl ⟨rfl,rfl,⟨h1,h2,h3⟩,rfl,H⟩
   ·rw[show decide ((l.record:Int) > 64)=true from decide_eq_true (by omega)];refine K9 H ?_;refine VE rfl (QR ?_);refine YR H ?_;exact Q3 (.inr ⟨by simp,Jy H.drop rfl fun w' H'=>⟨⟨false,rfl,⟨fun h=>(by cases h),fun h=>by unfold VT at h;omega⟩⟩,H'⟩⟩)
  ·rw[show decide ((l.fixed:Int) > 64)=true from decide_eq_true (by omega)];refine K9 H ?_;refine VE rfl (QR ?_);refine YR H ?_;exact Q3 (.inr ⟨by simp,Jy H.drop rfl fun w' H'=>⟨⟨false,rfl,⟨fun h=>(by cases h),fun h=>by unfold VT at h;omega⟩⟩,H'⟩⟩)
 ·clear H;rintro ms σ w ⟨rfl,⟨h1,h2,h3⟩,g1,H⟩;rw[Q1 g1];refine Bh H ?_;refine Jc rfl rfl (Ma _ l.refs l.fixed s3 hr1.there H) ?_;clear H;rintro v w ⟨⟨b,rfl,hb⟩,H⟩;refine Jv ?_;cases b with
  | true=>
   refine DC H ?_;refine QT rfl rfl rfl (V0 (a:=[]) (b:=[]) rfl rfl (call (Ma _ l.recs l.record s4 hr2.there H) ?_));clear H;rintro v w ⟨⟨b,rfl,hb2⟩,H⟩;refine J2 H ?_;refine Q3 (Jy H.drop rfl fun w' H'=>⟨⟨b,rfl,?_⟩,H'⟩);rw[hb2];exact⟨fun h=>⟨h1,h2,h3,hb.1 rfl,h⟩,fun h=>h.2.2.2.2⟩
  | false=>
   refine W5 H ?_;refine Qu rfl rfl rfl ?_;refine J2 H ?_;refine Q3 (Jy H.drop rfl fun w' H'=>⟨⟨false,rfl,⟨fun h=>(by cases h),fun h=>?_⟩⟩,H'⟩);have:=hb.2 h.2.2.2.1;cases this
theorem RH:∀ (l:List Nat) (lo size:Nat),(∀ p∈l,lo≤p∧p < size)→l.Pairwise (· < ·)→l.length≤size - lo
 | [],_,_,_,_=>Nat.zero_le _
 | a::l,lo,size,h,hp=>by
  rw[pairwise_cons] at hp;have h1:=RH l (a+1) size (fun p hx=>⟨hp.1 p hx,(h p (mem_cons_of_mem _ hx)).2⟩) hp.2;have h2:=h a (mem_cons_self ..);simp only[length_cons];omega
theorem Uq.len {l:List Nat} {n:Nat} (h:Uq l n):l.length≤n:=by
 have:=RH l 0 n (fun p hp=>⟨Nat.zero_le _,h.1 p hp⟩) h.2;omega
theorem VT.small {l:QJ} (h:VT l):Ei l:=by
 obtain⟨h1,h2,_,h4,h5⟩:=h;have:=h4.len;have:=h5.len;exact⟨by omega,by omega,by omega,by omega⟩
def Xm:List Fl:=[(0,8),(8,8),(16,48)]
theorem TD:RU Xm:=by
 refine⟨?_,?_⟩
 ·intro f hf;simp[Xm] at hf
  rcases hf with rfl|rfl|rfl <;> simp[RG]
 ·simp[Xm]
theorem TE [Q4] {w:World} {fr:List Q2} (H:Q0 w fr):Calls Tryz.prog 135 #[] w (ret fun v w'=>Q0 w' (FL v Xm::fr)):=by
 refine QV Tryz.func135 rfl (by kernel_rfl) ?_;refine DI H ?_;refine Gu H ?_;refine BD H ?_;clear H;intro b4 w H;refine J0 H ?_;exact Q3 (Jy (Uh (len:=3) (by rfl) H) rfl fun w' H'=>H')
theorem CG [Q4] (vr vq:Value) (l:QJ) (hR:VT l) (count:Int) {w:World} {fr:List Q2} (hr:UC fr vr vq l) (H:Q0 w fr) :
  Calls Tryz.prog 79 #[Ys l.fixed vr l.record vq,.int .i64 count] w (ret fun x w'=>x = .tuple #[.int .i64 ((V9 l count).1:Nat),.int .i64 ((V9 l count).2:Nat)]∧Q0 w' fr):=by
 have hf:=hR.1;have hc:=hR.2.1;obtain⟨_,ad1,cap1,rfl,hr1⟩:=id hr.r;obtain⟨_,ad2,cap2,rfl,hr2⟩:=id hr.q;refine QV Tryz.func79 rfl (by kernel_rfl) ?_;refine J8 H ?_;clear H;intro b2 w H;refine K9 H ?_;refine Y1 (fun ms σ w=>ms=[]∧(0≤count∧count≤1024∧(count > 0→l.record≠0))∧σ 1 = .int .i64 count∧σ 2=pp b2∧Q0 w (pts b2 (row 164 [.int .i64 l.fixed,.slice ad1 l.refs.length cap1,.int .i64 l.record,.slice ad2 l.recs.length cap2])::fr)) ?_ ?_
 ·refine QS ?_;refine GG H ?_;refine Jc rfl rfl (Hk _ _ l hR.small hr.there H) ?_;clear H;rintro v w ⟨⟨b,rfl,hb⟩,H⟩;obtain rfl:=hb.2 hR;refine KQ H ?_;refine Vi H ?_;by_cases c0:count < 0
  ·have hs:V9 l count=(0,3):=by unfold V9;rw[if_pos (by omega)]
   rw[show decide (count < 0)=true from decide_eq_true (by omega)];refine Bi H ?_;refine De H ?_;refine Df H ?_;refine Yi H ?_;exact Q3 (.inr ⟨by simp,Jy H.drop rfl fun w' H'=>⟨by rw[hs];rfl,H'⟩⟩)
  ·rw[show decide (count < 0)=false from decide_eq_false (by omega)];refine Yy H ?_;by_cases c1:count > 1024
   ·have hs:V9 l count=(0,3):=by unfold V9;rw[if_pos (by omega)]
    rw[show decide (count > 1024)=true from decide_eq_true (by omega)];refine De H ?_;refine Df H ?_;refine Yi H ?_;exact Q3 (.inr ⟨by simp,Jy H.drop rfl fun w' H'=>⟨by rw[hs];rfl,H'⟩⟩)
   ·rw[show decide (count > 1024)=false from decide_eq_false (by omega)];refine Jv ?_;refine Jv ?_;refine VZ rfl rfl rfl rfl ?_;refine VZ rfl rfl rfl rfl ?_;by_cases c2:count > 0
    ·rw[show decide (count > 0)=true from decide_eq_true (by omega)];refine W6 H ?_;by_cases c3:l.record=0
     ·have hs:V9 l count=(0,3):=by unfold V9;rw[if_pos (by omega)]
      rw[show ((l.record:Int) == 0)=true by simp;omega];refine XP H ?_;refine Yi H ?_;exact Q3 (.inr ⟨by simp,Jy H.drop rfl fun w' H'=>⟨by rw[hs];rfl,H'⟩⟩)
     ·rw[show ((l.record:Int) == 0)=false by simp;omega];refine XP H ?_;refine V8 H ?_;exact .inl ⟨rfl,rfl,⟨by omega,by omega,fun _=>c3⟩,rfl,rfl,H⟩
    ·rw[show decide (count > 0)=false from decide_eq_false (by omega)];refine YT H ?_;refine A8 H ?_;refine XP H ?_;refine V8 H ?_;exact .inl ⟨rfl,rfl,⟨by omega,by omega,fun h=>absurd h c2⟩,rfl,rfl,H⟩
 ·clear H;rintro ms σ w ⟨rfl,⟨c0,c1,c2⟩,g1,g2,H⟩;rw[Q1 g1,Q1 g2];obtain⟨c,rfl⟩:∃ c:Nat,count=c:=⟨count.toNat,by omega⟩;have hcm:c*l.record≤1024*64:=Nat.mul_le_mul (by omega) hc;have hcm2:(c:Int)*(l.record:Int)=((c*l.record:Nat):Int):=(Int.natCast_mul _ _).symm;refine Kv H ?_;refine Dg H ?_;refine YI H ?_;rw[hcm2,Qb (x:=((c*l.record:Nat):Int)) (by omega) (by omega),Qb (x:=(l.fixed:Int)+((c*l.record:Nat):Int)) (by omega) (by omega)];by_cases c3:l.fixed+c*l.record≥8192
  ·have hs:V9 l (c:Int)=(0,10):=by unfold V9;rw[if_neg (by omega),if_pos (by simpa using c3)]
   rw[show decide ((l.fixed:Int)+((c*l.record:Nat):Int)≥8192)=true from decide_eq_true (by omega)];refine Yi H ?_;exact Q3 (Jy H.drop rfl fun w' H'=>⟨by rw[hs];rfl,H'⟩)
  ·have hs:V9 l (c:Int)=(l.fixed+c*l.record,0):=by unfold V9;rw[if_neg (by omega),if_neg (by simpa using c3)];simp
   rw[show decide ((l.fixed:Int)+((c*l.record:Nat):Int)≥8192)=false from decide_eq_false (by omega)];refine A9 H ?_;exact Q3 (Jy H.drop rfl fun w' H'=>⟨by rw[hs];show Value.tuple #[.int .i64 ((l.fixed:Int)+((c*l.record:Nat):Int)),_]=_;rw[← Int.natCast_add];rfl,H'⟩)
theorem CU [Q4] (v:Value) (l:List Nat) (hl:l.length≤1000000) {w:World} {fr:List Q2} (hr:Vh fr v l.length 1 (QA l)) (H:Q0 w fr) :
  Calls Tryz.prog 97 #[v] w (ret fun x w'=>Q0 w' (NL x l::fr)):=by
 obtain⟨hr1,ad,cap,rfl,hr'⟩:=id hr;refine QV Tryz.func97 rfl (by kernel_rfl) ?_;refine R3 H ?_;refine Q5 rfl (S8 rfl rfl (.inl rfl) rfl ?_);refine Q6 ?_;cases ad with
 | none=>
  have h0:l.length=0:=by
   rcases hr' with h|⟨b,o,E,fz,c,h,_⟩
   ·exact h
   ·cases h
  have hn:l=[]:=eq_nil_of_length_eq_zero h0;subst hn;refine YR H ?_;exact Q3 (Jy (Yn H) rfl fun w' H'=>H')
 | some ad=>
  refine V8 H ?_;refine Yq H ?_;refine Q5 rfl (SY H rfl ?_);clear H;intro b5 w H;refine Jv ?_;refine Q5 rfl (Fy H rfl rfl hr (by simp[QA,all_eq_true,Value.oneCell']) (by rw[QE];simp only[length_nil];omega) rfl rfl ?_);clear H;intro v7 w H;refine UR H ?_;exact Q3 (Jy H rfl fun w' H'=>H')
theorem Mb [Q4] (vr vq:Value) (l:QJ) (hs:Ei l) {w:World} {fr:List Q2} (hr:UC fr vr vq l) (H:Q0 w fr) :
  Calls Tryz.prog 138 #[Ys l.fixed vr l.record vq] w (ret fun x w'=>∃ vr' vq',x=Ys l.fixed vr' l.record vq'∧Q0 w' (NL vr' l.refs::NL vq' l.recs::fr)):=by
 obtain⟨_,ad1,cap1,rfl,hr1⟩:=id hr.r;obtain⟨_,ad2,cap2,rfl,hr2⟩:=id hr.q;refine QV Tryz.func138 rfl (by kernel_rfl) ?_;refine J8 H ?_;clear H;intro b1 w H;refine VQ H ?_;clear H;intro b2 w H;refine Q6 ?_;refine J1 H ?_;clear H;intro w H;refine Jf 0 ?_;refine Jl 1 [2,5,7,9] H ?_;refine Jf 3 ?_;refine Jl 4 [5,7,9] H ?_;refine Jo 2 H ?_;refine Jk rfl rfl (CU _ l.refs hs.a hr.r.there.there H) ?_;clear H;rintro v5 w H;obtain⟨a5,m5,c5,rfl⟩:=Qq H;refine Jf 6 ?_;refine Jo 5 H ?_;refine Jk rfl rfl (CU _ l.recs hs.b hr.q.there.there.there H) ?_;clear H;rintro v8 w H;obtain⟨a8,m8,c8,rfl⟩:=Qq H
 refine Jo 7 H ?_;refine Uj H ?_;clear H;intro w H;refine Jf 8 ?_;refine Jo 9 H ?_;refine Uj H ?_;clear H;intro w H;refine Jx H ?_;refine KZ H ?_;clear H;intro w H;refine Q6 ?_;replace H:=Js [2,1,0] 1 H;exact Q3 (Jz H (fun w' H' => .cellN H' rfl (by repeat first|exact .nil _|apply QZ.cons rfl) .nil) fun w' H'=>⟨_,_,rfl,H'.drop⟩)
theorem CX [Q4] (x:Nat) (hx:x < 18446744073709551616) {w:World} {fr:List Q2} [hT:YX 0 Lib.deBruijn64tab fr] (H:Q0 w fr) :
  Calls Tryz.prog 136 #[.int .u64 x] w (ret fun v w'=>Q0 w' (NL v (VS x 64)::fr)):=by
 refine QV Tryz.func136 rfl (by kernel_rfl) ?_;refine HG H ?_;refine Qi (fun ms σ w n=>ms=[]∧∃ (k y:Nat) (g:Value),k≤64∧n=64 - k∧y < 18446744073709551616∧(∀ i,y.testBit i=(x.testBit i && decide (k≤i)))∧σ 0 = .int .u64 y∧σ 3=g∧Q0 w (NL g (VS x k)::fr)) (m:=64) ⟨rfl,0,x,_,by omega,rfl,hx,fun i=>by simp,rfl,rfl,Yn H⟩ ?_;clear H;rintro ms σ w n ⟨rfl,k,y,g,hk,rfl,hy,hbit,g0,g3,H⟩;obtain⟨ag,mg,cg,rfl⟩:=Qq H;rw[Q1 g0,Q1 g3];refine J3 H ?_;by_cases h0:y=0
 ·rw[show ((y:Int) != 0)=false by simp;exact h0];refine J7 H ?_;refine VY rfl (Qj ?_)
  have he:VS x 64=VS x k:=Hi (by omega) (fun i h1 h2=>by
   have:=hbit i;rw[h0,Nat.zero_testBit] at this;simpa [h1] using this.symm)
  rw[← he] at H;refine J3 H ?_;exact Q3 (Jy H rfl fun w' H'=>H')
 ·rw[show ((y:Int) != 0)=true by simp;exact h0];refine J7 H ?_;refine VE rfl (QR ?_);obtain⟨ht1,ht2,ht3⟩:=Hd h0 hy;refine KX H ?_;refine Jc rfl rfl (He y hy H) ?_;clear H;rintro v w ⟨rfl,H⟩;refine GX H ?_;clear H;intro b13 w H;generalize Lib.ctz 64 y=t at ht1 ht2 ht3 H;replace H:=Js [1,0] 0 H;refine Q5 rfl (YF H rfl rfl (by repeat first|exact .nil _|apply QZ.cons rfl) rfl (by decide) (by rw[QE];have:=AM x k;simp only[length_cons,length_nil];omega) rfl rfl ?_);clear H;intro v14 w H;obtain⟨a14,m14,c14,rfl⟩:=Qq H;refine J0 H ?_;have hb:=hbit t;rw[ht2] at hb;have hb1:x.testBit t=true∧k≤t:=by simpa using hb.symm
  have hcl:=TB ht2 ht3;have hyl:y &&& (y - 1) < 18446744073709551616:=Nat.lt_of_le_of_lt Nat.and_le_left hy;refine KU H ?_
  have e1:IntKind.u64.wrap ((y:Int) - 1)=((y - 1:Nat):Int):=by
   rw[show (y:Int) - 1=((y - 1:Nat):Int) by omega,UG (by omega)]
  rw[e1,DR hy (by omega)]
  have e2:VS x (t+1)=VS x k++[t]:=by
   rw[Eh,hb1.1,if_pos rfl,Hi hb1.2 (fun i h1 h2=>?_)];have h3:=ht3 i h2;rw[hbit i] at h3;simpa [h1] using h3
  refine⟨_,⟨rfl,t+1,y &&& (y - 1),_,by omega,rfl,hyl,fun i=>?_,rfl,rfl,?_⟩,by omega⟩
  ·rw[hcl,hbit i];by_cases h1:i < t
   ·have h3:=ht3 i h1;rw[hbit i] at h3;rw[h3,show decide (t+1≤i)=false by simp;omega];simp
   ·by_cases h2:i=t
    ·subst h2;simp
    ·rw[show decide (t+1≤i)=true by simp;omega,show decide (k≤i)=true by simp;omega];simp[h2]
  ·rw[e2];show Q0 w (QC _ 1 _ (QA (VS x k++[t]))::_);rw[WW];exact Q0.drop H.swap
theorem AN (x y z:Nat):ZX [x,y,z]=if x < 65536∧VT (RW x y z) then some (RW x y z) else none:=rfl
theorem TF [Q4] (v:Value) (n:Nat) (hn:n≠3) (hv:∃ a c,v = .slice a n c) {w:World} {fr:List Q2} (H:Q0 w fr) :
  Calls Tryz.prog 75 #[v] w (ret fun x w'=>x = .tuple #[Ys 0 (.slice none 0 0) 0 (.slice none 0 0),.int .i64 4]∧Q0 w' fr):=by
 obtain⟨a,c,rfl⟩:=hv;refine QV Tryz.func75 rfl (by kernel_rfl) ?_;refine YS H ?_;clear H;intro b2 w H;refine Dh H ?_;rw[show ((n:Int) != 3)=true by simp;omega];refine BJ H ?_;clear H;intro w H;refine J0 H ?_;exact Q3 (Jz H (fun w' H' => .cellN H' rfl (by repeat first|exact .nil _|apply QZ.cons rfl) (.tmp .nil)) fun w' H'=>⟨rfl,H'.drop⟩)
theorem TH [Q4] (v:Value) (x y z:Nat) (hx:x < 18446744073709551616) (hy:y < 18446744073709551616) (hz:z < 18446744073709551616) {w:World} {fr:List Q2} [hT:YX 0 Lib.deBruijn64tab fr] (hr:Vh fr v 3 1 (QP [x,y,z])) (H:Q0 w fr) :
  Calls Tryz.prog 75 #[v] w (ret fun r w'=>(ZX [x,y,z]=none∧r = .tuple #[Ys 0 (.slice none 0 0) 0 (.slice none 0 0),.int .i64 4]∧Q0 w' fr) ∨
   ∃ l vr vq,ZX [x,y,z]=some l∧r = .tuple #[Ys l.fixed vr l.record vq,.int .i64 0]∧Q0 w' (NL vr l.refs::NL vq l.recs::fr)):=by
 obtain⟨_,ad,cap,rfl,hr'⟩:=id hr
 rcases hr' with h|⟨b,o,E,fz,c,rfl,hA,hrd⟩
 ·omega
 haveI:=hA;have c0:c[o+0*1]? = some (.int .u64 x):=by have:=hrd.get 0 (.int .u64 x) (by simp[QP]);simpa using this
 have c1:c[o+1*1]? = some (.int .u64 y):=by have:=hrd.get 1 (.int .u64 y) (by simp[QP]);simpa using this
 have c2:c[o+2*1]? = some (.int .u64 z):=by have:=hrd.get 2 (.int .u64 z) (by simp[QP]);simpa using this
 refine QV Tryz.func75 rfl (by kernel_rfl) ?_;refine YS H ?_;clear H;intro b2 w H;refine DL H ?_;refine Q5 rfl (ZY rfl rfl ?_);refine Vo H ?_;refine J1 H ?_;clear H;intro w H;refine Ja 0 ?_;refine Ji 1 ?_;refine Vg 2 [4] H rfl (Q9.none rfl) rfl c0 (by kernel_rfl) ?_;refine Jo 3 H ?_;refine Jk rfl rfl (TE H) ?_;clear H;rintro v w H;refine Jo 4 H ?_;refine Jk rfl rfl (HE x hx _ Xm TD (by decide) H) ?_;clear H;rintro v2 w ⟨u,rfl,H⟩;obtain⟨au,cu,rfl⟩:=QD H (m:=3) (by simp[QP,Xm]) (by decide);refine Ja 5 ?_;refine W7 H ?_;refine Ja 9 ?_;refine Jx H ?_;obtain⟨bu,su,rfl,H,hclose⟩:=Qw H (by omega);have d0:(QP (Xm.map (Yr x))++su)[0+0*1]? = some (.int .u64 (Yr x (0,8))):=rfl;have d1:(QP (Xm.map (Yr x))++su)[0+1*1]? = some (.int .u64 (Yr x (8,8))):=rfl;have d2:(QP (Xm.map (Yr x))++su)[0+2*1]? = some (.int .u64 (Yr x (16,48))):=rfl
 have e8:IntKind.i64.wrap ((Yr x (0,8):Nat):Int)=((x % 256:Nat):Int):=by
  rw[K6 (by have:=Nat.mod_lt (x / 2 ^ 0) (show 0 < 2 ^ 8 by decide);show x / 2 ^ 0 % 2 ^ 8 < _;omega)];show ((x / 2 ^ 0 % 2 ^ 8:Nat):Int)=_;simp
 have e16:IntKind.i64.wrap ((Yr x (8,8):Nat):Int)=((x / 256 % 256:Nat):Int):=by
  rw[K6 (by have:=Nat.mod_lt (x / 2 ^ 8) (show 0 < 2 ^ 8 by decide);show x / 2 ^ 8 % 2 ^ 8 < _;omega)];rfl
 refine J7 H ?_
 refine Y1 (fun ms σ w=>ms=[]∧∃ b6 va vb,σ 2=pp b2∧σ 4 = .slice (some ⟨bu,0,none⟩) 3 cu∧σ 6=pp b6 ∧
  Q0 w (pts b6 (row 164 [.int .i64 ((x % 256:Nat):Int),va,.int .i64 ((x / 256 % 256:Nat):Int),vb])::NL va (VS y 64)::NL vb (VS z 64)::pts bu (row 94 (QP (Xm.map (Yr x))++su))::pts b2 (row 164 [.int .i64 0,.slice none 0 0,.int .i64 0,.slice none 0 0])::fr)) ?_ ?_
 ·replace H:=Js [0,1] 1 H;refine J1 H ?_;clear H;intro w H;refine Ja 0 ?_;refine Ji 1 ?_;refine Vg 2 [18] H rfl (Q9.none rfl) rfl d0 (by kernel_rfl) ?_;refine DJ H ?_;refine Ja 4 ?_;refine Ji 5 ?_;refine Vg 6 [7] H rfl (Q9.none rfl) rfl c1 (by kernel_rfl) ?_;refine Ja 8 ?_;refine Ji 9 ?_;refine Vg 10 [18] H rfl (Q9.none rfl) rfl d1 (by kernel_rfl) ?_;refine Gt 11 rfl (Q9.none rfl) rfl (by kernel_rfl) ?_;refine Ja 12 ?_;refine Ji 13 ?_;refine Vg 14 [15] H rfl (Q9.none rfl) rfl c2 (by kernel_rfl) ?_;rw[e8,e16];refine Jw 7 17 H rfl rfl (V0 (a:=[]) (b:=[]) rfl rfl (call (CX y hy H) ?_)) (Vr H rfl ?_)
  ·clear H;intro va w H;obtain⟨aa,ma,ca,rfl⟩:=Qq H;refine Jw 15 17 H rfl rfl (V0 (a:=[]) (b:=[]) rfl rfl (call (CX z hz H) ?_)) (Vr H rfl ?_)
   ·clear H;intro vb w H;obtain⟨ab,mb,cb,rfl⟩:=Qq H;refine GY 16 rfl (Q9.none rfl) rfl (by kernel_rfl) ?_;refine Jo 17 H ?_;refine Vr H rfl ?_;clear H;intro b6 w H;refine Jo 18 H ?_;refine Gv H ?_;clear H;intro w H;refine Jx H ?_;replace H:=Js [0,1,0,0,0] 0 H;exact .inl ⟨rfl,rfl,b6,_,_,rfl,rfl,rfl,H⟩
   ·clear H;intro b6 w H;refine Jo 15 H ?_;refine Jk rfl rfl (CX z hz H) ?_;clear H;intro vb w H;obtain⟨ab,mb,cb,rfl⟩:=Qq H;refine GY 16 rfl (Q9.none rfl) rfl (by kernel_rfl) ?_;refine Jo 18 H ?_;refine Gv H ?_;clear H;intro w H;refine Jx H ?_;replace H:=Js [1,1,0,0,0] 0 H;exact .inl ⟨rfl,rfl,b6,_,_,rfl,rfl,rfl,H⟩
  ·clear H;intro b6 w H;refine Jo 7 H ?_;refine Jk rfl rfl (CX y hy H) ?_;clear H;intro va w H;obtain⟨aa,ma,ca,rfl⟩:=Qq H;refine Jo 15 H ?_;refine Jk rfl rfl (CX z hz H) ?_;clear H;intro vb w H;obtain⟨ab,mb,cb,rfl⟩:=Qq H;refine GY 16 rfl (Q9.none rfl) rfl (by kernel_rfl) ?_;refine Jo 18 H ?_;refine Gv H ?_;clear H;intro w H;refine Jx H ?_;replace H:=Js [2,1,0,0,0] 0 H;exact .inl ⟨rfl,rfl,b6,_,_,rfl,rfl,rfl,H⟩
 ·clear H;rintro ms σ w ⟨rfl,b6,va,vb,g2,g4,g6,H⟩;rw[Q1 g2,Q1 g4,Q1 g6];have hla:=AM y 64;have hlb:=AM z 64;obtain⟨aa,ca,rfl⟩:=QD (H.drop) (QE (VS y 64)) (by decide);obtain⟨ab,cb,rfl⟩:=QD (H.drop.drop) (QE (VS z 64)) (by decide);refine YQ H ?_;refine Jd ?_;refine Q5 rfl (QW H rfl d2 rfl ?_);refine Jv ?_
  have hn:Yr x (16,48)=x / 65536:=by
   show x / 2 ^ 16 % 2 ^ 48=_;rw[Nat.mod_eq_of_lt (by omega)]
  rw[hn];by_cases hb:x < 65536
  ·rw[show (((x / 65536:Nat):Int) != 0)=false by simp;omega];refine Jv ?_;refine K8 H ?_;have h8:x / 256 % 256=x / 256:=Nat.mod_eq_of_lt (by omega);rw[h8] at H ⊢;replace H:=Js [1,1,0,0,0] 0 H;obtain⟨D1,H,hD1,hC1⟩:=sls_rd H (QE (VS y 64)) (by decide);obtain⟨D2,H,hD2,hC2⟩:=sls_rd H.swap (QE (VS z 64)) (by decide);refine QT rfl rfl rfl (V0 (a:=[]) (b:=[]) rfl rfl (call (Hk _ _ (RW x y z) ⟨by show x % 256≤_;omega,by show x / 256≤_;omega,by show (VS y 64).length≤_;omega,by show (VS z 64).length≤_;omega⟩ ⟨(hD1 _).there,hD2 _⟩ H) ?_));clear H;rintro v w ⟨⟨q,rfl,hq⟩,H⟩;have H:=(hC1 _ _ (hC2 _ _ H).swap);cases q with
   | true=>
    refine Rt H ?_;refine KZ H ?_;clear H;intro w H;refine J0 H ?_;replace H:=Js [4,0,0] 2 H;refine Q3 (Jz H (fun w' H' => .cellN H' rfl (by repeat first|exact .nil _|apply QZ.cons rfl) (.tmp .nil)) fun w' H' => .inr ⟨RW x y z,_,_,?_,rfl,H'.drop⟩);rw[AN];rw[if_pos ⟨hb,hq.1 rfl⟩]
   | false=>
    refine YT H ?_;refine AQ H ?_;clear H;intro w H;refine J0 H ?_;replace H:=Js [4] 4 H;refine Q3 (Jz H (fun w' H' => .cellN H' rfl (by repeat first|exact .nil _|apply QZ.cons rfl) (.tmp .nil)) fun w' H' => .inl ⟨?_,rfl,H'.drop⟩);rw[AN];rw[if_neg];rintro⟨_,h2⟩;have:=hq.2 h2;cases this
  ·rw[show (((x / 65536:Nat):Int) != 0)=true by simp;omega];refine Dd H ?_;refine AQ H ?_;clear H;intro w H;refine J0 H ?_;replace H:=Js [4] 4 H;refine Q3 (Jz H (fun w' H' => .cellN H' rfl (by repeat first|exact .nil _|apply QZ.cons rfl) (.tmp .nil)) fun w' H' => .inl ⟨?_,rfl,H'.drop⟩);rw[AN];rw[if_neg];rintro⟨h1,_⟩;exact hb h1
abbrev Z0:=Value×Value×QJ
@[reducible] def YY (x:Z0):Q2:=star [NL x.1 x.2.2.refs,NL x.2.1 x.2.2.recs]
@[reducible] def Ej (x:Z0):List Value:=[.int .i64 x.2.2.fixed,x.1,.int .i64 x.2.2.record,x.2.1]
def VF (l:List Z0):List Value:=l.flatMap Ej
theorem RI (l:List Z0):(VF l).length=l.length*4:=by
 induction l with
 | nil=>rfl
 | cons x l ih=>simp only[VF,flatMap_cons,length_append,length_cons,length_nil] at *;omega
theorem Mc (a b:List Z0):VF (a++b)=VF a++VF b:=by simp[VF]
theorem Md:∀ {L:List Z0} {i:Nat} {x:Z0},L[i]? = some x→(VF L)[i*4]? = some (.int .i64 x.2.2.fixed)∧(VF L)[i*4+1]? = some x.1∧(VF L)[i*4+2]? = some (.int .i64 x.2.2.record)∧(VF L)[i*4+3]? = some x.2.1
 | y::L,0,x,h=>by
  simp at h;subst h;simp[VF]
 | y::L,i+1,x,h=>by
  have:=Md (L:=L) (i:=i) (by simpa using h);have e:VF (y::L)=Ej y++VF L:=by simp[VF]
  rw[e];rw[show (i+1)*4=i*4+4 by omega];simpa [Ej] using this
theorem Hl {L:List Z0} {spare:List Value} {i:Nat} {x:Z0} (h:L[i]? = some x):QZ (VF L++spare) (0+i*4) 4 (Ej x):=by
 obtain⟨h0,h1,h2,h3⟩:=Md h;have hl:=(List.getElem?_eq_some_iff.1 h3).1;rw[Nat.zero_add];refine QZ.cons ?_ (QZ.cons ?_ (QZ.cons ?_ (QZ.cons ?_ (QZ.nil _))))
 all_goals rw[getElem?_append_left (by omega)]
 ·exact h0
 ·exact h1
 ·exact h2
 ·exact h3
def Qo (p:Nat) (ls:List QJ):Q2:=ex fun q:Value×List Z0=>star [prop (q.2.map (·.2.2)=ls∧ls.length≤64∧∀ x∈ls,VT x),pts p (row 245 [q.1]),QC 164 4 q.1 (VF q.2),star (q.2.map YY)]
theorem Hm [Q4] {w:World} {p:Nat} {ls:List QJ} {l:List Q2} (H:Q0 w (Qo p ls::l)):∃ v q,(q.map (·.2.2)=ls∧ls.length≤64∧∀ x∈ls,VT x)∧Q0 w (pts p (row 245 [v])::QC 164 4 v (VF q)::star (q.map YY)::l):=by
 obtain⟨⟨v,q⟩,H⟩:=Q0.ex.1 H;have H:=Q0.star.1 H;obtain⟨h,H⟩:=Q0.prop.1 H;exact⟨v,q,h,H⟩
theorem AO [Q4] {w:World} {p:Nat} {ls:List QJ} {l:List Q2} {v:Value} {q:List Z0} (h:q.map (·.2.2)=ls∧ls.length≤64∧∀ x∈ls,VT x) (H:Q0 w (pts p (row 245 [v])::QC 164 4 v (VF q)::star (q.map YY)::l)):Q0 w (Qo p ls::l):=
 Q0.ex.2 ⟨(v,q),Q0.star.2 (Q0.prop.2 ⟨h,H⟩)⟩
theorem TI [Q4] {w:World} {fr:List Q2} (H:Q0 w fr):Calls Tryz.prog 71 #[] w (ret fun v w'=>∃ p,v=pp p∧Q0 w' (Qo p []::fr)):=by
 refine QV Tryz.func71 rfl (by kernel_rfl) ?_;refine DI H ?_;refine Um H ?_;clear H;intro b2 w H;refine J0 H ?_;have H:Q0 w (star (([]:List Z0).map YY)::pts b2 (row 245 [.slice none 0 0])::fr):=Q0.star.2 H;have H:=Yn (E:=164) (k:=4) H;replace H:=Js [2,0,0] 0 H;exact Q3 (Jy (AO (q:=[]) ⟨rfl,by simp,by simp⟩ H) rfl fun w' H'=>⟨_,rfl,H'⟩)
theorem TJ [Q4] (p:Nat) (ls:List QJ) (vr vq:Value) (l:QJ) (hR:VT l) {w:World} {fr:List Q2} (hr:UC fr vr vq l) (H:Q0 w (Qo p ls::fr)) :
  Calls Tryz.prog 76 #[pp p,Ys l.fixed vr l.record vq] w (ret fun x w'=>(ls.length=64∧x = .tuple #[.int .i64 0,.int .i64 5]∧Q0 w' (Qo p ls::fr)) ∨
   (ls.length < 64∧x = .tuple #[.int .i64 ((ls.length+1:Nat):Int),.int .i64 0]∧Q0 w' (Qo p (ls++[l])::fr))):=by
 obtain⟨_,ad1,cap1,rfl,hr1⟩:=id hr.r;obtain⟨_,ad2,cap2,rfl,hr2⟩:=id hr.q;obtain⟨v,q,⟨hq,hlen,hall⟩,H⟩:=Hm H;have hql:q.length=ls.length:=by rw[← hq,length_map]
 obtain⟨av,cv,rfl⟩:=QD H.drop (RI q) (by decide);refine QV Tryz.func76 rfl (by kernel_rfl) ?_;refine J8 H ?_;clear H;intro b3 w H;refine K9 H ?_;refine Y1 (fun ms σ w=>ms=[]∧ls.length < 64∧σ 0=pp p∧σ 3=pp b3∧Q0 w (pts b3 (row 164 [.int .i64 l.fixed,.slice ad1 l.refs.length cap1,.int .i64 l.record,.slice ad2 l.recs.length cap2])::pts p (row 245 [.slice av q.length cv])::QC 164 4 (.slice av q.length cv) (VF q)::star (q.map YY)::fr)) ?_ ?_
 ·refine Kz H ?_;refine GG H ?_;refine Jc rfl rfl (Hk _ _ l hR.small hr.there.there.there.there H) ?_;clear H;rintro v w ⟨⟨b,rfl,hb⟩,H⟩;obtain rfl:=hb.2 hR;refine KQ H ?_;refine Di H ?_;refine J2 H ?_;by_cases h64:q.length=64
  ·rw[show ((q.length:Int) == 64)=true by simp;omega];refine Yi H ?_;exact Q3 (.inr ⟨by simp,Jy (AO ⟨hq,hlen,hall⟩ H.drop) rfl fun w' H' => .inl ⟨by omega,rfl,H'⟩⟩)
  ·rw[show ((q.length:Int) == 64)=false by simp;omega];refine V8 H ?_;exact .inl ⟨rfl,rfl,by omega,rfl,rfl,H⟩
 ·clear H;rintro ms σ w ⟨rfl,h64,g0,g3,H⟩;rw[Q1 g0,Q1 g3];refine J1 H ?_;clear H;intro w H;refine W8 H ?_;refine Jl 4 [8,11] H ?_;refine VP 5 [6,7,8,11] H rfl (Q9.none rfl) rfl (by repeat first|exact .nil _|apply QZ.cons rfl) (by kernel_rfl) ?_;refine Jo 6 H ?_;refine Jk rfl rfl (Mb _ _ l hR.small hr.there.there.there.there H) ?_;clear H;rintro v w ⟨vr',vq',rfl,H⟩;obtain⟨a4,m4,c4,rfl⟩:=Qq H;obtain⟨a5,m5,c5,rfl⟩:=Qq H.swap
  refine Jo 7 H ?_;refine Ru H ?_;clear H;intro b27 w H;replace H:=Js [5,0,3,0,0,1] 1 H;refine Jo 8 H ?_;refine YF H rfl rfl (by repeat first|exact .nil _|apply QZ.cons rfl) rfl (by decide) (by rw[RI];simp only[length_cons,length_nil];omega) rfl rfl ?_;clear H;intro v28 w H
  have e1:VF q++[.int .i64 l.fixed,.slice a4 m4 c4,.int .i64 l.record,.slice a5 m5 c5]=VF (q++[(.slice a4 m4 c4,.slice a5 m5 c5,l)]):=by
   rw[Mc];rfl
  rw[e1] at H;have hql':(q++[((.slice a4 m4 c4:Value),(.slice a5 m5 c5:Value),l)]).length=ls.length+1:=by simp[hql]
  obtain⟨a28,c28,rfl⟩:=QD H (m:=ls.length+1) (by rw[RI,hql']) (by decide);refine Ja 9 ?_;refine Jf 10 ?_;refine Jo 11 H ?_;refine Uj H ?_;clear H;intro w H;refine Jx H ?_;refine Di H ?_;refine J2 H ?_;replace H:=Js [2,0,1,1,1] 1 H
  have H1:Q0 w (star ((q++[((.slice a4 m4 c4:Value),(.slice a5 m5 c5:Value),l)]).map YY)::pts p (row 245 [.slice a28 (ls.length+1) c28])::QC 164 4 (.slice a28 (ls.length+1) c28) (VF (q++[(.slice a4 m4 c4,.slice a5 m5 c5,l)]))::fr):=by
   refine(Q0.pick (x:=((.slice a4 m4 c4:Value),(.slice a5 m5 c5:Value),l)) (g1:=q) (g2:=[]) rfl).2 ?_;rw[append_nil];refine Q0.star.2 ?_;replace H:=Js [2,2,2,0,0] 0 H;exact H
  replace H1:=Js [1,1,0] 0 H1
  have H2:=AO (ls:=ls++[l]) (q:=q++[((.slice a4 m4 c4:Value),(.slice a5 m5 c5:Value),l)]) ⟨by rw[map_append,hq];rfl,by simp;omega,fun x hx=>by
   rcases mem_append.1 hx with hx|hx
   ·exact hall x hx
   ·simp at hx;subst hx;exact hR⟩ H1
  exact Q3 (Jy H2 rfl fun w' H' => .inr ⟨h64,rfl,H'⟩)
theorem TM [Q4] (p:Nat) (ls:List QJ) (id:Int) (hid:id < 1∨(ls.length:Int) < id) {w:World} {fr:List Q2} (H:Q0 w (Qo p ls::fr)) :
  Calls Tryz.prog 78 #[pp p,.int .i64 id] w (ret fun x w'=>x = .tuple #[Ys 0 (.slice none 0 0) 0 (.slice none 0 0),.int .i64 6]∧Q0 w' (Qo p ls::fr)):=by
 obtain⟨v,q,⟨hq,hlen,hall⟩,H⟩:=Hm H;have hql:q.length=ls.length:=by rw[← hq,length_map]
 obtain⟨av,cv,rfl⟩:=QD H.drop (RI q) (by decide);refine QV Tryz.func78 rfl (by kernel_rfl) ?_;refine YS H ?_;clear H;intro b4 w H;refine YK H ?_;refine Dj H ?_;by_cases h1:id < 1
 ·rw[show decide (id < 1)=true from decide_eq_true (by omega)];refine Bj H ?_;refine Dk H ?_;clear H;intro w H;refine J0 H ?_;exact Q3 (Jz H (fun w' H' => .cellN H' rfl (by repeat first|exact .nil _|apply QZ.cons rfl) (.tmp .nil)) fun w' H'=>⟨rfl,AO ⟨hq,hlen,hall⟩ H'.drop⟩)
 ·rw[show decide (id < 1)=false from decide_eq_false (by omega)];refine KR H ?_;rw[show decide (id > (q.length:Int))=true from decide_eq_true (by omega)];refine Dk H ?_;clear H;intro w H;refine J0 H ?_;exact Q3 (Jz H (fun w' H' => .cellN H' rfl (by repeat first|exact .nil _|apply QZ.cons rfl) (.tmp .nil)) fun w' H'=>⟨rfl,AO ⟨hq,hlen,hall⟩ H'.drop⟩)
theorem TO [Q4] (p:Nat) (ls:List QJ) (k:Nat) (l:QJ) (hk:ls[k]? = some l) {w:World} {fr:List Q2} (H:Q0 w (Qo p ls::fr)) :
  Calls Tryz.prog 78 #[pp p,.int .i64 ((k:Int)+1)] w (ret fun x w'=>∃ vr vq,x = .tuple #[Ys l.fixed vr l.record vq,.int .i64 0]∧Q0 w' (NL vr l.refs::NL vq l.recs::Qo p ls::fr)):=by
 obtain⟨v,q,⟨hq,hlen,hall⟩,H⟩:=Hm H;have hql:q.length=ls.length:=by rw[← hq,length_map]
 have hkl:k < ls.length:=(List.getElem?_eq_some_iff.1 hk).1;obtain⟨av,cv,rfl⟩:=QD H.drop (RI q) (by decide);have hR:VT l:=hall l (mem_of_getElem? hk)
 obtain⟨x,hx,hxl⟩:∃ x,q[k]? = some x∧x.2.2=l:=by
  rw[← hq,getElem?_map,Option.map_eq_some_iff] at hk;exact hk
 obtain⟨vr,vq,l'⟩:=x;obtain rfl:l'=l:=hxl;have hpick:q=q.take k++(vr,vq,l')::q.drop (k+1):=split_at hx;refine QV Tryz.func78 rfl (by kernel_rfl) ?_;refine YS H ?_;clear H;intro b4 w H;refine YK H ?_;refine Y1 (fun ms σ w=>ms=[]∧σ 0=pp p∧σ 1 = .int .i64 ((k:Int)+1)∧σ 4=pp b4∧Q0 w (pts b4 (row 164 [.int .i64 0,.slice none 0 0,.int .i64 0,.slice none 0 0])::pts p (row 245 [.slice av q.length cv])::QC 164 4 (.slice av q.length cv) (VF q)::star (q.map YY)::fr)) ?_ ?_
 ·refine Dj H ?_;rw[show decide ((k:Int)+1 < 1)=false from decide_eq_false (by omega)];refine KR H ?_;rw[show decide ((k:Int)+1 > (q.length:Int))=false from decide_eq_false (by omega)];refine W3 H ?_;exact .inl ⟨rfl,rfl,rfl,rfl,rfl,H⟩
 ·clear H;rintro ms σ w ⟨rfl,g0,g1,g4,H⟩;rw[Q1 g0,Q1 g1,Q1 g4];replace H:=Js [3,2,0,0] 0 H;have H:=Q0.star.1 ((Q0.pick hpick).1 H);replace H:Q0 w (NL vr l'.refs::NL vq l'.recs::star ((q.take k++q.drop (k+1)).map YY)::QC 164 4 (.slice av q.length cv) (VF q)::pts b4 (row 164 [.int .i64 0,.slice none 0 0,.int .i64 0,.slice none 0 0])::pts p (row 245 [.slice av q.length cv])::fr):=H;obtain⟨ar,cr,rfl⟩:=QD H (QE _) (by decide);obtain⟨aq,cq,rfl⟩:=QD H.drop (QE _) (by decide);obtain⟨D1,H,hD1,hC1⟩:=sls_rd H (QE _) (by decide);obtain⟨D2,H,hD2,hC2⟩:=sls_rd H.swap (QE _) (by decide);replace H:=Js [3,0,0,0,0,0] 0 H;obtain⟨b,s,rfl,H,hclose⟩:=Qw H (by omega);refine GU H ?_;rw[Qb (x:=(k:Int)+1 - 1) (by omega) (by omega),show (k:Int)+1 - 1=(k:Int) by omega];refine Jd ?_;refine Q5 rfl (VH H rfl (Hl hx) rfl ?_);refine Jc rfl rfl (Mb _ _ l' hR.small ⟨(hD1 _).there.there,(hD2 _).there⟩ H) ?_;clear H;rintro v w ⟨vr',vq',rfl,H⟩;obtain⟨a4,m4,c4,rfl⟩:=Qq H;obtain⟨a5,m5,c5,rfl⟩:=Qq H.swap;refine J4 H ?_;clear H;intro w H;refine J0 H ?_;replace H:=Js [3,3,2,2,2,2,0,0] 0 H;replace H:=hC1 _ _ (hC2 _ _ H).swap;replace H:=Js [0,0,1,0,0,0,0,0] 0 H;replace H:Q0 w (star (q.map YY)::_):=(Q0.pick hpick).2 (Q0.star.2 H);replace H:=Js [1,1,2,2,1,0] 0 H;replace H:=hclose _ _ H;replace H:=Js [1,1,1,1,0,0] 0 H;exact Q3 (Jz H (fun w' H' => .cellN H' rfl (by repeat first|exact .nil _|apply QZ.cons rfl) (.tmp .nil)) fun w' H'=>⟨_,_,rfl,(AO (l:=NL (.slice a4 m4 c4) l'.refs::NL (.slice a5 m5 c5) l'.recs::fr) ⟨hq,hlen,hall⟩ (by have H':=H'.drop;replace H':=Q0.sel [2,2,2,0,0] 0 H';dsimp only[SL.sel,SL.pull,List.drop] at H';exact H')).sel [1,1,0] 0⟩)
def Z1 (l:List Nat) (x:Nat):Nat:=l.countP (· < x)
theorem TP (l:List Nat) (x:Nat):(l.map fun a:Nat=>(a:Int)).contains (x:Int)=decide (x∈l):=by
 induction l with
 | nil=>simp
 | cons a l ih=>
  rw[map_cons,contains_cons,ih];by_cases h:x=a
  ·subst h;simp
  ·have:((x:Int) == (a:Int))=false:=by simp;omega
   simp[this,h]
theorem TS (l:List Nat) (x:Nat):(l.map fun a:Nat=>(a:Int)).countP (· < (x:Int))=Z1 l x:=by
 unfold Z1;rw[countP_map];congr 1
 funext a
 simp
theorem AP [Q4] (v:Value) (l:List Nat) (hl:l.length≤1000000) (hs:l.Pairwise (· < ·)) (x:Nat) {w:World} {fr:List Q2} (hr:Vh fr v l.length 1 (QA l)) (H:Q0 w fr) :
  Calls Tryz.prog 102 #[v,.int .i64 x] w (ret fun r w'=>r = .tuple #[.int .i64 (Z1 l x:Nat),.bool (decide (x∈l))]∧Q0 w' fr):=by
 obtain⟨_,ad,cap,rfl,hr'⟩:=id hr;by_cases h0:l=[]
 ·subst h0;refine QV Tryz.func102 rfl (by kernel_rfl) ?_;refine J3 H ?_;refine Xa H ?_;refine J5 H ?_;refine YK H ?_;refine QS ?_;refine Qi (fun ms σ w q=>ms=[]∧σ 6 = .int .i64 0∧σ 7 = .int .i64 0∧σ 8 = .int .i64 0∧Q0 w fr) (m:=0) ⟨rfl,rfl,rfl,rfl,H⟩ ?_;clear H;rintro ms σ w q ⟨rfl,g6,g7,g8,H⟩;rw[Q1 g6,Q1 g7,Q1 g8];refine J5 H ?_;refine AV H ?_;refine J5 H ?_;refine W1 H ?_;refine Bg H ?_;refine XT H ?_;refine XT H ?_;refine XT H ?_;refine W4 H ?_;refine A7 H ?_;exact Q3 (Jy H rfl fun w' H'=>⟨rfl,H'⟩)
 ·rcases hr' with h|⟨b,o,E,fz,c,rfl,hA,hrd⟩
  ·exact absurd (eq_nil_of_length_eq_zero h) h0
  haveI:=hA
  have hc:∀ j,j < l.length→w.cell? ⟨b,o+j,none⟩=some (.int .i64 (l.getD j 0)):=fun j hj=>by
   refine Zj H.at ?_;rw[Nat.mul_one] at hrd;refine hrd.get j _ ?_;simp[QA,hj]
  have e1:∀ j,(l.map fun a:Nat=>(a:Int)).getD j 0=((l.getD j 0:Nat):Int):=fun j=>by
   simp only[getD_eq_getElem?_getD,getElem?_map];cases l[j]? <;> rfl
  have e2:(l.map fun a:Nat=>(a:Int)).take l.length=l.map fun a:Nat=>(a:Int):=take_of_length_le (by simp);refine(Any.slices_BinarySearch_int Tryz.laysBs b o l.length cap (l.map fun a:Nat=>(a:Int)) x w (by simp) (by omega) (fun j hj=>by rw[hc j (by simpa using hj),e1]) ?_).mono ?_
  ·rw[e2];refine List.Pairwise.map _ (fun a b h=>?_) hs;omega
  ·rintro e w' ⟨rfl,q,rfl⟩;refine⟨?_,H.heap rfl⟩;rw[e2,TP,TS]
theorem TT [Q4] (vr vq:Value) (l:QJ) (hR:VT l) (count:Int) (place:Int) {n:Nat} (hz:V9 l count=(n,0)) (hp:place < 0∨(n:Int)≤place) {w:World} {fr:List Q2} (hr:UC fr vr vq l) (H:Q0 w fr) :
  Calls Tryz.prog 189 #[Ys l.fixed vr l.record vq,.int .i64 count,.int .i64 place] w (ret fun x w'=>x = .tuple #[.bool false,.int .i64 3]∧Q0 w' fr):=by
 obtain⟨_,ad1,cap1,rfl,hr1⟩:=id hr.r;obtain⟨_,ad2,cap2,rfl,hr2⟩:=id hr.q;refine QV Tryz.func189 rfl (by kernel_rfl) ?_;refine J8 H ?_;clear H;intro b3 w H;refine J2 H ?_;refine AY H ?_;refine Jc rfl rfl (CG _ _ l hR count hr.there H) ?_;clear H;rintro v w ⟨rfl,H⟩;rw[hz];refine W0 H ?_;refine QS ?_;refine AZ H ?_;by_cases h1:place < 0
 ·rw[show decide (place < 0)=true from decide_eq_true (by omega)];refine Dd H ?_;refine J2 H ?_;refine Yi H ?_;exact Q3 (Jy H.drop rfl fun w' H'=>⟨rfl,H'⟩)
 ·rw[show decide (place < 0)=false from decide_eq_false (by omega)];refine Bk H ?_;rw[show decide (place≥(n:Int))=true from decide_eq_true (by omega)];refine J2 H ?_;refine Yi H ?_;exact Q3 (Jy H.drop rfl fun w' H'=>⟨rfl,H'⟩)
theorem Ta [Q4] (vr vq:Value) (l:QJ) (hR:VT l) (count:Int) (p:Nat) {n:Nat} (hz:V9 l count=(n,0)) (hp:p < n) {w:World} {fr:List Q2} (hr:UC fr vr vq l) (H:Q0 w fr) :
  Calls Tryz.prog 189 #[Ys l.fixed vr l.record vq,.int .i64 count,.int .i64 p] w (ret fun x w'=>x = .tuple #[.bool (VW l p),.int .i64 0]∧Q0 w' fr):=by
 have hsm:=hR.small;obtain⟨z1,z2,z3,z4,z5⟩:=Hj hz;obtain⟨_,ad1,cap1,rfl,hr1⟩:=id hr.r;obtain⟨_,ad2,cap2,rfl,hr2⟩:=id hr.q;refine QV Tryz.func189 rfl (by kernel_rfl) ?_;refine J8 H ?_;clear H;intro b3 w H;refine J2 H ?_;refine AY H ?_;refine Jc rfl rfl (CG _ _ l hR count hr.there H) ?_;clear H;rintro v w ⟨rfl,H⟩;rw[hz];refine W0 H ?_;refine Y1 (fun ms σ w=>ms=[]∧σ 2 = .int .i64 p∧σ 3=pp b3∧Q0 w (pts b3 (row 164 [.int .i64 l.fixed,.slice ad1 l.refs.length cap1,.int .i64 l.record,.slice ad2 l.recs.length cap2])::fr)) ?_ ?_
 ·refine QS ?_;refine AZ H ?_;rw[show decide ((p:Int) < 0)=false from decide_eq_false (by omega)];refine Bk H ?_;rw[show decide ((p:Int)≥(n:Int))=false from decide_eq_false (by omega)];refine W3 H ?_;exact .inl ⟨rfl,rfl,rfl,rfl,H⟩
 ·clear H;rintro ms σ w ⟨rfl,g2,g3,H⟩;rw[Q1 g2,Q1 g3];refine KG H ?_;refine A7 H ?_;refine R4 H ?_;refine J0 H ?_;by_cases h1:p < l.fixed
  ·rw[show decide ((p:Int)≥(l.fixed:Int))=false from decide_eq_false (by omega)];refine AG H ?_;refine Jc rfl rfl (AP _ l.refs hsm.a hR.2.2.2.1.2 p hr.r.there H) ?_;clear H;rintro v w ⟨rfl,H⟩;refine ZE H ?_;refine VG H ?_;exact Q3 (Jy H.drop rfl fun w' H'=>⟨by unfold VW;rw[if_pos h1];rfl,H'⟩)
  ·have hrec:l.record≠0:=by
    intro h0;rw[h0] at z3;omega
   have e1:IntKind.i64.wrap ((p:Int) - (l.fixed:Int))=((p - l.fixed:Nat):Int):=by rw[Qb (by omega) (by omega)];omega
   rw[show decide ((p:Int)≥(l.fixed:Int))=true from decide_eq_true (by omega)];refine J7 H ?_;refine Qm (fun ms σ w=>ms=[]∧σ 10 = .slice ad2 l.recs.length cap2∧σ 11 = .int .i64 (((p - l.fixed) % l.record:Nat):Int)∧Q0 w (pts b3 (row 164 [.int .i64 l.fixed,.slice ad1 l.refs.length cap1,.int .i64 l.record,.slice ad2 l.recs.length cap2])::fr)) ?_ ?_
   ·refine VE rfl ?_;refine J1 H ?_;clear H;intro w H;refine Kw H ?_;refine Jf 3 ?_;refine Jl 4 [] H ?_;refine Ja 5 ?_;refine Jf 6 ?_;refine Jl 7 [] H ?_;rw[e1]
    refine Gc (v := .int .i64 (((p - l.fixed) % l.record:Nat):Int)) 8 rfl (Q9.none rfl) (by
     show (if IntKind.i64=IntKind.i64 then (if (l.record:Int)=0 then none else some (Value.int .i64 (Int.tmod ((p - l.fixed:Nat):Int) (l.record:Int)))) else none)=_;rw[if_pos rfl,if_neg (by omega),Int.tmod_eq_emod_of_nonneg (by omega),Int.natCast_emod]) (by kernel_rfl) ?_
    refine Ja 9 ?_;refine Ja 10 ?_;refine Jx H ?_;exact⟨rfl,rfl,rfl,rfl,H⟩
   ·clear H;rintro ms σ w ⟨rfl,g10,g11,H⟩;rw[Q1 g10,Q1 g11];refine J5 H ?_;refine Jc rfl rfl (AP _ l.recs hsm.b hR.2.2.2.2.2 _ hr.q.there H) ?_;clear H;rintro v w ⟨rfl,H⟩;refine ZE H ?_;refine VG H ?_;exact Q3 (Jy H.drop rfl fun w' H'=>⟨by unfold VW;rw[if_neg h1];rfl,H'⟩)
def RS (p:Nat) (m:List (Rf×Int)):Q2:=ex fun q:Nat×Nat×Nat=>
 star [pts p (row 205 [.map (some q.1),.map (some q.2.1),.map (some q.2.2)]),mp kp v1 q.1 m,UW q.2.1 (fun k r=>Q8 m r=some k),UW q.2.2 (fun k r=>r.1=k∧(Q8 m r).isSome=true)]
theorem AS [Q4] {w:World} {p:Nat} {m:List (Rf×Int)} {l:List Q2} (H:Q0 w (RS p m::l)) :
  ∃ bt bo bf,Q0 w (pts p (row 205 [.map (some bt),.map (some bo),.map (some bf)])::mp kp v1 bt m::UW bo (fun k r=>Q8 m r=some k)::UW bf (fun k r=>r.1=k∧(Q8 m r).isSome=true)::l):=by
 obtain⟨⟨bt,bo,bf⟩,H⟩:=Q0.ex.1 H;exact⟨bt,bo,bf,Q0.star.1 H⟩
theorem RJ [Q4] {w:World} {p:Nat} {m:List (Rf×Int)} {l:List Q2} {S T:Int→Rf→Prop} (bt bo bf:Nat) (hS:∀ k r,S k r↔Q8 m r=some k) (hT:∀ k r,T k r↔(r.1=k∧(Q8 m r).isSome=true))
  (H:Q0 w (pts p (row 205 [.map (some bt),.map (some bo),.map (some bf)])::mp kp v1 bt m::UW bo S::UW bf T::l)):Q0 w (RS p m::l):=by
 have e1:S=fun k r=>Q8 m r=some k:=by funext k r;exact propext (hS k r)
 have e2:T=fun k r=>r.1=k∧(Q8 m r).isSome=true:=by funext k r;exact propext (hT k r)
 subst e1 e2;exact Q0.ex.2 ⟨(bt,bo,bf),Q0.star.2 H⟩
theorem Me [Q4] {w:World} {bo:Nat} {l:List Q2} (H:Q0 w (mp (ki .i64) vm bo []::l)):Q0 w (UW bo (fun _ _=>False)::l):=
 Xk [] (by simp[mem]) (Q0.swap ((Q0.star (k:=[])).2 H))
theorem Tb [Q4] {w:World} {fr:List Q2} (H:Q0 w fr):Calls Tryz.prog 74 #[] w (ret fun v w'=>∃ p,v=pp p∧Q0 w' (RS p []::fr)):=by
 refine QV Tryz.func74 rfl (by kernel_rfl) ?_;refine Bl H ?_;refine Q5 rfl (XJ v1 kp H rfl ?_);clear H;intro b1 w H;refine Q5 rfl (XJ vm (ki .i64) H rfl ?_);clear H;intro b2 w H;refine Q5 rfl (XJ vm (ki .i64) H rfl ?_);clear H;intro b3 w H;refine X6 H ?_;clear H;intro b5 w H;refine J0 H ?_;refine Q3 ?_;replace H:=Me (H.pull 1);replace H:=Me (H.pull 2);replace H:=Js [2,2,0,0] 0 H;exact Jy H rfl (fun w' H'=>⟨b5,rfl,RJ b1 b2 b3 (S:=fun _ _=>False) (T:=fun _ _=>False) (by simp[Q8]) (by simp[Q8]) H'⟩)
theorem Tc (o:Option Int):Ro (.int .i64 0) v1 o = .int .i64 (o.getD 0):=by cases o <;> rfl
theorem Td [Q4] (p:Nat) (m:List (Rf×Int)) (r:Rf) {w:World} {fr:List Q2} (H:Q0 w (RS p m::fr)) :
  Calls Tryz.prog 106 #[pp p,rf r] w (ret fun v w'=>v = .tuple #[.int .i64 ((Q8 m r).getD 0),.bool (Q8 m r).isSome]∧Q0 w' (RS p m::fr)):=by
 obtain⟨a,b⟩:=r;refine QV Tryz.func106 rfl (by kernel_rfl) ?_;obtain⟨bt,bo,bf,H⟩:=AS H;refine J8 H ?_;clear H;intro b3 w H;refine Dm H ?_;refine J1 H ?_;clear H;intro w H;refine X7 H ?_;refine VP 4 [] H rfl (Q9.none rfl) rfl (by repeat first|exact .nil _|apply QZ.cons rfl) (by kernel_rfl) ?_;refine XM 5 [] (key:=(a,b)) H rfl (Q9.none rfl) rfl rfl RV (by kernel_rfl) ?_;rw[Tc];refine W7 H ?_;refine Ja 9 ?_;refine Ja 10 ?_;refine Jx H ?_;refine W9 H ?_;refine Q3 (Jy (RJ bt bo bf (fun _ _=>Iff.rfl) (fun _ _=>Iff.rfl) H.drop) rfl fun w' H'=>⟨rfl,H'⟩)
theorem CK [Q4] (p:Nat) (m:List (Rf×Int)) (hm:(m.map (·.1)).Nodup) (r:Rf) {w:World} {fr:List Q2} (H:Q0 w (RS p m::fr)) :
  Calls Tryz.prog 45 #[pp p,rf r] w (ret fun v w'=>v = .bool (Q8 m r).isSome∧Q0 w' (RS p (QB m r)::fr)):=by
 obtain⟨a,b⟩:=r;refine QV Tryz.func45 rfl (by kernel_rfl) ?_;refine J8 H ?_;clear H;intro b3 w H;refine R5 H ?_;refine Jc rfl rfl (Td p m (a,b) H.swap) ?_;clear H;rintro v w ⟨rfl,H⟩;refine X8 H ?_;cases hf:Q8 m (a,b) with
 | none=>
  refine YR H ?_;rw[B6 (Rm.1 hf)];refine Q3 (Jy H.swap.drop rfl fun w' H'=>⟨rfl,H'⟩)
 | some t=>
  refine V8 H ?_;obtain⟨bt,bo,bf,H⟩:=AS H;refine J1 H ?_;clear H;intro w H;refine Dn H ?_;refine XL (key:=(a,b)) H rfl rfl RV rfl ?_;clear H;intro w H;refine Jx H ?_;replace H:=Js [2,0,0,0,0] 0 H;refine J1 H ?_;clear H;intro w H;refine Bm H ?_;refine Ja 4 ?_;refine Bn H ?_;refine Jk rfl rfl (MG bo _ t (a,b) H) ?_;clear H;intro v w H;refine Jx H ?_;replace H:=Js [3,0,0,0,0] 0 H;refine J1 H ?_;clear H;intro w H;refine Ja 0 ?_;refine Ja 1 ?_;refine Jf 2 ?_;refine Jl 3 [7] H ?_;refine Jf 4 ?_;refine Jl 5 [7] H ?_;refine Dp H ?_;refine Jk rfl rfl (MG bf _ a (a,b) H) ?_;clear H;intro v w H;refine Bc H ?_;replace H:=Js [2,2,1,0] 1 H;refine Q3 (Jy (RJ bt bo bf (fun k r=>?_) (fun k r=>?_) H) rfl fun w' H'=>⟨rfl,H'⟩)
  ·rw[XH hm];split
   ·rename_i e;subst e;rw[hf];simp;rintro rfl;rfl
   ·rename_i e;exact⟨(·.1),fun h=>⟨h,fun e'=>e e'.2.symm⟩⟩
  ·rw[XH hm];split
   ·rename_i e;subst e;simp;rintro rfl _;rfl
   ·rename_i e;exact⟨(·.1),fun h=>⟨h,fun e'=>e e'.2.symm⟩⟩
theorem Mf [Q4] (p:Nat) (m:List (Rf×Int)) (hm:(m.map (·.1)).Nodup) (r:Rf) (t:Int) {w:World} {fr:List Q2} (H:Q0 w (RS p m::fr)) :
  Calls Tryz.prog 211 #[pp p,rf r,.int .i64 t] w (ret fun v w'=>v = .bool (!(Q8 m r).isSome)∧Q0 w' (RS p (Vm (QB m r) r t)::fr)):=by
 obtain⟨a,b⟩:=r;refine QV Tryz.func211 rfl (by kernel_rfl) ?_;refine J8 H ?_;clear H;intro b4 w H;refine AU H ?_;refine GZ H ?_;refine Jc rfl rfl (CK p m hm (a,b) H.swap) ?_;clear H;rintro v w ⟨rfl,H⟩;refine J0 H ?_;obtain⟨bt,bo,bf,H⟩:=AS H;refine J1 H ?_;clear H;intro w H;refine Bm H ?_;refine Dq H ?_;refine Ja 5 ?_;refine Jo 6 H ?_;refine Uf (key:=(a,b)) (v:=t) H rfl rfl rfl RV rfl ?_;clear H;intro w H;refine Jx H ?_;replace H:=Js [2,0,0,0,0] 0 H;refine J1 H ?_;clear H;intro w H;refine Bm H ?_;refine Ja 4 ?_;refine Bn H ?_;refine Jk rfl rfl (MU bo _ t (a,b) H) ?_;clear H;intro v w H;refine Jx H ?_;replace H:=Js [3,0,0,0,0] 0 H;refine J1 H ?_;clear H;intro w H;refine Ja 0 ?_;refine Ja 1 ?_;refine Jf 2 ?_;refine Jl 3 [7] H ?_;refine Jf 4 ?_;refine Jl 5 [7] H ?_;refine Dp H ?_;refine Jk rfl rfl (MU bf _ a (a,b) H) ?_;clear H;intro v w H;refine Jx H ?_;refine VG H ?_;replace H:=Js [2,2,1,0] 1 H;have hn:=XH hm (x:=(a,b)) (y:=(a,b));rw[if_pos rfl] at hn;refine Q3 (Jy (RJ bt bo bf (fun k r=>?_) (fun k r=>?_) H) rfl fun w' H'=>⟨rfl,H'⟩)
 ·rw[Gd];split
  ·rename_i e;subst e;rw[hn];simp;exact eq_comm
  ·rename_i e;exact⟨fun h=>h.elim id fun e'=>absurd e'.2.symm e,.inl⟩
 ·rw[Gd];split
  ·rename_i e;subst e;rw[hn];simp;exact eq_comm
  ·rename_i e;exact⟨fun h=>h.elim id fun e'=>absurd e'.2.symm e,.inl⟩
def Qe (p last:Nat) (par:List (Int×Int)):Q2:=ex fun b:Nat=>star [pts p (row 114 [.map (some b),.int .i64 last]),mp (ki .i64) v1 b par]
theorem KH [Q4] {w:World} {p last:Nat} {par:List (Int×Int)} {l:List Q2} (H:Q0 w (Qe p last par::l)):∃ b,Q0 w (pts p (row 114 [.map (some b),.int .i64 last])::mp (ki .i64) v1 b par::l):=by
 obtain⟨b,H⟩:=Q0.ex.1 H;exact⟨b,Q0.star.1 H⟩
theorem Xn [Q4] {w:World} {p last b:Nat} {par:List (Int×Int)} {l:List Q2} (H:Q0 w (pts p (row 114 [.map (some b),.int .i64 last])::mp (ki .i64) v1 b par::l)):Q0 w (Qe p last par::l):=
 Q0.ex.2 ⟨b,Q0.star.2 H⟩
theorem Mg [Q4] {w:World} {p last:Nat} {par:List (Int×Int)} {l:List Q2} (H:Q0 w (Qe p last par::l)):(par.map (·.1)).Nodup:=by
 obtain⟨b,H⟩:=KH H;exact XQ b H
theorem Te [Q4] {w:World} {fr:List Q2} (H:Q0 w fr):Calls Tryz.prog 73 #[] w (ret fun v w'=>∃ p,v=pp p∧Q0 w' (Qe p 0 []::fr)):=by
 refine QV Tryz.func73 rfl (by kernel_rfl) ?_;refine Bl H ?_;refine Q5 rfl (XJ v1 (ki .i64) H rfl ?_);clear H;intro b1 w H;refine X6 H ?_;clear H;intro b3 w H;refine J0 H ?_;exact Q3 (Jy H rfl fun w' H'=>⟨_,rfl,Xn H'⟩)
theorem Ek [Q4] (p last:Nat) (par:List (Int×Int)) (id:Int) {w:World} {fr:List Q2} (H:Q0 w (Qe p last par::fr)) :
  Calls Tryz.prog 77 #[pp p,.int .i64 id] w (ret fun v w'=>v = .bool (Q8 par id).isSome∧Q0 w' (Qe p last par::fr)):=by
 obtain⟨b,H⟩:=KH H;refine QV Tryz.func77 rfl (by kernel_rfl) ?_;refine WQ H ?_;refine Q5 rfl (Zv (key:=id) H rfl rfl VL rfl ?_);refine W1 H ?_;refine X4 rfl rfl ?_;refine YI H ?_;exact Q3 (Jy (Xn H) rfl fun w' H'=>⟨rfl,H'⟩)
theorem Tf [Q4] (p last:Nat) (par:List (Int×Int)) {w:World} {fr:List Q2} (H:Q0 w (Qe p last par::fr)) :
  Calls Tryz.prog 120 #[pp p] w (ret fun v w'=>v = .int .i64 par.length∧Q0 w' (Qe p last par::fr)):=by
 obtain⟨b,H⟩:=KH H;refine QV Tryz.func120 rfl (by kernel_rfl) ?_;refine Ky H ?_;refine Q5 rfl (Fq (ki .i64) v1 H rfl rfl ?_);refine J0 H ?_;exact Q3 (Jy (Xn H) rfl fun w' H'=>⟨rfl,H'⟩)
theorem El [Q4] (p last:Nat) (par:List (Int×Int)) (id:Int) {w:World} {fr:List Q2} (H:Q0 w (Qe p last par::fr)) :
  Calls Tryz.prog 30 #[pp p,.int .i64 id] w (ret fun v w'=>v = .int .i64 (if (Q8 par id).isSome then 0 else 6)∧Q0 w' (Qe p last par::fr)):=by
 refine QV Tryz.func30 rfl (by kernel_rfl) ?_;refine J6 H ?_;refine Y1 (fun ms σ w=>ms=[]∧(Q8 par id).isSome=true∧Q0 w (Qe p last par::fr)) ?_ ?_
 ·refine Dj H ?_;refine Jc rfl rfl (Ek p last par id H) ?_;clear H;rintro v w ⟨rfl,H⟩;cases hf:(Q8 par id).isSome with
  | true=>
   refine W3 H ?_;exact .inl ⟨rfl,rfl,rfl,H⟩
  | false=>
   refine Dr H ?_;exact Q3 (.inr ⟨by simp,Jy H rfl fun w' H'=>⟨rfl,H'⟩⟩)
 ·clear H;rintro ms σ w ⟨rfl,hf,H⟩;rw[hf];refine VJ H ?_;exact Q3 (Jy H rfl fun w' H'=>⟨rfl,H'⟩)
def Z2 (par:List (Int×Int)) (parent:Int):Nat:=if parent≠0∧(Q8 par parent).isSome=false then 6 else if par.length=64 then 5 else 0
theorem Mh [Q4] (p last:Nat) (par:List (Int×Int)) (parent:Int) (hlast:last < 1000000) (hup:∀ r q,(r,q)∈par→r≤(last:Int)) {w:World} {fr:List Q2} (H:Q0 w (Qe p last par::fr)) :
  Calls Tryz.prog 57 #[pp p,.int .i64 parent] w (ret fun v w'=>(Z2 par parent≠0∧v = .tuple #[.int .i64 0,.int .i64 (Z2 par parent)]∧Q0 w' (Qe p last par::fr)) ∨
   (Z2 par parent=0∧v = .tuple #[.int .i64 ((last+1:Nat):Int),.int .i64 0]∧Q0 w' (Qe p (last+1) (par++[(((last+1:Nat):Int),parent)])::fr))):=by
 refine QV Tryz.func57 rfl (by kernel_rfl) ?_;refine Bd H ?_;refine Y1 (fun ms σ w=>ms=[]∧Z2 par parent=0∧σ 0=pp p∧σ 1 = .int .i64 parent∧Q0 w (Qe p last par::fr)) ?_ ?_
 ·refine Kz H ?_;refine J7 H ?_;refine Qm (fun ms σ w=>ms=[]∧(∃ q,σ 9 = .bool q∧(q=true↔parent≠0∧(Q8 par parent).isSome=false))∧σ 0=pp p∧σ 1 = .int .i64 parent∧Q0 w (Qe p last par::fr)) ?_ ?_
  ·refine J5 H ?_;by_cases h0:parent=0
   ·rw[show (parent != 0)=false by simpa using h0];refine Jv ?_;refine Dt H ?_;exact⟨rfl,rfl,⟨false,rfl,by simp[h0]⟩,rfl,rfl,H⟩
   ·rw[show (parent != 0)=true by simpa using h0];refine XS H ?_;refine QT rfl rfl rfl (V0 (a:=[]) (b:=[]) rfl rfl (call (Ek p last par parent H) ?_));clear H;rintro v w ⟨rfl,H⟩;refine XP H ?_;exact⟨rfl,rfl,⟨!(Q8 par parent).isSome,rfl,by simp[h0]⟩,rfl,rfl,H⟩
  ·clear H;rintro ms σ w ⟨rfl,⟨q,g9,hq⟩,g0,g1,H⟩;rw[Q1 g9,Q1 g0,Q1 g1];cases q with
   | true=>
    have he:Z2 par parent=6:=by unfold Z2;rw[if_pos (hq.1 rfl)]
    refine Yi H ?_;exact Q3 (.inr ⟨by simp,Jy H rfl fun w' H' => .inl ⟨by omega,by rw[he];rfl,H'⟩⟩)
   | false=>
    have hq':¬ (parent≠0∧(Q8 par parent).isSome=false):=fun h=>by have:=hq.2 h;cases this
    obtain⟨b,H⟩:=KH H;refine AX H ?_;refine ZU H ?_;refine Q5 rfl (Fq (ki .i64) v1 H rfl rfl ?_);refine J2 H ?_;by_cases h64:par.length=64
    ·have he:Z2 par parent=5:=by unfold Z2;rw[if_neg hq',if_pos h64]
     rw[show ((par.length:Int) == 64)=true by simp;omega];refine Yi H ?_;exact Q3 (.inr ⟨by simp,Jy (Xn H) rfl fun w' H' => .inl ⟨by omega,by rw[he];rfl,H'⟩⟩)
    ·have he:Z2 par parent=0:=by unfold Z2;rw[if_neg hq',if_neg h64]
     rw[show ((par.length:Int) == 64)=false by simp;omega];refine V8 H ?_;exact .inl ⟨rfl,rfl,he,rfl,rfl,Xn H⟩
 ·clear H;rintro ms σ w ⟨rfl,he,g0,g1,H⟩;rw[Q1 g0,Q1 g1];obtain⟨b,H⟩:=KH H;refine J9 H ?_;rw[Qb (x:=((last:Nat):Int)+1) (by omega) (by omega),show ((last:Nat):Int)+1=((last+1:Nat):Int) by omega];refine GK H ?_;clear H;intro w H;refine Q6 ?_;refine J1 H ?_;clear H;intro w H;refine Bo H ?_;refine Du H ?_;refine Jl 7 [9] H ?_;refine Ja 8 ?_;refine Jo 9 H ?_;refine Uf (v:=parent) (key:=((last+1:Nat):Int)) H rfl rfl rfl VL rfl ?_;clear H;intro w H;refine Jx H ?_;refine ZU H ?_;refine J2 H ?_
  rw[XF (fun h=>by
   obtain⟨⟨a,q⟩,hm,h1⟩:=mem_map.1 h;have h1:a=((last+1:Nat):Int):=h1;have:=hup a q hm;omega)] at H
  exact Q3 (Jy (Xn H) rfl fun w' H' => .inr ⟨he,rfl,H'⟩)
structure QQ where
 addr:Nat
 region:Int
 held:Bool
 pinned:Bool
 lay:Nat
 count:Nat
 ws:List Nat
structure QF where
 gen:Nat
 ent:Option QQ
def Qn (ts:List QF) (i g:Int):Option (Nat×QQ):=
 if 0≤i then
  match ts[i.toNat]? with
  | some ⟨n,some e⟩=>if (n:Int)=g then some (i.toNat,e) else none
  | _=>none
 else none
theorem Vz {ts:List QF} {i g:Int} {k:Nat} {e:QQ}:Qn ts i g=some (k,e)↔∃ n:Nat,i=k∧g=n∧ts[k]? = some ⟨n,some e⟩:=by
 unfold Qn;constructor
 ·intro h;split at h
  ·rename_i h0;split at h
   ·rename_i n e' he;split at h
    ·rename_i hn;injection h with h
     injection h with h1 h2
     subst h1 h2;exact⟨n,by omega,hn.symm,he⟩
    ·cases h
   ·cases h
  ·cases h
 ·rintro⟨n,rfl,rfl,h⟩;rw[if_pos (by omega)];simp only[Int.toNat_natCast,h];rw[if_pos trivial]
def Qg (ts:List QF) (i g:Int):Option (Nat×QQ):=
 match Qn ts i g with
 | some (k,e)=>if e.held then some (k,e) else none
 | none=>none
theorem U0 {ts:List QF} {i g:Int} {k:Nat} {e:QQ}:Qg ts i g=some (k,e)↔Qn ts i g=some (k,e)∧e.held=true:=by
 unfold Qg;cases h:Qn ts i g with
 | none=>simp
 | some q=>
  obtain⟨k',e'⟩:=q;simp only;split
  ·rename_i hh;constructor
   ·intro h1;cases h1;exact⟨rfl,hh⟩
   ·rintro⟨h1,_⟩;exact h1
  ·rename_i hh;constructor
   ·intro h1;cases h1
   ·rintro⟨h1,h2⟩;cases h1;exact absurd h2 hh
structure QH where
 parts:List (Nat×Nat)
 at':Nat
 fin:Nat
def QK (l:List (Nat×Nat)):List Nat:=l.flatMap fun p=>(List.range p.2).map (p.1+·)
structure CS where
 size:Nat
 own:List Nat
 lays:List QJ
 tab:List QF
 last:Nat
 par:List (Int×Int)
 rem:List ((Int×Int)×Int)
 sps:List (Int×Nat×QH)
 mns:List (Int×Nat×List Nat)
structure Ur (lays:List QJ) (i:Nat) (e:QQ):Prop where
 may:Xl e.lay e.count i
 lay:∃ l,lays[e.lay - 1]? = some l∧VT l∧V9 l e.count=(e.ws.length,0)∧∀ p w,e.ws[p]? = some w→w < 18446744073709551616∧(VW l p=true→∃ k,GR k∧w=VU k)
def QN (e:QQ):Nat:=e.addr+1+e.ws.length
def Zn (size:Nat) (own:List Nat) (e:QQ):Prop:=QN e≤own.length*size∧∀ c,e.addr / size≤c→c≤(e.addr+e.ws.length) / size→∃ r:Nat,own[c]? = some r∧(r:Int)=e.region∧1≤r
structure GB (size:Nat) (own:List Nat) (r:Int) (S:QH):Prop where
 at1:S.at'≤S.fin
 fin:S.fin≠0→∃ c,S.fin=(c+1)*size∧c*size < S.at'∧(c,1)∈S.parts
 parts:∀ p∈S.parts,1≤p.2∧p.1+p.2≤own.length
 nodup:(QK S.parts).Nodup
 owned:∀ c,c∈QK S.parts↔∃ q:Nat,own[c]? = some q∧(q:Int)=r∧q≠0
structure WF (s:CS):Prop where
 size:1≤s.size∧s.size≤1024
 own:1≤s.own.length∧s.own.length≤63
 slots:1≤s.tab.length∧s.tab.length≤63
 lays:s.lays.length≤64∧∀ l∈s.lays,VT l
 gen:∀ (i:Nat) (t:QF),s.tab[i]? = some t→t.gen≤255∧(t.ent.isSome=true→1≤t.gen)
 obj:∀ (i g:Nat) (e:QQ),s.tab[i]? = some ⟨g,some e⟩→Ur s.lays i e∧Zn s.size s.own e∧(∃ q,(e.region,q)∈s.par)
 apart:∀ (i j g h:Nat) (e f:QQ),i≠j→s.tab[i]? = some ⟨g,some e⟩→s.tab[j]? = some ⟨h,some f⟩→QN e≤f.addr∨QN f≤e.addr
 par:s.par.length≤64∧s.last < 1000000∧∀ r q,(r,q)∈s.par→1≤r∧r≤s.last
 skeys:s.sps.map (·.1)=s.par.map (·.1)
 mkeys:s.mns.map (·.1)=s.par.map (·.1)
 spc:∀ x∈s.sps,GB s.size s.own x.1 x.2.2
 free:∀ x∈s.sps,∀ (i g:Nat) (e:QQ),s.tab[i]? = some ⟨g,some e⟩→QN e≤x.2.2.at'∨x.2.2.fin≤e.addr
 live:∀ (c r:Nat),s.own[c]? = some r→r≠0→∃ q,((r:Int),q)∈s.par
 mine:∀ x∈s.mns,x.2.2.Pairwise (· < ·)∧∀ i,i∈x.2.2↔∃ g e,s.tab[i]? = some ⟨g,some e⟩∧e.region=x.1
structure VM (s:CS) (mem:List Nat):Prop where
 len:mem.length=s.own.length*s.size
 head:∀ (i g:Nat) (e:QQ),s.tab[i]? = some ⟨g,some e⟩→mem[e.addr]? = some (Zy e.lay e.count i)
 words:∀ (i g:Nat) (e:QQ),s.tab[i]? = some ⟨g,some e⟩→∀ (p w:Nat),e.ws[p]? = some w→mem[e.addr+1+p]? = some w
theorem Qx {ts:List QF} {i j:Nat} {t u:QF} (h:(ts.set i t)[j]? = some u):(j=i∧u=t∧i < ts.length)∨(j≠i∧ts[j]? = some u):=by
 rw[getElem?_set] at h;by_cases hij:i=j
 ·subst hij;rw[if_pos rfl] at h;split at h
  ·rename_i hl;injection h with h
   exact .inl ⟨rfl,h.symm,hl⟩
  ·cases h
 ·rw[if_neg hij] at h;exact .inr ⟨fun e=>hij e.symm,h⟩
structure KI (e e':QQ):Prop where
 addr:e'.addr=e.addr
 region:e'.region=e.region
 lay:e'.lay=e.lay
 count:e'.count=e.count
 len:e'.ws.length=e.ws.length
theorem KI.end {e e':QQ} (h:KI e e'):QN e'=QN e:=by unfold QN;rw[h.addr,h.len]
theorem KI.lies {e e':QQ} (h:KI e e') {size:Nat} {own:List Nat} (l:Zn size own e):Zn size own e':=by
 unfold Zn at *;rw[h.end,h.addr,h.len,h.region];exact l
def VI (s:CS) (i g:Nat) (e:QQ):CS:={ s with tab:=s.tab.set i ⟨g,some e⟩ }
theorem Em {s:CS} (h:WF s) {i g:Nat} {e e':QQ} (hi:s.tab[i]? = some ⟨g,some e⟩) (a:KI e e') (ok:Ur s.lays i e'):WF (VI s i g e'):=by
 have ho:=h.obj i g e hi;refine⟨h.size,h.own,by show 1≤(s.tab.set _ _).length∧(s.tab.set _ _).length≤63;rw[length_set];exact h.slots,h.lays,?_,?_,?_,h.par,h.skeys,h.mkeys,h.spc,?_,h.live,?_⟩
 ·intro j t hj
  rcases Qx hj with ⟨rfl,rfl,_⟩|⟨_,hj⟩
  ·exact⟨(h.gen _ _ hi).1,fun _=>(h.gen _ _ hi).2 rfl⟩
  ·exact h.gen _ _ hj
 ·intro j k f hj
  rcases Qx hj with ⟨rfl,ht,_⟩|⟨_,hj⟩
  ·injection ht with h1 h2
   injection h2 with h2
   subst h1 h2;exact⟨ok,a.lies ho.2.1,by rw[a.region];exact ho.2.2⟩
  ·exact h.obj _ _ _ hj
 ·intro j k m n f f' hne hj hk
  rcases Qx hj with ⟨rfl,ht,_⟩|⟨hji,hj'⟩ <;> rcases Qx hk with ⟨rfl,hu,_⟩|⟨hki,hk'⟩
  ·exact absurd rfl hne
  ·injection ht with h1 h2
   injection h2 with h2
   subst h1 h2;rw[a.end,a.addr];exact h.apart _ _ _ n _ _ hne hi hk'
  ·injection hu with h1 h2
   injection h2 with h2
   subst h1 h2;rw[a.end,a.addr];exact h.apart _ _ m _ _ _ hne hj' hi
  ·exact h.apart _ _ _ _ _ _ hne hj' hk'
 ·intro x hx j k f hj
  rcases Qx hj with ⟨rfl,ht,_⟩|⟨_,hj⟩
  ·injection ht with h1 h2
   injection h2 with h2
   subst h1 h2;rw[a.end,a.addr];exact h.free x hx _ _ _ hi
  ·exact h.free x hx _ _ _ hj
 ·intro x hx;obtain⟨h1,h2⟩:=h.mine x hx;refine⟨h1,fun j=>?_⟩;rw[h2];have hil:i < s.tab.length:=(List.getElem?_eq_some_iff.1 hi).1;constructor
  ·rintro⟨m,f,hj,hf⟩;by_cases hij:j=i
   ·subst hij;rw[hi] at hj;cases hj;exact⟨g,e',by show (s.tab.set _ _)[_]? = _;simp[hil],by rw[a.region];exact hf⟩
   ·exact⟨m,f,by show (s.tab.set _ _)[_]? = _;rw[getElem?_set_ne (fun q=>hij q.symm)];exact hj,hf⟩
  ·rintro⟨m,f,hj,hf⟩
   rcases Qx hj with ⟨rfl,ht,_⟩|⟨_,hj⟩
   ·injection ht with h1 h2
    injection h2 with h2
    subst h1 h2;exact⟨_,_,hi,by rw[← a.region];exact hf⟩
   ·exact⟨m,f,hj,hf⟩
theorem Mi {s:CS} (h:WF s) {mem:List Nat} (m:VM s mem) {i g:Nat} {e e':QQ} (hi:s.tab[i]? = some ⟨g,some e⟩) (a:KI e e') {mem':List Nat} (hl:mem'.length=mem.length)
  (hin:∀ (p w:Nat),e'.ws[p]? = some w→mem'[e.addr+1+p]? = some w) (hh:mem'[e.addr]? = mem[e.addr]?) (hout:∀ k,k < e.addr∨QN e≤k→mem'[k]? = mem[k]?):VM (VI s i g e') mem':=by
 refine⟨by rw[hl];exact m.len,?_,?_⟩
 ·intro j k f hj
  rcases Qx hj with ⟨rfl,ht,_⟩|⟨hji,hj⟩
  ·injection ht with h1 h2
   injection h2 with h2
   subst h1 h2;rw[a.addr,a.lay,a.count,hh];exact m.head _ _ _ hi
  ·have:=h.apart _ _ _ _ _ _ hji hj hi;rw[hout _ (by unfold QN at this ⊢;omega)];exact m.head _ _ _ hj
 ·intro j k f hj p w hw
  rcases Qx hj with ⟨rfl,ht,_⟩|⟨hji,hj⟩
  ·injection ht with h1 h2
   injection h2 with h2
   subst h1 h2;rw[a.addr];exact hin p w hw
  ·have:=h.apart _ _ _ _ _ _ hji hj hi;have hp:=(List.getElem?_eq_some_iff.1 hw).1;rw[hout _ (by unfold QN at this ⊢;omega)];exact m.words _ _ _ hj p w hw
theorem Hn {s:CS} (h:WF s) {mem:List Nat} (m:VM s mem) {i g:Nat} {e:QQ} (hi:s.tab[i]? = some ⟨g,some e⟩) {p x:Nat} (hp:p < e.ws.length):VM (VI s i g { e with ws:=e.ws.set p x }) (mem.set (e.addr+1+p) x):=by
 have hend:QN e≤mem.length:=by rw[m.len];exact(h.obj i g e hi).2.1.1
 refine Mi (e':={ e with ws:=e.ws.set p x }) h m hi ⟨rfl,rfl,rfl,rfl,by show (e.ws.set p x).length=_;simp⟩ (by simp) ?_ ?_ ?_
 ·intro q w hw;have hw:(e.ws.set p x)[q]? = some w:=hw;rw[getElem?_set] at hw;by_cases hpq:p=q
  ·subst hpq;rw[if_pos rfl,if_pos hp] at hw;injection hw with hw
   subst hw;rw[getElem?_set_self (by unfold QN at hend;omega)]
  ·rw[if_neg hpq] at hw;rw[getElem?_set_ne (by omega)];exact m.words _ _ _ hi q w hw
 ·rw[getElem?_set_ne (by omega)]
 ·intro k hk;rw[getElem?_set_ne (by unfold QN at hk;omega)]
theorem Tg {s:CS} (h:WF s) {mem:List Nat} (m:VM s mem) {i g:Nat} {e e':QQ} (hi:s.tab[i]? = some ⟨g,some e⟩) (a:KI e e') (hw:e'.ws=e.ws):VM (VI s i g e') mem:=
 Mi h m hi a rfl (fun p w hp=>m.words _ _ _ hi p w (by rw[← hw];exact hp)) rfl (fun _ _=>rfl)
theorem Th {lays:List QJ} {i:Nat} {e e':QQ} (h:Ur lays i e) (a:KI e e') (hw:e'.ws=e.ws):Ur lays i e':=by
 obtain⟨m,l,h1,h2,h3,h4⟩:=h;exact⟨by rw[a.lay,a.count];exact m,l,by rw[a.lay];exact h1,h2,by rw[a.count,hw];exact h3,by rw[hw];exact h4⟩
theorem Ho {lays:List QJ} {i:Nat} {e:QQ} (h:Ur lays i e) {l:QJ} (hl:lays[e.lay - 1]? = some l) {p x:Nat} (hx:x < 18446744073709551616) (hr:VW l p=true→∃ k,GR k∧x=VU k):Ur lays i { e with ws:=e.ws.set p x }:=by
 obtain⟨m,l',h1,h2,h3,h4⟩:=h;rw[hl] at h1;cases h1;refine⟨m,l,hl,h2,by simpa using h3,fun q w hw=>?_⟩;have hw:(e.ws.set p x)[q]? = some w:=hw;rw[getElem?_set] at hw;by_cases hpq:p=q
 ·subst hpq;rw[if_pos rfl] at hw;split at hw
  ·injection hw with hw
   subst hw;exact⟨hx,hr⟩
  ·cases hw
 ·rw[if_neg hpq] at hw;exact h4 q w hw
end Go.Proofs.YtbnnnljagkjpiaaGreatDoor
