/- Cells: what is proved on the way: every input of the statement; no condition. Texts joined: TreC TreD MovP MovQ SplP SplH SplQ TreQ SplB. -/
import Derived.Test.YtbnnnljagkjpiaaGreatDoorBhd
import Derived.Test.YtbnnnljagkjpiaaGreatDoorBhi
import Derived.Test.YtbnnnljagkjpiaaGreatDoorBhj
set_option linter.unusedVariables false
set_option linter.unusedSimpArgs false
set_option linter.unusedSectionVars false
namespace Go.Proofs.YtbnnnljagkjpiaaGreatDoor
open List
open Go.SL
theorem dB [Q4] (x:Option Nat) (m:List (Int×Int)) {w:World} {fr:List Q2} (H:Q0 w (YN (ki .i64) v1 (.map x) m::fr)) :
  Calls Tryz.prog 115 #[.map x] w
   (ret fun v w'=>∃ b,v = .func (.func 198) #[] #[pp b]∧Q0 w' (pts b (row 51 [.map x])::YN (ki .i64) v1 (.map x) m::fr)):=by
 refine QV Tryz.func115 rfl (by kernel_rfl) ?_;refine ZF H ?_;clear H;intro b1 w H;refine YI H ?_;refine Q3 (Jy H rfl fun w' H'=>⟨b1,rfl,H'⟩)
theorem dC [Q4] (yl b:Nat) (x:Option Nat) (m:List (Int×Int)) (J:List Int→Q2)
  (hy:∀ ks r rest w,ks.length < m.length→Q0 w (J ks::rest)→SL.Yields Tryz.prog yl #[(.int .i64 r)] w (fun v w'=>v = .bool true∧Q0 w' (J (ks++[r])::rest)))
  {w:World} {fr:List Q2} (H:Q0 w (J []::pts b (row 51 [.map x])::YN (ki .i64) v1 (.map x) m::fr)) :
  Calls Tryz.prog 198 #[.func (.yield yl) #[] #[],pp b] w
   (ret fun _ w'=>∃ ks,ks.Perm (m.map (·.1))∧Q0 w' (J ks::YN (ki .i64) v1 (.map x) m::fr)):=by
 refine QV Tryz.func198 rfl (by kernel_rfl) ?_;refine Gx H ?_;replace H:=Js [2,0,0] 0 H;refine Q5 rfl (B9 (ki .i64) v1 H rfl rfl ?_);clear H;intro bi w H;refine Q6 ?_;refine QS ?_;refine Qi (fun ms σ w n=>ms=[]∧∃ ks:List Int,σ 0 = .func (.yield yl) #[] #[]∧σ 5=pp bi∧n=m.length - ks.length∧Q0 w (Gs (ki .i64) v1 (.map x) m bi ks::J ks::pts b (row 51 [.map x])::fr)) (m:=m.length) ⟨rfl,[],rfl,rfl,rfl,H⟩ ?_;clear H w;rintro ms σ w n ⟨rfl,ks,h0,h5,rfl,H⟩;rw[Q1 h0,Q1 h5];refine Yq H ?_;refine Q5 rfl (BQ H VL.inj rfl rfl (fun hp w H=>?_) (fun q hq hn hnd hsub w H=>?_))
 ·refine AV H ?_;replace H:=DX H;replace H:=Js [1,0] 1 H;exact Y7 _ (.inl rfl) H rfl fun w' H'=>⟨ks,hp,H'⟩
 ·have hlt:ks.length < m.length:=by
   have h1:(ks++[q.1]).Nodup:=by
    rw[nodup_append];exact⟨hnd,by simp,fun c hc c' hc' e0=>by simp at hc';subst hc';subst e0;exact hn hc⟩
   have h2:=G1 h1 (l₂:=m.map (·.1)) (fun z hz=>by
    rcases mem_append.1 hz with hz|hz
    ·exact hsub z hz
    ·simp at hz;subst hz;exact mem_map_of_mem hq)
   simp at h2;omega
  refine Bu H ?_;refine Yq H ?_;refine Q5 rfl (BV H VL.inj hq rfl rfl ?_);refine J2 H ?_;refine J5 H ?_;replace H:=Js [1,0,0] 0 H;refine Q5 rfl (Wl rfl rfl (SL.Yields.mono (hy ks q.1 _ _ hlt H) ?_));clear H;rintro v w ⟨rfl,H⟩;refine Vo H ?_;replace H:=Js [1,0,0] 0 H;exact⟨_,⟨rfl,ks++[q.1],rfl,rfl,rfl,H⟩,by simp;omega⟩
def IA (L:Q2) (b2:Nat) (ks:List Int):Q2:=ex fun v:Value=>star [QC 3 1 v (Qc ks),L,pts b2 (row 25 [v])]
theorem Nl [Q4] {w:World} {L:Q2} {b2:Nat} {ks:List Int} {l:List Q2} (H:Q0 w (IA L b2 ks::l)):∃ v,Q0 w (QC 3 1 v (Qc ks)::L::pts b2 (row 25 [v])::l):=by
 obtain⟨v,H⟩:=Q0.ex.1 H;exact⟨v,Q0.star.1 H⟩
theorem Nm [Q4] {w:World} {L:Q2} {b2:Nat} {ks:List Int} {l:List Q2} {v:Value} (H:Q0 w (QC 3 1 v (Qc ks)::L::pts b2 (row 25 [v])::l)):Q0 w (IA L b2 ks::l):=
 Q0.ex.2 ⟨v,Q0.star.2 H⟩
theorem dD [Q4] (b:Nat) (x:Option Nat) (m:List (Int×Int)) (hm:m.length≤1000000) {w:World} {fr:List Q2} (H:Q0 w (pts b (row 51 [.map x])::YN (ki .i64) v1 (.map x) m::fr)) :
  Calls Tryz.prog 197 #[.slice none 0 0,.func (.func 198) #[] #[pp b]] w
   (ret fun v w'=>∃ ks,ks.Perm (m.map (·.1))∧Q0 w' (QC 3 1 v (Qc ks)::YN (ki .i64) v1 (.map x) m::fr)):=by
 refine QV Tryz.func197 rfl (by kernel_rfl) ?_;refine ZF H ?_;clear H;intro b2 w H;refine BL H ?_;refine QS (Kt (a:=[]) (b:=[pp b]) H rfl (fun yl D w H=>?_));generalize hL:LR _ yl _ _ _ _ D .ready=L at H ⊢;replace H:=Yn (E:=3) (k:=1) H;replace H:=Js [0,0,1,1,1,0] 0 H;refine call (dC yl b x m (IA L b2) ?_ (Nm (ks:=[]) H)) ?_
 ·intro ks r rest w hlt H;obtain⟨v,H⟩:=Nl H;have h1:=Ae H;subst hL;replace H:=Js [1,0,0] 0 H;refine Ks (args:=[.int .i64 r]) H rfl rfl ?_;refine VJ H ?_;refine⟨rfl,_,H,fun w H=>QS ?_⟩;refine Xh H ?_;refine GX H ?_;clear H;intro b10 w H;replace H:=Js [2,0,0,0] 0 H;refine Q5 rfl (YF H rfl rfl (by repeat first|exact .nil _|apply QZ.cons rfl) rfl (by decide) (by simp only[Va,length_cons,length_nil];omega) rfl rfl ?_);clear H;intro v11 w H;obtain⟨a11,c11,rfl⟩:=QD (m:=ks.length+1) H (by simp[Va]) (by decide);refine Q5 rfl (Yh H rfl rfl inferInstance (Ae H) (Nat.le_of_ble_eq_true rfl) rfl ?_);clear H;intro w H;refine Q6 ?_;replace H:=Js [2,0,1] 1 H;refine⟨rfl,_,H,fun w H=>⟨rfl,Nm (v := .slice a11 (ks.length+1) c11) ?_⟩⟩;replace H:=Js [1,0,0] 0 H;rw[Ab];exact H
 ·rintro v w' ⟨ks,hp,H⟩;obtain⟨v2,H⟩:=Nl H;have h1:=Ae H;subst hL;replace H:=Js [1,0,0,0,0] 0 H;refine⟨_,H,fun w H=>?_⟩;refine Gx H ?_;refine UR H ?_;replace H:=Js [3,0,1] 1 H;exact Q3 (Rj (ms:=[D]) _ (.inr rfl) ((Q0.star (k:=[pts D (.deferred (some []))])).2 H) rfl fun w' H'=>⟨ks,hp,H'⟩)
theorem dE [Q4] (b:Nat) (x:Option Nat) (m:List (Int×Int)) (hm:m.length≤1000000) {w:World} {fr:List Q2} (H:Q0 w (pts b (row 51 [.map x])::YN (ki .i64) v1 (.map x) m::fr)) :
  Calls Tryz.prog 114 #[.func (.func 198) #[] #[pp b]] w
   (ret fun v w'=>∃ ks,ks.Perm (m.map (·.1))∧Q0 w' (QC 3 1 v (Qc ks)::YN (ki .i64) v1 (.map x) m::fr)):=by
 refine QV Tryz.func114 rfl (by kernel_rfl) ?_;refine R3 H ?_;refine Jc rfl rfl (dD b x m hm H) ?_;rintro v w ⟨ks,hp,H⟩;refine UR H ?_;exact Q3 (Jy H rfl fun w' H'=>⟨ks,hp,H'⟩)
theorem dF [Q4] {K V:Type} [DecidableEq K] {ek:K→Value} {vv:V→Value} {b:Nat} {m:List (K×V)} {w:World} {l:List Q2} (H:Q0 w (YN ek vv (.map (some b)) m::l)):Q0 w (mp ek vv b m::l):=H.head fun h hm=>by
 rcases hm with ⟨h1,_⟩|⟨b',h1,h2⟩
 ·cases h1
 ·injection h1 with h1
  injection h1 with h1
  subst h1;exact h2
theorem dH {K V:Type} [DecidableEq K] {m:List (K×V)} {x:K} {v:V} (h:x∈m.map (·.1)):(Vm m x v).map (·.1)=m.map (·.1):=by
 induction m with
 | nil=>cases h
 | cons p l ih=>
  unfold Vm;split
  ·rename_i h1;rw[map_cons,map_cons,← h1]
  ·rename_i h1;rw[map_cons,mem_cons] at h;rw[map_cons,map_cons,ih (h.resolve_left fun h2=>h1 h2.symm)]
theorem IB [Q4] (p last:Nat) (par:List (Int×Int)) (id:Int) {w:World} {fr:List Q2} (H:Q0 w (Qe p last par::fr)) :
  Calls Tryz.prog 10 #[pp p,.int .i64 id] w (ret fun v w'=>v = .tuple #[.int .i64 ((Q8 par id).getD 0),.int .i64 (if (Q8 par id).isSome then 0 else 6)]∧Q0 w' (Qe p last par::fr)):=by
 refine QV Tryz.func10 rfl (by kernel_rfl) ?_;refine Uo H ?_;refine Jc rfl rfl (El p last par id H) ?_;clear H;rintro v w ⟨rfl,H⟩;cases hf:Q8 par id with
 | none=>
  refine WG H ?_;exact Q3 (Jy H rfl fun w' H'=>⟨rfl,H'⟩)
 | some x=>
  refine Yp H ?_;obtain⟨b,H⟩:=KH H;refine J9 H ?_;refine Q5 rfl (Zv (key:=id) H rfl rfl VL rfl ?_);rw[hf];refine J2 H ?_;exact Q3 (Jy (Xn H) rfl fun w' H'=>⟨rfl,H'⟩)
def FV (par:List (Int×Int)) (id q:Int) (par':List (Int×Int)):Prop:=par'.map (·.1)=(par.map (·.1)).filter (·≠id)∧∀ r,Q8 par' r=if r=id then none else if Q8 par r=some id then some q else Q8 par r
theorem dI [Q4] (p last:Nat) (par:List (Int×Int)) (id:Int) (hnd:(par.map (·.1)).Nodup) (hl:par.length≤1000) {w:World} {fr:List Q2} (H:Q0 w (Qe p last par::fr)) :
  Calls Tryz.prog 48 #[pp p,.int .i64 id] w (ret fun v w'=>
   (Q8 par id=none∧v = .tuple #[.int .i64 0,.int .i64 6]∧Q0 w' (Qe p last par::fr)) ∨
   (Q8 par id=some 0∧v = .tuple #[.int .i64 0,.int .i64 16]∧Q0 w' (Qe p last par::fr)) ∨
   ∃ q par',Q8 par id=some q∧q≠0∧FV par id q par'∧v = .tuple #[.int .i64 q,.int .i64 0]∧Q0 w' (Qe p last par'::fr)):=by
 refine QV Tryz.func48 rfl (by kernel_rfl) ?_;refine Uo H ?_;refine Jc rfl rfl (IB p last par id H) ?_;clear H;rintro v w ⟨rfl,H⟩;refine W0 H ?_;refine Y1 (fun ms σ w=>ms=[]∧σ 0=pp p∧σ 1 = .int .i64 id∧∃ q,Q8 par id=some q∧q≠0∧σ 6 = .int .i64 q∧Q0 w (Qe p last par::fr)) ?_ ?_
 ·refine QS ?_;cases hf:Q8 par id with
  | none=>
   refine J5 H ?_;refine Un H ?_;refine VG H ?_;exact Q3 (.inr ⟨by simp,Jy H rfl fun w' H' => .inl ⟨rfl,rfl,H'⟩⟩)
  | some q=>
   refine J5 H ?_;refine BI H ?_;by_cases hq:q=0
   ·subst hq;refine J5 H ?_;refine BH H ?_;exact Q3 (.inr ⟨by simp,Jy H rfl fun w' H' => .inr (.inl ⟨rfl,rfl,H'⟩)⟩)
   ·refine J5 H ?_;rw[show (((some q).getD 0:Int) == 0)=false from by simpa using hq];refine Vo H ?_;exact .inl ⟨rfl,rfl,rfl,rfl,q,rfl,hq,rfl,H⟩
 clear H;rintro ms σ w ⟨rfl,g0,g1,q,hf,hq,g6,H⟩;rw[Q1 g0,Q1 g1,Q1 g6];obtain⟨b,H⟩:=KH H;refine ZU H ?_;replace H:=Js [1,0] 0 H;replace H:=Wt H;refine Jc rfl rfl (dB (some b) par H) ?_;clear H;rintro v w ⟨bk,rfl,H⟩
 refine Jc rfl rfl (dE bk (some b) par (by omega) H) ?_;clear H;rintro v w ⟨ks,hks,H⟩;obtain⟨ak,ck,rfl⟩:=QD H (Va ks) (by decide);refine Ul H ?_;have hkl:ks.length≤1000:=by rw[hks.length_eq,length_map];exact hl
 have hkn:ks.Nodup:=hks.nodup_iff.2 hnd;replace H:=Js [1,0] 0 H;replace H:=dF H;replace H:=Js [2,0,0] 0 H;refine J7 H ?_;refine Qm (fun ms σ w=>ms=[]∧σ 0=pp p∧σ 1 = .int .i64 id∧σ 6 = .int .i64 q∧∃ par1,par1.map (·.1)=par.map (·.1)∧(∀ r,Q8 par1 r=if Q8 par r=some id then some q else Q8 par r)∧Q0 w (pts p (row 114 [.map (some b),.int .i64 last])::mp (ki .i64) v1 b par1::fr)) ?_ ?_
 ·refine QS ?_;refine Qi (fun ms σ w n=>ms=[]∧∃ (i:Nat) (par1:List (Int×Int)),i≤ks.length∧n=ks.length - i∧par1.map (·.1)=par.map (·.1)∧(∀ r,Q8 par1 r=if r∈ks.take i∧Q8 par r=some id then some q else Q8 par r)∧σ 0=pp p∧σ 1 = .int .i64 id∧σ 6 = .int .i64 q∧σ 28 = .slice ak ks.length ck∧σ 29 = .int .i64 ks.length∧σ 30 = .int .i64 i∧Q0 w (pts p (row 114 [.map (some b),.int .i64 last])::mp (ki .i64) v1 b par1::IL (.slice ak ks.length ck) ks::fr)) (m:=ks.length) ⟨rfl,0,par,by omega,rfl,rfl,(fun r=>by rw[if_neg (by simp)]),rfl,rfl,rfl,rfl,rfl,rfl,H⟩ ?_;clear H;rintro ms σ w n ⟨rfl,i,par1,hi,rfl,hp1,hp2,g0,g1,g6,g28,g29,g30,H⟩;rw[Q1 g0,Q1 g1,Q1 g6,Q1 g28,Q1 g29,Q1 g30];refine J6 H ?_;refine Qh rfl (fun h=>QR ?_) (fun h=>Qj ?_)
  ·have hlt:i < ks.length:=by omega
   have hx:=getElem?_eq_getElem hlt;have htk:ks.take (i+1)=ks.take i++[ks[i]]:=by rw[take_add_one,hx];rfl
   have hnt:ks[i]∉ks.take i:=fun hh=>by
    obtain⟨j,hj⟩:=getElem?_of_mem hh;rw[getElem?_take] at hj;split at hj
    ·rename_i hji;obtain⟨hj1,hj2⟩:=List.getElem?_eq_some_iff.1 hj;exact(pairwise_iff_getElem.1 hkn) j i hj1 hlt hji hj2
    ·cases hj
   have hxm:ks[i]∈par.map (·.1):=hks.mem_iff.1 (getElem_mem hlt);generalize ks[i]=x at hx htk hnt hxm
   obtain⟨y,hy⟩:∃ y,Q8 par x=some y:=by
    cases hf:Q8 par x with
    | some y=>exact⟨y,rfl⟩
    | none=>exact absurd hxm (Rm.1 hf)
   have hy1:Q8 par1 x=some y:=by rw[hp2,if_neg (fun h=>hnt h.1),hy]
   replace H:=Js [2,0,0] 0 H;obtain⟨bT,sT,rfl,H,hcl⟩:=Qw H (by omega);refine Y9 H ?_;refine Jd ?_;refine Q5 rfl (QW H rfl (by simpa using U4 hx) rfl ?_);refine J0 H ?_;replace H:=hcl _ _ H;replace H:=Js [1,1,0] 0 H;refine J9 H ?_;refine Q5 rfl (Zv (key:=x) H rfl rfl VL rfl ?_);rw[hy1];refine J2 H ?_;by_cases hyi:y=id
   ·subst hyi;rw[show (y == y)=true from beq_self_eq_true y];refine VR H ?_;refine GU H ?_;refine Q5 rfl (Uf (key:=x) (v:=q) H rfl rfl rfl VL rfl ?_);clear H;intro w H;refine UX H ?_;refine⟨_,⟨rfl,i+1,Vm par1 x q,hlt,rfl,?_,fun r=>?_,rfl,rfl,rfl,rfl,rfl,Qa (by omega),H⟩,by omega⟩
    ·rw[dH (by rw[hp1];exact hxm),hp1]
    ·rw[Gd,hp2,htk];by_cases hxr:x=r
     ·subst hxr;rw[if_pos rfl,if_pos ⟨by simp,hy⟩]
     ·rw[if_neg hxr]
      have h1:r∈ks.take i++[x]↔r∈ks.take i:=by
       rw[mem_append,mem_singleton];exact⟨fun h=>h.elim (fun h=>h) fun h=>absurd h.symm hxr,.inl⟩
      simp only[h1]
   ·rw[show (y == id)=false from by simpa using hyi];refine BS H ?_;refine⟨_,⟨rfl,i+1,par1,hlt,rfl,hp1,fun r=>?_,rfl,rfl,rfl,rfl,rfl,Qa (by omega),H⟩,by omega⟩;rw[hp2,htk];by_cases hxr:x=r
    ·subst hxr;have h2:¬ Q8 par x=some id:=by rw[hy];intro h2;injection h2 with h2;exact hyi h2
     rw[if_neg (fun h=>h2 h.2),if_neg (fun h=>h2 h.2)]
    ·have h1:r∈ks.take i++[x]↔r∈ks.take i:=by
      rw[mem_append,mem_singleton];exact⟨fun h=>h.elim (fun h=>h) fun h=>absurd h.symm hxr,.inl⟩
     simp only[h1]
  ·have hge:i=ks.length:=by omega
   subst hge;rw[take_length] at hp2;refine⟨rfl,rfl,rfl,rfl,rfl,par1,hp1,fun r=>?_,?_⟩
   ·rw[hp2];by_cases h1:Q8 par r=some id
    ·rw[if_pos h1,if_pos ⟨hks.mem_iff.2 (mem_map.2 ⟨(r,id),Ud h1,rfl⟩),h1⟩]
    ·rw[if_neg h1,if_neg (fun h=>h1 h.2)]
   ·replace H:=Js [0,0] 1 H;exact H
 clear H;rintro ms σ w ⟨rfl,g0,g1,g6,par1,hp1,hp2,H⟩;rw[Q1 g0,Q1 g1,Q1 g6];refine J9 H ?_;refine Q5 rfl (XL (key:=id) H rfl rfl VL rfl ?_);clear H;intro w H;refine Rz H ?_;have hnd1:(par1.map (·.1)).Nodup:=by rw[hp1];exact hnd
 refine Q3 (Jy (Xn H) rfl fun w' H' => .inr (.inr ⟨q,QB par1 id,hf,hq,⟨?_,fun r=>?_⟩,rfl,H'⟩))
 ·have hid:id∈par1.map (·.1):=by rw[hp1];exact mem_map.2 ⟨(id,q),Ud hf,rfl⟩
  obtain⟨⟨x',y⟩,h1,h2⟩:=mem_map.1 hid;have h2:x'=id:=h2;subst h2;obtain⟨a1,a2,h3⟩:=append_of_mem h1;have hnd2:=hnd1;rw[← hp1];rw[h3] at hnd1 ⊢;rw[WX (p:=(x',y)) hnd1,map_append,map_append,map_cons];rw[map_append,map_cons] at hnd1;rw[nodup_append] at hnd1;obtain⟨n1,n2,n3⟩:=hnd1;rw[nodup_cons] at n2
  rw[filter_append,filter_cons,if_neg (by simp),filter_eq_self.2 (fun a ha=>by
   have:=n3 a ha x' mem_cons_self;simpa using this),filter_eq_self.2 (fun a ha=>by
   have:a≠x':=fun h4=>n2.1 (h4▸ha);simpa using this)]
 ·rw[XH hnd1,hp2];by_cases h1:id=r
  ·rw[if_pos h1,if_pos h1.symm]
  ·rw[if_neg h1,if_neg (show ¬ r=id from fun h=>h1 h.symm)]
structure ZA (s:CS) (R0:List (Rf×Int)) (D:List Rf) (R:List (Rf×Int)):Prop where
 nd:(R.map (·.1)).Nodup
 on:∀ r∈D,∀ t,Q8 R r=some t↔Cd s r t
 off:∀ r,r∉D→Q8 R r=Q8 R0 r
theorem ZA.start {s:CS} {R0:List (Rf×Int)} (h:(R0.map (·.1)).Nodup):ZA s R0 [] R0:=⟨h,fun r hr=>(by cases hr),fun _ _=>rfl⟩
theorem ZA.step {s:CS} {R0 R:List (Rf×Int)} {D:List Rf} (h:ZA s R0 D R) {k g p:Nat} {e:QQ} (hk:s.tab[k]? = some ⟨g,some e⟩) (hp:p < e.ws.length) (hr:VW (QO s e) p=true) :
  ZA s R0 (D++[((k:Int),(p:Int))]) (Ye { s with rem:=R } k e p (YZ e p)):=by
 have hnd:(({ s with rem:=R }:CS).rem.map (·.1)).Nodup:=h.nd;refine⟨NC hnd k e p _,fun r hrD t=>?_,fun r hrD=>?_⟩
 ·by_cases h1:r=((k:Int),(p:Int))
  ·subst h1;rw[ND hnd];constructor
   ·rintro⟨a,b,f,h1,h2,h3,h4⟩;obtain⟨h5,h6⟩:=GI (c:=a) h2;exact⟨k,p,g,e,a,b,f,rfl,hk,hp,hr,h1,h2,h3,h4⟩
   ·rintro⟨k',p',g',e',a,b,f,h1,h2,h3,h4,h5,h6,h7,h8⟩;injection h1 with h1 h9
    obtain rfl:k=k':=by omega
    obtain rfl:p=p':=by omega
    rw[hk] at h2;injection h2 with h2
    injection h2 with h2 h2'
    injection h2' with h2'
    subst h2';exact⟨a,b,f,h5,h6,h7,h8⟩
  ·rw[IV hnd h1]
   rcases mem_append.1 hrD with h2|h2
   ·exact h.on r h2 t
   ·rw[mem_singleton] at h2;exact absurd h2 h1
 ·have h1:r≠((k:Int),(p:Int)):=fun h2=>hrD (mem_append.2 (.inr (mem_singleton.2 h2)));rw[IV hnd h1];exact h.off r fun h2=>hrD (mem_append.2 (.inl h2))
def WL (s:CS) (k:Nat) (e:QQ):List Rf:=(WH (QO s e) e.ws.length).map fun p:Nat=>((k:Int),(p:Int))
def Nn (s:CS) (K:Nat→Prop) (D:List Rf):Prop:=∀ r,r∈D↔∃ (k g:Nat) (e:QQ),K k∧s.tab[k]? = some ⟨g,some e⟩∧r∈WL s k e
theorem Np {s:CS} {k:Nat} {e:QQ} {r:Rf}:r∈WL s k e↔∃ p:Nat,r=((k:Int),(p:Int))∧p < e.ws.length∧VW (QO s e) p=true:=by
 unfold WL WH;rw[mem_map];constructor
 ·rintro⟨p,h1,rfl⟩;rw[mem_filter,mem_range] at h1;exact⟨p,rfl,h1.1,h1.2⟩
 ·rintro⟨p,rfl,h1,h2⟩;exact⟨p,by rw[mem_filter,mem_range];exact⟨h1,h2⟩,rfl⟩
structure UM (s s':CS) (mv:Nat→QQ→QQ):Prop where
 lays:s'.lays=s.lays
 tabl:s'.tab.length=s.tab.length
 tab:∀ (k:Nat) (t:QF),s.tab[k]? = some t→s'.tab[k]? = some ⟨t.gen,t.ent.map (mv k)⟩
 same:∀ k e,(mv k e).lay=e.lay∧(mv k e).count=e.count∧(mv k e).ws=e.ws∧(mv k e).held=e.held∧(mv k e).pinned=e.pinned
theorem UM.at {s s':CS} {mv:Nat→QQ→QQ} (h:UM s s' mv) {k g:Nat} {e:QQ} (hk:s.tab[k]? = some ⟨g,some e⟩):s'.tab[k]? = some ⟨g,some (mv k e)⟩:=h.tab k _ hk
theorem UM.from {s s':CS} {mv:Nat→QQ→QQ} (h:UM s s' mv) {k g:Nat} {e':QQ} (hk:s'.tab[k]? = some ⟨g,some e'⟩):∃ e,s.tab[k]? = some ⟨g,some e⟩∧e'=mv k e:=by
 have hlt:k < s.tab.length:=by
  have:=(List.getElem?_eq_some_iff.1 hk).1;rw[h.tabl] at this;exact this
 have h1:=getElem?_eq_getElem hlt;generalize s.tab[k]=t at h1;have h2:=h.tab k t h1;rw[hk] at h2;obtain⟨g0,e0⟩:=t;injection h2 with h2
 injection h2 with h3 h4
 subst h3;cases e0 with
 | none=>cases h4
 | some e=>
  injection h4 with h4
  exact⟨e,h1,h4⟩
theorem UM.lay {s s':CS} {mv:Nat→QQ→QQ} (h:UM s s' mv) (k:Nat) (e:QQ):QO s' (mv k e)=QO s e:=by
 unfold QO;rw[h.lays,(h.same k e).1]
theorem UM.lk {s s':CS} {mv:Nat→QQ→QQ} (h:UM s s' mv) (k:Nat) (e:QQ) (p:Nat):YZ (mv k e) p=YZ e p:=by
 unfold YZ;rw[(h.same k e).2.2.1]
theorem IC {ts:List QF} {a b:Nat} {f:QQ} (h:ts[a]? = some ⟨b,some f⟩):Qn ts a b=some (a,f):=Vz.2 ⟨b,rfl,rfl,h⟩
theorem Nq {s s':CS} {mv:Nat→QQ→QQ} (h:UM s s' mv) (hI:Inv s) {D:List Rf} (hN:ZA s' s.rem D s'.rem)
  (hoff:∀ (k g p a b:Nat) (e f:QQ),((k:Int),(p:Int))∉D→s.tab[k]? = some ⟨g,some e⟩→p < e.ws.length→VW (QO s e) p=true→s.tab[a]? = some ⟨b,some f⟩→((mv a f).region≠(mv k e).region↔f.region≠e.region)):Inv s':=by
 refine⟨hN.nd,fun r t=>?_,fun k g e' p a b hk hp hr hl=>?_⟩
 ·by_cases hD:r∈D
  ·exact hN.on r hD t
  ·rw[hN.off r hD,hI.rem];constructor
   ·rintro⟨k,p,g,e,a,b,f,rfl,hk,hp,hrf,hl,hlo,hfar,rfl⟩;obtain⟨_,ha⟩:=GI hlo;exact⟨k,p,g,mv k e,a,b,mv a f,rfl,h.at hk,by rw[(h.same k e).2.2.1];exact hp,by rw[h.lay];exact hrf,by rw[h.lk];exact hl,IC (h.at ha),(hoff k g p a b e f hD hk hp hrf ha).2 hfar,rfl⟩
   ·rintro⟨k,p,g,e',a,b,f',rfl,hk,hp,hrf,hl,hlo,hfar,rfl⟩;obtain⟨e,hk0,rfl⟩:=h.from hk;obtain⟨_,ha⟩:=GI hlo;obtain⟨f,ha0,rfl⟩:=h.from ha;rw[(h.same k e).2.2.1] at hp;rw[h.lay] at hrf;rw[h.lk] at hl;exact⟨k,p,g,e,a,b,f,rfl,hk0,hp,hrf,hl,IC ha0,(hoff k g p a b e f hD hk0 hp hrf ha0).1 hfar,rfl⟩
 ·obtain⟨e,hk0,rfl⟩:=h.from hk;rw[(h.same k e).2.2.1] at hp;rw[h.lay] at hr;rw[h.lk] at hl;obtain⟨f,hf⟩:=hI.link k g e p a b hk0 hp hr hl;obtain⟨_,ha⟩:=GI hf;exact⟨_,IC (h.at ha)⟩
theorem Nr {lays:List QJ} {i:Nat} {e e':QQ} (h:Ur lays i e) (h1:e'.lay=e.lay) (h2:e'.count=e.count) (h3:e'.ws=e.ws):Ur lays i e':=by
 obtain⟨m,l,a1,a2,a3,a4⟩:=h;exact⟨by rw[h1,h2];exact m,l,by rw[h1];exact a1,a2,by rw[h2,h3];exact a3,by rw[h3];exact a4⟩
def Yf (id q:Int) (e:QQ):QQ:=if e.region=id then { e with region:=q } else e
def Zq (id q:Int) (t:QF):QF:=⟨t.gen,t.ent.map (Yf id q)⟩
theorem XX (id q:Int) (e:QQ):(Yf id q e).lay=e.lay∧(Yf id q e).count=e.count∧(Yf id q e).ws=e.ws∧(Yf id q e).held=e.held∧(Yf id q e).pinned=e.pinned:=by
 unfold Yf;split <;> exact⟨rfl,rfl,rfl,rfl,rfl⟩
theorem XK (id q:Int) (e:QQ):(Yf id q e).addr=e.addr∧QN (Yf id q e)=QN e:=by
 unfold Yf;split <;> exact⟨rfl,rfl⟩
theorem UN (id q:Int) (e:QQ):(Yf id q e).region=if e.region=id then q else e.region:=by
 unfold Yf;split <;> rfl
theorem Kc {ts:List QF} {id q:Int} {k g:Nat} {e':QQ} (h:(ts.map (Zq id q))[k]? = some ⟨g,some e'⟩):∃ e,ts[k]? = some ⟨g,some e⟩∧e'=Yf id q e:=by
 rw[getElem?_map] at h;cases ht:ts[k]? with
 | none=>rw[ht] at h;cases h
 | some t=>
  rw[ht] at h;obtain⟨g0,e0⟩:=t;injection h with h
  injection h with h1 h2
  have h1:g0=g:=h1;subst h1;cases e0 with
  | none=>cases h2
  | some e=>
   injection h2 with h2
   exact⟨e,rfl,h2.symm⟩
theorem ID {ts:List QF} {id q:Int} {k g:Nat} {e:QQ} (h:ts[k]? = some ⟨g,some e⟩):(ts.map (Zq id q))[k]? = some ⟨g,some (Yf id q e)⟩:=by
 rw[getElem?_map,h];rfl
theorem Kd {l:List (Nat×Nat)} {x:Nat×Nat} (hx:x∈l) {c:Nat} (h1:x.1≤c) (h2:c < x.1+x.2):c∈QK l:=mem_flatMap.2 ⟨x,hx,GD.2 ⟨h1,h2⟩⟩
theorem dJ {s:CS} (h:WF s) (hnd:(s.par.map (·.1)).Nodup) {id q:Int} (hne:id≠q) {par':List (Int×Int)} (hp:FV s.par id q par')
  {bi bq:Nat} {S T:QH} {a1 a2 c1 c2:List (Int×Nat×QH)} (hs1:s.sps=a1++(id,bi,T)::a2) (hs2:a1++a2=c1++(q,bq,S)::c2)
  {gi gq:Nat} {M N N':List Nat} {d1 d2 e1 e2:List (Int×Nat×List Nat)} (hm1:s.mns=d1++(id,gi,M)::d2) (hm2:d1++d2=e1++(q,gq,N)::e2)
  {own':List Nat} (hol:own'.length=s.own.length) (hog:∀ j,own'.getD j 0=if j∈QK T.parts then q.toNat else s.own.getD j 0)
  (hN:N'.Pairwise (· < ·)) (hN':∀ j,j∈N'↔j∈M∨j∈N) (R:List ((Int×Int)×Int)) :
  WF { s with own:=own',tab:=s.tab.map (Zq id q),par:=par',rem:=R,sps:=c1++(q,bq,Z6 S T)::c2,mns:=e1++(q,gq,N')::e2 }:=by
 have hTm:(id,bi,T)∈s.sps:=by rw[hs1];simp
 have hT:=h.spc _ hTm;obtain⟨s1,s2⟩:=U6 (f:=fun y:Int×Nat×QH=>y.1) hs1 (by rw[h.skeys];exact hnd);obtain⟨t1,t2⟩:=U6 (f:=fun y:Int×Nat×List Nat=>y.1) hm1 (by rw[h.mkeys];exact hnd);have hSm:(q,bq,S)∈s.sps:=(s2 _ (by rw[hs2];simp)).1;have hNm:(q,gq,N)∈s.mns:=(t2 _ (by rw[hm2];simp)).1;have hMm:(id,gi,M)∈s.mns:=by rw[hm1];simp
 have hS:=h.spc _ hSm;have hidk:id∈s.par.map (·.1):=by rw[← h.skeys];exact mem_map.2 ⟨_,hTm,rfl⟩
 have hqk:q∈s.par.map (·.1):=by rw[← h.skeys];exact mem_map.2 ⟨_,hSm,rfl⟩
 have hpos:∀ r:Int,r∈s.par.map (·.1)→1≤r∧r≤s.last:=fun r hr=>by
  obtain⟨⟨r',z⟩,h1,h2⟩:=mem_map.1 hr;have h2:r'=r:=h2;subst h2;exact h.par.2.2 _ _ h1
 have hq1:=(hpos q hqk).1
 have hk':∀ r:Int,r∈par'.map (·.1)↔r∈s.par.map (·.1)∧r≠id:=fun r=>by
  rw[hp.1,mem_filter];simp
 have hown:∀ (c r:Nat),own'[c]? = some r→r≠0→∃ r0:Nat,s.own[c]? = some r0∧r0≠0∧(r:Int)=if (r0:Int)=id then q else r0:=by
  intro c r h1 h2;have h3:=hog c;have hcl:c < s.own.length:=by rw[← hol];exact(List.getElem?_eq_some_iff.1 h1).1
  have h0:=getElem?_eq_getElem hcl;rw[getD_eq_getElem?_getD,getD_eq_getElem?_getD,h1,h0] at h3;generalize s.own[c]=r0 at h0 h3;simp only[Option.getD_some] at h3;by_cases hc:c∈QK T.parts
  ·rw[if_pos hc] at h3;obtain⟨y,h4,h5,h6⟩:=(hT.owned c).1 hc;rw[h0] at h4;injection h4 with h4
   subst h4;have h5:(r0:Int)=id:=h5;exact⟨r0,h0,h6,by rw[if_pos h5];omega⟩
  ·rw[if_neg hc] at h3;subst h3;refine⟨r,h0,h2,?_⟩;rw[if_neg];intro h5;exact hc ((hT.owned c).2 ⟨r,h0,h5,h2⟩)
 have hown2:∀ (c r0:Nat),s.own[c]? = some r0→r0≠0→∃ r:Nat,own'[c]? = some r∧r≠0∧(r:Int)=if (r0:Int)=id then q else r0:=by
  intro c r0 h0 h2;have h3:=hog c;have hcl:c < own'.length:=by rw[hol];exact(List.getElem?_eq_some_iff.1 h0).1
  have h1:=getElem?_eq_getElem hcl;rw[getD_eq_getElem?_getD,getD_eq_getElem?_getD,h1,h0] at h3;generalize own'[c]=r at h1 h3;simp only[Option.getD_some] at h3;by_cases hc:c∈QK T.parts
  ·rw[if_pos hc] at h3;obtain⟨y,h4,h5,h6⟩:=(hT.owned c).1 hc;rw[h0] at h4;injection h4 with h4
   subst h4;have h5:(r0:Int)=id:=h5;exact⟨r,h1,by omega,by rw[if_pos h5];omega⟩
  ·rw[if_neg hc] at h3;subst h3;refine⟨r,h1,h2,?_⟩;rw[if_neg];intro h5;exact hc ((hT.owned c).2 ⟨r,h0,h5,h2⟩)
 have hoth:∀ x∈c1++c2,x∈s.sps∧x.1≠id∧x.1≠q:=by
  intro x hx;obtain⟨h1,h2⟩:=s2 x (by rw[hs2];exact Us hx);obtain⟨u1,u2⟩:=U6 (f:=fun y:Int×Nat×QH=>y.1) hs2 (by rw[s1];exact(by rw[h.skeys];exact hnd:(s.sps.map fun y=>y.1).Nodup).filter _);exact⟨h1,h2,(u2 x hx).2⟩
 have hothM:∀ x∈e1++e2,x∈s.mns∧x.1≠id∧x.1≠q:=by
  intro x hx;obtain⟨h1,h2⟩:=t2 x (by rw[hm2];exact Us hx);obtain⟨u1,u2⟩:=U6 (f:=fun y:Int×Nat×List Nat=>y.1) hm2 (by rw[t1];exact(by rw[h.mkeys];exact hnd:(s.mns.map fun y=>y.1).Nodup).filter _);exact⟨h1,h2,(u2 x hx).2⟩
 have hone:∀ (c:Nat) (r:Int),r≠id→r≠q→((∃ y:Nat,own'[c]? = some y∧(y:Int)=r∧y≠0)↔∃ y:Nat,s.own[c]? = some y∧(y:Int)=r∧y≠0):=by
  intro c r h1 h2;constructor
  ·rintro⟨y,h3,h4,h5⟩;obtain⟨r0,h6,h7,h8⟩:=hown c y h3 h5;split at h8
   ·omega
   ·exact⟨r0,h6,by omega,h7⟩
  ·rintro⟨y,h3,h4,h5⟩;obtain⟨r,h6,h7,h8⟩:=hown2 c y h3 h5;rw[if_neg (by omega)] at h8;exact⟨r,h6,by omega,h7⟩
 refine⟨h.size,by show 1≤own'.length∧own'.length≤63;rw[hol];exact h.own,by show 1≤(s.tab.map _).length∧(s.tab.map _).length≤63;rw[length_map];exact h.slots,h.lays,fun i t hi=>?_,fun i g e hi=>?_,fun i j g g' e f hij hi hj=>?_,⟨?_,h.par.2.1,fun r z hr=>?_⟩,?_,?_,fun x hx=>?_,fun x hx i g e hi=>?_,fun c r hc hr=>?_,fun x hx=>?_⟩
 ·have hi:(s.tab.map (Zq id q))[i]? = some t:=hi;rw[getElem?_map] at hi;cases ht:s.tab[i]? with
  | none=>rw[ht] at hi;cases hi
  | some t0=>
   rw[ht] at hi;injection hi with hi
   subst hi;obtain⟨h1,h2⟩:=h.gen i t0 ht;refine⟨h1,fun h3=>h2 ?_⟩;have h3:(t0.ent.map (Yf id q)).isSome=true:=h3
   rwa [Option.isSome_map] at h3
 ·obtain⟨e,hiZ,heZ⟩:=Kc hi;subst heZ;replace hi:=hiZ;obtain⟨h1,⟨h2,h3⟩,z,h4⟩:=h.obj i g e hi;obtain⟨u1,u2,u3,_,_⟩:=XX id q e;refine⟨Nr h1 u1 u2 u3,⟨?_,fun c hc1 hc2=>?_⟩,?_⟩
  ·rw[(XK id q e).2];show _≤own'.length*s.size;rw[hol];exact h2
  ·rw[(XK id q e).1] at hc1 hc2;rw[u3] at hc2;obtain⟨r,h5,h6,h7⟩:=h3 c hc1 hc2;obtain⟨r',h8,h9,h10⟩:=hown2 c r h5 (by omega);refine⟨r',h8,?_,by omega⟩;rw[UN,h10,h6]
  ·have:(Yf id q e).region∈par'.map (·.1):=by
    rw[hk',UN];by_cases h5:e.region=id
    ·rw[if_pos h5];exact⟨hqk,hne.symm⟩
    ·rw[if_neg h5];exact⟨mem_map.2 ⟨_,h4,rfl⟩,h5⟩
   obtain⟨⟨r,z'⟩,h5,h6⟩:=mem_map.1 this;exact⟨z',by rw[← h6];exact h5⟩
 ·obtain⟨e,hiZ,heZ⟩:=Kc hi;subst heZ;replace hi:=hiZ;obtain⟨f,hjZ,heZ⟩:=Kc hj;subst heZ;replace hj:=hjZ;rw[(XK id q e).1,(XK id q e).2,(XK id q f).1,(XK id q f).2];exact h.apart i j _ _ e f hij hi hj
 ·have h1:=congrArg List.length hp.1;rw[length_map] at h1;have h2:=length_filter_le (·≠id) (s.par.map (·.1));rw[length_map] at h2;have:=h.par.1;show par'.length≤64;omega
 ·have h1:r∈par'.map (·.1):=mem_map.2 ⟨_,hr,rfl⟩;exact hpos r ((hk' r).1 h1).1
 ·show (c1++(q,bq,Z6 S T)::c2).map (·.1)=par'.map (·.1);rw[CR (x':=(q,bq,Z6 S T)) (x:=(q,bq,S)) rfl,← hs2,hp.1,← h.skeys];exact s1
 ·show (e1++(q,gq,N')::e2).map (·.1)=par'.map (·.1);rw[CR (x':=(q,gq,N')) (x:=(q,gq,N)) rfl,← hm2,hp.1,← h.mkeys];exact t1
 ·rcases Zz hx with rfl|hx
  ·refine⟨?_,fun hf=>?_,fun y hy=>?_,?_,fun c=>?_⟩
   ·show (if T.fin=0 then S.at' else T.at')≤(if T.fin=0 then S.fin else T.fin);split
    ·exact hS.at1
    ·exact hT.at1
   ·have hf:(if T.fin=0 then S.fin else T.fin)≠0:=hf;show ∃ c,(if T.fin=0 then S.fin else T.fin)=(c+1)*s.size∧c*s.size < (if T.fin=0 then S.at' else T.at')∧(c,1)∈S.parts++T.parts;by_cases h0:T.fin=0
    ·rw[if_pos h0] at hf;rw[if_pos h0,if_pos h0];obtain⟨c,u1,u2,u3⟩:=hS.fin hf;exact⟨c,u1,u2,mem_append.2 (.inl u3)⟩
    ·rw[if_neg h0,if_neg h0];obtain⟨c,u1,u2,u3⟩:=hT.fin h0;exact⟨c,u1,u2,mem_append.2 (.inr u3)⟩
   ·have hy:y∈S.parts++T.parts:=hy;rw[hol]
    rcases mem_append.1 hy with hy|hy
    ·exact hS.parts y hy
    ·exact hT.parts y hy
   ·show (QK (S.parts++T.parts)).Nodup;rw[GC,nodup_append];refine⟨hS.nodup,hT.nodup,fun a ha b hb hab=>?_⟩;subst hab;obtain⟨y,u1,u2,_⟩:=(hS.owned a).1 ha;obtain⟨z,v1,v2,_⟩:=(hT.owned a).1 hb;rw[u1] at v1;injection v1 with v1
    subst v1;exact hne (v2.symm.trans u2)
   ·show c∈QK (S.parts++T.parts)↔∃ y:Nat,own'[c]? = some y∧(y:Int)=q∧y≠0;rw[GC,mem_append,hS.owned,hT.owned];constructor
    ·rintro(⟨y,u1,u2,u3⟩|⟨y,u1,u2,u3⟩)
     ·obtain⟨r,v1,v2,v3⟩:=hown2 c y u1 u3;have u2:(y:Int)=q:=u2;rw[if_neg (by omega)] at v3;exact⟨r,v1,by omega,v2⟩
     ·obtain⟨r,v1,v2,v3⟩:=hown2 c y u1 u3;rw[if_pos u2] at v3;exact⟨r,v1,v3,v2⟩
    ·rintro⟨y,u1,u2,u3⟩;obtain⟨r,v1,v2,v3⟩:=hown c y u1 u3;by_cases h5:(r:Int)=id
     ·exact .inr ⟨r,v1,h5,v2⟩
     ·rw[if_neg h5] at v3;exact .inl ⟨r,v1,by show (r:Int)=q;omega,v2⟩
  ·obtain⟨h1,h2,h3⟩:=hoth x hx;obtain⟨a,b,c,d,e⟩:=h.spc x h1;exact⟨a,b,fun z hz=>by rw[hol];exact c z hz,d,fun z=>by rw[e,← hone z x.1 h2 h3]⟩
 ·obtain⟨e,hiZ,heZ⟩:=Kc hi;subst heZ;replace hi:=hiZ;rw[(XK id q e).1,(XK id q e).2]
  rcases Zz hx with rfl|hx
  ·show QN e≤(if T.fin=0 then S.at' else T.at')∨(if T.fin=0 then S.fin else T.fin)≤e.addr;split
   ·exact h.free _ hSm i g e hi
   ·exact h.free _ hTm i g e hi
  ·exact h.free x (hoth x hx).1 i g e hi
 ·obtain⟨r0,h1,h2,h3⟩:=hown c r hc hr
  have:(r:Int)∈par'.map (·.1):=by
   rw[hk'];by_cases h5:(r0:Int)=id
   ·rw[if_pos h5] at h3;rw[h3];exact⟨hqk,hne.symm⟩
   ·rw[if_neg h5] at h3;obtain⟨z,hz⟩:=h.live c r0 h1 h2;rw[h3];exact⟨mem_map.2 ⟨_,hz,rfl⟩,h5⟩
  obtain⟨⟨r,z'⟩,h5,h6⟩:=mem_map.1 this;exact⟨z',by rw[← h6];exact h5⟩
 ·rcases Zz hx with rfl|hx
  ·refine⟨hN,fun i=>?_⟩;show i∈N'↔∃ g e,(s.tab.map (Zq id q))[i]? = some ⟨g,some e⟩∧e.region=q;rw[hN',(h.mine _ hMm).2,(h.mine _ hNm).2];constructor
   ·rintro(⟨g,e,u1,u2⟩|⟨g,e,u1,u2⟩)
    ·exact⟨g,_,ID u1,by rw[UN,if_pos u2]⟩
    ·have u2:e.region=q:=u2;exact⟨g,_,ID u1,by rw[UN,if_neg (by rw[u2];exact hne.symm),u2]⟩
   ·rintro⟨g,e',u1,u2⟩;obtain⟨e,u1Z,heZ⟩:=Kc u1;subst heZ;replace u1:=u1Z;rw[UN] at u2;split at u2
    ·rename_i u3;exact .inl ⟨g,e,u1,u3⟩
    ·exact .inr ⟨g,e,u1,u2⟩
  ·obtain⟨h1,h2,h3⟩:=hothM x hx;obtain⟨u1,u2⟩:=h.mine x h1;refine⟨u1,fun i=>?_⟩;show i∈x.2.2↔∃ g e,(s.tab.map (Zq id q))[i]? = some ⟨g,some e⟩∧e.region=x.1;rw[u2];constructor
   ·rintro⟨g,e,u3,u4⟩;exact⟨g,_,ID u3,by rw[UN,if_neg (by rw[u4];exact h2),u4]⟩
   ·rintro⟨g,e',u3,u4⟩;obtain⟨e,u3Z,heZ⟩:=Kc u3;subst heZ;replace u3:=u3Z;rw[UN] at u4;split at u4
    ·exact absurd u4.symm h3
    ·exact⟨g,e,u3,u4⟩
theorem dL {s s':CS} {mem:List Nat} (m:VM s mem) {id q:Int} (h1:s'.own.length=s.own.length) (h2:s'.size=s.size) (h3:s'.tab=s.tab.map (Zq id q)):VM s' mem:=by
 refine⟨by rw[h1,h2];exact m.len,fun i g e' hi=>?_,fun i g e' hi p w hp=>?_⟩
 ·rw[h3] at hi;obtain⟨e,hiZ,heZ⟩:=Kc hi;subst heZ;replace hi:=hiZ;obtain⟨u1,u2,u3,_,_⟩:=XX id q e;rw[(XK id q e).1,u1,u2];exact m.head i g e hi
 ·rw[h3] at hi;obtain⟨e,hiZ,heZ⟩:=Kc hi;subst heZ;replace hi:=hiZ;obtain⟨u1,u2,u3,_,_⟩:=XX id q e;rw[(XK id q e).1];rw[u3] at hp;exact m.words i g e hi p w hp
theorem dM {s s':CS} (hP:Vp s) (hnd:(s.sps.map (·.1)).Nodup) {id q:Int} {bi bq:Nat} {S T:QH} {a1 a2 c1 c2:List (Int×Nat×QH)} (hs1:s.sps=a1++(id,bi,T)::a2) (hs2:a1++a2=c1++(q,bq,S)::c2)
  (h1:s'.size=s.size) (h2:s'.tab=s.tab.map (Zq id q)) (h3:s'.sps=c1++(q,bq,Z6 S T)::c2):Vp s':=by
 intro k g e' hk;rw[h2] at hk;obtain⟨e,hkZ,heZ⟩:=Kc hk;subst heZ;replace hk:=hkZ;obtain⟨x,x1,x2,y,y1,y2⟩:=hP k g e hk;have y2':G2 s'.size y (Yf id q e):=by rw[h1];exact y2.alike (XK id q e).1 (by rw[(XX id q e).2.2.1])
 rw[h3,UN];rw[hs1] at x1
 rcases Zz x1 with rfl|x1
 ·have x2:id=e.region:=x2;rw[if_pos x2.symm];exact⟨(q,bq,Z6 S T),by simp,rfl,y,mem_append.2 (.inr y1),y2'⟩
 ·have hxi:x.1≠id:=by
   rw[hs1] at hnd;exact((U6 (f:=fun y:Int×Nat×QH=>y.1) rfl hnd).2 x x1).2
  rw[if_neg (by rw[← x2];exact hxi)];rw[hs2] at x1
  rcases Zz x1 with rfl|x1
  ·exact⟨(q,bq,Z6 S T),by simp,x2,y,mem_append.2 (.inl y1),y2'⟩
  ·exact⟨x,Us x1,x2,y,y1,y2'⟩
theorem dN {par par':List (Int×Int)} (h:Y3 par) {id q:Int} (hid:Q8 par id=some q) (hq:q≠0) (hp:FV par id q par'):Y3 par':=by
 refine⟨by rw[hp.1];exact h.nd.filter _,fun r z hr=>?_⟩;obtain⟨q1,q2,q3⟩:=h.up id q hid;have hqs:(Q8 par q).isSome=true:=q3.elim (fun h=>absurd h hq) (fun h=>h)
 have hlive:∀ x:Int,x≠id→(Q8 par x).isSome=true→(Q8 par' x).isSome=true:=fun x h1 h2=>by
  rw[hp.2,if_neg h1];split
  ·rfl
  ·exact h2
 rw[hp.2] at hr;split at hr
 ·cases hr
 ·rename_i h1;split at hr
  ·rename_i h2;injection hr with hr
   subst hr;have:=(h.up r id h2).2.1;exact⟨q1,by omega,.inr (hlive _ (by omega) hqs)⟩
  ·rename_i h2;obtain⟨z1,z2,z3⟩:=h.up r z hr;exact⟨z1,z2,z3.imp (fun h=>h) fun h3=>hlive z (fun h4=>h2 (by rw[hr,h4])) h3⟩
structure WM (s:CS) (id q:Int) (s':CS):Prop where
 size:s'.size=s.size
 own:s'.own.length=s.own.length
 lays:s'.lays=s.lays
 last:s'.last=s.last
 par:FV s.par id q s'.par
 tab:s'.tab=s.tab.map (Zq id q)
 rem:∃ D,Nn s' (fun k=>∃ g e,s'.tab[k]? = some ⟨g,some e⟩∧e.region=q) D∧ZA s' s.rem D s'.rem
 part:Vp s→Vp s'
theorem WM.mv {s s':CS} {id q:Int} (h:WM s id q s'):UM s s' (fun _=>Yf id q):=by
 refine⟨h.lays,by rw[h.tab,length_map],fun k t hk=>?_,fun _ e=>XX id q e⟩;rw[h.tab,getElem?_map,hk];rfl
theorem dO {s s':CS} {id q:Int} (h:WM s id q s') (hne:id≠q) (hI:Inv s):Inv s':=by
 obtain⟨D,hD,hN⟩:=h.rem;refine Nq h.mv hI hN fun k g p a b e f hnD hk hp hr ha=>?_;have hrq:(Yf id q e).region≠q:=fun h1=>hnD ((hD _).2 ⟨k,g,Yf id q e,⟨g,_,h.mv.at hk,h1⟩,h.mv.at hk,Np.2 ⟨p,rfl,by rw[(XX id q e).2.2.1];exact hp,by rw[h.mv.lay k e];exact hr⟩⟩);show (Yf id q f).region≠(Yf id q e).region↔_;rw[UN] at hrq;rw[UN,UN];by_cases h1:e.region=id
 ·rw[if_pos h1] at hrq;exact absurd rfl hrq
 ·rw[if_neg h1] at hrq ⊢;by_cases h2:f.region=id
  ·rw[if_pos h2,h2];exact⟨fun _ h3=>h1 h3.symm,fun _ h3=>hrq h3.symm⟩
  ·rw[if_neg h2]
def Ke (size:Nat) (T:QH) (a n:Nat):Prop:=∃ c,(c,1)∈T.parts∧c*size≤a∧a+n≤(c+1)*size∧(a+n≤T.at'∨T.fin≤a)
theorem Ns {size:Nat} (hs:1≤size) {own:List Nat} {x:Int} {S:QH} (h:GB size own x S) {e:QQ} (hl:Zn size own e) (hne:e.region≠x):QN e≤S.at'∨S.fin≤e.addr:=by
 by_cases h0:S.fin=0
 ·right;omega
 obtain⟨c,hc1,hc2,hc3⟩:=h.fin h0;have hcm:c∈QK S.parts:=Kd hc3 (Nat.le_refl _) (Nat.lt_succ_self _);obtain⟨y,hy1,hy2,hy3⟩:=(h.owned c).1 hcm;have hat:=h.at1
 rcases hl.chunk hs c with (h1|h1)|⟨z,hz1,hz2,hz3⟩
 ·left;omega
 ·right;omega
 ·rw[hy1] at hz1;injection hz1 with hz1
  subst hz1;exact absurd (hz2.symm.trans hy2) hne
theorem Nt {s:CS} (h:WF s) {k g:Nat} {e:QQ} (hk:s.tab[k]? = some ⟨g,some e⟩) {r id:Int} (hr:e.region=r) (hne:id≠r) (hnd:(s.par.map (·.1)).Nodup)
  {p1 p2:List (Int×Nat×QH)} {b0 bs:Nat} {S T S' T':QH} (hsps:s.sps=p1++(r,b0,S)::(p2++[(id,bs,T)]))
  {m1 m2:List (Int×Nat×List Nat)} {c0 bm:Nat} {M N:List Nat} (hmns:s.mns=m1++(r,c0,M)::(m2++[(id,bm,N)])) {own':List Nat} {a:Nat} {e':QQ} (he:e'={ e with region:=id,addr:=a })
  (hol:own'.length=s.own.length) (hE:Zn s.size own' e') (hL:∀ (j n:Nat) (f:QQ),j≠k→s.tab[j]? = some ⟨n,some f⟩→Zn s.size own' f)
  (hap:∀ (j n:Nat) (f:QQ),j≠k→s.tab[j]? = some ⟨n,some f⟩→QN f≤e'.addr∨QN e'≤f.addr)
  (hS:GB s.size own' r S') (hT:GB s.size own' id T') (ho:∀ x∈p1++p2,GB s.size own' x.1 x.2.2)
  (hfS:∀ (j n:Nat) (f:QQ),(s.tab.set k ⟨g,some e'⟩)[j]? = some ⟨n,some f⟩→QN f≤S'.at'∨S'.fin≤f.addr) (hfT:∀ (j n:Nat) (f:QQ),(s.tab.set k ⟨g,some e'⟩)[j]? = some ⟨n,some f⟩→QN f≤T'.at'∨T'.fin≤f.addr)
  (hlive:∀ (c x:Nat),own'[c]? = some x→x≠0→(x:Int)=id∨s.own[c]? = some x) {b0' bs':Nat} :
  WF { s with own:=own',tab:=s.tab.set k ⟨g,some e'⟩,sps:=p1++(r,b0,S')::(p2++[(id,bs,T')]),mns:=m1++(r,c0,M.filter (·≠k))::(m2++[(id,bm,YL N k)]) }:=by
 have hkl:=(List.getElem?_eq_some_iff.1 hk).1;have hidk:id∈s.par.map (·.1):=by rw[← h.skeys,hsps];simp
 obtain⟨z,hz⟩:∃ z,(id,z)∈s.par:=by
  obtain⟨⟨x,z⟩,h1,h2⟩:=mem_map.1 hidk;exact⟨z,by rw[← h2];exact h1⟩
 have hlive':∀ (c x:Nat),own'[c]? = some x→x≠0→∃ q,((x:Int),q)∈s.par:=fun c x h1 h2=>by
  rcases hlive c x h1 h2 with h3|h3
  ·exact⟨z,by rw[h3];exact hz⟩
  ·exact h.live c x h3 h2
 have heg:e'.region=id:=by rw[he]
 have hoth:∀ x∈p1++p2,x∈s.sps∧x.1≠r∧x.1≠id:=by
  intro x hx;have hnk:(s.sps.map fun y=>y.1).Nodup:=by rw[h.skeys];exact hnd
  obtain⟨u1,u2⟩:=U6 (f:=fun y:Int×Nat×QH=>y.1) hsps hnk
  have hx1:x∈p1++(p2++[(id,bs,T)]):=by
   rcases mem_append.1 hx with hx|hx
   ·exact mem_append.2 (.inl hx)
   ·exact mem_append.2 (.inr (mem_append.2 (.inl hx)))
  obtain⟨v1,v2⟩:=U6 (f:=fun y:Int×Nat×QH=>y.1) (l:=p1++(p2++[(id,bs,T)])) (l1:=p1++p2) (l2:=[]) (a:=(id,bs,T)) (by simp) (by rw[u1];exact hnk.filter _);exact⟨(u2 x hx1).1,(u2 x hx1).2,(v2 x (by simpa using hx)).2⟩
 have hothM:∀ x∈m1++m2,x∈s.mns∧x.1≠r∧x.1≠id:=by
  intro x hx;have hnk:(s.mns.map fun y=>y.1).Nodup:=by rw[h.mkeys];exact hnd
  obtain⟨u1,u2⟩:=U6 (f:=fun y:Int×Nat×List Nat=>y.1) hmns hnk
  have hx1:x∈m1++(m2++[(id,bm,N)]):=by
   rcases mem_append.1 hx with hx|hx
   ·exact mem_append.2 (.inl hx)
   ·exact mem_append.2 (.inr (mem_append.2 (.inl hx)))
  obtain⟨v1,v2⟩:=U6 (f:=fun y:Int×Nat×List Nat=>y.1) (l:=m1++(m2++[(id,bm,N)])) (l1:=m1++m2) (l2:=[]) (a:=(id,bm,N)) (by simp) (by rw[u1];exact hnk.filter _);exact⟨(u2 x hx1).1,(u2 x hx1).2,(v2 x (by simpa using hx)).2⟩
 have hin:∀ {α:Type} {l1 l2:List α} {u v x:α},x∈l1++u::(l2++[v])→x=u∨x=v∨x∈l1++l2:=by
  intro α l1 l2 u v x hx
  rcases mem_append.1 hx with hx|hx
  ·exact .inr (.inr (mem_append.2 (.inl hx)))
  ·rcases mem_cons.1 hx with hx|hx
   ·exact .inl hx
   ·rcases mem_append.1 hx with hx|hx
    ·exact .inr (.inr (mem_append.2 (.inr hx)))
    ·exact .inr (.inl (mem_singleton.1 hx))
 have hMm:(r,c0,M)∈s.mns:=by rw[hmns];simp
 have hNm:(id,bm,N)∈s.mns:=by rw[hmns];simp
 have hM:=h.mine _ hMm;have hN:=h.mine _ hNm;refine⟨h.size,by show 1≤own'.length∧own'.length≤63;rw[hol];exact h.own,by show 1≤(s.tab.set _ _).length∧(s.tab.set _ _).length≤63;rw[length_set];exact h.slots,h.lays,fun i t hi=>?_,fun i n f hi=>?_,fun i j n n' f f' hij hi hj=>?_,h.par,?_,?_,fun x hx=>?_,fun x hx j n f hj=>?_,hlive',fun x hx=>?_⟩
 ·rcases Qx hi with ⟨rfl,rfl,_⟩|⟨_,hi⟩
  ·exact⟨(h.gen _ _ hk).1,fun _=>(h.gen _ _ hk).2 rfl⟩
  ·exact h.gen i t hi
 ·rcases Qx hi with ⟨rfl,h1,_⟩|⟨h0,hi⟩
  ·injection h1 with h1 h2
   injection h2 with h2
   subst h1 h2;exact⟨Nr (h.obj _ _ _ hk).1 (by rw[he]) (by rw[he]) (by rw[he]),hE,z,by rw[heg];exact hz⟩
  ·obtain⟨o1,_,o3⟩:=h.obj i n f hi;exact⟨o1,hL i n f h0 hi,o3⟩
 ·rcases Qx hi with ⟨rfl,h1,_⟩|⟨h0,hi2⟩ <;> rcases Qx hj with ⟨rfl,h2,_⟩|⟨h0',hj2⟩
  ·exact absurd rfl hij
  ·injection h1 with _ h1
   injection h1 with h1
   subst h1;exact(hap j n' f' h0' hj2).symm
  ·injection h2 with _ h2
   injection h2 with h2
   subst h2;exact hap i n f h0 hi2
  ·exact h.apart i j n n' f f' hij hi2 hj2
 ·rw[← h.skeys,hsps];simp
 ·rw[← h.mkeys,hmns];simp
 ·rcases hin hx with rfl|rfl|hx
  ·exact hS
  ·exact hT
  ·exact ho x hx
 ·rcases hin hx with rfl|rfl|hx2
  ·exact hfS j n f hj
  ·exact hfT j n f hj
  ·rcases Qx hj with ⟨rfl,h1,_⟩|⟨h0,hj2⟩
   ·injection h1 with _ h1
    injection h1 with h1
    subst h1;exact Ns h.size.1 (ho x hx2) hE (by rw[heg];exact(hoth x hx2).2.2.symm)
   ·exact h.free x (hoth x hx2).1 j n f hj2
 ·rcases hin hx with rfl|rfl|hx
  ·refine⟨hM.1.filter _,fun i=>?_⟩;show i∈M.filter (·≠k)↔∃ n f,(s.tab.set k ⟨g,some e'⟩)[i]? = some ⟨n,some f⟩∧f.region=r;rw[mem_filter,hM.2];constructor
   ·rintro⟨⟨n,f,h1,h2⟩,h3⟩;have h3:i≠k:=by simpa using h3
    exact⟨n,f,by rw[getElem?_set_ne (fun h=>h3 h.symm)];exact h1,h2⟩
   ·rintro⟨n,f,h1,h2⟩
    rcases Qx h1 with ⟨rfl,h3,_⟩|⟨h0,h1⟩
    ·injection h3 with _ h3
     injection h3 with h3
     subst h3;exact absurd (heg.symm.trans h2) hne
    ·exact⟨⟨n,f,h1,h2⟩,by simpa using h0⟩
  ·have hkN:k∉N:=fun h1=>by
    obtain⟨n,f,h2,h3⟩:=(hN.2 k).1 h1;rw[hk] at h2;injection h2 with h2
    injection h2 with _ h2
    injection h2 with h2
    subst h2;exact hne (h3.symm.trans hr)
   refine⟨F5 hN.1 hkN,fun i=>?_⟩;show i∈YL N k↔∃ n f,(s.tab.set k ⟨g,some e'⟩)[i]? = some ⟨n,some f⟩∧f.region=id;rw[F4,hN.2];constructor
   ·rintro(rfl|⟨n,f,h1,h2⟩)
    ·exact⟨g,e',getElem?_set_self hkl,heg⟩
    ·refine⟨n,f,?_,h2⟩;rw[getElem?_set_ne]
     ·exact h1
     ·intro h3;subst h3;exact hkN ((hN.2 _).2 ⟨n,f,h1,h2⟩)
   ·rintro⟨n,f,h1,h2⟩
    rcases Qx h1 with ⟨rfl,h3,_⟩|⟨h0,h1⟩
    ·exact .inl rfl
    ·exact .inr ⟨n,f,h1,h2⟩
  ·obtain⟨u1,u2,u3⟩:=hothM x hx;obtain⟨v1,v2⟩:=h.mine x u1;refine⟨v1,fun i=>?_⟩;show i∈x.2.2↔∃ n f,(s.tab.set k ⟨g,some e'⟩)[i]? = some ⟨n,some f⟩∧f.region=x.1;rw[v2];constructor
   ·rintro⟨n,f,h1,h2⟩;refine⟨n,f,?_,h2⟩;rw[getElem?_set_ne]
    ·exact h1
    ·intro h3;subst h3;rw[hk] at h1;injection h1 with h1
     injection h1 with _ h1
     injection h1 with h1
     subst h1;exact u2 (h2.symm.trans hr)
   ·rintro⟨n,f,h1,h2⟩
    rcases Qx h1 with ⟨rfl,h3,_⟩|⟨h0,h1⟩
    ·injection h3 with _ h3
     injection h3 with h3
     subst h3;exact absurd (h2.symm.trans heg) u3
    ·exact⟨n,f,h1,h2⟩
theorem dP {s:CS} (h:WF s) {k g:Nat} {e:QQ} (hk:s.tab[k]? = some ⟨g,some e⟩) {r id:Int} (hr:e.region=r) (hne:id≠r) (hnd:(s.par.map (·.1)).Nodup)
  {p1 p2:List (Int×Nat×QH)} {b0 bs:Nat} {S T:QH} (hsps:s.sps=p1++(r,b0,S)::(p2++[(id,bs,T)]))
  {m1 m2:List (Int×Nat×List Nat)} {c0 bm:Nat} {M N:List Nat} (hmns:s.mns=m1++(r,c0,M)::(m2++[(id,bm,N)])) {a:Nat}
  (hs:Ke s.size T a (e.ws.length+1)) (hfree:∀ (j n:Nat) (f:QQ),j≠k→s.tab[j]? = some ⟨n,some f⟩→QN f≤a∨a+(e.ws.length+1)≤f.addr) :
  WF { s with tab:=s.tab.set k ⟨g,some { e with region:=id,addr:=a }⟩,mns:=m1++(r,c0,M.filter (·≠k))::(m2++[(id,bm,YL N k)]) }:=by
 obtain⟨c,c1,c2,c3,c4⟩:=hs;have hTm:(id,bs,T)∈s.sps:=by rw[hsps];simp
 have hSm:(r,b0,S)∈s.sps:=by rw[hsps];simp
 have hT:=h.spc _ hTm;obtain⟨y,hy1,hy2,hy3⟩:=(hT.owned c).1 (Kd c1 (Nat.le_refl _) (Nat.lt_succ_self _));have hcl:=(List.getElem?_eq_some_iff.1 hy1).1;have hle:(c+1)*s.size≤s.own.length*s.size:=Nat.mul_le_mul_right _ hcl;have hs1:=h.size.1
 have hE:Zn s.size s.own { e with region:=id,addr:=a }:=by
  refine⟨by show a+1+e.ws.length≤_;omega,fun d h1 h2=>?_⟩;have h1:a / s.size≤d:=h1;have h2:d≤(a+e.ws.length) / s.size:=h2;have e1:a / s.size=c:=Nat.div_eq_of_lt_le (by omega) (by omega);have e2:(a+e.ws.length) / s.size=c:=Nat.div_eq_of_lt_le (by omega) (by omega);obtain rfl:d=c:=by omega
  exact⟨y,hy1,hy2,by omega⟩
 have hw:=Nt (S':=S) (T':=T) (own':=s.own) (b0':=0) (bs':=0) h hk hr hne hnd hsps hmns (a:=a) rfl rfl hE (fun j n f _ hj=>(h.obj j n f hj).2.1) (fun j n f h0 hj=>by
   have:=hfree j n f h0 hj;show QN f≤a∨a+1+e.ws.length≤f.addr;omega) (h.spc _ hSm) hT (fun x hx=>h.spc x (by
   rw[hsps]
   rcases mem_append.1 hx with hx|hx
   ·exact mem_append.2 (.inl hx)
   ·exact mem_append.2 (.inr (mem_cons_of_mem _ (mem_append.2 (.inl hx)))))) (fun j n f hj=>?_) (fun j n f hj=>?_) (fun _ _ h1 _ => .inr h1)
 ·rw[← hsps] at hw;exact hw
 ·rcases Qx hj with ⟨rfl,h1,_⟩|⟨h0,hj⟩
  ·injection h1 with _ h1
   injection h1 with h1
   subst h1;exact Ns hs1 (h.spc _ hSm) hE hne
  ·exact h.free _ hSm j n f hj
 ·rcases Qx hj with ⟨rfl,h1,_⟩|⟨h0,hj⟩
  ·injection h1 with _ h1
   injection h1 with h1
   subst h1;show a+1+e.ws.length≤T.at'∨T.fin≤a;omega
  ·exact h.free _ hTm j n f hj
theorem Nu {s s':CS} (h:WF s) {mem mem':List Nat} (m:VM s mem) {k g:Nat} {e:QQ} (hk:s.tab[k]? = some ⟨g,some e⟩) {id:Int} {a:Nat} (hfree:∀ (j n:Nat) (f:QQ),j≠k→s.tab[j]? = some ⟨n,some f⟩→QN f≤a∨a+(e.ws.length+1)≤f.addr)
  (hl:mem'.length=mem.length) (hin:∀ i,i < e.ws.length+1→mem'[a+i]? = mem[e.addr+i]?) (hout:∀ j,j < a∨a+(e.ws.length+1)≤j→mem'[j]? = mem[j]?)
  (h1:s'.own.length=s.own.length) (h2:s'.size=s.size) (h3:s'.tab=s.tab.set k ⟨g,some { e with region:=id,addr:=a }⟩):VM s' mem':=by
 refine⟨by rw[h1,h2,hl];exact m.len,fun i n f hi=>?_,fun i n f hi p w hp=>?_⟩
 ·rw[h3] at hi
  rcases Qx hi with ⟨rfl,u1,_⟩|⟨h0,hi⟩
  ·injection u1 with _ u1
   injection u1 with u1
   subst u1;have:=hin 0 (by omega);show mem'[a]? = _;rw[Nat.add_zero,Nat.add_zero] at this;rw[this];exact m.head _ _ _ hk
  ·rw[hout f.addr (by have:=hfree i n f h0 hi;unfold QN at this;omega)];exact m.head i n f hi
 ·rw[h3] at hi
  rcases Qx hi with ⟨rfl,u1,_⟩|⟨h0,hi⟩
  ·injection u1 with _ u1
   injection u1 with u1
   subst u1;have hp:e.ws[p]? = some w:=hp;have hpl:=(List.getElem?_eq_some_iff.1 hp).1;have:=hin (1+p) (by omega);show mem'[a+1+p]? = _;rw[Nat.add_assoc,this,← Nat.add_assoc];exact m.words _ _ _ hk p w hp
  ·have hpl:=(List.getElem?_eq_some_iff.1 hp).1;rw[hout (f.addr+1+p) (by have:=hfree i n f h0 hi;unfold QN at this;omega)];exact m.words i n f hi p w hp
theorem dS {s s':CS} (hP:Vp s) {k g:Nat} {e:QQ} {id:Int} {a:Nat} {bs:Nat} {T:QH} (hT:(id,bs,T)∈s'.sps) (hs:Ke s.size T a (e.ws.length+1)) (h1:s'.size=s.size) (h2:s'.tab=s.tab.set k ⟨g,some { e with region:=id,addr:=a }⟩) (h3:s'.sps=s.sps):Vp s':=by
 intro j n f hj;rw[h2] at hj
 rcases Qx hj with ⟨rfl,u1,_⟩|⟨h0,hj⟩
 ·injection u1 with _ u1
  injection u1 with u1
  subst u1;obtain⟨c,c1,c2,c3,_⟩:=hs;refine⟨_,hT,rfl,(c,1),c1,.inl ⟨rfl,?_,?_⟩⟩
  ·rw[h1];exact c2
  ·rw[h1];show a+1+e.ws.length≤(c+1)*s.size;omega
 ·rw[h3,h1];exact hP j n f hj
theorem Ci {l:List (Nat×Nat)} {c:Nat}:c∈QK l↔∃ y∈l,y.1≤c∧c < y.1+y.2:=by
 unfold QK;rw[mem_flatMap];constructor
 ·rintro⟨y,h1,h2⟩;exact⟨y,h1,GD.1 h2⟩
 ·rintro⟨y,h1,h2⟩;exact⟨y,h1,GD.2 h2⟩
theorem FY {A B:List (Nat×Nat)} {x:Nat×Nat} (h:(QK (A++x::B)).Nodup):(QK (A++B)).Nodup∧∀ c,x.1≤c→c < x.1+x.2→c∉QK (A++B):=by
 have e1:QK (A++x::B)=QK A++((List.range x.2).map (x.1+·)++QK B):=by
  rw[GC];rfl
 rw[e1,nodup_append] at h;obtain⟨h1,h2,h3⟩:=h;rw[nodup_append] at h2;obtain⟨h4,h5,h6⟩:=h2;rw[GC];refine⟨nodup_append.2 ⟨h1,h5,fun a ha b hb=>h3 a ha b (mem_append.2 (.inr hb))⟩,fun c hc1 hc2 hc=>?_⟩;have hr:c∈(List.range x.2).map (x.1+·):=GD.2 ⟨hc1,hc2⟩
 rcases mem_append.1 hc with hc|hc
 ·exact h3 c hc c (mem_append.2 (.inl hr)) rfl
 ·exact h6 c hr c hc rfl
theorem Nv {α:Type} {l:List (Int×α)} (h:(l.map (·.1)).Nodup) {x y:Int×α} (hx:x∈l) (hy:y∈l) (he:x.1=y.1):x=y:=by
 obtain⟨a1,a2,h1⟩:=append_of_mem hx;obtain⟨_,h2⟩:=U6 (f:=fun z:Int×α=>z.1) h1 h;rw[h1] at hy
 rcases Zz hy with rfl|hy
 ·rfl
 ·exact absurd he.symm (h2 y hy).2
theorem G2.chunk {size:Nat} (hs:1≤size) {x:Nat×Nat} {e:QQ} (h:G2 size x e) {d:Nat} (h1:e.addr / size≤d) (h2:d≤(e.addr+e.ws.length) / size):x.1≤d∧d < x.1+x.2:=by
 obtain⟨h3,h4⟩:=bA hs h;have h5:x.1≤e.addr / size:=(Nat.le_div_iff_mul_le (by omega)).2 h3;have h6:(e.addr+e.ws.length) / size < x.1+x.2:=(Nat.div_lt_iff_lt_mul (by omega)).2 (by unfold QN at h4;omega);omega
theorem IF {s:CS} (h:WF s) (hP:Vp s) (hnd:(s.par.map (·.1)).Nodup) {k g:Nat} {e:QQ} (hk:s.tab[k]? = some ⟨g,some e⟩) {b0 c n:Nat} {S:QH} (hSm:(e.region,b0,S)∈s.sps) {A B:List (Nat×Nat)} (hp:S.parts=A++(c,n)::B) (hn:2≤n) (hin:G2 s.size (c,n) e)
  {j n':Nat} {f:QQ} (hjk:j≠k) (hj:s.tab[j]? = some ⟨n',some f⟩) {d:Nat} (h1:f.addr / s.size≤d) (h2:d≤(f.addr+f.ws.length) / s.size):¬ (c≤d∧d < c+n):=by
 rintro⟨h3,h4⟩;have hS:=h.spc _ hSm;obtain⟨y,y1,y2,_⟩:=(hS.owned d).1 (Kd (x:=(c,n)) (by rw[hp];simp) h3 h4);obtain⟨z,z1,z2,_⟩:=(h.obj j n' f hj).2.1.2 d h1 h2;rw[y1] at z1;injection z1 with z1
 subst z1;obtain⟨x,x1,x2,w,w1,w2⟩:=hP j n' f hj;obtain rfl:x=(e.region,b0,S):=Nv (by rw[h.skeys];exact hnd) x1 hSm (by rw[x2,← z2,y2]);have w1:w∈S.parts:=w1;obtain⟨w3,w4⟩:=w2.chunk h.size.1 h1 h2;rw[hp] at w1
 rcases Zz w1 with rfl|w1
 ·rcases w2 with ⟨w5,_⟩|⟨_,w5,_⟩
  ·have w5:n=1:=w5;omega
  ·rcases hin with ⟨w6,_⟩|⟨_,w6,_⟩
   ·have w6:n=1:=w6;omega
   ·rcases h.apart k j g n' e f (fun h=>hjk h.symm) hk hj with w7|w7 <;> unfold QN at w7 <;> omega
 ·have hnd':=hS.nodup;have hnd':(QK S.parts).Nodup:=hnd';rw[hp] at hnd';exact(FY hnd').2 d h3 h4 (Kd w1 w3 w4)
theorem dT {s:CS} (h:WF s) (hP:Vp s) {k g:Nat} {e:QQ} (hk:s.tab[k]? = some ⟨g,some e⟩) {r:Int} {id:Nat} (hr:e.region=r) (hne:(id:Int)≠r) (hnd:(s.par.map (·.1)).Nodup)
  {p1 p2:List (Int×Nat×QH)} {b0 bs:Nat} {S T:QH} (hsps:s.sps=p1++(r,b0,S)::(p2++[((id:Int),bs,T)]))
  {m1 m2:List (Int×Nat×List Nat)} {c0 bm:Nat} {M N:List Nat} (hmns:s.mns=m1++(r,c0,M)::(m2++[((id:Int),bm,N)]))
  {A B:List (Nat×Nat)} {c n:Nat} (hp:S.parts=A++(c,n)::B) (hn:2≤n) (hin:G2 s.size (c,n) e) :
  WF { s with own:=V4 s.own c n id,tab:=s.tab.set k ⟨g,some { e with region:=id,addr:=e.addr }⟩,sps:=p1++(r,b0,{ S with parts:=A++B })::(p2++[((id:Int),bs,{ T with parts:=T.parts++[(c,n)] })]),mns:=m1++(r,c0,M.filter (·≠k))::(m2++[((id:Int),bm,YL N k)]) }:=by
 have hTm:((id:Int),bs,T)∈s.sps:=by rw[hsps];simp
 have hSm:(r,b0,S)∈s.sps:=by rw[hsps];simp
 have hT:=h.spc _ hTm;have hS:=h.spc _ hSm;have hcn:c+n≤s.own.length:=(hS.parts (c,n) (by show _∈S.parts;rw[hp];simp)).2;have hget:=fun i=>Zm (v:=id) hcn i;have hs1:=h.size.1
 have hid1:1≤id:=by
  have:(id:Int)∈s.par.map (·.1):=by rw[← h.skeys,hsps];simp
  obtain⟨⟨x,z⟩,h1,h2⟩:=mem_map.1 this;have h2:x=(id:Int):=h2;have:=(h.par.2.2 x z h1).1;omega
 have hrun:∀ d,c≤d→d < c+n→∃ y:Nat,s.own[d]? = some y∧(y:Int)=r∧y≠0:=fun d h1 h2=>(hS.owned d).1 (Kd (x:=(c,n)) (by show _∈S.parts;rw[hp];simp) h1 h2);have hSnd:(QK (A++(c,n)::B)).Nodup:=by rw[← hp];exact hS.nodup
 obtain⟨hn1,hn2⟩:=FY hSnd;have halone:=fun {j n':Nat} {f:QQ} (hjk:j≠k) (hj:s.tab[j]? = some ⟨n',some f⟩) {d:Nat}=>IF h hP hnd hk (S:=S) (b0:=b0) (by rw[hr];exact hSm) hp hn hin hjk hj (d:=d)
 have hfe:∀ x∈s.sps,∀ (j n':Nat) (f:QQ),(s.tab.set k ⟨g,some { e with region:=(id:Int),addr:=e.addr }⟩)[j]? = some ⟨n',some f⟩→QN f≤x.2.2.at'∨x.2.2.fin≤f.addr:=by
  intro x hx j n' f hj
  rcases Qx hj with ⟨rfl,h1,_⟩|⟨h0,hj⟩
  ·injection h1 with _ h1
   injection h1 with h1
   subst h1;exact(h.free x hx _ g e hk:QN e≤x.2.2.at'∨x.2.2.fin≤e.addr)
  ·exact h.free x hx j n' f hj
 refine Nt (b0':=0) (bs':=0) h hk hr hne hnd hsps hmns (e':={ e with region:=(id:Int),addr:=e.addr }) rfl (Vu hcn) ?_ (fun j n' f h0 hj=>?_) (fun j n' f h0 hj=>(h.apart j k n' g f e h0 hj hk:QN f≤e.addr∨QN e≤f.addr)) ⟨hS.at1,fun hf=>?_,fun y hy=>?_,hn1,fun d=>?_⟩ ⟨hT.at1,fun hf=>?_,fun y hy=>?_,?_,fun d=>?_⟩ (fun x hx=>?_) (hfe _ hSm) (hfe _ hTm) (fun d x h1 h2=>?_)
 ·obtain⟨u1,u2⟩:=(h.obj _ _ _ hk).2.1;refine⟨by rw[Vu hcn];exact u1,fun d h1 h2=>?_⟩;obtain⟨v1,v2⟩:=hin.chunk hs1 h1 h2;exact⟨id,by rw[hget,if_pos ⟨v1,v2⟩],rfl,hid1⟩
 ·obtain⟨u1,u2⟩:=(h.obj j n' f hj).2.1;refine⟨by rw[Vu hcn];exact u1,fun d h1 h2=>?_⟩;rw[hget,if_neg (halone h0 hj h1 h2)];exact u2 d h1 h2
 ·obtain⟨d,d1,d2,d3⟩:=hS.fin hf;refine⟨d,d1,d2,?_⟩;have d3:(d,1)∈S.parts:=d3;rw[hp] at d3
  rcases Zz d3 with d3|d3
  ·injection d3 with _ d3
   omega
  ·exact d3
 ·rw[Vu hcn];exact hS.parts y (by show y∈S.parts;rw[hp];exact Us hy)
 ·show d∈QK (A++B)↔_;constructor
  ·intro hd
   have hd0:d∈QK S.parts:=by
    obtain⟨y,y1,y2⟩:=Ci.1 hd;rw[hp];exact Ci.2 ⟨y,Us y1,y2⟩
   obtain⟨y,y1,y2,y3⟩:=(hS.owned d).1 hd0;refine⟨y,?_,y2,y3⟩;rw[hget,if_neg (fun h1=>hn2 d h1.1 h1.2 hd)];exact y1
  ·rintro⟨y,y1,y2,y3⟩;rw[hget] at y1;split at y1
   ·injection y1 with y1
    subst y1;exact absurd y2 hne
   ·rename_i h1;have hd0:=(hS.owned d).2 ⟨y,y1,y2,y3⟩;have hd0:d∈QK S.parts:=hd0;rw[hp] at hd0;obtain⟨z,z1,z2⟩:=Ci.1 hd0
    rcases Zz z1 with rfl|z1
    ·exact absurd z2 h1
    ·exact Ci.2 ⟨z,z1,z2⟩
 ·obtain⟨d,d1,d2,d3⟩:=hT.fin hf;exact⟨d,d1,d2,mem_append.2 (.inl d3)⟩
 ·rw[Vu hcn];have hy:y∈T.parts++[(c,n)]:=hy
  rcases mem_append.1 hy with hy|hy
  ·exact hT.parts y hy
  ·rw[mem_singleton] at hy;subst hy;exact⟨by show 1≤n;omega,hcn⟩
 ·show (QK (T.parts++[(c,n)])).Nodup;rw[GC,Xo,nodup_append];refine⟨hT.nodup,Hq c n,fun x hx y hy hxy=>?_⟩;subst hxy;obtain⟨h1,h2⟩:=GD.1 hy;obtain⟨y,y1,y2,_⟩:=hrun x h1 h2;obtain⟨z,z1,z2,_⟩:=(hT.owned x).1 hx;rw[y1] at z1;injection z1 with z1
  subst z1;exact hne (z2.symm.trans y2)
 ·show d∈QK (T.parts++[(c,n)])↔_;rw[GC,Xo,mem_append,GD,hget];constructor
  ·rintro(h1|h1)
   ·obtain⟨y,y1,y2,y3⟩:=(hT.owned d).1 h1;refine⟨y,?_,y2,y3⟩;rw[if_neg]
    ·exact y1
    ·rintro⟨h2,h3⟩;obtain⟨z,z1,z2,_⟩:=hrun d h2 h3;rw[y1] at z1;injection z1 with z1
     subst z1;exact hne (y2.symm.trans z2)
   ·exact⟨id,by rw[if_pos h1],rfl,by omega⟩
  ·rintro⟨y,y1,y2,y3⟩;by_cases h1:c≤d∧d < c+n
   ·exact .inr h1
   ·rw[if_neg h1] at y1;exact .inl ((hT.owned d).2 ⟨y,y1,y2,y3⟩)
 ·have hxs:x∈s.sps:=by
   rw[hsps]
   rcases mem_append.1 hx with hx|hx
   ·exact mem_append.2 (.inl hx)
   ·exact mem_append.2 (.inr (mem_cons_of_mem _ (mem_append.2 (.inl hx))))
  have hnk:(s.sps.map fun y=>y.1).Nodup:=by rw[h.skeys];exact hnd
  have hxr:x.1≠r:=by
   refine((U6 (f:=fun y:Int×Nat×QH=>y.1) hsps hnk).2 x ?_).2
   rcases mem_append.1 hx with hx|hx
   ·exact mem_append.2 (.inl hx)
   ·exact mem_append.2 (.inr (mem_append.2 (.inl hx)))
  have hxi:x.1≠(id:Int):=by
   have e1:s.sps=(p1++(r,b0,S)::p2)++((id:Int),bs,T)::[]:=by rw[hsps];simp
   refine((U6 (f:=fun y:Int×Nat×QH=>y.1) e1 hnk).2 x ?_).2;rw[append_nil];exact Us hx
  obtain⟨a1,a2,a3,a4,a5⟩:=h.spc x hxs;refine⟨a1,a2,fun y hy=>by rw[Vu hcn];exact a3 y hy,a4,fun d=>?_⟩;rw[a5,hget];by_cases h1:c≤d∧d < c+n
  ·rw[if_pos h1];obtain⟨y,y1,y2,y3⟩:=hrun d h1.1 h1.2;constructor
   ·rintro⟨z,z1,z2,z3⟩;rw[y1] at z1;injection z1 with z1
    subst z1;exact absurd (z2.symm.trans y2) hxr
   ·rintro⟨z,z1,z2,z3⟩;injection z1 with z1
    subst z1;exact absurd z2.symm hxi
  ·rw[if_neg h1]
 ·rw[hget] at h1;split at h1
  ·injection h1 with h1
   subst h1;exact .inl rfl
  ·exact .inr h1
theorem da {s s':CS} (h:WF s) (hP:Vp s) {k g:Nat} {e:QQ} (hk:s.tab[k]? = some ⟨g,some e⟩) {r id:Int} (hr:e.region=r) (hnd:(s.par.map (·.1)).Nodup)
  {p1 p2:List (Int×Nat×QH)} {b0 bs:Nat} {S T:QH} (hsps:s.sps=p1++(r,b0,S)::(p2++[(id,bs,T)])) {A B:List (Nat×Nat)} {c n:Nat} (hp:S.parts=A++(c,n)::B) (hn:2≤n) (hin:G2 s.size (c,n) e)
  (h1:s'.size=s.size) (h2:s'.tab=s.tab.set k ⟨g,some { e with region:=id,addr:=e.addr }⟩) (h3:s'.sps=p1++(r,b0,{ S with parts:=A++B })::(p2++[(id,bs,{ T with parts:=T.parts++[(c,n)] })])):Vp s':=by
 have hSm:(r,b0,S)∈s.sps:=by rw[hsps];simp
 intro j n' f hj;rw[h2] at hj;rw[h3,h1]
 rcases Qx hj with ⟨rfl,u1,_⟩|⟨h0,hj⟩
 ·injection u1 with _ u1
  injection u1 with u1
  subst u1;exact⟨(id,bs,{ T with parts:=T.parts++[(c,n)] }),by simp,rfl,(c,n),mem_append.2 (.inr (by simp)),hin.alike rfl rfl⟩
 ·obtain⟨x,x1,x2,y,y1,y2⟩:=hP j n' f hj;have x1':=x1;rw[hsps] at x1
  rcases mem_append.1 x1 with x1|x1
  ·exact⟨x,mem_append.2 (.inl x1),x2,y,y1,y2⟩
  ·rcases mem_cons.1 x1 with rfl|x1
   ·refine⟨(r,b0,{ S with parts:=A++B }),by simp,x2,y,?_,y2⟩;have y1:y∈S.parts:=y1;rw[hp] at y1
    rcases Zz y1 with rfl|y1
    ·exfalso;have hd1:f.addr / s.size≤f.addr / s.size:=Nat.le_refl _;have hd2:f.addr / s.size≤(f.addr+f.ws.length) / s.size:=Nat.div_le_div_right (by omega);exact IF h hP hnd hk (S:=S) (b0:=b0) (by rw[hr];exact hSm) hp hn hin h0 hj hd1 hd2 (y2.chunk h.size.1 hd1 hd2)
    ·exact y1
   ·rcases mem_append.1 x1 with x1|x1
    ·exact⟨x,mem_append.2 (.inr (mem_cons_of_mem _ (mem_append.2 (.inl x1)))),x2,y,y1,y2⟩
    ·rw[mem_singleton] at x1;subst x1;exact⟨(id,bs,{ T with parts:=T.parts++[(c,n)] }),by simp,x2,y,mem_append.2 (.inl y1),y2⟩
structure Pl where
 k:Nat
 g:Nat
 e:QQ
 a:Nat
def Zr (S:QH) (size:Nat) (e:QQ):Bool:=S.parts.any fun x=>decide (1 < x.2∧x.1≤e.addr / size∧e.addr / size < x.1+x.2)
theorem db {l:List (Nat×Nat)} (h:(QK l).Nodup) {x y:Nat×Nat} (hx:x∈l) (hy:y∈l) {c:Nat} (h1:x.1≤c) (h2:c < x.1+x.2) (h3:y.1≤c) (h4:c < y.1+y.2):x=y:=by
 obtain⟨A,B,rfl⟩:=append_of_mem hx
 rcases Zz hy with rfl|hy
 ·rfl
 ·exact absurd (Kd hy h3 h4) ((FY h).2 c h1 h2)
theorem Nw {s:CS} (h:WF s) (hnd:(s.par.map (·.1)).Nodup) (hP:Vp s) {k g:Nat} {e:QQ} (hk:s.tab[k]? = some ⟨g,some e⟩) {b0:Nat} {S:QH} (hSm:(e.region,b0,S)∈s.sps):∃ y∈S.parts,G2 s.size y e:=by
 obtain⟨x,x1,x2,y,y1,y2⟩:=hP k g e hk;obtain rfl:x=(e.region,b0,S):=Nv (by rw[h.skeys];exact hnd) x1 hSm x2;exact⟨y,y1,y2⟩
theorem dc {s:CS} (h:WF s) (hnd:(s.par.map (·.1)).Nodup) (hP:Vp s) {k g:Nat} {e:QQ} (hk:s.tab[k]? = some ⟨g,some e⟩) {b0:Nat} {S:QH} (hSm:(e.region,b0,S)∈s.sps) (hb:Zr S s.size e=false):e.ws.length+1≤s.size:=by
 obtain⟨y,y1,y2⟩:=Nw h hnd hP hk hSm
 rcases y2 with ⟨h1,h2,h3⟩|⟨h1,h2,h3⟩
 ·rw[Nat.add_mul] at h3;unfold QN at h3;omega
 ·exfalso;have hs:=h.size.1;have h4:e.addr / s.size=y.1:=by rw[h2];exact Nat.mul_div_cancel _ (by omega)
  have:Zr S s.size e=true:=any_eq_true.2 ⟨y,y1,decide_eq_true ⟨by omega,by omega,by omega⟩⟩;rw[hb] at this;cases this
theorem de {s:CS} (h:WF s) (hnd:(s.par.map (·.1)).Nodup) (hP:Vp s) {k g:Nat} {e:QQ} (hk:s.tab[k]? = some ⟨g,some e⟩) {b0:Nat} {S:QH} (hSm:(e.region,b0,S)∈s.sps) (hb:Zr S s.size e=true):∃ y∈S.parts,2≤y.2∧G2 s.size y e:=by
 obtain⟨x,x1,x2⟩:=any_eq_true.1 hb;obtain⟨x3,x4,x5⟩:=of_decide_eq_true x2;obtain⟨y,y1,y2⟩:=Nw h hnd hP hk hSm;obtain⟨y3,y4⟩:=y2.chunk h.size.1 (Nat.le_refl _) (Nat.div_le_div_right (by omega));obtain rfl:=db (h.spc _ hSm).nodup x1 y1 x4 x5 y3 y4;exact⟨x,x1,x3,y2⟩
structure YM (s:CS) (r:Nat) (S:QH) (Z:List Pl) (mem own' mem':List Nat) (T:QH):Prop where
 parts:∀ p∈T.parts,p.2=1∧s.own[p.1]? = some 0
 nd:(QK T.parts).Nodup
 at1:T.at'≤T.fin
 fin:T.fin≠0→∃ c,T.fin=(c+1)*s.size∧c*s.size < T.at'∧(c,1)∈T.parts
 ol:own'.length=s.own.length
 og:∀ j,own'.getD j 0=if j∈QK T.parts then r else s.own.getD j 0
 ml:mem'.length=mem.length
 mg:∀ a x,s.own[a / s.size]? = some x→x≠0→mem'[a]? = mem[a]?
 few:T.parts.length≤Z.length
 sit:∀ z∈Z,(Zr S s.size z.e=true∧z.a=z.e.addr)∨(Zr S s.size z.e=false∧Ke s.size T z.a (z.e.ws.length+1))
 apart:Z.Pairwise fun x y=>Zr S s.size x.e=false→Zr S s.size y.e=false→x.a+(x.e.ws.length+1)≤y.a∨y.a+(y.e.ws.length+1)≤x.a
theorem YM.start (s:CS) (r:Nat) (S:QH) (mem:List Nat):YM s r S [] mem s.own mem ⟨[],0,0⟩:=
 ⟨fun p hp=>(by cases hp),by simp[QK],Nat.le_refl _,fun h=>absurd rfl h,rfl,fun j=>by rw[if_neg (by simp[QK])],rfl,fun _ _ _ _=>rfl,Nat.le_refl _,fun z hz=>(by cases hz),.nil⟩
theorem YM.big {s:CS} {r:Nat} {S T:QH} {Z:List Pl} {mem own' mem':List Nat} (h:YM s r S Z mem own' mem' T) {z:Pl} (hb:Zr S s.size z.e=true) (ha:z.a=z.e.addr):YM s r S (Z++[z]) mem own' mem' T:=by
 refine⟨h.parts,h.nd,h.at1,h.fin,h.ol,h.og,h.ml,h.mg,by rw[length_append];have:=h.few;omega,fun y hy=>?_,?_⟩
 ·rcases mem_append.1 hy with hy|hy
  ·exact h.sit y hy
  ·rw[mem_singleton] at hy;subst hy;exact .inl ⟨hb,ha⟩
 ·rw[pairwise_append];refine⟨h.apart,by simp,fun x hx y hy h1 h2=>?_⟩;rw[mem_singleton] at hy;subst hy;rw[hb] at h2;cases h2
theorem YM.small {s:CS} (hw:WF s) {r:Nat} (hr:1≤r) {S T T':QH} {Z:List Pl} {mem own' mem' own2 mem2:List Nat} (h:YM s r S Z mem own' mem' T) (hml:mem.length=s.own.length*s.size) {z:Pl} (hb:Zr S s.size z.e=false) (hn:z.e.ws.length+1≤s.size)
  (al:U1 s.size own' mem' r T (z.e.ws.length+1) own2 mem2 T' z.a):YM s r S (Z++[z]) mem own2 mem2 T':=by
 have hs1:=hw.size.1;obtain⟨zk,zg,e,a⟩:=z;have hb:Zr S s.size e=false:=hb;have hn:e.ws.length+1≤s.size:=hn;have al:U1 s.size own' mem' r T (e.ws.length+1) own2 mem2 T' a:=al
 have fin2:∀ {U:QH},(∀ z∈Z,Zr S s.size z.e=false→Ke s.size U z.a (z.e.ws.length+1)∧(z.a+(z.e.ws.length+1)≤a∨a+(e.ws.length+1)≤z.a))→Ke s.size U a (e.ws.length+1) →
   (∀ z∈Z++[Pl.mk zk zg e a],(Zr S s.size z.e=true∧z.a=z.e.addr)∨(Zr S s.size z.e=false∧Ke s.size U z.a (z.e.ws.length+1))) ∧
   (Z++[Pl.mk zk zg e a]).Pairwise fun x y=>Zr S s.size x.e=false→Zr S s.size y.e=false→x.a+(x.e.ws.length+1)≤y.a∨y.a+(y.e.ws.length+1)≤x.a:=by
  intro U h1 h2;constructor
  ·intro y hy
   rcases mem_append.1 hy with hy|hy
   ·rcases h.sit y hy with h3|⟨h3,_⟩
    ·exact .inl h3
    ·exact .inr ⟨h3,(h1 y hy h3).1⟩
   ·rw[mem_singleton] at hy;subst hy;exact .inr ⟨hb,h2⟩
  ·rw[pairwise_append];refine⟨h.apart,by simp,fun x hx y hy h3 h4=>?_⟩;rw[mem_singleton] at hy;subst hy;exact(h1 x hx h3).2
 have hsit:∀ z∈Z,Zr S s.size z.e=false→Ke s.size T z.a (z.e.ws.length+1):=fun z hz h1=>by
  rcases h.sit z hz with ⟨h2,_⟩|⟨_,h2⟩
  ·rw[h1] at h2;cases h2
  ·exact h2
 cases al with
 | room hroom=>
  have hf0:T.fin≠0:=by omega
  obtain⟨c,hc1,hc2,hc3⟩:=h.fin hf0
  obtain⟨f1,f2⟩:=fin2 (U:={ T with at':=T.at'+(e.ws.length+1) }) (fun z hz h1=>by
   obtain⟨d,d1,d2,d3,d4⟩:=hsit z hz h1;refine⟨⟨d,d1,d2,d3,?_⟩,?_⟩
   ·show _≤T.at'+(e.ws.length+1)∨_
    rcases d4 with d4|d4
    ·left;omega
    ·exact .inr d4
   ·rcases d4 with d4|d4
    ·exact .inl d4
    ·right;omega) ⟨c,hc3,by omega,by rw[← hc1];omega,.inl (Nat.le_refl _)⟩
  refine⟨h.parts,h.nd,by show T.at'+_≤T.fin;omega,fun _=>⟨c,hc1,by show c*s.size < T.at'+_;omega,hc3⟩,h.ol,h.og,h.ml,h.mg,by rw[length_append];have:=h.few;show T.parts.length≤_;omega,f1,f2⟩
 | @one c hc hf hn'=>
  have hcl:c < own'.length:=hc
  have hnT:c∉QK T.parts:=fun h1=>by
   have h2:=h.og c;rw[if_pos h1,getD_eq_getElem?_getD,hf] at h2;have h2:(0:Nat)=r:=h2;omega
  have hs0:s.own[c]? = some 0:=by
   have h2:=h.og c;rw[if_neg hnT,getD_eq_getElem?_getD,hf,getD_eq_getElem?_getD,getElem?_eq_getElem (by rw[← h.ol];exact hcl)] at h2;rw[getElem?_eq_getElem (by rw[← h.ol];exact hcl)];have h2:(0:Nat)=s.own[c]'(by rw[← h.ol];exact hcl):=h2;rw[← h2]
  have hsz:(c+1)*s.size=c*s.size+s.size:=Nat.succ_mul _ _;have hle:(c+1)*s.size≤s.own.length*s.size:=Nat.mul_le_mul_right _ (by rw[← h.ol];exact hcl)
  obtain⟨f1,f2⟩:=fin2 (U:=⟨T.parts++[(c,1)],c*s.size+(e.ws.length+1),(c+1)*s.size⟩) (fun z hz h1=>by
   obtain⟨d,d1,d2,d3,d4⟩:=hsit z hz h1;have hdc:d≠c:=fun h2=>hnT (h2▸Kd d1 (Nat.le_refl _) (Nat.lt_succ_self _))
   rcases Nat.lt_or_gt_of_ne hdc with h2|h2
   ·have h3:(d+1)*s.size≤c*s.size:=Nat.mul_le_mul_right _ h2;exact⟨⟨d,mem_append.2 (.inl d1),d2,d3,.inl (by show _≤c*s.size+_;omega)⟩,.inl (by omega)⟩
   ·have h3:(c+1)*s.size≤d*s.size:=Nat.mul_le_mul_right _ h2;exact⟨⟨d,mem_append.2 (.inl d1),d2,d3,.inr (by show (c+1)*s.size≤_;omega)⟩,.inr (by omega)⟩) ⟨c,by simp,Nat.le_refl _,by omega,.inl (Nat.le_refl _)⟩
  refine⟨fun p hp=>?_,?_,by show c*s.size+_≤(c+1)*s.size;omega,fun _=>⟨c,rfl,by show c*s.size < c*s.size+_;omega,by simp⟩,by rw[Vu hc];exact h.ol,fun j=>?_,?_,fun i x h1 h2=>?_,by have:=h.few;simp only[length_append,length_cons,length_nil];omega,f1,f2⟩
  ·rcases mem_append.1 (show p∈T.parts++[(c,1)] from hp) with hp|hp
   ·exact h.parts p hp
   ·rw[mem_singleton] at hp;subst hp;exact⟨rfl,hs0⟩
  ·show (QK (T.parts++[(c,1)])).Nodup;rw[GC,Xo,nodup_append];refine⟨h.nd,Hq c 1,fun x hx y hy hxy=>?_⟩;subst hxy;have:=GD.1 hy;obtain rfl:x=c:=by omega
   exact hnT hx
  ·show _=if j∈QK (T.parts++[(c,1)]) then r else _;rw[RR hc,h.og,GC,Xo];by_cases h1:c≤j∧j < c+1
   ·rw[if_pos h1,if_pos (mem_append.2 (.inr (GD.2 h1)))]
   ·rw[if_neg h1];by_cases h2:j∈QK T.parts
    ·rw[if_pos h2,if_pos (mem_append.2 (.inl h2))]
    ·rw[if_neg h2,if_neg];intro h3
     rcases mem_append.1 h3 with h3|h3
     ·exact h2 h3
     ·exact h1 (GD.1 h3)
  ·rw[Vu (by rw[h.ml,hml,Nat.one_mul];omega)];exact h.ml
  ·rw[Zm (by rw[h.ml,hml,Nat.one_mul];omega),if_neg]
   ·exact h.mg i x h1 h2
   ·rintro⟨h3,h4⟩;have:i / s.size=c:=Nat.div_eq_of_lt_le (by omega) (by omega);rw[this,hs0] at h1;injection h1 with h1
    exact h2 h1.symm
 | @run c k hk hc hf hn1 hn2=>
  exfalso;have:1*s.size≤(k - 1)*s.size:=Nat.mul_le_mul_right _ (by omega);omega
theorem df {s:CS} (h:WF s) {r:Nat} {S T:QH} {Z:List Pl} {mem own' mem':List Nat} (hA:YM s r S Z mem own' mem' T) (hl:s.par.length < 64) (hlast:s.last+1 < 1000000) {own2:List Nat} (hol:own2.length=own'.length) (hog:∀ j,own2.getD j 0=if j∈QK T.parts then s.last+1 else own'.getD j 0) (bs bm:Nat) :
  WF { s with own:=own2,last:=s.last+1,par:=s.par++[(((s.last+1:Nat):Int),(r:Int))],sps:=s.sps++[(((s.last+1:Nat):Int),bs,T)],mns:=s.mns++[(((s.last+1:Nat):Int),bm,[])] }:=by
 have hup:∀ r x,(r,x)∈s.par→r≠((s.last+1:Nat):Int):=fun r x hx=>by
  have:=(h.par.2.2 r x hx).2;omega
 have hs1:=h.size.1
 have hfree:∀ c,c∈QK T.parts→s.own[c]? = some 0:=fun c hc=>by
  obtain⟨y,y1,y2,y3⟩:=Ci.1 hc;obtain⟨y4,y5⟩:=hA.parts y y1;obtain rfl:c=y.1:=by omega
  exact y5
 have hog2:∀ j,own2.getD j 0=if j∈QK T.parts then s.last+1 else s.own.getD j 0:=fun j=>by
  rw[hog,hA.og];split <;> rfl
 have hol2:own2.length=s.own.length:=hol.trans hA.ol
 have hkeep:∀ (d y:Nat),s.own[d]? = some y→y≠0→own2[d]? = some y:=fun d y h1 h2=>by
  have hd:=(List.getElem?_eq_some_iff.1 h1).1;have h3:=hog2 d;rw[if_neg (fun h4=>by rw[hfree d h4] at h1;injection h1 with h1;exact h2 h1.symm),getD_eq_getElem?_getD,getD_eq_getElem?_getD,h1,getElem?_eq_getElem (by omega)] at h3;rw[getElem?_eq_getElem (by omega)];exact congrArg some h3
 have hback:∀ (d y:Nat),own2[d]? = some y→y≠0→(d∈QK T.parts∧y=s.last+1)∨s.own[d]? = some y:=fun d y h1 h2=>by
  have hd:=(List.getElem?_eq_some_iff.1 h1).1;have h3:=hog2 d;rw[getD_eq_getElem?_getD,h1] at h3;by_cases h4:d∈QK T.parts
  ·rw[if_pos h4] at h3;exact .inl ⟨h4,h3⟩
  ·rw[if_neg h4,getD_eq_getElem?_getD,getElem?_eq_getElem (by omega)] at h3;rw[getElem?_eq_getElem (by omega)];exact .inr (congrArg some h3.symm)
 refine⟨h.size,by show 1≤own2.length∧own2.length≤63;rw[hol2];exact h.own,h.slots,h.lays,h.gen,fun i g e hi=>?_,h.apart,⟨by show (s.par++[_]).length≤64;simp;omega,hlast,?_⟩,?_,?_,fun x hx=>?_,fun x hx i g e hi=>?_,fun c x hc h0=>?_,?_⟩
 ·obtain⟨a,⟨b1,b2⟩,y,hy⟩:=h.obj i g e hi;refine⟨a,⟨by show _≤own2.length*_;rw[hol2];exact b1,fun d d1 d2=>?_⟩,y,mem_append.2 (.inl hy)⟩;obtain⟨x,x1,x2,x3⟩:=b2 d d1 d2;exact⟨x,hkeep d x x1 (by omega),x2,x3⟩
 ·intro r x hx;have hx:(r,x)∈s.par++[_]:=hx;show 1≤r∧r≤((s.last+1:Nat):Int)
  rcases mem_append.1 hx with hx|hx
  ·have:=h.par.2.2 r x hx;omega
  ·simp at hx;omega
 ·have:=h.skeys;simp[this]
 ·have:=h.mkeys;simp[this]
 ·rcases mem_append.1 (show x∈s.sps++[_] from hx) with hx|hx
  ·obtain⟨a1,a2,a3,a4,a5⟩:=h.spc x hx;have hxk:x.1∈s.par.map (·.1):=by rw[← h.skeys];exact mem_map.2 ⟨x,hx,rfl⟩
   obtain⟨⟨x',z⟩,z1,z2⟩:=mem_map.1 hxk;have hne:x.1≠((s.last+1:Nat):Int):=by rw[← z2];exact hup _ _ z1
   refine⟨a1,a2,fun y hy=>by rw[hol2];exact a3 y hy,a4,fun c=>?_⟩;rw[a5];constructor
   ·rintro⟨y,y1,y2,y3⟩;exact⟨y,hkeep c y y1 y3,y2,y3⟩
   ·rintro⟨y,y1,y2,y3⟩
    rcases hback c y y1 y3 with ⟨_,h2⟩|h2
    ·exact absurd (by rw[← y2,h2]) hne
    ·exact⟨y,h2,y2,y3⟩
  ·rw[mem_singleton] at hx;subst hx;refine⟨hA.at1,hA.fin,fun y hy=>?_,hA.nd,fun c=>?_⟩
   ·obtain⟨y1,y2⟩:=hA.parts y hy;have:=(List.getElem?_eq_some_iff.1 y2).1;rw[hol2];omega
   ·constructor
    ·intro hc;have hcl:=(List.getElem?_eq_some_iff.1 (hfree c hc)).1;have h3:=hog2 c;have hcl2:c < own2.length:=by omega
     rw[if_pos hc,getD_eq_getElem?_getD,getElem?_eq_getElem hcl2] at h3;exact⟨s.last+1,by show own2[c]? = _;rw[getElem?_eq_getElem hcl2];exact congrArg some h3,rfl,by omega⟩
    ·rintro⟨y,y1,y2,y3⟩
     rcases hback c y y1 y3 with ⟨h2,_⟩|h2
     ·exact h2
     ·obtain⟨z,hz⟩:=h.live c y h2 y3;exact absurd y2 (hup _ _ hz)
 ·rcases mem_append.1 (show x∈s.sps++[_] from hx) with hx|hx
  ·exact h.free x hx i g e hi
  ·rw[mem_singleton] at hx;subst hx;show QN e≤T.at'∨T.fin≤e.addr;by_cases h0:T.fin=0
   ·right;omega
   obtain⟨c,c1,c2,c3⟩:=hA.fin h0
   rcases (h.obj i g e hi).2.1.chunk hs1 c with (h1|h1)|⟨y,y1,_,y3⟩
   ·left;omega
   ·right;omega
   ·rw[(hA.parts _ c3).2] at y1;injection y1 with y1
    omega
 ·rcases hback c x hc h0 with ⟨_,h1⟩|h1
  ·exact⟨(r:Int),mem_append.2 (.inr (by rw[h1];simp))⟩
  ·obtain⟨y,hy⟩:=h.live c x h1 h0;exact⟨y,mem_append.2 (.inl hy)⟩
 ·intro x hx
  rcases mem_append.1 (show x∈s.mns++[_] from hx) with hx|hx
  ·exact h.mine x hx
  ·rw[mem_singleton] at hx;subst hx;refine⟨by simp,fun i=>⟨fun hc=>by simp at hc,?_⟩⟩;rintro⟨g,e,h1,h2⟩;obtain⟨_,_,y,hy⟩:=h.obj _ _ _ h1;exact absurd h2 (hup _ _ hy)
theorem Nx {s s':CS} (h:WF s) {r:Nat} {S T:QH} {Z:List Pl} {mem own' mem':List Nat} (hA:YM s r S Z mem own' mem' T) (m:VM s mem) (h1:s'.own.length=s.own.length) (h2:s'.size=s.size) (h3:s'.tab=s.tab):VM s' mem':=by
 have hs1:=h.size.1;refine⟨by rw[h1,h2,hA.ml];exact m.len,fun i g e hi=>?_,fun i g e hi p w hp=>?_⟩
 ·rw[h3] at hi;obtain⟨x,x1,_,x3⟩:=(h.obj i g e hi).2.1.2 (e.addr / s.size) (Nat.le_refl _) (Nat.div_le_div_right (by omega));rw[hA.mg _ x x1 (by omega)];exact m.head i g e hi
 ·rw[h3] at hi;have hpl:=(List.getElem?_eq_some_iff.1 hp).1;obtain⟨x,x1,_,x3⟩:=(h.obj i g e hi).2.1.2 ((e.addr+1+p) / s.size) (Nat.div_le_div_right (by omega)) (Nat.div_le_div_right (by omega));rw[hA.mg _ x x1 (by omega)];exact m.words i g e hi p w hp
theorem YM.beside {s:CS} (h:WF s) {r:Nat} {S T:QH} {Z:List Pl} {mem own' mem':List Nat} (hA:YM s r S Z mem own' mem' T) {a n:Nat} (hs:Ke s.size T a n) {j g:Nat} {f:QQ} (hj:s.tab[j]? = some ⟨g,some f⟩):QN f≤a∨a+n≤f.addr:=by
 obtain⟨c,c1,c2,c3,_⟩:=hs
 rcases (h.obj j g f hj).2.1.chunk h.size.1 c with (h1|h1)|⟨y,y1,_,y3⟩
 ·left;omega
 ·right;omega
 ·rw[(hA.parts _ c1).2] at y1;injection y1 with y1
  omega
theorem IH {par:List (Int×Int)} (h:Y3 par) {last:Nat} {r:Int} (hr:r=0∨(Q8 par r).isSome=true) (h0:0≤r) (hl:∀ x q,(x,q)∈par→x≤(last:Int)) (hrl:r≤last):Y3 (par++[(((last+1:Nat):Int),r)]):=by
 have hn:((last+1:Nat):Int)∉par.map (·.1):=fun h1=>by
  obtain⟨⟨x,q⟩,h2,h3⟩:=mem_map.1 h1;have h3:x=((last+1:Nat):Int):=h3;have:=hl x q h2;omega
 have hf:∀ x,Q8 (par++[(((last+1:Nat):Int),r)]) x=if x=((last+1:Nat):Int) then some r else Q8 par x:=fun x=>by
  rw[← XF hn,Gd];by_cases h1:x=((last+1:Nat):Int)
  ·rw[if_pos h1,if_pos h1.symm]
  ·rw[if_neg h1,if_neg (fun h=>h1 h.symm)]
 have hlive:∀ x,(Q8 par x).isSome=true→(Q8 (par++[(((last+1:Nat):Int),r)]) x).isSome=true:=fun x h1=>by
  rw[hf];split
  ·rfl
  ·exact h1
 refine⟨?_,fun x q hx=>?_⟩
 ·rw[map_append,nodup_append];refine⟨h.nd,by simp,fun a ha b hb hab=>?_⟩;simp at hb;subst hab;subst hb;exact hn (by simpa using ha)
 ·rw[hf] at hx;split at hx
  ·injection hx with hx
   subst hx;rename_i h1;exact⟨h0,by omega,hr.imp id (hlive _)⟩
  ·obtain⟨a,b,c⟩:=h.up x q hx;exact⟨a,b,c.imp id (hlive _)⟩
theorem dh {par:List (Int×Int)} (h:Y3 par) {last:Nat} {r:Int} (he:Z2 par r=0) (hl:∀ x q,(x,q)∈par→1≤x∧x≤(last:Int)):Y3 (par++[(((last+1:Nat):Int),r)]):=by
 have hr:r=0∨(Q8 par r).isSome=true:=by
  unfold Z2 at he;split at he
  ·cases he
  ·rename_i h1;by_cases h2:r=0
   ·exact .inl h2
   ·cases hf:(Q8 par r).isSome with
    | true=>exact .inr rfl
    | false=>exact absurd ⟨h2,hf⟩ h1
 have h0:0≤r∧r≤(last:Int):=by
  rcases hr with h1|h1
  ·omega
  ·obtain⟨⟨x,q⟩,h2,h3⟩:=mem_map.1 (WC h1);have h3:x=r:=h3;have:=hl x q h2;omega
 exact IH h hr h0.1 (fun x q hx=>(hl x q hx).2) h0.2
def Ya (id:Int) (Z:List Pl) (k:Nat) (e:QQ):QQ:=match Z.find? (fun z=>z.k == k) with
 | some z=>{ e with region:=id,addr:=z.a }
 | none=>e
theorem WN (id:Int) (Z:List Pl) (k:Nat) (e:QQ):(Ya id Z k e).lay=e.lay∧(Ya id Z k e).count=e.count∧(Ya id Z k e).ws=e.ws∧(Ya id Z k e).held=e.held∧(Ya id Z k e).pinned=e.pinned:=by
 unfold Ya;split <;> exact⟨rfl,rfl,rfl,rfl,rfl⟩
theorem II {Z:List Pl} {k:Nat} (h:k∉Z.map Pl.k):Z.find? (fun z=>z.k == k)=none:=by
 rw[find?_eq_none];intro z hz h1;exact h (mem_map.2 ⟨z,hz,by simpa using h1⟩)
theorem Ak {id:Int} {Z:List Pl} {k:Nat} (h:k∉Z.map Pl.k) (e:QQ):Ya id Z k e=e:=by
 unfold Ya;rw[II h]
theorem di {id:Int} {Z:List Pl} {z:Pl} {k:Nat} (h:k≠z.k) (e:QQ):Ya id (Z++[z]) k e=Ya id Z k e:=by
 unfold Ya;rw[find?_append,find?_cons_of_neg (by simpa using fun h1=>h h1.symm),find?_nil,Option.or_none]
theorem dj {id:Int} {Z:List Pl} {z:Pl} (h:z.k∉Z.map Pl.k) (e:QQ):Ya id (Z++[z]) z.k e={ e with region:=id,addr:=z.a }:=by
 unfold Ya;rw[find?_append,II h,find?_cons_of_pos (by simp),Option.none_or]
theorem IJ {id:Int} {Z:List Pl} (hnd:(Z.map Pl.k).Nodup) {z:Pl} (hz:z∈Z) (e:QQ):Ya id Z z.k e={ e with region:=id,addr:=z.a }:=by
 obtain⟨A,B,rfl⟩:=append_of_mem hz;rw[map_append,map_cons,nodup_append] at hnd;have h1:z.k∉A.map Pl.k:=fun h=>hnd.2.2 _ h _ mem_cons_self rfl;unfold Ya;rw[find?_append,II h1,find?_cons_of_pos (by simp),Option.none_or]
def dl (s:CS) (r:Int) (S T:QH) (z:Pl):Prop:=s.tab[z.k]? = some ⟨z.g,some z.e⟩∧z.e.region=r ∧
 ((z.a=z.e.addr∧∃ y∈S.parts,2≤y.2∧G2 s.size y z.e)∨(z.a≠z.e.addr∧Ke s.size T z.a (z.e.ws.length+1)∧∀ (j n:Nat) (f:QQ),s.tab[j]? = some ⟨n,some f⟩→QN f≤z.a∨z.a+(z.e.ws.length+1)≤f.addr))
structure UO (s:CS) (r:Int) (id:Nat) (Zd Zp:List Pl) (s':CS) (S T:QH):Prop where
 size:s'.size=s.size
 own:s'.own.length=s.own.length
 lays:s'.lays=s.lays
 last:s'.last=s.last+1
 par:s'.par=s.par++[((id:Int),r)]
 rem:s'.rem=s.rem
 tabl:s'.tab.length=s.tab.length
 tab:∀ (k:Nat) (t:QF),s.tab[k]? = some t→s'.tab[k]? = some ⟨t.gen,t.ent.map (Ya id Zd k)⟩
 part:Vp s'
 pend:∀ z∈Zp,dl s' r S T z
 apart:Zp.Pairwise fun x y=>x.a≠x.e.addr→y.a≠y.e.addr→x.a+(x.e.ws.length+1)≤y.a∨y.a+(y.e.ws.length+1)≤x.a
 keys:((Zd++Zp).map Pl.k).Nodup
 zero:Zd++Zp=[]→s'.own=s.own
theorem Ny {s s':CS} {id:Nat} {Zd:List Pl} (htl:s'.tab.length=s.tab.length) (ht:∀ (k:Nat) (t:QF),s.tab[k]? = some t→s'.tab[k]? = some ⟨t.gen,t.ent.map (Ya id Zd k)⟩) {z:Pl} (hz:s'.tab[z.k]? = some ⟨z.g,some z.e⟩) (hk:z.k∉Zd.map Pl.k)
  (k:Nat) (t:QF) (hkt:s.tab[k]? = some t):(s'.tab.set z.k ⟨z.g,some { z.e with region:=(id:Int),addr:=z.a }⟩)[k]? = some ⟨t.gen,t.ent.map (Ya id (Zd++[z]) k)⟩:=by
 have h1:=ht k t hkt;have hkl:=(List.getElem?_eq_some_iff.1 h1).1;obtain⟨g0,e0⟩:=t;by_cases hkz:z.k=k
 ·subst hkz;rw[hz] at h1;injection h1 with h1
  injection h1 with h2 h3
  rw[getElem?_set_self hkl,h2];cases e0 with
  | none=>cases h3
  | some e=>
   injection h3 with h3
   rw[Ak hk] at h3;subst h3;show _=some (QF.mk g0 (some (Ya id (Zd++[z]) z.k z.e)));rw[dj hk]
 ·rw[getElem?_set_ne hkz,h1];cases e0 with
  | none=>rfl
  | some e=>
   show some (QF.mk g0 (some (Ya id Zd k e)))=some (QF.mk g0 (some (Ya id (Zd++[z]) k e)));rw[di (fun h=>hkz h.symm)]
theorem UO.facts {s:CS} {r:Int} {id:Nat} {Zd Zp:List Pl} {z:Pl} {s':CS} {S T:QH} (h:UO s r id Zd (z::Zp) s' S T):z.k∉Zd.map Pl.k∧(∀ y∈Zp,y.k≠z.k)∧((Zd++[z]++Zp).map Pl.k).Nodup:=by
 have h1:=h.keys;refine⟨fun h2=>?_,fun y hy h2=>?_,by rw[append_assoc];exact h1⟩
 ·rw[map_append,nodup_append] at h1;exact h1.2.2 _ h2 z.k (by simp) rfl
 ·rw[map_append,nodup_append,map_cons,nodup_cons] at h1;exact h1.2.1.1 (h2▸mem_map.2 ⟨y,hy,rfl⟩)
theorem UO.shift {s:CS} {r:Int} {id:Nat} {Zd Zp:List Pl} {z:Pl} {s' s2:CS} {S T:QH} (h:UO s r id Zd (z::Zp) s' S T) (hza:z.a≠z.e.addr) {bs:Nat} (hT:((id:Int),bs,T)∈s'.sps)
  (h1:s2.size=s'.size) (h2:s2.own=s'.own) (h3:s2.lays=s'.lays) (h4:s2.last=s'.last) (h5:s2.par=s'.par) (h6:s2.rem=s'.rem) (h7:s2.tab=s'.tab.set z.k ⟨z.g,some { z.e with region:=(id:Int),addr:=z.a }⟩) (h8:s2.sps=s'.sps):UO s r id (Zd++[z]) Zp s2 S T:=by
 obtain⟨hk1,hk2,hk3⟩:=h.facts;obtain⟨q1,q2,q3⟩:=h.pend z mem_cons_self
 rcases q3 with ⟨q3,_⟩|⟨_,q4,q5⟩
 ·exact absurd q3 hza
 have hap:=h.apart;rw[pairwise_cons] at hap;refine⟨h1.trans h.size,by rw[h2];exact h.own,h3.trans h.lays,h4.trans h.last,h5.trans h.par,h6.trans h.rem,by rw[h7,length_set];exact h.tabl,fun k t hk=>by rw[h7];exact Ny h.tabl h.tab q1 hk1 k t hk,dS h.part (bs:=bs) (T:=T) (by rw[h8];exact hT) q4 h1 h7 h8,fun y hy=>?_,hap.2,hk3,fun h0=>by simp at h0⟩;obtain⟨y1,y2,y3⟩:=h.pend y (mem_cons_of_mem _ hy);refine⟨by rw[h7,getElem?_set_ne (fun h=>hk2 y hy h.symm)];exact y1,y2,?_⟩;rw[h1]
 rcases y3 with y3|⟨y3,y4,y5⟩
 ·exact .inl y3
 ·refine .inr ⟨y3,y4,fun j n f hj=>?_⟩;rw[h7] at hj
  rcases Qx hj with ⟨rfl,u1,_⟩|⟨h0,hj⟩
  ·injection u1 with _ u1
   injection u1 with u1
   subst u1;have:=hap.1 y hy hza y3;show z.a+1+z.e.ws.length≤y.a∨_≤z.a;omega
  ·exact y5 j n f hj
theorem UO.hand {s:CS} {r:Int} {id:Nat} {Zd Zp:List Pl} {z:Pl} {s' s2:CS} {S T:QH} (h:UO s r id Zd (z::Zp) s' S T) (hw:WF s') (hnd:(s'.par.map (·.1)).Nodup) (hza:z.a=z.e.addr)
  {p1 p2:List (Int×Nat×QH)} {b0 bs:Nat} (hsps:s'.sps=p1++(r,b0,S)::(p2++[((id:Int),bs,T)])) {A B:List (Nat×Nat)} {c n:Nat} (hp:S.parts=A++(c,n)::B) (hn:2≤n) (hin:G2 s'.size (c,n) z.e)
  (h1:s2.size=s'.size) (h2:s2.own.length=s'.own.length) (h3:s2.lays=s'.lays) (h4:s2.last=s'.last) (h5:s2.par=s'.par) (h6:s2.rem=s'.rem) (h7:s2.tab=s'.tab.set z.k ⟨z.g,some { z.e with region:=(id:Int),addr:=z.e.addr }⟩)
  (h8:s2.sps=p1++(r,b0,{ S with parts:=A++B })::(p2++[((id:Int),bs,{ T with parts:=T.parts++[(c,n)] })])):UO s r id (Zd++[z]) Zp s2 { S with parts:=A++B } { T with parts:=T.parts++[(c,n)] }:=by
 obtain⟨hk1,hk2,hk3⟩:=h.facts;obtain⟨q1,q2,q3⟩:=h.pend z mem_cons_self;have hap:=h.apart;rw[pairwise_cons] at hap;have hSm:(r,b0,S)∈s'.sps:=by rw[hsps];simp
 refine⟨h1.trans h.size,by rw[h2];exact h.own,h3.trans h.lays,h4.trans h.last,h5.trans h.par,h6.trans h.rem,by rw[h7,length_set];exact h.tabl,fun k t hk=>by rw[h7,← hza];exact Ny h.tabl h.tab q1 hk1 k t hk,da hw h.part q1 q2 hnd hsps hp hn hin h1 h7 h8,fun y hy=>?_,hap.2,hk3,fun h0=>by simp at h0⟩;obtain⟨y1,y2,y3⟩:=h.pend y (mem_cons_of_mem _ hy);refine⟨by rw[h7,getElem?_set_ne (fun h=>hk2 y hy h.symm)];exact y1,y2,?_⟩;rw[h1]
 rcases y3 with ⟨y3,x,x1,x2,x3⟩|⟨y3,⟨d,d1,d2,d3,d4⟩,y5⟩
 ·refine .inl ⟨y3,x,?_,x2,x3⟩;rw[hp] at x1
  rcases Zz x1 with rfl|x1
  ·exfalso;have hd1:y.e.addr / s'.size≤y.e.addr / s'.size:=Nat.le_refl _;have hd2:y.e.addr / s'.size≤(y.e.addr+y.e.ws.length) / s'.size:=Nat.div_le_div_right (by omega);exact IF hw h.part hnd q1 (S:=S) (b0:=b0) (by rw[q2];exact hSm) hp hn hin (hk2 y hy) y1 hd1 hd2 (x3.chunk hw.size.1 hd1 hd2)
  ·exact x1
 ·refine .inr ⟨y3,⟨d,mem_append.2 (.inl d1),d2,d3,d4⟩,fun j m f hj=>?_⟩;rw[h7] at hj
  rcases Qx hj with ⟨rfl,u1,_⟩|⟨h0,hj⟩
  ·injection u1 with _ u1
   injection u1 with u1
   subst u1;exact(y5 z.k z.g z.e q1:QN z.e≤y.a∨y.a+(y.e.ws.length+1)≤z.e.addr)
  ·exact y5 j m f hj
theorem dm {s:CS} {r:Nat} {S T:QH} {Z:List Pl} {mem own' mem' own2:List Nat} {n:Nat} (hA:YM s r S Z mem own' mem' T) (hl:own2.length=own'.length) (hg:∀ j,own2.getD j 0=if j∈QK T.parts then n else own'.getD j 0) (hZ:Z=[]):own2=s.own:=by
 have h1:=hA.few;rw[hZ] at h1;have h2:T.parts=[]:=eq_nil_of_length_eq_zero (Nat.le_zero.1 h1);have h3:∀ j,j∉QK T.parts:=fun j h=>by rw[h2] at h;simp[QK] at h
 have h4:own2.length=s.own.length:=hl.trans hA.ol;refine ext_getElem h4 fun j j1 j2=>?_;have h5:=hg j;rw[if_neg (h3 j),hA.og,if_neg (h3 j),getD_eq_getElem?_getD,getD_eq_getElem?_getD,getElem?_eq_getElem j1,getElem?_eq_getElem j2] at h5;exact h5
theorem dn {s:CS} (hw:WF s) (hnd:(s.par.map (·.1)).Nodup) (hP:Vp s) {r:Nat} {b0:Nat} {S T:QH} (hSm:((r:Int),b0,S)∈s.sps) {Z:List Pl} {mem own' mem':List Nat} (hA:YM s r S Z mem own' mem' T)
  (hents:∀ z∈Z,s.tab[z.k]? = some ⟨z.g,some z.e⟩∧z.e.region=(r:Int)) (hkeys:(Z.map Pl.k).Nodup) {own2:List Nat} (hol:own2.length=s.own.length) (h00:Z=[]→own2=s.own) (bs bm:Nat) :
  UO s r (s.last+1) [] Z { s with own:=own2,last:=s.last+1,par:=s.par++[(((s.last+1:Nat):Int),(r:Int))],sps:=s.sps++[(((s.last+1:Nat):Int),bs,T)],mns:=s.mns++[(((s.last+1:Nat):Int),bm,[])] } S T:=by
 have hsm:∀ z∈Z,z.a≠z.e.addr→Zr S s.size z.e=false:=fun z hz h1=>by
  rcases hA.sit z hz with ⟨_,h2⟩|⟨h2,_⟩
  ·exact absurd h2 h1
  ·exact h2
 refine⟨rfl,hol,rfl,rfl,rfl,rfl,rfl,fun k t hk=>?_,fun k g e hk=>?_,fun z hz=>?_,?_,hkeys,h00⟩
 ·show s.tab[k]? = _;rw[hk];obtain⟨g,e⟩:=t;cases e <;> rfl
 ·obtain⟨x,x1,x2,x3⟩:=hP k g e hk;exact⟨x,mem_append.2 (.inl x1),x2,x3⟩
 ·obtain⟨h1,h2⟩:=hents z hz;have hSm':(z.e.region,b0,S)∈s.sps:=by rw[h2];exact hSm
  refine⟨h1,h2,?_⟩
  rcases hA.sit z hz with ⟨h3,h4⟩|⟨h3,h4⟩
  ·exact .inl ⟨h4,de hw hnd hP h1 hSm' h3⟩
  ·refine .inr ⟨fun h5=>?_,h4,fun j n f hj=>hA.beside hw h4 hj⟩;have:=hA.beside hw h4 h1;unfold QN at this;omega
 ·exact hA.apart.imp_of_mem fun hx hy h1 h2 h3=>h1 (hsm _ hx h2) (hsm _ hy h3)
structure Kf (s:CS) (r:Int) (Z:List Pl) (s':CS):Prop where
 size:s'.size=s.size
 own:s'.own.length=s.own.length
 lays:s'.lays=s.lays
 last:s'.last=s.last+1
 par:s'.par=s.par++[(((s.last+1:Nat):Int),r)]
 tabl:s'.tab.length=s.tab.length
 tab:∀ (k:Nat) (t:QF),s.tab[k]? = some t→s'.tab[k]? = some ⟨t.gen,t.ent.map (Ya ((s.last+1:Nat):Int) Z k)⟩
 ents:∀ z∈Z,s.tab[z.k]? = some ⟨z.g,some z.e⟩∧z.e.region=r
 keys:(Z.map Pl.k).Nodup
 rem:∃ D,Nn s' (fun k=>∃ g e,s'.tab[k]? = some ⟨g,some e⟩∧(e.region=r∨e.region=((s.last+1:Nat):Int))) D∧ZA s' s.rem D s'.rem
 part:Vp s'
 zero:Z=[]→s'.own=s.own
theorem Kf.mv {s s':CS} {r:Int} {Z:List Pl} (h:Kf s r Z s'):UM s s' (Ya ((s.last+1:Nat):Int) Z):=⟨h.lays,h.tabl,h.tab,fun k e=>WN _ Z k e⟩
theorem dp {s s':CS} (hw:WF s) {r:Int} (hr:r≤s.last) {Z:List Pl} (h:Kf s r Z s') (hI:Inv s):Inv s':=by
 obtain⟨D,hD,hN⟩:=h.rem;refine Nq h.mv hI hN fun k g p a b e f hnD hk hp hrf ha=>?_;have hno:∀ P:Prop,((Ya ((s.last+1:Nat):Int) Z k e).region=r∨(Ya ((s.last+1:Nat):Int) Z k e).region=((s.last+1:Nat):Int))→P:=fun P h1=>absurd ((hD _).2 ⟨k,g,_,⟨g,_,h.mv.at hk,h1⟩,h.mv.at hk,Np.2 ⟨p,rfl,by rw[(WN _ Z k e).2.2.1];exact hp,by rw[h.mv.lay k e];exact hrf⟩⟩) hnD
 have hkZ:k∉Z.map Pl.k:=fun h1=>by
  obtain⟨z,z1,z2⟩:=mem_map.1 h1;subst z2;exact hno _ (.inr (by rw[IJ h.keys z1]))
 rw[Ak hkZ] at hno;rw[Ak hkZ];have her:e.region≠r:=fun h1=>hno _ (.inl h1)
 have hel:e.region≤s.last:=by
  obtain⟨_,_,q,hq⟩:=hw.obj k g e hk;exact(hw.par.2.2 _ _ hq).2
 by_cases haZ:a∈Z.map Pl.k
 ·obtain⟨z,z1,z2⟩:=mem_map.1 haZ;subst z2;obtain⟨z3,z4⟩:=h.ents z z1;rw[ha] at z3;injection z3 with z3
  injection z3 with _ z3
  injection z3 with z3
  rw[IJ h.keys z1,z3,z4]
  exact⟨fun _ h1=>her h1.symm,fun _ h1=>by
   have h1:((s.last+1:Nat):Int)=e.region:=h1;omega⟩
 ·rw[Ak haZ]
end Go.Proofs.YtbnnnljagkjpiaaGreatDoor
