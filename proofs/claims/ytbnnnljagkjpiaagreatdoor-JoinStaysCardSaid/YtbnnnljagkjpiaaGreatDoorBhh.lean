/- Cells: what is proved on the way: every input of the statement; no condition. Texts joined: RmE KidA TabA TabB TabC TabD CelA CelB CelC CelD CelE LnkB CelF. -/
import Derived.Test.YtbnnnljagkjpiaaGreatDoorBhd
import Derived.Test.YtbnnnljagkjpiaaGreatDoorBhg
import Derived.Test.YtbnnnljagkjpiaaGreatDoorBhf
set_option linter.unusedVariables false
set_option linter.unusedSimpArgs false
set_option linter.unusedSectionVars false
namespace Go.Proofs.YtbnnnljagkjpiaaGreatDoor
open List
open Go.SL
theorem Ex {g1 g2:List Gr} {g:Gr} (hn:((g1++g::g2).map (·.key)).Nodup) {r:Rf}:mem (g1++g::g2) g.key r↔r∈g.m.map (·.1):=by
 rw[WK];exact⟨fun h=>h.elim (·.2) fun h=>absurd (RZ h) (CV hn),fun h => .inl ⟨rfl,h⟩⟩
theorem Ey [Q4] {w:World} {K V:Type} {ek:K→Value} {vv:V→Value} {b:Nat} {m:List (K×V)} {l:List Q2} (H:Q0 w (YN ek vv (.map (some b)) m::l)):Q0 w (mp ek vv b m::l):=H.head fun h hm=>by
 rcases hm with ⟨h,_⟩|⟨b',h,hm⟩
 ·cases h
 ·cases h;exact hm
theorem WC {K V:Type} [DecidableEq K] {m:List (K×V)} {x:K} (h:(Q8 m x).isSome=true):x∈m.map (·.1):=by
 cases hf:Q8 m x with
 | none=>rw[hf] at h;cases h
 | some v=>exact mem_map_of_mem (f:=(·.1)) (Ud hf)
theorem aD [Q4] (p:Nat) (m:List (Rf×Int)) (hm:m.length≤1000000) (t:Int) {w:World} {fr:List Q2} (H:Q0 w (RS p m::fr)) :
  Calls Tryz.prog 194 #[pp p,.int .i64 t] w (ret fun v w'=>∃ ks,(∀ r,r∈ks↔(r.1=t∧(Q8 m r).isSome=true))∧CA ks∧Q0 w' (QC 132 2 v (ZK ks)::RS p m::fr)):=by
 refine QV Tryz.func194 rfl (by kernel_rfl) ?_;obtain⟨bt,bo,bf,H⟩:=AS H;refine WQ H ?_;replace H:=Js [3,0,0,0] 0 H;obtain⟨G,hG,H⟩:=EL H;refine Q5 rfl (Zv (key:=t) H rfl rfl VL rfl ?_);have hn0:=XQ bf H;have hn:(G.map (·.key)).Nodup:=by rw[← WU];exact hn0
 cases hf:Q8 (G.map Zl) t with
 | none=>
  replace H:=Lo kp v1 H;refine Jc rfl rfl (Ew none [] (by simp) (by simp) H) ?_;rintro v w ⟨ks,hp,hs,H⟩;refine UR H ?_;have hks:ks=[]:=by simpa using hp
  subst hks;replace H:=Js [2,2,2,2,2,0] 1 H;replace H:=Xk G hG H;replace H:=Js [1,1,1,0,0] 0 H;replace H:=RJ bt bo bf (fun _ _=>Iff.rfl) (fun _ _=>Iff.rfl) H;refine Q3 (Jy H.swap rfl fun w' H'=>⟨[],fun r=>?_,hs,H'⟩);have h1:=Rm.1 hf;rw[WU] at h1;exact⟨fun h=>by simp at h,fun h=>absurd (RZ ((hG t r).2 h)) h1⟩
 | some bi=>
  obtain⟨g,g1,g2,rfl,rfl,rfl⟩:=EM hf;have H:=(Q0.pick rfl).1 H.swap;have hi:=XQ g.blk H
  have hlen:g.m.length≤1000000:=by
   have:=G1 hi (l₂:=m.map (·.1)) (fun r hr=>by
    have:=(hG g.key r).1 ((Ex hn).2 hr);exact WC this.2)
   simp at this;omega
  replace H:=Wt H;refine Jc rfl rfl (Ew (some g.blk) g.m hlen hi H) ?_;rintro v w ⟨ks,hp,hs,H⟩;refine UR H ?_;replace H:=Ey H.swap;replace H:=Js [0,1,0,0,0,0,0] 0 H;replace H:=(Q0.pick (R:=RY) (gs:=g1++g::g2) rfl).2 H;replace H:=Js [2,0,1,1,1,0] 0 H;replace H:=Xk (g1++g::g2) hG H;replace H:=Js [1,1,1,0,0] 0 H;replace H:=RJ bt bo bf (fun _ _=>Iff.rfl) (fun _ _=>Iff.rfl) H;refine Q3 (Jy H.swap rfl fun w' H'=>⟨ks,fun r=>?_,hs,H'⟩);rw[hp.mem_iff,← hG,Ex hn]
theorem Mz {ks:List Rf} {spare:List Value} {i:Nat} {r:Rf} (h:ks[i]? = some r):QZ (ZK ks++spare) (0+i*2) 2 [.int .i64 r.1,.int .i64 r.2]:=by
 have hl:=Ad ks;have hi:=(List.getElem?_eq_some_iff.1 h).1;have g:∀ t,(ZK ks)[t]? = (ks[t / 2]?).bind fun x=>(Ev x)[t % 2]? := fun t=>by rw[aB];exact HV (k:=2) (fun _=>rfl) (by decide) ks t
 refine .cons ?_ (.cons ?_ (.nil _))
 ·rw[getElem?_append_left (by omega),g,show (0+i*2) / 2=i by omega,show (0+i*2) % 2=0 by omega,h];rfl
 ·rw[getElem?_append_left (by omega),g,show (0+i*2+1) / 2=i by omega,show (0+i*2+1) % 2=1 by omega,h];rfl
theorem aE {ks:List Rf} (h:ZK ks=[]):ks=[]:=by
 have:=Ad ks;rw[h] at this;exact eq_nil_of_length_eq_zero (by simp at this;omega)
theorem Hw:∀ (ks:List Rf) {m:List (Rf×Int)},(m.map (·.1)).Nodup→((ks.foldl QB m).map (·.1)).Nodup
 | [],_,h=>h
 | k::ks,_,h=>Hw ks (X0 h)
theorem aF [Q4] (p:Nat) (m:List (Rf×Int)) (hn:(m.map (·.1)).Nodup) (hm:m.length≤1000000) (t:Int) {w:World} {fr:List Q2} (H:Q0 w (RS p m::fr)) :
  Calls Tryz.prog 109 #[pp p,.int .i64 t] w (ret fun v w'=>∃ ks,(∀ r,r∈ks↔(r.1=t∧(Q8 m r).isSome=true))∧CA ks∧v = .int .i64 ks.length∧Q0 w' (RS p (ks.foldl QB m)::fr)):=by
 refine QV Tryz.func109 rfl (by kernel_rfl) ?_;refine Gy H ?_;refine Jc rfl rfl (aD p m hm t H) ?_;rintro v w ⟨ks,hks,hs,H⟩;refine UR H ?_
 have hlen:ks.length≤1000000:=by
  have hnd:ks.Nodup:=hs.imp fun {a b} h e=>by subst e;unfold Zo at h;omega
  have:=G1 hnd (l₂:=m.map (·.1)) fun r hr=>WC ((hks r).1 hr).2;simp at this;omega
 rcases GV H with ⟨rfl,h0,H2⟩|⟨b,len,cap,spare,rfl,e3,e4,e5,H2⟩ <;> replace H:=H2 <;> clear H2
 ·have:=aE h0;subst this
  repeat refine Q7 ?_
  refine QG ?_;refine Jv ?_;refine Q5 rfl (ZY rfl rfl ?_);refine Jv ?_;refine Q6 ?_
  repeat refine Q7 ?_
  refine QS ?_;refine Qi (fun ms σ w n=>ms=[]∧σ 12 = .int .i64 0∧σ 13 = .int .i64 0∧σ 5 = .slice none 0 0∧Q0 w (RS p m::fr)) (m:=1) ⟨rfl,rfl,rfl,rfl,H⟩ ?_;clear H;rintro ms σ w n ⟨rfl,h12,h13,h5,H⟩;rw[Q1 h12,Q1 h13,Q1 h5];refine J6 H ?_;refine VY rfl (Qj ?_);refine Xa H ?_;exact Q3 (Jy H rfl fun w' H'=>⟨[],hks,hs,rfl,H'⟩)
 ·have hl2:len=ks.length:=by rw[Ad] at e3;omega
  subst hl2;refine YQ H ?_;refine AR H ?_
  refine Qi (fun ms σ w n=>ms=[]∧∃ i:Nat,i≤ks.length∧n=ks.length - i∧σ 0=pp p∧σ 11 = .slice (some ⟨b,0,none⟩) ks.length cap∧σ 12 = .int .i64 ks.length∧σ 13 = .int .i64 i∧σ 5 = .slice (some ⟨b,0,none⟩) ks.length cap ∧
   Q0 w (RS p ((ks.take i).foldl QB m)::pts b (row 132 (ZK ks++spare))::fr)) (m:=ks.length) ⟨rfl,0,by omega,rfl,rfl,rfl,rfl,rfl,rfl,H.swap⟩ ?_
  clear H;rintro ms σ w n ⟨rfl,i,hi,rfl,h0,h11,h12,h13,h5,H⟩;rw[Q1 h0,Q1 h11,Q1 h12,Q1 h13,Q1 h5];refine J6 H ?_;refine Qh rfl (fun h=>QR ?_) (fun h=>Qj ?_)
  ·have hlt:i < ks.length:=by omega
   have hr:=getElem?_eq_getElem hlt;generalize ks[i]=r at hr;obtain⟨a,c⟩:=r;refine Y9 H ?_;refine Jd ?_;refine Q5 rfl (VH H rfl (Mz hr) rfl ?_);refine VQ H ?_;clear H;intro b7 w H;refine J4 H ?_;clear H;intro w H;refine Q6 ?_;refine GZ H ?_;replace H:=Js [1,1] 1 H;refine Jc rfl rfl (CK p _ (Hw _ hn) (a,c) H) ?_;clear H;rintro v w ⟨rfl,H⟩;refine UX H ?_;refine⟨_,⟨rfl,i+1,hlt,rfl,rfl,rfl,rfl,Qa (by omega),rfl,?_⟩,by omega⟩;rw[take_add_one,hr];simpa using H
  ·have hge:i=ks.length:=by omega
   subst hge;refine Xa H ?_;rw[take_length] at H;exact Q3 (Jy H.swap.drop rfl fun w' H'=>⟨ks,hks,hs,rfl,H'⟩)
theorem Ez:∀ a b:Int,ki .i64 a=ki .i64 b→a=b:=fun a b h=>by cases h;rfl
def U2 (par:List (Int×Int)) (id k:Int):Bool:=decide (Q8 par k=some id)
theorem aH [Q4] (p last:Nat) (par:List (Int×Int)) (id:Int) (h0:id=0∨(Q8 par id).isSome=true) (hl:par.length≤1000) {w:World} {fr:List Q2} (H:Q0 w (Qe p last par::fr)) :
  Calls Tryz.prog 31 #[pp p,.int .i64 id] w (ret fun v w'=>∃ u K,v = .tuple #[u,.int .i64 0]∧K.Perm ((par.map (·.1)).filter (U2 par id))∧K.Pairwise (·≤·)∧Q0 w' (IL u K::Qe p last par::fr)):=by
 have hnd:=Mg H;refine QV Tryz.func31 rfl (by kernel_rfl) ?_;refine Uo H ?_;refine Jc rfl rfl (El p last par id H) ?_;clear H;rintro v w ⟨rfl,H⟩;refine YK H ?_;refine Qm (fun ms σ w=>ms=[]∧σ 22 = .bool false∧σ 0=pp p∧σ 1 = .int .i64 id∧Q0 w (Qe p last par::fr)) ?_ ?_
 ·cases hf:(Q8 par id).isSome with
  | true=>
   refine Bv H ?_;refine XT H ?_;refine Qu rfl rfl rfl ?_;refine J0 H ?_;exact⟨rfl,rfl,rfl,rfl,rfl,H⟩
  | false=>
   obtain rfl:id=0:=by
    rcases h0 with h|h
    ·exact h
    ·rw[hf] at h;cases h
   refine Vi H ?_;refine YT H ?_;refine QT rfl rfl rfl (UQ rfl rfl (.inl rfl) rfl ?_);refine Yy H ?_;refine Yy H ?_;refine J0 H ?_;exact⟨rfl,rfl,rfl,rfl,rfl,H⟩
 clear H;rintro ms σ w ⟨rfl,g22,g0,g1,H⟩;rw[Q1 g22,Q1 g0,Q1 g1];refine KB H ?_;obtain⟨b,H⟩:=KH H;refine ZU H ?_;replace H:=Wt H.swap;refine Q5 rfl (B9 (ki .i64) v1 H rfl rfl ?_);clear H;intro bi w H;refine BO H ?_;refine Y1 (fun ms σ w=>ms=[]∧∃ (u:Value) (K:List Int),σ 7=u∧K.Perm ((par.map (·.1)).filter (U2 par id))∧Q0 w (IL u K::Qe p last par::fr)) ?_ ?_
 ·refine QS ?_;refine Qi (fun ms σ w n=>ms=[]∧∃ (ks:List Int) (u:Value),ks.length≤par.length∧n=par.length - ks.length∧σ 1 = .int .i64 id∧σ 7=u∧σ 28=pp bi∧Q0 w (IL u (ks.filter (U2 par id))::Gs (ki .i64) v1 (.map (some b)) par bi ks::pts p (row 114 [.map (some b),.int .i64 last])::fr)) (m:=par.length) ⟨rfl,[],_,by simp,rfl,rfl,rfl,rfl,Yn H⟩ ?_;clear H;rintro ms σ w n ⟨rfl,ks,u,hkl,rfl,g1,g7,g28,H⟩;obtain⟨au,mu,cu,rfl⟩:=Qq H;rw[Q1 g1,Q1 g7,Q1 g28];refine Yq H ?_;refine Q5 rfl (BQ H.swap Ez rfl rfl (fun hp w H=>?_) (fun q hq hn hnd2 hsub w H=>?_))
  ·refine AV H ?_;replace H:=Ey (DX H);replace H:=Js [1,1,0] 0 H;have H2:Q0 w (Qe p last par::IL (.slice au mu cu) (ks.filter (U2 par id))::fr):=Xn (by replace H:=Q0.sel [1,1,0] 0 H;dsimp only[SL.sel,SL.pull,List.drop] at H;exact H);exact .inl ⟨rfl,rfl,_,_,rfl,hp.filter _,H2.swap⟩
  ·have hlt:ks.length < par.length:=by
    have h1:(ks++[q.1]).Nodup:=by
     rw[nodup_append];exact⟨hnd2,by simp,fun c hc c' hc' e0=>by simp at hc';subst hc';subst e0;exact hn hc⟩
    have h2:=G1 h1 (l₂:=par.map (·.1)) (fun z hz=>by
     rcases mem_append.1 hz with hz|hz
     ·exact hsub z hz
     ·simp at hz;subst hz;exact mem_map.2 ⟨q,hq,rfl⟩)
    simp at h2;omega
   have hfq:Q8 par q.1=some q.2:=(Y4 hnd).2 hq;refine Bu H ?_;refine Yq H ?_;refine Q5 rfl (BV H Ez hq rfl rfl ?_);refine WV H ?_;obtain⟨k,t⟩:=q;refine VG H ?_;by_cases ht:t=id
   ·have hk:U2 par id k=true:=by unfold U2;rw[hfq,ht];simp
    rw[show (t == id)=true by simpa using ht];refine VR H ?_;refine E5 H ?_;clear H;intro b39 w H;replace H:=Js [2,0,0,0] 0 H;have hle:=length_filter_le (U2 par id) ks;refine Q5 rfl (YF H rfl rfl (by repeat first|exact .nil _|apply QZ.cons rfl) rfl (by decide) (by rw[Va];simp only[length_cons,length_nil];omega) rfl rfl ?_);clear H;intro v40 w H;obtain⟨a40,m40,c40,rfl⟩:=Qq H;refine J0 H ?_;replace H:=Js [0,1,1] 1 H;refine⟨_,⟨rfl,ks++[k],_,by simp;omega,rfl,rfl,rfl,rfl,?_⟩,by simp;omega⟩;rw[filter_append,show [k].filter (U2 par id)=[k] by simp[hk]];show Q0 w (QC _ 1 _ (Qc (ks.filter (U2 par id)++[k]))::_);rw[Ab];exact H
   ·have hk:U2 par id k=false:=by unfold U2;rw[hfq];simp;exact ht
    rw[show (t == id)=false by simpa using ht];refine V8 H ?_;refine⟨_,⟨rfl,ks++[k],.slice au mu cu,by simp;omega,rfl,rfl,rfl,rfl,?_⟩,by simp;omega⟩;rw[filter_append,show [k].filter (U2 par id)=[] by simp[hk],append_nil];replace H:=Js [1,0,0] 0 H;exact H
 ·clear H;rintro ms σ w ⟨rfl,u,K,g7,hK,H⟩
  have hKl:K.length≤1000:=by
   have h1:=hK.length_eq;have h2:=length_filter_le (U2 par id) (par.map (·.1));simp at h2;omega
  obtain⟨au,cu,rfl⟩:=QD H (Va K) (by decide);rw[Q1 g7];refine YQ H ?_;refine Jc rfl rfl (Es _ K (by omega) H) ?_;clear H;rintro v w ⟨rfl,H⟩;refine Rz H ?_;refine Q3 (Jy H rfl fun w' H'=>⟨_,_,rfl,(mergeSort_perm K _).trans hK,?_,H'⟩);have:=pairwise_mergeSort (le:=fun x y:Int=>decide (x≤y)) (fun a b c h1 h2=>by simp at *;omega) (fun a b=>by simp;omega) K;exact this.imp (fun h=>by simpa using h)
@[reducible] def YJ (e:QQ):List Value:=[.int .i64 e.addr,.int .i64 e.region,.bool e.held,.bool e.pinned]
def Y5 (t:QF):List Value:=match t.ent with
 | none=>[.int .i64 t.gen,.bool false,.int .i64 0,.int .i64 0,.bool false,.bool false]
 | some e=>[.int .i64 t.gen,.bool true,.int .i64 e.addr,.int .i64 e.region,.bool e.held,.bool e.pinned]
theorem Yt (t:QF):(Y5 t).length=6:=by unfold Y5;split <;> rfl
theorem aJ (t:QF):(Y5 t)[0]? = some (.int .i64 t.gen):=by unfold Y5;split <;> rfl
theorem aM (t:QF):(Y5 t)[1]? = some (.bool t.ent.isSome):=by
 unfold Y5;split
 ·rename_i h;rw[h];rfl
 ·rename_i h;rw[h];rfl
def busy (t:QF):Bool:=t.ent.isSome || t.gen == 255
def UD (ts:List QF):Nat:=(ts.filter fun t=>t.ent.isNone && t.gen == 255).length
def Xq (ts:List QF):Nat:=(ts.filter busy).length
structure UE (ts:List QF) (x:Nat):Prop where
 bits:ZJ ts.length x
 bit:∀ (i:Nat) (t:QF),ts[i]? = some t→x.testBit i=busy t
 gen:∀ (i:Nat) (t:QF),ts[i]? = some t→t.gen≤255
theorem aN {α:Type} {ts:List α} {f:α→Bool} {x:Nat} (h:∀ (i:Nat) (t:α),ts[i]? = some t→x.testBit i=f t):Yd ts.length x=(ts.filter f).length:=by
 unfold Yd
 have e2:∀ (l:List α) (k:Nat),(∀ (i:Nat) (t:α),l[i]? = some t→x.testBit (k+i)=f t)→((List.range' k l.length).filter fun i=>x.testBit i).length=(l.filter f).length:=by
  intro l
  induction l with
  | nil=>intro k _;rfl
  | cons a l ih=>
   intro k hk;have h0:=hk 0 a rfl;have hr:=ih (k+1) (fun i t ht=>by rw[show k+1+i=k+(i+1) by omega];exact hk (i+1) t (by simpa using ht));rw[length_cons,range'_succ,filter_cons,filter_cons];rw[Nat.add_zero] at h0;rw[h0];split
   ·simp[hr]
   ·exact hr
 rw[range_eq_range'];exact e2 ts 0 (fun i t ht=>by rw[Nat.zero_add];exact h i t ht)
theorem UE.cnt {ts:List QF} {x:Nat} (h:UE ts x):Yd ts.length x=Xq ts:=aN h.bit
def Qk (p:Nat) (ts:List QF):Q2:=ex fun q:Value×Nat×Nat=>star [prop (UE ts q.2.2),pts p (row 154 [q.1,pp q.2.1,.int .i64 (UD ts)]),QC 158 6 q.1 (ts.flatMap Y5),Zg q.2.1 ts.length q.2.2]
theorem WD [Q4] {w:World} {p:Nat} {ts:List QF} {l:List Q2} (H:Q0 w (Qk p ts::l)):∃ b c s u x,UE ts x∧ts.length≤c ∧
  Q0 w (pts p (row 154 [.slice (some ⟨b,0,none⟩) ts.length c,pp u,.int .i64 (UD ts)])::pts b (row 158 (ts.flatMap Y5++s))::Zg u ts.length x::l) ∧
  ∀ w' l' ts' x',ts'.length=ts.length→UD ts'=UD ts→UE ts' x'→Q0 w' (pts p (row 154 [.slice (some ⟨b,0,none⟩) ts.length c,pp u,.int .i64 (UD ts)])::pts b (row 158 (ts'.flatMap Y5++s))::Zg u ts.length x'::l')→Q0 w' (Qk p ts'::l'):=by
 obtain⟨⟨v,u,x⟩,H⟩:=Q0.ex.1 H;have H:=Q0.star.1 H;obtain⟨h,H⟩:=Q0.prop.1 H;replace H:Q0 w (pts p (row 154 [v,pp u,.int .i64 (UD ts)])::QC 158 6 v (ts.flatMap Y5)::Zg u ts.length x::l):=H;obtain⟨a,c,rfl⟩:=QD H.drop (Ge Yt ts) (by decide);obtain⟨b,s,rfl,H,hcap,hsp,hclose⟩:=Yx H.swap h.bits.pos;refine⟨b,c,s,u,x,h,hcap,H.swap,fun w' l' ts' x' e1 e2 h' H'=>?_⟩;have H':=hclose w' _ (ts'.flatMap Y5) (by rw[Ge Yt,Ge Yt,e1]) H'.swap;refine Q0.ex.2 ⟨(.slice (some ⟨b,0,none⟩) ts.length c,u,x'),Q0.star.2 (Q0.prop.2 ⟨h',?_⟩)⟩;show Q0 w' (pts p (row 154 [_,pp u,.int .i64 (UD ts')])::QC 158 6 _ _::Zg u ts'.length x'::l');rw[e1,e2];exact H'.swap
theorem aP [Q4] (n:Nat) (h1:1≤n) (h2:n≤63) {w:World} {fr:List Q2} (H:Q0 w fr) :
  Calls Tryz.prog 70 #[.int .i64 n] w (ret fun v w'=>∃ p,v = .tuple #[pp p,.int .i64 0]∧Q0 w' (Qk p (List.replicate n ⟨0,none⟩)::fr)):=by
 refine QV Tryz.func70 rfl (by kernel_rfl) ?_;refine Uo H ?_;rw[show decide ((n:Int) < 1)=false from decide_eq_false (by omega)];refine XS H ?_;rw[show decide ((n:Int) > 4096)=false from decide_eq_false (by omega)];refine Vo H ?_;refine YQ H ?_;refine Jc rfl rfl (ML n (by omega) (by omega) H) ?_;clear H;rintro v w ⟨u,rfl,H⟩;refine ZE H ?_;refine YQ H ?_;refine Q5 rfl (ZG H rfl rfl (by decide) (by omega) rfl ?_);clear H;intro b18 w H;refine Jv ?_;refine X6 H ?_;clear H;intro b21 w H;refine J2 H ?_
 have hz:Vx (Qt (.agg #[.int .i64 0,.bool false,.int .i64 0,.int .i64 0,.bool false,.bool false])) n=(List.replicate n (⟨0,none⟩:QF)).flatMap Y5:=by
  clear H;clear h1 h2
  induction n with
  | zero=>rfl
  | succ n ih=>show _++Vx _ n=_;rw[ih,replicate_succ,flatMap_cons];rfl
 have hlen:(List.replicate n (⟨0,none⟩:QF)).length=n:=by simp
 have hgone:UD (List.replicate n (⟨0,none⟩:QF))=0:=by
  unfold UD;rw[filter_eq_nil_iff.2 (fun t ht=>by rw[eq_of_mem_replicate ht];simp)];rfl
 have hok:UE (List.replicate n (⟨0,none⟩:QF)) 0:=by
  refine⟨by rw[hlen];exact⟨by omega,h2,Nat.two_pow_pos _⟩,fun i t ht=>?_,fun i t ht=>?_⟩
  ·rw[eq_of_mem_replicate (mem_of_getElem? ht),Nat.zero_testBit];rfl
  ·rw[eq_of_mem_replicate (mem_of_getElem? ht)];simp
 have hbm:BM u n (List.replicate ((n+63) / 64) 0) 0=Zg u n 0:=by
  rw[show (n+63) / 64=1 by omega]
  have:Yd n 0=0:=by
   unfold Yd;rw[filter_eq_nil_iff.2 (fun i _=>by simp)];rfl
  show BM u n [0] 0=BM u n [0] (Yd n 0);rw[this]
 rw[hz,hbm] at H;refine Q3 (Jy H rfl fun w' H'=>⟨_,rfl,Q0.ex.2 ⟨(.slice (some ⟨b18,0,none⟩) n n,u,0),Q0.star.2 (Q0.prop.2 ⟨hok,?_⟩)⟩⟩);show Q0 w' (pts b21 (row 154 [_,pp u,.int .i64 (UD (List.replicate n (⟨0,none⟩:QF)))])::QC 158 6 _ _::Zg u (List.replicate n (⟨0,none⟩:QF)).length 0::fr);rw[hgone,hlen];exact H'
theorem N0 [Q4] (p:Nat) (ts:List QF) {w:World} {fr:List Q2} (H:Q0 w (Qk p ts::fr)) :
  Calls Tryz.prog 80 #[pp p] w (ret fun v w'=>v = .int .i64 ((ts.length - Xq ts:Nat):Int)∧Q0 w' (Qk p ts::fr)):=by
 obtain⟨b,c,s,u,x,hok,hc,H,hclose⟩:=WD H;have hb:=hok.bits.le;have hcnt:=hok.cnt;have hle:=HT ts.length x;refine QV Tryz.func80 rfl (by kernel_rfl) ?_;refine BP H ?_;refine J1 H ?_;clear H;intro w H;refine X7 H ?_;refine Kp 4 rfl (Q9.none rfl) rfl (by kernel_rfl) ?_;refine DS H ?_;refine Jl 8 [9] H ?_;replace H:=Js [2,0,0] 0 H;refine Jo 9 H ?_;refine Jk rfl rfl (MH u _ _ _ H) ?_;clear H;rintro v w ⟨rfl,H⟩;refine DP H ?_;replace H:=Js [1,1,0] 0 H;refine Q3 (Jy (hclose _ _ ts x rfl rfl hok H) rfl fun w' H'=>⟨?_,H'⟩);show Value.int .i64 (IntKind.i64.wrap ((ts.length:Int) - (Yd ts.length x:Int)))=_;rw[Qb (by omega) (by omega),← hcnt];congr 1;omega
@[reducible] def ZL (i g:Int):Value := .agg #[.int .i64 i,.int .i64 g]
theorem aT {ts:List QF} {i g:Int} (h:Qn ts i g=none):i < 0∨(ts.length:Int)≤i∨∃ (k:Nat) (t:QF),i=k∧ts[k]? = some t∧(t.ent=none∨(t.ent.isSome=true∧(t.gen:Int)≠g)):=by
 by_cases h0:i < 0
 ·exact .inl h0
 by_cases h1:(ts.length:Int)≤i
 ·exact .inr (.inl h1)
 refine .inr (.inr ?_);obtain⟨k,rfl⟩:∃ k:Nat,i=k:=⟨i.toNat,by omega⟩;have hk:=getElem?_eq_getElem (l:=ts) (i:=k) (by omega);generalize ts[k]'(by omega)=t at hk;refine⟨k,t,rfl,hk,?_⟩;obtain⟨n,e⟩:=t;cases e with
 | none=>exact .inl rfl
 | some e=>
  refine .inr ⟨rfl,fun hg=>?_⟩;rw[(Vz (k:=k) (e:=e)).2 ⟨n,rfl,hg.symm,hk⟩] at h;cases h
theorem Hx [Q4] (p b c u:Nat) (go:Value) (hgo:go.oneCell'=true) (ts:List QF) (s:List Value) (hlen:ts.length≤63) (i g:Int) {w:World} {fr:List Q2} (H:Q0 w (pts p (row 154 [.slice (some ⟨b,0,none⟩) ts.length c,pp u,go])::pts b (row 158 (ts.flatMap Y5++s))::fr)) :
  Calls Tryz.prog 63 #[pp p,ZL i g] w (ret fun v w'=>v=(match Qn ts i g with|some (k,_) => .tuple #[.pointer (some ⟨b,k*6,none⟩),.int .i64 0]|none => .tuple #[.pointer none,.int .i64 8]) ∧
   Q0 w' (pts p (row 154 [.slice (some ⟨b,0,none⟩) ts.length c,pp u,go])::pts b (row 158 (ts.flatMap Y5++s))::fr)):=by
 refine QV Tryz.func63 rfl (by kernel_rfl) ?_;refine J8 H ?_;clear H;intro b3 w H;refine Dm H ?_;cases hL:Qn ts i g with
 | some q=>
  obtain⟨k,e⟩:=q;obtain⟨n,rfl,rfl,hk⟩:=Vz.1 hL;have hkl:k < ts.length:=(List.getElem?_eq_some_iff.1 hk).1;have c1:(ts.flatMap Y5++s)[k*6+1]? = some (.bool true):=XN Yt hk rfl;have c0:(ts.flatMap Y5++s)[k*6+0]? = some (.int .i64 n):=XN Yt hk rfl;have ei:0+((k:Nat):Int).toNat*6=k*6:=by simp
  refine J1 H ?_;clear H;intro w H;refine Kw H ?_;rw[show decide ((k:Int) < 0)=false from decide_eq_false (by omega)];refine Ja 3 ?_;refine Kx H ?_;refine AW H ?_;refine Jl 9 [] H ?_;refine Kp 10 rfl (Q9.of rfl rfl rfl) rfl (by kernel_rfl) ?_;refine Ja 11 ?_;rw[show decide ((k:Int)≥(ts.length:Int))=false from decide_eq_false (by omega)];refine Ja 12 ?_;refine Ja 13 ?_;refine Ja 14 ?_;refine Ja 15 ?_;refine Jf 16 ?_;refine Jl 17 [] H ?_;refine Jf 18 ?_;refine Jl 19 [] H ?_;refine Ji 20 ?_;rw[ei];refine Jf 21 ?_;refine Vg 22 [] H rfl (Q9.of rfl rfl rfl) rfl c1 (by kernel_rfl) ?_;refine Ja 23 ?_;refine Ja 24 ?_;refine Ja 25 ?_;refine Ja 26 ?_;refine Ja 27 ?_;refine Jf 28 ?_;refine Jl 29 [] H ?_;refine Jf 30 ?_;refine Jl 31 [] H ?_;refine Ji 32 ?_;rw[ei];refine Jf 33 ?_;refine Vg 34 [] H rfl (Q9.of rfl rfl rfl) rfl c0 (by kernel_rfl) ?_;refine Jf 35 ?_;refine Jl 36 [] H ?_;refine Ja 37 ?_;rw[show (((n:Nat):Int) != (n:Int))=false by simp];refine Ja 38 ?_;refine Jx H ?_;refine Bw H ?_;clear H;intro w H;refine X7 H ?_;refine Kx H ?_;refine Ji 6 ?_;rw[ei];refine Ja 7 ?_;refine Ja 8 ?_;refine Jx H ?_;exact Q3 (Jy H.drop rfl fun w' H'=>⟨rfl,H'⟩)
 | none=>
  rcases aT hL with h0|h1|⟨k,t,rfl,hk,ht⟩
  ·refine J1 H ?_;clear H;intro w H;refine Kw H ?_;rw[show decide (i < 0)=true from decide_eq_true (by omega)];refine Ja 3 ?_;refine Jn 4 ?_;refine Jn 5 ?_;refine Jn 6 ?_;refine Jn 7 ?_;refine Jn 8 ?_;refine E6 H ?_;refine KC H ?_;refine E7 H ?_;refine E8 H ?_;exact Q3 (Jy H.drop rfl fun w' H'=>⟨rfl,H'⟩)
  ·by_cases h0:i < 0
   ·refine J1 H ?_;clear H;intro w H;refine Kw H ?_;rw[show decide (i < 0)=true from decide_eq_true (by omega)];refine Ja 3 ?_;refine Jn 4 ?_;refine Jn 5 ?_;refine Jn 6 ?_;refine Jn 7 ?_;refine Jn 8 ?_;refine E6 H ?_;refine KC H ?_;refine E7 H ?_;refine E8 H ?_;exact Q3 (Jy H.drop rfl fun w' H'=>⟨rfl,H'⟩)
   ·refine J1 H ?_;clear H;intro w H;refine Kw H ?_;rw[show decide (i < 0)=false from decide_eq_false (by omega)];refine Ja 3 ?_;refine Kx H ?_;refine AW H ?_;refine Jl 9 [] H ?_;refine Kp 10 rfl (Q9.of rfl rfl rfl) rfl (by kernel_rfl) ?_;refine Ja 11 ?_;rw[show decide (i≥(ts.length:Int))=true from decide_eq_true (by omega)];refine KC H ?_;refine E7 H ?_;refine E8 H ?_;exact Q3 (Jy H.drop rfl fun w' H'=>⟨rfl,H'⟩)
  ·have hkl:k < ts.length:=(List.getElem?_eq_some_iff.1 hk).1;have c1:(ts.flatMap Y5++s)[k*6+1]? = some (.bool t.ent.isSome):=XN Yt hk (aM t);have c0:(ts.flatMap Y5++s)[k*6+0]? = some (.int .i64 t.gen):=XN Yt hk (aJ t);have ei:0+((k:Nat):Int).toNat*6=k*6:=by simp
   refine J1 H ?_;clear H;intro w H;refine Kw H ?_;rw[show decide ((k:Int) < 0)=false from decide_eq_false (by omega)];refine Ja 3 ?_;refine Kx H ?_;refine AW H ?_;refine Jl 9 [] H ?_;refine Kp 10 rfl (Q9.of rfl rfl rfl) rfl (by kernel_rfl) ?_;refine Ja 11 ?_;rw[show decide ((k:Int)≥(ts.length:Int))=false from decide_eq_false (by omega)];refine Ja 12 ?_;refine Ja 13 ?_;refine Ja 14 ?_;refine Ja 15 ?_;refine Jf 16 ?_;refine Jl 17 [] H ?_;refine Jf 18 ?_;refine Jl 19 [] H ?_;refine Ji 20 ?_;rw[ei];refine Jf 21 ?_;refine Vg 22 [] H rfl (Q9.of rfl rfl rfl) rfl c1 (by kernel_rfl) ?_
   rcases ht with ht|⟨ht,hne⟩
   ·rw[ht];refine Ja 23 ?_;refine E8 H ?_;exact Q3 (Jy H.drop rfl fun w' H'=>⟨rfl,H'⟩)
   ·rw[ht];refine Ja 23 ?_;refine Ja 24 ?_;refine Ja 25 ?_;refine Ja 26 ?_;refine Ja 27 ?_;refine Jf 28 ?_;refine Jl 29 [] H ?_;refine Jf 30 ?_;refine Jl 31 [] H ?_;refine Ji 32 ?_;rw[ei];refine Jf 33 ?_;refine Vg 34 [] H rfl (Q9.of rfl rfl rfl) rfl c0 (by kernel_rfl) ?_;refine Jf 35 ?_;refine Jl 36 [] H ?_;refine Ja 37 ?_;rw[show (((t.gen:Nat):Int) != g)=true by simpa using hne];refine Ja 38 ?_;refine Jx H ?_
    repeat refine Q7 ?_
    refine VE rfl ?_
    repeat refine Q7 ?_
    refine QG ?_;refine Jv ?_;refine Jv ?_;refine Q6 ?_;exact Q3 (Jy H.drop rfl fun w' H'=>⟨rfl,H'⟩)
theorem F0 {ts:List QF} {k:Nat} {t t':QF} (hk:ts[k]? = some t) (hb:(t'.ent.isNone && t'.gen == 255)=(t.ent.isNone && t.gen == 255)):UD (ts.set k t')=UD ts:=by
 unfold UD;rw[set_split hk]
 conv=>rhs;rw[split_at hk]
 rw[filter_append,filter_append,filter_cons,filter_cons,hb];split <;> simp
theorem UE.set {ts:List QF} {x k:Nat} {t t':QF} (h:UE ts x) (hk:ts[k]? = some t) (hb:busy t'=busy t) (hg:t'.gen≤255):UE (ts.set k t') x:=by
 refine⟨by rw[length_set];exact h.bits,fun i u hu=>?_,fun i u hu=>?_⟩
 ·rcases Qx hu with ⟨rfl,rfl,_⟩|⟨_,hu⟩
  ·rw[hb];exact h.bit _ _ hk
  ·exact h.bit _ _ hu
 ·rcases Qx hu with ⟨rfl,rfl,_⟩|⟨_,hu⟩
  ·exact hg
  ·exact h.gen _ _ hu
theorem ac [Q4] (p:Nat) (ts:List QF) (i g:Int) {w:World} {fr:List Q2} (H:Q0 w (Qk p ts::fr)) :
  Calls Tryz.prog 17 #[pp p,ZL i g] w (ret fun v w'=>v=(match Qn ts i g with|some (_,e) => .tuple #[.agg (YJ e).toArray,.int .i64 0]|none => .tuple #[.agg #[.int .i64 0,.int .i64 0,.bool false,.bool false],.int .i64 8])∧Q0 w' (Qk p ts::fr)):=by
 obtain⟨b,c,s,u,x,hok,hc,H,hclose⟩:=WD H;refine QV Tryz.func17 rfl (by kernel_rfl) ?_;refine J8 H ?_;clear H;intro b3 w H;refine VQ H ?_;clear H;intro b4 w H;refine R5 H ?_;replace H:=Js [2,2,0,0,0] 0 H;refine Jc rfl rfl (Hx p b c u _ rfl ts s hok.bits.le i g H) ?_;clear H;rintro v w ⟨rfl,H⟩;cases hL:Qn ts i g with
 | some q=>
  obtain⟨k,e⟩:=q;obtain⟨n,rfl,rfl,hk⟩:=Vz.1 hL;have hrd:QZ (ts.flatMap Y5++s) (k*6+2) 4 (YJ e):=Ww (vs:=YJ e) Yt hk (by repeat first|exact .nil _|apply QZ.cons rfl);refine Zw H ?_;refine J5 H ?_;refine KD H ?_;refine Q5 rfl (VH H rfl hrd rfl ?_);refine J4 H ?_;clear H;intro w H;refine J0 H ?_;replace H:=Js [2,0,0,1] 1 H;exact Q3 (Jz H (fun w' H' => .cellN H' rfl (by repeat first|exact .nil _|apply QZ.cons rfl) (.tmp .nil)) fun w' H'=>⟨rfl,hclose _ _ ts x rfl rfl hok H'.drop⟩)
 | none=>
  refine X8 H ?_;refine E9 H ?_;clear H;intro w H;refine J0 H ?_;replace H:=Js [2,0,0,1] 1 H;exact Q3 (Jz H (fun w' H' => .cellN H' rfl (by repeat first|exact .nil _|apply QZ.cons rfl) (.tmp .nil)) fun w' H'=>⟨rfl,hclose _ _ ts x rfl rfl hok H'.drop⟩)
theorem CB [Q4] (p:Nat) (ts:List QF) (i g:Int) (e':QQ) {w:World} {fr:List Q2} (H:Q0 w (Qk p ts::fr)) :
  Calls Tryz.prog 118 #[pp p,ZL i g,.agg (YJ e').toArray] w (ret fun v w'=>(∃ k e,Qn ts i g=some (k,e)∧v = .int .i64 0∧Q0 w' (Qk p (ts.set k ⟨g.toNat,some e'⟩)::fr))∨(Qn ts i g=none∧v = .int .i64 8∧Q0 w' (Qk p ts::fr))):=by
 obtain⟨b,c,s,u,x,hok,hc,H,hclose⟩:=WD H;refine QV Tryz.func118 rfl (by kernel_rfl) ?_;refine J8 H ?_;clear H;intro b4 w H;refine Um H ?_;clear H;intro b5 w H;refine R5 H ?_;replace H:=Js [2,2,0,0,0] 0 H;refine Jc rfl rfl (Hx p b c u _ rfl ts s hok.bits.le i g H) ?_;clear H;rintro v w ⟨rfl,H⟩;cases hL:Qn ts i g with
 | some q=>
  obtain⟨k,e⟩:=q;obtain⟨n,rfl,rfl,hk⟩:=Vz.1 hL;refine X8 H ?_;refine J7 H ?_;refine Qm (fun ms σ w=>ms=[]∧σ 8 = .int .i64 0∧Q0 w (Qk p (ts.set k ⟨n,some e'⟩)::fr)) ?_ ?_
  ·refine VE rfl ?_;refine GZ H ?_;refine Jv ?_;refine KD H ?_;replace H:=Js [1,0,0,0,0] 0 H;have hlen:=Ge Yt ts;have hkl:k < ts.length:=(List.getElem?_eq_some_iff.1 hk).1;refine Q5 rfl (Zc (vs:=YJ e') H rfl rfl inferInstance rfl rfl (by rw[length_append,hlen];omega) rfl ?_);clear H;intro w H;rw[DB (x':=⟨n,some e'⟩) Yt hk (by simp) rfl] at H;refine Q6 ?_;replace H:=Js [1,0,2] 2 H;exact⟨rfl,rfl,rfl,hclose _ _ (ts.set k ⟨n,some e'⟩) x (by simp) (F0 hk rfl) (hok.set hk rfl (by have:=hok.gen _ _ hk;exact this)) H⟩
  ·clear H;rintro ms σ w ⟨rfl,g8,H⟩;rw[Q1 g8];refine J3 H ?_;exact Q3 (Jy H rfl fun w' H' => .inl ⟨k,e,rfl,rfl,H'⟩)
 | none=>
  refine Zw H ?_;refine J3 H ?_;replace H:=Js [0,0,2] 2 H;exact Q3 (Jy H rfl fun w' H' => .inr ⟨rfl,rfl,hclose _ _ ts x rfl rfl hok H'⟩)
theorem F1 [Q4] (p:Nat) (ts:List QF) (k n:Nat) (e:QQ) (hk:ts[k]? = some ⟨n,some e⟩) {w:World} {fr:List Q2} (H:Q0 w (Qk p ts::fr)) :
  Calls Tryz.prog 62 #[pp p,.int .i64 k] w (ret fun v w'=>v = .tuple #[XV k n,.bool true]∧Q0 w' (Qk p ts::fr)):=by
 obtain⟨b,c,s,u,x,hok,hc,H,hclose⟩:=WD H;have hb:=hok.bits.le;have hkl:k < ts.length:=(List.getElem?_eq_some_iff.1 hk).1;have c1:(ts.flatMap Y5++s)[k*6+1]? = some (.bool true):=XN Yt hk rfl;have c0:(ts.flatMap Y5++s)[k*6+0]? = some (.int .i64 n):=XN Yt hk rfl;have ei:0+((k:Nat):Int).toNat*6=k*6:=by simp
 refine QV Tryz.func62 rfl (by kernel_rfl) ?_;refine YS H ?_;clear H;intro b4 w H;refine J0 H ?_;refine DN H ?_;refine XS H ?_;rw[show decide ((k:Int) < 0)=false from decide_eq_false (by omega)];refine EQ H ?_;refine HZ H ?_;rw[show decide ((k:Int)≥(ts.length:Int))=false from decide_eq_false (by omega)];refine EV H ?_;refine QT rfl rfl rfl (Gq rfl rfl (by omega) (by omega) rfl ?_);rw[ei];refine QT rfl rfl rfl (V7 rfl rfl ?_);refine QT rfl rfl rfl (QW H rfl c1 rfl ?_);refine Rt H ?_;refine Bq H ?_;refine Jd ?_;rw[ei];refine KD H ?_;refine Q5 rfl (QW H rfl c0 rfl ?_);refine Gu H ?_;refine J4 H ?_;clear H;intro w H;refine J0 H ?_;exact Q3 (Jz H (fun w' H' => .cellN H' rfl (by repeat first|exact .nil _|apply QZ.cons rfl) (.tmp .nil)) fun w' H'=>⟨rfl,hclose _ _ ts x rfl rfl hok H'.drop⟩)
theorem ae [Q4] (p:Nat) (ts:List QF) (e:QQ) {w:World} {fr:List Q2} [hT:YX 0 Lib.deBruijn64tab fr] (H:Q0 w (Qk p ts::fr)) :
  Calls Tryz.prog 81 #[pp p,.agg (YJ e).toArray] w (ret fun v w'=>(∃ k n,ts[k]? = some ⟨n,none⟩∧n≤254∧(∀ j t,j < k→ts[j]? = some t→busy t=true)∧v = .tuple #[XV k (n+1),.int .i64 0]∧Q0 w' (Qk p (ts.set k ⟨n+1,some e⟩)::fr)) ∨
   ((∀ t∈ts,busy t=true)∧v = .tuple #[XV 0 0,.int .i64 12]∧Q0 w' (Qk p ts::fr))):=by
 obtain⟨b,c,s,u,x,hok,hc,H,hclose⟩:=WD H;have hb:=hok.bits.le;refine QV Tryz.func81 rfl (by kernel_rfl) ?_;refine J8 H ?_;clear H;intro b3 w H;refine VQ H ?_;clear H;intro b4 w H;refine AU H ?_;refine ZU H ?_;replace H:=Js [4,0,0,0,0] 0 H;refine Jc rfl rfl (Hf u ts.length x 0 _ hok.bits (by omega) H) ?_;clear H;rintro v w ⟨hF,H⟩
 rcases hF with ⟨k,rfl,_,hk,hoff,hall⟩|⟨rfl,hall⟩
 ·have ht:=getElem?_eq_getElem hk;have hbz:∀ j t,j < k→ts[j]? = some t→busy t=true:=fun j t hj hjt=>by rw[← hok.bit j t hjt];exact hall j (Nat.zero_le _) hj
  generalize ts[k]=t at ht;have hbk:=hok.bit k t ht;have hg:=hok.gen k t ht;rw[hoff] at hbk;obtain⟨n,en⟩:=t
  have hen:en=none∧n≤254:=by
   unfold busy at hbk;cases en with
   | none=>simp at hbk hg;exact⟨rfl,by omega⟩
   | some y=>simp at hbk
  obtain⟨rfl,hn⟩:=hen;have ei:0+((k:Nat):Int).toNat*6=k*6:=by simp
  have hlen:=Ge Yt ts;refine Zw H ?_;refine J9 H ?_;refine Jc rfl rfl (Ha u _ x k true hok.bits hk H) ?_;clear H;rintro v w ⟨rfl,H⟩;refine EY H ?_;refine Jd ?_;rw[ei];refine J0 H ?_;have c0:(ts.flatMap Y5++s)[k*6+0]? = some (.int .i64 n):=XN Yt ht rfl;replace H:=Js [4,0,0,0,0] 0 H;refine J5 H ?_;refine KD H ?_;refine Q5 rfl (QW H rfl c0 rfl ?_);refine YP H ?_;refine KD H ?_;rw[Qb (x:=((n:Nat):Int)+1) (by omega) (by omega),show ((n:Nat):Int)+1=((n+1:Nat):Int) by omega];refine Q5 rfl (Yh H rfl rfl inferInstance rfl (by rw[length_append,hlen];omega) rfl ?_);clear H;intro w H;rw[M4 (x':=⟨n+1,none⟩) Yt ht (by omega) rfl] at H;refine Q6 ?_;have ht1:(ts.set k ⟨n+1,none⟩)[k]? = some (⟨n+1,none⟩:QF):=getElem?_set_self hk;have hlen1:=Ge Yt (ts.set k ⟨n+1,none⟩);rw[length_set] at hlen1;refine J1 H ?_;clear H;intro w H;refine Ja 0 ?_;refine Ja 1 ?_;refine VP 2 [8] H rfl (Q9.none rfl) rfl (by repeat first|exact .nil _|apply QZ.cons rfl) (by kernel_rfl) ?_;refine Ja 3 ?_;refine Jf 4 ?_;refine Jo 5 H ?_;refine Yh H rfl rfl inferInstance rfl (by rw[length_append,hlen1];omega) rfl ?_;clear H;intro w H;rw[M4 (x':=⟨n+1,some ⟨0,0,false,false,0,0,[]⟩⟩) Yt ht1 (by omega) rfl,set_set] at H;have ht2:(ts.set k ⟨n+1,some ⟨0,0,false,false,0,0,[]⟩⟩)[k]? = some (⟨n+1,some ⟨0,0,false,false,0,0,[]⟩⟩:QF):=getElem?_set_self hk;have hlen2:=Ge Yt (ts.set k ⟨n+1,some ⟨0,0,false,false,0,0,[]⟩⟩);rw[length_set] at hlen2;refine Ja 6 ?_;refine Jf 7 ?_;refine Jo 8 H ?_;refine Zc (vs:=YJ e) H rfl rfl inferInstance rfl rfl (by rw[length_append,hlen2];omega) rfl ?_;clear H;intro w H;rw[DB (x':=⟨n+1,some e⟩) Yt ht2 (by simp) rfl,set_set] at H;refine Jx H ?_;have ht3:(ts.set k ⟨n+1,some e⟩)[k]? = some (⟨n+1,some e⟩:QF):=getElem?_set_self hk;have c3:((ts.set k ⟨n+1,some e⟩).flatMap Y5++s)[k*6+0]? = some (.int .i64 ((n+1:Nat):Int)):=XN Yt ht3 rfl;refine Vi H ?_;refine KD H ?_;refine Q5 rfl (QW H rfl c3 rfl ?_);refine Gu H ?_;refine J4 H ?_;clear H;intro w H;refine J0 H ?_;replace H:=Js [2,3,0,0] 1 H;have hn255:(n == 255)=false:=by simp;omega
  have hok':UE (ts.set k ⟨n+1,some e⟩) (Yj x k true):=by
   refine⟨by rw[length_set];exact hok.bits.set hk,fun i v hv=>?_,fun i v hv=>?_⟩
   ·rw[WR]
    rcases Qx hv with ⟨rfl,rfl,_⟩|⟨hne,hv⟩
    ·rw[if_pos rfl];rfl
    ·rw[if_neg hne];exact hok.bit _ _ hv
   ·rcases Qx hv with ⟨rfl,rfl,_⟩|⟨_,hv⟩
    ·show n+1≤255;omega
    ·exact hok.gen _ _ hv
  exact Q3 (Jz H (fun w' H' => .cellN H' rfl (by repeat first|exact .nil _|apply QZ.cons rfl) (.tmp .nil)) fun w' H' => .inl ⟨k,n,ht,hn,hbz,rfl,hclose _ _ (ts.set k ⟨n+1,some e⟩) (Yj x k true) (by simp) (F0 ht (by simp[hn255])) hok' H'.drop⟩)
 ·refine Bf H ?_;refine BJ H ?_;clear H;intro w H;refine J0 H ?_;replace H:=Js [1,2,2,0] 1 H;refine Q3 (Jz H (fun w' H' => .cellN H' rfl (by repeat first|exact .nil _|apply QZ.cons rfl) (.tmp .nil)) fun w' H' => .inr ⟨fun t ht=>?_,rfl,hclose _ _ ts x rfl rfl hok H'.drop⟩);obtain⟨j,hj⟩:=getElem?_of_mem ht;rw[← hok.bit j t hj];exact hall j (Nat.zero_le _) (List.getElem?_eq_some_iff.1 hj).1
structure GF where
 sp:Nat
 bp:Nat
 ip:Nat
 tp:Nat
 trp:Nat
 rp:Nat
 sm:Nat
 mm:Nat
@[reducible] def Qr:Nat→Value:=fun b=>pp b
@[reducible] def VN (x:Int×Nat×QH):Int×Nat:=(x.1,x.2.1)
@[reducible] def V2 (x:Int×Nat×List Nat):Int×Nat:=(x.1,x.2.1)
@[reducible] def VO (sp:Nat) (x:Int×Nat×QH):Q2:=Ql x.2.1 sp x.1.toNat x.2.2
@[reducible] def VX (x:Int×Nat×List Nat):Q2:=Qs x.2.1 x.2.2
@[reducible] def V5 (p:Nat) (q:GF):Q2:=pts p (row 44 [pp q.sp,pp q.bp,pp q.ip,pp q.tp,pp q.trp,pp q.rp,.map (some q.sm),.map (some q.mm)])
def QU (p:Nat) (s:CS):Q2:=ex fun x:GF×List Nat=>star [prop (WF s∧VM s x.2),V5 p x.1,Qv x.1.ip x.1.sp x.1.bp,Qo x.1.bp s.lays,ST x.1.sp s.size x.2 s.own,Qk x.1.tp s.tab,Qe x.1.trp s.last s.par,RS x.1.rp s.rem,
 mp (ki .i64) Qr x.1.sm (s.sps.map VN),star (s.sps.map (VO x.1.sp)),mp (ki .i64) Qr x.1.mm (s.mns.map V2),star (s.mns.map VX)]
theorem Vv [Q4] {w:World} {p:Nat} {s:CS} {fr:List Q2} (H:Q0 w (QU p s::fr)):∃ (q:GF) (mem:List Nat),WF s∧VM s mem ∧
  Q0 w (V5 p q::Qv q.ip q.sp q.bp::Qo q.bp s.lays::ST q.sp s.size mem s.own::Qk q.tp s.tab::Qe q.trp s.last s.par::RS q.rp s.rem::mp (ki .i64) Qr q.sm (s.sps.map VN)::star (s.sps.map (VO q.sp))::mp (ki .i64) Qr q.mm (s.mns.map V2)::star (s.mns.map VX)::fr):=by
 obtain⟨⟨q,mem⟩,H⟩:=Q0.ex.1 H;have H:=Q0.star.1 H;obtain⟨h,H⟩:=Q0.prop.1 H;exact⟨q,mem,h.1,h.2,H⟩
theorem VV [Q4] {w:World} {p:Nat} {s:CS} {fr:List Q2} {q:GF} {mem:List Nat} (h:WF s) (hm:VM s mem)
  (H:Q0 w (V5 p q::Qv q.ip q.sp q.bp::Qo q.bp s.lays::ST q.sp s.size mem s.own::Qk q.tp s.tab::Qe q.trp s.last s.par::RS q.rp s.rem::mp (ki .i64) Qr q.sm (s.sps.map VN)::star (s.sps.map (VO q.sp))::mp (ki .i64) Qr q.mm (s.mns.map V2)::star (s.mns.map VX)::fr)):Q0 w (QU p s::fr):=
 Q0.ex.2 ⟨(q,mem),Q0.star.2 (Q0.prop.2 ⟨⟨h,hm⟩,H⟩)⟩
def QO (s:CS) (e:QQ):QJ:=(s.lays[e.lay - 1]?).getD ⟨0,[],0,[]⟩
def ZR (w:Nat):Vy:=if w=0 then .none else if w=1 then .grave else .obj (w % 4294967296 - 2) (w / 4294967296)
theorem ah {x:Nat} (h0:x≠0) (h1:x≠1):ZR x = .obj (x % 4294967296 - 2) (x / 4294967296):=by
 unfold ZR;rw[if_neg h0,if_neg h1]
theorem N2 {i g:Nat} (h:i < 4096):(i+2+g*4294967296) % 4294967296 - 2=i∧(i+2+g*4294967296) / 4294967296=g:=by omega
theorem N3 {i g:Nat} (h1:i < 4096):ZR (VU (.obj i g)) = .obj i g:=by
 rw[ET,ah (by omega) (by omega),(N2 h1).1,(N2 h1).2]
theorem N4 {k:Vy} (h:GR k):ZR (VU k)=k:=by
 cases k with
 | none=>rfl
 | grave=>rfl
 | obj i g=>exact N3 h.1
theorem KM {s:CS} (h:WF s) {mem:List Nat} (m:VM s mem) {k g:Nat} {e:QQ} (hk:s.tab[k]? = some ⟨g,some e⟩):XG s.lays s.size mem s.own e.addr e.lay e.count k e.ws.length (QO s e):=by
 obtain⟨⟨hm,l,h1,h2,h3,h4⟩,hl,_⟩:=h.obj k g e hk;have hle:QO s e=l:=by unfold QO;rw[h1];rfl
 rw[hle];refine⟨hm,h1,h2,h3,?_,?_,?_⟩
 ·rw[getD_eq_getElem?_getD,m.head _ _ _ hk,Option.getD_some]
 ·have:=hl.1;unfold QN at this;rw[m.len];exact this
 ·intro c c1 c2;obtain⟨r,hr,_,hr1⟩:=hl.2 c c1 (by rw[show e.addr+(e.ws.length+1) - 1=e.addr+e.ws.length by omega] at c2;exact c2);rw[getD_eq_getElem?_getD,hr];show r≠0;omega
theorem Hy {s:CS} (h:WF s) {mem:List Nat} (m:VM s mem) {k g:Nat} {e:QQ} (hk:s.tab[k]? = some ⟨g,some e⟩) {p:Nat} (hp:p < e.ws.length):mem.getD (e.addr+1+p) 0=e.ws.getD p 0:=by
 have hx:=getElem?_eq_getElem hp;rw[getD_eq_getElem?_getD,getD_eq_getElem?_getD,m.words _ _ _ hk p _ hx,hx]
theorem N5 {s:CS} (h:WF s) {k g:Nat} {e:QQ} (hk:s.tab[k]? = some ⟨g,some e⟩) {p:Nat} (hp:p < e.ws.length) (hr:VW (QO s e) p=true):GR (ZR (e.ws.getD p 0))∧e.ws.getD p 0=VU (ZR (e.ws.getD p 0)):=by
 obtain⟨⟨hm,l,h1,h2,h3,h4⟩,hl,_⟩:=h.obj k g e hk;have hle:QO s e=l:=by unfold QO;rw[h1];rfl
 rw[hle] at hr;have hx:=getElem?_eq_getElem hp;obtain⟨q,hq,hw⟩:=(h4 p _ hx).2 hr;have hd:e.ws.getD p 0=VU q:=by rw[getD_eq_getElem?_getD,hx,Option.getD_some];exact hw
 rw[hd,N4 hq];exact⟨hq,rfl⟩
def Hz:Option (Nat×QQ)→Value
 | some (_,e) => .tuple #[.agg (YJ e).toArray,.int .i64 0]
 | none => .tuple #[.agg #[.int .i64 0,.int .i64 0,.bool false,.bool false],.int .i64 8]
theorem CC (o:Option (Nat×QQ)):∃ e1 e2 h1 h2 e4,Hz o = .tuple #[.agg #[.int .i64 e1,.int .i64 e2,.bool h1,.bool h2],.int .i64 e4]:=by
 cases o <;> exact⟨_,_,_,_,_,rfl⟩
theorem ZM [Q4] (p:Nat) (ts:List QF) (i g:Int) {w:World} {fr:List Q2} (H:Q0 w (Qk p ts::fr)) :
  Calls Tryz.prog 17 #[pp p,ZL i g] w (ret fun v w'=>v=Hz (Qn ts i g)∧Q0 w' (Qk p ts::fr)):=
 call (ac p ts i g H) fun v w h=>⟨by rw[h.1];cases Qn ts i g <;> rfl,h.2⟩
theorem N6 [Q4] (p:Nat) (s:CS) (i g:Int) {w:World} {fr:List Q2} (H:Q0 w (QU p s::fr)) :
  Calls Tryz.prog 84 #[pp p,ZL i g] w (ret fun v w'=>v=Hz (Qg s.tab i g)∧Q0 w' (QU p s::fr)):=by
 obtain⟨q,mem,hw,hm,H⟩:=Vv H;refine QV Tryz.func84 rfl (by kernel_rfl) ?_;refine J8 H ?_;clear H;intro b3 w H;refine VQ H ?_;clear H;intro b4 w H;refine AU H ?_;obtain⟨e1,e2,h1,h2,e4,hsh⟩:=CC (Qn s.tab i g);refine J7 H ?_
 refine Qm (fun ms σ w=>ms=[]∧∃ b6,σ 4=pp b4∧σ 6=pp b6∧σ 7 = .int .i64 e4 ∧
  Q0 w (pts b4 (row 78 [.int .i64 0,.int .i64 0,.bool false,.bool false])::pts b6 (row 78 [.int .i64 e1,.int .i64 e2,.bool h1,.bool h2])::QU p s::fr)) ?_ ?_
 ·replace H:=Js [6,0,0,0,0,0,0,0,0,0,0,0,0] 0 H;refine J1 H ?_;clear H;intro w H;refine Xc H ?_;refine Jw 5 9 H rfl rfl (V0 (a:=[]) (b:=[]) rfl rfl (call (ZM q.tp s.tab i g H) ?_)) (Vr H rfl ?_)
  ·clear H;rintro v w ⟨rfl,H⟩;rw[hsh];refine Xd H ?_;clear H;intro b6 w H;refine Xe H ?_;clear H;intro w H;refine ZH H ?_;replace H:=Js [4,4,4,4,1,3,3,3,3,3,3,1,0] 1 H;refine⟨rfl,rfl,b6,rfl,rfl,rfl,?_⟩;replace H:=VV hw hm H;replace H:=Js [1,1,0] 0 H;exact H
  ·clear H;intro b6 w H;refine Jo 5 H ?_;refine Jk rfl rfl (ZM q.tp s.tab i g H.swap) ?_;clear H;rintro v w ⟨rfl,H⟩;rw[hsh];refine Xf H ?_;clear H;intro w H;refine ZH H ?_;replace H:=Js [4,4,4,4,0,3,3,3,3,3,3,1,0] 1 H;refine⟨rfl,rfl,b6,rfl,rfl,rfl,?_⟩;replace H:=VV hw hm H;replace H:=Js [1,1,0] 0 H;exact H
 ·clear H;rintro ms σ w ⟨rfl,b6,g4,g6,g7,H⟩;rw[Q1 g4,Q1 g6,Q1 g7];have hv:Qg s.tab i g=(match Qn s.tab i g with|some (k,e)=>if e.held then some (k,e) else none|none=>none):=rfl;cases hL:Qn s.tab i g with
  | none=>
   rw[hL] at hsh hv;have hv:Qg s.tab i g=none:=hv;rw[hv];cases hsh;refine Bv H ?_;refine AQ H ?_;clear H;intro w H;refine J0 H ?_;exact Q3 (Jz H (fun w' H' => .cellN H' rfl (by repeat first|exact .nil _|apply QZ.cons rfl) (.tmp .nil)) fun w' H'=>⟨rfl,H'.drop.drop⟩)
  | some x=>
   obtain⟨k,e⟩:=x;obtain⟨ea,er,eh,ep,el,ec,ew⟩:=e;rw[hL] at hsh hv;cases hsh;cases eh with
   | true=>
    have hv:Qg s.tab i g=some (k,⟨ea,er,true,ep,el,ec,ew⟩):=hv;rw[hv];refine Vi H ?_;refine XO H ?_;refine Vo H ?_;refine KZ H ?_;clear H;intro w H;refine J0 H ?_;exact Q3 (Jz H (fun w' H' => .cellN H' rfl (by repeat first|exact .nil _|apply QZ.cons rfl) (.tmp .nil)) fun w' H'=>⟨rfl,H'.drop.drop⟩)
   | false=>
    have hv:Qg s.tab i g=none:=hv;rw[hv];refine Vi H ?_;refine XO H ?_;refine AQ H ?_;clear H;intro w H;refine J0 H ?_;exact Q3 (Jz H (fun w' H' => .cellN H' rfl (by repeat first|exact .nil _|apply QZ.cons rfl) (.tmp .nil)) fun w' H'=>⟨rfl,H'.drop.drop⟩)
theorem WE [Q4] (p:Nat) (s:CS) (i g:Int) (f:FuncId) (cs:List Value) [QY Tryz.prog f] (R:Value→World→Prop) (fr:List Q2)
  (hno:Qg s.tab i g=none→∀ w,Q0 w (QU p s::fr)→R (.int .i64 8) w)
  (hyes:∀ k e,Qg s.tab i g=some (k,e)→∀ w,Q0 w (QU p s::fr)→Calls Tryz.prog f (.agg (YJ e).toArray::cs).toArray w (ret R)) {w:World} (H:Q0 w (QU p s::fr)) :
  Calls Tryz.prog 33 #[pp p,ZL i g,.func (.func f) #[] cs.toArray] w (ret R):=by
 refine QV Tryz.func33 rfl (by kernel_rfl) ?_;refine J8 H ?_;clear H;intro b4 w H;refine R5 H ?_;refine Jc rfl rfl (N6 p s i g H.swap) ?_;clear H;rintro v w ⟨rfl,H⟩;cases hv:Qg s.tab i g with
 | none=>
  refine Vj H ?_;clear H;intro b7 w H;refine J4 H ?_;clear H;intro w H;refine Bx H ?_;replace H:=Js [1] 2 H;exact Q3 (Jy H rfl fun w' H'=>hno hv w' H')
 | some x=>
  obtain⟨k,e⟩:=x;refine Vj H ?_;clear H;intro b7 w H;refine J4 H ?_;clear H;intro w H;refine E3 H ?_;replace H:=Js [1] 2 H;refine Q5 rfl (V0 (a:=[]) (b:=cs) rfl rfl (call (hyes k e hv w H) ?_));clear H;intro v w hr;refine X4 rfl rfl ?_;refine Q6 ?_;exact Q3 (K3 (.inr rfl) rfl hr)
def U3 (s:CS) (i g place:Int):Nat×Nat:=
 match Qg s.tab i g with
 | none=>(0,8)
 | some (_,e)=>if QM (QO s e) e.ws.length place false=0 then (e.ws.getD place.toNat 0,0) else (0,QM (QO s e) e.ws.length place false)
theorem N7 {s:CS} {i g place:Int} (h:Qg s.tab i g=none):U3 s i g place=(0,8):=by unfold U3;rw[h]
theorem I0 {s:CS} {i g place:Int} {k:Nat} {e:QQ} (h:Qg s.tab i g=some (k,e)):U3 s i g place=if QM (QO s e) e.ws.length place false=0 then (e.ws.getD place.toNat 0,0) else (0,QM (QO s e) e.ws.length place false):=by unfold U3;rw[h]
theorem ZW {s:CS} {i g:Int} {k:Nat} {e:QQ} (h:Qg s.tab i g=some (k,e)):∃ n:Nat,i=k∧g=n∧s.tab[k]? = some ⟨n,some e⟩∧e.held=true:=by
 obtain⟨h1,h2⟩:=U0.1 h;obtain⟨n,a,b,c⟩:=Vz.1 h1;exact⟨n,a,b,c,h2⟩
theorem aj [Q4] (p:Nat) (s:CS) (i g place:Int) {w:World} {fr:List Q2} (H:Q0 w (QU p s::fr)) :
  Calls Tryz.prog 151 #[pp p,ZL i g,.int .i64 place] w (ret fun v w'=>v = .tuple #[.int .u64 ((U3 s i g place).1:Nat),.int .i64 ((U3 s i g place).2:Nat)]∧Q0 w' (QU p s::fr)):=by
 refine QV Tryz.func151 rfl (by kernel_rfl) ?_;refine ZF H ?_;clear H;intro b3 w H;refine Um H ?_;clear H;intro b4 w H;refine KA H ?_;clear H;intro b5 w H;refine J2 H ?_;refine YS H ?_;clear H;intro b8 w H;refine Q6 ?_;refine HU H ?_;replace H:=Js [4,0,0,0,0] 0 H;refine Jc rfl rfl (WE p s i g 216 [pp b3,pp b5,pp b8] (fun v w'=>v = .int .i64 ((U3 s i g place).2:Nat)∧Q0 w' (pts b8 (row 94 [.int .u64 ((U3 s i g place).1:Nat)])::QU p s::fr)) _ ?_ ?_ H) ?_
 ·intro hv w H;rw[N7 hv];replace H:=Js [1,0] 3 H;exact⟨rfl,H⟩
 ·intro k e hv w H;obtain⟨n,rfl,rfl,hk,hh⟩:=ZW hv;obtain⟨q,mem,hw,hm,H⟩:=Vv H;have hI:=KM hw hm hk;refine QV Tryz.func216 rfl (by kernel_rfl) ?_;refine J8 H ?_;clear H;intro b4 w H;refine J0 H ?_;replace H:=Js [2,2,2,0,0,0,0,0,0,0,0,0,0,0,1] 1 H
  have hval:(if QM (QO s e) e.ws.length place false=0 then mem.getD (e.addr+1+place.toNat) 0 else 0)=(U3 s k n place).1:=by
   rw[I0 hv];split
   ·rename_i h0;obtain⟨x,rfl,hx,_⟩:=Zh h0;exact Hy hw hm hk hx
   ·rfl
  have herr:QM (QO s e) e.ws.length place false=(U3 s k n place).2:=by
   rw[I0 hv];split
   ·assumption
   ·rfl
  refine J1 H ?_;clear H;intro w H;refine Jl 0 [7,11] H ?_;refine X9 H ?_;refine Jl 3 [7,11] H ?_;refine Jf 4 ?_;refine Jl 5 [7,11] H ?_;refine Jl 6 [7,11] H ?_;refine Jo 7 H ?_;refine Jk rfl rfl (Tq q.ip q.sp q.bp s.size s.lays mem s.own e.addr e.lay e.count k e.ws.length (QO s e) hI place H) ?_;clear H;rintro v w ⟨rfl,H⟩;rw[hval,herr];refine R8 H ?_;refine Jo 11 H ?_;refine Uj H ?_;clear H;intro w H;refine Xb H ?_;refine J3 H ?_;replace H:=Js [4,0,0,0,1,1,1,1,1,1,1,1] 3 H;replace H:=VV hw hm H;exact Q3 (Jy H.swap rfl fun w' H'=>⟨rfl,H'⟩)
 ·clear H;rintro v w ⟨rfl,H⟩;refine J0 H ?_;refine Gx H ?_;refine A7 H ?_;exact Q3 (Jy H rfl fun w' H'=>⟨rfl,H'.drop⟩)
theorem I1 {s:CS} (h:WF s) {k g:Nat} {e:QQ} (hk:s.tab[k]? = some ⟨g,some e⟩):s.lays[e.lay - 1]? = some (QO s e):=by
 obtain⟨⟨hm,l,h1,h2,h3,h4⟩,hl,_⟩:=h.obj k g e hk;rw[h1];unfold QO;rw[h1];rfl
theorem am {ts:List QF} {k:Nat} {t t':QF} (hk:ts[k]? = some t) (h:Y5 t'=Y5 t):(ts.set k t').flatMap Y5=ts.flatMap Y5:=by
 rw[set_split hk]
 conv=>rhs;rw[split_at hk]
 simp[h]
theorem I2 [Q4] {w:World} {p:Nat} {ts:List QF} {l:List Q2} {k g:Nat} {e e':QQ} (hk:ts[k]? = some ⟨g,some e⟩) (he:YJ e'=YJ e) (H:Q0 w (Qk p ts::l)):Q0 w (Qk p (ts.set k ⟨g,some e'⟩)::l):=by
 obtain⟨b,c,s,u,x,hok,hc,H,hclose⟩:=WD H
 have hv:Y5 ⟨g,some e'⟩=Y5 ⟨g,some e⟩:=by
  show Value.int .i64 g :: .bool true::YJ e' = .int .i64 g :: .bool true::YJ e;rw[he]
 refine hclose _ _ (ts.set k ⟨g,some e'⟩) x (by simp) (F0 hk rfl) (hok.set hk rfl (by have:=hok.gen _ _ hk;exact this)) ?_;rw[am hk hv];exact H
def UF (s:CS) (i g place:Int) (x:Nat):CS×Nat:=
 match Qg s.tab i g with
 | none=>(s,8)
 | some (k,e)=>if QM (QO s e) e.ws.length place false=0 then (VI s k g.toNat { e with ws:=e.ws.set place.toNat x },0) else (s,QM (QO s e) e.ws.length place false)
theorem CD {s:CS} {i g place:Int} {x:Nat} (h:Qg s.tab i g=none):UF s i g place x=(s,8):=by unfold UF;rw[h]
theorem CE {s:CS} {i g place:Int} {x k:Nat} {e:QQ} (h:Qg s.tab i g=some (k,e)):UF s i g place x=if QM (QO s e) e.ws.length place false=0 then (VI s k g.toNat { e with ws:=e.ws.set place.toNat x },0) else (s,QM (QO s e) e.ws.length place false):=by unfold UF;rw[h]
theorem ap [Q4] (p:Nat) (s:CS) (i g place:Int) (x:Nat) (hx:x < 18446744073709551616) {w:World} {fr:List Q2} (H:Q0 w (QU p s::fr)) :
  Calls Tryz.prog 153 #[pp p,ZL i g,.int .i64 place,.int .u64 x] w (ret fun v w'=>v = .int .i64 ((UF s i g place x).2:Nat)∧Q0 w' (QU p (UF s i g place x).1::fr)):=by
 refine QV Tryz.func153 rfl (by kernel_rfl) ?_;refine ZF H ?_;clear H;intro b4 w H;refine Um H ?_;clear H;intro b5 w H;refine KA H ?_;clear H;intro b6 w H;refine KA H ?_;clear H;intro b7 w H;refine EZ H ?_;replace H:=Js [4,0,0,0,0] 0 H;refine Jc rfl rfl (WE p s i g 219 [pp b4,pp b6,pp b7] (fun v w'=>v = .int .i64 ((UF s i g place x).2:Nat)∧Q0 w' (QU p (UF s i g place x).1::fr)) _ ?_ ?_ H) ?_
 ·intro hv w H;rw[CD hv];replace H:=Js [0] 4 H;exact⟨rfl,H⟩
 ·intro k e hv w H;obtain⟨n,rfl,rfl,hk,hh⟩:=ZW hv;obtain⟨q,mem,hw,hm,H⟩:=Vv H;have hI:=KM hw hm hk;refine QV Tryz.func219 rfl (by kernel_rfl) ?_;refine J8 H ?_;clear H;intro b4 w H;refine J0 H ?_;replace H:=Js [2,2,2,0,0,0,0,0,0,0,0,0,0,0,1] 1 H;refine J1 H ?_;clear H;intro w H;refine Jl 0 [8] H ?_;refine X9 H ?_;refine Jl 3 [8] H ?_;refine Jf 4 ?_;refine Jl 5 [8] H ?_;refine Jl 6 [8] H ?_;refine Jl 7 [8] H ?_;refine Jo 8 H ?_;refine Jk rfl rfl (Tr q.ip q.sp q.bp s.size s.lays mem s.own e.addr e.lay e.count k e.ws.length (QO s e) hI place x H) ?_;clear H;rintro v w ⟨rfl,H⟩;refine Ja 9 ?_;refine Jx H ?_;replace H:=Js [4,0,0,0,1,1,1,1,1,1,1] 4 H;rw[CE hv];by_cases h0:QM (QO s e) e.ws.length place false=0
  ·obtain⟨y,rfl,hy,hr⟩:=Zh h0;rw[if_pos h0] at H;rw[if_pos h0,h0];have hw':=Em (e':={ e with ws:=e.ws.set y x }) hw hk ⟨rfl,rfl,rfl,rfl,by show (e.ws.set y x).length=_;simp⟩ (Ho (hw.obj _ _ _ hk).1 (I1 hw hk) hx (fun h=>by rw[hr] at h;cases h));have hm':=Hn hw hm hk hy (x:=x);replace H:=Js [4,0,0,0,0,0,0,0,0,0,0] 0 H;replace H:=I2 (e':={ e with ws:=e.ws.set y x }) hk rfl H;replace H:=Js [1,1,1,1,0,0,0,0,0,0,0] 0 H;replace H:=VV hw' hm' H;exact Q3 (Jy H rfl fun w' H'=>⟨rfl,H'⟩)
  ·rw[if_neg h0] at H;rw[if_neg h0];replace H:=VV hw hm H;exact Q3 (Jy H rfl fun w' H'=>⟨rfl,H'⟩)
 ·clear H;rintro v w ⟨rfl,H⟩;refine J0 H ?_;exact Q3 (Jy H rfl fun w' H'=>⟨rfl,H'⟩)
def Y2 (s:CS) (i g place:Int):Vy×Nat:=
 match Qg s.tab i g with
 | none=>(.none,8)
 | some (_,e)=>if QM (QO s e) e.ws.length place true=0 then (ZR (e.ws.getD place.toNat 0),0) else (.none,QM (QO s e) e.ws.length place true)
theorem I3 {s:CS} {i g place:Int} (h:Qg s.tab i g=none):Y2 s i g place=(.none,8):=by unfold Y2;rw[h]
theorem CF {s:CS} {i g place:Int} {k:Nat} {e:QQ} (h:Qg s.tab i g=some (k,e)):Y2 s i g place=if QM (QO s e) e.ws.length place true=0 then (ZR (e.ws.getD place.toNat 0),0) else (.none,QM (QO s e) e.ws.length place true):=by unfold Y2;rw[h]
theorem F2 [Q4] (p:Nat) (s:CS) (i g place:Int) {w:World} {fr:List Q2} (H:Q0 w (QU p s::fr)) :
  Calls Tryz.prog 25 #[pp p,ZL i g,.int .i64 place] w (ret fun v w'=>v = .tuple #[ZI (Y2 s i g place).1,.int .i64 ((Y2 s i g place).2:Nat)]∧Q0 w' (QU p s::fr)):=by
 obtain⟨a1,a2,a3,hkv⟩:=Gi (Y2 s i g place).1;rw[hkv];refine QV Tryz.func25 rfl (by kernel_rfl) ?_;refine ZF H ?_;clear H;intro b3 w H;refine Um H ?_;clear H;intro b4 w H;refine KA H ?_;clear H;intro b5 w H;refine VQ H ?_;clear H;intro b6 w H;refine J0 H ?_;refine YS H ?_;clear H;intro b8 w H;refine Q6 ?_;refine HU H ?_;replace H:=Js [5,0,0,0,0,0] 0 H;refine Jc rfl rfl (WE p s i g 86 [pp b3,pp b5,pp b8] (fun v w'=>v = .int .i64 ((Y2 s i g place).2:Nat)∧Q0 w' (pts b8 (row 85 [.int .i64 a1,.int .i64 a2,.int .i64 a3])::pts b6 (row 85 [.int .i64 0,.int .i64 0,.int .i64 0])::QU p s::fr)) _ ?_ ?_ H) ?_
 ·intro hv w H;rw[I3 hv] at hkv ⊢;cases hkv;replace H:=Js [1,1,0] 3 H;exact⟨rfl,H⟩
 ·intro k e hv w H;obtain⟨n,rfl,rfl,hk,hh⟩:=ZW hv;obtain⟨q,mem,hw,hm,H⟩:=Vv H;have hI:=KM hw hm hk;refine QV Tryz.func86 rfl (by kernel_rfl) ?_;refine J8 H ?_;clear H;intro b4 w H;refine J0 H ?_;replace H:=Js [2,2,2,0,0,0,0,0,0,0,0,0,0,0,0,1] 1 H
  have hlk:ZI (Y2 s k n place).1=ZI (if QM (QO s e) e.ws.length place true=0 then ZR (e.ws.getD place.toNat 0) else .none):=by
   rw[CF hv];split <;> rfl
  have herr:QM (QO s e) e.ws.length place true=(Y2 s k n place).2:=by
   rw[CF hv];split
   ·assumption
   ·rfl
  have hlf:QM (QO s e) e.ws.length place true=0→GR (if QM (QO s e) e.ws.length place true=0 then ZR (e.ws.getD place.toNat 0) else .none)∧mem.getD (e.addr+1+place.toNat) 0=VU (if QM (QO s e) e.ws.length place true=0 then ZR (e.ws.getD place.toNat 0) else .none):=fun h0=>by
   obtain⟨y,hpy,hy,hr⟩:=Zh h0;rw[if_pos h0,hpy,Int.toNat_natCast,Hy hw hm hk hy];exact N5 hw hk hy hr
  have hF:=fun (w:World) (fr:List Q2) (H:Q0 w (Qv q.ip q.sp q.bp::Qo q.bp s.lays::ST q.sp s.size mem s.own::fr))=>Mp q.ip q.sp q.bp s.size s.lays mem s.own e.addr e.lay e.count k e.ws.length (QO s e) hI place (if QM (QO s e) e.ws.length place true=0 then ZR (e.ws.getD place.toNat 0) else .none) hlf (fun h0=>if_neg h0) H;rw[← hlk,hkv] at hF;refine J1 H ?_;clear H;intro w H;refine Jl 0 [7,11] H ?_;refine X9 H ?_;refine Jl 3 [7,11] H ?_;refine Jf 4 ?_;refine Jl 5 [7,11] H ?_;refine Jl 6 [7,11] H ?_;refine Jo 7 H ?_;refine Jk rfl rfl (hF _ _ H) ?_;clear H;rintro v w ⟨rfl,H⟩;rw[herr];refine R8 H ?_;refine A2 H ?_;clear H;intro w H;refine Xb H ?_;refine J3 H ?_;replace H:=Js [4,0,0,0,1,1,1,1,1,1,1,1,1] 3 H;replace H:=VV hw hm H;replace H:=Js [1,1,0] 0 H;exact Q3 (Jy H rfl fun w' H'=>⟨rfl,H'⟩)
 ·clear H;rintro v w ⟨rfl,H⟩;refine J0 H ?_;refine KW H ?_;clear H;intro w H;refine J0 H ?_;replace H:=Js [1,1] 1 H;exact Q3 (Jz H (fun w' H' => .cellN H' rfl (by repeat first|exact .nil _|apply QZ.cons rfl) (.tmp .nil)) fun w' H'=>⟨rfl,H'.drop⟩)
def UH (s:CS) (i g:Int):CS×Nat:=
 match Qg s.tab i g with
 | none=>(s,8)
 | some (k,e)=>(VI s k g.toNat { e with held:=false },0)
theorem CH {s:CS} {i g:Int} (h:Qg s.tab i g=none):UH s i g=(s,8):=by unfold UH;rw[h]
theorem CI {s:CS} {i g:Int} {k:Nat} {e:QQ} (h:Qg s.tab i g=some (k,e)):UH s i g=(VI s k g.toNat { e with held:=false },0):=by unfold UH;rw[h]
def UI (s:CS) (i g:Int) (on:Bool):CS×Nat:=
 match Qg s.tab i g with
 | none=>(s,8)
 | some (k,e)=>if e.pinned=on then (s,7) else (VI s k g.toNat { e with pinned:=on },0)
theorem CL {s:CS} {i g:Int} {on:Bool} (h:Qg s.tab i g=none):UI s i g on=(s,8):=by unfold UI;rw[h]
theorem CM {s:CS} {i g:Int} {on:Bool} {k:Nat} {e:QQ} (h:Qg s.tab i g=some (k,e)):UI s i g on=if e.pinned=on then (s,7) else (VI s k g.toNat { e with pinned:=on },0):=by unfold UI;rw[h]
theorem I4 [Q4] {w:World} {p:Nat} {s:CS} {fr:List Q2} {q:GF} {mem:List Nat} (hw:WF s) (hm:VM s mem) {k n:Nat} {e e':QQ} (hk:s.tab[k]? = some ⟨n,some e⟩) (a:KI e e') (hws:e'.ws=e.ws)
  (H:Q0 w (V5 p q::Qv q.ip q.sp q.bp::Qo q.bp s.lays::ST q.sp s.size mem s.own::Qk q.tp (s.tab.set k ⟨n,some e'⟩)::Qe q.trp s.last s.par::RS q.rp s.rem::mp (ki .i64) Qr q.sm (s.sps.map VN)::star (s.sps.map (VO q.sp))::mp (ki .i64) Qr q.mm (s.mns.map V2)::star (s.mns.map VX)::fr)) :
  Q0 w (QU p (VI s k n e')::fr):=
 VV (s:=VI s k n e') (Em hw hk a (Th (hw.obj _ _ _ hk).1 a hws)) (Tg hw hm hk a hws) H
theorem ax [Q4] (p:Nat) (s:CS) (i g:Int) {w:World} {fr:List Q2} (H:Q0 w (QU p s::fr)) :
  Calls Tryz.prog 160 #[pp p,ZL i g] w (ret fun v w'=>v = .int .i64 ((UH s i g).2:Nat)∧Q0 w' (QU p (UH s i g).1::fr)):=by
 refine QV Tryz.func160 rfl (by kernel_rfl) ?_;refine ZF H ?_;clear H;intro b2 w H;refine Um H ?_;clear H;intro b3 w H;refine EZ H ?_;replace H:=Js [2,0,0] 0 H;refine Jc rfl rfl (WE p s i g 221 [pp b2,pp b3] (fun v w'=>v = .int .i64 ((UH s i g).2:Nat)∧Q0 w' (QU p (UH s i g).1::fr)) _ ?_ ?_ H) ?_
 ·intro hv w H;rw[CH hv];replace H:=Js [0] 2 H;exact⟨rfl,H⟩
 ·intro k e hv w H;obtain⟨n,rfl,rfl,hk,hh⟩:=ZW hv;obtain⟨q,mem,hw,hm,H⟩:=Vv H;refine QV Tryz.func221 rfl (by kernel_rfl) ?_;refine J8 H ?_;clear H;intro b3 w H;refine J0 H ?_;refine Yq H ?_;refine Uk H ?_;clear H;intro w H;refine Q6 ?_;replace H:=Js [5,0,0,0,0,0,0,0,0,0,0,0,0,0] 0 H;refine J1 H ?_;clear H;intro w H;refine Jl 0 [6] H ?_;refine X9 H ?_;refine Jl 3 [6] H ?_;refine Dq H ?_;refine Bn H ?_;refine Jk rfl rfl (CB q.tp s.tab k n { e with held:=false } H) ?_;clear H;rintro v w (⟨k',e',hL,rfl,H⟩|⟨hL,rfl,H⟩)
  ·have hLk:=(U0.1 hv).1;rw[hLk] at hL;cases hL;refine Ja 7 ?_;refine Jx H ?_;replace H:=Js [2,2,2,2,0,1,1,1,1,1,1] 3 H;rw[CI hv];replace H:=I4 (e':={ e with held:=false }) hw hm hk ⟨rfl,rfl,rfl,rfl,rfl⟩ rfl H;exact Q3 (Jy H rfl fun w' H'=>⟨rfl,H'⟩)
  ·rw[(U0.1 hv).1] at hL;cases hL
 ·clear H;rintro v w ⟨rfl,H⟩;refine J0 H ?_;exact Q3 (Jy H rfl fun w' H'=>⟨rfl,H'⟩)
theorem ay [Q4] (p:Nat) (s:CS) (i g:Int) (on:Bool) {w:World} {fr:List Q2} (H:Q0 w (QU p s::fr)) :
  Calls Tryz.prog 162 #[pp p,ZL i g,.bool on] w (ret fun v w'=>v = .int .i64 ((UI s i g on).2:Nat)∧Q0 w' (QU p (UI s i g on).1::fr)):=by
 refine QV Tryz.func162 rfl (by kernel_rfl) ?_;refine ZF H ?_;clear H;intro b3 w H;refine Um H ?_;clear H;intro b4 w H;refine KA H ?_;clear H;intro b5 w H;refine EZ H ?_;replace H:=Js [3,0,0,0] 0 H;refine Jc rfl rfl (WE p s i g 222 [pp b5,pp b3,pp b4] (fun v w'=>v = .int .i64 ((UI s i g on).2:Nat)∧Q0 w' (QU p (UI s i g on).1::fr)) _ ?_ ?_ H) ?_
 ·intro hv w H;rw[CL hv];replace H:=Js [0] 3 H;exact⟨rfl,H⟩
 ·intro k e hv w H;obtain⟨n,rfl,rfl,hk,hh⟩:=ZW hv;obtain⟨q,mem,hw,hm,H⟩:=Vv H;refine QV Tryz.func222 rfl (by kernel_rfl) ?_;refine J8 H ?_;clear H;intro b4 w H;refine Rv H ?_;refine KY H ?_;refine Q5 rfl (Rp rfl rfl (.inl rfl) rfl ?_);refine Q6 ?_;rw[CM hv];by_cases hp:e.pinned=on
  ·rw[show (e.pinned == on)=true by simp[hp],if_pos hp];refine YR H ?_;replace H:=Js [1,1,1,1,1,1,1,1,1,1,1] 4 H;replace H:=VV hw hm H;exact Q3 (Jy H rfl fun w' H'=>⟨rfl,H'⟩)
  ·rw[show (e.pinned == on)=false by simp[hp],if_neg hp];refine V8 H ?_;refine Gx H ?_;refine Uk H ?_;clear H;intro w H;refine Q6 ?_;replace H:=Js [5,0,0,0,0,0,0,0,0,0,0,0,0,0,0] 0 H;refine J1 H ?_;clear H;intro w H;refine Jl 0 [6] H ?_;refine X9 H ?_;refine Jl 3 [6] H ?_;refine Dq H ?_;refine Bn H ?_;refine Jk rfl rfl (CB q.tp s.tab k n { e with pinned:=on } H) ?_;clear H;rintro v w (⟨k',e',hL,rfl,H⟩|⟨hL,rfl,H⟩)
   ·have hLk:=(U0.1 hv).1;rw[hLk] at hL;cases hL;refine Ja 7 ?_;refine Jx H ?_;replace H:=Js [2,2,2,2,0,1,1,1,1,1,1] 4 H;replace H:=I4 (e':={ e with pinned:=on }) hw hm hk ⟨rfl,rfl,rfl,rfl,rfl⟩ rfl H;exact Q3 (Jy H rfl fun w' H'=>⟨rfl,H'⟩)
   ·rw[(U0.1 hv).1] at hL;cases hL
 ·clear H;rintro v w ⟨rfl,H⟩;refine J0 H ?_;exact Q3 (Jy H rfl fun w' H'=>⟨rfl,H'⟩)
@[reducible] def KN (e:QQ):List Value:=[.int .i64 e.region,.int .i64 e.lay,.int .i64 e.count,.int .i64 e.ws.length,.bool e.pinned]
def F3:Option (Nat×QQ)→Value
 | some (_,e) => .tuple #[.agg (KN e).toArray,.int .i64 0]
 | none => .tuple #[.agg #[.int .i64 0,.int .i64 0,.int .i64 0,.int .i64 0,.bool false],.int .i64 8]
theorem CN [Q4] (p:Nat) (s:CS) (i g:Int) {w:World} {fr:List Q2} (H:Q0 w (QU p s::fr)) :
  Calls Tryz.prog 11 #[pp p,ZL i g] w (ret fun v w'=>v=F3 (Qg s.tab i g)∧Q0 w' (QU p s::fr)):=by
 obtain⟨a1,a2,a3,a4,a5,a6,htv⟩:∃ a1 a2 a3 a4 a5 a6,F3 (Qg s.tab i g) = .tuple #[.agg #[.int .i64 a1,.int .i64 a2,.int .i64 a3,.int .i64 a4,.bool a5],.int .i64 a6]:=by
  cases Qg s.tab i g <;> exact⟨_,_,_,_,_,_,rfl⟩
 rw[htv];refine QV Tryz.func11 rfl (by kernel_rfl) ?_;refine ZF H ?_;clear H;intro b2 w H;refine Um H ?_;clear H;intro b3 w H;refine VQ H ?_;clear H;intro b4 w H;refine J0 H ?_;refine YS H ?_;clear H;intro b6 w H;refine Q6 ?_;refine HU H ?_;replace H:=Js [4,0,0,0,0] 0 H;refine Jc rfl rfl (WE p s i g 34 [pp b2,pp b6] (fun v w'=>v = .int .i64 a6∧Q0 w' (pts b6 (row 64 [.int .i64 a1,.int .i64 a2,.int .i64 a3,.int .i64 a4,.bool a5])::pts b4 (row 64 [.int .i64 0,.int .i64 0,.int .i64 0,.int .i64 0,.bool false])::QU p s::fr)) _ ?_ ?_ H) ?_
 ·intro hv w H;rw[hv] at htv;cases htv;replace H:=Js [1,1,0] 2 H;exact⟨rfl,H⟩
 ·intro k e hv w H;rw[hv] at htv;cases htv;obtain⟨n,rfl,rfl,hk,hh⟩:=ZW hv;obtain⟨q,mem,hw,hm,H⟩:=Vv H;have hI:=KM hw hm hk;have hml:=Eo (H.pull 3);have hfit:=hI.fit;refine QV Tryz.func34 rfl (by kernel_rfl) ?_;refine J8 H ?_;clear H;intro b3 w H;refine YK H ?_
  refine Qm (fun ms σ w=>ms=[]∧∃ b5,σ 2=pp b6∧σ 3=pp b3∧σ 5=pp b5∧σ 6 = .int .i64 ((e.ws.length+1:Nat):Int)∧σ 7 = .int .i64 0 ∧
   Q0 w (pts b3 (row 78 (YJ e))::pts b5 (row 117 [.int .i64 e.lay,.int .i64 e.count,.int .i64 k])::pts b6 (row 64 [.int .i64 0,.int .i64 0,.int .i64 0,.int .i64 0,.bool false])::pts b4 (row 64 [.int .i64 0,.int .i64 0,.int .i64 0,.int .i64 0,.bool false])::QU p s::fr)) ?_ ?_
  ·replace H:=Js [2,2,2,0,0,0,0,0,0,0,0,0,0,0,1] 1 H;refine J1 H ?_;clear H;intro w H;refine Jl 0 [6,12] H ?_;refine X9 H ?_;refine Jl 3 [6,12] H ?_;refine Jf 4 ?_;refine Jl 5 [6,12] H ?_;refine Jw 6 11 H rfl rfl (V0 (a:=[]) (b:=[]) rfl rfl (call (CW q.ip q.sp q.bp s.size s.lays mem s.own e.addr e.lay e.count k e.ws.length (QO s e) hI H) ?_)) (Vr H rfl ?_)
   ·clear H;rintro v w ⟨rfl,H⟩;refine EG H ?_;refine By H ?_;clear H;intro b5 w H;refine Xg H ?_;clear H;intro w H;refine AA H ?_;replace H:=Js [5,1,1,1,2,2,2,2,2,2,2,1,0,0,0] 1 H;replace H:=VV hw hm H;replace H:=Js [1,1,1,1,0] 0 H;exact⟨rfl,rfl,b5,rfl,rfl,rfl,rfl,rfl,H⟩
   ·clear H;intro b5 w H;replace H:=Js [1,1,1,0] 0 H;refine Jo 6 H ?_;refine Jk rfl rfl (CW q.ip q.sp q.bp s.size s.lays mem s.own e.addr e.lay e.count k e.ws.length (QO s e) hI H) ?_;clear H;rintro v w ⟨rfl,H⟩;refine EG H ?_;refine Xg H ?_;clear H;intro w H;refine AA H ?_;replace H:=Js [5,0,0,0,2,2,2,2,2,2,2,1,0,0,0] 1 H;replace H:=VV hw hm H;replace H:=Js [1,1,1,1,0] 0 H;exact⟨rfl,rfl,b5,rfl,rfl,rfl,rfl,rfl,H⟩
  ·clear H;rintro ms σ w ⟨rfl,b5,g2,g3,g5,g6,g7,H⟩;rw[Q1 g2,Q1 g3,Q1 g5,Q1 g6,Q1 g7];refine Bh H ?_;refine Dg H ?_;rw[Qb (x:=((e.ws.length+1:Nat):Int) - 1) (by omega) (by omega),show ((e.ws.length+1:Nat):Int) - 1=(e.ws.length:Int) by omega];refine Gg H ?_;refine Gu H ?_;refine J4 H ?_;clear H;intro w H;refine UX H ?_;replace H:=Js [2,2,2] 2 H;exact Q3 (Jy H rfl fun w' H'=>⟨rfl,H'⟩)
 ·clear H;rintro v w ⟨rfl,H⟩;refine J0 H ?_;refine KW H ?_;clear H;intro w H;refine J0 H ?_;replace H:=Js [1,1] 1 H;exact Q3 (Jz H (fun w' H' => .cellN H' rfl (by repeat first|exact .nil _|apply QZ.cons rfl) (.tmp .nil)) fun w' H'=>⟨rfl,H'.drop⟩)
theorem Ah [Q4] {w:World} {p:Nat} {m:List (Rf×Int)} {l:List Q2} (H:Q0 w (RS p m::l)):(m.map (·.1)).Nodup:=by
 obtain⟨bt,bo,bf,H⟩:=AS H;exact XQ bt H
theorem N8 [Q4] (p:Nat) (s:CS) (k n:Nat) (e:QQ) (hk:s.tab[k]? = some ⟨n,some e⟩) {w:World} {fr:List Q2} (H:Q0 w (QU p s::fr)) :
  Calls Tryz.prog 108 #[pp p,.int .i64 k] w (ret fun v w'=>v = .tuple #[.agg (YJ e).toArray,.bool true]∧Q0 w' (QU p s::fr)):=by
 obtain⟨q,mem,hw,hm,H⟩:=Vv H;have hL:Qn s.tab k n=some (k,e):=Vz.2 ⟨n,rfl,rfl,hk⟩;refine QV Tryz.func108 rfl (by kernel_rfl) ?_;refine YS H ?_;clear H;intro b4 w H;refine AU H ?_;refine J9 H ?_;replace H:=Js [5,0,0,0,0,0,0,0,0,0,0,0] 0 H;refine Jc rfl rfl (F1 q.tp s.tab k n e hk H) ?_;clear H;rintro v w ⟨rfl,H⟩;refine Vj H ?_;clear H;intro b6 w H;refine J4 H ?_;clear H;intro w H;refine YK H ?_
 refine Qm (fun ms σ w=>ms=[]∧∃ b8,σ 4=pp b4∧σ 7 = .bool true∧σ 8=pp b8 ∧
   Q0 w (pts b4 (row 78 [.int .i64 0,.int .i64 0,.bool false,.bool false])::pts b8 (row 78 (YJ e))::QU p s::fr)) ?_ ?_
 ·replace H:=Js [1,0,0,0,0,0,0,0,0,0,0,0,0] 0 H;refine J1 H ?_;clear H;intro w H;refine Xc H ?_;refine Jw 5 9 H rfl rfl (V0 (a:=[]) (b:=[]) rfl rfl (call (ZM q.tp s.tab k n H) ?_)) (Vr H rfl ?_)
  ·clear H;rintro v w ⟨rfl,H⟩;rw[hL];refine Xd H ?_;clear H;intro b8 w H;refine Xe H ?_;clear H;intro w H;refine ZH H ?_;replace H:=Js [4,4,4,4,1,3,3,3,3,3,3,2,0] 1 H;replace H:=VV hw hm H;replace H:=Js [1,1,0] 0 H;exact⟨rfl,rfl,b8,rfl,rfl,rfl,H⟩
  ·clear H;intro b8 w H;refine Jo 5 H ?_;refine Jk rfl rfl (ZM q.tp s.tab k n H.swap) ?_;clear H;rintro v w ⟨rfl,H⟩;rw[hL];refine Xf H ?_;clear H;intro w H;refine ZH H ?_;replace H:=Js [4,4,4,4,0,3,3,3,3,3,3,2,0] 1 H;replace H:=VV hw hm H;replace H:=Js [1,1,0] 0 H;exact⟨rfl,rfl,b8,rfl,rfl,rfl,H⟩
 ·clear H;rintro ms σ w ⟨rfl,b8,g4,g7,g8,H⟩;rw[Q1 g4,Q1 g7,Q1 g8];refine KW H ?_;clear H;intro w H;refine J0 H ?_;exact Q3 (Jz H (fun w' H' => .cellN H' rfl (by repeat first|exact .nil _|apply QZ.cons rfl) (.tmp .nil)) fun w' H'=>⟨rfl,H'.drop.drop⟩)
def Ye (s:CS) (k:Nat) (e:QQ) (place:Int) (l:Vy):List (Rf×Int):=
 match l with
 | .obj a b=>match Qn s.tab a b with
  | some (_,f)=>if f.region≠e.region then Vm (QB s.rem ((k:Int),place)) ((k:Int),place) (a:Int) else QB s.rem ((k:Int),place)
  | none=>QB s.rem ((k:Int),place)
 | _=>QB s.rem ((k:Int),place)
theorem I5 {s:CS} {k a b:Nat} {e:QQ} {place:Int} (h:Qn s.tab a b=none):Ye s k e place (.obj a b)=QB s.rem ((k:Int),place):=by
 show (match Qn s.tab a b with|some (_,f)=>if f.region≠e.region then Vm (QB s.rem ((k:Int),place)) ((k:Int),place) (a:Int) else QB s.rem ((k:Int),place)|none=>QB s.rem ((k:Int),place))=_;rw[h]
theorem CO {s:CS} {k a b kk:Nat} {e f:QQ} {place:Int} (h:Qn s.tab a b=some (kk,f)):Ye s k e place (.obj a b)=if f.region≠e.region then Vm (QB s.rem ((k:Int),place)) ((k:Int),place) (a:Int) else QB s.rem ((k:Int),place):=by
 show (match Qn s.tab a b with|some (_,f)=>if f.region≠e.region then Vm (QB s.rem ((k:Int),place)) ((k:Int),place) (a:Int) else QB s.rem ((k:Int),place)|none=>QB s.rem ((k:Int),place))=_;rw[h]
theorem az [Q4] (p:Nat) (s:CS) (k n:Nat) (e:QQ) (hk:s.tab[k]? = some ⟨n,some e⟩) (place:Int) (l:Vy) {w:World} {fr:List Q2} (H:Q0 w (QU p s::fr)) :
  Calls Tryz.prog 145 #[pp p,.int .i64 k,.int .i64 place,ZI l] w (ret fun v w'=>Q0 w' (QU p { s with rem:=Ye s k e place l }::fr)):=by
 obtain⟨a1,a2,a3,hkv⟩:=Gi l;rw[hkv];obtain⟨q,mem,hw,hm,H⟩:=Vv H;have hnd:=Ah (H.pull 6);have hnd0:=hnd;refine QV Tryz.func145 rfl (by kernel_rfl) ?_;refine J8 H ?_;clear H;intro b7 w H;refine Rs H ?_;refine Gu H ?_;refine VQ H ?_;clear H;intro b8 w H;refine J4 H ?_;clear H;intro w H;refine Q6 ?_;replace H:=Js [8,0,0,0,0,0,0,0,0,0,0,0,0] 0 H;refine J1 H ?_;clear H;intro w H;refine Dn H ?_;refine Jk rfl rfl (CK q.rp s.rem hnd ((k:Int),place) H) ?_;clear H;rintro v w ⟨rfl,H⟩;refine Jx H ?_;replace H:=Js [3,3,3,3,3,3,0,2,2,2,2,0,0] 0 H;have H:=VV (s:={ s with rem:=QB s.rem ((k:Int),place) }) (Aa hw _) (En hm _) H;clear hw hm;refine WY H ?_
 have hcase:(a1≠2∧Ye s k e place l=QB s.rem ((k:Int),place))∨∃ a b:Nat,l = .obj a b∧a1=2∧a2=a∧a3=b:=by
  cases l with
  | none=>injection hkv with h;simp at h;exact .inl ⟨by omega,rfl⟩
  | grave=>injection hkv with h;simp at h;exact .inl ⟨by omega,rfl⟩
  | obj a b=>injection hkv with h;simp at h;exact .inr ⟨a,b,rfl,by omega,by omega,by omega⟩
 rcases hcase with ⟨h2,hn⟩|⟨a,b,rfl,rfl,rfl,rfl⟩
 ·rw[show (a1 != 2)=true by simpa using h2];refine VR H ?_;rw[hn];replace H:=Js [0] 2 H;exact Q3 (Jy H rfl fun w' H'=>H')
 ·refine AG H ?_;refine Jc rfl rfl (N8 p { s with rem:=QB s.rem ((k:Int),place) } k n e hk H) ?_;clear H;rintro v w ⟨rfl,H⟩;refine Vj H ?_;clear H;intro b9 w H;refine J4 H ?_;clear H;intro w H;refine J0 H ?_;replace H:=Js [1,0,0,0] 0 H;obtain⟨q,mem,hw,hm,H⟩:=Vv H;dsimp only at H;obtain⟨e1,e2,h1,h2,e4,hsh⟩:=CC (Qn s.tab a b);refine J7 H ?_
  refine Qm (fun ms σ w=>ms=[]∧∃ b11,σ 0=pp p∧σ 7=pp b7∧σ 8=pp b8∧σ 9=pp b9∧σ 11=pp b11∧σ 12 = .int .i64 e4 ∧
    Q0 w (QU p { s with rem:=QB s.rem ((k:Int),place) }::pts b11 (row 78 [.int .i64 e1,.int .i64 e2,.bool h1,.bool h2])::pts b9 (row 78 (YJ e))::pts b8 (row 132 [.int .i64 k,.int .i64 place])::pts b7 (row 85 [.int .i64 2,.int .i64 a,.int .i64 b])::fr)) ?_ ?_
  ·replace H:=Js [4,0,0,0,0,0,0,0,0,0,0,0,0,0] 0 H;refine J1 H ?_;clear H;intro w H;refine Dz H ?_;refine HX H ?_;refine Jw 6 10 H rfl rfl (V0 (a:=[]) (b:=[]) rfl rfl (call (ZM q.tp s.tab a b H) ?_)) (Vr H rfl ?_)
   ·clear H;rintro v w ⟨rfl,H⟩;rw[hsh];refine E0 H ?_;clear H;intro b11 w H;refine A2 H ?_;clear H;intro w H;refine Xb H ?_;replace H:=Js [2,2,2,2,1,1,1,1,1,1,1,0,0,0,0] 0 H;have H:=VV (s:={ s with rem:=QB s.rem ((k:Int),place) }) hw hm H;exact⟨rfl,rfl,b11,rfl,rfl,rfl,rfl,rfl,rfl,H⟩
   ·clear H;intro b11 w H;refine Jo 6 H ?_;refine Jk rfl rfl (ZM q.tp s.tab a b H.swap) ?_;clear H;rintro v w ⟨rfl,H⟩;rw[hsh];refine E1 H ?_;clear H;intro w H;refine Xb H ?_;replace H:=Js [2,2,2,2,0,1,1,1,1,1,1,0,0,0,0] 0 H;have H:=VV (s:={ s with rem:=QB s.rem ((k:Int),place) }) hw hm H;exact⟨rfl,rfl,b11,rfl,rfl,rfl,rfl,rfl,rfl,H⟩
  ·clear H;rintro ms σ w ⟨rfl,b11,g0,g7,g8,g9,g11,g12,H⟩;rw[Q1 g0,Q1 g7,Q1 g8,Q1 g9,Q1 g11,Q1 g12];cases hL:Qn s.tab a b with
   | none=>
    have hn:Ye s k e place (.obj a b)=QB s.rem ((k:Int),place):=I5 hL;rw[hL] at hsh;cases hsh;rw[hn];refine Vi H ?_;refine W5 H ?_;refine Qu rfl rfl rfl ?_;refine Vo H ?_;replace H:=Js [0] 4 H;exact Y7 _ (.inl rfl) H rfl fun w' H'=>H'
   | some x=>
    obtain⟨kk,f⟩:=x;rw[hL] at hsh;cases hsh;refine Vi H ?_;refine WZ H ?_;by_cases hr:f.region=e.region
    ·have hn:Ye s k e place (.obj a b)=QB s.rem ((k:Int),place):=by rw[CO hL];exact if_neg (by simpa using hr)
     rw[hn,show (f.region != e.region)=false by simpa using hr];refine Vo H ?_;replace H:=Js [0] 4 H;exact Y7 _ (.inl rfl) H rfl fun w' H'=>H'
    ·have hn:Ye s k e place (.obj a b)=Vm (QB s.rem ((k:Int),place)) ((k:Int),place) (a:Int):=by rw[CO hL];exact if_pos hr
     rw[hn,show (f.region != e.region)=true by simpa using hr];refine Un H ?_;obtain⟨q,mem,hw,hm,H⟩:=Vv H;dsimp only at H;replace H:=Js [6,0,0,0,0,0,0,0,0,0,0,0,0,0,0] 0 H;have hnd:=Ah H;refine J1 H ?_;clear H;intro w H;refine Bz H ?_;refine VP 4 [8] H rfl (Q9.none rfl) rfl (by repeat first|exact .nil _|apply QZ.cons rfl) (by kernel_rfl) ?_;refine Jf 5 ?_;refine Jf 6 ?_;refine Jl 7 [8] H ?_;refine Jo 8 H ?_;refine Jk rfl rfl (Mf q.rp _ hnd ((k:Int),place) a H) ?_;clear H;rintro v w ⟨rfl,H⟩;refine Jx H ?_
     have he:QB (QB s.rem ((k:Int),place)) ((k:Int),place)=QB s.rem ((k:Int),place):=by
      refine B6 ?_;intro hmem;exact absurd rfl ((B7 hnd0).1 hmem).1
     rw[he] at H;replace H:=Js [1,1,1,1,1,1,0,0,0,0,0] 4 H;have H:=VV (s:={ s with rem:=Vm (QB s.rem ((k:Int),place)) ((k:Int),place) (a:Int) }) (Aa hw _) (En hm _) H;exact Y7 _ (.inl rfl) H rfl fun w' H'=>H'
def WH (l:QJ) (n:Nat):List Nat:=(List.range n).filter (VW l)
theorem N9 {l:QJ} {n p:Nat} {a t:List Nat} (h:WH l n=a++p::t):p < n∧VW l p=true:=by
 have:p∈WH l n:=by rw[h];simp
 unfold WH at this;rw[mem_filter,mem_range] at this;exact this
structure NQ (ls:List QJ) (size:Nat) (own:List Nat) (addr i c s n:Nat) (l:QJ) (lk:Nat→Vy) (mem:List Nat):Prop where
 img:XG ls size mem own addr i c s n l
 link:∀ p,p < n→VW l p=true→GR (lk p)∧mem.getD (addr+1+p) 0=VU (lk p)
theorem bQ [Q4] (ip:Nat) (addr:Nat) {w:World} {fr:List Q2} (H:Q0 w fr) :
  Calls Tryz.prog 18 #[pp ip,.int .i64 addr] w (ret fun v w'=>∃ b1 b2,v = .func (.func 64) #[] #[pp b1,pp b2]∧Q0 w' (pts b1 (row 37 [pp ip])::pts b2 (row 3 [.int .i64 addr])::fr)):=by
 refine QV Tryz.func18 rfl (by kernel_rfl) ?_;refine ZF H ?_;clear H;intro b2 w H;refine KA H ?_;clear H;intro b3 w H;refine YI H ?_;exact Q3 (Jy H.swap rfl fun w' H'=>⟨b2,b3,rfl,H'⟩)
theorem bV [Q4] (yl bm ba ip sp bp size:Nat) (ls:List QJ) (own:List Nat) (addr i c s n:Nat) (l:QJ) (lk:Nat→Vy) (F:List Nat→Prop) (hF:∀ mem,F mem→NQ ls size own addr i c s n l lk mem) (J:List Nat→Q2)
  (hy : ∀ (ks : List Nat) (p : Nat) (mem : List Nat) (rest : List Q2) (w : World), F mem → (∃ t, WH l n = ks ++ p :: t) → Q0 w (J ks :: Qv ip sp bp :: Qo bp ls :: ST sp size mem own :: rest) →
   SL.Yields Tryz.prog yl #[.int .i64 p,ZI (lk p)] w (fun v w'=>v = .bool true∧∃ mem',F mem'∧Q0 w' (J (ks++[p])::Qv ip sp bp::Qo bp ls::ST sp size mem' own::rest)))
  {mem:List Nat} (hm:F mem) {w:World} {fr:List Q2} (H:Q0 w (J []::pts bm (row 37 [pp ip])::pts ba (row 3 [.int .i64 addr])::Qv ip sp bp::Qo bp ls::ST sp size mem own::fr)) :
  Calls Tryz.prog 64 #[.func (.yield yl) #[] #[],pp bm,pp ba] w (ret fun _ w'=>∃ mem',F mem'∧Q0 w' (J (WH l n)::pts bm (row 37 [pp ip])::pts ba (row 3 [.int .i64 addr])::Qv ip sp bp::Qo bp ls::ST sp size mem' own::fr)):=by
 have hR:=(hF _ hm).img.right;have hz:=(hF _ hm).img.siz;refine QV Tryz.func64 rfl (by kernel_rfl) ?_;refine ZF H ?_;clear H;intro b3 w H;refine Q6 ?_;refine Gx H ?_;refine Q5 rfl (UQ rfl rfl (.inl rfl) rfl ?_);refine AB H ?_;replace H:=Js [4,4,4,0,0,0,0] 0 H;refine C0 H ?_;refine Jc rfl rfl (Ht ip sp bp size ls mem own addr i c s n l (hF _ hm).img H) ?_;clear H;rintro v w ⟨vr,vq,rfl,H⟩;obtain⟨ar,cr,rfl⟩:=QD H (QE _) (by decide);obtain⟨aq,cq,rfl⟩:=QD H.drop (QE _) (by decide);refine Ba H ?_;refine VQ H ?_;clear H;intro b4 w H;refine VQ H ?_;clear H;intro b5 w H;refine J4 H ?_;clear H;intro w H;refine J4 H ?_;clear H;intro w H;refine Bp H ?_;refine GG H ?_;refine Gg H ?_;refine Jc rfl rfl (Tt _ _ l c rfl rfl H) ?_;clear H;rintro v w ⟨b1,b2,rfl,H⟩;refine BO H ?_;refine QS (Kt (a:=[]) (b:=[pp b1,pp b2]) H rfl (fun yl2 D w H=>?_));generalize hL:LR _ yl2 _ _ _ _ D .ready=L at H ⊢;obtain⟨J2,hJ2⟩:∃ J2:List Nat→Q2,J2=fun ks=>ex fun mem':List Nat=>star [prop (F mem'),L,J ks,pts bm (row 37 [pp ip]),pts ba (row 3 [.int .i64 addr]),pts b3 (row 162 [.func (.yield yl) #[] #[]]),Qv ip sp bp,Qo bp ls,ST sp size mem' own]:=⟨_,rfl⟩
 have hin:∀ (ks:List Nat) (mem':List Nat) (w:World) (l':List Q2),F mem'→Q0 w (L::J ks::pts bm (row 37 [pp ip])::pts ba (row 3 [.int .i64 addr])::pts b3 (row 162 [.func (.yield yl) #[] #[]])::Qv ip sp bp::Qo bp ls::ST sp size mem' own::l')→Q0 w (J2 ks::l'):=by
  intro ks mem' w l' h H;rw[hJ2];exact Q0.ex.2 ⟨mem',Q0.star.2 (Q0.prop.2 ⟨h,H⟩)⟩
 have hout:∀ (ks:List Nat) (w:World) (l':List Q2),Q0 w (J2 ks::l')→∃ mem',F mem'∧Q0 w (L::J ks::pts bm (row 37 [pp ip])::pts ba (row 3 [.int .i64 addr])::pts b3 (row 162 [.func (.yield yl) #[] #[]])::Qv ip sp bp::Qo bp ls::ST sp size mem' own::l'):=by
  intro ks w l' H;rw[hJ2] at H;obtain⟨mem',H⟩:=Q0.ex.1 H;exact⟨mem',Q0.prop.1 (Q0.star.1 H)⟩
 replace H:=Js [0,11,11,11,10,7,7,7,1,1,3,3,0] 2 H;replace H:=hin [] mem _ _ hm H;refine call (Tu yl2 b1 b2 _ _ l hR c hz J2 ?_ H) ?_
 ·clear H;intro ks p rest w hpre H;obtain⟨mem',hm',H⟩:=hout _ _ _ H;obtain⟨t,hpre⟩:=hpre;obtain⟨hpn,hpr⟩:=N9 hpre
  have hpl:QM l n (p:Int) true=0:=by
   unfold QM;rw[if_neg (by omega),Int.toNat_natCast,if_neg (by rw[hpr];decide)]
  have hyy:=fun (w:World) (rest:List Q2)=>hy ks p mem' rest w hm' ⟨t,hpre⟩;obtain⟨a1,a2,a3,hkv⟩:=Gi (lk p);rw[hkv] at hyy;subst hL;refine Ks (args:=[.int .i64 p]) H rfl rfl ?_;refine VJ H ?_;refine⟨rfl,_,H,fun w H=>QS ?_⟩;replace H:=Js [5,5,5,0,0,0,0,0] 0 H;refine C0 H ?_;refine Jv ?_;refine Jc rfl rfl (Mp ip sp bp size ls mem' own addr i c s n l (hF _ hm').img p (lk p) (fun _=>by rw[Int.toNat_natCast];exact(hF _ hm').link p hpn hpr) (fun h=>absurd hpl h) H) ?_;clear H;rintro v w ⟨rfl,H⟩;rw[hpl,hkv];refine Vj H ?_;clear H;intro b9 w H;refine J4 H ?_;clear H;intro w H;refine J0 H ?_;replace H:=Js [5,1,1,1,1,1,1,1,0] 0 H;refine Xh H ?_;refine K7 H ?_;refine Q5 rfl (Wl rfl rfl (SL.Yields.mono (hyy _ _ H) ?_));clear H;rintro v w ⟨rfl,mem'',hm'',H⟩;refine Vo H ?_;replace H:=Js [4,0,3,3,3,0,0,0] 1 H;exact⟨rfl,_,H,fun w H=>⟨rfl,hin _ _ _ _ hm'' H⟩⟩
 ·clear H;rintro v w H;obtain⟨mem',hm',H⟩:=hout _ _ _ H;subst hL;refine⟨_,H,fun w H=>?_⟩;replace H:=Js [11,0,0,0,1,1,1] 5 H;exact Rj (ms:=[D]) _ (.inl rfl) ((Q0.star (k:=[pts D (.deferred (some []))])).2 H) rfl fun w' H'=>⟨mem',hm',H'⟩
def GH (s:CS) (i g place:Int) (l:Vy):CS×Nat:=
 match Qg s.tab i g with
 | none=>(s,8)
 | some (k,e)=>if QM (QO s e) e.ws.length place true=0 then ({ VI s k g.toNat { e with ws:=e.ws.set place.toNat (VU l) } with rem:=Ye (VI s k g.toNat { e with ws:=e.ws.set place.toNat (VU l) }) k { e with ws:=e.ws.set place.toNat (VU l) } place l },0) else (s,QM (QO s e) e.ws.length place true)
theorem CP {s:CS} {i g place:Int} {l:Vy} (h:Qg s.tab i g=none):GH s i g place l=(s,8):=by unfold GH;rw[h]
theorem WI {s:CS} {i g place:Int} {l:Vy} {k:Nat} {e:QQ} (h:Qg s.tab i g=some (k,e)):GH s i g place l=if QM (QO s e) e.ws.length place true=0 then ({ VI s k g.toNat { e with ws:=e.ws.set place.toNat (VU l) } with rem:=Ye (VI s k g.toNat { e with ws:=e.ws.set place.toNat (VU l) }) k { e with ws:=e.ws.set place.toNat (VU l) } place l },0) else (s,QM (QO s e) e.ws.length place true):=by unfold GH;rw[h]
theorem NV [Q4] (p:Nat) (s:CS) (i g place:Int) (l:Vy) (hl:GR l) {w:World} {fr:List Q2} (H:Q0 w (QU p s::fr)) :
  Calls Tryz.prog 85 #[pp p,ZL i g,.int .i64 place,ZI l] w (ret fun v w'=>v = .int .i64 ((GH s i g place l).2:Nat)∧Q0 w' (QU p (GH s i g place l).1::fr)):=by
 obtain⟨a1,a2,a3,hkv⟩:=Gi l;rw[hkv];refine QV Tryz.func85 rfl (by kernel_rfl) ?_;refine ZF H ?_;clear H;intro b4 w H;refine Um H ?_;clear H;intro b5 w H;refine KA H ?_;clear H;intro b6 w H;refine Um H ?_;clear H;intro b7 w H;refine EZ H ?_;replace H:=Js [4,0,0,0,0] 0 H
 refine Q5 rfl (V0 (a:=[]) (b:=[]) rfl rfl (call (WE p s i g 144 [pp b4,pp b6,pp b7] (fun v w'=>
   (Qg s.tab i g=none∧v = .int .i64 8∧Q0 w' (QU p s::fr)) ∨
   (∃ k n e, Qg s.tab i g = some (k, e) ∧ g = (n : Nat) ∧ i = (k : Nat) ∧ s.tab[k]? = some ⟨n, some e⟩ ∧ ((QM (QO s e) e.ws.length place true ≠ 0 ∧ v = .int .i64 (QM (QO s e) e.ws.length place true) ∧ Q0 w' (QU p s :: fr)) ∨
    (QM (QO s e) e.ws.length place true=0∧v = .int .i64 0∧Q0 w' (pts b4 (row 45 [pp p])::pts b5 (row 62 [.int .i64 i,.int .i64 g])::pts b6 (row 3 [.int .i64 place])::pts b7 (row 85 [.int .i64 a1,.int .i64 a2,.int .i64 a3])::QU p (VI s k n { e with ws:=e.ws.set place.toNat (VU l) })::fr))))) _ ?_ ?_ H) ?_))
 ·intro hv w H;replace H:=Js [0] 4 H;exact .inl ⟨hv,rfl,H⟩
 ·intro k e hv w H;obtain⟨n,rfl,rfl,hk,hh⟩:=ZW hv;obtain⟨q,mem,hw,hm,H⟩:=Vv H;have hI:=KM hw hm hk;have hT:=fun (w:World) (fr:List Q2) (H:Q0 w (Qv q.ip q.sp q.bp::Qo q.bp s.lays::ST q.sp s.size mem s.own::fr))=>Mq q.ip q.sp q.bp s.size s.lays mem s.own e.addr e.lay e.count k e.ws.length (QO s e) hI place l hl H;rw[hkv] at hT;refine QV Tryz.func144 rfl (by kernel_rfl) ?_;refine J8 H ?_;clear H;intro b4 w H;refine J0 H ?_;replace H:=Js [2,2,2,0,0,0,0,0,0,0,0,0,0,0,0,0] 0 H;refine J1 H ?_;clear H;intro w H;refine Jl 0 [8] H ?_;refine X9 H ?_;refine Jl 3 [8] H ?_;refine Jf 4 ?_;refine Jl 5 [8] H ?_;refine Jl 6 [8] H ?_;refine VP 7 [8] H rfl (Q9.none rfl) rfl (by repeat first|exact .nil _|apply QZ.cons rfl) (by kernel_rfl) ?_;refine Jo 8 H ?_;refine Jk rfl rfl (hT _ _ H) ?_;clear H;rintro v w ⟨rfl,H⟩;refine Ja 9 ?_;refine Jx H ?_;by_cases h0:QM (QO s e) e.ws.length place true=0
  ·obtain⟨y,rfl,hy,hr⟩:=Zh h0;rw[if_pos h0] at H;rw[h0];have hwl:VU l < 18446744073709551616:=ME hl;have hw':=Em (e':={ e with ws:=e.ws.set y (VU l) }) hw hk ⟨rfl,rfl,rfl,rfl,by show (e.ws.set y (VU l)).length=_;simp⟩ (Ho (hw.obj _ _ _ hk).1 (I1 hw hk) hwl (fun _=>⟨l,hl,rfl⟩));have hm':=Hn hw hm hk hy (x:=VU l);replace H:=Js [5,4,0,0,0,1,1,1,1,1,1,4,3,2,1] 1 H;replace H:=I2 (e':={ e with ws:=e.ws.set y (VU l) }) hk rfl H;replace H:=Js [1,1,1,1,0,0,0,0,0,0,0,0,0,0,0] 0 H;replace H:=VV hw' hm' H;replace H:=Js [1,1,1,1,0] 0 H;exact Q3 (Jy H rfl fun w' H' => .inr ⟨k,n,e,hv,rfl,rfl,hk,.inr ⟨h0,rfl,H'⟩⟩)
  ·rw[if_neg h0] at H;replace H:=Js [4,0,0,0,1,1,1,1,1,1,1] 5 H;replace H:=VV hw hm H;exact Q3 (Jy H rfl fun w' H' => .inr ⟨k,n,e,hv,rfl,rfl,hk,.inl ⟨h0,rfl,H'⟩⟩)
 ·clear H;rintro v w (⟨hv,rfl,H⟩|⟨k,n,e,hv,rfl,rfl,hk,(⟨h0,rfl,H⟩|⟨h0,rfl,H⟩)⟩)
  ·rw[CP hv];refine Yp H ?_;refine J3 H ?_;exact Q3 (Jy H rfl fun w' H'=>⟨rfl,H'⟩)
  ·rw[WI hv,if_neg h0];refine YI H ?_;rw[show (((QM (QO s e) e.ws.length place true:Nat):Int) == 0)=false by simpa using h0];refine BS H ?_;exact Q3 (Jy H rfl fun w' H'=>⟨rfl,H'⟩)
  ·rw[WI hv,if_pos h0,Int.toNat_natCast];have hN:=fun (w:World) (fr:List Q2) (H:Q0 w (QU p (VI s k n { e with ws:=e.ws.set place.toNat (VU l) })::fr))=>az p (VI s k n { e with ws:=e.ws.set place.toNat (VU l) }) k n { e with ws:=e.ws.set place.toNat (VU l) } (by show (s.tab.set k _)[k]? = _;simp[(List.getElem?_eq_some_iff.1 hk).1]) place l H;rw[hkv] at hN;refine YI H ?_;refine J7 H ?_;refine Qm (fun ms σ w=>ms=[]∧σ 9 = .int .i64 0∧Q0 w (QU p { VI s k n { e with ws:=e.ws.set place.toNat (VU l) } with rem:=Ye (VI s k n { e with ws:=e.ws.set place.toNat (VU l) }) k { e with ws:=e.ws.set place.toNat (VU l) } place l }::fr)) ?_ ?_
   ·refine VE rfl ?_;refine Gx H ?_;refine Gg H ?_;refine KY H ?_;refine K7 H ?_;replace H:=Js [4,0,0,0,0] 0 H;refine Jc rfl rfl (hN _ _ H) ?_;clear H;intro v w H;refine Q6 ?_;replace H:=Js [0] 4 H;exact⟨rfl,rfl,rfl,H⟩
   ·clear H;rintro ms σ w ⟨rfl,g9,H⟩;rw[Q1 g9];refine J3 H ?_;exact Q3 (Jy H rfl fun w' H'=>⟨rfl,H'⟩)
def Yk (s:CS) (i g place u v:Int):CS×Nat:=
 if (Y2 s i g place).2≠0 then (s,(Y2 s i g place).2)
 else if (Qg s.tab u v).isNone then (s,8) else GH s i g place (.obj u.toNat v.toNat)
theorem I6 {s:CS} (h:WF s) {k g:Nat} {e:QQ} (hk:s.tab[k]? = some ⟨g,some e⟩):CY k g:=by
 have h1:=(List.getElem?_eq_some_iff.1 hk).1;have h2:=h.slots.2;have h3:=h.gen _ _ hk;exact⟨by omega,h3.2 rfl,h3.1⟩
theorem NY [Q4] (p:Nat) (s:CS) (i g place u v:Int) {w:World} {fr:List Q2} (H:Q0 w (QU p s::fr)) :
  Calls Tryz.prog 24 #[pp p,ZL i g,.int .i64 place,ZL u v] w (ret fun x w'=>x = .int .i64 ((Yk s i g place u v).2:Nat)∧Q0 w' (QU p (Yk s i g place u v).1::fr)):=by
 obtain⟨a1,a2,a3,hkv⟩:=Gi (Y2 s i g place).1;refine QV Tryz.func24 rfl (by kernel_rfl) ?_;refine J8 H ?_;clear H;intro b5 w H;refine Um H ?_;clear H;intro b7 w H;refine R5 H ?_;refine Jv ?_;replace H:=Js [2,0,0] 0 H;refine Jc rfl rfl (F2 p s i g place H) ?_;clear H;rintro v w ⟨rfl,H⟩;rw[hkv];refine Vj H ?_;clear H;intro b9 w H;refine J4 H ?_;clear H;intro w H;refine YI H ?_;by_cases h0:(Y2 s i g place).2=0
 ·have hT:Yk s i g place u v=if (Qg s.tab u v).isNone then (s,8) else GH s i g place (.obj u.toNat v.toNat):=by unfold Yk;rw[if_neg (by simpa using h0)]
  rw[hT,h0];refine V8 H ?_;refine GZ H ?_;replace H:=Js [1,0,0,0] 0 H;refine Jc rfl rfl (N6 p s u v H) ?_;clear H;rintro v w ⟨rfl,H⟩;cases hv:Qg s.tab u v with
  | none=>
   refine Vj H ?_;clear H;intro b11 w H;refine J4 H ?_;clear H;intro w H;refine Bx H ?_;replace H:=Js [1] 4 H;exact Q3 (Jy H rfl fun w' H'=>⟨rfl,H'⟩)
  | some x=>
   obtain⟨k,f⟩:=x;obtain⟨n,rfl,rfl,hk,hh⟩:=ZW hv
   have hok:CY k n:=by
    obtain⟨q,mem,hw,hm,_⟩:=Vv (H.pull 0);exact I6 hw hk
   refine Vj H ?_;clear H;intro b11 w H;refine J4 H ?_;clear H;intro w H;refine E3 H ?_;refine Jv ?_;refine K7 H ?_;refine Gu H ?_;replace H:=Js [1,0,0,0,0] 0 H;refine Jc rfl rfl (NV p s i g place (.obj k n) hok H) ?_;clear H;rintro v w ⟨rfl,H⟩;refine J0 H ?_;replace H:=Js [0] 4 H;exact Q3 (Jy H rfl fun w' H'=>⟨rfl,H'⟩)
 ·have hT:Yk s i g place u v=(s,(Y2 s i g place).2):=by unfold Yk;rw[if_pos h0]
  rw[hT];rw[show ((((Y2 s i g place).2:Nat):Int) != 0)=true by simpa using h0];refine Yi H ?_;replace H:=Js [1] 3 H;exact Q3 (Jy H rfl fun w' H'=>⟨rfl,H'⟩)
theorem bZ [Q4] (p:Nat) (s:CS) (i g place:Int) {w:World} {fr:List Q2} (H:Q0 w (QU p s::fr)) :
  Calls Tryz.prog 158 #[pp p,ZL i g,.int .i64 place] w (ret fun x w'=>x = .int .i64 ((GH s i g place .none).2:Nat)∧Q0 w' (QU p (GH s i g place .none).1::fr)):=by
 refine QV Tryz.func158 rfl (by kernel_rfl) ?_;refine J8 H ?_;clear H;intro b4 w H;refine R5 H ?_;refine Jv ?_;refine Gu H ?_;refine Jc rfl rfl (NV p s i g place .none trivial H.swap) ?_;clear H;rintro v w ⟨rfl,H⟩;refine J0 H ?_;replace H:=Js [0] 1 H;exact Q3 (Jy H rfl fun w' H'=>⟨rfl,H'⟩)
end Go.Proofs.YtbnnnljagkjpiaaGreatDoor
