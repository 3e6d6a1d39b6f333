/- Cells: what is proved on the way: every input of the statement; no condition. Texts joined: RmE KidA RefC RefD ModA ModB ModC ModD ModE TabA. -/
import Derived.Test.YtmjdnljneifpcaaGreatDoorBdd
import Derived.Test.YtmjdnljneifpcaaGreatDoorBdg
import Derived.Test.YtmjdnljneifpcaaGreatDoorBdf
set_option linter.unusedVariables false
set_option linter.unusedSimpArgs false
set_option linter.unusedSectionVars false
namespace Go.Proofs.YtmjdnljneifpcaaGreatDoor
open Go.SL
theorem Eh {g1 g2:List Gr} {g:Gr} (hn:((g1++g::g2).map (·.key)).Nodup) {r:Rf}:mem (g1++g::g2) g.key r↔r∈g.m.map (·.1):=by
 rw[WZ];exact⟨fun h=>h.elim (·.2) fun h=>absurd (RI h) (By hn),fun h => .inl ⟨rfl,h⟩⟩
theorem Ha [Q4] {w:World} {K V:Type} {ek:K→Value} {vv:V→Value} {b:Nat} {m:List (K×V)} {l:List Q2} (H:Q0 w (YL ek vv (.map (some b)) m::l)):Q0 w (mp ek vv b m::l):=H.head fun h hm=>by
 rcases hm with ⟨h,_⟩|⟨b',h,hm⟩
 ·cases h
 ·cases h;exact hm
theorem WX {K V:Type} [DecidableEq K] {m:List (K×V)} {x:K} (h:(QZ m x).isSome=true):x∈m.map (·.1):=by
 cases hf:QZ m x with
 | none=>rw[hf] at h;cases h
 | some v=>exact List.mem_map_of_mem (f:=(·.1)) (Ua hf)
theorem Tk [Q4] (p:Nat) (m:List (Rf×Int)) (hm:m.length≤1000000) (t:Int) {w:World} {fr:List Q2} (H:Q0 w (RS p m::fr)) :
  Calls Tryz.prog 209 #[pp p,.int .i64 t] w (ret fun v w'=>∃ ks,(∀ r,r∈ks↔(r.1=t∧(QZ m r).isSome=true))∧C2 ks∧Q0 w' (QC 133 2 v (ZY ks)::RS p m::fr)):=by
 refine QQ Tryz.func209 rfl (by kernel_rfl) ?_;obtain⟨bt,bo,bf,H⟩:=WG H;refine W7 H ?_;replace H:=Js [3,0,0,0] 0 H;obtain⟨G,hG,H⟩:=EN H;refine Q5 rfl (Zt (key:=t) H rfl rfl VP rfl ?_);have hn0:=KB bf H;have hn:(G.map (·.key)).Nodup:=by rw[← WV];exact hn0
 cases hf:QZ (G.map Zj) t with
 | none=>
  replace H:=LI kp v1 H;refine Jc rfl rfl (Eg none [] (by simp) (by simp) H) ?_;rintro v w ⟨ks,hp,hs,H⟩;refine UX H ?_;have hks:ks=[]:=by simpa using hp
  subst hks;replace H:=Js [2,2,2,2,2,0] 1 H;replace H:=Xj G hG H;replace H:=Js [1,1,1,0,0] 0 H;replace H:=KC bt bo bf (fun _ _=>Iff.rfl) (fun _ _=>Iff.rfl) H;refine Q3 (Jy H.swap rfl fun w' H'=>⟨[],fun r=>?_,hs,H'⟩);have h1:=Rn.1 hf;rw[WV] at h1;exact⟨fun h=>by simp at h,fun h=>absurd (RI ((hG t r).2 h)) h1⟩
 | some bi=>
  obtain⟨g,g1,g2,rfl,rfl,rfl⟩:=EO hf;have H:=(Q0.pick rfl).1 H.swap;have hi:=KB g.blk H
  have hlen:g.m.length≤1000000:=by
   have:=GC hi (l₂:=m.map (·.1)) (fun r hr=>by
    have:=(hG g.key r).1 ((Eh hn).2 hr);exact WX this.2)
   simp at this;omega
  replace H:=Cy H;refine Jc rfl rfl (Eg (some g.blk) g.m hlen hi H) ?_;rintro v w ⟨ks,hp,hs,H⟩;refine UX H ?_;replace H:=Ha H.swap;replace H:=Js [0,1,0,0,0,0,0] 0 H;replace H:=(Q0.pick (R:=RH) (gs:=g1++g::g2) rfl).2 H;replace H:=Js [2,0,1,1,1,0] 0 H;replace H:=Xj (g1++g::g2) hG H;replace H:=Js [1,1,1,0,0] 0 H;replace H:=KC bt bo bf (fun _ _=>Iff.rfl) (fun _ _=>Iff.rfl) H;refine Q3 (Jy H.swap rfl fun w' H'=>⟨ks,fun r=>?_,hs,H'⟩);rw[hp.mem_iff,← hG,Eh hn]
theorem Mf {ks:List Rf} {spare:List Value} {i:Nat} {r:Rf} (h:ks[i]? = some r):QY (ZY ks++spare) (0+i*2) 2 [.int .i64 r.1,.int .i64 r.2]:=by
 have hl:=AI ks;have hi:=(List.getElem?_eq_some_iff.1 h).1;have g:∀ t,(ZY ks)[t]? = (ks[t / 2]?).bind fun x=>(Ef x)[t % 2]? := fun t=>by rw[Ti];exact Fi (k:=2) (fun _=>rfl) (by decide) ks t
 refine .cons ?_ (.cons ?_ (.nil _))
 ·rw[List.getElem?_append_left (by omega),g,show (0+i*2) / 2=i by omega,show (0+i*2) % 2=0 by omega,h];rfl
 ·rw[List.getElem?_append_left (by omega),g,show (0+i*2+1) / 2=i by omega,show (0+i*2+1) % 2=1 by omega,h];rfl
theorem Tl {ks:List Rf} (h:ZY ks=[]):ks=[]:=by
 have:=AI ks;rw[h] at this;exact List.eq_nil_of_length_eq_zero (by simp at this;omega)
theorem Hd:∀ (ks:List Rf) {m:List (Rf×Int)},(m.map (·.1)).Nodup→((ks.foldl QB m).map (·.1)).Nodup
 | [],_,h=>h
 | k::ks,_,h=>Hd ks (Uu h)
theorem Tn [Q4] (p:Nat) (m:List (Rf×Int)) (hn:(m.map (·.1)).Nodup) (hm:m.length≤1000000) (t:Int) {w:World} {fr:List Q2} (H:Q0 w (RS p m::fr)) :
  Calls Tryz.prog 128 #[pp p,.int .i64 t] w (ret fun v w'=>∃ ks,(∀ r,r∈ks↔(r.1=t∧(QZ m r).isSome=true))∧C2 ks∧v = .int .i64 ks.length∧Q0 w' (RS p (ks.foldl QB m)::fr)):=by
 refine QQ Tryz.func128 rfl (by kernel_rfl) ?_;refine Uj H ?_;refine Jc rfl rfl (Tk p m hm t H) ?_;rintro v w ⟨ks,hks,hs,H⟩;refine UX H ?_
 have hlen:ks.length≤1000000:=by
  have hnd:ks.Nodup:=hs.imp fun {a b} h e=>by subst e;unfold Zl at h;omega
  have:=GC hnd (l₂:=m.map (·.1)) fun r hr=>WX ((hks r).1 hr).2;simp at this;omega
 rcases G8 H with ⟨rfl,h0,H2⟩|⟨b,len,cap,spare,rfl,e3,e4,e5,H2⟩ <;> replace H:=H2 <;> clear H2
 ·have:=Tl h0;subst this
  repeat refine Q7 ?_
  refine QG ?_;refine Jv ?_;refine Q5 rfl (ZO rfl rfl ?_);refine Jv ?_;refine Q6 ?_
  repeat refine Q7 ?_
  refine QS ?_;refine Qj (fun ms σ w n=>ms=[]∧σ 12 = .int .i64 0∧σ 13 = .int .i64 0∧σ 5 = .slice none 0 0∧Q0 w (RS p m::fr)) (m:=1) ⟨rfl,rfl,rfl,rfl,H⟩ ?_;clear H;rintro ms σ w n ⟨rfl,h12,h13,h5,H⟩;rw[Q1 h12,Q1 h13,Q1 h5];refine J7 H ?_;refine KQ H ?_;refine Gy H ?_;exact Q3 (Jy H rfl fun w' H'=>⟨[],hks,hs,rfl,H'⟩)
 ·have hl2:len=ks.length:=by rw[AI] at e3;omega
  subst hl2;refine YZ H ?_;refine KX H ?_
  refine Qj (fun ms σ w n=>ms=[]∧∃ i:Nat,i≤ks.length∧n=ks.length - i∧σ 0=pp p∧σ 11 = .slice (some ⟨b,0,none⟩) ks.length cap∧σ 12 = .int .i64 ks.length∧σ 13 = .int .i64 i∧σ 5 = .slice (some ⟨b,0,none⟩) ks.length cap ∧
   Q0 w (RS p ((ks.take i).foldl QB m)::pts b (row 133 (ZY ks++spare))::fr)) (m:=ks.length) ⟨rfl,0,by omega,rfl,rfl,rfl,rfl,rfl,rfl,H.swap⟩ ?_
  clear H;rintro ms σ w n ⟨rfl,i,hi,rfl,h0,h11,h12,h13,h5,H⟩;rw[Q1 h0,Q1 h11,Q1 h12,Q1 h13,Q1 h5];refine J7 H ?_;refine Qf rfl (fun h=>QW ?_) (fun h=>Qp ?_)
  ·have hlt:i < ks.length:=by omega
   have hr:=List.getElem?_eq_getElem hlt;generalize ks[i]=r at hr;obtain⟨a,c⟩:=r;refine YY H ?_;refine Jd ?_;refine Q5 rfl (VH H rfl (Mf hr) rfl ?_);refine VZ H ?_;clear H;intro b7 w H;refine J3 H ?_;clear H;intro w H;refine Q6 ?_;refine Ge H ?_;replace H:=Js [1,1] 1 H;refine Jc rfl rfl (Bz p _ (Hd _ hn) (a,c) H) ?_;clear H;rintro v w ⟨rfl,H⟩;refine Ux H ?_;refine⟨_,⟨rfl,i+1,hlt,rfl,rfl,rfl,rfl,Qb (by omega),rfl,?_⟩,by omega⟩;rw[List.take_add_one,hr];simpa using H
  ·have hge:i=ks.length:=by omega
   subst hge;refine Gy H ?_;rw[List.take_length] at H;exact Q3 (Jy H.swap.drop rfl fun w' H'=>⟨ks,hks,hs,rfl,H'⟩)
end Go.Proofs.YtmjdnljneifpcaaGreatDoor
namespace Go.Proofs.YtmjdnljneifpcaaGreatDoor
open Go.SL
theorem Mg:∀ a b:Int,ki .i64 a=ki .i64 b→a=b:=fun a b h=>by cases h;rfl
def Zm (par:List (Int×Int)) (id k:Int):Bool:=decide (QZ par k=some id)
theorem Mh [Q4] (p last:Nat) (par:List (Int×Int)) (id:Int) (h0:id=0∨(QZ par id).isSome=true) (hl:par.length≤1000) {w:World} {fr:List Q2} (H:Q0 w (Qg p last par::fr)) :
  Calls Tryz.prog 13 #[pp p,.int .i64 id] w (ret fun v w'=>∃ u K,v = .tuple #[u,.int .i64 0]∧K.Perm ((par.map (·.1)).filter (Zm par id))∧K.Pairwise (·≤·)∧Q0 w' (IL u K::Qg p last par::fr)):=by
 have hnd:=MB H;refine QQ Tryz.func13 rfl (by kernel_rfl) ?_;refine X5 H ?_;refine Jc rfl rfl (HI p last par id H) ?_;clear H;rintro v w ⟨rfl,H⟩;refine Y1 H ?_;refine Qn (fun ms σ w=>ms=[]∧σ 22 = .bool false∧σ 0=pp p∧σ 1 = .int .i64 id∧Q0 w (Qg p last par::fr)) ?_ ?_
 ·cases hf:(QZ par id).isSome with
  | true=>
   refine Vh H ?_;refine Kx H ?_;refine Kv H ?_;refine Qu rfl rfl rfl ?_;refine J0 H ?_;exact⟨rfl,rfl,rfl,rfl,rfl,H⟩
  | false=>
   obtain rfl:id=0:=by
    rcases h0 with h|h
    ·exact h
    ·rw[hf] at h;cases h
   refine Vh H ?_;refine Yp H ?_;refine Qe rfl rfl rfl (Gc rfl rfl (.inl rfl) rfl ?_);refine Zg H ?_;refine Zg H ?_;refine J0 H ?_;exact⟨rfl,rfl,rfl,rfl,rfl,H⟩
 clear H;rintro ms σ w ⟨rfl,g22,g0,g1,H⟩;rw[Q1 g22,Q1 g0,Q1 g1];refine KK H ?_;obtain⟨b,H⟩:=KD H;refine Ya H ?_;replace H:=Cy H.swap;refine Q5 rfl (FN (ki .i64) v1 H rfl rfl ?_);clear H;intro bi w H;refine BW H ?_;refine Vy (fun ms σ w=>ms=[]∧∃ (u:Value) (K:List Int),σ 7=u∧K.Perm ((par.map (·.1)).filter (Zm par id))∧Q0 w (IL u K::Qg p last par::fr)) ?_ ?_
 ·refine QS ?_;refine Qj (fun ms σ w n=>ms=[]∧∃ (ks:List Int) (u:Value),ks.length≤par.length∧n=par.length - ks.length∧σ 1 = .int .i64 id∧σ 7=u∧σ 28=pp bi∧Q0 w (IL u (ks.filter (Zm par id))::K0 (ki .i64) v1 (.map (some b)) par bi ks::pts p (row 122 [.map (some b),.int .i64 last])::fr)) (m:=par.length) ⟨rfl,[],_,by simp,rfl,rfl,rfl,rfl,Yu H⟩ ?_;clear H;rintro ms σ w n ⟨rfl,ks,u,hkl,rfl,g1,g7,g28,H⟩;obtain⟨au,mu,cu,rfl⟩:=Qq H;rw[Q1 g1,Q1 g7,Q1 g28];refine GZ H ?_;refine Q5 rfl (FO H.swap Mg rfl rfl (fun hp w H=>?_) (fun q hq hn hnd2 hsub w H=>?_))
  ·refine Y1 H ?_;refine KQ H ?_;replace H:=Ha (FM H);replace H:=Js [1,1,0] 0 H;have H2:Q0 w (Qg p last par::IL (.slice au mu cu) (ks.filter (Zm par id))::fr):=Xk (by replace H:=Q0.sel [1,1,0] 0 H;dsimp only[SL.sel,SL.pull,List.drop] at H;exact H);exact .inl ⟨rfl,rfl,_,_,rfl,hp.filter _,H2.swap⟩
  ·have hlt:ks.length < par.length:=by
    have h1:(ks++[q.1]).Nodup:=by
     rw[List.nodup_append];exact⟨hnd2,by simp,fun c hc c' hc' e0=>by simp at hc';subst hc';subst e0;exact hn hc⟩
    have h2:=GC h1 (l₂:=par.map (·.1)) (fun z hz=>by
     rcases List.mem_append.1 hz with hz|hz
     ·exact hsub z hz
     ·simp at hz;subst hz;exact List.mem_map.2 ⟨q,hq,rfl⟩)
    simp at h2;omega
   have hfq:QZ par q.1=some q.2:=(Yh hnd).2 hq;refine Y1 H ?_;refine XT H ?_;refine QS ?_;refine GZ H ?_;refine Q5 rfl (FP H Mg hq rfl rfl ?_);refine A5 H ?_;obtain⟨k,t⟩:=q;refine V8 H ?_;by_cases ht:t=id
   ·have hk:Zm par id k=true:=by unfold Zm;rw[hfq,ht];simp
    rw[show (t == id)=true by simpa using ht];refine VD H ?_;refine Da H ?_;clear H;intro b39 w H;replace H:=Js [2,0,0,0] 0 H;have hle:=List.length_filter_le (Zm par id) ks;refine Q5 rfl (YC H rfl rfl (by repeat first|exact .nil _|apply QY.cons rfl) rfl (by decide) (by rw[Vc];simp only[List.length_cons,List.length_nil];omega) rfl rfl ?_);clear H;intro v40 w H;obtain⟨a40,m40,c40,rfl⟩:=Qq H;refine J0 H ?_;replace H:=Js [0,1,1] 1 H;refine⟨_,⟨rfl,ks++[k],_,by simp;omega,rfl,rfl,rfl,rfl,?_⟩,by simp;omega⟩;rw[List.filter_append,show [k].filter (Zm par id)=[k] by simp[hk]];show Q0 w (QC _ 1 _ (Qc (ks.filter (Zm par id)++[k]))::_);rw[AH];exact H
   ·have hk:Zm par id k=false:=by unfold Zm;rw[hfq];simp;exact ht
    rw[show (t == id)=false by simpa using ht];refine V5 H ?_;refine⟨_,⟨rfl,ks++[k],.slice au mu cu,by simp;omega,rfl,rfl,rfl,rfl,?_⟩,by simp;omega⟩;rw[List.filter_append,show [k].filter (Zm par id)=[] by simp[hk],List.append_nil];replace H:=Js [1,0,0] 0 H;exact H
 ·clear H;rintro ms σ w ⟨rfl,u,K,g7,hK,H⟩
  have hKl:K.length≤1000:=by
   have h1:=hK.length_eq;have h2:=List.length_filter_le (Zm par id) (par.map (·.1));simp at h2;omega
  obtain⟨au,cu,rfl⟩:=QD H (Vc K) (by decide);rw[Q1 g7];refine YZ H ?_;refine Jc rfl rfl (Ed _ K (by omega) H) ?_;clear H;rintro v w ⟨rfl,H⟩;refine Ry H ?_;refine Q3 (Jy H rfl fun w' H'=>⟨_,_,rfl,(List.mergeSort_perm K _).trans hK,?_,H'⟩);have:=List.pairwise_mergeSort (le:=fun x y:Int=>decide (x≤y)) (fun a b c h1 h2=>by simp at *;omega) (fun a b=>by simp;omega) K;exact this.imp (fun h=>by simpa using h)
end Go.Proofs.YtmjdnljneifpcaaGreatDoor
namespace Go.Proofs.YtmjdnljneifpcaaGreatDoor
open Go.SL
theorem He [Q4] (va vb:Value) (a b:List Int) (hl:a.length≤1000000) {w:World} {fr:List Q2} (H:Q0 w (IL va a::IL vb b::fr)) :
  Calls Tryz.prog 24 #[va,vb] w (ret fun v w'=>v = .bool (decide (a=b))∧Q0 w' (IL va a::IL vb b::fr)):=by
 obtain⟨aa,ca,rfl⟩:=QD H (Vc a) (by decide);obtain⟨ab,cb,rfl⟩:=QD H.drop (Vc b) (by decide);refine QQ Tryz.func24 rfl (by kernel_rfl) ?_;refine Ky H ?_;refine D7 H ?_;refine UK H ?_;by_cases hlen:a.length=b.length
 ·rw[show ((a.length:Int) != (b.length:Int))=false by simp;omega];refine V5 H ?_;refine Wr H ?_;refine Qj (fun ms σ w q=>ms=[]∧∃ i:Nat,i≤a.length∧q=a.length - i∧a.take i=b.take i∧σ 0 = .slice aa a.length ca∧σ 1 = .slice ab b.length cb∧σ 5 = .int .i64 i∧Q0 w (IL (.slice aa a.length ca) a::IL (.slice ab b.length cb) b::fr)) (m:=a.length) ⟨rfl,0,by omega,rfl,by simp,rfl,rfl,rfl,H⟩ ?_;clear H;rintro ms σ w q ⟨rfl,i,hi,rfl,heq,g0,g1,g5,H⟩;rw[Q1 g0,Q1 g1,Q1 g5];refine KZ H ?_;refine Qf rfl (fun h=>QW ?_) (fun h=>Qp ?_)
  ·have hlt:i < a.length:=by omega
   have hlt2:i < b.length:=by omega
   have hx:=List.getElem?_eq_getElem hlt;have hy:=List.getElem?_eq_getElem hlt2;generalize a[i]=x at hx;generalize b[i]=y at hy;obtain⟨ba,sa,rfl,H,hca⟩:=Qx H (by omega);obtain⟨bb,sb,rfl,H,hcb⟩:=Qx H.swap (by omega)
   have c1:(Qc a++sa)[0+i*1]? = some (.int .i64 x):=by
    rw[Nat.zero_add,Nat.mul_one,List.getElem?_append_left (by simpa [Qc] using hlt)];simp[Qc,hx]
   have c2:(Qc b++sb)[0+i*1]? = some (.int .i64 y):=by
    rw[Nat.zero_add,Nat.mul_one,List.getElem?_append_left (by simpa [Qc] using hlt2)];simp[Qc,hy]
   refine Bh H ?_;clear H;intro w H;refine Ja 0 ?_;refine Ja 1 ?_;refine Ji 2 ?_;refine Vf 3 [] H rfl (Q8.none rfl) rfl c1 (by kernel_rfl) ?_;refine Ug H ?_;refine Ji 6 ?_;refine Vf 7 [] H rfl (Q8.none rfl) rfl c2 (by kernel_rfl) ?_;refine X6 H ?_;replace H:=hcb _ _ H;replace H:=hca _ _ H.swap;by_cases hxy:x=y
   ·rw[show (x != y)=false by simpa using hxy];refine A0 H ?_;refine⟨_,⟨rfl,i+1,hlt,rfl,?_,rfl,rfl,Qb (by omega),H⟩,by omega⟩;rw[List.take_add_one,List.take_add_one,hx,hy,heq,hxy]
   ·rw[show (x != y)=true by simpa using hxy];refine YG H ?_;refine Q3 (Jy H rfl fun w' H'=>⟨?_,H'⟩)
    have hne:a≠b:=by
     rintro rfl;rw[hx] at hy;injection hy with hy
     exact hxy hy
    rw[decide_eq_false hne];rfl
  ·have hge:i=a.length:=by omega
   subst hge;rw[List.take_length,hlen,List.take_length] at heq;refine VC H ?_;exact Q3 (Jy H rfl fun w' H'=>⟨by rw[decide_eq_true heq];rfl,H'⟩)
 ·rw[show ((a.length:Int) != (b.length:Int))=true by simp;omega];refine YG H ?_;refine Q3 (Jy H rfl fun w' H'=>⟨?_,H'⟩);have hne:a≠b:=by rintro rfl;exact hlen rfl
  rw[decide_eq_false hne];rfl
theorem To [Q4] (v:Value) (ws:List Nat) (hws:∀ x∈ws,x < 18446744073709551616) {w:World} {fr:List Q2} (hr:Vm fr v ws.length 1 (QP ws)) (H:Q0 w fr) :
  Calls Tryz.prog 228 #[v] w (ret fun r w'=>(ZV ws=none∧r = .tuple #[Yr 0 (.slice none 0 0) 0 (.slice none 0 0),.bool false]∧Q0 w' fr) ∨
   ∃ l vr vq,ZV ws=some l∧r = .tuple #[Yr l.fixed vr l.record vq,.bool true]∧Q0 w' (NL vr l.refs::NL vq l.recs::fr)):=by
 obtain⟨_,ad,cap,rfl,hr'⟩:=id hr;refine QQ Tryz.func228 rfl (by kernel_rfl) ?_;refine YO H ?_;clear H;intro b2 w H;refine DV H ?_;refine D7 H ?_;by_cases h3:ws.length=3
 ·obtain⟨x,y,z,rfl⟩:∃ x y z,ws=[x,y,z]:=by
   match ws,h3 with
   | [x,y,z],_=>exact⟨x,y,z,rfl⟩
  have hx:=hws x (by simp);have hy:=hws y (by simp);have hz:=hws z (by simp)
  rcases hr' with h|⟨b,o,E,fz,c,rfl,hA,hrd⟩
  ·cases h
  haveI:=hA;have c0:c[o+0*1]? = some (.int .u64 x):=by have:=hrd.get 0 (.int .u64 x) (by simp[QP]);simpa using this
  have c1:c[o+1*1]? = some (.int .u64 y):=by have:=hrd.get 1 (.int .u64 y) (by simp[QP]);simpa using this
  have c2:c[o+2*1]? = some (.int .u64 z):=by have:=hrd.get 2 (.int .u64 z) (by simp[QP]);simpa using this
  rw[show ((([x,y,z]:List Nat).length:Int) != 3)=false from rfl];refine Wp H ?_;refine Qe rfl rfl rfl (Gs rfl rfl (by omega) (by show (0:Int) < (3:Nat);omega) rfl ?_);refine Qe rfl rfl rfl (QA H rfl c0 rfl ?_);refine Yp H ?_;by_cases hb:x < 65536
  ·rw[show decide ((x:Int)≥65536)=false from decide_eq_false (by omega)];refine Y0 H ?_;have m8:Int.tmod (x:Int) 256=((x % 256:Nat):Int):=by rw[Int.tmod_eq_emod_of_nonneg (by omega)];omega
   have q8:IntKind.u64.wrap (Int.tdiv (x:Int) 256)=((x / 256:Nat):Int):=by
    rw[Int.tdiv_eq_ediv_of_nonneg (by omega),show (x:Int) / 256=((x / 256:Nat):Int) by omega,UY (by omega)]
   have w8:IntKind.i64.wrap ((x % 256:Nat):Int)=((x % 256:Nat):Int):=K1 (by omega);have v8:IntKind.i64.wrap ((x / 256:Nat):Int)=((x / 256:Nat):Int):=K1 (by omega);refine J8 H ?_
   refine Vy (fun ms σ w=>ms=[]∧∃ b4 va vb,σ 2=pp b2∧σ 4=pp b4 ∧
    Q0 w (pts b4 (row 102 [.int .i64 ((x % 256:Nat):Int),va,.int .i64 ((x / 256:Nat):Int),vb])::NL va (VN y 64)::NL vb (VN z 64)::pts b2 (row 102 [.int .i64 0,.slice none 0 0,.int .i64 0,.slice none 0 0])::fr)) ?_ ?_
   ·refine J1 H ?_;clear H;intro w H;refine Ja 0 ?_;refine Kj 1 rfl (Q8.none rfl) rfl rfl (by omega) (by show (0:Int) < (3:Nat);omega) (by kernel_rfl) ?_;refine Vf 2 [20] H rfl (Q8.none rfl) rfl c0 (by kernel_rfl) ?_;refine Ja 3 ?_;refine Gt 4 rfl (Q8.none rfl) rfl (by kernel_rfl) ?_;refine Ja 5 ?_;refine Kj 6 rfl (Q8.none rfl) rfl rfl (by omega) (by show (1:Int) < (3:Nat);omega) (by kernel_rfl) ?_;refine Vf 7 [8] H rfl (Q8.none rfl) rfl c1 (by kernel_rfl) ?_;refine Ja 9 ?_;refine Kj 10 rfl (Q8.none rfl) rfl rfl (by omega) (by show (0:Int) < (3:Nat);omega) (by kernel_rfl) ?_;refine Vf 11 [20] H rfl (Q8.none rfl) rfl c0 (by kernel_rfl) ?_;refine Ja 12 ?_;refine Gt 13 rfl (Q8.none rfl) rfl (by kernel_rfl) ?_;refine Ja 14 ?_;refine Kj 15 rfl (Q8.none rfl) rfl rfl (by omega) (by show (2:Int) < (3:Nat);omega) (by kernel_rfl) ?_;refine Vf 16 [17] H rfl (Q8.none rfl) rfl c2 (by kernel_rfl) ?_;rw[m8,q8,w8,v8];refine Jw 8 19 H rfl rfl (V2 (a:=[]) (b:=[]) rfl rfl (call (Bx y hy H) ?_)) (Vu H rfl ?_)
    ·clear H;intro va w H;obtain⟨aa,ma,ca,rfl⟩:=Qq H;refine Jw 17 19 H rfl rfl (V2 (a:=[]) (b:=[]) rfl rfl (call (Bx z hz H) ?_)) (Vu H rfl ?_)
     ·clear H;intro vb w H;obtain⟨ab,mb,cb,rfl⟩:=Qq H;refine G9 18 rfl (Q8.none rfl) rfl (by kernel_rfl) ?_;refine Jo 19 H ?_;refine Vu H rfl ?_;clear H;intro b4 w H;refine Jo 20 H ?_;refine Gx H ?_;clear H;intro w H;refine Jx H ?_;replace H:=Js [0,1,0,0] 0 H;exact .inl ⟨rfl,rfl,b4,_,_,rfl,rfl,H⟩
     ·clear H;intro b4 w H;refine Jo 17 H ?_;refine Jk rfl rfl (Bx z hz H) ?_;clear H;intro vb w H;obtain⟨ab,mb,cb,rfl⟩:=Qq H;refine G9 18 rfl (Q8.none rfl) rfl (by kernel_rfl) ?_;refine Jo 20 H ?_;refine Gx H ?_;clear H;intro w H;refine Jx H ?_;replace H:=Js [1,1,0,0] 0 H;exact .inl ⟨rfl,rfl,b4,_,_,rfl,rfl,H⟩
    ·clear H;intro b4 w H;refine Jo 8 H ?_;refine Jk rfl rfl (Bx y hy H) ?_;clear H;intro va w H;obtain⟨aa,ma,ca,rfl⟩:=Qq H;refine Jo 17 H ?_;refine Jk rfl rfl (Bx z hz H) ?_;clear H;intro vb w H;obtain⟨ab,mb,cb,rfl⟩:=Qq H;refine G9 18 rfl (Q8.none rfl) rfl (by kernel_rfl) ?_;refine Jo 20 H ?_;refine Gx H ?_;clear H;intro w H;refine Jx H ?_;replace H:=Js [2,1,0,0] 0 H;exact .inl ⟨rfl,rfl,b4,_,_,rfl,rfl,H⟩
   ·clear H;rintro ms σ w ⟨rfl,b4,va,vb,g2,g4,H⟩;rw[Q1 g2,Q1 g4];have hla:=AB y 64;have hlb:=AB z 64;obtain⟨aa,ca,rfl⟩:=QD (H.drop) (QF (VN y 64)) (by decide);obtain⟨ab,cb,rfl⟩:=QD (H.drop.drop) (QF (VN z 64)) (by decide);refine GQ H ?_;replace H:=Js [1,1,0,0] 0 H;obtain⟨D1,H,hD1,hC1⟩:=sls_rd H (QF (VN y 64)) (by decide);obtain⟨D2,H,hD2,hC2⟩:=sls_rd H.swap (QF (VN z 64)) (by decide);refine Jc rfl rfl (MU _ _ (RX x y z) ⟨by show x % 256≤_;omega,by show x / 256≤_;omega,by show (VN y 64).length≤_;omega,by show (VN z 64).length≤_;omega⟩ ⟨(hD1 _).there,hD2 _⟩ H) ?_;clear H;rintro v w ⟨⟨q,rfl,hq⟩,H⟩;have H:=(hC1 _ _ (hC2 _ _ H).swap);refine J0 H ?_;cases q with
    | true=>
     refine Gu H ?_;refine K5 H ?_;clear H;intro w H;refine J0 H ?_;replace H:=Js [3,0,0] 1 H;refine Q3 (Jz H (fun w' H' => .cellN H' rfl (by repeat first|exact .nil _|apply QY.cons rfl) (.tmp .nil)) fun w' H' => .inr ⟨RX x y z,_,_,?_,rfl,H'.drop⟩);rw[AC,if_pos ⟨hb,hq.1 rfl⟩]
    | false=>
     refine J4 H ?_;refine BK H ?_;clear H;intro w H;refine J0 H ?_;replace H:=Js [3] 3 H;refine Q3 (Jz H (fun w' H' => .cellN H' rfl (by repeat first|exact .nil _|apply QY.cons rfl) (.tmp .nil)) fun w' H' => .inl ⟨?_,rfl,H'.drop⟩);rw[AC,if_neg];rintro⟨_,h2⟩;have:=hq.2 h2;cases this
  ·rw[show decide ((x:Int)≥65536)=true from decide_eq_true (by omega)];refine A1 H ?_;clear H;intro w H;refine J0 H ?_;refine Q3 (Jz H (fun w' H' => .cellN H' rfl (by repeat first|exact .nil _|apply QY.cons rfl) (.tmp .nil)) fun w' H' => .inl ⟨?_,rfl,H'.drop⟩);rw[AC,if_neg];rintro⟨h1,_⟩;exact hb h1
 ·have hd:ZV ws=none:=by
   match ws with
   | []=>rfl
   | [_]=>rfl
   | [_,_]=>rfl
   | [_,_,_]=>exact absurd rfl h3
   | _::_::_::_::_=>rfl
  rw[show ((ws.length:Int) != 3)=true by simp;omega];refine DT H ?_;refine A1 H ?_;clear H;intro w H;refine J0 H ?_;exact Q3 (Jz H (fun w' H' => .cellN H' rfl (by repeat first|exact .nil _|apply QY.cons rfl) (.tmp .nil)) fun w' H' => .inl ⟨hd,rfl,H'.drop⟩)
end Go.Proofs.YtmjdnljneifpcaaGreatDoor
namespace Go.Proofs.YtmjdnljneifpcaaGreatDoor
open Go.SL
def Vr (P:List Int) (id:Int):Bool:=decide (0 < id∧id < P.length∧0≤P.getD id.toNat 0)
def Un (P:List Int) (f:Int→Bool) (k:Nat):List Nat:=(List.range k).filter fun i=>decide (1≤i) && f (P.getD i 0)
def ZC (P:List Int):List Nat:=Un P (fun q=>decide (0≤q)) P.length
theorem Tp (P:List Int) (f:Int→Bool) (k:Nat) (hk:1≤k):Un P f (k+1)=Un P f k++if f (P.getD k 0) then [k] else []:=by
 unfold Un;rw[List.range_succ,List.filter_append];congr 1;simp only[List.filter_cons,List.filter_nil,decide_eq_true hk,Bool.true_and]
theorem Tq (P:List Int) (f:Int→Bool):Un P f 1=[]:=rfl
theorem Tr (P:List Int) (f:Int→Bool) (k:Nat):(Un P f k).length≤k:=by
 have:=List.length_filter_le (fun i=>decide (1≤i) && f (P.getD i 0)) (List.range k);simpa [Un] using this
theorem Mi {P:List Int} {f:Int→Bool} {k i:Nat}:i∈Un P f k↔i < k∧1≤i∧f (P.getD i 0)=true:=by
 unfold Un;simp[List.mem_filter]
theorem Ts (P:List Int) (f:Int→Bool) (k:Nat):(Un P f k).Pairwise (· < ·):=List.Pairwise.filter _ List.pairwise_lt_range
def VS (p:Nat) (P:List Int):Q2:=ex fun v:Value=>star [pts p (row 161 [v]),IL v P]
theorem KI [Q4] {w:World} {p:Nat} {P:List Int} {l:List Q2} (H:Q0 w (VS p P::l)):∃ a c,Q0 w (pts p (row 161 [.slice a P.length c])::IL (.slice a P.length c) P::l):=by
 obtain⟨v,H⟩:=Q0.ex.1 H;have H:=Q0.star.1 H;obtain⟨a,c,rfl⟩:=QD H.drop (Vc P) (by decide);exact⟨a,c,H⟩
theorem GD [Q4] {w:World} {p:Nat} {P:List Int} {v:Value} {l:List Q2} (H:Q0 w (pts p (row 161 [v])::IL v P::l)):Q0 w (VS p P::l):=
 Q0.ex.2 ⟨v,Q0.star.2 H⟩
theorem Tt [Q4] {w:World} {fr:List Q2} (H:Q0 w fr):Calls Tryz.prog 159 #[] w (ret fun v w'=>∃ p,v=pp p∧Q0 w' (VS p [-1]::fr)):=by
 refine QQ Tryz.func159 rfl (by kernel_rfl) ?_;refine BS H ?_;refine GG H ?_;clear H;intro b1 w H;refine Uv H ?_;clear H;intro b3 w H;refine J0 H ?_;have H:=Ue (len:=1) (k:=1) (by rfl) H.swap;exact Q3 (Jy H.swap rfl fun w' H'=>⟨_,rfl,GD (P:=[-1]) H'⟩)
theorem AN {P:List Int} {s:List Value} {i:Nat} (h:i < P.length):(Qc P++s)[0+i*1]? = some (.int .i64 (P.getD i 0)):=by
 rw[Nat.zero_add,Nat.mul_one,List.getElem?_append_left (by simpa [Qc] using h)];simp[Qc,h]
theorem WK [Q4] (p:Nat) (P:List Int) (id:Int) {w:World} {fr:List Q2} (H:Q0 w (VS p P::fr)) :
  Calls Tryz.prog 21 #[pp p,.int .i64 id] w (ret fun v w'=>v = .bool (Vr P id)∧Q0 w' (VS p P::fr)):=by
 obtain⟨a,c,H⟩:=KI H;refine QQ Tryz.func21 rfl (by kernel_rfl) ?_;refine Uj H ?_;by_cases h1:id > 0
 ·rw[show decide (id > 0)=true from decide_eq_true (by omega)];refine KY H ?_;by_cases h2:id < (P.length:Int)
  ·rw[show decide (id < (P.length:Int))=true from decide_eq_true (by omega)];obtain⟨k,rfl⟩:∃ k:Nat,id=k:=⟨id.toNat,by omega⟩;obtain⟨b,s,rfl,H,hclose⟩:=Qx H.swap (by omega);have hc:=AN (P:=P) (s:=s) (i:=k) (by omega);refine Du H ?_;refine Qe rfl rfl rfl (Gs rfl rfl (by omega) (by omega) rfl ?_);refine Qe rfl rfl rfl (QA H rfl hc rfl ?_);refine XO H ?_;replace H:=(hclose _ _ H).swap;refine Q3 (Jy (GD H) rfl fun w' H'=>⟨?_,H'⟩);show Value.bool (decide (P.getD k 0≥0))=_;unfold Vr;congr 1;rw[decide_eq_decide,Int.toNat_natCast];exact⟨fun h=>⟨h1,h2,h⟩,fun h=>h.2.2⟩
  ·rw[show decide (id < (P.length:Int))=false from decide_eq_false (by omega)];refine Dv H ?_;refine J2 H ?_;refine Q3 (Jy (GD H) rfl fun w' H'=>⟨?_,H'⟩);show Value.bool false=_;unfold Vr;rw[decide_eq_false (fun h=>h2 h.2.1)]
 ·rw[show decide (id > 0)=false from decide_eq_false (by omega)];refine BJ H ?_;refine Dv H ?_;refine J2 H ?_;refine Q3 (Jy (GD H) rfl fun w' H'=>⟨?_,H'⟩);show Value.bool false=_;unfold Vr;rw[decide_eq_false (fun h=>h1 h.1)]
theorem Mj [Q4] (p:Nat) (P:List Int) (hl:P.length≤1000000) {w:World} {fr:List Q2} (H:Q0 w (VS p P::fr)) :
  Calls Tryz.prog 42 #[pp p] w (ret fun v w'=>Q0 w' (NL v (ZC P)::VS p P::fr)):=by
 refine QQ Tryz.func42 rfl (by kernel_rfl) ?_;refine DS H ?_;refine Qj (fun ms σ w n=>ms=[]∧∃ (i:Nat) (g:Value),1≤i∧(i≤P.length∨i=1)∧n=P.length - i∧σ 0=pp p∧σ 3=g∧σ 4 = .int .i64 i∧Q0 w (NL g (Un P (fun q=>decide (0≤q)) i)::VS p P::fr)) (m:=P.length - 1) ⟨rfl,1,_,by omega,.inr rfl,rfl,rfl,rfl,rfl,Yu H⟩ ?_;clear H;rintro ms σ w n ⟨rfl,i,g,hi1,hi2,rfl,g0,g3,g4,H⟩;obtain⟨ag,mg,cg,rfl⟩:=Qq H;obtain⟨a,c,H⟩:=KI H.swap;rw[Q1 g0,Q1 g3,Q1 g4];refine KR H ?_;refine Qf rfl (fun h=>QW ?_) (fun h=>Qp ?_)
 ·have hlt:i < P.length:=by omega
  obtain⟨b,s,rfl,H,hclose⟩:=Qx H.swap (by omega);have hc:=AN (P:=P) (s:=s) (i:=i) (by omega);have hnx:=Tp P (fun q=>decide (0≤q)) i hi1;generalize P.getD i 0=y at hc hnx;refine Wx H ?_;refine Jd ?_;refine Q5 rfl (QA H rfl hc rfl ?_);refine J0 H ?_;replace H:=GD (hclose _ _ H).swap;refine J8 H ?_;refine Qf rfl (fun h=>?_) (fun h=>QW ?_)
  ·rw[if_pos (by simpa using h)] at hnx;refine Da H ?_;clear H;intro b24 w H;replace H:=Js [2,0,0] 0 H;refine Q5 rfl (YC H rfl rfl (by repeat first|exact .nil _|apply QY.cons rfl) rfl (by decide) (by rw[QF];have:=Tr P (fun q=>decide (0≤q)) i;simp only[List.length_cons,List.length_nil];omega) rfl rfl ?_);clear H;intro v25 w H;obtain⟨a25,m25,c25,rfl⟩:=Qq H;refine BO H ?_;replace H:=Js [0,1] 1 H;refine⟨_,⟨rfl,i+1,_,by omega,.inl hlt,rfl,rfl,rfl,Qb (by omega),?_⟩,by omega⟩;rw[hnx];show Q0 w (QC _ 1 _ (QK (_++[i]))::_);rw[W9];exact H
  ·rw[if_neg (by simpa using h),List.append_nil] at hnx;refine V8 H ?_;exact⟨_,⟨rfl,i+1,_,by omega,.inl hlt,rfl,rfl,rfl,Qb (by omega),by rw[hnx];exact H.swap⟩,by omega⟩
 ·have he:Un P (fun q=>decide (0≤q)) i=ZC P:=by
   unfold ZC
   rcases hi2 with h1|rfl
   ·rw[show i=P.length by omega]
   ·rw[Tq]
    symm
    rw[List.eq_nil_iff_forall_not_mem];intro x hx;have:=Mi.1 hx;omega
  rw[he] at H;refine J4 H ?_;have H:=(GD H).swap;exact Q3 (Jy H rfl fun w' H'=>H')
def Z1 (P:List Int) (parent:Int):Nat:=if parent≠0∧Vr P parent=false then 6 else if 64≤(ZC P).length then 5 else 0
theorem Mk [Q4] (p:Nat) (P:List Int) (parent:Int) (hl:P.length≤100000) (h1:1≤P.length) {w:World} {fr:List Q2} (H:Q0 w (VS p P::fr)) :
  Calls Tryz.prog 178 #[pp p,.int .i64 parent] w (ret fun v w'=>(Z1 P parent≠0∧v = .tuple #[.int .i64 0,.int .i64 (Z1 P parent)]∧Q0 w' (VS p P::fr)) ∨
   (Z1 P parent=0∧v = .tuple #[.int .i64 P.length,.int .i64 0]∧Q0 w' (VS p (P++[parent])::fr))):=by
 refine QQ Tryz.func178 rfl (by kernel_rfl) ?_;refine X5 H ?_;refine Jc rfl rfl (WK p P parent H) ?_;clear H;rintro v w ⟨rfl,H⟩;generalize hlv:Vr P parent=lv;refine Y1 H ?_;refine Qn (fun ms σ w=>ms=[]∧(∃ q,σ 16 = .bool q∧(q=true↔parent≠0∧Vr P parent=false))∧σ 0=pp p∧σ 1 = .int .i64 parent∧Q0 w (VS p P::fr)) ?_ ?_
 ·refine J5 H ?_;by_cases h0:parent=0
  ·rw[show (parent != 0)=false by simpa using h0];refine Jv ?_;refine Kw H ?_;refine J0 H ?_;exact⟨rfl,rfl,⟨false,rfl,by simp[h0]⟩,rfl,rfl,H⟩
  ·rw[show (parent != 0)=true by simpa using h0];refine XP H ?_;refine J0 H ?_;exact⟨rfl,rfl,⟨!lv,rfl,by simp[h0,hlv]⟩,rfl,rfl,H⟩
 clear H;rintro ms σ w ⟨rfl,⟨q,g16,hq⟩,g0,g1,H⟩;rw[Q1 g16,Q1 g0,Q1 g1];cases q with
 | true=>
  have he:Z1 P parent=6:=by unfold Z1;rw[if_pos (hq.1 rfl)]
  refine Yj H ?_;exact Q3 (Jy H rfl fun w' H' => .inl ⟨by omega,by rw[he];rfl,H'⟩)
 | false=>
  have hq':¬ (parent≠0∧Vr P parent=false):=fun h=>by have:=hq.2 h;cases this
  refine Wv H ?_;refine Jc rfl rfl (Mj p P (by omega) H) ?_;clear H;intro v w H;obtain⟨aa,ca,rfl⟩:=QD H (QF _) (by decide);refine DL H ?_;by_cases h64:64≤(ZC P).length
  ·have he:Z1 P parent=5:=by unfold Z1;rw[if_neg hq',if_pos h64]
   rw[show decide (((ZC P).length:Int)≥64)=true from decide_eq_true (by omega)];refine Yj H ?_;exact Q3 (Jy H.drop rfl fun w' H' => .inl ⟨by omega,by rw[he];rfl,H'⟩)
  ·have he:Z1 P parent=0:=by unfold Z1;rw[if_neg hq',if_neg h64]
   rw[show decide (((ZC P).length:Int)≥64)=false from decide_eq_false (by omega)];refine V5 H ?_;replace H:=H.drop;obtain⟨a,c,H⟩:=KI H;refine Be H ?_;refine GG H ?_;clear H;intro b28 w H;replace H:=Js [2,0,0] 0 H;refine Q5 rfl (YC H rfl rfl (by repeat first|exact .nil _|apply QY.cons rfl) rfl (by decide) (by rw[Vc];simp only[List.length_cons,List.length_nil];omega) rfl rfl ?_);clear H;intro v29 w H;have e1:Qc P++[.int .i64 parent]=Qc (P++[parent]):=by rw[AH];rfl
   rw[e1] at H;obtain⟨a29,c29,rfl⟩:=QD H (Vc _) (by decide);refine GU H ?_;clear H;intro w H;refine Q6 ?_;refine DN H ?_;refine Wy H ?_;replace H:=Js [2,0] 1 H;refine Q3 (Jy (GD H) rfl fun w' H' => .inr ⟨he,?_,H'⟩);show Value.tuple #[.int .i64 (IntKind.i64.wrap (((P++[parent]).length:Int) - 1)),_]=_;rw[show (P++[parent]).length=P.length+1 by simp,QT (by omega) (by omega),show (((P.length+1:Nat):Int)) - 1=(P.length:Int) by omega];rfl
end Go.Proofs.YtmjdnljneifpcaaGreatDoor
namespace Go.Proofs.YtmjdnljneifpcaaGreatDoor
open Go.SL
structure QI where
 region:Nat
 lay:Nat
 count:Nat
 w:List Nat
 kind:List Nat
 to:List Nat
 held:Bool
 pinned:Bool
 gone:Bool
structure MS where
 P:List Int
 lays:List QJ
 objs:List QI
structure Gj (lays:List QJ) (n:Nat) (x:QI):Prop where
 lay:∃ l,lays[x.lay - 1]? = some l∧VO l∧V6 l x.count=(x.w.length,0)
 lay1:1≤x.lay
 kind:x.kind.length=x.w.length
 to:x.to.length=x.w.length
 goes:∀ p,x.kind[p]? = some 2→x.to.getD p 0 < n
structure V4 (m:MS):Prop where
 P:1≤m.P.length∧m.P.length≤100000
 lays:m.lays.length≤64∧∀ l∈m.lays,VO l
 objs:∀ x∈m.objs,Gj m.lays m.objs.length x
 few:m.objs.length≤100000
def Vl (m:MS) (x:QI):QJ:=(m.lays[x.lay - 1]?).getD ⟨0,[],0,[]⟩
theorem Tu {lays:List QJ} {P:List Int} {os:List QI} {n:Nat} {x:QI} (h:Gj lays n x):lays[x.lay - 1]? = some (Vl ⟨P,lays,os⟩ x)∧VO (Vl ⟨P,lays,os⟩ x)∧V6 (Vl ⟨P,lays,os⟩ x) x.count=(x.w.length,0):=by
 obtain⟨l,h1,h2,h3⟩:=h.lay;have:Vl ⟨P,lays,os⟩ x=l:=by unfold Vl;rw[h1];rfl
 rw[this];exact⟨h1,h2,h3⟩
structure OC where
 ptr:Nat
 vw:Value
 vk:Value
 vt:Value
 ob:QI
@[reducible] def Xm (vw vk vt:Value) (x:QI):Obj:=row 76 [.int .i64 x.region,.int .i64 x.lay,.int .i64 x.count,vw,vk,vt,.bool x.held,.bool x.pinned,.bool x.gone]
@[reducible] def Z2 (x:OC):Q2:=star [pts x.ptr (Xm x.vw x.vk x.vt x.ob),UL x.vw x.ob.w,NL x.vk x.ob.kind,NL x.vt x.ob.to]
structure MQ where
 t:Nat
 vL:Value
 lc:List Yx
 vO:Value
 oc:List OC
def Qo (p:Nat) (m:MS):Q2:=ex fun q:MQ=>star [prop (V4 m∧q.lc.map (·.2.2)=m.lays∧q.oc.map (·.ob)=m.objs),pts p (row 58 [pp q.t,q.vL,q.vO]),VS q.t m.P,QC 102 4 q.vL (VE q.lc),star (q.lc.map Y8),QC 77 1 q.vO (q.oc.map fun x=>pp x.ptr),star (q.oc.map Z2)]
theorem Zb [Q4] {w:World} {p:Nat} {m:MS} {l:List Q2} (H:Q0 w (Qo p m::l)):∃ (t:Nat) (lc:List Yx) (oc:List OC) (aL:Option Addr) (cL:Nat) (aO:Option Addr) (cO:Nat),V4 m∧lc.map (·.2.2)=m.lays∧oc.map (·.ob)=m.objs∧lc.length=m.lays.length∧oc.length=m.objs.length ∧
  Q0 w (pts p (row 58 [pp t,.slice aL m.lays.length cL,.slice aO m.objs.length cO])::VS t m.P::QC 102 4 (.slice aL m.lays.length cL) (VE lc)::star (lc.map Y8)::QC 77 1 (.slice aO m.objs.length cO) (oc.map fun x=>pp x.ptr)::star (oc.map Z2)::l):=by
 obtain⟨⟨t,vL,lc,vO,oc⟩,H⟩:=Q0.ex.1 H;have H:=Q0.star.1 H;obtain⟨⟨h1,h2,h3⟩,H⟩:=Q0.prop.1 H;have hl1:lc.length=m.lays.length:=by rw[← h2,List.length_map]
 have hl2:oc.length=m.objs.length:=by rw[← h3,List.length_map]
 obtain⟨aL,cL,rfl⟩:=QD (H.drop.drop) (RR lc) (by decide);obtain⟨aO,cO,rfl⟩:=QD (m:=oc.length) (H.drop.drop.drop.drop) (by simp) (by decide);refine⟨t,lc,oc,aL,cL,aO,cO,h1,h2,h3,hl1,hl2,?_⟩;rw[← hl1,← hl2];exact H
theorem Ys [Q4] {w:World} {p t:Nat} {m:MS} {l:List Q2} {lc:List Yx} {oc:List OC} {vL vO:Value} (h1:V4 m) (h2:lc.map (·.2.2)=m.lays) (h3:oc.map (·.ob)=m.objs)
  (H:Q0 w (pts p (row 58 [pp t,vL,vO])::VS t m.P::QC 102 4 vL (VE lc)::star (lc.map Y8)::QC 77 1 vO (oc.map fun x=>pp x.ptr)::star (oc.map Z2)::l)):Q0 w (Qo p m::l):=
 Q0.ex.2 ⟨⟨t,vL,lc,vO,oc⟩,Q0.star.2 (Q0.prop.2 ⟨⟨h1,h2,h3⟩,H⟩)⟩
theorem GF [Q4] {w:World} {p:Nat} {m:MS} {l:List Q2} (H:Q0 w (Qo p m::l)) {o:Nat} {x:QI} (ho:m.objs[o]? = some x):∃ (t:Nat) (lc:List Yx) (aL:Option Addr) (cL bO cO:Nat) (s ptrs:List Value) (q:Nat) (vw vk vt:Value) (rest:List Q2),V4 m∧lc.map (·.2.2)=m.lays∧(ptrs++s)[0+o*1]? = some (pp q) ∧
  Q0 w (pts q (Xm vw vk vt x)::UL vw x.w::NL vk x.kind::NL vt x.to::pts bO (row 77 (ptrs++s))::pts p (row 58 [pp t,.slice aL m.lays.length cL,.slice (some ⟨bO,0,none⟩) m.objs.length cO])::QC 102 4 (.slice aL m.lays.length cL) (VE lc)::star (lc.map Y8)::VS t m.P::star rest::l) ∧
  ∀ (w':World) (l':List Q2) (x':QI),V4 { m with objs:=m.objs.set o x' }→Q0 w' (pts q (Xm vw vk vt x')::UL vw x'.w::NL vk x'.kind::NL vt x'.to::pts bO (row 77 (ptrs++s))::pts p (row 58 [pp t,.slice aL m.lays.length cL,.slice (some ⟨bO,0,none⟩) m.objs.length cO])::QC 102 4 (.slice aL m.lays.length cL) (VE lc)::star (lc.map Y8)::VS t m.P::star rest::l')→Q0 w' (Qo p { m with objs:=m.objs.set o x' }::l'):=by
 obtain⟨t,lc,oc,aL,cL,aO,cO,h1,h2,h3,hl1,hl2,H⟩:=Zb H;have hol:o < m.objs.length:=(List.getElem?_eq_some_iff.1 ho).1
 obtain⟨y,hy,hyx⟩:∃ y,oc[o]? = some y∧y.ob=x:=by
  rw[← h3,List.getElem?_map,Option.map_eq_some_iff] at ho;exact ho
 obtain⟨q,vw,vk,vt,x1⟩:=y;obtain rfl:x1=x:=hyx;have hpk:=SL.split_at hy;replace H:=Js [4,4,0,0,0,0] 0 H;obtain⟨bO,s,rfl,H,hclose⟩:=Qx H (by omega);replace H:=Js [1,0,0,0,0,0] 0 H;have H:=Q0.star.1 ((Q0.pick (R:=Z2) hpk).1 H);replace H:Q0 w (pts q (Xm vw vk vt x1)::UL vw x1.w::NL vk x1.kind::NL vt x1.to::star ((oc.take o++oc.drop (o+1)).map Z2)::pts bO (row 77 ((oc.map fun x=>pp x.ptr)++s))::pts p (row 58 [pp t,.slice aL m.lays.length cL,.slice (some ⟨bO,0,none⟩) m.objs.length cO])::VS t m.P::QC 102 4 (.slice aL m.lays.length cL) (VE lc)::star (lc.map Y8)::l):=H;refine⟨t,lc,aL,cL,bO,cO,s,oc.map fun x=>pp x.ptr,q,vw,vk,vt,(oc.take o++oc.drop (o+1)).map Z2,h1,h2,?_,?_,?_⟩
 ·rw[Nat.zero_add,Nat.mul_one,List.getElem?_append_left (by simp;omega),List.getElem?_map,hy];rfl
 ·replace H:=Js [0,0,0,0,1,1,2,2,1,0] 0 H;exact H
 ·intro w' l' x' hm' H;replace H:=Js [0,0,0,0,5,0,0,2,0,0] 0 H;have H:=(Q0.pick (R:=Z2) (x:=⟨q,vw,vk,vt,x'⟩) (g1:=oc.take o) (g2:=oc.drop (o+1)) rfl).2 (Q0.star.2 H);rw[← SL.set_split hy] at H;replace H:=Js [1,0,0,0,0,0] 0 H;have H:=hclose _ _ H
  have hp:(oc.map fun x=>pp x.ptr)=((oc.set o ⟨q,vw,vk,vt,x'⟩).map fun x=>pp x.ptr):=by
   rw[List.map_set]
   symm
   apply List.ext_getElem?;intro i;rw[List.getElem?_set];split
   ·rename_i hi;subst hi;rw[List.getElem?_map,hy];simp;omega
   ·rfl
  rw[hp] at H;replace H:=Js [2,2,2,2,0,0] 0 H;have hs:({ m with objs:=m.objs.set o x' }:MS).objs=m.objs.set o x':=rfl;exact Ys (m:={ m with objs:=m.objs.set o x' }) hm' h2 (by rw[List.map_set,h3]) H
def Qy (m:MS) (o:Int):Option (Nat×QI):=
 if 0≤o then
  match m.objs[o.toNat]? with
  | some x=>if x.held && !x.gone then some (o.toNat,x) else none
  | none=>none
 else none
theorem C3 (m:MS) (o:Nat):Qy m o=match m.objs[o]? with|some x=>if x.held && !x.gone then some (o,x) else none|none=>none:=by
 unfold Qy;rw[if_pos (by omega),Int.toNat_natCast]
def VR (m:MS) (o place:Int) (ref:Bool):Nat:=
 match Qy m o with
 | none=>8
 | some (_,x)=>QL (Vl m x) x.w.length place ref
theorem U2 [Q4] {w:World} {p:Nat} {m:MS} {l:List Q2} {o:Nat} {x:QI} (ho:m.objs[o]? = some x) (H:Q0 w (Qo p { m with objs:=m.objs.set o x }::l)):Q0 w (Qo p m::l):=by
 have:m.objs.set o x=m.objs:=by
  apply List.ext_getElem?;intro i;rw[List.getElem?_set];split
  ·rename_i hi;subst hi;rw[ho];have:=(List.getElem?_eq_some_iff.1 ho).1;simp[this]
  ·rfl
 rw[this] at H;exact H
theorem RJ {m:MS} {o:Nat} {x:QI} (ho:m.objs[o]? = some x) (h:V4 m):V4 { m with objs:=m.objs.set o x }:=by
 have:m.objs.set o x=m.objs:=by
  apply List.ext_getElem?;intro i;rw[List.getElem?_set];split
  ·rename_i hi;subst hi;rw[ho];have:=(List.getElem?_eq_some_iff.1 ho).1;simp[this]
  ·rfl
 rw[this];exact h
theorem AO [Q4] (p:Nat) (m:MS) (o:Int) {w:World} {fr:List Q2} (H:Q0 w (Qo p m::fr)) :
  Calls Tryz.prog 38 #[pp p,.int .i64 o] w (ret fun v w'=>v = .bool (Qy m o).isSome∧Q0 w' (Qo p m::fr)):=by
 by_cases h0:o≥0
 ·obtain⟨k,rfl⟩:∃ k:Nat,o=k:=⟨o.toNat,by omega⟩;by_cases h1:k < m.objs.length
  ·have hx:=List.getElem?_eq_getElem h1;generalize m.objs[k]=x at hx;have hv:Qy m k=if x.held && !x.gone then some (k,x) else none:=by rw[C3,hx]
   obtain⟨t,lc,aL,cL,bO,cO,s,ptrs,q,vw,vk,vt,rest,hm,h2,hp,H,hclose⟩:=GF H hx;have hm':=RJ hx hm;obtain⟨xr,xl,xc,xw,xk,xt,xh,xp,xg⟩:=x;refine QQ Tryz.func38 rfl (by kernel_rfl) ?_;refine Uj H ?_;rw[show decide ((k:Int)≥0)=true from decide_eq_true (by omega)];refine KY H ?_;rw[show decide ((k:Int) < (m.objs.length:Int))=true from decide_eq_true (by omega)];refine Du H ?_;refine Qe rfl rfl rfl (Gs rfl rfl (by omega) (by omega) rfl ?_);refine Qe rfl rfl rfl (QA H rfl hp rfl ?_);cases xh with
   | true=>
    refine Yp H ?_;refine Uf H ?_;refine Du H ?_;refine Qe rfl rfl rfl (Gs rfl rfl (by omega) (by omega) rfl ?_);refine Qe rfl rfl rfl (QA H rfl hp rfl ?_);refine DI H ?_;refine J2 H ?_;refine Q3 (Jy (U2 hx (hclose _ _ _ hm' H)) rfl fun w' H'=>⟨?_,H'⟩);rw[hv];cases xg <;> rfl
   | false=>
    refine Yp H ?_;refine Uf H ?_;refine Uz H ?_;refine BH H ?_;refine J2 H ?_;refine Q3 (Jy (U2 hx (hclose _ _ _ hm' H)) rfl fun w' H'=>⟨?_,H'⟩);rw[hv];rfl
  ·have hv:Qy m k=none:=by rw[C3,List.getElem?_eq_none (by omega)]
   obtain⟨t,lc,oc,aL,cL,aO,cO,a1,a2,a3,a4,a5,H⟩:=Zb H;refine QQ Tryz.func38 rfl (by kernel_rfl) ?_;refine Uj H ?_;rw[show decide ((k:Int)≥0)=true from decide_eq_true (by omega)];refine KY H ?_;rw[show decide ((k:Int) < (m.objs.length:Int))=false from decide_eq_false (by omega)];refine Dv H ?_;refine Kw H ?_;refine Uz H ?_;refine BH H ?_;refine J2 H ?_;refine Q3 (Jy (Ys a1 a2 a3 H) rfl fun w' H'=>⟨?_,H'⟩);rw[hv];rfl
 ·have hv:Qy m o=none:=by unfold Qy;rw[if_neg (by omega)]
  refine QQ Tryz.func38 rfl (by kernel_rfl) ?_;refine Uj H ?_;rw[show decide (o≥0)=false from decide_eq_false (by omega)];refine BJ H ?_;refine Dv H ?_;refine Kw H ?_;refine Uz H ?_;refine BH H ?_;refine J2 H ?_;refine Q3 (Jy H rfl fun w' H'=>⟨?_,H'⟩);rw[hv];rfl
end Go.Proofs.YtmjdnljneifpcaaGreatDoor
namespace Go.Proofs.YtmjdnljneifpcaaGreatDoor
open Go.SL
theorem Ml [Q4] {w:World} {aL:Option Addr} {n cL:Nat} {lc:List Yx} {l:List Q2} (hn:lc.length=n) (H:Q0 w (QC 102 4 (.slice aL n cL) (VE lc)::star (lc.map Y8)::l)) {i:Nat} {y:Yx} (hy:lc[i]? = some y) :
  ∃ (bL:Nat) (s:List Value) (D1 D2 R:Q2),aL=some ⟨bL,0,none⟩∧Q0 w (pts bL (row 102 (VE lc++s))::D1::D2::R::l)∧(∀ l',UA (D1::D2::l') y.1 y.2.1 y.2.2) ∧
   ∀ (w':World) (l':List Q2),Q0 w' (pts bL (row 102 (VE lc++s))::D1::D2::R::l')→Q0 w' (QC 102 4 (.slice aL n cL) (VE lc)::star (lc.map Y8)::l'):=by
 have hi:i < lc.length:=(List.getElem?_eq_some_iff.1 hy).1;have hpk:=SL.split_at hy;obtain⟨vr,vq,l'⟩:=y;obtain⟨bL,s,rfl,H,hclose⟩:=Qx H (by omega);have H:=Q0.star.1 ((Q0.pick (R:=Y8) hpk).1 H.swap);replace H:Q0 w (NL vr l'.refs::NL vq l'.recs::star ((lc.take i++lc.drop (i+1)).map Y8)::pts bL (row 102 (VE lc++s))::l):=H;obtain⟨D1,H,hD1,hC1⟩:=sls_rd H (QF _) (by decide);obtain⟨D2,H,hD2,hC2⟩:=sls_rd H.swap (QF _) (by decide);replace H:=Js [3,0,0,0] 0 H;refine⟨bL,s,D2,D1,star ((lc.take i++lc.drop (i+1)).map Y8),rfl,H,fun l'=>⟨(hD1 _).there,hD2 _⟩,?_⟩;intro w' l2 H;replace H:=Js [1,1,1,0] 0 H;have H:=hC1 _ _ (hC2 _ _ H).swap;replace H:=Js [0,0,0,0] 0 H;have H:=(Q0.pick (R:=Y8) hpk).2 (Q0.star.2 H);exact hclose _ _ H.swap
theorem RL {m:MS} {w:V4 m} {x:QI} {o:Nat} (h:m.objs[o]? = some x):x.w.length < 8192:=by
 obtain⟨l,_,_,h⟩:=(w.objs x (List.mem_of_getElem? h)).lay;unfold V6 at h;split at h
 ·injection h with h1 h2;cases h2
 ·split at h
  ·injection h with h1 h2;cases h2
  ·injection h with h1 h2;omega
theorem Xn {m:MS} {o:Int} {k:Nat} {x:QI} (h:Qy m o=some (k,x)):o=k∧m.objs[k]? = some x∧x.held=true∧x.gone=false:=by
 unfold Qy at h;split at h
 ·split at h
  ·rename_i y hy;split at h
   ·rename_i hh;injection h with h
    injection h with h1 h2
    subst h1 h2;have hh':=Bool.and_eq_true_iff.1 hh;exact⟨by omega,hy,hh'.1,by simpa using hh'.2⟩
   ·cases h
  ·cases h
 ·cases h
theorem Tv {m:MS} (h:V4 m) {lc:List Yx} (hl:lc.map (·.2.2)=m.lays) {x:QI} {o:Nat} (hx:m.objs[o]? = some x):∃ y:Yx,lc[x.lay - 1]? = some y∧y.2.2=Vl m x∧1≤x.lay∧x.lay≤lc.length∧VO (Vl m x)∧V6 (Vl m x) x.count=(x.w.length,0):=by
 have hm:=h.objs x (List.mem_of_getElem? hx);obtain⟨h1,h2,h3⟩:=Tu (P:=m.P) (os:=m.objs) hm;have h1':m.lays[x.lay - 1]? = some (Vl m x):=h1;have h3':(lc.map (·.2.2))[x.lay - 1]? = some (Vl m x):=by rw[hl];exact h1'
 rw[List.getElem?_map,Option.map_eq_some_iff] at h3';obtain⟨y,hy,e⟩:=h3';have:=(List.getElem?_eq_some_iff.1 hy).1;have:=hm.lay1;exact⟨y,hy,e,hm.lay1,by omega,h2,h3⟩
theorem Tw {l:QJ} {c:Nat} {n p:Nat} (h:V6 l c=(n,0)) (hp:p < n):l.record≠0∨p < l.fixed:=by
 unfold V6 at h;split at h
 ·injection h with h1 h2;cases h2
 ·split at h
  ·injection h with h1 h2;cases h2
  ·injection h with h1 h2
   by_cases h0:l.record=0
   ·rw[h0] at h1;right;omega
   ·left;exact h0
theorem RM [Q4] (p:Nat) (m:MS) (o place:Int) (ref:Bool) {w:World} {fr:List Q2} (H:Q0 w (Qo p m::fr)) :
  Calls Tryz.prog 164 #[pp p,.int .i64 o,.int .i64 place,.bool ref] w (ret fun v w'=>v = .int .i64 (VR m o place ref:Nat)∧Q0 w' (Qo p m::fr)):=by
 refine QQ Tryz.func164 rfl (by kernel_rfl) ?_;refine Uj H ?_;refine Jc rfl rfl (AO p m o H) ?_;clear H;rintro v w ⟨rfl,H⟩;refine J0 H ?_;cases hv:Qy m o with
 | none=>
  have hr:VR m o place ref=8:=by unfold VR;rw[hv]
  refine A8 H ?_;refine Q3 (Jy H rfl fun w' H'=>⟨by rw[hr];rfl,H'⟩)
 | some kx=>
  obtain⟨k,x⟩:=kx;obtain⟨rfl,hx,hh,hg⟩:=Xn hv;have hr:VR m k place ref=QL (Vl m x) x.w.length place ref:=by unfold VR;rw[hv]
  have hkl:=(List.getElem?_eq_some_iff.1 hx).1;obtain⟨t,lc,aL,cL,bO,cO,s,ptrs,q,vw,vk,vt,rest,hm,h2,hp,H,hclose⟩:=GF H hx;have hm':=RJ hx hm;obtain⟨y,hy,hyl,hl1,hl2,hR,hsz⟩:=Tv hm h2 hx;obtain⟨aw,cw,rfl⟩:=QD H.drop (Yw _) (by decide);refine Gu H ?_;refine J9 H ?_;refine Jd ?_;refine Q5 rfl (QA H rfl hp rfl ?_);refine J0 H ?_;refine J5 H ?_;by_cases h1:place < 0∨(x.w.length:Int)≤place
  ·have hr':VR m k place ref=3:=by rw[hr];unfold QL;rw[if_pos h1]
   by_cases h0:place < 0
   ·rw[show decide (place < 0)=true from decide_eq_true (by omega)];refine BJ H ?_;refine UU H ?_;refine Q3 (Jy (U2 hx (hclose _ _ _ hm' H)) rfl fun w' H'=>⟨by rw[hr'];rfl,H'⟩)
   ·rw[show decide (place < 0)=false from decide_eq_false (by omega)];refine KY H ?_;rw[show decide (place≥(x.w.length:Int))=true from decide_eq_true (by omega)];refine UU H ?_;refine Q3 (Jy (U2 hx (hclose _ _ _ hm' H)) rfl fun w' H'=>⟨by rw[hr'];rfl,H'⟩)
  ·obtain⟨j,rfl⟩:∃ j:Nat,place=j:=⟨place.toNat,by omega⟩;have hsm:=RL (w:=hm) hx;rw[show decide ((j:Int) < 0)=false from decide_eq_false (by omega)];refine KY H ?_;rw[show decide ((j:Int)≥(x.w.length:Int))=false from decide_eq_false (by omega)];refine Y0 H ?_;replace H:=Js [6,6,0,0,0,0,0,0,0,0] 0 H;obtain⟨bL,sL,D1,D2,R,rfl,H,hD,hcl⟩:=Ml (by rw[← h2,List.length_map]) H hy;obtain⟨vr,vq,ly⟩:=y;obtain rfl:ly=Vl m x:=hyl;refine J1 H ?_;clear H;intro w H;refine YT H ?_;refine Jl 3 [12] H ?_;refine Dh H ?_;refine Jl 7 [12] H ?_;refine Ja 8 ?_;rw[show IntKind.i64.wrap ((x.lay:Int) - 1)=((x.lay - 1:Nat):Int) by rw[QT (by omega) (by have:=hm.lays.1;rw[← h2,List.length_map] at this;omega)];omega];refine Kj 9 rfl (Q8.none rfl) rfl rfl (by omega) (by rw[← h2,List.length_map];omega) (by kernel_rfl) ?_;refine VM 10 [12] H rfl (Q8.none rfl) rfl (HE hy) (by kernel_rfl) ?_;refine Ja 11 ?_;refine Jo 12 H ?_;refine Jk rfl rfl (TV vr vq (Vl m x) hR j (Tw hsz (by omega)) (by omega) ((hD _).there) H) ?_;clear H;rintro v w ⟨rfl,H⟩;refine R5 H ?_;replace H:=hcl _ _ H;replace H:=Js [2,2,2,2,2,2,0,0,0,0] 0 H;replace H:=U2 hx (hclose _ _ _ hm' H);generalize hbb:VV (Vl m x) j=bb;cases bb with
   | true=>
    cases ref with
    | true=>
     refine Dw H ?_;have hr':VR m k j true=0:=by rw[hr];unfold QL;rw[if_neg h1,Int.toNat_natCast,if_neg (by rw[hbb];decide)]
     refine KK H ?_;refine Q3 (Jy H rfl fun w' H'=>⟨by rw[hr'];rfl,H'⟩)
    | false=>
     refine Dw H ?_;have hr':VR m k j false=9:=by rw[hr];unfold QL;rw[if_neg h1,Int.toNat_natCast,if_pos (by rw[hbb];decide)]
     refine YG H ?_;refine Q3 (Jy H rfl fun w' H'=>⟨by rw[hr'];rfl,H'⟩)
   | false=>
    cases ref with
    | true=>
     refine Dw H ?_;have hr':VR m k j true=9:=by rw[hr];unfold QL;rw[if_neg h1,Int.toNat_natCast,if_pos (by rw[hbb];decide)]
     refine YG H ?_;refine Q3 (Jy H rfl fun w' H'=>⟨by rw[hr'];rfl,H'⟩)
    | false=>
     refine Dw H ?_;have hr':VR m k j false=0:=by rw[hr];unfold QL;rw[if_neg h1,Int.toNat_natCast,if_neg (by rw[hbb];decide)]
     refine KK H ?_;refine Q3 (Jy H rfl fun w' H'=>⟨by rw[hr'];rfl,H'⟩)
@[reducible] def Yl (m:MS) (k:Nat) (x:QI):MS:={ m with objs:=m.objs.set k x }
theorem WR {m:MS} (h:V4 m) {o:Nat} {x:QI} (hx:Gj m.lays m.objs.length x):V4 (Yl m o x):=by
 refine⟨h.P,h.lays,fun y hy=>?_,by show (m.objs.set o x).length≤_;rw[List.length_set];exact h.few⟩;have hl:(m.objs.set o x).length=m.objs.length:=List.length_set;show Gj m.lays (m.objs.set o x).length y;rw[hl]
 rcases List.mem_or_eq_of_mem_set hy with hy|rfl
 ·exact h.objs y hy
 ·exact hx
def GH (m:MS) (o:Int):MS×Nat:=
 match Qy m o with
 | none=>(m,8)
 | some (k,x)=>(Yl m k { x with held:=false },0)
theorem Tx [Q4] (p:Nat) (m:MS) (o:Int) {w:World} {fr:List Q2} (H:Q0 w (Qo p m::fr)) :
  Calls Tryz.prog 172 #[pp p,.int .i64 o] w (ret fun v w'=>v = .int .i64 ((GH m o).2:Nat)∧Q0 w' (Qo p (GH m o).1::fr)):=by
 refine QQ Tryz.func172 rfl (by kernel_rfl) ?_;refine Uj H ?_;refine Jc rfl rfl (AO p m o H) ?_;clear H;rintro v w ⟨rfl,H⟩;refine J0 H ?_;cases hv:Qy m o with
 | none=>
  have hr:GH m o=(m,8):=by unfold GH;rw[hv]
  rw[hr];refine A8 H ?_;refine Q3 (Jy H rfl fun w' H'=>⟨rfl,H'⟩)
 | some kx=>
  obtain⟨k,x⟩:=kx;have hr:GH m o=(Yl m k { x with held:=false },0):=by unfold GH;rw[hv]
  rw[hr];obtain⟨rfl,hx,hh,hg⟩:=Xn hv;have hkl:=(List.getElem?_eq_some_iff.1 hx).1;obtain⟨t,lc,aL,cL,bO,cO,s,ptrs,q,vw,vk,vt,rest,hm,h2,hp,H,hclose⟩:=GF H hx;have hm':V4 (Yl m k { x with held:=false }):=WR hm (by obtain⟨a,b,c,d,e⟩:=hm.objs x (List.mem_of_getElem? hx);exact⟨a,b,c,d,e⟩);refine Gu H ?_;refine J9 H ?_;refine Jd ?_;refine Q5 rfl (QA H rfl hp rfl ?_);refine GU H ?_;clear H;intro w H;refine Rw H ?_;refine Q3 (Jy (hclose _ _ _ hm' H) rfl fun w' H'=>⟨rfl,H'⟩)
def GI (m:MS) (o:Int) (on:Bool):MS×Nat:=
 match Qy m o with
 | none=>(m,8)
 | some (k,x)=>if x.pinned=on then (m,7) else (Yl m k { x with pinned:=on },0)
theorem Tz [Q4] (p:Nat) (m:MS) (o:Int) (on:Bool) {w:World} {fr:List Q2} (H:Q0 w (Qo p m::fr)) :
  Calls Tryz.prog 174 #[pp p,.int .i64 o,.bool on] w (ret fun v w'=>v = .int .i64 ((GI m o on).2:Nat)∧Q0 w' (Qo p (GI m o on).1::fr)):=by
 refine QQ Tryz.func174 rfl (by kernel_rfl) ?_;refine Uj H ?_;refine Jc rfl rfl (AO p m o H) ?_;clear H;rintro v w ⟨rfl,H⟩;refine J0 H ?_;cases hv:Qy m o with
 | none=>
  have hr:GI m o on=(m,8):=by unfold GI;rw[hv]
  rw[hr];refine A8 H ?_;refine Q3 (Jy H rfl fun w' H'=>⟨rfl,H'⟩)
 | some kx=>
  obtain⟨k,x⟩:=kx;have hr:GI m o on=if x.pinned=on then (m,7) else (Yl m k { x with pinned:=on },0):=by unfold GI;rw[hv]
  rw[hr];obtain⟨rfl,hx,hh,hg⟩:=Xn hv;have hkl:=(List.getElem?_eq_some_iff.1 hx).1;obtain⟨t,lc,aL,cL,bO,cO,s,ptrs,q,vw,vk,vt,rest,hm,h2,hp,H,hclose⟩:=GF H hx;have hm0:=RJ hx hm;have hm':V4 (Yl m k { x with pinned:=on }):=WR hm (by obtain⟨a,b,c,d,e⟩:=hm.objs x (List.mem_of_getElem? hx);exact⟨a,b,c,d,e⟩);refine Gu H ?_;obtain⟨xr,xl,xc,xw,xk,xt,xh,xp,xg⟩:=x;refine J9 H ?_;refine Jd ?_;refine Q5 rfl (QA H rfl hp rfl ?_);cases xp with
  | true=>
   cases on with
   | true=>
    refine Dx H ?_;refine Q6 ?_;refine YG H ?_;refine Q3 (Jy (U2 hx (hclose _ _ _ hm0 H)) rfl fun w' H'=>⟨rfl,H'⟩)
   | false=>
    refine Dx H ?_;refine A9 H ?_;refine J9 H ?_;refine Jd ?_;refine Q5 rfl (QA H rfl hp rfl ?_);refine YS H ?_;refine Ui H ?_;clear H;intro w H;refine Rw H ?_;refine Q3 (Jy (hclose _ _ _ hm' H) rfl fun w' H'=>⟨rfl,H'⟩)
  | false=>
   cases on with
   | true=>
    refine Dx H ?_;refine A9 H ?_;refine J9 H ?_;refine Jd ?_;refine Q5 rfl (QA H rfl hp rfl ?_);refine YS H ?_;refine Ui H ?_;clear H;intro w H;refine Rw H ?_;refine Q3 (Jy (hclose _ _ _ hm' H) rfl fun w' H'=>⟨rfl,H'⟩)
   | false=>
    refine Dx H ?_;refine Q6 ?_;refine YG H ?_;refine Q3 (Jy (U2 hx (hclose _ _ _ hm0 H)) rfl fun w' H'=>⟨rfl,H'⟩)
end Go.Proofs.YtmjdnljneifpcaaGreatDoor
namespace Go.Proofs.YtmjdnljneifpcaaGreatDoor
open Go.SL
theorem AP {l:List Nat} {spare:List Value} {i x:Nat} {v:Int} (h:i < l.length) (hv:v=(x:Nat)):(QK l++spare).set (0+i*1) (.int .i64 v)=QK (l.set i x)++spare:=by subst hv;exact ED h
theorem UC {m:MS} {o place:Int} {ref:Bool} {k:Nat} {x:QI} (h:Qy m o=some (k,x)):VR m o place ref=QL (Vl m x) x.w.length place ref:=by unfold VR;rw[h]
theorem XZ {m:MS} {o place:Int} {ref:Bool} (h:Qy m o=none):VR m o place ref=8:=by unfold VR;rw[h]
def UD (m:MS) (o place:Int):MS×Nat:=
 match Qy m o with
 | none=>(m,8)
 | some (k,x)=>if QL (Vl m x) x.w.length place true=0 then (Yl m k { x with kind:=x.kind.set place.toNat 0,to:=x.to.set place.toNat 0 },0) else (m,QL (Vl m x) x.w.length place true)
theorem Mm {m:MS} {o place:Int} (h:Qy m o=none):UD m o place=(m,8):=by unfold UD;rw[h]
theorem Hf {m:MS} {o place:Int} {k:Nat} {x:QI} (h:Qy m o=some (k,x)):UD m o place=if QL (Vl m x) x.w.length place true=0 then (Yl m k { x with kind:=x.kind.set place.toNat 0,to:=x.to.set place.toNat 0 },0) else (m,QL (Vl m x) x.w.length place true):=by unfold UD;rw[h]
theorem Hg {ls:List QJ} {n:Nat} {x:QI} (h:Gj ls n x) (j kd t:Nat) (hk:kd=2→t < n):Gj ls n { x with kind:=x.kind.set j kd,to:=x.to.set j t }:=by
 obtain⟨a,b,c,d,e⟩:=h;refine⟨a,b,by show (x.kind.set j kd).length=_;rw[List.length_set];exact c,by show (x.to.set j t).length=_;rw[List.length_set];exact d,?_⟩;intro i (hi:(x.kind.set j kd)[i]? = some 2);show (x.to.set j t).getD i 0 < n;by_cases hji:j=i
 ·subst hji
  have hl:j < x.kind.length:=by
   have:=(List.getElem?_eq_some_iff.1 hi).1;simpa using this
  rw[List.getElem?_set_self hl] at hi;injection hi with hi
  rw[List.getD_eq_getElem?_getD,List.getElem?_set_self (by omega)];exact hk hi
 ·rw[List.getElem?_set_ne hji] at hi;have:=e i hi;rw[List.getD_eq_getElem?_getD,List.getElem?_set_ne hji,← List.getD_eq_getElem?_getD];exact this
theorem aQ [Q4] (p:Nat) (m:MS) (o place:Int) {w:World} {fr:List Q2} (H:Q0 w (Qo p m::fr)) :
  Calls Tryz.prog 170 #[pp p,.int .i64 o,.int .i64 place] w (ret fun v w'=>v = .int .i64 ((UD m o place).2:Nat)∧Q0 w' (Qo p (UD m o place).1::fr)):=by
 refine QQ Tryz.func170 rfl (by kernel_rfl) ?_;refine Rv H ?_;refine Jc rfl rfl (RM p m o place true H) ?_;clear H;rintro v w ⟨rfl,H⟩;refine YD H ?_;by_cases h0:VR m o place true=0
 ·obtain⟨k,x,hv⟩:∃ k x,Qy m o=some (k,x):=by
   cases hv:Qy m o with
   | none=>rw[XZ hv] at h0;cases h0
   | some kx=>exact⟨kx.1,kx.2,rfl⟩
  rw[UC hv] at h0 ⊢;rw[Hf hv,if_pos h0,h0];obtain⟨rfl,hx,hh,hg⟩:=Xn hv;have hkl:=(List.getElem?_eq_some_iff.1 hx).1;obtain⟨j,rfl,hj,hr⟩:=Za h0;rw[Int.toNat_natCast];obtain⟨t,lc,aL,cL,bO,cO,s,ptrs,q,vw,vk,vt,rest,hm,h2,hp,H,hclose⟩:=GF H hx;have hob:=hm.objs x (List.mem_of_getElem? hx);have hkn:=hob.kind;have htn:=hob.to;have hsm:=RL (w:=hm) hx;obtain⟨ak,ck,rfl⟩:=QD H.drop.drop (QF _) (by decide);obtain⟨at',ct,rfl⟩:=QD H.drop.drop.drop (QF _) (by decide);replace H:=Js [2,0,0,0] 0 H;obtain⟨bk,sk,rfl,H,_,_,hck⟩:=Yv H (by omega);replace H:=Js [3,0,0,0] 0 H;obtain⟨bt,st,rfl,H,_,_,hct⟩:=Yv H (by omega);refine VD H ?_;refine J9 H ?_;refine Jd ?_;refine Q5 rfl (QA H rfl hp rfl ?_);refine Bi H ?_;refine Jd ?_;refine Q5 rfl (Yf H rfl rfl inferInstance rfl (by simp only[List.length_append,QF];omega) rfl ?_);clear H;intro w H;rw[Int.toNat_natCast,AP (v:=0) (x:=0) (by omega) rfl] at H;refine Dy H ?_;refine Jd ?_;refine Q5 rfl (QA H rfl hp rfl ?_);refine Bi H ?_;refine Jd ?_;refine Q5 rfl (Yf H rfl rfl inferInstance rfl (by simp only[List.length_append,QF];omega) rfl ?_);clear H;intro w H;rw[Int.toNat_natCast,AP (v:=0) (x:=0) (by omega) rfl] at H;refine Q6 ?_;replace H:=Js [1,0,0,0] 0 H;replace H:=hck _ _ (QK (x.kind.set j 0)) (by simp[QK]) H;replace H:=Js [1,0,0,0] 0 H;replace H:=hct _ _ (QK (x.to.set j 0)) (by simp[QK]) H;replace H:=Js [2,2,1,0] 0 H;replace H:=hclose _ _ { x with kind:=x.kind.set j 0,to:=x.to.set j 0 } (WR hm (Hg hob j 0 0 (by omega))) H;refine J4 H ?_;exact Q3 (Jy H rfl fun w' H'=>⟨rfl,H'⟩)
 ·have hc:UD m o place=(m,VR m o place true):=by
   cases hv:Qy m o with
   | none=>rw[Mm hv,XZ hv]
   | some kx=>
    obtain⟨k,x⟩:=kx;rw[UC hv] at h0 ⊢;rw[Hf hv,if_neg h0]
  rw[hc,show (((VR m o place true:Nat):Int) == 0)=false by simpa using h0];refine BA H ?_;exact Q3 (Jy H rfl fun w' H'=>⟨rfl,H'⟩)
def Yb (m:MS) (o place u:Int):MS×Nat:=
 match Qy m o with
 | none=>(m,8)
 | some (k,x)=>if QL (Vl m x) x.w.length place true=0 then match Qy m u with
  | none=>(m,8)
  | some (ku,_)=>(Yl m k { x with kind:=x.kind.set place.toNat 2,to:=x.to.set place.toNat ku },0)
  else (m,QL (Vl m x) x.w.length place true)
theorem aV [Q4] (p:Nat) (m:MS) (o place u:Int) {w:World} {fr:List Q2} (H:Q0 w (Qo p m::fr)) :
  Calls Tryz.prog 168 #[pp p,.int .i64 o,.int .i64 place,.int .i64 u] w (ret fun v w'=>v = .int .i64 ((Yb m o place u).2:Nat)∧Q0 w' (Qo p (Yb m o place u).1::fr)):=by
 refine QQ Tryz.func168 rfl (by kernel_rfl) ?_;refine Rv H ?_;refine Jc rfl rfl (RM p m o place true H) ?_;clear H;rintro v w ⟨rfl,H⟩;refine YD H ?_;by_cases h0:VR m o place true=0
 ·obtain⟨k,x,hv⟩:∃ k x,Qy m o=some (k,x):=by
   cases hv:Qy m o with
   | none=>rw[XZ hv] at h0;cases h0
   | some kx=>exact⟨kx.1,kx.2,rfl⟩
  rw[UC hv] at h0 ⊢;rw[h0];refine A4 H ?_;refine Jc rfl rfl (AO p m u H) ?_;clear H;rintro v w ⟨rfl,H⟩;refine J0 H ?_;cases hu:Qy m u with
  | none=>
   have hr:Yb m o place u=(m,8):=by unfold Yb;rw[hv];show (if QL _ _ _ _=0 then _ else _)=_;rw[if_pos h0,hu]
   rw[hr];refine A8 H ?_;exact Q3 (Jy H rfl fun w' H'=>⟨rfl,H'⟩)
  | some kx=>
  obtain⟨ku,xu⟩:=kx;have hr:Yb m o place u=(Yl m k { x with kind:=x.kind.set place.toNat 2,to:=x.to.set place.toNat ku },0):=by unfold Yb;rw[hv];show (if QL _ _ _ _=0 then _ else _)=_;rw[if_pos h0,hu]
  rw[hr];obtain⟨rfl,hx,hh,hg⟩:=Xn hv;obtain⟨rfl,hxu,_,_⟩:=Xn hu;have hkl:=(List.getElem?_eq_some_iff.1 hx).1;have hkul:=(List.getElem?_eq_some_iff.1 hxu).1;obtain⟨j,rfl,hj,hr⟩:=Za h0;rw[Int.toNat_natCast];refine Gu H ?_;obtain⟨t,lc,aL,cL,bO,cO,s,ptrs,q,vw,vk,vt,rest,hm,h2,hp,H,hclose⟩:=GF H hx;have hob:=hm.objs x (List.mem_of_getElem? hx);have hkn:=hob.kind;have htn:=hob.to;have hsm:=RL (w:=hm) hx;obtain⟨ak,ck,rfl⟩:=QD H.drop.drop (QF _) (by decide);obtain⟨at',ct,rfl⟩:=QD H.drop.drop.drop (QF _) (by decide);replace H:=Js [2,0,0,0] 0 H;obtain⟨bk,sk,rfl,H,_,_,hck⟩:=Yv H (by omega);replace H:=Js [3,0,0,0] 0 H;obtain⟨bt,st,rfl,H,_,_,hct⟩:=Yv H (by omega);refine J9 H ?_;refine Jd ?_;refine Q5 rfl (QA H rfl hp rfl ?_);refine Bi H ?_;refine Jd ?_;refine Q5 rfl (Yf H rfl rfl inferInstance rfl (by simp only[List.length_append,QF];omega) rfl ?_);clear H;intro w H;rw[Int.toNat_natCast,AP (v:=2) (x:=2) (by omega) rfl] at H;refine Dy H ?_;refine Jd ?_;refine Q5 rfl (QA H rfl hp rfl ?_);refine Jv ?_;refine DJ H ?_;refine Jd ?_;refine Q5 rfl (Yf H rfl rfl inferInstance rfl (by simp only[List.length_append,QF];omega) rfl ?_);clear H;intro w H;rw[Int.toNat_natCast,AP (v:=ku) (x:=ku) (by omega) rfl] at H;refine Q6 ?_;replace H:=Js [1,0,0,0] 0 H;replace H:=hck _ _ (QK (x.kind.set j 2)) (by simp[QK]) H;replace H:=Js [1,0,0,0] 0 H;replace H:=hct _ _ (QK (x.to.set j ku)) (by simp[QK]) H;replace H:=Js [2,2,1,0] 0 H;replace H:=hclose _ _ { x with kind:=x.kind.set j 2,to:=x.to.set j ku } (WR hm (Hg hob j 2 ku (fun _=>hkul))) H;refine VC H ?_;exact Q3 (Jy H rfl fun w' H'=>⟨rfl,H'⟩)
 ·have hc:Yb m o place u=(m,VR m o place true):=by
   cases hv:Qy m o with
   | none=>unfold Yb;rw[hv,XZ hv]
   | some kx=>
    obtain⟨k,x⟩:=kx;rw[UC hv] at h0 ⊢;unfold Yb;rw[hv];show (if QL _ _ _ _=0 then _ else _)=_;rw[if_neg h0]
  rw[hc,show (((VR m o place true:Nat):Int) != 0)=true by simpa using h0];refine Yj H ?_;exact Q3 (Jy H rfl fun w' H'=>⟨rfl,H'⟩)
def Xo (m:MS) (t:Nat):MS:=match m.objs[t]? with|some y=>Yl m t { y with held:=true }|none=>m
def YU (m:MS) (o place:Int):MS×Nat×Nat×Nat:=
 match Qy m o with
 | none=>(m,0,0,8)
 | some (_,x)=>if QL (Vl m x) x.w.length place true=0 then (if x.kind.getD place.toNat 0=2 then Xo m (x.to.getD place.toNat 0) else m,x.kind.getD place.toNat 0,x.to.getD place.toNat 0,0) else (m,0,0,QL (Vl m x) x.w.length place true)
theorem aY [Q4] (p:Nat) (m:MS) (o place:Int) {w:World} {fr:List Q2} (H:Q0 w (Qo p m::fr)) :
  Calls Tryz.prog 167 #[pp p,.int .i64 o,.int .i64 place] w (ret fun v w'=>v = .tuple #[.int .i64 ((YU m o place).2.1:Nat),.int .i64 ((YU m o place).2.2.1:Nat),.int .i64 ((YU m o place).2.2.2:Nat)]∧Q0 w' (Qo p (YU m o place).1::fr)):=by
 refine QQ Tryz.func167 rfl (by kernel_rfl) ?_;refine V8 H ?_;refine Vh H ?_;refine Jc rfl rfl (RM p m o place true H) ?_;clear H;rintro v w ⟨rfl,H⟩;refine YD H ?_;by_cases h0:VR m o place true=0
 ·obtain⟨k,x,hv⟩:∃ k x,Qy m o=some (k,x):=by
   cases hv:Qy m o with
   | none=>rw[XZ hv] at h0;cases h0
   | some kx=>exact⟨kx.1,kx.2,rfl⟩
  rw[UC hv] at h0 ⊢;have hrm:YU m o place=(if x.kind.getD place.toNat 0=2 then Xo m (x.to.getD place.toNat 0) else m,x.kind.getD place.toNat 0,x.to.getD place.toNat 0,0):=by unfold YU;rw[hv];show (if QL _ _ _ _=0 then _ else _)=_;rw[if_pos h0]
  rw[hrm,h0];refine V5 H ?_;obtain⟨rfl,hx,hh,hg⟩:=Xn hv;have hkl:=(List.getElem?_eq_some_iff.1 hx).1;obtain⟨j,rfl,hj,hr⟩:=Za h0;rw[Int.toNat_natCast];obtain⟨t,lc,aL,cL,bO,cO,s,ptrs,q,vw,vk,vt,rest,hm,h2,hp,H,hclose⟩:=GF H hx;have hob:=hm.objs x (List.mem_of_getElem? hx);have hkn:=hob.kind;have htn:=hob.to;have hsm:=RL (w:=hm) hx;obtain⟨ak,ck,rfl⟩:=QD H.drop.drop (QF _) (by decide);obtain⟨at',ct,rfl⟩:=QD H.drop.drop.drop (QF _) (by decide);replace H:=Js [2,0,0,0] 0 H;obtain⟨bk,sk,rfl,H,_,_,hck⟩:=Yv H (by omega);replace H:=Js [3,0,0,0] 0 H;obtain⟨bt,st,rfl,H,_,_,hct⟩:=Yv H (by omega);have hkj:=List.getElem?_eq_getElem (l:=x.kind) (i:=j) (by omega);have htj:=List.getElem?_eq_getElem (l:=x.to) (i:=j) (by omega);have hkd:x.kind.getD j 0=x.kind[j]:=by rw[List.getD_eq_getElem?_getD,hkj];rfl
  have htd:x.to.getD j 0=x.to[j]:=by rw[List.getD_eq_getElem?_getD,htj];rfl
  have hgo:=hob.goes j;rw[htd] at hgo;rw[hkd,htd];generalize x.kind[j]=kd at *;generalize x.to[j]=td at *;refine J9 H ?_;refine Jd ?_;refine Q5 rfl (QA H rfl hp rfl ?_);refine Bi H ?_;refine Jd ?_;refine Q5 rfl (QA H rfl (Gg hkj) rfl ?_);refine J0 H ?_;refine J9 H ?_;refine Jd ?_;refine Q5 rfl (QA H rfl hp rfl ?_);refine Bi H ?_;refine Jd ?_;refine Q5 rfl (QA H rfl (Gg htj) rfl ?_);refine J0 H ?_;replace H:=Js [1,0,0,0] 0 H;replace H:=hck _ _ (QK x.kind) rfl H;replace H:=Js [1,0,0,0] 0 H;replace H:=hct _ _ (QK x.to) rfl H;replace H:=Js [2,2,1,0] 0 H;replace H:=U2 hx (hclose _ _ x (RJ hx hm) H);clear hck hct hclose;refine J4 H ?_;by_cases h2':kd=2
  ·subst h2';rw[if_pos rfl];have htl:=hgo hkj;have hy:=List.getElem?_eq_getElem htl;generalize m.objs[td]=y at hy;have hh':Xo m td=Yl m td { y with held:=true }:=by unfold Xo;rw[hy]
   rw[hh'];refine VD H ?_;obtain⟨t',lc',aL',cL',bO',cO',s',ptrs',q',vw',vk',vt',rest',hm',h2',hp',H,hclose⟩:=GF H hy;refine J9 H ?_;refine Jd ?_;refine Q5 rfl (QA H rfl hp' rfl ?_);refine GU H ?_;clear H;intro w H;refine Q6 ?_;refine K8 H ?_;refine Q3 (Jy (hclose _ _ { y with held:=true } (WR hm (by obtain⟨a,b,c,d,e⟩:=hm.objs y (List.mem_of_getElem? hy);exact⟨a,b,c,d,e⟩)) H) rfl fun w' H'=>⟨rfl,H'⟩)
  ·rw[if_neg h2',show ((kd:Int) == 2)=false by simp;omega];refine V5 H ?_;refine K8 H ?_;exact Q3 (Jy H rfl fun w' H'=>⟨rfl,H'⟩)
 ·have hc:YU m o place=(m,0,0,VR m o place true):=by
   cases hv:Qy m o with
   | none=>unfold YU;rw[hv,XZ hv]
   | some kx=>
    obtain⟨k,x⟩:=kx;rw[UC hv] at h0 ⊢;unfold YU;rw[hv];show (if QL _ _ _ _=0 then _ else _)=_;rw[if_neg h0]
  rw[hc,show (((VR m o place true:Nat):Int) != 0)=true by simpa using h0];refine VD H ?_;refine W6 H ?_;exact Q3 (Jy H rfl fun w' H'=>⟨rfl,H'⟩)
end Go.Proofs.YtmjdnljneifpcaaGreatDoor
namespace Go.Proofs.YtmjdnljneifpcaaGreatDoor
open Go.SL
def Zz:MS:=⟨[-1],[],[]⟩
theorem aZ [Q4] {w:World} {fr:List Q2} (H:Q0 w fr):Calls Tryz.prog 99 #[] w (ret fun v w'=>∃ p,v=pp p∧Q0 w' (Qo p Zz::fr)):=by
 refine QQ Tryz.func99 rfl (by kernel_rfl) ?_;refine BS H ?_;refine Jc rfl rfl (Tt H) ?_;clear H;rintro v w ⟨t,rfl,H⟩;refine Uv H ?_;clear H;intro b3 w H;refine J0 H ?_;have H:Q0 w (star (([]:List OC).map Z2)::pts b3 (row 58 [pp t,.slice none 0 0,.slice none 0 0])::VS t [-1]::fr):=Q0.star.2 H;have H:=Yu (E:=77) (k:=1) H;have H:Q0 w (star (([]:List Yx).map Y8)::_):=Q0.star.2 H;have H:=Yu (E:=102) (k:=4) H;replace H:=Js [4,4,0,0,0,0] 0 H;have hm:V4 Zz:=⟨⟨by simp[Zz],by simp[Zz]⟩,⟨by simp[Zz],fun l h=>by cases h⟩,(fun l h=>by cases h),by simp[Zz]⟩;exact Q3 (Jy (Ys (m:=Zz) hm (lc:=[]) (oc:=[]) rfl rfl H) rfl fun w' H'=>⟨_,rfl,H'⟩)
def XG (m:MS) (parent:Int):MS×Nat×Nat:=if Z1 m.P parent=0 then ({ m with P:=m.P++[parent] },m.P.length,0) else (m,0,Z1 m.P parent)
theorem Mn [Q4] (p:Nat) (m:MS) (parent:Int) (hP:m.P.length < 100000) {w:World} {fr:List Q2} (H:Q0 w (Qo p m::fr)) :
  Calls Tryz.prog 162 #[pp p,.int .i64 parent] w (ret fun v w'=>v = .tuple #[.int .i64 ((XG m parent).2.1:Nat),.int .i64 ((XG m parent).2.2:Nat)]∧Q0 w' (Qo p (XG m parent).1::fr)):=by
 obtain⟨t,lc,oc,aL,cL,aO,cO,hm,h2,h3,hl1,hl2,H⟩:=Zb H;refine QQ Tryz.func162 rfl (by kernel_rfl) ?_;refine Bj H ?_;replace H:=Js [1,0] 0 H;refine Jc rfl rfl (Mk t m.P parent (by omega) hm.P.1 H) ?_;clear H;rintro v w (⟨he,rfl,H⟩|⟨he,rfl,H⟩)
 ·have hr:XG m parent=(m,0,Z1 m.P parent):=by unfold XG;rw[if_neg he]
  rw[hr];refine A5 H ?_;exact Q3 (Jy (Ys hm h2 h3 H.swap) rfl fun w' H'=>⟨rfl,H'⟩)
 ·have hr:XG m parent=({ m with P:=m.P++[parent] },m.P.length,0):=by unfold XG;rw[if_pos he]
  rw[hr];have hm':V4 { m with P:=m.P++[parent] }:=⟨⟨by simp,by simp;omega⟩,hm.lays,hm.objs,hm.few⟩;refine A5 H ?_;exact Q3 (Jy (Ys (m:={ m with P:=m.P++[parent] }) hm' h2 h3 H.swap) rfl fun w' H'=>⟨rfl,H'⟩)
def ZD (m:MS) (ws:List Nat):MS×Nat×Nat:=
 match ZV ws with
 | none=>(m,0,4)
 | some l=>if 64≤m.lays.length then (m,0,5) else ({ m with lays:=m.lays++[l] },m.lays.length+1,0)
theorem aG {ls:List QJ} {l:QJ} {n:Nat} {x:QI} (h:Gj ls n x):Gj (ls++[l]) n x:=by
 obtain⟨⟨l',a,a2⟩,b,c,d,e⟩:=h;exact⟨⟨l',by rw[List.getElem?_append_left (List.getElem?_eq_some_iff.1 a).1];exact a,a2⟩,b,c,d,e⟩
theorem aX [Q4] (p:Nat) (m:MS) (v:Value) (ws:List Nat) (hws:∀ x∈ws,x < 18446744073709551616) {w:World} {fr:List Q2} (hr:Vm fr v ws.length 1 (QP ws)) (H:Q0 w (Qo p m::fr)) :
  Calls Tryz.prog 161 #[pp p,v] w (ret fun r w'=>r = .tuple #[.int .i64 ((ZD m ws).2.1:Nat),.int .i64 ((ZD m ws).2.2:Nat)]∧Q0 w' (Qo p (ZD m ws).1::fr)):=by
 obtain⟨_,ad,cap,rfl,hr'⟩:=id hr;refine QQ Tryz.func161 rfl (by kernel_rfl) ?_;refine D5 H ?_;refine Jc rfl rfl (To _ ws hws hr.there H) ?_;clear H;rintro r w (⟨hd,rfl,H⟩|⟨l,vr,vq,hd,rfl,H⟩)
 ·have hdr:ZD m ws=(m,0,4):=by unfold ZD;rw[hd]
  rw[hdr];refine Vi H ?_;clear H;intro b6 w H;refine J3 H ?_;clear H;intro w H;refine Bk H ?_;exact Q3 (Jy H.drop rfl fun w' H'=>⟨rfl,H'⟩)
 ·obtain⟨a1,m1,c1,rfl⟩:=Qq H;obtain⟨a2,m2,c2,rfl⟩:=Qq H.swap;replace H:=Js [2,0,0] 0 H;obtain⟨t,lc,oc,aL,cL,aO,cO,hm,h2,h3,hl1,hl2,H⟩:=Zb H;refine Vi H ?_;clear H;intro b6 w H;refine J3 H ?_;clear H;intro w H;refine Yi H ?_;refine Ya H ?_;refine UK H ?_;by_cases h64:64≤m.lays.length
  ·have hdr:ZD m ws=(m,0,5):=by unfold ZD;rw[hd];show (if _ then _ else _)=_;rw[if_pos h64]
   rw[hdr];rw[show decide ((m.lays.length:Int)≥64)=true from decide_eq_true (by omega)];refine Yj H ?_;have H:=Ys hm h2 h3 H.drop;replace H:=Js [0] 2 H;exact Q3 (Jy H rfl fun w' H'=>⟨rfl,H'⟩)
  ·have hdr:ZD m ws=({ m with lays:=m.lays++[l] },m.lays.length+1,0):=by unfold ZD;rw[hd];show (if _ then _ else _)=_;rw[if_neg h64]
   rw[hdr]
   have hR:VO l:=by
    unfold ZV at hd;split at hd
    ·split at hd
     ·injection hd with hd;rename_i hx;rw[← hd];exact hx.2
     ·cases hd
    ·cases hd
   have hm':V4 { m with lays:=m.lays++[l] }:=⟨hm.P,⟨by show (m.lays++[l]).length≤64;simp;omega,fun x hx=>by
    rcases List.mem_append.1 hx with hx|hx
    ·exact hm.lays.2 x hx
    ·simp at hx;subst hx;exact hR⟩,fun x hx=>aG (hm.objs x hx),hm.few⟩
   rw[show decide ((m.lays.length:Int)≥64)=false from decide_eq_false (by omega)];refine BP H ?_;clear H;intro w H;refine W3 H ?_;refine Jl 4 [7,10] H ?_;refine Fo H ?_;refine Jo 6 H ?_;refine Rt H ?_;clear H;intro b27 w H;replace H:=Js [4,0,0,0,0] 0 H;refine Jo 7 H ?_;refine YC H rfl rfl (by repeat first|exact .nil _|apply QY.cons rfl) rfl (by decide) (by rw[RR];simp only[List.length_cons,List.length_nil];omega) rfl rfl ?_;clear H;intro v28 w H
   have e1:VE lc++[.int .i64 l.fixed,.slice a1 m1 c1,.int .i64 l.record,.slice a2 m2 c2]=VE (lc++[(.slice a1 m1 c1,.slice a2 m2 c2,l)]):=by
    rw[MV];rfl
   rw[e1] at H;have hql':(lc++[((.slice a1 m1 c1:Value),(.slice a2 m2 c2:Value),l)]).length=m.lays.length+1:=by simp[hl1]
   obtain⟨a28,c28,rfl⟩:=QD H (m:=m.lays.length+1) (by rw[RR,hql']) (by decide);refine Ja 8 ?_;refine Jf 9 ?_;refine Jo 10 H ?_;refine Uh H ?_;clear H;intro w H;refine Jx H ?_;refine DN H ?_;refine J2 H ?_;replace H:=Js [8,8,5,3,3,0,2,2] 2 H
   have H1:Q0 w (star ((lc++[((.slice a1 m1 c1:Value),(.slice a2 m2 c2:Value),l)]).map Y8)::pts p (row 58 [pp t,.slice a28 (m.lays.length+1) c28,.slice aO m.objs.length cO])::VS t m.P::QC 102 4 (.slice a28 (m.lays.length+1) c28) (VE (lc++[(.slice a1 m1 c1,.slice a2 m2 c2,l)]))::QC 77 1 (.slice aO m.objs.length cO) (oc.map fun x=>pp x.ptr)::star (oc.map Z2)::fr):=by
    refine(Q0.pick (x:=((.slice a1 m1 c1:Value),(.slice a2 m2 c2:Value),l)) (g1:=lc) (g2:=[]) rfl).2 ?_;rw[List.append_nil];refine Q0.star.2 ?_;exact H
   replace H1:=Js [1,1,1,0,0,0] 0 H1;have H2:=Ys (m:={ m with lays:=m.lays++[l] }) hm' (lc:=lc++[((.slice a1 m1 c1:Value),(.slice a2 m2 c2:Value),l)]) (by rw[List.map_append,h2];rfl) h3 H1;exact Q3 (Jy H2 rfl fun w' H'=>⟨rfl,H'⟩)
def Vj (m:MS) (region lay count:Int):Nat×Nat:=
 if Vr m.P region=false then (0,15) else if lay < 1∨(m.lays.length:Int) < lay then (0,6) else V6 ((m.lays[lay.toNat - 1]?).getD ⟨0,[],0,[]⟩) count
theorem Mo [Q4] (p:Nat) (m:MS) (region lay count:Int) {w:World} {fr:List Q2} (H:Q0 w (Qo p m::fr)) :
  Calls Tryz.prog 229 #[pp p,.int .i64 region,.int .i64 lay,.int .i64 count] w (ret fun v w'=>v = .tuple #[.int .i64 ((Vj m region lay count).1:Nat),.int .i64 ((Vj m region lay count).2:Nat)]∧Q0 w' (Qo p m::fr)):=by
 obtain⟨t,lc,oc,aL,cL,aO,cO,hm,h2,h3,hl1,hl2,H⟩:=Zb H;refine QQ Tryz.func229 rfl (by kernel_rfl) ?_;refine Bj H ?_;replace H:=Js [1,0] 0 H;refine Jc rfl rfl (WK t m.P region H) ?_;clear H;rintro v w ⟨rfl,H⟩;generalize hlv:Vr m.P region=lv;have hlays:=hm.lays.1;cases lv with
 | false=>
  have hr:Vj m region lay count=(0,15):=by unfold Vj;rw[if_pos hlv]
  rw[hr];refine Bk H ?_;exact Q3 (Jy (Ys hm h2 h3 H.swap) rfl fun w' H'=>⟨rfl,H'⟩)
 | true=>
  replace H:=Js [1,0] 0 H;refine Yi H ?_;by_cases h1:lay < 1
  ·have hr:Vj m region lay count=(0,6):=by unfold Vj;rw[if_neg (by rw[hlv];decide),if_pos (.inl h1)]
   rw[hr];refine J5 H ?_;rw[show decide (lay < 1)=true from decide_eq_true (by omega)];refine BJ H ?_;refine BU H ?_;exact Q3 (Jy (Ys hm h2 h3 H) rfl fun w' H'=>⟨rfl,H'⟩)
  ·refine J5 H ?_;rw[show decide (lay < 1)=false from decide_eq_false (by omega)];refine KY H ?_;by_cases h2':(m.lays.length:Int) < lay
   ·have hr:Vj m region lay count=(0,6):=by unfold Vj;rw[if_neg (by rw[hlv];decide),if_pos (.inr h2')]
    rw[hr];rw[show decide (lay > (m.lays.length:Int))=true from decide_eq_true (by omega)];refine BU H ?_;exact Q3 (Jy (Ys hm h2 h3 H) rfl fun w' H'=>⟨rfl,H'⟩)
   ·obtain⟨la,rfl⟩:∃ la:Nat,lay=((la+1:Nat):Int):=⟨lay.toNat - 1,by omega⟩;have hla:la < lc.length:=by omega
    have hy:=List.getElem?_eq_getElem hla;generalize lc[la]=y at hy;have hyl:m.lays[la]? = some y.2.2:=by rw[← h2,List.getElem?_map,hy];rfl
    have hr:Vj m region ((la+1:Nat):Int) count=V6 y.2.2 count:=by
     unfold Vj;rw[if_neg (by rw[hlv];decide),if_neg (by omega),Int.toNat_natCast,Nat.add_sub_cancel,hyl];rfl
    rw[hr];have hR:=hm.lays.2 _ (List.mem_of_getElem? hyl);rw[show decide (((la+1:Nat):Int) > (m.lays.length:Int))=false from decide_eq_false (by omega)];refine Y0 H ?_;replace H:=Js [2,2,0,0,0,0] 0 H;obtain⟨bL,sL,D1,D2,R,rfl,H,hD,hcl⟩:=Ml hl1 H hy;obtain⟨vr,vq,l⟩:=y;refine GY H ?_;rw[show IntKind.i64.wrap (((la+1:Nat):Int) - 1)=(la:Int) by rw[QT (by omega) (by omega)];omega];refine Jd ?_;refine Q5 rfl (VH H rfl (HE hy) rfl ?_);refine Jv ?_;refine Jc rfl rfl (TQ vr vq l hR count ((hD _).there) H) ?_;clear H;rintro v w ⟨rfl,H⟩;refine A5 H ?_;replace H:=hcl _ _ H;replace H:=Js [2,2,0,0,0,0] 0 H;exact Q3 (Jy (Ys hm h2 h3 H) rfl fun w' H'=>⟨rfl,H'⟩)
end Go.Proofs.YtmjdnljneifpcaaGreatDoor
namespace Go.Proofs.YtmjdnljneifpcaaGreatDoor
open Go.SL
def G0 (region lay count:Int) (n:Nat):QI:=⟨region.toNat,lay.toNat,count.toNat,List.replicate n 0,List.replicate n 0,List.replicate n 0,true,false,false⟩
def KJ (m:MS) (region lay count:Int):MS:={ m with objs:=m.objs++[G0 region lay count (Vj m region lay count).1] }
theorem Ei {m:MS} {region lay count:Int} (h:(Vj m region lay count).2=0):∃ (r la c:Nat) (l:QJ),region=r∧lay=(la+1:Nat)∧count=c∧Vr m.P region=true∧m.lays[la]? = some l∧Vj m region lay count=V6 l c∧V6 l c=(l.fixed+c*l.record,0)∧l.fixed+c*l.record < 8192:=by
 unfold Vj at h ⊢;by_cases h1:Vr m.P region=false
 ·rw[if_pos h1] at h;cases h
 ·rw[if_neg h1] at h ⊢;by_cases h2:lay < 1∨(m.lays.length:Int) < lay
  ·rw[if_pos h2] at h;cases h
  ·rw[if_neg h2] at h ⊢;have h3:Vr m.P region=true:=by simpa using h1
   have h4:0 < region:=by
    unfold Vr at h3;exact(of_decide_eq_true h3).1
   obtain⟨la,rfl⟩:∃ la:Nat,lay=((la+1:Nat):Int):=⟨lay.toNat - 1,by omega⟩;have hla:la < m.lays.length:=by omega
   have hl:=List.getElem?_eq_getElem hla;generalize m.lays[la]=l at hl;rw[Int.toNat_natCast,Nat.add_sub_cancel,hl] at h ⊢;replace h:(V6 l count).2=0:=h;unfold V6 at h;split at h
   ·cases h
   ·rename_i hc;split at h
    ·cases h
    ·rename_i hs;obtain⟨c,rfl⟩:∃ c:Nat,count=c:=⟨count.toNat,by omega⟩;rw[Int.toNat_natCast] at hs;refine⟨region.toNat,la,c,l,by omega,rfl,rfl,h3,hl,rfl,?_,by omega⟩;unfold V6;rw[if_neg hc,Int.toNat_natCast,if_neg hs]
theorem Hh {m:MS} {region lay count:Int} (h:(Vj m region lay count).2=0) (hm:V4 m) (hf:m.objs.length < 100000):V4 (KJ m region lay count):=by
 obtain⟨r,la,c,l,rfl,rfl,rfl,hl,hla,hmay,hsz,hlt⟩:=Ei h;have hlen:(m.objs++[G0 r ((la+1:Nat):Int) c (Vj m r ((la+1:Nat):Int) c).1]).length=m.objs.length+1:=by simp
 refine⟨hm.P,hm.lays,fun x hx=>?_,by show (m.objs++[_]).length≤_;rw[hlen];omega⟩;show Gj m.lays (m.objs++[_]).length x;rw[hlen]
 rcases List.mem_append.1 hx with hx|hx
 ·obtain⟨a,b,c,d,e⟩:=hm.objs x hx;exact⟨a,b,c,d,fun p hp=>by have:=e p hp;omega⟩
 ·simp only[List.mem_singleton] at hx;subst hx;rw[hmay,hsz];refine⟨⟨l,?_,hm.lays.2 l (List.mem_of_getElem? hla),?_⟩,?_,rfl,rfl,?_⟩
  ·show m.lays[(((la+1:Nat):Int).toNat) - 1]? = _;rw[Int.toNat_natCast];exact hla
  ·show V6 l ((((c:Nat):Int).toNat:Nat):Int)=((List.replicate (l.fixed+c*l.record) 0).length,0);rw[Int.toNat_natCast,hsz,List.length_replicate]
  ·show 1≤((la+1:Nat):Int).toNat;omega
  ·intro p hp;have:(List.replicate (l.fixed+c*l.record) 0)[p]? = some 2:=hp;rw[List.getElem?_replicate] at this;split at this <;> cases this
theorem AS [Q4] {w:World} {p t bO bW bK bT n rr la c:Nat} {m:MS} {lc:List Yx} {oc:List OC} {aL aS:Option Addr} {cL cS:Nat} {fr:List Q2} (hm':V4 { m with objs:=m.objs++[G0 (rr:Int) ((la+1:Nat):Int) (c:Int) n] }) (h2:lc.map (·.2.2)=m.lays) (h3:oc.map (·.ob)=m.objs) (hl1:lc.length=m.lays.length)
  (H : Q0 w (pts bO (row 76 [.int .i64 rr, .int .i64 ((la + 1 : Nat) : Int), .int .i64 c, .slice (some ⟨bW, 0, none⟩) n n, .slice (some ⟨bK, 0, none⟩) n n, .slice (some ⟨bT, 0, none⟩) n n, .bool true, .bool false, .bool false]) :: UL (.slice (some ⟨bW, 0, none⟩) n n) (List.replicate n 0) :: NL (.slice (some ⟨bK, 0, none⟩) n n) (List.replicate n 0) :: NL (.slice (some ⟨bT, 0, none⟩) n n) (List.replicate n 0) :: star (oc.map Z2) ::
   pts p (row 58 [pp t,.slice aL m.lays.length cL,.slice aS (m.objs.length+1) cS])::VS t m.P::QC 102 4 (.slice aL m.lays.length cL) (VE lc)::star (lc.map Y8)::QC 77 1 (.slice aS (m.objs.length+1) cS) ((oc.map fun x=>pp x.ptr)++[pp bO])::fr)) :
  Q0 w (Qo p { m with objs:=m.objs++[G0 (rr:Int) ((la+1:Nat):Int) (c:Int) n] }::fr):=by
 have H1:Q0 w (star ((oc++[(⟨bO,.slice (some ⟨bW,0,none⟩) n n,.slice (some ⟨bK,0,none⟩) n n,.slice (some ⟨bT,0,none⟩) n n,G0 (rr:Int) ((la+1:Nat):Int) (c:Int) n⟩:OC)]).map Z2)::pts p (row 58 [pp t,.slice aL m.lays.length cL,.slice aS (m.objs.length+1) cS])::VS t m.P::QC 102 4 (.slice aL m.lays.length cL) (VE lc)::star (lc.map Y8)::QC 77 1 (.slice aS (m.objs.length+1) cS) ((oc.map fun x=>pp x.ptr)++[pp bO])::fr):=by
  refine(Q0.pick (g1:=oc) (g2:=[]) rfl).2 ?_;rw[List.append_nil];exact Q0.star.2 H
 replace H1:=Js [1,1,1,1,1,0] 0 H1;exact Ys (m:={ m with objs:=m.objs++[G0 (rr:Int) ((la+1:Nat):Int) (c:Int) n] }) (oc:=oc++[(⟨bO,.slice (some ⟨bW,0,none⟩) n n,.slice (some ⟨bK,0,none⟩) n n,.slice (some ⟨bT,0,none⟩) n n,G0 (rr:Int) ((la+1:Nat):Int) (c:Int) n⟩:OC)]) hm' h2 (by rw[List.map_append,h3];rfl) (by rw[List.map_append];exact H1)
theorem aK [Q4] (p:Nat) (m:MS) (region lay count:Int) (hmay:(Vj m region lay count).2=0) (hf:m.objs.length < 100000) {w:World} {fr:List Q2} (H:Q0 w (Qo p m::fr)) :
  Calls Tryz.prog 231 #[pp p,.int .i64 region,.int .i64 lay,.int .i64 count] w (ret fun v w'=>v = .tuple #[]∧Q0 w' (Qo p (KJ m region lay count)::fr)):=by
 refine QQ Tryz.func231 rfl (by kernel_rfl) ?_;refine XS H ?_;refine Jc rfl rfl (Mo p m region lay count H) ?_;clear H;rintro v w ⟨rfl,H⟩;have hr:KJ m region lay count={ m with objs:=m.objs++[G0 region lay count (Vj m region lay count).1] }:=rfl;rw[hr];obtain⟨t,lc,oc,aL,cL,aO,cO,hm,h2,h3,hl1,hl2,H⟩:=Zb H;have hm':V4 _:=Hh hmay hm hf;rw[hr] at hm';obtain⟨rr,la,c,l,rfl,rfl,rfl,hlv,hla,hmm,hsz,hlt⟩:=Ei hmay;have hn1:(Vj m (rr:Int) ((la+1:Nat):Int) (c:Int)).1=l.fixed+c*l.record:=by rw[hmm,hsz]
 rw[hmm,hsz] at hm' ⊢;generalize l.fixed+c*l.record=n at *
 have z1:Vv (Qt (.int .u64 0)) n=QP (List.replicate n 0):=by
  rw[show Qt (.int .u64 0)=[.int .u64 0] from rfl,Rr];simp[QP]
 have z2:Vv (Qt (.int .i64 0)) n=QK (List.replicate n 0):=by
  rw[show Qt (.int .i64 0)=[.int .i64 0] from rfl,Rr];simp[QK]
 refine DY H ?_;clear H;intro w H;refine W3 H ?_;refine Jl 4 [17,20] H ?_;refine Ja 5 ?_;refine Ja 6 ?_;refine Ja 7 ?_;refine Ja 8 ?_;refine Ja 10 ?_;refine Ja 12 ?_;refine Pw 9 11 13 rfl rfl rfl (by kernel_rfl) (by repeat first|exact .nil|refine .cons (.inr H.at) ?_|refine .cons (.inr H.mp) ?_|refine .cons (.inl (by kernel_rfl)) ?_) (Q8.none rfl) (Q8.none rfl) (Q8.none rfl) (ZQ H rfl rfl (by decide) (by omega) rfl ?_) (ZQ H rfl rfl (by decide) (by omega) rfl ?_) (ZQ H rfl rfl (by decide) (by omega) rfl ?_)
 ·clear H;intro bW w H;rw[z1] at H;refine Jw 11 13 H rfl rfl (ZQ H rfl rfl (by decide) (by omega) rfl ?_) (ZQ H rfl rfl (by decide) (by omega) rfl ?_)
  ·clear H;intro bK w H;rw[z2] at H;refine Jo 13 H ?_;refine ZQ H rfl rfl (by decide) (by omega) rfl ?_;clear H;intro bT w H;rw[z2] at H;replace H:=Js [2,1,0] 0 H;refine AQ H ?_;clear H;intro bO w H
   refine AV H ?_;clear H;intro bS w H;replace H:=Js [9,0,0,0,0,0,0,0,0,0,0] 0 H;refine Jo 17 H ?_;refine YC H rfl rfl (by repeat first|exact .nil _|apply QY.cons rfl) rfl (by decide) (by simp;omega) rfl rfl ?_;clear H;intro vS w H;obtain⟨aS,cS,rfl⟩:=QD H (m:=m.objs.length+1) (by simp[hl2]) (by decide);refine AY H ?_;clear H;intro w H;refine Jx H ?_;replace H:=Js [2,2,2,2,6,2,2,2,2,0] 1 H;exact Y4 _ (.inl rfl) (AS hm' h2 h3 hl1 H) rfl fun w' H'=>⟨rfl,H'⟩
  ·clear H;intro bT w H;rw[z2] at H;refine Jo 11 H ?_;refine ZQ H rfl rfl (by decide) (by omega) rfl ?_;clear H;intro bK w H;rw[z2] at H;replace H:=Js [2,0,0] 0 H;refine AQ H ?_;clear H;intro bO w H
   refine AV H ?_;clear H;intro bS w H;replace H:=Js [9,0,0,0,0,0,0,0,0,0,0] 0 H;refine Jo 17 H ?_;refine YC H rfl rfl (by repeat first|exact .nil _|apply QY.cons rfl) rfl (by decide) (by simp;omega) rfl rfl ?_;clear H;intro vS w H;obtain⟨aS,cS,rfl⟩:=QD H (m:=m.objs.length+1) (by simp[hl2]) (by decide);refine AY H ?_;clear H;intro w H;refine Jx H ?_;replace H:=Js [2,2,2,2,6,2,2,2,2,0] 1 H;exact Y4 _ (.inl rfl) (AS hm' h2 h3 hl1 H) rfl fun w' H'=>⟨rfl,H'⟩
 ·clear H;intro bK w H;rw[z2] at H;refine Jw 9 13 H rfl rfl (ZQ H rfl rfl (by decide) (by omega) rfl ?_) (ZQ H rfl rfl (by decide) (by omega) rfl ?_)
  ·clear H;intro bW w H;rw[z1] at H;refine Jo 13 H ?_;refine ZQ H rfl rfl (by decide) (by omega) rfl ?_;clear H;intro bT w H;rw[z2] at H;replace H:=Js [1,1,0] 0 H;refine AQ H ?_;clear H;intro bO w H
   refine AV H ?_;clear H;intro bS w H;replace H:=Js [9,0,0,0,0,0,0,0,0,0,0] 0 H;refine Jo 17 H ?_;refine YC H rfl rfl (by repeat first|exact .nil _|apply QY.cons rfl) rfl (by decide) (by simp;omega) rfl rfl ?_;clear H;intro vS w H;obtain⟨aS,cS,rfl⟩:=QD H (m:=m.objs.length+1) (by simp[hl2]) (by decide);refine AY H ?_;clear H;intro w H;refine Jx H ?_;replace H:=Js [2,2,2,2,6,2,2,2,2,0] 1 H;exact Y4 _ (.inl rfl) (AS hm' h2 h3 hl1 H) rfl fun w' H'=>⟨rfl,H'⟩
  ·clear H;intro bT w H;rw[z2] at H;refine Jo 9 H ?_;refine ZQ H rfl rfl (by decide) (by omega) rfl ?_;clear H;intro bW w H;rw[z1] at H;replace H:=Js [0,1,0] 0 H;refine AQ H ?_;clear H;intro bO w H
   refine AV H ?_;clear H;intro bS w H;replace H:=Js [9,0,0,0,0,0,0,0,0,0,0] 0 H;refine Jo 17 H ?_;refine YC H rfl rfl (by repeat first|exact .nil _|apply QY.cons rfl) rfl (by decide) (by simp;omega) rfl rfl ?_;clear H;intro vS w H;obtain⟨aS,cS,rfl⟩:=QD H (m:=m.objs.length+1) (by simp[hl2]) (by decide);refine AY H ?_;clear H;intro w H;refine Jx H ?_;replace H:=Js [2,2,2,2,6,2,2,2,2,0] 1 H;exact Y4 _ (.inl rfl) (AS hm' h2 h3 hl1 H) rfl fun w' H'=>⟨rfl,H'⟩
 ·clear H;intro bT w H;rw[z2] at H;refine Jw 9 11 H rfl rfl (ZQ H rfl rfl (by decide) (by omega) rfl ?_) (ZQ H rfl rfl (by decide) (by omega) rfl ?_)
  ·clear H;intro bW w H;rw[z1] at H;refine Jo 11 H ?_;refine ZQ H rfl rfl (by decide) (by omega) rfl ?_;clear H;intro bK w H;rw[z2] at H;replace H:=Js [1,0,0] 0 H;refine AQ H ?_;clear H;intro bO w H
   refine AV H ?_;clear H;intro bS w H;replace H:=Js [9,0,0,0,0,0,0,0,0,0,0] 0 H;refine Jo 17 H ?_;refine YC H rfl rfl (by repeat first|exact .nil _|apply QY.cons rfl) rfl (by decide) (by simp;omega) rfl rfl ?_;clear H;intro vS w H;obtain⟨aS,cS,rfl⟩:=QD H (m:=m.objs.length+1) (by simp[hl2]) (by decide);refine AY H ?_;clear H;intro w H;refine Jx H ?_;replace H:=Js [2,2,2,2,6,2,2,2,2,0] 1 H;exact Y4 _ (.inl rfl) (AS hm' h2 h3 hl1 H) rfl fun w' H'=>⟨rfl,H'⟩
  ·clear H;intro bK w H;rw[z2] at H;refine Jo 9 H ?_;refine ZQ H rfl rfl (by decide) (by omega) rfl ?_;clear H;intro bW w H;rw[z1] at H;replace H:=Js [0,0,0] 0 H;refine AQ H ?_;clear H;intro bO w H
   refine AV H ?_;clear H;intro bS w H;replace H:=Js [9,0,0,0,0,0,0,0,0,0,0] 0 H;refine Jo 17 H ?_;refine YC H rfl rfl (by repeat first|exact .nil _|apply QY.cons rfl) rfl (by decide) (by simp;omega) rfl rfl ?_;clear H;intro vS w H;obtain⟨aS,cS,rfl⟩:=QD H (m:=m.objs.length+1) (by simp[hl2]) (by decide);refine AY H ?_;clear H;intro w H;refine Jx H ?_;replace H:=Js [2,2,2,2,6,2,2,2,2,0] 1 H;exact Y4 _ (.inl rfl) (AS hm' h2 h3 hl1 H) rfl fun w' H'=>⟨rfl,H'⟩
end Go.Proofs.YtmjdnljneifpcaaGreatDoor
namespace Go.Proofs.YtmjdnljneifpcaaGreatDoor
open Go.SL
@[reducible] def YE (e:Q9):List Value:=[.int .i64 e.addr,.int .i64 e.region,.bool e.held,.bool e.pinned]
def Y2 (t:QH):List Value:=match t.ent with
 | none=>[.int .i64 t.gen,.bool false,.int .i64 0,.int .i64 0,.bool false,.bool false]
 | some e=>[.int .i64 t.gen,.bool true,.int .i64 e.addr,.int .i64 e.region,.bool e.held,.bool e.pinned]
theorem Yt (t:QH):(Y2 t).length=6:=by unfold Y2;split <;> rfl
theorem aR (t:QH):(Y2 t)[0]? = some (.int .i64 t.gen):=by unfold Y2;split <;> rfl
theorem aW (t:QH):(Y2 t)[1]? = some (.bool t.ent.isSome):=by
 unfold Y2;split
 ·rename_i h;rw[h];rfl
 ·rename_i h;rw[h];rfl
def busy (t:QH):Bool:=t.ent.isSome || t.gen == 255
def Zc (ts:List QH):Nat:=(ts.filter fun t=>t.ent.isNone && t.gen == 255).length
def Gk (ts:List QH):Nat:=(ts.filter busy).length
structure UE (ts:List QH) (x:Nat):Prop where
 bits:ZB ts.length x
 bit:∀ (i:Nat) (t:QH),ts[i]? = some t→x.testBit i=busy t
 gen:∀ (i:Nat) (t:QH),ts[i]? = some t→t.gen≤255
theorem aB {α:Type} {ts:List α} {f:α→Bool} {x:Nat} (h:∀ (i:Nat) (t:α),ts[i]? = some t→x.testBit i=f t):YP ts.length x=(ts.filter f).length:=by
 unfold YP
 have e2:∀ (l:List α) (k:Nat),(∀ (i:Nat) (t:α),l[i]? = some t→x.testBit (k+i)=f t)→((List.range' k l.length).filter fun i=>x.testBit i).length=(l.filter f).length:=by
  intro l
  induction l with
  | nil=>intro k _;rfl
  | cons a l ih=>
   intro k hk;have h0:=hk 0 a rfl;have hr:=ih (k+1) (fun i t ht=>by rw[show k+1+i=k+(i+1) by omega];exact hk (i+1) t (by simpa using ht));rw[List.length_cons,List.range'_succ,List.filter_cons,List.filter_cons];rw[Nat.add_zero] at h0;rw[h0];split
   ·simp[hr]
   ·exact hr
 rw[List.range_eq_range'];exact e2 ts 0 (fun i t ht=>by rw[Nat.zero_add];exact h i t ht)
theorem UE.cnt {ts:List QH} {x:Nat} (h:UE ts x):YP ts.length x=Gk ts:=aB h.bit
def Qh (p:Nat) (ts:List QH):Q2:=ex fun q:Value×Nat×Nat=>star [prop (UE ts q.2.2),pts p (row 144 [q.1,pp q.2.1,.int .i64 (Zc ts)]),QC 199 6 q.1 (ts.flatMap Y2),ZT q.2.1 ts.length q.2.2]
theorem RN [Q4] {w:World} {p:Nat} {ts:List QH} {l:List Q2} (H:Q0 w (Qh p ts::l)):∃ b c s u x,UE ts x∧ts.length≤c ∧
  Q0 w (pts p (row 144 [.slice (some ⟨b,0,none⟩) ts.length c,pp u,.int .i64 (Zc ts)])::pts b (row 199 (ts.flatMap Y2++s))::ZT u ts.length x::l) ∧
  ∀ w' l' ts' x',ts'.length=ts.length→Zc ts'=Zc ts→UE ts' x'→Q0 w' (pts p (row 144 [.slice (some ⟨b,0,none⟩) ts.length c,pp u,.int .i64 (Zc ts)])::pts b (row 199 (ts'.flatMap Y2++s))::ZT u ts.length x'::l')→Q0 w' (Qh p ts'::l'):=by
 obtain⟨⟨v,u,x⟩,H⟩:=Q0.ex.1 H;have H:=Q0.star.1 H;obtain⟨h,H⟩:=Q0.prop.1 H;replace H:Q0 w (pts p (row 144 [v,pp u,.int .i64 (Zc ts)])::QC 199 6 v (ts.flatMap Y2)::ZT u ts.length x::l):=H;obtain⟨a,c,rfl⟩:=QD H.drop (Gd Yt ts) (by decide);obtain⟨b,s,rfl,H,hcap,hsp,hclose⟩:=Yv H.swap h.bits.pos;refine⟨b,c,s,u,x,h,hcap,H.swap,fun w' l' ts' x' e1 e2 h' H'=>?_⟩;have H':=hclose w' _ (ts'.flatMap Y2) (by rw[Gd Yt,Gd Yt,e1]) H'.swap;refine Q0.ex.2 ⟨(.slice (some ⟨b,0,none⟩) ts.length c,u,x'),Q0.star.2 (Q0.prop.2 ⟨h',?_⟩)⟩;show Q0 w' (pts p (row 144 [_,pp u,.int .i64 (Zc ts')])::QC 199 6 _ _::ZT u ts'.length x'::l');rw[e1,e2];exact H'.swap
theorem aC [Q4] (n:Nat) (h1:1≤n) (h2:n≤63) {w:World} {fr:List Q2} (H:Q0 w fr) :
  Calls Tryz.prog 81 #[.int .i64 n] w (ret fun v w'=>∃ p,v = .tuple #[pp p,.int .i64 0]∧Q0 w' (Qh p (List.replicate n ⟨0,none⟩)::fr)):=by
 refine QQ Tryz.func81 rfl (by kernel_rfl) ?_;refine X5 H ?_;rw[show decide ((n:Int) < 1)=false from decide_eq_false (by omega)];refine XP H ?_;rw[show decide ((n:Int) > 4096)=false from decide_eq_false (by omega)];refine Y0 H ?_;refine YZ H ?_;refine Jc rfl rfl (M0 n (by omega) (by omega) H) ?_;clear H;rintro v w ⟨u,rfl,H⟩;refine Zh H ?_;refine YZ H ?_;refine Q5 rfl (ZQ H rfl rfl (by decide) (by omega) rfl ?_);clear H;intro b18 w H;refine Jv ?_;refine Uv H ?_;clear H;intro b21 w H;refine J2 H ?_
 have hz:Vv (Qt (.agg #[.int .i64 0,.bool false,.int .i64 0,.int .i64 0,.bool false,.bool false])) n=(List.replicate n (⟨0,none⟩:QH)).flatMap Y2:=by
  clear H;clear h1 h2
  induction n with
  | zero=>rfl
  | succ n ih=>show _++Vv _ n=_;rw[ih,List.replicate_succ,List.flatMap_cons];rfl
 have hlen:(List.replicate n (⟨0,none⟩:QH)).length=n:=by simp
 have hgone:Zc (List.replicate n (⟨0,none⟩:QH))=0:=by
  unfold Zc;rw[List.filter_eq_nil_iff.2 (fun t ht=>by rw[List.eq_of_mem_replicate ht];simp)];rfl
 have hok:UE (List.replicate n (⟨0,none⟩:QH)) 0:=by
  refine⟨by rw[hlen];exact⟨by omega,h2,Nat.two_pow_pos _⟩,fun i t ht=>?_,fun i t ht=>?_⟩
  ·rw[List.eq_of_mem_replicate (List.mem_of_getElem? ht),Nat.zero_testBit];rfl
  ·rw[List.eq_of_mem_replicate (List.mem_of_getElem? ht)];simp
 have hbm:BM u n (List.replicate ((n+63) / 64) 0) 0=ZT u n 0:=by
  rw[show (n+63) / 64=1 by omega]
  have:YP n 0=0:=by
   unfold YP;rw[List.filter_eq_nil_iff.2 (fun i _=>by simp)];rfl
  show BM u n [0] 0=BM u n [0] (YP n 0);rw[this]
 rw[hz,hbm] at H;refine Q3 (Jy H rfl fun w' H'=>⟨_,rfl,Q0.ex.2 ⟨(.slice (some ⟨b18,0,none⟩) n n,u,0),Q0.star.2 (Q0.prop.2 ⟨hok,?_⟩)⟩⟩);show Q0 w' (pts b21 (row 144 [_,pp u,.int .i64 (Zc (List.replicate n (⟨0,none⟩:QH)))])::QC 199 6 _ _::ZT u (List.replicate n (⟨0,none⟩:QH)).length 0::fr);rw[hgone,hlen];exact H'
theorem Mp [Q4] (p:Nat) (ts:List QH) {w:World} {fr:List Q2} (H:Q0 w (Qh p ts::fr)) :
  Calls Tryz.prog 90 #[pp p] w (ret fun v w'=>v = .int .i64 ((ts.length - Gk ts:Nat):Int)∧Q0 w' (Qh p ts::fr)):=by
 obtain⟨b,c,s,u,x,hok,hc,H,hclose⟩:=RN H;have hb:=hok.bits.le;have hcnt:=hok.cnt;have hle:=EC ts.length x;refine QQ Tryz.func90 rfl (by kernel_rfl) ?_;refine DX H ?_;clear H;intro w H;refine Uw H ?_;refine Kk 4 rfl (Q8.none rfl) rfl (by kernel_rfl) ?_;refine Ww H ?_;refine Jl 8 [9] H ?_;replace H:=Js [2,0,0] 0 H;refine Jo 9 H ?_;refine Jk rfl rfl (HV u _ _ _ H) ?_;clear H;rintro v w ⟨rfl,H⟩;refine DU H ?_;replace H:=Js [1,1,0] 0 H;refine Q3 (Jy (hclose _ _ ts x rfl rfl hok H) rfl fun w' H'=>⟨?_,H'⟩);show Value.int .i64 (IntKind.i64.wrap ((ts.length:Int) - (YP ts.length x:Int)))=_;rw[QT (by omega) (by omega),← hcnt];congr 1;omega
end Go.Proofs.YtmjdnljneifpcaaGreatDoor
