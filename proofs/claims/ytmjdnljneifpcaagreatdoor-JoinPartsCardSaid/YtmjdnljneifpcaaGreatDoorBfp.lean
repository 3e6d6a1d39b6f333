/- Cells: what is proved on the way: every input of the statement; no condition. Texts joined: JoiD JoiQ MdlP ModF ModG ModH ModI. -/
import Derived.Test.YtmjdnljneifpcaaGreatDoorBfe
import Derived.Test.YtmjdnljneifpcaaGreatDoorBfn
import Derived.Test.YtmjdnljneifpcaaGreatDoorBfd
import Derived.Test.YtmjdnljneifpcaaGreatDoorBfj
import Derived.Test.YtmjdnljneifpcaaGreatDoorBfk
import Derived.Test.YtmjdnljneifpcaaGreatDoorBfo
set_option linter.unusedVariables false
set_option linter.unusedSimpArgs false
set_option linter.unusedSectionVars false
namespace Go.Proofs.YtmjdnljneifpcaaGreatDoor
open List
open Go.SL
theorem Ow [Q4] (p:Nat) (q:Xk) (last:Nat) (par:List (Int×Int)) (region:Int) {w:World} {fr:List Q2} (H:Q0 w (Qo q.trp last par::VU p q::fr)) :
  Calls Tryz.prog 54 #[pp p,.int .i64 region] w (ret fun v w'=>v = .int .i64 (if (QV par region).isSome then 0 else 15)∧Q0 w' (Qo q.trp last par::VU p q::fr)):=by
 refine QQ Tryz.func54 rfl (by kernel_rfl) ?_;refine J7 H ?_;refine Z0 (fun ms σ w=>ms=[]∧(QV par region).isSome=true∧Q0 w (Qo q.trp last par::VU p q::fr)) ?_ ?_
 ·refine CZ H ?_;refine Vb H ?_;refine Jc rfl rfl (JC q.trp last par region H) ?_;rintro v w ⟨rfl,H⟩;cases hf:(QV par region).isSome with
  | true=>
   refine DN H ?_;exact .inl ⟨rfl,rfl,rfl,H⟩
  | false=>
   refine N5 H ?_;exact Q3 (.inr ⟨by simp,Jy H rfl fun w' H'=>⟨rfl,H'⟩⟩)
 ·rintro ms σ w ⟨rfl,hf,H⟩;rw[hf];refine Vg H ?_;exact Q3 (Jy H rfl fun w' H'=>⟨rfl,H'⟩)
theorem wL [Q4] {w:World} {a b:Q2} {l:List Q2} (H:Q0 w (a::b::l)):∃ X,X=l∧Q0 w (a::b::X):=⟨l,rfl,H⟩
def AS (s:CS) (l:List Int) (G:List Nat):Prop:=G.Pairwise (· < ·)∧∀ k,k∈G↔∃ g e,s.tab[k]? = some ⟨g,some e⟩∧e.region∈l
theorem AS.len {s:CS} (hw:WF s) {l:List Int} {G:List Nat} (h:AS s l G):G.length≤64:=by
 have:=BK G 0 64 (fun x hx=>⟨Nat.zero_le _,by
  obtain⟨g,f,h3,_⟩:=(h.2 x).1 hx;have h4:=(List.getElem?_eq_some_iff.1 h3).1;have:=hw.slots.2;omega⟩) h.1
 omega
theorem AS.step {s:CS} {l:List Int} {G M:List Nat} {x:Int} (h:AS s l G) (hx:x∉l) (hM:M.Pairwise (· < ·)) (hm:∀ i,i∈M↔∃ g e,s.tab[i]? = some ⟨g,some e⟩∧e.region=x):(∀ k∈G,k∉M)∧AS s (l++[x]) (Ki G M):=by
 have hd:∀ k∈G,k∉M:=fun k hk VP=>by
  obtain⟨g,e,h1,h2⟩:=(h.2 k).1 hk;obtain⟨g',e',h3,h4⟩:=(hm k).1 VP;rw[h1] at h3;injection h3 with h3
  injection h3 with _ h3
  injection h3 with h3
  subst h3;exact hx (h4▸h2)
 refine⟨hd,jc h.1 hM hd,fun k=>?_⟩;rw[uY,h.2,hm];constructor
 ·rintro(⟨g,e,h1,h2⟩|⟨g,e,h1,h2⟩)
  ·exact⟨g,e,h1,mem_append.2 (.inl h2)⟩
  ·exact⟨g,e,h1,mem_append.2 (.inr (mem_singleton.2 h2))⟩
 ·rintro⟨g,e,h1,h2⟩
  rcases mem_append.1 h2 with h2|h2
  ·exact .inl ⟨g,e,h1,h2⟩
  ·exact .inr ⟨g,e,h1,mem_singleton.1 h2⟩
theorem Xs.rk {s s':CS} {D:List Rf} (h:Xs s D s') (hR:We s):We s':=by
 refine⟨h.nd,fun r t hr=>?_⟩;rw[h.rem] at hr;split at hr
 ·cases hr
 ·obtain⟨k,p,g,e,h1,h2,h3⟩:=hR.key r t hr;exact⟨k,p,g,Y1 D k e,h1,h.tab k _ h2,by rw[Cv];exact h3⟩
def EC (s:CS) (G ks:List Nat) (D:List Rf):Prop:=∀ r:Rf,r∈D↔(∃ t∈ks,QV s.rem r=some ((t:Nat):Int))∧¬ ∃ k∈G,r.1=((k:Nat):Int)
structure Wk (s:CS) (ks:List Nat) (s':CS):Prop where
 size:s'.size=s.size
 own:s'.own=s.own
 lays:s'.lays=s.lays
 last:s'.last=s.last
 par:s'.par=s.par
 sps:s'.sps=s.sps
 tabl:s'.tab.length=s.tab.length
 tab:∀ (k:Nat) (t:QW),s.tab[k]? = some t→s'.tab[k]? = some (if k∈ks then ⟨t.gen,none⟩ else t)
 nd:(s'.rem.map (·.1)).Nodup
 rem:∀ r,QV s'.rem r=if ∃ k∈ks,r.1=((k:Nat):Int) then none else QV s.rem r
theorem Wk.start {s:CS} (h:(s.rem.map (·.1)).Nodup):Wk s [] s:=
 ⟨rfl,rfl,rfl,rfl,rfl,rfl,rfl,fun k t hk=>by rw[if_neg (by simp)];exact hk,h,fun r=>by rw[if_neg (by simp)]⟩
theorem Wk.step {s s' s2:CS} {ks:List Nat} (h:Wk s ks s') {k n:Nat} {e:Q9} (hk:s.tab[k]? = some ⟨n,some e⟩) (hL:Od s' k n s2):Wk s (ks++[k]) s2:=by
 refine⟨hL.size.trans h.size,hL.own.trans h.own,hL.lays.trans h.lays,hL.last.trans h.last,hL.par.trans h.par,hL.sps.trans h.sps,by rw[hL.tab,length_set];exact h.tabl,fun j t hj=>?_,hL.nd,fun r=>?_⟩
 ·have G4:=h.tab j t hj;have ZS:=(List.getElem?_eq_some_iff.1 G4).1;rw[hL.tab];by_cases Xj:k=j
  ·subst Xj;rw[hk] at hj;injection hj with hj
   subst hj;rw[getElem?_set_self ZS,if_pos (by simp)]
  ·rw[getElem?_set_ne Xj,G4]
   have h1:j∈ks++[k]↔j∈ks:=by
    rw[mem_append,mem_singleton];exact⟨fun h=>h.elim id fun h=>absurd h.symm Xj,.inl⟩
   by_cases h2:j∈ks
   ·rw[if_pos h2,if_pos (h1.2 h2)]
   ·rw[if_neg h2,if_neg (fun h=>h2 (h1.1 h))]
 ·rw[hL.rem,h.rem];by_cases h1:r.1=((k:Nat):Int)
  ·rw[if_pos h1,if_pos ⟨k,by simp,h1⟩]
  ·rw[if_neg h1];by_cases h2:∃ j∈ks,r.1=((j:Nat):Int)
   ·obtain⟨j,h3,h4⟩:=h2;rw[if_pos ⟨j,h3,h4⟩,if_pos ⟨j,mem_append.2 (.inl h3),h4⟩]
   ·rw[if_neg h2,if_neg];rintro⟨j,h3,h4⟩
    rcases mem_append.1 h3 with h3|h3
    ·exact h2 ⟨j,h3,h4⟩
    ·rw[mem_singleton] at h3;subst h3;exact h1 h4
structure Bq (s:CS) (l:List Int) (s':CS):Prop where
 size:s'.size=s.size
 own:s'.own.length=s.own.length
 lays:s'.lays=s.lays
 last:s'.last=s.last
 par:s'.par=l.foldl QO s.par
 tab:s'.tab=s.tab
 rem:s'.rem=s.rem
 sps:∀ y∈s.sps,y.1∉l→y∈s'.sps
 owns:∀ j,s'.own.getD j 0=if ((s.own.getD j 0:Nat):Int)∈l then 0 else s.own.getD j 0
theorem Bq.start (s:CS):Bq s [] s:=⟨rfl,rfl,rfl,rfl,rfl,rfl,rfl,fun y h _=>h,fun j=>by rw[if_neg (by simp)]⟩
theorem Bq.step {s s':CS} {l:List Int} (h:Bq s l s') (x:Int) {own':List Nat} (ho:own'.length=s'.own.length) (sps:List (Int×Nat×QP)) (mns:List (Int×Nat×List Nat)) (Yz:∀ y∈s'.sps,y.1≠x→y∈sps) (hog:∀ j,own'.getD j 0=if ((s'.own.getD j 0:Nat):Int)=x then 0 else s'.own.getD j 0):Bq s (l++[x]) { s' with own:=own',par:=QO s'.par x,sps:=sps,mns:=mns }:=
 ⟨h.size, ho.trans h.own, h.lays, h.last, by show QO s'.par x = _; rw [h.par, foldl_append]; rfl, h.tab, h.rem, fun y hy hn => Yz y (h.sps y hy fun h1 => hn (mem_append.2 (.inl h1))) fun h1 => hn (mem_append.2 (.inr (by rw [h1]; exact mem_singleton.2 rfl))), fun j => by
  show own'.getD j 0=_;rw[hog,h.owns];by_cases h1:((s.own.getD j 0:Nat):Int)∈l
  ·rw[if_pos h1,if_pos (mem_append.2 (.inl h1))];split <;> rfl
  ·rw[if_neg h1];by_cases h2:((s.own.getD j 0:Nat):Int)=x
   ·rw[if_pos h2,if_pos (mem_append.2 (.inr (by rw[h2];exact mem_singleton.2 rfl)))]
   ·rw[if_neg h2,if_neg (fun h3=>(mem_append.1 h3).elim h1 fun h4=>h2 (mem_singleton.1 h4))]⟩
theorem Ox:∀ (ks:List Int) {m:List (Int×Int)},(m.map (·.1)).Nodup→((ks.foldl QO m).map (·.1)).Nodup
 | [],_,h=>h
 | k::ks,_,h=>Ox ks (W5 h)
theorem wM {m:List (Int×Int)} {k x:Int} (QA:k≠x) (hx:x∈m.map (·.1)):x∈(QO m k).map (·.1):=by
 induction m with
 | nil=>exact hx
 | cons a m ih=>
  unfold QO;split
  ·rename_i h;rw[map_cons,mem_cons] at hx
   rcases hx with hx|hx
   ·exact absurd (hx.trans h).symm QA
   ·exact hx
  ·rw[map_cons,mem_cons] at hx ⊢
   rcases hx with hx|hx
   ·exact .inl hx
   ·exact .inr (ih hx)
theorem kj {x:Int}:∀ {ks:List Int} {m:List (Int×Int)},x∉ks→x∈m.map (·.1)→x∈(ks.foldl QO m).map (·.1)
 | [],_,_,h=>h
 | k::ks,_,h1,h=>kj (ks:=ks) (fun h2=>h1 (mem_cons_of_mem _ h2)) (wM (fun e=>h1 (e▸mem_cons_self)) h)
theorem wN {own own' C:List Nat} {r:Int} (hog:∀ j,own'.getD j 0=if j∈C then 0 else own.getD j 0) (ho:∀ c,c∈C↔∃ q:Nat,own[c]? = some q∧(q:Int)=r∧q≠0) (j:Nat):own'.getD j 0=if ((own.getD j 0:Nat):Int)=r then 0 else own.getD j 0:=by
 rw[hog j];by_cases hj:j∈C
 ·obtain⟨q',h1,h2,_⟩:=(ho j).1 hj;rw[if_pos hj,if_pos (by rw[getD_eq_getElem?_getD,h1];exact h2)]
 ·rw[if_neg hj];split
  ·rename_i h1;rw[getD_eq_getElem?_getD] at h1 ⊢;cases h2:own[j]? with
   | none=>rfl
   | some y=>
    rw[h2] at h1;have h1:((y:Nat):Int)=r:=h1;by_cases h3:y=0
    ·exact h3
    ·exact absurd ((ho j).2 ⟨y,h2,h1,h3⟩) hj
  ·rfl
def Oy (s:CS) (L:List Int) (s':CS):Prop:=∃ (G:List Nat) (Dl:List Rf) (s1 s2:CS),AS s L G∧Xs s Dl s1∧EC s G G Dl∧Wk s1 G s2∧Bq s2 L s'
set_option maxRecDepth 10000 in
theorem km [Q4] (p:Nat) (s:CS) (region:Int) (hT:ZK s.par) (Qx:(QV s.par region).isSome=true) (hI:Inv s) (Oz:∀ (k g:Nat) (e:Q9),s.tab[k]? = some ⟨g,some e⟩→g < 255) {w:World} {fr:List Q2} (H:Q0 w (QD p s::fr)) :
  Calls Tryz.prog 14 #[pp p,.int .i64 region] w (ret fun v w'=>∃ u L s',v = .tuple #[u,.int .i64 0]∧L.Nodup∧L.Pairwise (·≤·)∧(∀ c,c∈L↔UK s.par region c)∧L.length≤s.par.length∧Oy s L s'∧Q0 w' (IL u L::QD p s'::fr)):=by
 obtain⟨q,mem,hw,hm,H⟩:=YQ H;refine QQ Tryz.func14 rfl (by kernel_rfl) ?_;refine GW H ?_;intro b2 w H;refine J4 H ?_;replace H:=Js [6,1,0,0,0,0,0] 0 H;refine XP H ?_;refine Jc rfl rfl (Ow p q s.last s.par region H) ?_;rintro v w ⟨rfl,H⟩;rw[if_pos Qx];refine Za H ?_;refine Ky H ?_;refine Jc rfl rfl (u9 q.trp s.last s.par region hT Qx (by have:=hw.par.1;omega) H) ?_;rintro v w ⟨u,L,rfl,Rv,Uy,Ha,bV,H⟩;obtain⟨aL,cL,rfl⟩:=QI H (YZ L) (by decide);refine Gt H ?_;refine Ui H ?_;refine Jc rfl rfl (T5 H) ?_;rintro v w ⟨bg,rfl,H⟩;refine VO H ?_;intro b9 w H;refine BY H ?_;intro w H;refine J2 H ?_;refine XN H ?_;have OS:L.length≤64:=by have:=hw.par.1;omega
 have Lk:∀ x∈L,x∈s.mns.map (·.1):=fun x hx=>by
  have h1:=((Ha x).1 hx).live Qx;rw[hw.mkeys];cases hf:QV s.par x with
  | none=>rw[hf] at h1;cases h1
  | some y=>exact mem_map.2 ⟨(x,y),KE hf,rfl⟩
 replace H:=Js [2,1,0,11,1,1,8,0,0,0,0,0,0,0,0] 0 H;obtain⟨X,hX,H⟩:=wL H;refine J6 H ?_;refine Qt (fun ms σ w=>ms=[]∧∃ G:List Nat,AS s L G∧σ 2=pp b2∧σ 7 = .slice aL L.length cL∧σ 9=pp b9∧Q0 w (IL (.slice aL L.length cL) L::VV bg G::X)) ?_ ?_
 ·refine Qd ?_;refine Qp (fun ms σ w z=>ms=[]∧∃ (i:Nat) (G:List Nat),i≤L.length∧z=L.length - i∧AS s (L.take i) G∧σ 2=pp b2∧σ 7 = .slice aL L.length cL∧σ 9=pp b9∧σ 36 = .slice aL L.length cL∧σ 37 = .int .i64 L.length∧σ 38 = .int .i64 i∧Q0 w (IL (.slice aL L.length cL) L::VV bg G::X)) (m:=L.length) ⟨rfl,0,[],by omega,rfl,⟨List.Pairwise.nil,fun k=>by simp⟩,rfl,rfl,rfl,rfl,rfl,rfl,H⟩ ?_;rintro ms σ w z ⟨rfl,i,G,hi,rfl,hG,g2,g7,g9,g36,g37,g38,H⟩;rw[Q1 g2,Q1 g7,Q1 g9,Q1 g36,Q1 g37,Q1 g38];refine J7 H ?_;refine Qk rfl (fun h=>QE ?_) (fun h=>Qu ?_)
  ·have Q6:i < L.length:=by omega
   have hx:=getElem?_eq_getElem Q6;have Qi:L.take (i+1)=L.take i++[L[i]]:=by rw[take_add_one,hx];rfl
   have Ke:L[i]∉L.take i:=fun hh=>by
    obtain⟨j,hj⟩:=getElem?_of_mem hh;rw[getElem?_take] at hj;split at hj
    ·rename_i Yg;obtain⟨Bg,Kf⟩:=List.getElem?_eq_some_iff.1 hj;exact(pairwise_iff_getElem.1 Rv) j i Bg Q6 Yg Kf
    ·cases hj
   have Bk:=Lk _ (getElem_mem Q6);generalize L[i]=x at hx Qi Ke Bk;obtain⟨b',ZX⟩:=RK (l:=s.mns) (f:=fun x=>x.1) (g:=fun x=>x.2.1) (k:=x) Bk;obtain⟨⟨r1,b1,M⟩,m1,m2,Vl,VD,YE⟩:=RX ZX;have VD:r1=x:=VD;have YE:b1=b':=YE;subst VD YE;have Xm:QV (s.mns.map VX) r1=some b1:=ZX;have hM:=hw.mine (r1,b1,M) (by rw[Vl];simp);have Br:AS s [r1] M:=⟨hM.1,fun k=>by rw[hM.2];simp⟩;have wO:=Br.len hw;have Lm:=hG.len hw;obtain⟨MR,Ta⟩:=hG.step Ke hM.1 hM.2;rw[hX] at H;obtain⟨bT,sT,rfl,H,QJ⟩:=VY H (by omega);refine Z8 H ?_;refine Jd ?_;refine Q5 rfl (QC H rfl (by simpa using RJ hx) rfl ?_);refine J0 H ?_;replace H:=QJ _ _ H;replace H:=Js [3,0,0,0] 0 H;replace H:Q0 w (VV b1 M::star ((m1++m2).map VG)::_):=(Q0.pick (R:=VG) (x:=(r1,b1,M)) Vl).1 H;replace H:=Js [3,0,0,0] 0 H;refine J1 H ?_;intro w H;refine Jl 0 [7] H ?_;refine Jl 1 [7] H ?_;refine Ja 2 ?_;refine Jf 3 ?_;refine Jl 4 [] H ?_;refine Ja 5 ?_;refine Rc 6 [] (key:=r1) H rfl (Q8.none rfl) rfl rfl Vp (by kernel_rfl) ?_;rw[Xm];refine Jo 7 H ?_;refine Jk rfl rfl (uU bg b1 G M hG.1 hM.1 MR (by omega) (by omega) H) ?_;rintro v w ⟨rfl,H⟩;refine Jx H ?_;replace H:=Js [1,1,0,0] 0 H;replace H:=(Q0.pick (R:=VG) (x:=(r1,b1,M)) Vl).2 H;replace H:=Js [2,1,1,0] 0 H;refine J3 H ?_;exact⟨_,⟨rfl,i+1,Ki G M,Q6,rfl,by rw[Qi];exact Ta,rfl,rfl,rfl,rfl,rfl,Qg (by omega),by rw[hX];exact H⟩,by omega⟩
  ·have V0:i=L.length:=by omega
   subst V0;rw[take_length] at hG;exact⟨rfl,rfl,G,hG,rfl,rfl,rfl,H⟩
 rintro ms σ w ⟨rfl,G,hG,g2,g7,g9,H⟩;rw[Q1 g2,Q1 g7,Q1 g9];rw[hX] at H;clear hX;have Lm:=hG.len hw;replace H:=Js [1,0] 0 H;refine UJ H ?_;refine Jc rfl rfl (OT bg G (by omega) H) ?_;rintro v w ⟨bv,av,cv,rfl,H⟩;refine J2 H ?_;replace H:=Js [6,9,9,9,9,9,9,9,7,5,0,0,0,0,0,0,0] 0 H;replace H:=Lb hw hm H;refine J6 H ?_;refine Qt (fun ms σ w=>(∃ (D:Nat) (s1:CS) (Dl:List Rf),ms=[D]∧Xs s Dl s1∧EC s G G Dl∧Q0 w (Xr p q s1::VV bg G::pts b9 (row 61 [pp bg])::pts b2 (row 44 [pp p])::pts D (.deferred (some []))::IL (.slice aL L.length cL) L::Qo q.trp s.last (L.foldl QO s.par)::fr))∧σ 2=pp b2∧σ 7 = .slice aL L.length cL∧σ 9=pp b9) ?_ ?_
 ·refine Qd (W9 (a:=[]) (b:=[pp bv]) H rfl (fun yl D w H=>?_));generalize hL:LR _ yl _ _ _ _ D .ready=LRR at H ⊢;obtain⟨J,hJ⟩:∃ J:List Nat→Q2,J=fun ks=>ex fun x:CS×List Rf=>star [prop (Xs s x.2 x.1∧EC s G ks x.2),LRR,Xr p q x.1,VV bg G,pts b9 (row 61 [pp bg]),pts b2 (row 44 [pp p])]:=⟨_,rfl⟩
  have VQ:∀ (ks:List Nat) (s1:CS) (Dl:List Rf) (w:World) (l':List Q2),Xs s Dl s1→EC s G ks Dl→Q0 w (LRR::Xr p q s1::VV bg G::pts b9 (row 61 [pp bg])::pts b2 (row 44 [pp p])::l')→Q0 w (J ks::l'):=by
   intro ks s1 Dl w l' h1 h2 H;rw[hJ];exact Q0.ex.2 ⟨(s1,Dl),Q0.star.2 (Q0.prop.2 ⟨⟨h1,h2⟩,H⟩)⟩
  have YB:∀ (ks:List Nat) (w:World) (l':List Q2),Q0 w (J ks::l')→∃ s1 Dl,Xs s Dl s1∧EC s G ks Dl∧Q0 w (LRR::Xr p q s1::VV bg G::pts b9 (row 61 [pp bg])::pts b2 (row 44 [pp p])::l'):=by
   intro ks w l' H;rw[hJ] at H;obtain⟨⟨s1,Dl⟩,H⟩:=Q0.ex.1 H;obtain⟨⟨h1,h2⟩,H⟩:=Q0.prop.1 (Q0.star.1 H);exact⟨s1,Dl,h1,h2,H⟩
  replace H:=Js [0,1,3,4,4,1,1,0,0,0] 0 H;replace H:=VQ [] s [] _ _ (Xs.start hI.nd) (fun r=>by simp) H;refine call (Oa yl bv av cv G (by omega) J ?_ H) ?_
  ·intro ks k tt rest w Yd H;obtain⟨s1,Dl,Vo,Y5,H⟩:=YB _ _ _ H;subst hL;refine Kp (args:=[.int .i64 k]) H rfl rfl ?_;refine Vg H ?_;refine⟨rfl,_,H,fun w H=>Qd ?_⟩;generalize hLB:LR _ yl _ _ _ _ D .busy=LB at H ⊢;replace H:=Js [1,0] 0 H;obtain⟨mem1,Hd,ZQ,H⟩:=La H;replace H:=Js [5,0,0,0,0,0] 0 H;refine Ky H ?_;refine Jc rfl rfl (uS q.rp s1.rem (Oc Hd (Vo.rk hI.rk)) k H) ?_;rintro v w ⟨rs,bZ,wP,H⟩;obtain⟨ar,cr,rfl⟩:=QI H (Fy rs) (by decide);refine WU H ?_
   have AI:rs.length≤1000000:=by
    have h1:=UQ (l₁:=rs) (l₂:=s1.rem.map (·.1)) (wP.imp fun h=>by
     rintro rfl
     rcases h with h|⟨_,h⟩ <;> omega) (fun r hr=>by
     have:=(bZ r).1 hr;exact mem_map.2 ⟨(r,((k:Nat):Int)),KE this,rfl⟩)
    rw[length_map] at h1;have:=Oc Hd (Vo.rk hI.rk);omega
   have U0:k∉ks:=fun h=>by
    have h1:=hG.1;rw[Yd,pairwise_append] at h1;have:=h1.2.2 k h k mem_cons_self;omega
   replace H:=Js [2,2,2,2,2,1,1,1,1,1,0] 0 H;replace H:=Lb Hd ZQ H;refine J6 H ?_;refine Qd (Qp (fun ms σ w z=>ms=[]∧∃ (i:Nat) (s2:CS) (D2:List Rf),i≤rs.length∧z=rs.length - i∧Xs s D2 s2∧(∀ r,r∈D2↔r∈Dl∨(r∈rs.take i∧¬ ∃ k∈G,r.1=((k:Nat):Int)))∧σ 2=pp b2∧σ 9=pp b9∧σ 59 = .slice ar rs.length cr∧σ 60 = .int .i64 rs.length∧σ 61 = .int .i64 i∧Q0 w (Xr p q s2::QF 133 2 (.slice ar rs.length cr) (Gz rs)::LB::VV bg G::pts b9 (row 61 [pp bg])::pts b2 (row 44 [pp p])::rest)) (m:=rs.length) ⟨rfl,0,s1,Dl,by omega,rfl,Vo,(fun r=>by simp),rfl,rfl,rfl,rfl,rfl,H⟩ ?_);clear H Hd ZQ;rintro ms σ w z ⟨rfl,i,s2,D2,hi,rfl,ZU,Zl,g2,g9,g59,g60,g61,H⟩;rw[Q1 g2,Q1 g9,Q1 g59,Q1 g60,Q1 g61];refine J7 H ?_;refine Qk rfl (fun h=>QE ?_) (fun h=>Qu ?_)
   ·have Q6:i < rs.length:=by omega
    have hx:=getElem?_eq_getElem Q6;have Qi:rs.take (i+1)=rs.take i++[rs[i]]:=by rw[take_add_one,hx];rfl
    have VR:=(bZ _).1 (getElem_mem Q6);generalize rs[i]=rr at hx Qi VR;rw[Vo.rem] at VR;split at VR
    ·cases VR
    rename_i Ol;obtain⟨kk,pl,g,e,a,b,f,rfl,hk,Us,KX,ZD,AN,Cw,hka⟩:=(hI.rem _ _).1 VR;have VP:=ZU.tab kk _ hk;replace H:=Js [1,0] 0 H;obtain⟨bT,sT,rfl,H,QJ⟩:=VY H (by omega);refine Z8 H ?_;refine Jd ?_;rw[show 0+((i:Nat):Int).toNat*2=0+i*2 by simp];refine Q5 rfl (Vy H rfl (gc hx) rfl ?_);refine VO H ?_;intro b14 w H;refine J5 H ?_;intro w H;refine J2 H ?_;replace H:=QJ _ _ H.swap;replace H:=Js [4,0,0,0,0] 0 H;refine UJ H ?_;refine Gs H ?_;refine Jc rfl rfl (gN bg G kk hG.1 (by omega) H) ?_;rintro v w ⟨rfl,H⟩;by_cases GL:kk∈G
    ·rw[decide_eq_true GL];refine BV H ?_;replace H:=Js [3,1,2,0,1,1] 1 H;refine⟨_,⟨rfl,i+1,s2,D2,Q6,rfl,ZU,(fun r=>?_),rfl,rfl,rfl,rfl,Qg (by omega),H⟩,by omega⟩;rw[Zl,Qi];constructor
     ·rintro(h1|⟨h1,h2⟩)
      ·exact .inl h1
      ·exact .inr ⟨mem_append.2 (.inl h1),h2⟩
     ·rintro(h1|⟨h1,h2⟩)
      ·exact .inl h1
      ·rcases mem_append.1 h1 with h1|h1
       ·exact .inr ⟨h1,h2⟩
       ·rw[mem_singleton] at h1;subst h1;exact absurd ⟨kk,GL,rfl⟩ h2
    ·rw[decide_eq_false GL];refine Rm H ?_;replace H:=Js [3,0,0,0] 0 H;obtain⟨mem2,UE,Zu,H⟩:=La H;replace H:=Js [4,0,0,0,0] 0 H;refine UJ H ?_;refine Gs H ?_;refine Jc rfl rfl (aX p q s2.tab kk g (Y1 D2 kk e) VP H) ?_;rintro v w ⟨rfl,H⟩;refine YC H ?_;intro b15 w H;refine VO H ?_;intro b16 w H;refine J5 H ?_;intro w H;refine J5 H ?_;intro w H;refine J2 H ?_;have wS:=WS UE Zu VP;have ko:pl < (Y1 D2 kk e).ws.length:=by rw[Cv];exact Us
     have wT:Ve (Qc s2 (Y1 D2 kk e)) pl=true:=by rw[ZU.lay];exact KX
     replace H:=Js [4,4,4,0,0,0,0] 0 H;refine J1 H ?_;intro w H;refine Jl 0 [] H ?_;refine WW H ?_;refine Jl 3 [] H ?_;refine C9 H ?_;refine Jf 6 ?_;refine Jl 7 [] H ?_;refine Uf 8 rfl (Q8.none rfl) rfl (by kernel_rfl) ?_;have kr:=gL q.ip q.sp q.bp s2.size s2.lays mem2 s2.own (Y1 D2 kk e).addr (Y1 D2 kk e).lay (Y1 D2 kk e).count kk (Y1 D2 kk e).ws.length (Qc s2 (Y1 D2 kk e)) wS pl .grave trivial H;refine Jo 9 H ?_;refine Jk rfl rfl (kr) ?_;clear H kr;rintro v w ⟨rfl,H⟩;rw[uj ko wT,if_pos rfl,Int.toNat_natCast] at H;refine Jx H ?_;replace H:=Js [7,0,0,0,0,0,0,0] 0 H;refine J1 H ?_;intro w H;refine Jl 0 [] H ?_;refine WW H ?_;refine Jl 3 [] H ?_;refine Vz 4 [] H rfl (Q8.none rfl) rfl (by repeat first|exact .nil _|apply QY.cons rfl) (by kernel_rfl) ?_;refine Jo 5 H ?_;refine Jk rfl rfl (JB q.rp s2.rem ZU.nd (((kk:Nat):Int),((pl:Nat):Int)) H) ?_;rintro v w ⟨rfl,H⟩;refine Jx H ?_;replace H:=Js [6,6,1,1,1,0,2,2,2,2,3,4,2,3,3] 3 H;replace H:=TB (e':={ Y1 D2 kk e with ws:=(Y1 D2 kk e).ws.set pl 1 }) VP rfl H;replace H:=Js [1,1,1,1,0] 0 H;replace H:=Lb (s:=Le s2 kk g pl (Y1 D2 kk e)) (un UE VP) (uo UE Zu VP ko) H;refine J3 H ?_;refine⟨_,⟨rfl,i+1,Le s2 kk g pl (Y1 D2 kk e),D2++[(((kk:Nat):Int),((pl:Nat):Int))],Q6,rfl,ZU.step hk,(fun r=>?_),rfl,rfl,rfl,rfl,Qg (by omega),H⟩,by omega⟩;rw[mem_append,Zl,Qi];constructor
     ·rintro((h1|⟨h1,h2⟩)|h1)
      ·exact .inl h1
      ·exact .inr ⟨mem_append.2 (.inl h1),h2⟩
      ·refine .inr ⟨mem_append.2 (.inr h1),?_⟩;rw[mem_singleton] at h1;subst h1;rintro⟨k',h3,h4⟩;have h4:((kk:Nat):Int)=((k':Nat):Int):=h4;obtain rfl:kk=k':=by omega
       exact GL h3
     ·rintro(h1|⟨h1,h2⟩)
      ·exact .inl (.inl h1)
      ·rcases mem_append.1 h1 with h1|h1
       ·exact .inl (.inr ⟨h1,h2⟩)
       ·exact .inr h1
   ·have V0:i=rs.length:=by omega
    subst V0;rw[take_length] at Zl
    have wa:EC s G (ks++[k]) D2:=by
     intro r;rw[Zl,bZ,Vo.rem];constructor
     ·rintro(h0|⟨h1,h2⟩)
      ·obtain⟨⟨t,h1,h2⟩,h3⟩:=(Y5 r).1 h0;exact⟨⟨t,mem_append.2 (.inl h1),h2⟩,h3⟩
      ·split at h1
       ·cases h1
       ·exact⟨⟨k,by simp,h1⟩,h2⟩
     ·rintro⟨⟨t,h1,h2⟩,h3⟩
      rcases mem_append.1 h1 with h1|h1
      ·exact .inl ((Y5 r).2 ⟨⟨t,h1,h2⟩,h3⟩)
      ·rw[mem_singleton] at h1;subst h1;refine .inr ⟨?_,h3⟩;rw[if_neg]
       ·exact h2
       ·intro h4;obtain⟨⟨t',h5,h6⟩,_⟩:=(Y5 r).1 h4;rw[h2] at h6;injection h6 with h6
        obtain rfl:t=t':=by omega
        exact U0 h5
    subst hLB;replace H:=Js [2,0,1,1,1] 1 H;exact⟨rfl,_,H,fun w H=>⟨rfl,VQ _ _ _ _ _ ZU wa H⟩⟩
  ·rintro v w H;obtain⟨s1,Dl,Vo,Y5,H⟩:=YB _ _ _ H;subst hL;refine⟨_,H,fun w H=>?_⟩;replace H:=Js [0,0,0,0,2,2,2] 2 H;exact⟨rfl,⟨D,s1,Dl,rfl,Vo,Y5,H⟩,rfl,rfl,rfl⟩
 rintro ms σ w ⟨⟨D,s1,Dl,rfl,Vo,Y5,H⟩,g2,g7,g9⟩;rw[Q1 g2,Q1 g7,Q1 g9];have kv:=Rv;clear Rv;replace H:=Js [1,1,0] 0 H;refine UJ H ?_;refine Jc rfl rfl (OT bg G (by omega) H) ?_;rintro v w ⟨bv2,av2,cv2,rfl,H⟩;refine J2 H ?_;replace H:=Js [5,5,0,0,1,1,1,1] 1 H;refine J6 H ?_;refine Qt (fun ms σ w=>(∃ (D2:Nat) (s2:CS),ms=[D2,D]∧Wk s1 G s2∧We s2∧Q0 w (Xr p q s2::pts b2 (row 44 [pp p])::pts D2 (.deferred (some []))::pts D (.deferred (some []))::IL (.slice aL L.length cL) L::Qo q.trp s.last (L.foldl QO s.par)::fr))∧σ 2=pp b2∧σ 7 = .slice aL L.length cL) ?_ ?_
 ·refine Qd (W9 (a:=[]) (b:=[pp bv2]) H rfl (fun yl D2 w H=>?_));generalize hL:LR _ yl _ _ _ _ D2 .ready=LRR at H ⊢;obtain⟨J,hJ⟩:∃ J:List Nat→Q2,J=fun ks=>ex fun x:CS=>star [prop (Wk s1 ks x∧We x),LRR,Xr p q x,pts b2 (row 44 [pp p])]:=⟨_,rfl⟩
  have VQ:∀ (ks:List Nat) (s2:CS) (w:World) (l':List Q2),Wk s1 ks s2→We s2→Q0 w (LRR::Xr p q s2::pts b2 (row 44 [pp p])::l')→Q0 w (J ks::l'):=by
   intro ks s2 w l' h1 h2 H;rw[hJ];exact Q0.ex.2 ⟨s2,Q0.star.2 (Q0.prop.2 ⟨⟨h1,h2⟩,H⟩)⟩
  have YB:∀ (ks:List Nat) (w:World) (l':List Q2),Q0 w (J ks::l')→∃ s2,Wk s1 ks s2∧We s2∧Q0 w (LRR::Xr p q s2::pts b2 (row 44 [pp p])::l'):=by
   intro ks w l' H;rw[hJ] at H;obtain⟨s2,H⟩:=Q0.ex.1 H;obtain⟨⟨h1,h2⟩,H⟩:=Q0.prop.1 (Q0.star.1 H);exact⟨s2,h1,h2,H⟩
  replace H:=Js [0,6,1,2,2,0,0,1,1] 1 H;replace H:=VQ [] s1 _ _ (Wk.start Vo.nd) (Vo.rk hI.rk) H;refine call (Oa yl bv2 av2 cv2 G (by omega) J ?_ H) ?_
  ·intro ks k tt rest w Yd H;obtain⟨s2,hN,Ln,H⟩:=YB _ _ _ H;subst hL;have GL:k∈G:=by rw[Yd];simp
   have U0:k∉ks:=fun h=>by
    have h1:=hG.1;rw[Yd,pairwise_append] at h1;have:=h1.2.2 k h k mem_cons_self;omega
   obtain⟨g,e,hk,_⟩:=(hG.2 k).1 GL;have Xe:=Vo.tab k _ hk;have VP:=hN.tab k _ Xe;rw[if_neg U0] at VP;refine Kp (args:=[.int .i64 k]) H rfl rfl ?_;refine Vg H ?_;refine⟨rfl,_,H,fun w H=>Qd ?_⟩;generalize hLB:LR _ yl _ _ _ _ D2 .busy=LB at H ⊢;replace H:=Js [1,0] 0 H;refine XP H ?_;refine Jc rfl rfl (uP p q s2 (by rw[hN.par,Vo.par];exact hT.nd) k g (Y1 Dl k e) VP (Oz k g e hk) Ln H) ?_;rintro v w ⟨rfl,s3,kw,H⟩;refine J2 H ?_;subst hLB;replace H:=Js [1,0,0] 0 H;exact⟨rfl,_,H,fun w H=>⟨rfl,VQ _ _ _ _ (hN.step Xe kw) (kw.rk Ln) H⟩⟩
  ·rintro v w H;obtain⟨s2,hN,Ln,H⟩:=YB _ _ _ H;subst hL;refine⟨_,H,fun w H=>?_⟩;replace H:=Js [0,0,2,2,2,2] 2 H;exact⟨rfl,⟨D2,s2,rfl,hN,Ln,H⟩,rfl,rfl⟩
 rintro ms σ w ⟨⟨D2,s2,rfl,hN,Ln,H⟩,g2,g7⟩;rw[Q1 g2,Q1 g7]
 have VK:∀ x∈L,∀ (k g:Nat) (e:Q9),s2.tab[k]? = some ⟨g,some e⟩→e.region≠x:=by
  intro x hx k g e hk hr
  have Q6:k < s1.tab.length:=by
   have:=(List.getElem?_eq_some_iff.1 hk).1;rw[hN.tabl] at this;exact this
  have ky:k < s.tab.length:=by rw[Vo.tabl] at Q6;exact Q6
  have h1:=Vo.tab k _ (getElem?_eq_getElem ky);have h2:=hN.tab k _ h1;rw[hk] at h2;split at h2
  ·injection h2 with h2
   injection h2 with _ h2
   cases h2
  ·rename_i GL;injection h2 with h2
   injection h2 with h3 h4
   cases he:(s.tab[k]).ent with
   | none=>rw[he] at h4;cases h4
   | some e0=>
    rw[he] at h4;injection h4 with h4
    refine GL ((hG.2 k).2 ⟨(s.tab[k]).gen,e0,?_,?_⟩)
    ·rw[getElem?_eq_getElem ky,← he]
    ·have h5:e.region=e0.region:=by rw[h4];rfl
     rw[← h5,hr];exact hx
 have bG:s2.par=s.par:=hN.par.trans Vo.par;refine Z6 H ?_;refine FJ H ?_;refine Qt (fun ms σ w=>ms=[D2,D]∧∃ s3:CS,Bq s2 L s3∧σ 2=pp b2∧σ 7 = .slice aL L.length cL∧Q0 w (Xr p q s3::pts b2 (row 44 [pp p])::pts D2 (.deferred (some []))::pts D (.deferred (some []))::IL (.slice aL L.length cL) L::Qo q.trp s.last (L.foldl QO s.par)::fr)) ?_ ?_
 ·refine Qd ?_;refine Qp (fun ms σ w z=>ms=[D2,D]∧∃ (i:Nat) (s3:CS),i≤L.length∧z=L.length - i∧Bq s2 (L.take i) s3∧σ 2=pp b2∧σ 7 = .slice aL L.length cL∧σ 100 = .slice aL L.length cL∧σ 101 = .int .i64 L.length∧σ 102 = .int .i64 i∧Q0 w (Xr p q s3::pts b2 (row 44 [pp p])::pts D2 (.deferred (some []))::pts D (.deferred (some []))::IL (.slice aL L.length cL) L::Qo q.trp s.last (L.foldl QO s.par)::fr)) (m:=L.length) ⟨rfl,0,s2,by omega,rfl,Bq.start s2,rfl,rfl,rfl,rfl,rfl,H⟩ ?_;rintro ms σ w z ⟨rfl,i,s3,hi,rfl,hE,g2,g7,g100,g101,g102,H⟩;rw[Q1 g2,Q1 g7,Q1 g100,Q1 g101,Q1 g102];refine J7 H ?_;refine Qk rfl (fun h=>QE ?_) (fun h=>Qu ?_)
  ·have Q6:i < L.length:=by omega
   have hx:=getElem?_eq_getElem Q6;have Qi:L.take (i+1)=L.take i++[L[i]]:=by rw[take_add_one,hx];rfl
   have Ke:L[i]∉L.take i:=fun hh=>by
    obtain⟨j,hj⟩:=getElem?_of_mem hh;rw[getElem?_take] at hj;split at hj
    ·rename_i Yg;obtain⟨Bg,Kf⟩:=List.getElem?_eq_some_iff.1 hj;exact(pairwise_iff_getElem.1 kv) j i Bg Q6 Yg Kf
    ·cases hj
   have bX:=getElem_mem Q6;have Bk:=Lk _ bX;generalize L[i]=x at hx Qi Ke Bk bX;replace H:=Js [4,0,0,0,0] 0 H;obtain⟨bT,sT,rfl,H,QJ⟩:=VY H (by omega);refine Z8 H ?_;refine Jd ?_;refine Q5 rfl (QC H rfl (by simpa using RJ hx) rfl ?_);refine J0 H ?_;replace H:=QJ _ _ H;replace H:=Js [1,0] 0 H;obtain⟨mem3,Bs,bR,H⟩:=La H;have bB:(s3.par.map (·.1)).Nodup:=by rw[hE.par];exact Ox _ (by rw[bG];exact hT.nd)
   have kz:x∈s3.par.map (·.1):=by
    rw[hE.par];refine kj Ke ?_;rw[bG,← hw.mkeys];exact Bk
   obtain⟨b0,WT⟩:=RK (l:=s3.sps) (f:=fun x=>x.1) (g:=fun x=>x.2.1) (k:=x) (by rw[Bs.skeys];exact kz);obtain⟨⟨r1,b0',SP⟩,p1,p2,VN,Vn,Yp⟩:=RX WT;obtain rfl:r1=x:=Vn;obtain rfl:b0'=b0:=Yp;obtain⟨b1,ZX⟩:=RK (l:=s3.mns) (f:=fun x=>x.1) (g:=fun x=>x.2.1) (k:=r1) (by rw[Bs.mkeys];exact kz);obtain⟨⟨r2,b1',M⟩,m1,m2,Vl,ED,EE⟩:=RX ZX;obtain rfl:r2=r1:=ED;obtain rfl:b1'=b1:=EE;have Ci:QV (s3.sps.map Vv) r2=some b0':=WT;have l4:(r2,b0',SP)∈s3.sps:=by rw[VN];simp
   obtain⟨Kb,GF,Dt,Lo,wb,wc⟩:=HE Bs l4;replace H:=Js [11,0,7,7,3,6,6,0,0,0,0,0,0] 0 H;replace H:=Js [1,0,6,6,2,5,6,0,0,0,0,0,0] 0 H;refine Ky H ?_;refine Q5 rfl (GO (key:=r2) H rfl rfl Vp rfl ?_);rw[Ci];replace H:=Js [6,3,0,0,0,0,0,0,0,0,0,0,0] 0 H;replace H:Q0 w (V1 b0' q.sp r2.toNat SP::star ((p1++p2).map (Y0 q.sp))::_):=(Q0.pick (R:=Y0 q.sp) (x:=(r2,b0',SP)) VN).1 H;replace H:=Js [0,1,0] 0 H;refine Jc rfl rfl (jt b0' q.sp r2.toNat SP s3.size mem3 s3.own GF Lo wb Kb Dt Bs.own.2 Bs.size.2 wc H) ?_;rintro v w ⟨rfl,own',VH,hog,H⟩;refine J2 H ?_;replace H:=Js [8,0,0,0,0,0,0,0,0] 0 H;replace H:Q0 w (VV b1' M::star ((m1++m2).map VG)::_):=(Q0.pick (R:=VG) (x:=(r2,b1',M)) Vl).1 H;replace H:=H.drop;replace H:=Js [4,3,0,0,0,0,0,0,0,0,0,0,0] 0 H;refine Ky H ?_;refine Q5 rfl (Ws (key:=r2) H rfl rfl Vp rfl ?_);intro w H;refine J2 H ?_;refine Ky H ?_;refine Q5 rfl (Ws (key:=r2) H rfl rfl Vp rfl ?_);intro w H;refine Ri H ?_
   have LK:QO (s3.sps.map Vv) r2=(p1++p2).map Vv:=by
    have h1:=bB;rw[← Bs.skeys,VN] at h1;rw[VN,map_append,map_cons,map_append];exact Dn (p:=(r2,b0')) (by rw[map_append,map_cons] at h1 ⊢;rw[map_map,map_map];exact h1)
   have E4:QO (s3.mns.map VX) r2=(m1++m2).map VX:=by
    have h1:=bB;rw[← Bs.mkeys,Vl] at h1;rw[Vl,map_append,map_cons,map_append];exact Dn (p:=(r2,b1')) (by rw[map_append,map_cons] at h1 ⊢;rw[map_map,map_map];exact h1)
   rw[LK,E4] at H;replace H:=Js [1,10,4,2,3,3,6,2,2,1,0,1,1,0] 0 H;have we:=ur Bs bB (fun k g e hk=>VK r2 bX k g e (by rw[← hE.tab];exact hk)) VN Vl (own':=own') ⟨VH,hog⟩;have wg:=uu (s':={ s3 with own:=own',par:=QO s3.par r2,sps:=p1++p2,mns:=m1++m2 }) bR VH rfl rfl;replace H:=Lb we wg H
   exact⟨_,⟨rfl,i+1,{ s3 with own:=own',par:=QO s3.par r2,sps:=p1++p2,mns:=m1++m2 },Q6,rfl,by rw[Qi];exact hE.step r2 VH _ _ (hog:=wN hog (Bs.spc _ l4).owned) (fun y hy hn=>by
    rw[VN] at hy
    rcases mem_append.1 hy with h1|h1
    ·exact mem_append.2 (.inl h1)
    ·rcases mem_cons.1 h1 with h1|h1
     ·exact absurd (by rw[h1]) hn
     ·exact mem_append.2 (.inr h1)),rfl,rfl,rfl,rfl,Qg (by omega),H⟩,by omega⟩
  ·have V0:i=L.length:=by omega
   subst V0;rw[take_length] at hE;exact⟨rfl,rfl,s3,hE,rfl,rfl,H⟩
 rintro ms σ w ⟨rfl,s3,hE,g2,g7,H⟩;rw[Q1 g2,Q1 g7];refine Vj H ?_;replace H:=Js [2,2,0,2,1] 1 H;have wh:s3.par=L.foldl QO s.par:=by rw[hE.par,bG]
 have wi:s3.last=s.last:=by rw[hE.last,hN.last,Vo.last]
 rw[← wh,← wi] at H;exact Q3 (S5 (ms:=[D2,D]) _ (.inr rfl) (Q0.star.2 H) (fun w' H' => .tmp (.tmp .nil)) fun w' H'=>⟨_,L,s3,rfl,kv,Uy,Ha,bV,⟨G,Dl,s1,s2,hG,Vo,Y5,hN,hE⟩,(uO H').swap⟩)
def ZV (objs:List QS) (k t:Nat):Bool:=k == 2 && ((objs[t]?).map QS.gone).getD false
def UA (objs:List QS) (x:QS):QS:={ x with kind:=(x.kind.zip x.to).map (fun y=>if ZV objs y.1 y.2=true then 1 else y.1),to:=(x.kind.zip x.to).map (fun y=>if ZV objs y.1 y.2=true then 0 else y.2) }
def Qn (L:List Nat) (x:QS):QS:=if x.region∈L then { x with gone:=true } else x
def Aa (m:MS) (L:List Nat):MS:={ m with P:=Ye m.P L,objs:=(m.objs.map (Qn L)).map (UA (m.objs.map (Qn L))) }
theorem bD {objs:List QS} {x:QS} (h:x.kind.length=x.to.length) {p:Nat} (hp:p < x.kind.length):(UA objs x).kind.getD p 0=(if ZV objs (x.kind.getD p 0) (x.to.getD p 0)=true then 1 else x.kind.getD p 0)∧(UA objs x).to.getD p 0=(if ZV objs (x.kind.getD p 0) (x.to.getD p 0)=true then 0 else x.to.getD p 0):=by
 have h1:=getElem?_eq_getElem hp;have h2:=getElem?_eq_getElem (show p < x.to.length by omega);have hz:(x.kind.zip x.to)[p]? = some (x.kind[p],x.to[p]'(by omega)):=getElem?_zip_eq_some.2 ⟨h1,h2⟩;unfold UA;simp only[getD_eq_getElem?_getD,getElem?_map,hz,h1,h2,Option.map_some,Option.getD_some];exact⟨trivial,trivial⟩
theorem bE {L:List Nat} {x:QS}:(Qn L x).gone=true↔x.gone=true∨x.region∈L:=by
 unfold Qn;by_cases h:x.region∈L
 ·rw[if_pos h];exact⟨fun _ => .inr h,fun _=>rfl⟩
 ·rw[if_neg h];exact⟨.inl,fun h1=>h1.elim id fun h2=>absurd h2 h⟩
theorem wj (L:List Nat) (x:QS):(Qn L x).region=x.region∧(Qn L x).lay=x.lay∧(Qn L x).count=x.count∧(Qn L x).held=x.held∧(Qn L x).pinned=x.pinned∧(Qn L x).w=x.w∧(Qn L x).kind=x.kind∧(Qn L x).to=x.to:=by
 unfold Qn;split <;> exact⟨rfl,rfl,rfl,rfl,rfl,rfl,rfl,rfl⟩
theorem bF {m:MS} {L:List Nat} {o:Nat} {x':QS} (h:(Aa m L).objs[o]? = some x'):∃ x,m.objs[o]? = some x∧x'=UA (m.objs.map (Qn L)) (Qn L x):=by
 have h:((m.objs.map (Qn L)).map (UA (m.objs.map (Qn L))))[o]? = some x':=h;rw[getElem?_map,getElem?_map] at h;cases hx:m.objs[o]? with
 | none=>rw[hx] at h;cases h
 | some x=>
  rw[hx] at h;injection h with h
  exact⟨x,rfl,h.symm⟩
theorem bH {m:MS} {L:List Nat} {k t:Nat}:ZV (m.objs.map (Qn L)) k t=true↔k=2∧∃ x,m.objs[t]? = some x∧(x.gone=true∨x.region∈L):=by
 unfold ZV;rw[Bool.and_eq_true,beq_iff_eq,getElem?_map];refine and_congr_right fun _=>?_;cases hx:m.objs[t]? with
 | none=>exact⟨fun h=>(by cases h),fun ⟨x,h,_⟩=>(by cases h)⟩
 | some x=>
  show (Qn L x).gone=true↔_;rw[bE];exact⟨fun h=>⟨x,rfl,h⟩,fun ⟨y,h1,h2⟩=>(by injection h1 with h1;subst h1;exact h2)⟩
theorem wk {m:MS} (h:VF m) (L:List Nat):VF (Aa m L):=by
 refine⟨?_,h.lays,fun x' V9=>?_,?_⟩
 ·show 1≤(Ye m.P L).length∧(Ye m.P L).length≤_;unfold Ye;rw[length_mapIdx];exact h.P
 ·obtain⟨o,ho⟩:=getElem?_of_mem V9;obtain⟨x,hx,rfl⟩:=bF ho;obtain⟨a,b,c,d,e⟩:=h.objs x (mem_of_getElem? hx);obtain⟨s1,s2,s3,s4,s5,s6,s7,s8⟩:=wj L x;have hl:(Aa m L).objs.length=m.objs.length:=by show (((m.objs.map (Qn L)).map (UA _))).length=_;rw[length_map,length_map]
  refine⟨?_,?_,?_,?_,fun p hp=>?_⟩
  ·show ∃ l,m.lays[(Qn L x).lay - 1]? = some l∧YK l∧Vh l (Qn L x).count=((Qn L x).w.length,0);rw[s2,s3,s6];exact a
  ·show 1≤(Qn L x).lay;rw[s2];exact b
  ·show (List.map _ ((Qn L x).kind.zip (Qn L x).to)).length=(Qn L x).w.length;rw[length_map,length_zip,s6,s7,s8,c,d,Nat.min_self]
  ·show (List.map _ ((Qn L x).kind.zip (Qn L x).to)).length=(Qn L x).w.length;rw[length_map,length_zip,s6,s7,s8,c,d,Nat.min_self]
  ·rw[hl]
   have Ru:p < (Qn L x).kind.length:=by
    have:=(List.getElem?_eq_some_iff.1 hp).1
    have h2:(UA (m.objs.map (Qn L)) (Qn L x)).kind.length=(Qn L x).kind.length:=by
     show (List.map _ ((Qn L x).kind.zip (Qn L x).to)).length=_;rw[length_map,length_zip,s7,s8,c,d,Nat.min_self]
    omega
   obtain⟨g1,g2⟩:=bD (objs:=m.objs.map (Qn L)) (x:=Qn L x) (by rw[s7,s8,c,d]) Ru;rw[g2];have GF:(UA (m.objs.map (Qn L)) (Qn L x)).kind.getD p 0=2:=by rw[getD_eq_getElem?_getD,hp];rfl
   rw[g1] at GF;split at GF
   ·cases GF
   ·rename_i hh;rw[if_neg hh,s8];rw[s7] at GF Ru;refine e p ?_;rw[getElem?_eq_getElem Ru];rw[getD_eq_getElem?_getD,getElem?_eq_getElem Ru] at GF;rw[← GF];rfl
 ·show ((m.objs.map (Qn L)).map (UA _)).length≤_;rw[length_map,length_map];exact h.few
theorem l5 (P:List Int) (L:List Nat) (k:Nat):(Ye P L)[k]? = (P[k]?).map fun q=>if k∈L then -1 else q:=by
 unfold Ye;rw[getElem?_mapIdx]
theorem P2:∀ (ks:List Int) {m:List (Int×Int)},(m.map (·.1)).Nodup→∀ r,QV (ks.foldl QO m) r=if r∈ks then none else QV m r
 | [],m,h,r=>by rw[if_neg (by simp)];rfl
 | k::ks,m,h,r=>by
  show QV (ks.foldl QO (QO m k)) r=_;rw[P2 ks (W5 h),Wq h];by_cases h1:r∈ks
  ·rw[if_pos h1,if_pos (mem_cons_of_mem _ h1)]
  ·rw[if_neg h1];by_cases h2:k=r
   ·subst h2;rw[if_pos rfl,if_pos mem_cons_self]
   ·rw[if_neg h2,if_neg];intro h3
    rcases mem_cons.1 h3 with h3|h3
    ·exact h2 h3.symm
    ·exact h1 h3
structure Wl (s:CS) (L:List Int) (G:List Nat) (D:List Rf) (s':CS):Prop where
 size:s'.size=s.size
 own:s'.own.length=s.own.length
 lays:s'.lays=s.lays
 last:s'.last=s.last
 par:s'.par=L.foldl QO s.par
 tabl:s'.tab.length=s.tab.length
 tab:∀ (k:Nat) (t:QW),s.tab[k]? = some t→s'.tab[k]? = some (if k∈G then ⟨t.gen,none⟩ else ⟨t.gen,t.ent.map (Y1 D k)⟩)
 nd:(s'.rem.map (·.1)).Nodup
 rem:∀ r,QV s'.rem r=if ∃ k∈G,r.1=((k:Nat):Int) then none else if r∈D then none else QV s.rem r
 gone:AS s L G
 cut:EC s G G D
 part:Yc s→Yc s'
 owns:∀ j,s'.own.getD j 0=if ((s.own.getD j 0:Nat):Int)∈L then 0 else s.own.getD j 0
theorem Oy.t {s s':CS} {L:List Int} (h:Oy s L s'):∃ G D,Wl s L G D s':=by
 obtain⟨G,Dl,s1,s2,hG,hC,hD,hN,hE⟩:=h;refine⟨G,Dl,by rw[hE.size,hN.size,hC.size],by rw[hE.own,hN.own,hC.own],by rw[hE.lays,hN.lays,hC.lays],by rw[hE.last,hN.last,hC.last],by rw[hE.par,hN.par,hC.par],by rw[hE.tab,hN.tabl,hC.tabl],fun k t hk=>?_,by rw[hE.rem];exact hN.nd,fun r=>by rw[hE.rem,hN.rem,hC.rem],hG,hD,fun hP k g e' hk=>?_,fun j=>by rw[hE.owns,hN.own,hC.own]⟩
 ·rw[hE.tab,hN.tab k _ (hC.tab k t hk)]
 ·have Q6:k < s.tab.length:=by
   have:=(List.getElem?_eq_some_iff.1 hk).1;rw[hE.tab,hN.tabl,hC.tabl] at this;exact this
  have h1:=getElem?_eq_getElem Q6;generalize s.tab[k]=t at h1;rw[hE.tab,hN.tab k _ (hC.tab k t h1)] at hk;split at hk
  ·injection hk with hk
   injection hk with _ hk
   cases hk
  ·rename_i GL;injection hk with hk
   injection hk with hg he
   obtain⟨tg,te⟩:=t;cases te with
   | none=>cases he
   | some e=>
    injection he with he
    subst he;have Gx:e.region∉L:=fun h=>GL ((hG.2 k).2 ⟨tg,e,h1,h⟩);obtain⟨x,hx,UO,y,hy,GH⟩:=hP k tg e h1;have Va:s'.size=s.size:=by rw[hE.size,hN.size,hC.size]
    refine⟨x,hE.sps x (by rw[hN.sps,hC.sps];exact hx) (by rw[UO];exact Gx),UO,y,hy,?_⟩;rw[Va];exact GH.alike rfl (Cv _ _ _)
theorem Wl.from {s s':CS} {L:List Int} {G:List Nat} {D:List Rf} (h:Wl s L G D s') {k g:Nat} {e':Q9} (hk:s'.tab[k]? = some ⟨g,some e'⟩):k∉G∧∃ e,s.tab[k]? = some ⟨g,some e⟩∧e'=Y1 D k e:=by
 have Q6:k < s.tab.length:=by
  have:=(List.getElem?_eq_some_iff.1 hk).1;rw[h.tabl] at this;exact this
 have h1:=getElem?_eq_getElem Q6;generalize s.tab[k]=t at h1;have h2:=h.tab k t h1;rw[hk] at h2;obtain⟨g0,e0⟩:=t;split at h2
 ·injection h2 with h2
  injection h2 with _ h2
  cases h2
 ·rename_i hG;injection h2 with h2
  injection h2 with h3 h4
  subst h3;cases e0 with
  | none=>cases h4
  | some e=>
   injection h4 with h4
   exact⟨hG,e,h1,h4⟩
theorem P3 {D:List Rf} {k:Nat} {e:Q9} {p:Nat} (hp:p < e.ws.length):(Y1 D k e).ws.getD p 0=if ((k:Int),(p:Int))∈D then 1 else e.ws.getD p 0:=by
 rw[getD_eq_getElem?_getD,aE,getD_eq_getElem?_getD,getElem?_eq_getElem hp];rfl
theorem l6 {D:List Rf} {k:Nat} {e:Q9} {p:Nat} (hp:p < e.ws.length) {a b:Nat} (h:YG (Y1 D k e) p = .obj a b):((k:Int),(p:Int))∉D∧YG e p = .obj a b:=by
 unfold YG at h ⊢;rw[P3 hp] at h;split at h
 ·cases h
 ·rename_i h1;exact⟨h1,h⟩
theorem EF {ts:List QW} {a b:Nat} {f:Q9} (h:ts[a]? = some ⟨b,some f⟩):Ql ts a b=some (a,f):=Z1.2 ⟨b,rfl,rfl,h⟩
theorem Wl.cutIff {s s':CS} {L:List Int} {G:List Nat} {D:List Rf} (h:Wl s L G D s') (hI:Inv s) {k g p:Nat} {e:Q9} (hk:s.tab[k]? = some ⟨g,some e⟩) (hG:k∉G) (hp:p < e.ws.length):((k:Int),(p:Int))∈D↔Ve (Qc s e) p=true∧∃ (a b:Nat) (f:Q9),YG e p = .obj a b∧s.tab[a]? = some ⟨b,some f⟩∧f.region∈L:=by
 rw[h.cut];constructor
 ·rintro⟨⟨t,ht,hr⟩,_⟩;obtain⟨k',p',g',e',a,b,f,h1,h2,h3,h4,h5,h6,h7,h8⟩:=(hI.rem _ _).1 hr;injection h1 with h1 h9
  obtain rfl:k=k':=by omega
  obtain rfl:p=p':=by omega
  rw[hk] at h2;injection h2 with h2
  injection h2 with h2 Yk
  subst h2;injection Yk with Yk
  subst Yk;obtain⟨_,Ya⟩:=Xo h6;obtain rfl:t=a:=by omega
  obtain⟨g2,f2,VD,YE⟩:=(h.gone.2 t).1 ht;rw[Ya] at VD;injection VD with VD
  injection VD with _ VD
  injection VD with VD
  subst VD;exact⟨h4,t,b,f,h5,Ya,YE⟩
 ·rintro⟨h4,a,b,f,h5,h6,h7⟩;refine⟨⟨a,(h.gone.2 a).2 ⟨b,f,h6,h7⟩,(hI.rem _ _).2 ⟨k,p,g,e,a,b,f,rfl,hk,hp,h4,h5,EF h6,fun h8=>?_,rfl⟩⟩,?_⟩
  ·exact hG ((h.gone.2 k).2 ⟨g,e,hk,by rw[← h8];exact h7⟩)
  ·rintro⟨k',h9,Ya⟩;have Ya:((k:Nat):Int)=((k':Nat):Int):=Ya;obtain rfl:k=k':=by omega
   exact hG h9
theorem Wl.lay {s s':CS} {L:List Int} {G:List Nat} {D:List Rf} (h:Wl s L G D s') (k:Nat) (e:Q9):Qc s' (Y1 D k e)=Qc s e:=by
 unfold Qc;rw[h.lays];rfl
theorem Wl.at {s s':CS} {L:List Int} {G:List Nat} {D:List Rf} (h:Wl s L G D s') {k g:Nat} {e:Q9} (hk:s.tab[k]? = some ⟨g,some e⟩) (hG:k∉G):s'.tab[k]? = some ⟨g,some (Y1 D k e)⟩:=by
 rw[h.tab k _ hk,if_neg hG];rfl
theorem wl {s s':CS} {L:List Int} {G:List Nat} {D:List Rf} (h:Wl s L G D s') (hI:Inv s):Inv s':=by
 refine⟨h.nd,fun r t=>?_,fun k g e' p a b hk hp hr hl=>?_⟩
 ·rw[h.rem];constructor
  ·intro hr;split at hr
   ·cases hr
   ·rename_i hn;split at hr
    ·cases hr
    ·rename_i hD;obtain⟨k,p,g,e,a,b,f,rfl,hk,hp,KX,hl,AN,Cw,rfl⟩:=(hI.rem _ _).1 hr;have GL:k∉G:=fun h1=>hn ⟨k,h1,rfl⟩;obtain⟨_,ha⟩:=Xo AN;have P4:a∉G:=fun h1=>hD ((h.cut _).2 ⟨⟨a,h1,hr⟩,fun ⟨k',h2,h3⟩=>hn ⟨k',h2,h3⟩⟩);refine⟨k,p,g,Y1 D k e,a,b,Y1 D a f,rfl,h.at hk GL,by rw[Cv];exact hp,by rw[h.lay];exact KX,?_,EF (h.at ha P4),Cw,rfl⟩;unfold YG;rw[P3 hp,if_neg hD];exact hl
  ·rintro⟨k,p,g,e',a,b,f',rfl,hk,hp,KX,hl,AN,Cw,rfl⟩;obtain⟨GL,e,Xp,rfl⟩:=h.from hk;rw[Cv] at hp;obtain⟨hD,P5⟩:=l6 hp hl;obtain⟨_,ha⟩:=Xo AN;obtain⟨P4,f,Oh,rfl⟩:=h.from ha;rw[h.lay] at KX
   rw[if_neg (by
    rintro⟨k',h1,h2⟩;have h2:((k:Nat):Int)=((k':Nat):Int):=h2;obtain rfl:k=k':=by omega
    exact GL h1),if_neg hD]
   exact(hI.rem _ _).2 ⟨k,p,g,e,a,b,f,rfl,Xp,hp,KX,P5,EF Oh,Cw,rfl⟩
 ·obtain⟨GL,e,Xp,rfl⟩:=h.from hk;rw[Cv] at hp;obtain⟨hD,P5⟩:=l6 hp hl;rw[h.lay] at hr;obtain⟨f,hf⟩:=hI.link k g e p a b Xp hp hr P5;obtain⟨_,ha⟩:=Xo hf
  have P4:a∉G:=fun h1=>hD ((h.cutIff hI Xp GL hp).2 ⟨hr,a,b,f,P5,ha,by
   obtain⟨g2,f2,VD,YE⟩:=(h.gone.2 a).1 h1;rw[ha] at VD;injection VD with VD
   injection VD with _ VD
   injection VD with VD
   subst VD;exact YE⟩)
  exact⟨_,EF (h.at ha P4)⟩
theorem wm {par:List (Int×Int)} {L:List Int} (h:ZK par) {region:Int} (hL:∀ c,c∈L↔UK par region c):ZK (L.foldl QO par):=by
 refine⟨Ox L h.nd,fun r q hr=>?_⟩;rw[P2 L h.nd] at hr;split at hr
 ·cases hr
 ·rename_i hn;obtain⟨h1,h2,h3⟩:=h.up r q hr;refine⟨h1,h2,h3.imp id fun h4=>?_⟩;rw[P2 L h.nd,if_neg]
  ·exact h4
  ·intro h5;exact hn ((hL r).2 (.kid ((hL q).1 h5) hr))
theorem l7 {s s':CS} {m:MS} {told:List (Nat×Nat)} (R:Rel s m told) (hm:VF m) (hI:Inv s) {L:List Nat} {G:List Nat} {D:List Rf} (h:Wl s (L.map fun k:Nat=>(k:Int)) G D s'):Rel s' (Aa m L) told:=by
  have He:∀ k:Nat,((k:Nat):Int)∈L.map (fun k:Nat=>(k:Int))↔k∈L:=fun k=>by
    rw[mem_map]
    exact ⟨fun ⟨j, h1, h2⟩ => (by have : j = k := by omega
                                  rw[← this];exact h1),fun h1=>⟨k,h1,rfl⟩⟩
  have AN:(Aa m L).objs.length=m.objs.length:=by show (((m.objs.map (Qn L)).map (UA _))).length=_;rw[length_map,length_map]
  have Wf:(s'.par.map (·.1)).Nodup:=by rw[h.par];exact Ox _ R.nd
  refine⟨by rw[AN];exact R.len,by rw[h.lays];exact R.lays,fun r q=>?_,Wf,?_,?_,?_,?_,?_,R.nodup⟩
  · rw[← YP Wf,h.par,P2 _ R.nd];constructor
    · intro hr;split at hr
      · cases hr
      · rename_i hn;obtain⟨k,rfl,h1,h2,h3⟩:=(R.tree r q).1 ((YP R.nd).1 hr);refine⟨k,rfl,h1,?_,h3⟩;show (Ye m.P L)[k]? = some q;rw[l5,h2];show some (if k∈L then -1 else q)=some q;rw[if_neg (fun h4=>hn ((He k).2 h4))]
    · rintro⟨k,rfl,h1,h2,h3⟩;have h2:(Ye m.P L)[k]? = some q:=h2;rw[l5] at h2;cases hP:m.P[k]? with
      | none=>rw[hP] at h2;cases h2
      | some q0=>
        rw[hP] at h2;injection h2 with h2
        have h2:(if k∈L then (-1:Int) else q0)=q:=h2;by_cases hk:k∈L
        · rw[if_pos hk] at h2;omega
        · rw[if_neg hk] at h2;subst h2;rw[if_neg (fun h4=>hk ((He k).1 h4))];exact(YP R.nd).2 ((R.tree _ _).2 ⟨k,rfl,h1,hP,h3⟩)
  · rw[h.last];show s.last+1=(Ye m.P L).length;unfold Ye;rw[length_mapIdx];exact R.last
  · intro o x' k g V9 ht hg;obtain⟨x,hx,rfl⟩:=bF V9
    have IZ:¬ ((Qn L x).gone=true):=by
      intro h1;have hg:(Qn L x).gone=false:=hg;rw[h1] at hg;cases hg
    rw[bE] at IZ
    have wn:x.gone=false:=by
      cases hh:x.gone with
      | false=>rfl
      | true=>exact absurd (.inl hh) IZ
    have Wg:x.region∉L:=fun h1=>IZ (.inr h1);obtain⟨e,hk,hl⟩:=R.obj o x k g hx ht wn;have wo:Qn L x=x:=by unfold Qn;rw[if_neg Wg]
    rw[wo]
    have GL:k∉G:=fun h1=>by
      obtain⟨g2,f2,VD,YE⟩:=(h.gone.2 k).1 h1;rw[hk] at VD;injection VD with VD
      injection VD with _ VD
      injection VD with VD
      subst VD;rw[hl.region] at YE;exact Wg ((He _).1 YE)
    obtain⟨Zb,ZQ,GQ,Km,KQ⟩:=hm.objs x (mem_of_getElem? hx);refine⟨Y1 D k e,h.at hk GL,⟨hl.region,hl.lay,hl.count,hl.held,hl.pinned,by rw[Cv];exact hl.len,fun p hp hr=>?_,fun p hp hr=>?_,fun p hp QA=>?_⟩⟩
    · have hp:p < x.w.length:=hp;have Bj:p < e.ws.length:=by rw[hl.len];exact hp
      have hr:Ve (RR m.lays x.lay) p=true:=hr;have l8:Ve (Qc s e) p=true:=by rw[Bd R.w hl];exact hr
      obtain⟨g1,g2⟩:=bD (objs:=m.objs.map (Qn L)) (x:=x) (by rw[GQ,Km]) (p:=p) (by rw[GQ];exact hp);rw[g1,g2,P3 Bj];have ZD:=hl.ref p hp hr;by_cases hD:((k:Int),(p:Int))∈D
      · rw[if_pos hD];obtain⟨_,a,b,f,h5,h6,h7⟩:=(h.cutIff hI hk GL Bj).1 hD;have h5:U1 (e.ws.getD p 0) = .obj a b:=h5;rw[ZD] at h5;unfold GY at h5;split at h5
        · rename_i h2;cases Ab:told[x.to.getD p 0]? with
          | none=>rw[Ab] at h5;cases h5
          | some y=>
            obtain⟨a',b'⟩:=y;rw[Ab] at h5;injection h5 with h8 h9
            subst h8 h9;have VH:x.to.getD p 0 < m.objs.length:=by rw[← R.len];exact(List.getElem?_eq_some_iff.1 Ab).1
            have hy:=getElem?_eq_getElem VH;generalize m.objs[x.to.getD p 0]=y at hy
            have RH:y.gone=false:=by
              cases hh:y.gone with
              | false=>rfl
              | true=>exact absurd h6 (R.gone _ y _ _ hy Ab hh f)
            obtain⟨f',Ya,VD⟩:=R.obj _ y _ _ hy Ab RH;rw[h6] at Ya;injection Ya with Ya
            injection Ya with _ Ya
            injection Ya with Ya
            subst Ya;have hit:ZV (m.objs.map (Qn L)) (x.kind.getD p 0) (x.to.getD p 0)=true:=bH.2 ⟨h2,y,hy,.inr (by rw[VD.region] at h7;exact(He _).1 h7)⟩;rw[if_pos hit,if_pos hit];rfl
        · split at h5 <;> cases h5
      · rw[if_neg hD]
        have l9:¬ (ZV (m.objs.map (Qn L)) (x.kind.getD p 0) (x.to.getD p 0)=true):=by
          intro hh;obtain⟨h2,y,hy,h3⟩:=bH.1 hh;have VH:=(List.getElem?_eq_some_iff.1 hy).1;rw[← R.len] at VH;have Ab:=getElem?_eq_getElem VH;generalize told[x.to.getD p 0]=ab at Ab;obtain⟨a,b⟩:=ab
          have h5:YG e p = .obj a b:=by
            unfold YG;rw[ZD];unfold GY;rw[if_pos h2,Ab];rfl
          obtain⟨f,hf⟩:=hI.link k g e p a b hk Bj l8 h5;obtain⟨_,ha⟩:=Xo hf
          have RH:y.gone=false:=by
            cases hh:y.gone with
            | false=>rfl
            | true=>exact absurd ha (R.gone _ y _ _ hy Ab hh f)
          rcases h3 with h3|h3
          · rw[RH] at h3;cases h3
          · obtain⟨f',Ya,VD⟩:=R.obj _ y _ _ hy Ab RH;rw[ha] at Ya;injection Ya with Ya
            injection Ya with _ Ya
            injection Ya with Ya
            subst Ya;exact hD ((h.cutIff hI hk GL Bj).2 ⟨l8,a,b,f,h5,ha,by rw[VD.region];exact(He _).2 h3⟩)
        rw[if_neg l9,if_neg l9];exact ZD
    · have hp:p < x.w.length:=hp;have Bj:p < e.ws.length:=by rw[hl.len];exact hp
      have hr:Ve (RR m.lays x.lay) p=false:=hr;rw[P3 Bj,if_neg]
      · exact hl.word p hp hr
      · intro hD;have h1:=((h.cutIff hI hk GL Bj).1 hD).1;rw[Bd R.w hl] at h1;have h1:Ve (RR m.lays x.lay) p=true:=h1;rw[hr] at h1;cases h1
    · have hp:p < x.w.length:=hp;obtain⟨g1,g2⟩:=bD (objs:=m.objs.map (Qn L)) (x:=x) (by rw[GQ,Km]) (p:=p) (by rw[GQ];exact hp);show Ve (RR m.lays x.lay) p=true∧_;rw[g1] at QA ⊢;split at QA
      · rename_i hh;rw[if_pos hh];obtain⟨h2,_⟩:=bH.1 hh;exact⟨(hl.kind p hp (by rw[h2];decide)).1,by decide⟩
      · rename_i hh;rw[if_neg hh];exact hl.kind p hp QA
  · intro o x' k g V9 ht hg e' Yb;obtain⟨x,hx,rfl⟩:=bF V9;obtain⟨GL,e,hk,rfl⟩:=h.from Yb;have hg:(Qn L x).gone=true:=hg
    rcases bE.1 hg with h1|h1
    · exact R.gone o x k g hx ht h1 e hk
    · cases hh:x.gone with
      | true=>exact R.gone o x k g hx ht hh e hk
      | false=>
        obtain⟨e2,h2,h3⟩:=R.obj o x k g hx ht hh;rw[hk] at h2;injection h2 with h2
        injection h2 with _ h2
        injection h2 with h2
        subst h2;exact GL ((h.gone.2 k).2 ⟨g,e,hk,by rw[h3.region];exact(He _).2 h1⟩)
  · intro k g e' Yb;obtain⟨_,e,hk,_⟩:=h.from Yb;exact R.used k g e hk
  · intro o k g ht;obtain⟨t,h1,h2⟩:=R.gens o k g ht;refine⟨_,h.tab k t h1,?_⟩;split <;> exact h2
theorem bI {s:CS} {m:MS} {told:List (Nat×Nat)} (R:Rel s m told) (hT:ZK s.par):EW m.P:=by
 intro i q h1 h2;by_cases h3:0≤q
 ·exact(hT.up _ _ ((YP hT.nd).2 ((R.tree _ _).2 ⟨i,rfl,h1,h2,h3⟩))).2.1
 ·omega
theorem Lq {par:List (Int×Int)} (hT:ZK par) {r:Int} (h:(QV par r).isSome=true):1≤r:=by
 cases hf:QV par r with
 | none=>rw[hf] at h;cases h
 | some q=>
  have:=hT.up r q hf;omega
theorem bJ {s:CS} {m:MS} {told:List (Nat×Nat)} (R:Rel s m told) (hT:ZK s.par) {id:Int} (Qx:(QV s.par id).isSome=true):∀ (n c:Nat),c≤n→(QV s.par c).isSome=true→(Uw m.P id c=true↔UK s.par id c)
 | 0,c,h1,h2=>by
  have:=Lq hT h2;omega
 | n+1,c,h1,h2=>by
  have hO:=bI R hT;have Zs:=Lq hT h2;cases hf:QV s.par (c:Int) with
  | none=>rw[hf] at h2;cases h2
  | some q=>
   obtain⟨k,k1,k2,k3,k4⟩:=(R.tree _ _).1 ((YP hT.nd).1 hf);obtain rfl:c=k:=by omega
   have QJ:=(List.getElem?_eq_some_iff.1 k3).1;obtain⟨q1,q2,q3⟩:=hT.up _ _ hf;rw[kL hO (by omega) (by omega),Int.toNat_natCast,getD_eq_getElem?_getD,k3];show (if (c:Int)=id then true else Uw m.P id q)=true↔_;by_cases h3:(c:Int)=id
   ·rw[if_pos h3,h3];exact⟨fun _ => .self,fun _=>rfl⟩
   ·rw[if_neg h3]
    rcases q3 with rfl|q3
    ·rw[kM _ _ (Int.le_refl _)];refine⟨fun h=>(by cases h),fun h=>?_⟩
     rcases h.inv with h4|⟨k,h4,h5⟩
     ·exact absurd h4 h3
     ·rw[hf] at h4;injection h4 with h4
      subst h4;have h6:=h5.live Qx;have:=Lq hT h6;omega
    ·obtain⟨d,rfl⟩:∃ d:Nat,q=d:=⟨q.toNat,by omega⟩;rw[bJ R hT Qx n d (by omega) q3];constructor
     ·intro h;exact .kid h hf
     ·intro h
      rcases h.inv with h4|⟨k,h4,h5⟩
      ·exact absurd h4 h3
      ·rw[hf] at h4;injection h4 with h4
       subst h4;exact h5
theorem wp {s:CS} {m:MS} {told:List (Nat×Nat)} (R:Rel s m told) (hT:ZK s.par) {id:Int} (Qx:(QV s.par id).isSome=true) {L:List Int} (h1:L.Nodup) (h2:L.Pairwise (·≤·)) (h3:∀ c,c∈L↔UK s.par id c):L=(Ux m.P id).map fun k:Nat=>(k:Int):=by
 have VR:∀ c:Nat,c∈Ux m.P id↔UK s.par id c:=fun c=>by
  unfold Ux;rw[kN];constructor
  ·rintro⟨a,⟨b1,b2⟩,d⟩;have hk:m.P[c]? = some (m.P.getD c 0):=by rw[getD_eq_getElem?_getD,getElem?_eq_getElem a];rfl
   have hl:(QV s.par (c:Int)).isSome=true:=by
    rw[(YP hT.nd).2 ((R.tree _ _).2 ⟨c,rfl,b1,hk,b2⟩)];rfl
   exact(bJ R hT Qx c c (Nat.le_refl _) hl).1 d
  ·intro h;have hl:=h.live Qx;cases hf:QV s.par (c:Int) with
   | none=>rw[hf] at hl;cases hl
   | some q=>
    obtain⟨k,k1,k2,k3,k4⟩:=(R.tree _ _).1 ((YP hT.nd).1 hf);obtain rfl:c=k:=by omega
    refine⟨(List.getElem?_eq_some_iff.1 k3).1,⟨k2,?_⟩,(bJ R hT Qx c c (Nat.le_refl _) hl).2 h⟩;rw[getD_eq_getElem?_getD,k3];exact k4
 have Vn:L.Pairwise (· < ·):=by
  have:=h2.and h1;exact this.imp fun h=>by omega
 have Yp:((Ux m.P id).map fun k:Nat=>(k:Int)).Pairwise (· < ·):=by
  rw[pairwise_map];have:(Ux m.P id).Pairwise (· < ·):=List.Pairwise.filter _ pairwise_lt_range;exact this.imp fun h=>by omega
 have key:∀ {a b:List Int},a.Pairwise (· < ·)→b.Pairwise (· < ·)→(∀ x,x∈a↔x∈b)→a=b:=by
  intro a
  induction a with
  | nil=>
   intro b _ _ h;cases b with
   | nil=>rfl
   | cons y b=>exact absurd ((h y).2 mem_cons_self) (by simp)
  | cons x a ih=>
   intro b ha hb h;cases b with
   | nil=>exact absurd ((h x).1 mem_cons_self) (by simp)
   | cons y b=>
    rw[pairwise_cons] at ha hb
    have Yy:x=y:=by
     rcases mem_cons.1 ((h x).1 mem_cons_self) with h4|h4
     ·exact h4
     ·rcases mem_cons.1 ((h y).2 mem_cons_self) with h5|h5
      ·exact h5.symm
      ·have:=hb.1 x h4;have:=ha.1 y h5;omega
    subst Yy;rw[ih ha.2 hb.2 fun z=>?_];constructor
    ·intro hz
     rcases mem_cons.1 ((h z).1 (mem_cons_of_mem _ hz)) with h4|h4
     ·have:=ha.1 z hz;omega
     ·exact h4
    ·intro hz
     rcases mem_cons.1 ((h z).2 (mem_cons_of_mem _ hz)) with h4|h4
     ·have:=hb.1 z hz;omega
     ·exact h4
 refine key Vn Yp fun c=>?_;rw[h3,mem_map];constructor
 ·intro h;have:=Lq hT (h.live Qx);refine⟨c.toNat,(VR _).2 ?_,by omega⟩;rw[show ((c.toNat:Nat):Int)=c by omega];exact h
 ·rintro⟨k,k1,rfl⟩;exact(VR k).1 k1
theorem lQ [Q4] (a:Option Addr) (c n:Nat) (L:List Int) (x:Int) (hn:n≤L.length) (hl:L.length≤1000000) {w:World} {fr:List Q2} (H:Q0 w (IL (.slice a L.length c) L::fr)) :
  Calls Tryz.prog 176 #[.slice a n c,.int .i64 x] w (ret fun v w'=>v = .bool (decide (x∈L.take n))∧Q0 w' (IL (.slice a L.length c) L::fr)):=by
 refine QQ Tryz.func176 rfl (by kernel_rfl) ?_;refine S8 H ?_;refine Qp (fun ms σ w z=>ms=[]∧∃ i:Nat,i≤n∧z=n - i∧x∉L.take i∧σ 0 = .slice a n c∧σ 1 = .int .i64 x∧σ 5 = .int .i64 i∧Q0 w (IL (.slice a L.length c) L::fr)) (m:=n) ⟨rfl,0,by omega,by omega,by simp,rfl,rfl,rfl,H⟩ ?_;rintro ms σ w z ⟨rfl,i,hi,rfl,VK,g0,g1,g5,H⟩;rw[Q1 g0,Q1 g1,Q1 g5];refine B4 H ?_;refine Qk rfl (fun h=>QE ?_) (fun h=>Qu ?_)
 ·have Q6:i < n:=by omega
  have UN:i < L.length:=by omega
  have hy:=getElem?_eq_getElem UN;have Qi:L.take (i+1)=L.take i++[L[i]]:=by rw[take_add_one,hy];rfl
  generalize L[i]=y at hy Qi;obtain⟨b,s,rfl,H,QJ⟩:=VY H (by omega);refine A4 H ?_;refine Jd ?_;refine Q5 rfl (QC H rfl (by simpa using RJ hy) rfl ?_);replace H:=QJ _ _ H;by_cases Yy:y=x
  ·first|refine Jv ?_|refine W6 rfl rfl ?_
   refine Jv ?_;rw[show (y == x)=true by rw[Yy];exact beq_self_eq_true x];refine J2 H ?_;refine ZB H ?_;have hm:x∈L.take n:=mem_of_getElem? (i:=i) (by rw[getElem?_take_of_lt Q6,hy,Yy]);rw[decide_eq_true hm];exact Q3 (Jy H rfl fun w' H'=>⟨rfl,H'⟩)
  ·first|refine Jv ?_|refine W6 rfl rfl ?_
   refine Jv ?_;rw[show (y == x)=false by rw[beq_eq_false_iff_ne];exact Yy];refine CB H ?_;refine Vj H ?_;refine⟨_,⟨rfl,i+1,Q6,rfl,?_,rfl,rfl,Qg (by omega),H⟩,by omega⟩;rw[Qi,mem_append,mem_singleton];rintro(h1|h1)
   ·exact VK h1
   ·exact Yy h1.symm
 ·obtain rfl:i=n:=by omega
  rw[decide_eq_false VK];refine Vg H ?_;exact Q3 (Jy H rfl fun w' H'=>⟨rfl,H'⟩)
def Xv (id q:Nat) (os:List QS) (i:Nat):List QS:=os.mapIdx fun k x=>if k < i then UR id q x else x
theorem Hf (id q:Nat) (os:List QS) (i k:Nat):(Xv id q os i)[k]? = (os[k]?).map fun x=>if k < i then UR id q x else x:=getElem?_mapIdx
theorem bM (id q:Nat) (os:List QS) (i:Nat):(Xv id q os i).length=os.length:=length_mapIdx
theorem wq (id q:Nat) (os:List QS):Xv id q os 0=os:=by
 apply ext_getElem?;intro k;rw[Hf];cases os[k]? <;> simp
theorem wt {id q:Nat} {os:List QS} {i:Nat} {x:QS} (h:os[i]? = some x):(Xv id q os i).set i (UR id q x)=Xv id q os (i+1):=by
 have UN:=(List.getElem?_eq_some_iff.1 h).1;apply ext_getElem?;intro k;rw[getElem?_set,Hf,Hf,bM];by_cases hk:i=k
 ·subst hk;rw[if_pos rfl,if_pos UN,h];simp only[Option.map_some];rw[if_pos (by omega)]
 ·rw[if_neg hk];have:k < i+1↔k < i:=by omega
  simp only[this]
theorem wu (id q:Nat) (os:List QS):Xv id q os os.length=os.map (UR id q):=by
 apply ext_getElem?;intro k;rw[Hf,getElem?_map];cases h:os[k]? with
 | none=>rfl
 | some x=>
  have:=(List.getElem?_eq_some_iff.1 h).1;simp only[Option.map_some];rw[if_pos this]
theorem lV {m:MS} (h:VF m) (id q i:Nat):VF { m with P:=GU m.P id q,objs:=Xv id q m.objs i }:=by
 refine az h (.inl (by show (GU m.P id q).length=_;unfold GU;rw[length_mapIdx])) rfl (bM _ _ _ _) fun o x' V9=>?_;have V9:(Xv id q m.objs i)[o]? = some x':=V9;rw[Hf] at V9;cases hx:m.objs[o]? with
 | none=>rw[hx] at V9;cases V9
 | some x=>
  rw[hx] at V9;injection V9 with V9
  refine⟨x,rfl,?_⟩;rw[← V9];split
  ·exact ay id q x
  ·rfl
theorem lY [Q4] (p:Nat) (m:MS) (id:Nat) (q:Int) (Qx:1≤id) (hq:m.P[id]? = some q) (Kj:0≤q) {w:World} {fr:List Q2} (H:Q0 w (Qy p m::fr)) :
  Calls Tryz.prog 102 #[pp p,.int .i64 id] w (ret fun v w'=>(q=0∧v = .tuple #[.int .i64 0,.int .i64 16]∧Q0 w' (Qy p m::fr))∨(q≠0∧v = .tuple #[.int .i64 q,.int .i64 0]∧Q0 w' (Qy p (EB m id q.toNat)::fr))):=by
 obtain⟨t,lc,oc,aL,cL,aO,cO,hm,h2,h3,Ys,Vu,H⟩:=GI H;have kO:=(List.getElem?_eq_some_iff.1 hq).1;have Ot:m.P.getD id 0=q:=by rw[getD_eq_getElem?_getD,hq];rfl
 have ZE:Yj m.P (id:Int)=true:=decide_eq_true ⟨by omega,by omega,by rw[Int.toNat_natCast,Ot];exact Kj⟩;have hP:=hm.P;have Cm:=hm.few;refine QQ Tryz.func102 rfl (by kernel_rfl) ?_;refine Iq H ?_;replace H:=Js [1,0] 0 H;refine Jc rfl rfl (Dw t m.P id H) ?_;rintro v w ⟨rfl,H⟩;rw[ZE];refine Za H ?_;refine Vb H ?_;refine Jc rfl rfl (wC t m.P id q Qx hq Kj hP.1 (by omega) H) ?_;rintro w0 w (⟨hz,rfl,H⟩|⟨hz,rfl,H⟩)
 ·refine FY H ?_;refine NQ H ?_;exact Q3 (Jy (Zv hm h2 h3 H.swap) rfl fun w' H' => .inl ⟨hz,rfl,H'⟩)
 obtain⟨qn,rfl⟩:∃ qn:Nat,q=qn:=⟨q.toNat,by omega⟩;rw[Int.toNat_natCast] at H ⊢;refine UI H ?_;have ZQ:=lV hm id qn 0;replace H:=Zv (m:={ m with P:=GU m.P id qn,objs:=Xv id qn m.objs 0 }) ZQ h2 (by rw[wq];exact h3) H.swap;refine J7 H ?_;refine Qt (fun ms σ w=>ms=[]∧σ 7 = .int .i64 qn∧Q0 w (Qy p (EB m id qn)::fr)) ?_ ?_
 ·refine Qd ?_;refine Qp (fun ms σ w z=>ms=[]∧∃ i:Nat,i≤m.objs.length∧z=m.objs.length - i∧σ 0=pp p∧σ 1 = .int .i64 id∧σ 7 = .int .i64 qn∧σ 9 = .int .i64 i∧Q0 w (Qy p { m with P:=GU m.P id qn,objs:=Xv id qn m.objs i }::fr)) (m:=m.objs.length) ⟨rfl,0,by omega,by omega,rfl,rfl,rfl,rfl,H⟩ ?_;rintro ms σ w z ⟨rfl,i,hi,rfl,g0,g1,g7,g9,H⟩;rw[Q1 g0,Q1 g1,Q1 g7,Q1 g9];have Zb:=bM id qn m.objs i;by_cases Q6:i < m.objs.length
  ·have hx:=getElem?_eq_getElem Q6;generalize m.objs[i]=x at hx
   have Xt:({ m with P:=GU m.P id qn,objs:=Xv id qn m.objs i }:MS).objs[i]? = some x:=by
    show (Xv id qn m.objs i)[i]? = _;rw[Hf,hx];simp
   obtain⟨t,lc,aL,cL,bO,cO,s,ptrs,qq,vw,vk,vt,rest,Gy,h2,hp,H,QU⟩:=UT H Xt;dsimp only at H QU;rw[Zb] at H QU;refine A6 H ?_;refine Qk rfl (fun h=>QE ?_) (fun h=>absurd (show ((i:Nat):Int) < ((m.objs.length:Nat):Int) by omega) h);refine DM H ?_;refine Jd ?_;refine Q5 rfl (QC H rfl hp rfl ?_);refine Jv ?_;refine DO H ?_;have Zo:Xv id qn m.objs (i+1)=(Xv id qn m.objs i).set i (UR id qn x):=(wt hx).symm;have VB:VF { m with P:=GU m.P id qn,objs:=(Xv id qn m.objs i).set i (UR id qn x) }:=by rw[← Zo];exact lV hm id qn (i+1)
   by_cases hr:x.region=id
   ·rw[show (((x.region:Nat):Int) == ((id:Nat):Int))=true by rw[hr];exact beq_self_eq_true _];refine J2 H ?_;refine Vt H ?_;refine Vb H ?_;refine Jd ?_;refine Q5 rfl (QC H rfl hp rfl ?_);refine ZT H ?_;refine Rh H ?_;intro w H;refine J2 H ?_;have EH:UR id qn x={ x with region:=qn }:=by unfold UR;rw[if_pos hr]
    rw[EH] at Zo VB;replace H:Q0 w (pts qq (K7 vw vk vt { x with region:=qn })::_):=H;replace H:=QU _ _ _ VB H;rw[← Zo] at H;refine Vj H ?_;exact⟨_,⟨rfl,i+1,Q6,rfl,rfl,rfl,rfl,Qg (by omega),H⟩,by omega⟩
   ·rw[show (((x.region:Nat):Int) == ((id:Nat):Int))=false by rw[beq_eq_false_iff_ne];omega];refine CB H ?_;have EH:UR id qn x=x:=by unfold UR;rw[if_neg hr]
    rw[EH] at Zo VB;replace H:=QU _ _ _ VB H;rw[← Zo] at H;refine Vj H ?_;exact⟨_,⟨rfl,i+1,Q6,rfl,rfl,rfl,rfl,Qg (by omega),H⟩,by omega⟩
  ·obtain rfl:i=m.objs.length:=by omega
   obtain⟨t,lc,oc,aL,cL,aO,cO,Gy,h2,h3,Ys,Vu,H⟩:=GI H;dsimp only at H;rw[Zb] at H;refine A6 H ?_;refine Qk rfl (fun h=>absurd (show ((m.objs.length:Nat):Int) < ((m.objs.length:Nat):Int) from h) (by omega)) (fun h=>Qu ?_);rw[← Zb] at H;replace H:=Zv (m:={ m with P:=GU m.P id qn,objs:=Xv id qn m.objs m.objs.length }) Gy h2 h3 H;rw[wu] at H;exact⟨rfl,rfl,rfl,H⟩
 rintro ms σ w ⟨rfl,g7,H⟩;rw[Q1 g7];refine Vj H ?_;exact Q3 (Jy H rfl fun w' H' => .inr ⟨hz,rfl,H'⟩)
def Gk (n:Nat) (os:List Nat) (objs:List QS):List QS:=objs.mapIdx fun o x=>if o∈os then { x with region:=n } else x
theorem Lr (n:Nat) (os:List Nat) (objs:List QS) (k:Nat):(Gk n os objs)[k]? = (objs[k]?).map fun x=>if k∈os then { x with region:=n } else x:=getElem?_mapIdx
theorem bN (n:Nat) (os:List Nat) (objs:List QS):(Gk n os objs).length=objs.length:=length_mapIdx
theorem lZ (n:Nat) (objs:List QS):Gk n [] objs=objs:=by
 apply ext_getElem?;intro k;rw[Lr];cases objs[k]? <;> simp
theorem bP {n:Nat} {os:List Nat} {objs:List QS} {o:Nat} {x:QS} (h:(Gk n os objs)[o]? = some x):(Gk n os objs).set o { x with region:=n }=Gk n (os++[o]) objs:=by
 apply ext_getElem?;intro k;have VH:=(List.getElem?_eq_some_iff.1 h).1;rw[getElem?_set];by_cases hk:o=k
 ·subst hk;rw[if_pos rfl,if_pos VH,Lr];rw[Lr] at h;cases hx:objs[o]? with
  | none=>rw[hx] at h;cases h
  | some y=>
   rw[hx] at h;injection h with h
   subst h;show some _=some (if o∈os++[o] then { y with region:=n } else y);rw[if_pos (show o∈os++[o] by simp)];congr 1;show ({ (if o∈os then { y with region:=n } else y:QS) with region:=n }:QS)=_;split <;> rfl
 ·rw[if_neg hk,Lr,Lr]
  have:k∈os++[o]↔k∈os:=by
   rw[mem_append,mem_singleton];exact⟨fun h=>h.elim id fun h=>absurd h.symm hk,.inl⟩
  simp only[this]
theorem lG {m:MS} (h:VF m) (hP:m.P.length < 100000) (r:Nat) (os:List Nat):VF { m with P:=m.P++[(r:Int)],objs:=Gk m.P.length os m.objs }:=wH h hP r os
theorem wv [Q4] (p:Nat) (m:MS) (r:Nat) (os:List Nat) (al:Option Addr) (cl:Nat) (hd:Gh m.P (r:Int)=0) (Bh:m.P.length < 100000) (Au:∀ o∈os,o < m.objs.length) (hl:os.length≤64) {w:World} {fr:List Q2} (H:Q0 w (Qy p m::NL (.slice al os.length cl) os::fr)) :
  Calls Tryz.prog 104 #[pp p,.int .i64 r,.slice al os.length cl] w (ret fun v w'=>v = .int .i64 m.P.length∧Q0 w' (Qy p (AP m r os)::NL (.slice al os.length cl) os::fr)):=by
 obtain⟨t,lc,oc,aL,cL,aO,cO,hm,h2,h3,Ys,Vu,H⟩:=GI H;have hP:=hm.P;have Cm:=hm.few;refine QQ Tryz.func104 rfl (by kernel_rfl) ?_;refine Vg H ?_;refine Vb H ?_;replace H:=Js [1,0] 0 H;refine Jc rfl rfl (gm t m.P (r:Int) hP.2 hP.1 H) ?_;rintro w0 w (⟨hz,rfl,H⟩|⟨hz,rfl,H⟩)
 ·exact absurd hd hz
 refine Gt H ?_;have ZQ:=lG hm Bh r [];replace H:=Zv (m:={ m with P:=m.P++[(r:Int)],objs:=Gk m.P.length [] m.objs }) ZQ h2 (by rw[lZ];exact h3) H.swap;refine J7 H ?_;refine Qt (fun ms σ w=>ms=[]∧σ 7 = .int .i64 m.P.length∧Q0 w (Qy p (AP m r os)::NL (.slice al os.length cl) os::fr)) ?_ ?_
 ·refine Qd ?_;refine Qp (fun ms σ w z=>ms=[]∧∃ i:Nat,i≤os.length∧z=os.length - i∧σ 0=pp p∧σ 2 = .slice al os.length cl∧σ 7 = .int .i64 m.P.length∧σ 9 = .int .i64 i∧Q0 w (Qy p { m with P:=m.P++[(r:Int)],objs:=Gk m.P.length (os.take i) m.objs }::NL (.slice al os.length cl) os::fr)) (m:=os.length) ⟨rfl,0,by omega,by omega,rfl,rfl,rfl,rfl,H⟩ ?_;rintro ms σ w z ⟨rfl,i,hi,rfl,g0,g2,g7,g9,H⟩;rw[Q1 g0,Q1 g2,Q1 g7,Q1 g9];refine B4 H ?_;refine Qk rfl (fun h=>QE ?_) (fun h=>Qu ?_)
  ·have Q6:i < os.length:=by omega
   have hy:=getElem?_eq_getElem Q6;have EI:=Au _ (mem_of_getElem? hy);have Qi:os.take (i+1)=os.take i++[os[i]]:=by rw[take_add_one,hy];rfl
   generalize os[i]=o at hy Qi EI;obtain⟨bl,sl,rfl,H,QJ⟩:=VY H.swap (by omega);have Zb:=bN m.P.length (os.take i) m.objs;have hx:=getElem?_eq_getElem (show o < (Gk m.P.length (os.take i) m.objs).length by omega);generalize (Gk m.P.length (os.take i) m.objs)[o]=x at hx;have Zo:=bP hx;rw[← Qi] at Zo;have Xt:({ m with P:=m.P++[(r:Int)],objs:=Gk m.P.length (os.take i) m.objs }:MS).objs[o]? = some x:=hx;obtain⟨t,lc,aL,cL,bO,cO,s,ptrs,qq,vw,vk,vt,rest,Gy,h2,hp,H,QU⟩:=UT H.swap Xt;dsimp only at H QU;rw[Zb] at H QU;have VB:VF { m with P:=m.P++[(r:Int)],objs:=(Gk m.P.length (os.take i) m.objs).set o { x with region:=m.P.length } }:=by rw[Zo];exact lG hm Bh r _
   refine Ip H ?_;intro w H;refine YI H ?_;refine Jl 3 [13] H ?_;refine Ku H ?_;refine Ji 6 ?_;refine Y2 7 [13] H rfl (Q8.none rfl) rfl (by simpa using Gb hy) (by kernel_rfl) ?_
   refine Ji 8 ?_;refine Y2 9 [13] H rfl (Q8.none rfl) rfl (by simpa using hp) (by kernel_rfl) ?_;refine NP H ?_;refine Jo 13 H ?_;refine XM H ?_;intro w H;refine Jx H ?_;replace H:Q0 w (pts qq (K7 vw vk vt { x with region:=m.P.length })::_):=H;replace H:=QU _ _ _ VB H;rw[Zo] at H;replace H:=QJ _ _ H.swap;refine Vj H ?_;exact⟨_,⟨rfl,i+1,Q6,rfl,rfl,rfl,rfl,Qg (by omega),H.swap⟩,by omega⟩
  ·obtain rfl:i=os.length:=by omega
   rw[take_length] at H;exact⟨rfl,rfl,rfl,H⟩
 rintro ms σ w ⟨rfl,g7,H⟩;rw[Q1 g7];refine J3 H ?_;exact Q3 (Jy H rfl fun w' H'=>⟨rfl,H'⟩)
end Go.Proofs.YtmjdnljneifpcaaGreatDoor
namespace Go.SL
open List
section
variable {P:Program} {n:Nat} {r:Option Nat} {ops:Array Oper} {Q:Z7} {ms:List Nat} {σ:QB} {w:World} {rest:List Oper} {o:Oper} {K:QB→World→Prop} {l l':List Q2}
variable {ivs:List (List Nat×(World→Prop))} {T:QB→World→Prop} {f:Nat} {L:Array Bool}
variable {u t s:TypeId} {p:String} {af:Array Edge} {g:Option (Nat×Bool)} {d:Option Tmp} {x y z:Operand}
theorem ww {e size bytes b o2 len cap i:Nat} {q:IntKind} (hT:Vx P t e size bytes) (h1:i≤cap) :
  (Instr.sliceAt t (.slice (some ⟨b,o2,none⟩) len cap) none (some (.int q (i:Int))) none).run P w = .ok (.slice (some ⟨b,o2,none⟩) i cap) w:=by
 have hs:(sizeOf e).run P w = .ok size w:=by
  obtain⟨k,hk,e2⟩:=Option.map_eq_some_iff.1 hT.info;simp only[Prod.mk.injEq] at e2;exact Uz (by rw[hk];simp[e2.1])
 have b1:(0:Int)≤i∧(i:Int)≤cap:=by omega
 simp[Instr.sliceAt,Instr.slice,YS hT.und,Instr.sliceBounds,Instr.sliceBound,asIntOf,h1,hs,Gl]
theorem wx {e size bytes b o2 len cap i:Nat} {q:IntKind} (m:Nat) (hm:ops[m]? = some ⟨d,.slice t x none (some y) none,u,p,af,g⟩) (hg:Q8 ops σ ⟨d,.slice t x none (some y) none,u,p,af,g⟩ true) [hT:Vx P t e size bytes] (hx:ev σ x = .slice (some ⟨b,o2,none⟩) len cap) (hy:ev σ y = .int q (i:Int)) (h1:i≤cap)
  (hb:ZW n ops (ivs.map (·.1)) L m []=true) (k:Any P n r ops ivs T f (L.setIfInBounds m true) (put σ d (.slice (some ⟨b,o2,none⟩) i cap)) w):Any P n r ops ivs T (f+1) L σ w:=
 KC m hm hg (fun c e=>by cases e) (fun w=>by simp only[execOp,hx,hy,Option.map_some,Option.map_none,Sem.run_bind,ww hT h1,Result.andThen_ok,Sem.run_pure]) hb k
end
end Go.SL
namespace Go.Proofs.YtmjdnljneifpcaaGreatDoor
open List
open Go.SL
theorem P6 {m:MS} {r:Int} {os:List Int} {e:Nat} (h1:Yj m.P r=true) (h2:os.length≤64) (h3:XB m r [] os=e) (h4:e≠0):Xu m r os=e:=by
 unfold Xu;rw[h1,if_neg (by decide),if_neg (by omega),h3,if_pos h4]
theorem P7 [Q4] (p:Nat) (m:MS) (r:Int) (os:List Int) (al:Option Addr) (cl:Nat) (hl:os.length≤1000000) {w:World} {fr:List Q2} (H:Q0 w (Qy p m::IL (.slice al os.length cl) os::fr)) :
  Calls Tryz.prog 103 #[pp p,.int .i64 r,.slice al os.length cl] w (ret fun v w'=>v = .int .i64 (Xu m r os)∧Q0 w' (Qy p m::IL (.slice al os.length cl) os::fr)):=by
 obtain⟨t,lc,oc,aL,cL,aO,cO,hm,h2,h3,Ys,Vu,H⟩:=GI H;have hP:=hm.P;have Cm:=hm.few;refine QQ Tryz.func103 rfl (by kernel_rfl) ?_;refine Vg H ?_;refine Vb H ?_;replace H:=Js [1,0] 0 H;refine Jc rfl rfl (Dw t m.P r H) ?_;clear H;rintro v w ⟨rfl,H⟩;replace H:=Zv hm h2 h3 H.swap;clear h2 h3 Ys Vu lc oc aL cL aO cO;refine J0 H ?_;cases ZE:Yj m.P r with
 | false=>
  have he:Xu m r os=15:=by unfold Xu;rw[if_pos ZE]
  rw[he];refine FM H ?_;exact Q3 (Jy H rfl fun w' H'=>⟨rfl,H'⟩)
 | true=>
 refine KL H ?_;refine XN H ?_;by_cases Y3:((os.length:Nat):Int) > 64
 ·have he:Xu m r os=18:=by unfold Xu;rw[ZE,if_neg (by decide),if_pos (by omega)]
  rw[show decide (((os.length:Nat):Int) > 64)=true from decide_eq_true Y3];refine ZB H ?_;rw[he];exact Q3 (Jy H rfl fun w' H'=>⟨rfl,H'⟩)
 rw[show decide (((os.length:Nat):Int) > 64)=false from decide_eq_false Y3];have Y3:os.length≤64:=by omega
 refine Vk H ?_;refine F4 H ?_;refine Qp (fun ms σ w z=>ms=[]∧∃ i:Nat,i≤os.length∧z=os.length - i∧XB m r (os.take i) (os.drop i)=XB m r [] os∧σ 0=pp p∧σ 1 = .int .i64 r∧σ 2 = .slice al os.length cl∧σ 8 = .int .i64 i∧Q0 w (Qy p m::IL (.slice al os.length cl) os::fr)) (m:=os.length) ⟨rfl,0,by omega,by omega,rfl,rfl,rfl,rfl,rfl,H⟩ ?_;clear H;rintro ms σ w z ⟨rfl,i,hi,rfl,Yt,g0,g1,g2,g8,H⟩;rw[Q1 g0,Q1 g1,Q1 g2,Q1 g8];refine B4 H ?_;refine Qk rfl (fun h=>QE ?_) (fun h=>Qu ?_)
 ·have Q6:i < os.length:=by omega
  have hy:=getElem?_eq_getElem Q6;have Qi:os.take (i+1)=os.take i++[os[i]]:=by rw[take_add_one,hy];rfl
  have G5:os.drop i=os[i]::os.drop (i+1):=drop_eq_getElem_cons Q6;generalize os[i]=y at hy Qi G5;rw[G5] at Yt;obtain⟨bl,sl,rfl,H,hlc,_,QJ⟩:=GP H.swap (by omega);refine DI H ?_;refine Jd ?_;refine Q5 rfl (QC H rfl (by simpa using RJ hy) rfl ?_);refine Jc rfl rfl (Dx p m y H.swap) ?_;clear H;rintro v w ⟨rfl,H⟩;refine J0 H ?_;cases hv:VL m y with
  | none=>
   have he:=P6 ZE Y3 (Yt.symm.trans (kb hv)) (by decide);rw[he];refine FM H ?_;replace H:=(QJ _ _ _ rfl H.swap).swap;exact Q3 (Jy H rfl fun w' H'=>⟨rfl,H'⟩)
  | some kx=>
   obtain⟨k,x⟩:=kx;obtain⟨rfl,hx,hh,hg⟩:=WM hv;rw[ke hv] at Yt;refine KL H ?_;have VC:=(List.getElem?_eq_some_iff.1 hx).1;obtain⟨t,lc,aL,cL,bO,cO,s,ptrs,qq,vw,vk,vt,rest,Gy,h2,hp,H,QU⟩:=UT H hx;refine J1 H ?_;clear H;intro w H;refine WX H ?_;refine Ku H ?_;refine Ji 6 ?_;refine Y2 7 [] H rfl (Q8.none rfl) rfl (by simpa using RJ hy) (by kernel_rfl) ?_
   refine Ji 8 ?_;refine Y2 9 [] H rfl (Q8.none rfl) rfl (by simpa using hp) (by kernel_rfl) ?_;refine Ja 10 ?_;refine Jf 11 ?_;refine Jl 12 [] H ?_;refine Rl H ?_;have V7:VF { m with objs:=m.objs.set k x }:=BJ hx hm;by_cases c1:(x.region:Int)≠r
   ·rw[if_pos c1] at Yt;have he:=P6 ZE Y3 Yt.symm (by decide);rw[he,show (((x.region:Nat):Int) != r)=true by rw[bne_iff_ne];exact c1];refine ZB H ?_;replace H:=(QJ _ _ _ rfl (K8 hx (QU _ _ _ V7 H)).swap).swap;exact Q3 (Jy H rfl fun w' H'=>⟨rfl,H'⟩)
   rw[if_neg c1] at Yt;rw[show (((x.region:Nat):Int) != r)=false by rw[bne_eq_false_iff_eq];exact Classical.not_not.1 c1];refine N0 H ?_;clear H;intro w H;refine WX H ?_;refine Ku H ?_;refine Ji 6 ?_;refine Y2 7 [] H rfl (Q8.none rfl) rfl (by simpa using RJ hy) (by kernel_rfl) ?_
   refine Ji 8 ?_;refine Y2 9 [] H rfl (Q8.none rfl) rfl (by simpa using hp) (by kernel_rfl) ?_;refine Ja 10 ?_;refine Jf 11 ?_;refine Jl 12 [] H ?_;refine Jx H ?_;cases c2:x.pinned with
   | true=>
    rw[if_pos c2] at Yt;have he:=P6 ZE Y3 Yt.symm (by decide);rw[he];refine ZB H ?_;replace H:=(QJ _ _ _ rfl (K8 hx (QU _ _ _ V7 H)).swap).swap;exact Q3 (Jy H rfl fun w' H'=>⟨rfl,H'⟩)
   | false=>
   rw[if_neg (by rw[c2];decide)] at Yt;refine Vk H ?_;replace H:=(K8 hx (QU _ _ _ V7 H)).swap;refine J1 H ?_;clear H;intro w H;refine DB H ?_;refine wx 2 rfl (Q8.none rfl) rfl rfl (by omega) (by kernel_rfl) ?_;refine Ja 3 ?_;refine Ja 4 ?_;refine Ji 5 ?_;refine Y2 6 [7] H rfl (Q8.none rfl) rfl (by simpa using RJ hy) (by kernel_rfl) ?_;have Hc:=QJ _ _ _ rfl H;refine Jo 7 H ?_;refine Jk rfl rfl (lQ _ cl i os (k:Int) hi hl Hc) ?_;clear H;rintro v w ⟨rfl,H⟩;refine A5 H ?_;by_cases c3:(k:Int)∈os.take i
   ·rw[if_pos c3] at Yt;have he:=P6 ZE Y3 Yt.symm (by decide);rw[he,decide_eq_true c3];refine J7 H ?_;refine YU rfl ?_;refine Vg H ?_;exact Q3 (Jy H.swap rfl fun w' H'=>⟨rfl,H'⟩)
   rw[if_neg c3,← Qi] at Yt;rw[decide_eq_false c3];refine fC H ?_;refine Vj H ?_;exact⟨_,⟨rfl,i+1,Q6,rfl,Yt,rfl,rfl,rfl,Qg (by omega),H.swap⟩,by omega⟩
 ·obtain rfl:i=os.length:=by omega
  rw[take_length,drop_length] at Yt;have Yt:0=XB m r [] os:=Yt;obtain⟨t,lc,oc,aL,cL,aO,cO,Gy,h2,h3,Ys,Vu,H⟩:=GI H;refine G6 H ?_;replace H:=Js [1,0] 0 H;refine Jc rfl rfl (JO t m.P (by omega) H) ?_;clear H;intro v w H;obtain⟨aA,cA,rfl⟩:=QI H (QM _) (by decide);replace H:=Js [0,1,0] 0 H;replace H:=H.drop;replace H:=Zv hm h2 h3 H;refine Mv H ?_
  have he:Xu m r os=if 64≤(V5 m.P).length then 5 else 0:=by
   unfold Xu;rw[ZE,if_neg (by decide),if_neg (by omega),← Yt,if_neg (by decide)]
  rw[he];by_cases c4:(((V5 m.P).length:Nat):Int)≥64
  ·rw[show decide ((((V5 m.P).length:Nat):Int)≥64)=true from decide_eq_true c4,if_pos (by omega)];refine ZB H ?_;exact Q3 (Jy H rfl fun w' H'=>⟨rfl,H'⟩)
  ·rw[show decide ((((V5 m.P).length:Nat):Int)≥64)=false from decide_eq_false c4,if_neg (by omega)];refine De H ?_;exact Q3 (Jy H rfl fun w' H'=>⟨rfl,H'⟩)
def ZL {A:Type} (f:A→A) (i:Nat) (l:List A):List A:=l.mapIdx fun k x=>if k < i then f x else x
theorem EJ {A:Type} (f:A→A) (i:Nat) (l:List A) (k:Nat):(ZL f i l)[k]? = (l[k]?).map fun x=>if k < i then f x else x:=getElem?_mapIdx
theorem EL {A:Type} (f:A→A) (i:Nat) (l:List A):(ZL f i l).length=l.length:=length_mapIdx
theorem P8 {A:Type} (f:A→A) (l:List A):ZL f 0 l=l:=by
 apply ext_getElem?;intro k;rw[EJ];cases l[k]? <;> simp
theorem lU {A:Type} {f:A→A} {l:List A} {i:Nat} {x:A} (h:l[i]? = some x):(ZL f i l).set i (f x)=ZL f (i+1) l:=by
 have UN:=(List.getElem?_eq_some_iff.1 h).1;apply ext_getElem?;intro k;rw[getElem?_set,EJ,EJ,EL];by_cases hk:i=k
 ·subst hk;rw[if_pos rfl,if_pos UN,h];simp only[Option.map_some];rw[if_pos (by omega)]
 ·rw[if_neg hk];have:k < i+1↔k < i:=by omega
  simp only[this]
theorem bc {A:Type} (f:A→A) (l:List A):ZL f l.length l=l.map f:=by
 apply ext_getElem?;intro k;rw[EJ,getElem?_map];cases h:l[k]? with
 | none=>rfl
 | some x=>
  have:=(List.getElem?_eq_some_iff.1 h).1;simp only[Option.map_some];rw[if_pos this]
theorem lX {A:Type} {f:A→A} {l:List A} {i:Nat} {x:A} (h:l[i]? = some x):(ZL f i l)[i]? = some x:=by
 rw[EJ,h];simp only[Option.map_some];rw[if_neg (by omega)]
theorem wy {lays:List Qa} {n:Nat} {x:QS} (h:K6 lays n x) (L:List Nat):K6 lays n (Qn L x):=by
 obtain⟨a,b,c,d,e⟩:=h;unfold Qn;split
 ·exact⟨a,b,c,d,e⟩
 ·exact⟨a,b,c,d,e⟩
theorem bd {m:MS} (h:VF m) (L K:List Nat) (i:Nat):VF { m with P:=Ye m.P K,objs:=ZL (Qn L) i m.objs }:=by
 refine⟨?_,h.lays,fun x' V9=>?_,?_⟩
 ·show 1≤(Ye m.P K).length∧(Ye m.P K).length≤_;unfold Ye;rw[length_mapIdx];exact h.P
 ·show K6 m.lays (ZL (Qn L) i m.objs).length x';rw[EL];obtain⟨o,ho⟩:=getElem?_of_mem V9;have ho:(ZL (Qn L) i m.objs)[o]? = some x':=ho;rw[EJ] at ho;cases hx:m.objs[o]? with
  | none=>rw[hx] at ho;cases ho
  | some x=>
   rw[hx] at ho;injection ho with ho
   have hk:=h.objs x (mem_of_getElem? hx);subst ho;show K6 m.lays m.objs.length (if o < i then Qn L x else x);split
   ·exact wy hk L
   ·exact hk
 ·show (ZL (Qn L) i m.objs).length≤_;rw[EL];exact h.few
def XC (G:List QS) (p:Nat) (l:List (Nat×Nat)):List Nat:=l.mapIdx fun k y=>if k < p∧ZV G y.1 y.2=true then 1 else y.1
def XD (G:List QS) (p:Nat) (l:List (Nat×Nat)):List Nat:=l.mapIdx fun k y=>if k < p∧ZV G y.1 y.2=true then 0 else y.2
def ZM (G:List QS) (p:Nat) (x:QS):QS:={ x with kind:=XC G p (x.kind.zip x.to),to:=XD G p (x.kind.zip x.to) }
theorem wz (G:List QS) (p:Nat) {x:QS} (h:x.kind.length=x.to.length):(ZM G p x).kind.length=x.kind.length∧(ZM G p x).to.length=x.kind.length:=by
 constructor
 ·show (XC G p _).length=_;unfold XC;rw[length_mapIdx,length_zip];omega
 ·show (XD G p _).length=_;unfold XD;rw[length_mapIdx,length_zip];omega
theorem Ls {k t:List Nat} {p a b:Nat} (ha:k[p]? = some a) (hb:t[p]? = some b):(k.zip t)[p]? = some (a,b):=getElem?_zip_eq_some.2 ⟨ha,hb⟩
theorem x6 {G:List QS} {x:QS} {p a b:Nat} (ha:x.kind[p]? = some a) (hb:x.to[p]? = some b):(ZM G p x).kind[p]? = some a∧(ZM G p x).to[p]? = some b:=by
 have hz:=Ls ha hb;constructor
 ·show (XC G p _)[p]? = _;unfold XC;rw[getElem?_mapIdx,hz];show some (if p < p∧ZV G a b=true then 1 else a)=_;rw[if_neg (by omega)]
 ·show (XD G p _)[p]? = _;unfold XD;rw[getElem?_mapIdx,hz];show some (if p < p∧ZV G a b=true then 0 else b)=_;rw[if_neg (by omega)]
theorem x7 {G:List QS} {x:QS} {p a b:Nat} (ha:x.kind[p]? = some a) (hb:x.to[p]? = some b) (hh:ZV G a b=true):({ ZM G p x with kind:=(ZM G p x).kind.set p 1,to:=(ZM G p x).to.set p 0 }:QS)=ZM G (p+1) x:=by
 have hz:=Ls ha hb;have hl:=(List.getElem?_eq_some_iff.1 hz).1
 have h1:(XC G p (x.kind.zip x.to)).set p 1=XC G (p+1) (x.kind.zip x.to):=by
  unfold XC;apply ext_getElem?;intro k;rw[getElem?_set,length_mapIdx,getElem?_mapIdx,getElem?_mapIdx];by_cases hk:p=k
  ·subst hk;rw[if_pos rfl,if_pos hl,hz];show _=some (if p < p+1∧ZV G a b=true then 1 else a);rw[if_pos ⟨by omega,hh⟩]
  ·rw[if_neg hk];have:k < p+1↔k < p:=by omega
   simp only[this]
 have h2:(XD G p (x.kind.zip x.to)).set p 0=XD G (p+1) (x.kind.zip x.to):=by
  unfold XD;apply ext_getElem?;intro k;rw[getElem?_set,length_mapIdx,getElem?_mapIdx,getElem?_mapIdx];by_cases hk:p=k
  ·subst hk;rw[if_pos rfl,if_pos hl,hz];show _=some (if p < p+1∧ZV G a b=true then 0 else b);rw[if_pos ⟨by omega,hh⟩]
  ·rw[if_neg hk];have:k < p+1↔k < p:=by omega
   simp only[this]
 show ({ x with kind:=(XC G p (x.kind.zip x.to)).set p 1,to:=(XD G p (x.kind.zip x.to)).set p 0 }:QS)={ x with kind:=XC G (p+1) (x.kind.zip x.to),to:=XD G (p+1) (x.kind.zip x.to) };rw[h1,h2]
theorem lK {G:List QS} {x:QS} {p a b:Nat} (ha:x.kind[p]? = some a) (hb:x.to[p]? = some b) (hh:¬ ZV G a b=true):ZM G p x=ZM G (p+1) x:=by
 have hz:=Ls ha hb
 have h1:XC G p (x.kind.zip x.to)=XC G (p+1) (x.kind.zip x.to):=by
  unfold XC;apply ext_getElem?;intro k;rw[getElem?_mapIdx,getElem?_mapIdx];by_cases hk:p=k
  ·subst hk;rw[hz];show some (if p < p∧ZV G a b=true then 1 else a)=some (if p < p+1∧ZV G a b=true then 1 else a);rw[if_neg (by omega),if_neg (fun h=>hh h.2)]
  ·have:k < p+1↔k < p:=by omega
   simp only[this]
 have h2:XD G p (x.kind.zip x.to)=XD G (p+1) (x.kind.zip x.to):=by
  unfold XD;apply ext_getElem?;intro k;rw[getElem?_mapIdx,getElem?_mapIdx];by_cases hk:p=k
  ·subst hk;rw[hz];show some (if p < p∧ZV G a b=true then 0 else b)=some (if p < p+1∧ZV G a b=true then 0 else b);rw[if_neg (by omega),if_neg (fun h=>hh h.2)]
  ·have:k < p+1↔k < p:=by omega
   simp only[this]
 unfold ZM;rw[h1,h2]
theorem x8 {G:List QS} {x:QS} (h:x.kind.length=x.to.length):ZM G 0 x=x:=by
 have h1:XC G 0 (x.kind.zip x.to)=x.kind:=by
  unfold XC;apply ext_getElem?;intro k;rw[getElem?_mapIdx];cases ha:x.kind[k]? with
  | none=>
   rw[List.getElem?_eq_none_iff] at ha;rw[getElem?_eq_none (by rw[length_zip];omega)];rfl
  | some a=>
   have hl:=(List.getElem?_eq_some_iff.1 ha).1;rw[Ls ha (getElem?_eq_getElem (show k < x.to.length by omega))];show some (if k < 0∧_ then 1 else a)=_;rw[if_neg (by omega)]
 have h2:XD G 0 (x.kind.zip x.to)=x.to:=by
  unfold XD;apply ext_getElem?;intro k;rw[getElem?_mapIdx];cases ha:x.to[k]? with
  | none=>
   rw[List.getElem?_eq_none_iff] at ha;rw[getElem?_eq_none (by rw[length_zip];omega)];rfl
  | some a=>
   have hl:=(List.getElem?_eq_some_iff.1 ha).1;rw[Ls (getElem?_eq_getElem (show k < x.kind.length by omega)) ha];show some (if k < 0∧_ then 0 else a)=_;rw[if_neg (by omega)]
 unfold ZM;rw[h1,h2]
theorem x9 (G:List QS) {x:QS} (h:x.kind.length=x.to.length):ZM G x.kind.length x=UA G x:=by
 have h1:XC G x.kind.length (x.kind.zip x.to)=(x.kind.zip x.to).map (fun y=>if ZV G y.1 y.2=true then 1 else y.1):=by
  unfold XC;apply ext_getElem?;intro k;rw[getElem?_mapIdx,getElem?_map];cases hz:(x.kind.zip x.to)[k]? with
  | none=>rfl
  | some y=>
   have hl:=(List.getElem?_eq_some_iff.1 hz).1;rw[length_zip] at hl;have hk:k < x.kind.length:=by omega
   show some (if k < x.kind.length∧ZV G y.1 y.2=true then 1 else y.1)=some (if ZV G y.1 y.2=true then 1 else y.1);simp only[hk,true_and]
 have h2:XD G x.kind.length (x.kind.zip x.to)=(x.kind.zip x.to).map (fun y=>if ZV G y.1 y.2=true then 0 else y.2):=by
  unfold XD;apply ext_getElem?;intro k;rw[getElem?_mapIdx,getElem?_map];cases hz:(x.kind.zip x.to)[k]? with
  | none=>rfl
  | some y=>
   have hl:=(List.getElem?_eq_some_iff.1 hz).1;rw[length_zip] at hl;have hk:k < x.kind.length:=by omega
   show some (if k < x.kind.length∧ZV G y.1 y.2=true then 0 else y.2)=some (if ZV G y.1 y.2=true then 0 else y.2);simp only[hk,true_and]
 unfold ZM UA;rw[h1,h2]
theorem be [Q4] {w:World} {oc:List OC} {l:List Q2} {i:Nat} {y:OC} (hy:oc[i]? = some y) (H:Q0 w (star (oc.map Zm)::l)):∃ rest:List Q2,
  Q0 w (pts y.ptr (K7 y.vw y.vk y.vt y.ob)::UL y.vw y.ob.w::NL y.vk y.ob.kind::NL y.vt y.ob.to::star rest::l) ∧
  ∀ (w':World) (l':List Q2) (x':QS),Q0 w' (pts y.ptr (K7 y.vw y.vk y.vt x')::UL y.vw x'.w::NL y.vk x'.kind::NL y.vt x'.to::star rest::l')→Q0 w' (star ((oc.set i { y with ob:=x' }).map Zm)::l'):=by
 have Yz:oc=oc.take i++y::oc.drop (i+1):=by
  have h1:=List.getElem?_eq_some_iff.1 hy;rw[← h1.2];simp
 refine⟨(oc.take i++oc.drop (i+1)).map Zm,Q0.star.1 ((Q0.pick Yz).1 H),fun w' l' x' H'=>?_⟩;have H':=(Q0.pick (R:=Zm) (x:={ y with ob:=x' }) (g1:=oc.take i) (g2:=oc.drop (i+1)) rfl).2 (Q0.star.2 H');rw[← SL.set_split hy] at H';exact H'
theorem Hg (v:Value) (l:List Nat):NL v l=IL v (l.map fun x:Nat=>(x:Int)):=by
 show QF _ 1 v (QH l)=QF _ 1 v (Qm _);unfold QH Qm;rw[map_map];rfl
end Go.Proofs.YtmjdnljneifpcaaGreatDoor
