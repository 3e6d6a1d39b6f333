/- Cells: what is proved on the way: every input of the statement; no condition. Texts joined: JoiD JoiQ MdlP ModF ModG ModH ModI. -/
import Derived.Test.YtmjdnljneifpcaaGreatDoorBee
import Derived.Test.YtmjdnljneifpcaaGreatDoorBen
import Derived.Test.YtmjdnljneifpcaaGreatDoorBed
import Derived.Test.YtmjdnljneifpcaaGreatDoorBej
import Derived.Test.YtmjdnljneifpcaaGreatDoorBek
import Derived.Test.YtmjdnljneifpcaaGreatDoorBeo
set_option linter.unusedVariables false
set_option linter.unusedSimpArgs false
set_option linter.unusedSectionVars false
namespace Go.Proofs.YtmjdnljneifpcaaGreatDoor
open List
open Go.SL
theorem Oh [Q4] (p:Nat) (q:Xf) (last:Nat) (par:List (Int×Int)) (region:Int) {w:World} {fr:List Q2} (H:Q0 w (Qo q.trp last par::VY p q::fr)) :
  Calls Tryz.prog 54 #[pp p,.int .i64 region] w (ret fun v w'=>v = .int .i64 (if (QV par region).isSome then 0 else 15)∧Q0 w' (Qo q.trp last par::VY p q::fr)):=by
 refine QQ Tryz.func54 rfl (by kernel_rfl) ?_;refine J7 H ?_;refine Yx (fun ms σ w=>ms=[]∧(QV par region).isSome=true∧Q0 w (Qo q.trp last par::VY p q::fr)) ?_ ?_
 ·refine Bx H ?_;refine VM H ?_;refine Jc rfl rfl (Iw q.trp last par region H) ?_;clear H;rintro v w ⟨rfl,H⟩;cases hf:(QV par region).isSome with
  | true=>
   refine DI H ?_;exact .inl ⟨rfl,rfl,rfl,H⟩
  | false=>
   refine Mt H ?_;exact Q3 (.inr ⟨by simp,Jy H rfl fun w' H'=>⟨rfl,H'⟩⟩)
 ·clear H;rintro ms σ w ⟨rfl,hf,H⟩;rw[hf];refine Vl H ?_;exact Q3 (Jy H rfl fun w' H'=>⟨rfl,H'⟩)
theorem vu [Q4] {w:World} {a b:Q2} {l:List Q2} (H:Q0 w (a::b::l)):∃ X,X=l∧Q0 w (a::b::X):=⟨l,rfl,H⟩
def AD (s:CS) (l:List Int) (G:List Nat):Prop:=G.Pairwise (· < ·)∧∀ k,k∈G↔∃ g e,s.tab[k]? = some ⟨g,some e⟩∧e.region∈l
theorem AD.len {s:CS} (hw:WF s) {l:List Int} {G:List Nat} (h:AD s l G):G.length≤64:=by
 have:=B6 G 0 64 (fun x hx=>⟨Nat.zero_le _,by
  obtain⟨g,f,h3,_⟩:=(h.2 x).1 hx;have h4:=(List.getElem?_eq_some_iff.1 h3).1;have:=hw.slots.2;omega⟩) h.1
 omega
theorem AD.step {s:CS} {l:List Int} {G M:List Nat} {x:Int} (h:AD s l G) (hx:x∉l) (hM:M.Pairwise (· < ·)) (hm:∀ i,i∈M↔∃ g e,s.tab[i]? = some ⟨g,some e⟩∧e.region=x):(∀ k∈G,k∉M)∧AD s (l++[x]) (Ke G M):=by
 have hd:∀ k∈G,k∉M:=fun k hk VN=>by
  obtain⟨g,e,h1,h2⟩:=(h.2 k).1 hk;obtain⟨g',e',h3,h4⟩:=(hm k).1 VN;rw[h1] at h3;injection h3 with h3
  injection h3 with _ h3
  injection h3 with h3
  subst h3;exact hx (h4▸h2)
 refine⟨hd,jX h.1 hM hd,fun k=>?_⟩;rw[tL,h.2,hm];constructor
 ·rintro(⟨g,e,h1,h2⟩|⟨g,e,h1,h2⟩)
  ·exact⟨g,e,h1,mem_append.2 (.inl h2)⟩
  ·exact⟨g,e,h1,mem_append.2 (.inr (mem_singleton.2 h2))⟩
 ·rintro⟨g,e,h1,h2⟩
  rcases mem_append.1 h2 with h2|h2
  ·exact .inl ⟨g,e,h1,h2⟩
  ·exact .inr ⟨g,e,h1,mem_singleton.1 h2⟩
theorem Xo.rk {s s':CS} {D:List Rf} (h:Xo s D s') (hR:WP s):WP s':=by
 refine⟨h.nd,fun r t hr=>?_⟩;rw[h.rem] at hr;split at hr
 ·cases hr
 ·obtain⟨k,p,g,e,h1,h2,h3⟩:=hR.key r t hr;exact⟨k,p,g,Vy D k e,h1,h.tab k _ h2,by rw[Cm];exact h3⟩
def E9 (s:CS) (G ks:List Nat) (D:List Rf):Prop:=∀ r:Rf,r∈D↔(∃ t∈ks,QV s.rem r=some ((t:Nat):Int))∧¬ ∃ k∈G,r.1=((k:Nat):Int)
structure Wb (s:CS) (ks:List Nat) (s':CS):Prop where
 size:s'.size=s.size
 own:s'.own=s.own
 lays:s'.lays=s.lays
 last:s'.last=s.last
 par:s'.par=s.par
 sps:s'.sps=s.sps
 tabl:s'.tab.length=s.tab.length
 tab:∀ (k:Nat) (t:QW),s.tab[k]? = some t→s'.tab[k]? = some (if k∈ks then ⟨t.gen,none⟩ else t)
 nd:(s'.rem.map (·.1)).Nodup
 rem:∀ r,QV s'.rem r=if ∃ k∈ks,r.1=((k:Nat):Int) then none else QV s.rem r
theorem Wb.start {s:CS} (h:(s.rem.map (·.1)).Nodup):Wb s [] s:=
 ⟨rfl,rfl,rfl,rfl,rfl,rfl,rfl,fun k t hk=>by rw[if_neg (by simp)];exact hk,h,fun r=>by rw[if_neg (by simp)]⟩
theorem Wb.step {s s' s2:CS} {ks:List Nat} (h:Wb s ks s') {k n:Nat} {e:Q8} (hk:s.tab[k]? = some ⟨n,some e⟩) (hL:OE s' k n s2):Wb s (ks++[k]) s2:=by
 refine⟨hL.size.trans h.size,hL.own.trans h.own,hL.lays.trans h.lays,hL.last.trans h.last,hL.par.trans h.par,hL.sps.trans h.sps,by rw[hL.tab,length_set];exact h.tabl,fun j t hj=>?_,hL.nd,fun r=>?_⟩
 ·have Zz:=h.tab j t hj;have ZP:=(List.getElem?_eq_some_iff.1 Zz).1;rw[hL.tab];by_cases Xe:k=j
  ·subst Xe;rw[hk] at hj;injection hj with hj
   subst hj;rw[getElem?_set_self ZP,if_pos (by simp)]
  ·rw[getElem?_set_ne Xe,Zz]
   have h1:j∈ks++[k]↔j∈ks:=by
    rw[mem_append,mem_singleton];exact⟨fun h=>h.elim id fun h=>absurd h.symm Xe,.inl⟩
   by_cases h2:j∈ks
   ·rw[if_pos h2,if_pos (h1.2 h2)]
   ·rw[if_neg h2,if_neg (fun h=>h2 (h1.1 h))]
 ·rw[hL.rem,h.rem];by_cases h1:r.1=((k:Nat):Int)
  ·rw[if_pos h1,if_pos ⟨k,by simp,h1⟩]
  ·rw[if_neg h1];by_cases h2:∃ j∈ks,r.1=((j:Nat):Int)
   ·obtain⟨j,h3,h4⟩:=h2;rw[if_pos ⟨j,h3,h4⟩,if_pos ⟨j,mem_append.2 (.inl h3),h4⟩]
   ·rw[if_neg h2,if_neg];rintro⟨j,h3,h4⟩
    rcases mem_append.1 h3 with h3|h3
    ·exact h2 ⟨j,h3,h4⟩
    ·rw[mem_singleton] at h3;subst h3;exact h1 h4
structure Bc (s:CS) (l:List Int) (s':CS):Prop where
 size:s'.size=s.size
 own:s'.own.length=s.own.length
 lays:s'.lays=s.lays
 last:s'.last=s.last
 par:s'.par=l.foldl QN s.par
 tab:s'.tab=s.tab
 rem:s'.rem=s.rem
 sps:∀ y∈s.sps,y.1∉l→y∈s'.sps
 owns:∀ j,s'.own.getD j 0=if ((s.own.getD j 0:Nat):Int)∈l then 0 else s.own.getD j 0
theorem Bc.start (s:CS):Bc s [] s:=⟨rfl,rfl,rfl,rfl,rfl,rfl,rfl,fun y h _=>h,fun j=>by rw[if_neg (by simp)]⟩
theorem Bc.step {s s':CS} {l:List Int} (h:Bc s l s') (x:Int) {own':List Nat} (ho:own'.length=s'.own.length) (sps:List (Int×Nat×QO)) (mns:List (Int×Nat×List Nat)) (Yw:∀ y∈s'.sps,y.1≠x→y∈sps) (hog:∀ j,own'.getD j 0=if ((s'.own.getD j 0:Nat):Int)=x then 0 else s'.own.getD j 0):Bc s (l++[x]) { s' with own:=own',par:=QN s'.par x,sps:=sps,mns:=mns }:=
 ⟨h.size, ho.trans h.own, h.lays, h.last, by show QN s'.par x = _; rw [h.par, foldl_append]; rfl, h.tab, h.rem, fun y hy hn => Yw y (h.sps y hy fun h1 => hn (mem_append.2 (.inl h1))) fun h1 => hn (mem_append.2 (.inr (by rw [h1]; exact mem_singleton.2 rfl))), fun j => by
  show own'.getD j 0=_;rw[hog,h.owns];by_cases h1:((s.own.getD j 0:Nat):Int)∈l
  ·rw[if_pos h1,if_pos (mem_append.2 (.inl h1))];split <;> rfl
  ·rw[if_neg h1];by_cases h2:((s.own.getD j 0:Nat):Int)=x
   ·rw[if_pos h2,if_pos (mem_append.2 (.inr (by rw[h2];exact mem_singleton.2 rfl)))]
   ·rw[if_neg h2,if_neg (fun h3=>(mem_append.1 h3).elim h1 fun h4=>h2 (mem_singleton.1 h4))]⟩
theorem Oi:∀ (ks:List Int) {m:List (Int×Int)},(m.map (·.1)).Nodup→((ks.foldl QN m).map (·.1)).Nodup
 | [],_,h=>h
 | k::ks,_,h=>Oi ks (Rw h)
theorem vy {m:List (Int×Int)} {k x:Int} (QB:k≠x) (hx:x∈m.map (·.1)):x∈(QN m k).map (·.1):=by
 induction m with
 | nil=>exact hx
 | cons a m ih=>
  unfold QN;split
  ·rename_i h;rw[map_cons,mem_cons] at hx
   rcases hx with hx|hx
   ·exact absurd (hx.trans h).symm QB
   ·exact hx
  ·rw[map_cons,mem_cons] at hx ⊢
   rcases hx with hx|hx
   ·exact .inl hx
   ·exact .inr (ih hx)
theorem kF {x:Int}:∀ {ks:List Int} {m:List (Int×Int)},x∉ks→x∈m.map (·.1)→x∈(ks.foldl QN m).map (·.1)
 | [],_,_,h=>h
 | k::ks,_,h1,h=>kF (ks:=ks) (fun h2=>h1 (mem_cons_of_mem _ h2)) (vy (fun e=>h1 (e▸mem_cons_self)) h)
theorem vz {own own' C:List Nat} {r:Int} (hog:∀ j,own'.getD j 0=if j∈C then 0 else own.getD j 0) (ho:∀ c,c∈C↔∃ q:Nat,own[c]? = some q∧(q:Int)=r∧q≠0) (j:Nat):own'.getD j 0=if ((own.getD j 0:Nat):Int)=r then 0 else own.getD j 0:=by
 rw[hog j];by_cases hj:j∈C
 ·obtain⟨q',h1,h2,_⟩:=(ho j).1 hj;rw[if_pos hj,if_pos (by rw[getD_eq_getElem?_getD,h1];exact h2)]
 ·rw[if_neg hj];split
  ·rename_i h1;rw[getD_eq_getElem?_getD] at h1 ⊢;cases h2:own[j]? with
   | none=>rfl
   | some y=>
    rw[h2] at h1;have h1:((y:Nat):Int)=r:=h1;by_cases h3:y=0
    ·exact h3
    ·exact absurd ((ho j).2 ⟨y,h2,h1,h3⟩) hj
  ·rfl
def LN (s:CS) (L:List Int) (s':CS):Prop:=∃ (G:List Nat) (Dl:List Rf) (s1 s2:CS),AD s L G∧Xo s Dl s1∧E9 s G G Dl∧Wb s1 G s2∧Bc s2 L s'
set_option maxRecDepth 10000 in
theorem aN [Q4] (p:Nat) (s:CS) (region:Int) (hT:ZJ s.par) (Qx:(QV s.par region).isSome=true) (hI:Inv s) (Oj:∀ (k g:Nat) (e:Q8),s.tab[k]? = some ⟨g,some e⟩→g < 255) {w:World} {fr:List Q2} (H:Q0 w (QD p s::fr)) :
  Calls Tryz.prog 14 #[pp p,.int .i64 region] w (ret fun v w'=>∃ u L s',v = .tuple #[u,.int .i64 0]∧L.Nodup∧L.Pairwise (·≤·)∧(∀ c,c∈L↔Ge s.par region c)∧L.length≤s.par.length∧LN s L s'∧Q0 w' (IL u L::QD p s'::fr)):=by
 obtain⟨q,mem,hw,hm,H⟩:=Y9 H;refine QQ Tryz.func14 rfl (by kernel_rfl) ?_;refine GV H ?_;clear H;intro b2 w H;refine J4 H ?_;replace H:=Js [6,1,0,0,0,0,0] 0 H;refine XJ H ?_;refine Jc rfl rfl (Oh p q s.last s.par region H) ?_;clear H;rintro v w ⟨rfl,H⟩;rw[if_pos Qx];refine ZT H ?_;refine Kp H ?_;refine Jc rfl rfl (tH q.trp s.last s.par region hT Qx (by have:=hw.par.1;omega) H) ?_;clear H;rintro v w ⟨u,L,rfl,UN,US,Cu,Ol,H⟩;obtain⟨aL,cL,rfl⟩:=QI H (YC L) (by decide);refine U2 H ?_;refine Uv H ?_;refine Jc rfl rfl (Su H) ?_;clear H;rintro v w ⟨bg,rfl,H⟩;refine VS H ?_;clear H;intro b9 w H;refine B1 H ?_;clear H;intro w H;refine J2 H ?_;refine KF H ?_;have OR:L.length≤64:=by have:=hw.par.1;omega
 have LL:∀ x∈L,x∈s.mns.map (·.1):=fun x hx=>by
  have h1:=((Cu x).1 hx).live Qx;rw[hw.mkeys];cases hf:QV s.par x with
  | none=>rw[hf] at h1;cases h1
  | some y=>exact mem_map.2 ⟨(x,y),KK hf,rfl⟩
 replace H:=Js [2,1,0,11,1,1,8,0,0,0,0,0,0,0,0] 0 H;obtain⟨X,hX,H⟩:=vu H;refine J6 H ?_;refine Qt (fun ms σ w=>ms=[]∧∃ G:List Nat,AD s L G∧σ 2=pp b2∧σ 7 = .slice aL L.length cL∧σ 9=pp b9∧Q0 w (IL (.slice aL L.length cL) L::VQ bg G::X)) ?_ ?_
 ·refine Qe ?_;refine Qq (fun ms σ w z=>ms=[]∧∃ (i:Nat) (G:List Nat),i≤L.length∧z=L.length - i∧AD s (L.take i) G∧σ 2=pp b2∧σ 7 = .slice aL L.length cL∧σ 9=pp b9∧σ 36 = .slice aL L.length cL∧σ 37 = .int .i64 L.length∧σ 38 = .int .i64 i∧Q0 w (IL (.slice aL L.length cL) L::VQ bg G::X)) (m:=L.length) ⟨rfl,0,[],by omega,rfl,⟨List.Pairwise.nil,fun k=>by simp⟩,rfl,rfl,rfl,rfl,rfl,rfl,H⟩ ?_;clear H;rintro ms σ w z ⟨rfl,i,G,hi,rfl,hG,g2,g7,g9,g36,g37,g38,H⟩;rw[Q1 g2,Q1 g7,Q1 g9,Q1 g36,Q1 g37,Q1 g38];refine J7 H ?_;refine Qm rfl (fun h=>QF ?_) (fun h=>Qv ?_)
  ·have Q6:i < L.length:=by omega
   have hx:=getElem?_eq_getElem Q6;have Qj:L.take (i+1)=L.take i++[L[i]]:=by rw[take_add_one,hx];rfl
   have KT:L[i]∉L.take i:=fun hh=>by
    obtain⟨j,hj⟩:=getElem?_of_mem hh;rw[getElem?_take] at hj;split at hj
    ·rename_i Yf;obtain⟨BI,Ka⟩:=List.getElem?_eq_some_iff.1 hj;exact(pairwise_iff_getElem.1 UN) j i BI Q6 Yf Ka
    ·cases hj
   have BO:=LL _ (getElem_mem Q6);generalize L[i]=x at hx Qj KT BO;obtain⟨b',ZW⟩:=R8 (l:=s.mns) (f:=fun x=>x.1) (g:=fun x=>x.2.1) (k:=x) BO;obtain⟨⟨r1,b1,M⟩,m1,m2,Vk,VC,YD⟩:=R7 ZW;have VC:r1=x:=VC;have YD:b1=b':=YD;subst VC YD;have Xh:QV (s.mns.map VU) r1=some b1:=ZW;have hM:=hw.mine (r1,b1,M) (by rw[Vk];simp);have Bd:AD s [r1] M:=⟨hM.1,fun k=>by rw[hM.2];simp⟩;have w9:=Bd.len hw;have LO:=hG.len hw;obtain⟨M3,TE⟩:=hG.step KT hM.1 hM.2;rw[hX] at H;obtain⟨bT,sT,rfl,H,QM⟩:=VX H (by omega);refine Z7 H ?_;refine Jd ?_;refine Q5 rfl (QA H rfl (by simpa using RZ hx) rfl ?_);refine J0 H ?_;replace H:=QM _ _ H;replace H:=Js [3,0,0,0] 0 H;replace H:Q0 w (VQ b1 M::star ((m1++m2).map VV)::_):=(Q0.pick (R:=VV) (x:=(r1,b1,M)) Vk).1 H;replace H:=Js [3,0,0,0] 0 H;refine J1 H ?_;clear H;intro w H;refine Jl 0 [7] H ?_;refine Jl 1 [7] H ?_;refine Ja 2 ?_;refine Jf 3 ?_;refine Jl 4 [] H ?_;refine Ja 5 ?_;refine RL 6 [] (key:=r1) H rfl (Q9.none rfl) rfl rfl Vp (by kernel_rfl) ?_;rw[Xh];refine Jo 7 H ?_;refine Jk rfl rfl (tO bg b1 G M hG.1 hM.1 M3 (by omega) (by omega) H) ?_;clear H;rintro v w ⟨rfl,H⟩;refine Jx H ?_;replace H:=Js [1,1,0,0] 0 H;replace H:=(Q0.pick (R:=VV) (x:=(r1,b1,M)) Vk).2 H;replace H:=Js [2,1,1,0] 0 H;refine J3 H ?_;exact⟨_,⟨rfl,i+1,Ke G M,Q6,rfl,by rw[Qj];exact TE,rfl,rfl,rfl,rfl,rfl,Qh (by omega),by rw[hX];exact H⟩,by omega⟩
  ·have V2:i=L.length:=by omega
   subst V2;rw[take_length] at hG;exact⟨rfl,rfl,G,hG,rfl,rfl,rfl,H⟩
 clear H;rintro ms σ w ⟨rfl,G,hG,g2,g7,g9,H⟩;rw[Q1 g2,Q1 g7,Q1 g9];rw[hX] at H;clear hX;have LO:=hG.len hw;replace H:=Js [1,0] 0 H;refine UB H ?_;refine Jc rfl rfl (OW bg G (by omega) H) ?_;clear H;rintro v w ⟨bv,av,cv,rfl,H⟩;refine J2 H ?_;replace H:=Js [6,9,9,9,9,9,9,9,7,5,0,0,0,0,0,0,0] 0 H;replace H:=LW hw hm H;refine J6 H ?_;refine Qt (fun ms σ w=>(∃ (D:Nat) (s1:CS) (Dl:List Rf),ms=[D]∧Xo s Dl s1∧E9 s G G Dl∧Q0 w (Xn p q s1::VQ bg G::pts b9 (row 61 [pp bg])::pts b2 (row 44 [pp p])::pts D (.deferred (some []))::IL (.slice aL L.length cL) L::Qo q.trp s.last (L.foldl QN s.par)::fr))∧σ 2=pp b2∧σ 7 = .slice aL L.length cL∧σ 9=pp b9) ?_ ?_
 ·refine Qe (W0 (a:=[]) (b:=[pp bv]) H rfl (fun yl D w H=>?_));generalize hL:LR _ yl _ _ _ _ D .ready=LRR at H ⊢;obtain⟨J,hJ⟩:∃ J:List Nat→Q2,J=fun ks=>ex fun x:CS×List Rf=>star [prop (Xo s x.2 x.1∧E9 s G ks x.2),LRR,Xn p q x.1,VQ bg G,pts b9 (row 61 [pp bg]),pts b2 (row 44 [pp p])]:=⟨_,rfl⟩
  have V9:∀ (ks:List Nat) (s1:CS) (Dl:List Rf) (w:World) (l':List Q2),Xo s Dl s1→E9 s G ks Dl→Q0 w (LRR::Xn p q s1::VQ bg G::pts b9 (row 61 [pp bg])::pts b2 (row 44 [pp p])::l')→Q0 w (J ks::l'):=by
   intro ks s1 Dl w l' h1 h2 H;rw[hJ];exact Q0.ex.2 ⟨(s1,Dl),Q0.star.2 (Q0.prop.2 ⟨⟨h1,h2⟩,H⟩)⟩
  have YW:∀ (ks:List Nat) (w:World) (l':List Q2),Q0 w (J ks::l')→∃ s1 Dl,Xo s Dl s1∧E9 s G ks Dl∧Q0 w (LRR::Xn p q s1::VQ bg G::pts b9 (row 61 [pp bg])::pts b2 (row 44 [pp p])::l'):=by
   intro ks w l' H;rw[hJ] at H;obtain⟨⟨s1,Dl⟩,H⟩:=Q0.ex.1 H;obtain⟨⟨h1,h2⟩,H⟩:=Q0.prop.1 (Q0.star.1 H);exact⟨s1,Dl,h1,h2,H⟩
  replace H:=Js [0,1,3,4,4,1,1,0,0,0] 0 H;replace H:=V9 [] s [] _ _ (Xo.start hI.nd) (fun r=>by simp) H;refine call (OA yl bv av cv G (by omega) J ?_ H) ?_
  ·clear H;intro ks k tt rest w Yc H;obtain⟨s1,Dl,Vo,Y2,H⟩:=YW _ _ _ H;subst hL;refine Kj (args:=[.int .i64 k]) H rfl rfl ?_;refine Vl H ?_;refine⟨rfl,_,H,fun w H=>Qe ?_⟩;generalize hLB:LR _ yl _ _ _ _ D .busy=LB at H ⊢;replace H:=Js [1,0] 0 H;obtain⟨mem1,HR,ZY,H⟩:=LK H;replace H:=Js [5,0,0,0,0,0] 0 H;refine Kp H ?_;refine Jc rfl rfl (u9 q.rp s1.rem (OD HR (Vo.rk hI.rk)) k H) ?_;clear H;rintro v w ⟨rs,aP,wQ,H⟩;obtain⟨ar,cr,rfl⟩:=QI H (Fg rs) (by decide);refine W7 H ?_
   have AK:rs.length≤1000000:=by
    have h1:=U5 (l₁:=rs) (l₂:=s1.rem.map (·.1)) (wQ.imp fun h=>by
     rintro rfl
     rcases h with h|⟨_,h⟩ <;> omega) (fun r hr=>by
     have:=(aP r).1 hr;exact mem_map.2 ⟨(r,((k:Nat):Int)),KK this,rfl⟩)
    rw[length_map] at h1;have:=OD HR (Vo.rk hI.rk);omega
   have Gt:k∉ks:=fun h=>by
    have h1:=hG.1;rw[Yc,pairwise_append] at h1;have:=h1.2.2 k h k mem_cons_self;omega
   replace H:=Js [2,2,2,2,2,1,1,1,1,1,0] 0 H;replace H:=LW HR ZY H;refine J6 H ?_;refine Qe (Qq (fun ms σ w z=>ms=[]∧∃ (i:Nat) (s2:CS) (D2:List Rf),i≤rs.length∧z=rs.length - i∧Xo s D2 s2∧(∀ r,r∈D2↔r∈Dl∨(r∈rs.take i∧¬ ∃ k∈G,r.1=((k:Nat):Int)))∧σ 2=pp b2∧σ 9=pp b9∧σ 59 = .slice ar rs.length cr∧σ 60 = .int .i64 rs.length∧σ 61 = .int .i64 i∧Q0 w (Xn p q s2::QE 133 2 (.slice ar rs.length cr) (Gs rs)::LB::VQ bg G::pts b9 (row 61 [pp bg])::pts b2 (row 44 [pp p])::rest)) (m:=rs.length) ⟨rfl,0,s1,Dl,by omega,rfl,Vo,(fun r=>by simp),rfl,rfl,rfl,rfl,rfl,H⟩ ?_);clear H HR ZY;rintro ms σ w z ⟨rfl,i,s2,D2,hi,rfl,ZR,Zj,g2,g9,g59,g60,g61,H⟩;rw[Q1 g2,Q1 g9,Q1 g59,Q1 g60,Q1 g61];refine J7 H ?_;refine Qm rfl (fun h=>QF ?_) (fun h=>Qv ?_)
   ·have Q6:i < rs.length:=by omega
    have hx:=getElem?_eq_getElem Q6;have Qj:rs.take (i+1)=rs.take i++[rs[i]]:=by rw[take_add_one,hx];rfl
    have VR:=(aP _).1 (getElem_mem Q6);generalize rs[i]=rr at hx Qj VR;rw[Vo.rem] at VR;split at VR
    ·cases VR
    rename_i OO;obtain⟨kk,pl,g,e,a,b,f,rfl,hk,Uk,KQ,ZE,AB,Cn,hka⟩:=(hI.rem _ _).1 VR;have VN:=ZR.tab kk _ hk;replace H:=Js [1,0] 0 H;obtain⟨bT,sT,rfl,H,QM⟩:=VX H (by omega);refine Z7 H ?_;refine Jd ?_;rw[show 0+((i:Nat):Int).toNat*2=0+i*2 by simp];refine Q5 rfl (Vz H rfl (gB hx) rfl ?_);refine VS H ?_;clear H;intro b14 w H;refine J5 H ?_;clear H;intro w H;refine J2 H ?_;replace H:=QM _ _ H.swap;replace H:=Js [4,0,0,0,0] 0 H;refine UB H ?_;refine Gm H ?_;refine Jc rfl rfl (gG bg G kk hG.1 (by omega) H) ?_;clear H;rintro v w ⟨rfl,H⟩;by_cases GC:kk∈G
    ·rw[decide_eq_true GC];refine CV H ?_;replace H:=Js [3,1,2,0,1,1] 1 H;refine⟨_,⟨rfl,i+1,s2,D2,Q6,rfl,ZR,(fun r=>?_),rfl,rfl,rfl,rfl,Qh (by omega),H⟩,by omega⟩;rw[Zj,Qj];constructor
     ·rintro(h1|⟨h1,h2⟩)
      ·exact .inl h1
      ·exact .inr ⟨mem_append.2 (.inl h1),h2⟩
     ·rintro(h1|⟨h1,h2⟩)
      ·exact .inl h1
      ·rcases mem_append.1 h1 with h1|h1
       ·exact .inr ⟨h1,h2⟩
       ·rw[mem_singleton] at h1;subst h1;exact absurd ⟨kk,GC,rfl⟩ h2
    ·rw[decide_eq_false GC];refine WQ H ?_;replace H:=Js [3,0,0,0] 0 H;obtain⟨mem2,UK,Zo,H⟩:=LK H;replace H:=Js [4,0,0,0,0] 0 H;refine UB H ?_;refine Gm H ?_;refine Jc rfl rfl (Tu p q s2.tab kk g (Vy D2 kk e) VN H) ?_;clear H;rintro v w ⟨rfl,H⟩;refine YA H ?_;clear H;intro b15 w H;refine VS H ?_;clear H;intro b16 w H;refine J5 H ?_;clear H;intro w H;refine J5 H ?_;clear H;intro w H;refine J2 H ?_;have aT:=WJ UK Zo VN;have kH:pl < (Vy D2 kk e).ws.length:=by rw[Cm];exact Uk
     have wV:Va (Qd s2 (Vy D2 kk e)) pl=true:=by rw[ZR.lay];exact KQ
     replace H:=Js [4,4,4,0,0,0,0] 0 H;refine J1 H ?_;clear H;intro w H;refine Jl 0 [] H ?_;refine WZ H ?_;refine Jl 3 [] H ?_;refine Bv H ?_;refine Jf 6 ?_;refine Jl 7 [] H ?_;refine Uc 8 rfl (Q9.none rfl) rfl (by kernel_rfl) ?_;have kI:=gY q.ip q.sp q.bp s2.size s2.lays mem2 s2.own (Vy D2 kk e).addr (Vy D2 kk e).lay (Vy D2 kk e).count kk (Vy D2 kk e).ws.length (Qd s2 (Vy D2 kk e)) aT pl .grave trivial H;refine Jo 9 H ?_;refine Jk rfl rfl (kI) ?_;clear H kI;rintro v w ⟨rfl,H⟩;rw[uA kH wV,if_pos rfl,Int.toNat_natCast] at H;refine Jx H ?_;replace H:=Js [7,0,0,0,0,0,0,0] 0 H;refine J1 H ?_;clear H;intro w H;refine Jl 0 [] H ?_;refine WZ H ?_;refine Jl 3 [] H ?_;refine Vw 4 [] H rfl (Q9.none rfl) rfl (by repeat first|exact .nil _|apply QY.cons rfl) (by kernel_rfl) ?_;refine Jo 5 H ?_;refine Jk rfl rfl (Iv q.rp s2.rem ZR.nd (((kk:Nat):Int),((pl:Nat):Int)) H) ?_;clear H;rintro v w ⟨rfl,H⟩;refine Jx H ?_;replace H:=Js [6,6,1,1,1,0,2,2,2,2,3,4,2,3,3] 3 H;replace H:=TY (e':={ Vy D2 kk e with ws:=(Vy D2 kk e).ws.set pl 1 }) VN rfl H;replace H:=Js [1,1,1,1,0] 0 H;replace H:=LW (s:=LD s2 kk g pl (Vy D2 kk e)) (uD UK VN) (uE UK Zo VN kH) H;refine J3 H ?_;refine⟨_,⟨rfl,i+1,LD s2 kk g pl (Vy D2 kk e),D2++[(((kk:Nat):Int),((pl:Nat):Int))],Q6,rfl,ZR.step hk,(fun r=>?_),rfl,rfl,rfl,rfl,Qh (by omega),H⟩,by omega⟩;rw[mem_append,Zj,Qj];constructor
     ·rintro((h1|⟨h1,h2⟩)|h1)
      ·exact .inl h1
      ·exact .inr ⟨mem_append.2 (.inl h1),h2⟩
      ·refine .inr ⟨mem_append.2 (.inr h1),?_⟩;rw[mem_singleton] at h1;subst h1;rintro⟨k',h3,h4⟩;have h4:((kk:Nat):Int)=((k':Nat):Int):=h4;obtain rfl:kk=k':=by omega
       exact GC h3
     ·rintro(h1|⟨h1,h2⟩)
      ·exact .inl (.inl h1)
      ·rcases mem_append.1 h1 with h1|h1
       ·exact .inl (.inr ⟨h1,h2⟩)
       ·exact .inr h1
   ·have V2:i=rs.length:=by omega
    subst V2;rw[take_length] at Zj
    have wY:E9 s G (ks++[k]) D2:=by
     intro r;rw[Zj,aP,Vo.rem];constructor
     ·rintro(h0|⟨h1,h2⟩)
      ·obtain⟨⟨t,h1,h2⟩,h3⟩:=(Y2 r).1 h0;exact⟨⟨t,mem_append.2 (.inl h1),h2⟩,h3⟩
      ·split at h1
       ·cases h1
       ·exact⟨⟨k,by simp,h1⟩,h2⟩
     ·rintro⟨⟨t,h1,h2⟩,h3⟩
      rcases mem_append.1 h1 with h1|h1
      ·exact .inl ((Y2 r).2 ⟨⟨t,h1,h2⟩,h3⟩)
      ·rw[mem_singleton] at h1;subst h1;refine .inr ⟨?_,h3⟩;rw[if_neg]
       ·exact h2
       ·intro h4;obtain⟨⟨t',h5,h6⟩,_⟩:=(Y2 r).1 h4;rw[h2] at h6;injection h6 with h6
        obtain rfl:t=t':=by omega
        exact Gt h5
    subst hLB;replace H:=Js [2,0,1,1,1] 1 H;exact⟨rfl,_,H,fun w H=>⟨rfl,V9 _ _ _ _ _ ZR wY H⟩⟩
  ·clear H;rintro v w H;obtain⟨s1,Dl,Vo,Y2,H⟩:=YW _ _ _ H;subst hL;refine⟨_,H,fun w H=>?_⟩;replace H:=Js [0,0,0,0,2,2,2] 2 H;exact⟨rfl,⟨D,s1,Dl,rfl,Vo,Y2,H⟩,rfl,rfl,rfl⟩
 clear H;rintro ms σ w ⟨⟨D,s1,Dl,rfl,Vo,Y2,H⟩,g2,g7,g9⟩;rw[Q1 g2,Q1 g7,Q1 g9];have kJ:=UN;clear UN;replace H:=Js [1,1,0] 0 H;refine UB H ?_;refine Jc rfl rfl (OW bg G (by omega) H) ?_;clear H;rintro v w ⟨bv2,av2,cv2,rfl,H⟩;refine J2 H ?_;replace H:=Js [5,5,0,0,1,1,1,1] 1 H;refine J6 H ?_;refine Qt (fun ms σ w=>(∃ (D2:Nat) (s2:CS),ms=[D2,D]∧Wb s1 G s2∧WP s2∧Q0 w (Xn p q s2::pts b2 (row 44 [pp p])::pts D2 (.deferred (some []))::pts D (.deferred (some []))::IL (.slice aL L.length cL) L::Qo q.trp s.last (L.foldl QN s.par)::fr))∧σ 2=pp b2∧σ 7 = .slice aL L.length cL) ?_ ?_
 ·refine Qe (W0 (a:=[]) (b:=[pp bv2]) H rfl (fun yl D2 w H=>?_));generalize hL:LR _ yl _ _ _ _ D2 .ready=LRR at H ⊢;obtain⟨J,hJ⟩:∃ J:List Nat→Q2,J=fun ks=>ex fun x:CS=>star [prop (Wb s1 ks x∧WP x),LRR,Xn p q x,pts b2 (row 44 [pp p])]:=⟨_,rfl⟩
  have V9:∀ (ks:List Nat) (s2:CS) (w:World) (l':List Q2),Wb s1 ks s2→WP s2→Q0 w (LRR::Xn p q s2::pts b2 (row 44 [pp p])::l')→Q0 w (J ks::l'):=by
   intro ks s2 w l' h1 h2 H;rw[hJ];exact Q0.ex.2 ⟨s2,Q0.star.2 (Q0.prop.2 ⟨⟨h1,h2⟩,H⟩)⟩
  have YW:∀ (ks:List Nat) (w:World) (l':List Q2),Q0 w (J ks::l')→∃ s2,Wb s1 ks s2∧WP s2∧Q0 w (LRR::Xn p q s2::pts b2 (row 44 [pp p])::l'):=by
   intro ks w l' H;rw[hJ] at H;obtain⟨s2,H⟩:=Q0.ex.1 H;obtain⟨⟨h1,h2⟩,H⟩:=Q0.prop.1 (Q0.star.1 H);exact⟨s2,h1,h2,H⟩
  replace H:=Js [0,6,1,2,2,0,0,1,1] 1 H;replace H:=V9 [] s1 _ _ (Wb.start Vo.nd) (Vo.rk hI.rk) H;refine call (OA yl bv2 av2 cv2 G (by omega) J ?_ H) ?_
  ·clear H;intro ks k tt rest w Yc H;obtain⟨s2,hN,LP,H⟩:=YW _ _ _ H;subst hL;have GC:k∈G:=by rw[Yc];simp
   have Gt:k∉ks:=fun h=>by
    have h1:=hG.1;rw[Yc,pairwise_append] at h1;have:=h1.2.2 k h k mem_cons_self;omega
   obtain⟨g,e,hk,_⟩:=(hG.2 k).1 GC;have XT:=Vo.tab k _ hk;have VN:=hN.tab k _ XT;rw[if_neg Gt] at VN;refine Kj (args:=[.int .i64 k]) H rfl rfl ?_;refine Vl H ?_;refine⟨rfl,_,H,fun w H=>Qe ?_⟩;generalize hLB:LR _ yl _ _ _ _ D2 .busy=LB at H ⊢;replace H:=Js [1,0] 0 H;refine XJ H ?_;refine Jc rfl rfl (u7 p q s2 (by rw[hN.par,Vo.par];exact hT.nd) k g (Vy Dl k e) VN (Oj k g e hk) LP H) ?_;clear H;rintro v w ⟨rfl,s3,kL,H⟩;refine J2 H ?_;subst hLB;replace H:=Js [1,0,0] 0 H;exact⟨rfl,_,H,fun w H=>⟨rfl,V9 _ _ _ _ (hN.step XT kL) (kL.rk LP) H⟩⟩
  ·clear H;rintro v w H;obtain⟨s2,hN,LP,H⟩:=YW _ _ _ H;subst hL;refine⟨_,H,fun w H=>?_⟩;replace H:=Js [0,0,2,2,2,2] 2 H;exact⟨rfl,⟨D2,s2,rfl,hN,LP,H⟩,rfl,rfl⟩
 clear H;rintro ms σ w ⟨⟨D2,s2,rfl,hN,LP,H⟩,g2,g7⟩;rw[Q1 g2,Q1 g7]
 have VZ:∀ x∈L,∀ (k g:Nat) (e:Q8),s2.tab[k]? = some ⟨g,some e⟩→e.region≠x:=by
  intro x hx k g e hk hr
  have Q6:k < s1.tab.length:=by
   have:=(List.getElem?_eq_some_iff.1 hk).1;rw[hN.tabl] at this;exact this
  have kM:k < s.tab.length:=by rw[Vo.tabl] at Q6;exact Q6
  have h1:=Vo.tab k _ (getElem?_eq_getElem kM);have h2:=hN.tab k _ h1;rw[hk] at h2;split at h2
  ·injection h2 with h2
   injection h2 with _ h2
   cases h2
  ·rename_i GC;injection h2 with h2
   injection h2 with h3 h4
   cases he:(s.tab[k]).ent with
   | none=>rw[he] at h4;cases h4
   | some e0=>
    rw[he] at h4;injection h4 with h4
    refine GC ((hG.2 k).2 ⟨(s.tab[k]).gen,e0,?_,?_⟩)
    ·rw[getElem?_eq_getElem kM,← he]
    ·have h5:e.region=e0.region:=by rw[h4];rfl
     rw[← h5,hr];exact hx
 have ae:s2.par=s.par:=hN.par.trans Vo.par;refine Z4 H ?_;refine F9 H ?_;refine Qt (fun ms σ w=>ms=[D2,D]∧∃ s3:CS,Bc s2 L s3∧σ 2=pp b2∧σ 7 = .slice aL L.length cL∧Q0 w (Xn p q s3::pts b2 (row 44 [pp p])::pts D2 (.deferred (some []))::pts D (.deferred (some []))::IL (.slice aL L.length cL) L::Qo q.trp s.last (L.foldl QN s.par)::fr)) ?_ ?_
 ·refine Qe ?_;refine Qq (fun ms σ w z=>ms=[D2,D]∧∃ (i:Nat) (s3:CS),i≤L.length∧z=L.length - i∧Bc s2 (L.take i) s3∧σ 2=pp b2∧σ 7 = .slice aL L.length cL∧σ 100 = .slice aL L.length cL∧σ 101 = .int .i64 L.length∧σ 102 = .int .i64 i∧Q0 w (Xn p q s3::pts b2 (row 44 [pp p])::pts D2 (.deferred (some []))::pts D (.deferred (some []))::IL (.slice aL L.length cL) L::Qo q.trp s.last (L.foldl QN s.par)::fr)) (m:=L.length) ⟨rfl,0,s2,by omega,rfl,Bc.start s2,rfl,rfl,rfl,rfl,rfl,H⟩ ?_;clear H;rintro ms σ w z ⟨rfl,i,s3,hi,rfl,hE,g2,g7,g100,g101,g102,H⟩;rw[Q1 g2,Q1 g7,Q1 g100,Q1 g101,Q1 g102];refine J7 H ?_;refine Qm rfl (fun h=>QF ?_) (fun h=>Qv ?_)
  ·have Q6:i < L.length:=by omega
   have hx:=getElem?_eq_getElem Q6;have Qj:L.take (i+1)=L.take i++[L[i]]:=by rw[take_add_one,hx];rfl
   have KT:L[i]∉L.take i:=fun hh=>by
    obtain⟨j,hj⟩:=getElem?_of_mem hh;rw[getElem?_take] at hj;split at hj
    ·rename_i Yf;obtain⟨BI,Ka⟩:=List.getElem?_eq_some_iff.1 hj;exact(pairwise_iff_getElem.1 kJ) j i BI Q6 Yf Ka
    ·cases hj
   have ah:=getElem_mem Q6;have BO:=LL _ ah;generalize L[i]=x at hx Qj KT BO ah;replace H:=Js [4,0,0,0,0] 0 H;obtain⟨bT,sT,rfl,H,QM⟩:=VX H (by omega);refine Z7 H ?_;refine Jd ?_;refine Q5 rfl (QA H rfl (by simpa using RZ hx) rfl ?_);refine J0 H ?_;replace H:=QM _ _ H;replace H:=Js [1,0] 0 H;obtain⟨mem3,Wc,LS,H⟩:=LK H;have aj:(s3.par.map (·.1)).Nodup:=by rw[hE.par];exact Oi _ (by rw[ae];exact hT.nd)
   have kN:x∈s3.par.map (·.1):=by
    rw[hE.par];refine kF KT ?_;rw[ae,← hw.mkeys];exact BO
   obtain⟨b0,WL⟩:=R8 (l:=s3.sps) (f:=fun x=>x.1) (g:=fun x=>x.2.1) (k:=x) (by rw[Wc.skeys];exact kN);obtain⟨⟨r1,b0',SP⟩,p1,p2,VL,Vn,Yo⟩:=R7 WL;obtain rfl:r1=x:=Vn;obtain rfl:b0'=b0:=Yo;obtain⟨b1,ZW⟩:=R8 (l:=s3.mns) (f:=fun x=>x.1) (g:=fun x=>x.2.1) (k:=r1) (by rw[Wc.mkeys];exact kN);obtain⟨⟨r2,b1',M⟩,m1,m2,Vk,EQ,EV⟩:=R7 ZW;obtain rfl:r2=r1:=EQ;obtain rfl:b1'=b1:=EV;have CP:QV (s3.sps.map Vt) r2=some b0':=WL;have kO:(r2,b0',SP)∈s3.sps:=by rw[VL];simp
   obtain⟨KO,GX,Dh,La,wZ,wG⟩:=H8 Wc kO;replace H:=Js [11,0,7,7,3,6,6,0,0,0,0,0,0] 0 H;replace H:=Js [1,0,6,6,2,5,6,0,0,0,0,0,0] 0 H;refine Kp H ?_;refine Q5 rfl (GH (key:=r2) H rfl rfl Vp rfl ?_);rw[CP];replace H:=Js [6,3,0,0,0,0,0,0,0,0,0,0,0] 0 H;replace H:Q0 w (Qy b0' q.sp r2.toNat SP::star ((p1++p2).map (Vx q.sp))::_):=(Q0.pick (R:=Vx q.sp) (x:=(r2,b0',SP)) VL).1 H;replace H:=Js [0,1,0] 0 H;refine Jc rfl rfl (jc b0' q.sp r2.toNat SP s3.size mem3 s3.own GX La wZ KO Dh Wc.own.2 Wc.size.2 wG H) ?_;clear H;rintro v w ⟨rfl,own',Vi,hog,H⟩;refine J2 H ?_;replace H:=Js [8,0,0,0,0,0,0,0,0] 0 H;replace H:Q0 w (VQ b1' M::star ((m1++m2).map VV)::_):=(Q0.pick (R:=VV) (x:=(r2,b1',M)) Vk).1 H;replace H:=H.drop;replace H:=Js [4,3,0,0,0,0,0,0,0,0,0,0,0] 0 H;refine Kp H ?_;refine Q5 rfl (Wk (key:=r2) H rfl rfl Vp rfl ?_);clear H;intro w H;refine J2 H ?_;refine Kp H ?_;refine Q5 rfl (Wk (key:=r2) H rfl rfl Vp rfl ?_);clear H;intro w H;refine Rd H ?_
   have L1:QN (s3.sps.map Vt) r2=(p1++p2).map Vt:=by
    have h1:=aj;rw[← Wc.skeys,VL] at h1;rw[VL,map_append,map_cons,map_append];exact CF (p:=(r2,b0')) (by rw[map_append,map_cons] at h1 ⊢;rw[map_map,map_map];exact h1)
   have Du:QN (s3.mns.map VU) r2=(m1++m2).map VU:=by
    have h1:=aj;rw[← Wc.mkeys,Vk] at h1;rw[Vk,map_append,map_cons,map_append];exact CF (p:=(r2,b1')) (by rw[map_append,map_cons] at h1 ⊢;rw[map_map,map_map];exact h1)
   rw[L1,Du] at H;replace H:=Js [1,10,4,2,3,3,6,2,2,1,0,1,1,0] 0 H;have wU:=uH Wc aj (fun k g e hk=>VZ r2 ah k g e (by rw[← hE.tab];exact hk)) VL Vk (own':=own') ⟨Vi,hog⟩;have wX:=uI (s':={ s3 with own:=own',par:=QN s3.par r2,sps:=p1++p2,mns:=m1++m2 }) LS Vi rfl rfl;replace H:=LW wU wX H
   exact⟨_,⟨rfl,i+1,{ s3 with own:=own',par:=QN s3.par r2,sps:=p1++p2,mns:=m1++m2 },Q6,rfl,by rw[Qj];exact hE.step r2 Vi _ _ (hog:=vz hog (Wc.spc _ kO).owned) (fun y hy hn=>by
    rw[VL] at hy
    rcases mem_append.1 hy with h1|h1
    ·exact mem_append.2 (.inl h1)
    ·rcases mem_cons.1 h1 with h1|h1
     ·exact absurd (by rw[h1]) hn
     ·exact mem_append.2 (.inr h1)),rfl,rfl,rfl,rfl,Qh (by omega),H⟩,by omega⟩
  ·have V2:i=L.length:=by omega
   subst V2;rw[take_length] at hE;exact⟨rfl,rfl,s3,hE,rfl,rfl,H⟩
 clear H;rintro ms σ w ⟨rfl,s3,hE,g2,g7,H⟩;rw[Q1 g2,Q1 g7];refine Vj H ?_;replace H:=Js [2,2,0,2,1] 1 H;have wK:s3.par=L.foldl QN s.par:=by rw[hE.par,ae]
 have wR:s3.last=s.last:=by rw[hE.last,hN.last,Vo.last]
 rw[← wK,← wR] at H;exact Q3 (Pv (ms:=[D2,D]) _ (.inr rfl) (Q0.star.2 H) (fun w' H' => .tmp (.tmp .nil)) fun w' H'=>⟨_,L,s3,rfl,kJ,US,Cu,Ol,⟨G,Dl,s1,s2,hG,Vo,Y2,hN,hE⟩,(u6 H').swap⟩)
def ZZ (objs:List QT) (k t:Nat):Bool:=k == 2 && ((objs[t]?).map QT.gone).getD false
def UZ (objs:List QT) (x:QT):QT:={ x with kind:=(x.kind.zip x.to).map (fun y=>if ZZ objs y.1 y.2=true then 1 else y.1),to:=(x.kind.zip x.to).map (fun y=>if ZZ objs y.1 y.2=true then 0 else y.2) }
def Ql (L:List Nat) (x:QT):QT:=if x.region∈L then { x with gone:=true } else x
def AE (m:MS) (L:List Nat):MS:={ m with P:=Yd m.P L,objs:=(m.objs.map (Ql L)).map (UZ (m.objs.map (Ql L))) }
theorem am {objs:List QT} {x:QT} (h:x.kind.length=x.to.length) {p:Nat} (hp:p < x.kind.length):(UZ objs x).kind.getD p 0=(if ZZ objs (x.kind.getD p 0) (x.to.getD p 0)=true then 1 else x.kind.getD p 0)∧(UZ objs x).to.getD p 0=(if ZZ objs (x.kind.getD p 0) (x.to.getD p 0)=true then 0 else x.to.getD p 0):=by
 have h1:=getElem?_eq_getElem hp;have h2:=getElem?_eq_getElem (show p < x.to.length by omega);have hz:(x.kind.zip x.to)[p]? = some (x.kind[p],x.to[p]'(by omega)):=getElem?_zip_eq_some.2 ⟨h1,h2⟩;unfold UZ;simp only[getD_eq_getElem?_getD,getElem?_map,hz,h1,h2,Option.map_some,Option.getD_some];exact⟨trivial,trivial⟩
theorem ap {L:List Nat} {x:QT}:(Ql L x).gone=true↔x.gone=true∨x.region∈L:=by
 unfold Ql;by_cases h:x.region∈L
 ·rw[if_pos h];exact⟨fun _ => .inr h,fun _=>rfl⟩
 ·rw[if_neg h];exact⟨.inl,fun h1=>h1.elim id fun h2=>absurd h2 h⟩
theorem wW (L:List Nat) (x:QT):(Ql L x).region=x.region∧(Ql L x).lay=x.lay∧(Ql L x).count=x.count∧(Ql L x).held=x.held∧(Ql L x).pinned=x.pinned∧(Ql L x).w=x.w∧(Ql L x).kind=x.kind∧(Ql L x).to=x.to:=by
 unfold Ql;split <;> exact⟨rfl,rfl,rfl,rfl,rfl,rfl,rfl,rfl⟩
theorem ax {m:MS} {L:List Nat} {o:Nat} {x':QT} (h:(AE m L).objs[o]? = some x'):∃ x,m.objs[o]? = some x∧x'=UZ (m.objs.map (Ql L)) (Ql L x):=by
 have h:((m.objs.map (Ql L)).map (UZ (m.objs.map (Ql L))))[o]? = some x':=h;rw[getElem?_map,getElem?_map] at h;cases hx:m.objs[o]? with
 | none=>rw[hx] at h;cases h
 | some x=>
  rw[hx] at h;injection h with h
  exact⟨x,rfl,h.symm⟩
theorem ay {m:MS} {L:List Nat} {k t:Nat}:ZZ (m.objs.map (Ql L)) k t=true↔k=2∧∃ x,m.objs[t]? = some x∧(x.gone=true∨x.region∈L):=by
 unfold ZZ;rw[Bool.and_eq_true,beq_iff_eq,getElem?_map];refine and_congr_right fun _=>?_;cases hx:m.objs[t]? with
 | none=>exact⟨fun h=>(by cases h),fun ⟨x,h,_⟩=>(by cases h)⟩
 | some x=>
  show (Ql L x).gone=true↔_;rw[ap];exact⟨fun h=>⟨x,rfl,h⟩,fun ⟨y,h1,h2⟩=>(by injection h1 with h1;subst h1;exact h2)⟩
theorem wA {m:MS} (h:Vc m) (L:List Nat):Vc (AE m L):=by
 refine⟨?_,h.lays,fun x' VA=>?_,?_⟩
 ·show 1≤(Yd m.P L).length∧(Yd m.P L).length≤_;unfold Yd;rw[length_mapIdx];exact h.P
 ·obtain⟨o,ho⟩:=getElem?_of_mem VA;obtain⟨x,hx,rfl⟩:=ax ho;obtain⟨a,b,c,d,e⟩:=h.objs x (mem_of_getElem? hx);obtain⟨s1,s2,s3,s4,s5,s6,s7,s8⟩:=wW L x;have hl:(AE m L).objs.length=m.objs.length:=by show (((m.objs.map (Ql L)).map (UZ _))).length=_;rw[length_map,length_map]
  refine⟨?_,?_,?_,?_,fun p hp=>?_⟩
  ·show ∃ l,m.lays[(Ql L x).lay - 1]? = some l∧YU l∧Vg l (Ql L x).count=((Ql L x).w.length,0);rw[s2,s3,s6];exact a
  ·show 1≤(Ql L x).lay;rw[s2];exact b
  ·show (List.map _ ((Ql L x).kind.zip (Ql L x).to)).length=(Ql L x).w.length;rw[length_map,length_zip,s6,s7,s8,c,d,Nat.min_self]
  ·show (List.map _ ((Ql L x).kind.zip (Ql L x).to)).length=(Ql L x).w.length;rw[length_map,length_zip,s6,s7,s8,c,d,Nat.min_self]
  ·rw[hl]
   have Rk:p < (Ql L x).kind.length:=by
    have:=(List.getElem?_eq_some_iff.1 hp).1
    have h2:(UZ (m.objs.map (Ql L)) (Ql L x)).kind.length=(Ql L x).kind.length:=by
     show (List.map _ ((Ql L x).kind.zip (Ql L x).to)).length=_;rw[length_map,length_zip,s7,s8,c,d,Nat.min_self]
    omega
   obtain⟨g1,g2⟩:=am (objs:=m.objs.map (Ql L)) (x:=Ql L x) (by rw[s7,s8,c,d]) Rk;rw[g2];have GX:(UZ (m.objs.map (Ql L)) (Ql L x)).kind.getD p 0=2:=by rw[getD_eq_getElem?_getD,hp];rfl
   rw[g1] at GX;split at GX
   ·cases GX
   ·rename_i hh;rw[if_neg hh,s8];rw[s7] at GX Rk;refine e p ?_;rw[getElem?_eq_getElem Rk];rw[getD_eq_getElem?_getD,getElem?_eq_getElem Rk] at GX;rw[← GX];rfl
 ·show ((m.objs.map (Ql L)).map (UZ _)).length≤_;rw[length_map,length_map];exact h.few
theorem kP (P:List Int) (L:List Nat) (k:Nat):(Yd P L)[k]? = (P[k]?).map fun q=>if k∈L then -1 else q:=by
 unfold Yd;rw[getElem?_mapIdx]
theorem Om:∀ (ks:List Int) {m:List (Int×Int)},(m.map (·.1)).Nodup→∀ r,QV (ks.foldl QN m) r=if r∈ks then none else QV m r
 | [],m,h,r=>by rw[if_neg (by simp)];rfl
 | k::ks,m,h,r=>by
  show QV (ks.foldl QN (QN m k)) r=_;rw[Om ks (Rw h),Wi h];by_cases h1:r∈ks
  ·rw[if_pos h1,if_pos (mem_cons_of_mem _ h1)]
  ·rw[if_neg h1];by_cases h2:k=r
   ·subst h2;rw[if_pos rfl,if_pos mem_cons_self]
   ·rw[if_neg h2,if_neg];intro h3
    rcases mem_cons.1 h3 with h3|h3
    ·exact h2 h3.symm
    ·exact h1 h3
structure Wd (s:CS) (L:List Int) (G:List Nat) (D:List Rf) (s':CS):Prop where
 size:s'.size=s.size
 own:s'.own.length=s.own.length
 lays:s'.lays=s.lays
 last:s'.last=s.last
 par:s'.par=L.foldl QN s.par
 tabl:s'.tab.length=s.tab.length
 tab:∀ (k:Nat) (t:QW),s.tab[k]? = some t→s'.tab[k]? = some (if k∈G then ⟨t.gen,none⟩ else ⟨t.gen,t.ent.map (Vy D k)⟩)
 nd:(s'.rem.map (·.1)).Nodup
 rem:∀ r,QV s'.rem r=if ∃ k∈G,r.1=((k:Nat):Int) then none else if r∈D then none else QV s.rem r
 gone:AD s L G
 cut:E9 s G G D
 part:Yi s→Yi s'
 owns:∀ j,s'.own.getD j 0=if ((s.own.getD j 0:Nat):Int)∈L then 0 else s.own.getD j 0
theorem LN.t {s s':CS} {L:List Int} (h:LN s L s'):∃ G D,Wd s L G D s':=by
 obtain⟨G,Dl,s1,s2,hG,hC,hD,hN,hE⟩:=h;refine⟨G,Dl,by rw[hE.size,hN.size,hC.size],by rw[hE.own,hN.own,hC.own],by rw[hE.lays,hN.lays,hC.lays],by rw[hE.last,hN.last,hC.last],by rw[hE.par,hN.par,hC.par],by rw[hE.tab,hN.tabl,hC.tabl],fun k t hk=>?_,by rw[hE.rem];exact hN.nd,fun r=>by rw[hE.rem,hN.rem,hC.rem],hG,hD,fun hP k g e' hk=>?_,fun j=>by rw[hE.owns,hN.own,hC.own]⟩
 ·rw[hE.tab,hN.tab k _ (hC.tab k t hk)]
 ·have Q6:k < s.tab.length:=by
   have:=(List.getElem?_eq_some_iff.1 hk).1;rw[hE.tab,hN.tabl,hC.tabl] at this;exact this
  have h1:=getElem?_eq_getElem Q6;generalize s.tab[k]=t at h1;rw[hE.tab,hN.tab k _ (hC.tab k t h1)] at hk;split at hk
  ·injection hk with hk
   injection hk with _ hk
   cases hk
  ·rename_i GC;injection hk with hk
   injection hk with hg he
   obtain⟨tg,te⟩:=t;cases te with
   | none=>cases he
   | some e=>
    injection he with he
    subst he;have UF:e.region∉L:=fun h=>GC ((hG.2 k).2 ⟨tg,e,h1,h⟩);obtain⟨x,hx,UH,y,hy,GR⟩:=hP k tg e h1;have Ve:s'.size=s.size:=by rw[hE.size,hN.size,hC.size]
    refine⟨x,hE.sps x (by rw[hN.sps,hC.sps];exact hx) (by rw[UH];exact UF),UH,y,hy,?_⟩;rw[Ve];exact GR.alike rfl (Cm _ _ _)
theorem Wd.from {s s':CS} {L:List Int} {G:List Nat} {D:List Rf} (h:Wd s L G D s') {k g:Nat} {e':Q8} (hk:s'.tab[k]? = some ⟨g,some e'⟩):k∉G∧∃ e,s.tab[k]? = some ⟨g,some e⟩∧e'=Vy D k e:=by
 have Q6:k < s.tab.length:=by
  have:=(List.getElem?_eq_some_iff.1 hk).1;rw[h.tabl] at this;exact this
 have h1:=getElem?_eq_getElem Q6;generalize s.tab[k]=t at h1;have h2:=h.tab k t h1;rw[hk] at h2;obtain⟨g0,e0⟩:=t;split at h2
 ·injection h2 with h2
  injection h2 with _ h2
  cases h2
 ·rename_i hG;injection h2 with h2
  injection h2 with h3 h4
  subst h3;cases e0 with
  | none=>cases h4
  | some e=>
   injection h4 with h4
   exact⟨hG,e,h1,h4⟩
theorem On {D:List Rf} {k:Nat} {e:Q8} {p:Nat} (hp:p < e.ws.length):(Vy D k e).ws.getD p 0=if ((k:Int),(p:Int))∈D then 1 else e.ws.getD p 0:=by
 rw[getD_eq_getElem?_getD,aV,getD_eq_getElem?_getD,getElem?_eq_getElem hp];rfl
theorem kS {D:List Rf} {k:Nat} {e:Q8} {p:Nat} (hp:p < e.ws.length) {a b:Nat} (h:YQ (Vy D k e) p = .obj a b):((k:Int),(p:Int))∉D∧YQ e p = .obj a b:=by
 unfold YQ at h ⊢;rw[On hp] at h;split at h
 ·cases h
 ·rename_i h1;exact⟨h1,h⟩
theorem HW {ts:List QW} {a b:Nat} {f:Q8} (h:ts[a]? = some ⟨b,some f⟩):Qk ts a b=some (a,f):=Yz.2 ⟨b,rfl,rfl,h⟩
theorem Wd.cutIff {s s':CS} {L:List Int} {G:List Nat} {D:List Rf} (h:Wd s L G D s') (hI:Inv s) {k g p:Nat} {e:Q8} (hk:s.tab[k]? = some ⟨g,some e⟩) (hG:k∉G) (hp:p < e.ws.length):((k:Int),(p:Int))∈D↔Va (Qd s e) p=true∧∃ (a b:Nat) (f:Q8),YQ e p = .obj a b∧s.tab[a]? = some ⟨b,some f⟩∧f.region∈L:=by
 rw[h.cut];constructor
 ·rintro⟨⟨t,ht,hr⟩,_⟩;obtain⟨k',p',g',e',a,b,f,h1,h2,h3,h4,h5,h6,h7,h8⟩:=(hI.rem _ _).1 hr;injection h1 with h1 h9
  obtain rfl:k=k':=by omega
  obtain rfl:p=p':=by omega
  rw[hk] at h2;injection h2 with h2
  injection h2 with h2 Yj
  subst h2;injection Yj with Yj
  subst Yj;obtain⟨_,YT⟩:=Xk h6;obtain rfl:t=a:=by omega
  obtain⟨g2,f2,VC,YD⟩:=(h.gone.2 t).1 ht;rw[YT] at VC;injection VC with VC
  injection VC with _ VC
  injection VC with VC
  subst VC;exact⟨h4,t,b,f,h5,YT,YD⟩
 ·rintro⟨h4,a,b,f,h5,h6,h7⟩;refine⟨⟨a,(h.gone.2 a).2 ⟨b,f,h6,h7⟩,(hI.rem _ _).2 ⟨k,p,g,e,a,b,f,rfl,hk,hp,h4,h5,HW h6,fun h8=>?_,rfl⟩⟩,?_⟩
  ·exact hG ((h.gone.2 k).2 ⟨g,e,hk,by rw[← h8];exact h7⟩)
  ·rintro⟨k',h9,YT⟩;have YT:((k:Nat):Int)=((k':Nat):Int):=YT;obtain rfl:k=k':=by omega
   exact hG h9
theorem Wd.lay {s s':CS} {L:List Int} {G:List Nat} {D:List Rf} (h:Wd s L G D s') (k:Nat) (e:Q8):Qd s' (Vy D k e)=Qd s e:=by
 unfold Qd;rw[h.lays];rfl
theorem Wd.at {s s':CS} {L:List Int} {G:List Nat} {D:List Rf} (h:Wd s L G D s') {k g:Nat} {e:Q8} (hk:s.tab[k]? = some ⟨g,some e⟩) (hG:k∉G):s'.tab[k]? = some ⟨g,some (Vy D k e)⟩:=by
 rw[h.tab k _ hk,if_neg hG];rfl
theorem kT {s s':CS} {L:List Int} {G:List Nat} {D:List Rf} (h:Wd s L G D s') (hI:Inv s):Inv s':=by
 refine⟨h.nd,fun r t=>?_,fun k g e' p a b hk hp hr hl=>?_⟩
 ·rw[h.rem];constructor
  ·intro hr;split at hr
   ·cases hr
   ·rename_i hn;split at hr
    ·cases hr
    ·rename_i hD;obtain⟨k,p,g,e,a,b,f,rfl,hk,hp,KQ,hl,AB,Cn,rfl⟩:=(hI.rem _ _).1 hr;have GC:k∉G:=fun h1=>hn ⟨k,h1,rfl⟩;obtain⟨_,ha⟩:=Xk AB;have Oo:a∉G:=fun h1=>hD ((h.cut _).2 ⟨⟨a,h1,hr⟩,fun ⟨k',h2,h3⟩=>hn ⟨k',h2,h3⟩⟩);refine⟨k,p,g,Vy D k e,a,b,Vy D a f,rfl,h.at hk GC,by rw[Cm];exact hp,by rw[h.lay];exact KQ,?_,HW (h.at ha Oo),Cn,rfl⟩;unfold YQ;rw[On hp,if_neg hD];exact hl
  ·rintro⟨k,p,g,e',a,b,f',rfl,hk,hp,KQ,hl,AB,Cn,rfl⟩;obtain⟨GC,e,Xl,rfl⟩:=h.from hk;rw[Cm] at hp;obtain⟨hD,Oq⟩:=kS hp hl;obtain⟨_,ha⟩:=Xk AB;obtain⟨Oo,f,OJ,rfl⟩:=h.from ha;rw[h.lay] at KQ
   rw[if_neg (by
    rintro⟨k',h1,h2⟩;have h2:((k:Nat):Int)=((k':Nat):Int):=h2;obtain rfl:k=k':=by omega
    exact GC h1),if_neg hD]
   exact(hI.rem _ _).2 ⟨k,p,g,e,a,b,f,rfl,Xl,hp,KQ,Oq,HW OJ,Cn,rfl⟩
 ·obtain⟨GC,e,Xl,rfl⟩:=h.from hk;rw[Cm] at hp;obtain⟨hD,Oq⟩:=kS hp hl;rw[h.lay] at hr;obtain⟨f,hf⟩:=hI.link k g e p a b Xl hp hr Oq;obtain⟨_,ha⟩:=Xk hf
  have Oo:a∉G:=fun h1=>hD ((h.cutIff hI Xl GC hp).2 ⟨hr,a,b,f,Oq,ha,by
   obtain⟨g2,f2,VC,YD⟩:=(h.gone.2 a).1 h1;rw[ha] at VC;injection VC with VC
   injection VC with _ VC
   injection VC with VC
   subst VC;exact YD⟩)
  exact⟨_,HW (h.at ha Oo)⟩
theorem wB {par:List (Int×Int)} {L:List Int} (h:ZJ par) {region:Int} (hL:∀ c,c∈L↔Ge par region c):ZJ (L.foldl QN par):=by
 refine⟨Oi L h.nd,fun r q hr=>?_⟩;rw[Om L h.nd] at hr;split at hr
 ·cases hr
 ·rename_i hn;obtain⟨h1,h2,h3⟩:=h.up r q hr;refine⟨h1,h2,h3.imp id fun h4=>?_⟩;rw[Om L h.nd,if_neg]
  ·exact h4
  ·intro h5;exact hn ((hL r).2 (.kid ((hL q).1 h5) hr))
theorem ka {s s':CS} {m:MS} {told:List (Nat×Nat)} (R:Rel s m told) (hm:Vc m) (hI:Inv s) {L:List Nat} {G:List Nat} {D:List Rf} (h:Wd s (L.map fun k:Nat=>(k:Int)) G D s'):Rel s' (AE m L) told:=by
  have HA:∀ k:Nat,((k:Nat):Int)∈L.map (fun k:Nat=>(k:Int))↔k∈L:=fun k=>by
    rw[mem_map]
    exact ⟨fun ⟨j, h1, h2⟩ => (by have : j = k := by omega
                                  rw[← this];exact h1),fun h1=>⟨k,h1,rfl⟩⟩
  have AB:(AE m L).objs.length=m.objs.length:=by show (((m.objs.map (Ql L)).map (UZ _))).length=_;rw[length_map,length_map]
  have WS:(s'.par.map (·.1)).Nodup:=by rw[h.par];exact Oi _ R.nd
  refine⟨by rw[AB];exact R.len,by rw[h.lays];exact R.lays,fun r q=>?_,WS,?_,?_,?_,?_,?_,R.nodup⟩
  · rw[← YI WS,h.par,Om _ R.nd];constructor
    · intro hr;split at hr
      · cases hr
      · rename_i hn;obtain⟨k,rfl,h1,h2,h3⟩:=(R.tree r q).1 ((YI R.nd).1 hr);refine⟨k,rfl,h1,?_,h3⟩;show (Yd m.P L)[k]? = some q;rw[kP,h2];show some (if k∈L then -1 else q)=some q;rw[if_neg (fun h4=>hn ((HA k).2 h4))]
    · rintro⟨k,rfl,h1,h2,h3⟩;have h2:(Yd m.P L)[k]? = some q:=h2;rw[kP] at h2;cases hP:m.P[k]? with
      | none=>rw[hP] at h2;cases h2
      | some q0=>
        rw[hP] at h2;injection h2 with h2
        have h2:(if k∈L then (-1:Int) else q0)=q:=h2;by_cases hk:k∈L
        · rw[if_pos hk] at h2;omega
        · rw[if_neg hk] at h2;subst h2;rw[if_neg (fun h4=>hk ((HA k).1 h4))];exact(YI R.nd).2 ((R.tree _ _).2 ⟨k,rfl,h1,hP,h3⟩)
  · rw[h.last];show s.last+1=(Yd m.P L).length;unfold Yd;rw[length_mapIdx];exact R.last
  · intro o x' k g VA ht hg;obtain⟨x,hx,rfl⟩:=ax VA
    have Hs:¬ ((Ql L x).gone=true):=by
      intro h1;have hg:(Ql L x).gone=false:=hg;rw[h1] at hg;cases hg
    rw[ap] at Hs
    have wC:x.gone=false:=by
      cases hh:x.gone with
      | false=>rfl
      | true=>exact absurd (.inl hh) Hs
    have WT:x.region∉L:=fun h1=>Hs (.inr h1);obtain⟨e,hk,hl⟩:=R.obj o x k g hx ht wC;have wD:Ql L x=x:=by unfold Ql;rw[if_neg WT]
    rw[wD]
    have GC:k∉G:=fun h1=>by
      obtain⟨g2,f2,VC,YD⟩:=(h.gone.2 k).1 h1;rw[hk] at VC;injection VC with VC
      injection VC with _ VC
      injection VC with VC
      subst VC;rw[hl.region] at YD;exact WT ((HA _).1 YD)
    obtain⟨GW,ZY,G5,Be,K4⟩:=hm.objs x (mem_of_getElem? hx);refine⟨Vy D k e,h.at hk GC,⟨hl.region,hl.lay,hl.count,hl.held,hl.pinned,by rw[Cm];exact hl.len,fun p hp hr=>?_,fun p hp hr=>?_,fun p hp QB=>?_⟩⟩
    · have hp:p < x.w.length:=hp;have BN:p < e.ws.length:=by rw[hl.len];exact hp
      have hr:Va (R9 m.lays x.lay) p=true:=hr;have kb:Va (Qd s e) p=true:=by rw[BF R.w hl];exact hr
      obtain⟨g1,g2⟩:=am (objs:=m.objs.map (Ql L)) (x:=x) (by rw[G5,Be]) (p:=p) (by rw[G5];exact hp);rw[g1,g2,On BN];have ZE:=hl.ref p hp hr;by_cases hD:((k:Int),(p:Int))∈D
      · rw[if_pos hD];obtain⟨_,a,b,f,h5,h6,h7⟩:=(h.cutIff hI hk GC BN).1 hD;have h5:Gu (e.ws.getD p 0) = .obj a b:=h5;rw[ZE] at h5;unfold G7 at h5;split at h5
        · rename_i h2;cases AF:told[x.to.getD p 0]? with
          | none=>rw[AF] at h5;cases h5
          | some y=>
            obtain⟨a',b'⟩:=y;rw[AF] at h5;injection h5 with h8 h9
            subst h8 h9;have Vi:x.to.getD p 0 < m.objs.length:=by rw[← R.len];exact(List.getElem?_eq_some_iff.1 AF).1
            have hy:=getElem?_eq_getElem Vi;generalize m.objs[x.to.getD p 0]=y at hy
            have RV:y.gone=false:=by
              cases hh:y.gone with
              | false=>rfl
              | true=>exact absurd h6 (R.gone _ y _ _ hy AF hh f)
            obtain⟨f',YT,VC⟩:=R.obj _ y _ _ hy AF RV;rw[h6] at YT;injection YT with YT
            injection YT with _ YT
            injection YT with YT
            subst YT;have hit:ZZ (m.objs.map (Ql L)) (x.kind.getD p 0) (x.to.getD p 0)=true:=ay.2 ⟨h2,y,hy,.inr (by rw[VC.region] at h7;exact(HA _).1 h7)⟩;rw[if_pos hit,if_pos hit];rfl
        · split at h5 <;> cases h5
      · rw[if_neg hD]
        have ke:¬ (ZZ (m.objs.map (Ql L)) (x.kind.getD p 0) (x.to.getD p 0)=true):=by
          intro hh;obtain⟨h2,y,hy,h3⟩:=ay.1 hh;have Vi:=(List.getElem?_eq_some_iff.1 hy).1;rw[← R.len] at Vi;have AF:=getElem?_eq_getElem Vi;generalize told[x.to.getD p 0]=ab at AF;obtain⟨a,b⟩:=ab
          have h5:YQ e p = .obj a b:=by
            unfold YQ;rw[ZE];unfold G7;rw[if_pos h2,AF];rfl
          obtain⟨f,hf⟩:=hI.link k g e p a b hk BN kb h5;obtain⟨_,ha⟩:=Xk hf
          have RV:y.gone=false:=by
            cases hh:y.gone with
            | false=>rfl
            | true=>exact absurd ha (R.gone _ y _ _ hy AF hh f)
          rcases h3 with h3|h3
          · rw[RV] at h3;cases h3
          · obtain⟨f',YT,VC⟩:=R.obj _ y _ _ hy AF RV;rw[ha] at YT;injection YT with YT
            injection YT with _ YT
            injection YT with YT
            subst YT;exact hD ((h.cutIff hI hk GC BN).2 ⟨kb,a,b,f,h5,ha,by rw[VC.region];exact(HA _).2 h3⟩)
        rw[if_neg ke,if_neg ke];exact ZE
    · have hp:p < x.w.length:=hp;have BN:p < e.ws.length:=by rw[hl.len];exact hp
      have hr:Va (R9 m.lays x.lay) p=false:=hr;rw[On BN,if_neg]
      · exact hl.word p hp hr
      · intro hD;have h1:=((h.cutIff hI hk GC BN).1 hD).1;rw[BF R.w hl] at h1;have h1:Va (R9 m.lays x.lay) p=true:=h1;rw[hr] at h1;cases h1
    · have hp:p < x.w.length:=hp;obtain⟨g1,g2⟩:=am (objs:=m.objs.map (Ql L)) (x:=x) (by rw[G5,Be]) (p:=p) (by rw[G5];exact hp);show Va (R9 m.lays x.lay) p=true∧_;rw[g1] at QB ⊢;split at QB
      · rename_i hh;rw[if_pos hh];obtain⟨h2,_⟩:=ay.1 hh;exact⟨(hl.kind p hp (by rw[h2];decide)).1,by decide⟩
      · rename_i hh;rw[if_neg hh];exact hl.kind p hp QB
  · intro o x' k g VA ht hg e' Yk;obtain⟨x,hx,rfl⟩:=ax VA;obtain⟨GC,e,hk,rfl⟩:=h.from Yk;have hg:(Ql L x).gone=true:=hg
    rcases ap.1 hg with h1|h1
    · exact R.gone o x k g hx ht h1 e hk
    · cases hh:x.gone with
      | true=>exact R.gone o x k g hx ht hh e hk
      | false=>
        obtain⟨e2,h2,h3⟩:=R.obj o x k g hx ht hh;rw[hk] at h2;injection h2 with h2
        injection h2 with _ h2
        injection h2 with h2
        subst h2;exact GC ((h.gone.2 k).2 ⟨g,e,hk,by rw[h3.region];exact(HA _).2 h1⟩)
  · intro k g e' Yk;obtain⟨_,e,hk,_⟩:=h.from Yk;exact R.used k g e hk
  · intro o k g ht;obtain⟨t,h1,h2⟩:=R.gens o k g ht;refine⟨_,h.tab k t h1,?_⟩;split <;> exact h2
theorem az {s:CS} {m:MS} {told:List (Nat×Nat)} (R:Rel s m told) (hT:ZJ s.par):E6 m.P:=by
 intro i q h1 h2;by_cases h3:0≤q
 ·exact(hT.up _ _ ((YI hT.nd).2 ((R.tree _ _).2 ⟨i,rfl,h1,h2,h3⟩))).2.1
 ·omega
theorem Lb {par:List (Int×Int)} (hT:ZJ par) {r:Int} (h:(QV par r).isSome=true):1≤r:=by
 cases hf:QV par r with
 | none=>rw[hf] at h;cases h
 | some q=>
  have:=hT.up r q hf;omega
theorem bQ {s:CS} {m:MS} {told:List (Nat×Nat)} (R:Rel s m told) (hT:ZJ s.par) {id:Int} (Qx:(QV s.par id).isSome=true):∀ (n c:Nat),c≤n→(QV s.par c).isSome=true→(Up m.P id c=true↔Ge s.par id c)
 | 0,c,h1,h2=>by
  have:=Lb hT h2;omega
 | n+1,c,h1,h2=>by
  have hO:=az R hT;have Zn:=Lb hT h2;cases hf:QV s.par (c:Int) with
  | none=>rw[hf] at h2;cases h2
  | some q=>
   obtain⟨k,k1,k2,k3,k4⟩:=(R.tree _ _).1 ((YI hT.nd).1 hf);obtain rfl:c=k:=by omega
   have QM:=(List.getElem?_eq_some_iff.1 k3).1;obtain⟨q1,q2,q3⟩:=hT.up _ _ hf;rw[kY hO (by omega) (by omega),Int.toNat_natCast,getD_eq_getElem?_getD,k3];show (if (c:Int)=id then true else Up m.P id q)=true↔_;by_cases h3:(c:Int)=id
   ·rw[if_pos h3,h3];exact⟨fun _ => .self,fun _=>rfl⟩
   ·rw[if_neg h3]
    rcases q3 with rfl|q3
    ·rw[kZ _ _ (Int.le_refl _)];refine⟨fun h=>(by cases h),fun h=>?_⟩
     rcases h.inv with h4|⟨k,h4,h5⟩
     ·exact absurd h4 h3
     ·rw[hf] at h4;injection h4 with h4
      subst h4;have h6:=h5.live Qx;have:=Lb hT h6;omega
    ·obtain⟨d,rfl⟩:∃ d:Nat,q=d:=⟨q.toNat,by omega⟩;rw[bQ R hT Qx n d (by omega) q3];constructor
     ·intro h;exact .kid h hf
     ·intro h
      rcases h.inv with h4|⟨k,h4,h5⟩
      ·exact absurd h4 h3
      ·rw[hf] at h4;injection h4 with h4
       subst h4;exact h5
theorem wE {s:CS} {m:MS} {told:List (Nat×Nat)} (R:Rel s m told) (hT:ZJ s.par) {id:Int} (Qx:(QV s.par id).isSome=true) {L:List Int} (h1:L.Nodup) (h2:L.Pairwise (·≤·)) (h3:∀ c,c∈L↔Ge s.par id c):L=(Uq m.P id).map fun k:Nat=>(k:Int):=by
 have VR:∀ c:Nat,c∈Uq m.P id↔Ge s.par id c:=fun c=>by
  unfold Uq;rw[kG];constructor
  ·rintro⟨a,⟨b1,b2⟩,d⟩;have hk:m.P[c]? = some (m.P.getD c 0):=by rw[getD_eq_getElem?_getD,getElem?_eq_getElem a];rfl
   have hl:(QV s.par (c:Int)).isSome=true:=by
    rw[(YI hT.nd).2 ((R.tree _ _).2 ⟨c,rfl,b1,hk,b2⟩)];rfl
   exact(bQ R hT Qx c c (Nat.le_refl _) hl).1 d
  ·intro h;have hl:=h.live Qx;cases hf:QV s.par (c:Int) with
   | none=>rw[hf] at hl;cases hl
   | some q=>
    obtain⟨k,k1,k2,k3,k4⟩:=(R.tree _ _).1 ((YI hT.nd).1 hf);obtain rfl:c=k:=by omega
    refine⟨(List.getElem?_eq_some_iff.1 k3).1,⟨k2,?_⟩,(bQ R hT Qx c c (Nat.le_refl _) hl).2 h⟩;rw[getD_eq_getElem?_getD,k3];exact k4
 have Vn:L.Pairwise (· < ·):=by
  have:=h2.and h1;exact this.imp fun h=>by omega
 have Yo:((Uq m.P id).map fun k:Nat=>(k:Int)).Pairwise (· < ·):=by
  rw[pairwise_map];have:(Uq m.P id).Pairwise (· < ·):=List.Pairwise.filter _ pairwise_lt_range;exact this.imp fun h=>by omega
 have key:∀ {a b:List Int},a.Pairwise (· < ·)→b.Pairwise (· < ·)→(∀ x,x∈a↔x∈b)→a=b:=by
  intro a
  induction a with
  | nil=>
   intro b _ _ h;cases b with
   | nil=>rfl
   | cons y b=>exact absurd ((h y).2 mem_cons_self) (by simp)
  | cons x a ih=>
   intro b ha hb h;cases b with
   | nil=>exact absurd ((h x).1 mem_cons_self) (by simp)
   | cons y b=>
    rw[pairwise_cons] at ha hb
    have Yv:x=y:=by
     rcases mem_cons.1 ((h x).1 mem_cons_self) with h4|h4
     ·exact h4
     ·rcases mem_cons.1 ((h y).2 mem_cons_self) with h5|h5
      ·exact h5.symm
      ·have:=hb.1 x h4;have:=ha.1 y h5;omega
    subst Yv;rw[ih ha.2 hb.2 fun z=>?_];constructor
    ·intro hz
     rcases mem_cons.1 ((h z).1 (mem_cons_of_mem _ hz)) with h4|h4
     ·have:=ha.1 z hz;omega
     ·exact h4
    ·intro hz
     rcases mem_cons.1 ((h z).2 (mem_cons_of_mem _ hz)) with h4|h4
     ·have:=hb.1 z hz;omega
     ·exact h4
 refine key Vn Yo fun c=>?_;rw[h3,mem_map];constructor
 ·intro h;have:=Lb hT (h.live Qx);refine⟨c.toNat,(VR _).2 ?_,by omega⟩;rw[show ((c.toNat:Nat):Int)=c by omega];exact h
 ·rintro⟨k,k1,rfl⟩;exact(VR k).1 k1
theorem kf [Q4] (a:Option Addr) (c n:Nat) (L:List Int) (x:Int) (hn:n≤L.length) (hl:L.length≤1000000) {w:World} {fr:List Q2} (H:Q0 w (IL (.slice a L.length c) L::fr)) :
  Calls Tryz.prog 176 #[.slice a n c,.int .i64 x] w (ret fun v w'=>v = .bool (decide (x∈L.take n))∧Q0 w' (IL (.slice a L.length c) L::fr)):=by
 refine QQ Tryz.func176 rfl (by kernel_rfl) ?_;refine Py H ?_;refine Qq (fun ms σ w z=>ms=[]∧∃ i:Nat,i≤n∧z=n - i∧x∉L.take i∧σ 0 = .slice a n c∧σ 1 = .int .i64 x∧σ 5 = .int .i64 i∧Q0 w (IL (.slice a L.length c) L::fr)) (m:=n) ⟨rfl,0,by omega,by omega,by simp,rfl,rfl,rfl,H⟩ ?_;clear H;rintro ms σ w z ⟨rfl,i,hi,rfl,VZ,g0,g1,g5,H⟩;rw[Q1 g0,Q1 g1,Q1 g5];refine As H ?_;refine Qm rfl (fun h=>QF ?_) (fun h=>Qv ?_)
 ·have Q6:i < n:=by omega
  have UE:i < L.length:=by omega
  have hy:=getElem?_eq_getElem UE;have Qj:L.take (i+1)=L.take i++[L[i]]:=by rw[take_add_one,hy];rfl
  generalize L[i]=y at hy Qj;obtain⟨b,s,rfl,H,QM⟩:=VX H (by omega);refine Wt H ?_;refine Jd ?_;refine Q5 rfl (QA H rfl (by simpa using RZ hy) rfl ?_);replace H:=QM _ _ H;by_cases Yv:y=x
  ·first|refine Jv ?_|refine Rx rfl rfl ?_
   refine Jv ?_;rw[show (y == x)=true by rw[Yv];exact beq_self_eq_true x];refine J2 H ?_;refine ZD H ?_;have hm:x∈L.take n:=mem_of_getElem? (i:=i) (by rw[getElem?_take_of_lt Q6,hy,Yv]);rw[decide_eq_true hm];exact Q3 (Jy H rfl fun w' H'=>⟨rfl,H'⟩)
  ·first|refine Jv ?_|refine Rx rfl rfl ?_
   refine Jv ?_;rw[show (y == x)=false by rw[beq_eq_false_iff_ne];exact Yv];refine C5 H ?_;refine Vj H ?_;refine⟨_,⟨rfl,i+1,Q6,rfl,?_,rfl,rfl,Qh (by omega),H⟩,by omega⟩;rw[Qj,mem_append,mem_singleton];rintro(h1|h1)
   ·exact VZ h1
   ·exact Yv h1.symm
 ·obtain rfl:i=n:=by omega
  rw[decide_eq_false VZ];refine Vl H ?_;exact Q3 (Jy H rfl fun w' H'=>⟨rfl,H'⟩)
def Xq (id q:Nat) (os:List QT) (i:Nat):List QT:=os.mapIdx fun k x=>if k < i then XG id q x else x
theorem HB (id q:Nat) (os:List QT) (i k:Nat):(Xq id q os i)[k]? = (os[k]?).map fun x=>if k < i then XG id q x else x:=getElem?_mapIdx
theorem bV (id q:Nat) (os:List QT) (i:Nat):(Xq id q os i).length=os.length:=length_mapIdx
theorem wF (id q:Nat) (os:List QT):Xq id q os 0=os:=by
 apply ext_getElem?;intro k;rw[HB];cases os[k]? <;> simp
theorem wH {id q:Nat} {os:List QT} {i:Nat} {x:QT} (h:os[i]? = some x):(Xq id q os i).set i (XG id q x)=Xq id q os (i+1):=by
 have UE:=(List.getElem?_eq_some_iff.1 h).1;apply ext_getElem?;intro k;rw[getElem?_set,HB,HB,bV];by_cases hk:i=k
 ·subst hk;rw[if_pos rfl,if_pos UE,h];simp only[Option.map_some];rw[if_pos (by omega)]
 ·rw[if_neg hk];have:k < i+1↔k < i:=by omega
  simp only[this]
theorem wI (id q:Nat) (os:List QT):Xq id q os os.length=os.map (XG id q):=by
 apply ext_getElem?;intro k;rw[HB,getElem?_map];cases h:os[k]? with
 | none=>rfl
 | some x=>
  have:=(List.getElem?_eq_some_iff.1 h).1;simp only[Option.map_some];rw[if_pos this]
theorem kh {m:MS} (h:Vc m) (id q i:Nat):Vc { m with P:=Gg m.P id q,objs:=Xq id q m.objs i }:=by
 refine kW h (.inl (by show (Gg m.P id q).length=_;unfold Gg;rw[length_mapIdx])) rfl (bV _ _ _ _) fun o x' VA=>?_;have VA:(Xq id q m.objs i)[o]? = some x':=VA;rw[HB] at VA;cases hx:m.objs[o]? with
 | none=>rw[hx] at VA;cases VA
 | some x=>
  rw[hx] at VA;injection VA with VA
  refine⟨x,rfl,?_⟩;rw[← VA];split
  ·exact kR id q x
  ·rfl
theorem kj [Q4] (p:Nat) (m:MS) (id:Nat) (q:Int) (Qx:1≤id) (hq:m.P[id]? = some q) (K9:0≤q) {w:World} {fr:List Q2} (H:Q0 w (V0 p m::fr)) :
  Calls Tryz.prog 102 #[pp p,.int .i64 id] w (ret fun v w'=>(q=0∧v = .tuple #[.int .i64 0,.int .i64 16]∧Q0 w' (V0 p m::fr))∨(q≠0∧v = .tuple #[.int .i64 q,.int .i64 0]∧Q0 w' (V0 p (Od m id q.toNat)::fr))):=by
 obtain⟨t,lc,oc,aL,cL,aO,cO,hm,h2,h3,Z0,Y5,H⟩:=GA H;have kU:=(List.getElem?_eq_some_iff.1 hq).1;have Ob:m.P.getD id 0=q:=by rw[getD_eq_getElem?_getD,hq];rfl
 have ZQ:Yb m.P (id:Int)=true:=decide_eq_true ⟨by omega,by omega,by rw[Int.toNat_natCast,Ob];exact K9⟩;have hP:=hm.P;have Ce:=hm.few;refine QQ Tryz.func102 rfl (by kernel_rfl) ?_;refine IM H ?_;replace H:=Js [1,0] 0 H;refine Jc rfl rfl (CN t m.P id H) ?_;clear H;rintro v w ⟨rfl,H⟩;rw[ZQ];refine ZT H ?_;refine VM H ?_;refine Jc rfl rfl (vT t m.P id q Qx hq K9 hP.1 (by omega) H) ?_;clear H;rintro w0 w (⟨hz,rfl,H⟩|⟨hz,rfl,H⟩)
 ·refine I9 H ?_;refine My H ?_;exact Q3 (Jy (Zq hm h2 h3 H.swap) rfl fun w' H' => .inl ⟨hz,rfl,H'⟩)
 obtain⟨qn,rfl⟩:∃ qn:Nat,q=qn:=⟨q.toNat,by omega⟩;rw[Int.toNat_natCast] at H ⊢;refine UA H ?_;have ZY:=kh hm id qn 0;replace H:=Zq (m:={ m with P:=Gg m.P id qn,objs:=Xq id qn m.objs 0 }) ZY h2 (by rw[wF];exact h3) H.swap;refine J7 H ?_;refine Qt (fun ms σ w=>ms=[]∧σ 7 = .int .i64 qn∧Q0 w (V0 p (Od m id qn)::fr)) ?_ ?_
 ·refine Qe ?_;refine Qq (fun ms σ w z=>ms=[]∧∃ i:Nat,i≤m.objs.length∧z=m.objs.length - i∧σ 0=pp p∧σ 1 = .int .i64 id∧σ 7 = .int .i64 qn∧σ 9 = .int .i64 i∧Q0 w (V0 p { m with P:=Gg m.P id qn,objs:=Xq id qn m.objs i }::fr)) (m:=m.objs.length) ⟨rfl,0,by omega,by omega,rfl,rfl,rfl,rfl,H⟩ ?_;clear H;rintro ms σ w z ⟨rfl,i,hi,rfl,g0,g1,g7,g9,H⟩;rw[Q1 g0,Q1 g1,Q1 g7,Q1 g9];have GW:=bV id qn m.objs i;by_cases Q6:i < m.objs.length
  ·have hx:=getElem?_eq_getElem Q6;generalize m.objs[i]=x at hx
   have Rp:({ m with P:=Gg m.P id qn,objs:=Xq id qn m.objs i }:MS).objs[i]? = some x:=by
    show (Xq id qn m.objs i)[i]? = _;rw[HB,hx];simp
   obtain⟨t,lc,aL,cL,bO,cO,s,ptrs,qq,vw,vk,vt,rest,UJ,h2,hp,H,QK⟩:=X5 H Rp;dsimp only at H QK;rw[GW] at H QK;refine Wv H ?_;refine Qm rfl (fun h=>QF ?_) (fun h=>absurd (show ((i:Nat):Int) < ((m.objs.length:Nat):Int) by omega) h);refine DH H ?_;refine Jd ?_;refine Q5 rfl (QA H rfl hp rfl ?_);refine Jv ?_;refine DJ H ?_;have Uu:Xq id qn m.objs (i+1)=(Xq id qn m.objs i).set i (XG id qn x):=(wH hx).symm;have VI:Vc { m with P:=Gg m.P id qn,objs:=(Xq id qn m.objs i).set i (XG id qn x) }:=by rw[← Uu];exact kh hm id qn (i+1)
   by_cases hr:x.region=id
   ·rw[show (((x.region:Nat):Int) == ((id:Nat):Int))=true by rw[hr];exact beq_self_eq_true _];refine J2 H ?_;refine Vr H ?_;refine VM H ?_;refine Jd ?_;refine Q5 rfl (QA H rfl hp rfl ?_);refine ZS H ?_;refine Rc H ?_;clear H;intro w H;refine J2 H ?_;have EY:XG id qn x={ x with region:=qn }:=by unfold XG;rw[if_pos hr]
    rw[EY] at Uu VI;replace H:Q0 w (pts qq (Kw vw vk vt { x with region:=qn })::_):=H;replace H:=QK _ _ _ VI H;rw[← Uu] at H;refine Vj H ?_;exact⟨_,⟨rfl,i+1,Q6,rfl,rfl,rfl,rfl,Qh (by omega),H⟩,by omega⟩
   ·rw[show (((x.region:Nat):Int) == ((id:Nat):Int))=false by rw[beq_eq_false_iff_ne];omega];refine C5 H ?_;have EY:XG id qn x=x:=by unfold XG;rw[if_neg hr]
    rw[EY] at Uu VI;replace H:=QK _ _ _ VI H;rw[← Uu] at H;refine Vj H ?_;exact⟨_,⟨rfl,i+1,Q6,rfl,rfl,rfl,rfl,Qh (by omega),H⟩,by omega⟩
  ·obtain rfl:i=m.objs.length:=by omega
   obtain⟨t,lc,oc,aL,cL,aO,cO,UJ,h2,h3,Z0,Y5,H⟩:=GA H;dsimp only at H;rw[GW] at H;refine Wv H ?_;refine Qm rfl (fun h=>absurd (show ((m.objs.length:Nat):Int) < ((m.objs.length:Nat):Int) from h) (by omega)) (fun h=>Qv ?_);rw[← GW] at H;replace H:=Zq (m:={ m with P:=Gg m.P id qn,objs:=Xq id qn m.objs m.objs.length }) UJ h2 h3 H;rw[wI] at H;exact⟨rfl,rfl,rfl,H⟩
 clear H;rintro ms σ w ⟨rfl,g7,H⟩;rw[Q1 g7];refine Vj H ?_;exact Q3 (Jy H rfl fun w' H' => .inr ⟨hz,rfl,H'⟩)
def RR (n:Nat) (os:List Nat) (objs:List QT):List QT:=objs.mapIdx fun o x=>if o∈os then { x with region:=n } else x
theorem Lc (n:Nat) (os:List Nat) (objs:List QT) (k:Nat):(RR n os objs)[k]? = (objs[k]?).map fun x=>if k∈os then { x with region:=n } else x:=getElem?_mapIdx
theorem wJ (n:Nat) (os:List Nat) (objs:List QT):(RR n os objs).length=objs.length:=length_mapIdx
theorem wL (n:Nat) (objs:List QT):RR n [] objs=objs:=by
 apply ext_getElem?;intro k;rw[Lc];cases objs[k]? <;> simp
theorem wM {n:Nat} {os:List Nat} {objs:List QT} {o:Nat} {x:QT} (h:(RR n os objs)[o]? = some x):(RR n os objs).set o { x with region:=n }=RR n (os++[o]) objs:=by
 apply ext_getElem?;intro k;have Vi:=(List.getElem?_eq_some_iff.1 h).1;rw[getElem?_set];by_cases hk:o=k
 ·subst hk;rw[if_pos rfl,if_pos Vi,Lc];rw[Lc] at h;cases hx:objs[o]? with
  | none=>rw[hx] at h;cases h
  | some y=>
   rw[hx] at h;injection h with h
   subst h;show some _=some (if o∈os++[o] then { y with region:=n } else y);rw[if_pos (show o∈os++[o] by simp)];congr 1;show ({ (if o∈os then { y with region:=n } else y:QT) with region:=n }:QT)=_;split <;> rfl
 ·rw[if_neg hk,Lc,Lc]
  have:k∈os++[o]↔k∈os:=by
   rw[mem_append,mem_singleton];exact⟨fun h=>h.elim id fun h=>absurd h.symm hk,.inl⟩
  simp only[this]
theorem km {m:MS} (h:Vc m) (hP:m.P.length < 100000) (r:Nat) (os:List Nat):Vc { m with P:=m.P++[(r:Int)],objs:=RR m.P.length os m.objs }:=vh h hP r os
theorem wN [Q4] (p:Nat) (m:MS) (r:Nat) (os:List Nat) (al:Option Addr) (cl:Nat) (hd:Gc m.P (r:Int)=0) (BJ:m.P.length < 100000) (Ah:∀ o∈os,o < m.objs.length) (hl:os.length≤64) {w:World} {fr:List Q2} (H:Q0 w (V0 p m::NL (.slice al os.length cl) os::fr)) :
  Calls Tryz.prog 104 #[pp p,.int .i64 r,.slice al os.length cl] w (ret fun v w'=>v = .int .i64 m.P.length∧Q0 w' (V0 p (E8 m r os)::NL (.slice al os.length cl) os::fr)):=by
 obtain⟨t,lc,oc,aL,cL,aO,cO,hm,h2,h3,Z0,Y5,H⟩:=GA H;have hP:=hm.P;have Ce:=hm.few;refine QQ Tryz.func104 rfl (by kernel_rfl) ?_;refine Vl H ?_;refine VM H ?_;replace H:=Js [1,0] 0 H;refine Jc rfl rfl (gJ t m.P (r:Int) hP.2 hP.1 H) ?_;clear H;rintro w0 w (⟨hz,rfl,H⟩|⟨hz,rfl,H⟩)
 ·exact absurd hd hz
 refine U2 H ?_;have ZY:=km hm BJ r [];replace H:=Zq (m:={ m with P:=m.P++[(r:Int)],objs:=RR m.P.length [] m.objs }) ZY h2 (by rw[wL];exact h3) H.swap;refine J7 H ?_;refine Qt (fun ms σ w=>ms=[]∧σ 7 = .int .i64 m.P.length∧Q0 w (V0 p (E8 m r os)::NL (.slice al os.length cl) os::fr)) ?_ ?_
 ·refine Qe ?_;refine Qq (fun ms σ w z=>ms=[]∧∃ i:Nat,i≤os.length∧z=os.length - i∧σ 0=pp p∧σ 2 = .slice al os.length cl∧σ 7 = .int .i64 m.P.length∧σ 9 = .int .i64 i∧Q0 w (V0 p { m with P:=m.P++[(r:Int)],objs:=RR m.P.length (os.take i) m.objs }::NL (.slice al os.length cl) os::fr)) (m:=os.length) ⟨rfl,0,by omega,by omega,rfl,rfl,rfl,rfl,H⟩ ?_;clear H;rintro ms σ w z ⟨rfl,i,hi,rfl,g0,g2,g7,g9,H⟩;rw[Q1 g0,Q1 g2,Q1 g7,Q1 g9];refine As H ?_;refine Qm rfl (fun h=>QF ?_) (fun h=>Qv ?_)
  ·have Q6:i < os.length:=by omega
   have hy:=getElem?_eq_getElem Q6;have wO:=Ah _ (mem_of_getElem? hy);have Qj:os.take (i+1)=os.take i++[os[i]]:=by rw[take_add_one,hy];rfl
   generalize os[i]=o at hy Qj wO;obtain⟨bl,sl,rfl,H,QM⟩:=VX H.swap (by omega);have GW:=wJ m.P.length (os.take i) m.objs;have hx:=getElem?_eq_getElem (show o < (RR m.P.length (os.take i) m.objs).length by omega);generalize (RR m.P.length (os.take i) m.objs)[o]=x at hx;have Uu:=wM hx;rw[← Qj] at Uu;have Rp:({ m with P:=m.P++[(r:Int)],objs:=RR m.P.length (os.take i) m.objs }:MS).objs[o]? = some x:=hx;obtain⟨t,lc,aL,cL,bO,cO,s,ptrs,qq,vw,vk,vt,rest,UJ,h2,hp,H,QK⟩:=X5 H.swap Rp;dsimp only at H QK;rw[GW] at H QK;have VI:Vc { m with P:=m.P++[(r:Int)],objs:=(RR m.P.length (os.take i) m.objs).set o { x with region:=m.P.length } }:=by rw[Uu];exact km hm BJ r _
   refine IJ H ?_;clear H;intro w H;refine YN H ?_;refine Jl 3 [13] H ?_;refine KI H ?_;refine Ji 6 ?_;refine YZ 7 [13] H rfl (Q9.none rfl) rfl (by simpa using U4 hy) (by kernel_rfl) ?_
   refine Ji 8 ?_;refine YZ 9 [13] H rfl (Q9.none rfl) rfl (by simpa using hp) (by kernel_rfl) ?_;refine NA H ?_;refine Jo 13 H ?_;refine KE H ?_;clear H;intro w H;refine Jx H ?_;replace H:Q0 w (pts qq (Kw vw vk vt { x with region:=m.P.length })::_):=H;replace H:=QK _ _ _ VI H;rw[Uu] at H;replace H:=QM _ _ H.swap;refine Vj H ?_;exact⟨_,⟨rfl,i+1,Q6,rfl,rfl,rfl,rfl,Qh (by omega),H.swap⟩,by omega⟩
  ·obtain rfl:i=os.length:=by omega
   rw[take_length] at H;exact⟨rfl,rfl,rfl,H⟩
 clear H;rintro ms σ w ⟨rfl,g7,H⟩;rw[Q1 g7];refine J3 H ?_;exact Q3 (Jy H rfl fun w' H'=>⟨rfl,H'⟩)
end Go.Proofs.YtmjdnljneifpcaaGreatDoor
namespace Go.SL
open List
section
variable {P:Program} {n:Nat} {r:Option Nat} {ops:Array Oper} {Q:Z5} {ms:List Nat} {σ:QC} {w:World} {rest:List Oper} {o:Oper} {K:QC→World→Prop} {l l':List Q2}
variable {ivs:List (List Nat×(World→Prop))} {T:QC→World→Prop} {f:Nat} {L:Array Bool}
variable {u t s:TypeId} {p:String} {af:Array Edge} {g:Option (Nat×Bool)} {d:Option Tmp} {x y z:Operand}
theorem wP {e size bytes b o2 len cap i:Nat} {q:IntKind} (hT:Vv P t e size bytes) (h1:i≤cap) :
  (Instr.sliceAt t (.slice (some ⟨b,o2,none⟩) len cap) none (some (.int q (i:Int))) none).run P w = .ok (.slice (some ⟨b,o2,none⟩) i cap) w:=by
 have hs:(sizeOf e).run P w = .ok size w:=by
  obtain⟨k,hk,e2⟩:=Option.map_eq_some_iff.1 hT.info;simp only[Prod.mk.injEq] at e2;exact Ur (by rw[hk];simp[e2.1])
 have b1:(0:Int)≤i∧(i:Int)≤cap:=by omega
 simp[Instr.sliceAt,Instr.slice,YP hT.und,Instr.sliceBounds,Instr.sliceBound,asIntOf,h1,hs,Gj]
theorem wS {e size bytes b o2 len cap i:Nat} {q:IntKind} (m:Nat) (hm:ops[m]? = some ⟨d,.slice t x none (some y) none,u,p,af,g⟩) (hg:Q9 ops σ ⟨d,.slice t x none (some y) none,u,p,af,g⟩ true) [hT:Vv P t e size bytes] (hx:ev σ x = .slice (some ⟨b,o2,none⟩) len cap) (hy:ev σ y = .int q (i:Int)) (h1:i≤cap)
  (hb:ZB n ops (ivs.map (·.1)) L m []=true) (k:Any P n r ops ivs T f (L.setIfInBounds m true) (put σ d (.slice (some ⟨b,o2,none⟩) i cap)) w):Any P n r ops ivs T (f+1) L σ w:=
 KU m hm hg (fun c e=>by cases e) (fun w=>by simp only[execOp,hx,hy,Option.map_some,Option.map_none,Sem.run_bind,wP hT h1,Result.andThen_ok,Sem.run_pure]) hb k
end
end Go.SL
namespace Go.Proofs.YtmjdnljneifpcaaGreatDoor
open List
open Go.SL
theorem Ot {m:MS} {r:Int} {os:List Int} {e:Nat} (h1:Yb m.P r=true) (h2:os.length≤64) (h3:XU m r [] os=e) (h4:e≠0):Xp m r os=e:=by
 unfold Xp;rw[h1,if_neg (by decide),if_neg (by omega),h3,if_pos h4]
theorem Ou [Q4] (p:Nat) (m:MS) (r:Int) (os:List Int) (al:Option Addr) (cl:Nat) (hl:os.length≤1000000) {w:World} {fr:List Q2} (H:Q0 w (V0 p m::IL (.slice al os.length cl) os::fr)) :
  Calls Tryz.prog 103 #[pp p,.int .i64 r,.slice al os.length cl] w (ret fun v w'=>v = .int .i64 (Xp m r os)∧Q0 w' (V0 p m::IL (.slice al os.length cl) os::fr)):=by
 obtain⟨t,lc,oc,aL,cL,aO,cO,hm,h2,h3,Z0,Y5,H⟩:=GA H;have hP:=hm.P;have Ce:=hm.few;refine QQ Tryz.func103 rfl (by kernel_rfl) ?_;refine Vl H ?_;refine VM H ?_;replace H:=Js [1,0] 0 H;refine Jc rfl rfl (CN t m.P r H) ?_;clear H;rintro v w ⟨rfl,H⟩;replace H:=Zq hm h2 h3 H.swap;clear h2 h3 Z0 Y5 lc oc aL cL aO cO;refine J0 H ?_;cases ZQ:Yb m.P r with
 | false=>
  have he:Xp m r os=15:=by unfold Xp;rw[if_pos ZQ]
  rw[he];refine FQ H ?_;exact Q3 (Jy H rfl fun w' H'=>⟨rfl,H'⟩)
 | true=>
 refine KC H ?_;refine KF H ?_;by_cases Y0:((os.length:Nat):Int) > 64
 ·have he:Xp m r os=18:=by unfold Xp;rw[ZQ,if_neg (by decide),if_pos (by omega)]
  rw[show decide (((os.length:Nat):Int) > 64)=true from decide_eq_true Y0];refine ZD H ?_;rw[he];exact Q3 (Jy H rfl fun w' H'=>⟨rfl,H'⟩)
 rw[show decide (((os.length:Nat):Int) > 64)=false from decide_eq_false Y0];have Y0:os.length≤64:=by omega
 refine Vf H ?_;refine Eo H ?_;refine Qq (fun ms σ w z=>ms=[]∧∃ i:Nat,i≤os.length∧z=os.length - i∧XU m r (os.take i) (os.drop i)=XU m r [] os∧σ 0=pp p∧σ 1 = .int .i64 r∧σ 2 = .slice al os.length cl∧σ 8 = .int .i64 i∧Q0 w (V0 p m::IL (.slice al os.length cl) os::fr)) (m:=os.length) ⟨rfl,0,by omega,by omega,rfl,rfl,rfl,rfl,rfl,H⟩ ?_;clear H;rintro ms σ w z ⟨rfl,i,hi,rfl,Yr,g0,g1,g2,g8,H⟩;rw[Q1 g0,Q1 g1,Q1 g2,Q1 g8];refine As H ?_;refine Qm rfl (fun h=>QF ?_) (fun h=>Qv ?_)
 ·have Q6:i < os.length:=by omega
  have hy:=getElem?_eq_getElem Q6;have Qj:os.take (i+1)=os.take i++[os[i]]:=by rw[take_add_one,hy];rfl
  have G0:os.drop i=os[i]::os.drop (i+1):=drop_eq_getElem_cons Q6;generalize os[i]=y at hy Qj G0;rw[G0] at Yr;obtain⟨bl,sl,rfl,H,hlc,_,QM⟩:=GJ H.swap (by omega);refine DC H ?_;refine Jd ?_;refine Q5 rfl (QA H rfl (by simpa using RZ hy) rfl ?_);refine Jc rfl rfl (Dk p m y H.swap) ?_;clear H;rintro v w ⟨rfl,H⟩;refine J0 H ?_;cases hv:VH m y with
  | none=>
   have he:=Ot ZQ Y0 (Yr.symm.trans (kB hv)) (by decide);rw[he];refine FQ H ?_;replace H:=(QM _ _ _ rfl H.swap).swap;exact Q3 (Jy H rfl fun w' H'=>⟨rfl,H'⟩)
  | some kx=>
   obtain⟨k,x⟩:=kx;obtain⟨rfl,hx,hh,hg⟩:=WD hv;rw[kC hv] at Yr;refine KC H ?_;have VB:=(List.getElem?_eq_some_iff.1 hx).1;obtain⟨t,lc,aL,cL,bO,cO,s,ptrs,qq,vw,vk,vt,rest,UJ,h2,hp,H,QK⟩:=X5 H hx;refine J1 H ?_;clear H;intro w H;refine W8 H ?_;refine KI H ?_;refine Ji 6 ?_;refine YZ 7 [] H rfl (Q9.none rfl) rfl (by simpa using RZ hy) (by kernel_rfl) ?_
   refine Ji 8 ?_;refine YZ 9 [] H rfl (Q9.none rfl) rfl (by simpa using hp) (by kernel_rfl) ?_;refine Ja 10 ?_;refine Jf 11 ?_;refine Jl 12 [] H ?_;refine B0 H ?_;have V7:Vc { m with objs:=m.objs.set k x }:=BK hx hm;by_cases c1:(x.region:Int)≠r
   ·rw[if_pos c1] at Yr;have he:=Ot ZQ Y0 Yr.symm (by decide);rw[he,show (((x.region:Nat):Int) != r)=true by rw[bne_iff_ne];exact c1];refine ZD H ?_;replace H:=(QM _ _ _ rfl (K2 hx (QK _ _ _ V7 H)).swap).swap;exact Q3 (Jy H rfl fun w' H'=>⟨rfl,H'⟩)
   rw[if_neg c1] at Yr;rw[show (((x.region:Nat):Int) != r)=false by rw[bne_eq_false_iff_eq];exact Classical.not_not.1 c1];refine IW H ?_;clear H;intro w H;refine W8 H ?_;refine KI H ?_;refine Ji 6 ?_;refine YZ 7 [] H rfl (Q9.none rfl) rfl (by simpa using RZ hy) (by kernel_rfl) ?_
   refine Ji 8 ?_;refine YZ 9 [] H rfl (Q9.none rfl) rfl (by simpa using hp) (by kernel_rfl) ?_;refine Ja 10 ?_;refine Jf 11 ?_;refine Jl 12 [] H ?_;refine Jx H ?_;cases c2:x.pinned with
   | true=>
    rw[if_pos c2] at Yr;have he:=Ot ZQ Y0 Yr.symm (by decide);rw[he];refine ZD H ?_;replace H:=(QM _ _ _ rfl (K2 hx (QK _ _ _ V7 H)).swap).swap;exact Q3 (Jy H rfl fun w' H'=>⟨rfl,H'⟩)
   | false=>
   rw[if_neg (by rw[c2];decide)] at Yr;refine Vf H ?_;replace H:=(K2 hx (QK _ _ _ V7 H)).swap;refine J1 H ?_;clear H;intro w H;refine DU H ?_;refine wS 2 rfl (Q9.none rfl) rfl rfl (by omega) (by kernel_rfl) ?_;refine Ja 3 ?_;refine Ja 4 ?_;refine Ji 5 ?_;refine YZ 6 [7] H rfl (Q9.none rfl) rfl (by simpa using RZ hy) (by kernel_rfl) ?_;have Hc:=QM _ _ _ rfl H;refine Jo 7 H ?_;refine Jk rfl rfl (kf _ cl i os (k:Int) hi hl Hc) ?_;clear H;rintro v w ⟨rfl,H⟩;refine WY H ?_;by_cases c3:(k:Int)∈os.take i
   ·rw[if_pos c3] at Yr;have he:=Ot ZQ Y0 Yr.symm (by decide);rw[he,decide_eq_true c3];refine J7 H ?_;refine YY rfl ?_;refine Vl H ?_;exact Q3 (Jy H.swap rfl fun w' H'=>⟨rfl,H'⟩)
   rw[if_neg c3,← Qj] at Yr;rw[decide_eq_false c3];refine ey H ?_;refine Vj H ?_;exact⟨_,⟨rfl,i+1,Q6,rfl,Yr,rfl,rfl,rfl,Qh (by omega),H.swap⟩,by omega⟩
 ·obtain rfl:i=os.length:=by omega
  rw[take_length,drop_length] at Yr;have Yr:0=XU m r [] os:=Yr;obtain⟨t,lc,oc,aL,cL,aO,cO,UJ,h2,h3,Z0,Y5,H⟩:=GA H;refine G1 H ?_;replace H:=Js [1,0] 0 H;refine Jc rfl rfl (JX t m.P (by omega) H) ?_;clear H;intro v w H;obtain⟨aA,cA,rfl⟩:=QI H (QJ _) (by decide);replace H:=Js [0,1,0] 0 H;replace H:=H.drop;replace H:=Zq hm h2 h3 H;refine Ml H ?_
  have he:Xp m r os=if 64≤(V4 m.P).length then 5 else 0:=by
   unfold Xp;rw[ZQ,if_neg (by decide),if_neg (by omega),← Yr,if_neg (by decide)]
  rw[he];by_cases c4:(((V4 m.P).length:Nat):Int)≥64
  ·rw[show decide ((((V4 m.P).length:Nat):Int)≥64)=true from decide_eq_true c4,if_pos (by omega)];refine ZD H ?_;exact Q3 (Jy H rfl fun w' H'=>⟨rfl,H'⟩)
  ·rw[show decide ((((V4 m.P).length:Nat):Int)≥64)=false from decide_eq_false c4,if_neg (by omega)];refine Ay H ?_;exact Q3 (Jy H rfl fun w' H'=>⟨rfl,H'⟩)
def ZL {A:Type} (f:A→A) (i:Nat) (l:List A):List A:=l.mapIdx fun k x=>if k < i then f x else x
theorem EZ {A:Type} (f:A→A) (i:Nat) (l:List A) (k:Nat):(ZL f i l)[k]? = (l[k]?).map fun x=>if k < i then f x else x:=getElem?_mapIdx
theorem EG {A:Type} (f:A→A) (i:Nat) (l:List A):(ZL f i l).length=l.length:=length_mapIdx
theorem Ov {A:Type} (f:A→A) (l:List A):ZL f 0 l=l:=by
 apply ext_getElem?;intro k;rw[EZ];cases l[k]? <;> simp
theorem ko {A:Type} {f:A→A} {l:List A} {i:Nat} {x:A} (h:l[i]? = some x):(ZL f i l).set i (f x)=ZL f (i+1) l:=by
 have UE:=(List.getElem?_eq_some_iff.1 h).1;apply ext_getElem?;intro k;rw[getElem?_set,EZ,EZ,EG];by_cases hk:i=k
 ·subst hk;rw[if_pos rfl,if_pos UE,h];simp only[Option.map_some];rw[if_pos (by omega)]
 ·rw[if_neg hk];have:k < i+1↔k < i:=by omega
  simp only[this]
theorem bZ {A:Type} (f:A→A) (l:List A):ZL f l.length l=l.map f:=by
 apply ext_getElem?;intro k;rw[EZ,getElem?_map];cases h:l[k]? with
 | none=>rfl
 | some x=>
  have:=(List.getElem?_eq_some_iff.1 h).1;simp only[Option.map_some];rw[if_pos this]
theorem kr {A:Type} {f:A→A} {l:List A} {i:Nat} {x:A} (h:l[i]? = some x):(ZL f i l)[i]? = some x:=by
 rw[EZ,h];simp only[Option.map_some];rw[if_neg (by omega)]
theorem wT {lays:List Qb} {n:Nat} {x:QT} (h:K1 lays n x) (L:List Nat):K1 lays n (Ql L x):=by
 obtain⟨a,b,c,d,e⟩:=h;unfold Ql;split
 ·exact⟨a,b,c,d,e⟩
 ·exact⟨a,b,c,d,e⟩
theorem bG {m:MS} (h:Vc m) (L K:List Nat) (i:Nat):Vc { m with P:=Yd m.P K,objs:=ZL (Ql L) i m.objs }:=by
 refine⟨?_,h.lays,fun x' VA=>?_,?_⟩
 ·show 1≤(Yd m.P K).length∧(Yd m.P K).length≤_;unfold Yd;rw[length_mapIdx];exact h.P
 ·show K1 m.lays (ZL (Ql L) i m.objs).length x';rw[EG];obtain⟨o,ho⟩:=getElem?_of_mem VA;have ho:(ZL (Ql L) i m.objs)[o]? = some x':=ho;rw[EZ] at ho;cases hx:m.objs[o]? with
  | none=>rw[hx] at ho;cases ho
  | some x=>
   rw[hx] at ho;injection ho with ho
   have hk:=h.objs x (mem_of_getElem? hx);subst ho;show K1 m.lays m.objs.length (if o < i then Ql L x else x);split
   ·exact wT hk L
   ·exact hk
 ·show (ZL (Ql L) i m.objs).length≤_;rw[EG];exact h.few
def XX (G:List QT) (p:Nat) (l:List (Nat×Nat)):List Nat:=l.mapIdx fun k y=>if k < p∧ZZ G y.1 y.2=true then 1 else y.1
def XK (G:List QT) (p:Nat) (l:List (Nat×Nat)):List Nat:=l.mapIdx fun k y=>if k < p∧ZZ G y.1 y.2=true then 0 else y.2
def ZM (G:List QT) (p:Nat) (x:QT):QT:={ x with kind:=XX G p (x.kind.zip x.to),to:=XK G p (x.kind.zip x.to) }
theorem wa (G:List QT) (p:Nat) {x:QT} (h:x.kind.length=x.to.length):(ZM G p x).kind.length=x.kind.length∧(ZM G p x).to.length=x.kind.length:=by
 constructor
 ·show (XX G p _).length=_;unfold XX;rw[length_mapIdx,length_zip];omega
 ·show (XK G p _).length=_;unfold XK;rw[length_mapIdx,length_zip];omega
theorem Ld {k t:List Nat} {p a b:Nat} (ha:k[p]? = some a) (hb:t[p]? = some b):(k.zip t)[p]? = some (a,b):=getElem?_zip_eq_some.2 ⟨ha,hb⟩
theorem wb {G:List QT} {x:QT} {p a b:Nat} (ha:x.kind[p]? = some a) (hb:x.to[p]? = some b):(ZM G p x).kind[p]? = some a∧(ZM G p x).to[p]? = some b:=by
 have hz:=Ld ha hb;constructor
 ·show (XX G p _)[p]? = _;unfold XX;rw[getElem?_mapIdx,hz];show some (if p < p∧ZZ G a b=true then 1 else a)=_;rw[if_neg (by omega)]
 ·show (XK G p _)[p]? = _;unfold XK;rw[getElem?_mapIdx,hz];show some (if p < p∧ZZ G a b=true then 0 else b)=_;rw[if_neg (by omega)]
theorem wc {G:List QT} {x:QT} {p a b:Nat} (ha:x.kind[p]? = some a) (hb:x.to[p]? = some b) (hh:ZZ G a b=true):({ ZM G p x with kind:=(ZM G p x).kind.set p 1,to:=(ZM G p x).to.set p 0 }:QT)=ZM G (p+1) x:=by
 have hz:=Ld ha hb;have hl:=(List.getElem?_eq_some_iff.1 hz).1
 have h1:(XX G p (x.kind.zip x.to)).set p 1=XX G (p+1) (x.kind.zip x.to):=by
  unfold XX;apply ext_getElem?;intro k;rw[getElem?_set,length_mapIdx,getElem?_mapIdx,getElem?_mapIdx];by_cases hk:p=k
  ·subst hk;rw[if_pos rfl,if_pos hl,hz];show _=some (if p < p+1∧ZZ G a b=true then 1 else a);rw[if_pos ⟨by omega,hh⟩]
  ·rw[if_neg hk];have:k < p+1↔k < p:=by omega
   simp only[this]
 have h2:(XK G p (x.kind.zip x.to)).set p 0=XK G (p+1) (x.kind.zip x.to):=by
  unfold XK;apply ext_getElem?;intro k;rw[getElem?_set,length_mapIdx,getElem?_mapIdx,getElem?_mapIdx];by_cases hk:p=k
  ·subst hk;rw[if_pos rfl,if_pos hl,hz];show _=some (if p < p+1∧ZZ G a b=true then 0 else b);rw[if_pos ⟨by omega,hh⟩]
  ·rw[if_neg hk];have:k < p+1↔k < p:=by omega
   simp only[this]
 show ({ x with kind:=(XX G p (x.kind.zip x.to)).set p 1,to:=(XK G p (x.kind.zip x.to)).set p 0 }:QT)={ x with kind:=XX G (p+1) (x.kind.zip x.to),to:=XK G (p+1) (x.kind.zip x.to) };rw[h1,h2]
theorem kv {G:List QT} {x:QT} {p a b:Nat} (ha:x.kind[p]? = some a) (hb:x.to[p]? = some b) (hh:¬ ZZ G a b=true):ZM G p x=ZM G (p+1) x:=by
 have hz:=Ld ha hb
 have h1:XX G p (x.kind.zip x.to)=XX G (p+1) (x.kind.zip x.to):=by
  unfold XX;apply ext_getElem?;intro k;rw[getElem?_mapIdx,getElem?_mapIdx];by_cases hk:p=k
  ·subst hk;rw[hz];show some (if p < p∧ZZ G a b=true then 1 else a)=some (if p < p+1∧ZZ G a b=true then 1 else a);rw[if_neg (by omega),if_neg (fun h=>hh h.2)]
  ·have:k < p+1↔k < p:=by omega
   simp only[this]
 have h2:XK G p (x.kind.zip x.to)=XK G (p+1) (x.kind.zip x.to):=by
  unfold XK;apply ext_getElem?;intro k;rw[getElem?_mapIdx,getElem?_mapIdx];by_cases hk:p=k
  ·subst hk;rw[hz];show some (if p < p∧ZZ G a b=true then 0 else b)=some (if p < p+1∧ZZ G a b=true then 0 else b);rw[if_neg (by omega),if_neg (fun h=>hh h.2)]
  ·have:k < p+1↔k < p:=by omega
   simp only[this]
 unfold ZM;rw[h1,h2]
theorem we {G:List QT} {x:QT} (h:x.kind.length=x.to.length):ZM G 0 x=x:=by
 have h1:XX G 0 (x.kind.zip x.to)=x.kind:=by
  unfold XX;apply ext_getElem?;intro k;rw[getElem?_mapIdx];cases ha:x.kind[k]? with
  | none=>
   rw[List.getElem?_eq_none_iff] at ha;rw[getElem?_eq_none (by rw[length_zip];omega)];rfl
  | some a=>
   have hl:=(List.getElem?_eq_some_iff.1 ha).1;rw[Ld ha (getElem?_eq_getElem (show k < x.to.length by omega))];show some (if k < 0∧_ then 1 else a)=_;rw[if_neg (by omega)]
 have h2:XK G 0 (x.kind.zip x.to)=x.to:=by
  unfold XK;apply ext_getElem?;intro k;rw[getElem?_mapIdx];cases ha:x.to[k]? with
  | none=>
   rw[List.getElem?_eq_none_iff] at ha;rw[getElem?_eq_none (by rw[length_zip];omega)];rfl
  | some a=>
   have hl:=(List.getElem?_eq_some_iff.1 ha).1;rw[Ld (getElem?_eq_getElem (show k < x.kind.length by omega)) ha];show some (if k < 0∧_ then 0 else a)=_;rw[if_neg (by omega)]
 unfold ZM;rw[h1,h2]
theorem wg (G:List QT) {x:QT} (h:x.kind.length=x.to.length):ZM G x.kind.length x=UZ G x:=by
 have h1:XX G x.kind.length (x.kind.zip x.to)=(x.kind.zip x.to).map (fun y=>if ZZ G y.1 y.2=true then 1 else y.1):=by
  unfold XX;apply ext_getElem?;intro k;rw[getElem?_mapIdx,getElem?_map];cases hz:(x.kind.zip x.to)[k]? with
  | none=>rfl
  | some y=>
   have hl:=(List.getElem?_eq_some_iff.1 hz).1;rw[length_zip] at hl;have hk:k < x.kind.length:=by omega
   show some (if k < x.kind.length∧ZZ G y.1 y.2=true then 1 else y.1)=some (if ZZ G y.1 y.2=true then 1 else y.1);simp only[hk,true_and]
 have h2:XK G x.kind.length (x.kind.zip x.to)=(x.kind.zip x.to).map (fun y=>if ZZ G y.1 y.2=true then 0 else y.2):=by
  unfold XK;apply ext_getElem?;intro k;rw[getElem?_mapIdx,getElem?_map];cases hz:(x.kind.zip x.to)[k]? with
  | none=>rfl
  | some y=>
   have hl:=(List.getElem?_eq_some_iff.1 hz).1;rw[length_zip] at hl;have hk:k < x.kind.length:=by omega
   show some (if k < x.kind.length∧ZZ G y.1 y.2=true then 0 else y.2)=some (if ZZ G y.1 y.2=true then 0 else y.2);simp only[hk,true_and]
 unfold ZM UZ;rw[h1,h2]
theorem bX [Q4] {w:World} {oc:List OC} {l:List Q2} {i:Nat} {y:OC} (hy:oc[i]? = some y) (H:Q0 w (star (oc.map Zk)::l)):∃ rest:List Q2,
  Q0 w (pts y.ptr (Kw y.vw y.vk y.vt y.ob)::UL y.vw y.ob.w::NL y.vk y.ob.kind::NL y.vt y.ob.to::star rest::l) ∧
  ∀ (w':World) (l':List Q2) (x':QT),Q0 w' (pts y.ptr (Kw y.vw y.vk y.vt x')::UL y.vw x'.w::NL y.vk x'.kind::NL y.vt x'.to::star rest::l')→Q0 w' (star ((oc.set i { y with ob:=x' }).map Zk)::l'):=by
 have Yw:oc=oc.take i++y::oc.drop (i+1):=by
  have h1:=List.getElem?_eq_some_iff.1 hy;rw[← h1.2];simp
 refine⟨(oc.take i++oc.drop (i+1)).map Zk,Q0.star.1 ((Q0.pick Yw).1 H),fun w' l' x' H'=>?_⟩;have H':=(Q0.pick (R:=Zk) (x:={ y with ob:=x' }) (g1:=oc.take i) (g2:=oc.drop (i+1)) rfl).2 (Q0.star.2 H');rw[← SL.set_split hy] at H';exact H'
theorem Le (v:Value) (l:List Nat):NL v l=IL v (l.map fun x:Nat=>(x:Int)):=by
 show QE _ 1 v (QH l)=QE _ 1 v (Qn _);unfold QH Qn;rw[map_map];rfl
end Go.Proofs.YtmjdnljneifpcaaGreatDoor
