/- Cells: what is proved on the way: every input of the statement; no condition. Texts joined: JoiD JoiQ MdlP ModF ModG ModH ModI. -/
import Derived.Test.YtmjdnljneifpcaaGreatDoorBbe
import Derived.Test.YtmjdnljneifpcaaGreatDoorBbn
import Derived.Test.YtmjdnljneifpcaaGreatDoorBbd
import Derived.Test.YtmjdnljneifpcaaGreatDoorBbj
import Derived.Test.YtmjdnljneifpcaaGreatDoorBbk
import Derived.Test.YtmjdnljneifpcaaGreatDoorBbo
set_option linter.unusedVariables false
set_option linter.unusedSimpArgs false
set_option linter.unusedSectionVars false
namespace Go.Proofs.YtmjdnljneifpcaaGreatDoor
open Go.SL
theorem V1w [Q0i] (p:Nat) (q:Ptr) (last:Nat) (par:List (Int×Int)) (region:Int) {w:World} {fr:List Q0e} (H:Q0a w (TRE q.trp last par::Q7x p q::fr)) :
  Calls Tryz.prog 54 #[pp p,.int .i64 region] w (ret fun v w'=>v = .int .i64 (if (fnd par region).isSome then 0 else 15)∧Q0a w' (TRE q.trp last par::Q7x p q::fr)):=by
 refine Q0c Tryz.func54 rfl (by kernel_rfl) ?_;refine J5 H ?_;refine Q2s (fun ms σ w=>ms=[]∧(fnd par region).isSome=true∧Q0a w (TRE q.trp last par::Q7x p q::fr)) ?_ ?_
 ·refine G8g H ?_;refine J10 H ?_;refine Jc rfl rfl (V4d q.trp last par region H) ?_;clear H;rintro v w ⟨rfl,H⟩;cases hf:(fnd par region).isSome with
  | true=>
   refine U0b H ?_;exact .inl ⟨rfl,rfl,rfl,H⟩
  | false=>
   refine U7l H ?_;exact Q0g (.inr ⟨by simp,Jy H rfl fun w' H'=>⟨rfl,H'⟩⟩)
 ·clear H;rintro ms σ w ⟨rfl,hf,H⟩;rw[hf];refine J14 H ?_;exact Q0g (Jy H rfl fun w' H'=>⟨rfl,H'⟩)
theorem G3p [Q0i] {w:World} {a b:Q0e} {l:List Q0e} (H:Q0a w (a::b::l)):∃ X,X=l∧Q0a w (a::b::X):=⟨l,rfl,H⟩
def G4q (s:CS) (l:List Int) (G:List Nat):Prop:=G.Pairwise (· < ·)∧∀ k,k∈G↔∃ g e,s.tab[k]? = some ⟨g,some e⟩∧e.region∈l
theorem G4q.len {s:CS} (hw:WF s) {l:List Int} {G:List Nat} (h:G4q s l G):G.length≤64:=by
 have:=V0z G 0 64 (fun x hx=>⟨Nat.zero_le _,by
  obtain⟨g,f,h3,_⟩:=(h.2 x).1 hx;have h4:=(List.getElem?_eq_some_iff.1 h3).1;have:=hw.slots.2;omega⟩) h.1
 omega
theorem G4q.step {s:CS} {l:List Int} {G M:List Nat} {x:Int} (h:G4q s l G) (hx:x∉l) (hM:M.Pairwise (· < ·)) (hm:∀ i,i∈M↔∃ g e,s.tab[i]? = some ⟨g,some e⟩∧e.region=x):(∀ k∈G,k∉M)∧G4q s (l++[x]) (V4r G M):=by
 have hd:∀ k∈G,k∉M:=fun k hk hk2=>by
  obtain⟨g,e,h1,h2⟩:=(h.2 k).1 hk;obtain⟨g',e',h3,h4⟩:=(hm k).1 hk2;rw[h1] at h3;injection h3 with h3
  injection h3 with _ h3
  injection h3 with h3
  subst h3;exact hx (h4▸h2)
 refine⟨hd,V7b h.1 hM hd,fun k=>?_⟩;rw[G2q,h.2,hm];constructor
 ·rintro(⟨g,e,h1,h2⟩|⟨g,e,h1,h2⟩)
  ·exact⟨g,e,h1,List.mem_append.2 (.inl h2)⟩
  ·exact⟨g,e,h1,List.mem_append.2 (.inr (List.mem_singleton.2 h2))⟩
 ·rintro⟨g,e,h1,h2⟩
  rcases List.mem_append.1 h2 with h2|h2
  ·exact .inl ⟨g,e,h1,h2⟩
  ·exact .inr ⟨g,e,h1,List.mem_singleton.1 h2⟩
theorem Z0q.rk {s s':CS} {D:List Rf} (h:Z0q s D s') (hR:Y0g s):Y0g s':=by
 refine⟨h.nd,fun r t hr=>?_⟩;rw[h.rem] at hr;split at hr
 ·cases hr
 ·obtain⟨k,p,g,e,h1,h2,h3⟩:=hR.key r t hr;exact⟨k,p,g,Q8s D k e,h1,h.tab k _ h2,by rw[Q8x];exact h3⟩
def U1k (s:CS) (G ks:List Nat) (D:List Rf):Prop:=∀ r:Rf,r∈D↔(∃ t∈ks,fnd s.rem r=some ((t:Nat):Int))∧¬ ∃ k∈G,r.1=((k:Nat):Int)
structure Y0t (s:CS) (ks:List Nat) (s':CS):Prop where
 size:s'.size=s.size
 own:s'.own=s.own
 lays:s'.lays=s.lays
 last:s'.last=s.last
 par:s'.par=s.par
 sps:s'.sps=s.sps
 tabl:s'.tab.length=s.tab.length
 tab:∀ (k:Nat) (t:Slt),s.tab[k]? = some t→s'.tab[k]? = some (if k∈ks then ⟨t.gen,none⟩ else t)
 nd:(s'.rem.map (·.1)).Nodup
 rem:∀ r,fnd s'.rem r=if ∃ k∈ks,r.1=((k:Nat):Int) then none else fnd s.rem r
theorem Y0t.start {s:CS} (h:(s.rem.map (·.1)).Nodup):Y0t s [] s:=
 ⟨rfl,rfl,rfl,rfl,rfl,rfl,rfl,fun k t hk=>by rw[if_neg (by simp)];exact hk,h,fun r=>by rw[if_neg (by simp)]⟩
theorem Y0t.step {s s' s2:CS} {ks:List Nat} (h:Y0t s ks s') {k n:Nat} {e:Ent} (hk:s.tab[k]? = some ⟨n,some e⟩) (hL:U8s s' k n s2):Y0t s (ks++[k]) s2:=by
 refine⟨hL.size.trans h.size,hL.own.trans h.own,hL.lays.trans h.lays,hL.last.trans h.last,hL.par.trans h.par,hL.sps.trans h.sps,by rw[hL.tab,List.length_set];exact h.tabl,fun j t hj=>?_,hL.nd,fun r=>?_⟩
 ·have hj':=h.tab j t hj;have hjl:=(List.getElem?_eq_some_iff.1 hj').1;rw[hL.tab];by_cases hkj:k=j
  ·subst hkj;rw[hk] at hj;injection hj with hj
   subst hj;rw[List.getElem?_set_self hjl,if_pos (by simp)]
  ·rw[List.getElem?_set_ne hkj,hj']
   have h1:j∈ks++[k]↔j∈ks:=by
    rw[List.mem_append,List.mem_singleton];exact⟨fun h=>h.elim id fun h=>absurd h.symm hkj,.inl⟩
   by_cases h2:j∈ks
   ·rw[if_pos h2,if_pos (h1.2 h2)]
   ·rw[if_neg h2,if_neg (fun h=>h2 (h1.1 h))]
 ·rw[hL.rem,h.rem];by_cases h1:r.1=((k:Nat):Int)
  ·rw[if_pos h1,if_pos ⟨k,by simp,h1⟩]
  ·rw[if_neg h1];by_cases h2:∃ j∈ks,r.1=((j:Nat):Int)
   ·obtain⟨j,h3,h4⟩:=h2;rw[if_pos ⟨j,h3,h4⟩,if_pos ⟨j,List.mem_append.2 (.inl h3),h4⟩]
   ·rw[if_neg h2,if_neg];rintro⟨j,h3,h4⟩
    rcases List.mem_append.1 h3 with h3|h3
    ·exact h2 ⟨j,h3,h4⟩
    ·rw[List.mem_singleton] at h3;subst h3;exact h1 h4
structure G6z (s:CS) (l:List Int) (s':CS):Prop where
 size:s'.size=s.size
 own:s'.own.length=s.own.length
 lays:s'.lays=s.lays
 last:s'.last=s.last
 par:s'.par=l.foldl era s.par
 tab:s'.tab=s.tab
 rem:s'.rem=s.rem
 sps:∀ y∈s.sps,y.1∉l→y∈s'.sps
 owns:∀ j,s'.own.getD j 0=if ((s.own.getD j 0:Nat):Int)∈l then 0 else s.own.getD j 0
theorem G6z.start (s:CS):G6z s [] s:=⟨rfl,rfl,rfl,rfl,rfl,rfl,rfl,fun y h _=>h,fun j=>by rw[if_neg (by simp)]⟩
theorem G6z.step {s s':CS} {l:List Int} (h:G6z s l s') (x:Int) {own':List Nat} (ho:own'.length=s'.own.length) (sps:List (Int×Nat×Spc)) (mns:List (Int×Nat×List Nat)) (hsp:∀ y∈s'.sps,y.1≠x→y∈sps) (hog:∀ j,own'.getD j 0=if ((s'.own.getD j 0:Nat):Int)=x then 0 else s'.own.getD j 0):G6z s (l++[x]) { s' with own:=own',par:=era s'.par x,sps:=sps,mns:=mns }:=
 ⟨h.size, ho.trans h.own, h.lays, h.last, by show era s'.par x = _; rw [h.par, List.foldl_append]; rfl, h.tab, h.rem, fun y hy hn => hsp y (h.sps y hy fun h1 => hn (List.mem_append.2 (.inl h1))) fun h1 => hn (List.mem_append.2 (.inr (by rw [h1]; exact List.mem_singleton.2 rfl))), fun j => by
  show own'.getD j 0=_;rw[hog,h.owns];by_cases h1:((s.own.getD j 0:Nat):Int)∈l
  ·rw[if_pos h1,if_pos (List.mem_append.2 (.inl h1))];split <;> rfl
  ·rw[if_neg h1];by_cases h2:((s.own.getD j 0:Nat):Int)=x
   ·rw[if_pos h2,if_pos (List.mem_append.2 (.inr (by rw[h2];exact List.mem_singleton.2 rfl)))]
   ·rw[if_neg h2,if_neg (fun h3=>(List.mem_append.1 h3).elim h1 fun h4=>h2 (List.mem_singleton.1 h4))]⟩
theorem Q6e:∀ (ks:List Int) {m:List (Int×Int)},(m.map (·.1)).Nodup→((ks.foldl era m).map (·.1)).Nodup
 | [],_,h=>h
 | k::ks,_,h=>Q6e ks (Q4y h)
theorem G7a {m:List (Int×Int)} {k x:Int} (hne:k≠x) (hx:x∈m.map (·.1)):x∈(era m k).map (·.1):=by
 induction m with
 | nil=>exact hx
 | cons a m ih=>
  unfold era;split
  ·rename_i h;rw[List.map_cons,List.mem_cons] at hx
   rcases hx with hx|hx
   ·exact absurd (hx.trans h).symm hne
   ·exact hx
  ·rw[List.map_cons,List.mem_cons] at hx ⊢
   rcases hx with hx|hx
   ·exact .inl hx
   ·exact .inr (ih hx)
theorem V4v {x:Int}:∀ {ks:List Int} {m:List (Int×Int)},x∉ks→x∈m.map (·.1)→x∈(ks.foldl era m).map (·.1)
 | [],_,_,h=>h
 | k::ks,_,h1,h=>V4v (ks:=ks) (fun h2=>h1 (List.mem_cons_of_mem _ h2)) (G7a (fun e=>h1 (e▸List.mem_cons_self)) h)
theorem G3q {own own' C:List Nat} {r:Int} (hog:∀ j,own'.getD j 0=if j∈C then 0 else own.getD j 0) (ho:∀ c,c∈C↔∃ q:Nat,own[c]? = some q∧(q:Int)=r∧q≠0) (j:Nat):own'.getD j 0=if ((own.getD j 0:Nat):Int)=r then 0 else own.getD j 0:=by
 rw[hog j];by_cases hj:j∈C
 ·obtain⟨q',h1,h2,_⟩:=(ho j).1 hj;rw[if_pos hj,if_pos (by rw[List.getD_eq_getElem?_getD,h1];exact h2)]
 ·rw[if_neg hj];split
  ·rename_i h1;rw[List.getD_eq_getElem?_getD] at h1 ⊢;cases h2:own[j]? with
   | none=>rfl
   | some y=>
    rw[h2] at h1;have h1:((y:Nat):Int)=r:=h1;by_cases h3:y=0
    ·exact h3
    ·exact absurd ((ho j).2 ⟨y,h2,h1,h3⟩) hj
  ·rfl
def G7b (s:CS) (L:List Int) (s':CS):Prop:=∃ (G:List Nat) (Dl:List Rf) (s1 s2:CS),G4q s L G∧Z0q s Dl s1∧U1k s G G Dl∧Y0t s1 G s2∧G6z s2 L s'
set_option maxRecDepth 10000 in
theorem Y3x [Q0i] (p:Nat) (s:CS) (region:Int) (hT:Q5d s.par) (hid:(fnd s.par region).isSome=true) (hI:Inv s) (hgen:∀ (k g:Nat) (e:Ent),s.tab[k]? = some ⟨g,some e⟩→g < 255) {w:World} {fr:List Q0e} (H:Q0a w (Q2z p s::fr)) :
  Calls Tryz.prog 14 #[pp p,.int .i64 region] w (ret fun v w'=>∃ u L s',v = .tuple #[u,.int .i64 0]∧L.Nodup∧L.Pairwise (·≤·)∧(∀ c,c∈L↔Y3k s.par region c)∧L.length≤s.par.length∧G7b s L s'∧Q0a w' (IL u L::Q2z p s'::fr)):=by
 obtain⟨q,mem,hw,hm,H⟩:=Q1u H;refine Q0c Tryz.func14 rfl (by kernel_rfl) ?_;refine J30 H ?_;clear H;intro b2 w H;refine J2 H ?_;replace H:=Js [6,1,0,0,0,0,0] 0 H;refine J81 H ?_;refine Jc rfl rfl (V1w p q s.last s.par region H) ?_;clear H;rintro v w ⟨rfl,H⟩;rw[if_pos hid];refine J23 H ?_;refine J83 H ?_;refine Jc rfl rfl (Z8d q.trp s.last s.par region hT hid (by have:=hw.par.1;omega) H) ?_;clear H;rintro v w ⟨u,L,rfl,hL1,hL2,hL3,hL4,H⟩;obtain⟨aL,cL,rfl⟩:=Q0j H (Q0r L) (by decide);refine J32 H ?_;refine J39 H ?_;refine Jc rfl rfl (V9k H) ?_;clear H;rintro v w ⟨bg,rfl,H⟩;refine J12 H ?_;clear H;intro b9 w H;refine U9g H ?_;clear H;intro w H;refine Q0h ?_;refine J77 H ?_;have hLl:L.length≤64:=by have:=hw.par.1;omega
 have hLm:∀ x∈L,x∈s.mns.map (·.1):=fun x hx=>by
  have h1:=((hL3 x).1 hx).live hid;rw[hw.mkeys];cases hf:fnd s.par x with
  | none=>rw[hf] at h1;cases h1
  | some y=>exact List.mem_map.2 ⟨(x,y),Q7d hf,rfl⟩
 replace H:=Js [2,1,0,11,1,1,8,0,0,0,0,0,0,0,0] 0 H;obtain⟨X,hX,H⟩:=G3p H;refine J7 H ?_;refine Q1m (fun ms σ w=>ms=[]∧∃ G:List Nat,G4q s L G∧σ 2=pp b2∧σ 7 = .slice aL L.length cL∧σ 9=pp b9∧Q0a w (IL (.slice aL L.length cL) L::BAG bg G::X)) ?_ ?_
 ·refine Q0t ?_;refine Q1l (fun ms σ w z=>ms=[]∧∃ (i:Nat) (G:List Nat),i≤L.length∧z=L.length - i∧G4q s (L.take i) G∧σ 2=pp b2∧σ 7 = .slice aL L.length cL∧σ 9=pp b9∧σ 36 = .slice aL L.length cL∧σ 37 = .int .i64 L.length∧σ 38 = .int .i64 i∧Q0a w (IL (.slice aL L.length cL) L::BAG bg G::X)) (m:=L.length) ⟨rfl,0,[],by omega,rfl,⟨List.Pairwise.nil,fun k=>by simp⟩,rfl,rfl,rfl,rfl,rfl,rfl,H⟩ ?_;clear H;rintro ms σ w z ⟨rfl,i,G,hi,rfl,hG,g2,g7,g9,g36,g37,g38,H⟩;rw[Q0b g2,Q0b g7,Q0b g9,Q0b g36,Q0b g37,Q0b g38];refine J5 H ?_;refine Q2d rfl (fun h=>Q0w ?_) (fun h=>Q1n ?_)
  ·have hlt:i < L.length:=by omega
   have hx:=List.getElem?_eq_getElem hlt;have htk:L.take (i+1)=L.take i++[L[i]]:=by rw[List.take_add_one,hx];rfl
   have hnt:L[i]∉L.take i:=fun hh=>by
    obtain⟨j,hj⟩:=List.getElem?_of_mem hh;rw[List.getElem?_take] at hj;split at hj
    ·rename_i hji;obtain⟨hj1,hj2⟩:=List.getElem?_eq_some_iff.1 hj;exact(List.pairwise_iff_getElem.1 hL1) j i hj1 hlt hji hj2
    ·cases hj
   have hxm:=hLm _ (List.getElem_mem hlt);generalize L[i]=x at hx htk hnt hxm;obtain⟨b',hkM⟩:=Q8c (l:=s.mns) (f:=fun x=>x.1) (g:=fun x=>x.2.1) (k:=x) hxm;obtain⟨⟨r1,b1,M⟩,m1,m2,hmns,h11,h12⟩:=Q6r hkM;have h11:r1=x:=h11;have h12:b1=b':=h12;subst h11 h12;have hkM':fnd (s.mns.map Q3p) r1=some b1:=hkM;have hM:=hw.mine (r1,b1,M) (by rw[hmns];simp);have hM1:G4q s [r1] M:=⟨hM.1,fun k=>by rw[hM.2];simp⟩;have hMl:=hM1.len hw;have hGl:=hG.len hw;obtain⟨hdj,hG2⟩:=hG.step hnt hM.1 hM.2;rw[hX] at H;obtain⟨bT,sT,rfl,H,hcl⟩:=Q0y H (by omega);refine J19 H ?_;refine Jd ?_;refine Q0s rfl (Q0l H rfl (by simpa using Q3w hx) rfl ?_);refine J0 H ?_;replace H:=hcl _ _ H;replace H:=Js [3,0,0,0] 0 H;replace H:Q0a w (BAG b1 M::star ((m1++m2).map Q4a)::_):=(Q0a.pick (R:=Q4a) (x:=(r1,b1,M)) hmns).1 H;replace H:=Js [3,0,0,0] 0 H;refine J1 H ?_;clear H;intro w H;refine Jl 0 [7] H ?_;refine Jl 1 [7] H ?_;refine Ja 2 ?_;refine Jf 3 ?_;refine Jl 4 [] H ?_;refine Ja 5 ?_;refine Q7k 6 [] (key:=r1) H rfl (Q0n.none rfl) rfl rfl tkI (by kernel_rfl) ?_;rw[hkM'];refine Jo 7 H ?_;refine Jk rfl rfl (Z8f bg b1 G M hG.1 hM.1 hdj (by omega) (by omega) H) ?_;clear H;rintro v w ⟨rfl,H⟩;refine Jx H ?_;replace H:=Js [1,1,0,0] 0 H;replace H:=(Q0a.pick (R:=Q4a) (x:=(r1,b1,M)) hmns).2 H;replace H:=Js [2,1,1,0] 0 H;refine J3 H ?_;exact⟨_,⟨rfl,i+1,V4r G M,hlt,rfl,by rw[htk];exact hG2,rfl,rfl,rfl,rfl,rfl,Q2a (by omega),by rw[hX];exact H⟩,by omega⟩
  ·have hge:i=L.length:=by omega
   subst hge;rw[List.take_length] at hG;exact⟨rfl,rfl,G,hG,rfl,rfl,rfl,H⟩
 clear H;rintro ms σ w ⟨rfl,G,hG,g2,g7,g9,H⟩;rw[Q0b g2,Q0b g7,Q0b g9];rw[hX] at H;clear hX;have hGl:=hG.len hw;replace H:=Js [1,0] 0 H;refine J50 H ?_;refine Jc rfl rfl (V4s bg G (by omega) H) ?_;clear H;rintro v w ⟨bv,av,cv,rfl,H⟩;refine Q0h ?_;replace H:=Js [6,9,9,9,9,9,9,9,7,5,0,0,0,0,0,0,0] 0 H;replace H:=G2u hw hm H;refine J7 H ?_;refine Q1m (fun ms σ w=>(∃ (D:Nat) (s1:CS) (Dl:List Rf),ms=[D]∧Z0q s Dl s1∧U1k s G G Dl∧Q0a w (V2c p q s1::BAG bg G::pts b9 (row 61 [pp bg])::pts b2 (row 44 [pp p])::pts D (.deferred (some []))::IL (.slice aL L.length cL) L::TRE q.trp s.last (L.foldl era s.par)::fr))∧σ 2=pp b2∧σ 7 = .slice aL L.length cL∧σ 9=pp b9) ?_ ?_
 ·refine Q0t (Q5a (a:=[]) (b:=[pp bv]) H rfl (fun yl D w H=>?_));generalize hL:LR _ yl _ _ _ _ D .ready=LRR at H ⊢;obtain⟨J,hJ⟩:∃ J:List Nat→Q0e,J=fun ks=>ex fun x:CS×List Rf=>star [prop (Z0q s x.2 x.1∧U1k s G ks x.2),LRR,V2c p q x.1,BAG bg G,pts b9 (row 61 [pp bg]),pts b2 (row 44 [pp p])]:=⟨_,rfl⟩
  have hin:∀ (ks:List Nat) (s1:CS) (Dl:List Rf) (w:World) (l':List Q0e),Z0q s Dl s1→U1k s G ks Dl→Q0a w (LRR::V2c p q s1::BAG bg G::pts b9 (row 61 [pp bg])::pts b2 (row 44 [pp p])::l')→Q0a w (J ks::l'):=by
   intro ks s1 Dl w l' h1 h2 H;rw[hJ];exact Q0a.ex.2 ⟨(s1,Dl),Q0a.star.2 (Q0a.prop.2 ⟨⟨h1,h2⟩,H⟩)⟩
  have hout:∀ (ks:List Nat) (w:World) (l':List Q0e),Q0a w (J ks::l')→∃ s1 Dl,Z0q s Dl s1∧U1k s G ks Dl∧Q0a w (LRR::V2c p q s1::BAG bg G::pts b9 (row 61 [pp bg])::pts b2 (row 44 [pp p])::l'):=by
   intro ks w l' H;rw[hJ] at H;obtain⟨⟨s1,Dl⟩,H⟩:=Q0a.ex.1 H;obtain⟨⟨h1,h2⟩,H⟩:=Q0a.prop.1 (Q0a.star.1 H);exact⟨s1,Dl,h1,h2,H⟩
  replace H:=Js [0,1,3,4,4,1,1,0,0,0] 0 H;replace H:=hin [] s [] _ _ (Z0q.start hI.nd) (fun r=>by simp) H;refine call (Y5t yl bv av cv G (by omega) J ?_ H) ?_
  ·clear H;intro ks k tt rest w hpre H;obtain⟨s1,Dl,hC1,hD1,H⟩:=hout _ _ _ H;subst hL;refine Q7o (args:=[.int .i64 k]) H rfl rfl ?_;refine J14 H ?_;refine⟨rfl,_,H,fun w H=>Q0t ?_⟩;generalize hLB:LR _ yl _ _ _ _ D .busy=LB at H ⊢;replace H:=Js [1,0] 0 H;obtain⟨mem1,hw1,hm1,H⟩:=Y9h H;replace H:=Js [5,0,0,0,0,0] 0 H;refine J83 H ?_;refine Jc rfl rfl (G6o q.rp s1.rem (Z2o hw1 (hC1.rk hI.rk)) k H) ?_;clear H;rintro v w ⟨rs,hrs,hris,H⟩;obtain⟨ar,cr,rfl⟩:=Q0j H (Q5j rs) (by decide);refine J57 H ?_
   have hrl:rs.length≤1000000:=by
    have h1:=Q3e (l₁:=rs) (l₂:=s1.rem.map (·.1)) (hris.imp fun h=>by
     rintro rfl
     rcases h with h|⟨_,h⟩ <;> omega) (fun r hr=>by
     have:=(hrs r).1 hr;exact List.mem_map.2 ⟨(r,((k:Nat):Int)),Q7d this,rfl⟩)
    rw[List.length_map] at h1;have:=Z2o hw1 (hC1.rk hI.rk);omega
   have hkn:k∉ks:=fun h=>by
    have h1:=hG.1;rw[hpre,List.pairwise_append] at h1;have:=h1.2.2 k h k List.mem_cons_self;omega
   replace H:=Js [2,2,2,2,2,1,1,1,1,1,0] 0 H;replace H:=G2u hw1 hm1 H;refine J7 H ?_;refine Q0t (Q1l (fun ms σ w z=>ms=[]∧∃ (i:Nat) (s2:CS) (D2:List Rf),i≤rs.length∧z=rs.length - i∧Z0q s D2 s2∧(∀ r,r∈D2↔r∈Dl∨(r∈rs.take i∧¬ ∃ k∈G,r.1=((k:Nat):Int)))∧σ 2=pp b2∧σ 9=pp b9∧σ 59 = .slice ar rs.length cr∧σ 60 = .int .i64 rs.length∧σ 61 = .int .i64 i∧Q0a w (V2c p q s2::sls 133 2 (.slice ar rs.length cr) (Q5z rs)::LB::BAG bg G::pts b9 (row 61 [pp bg])::pts b2 (row 44 [pp p])::rest)) (m:=rs.length) ⟨rfl,0,s1,Dl,by omega,rfl,hC1,(fun r=>by simp),rfl,rfl,rfl,rfl,rfl,H⟩ ?_);clear H hw1 hm1;rintro ms σ w z ⟨rfl,i,s2,D2,hi,rfl,hC2,hD2,g2,g9,g59,g60,g61,H⟩;rw[Q0b g2,Q0b g9,Q0b g59,Q0b g60,Q0b g61];refine J5 H ?_;refine Q2d rfl (fun h=>Q0w ?_) (fun h=>Q1n ?_)
   ·have hlt:i < rs.length:=by omega
    have hx:=List.getElem?_eq_getElem hlt;have htk:rs.take (i+1)=rs.take i++[rs[i]]:=by rw[List.take_add_one,hx];rfl
    have hmem:=(hrs _).1 (List.getElem_mem hlt);generalize rs[i]=rr at hx htk hmem;rw[hC1.rem] at hmem;split at hmem
    ·cases hmem
    rename_i hnD;obtain⟨kk,pl,g,e,a,b,f,rfl,hk,hpl,hrf,hlk,hlo,hfar,hka⟩:=(hI.rem _ _).1 hmem;have hk2:=hC2.tab kk _ hk;replace H:=Js [1,0] 0 H;obtain⟨bT,sT,rfl,H,hcl⟩:=Q0y H (by omega);refine J19 H ?_;refine Jd ?_;rw[show 0+((i:Nat):Int).toNat*2=0+i*2 by simp];refine Q0s rfl (Q1j H rfl (V6y hx) rfl ?_);refine J12 H ?_;clear H;intro b14 w H;refine J4 H ?_;clear H;intro w H;refine Q0h ?_;replace H:=hcl _ _ H.swap;replace H:=Js [4,0,0,0,0] 0 H;refine J50 H ?_;refine J45 H ?_;refine Jc rfl rfl (G1h bg G kk hG.1 (by omega) H) ?_;clear H;rintro v w ⟨rfl,H⟩;by_cases hkG:kk∈G
    ·rw[decide_eq_true hkG];refine J76 H ?_;replace H:=Js [3,1,2,0,1,1] 1 H;refine⟨_,⟨rfl,i+1,s2,D2,hlt,rfl,hC2,(fun r=>?_),rfl,rfl,rfl,rfl,Q2a (by omega),H⟩,by omega⟩;rw[hD2,htk];constructor
     ·rintro(h1|⟨h1,h2⟩)
      ·exact .inl h1
      ·exact .inr ⟨List.mem_append.2 (.inl h1),h2⟩
     ·rintro(h1|⟨h1,h2⟩)
      ·exact .inl h1
      ·rcases List.mem_append.1 h1 with h1|h1
       ·exact .inr ⟨h1,h2⟩
       ·rw[List.mem_singleton] at h1;subst h1;exact absurd ⟨kk,hkG,rfl⟩ h2
    ·rw[decide_eq_false hkG];refine J67 H ?_;replace H:=Js [3,0,0,0] 0 H;obtain⟨mem2,hw2,hm2,H⟩:=Y9h H;replace H:=Js [4,0,0,0,0] 0 H;refine J50 H ?_;refine J45 H ?_;refine Jc rfl rfl (Z2m p q s2.tab kk g (Q8s D2 kk e) hk2 H) ?_;clear H;rintro v w ⟨rfl,H⟩;refine J16 H ?_;clear H;intro b15 w H;refine J12 H ?_;clear H;intro b16 w H;refine J4 H ?_;clear H;intro w H;refine J4 H ?_;clear H;intro w H;refine Q0h ?_;have hI2:=V4q hw2 hm2 hk2;have hpl2:pl < (Q8s D2 kk e).ws.length:=by rw[Q8x];exact hpl
     have hrf2:Q2h (Q4d s2 (Q8s D2 kk e)) pl=true:=by rw[hC2.lay];exact hrf
     replace H:=Js [4,4,4,0,0,0,0] 0 H;refine J1 H ?_;clear H;intro w H;refine Jl 0 [] H ?_;refine J70 H ?_;refine Jl 3 [] H ?_;refine G8e H ?_;refine Jf 6 ?_;refine Jl 7 [] H ?_;refine Q5r 8 rfl (Q0n.none rfl) rfl (by kernel_rfl) ?_;have hTie:=Y7r q.ip q.sp q.bp s2.size s2.lays mem2 s2.own (Q8s D2 kk e).addr (Q8s D2 kk e).lay (Q8s D2 kk e).count kk (Q8s D2 kk e).ws.length (Q4d s2 (Q8s D2 kk e)) hI2 pl .grave trivial H;refine Jo 9 H ?_;refine Jk rfl rfl (hTie) ?_;clear H hTie;rintro v w ⟨rfl,H⟩;rw[Z8j hpl2 hrf2,if_pos rfl,Int.toNat_natCast] at H;refine Jx H ?_;replace H:=Js [7,0,0,0,0,0,0,0] 0 H;refine J1 H ?_;clear H;intro w H;refine Jl 0 [] H ?_;refine J70 H ?_;refine Jl 3 [] H ?_;refine Q1w 4 [] H rfl (Q0n.none rfl) rfl (by repeat first|exact .nil _|apply Q0o.cons rfl) (by kernel_rfl) ?_;refine Jo 5 H ?_;refine Jk rfl rfl (V1c q.rp s2.rem hC2.nd (((kk:Nat):Int),((pl:Nat):Int)) H) ?_;clear H;rintro v w ⟨rfl,H⟩;refine Jx H ?_;replace H:=Js [6,6,1,1,1,0,2,2,2,2,3,4,2,3,3] 3 H;replace H:=V9t (e':={ Q8s D2 kk e with ws:=(Q8s D2 kk e).ws.set pl 1 }) hk2 rfl H;replace H:=Js [1,1,1,1,0] 0 H;replace H:=G2u (s:=U5r s2 kk g pl (Q8s D2 kk e)) (U5s hw2 hk2) (G2v hw2 hm2 hk2 hpl2) H;refine J3 H ?_;refine⟨_,⟨rfl,i+1,U5r s2 kk g pl (Q8s D2 kk e),D2++[(((kk:Nat):Int),((pl:Nat):Int))],hlt,rfl,hC2.step hk,(fun r=>?_),rfl,rfl,rfl,rfl,Q2a (by omega),H⟩,by omega⟩;rw[List.mem_append,hD2,htk];constructor
     ·rintro((h1|⟨h1,h2⟩)|h1)
      ·exact .inl h1
      ·exact .inr ⟨List.mem_append.2 (.inl h1),h2⟩
      ·refine .inr ⟨List.mem_append.2 (.inr h1),?_⟩;rw[List.mem_singleton] at h1;subst h1;rintro⟨k',h3,h4⟩;have h4:((kk:Nat):Int)=((k':Nat):Int):=h4;obtain rfl:kk=k':=by omega
       exact hkG h3
     ·rintro(h1|⟨h1,h2⟩)
      ·exact .inl (.inl h1)
      ·rcases List.mem_append.1 h1 with h1|h1
       ·exact .inl (.inr ⟨h1,h2⟩)
       ·exact .inr h1
   ·have hge:i=rs.length:=by omega
    subst hge;rw[List.take_length] at hD2
    have hChr:U1k s G (ks++[k]) D2:=by
     intro r;rw[hD2,hrs,hC1.rem];constructor
     ·rintro(h0|⟨h1,h2⟩)
      ·obtain⟨⟨t,h1,h2⟩,h3⟩:=(hD1 r).1 h0;exact⟨⟨t,List.mem_append.2 (.inl h1),h2⟩,h3⟩
      ·split at h1
       ·cases h1
       ·exact⟨⟨k,by simp,h1⟩,h2⟩
     ·rintro⟨⟨t,h1,h2⟩,h3⟩
      rcases List.mem_append.1 h1 with h1|h1
      ·exact .inl ((hD1 r).2 ⟨⟨t,h1,h2⟩,h3⟩)
      ·rw[List.mem_singleton] at h1;subst h1;refine .inr ⟨?_,h3⟩;rw[if_neg]
       ·exact h2
       ·intro h4;obtain⟨⟨t',h5,h6⟩,_⟩:=(hD1 r).1 h4;rw[h2] at h6;injection h6 with h6
        obtain rfl:t=t':=by omega
        exact hkn h5
    subst hLB;replace H:=Js [2,0,1,1,1] 1 H;exact⟨rfl,_,H,fun w H=>⟨rfl,hin _ _ _ _ _ hC2 hChr H⟩⟩
  ·clear H;rintro v w H;obtain⟨s1,Dl,hC1,hD1,H⟩:=hout _ _ _ H;subst hL;refine⟨_,H,fun w H=>?_⟩;replace H:=Js [0,0,0,0,2,2,2] 2 H;exact⟨rfl,⟨D,s1,Dl,rfl,hC1,hD1,H⟩,rfl,rfl,rfl⟩
 clear H;rintro ms σ w ⟨⟨D,s1,Dl,rfl,hC1,hD1,H⟩,g2,g7,g9⟩;rw[Q0b g2,Q0b g7,Q0b g9];have hLnd:=hL1;clear hL1;replace H:=Js [1,1,0] 0 H;refine J50 H ?_;refine Jc rfl rfl (V4s bg G (by omega) H) ?_;clear H;rintro v w ⟨bv2,av2,cv2,rfl,H⟩;refine Q0h ?_;replace H:=Js [5,5,0,0,1,1,1,1] 1 H;refine J7 H ?_;refine Q1m (fun ms σ w=>(∃ (D2:Nat) (s2:CS),ms=[D2,D]∧Y0t s1 G s2∧Y0g s2∧Q0a w (V2c p q s2::pts b2 (row 44 [pp p])::pts D2 (.deferred (some []))::pts D (.deferred (some []))::IL (.slice aL L.length cL) L::TRE q.trp s.last (L.foldl era s.par)::fr))∧σ 2=pp b2∧σ 7 = .slice aL L.length cL) ?_ ?_
 ·refine Q0t (Q5a (a:=[]) (b:=[pp bv2]) H rfl (fun yl D2 w H=>?_));generalize hL:LR _ yl _ _ _ _ D2 .ready=LRR at H ⊢;obtain⟨J,hJ⟩:∃ J:List Nat→Q0e,J=fun ks=>ex fun x:CS=>star [prop (Y0t s1 ks x∧Y0g x),LRR,V2c p q x,pts b2 (row 44 [pp p])]:=⟨_,rfl⟩
  have hin:∀ (ks:List Nat) (s2:CS) (w:World) (l':List Q0e),Y0t s1 ks s2→Y0g s2→Q0a w (LRR::V2c p q s2::pts b2 (row 44 [pp p])::l')→Q0a w (J ks::l'):=by
   intro ks s2 w l' h1 h2 H;rw[hJ];exact Q0a.ex.2 ⟨s2,Q0a.star.2 (Q0a.prop.2 ⟨⟨h1,h2⟩,H⟩)⟩
  have hout:∀ (ks:List Nat) (w:World) (l':List Q0e),Q0a w (J ks::l')→∃ s2,Y0t s1 ks s2∧Y0g s2∧Q0a w (LRR::V2c p q s2::pts b2 (row 44 [pp p])::l'):=by
   intro ks w l' H;rw[hJ] at H;obtain⟨s2,H⟩:=Q0a.ex.1 H;obtain⟨⟨h1,h2⟩,H⟩:=Q0a.prop.1 (Q0a.star.1 H);exact⟨s2,h1,h2,H⟩
  replace H:=Js [0,6,1,2,2,0,0,1,1] 1 H;replace H:=hin [] s1 _ _ (Y0t.start hC1.nd) (hC1.rk hI.rk) H;refine call (Y5t yl bv2 av2 cv2 G (by omega) J ?_ H) ?_
  ·clear H;intro ks k tt rest w hpre H;obtain⟨s2,hN,hR2,H⟩:=hout _ _ _ H;subst hL;have hkG:k∈G:=by rw[hpre];simp
   have hkn:k∉ks:=fun h=>by
    have h1:=hG.1;rw[hpre,List.pairwise_append] at h1;have:=h1.2.2 k h k List.mem_cons_self;omega
   obtain⟨g,e,hk,_⟩:=(hG.2 k).1 hkG;have hk1:=hC1.tab k _ hk;have hk2:=hN.tab k _ hk1;rw[if_neg hkn] at hk2;refine Q7o (args:=[.int .i64 k]) H rfl rfl ?_;refine J14 H ?_;refine⟨rfl,_,H,fun w H=>Q0t ?_⟩;generalize hLB:LR _ yl _ _ _ _ D2 .busy=LB at H ⊢;replace H:=Js [1,0] 0 H;refine J81 H ?_;refine Jc rfl rfl (U5q p q s2 (by rw[hN.par,hC1.par];exact hT.nd) k g (Q8s Dl k e) hk2 (hgen k g e hk) hR2 H) ?_;clear H;rintro v w ⟨rfl,s3,hL3',H⟩;refine Q0h ?_;subst hLB;replace H:=Js [1,0,0] 0 H;exact⟨rfl,_,H,fun w H=>⟨rfl,hin _ _ _ _ (hN.step hk1 hL3') (hL3'.rk hR2) H⟩⟩
  ·clear H;rintro v w H;obtain⟨s2,hN,hR2,H⟩:=hout _ _ _ H;subst hL;refine⟨_,H,fun w H=>?_⟩;replace H:=Js [0,0,2,2,2,2] 2 H;exact⟨rfl,⟨D2,s2,rfl,hN,hR2,H⟩,rfl,rfl⟩
 clear H;rintro ms σ w ⟨⟨D2,s2,rfl,hN,hR2,H⟩,g2,g7⟩;rw[Q0b g2,Q0b g7]
 have hno:∀ x∈L,∀ (k g:Nat) (e:Ent),s2.tab[k]? = some ⟨g,some e⟩→e.region≠x:=by
  intro x hx k g e hk hr
  have hlt:k < s1.tab.length:=by
   have:=(List.getElem?_eq_some_iff.1 hk).1;rw[hN.tabl] at this;exact this
  have hlt':k < s.tab.length:=by rw[hC1.tabl] at hlt;exact hlt
  have h1:=hC1.tab k _ (List.getElem?_eq_getElem hlt');have h2:=hN.tab k _ h1;rw[hk] at h2;split at h2
  ·injection h2 with h2
   injection h2 with _ h2
   cases h2
  ·rename_i hkG;injection h2 with h2
   injection h2 with h3 h4
   cases he:(s.tab[k]).ent with
   | none=>rw[he] at h4;cases h4
   | some e0=>
    rw[he] at h4;injection h4 with h4
    refine hkG ((hG.2 k).2 ⟨(s.tab[k]).gen,e0,?_,?_⟩)
    ·rw[List.getElem?_eq_getElem hlt',← he]
    ·have h5:e.region=e0.region:=by rw[h4];rfl
     rw[← h5,hr];exact hx
 have hpar2:s2.par=s.par:=hN.par.trans hC1.par;refine J20 H ?_;refine U2n H ?_;refine Q1m (fun ms σ w=>ms=[D2,D]∧∃ s3:CS,G6z s2 L s3∧σ 2=pp b2∧σ 7 = .slice aL L.length cL∧Q0a w (V2c p q s3::pts b2 (row 44 [pp p])::pts D2 (.deferred (some []))::pts D (.deferred (some []))::IL (.slice aL L.length cL) L::TRE q.trp s.last (L.foldl era s.par)::fr)) ?_ ?_
 ·refine Q0t ?_;refine Q1l (fun ms σ w z=>ms=[D2,D]∧∃ (i:Nat) (s3:CS),i≤L.length∧z=L.length - i∧G6z s2 (L.take i) s3∧σ 2=pp b2∧σ 7 = .slice aL L.length cL∧σ 100 = .slice aL L.length cL∧σ 101 = .int .i64 L.length∧σ 102 = .int .i64 i∧Q0a w (V2c p q s3::pts b2 (row 44 [pp p])::pts D2 (.deferred (some []))::pts D (.deferred (some []))::IL (.slice aL L.length cL) L::TRE q.trp s.last (L.foldl era s.par)::fr)) (m:=L.length) ⟨rfl,0,s2,by omega,rfl,G6z.start s2,rfl,rfl,rfl,rfl,rfl,H⟩ ?_;clear H;rintro ms σ w z ⟨rfl,i,s3,hi,rfl,hE,g2,g7,g100,g101,g102,H⟩;rw[Q0b g2,Q0b g7,Q0b g100,Q0b g101,Q0b g102];refine J5 H ?_;refine Q2d rfl (fun h=>Q0w ?_) (fun h=>Q1n ?_)
  ·have hlt:i < L.length:=by omega
   have hx:=List.getElem?_eq_getElem hlt;have htk:L.take (i+1)=L.take i++[L[i]]:=by rw[List.take_add_one,hx];rfl
   have hnt:L[i]∉L.take i:=fun hh=>by
    obtain⟨j,hj⟩:=List.getElem?_of_mem hh;rw[List.getElem?_take] at hj;split at hj
    ·rename_i hji;obtain⟨hj1,hj2⟩:=List.getElem?_eq_some_iff.1 hj;exact(List.pairwise_iff_getElem.1 hLnd) j i hj1 hlt hji hj2
    ·cases hj
   have hxL:=List.getElem_mem hlt;have hxm:=hLm _ hxL;generalize L[i]=x at hx htk hnt hxm hxL;replace H:=Js [4,0,0,0,0] 0 H;obtain⟨bT,sT,rfl,H,hcl⟩:=Q0y H (by omega);refine J19 H ?_;refine Jd ?_;refine Q0s rfl (Q0l H rfl (by simpa using Q3w hx) rfl ?_);refine J0 H ?_;replace H:=hcl _ _ H;replace H:=Js [1,0] 0 H;obtain⟨mem3,hw3,hm3,H⟩:=Y9h H;have hnd3:(s3.par.map (·.1)).Nodup:=by rw[hE.par];exact Q6e _ (by rw[hpar2];exact hT.nd)
   have hxp:x∈s3.par.map (·.1):=by
    rw[hE.par];refine V4v hnt ?_;rw[hpar2,← hw.mkeys];exact hxm
   obtain⟨b0,hkS⟩:=Q8c (l:=s3.sps) (f:=fun x=>x.1) (g:=fun x=>x.2.1) (k:=x) (by rw[hw3.skeys];exact hxp);obtain⟨⟨r1,b0',SP⟩,p1,p2,hsps,hs1,hs2⟩:=Q6r hkS;obtain rfl:r1=x:=hs1;obtain rfl:b0'=b0:=hs2;obtain⟨b1,hkM⟩:=Q8c (l:=s3.mns) (f:=fun x=>x.1) (g:=fun x=>x.2.1) (k:=r1) (by rw[hw3.mkeys];exact hxp);obtain⟨⟨r2,b1',M⟩,m1,m2,hmns,hs3,hs4⟩:=Q6r hkM;obtain rfl:r2=r1:=hs3;obtain rfl:b1'=b1:=hs4;have hkS':fnd (s3.sps.map Q4q) r2=some b0':=hkS;have hSx:(r2,b0',SP)∈s3.sps:=by rw[hsps];simp
   obtain⟨hp1,hp2,hp3,hp4,hp5,hp6⟩:=V6h hw3 hSx;replace H:=Js [11,0,7,7,3,6,6,0,0,0,0,0,0] 0 H;replace H:=Js [1,0,6,6,2,5,6,0,0,0,0,0,0] 0 H;refine J83 H ?_;refine Q0s rfl (Q3m (key:=r2) H rfl rfl tkI rfl ?_);rw[hkS'];replace H:=Js [6,3,0,0,0,0,0,0,0,0,0,0,0] 0 H;replace H:Q0a w (SPC b0' q.sp r2.toNat SP::star ((p1++p2).map (Q4r q.sp))::_):=(Q0a.pick (R:=Q4r q.sp) (x:=(r2,b0',SP)) hsps).1 H;replace H:=Js [0,1,0] 0 H;refine Jc rfl rfl (Y0h b0' q.sp r2.toNat SP s3.size mem3 s3.own hp2 hp4 hp5 hp1 hp3 hw3.own.2 hw3.size.2 hp6 H) ?_;clear H;rintro v w ⟨rfl,own',hol,hog,H⟩;refine Q0h ?_;replace H:=Js [8,0,0,0,0,0,0,0,0] 0 H;replace H:Q0a w (BAG b1' M::star ((m1++m2).map Q4a)::_):=(Q0a.pick (R:=Q4a) (x:=(r2,b1',M)) hmns).1 H;replace H:=H.drop;replace H:=Js [4,3,0,0,0,0,0,0,0,0,0,0,0] 0 H;refine J83 H ?_;refine Q0s rfl (Q5w (key:=r2) H rfl rfl tkI rfl ?_);clear H;intro w H;refine Q0h ?_;refine J83 H ?_;refine Q0s rfl (Q5w (key:=r2) H rfl rfl tkI rfl ?_);clear H;intro w H;refine J62 H ?_
   have hkeyS:era (s3.sps.map Q4q) r2=(p1++p2).map Q4q:=by
    have h1:=hnd3;rw[← hw3.skeys,hsps] at h1;rw[hsps,List.map_append,List.map_cons,List.map_append];exact V2r (p:=(r2,b0')) (by rw[List.map_append,List.map_cons] at h1 ⊢;rw[List.map_map,List.map_map];exact h1)
   have hkeyM:era (s3.mns.map Q3p) r2=(m1++m2).map Q3p:=by
    have h1:=hnd3;rw[← hw3.mkeys,hmns] at h1;rw[hmns,List.map_append,List.map_cons,List.map_append];exact V2r (p:=(r2,b1')) (by rw[List.map_append,List.map_cons] at h1 ⊢;rw[List.map_map,List.map_map];exact h1)
   rw[hkeyS,hkeyM] at H;replace H:=Js [1,10,4,2,3,3,6,2,2,1,0,1,1,0] 0 H;have hwE:=U5t hw3 hnd3 (fun k g e hk=>hno r2 hxL k g e (by rw[← hE.tab];exact hk)) hsps hmns (own':=own') ⟨hol,hog⟩;have hmE:=G2w (s':={ s3 with own:=own',par:=era s3.par r2,sps:=p1++p2,mns:=m1++m2 }) hm3 hol rfl rfl;replace H:=G2u hwE hmE H
   exact⟨_,⟨rfl,i+1,{ s3 with own:=own',par:=era s3.par r2,sps:=p1++p2,mns:=m1++m2 },hlt,rfl,by rw[htk];exact hE.step r2 hol _ _ (hog:=G3q hog (hw3.spc _ hSx).owned) (fun y hy hn=>by
    rw[hsps] at hy
    rcases List.mem_append.1 hy with h1|h1
    ·exact List.mem_append.2 (.inl h1)
    ·rcases List.mem_cons.1 h1 with h1|h1
     ·exact absurd (by rw[h1]) hn
     ·exact List.mem_append.2 (.inr h1)),rfl,rfl,rfl,rfl,Q2a (by omega),H⟩,by omega⟩
  ·have hge:i=L.length:=by omega
   subst hge;rw[List.take_length] at hE;exact⟨rfl,rfl,s3,hE,rfl,rfl,H⟩
 clear H;rintro ms σ w ⟨rfl,s3,hE,g2,g7,H⟩;rw[Q0b g2,Q0b g7];refine J11 H ?_;replace H:=Js [2,2,0,2,1] 1 H;have hpar3:s3.par=L.foldl era s.par:=by rw[hE.par,hpar2]
 have hlast3:s3.last=s.last:=by rw[hE.last,hN.last,hC1.last]
 rw[← hpar3,← hlast3] at H;exact Q0g (G5i (ms:=[D2,D]) _ (.inr rfl) (Q0a.star.2 H) (fun w' H' => .tmp (.tmp .nil)) fun w' H'=>⟨_,L,s3,rfl,hLnd,hL2,hL3,hL4,⟨G,Dl,s1,s2,hG,hC1,hD1,hN,hE⟩,(U5p H').swap⟩)
end Go.Proofs.YtmjdnljneifpcaaGreatDoor
namespace Go.Proofs.YtmjdnljneifpcaaGreatDoor
open Go.SL
def V3g (objs:List Mob) (k t:Nat):Bool:=k == 2 && ((objs[t]?).map Mob.gone).getD false
def Q6m (objs:List Mob) (x:Mob):Mob:={ x with kind:=(x.kind.zip x.to).map (fun y=>if V3g objs y.1 y.2=true then 1 else y.1),to:=(x.kind.zip x.to).map (fun y=>if V3g objs y.1 y.2=true then 0 else y.2) }
def Q2c (L:List Nat) (x:Mob):Mob:=if x.region∈L then { x with gone:=true } else x
def Y1u (m:MS) (L:List Nat):MS:={ m with P:=Q5f m.P L,objs:=(m.objs.map (Q2c L)).map (Q6m (m.objs.map (Q2c L))) }
theorem Y0u {objs:List Mob} {x:Mob} (h:x.kind.length=x.to.length) {p:Nat} (hp:p < x.kind.length):(Q6m objs x).kind.getD p 0=(if V3g objs (x.kind.getD p 0) (x.to.getD p 0)=true then 1 else x.kind.getD p 0)∧(Q6m objs x).to.getD p 0=(if V3g objs (x.kind.getD p 0) (x.to.getD p 0)=true then 0 else x.to.getD p 0):=by
 have h1:=List.getElem?_eq_getElem hp;have h2:=List.getElem?_eq_getElem (show p < x.to.length by omega);have hz:(x.kind.zip x.to)[p]? = some (x.kind[p],x.to[p]'(by omega)):=List.getElem?_zip_eq_some.2 ⟨h1,h2⟩;unfold Q6m;simp only[List.getD_eq_getElem?_getD,List.getElem?_map,hz,h1,h2,Option.map_some,Option.getD_some];exact⟨trivial,trivial⟩
theorem V6m {L:List Nat} {x:Mob}:(Q2c L x).gone=true↔x.gone=true∨x.region∈L:=by
 unfold Q2c;by_cases h:x.region∈L
 ·rw[if_pos h];exact⟨fun _ => .inr h,fun _=>rfl⟩
 ·rw[if_neg h];exact⟨.inl,fun h1=>h1.elim id fun h2=>absurd h2 h⟩
theorem Z8t (L:List Nat) (x:Mob):(Q2c L x).region=x.region∧(Q2c L x).lay=x.lay∧(Q2c L x).count=x.count∧(Q2c L x).held=x.held∧(Q2c L x).pinned=x.pinned∧(Q2c L x).w=x.w∧(Q2c L x).kind=x.kind∧(Q2c L x).to=x.to:=by
 unfold Q2c;split <;> exact⟨rfl,rfl,rfl,rfl,rfl,rfl,rfl,rfl⟩
theorem Y6a {m:MS} {L:List Nat} {o:Nat} {x':Mob} (h:(Y1u m L).objs[o]? = some x'):∃ x,m.objs[o]? = some x∧x'=Q6m (m.objs.map (Q2c L)) (Q2c L x):=by
 have h:((m.objs.map (Q2c L)).map (Q6m (m.objs.map (Q2c L))))[o]? = some x':=h;rw[List.getElem?_map,List.getElem?_map] at h;cases hx:m.objs[o]? with
 | none=>rw[hx] at h;cases h
 | some x=>
  rw[hx] at h;injection h with h
  exact⟨x,rfl,h.symm⟩
theorem Y6b {m:MS} {L:List Nat} {k t:Nat}:V3g (m.objs.map (Q2c L)) k t=true↔k=2∧∃ x,m.objs[t]? = some x∧(x.gone=true∨x.region∈L):=by
 unfold V3g;rw[Bool.and_eq_true,beq_iff_eq,List.getElem?_map];refine and_congr_right fun _=>?_;cases hx:m.objs[t]? with
 | none=>exact⟨fun h=>(by cases h),fun ⟨x,h,_⟩=>(by cases h)⟩
 | some x=>
  show (Q2c L x).gone=true↔_;rw[V6m];exact⟨fun h=>⟨x,rfl,h⟩,fun ⟨y,h1,h2⟩=>(by injection h1 with h1;subst h1;exact h2)⟩
theorem G7c {m:MS} (h:MWF m) (L:List Nat):MWF (Y1u m L):=by
 refine⟨?_,h.lays,fun x' hx'=>?_,?_⟩
 ·show 1≤(Q5f m.P L).length∧(Q5f m.P L).length≤_;unfold Q5f;rw[List.length_mapIdx];exact h.P
 ·obtain⟨o,ho⟩:=List.getElem?_of_mem hx';obtain⟨x,hx,rfl⟩:=Y6a ho;obtain⟨a,b,c,d,e⟩:=h.objs x (List.mem_of_getElem? hx);obtain⟨s1,s2,s3,s4,s5,s6,s7,s8⟩:=Z8t L x;have hl:(Y1u m L).objs.length=m.objs.length:=by show (((m.objs.map (Q2c L)).map (Q6m _))).length=_;rw[List.length_map,List.length_map]
  refine⟨?_,?_,?_,?_,fun p hp=>?_⟩
  ·show ∃ l,m.lays[(Q2c L x).lay - 1]? = some l∧Q2y l∧Q3q l (Q2c L x).count=((Q2c L x).w.length,0);rw[s2,s3,s6];exact a
  ·show 1≤(Q2c L x).lay;rw[s2];exact b
  ·show (List.map _ ((Q2c L x).kind.zip (Q2c L x).to)).length=(Q2c L x).w.length;rw[List.length_map,List.length_zip,s6,s7,s8,c,d,Nat.min_self]
  ·show (List.map _ ((Q2c L x).kind.zip (Q2c L x).to)).length=(Q2c L x).w.length;rw[List.length_map,List.length_zip,s6,s7,s8,c,d,Nat.min_self]
  ·rw[hl]
   have hp':p < (Q2c L x).kind.length:=by
    have:=(List.getElem?_eq_some_iff.1 hp).1
    have h2:(Q6m (m.objs.map (Q2c L)) (Q2c L x)).kind.length=(Q2c L x).kind.length:=by
     show (List.map _ ((Q2c L x).kind.zip (Q2c L x).to)).length=_;rw[List.length_map,List.length_zip,s7,s8,c,d,Nat.min_self]
    omega
   obtain⟨g1,g2⟩:=Y0u (objs:=m.objs.map (Q2c L)) (x:=Q2c L x) (by rw[s7,s8,c,d]) hp';rw[g2];have hp2:(Q6m (m.objs.map (Q2c L)) (Q2c L x)).kind.getD p 0=2:=by rw[List.getD_eq_getElem?_getD,hp];rfl
   rw[g1] at hp2;split at hp2
   ·cases hp2
   ·rename_i hh;rw[if_neg hh,s8];rw[s7] at hp2 hp';refine e p ?_;rw[List.getElem?_eq_getElem hp'];rw[List.getD_eq_getElem?_getD,List.getElem?_eq_getElem hp'] at hp2;rw[← hp2];rfl
 ·show ((m.objs.map (Q2c L)).map (Q6m _)).length≤_;rw[List.length_map,List.length_map];exact h.few
theorem Z0a (P:List Int) (L:List Nat) (k:Nat):(Q5f P L)[k]? = (P[k]?).map fun q=>if k∈L then -1 else q:=by
 unfold Q5f;rw[List.getElem?_mapIdx]
theorem Q7n:∀ (ks:List Int) {m:List (Int×Int)},(m.map (·.1)).Nodup→∀ r,fnd (ks.foldl era m) r=if r∈ks then none else fnd m r
 | [],m,h,r=>by rw[if_neg (by simp)];rfl
 | k::ks,m,h,r=>by
  show fnd (ks.foldl era (era m k)) r=_;rw[Q7n ks (Q4y h),Q9a h];by_cases h1:r∈ks
  ·rw[if_pos h1,if_pos (List.mem_cons_of_mem _ h1)]
  ·rw[if_neg h1];by_cases h2:k=r
   ·subst h2;rw[if_pos rfl,if_pos List.mem_cons_self]
   ·rw[if_neg h2,if_neg];intro h3
    rcases List.mem_cons.1 h3 with h3|h3
    ·exact h2 h3.symm
    ·exact h1 h3
structure Y0v (s:CS) (L:List Int) (G:List Nat) (D:List Rf) (s':CS):Prop where
 size:s'.size=s.size
 own:s'.own.length=s.own.length
 lays:s'.lays=s.lays
 last:s'.last=s.last
 par:s'.par=L.foldl era s.par
 tabl:s'.tab.length=s.tab.length
 tab:∀ (k:Nat) (t:Slt),s.tab[k]? = some t→s'.tab[k]? = some (if k∈G then ⟨t.gen,none⟩ else ⟨t.gen,t.ent.map (Q8s D k)⟩)
 nd:(s'.rem.map (·.1)).Nodup
 rem:∀ r,fnd s'.rem r=if ∃ k∈G,r.1=((k:Nat):Int) then none else if r∈D then none else fnd s.rem r
 gone:G4q s L G
 cut:U1k s G G D
 part:Q3n s→Q3n s'
 owns:∀ j,s'.own.getD j 0=if ((s.own.getD j 0:Nat):Int)∈L then 0 else s.own.getD j 0
theorem G7b.t {s s':CS} {L:List Int} (h:G7b s L s'):∃ G D,Y0v s L G D s':=by
 obtain⟨G,Dl,s1,s2,hG,hC,hD,hN,hE⟩:=h;refine⟨G,Dl,by rw[hE.size,hN.size,hC.size],by rw[hE.own,hN.own,hC.own],by rw[hE.lays,hN.lays,hC.lays],by rw[hE.last,hN.last,hC.last],by rw[hE.par,hN.par,hC.par],by rw[hE.tab,hN.tabl,hC.tabl],fun k t hk=>?_,by rw[hE.rem];exact hN.nd,fun r=>by rw[hE.rem,hN.rem,hC.rem],hG,hD,fun hP k g e' hk=>?_,fun j=>by rw[hE.owns,hN.own,hC.own]⟩
 ·rw[hE.tab,hN.tab k _ (hC.tab k t hk)]
 ·have hlt:k < s.tab.length:=by
   have:=(List.getElem?_eq_some_iff.1 hk).1;rw[hE.tab,hN.tabl,hC.tabl] at this;exact this
  have h1:=List.getElem?_eq_getElem hlt;generalize s.tab[k]=t at h1;rw[hE.tab,hN.tab k _ (hC.tab k t h1)] at hk;split at hk
  ·injection hk with hk
   injection hk with _ hk
   cases hk
  ·rename_i hkG;injection hk with hk
   injection hk with hg he
   obtain⟨tg,te⟩:=t;cases te with
   | none=>cases he
   | some e=>
    injection he with he
    subst he;have hreg:e.region∉L:=fun h=>hkG ((hG.2 k).2 ⟨tg,e,h1,h⟩);obtain⟨x,hx,hx1,y,hy,hy1⟩:=hP k tg e h1;have hsz:s'.size=s.size:=by rw[hE.size,hN.size,hC.size]
    refine⟨x,hE.sps x (by rw[hN.sps,hC.sps];exact hx) (by rw[hx1];exact hreg),hx1,y,hy,?_⟩;rw[hsz];exact hy1.alike rfl (Q8x _ _ _)
theorem Y0v.from {s s':CS} {L:List Int} {G:List Nat} {D:List Rf} (h:Y0v s L G D s') {k g:Nat} {e':Ent} (hk:s'.tab[k]? = some ⟨g,some e'⟩):k∉G∧∃ e,s.tab[k]? = some ⟨g,some e⟩∧e'=Q8s D k e:=by
 have hlt:k < s.tab.length:=by
  have:=(List.getElem?_eq_some_iff.1 hk).1;rw[h.tabl] at this;exact this
 have h1:=List.getElem?_eq_getElem hlt;generalize s.tab[k]=t at h1;have h2:=h.tab k t h1;rw[hk] at h2;obtain⟨g0,e0⟩:=t;split at h2
 ·injection h2 with h2
  injection h2 with _ h2
  cases h2
 ·rename_i hG;injection h2 with h2
  injection h2 with h3 h4
  subst h3;cases e0 with
  | none=>cases h4
  | some e=>
   injection h4 with h4
   exact⟨hG,e,h1,h4⟩
theorem Y6c {D:List Rf} {k:Nat} {e:Ent} {p:Nat} (hp:p < e.ws.length):(Q8s D k e).ws.getD p 0=if ((k:Int),(p:Int))∈D then 1 else e.ws.getD p 0:=by
 rw[List.getD_eq_getElem?_getD,Y5v,List.getD_eq_getElem?_getD,List.getElem?_eq_getElem hp];rfl
theorem G3r {D:List Rf} {k:Nat} {e:Ent} {p:Nat} (hp:p < e.ws.length) {a b:Nat} (h:lkE (Q8s D k e) p = .obj a b):((k:Int),(p:Int))∉D∧lkE e p = .obj a b:=by
 unfold lkE at h ⊢;rw[Y6c hp] at h;split at h
 ·cases h
 ·rename_i h1;exact⟨h1,h⟩
theorem Z8u {ts:List Slt} {a b:Nat} {f:Ent} (h:ts[a]? = some ⟨b,some f⟩):Q2o ts a b=some (a,f):=Q1k.2 ⟨b,rfl,rfl,h⟩
theorem Y0v.cutIff {s s':CS} {L:List Int} {G:List Nat} {D:List Rf} (h:Y0v s L G D s') (hI:Inv s) {k g p:Nat} {e:Ent} (hk:s.tab[k]? = some ⟨g,some e⟩) (hG:k∉G) (hp:p < e.ws.length):((k:Int),(p:Int))∈D↔Q2h (Q4d s e) p=true∧∃ (a b:Nat) (f:Ent),lkE e p = .obj a b∧s.tab[a]? = some ⟨b,some f⟩∧f.region∈L:=by
 rw[h.cut];constructor
 ·rintro⟨⟨t,ht,hr⟩,_⟩;obtain⟨k',p',g',e',a,b,f,h1,h2,h3,h4,h5,h6,h7,h8⟩:=(hI.rem _ _).1 hr;injection h1 with h1 h9
  obtain rfl:k=k':=by omega
  obtain rfl:p=p':=by omega
  rw[hk] at h2;injection h2 with h2
  injection h2 with h2 h2'
  subst h2;injection h2' with h2'
  subst h2';obtain⟨_,h10⟩:=Q3f h6;obtain rfl:t=a:=by omega
  obtain⟨g2,f2,h11,h12⟩:=(h.gone.2 t).1 ht;rw[h10] at h11;injection h11 with h11
  injection h11 with _ h11
  injection h11 with h11
  subst h11;exact⟨h4,t,b,f,h5,h10,h12⟩
 ·rintro⟨h4,a,b,f,h5,h6,h7⟩;refine⟨⟨a,(h.gone.2 a).2 ⟨b,f,h6,h7⟩,(hI.rem _ _).2 ⟨k,p,g,e,a,b,f,rfl,hk,hp,h4,h5,Z8u h6,fun h8=>?_,rfl⟩⟩,?_⟩
  ·exact hG ((h.gone.2 k).2 ⟨g,e,hk,by rw[← h8];exact h7⟩)
  ·rintro⟨k',h9,h10⟩;have h10:((k:Nat):Int)=((k':Nat):Int):=h10;obtain rfl:k=k':=by omega
   exact hG h9
theorem Y0v.lay {s s':CS} {L:List Int} {G:List Nat} {D:List Rf} (h:Y0v s L G D s') (k:Nat) (e:Ent):Q4d s' (Q8s D k e)=Q4d s e:=by
 unfold Q4d;rw[h.lays];rfl
theorem Y0v.at {s s':CS} {L:List Int} {G:List Nat} {D:List Rf} (h:Y0v s L G D s') {k g:Nat} {e:Ent} (hk:s.tab[k]? = some ⟨g,some e⟩) (hG:k∉G):s'.tab[k]? = some ⟨g,some (Q8s D k e)⟩:=by
 rw[h.tab k _ hk,if_neg hG];rfl
theorem G7d {s s':CS} {L:List Int} {G:List Nat} {D:List Rf} (h:Y0v s L G D s') (hI:Inv s):Inv s':=by
 refine⟨h.nd,fun r t=>?_,fun k g e' p a b hk hp hr hl=>?_⟩
 ·rw[h.rem];constructor
  ·intro hr;split at hr
   ·cases hr
   ·rename_i hn;split at hr
    ·cases hr
    ·rename_i hD;obtain⟨k,p,g,e,a,b,f,rfl,hk,hp,hrf,hl,hlo,hfar,rfl⟩:=(hI.rem _ _).1 hr;have hkG:k∉G:=fun h1=>hn ⟨k,h1,rfl⟩;obtain⟨_,ha⟩:=Q3f hlo;have haG:a∉G:=fun h1=>hD ((h.cut _).2 ⟨⟨a,h1,hr⟩,fun ⟨k',h2,h3⟩=>hn ⟨k',h2,h3⟩⟩);refine⟨k,p,g,Q8s D k e,a,b,Q8s D a f,rfl,h.at hk hkG,by rw[Q8x];exact hp,by rw[h.lay];exact hrf,?_,Z8u (h.at ha haG),hfar,rfl⟩;unfold lkE;rw[Y6c hp,if_neg hD];exact hl
  ·rintro⟨k,p,g,e',a,b,f',rfl,hk,hp,hrf,hl,hlo,hfar,rfl⟩;obtain⟨hkG,e,hk0,rfl⟩:=h.from hk;rw[Q8x] at hp;obtain⟨hD,hl0⟩:=G3r hp hl;obtain⟨_,ha⟩:=Q3f hlo;obtain⟨haG,f,ha0,rfl⟩:=h.from ha;rw[h.lay] at hrf
   rw[if_neg (by
    rintro⟨k',h1,h2⟩;have h2:((k:Nat):Int)=((k':Nat):Int):=h2;obtain rfl:k=k':=by omega
    exact hkG h1),if_neg hD]
   exact(hI.rem _ _).2 ⟨k,p,g,e,a,b,f,rfl,hk0,hp,hrf,hl0,Z8u ha0,hfar,rfl⟩
 ·obtain⟨hkG,e,hk0,rfl⟩:=h.from hk;rw[Q8x] at hp;obtain⟨hD,hl0⟩:=G3r hp hl;rw[h.lay] at hr;obtain⟨f,hf⟩:=hI.link k g e p a b hk0 hp hr hl0;obtain⟨_,ha⟩:=Q3f hf
  have haG:a∉G:=fun h1=>hD ((h.cutIff hI hk0 hkG hp).2 ⟨hr,a,b,f,hl0,ha,by
   obtain⟨g2,f2,h11,h12⟩:=(h.gone.2 a).1 h1;rw[ha] at h11;injection h11 with h11
   injection h11 with _ h11
   injection h11 with h11
   subst h11;exact h12⟩)
  exact⟨_,Z8u (h.at ha haG)⟩
theorem Z3b {par:List (Int×Int)} {L:List Int} (h:Q5d par) {region:Int} (hL:∀ c,c∈L↔Y3k par region c):Q5d (L.foldl era par):=by
 refine⟨Q6e L h.nd,fun r q hr=>?_⟩;rw[Q7n L h.nd] at hr;split at hr
 ·cases hr
 ·rename_i hn;obtain⟨h1,h2,h3⟩:=h.up r q hr;refine⟨h1,h2,h3.imp id fun h4=>?_⟩;rw[Q7n L h.nd,if_neg]
  ·exact h4
  ·intro h5;exact hn ((hL r).2 (.kid ((hL q).1 h5) hr))
theorem Z5r {s s':CS} {m:MS} {told:List (Nat×Nat)} (R:Rel s m told) (hm:MWF m) (hI:Inv s) {L:List Nat} {G:List Nat} {D:List Rf} (h:Y0v s (L.map fun k:Nat=>(k:Int)) G D s'):Rel s' (Y1u m L) told:=by
  have hLi:∀ k:Nat,((k:Nat):Int)∈L.map (fun k:Nat=>(k:Int))↔k∈L:=fun k=>by
    rw[List.mem_map]
    exact ⟨fun ⟨j, h1, h2⟩ => (by have : j = k := by omega
                                  rw[← this];exact h1),fun h1=>⟨k,h1,rfl⟩⟩
  have hlo:(Y1u m L).objs.length=m.objs.length:=by show (((m.objs.map (Q2c L)).map (Q6m _))).length=_;rw[List.length_map,List.length_map]
  have hnd':(s'.par.map (·.1)).Nodup:=by rw[h.par];exact Q6e _ R.nd
  refine⟨by rw[hlo];exact R.len,by rw[h.lays];exact R.lays,fun r q=>?_,hnd',?_,?_,?_,?_,?_,R.nodup⟩
  · rw[← Q3r hnd',h.par,Q7n _ R.nd];constructor
    · intro hr;split at hr
      · cases hr
      · rename_i hn;obtain⟨k,rfl,h1,h2,h3⟩:=(R.tree r q).1 ((Q3r R.nd).1 hr);refine⟨k,rfl,h1,?_,h3⟩;show (Q5f m.P L)[k]? = some q;rw[Z0a,h2];show some (if k∈L then -1 else q)=some q;rw[if_neg (fun h4=>hn ((hLi k).2 h4))]
    · rintro⟨k,rfl,h1,h2,h3⟩;have h2:(Q5f m.P L)[k]? = some q:=h2;rw[Z0a] at h2;cases hP:m.P[k]? with
      | none=>rw[hP] at h2;cases h2
      | some q0=>
        rw[hP] at h2;injection h2 with h2
        have h2:(if k∈L then (-1:Int) else q0)=q:=h2;by_cases hk:k∈L
        · rw[if_pos hk] at h2;omega
        · rw[if_neg hk] at h2;subst h2;rw[if_neg (fun h4=>hk ((hLi k).1 h4))];exact(Q3r R.nd).2 ((R.tree _ _).2 ⟨k,rfl,h1,hP,h3⟩)
  · rw[h.last];show s.last+1=(Q5f m.P L).length;unfold Q5f;rw[List.length_mapIdx];exact R.last
  · intro o x' k g hx' ht hg;obtain⟨x,hx,rfl⟩:=Y6a hx'
    have hg2:¬ ((Q2c L x).gone=true):=by
      intro h1;have hg:(Q2c L x).gone=false:=hg;rw[h1] at hg;cases hg
    rw[V6m] at hg2
    have hxg:x.gone=false:=by
      cases hh:x.gone with
      | false=>rfl
      | true=>exact absurd (.inl hh) hg2
    have hxr:x.region∉L:=fun h1=>hg2 (.inr h1);obtain⟨e,hk,hl⟩:=R.obj o x k g hx ht hxg;have hgm:Q2c L x=x:=by unfold Q2c;rw[if_neg hxr]
    rw[hgm]
    have hkG:k∉G:=fun h1=>by
      obtain⟨g2,f2,h11,h12⟩:=(h.gone.2 k).1 h1;rw[hk] at h11;injection h11 with h11
      injection h11 with _ h11
      injection h11 with h11
      subst h11;rw[hl.region] at h12;exact hxr ((hLi _).1 h12)
    obtain⟨hml,hm1,hkd,hto,hgo⟩:=hm.objs x (List.mem_of_getElem? hx);refine⟨Q8s D k e,h.at hk hkG,⟨hl.region,hl.lay,hl.count,hl.held,hl.pinned,by rw[Q8x];exact hl.len,fun p hp hr=>?_,fun p hp hr=>?_,fun p hp hne=>?_⟩⟩
    · have hp:p < x.w.length:=hp;have hpe:p < e.ws.length:=by rw[hl.len];exact hp
      have hr:Q2h (Z7q m.lays x.lay) p=true:=hr;have hre:Q2h (Q4d s e) p=true:=by rw[Q8d R.w hl];exact hr
      obtain⟨g1,g2⟩:=Y0u (objs:=m.objs.map (Q2c L)) (x:=x) (by rw[hkd,hto]) (p:=p) (by rw[hkd];exact hp);rw[g1,g2,Y6c hpe];have hlk:=hl.ref p hp hr;by_cases hD:((k:Int),(p:Int))∈D
      · rw[if_pos hD];obtain⟨_,a,b,f,h5,h6,h7⟩:=(h.cutIff hI hk hkG hpe).1 hD;have h5:Q9d (e.ws.getD p 0) = .obj a b:=h5;rw[hlk] at h5;unfold V8d at h5;split at h5
        · rename_i h2;cases hta:told[x.to.getD p 0]? with
          | none=>rw[hta] at h5;cases h5
          | some y=>
            obtain⟨a',b'⟩:=y;rw[hta] at h5;injection h5 with h8 h9
            subst h8 h9;have hol:x.to.getD p 0 < m.objs.length:=by rw[← R.len];exact(List.getElem?_eq_some_iff.1 hta).1
            have hy:=List.getElem?_eq_getElem hol;generalize m.objs[x.to.getD p 0]=y at hy
            have hyg:y.gone=false:=by
              cases hh:y.gone with
              | false=>rfl
              | true=>exact absurd h6 (R.gone _ y _ _ hy hta hh f)
            obtain⟨f',h10,h11⟩:=R.obj _ y _ _ hy hta hyg;rw[h6] at h10;injection h10 with h10
            injection h10 with _ h10
            injection h10 with h10
            subst h10;have hit:V3g (m.objs.map (Q2c L)) (x.kind.getD p 0) (x.to.getD p 0)=true:=Y6b.2 ⟨h2,y,hy,.inr (by rw[h11.region] at h7;exact(hLi _).1 h7)⟩;rw[if_pos hit,if_pos hit];rfl
        · split at h5 <;> cases h5
      · rw[if_neg hD]
        have hnh:¬ (V3g (m.objs.map (Q2c L)) (x.kind.getD p 0) (x.to.getD p 0)=true):=by
          intro hh;obtain⟨h2,y,hy,h3⟩:=Y6b.1 hh;have hol:=(List.getElem?_eq_some_iff.1 hy).1;rw[← R.len] at hol;have hta:=List.getElem?_eq_getElem hol;generalize told[x.to.getD p 0]=ab at hta;obtain⟨a,b⟩:=ab
          have h5:lkE e p = .obj a b:=by
            unfold lkE;rw[hlk];unfold V8d;rw[if_pos h2,hta];rfl
          obtain⟨f,hf⟩:=hI.link k g e p a b hk hpe hre h5;obtain⟨_,ha⟩:=Q3f hf
          have hyg:y.gone=false:=by
            cases hh:y.gone with
            | false=>rfl
            | true=>exact absurd ha (R.gone _ y _ _ hy hta hh f)
          rcases h3 with h3|h3
          · rw[hyg] at h3;cases h3
          · obtain⟨f',h10,h11⟩:=R.obj _ y _ _ hy hta hyg;rw[ha] at h10;injection h10 with h10
            injection h10 with _ h10
            injection h10 with h10
            subst h10;exact hD ((h.cutIff hI hk hkG hpe).2 ⟨hre,a,b,f,h5,ha,by rw[h11.region];exact(hLi _).2 h3⟩)
        rw[if_neg hnh,if_neg hnh];exact hlk
    · have hp:p < x.w.length:=hp;have hpe:p < e.ws.length:=by rw[hl.len];exact hp
      have hr:Q2h (Z7q m.lays x.lay) p=false:=hr;rw[Y6c hpe,if_neg]
      · exact hl.word p hp hr
      · intro hD;have h1:=((h.cutIff hI hk hkG hpe).1 hD).1;rw[Q8d R.w hl] at h1;have h1:Q2h (Z7q m.lays x.lay) p=true:=h1;rw[hr] at h1;cases h1
    · have hp:p < x.w.length:=hp;obtain⟨g1,g2⟩:=Y0u (objs:=m.objs.map (Q2c L)) (x:=x) (by rw[hkd,hto]) (p:=p) (by rw[hkd];exact hp);show Q2h (Z7q m.lays x.lay) p=true∧_;rw[g1] at hne ⊢;split at hne
      · rename_i hh;rw[if_pos hh];obtain⟨h2,_⟩:=Y6b.1 hh;exact⟨(hl.kind p hp (by rw[h2];decide)).1,by decide⟩
      · rename_i hh;rw[if_neg hh];exact hl.kind p hp hne
  · intro o x' k g hx' ht hg e' hk';obtain⟨x,hx,rfl⟩:=Y6a hx';obtain⟨hkG,e,hk,rfl⟩:=h.from hk';have hg:(Q2c L x).gone=true:=hg
    rcases V6m.1 hg with h1|h1
    · exact R.gone o x k g hx ht h1 e hk
    · cases hh:x.gone with
      | true=>exact R.gone o x k g hx ht hh e hk
      | false=>
        obtain⟨e2,h2,h3⟩:=R.obj o x k g hx ht hh;rw[hk] at h2;injection h2 with h2
        injection h2 with _ h2
        injection h2 with h2
        subst h2;exact hkG ((h.gone.2 k).2 ⟨g,e,hk,by rw[h3.region];exact(hLi _).2 h1⟩)
  · intro k g e' hk';obtain⟨_,e,hk,_⟩:=h.from hk';exact R.used k g e hk
  · intro o k g ht;obtain⟨t,h1,h2⟩:=R.gens o k g ht;refine⟨_,h.tab k t h1,?_⟩;split <;> exact h2
end Go.Proofs.YtmjdnljneifpcaaGreatDoor
namespace Go.Proofs.YtmjdnljneifpcaaGreatDoor
open Go.SL
theorem Y6d {s:CS} {m:MS} {told:List (Nat×Nat)} (R:Rel s m told) (hT:Q5d s.par):Z2w m.P:=by
 intro i q h1 h2;by_cases h3:0≤q
 ·exact(hT.up _ _ ((Q3r hT.nd).2 ((R.tree _ _).2 ⟨i,rfl,h1,h2,h3⟩))).2.1
 ·omega
theorem Y0w {par:List (Int×Int)} (hT:Q5d par) {r:Int} (h:(fnd par r).isSome=true):1≤r:=by
 cases hf:fnd par r with
 | none=>rw[hf] at h;cases h
 | some q=>
  have:=hT.up r q hf;omega
theorem V6n {s:CS} {m:MS} {told:List (Nat×Nat)} (R:Rel s m told) (hT:Q5d s.par) {id:Int} (hid:(fnd s.par id).isSome=true):∀ (n c:Nat),c≤n→(fnd s.par c).isSome=true→(Q6z m.P id c=true↔Y3k s.par id c)
 | 0,c,h1,h2=>by
  have:=Y0w hT h2;omega
 | n+1,c,h1,h2=>by
  have hO:=Y6d R hT;have hc1:=Y0w hT h2;cases hf:fnd s.par (c:Int) with
  | none=>rw[hf] at h2;cases h2
  | some q=>
   obtain⟨k,k1,k2,k3,k4⟩:=(R.tree _ _).1 ((Q3r hT.nd).1 hf);obtain rfl:c=k:=by omega
   have hcl:=(List.getElem?_eq_some_iff.1 k3).1;obtain⟨q1,q2,q3⟩:=hT.up _ _ hf;rw[Y0o hO (by omega) (by omega),Int.toNat_natCast,List.getD_eq_getElem?_getD,k3];show (if (c:Int)=id then true else Q6z m.P id q)=true↔_;by_cases h3:(c:Int)=id
   ·rw[if_pos h3,h3];exact⟨fun _ => .self,fun _=>rfl⟩
   ·rw[if_neg h3]
    rcases q3 with rfl|q3
    ·rw[Y3u _ _ (Int.le_refl _)];refine⟨fun h=>(by cases h),fun h=>?_⟩
     rcases h.inv with h4|⟨k,h4,h5⟩
     ·exact absurd h4 h3
     ·rw[hf] at h4;injection h4 with h4
      subst h4;have h6:=h5.live hid;have:=Y0w hT h6;omega
    ·obtain⟨d,rfl⟩:∃ d:Nat,q=d:=⟨q.toNat,by omega⟩;rw[V6n R hT hid n d (by omega) q3];constructor
     ·intro h;exact .kid h hf
     ·intro h
      rcases h.inv with h4|⟨k,h4,h5⟩
      ·exact absurd h4 h3
      ·rw[hf] at h4;injection h4 with h4
       subst h4;exact h5
theorem G3s {s:CS} {m:MS} {told:List (Nat×Nat)} (R:Rel s m told) (hT:Q5d s.par) {id:Int} (hid:(fnd s.par id).isSome=true) {L:List Int} (h1:L.Nodup) (h2:L.Pairwise (·≤·)) (h3:∀ c,c∈L↔Y3k s.par id c):L=(Q7a m.P id).map fun k:Nat=>(k:Int):=by
 have hmem:∀ c:Nat,c∈Q7a m.P id↔Y3k s.par id c:=fun c=>by
  unfold Q7a;rw[Y3v];constructor
  ·rintro⟨a,⟨b1,b2⟩,d⟩;have hk:m.P[c]? = some (m.P.getD c 0):=by rw[List.getD_eq_getElem?_getD,List.getElem?_eq_getElem a];rfl
   have hl:(fnd s.par (c:Int)).isSome=true:=by
    rw[(Q3r hT.nd).2 ((R.tree _ _).2 ⟨c,rfl,b1,hk,b2⟩)];rfl
   exact(V6n R hT hid c c (Nat.le_refl _) hl).1 d
  ·intro h;have hl:=h.live hid;cases hf:fnd s.par (c:Int) with
   | none=>rw[hf] at hl;cases hl
   | some q=>
    obtain⟨k,k1,k2,k3,k4⟩:=(R.tree _ _).1 ((Q3r hT.nd).1 hf);obtain rfl:c=k:=by omega
    refine⟨(List.getElem?_eq_some_iff.1 k3).1,⟨k2,?_⟩,(V6n R hT hid c c (Nat.le_refl _) hl).2 h⟩;rw[List.getD_eq_getElem?_getD,k3];exact k4
 have hs1:L.Pairwise (· < ·):=by
  have:=h2.and h1;exact this.imp fun h=>by omega
 have hs2:((Q7a m.P id).map fun k:Nat=>(k:Int)).Pairwise (· < ·):=by
  rw[List.pairwise_map];have:(Q7a m.P id).Pairwise (· < ·):=List.Pairwise.filter _ List.pairwise_lt_range;exact this.imp fun h=>by omega
 have key:∀ {a b:List Int},a.Pairwise (· < ·)→b.Pairwise (· < ·)→(∀ x,x∈a↔x∈b)→a=b:=by
  intro a
  induction a with
  | nil=>
   intro b _ _ h;cases b with
   | nil=>rfl
   | cons y b=>exact absurd ((h y).2 List.mem_cons_self) (by simp)
  | cons x a ih=>
   intro b ha hb h;cases b with
   | nil=>exact absurd ((h x).1 List.mem_cons_self) (by simp)
   | cons y b=>
    rw[List.pairwise_cons] at ha hb
    have hxy:x=y:=by
     rcases List.mem_cons.1 ((h x).1 List.mem_cons_self) with h4|h4
     ·exact h4
     ·rcases List.mem_cons.1 ((h y).2 List.mem_cons_self) with h5|h5
      ·exact h5.symm
      ·have:=hb.1 x h4;have:=ha.1 y h5;omega
    subst hxy;rw[ih ha.2 hb.2 fun z=>?_];constructor
    ·intro hz
     rcases List.mem_cons.1 ((h z).1 (List.mem_cons_of_mem _ hz)) with h4|h4
     ·have:=ha.1 z hz;omega
     ·exact h4
    ·intro hz
     rcases List.mem_cons.1 ((h z).2 (List.mem_cons_of_mem _ hz)) with h4|h4
     ·have:=hb.1 z hz;omega
     ·exact h4
 refine key hs1 hs2 fun c=>?_;rw[h3,List.mem_map];constructor
 ·intro h;have:=Y0w hT (h.live hid);refine⟨c.toNat,(hmem _).2 ?_,by omega⟩;rw[show ((c.toNat:Nat):Int)=c by omega];exact h
 ·rintro⟨k,k1,rfl⟩;exact(hmem k).1 k1
end Go.Proofs.YtmjdnljneifpcaaGreatDoor
namespace Go.Proofs.YtmjdnljneifpcaaGreatDoor
open Go.SL
theorem G3t [Q0i] (a:Option Addr) (c n:Nat) (L:List Int) (x:Int) (hn:n≤L.length) (hl:L.length≤1000000) {w:World} {fr:List Q0e} (H:Q0a w (IL (.slice a L.length c) L::fr)) :
  Calls Tryz.prog 176 #[.slice a n c,.int .i64 x] w (ret fun v w'=>v = .bool (decide (x∈L.take n))∧Q0a w' (IL (.slice a L.length c) L::fr)):=by
 refine Q0c Tryz.func176 rfl (by kernel_rfl) ?_;refine U8y H ?_;refine Q1l (fun ms σ w z=>ms=[]∧∃ i:Nat,i≤n∧z=n - i∧x∉L.take i∧σ 0 = .slice a n c∧σ 1 = .int .i64 x∧σ 5 = .int .i64 i∧Q0a w (IL (.slice a L.length c) L::fr)) (m:=n) ⟨rfl,0,by omega,by omega,by simp,rfl,rfl,rfl,H⟩ ?_;clear H;rintro ms σ w z ⟨rfl,i,hi,rfl,hno,g0,g1,g5,H⟩;rw[Q0b g0,Q0b g1,Q0b g5];refine J93 H ?_;refine Q2d rfl (fun h=>Q0w ?_) (fun h=>Q1n ?_)
 ·have hlt:i < n:=by omega
  have hil:i < L.length:=by omega
  have hy:=List.getElem?_eq_getElem hil;have htk:L.take (i+1)=L.take i++[L[i]]:=by rw[List.take_add_one,hy];rfl
  generalize L[i]=y at hy htk;obtain⟨b,s,rfl,H,hcl⟩:=Q0y H (by omega);refine J90 H ?_;refine Jd ?_;refine Q0s rfl (Q0l H rfl (by simpa using Q3w hy) rfl ?_);replace H:=hcl _ _ H;by_cases hxy:y=x
  ·first|refine Jv ?_|refine V8p rfl rfl ?_
   refine Jv ?_;rw[show (y == x)=true by rw[hxy];exact beq_self_eq_true x];refine Q0h ?_;refine J21 H ?_;have hm:x∈L.take n:=List.mem_of_getElem? (i:=i) (by rw[List.getElem?_take_of_lt hlt,hy,hxy]);rw[decide_eq_true hm];exact Q0g (Jy H rfl fun w' H'=>⟨rfl,H'⟩)
  ·first|refine Jv ?_|refine V8p rfl rfl ?_
   refine Jv ?_;rw[show (y == x)=false by rw[beq_eq_false_iff_ne];exact hxy];refine U2p H ?_;refine J11 H ?_;refine⟨_,⟨rfl,i+1,hlt,rfl,?_,rfl,rfl,Q2a (by omega),H⟩,by omega⟩;rw[htk,List.mem_append,List.mem_singleton];rintro(h1|h1)
   ·exact hno h1
   ·exact hxy h1.symm
 ·obtain rfl:i=n:=by omega
  rw[decide_eq_false hno];refine J14 H ?_;exact Q0g (Jy H rfl fun w' H'=>⟨rfl,H'⟩)
def Q7y (id q:Nat) (os:List Mob) (i:Nat):List Mob:=os.mapIdx fun k x=>if k < i then Q7t id q x else x
theorem Q8k (id q:Nat) (os:List Mob) (i k:Nat):(Q7y id q os i)[k]? = (os[k]?).map fun x=>if k < i then Q7t id q x else x:=List.getElem?_mapIdx
theorem V6o (id q:Nat) (os:List Mob) (i:Nat):(Q7y id q os i).length=os.length:=List.length_mapIdx
theorem Z3c (id q:Nat) (os:List Mob):Q7y id q os 0=os:=by
 apply List.ext_getElem?;intro k;rw[Q8k];cases os[k]? <;> simp
theorem Z3d {id q:Nat} {os:List Mob} {i:Nat} {x:Mob} (h:os[i]? = some x):(Q7y id q os i).set i (Q7t id q x)=Q7y id q os (i+1):=by
 have hil:=(List.getElem?_eq_some_iff.1 h).1;apply List.ext_getElem?;intro k;rw[List.getElem?_set,Q8k,Q8k,V6o];by_cases hk:i=k
 ·subst hk;rw[if_pos rfl,if_pos hil,h];simp only[Option.map_some];rw[if_pos (by omega)]
 ·rw[if_neg hk];have:k < i+1↔k < i:=by omega
  simp only[this]
theorem Z8v (id q:Nat) (os:List Mob):Q7y id q os os.length=os.map (Q7t id q):=by
 apply List.ext_getElem?;intro k;rw[Q8k,List.getElem?_map];cases h:os[k]? with
 | none=>rfl
 | some x=>
  have:=(List.getElem?_eq_some_iff.1 h).1;simp only[Option.map_some];rw[if_pos this]
theorem Y3y {m:MS} (h:MWF m) (id q i:Nat):MWF { m with P:=Q5p m.P id q,objs:=Q7y id q m.objs i }:=by
 refine Y0r h (.inl (by show (Q5p m.P id q).length=_;unfold Q5p;rw[List.length_mapIdx])) rfl (V6o _ _ _ _) fun o x' hx'=>?_;have hx':(Q7y id q m.objs i)[o]? = some x':=hx';rw[Q8k] at hx';cases hx:m.objs[o]? with
 | none=>rw[hx] at hx';cases hx'
 | some x=>
  rw[hx] at hx';injection hx' with hx'
  refine⟨x,rfl,?_⟩;rw[← hx'];split
  ·exact Y0q id q x
  ·rfl
theorem V7f [Q0i] (p:Nat) (m:MS) (id:Nat) (q:Int) (hid:1≤id) (hq:m.P[id]? = some q) (hq0:0≤q) {w:World} {fr:List Q0e} (H:Q0a w (Q2p p m::fr)) :
  Calls Tryz.prog 102 #[pp p,.int .i64 id] w (ret fun v w'=>(q=0∧v = .tuple #[.int .i64 0,.int .i64 16]∧Q0a w' (Q2p p m::fr))∨(q≠0∧v = .tuple #[.int .i64 q,.int .i64 0]∧Q0a w' (Q2p p (Z5q m id q.toNat)::fr))):=by
 obtain⟨t,lc,oc,aL,cL,aO,cO,hm,h2,h3,hl1,hl2,H⟩:=Q2t H;have hidl:=(List.getElem?_eq_some_iff.1 hq).1;have hgd:m.P.getD id 0=q:=by rw[List.getD_eq_getElem?_getD,hq];rfl
 have hlv:Q5k m.P (id:Int)=true:=decide_eq_true ⟨by omega,by omega,by rw[Int.toNat_natCast,hgd];exact hq0⟩;have hP:=hm.P;have hfew:=hm.few;refine Q0c Tryz.func102 rfl (by kernel_rfl) ?_;refine U4w H ?_;replace H:=Js [1,0] 0 H;refine Jc rfl rfl (Q7f t m.P id H) ?_;clear H;rintro v w ⟨rfl,H⟩;rw[hlv];refine J23 H ?_;refine J10 H ?_;refine Jc rfl rfl (Z3a t m.P id q hid hq hq0 hP.1 (by omega) H) ?_;clear H;rintro w0 w (⟨hz,rfl,H⟩|⟨hz,rfl,H⟩)
 ·refine U4d H ?_;refine U7q H ?_;exact Q0g (Jy (Q2v hm h2 h3 H.swap) rfl fun w' H' => .inl ⟨hz,rfl,H'⟩)
 obtain⟨qn,rfl⟩:∃ qn:Nat,q=qn:=⟨q.toNat,by omega⟩;rw[Int.toNat_natCast] at H ⊢;refine J38 H ?_;have hm1:=Y3y hm id qn 0;replace H:=Q2v (m:={ m with P:=Q5p m.P id qn,objs:=Q7y id qn m.objs 0 }) hm1 h2 (by rw[Z3c];exact h3) H.swap;refine J5 H ?_;refine Q1m (fun ms σ w=>ms=[]∧σ 7 = .int .i64 qn∧Q0a w (Q2p p (Z5q m id qn)::fr)) ?_ ?_
 ·refine Q0t ?_;refine Q1l (fun ms σ w z=>ms=[]∧∃ i:Nat,i≤m.objs.length∧z=m.objs.length - i∧σ 0=pp p∧σ 1 = .int .i64 id∧σ 7 = .int .i64 qn∧σ 9 = .int .i64 i∧Q0a w (Q2p p { m with P:=Q5p m.P id qn,objs:=Q7y id qn m.objs i }::fr)) (m:=m.objs.length) ⟨rfl,0,by omega,by omega,rfl,rfl,rfl,rfl,H⟩ ?_;clear H;rintro ms σ w z ⟨rfl,i,hi,rfl,g0,g1,g7,g9,H⟩;rw[Q0b g0,Q0b g1,Q0b g7,Q0b g9];have hml:=V6o id qn m.objs i;by_cases hlt:i < m.objs.length
  ·have hx:=List.getElem?_eq_getElem hlt;generalize m.objs[i]=x at hx
   have hxi:({ m with P:=Q5p m.P id qn,objs:=Q7y id qn m.objs i }:MS).objs[i]? = some x:=by
    show (Q7y id qn m.objs i)[i]? = _;rw[Q8k,hx];simp
   obtain⟨t,lc,aL,cL,bO,cO,s,ptrs,qq,vw,vk,vt,rest,hmm,h2,hp,H,hclose⟩:=Q4i H hxi;dsimp only at H hclose;rw[hml] at H hclose;refine J78 H ?_;refine Q2d rfl (fun h=>Q0w ?_) (fun h=>absurd (show ((i:Nat):Int) < ((m.objs.length:Nat):Int) by omega) h);refine G9z H ?_;refine Jd ?_;refine Q0s rfl (Q0l H rfl hp rfl ?_);refine Jv ?_;refine U7b H ?_;have hset:Q7y id qn m.objs (i+1)=(Q7y id qn m.objs i).set i (Q7t id qn x):=(Z3d hx).symm;have hw':MWF { m with P:=Q5p m.P id qn,objs:=(Q7y id qn m.objs i).set i (Q7t id qn x) }:=by rw[← hset];exact Y3y hm id qn (i+1)
   by_cases hr:x.region=id
   ·rw[show (((x.region:Nat):Int) == ((id:Nat):Int))=true by rw[hr];exact beq_self_eq_true _];refine Q0h ?_;refine J13 H ?_;refine J10 H ?_;refine Jd ?_;refine Q0s rfl (Q0l H rfl hp rfl ?_);refine J26 H ?_;refine J56 H ?_;clear H;intro w H;refine Q0h ?_;have hxx:Q7t id qn x={ x with region:=qn }:=by unfold Q7t;rw[if_pos hr]
    rw[hxx] at hset hw';replace H:Q0a w (pts qq (Z7b vw vk vt { x with region:=qn })::_):=H;replace H:=hclose _ _ _ hw' H;rw[← hset] at H;refine J11 H ?_;exact⟨_,⟨rfl,i+1,hlt,rfl,rfl,rfl,rfl,Q2a (by omega),H⟩,by omega⟩
   ·rw[show (((x.region:Nat):Int) == ((id:Nat):Int))=false by rw[beq_eq_false_iff_ne];omega];refine U2p H ?_;have hxx:Q7t id qn x=x:=by unfold Q7t;rw[if_neg hr]
    rw[hxx] at hset hw';replace H:=hclose _ _ _ hw' H;rw[← hset] at H;refine J11 H ?_;exact⟨_,⟨rfl,i+1,hlt,rfl,rfl,rfl,rfl,Q2a (by omega),H⟩,by omega⟩
  ·obtain rfl:i=m.objs.length:=by omega
   obtain⟨t,lc,oc,aL,cL,aO,cO,hmm,h2,h3,hl1,hl2,H⟩:=Q2t H;dsimp only at H;rw[hml] at H;refine J78 H ?_;refine Q2d rfl (fun h=>absurd (show ((m.objs.length:Nat):Int) < ((m.objs.length:Nat):Int) from h) (by omega)) (fun h=>Q1n ?_);rw[← hml] at H;replace H:=Q2v (m:={ m with P:=Q5p m.P id qn,objs:=Q7y id qn m.objs m.objs.length }) hmm h2 h3 H;rw[Z8v] at H;exact⟨rfl,rfl,rfl,H⟩
 clear H;rintro ms σ w ⟨rfl,g7,H⟩;rw[Q0b g7];refine J11 H ?_;exact Q0g (Jy H rfl fun w' H' => .inr ⟨hz,rfl,H'⟩)
end Go.Proofs.YtmjdnljneifpcaaGreatDoor
namespace Go.Proofs.YtmjdnljneifpcaaGreatDoor
open Go.SL
def Q9t (n:Nat) (os:List Nat) (objs:List Mob):List Mob:=objs.mapIdx fun o x=>if o∈os then { x with region:=n } else x
theorem Q9u (n:Nat) (os:List Nat) (objs:List Mob) (k:Nat):(Q9t n os objs)[k]? = (objs[k]?).map fun x=>if k∈os then { x with region:=n } else x:=List.getElem?_mapIdx
theorem Z8w (n:Nat) (os:List Nat) (objs:List Mob):(Q9t n os objs).length=objs.length:=List.length_mapIdx
theorem Z8x (n:Nat) (objs:List Mob):Q9t n [] objs=objs:=by
 apply List.ext_getElem?;intro k;rw[Q9u];cases objs[k]? <;> simp
theorem Z3e {n:Nat} {os:List Nat} {objs:List Mob} {o:Nat} {x:Mob} (h:(Q9t n os objs)[o]? = some x):(Q9t n os objs).set o { x with region:=n }=Q9t n (os++[o]) objs:=by
 apply List.ext_getElem?;intro k;have hol:=(List.getElem?_eq_some_iff.1 h).1;rw[List.getElem?_set];by_cases hk:o=k
 ·subst hk;rw[if_pos rfl,if_pos hol,Q9u];rw[Q9u] at h;cases hx:objs[o]? with
  | none=>rw[hx] at h;cases h
  | some y=>
   rw[hx] at h;injection h with h
   subst h;show some _=some (if o∈os++[o] then { y with region:=n } else y);rw[if_pos (show o∈os++[o] by simp)];congr 1;show ({ (if o∈os then { y with region:=n } else y:Mob) with region:=n }:Mob)=_;split <;> rfl
 ·rw[if_neg hk,Q9u,Q9u]
  have:k∈os++[o]↔k∈os:=by
   rw[List.mem_append,List.mem_singleton];exact⟨fun h=>h.elim id fun h=>absurd h.symm hk,.inl⟩
  simp only[this]
theorem Y3z {m:MS} (h:MWF m) (hP:m.P.length < 100000) (r:Nat) (os:List Nat):MWF { m with P:=m.P++[(r:Int)],objs:=Q9t m.P.length os m.objs }:=G3l h hP r os
theorem Z0b [Q0i] (p:Nat) (m:MS) (r:Nat) (os:List Nat) (al:Option Addr) (cl:Nat) (hd:Y1e m.P (r:Int)=0) (hPl:m.P.length < 100000) (hos:∀ o∈os,o < m.objs.length) (hl:os.length≤64) {w:World} {fr:List Q0e} (H:Q0a w (Q2p p m::NL (.slice al os.length cl) os::fr)) :
  Calls Tryz.prog 104 #[pp p,.int .i64 r,.slice al os.length cl] w (ret fun v w'=>v = .int .i64 m.P.length∧Q0a w' (Q2p p (Y0s m r os)::NL (.slice al os.length cl) os::fr)):=by
 obtain⟨t,lc,oc,aL,cL,aO,cO,hm,h2,h3,hl1,hl2,H⟩:=Q2t H;have hP:=hm.P;have hfew:=hm.few;refine Q0c Tryz.func104 rfl (by kernel_rfl) ?_;refine J14 H ?_;refine J10 H ?_;replace H:=Js [1,0] 0 H;refine Jc rfl rfl (Y7y t m.P (r:Int) hP.2 hP.1 H) ?_;clear H;rintro w0 w (⟨hz,rfl,H⟩|⟨hz,rfl,H⟩)
 ·exact absurd hd hz
 refine J32 H ?_;have hm1:=Y3z hm hPl r [];replace H:=Q2v (m:={ m with P:=m.P++[(r:Int)],objs:=Q9t m.P.length [] m.objs }) hm1 h2 (by rw[Z8x];exact h3) H.swap;refine J5 H ?_;refine Q1m (fun ms σ w=>ms=[]∧σ 7 = .int .i64 m.P.length∧Q0a w (Q2p p (Y0s m r os)::NL (.slice al os.length cl) os::fr)) ?_ ?_
 ·refine Q0t ?_;refine Q1l (fun ms σ w z=>ms=[]∧∃ i:Nat,i≤os.length∧z=os.length - i∧σ 0=pp p∧σ 2 = .slice al os.length cl∧σ 7 = .int .i64 m.P.length∧σ 9 = .int .i64 i∧Q0a w (Q2p p { m with P:=m.P++[(r:Int)],objs:=Q9t m.P.length (os.take i) m.objs }::NL (.slice al os.length cl) os::fr)) (m:=os.length) ⟨rfl,0,by omega,by omega,rfl,rfl,rfl,rfl,H⟩ ?_;clear H;rintro ms σ w z ⟨rfl,i,hi,rfl,g0,g2,g7,g9,H⟩;rw[Q0b g0,Q0b g2,Q0b g7,Q0b g9];refine J93 H ?_;refine Q2d rfl (fun h=>Q0w ?_) (fun h=>Q1n ?_)
  ·have hlt:i < os.length:=by omega
   have hy:=List.getElem?_eq_getElem hlt;have hyo:=hos _ (List.mem_of_getElem? hy);have htk:os.take (i+1)=os.take i++[os[i]]:=by rw[List.take_add_one,hy];rfl
   generalize os[i]=o at hy htk hyo;obtain⟨bl,sl,rfl,H,hcl⟩:=Q0y H.swap (by omega);have hml:=Z8w m.P.length (os.take i) m.objs;have hx:=List.getElem?_eq_getElem (show o < (Q9t m.P.length (os.take i) m.objs).length by omega);generalize (Q9t m.P.length (os.take i) m.objs)[o]=x at hx;have hset:=Z3e hx;rw[← htk] at hset;have hxi:({ m with P:=m.P++[(r:Int)],objs:=Q9t m.P.length (os.take i) m.objs }:MS).objs[o]? = some x:=hx;obtain⟨t,lc,aL,cL,bO,cO,s,ptrs,qq,vw,vk,vt,rest,hmm,h2,hp,H,hclose⟩:=Q4i H.swap hxi;dsimp only at H hclose;rw[hml] at H hclose;have hw':MWF { m with P:=m.P++[(r:Int)],objs:=(Q9t m.P.length (os.take i) m.objs).set o { x with region:=m.P.length } }:=by rw[hset];exact Y3z hm hPl r _
   refine U4u H ?_;clear H;intro w H;refine J27 H ?_;refine Jl 3 [13] H ?_;refine J54 H ?_;refine Ji 6 ?_;refine Q2b 7 [13] H rfl (Q0n.none rfl) rfl (by simpa using Q2r hy) (by kernel_rfl) ?_
   refine Ji 8 ?_;refine Q2b 9 [13] H rfl (Q0n.none rfl) rfl (by simpa using hp) (by kernel_rfl) ?_;refine U8m H ?_;refine Jo 13 H ?_;refine J55 H ?_;clear H;intro w H;refine Jx H ?_;replace H:Q0a w (pts qq (Z7b vw vk vt { x with region:=m.P.length })::_):=H;replace H:=hclose _ _ _ hw' H;rw[hset] at H;replace H:=hcl _ _ H.swap;refine J11 H ?_;exact⟨_,⟨rfl,i+1,hlt,rfl,rfl,rfl,rfl,Q2a (by omega),H.swap⟩,by omega⟩
  ·obtain rfl:i=os.length:=by omega
   rw[List.take_length] at H;exact⟨rfl,rfl,rfl,H⟩
 clear H;rintro ms σ w ⟨rfl,g7,H⟩;rw[Q0b g7];refine J3 H ?_;exact Q0g (Jy H rfl fun w' H'=>⟨rfl,H'⟩)
end Go.Proofs.YtmjdnljneifpcaaGreatDoor
namespace Go.SL
section
variable {P:Program} {n:Nat} {r:Option Nat} {ops:Array Oper} {Q:V3f} {ms:List Nat} {σ:Env} {w:World} {rest:List Oper} {o:Oper} {K:Env→World→Prop} {l l':List Q0e}
variable {ivs:List (List Nat×(World→Prop))} {T:Env→World→Prop} {f:Nat} {L:Array Bool}
variable {u t s:TypeId} {p:String} {af:Array Edge} {g:Option (Nat×Bool)} {d:Option Tmp} {x y z:Operand}
theorem Z0c {e size bytes b o2 len cap i:Nat} {q:IntKind} (hT:Q2m P t e size bytes) (h1:i≤cap) :
  (Instr.sliceAt t (.slice (some ⟨b,o2,none⟩) len cap) none (some (.int q (i:Int))) none).run P w = .ok (.slice (some ⟨b,o2,none⟩) i cap) w:=by
 have hs:(sizeOf e).run P w = .ok size w:=by
  obtain⟨k,hk,e2⟩:=Option.map_eq_some_iff.1 hT.info;simp only[Prod.mk.injEq] at e2;exact Q2j (by rw[hk];simp[e2.1])
 have b1:(0:Int)≤i∧(i:Int)≤cap:=by omega
 simp[Instr.sliceAt,Instr.slice,Q2g hT.und,Instr.sliceBounds,Instr.sliceBound,asIntOf,h1,hs,Q3k]
theorem Z8y {e size bytes b o2 len cap i:Nat} {q:IntKind} (m:Nat) (hm:ops[m]? = some ⟨d,.slice t x none (some y) none,u,p,af,g⟩) (hg:Q0n ops σ ⟨d,.slice t x none (some y) none,u,p,af,g⟩ true) [hT:Q2m P t e size bytes] (hx:ev σ x = .slice (some ⟨b,o2,none⟩) len cap) (hy:ev σ y = .int q (i:Int)) (h1:i≤cap)
  (hb:stB n ops (ivs.map (·.1)) L m []=true) (k:Any P n r ops ivs T f (L.setIfInBounds m true) (put σ d (.slice (some ⟨b,o2,none⟩) i cap)) w):Any P n r ops ivs T (f+1) L σ w:=
 V3k m hm hg (fun c e=>by cases e) (fun w=>by simp only[execOp,hx,hy,Option.map_some,Option.map_none,Sem.run_bind,Z0c hT h1,Result.andThen_ok,Sem.run_pure]) hb k
end
end Go.SL
namespace Go.Proofs.YtmjdnljneifpcaaGreatDoor
open Go.SL
theorem V8g {m:MS} {r:Int} {os:List Int} {e:Nat} (h1:Q5k m.P r=true) (h2:os.length≤64) (h3:Y9x m r [] os=e) (h4:e≠0):Z0r m r os=e:=by
 unfold Z0r;rw[h1,if_neg (by decide),if_neg (by omega),h3,if_pos h4]
theorem V1x [Q0i] (p:Nat) (m:MS) (r:Int) (os:List Int) (al:Option Addr) (cl:Nat) (hl:os.length≤1000000) {w:World} {fr:List Q0e} (H:Q0a w (Q2p p m::IL (.slice al os.length cl) os::fr)) :
  Calls Tryz.prog 103 #[pp p,.int .i64 r,.slice al os.length cl] w (ret fun v w'=>v = .int .i64 (Z0r m r os)∧Q0a w' (Q2p p m::IL (.slice al os.length cl) os::fr)):=by
 obtain⟨t,lc,oc,aL,cL,aO,cO,hm,h2,h3,hl1,hl2,H⟩:=Q2t H;have hP:=hm.P;have hfew:=hm.few;refine Q0c Tryz.func103 rfl (by kernel_rfl) ?_;refine J14 H ?_;refine J10 H ?_;replace H:=Js [1,0] 0 H;refine Jc rfl rfl (Q7f t m.P r H) ?_;clear H;rintro v w ⟨rfl,H⟩;replace H:=Q2v hm h2 h3 H.swap;clear h2 h3 hl1 hl2 lc oc aL cL aO cO;refine J0 H ?_;cases hlv:Q5k m.P r with
 | false=>
  have he:Z0r m r os=15:=by unfold Z0r;rw[if_pos hlv]
  rw[he];refine U2o H ?_;exact Q0g (Jy H rfl fun w' H'=>⟨rfl,H'⟩)
 | true=>
 refine J47 H ?_;refine J77 H ?_;by_cases h64:((os.length:Nat):Int) > 64
 ·have he:Z0r m r os=18:=by unfold Z0r;rw[hlv,if_neg (by decide),if_pos (by omega)]
  rw[show decide (((os.length:Nat):Int) > 64)=true from decide_eq_true h64];refine J21 H ?_;rw[he];exact Q0g (Jy H rfl fun w' H'=>⟨rfl,H'⟩)
 rw[show decide (((os.length:Nat):Int) > 64)=false from decide_eq_false h64];have h64:os.length≤64:=by omega
 refine J9 H ?_;refine U1v H ?_;refine Q1l (fun ms σ w z=>ms=[]∧∃ i:Nat,i≤os.length∧z=os.length - i∧Y9x m r (os.take i) (os.drop i)=Y9x m r [] os∧σ 0=pp p∧σ 1 = .int .i64 r∧σ 2 = .slice al os.length cl∧σ 8 = .int .i64 i∧Q0a w (Q2p p m::IL (.slice al os.length cl) os::fr)) (m:=os.length) ⟨rfl,0,by omega,by omega,rfl,rfl,rfl,rfl,rfl,H⟩ ?_;clear H;rintro ms σ w z ⟨rfl,i,hi,rfl,hmay,g0,g1,g2,g8,H⟩;rw[Q0b g0,Q0b g1,Q0b g2,Q0b g8];refine J93 H ?_;refine Q2d rfl (fun h=>Q0w ?_) (fun h=>Q1n ?_)
 ·have hlt:i < os.length:=by omega
  have hy:=List.getElem?_eq_getElem hlt;have htk:os.take (i+1)=os.take i++[os[i]]:=by rw[List.take_add_one,hy];rfl
  have hdr:os.drop i=os[i]::os.drop (i+1):=List.drop_eq_getElem_cons hlt;generalize os[i]=y at hy htk hdr;rw[hdr] at hmay;obtain⟨bl,sl,rfl,H,hlc,_,hcl⟩:=Q2n H.swap (by omega);refine G9w H ?_;refine Jd ?_;refine Q0s rfl (Q0l H rfl (by simpa using Q3w hy) rfl ?_);refine Jc rfl rfl (Q7g p m y H.swap) ?_;clear H;rintro v w ⟨rfl,H⟩;refine J0 H ?_;cases hv:Q7m m y with
  | none=>
   have he:=V8g hlv h64 (hmay.symm.trans (Y3w hv)) (by decide);rw[he];refine U2o H ?_;replace H:=(hcl _ _ _ rfl H.swap).swap;exact Q0g (Jy H rfl fun w' H'=>⟨rfl,H'⟩)
  | some kx=>
   obtain⟨k,x⟩:=kx;obtain⟨rfl,hx,hh,hg⟩:=Q5c hv;rw[Y9y hv] at hmay;refine J47 H ?_;have hkl:=(List.getElem?_eq_some_iff.1 hx).1;obtain⟨t,lc,aL,cL,bO,cO,s,ptrs,qq,vw,vk,vt,rest,hmm,h2,hp,H,hclose⟩:=Q4i H hx;refine J1 H ?_;clear H;intro w H;refine J61 H ?_;refine J54 H ?_;refine Ji 6 ?_;refine Q2b 7 [] H rfl (Q0n.none rfl) rfl (by simpa using Q3w hy) (by kernel_rfl) ?_
   refine Ji 8 ?_;refine Q2b 9 [] H rfl (Q0n.none rfl) rfl (by simpa using hp) (by kernel_rfl) ?_;refine Ja 10 ?_;refine Jf 11 ?_;refine Jl 12 [] H ?_;refine U2u H ?_;have hm':MWF { m with objs:=m.objs.set k x }:=Q8b hx hm;by_cases c1:(x.region:Int)≠r
   ·rw[if_pos c1] at hmay;have he:=V8g hlv h64 hmay.symm (by decide);rw[he,show (((x.region:Nat):Int) != r)=true by rw[bne_iff_ne];exact c1];refine J21 H ?_;replace H:=(hcl _ _ _ rfl (Q3j hx (hclose _ _ _ hm' H)).swap).swap;exact Q0g (Jy H rfl fun w' H'=>⟨rfl,H'⟩)
   rw[if_neg c1] at hmay;rw[show (((x.region:Nat):Int) != r)=false by rw[bne_eq_false_iff_eq];exact Classical.not_not.1 c1];refine U4l H ?_;clear H;intro w H;refine J61 H ?_;refine J54 H ?_;refine Ji 6 ?_;refine Q2b 7 [] H rfl (Q0n.none rfl) rfl (by simpa using Q3w hy) (by kernel_rfl) ?_
   refine Ji 8 ?_;refine Q2b 9 [] H rfl (Q0n.none rfl) rfl (by simpa using hp) (by kernel_rfl) ?_;refine Ja 10 ?_;refine Jf 11 ?_;refine Jl 12 [] H ?_;refine Jx H ?_;cases c2:x.pinned with
   | true=>
    rw[if_pos c2] at hmay;have he:=V8g hlv h64 hmay.symm (by decide);rw[he];refine J21 H ?_;replace H:=(hcl _ _ _ rfl (Q3j hx (hclose _ _ _ hm' H)).swap).swap;exact Q0g (Jy H rfl fun w' H'=>⟨rfl,H'⟩)
   | false=>
   rw[if_neg (by rw[c2];decide)] at hmay;refine J9 H ?_;replace H:=(Q3j hx (hclose _ _ _ hm' H)).swap;refine J1 H ?_;clear H;intro w H;refine Ja 0 ?_;refine Ja 1 ?_;refine Z8y 2 rfl (Q0n.none rfl) rfl rfl (by omega) (by kernel_rfl) ?_;refine Ja 3 ?_;refine Ja 4 ?_;refine Ji 5 ?_;refine Q2b 6 [7] H rfl (Q0n.none rfl) rfl (by simpa using Q3w hy) (by kernel_rfl) ?_;have Hc:=hcl _ _ _ rfl H;refine Jo 7 H ?_;refine Jk rfl rfl (G3t _ cl i os (k:Int) hi hl Hc) ?_;clear H;rintro v w ⟨rfl,H⟩;refine J69 H ?_;by_cases c3:(k:Int)∈os.take i
   ·rw[if_pos c3] at hmay;have he:=V8g hlv h64 hmay.symm (by decide);rw[he,decide_eq_true c3];refine J5 H ?_;refine Q3g rfl ?_;refine J14 H ?_;exact Q0g (Jy H.swap rfl fun w' H'=>⟨rfl,H'⟩)
   rw[if_neg c3,← htk] at hmay;rw[decide_eq_false c3];refine J5 H ?_;refine Q1y rfl (Q0w ?_);refine J11 H ?_;exact⟨_,⟨rfl,i+1,hlt,rfl,hmay,rfl,rfl,rfl,Q2a (by omega),H.swap⟩,by omega⟩
 ·obtain rfl:i=os.length:=by omega
  rw[List.take_length,List.drop_length] at hmay;have hmay:0=Y9x m r [] os:=hmay;obtain⟨t,lc,oc,aL,cL,aO,cO,hmm,h2,h3,hl1,hl2,H⟩:=Q2t H;refine J29 H ?_;replace H:=Js [1,0] 0 H;refine Jc rfl rfl (V7y t m.P (by omega) H) ?_;clear H;intro v w H;obtain⟨aA,cA,rfl⟩:=Q0j H (Q0d _) (by decide);replace H:=Js [0,1,0] 0 H;replace H:=H.drop;replace H:=Q2v hm h2 h3 H;refine U7c H ?_
  have he:Z0r m r os=if 64≤(V4y m.P).length then 5 else 0:=by
   unfold Z0r;rw[hlv,if_neg (by decide),if_neg (by omega),← hmay,if_neg (by decide)]
  rw[he];by_cases c4:(((V4y m.P).length:Nat):Int)≥64
  ·rw[show decide ((((V4y m.P).length:Nat):Int)≥64)=true from decide_eq_true c4,if_pos (by omega)];refine J21 H ?_;exact Q0g (Jy H rfl fun w' H'=>⟨rfl,H'⟩)
  ·rw[show decide ((((V4y m.P).length:Nat):Int)≥64)=false from decide_eq_false c4,if_neg (by omega)];refine J98 H ?_;exact Q0g (Jy H rfl fun w' H'=>⟨rfl,H'⟩)
end Go.Proofs.YtmjdnljneifpcaaGreatDoor
namespace Go.Proofs.YtmjdnljneifpcaaGreatDoor
open Go.SL
def V5a {A:Type} (f:A→A) (i:Nat) (l:List A):List A:=l.mapIdx fun k x=>if k < i then f x else x
theorem V0l {A:Type} (f:A→A) (i:Nat) (l:List A) (k:Nat):(V5a f i l)[k]? = (l[k]?).map fun x=>if k < i then f x else x:=List.getElem?_mapIdx
theorem V0m {A:Type} (f:A→A) (i:Nat) (l:List A):(V5a f i l).length=l.length:=List.length_mapIdx
theorem V4w {A:Type} (f:A→A) (l:List A):V5a f 0 l=l:=by
 apply List.ext_getElem?;intro k;rw[V0l];cases l[k]? <;> simp
theorem Z0d {A:Type} {f:A→A} {l:List A} {i:Nat} {x:A} (h:l[i]? = some x):(V5a f i l).set i (f x)=V5a f (i+1) l:=by
 have hil:=(List.getElem?_eq_some_iff.1 h).1;apply List.ext_getElem?;intro k;rw[List.getElem?_set,V0l,V0l,V0m];by_cases hk:i=k
 ·subst hk;rw[if_pos rfl,if_pos hil,h];simp only[Option.map_some];rw[if_pos (by omega)]
 ·rw[if_neg hk];have:k < i+1↔k < i:=by omega
  simp only[this]
theorem Y6e {A:Type} (f:A→A) (l:List A):V5a f l.length l=l.map f:=by
 apply List.ext_getElem?;intro k;rw[V0l,List.getElem?_map];cases h:l[k]? with
 | none=>rfl
 | some x=>
  have:=(List.getElem?_eq_some_iff.1 h).1;simp only[Option.map_some];rw[if_pos this]
theorem G3u {A:Type} {f:A→A} {l:List A} {i:Nat} {x:A} (h:l[i]? = some x):(V5a f i l)[i]? = some x:=by
 rw[V0l,h];simp only[Option.map_some];rw[if_neg (by omega)]
theorem Z8z {lays:List Lay} {n:Nat} {x:Mob} (h:V2v lays n x) (L:List Nat):V2v lays n (Q2c L x):=by
 obtain⟨a,b,c,d,e⟩:=h;unfold Q2c;split
 ·exact⟨a,b,c,d,e⟩
 ·exact⟨a,b,c,d,e⟩
theorem Y0x {m:MS} (h:MWF m) (L K:List Nat) (i:Nat):MWF { m with P:=Q5f m.P K,objs:=V5a (Q2c L) i m.objs }:=by
 refine⟨?_,h.lays,fun x' hx'=>?_,?_⟩
 ·show 1≤(Q5f m.P K).length∧(Q5f m.P K).length≤_;unfold Q5f;rw[List.length_mapIdx];exact h.P
 ·show V2v m.lays (V5a (Q2c L) i m.objs).length x';rw[V0m];obtain⟨o,ho⟩:=List.getElem?_of_mem hx';have ho:(V5a (Q2c L) i m.objs)[o]? = some x':=ho;rw[V0l] at ho;cases hx:m.objs[o]? with
  | none=>rw[hx] at ho;cases ho
  | some x=>
   rw[hx] at ho;injection ho with ho
   have hk:=h.objs x (List.mem_of_getElem? hx);subst ho;show V2v m.lays m.objs.length (if o < i then Q2c L x else x);split
   ·exact Z8z hk L
   ·exact hk
 ·show (V5a (Q2c L) i m.objs).length≤_;rw[V0m];exact h.few
def gkL (G:List Mob) (p:Nat) (l:List (Nat×Nat)):List Nat:=l.mapIdx fun k y=>if k < p∧V3g G y.1 y.2=true then 1 else y.1
def gtL (G:List Mob) (p:Nat) (l:List (Nat×Nat)):List Nat:=l.mapIdx fun k y=>if k < p∧V3g G y.1 y.2=true then 0 else y.2
def Q4m (G:List Mob) (p:Nat) (x:Mob):Mob:={ x with kind:=gkL G p (x.kind.zip x.to),to:=gtL G p (x.kind.zip x.to) }
theorem Z9a (G:List Mob) (p:Nat) {x:Mob} (h:x.kind.length=x.to.length):(Q4m G p x).kind.length=x.kind.length∧(Q4m G p x).to.length=x.kind.length:=by
 constructor
 ·show (gkL G p _).length=_;unfold gkL;rw[List.length_mapIdx,List.length_zip];omega
 ·show (gtL G p _).length=_;unfold gtL;rw[List.length_mapIdx,List.length_zip];omega
theorem Y0y {k t:List Nat} {p a b:Nat} (ha:k[p]? = some a) (hb:t[p]? = some b):(k.zip t)[p]? = some (a,b):=List.getElem?_zip_eq_some.2 ⟨ha,hb⟩
theorem G3v {G:List Mob} {x:Mob} {p a b:Nat} (ha:x.kind[p]? = some a) (hb:x.to[p]? = some b):(Q4m G p x).kind[p]? = some a∧(Q4m G p x).to[p]? = some b:=by
 have hz:=Y0y ha hb;constructor
 ·show (gkL G p _)[p]? = _;unfold gkL;rw[List.getElem?_mapIdx,hz];show some (if p < p∧V3g G a b=true then 1 else a)=_;rw[if_neg (by omega)]
 ·show (gtL G p _)[p]? = _;unfold gtL;rw[List.getElem?_mapIdx,hz];show some (if p < p∧V3g G a b=true then 0 else b)=_;rw[if_neg (by omega)]
theorem Z9b {G:List Mob} {x:Mob} {p a b:Nat} (ha:x.kind[p]? = some a) (hb:x.to[p]? = some b) (hh:V3g G a b=true):({ Q4m G p x with kind:=(Q4m G p x).kind.set p 1,to:=(Q4m G p x).to.set p 0 }:Mob)=Q4m G (p+1) x:=by
 have hz:=Y0y ha hb;have hl:=(List.getElem?_eq_some_iff.1 hz).1
 have h1:(gkL G p (x.kind.zip x.to)).set p 1=gkL G (p+1) (x.kind.zip x.to):=by
  unfold gkL;apply List.ext_getElem?;intro k;rw[List.getElem?_set,List.length_mapIdx,List.getElem?_mapIdx,List.getElem?_mapIdx];by_cases hk:p=k
  ·subst hk;rw[if_pos rfl,if_pos hl,hz];show _=some (if p < p+1∧V3g G a b=true then 1 else a);rw[if_pos ⟨by omega,hh⟩]
  ·rw[if_neg hk];have:k < p+1↔k < p:=by omega
   simp only[this]
 have h2:(gtL G p (x.kind.zip x.to)).set p 0=gtL G (p+1) (x.kind.zip x.to):=by
  unfold gtL;apply List.ext_getElem?;intro k;rw[List.getElem?_set,List.length_mapIdx,List.getElem?_mapIdx,List.getElem?_mapIdx];by_cases hk:p=k
  ·subst hk;rw[if_pos rfl,if_pos hl,hz];show _=some (if p < p+1∧V3g G a b=true then 0 else b);rw[if_pos ⟨by omega,hh⟩]
  ·rw[if_neg hk];have:k < p+1↔k < p:=by omega
   simp only[this]
 show ({ x with kind:=(gkL G p (x.kind.zip x.to)).set p 1,to:=(gtL G p (x.kind.zip x.to)).set p 0 }:Mob)={ x with kind:=gkL G (p+1) (x.kind.zip x.to),to:=gtL G (p+1) (x.kind.zip x.to) };rw[h1,h2]
theorem Z0e {G:List Mob} {x:Mob} {p a b:Nat} (ha:x.kind[p]? = some a) (hb:x.to[p]? = some b) (hh:¬ V3g G a b=true):Q4m G p x=Q4m G (p+1) x:=by
 have hz:=Y0y ha hb
 have h1:gkL G p (x.kind.zip x.to)=gkL G (p+1) (x.kind.zip x.to):=by
  unfold gkL;apply List.ext_getElem?;intro k;rw[List.getElem?_mapIdx,List.getElem?_mapIdx];by_cases hk:p=k
  ·subst hk;rw[hz];show some (if p < p∧V3g G a b=true then 1 else a)=some (if p < p+1∧V3g G a b=true then 1 else a);rw[if_neg (by omega),if_neg (fun h=>hh h.2)]
  ·have:k < p+1↔k < p:=by omega
   simp only[this]
 have h2:gtL G p (x.kind.zip x.to)=gtL G (p+1) (x.kind.zip x.to):=by
  unfold gtL;apply List.ext_getElem?;intro k;rw[List.getElem?_mapIdx,List.getElem?_mapIdx];by_cases hk:p=k
  ·subst hk;rw[hz];show some (if p < p∧V3g G a b=true then 0 else b)=some (if p < p+1∧V3g G a b=true then 0 else b);rw[if_neg (by omega),if_neg (fun h=>hh h.2)]
  ·have:k < p+1↔k < p:=by omega
   simp only[this]
 unfold Q4m;rw[h1,h2]
theorem Z3f {G:List Mob} {x:Mob} (h:x.kind.length=x.to.length):Q4m G 0 x=x:=by
 have h1:gkL G 0 (x.kind.zip x.to)=x.kind:=by
  unfold gkL;apply List.ext_getElem?;intro k;rw[List.getElem?_mapIdx];cases ha:x.kind[k]? with
  | none=>
   rw[List.getElem?_eq_none_iff] at ha;rw[List.getElem?_eq_none (by rw[List.length_zip];omega)];rfl
  | some a=>
   have hl:=(List.getElem?_eq_some_iff.1 ha).1;rw[Y0y ha (List.getElem?_eq_getElem (show k < x.to.length by omega))];show some (if k < 0∧_ then 1 else a)=_;rw[if_neg (by omega)]
 have h2:gtL G 0 (x.kind.zip x.to)=x.to:=by
  unfold gtL;apply List.ext_getElem?;intro k;rw[List.getElem?_mapIdx];cases ha:x.to[k]? with
  | none=>
   rw[List.getElem?_eq_none_iff] at ha;rw[List.getElem?_eq_none (by rw[List.length_zip];omega)];rfl
  | some a=>
   have hl:=(List.getElem?_eq_some_iff.1 ha).1;rw[Y0y (List.getElem?_eq_getElem (show k < x.kind.length by omega)) ha];show some (if k < 0∧_ then 0 else a)=_;rw[if_neg (by omega)]
 unfold Q4m;rw[h1,h2]
theorem Z9c (G:List Mob) {x:Mob} (h:x.kind.length=x.to.length):Q4m G x.kind.length x=Q6m G x:=by
 have h1:gkL G x.kind.length (x.kind.zip x.to)=(x.kind.zip x.to).map (fun y=>if V3g G y.1 y.2=true then 1 else y.1):=by
  unfold gkL;apply List.ext_getElem?;intro k;rw[List.getElem?_mapIdx,List.getElem?_map];cases hz:(x.kind.zip x.to)[k]? with
  | none=>rfl
  | some y=>
   have hl:=(List.getElem?_eq_some_iff.1 hz).1;rw[List.length_zip] at hl;have hk:k < x.kind.length:=by omega
   show some (if k < x.kind.length∧V3g G y.1 y.2=true then 1 else y.1)=some (if V3g G y.1 y.2=true then 1 else y.1);simp only[hk,true_and]
 have h2:gtL G x.kind.length (x.kind.zip x.to)=(x.kind.zip x.to).map (fun y=>if V3g G y.1 y.2=true then 0 else y.2):=by
  unfold gtL;apply List.ext_getElem?;intro k;rw[List.getElem?_mapIdx,List.getElem?_map];cases hz:(x.kind.zip x.to)[k]? with
  | none=>rfl
  | some y=>
   have hl:=(List.getElem?_eq_some_iff.1 hz).1;rw[List.length_zip] at hl;have hk:k < x.kind.length:=by omega
   show some (if k < x.kind.length∧V3g G y.1 y.2=true then 0 else y.2)=some (if V3g G y.1 y.2=true then 0 else y.2);simp only[hk,true_and]
 unfold Q4m Q6m;rw[h1,h2]
theorem G3w [Q0i] {w:World} {oc:List OC} {l:List Q0e} {i:Nat} {y:OC} (hy:oc[i]? = some y) (H:Q0a w (star (oc.map ocr)::l)):∃ rest:List Q0e,
  Q0a w (pts y.ptr (Z7b y.vw y.vk y.vt y.ob)::UL y.vw y.ob.w::NL y.vk y.ob.kind::NL y.vt y.ob.to::star rest::l) ∧
  ∀ (w':World) (l':List Q0e) (x':Mob),Q0a w' (pts y.ptr (Z7b y.vw y.vk y.vt x')::UL y.vw x'.w::NL y.vk x'.kind::NL y.vt x'.to::star rest::l')→Q0a w' (star ((oc.set i { y with ob:=x' }).map ocr)::l'):=by
 have hsp:oc=oc.take i++y::oc.drop (i+1):=by
  have h1:=List.getElem?_eq_some_iff.1 hy;rw[← h1.2];simp
 refine⟨(oc.take i++oc.drop (i+1)).map ocr,Q0a.star.1 ((Q0a.pick hsp).1 H),fun w' l' x' H'=>?_⟩;have H':=(Q0a.pick (R:=ocr) (x:={ y with ob:=x' }) (g1:=oc.take i) (g2:=oc.drop (i+1)) rfl).2 (Q0a.star.2 H');rw[← SL.set_split hy] at H';exact H'
theorem Z0f (v:Value) (l:List Nat):NL v l=IL v (l.map fun x:Nat=>(x:Int)):=by
 show sls _ 1 v (Q0u l)=sls _ 1 v (Q1g _);unfold Q0u Q1g;rw[List.map_map];rfl
end Go.Proofs.YtmjdnljneifpcaaGreatDoor
