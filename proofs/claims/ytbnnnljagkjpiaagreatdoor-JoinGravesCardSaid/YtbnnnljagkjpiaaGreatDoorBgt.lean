/- Cells: what is proved on the way: every input of the statement; no condition. Texts joined: MovR JoiD JoiQ MdlP. -/
import Derived.Test.YtbnnnljagkjpiaaGreatDoorBgq
import Derived.Test.YtbnnnljagkjpiaaGreatDoorBgs
import Derived.Test.YtbnnnljagkjpiaaGreatDoorBgf
import Derived.Test.YtbnnnljagkjpiaaGreatDoorBgo
import Derived.Test.YtbnnnljagkjpiaaGreatDoorBge
import Derived.Test.YtbnnnljagkjpiaaGreatDoorBgm
set_option linter.unusedVariables false
set_option linter.unusedSimpArgs false
set_option linter.unusedSectionVars false
namespace Go.Proofs.YtbnnnljagkjpiaaGreatDoor
open List
open Go.SL
theorem Oe {s s':CS} {m m':MS} {told:List (Nat×Nat)} (R:Rel s m told) {mv:Nat→Q8→Q8} (h:Uf s s' mv) (hl:m'.lays=m.lays) (ho:m'.objs.length=m.objs.length)
  (htree:∀ (r q:Int),(r,q)∈s'.par↔∃ k:Nat,r=k∧1≤k∧m'.P[k]? = some q∧0≤q) (hnd:(s'.par.map (·.1)).Nodup) (hlast:s'.last+1=m'.P.length)
  (hobj:∀ (o:Nat) (x':QI),m'.objs[o]? = some x'→∃ x,m.objs[o]? = some x∧x'={ x with region:=x'.region }∧∀ (k g:Nat) (e:Q8),told[o]? = some (k,g)→x.gone=false→s.tab[k]? = some ⟨g,some e⟩→e.region=x.region→(mv k e).region=x'.region):Rel s' m' told:=by
 refine⟨by rw[ho];exact R.len,by rw[h.lays,hl];exact R.lays,htree,hnd,hlast,?_,?_,?_,?_,R.nodup⟩
 ·intro o x' k g hx' ht hg;obtain⟨x,hx,he,hr⟩:=hobj o x' hx';have hg:x.gone=false:=by rw[he] at hg;exact hg
  obtain⟨e,hk,hL⟩:=R.obj o x k g hx ht hg;obtain⟨s1,s2,s3,s4,s5⟩:=h.same k e;refine⟨mv k e,h.at hk,?_⟩;have hreg:=hr k g e ht hg hk hL.region;rw[hl];have f1:x'.lay=x.lay:=by rw[he]
  have f2:x'.count=x.count:=by rw[he]
  have f3:x'.held=x.held:=by rw[he]
  have f4:x'.pinned=x.pinned:=by rw[he]
  have f5:x'.w=x.w:=by rw[he]
  have f6:x'.kind=x.kind:=by rw[he]
  have f7:x'.to=x.to:=by rw[he]
  refine⟨hreg,by rw[s1,f1];exact hL.lay,by rw[s2,f2];exact hL.count,by rw[s4,f3];exact hL.held,by rw[s5,f4];exact hL.pinned,by rw[s3,f5];exact hL.len,?_,?_,?_⟩
  ·rw[f5,f1,f6,f7,s3];exact hL.ref
  ·rw[f5,f1,s3];exact hL.word
  ·rw[f5,f1,f6];exact hL.kind
 ·intro o x' k g hx' ht hg e' hk';obtain⟨x,hx,he,_⟩:=hobj o x' hx';have hg:x.gone=true:=by rw[he] at hg;exact hg
  obtain⟨e,hk,_⟩:=h.from hk';exact R.gone o x k g hx ht hg e hk
 ·intro k g e' hk';obtain⟨e,hk,_⟩:=h.from hk';exact R.used k g e hk
 ·intro o k g ht;obtain⟨t,h1,h2⟩:=R.gens o k g ht;exact⟨_,h.tab k t h1,h2⟩
def GG (id q:Nat) (x:QI):QI:=if x.region=id then { x with region:=q } else x
def FI (m:MS) (id q:Nat):MS:={ m with P:=ZG m.P id q,objs:=m.objs.map (GG id q) }
theorem Og (id q:Nat) (x:QI):GG id q x={ x with region:=(GG id q x).region }:=by
 unfold GG;split <;> rfl
theorem fP (id q:Nat) (x:QI):(GG id q x).region=if x.region=id then q else x.region:=by
 unfold GG;split <;> rfl
theorem fS {s s':CS} {m:MS} {told:List (Nat×Nat)} (R:Rel s m told) {id q:Nat} (hid:1≤id) (hne:id≠q) (h:Ay s id q s'):Rel s' (FI m id q) told:=by
 have hnd':(s'.par.map (·.1)).Nodup:=by rw[h.par.1];exact R.nd.filter _
 refine Oe R h.mv rfl (length_map _) (fun r z=>?_) hnd' ?_ fun o x' hx'=>?_
 ·rw[← Z1 hnd',h.par.2];have hPk:∀ k:Nat,(ZG m.P id q)[k]? = (m.P[k]?).map fun x=>if k=id then -1 else if 1≤k∧x=(id:Int) then (q:Int) else x:=fun k=>getElem?_mapIdx;constructor
  ·intro hr;split at hr
   ·cases hr
   ·rename_i h1;split at hr
    ·rename_i h2;injection hr with hr
     obtain⟨k,k1,k2,k3,k4⟩:=(R.tree _ _).1 ((Z1 R.nd).1 h2);refine⟨k,k1,k2,?_,by omega⟩;show (ZG m.P id q)[k]? = _;rw[hPk,k3];simp only[Option.map_some];rw[if_neg (by omega),if_pos ⟨k2,trivial⟩,hr]
    ·rename_i h2;obtain⟨k,k1,k2,k3,k4⟩:=(R.tree _ _).1 ((Z1 R.nd).1 hr);refine⟨k,k1,k2,?_,k4⟩;show (ZG m.P id q)[k]? = _;rw[hPk,k3];simp only[Option.map_some];rw[if_neg (by omega),if_neg (fun h3=>h2 (by rw[hr,h3.2]))]
  ·rintro⟨k,rfl,k2,k3,k4⟩;have k3:(ZG m.P id q)[k]? = some z:=k3;rw[hPk] at k3;cases hP:m.P[k]? with
   | none=>rw[hP] at k3;cases k3
   | some z0=>
    rw[hP] at k3;injection k3 with k3
    have k3:(if k=id then (-1:Int) else if 1≤k∧z0=(id:Int) then (q:Int) else z0)=z:=k3;by_cases h1:k=id
    ·rw[if_pos h1] at k3;omega
    ·rw[if_neg h1] at k3;rw[if_neg (by omega)]
     have hz0:0≤z0:=by
      split at k3 <;> omega
     have hf:=(Z1 R.nd).2 ((R.tree (k:Int) z0).2 ⟨k,rfl,k2,hP,hz0⟩);by_cases h2:z0=(id:Int)
     ·rw[if_pos ⟨k2,h2⟩] at k3;rw[h2] at hf;rw[if_pos hf,k3]
     ·rw[if_neg (fun h3=>h2 h3.2)] at k3;subst k3
      rw[if_neg (fun h3=>by
       rw[hf] at h3;injection h3 with h3
       exact h2 h3)]
      exact hf
 ·rw[h.last];show s.last+1=(ZG m.P id q).length;unfold ZG;rw[length_mapIdx];exact R.last
 ·have hx':(m.objs.map (GG id q))[o]? = some x':=hx';rw[getElem?_map] at hx';cases hx:m.objs[o]? with
  | none=>rw[hx] at hx';cases hx'
  | some x=>
   rw[hx] at hx';injection hx' with hx'
   subst hx';refine⟨x,rfl,Og id q x,fun k g e _ _ _ hr=>?_⟩;rw[X8,fP,hr];by_cases h1:x.region=id
   ·rw[if_pos (by omega),if_pos h1]
   ·rw[if_neg (by omega),if_neg h1]
theorem Oh {m m':MS} (h:V9 m) (hP:m'.P.length=m.P.length∨(m'.P.length=m.P.length+1∧m.P.length < 100000)) (hl:m'.lays=m.lays) (ho:m'.objs.length=m.objs.length)
  (hobj:∀ (o:Nat) (x':QI),m'.objs[o]? = some x'→∃ x,m.objs[o]? = some x∧x'={ x with region:=x'.region }):V9 m':=by
 refine⟨by have:=h.P;omega,by rw[hl];exact h.lays,fun x' hx'=>?_,by rw[ho];exact h.few⟩;obtain⟨o,hx'⟩:=getElem?_of_mem hx';obtain⟨x,hx,he⟩:=hobj o x' hx';obtain⟨a,b,c,d,e⟩:=h.objs x (mem_of_getElem? hx);rw[hl,ho,he];exact⟨a,b,c,d,e⟩
def Wm (m:MS) (r:Nat) (os:List Nat):MS:={ m with P:=m.P++[(r:Int)],objs:=m.objs.mapIdx fun o x=>if o∈os then { x with region:=m.P.length } else x }
theorem Oi {m:MS} {r:Nat} {os:List Nat} {o:Nat} {x':QI} (h:(Wm m r os).objs[o]? = some x'):∃ x,m.objs[o]? = some x∧x'={ x with region:=x'.region }∧x'.region=if o∈os then m.P.length else x.region:=by
 have h:(m.objs.mapIdx fun o x=>if o∈os then { x with region:=m.P.length } else x)[o]? = some x':=h;rw[getElem?_mapIdx] at h;cases hx:m.objs[o]? with
 | none=>rw[hx] at h;cases h
 | some x=>
  rw[hx] at h;injection h with h
  have h:(if o∈os then ({ x with region:=m.P.length }:QI) else x)=x':=h;subst h;refine⟨x,rfl,?_,?_⟩ <;> split <;> rfl
theorem fT {m:MS} (h:V9 m) (hP:m.P.length < 100000) (r:Nat) (os:List Nat):V9 (Wm m r os):=by
 refine Oh h (.inr ⟨by show (m.P++[_]).length=_;simp,hP⟩) rfl (length_mapIdx) fun o x' hx'=>?_;obtain⟨x,h1,h2,_⟩:=Oi hx';exact⟨x,h1,h2⟩
theorem fa {s s':CS} (hw:WF s) {m:MS} {told:List (Nat×Nat)} (R:Rel s m told) {r:Nat} {Z:List Pl} {os:List Nat} (h:Az s r Z s') (hos:∀ (o k g:Nat) (x:QI),told[o]? = some (k,g)→m.objs[o]? = some x→x.gone=false→(o∈os↔k∈Z.map Pl.k)):Rel s' (Wm m r os) told:=by
 have hup:∀ x,x∈s.par.map (·.1)→x≠((s.last+1:Nat):Int):=fun x hx=>by
  obtain⟨⟨x',q⟩,h1,h2⟩:=mem_map.1 hx;have h2:x'=x:=h2;have:=(hw.par.2.2 x' q h1).2;omega
 have hPl:m.P.length=s.last+1:=R.last.symm;refine Oe R h.mv rfl length_mapIdx (fun x z=>?_) ?_ ?_ fun o x' hx'=>?_
 ·rw[h.par,mem_append,R.tree];show _↔∃ k:Nat,x=k∧1≤k∧(m.P++[(r:Int)])[k]? = some z∧0≤z;constructor
  ·rintro(⟨k,k1,k2,k3,k4⟩|h1)
   ·exact⟨k,k1,k2,by rw[getElem?_append_left (List.getElem?_eq_some_iff.1 k3).1];exact k3,k4⟩
   ·rw[mem_singleton] at h1;injection h1 with h1 h2
    refine⟨s.last+1,h1,by omega,?_,by omega⟩;rw[getElem?_append_right (by omega),hPl,Nat.sub_self,h2];rfl
  ·rintro⟨k,k1,k2,k3,k4⟩;by_cases hk:k < m.P.length
   ·rw[getElem?_append_left hk] at k3;exact .inl ⟨k,k1,k2,k3,k4⟩
   ·rw[getElem?_append_right (by omega)] at k3;have hk0:=(List.getElem?_eq_some_iff.1 k3).1;have hk0:k - m.P.length < 1:=hk0;have hk1:k - m.P.length=0:=by omega
    rw[hk1] at k3;injection k3 with k3
    refine .inr ?_;rw[mem_singleton,← k3,k1,show k=s.last+1 by omega]
 ·rw[h.par,map_append,nodup_append];refine⟨R.nd,by simp,fun a ha b hb hab=>?_⟩;simp at hb;subst hab;exact hup a ha hb
 ·rw[h.last];show _=(m.P++[(r:Int)]).length;rw[length_append,hPl];rfl
 ·obtain⟨x,h1,h2,h3⟩:=Oi hx';refine⟨x,h1,h2,fun k g e ht hg hk hr=>?_⟩;have:=hos o k g x ht h1 hg;rw[h3];by_cases h4:k∈Z.map Pl.k
  ·rw[if_pos (this.2 h4),hPl];obtain⟨z,z1,z2⟩:=mem_map.1 h4;subst z2;rw[Ie h.keys z1]
  ·rw[if_neg (fun h5=>h4 (this.1 h5)),Co h4];exact hr
theorem FJ [Q4] (p:Nat) (q:Gb) (last:Nat) (par:List (Int×Int)) (region:Int) {w:World} {fr:List Q2} (H:Q0 w (Qf q.trp last par::Qt p q::fr)) :
  Calls Tryz.prog 36 #[pp p,.int .i64 region] w (ret fun v w'=>v = .int .i64 (if (QY par region).isSome then 0 else 15)∧Q0 w' (Qf q.trp last par::Qt p q::fr)):=by
 refine QQ Tryz.func36 rfl (by kernel_rfl) ?_;refine J8 H ?_;refine Y4 (fun ms σ w=>ms=[]∧(QY par region).isSome=true∧Q0 w (Qf q.trp last par::Qt p q::fr)) ?_ ?_
 ·refine RK H ?_;refine V2 H ?_;refine Jc rfl rfl (Ev q.trp last par region H) ?_;clear H;rintro v w ⟨rfl,H⟩;cases hf:(QY par region).isSome with
  | true=>
   refine WE H ?_;exact .inl ⟨rfl,rfl,rfl,H⟩
  | false=>
   refine E1 H ?_;exact Q3 (.inr ⟨by simp,Jy H rfl fun w' H'=>⟨rfl,H'⟩⟩)
 ·clear H;rintro ms σ w ⟨rfl,hf,H⟩;rw[hf];refine VF H ?_;exact Q3 (Jy H rfl fun w' H'=>⟨rfl,H'⟩)
theorem fb [Q4] {w:World} {a b:Q2} {l:List Q2} (H:Q0 w (a::b::l)):∃ X,X=l∧Q0 w (a::b::X):=⟨l,rfl,H⟩
def KQ (s:CS) (l:List Int) (G:List Nat):Prop:=G.Pairwise (· < ·)∧∀ k,k∈G↔∃ g e,s.tab[k]? = some ⟨g,some e⟩∧e.region∈l
theorem KQ.len {s:CS} (hw:WF s) {l:List Int} {G:List Nat} (h:KQ s l G):G.length≤64:=by
 have:=Rm G 0 64 (fun x hx=>⟨Nat.zero_le _,by
  obtain⟨g,f,h3,_⟩:=(h.2 x).1 hx;have h4:=(List.getElem?_eq_some_iff.1 h3).1;have:=hw.slots.2;omega⟩) h.1
 omega
theorem KQ.step {s:CS} {l:List Int} {G M:List Nat} {x:Int} (h:KQ s l G) (hx:x∉l) (hM:M.Pairwise (· < ·)) (hm:∀ i,i∈M↔∃ g e,s.tab[i]? = some ⟨g,some e⟩∧e.region=x):(∀ k∈G,k∉M)∧KQ s (l++[x]) (UK G M):=by
 have hd:∀ k∈G,k∉M:=fun k hk hk2=>by
  obtain⟨g,e,h1,h2⟩:=(h.2 k).1 hk;obtain⟨g',e',h3,h4⟩:=(hm k).1 hk2;rw[h1] at h3;injection h3 with h3
  injection h3 with _ h3
  injection h3 with h3
  subst h3;exact hx (h4▸h2)
 refine⟨hd,Nj h.1 hM hd,fun k=>?_⟩;rw[cT,h.2,hm];constructor
 ·rintro(⟨g,e,h1,h2⟩|⟨g,e,h1,h2⟩)
  ·exact⟨g,e,h1,mem_append.2 (.inl h2)⟩
  ·exact⟨g,e,h1,mem_append.2 (.inr (mem_singleton.2 h2))⟩
 ·rintro⟨g,e,h1,h2⟩
  rcases mem_append.1 h2 with h2|h2
  ·exact .inl ⟨g,e,h1,h2⟩
  ·exact .inr ⟨g,e,h1,mem_singleton.1 h2⟩
theorem Gg.rk {s s':CS} {D:List Rf} (h:Gg s D s') (hR:XP s):XP s':=by
 refine⟨h.nd,fun r t hr=>?_⟩;rw[h.rem] at hr;split at hr
 ·cases hr
 ·obtain⟨k,p,g,e,h1,h2,h3⟩:=hR.key r t hr;exact⟨k,p,g,VC D k e,h1,h.tab k _ h2,by rw[Kl];exact h3⟩
def Wn (s:CS) (G ks:List Nat) (D:List Rf):Prop:=∀ r:Rf,r∈D↔(∃ t∈ks,QY s.rem r=some ((t:Nat):Int))∧¬ ∃ k∈G,r.1=((k:Nat):Int)
structure Xb (s:CS) (ks:List Nat) (s':CS):Prop where
 size:s'.size=s.size
 own:s'.own=s.own
 lays:s'.lays=s.lays
 last:s'.last=s.last
 par:s'.par=s.par
 sps:s'.sps=s.sps
 tabl:s'.tab.length=s.tab.length
 tab:∀ (k:Nat) (t:QK),s.tab[k]? = some t→s'.tab[k]? = some (if k∈ks then ⟨t.gen,none⟩ else t)
 nd:(s'.rem.map (·.1)).Nodup
 rem:∀ r,QY s'.rem r=if ∃ k∈ks,r.1=((k:Nat):Int) then none else QY s.rem r
theorem Xb.start {s:CS} (h:(s.rem.map (·.1)).Nodup):Xb s [] s:=
 ⟨rfl,rfl,rfl,rfl,rfl,rfl,rfl,fun k t hk=>by rw[if_neg (by simp)];exact hk,h,fun r=>by rw[if_neg (by simp)]⟩
theorem Xb.step {s s' s2:CS} {ks:List Nat} (h:Xb s ks s') {k n:Nat} {e:Q8} (hk:s.tab[k]? = some ⟨n,some e⟩) (hL:FK s' k n s2):Xb s (ks++[k]) s2:=by
 refine⟨hL.size.trans h.size,hL.own.trans h.own,hL.lays.trans h.lays,hL.last.trans h.last,hL.par.trans h.par,hL.sps.trans h.sps,by rw[hL.tab,length_set];exact h.tabl,fun j t hj=>?_,hL.nd,fun r=>?_⟩
 ·have hj':=h.tab j t hj;have hjl:=(List.getElem?_eq_some_iff.1 hj').1;rw[hL.tab];by_cases hkj:k=j
  ·subst hkj;rw[hk] at hj;injection hj with hj
   subst hj;rw[getElem?_set_self hjl,if_pos (by simp)]
  ·rw[getElem?_set_ne hkj,hj']
   have h1:j∈ks++[k]↔j∈ks:=by
    rw[mem_append,mem_singleton];exact⟨fun h=>h.elim id fun h=>absurd h.symm hkj,.inl⟩
   by_cases h2:j∈ks
   ·rw[if_pos h2,if_pos (h1.2 h2)]
   ·rw[if_neg h2,if_neg (fun h=>h2 (h1.1 h))]
 ·rw[hL.rem,h.rem];by_cases h1:r.1=((k:Nat):Int)
  ·rw[if_pos h1,if_pos ⟨k,by simp,h1⟩]
  ·rw[if_neg h1];by_cases h2:∃ j∈ks,r.1=((j:Nat):Int)
   ·obtain⟨j,h3,h4⟩:=h2;rw[if_pos ⟨j,h3,h4⟩,if_pos ⟨j,mem_append.2 (.inl h3),h4⟩]
   ·rw[if_neg h2,if_neg];rintro⟨j,h3,h4⟩
    rcases mem_append.1 h3 with h3|h3
    ·exact h2 ⟨j,h3,h4⟩
    ·rw[mem_singleton] at h3;subst h3;exact h1 h4
structure Kt (s:CS) (l:List Int) (s':CS):Prop where
 size:s'.size=s.size
 own:s'.own.length=s.own.length
 lays:s'.lays=s.lays
 last:s'.last=s.last
 par:s'.par=l.foldl QC s.par
 tab:s'.tab=s.tab
 rem:s'.rem=s.rem
 sps:∀ y∈s.sps,y.1∉l→y∈s'.sps
 owns:∀ j,s'.own.getD j 0=if ((s.own.getD j 0:Nat):Int)∈l then 0 else s.own.getD j 0
theorem Kt.start (s:CS):Kt s [] s:=⟨rfl,rfl,rfl,rfl,rfl,rfl,rfl,fun y h _=>h,fun j=>by rw[if_neg (by simp)]⟩
theorem Kt.step {s s':CS} {l:List Int} (h:Kt s l s') (x:Int) {own':List Nat} (ho:own'.length=s'.own.length) (sps:List (Int×Nat×QF)) (mns:List (Int×Nat×List Nat)) (hsp:∀ y∈s'.sps,y.1≠x→y∈sps) (hog:∀ j,own'.getD j 0=if ((s'.own.getD j 0:Nat):Int)=x then 0 else s'.own.getD j 0):Kt s (l++[x]) { s' with own:=own',par:=QC s'.par x,sps:=sps,mns:=mns }:=
 ⟨h.size, ho.trans h.own, h.lays, h.last, by show QC s'.par x = _; rw [h.par, foldl_append]; rfl, h.tab, h.rem, fun y hy hn => hsp y (h.sps y hy fun h1 => hn (mem_append.2 (.inl h1))) fun h1 => hn (mem_append.2 (.inr (by rw [h1]; exact mem_singleton.2 rfl))), fun j => by
  show own'.getD j 0=_;rw[hog,h.owns];by_cases h1:((s.own.getD j 0:Nat):Int)∈l
  ·rw[if_pos h1,if_pos (mem_append.2 (.inl h1))];split <;> rfl
  ·rw[if_neg h1];by_cases h2:((s.own.getD j 0:Nat):Int)=x
   ·rw[if_pos h2,if_pos (mem_append.2 (.inr (by rw[h2];exact mem_singleton.2 rfl)))]
   ·rw[if_neg h2,if_neg (fun h3=>(mem_append.1 h3).elim h1 fun h4=>h2 (mem_singleton.1 h4))]⟩
theorem FM:∀ (ks:List Int) {m:List (Int×Int)},(m.map (·.1)).Nodup→((ks.foldl QC m).map (·.1)).Nodup
 | [],_,h=>h
 | k::ks,_,h=>FM ks (XU h)
theorem fc {m:List (Int×Int)} {k x:Int} (hne:k≠x) (hx:x∈m.map (·.1)):x∈(QC m k).map (·.1):=by
 induction m with
 | nil=>exact hx
 | cons a m ih=>
  unfold QC;split
  ·rename_i h;rw[map_cons,mem_cons] at hx
   rcases hx with hx|hx
   ·exact absurd (hx.trans h).symm hne
   ·exact hx
  ·rw[map_cons,mem_cons] at hx ⊢
   rcases hx with hx|hx
   ·exact .inl hx
   ·exact .inr (ih hx)
theorem Oj {x:Int}:∀ {ks:List Int} {m:List (Int×Int)},x∉ks→x∈m.map (·.1)→x∈(ks.foldl QC m).map (·.1)
 | [],_,_,h=>h
 | k::ks,_,h1,h=>Oj (ks:=ks) (fun h2=>h1 (mem_cons_of_mem _ h2)) (fc (fun e=>h1 (e▸mem_cons_self)) h)
theorem fe {own own' C:List Nat} {r:Int} (hog:∀ j,own'.getD j 0=if j∈C then 0 else own.getD j 0) (ho:∀ c,c∈C↔∃ q:Nat,own[c]? = some q∧(q:Int)=r∧q≠0) (j:Nat):own'.getD j 0=if ((own.getD j 0:Nat):Int)=r then 0 else own.getD j 0:=by
 rw[hog j];by_cases hj:j∈C
 ·obtain⟨q',h1,h2,_⟩:=(ho j).1 hj;rw[if_pos hj,if_pos (by rw[getD_eq_getElem?_getD,h1];exact h2)]
 ·rw[if_neg hj];split
  ·rename_i h1;rw[getD_eq_getElem?_getD] at h1 ⊢;cases h2:own[j]? with
   | none=>rfl
   | some y=>
    rw[h2] at h1;have h1:((y:Nat):Int)=r:=h1;by_cases h3:y=0
    ·exact h3
    ·exact absurd ((ho j).2 ⟨y,h2,h1,h3⟩) hj
  ·rfl
def FN (s:CS) (L:List Int) (s':CS):Prop:=∃ (G:List Nat) (Dl:List Rf) (s1 s2:CS),KQ s L G∧Gg s Dl s1∧Wn s G G Dl∧Xb s1 G s2∧Kt s2 L s'
set_option maxRecDepth 10000 in
theorem Iu [Q4] (p:Nat) (s:CS) (region:Int) (hT:Yo s.par) (hid:(QY s.par region).isSome=true) (hI:Inv s) (hgen:∀ (k g:Nat) (e:Q8),s.tab[k]? = some ⟨g,some e⟩→g < 255) {w:World} {fr:List Q2} (H:Q0 w (QW p s::fr)) :
  Calls Tryz.prog 13 #[pp p,.int .i64 region] w (ret fun v w'=>∃ u L s',v = .tuple #[u,.int .i64 0]∧L.Nodup∧L.Pairwise (·≤·)∧(∀ c,c∈L↔ZO s.par region c)∧L.length≤s.par.length∧FN s L s'∧Q0 w' (IL u L::QW p s'::fr)):=by
 obtain⟨q,mem,hw,hm,H⟩:=Vz H;refine QQ Tryz.func13 rfl (by kernel_rfl) ?_;refine Yv H ?_;clear H;intro b2 w H;refine J3 H ?_;replace H:=Js [6,1,0,0,0,0,0] 0 H;refine Ux H ?_;refine Jc rfl rfl (FJ p q s.last s.par region H) ?_;clear H;rintro v w ⟨rfl,H⟩;rw[if_pos hid];refine Yl H ?_;refine Uz H ?_;refine Jc rfl rfl (cM q.trp s.last s.par region hT hid (by have:=hw.par.1;omega) H) ?_;clear H;rintro v w ⟨u,L,rfl,hL1,hL2,hL3,hL4,H⟩;obtain⟨aL,cL,rfl⟩:=QE H (Vo L) (by decide);refine G3 H ?_;refine Zn H ?_;refine Jc rfl rfl (I2 H) ?_;clear H;rintro v w ⟨bg,rfl,H⟩;refine VZ H ?_;clear H;intro b9 w H;refine CQ H ?_;clear H;intro w H;refine J2 H ?_;refine Xu H ?_;have hLl:L.length≤64:=by have:=hw.par.1;omega
 have hLm:∀ x∈L,x∈s.mns.map (·.1):=fun x hx=>by
  have h1:=((hL3 x).1 hx).live hid;rw[hw.mkeys];cases hf:QY s.par x with
  | none=>rw[hf] at h1;cases h1
  | some y=>exact mem_map.2 ⟨(x,y),Un hf,rfl⟩
 replace H:=Js [2,1,0,11,1,1,8,0,0,0,0,0,0,0,0] 0 H;obtain⟨X,hX,H⟩:=fb H;refine J6 H ?_;refine Qk (fun ms σ w=>ms=[]∧∃ G:List Nat,KQ s L G∧σ 2=pp b2∧σ 7 = .slice aL L.length cL∧σ 9=pp b9∧Q0 w (IL (.slice aL L.length cL) L::Qu bg G::X)) ?_ ?_
 ·refine QP ?_;refine Ql (fun ms σ w z=>ms=[]∧∃ (i:Nat) (G:List Nat),i≤L.length∧z=L.length - i∧KQ s (L.take i) G∧σ 2=pp b2∧σ 7 = .slice aL L.length cL∧σ 9=pp b9∧σ 36 = .slice aL L.length cL∧σ 37 = .int .i64 L.length∧σ 38 = .int .i64 i∧Q0 w (IL (.slice aL L.length cL) L::Qu bg G::X)) (m:=L.length) ⟨rfl,0,[],by omega,rfl,⟨List.Pairwise.nil,fun k=>by simp⟩,rfl,rfl,rfl,rfl,rfl,rfl,H⟩ ?_;clear H;rintro ms σ w z ⟨rfl,i,G,hi,rfl,hG,g2,g7,g9,g36,g37,g38,H⟩;rw[Q1 g2,Q1 g7,Q1 g9,Q1 g36,Q1 g37,Q1 g38];refine J8 H ?_;refine Qj rfl (fun h=>QD ?_) (fun h=>Qp ?_)
  ·have hlt:i < L.length:=by omega
   have hx:=getElem?_eq_getElem hlt;have htk:L.take (i+1)=L.take i++[L[i]]:=by rw[take_add_one,hx];rfl
   have hnt:L[i]∉L.take i:=fun hh=>by
    obtain⟨j,hj⟩:=getElem?_of_mem hh;rw[getElem?_take] at hj;split at hj
    ·rename_i hji;obtain⟨hj1,hj2⟩:=List.getElem?_eq_some_iff.1 hj;exact(pairwise_iff_getElem.1 hL1) j i hj1 hlt hji hj2
    ·cases hj
   have hxm:=hLm _ (getElem_mem hlt);generalize L[i]=x at hx htk hnt hxm;obtain⟨b',hkM⟩:=Kj (l:=s.mns) (f:=fun x=>x.1) (g:=fun x=>x.2.1) (k:=x) hxm;obtain⟨⟨r1,b1,M⟩,m1,m2,hmns,h11,h12⟩:=Ki hkM;have h11:r1=x:=h11;have h12:b1=b':=h12;subst h11 h12;have hkM':QY (s.mns.map V0) r1=some b1:=hkM;have hM:=hw.mine (r1,b1,M) (by rw[hmns];simp);have hM1:KQ s [r1] M:=⟨hM.1,fun k=>by rw[hM.2];simp⟩;have hMl:=hM1.len hw;have hGl:=hG.len hw;obtain⟨hdj,hG2⟩:=hG.step hnt hM.1 hM.2;rw[hX] at H;obtain⟨bT,sT,rfl,H,hcl⟩:=V3 H (by omega);refine YB H ?_;refine Jd ?_;refine Q5 rfl (QB H rfl (by simpa using Ue hx) rfl ?_);refine J0 H ?_;replace H:=hcl _ _ H;replace H:=Js [3,0,0,0] 0 H;replace H:Q0 w (Qu b1 M::star ((m1++m2).map V8)::_):=(Q0.pick (R:=V8) (x:=(r1,b1,M)) hmns).1 H;replace H:=Js [3,0,0,0] 0 H;refine J1 H ?_;clear H;intro w H;refine Jl 0 [7] H ?_;refine Jl 1 [7] H ?_;refine Ja 2 ?_;refine Jf 3 ?_;refine Jl 4 [] H ?_;refine Ja 5 ?_;refine Xl 6 [] (key:=r1) H rfl (Q7.none rfl) rfl rfl Vf (by kernel_rfl) ?_;rw[hkM'];refine Jo 7 H ?_;refine Jk rfl rfl (cj bg b1 G M hG.1 hM.1 hdj (by omega) (by omega) H) ?_;clear H;rintro v w ⟨rfl,H⟩;refine Jx H ?_;replace H:=Js [1,1,0,0] 0 H;replace H:=(Q0.pick (R:=V8) (x:=(r1,b1,M)) hmns).2 H;replace H:=Js [2,1,1,0] 0 H;refine J4 H ?_;exact⟨_,⟨rfl,i+1,UK G M,hlt,rfl,by rw[htk];exact hG2,rfl,rfl,rfl,rfl,rfl,Qc (by omega),by rw[hX];exact H⟩,by omega⟩
  ·have hge:i=L.length:=by omega
   subst hge;rw[take_length] at hG;exact⟨rfl,rfl,G,hG,rfl,rfl,rfl,H⟩
 clear H;rintro ms σ w ⟨rfl,G,hG,g2,g7,g9,H⟩;rw[Q1 g2,Q1 g7,Q1 g9];rw[hX] at H;clear hX;have hGl:=hG.len hw;replace H:=Js [1,0] 0 H;refine Zg H ?_;refine Jc rfl rfl (FU bg G (by omega) H) ?_;clear H;rintro v w ⟨bv,av,cv,rfl,H⟩;refine J2 H ?_;replace H:=Js [6,9,9,9,9,9,9,9,7,5,0,0,0,0,0,0,0] 0 H;replace H:=Cl hw hm H;refine J6 H ?_;refine Qk (fun ms σ w=>(∃ (D:Nat) (s1:CS) (Dl:List Rf),ms=[D]∧Gg s Dl s1∧Wn s G G Dl∧Q0 w (Gf p q s1::Qu bg G::pts b9 (row 123 [pp bg])::pts b2 (row 45 [pp p])::pts D (.deferred (some []))::IL (.slice aL L.length cL) L::Qf q.trp s.last (L.foldl QC s.par)::fr))∧σ 2=pp b2∧σ 7 = .slice aL L.length cL∧σ 9=pp b9) ?_ ?_
 ·refine QP (Xn (a:=[]) (b:=[pp bv]) H rfl (fun yl D w H=>?_));generalize hL:LR _ yl _ _ _ _ D .ready=LRR at H ⊢;obtain⟨J,hJ⟩:∃ J:List Nat→Q2,J=fun ks=>ex fun x:CS×List Rf=>star [prop (Gg s x.2 x.1∧Wn s G ks x.2),LRR,Gf p q x.1,Qu bg G,pts b9 (row 123 [pp bg]),pts b2 (row 45 [pp p])]:=⟨_,rfl⟩
  have hin:∀ (ks:List Nat) (s1:CS) (Dl:List Rf) (w:World) (l':List Q2),Gg s Dl s1→Wn s G ks Dl→Q0 w (LRR::Gf p q s1::Qu bg G::pts b9 (row 123 [pp bg])::pts b2 (row 45 [pp p])::l')→Q0 w (J ks::l'):=by
   intro ks s1 Dl w l' h1 h2 H;rw[hJ];exact Q0.ex.2 ⟨(s1,Dl),Q0.star.2 (Q0.prop.2 ⟨⟨h1,h2⟩,H⟩)⟩
  have hout:∀ (ks:List Nat) (w:World) (l':List Q2),Q0 w (J ks::l')→∃ s1 Dl,Gg s Dl s1∧Wn s G ks Dl∧Q0 w (LRR::Gf p q s1::Qu bg G::pts b9 (row 123 [pp bg])::pts b2 (row 45 [pp p])::l'):=by
   intro ks w l' H;rw[hJ] at H;obtain⟨⟨s1,Dl⟩,H⟩:=Q0.ex.1 H;obtain⟨⟨h1,h2⟩,H⟩:=Q0.prop.1 (Q0.star.1 H);exact⟨s1,Dl,h1,h2,H⟩
  replace H:=Js [0,1,3,4,4,1,1,0,0,0] 0 H;replace H:=hin [] s [] _ _ (Gg.start hI.nd) (fun r=>by simp) H;refine call (FX yl bv av cv G (by omega) J ?_ H) ?_
  ·clear H;intro ks k tt rest w hpre H;obtain⟨s1,Dl,hC1,hD1,H⟩:=hout _ _ _ H;subst hL;refine XX (args:=[.int .i64 k]) H rfl rfl ?_;refine VF H ?_;refine⟨rfl,_,H,fun w H=>QP ?_⟩;generalize hLB:LR _ yl _ _ _ _ D .busy=LB at H ⊢;replace H:=Js [1,0] 0 H;obtain⟨mem1,hw1,hm1,H⟩:=Ck H;replace H:=Js [5,0,0,0,0,0] 0 H;refine Uz H ?_;refine Jc rfl rfl (dW q.rp s1.rem (IH hw1 (hC1.rk hI.rk)) k H) ?_;clear H;rintro v w ⟨rs,hrs,hris,H⟩;obtain⟨ar,cr,rfl⟩:=QE H (Ap rs) (by decide);refine Gx H ?_
   have hrl:rs.length≤1000000:=by
    have h1:=Ga (l₁:=rs) (l₂:=s1.rem.map (·.1)) (hris.imp fun h=>by
     rintro rfl
     rcases h with h|⟨_,h⟩ <;> omega) (fun r hr=>by
     have:=(hrs r).1 hr;exact mem_map.2 ⟨(r,((k:Nat):Int)),Un this,rfl⟩)
    rw[length_map] at h1;have:=IH hw1 (hC1.rk hI.rk);omega
   have hkn:k∉ks:=fun h=>by
    have h1:=hG.1;rw[hpre,pairwise_append] at h1;have:=h1.2.2 k h k mem_cons_self;omega
   replace H:=Js [2,2,2,2,2,1,1,1,1,1,0] 0 H;replace H:=Cl hw1 hm1 H;refine J6 H ?_;refine QP (Ql (fun ms σ w z=>ms=[]∧∃ (i:Nat) (s2:CS) (D2:List Rf),i≤rs.length∧z=rs.length - i∧Gg s D2 s2∧(∀ r,r∈D2↔r∈Dl∨(r∈rs.take i∧¬ ∃ k∈G,r.1=((k:Nat):Int)))∧σ 2=pp b2∧σ 9=pp b9∧σ 59 = .slice ar rs.length cr∧σ 60 = .int .i64 rs.length∧σ 61 = .int .i64 i∧Q0 w (Gf p q s2::QX 132 2 (.slice ar rs.length cr) (ZD rs)::LB::Qu bg G::pts b9 (row 123 [pp bg])::pts b2 (row 45 [pp p])::rest)) (m:=rs.length) ⟨rfl,0,s1,Dl,by omega,rfl,hC1,(fun r=>by simp),rfl,rfl,rfl,rfl,rfl,H⟩ ?_);clear H hw1 hm1;rintro ms σ w z ⟨rfl,i,s2,D2,hi,rfl,hC2,hD2,g2,g9,g59,g60,g61,H⟩;rw[Q1 g2,Q1 g9,Q1 g59,Q1 g60,Q1 g61];refine J8 H ?_;refine Qj rfl (fun h=>QD ?_) (fun h=>Qp ?_)
   ·have hlt:i < rs.length:=by omega
    have hx:=getElem?_eq_getElem hlt;have htk:rs.take (i+1)=rs.take i++[rs[i]]:=by rw[take_add_one,hx];rfl
    have hmem:=(hrs _).1 (getElem_mem hlt);generalize rs[i]=rr at hx htk hmem;rw[hC1.rem] at hmem;split at hmem
    ·cases hmem
    rename_i hnD;obtain⟨kk,pl,g,e,a,b,f,rfl,hk,hpl,hrf,hlk,hlo,hfar,hka⟩:=(hI.rem _ _).1 hmem;have hk2:=hC2.tab kk _ hk;replace H:=Js [1,0] 0 H;obtain⟨bT,sT,rfl,H,hcl⟩:=V3 H (by omega);refine YB H ?_;refine Jd ?_;rw[show 0+((i:Nat):Int).toNat*2=0+i*2 by simp];refine Q5 rfl (VA H rfl (NQ hx) rfl ?_);refine VZ H ?_;clear H;intro b14 w H;refine J5 H ?_;clear H;intro w H;refine J2 H ?_;replace H:=hcl _ _ H.swap;replace H:=Js [4,0,0,0,0] 0 H;refine Zg H ?_;refine ZW H ?_;refine Jc rfl rfl (aM bg G kk hG.1 (by omega) H) ?_;clear H;rintro v w ⟨rfl,H⟩;by_cases hkG:kk∈G
    ·rw[decide_eq_true hkG];refine Uv H ?_;replace H:=Js [3,1,2,0,1,1] 1 H;refine⟨_,⟨rfl,i+1,s2,D2,hlt,rfl,hC2,(fun r=>?_),rfl,rfl,rfl,rfl,Qc (by omega),H⟩,by omega⟩;rw[hD2,htk];constructor
     ·rintro(h1|⟨h1,h2⟩)
      ·exact .inl h1
      ·exact .inr ⟨mem_append.2 (.inl h1),h2⟩
     ·rintro(h1|⟨h1,h2⟩)
      ·exact .inl h1
      ·rcases mem_append.1 h1 with h1|h1
       ·exact .inr ⟨h1,h2⟩
       ·rw[mem_singleton] at h1;subst h1;exact absurd ⟨kk,hkG,rfl⟩ h2
    ·rw[decide_eq_false hkG];refine XE H ?_;replace H:=Js [3,0,0,0] 0 H;obtain⟨mem2,hw2,hm2,H⟩:=Ck H;replace H:=Js [4,0,0,0,0] 0 H;refine Zg H ?_;refine ZW H ?_;refine Jc rfl rfl (IC p q s2.tab kk g (VC D2 kk e) hk2 H) ?_;clear H;rintro v w ⟨rfl,H⟩;refine Ve H ?_;clear H;intro b15 w H;refine VZ H ?_;clear H;intro b16 w H;refine J5 H ?_;clear H;intro w H;refine J5 H ?_;clear H;intro w H;refine J2 H ?_;have hI2:=XN hw2 hm2 hk2;have hpl2:pl < (VC D2 kk e).ws.length:=by rw[Kl];exact hpl
     have hrf2:VV (QJ s2 (VC D2 kk e)) pl=true:=by rw[hC2.lay];exact hrf
     replace H:=Js [4,4,4,0,0,0,0] 0 H;refine J1 H ?_;clear H;intro w H;refine Jl 0 [] H ?_;refine G4 H ?_;refine Jl 3 [] H ?_;refine RG H ?_;refine Jf 6 ?_;refine Jl 7 [] H ?_;refine GF 8 rfl (Q7.none rfl) rfl (by kernel_rfl) ?_;have hTie:=Mz q.ip q.sp q.bp s2.size s2.lays mem2 s2.own (VC D2 kk e).addr (VC D2 kk e).lay (VC D2 kk e).count kk (VC D2 kk e).ws.length (QJ s2 (VC D2 kk e)) hI2 pl .grave trivial H;refine Jo 9 H ?_;refine Jk rfl rfl (hTie) ?_;clear H hTie;rintro v w ⟨rfl,H⟩;rw[FR hpl2 hrf2,if_pos rfl,Int.toNat_natCast] at H;refine Jx H ?_;replace H:=Js [7,0,0,0,0,0,0,0] 0 H;refine J1 H ?_;clear H;intro w H;refine Jl 0 [] H ?_;refine G4 H ?_;refine Jl 3 [] H ?_;refine VB 4 [] H rfl (Q7.none rfl) rfl (by repeat first|exact .nil _|apply Q9.cons rfl) (by kernel_rfl) ?_;refine Jo 5 H ?_;refine Jk rfl rfl (CC q.rp s2.rem hC2.nd (((kk:Nat):Int),((pl:Nat):Int)) H) ?_;clear H;rintro v w ⟨rfl,H⟩;refine Jx H ?_;replace H:=Js [6,6,1,1,1,0,2,2,2,2,3,4,2,3,3] 3 H;replace H:=I8 (e':={ VC D2 kk e with ws:=(VC D2 kk e).ws.set pl 1 }) hk2 rfl H;replace H:=Js [1,1,1,1,0] 0 H;replace H:=Cl (s:=Cm s2 kk g pl (VC D2 kk e)) (dM hw2 hk2) (dN hw2 hm2 hk2 hpl2) H;refine J4 H ?_;refine⟨_,⟨rfl,i+1,Cm s2 kk g pl (VC D2 kk e),D2++[(((kk:Nat):Int),((pl:Nat):Int))],hlt,rfl,hC2.step hk,(fun r=>?_),rfl,rfl,rfl,rfl,Qc (by omega),H⟩,by omega⟩;rw[mem_append,hD2,htk];constructor
     ·rintro((h1|⟨h1,h2⟩)|h1)
      ·exact .inl h1
      ·exact .inr ⟨mem_append.2 (.inl h1),h2⟩
      ·refine .inr ⟨mem_append.2 (.inr h1),?_⟩;rw[mem_singleton] at h1;subst h1;rintro⟨k',h3,h4⟩;have h4:((kk:Nat):Int)=((k':Nat):Int):=h4;obtain rfl:kk=k':=by omega
       exact hkG h3
     ·rintro(h1|⟨h1,h2⟩)
      ·exact .inl (.inl h1)
      ·rcases mem_append.1 h1 with h1|h1
       ·exact .inl (.inr ⟨h1,h2⟩)
       ·exact .inr h1
   ·have hge:i=rs.length:=by omega
    subst hge;rw[take_length] at hD2
    have hChr:Wn s G (ks++[k]) D2:=by
     intro r;rw[hD2,hrs,hC1.rem];constructor
     ·rintro(h0|⟨h1,h2⟩)
      ·obtain⟨⟨t,h1,h2⟩,h3⟩:=(hD1 r).1 h0;exact⟨⟨t,mem_append.2 (.inl h1),h2⟩,h3⟩
      ·split at h1
       ·cases h1
       ·exact⟨⟨k,by simp,h1⟩,h2⟩
     ·rintro⟨⟨t,h1,h2⟩,h3⟩
      rcases mem_append.1 h1 with h1|h1
      ·exact .inl ((hD1 r).2 ⟨⟨t,h1,h2⟩,h3⟩)
      ·rw[mem_singleton] at h1;subst h1;refine .inr ⟨?_,h3⟩;rw[if_neg]
       ·exact h2
       ·intro h4;obtain⟨⟨t',h5,h6⟩,_⟩:=(hD1 r).1 h4;rw[h2] at h6;injection h6 with h6
        obtain rfl:t=t':=by omega
        exact hkn h5
    subst hLB;replace H:=Js [2,0,1,1,1] 1 H;exact⟨rfl,_,H,fun w H=>⟨rfl,hin _ _ _ _ _ hC2 hChr H⟩⟩
  ·clear H;rintro v w H;obtain⟨s1,Dl,hC1,hD1,H⟩:=hout _ _ _ H;subst hL;refine⟨_,H,fun w H=>?_⟩;replace H:=Js [0,0,0,0,2,2,2] 2 H;exact⟨rfl,⟨D,s1,Dl,rfl,hC1,hD1,H⟩,rfl,rfl,rfl⟩
 clear H;rintro ms σ w ⟨⟨D,s1,Dl,rfl,hC1,hD1,H⟩,g2,g7,g9⟩;rw[Q1 g2,Q1 g7,Q1 g9];have hLnd:=hL1;clear hL1;replace H:=Js [1,1,0] 0 H;refine Zg H ?_;refine Jc rfl rfl (FU bg G (by omega) H) ?_;clear H;rintro v w ⟨bv2,av2,cv2,rfl,H⟩;refine J2 H ?_;replace H:=Js [5,5,0,0,1,1,1,1] 1 H;refine J6 H ?_;refine Qk (fun ms σ w=>(∃ (D2:Nat) (s2:CS),ms=[D2,D]∧Xb s1 G s2∧XP s2∧Q0 w (Gf p q s2::pts b2 (row 45 [pp p])::pts D2 (.deferred (some []))::pts D (.deferred (some []))::IL (.slice aL L.length cL) L::Qf q.trp s.last (L.foldl QC s.par)::fr))∧σ 2=pp b2∧σ 7 = .slice aL L.length cL) ?_ ?_
 ·refine QP (Xn (a:=[]) (b:=[pp bv2]) H rfl (fun yl D2 w H=>?_));generalize hL:LR _ yl _ _ _ _ D2 .ready=LRR at H ⊢;obtain⟨J,hJ⟩:∃ J:List Nat→Q2,J=fun ks=>ex fun x:CS=>star [prop (Xb s1 ks x∧XP x),LRR,Gf p q x,pts b2 (row 45 [pp p])]:=⟨_,rfl⟩
  have hin:∀ (ks:List Nat) (s2:CS) (w:World) (l':List Q2),Xb s1 ks s2→XP s2→Q0 w (LRR::Gf p q s2::pts b2 (row 45 [pp p])::l')→Q0 w (J ks::l'):=by
   intro ks s2 w l' h1 h2 H;rw[hJ];exact Q0.ex.2 ⟨s2,Q0.star.2 (Q0.prop.2 ⟨⟨h1,h2⟩,H⟩)⟩
  have hout:∀ (ks:List Nat) (w:World) (l':List Q2),Q0 w (J ks::l')→∃ s2,Xb s1 ks s2∧XP s2∧Q0 w (LRR::Gf p q s2::pts b2 (row 45 [pp p])::l'):=by
   intro ks w l' H;rw[hJ] at H;obtain⟨s2,H⟩:=Q0.ex.1 H;obtain⟨⟨h1,h2⟩,H⟩:=Q0.prop.1 (Q0.star.1 H);exact⟨s2,h1,h2,H⟩
  replace H:=Js [0,6,1,2,2,0,0,1,1] 1 H;replace H:=hin [] s1 _ _ (Xb.start hC1.nd) (hC1.rk hI.rk) H;refine call (FX yl bv2 av2 cv2 G (by omega) J ?_ H) ?_
  ·clear H;intro ks k tt rest w hpre H;obtain⟨s2,hN,hR2,H⟩:=hout _ _ _ H;subst hL;have hkG:k∈G:=by rw[hpre];simp
   have hkn:k∉ks:=fun h=>by
    have h1:=hG.1;rw[hpre,pairwise_append] at h1;have:=h1.2.2 k h k mem_cons_self;omega
   obtain⟨g,e,hk,_⟩:=(hG.2 k).1 hkG;have hk1:=hC1.tab k _ hk;have hk2:=hN.tab k _ hk1;rw[if_neg hkn] at hk2;refine XX (args:=[.int .i64 k]) H rfl rfl ?_;refine VF H ?_;refine⟨rfl,_,H,fun w H=>QP ?_⟩;generalize hLB:LR _ yl _ _ _ _ D2 .busy=LB at H ⊢;replace H:=Js [1,0] 0 H;refine Ux H ?_;refine Jc rfl rfl (dR p q s2 (by rw[hN.par,hC1.par];exact hT.nd) k g (VC Dl k e) hk2 (hgen k g e hk) hR2 H) ?_;clear H;rintro v w ⟨rfl,s3,hL3',H⟩;refine J2 H ?_;subst hLB;replace H:=Js [1,0,0] 0 H;exact⟨rfl,_,H,fun w H=>⟨rfl,hin _ _ _ _ (hN.step hk1 hL3') (hL3'.rk hR2) H⟩⟩
  ·clear H;rintro v w H;obtain⟨s2,hN,hR2,H⟩:=hout _ _ _ H;subst hL;refine⟨_,H,fun w H=>?_⟩;replace H:=Js [0,0,2,2,2,2] 2 H;exact⟨rfl,⟨D2,s2,rfl,hN,hR2,H⟩,rfl,rfl⟩
 clear H;rintro ms σ w ⟨⟨D2,s2,rfl,hN,hR2,H⟩,g2,g7⟩;rw[Q1 g2,Q1 g7]
 have hno:∀ x∈L,∀ (k g:Nat) (e:Q8),s2.tab[k]? = some ⟨g,some e⟩→e.region≠x:=by
  intro x hx k g e hk hr
  have hlt:k < s1.tab.length:=by
   have:=(List.getElem?_eq_some_iff.1 hk).1;rw[hN.tabl] at this;exact this
  have hlt':k < s.tab.length:=by rw[hC1.tabl] at hlt;exact hlt
  have h1:=hC1.tab k _ (getElem?_eq_getElem hlt');have h2:=hN.tab k _ h1;rw[hk] at h2;split at h2
  ·injection h2 with h2
   injection h2 with _ h2
   cases h2
  ·rename_i hkG;injection h2 with h2
   injection h2 with h3 h4
   cases he:(s.tab[k]).ent with
   | none=>rw[he] at h4;cases h4
   | some e0=>
    rw[he] at h4;injection h4 with h4
    refine hkG ((hG.2 k).2 ⟨(s.tab[k]).gen,e0,?_,?_⟩)
    ·rw[getElem?_eq_getElem hlt',← he]
    ·have h5:e.region=e0.region:=by rw[h4];rfl
     rw[← h5,hr];exact hx
 have hpar2:s2.par=s.par:=hN.par.trans hC1.par;refine YZ H ?_;refine Bx H ?_;refine Qk (fun ms σ w=>ms=[D2,D]∧∃ s3:CS,Kt s2 L s3∧σ 2=pp b2∧σ 7 = .slice aL L.length cL∧Q0 w (Gf p q s3::pts b2 (row 45 [pp p])::pts D2 (.deferred (some []))::pts D (.deferred (some []))::IL (.slice aL L.length cL) L::Qf q.trp s.last (L.foldl QC s.par)::fr)) ?_ ?_
 ·refine QP ?_;refine Ql (fun ms σ w z=>ms=[D2,D]∧∃ (i:Nat) (s3:CS),i≤L.length∧z=L.length - i∧Kt s2 (L.take i) s3∧σ 2=pp b2∧σ 7 = .slice aL L.length cL∧σ 100 = .slice aL L.length cL∧σ 101 = .int .i64 L.length∧σ 102 = .int .i64 i∧Q0 w (Gf p q s3::pts b2 (row 45 [pp p])::pts D2 (.deferred (some []))::pts D (.deferred (some []))::IL (.slice aL L.length cL) L::Qf q.trp s.last (L.foldl QC s.par)::fr)) (m:=L.length) ⟨rfl,0,s2,by omega,rfl,Kt.start s2,rfl,rfl,rfl,rfl,rfl,H⟩ ?_;clear H;rintro ms σ w z ⟨rfl,i,s3,hi,rfl,hE,g2,g7,g100,g101,g102,H⟩;rw[Q1 g2,Q1 g7,Q1 g100,Q1 g101,Q1 g102];refine J8 H ?_;refine Qj rfl (fun h=>QD ?_) (fun h=>Qp ?_)
  ·have hlt:i < L.length:=by omega
   have hx:=getElem?_eq_getElem hlt;have htk:L.take (i+1)=L.take i++[L[i]]:=by rw[take_add_one,hx];rfl
   have hnt:L[i]∉L.take i:=fun hh=>by
    obtain⟨j,hj⟩:=getElem?_of_mem hh;rw[getElem?_take] at hj;split at hj
    ·rename_i hji;obtain⟨hj1,hj2⟩:=List.getElem?_eq_some_iff.1 hj;exact(pairwise_iff_getElem.1 hLnd) j i hj1 hlt hji hj2
    ·cases hj
   have hxL:=getElem_mem hlt;have hxm:=hLm _ hxL;generalize L[i]=x at hx htk hnt hxm hxL;replace H:=Js [4,0,0,0,0] 0 H;obtain⟨bT,sT,rfl,H,hcl⟩:=V3 H (by omega);refine YB H ?_;refine Jd ?_;refine Q5 rfl (QB H rfl (by simpa using Ue hx) rfl ?_);refine J0 H ?_;replace H:=hcl _ _ H;replace H:=Js [1,0] 0 H;obtain⟨mem3,hw3,hm3,H⟩:=Ck H;have hnd3:(s3.par.map (·.1)).Nodup:=by rw[hE.par];exact FM _ (by rw[hpar2];exact hT.nd)
   have hxp:x∈s3.par.map (·.1):=by
    rw[hE.par];refine Oj hnt ?_;rw[hpar2,← hw.mkeys];exact hxm
   obtain⟨b0,hkS⟩:=Kj (l:=s3.sps) (f:=fun x=>x.1) (g:=fun x=>x.2.1) (k:=x) (by rw[hw3.skeys];exact hxp);obtain⟨⟨r1,b0',SP⟩,p1,p2,hsps,hs1,hs2⟩:=Ki hkS;obtain rfl:r1=x:=hs1;obtain rfl:b0'=b0:=hs2;obtain⟨b1,hkM⟩:=Kj (l:=s3.mns) (f:=fun x=>x.1) (g:=fun x=>x.2.1) (k:=r1) (by rw[hw3.mkeys];exact hxp);obtain⟨⟨r2,b1',M⟩,m1,m2,hmns,hs3,hs4⟩:=Ki hkM;obtain rfl:r2=r1:=hs3;obtain rfl:b1'=b1:=hs4;have hkS':QY (s3.sps.map VJ) r2=some b0':=hkS;have hSx:(r2,b0',SP)∈s3.sps:=by rw[hsps];simp
   obtain⟨hp1,hp2,hp3,hp4,hp5,hp6⟩:=Aw hw3 hSx;replace H:=Js [11,0,7,7,3,6,6,0,0,0,0,0,0] 0 H;replace H:=Js [1,0,6,6,2,5,6,0,0,0,0,0,0] 0 H;refine Uz H ?_;refine Q5 rfl (G0 (key:=r2) H rfl rfl Vf rfl ?_);rw[hkS'];replace H:=Js [6,3,0,0,0,0,0,0,0,0,0,0,0] 0 H;replace H:Q0 w (Qm b0' q.sp r2.toNat SP::star ((p1++p2).map (VL q.sp))::_):=(Q0.pick (R:=VL q.sp) (x:=(r2,b0',SP)) hsps).1 H;replace H:=Js [0,1,0] 0 H;refine Jc rfl rfl (Nx b0' q.sp r2.toNat SP s3.size mem3 s3.own hp2 hp4 hp5 hp1 hp3 hw3.own.2 hw3.size.2 hp6 H) ?_;clear H;rintro v w ⟨rfl,own',hol,hog,H⟩;refine J2 H ?_;replace H:=Js [8,0,0,0,0,0,0,0,0] 0 H;replace H:Q0 w (Qu b1' M::star ((m1++m2).map V8)::_):=(Q0.pick (R:=V8) (x:=(r2,b1',M)) hmns).1 H;replace H:=H.drop;replace H:=Js [4,3,0,0,0,0,0,0,0,0,0,0,0] 0 H;refine Uz H ?_;refine Q5 rfl (Xk (key:=r2) H rfl rfl Vf rfl ?_);clear H;intro w H;refine J2 H ?_;refine Uz H ?_;refine Q5 rfl (Xk (key:=r2) H rfl rfl Vf rfl ?_);clear H;intro w H;refine XB H ?_
   have hkeyS:QC (s3.sps.map VJ) r2=(p1++p2).map VJ:=by
    have h1:=hnd3;rw[← hw3.skeys,hsps] at h1;rw[hsps,map_append,map_cons,map_append];exact WO (p:=(r2,b0')) (by rw[map_append,map_cons] at h1 ⊢;rw[map_map,map_map];exact h1)
   have hkeyM:QC (s3.mns.map V0) r2=(m1++m2).map V0:=by
    have h1:=hnd3;rw[← hw3.mkeys,hmns] at h1;rw[hmns,map_append,map_cons,map_append];exact WO (p:=(r2,b1')) (by rw[map_append,map_cons] at h1 ⊢;rw[map_map,map_map];exact h1)
   rw[hkeyS,hkeyM] at H;replace H:=Js [1,10,4,2,3,3,6,2,2,1,0,1,1,0] 0 H;have hwE:=dP hw3 hnd3 (fun k g e hk=>hno r2 hxL k g e (by rw[← hE.tab];exact hk)) hsps hmns (own':=own') ⟨hol,hog⟩;have hmE:=dS (s':={ s3 with own:=own',par:=QC s3.par r2,sps:=p1++p2,mns:=m1++m2 }) hm3 hol rfl rfl;replace H:=Cl hwE hmE H
   exact⟨_,⟨rfl,i+1,{ s3 with own:=own',par:=QC s3.par r2,sps:=p1++p2,mns:=m1++m2 },hlt,rfl,by rw[htk];exact hE.step r2 hol _ _ (hog:=fe hog (hw3.spc _ hSx).owned) (fun y hy hn=>by
    rw[hsps] at hy
    rcases mem_append.1 hy with h1|h1
    ·exact mem_append.2 (.inl h1)
    ·rcases mem_cons.1 h1 with h1|h1
     ·exact absurd (by rw[h1]) hn
     ·exact mem_append.2 (.inr h1)),rfl,rfl,rfl,rfl,Qc (by omega),H⟩,by omega⟩
  ·have hge:i=L.length:=by omega
   subst hge;rw[take_length] at hE;exact⟨rfl,rfl,s3,hE,rfl,rfl,H⟩
 clear H;rintro ms σ w ⟨rfl,s3,hE,g2,g7,H⟩;rw[Q1 g2,Q1 g7];refine VX H ?_;replace H:=Js [2,2,0,2,1] 1 H;have hpar3:s3.par=L.foldl QC s.par:=by rw[hE.par,hpar2]
 have hlast3:s3.last=s.last:=by rw[hE.last,hN.last,hC1.last]
 rw[← hpar3,← hlast3] at H;exact Q3 (MU (ms:=[D2,D]) _ (.inr rfl) (Q0.star.2 H) (fun w' H' => .tmp (.tmp .nil)) fun w' H'=>⟨_,L,s3,rfl,hLnd,hL2,hL3,hL4,⟨G,Dl,s1,s2,hG,hC1,hD1,hN,hE⟩,(dK H').swap⟩)
def YV (objs:List QI) (k t:Nat):Bool:=k == 2 && ((objs[t]?).map QI.gone).getD false
def Za (objs:List QI) (x:QI):QI:={ x with kind:=(x.kind.zip x.to).map (fun y=>if YV objs y.1 y.2=true then 1 else y.1),to:=(x.kind.zip x.to).map (fun y=>if YV objs y.1 y.2=true then 0 else y.2) }
def Qd (L:List Nat) (x:QI):QI:=if x.region∈L then { x with gone:=true } else x
def KV (m:MS) (L:List Nat):MS:={ m with P:=Vu m.P L,objs:=(m.objs.map (Qd L)).map (Za (m.objs.map (Qd L))) }
theorem Iv {objs:List QI} {x:QI} (h:x.kind.length=x.to.length) {p:Nat} (hp:p < x.kind.length):(Za objs x).kind.getD p 0=(if YV objs (x.kind.getD p 0) (x.to.getD p 0)=true then 1 else x.kind.getD p 0)∧(Za objs x).to.getD p 0=(if YV objs (x.kind.getD p 0) (x.to.getD p 0)=true then 0 else x.to.getD p 0):=by
 have h1:=getElem?_eq_getElem hp;have h2:=getElem?_eq_getElem (show p < x.to.length by omega);have hz:(x.kind.zip x.to)[p]? = some (x.kind[p],x.to[p]'(by omega)):=getElem?_zip_eq_some.2 ⟨h1,h2⟩;unfold Za;simp only[getD_eq_getElem?_getD,getElem?_map,hz,h1,h2,Option.map_some,Option.getD_some];exact⟨trivial,trivial⟩
theorem Iw {L:List Nat} {x:QI}:(Qd L x).gone=true↔x.gone=true∨x.region∈L:=by
 unfold Qd;by_cases h:x.region∈L
 ·rw[if_pos h];exact⟨fun _ => .inr h,fun _=>rfl⟩
 ·rw[if_neg h];exact⟨.inl,fun h1=>h1.elim id fun h2=>absurd h2 h⟩
theorem ff (L:List Nat) (x:QI):(Qd L x).region=x.region∧(Qd L x).lay=x.lay∧(Qd L x).count=x.count∧(Qd L x).held=x.held∧(Qd L x).pinned=x.pinned∧(Qd L x).w=x.w∧(Qd L x).kind=x.kind∧(Qd L x).to=x.to:=by
 unfold Qd;split <;> exact⟨rfl,rfl,rfl,rfl,rfl,rfl,rfl,rfl⟩
theorem Ix {m:MS} {L:List Nat} {o:Nat} {x':QI} (h:(KV m L).objs[o]? = some x'):∃ x,m.objs[o]? = some x∧x'=Za (m.objs.map (Qd L)) (Qd L x):=by
 have h:((m.objs.map (Qd L)).map (Za (m.objs.map (Qd L))))[o]? = some x':=h;rw[getElem?_map,getElem?_map] at h;cases hx:m.objs[o]? with
 | none=>rw[hx] at h;cases h
 | some x=>
  rw[hx] at h;injection h with h
  exact⟨x,rfl,h.symm⟩
theorem Iy {m:MS} {L:List Nat} {k t:Nat}:YV (m.objs.map (Qd L)) k t=true↔k=2∧∃ x,m.objs[t]? = some x∧(x.gone=true∨x.region∈L):=by
 unfold YV;rw[Bool.and_eq_true,beq_iff_eq,getElem?_map];refine and_congr_right fun _=>?_;cases hx:m.objs[t]? with
 | none=>exact⟨fun h=>(by cases h),fun ⟨x,h,_⟩=>(by cases h)⟩
 | some x=>
  show (Qd L x).gone=true↔_;rw[Iw];exact⟨fun h=>⟨x,rfl,h⟩,fun ⟨y,h1,h2⟩=>(by injection h1 with h1;subst h1;exact h2)⟩
theorem fg {m:MS} (h:V9 m) (L:List Nat):V9 (KV m L):=by
 refine⟨?_,h.lays,fun x' hx'=>?_,?_⟩
 ·show 1≤(Vu m.P L).length∧(Vu m.P L).length≤_;unfold Vu;rw[length_mapIdx];exact h.P
 ·obtain⟨o,ho⟩:=getElem?_of_mem hx';obtain⟨x,hx,rfl⟩:=Ix ho;obtain⟨a,b,c,d,e⟩:=h.objs x (mem_of_getElem? hx);obtain⟨s1,s2,s3,s4,s5,s6,s7,s8⟩:=ff L x;have hl:(KV m L).objs.length=m.objs.length:=by show (((m.objs.map (Qd L)).map (Za _))).length=_;rw[length_map,length_map]
  refine⟨?_,?_,?_,?_,fun p hp=>?_⟩
  ·show ∃ l,m.lays[(Qd L x).lay - 1]? = some l∧Vh l∧VQ l (Qd L x).count=((Qd L x).w.length,0);rw[s2,s3,s6];exact a
  ·show 1≤(Qd L x).lay;rw[s2];exact b
  ·show (List.map _ ((Qd L x).kind.zip (Qd L x).to)).length=(Qd L x).w.length;rw[length_map,length_zip,s6,s7,s8,c,d,Nat.min_self]
  ·show (List.map _ ((Qd L x).kind.zip (Qd L x).to)).length=(Qd L x).w.length;rw[length_map,length_zip,s6,s7,s8,c,d,Nat.min_self]
  ·rw[hl]
   have hp':p < (Qd L x).kind.length:=by
    have:=(List.getElem?_eq_some_iff.1 hp).1
    have h2:(Za (m.objs.map (Qd L)) (Qd L x)).kind.length=(Qd L x).kind.length:=by
     show (List.map _ ((Qd L x).kind.zip (Qd L x).to)).length=_;rw[length_map,length_zip,s7,s8,c,d,Nat.min_self]
    omega
   obtain⟨g1,g2⟩:=Iv (objs:=m.objs.map (Qd L)) (x:=Qd L x) (by rw[s7,s8,c,d]) hp';rw[g2];have hp2:(Za (m.objs.map (Qd L)) (Qd L x)).kind.getD p 0=2:=by rw[getD_eq_getElem?_getD,hp];rfl
   rw[g1] at hp2;split at hp2
   ·cases hp2
   ·rename_i hh;rw[if_neg hh,s8];rw[s7] at hp2 hp';refine e p ?_;rw[getElem?_eq_getElem hp'];rw[getD_eq_getElem?_getD,getElem?_eq_getElem hp'] at hp2;rw[← hp2];rfl
 ·show ((m.objs.map (Qd L)).map (Za _)).length≤_;rw[length_map,length_map];exact h.few
theorem Ol (P:List Int) (L:List Nat) (k:Nat):(Vu P L)[k]? = (P[k]?).map fun q=>if k∈L then -1 else q:=by
 unfold Vu;rw[getElem?_mapIdx]
theorem FO:∀ (ks:List Int) {m:List (Int×Int)},(m.map (·.1)).Nodup→∀ r,QY (ks.foldl QC m) r=if r∈ks then none else QY m r
 | [],m,h,r=>by rw[if_neg (by simp)];rfl
 | k::ks,m,h,r=>by
  show QY (ks.foldl QC (QC m k)) r=_;rw[FO ks (XU h),Xh h];by_cases h1:r∈ks
  ·rw[if_pos h1,if_pos (mem_cons_of_mem _ h1)]
  ·rw[if_neg h1];by_cases h2:k=r
   ·subst h2;rw[if_pos rfl,if_pos mem_cons_self]
   ·rw[if_neg h2,if_neg];intro h3
    rcases mem_cons.1 h3 with h3|h3
    ·exact h2 h3.symm
    ·exact h1 h3
structure XQ (s:CS) (L:List Int) (G:List Nat) (D:List Rf) (s':CS):Prop where
 size:s'.size=s.size
 own:s'.own.length=s.own.length
 lays:s'.lays=s.lays
 last:s'.last=s.last
 par:s'.par=L.foldl QC s.par
 tabl:s'.tab.length=s.tab.length
 tab:∀ (k:Nat) (t:QK),s.tab[k]? = some t→s'.tab[k]? = some (if k∈G then ⟨t.gen,none⟩ else ⟨t.gen,t.ent.map (VC D k)⟩)
 nd:(s'.rem.map (·.1)).Nodup
 rem:∀ r,QY s'.rem r=if ∃ k∈G,r.1=((k:Nat):Int) then none else if r∈D then none else QY s.rem r
 gone:KQ s L G
 cut:Wn s G G D
 part:Y0 s→Y0 s'
 owns:∀ j,s'.own.getD j 0=if ((s.own.getD j 0:Nat):Int)∈L then 0 else s.own.getD j 0
theorem FN.t {s s':CS} {L:List Int} (h:FN s L s'):∃ G D,XQ s L G D s':=by
 obtain⟨G,Dl,s1,s2,hG,hC,hD,hN,hE⟩:=h;refine⟨G,Dl,by rw[hE.size,hN.size,hC.size],by rw[hE.own,hN.own,hC.own],by rw[hE.lays,hN.lays,hC.lays],by rw[hE.last,hN.last,hC.last],by rw[hE.par,hN.par,hC.par],by rw[hE.tab,hN.tabl,hC.tabl],fun k t hk=>?_,by rw[hE.rem];exact hN.nd,fun r=>by rw[hE.rem,hN.rem,hC.rem],hG,hD,fun hP k g e' hk=>?_,fun j=>by rw[hE.owns,hN.own,hC.own]⟩
 ·rw[hE.tab,hN.tab k _ (hC.tab k t hk)]
 ·have hlt:k < s.tab.length:=by
   have:=(List.getElem?_eq_some_iff.1 hk).1;rw[hE.tab,hN.tabl,hC.tabl] at this;exact this
  have h1:=getElem?_eq_getElem hlt;generalize s.tab[k]=t at h1;rw[hE.tab,hN.tab k _ (hC.tab k t h1)] at hk;split at hk
  ·injection hk with hk
   injection hk with _ hk
   cases hk
  ·rename_i hkG;injection hk with hk
   injection hk with hg he
   obtain⟨tg,te⟩:=t;cases te with
   | none=>cases he
   | some e=>
    injection he with he
    subst he;have hreg:e.region∉L:=fun h=>hkG ((hG.2 k).2 ⟨tg,e,h1,h⟩);obtain⟨x,hx,hx1,y,hy,hy1⟩:=hP k tg e h1;have hsz:s'.size=s.size:=by rw[hE.size,hN.size,hC.size]
    refine⟨x,hE.sps x (by rw[hN.sps,hC.sps];exact hx) (by rw[hx1];exact hreg),hx1,y,hy,?_⟩;rw[hsz];exact hy1.alike rfl (Kl _ _ _)
theorem XQ.from {s s':CS} {L:List Int} {G:List Nat} {D:List Rf} (h:XQ s L G D s') {k g:Nat} {e':Q8} (hk:s'.tab[k]? = some ⟨g,some e'⟩):k∉G∧∃ e,s.tab[k]? = some ⟨g,some e⟩∧e'=VC D k e:=by
 have hlt:k < s.tab.length:=by
  have:=(List.getElem?_eq_some_iff.1 hk).1;rw[h.tabl] at this;exact this
 have h1:=getElem?_eq_getElem hlt;generalize s.tab[k]=t at h1;have h2:=h.tab k t h1;rw[hk] at h2;obtain⟨g0,e0⟩:=t;split at h2
 ·injection h2 with h2
  injection h2 with _ h2
  cases h2
 ·rename_i hG;injection h2 with h2
  injection h2 with h3 h4
  subst h3;cases e0 with
  | none=>cases h4
  | some e=>
   injection h4 with h4
   exact⟨hG,e,h1,h4⟩
theorem Cs {D:List Rf} {k:Nat} {e:Q8} {p:Nat} (hp:p < e.ws.length):(VC D k e).ws.getD p 0=if ((k:Int),(p:Int))∈D then 1 else e.ws.getD p 0:=by
 rw[getD_eq_getElem?_getD,IM,getD_eq_getElem?_getD,getElem?_eq_getElem hp];rfl
theorem Om {D:List Rf} {k:Nat} {e:Q8} {p:Nat} (hp:p < e.ws.length) {a b:Nat} (h:Qx (VC D k e) p = .obj a b):((k:Int),(p:Int))∉D∧Qx e p = .obj a b:=by
 unfold Qx at h ⊢;rw[Cs hp] at h;split at h
 ·cases h
 ·rename_i h1;exact⟨h1,h⟩
theorem Ku {ts:List QK} {a b:Nat} {f:Q8} (h:ts[a]? = some ⟨b,some f⟩):QS ts a b=some (a,f):=Y9.2 ⟨b,rfl,rfl,h⟩
theorem XQ.cutIff {s s':CS} {L:List Int} {G:List Nat} {D:List Rf} (h:XQ s L G D s') (hI:Inv s) {k g p:Nat} {e:Q8} (hk:s.tab[k]? = some ⟨g,some e⟩) (hG:k∉G) (hp:p < e.ws.length):((k:Int),(p:Int))∈D↔VV (QJ s e) p=true∧∃ (a b:Nat) (f:Q8),Qx e p = .obj a b∧s.tab[a]? = some ⟨b,some f⟩∧f.region∈L:=by
 rw[h.cut];constructor
 ·rintro⟨⟨t,ht,hr⟩,_⟩;obtain⟨k',p',g',e',a,b,f,h1,h2,h3,h4,h5,h6,h7,h8⟩:=(hI.rem _ _).1 hr;injection h1 with h1 h9
  obtain rfl:k=k':=by omega
  obtain rfl:p=p':=by omega
  rw[hk] at h2;injection h2 with h2
  injection h2 with h2 h2'
  subst h2;injection h2' with h2'
  subst h2';obtain⟨_,h10⟩:=Zt h6;obtain rfl:t=a:=by omega
  obtain⟨g2,f2,h11,h12⟩:=(h.gone.2 t).1 ht;rw[h10] at h11;injection h11 with h11
  injection h11 with _ h11
  injection h11 with h11
  subst h11;exact⟨h4,t,b,f,h5,h10,h12⟩
 ·rintro⟨h4,a,b,f,h5,h6,h7⟩;refine⟨⟨a,(h.gone.2 a).2 ⟨b,f,h6,h7⟩,(hI.rem _ _).2 ⟨k,p,g,e,a,b,f,rfl,hk,hp,h4,h5,Ku h6,fun h8=>?_,rfl⟩⟩,?_⟩
  ·exact hG ((h.gone.2 k).2 ⟨g,e,hk,by rw[← h8];exact h7⟩)
  ·rintro⟨k',h9,h10⟩;have h10:((k:Nat):Int)=((k':Nat):Int):=h10;obtain rfl:k=k':=by omega
   exact hG h9
theorem XQ.lay {s s':CS} {L:List Int} {G:List Nat} {D:List Rf} (h:XQ s L G D s') (k:Nat) (e:Q8):QJ s' (VC D k e)=QJ s e:=by
 unfold QJ;rw[h.lays];rfl
theorem XQ.at {s s':CS} {L:List Int} {G:List Nat} {D:List Rf} (h:XQ s L G D s') {k g:Nat} {e:Q8} (hk:s.tab[k]? = some ⟨g,some e⟩) (hG:k∉G):s'.tab[k]? = some ⟨g,some (VC D k e)⟩:=by
 rw[h.tab k _ hk,if_neg hG];rfl
theorem fh {s s':CS} {L:List Int} {G:List Nat} {D:List Rf} (h:XQ s L G D s') (hI:Inv s):Inv s':=by
 refine⟨h.nd,fun r t=>?_,fun k g e' p a b hk hp hr hl=>?_⟩
 ·rw[h.rem];constructor
  ·intro hr;split at hr
   ·cases hr
   ·rename_i hn;split at hr
    ·cases hr
    ·rename_i hD;obtain⟨k,p,g,e,a,b,f,rfl,hk,hp,hrf,hl,hlo,hfar,rfl⟩:=(hI.rem _ _).1 hr;have hkG:k∉G:=fun h1=>hn ⟨k,h1,rfl⟩;obtain⟨_,ha⟩:=Zt hlo;have haG:a∉G:=fun h1=>hD ((h.cut _).2 ⟨⟨a,h1,hr⟩,fun ⟨k',h2,h3⟩=>hn ⟨k',h2,h3⟩⟩);refine⟨k,p,g,VC D k e,a,b,VC D a f,rfl,h.at hk hkG,by rw[Kl];exact hp,by rw[h.lay];exact hrf,?_,Ku (h.at ha haG),hfar,rfl⟩;unfold Qx;rw[Cs hp,if_neg hD];exact hl
  ·rintro⟨k,p,g,e',a,b,f',rfl,hk,hp,hrf,hl,hlo,hfar,rfl⟩;obtain⟨hkG,e,hk0,rfl⟩:=h.from hk;rw[Kl] at hp;obtain⟨hD,hl0⟩:=Om hp hl;obtain⟨_,ha⟩:=Zt hlo;obtain⟨haG,f,ha0,rfl⟩:=h.from ha;rw[h.lay] at hrf
   rw[if_neg (by
    rintro⟨k',h1,h2⟩;have h2:((k:Nat):Int)=((k':Nat):Int):=h2;obtain rfl:k=k':=by omega
    exact hkG h1),if_neg hD]
   exact(hI.rem _ _).2 ⟨k,p,g,e,a,b,f,rfl,hk0,hp,hrf,hl0,Ku ha0,hfar,rfl⟩
 ·obtain⟨hkG,e,hk0,rfl⟩:=h.from hk;rw[Kl] at hp;obtain⟨hD,hl0⟩:=Om hp hl;rw[h.lay] at hr;obtain⟨f,hf⟩:=hI.link k g e p a b hk0 hp hr hl0;obtain⟨_,ha⟩:=Zt hf
  have haG:a∉G:=fun h1=>hD ((h.cutIff hI hk0 hkG hp).2 ⟨hr,a,b,f,hl0,ha,by
   obtain⟨g2,f2,h11,h12⟩:=(h.gone.2 a).1 h1;rw[ha] at h11;injection h11 with h11
   injection h11 with _ h11
   injection h11 with h11
   subst h11;exact h12⟩)
  exact⟨_,Ku (h.at ha haG)⟩
theorem fj {par:List (Int×Int)} {L:List Int} (h:Yo par) {region:Int} (hL:∀ c,c∈L↔ZO par region c):Yo (L.foldl QC par):=by
 refine⟨FM L h.nd,fun r q hr=>?_⟩;rw[FO L h.nd] at hr;split at hr
 ·cases hr
 ·rename_i hn;obtain⟨h1,h2,h3⟩:=h.up r q hr;refine⟨h1,h2,h3.imp id fun h4=>?_⟩;rw[FO L h.nd,if_neg]
  ·exact h4
  ·intro h5;exact hn ((hL r).2 (.kid ((hL q).1 h5) hr))
theorem On {s s':CS} {m:MS} {told:List (Nat×Nat)} (R:Rel s m told) (hm:V9 m) (hI:Inv s) {L:List Nat} {G:List Nat} {D:List Rf} (h:XQ s (L.map fun k:Nat=>(k:Int)) G D s'):Rel s' (KV m L) told:=by
  have hLi:∀ k:Nat,((k:Nat):Int)∈L.map (fun k:Nat=>(k:Int))↔k∈L:=fun k=>by
    rw[mem_map]
    exact ⟨fun ⟨j, h1, h2⟩ => (by have : j = k := by omega
                                  rw[← this];exact h1),fun h1=>⟨k,h1,rfl⟩⟩
  have hlo:(KV m L).objs.length=m.objs.length:=by show (((m.objs.map (Qd L)).map (Za _))).length=_;rw[length_map,length_map]
  have hnd':(s'.par.map (·.1)).Nodup:=by rw[h.par];exact FM _ R.nd
  refine⟨by rw[hlo];exact R.len,by rw[h.lays];exact R.lays,fun r q=>?_,hnd',?_,?_,?_,?_,?_,R.nodup⟩
  · rw[← Z1 hnd',h.par,FO _ R.nd];constructor
    · intro hr;split at hr
      · cases hr
      · rename_i hn;obtain⟨k,rfl,h1,h2,h3⟩:=(R.tree r q).1 ((Z1 R.nd).1 hr);refine⟨k,rfl,h1,?_,h3⟩;show (Vu m.P L)[k]? = some q;rw[Ol,h2];show some (if k∈L then -1 else q)=some q;rw[if_neg (fun h4=>hn ((hLi k).2 h4))]
    · rintro⟨k,rfl,h1,h2,h3⟩;have h2:(Vu m.P L)[k]? = some q:=h2;rw[Ol] at h2;cases hP:m.P[k]? with
      | none=>rw[hP] at h2;cases h2
      | some q0=>
        rw[hP] at h2;injection h2 with h2
        have h2:(if k∈L then (-1:Int) else q0)=q:=h2;by_cases hk:k∈L
        · rw[if_pos hk] at h2;omega
        · rw[if_neg hk] at h2;subst h2;rw[if_neg (fun h4=>hk ((hLi k).1 h4))];exact(Z1 R.nd).2 ((R.tree _ _).2 ⟨k,rfl,h1,hP,h3⟩)
  · rw[h.last];show s.last+1=(Vu m.P L).length;unfold Vu;rw[length_mapIdx];exact R.last
  · intro o x' k g hx' ht hg;obtain⟨x,hx,rfl⟩:=Ix hx'
    have hg2:¬ ((Qd L x).gone=true):=by
      intro h1;have hg:(Qd L x).gone=false:=hg;rw[h1] at hg;cases hg
    rw[Iw] at hg2
    have hxg:x.gone=false:=by
      cases hh:x.gone with
      | false=>rfl
      | true=>exact absurd (.inl hh) hg2
    have hxr:x.region∉L:=fun h1=>hg2 (.inr h1);obtain⟨e,hk,hl⟩:=R.obj o x k g hx ht hxg;have hgm:Qd L x=x:=by unfold Qd;rw[if_neg hxr]
    rw[hgm]
    have hkG:k∉G:=fun h1=>by
      obtain⟨g2,f2,h11,h12⟩:=(h.gone.2 k).1 h1;rw[hk] at h11;injection h11 with h11
      injection h11 with _ h11
      injection h11 with h11
      subst h11;rw[hl.region] at h12;exact hxr ((hLi _).1 h12)
    obtain⟨hml,hm1,hkd,hto,hgo⟩:=hm.objs x (mem_of_getElem? hx);refine⟨VC D k e,h.at hk hkG,⟨hl.region,hl.lay,hl.count,hl.held,hl.pinned,by rw[Kl];exact hl.len,fun p hp hr=>?_,fun p hp hr=>?_,fun p hp hne=>?_⟩⟩
    · have hp:p < x.w.length:=hp;have hpe:p < e.ws.length:=by rw[hl.len];exact hp
      have hr:VV (Uj m.lays x.lay) p=true:=hr;have hre:VV (QJ s e) p=true:=by rw[Kr R.w hl];exact hr
      obtain⟨g1,g2⟩:=Iv (objs:=m.objs.map (Qd L)) (x:=x) (by rw[hkd,hto]) (p:=p) (by rw[hkd];exact hp);rw[g1,g2,Cs hpe];have hlk:=hl.ref p hp hr;by_cases hD:((k:Int),(p:Int))∈D
      · rw[if_pos hD];obtain⟨_,a,b,f,h5,h6,h7⟩:=(h.cutIff hI hk hkG hpe).1 hD;have h5:ZE (e.ws.getD p 0) = .obj a b:=h5;rw[hlk] at h5;unfold ZZ at h5;split at h5
        · rename_i h2;cases hta:told[x.to.getD p 0]? with
          | none=>rw[hta] at h5;cases h5
          | some y=>
            obtain⟨a',b'⟩:=y;rw[hta] at h5;injection h5 with h8 h9
            subst h8 h9;have hol:x.to.getD p 0 < m.objs.length:=by rw[← R.len];exact(List.getElem?_eq_some_iff.1 hta).1
            have hy:=getElem?_eq_getElem hol;generalize m.objs[x.to.getD p 0]=y at hy
            have hyg:y.gone=false:=by
              cases hh:y.gone with
              | false=>rfl
              | true=>exact absurd h6 (R.gone _ y _ _ hy hta hh f)
            obtain⟨f',h10,h11⟩:=R.obj _ y _ _ hy hta hyg;rw[h6] at h10;injection h10 with h10
            injection h10 with _ h10
            injection h10 with h10
            subst h10;have hit:YV (m.objs.map (Qd L)) (x.kind.getD p 0) (x.to.getD p 0)=true:=Iy.2 ⟨h2,y,hy,.inr (by rw[h11.region] at h7;exact(hLi _).1 h7)⟩;rw[if_pos hit,if_pos hit];rfl
        · split at h5 <;> cases h5
      · rw[if_neg hD]
        have hnh:¬ (YV (m.objs.map (Qd L)) (x.kind.getD p 0) (x.to.getD p 0)=true):=by
          intro hh;obtain⟨h2,y,hy,h3⟩:=Iy.1 hh;have hol:=(List.getElem?_eq_some_iff.1 hy).1;rw[← R.len] at hol;have hta:=getElem?_eq_getElem hol;generalize told[x.to.getD p 0]=ab at hta;obtain⟨a,b⟩:=ab
          have h5:Qx e p = .obj a b:=by
            unfold Qx;rw[hlk];unfold ZZ;rw[if_pos h2,hta];rfl
          obtain⟨f,hf⟩:=hI.link k g e p a b hk hpe hre h5;obtain⟨_,ha⟩:=Zt hf
          have hyg:y.gone=false:=by
            cases hh:y.gone with
            | false=>rfl
            | true=>exact absurd ha (R.gone _ y _ _ hy hta hh f)
          rcases h3 with h3|h3
          · rw[hyg] at h3;cases h3
          · obtain⟨f',h10,h11⟩:=R.obj _ y _ _ hy hta hyg;rw[ha] at h10;injection h10 with h10
            injection h10 with _ h10
            injection h10 with h10
            subst h10;exact hD ((h.cutIff hI hk hkG hpe).2 ⟨hre,a,b,f,h5,ha,by rw[h11.region];exact(hLi _).2 h3⟩)
        rw[if_neg hnh,if_neg hnh];exact hlk
    · have hp:p < x.w.length:=hp;have hpe:p < e.ws.length:=by rw[hl.len];exact hp
      have hr:VV (Uj m.lays x.lay) p=false:=hr;rw[Cs hpe,if_neg]
      · exact hl.word p hp hr
      · intro hD;have h1:=((h.cutIff hI hk hkG hpe).1 hD).1;rw[Kr R.w hl] at h1;have h1:VV (Uj m.lays x.lay) p=true:=h1;rw[hr] at h1;cases h1
    · have hp:p < x.w.length:=hp;obtain⟨g1,g2⟩:=Iv (objs:=m.objs.map (Qd L)) (x:=x) (by rw[hkd,hto]) (p:=p) (by rw[hkd];exact hp);show VV (Uj m.lays x.lay) p=true∧_;rw[g1] at hne ⊢;split at hne
      · rename_i hh;rw[if_pos hh];obtain⟨h2,_⟩:=Iy.1 hh;exact⟨(hl.kind p hp (by rw[h2];decide)).1,by decide⟩
      · rename_i hh;rw[if_neg hh];exact hl.kind p hp hne
  · intro o x' k g hx' ht hg e' hk';obtain⟨x,hx,rfl⟩:=Ix hx';obtain⟨hkG,e,hk,rfl⟩:=h.from hk';have hg:(Qd L x).gone=true:=hg
    rcases Iw.1 hg with h1|h1
    · exact R.gone o x k g hx ht h1 e hk
    · cases hh:x.gone with
      | true=>exact R.gone o x k g hx ht hh e hk
      | false=>
        obtain⟨e2,h2,h3⟩:=R.obj o x k g hx ht hh;rw[hk] at h2;injection h2 with h2
        injection h2 with _ h2
        injection h2 with h2
        subst h2;exact hkG ((h.gone.2 k).2 ⟨g,e,hk,by rw[h3.region];exact(hLi _).2 h1⟩)
  · intro k g e' hk';obtain⟨_,e,hk,_⟩:=h.from hk';exact R.used k g e hk
  · intro o k g ht;obtain⟨t,h1,h2⟩:=R.gens o k g ht;refine⟨_,h.tab k t h1,?_⟩;split <;> exact h2
theorem Iz {s:CS} {m:MS} {told:List (Nat×Nat)} (R:Rel s m told) (hT:Yo s.par):Wk m.P:=by
 intro i q h1 h2;by_cases h3:0≤q
 ·exact(hT.up _ _ ((Z1 hT.nd).2 ((R.tree _ _).2 ⟨i,rfl,h1,h2,h3⟩))).2.1
 ·omega
theorem Ct {par:List (Int×Int)} (hT:Yo par) {r:Int} (h:(QY par r).isSome=true):1≤r:=by
 cases hf:QY par r with
 | none=>rw[hf] at h;cases h
 | some q=>
  have:=hT.up r q hf;omega
theorem JQ {s:CS} {m:MS} {told:List (Nat×Nat)} (R:Rel s m told) (hT:Yo s.par) {id:Int} (hid:(QY s.par id).isSome=true):∀ (n c:Nat),c≤n→(QY s.par c).isSome=true→(Zw m.P id c=true↔ZO s.par id c)
 | 0,c,h1,h2=>by
  have:=Ct hT h2;omega
 | n+1,c,h1,h2=>by
  have hO:=Iz R hT;have hc1:=Ct hT h2;cases hf:QY s.par (c:Int) with
  | none=>rw[hf] at h2;cases h2
  | some q=>
   obtain⟨k,k1,k2,k3,k4⟩:=(R.tree _ _).1 ((Z1 hT.nd).1 hf);obtain rfl:c=k:=by omega
   have hcl:=(List.getElem?_eq_some_iff.1 k3).1;obtain⟨q1,q2,q3⟩:=hT.up _ _ hf;rw[Ob hO (by omega) (by omega),Int.toNat_natCast,getD_eq_getElem?_getD,k3];show (if (c:Int)=id then true else Zw m.P id q)=true↔_;by_cases h3:(c:Int)=id
   ·rw[if_pos h3,h3];exact⟨fun _ => .self,fun _=>rfl⟩
   ·rw[if_neg h3]
    rcases q3 with rfl|q3
    ·rw[Oc _ _ (Int.le_refl _)];refine⟨fun h=>(by cases h),fun h=>?_⟩
     rcases h.inv with h4|⟨k,h4,h5⟩
     ·exact absurd h4 h3
     ·rw[hf] at h4;injection h4 with h4
      subst h4;have h6:=h5.live hid;have:=Ct hT h6;omega
    ·obtain⟨d,rfl⟩:∃ d:Nat,q=d:=⟨q.toNat,by omega⟩;rw[JQ R hT hid n d (by omega) q3];constructor
     ·intro h;exact .kid h hf
     ·intro h
      rcases h.inv with h4|⟨k,h4,h5⟩
      ·exact absurd h4 h3
      ·rw[hf] at h4;injection h4 with h4
       subst h4;exact h5
theorem fk {s:CS} {m:MS} {told:List (Nat×Nat)} (R:Rel s m told) (hT:Yo s.par) {id:Int} (hid:(QY s.par id).isSome=true) {L:List Int} (h1:L.Nodup) (h2:L.Pairwise (·≤·)) (h3:∀ c,c∈L↔ZO s.par id c):L=(Zx m.P id).map fun k:Nat=>(k:Int):=by
 have hmem:∀ c:Nat,c∈Zx m.P id↔ZO s.par id c:=fun c=>by
  unfold Zx;rw[Od];constructor
  ·rintro⟨a,⟨b1,b2⟩,d⟩;have hk:m.P[c]? = some (m.P.getD c 0):=by rw[getD_eq_getElem?_getD,getElem?_eq_getElem a];rfl
   have hl:(QY s.par (c:Int)).isSome=true:=by
    rw[(Z1 hT.nd).2 ((R.tree _ _).2 ⟨c,rfl,b1,hk,b2⟩)];rfl
   exact(JQ R hT hid c c (Nat.le_refl _) hl).1 d
  ·intro h;have hl:=h.live hid;cases hf:QY s.par (c:Int) with
   | none=>rw[hf] at hl;cases hl
   | some q=>
    obtain⟨k,k1,k2,k3,k4⟩:=(R.tree _ _).1 ((Z1 hT.nd).1 hf);obtain rfl:c=k:=by omega
    refine⟨(List.getElem?_eq_some_iff.1 k3).1,⟨k2,?_⟩,(JQ R hT hid c c (Nat.le_refl _) hl).2 h⟩;rw[getD_eq_getElem?_getD,k3];exact k4
 have hs1:L.Pairwise (· < ·):=by
  have:=h2.and h1;exact this.imp fun h=>by omega
 have hs2:((Zx m.P id).map fun k:Nat=>(k:Int)).Pairwise (· < ·):=by
  rw[pairwise_map];have:(Zx m.P id).Pairwise (· < ·):=List.Pairwise.filter _ pairwise_lt_range;exact this.imp fun h=>by omega
 have key:∀ {a b:List Int},a.Pairwise (· < ·)→b.Pairwise (· < ·)→(∀ x,x∈a↔x∈b)→a=b:=by
  intro a
  induction a with
  | nil=>
   intro b _ _ h;cases b with
   | nil=>rfl
   | cons y b=>exact absurd ((h y).2 mem_cons_self) (by simp)
  | cons x a ih=>
   intro b ha hb h;cases b with
   | nil=>exact absurd ((h x).1 mem_cons_self) (by simp)
   | cons y b=>
    rw[pairwise_cons] at ha hb
    have hxy:x=y:=by
     rcases mem_cons.1 ((h x).1 mem_cons_self) with h4|h4
     ·exact h4
     ·rcases mem_cons.1 ((h y).2 mem_cons_self) with h5|h5
      ·exact h5.symm
      ·have:=hb.1 x h4;have:=ha.1 y h5;omega
    subst hxy;rw[ih ha.2 hb.2 fun z=>?_];constructor
    ·intro hz
     rcases mem_cons.1 ((h z).1 (mem_cons_of_mem _ hz)) with h4|h4
     ·have:=ha.1 z hz;omega
     ·exact h4
    ·intro hz
     rcases mem_cons.1 ((h z).2 (mem_cons_of_mem _ hz)) with h4|h4
     ·have:=hb.1 z hz;omega
     ·exact h4
 refine key hs1 hs2 fun c=>?_;rw[h3,mem_map];constructor
 ·intro h;have:=Ct hT (h.live hid);refine⟨c.toNat,(hmem _).2 ?_,by omega⟩;rw[show ((c.toNat:Nat):Int)=c by omega];exact h
 ·rintro⟨k,k1,rfl⟩;exact(hmem k).1 k1
end Go.Proofs.YtbnnnljagkjpiaaGreatDoor
