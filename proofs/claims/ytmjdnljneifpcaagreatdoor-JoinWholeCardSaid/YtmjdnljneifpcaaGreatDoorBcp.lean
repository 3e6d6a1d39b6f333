/- Cells: what is proved on the way: every input of the statement; no condition. Texts joined: JoiQ MdlP ModF ModG ModH ModI ModJ ActA ChkQ. -/
import Derived.Test.YtmjdnljneifpcaaGreatDoorBco
import Derived.Test.YtmjdnljneifpcaaGreatDoorBcj
import Derived.Test.YtmjdnljneifpcaaGreatDoorBck
import Derived.Test.YtmjdnljneifpcaaGreatDoorBce
import Derived.Test.YtmjdnljneifpcaaGreatDoorBcl
import Derived.Test.YtmjdnljneifpcaaGreatDoorBcm
import Derived.Test.YtmjdnljneifpcaaGreatDoorBcd
set_option linter.unusedVariables false
set_option linter.unusedSimpArgs false
set_option linter.unusedSectionVars false
namespace Go.Proofs.YtmjdnljneifpcaaGreatDoor
open List
open Go.SL
def YR (objs:List QI) (k t:Nat):Bool:=k == 2 && ((objs[t]?).map QI.gone).getD false
def Zh (objs:List QI) (x:QI):QI:={ x with kind:=(x.kind.zip x.to).map (fun y=>if YR objs y.1 y.2=true then 1 else y.1),to:=(x.kind.zip x.to).map (fun y=>if YR objs y.1 y.2=true then 0 else y.2) }
def Qe (L:List Nat) (x:QI):QI:=if x.region∈L then { x with gone:=true } else x
def KY (m:MS) (L:List Nat):MS:={ m with P:=Vw m.P L,objs:=(m.objs.map (Qe L)).map (Zh (m.objs.map (Qe L))) }
theorem JE {objs:List QI} {x:QI} (h:x.kind.length=x.to.length) {p:Nat} (hp:p < x.kind.length):(Zh objs x).kind.getD p 0=(if YR objs (x.kind.getD p 0) (x.to.getD p 0)=true then 1 else x.kind.getD p 0)∧(Zh objs x).to.getD p 0=(if YR objs (x.kind.getD p 0) (x.to.getD p 0)=true then 0 else x.to.getD p 0):=by
 have h1:=getElem?_eq_getElem hp;have h2:=getElem?_eq_getElem (show p < x.to.length by omega);have hz:(x.kind.zip x.to)[p]? = some (x.kind[p],x.to[p]'(by omega)):=getElem?_zip_eq_some.2 ⟨h1,h2⟩;unfold Zh;simp only[getD_eq_getElem?_getD,getElem?_map,hz,h1,h2,Option.map_some,Option.getD_some];exact⟨trivial,trivial⟩
theorem JF {L:List Nat} {x:QI}:(Qe L x).gone=true↔x.gone=true∨x.region∈L:=by
 unfold Qe;by_cases h:x.region∈L
 ·rw[if_pos h];exact⟨fun _ => .inr h,fun _=>rfl⟩
 ·rw[if_neg h];exact⟨.inl,fun h1=>h1.elim id fun h2=>absurd h2 h⟩
theorem gj (L:List Nat) (x:QI):(Qe L x).region=x.region∧(Qe L x).lay=x.lay∧(Qe L x).count=x.count∧(Qe L x).held=x.held∧(Qe L x).pinned=x.pinned∧(Qe L x).w=x.w∧(Qe L x).kind=x.kind∧(Qe L x).to=x.to:=by
 unfold Qe;split <;> exact⟨rfl,rfl,rfl,rfl,rfl,rfl,rfl,rfl⟩
theorem JH {m:MS} {L:List Nat} {o:Nat} {x':QI} (h:(KY m L).objs[o]? = some x'):∃ x,m.objs[o]? = some x∧x'=Zh (m.objs.map (Qe L)) (Qe L x):=by
 have h:((m.objs.map (Qe L)).map (Zh (m.objs.map (Qe L))))[o]? = some x':=h;rw[getElem?_map,getElem?_map] at h;cases hx:m.objs[o]? with
 | none=>rw[hx] at h;cases h
 | some x=>
  rw[hx] at h;injection h with h
  exact⟨x,rfl,h.symm⟩
theorem JI {m:MS} {L:List Nat} {k t:Nat}:YR (m.objs.map (Qe L)) k t=true↔k=2∧∃ x,m.objs[t]? = some x∧(x.gone=true∨x.region∈L):=by
 unfold YR;rw[Bool.and_eq_true,beq_iff_eq,getElem?_map];refine and_congr_right fun _=>?_;cases hx:m.objs[t]? with
 | none=>exact⟨fun h=>(by cases h),fun ⟨x,h,_⟩=>(by cases h)⟩
 | some x=>
  show (Qe L x).gone=true↔_;rw[JF];exact⟨fun h=>⟨x,rfl,h⟩,fun ⟨y,h1,h2⟩=>(by injection h1 with h1;subst h1;exact h2)⟩
theorem gk {m:MS} (h:VY m) (L:List Nat):VY (KY m L):=by
 refine⟨?_,h.lays,fun x' hx'=>?_,?_⟩
 ·show 1≤(Vw m.P L).length∧(Vw m.P L).length≤_;unfold Vw;rw[length_mapIdx];exact h.P
 ·obtain⟨o,ho⟩:=getElem?_of_mem hx';obtain⟨x,hx,rfl⟩:=JH ho;obtain⟨a,b,c,d,e⟩:=h.objs x (mem_of_getElem? hx);obtain⟨s1,s2,s3,s4,s5,s6,s7,s8⟩:=gj L x;have hl:(KY m L).objs.length=m.objs.length:=by show (((m.objs.map (Qe L)).map (Zh _))).length=_;rw[length_map,length_map]
  refine⟨?_,?_,?_,?_,fun p hp=>?_⟩
  ·show ∃ l,m.lays[(Qe L x).lay - 1]? = some l∧Vf l∧VG l (Qe L x).count=((Qe L x).w.length,0);rw[s2,s3,s6];exact a
  ·show 1≤(Qe L x).lay;rw[s2];exact b
  ·show (List.map _ ((Qe L x).kind.zip (Qe L x).to)).length=(Qe L x).w.length;rw[length_map,length_zip,s6,s7,s8,c,d,Nat.min_self]
  ·show (List.map _ ((Qe L x).kind.zip (Qe L x).to)).length=(Qe L x).w.length;rw[length_map,length_zip,s6,s7,s8,c,d,Nat.min_self]
  ·rw[hl]
   have hp':p < (Qe L x).kind.length:=by
    have:=(List.getElem?_eq_some_iff.1 hp).1
    have h2:(Zh (m.objs.map (Qe L)) (Qe L x)).kind.length=(Qe L x).kind.length:=by
     show (List.map _ ((Qe L x).kind.zip (Qe L x).to)).length=_;rw[length_map,length_zip,s7,s8,c,d,Nat.min_self]
    omega
   obtain⟨g1,g2⟩:=JE (objs:=m.objs.map (Qe L)) (x:=Qe L x) (by rw[s7,s8,c,d]) hp';rw[g2];have hp2:(Zh (m.objs.map (Qe L)) (Qe L x)).kind.getD p 0=2:=by rw[getD_eq_getElem?_getD,hp];rfl
   rw[g1] at hp2;split at hp2
   ·cases hp2
   ·rename_i hh;rw[if_neg hh,s8];rw[s7] at hp2 hp';refine e p ?_;rw[getElem?_eq_getElem hp'];rw[getD_eq_getElem?_getD,getElem?_eq_getElem hp'] at hp2;rw[← hp2];rfl
 ·show ((m.objs.map (Qe L)).map (Zh _)).length≤_;rw[length_map,length_map];exact h.few
theorem PF (P:List Int) (L:List Nat) (k:Nat):(Vw P L)[k]? = (P[k]?).map fun q=>if k∈L then -1 else q:=by
 unfold Vw;rw[getElem?_mapIdx]
theorem Ff:∀ (ks:List Int) {m:List (Int×Int)},(m.map (·.1)).Nodup→∀ r,QY (ks.foldl QD m) r=if r∈ks then none else QY m r
 | [],m,h,r=>by rw[if_neg (by simp)];rfl
 | k::ks,m,h,r=>by
  show QY (ks.foldl QD (QD m k)) r=_;rw[Ff ks (XK h),Xm h];by_cases h1:r∈ks
  ·rw[if_pos h1,if_pos (mem_cons_of_mem _ h1)]
  ·rw[if_neg h1];by_cases h2:k=r
   ·subst h2;rw[if_pos rfl,if_pos mem_cons_self]
   ·rw[if_neg h2,if_neg];intro h3
    rcases mem_cons.1 h3 with h3|h3
    ·exact h2 h3.symm
    ·exact h1 h3
structure Xi (s:CS) (L:List Int) (G:List Nat) (D:List Rf) (s':CS):Prop where
 size:s'.size=s.size
 own:s'.own.length=s.own.length
 lays:s'.lays=s.lays
 last:s'.last=s.last
 par:s'.par=L.foldl QD s.par
 tabl:s'.tab.length=s.tab.length
 tab:∀ (k:Nat) (t:QX),s.tab[k]? = some t→s'.tab[k]? = some (if k∈G then ⟨t.gen,none⟩ else ⟨t.gen,t.ent.map (VL D k)⟩)
 nd:(s'.rem.map (·.1)).Nodup
 rem:∀ r,QY s'.rem r=if ∃ k∈G,r.1=((k:Nat):Int) then none else if r∈D then none else QY s.rem r
 gone:KV s L G
 cut:Wq s G G D
 part:Y1 s→Y1 s'
 owns:∀ j,s'.own.getD j 0=if ((s.own.getD j 0:Nat):Int)∈L then 0 else s.own.getD j 0
theorem Fe.t {s s':CS} {L:List Int} (h:Fe s L s'):∃ G D,Xi s L G D s':=by
 obtain⟨G,Dl,s1,s2,hG,hC,hD,hN,hE⟩:=h;refine⟨G,Dl,by rw[hE.size,hN.size,hC.size],by rw[hE.own,hN.own,hC.own],by rw[hE.lays,hN.lays,hC.lays],by rw[hE.last,hN.last,hC.last],by rw[hE.par,hN.par,hC.par],by rw[hE.tab,hN.tabl,hC.tabl],fun k t hk=>?_,by rw[hE.rem];exact hN.nd,fun r=>by rw[hE.rem,hN.rem,hC.rem],hG,hD,fun hP k g e' hk=>?_,fun j=>by rw[hE.owns,hN.own,hC.own]⟩
 ·rw[hE.tab,hN.tab k _ (hC.tab k t hk)]
 ·have hlt:k < s.tab.length:=by
   have:=(List.getElem?_eq_some_iff.1 hk).1;rw[hE.tab,hN.tabl,hC.tabl] at this;exact this
  have h1:=getElem?_eq_getElem hlt;generalize s.tab[k]=t at h1;rw[hE.tab,hN.tab k _ (hC.tab k t h1)] at hk;split at hk
  ·injection hk with hk
   injection hk with _ hk
   cases hk
  ·rename_i hkG;injection hk with hk
   injection hk with hg he
   obtain⟨tg,te⟩:=t;cases te with
   | none=>cases he
   | some e=>
    injection he with he
    subst he;have hreg:e.region∉L:=fun h=>hkG ((hG.2 k).2 ⟨tg,e,h1,h⟩);obtain⟨x,hx,hx1,y,hy,hy1⟩:=hP k tg e h1;have hsz:s'.size=s.size:=by rw[hE.size,hN.size,hC.size]
    refine⟨x,hE.sps x (by rw[hN.sps,hC.sps];exact hx) (by rw[hx1];exact hreg),hx1,y,hy,?_⟩;rw[hsz];exact hy1.alike rfl (Rz _ _ _)
theorem Xi.from {s s':CS} {L:List Int} {G:List Nat} {D:List Rf} (h:Xi s L G D s') {k g:Nat} {e':Q7} (hk:s'.tab[k]? = some ⟨g,some e'⟩):k∉G∧∃ e,s.tab[k]? = some ⟨g,some e⟩∧e'=VL D k e:=by
 have hlt:k < s.tab.length:=by
  have:=(List.getElem?_eq_some_iff.1 hk).1;rw[h.tabl] at this;exact this
 have h1:=getElem?_eq_getElem hlt;generalize s.tab[k]=t at h1;have h2:=h.tab k t h1;rw[hk] at h2;obtain⟨g0,e0⟩:=t;split at h2
 ·injection h2 with h2
  injection h2 with _ h2
  cases h2
 ·rename_i hG;injection h2 with h2
  injection h2 with h3 h4
  subst h3;cases e0 with
  | none=>cases h4
  | some e=>
   injection h4 with h4
   exact⟨hG,e,h1,h4⟩
theorem Fg {D:List Rf} {k:Nat} {e:Q7} {p:Nat} (hp:p < e.ws.length):(VL D k e).ws.getD p 0=if ((k:Int),(p:Int))∈D then 1 else e.ws.getD p 0:=by
 rw[getD_eq_getElem?_getD,JV,getD_eq_getElem?_getD,getElem?_eq_getElem hp];rfl
theorem PH {D:List Rf} {k:Nat} {e:Q7} {p:Nat} (hp:p < e.ws.length) {a b:Nat} (h:Vb (VL D k e) p = .obj a b):((k:Int),(p:Int))∉D∧Vb e p = .obj a b:=by
 unfold Vb at h ⊢;rw[Fg hp] at h;split at h
 ·cases h
 ·rename_i h1;exact⟨h1,h⟩
theorem BU {ts:List QX} {a b:Nat} {f:Q7} (h:ts[a]? = some ⟨b,some f⟩):Qd ts a b=some (a,f):=Y8.2 ⟨b,rfl,rfl,h⟩
theorem Xi.cutIff {s s':CS} {L:List Int} {G:List Nat} {D:List Rf} (h:Xi s L G D s') (hI:Inv s) {k g p:Nat} {e:Q7} (hk:s.tab[k]? = some ⟨g,some e⟩) (hG:k∉G) (hp:p < e.ws.length):((k:Int),(p:Int))∈D↔VU (QN s e) p=true∧∃ (a b:Nat) (f:Q7),Vb e p = .obj a b∧s.tab[a]? = some ⟨b,some f⟩∧f.region∈L:=by
 rw[h.cut];constructor
 ·rintro⟨⟨t,ht,hr⟩,_⟩;obtain⟨k',p',g',e',a,b,f,h1,h2,h3,h4,h5,h6,h7,h8⟩:=(hI.rem _ _).1 hr;injection h1 with h1 h9
  obtain rfl:k=k':=by omega
  obtain rfl:p=p':=by omega
  rw[hk] at h2;injection h2 with h2
  injection h2 with h2 h2'
  subst h2;injection h2' with h2'
  subst h2';obtain⟨_,h10⟩:=Gl h6;obtain rfl:t=a:=by omega
  obtain⟨g2,f2,h11,h12⟩:=(h.gone.2 t).1 ht;rw[h10] at h11;injection h11 with h11
  injection h11 with _ h11
  injection h11 with h11
  subst h11;exact⟨h4,t,b,f,h5,h10,h12⟩
 ·rintro⟨h4,a,b,f,h5,h6,h7⟩;refine⟨⟨a,(h.gone.2 a).2 ⟨b,f,h6,h7⟩,(hI.rem _ _).2 ⟨k,p,g,e,a,b,f,rfl,hk,hp,h4,h5,BU h6,fun h8=>?_,rfl⟩⟩,?_⟩
  ·exact hG ((h.gone.2 k).2 ⟨g,e,hk,by rw[← h8];exact h7⟩)
  ·rintro⟨k',h9,h10⟩;have h10:((k:Nat):Int)=((k':Nat):Int):=h10;obtain rfl:k=k':=by omega
   exact hG h9
theorem Xi.lay {s s':CS} {L:List Int} {G:List Nat} {D:List Rf} (h:Xi s L G D s') (k:Nat) (e:Q7):QN s' (VL D k e)=QN s e:=by
 unfold QN;rw[h.lays];rfl
theorem Xi.at {s s':CS} {L:List Int} {G:List Nat} {D:List Rf} (h:Xi s L G D s') {k g:Nat} {e:Q7} (hk:s.tab[k]? = some ⟨g,some e⟩) (hG:k∉G):s'.tab[k]? = some ⟨g,some (VL D k e)⟩:=by
 rw[h.tab k _ hk,if_neg hG];rfl
theorem gl {s s':CS} {L:List Int} {G:List Nat} {D:List Rf} (h:Xi s L G D s') (hI:Inv s):Inv s':=by
 refine⟨h.nd,fun r t=>?_,fun k g e' p a b hk hp hr hl=>?_⟩
 ·rw[h.rem];constructor
  ·intro hr;split at hr
   ·cases hr
   ·rename_i hn;split at hr
    ·cases hr
    ·rename_i hD;obtain⟨k,p,g,e,a,b,f,rfl,hk,hp,hrf,hl,hlo,hfar,rfl⟩:=(hI.rem _ _).1 hr;have hkG:k∉G:=fun h1=>hn ⟨k,h1,rfl⟩;obtain⟨_,ha⟩:=Gl hlo;have haG:a∉G:=fun h1=>hD ((h.cut _).2 ⟨⟨a,h1,hr⟩,fun ⟨k',h2,h3⟩=>hn ⟨k',h2,h3⟩⟩);refine⟨k,p,g,VL D k e,a,b,VL D a f,rfl,h.at hk hkG,by rw[Rz];exact hp,by rw[h.lay];exact hrf,?_,BU (h.at ha haG),hfar,rfl⟩;unfold Vb;rw[Fg hp,if_neg hD];exact hl
  ·rintro⟨k,p,g,e',a,b,f',rfl,hk,hp,hrf,hl,hlo,hfar,rfl⟩;obtain⟨hkG,e,hk0,rfl⟩:=h.from hk;rw[Rz] at hp;obtain⟨hD,hl0⟩:=PH hp hl;obtain⟨_,ha⟩:=Gl hlo;obtain⟨haG,f,ha0,rfl⟩:=h.from ha;rw[h.lay] at hrf
   rw[if_neg (by
    rintro⟨k',h1,h2⟩;have h2:((k:Nat):Int)=((k':Nat):Int):=h2;obtain rfl:k=k':=by omega
    exact hkG h1),if_neg hD]
   exact(hI.rem _ _).2 ⟨k,p,g,e,a,b,f,rfl,hk0,hp,hrf,hl0,BU ha0,hfar,rfl⟩
 ·obtain⟨hkG,e,hk0,rfl⟩:=h.from hk;rw[Rz] at hp;obtain⟨hD,hl0⟩:=PH hp hl;rw[h.lay] at hr;obtain⟨f,hf⟩:=hI.link k g e p a b hk0 hp hr hl0;obtain⟨_,ha⟩:=Gl hf
  have haG:a∉G:=fun h1=>hD ((h.cutIff hI hk0 hkG hp).2 ⟨hr,a,b,f,hl0,ha,by
   obtain⟨g2,f2,h11,h12⟩:=(h.gone.2 a).1 h1;rw[ha] at h11;injection h11 with h11
   injection h11 with _ h11
   injection h11 with h11
   subst h11;exact h12⟩)
  exact⟨_,BU (h.at ha haG)⟩
theorem gm {par:List (Int×Int)} {L:List Int} (h:Z0 par) {region:Int} (hL:∀ c,c∈L↔Zf par region c):Z0 (L.foldl QD par):=by
 refine⟨Fc L h.nd,fun r q hr=>?_⟩;rw[Ff L h.nd] at hr;split at hr
 ·cases hr
 ·rename_i hn;obtain⟨h1,h2,h3⟩:=h.up r q hr;refine⟨h1,h2,h3.imp id fun h4=>?_⟩;rw[Ff L h.nd,if_neg]
  ·exact h4
  ·intro h5;exact hn ((hL r).2 (.kid ((hL q).1 h5) hr))
theorem PI {s s':CS} {m:MS} {told:List (Nat×Nat)} (R:Rel s m told) (hm:VY m) (hI:Inv s) {L:List Nat} {G:List Nat} {D:List Rf} (h:Xi s (L.map fun k:Nat=>(k:Int)) G D s'):Rel s' (KY m L) told:=by
  have hLi:∀ k:Nat,((k:Nat):Int)∈L.map (fun k:Nat=>(k:Int))↔k∈L:=fun k=>by
    rw[mem_map]
    exact ⟨fun ⟨j, h1, h2⟩ => (by have : j = k := by omega
                                  rw[← this];exact h1),fun h1=>⟨k,h1,rfl⟩⟩
  have hlo:(KY m L).objs.length=m.objs.length:=by show (((m.objs.map (Qe L)).map (Zh _))).length=_;rw[length_map,length_map]
  have hnd':(s'.par.map (·.1)).Nodup:=by rw[h.par];exact Fc _ R.nd
  refine⟨by rw[hlo];exact R.len,by rw[h.lays];exact R.lays,fun r q=>?_,hnd',?_,?_,?_,?_,?_,R.nodup⟩
  · rw[← Yl hnd',h.par,Ff _ R.nd];constructor
    · intro hr;split at hr
      · cases hr
      · rename_i hn;obtain⟨k,rfl,h1,h2,h3⟩:=(R.tree r q).1 ((Yl R.nd).1 hr);refine⟨k,rfl,h1,?_,h3⟩;show (Vw m.P L)[k]? = some q;rw[PF,h2];show some (if k∈L then -1 else q)=some q;rw[if_neg (fun h4=>hn ((hLi k).2 h4))]
    · rintro⟨k,rfl,h1,h2,h3⟩;have h2:(Vw m.P L)[k]? = some q:=h2;rw[PF] at h2;cases hP:m.P[k]? with
      | none=>rw[hP] at h2;cases h2
      | some q0=>
        rw[hP] at h2;injection h2 with h2
        have h2:(if k∈L then (-1:Int) else q0)=q:=h2;by_cases hk:k∈L
        · rw[if_pos hk] at h2;omega
        · rw[if_neg hk] at h2;subst h2;rw[if_neg (fun h4=>hk ((hLi k).1 h4))];exact(Yl R.nd).2 ((R.tree _ _).2 ⟨k,rfl,h1,hP,h3⟩)
  · rw[h.last];show s.last+1=(Vw m.P L).length;unfold Vw;rw[length_mapIdx];exact R.last
  · intro o x' k g hx' ht hg;obtain⟨x,hx,rfl⟩:=JH hx'
    have hg2:¬ ((Qe L x).gone=true):=by
      intro h1;have hg:(Qe L x).gone=false:=hg;rw[h1] at hg;cases hg
    rw[JF] at hg2
    have hxg:x.gone=false:=by
      cases hh:x.gone with
      | false=>rfl
      | true=>exact absurd (.inl hh) hg2
    have hxr:x.region∉L:=fun h1=>hg2 (.inr h1);obtain⟨e,hk,hl⟩:=R.obj o x k g hx ht hxg;have hgm:Qe L x=x:=by unfold Qe;rw[if_neg hxr]
    rw[hgm]
    have hkG:k∉G:=fun h1=>by
      obtain⟨g2,f2,h11,h12⟩:=(h.gone.2 k).1 h1;rw[hk] at h11;injection h11 with h11
      injection h11 with _ h11
      injection h11 with h11
      subst h11;rw[hl.region] at h12;exact hxr ((hLi _).1 h12)
    obtain⟨hml,hm1,hkd,hto,hgo⟩:=hm.objs x (mem_of_getElem? hx);refine⟨VL D k e,h.at hk hkG,⟨hl.region,hl.lay,hl.count,hl.held,hl.pinned,by rw[Rz];exact hl.len,fun p hp hr=>?_,fun p hp hr=>?_,fun p hp hne=>?_⟩⟩
    · have hp:p < x.w.length:=hp;have hpe:p < e.ws.length:=by rw[hl.len];exact hp
      have hr:VU (Uj m.lays x.lay) p=true:=hr;have hre:VU (QN s e) p=true:=by rw[Ks R.w hl];exact hr
      obtain⟨g1,g2⟩:=JE (objs:=m.objs.map (Qe L)) (x:=x) (by rw[hkd,hto]) (p:=p) (by rw[hkd];exact hp);rw[g1,g2,Fg hpe];have hlk:=hl.ref p hp hr;by_cases hD:((k:Int),(p:Int))∈D
      · rw[if_pos hD];obtain⟨_,a,b,f,h5,h6,h7⟩:=(h.cutIff hI hk hkG hpe).1 hD;have h5:ZF (e.ws.getD p 0) = .obj a b:=h5;rw[hlk] at h5;unfold ZY at h5;split at h5
        · rename_i h2;cases hta:told[x.to.getD p 0]? with
          | none=>rw[hta] at h5;cases h5
          | some y=>
            obtain⟨a',b'⟩:=y;rw[hta] at h5;injection h5 with h8 h9
            subst h8 h9;have hol:x.to.getD p 0 < m.objs.length:=by rw[← R.len];exact(List.getElem?_eq_some_iff.1 hta).1
            have hy:=getElem?_eq_getElem hol;generalize m.objs[x.to.getD p 0]=y at hy
            have hyg:y.gone=false:=by
              cases hh:y.gone with
              | false=>rfl
              | true=>exact absurd h6 (R.gone _ y _ _ hy hta hh f)
            obtain⟨f',h10,h11⟩:=R.obj _ y _ _ hy hta hyg;rw[h6] at h10;injection h10 with h10
            injection h10 with _ h10
            injection h10 with h10
            subst h10;have hit:YR (m.objs.map (Qe L)) (x.kind.getD p 0) (x.to.getD p 0)=true:=JI.2 ⟨h2,y,hy,.inr (by rw[h11.region] at h7;exact(hLi _).1 h7)⟩;rw[if_pos hit,if_pos hit];rfl
        · split at h5 <;> cases h5
      · rw[if_neg hD]
        have hnh:¬ (YR (m.objs.map (Qe L)) (x.kind.getD p 0) (x.to.getD p 0)=true):=by
          intro hh;obtain⟨h2,y,hy,h3⟩:=JI.1 hh;have hol:=(List.getElem?_eq_some_iff.1 hy).1;rw[← R.len] at hol;have hta:=getElem?_eq_getElem hol;generalize told[x.to.getD p 0]=ab at hta;obtain⟨a,b⟩:=ab
          have h5:Vb e p = .obj a b:=by
            unfold Vb;rw[hlk];unfold ZY;rw[if_pos h2,hta];rfl
          obtain⟨f,hf⟩:=hI.link k g e p a b hk hpe hre h5;obtain⟨_,ha⟩:=Gl hf
          have hyg:y.gone=false:=by
            cases hh:y.gone with
            | false=>rfl
            | true=>exact absurd ha (R.gone _ y _ _ hy hta hh f)
          rcases h3 with h3|h3
          · rw[hyg] at h3;cases h3
          · obtain⟨f',h10,h11⟩:=R.obj _ y _ _ hy hta hyg;rw[ha] at h10;injection h10 with h10
            injection h10 with _ h10
            injection h10 with h10
            subst h10;exact hD ((h.cutIff hI hk hkG hpe).2 ⟨hre,a,b,f,h5,ha,by rw[h11.region];exact(hLi _).2 h3⟩)
        rw[if_neg hnh,if_neg hnh];exact hlk
    · have hp:p < x.w.length:=hp;have hpe:p < e.ws.length:=by rw[hl.len];exact hp
      have hr:VU (Uj m.lays x.lay) p=false:=hr;rw[Fg hpe,if_neg]
      · exact hl.word p hp hr
      · intro hD;have h1:=((h.cutIff hI hk hkG hpe).1 hD).1;rw[Ks R.w hl] at h1;have h1:VU (Uj m.lays x.lay) p=true:=h1;rw[hr] at h1;cases h1
    · have hp:p < x.w.length:=hp;obtain⟨g1,g2⟩:=JE (objs:=m.objs.map (Qe L)) (x:=x) (by rw[hkd,hto]) (p:=p) (by rw[hkd];exact hp);show VU (Uj m.lays x.lay) p=true∧_;rw[g1] at hne ⊢;split at hne
      · rename_i hh;rw[if_pos hh];obtain⟨h2,_⟩:=JI.1 hh;exact⟨(hl.kind p hp (by rw[h2];decide)).1,by decide⟩
      · rename_i hh;rw[if_neg hh];exact hl.kind p hp hne
  · intro o x' k g hx' ht hg e' hk';obtain⟨x,hx,rfl⟩:=JH hx';obtain⟨hkG,e,hk,rfl⟩:=h.from hk';have hg:(Qe L x).gone=true:=hg
    rcases JF.1 hg with h1|h1
    · exact R.gone o x k g hx ht h1 e hk
    · cases hh:x.gone with
      | true=>exact R.gone o x k g hx ht hh e hk
      | false=>
        obtain⟨e2,h2,h3⟩:=R.obj o x k g hx ht hh;rw[hk] at h2;injection h2 with h2
        injection h2 with _ h2
        injection h2 with h2
        subst h2;exact hkG ((h.gone.2 k).2 ⟨g,e,hk,by rw[h3.region];exact(hLi _).2 h1⟩)
  · intro k g e' hk';obtain⟨_,e,hk,_⟩:=h.from hk';exact R.used k g e hk
  · intro o k g ht;obtain⟨t,h1,h2⟩:=R.gens o k g ht;refine⟨_,h.tab k t h1,?_⟩;split <;> exact h2
theorem JJ {s:CS} {m:MS} {told:List (Nat×Nat)} (R:Rel s m told) (hT:Z0 s.par):Wn m.P:=by
 intro i q h1 h2;by_cases h3:0≤q
 ·exact(hT.up _ _ ((Yl hT.nd).2 ((R.tree _ _).2 ⟨i,rfl,h1,h2,h3⟩))).2.1
 ·omega
theorem D0 {par:List (Int×Int)} (hT:Z0 par) {r:Int} (h:(QY par r).isSome=true):1≤r:=by
 cases hf:QY par r with
 | none=>rw[hf] at h;cases h
 | some q=>
  have:=hT.up r q hf;omega
theorem JL {s:CS} {m:MS} {told:List (Nat×Nat)} (R:Rel s m told) (hT:Z0 s.par) {id:Int} (hid:(QY s.par id).isSome=true):∀ (n c:Nat),c≤n→(QY s.par c).isSome=true→(G1 m.P id c=true↔Zf s.par id c)
 | 0,c,h1,h2=>by
  have:=D0 hT h2;omega
 | n+1,c,h1,h2=>by
  have hO:=JJ R hT;have hc1:=D0 hT h2;cases hf:QY s.par (c:Int) with
  | none=>rw[hf] at h2;cases h2
  | some q=>
   obtain⟨k,k1,k2,k3,k4⟩:=(R.tree _ _).1 ((Yl hT.nd).1 hf);obtain rfl:c=k:=by omega
   have hcl:=(List.getElem?_eq_some_iff.1 k3).1;obtain⟨q1,q2,q3⟩:=hT.up _ _ hf;rw[PZ hO (by omega) (by omega),Int.toNat_natCast,getD_eq_getElem?_getD,k3];show (if (c:Int)=id then true else G1 m.P id q)=true↔_;by_cases h3:(c:Int)=id
   ·rw[if_pos h3,h3];exact⟨fun _ => .self,fun _=>rfl⟩
   ·rw[if_neg h3]
    rcases q3 with rfl|q3
    ·rw[PG _ _ (Int.le_refl _)];refine⟨fun h=>(by cases h),fun h=>?_⟩
     rcases h.inv with h4|⟨k,h4,h5⟩
     ·exact absurd h4 h3
     ·rw[hf] at h4;injection h4 with h4
      subst h4;have h6:=h5.live hid;have:=D0 hT h6;omega
    ·obtain⟨d,rfl⟩:∃ d:Nat,q=d:=⟨q.toNat,by omega⟩;rw[JL R hT hid n d (by omega) q3];constructor
     ·intro h;exact .kid h hf
     ·intro h
      rcases h.inv with h4|⟨k,h4,h5⟩
      ·exact absurd h4 h3
      ·rw[hf] at h4;injection h4 with h4
       subst h4;exact h5
theorem gn {s:CS} {m:MS} {told:List (Nat×Nat)} (R:Rel s m told) (hT:Z0 s.par) {id:Int} (hid:(QY s.par id).isSome=true) {L:List Int} (h1:L.Nodup) (h2:L.Pairwise (·≤·)) (h3:∀ c,c∈L↔Zf s.par id c):L=(G2 m.P id).map fun k:Nat=>(k:Int):=by
 have hmem:∀ c:Nat,c∈G2 m.P id↔Zf s.par id c:=fun c=>by
  unfold G2;rw[PU];constructor
  ·rintro⟨a,⟨b1,b2⟩,d⟩;have hk:m.P[c]? = some (m.P.getD c 0):=by rw[getD_eq_getElem?_getD,getElem?_eq_getElem a];rfl
   have hl:(QY s.par (c:Int)).isSome=true:=by
    rw[(Yl hT.nd).2 ((R.tree _ _).2 ⟨c,rfl,b1,hk,b2⟩)];rfl
   exact(JL R hT hid c c (Nat.le_refl _) hl).1 d
  ·intro h;have hl:=h.live hid;cases hf:QY s.par (c:Int) with
   | none=>rw[hf] at hl;cases hl
   | some q=>
    obtain⟨k,k1,k2,k3,k4⟩:=(R.tree _ _).1 ((Yl hT.nd).1 hf);obtain rfl:c=k:=by omega
    refine⟨(List.getElem?_eq_some_iff.1 k3).1,⟨k2,?_⟩,(JL R hT hid c c (Nat.le_refl _) hl).2 h⟩;rw[getD_eq_getElem?_getD,k3];exact k4
 have hs1:L.Pairwise (· < ·):=by
  have:=h2.and h1;exact this.imp fun h=>by omega
 have hs2:((G2 m.P id).map fun k:Nat=>(k:Int)).Pairwise (· < ·):=by
  rw[pairwise_map];have:(G2 m.P id).Pairwise (· < ·):=List.Pairwise.filter _ pairwise_lt_range;exact this.imp fun h=>by omega
 have key:∀ {a b:List Int},a.Pairwise (· < ·)→b.Pairwise (· < ·)→(∀ x,x∈a↔x∈b)→a=b:=by
  intro a
  induction a with
  | nil=>
   intro b _ _ h;cases b with
   | nil=>rfl
   | cons y b=>exact absurd ((h y).2 mem_cons_self) (by simp)
  | cons x a ih=>
   intro b ha hb h;cases b with
   | nil=>exact absurd ((h x).1 mem_cons_self) (by simp)
   | cons y b=>
    rw[pairwise_cons] at ha hb
    have hxy:x=y:=by
     rcases mem_cons.1 ((h x).1 mem_cons_self) with h4|h4
     ·exact h4
     ·rcases mem_cons.1 ((h y).2 mem_cons_self) with h5|h5
      ·exact h5.symm
      ·have:=hb.1 x h4;have:=ha.1 y h5;omega
    subst hxy;rw[ih ha.2 hb.2 fun z=>?_];constructor
    ·intro hz
     rcases mem_cons.1 ((h z).1 (mem_cons_of_mem _ hz)) with h4|h4
     ·have:=ha.1 z hz;omega
     ·exact h4
    ·intro hz
     rcases mem_cons.1 ((h z).2 (mem_cons_of_mem _ hz)) with h4|h4
     ·have:=hb.1 z hz;omega
     ·exact h4
 refine key hs1 hs2 fun c=>?_;rw[h3,mem_map];constructor
 ·intro h;have:=D0 hT (h.live hid);refine⟨c.toNat,(hmem _).2 ?_,by omega⟩;rw[show ((c.toNat:Nat):Int)=c by omega];exact h
 ·rintro⟨k,k1,rfl⟩;exact(hmem k).1 k1
theorem PJ [Q4] (a:Option Addr) (c n:Nat) (L:List Int) (x:Int) (hn:n≤L.length) (hl:L.length≤1000000) {w:World} {fr:List Q2} (H:Q0 w (IL (.slice a L.length c) L::fr)) :
  Calls Tryz.prog 176 #[.slice a n c,.int .i64 x] w (ret fun v w'=>v = .bool (decide (x∈L.take n))∧Q0 w' (IL (.slice a L.length c) L::fr)):=by
 refine Q9 Tryz.func176 rfl (by kernel_rfl) ?_;refine HL H ?_;refine Ql (fun ms σ w z=>ms=[]∧∃ i:Nat,i≤n∧z=n - i∧x∉L.take i∧σ 0 = .slice a n c∧σ 1 = .int .i64 x∧σ 5 = .int .i64 i∧Q0 w (IL (.slice a L.length c) L::fr)) (m:=n) ⟨rfl,0,by omega,by omega,by simp,rfl,rfl,rfl,H⟩ ?_;clear H;rintro ms σ w z ⟨rfl,i,hi,rfl,hno,g0,g1,g5,H⟩;rw[Q1 g0,Q1 g1,Q1 g5];refine KO H ?_;refine Qk rfl (fun h=>QB ?_) (fun h=>Qq ?_)
 ·have hlt:i < n:=by omega
  have hil:i < L.length:=by omega
  have hy:=getElem?_eq_getElem hil;have htk:L.take (i+1)=L.take i++[L[i]]:=by rw[take_add_one,hy];rfl
  generalize L[i]=y at hy htk;obtain⟨b,s,rfl,H,hcl⟩:=V5 H (by omega);refine Xw H ?_;refine Jd ?_;refine Q5 rfl (QR H rfl (by simpa using Uk hy) rfl ?_);replace H:=hcl _ _ H;by_cases hxy:y=x
  ·first|refine Jv ?_|refine XR rfl rfl ?_
   refine Jv ?_;rw[show (y == x)=true by rw[hxy];exact beq_self_eq_true x];refine J2 H ?_;refine YD H ?_;have hm:x∈L.take n:=mem_of_getElem? (i:=i) (by rw[getElem?_take_of_lt hlt,hy,hxy]);rw[decide_eq_true hm];exact Q3 (Jy H rfl fun w' H'=>⟨rfl,H'⟩)
  ·first|refine Jv ?_|refine XR rfl rfl ?_
   refine Jv ?_;rw[show (y == x)=false by rw[beq_eq_false_iff_ne];exact hxy];refine RN H ?_;refine VX H ?_;refine⟨_,⟨rfl,i+1,hlt,rfl,?_,rfl,rfl,Qc (by omega),H⟩,by omega⟩;rw[htk,mem_append,mem_singleton];rintro(h1|h1)
   ·exact hno h1
   ·exact hxy h1.symm
 ·obtain rfl:i=n:=by omega
  rw[decide_eq_false hno];refine VB H ?_;exact Q3 (Jy H rfl fun w' H'=>⟨rfl,H'⟩)
def Gt (id q:Nat) (os:List QI) (i:Nat):List QI:=os.mapIdx fun k x=>if k < i then GK id q x else x
theorem BX (id q:Nat) (os:List QI) (i k:Nat):(Gt id q os i)[k]? = (os[k]?).map fun x=>if k < i then GK id q x else x:=getElem?_mapIdx
theorem JM (id q:Nat) (os:List QI) (i:Nat):(Gt id q os i).length=os.length:=length_mapIdx
theorem gp (id q:Nat) (os:List QI):Gt id q os 0=os:=by
 apply ext_getElem?;intro k;rw[BX];cases os[k]? <;> simp
theorem gr {id q:Nat} {os:List QI} {i:Nat} {x:QI} (h:os[i]? = some x):(Gt id q os i).set i (GK id q x)=Gt id q os (i+1):=by
 have hil:=(List.getElem?_eq_some_iff.1 h).1;apply ext_getElem?;intro k;rw[getElem?_set,BX,BX,JM];by_cases hk:i=k
 ·subst hk;rw[if_pos rfl,if_pos hil,h];simp only[Option.map_some];rw[if_pos (by omega)]
 ·rw[if_neg hk];have:k < i+1↔k < i:=by omega
  simp only[this]
theorem gu (id q:Nat) (os:List QI):Gt id q os os.length=os.map (GK id q):=by
 apply ext_getElem?;intro k;rw[BX,getElem?_map];cases h:os[k]? with
 | none=>rfl
 | some x=>
  have:=(List.getElem?_eq_some_iff.1 h).1;simp only[Option.map_some];rw[if_pos this]
theorem PL {m:MS} (h:VY m) (id q i:Nat):VY { m with P:=ZU m.P id q,objs:=Gt id q m.objs i }:=by
 refine PR h (.inl (by show (ZU m.P id q).length=_;unfold ZU;rw[length_mapIdx])) rfl (JM _ _ _ _) fun o x' hx'=>?_;have hx':(Gt id q m.objs i)[o]? = some x':=hx';rw[BX] at hx';cases hx:m.objs[o]? with
 | none=>rw[hx] at hx';cases hx'
 | some x=>
  rw[hx] at hx';injection hx' with hx'
  refine⟨x,rfl,?_⟩;rw[← hx'];split
  ·exact PK id q x
  ·rfl
theorem PM [Q4] (p:Nat) (m:MS) (id:Nat) (q:Int) (hid:1≤id) (hq:m.P[id]? = some q) (hq0:0≤q) {w:World} {fr:List Q2} (H:Q0 w (Qs p m::fr)) :
  Calls Tryz.prog 102 #[pp p,.int .i64 id] w (ret fun v w'=>(q=0∧v = .tuple #[.int .i64 0,.int .i64 16]∧Q0 w' (Qs p m::fr))∨(q≠0∧v = .tuple #[.int .i64 q,.int .i64 0]∧Q0 w' (Qs p (FS m id q.toNat)::fr))):=by
 obtain⟨t,lc,oc,aL,cL,aO,cO,hm,h2,h3,hl1,hl2,H⟩:=ZT H;have hidl:=(List.getElem?_eq_some_iff.1 hq).1;have hgd:m.P.getD id 0=q:=by rw[getD_eq_getElem?_getD,hq];rfl
 have hlv:Y0 m.P (id:Int)=true:=decide_eq_true ⟨by omega,by omega,by rw[Int.toNat_natCast,hgd];exact hq0⟩;have hP:=hm.P;have hfew:=hm.few;refine Q9 Tryz.func102 rfl (by kernel_rfl) ?_;refine CV H ?_;replace H:=Js [1,0] 0 H;refine Jc rfl rfl (Wg t m.P id H) ?_;clear H;rintro v w ⟨rfl,H⟩;rw[hlv];refine Yv H ?_;refine VQ H ?_;refine Jc rfl rfl (gO t m.P id q hid hq hq0 hP.1 (by omega) H) ?_;clear H;rintro w0 w (⟨hz,rfl,H⟩|⟨hz,rfl,H⟩)
 ·refine Br H ?_;refine EZ H ?_;exact Q3 (Jy (Yq hm h2 h3 H.swap) rfl fun w' H' => .inl ⟨hz,rfl,H'⟩)
 obtain⟨qn,rfl⟩:∃ qn:Nat,q=qn:=⟨q.toNat,by omega⟩;rw[Int.toNat_natCast] at H ⊢;refine G4 H ?_;have hm1:=PL hm id qn 0;replace H:=Yq (m:={ m with P:=ZU m.P id qn,objs:=Gt id qn m.objs 0 }) hm1 h2 (by rw[gp];exact h3) H.swap;refine J7 H ?_;refine Qo (fun ms σ w=>ms=[]∧σ 7 = .int .i64 qn∧Q0 w (Qs p (FS m id qn)::fr)) ?_ ?_
 ·refine QP ?_;refine Ql (fun ms σ w z=>ms=[]∧∃ i:Nat,i≤m.objs.length∧z=m.objs.length - i∧σ 0=pp p∧σ 1 = .int .i64 id∧σ 7 = .int .i64 qn∧σ 9 = .int .i64 i∧Q0 w (Qs p { m with P:=ZU m.P id qn,objs:=Gt id qn m.objs i }::fr)) (m:=m.objs.length) ⟨rfl,0,by omega,by omega,rfl,rfl,rfl,rfl,H⟩ ?_;clear H;rintro ms σ w z ⟨rfl,i,hi,rfl,g0,g1,g7,g9,H⟩;rw[Q1 g0,Q1 g1,Q1 g7,Q1 g9];have hml:=JM id qn m.objs i;by_cases hlt:i < m.objs.length
  ·have hx:=getElem?_eq_getElem hlt;generalize m.objs[i]=x at hx
   have hxi:({ m with P:=ZU m.P id qn,objs:=Gt id qn m.objs i }:MS).objs[i]? = some x:=by
    show (Gt id qn m.objs i)[i]? = _;rw[BX,hx];simp
   obtain⟨t,lc,aL,cL,bO,cO,s,ptrs,qq,vw,vk,vt,rest,hmm,h2,hp,H,hclose⟩:=Gg H hxi;dsimp only at H hclose;rw[hml] at H hclose;refine Kc H ?_;refine Qk rfl (fun h=>QB ?_) (fun h=>absurd (show ((i:Nat):Int) < ((m.objs.length:Nat):Int) by omega) h);refine AW H ?_;refine Jd ?_;refine Q5 rfl (QR H rfl hp rfl ?_);refine Jv ?_;refine WI H ?_;have hset:Gt id qn m.objs (i+1)=(Gt id qn m.objs i).set i (GK id qn x):=(gr hx).symm;have hw':VY { m with P:=ZU m.P id qn,objs:=(Gt id qn m.objs i).set i (GK id qn x) }:=by rw[← hset];exact PL hm id qn (i+1)
   by_cases hr:x.region=id
   ·rw[show (((x.region:Nat):Int) == ((id:Nat):Int))=true by rw[hr];exact beq_self_eq_true _];refine J2 H ?_;refine VM H ?_;refine VQ H ?_;refine Jd ?_;refine Q5 rfl (QR H rfl hp rfl ?_);refine YP H ?_;refine UY H ?_;clear H;intro w H;refine J2 H ?_;have hxx:GK id qn x={ x with region:=qn }:=by unfold GK;rw[if_pos hr]
    rw[hxx] at hset hw';replace H:Q0 w (pts qq (K4 vw vk vt { x with region:=qn })::_):=H;replace H:=hclose _ _ _ hw' H;rw[← hset] at H;refine VX H ?_;exact⟨_,⟨rfl,i+1,hlt,rfl,rfl,rfl,rfl,Qc (by omega),H⟩,by omega⟩
   ·rw[show (((x.region:Nat):Int) == ((id:Nat):Int))=false by rw[beq_eq_false_iff_ne];omega];refine RN H ?_;have hxx:GK id qn x=x:=by unfold GK;rw[if_neg hr]
    rw[hxx] at hset hw';replace H:=hclose _ _ _ hw' H;rw[← hset] at H;refine VX H ?_;exact⟨_,⟨rfl,i+1,hlt,rfl,rfl,rfl,rfl,Qc (by omega),H⟩,by omega⟩
  ·obtain rfl:i=m.objs.length:=by omega
   obtain⟨t,lc,oc,aL,cL,aO,cO,hmm,h2,h3,hl1,hl2,H⟩:=ZT H;dsimp only at H;rw[hml] at H;refine Kc H ?_;refine Qk rfl (fun h=>absurd (show ((m.objs.length:Nat):Int) < ((m.objs.length:Nat):Int) from h) (by omega)) (fun h=>Qq ?_);rw[← hml] at H;replace H:=Yq (m:={ m with P:=ZU m.P id qn,objs:=Gt id qn m.objs m.objs.length }) hmm h2 h3 H;rw[gu] at H;exact⟨rfl,rfl,rfl,H⟩
 clear H;rintro ms σ w ⟨rfl,g7,H⟩;rw[Q1 g7];refine VX H ?_;exact Q3 (Jy H rfl fun w' H' => .inr ⟨hz,rfl,H'⟩)
def Un (n:Nat) (os:List Nat) (objs:List QI):List QI:=objs.mapIdx fun o x=>if o∈os then { x with region:=n } else x
theorem D3 (n:Nat) (os:List Nat) (objs:List QI) (k:Nat):(Un n os objs)[k]? = (objs[k]?).map fun x=>if k∈os then { x with region:=n } else x:=getElem?_mapIdx
theorem gw (n:Nat) (os:List Nat) (objs:List QI):(Un n os objs).length=objs.length:=length_mapIdx
theorem gz (n:Nat) (objs:List QI):Un n [] objs=objs:=by
 apply ext_getElem?;intro k;rw[D3];cases objs[k]? <;> simp
theorem hY {n:Nat} {os:List Nat} {objs:List QI} {o:Nat} {x:QI} (h:(Un n os objs)[o]? = some x):(Un n os objs).set o { x with region:=n }=Un n (os++[o]) objs:=by
 apply ext_getElem?;intro k;have hol:=(List.getElem?_eq_some_iff.1 h).1;rw[getElem?_set];by_cases hk:o=k
 ·subst hk;rw[if_pos rfl,if_pos hol,D3];rw[D3] at h;cases hx:objs[o]? with
  | none=>rw[hx] at h;cases h
  | some y=>
   rw[hx] at h;injection h with h
   subst h;show some _=some (if o∈os++[o] then { y with region:=n } else y);rw[if_pos (show o∈os++[o] by simp)];congr 1;show ({ (if o∈os then { y with region:=n } else y:QI) with region:=n }:QI)=_;split <;> rfl
 ·rw[if_neg hk,D3,D3]
  have:k∈os++[o]↔k∈os:=by
   rw[mem_append,mem_singleton];exact⟨fun h=>h.elim id fun h=>absurd h.symm hk,.inl⟩
  simp only[this]
theorem PN {m:MS} (h:VY m) (hP:m.P.length < 100000) (r:Nat) (os:List Nat):VY { m with P:=m.P++[(r:Int)],objs:=Un m.P.length os m.objs }:=gT h hP r os
theorem i6 [Q4] (p:Nat) (m:MS) (r:Nat) (os:List Nat) (al:Option Addr) (cl:Nat) (hd:ZV m.P (r:Int)=0) (hPl:m.P.length < 100000) (hos:∀ o∈os,o < m.objs.length) (hl:os.length≤64) {w:World} {fr:List Q2} (H:Q0 w (Qs p m::NL (.slice al os.length cl) os::fr)) :
  Calls Tryz.prog 104 #[pp p,.int .i64 r,.slice al os.length cl] w (ret fun v w'=>v = .int .i64 m.P.length∧Q0 w' (Qs p (Wp m r os)::NL (.slice al os.length cl) os::fr)):=by
 obtain⟨t,lc,oc,aL,cL,aO,cO,hm,h2,h3,hl1,hl2,H⟩:=ZT H;have hP:=hm.P;have hfew:=hm.few;refine Q9 Tryz.func104 rfl (by kernel_rfl) ?_;refine VB H ?_;refine VQ H ?_;replace H:=Js [1,0] 0 H;refine Jc rfl rfl (NF t m.P (r:Int) hP.2 hP.1 H) ?_;clear H;rintro w0 w (⟨hz,rfl,H⟩|⟨hz,rfl,H⟩)
 ·exact absurd hd hz
 refine Zs H ?_;have hm1:=PN hm hPl r [];replace H:=Yq (m:={ m with P:=m.P++[(r:Int)],objs:=Un m.P.length [] m.objs }) hm1 h2 (by rw[gz];exact h3) H.swap;refine J7 H ?_;refine Qo (fun ms σ w=>ms=[]∧σ 7 = .int .i64 m.P.length∧Q0 w (Qs p (Wp m r os)::NL (.slice al os.length cl) os::fr)) ?_ ?_
 ·refine QP ?_;refine Ql (fun ms σ w z=>ms=[]∧∃ i:Nat,i≤os.length∧z=os.length - i∧σ 0=pp p∧σ 2 = .slice al os.length cl∧σ 7 = .int .i64 m.P.length∧σ 9 = .int .i64 i∧Q0 w (Qs p { m with P:=m.P++[(r:Int)],objs:=Un m.P.length (os.take i) m.objs }::NL (.slice al os.length cl) os::fr)) (m:=os.length) ⟨rfl,0,by omega,by omega,rfl,rfl,rfl,rfl,H⟩ ?_;clear H;rintro ms σ w z ⟨rfl,i,hi,rfl,g0,g2,g7,g9,H⟩;rw[Q1 g0,Q1 g2,Q1 g7,Q1 g9];refine KO H ?_;refine Qk rfl (fun h=>QB ?_) (fun h=>Qq ?_)
  ·have hlt:i < os.length:=by omega
   have hy:=getElem?_eq_getElem hlt;have hyo:=hos _ (mem_of_getElem? hy);have htk:os.take (i+1)=os.take i++[os[i]]:=by rw[take_add_one,hy];rfl
   generalize os[i]=o at hy htk hyo;obtain⟨bl,sl,rfl,H,hcl⟩:=V5 H.swap (by omega);have hml:=gw m.P.length (os.take i) m.objs;have hx:=getElem?_eq_getElem (show o < (Un m.P.length (os.take i) m.objs).length by omega);generalize (Un m.P.length (os.take i) m.objs)[o]=x at hx;have hset:=hY hx;rw[← htk] at hset;have hxi:({ m with P:=m.P++[(r:Int)],objs:=Un m.P.length (os.take i) m.objs }:MS).objs[o]? = some x:=hx;obtain⟨t,lc,aL,cL,bO,cO,s,ptrs,qq,vw,vk,vt,rest,hmm,h2,hp,H,hclose⟩:=Gg H.swap hxi;dsimp only at H hclose;rw[hml] at H hclose;have hw':VY { m with P:=m.P++[(r:Int)],objs:=(Un m.P.length (os.take i) m.objs).set o { x with region:=m.P.length } }:=by rw[hset];exact PN hm hPl r _
   refine CQ H ?_;clear H;intro w H;refine Y3 H ?_;refine Jl 3 [13] H ?_;refine Us H ?_;refine Ji 6 ?_;refine Vm 7 [13] H rfl (Q8.none rfl) rfl (by simpa using G8 hy) (by kernel_rfl) ?_
   refine Ji 8 ?_;refine Vm 9 [13] H rfl (Q8.none rfl) rfl (by simpa using hp) (by kernel_rfl) ?_;refine Ed H ?_;refine Jo 13 H ?_;refine UQ H ?_;clear H;intro w H;refine Jx H ?_;replace H:Q0 w (pts qq (K4 vw vk vt { x with region:=m.P.length })::_):=H;replace H:=hclose _ _ _ hw' H;rw[hset] at H;replace H:=hcl _ _ H.swap;refine VX H ?_;exact⟨_,⟨rfl,i+1,hlt,rfl,rfl,rfl,rfl,Qc (by omega),H.swap⟩,by omega⟩
  ·obtain rfl:i=os.length:=by omega
   rw[take_length] at H;exact⟨rfl,rfl,rfl,H⟩
 clear H;rintro ms σ w ⟨rfl,g7,H⟩;rw[Q1 g7];refine J5 H ?_;exact Q3 (Jy H rfl fun w' H'=>⟨rfl,H'⟩)
end Go.Proofs.YtmjdnljneifpcaaGreatDoor
namespace Go.SL
open List
section
variable {P:Program} {n:Nat} {r:Option Nat} {ops:Array Oper} {Q:YU} {ms:List Nat} {σ:QK} {w:World} {rest:List Oper} {o:Oper} {K:QK→World→Prop} {l l':List Q2}
variable {ivs:List (List Nat×(World→Prop))} {T:QK→World→Prop} {f:Nat} {L:Array Bool}
variable {u t s:TypeId} {p:String} {af:Array Edge} {g:Option (Nat×Bool)} {d:Option Tmp} {x y z:Operand}
theorem i7 {e size bytes b o2 len cap i:Nat} {q:IntKind} (hT:VH P t e size bytes) (h1:i≤cap) :
  (Instr.sliceAt t (.slice (some ⟨b,o2,none⟩) len cap) none (some (.int q (i:Int))) none).run P w = .ok (.slice (some ⟨b,o2,none⟩) i cap) w:=by
 have hs:(sizeOf e).run P w = .ok size w:=by
  obtain⟨k,hk,e2⟩:=Option.map_eq_some_iff.1 hT.info;simp only[Prod.mk.injEq] at e2;exact G3 (by rw[hk];simp[e2.1])
 have b1:(0:Int)≤i∧(i:Int)≤cap:=by omega
 simp[Instr.sliceAt,Instr.slice,Vs hT.und,Instr.sliceBounds,Instr.sliceBound,asIntOf,h1,hs,ZK]
theorem i8 {e size bytes b o2 len cap i:Nat} {q:IntKind} (m:Nat) (hm:ops[m]? = some ⟨d,.slice t x none (some y) none,u,p,af,g⟩) (hg:Q8 ops σ ⟨d,.slice t x none (some y) none,u,p,af,g⟩ true) [hT:VH P t e size bytes] (hx:ev σ x = .slice (some ⟨b,o2,none⟩) len cap) (hy:ev σ y = .int q (i:Int)) (h1:i≤cap)
  (hb:YB n ops (ivs.map (·.1)) L m []=true) (k:Any P n r ops ivs T f (L.setIfInBounds m true) (put σ d (.slice (some ⟨b,o2,none⟩) i cap)) w):Any P n r ops ivs T (f+1) L σ w:=
 U4 m hm hg (fun c e=>by cases e) (fun w=>by simp only[execOp,hx,hy,Option.map_some,Option.map_none,Sem.run_bind,i7 hT h1,Result.andThen_ok,Sem.run_pure]) hb k
end
end Go.SL
namespace Go.Proofs.YtmjdnljneifpcaaGreatDoor
open List
open Go.SL
theorem Fh {m:MS} {r:Int} {os:List Int} {e:Nat} (h1:Y0 m.P r=true) (h2:os.length≤64) (h3:GR m r [] os=e) (h4:e≠0):Gs m r os=e:=by
 unfold Gs;rw[h1,if_neg (by decide),if_neg (by omega),h3,if_pos h4]
theorem Fi [Q4] (p:Nat) (m:MS) (r:Int) (os:List Int) (al:Option Addr) (cl:Nat) (hl:os.length≤1000000) {w:World} {fr:List Q2} (H:Q0 w (Qs p m::IL (.slice al os.length cl) os::fr)) :
  Calls Tryz.prog 103 #[pp p,.int .i64 r,.slice al os.length cl] w (ret fun v w'=>v = .int .i64 (Gs m r os)∧Q0 w' (Qs p m::IL (.slice al os.length cl) os::fr)):=by
 obtain⟨t,lc,oc,aL,cL,aO,cO,hm,h2,h3,hl1,hl2,H⟩:=ZT H;have hP:=hm.P;have hfew:=hm.few;refine Q9 Tryz.func103 rfl (by kernel_rfl) ?_;refine VB H ?_;refine VQ H ?_;replace H:=Js [1,0] 0 H;refine Jc rfl rfl (Wg t m.P r H) ?_;clear H;rintro v w ⟨rfl,H⟩;replace H:=Yq hm h2 h3 H.swap;clear h2 h3 hl1 hl2 lc oc aL cL aO cO;refine J0 H ?_;cases hlv:Y0 m.P r with
 | false=>
  have he:Gs m r os=15:=by unfold Gs;rw[if_pos hlv]
  rw[he];refine AO H ?_;exact Q3 (Jy H rfl fun w' H'=>⟨rfl,H'⟩)
 | true=>
 refine U8 H ?_;refine UV H ?_;by_cases h64:((os.length:Nat):Int) > 64
 ·have he:Gs m r os=18:=by unfold Gs;rw[hlv,if_neg (by decide),if_pos (by omega)]
  rw[show decide (((os.length:Nat):Int) > 64)=true from decide_eq_true h64];refine YD H ?_;rw[he];exact Q3 (Jy H rfl fun w' H'=>⟨rfl,H'⟩)
 rw[show decide (((os.length:Nat):Int) > 64)=false from decide_eq_false h64];have h64:os.length≤64:=by omega
 refine V6 H ?_;refine AG H ?_;refine Ql (fun ms σ w z=>ms=[]∧∃ i:Nat,i≤os.length∧z=os.length - i∧GR m r (os.take i) (os.drop i)=GR m r [] os∧σ 0=pp p∧σ 1 = .int .i64 r∧σ 2 = .slice al os.length cl∧σ 8 = .int .i64 i∧Q0 w (Qs p m::IL (.slice al os.length cl) os::fr)) (m:=os.length) ⟨rfl,0,by omega,by omega,rfl,rfl,rfl,rfl,rfl,H⟩ ?_;clear H;rintro ms σ w z ⟨rfl,i,hi,rfl,hmay,g0,g1,g2,g8,H⟩;rw[Q1 g0,Q1 g1,Q1 g2,Q1 g8];refine KO H ?_;refine Qk rfl (fun h=>QB ?_) (fun h=>Qq ?_)
 ·have hlt:i < os.length:=by omega
  have hy:=getElem?_eq_getElem hlt;have htk:os.take (i+1)=os.take i++[os[i]]:=by rw[take_add_one,hy];rfl
  have hdr:os.drop i=os[i]::os.drop (i+1):=drop_eq_getElem_cons hlt;generalize os[i]=y at hy htk hdr;rw[hdr] at hmay;obtain⟨bl,sl,rfl,H,hlc,_,hcl⟩:=Z3 H.swap (by omega);refine WA H ?_;refine Jd ?_;refine Q5 rfl (QR H rfl (by simpa using Uk hy) rfl ?_);refine Jc rfl rfl (B0 p m y H.swap) ?_;clear H;rintro v w ⟨rfl,H⟩;refine J0 H ?_;cases hv:V7 m y with
  | none=>
   have he:=Fh hlv h64 (hmay.symm.trans (PA hv)) (by decide);rw[he];refine AO H ?_;replace H:=(hcl _ _ _ rfl H.swap).swap;exact Q3 (Jy H rfl fun w' H'=>⟨rfl,H'⟩)
  | some kx=>
   obtain⟨k,x⟩:=kx;obtain⟨rfl,hx,hh,hg⟩:=K5 hv;rw[PB hv] at hmay;refine U8 H ?_;have hkl:=(List.getElem?_eq_some_iff.1 hx).1;obtain⟨t,lc,aL,cL,bO,cO,s,ptrs,qq,vw,vk,vt,rest,hmm,h2,hp,H,hclose⟩:=Gg H hx;refine J1 H ?_;clear H;intro w H;refine XF H ?_;refine Us H ?_;refine Ji 6 ?_;refine Vm 7 [] H rfl (Q8.none rfl) rfl (by simpa using Uk hy) (by kernel_rfl) ?_
   refine Ji 8 ?_;refine Vm 9 [] H rfl (Q8.none rfl) rfl (by simpa using hp) (by kernel_rfl) ?_;refine Ja 10 ?_;refine Jf 11 ?_;refine Jl 12 [] H ?_;refine Kf H ?_;have hm':VY { m with objs:=m.objs.set k x }:=Rr hx hm;by_cases c1:(x.region:Int)≠r
   ·rw[if_pos c1] at hmay;have he:=Fh hlv h64 hmay.symm (by decide);rw[he,show (((x.region:Nat):Int) != r)=true by rw[bne_iff_ne];exact c1];refine YD H ?_;replace H:=(hcl _ _ _ rfl (UX hx (hclose _ _ _ hm' H)).swap).swap;exact Q3 (Jy H rfl fun w' H'=>⟨rfl,H'⟩)
   rw[if_neg c1] at hmay;rw[show (((x.region:Nat):Int) != r)=false by rw[bne_eq_false_iff_eq];exact Classical.not_not.1 c1];refine C1 H ?_;clear H;intro w H;refine XF H ?_;refine Us H ?_;refine Ji 6 ?_;refine Vm 7 [] H rfl (Q8.none rfl) rfl (by simpa using Uk hy) (by kernel_rfl) ?_
   refine Ji 8 ?_;refine Vm 9 [] H rfl (Q8.none rfl) rfl (by simpa using hp) (by kernel_rfl) ?_;refine Ja 10 ?_;refine Jf 11 ?_;refine Jl 12 [] H ?_;refine Jx H ?_;cases c2:x.pinned with
   | true=>
    rw[if_pos c2] at hmay;have he:=Fh hlv h64 hmay.symm (by decide);rw[he];refine YD H ?_;replace H:=(hcl _ _ _ rfl (UX hx (hclose _ _ _ hm' H)).swap).swap;exact Q3 (Jy H rfl fun w' H'=>⟨rfl,H'⟩)
   | false=>
   rw[if_neg (by rw[c2];decide)] at hmay;refine V6 H ?_;replace H:=(UX hx (hclose _ _ _ hm' H)).swap;refine J1 H ?_;clear H;intro w H;refine WG H ?_;refine i8 2 rfl (Q8.none rfl) rfl rfl (by omega) (by kernel_rfl) ?_;refine Ja 3 ?_;refine Ja 4 ?_;refine Ji 5 ?_;refine Vm 6 [7] H rfl (Q8.none rfl) rfl (by simpa using Uk hy) (by kernel_rfl) ?_;have Hc:=hcl _ _ _ rfl H;refine Jo 7 H ?_;refine Jk rfl rfl (PJ _ cl i os (k:Int) hi hl Hc) ?_;clear H;rintro v w ⟨rfl,H⟩;refine XM H ?_;by_cases c3:(k:Int)∈os.take i
   ·rw[if_pos c3] at hmay;have he:=Fh hlv h64 hmay.symm (by decide);rw[he,decide_eq_true c3];refine J7 H ?_;refine Vh rfl ?_;refine VB H ?_;exact Q3 (Jy H.swap rfl fun w' H'=>⟨rfl,H'⟩)
   rw[if_neg c3,← htk] at hmay;rw[decide_eq_false c3];refine MT H ?_;refine VX H ?_;exact⟨_,⟨rfl,i+1,hlt,rfl,hmay,rfl,rfl,rfl,Qc (by omega),H.swap⟩,by omega⟩
 ·obtain rfl:i=os.length:=by omega
  rw[take_length,drop_length] at hmay;have hmay:0=GR m r [] os:=hmay;obtain⟨t,lc,oc,aL,cL,aO,cO,hmm,h2,h3,hl1,hl2,H⟩:=ZT H;refine Yd H ?_;replace H:=Js [1,0] 0 H;refine Jc rfl rfl (IW t m.P (by omega) H) ?_;clear H;intro v w H;obtain⟨aA,cA,rfl⟩:=QF H (QH _) (by decide);replace H:=Js [0,1,0] 0 H;replace H:=H.drop;replace H:=Yq hm h2 h3 H;refine Dx H ?_
  have he:Gs m r os=if 64≤(V0 m.P).length then 5 else 0:=by
   unfold Gs;rw[hlv,if_neg (by decide),if_neg (by omega),← hmay,if_neg (by decide)]
  rw[he];by_cases c4:(((V0 m.P).length:Nat):Int)≥64
  ·rw[show decide ((((V0 m.P).length:Nat):Int)≥64)=true from decide_eq_true c4,if_pos (by omega)];refine YD H ?_;exact Q3 (Jy H rfl fun w' H'=>⟨rfl,H'⟩)
  ·rw[show decide ((((V0 m.P).length:Nat):Int)≥64)=false from decide_eq_false c4,if_neg (by omega)];refine Kb H ?_;exact Q3 (Jy H rfl fun w' H'=>⟨rfl,H'⟩)
def YJ {A:Type} (f:A→A) (i:Nat) (l:List A):List A:=l.mapIdx fun k x=>if k < i then f x else x
theorem Wr {A:Type} (f:A→A) (i:Nat) (l:List A) (k:Nat):(YJ f i l)[k]? = (l[k]?).map fun x=>if k < i then f x else x:=getElem?_mapIdx
theorem Ws {A:Type} (f:A→A) (i:Nat) (l:List A):(YJ f i l).length=l.length:=length_mapIdx
theorem Fj {A:Type} (f:A→A) (l:List A):YJ f 0 l=l:=by
 apply ext_getElem?;intro k;rw[Wr];cases l[k]? <;> simp
theorem PO {A:Type} {f:A→A} {l:List A} {i:Nat} {x:A} (h:l[i]? = some x):(YJ f i l).set i (f x)=YJ f (i+1) l:=by
 have hil:=(List.getElem?_eq_some_iff.1 h).1;apply ext_getElem?;intro k;rw[getElem?_set,Wr,Wr,Ws];by_cases hk:i=k
 ·subst hk;rw[if_pos rfl,if_pos hil,h];simp only[Option.map_some];rw[if_pos (by omega)]
 ·rw[if_neg hk];have:k < i+1↔k < i:=by omega
  simp only[this]
theorem JN {A:Type} (f:A→A) (l:List A):YJ f l.length l=l.map f:=by
 apply ext_getElem?;intro k;rw[Wr,getElem?_map];cases h:l[k]? with
 | none=>rfl
 | some x=>
  have:=(List.getElem?_eq_some_iff.1 h).1;simp only[Option.map_some];rw[if_pos this]
theorem PP {A:Type} {f:A→A} {l:List A} {i:Nat} {x:A} (h:l[i]? = some x):(YJ f i l)[i]? = some x:=by
 rw[Wr,h];simp only[Option.map_some];rw[if_neg (by omega)]
theorem i9 {lays:List QM} {n:Nat} {x:QI} (h:Gz lays n x) (L:List Nat):Gz lays n (Qe L x):=by
 obtain⟨a,b,c,d,e⟩:=h;unfold Qe;split
 ·exact⟨a,b,c,d,e⟩
 ·exact⟨a,b,c,d,e⟩
theorem JO {m:MS} (h:VY m) (L K:List Nat) (i:Nat):VY { m with P:=Vw m.P K,objs:=YJ (Qe L) i m.objs }:=by
 refine⟨?_,h.lays,fun x' hx'=>?_,?_⟩
 ·show 1≤(Vw m.P K).length∧(Vw m.P K).length≤_;unfold Vw;rw[length_mapIdx];exact h.P
 ·show Gz m.lays (YJ (Qe L) i m.objs).length x';rw[Ws];obtain⟨o,ho⟩:=getElem?_of_mem hx';have ho:(YJ (Qe L) i m.objs)[o]? = some x':=ho;rw[Wr] at ho;cases hx:m.objs[o]? with
  | none=>rw[hx] at ho;cases ho
  | some x=>
   rw[hx] at ho;injection ho with ho
   have hk:=h.objs x (mem_of_getElem? hx);subst ho;show Gz m.lays m.objs.length (if o < i then Qe L x else x);split
   ·exact i9 hk L
   ·exact hk
 ·show (YJ (Qe L) i m.objs).length≤_;rw[Ws];exact h.few
def GW (G:List QI) (p:Nat) (l:List (Nat×Nat)):List Nat:=l.mapIdx fun k y=>if k < p∧YR G y.1 y.2=true then 1 else y.1
def GA (G:List QI) (p:Nat) (l:List (Nat×Nat)):List Nat:=l.mapIdx fun k y=>if k < p∧YR G y.1 y.2=true then 0 else y.2
def YL (G:List QI) (p:Nat) (x:QI):QI:={ x with kind:=GW G p (x.kind.zip x.to),to:=GA G p (x.kind.zip x.to) }
theorem iQ (G:List QI) (p:Nat) {x:QI} (h:x.kind.length=x.to.length):(YL G p x).kind.length=x.kind.length∧(YL G p x).to.length=x.kind.length:=by
 constructor
 ·show (GW G p _).length=_;unfold GW;rw[length_mapIdx,length_zip];omega
 ·show (GA G p _).length=_;unfold GA;rw[length_mapIdx,length_zip];omega
theorem D4 {k t:List Nat} {p a b:Nat} (ha:k[p]? = some a) (hb:t[p]? = some b):(k.zip t)[p]? = some (a,b):=getElem?_zip_eq_some.2 ⟨ha,hb⟩
theorem iV {G:List QI} {x:QI} {p a b:Nat} (ha:x.kind[p]? = some a) (hb:x.to[p]? = some b):(YL G p x).kind[p]? = some a∧(YL G p x).to[p]? = some b:=by
 have hz:=D4 ha hb;constructor
 ·show (GW G p _)[p]? = _;unfold GW;rw[getElem?_mapIdx,hz];show some (if p < p∧YR G a b=true then 1 else a)=_;rw[if_neg (by omega)]
 ·show (GA G p _)[p]? = _;unfold GA;rw[getElem?_mapIdx,hz];show some (if p < p∧YR G a b=true then 0 else b)=_;rw[if_neg (by omega)]
theorem iY {G:List QI} {x:QI} {p a b:Nat} (ha:x.kind[p]? = some a) (hb:x.to[p]? = some b) (hh:YR G a b=true):({ YL G p x with kind:=(YL G p x).kind.set p 1,to:=(YL G p x).to.set p 0 }:QI)=YL G (p+1) x:=by
 have hz:=D4 ha hb;have hl:=(List.getElem?_eq_some_iff.1 hz).1
 have h1:(GW G p (x.kind.zip x.to)).set p 1=GW G (p+1) (x.kind.zip x.to):=by
  unfold GW;apply ext_getElem?;intro k;rw[getElem?_set,length_mapIdx,getElem?_mapIdx,getElem?_mapIdx];by_cases hk:p=k
  ·subst hk;rw[if_pos rfl,if_pos hl,hz];show _=some (if p < p+1∧YR G a b=true then 1 else a);rw[if_pos ⟨by omega,hh⟩]
  ·rw[if_neg hk];have:k < p+1↔k < p:=by omega
   simp only[this]
 have h2:(GA G p (x.kind.zip x.to)).set p 0=GA G (p+1) (x.kind.zip x.to):=by
  unfold GA;apply ext_getElem?;intro k;rw[getElem?_set,length_mapIdx,getElem?_mapIdx,getElem?_mapIdx];by_cases hk:p=k
  ·subst hk;rw[if_pos rfl,if_pos hl,hz];show _=some (if p < p+1∧YR G a b=true then 0 else b);rw[if_pos ⟨by omega,hh⟩]
  ·rw[if_neg hk];have:k < p+1↔k < p:=by omega
   simp only[this]
 show ({ x with kind:=(GW G p (x.kind.zip x.to)).set p 1,to:=(GA G p (x.kind.zip x.to)).set p 0 }:QI)={ x with kind:=GW G (p+1) (x.kind.zip x.to),to:=GA G (p+1) (x.kind.zip x.to) };rw[h1,h2]
theorem PS {G:List QI} {x:QI} {p a b:Nat} (ha:x.kind[p]? = some a) (hb:x.to[p]? = some b) (hh:¬ YR G a b=true):YL G p x=YL G (p+1) x:=by
 have hz:=D4 ha hb
 have h1:GW G p (x.kind.zip x.to)=GW G (p+1) (x.kind.zip x.to):=by
  unfold GW;apply ext_getElem?;intro k;rw[getElem?_mapIdx,getElem?_mapIdx];by_cases hk:p=k
  ·subst hk;rw[hz];show some (if p < p∧YR G a b=true then 1 else a)=some (if p < p+1∧YR G a b=true then 1 else a);rw[if_neg (by omega),if_neg (fun h=>hh h.2)]
  ·have:k < p+1↔k < p:=by omega
   simp only[this]
 have h2:GA G p (x.kind.zip x.to)=GA G (p+1) (x.kind.zip x.to):=by
  unfold GA;apply ext_getElem?;intro k;rw[getElem?_mapIdx,getElem?_mapIdx];by_cases hk:p=k
  ·subst hk;rw[hz];show some (if p < p∧YR G a b=true then 0 else b)=some (if p < p+1∧YR G a b=true then 0 else b);rw[if_neg (by omega),if_neg (fun h=>hh h.2)]
  ·have:k < p+1↔k < p:=by omega
   simp only[this]
 unfold YL;rw[h1,h2]
theorem iZ {G:List QI} {x:QI} (h:x.kind.length=x.to.length):YL G 0 x=x:=by
 have h1:GW G 0 (x.kind.zip x.to)=x.kind:=by
  unfold GW;apply ext_getElem?;intro k;rw[getElem?_mapIdx];cases ha:x.kind[k]? with
  | none=>
   rw[List.getElem?_eq_none_iff] at ha;rw[getElem?_eq_none (by rw[length_zip];omega)];rfl
  | some a=>
   have hl:=(List.getElem?_eq_some_iff.1 ha).1;rw[D4 ha (getElem?_eq_getElem (show k < x.to.length by omega))];show some (if k < 0∧_ then 1 else a)=_;rw[if_neg (by omega)]
 have h2:GA G 0 (x.kind.zip x.to)=x.to:=by
  unfold GA;apply ext_getElem?;intro k;rw[getElem?_mapIdx];cases ha:x.to[k]? with
  | none=>
   rw[List.getElem?_eq_none_iff] at ha;rw[getElem?_eq_none (by rw[length_zip];omega)];rfl
  | some a=>
   have hl:=(List.getElem?_eq_some_iff.1 ha).1;rw[D4 (getElem?_eq_getElem (show k < x.kind.length by omega)) ha];show some (if k < 0∧_ then 0 else a)=_;rw[if_neg (by omega)]
 unfold YL;rw[h1,h2]
theorem iG (G:List QI) {x:QI} (h:x.kind.length=x.to.length):YL G x.kind.length x=Zh G x:=by
 have h1:GW G x.kind.length (x.kind.zip x.to)=(x.kind.zip x.to).map (fun y=>if YR G y.1 y.2=true then 1 else y.1):=by
  unfold GW;apply ext_getElem?;intro k;rw[getElem?_mapIdx,getElem?_map];cases hz:(x.kind.zip x.to)[k]? with
  | none=>rfl
  | some y=>
   have hl:=(List.getElem?_eq_some_iff.1 hz).1;rw[length_zip] at hl;have hk:k < x.kind.length:=by omega
   show some (if k < x.kind.length∧YR G y.1 y.2=true then 1 else y.1)=some (if YR G y.1 y.2=true then 1 else y.1);simp only[hk,true_and]
 have h2:GA G x.kind.length (x.kind.zip x.to)=(x.kind.zip x.to).map (fun y=>if YR G y.1 y.2=true then 0 else y.2):=by
  unfold GA;apply ext_getElem?;intro k;rw[getElem?_mapIdx,getElem?_map];cases hz:(x.kind.zip x.to)[k]? with
  | none=>rfl
  | some y=>
   have hl:=(List.getElem?_eq_some_iff.1 hz).1;rw[length_zip] at hl;have hk:k < x.kind.length:=by omega
   show some (if k < x.kind.length∧YR G y.1 y.2=true then 0 else y.2)=some (if YR G y.1 y.2=true then 0 else y.2);simp only[hk,true_and]
 unfold YL Zh;rw[h1,h2]
theorem JP [Q4] {w:World} {oc:List OC} {l:List Q2} {i:Nat} {y:OC} (hy:oc[i]? = some y) (H:Q0 w (star (oc.map Yp)::l)):∃ rest:List Q2,
  Q0 w (pts y.ptr (K4 y.vw y.vk y.vt y.ob)::UL y.vw y.ob.w::NL y.vk y.ob.kind::NL y.vt y.ob.to::star rest::l) ∧
  ∀ (w':World) (l':List Q2) (x':QI),Q0 w' (pts y.ptr (K4 y.vw y.vk y.vt x')::UL y.vw x'.w::NL y.vk x'.kind::NL y.vt x'.to::star rest::l')→Q0 w' (star ((oc.set i { y with ob:=x' }).map Yp)::l'):=by
 have hsp:oc=oc.take i++y::oc.drop (i+1):=by
  have h1:=List.getElem?_eq_some_iff.1 hy;rw[← h1.2];simp
 refine⟨(oc.take i++oc.drop (i+1)).map Yp,Q0.star.1 ((Q0.pick hsp).1 H),fun w' l' x' H'=>?_⟩;have H':=(Q0.pick (R:=Yp) (x:={ y with ob:=x' }) (g1:=oc.take i) (g2:=oc.drop (i+1)) rfl).2 (Q0.star.2 H');rw[← SL.set_split hy] at H';exact H'
theorem D5 (v:Value) (l:List Nat):NL v l=IL v (l.map fun x:Nat=>(x:Int)):=by
 show QC _ 1 v (QW l)=QC _ 1 v (Qg _);unfold QW Qg;rw[map_map];rfl
theorem iU [Q4] (a:Option Addr) (c:Nat) (L:List Nat) (x:Nat) (hl:L.length≤1000000) {w:World} {fr:List Q2} (H:Q0 w (NL (.slice a L.length c) L::fr)) :
  Calls Tryz.prog 176 #[.slice a L.length c,.int .i64 x] w (ret fun v w'=>v = .bool (decide (x∈L))∧Q0 w' (NL (.slice a L.length c) L::fr)):=by
 have hm:(L.map fun x:Nat=>(x:Int)).length=L.length:=length_map _;have h:=PJ a c L.length (L.map fun x:Nat=>(x:Int)) (x:Int) (by omega) (by omega) (w:=w) (fr:=fr) (by rw[hm,← D5];exact H)
 have hd:decide ((x:Int)∈(L.map fun x:Nat=>(x:Int)).take L.length)=decide (x∈L):=by
  rw[← hm,take_length];refine decide_eq_decide.2 ⟨fun h=>?_,fun h=>mem_map.2 ⟨x,h,rfl⟩⟩;obtain⟨y,h1,h2⟩:=mem_map.1 h;obtain rfl:y=x:=by omega
  exact h1
 rw[hd,hm,← D5] at h;exact h
theorem PT [Q4] (p:Nat) (m:MS) (r:Int) (hO:Wn m.P) {w:World} {fr:List Q2} (H:Q0 w (Qs p m::fr)) :
  Calls Tryz.prog 101 #[pp p,.int .i64 r] w (ret fun v w'=>(Y0 m.P r=false∧v = .tuple #[.slice none 0 0,.int .i64 15]∧Q0 w' (Qs p m::fr))∨(Y0 m.P r=true∧∃ vl,v = .tuple #[vl,.int .i64 0]∧Q0 w' (NL vl (G2 m.P r)::Qs p (KY m (G2 m.P r))::fr))):=by
 obtain⟨t,lc,oc,aL,cL,aO,cO,hm,h2,h3,hl1,hl2,H⟩:=ZT H;have hP:=hm.P;have hfew:=hm.few;refine Q9 Tryz.func101 rfl (by kernel_rfl) ?_;refine CV H ?_;replace H:=Js [1,0] 0 H;refine Jc rfl rfl (Wg t m.P r H) ?_;clear H;rintro v w ⟨rfl,H⟩;refine J0 H ?_;cases hlv:Y0 m.P r with
 | false=>
  refine J5 H ?_;refine Yn H ?_;exact Q3 (Jy (Yq hm h2 h3 H.swap) rfl fun w' H' => .inl ⟨rfl,rfl,H'⟩)
 | true=>
 refine U8 H ?_;refine VQ H ?_;refine Jc rfl rfl (gN t m.P hO r hP.1 (by omega) H) ?_;clear H;intro v w H;obtain⟨aU,cU,rfl⟩:=QF H (QH _) (by decide);have hUl:(G2 m.P r).length≤1000000:=by have:=JA m.P r m.P.length;unfold G2;omega
 generalize hL:G2 m.P r=L at H hUl ⊢;refine J0 H ?_;have hm1:=JO hm L L 0;replace H:=Js [2,1,1,1,1,1,0] 0 H;replace H:=Yq (m:={ m with P:=Vw m.P L,objs:=YJ (Qe L) 0 m.objs }) hm1 h2 (by rw[Fj];exact h3) H;clear h2 h3 hl1 hl2 lc oc aL cL aO cO;refine J7 H ?_;refine Qo (fun ms σ w=>ms=[]∧σ 0=pp p∧σ 7 = .slice aU L.length cU∧Q0 w (Qs p { m with P:=Vw m.P L,objs:=m.objs.map (Qe L) }::NL (.slice aU L.length cU) L::fr)) ?_ ?_
 ·refine QP ?_;refine Ql (fun ms σ w z=>ms=[]∧∃ i:Nat,i≤m.objs.length∧z=m.objs.length - i∧σ 0=pp p∧σ 7 = .slice aU L.length cU∧σ 8 = .int .i64 i∧Q0 w (Qs p { m with P:=Vw m.P L,objs:=YJ (Qe L) i m.objs }::NL (.slice aU L.length cU) L::fr)) (m:=m.objs.length) ⟨rfl,0,by omega,by omega,rfl,rfl,rfl,H⟩ ?_;clear H;rintro ms σ w z ⟨rfl,i,hi,rfl,g0,g7,g8,H⟩;rw[Q1 g0,Q1 g7,Q1 g8];have hml:=Ws (Qe L) i m.objs;by_cases hlt:i < m.objs.length
  ·have hx:=getElem?_eq_getElem hlt;generalize m.objs[i]=x at hx;have hxi:({ m with P:=Vw m.P L,objs:=YJ (Qe L) i m.objs }:MS).objs[i]? = some x:=PP hx;obtain⟨t,lc,aL,cL,bO,cO,s,ptrs,qq,vw,vk,vt,rest,hmm,h2,hp,H,hclose⟩:=Gg H hxi;dsimp only at H hclose;rw[hml] at H hclose;have hset:YJ (Qe L) (i+1) m.objs=(YJ (Qe L) i m.objs).set i (Qe L x):=(PO hx).symm;have hw':VY { m with P:=Vw m.P L,objs:=(YJ (Qe L) i m.objs).set i (Qe L x) }:=by rw[← hset];exact JO hm L L (i+1)
   refine Kc H ?_;refine Qk rfl (fun h=>QB ?_) (fun h=>absurd (show ((i:Nat):Int) < ((m.objs.length:Nat):Int) by omega) h);refine WA H ?_;refine AL H ?_;refine Jd ?_;refine Q5 rfl (QR H rfl hp rfl ?_);refine Jv ?_;refine ZB H ?_;replace H:=Js [10,0,0,0,0,0,0,0,0,0,0] 0 H;refine Jc rfl rfl (iU aU cU L x.region hUl H) ?_;clear H;rintro v w ⟨rfl,H⟩;replace H:=Js [1,1,1,1,1,1,1,1,1,1,0] 0 H;by_cases hin:x.region∈L
   ·rw[decide_eq_true hin];refine Df H ?_;refine Vh rfl ?_;refine VQ H ?_;refine Jd ?_;refine Q5 rfl (QR H rfl hp rfl ?_);refine GO H ?_;clear H;intro w H;refine J2 H ?_;have hxx:Qe L x={ x with gone:=true }:=by unfold Qe;rw[if_pos hin]
    rw[hxx] at hset hw';replace H:Q0 w (pts qq (K4 vw vk vt { x with gone:=true })::_):=H;replace H:=hclose _ _ _ hw' H;rw[← hset] at H;refine VX H ?_;exact⟨_,⟨rfl,i+1,hlt,rfl,rfl,rfl,Qc (by omega),H⟩,by omega⟩
   ·rw[decide_eq_false hin];refine J0 H ?_;refine MT H ?_;have hxx:Qe L x=x:=by unfold Qe;rw[if_neg hin]
    rw[hxx] at hset hw';replace H:=hclose _ _ _ hw' H;rw[← hset] at H;refine VX H ?_;exact⟨_,⟨rfl,i+1,hlt,rfl,rfl,rfl,Qc (by omega),H⟩,by omega⟩
  ·obtain rfl:i=m.objs.length:=by omega
   obtain⟨t,lc,oc,aL,cL,aO,cO,hmm,h2,h3,hl1,hl2,H⟩:=ZT H;dsimp only at H;rw[hml] at H;refine Kc H ?_;refine Qk rfl (fun h=>absurd (show ((m.objs.length:Nat):Int) < ((m.objs.length:Nat):Int) from h) (by omega)) (fun h=>Qq ?_);rw[← hml] at H;replace H:=Yq (m:={ m with P:=Vw m.P L,objs:=YJ (Qe L) m.objs.length m.objs }) hmm h2 h3 H;rw[JN] at H;exact⟨rfl,rfl,rfl,rfl,H⟩
 clear H;rintro ms σ w ⟨rfl,g0,g7,H⟩;rw[Q1 g0,Q1 g7];have hmG:=JO hm L L m.objs.length;rw[JN] at hmG;obtain⟨t,lc,oc,aL,cL,aO,cO,_,h2,h3,hl1,hl2,H⟩:=ZT H;dsimp only at H h2 h3 hl2;have hGl:(m.objs.map (Qe L)).length=m.objs.length:=length_map _;have hfm:(KY m L).objs=(m.objs.map (Qe L)).map (Zh (m.objs.map (Qe L))):=rfl
 have hGok:∀ x∈m.objs.map (Qe L),Gz m.lays m.objs.length x:=fun x hx=>by
  have:=hmG.objs x hx
  rwa [show ({ m with P:=Vw m.P L,objs:=m.objs.map (Qe L) }:MS).objs.length=m.objs.length from hGl] at this
 have hsz:∀ x∈m.objs.map (Qe L),x.w.length < 8192:=fun x hx=>by
  obtain⟨o,ho⟩:=getElem?_of_mem hx;exact Rs (w:=hmG) ho
 rw[hGl] at H hl2;generalize m.objs.map (Qe L)=G at H h3 hGl hfm hGok hsz
 let F:OC→OC:=fun y=>{ y with ob:=Zh G y.ob }
 have hF:∀ y,F y={ y with ob:=Zh G y.ob }:=fun _=>rfl;clear_value F;replace H:=Js [5,4,0,0,0,0] 0 H;rw[← Fj F oc] at H;rw[Fj] at H;refine J7 H ?_;refine Qo (fun ms σ w=>ms=[]∧σ 7 = .slice aU L.length cU∧Q0 w (star ((oc.map F).map Yp)::QC 77 1 (.slice aO m.objs.length cO) (oc.map fun x=>pp x.ptr)::pts p (row 58 [pp t,.slice aL m.lays.length cL,.slice aO m.objs.length cO])::VS t (Vw m.P L)::QC 102 4 (.slice aL m.lays.length cL) (VD lc)::star (lc.map YG)::NL (.slice aU L.length cU) L::fr)) ?_ ?_
 ·refine QP ?_;refine Ql (fun ms σ w z=>ms=[]∧∃ i:Nat,i≤m.objs.length∧z=m.objs.length - i∧σ 0=pp p∧σ 7 = .slice aU L.length cU∧σ 10 = .int .i64 i∧Q0 w (star ((YJ F i oc).map Yp)::QC 77 1 (.slice aO m.objs.length cO) (oc.map fun x=>pp x.ptr)::pts p (row 58 [pp t,.slice aL m.lays.length cL,.slice aO m.objs.length cO])::VS t (Vw m.P L)::QC 102 4 (.slice aL m.lays.length cL) (VD lc)::star (lc.map YG)::NL (.slice aU L.length cU) L::fr)) (m:=m.objs.length) ⟨rfl,0,by omega,by omega,rfl,rfl,rfl,by rw[Fj];exact H⟩ ?_;clear H;rintro ms σ w z ⟨rfl,i,hi,rfl,g0,g7,g10,H⟩;rw[Q1 g0,Q1 g7,Q1 g10];refine Kc H ?_;refine Qk rfl (fun h=>QB ?_) (fun h=>Qq ?_)
  ·have hlt:i < m.objs.length:=by omega
   have hy:=getElem?_eq_getElem (show i < oc.length by omega);generalize oc[i]=y at hy;obtain⟨qq,vw,vk,vt,x⟩:=y;have hxG:G[i]? = some x:=by rw[← h3,getElem?_map,hy];rfl
   obtain⟨_,_,hkw,htw,hgo⟩:=hGok x (mem_of_getElem? hxG);have hkt:x.kind.length=x.to.length:=by omega
   have hsx:=hsz x (mem_of_getElem? hxG);have hyK:=PP (f:=F) hy;obtain⟨rest,Hv,hno⟩:=JP hyK H;dsimp only at Hv;obtain⟨ak,ck,rfl⟩:=QF (m:=x.kind.length) Hv.drop.drop (QH _) (by decide);obtain⟨at',ct,rfl⟩:=QF (m:=x.kind.length) Hv.drop.drop.drop (by rw[QH,hkt]) (by decide);clear Hv hno rest;obtain⟨bO,sO,rfl,H,hclO⟩:=V5 H.swap (by omega)
   have hpt:∀ (k:Nat) (y:OC),oc[k]? = some y→((oc.map fun x=>pp x.ptr)++sO)[0+k*1]? = some (pp y.ptr):=fun k y hk=>by
    have:=(List.getElem?_eq_some_iff.1 hk).1;rw[Nat.zero_add,Nat.mul_one,getElem?_append_left (by rw[length_map];exact this),getElem?_map,hk];rfl
   refine AW H ?_;refine Jd ?_;refine Q5 rfl (QR H rfl (hpt i _ hy) rfl ?_);refine J0 H ?_;refine VB H ?_
   have hset0:(YJ F i oc).set i ⟨qq,vw,.slice ak x.kind.length ck,.slice at' x.kind.length ct,YL G 0 x⟩=YJ F i oc:=by
    rw[iZ hkt];apply ext_getElem?;intro k;rw[getElem?_set];split
    ·rename_i hk;subst hk;rw[if_pos (by rw[Ws];omega),hyK]
    ·rfl
   have hFy:F ⟨qq,vw,.slice ak x.kind.length ck,.slice at' x.kind.length ct,x⟩=⟨qq,vw,.slice ak x.kind.length ck,.slice at' x.kind.length ct,YL G x.kind.length x⟩:=by rw[hF,iG G hkt]
   have hstep:=PO (f:=F) hy;rw[hFy] at hstep;rw[← hset0] at H;refine J6 H ?_;refine Qo (fun ms σ w=>ms=[]∧σ 0=pp p∧σ 7 = .slice aU L.length cU∧σ 10 = .int .i64 i∧Q0 w (star (((YJ F i oc).set i ⟨qq,vw,.slice ak x.kind.length ck,.slice at' x.kind.length ct,YL G x.kind.length x⟩).map Yp)::pts bO (row 77 ((oc.map fun x=>pp x.ptr)++sO))::pts p (row 58 [pp t,.slice aL m.lays.length cL,.slice (some ⟨bO,0,none⟩) m.objs.length cO])::VS t (Vw m.P L)::QC 102 4 (.slice aL m.lays.length cL) (VD lc)::star (lc.map YG)::NL (.slice aU L.length cU) L::fr)) ?_ ?_
   ·refine QP ?_;refine Ql (fun ms σ w z=>ms=[]∧∃ j:Nat,j≤x.kind.length∧z=x.kind.length - j∧σ 0=pp p∧σ 7 = .slice aU L.length cU∧σ 10 = .int .i64 i∧σ 11=pp qq∧σ 12 = .int .i64 j∧Q0 w (pts bO (row 77 ((oc.map fun x=>pp x.ptr)++sO))::star (((YJ F i oc).set i ⟨qq,vw,.slice ak x.kind.length ck,.slice at' x.kind.length ct,YL G j x⟩).map Yp)::pts p (row 58 [pp t,.slice aL m.lays.length cL,.slice (some ⟨bO,0,none⟩) m.objs.length cO])::VS t (Vw m.P L)::QC 102 4 (.slice aL m.lays.length cL) (VD lc)::star (lc.map YG)::NL (.slice aU L.length cU) L::fr)) (m:=x.kind.length) ⟨rfl,0,by omega,by omega,rfl,rfl,rfl,rfl,rfl,H⟩ ?_;clear H;rintro ms σ w z ⟨rfl,j,hj,rfl,g0,g7,g10,g11,g12,H⟩;rw[Q1 g0,Q1 g7,Q1 g10,Q1 g11,Q1 g12];have Hc:=H.swap
    have hcur:((YJ F i oc).set i ⟨qq,vw,.slice ak x.kind.length ck,.slice at' x.kind.length ct,YL G j x⟩)[i]? = some ⟨qq,vw,.slice ak x.kind.length ck,.slice at' x.kind.length ct,YL G j x⟩:=by
     rw[getElem?_set_self (by rw[Ws];omega)]
    obtain⟨rest,H,hcv⟩:=JP hcur Hc;dsimp only at H hcv;obtain⟨hgk,hgt⟩:=iQ G j hkt;refine Kc H ?_;refine Qk rfl (fun h=>QB ?_) (fun h=>Qq ?_)
    ·have hjl:j < x.kind.length:=by omega
     have ha:=getElem?_eq_getElem hjl;have hb:=getElem?_eq_getElem (show j < x.to.length by omega);generalize x.kind[j]=a at ha;generalize x.to[j]=b at hb;obtain⟨hga,hgb⟩:=iV (G:=G) ha hb;replace H:=Js [2,0,0,0] 0 H;obtain⟨bk,sk,rfl,H,_,_,hck⟩:=Z3 H (by omega);replace H:=Js [3,0,0,0] 0 H;obtain⟨bt,st,rfl,H,_,_,hct⟩:=Z3 H (by omega)
     have hback:∀ (w':World) (l':List Q2) (k' t':List Nat),k'.length=x.kind.length→t'.length=x.kind.length→Q0 w' (pts bt (row 3 (QW t'++st))::pts bk (row 3 (QW k'++sk))::pts qq (K4 vw (.slice (some ⟨bk,0,none⟩) x.kind.length ck) (.slice (some ⟨bt,0,none⟩) x.kind.length ct) (YL G j x))::UL vw (YL G j x).w::star rest::l')→Q0 w' (star (((YJ F i oc).set i ⟨qq,vw,.slice (some ⟨bk,0,none⟩) x.kind.length ck,.slice (some ⟨bt,0,none⟩) x.kind.length ct,{ YL G j x with kind:=k',to:=t' }⟩).map Yp)::l'):=by
      intro w' l' k' t' e1 e2 H;replace H:=hct _ _ (QW t') (by rw[QH,QH];omega) H;replace H:=Js [1,0,0,0] 0 H;replace H:=hck _ _ (QW k') (by rw[QH,QH];omega) H;replace H:=Js [2,2,0,0] 0 H;have H:=hcv w' l' { YL G j x with kind:=k',to:=t' } H;rw[set_set] at H;exact H
     clear hct hck hcv Hc;refine CQ H ?_;clear H;intro w H;refine XF H ?_;refine Ja 4 ?_;refine Ji 5 ?_;refine Vm 6 [] H rfl (Q8.none rfl) rfl (G8 hga) (by kernel_rfl) ?_;refine Ja 7 ?_;refine Ja 8 ?_;by_cases hk2:a=2
     ·rw[show (((a:Nat):Int) == 2)=true by rw[hk2];rfl]
      have hbl:b < m.objs.length:=by
       have:=hgo j (by rw[ha,hk2]);rw[getD_eq_getElem?_getD,hb] at this;exact this
      have hyb:=getElem?_eq_getElem (show b < oc.length by omega);generalize oc[b]=yb at hyb
      obtain⟨zb,hzb,hzp,hzg⟩:∃ zb:OC,((YJ F i oc).set i ⟨qq,vw,.slice (some ⟨bk,0,none⟩) x.kind.length ck,.slice (some ⟨bt,0,none⟩) x.kind.length ct,YL G j x⟩)[b]? = some zb∧zb.ptr=yb.ptr∧zb.ob.gone=yb.ob.gone:=by
       rw[getElem?_set];by_cases hib:i=b
       ·subst hib;rw[if_pos rfl,if_pos (by rw[Ws];omega)];rw[hy] at hyb;injection hyb with hyb
        subst hyb;exact⟨_,rfl,rfl,rfl⟩
       ·rw[if_neg hib,Wr,hyb];refine⟨_,rfl,?_,?_⟩ <;> dsimp only <;> split
        ·rw[hF]
        ·rfl
        ·rw[hF];rfl
        ·rfl
      have hGb:G[b]? = some yb.ob:=by rw[← h3,getElem?_map,hyb];rfl
      have hhit:YR G a b=yb.ob.gone:=by
       unfold YR;rw[hGb,hk2];rfl
      have Hc:=hback _ _ _ _ hgk hgt H;obtain⟨restb,Hb,_⟩:=JP hzb Hc;have hpb:=hpt b yb hyb;rw[← hzp] at hpb;rw[← hzg] at hhit;refine Bo H ?_;refine Jl 12 [] H ?_;refine Ja 13 ?_;refine Ja 14 ?_;refine Jf 15 ?_;refine Jl 16 [] H ?_;refine Ja 17 ?_;refine Ji 18 ?_;refine Vm 19 [] H rfl (Q8.of rfl rfl rfl) rfl (G8 hgb) (by kernel_rfl) ?_;refine Ji 20 ?_;refine Vm 21 [] H rfl (Q8.of rfl rfl rfl) rfl hpb (by kernel_rfl) ?_;refine Ja 22 ?_;refine Jf 23 ?_;refine Vm 24 [] Hb rfl (Q8.of rfl rfl rfl) rfl rfl (by kernel_rfl) ?_;refine Ja 25 ?_;refine Fz (by kernel_rfl) (Vi.cons (.inr (Q0.at Hb)) (by repeat first|exact .nil|refine .cons (.inr H.at) ?_|refine .cons (.inr H.mp) ?_|refine .cons (.inl (by kernel_rfl)) ?_)) ?_;clear Hb Hc;cases hgn:zb.ob.gone with
      | true=>
       rw[hgn] at hhit
       repeat refine Q6 ?_
       refine Vh rfl ?_
       repeat refine Q6 ?_
       refine QZ ?_;refine Jv ?_;refine Jv ?_;refine Q5 rfl (V8 rfl rfl ?_);refine Q5 rfl (QR H rfl rfl rfl ?_);refine Jv ?_;refine Jd ?_;refine Q5 rfl (Yj H rfl rfl inferInstance rfl (by simp only[length_append,QH];omega) rfl ?_);clear H;intro w H;rw[Int.toNat_natCast,B1 (v:=1) (x:=1) (by omega) rfl] at H;refine EB H ?_;refine Jd ?_;refine Q5 rfl (Yj H rfl rfl inferInstance rfl (by simp only[length_append,QH];omega) rfl ?_);clear H;intro w H;rw[Int.toNat_natCast,B1 (v:=0) (x:=0) (by omega) rfl] at H;refine J2 H ?_;replace H:=hback _ _ _ _ (by rw[length_set];exact hgk) (by rw[length_set];exact hgt) H;rw[iY ha hb hhit] at H;refine VX H ?_;exact⟨_,⟨rfl,j+1,hjl,rfl,rfl,rfl,rfl,rfl,Qc (by omega),H.swap⟩,by omega⟩
      | false=>
       rw[hgn] at hhit;refine V6 H ?_;replace H:=hback _ _ _ _ hgk hgt H;replace H:Q0 w (star (((YJ F i oc).set i ⟨qq,vw,.slice (some ⟨bk,0,none⟩) x.kind.length ck,.slice (some ⟨bt,0,none⟩) x.kind.length ct,YL G j x⟩).map Yp)::_):=H;rw[PS ha hb (by rw[hhit];decide)] at H;refine VX H ?_;exact⟨_,⟨rfl,j+1,hjl,rfl,rfl,rfl,rfl,rfl,Qc (by omega),H.swap⟩,by omega⟩
     ·rw[show (((a:Nat):Int) == 2)=false by rw[beq_eq_false_iff_ne];omega]
      have hhit:¬ YR G a b=true:=by
       unfold YR;rw[show (a == 2)=false by rw[beq_eq_false_iff_ne];exact hk2];simp
      refine Jn 9 ?_;refine Jn 10 ?_;refine Jn 11 ?_;refine Jn 12 ?_;refine Jn 13 ?_;refine ED H ?_;refine Jn 24 ?_;refine Ja 25 ?_;refine Jx H ?_;refine V6 H ?_;replace H:=hback _ _ _ _ hgk hgt H;replace H:Q0 w (star (((YJ F i oc).set i ⟨qq,vw,.slice (some ⟨bk,0,none⟩) x.kind.length ck,.slice (some ⟨bt,0,none⟩) x.kind.length ct,YL G j x⟩).map Yp)::_):=H;rw[PS ha hb hhit] at H;refine VX H ?_;exact⟨_,⟨rfl,j+1,hjl,rfl,rfl,rfl,rfl,rfl,Qc (by omega),H.swap⟩,by omega⟩
    ·obtain rfl:j=x.kind.length:=by omega
     exact⟨rfl,rfl,rfl,rfl,rfl,Hc⟩
   clear H;rintro ms σ w ⟨rfl,g0,g7,g10,H⟩;rw[Q1 g0,Q1 g7,Q1 g10];rw[hstep] at H;replace H:=(hclO _ _ H.swap).swap;refine VX H ?_;exact⟨_,⟨rfl,i+1,hlt,rfl,rfl,rfl,Qc (by omega),H⟩,by omega⟩
  ·obtain rfl:i=oc.length:=by omega
   rw[JN] at H;exact⟨rfl,rfl,rfl,H⟩
 clear H;rintro ms σ w ⟨rfl,g7,H⟩;rw[Q1 g7];replace H:=Js [2,2,2,2,1,0] 0 H
 have hpp:(oc.map fun x=>pp x.ptr)=((oc.map F).map fun x=>pp x.ptr):=by
  rw[map_map];congr 1
  funext y
  show pp y.ptr=pp (F y).ptr;rw[hF]
 rw[hpp] at H
 have hob:(oc.map F).map (·.ob)=G.map (Zh G):=by
  have e1:(oc.map F).map (·.ob)=oc.map (fun y=>Zh G y.ob):=by
   rw[map_map];congr 1
   funext y
   show (F y).ob=_;rw[hF]
  have e2:(oc.map (·.ob)).map (Zh G)=oc.map (fun y=>Zh G y.ob):=by
   rw[map_map];rfl
  rw[e1,← e2,h3]
 have H:=Yq (m:=KY m L) (gk hm L) h2 (by rw[hfm];exact hob) H;refine VX H ?_;exact Q3 (Jy H.swap rfl fun w' H' => .inr ⟨rfl,_,rfl,H'⟩)
theorem iX {c:List Value} {o n:Nat} {L:List Int} (h:QV c o n (Qg L)) {i:Nat} {x:Int} (hi:L[i]? = some x):c[o+i*1]? = some (.int .i64 x):=by
 rw[Nat.mul_one];refine h.get i _ ?_;unfold Qg;rw[getElem?_map,hi];rfl
theorem iK [Q4] (p c mo:Nat) (a:Option Addr) (cap:Nat) (told:List (Nat×Nat)) (hlen:told.length≤1000000) (vL:Value) (L:List Int) (hL:L.length≤1000000) {w:World} {fr:List Q2} (hr:Vu fr vL L.length 1 (Qg L)) (H:Q0 w (YQ p c mo (.slice a told.length cap)::VW (.slice a told.length cap) told::fr)) :
  Calls Tryz.prog 25 #[pp p,vL] w (ret fun v w'=>∃ (ys:List ((Nat×Nat)×Int)) (vt vo:Value),v = .tuple #[vt,vo]∧ys.length=L.length∧(∀ y∈ys,W2 told y)∧Q0 w' (VW vt (ys.map (·.1))::IL vo (ys.map (·.2))::YQ p c mo (.slice a told.length cap)::VW (.slice a told.length cap) told::fr)):=by
 obtain⟨h0,adL,capL,rfl,hrd⟩:=hr;refine Q9 Tryz.func25 rfl (by kernel_rfl) ?_;refine J5 H ?_;refine VB H ?_;refine A9 H ?_;refine Ql (fun ms σ w z=>ms=[]∧∃ (i:Nat) (ys:List ((Nat×Nat)×Int)) (vt vo:Value),i≤L.length∧z=L.length - i∧ys.length=i∧(∀ y∈ys,W2 told y)∧σ 0=pp p∧σ 6=vt∧σ 7=vo∧σ 11 = .slice adL L.length capL∧σ 12 = .int .i64 L.length∧σ 13 = .int .i64 i∧Q0 w (VW vt (ys.map (·.1))::IL vo (ys.map (·.2))::YQ p c mo (.slice a told.length cap)::VW (.slice a told.length cap) told::fr)) (m:=L.length) ⟨rfl,0,[],_,_,by omega,by omega,rfl,fun y hy=>(by cases hy),rfl,rfl,rfl,rfl,rfl,rfl,Z2 (Z2 H)⟩ ?_;clear H;rintro ms σ w z ⟨rfl,i,ys,vt,vo,hi,rfl,hys,hch,g0,g6,g7,g11,g12,g13,H⟩;obtain⟨at',mt,ct,rfl⟩:=Qw H;obtain⟨ao,mo',co,rfl⟩:=Qw H.drop;rw[Q1 g0,Q1 g6,Q1 g7,Q1 g11,Q1 g12,Q1 g13];refine J7 H ?_;refine Qk rfl (fun h=>QB ?_) (fun h=>Qq ?_)
 ·have hlt:i < L.length:=by omega
  have hy:=getElem?_eq_getElem hlt;generalize L[i]=x at hy
  rcases hrd with hz|⟨b,o,E,fz,cc,rfl,hA,hrd⟩
  ·omega
  haveI:=hA;have hx:=iX hrd hy;refine YW H ?_;refine Jd ?_;refine Q5 rfl (QR H rfl hx rfl ?_);refine J0 H ?_;refine Yd H ?_;refine UN H ?_;by_cases ht:told=[]
  ·subst ht;rw[show ((([]:List (Nat×Nat)).length:Int) == 0)=true from rfl];refine VM H ?_;refine YY H ?_;refine Bg H ?_;clear H;intro b25 w H;replace H:=Js [1,0] 0 H;refine Q5 rfl (YO H rfl rfl (by repeat first|exact .nil _|apply QV.cons rfl) rfl (by decide) (by rw[Rv,length_map];simp only[length_cons,length_nil];omega) rfl rfl ?_);clear H;intro v26 w H;obtain⟨a26,m26,c26,rfl⟩:=Qw H;refine Jv ?_;refine GN H ?_;clear H;intro b28 w H;replace H:=Js [3,0,0,0] 0 H;refine Q5 rfl (YO H rfl rfl (by repeat first|exact .nil _|apply QV.cons rfl) rfl (by decide) (by rw[Vn,length_map];simp only[length_cons,length_nil];omega) rfl rfl ?_);clear H;intro v29 w H;obtain⟨a29,m29,c29,rfl⟩:=Qw H;refine J3 H ?_;replace H:=Js [1,2,1,0] 0 H;replace H:=H.drop.drop;have e1:ZI (ys.map (·.1))++[.int .i64 1,.int .i64 1]=ZI ((ys++[(((1,1),-1):(Nat×Nat)×Int)]).map (·.1)):=by rw[map_append,Ik];rfl
   have e2:Qg (ys.map (·.2))++[.int .i64 (-1)]=Qg ((ys++[(((1,1),-1):(Nat×Nat)×Int)]).map (·.2)):=by rw[map_append,Au];rfl
   rw[e1,e2] at H;refine Qq ?_;refine J5 H ?_;refine⟨_,⟨rfl,i+1,ys++[((1,1),-1)],_,_,hlt,rfl,by simp[hys],fun y hy=>?_,rfl,rfl,rfl,rfl,rfl,Qc (by omega),H⟩,by omega⟩
   rcases mem_append.1 hy with hy|hy
   ·exact hch y hy
   ·rw[mem_singleton] at hy;subst hy;exact .inr ⟨rfl,rfl⟩
  ·have hlp:0 < told.length:=length_pos_iff.2 ht;rw[show ((told.length:Int) == 0)=false by rw[beq_eq_false_iff_ne];omega];refine AR H ?_;refine Q5 rfl (HX rfl rfl ?_);refine YP H ?_;refine ZB H ?_;refine Q5 rfl (ZO rfl rfl ?_);refine Q5 rfl (HX rfl rfl ?_)
   obtain⟨K,hK⟩:∃ K:Nat,IntKind.u64.wrap x=K:=⟨(IntKind.u64.wrap x).toNat,by
    have:0≤IntKind.u64.wrap x:=Int.emod_nonneg _ (by decide);omega⟩
   have e1:IntKind.u64.wrap (told.length:Int)=(told.length:Int):=Int.emod_eq_of_lt (by omega) (by show (told.length:Int) < 18446744073709551616;omega);rw[hK,e1];have hmod:=Nat.mod_lt K hlp
   refine UD (v := .int .u64 ((K % told.length:Nat):Int)) (by
    show (if IntKind.u64=IntKind.u64 then (if (told.length:Int)=0 then none else some (Value.int IntKind.u64 (Int.tmod (K:Int) (told.length:Int)))) else none)=_;rw[if_pos rfl,if_neg (by omega),Int.tmod_eq_emod_of_nonneg (by omega),Int.natCast_emod]) rfl ?_
   refine Q5 rfl (HX rfl rfl ?_);rw[Qb (x:=((K % told.length:Nat):Int)) (by omega) (by omega)];refine J0 H ?_;generalize K % told.length=n at hmod;have hn:=getElem?_eq_getElem hmod;generalize told[n]=xy at hn;obtain⟨tx,ty⟩:=xy;replace H:=Js [3,0,0,0] 0 H;obtain⟨bT,sT,rfl,H,hcl⟩:=V5 H hlp;refine AM H ?_;refine Jd ?_;refine Q5 rfl (VN H rfl (Ku hn) rfl ?_);refine GN H ?_;clear H;intro b48 w H;replace H:=Js [2,0,0] 0 H;refine Q5 rfl (YO H rfl rfl (by repeat first|exact .nil _|apply QV.cons rfl) rfl (by decide) (by rw[Rv,length_map];simp only[length_cons,length_nil];omega) rfl rfl ?_);clear H;intro v49 w H;obtain⟨a49,m49,c49,rfl⟩:=Qw H;refine YP H ?_;refine GN H ?_;clear H;intro b52 w H;replace H:=Js [4,0,0,0,0] 0 H;refine Q5 rfl (YO H rfl rfl (by repeat first|exact .nil _|apply QV.cons rfl) rfl (by decide) (by rw[Vn,length_map];simp only[length_cons,length_nil];omega) rfl rfl ?_);clear H;intro v53 w H;obtain⟨a53,m53,c53,rfl⟩:=Qw H;refine J3 H ?_;replace H:=Js [4,2,0,2,0,0] 0 H;replace H:=hcl _ _ H;replace H:=Js [4,4,1,1,1,0] 0 H;replace H:=H.drop.drop;have e2:ZI (ys.map (·.1))++[.int .i64 ((tx:Nat):Int),.int .i64 ((ty:Nat):Int)]=ZI ((ys++[(((tx,ty),(n:Int)):(Nat×Nat)×Int)]).map (·.1)):=by rw[map_append,Ik];rfl
   have e3:Qg (ys.map (·.2))++[.int .i64 (n:Int)]=Qg ((ys++[(((tx,ty),(n:Int)):(Nat×Nat)×Int)]).map (·.2)):=by rw[map_append,Au];rfl
   rw[e2,e3] at H;refine J5 H ?_;refine⟨_,⟨rfl,i+1,ys++[((tx,ty),(n:Int))],_,_,hlt,rfl,by simp[hys],fun y hy=>?_,rfl,rfl,rfl,rfl,rfl,Qc (by omega),H⟩,by omega⟩
   rcases mem_append.1 hy with hy|hy
   ·exact hch y hy
   ·rw[mem_singleton] at hy;subst hy;exact .inl ⟨n,rfl,hn⟩
 ·obtain rfl:i=L.length:=by omega
  refine WM H ?_;exact Q3 (Jy H rfl fun w' H'=>⟨ys,_,_,rfl,hys,hch,H'⟩)
set_option maxRecDepth 10000 in
theorem iR [Q4] (p:Nat) (u:Gj) (s:CS) (r:Int) (v:Value) (l:List (Nat×Nat)) (hl:l.length≤1000) {w:World} {fr:List Q2} (H:Q0 w (Qi u.tp s.tab::Qv p u::Qf u.trp s.last s.par::VW v l::fr)) :
  Calls Tryz.prog 66 #[pp p,.int .i64 r,v] w (ret fun x w'=>x = .int .i64 (Zg s r l:Nat)∧Q0 w' (Qi u.tp s.tab::Qv p u::Qf u.trp s.last s.par::VW v l::fr)):=by
 obtain⟨a,c,rfl⟩:=QF (H.pull 3) (Rv l) (by decide);refine Q9 Tryz.func66 rfl (by kernel_rfl) ?_;refine VB H ?_;refine TH ?_;refine UV H ?_;by_cases h64:64 < l.length
 ·rw[show decide (((l.length:Nat):Int) > 64)=true from decide_eq_true (by omega)];refine YD H ?_;exact Q3 (Jy H rfl fun w' H'=>⟨by unfold Zg;rw[if_pos h64];rfl,H'⟩)
 have hfail:∀ x:Nat,x≠0→ZX s.tab r [] l=x→Zg s r l=x:=fun x h1 h2=>by
  unfold Zg;rw[if_neg h64,h2,if_pos h1]
 rw[show decide (((l.length:Nat):Int) > 64)=false from decide_eq_false (by omega)];refine V6 H ?_;refine J7 H ?_;refine S8 ?_;refine UV H ?_;replace H:=Js [3,0,0,0] 0 H;refine J6 H ?_;refine Y6 (fun ms σ w=>ms=[]∧∃ again:Bool,((again=true∧ZX s.tab r [] l=14)∨(again=false∧ZX s.tab r [] l=0))∧σ 0=pp p∧σ 7 = .bool again∧Q0 w (VW (.slice a l.length c) l::Qi u.tp s.tab::Qv p u::Qf u.trp s.last s.par::fr)) ?_ ?_
 ·refine QP ?_;refine Ql (fun ms σ w z=>ms=[]∧∃ i:Nat,i≤l.length∧z=l.length - i∧ZX s.tab r (l.take i) (l.drop i)=ZX s.tab r [] l∧σ 0=pp p∧σ 1 = .int .i64 r∧σ 2 = .slice a l.length c∧σ 7 = .bool false∧σ 17 = .slice a l.length c∧σ 18 = .int .i64 l.length∧σ 19 = .int .i64 i∧Q0 w (VW (.slice a l.length c) l::Qi u.tp s.tab::Qv p u::Qf u.trp s.last s.par::fr)) (m:=l.length) ⟨rfl,0,by omega,by omega,rfl,rfl,rfl,rfl,rfl,rfl,rfl,rfl,H⟩ ?_;clear H;rintro ms σ w z ⟨rfl,i,hi,rfl,hch,g0,g1,g2,g7,g17,g18,g19,H⟩;rw[Q1 g0,Q1 g1,Q1 g2,Q1 g7,Q1 g17,Q1 g18,Q1 g19];refine J7 H ?_;refine Qk rfl (fun h=>QB ?_) (fun h=>Qq ?_)
  ·have hlt:i < l.length:=by omega
   have hx:=getElem?_eq_getElem hlt;have htk:l.take (i+1)=l.take i++[l[i]]:=by rw[take_add_one,hx];rfl
   rw[drop_eq_getElem_cons hlt] at hch;generalize l[i]=t at hx htk hch;obtain⟨k,n⟩:=t;obtain⟨bT,sT,rfl,H,hcap,_,hcl⟩:=Z3 H (by omega);refine Bf H ?_;refine Jd ?_;refine Q5 rfl (VN H rfl (Ku hx) rfl ?_);refine VZ H ?_;clear H;intro b9 w H;refine Da H ?_;clear H;intro w H;refine J2 H ?_;replace H:Q0 w (pts b9 (row 69 [.int .i64 k,.int .i64 n])::pts bT (row 69 (ZI l++sT))::Qi u.tp s.tab::Qv p u::Qf u.trp s.last s.par::fr):=H;obtain⟨e1,e2,h1,h2,e4,hsh⟩:=CT (Qd s.tab k n);refine J6 H ?_
   refine Qo (fun ms σ w=>ms=[]∧∃ b10,σ 0=pp p∧σ 1 = .int .i64 r∧σ 2 = .slice (some ⟨bT,0,none⟩) l.length c∧σ 7 = .bool false∧σ 8 = .int .i64 i∧σ 9=pp b9∧σ 10=pp b10∧σ 11 = .int .i64 e4∧σ 17 = .slice (some ⟨bT,0,none⟩) l.length c∧σ 18 = .int .i64 l.length∧σ 19 = .int .i64 i ∧
    Q0 w (Qi u.tp s.tab::pts b10 (row 113 [.int .i64 e1,.int .i64 e2,.bool h1,.bool h2])::pts b9 (row 69 [.int .i64 k,.int .i64 n])::pts bT (row 69 (ZI l++sT))::Qv p u::Qf u.trp s.last s.par::fr)) ?_ ?_
   ·replace H:=Js [2,0,0,0,0] 0 H;refine J1 H ?_;clear H;intro w H;refine RP H ?_;refine Jw 5 9 H rfl rfl (V1 (a:=[]) (b:=[]) rfl rfl (call (Zb u.tp s.tab k n H) ?_)) (Vo H rfl ?_)
    ·clear H;rintro v w ⟨rfl,H⟩;rw[hsh];refine RT H ?_;clear H;intro b10 w H;refine Ra H ?_;clear H;intro w H;refine GP H ?_;replace H:=Js [1,0,0,0,0,0] 0 H;exact⟨rfl,rfl,b10,rfl,rfl,rfl,rfl,rfl,rfl,rfl,rfl,rfl,rfl,rfl,H⟩
    ·clear H;intro b10 w H;refine Jo 5 H ?_;refine Jk rfl rfl (Zb u.tp s.tab k n H.swap) ?_;clear H;rintro v w ⟨rfl,H⟩;rw[hsh];refine Rb H ?_;clear H;intro w H;refine GP H ?_;exact⟨rfl,rfl,b10,rfl,rfl,rfl,rfl,rfl,rfl,rfl,rfl,rfl,rfl,rfl,H⟩
   clear H;rintro ms σ w ⟨rfl,b10,g0,g1,g2,g7,g8,g9,g10,g11,g17,g18,g19,H⟩;rw[Q1 g0,Q1 g1,Q1 g2,Q1 g7,Q1 g8,Q1 g9,Q1 g10,Q1 g11,Q1 g17,Q1 g18,Q1 g19];cases hL:Qd s.tab k n with
   | none=>
    have hv:Qr s.tab k n=none:=by unfold Qr;rw[hL]
    rw[FT hv] at hch;rw[hL] at hsh;cases hsh;refine WA H ?_;refine KL H ?_;refine E8 H ?_;replace H:=Js [3,0,2,2] 2 H;replace H:=hcl _ _ _ rfl H;replace H:=Js [1,1,1,0] 0 H;exact Q3 (.inr ⟨by simp,Jy H rfl fun w' H'=>⟨by rw[hfail 8 (by decide) hch.symm];rfl,H'⟩⟩)
   | some q=>
    obtain⟨k',e⟩:=q;obtain⟨n',hn1,hn2,hk⟩:=Y8.1 hL;obtain rfl:k=k':=by omega
    obtain rfl:n=n':=by omega
    rw[hL] at hsh;cases hsh;cases hh:e.held with
    | false=>
     have hv:Qr s.tab k n=none:=by unfold Qr;rw[hL];show (if e.held=true then some (k,e) else none)=none;rw[hh];rfl
     rw[FT hv] at hch;rw[hh] at H;refine WA H ?_;refine UM H ?_;refine E8 H ?_;replace H:=Js [3,0,2,2] 2 H;replace H:=hcl _ _ _ rfl H;replace H:=Js [1,1,1,0] 0 H;exact Q3 (.inr ⟨by simp,Jy H rfl fun w' H'=>⟨by rw[hfail 8 (by decide) hch.symm];rfl,H'⟩⟩)
    | true=>
     have hv:Qr s.tab k n=some (k,e):=XP.2 ⟨hL,hh⟩;rw[JD hv] at hch;rw[hh] at H;refine WA H ?_;refine UM H ?_;refine KF H ?_;refine De H ?_;refine J0 H ?_;by_cases hr:e.region=r
     ·rw[show (e.region != r)=false by rw[hr];simp];rw[if_neg (by simpa using hr)] at hch;refine C5 H ?_;refine Ag H ?_;cases hp:e.pinned with
      | true=>
       rw[hp,if_pos rfl] at hch;refine YD H ?_;replace H:=Js [3,0,2,2] 2 H;replace H:=hcl _ _ _ rfl H;replace H:=Js [1,1,1,0] 0 H;exact Q3 (.inr ⟨by simp,Jy H rfl fun w' H'=>⟨by rw[hfail 13 (by decide) hch.symm];rfl,H'⟩⟩)
      | false=>
       rw[hp,if_neg (by decide)] at hch;refine AF H ?_;refine Q5 rfl (Sv rfl rfl (by omega) (by omega) rfl ?_);rw[Int.toNat_natCast];refine UN H ?_;replace H:=Js [3,0,1,1,1] 1 H;refine GL H ?_
       refine Ql (fun ms σ w z=>ms=[]∧∃ j:Nat,j≤i∧z=i - j∧(∀ x∈l.take j,x≠(k,n))∧σ 0=pp p∧σ 1 = .int .i64 r∧σ 2 = .slice (some ⟨bT,0,none⟩) l.length c∧σ 7 = .bool false∧σ 9=pp b9∧σ 17 = .slice (some ⟨bT,0,none⟩) l.length c∧σ 18 = .int .i64 l.length∧σ 19 = .int .i64 i∧σ 51 = .slice (some ⟨bT,0,none⟩) i c∧σ 52 = .int .i64 i∧σ 53 = .int .i64 j ∧
        Q0 w (pts bT (row 69 (ZI l++sT))::Qi u.tp s.tab::pts b9 (row 69 [.int .i64 k,.int .i64 n])::Qv p u::Qf u.trp s.last s.par::fr)) (m:=i) ⟨rfl,0,by omega,by omega,(fun x hx=>by simp at hx),rfl,rfl,rfl,rfl,rfl,rfl,rfl,rfl,rfl,rfl,rfl,H⟩ ?_
       clear H;rintro ms σ w z ⟨rfl,j,hj,rfl,hno,g0,g1,g2,g7,g9,g17,g18,g19,g51,g52,g53,H⟩;rw[Q1 g0,Q1 g1,Q1 g2,Q1 g7,Q1 g9,Q1 g17,Q1 g18,Q1 g19,Q1 g51,Q1 g52,Q1 g53];refine J7 H ?_;refine Qk rfl (fun h=>QB ?_) (fun h=>Qq ?_)
       ·have hjl:j < i:=by omega
        have hy:=getElem?_eq_getElem (l:=l) (i:=j) (by omega);have htj:l.take (j+1)=l.take j++[l[j]]:=by rw[take_add_one,hy];rfl
        generalize l[j]=y at hy htj;obtain⟨k2,n2⟩:=y;refine YW H ?_;refine Jd ?_;refine Q5 rfl (VN H rfl (Ku hy) rfl ?_);refine VZ H ?_;clear H;intro b13 w H;refine J4 H ?_;clear H;intro w H;refine EM H ?_;refine RR H ?_;refine Qk (p:=(((k2:Nat):Int),((n2:Nat):Int))=(((k:Nat):Int),((n:Nat):Int))) rfl (fun he=>?_) (fun he=>QB ?_)
        ·have hkn:(k2,n2)=(k,n):=by
          injection he with e1 e2
          exact Prod.ext (by show k2=k;omega) (by show n2=n;omega)
         rw[hkn] at hy;rw[if_pos (mem_of_getElem? (i:=j) (by rw[getElem?_take_of_lt hjl];exact hy))] at hch;refine VB H ?_;refine Qq ?_;replace H:=Js [1,1,2,2] 2 H;replace H:=hcl _ _ _ rfl H;exact .inl ⟨rfl,rfl,true,.inl ⟨rfl,hch.symm⟩,rfl,rfl,H⟩
        ·refine J5 H ?_;refine⟨_,⟨rfl,j+1,hjl,rfl,(fun x hx=>?_),rfl,rfl,rfl,rfl,rfl,rfl,rfl,rfl,rfl,rfl,Qc (by omega),H.drop⟩,by omega⟩;rw[htj] at hx
         rcases mem_append.1 hx with hx|hx
         ·exact hno x hx
         ·rw[mem_singleton] at hx;subst hx;intro h;injection h with e1 e2
          exact he (by rw[e1,e2])
       ·obtain rfl:j=i:=by omega
        rw[if_neg (fun h=>hno _ h rfl),← htk] at hch;refine J5 H ?_;replace H:=Js [0,0,1,1] 1 H;replace H:=hcl _ _ _ rfl H;exact⟨_,⟨rfl,j+1,hlt,rfl,hch,rfl,rfl,rfl,rfl,rfl,rfl,Qc (by omega),H⟩,by omega⟩
     ·rw[show (e.region != r)=true by simpa using hr];rw[if_pos hr] at hch;refine YD H ?_;replace H:=Js [3,0,2,2] 2 H;replace H:=hcl _ _ _ rfl H;replace H:=Js [1,1,1,0] 0 H;exact Q3 (.inr ⟨by simp,Jy H rfl fun w' H'=>⟨by rw[hfail 15 (by decide) hch.symm];rfl,H'⟩⟩)
  ·obtain rfl:i=l.length:=by omega
   rw[drop_length] at hch;exact .inl ⟨rfl,rfl,false,.inr ⟨rfl,hch.symm⟩,rfl,rfl,H⟩
 clear H;rintro ms σ w ⟨rfl,again,hag,g0,g7,H⟩;rw[Q1 g0,Q1 g7];refine J6 H ?_;refine Y6 (fun ms σ w=>ms=[]∧Zg s r l=0∧Q0 w (Qi u.tp s.tab::Qv p u::Qf u.trp s.last s.par::VW (.slice a l.length c) l::fr)) ?_ ?_
 ·refine QP ?_;refine J5 H ?_
  rcases hag with ⟨rfl,hch⟩|⟨rfl,hch⟩
  ·refine YD H ?_;replace H:=Js [1,1,1,0] 0 H;exact Q3 (.inr ⟨by simp,Jy H rfl fun w' H'=>⟨by rw[hfail 14 (by decide) hch];rfl,H'⟩⟩)
  ·refine C5 H ?_;replace H:=Js [3,1,1,0] 0 H;refine Yd H ?_;refine Jc rfl rfl (aJ u.trp s.last s.par H) ?_;clear H;rintro v w ⟨rfl,H⟩;refine Jv ?_;by_cases hf:s.par.length=64
   ·rw[show (((s.par.length:Nat):Int) == (64:Int))=true by rw[hf];rfl];refine UO H ?_;replace H:=Js [1,1,0,0] 0 H;exact Q3 (.inr ⟨by simp,Jy H rfl fun w' H'=>⟨by unfold Zg;rw[if_neg h64,hch,if_neg (by decide),if_pos hf];rfl,H'⟩⟩)
   ·rw[show (((s.par.length:Nat):Int) == (64:Int))=false by rw[beq_eq_false_iff_ne];omega];refine Y7 H ?_;replace H:=Js [1,1,0,0] 0 H;exact .inl ⟨rfl,rfl,by unfold Zg;rw[if_neg h64,hch,if_neg (by decide),if_neg hf],H⟩
 clear H;rintro ms σ w ⟨rfl,hE,H⟩;refine VB H ?_;exact Q3 (Jy H rfl fun w' H'=>⟨by rw[hE];rfl,H'⟩)
end Go.Proofs.YtmjdnljneifpcaaGreatDoor
