/- Cells: what is proved on the way: every input of the statement; no condition. Texts joined: JoiQ MdlP ChkP LawA ChkQ SplT JoiE JoiF JoiG JoiH. -/
import Derived.Test.YtbnnnljagkjpiaaGreatDoorBhm
import Derived.Test.YtbnnnljagkjpiaaGreatDoorBhi
import Derived.Test.YtbnnnljagkjpiaaGreatDoorBhd
import Derived.Test.YtbnnnljagkjpiaaGreatDoorBhj
import Derived.Test.YtbnnnljagkjpiaaGreatDoorBhk
set_option linter.unusedVariables false
set_option linter.unusedSimpArgs false
set_option linter.unusedSectionVars false
namespace Go.Proofs.YtbnnnljagkjpiaaGreatDoor
open List
open Go.SL
def YV (objs:List QI) (k t:Nat):Bool:=k == 2 && ((objs[t]?).map QI.gone).getD false
def ZT (objs:List QI) (x:QI):QI:={ x with kind:=(x.kind.zip x.to).map (fun y=>if YV objs y.1 y.2=true then 1 else y.1),to:=(x.kind.zip x.to).map (fun y=>if YV objs y.1 y.2=true then 0 else y.2) }
def Qd (L:List Nat) (x:QI):QI:=if x.region∈L then { x with gone:=true } else x
def Xx (m:MS) (L:List Nat):MS:={ m with P:=Vs m.P L,objs:=(m.objs.map (Qd L)).map (ZT (m.objs.map (Qd L))) }
theorem Ip {objs:List QI} {x:QI} (h:x.kind.length=x.to.length) {p:Nat} (hp:p < x.kind.length):(ZT objs x).kind.getD p 0=(if YV objs (x.kind.getD p 0) (x.to.getD p 0)=true then 1 else x.kind.getD p 0)∧(ZT objs x).to.getD p 0=(if YV objs (x.kind.getD p 0) (x.to.getD p 0)=true then 0 else x.to.getD p 0):=by
 have h1:=getElem?_eq_getElem hp;have h2:=getElem?_eq_getElem (show p < x.to.length by omega);have hz:(x.kind.zip x.to)[p]? = some (x.kind[p],x.to[p]'(by omega)):=getElem?_zip_eq_some.2 ⟨h1,h2⟩;unfold ZT;simp only[getD_eq_getElem?_getD,getElem?_map,hz,h1,h2,Option.map_some,Option.getD_some];exact⟨trivial,trivial⟩
theorem Iq {L:List Nat} {x:QI}:(Qd L x).gone=true↔x.gone=true∨x.region∈L:=by
 unfold Qd;by_cases h:x.region∈L
 ·rw[if_pos h];exact⟨fun _ => .inr h,fun _=>rfl⟩
 ·rw[if_neg h];exact⟨.inl,fun h1=>h1.elim id fun h2=>absurd h2 h⟩
theorem fR (L:List Nat) (x:QI):(Qd L x).region=x.region∧(Qd L x).lay=x.lay∧(Qd L x).count=x.count∧(Qd L x).held=x.held∧(Qd L x).pinned=x.pinned∧(Qd L x).w=x.w∧(Qd L x).kind=x.kind∧(Qd L x).to=x.to:=by
 unfold Qd;split <;> exact⟨rfl,rfl,rfl,rfl,rfl,rfl,rfl,rfl⟩
theorem Ir {m:MS} {L:List Nat} {o:Nat} {x':QI} (h:(Xx m L).objs[o]? = some x'):∃ x,m.objs[o]? = some x∧x'=ZT (m.objs.map (Qd L)) (Qd L x):=by
 have h:((m.objs.map (Qd L)).map (ZT (m.objs.map (Qd L))))[o]? = some x':=h;rw[getElem?_map,getElem?_map] at h;cases hx:m.objs[o]? with
 | none=>rw[hx] at h;cases h
 | some x=>
  rw[hx] at h;injection h with h
  exact⟨x,rfl,h.symm⟩
theorem Is {m:MS} {L:List Nat} {k t:Nat}:YV (m.objs.map (Qd L)) k t=true↔k=2∧∃ x,m.objs[t]? = some x∧(x.gone=true∨x.region∈L):=by
 unfold YV;rw[Bool.and_eq_true,beq_iff_eq,getElem?_map];refine and_congr_right fun _=>?_;cases hx:m.objs[t]? with
 | none=>exact⟨fun h=>(by cases h),fun ⟨x,h,_⟩=>(by cases h)⟩
 | some x=>
  show (Qd L x).gone=true↔_;rw[Iq];exact⟨fun h=>⟨x,rfl,h⟩,fun ⟨y,h1,h2⟩=>(by injection h1 with h1;subst h1;exact h2)⟩
theorem fW {m:MS} (h:V6 m) (L:List Nat):V6 (Xx m L):=by
 refine⟨?_,h.lays,fun x' hx'=>?_,?_⟩
 ·show 1≤(Vs m.P L).length∧(Vs m.P L).length≤_;unfold Vs;rw[length_mapIdx];exact h.P
 ·obtain⟨o,ho⟩:=getElem?_of_mem hx';obtain⟨x,hx,rfl⟩:=Ir ho;obtain⟨a,b,c,d,e⟩:=h.objs x (mem_of_getElem? hx);obtain⟨s1,s2,s3,s4,s5,s6,s7,s8⟩:=fR L x;have hl:(Xx m L).objs.length=m.objs.length:=by show (((m.objs.map (Qd L)).map (ZT _))).length=_;rw[length_map,length_map]
  refine⟨?_,?_,?_,?_,fun p hp=>?_⟩
  ·show ∃ l,m.lays[(Qd L x).lay - 1]? = some l∧VT l∧V9 l (Qd L x).count=((Qd L x).w.length,0);rw[s2,s3,s6];exact a
  ·show 1≤(Qd L x).lay;rw[s2];exact b
  ·show (List.map _ ((Qd L x).kind.zip (Qd L x).to)).length=(Qd L x).w.length;rw[length_map,length_zip,s6,s7,s8,c,d,Nat.min_self]
  ·show (List.map _ ((Qd L x).kind.zip (Qd L x).to)).length=(Qd L x).w.length;rw[length_map,length_zip,s6,s7,s8,c,d,Nat.min_self]
  ·rw[hl]
   have hp':p < (Qd L x).kind.length:=by
    have:=(List.getElem?_eq_some_iff.1 hp).1
    have h2:(ZT (m.objs.map (Qd L)) (Qd L x)).kind.length=(Qd L x).kind.length:=by
     show (List.map _ ((Qd L x).kind.zip (Qd L x).to)).length=_;rw[length_map,length_zip,s7,s8,c,d,Nat.min_self]
    omega
   obtain⟨g1,g2⟩:=Ip (objs:=m.objs.map (Qd L)) (x:=Qd L x) (by rw[s7,s8,c,d]) hp';rw[g2];have hp2:(ZT (m.objs.map (Qd L)) (Qd L x)).kind.getD p 0=2:=by rw[getD_eq_getElem?_getD,hp];rfl
   rw[g1] at hp2;split at hp2
   ·cases hp2
   ·rename_i hh;rw[if_neg hh,s8];rw[s7] at hp2 hp';refine e p ?_;rw[getElem?_eq_getElem hp'];rw[getD_eq_getElem?_getD,getElem?_eq_getElem hp'] at hp2;rw[← hp2];rfl
 ·show ((m.objs.map (Qd L)).map (ZT _)).length≤_;rw[length_map,length_map];exact h.few
theorem OF (P:List Int) (L:List Nat) (k:Nat):(Vs P L)[k]? = (P[k]?).map fun q=>if k∈L then -1 else q:=by
 unfold Vs;rw[getElem?_mapIdx]
theorem Cm:∀ (ks:List Int) {m:List (Int×Int)},(m.map (·.1)).Nodup→∀ r,Q8 (ks.foldl QB m) r=if r∈ks then none else Q8 m r
 | [],m,h,r=>by rw[if_neg (by simp)];rfl
 | k::ks,m,h,r=>by
  show Q8 (ks.foldl QB (QB m k)) r=_;rw[Cm ks (X0 h),XH h];by_cases h1:r∈ks
  ·rw[if_pos h1,if_pos (mem_cons_of_mem _ h1)]
  ·rw[if_neg h1];by_cases h2:k=r
   ·subst h2;rw[if_pos rfl,if_pos mem_cons_self]
   ·rw[if_neg h2,if_neg];intro h3
    rcases mem_cons.1 h3 with h3|h3
    ·exact h2 h3.symm
    ·exact h1 h3
structure Uv (s:CS) (L:List Int) (G:List Nat) (D:List Rf) (s':CS):Prop where
 size:s'.size=s.size
 own:s'.own.length=s.own.length
 lays:s'.lays=s.lays
 last:s'.last=s.last
 par:s'.par=L.foldl QB s.par
 tabl:s'.tab.length=s.tab.length
 tab:∀ (k:Nat) (t:QF),s.tab[k]? = some t→s'.tab[k]? = some (if k∈G then ⟨t.gen,none⟩ else ⟨t.gen,t.ent.map (VC D k)⟩)
 nd:(s'.rem.map (·.1)).Nodup
 rem:∀ r,Q8 s'.rem r=if ∃ k∈G,r.1=((k:Nat):Int) then none else if r∈D then none else Q8 s.rem r
 gone:Xw s L G
 cut:Wc s G G D
 part:Vp s→Vp s'
 owns:∀ j,s'.own.getD j 0=if ((s.own.getD j 0:Nat):Int)∈L then 0 else s.own.getD j 0
theorem FW.t {s s':CS} {L:List Int} (h:FW s L s'):∃ G D,Uv s L G D s':=by
 obtain⟨G,Dl,s1,s2,hG,hC,hD,hN,hE⟩:=h;refine⟨G,Dl,by rw[hE.size,hN.size,hC.size],by rw[hE.own,hN.own,hC.own],by rw[hE.lays,hN.lays,hC.lays],by rw[hE.last,hN.last,hC.last],by rw[hE.par,hN.par,hC.par],by rw[hE.tab,hN.tabl,hC.tabl],fun k t hk=>?_,by rw[hE.rem];exact hN.nd,fun r=>by rw[hE.rem,hN.rem,hC.rem],hG,hD,fun hP k g e' hk=>?_,fun j=>by rw[hE.owns,hN.own,hC.own]⟩
 ·rw[hE.tab,hN.tab k _ (hC.tab k t hk)]
 ·have hlt:k < s.tab.length:=by
   have:=(List.getElem?_eq_some_iff.1 hk).1;rw[hE.tab,hN.tabl,hC.tabl] at this;exact this
  have h1:=getElem?_eq_getElem hlt;generalize s.tab[k]=t at h1;rw[hE.tab,hN.tab k _ (hC.tab k t h1)] at hk;split at hk
  ·injection hk with hk
   injection hk with _ hk
   cases hk
  ·rename_i hkG;injection hk with hk
   injection hk with hg he
   obtain⟨tg,te⟩:=t;cases te with
   | none=>cases he
   | some e=>
    injection he with he
    subst he;have hreg:e.region∉L:=fun h=>hkG ((hG.2 k).2 ⟨tg,e,h1,h⟩);obtain⟨x,hx,hx1,y,hy,hy1⟩:=hP k tg e h1;have hsz:s'.size=s.size:=by rw[hE.size,hN.size,hC.size]
    refine⟨x,hE.sps x (by rw[hN.sps,hC.sps];exact hx) (by rw[hx1];exact hreg),hx1,y,hy,?_⟩;rw[hsz];exact hy1.alike rfl (Kb _ _ _)
theorem Uv.from {s s':CS} {L:List Int} {G:List Nat} {D:List Rf} (h:Uv s L G D s') {k g:Nat} {e':QQ} (hk:s'.tab[k]? = some ⟨g,some e'⟩):k∉G∧∃ e,s.tab[k]? = some ⟨g,some e⟩∧e'=VC D k e:=by
 have hlt:k < s.tab.length:=by
  have:=(List.getElem?_eq_some_iff.1 hk).1;rw[h.tabl] at this;exact this
 have h1:=getElem?_eq_getElem hlt;generalize s.tab[k]=t at h1;have h2:=h.tab k t h1;rw[hk] at h2;obtain⟨g0,e0⟩:=t;split at h2
 ·injection h2 with h2
  injection h2 with _ h2
  cases h2
 ·rename_i hG;injection h2 with h2
  injection h2 with h3 h4
  subst h3;cases e0 with
  | none=>cases h4
  | some e=>
   injection h4 with h4
   exact⟨hG,e,h1,h4⟩
theorem FA {D:List Rf} {k:Nat} {e:QQ} {p:Nat} (hp:p < e.ws.length):(VC D k e).ws.getD p 0=if ((k:Int),(p:Int))∈D then 1 else e.ws.getD p 0:=by
 rw[getD_eq_getElem?_getD,IR,getD_eq_getElem?_getD,getElem?_eq_getElem hp];rfl
theorem OH {D:List Rf} {k:Nat} {e:QQ} {p:Nat} (hp:p < e.ws.length) {a b:Nat} (h:YZ (VC D k e) p = .obj a b):((k:Int),(p:Int))∉D∧YZ e p = .obj a b:=by
 unfold YZ at h ⊢;rw[FA hp] at h;split at h
 ·cases h
 ·rename_i h1;exact⟨h1,h⟩
theorem As {ts:List QF} {a b:Nat} {f:QQ} (h:ts[a]? = some ⟨b,some f⟩):Qn ts a b=some (a,f):=Vz.2 ⟨b,rfl,rfl,h⟩
theorem Uv.cutIff {s s':CS} {L:List Int} {G:List Nat} {D:List Rf} (h:Uv s L G D s') (hI:Inv s) {k g p:Nat} {e:QQ} (hk:s.tab[k]? = some ⟨g,some e⟩) (hG:k∉G) (hp:p < e.ws.length):((k:Int),(p:Int))∈D↔VW (QO s e) p=true∧∃ (a b:Nat) (f:QQ),YZ e p = .obj a b∧s.tab[a]? = some ⟨b,some f⟩∧f.region∈L:=by
 rw[h.cut];constructor
 ·rintro⟨⟨t,ht,hr⟩,_⟩;obtain⟨k',p',g',e',a,b,f,h1,h2,h3,h4,h5,h6,h7,h8⟩:=(hI.rem _ _).1 hr;injection h1 with h1 h9
  obtain rfl:k=k':=by omega
  obtain rfl:p=p':=by omega
  rw[hk] at h2;injection h2 with h2
  injection h2 with h2 h2'
  subst h2;injection h2' with h2'
  subst h2';obtain⟨_,h10⟩:=GI h6;obtain rfl:t=a:=by omega
  obtain⟨g2,f2,h11,h12⟩:=(h.gone.2 t).1 ht;rw[h10] at h11;injection h11 with h11
  injection h11 with _ h11
  injection h11 with h11
  subst h11;exact⟨h4,t,b,f,h5,h10,h12⟩
 ·rintro⟨h4,a,b,f,h5,h6,h7⟩;refine⟨⟨a,(h.gone.2 a).2 ⟨b,f,h6,h7⟩,(hI.rem _ _).2 ⟨k,p,g,e,a,b,f,rfl,hk,hp,h4,h5,As h6,fun h8=>?_,rfl⟩⟩,?_⟩
  ·exact hG ((h.gone.2 k).2 ⟨g,e,hk,by rw[← h8];exact h7⟩)
  ·rintro⟨k',h9,h10⟩;have h10:((k:Nat):Int)=((k':Nat):Int):=h10;obtain rfl:k=k':=by omega
   exact hG h9
theorem Uv.lay {s s':CS} {L:List Int} {G:List Nat} {D:List Rf} (h:Uv s L G D s') (k:Nat) (e:QQ):QO s' (VC D k e)=QO s e:=by
 unfold QO;rw[h.lays];rfl
theorem Uv.at {s s':CS} {L:List Int} {G:List Nat} {D:List Rf} (h:Uv s L G D s') {k g:Nat} {e:QQ} (hk:s.tab[k]? = some ⟨g,some e⟩) (hG:k∉G):s'.tab[k]? = some ⟨g,some (VC D k e)⟩:=by
 rw[h.tab k _ hk,if_neg hG];rfl
theorem fA {s s':CS} {L:List Int} {G:List Nat} {D:List Rf} (h:Uv s L G D s') (hI:Inv s):Inv s':=by
 refine⟨h.nd,fun r t=>?_,fun k g e' p a b hk hp hr hl=>?_⟩
 ·rw[h.rem];constructor
  ·intro hr;split at hr
   ·cases hr
   ·rename_i hn;split at hr
    ·cases hr
    ·rename_i hD;obtain⟨k,p,g,e,a,b,f,rfl,hk,hp,hrf,hl,hlo,hfar,rfl⟩:=(hI.rem _ _).1 hr;have hkG:k∉G:=fun h1=>hn ⟨k,h1,rfl⟩;obtain⟨_,ha⟩:=GI hlo;have haG:a∉G:=fun h1=>hD ((h.cut _).2 ⟨⟨a,h1,hr⟩,fun ⟨k',h2,h3⟩=>hn ⟨k',h2,h3⟩⟩);refine⟨k,p,g,VC D k e,a,b,VC D a f,rfl,h.at hk hkG,by rw[Kb];exact hp,by rw[h.lay];exact hrf,?_,As (h.at ha haG),hfar,rfl⟩;unfold YZ;rw[FA hp,if_neg hD];exact hl
  ·rintro⟨k,p,g,e',a,b,f',rfl,hk,hp,hrf,hl,hlo,hfar,rfl⟩;obtain⟨hkG,e,hk0,rfl⟩:=h.from hk;rw[Kb] at hp;obtain⟨hD,hl0⟩:=OH hp hl;obtain⟨_,ha⟩:=GI hlo;obtain⟨haG,f,ha0,rfl⟩:=h.from ha;rw[h.lay] at hrf
   rw[if_neg (by
    rintro⟨k',h1,h2⟩;have h2:((k:Nat):Int)=((k':Nat):Int):=h2;obtain rfl:k=k':=by omega
    exact hkG h1),if_neg hD]
   exact(hI.rem _ _).2 ⟨k,p,g,e,a,b,f,rfl,hk0,hp,hrf,hl0,As ha0,hfar,rfl⟩
 ·obtain⟨hkG,e,hk0,rfl⟩:=h.from hk;rw[Kb] at hp;obtain⟨hD,hl0⟩:=OH hp hl;rw[h.lay] at hr;obtain⟨f,hf⟩:=hI.link k g e p a b hk0 hp hr hl0;obtain⟨_,ha⟩:=GI hf
  have haG:a∉G:=fun h1=>hD ((h.cutIff hI hk0 hkG hp).2 ⟨hr,a,b,f,hl0,ha,by
   obtain⟨g2,f2,h11,h12⟩:=(h.gone.2 a).1 h1;rw[ha] at h11;injection h11 with h11
   injection h11 with _ h11
   injection h11 with h11
   subst h11;exact h12⟩)
  exact⟨_,As (h.at ha haG)⟩
theorem fB {par:List (Int×Int)} {L:List Int} (h:Y3 par) {region:Int} (hL:∀ c,c∈L↔Z5 par region c):Y3 (L.foldl QB par):=by
 refine⟨FR L h.nd,fun r q hr=>?_⟩;rw[Cm L h.nd] at hr;split at hr
 ·cases hr
 ·rename_i hn;obtain⟨h1,h2,h3⟩:=h.up r q hr;refine⟨h1,h2,h3.imp id fun h4=>?_⟩;rw[Cm L h.nd,if_neg]
  ·exact h4
  ·intro h5;exact hn ((hL r).2 (.kid ((hL q).1 h5) hr))
theorem OI {s s':CS} {m:MS} {told:List (Nat×Nat)} (R:Rel s m told) (hm:V6 m) (hI:Inv s) {L:List Nat} {G:List Nat} {D:List Rf} (h:Uv s (L.map fun k:Nat=>(k:Int)) G D s'):Rel s' (Xx m L) told:=by
  have hLi:∀ k:Nat,((k:Nat):Int)∈L.map (fun k:Nat=>(k:Int))↔k∈L:=fun k=>by
    rw[mem_map]
    exact ⟨fun ⟨j, h1, h2⟩ => (by have : j = k := by omega
                                  rw[← this];exact h1),fun h1=>⟨k,h1,rfl⟩⟩
  have hlo:(Xx m L).objs.length=m.objs.length:=by show (((m.objs.map (Qd L)).map (ZT _))).length=_;rw[length_map,length_map]
  have hnd':(s'.par.map (·.1)).Nodup:=by rw[h.par];exact FR _ R.nd
  refine⟨by rw[hlo];exact R.len,by rw[h.lays];exact R.lays,fun r q=>?_,hnd',?_,?_,?_,?_,?_,R.nodup⟩
  · rw[← Y4 hnd',h.par,Cm _ R.nd];constructor
    · intro hr;split at hr
      · cases hr
      · rename_i hn;obtain⟨k,rfl,h1,h2,h3⟩:=(R.tree r q).1 ((Y4 R.nd).1 hr);refine⟨k,rfl,h1,?_,h3⟩;show (Vs m.P L)[k]? = some q;rw[OF,h2];show some (if k∈L then -1 else q)=some q;rw[if_neg (fun h4=>hn ((hLi k).2 h4))]
    · rintro⟨k,rfl,h1,h2,h3⟩;have h2:(Vs m.P L)[k]? = some q:=h2;rw[OF] at h2;cases hP:m.P[k]? with
      | none=>rw[hP] at h2;cases h2
      | some q0=>
        rw[hP] at h2;injection h2 with h2
        have h2:(if k∈L then (-1:Int) else q0)=q:=h2;by_cases hk:k∈L
        · rw[if_pos hk] at h2;omega
        · rw[if_neg hk] at h2;subst h2;rw[if_neg (fun h4=>hk ((hLi k).1 h4))];exact(Y4 R.nd).2 ((R.tree _ _).2 ⟨k,rfl,h1,hP,h3⟩)
  · rw[h.last];show s.last+1=(Vs m.P L).length;unfold Vs;rw[length_mapIdx];exact R.last
  · intro o x' k g hx' ht hg;obtain⟨x,hx,rfl⟩:=Ir hx'
    have hg2:¬ ((Qd L x).gone=true):=by
      intro h1;have hg:(Qd L x).gone=false:=hg;rw[h1] at hg;cases hg
    rw[Iq] at hg2
    have hxg:x.gone=false:=by
      cases hh:x.gone with
      | false=>rfl
      | true=>exact absurd (.inl hh) hg2
    have hxr:x.region∉L:=fun h1=>hg2 (.inr h1);obtain⟨e,hk,hl⟩:=R.obj o x k g hx ht hxg;have hgm:Qd L x=x:=by unfold Qd;rw[if_neg hxr]
    rw[hgm]
    have hkG:k∉G:=fun h1=>by
      obtain⟨g2,f2,h11,h12⟩:=(h.gone.2 k).1 h1;rw[hk] at h11;injection h11 with h11
      injection h11 with _ h11
      injection h11 with h11
      subst h11;rw[hl.region] at h12;exact hxr ((hLi _).1 h12)
    obtain⟨hml,hm1,hkd,hto,hgo⟩:=hm.objs x (mem_of_getElem? hx);refine⟨VC D k e,h.at hk hkG,⟨hl.region,hl.lay,hl.count,hl.held,hl.pinned,by rw[Kb];exact hl.len,fun p hp hr=>?_,fun p hp hr=>?_,fun p hp hne=>?_⟩⟩
    · have hp:p < x.w.length:=hp;have hpe:p < e.ws.length:=by rw[hl.len];exact hp
      have hr:VW (UT m.lays x.lay) p=true:=hr;have hre:VW (QO s e) p=true:=by rw[Ki R.w hl];exact hr
      obtain⟨g1,g2⟩:=Ip (objs:=m.objs.map (Qd L)) (x:=x) (by rw[hkd,hto]) (p:=p) (by rw[hkd];exact hp);rw[g1,g2,FA hpe];have hlk:=hl.ref p hp hr;by_cases hD:((k:Int),(p:Int))∈D
      · rw[if_pos hD];obtain⟨_,a,b,f,h5,h6,h7⟩:=(h.cutIff hI hk hkG hpe).1 hD;have h5:ZR (e.ws.getD p 0) = .obj a b:=h5;rw[hlk] at h5;unfold Z9 at h5;split at h5
        · rename_i h2;cases hta:told[x.to.getD p 0]? with
          | none=>rw[hta] at h5;cases h5
          | some y=>
            obtain⟨a',b'⟩:=y;rw[hta] at h5;injection h5 with h8 h9
            subst h8 h9;have hol:x.to.getD p 0 < m.objs.length:=by rw[← R.len];exact(List.getElem?_eq_some_iff.1 hta).1
            have hy:=getElem?_eq_getElem hol;generalize m.objs[x.to.getD p 0]=y at hy
            have hyg:y.gone=false:=by
              cases hh:y.gone with
              | false=>rfl
              | true=>exact absurd h6 (R.gone _ y _ _ hy hta hh f)
            obtain⟨f',h10,h11⟩:=R.obj _ y _ _ hy hta hyg;rw[h6] at h10;injection h10 with h10
            injection h10 with _ h10
            injection h10 with h10
            subst h10;have hit:YV (m.objs.map (Qd L)) (x.kind.getD p 0) (x.to.getD p 0)=true:=Is.2 ⟨h2,y,hy,.inr (by rw[h11.region] at h7;exact(hLi _).1 h7)⟩;rw[if_pos hit,if_pos hit];rfl
        · split at h5 <;> cases h5
      · rw[if_neg hD]
        have hnh:¬ (YV (m.objs.map (Qd L)) (x.kind.getD p 0) (x.to.getD p 0)=true):=by
          intro hh;obtain⟨h2,y,hy,h3⟩:=Is.1 hh;have hol:=(List.getElem?_eq_some_iff.1 hy).1;rw[← R.len] at hol;have hta:=getElem?_eq_getElem hol;generalize told[x.to.getD p 0]=ab at hta;obtain⟨a,b⟩:=ab
          have h5:YZ e p = .obj a b:=by
            unfold YZ;rw[hlk];unfold Z9;rw[if_pos h2,hta];rfl
          obtain⟨f,hf⟩:=hI.link k g e p a b hk hpe hre h5;obtain⟨_,ha⟩:=GI hf
          have hyg:y.gone=false:=by
            cases hh:y.gone with
            | false=>rfl
            | true=>exact absurd ha (R.gone _ y _ _ hy hta hh f)
          rcases h3 with h3|h3
          · rw[hyg] at h3;cases h3
          · obtain⟨f',h10,h11⟩:=R.obj _ y _ _ hy hta hyg;rw[ha] at h10;injection h10 with h10
            injection h10 with _ h10
            injection h10 with h10
            subst h10;exact hD ((h.cutIff hI hk hkG hpe).2 ⟨hre,a,b,f,h5,ha,by rw[h11.region];exact(hLi _).2 h3⟩)
        rw[if_neg hnh,if_neg hnh];exact hlk
    · have hp:p < x.w.length:=hp;have hpe:p < e.ws.length:=by rw[hl.len];exact hp
      have hr:VW (UT m.lays x.lay) p=false:=hr;rw[FA hpe,if_neg]
      · exact hl.word p hp hr
      · intro hD;have h1:=((h.cutIff hI hk hkG hpe).1 hD).1;rw[Ki R.w hl] at h1;have h1:VW (UT m.lays x.lay) p=true:=h1;rw[hr] at h1;cases h1
    · have hp:p < x.w.length:=hp;obtain⟨g1,g2⟩:=Ip (objs:=m.objs.map (Qd L)) (x:=x) (by rw[hkd,hto]) (p:=p) (by rw[hkd];exact hp);show VW (UT m.lays x.lay) p=true∧_;rw[g1] at hne ⊢;split at hne
      · rename_i hh;rw[if_pos hh];obtain⟨h2,_⟩:=Is.1 hh;exact⟨(hl.kind p hp (by rw[h2];decide)).1,by decide⟩
      · rename_i hh;rw[if_neg hh];exact hl.kind p hp hne
  · intro o x' k g hx' ht hg e' hk';obtain⟨x,hx,rfl⟩:=Ir hx';obtain⟨hkG,e,hk,rfl⟩:=h.from hk';have hg:(Qd L x).gone=true:=hg
    rcases Iq.1 hg with h1|h1
    · exact R.gone o x k g hx ht h1 e hk
    · cases hh:x.gone with
      | true=>exact R.gone o x k g hx ht hh e hk
      | false=>
        obtain⟨e2,h2,h3⟩:=R.obj o x k g hx ht hh;rw[hk] at h2;injection h2 with h2
        injection h2 with _ h2
        injection h2 with h2
        subst h2;exact hkG ((h.gone.2 k).2 ⟨g,e,hk,by rw[h3.region];exact(hLi _).2 h1⟩)
  · intro k g e' hk';obtain⟨_,e,hk,_⟩:=h.from hk';exact R.used k g e hk
  · intro o k g ht;obtain⟨t,h1,h2⟩:=R.gens o k g ht;refine⟨_,h.tab k t h1,?_⟩;split <;> exact h2
theorem It {s:CS} {m:MS} {told:List (Nat×Nat)} (R:Rel s m told) (hT:Y3 s.par):WT m.P:=by
 intro i q h1 h2;by_cases h3:0≤q
 ·exact(hT.up _ _ ((Y4 hT.nd).2 ((R.tree _ _).2 ⟨i,rfl,h1,h2,h3⟩))).2.1
 ·omega
theorem Cn {par:List (Int×Int)} (hT:Y3 par) {r:Int} (h:(Q8 par r).isSome=true):1≤r:=by
 cases hf:Q8 par r with
 | none=>rw[hf] at h;cases h
 | some q=>
  have:=hT.up r q hf;omega
theorem Iu {s:CS} {m:MS} {told:List (Nat×Nat)} (R:Rel s m told) (hT:Y3 s.par) {id:Int} (hid:(Q8 s.par id).isSome=true):∀ (n c:Nat),c≤n→(Q8 s.par c).isSome=true→(Zs m.P id c=true↔Z5 s.par id c)
 | 0,c,h1,h2=>by
  have:=Cn hT h2;omega
 | n+1,c,h1,h2=>by
  have hO:=It R hT;have hc1:=Cn hT h2;cases hf:Q8 s.par (c:Int) with
  | none=>rw[hf] at h2;cases h2
  | some q=>
   obtain⟨k,k1,k2,k3,k4⟩:=(R.tree _ _).1 ((Y4 hT.nd).1 hf);obtain rfl:c=k:=by omega
   have hcl:=(List.getElem?_eq_some_iff.1 k3).1;obtain⟨q1,q2,q3⟩:=hT.up _ _ hf;rw[OX hO (by omega) (by omega),Int.toNat_natCast,getD_eq_getElem?_getD,k3];show (if (c:Int)=id then true else Zs m.P id q)=true↔_;by_cases h3:(c:Int)=id
   ·rw[if_pos h3,h3];exact⟨fun _ => .self,fun _=>rfl⟩
   ·rw[if_neg h3]
    rcases q3 with rfl|q3
    ·rw[OK _ _ (Int.le_refl _)];refine⟨fun h=>(by cases h),fun h=>?_⟩
     rcases h.inv with h4|⟨k,h4,h5⟩
     ·exact absurd h4 h3
     ·rw[hf] at h4;injection h4 with h4
      subst h4;have h6:=h5.live hid;have:=Cn hT h6;omega
    ·obtain⟨d,rfl⟩:∃ d:Nat,q=d:=⟨q.toNat,by omega⟩;rw[Iu R hT hid n d (by omega) q3];constructor
     ·intro h;exact .kid h hf
     ·intro h
      rcases h.inv with h4|⟨k,h4,h5⟩
      ·exact absurd h4 h3
      ·rw[hf] at h4;injection h4 with h4
       subst h4;exact h5
theorem fC {s:CS} {m:MS} {told:List (Nat×Nat)} (R:Rel s m told) (hT:Y3 s.par) {id:Int} (hid:(Q8 s.par id).isSome=true) {L:List Int} (h1:L.Nodup) (h2:L.Pairwise (·≤·)) (h3:∀ c,c∈L↔Z5 s.par id c):L=(Zt m.P id).map fun k:Nat=>(k:Int):=by
 have hmem:∀ c:Nat,c∈Zt m.P id↔Z5 s.par id c:=fun c=>by
  unfold Zt;rw[OR];constructor
  ·rintro⟨a,⟨b1,b2⟩,d⟩;have hk:m.P[c]? = some (m.P.getD c 0):=by rw[getD_eq_getElem?_getD,getElem?_eq_getElem a];rfl
   have hl:(Q8 s.par (c:Int)).isSome=true:=by
    rw[(Y4 hT.nd).2 ((R.tree _ _).2 ⟨c,rfl,b1,hk,b2⟩)];rfl
   exact(Iu R hT hid c c (Nat.le_refl _) hl).1 d
  ·intro h;have hl:=h.live hid;cases hf:Q8 s.par (c:Int) with
   | none=>rw[hf] at hl;cases hl
   | some q=>
    obtain⟨k,k1,k2,k3,k4⟩:=(R.tree _ _).1 ((Y4 hT.nd).1 hf);obtain rfl:c=k:=by omega
    refine⟨(List.getElem?_eq_some_iff.1 k3).1,⟨k2,?_⟩,(Iu R hT hid c c (Nat.le_refl _) hl).2 h⟩;rw[getD_eq_getElem?_getD,k3];exact k4
 have hs1:L.Pairwise (· < ·):=by
  have:=h2.and h1;exact this.imp fun h=>by omega
 have hs2:((Zt m.P id).map fun k:Nat=>(k:Int)).Pairwise (· < ·):=by
  rw[pairwise_map];have:(Zt m.P id).Pairwise (· < ·):=List.Pairwise.filter _ pairwise_lt_range;exact this.imp fun h=>by omega
 have key:∀ {a b:List Int},a.Pairwise (· < ·)→b.Pairwise (· < ·)→(∀ x,x∈a↔x∈b)→a=b:=by
  intro a
  induction a with
  | nil=>
   intro b _ _ h;cases b with
   | nil=>rfl
   | cons y b=>exact absurd ((h y).2 mem_cons_self) (by simp)
  | cons x a ih=>
   intro b ha hb h;cases b with
   | nil=>exact absurd ((h x).1 mem_cons_self) (by simp)
   | cons y b=>
    rw[pairwise_cons] at ha hb
    have hxy:x=y:=by
     rcases mem_cons.1 ((h x).1 mem_cons_self) with h4|h4
     ·exact h4
     ·rcases mem_cons.1 ((h y).2 mem_cons_self) with h5|h5
      ·exact h5.symm
      ·have:=hb.1 x h4;have:=ha.1 y h5;omega
    subst hxy;rw[ih ha.2 hb.2 fun z=>?_];constructor
    ·intro hz
     rcases mem_cons.1 ((h z).1 (mem_cons_of_mem _ hz)) with h4|h4
     ·have:=ha.1 z hz;omega
     ·exact h4
    ·intro hz
     rcases mem_cons.1 ((h z).2 (mem_cons_of_mem _ hz)) with h4|h4
     ·have:=hb.1 z hz;omega
     ·exact h4
 refine key hs1 hs2 fun c=>?_;rw[h3,mem_map];constructor
 ·intro h;have:=Cn hT (h.live hid);refine⟨c.toNat,(hmem _).2 ?_,by omega⟩;rw[show ((c.toNat:Nat):Int)=c by omega];exact h
 ·rintro⟨k,k1,rfl⟩;exact(hmem k).1 k1
def Yw (ts:List QF) (r:Int):List (Nat×Nat)→List (Nat×Nat)→Nat
 | _,[]=>0
 | pre,t::l=>match Qg ts t.1 t.2 with
  | none=>8
  | some (_,e)=>if e.region≠r then 15 else if e.pinned=true then 13 else if t∈pre then 14 else Yw ts r (pre++[t]) l
def Za (s:CS) (r:Int) (l:List (Nat×Nat)):Nat:=if 64 < l.length then 18 else if Yw s.tab r [] l≠0 then Yw s.tab r [] l else if s.par.length=64 then 5 else 0
theorem FE {ts:List QF} {r:Int} {pre l:List (Nat×Nat)} {t:Nat×Nat} (h:Qg ts t.1 t.2=none):Yw ts r pre (t::l)=8:=by
 unfold Yw;rw[h]
theorem Iv {ts:List QF} {r:Int} {pre l:List (Nat×Nat)} {t:Nat×Nat} {k:Nat} {e:QQ} (h:Qg ts t.1 t.2=some (k,e)):Yw ts r pre (t::l)=if e.region≠r then 15 else if e.pinned=true then 13 else if t∈pre then 14 else Yw ts r (pre++[t]) l:=by
 show (match Qg ts t.1 t.2 with
  | none=>8
  | some (_,e)=>if e.region≠r then 15 else if e.pinned=true then 13 else if t∈pre then 14 else Yw ts r (pre++[t]) l)=_
 rw[h]
theorem FF {ts:List QF} {r:Int}:∀ {l pre:List (Nat×Nat)},Yw ts r pre l=0→(∀ t∈l,(∃ e,ts[t.1]? = some ⟨t.2,some e⟩∧e.held=true∧e.region=r∧e.pinned=false)∧t∉pre)∧l.Nodup
 | [],_,_=>⟨fun t ht=>(by cases ht),.nil⟩
 | t::l,pre,h=>by
  cases hv:Qg ts t.1 t.2 with
  | none=>rw[FE hv] at h;cases h
  | some q=>
   obtain⟨k,e⟩:=q;rw[Iv hv] at h;split at h
   ·cases h
   ·rename_i h1;split at h
    ·cases h
    ·rename_i h2;split at h
     ·cases h
     ·rename_i h3;obtain⟨h4,h5⟩:=FF h;obtain⟨hL,hh⟩:=U0.1 hv;obtain⟨n,n1,n2,n3⟩:=Vz.1 hL;have e1:t.1=k:=by omega
      have e2:t.2=n:=by omega
      refine⟨fun u hu=>?_,nodup_cons.2 ⟨fun h6=>(h4 t h6).2 (by simp),h5⟩⟩
      rcases mem_cons.1 hu with rfl|hu
      ·exact⟨⟨e,by rw[e1,e2];exact n3,hh,Classical.not_not.1 h1,by simpa using h2⟩,h3⟩
      ·exact⟨(h4 u hu).1,fun h6=>(h4 u hu).2 (mem_append.2 (.inl h6))⟩
theorem fD {ts:List QF} {r:Int} {l:List (Nat×Nat)} (h:Yw ts r [] l=0):(l.map (·.1)).Nodup:=by
 obtain⟨h1,h2⟩:=FF h;refine pairwise_map.2 (h2.imp_of_mem fun {a b} ha hb hab hk=>hab ?_);obtain⟨⟨e,e1,_⟩,_⟩:=h1 a ha;obtain⟨⟨f,f1,_⟩,_⟩:=h1 b hb;rw[hk,f1] at e1;injection e1 with e1
 injection e1 with e1 _
 exact Prod.ext hk e1.symm
def G6 (m:MS) (r:Int):List Int→List Int→Nat
 | _,[]=>0
 | pre,o::l=>match V1 m o with
  | none=>8
  | some (_,x)=>if (x.region:Int)≠r then 15 else if x.pinned=true then 13 else if o∈pre then 14 else G6 m r (pre++[o]) l
def GS (m:MS) (r:Int) (os:List Int):Nat:=if Vw m.P r=false then 15 else if 64 < os.length then 18 else if G6 m r [] os≠0 then G6 m r [] os else if 64≤(Yu m.P).length then 5 else 0
theorem OJ {m:MS} {r:Int} {pre l:List Int} {o:Int} (h:V1 m o=none):G6 m r pre (o::l)=8:=by
 unfold G6;rw[h]
theorem OM {m:MS} {r:Int} {pre l:List Int} {o:Int} {k:Nat} {x:QI} (h:V1 m o=some (k,x)):G6 m r pre (o::l)=if (x.region:Int)≠r then 15 else if x.pinned=true then 13 else if o∈pre then 14 else G6 m r (pre++[o]) l:=by
 show (match V1 m o with
  | none=>8
  | some (_,x)=>if (x.region:Int)≠r then 15 else if x.pinned=true then 13 else if o∈pre then 14 else G6 m r (pre++[o]) l)=_
 rw[h]
def Rd (told:List (Nat×Nat)) (y:(Nat×Nat)×Int):Prop:=(∃ n:Nat,y.2=n∧told[n]? = some y.1)∨(y.2 = -1∧told=[])
theorem Rd.pick {told:List (Nat×Nat)} {y:(Nat×Nat)×Int} (h:Rd told y):Gl told y.1.1 y.1.2 y.2:=by
 rcases h with ⟨n,h1,h2⟩|⟨h1,h2⟩
 ·exact .inl ⟨y.1.1,y.1.2,n,rfl,rfl,h1,h2⟩
 ·exact .inr ⟨h1,fun k gg n _ _=>by rw[h2];simp⟩
theorem ON {s:CS} {m:MS} {told:List (Nat×Nat)} (R:Rel s m told) (r:Int):∀ (l pre:List ((Nat×Nat)×Int)),(∀ y∈l,Rd told y)→(∀ y∈pre,Rd told y)→Yw s.tab r (pre.map (·.1)) (l.map (·.1))=G6 m r (pre.map (·.2)) (l.map (·.2))
 | [],pre,_,_=>rfl
 | y::l,pre,h1,h2=>by
  have hy:=h1 y mem_cons_self
  have ih:=ON R r l (pre++[y]) (fun z hz=>h1 z (mem_cons_of_mem _ hz)) (fun z hz=>by
   rcases mem_append.1 hz with hz|hz
   ·exact h2 z hz
   ·rw[mem_singleton] at hz;subst hz;exact hy)
  rw[map_append,map_append] at ih;have hV:Vd s m told y.1.1 y.1.2 y.2:=Xv R hy.pick
  rcases hV with ⟨v1,v2⟩|⟨k,gg,n,e,x,a1,a2,a3,a4,a5,a6,a7,a8,a9,a10⟩
  ·show Yw s.tab r (pre.map (·.1)) (y.1::l.map (·.1))=G6 m r (pre.map (·.2)) (y.2::l.map (·.2));rw[FE v1,OJ v2]
  ·show Yw s.tab r (pre.map (·.1)) (y.1::l.map (·.1))=G6 m r (pre.map (·.2)) (y.2::l.map (·.2));rw[Iv a9,OM a10,a8.region,a8.pinned]
   have hiff:y.1∈pre.map (·.1)↔y.2∈pre.map (·.2):=by
    have ht:told[n]? = some y.1:=by rw[a4];congr 1;exact Prod.ext (by omega) (by omega)
    constructor
    ·intro h;obtain⟨z,z1,z2⟩:=mem_map.1 h;refine mem_map.2 ⟨z,z1,?_⟩
     rcases h2 z z1 with ⟨n',b1,b2⟩|⟨_,b2⟩
     ·rw[z2] at b2;have:=FG R.nodup ht b2;omega
     ·rw[b2] at ht;cases ht
    ·intro h;obtain⟨z,z1,z2⟩:=mem_map.1 h;refine mem_map.2 ⟨z,z1,?_⟩
     rcases h2 z z1 with ⟨n',b1,b2⟩|⟨b1,_⟩
     ·have:n'=n:=by omega
      subst this;rw[ht] at b2;injection b2 with b2
      exact b2.symm
     ·omega
   by_cases c1:(x.region:Int)≠r
   ·rw[if_pos c1,if_pos c1]
   ·rw[if_neg c1,if_neg c1];by_cases c2:x.pinned=true
    ·rw[if_pos c2,if_pos c2]
    ·rw[if_neg c2,if_neg c2];by_cases c3:y.1∈pre.map (·.1)
     ·rw[if_pos c3,if_pos (hiff.1 c3)]
     ·rw[if_neg c3,if_neg (fun h=>c3 (hiff.2 h))];exact ih
theorem fE {s:CS} {m:MS} {told:List (Nat×Nat)} (R:Rel s m told) (hw:WF s) {r:Int} (hr:(Q8 s.par r).isSome=true) {l:List ((Nat×Nat)×Int)} (h:∀ y∈l,Rd told y):Za s r (l.map (·.1))=GS m r (l.map (·.2)):=by
 have h1:=ON R r l [] h (fun y hy=>(by cases hy));have h1:Yw s.tab r [] (l.map (·.1))=G6 m r [] (l.map (·.2)):=h1;unfold Za GS;rw[← WS R,hr,if_neg (show ¬ (true=false) by decide),length_map,length_map,h1];by_cases c1:64 < l.length
 ·rw[if_pos c1,if_pos c1]
 ·rw[if_neg c1,if_neg c1];by_cases c2:G6 m r [] (l.map (·.2))≠0
  ·rw[if_pos c2,if_pos c2]
  ·rw[if_neg c2,if_neg c2,FU R.w];have:=hw.par.1;rw[FU R.w] at this;by_cases c3:(Yu m.P).length=64
   ·rw[if_pos c3,if_pos (by omega)]
   ·rw[if_neg c3,if_neg (by omega)]
def ZB (l:List (Nat×Nat)):List Value:=l.flatMap fun t=>[.int .i64 (t.1:Nat),.int .i64 (t.2:Nat)]
theorem Kl (l:List (Nat×Nat)):(ZB l).length=l.length*2:=by
 induction l with
 | nil=>rfl
 | cons p L ih=>simp only[ZB,flatMap_cons,length_append,length_cons,length_nil] at ih ⊢;omega
theorem Iw (a b:List (Nat×Nat)):ZB (a++b)=ZB a++ZB b:=by simp[ZB]
theorem fF {L:List (Nat×Nat)} {i:Nat} {p:Nat×Nat} (h:L[i]? = some p):(ZB L)[i*2]? = some (.int .i64 (p.1:Nat))∧(ZB L)[i*2+1]? = some (.int .i64 (p.2:Nat)):=by
 induction L generalizing i with
 | nil=>simp at h
 | cons x L ih=>
  cases i with
  | zero=>
   simp at h;subst h;exact⟨rfl,rfl⟩
  | succ i=>
   have:=ih (i:=i) (by simpa using h);rw[show (i+1)*2=i*2+2 by omega];exact this
theorem fH {c:List Value} {o n:Nat} {L:List (Nat×Nat)} (h:QZ c o n (ZB L)) {i:Nat} {p:Nat×Nat} (hp:L[i]? = some p):QZ c (o+i*2) 2 [.int .i64 (p.1:Nat),.int .i64 (p.2:Nat)]:=by
 obtain⟨h1,h2⟩:=fF hp;refine h.part (es:=[.int .i64 (p.1:Nat),.int .i64 (p.2:Nat)]) fun j v hj=>?_
 match j,hj with
 | 0,hj=>rw[← hj];exact h1
 | 1,hj=>rw[← hj];exact h2
theorem Xy {L:List (Nat×Nat)} {spare:List Value} {i:Nat} {p:Nat×Nat} (h:L[i]? = some p):QZ (ZB L++spare) (0+i*2) 2 [.int .i64 (p.1:Nat),.int .i64 (p.2:Nat)]:=by
 refine fH (L:=L) (n:=(ZB L).length) (QZ.of_get fun j v hj=>?_) h;rw[Nat.zero_add,getElem?_append_left (List.getElem?_eq_some_iff.1 hj).1];exact hj
@[reducible] def Qz (v:Value) (told:List (Nat×Nat)):Q2:=QC 62 2 v (ZB told)
@[reducible] def Vl (p c mo:Nat) (v:Value):Q2:=pts p (row 49 [pp c,pp mo,v])
structure RQ where
 c:Nat
 mo:Nat
 v:Value
def Ua (p:Nat) (s:CS) (m:MS) (told:List (Nat×Nat)):Q2:=ex fun q:RQ=>star [Vl p q.c q.mo q.v,QU q.c s,Qp q.mo m,Qz q.v told]
theorem FH [Q4] {w:World} {p:Nat} {s:CS} {m:MS} {told:List (Nat×Nat)} {l:List Q2} (H:Q0 w (Ua p s m told::l)):∃ (c mo:Nat) (a:Option Addr) (cap:Nat),Q0 w (Vl p c mo (.slice a told.length cap)::QU c s::Qp mo m::Qz (.slice a told.length cap) told::l):=by
 obtain⟨⟨c,mo,v⟩,H⟩:=Q0.ex.1 H;have H:=Q0.star.1 H;obtain⟨a,cap,rfl⟩:=QD (H.drop.drop.drop) (Kl told) (by decide);exact⟨c,mo,a,cap,H⟩
theorem YB [Q4] {w:World} {p c mo:Nat} {v:Value} {s:CS} {m:MS} {told:List (Nat×Nat)} {l:List Q2} (H:Q0 w (Vl p c mo v::QU c s::Qp mo m::Qz v told::l)):Q0 w (Ua p s m told::l):=
 Q0.ex.2 ⟨⟨c,mo,v⟩,Q0.star.2 H⟩
theorem OO [Q4] (p c mo:Nat) (a:Option Addr) (cap:Nat) (told:List (Nat×Nat)) (hlen:told.length≤1000000) (k i g:Int) (raw:Bool) {w:World} {fr:List Q2} (H:Q0 w (Vl p c mo (.slice a told.length cap)::Qz (.slice a told.length cap) told::fr)) :
  Calls Tryz.prog 147 #[pp p,.int .i64 k,.bool raw,ZL i g] w (ret fun v w'=>∃ i' g' o,v = .tuple #[ZL i' g',.int .i64 o]∧Gl told i' g' o∧(raw=false→told≠[]→o ≠ -1)∧(raw=true∨told=[]→i'=i∧g'=g)∧Q0 w' (Vl p c mo (.slice a told.length cap)::Qz (.slice a told.length cap) told::fr)):=by
 refine QV Tryz.func147 rfl (by kernel_rfl) ?_;refine J8 H ?_;clear H;intro b7 w H;refine VQ H ?_;clear H;intro b8 w H;refine YK H ?_;refine Qm (fun ms σ w=>ms=[]∧(∃ q,σ 21 = .bool q∧(q=true↔raw=false∧told≠[]))∧σ 0=pp p∧σ 1 = .int .i64 k∧σ 7=pp b7∧σ 8=pp b8∧Q0 w (pts b7 (row 62 [.int .i64 i,.int .i64 g])::pts b8 (row 62 [.int .i64 0,.int .i64 0])::Vl p c mo (.slice a told.length cap)::Qz (.slice a told.length cap) told::fr)) ?_ ?_
 ·cases raw with
  | true=>
   refine Vi H ?_;refine C3 H ?_;refine J0 H ?_;exact⟨rfl,rfl,⟨false,rfl,by simp⟩,rfl,rfl,rfl,rfl,H.swap⟩
  | false=>
   refine W2 H ?_;refine HZ H ?_;refine J0 H ?_;refine⟨rfl,rfl,⟨_,rfl,?_⟩,rfl,rfl,rfl,rfl,H.swap⟩;cases told with
   | nil=>simp
   | cons x l=>
    refine⟨fun _=>⟨rfl,by simp⟩,fun _=>?_⟩;show decide ((((x::l).length:Nat):Int) > 0)=true;exact decide_eq_true (by rw[length_cons];omega)
 clear H;rintro ms σ w ⟨rfl,⟨q,g21,hq⟩,g0,g1,g7,g8,H⟩;rw[Q1 g21,Q1 g0,Q1 g1,Q1 g7,Q1 g8];refine J7 H ?_;refine Qm (fun ms σ w=>ms=[]∧σ 0=pp p∧σ 7=pp b7∧σ 8=pp b8∧∃ i' g':Int,(raw=false→told≠[]→∃ n x y:Nat,told[n]? = some (x,y)∧i'=x∧g'=y)∧(raw=true∨told=[]→i'=i∧g'=g)∧Q0 w (pts b7 (row 62 [.int .i64 i',.int .i64 g'])::pts b8 (row 62 [.int .i64 0,.int .i64 0])::Vl p c mo (.slice a told.length cap)::Qz (.slice a told.length cap) told::fr)) ?_ ?_
 ·cases q with
  | true=>
   obtain⟨hq1,hq2⟩:=hq.1 rfl;refine VR H ?_;refine J1 H ?_;clear H;intro w H;refine Yo H ?_;refine Jl 3 [16] H ?_;refine Ja 4 ?_;refine Gt 5 rfl (Q9.none rfl) rfl (by kernel_rfl) ?_;refine AW H ?_;refine Jl 9 [16] H ?_;refine Kp 10 rfl (Q9.none rfl) rfl (by kernel_rfl) ?_;refine Gt 11 rfl (Q9.none rfl) rfl (by kernel_rfl) ?_
   obtain⟨K,hK⟩:∃ K:Nat,IntKind.u64.wrap k=K:=⟨(IntKind.u64.wrap k).toNat,by
    have:0≤IntKind.u64.wrap k:=Int.emod_nonneg _ (by decide);omega⟩
   have hlp:0 < told.length:=length_pos_iff.2 hq2;have e1:IntKind.u64.wrap (told.length:Int)=(told.length:Int):=Int.emod_eq_of_lt (by omega) (by show (told.length:Int) < 18446744073709551616;omega);rw[hK,e1];have hmod:=Nat.mod_lt K hlp
   refine Gc (v := .int .u64 ((K % told.length:Nat):Int)) 12 rfl (Q9.none rfl) (by
    show (if IntKind.u64=IntKind.u64 then (if (told.length:Int)=0 then none else some (Value.int IntKind.u64 (Int.tmod (K:Int) (told.length:Int)))) else none)=_;rw[if_pos rfl,if_neg (by omega),Int.tmod_eq_emod_of_nonneg (by omega),Int.natCast_emod]) (by kernel_rfl) ?_
   refine Gt 13 rfl (Q9.none rfl) rfl (by kernel_rfl) ?_;rw[Qb (x:=((K % told.length:Nat):Int)) (by omega) (by omega)];generalize K % told.length=n at hmod;have hn:=getElem?_eq_getElem hmod;generalize told[n]=xy at hn;obtain⟨x,y⟩:=xy;replace H:=Js [3,0,0,0] 0 H;obtain⟨bT,sT,rfl,H,hcl⟩:=Qw H hlp;refine Ji 14 ?_;refine VP 15 [16] H rfl (Q9.none rfl) rfl (Xy hn) (by kernel_rfl) ?_;refine Jo 16 H ?_;refine Gv H ?_;clear H;intro w H;replace H:=hcl _ _ H;refine Jx H ?_;replace H:=Js [1,1,1,0] 0 H;exact⟨rfl,rfl,rfl,rfl,rfl,x,y,fun _ _=>⟨n,x,y,hn,rfl,rfl⟩,fun h=>absurd h (by rintro(h|h);exact absurd (hq1.symm.trans h) (by decide);exact hq2 h),H⟩
  | false=>
   refine V8 H ?_;refine⟨rfl,rfl,rfl,rfl,rfl,i,g,?_,fun _=>⟨rfl,rfl⟩,H⟩;intro h1 h2;exact absurd (hq.2 ⟨h1,h2⟩) (by decide)
 clear H;rintro ms σ w ⟨rfl,g0,g7,g8,i',g',hin,hout,H⟩;rw[Q1 g0,Q1 g7,Q1 g8];refine EK H ?_;refine Qi (fun ms σ w q=>ms=[]∧∃ j:Nat,j≤told.length∧q=told.length - j∧(∀ (n x y:Nat),n < j→told[n]? = some (x,y)→¬(i'=x∧g'=y))∧σ 7=pp b7∧σ 8=pp b8∧σ 41 = .slice a told.length cap∧σ 42 = .int .i64 told.length∧σ 43 = .int .i64 j∧Q0 w (Qz (.slice a told.length cap) told::pts b7 (row 62 [.int .i64 i',.int .i64 g'])::pts b8 (row 62 [.int .i64 0,.int .i64 0])::Vl p c mo (.slice a told.length cap)::fr)) (m:=told.length) ⟨rfl,0,by omega,rfl,by omega,rfl,rfl,rfl,rfl,rfl,H.sel [3,0,0,0] 0⟩ ?_;clear H;rintro ms σ w q ⟨rfl,j,hj,rfl,hno,g7,g8,g41,g42,g43,H⟩;rw[Q1 g7,Q1 g8,Q1 g41,Q1 g42,Q1 g43];refine J6 H ?_;refine Qh rfl (fun h=>QR ?_) (fun h=>Qj ?_)
 ·have hlt:j < told.length:=by omega
  have hn:=getElem?_eq_getElem hlt;generalize told[j]=xy at hn;obtain⟨x,y⟩:=xy;obtain⟨bT,sT,rfl,H,hcl⟩:=Qw H (by omega);refine BC H ?_;refine Jd ?_;refine Q5 rfl (VH H rfl (Xy hn) rfl ?_);refine VQ H ?_;clear H;intro b11 w H;refine DH H ?_;clear H;intro w H;refine ER H ?_;refine Q6 ?_;replace H:=H.drop;refine Qh (p:=((x:Int),(y:Int))=(i',g')) rfl (fun he=>?_) (fun he=>QR ?_)
  ·injection he with h1 h2
   subst h1 h2;refine KW H ?_;clear H;intro w H;refine J0 H ?_;replace H:=hcl _ _ H;replace H:=Js [2,2,0] 1 H;refine Q3 (Jz H (fun w' H' => .cellN H' rfl (by repeat first|exact .nil _|apply QZ.cons rfl) (.tmp .nil)) fun w' H'=>⟨x,y,j,rfl,.inl ⟨x,y,j,rfl,rfl,rfl,hn⟩,fun _ _=>by omega,hout,H'.drop⟩)
  ·replace H:=hcl _ _ H;refine J3 H ?_;refine⟨_,⟨rfl,j+1,hlt,rfl,?_,rfl,rfl,rfl,rfl,Qa (by omega),H⟩,by omega⟩;intro n x' y' hnj hn' hc;by_cases hnj':n=j
   ·subst hnj';rw[hn] at hn';injection hn' with hn'
    injection hn' with h1 h2
    subst h1 h2;exact he (by rw[hc.1,hc.2])
   ·exact hno n x' y' (by omega) hn' hc
 ·have hge:j=told.length:=by omega
  subst hge;refine KZ H ?_;clear H;intro w H;refine J0 H ?_;replace H:=Js [2,2,0] 1 H;refine Q3 (Jz H (fun w' H' => .cellN H' rfl (by repeat first|exact .nil _|apply QZ.cons rfl) (.tmp .nil)) fun w' H'=>⟨i',g',-1,rfl,.inr ⟨rfl,?_⟩,?_,hout,H'.drop⟩)
  ·intro x y n h1 h2 hn;exact hno n x y (List.getElem?_eq_some_iff.1 hn).1 hn ⟨h1,h2⟩
  ·intro h1 h2 _;obtain⟨n,x,y,hn,h3,h4⟩:=hin h1 h2;exact hno n x y (List.getElem?_eq_some_iff.1 hn).1 hn ⟨h3,h4⟩
set_option maxRecDepth 10000 in
theorem fI [Q4] (p:Nat) (u:GF) (s:CS) (r:Int) (v:Value) (l:List (Nat×Nat)) (hl:l.length≤1000) {w:World} {fr:List Q2} (H:Q0 w (Qk u.tp s.tab::V5 p u::Qe u.trp s.last s.par::Qz v l::fr)) :
  Calls Tryz.prog 52 #[pp p,.int .i64 r,v] w (ret fun x w'=>x = .int .i64 (Za s r l:Nat)∧Q0 w' (Qk u.tp s.tab::V5 p u::Qe u.trp s.last s.par::Qz v l::fr)):=by
 obtain⟨a,c,rfl⟩:=QD (H.pull 3) (Kl l) (by decide);refine QV Tryz.func52 rfl (by kernel_rfl) ?_;refine VJ H ?_;refine Sm ?_;refine Xa H ?_;by_cases h64:64 < l.length
 ·rw[show decide (((l.length:Nat):Int) > 64)=true from decide_eq_true (by omega)];refine YR H ?_;exact Q3 (Jy H rfl fun w' H'=>⟨by unfold Za;rw[if_pos h64];rfl,H'⟩)
 have hfail:∀ x:Nat,x≠0→Yw s.tab r [] l=x→Za s r l=x:=fun x h1 h2=>by
  unfold Za;rw[if_neg h64,h2,if_pos h1]
 rw[show decide (((l.length:Nat):Int) > 64)=false from decide_eq_false (by omega)];refine V8 H ?_;refine J6 H ?_;refine PM ?_;refine Xa H ?_;replace H:=Js [3,0,0,0] 0 H;refine J7 H ?_;refine Y1 (fun ms σ w=>ms=[]∧∃ again:Bool,((again=true∧Yw s.tab r [] l=14)∨(again=false∧Yw s.tab r [] l=0))∧σ 0=pp p∧σ 7 = .bool again∧Q0 w (Qz (.slice a l.length c) l::Qk u.tp s.tab::V5 p u::Qe u.trp s.last s.par::fr)) ?_ ?_
 ·refine QS ?_;refine Qi (fun ms σ w z=>ms=[]∧∃ i:Nat,i≤l.length∧z=l.length - i∧Yw s.tab r (l.take i) (l.drop i)=Yw s.tab r [] l∧σ 0=pp p∧σ 1 = .int .i64 r∧σ 2 = .slice a l.length c∧σ 7 = .bool false∧σ 17 = .slice a l.length c∧σ 18 = .int .i64 l.length∧σ 19 = .int .i64 i∧Q0 w (Qz (.slice a l.length c) l::Qk u.tp s.tab::V5 p u::Qe u.trp s.last s.par::fr)) (m:=l.length) ⟨rfl,0,by omega,by omega,rfl,rfl,rfl,rfl,rfl,rfl,rfl,rfl,H⟩ ?_;clear H;rintro ms σ w z ⟨rfl,i,hi,rfl,hch,g0,g1,g2,g7,g17,g18,g19,H⟩;rw[Q1 g0,Q1 g1,Q1 g2,Q1 g7,Q1 g17,Q1 g18,Q1 g19];refine J6 H ?_;refine Qh rfl (fun h=>QR ?_) (fun h=>Qj ?_)
  ·have hlt:i < l.length:=by omega
   have hx:=getElem?_eq_getElem hlt;have htk:l.take (i+1)=l.take i++[l[i]]:=by rw[take_add_one,hx];rfl
   rw[drop_eq_getElem_cons hlt] at hch;generalize l[i]=t at hx htk hch;obtain⟨k,n⟩:=t;obtain⟨bT,sT,rfl,H,hcap,_,hcl⟩:=Yx H (by omega);refine BC H ?_;refine Jd ?_;refine Q5 rfl (VH H rfl (Xy hx) rfl ?_);refine VQ H ?_;clear H;intro b9 w H;refine DH H ?_;clear H;intro w H;refine Q6 ?_;replace H:Q0 w (pts b9 (row 62 [.int .i64 k,.int .i64 n])::pts bT (row 62 (ZB l++sT))::Qk u.tp s.tab::V5 p u::Qe u.trp s.last s.par::fr):=H;obtain⟨e1,e2,h1,h2,e4,hsh⟩:=CC (Qn s.tab k n);refine J7 H ?_
   refine Qm (fun ms σ w=>ms=[]∧∃ b10,σ 0=pp p∧σ 1 = .int .i64 r∧σ 2 = .slice (some ⟨bT,0,none⟩) l.length c∧σ 7 = .bool false∧σ 8 = .int .i64 i∧σ 9=pp b9∧σ 10=pp b10∧σ 11 = .int .i64 e4∧σ 17 = .slice (some ⟨bT,0,none⟩) l.length c∧σ 18 = .int .i64 l.length∧σ 19 = .int .i64 i ∧
    Q0 w (Qk u.tp s.tab::pts b10 (row 78 [.int .i64 e1,.int .i64 e2,.bool h1,.bool h2])::pts b9 (row 62 [.int .i64 k,.int .i64 n])::pts bT (row 62 (ZB l++sT))::V5 p u::Qe u.trp s.last s.par::fr)) ?_ ?_
   ·replace H:=Js [2,0,0,0,0] 0 H;refine J1 H ?_;clear H;intro w H;refine Xc H ?_;refine Jw 5 9 H rfl rfl (V0 (a:=[]) (b:=[]) rfl rfl (call (ZM u.tp s.tab k n H) ?_)) (Vr H rfl ?_)
    ·clear H;rintro v w ⟨rfl,H⟩;rw[hsh];refine Xd H ?_;clear H;intro b10 w H;refine Xe H ?_;clear H;intro w H;refine ZH H ?_;replace H:=Js [1,0,0,0,0,0] 0 H;exact⟨rfl,rfl,b10,rfl,rfl,rfl,rfl,rfl,rfl,rfl,rfl,rfl,rfl,rfl,H⟩
    ·clear H;intro b10 w H;refine Jo 5 H ?_;refine Jk rfl rfl (ZM u.tp s.tab k n H.swap) ?_;clear H;rintro v w ⟨rfl,H⟩;rw[hsh];refine Xf H ?_;clear H;intro w H;refine ZH H ?_;exact⟨rfl,rfl,b10,rfl,rfl,rfl,rfl,rfl,rfl,rfl,rfl,rfl,rfl,rfl,H⟩
   clear H;rintro ms σ w ⟨rfl,b10,g0,g1,g2,g7,g8,g9,g10,g11,g17,g18,g19,H⟩;rw[Q1 g0,Q1 g1,Q1 g2,Q1 g7,Q1 g8,Q1 g9,Q1 g10,Q1 g11,Q1 g17,Q1 g18,Q1 g19];cases hL:Qn s.tab k n with
   | none=>
    have hv:Qg s.tab k n=none:=by unfold Qg;rw[hL]
    rw[FE hv] at hch;rw[hL] at hsh;cases hsh;refine Ry H ?_;refine A8 H ?_;refine Dr H ?_;replace H:=Js [3,0,2,2] 2 H;replace H:=hcl _ _ _ rfl H;replace H:=Js [1,1,1,0] 0 H;exact Q3 (.inr ⟨by simp,Jy H rfl fun w' H'=>⟨by rw[hfail 8 (by decide) hch.symm];rfl,H'⟩⟩)
   | some q=>
    obtain⟨k',e⟩:=q;obtain⟨n',hn1,hn2,hk⟩:=Vz.1 hL;obtain rfl:k=k':=by omega
    obtain rfl:n=n':=by omega
    rw[hL] at hsh;cases hsh;cases hh:e.held with
    | false=>
     have hv:Qg s.tab k n=none:=by unfold Qg;rw[hL];show (if e.held=true then some (k,e) else none)=none;rw[hh];rfl
     rw[FE hv] at hch;rw[hh] at H;refine Ry H ?_;refine XO H ?_;refine Dr H ?_;replace H:=Js [3,0,2,2] 2 H;replace H:=hcl _ _ _ rfl H;replace H:=Js [1,1,1,0] 0 H;exact Q3 (.inr ⟨by simp,Jy H rfl fun w' H'=>⟨by rw[hfail 8 (by decide) hch.symm];rfl,H'⟩⟩)
    | true=>
     have hv:Qg s.tab k n=some (k,e):=U0.2 ⟨hL,hh⟩;rw[Iv hv] at hch;rw[hh] at H;refine Ry H ?_;refine XO H ?_;refine KQ H ?_;refine KG H ?_;refine A7 H ?_;by_cases hr:e.region=r
     ·rw[show (e.region != r)=false by rw[hr];simp];rw[if_neg (by simpa using hr)] at hch;refine AX H ?_;refine WY H ?_;cases hp:e.pinned with
      | true=>
       rw[hp,if_pos rfl] at hch;refine YR H ?_;replace H:=Js [3,0,2,2] 2 H;replace H:=hcl _ _ _ rfl H;replace H:=Js [1,1,1,0] 0 H;exact Q3 (.inr ⟨by simp,Jy H rfl fun w' H'=>⟨by rw[hfail 13 (by decide) hch.symm];rfl,H'⟩⟩)
      | false=>
       rw[hp,if_neg (by decide)] at hch;refine AG H ?_;refine Q5 rfl (SX rfl rfl (by omega) (by omega) rfl ?_);rw[Int.toNat_natCast];refine Ul H ?_;replace H:=Js [3,0,1,1,1] 1 H;refine Zf H ?_
       refine Qi (fun ms σ w z=>ms=[]∧∃ j:Nat,j≤i∧z=i - j∧(∀ x∈l.take j,x≠(k,n))∧σ 0=pp p∧σ 1 = .int .i64 r∧σ 2 = .slice (some ⟨bT,0,none⟩) l.length c∧σ 7 = .bool false∧σ 9=pp b9∧σ 17 = .slice (some ⟨bT,0,none⟩) l.length c∧σ 18 = .int .i64 l.length∧σ 19 = .int .i64 i∧σ 51 = .slice (some ⟨bT,0,none⟩) i c∧σ 52 = .int .i64 i∧σ 53 = .int .i64 j ∧
        Q0 w (pts bT (row 62 (ZB l++sT))::Qk u.tp s.tab::pts b9 (row 62 [.int .i64 k,.int .i64 n])::V5 p u::Qe u.trp s.last s.par::fr)) (m:=i) ⟨rfl,0,by omega,by omega,(fun x hx=>by simp at hx),rfl,rfl,rfl,rfl,rfl,rfl,rfl,rfl,rfl,rfl,rfl,H⟩ ?_
       clear H;rintro ms σ w z ⟨rfl,j,hj,rfl,hno,g0,g1,g2,g7,g9,g17,g18,g19,g51,g52,g53,H⟩;rw[Q1 g0,Q1 g1,Q1 g2,Q1 g7,Q1 g9,Q1 g17,Q1 g18,Q1 g19,Q1 g51,Q1 g52,Q1 g53];refine J6 H ?_;refine Qh rfl (fun h=>QR ?_) (fun h=>Qj ?_)
       ·have hjl:j < i:=by omega
        have hy:=getElem?_eq_getElem (l:=l) (i:=j) (by omega);have htj:l.take (j+1)=l.take j++[l[j]]:=by rw[take_add_one,hy];rfl
        generalize l[j]=y at hy htj;obtain⟨k2,n2⟩:=y;refine Y9 H ?_;refine Jd ?_;refine Q5 rfl (VH H rfl (Xy hy) rfl ?_);refine VQ H ?_;clear H;intro b13 w H;refine J4 H ?_;clear H;intro w H;refine ER H ?_;refine BO H ?_;refine Qh (p:=(((k2:Nat):Int),((n2:Nat):Int))=(((k:Nat):Int),((n:Nat):Int))) rfl (fun he=>?_) (fun he=>QR ?_)
        ·have hkn:(k2,n2)=(k,n):=by
          injection he with e1 e2
          exact Prod.ext (by show k2=k;omega) (by show n2=n;omega)
         rw[hkn] at hy;rw[if_pos (mem_of_getElem? (i:=j) (by rw[getElem?_take_of_lt hjl];exact hy))] at hch;refine VJ H ?_;refine Qj ?_;replace H:=Js [1,1,2,2] 2 H;replace H:=hcl _ _ _ rfl H;exact .inl ⟨rfl,rfl,true,.inl ⟨rfl,hch.symm⟩,rfl,rfl,H⟩
        ·refine J3 H ?_;refine⟨_,⟨rfl,j+1,hjl,rfl,(fun x hx=>?_),rfl,rfl,rfl,rfl,rfl,rfl,rfl,rfl,rfl,rfl,Qa (by omega),H.drop⟩,by omega⟩;rw[htj] at hx
         rcases mem_append.1 hx with hx|hx
         ·exact hno x hx
         ·rw[mem_singleton] at hx;subst hx;intro h;injection h with e1 e2
          exact he (by rw[e1,e2])
       ·obtain rfl:j=i:=by omega
        rw[if_neg (fun h=>hno _ h rfl),← htk] at hch;refine J3 H ?_;replace H:=Js [0,0,1,1] 1 H;replace H:=hcl _ _ _ rfl H;exact⟨_,⟨rfl,j+1,hlt,rfl,hch,rfl,rfl,rfl,rfl,rfl,rfl,Qa (by omega),H⟩,by omega⟩
     ·rw[show (e.region != r)=true by simpa using hr];rw[if_pos hr] at hch;refine YR H ?_;replace H:=Js [3,0,2,2] 2 H;replace H:=hcl _ _ _ rfl H;replace H:=Js [1,1,1,0] 0 H;exact Q3 (.inr ⟨by simp,Jy H rfl fun w' H'=>⟨by rw[hfail 15 (by decide) hch.symm];rfl,H'⟩⟩)
  ·obtain rfl:i=l.length:=by omega
   rw[drop_length] at hch;exact .inl ⟨rfl,rfl,false,.inr ⟨rfl,hch.symm⟩,rfl,rfl,H⟩
 clear H;rintro ms σ w ⟨rfl,again,hag,g0,g7,H⟩;rw[Q1 g0,Q1 g7];refine J7 H ?_;refine Y1 (fun ms σ w=>ms=[]∧Za s r l=0∧Q0 w (Qk u.tp s.tab::V5 p u::Qe u.trp s.last s.par::Qz (.slice a l.length c) l::fr)) ?_ ?_
 ·refine QS ?_;refine J3 H ?_
  rcases hag with ⟨rfl,hch⟩|⟨rfl,hch⟩
  ·refine YR H ?_;replace H:=Js [1,1,1,0] 0 H;exact Q3 (.inr ⟨by simp,Jy H rfl fun w' H'=>⟨by rw[hfail 14 (by decide) hch];rfl,H'⟩⟩)
  ·refine AX H ?_;replace H:=Js [3,1,1,0] 0 H;refine ZU H ?_;refine Jc rfl rfl (Tf u.trp s.last s.par H) ?_;clear H;rintro v w ⟨rfl,H⟩;refine Jv ?_;by_cases hf:s.par.length=64
   ·rw[show (((s.par.length:Nat):Int) == (64:Int))=true by rw[hf];rfl];refine UK H ?_;replace H:=Js [1,1,0,0] 0 H;exact Q3 (.inr ⟨by simp,Jy H rfl fun w' H'=>⟨by unfold Za;rw[if_neg h64,hch,if_neg (by decide),if_pos hf];rfl,H'⟩⟩)
   ·rw[show (((s.par.length:Nat):Int) == (64:Int))=false by rw[beq_eq_false_iff_ne];omega];refine Vo H ?_;replace H:=Js [1,1,0,0] 0 H;exact .inl ⟨rfl,rfl,by unfold Za;rw[if_neg h64,hch,if_neg (by decide),if_neg hf],H⟩
 clear H;rintro ms σ w ⟨rfl,hE,H⟩;refine VJ H ?_;exact Q3 (Jy H rfl fun w' H'=>⟨by rw[hE];rfl,H'⟩)
theorem OP:∀ {l:List (Nat×Nat)},(∀ p∈l,p.2=1)→QK l=l.map (·.1)
 | [],_=>rfl
 | (c,n)::l,h=>by
  have hn:n=1:=h (c,n) mem_cons_self;subst hn;rw[IK,OP fun p hp=>h p (mem_cons_of_mem _ hp)];rfl
theorem OS:∀ own:List Nat,((List.range own.length).filter fun c=>own.getD c 0 == 0).length+(own.filter (· != 0)).length=own.length
 | []=>rfl
 | a::t=>by
  have ih:=OS t;rw[length_cons,range_succ_eq_map,filter_cons,filter_map,filter_cons];have e1:((fun c=>(a::t).getD c 0 == 0)∘Nat.succ)=fun c=>t.getD c 0 == 0:=rfl;rw[e1];by_cases h:a=0
  ·subst h;rw[if_pos (by rfl),if_neg (by decide),length_cons,length_map];omega
  ·rw[if_neg (by simpa using h),if_pos (by simpa using h),length_cons,length_map];omega
theorem YM.bnd {s:CS} (hw:WF s) {r:Nat} {S T:QH} {Z:List Pl} {mem own' mem':List Nat} (h:YM s r S Z mem own' mem' T):T.parts.length≤63∧(QK T.parts).length=T.parts.length∧T.fin≤1000000∧∀ c∈QK T.parts,c < s.own.length∧s.own.getD c 0=0:=by
 have ho:=hw.own.2;have hone:QK T.parts=T.parts.map (·.1):=OP fun p hp=>(h.parts p hp).1
 have hin:∀ c∈QK T.parts,c < s.own.length∧s.own.getD c 0=0:=fun c hc=>by
  rw[hone] at hc;obtain⟨p,h1,h2⟩:=mem_map.1 hc;have h3:=(h.parts p h1).2;rw[h2] at h3;exact⟨(List.getElem?_eq_some_iff.1 h3).1,by rw[getD_eq_getElem?_getD,h3];rfl⟩
 have h3:=G1 h.nd (l₂:=List.range s.own.length) (fun c hc=>mem_range.2 (hin c hc).1);rw[length_range] at h3;have h4:(QK T.parts).length=T.parts.length:=by rw[hone,length_map]
 refine⟨by omega,h4,?_,hin⟩;by_cases hf:T.fin=0
 ·omega
 ·obtain⟨c,h5,_,h6⟩:=h.fin hf;have h7:=(List.getElem?_eq_some_iff.1 (h.parts _ h6).2).1;have h7:c < s.own.length:=h7;have:=Nat.mul_le_mul (show c+1≤63 by omega) hw.size.2;omega
theorem fJ {a b:List Nat} (h:a.length=b.length) (hg:∀ j,a.getD j 0=b.getD j 0):a=b:=by
 apply ext_getElem h;intro i h1 h2;have:=hg i;rw[getD_eq_getElem?_getD,getD_eq_getElem?_getD,getElem?_eq_getElem h1,getElem?_eq_getElem h2] at this;exact this
theorem YM.undo {s:CS} (hw:WF s) {r:Nat} {S T:QH} {Z:List Pl} {mem own' mem':List Nat} (h:YM s r S Z mem own' mem' T) {own2:List Nat} (h1:own2.length=own'.length) (h2:∀ j,own2.getD j 0=if j∈QK T.parts then 0 else own'.getD j 0):own2=s.own:=by
 obtain⟨_,_,_,hin⟩:=h.bnd hw;refine fJ (h1.trans h.ol) fun j=>?_;rw[h2,h.og];by_cases hj:j∈QK T.parts
 ·rw[if_pos hj,(hin j hj).2]
 ·rw[if_neg hj,if_neg hj]
theorem YM.full {s:CS} (hw:WF s) {r:Nat} {S T:QH} {Z:List Pl} {mem own' mem':List Nat} (h:YM s r S Z mem own' mem' T) (hf:∀ a,a+1≤own'.length→own'.getD a 0≠0):s.own.length - (s.own.filter (· != 0)).length≤Z.length:=by
 obtain⟨_,hl,_,hin⟩:=h.bnd hw;have hz:=OS s.own
 have h1:=G1 (l₁:=(List.range s.own.length).filter fun c=>s.own.getD c 0 == 0) (l₂:=QK T.parts) (List.Pairwise.filter _ nodup_range) (fun c hc=>by
  rw[mem_filter,mem_range] at hc;obtain⟨h2,h3⟩:=hc;have h3:s.own.getD c 0=0:=by simpa using h3
  have h4:=hf c (by rw[h.ol];omega);rw[h.og] at h4;by_cases h5:c∈QK T.parts
  ·exact h5
  ·rw[if_neg h5] at h4;exact absurd h3 h4)
 have:=h.few;omega
theorem YM.own0 {s:CS} (hw:WF s) {r:Nat} (hr:1≤r) {S T:QH} {Z:List Pl} {mem own' mem':List Nat} (h:YM s r S Z mem own' mem' T) {d:Nat} (hd:s.own.getD d 0≠0):own'.getD d 0≠0:=by
 rw[h.og];split
 ·omega
 ·exact hd
theorem YM.img {s:CS} (hw:WF s) {r:Nat} (hr:1≤r) {S T:QH} {Z:List Pl} {mem own' mem':List Nat} (h:YM s r S Z mem own' mem' T) (m:VM s mem) {k g:Nat} {e:QQ} (hk:s.tab[k]? = some ⟨g,some e⟩):XG s.lays s.size mem' own' e.addr e.lay e.count k e.ws.length (QO s e):=by
 obtain⟨a1,a2,a3,a4,a5,a6,a7⟩:=KM hw m hk;refine⟨a1,a2,a3,a4,?_,by rw[h.ml];exact a6,fun d d1 d2=>h.own0 hw hr (a7 d d1 d2)⟩;obtain⟨x,x1,_,x3⟩:=(hw.obj k g e hk).2.1.2 (e.addr / s.size) (Nat.le_refl _) (Nat.div_le_div_right (by omega));rw[getD_eq_getElem?_getD,h.mg _ x x1 (by omega),← getD_eq_getElem?_getD];exact a5
theorem fL [Q4] (p:Nat) (q:GF) (s:CS) (k n:Nat) (e:QQ) (hk:s.tab[k]? = some ⟨n,some e⟩) (place:Int) (l:Vy) {w:World} {fr:List Q2} (H:Q0 w (RS q.rp s.rem::Qk q.tp s.tab::V5 p q::fr)) :
  Calls Tryz.prog 145 #[pp p,.int .i64 k,.int .i64 place,ZI l] w (ret fun v w'=>Q0 w' (RS q.rp (Ye s k e place l)::Qk q.tp s.tab::V5 p q::fr)):=by
 obtain⟨a1,a2,a3,hkv⟩:=Gi l;rw[hkv];have hnd:=Ah H;have hnd0:=hnd;refine QV Tryz.func145 rfl (by kernel_rfl) ?_;refine J8 H ?_;clear H;intro b7 w H;refine Rs H ?_;refine Gu H ?_;refine VQ H ?_;clear H;intro b8 w H;refine J4 H ?_;clear H;intro w H;refine Q6 ?_;replace H:=Js [2,0,0,0,0] 0 H;refine J1 H ?_;clear H;intro w H;refine Dn H ?_;refine Jk rfl rfl (CK q.rp s.rem hnd ((k:Int),place) H) ?_;clear H;rintro v w ⟨rfl,H⟩;refine Jx H ?_;replace H:=Js [0,2,2,0,0] 0 H;refine WY H ?_
 have hcase:(a1≠2∧Ye s k e place l=QB s.rem ((k:Int),place))∨∃ a b:Nat,l = .obj a b∧a1=2∧a2=a∧a3=b:=by
  cases l with
  | none=>injection hkv with h;simp at h;exact .inl ⟨by omega,rfl⟩
  | grave=>injection hkv with h;simp at h;exact .inl ⟨by omega,rfl⟩
  | obj a b=>injection hkv with h;simp at h;exact .inr ⟨a,b,rfl,by omega,by omega,by omega⟩
 rcases hcase with ⟨h2,hn⟩|⟨a,b,rfl,rfl,rfl,rfl⟩
 ·rw[show (a1 != 2)=true by simpa using h2];refine VR H ?_;rw[hn];replace H:=Js [0,0,0] 2 H;exact Q3 (Jy H rfl fun w' H'=>H')
 ·refine AG H ?_;replace H:=Js [1,1,0] 0 H;refine Jc rfl rfl (NP p q s.tab k n e hk H) ?_;clear H;rintro v w ⟨rfl,H⟩;refine Vj H ?_;clear H;intro b9 w H;refine J4 H ?_;clear H;intro w H;refine J0 H ?_;obtain⟨e1,e2,h1,h2,e4,hsh⟩:=CC (Qn s.tab a b);refine J7 H ?_
  refine Qm (fun ms σ w=>ms=[]∧∃ b11,σ 0=pp p∧σ 7=pp b7∧σ 8=pp b8∧σ 9=pp b9∧σ 11=pp b11∧σ 12 = .int .i64 e4 ∧
    Q0 w (RS q.rp (QB s.rem ((k:Int),place))::Qk q.tp s.tab::V5 p q::pts b11 (row 78 [.int .i64 e1,.int .i64 e2,.bool h1,.bool h2])::pts b9 (row 78 (YJ e))::pts b8 (row 132 [.int .i64 k,.int .i64 place])::pts b7 (row 85 [.int .i64 2,.int .i64 a,.int .i64 b])::fr)) ?_ ?_
  ·replace H:=Js [1,0] 0 H;refine J1 H ?_;clear H;intro w H;refine Dz H ?_;refine HX H ?_;refine Jw 6 10 H rfl rfl (V0 (a:=[]) (b:=[]) rfl rfl (call (ZM q.tp s.tab a b H) ?_)) (Vr H rfl ?_)
   ·clear H;rintro v w ⟨rfl,H⟩;rw[hsh];refine E0 H ?_;clear H;intro b11 w H;refine A2 H ?_;clear H;intro w H;refine Xb H ?_;replace H:=Js [4,1,2,0,0,0,0] 0 H;exact⟨rfl,rfl,b11,rfl,rfl,rfl,rfl,rfl,rfl,H⟩
   ·clear H;intro b11 w H;refine Jo 6 H ?_;refine Jk rfl rfl (ZM q.tp s.tab a b H.swap) ?_;clear H;rintro v w ⟨rfl,H⟩;rw[hsh];refine E1 H ?_;clear H;intro w H;refine Xb H ?_;replace H:=Js [4,0,2,0,0,0,0] 0 H;exact⟨rfl,rfl,b11,rfl,rfl,rfl,rfl,rfl,rfl,H⟩
  ·clear H;rintro ms σ w ⟨rfl,b11,g0,g7,g8,g9,g11,g12,H⟩;rw[Q1 g0,Q1 g7,Q1 g8,Q1 g9,Q1 g11,Q1 g12];cases hL:Qn s.tab a b with
   | none=>
    have hn:Ye s k e place (.obj a b)=QB s.rem ((k:Int),place):=I5 hL;rw[hL] at hsh;cases hsh;rw[hn];refine Vi H ?_;refine W5 H ?_;refine Qu rfl rfl rfl ?_;refine Vo H ?_;replace H:=Js [0,0,0] 4 H;exact Y7 _ (.inl rfl) H rfl fun w' H'=>H'
   | some x=>
    obtain⟨kk,f⟩:=x;rw[hL] at hsh;cases hsh;refine Vi H ?_;refine WZ H ?_;by_cases hr:f.region=e.region
    ·have hn:Ye s k e place (.obj a b)=QB s.rem ((k:Int),place):=by rw[CO hL];exact if_neg (by simpa using hr)
     rw[hn,show (f.region != e.region)=false by simpa using hr];refine Vo H ?_;replace H:=Js [0,0,0] 4 H;exact Y7 _ (.inl rfl) H rfl fun w' H'=>H'
    ·have hn:Ye s k e place (.obj a b)=Vm (QB s.rem ((k:Int),place)) ((k:Int),place) (a:Int):=by rw[CO hL];exact if_pos hr
     rw[hn,show (f.region != e.region)=true by simpa using hr];refine Un H ?_;have hnd:=Ah H;refine J1 H ?_;clear H;intro w H;refine Bz H ?_;refine VP 4 [8] H rfl (Q9.none rfl) rfl (by repeat first|exact .nil _|apply QZ.cons rfl) (by kernel_rfl) ?_;refine Jf 5 ?_;refine Jf 6 ?_;refine Jl 7 [8] H ?_;refine Jo 8 H ?_;refine Jk rfl rfl (Mf q.rp _ hnd ((k:Int),place) a H) ?_;clear H;rintro v w ⟨rfl,H⟩;refine Jx H ?_
     have he:QB (QB s.rem ((k:Int),place)) ((k:Int),place)=QB s.rem ((k:Int),place):=by
      refine B6 ?_;intro hmem;exact absurd rfl ((B7 hnd0).1 hmem).1
     rw[he] at H;replace H:=Js [0,0,0] 4 H;exact Y7 _ (.inl rfl) H rfl fun w' H'=>H'
set_option maxRecDepth 10000 in
theorem fM [Q4] (p:Nat) (s:CS) (R0 R:List (Rf×Int)) (D:List Rf) (hD:ZA s R0 D R) (k g:Nat) (e:QQ) (hk:s.tab[k]? = some ⟨g,some e⟩) {w:World} {fr:List Q2} (H:Q0 w (QU p { s with rem:=R }::fr)) :
  Calls Tryz.prog 119 #[pp p,.int .i64 k] w (ret fun v w'=>v = .tuple #[]∧∃ R',ZA s R0 (D++WL s k e) R'∧Q0 w' (QU p { s with rem:=R' }::fr)):=by
 refine QV Tryz.func119 rfl (by kernel_rfl) ?_;refine ZF H ?_;clear H;intro b2 w H;refine KA H ?_;clear H;intro b3 w H;refine Q6 ?_;replace H:=Js [2,0,0] 0 H;refine C0 H ?_;refine Jc rfl rfl (N8 p { s with rem:=R } k g e hk H) ?_;clear H;rintro v w ⟨rfl,H⟩;refine Vj H ?_;clear H;intro b4 w H;refine J4 H ?_;clear H;intro w H;refine Yp H ?_;replace H:=Js [1,0] 0 H;obtain⟨q,mem,hw,hm,H⟩:=Vv H;dsimp only at H;have hws:WF s:=Aa hw s.rem;have hms:VM s mem:=En hm s.rem;refine J1 H ?_;clear H;intro w H;refine Jl 0 [6] H ?_;refine X9 H ?_;refine Jl 3 [6] H ?_;refine Jf 4 ?_;refine Jl 5 [6] H ?_;refine Jo 6 H ?_;refine Jk rfl rfl (bQ q.ip e.addr H) ?_;clear H;rintro v w ⟨bm,ba,rfl,H⟩;refine Jx H ?_;refine J7 H ?_;refine QS (Kt (a:=[]) (b:=[pp bm,pp ba]) H rfl (fun yl D2 w H=>?_));generalize hL:LR _ yl _ _ _ _ D2 .ready=L at H ⊢;obtain⟨J,hJ⟩:∃ J:List Nat→Q2,J=fun ks=>ex fun R1:List (Rf×Int)=>star [prop (ZA s R0 (D++ks.map fun x:Nat=>((k:Int),(x:Int))) R1),L,V5 p q,Qk q.tp s.tab,Qe q.trp s.last s.par,RS q.rp R1,mp (ki .i64) Qr q.sm (s.sps.map VN),star (s.sps.map (VO q.sp)),mp (ki .i64) Qr q.mm (s.mns.map V2),star (s.mns.map VX),pts b2 (row 45 [pp p]),pts b3 (row 3 [.int .i64 k])]:=⟨_,rfl⟩
 have hin:∀ (ks:List Nat) (R1:List (Rf×Int)) (w:World) (l':List Q2),ZA s R0 (D++ks.map fun x:Nat=>((k:Int),(x:Int))) R1→Q0 w (L::V5 p q::Qk q.tp s.tab::Qe q.trp s.last s.par::RS q.rp R1::mp (ki .i64) Qr q.sm (s.sps.map VN)::star (s.sps.map (VO q.sp))::mp (ki .i64) Qr q.mm (s.mns.map V2)::star (s.mns.map VX)::pts b2 (row 45 [pp p])::pts b3 (row 3 [.int .i64 k])::l')→Q0 w (J ks::l'):=by
  intro ks R1 w l' h H;rw[hJ];exact Q0.ex.2 ⟨R1,Q0.star.2 (Q0.prop.2 ⟨h,H⟩)⟩
 have hout:∀ (ks:List Nat) (w:World) (l':List Q2),Q0 w (J ks::l')→∃ R1,ZA s R0 (D++ks.map fun x:Nat=>((k:Int),(x:Int))) R1∧Q0 w (L::V5 p q::Qk q.tp s.tab::Qe q.trp s.last s.par::RS q.rp R1::mp (ki .i64) Qr q.sm (s.sps.map VN)::star (s.sps.map (VO q.sp))::mp (ki .i64) Qr q.mm (s.mns.map V2)::star (s.mns.map VX)::pts b2 (row 45 [pp p])::pts b3 (row 3 [.int .i64 k])::l'):=by
  intro ks w l' H;rw[hJ] at H;obtain⟨R1,H⟩:=Q0.ex.1 H;exact⟨R1,Q0.prop.1 (Q0.star.1 H)⟩
 replace H:=Js [0,3,6,6,6,6,6,6,6,8,7,1,1,1,1,1,0] 1 H;replace H:=hin [] R _ _ (by rw[map_nil,append_nil];exact hD) H;refine call (bV yl bm ba q.ip q.sp q.bp s.size s.lays s.own e.addr e.lay e.count k e.ws.length (QO s e) (YZ e) (VM s) (fun _ h=>bN hws h hk) J ?_ hms H) ?_
 ·clear H;intro ks z mem' rest w hm' hpre H;obtain⟨R1,hD1,H⟩:=hout _ _ _ H;obtain⟨t,hpre⟩:=hpre;obtain⟨hz1,hz2⟩:=N9 hpre;have hstep:=hD1.step hk hz1 hz2;rw[append_assoc,show [((k:Int),(z:Int))]=[z].map (fun x:Nat=>((k:Int),(x:Int))) from rfl,← map_append] at hstep;have hnote:=fun (w:World) (fr:List Q2) (H:Q0 w (RS q.rp R1::Qk q.tp s.tab::V5 p q::fr))=>fL p q { s with rem:=R1 } k g e hk (z:Int) (YZ e z) H;obtain⟨a1,a2,a3,hkv⟩:=Gi (YZ e z);rw[hkv] at hnote;rw[hkv];subst hL;refine Ks (args:=[.int .i64 z,.agg #[.int .i64 a1,.int .i64 a2,.int .i64 a3]]) H rfl rfl ?_;refine VJ H ?_;refine YS H ?_;clear H;intro b7 w H;refine J4 H ?_;clear H;intro w H;refine Q6 ?_;replace H:=Js [1,0] 0 H;refine⟨rfl,_,H,fun w H=>QS ?_⟩;generalize hLB:LR _ yl _ _ _ _ D2 .busy=LB at H ⊢;replace H:=Js [5,3,2,0,0,0,0,0,0,0,0,0] 0 H;refine C0 H ?_;refine Jv ?_;refine K7 H ?_;refine Jc rfl rfl (hnote _ _ H) ?_;clear H;rintro v w H;refine Q6 ?_;subst hLB;replace H:=Js [3,2,1,2,0,1,1,1,1,1,1] 1 H;refine⟨rfl,_,H,fun w H=>⟨rfl,mem',hm',hin _ _ _ _ hstep H⟩⟩
 ·clear H;rintro v w ⟨mem',hm',H⟩;obtain⟨R1,hD1,H⟩:=hout _ _ _ H;subst hL;refine⟨_,H,fun w H=>?_⟩;replace H:=Js [15,0,11,11,11,0,0,0,0,0,0,0] 4 H;exact Rj (ms:=[D2]) _ (.inl rfl) ((Q0.star (k:=[pts D2 (.deferred (some []))])).2 H) rfl fun w' H'=>⟨rfl,R1,hD1,VV (s:={ s with rem:=R1 }) (Aa hws R1) (En hm' R1) H'⟩
theorem OT [Q4] (p:Nat) (q:GF) (ts:List QF) (mk:List (Int×Nat)) (k n:Nat) (e:QQ) (hk:ts[k]? = some ⟨n,some e⟩) (region:Int) (addr b1 b2:Nat) (M1 M2:List Nat) (h1:Q8 mk e.region=some b1) (h2:Q8 mk region=some b2)
  (hs1:M1.Pairwise (· < ·)) (hl1:M1.length≤1000) (hs2:M2.Pairwise (· < ·)) (hl2:M2.length≤1000) (hkM:k∉M2) {w:World} {fr:List Q2} (H:Q0 w (Qk q.tp ts::V5 p q::mp (ki .i64) Qr q.mm mk::Qs b1 M1::Qs b2 M2::fr)) :
  Calls Tryz.prog 50 #[pp p,.int .i64 k,.int .i64 region,.int .i64 addr] w (ret fun v w'=>v = .tuple #[]∧Q0 w' (Qk q.tp (ts.set k ⟨n,some { e with region:=region,addr:=addr }⟩)::V5 p q::mp (ki .i64) Qr q.mm mk::Qs b1 (M1.filter (·≠k))::Qs b2 (YL M2 k)::fr)):=by
 have hL:Qn ts k n=some (k,e):=Vz.2 ⟨n,rfl,rfl,hk⟩;refine QV Tryz.func50 rfl (by kernel_rfl) ?_;refine J5 H ?_;refine Jc rfl rfl (IY p q ts k n e hk H) ?_;clear H;rintro v w ⟨rfl,H⟩;refine Vj H ?_;clear H;intro b8 w H;refine VQ H ?_;clear H;intro b9 w H;refine J4 H ?_;clear H;intro w H;refine J4 H ?_;clear H;intro w H;refine Q6 ?_;replace H:=Js [5,0,0,0,0,0,0] 0 H;refine J1 H ?_;clear H;intro w H;refine Bz H ?_;refine Jf 4 ?_;refine Jl 5 [8] H ?_;refine XM 6 [8] (key:=e.region) H rfl (Q9.none rfl) rfl rfl VL (by kernel_rfl) ?_;rw[h1];refine Ja 7 ?_;refine Jo 8 H ?_;refine Jk rfl rfl (NS b1 M1 k hs1 (by omega) H) ?_;clear H;rintro v w ⟨rfl,H⟩;refine Jx H ?_;refine J5 H ?_;refine Uk H ?_;clear H;intro w H;refine Uk H ?_;clear H;intro w H;refine Q6 ?_;replace H:Q0 w (Qs b1 (M1.filter (·≠k))::pts b9 (row 78 (YJ { e with region:=region,addr:=addr }))::pts b8 (row 62 [.int .i64 k,.int .i64 n])::Qk q.tp ts::V5 p q::mp (ki .i64) Qr q.mm mk::Qs b2 M2::fr):=H;replace H:=Js [3,0,0,0,0,0,0] 0 H;refine J1 H ?_;clear H;intro w H;refine Bm H ?_;refine Dq H ?_;refine Bn H ?_;refine Jk rfl rfl (CB q.tp ts k n { e with region:=region,addr:=addr } H) ?_;clear H;intro v w hS
 obtain⟨rfl,H⟩:v = .int .i64 0∧Q0 w (Qk q.tp (ts.set k ⟨n,some { e with region:=region,addr:=addr }⟩)::Qs b1 (M1.filter (·≠k))::pts b9 (row 78 (YJ { e with region:=region,addr:=addr }))::pts b8 (row 62 [.int .i64 k,.int .i64 n])::V5 p q::mp (ki .i64) Qr q.mm mk::Qs b2 M2::fr):=by
  rcases hS with ⟨k2,e2,hL2,hv,H⟩|⟨hL2,_,_⟩
  ·rw[hL] at hL2;injection hL2 with hL2
   injection hL2 with hL2 _
   subst hL2;exact⟨hv,H⟩
  ·rw[hL] at hL2;cases hL2
 refine Jx H ?_;replace H:=Js [6,0,3,3,0,0,0] 0 H;refine J9 H ?_;refine Q5 rfl (Zv (key:=region) H rfl rfl VL rfl ?_);rw[h2];refine Jv ?_;refine Jc rfl rfl (NU b2 M2 k hs2 (by omega) hkM H) ?_;clear H;rintro v w ⟨rfl,H⟩;refine Q6 ?_;replace H:=Js [1,1,1,1,0] 2 H;exact Y7 _ (.inl rfl) H rfl fun w' H'=>⟨rfl,H'⟩
theorem mk_nil [Q4] {w:World} {l:List Q2} (H:Q0 w l):Q0 w (mk []::l):=(Q0.star (k:=[])).2 H
theorem fN [Q4] {w:World} {D:Nat} {Ds:List Nat} {l:List Q2} (H:Q0 w (pts D (.deferred (some []))::mk Ds::l)):Q0 w (mk (D::Ds)::l):=
 (Q0.pick (R:=fun D=>pts D (.deferred (some []))) (x:=D) (gs:=D::Ds) (g1:=[]) (g2:=Ds) rfl).2 H
def Wd (s:CS) (k:Nat):List Rf:=match s.tab[k]? with
 | some ⟨_,some e⟩=>WL s k e
 | _=>[]
theorem Ix {s:CS} {k g:Nat} {e:QQ} (hk:s.tab[k]? = some ⟨g,some e⟩):Wd s k=WL s k e:=by
 unfold Wd;rw[hk]
def Au (s:CS) (ids:List Int) (D:List Rf):Prop:=∀ r,r∈D↔∃ (k g:Nat) (e:QQ),s.tab[k]? = some ⟨g,some e⟩∧e.region∈ids∧r∈WL s k e
theorem Au.step {s:CS} {ids:List Int} {D:List Rf} (h:Au s ids D) {x:Int} {M:List Nat} (hM:∀ i,i∈M↔∃ g e,s.tab[i]? = some ⟨g,some e⟩∧e.region=x):Au s (ids++[x]) (D++M.flatMap (Wd s)):=by
 intro r;rw[mem_append,h r,mem_flatMap];constructor
 ·rintro(⟨k,g,e,h1,h2,h3⟩|⟨k,h1,h2⟩)
  ·exact⟨k,g,e,h1,mem_append.2 (.inl h2),h3⟩
  ·obtain⟨g,e,h3,h4⟩:=(hM k).1 h1;rw[Ix h3] at h2;exact⟨k,g,e,h3,mem_append.2 (.inr (mem_singleton.2 h4)),h2⟩
 ·rintro⟨k,g,e,h1,h2,h3⟩
  rcases mem_append.1 h2 with h2|h2
  ·exact .inl ⟨k,g,e,h1,h2,h3⟩
  ·rw[mem_singleton] at h2;exact .inr ⟨k,(hM k).2 ⟨g,e,h1,h2⟩,by rw[Ix h1];exact h3⟩
set_option maxRecDepth 10000 in
theorem Oa [Q4] (p:Nat) (s:CS) (R0:List (Rf×Int)) (hR0:(R0.map (·.1)).Nodup) (v:Value) (ids:List Int) (hids:∀ x∈ids,x∈s.mns.map (·.1)) (hl:ids.length≤1000) {w:World} {fr:List Q2} (H:Q0 w (IL v ids::QU p { s with rem:=R0 }::fr)) :
  Calls Tryz.prog 51 #[pp p,v] w (ret fun x w'=>x = .tuple #[]∧∃ D R',Au s ids D∧ZA s R0 D R'∧Q0 w' (QU p { s with rem:=R' }::fr)):=by
 obtain⟨a,c,rfl⟩:=QD H (Va ids) (by decide);refine QV Tryz.func51 rfl (by kernel_rfl) ?_;refine ZF H ?_;clear H;intro b2 w H;refine Q6 ?_;refine Xa H ?_;replace H:=Js [1,1,0] 0 H;replace H:=mk_nil H;replace H:=Js [1,1,1,0] 0 H;refine Qm (fun ms σ w=>∃ D R',Au s ids D∧ZA s R0 D R'∧Q0 w (mk ms::QU p { s with rem:=R' }::fr)) ?_ ?_
 ·refine QS ?_;refine Qi (fun ms σ w z=>∃ (i:Nat) (D:List Rf) (R':List (Rf×Int)),i≤ids.length∧z=ids.length - i∧Au s (ids.take i) D∧ZA s R0 D R'∧σ 2=pp b2∧σ 7 = .slice a ids.length c∧σ 8 = .int .i64 ids.length∧σ 9 = .int .i64 i∧Q0 w (IL (.slice a ids.length c) ids::QU p { s with rem:=R' }::pts b2 (row 45 [pp p])::mk ms::fr)) (m:=ids.length) ⟨0,[],R0,by omega,by omega,(fun r=>⟨fun h=>(by cases h),fun ⟨k,g,e,_,h,_⟩=>(by cases h)⟩),ZA.start hR0,rfl,rfl,rfl,rfl,H⟩ ?_;clear H;rintro ms σ w z ⟨i,D,R',hi,rfl,hD,hN,g2,g7,g8,g9,H⟩;rw[Q1 g2,Q1 g7,Q1 g8,Q1 g9];refine J6 H ?_;refine Qh rfl (fun h=>QR ?_) (fun h=>Qj ?_)
  ·have hlt:i < ids.length:=by omega
   have hx:=getElem?_eq_getElem hlt;have htk:ids.take (i+1)=ids.take i++[ids[i]]:=by rw[take_add_one,hx];rfl
   have hxi:=hids _ (getElem_mem hlt);generalize ids[i]=x at hx htk hxi;obtain⟨bT,sT,rfl,H,hcl⟩:=Qw H (by omega);refine Y9 H ?_;refine Jd ?_;refine Q5 rfl (QW H rfl (by simpa using U4 hx) rfl ?_);refine J0 H ?_;replace H:=hcl _ _ H;replace H:=Js [1,0] 0 H;obtain⟨q,mem,hw,hm,H⟩:=Vv H;dsimp only at H;have hws:WF s:=Aa hw s.rem;obtain⟨b1,hkM⟩:=KT (l:=s.mns) (f:=fun x=>x.1) (g:=fun x=>x.2.1) (k:=x) hxi;obtain⟨⟨r2,b1',M⟩,m1,m2,hmns,hs3,hs4⟩:=KS hkM;obtain rfl:r2=x:=hs3;obtain rfl:b1'=b1:=hs4;have hkM':Q8 (s.mns.map V2) r2=some b1':=hkM;have hMm:=hws.mine (r2,b1',M) (by rw[hmns];simp)
   have hMl:M.length≤64:=by
    have:=RH M 0 64 (fun y hy=>⟨Nat.zero_le _,by
     obtain⟨g,f,h3,_⟩:=(hMm.2 y).1 hy;have h4:=(List.getElem?_eq_some_iff.1 h3).1;have:=hws.slots.2;omega⟩) hMm.1
    omega
   refine Xj H ?_;refine Q5 rfl (Zv (key:=r2) H rfl rfl VL rfl ?_);rw[hkM'];replace H:=Js [10,0,0,0,0,0,0,0,0,0,0] 0 H;replace H:Q0 w (Qs b1' M::star ((m1++m2).map VX)::_):=(Q0.pick (R:=VX) (x:=(r2,b1',M)) hmns).1 H;refine Jc rfl rfl (F8 b1' M (by omega) H) ?_;clear H;rintro v w ⟨bv,av,cv,rfl,H⟩;replace H:=Js [2,2,0,0] 0 H;replace H:=(Q0.pick (R:=VX) (x:=(r2,b1',M)) hmns).2 H;replace H:=Js [3,3,3,3,3,3,3,3,3,3,0,0,0] 0 H;replace H:=VV (s:={ s with rem:=R' }) hw hm H;refine Q6 ?_;replace H:=Js [0,3,0,0,0,0] 0 H;refine J7 H ?_;refine Qm (fun ms' σ w=>∃ (D2:Nat) (R2:List (Rf×Int)),ms'=D2::ms∧ZA s R0 (D++M.flatMap (Wd s)) R2∧σ 2=pp b2∧σ 7 = .slice (some ⟨bT,0,none⟩) ids.length c∧σ 8 = .int .i64 ids.length∧σ 9 = .int .i64 i∧Q0 w (QU p { s with rem:=R2 }::pts b2 (row 45 [pp p])::pts D2 (.deferred (some []))::IL (.slice (some ⟨bT,0,none⟩) ids.length c) ids::mk ms::fr)) ?_ ?_
   ·refine QS (Kt (a:=[]) (b:=[pp bv]) H rfl (fun yl D2 w H=>?_));generalize hL:LR _ yl _ _ _ _ D2 .ready=LRR at H ⊢;obtain⟨J,hJ⟩:∃ J:List Nat→Q2,J=fun ks=>ex fun R1:List (Rf×Int)=>star [prop (ZA s R0 (D++ks.flatMap (Wd s)) R1),LRR,QU p { s with rem:=R1 },pts b2 (row 45 [pp p])]:=⟨_,rfl⟩
    have hin:∀ (ks:List Nat) (R1:List (Rf×Int)) (w:World) (l':List Q2),ZA s R0 (D++ks.flatMap (Wd s)) R1→Q0 w (LRR::QU p { s with rem:=R1 }::pts b2 (row 45 [pp p])::l')→Q0 w (J ks::l'):=by
     intro ks R1 w l' h H;rw[hJ];exact Q0.ex.2 ⟨R1,Q0.star.2 (Q0.prop.2 ⟨h,H⟩)⟩
    have hout:∀ (ks:List Nat) (w:World) (l':List Q2),Q0 w (J ks::l')→∃ R1,ZA s R0 (D++ks.flatMap (Wd s)) R1∧Q0 w (LRR::QU p { s with rem:=R1 }::pts b2 (row 45 [pp p])::l'):=by
     intro ks w l' H;rw[hJ] at H;obtain⟨R1,H⟩:=Q0.ex.1 H;exact⟨R1,Q0.prop.1 (Q0.star.1 H)⟩
    replace H:=Js [0,1,1,1,1,0,0,0] 0 H;replace H:=hin [] R' _ _ (by rw[flatMap_nil,append_nil];exact hN) H;refine call (F9 yl bv av cv M (by omega) J ?_ H) ?_
    ·clear H;intro ks k tt rest w hpre H;obtain⟨R1,hN1,H⟩:=hout _ _ _ H;obtain⟨g,e,hk,_⟩:=(hMm.2 k).1 (by rw[hpre];simp);subst hL;refine Ks (args:=[.int .i64 k]) H rfl rfl ?_;refine VJ H ?_;refine⟨rfl,_,H,fun w H=>QS ?_⟩;generalize hLB:LR _ yl _ _ _ _ D2 .busy=LB at H ⊢;replace H:=Js [1,0] 0 H;refine Xh H ?_;refine Jc rfl rfl (fM p s R0 R1 _ hN1 k g e hk H) ?_;clear H;rintro v w ⟨rfl,R2,hN2,H⟩;refine Q6 ?_;subst hLB;replace H:=Js [1,0,0] 0 H;refine⟨rfl,_,H,fun w H=>⟨rfl,hin _ _ _ _ ?_ H⟩⟩;rw[flatMap_append,flatMap_cons,flatMap_nil,append_nil,Ix hk,← append_assoc];exact hN2
    ·clear H;rintro v w H;obtain⟨R1,hN1,H⟩:=hout _ _ _ H;subst hL;refine⟨_,H,fun w H=>?_⟩;replace H:=Js [0,0,2,2,2] 2 H;exact⟨rfl,D2,R1,rfl,hN1,rfl,rfl,rfl,rfl,H⟩
   clear H;rintro ms' σ w ⟨D2,R2,rfl,hN2,g2,g7,g8,g9,H⟩;rw[Q1 g2,Q1 g7,Q1 g8,Q1 g9];refine J3 H ?_;replace H:=Js [2,3,2,0,0] 0 H;replace H:=fN H;replace H:=Js [1,1,1,0] 0 H;exact⟨_,⟨i+1,_,R2,hlt,rfl,by rw[htk];exact hD.step hMm.2,hN2,rfl,rfl,rfl,Qa (by omega),H⟩,by omega⟩
  ·have hge:i=ids.length:=by omega
   subst hge;rw[take_length] at hD;replace H:=Js [3,1] 2 H;exact⟨rfl,D,R',hD,hN,H⟩
 clear H;rintro ms σ w ⟨D,R',hD,hN,H⟩;exact Rj (ms:=ms) _ (.inl rfl) H rfl fun w' H'=>⟨rfl,D,R',hD,hN,H'⟩
theorem Ob {V:Type} {l:List (Int×Nat×V)} (hnd:(l.map fun z=>z.1).Nodup) {x y:Int} (hx:x∈l.map fun z=>z.1) (hy:y∈l.map fun z=>z.1) (hne:y≠x) :
  ∃ (bx:Nat) (X:V) (a1 a2:List (Int×Nat×V)) (bY:Nat) (Y:V) (c1 c2:List (Int×Nat×V)),l=a1++(x,bx,X)::a2∧a1++a2=c1++(y,bY,Y)::c2∧Q8 (l.map fun z=>(z.1,z.2.1)) x=some bx∧Q8 (l.map fun z=>(z.1,z.2.1)) y=some bY:=by
 obtain⟨⟨x',bx,X⟩,h1,h2⟩:=mem_map.1 hx;have h2:x'=x:=h2;subst h2;obtain⟨a1,a2,h3⟩:=append_of_mem h1;obtain⟨⟨y',bY,Y⟩,h4,h5⟩:=mem_map.1 hy;have h5:y'=y:=h5;subst h5
 have h6:(y',bY,Y)∈a1++a2:=by
  rw[h3] at h4
  rcases Zz h4 with h7|h7
  ·injection h7 with h7 _
   exact absurd h7 hne
  ·exact h7
 obtain⟨c1,c2,h7⟩:=append_of_mem h6;have hnd2:((l.map fun z=>(z.1,z.2.1)).map (·.1)).Nodup:=by rw[map_map];exact hnd
 exact⟨bx,X,a1,a2,bY,Y,c1,c2,h3,h7,(Y4 hnd2).2 (mem_map.2 ⟨_,h1,rfl⟩),(Y4 hnd2).2 (mem_map.2 ⟨_,h4,rfl⟩)⟩
def Ub (id q:Int) (ts:List QF) (ks:List Nat):List QF:=ts.mapIdx fun k t=>if k∈ks then Zq id q t else t
theorem Co (id q:Int) (ts:List QF) (ks:List Nat) (k:Nat):(Ub id q ts ks)[k]? = (ts[k]?).map fun t=>if k∈ks then Zq id q t else t:=getElem?_mapIdx
theorem fO (id q:Int) (ts:List QF):Ub id q ts []=ts:=by
 apply ext_getElem?;intro i;rw[Co];cases ts[i]? <;> simp
theorem fP {id q:Int} {ts:List QF} {ks:List Nat} {k g:Nat} {e:QQ} (hk:ts[k]? = some ⟨g,some e⟩) (hr:e.region=id):(Ub id q ts ks).set k ⟨g,some { e with region:=q,addr:=e.addr }⟩=Ub id q ts (ks++[k]):=by
 have hkl:=(List.getElem?_eq_some_iff.1 hk).1;apply ext_getElem?;intro i;rw[getElem?_set,Co,Co];by_cases h:k=i
 ·subst h;rw[if_pos rfl,if_pos (by unfold Ub;rw[length_mapIdx];exact hkl),hk];simp only[Option.map_some];rw[if_pos (mem_append.2 (.inr (by simp)))];unfold Zq Yf;simp only[Option.map_some];rw[if_pos hr]
 ·rw[if_neg h];cases ts[i]? with
  | none=>rfl
  | some t=>
   have h2:i∈ks++[k]↔i∈ks:=by
    rw[mem_append,mem_singleton];exact⟨fun h4=>h4.elim (fun h=>h) fun h5=>absurd h5.symm h,.inl⟩
   simp only[Option.map_some,h2]
theorem fS {id q:Int} {ts:List QF} {M:List Nat} (hM:∀ i,i∈M↔∃ g e,ts[i]? = some ⟨g,some e⟩∧e.region=id):Ub id q ts M=ts.map (Zq id q):=by
 apply ext_getElem?;intro i;rw[Co,getElem?_map];cases ht:ts[i]? with
 | none=>rfl
 | some t=>
  simp only[Option.map_some];by_cases h:i∈M
  ·rw[if_pos h]
  ·rw[if_neg h];obtain⟨g,e0⟩:=t;cases e0 with
   | none=>rfl
   | some e=>
    have hne:e.region≠id:=fun h1=>h ((hM i).2 ⟨g,e,ht,h1⟩);unfold Zq Yf;simp only[Option.map_some];rw[if_neg hne]
set_option maxRecDepth 10000 in
theorem Oc [Q4] (p:Nat) (s:CS) (region q:Int) (hid:Q8 s.par region=some q) (hT:Y3 s.par) {w:World} {fr:List Q2} (H:Q0 w (QU p s::fr)) :
  Calls Tryz.prog 14 #[pp p,.int .i64 region] w (ret fun v w'=>(q=0∧v = .tuple #[.int .i64 0,.int .i64 16]∧Q0 w' (QU p s::fr))∨(q≠0∧v = .tuple #[.int .i64 q,.int .i64 0]∧∃ s',WM s region q s'∧Q0 w' (QU p s'::fr))):=by
 obtain⟨u,mem,hw,hm,H⟩:=Vv H;obtain⟨hq1,hq2,hq3⟩:=hT.up _ _ hid;refine QV Tryz.func14 rfl (by kernel_rfl) ?_;refine ZF H ?_;clear H;intro b2 w H;refine J2 H ?_;replace H:=Js [6,1,0,0,0,0,0] 0 H;refine Xh H ?_;refine Jc rfl rfl (FK p u s.last s.par region H) ?_;clear H;rintro v w ⟨rfl,H⟩;rw[hid];refine Yp H ?_;refine Xj H ?_;refine Jc rfl rfl (dI u.trp s.last s.par region hT.nd (by have:=hw.par.1;omega) H) ?_;clear H;rintro v w (⟨h1,_,_⟩|⟨h1,rfl,H⟩|⟨q',par',h1,hq0,hP,rfl,H⟩)
 ·rw[hid] at h1;cases h1
 ·rw[hid] at h1;injection h1 with h1
  refine Vj H ?_;clear H;intro b7 w H;refine HA H ?_;clear H;intro w H;refine WG H ?_;replace H:=Js [2,3,3,3,3,1,2,2,2,2,2] 2 H;exact Q3 (Jy H rfl fun w' H' => .inl ⟨h1,rfl,VV hw hm H'⟩)
 rw[hid] at h1;injection h1 with h1
 subst h1;refine Vj H ?_;clear H;intro b7 w H;refine HA H ?_;clear H;intro w H;refine Yp H ?_;replace H:Q0 w (pts b7 (row 3 [.int .i64 q])::_):=H;have hrk:region∈s.par.map (·.1):=WC (by rw[hid];rfl);have hqk:q∈s.par.map (·.1):=WC (hq3.resolve_left hq0);have hne:q≠region:=by omega
 obtain⟨bi,T,a1,a2,bq,S,c1,c2,hs1,hs2,hkS1,hkS2⟩:=Ob (l:=s.sps) (by rw[hw.skeys];exact hT.nd) (x:=region) (y:=q) (by rw[hw.skeys];exact hrk) (by rw[hw.skeys];exact hqk) hne;obtain⟨gi,M,d1,d2,gq,N,e1,e2,hm1,hm2,hkM1,hkM2⟩:=Ob (l:=s.mns) (by rw[hw.mkeys];exact hT.nd) (x:=region) (y:=q) (by rw[hw.mkeys];exact hrk) (by rw[hw.mkeys];exact hqk) hne;have hkS1':Q8 (s.sps.map VN) region=some bi:=hkS1;have hkS2':Q8 (s.sps.map VN) q=some bq:=hkS2;have hkM1':Q8 (s.mns.map V2) region=some gi:=hkM1;have hkM2':Q8 (s.mns.map V2) q=some gq:=hkM2
 have hSm:(q,bq,S)∈s.sps:=by
  have h1:(q,bq,S)∈a1++a2:=by rw[hs2];simp
  rw[hs1];exact Us h1
 have hNm:(q,gq,N)∈s.mns:=by
  have h1:(q,gq,N)∈d1++d2:=by rw[hm2];simp
  rw[hm1];exact Us h1
 obtain⟨t1,t2,t3,t4,t5,t6⟩:=Aj hw (x:=(region,bi,T)) (by rw[hs1];simp);obtain⟨s1,_,_,_,_,_⟩:=Aj hw hSm;have t1:T.parts.length≤63:=t1;have s1:S.parts.length≤63:=s1;have hMm:=hw.mine (region,gi,M) (by rw[hm1];simp);have hNn:=hw.mine _ hNm
 have hbl:∀ L:List Nat,L.Pairwise (· < ·)→(∀ y∈L,y < s.tab.length)→L.length≤64:=fun L h1 h2=>by
  have:=RH L 0 64 (fun y hy=>⟨Nat.zero_le _,by have:=h2 y hy;have:=hw.slots.2;omega⟩) h1;omega
 have hMt:∀ y∈M,y < s.tab.length:=fun y hy=>by
  obtain⟨g,f,h3,_⟩:=(hMm.2 y).1 hy;exact(List.getElem?_eq_some_iff.1 h3).1
 have hNt:∀ y∈N,y < s.tab.length:=fun y hy=>by
  obtain⟨g,f,h3,_⟩:=(hNn.2 y).1 hy;exact(List.getElem?_eq_some_iff.1 h3).1
 replace H:=Js [10,6,0,1,1,1,1,1,1,1,1,1,0] 0 H;replace H:Q0 w (Ql bi u.sp region.toNat T::star ((a1++a2).map (VO u.sp))::_):=(Q0.pick (R:=VO u.sp) (x:=(region,bi,T)) hs1).1 H;replace H:=Js [1,0] 0 H;replace H:Q0 w (Ql bq u.sp q.toNat S::star ((c1++c2).map (VO u.sp))::_):=(Q0.pick (R:=VO u.sp) (x:=(q,bq,S)) hs2).1 H;replace H:=Js [0,1,1,0] 0 H;refine J1 H ?_;clear H;intro w H;refine Jl 0 [12] H ?_;refine X9 H ?_;refine Jl 3 [12] H ?_;refine Jl 4 [12] H ?_;refine XM 5 [12] (key:=q) H rfl (Q9.none rfl) rfl rfl VL (by kernel_rfl) ?_;rw[hkS2'];refine Jl 6 [12] H ?_;refine Ja 7 ?_;refine Jf 8 ?_;refine Jl 9 [12] H ?_;refine Ja 10 ?_;refine XM 11 [12] (key:=region) H rfl (Q9.none rfl) rfl rfl VL (by kernel_rfl) ?_;rw[hkS1'];have hJ:=Nk bq bi u.sp q.toNat region.toNat S T s.size mem s.own (by omega) (by omega) (by omega) hw.own.2 t2 t5 H;refine Jo 12 H ?_;refine Jk rfl rfl (hJ) ?_;clear H hJ;rintro v w ⟨rfl,own',hol,hog,H⟩;refine Jx H ?_;replace H:=Js [13,0,0,0,0,0,0,0,0,0,0,0,0,0] 0 H;replace H:Q0 w (Qs gi M::star ((d1++d2).map VX)::_):=(Q0.pick (R:=VX) (x:=(region,gi,M)) hm1).1 H;replace H:=Js [1,0] 0 H;replace H:Q0 w (Qs gq N::star ((e1++e2).map VX)::_):=(Q0.pick (R:=VX) (x:=(q,gq,N)) hm2).1 H;replace H:=Js [2,0,0] 0 H;have hMlen:=hbl M hMm.1 hMt;refine Xj H ?_;refine Q5 rfl (Zv (key:=region) H rfl rfl VL rfl ?_);rw[hkM1'];refine Jc rfl rfl (F8 gi M (by omega) H) ?_;clear H;rintro v w ⟨bv,av,cv,rfl,H⟩;refine BO H ?_
 refine Qm (fun ms σ w=>∃ (D2:Nat) (N':List Nat),ms=[D2]∧N'.Pairwise (· < ·)∧(∀ j,j∈N'↔j∈M∨j∈N)∧σ 1 = .int .i64 region∧σ 2=pp b2∧σ 7=pp b7 ∧
  Q0 w (Qk u.tp (Ub region q s.tab M)::V5 p u::mp (ki .i64) Qr u.mm (s.mns.map V2)::Qs gq N'::pts b2 (row 45 [pp p])::pts b7 (row 3 [.int .i64 q])::star ((e1++e2).map VX)::Ql bq u.sp q.toNat (Z6 S T)::ST u.sp s.size mem own'::star ((c1++c2).map (VO u.sp))::Qv u.ip u.sp u.bp::Qo u.bp s.lays::RS u.rp s.rem::mp (ki .i64) Qr u.sm (s.sps.map VN)::Qe u.trp s.last par'::pts D2 (.deferred (some []))::fr)) ?_ ?_
 ·refine QS (Kt (a:=[]) (b:=[pp bv]) H rfl (fun yl D2 w H=>?_));generalize hL:LR _ yl _ _ _ _ D2 .ready=LRR at H ⊢;obtain⟨J,hJ⟩:∃ J:List Nat→Q2,J=fun ks=>ex fun y:List Nat×List Nat=>star [prop (y.1.Pairwise (· < ·)∧y.1.length≤1000∧y.2.Pairwise (· < ·)∧∀ j,j∈y.2↔j∈ks∨j∈N),LRR,Qk u.tp (Ub region q s.tab ks),V5 p u,mp (ki .i64) Qr u.mm (s.mns.map V2),Qs gi y.1,Qs gq y.2,pts b2 (row 45 [pp p]),pts b7 (row 3 [.int .i64 q])]:=⟨_,rfl⟩
  have hin:∀ (ks M1 N1:List Nat) (w:World) (l':List Q2),(M1.Pairwise (· < ·)∧M1.length≤1000∧N1.Pairwise (· < ·)∧∀ j,j∈N1↔j∈ks∨j∈N)→Q0 w (LRR::Qk u.tp (Ub region q s.tab ks)::V5 p u::mp (ki .i64) Qr u.mm (s.mns.map V2)::Qs gi M1::Qs gq N1::pts b2 (row 45 [pp p])::pts b7 (row 3 [.int .i64 q])::l')→Q0 w (J ks::l'):=by
   intro ks M1 N1 w l' h H;rw[hJ];exact Q0.ex.2 ⟨(M1,N1),Q0.star.2 (Q0.prop.2 ⟨h,H⟩)⟩
  have hout:∀ (ks:List Nat) (w:World) (l':List Q2),Q0 w (J ks::l')→∃ M1 N1,(M1.Pairwise (· < ·)∧M1.length≤1000∧N1.Pairwise (· < ·)∧∀ j,j∈N1↔j∈ks∨j∈N)∧Q0 w (LRR::Qk u.tp (Ub region q s.tab ks)::V5 p u::mp (ki .i64) Qr u.mm (s.mns.map V2)::Qs gi M1::Qs gq N1::pts b2 (row 45 [pp p])::pts b7 (row 3 [.int .i64 q])::l'):=by
   intro ks w l' H;rw[hJ] at H;obtain⟨⟨M1,N1⟩,H⟩:=Q0.ex.1 H;exact⟨M1,N1,Q0.prop.1 (Q0.star.1 H)⟩
  replace H:=Js [0,15,11,16,3,3,9,8,1,1,1,1,1,1,1,1,1,1,1,1,0] 0 H;rw[← fO region q s.tab] at H;replace H:=hin [] M N _ _ ⟨hMm.1,by omega,hNn.1,fun j=>by simp⟩ H;refine call (F9 yl bv av cv M (by omega) J ?_ H) ?_
  ·clear H;intro ks k tt rest w hpre H;obtain⟨M1,N1,⟨hM1,hM2,hN1,hN2⟩,H⟩:=hout _ _ _ H;subst hL;have hkM:k∈M:=by rw[hpre];simp
   have hkn:k∉ks:=fun h=>by
    have h1:=hMm.1;rw[hpre,pairwise_append] at h1;have:=h1.2.2 k h k mem_cons_self;omega
   obtain⟨g,e,hk,her⟩:=(hMm.2 k).1 hkM;have her:e.region=region:=her
   have hk':(Ub region q s.tab ks)[k]? = some ⟨g,some e⟩:=by
    rw[Co,hk];simp only[Option.map_some];rw[if_neg hkn]
   have hkN:k∉N1:=fun h=>by
    rcases (hN2 k).1 h with h|h
    ·exact hkn h
    ·obtain⟨g',e',h1,h2⟩:=(hNn.2 k).1 h;rw[hk] at h1;injection h1 with h1
     injection h1 with _ h1
     injection h1 with h1
     subst h1;have h2:e.region=q:=h2;omega
   have hN1l:N1.length≤64:=hbl N1 hN1 fun y hy=>by
    rcases (hN2 y).1 hy with h|h
    ·exact hMt y (by rw[hpre];exact mem_append.2 (.inl h))
    ·exact hNt y h
   refine Ks (args:=[.int .i64 k]) H rfl rfl ?_;refine VJ H ?_;refine⟨rfl,_,H,fun w H=>QS ?_⟩;generalize hLB:LR _ yl _ _ _ _ D2 .busy=LB at H ⊢;replace H:=Js [1,1,0] 0 H;refine Xh H ?_;refine Jc rfl rfl (IY p u (Ub region q s.tab ks) k g e hk' H) ?_;clear H;rintro v w ⟨rfl,H⟩;refine Vj H ?_;clear H;intro b10 w H;refine VQ H ?_;clear H;intro b11 w H;refine J4 H ?_;clear H;intro w H;refine J4 H ?_;clear H;intro w H;refine Q6 ?_;refine Xh H ?_;refine KY H ?_;refine Gg H ?_;replace H:=Js [2,2,3,3,3,2,2,2,0,0] 0 H;refine Jc rfl rfl (OT p u (Ub region q s.tab ks) (s.mns.map V2) k g e hk' q e.addr gi gq M1 N1 (by rw[her];exact hkM1') hkM2' hM1 hM2 hN1 (by omega) hkN H) ?_;clear H;rintro v w ⟨rfl,H⟩;rw[fP hk her] at H;refine Q6 ?_;subst hLB;replace H:=Js [5,0,0,0,0,0,0,0] 2 H;refine⟨rfl,_,H,fun w H=>⟨rfl,hin _ _ _ _ _ ⟨hM1.filter _,Nat.le_trans (length_filter_le _ _) hM2,F5 hN1 hkN,fun j=>?_⟩ H⟩⟩;rw[F4,hN2,mem_append,mem_singleton];constructor
   ·rintro(h|h|h)
    ·exact .inl (.inr h)
    ·exact .inl (.inl h)
    ·exact .inr h
   ·rintro((h|h)|h)
    ·exact .inr (.inl h)
    ·exact .inl h
    ·exact .inr (.inr h)
  ·clear H;rintro v w H;obtain⟨M1,N1,⟨hM1,hM2,hN1,hN2⟩,H⟩:=hout _ _ _ H;subst hL;refine⟨_,H,fun w H=>?_⟩;replace H:=Js [0,0,0,1,1,1,3,3,4,4,4,4,4,4,4,4] 4 H;exact⟨rfl,D2,N1,rfl,hN1,hN2,rfl,rfl,rfl,H⟩
 clear H;rintro ms σ w ⟨D2,N',rfl,hN1,hN2,g1,g2,g7,H⟩;rw[Q1 g1,Q1 g2,Q1 g7];rw[fS hMm.2] at H;refine Xj H ?_;refine Q5 rfl (XL (key:=region) H rfl rfl VL rfl ?_);clear H;intro w H;refine Q6 ?_;refine Xj H ?_;refine Q5 rfl (XL (key:=region) H rfl rfl VL rfl ?_);clear H;intro w H;refine Q6 ?_
 have hkeyS:QB (s.sps.map VN) region=(c1++(q,bq,Z6 S T)::c2).map VN:=by
  have h1:((s.sps.map VN).map (·.1)).Nodup:=by rw[map_map];show (s.sps.map fun z=>z.1).Nodup;rw[hw.skeys];exact hT.nd
  rw[hs1,map_append,map_cons] at h1 ⊢;rw[WX (p:=(region,bi)) h1,← map_append,hs2,map_append,map_append,map_cons,map_cons]
 have hkeyM:QB (s.mns.map V2) region=(e1++(q,gq,N')::e2).map V2:=by
  have h1:((s.mns.map V2).map (·.1)).Nodup:=by rw[map_map];show (s.mns.map fun z=>z.1).Nodup;rw[hw.mkeys];exact hT.nd
  rw[hm1,map_append,map_cons] at h1 ⊢;rw[WX (p:=(region,gi)) h1,← map_append,hm2,map_append,map_append,map_cons,map_cons]
 rw[hkeyS,hkeyM] at H;replace H:=Js [7,8,0,0,0,0,0,0,0,0,0,0,0,0,0,0] 0 H;replace H:=(Q0.pick (R:=VO u.sp) (x:=(q,bq,Z6 S T)) (gs:=c1++(q,bq,Z6 S T)::c2) (g1:=c1) (g2:=c2) rfl).2 H;replace H:=Js [4,6,0,0,0,0,0,0,0,0,0,0,0,0,0] 0 H;replace H:=(Q0.pick (R:=VX) (x:=(q,gq,N')) (gs:=e1++(q,gq,N')::e2) (g1:=e1) (g2:=e2) rfl).2 H;have hwf:=dJ hw hT.nd hne.symm hP hs1 hs2 hm1 hm2 hol hog hN1 hN2 s.rem;have hmem:VM { s with own:=own',tab:=s.tab.map (Zq region q),par:=par',rem:=s.rem,sps:=c1++(q,bq,Z6 S T)::c2,mns:=e1++(q,gq,N')::e2 } mem:=dL hm hol rfl rfl;have hpart:Vp s→Vp { s with own:=own',tab:=s.tab.map (Zq region q),par:=par',rem:=s.rem,sps:=c1++(q,bq,Z6 S T)::c2,mns:=e1++(q,gq,N')::e2 }:=fun h=>dM h (by rw[hw.skeys];exact hT.nd) hs1 hs2 rfl rfl rfl;have hnd:=Ah (H.pull 10);replace H:=Js [3,7,7,6,2,7,5,5,1,1,0,0,0,0] 0 H;replace H:=VV hwf hmem H;refine C0 H ?_;refine GX H ?_;clear H;intro bS w H;replace H:Q0 w (pts bS (row 3 (Qc [q]++[]))::_):=H;replace H:=ZZ (E:=3) (k:=1) (len:=1) (cap:=1) (c:=Qc [q]) (spare:=[]) rfl ⟨by decide,by decide⟩ (by decide) H;have hrec:=Oa p { s with own:=own',tab:=s.tab.map (Zq region q),par:=par',rem:=s.rem,sps:=c1++(q,bq,Z6 S T)::c2,mns:=e1++(q,gq,N')::e2 } s.rem hnd _ [q] (fun x hx=>by rw[mem_singleton] at hx;subst hx;simp) (by simp) H;refine Jc rfl rfl (hrec) ?_;clear H hrec;rintro v w ⟨rfl,D,R',hD,hN,H⟩;refine Q6 ?_;refine Gx H ?_;refine J2 H ?_;replace H:=Js [3,0] 2 H;refine Q3 (Rj (ms:=[D2]) _ (.inr rfl) ((Q0.star (k:=[pts D2 (.deferred (some []))])).2 H) rfl fun w' H' => .inr ⟨hq0,rfl,{ s with own:=own',tab:=s.tab.map (Zq region q),par:=par',rem:=R',sps:=c1++(q,bq,Z6 S T)::c2,mns:=e1++(q,gq,N')::e2 },⟨rfl,hol,rfl,rfl,hP,rfl,⟨D,fun r=>?_,⟨hN.nd,hN.on,hN.off⟩⟩,hpart⟩,H'⟩);rw[hD r];constructor
 ·rintro⟨k,g,e,h1,h2,h3⟩;exact⟨k,g,e,⟨g,e,h1,mem_singleton.1 h2⟩,h1,h3⟩
 ·rintro⟨k,g,e,⟨g',e',h1,h2⟩,h3,h4⟩;refine⟨k,g,e,h3,?_,h4⟩;have h1:=h1.symm.trans h3;injection h1 with h1
  injection h1 with _ h1
  injection h1 with h1
  rw[← h1,h2];exact mem_singleton.2 rfl
end Go.Proofs.YtbnnnljagkjpiaaGreatDoor
