/- Cells: what is proved on the way: every input of the statement; no condition. Texts joined: JoiQ MdlP ModF ModG ModH ModI ModJ ActA ChkQ. -/
import Derived.Test.YtmjdnljneifpcaaGreatDoorBdn
import Derived.Test.YtmjdnljneifpcaaGreatDoorBdi
import Derived.Test.YtmjdnljneifpcaaGreatDoorBdj
import Derived.Test.YtmjdnljneifpcaaGreatDoorBdd
import Derived.Test.YtmjdnljneifpcaaGreatDoorBdl
set_option linter.unusedVariables false
set_option linter.unusedSimpArgs false
set_option linter.unusedSectionVars false
namespace Go.Proofs.YtmjdnljneifpcaaGreatDoor
open Go.SL
def Y7 (objs:List QI) (k t:Nat):Bool:=k == 2 && ((objs[t]?).map QI.gone).getD false
def ZL (objs:List QI) (x:QI):QI:={ x with kind:=(x.kind.zip x.to).map (fun y=>if Y7 objs y.1 y.2=true then 1 else y.1),to:=(x.kind.zip x.to).map (fun y=>if Y7 objs y.1 y.2=true then 0 else y.2) }
def Qa (L:List Nat) (x:QI):QI:=if x.region∈L then { x with gone:=true } else x
def Xu (m:MS) (L:List Nat):MS:={ m with P:=Vn m.P L,objs:=(m.objs.map (Qa L)).map (ZL (m.objs.map (Qa L))) }
theorem IT {objs:List QI} {x:QI} (h:x.kind.length=x.to.length) {p:Nat} (hp:p < x.kind.length):(ZL objs x).kind.getD p 0=(if Y7 objs (x.kind.getD p 0) (x.to.getD p 0)=true then 1 else x.kind.getD p 0)∧(ZL objs x).to.getD p 0=(if Y7 objs (x.kind.getD p 0) (x.to.getD p 0)=true then 0 else x.to.getD p 0):=by
 have h1:=List.getElem?_eq_getElem hp;have h2:=List.getElem?_eq_getElem (show p < x.to.length by omega);have hz:(x.kind.zip x.to)[p]? = some (x.kind[p],x.to[p]'(by omega)):=List.getElem?_zip_eq_some.2 ⟨h1,h2⟩;unfold ZL;simp only[List.getD_eq_getElem?_getD,List.getElem?_map,hz,h1,h2,Option.map_some,Option.getD_some];exact⟨trivial,trivial⟩
theorem Ia {L:List Nat} {x:QI}:(Qa L x).gone=true↔x.gone=true∨x.region∈L:=by
 unfold Qa;by_cases h:x.region∈L
 ·rw[if_pos h];exact⟨fun _ => .inr h,fun _=>rfl⟩
 ·rw[if_neg h];exact⟨.inl,fun h1=>h1.elim id fun h2=>absurd h2 h⟩
theorem fA (L:List Nat) (x:QI):(Qa L x).region=x.region∧(Qa L x).lay=x.lay∧(Qa L x).count=x.count∧(Qa L x).held=x.held∧(Qa L x).pinned=x.pinned∧(Qa L x).w=x.w∧(Qa L x).kind=x.kind∧(Qa L x).to=x.to:=by
 unfold Qa;split <;> exact⟨rfl,rfl,rfl,rfl,rfl,rfl,rfl,rfl⟩
theorem Ib {m:MS} {L:List Nat} {o:Nat} {x':QI} (h:(Xu m L).objs[o]? = some x'):∃ x,m.objs[o]? = some x∧x'=ZL (m.objs.map (Qa L)) (Qa L x):=by
 have h:((m.objs.map (Qa L)).map (ZL (m.objs.map (Qa L))))[o]? = some x':=h;rw[List.getElem?_map,List.getElem?_map] at h;cases hx:m.objs[o]? with
 | none=>rw[hx] at h;cases h
 | some x=>
  rw[hx] at h;injection h with h
  exact⟨x,rfl,h.symm⟩
theorem Ic {m:MS} {L:List Nat} {k t:Nat}:Y7 (m.objs.map (Qa L)) k t=true↔k=2∧∃ x,m.objs[t]? = some x∧(x.gone=true∨x.region∈L):=by
 unfold Y7;rw[Bool.and_eq_true,beq_iff_eq,List.getElem?_map];refine and_congr_right fun _=>?_;cases hx:m.objs[t]? with
 | none=>exact⟨fun h=>(by cases h),fun ⟨x,h,_⟩=>(by cases h)⟩
 | some x=>
  show (Qa L x).gone=true↔_;rw[Ia];exact⟨fun h=>⟨x,rfl,h⟩,fun ⟨y,h1,h2⟩=>(by injection h1 with h1;subst h1;exact h2)⟩
theorem fB {m:MS} (h:V4 m) (L:List Nat):V4 (Xu m L):=by
 refine⟨?_,h.lays,fun x' hx'=>?_,?_⟩
 ·show 1≤(Vn m.P L).length∧(Vn m.P L).length≤_;unfold Vn;rw[List.length_mapIdx];exact h.P
 ·obtain⟨o,ho⟩:=List.getElem?_of_mem hx';obtain⟨x,hx,rfl⟩:=Ib ho;obtain⟨a,b,c,d,e⟩:=h.objs x (List.mem_of_getElem? hx);obtain⟨s1,s2,s3,s4,s5,s6,s7,s8⟩:=fA L x;have hl:(Xu m L).objs.length=m.objs.length:=by show (((m.objs.map (Qa L)).map (ZL _))).length=_;rw[List.length_map,List.length_map]
  refine⟨?_,?_,?_,?_,fun p hp=>?_⟩
  ·show ∃ l,m.lays[(Qa L x).lay - 1]? = some l∧VO l∧V6 l (Qa L x).count=((Qa L x).w.length,0);rw[s2,s3,s6];exact a
  ·show 1≤(Qa L x).lay;rw[s2];exact b
  ·show (List.map _ ((Qa L x).kind.zip (Qa L x).to)).length=(Qa L x).w.length;rw[List.length_map,List.length_zip,s6,s7,s8,c,d,Nat.min_self]
  ·show (List.map _ ((Qa L x).kind.zip (Qa L x).to)).length=(Qa L x).w.length;rw[List.length_map,List.length_zip,s6,s7,s8,c,d,Nat.min_self]
  ·rw[hl]
   have hp':p < (Qa L x).kind.length:=by
    have:=(List.getElem?_eq_some_iff.1 hp).1
    have h2:(ZL (m.objs.map (Qa L)) (Qa L x)).kind.length=(Qa L x).kind.length:=by
     show (List.map _ ((Qa L x).kind.zip (Qa L x).to)).length=_;rw[List.length_map,List.length_zip,s7,s8,c,d,Nat.min_self]
    omega
   obtain⟨g1,g2⟩:=IT (objs:=m.objs.map (Qa L)) (x:=Qa L x) (by rw[s7,s8,c,d]) hp';rw[g2];have hp2:(ZL (m.objs.map (Qa L)) (Qa L x)).kind.getD p 0=2:=by rw[List.getD_eq_getElem?_getD,hp];rfl
   rw[g1] at hp2;split at hp2
   ·cases hp2
   ·rename_i hh;rw[if_neg hh,s8];rw[s7] at hp2 hp';refine e p ?_;rw[List.getElem?_eq_getElem hp'];rw[List.getD_eq_getElem?_getD,List.getElem?_eq_getElem hp'] at hp2;rw[← hp2];rfl
 ·show ((m.objs.map (Qa L)).map (ZL _)).length≤_;rw[List.length_map,List.length_map];exact h.few
theorem OO (P:List Int) (L:List Nat) (k:Nat):(Vn P L)[k]? = (P[k]?).map fun q=>if k∈L then -1 else q:=by
 unfold Vn;rw[List.getElem?_mapIdx]
theorem Al:∀ (ks:List Int) {m:List (Int×Int)},(m.map (·.1)).Nodup→∀ r,QZ (ks.foldl QB m) r=if r∈ks then none else QZ m r
 | [],m,h,r=>by rw[if_neg (by simp)];rfl
 | k::ks,m,h,r=>by
  show QZ (ks.foldl QB (QB m k)) r=_;rw[Al ks (Uu h),XF h];by_cases h1:r∈ks
  ·rw[if_pos h1,if_pos (List.mem_cons_of_mem _ h1)]
  ·rw[if_neg h1];by_cases h2:k=r
   ·subst h2;rw[if_pos rfl,if_pos List.mem_cons_self]
   ·rw[if_neg h2,if_neg];intro h3
    rcases List.mem_cons.1 h3 with h3|h3
    ·exact h2 h3.symm
    ·exact h1 h3
structure XA (s:CS) (L:List Int) (G:List Nat) (D:List Rf) (s':CS):Prop where
 size:s'.size=s.size
 own:s'.own.length=s.own.length
 lays:s'.lays=s.lays
 last:s'.last=s.last
 par:s'.par=L.foldl QB s.par
 tabl:s'.tab.length=s.tab.length
 tab:∀ (k:Nat) (t:QH),s.tab[k]? = some t→s'.tab[k]? = some (if k∈G then ⟨t.gen,none⟩ else ⟨t.gen,t.ent.map (VA D k)⟩)
 nd:(s'.rem.map (·.1)).Nodup
 rem:∀ r,QZ s'.rem r=if ∃ k∈G,r.1=((k:Nat):Int) then none else if r∈D then none else QZ s.rem r
 gone:Xt s L G
 cut:WL s G G D
 part:Vt s→Vt s'
 owns:∀ j,s'.own.getD j 0=if ((s.own.getD j 0:Nat):Int)∈L then 0 else s.own.getD j 0
theorem CO.t {s s':CS} {L:List Int} (h:CO s L s'):∃ G D,XA s L G D s':=by
 obtain⟨G,Dl,s1,s2,hG,hC,hD,hN,hE⟩:=h;refine⟨G,Dl,by rw[hE.size,hN.size,hC.size],by rw[hE.own,hN.own,hC.own],by rw[hE.lays,hN.lays,hC.lays],by rw[hE.last,hN.last,hC.last],by rw[hE.par,hN.par,hC.par],by rw[hE.tab,hN.tabl,hC.tabl],fun k t hk=>?_,by rw[hE.rem];exact hN.nd,fun r=>by rw[hE.rem,hN.rem,hC.rem],hG,hD,fun hP k g e' hk=>?_,fun j=>by rw[hE.owns,hN.own,hC.own]⟩
 ·rw[hE.tab,hN.tab k _ (hC.tab k t hk)]
 ·have hlt:k < s.tab.length:=by
   have:=(List.getElem?_eq_some_iff.1 hk).1;rw[hE.tab,hN.tabl,hC.tabl] at this;exact this
  have h1:=List.getElem?_eq_getElem hlt;generalize s.tab[k]=t at h1;rw[hE.tab,hN.tab k _ (hC.tab k t h1)] at hk;split at hk
  ·injection hk with hk
   injection hk with _ hk
   cases hk
  ·rename_i hkG;injection hk with hk
   injection hk with hg he
   obtain⟨tg,te⟩:=t;cases te with
   | none=>cases he
   | some e=>
    injection he with he
    subst he;have hreg:e.region∉L:=fun h=>hkG ((hG.2 k).2 ⟨tg,e,h1,h⟩);obtain⟨x,hx,hx1,y,hy,hy1⟩:=hP k tg e h1;have hsz:s'.size=s.size:=by rw[hE.size,hN.size,hC.size]
    refine⟨x,hE.sps x (by rw[hN.sps,hC.sps];exact hx) (by rw[hx1];exact hreg),hx1,y,hy,?_⟩;rw[hsz];exact hy1.alike rfl (Rd _ _ _)
theorem XA.from {s s':CS} {L:List Int} {G:List Nat} {D:List Rf} (h:XA s L G D s') {k g:Nat} {e':Q9} (hk:s'.tab[k]? = some ⟨g,some e'⟩):k∉G∧∃ e,s.tab[k]? = some ⟨g,some e⟩∧e'=VA D k e:=by
 have hlt:k < s.tab.length:=by
  have:=(List.getElem?_eq_some_iff.1 hk).1;rw[h.tabl] at this;exact this
 have h1:=List.getElem?_eq_getElem hlt;generalize s.tab[k]=t at h1;have h2:=h.tab k t h1;rw[hk] at h2;obtain⟨g0,e0⟩:=t;split at h2
 ·injection h2 with h2
  injection h2 with _ h2
  cases h2
 ·rename_i hG;injection h2 with h2
  injection h2 with h3 h4
  subst h3;cases e0 with
  | none=>cases h4
  | some e=>
   injection h4 with h4
   exact⟨hG,e,h1,h4⟩
theorem F5 {D:List Rf} {k:Nat} {e:Q9} {p:Nat} (hp:p < e.ws.length):(VA D k e).ws.getD p 0=if ((k:Int),(p:Int))∈D then 1 else e.ws.getD p 0:=by
 rw[List.getD_eq_getElem?_getD,IK,List.getD_eq_getElem?_getD,List.getElem?_eq_getElem hp];rfl
theorem OP {D:List Rf} {k:Nat} {e:Q9} {p:Nat} (hp:p < e.ws.length) {a b:Nat} (h:Y9 (VA D k e) p = .obj a b):((k:Int),(p:Int))∉D∧Y9 e p = .obj a b:=by
 unfold Y9 at h ⊢;rw[F5 hp] at h;split at h
 ·cases h
 ·rename_i h1;exact⟨h1,h⟩
theorem Am {ts:List QH} {a b:Nat} {f:Q9} (h:ts[a]? = some ⟨b,some f⟩):Qk ts a b=some (a,f):=Y5.2 ⟨b,rfl,rfl,h⟩
theorem XA.cutIff {s s':CS} {L:List Int} {G:List Nat} {D:List Rf} (h:XA s L G D s') (hI:Inv s) {k g p:Nat} {e:Q9} (hk:s.tab[k]? = some ⟨g,some e⟩) (hG:k∉G) (hp:p < e.ws.length):((k:Int),(p:Int))∈D↔VV (QN s e) p=true∧∃ (a b:Nat) (f:Q9),Y9 e p = .obj a b∧s.tab[a]? = some ⟨b,some f⟩∧f.region∈L:=by
 rw[h.cut];constructor
 ·rintro⟨⟨t,ht,hr⟩,_⟩;obtain⟨k',p',g',e',a,b,f,h1,h2,h3,h4,h5,h6,h7,h8⟩:=(hI.rem _ _).1 hr;injection h1 with h1 h9
  obtain rfl:k=k':=by omega
  obtain rfl:p=p':=by omega
  rw[hk] at h2;injection h2 with h2
  injection h2 with h2 h2'
  subst h2;injection h2' with h2'
  subst h2';obtain⟨_,h10⟩:=GM h6;obtain rfl:t=a:=by omega
  obtain⟨g2,f2,h11,h12⟩:=(h.gone.2 t).1 ht;rw[h10] at h11;injection h11 with h11
  injection h11 with _ h11
  injection h11 with h11
  subst h11;exact⟨h4,t,b,f,h5,h10,h12⟩
 ·rintro⟨h4,a,b,f,h5,h6,h7⟩;refine⟨⟨a,(h.gone.2 a).2 ⟨b,f,h6,h7⟩,(hI.rem _ _).2 ⟨k,p,g,e,a,b,f,rfl,hk,hp,h4,h5,Am h6,fun h8=>?_,rfl⟩⟩,?_⟩
  ·exact hG ((h.gone.2 k).2 ⟨g,e,hk,by rw[← h8];exact h7⟩)
  ·rintro⟨k',h9,h10⟩;have h10:((k:Nat):Int)=((k':Nat):Int):=h10;obtain rfl:k=k':=by omega
   exact hG h9
theorem XA.lay {s s':CS} {L:List Int} {G:List Nat} {D:List Rf} (h:XA s L G D s') (k:Nat) (e:Q9):QN s' (VA D k e)=QN s e:=by
 unfold QN;rw[h.lays];rfl
theorem XA.at {s s':CS} {L:List Int} {G:List Nat} {D:List Rf} (h:XA s L G D s') {k g:Nat} {e:Q9} (hk:s.tab[k]? = some ⟨g,some e⟩) (hG:k∉G):s'.tab[k]? = some ⟨g,some (VA D k e)⟩:=by
 rw[h.tab k _ hk,if_neg hG];rfl
theorem OS {s s':CS} {L:List Int} {G:List Nat} {D:List Rf} (h:XA s L G D s') (hI:Inv s):Inv s':=by
 refine⟨h.nd,fun r t=>?_,fun k g e' p a b hk hp hr hl=>?_⟩
 ·rw[h.rem];constructor
  ·intro hr;split at hr
   ·cases hr
   ·rename_i hn;split at hr
    ·cases hr
    ·rename_i hD;obtain⟨k,p,g,e,a,b,f,rfl,hk,hp,hrf,hl,hlo,hfar,rfl⟩:=(hI.rem _ _).1 hr;have hkG:k∉G:=fun h1=>hn ⟨k,h1,rfl⟩;obtain⟨_,ha⟩:=GM hlo;have haG:a∉G:=fun h1=>hD ((h.cut _).2 ⟨⟨a,h1,hr⟩,fun ⟨k',h2,h3⟩=>hn ⟨k',h2,h3⟩⟩);refine⟨k,p,g,VA D k e,a,b,VA D a f,rfl,h.at hk hkG,by rw[Rd];exact hp,by rw[h.lay];exact hrf,?_,Am (h.at ha haG),hfar,rfl⟩;unfold Y9;rw[F5 hp,if_neg hD];exact hl
  ·rintro⟨k,p,g,e',a,b,f',rfl,hk,hp,hrf,hl,hlo,hfar,rfl⟩;obtain⟨hkG,e,hk0,rfl⟩:=h.from hk;rw[Rd] at hp;obtain⟨hD,hl0⟩:=OP hp hl;obtain⟨_,ha⟩:=GM hlo;obtain⟨haG,f,ha0,rfl⟩:=h.from ha;rw[h.lay] at hrf
   rw[if_neg (by
    rintro⟨k',h1,h2⟩;have h2:((k:Nat):Int)=((k':Nat):Int):=h2;obtain rfl:k=k':=by omega
    exact hkG h1),if_neg hD]
   exact(hI.rem _ _).2 ⟨k,p,g,e,a,b,f,rfl,hk0,hp,hrf,hl0,Am ha0,hfar,rfl⟩
 ·obtain⟨hkG,e,hk0,rfl⟩:=h.from hk;rw[Rd] at hp;obtain⟨hD,hl0⟩:=OP hp hl;rw[h.lay] at hr;obtain⟨f,hf⟩:=hI.link k g e p a b hk0 hp hr hl0;obtain⟨_,ha⟩:=GM hf
  have haG:a∉G:=fun h1=>hD ((h.cutIff hI hk0 hkG hp).2 ⟨hr,a,b,f,hl0,ha,by
   obtain⟨g2,f2,h11,h12⟩:=(h.gone.2 a).1 h1;rw[ha] at h11;injection h11 with h11
   injection h11 with _ h11
   injection h11 with h11
   subst h11;exact h12⟩)
  exact⟨_,Am (h.at ha haG)⟩
theorem OT {par:List (Int×Int)} {L:List Int} (h:Yd par) {region:Int} (hL:∀ c,c∈L↔ZX par region c):Yd (L.foldl QB par):=by
 refine⟨F4 L h.nd,fun r q hr=>?_⟩;rw[Al L h.nd] at hr;split at hr
 ·cases hr
 ·rename_i hn;obtain⟨h1,h2,h3⟩:=h.up r q hr;refine⟨h1,h2,h3.imp id fun h4=>?_⟩;rw[Al L h.nd,if_neg]
  ·exact h4
  ·intro h5;exact hn ((hL r).2 (.kid ((hL q).1 h5) hr))
theorem Oa {s s':CS} {m:MS} {told:List (Nat×Nat)} (R:Rel s m told) (hm:V4 m) (hI:Inv s) {L:List Nat} {G:List Nat} {D:List Rf} (h:XA s (L.map fun k:Nat=>(k:Int)) G D s'):Rel s' (Xu m L) told:=by
  have hLi:∀ k:Nat,((k:Nat):Int)∈L.map (fun k:Nat=>(k:Int))↔k∈L:=fun k=>by
    rw[List.mem_map]
    exact ⟨fun ⟨j, h1, h2⟩ => (by have : j = k := by omega
                                  rw[← this];exact h1),fun h1=>⟨k,h1,rfl⟩⟩
  have hlo:(Xu m L).objs.length=m.objs.length:=by show (((m.objs.map (Qa L)).map (ZL _))).length=_;rw[List.length_map,List.length_map]
  have hnd':(s'.par.map (·.1)).Nodup:=by rw[h.par];exact F4 _ R.nd
  refine⟨by rw[hlo];exact R.len,by rw[h.lays];exact R.lays,fun r q=>?_,hnd',?_,?_,?_,?_,?_,R.nodup⟩
  · rw[← Yh hnd',h.par,Al _ R.nd];constructor
    · intro hr;split at hr
      · cases hr
      · rename_i hn;obtain⟨k,rfl,h1,h2,h3⟩:=(R.tree r q).1 ((Yh R.nd).1 hr);refine⟨k,rfl,h1,?_,h3⟩;show (Vn m.P L)[k]? = some q;rw[OO,h2];show some (if k∈L then -1 else q)=some q;rw[if_neg (fun h4=>hn ((hLi k).2 h4))]
    · rintro⟨k,rfl,h1,h2,h3⟩;have h2:(Vn m.P L)[k]? = some q:=h2;rw[OO] at h2;cases hP:m.P[k]? with
      | none=>rw[hP] at h2;cases h2
      | some q0=>
        rw[hP] at h2;injection h2 with h2
        have h2:(if k∈L then (-1:Int) else q0)=q:=h2;by_cases hk:k∈L
        · rw[if_pos hk] at h2;omega
        · rw[if_neg hk] at h2;subst h2;rw[if_neg (fun h4=>hk ((hLi k).1 h4))];exact(Yh R.nd).2 ((R.tree _ _).2 ⟨k,rfl,h1,hP,h3⟩)
  · rw[h.last];show s.last+1=(Vn m.P L).length;unfold Vn;rw[List.length_mapIdx];exact R.last
  · intro o x' k g hx' ht hg;obtain⟨x,hx,rfl⟩:=Ib hx'
    have hg2:¬ ((Qa L x).gone=true):=by
      intro h1;have hg:(Qa L x).gone=false:=hg;rw[h1] at hg;cases hg
    rw[Ia] at hg2
    have hxg:x.gone=false:=by
      cases hh:x.gone with
      | false=>rfl
      | true=>exact absurd (.inl hh) hg2
    have hxr:x.region∉L:=fun h1=>hg2 (.inr h1);obtain⟨e,hk,hl⟩:=R.obj o x k g hx ht hxg;have hgm:Qa L x=x:=by unfold Qa;rw[if_neg hxr]
    rw[hgm]
    have hkG:k∉G:=fun h1=>by
      obtain⟨g2,f2,h11,h12⟩:=(h.gone.2 k).1 h1;rw[hk] at h11;injection h11 with h11
      injection h11 with _ h11
      injection h11 with h11
      subst h11;rw[hl.region] at h12;exact hxr ((hLi _).1 h12)
    obtain⟨hml,hm1,hkd,hto,hgo⟩:=hm.objs x (List.mem_of_getElem? hx);refine⟨VA D k e,h.at hk hkG,⟨hl.region,hl.lay,hl.count,hl.held,hl.pinned,by rw[Rd];exact hl.len,fun p hp hr=>?_,fun p hp hr=>?_,fun p hp hne=>?_⟩⟩
    · have hp:p < x.w.length:=hp;have hpe:p < e.ws.length:=by rw[hl.len];exact hp
      have hr:VV (UM m.lays x.lay) p=true:=hr;have hre:VV (QN s e) p=true:=by rw[KS R.w hl];exact hr
      obtain⟨g1,g2⟩:=IT (objs:=m.objs.map (Qa L)) (x:=x) (by rw[hkd,hto]) (p:=p) (by rw[hkd];exact hp);rw[g1,g2,F5 hpe];have hlk:=hl.ref p hp hr;by_cases hD:((k:Int),(p:Int))∈D
      · rw[if_pos hD];obtain⟨_,a,b,f,h5,h6,h7⟩:=(h.cutIff hI hk hkG hpe).1 hD;have h5:ZZ (e.ws.getD p 0) = .obj a b:=h5;rw[hlk] at h5;unfold Z3 at h5;split at h5
        · rename_i h2;cases hta:told[x.to.getD p 0]? with
          | none=>rw[hta] at h5;cases h5
          | some y=>
            obtain⟨a',b'⟩:=y;rw[hta] at h5;injection h5 with h8 h9
            subst h8 h9;have hol:x.to.getD p 0 < m.objs.length:=by rw[← R.len];exact(List.getElem?_eq_some_iff.1 hta).1
            have hy:=List.getElem?_eq_getElem hol;generalize m.objs[x.to.getD p 0]=y at hy
            have hyg:y.gone=false:=by
              cases hh:y.gone with
              | false=>rfl
              | true=>exact absurd h6 (R.gone _ y _ _ hy hta hh f)
            obtain⟨f',h10,h11⟩:=R.obj _ y _ _ hy hta hyg;rw[h6] at h10;injection h10 with h10
            injection h10 with _ h10
            injection h10 with h10
            subst h10;have hit:Y7 (m.objs.map (Qa L)) (x.kind.getD p 0) (x.to.getD p 0)=true:=Ic.2 ⟨h2,y,hy,.inr (by rw[h11.region] at h7;exact(hLi _).1 h7)⟩;rw[if_pos hit,if_pos hit];rfl
        · split at h5 <;> cases h5
      · rw[if_neg hD]
        have hnh:¬ (Y7 (m.objs.map (Qa L)) (x.kind.getD p 0) (x.to.getD p 0)=true):=by
          intro hh;obtain⟨h2,y,hy,h3⟩:=Ic.1 hh;have hol:=(List.getElem?_eq_some_iff.1 hy).1;rw[← R.len] at hol;have hta:=List.getElem?_eq_getElem hol;generalize told[x.to.getD p 0]=ab at hta;obtain⟨a,b⟩:=ab
          have h5:Y9 e p = .obj a b:=by
            unfold Y9;rw[hlk];unfold Z3;rw[if_pos h2,hta];rfl
          obtain⟨f,hf⟩:=hI.link k g e p a b hk hpe hre h5;obtain⟨_,ha⟩:=GM hf
          have hyg:y.gone=false:=by
            cases hh:y.gone with
            | false=>rfl
            | true=>exact absurd ha (R.gone _ y _ _ hy hta hh f)
          rcases h3 with h3|h3
          · rw[hyg] at h3;cases h3
          · obtain⟨f',h10,h11⟩:=R.obj _ y _ _ hy hta hyg;rw[ha] at h10;injection h10 with h10
            injection h10 with _ h10
            injection h10 with h10
            subst h10;exact hD ((h.cutIff hI hk hkG hpe).2 ⟨hre,a,b,f,h5,ha,by rw[h11.region];exact(hLi _).2 h3⟩)
        rw[if_neg hnh,if_neg hnh];exact hlk
    · have hp:p < x.w.length:=hp;have hpe:p < e.ws.length:=by rw[hl.len];exact hp
      have hr:VV (UM m.lays x.lay) p=false:=hr;rw[F5 hpe,if_neg]
      · exact hl.word p hp hr
      · intro hD;have h1:=((h.cutIff hI hk hkG hpe).1 hD).1;rw[KS R.w hl] at h1;have h1:VV (UM m.lays x.lay) p=true:=h1;rw[hr] at h1;cases h1
    · have hp:p < x.w.length:=hp;obtain⟨g1,g2⟩:=IT (objs:=m.objs.map (Qa L)) (x:=x) (by rw[hkd,hto]) (p:=p) (by rw[hkd];exact hp);show VV (UM m.lays x.lay) p=true∧_;rw[g1] at hne ⊢;split at hne
      · rename_i hh;rw[if_pos hh];obtain⟨h2,_⟩:=Ic.1 hh;exact⟨(hl.kind p hp (by rw[h2];decide)).1,by decide⟩
      · rename_i hh;rw[if_neg hh];exact hl.kind p hp hne
  · intro o x' k g hx' ht hg e' hk';obtain⟨x,hx,rfl⟩:=Ib hx';obtain⟨hkG,e,hk,rfl⟩:=h.from hk';have hg:(Qa L x).gone=true:=hg
    rcases Ia.1 hg with h1|h1
    · exact R.gone o x k g hx ht h1 e hk
    · cases hh:x.gone with
      | true=>exact R.gone o x k g hx ht hh e hk
      | false=>
        obtain⟨e2,h2,h3⟩:=R.obj o x k g hx ht hh;rw[hk] at h2;injection h2 with h2
        injection h2 with _ h2
        injection h2 with h2
        subst h2;exact hkG ((h.gone.2 k).2 ⟨g,e,hk,by rw[h3.region];exact(hLi _).2 h1⟩)
  · intro k g e' hk';obtain⟨_,e,hk,_⟩:=h.from hk';exact R.used k g e hk
  · intro o k g ht;obtain⟨t,h1,h2⟩:=R.gens o k g ht;refine⟨_,h.tab k t h1,?_⟩;split <;> exact h2
end Go.Proofs.YtmjdnljneifpcaaGreatDoor
namespace Go.Proofs.YtmjdnljneifpcaaGreatDoor
open Go.SL
theorem Ie {s:CS} {m:MS} {told:List (Nat×Nat)} (R:Rel s m told) (hT:Yd s.par):WH m.P:=by
 intro i q h1 h2;by_cases h3:0≤q
 ·exact(hT.up _ _ ((Yh hT.nd).2 ((R.tree _ _).2 ⟨i,rfl,h1,h2,h3⟩))).2.1
 ·omega
theorem CP {par:List (Int×Int)} (hT:Yd par) {r:Int} (h:(QZ par r).isSome=true):1≤r:=by
 cases hf:QZ par r with
 | none=>rw[hf] at h;cases h
 | some q=>
  have:=hT.up r q hf;omega
theorem If {s:CS} {m:MS} {told:List (Nat×Nat)} (R:Rel s m told) (hT:Yd s.par) {id:Int} (hid:(QZ s.par id).isSome=true):∀ (n c:Nat),c≤n→(QZ s.par c).isSome=true→(Zq m.P id c=true↔ZX s.par id c)
 | 0,c,h1,h2=>by
  have:=CP hT h2;omega
 | n+1,c,h1,h2=>by
  have hO:=Ie R hT;have hc1:=CP hT h2;cases hf:QZ s.par (c:Int) with
  | none=>rw[hf] at h2;cases h2
  | some q=>
   obtain⟨k,k1,k2,k3,k4⟩:=(R.tree _ _).1 ((Yh hT.nd).1 hf);obtain rfl:c=k:=by omega
   have hcl:=(List.getElem?_eq_some_iff.1 k3).1;obtain⟨q1,q2,q3⟩:=hT.up _ _ hf;rw[OW hO (by omega) (by omega),Int.toNat_natCast,List.getD_eq_getElem?_getD,k3];show (if (c:Int)=id then true else Zq m.P id q)=true↔_;by_cases h3:(c:Int)=id
   ·rw[if_pos h3,h3];exact⟨fun _ => .self,fun _=>rfl⟩
   ·rw[if_neg h3]
    rcases q3 with rfl|q3
    ·rw[OA _ _ (Int.le_refl _)];refine⟨fun h=>(by cases h),fun h=>?_⟩
     rcases h.inv with h4|⟨k,h4,h5⟩
     ·exact absurd h4 h3
     ·rw[hf] at h4;injection h4 with h4
      subst h4;have h6:=h5.live hid;have:=CP hT h6;omega
    ·obtain⟨d,rfl⟩:∃ d:Nat,q=d:=⟨q.toNat,by omega⟩;rw[If R hT hid n d (by omega) q3];constructor
     ·intro h;exact .kid h hf
     ·intro h
      rcases h.inv with h4|⟨k,h4,h5⟩
      ·exact absurd h4 h3
      ·rw[hf] at h4;injection h4 with h4
       subst h4;exact h5
theorem fC {s:CS} {m:MS} {told:List (Nat×Nat)} (R:Rel s m told) (hT:Yd s.par) {id:Int} (hid:(QZ s.par id).isSome=true) {L:List Int} (h1:L.Nodup) (h2:L.Pairwise (·≤·)) (h3:∀ c,c∈L↔ZX s.par id c):L=(Zr m.P id).map fun k:Nat=>(k:Int):=by
 have hmem:∀ c:Nat,c∈Zr m.P id↔ZX s.par id c:=fun c=>by
  unfold Zr;rw[OB];constructor
  ·rintro⟨a,⟨b1,b2⟩,d⟩;have hk:m.P[c]? = some (m.P.getD c 0):=by rw[List.getD_eq_getElem?_getD,List.getElem?_eq_getElem a];rfl
   have hl:(QZ s.par (c:Int)).isSome=true:=by
    rw[(Yh hT.nd).2 ((R.tree _ _).2 ⟨c,rfl,b1,hk,b2⟩)];rfl
   exact(If R hT hid c c (Nat.le_refl _) hl).1 d
  ·intro h;have hl:=h.live hid;cases hf:QZ s.par (c:Int) with
   | none=>rw[hf] at hl;cases hl
   | some q=>
    obtain⟨k,k1,k2,k3,k4⟩:=(R.tree _ _).1 ((Yh hT.nd).1 hf);obtain rfl:c=k:=by omega
    refine⟨(List.getElem?_eq_some_iff.1 k3).1,⟨k2,?_⟩,(If R hT hid c c (Nat.le_refl _) hl).2 h⟩;rw[List.getD_eq_getElem?_getD,k3];exact k4
 have hs1:L.Pairwise (· < ·):=by
  have:=h2.and h1;exact this.imp fun h=>by omega
 have hs2:((Zr m.P id).map fun k:Nat=>(k:Int)).Pairwise (· < ·):=by
  rw[List.pairwise_map];have:(Zr m.P id).Pairwise (· < ·):=List.Pairwise.filter _ List.pairwise_lt_range;exact this.imp fun h=>by omega
 have key:∀ {a b:List Int},a.Pairwise (· < ·)→b.Pairwise (· < ·)→(∀ x,x∈a↔x∈b)→a=b:=by
  intro a
  induction a with
  | nil=>
   intro b _ _ h;cases b with
   | nil=>rfl
   | cons y b=>exact absurd ((h y).2 List.mem_cons_self) (by simp)
  | cons x a ih=>
   intro b ha hb h;cases b with
   | nil=>exact absurd ((h x).1 List.mem_cons_self) (by simp)
   | cons y b=>
    rw[List.pairwise_cons] at ha hb
    have hxy:x=y:=by
     rcases List.mem_cons.1 ((h x).1 List.mem_cons_self) with h4|h4
     ·exact h4
     ·rcases List.mem_cons.1 ((h y).2 List.mem_cons_self) with h5|h5
      ·exact h5.symm
      ·have:=hb.1 x h4;have:=ha.1 y h5;omega
    subst hxy;rw[ih ha.2 hb.2 fun z=>?_];constructor
    ·intro hz
     rcases List.mem_cons.1 ((h z).1 (List.mem_cons_of_mem _ hz)) with h4|h4
     ·have:=ha.1 z hz;omega
     ·exact h4
    ·intro hz
     rcases List.mem_cons.1 ((h z).2 (List.mem_cons_of_mem _ hz)) with h4|h4
     ·have:=hb.1 z hz;omega
     ·exact h4
 refine key hs1 hs2 fun c=>?_;rw[h3,List.mem_map];constructor
 ·intro h;have:=CP hT (h.live hid);refine⟨c.toNat,(hmem _).2 ?_,by omega⟩;rw[show ((c.toNat:Nat):Int)=c by omega];exact h
 ·rintro⟨k,k1,rfl⟩;exact(hmem k).1 k1
end Go.Proofs.YtmjdnljneifpcaaGreatDoor
namespace Go.Proofs.YtmjdnljneifpcaaGreatDoor
open Go.SL
theorem Ob [Q4] (a:Option Addr) (c n:Nat) (L:List Int) (x:Int) (hn:n≤L.length) (hl:L.length≤1000000) {w:World} {fr:List Q2} (H:Q0 w (IL (.slice a L.length c) L::fr)) :
  Calls Tryz.prog 176 #[.slice a n c,.int .i64 x] w (ret fun v w'=>v = .bool (decide (x∈L.take n))∧Q0 w' (IL (.slice a L.length c) L::fr)):=by
 refine QQ Tryz.func176 rfl (by kernel_rfl) ?_;refine Fm H ?_;refine Qj (fun ms σ w z=>ms=[]∧∃ i:Nat,i≤n∧z=n - i∧x∉L.take i∧σ 0 = .slice a n c∧σ 1 = .int .i64 x∧σ 5 = .int .i64 i∧Q0 w (IL (.slice a L.length c) L::fr)) (m:=n) ⟨rfl,0,by omega,by omega,by simp,rfl,rfl,rfl,H⟩ ?_;clear H;rintro ms σ w z ⟨rfl,i,hi,rfl,hno,g0,g1,g5,H⟩;rw[Q1 g0,Q1 g1,Q1 g5];refine KZ H ?_;refine Qf rfl (fun h=>QW ?_) (fun h=>Qp ?_)
 ·have hlt:i < n:=by omega
  have hil:i < L.length:=by omega
  have hy:=List.getElem?_eq_getElem hil;have htk:L.take (i+1)=L.take i++[L[i]]:=by rw[List.take_add_one,hy];rfl
  generalize L[i]=y at hy htk;obtain⟨b,s,rfl,H,hcl⟩:=Qx H (by omega);refine K9 H ?_;refine Jd ?_;refine Q5 rfl (QA H rfl (by simpa using U5 hy) rfl ?_);replace H:=hcl _ _ H;by_cases hxy:y=x
  ·first|refine Jv ?_|refine Uc rfl rfl ?_
   refine Jv ?_;rw[show (y == x)=true by rw[hxy];exact beq_self_eq_true x];refine Q6 ?_;refine YG H ?_;have hm:x∈L.take n:=List.mem_of_getElem? (i:=i) (by rw[List.getElem?_take_of_lt hlt,hy,hxy]);rw[decide_eq_true hm];exact Q3 (Jy H rfl fun w' H'=>⟨rfl,H'⟩)
  ·first|refine Jv ?_|refine Uc rfl rfl ?_
   refine Jv ?_;rw[show (y == x)=false by rw[beq_eq_false_iff_ne];exact hxy];refine A9 H ?_;refine V8 H ?_;refine⟨_,⟨rfl,i+1,hlt,rfl,?_,rfl,rfl,Qb (by omega),H⟩,by omega⟩;rw[htk,List.mem_append,List.mem_singleton];rintro(h1|h1)
   ·exact hno h1
   ·exact hxy h1.symm
 ·obtain rfl:i=n:=by omega
  rw[decide_eq_false hno];refine VC H ?_;exact Q3 (Jy H rfl fun w' H'=>⟨rfl,H'⟩)
def Ga (id q:Nat) (os:List QI) (i:Nat):List QI:=os.mapIdx fun k x=>if k < i then G2 id q x else x
theorem Ao (id q:Nat) (os:List QI) (i k:Nat):(Ga id q os i)[k]? = (os[k]?).map fun x=>if k < i then G2 id q x else x:=List.getElem?_mapIdx
theorem Ig (id q:Nat) (os:List QI) (i:Nat):(Ga id q os i).length=os.length:=List.length_mapIdx
theorem fD (id q:Nat) (os:List QI):Ga id q os 0=os:=by
 apply List.ext_getElem?;intro k;rw[Ao];cases os[k]? <;> simp
theorem fE {id q:Nat} {os:List QI} {i:Nat} {x:QI} (h:os[i]? = some x):(Ga id q os i).set i (G2 id q x)=Ga id q os (i+1):=by
 have hil:=(List.getElem?_eq_some_iff.1 h).1;apply List.ext_getElem?;intro k;rw[List.getElem?_set,Ao,Ao,Ig];by_cases hk:i=k
 ·subst hk;rw[if_pos rfl,if_pos hil,h];simp only[Option.map_some];rw[if_pos (by omega)]
 ·rw[if_neg hk];have:k < i+1↔k < i:=by omega
  simp only[this]
theorem fF (id q:Nat) (os:List QI):Ga id q os os.length=os.map (G2 id q):=by
 apply List.ext_getElem?;intro k;rw[Ao,List.getElem?_map];cases h:os[k]? with
 | none=>rfl
 | some x=>
  have:=(List.getElem?_eq_some_iff.1 h).1;simp only[Option.map_some];rw[if_pos this]
theorem Oc {m:MS} (h:V4 m) (id q i:Nat):V4 { m with P:=Z6 m.P id q,objs:=Ga id q m.objs i }:=by
 refine OF h (.inl (by show (Z6 m.P id q).length=_;unfold Z6;rw[List.length_mapIdx])) rfl (Ig _ _ _ _) fun o x' hx'=>?_;have hx':(Ga id q m.objs i)[o]? = some x':=hx';rw[Ao] at hx';cases hx:m.objs[o]? with
 | none=>rw[hx] at hx';cases hx'
 | some x=>
  rw[hx] at hx';injection hx' with hx'
  refine⟨x,rfl,?_⟩;rw[← hx'];split
  ·exact OE id q x
  ·rfl
theorem Od [Q4] (p:Nat) (m:MS) (id:Nat) (q:Int) (hid:1≤id) (hq:m.P[id]? = some q) (hq0:0≤q) {w:World} {fr:List Q2} (H:Q0 w (Qo p m::fr)) :
  Calls Tryz.prog 102 #[pp p,.int .i64 id] w (ret fun v w'=>(q=0∧v = .tuple #[.int .i64 0,.int .i64 16]∧Q0 w' (Qo p m::fr))∨(q≠0∧v = .tuple #[.int .i64 q,.int .i64 0]∧Q0 w' (Qo p (F0 m id q.toNat)::fr))):=by
 obtain⟨t,lc,oc,aL,cL,aO,cO,hm,h2,h3,hl1,hl2,H⟩:=Zb H;have hidl:=(List.getElem?_eq_some_iff.1 hq).1;have hgd:m.P.getD id 0=q:=by rw[List.getD_eq_getElem?_getD,hq];rfl
 have hlv:Vr m.P (id:Int)=true:=decide_eq_true ⟨by omega,by omega,by rw[Int.toNat_natCast,hgd];exact hq0⟩;have hP:=hm.P;have hfew:=hm.few;refine QQ Tryz.func102 rfl (by kernel_rfl) ?_;refine Bj H ?_;replace H:=Js [1,0] 0 H;refine Jc rfl rfl (WK t m.P id H) ?_;clear H;rintro v w ⟨rfl,H⟩;rw[hlv];refine Yi H ?_;refine J9 H ?_;refine Jc rfl rfl (fQ t m.P id q hid hq hq0 hP.1 (by omega) H) ?_;clear H;rintro w0 w (⟨hz,rfl,H⟩|⟨hz,rfl,H⟩)
 ·refine BF H ?_;refine Dk H ?_;exact Q3 (Jy (Ys hm h2 h3 H.swap) rfl fun w' H' => .inl ⟨hz,rfl,H'⟩)
 obtain⟨qn,rfl⟩:∃ qn:Nat,q=qn:=⟨q.toNat,by omega⟩;rw[Int.toNat_natCast] at H ⊢;refine Zu H ?_;have hm1:=Oc hm id qn 0;replace H:=Ys (m:={ m with P:=Z6 m.P id qn,objs:=Ga id qn m.objs 0 }) hm1 h2 (by rw[fD];exact h3) H.swap;refine J7 H ?_;refine Qn (fun ms σ w=>ms=[]∧σ 7 = .int .i64 qn∧Q0 w (Qo p (F0 m id qn)::fr)) ?_ ?_
 ·refine QS ?_;refine Qj (fun ms σ w z=>ms=[]∧∃ i:Nat,i≤m.objs.length∧z=m.objs.length - i∧σ 0=pp p∧σ 1 = .int .i64 id∧σ 7 = .int .i64 qn∧σ 9 = .int .i64 i∧Q0 w (Qo p { m with P:=Z6 m.P id qn,objs:=Ga id qn m.objs i }::fr)) (m:=m.objs.length) ⟨rfl,0,by omega,by omega,rfl,rfl,rfl,rfl,H⟩ ?_;clear H;rintro ms σ w z ⟨rfl,i,hi,rfl,g0,g1,g7,g9,H⟩;rw[Q1 g0,Q1 g1,Q1 g7,Q1 g9];have hml:=Ig id qn m.objs i;by_cases hlt:i < m.objs.length
  ·have hx:=List.getElem?_eq_getElem hlt;generalize m.objs[i]=x at hx
   have hxi:({ m with P:=Z6 m.P id qn,objs:=Ga id qn m.objs i }:MS).objs[i]? = some x:=by
    show (Ga id qn m.objs i)[i]? = _;rw[Ao,hx];simp
   obtain⟨t,lc,aL,cL,bO,cO,s,ptrs,qq,vw,vk,vt,rest,hmm,h2,hp,H,hclose⟩:=GF H hxi;dsimp only at H hclose;rw[hml] at H hclose;refine KR H ?_;refine Qf rfl (fun h=>QW ?_) (fun h=>absurd (show ((i:Nat):Int) < ((m.objs.length:Nat):Int) by omega) h);refine Wx H ?_;refine Jd ?_;refine Q5 rfl (QA H rfl hp rfl ?_);refine Jv ?_;refine DJ H ?_;have hset:Ga id qn m.objs (i+1)=(Ga id qn m.objs i).set i (G2 id qn x):=(fE hx).symm;have hw':V4 { m with P:=Z6 m.P id qn,objs:=(Ga id qn m.objs i).set i (G2 id qn x) }:=by rw[← hset];exact Oc hm id qn (i+1)
   by_cases hr:x.region=id
   ·rw[show (((x.region:Nat):Int) == ((id:Nat):Int))=true by rw[hr];exact beq_self_eq_true _];refine Q6 ?_;refine VD H ?_;refine J9 H ?_;refine Jd ?_;refine Q5 rfl (QA H rfl hp rfl ?_);refine YS H ?_;refine Ui H ?_;clear H;intro w H;refine Q6 ?_;have hxx:G2 id qn x={ x with region:=qn }:=by unfold G2;rw[if_pos hr]
    rw[hxx] at hset hw';replace H:Q0 w (pts qq (Xm vw vk vt { x with region:=qn })::_):=H;replace H:=hclose _ _ _ hw' H;rw[← hset] at H;refine V8 H ?_;exact⟨_,⟨rfl,i+1,hlt,rfl,rfl,rfl,rfl,Qb (by omega),H⟩,by omega⟩
   ·rw[show (((x.region:Nat):Int) == ((id:Nat):Int))=false by rw[beq_eq_false_iff_ne];omega];refine A9 H ?_;have hxx:G2 id qn x=x:=by unfold G2;rw[if_neg hr]
    rw[hxx] at hset hw';replace H:=hclose _ _ _ hw' H;rw[← hset] at H;refine V8 H ?_;exact⟨_,⟨rfl,i+1,hlt,rfl,rfl,rfl,rfl,Qb (by omega),H⟩,by omega⟩
  ·obtain rfl:i=m.objs.length:=by omega
   obtain⟨t,lc,oc,aL,cL,aO,cO,hmm,h2,h3,hl1,hl2,H⟩:=Zb H;dsimp only at H;rw[hml] at H;refine KR H ?_;refine Qf rfl (fun h=>absurd (show ((m.objs.length:Nat):Int) < ((m.objs.length:Nat):Int) from h) (by omega)) (fun h=>Qp ?_);rw[← hml] at H;replace H:=Ys (m:={ m with P:=Z6 m.P id qn,objs:=Ga id qn m.objs m.objs.length }) hmm h2 h3 H;rw[fF] at H;exact⟨rfl,rfl,rfl,H⟩
 clear H;rintro ms σ w ⟨rfl,g7,H⟩;rw[Q1 g7];refine V8 H ?_;exact Q3 (Jy H rfl fun w' H' => .inr ⟨hz,rfl,H'⟩)
end Go.Proofs.YtmjdnljneifpcaaGreatDoor
namespace Go.Proofs.YtmjdnljneifpcaaGreatDoor
open Go.SL
def US (n:Nat) (os:List Nat) (objs:List QI):List QI:=objs.mapIdx fun o x=>if o∈os then { x with region:=n } else x
theorem CT (n:Nat) (os:List Nat) (objs:List QI) (k:Nat):(US n os objs)[k]? = (objs[k]?).map fun x=>if k∈os then { x with region:=n } else x:=List.getElem?_mapIdx
theorem fH (n:Nat) (os:List Nat) (objs:List QI):(US n os objs).length=objs.length:=List.length_mapIdx
theorem fI (n:Nat) (objs:List QI):US n [] objs=objs:=by
 apply List.ext_getElem?;intro k;rw[CT];cases objs[k]? <;> simp
theorem fJ {n:Nat} {os:List Nat} {objs:List QI} {o:Nat} {x:QI} (h:(US n os objs)[o]? = some x):(US n os objs).set o { x with region:=n }=US n (os++[o]) objs:=by
 apply List.ext_getElem?;intro k;have hol:=(List.getElem?_eq_some_iff.1 h).1;rw[List.getElem?_set];by_cases hk:o=k
 ·subst hk;rw[if_pos rfl,if_pos hol,CT];rw[CT] at h;cases hx:objs[o]? with
  | none=>rw[hx] at h;cases h
  | some y=>
   rw[hx] at h;injection h with h
   subst h;show some _=some (if o∈os++[o] then { y with region:=n } else y);rw[if_pos (show o∈os++[o] by simp)];congr 1;show ({ (if o∈os then { y with region:=n } else y:QI) with region:=n }:QI)=_;split <;> rfl
 ·rw[if_neg hk,CT,CT]
  have:k∈os++[o]↔k∈os:=by
   rw[List.mem_append,List.mem_singleton];exact⟨fun h=>h.elim id fun h=>absurd h.symm hk,.inl⟩
  simp only[this]
theorem Oe {m:MS} (h:V4 m) (hP:m.P.length < 100000) (r:Nat) (os:List Nat):V4 { m with P:=m.P++[(r:Int)],objs:=US m.P.length os m.objs }:=fZ h hP r os
theorem fL [Q4] (p:Nat) (m:MS) (r:Nat) (os:List Nat) (al:Option Addr) (cl:Nat) (hd:Z1 m.P (r:Int)=0) (hPl:m.P.length < 100000) (hos:∀ o∈os,o < m.objs.length) (hl:os.length≤64) {w:World} {fr:List Q2} (H:Q0 w (Qo p m::NL (.slice al os.length cl) os::fr)) :
  Calls Tryz.prog 104 #[pp p,.int .i64 r,.slice al os.length cl] w (ret fun v w'=>v = .int .i64 m.P.length∧Q0 w' (Qo p (WJ m r os)::NL (.slice al os.length cl) os::fr)):=by
 obtain⟨t,lc,oc,aL,cL,aO,cO,hm,h2,h3,hl1,hl2,H⟩:=Zb H;have hP:=hm.P;have hfew:=hm.few;refine QQ Tryz.func104 rfl (by kernel_rfl) ?_;refine VC H ?_;refine J9 H ?_;replace H:=Js [1,0] 0 H;refine Jc rfl rfl (Mk t m.P (r:Int) hP.2 hP.1 H) ?_;clear H;rintro w0 w (⟨hz,rfl,H⟩|⟨hz,rfl,H⟩)
 ·exact absurd hd hz
 refine Zh H ?_;have hm1:=Oe hm hPl r [];replace H:=Ys (m:={ m with P:=m.P++[(r:Int)],objs:=US m.P.length [] m.objs }) hm1 h2 (by rw[fI];exact h3) H.swap;refine J7 H ?_;refine Qn (fun ms σ w=>ms=[]∧σ 7 = .int .i64 m.P.length∧Q0 w (Qo p (WJ m r os)::NL (.slice al os.length cl) os::fr)) ?_ ?_
 ·refine QS ?_;refine Qj (fun ms σ w z=>ms=[]∧∃ i:Nat,i≤os.length∧z=os.length - i∧σ 0=pp p∧σ 2 = .slice al os.length cl∧σ 7 = .int .i64 m.P.length∧σ 9 = .int .i64 i∧Q0 w (Qo p { m with P:=m.P++[(r:Int)],objs:=US m.P.length (os.take i) m.objs }::NL (.slice al os.length cl) os::fr)) (m:=os.length) ⟨rfl,0,by omega,by omega,rfl,rfl,rfl,rfl,H⟩ ?_;clear H;rintro ms σ w z ⟨rfl,i,hi,rfl,g0,g2,g7,g9,H⟩;rw[Q1 g0,Q1 g2,Q1 g7,Q1 g9];refine KZ H ?_;refine Qf rfl (fun h=>QW ?_) (fun h=>Qp ?_)
  ·have hlt:i < os.length:=by omega
   have hy:=List.getElem?_eq_getElem hlt;have hyo:=hos _ (List.mem_of_getElem? hy);have htk:os.take (i+1)=os.take i++[os[i]]:=by rw[List.take_add_one,hy];rfl
   generalize os[i]=o at hy htk hyo;obtain⟨bl,sl,rfl,H,hcl⟩:=Qx H.swap (by omega);have hml:=fH m.P.length (os.take i) m.objs;have hx:=List.getElem?_eq_getElem (show o < (US m.P.length (os.take i) m.objs).length by omega);generalize (US m.P.length (os.take i) m.objs)[o]=x at hx;have hset:=fJ hx;rw[← htk] at hset;have hxi:({ m with P:=m.P++[(r:Int)],objs:=US m.P.length (os.take i) m.objs }:MS).objs[o]? = some x:=hx;obtain⟨t,lc,aL,cL,bO,cO,s,ptrs,qq,vw,vk,vt,rest,hmm,h2,hp,H,hclose⟩:=GF H.swap hxi;dsimp only at H hclose;rw[hml] at H hclose;have hw':V4 { m with P:=m.P++[(r:Int)],objs:=(US m.P.length (os.take i) m.objs).set o { x with region:=m.P.length } }:=by rw[hset];exact Oe hm hPl r _
   refine Bh H ?_;clear H;intro w H;refine YT H ?_;refine Jl 3 [13] H ?_;refine Ug H ?_;refine Ji 6 ?_;refine Vf 7 [13] H rfl (Q8.none rfl) rfl (by simpa using Gg hy) (by kernel_rfl) ?_
   refine Ji 8 ?_;refine Vf 9 [13] H rfl (Q8.none rfl) rfl (by simpa using hp) (by kernel_rfl) ?_;refine EV H ?_;refine Jo 13 H ?_;refine Uh H ?_;clear H;intro w H;refine Jx H ?_;replace H:Q0 w (pts qq (Xm vw vk vt { x with region:=m.P.length })::_):=H;replace H:=hclose _ _ _ hw' H;rw[hset] at H;replace H:=hcl _ _ H.swap;refine V8 H ?_;exact⟨_,⟨rfl,i+1,hlt,rfl,rfl,rfl,rfl,Qb (by omega),H.swap⟩,by omega⟩
  ·obtain rfl:i=os.length:=by omega
   rw[List.take_length] at H;exact⟨rfl,rfl,rfl,H⟩
 clear H;rintro ms σ w ⟨rfl,g7,H⟩;rw[Q1 g7];refine J4 H ?_;exact Q3 (Jy H rfl fun w' H'=>⟨rfl,H'⟩)
end Go.Proofs.YtmjdnljneifpcaaGreatDoor
namespace Go.SL
section
variable {P:Program} {n:Nat} {r:Option Nat} {ops:Array Oper} {Q:Y3} {ms:List Nat} {σ:QU} {w:World} {rest:List Oper} {o:Oper} {K:QU→World→Prop} {l l':List Q2}
variable {ivs:List (List Nat×(World→Prop))} {T:QU→World→Prop} {f:Nat} {L:Array Bool}
variable {u t s:TypeId} {p:String} {af:Array Edge} {g:Option (Nat×Bool)} {d:Option Tmp} {x y z:Operand}
theorem fM {e size bytes b o2 len cap i:Nat} {q:IntKind} (hT:VX P t e size bytes) (h1:i≤cap) :
  (Instr.sliceAt t (.slice (some ⟨b,o2,none⟩) len cap) none (some (.int q (i:Int))) none).run P w = .ok (.slice (some ⟨b,o2,none⟩) i cap) w:=by
 have hs:(sizeOf e).run P w = .ok size w:=by
  obtain⟨k,hk,e2⟩:=Option.map_eq_some_iff.1 hT.info;simp only[Prod.mk.injEq] at e2;exact Zs (by rw[hk];simp[e2.1])
 have b1:(0:Int)≤i∧(i:Int)≤cap:=by omega
 simp[Instr.sliceAt,Instr.slice,Vk hT.und,Instr.sliceBounds,Instr.sliceBound,asIntOf,h1,hs,Z8]
theorem fN {e size bytes b o2 len cap i:Nat} {q:IntKind} (m:Nat) (hm:ops[m]? = some ⟨d,.slice t x none (some y) none,u,p,af,g⟩) (hg:Q8 ops σ ⟨d,.slice t x none (some y) none,u,p,af,g⟩ true) [hT:VX P t e size bytes] (hx:ev σ x = .slice (some ⟨b,o2,none⟩) len cap) (hy:ev σ y = .int q (i:Int)) (h1:i≤cap)
  (hb:YQ n ops (ivs.map (·.1)) L m []=true) (k:Any P n r ops ivs T f (L.setIfInBounds m true) (put σ d (.slice (some ⟨b,o2,none⟩) i cap)) w):Any P n r ops ivs T (f+1) L σ w:=
 Gq m hm hg (fun c e=>by cases e) (fun w=>by simp only[execOp,hx,hy,Option.map_some,Option.map_none,Sem.run_bind,fM hT h1,Result.andThen_ok,Sem.run_pure]) hb k
end
end Go.SL
namespace Go.Proofs.YtmjdnljneifpcaaGreatDoor
open Go.SL
theorem F6 {m:MS} {r:Int} {os:List Int} {e:Nat} (h1:Vr m.P r=true) (h2:os.length≤64) (h3:G3 m r [] os=e) (h4:e≠0):GS m r os=e:=by
 unfold GS;rw[h1,if_neg (by decide),if_neg (by omega),h3,if_pos h4]
theorem F7 [Q4] (p:Nat) (m:MS) (r:Int) (os:List Int) (al:Option Addr) (cl:Nat) (hl:os.length≤1000000) {w:World} {fr:List Q2} (H:Q0 w (Qo p m::IL (.slice al os.length cl) os::fr)) :
  Calls Tryz.prog 103 #[pp p,.int .i64 r,.slice al os.length cl] w (ret fun v w'=>v = .int .i64 (GS m r os)∧Q0 w' (Qo p m::IL (.slice al os.length cl) os::fr)):=by
 obtain⟨t,lc,oc,aL,cL,aO,cO,hm,h2,h3,hl1,hl2,H⟩:=Zb H;have hP:=hm.P;have hfew:=hm.few;refine QQ Tryz.func103 rfl (by kernel_rfl) ?_;refine VC H ?_;refine J9 H ?_;replace H:=Js [1,0] 0 H;refine Jc rfl rfl (WK t m.P r H) ?_;clear H;rintro v w ⟨rfl,H⟩;replace H:=Ys hm h2 h3 H.swap;clear h2 h3 hl1 hl2 lc oc aL cL aO cO;refine J0 H ?_;cases hlv:Vr m.P r with
 | false=>
  have he:GS m r os=15:=by unfold GS;rw[if_pos hlv]
  rw[he];refine A8 H ?_;exact Q3 (Jy H rfl fun w' H'=>⟨rfl,H'⟩)
 | true=>
 refine Gu H ?_;refine Gy H ?_;by_cases h64:((os.length:Nat):Int) > 64
 ·have he:GS m r os=18:=by unfold GS;rw[hlv,if_neg (by decide),if_pos (by omega)]
  rw[show decide (((os.length:Nat):Int) > 64)=true from decide_eq_true h64];refine YG H ?_;rw[he];exact Q3 (Jy H rfl fun w' H'=>⟨rfl,H'⟩)
 rw[show decide (((os.length:Nat):Int) > 64)=false from decide_eq_false h64];have h64:os.length≤64:=by omega
 refine V5 H ?_;refine Wr H ?_;refine Qj (fun ms σ w z=>ms=[]∧∃ i:Nat,i≤os.length∧z=os.length - i∧G3 m r (os.take i) (os.drop i)=G3 m r [] os∧σ 0=pp p∧σ 1 = .int .i64 r∧σ 2 = .slice al os.length cl∧σ 8 = .int .i64 i∧Q0 w (Qo p m::IL (.slice al os.length cl) os::fr)) (m:=os.length) ⟨rfl,0,by omega,by omega,rfl,rfl,rfl,rfl,rfl,H⟩ ?_;clear H;rintro ms σ w z ⟨rfl,i,hi,rfl,hmay,g0,g1,g2,g8,H⟩;rw[Q1 g0,Q1 g1,Q1 g2,Q1 g8];refine KZ H ?_;refine Qf rfl (fun h=>QW ?_) (fun h=>Qp ?_)
 ·have hlt:i < os.length:=by omega
  have hy:=List.getElem?_eq_getElem hlt;have htk:os.take (i+1)=os.take i++[os[i]]:=by rw[List.take_add_one,hy];rfl
  have hdr:os.drop i=os[i]::os.drop (i+1):=List.drop_eq_getElem_cons hlt;generalize os[i]=y at hy htk hdr;rw[hdr] at hmay;obtain⟨bl,sl,rfl,H,hlc,_,hcl⟩:=Yv H.swap (by omega);refine Rx H ?_;refine Jd ?_;refine Q5 rfl (QA H rfl (by simpa using U5 hy) rfl ?_);refine Jc rfl rfl (AO p m y H.swap) ?_;clear H;rintro v w ⟨rfl,H⟩;refine J0 H ?_;cases hv:Qy m y with
  | none=>
   have he:=F6 hlv h64 (hmay.symm.trans (OI hv)) (by decide);rw[he];refine A8 H ?_;replace H:=(hcl _ _ _ rfl H.swap).swap;exact Q3 (Jy H rfl fun w' H'=>⟨rfl,H'⟩)
  | some kx=>
   obtain⟨k,x⟩:=kx;obtain⟨rfl,hx,hh,hg⟩:=Xn hv;rw[OJ hv] at hmay;refine Gu H ?_;have hkl:=(List.getElem?_eq_some_iff.1 hx).1;obtain⟨t,lc,aL,cL,bO,cO,s,ptrs,qq,vw,vk,vt,rest,hmm,h2,hp,H,hclose⟩:=GF H hx;refine J1 H ?_;clear H;intro w H;refine Uw H ?_;refine Ug H ?_;refine Ji 6 ?_;refine Vf 7 [] H rfl (Q8.none rfl) rfl (by simpa using U5 hy) (by kernel_rfl) ?_
   refine Ji 8 ?_;refine Vf 9 [] H rfl (Q8.none rfl) rfl (by simpa using hp) (by kernel_rfl) ?_;refine Ja 10 ?_;refine Jf 11 ?_;refine Jl 12 [] H ?_;refine AG H ?_;have hm':V4 { m with objs:=m.objs.set k x }:=RJ hx hm;by_cases c1:(x.region:Int)≠r
   ·rw[if_pos c1] at hmay;have he:=F6 hlv h64 hmay.symm (by decide);rw[he,show (((x.region:Nat):Int) != r)=true by rw[bne_iff_ne];exact c1];refine YG H ?_;replace H:=(hcl _ _ _ rfl (U2 hx (hclose _ _ _ hm' H)).swap).swap;exact Q3 (Jy H rfl fun w' H'=>⟨rfl,H'⟩)
   rw[if_neg c1] at hmay;rw[show (((x.region:Nat):Int) != r)=false by rw[bne_eq_false_iff_eq];exact Classical.not_not.1 c1];refine BP H ?_;clear H;intro w H;refine Uw H ?_;refine Ug H ?_;refine Ji 6 ?_;refine Vf 7 [] H rfl (Q8.none rfl) rfl (by simpa using U5 hy) (by kernel_rfl) ?_
   refine Ji 8 ?_;refine Vf 9 [] H rfl (Q8.none rfl) rfl (by simpa using hp) (by kernel_rfl) ?_;refine Ja 10 ?_;refine Jf 11 ?_;refine Jl 12 [] H ?_;refine Jx H ?_;cases c2:x.pinned with
   | true=>
    rw[if_pos c2] at hmay;have he:=F6 hlv h64 hmay.symm (by decide);rw[he];refine YG H ?_;replace H:=(hcl _ _ _ rfl (U2 hx (hclose _ _ _ hm' H)).swap).swap;exact Q3 (Jy H rfl fun w' H'=>⟨rfl,H'⟩)
   | false=>
   rw[if_neg (by rw[c2];decide)] at hmay;refine V5 H ?_;replace H:=(U2 hx (hclose _ _ _ hm' H)).swap;refine J1 H ?_;clear H;intro w H;refine Ja 0 ?_;refine Ja 1 ?_;refine fN 2 rfl (Q8.none rfl) rfl rfl (by omega) (by kernel_rfl) ?_;refine Ja 3 ?_;refine Ja 4 ?_;refine Ji 5 ?_;refine Vf 6 [7] H rfl (Q8.none rfl) rfl (by simpa using U5 hy) (by kernel_rfl) ?_;have Hc:=hcl _ _ _ rfl H;refine Jo 7 H ?_;refine Jk rfl rfl (Ob _ cl i os (k:Int) hi hl Hc) ?_;clear H;rintro v w ⟨rfl,H⟩;refine X6 H ?_;by_cases c3:(k:Int)∈os.take i
   ·rw[if_pos c3] at hmay;have he:=F6 hlv h64 hmay.symm (by decide);rw[he,decide_eq_true c3];refine J7 H ?_;refine Vg rfl ?_;refine VC H ?_;exact Q3 (Jy H.swap rfl fun w' H'=>⟨rfl,H'⟩)
   rw[if_neg c3,← htk] at hmay;rw[decide_eq_false c3];refine J7 H ?_;refine VU rfl (QW ?_);refine V8 H ?_;exact⟨_,⟨rfl,i+1,hlt,rfl,hmay,rfl,rfl,rfl,Qb (by omega),H.swap⟩,by omega⟩
 ·obtain rfl:i=os.length:=by omega
  rw[List.take_length,List.drop_length] at hmay;have hmay:0=G3 m r [] os:=hmay;obtain⟨t,lc,oc,aL,cL,aO,cO,hmm,h2,h3,hl1,hl2,H⟩:=Zb H;refine Ya H ?_;replace H:=Js [1,0] 0 H;refine Jc rfl rfl (Mj t m.P (by omega) H) ?_;clear H;intro v w H;obtain⟨aA,cA,rfl⟩:=QD H (QF _) (by decide);replace H:=Js [0,1,0] 0 H;replace H:=H.drop;replace H:=Ys hm h2 h3 H;refine DL H ?_
  have he:GS m r os=if 64≤(ZC m.P).length then 5 else 0:=by
   unfold GS;rw[hlv,if_neg (by decide),if_neg (by omega),← hmay,if_neg (by decide)]
  rw[he];by_cases c4:(((ZC m.P).length:Nat):Int)≥64
  ·rw[show decide ((((ZC m.P).length:Nat):Int)≥64)=true from decide_eq_true c4,if_pos (by omega)];refine YG H ?_;exact Q3 (Jy H rfl fun w' H'=>⟨rfl,H'⟩)
  ·rw[show decide ((((ZC m.P).length:Nat):Int)≥64)=false from decide_eq_false c4,if_neg (by omega)];refine KK H ?_;exact Q3 (Jy H rfl fun w' H'=>⟨rfl,H'⟩)
end Go.Proofs.YtmjdnljneifpcaaGreatDoor
namespace Go.Proofs.YtmjdnljneifpcaaGreatDoor
open Go.SL
def YR {A:Type} (f:A→A) (i:Nat) (l:List A):List A:=l.mapIdx fun k x=>if k < i then f x else x
theorem WM {A:Type} (f:A→A) (i:Nat) (l:List A) (k:Nat):(YR f i l)[k]? = (l[k]?).map fun x=>if k < i then f x else x:=List.getElem?_mapIdx
theorem WN {A:Type} (f:A→A) (i:Nat) (l:List A):(YR f i l).length=l.length:=List.length_mapIdx
theorem F8 {A:Type} (f:A→A) (l:List A):YR f 0 l=l:=by
 apply List.ext_getElem?;intro k;rw[WM];cases l[k]? <;> simp
theorem Og {A:Type} {f:A→A} {l:List A} {i:Nat} {x:A} (h:l[i]? = some x):(YR f i l).set i (f x)=YR f (i+1) l:=by
 have hil:=(List.getElem?_eq_some_iff.1 h).1;apply List.ext_getElem?;intro k;rw[List.getElem?_set,WM,WM,WN];by_cases hk:i=k
 ·subst hk;rw[if_pos rfl,if_pos hil,h];simp only[Option.map_some];rw[if_pos (by omega)]
 ·rw[if_neg hk];have:k < i+1↔k < i:=by omega
  simp only[this]
theorem Ih {A:Type} (f:A→A) (l:List A):YR f l.length l=l.map f:=by
 apply List.ext_getElem?;intro k;rw[WM,List.getElem?_map];cases h:l[k]? with
 | none=>rfl
 | some x=>
  have:=(List.getElem?_eq_some_iff.1 h).1;simp only[Option.map_some];rw[if_pos this]
theorem Oh {A:Type} {f:A→A} {l:List A} {i:Nat} {x:A} (h:l[i]? = some x):(YR f i l)[i]? = some x:=by
 rw[WM,h];simp only[Option.map_some];rw[if_neg (by omega)]
theorem fO {lays:List QJ} {n:Nat} {x:QI} (h:Gj lays n x) (L:List Nat):Gj lays n (Qa L x):=by
 obtain⟨a,b,c,d,e⟩:=h;unfold Qa;split
 ·exact⟨a,b,c,d,e⟩
 ·exact⟨a,b,c,d,e⟩
theorem Ii {m:MS} (h:V4 m) (L K:List Nat) (i:Nat):V4 { m with P:=Vn m.P K,objs:=YR (Qa L) i m.objs }:=by
 refine⟨?_,h.lays,fun x' hx'=>?_,?_⟩
 ·show 1≤(Vn m.P K).length∧(Vn m.P K).length≤_;unfold Vn;rw[List.length_mapIdx];exact h.P
 ·show Gj m.lays (YR (Qa L) i m.objs).length x';rw[WN];obtain⟨o,ho⟩:=List.getElem?_of_mem hx';have ho:(YR (Qa L) i m.objs)[o]? = some x':=ho;rw[WM] at ho;cases hx:m.objs[o]? with
  | none=>rw[hx] at ho;cases ho
  | some x=>
   rw[hx] at ho;injection ho with ho
   have hk:=h.objs x (List.mem_of_getElem? hx);subst ho;show Gj m.lays m.objs.length (if o < i then Qa L x else x);split
   ·exact fO hk L
   ·exact hk
 ·show (YR (Qa L) i m.objs).length≤_;rw[WN];exact h.few
def G4 (G:List QI) (p:Nat) (l:List (Nat×Nat)):List Nat:=l.mapIdx fun k y=>if k < p∧Y7 G y.1 y.2=true then 1 else y.1
def G5 (G:List QI) (p:Nat) (l:List (Nat×Nat)):List Nat:=l.mapIdx fun k y=>if k < p∧Y7 G y.1 y.2=true then 0 else y.2
def YW (G:List QI) (p:Nat) (x:QI):QI:={ x with kind:=G4 G p (x.kind.zip x.to),to:=G5 G p (x.kind.zip x.to) }
theorem fP (G:List QI) (p:Nat) {x:QI} (h:x.kind.length=x.to.length):(YW G p x).kind.length=x.kind.length∧(YW G p x).to.length=x.kind.length:=by
 constructor
 ·show (G4 G p _).length=_;unfold G4;rw[List.length_mapIdx,List.length_zip];omega
 ·show (G5 G p _).length=_;unfold G5;rw[List.length_mapIdx,List.length_zip];omega
theorem Ca {k t:List Nat} {p a b:Nat} (ha:k[p]? = some a) (hb:t[p]? = some b):(k.zip t)[p]? = some (a,b):=List.getElem?_zip_eq_some.2 ⟨ha,hb⟩
theorem fS {G:List QI} {x:QI} {p a b:Nat} (ha:x.kind[p]? = some a) (hb:x.to[p]? = some b):(YW G p x).kind[p]? = some a∧(YW G p x).to[p]? = some b:=by
 have hz:=Ca ha hb;constructor
 ·show (G4 G p _)[p]? = _;unfold G4;rw[List.getElem?_mapIdx,hz];show some (if p < p∧Y7 G a b=true then 1 else a)=_;rw[if_neg (by omega)]
 ·show (G5 G p _)[p]? = _;unfold G5;rw[List.getElem?_mapIdx,hz];show some (if p < p∧Y7 G a b=true then 0 else b)=_;rw[if_neg (by omega)]
theorem fT {G:List QI} {x:QI} {p a b:Nat} (ha:x.kind[p]? = some a) (hb:x.to[p]? = some b) (hh:Y7 G a b=true):({ YW G p x with kind:=(YW G p x).kind.set p 1,to:=(YW G p x).to.set p 0 }:QI)=YW G (p+1) x:=by
 have hz:=Ca ha hb;have hl:=(List.getElem?_eq_some_iff.1 hz).1
 have h1:(G4 G p (x.kind.zip x.to)).set p 1=G4 G (p+1) (x.kind.zip x.to):=by
  unfold G4;apply List.ext_getElem?;intro k;rw[List.getElem?_set,List.length_mapIdx,List.getElem?_mapIdx,List.getElem?_mapIdx];by_cases hk:p=k
  ·subst hk;rw[if_pos rfl,if_pos hl,hz];show _=some (if p < p+1∧Y7 G a b=true then 1 else a);rw[if_pos ⟨by omega,hh⟩]
  ·rw[if_neg hk];have:k < p+1↔k < p:=by omega
   simp only[this]
 have h2:(G5 G p (x.kind.zip x.to)).set p 0=G5 G (p+1) (x.kind.zip x.to):=by
  unfold G5;apply List.ext_getElem?;intro k;rw[List.getElem?_set,List.length_mapIdx,List.getElem?_mapIdx,List.getElem?_mapIdx];by_cases hk:p=k
  ·subst hk;rw[if_pos rfl,if_pos hl,hz];show _=some (if p < p+1∧Y7 G a b=true then 0 else b);rw[if_pos ⟨by omega,hh⟩]
  ·rw[if_neg hk];have:k < p+1↔k < p:=by omega
   simp only[this]
 show ({ x with kind:=(G4 G p (x.kind.zip x.to)).set p 1,to:=(G5 G p (x.kind.zip x.to)).set p 0 }:QI)={ x with kind:=G4 G (p+1) (x.kind.zip x.to),to:=G5 G (p+1) (x.kind.zip x.to) };rw[h1,h2]
theorem Oi {G:List QI} {x:QI} {p a b:Nat} (ha:x.kind[p]? = some a) (hb:x.to[p]? = some b) (hh:¬ Y7 G a b=true):YW G p x=YW G (p+1) x:=by
 have hz:=Ca ha hb
 have h1:G4 G p (x.kind.zip x.to)=G4 G (p+1) (x.kind.zip x.to):=by
  unfold G4;apply List.ext_getElem?;intro k;rw[List.getElem?_mapIdx,List.getElem?_mapIdx];by_cases hk:p=k
  ·subst hk;rw[hz];show some (if p < p∧Y7 G a b=true then 1 else a)=some (if p < p+1∧Y7 G a b=true then 1 else a);rw[if_neg (by omega),if_neg (fun h=>hh h.2)]
  ·have:k < p+1↔k < p:=by omega
   simp only[this]
 have h2:G5 G p (x.kind.zip x.to)=G5 G (p+1) (x.kind.zip x.to):=by
  unfold G5;apply List.ext_getElem?;intro k;rw[List.getElem?_mapIdx,List.getElem?_mapIdx];by_cases hk:p=k
  ·subst hk;rw[hz];show some (if p < p∧Y7 G a b=true then 0 else b)=some (if p < p+1∧Y7 G a b=true then 0 else b);rw[if_neg (by omega),if_neg (fun h=>hh h.2)]
  ·have:k < p+1↔k < p:=by omega
   simp only[this]
 unfold YW;rw[h1,h2]
theorem fa {G:List QI} {x:QI} (h:x.kind.length=x.to.length):YW G 0 x=x:=by
 have h1:G4 G 0 (x.kind.zip x.to)=x.kind:=by
  unfold G4;apply List.ext_getElem?;intro k;rw[List.getElem?_mapIdx];cases ha:x.kind[k]? with
  | none=>
   rw[List.getElem?_eq_none_iff] at ha;rw[List.getElem?_eq_none (by rw[List.length_zip];omega)];rfl
  | some a=>
   have hl:=(List.getElem?_eq_some_iff.1 ha).1;rw[Ca ha (List.getElem?_eq_getElem (show k < x.to.length by omega))];show some (if k < 0∧_ then 1 else a)=_;rw[if_neg (by omega)]
 have h2:G5 G 0 (x.kind.zip x.to)=x.to:=by
  unfold G5;apply List.ext_getElem?;intro k;rw[List.getElem?_mapIdx];cases ha:x.to[k]? with
  | none=>
   rw[List.getElem?_eq_none_iff] at ha;rw[List.getElem?_eq_none (by rw[List.length_zip];omega)];rfl
  | some a=>
   have hl:=(List.getElem?_eq_some_iff.1 ha).1;rw[Ca (List.getElem?_eq_getElem (show k < x.kind.length by omega)) ha];show some (if k < 0∧_ then 0 else a)=_;rw[if_neg (by omega)]
 unfold YW;rw[h1,h2]
theorem fb (G:List QI) {x:QI} (h:x.kind.length=x.to.length):YW G x.kind.length x=ZL G x:=by
 have h1:G4 G x.kind.length (x.kind.zip x.to)=(x.kind.zip x.to).map (fun y=>if Y7 G y.1 y.2=true then 1 else y.1):=by
  unfold G4;apply List.ext_getElem?;intro k;rw[List.getElem?_mapIdx,List.getElem?_map];cases hz:(x.kind.zip x.to)[k]? with
  | none=>rfl
  | some y=>
   have hl:=(List.getElem?_eq_some_iff.1 hz).1;rw[List.length_zip] at hl;have hk:k < x.kind.length:=by omega
   show some (if k < x.kind.length∧Y7 G y.1 y.2=true then 1 else y.1)=some (if Y7 G y.1 y.2=true then 1 else y.1);simp only[hk,true_and]
 have h2:G5 G x.kind.length (x.kind.zip x.to)=(x.kind.zip x.to).map (fun y=>if Y7 G y.1 y.2=true then 0 else y.2):=by
  unfold G5;apply List.ext_getElem?;intro k;rw[List.getElem?_mapIdx,List.getElem?_map];cases hz:(x.kind.zip x.to)[k]? with
  | none=>rfl
  | some y=>
   have hl:=(List.getElem?_eq_some_iff.1 hz).1;rw[List.length_zip] at hl;have hk:k < x.kind.length:=by omega
   show some (if k < x.kind.length∧Y7 G y.1 y.2=true then 0 else y.2)=some (if Y7 G y.1 y.2=true then 0 else y.2);simp only[hk,true_and]
 unfold YW ZL;rw[h1,h2]
theorem Ij [Q4] {w:World} {oc:List OC} {l:List Q2} {i:Nat} {y:OC} (hy:oc[i]? = some y) (H:Q0 w (star (oc.map Z2)::l)):∃ rest:List Q2,
  Q0 w (pts y.ptr (Xm y.vw y.vk y.vt y.ob)::UL y.vw y.ob.w::NL y.vk y.ob.kind::NL y.vt y.ob.to::star rest::l) ∧
  ∀ (w':World) (l':List Q2) (x':QI),Q0 w' (pts y.ptr (Xm y.vw y.vk y.vt x')::UL y.vw x'.w::NL y.vk x'.kind::NL y.vt x'.to::star rest::l')→Q0 w' (star ((oc.set i { y with ob:=x' }).map Z2)::l'):=by
 have hsp:oc=oc.take i++y::oc.drop (i+1):=by
  have h1:=List.getElem?_eq_some_iff.1 hy;rw[← h1.2];simp
 refine⟨(oc.take i++oc.drop (i+1)).map Z2,Q0.star.1 ((Q0.pick hsp).1 H),fun w' l' x' H'=>?_⟩;have H':=(Q0.pick (R:=Z2) (x:={ y with ob:=x' }) (g1:=oc.take i) (g2:=oc.drop (i+1)) rfl).2 (Q0.star.2 H');rw[← SL.set_split hy] at H';exact H'
theorem Cb (v:Value) (l:List Nat):NL v l=IL v (l.map fun x:Nat=>(x:Int)):=by
 show QC _ 1 v (QK l)=QC _ 1 v (Qc _);unfold QK Qc;rw[List.map_map];rfl
end Go.Proofs.YtmjdnljneifpcaaGreatDoor
namespace Go.Proofs.YtmjdnljneifpcaaGreatDoor
open Go.SL
theorem fc [Q4] (a:Option Addr) (c:Nat) (L:List Nat) (x:Nat) (hl:L.length≤1000000) {w:World} {fr:List Q2} (H:Q0 w (NL (.slice a L.length c) L::fr)) :
  Calls Tryz.prog 176 #[.slice a L.length c,.int .i64 x] w (ret fun v w'=>v = .bool (decide (x∈L))∧Q0 w' (NL (.slice a L.length c) L::fr)):=by
 have hm:(L.map fun x:Nat=>(x:Int)).length=L.length:=List.length_map _;have h:=Ob a c L.length (L.map fun x:Nat=>(x:Int)) (x:Int) (by omega) (by omega) (w:=w) (fr:=fr) (by rw[hm,← Cb];exact H)
 have hd:decide ((x:Int)∈(L.map fun x:Nat=>(x:Int)).take L.length)=decide (x∈L):=by
  rw[← hm,List.take_length];refine decide_eq_decide.2 ⟨fun h=>?_,fun h=>List.mem_map.2 ⟨x,h,rfl⟩⟩;obtain⟨y,h1,h2⟩:=List.mem_map.1 h;obtain rfl:y=x:=by omega
  exact h1
 rw[hd,hm,← Cb] at h;exact h
theorem Oj [Q4] (p:Nat) (m:MS) (r:Int) (hO:WH m.P) {w:World} {fr:List Q2} (H:Q0 w (Qo p m::fr)) :
  Calls Tryz.prog 101 #[pp p,.int .i64 r] w (ret fun v w'=>(Vr m.P r=false∧v = .tuple #[.slice none 0 0,.int .i64 15]∧Q0 w' (Qo p m::fr))∨(Vr m.P r=true∧∃ vl,v = .tuple #[vl,.int .i64 0]∧Q0 w' (NL vl (Zr m.P r)::Qo p (Xu m (Zr m.P r))::fr))):=by
 obtain⟨t,lc,oc,aL,cL,aO,cO,hm,h2,h3,hl1,hl2,H⟩:=Zb H;have hP:=hm.P;have hfew:=hm.few;refine QQ Tryz.func101 rfl (by kernel_rfl) ?_;refine Bj H ?_;replace H:=Js [1,0] 0 H;refine Jc rfl rfl (WK t m.P r H) ?_;clear H;rintro v w ⟨rfl,H⟩;refine J0 H ?_;cases hlv:Vr m.P r with
 | false=>
  refine J4 H ?_;refine Yj H ?_;exact Q3 (Jy (Ys hm h2 h3 H.swap) rfl fun w' H' => .inl ⟨rfl,rfl,H'⟩)
 | true=>
 refine Gu H ?_;refine J9 H ?_;refine Jc rfl rfl (f9 t m.P hO r hP.1 (by omega) H) ?_;clear H;intro v w H;obtain⟨aU,cU,rfl⟩:=QD H (QF _) (by decide);have hUl:(Zr m.P r).length≤1000000:=by have:=II m.P r m.P.length;unfold Zr;omega
 generalize hL:Zr m.P r=L at H hUl ⊢;refine J0 H ?_;have hm1:=Ii hm L L 0;replace H:=Js [2,1,1,1,1,1,0] 0 H;replace H:=Ys (m:={ m with P:=Vn m.P L,objs:=YR (Qa L) 0 m.objs }) hm1 h2 (by rw[F8];exact h3) H;clear h2 h3 hl1 hl2 lc oc aL cL aO cO;refine J7 H ?_;refine Qn (fun ms σ w=>ms=[]∧σ 0=pp p∧σ 7 = .slice aU L.length cU∧Q0 w (Qo p { m with P:=Vn m.P L,objs:=m.objs.map (Qa L) }::NL (.slice aU L.length cU) L::fr)) ?_ ?_
 ·refine QS ?_;refine Qj (fun ms σ w z=>ms=[]∧∃ i:Nat,i≤m.objs.length∧z=m.objs.length - i∧σ 0=pp p∧σ 7 = .slice aU L.length cU∧σ 8 = .int .i64 i∧Q0 w (Qo p { m with P:=Vn m.P L,objs:=YR (Qa L) i m.objs }::NL (.slice aU L.length cU) L::fr)) (m:=m.objs.length) ⟨rfl,0,by omega,by omega,rfl,rfl,rfl,H⟩ ?_;clear H;rintro ms σ w z ⟨rfl,i,hi,rfl,g0,g7,g8,H⟩;rw[Q1 g0,Q1 g7,Q1 g8];have hml:=WN (Qa L) i m.objs;by_cases hlt:i < m.objs.length
  ·have hx:=List.getElem?_eq_getElem hlt;generalize m.objs[i]=x at hx;have hxi:({ m with P:=Vn m.P L,objs:=YR (Qa L) i m.objs }:MS).objs[i]? = some x:=Oh hx;obtain⟨t,lc,aL,cL,bO,cO,s,ptrs,qq,vw,vk,vt,rest,hmm,h2,hp,H,hclose⟩:=GF H hxi;dsimp only at H hclose;rw[hml] at H hclose;have hset:YR (Qa L) (i+1) m.objs=(YR (Qa L) i m.objs).set i (Qa L x):=(Og hx).symm;have hw':V4 { m with P:=Vn m.P L,objs:=(YR (Qa L) i m.objs).set i (Qa L x) }:=by rw[← hset];exact Ii hm L L (i+1)
   refine KR H ?_;refine Qf rfl (fun h=>QW ?_) (fun h=>absurd (show ((i:Nat):Int) < ((m.objs.length:Nat):Int) by omega) h);refine Rx H ?_;refine Bd H ?_;refine Jd ?_;refine Q5 rfl (QA H rfl hp rfl ?_);refine Jv ?_;refine Gf H ?_;replace H:=Js [10,0,0,0,0,0,0,0,0,0,0] 0 H;refine Jc rfl rfl (fc aU cU L x.region hUl H) ?_;clear H;rintro v w ⟨rfl,H⟩;replace H:=Js [1,1,1,1,1,1,1,1,1,1,0] 0 H;by_cases hin:x.region∈L
   ·rw[decide_eq_true hin];refine BR H ?_;refine Vg rfl ?_;refine J9 H ?_;refine Jd ?_;refine Q5 rfl (QA H rfl hp rfl ?_);refine GU H ?_;clear H;intro w H;refine Q6 ?_;have hxx:Qa L x={ x with gone:=true }:=by unfold Qa;rw[if_pos hin]
    rw[hxx] at hset hw';replace H:Q0 w (pts qq (Xm vw vk vt { x with gone:=true })::_):=H;replace H:=hclose _ _ _ hw' H;rw[← hset] at H;refine V8 H ?_;exact⟨_,⟨rfl,i+1,hlt,rfl,rfl,rfl,Qb (by omega),H⟩,by omega⟩
   ·rw[decide_eq_false hin];refine BR H ?_;refine VU rfl (QW ?_);have hxx:Qa L x=x:=by unfold Qa;rw[if_neg hin]
    rw[hxx] at hset hw';replace H:=hclose _ _ _ hw' H;rw[← hset] at H;refine V8 H ?_;exact⟨_,⟨rfl,i+1,hlt,rfl,rfl,rfl,Qb (by omega),H⟩,by omega⟩
  ·obtain rfl:i=m.objs.length:=by omega
   obtain⟨t,lc,oc,aL,cL,aO,cO,hmm,h2,h3,hl1,hl2,H⟩:=Zb H;dsimp only at H;rw[hml] at H;refine KR H ?_;refine Qf rfl (fun h=>absurd (show ((m.objs.length:Nat):Int) < ((m.objs.length:Nat):Int) from h) (by omega)) (fun h=>Qp ?_);rw[← hml] at H;replace H:=Ys (m:={ m with P:=Vn m.P L,objs:=YR (Qa L) m.objs.length m.objs }) hmm h2 h3 H;rw[Ih] at H;exact⟨rfl,rfl,rfl,rfl,H⟩
 clear H;rintro ms σ w ⟨rfl,g0,g7,H⟩;rw[Q1 g0,Q1 g7];have hmG:=Ii hm L L m.objs.length;rw[Ih] at hmG;obtain⟨t,lc,oc,aL,cL,aO,cO,_,h2,h3,hl1,hl2,H⟩:=Zb H;dsimp only at H h2 h3 hl2;have hGl:(m.objs.map (Qa L)).length=m.objs.length:=List.length_map _;have hfm:(Xu m L).objs=(m.objs.map (Qa L)).map (ZL (m.objs.map (Qa L))):=rfl
 have hGok:∀ x∈m.objs.map (Qa L),Gj m.lays m.objs.length x:=fun x hx=>by
  have:=hmG.objs x hx
  rwa [show ({ m with P:=Vn m.P L,objs:=m.objs.map (Qa L) }:MS).objs.length=m.objs.length from hGl] at this
 have hsz:∀ x∈m.objs.map (Qa L),x.w.length < 8192:=fun x hx=>by
  obtain⟨o,ho⟩:=List.getElem?_of_mem hx;exact RL (w:=hmG) ho
 rw[hGl] at H hl2;generalize m.objs.map (Qa L)=G at H h3 hGl hfm hGok hsz
 let F:OC→OC:=fun y=>{ y with ob:=ZL G y.ob }
 have hF:∀ y,F y={ y with ob:=ZL G y.ob }:=fun _=>rfl;clear_value F;replace H:=Js [5,4,0,0,0,0] 0 H;rw[← F8 F oc] at H;rw[F8] at H;refine J7 H ?_;refine Qn (fun ms σ w=>ms=[]∧σ 7 = .slice aU L.length cU∧Q0 w (star ((oc.map F).map Z2)::QC 77 1 (.slice aO m.objs.length cO) (oc.map fun x=>pp x.ptr)::pts p (row 58 [pp t,.slice aL m.lays.length cL,.slice aO m.objs.length cO])::VS t (Vn m.P L)::QC 102 4 (.slice aL m.lays.length cL) (VE lc)::star (lc.map Y8)::NL (.slice aU L.length cU) L::fr)) ?_ ?_
 ·refine QS ?_;refine Qj (fun ms σ w z=>ms=[]∧∃ i:Nat,i≤m.objs.length∧z=m.objs.length - i∧σ 0=pp p∧σ 7 = .slice aU L.length cU∧σ 10 = .int .i64 i∧Q0 w (star ((YR F i oc).map Z2)::QC 77 1 (.slice aO m.objs.length cO) (oc.map fun x=>pp x.ptr)::pts p (row 58 [pp t,.slice aL m.lays.length cL,.slice aO m.objs.length cO])::VS t (Vn m.P L)::QC 102 4 (.slice aL m.lays.length cL) (VE lc)::star (lc.map Y8)::NL (.slice aU L.length cU) L::fr)) (m:=m.objs.length) ⟨rfl,0,by omega,by omega,rfl,rfl,rfl,by rw[F8];exact H⟩ ?_;clear H;rintro ms σ w z ⟨rfl,i,hi,rfl,g0,g7,g10,H⟩;rw[Q1 g0,Q1 g7,Q1 g10];refine KR H ?_;refine Qf rfl (fun h=>QW ?_) (fun h=>Qp ?_)
  ·have hlt:i < m.objs.length:=by omega
   have hy:=List.getElem?_eq_getElem (show i < oc.length by omega);generalize oc[i]=y at hy;obtain⟨qq,vw,vk,vt,x⟩:=y;have hxG:G[i]? = some x:=by rw[← h3,List.getElem?_map,hy];rfl
   obtain⟨_,_,hkw,htw,hgo⟩:=hGok x (List.mem_of_getElem? hxG);have hkt:x.kind.length=x.to.length:=by omega
   have hsx:=hsz x (List.mem_of_getElem? hxG);have hyK:=Oh (f:=F) hy;obtain⟨rest,Hv,hno⟩:=Ij hyK H;dsimp only at Hv;obtain⟨ak,ck,rfl⟩:=QD (m:=x.kind.length) Hv.drop.drop (QF _) (by decide);obtain⟨at',ct,rfl⟩:=QD (m:=x.kind.length) Hv.drop.drop.drop (by rw[QF,hkt]) (by decide);clear Hv hno rest;obtain⟨bO,sO,rfl,H,hclO⟩:=Qx H.swap (by omega)
   have hpt:∀ (k:Nat) (y:OC),oc[k]? = some y→((oc.map fun x=>pp x.ptr)++sO)[0+k*1]? = some (pp y.ptr):=fun k y hk=>by
    have:=(List.getElem?_eq_some_iff.1 hk).1;rw[Nat.zero_add,Nat.mul_one,List.getElem?_append_left (by rw[List.length_map];exact this),List.getElem?_map,hk];rfl
   refine Wx H ?_;refine Jd ?_;refine Q5 rfl (QA H rfl (hpt i _ hy) rfl ?_);refine J0 H ?_;refine VC H ?_
   have hset0:(YR F i oc).set i ⟨qq,vw,.slice ak x.kind.length ck,.slice at' x.kind.length ct,YW G 0 x⟩=YR F i oc:=by
    rw[fa hkt];apply List.ext_getElem?;intro k;rw[List.getElem?_set];split
    ·rename_i hk;subst hk;rw[if_pos (by rw[WN];omega),hyK]
    ·rfl
   have hFy:F ⟨qq,vw,.slice ak x.kind.length ck,.slice at' x.kind.length ct,x⟩=⟨qq,vw,.slice ak x.kind.length ck,.slice at' x.kind.length ct,YW G x.kind.length x⟩:=by rw[hF,fb G hkt]
   have hstep:=Og (f:=F) hy;rw[hFy] at hstep;rw[← hset0] at H;refine J8 H ?_;refine Qn (fun ms σ w=>ms=[]∧σ 0=pp p∧σ 7 = .slice aU L.length cU∧σ 10 = .int .i64 i∧Q0 w (star (((YR F i oc).set i ⟨qq,vw,.slice ak x.kind.length ck,.slice at' x.kind.length ct,YW G x.kind.length x⟩).map Z2)::pts bO (row 77 ((oc.map fun x=>pp x.ptr)++sO))::pts p (row 58 [pp t,.slice aL m.lays.length cL,.slice (some ⟨bO,0,none⟩) m.objs.length cO])::VS t (Vn m.P L)::QC 102 4 (.slice aL m.lays.length cL) (VE lc)::star (lc.map Y8)::NL (.slice aU L.length cU) L::fr)) ?_ ?_
   ·refine QS ?_;refine Qj (fun ms σ w z=>ms=[]∧∃ j:Nat,j≤x.kind.length∧z=x.kind.length - j∧σ 0=pp p∧σ 7 = .slice aU L.length cU∧σ 10 = .int .i64 i∧σ 11=pp qq∧σ 12 = .int .i64 j∧Q0 w (pts bO (row 77 ((oc.map fun x=>pp x.ptr)++sO))::star (((YR F i oc).set i ⟨qq,vw,.slice ak x.kind.length ck,.slice at' x.kind.length ct,YW G j x⟩).map Z2)::pts p (row 58 [pp t,.slice aL m.lays.length cL,.slice (some ⟨bO,0,none⟩) m.objs.length cO])::VS t (Vn m.P L)::QC 102 4 (.slice aL m.lays.length cL) (VE lc)::star (lc.map Y8)::NL (.slice aU L.length cU) L::fr)) (m:=x.kind.length) ⟨rfl,0,by omega,by omega,rfl,rfl,rfl,rfl,rfl,H⟩ ?_;clear H;rintro ms σ w z ⟨rfl,j,hj,rfl,g0,g7,g10,g11,g12,H⟩;rw[Q1 g0,Q1 g7,Q1 g10,Q1 g11,Q1 g12];have Hc:=H.swap
    have hcur:((YR F i oc).set i ⟨qq,vw,.slice ak x.kind.length ck,.slice at' x.kind.length ct,YW G j x⟩)[i]? = some ⟨qq,vw,.slice ak x.kind.length ck,.slice at' x.kind.length ct,YW G j x⟩:=by
     rw[List.getElem?_set_self (by rw[WN];omega)]
    obtain⟨rest,H,hcv⟩:=Ij hcur Hc;dsimp only at H hcv;obtain⟨hgk,hgt⟩:=fP G j hkt;refine KR H ?_;refine Qf rfl (fun h=>QW ?_) (fun h=>Qp ?_)
    ·have hjl:j < x.kind.length:=by omega
     have ha:=List.getElem?_eq_getElem hjl;have hb:=List.getElem?_eq_getElem (show j < x.to.length by omega);generalize x.kind[j]=a at ha;generalize x.to[j]=b at hb;obtain⟨hga,hgb⟩:=fS (G:=G) ha hb;replace H:=Js [2,0,0,0] 0 H;obtain⟨bk,sk,rfl,H,_,_,hck⟩:=Yv H (by omega);replace H:=Js [3,0,0,0] 0 H;obtain⟨bt,st,rfl,H,_,_,hct⟩:=Yv H (by omega)
     have hback:∀ (w':World) (l':List Q2) (k' t':List Nat),k'.length=x.kind.length→t'.length=x.kind.length→Q0 w' (pts bt (row 3 (QK t'++st))::pts bk (row 3 (QK k'++sk))::pts qq (Xm vw (.slice (some ⟨bk,0,none⟩) x.kind.length ck) (.slice (some ⟨bt,0,none⟩) x.kind.length ct) (YW G j x))::UL vw (YW G j x).w::star rest::l')→Q0 w' (star (((YR F i oc).set i ⟨qq,vw,.slice (some ⟨bk,0,none⟩) x.kind.length ck,.slice (some ⟨bt,0,none⟩) x.kind.length ct,{ YW G j x with kind:=k',to:=t' }⟩).map Z2)::l'):=by
      intro w' l' k' t' e1 e2 H;replace H:=hct _ _ (QK t') (by rw[QF,QF];omega) H;replace H:=Js [1,0,0,0] 0 H;replace H:=hck _ _ (QK k') (by rw[QF,QF];omega) H;replace H:=Js [2,2,0,0] 0 H;have H:=hcv w' l' { YW G j x with kind:=k',to:=t' } H;rw[List.set_set] at H;exact H
     clear hct hck hcv Hc;refine Bh H ?_;clear H;intro w H;refine Uw H ?_;refine Ja 4 ?_;refine Ji 5 ?_;refine Vf 6 [] H rfl (Q8.none rfl) rfl (Gg hga) (by kernel_rfl) ?_;refine Ja 7 ?_;refine Ja 8 ?_;by_cases hk2:a=2
     ·rw[show (((a:Nat):Int) == 2)=true by rw[hk2];rfl]
      have hbl:b < m.objs.length:=by
       have:=hgo j (by rw[ha,hk2]);rw[List.getD_eq_getElem?_getD,hb] at this;exact this
      have hyb:=List.getElem?_eq_getElem (show b < oc.length by omega);generalize oc[b]=yb at hyb
      obtain⟨zb,hzb,hzp,hzg⟩:∃ zb:OC,((YR F i oc).set i ⟨qq,vw,.slice (some ⟨bk,0,none⟩) x.kind.length ck,.slice (some ⟨bt,0,none⟩) x.kind.length ct,YW G j x⟩)[b]? = some zb∧zb.ptr=yb.ptr∧zb.ob.gone=yb.ob.gone:=by
       rw[List.getElem?_set];by_cases hib:i=b
       ·subst hib;rw[if_pos rfl,if_pos (by rw[WN];omega)];rw[hy] at hyb;injection hyb with hyb
        subst hyb;exact⟨_,rfl,rfl,rfl⟩
       ·rw[if_neg hib,WM,hyb];refine⟨_,rfl,?_,?_⟩ <;> dsimp only <;> split
        ·rw[hF]
        ·rfl
        ·rw[hF];rfl
        ·rfl
      have hGb:G[b]? = some yb.ob:=by rw[← h3,List.getElem?_map,hyb];rfl
      have hhit:Y7 G a b=yb.ob.gone:=by
       unfold Y7;rw[hGb,hk2];rfl
      have Hc:=hback _ _ _ _ hgk hgt H;obtain⟨restb,Hb,_⟩:=Ij hzb Hc;have hpb:=hpt b yb hyb;rw[← hzp] at hpb;rw[← hzg] at hhit;refine BC H ?_;refine Jl 12 [] H ?_;refine Ja 13 ?_;refine Ja 14 ?_;refine Jf 15 ?_;refine Jl 16 [] H ?_;refine Ja 17 ?_;refine Ji 18 ?_;refine Vf 19 [] H rfl (Q8.of rfl rfl rfl) rfl (Gg hgb) (by kernel_rfl) ?_;refine Ji 20 ?_;refine Vf 21 [] H rfl (Q8.of rfl rfl rfl) rfl hpb (by kernel_rfl) ?_;refine Ja 22 ?_;refine Jf 23 ?_;refine Vf 24 [] Hb rfl (Q8.of rfl rfl rfl) rfl rfl (by kernel_rfl) ?_;refine Ja 25 ?_;refine FW (by kernel_rfl) (Va.cons (.inr (Q0.at Hb)) (by repeat first|exact .nil|refine .cons (.inr H.at) ?_|refine .cons (.inr H.mp) ?_|refine .cons (.inl (by kernel_rfl)) ?_)) ?_;clear Hb Hc;cases hgn:zb.ob.gone with
      | true=>
       rw[hgn] at hhit
       repeat refine Q7 ?_
       refine Vg rfl ?_
       repeat refine Q7 ?_
       refine QG ?_;refine Jv ?_;refine Jv ?_;refine Q5 rfl (VK rfl rfl ?_);refine Q5 rfl (QA H rfl rfl rfl ?_);refine Jv ?_;refine Jd ?_;refine Q5 rfl (Yf H rfl rfl inferInstance rfl (by simp only[List.length_append,QF];omega) rfl ?_);clear H;intro w H;rw[Int.toNat_natCast,AP (v:=1) (x:=1) (by omega) rfl] at H;refine Dy H ?_;refine Jd ?_;refine Q5 rfl (Yf H rfl rfl inferInstance rfl (by simp only[List.length_append,QF];omega) rfl ?_);clear H;intro w H;rw[Int.toNat_natCast,AP (v:=0) (x:=0) (by omega) rfl] at H;refine Q6 ?_;replace H:=hback _ _ _ _ (by rw[List.length_set];exact hgk) (by rw[List.length_set];exact hgt) H;rw[fT ha hb hhit] at H;refine V8 H ?_;exact⟨_,⟨rfl,j+1,hjl,rfl,rfl,rfl,rfl,rfl,Qb (by omega),H.swap⟩,by omega⟩
      | false=>
       rw[hgn] at hhit;refine V5 H ?_;replace H:=hback _ _ _ _ hgk hgt H;replace H:Q0 w (star (((YR F i oc).set i ⟨qq,vw,.slice (some ⟨bk,0,none⟩) x.kind.length ck,.slice (some ⟨bt,0,none⟩) x.kind.length ct,YW G j x⟩).map Z2)::_):=H;rw[Oi ha hb (by rw[hhit];decide)] at H;refine V8 H ?_;exact⟨_,⟨rfl,j+1,hjl,rfl,rfl,rfl,rfl,rfl,Qb (by omega),H.swap⟩,by omega⟩
     ·rw[show (((a:Nat):Int) == 2)=false by rw[beq_eq_false_iff_ne];omega]
      have hhit:¬ Y7 G a b=true:=by
       unfold Y7;rw[show (a == 2)=false by rw[beq_eq_false_iff_ne];exact hk2];simp
      refine Dz H ?_;refine Jn 12 ?_;refine Jn 13 ?_;refine E0 H ?_;refine Jn 24 ?_;refine Ja 25 ?_;refine Jx H ?_;refine V5 H ?_;replace H:=hback _ _ _ _ hgk hgt H;replace H:Q0 w (star (((YR F i oc).set i ⟨qq,vw,.slice (some ⟨bk,0,none⟩) x.kind.length ck,.slice (some ⟨bt,0,none⟩) x.kind.length ct,YW G j x⟩).map Z2)::_):=H;rw[Oi ha hb hhit] at H;refine V8 H ?_;exact⟨_,⟨rfl,j+1,hjl,rfl,rfl,rfl,rfl,rfl,Qb (by omega),H.swap⟩,by omega⟩
    ·obtain rfl:j=x.kind.length:=by omega
     exact⟨rfl,rfl,rfl,rfl,rfl,Hc⟩
   clear H;rintro ms σ w ⟨rfl,g0,g7,g10,H⟩;rw[Q1 g0,Q1 g7,Q1 g10];rw[hstep] at H;replace H:=(hclO _ _ H.swap).swap;refine V8 H ?_;exact⟨_,⟨rfl,i+1,hlt,rfl,rfl,rfl,Qb (by omega),H⟩,by omega⟩
  ·obtain rfl:i=oc.length:=by omega
   rw[Ih] at H;exact⟨rfl,rfl,rfl,H⟩
 clear H;rintro ms σ w ⟨rfl,g7,H⟩;rw[Q1 g7];replace H:=Js [2,2,2,2,1,0] 0 H
 have hpp:(oc.map fun x=>pp x.ptr)=((oc.map F).map fun x=>pp x.ptr):=by
  rw[List.map_map];congr 1
  funext y
  show pp y.ptr=pp (F y).ptr;rw[hF]
 rw[hpp] at H
 have hob:(oc.map F).map (·.ob)=G.map (ZL G):=by
  have e1:(oc.map F).map (·.ob)=oc.map (fun y=>ZL G y.ob):=by
   rw[List.map_map];congr 1
   funext y
   show (F y).ob=_;rw[hF]
  have e2:(oc.map (·.ob)).map (ZL G)=oc.map (fun y=>ZL G y.ob):=by
   rw[List.map_map];rfl
  rw[e1,← e2,h3]
 have H:=Ys (m:=Xu m L) (fB hm L) h2 (by rw[hfm];exact hob) H;refine V8 H ?_;exact Q3 (Jy H.swap rfl fun w' H' => .inr ⟨rfl,_,rfl,H'⟩)
end Go.Proofs.YtmjdnljneifpcaaGreatDoor
namespace Go.Proofs.YtmjdnljneifpcaaGreatDoor
open Go.SL
theorem fe {c:List Value} {o n:Nat} {L:List Int} (h:QY c o n (Qc L)) {i:Nat} {x:Int} (hi:L[i]? = some x):c[o+i*1]? = some (.int .i64 x):=by
 rw[Nat.mul_one];refine h.get i _ ?_;unfold Qc;rw[List.getElem?_map,hi];rfl
theorem ff [Q4] (p c mo:Nat) (a:Option Addr) (cap:Nat) (told:List (Nat×Nat)) (hlen:told.length≤1000000) (vL:Value) (L:List Int) (hL:L.length≤1000000) {w:World} {fr:List Q2} (hr:Vm fr vL L.length 1 (Qc L)) (H:Q0 w (Y6 p c mo (.slice a told.length cap)::VW (.slice a told.length cap) told::fr)) :
  Calls Tryz.prog 25 #[pp p,vL] w (ret fun v w'=>∃ (ys:List ((Nat×Nat)×Int)) (vt vo:Value),v = .tuple #[vt,vo]∧ys.length=L.length∧(∀ y∈ys,Rh told y)∧Q0 w' (VW vt (ys.map (·.1))::IL vo (ys.map (·.2))::Y6 p c mo (.slice a told.length cap)::VW (.slice a told.length cap) told::fr)):=by
 obtain⟨h0,adL,capL,rfl,hrd⟩:=hr;refine QQ Tryz.func25 rfl (by kernel_rfl) ?_;refine J4 H ?_;refine VC H ?_;refine Wn H ?_;refine Qj (fun ms σ w z=>ms=[]∧∃ (i:Nat) (ys:List ((Nat×Nat)×Int)) (vt vo:Value),i≤L.length∧z=L.length - i∧ys.length=i∧(∀ y∈ys,Rh told y)∧σ 0=pp p∧σ 6=vt∧σ 7=vo∧σ 11 = .slice adL L.length capL∧σ 12 = .int .i64 L.length∧σ 13 = .int .i64 i∧Q0 w (VW vt (ys.map (·.1))::IL vo (ys.map (·.2))::Y6 p c mo (.slice a told.length cap)::VW (.slice a told.length cap) told::fr)) (m:=L.length) ⟨rfl,0,[],_,_,by omega,by omega,rfl,fun y hy=>(by cases hy),rfl,rfl,rfl,rfl,rfl,rfl,Yu (Yu H)⟩ ?_;clear H;rintro ms σ w z ⟨rfl,i,ys,vt,vo,hi,rfl,hys,hch,g0,g6,g7,g11,g12,g13,H⟩;obtain⟨at',mt,ct,rfl⟩:=Qq H;obtain⟨ao,mo',co,rfl⟩:=Qq H.drop;rw[Q1 g0,Q1 g6,Q1 g7,Q1 g11,Q1 g12,Q1 g13];refine J7 H ?_;refine Qf rfl (fun h=>QW ?_) (fun h=>Qp ?_)
 ·have hlt:i < L.length:=by omega
  have hy:=List.getElem?_eq_getElem hlt;generalize L[i]=x at hy
  rcases hrd with hz|⟨b,o,E,fz,cc,rfl,hA,hrd⟩
  ·omega
  haveI:=hA;have hx:=fe hrd hy;refine YY H ?_;refine Jd ?_;refine Q5 rfl (QA H rfl hx rfl ?_);refine J0 H ?_;refine Ya H ?_;refine UK H ?_;by_cases ht:told=[]
  ·subst ht;rw[show ((([]:List (Nat×Nat)).length:Int) == 0)=true from rfl];refine VD H ?_;refine YZ H ?_;refine BY H ?_;clear H;intro b25 w H;replace H:=Js [1,0] 0 H;refine Q5 rfl (YC H rfl rfl (by repeat first|exact .nil _|apply QY.cons rfl) rfl (by decide) (by rw[Ra,List.length_map];simp only[List.length_cons,List.length_nil];omega) rfl rfl ?_);clear H;intro v26 w H;obtain⟨a26,m26,c26,rfl⟩:=Qq H;refine Jv ?_;refine GG H ?_;clear H;intro b28 w H;replace H:=Js [3,0,0,0] 0 H;refine Q5 rfl (YC H rfl rfl (by repeat first|exact .nil _|apply QY.cons rfl) rfl (by decide) (by rw[Vc,List.length_map];simp only[List.length_cons,List.length_nil];omega) rfl rfl ?_);clear H;intro v29 w H;obtain⟨a29,m29,c29,rfl⟩:=Qq H;refine J2 H ?_;replace H:=Js [1,2,1,0] 0 H;replace H:=H.drop.drop;have e1:ZU (ys.map (·.1))++[.int .i64 1,.int .i64 1]=ZU ((ys++[(((1,1),-1):(Nat×Nat)×Int)]).map (·.1)):=by rw[List.map_append,I2];rfl
   have e2:Qc (ys.map (·.2))++[.int .i64 (-1)]=Qc ((ys++[(((1,1),-1):(Nat×Nat)×Int)]).map (·.2)):=by rw[List.map_append,AH];rfl
   rw[e1,e2] at H;refine Qp ?_;refine J4 H ?_;refine⟨_,⟨rfl,i+1,ys++[((1,1),-1)],_,_,hlt,rfl,by simp[hys],fun y hy=>?_,rfl,rfl,rfl,rfl,rfl,Qb (by omega),H⟩,by omega⟩
   rcases List.mem_append.1 hy with hy|hy
   ·exact hch y hy
   ·rw[List.mem_singleton] at hy;subst hy;exact .inr ⟨rfl,rfl⟩
  ·have hlp:0 < told.length:=List.length_pos_iff.2 ht;rw[show ((told.length:Int) == 0)=false by rw[beq_eq_false_iff_ne];omega];refine Wv H ?_;refine Q5 rfl (FS rfl rfl ?_);refine YS H ?_;refine Gf H ?_;refine Q5 rfl (ZO rfl rfl ?_);refine Q5 rfl (FS rfl rfl ?_)
   obtain⟨K,hK⟩:∃ K:Nat,IntKind.u64.wrap x=K:=⟨(IntKind.u64.wrap x).toNat,by
    have:0≤IntKind.u64.wrap x:=Int.emod_nonneg _ (by decide);omega⟩
   have e1:IntKind.u64.wrap (told.length:Int)=(told.length:Int):=Int.emod_eq_of_lt (by omega) (by show (told.length:Int) < 18446744073709551616;omega);rw[hK,e1];have hmod:=Nat.mod_lt K hlp
   refine UQ (v := .int .u64 ((K % told.length:Nat):Int)) (by
    show (if IntKind.u64=IntKind.u64 then (if (told.length:Int)=0 then none else some (Value.int IntKind.u64 (Int.tmod (K:Int) (told.length:Int)))) else none)=_;rw[if_pos rfl,if_neg (by omega),Int.tmod_eq_emod_of_nonneg (by omega),Int.natCast_emod]) rfl ?_
   refine Q5 rfl (FS rfl rfl ?_);rw[QT (x:=((K % told.length:Nat):Int)) (by omega) (by omega)];refine J0 H ?_;generalize K % told.length=n at hmod;have hn:=List.getElem?_eq_getElem hmod;generalize told[n]=xy at hn;obtain⟨tx,ty⟩:=xy;replace H:=Js [3,0,0,0] 0 H;obtain⟨bT,sT,rfl,H,hcl⟩:=Qx H hlp;refine Be H ?_;refine Jd ?_;refine Q5 rfl (VH H rfl (Ka hn) rfl ?_);refine GG H ?_;clear H;intro b48 w H;replace H:=Js [2,0,0] 0 H;refine Q5 rfl (YC H rfl rfl (by repeat first|exact .nil _|apply QY.cons rfl) rfl (by decide) (by rw[Ra,List.length_map];simp only[List.length_cons,List.length_nil];omega) rfl rfl ?_);clear H;intro v49 w H;obtain⟨a49,m49,c49,rfl⟩:=Qq H;refine YS H ?_;refine GG H ?_;clear H;intro b52 w H;replace H:=Js [4,0,0,0,0] 0 H;refine Q5 rfl (YC H rfl rfl (by repeat first|exact .nil _|apply QY.cons rfl) rfl (by decide) (by rw[Vc,List.length_map];simp only[List.length_cons,List.length_nil];omega) rfl rfl ?_);clear H;intro v53 w H;obtain⟨a53,m53,c53,rfl⟩:=Qq H;refine J2 H ?_;replace H:=Js [4,2,0,2,0,0] 0 H;replace H:=hcl _ _ H;replace H:=Js [4,4,1,1,1,0] 0 H;replace H:=H.drop.drop;have e2:ZU (ys.map (·.1))++[.int .i64 ((tx:Nat):Int),.int .i64 ((ty:Nat):Int)]=ZU ((ys++[(((tx,ty),(n:Int)):(Nat×Nat)×Int)]).map (·.1)):=by rw[List.map_append,I2];rfl
   have e3:Qc (ys.map (·.2))++[.int .i64 (n:Int)]=Qc ((ys++[(((tx,ty),(n:Int)):(Nat×Nat)×Int)]).map (·.2)):=by rw[List.map_append,AH];rfl
   rw[e2,e3] at H;refine J4 H ?_;refine⟨_,⟨rfl,i+1,ys++[((tx,ty),(n:Int))],_,_,hlt,rfl,by simp[hys],fun y hy=>?_,rfl,rfl,rfl,rfl,rfl,Qb (by omega),H⟩,by omega⟩
   rcases List.mem_append.1 hy with hy|hy
   ·exact hch y hy
   ·rw[List.mem_singleton] at hy;subst hy;exact .inl ⟨n,rfl,hn⟩
 ·obtain rfl:i=L.length:=by omega
  refine W6 H ?_;exact Q3 (Jy H rfl fun w' H'=>⟨ys,_,_,rfl,hys,hch,H'⟩)
end Go.Proofs.YtmjdnljneifpcaaGreatDoor
namespace Go.Proofs.YtmjdnljneifpcaaGreatDoor
open Go.SL
set_option maxRecDepth 10000 in
theorem fg [Q4] (p:Nat) (u:GJ) (s:CS) (r:Int) (v:Value) (l:List (Nat×Nat)) (hl:l.length≤1000) {w:World} {fr:List Q2} (H:Q0 w (Qh u.tp s.tab::V7 p u::Qg u.trp s.last s.par::VW v l::fr)) :
  Calls Tryz.prog 66 #[pp p,.int .i64 r,v] w (ret fun x w'=>x = .int .i64 (ZJ s r l:Nat)∧Q0 w' (Qh u.tp s.tab::V7 p u::Qg u.trp s.last s.par::VW v l::fr)):=by
 obtain⟨a,c,rfl⟩:=QD (H.pull 3) (Ra l) (by decide);refine QQ Tryz.func66 rfl (by kernel_rfl) ?_;refine VC H ?_;refine SC ?_;refine Gy H ?_;by_cases h64:64 < l.length
 ·rw[show decide (((l.length:Nat):Int) > 64)=true from decide_eq_true (by omega)];refine YG H ?_;exact Q3 (Jy H rfl fun w' H'=>⟨by unfold ZJ;rw[if_pos h64];rfl,H'⟩)
 have hfail:∀ x:Nat,x≠0→Z7 s.tab r [] l=x→ZJ s r l=x:=fun x h1 h2=>by
  unfold ZJ;rw[if_neg h64,h2,if_pos h1]
 rw[show decide (((l.length:Nat):Int) > 64)=false from decide_eq_false (by omega)];refine V5 H ?_;refine J7 H ?_;refine P8 ?_;refine Gy H ?_;replace H:=Js [3,0,0,0] 0 H;refine J8 H ?_;refine Vy (fun ms σ w=>ms=[]∧∃ again:Bool,((again=true∧Z7 s.tab r [] l=14)∨(again=false∧Z7 s.tab r [] l=0))∧σ 0=pp p∧σ 7 = .bool again∧Q0 w (VW (.slice a l.length c) l::Qh u.tp s.tab::V7 p u::Qg u.trp s.last s.par::fr)) ?_ ?_
 ·refine QS ?_;refine Qj (fun ms σ w z=>ms=[]∧∃ i:Nat,i≤l.length∧z=l.length - i∧Z7 s.tab r (l.take i) (l.drop i)=Z7 s.tab r [] l∧σ 0=pp p∧σ 1 = .int .i64 r∧σ 2 = .slice a l.length c∧σ 7 = .bool false∧σ 17 = .slice a l.length c∧σ 18 = .int .i64 l.length∧σ 19 = .int .i64 i∧Q0 w (VW (.slice a l.length c) l::Qh u.tp s.tab::V7 p u::Qg u.trp s.last s.par::fr)) (m:=l.length) ⟨rfl,0,by omega,by omega,rfl,rfl,rfl,rfl,rfl,rfl,rfl,rfl,H⟩ ?_;clear H;rintro ms σ w z ⟨rfl,i,hi,rfl,hch,g0,g1,g2,g7,g17,g18,g19,H⟩;rw[Q1 g0,Q1 g1,Q1 g2,Q1 g7,Q1 g17,Q1 g18,Q1 g19];refine J7 H ?_;refine Qf rfl (fun h=>QW ?_) (fun h=>Qp ?_)
  ·have hlt:i < l.length:=by omega
   have hx:=List.getElem?_eq_getElem hlt;have htk:l.take (i+1)=l.take i++[l[i]]:=by rw[List.take_add_one,hx];rfl
   rw[List.drop_eq_getElem_cons hlt] at hch;generalize l[i]=t at hx htk hch;obtain⟨k,n⟩:=t;obtain⟨bT,sT,rfl,H,hcap,_,hcl⟩:=Yv H (by omega);refine BV H ?_;refine Jd ?_;refine Q5 rfl (VH H rfl (Ka hx) rfl ?_);refine VZ H ?_;clear H;intro b9 w H;refine D8 H ?_;clear H;intro w H;refine Q6 ?_;replace H:Q0 w (pts b9 (row 69 [.int .i64 k,.int .i64 n])::pts bT (row 69 (ZU l++sT))::Qh u.tp s.tab::V7 p u::Qg u.trp s.last s.par::fr):=H;obtain⟨e1,e2,h1,h2,e4,hsh⟩:=C5 (Qk s.tab k n);refine J8 H ?_
   refine Qn (fun ms σ w=>ms=[]∧∃ b10,σ 0=pp p∧σ 1 = .int .i64 r∧σ 2 = .slice (some ⟨bT,0,none⟩) l.length c∧σ 7 = .bool false∧σ 8 = .int .i64 i∧σ 9=pp b9∧σ 10=pp b10∧σ 11 = .int .i64 e4∧σ 17 = .slice (some ⟨bT,0,none⟩) l.length c∧σ 18 = .int .i64 l.length∧σ 19 = .int .i64 i ∧
    Q0 w (Qh u.tp s.tab::pts b10 (row 113 [.int .i64 e1,.int .i64 e2,.bool h1,.bool h2])::pts b9 (row 69 [.int .i64 k,.int .i64 n])::pts bT (row 69 (ZU l++sT))::V7 p u::Qg u.trp s.last s.par::fr)) ?_ ?_
   ·replace H:=Js [2,0,0,0,0] 0 H;refine J1 H ?_;clear H;intro w H;refine R6 H ?_;refine Jw 5 9 H rfl rfl (V2 (a:=[]) (b:=[]) rfl rfl (call (ZF u.tp s.tab k n H) ?_)) (Vu H rfl ?_)
    ·clear H;rintro v w ⟨rfl,H⟩;rw[hsh];refine R7 H ?_;clear H;intro b10 w H;refine R8 H ?_;clear H;intro w H;refine GX H ?_;replace H:=Js [1,0,0,0,0,0] 0 H;exact⟨rfl,rfl,b10,rfl,rfl,rfl,rfl,rfl,rfl,rfl,rfl,rfl,rfl,rfl,H⟩
    ·clear H;intro b10 w H;refine Jo 5 H ?_;refine Jk rfl rfl (ZF u.tp s.tab k n H.swap) ?_;clear H;rintro v w ⟨rfl,H⟩;rw[hsh];refine R9 H ?_;clear H;intro w H;refine GX H ?_;exact⟨rfl,rfl,b10,rfl,rfl,rfl,rfl,rfl,rfl,rfl,rfl,rfl,rfl,rfl,H⟩
   clear H;rintro ms σ w ⟨rfl,b10,g0,g1,g2,g7,g8,g9,g10,g11,g17,g18,g19,H⟩;rw[Q1 g0,Q1 g1,Q1 g2,Q1 g7,Q1 g8,Q1 g9,Q1 g10,Q1 g11,Q1 g17,Q1 g18,Q1 g19];cases hL:Qk s.tab k n with
   | none=>
    have hv:Qm s.tab k n=none:=by unfold Qm;rw[hL]
    rw[F1 hv] at hch;rw[hL] at hsh;cases hsh;refine Rx H ?_;refine Kx H ?_;refine Df H ?_;replace H:=Js [3,0,2,2] 2 H;replace H:=hcl _ _ _ rfl H;replace H:=Js [1,1,1,0] 0 H;exact Q3 (.inr ⟨by simp,Jy H rfl fun w' H'=>⟨by rw[hfail 8 (by decide) hch.symm];rfl,H'⟩⟩)
   | some q=>
    obtain⟨k',e⟩:=q;obtain⟨n',hn1,hn2,hk⟩:=Y5.1 hL;obtain rfl:k=k':=by omega
    obtain rfl:n=n':=by omega
    rw[hL] at hsh;cases hsh;cases hh:e.held with
    | false=>
     have hv:Qm s.tab k n=none:=by unfold Qm;rw[hL];show (if e.held=true then some (k,e) else none)=none;rw[hh];rfl
     rw[F1 hv] at hch;rw[hh] at H;refine Rx H ?_;refine Gw H ?_;refine Df H ?_;replace H:=Js [3,0,2,2] 2 H;replace H:=hcl _ _ _ rfl H;replace H:=Js [1,1,1,0] 0 H;exact Q3 (.inr ⟨by simp,Jy H rfl fun w' H'=>⟨by rw[hfail 8 (by decide) hch.symm];rfl,H'⟩⟩)
    | true=>
     have hv:Qm s.tab k n=some (k,e):=XQ.2 ⟨hL,hh⟩;rw[IP hv] at hch;rw[hh] at H;refine Rx H ?_;refine Gw H ?_;refine K3 H ?_;refine K6 H ?_;refine Wy H ?_;by_cases hr:e.region=r
     ·rw[show (e.region != r)=false by rw[hr];simp];rw[if_neg (by simpa using hr)] at hch;refine Bb H ?_;refine AU H ?_;cases hp:e.pinned with
      | true=>
       rw[hp,if_pos rfl] at hch;refine YG H ?_;replace H:=Js [3,0,2,2] 2 H;replace H:=hcl _ _ _ rfl H;replace H:=Js [1,1,1,0] 0 H;exact Q3 (.inr ⟨by simp,Jy H rfl fun w' H'=>⟨by rw[hfail 13 (by decide) hch.symm];rfl,H'⟩⟩)
      | false=>
       rw[hp,if_neg (by decide)] at hch;refine A4 H ?_;refine Q5 rfl (Ps rfl rfl (by omega) (by omega) rfl ?_);rw[Int.toNat_natCast];refine UK H ?_;replace H:=Js [3,0,1,1,1] 1 H;refine GV H ?_
       refine Qj (fun ms σ w z=>ms=[]∧∃ j:Nat,j≤i∧z=i - j∧(∀ x∈l.take j,x≠(k,n))∧σ 0=pp p∧σ 1 = .int .i64 r∧σ 2 = .slice (some ⟨bT,0,none⟩) l.length c∧σ 7 = .bool false∧σ 9=pp b9∧σ 17 = .slice (some ⟨bT,0,none⟩) l.length c∧σ 18 = .int .i64 l.length∧σ 19 = .int .i64 i∧σ 51 = .slice (some ⟨bT,0,none⟩) i c∧σ 52 = .int .i64 i∧σ 53 = .int .i64 j ∧
        Q0 w (pts bT (row 69 (ZU l++sT))::Qh u.tp s.tab::pts b9 (row 69 [.int .i64 k,.int .i64 n])::V7 p u::Qg u.trp s.last s.par::fr)) (m:=i) ⟨rfl,0,by omega,by omega,(fun x hx=>by simp at hx),rfl,rfl,rfl,rfl,rfl,rfl,rfl,rfl,rfl,rfl,rfl,H⟩ ?_
       clear H;rintro ms σ w z ⟨rfl,j,hj,rfl,hno,g0,g1,g2,g7,g9,g17,g18,g19,g51,g52,g53,H⟩;rw[Q1 g0,Q1 g1,Q1 g2,Q1 g7,Q1 g9,Q1 g17,Q1 g18,Q1 g19,Q1 g51,Q1 g52,Q1 g53];refine J7 H ?_;refine Qf rfl (fun h=>QW ?_) (fun h=>Qp ?_)
       ·have hjl:j < i:=by omega
        have hy:=List.getElem?_eq_getElem (l:=l) (i:=j) (by omega);have htj:l.take (j+1)=l.take j++[l[j]]:=by rw[List.take_add_one,hy];rfl
        generalize l[j]=y at hy htj;obtain⟨k2,n2⟩:=y;refine YY H ?_;refine Jd ?_;refine Q5 rfl (VH H rfl (Ka hy) rfl ?_);refine VZ H ?_;clear H;intro b13 w H;refine J3 H ?_;clear H;intro w H;refine E5 H ?_;refine BW H ?_;refine Qf (p:=(((k2:Nat):Int),((n2:Nat):Int))=(((k:Nat):Int),((n:Nat):Int))) rfl (fun he=>?_) (fun he=>QW ?_)
        ·have hkn:(k2,n2)=(k,n):=by
          injection he with e1 e2
          exact Prod.ext (by show k2=k;omega) (by show n2=n;omega)
         rw[hkn] at hy;rw[if_pos (List.mem_of_getElem? (i:=j) (by rw[List.getElem?_take_of_lt hjl];exact hy))] at hch;refine VC H ?_;refine Qp ?_;replace H:=Js [1,1,2,2] 2 H;replace H:=hcl _ _ _ rfl H;exact .inl ⟨rfl,rfl,true,.inl ⟨rfl,hch.symm⟩,rfl,rfl,H⟩
        ·refine J4 H ?_;refine⟨_,⟨rfl,j+1,hjl,rfl,(fun x hx=>?_),rfl,rfl,rfl,rfl,rfl,rfl,rfl,rfl,rfl,rfl,Qb (by omega),H.drop⟩,by omega⟩;rw[htj] at hx
         rcases List.mem_append.1 hx with hx|hx
         ·exact hno x hx
         ·rw[List.mem_singleton] at hx;subst hx;intro h;injection h with e1 e2
          exact he (by rw[e1,e2])
       ·obtain rfl:j=i:=by omega
        rw[if_neg (fun h=>hno _ h rfl),← htk] at hch;refine J4 H ?_;replace H:=Js [0,0,1,1] 1 H;replace H:=hcl _ _ _ rfl H;exact⟨_,⟨rfl,j+1,hlt,rfl,hch,rfl,rfl,rfl,rfl,rfl,rfl,Qb (by omega),H⟩,by omega⟩
     ·rw[show (e.region != r)=true by simpa using hr];rw[if_pos hr] at hch;refine YG H ?_;replace H:=Js [3,0,2,2] 2 H;replace H:=hcl _ _ _ rfl H;replace H:=Js [1,1,1,0] 0 H;exact Q3 (.inr ⟨by simp,Jy H rfl fun w' H'=>⟨by rw[hfail 15 (by decide) hch.symm];rfl,H'⟩⟩)
  ·obtain rfl:i=l.length:=by omega
   rw[List.drop_length] at hch;exact .inl ⟨rfl,rfl,false,.inr ⟨rfl,hch.symm⟩,rfl,rfl,H⟩
 clear H;rintro ms σ w ⟨rfl,again,hag,g0,g7,H⟩;rw[Q1 g0,Q1 g7];refine J8 H ?_;refine Vy (fun ms σ w=>ms=[]∧ZJ s r l=0∧Q0 w (Qh u.tp s.tab::V7 p u::Qg u.trp s.last s.par::VW (.slice a l.length c) l::fr)) ?_ ?_
 ·refine QS ?_;refine J4 H ?_
  rcases hag with ⟨rfl,hch⟩|⟨rfl,hch⟩
  ·refine YG H ?_;replace H:=Js [1,1,1,0] 0 H;exact Q3 (.inr ⟨by simp,Jy H rfl fun w' H'=>⟨by rw[hfail 14 (by decide) hch];rfl,H'⟩⟩)
  ·refine Bb H ?_;replace H:=Js [3,1,1,0] 0 H;refine Ya H ?_;refine Jc rfl rfl (MC u.trp s.last s.par H) ?_;clear H;rintro v w ⟨rfl,H⟩;refine Jv ?_;by_cases hf:s.par.length=64
   ·rw[show (((s.par.length:Nat):Int) == (64:Int))=true by rw[hf];rfl];refine UU H ?_;replace H:=Js [1,1,0,0] 0 H;exact Q3 (.inr ⟨by simp,Jy H rfl fun w' H'=>⟨by unfold ZJ;rw[if_neg h64,hch,if_neg (by decide),if_pos hf];rfl,H'⟩⟩)
   ·rw[show (((s.par.length:Nat):Int) == (64:Int))=false by rw[beq_eq_false_iff_ne];omega];refine Y0 H ?_;replace H:=Js [1,1,0,0] 0 H;exact .inl ⟨rfl,rfl,by unfold ZJ;rw[if_neg h64,hch,if_neg (by decide),if_neg hf],H⟩
 clear H;rintro ms σ w ⟨rfl,hE,H⟩;refine VC H ?_;exact Q3 (Jy H rfl fun w' H'=>⟨by rw[hE];rfl,H'⟩)
end Go.Proofs.YtmjdnljneifpcaaGreatDoor
