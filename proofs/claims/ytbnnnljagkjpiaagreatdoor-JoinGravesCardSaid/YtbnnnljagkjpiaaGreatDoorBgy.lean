/- Cells: what is proved on the way: every input of the statement; no condition. Texts joined: ModF ModG ModH ModI ModJ ActA JnA ActC. -/
import Derived.Test.YtbnnnljagkjpiaaGreatDoorBgf
import Derived.Test.YtbnnnljagkjpiaaGreatDoorBgt
import Derived.Test.YtbnnnljagkjpiaaGreatDoorBgu
import Derived.Test.YtbnnnljagkjpiaaGreatDoorBgx
set_option linter.unusedVariables false
set_option linter.unusedSimpArgs false
set_option linter.unusedSectionVars false
namespace Go.Proofs.YtbnnnljagkjpiaaGreatDoor
open List
open Go.SL
theorem PJ [Q4] (a:Option Addr) (c n:Nat) (L:List Int) (x:Int) (hn:n≤L.length) (hl:L.length≤1000000) {w:World} {fr:List Q2} (H:Q0 w (IL (.slice a L.length c) L::fr)) :
  Calls Tryz.prog 167 #[.slice a n c,.int .i64 x] w (ret fun v w'=>v = .bool (decide (x∈L.take n))∧Q0 w' (IL (.slice a L.length c) L::fr)):=by
 refine QQ Tryz.func167 rfl (by kernel_rfl) ?_;refine HC H ?_;refine Ql (fun ms σ w z=>ms=[]∧∃ i:Nat,i≤n∧z=n - i∧x∉L.take i∧σ 0 = .slice a n c∧σ 1 = .int .i64 x∧σ 5 = .int .i64 i∧Q0 w (IL (.slice a L.length c) L::fr)) (m:=n) ⟨rfl,0,by omega,by omega,by simp,rfl,rfl,rfl,H⟩ ?_;clear H;rintro ms σ w z ⟨rfl,i,hi,rfl,hno,g0,g1,g5,H⟩;rw[Q1 g0,Q1 g1,Q1 g5];refine KT H ?_;refine Qj rfl (fun h=>QD ?_) (fun h=>Qp ?_)
 ·have hlt:i < n:=by omega
  have hil:i < L.length:=by omega
  have hy:=getElem?_eq_getElem hil;have htk:L.take (i+1)=L.take i++[L[i]]:=by rw[take_add_one,hy];rfl
  generalize L[i]=y at hy htk;obtain⟨b,s,rfl,H,hcl⟩:=V3 H (by omega);refine Xs H ?_;refine Jd ?_;refine Q5 rfl (QB H rfl (by simpa using Ue hy) rfl ?_);replace H:=hcl _ _ H;by_cases hxy:y=x
  ·first|refine Jv ?_|refine Up rfl rfl ?_
   refine Jv ?_;rw[show (y == x)=true by rw[hxy];exact beq_self_eq_true x];refine J2 H ?_;refine YC H ?_;have hm:x∈L.take n:=mem_of_getElem? (i:=i) (by rw[getElem?_take_of_lt hlt,hy,hxy]);rw[decide_eq_true hm];exact Q3 (Jy H rfl fun w' H'=>⟨rfl,H'⟩)
  ·first|refine Jv ?_|refine Up rfl rfl ?_
   refine Jv ?_;rw[show (y == x)=false by rw[beq_eq_false_iff_ne];exact hxy];refine RT H ?_;refine VX H ?_;refine⟨_,⟨rfl,i+1,hlt,rfl,?_,rfl,rfl,Qc (by omega),H⟩,by omega⟩;rw[htk,mem_append,mem_singleton];rintro(h1|h1)
   ·exact hno h1
   ·exact hxy h1.symm
 ·obtain rfl:i=n:=by omega
  rw[decide_eq_false hno];refine VF H ?_;exact Q3 (Jy H rfl fun w' H'=>⟨rfl,H'⟩)
def Gq (id q:Nat) (os:List QI) (i:Nat):List QI:=os.mapIdx fun k x=>if k < i then GG id q x else x
theorem B9 (id q:Nat) (os:List QI) (i k:Nat):(Gq id q os i)[k]? = (os[k]?).map fun x=>if k < i then GG id q x else x:=getElem?_mapIdx
theorem JB (id q:Nat) (os:List QI) (i:Nat):(Gq id q os i).length=os.length:=length_mapIdx
theorem iV (id q:Nat) (os:List QI):Gq id q os 0=os:=by
 apply ext_getElem?;intro k;rw[B9];cases os[k]? <;> simp
theorem iY {id q:Nat} {os:List QI} {i:Nat} {x:QI} (h:os[i]? = some x):(Gq id q os i).set i (GG id q x)=Gq id q os (i+1):=by
 have hil:=(List.getElem?_eq_some_iff.1 h).1;apply ext_getElem?;intro k;rw[getElem?_set,B9,B9,JB];by_cases hk:i=k
 ·subst hk;rw[if_pos rfl,if_pos hil,h];simp only[Option.map_some];rw[if_pos (by omega)]
 ·rw[if_neg hk];have:k < i+1↔k < i:=by omega
  simp only[this]
theorem iZ (id q:Nat) (os:List QI):Gq id q os os.length=os.map (GG id q):=by
 apply ext_getElem?;intro k;rw[B9,getElem?_map];cases h:os[k]? with
 | none=>rfl
 | some x=>
  have:=(List.getElem?_eq_some_iff.1 h).1;simp only[Option.map_some];rw[if_pos this]
theorem PL {m:MS} (h:V9 m) (id q i:Nat):V9 { m with P:=ZG m.P id q,objs:=Gq id q m.objs i }:=by
 refine Oh h (.inl (by show (ZG m.P id q).length=_;unfold ZG;rw[length_mapIdx])) rfl (JB _ _ _ _) fun o x' hx'=>?_;have hx':(Gq id q m.objs i)[o]? = some x':=hx';rw[B9] at hx';cases hx:m.objs[o]? with
 | none=>rw[hx] at hx';cases hx'
 | some x=>
  rw[hx] at hx';injection hx' with hx'
  refine⟨x,rfl,?_⟩;rw[← hx'];split
  ·exact Og id q x
  ·rfl
theorem PM [Q4] (p:Nat) (m:MS) (id:Nat) (q:Int) (hid:1≤id) (hq:m.P[id]? = some q) (hq0:0≤q) {w:World} {fr:List Q2} (H:Q0 w (Qq p m::fr)) :
  Calls Tryz.prog 91 #[pp p,.int .i64 id] w (ret fun v w'=>(q=0∧v = .tuple #[.int .i64 0,.int .i64 16]∧Q0 w' (Qq p m::fr))∨(q≠0∧v = .tuple #[.int .i64 q,.int .i64 0]∧Q0 w' (Qq p (FI m id q.toNat)::fr))):=by
 obtain⟨t,lc,oc,aL,cL,aO,cO,hm,h2,h3,hl1,hl2,H⟩:=Zj H;have hidl:=(List.getElem?_eq_some_iff.1 hq).1;have hgd:m.P.getD id 0=q:=by rw[getD_eq_getElem?_getD,hq];rfl
 have hlv:Y1 m.P (id:Int)=true:=decide_eq_true ⟨by omega,by omega,by rw[Int.toNat_natCast,hgd];exact hq0⟩;have hP:=hm.P;have hfew:=hm.few;refine QQ Tryz.func91 rfl (by kernel_rfl) ?_;refine C9 H ?_;replace H:=Js [1,0] 0 H;refine Jc rfl rfl (Wh t m.P id H) ?_;clear H;rintro v w ⟨rfl,H⟩;rw[hlv];refine Yl H ?_;refine V2 H ?_;refine Jc rfl rfl (fO t m.P id q hid hq hq0 hP.1 (by omega) H) ?_;clear H;rintro w0 w (⟨hz,rfl,H⟩|⟨hz,rfl,H⟩)
 ·refine Bl H ?_;refine E7 H ?_;exact Q3 (Jy (Yz hm h2 h3 H.swap) rfl fun w' H' => .inl ⟨hz,rfl,H'⟩)
 obtain⟨qn,rfl⟩:∃ qn:Nat,q=qn:=⟨q.toNat,by omega⟩;rw[Int.toNat_natCast] at H ⊢;refine G2 H ?_;have hm1:=PL hm id qn 0;replace H:=Yz (m:={ m with P:=ZG m.P id qn,objs:=Gq id qn m.objs 0 }) hm1 h2 (by rw[iV];exact h3) H.swap;refine J8 H ?_;refine Qk (fun ms σ w=>ms=[]∧σ 7 = .int .i64 qn∧Q0 w (Qq p (FI m id qn)::fr)) ?_ ?_
 ·refine QP ?_;refine Ql (fun ms σ w z=>ms=[]∧∃ i:Nat,i≤m.objs.length∧z=m.objs.length - i∧σ 0=pp p∧σ 1 = .int .i64 id∧σ 7 = .int .i64 qn∧σ 9 = .int .i64 i∧Q0 w (Qq p { m with P:=ZG m.P id qn,objs:=Gq id qn m.objs i }::fr)) (m:=m.objs.length) ⟨rfl,0,by omega,by omega,rfl,rfl,rfl,rfl,H⟩ ?_;clear H;rintro ms σ w z ⟨rfl,i,hi,rfl,g0,g1,g7,g9,H⟩;rw[Q1 g0,Q1 g1,Q1 g7,Q1 g9];have hml:=JB id qn m.objs i;by_cases hlt:i < m.objs.length
  ·have hx:=getElem?_eq_getElem hlt;generalize m.objs[i]=x at hx
   have hxi:({ m with P:=ZG m.P id qn,objs:=Gq id qn m.objs i }:MS).objs[i]? = some x:=by
    show (Gq id qn m.objs i)[i]? = _;rw[B9,hx];simp
   obtain⟨t,lc,aL,cL,bO,cO,s,ptrs,qq,vw,vk,vt,rest,hmm,h2,hp,H,hclose⟩:=Gi H hxi;dsimp only at H hclose;rw[hml] at H hclose;refine Ka H ?_;refine Qj rfl (fun h=>QD ?_) (fun h=>absurd (show ((i:Nat):Int) < ((m.objs.length:Nat):Int) by omega) h);refine AX H ?_;refine Jd ?_;refine Q5 rfl (QB H rfl hp rfl ?_);refine Jv ?_;refine Dr H ?_;have hset:Gq id qn m.objs (i+1)=(Gq id qn m.objs i).set i (GG id qn x):=(iY hx).symm;have hw':V9 { m with P:=ZG m.P id qn,objs:=(Gq id qn m.objs i).set i (GG id qn x) }:=by rw[← hset];exact PL hm id qn (i+1)
   by_cases hr:x.region=id
   ·rw[show (((x.region:Nat):Int) == ((id:Nat):Int))=true by rw[hr];exact beq_self_eq_true _];refine J2 H ?_;refine VH H ?_;refine V2 H ?_;refine Jd ?_;refine Q5 rfl (QB H rfl hp rfl ?_);refine YA H ?_;refine Uu H ?_;clear H;intro w H;refine J2 H ?_;have hxx:GG id qn x={ x with region:=qn }:=by unfold GG;rw[if_pos hr]
    rw[hxx] at hset hw';replace H:Q0 w (pts qq (K6 vw vk vt { x with region:=qn })::_):=H;replace H:=hclose _ _ _ hw' H;rw[← hset] at H;refine VX H ?_;exact⟨_,⟨rfl,i+1,hlt,rfl,rfl,rfl,rfl,Qc (by omega),H⟩,by omega⟩
   ·rw[show (((x.region:Nat):Int) == ((id:Nat):Int))=false by rw[beq_eq_false_iff_ne];omega];refine RT H ?_;have hxx:GG id qn x=x:=by unfold GG;rw[if_neg hr]
    rw[hxx] at hset hw';replace H:=hclose _ _ _ hw' H;rw[← hset] at H;refine VX H ?_;exact⟨_,⟨rfl,i+1,hlt,rfl,rfl,rfl,rfl,Qc (by omega),H⟩,by omega⟩
  ·obtain rfl:i=m.objs.length:=by omega
   obtain⟨t,lc,oc,aL,cL,aO,cO,hmm,h2,h3,hl1,hl2,H⟩:=Zj H;dsimp only at H;rw[hml] at H;refine Ka H ?_;refine Qj rfl (fun h=>absurd (show ((m.objs.length:Nat):Int) < ((m.objs.length:Nat):Int) from h) (by omega)) (fun h=>Qp ?_);rw[← hml] at H;replace H:=Yz (m:={ m with P:=ZG m.P id qn,objs:=Gq id qn m.objs m.objs.length }) hmm h2 h3 H;rw[iZ] at H;exact⟨rfl,rfl,rfl,H⟩
 clear H;rintro ms σ w ⟨rfl,g7,H⟩;rw[Q1 g7];refine VX H ?_;exact Q3 (Jy H rfl fun w' H' => .inr ⟨hz,rfl,H'⟩)
def Um (n:Nat) (os:List Nat) (objs:List QI):List QI:=objs.mapIdx fun o x=>if o∈os then { x with region:=n } else x
theorem D3 (n:Nat) (os:List Nat) (objs:List QI) (k:Nat):(Um n os objs)[k]? = (objs[k]?).map fun x=>if k∈os then { x with region:=n } else x:=getElem?_mapIdx
theorem iG (n:Nat) (os:List Nat) (objs:List QI):(Um n os objs).length=objs.length:=length_mapIdx
theorem iU (n:Nat) (objs:List QI):Um n [] objs=objs:=by
 apply ext_getElem?;intro k;rw[D3];cases objs[k]? <;> simp
theorem iX {n:Nat} {os:List Nat} {objs:List QI} {o:Nat} {x:QI} (h:(Um n os objs)[o]? = some x):(Um n os objs).set o { x with region:=n }=Um n (os++[o]) objs:=by
 apply ext_getElem?;intro k;have hol:=(List.getElem?_eq_some_iff.1 h).1;rw[getElem?_set];by_cases hk:o=k
 ·subst hk;rw[if_pos rfl,if_pos hol,D3];rw[D3] at h;cases hx:objs[o]? with
  | none=>rw[hx] at h;cases h
  | some y=>
   rw[hx] at h;injection h with h
   subst h;show some _=some (if o∈os++[o] then { y with region:=n } else y);rw[if_pos (show o∈os++[o] by simp)];congr 1;show ({ (if o∈os then { y with region:=n } else y:QI) with region:=n }:QI)=_;split <;> rfl
 ·rw[if_neg hk,D3,D3]
  have:k∈os++[o]↔k∈os:=by
   rw[mem_append,mem_singleton];exact⟨fun h=>h.elim id fun h=>absurd h.symm hk,.inl⟩
  simp only[this]
theorem PN {m:MS} (h:V9 m) (hP:m.P.length < 100000) (r:Nat) (os:List Nat):V9 { m with P:=m.P++[(r:Int)],objs:=Um m.P.length os m.objs }:=fT h hP r os
theorem iK [Q4] (p:Nat) (m:MS) (r:Nat) (os:List Nat) (al:Option Addr) (cl:Nat) (hd:ZV m.P (r:Int)=0) (hPl:m.P.length < 100000) (hos:∀ o∈os,o < m.objs.length) (hl:os.length≤64) {w:World} {fr:List Q2} (H:Q0 w (Qq p m::NL (.slice al os.length cl) os::fr)) :
  Calls Tryz.prog 94 #[pp p,.int .i64 r,.slice al os.length cl] w (ret fun v w'=>v = .int .i64 m.P.length∧Q0 w' (Qq p (Wm m r os)::NL (.slice al os.length cl) os::fr)):=by
 obtain⟨t,lc,oc,aL,cL,aO,cO,hm,h2,h3,hl1,hl2,H⟩:=Zj H;have hP:=hm.P;have hfew:=hm.few;refine QQ Tryz.func94 rfl (by kernel_rfl) ?_;refine VF H ?_;refine V2 H ?_;replace H:=Js [1,0] 0 H;refine Jc rfl rfl (OD t m.P (r:Int) hP.2 hP.1 H) ?_;clear H;rintro w0 w (⟨hz,rfl,H⟩|⟨hz,rfl,H⟩)
 ·exact absurd hd hz
 refine G3 H ?_;have hm1:=PN hm hPl r [];replace H:=Yz (m:={ m with P:=m.P++[(r:Int)],objs:=Um m.P.length [] m.objs }) hm1 h2 (by rw[iU];exact h3) H.swap;refine J8 H ?_;refine Qk (fun ms σ w=>ms=[]∧σ 7 = .int .i64 m.P.length∧Q0 w (Qq p (Wm m r os)::NL (.slice al os.length cl) os::fr)) ?_ ?_
 ·refine QP ?_;refine Ql (fun ms σ w z=>ms=[]∧∃ i:Nat,i≤os.length∧z=os.length - i∧σ 0=pp p∧σ 2 = .slice al os.length cl∧σ 7 = .int .i64 m.P.length∧σ 9 = .int .i64 i∧Q0 w (Qq p { m with P:=m.P++[(r:Int)],objs:=Um m.P.length (os.take i) m.objs }::NL (.slice al os.length cl) os::fr)) (m:=os.length) ⟨rfl,0,by omega,by omega,rfl,rfl,rfl,rfl,H⟩ ?_;clear H;rintro ms σ w z ⟨rfl,i,hi,rfl,g0,g2,g7,g9,H⟩;rw[Q1 g0,Q1 g2,Q1 g7,Q1 g9];refine KT H ?_;refine Qj rfl (fun h=>QD ?_) (fun h=>Qp ?_)
  ·have hlt:i < os.length:=by omega
   have hy:=getElem?_eq_getElem hlt;have hyo:=hos _ (mem_of_getElem? hy);have htk:os.take (i+1)=os.take i++[os[i]]:=by rw[take_add_one,hy];rfl
   generalize os[i]=o at hy htk hyo;obtain⟨bl,sl,rfl,H,hcl⟩:=V3 H.swap (by omega);have hml:=iG m.P.length (os.take i) m.objs;have hx:=getElem?_eq_getElem (show o < (Um m.P.length (os.take i) m.objs).length by omega);generalize (Um m.P.length (os.take i) m.objs)[o]=x at hx;have hset:=iX hx;rw[← htk] at hset;have hxi:({ m with P:=m.P++[(r:Int)],objs:=Um m.P.length (os.take i) m.objs }:MS).objs[o]? = some x:=hx;obtain⟨t,lc,aL,cL,bO,cO,s,ptrs,qq,vw,vk,vt,rest,hmm,h2,hp,H,hclose⟩:=Gi H.swap hxi;dsimp only at H hclose;rw[hml] at H hclose;have hw':V9 { m with P:=m.P++[(r:Int)],objs:=(Um m.P.length (os.take i) m.objs).set o { x with region:=m.P.length } }:=by rw[hset];exact PN hm hPl r _
   refine C7 H ?_;clear H;intro w H;refine Yu H ?_;refine Jl 3 [13] H ?_;refine Us H ?_;refine Ji 6 ?_;refine Vn 7 [13] H rfl (Q7.none rfl) rfl (by simpa using Gz hy) (by kernel_rfl) ?_
   refine Ji 8 ?_;refine Vn 9 [13] H rfl (Q7.none rfl) rfl (by simpa using hp) (by kernel_rfl) ?_;refine EI H ?_;refine Jo 13 H ?_;refine Ut H ?_;clear H;intro w H;refine Jx H ?_;replace H:Q0 w (pts qq (K6 vw vk vt { x with region:=m.P.length })::_):=H;replace H:=hclose _ _ _ hw' H;rw[hset] at H;replace H:=hcl _ _ H.swap;refine VX H ?_;exact⟨_,⟨rfl,i+1,hlt,rfl,rfl,rfl,rfl,Qc (by omega),H.swap⟩,by omega⟩
  ·obtain rfl:i=os.length:=by omega
   rw[take_length] at H;exact⟨rfl,rfl,rfl,H⟩
 clear H;rintro ms σ w ⟨rfl,g7,H⟩;rw[Q1 g7];refine J4 H ?_;exact Q3 (Jy H rfl fun w' H'=>⟨rfl,H'⟩)
end Go.Proofs.YtbnnnljagkjpiaaGreatDoor
namespace Go.SL
open List
section
variable {P:Program} {n:Nat} {r:Option Nat} {ops:Array Oper} {Q:YQ} {ms:List Nat} {σ:QU} {w:World} {rest:List Oper} {o:Oper} {K:QU→World→Prop} {l l':List Q2}
variable {ivs:List (List Nat×(World→Prop))} {T:QU→World→Prop} {f:Nat} {L:Array Bool}
variable {u t s:TypeId} {p:String} {af:Array Edge} {g:Option (Nat×Bool)} {d:Option Tmp} {x y z:Operand}
theorem iR {e size bytes b o2 len cap i:Nat} {q:IntKind} (hT:VW P t e size bytes) (h1:i≤cap) :
  (Instr.sliceAt t (.slice (some ⟨b,o2,none⟩) len cap) none (some (.int q (i:Int))) none).run P w = .ok (.slice (some ⟨b,o2,none⟩) i cap) w:=by
 have hs:(sizeOf e).run P w = .ok size w:=by
  obtain⟨k,hk,e2⟩:=Option.map_eq_some_iff.1 hT.info;simp only[Prod.mk.injEq] at e2;exact Zz (by rw[hk];simp[e2.1])
 have b1:(0:Int)≤i∧(i:Int)≤cap:=by omega
 simp[Instr.sliceAt,Instr.slice,Vr hT.und,Instr.sliceBounds,Instr.sliceBound,asIntOf,h1,hs,ZX]
theorem iW {e size bytes b o2 len cap i:Nat} {q:IntKind} (m:Nat) (hm:ops[m]? = some ⟨d,.slice t x none (some y) none,u,p,af,g⟩) (hg:Q7 ops σ ⟨d,.slice t x none (some y) none,u,p,af,g⟩ true) [hT:VW P t e size bytes] (hx:ev σ x = .slice (some ⟨b,o2,none⟩) len cap) (hy:ev σ y = .int q (i:Int)) (h1:i≤cap)
  (hb:YX n ops (ivs.map (·.1)) L m []=true) (k:Any P n r ops ivs T f (L.setIfInBounds m true) (put σ d (.slice (some ⟨b,o2,none⟩) i cap)) w):Any P n r ops ivs T (f+1) L σ w:=
 U7 m hm hg (fun c e=>by cases e) (fun w=>by simp only[execOp,hx,hy,Option.map_some,Option.map_none,Sem.run_bind,iR hT h1,Result.andThen_ok,Sem.run_pure]) hb k
end
end Go.SL
namespace Go.Proofs.YtbnnnljagkjpiaaGreatDoor
open List
open Go.SL
theorem Fc {m:MS} {r:Int} {os:List Int} {e:Nat} (h1:Y1 m.P r=true) (h2:os.length≤64) (h3:GU m r [] os=e) (h4:e≠0):Gl m r os=e:=by
 unfold Gl;rw[h1,if_neg (by decide),if_neg (by omega),h3,if_pos h4]
theorem Fe [Q4] (p:Nat) (m:MS) (r:Int) (os:List Int) (al:Option Addr) (cl:Nat) (hl:os.length≤1000000) {w:World} {fr:List Q2} (H:Q0 w (Qq p m::IL (.slice al os.length cl) os::fr)) :
  Calls Tryz.prog 92 #[pp p,.int .i64 r,.slice al os.length cl] w (ret fun v w'=>v = .int .i64 (Gl m r os)∧Q0 w' (Qq p m::IL (.slice al os.length cl) os::fr)):=by
 obtain⟨t,lc,oc,aL,cL,aO,cO,hm,h2,h3,hl1,hl2,H⟩:=Zj H;have hP:=hm.P;have hfew:=hm.few;refine QQ Tryz.func92 rfl (by kernel_rfl) ?_;refine VF H ?_;refine V2 H ?_;replace H:=Js [1,0] 0 H;refine Jc rfl rfl (Wh t m.P r H) ?_;clear H;rintro v w ⟨rfl,H⟩;replace H:=Yz hm h2 h3 H.swap;clear h2 h3 hl1 hl2 lc oc aL cL aO cO;refine J0 H ?_;cases hlv:Y1 m.P r with
 | false=>
  have he:Gl m r os=15:=by unfold Gl;rw[if_pos hlv]
  rw[he];refine AP H ?_;exact Q3 (Jy H rfl fun w' H'=>⟨rfl,H'⟩)
 | true=>
 refine Gw H ?_;refine Xu H ?_;by_cases h64:((os.length:Nat):Int) > 64
 ·have he:Gl m r os=18:=by unfold Gl;rw[hlv,if_neg (by decide),if_pos (by omega)]
  rw[show decide (((os.length:Nat):Int) > 64)=true from decide_eq_true h64];refine YC H ?_;rw[he];exact Q3 (Jy H rfl fun w' H'=>⟨rfl,H'⟩)
 rw[show decide (((os.length:Nat):Int) > 64)=false from decide_eq_false h64];have h64:os.length≤64:=by omega
 refine V4 H ?_;refine A9 H ?_;refine Ql (fun ms σ w z=>ms=[]∧∃ i:Nat,i≤os.length∧z=os.length - i∧GU m r (os.take i) (os.drop i)=GU m r [] os∧σ 0=pp p∧σ 1 = .int .i64 r∧σ 2 = .slice al os.length cl∧σ 8 = .int .i64 i∧Q0 w (Qq p m::IL (.slice al os.length cl) os::fr)) (m:=os.length) ⟨rfl,0,by omega,by omega,rfl,rfl,rfl,rfl,rfl,H⟩ ?_;clear H;rintro ms σ w z ⟨rfl,i,hi,rfl,hmay,g0,g1,g2,g8,H⟩;rw[Q1 g0,Q1 g1,Q1 g2,Q1 g8];refine KT H ?_;refine Qj rfl (fun h=>QD ?_) (fun h=>Qp ?_)
 ·have hlt:i < os.length:=by omega
  have hy:=getElem?_eq_getElem hlt;have htk:os.take (i+1)=os.take i++[os[i]]:=by rw[take_add_one,hy];rfl
  have hdr:os.drop i=os[i]::os.drop (i+1):=drop_eq_getElem_cons hlt;generalize os[i]=y at hy htk hdr;rw[hdr] at hmay;obtain⟨bl,sl,rfl,H,hlc,_,hcl⟩:=Z2 H.swap (by omega);refine WW H ?_;refine Jd ?_;refine Q5 rfl (QB H rfl (by simpa using Ue hy) rfl ?_);refine Jc rfl rfl (B1 p m y H.swap) ?_;clear H;rintro v w ⟨rfl,H⟩;refine J0 H ?_;cases hv:V5 m y with
  | none=>
   have he:=Fc hlv h64 (hmay.symm.trans (Oo hv)) (by decide);rw[he];refine AP H ?_;replace H:=(hcl _ _ _ rfl H.swap).swap;exact Q3 (Jy H rfl fun w' H'=>⟨rfl,H'⟩)
  | some kx=>
   obtain⟨k,x⟩:=kx;obtain⟨rfl,hx,hh,hg⟩:=K7 hv;rw[Oq hv] at hmay;refine Gw H ?_;have hkl:=(List.getElem?_eq_some_iff.1 hx).1;obtain⟨t,lc,aL,cL,bO,cO,s,ptrs,qq,vw,vk,vt,rest,hmm,h2,hp,H,hclose⟩:=Gi H hx;refine J1 H ?_;clear H;intro w H;refine XA H ?_;refine Us H ?_;refine Ji 6 ?_;refine Vn 7 [] H rfl (Q7.none rfl) rfl (by simpa using Ue hy) (by kernel_rfl) ?_
   refine Ji 8 ?_;refine Vn 9 [] H rfl (Q7.none rfl) rfl (by simpa using hp) (by kernel_rfl) ?_;refine Ja 10 ?_;refine Jf 11 ?_;refine Jl 12 [] H ?_;refine WM H ?_;have hm':V9 { m with objs:=m.objs.set k x }:=Rs hx hm;by_cases c1:(x.region:Int)≠r
   ·rw[if_pos c1] at hmay;have he:=Fc hlv h64 hmay.symm (by decide);rw[he,show (((x.region:Nat):Int) != r)=true by rw[bne_iff_ne];exact c1];refine YC H ?_;replace H:=(hcl _ _ _ rfl (UW hx (hclose _ _ _ hm' H)).swap).swap;exact Q3 (Jy H rfl fun w' H'=>⟨rfl,H'⟩)
   rw[if_neg c1] at hmay;rw[show (((x.region:Nat):Int) != r)=false by rw[bne_eq_false_iff_eq];exact Classical.not_not.1 c1];refine Bz H ?_;clear H;intro w H;refine XA H ?_;refine Us H ?_;refine Ji 6 ?_;refine Vn 7 [] H rfl (Q7.none rfl) rfl (by simpa using Ue hy) (by kernel_rfl) ?_
   refine Ji 8 ?_;refine Vn 9 [] H rfl (Q7.none rfl) rfl (by simpa using hp) (by kernel_rfl) ?_;refine Ja 10 ?_;refine Jf 11 ?_;refine Jl 12 [] H ?_;refine Jx H ?_;cases c2:x.pinned with
   | true=>
    rw[if_pos c2] at hmay;have he:=Fc hlv h64 hmay.symm (by decide);rw[he];refine YC H ?_;replace H:=(hcl _ _ _ rfl (UW hx (hclose _ _ _ hm' H)).swap).swap;exact Q3 (Jy H rfl fun w' H'=>⟨rfl,H'⟩)
   | false=>
   rw[if_neg (by rw[c2];decide)] at hmay;refine V4 H ?_;replace H:=(UW hx (hclose _ _ _ hm' H)).swap;refine J1 H ?_;clear H;intro w H;refine WG H ?_;refine iW 2 rfl (Q7.none rfl) rfl rfl (by omega) (by kernel_rfl) ?_;refine Ja 3 ?_;refine Ja 4 ?_;refine Ji 5 ?_;refine Vn 6 [7] H rfl (Q7.none rfl) rfl (by simpa using Ue hy) (by kernel_rfl) ?_;have Hc:=hcl _ _ _ rfl H;refine Jo 7 H ?_;refine Jk rfl rfl (PJ _ cl i os (k:Int) hi hl Hc) ?_;clear H;rintro v w ⟨rfl,H⟩;refine XH H ?_;by_cases c3:(k:Int)∈os.take i
   ·rw[if_pos c3] at hmay;have he:=Fc hlv h64 hmay.symm (by decide);rw[he,decide_eq_true c3];refine J8 H ?_;refine Vp rfl ?_;refine VF H ?_;exact Q3 (Jy H.swap rfl fun w' H'=>⟨rfl,H'⟩)
   rw[if_neg c3,← htk] at hmay;rw[decide_eq_false c3];refine J8 H ?_;refine VM rfl (QD ?_);refine VX H ?_;exact⟨_,⟨rfl,i+1,hlt,rfl,hmay,rfl,rfl,rfl,Qc (by omega),H.swap⟩,by omega⟩
 ·obtain rfl:i=os.length:=by omega
  rw[take_length,drop_length] at hmay;have hmay:0=GU m r [] os:=hmay;obtain⟨t,lc,oc,aL,cL,aO,cO,hmm,h2,h3,hl1,hl2,H⟩:=Zj H;refine Yk H ?_;replace H:=Js [1,0] 0 H;refine Jc rfl rfl (OB t m.P (by omega) H) ?_;clear H;intro v w H;obtain⟨aA,cA,rfl⟩:=QE H (QH _) (by decide);replace H:=Js [0,1,0] 0 H;replace H:=H.drop;replace H:=Yz hm h2 h3 H;refine Dt H ?_
  have he:Gl m r os=if 64≤(ZS m.P).length then 5 else 0:=by
   unfold Gl;rw[hlv,if_neg (by decide),if_neg (by omega),← hmay,if_neg (by decide)]
  rw[he];by_cases c4:(((ZS m.P).length:Nat):Int)≥64
  ·rw[show decide ((((ZS m.P).length:Nat):Int)≥64)=true from decide_eq_true c4,if_pos (by omega)];refine YC H ?_;exact Q3 (Jy H rfl fun w' H'=>⟨rfl,H'⟩)
  ·rw[show decide ((((ZS m.P).length:Nat):Int)≥64)=false from decide_eq_false c4,if_neg (by omega)];refine KS H ?_;exact Q3 (Jy H rfl fun w' H'=>⟨rfl,H'⟩)
def YI {A:Type} (f:A→A) (i:Nat) (l:List A):List A:=l.mapIdx fun k x=>if k < i then f x else x
theorem Wp {A:Type} (f:A→A) (i:Nat) (l:List A) (k:Nat):(YI f i l)[k]? = (l[k]?).map fun x=>if k < i then f x else x:=getElem?_mapIdx
theorem Wq {A:Type} (f:A→A) (i:Nat) (l:List A):(YI f i l).length=l.length:=length_mapIdx
theorem Ff {A:Type} (f:A→A) (l:List A):YI f 0 l=l:=by
 apply ext_getElem?;intro k;rw[Wp];cases l[k]? <;> simp
theorem PO {A:Type} {f:A→A} {l:List A} {i:Nat} {x:A} (h:l[i]? = some x):(YI f i l).set i (f x)=YI f (i+1) l:=by
 have hil:=(List.getElem?_eq_some_iff.1 h).1;apply ext_getElem?;intro k;rw[getElem?_set,Wp,Wp,Wq];by_cases hk:i=k
 ·subst hk;rw[if_pos rfl,if_pos hil,h];simp only[Option.map_some];rw[if_pos (by omega)]
 ·rw[if_neg hk];have:k < i+1↔k < i:=by omega
  simp only[this]
theorem JC {A:Type} (f:A→A) (l:List A):YI f l.length l=l.map f:=by
 apply ext_getElem?;intro k;rw[Wp,getElem?_map];cases h:l[k]? with
 | none=>rfl
 | some x=>
  have:=(List.getElem?_eq_some_iff.1 h).1;simp only[Option.map_some];rw[if_pos this]
theorem PP {A:Type} {f:A→A} {l:List A} {i:Nat} {x:A} (h:l[i]? = some x):(YI f i l)[i]? = some x:=by
 rw[Wp,h];simp only[Option.map_some];rw[if_neg (by omega)]
theorem iA {lays:List QL} {n:Nat} {x:QI} (h:U2 lays n x) (L:List Nat):U2 lays n (Qd L x):=by
 obtain⟨a,b,c,d,e⟩:=h;unfold Qd;split
 ·exact⟨a,b,c,d,e⟩
 ·exact⟨a,b,c,d,e⟩
theorem JD {m:MS} (h:V9 m) (L K:List Nat) (i:Nat):V9 { m with P:=Vu m.P K,objs:=YI (Qd L) i m.objs }:=by
 refine⟨?_,h.lays,fun x' hx'=>?_,?_⟩
 ·show 1≤(Vu m.P K).length∧(Vu m.P K).length≤_;unfold Vu;rw[length_mapIdx];exact h.P
 ·show U2 m.lays (YI (Qd L) i m.objs).length x';rw[Wq];obtain⟨o,ho⟩:=getElem?_of_mem hx';have ho:(YI (Qd L) i m.objs)[o]? = some x':=ho;rw[Wp] at ho;cases hx:m.objs[o]? with
  | none=>rw[hx] at ho;cases ho
  | some x=>
   rw[hx] at ho;injection ho with ho
   have hk:=h.objs x (mem_of_getElem? hx);subst ho;show U2 m.lays m.objs.length (if o < i then Qd L x else x);split
   ·exact iA hk L
   ·exact hk
 ·show (YI (Qd L) i m.objs).length≤_;rw[Wq];exact h.few
def GR (G:List QI) (p:Nat) (l:List (Nat×Nat)):List Nat:=l.mapIdx fun k y=>if k < p∧YV G y.1 y.2=true then 1 else y.1
def GW (G:List QI) (p:Nat) (l:List (Nat×Nat)):List Nat:=l.mapIdx fun k y=>if k < p∧YV G y.1 y.2=true then 0 else y.2
def YJ (G:List QI) (p:Nat) (x:QI):QI:={ x with kind:=GR G p (x.kind.zip x.to),to:=GW G p (x.kind.zip x.to) }
theorem iB (G:List QI) (p:Nat) {x:QI} (h:x.kind.length=x.to.length):(YJ G p x).kind.length=x.kind.length∧(YJ G p x).to.length=x.kind.length:=by
 constructor
 ·show (GR G p _).length=_;unfold GR;rw[length_mapIdx,length_zip];omega
 ·show (GW G p _).length=_;unfold GW;rw[length_mapIdx,length_zip];omega
theorem D4 {k t:List Nat} {p a b:Nat} (ha:k[p]? = some a) (hb:t[p]? = some b):(k.zip t)[p]? = some (a,b):=getElem?_zip_eq_some.2 ⟨ha,hb⟩
theorem iC {G:List QI} {x:QI} {p a b:Nat} (ha:x.kind[p]? = some a) (hb:x.to[p]? = some b):(YJ G p x).kind[p]? = some a∧(YJ G p x).to[p]? = some b:=by
 have hz:=D4 ha hb;constructor
 ·show (GR G p _)[p]? = _;unfold GR;rw[getElem?_mapIdx,hz];show some (if p < p∧YV G a b=true then 1 else a)=_;rw[if_neg (by omega)]
 ·show (GW G p _)[p]? = _;unfold GW;rw[getElem?_mapIdx,hz];show some (if p < p∧YV G a b=true then 0 else b)=_;rw[if_neg (by omega)]
theorem iD {G:List QI} {x:QI} {p a b:Nat} (ha:x.kind[p]? = some a) (hb:x.to[p]? = some b) (hh:YV G a b=true):({ YJ G p x with kind:=(YJ G p x).kind.set p 1,to:=(YJ G p x).to.set p 0 }:QI)=YJ G (p+1) x:=by
 have hz:=D4 ha hb;have hl:=(List.getElem?_eq_some_iff.1 hz).1
 have h1:(GR G p (x.kind.zip x.to)).set p 1=GR G (p+1) (x.kind.zip x.to):=by
  unfold GR;apply ext_getElem?;intro k;rw[getElem?_set,length_mapIdx,getElem?_mapIdx,getElem?_mapIdx];by_cases hk:p=k
  ·subst hk;rw[if_pos rfl,if_pos hl,hz];show _=some (if p < p+1∧YV G a b=true then 1 else a);rw[if_pos ⟨by omega,hh⟩]
  ·rw[if_neg hk];have:k < p+1↔k < p:=by omega
   simp only[this]
 have h2:(GW G p (x.kind.zip x.to)).set p 0=GW G (p+1) (x.kind.zip x.to):=by
  unfold GW;apply ext_getElem?;intro k;rw[getElem?_set,length_mapIdx,getElem?_mapIdx,getElem?_mapIdx];by_cases hk:p=k
  ·subst hk;rw[if_pos rfl,if_pos hl,hz];show _=some (if p < p+1∧YV G a b=true then 0 else b);rw[if_pos ⟨by omega,hh⟩]
  ·rw[if_neg hk];have:k < p+1↔k < p:=by omega
   simp only[this]
 show ({ x with kind:=(GR G p (x.kind.zip x.to)).set p 1,to:=(GW G p (x.kind.zip x.to)).set p 0 }:QI)={ x with kind:=GR G (p+1) (x.kind.zip x.to),to:=GW G (p+1) (x.kind.zip x.to) };rw[h1,h2]
theorem PS {G:List QI} {x:QI} {p a b:Nat} (ha:x.kind[p]? = some a) (hb:x.to[p]? = some b) (hh:¬ YV G a b=true):YJ G p x=YJ G (p+1) x:=by
 have hz:=D4 ha hb
 have h1:GR G p (x.kind.zip x.to)=GR G (p+1) (x.kind.zip x.to):=by
  unfold GR;apply ext_getElem?;intro k;rw[getElem?_mapIdx,getElem?_mapIdx];by_cases hk:p=k
  ·subst hk;rw[hz];show some (if p < p∧YV G a b=true then 1 else a)=some (if p < p+1∧YV G a b=true then 1 else a);rw[if_neg (by omega),if_neg (fun h=>hh h.2)]
  ·have:k < p+1↔k < p:=by omega
   simp only[this]
 have h2:GW G p (x.kind.zip x.to)=GW G (p+1) (x.kind.zip x.to):=by
  unfold GW;apply ext_getElem?;intro k;rw[getElem?_mapIdx,getElem?_mapIdx];by_cases hk:p=k
  ·subst hk;rw[hz];show some (if p < p∧YV G a b=true then 0 else b)=some (if p < p+1∧YV G a b=true then 0 else b);rw[if_neg (by omega),if_neg (fun h=>hh h.2)]
  ·have:k < p+1↔k < p:=by omega
   simp only[this]
 unfold YJ;rw[h1,h2]
theorem iE {G:List QI} {x:QI} (h:x.kind.length=x.to.length):YJ G 0 x=x:=by
 have h1:GR G 0 (x.kind.zip x.to)=x.kind:=by
  unfold GR;apply ext_getElem?;intro k;rw[getElem?_mapIdx];cases ha:x.kind[k]? with
  | none=>
   rw[List.getElem?_eq_none_iff] at ha;rw[getElem?_eq_none (by rw[length_zip];omega)];rfl
  | some a=>
   have hl:=(List.getElem?_eq_some_iff.1 ha).1;rw[D4 ha (getElem?_eq_getElem (show k < x.to.length by omega))];show some (if k < 0∧_ then 1 else a)=_;rw[if_neg (by omega)]
 have h2:GW G 0 (x.kind.zip x.to)=x.to:=by
  unfold GW;apply ext_getElem?;intro k;rw[getElem?_mapIdx];cases ha:x.to[k]? with
  | none=>
   rw[List.getElem?_eq_none_iff] at ha;rw[getElem?_eq_none (by rw[length_zip];omega)];rfl
  | some a=>
   have hl:=(List.getElem?_eq_some_iff.1 ha).1;rw[D4 (getElem?_eq_getElem (show k < x.kind.length by omega)) ha];show some (if k < 0∧_ then 0 else a)=_;rw[if_neg (by omega)]
 unfold YJ;rw[h1,h2]
theorem iF (G:List QI) {x:QI} (h:x.kind.length=x.to.length):YJ G x.kind.length x=Za G x:=by
 have h1:GR G x.kind.length (x.kind.zip x.to)=(x.kind.zip x.to).map (fun y=>if YV G y.1 y.2=true then 1 else y.1):=by
  unfold GR;apply ext_getElem?;intro k;rw[getElem?_mapIdx,getElem?_map];cases hz:(x.kind.zip x.to)[k]? with
  | none=>rfl
  | some y=>
   have hl:=(List.getElem?_eq_some_iff.1 hz).1;rw[length_zip] at hl;have hk:k < x.kind.length:=by omega
   show some (if k < x.kind.length∧YV G y.1 y.2=true then 1 else y.1)=some (if YV G y.1 y.2=true then 1 else y.1);simp only[hk,true_and]
 have h2:GW G x.kind.length (x.kind.zip x.to)=(x.kind.zip x.to).map (fun y=>if YV G y.1 y.2=true then 0 else y.2):=by
  unfold GW;apply ext_getElem?;intro k;rw[getElem?_mapIdx,getElem?_map];cases hz:(x.kind.zip x.to)[k]? with
  | none=>rfl
  | some y=>
   have hl:=(List.getElem?_eq_some_iff.1 hz).1;rw[length_zip] at hl;have hk:k < x.kind.length:=by omega
   show some (if k < x.kind.length∧YV G y.1 y.2=true then 0 else y.2)=some (if YV G y.1 y.2=true then 0 else y.2);simp only[hk,true_and]
 unfold YJ Za;rw[h1,h2]
theorem JE [Q4] {w:World} {oc:List OC} {l:List Q2} {i:Nat} {y:OC} (hy:oc[i]? = some y) (H:Q0 w (star (oc.map ZY)::l)):∃ rest:List Q2,
  Q0 w (pts y.ptr (K6 y.vw y.vk y.vt y.ob)::UL y.vw y.ob.w::NL y.vk y.ob.kind::NL y.vt y.ob.to::star rest::l) ∧
  ∀ (w':World) (l':List Q2) (x':QI),Q0 w' (pts y.ptr (K6 y.vw y.vk y.vt x')::UL y.vw x'.w::NL y.vk x'.kind::NL y.vt x'.to::star rest::l')→Q0 w' (star ((oc.set i { y with ob:=x' }).map ZY)::l'):=by
 have hsp:oc=oc.take i++y::oc.drop (i+1):=by
  have h1:=List.getElem?_eq_some_iff.1 hy;rw[← h1.2];simp
 refine⟨(oc.take i++oc.drop (i+1)).map ZY,Q0.star.1 ((Q0.pick hsp).1 H),fun w' l' x' H'=>?_⟩;have H':=(Q0.pick (R:=ZY) (x:={ y with ob:=x' }) (g1:=oc.take i) (g2:=oc.drop (i+1)) rfl).2 (Q0.star.2 H');rw[← SL.set_split hy] at H';exact H'
theorem D5 (v:Value) (l:List Nat):NL v l=IL v (l.map fun x:Nat=>(x:Int)):=by
 show QX _ 1 v (QA l)=QX _ 1 v (Qe _);unfold QA Qe;rw[map_map];rfl
theorem iH [Q4] (a:Option Addr) (c:Nat) (L:List Nat) (x:Nat) (hl:L.length≤1000000) {w:World} {fr:List Q2} (H:Q0 w (NL (.slice a L.length c) L::fr)) :
  Calls Tryz.prog 167 #[.slice a L.length c,.int .i64 x] w (ret fun v w'=>v = .bool (decide (x∈L))∧Q0 w' (NL (.slice a L.length c) L::fr)):=by
 have hm:(L.map fun x:Nat=>(x:Int)).length=L.length:=length_map _;have h:=PJ a c L.length (L.map fun x:Nat=>(x:Int)) (x:Int) (by omega) (by omega) (w:=w) (fr:=fr) (by rw[hm,← D5];exact H)
 have hd:decide ((x:Int)∈(L.map fun x:Nat=>(x:Int)).take L.length)=decide (x∈L):=by
  rw[← hm,take_length];refine decide_eq_decide.2 ⟨fun h=>?_,fun h=>mem_map.2 ⟨x,h,rfl⟩⟩;obtain⟨y,h1,h2⟩:=mem_map.1 h;obtain rfl:y=x:=by omega
  exact h1
 rw[hd,hm,← D5] at h;exact h
theorem PT [Q4] (p:Nat) (m:MS) (r:Int) (hO:Wk m.P) {w:World} {fr:List Q2} (H:Q0 w (Qq p m::fr)) :
  Calls Tryz.prog 90 #[pp p,.int .i64 r] w (ret fun v w'=>(Y1 m.P r=false∧v = .tuple #[.slice none 0 0,.int .i64 15]∧Q0 w' (Qq p m::fr))∨(Y1 m.P r=true∧∃ vl,v = .tuple #[vl,.int .i64 0]∧Q0 w' (NL vl (Zx m.P r)::Qq p (KV m (Zx m.P r))::fr))):=by
 obtain⟨t,lc,oc,aL,cL,aO,cO,hm,h2,h3,hl1,hl2,H⟩:=Zj H;have hP:=hm.P;have hfew:=hm.few;refine QQ Tryz.func90 rfl (by kernel_rfl) ?_;refine C9 H ?_;replace H:=Js [1,0] 0 H;refine Jc rfl rfl (Wh t m.P r H) ?_;clear H;rintro v w ⟨rfl,H⟩;refine J0 H ?_;cases hlv:Y1 m.P r with
 | false=>
  refine J4 H ?_;refine Yc H ?_;exact Q3 (Jy (Yz hm h2 h3 H.swap) rfl fun w' H' => .inl ⟨rfl,rfl,H'⟩)
 | true=>
 refine Gw H ?_;refine V2 H ?_;refine Jc rfl rfl (fN t m.P hO r hP.1 (by omega) H) ?_;clear H;intro v w H;obtain⟨aU,cU,rfl⟩:=QE H (QH _) (by decide);have hUl:(Zx m.P r).length≤1000000:=by have:=Ir m.P r m.P.length;unfold Zx;omega
 generalize hL:Zx m.P r=L at H hUl ⊢;refine J0 H ?_;have hm1:=JD hm L L 0;replace H:=Js [2,1,1,1,1,1,0] 0 H;replace H:=Yz (m:={ m with P:=Vu m.P L,objs:=YI (Qd L) 0 m.objs }) hm1 h2 (by rw[Ff];exact h3) H;clear h2 h3 hl1 hl2 lc oc aL cL aO cO;refine J8 H ?_;refine Qk (fun ms σ w=>ms=[]∧σ 0=pp p∧σ 7 = .slice aU L.length cU∧Q0 w (Qq p { m with P:=Vu m.P L,objs:=m.objs.map (Qd L) }::NL (.slice aU L.length cU) L::fr)) ?_ ?_
 ·refine QP ?_;refine Ql (fun ms σ w z=>ms=[]∧∃ i:Nat,i≤m.objs.length∧z=m.objs.length - i∧σ 0=pp p∧σ 7 = .slice aU L.length cU∧σ 8 = .int .i64 i∧Q0 w (Qq p { m with P:=Vu m.P L,objs:=YI (Qd L) i m.objs }::NL (.slice aU L.length cU) L::fr)) (m:=m.objs.length) ⟨rfl,0,by omega,by omega,rfl,rfl,rfl,H⟩ ?_;clear H;rintro ms σ w z ⟨rfl,i,hi,rfl,g0,g7,g8,H⟩;rw[Q1 g0,Q1 g7,Q1 g8];have hml:=Wq (Qd L) i m.objs;by_cases hlt:i < m.objs.length
  ·have hx:=getElem?_eq_getElem hlt;generalize m.objs[i]=x at hx;have hxi:({ m with P:=Vu m.P L,objs:=YI (Qd L) i m.objs }:MS).objs[i]? = some x:=PP hx;obtain⟨t,lc,aL,cL,bO,cO,s,ptrs,qq,vw,vk,vt,rest,hmm,h2,hp,H,hclose⟩:=Gi H hxi;dsimp only at H hclose;rw[hml] at H hclose;have hset:YI (Qd L) (i+1) m.objs=(YI (Qd L) i m.objs).set i (Qd L x):=(PO hx).symm;have hw':V9 { m with P:=Vu m.P L,objs:=(YI (Qd L) i m.objs).set i (Qd L x) }:=by rw[← hset];exact JD hm L L (i+1)
   refine Ka H ?_;refine Qj rfl (fun h=>QD ?_) (fun h=>absurd (show ((i:Nat):Int) < ((m.objs.length:Nat):Int) by omega) h);refine WW H ?_;refine AF H ?_;refine Jd ?_;refine Q5 rfl (QB H rfl hp rfl ?_);refine Jv ?_;refine ZW H ?_;replace H:=Js [10,0,0,0,0,0,0,0,0,0,0] 0 H;refine Jc rfl rfl (iH aU cU L x.region hUl H) ?_;clear H;rintro v w ⟨rfl,H⟩;replace H:=Js [1,1,1,1,1,1,1,1,1,1,0] 0 H;by_cases hin:x.region∈L
   ·rw[decide_eq_true hin];refine Be H ?_;refine Vp rfl ?_;refine V2 H ?_;refine Jd ?_;refine Q5 rfl (QB H rfl hp rfl ?_);refine GL H ?_;clear H;intro w H;refine J2 H ?_;have hxx:Qd L x={ x with gone:=true }:=by unfold Qd;rw[if_pos hin]
    rw[hxx] at hset hw';replace H:Q0 w (pts qq (K6 vw vk vt { x with gone:=true })::_):=H;replace H:=hclose _ _ _ hw' H;rw[← hset] at H;refine VX H ?_;exact⟨_,⟨rfl,i+1,hlt,rfl,rfl,rfl,Qc (by omega),H⟩,by omega⟩
   ·rw[decide_eq_false hin];refine Be H ?_;refine VM rfl (QD ?_);have hxx:Qd L x=x:=by unfold Qd;rw[if_neg hin]
    rw[hxx] at hset hw';replace H:=hclose _ _ _ hw' H;rw[← hset] at H;refine VX H ?_;exact⟨_,⟨rfl,i+1,hlt,rfl,rfl,rfl,Qc (by omega),H⟩,by omega⟩
  ·obtain rfl:i=m.objs.length:=by omega
   obtain⟨t,lc,oc,aL,cL,aO,cO,hmm,h2,h3,hl1,hl2,H⟩:=Zj H;dsimp only at H;rw[hml] at H;refine Ka H ?_;refine Qj rfl (fun h=>absurd (show ((m.objs.length:Nat):Int) < ((m.objs.length:Nat):Int) from h) (by omega)) (fun h=>Qp ?_);rw[← hml] at H;replace H:=Yz (m:={ m with P:=Vu m.P L,objs:=YI (Qd L) m.objs.length m.objs }) hmm h2 h3 H;rw[JC] at H;exact⟨rfl,rfl,rfl,rfl,H⟩
 clear H;rintro ms σ w ⟨rfl,g0,g7,H⟩;rw[Q1 g0,Q1 g7];have hmG:=JD hm L L m.objs.length;rw[JC] at hmG;obtain⟨t,lc,oc,aL,cL,aO,cO,_,h2,h3,hl1,hl2,H⟩:=Zj H;dsimp only at H h2 h3 hl2;have hGl:(m.objs.map (Qd L)).length=m.objs.length:=length_map _;have hfm:(KV m L).objs=(m.objs.map (Qd L)).map (Za (m.objs.map (Qd L))):=rfl
 have hGok:∀ x∈m.objs.map (Qd L),U2 m.lays m.objs.length x:=fun x hx=>by
  have:=hmG.objs x hx
  rwa [show ({ m with P:=Vu m.P L,objs:=m.objs.map (Qd L) }:MS).objs.length=m.objs.length from hGl] at this
 have hsz:∀ x∈m.objs.map (Qd L),x.w.length < 8192:=fun x hx=>by
  obtain⟨o,ho⟩:=getElem?_of_mem hx;exact Rt (w:=hmG) ho
 rw[hGl] at H hl2;generalize m.objs.map (Qd L)=G at H h3 hGl hfm hGok hsz
 let F:OC→OC:=fun y=>{ y with ob:=Za G y.ob }
 have hF:∀ y,F y={ y with ob:=Za G y.ob }:=fun _=>rfl;clear_value F;replace H:=Js [5,4,0,0,0,0] 0 H;rw[← Ff F oc] at H;rw[Ff] at H;refine J8 H ?_;refine Qk (fun ms σ w=>ms=[]∧σ 7 = .slice aU L.length cU∧Q0 w (star ((oc.map F).map ZY)::QX 267 1 (.slice aO m.objs.length cO) (oc.map fun x=>pp x.ptr)::pts p (row 56 [pp t,.slice aL m.lays.length cL,.slice aO m.objs.length cO])::Vi t (Vu m.P L)::QX 164 4 (.slice aL m.lays.length cL) (VI lc)::star (lc.map YG)::NL (.slice aU L.length cU) L::fr)) ?_ ?_
 ·refine QP ?_;refine Ql (fun ms σ w z=>ms=[]∧∃ i:Nat,i≤m.objs.length∧z=m.objs.length - i∧σ 0=pp p∧σ 7 = .slice aU L.length cU∧σ 10 = .int .i64 i∧Q0 w (star ((YI F i oc).map ZY)::QX 267 1 (.slice aO m.objs.length cO) (oc.map fun x=>pp x.ptr)::pts p (row 56 [pp t,.slice aL m.lays.length cL,.slice aO m.objs.length cO])::Vi t (Vu m.P L)::QX 164 4 (.slice aL m.lays.length cL) (VI lc)::star (lc.map YG)::NL (.slice aU L.length cU) L::fr)) (m:=m.objs.length) ⟨rfl,0,by omega,by omega,rfl,rfl,rfl,by rw[Ff];exact H⟩ ?_;clear H;rintro ms σ w z ⟨rfl,i,hi,rfl,g0,g7,g10,H⟩;rw[Q1 g0,Q1 g7,Q1 g10];refine Ka H ?_;refine Qj rfl (fun h=>QD ?_) (fun h=>Qp ?_)
  ·have hlt:i < m.objs.length:=by omega
   have hy:=getElem?_eq_getElem (show i < oc.length by omega);generalize oc[i]=y at hy;obtain⟨qq,vw,vk,vt,x⟩:=y;have hxG:G[i]? = some x:=by rw[← h3,getElem?_map,hy];rfl
   obtain⟨_,_,hkw,htw,hgo⟩:=hGok x (mem_of_getElem? hxG);have hkt:x.kind.length=x.to.length:=by omega
   have hsx:=hsz x (mem_of_getElem? hxG);have hyK:=PP (f:=F) hy;obtain⟨rest,Hv,hno⟩:=JE hyK H;dsimp only at Hv;obtain⟨ak,ck,rfl⟩:=QE (m:=x.kind.length) Hv.drop.drop (QH _) (by decide);obtain⟨at',ct,rfl⟩:=QE (m:=x.kind.length) Hv.drop.drop.drop (by rw[QH,hkt]) (by decide);clear Hv hno rest;obtain⟨bO,sO,rfl,H,hclO⟩:=V3 H.swap (by omega)
   have hpt:∀ (k:Nat) (y:OC),oc[k]? = some y→((oc.map fun x=>pp x.ptr)++sO)[0+k*1]? = some (pp y.ptr):=fun k y hk=>by
    have:=(List.getElem?_eq_some_iff.1 hk).1;rw[Nat.zero_add,Nat.mul_one,getElem?_append_left (by rw[length_map];exact this),getElem?_map,hk];rfl
   refine AX H ?_;refine Jd ?_;refine Q5 rfl (QB H rfl (hpt i _ hy) rfl ?_);refine J0 H ?_;refine VF H ?_
   have hset0:(YI F i oc).set i ⟨qq,vw,.slice ak x.kind.length ck,.slice at' x.kind.length ct,YJ G 0 x⟩=YI F i oc:=by
    rw[iE hkt];apply ext_getElem?;intro k;rw[getElem?_set];split
    ·rename_i hk;subst hk;rw[if_pos (by rw[Wq];omega),hyK]
    ·rfl
   have hFy:F ⟨qq,vw,.slice ak x.kind.length ck,.slice at' x.kind.length ct,x⟩=⟨qq,vw,.slice ak x.kind.length ck,.slice at' x.kind.length ct,YJ G x.kind.length x⟩:=by rw[hF,iF G hkt]
   have hstep:=PO (f:=F) hy;rw[hFy] at hstep;rw[← hset0] at H;refine J6 H ?_;refine Qk (fun ms σ w=>ms=[]∧σ 0=pp p∧σ 7 = .slice aU L.length cU∧σ 10 = .int .i64 i∧Q0 w (star (((YI F i oc).set i ⟨qq,vw,.slice ak x.kind.length ck,.slice at' x.kind.length ct,YJ G x.kind.length x⟩).map ZY)::pts bO (row 267 ((oc.map fun x=>pp x.ptr)++sO))::pts p (row 56 [pp t,.slice aL m.lays.length cL,.slice (some ⟨bO,0,none⟩) m.objs.length cO])::Vi t (Vu m.P L)::QX 164 4 (.slice aL m.lays.length cL) (VI lc)::star (lc.map YG)::NL (.slice aU L.length cU) L::fr)) ?_ ?_
   ·refine QP ?_;refine Ql (fun ms σ w z=>ms=[]∧∃ j:Nat,j≤x.kind.length∧z=x.kind.length - j∧σ 0=pp p∧σ 7 = .slice aU L.length cU∧σ 10 = .int .i64 i∧σ 11=pp qq∧σ 12 = .int .i64 j∧Q0 w (pts bO (row 267 ((oc.map fun x=>pp x.ptr)++sO))::star (((YI F i oc).set i ⟨qq,vw,.slice ak x.kind.length ck,.slice at' x.kind.length ct,YJ G j x⟩).map ZY)::pts p (row 56 [pp t,.slice aL m.lays.length cL,.slice (some ⟨bO,0,none⟩) m.objs.length cO])::Vi t (Vu m.P L)::QX 164 4 (.slice aL m.lays.length cL) (VI lc)::star (lc.map YG)::NL (.slice aU L.length cU) L::fr)) (m:=x.kind.length) ⟨rfl,0,by omega,by omega,rfl,rfl,rfl,rfl,rfl,H⟩ ?_;clear H;rintro ms σ w z ⟨rfl,j,hj,rfl,g0,g7,g10,g11,g12,H⟩;rw[Q1 g0,Q1 g7,Q1 g10,Q1 g11,Q1 g12];have Hc:=H.swap
    have hcur:((YI F i oc).set i ⟨qq,vw,.slice ak x.kind.length ck,.slice at' x.kind.length ct,YJ G j x⟩)[i]? = some ⟨qq,vw,.slice ak x.kind.length ck,.slice at' x.kind.length ct,YJ G j x⟩:=by
     rw[getElem?_set_self (by rw[Wq];omega)]
    obtain⟨rest,H,hcv⟩:=JE hcur Hc;dsimp only at H hcv;obtain⟨hgk,hgt⟩:=iB G j hkt;refine Ka H ?_;refine Qj rfl (fun h=>QD ?_) (fun h=>Qp ?_)
    ·have hjl:j < x.kind.length:=by omega
     have ha:=getElem?_eq_getElem hjl;have hb:=getElem?_eq_getElem (show j < x.to.length by omega);generalize x.kind[j]=a at ha;generalize x.to[j]=b at hb;obtain⟨hga,hgb⟩:=iC (G:=G) ha hb;replace H:=Js [2,0,0,0] 0 H;obtain⟨bk,sk,rfl,H,_,_,hck⟩:=Z2 H (by omega);replace H:=Js [3,0,0,0] 0 H;obtain⟨bt,st,rfl,H,_,_,hct⟩:=Z2 H (by omega)
     have hback:∀ (w':World) (l':List Q2) (k' t':List Nat),k'.length=x.kind.length→t'.length=x.kind.length→Q0 w' (pts bt (row 3 (QA t'++st))::pts bk (row 3 (QA k'++sk))::pts qq (K6 vw (.slice (some ⟨bk,0,none⟩) x.kind.length ck) (.slice (some ⟨bt,0,none⟩) x.kind.length ct) (YJ G j x))::UL vw (YJ G j x).w::star rest::l')→Q0 w' (star (((YI F i oc).set i ⟨qq,vw,.slice (some ⟨bk,0,none⟩) x.kind.length ck,.slice (some ⟨bt,0,none⟩) x.kind.length ct,{ YJ G j x with kind:=k',to:=t' }⟩).map ZY)::l'):=by
      intro w' l' k' t' e1 e2 H;replace H:=hct _ _ (QA t') (by rw[QH,QH];omega) H;replace H:=Js [1,0,0,0] 0 H;replace H:=hck _ _ (QA k') (by rw[QH,QH];omega) H;replace H:=Js [2,2,0,0] 0 H;have H:=hcv w' l' { YJ G j x with kind:=k',to:=t' } H;rw[set_set] at H;exact H
     clear hct hck hcv Hc;refine C7 H ?_;clear H;intro w H;refine XA H ?_;refine Ja 4 ?_;refine Ji 5 ?_;refine Vn 6 [] H rfl (Q7.none rfl) rfl (Gz hga) (by kernel_rfl) ?_;refine Ja 7 ?_;refine Ja 8 ?_;by_cases hk2:a=2
     ·rw[show (((a:Nat):Int) == 2)=true by rw[hk2];rfl]
      have hbl:b < m.objs.length:=by
       have:=hgo j (by rw[ha,hk2]);rw[getD_eq_getElem?_getD,hb] at this;exact this
      have hyb:=getElem?_eq_getElem (show b < oc.length by omega);generalize oc[b]=yb at hyb
      obtain⟨zb,hzb,hzp,hzg⟩:∃ zb:OC,((YI F i oc).set i ⟨qq,vw,.slice (some ⟨bk,0,none⟩) x.kind.length ck,.slice (some ⟨bt,0,none⟩) x.kind.length ct,YJ G j x⟩)[b]? = some zb∧zb.ptr=yb.ptr∧zb.ob.gone=yb.ob.gone:=by
       rw[getElem?_set];by_cases hib:i=b
       ·subst hib;rw[if_pos rfl,if_pos (by rw[Wq];omega)];rw[hy] at hyb;injection hyb with hyb
        subst hyb;exact⟨_,rfl,rfl,rfl⟩
       ·rw[if_neg hib,Wp,hyb];refine⟨_,rfl,?_,?_⟩ <;> dsimp only <;> split
        ·rw[hF]
        ·rfl
        ·rw[hF];rfl
        ·rfl
      have hGb:G[b]? = some yb.ob:=by rw[← h3,getElem?_map,hyb];rfl
      have hhit:YV G a b=yb.ob.gone:=by
       unfold YV;rw[hGb,hk2];rfl
      have Hc:=hback _ _ _ _ hgk hgt H;obtain⟨restb,Hb,_⟩:=JE hzb Hc;have hpb:=hpt b yb hyb;rw[← hzp] at hpb;rw[← hzg] at hhit;refine Bi H ?_;refine Jl 12 [] H ?_;refine Ja 13 ?_;refine Ja 14 ?_;refine Jf 15 ?_;refine Jl 16 [] H ?_;refine Ja 17 ?_;refine Ji 18 ?_;refine Vn 19 [] H rfl (Q7.of rfl rfl rfl) rfl (Gz hgb) (by kernel_rfl) ?_;refine Ji 20 ?_;refine Vn 21 [] H rfl (Q7.of rfl rfl rfl) rfl hpb (by kernel_rfl) ?_;refine Ja 22 ?_;refine Jf 23 ?_;refine Vn 24 [] Hb rfl (Q7.of rfl rfl rfl) rfl rfl (by kernel_rfl) ?_;refine Ja 25 ?_;refine Fs (by kernel_rfl) (Vj.cons (.inr (Q0.at Hb)) (by repeat first|exact .nil|refine .cons (.inr H.at) ?_|refine .cons (.inr H.mp) ?_|refine .cons (.inl (by kernel_rfl)) ?_)) ?_;clear Hb Hc;cases hgn:zb.ob.gone with
      | true=>
       rw[hgn] at hhit
       repeat refine Q6 ?_
       refine Vp rfl ?_
       repeat refine Q6 ?_
       refine QZ ?_;refine Jv ?_;refine Jv ?_;refine Q5 rfl (VR rfl rfl ?_);refine Q5 rfl (QB H rfl rfl rfl ?_);refine Jv ?_;refine Jd ?_;refine Q5 rfl (Yh H rfl rfl inferInstance rfl (by simp only[length_append,QH];omega) rfl ?_);clear H;intro w H;rw[Int.toNat_natCast,B2 (v:=1) (x:=1) (by omega) rfl] at H;refine EB H ?_;refine Jd ?_;refine Q5 rfl (Yh H rfl rfl inferInstance rfl (by simp only[length_append,QH];omega) rfl ?_);clear H;intro w H;rw[Int.toNat_natCast,B2 (v:=0) (x:=0) (by omega) rfl] at H;refine J2 H ?_;replace H:=hback _ _ _ _ (by rw[length_set];exact hgk) (by rw[length_set];exact hgt) H;rw[iD ha hb hhit] at H;refine VX H ?_;exact⟨_,⟨rfl,j+1,hjl,rfl,rfl,rfl,rfl,rfl,Qc (by omega),H.swap⟩,by omega⟩
      | false=>
       rw[hgn] at hhit;refine V4 H ?_;replace H:=hback _ _ _ _ hgk hgt H;replace H:Q0 w (star (((YI F i oc).set i ⟨qq,vw,.slice (some ⟨bk,0,none⟩) x.kind.length ck,.slice (some ⟨bt,0,none⟩) x.kind.length ct,YJ G j x⟩).map ZY)::_):=H;rw[PS ha hb (by rw[hhit];decide)] at H;refine VX H ?_;exact⟨_,⟨rfl,j+1,hjl,rfl,rfl,rfl,rfl,rfl,Qc (by omega),H.swap⟩,by omega⟩
     ·rw[show (((a:Nat):Int) == 2)=false by rw[beq_eq_false_iff_ne];omega]
      have hhit:¬ YV G a b=true:=by
       unfold YV;rw[show (a == 2)=false by rw[beq_eq_false_iff_ne];exact hk2];simp
      refine Jn 9 ?_;refine Jn 10 ?_;refine Jn 11 ?_;refine Jn 12 ?_;refine Jn 13 ?_;refine EK H ?_;refine Jn 24 ?_;refine Ja 25 ?_;refine Jx H ?_;refine V4 H ?_;replace H:=hback _ _ _ _ hgk hgt H;replace H:Q0 w (star (((YI F i oc).set i ⟨qq,vw,.slice (some ⟨bk,0,none⟩) x.kind.length ck,.slice (some ⟨bt,0,none⟩) x.kind.length ct,YJ G j x⟩).map ZY)::_):=H;rw[PS ha hb hhit] at H;refine VX H ?_;exact⟨_,⟨rfl,j+1,hjl,rfl,rfl,rfl,rfl,rfl,Qc (by omega),H.swap⟩,by omega⟩
    ·obtain rfl:j=x.kind.length:=by omega
     exact⟨rfl,rfl,rfl,rfl,rfl,Hc⟩
   clear H;rintro ms σ w ⟨rfl,g0,g7,g10,H⟩;rw[Q1 g0,Q1 g7,Q1 g10];rw[hstep] at H;replace H:=(hclO _ _ H.swap).swap;refine VX H ?_;exact⟨_,⟨rfl,i+1,hlt,rfl,rfl,rfl,Qc (by omega),H⟩,by omega⟩
  ·obtain rfl:i=oc.length:=by omega
   rw[JC] at H;exact⟨rfl,rfl,rfl,H⟩
 clear H;rintro ms σ w ⟨rfl,g7,H⟩;rw[Q1 g7];replace H:=Js [2,2,2,2,1,0] 0 H
 have hpp:(oc.map fun x=>pp x.ptr)=((oc.map F).map fun x=>pp x.ptr):=by
  rw[map_map];congr 1
  funext y
  show pp y.ptr=pp (F y).ptr;rw[hF]
 rw[hpp] at H
 have hob:(oc.map F).map (·.ob)=G.map (Za G):=by
  have e1:(oc.map F).map (·.ob)=oc.map (fun y=>Za G y.ob):=by
   rw[map_map];congr 1
   funext y
   show (F y).ob=_;rw[hF]
  have e2:(oc.map (·.ob)).map (Za G)=oc.map (fun y=>Za G y.ob):=by
   rw[map_map];rfl
  rw[e1,← e2,h3]
 have H:=Yz (m:=KV m L) (fg hm L) h2 (by rw[hfm];exact hob) H;refine VX H ?_;exact Q3 (Jy H.swap rfl fun w' H' => .inr ⟨rfl,_,rfl,H'⟩)
theorem iI {c:List Value} {o n:Nat} {L:List Int} (h:Q9 c o n (Qe L)) {i:Nat} {x:Int} (hi:L[i]? = some x):c[o+i*1]? = some (.int .i64 x):=by
 rw[Nat.mul_one];refine h.get i _ ?_;unfold Qe;rw[getElem?_map,hi];rfl
theorem iJ [Q4] (p c mo:Nat) (a:Option Addr) (cap:Nat) (told:List (Nat×Nat)) (hlen:told.length≤1000000) (vL:Value) (L:List Int) (hL:L.length≤1000000) {w:World} {fr:List Q2} (hr:Vt fr vL L.length 1 (Qe L)) (H:Q0 w (Va p c mo (.slice a told.length cap)::VE (.slice a told.length cap) told::fr)) :
  Calls Tryz.prog 12 #[pp p,vL] w (ret fun v w'=>∃ (ys:List ((Nat×Nat)×Int)) (vt vo:Value),v = .tuple #[vt,vo]∧ys.length=L.length∧(∀ y∈ys,Rz told y)∧Q0 w' (VE vt (ys.map (·.1))::IL vo (ys.map (·.2))::Va p c mo (.slice a told.length cap)::VE (.slice a told.length cap) told::fr)):=by
 obtain⟨h0,adL,capL,rfl,hrd⟩:=hr;refine QQ Tryz.func12 rfl (by kernel_rfl) ?_;refine J4 H ?_;refine VF H ?_;refine A5 H ?_;refine Ql (fun ms σ w z=>ms=[]∧∃ (i:Nat) (ys:List ((Nat×Nat)×Int)) (vt vo:Value),i≤L.length∧z=L.length - i∧ys.length=i∧(∀ y∈ys,Rz told y)∧σ 0=pp p∧σ 6=vt∧σ 7=vo∧σ 11 = .slice adL L.length capL∧σ 12 = .int .i64 L.length∧σ 13 = .int .i64 i∧Q0 w (VE vt (ys.map (·.1))::IL vo (ys.map (·.2))::Va p c mo (.slice a told.length cap)::VE (.slice a told.length cap) told::fr)) (m:=L.length) ⟨rfl,0,[],_,_,by omega,by omega,rfl,fun y hy=>(by cases hy),rfl,rfl,rfl,rfl,rfl,rfl,Yt (Yt H)⟩ ?_;clear H;rintro ms σ w z ⟨rfl,i,ys,vt,vo,hi,rfl,hys,hch,g0,g6,g7,g11,g12,g13,H⟩;obtain⟨at',mt,ct,rfl⟩:=Qs H;obtain⟨ao,mo',co,rfl⟩:=Qs H.drop;rw[Q1 g0,Q1 g6,Q1 g7,Q1 g11,Q1 g12,Q1 g13];refine J8 H ?_;refine Qj rfl (fun h=>QD ?_) (fun h=>Qp ?_)
 ·have hlt:i < L.length:=by omega
  have hy:=getElem?_eq_getElem hlt;generalize L[i]=x at hy
  rcases hrd with hz|⟨b,o,E,fz,cc,rfl,hA,hrd⟩
  ·omega
  haveI:=hA;have hx:=iI hrd hy;refine YB H ?_;refine Jd ?_;refine Q5 rfl (QB H rfl hx rfl ?_);refine J0 H ?_;refine Yk H ?_;refine Gx H ?_;by_cases ht:told=[]
  ·subst ht;rw[show ((([]:List (Nat×Nat)).length:Int) == 0)=true from rfl];refine VH H ?_;refine YZ H ?_;refine A7 H ?_;clear H;intro b25 w H;replace H:=Js [1,0] 0 H;refine Q5 rfl (YR H rfl rfl (by repeat first|exact .nil _|apply Q9.cons rfl) rfl (by decide) (by rw[W0,length_map];simp only[length_cons,length_nil];omega) rfl rfl ?_);clear H;intro v26 w H;obtain⟨a26,m26,c26,rfl⟩:=Qs H;refine Jv ?_;refine GJ H ?_;clear H;intro b28 w H;replace H:=Js [3,0,0,0] 0 H;refine Q5 rfl (YR H rfl rfl (by repeat first|exact .nil _|apply Q9.cons rfl) rfl (by decide) (by rw[Vo,length_map];simp only[length_cons,length_nil];omega) rfl rfl ?_);clear H;intro v29 w H;obtain⟨a29,m29,c29,rfl⟩:=Qs H;refine J3 H ?_;replace H:=Js [1,2,1,0] 0 H;replace H:=H.drop.drop;have e1:ZI (ys.map (·.1))++[.int .i64 1,.int .i64 1]=ZI ((ys++[(((1,1),-1):(Nat×Nat)×Int)]).map (·.1)):=by rw[map_append,JY];rfl
   have e2:Qe (ys.map (·.2))++[.int .i64 (-1)]=Qe ((ys++[(((1,1),-1):(Nat×Nat)×Int)]).map (·.2)):=by rw[map_append,Ao];rfl
   rw[e1,e2] at H;refine Qp ?_;refine J4 H ?_;refine⟨_,⟨rfl,i+1,ys++[((1,1),-1)],_,_,hlt,rfl,by simp[hys],fun y hy=>?_,rfl,rfl,rfl,rfl,rfl,Qc (by omega),H⟩,by omega⟩
   rcases mem_append.1 hy with hy|hy
   ·exact hch y hy
   ·rw[mem_singleton] at hy;subst hy;exact .inr ⟨rfl,rfl⟩
  ·have hlp:0 < told.length:=length_pos_iff.2 ht;rw[show ((told.length:Int) == 0)=false by rw[beq_eq_false_iff_ne];omega];refine AU H ?_;refine Q5 rfl (HQ rfl rfl ?_);refine YA H ?_;refine ZW H ?_;refine Q5 rfl (ZJ rfl rfl ?_);refine Q5 rfl (HQ rfl rfl ?_)
   obtain⟨K,hK⟩:∃ K:Nat,IntKind.u64.wrap x=K:=⟨(IntKind.u64.wrap x).toNat,by
    have:0≤IntKind.u64.wrap x:=Int.emod_nonneg _ (by decide);omega⟩
   have e1:IntKind.u64.wrap (told.length:Int)=(told.length:Int):=Int.emod_eq_of_lt (by omega) (by show (told.length:Int) < 18446744073709551616;omega);rw[hK,e1];have hmod:=Nat.mod_lt K hlp
   refine UD (v := .int .u64 ((K % told.length:Nat):Int)) (by
    show (if IntKind.u64=IntKind.u64 then (if (told.length:Int)=0 then none else some (Value.int IntKind.u64 (Int.tmod (K:Int) (told.length:Int)))) else none)=_;rw[if_pos rfl,if_neg (by omega),Int.tmod_eq_emod_of_nonneg (by omega),Int.natCast_emod]) rfl ?_
   refine Q5 rfl (HQ rfl rfl ?_);rw[Qb (x:=((K % told.length:Nat):Int)) (by omega) (by omega)];refine J0 H ?_;generalize K % told.length=n at hmod;have hn:=getElem?_eq_getElem hmod;generalize told[n]=xy at hn;obtain⟨tx,ty⟩:=xy;replace H:=Js [3,0,0,0] 0 H;obtain⟨bT,sT,rfl,H,hcl⟩:=V3 H hlp;refine AH H ?_;refine Jd ?_;refine Q5 rfl (VA H rfl (Kv hn) rfl ?_);refine GJ H ?_;clear H;intro b48 w H;replace H:=Js [2,0,0] 0 H;refine Q5 rfl (YR H rfl rfl (by repeat first|exact .nil _|apply Q9.cons rfl) rfl (by decide) (by rw[W0,length_map];simp only[length_cons,length_nil];omega) rfl rfl ?_);clear H;intro v49 w H;obtain⟨a49,m49,c49,rfl⟩:=Qs H;refine YA H ?_;refine GJ H ?_;clear H;intro b52 w H;replace H:=Js [4,0,0,0,0] 0 H;refine Q5 rfl (YR H rfl rfl (by repeat first|exact .nil _|apply Q9.cons rfl) rfl (by decide) (by rw[Vo,length_map];simp only[length_cons,length_nil];omega) rfl rfl ?_);clear H;intro v53 w H;obtain⟨a53,m53,c53,rfl⟩:=Qs H;refine J3 H ?_;replace H:=Js [4,2,0,2,0,0] 0 H;replace H:=hcl _ _ H;replace H:=Js [4,4,1,1,1,0] 0 H;replace H:=H.drop.drop;have e2:ZI (ys.map (·.1))++[.int .i64 ((tx:Nat):Int),.int .i64 ((ty:Nat):Int)]=ZI ((ys++[(((tx,ty),(n:Int)):(Nat×Nat)×Int)]).map (·.1)):=by rw[map_append,JY];rfl
   have e3:Qe (ys.map (·.2))++[.int .i64 (n:Int)]=Qe ((ys++[(((tx,ty),(n:Int)):(Nat×Nat)×Int)]).map (·.2)):=by rw[map_append,Ao];rfl
   rw[e2,e3] at H;refine J4 H ?_;refine⟨_,⟨rfl,i+1,ys++[((tx,ty),(n:Int))],_,_,hlt,rfl,by simp[hys],fun y hy=>?_,rfl,rfl,rfl,rfl,rfl,Qc (by omega),H⟩,by omega⟩
   rcases mem_append.1 hy with hy|hy
   ·exact hch y hy
   ·rw[mem_singleton] at hy;subst hy;exact .inl ⟨n,rfl,hn⟩
 ·obtain rfl:i=L.length:=by omega
  refine WJ H ?_;exact Q3 (Jy H rfl fun w' H'=>⟨ys,_,_,rfl,hys,hch,H'⟩)
theorem JF [Q4] (p:Nat) (s:CS) (region:Int) {w:World} {fr:List Q2} (H:Q0 w (QW p s::fr)) :
  Calls Tryz.prog 36 #[pp p,.int .i64 region] w (ret fun v w'=>v = .int .i64 (if (QY s.par region).isSome then 0 else 15)∧Q0 w' (QW p s::fr)):=by
 obtain⟨q,mem,hw,hm,H⟩:=Vz H;replace H:=Js [5,0,0,0,0,0] 0 H;refine call (FJ p q s.last s.par region H) ?_;clear H;rintro v w ⟨rfl,H⟩;replace H:=Js [1,1,1,1,1,0] 0 H;exact⟨rfl,VY hw hm H⟩
theorem Pa [Q4] (p:Nat) (s:CS) (region:Int) (hf:QY s.par region=none) {w:World} {fr:List Q2} (H:Q0 w (QW p s::fr)) :
  Calls Tryz.prog 13 #[pp p,.int .i64 region] w (ret fun v w'=>v = .tuple #[.slice none 0 0,.int .i64 15]∧Q0 w' (QW p s::fr)):=by
 refine QQ Tryz.func13 rfl (by kernel_rfl) ?_;refine Yv H ?_;clear H;intro b2 w H;refine J3 H ?_;replace H:=H.swap;refine Ux H ?_;refine Jc rfl rfl (JF p s region H) ?_;clear H;rintro v w ⟨rfl,H⟩;rw[hf];refine AN H ?_;exact Q3 (Jy H rfl fun w' H'=>⟨rfl,H'.swap.drop⟩)
theorem iL [Q4] (p:Nat) (s:CS) (region:Int) (hf:QY s.par region=none) {w:World} {fr:List Q2} (H:Q0 w (QW p s::fr)) :
  Calls Tryz.prog 14 #[pp p,.int .i64 region] w (ret fun v w'=>v = .tuple #[.int .i64 0,.int .i64 15]∧Q0 w' (QW p s::fr)):=by
 refine QQ Tryz.func14 rfl (by kernel_rfl) ?_;refine Yv H ?_;clear H;intro b2 w H;refine J3 H ?_;replace H:=H.swap;refine Ux H ?_;refine Jc rfl rfl (JF p s region H) ?_;clear H;rintro v w ⟨rfl,H⟩;rw[hf];refine AN H ?_;exact Q3 (Jy H rfl fun w' H'=>⟨rfl,H'.swap.drop⟩)
theorem iM [Q4] (p:Nat) (s:CS) (region:Int) (l:Value) (hf:QY s.par region=none) {w:World} {fr:List Q2} (H:Q0 w (QW p s::fr)) :
  Calls Tryz.prog 15 #[pp p,.int .i64 region,l] w (ret fun v w'=>v = .tuple #[.int .i64 0,.int .i64 15]∧Q0 w' (QW p s::fr)):=by
 refine QQ Tryz.func15 rfl (by kernel_rfl) ?_;refine XF H ?_;refine Jc rfl rfl (JF p s region H) ?_;clear H;rintro v w ⟨rfl,H⟩;rw[hf];refine AN H ?_;exact Q3 (Jy H rfl fun w' H'=>⟨rfl,H'⟩)
theorem iN [Q4] (p:Nat) (m:MS) (r:Int) (hl:Y1 m.P r=false) {w:World} {fr:List Q2} (H:Q0 w (Qq p m::fr)) :
  Calls Tryz.prog 91 #[pp p,.int .i64 r] w (ret fun v w'=>v = .tuple #[.int .i64 0,.int .i64 15]∧Q0 w' (Qq p m::fr)):=by
 obtain⟨t,lc,oc,aL,cL,aO,cO,h1,h2,h3,h4,h5,H⟩:=Zj H;refine QQ Tryz.func91 rfl (by kernel_rfl) ?_;refine C9 H ?_;replace H:=H.swap;refine Jc rfl rfl (Wh t m.P r H) ?_;clear H;rintro v w ⟨rfl,H⟩;rw[hl];refine C1 H ?_;exact Q3 (Jy (Yz h1 h2 h3 H.swap) rfl fun w' H'=>⟨rfl,H'⟩)
@[reducible] def BQ (K k A B C:Int) (X:Nat) (vW:Value) (raw:Bool) (i g rg:Int) (vL:Value):List Value:=[.int .i64 K,.int .i64 k,.int .i64 A,.int .i64 B,.int .i64 C,.int .u64 X,vW,.bool raw,.int .i64 i,.int .i64 g,.int .i64 rg,vL]
theorem iO [Q4] (p:Nat) (s:CS) (m:MS) (told:List (Nat×Nat)) (n:Nat) (J:Yb s m told n) (hn:n≤60) (K k A B C i g:Int) (hK3:K≠3) (X:Nat) (hX:X < 18446744073709551616) (vW:Value) (ws:List Nat) (hws:∀ x∈ws,x < 18446744073709551616) (raw:Bool) (rg:Int) (vL:Value) (L:List Int) (hL:L.length≤80)
  {w:World} {fr:List Q2} [hT:YW 0 Lib.deBruijn64tab fr] (hrW:Vt fr vW ws.length 1 (Qa ws)) (hrL:Vt fr vL L.length 1 (Qe L)) (H:Q0 w (Uk p s m told::fr)) :
  Calls Tryz.prog 29 #[.agg (BQ K k A B C X vW raw i g rg vL).toArray,pp p] w (ret fun v w'=>v = .bool true∧∃ s' m' told',Yb s' m' told' (n+1)∧Q0 w' (Uk p s' m' told'::fr)):=by
 obtain⟨_,adW,capW,rfl,_⟩:=id hrW;obtain⟨_,adL,capL,rfl,_⟩:=id hrL;have hO:=J.O;have hQ:=J.Q;have hlen:=J.R.len;have hOl:=Iz J.R J.T;have Jn:Yb s m told (n+1):=⟨J.R,J.I,J.T,J.P,J.G,by omega,by omega⟩
 have hgen:∀ (k g:Nat) (e:Q8),s.tab[k]? = some ⟨g,some e⟩→g < 255:=fun k g e hk=>by
  have:=J.G k _ hk;dsimp only at this;omega
 refine QQ Tryz.func29 rfl (by kernel_rfl) ?_;refine J7 H ?_;clear H;intro b2 w H;refine WX H ?_;refine J2 H ?_;refine RH H ?_;by_cases hK0:K=0
 ·subst hK0;refine VH H ?_;refine YZ H ?_;refine CZ H ?_;refine Jc rfl rfl (gf p s m told J.R (by omega) (by omega) k A B C i g X hX _ ws hws raw hrW.there H.swap) ?_;clear H;rintro v w ⟨rfl,s',m',told',R',S',H⟩;refine J0 H ?_;exact Q3 (Jy H.swap.drop rfl fun w' H'=>⟨rfl,s',m',told',J.step R' S',H'⟩)
 rw[show (K == 0)=false by simpa using hK0];refine Zf H ?_;obtain⟨c,mo,a,cap,H⟩:=FT H.swap;obtain⟨_,_,hw,_,_⟩:=Vz H.swap;obtain⟨_,_,_,_,_,_,_,hmw,_⟩:=Zj (H.sel [2,0,0,0] 0);by_cases hK1:K=1
 ·subst hK1;refine VH H ?_;replace H:=Js [1,3,0,0,0] 0 H;refine J1 H ?_;clear H;intro w H;refine HF H ?_;cases hf:QY s.par rg with
  | none=>
   have hlv:Y1 m.P rg=false:=by rw[← Wj J.R,hf];rfl
   refine Jo 6 H ?_;refine Jk rfl rfl (Pa c s rg hf H) ?_;clear H;rintro v w ⟨rfl,H⟩;refine UJ H ?_;replace H:=Js [3,0,0,0,0] 0 H;refine J1 H ?_;clear H;intro w H;refine Xx H ?_;refine Jk rfl rfl (PT mo m rg hOl H) ?_;clear H;rintro v w (⟨_,rfl,H⟩|⟨hl,_⟩)
   case inr=>rw[hlv] at hl;cases hl
   refine ES H ?_;refine Zm H ?_;replace H:=Yt (E:=3) (k:=1) (Yt (E:=3) (k:=1) H);refine QT rfl rfl rfl (Qy (a:=[]) (b:=[]) rfl rfl (call (If (.slice none 0 0) (.slice none 0 0) [] [] (by simp) H) ?_));clear H;rintro v w ⟨rfl,H⟩;replace H:=H.drop.drop;refine J3 H ?_;replace H:=Js [2,2,1,0,0] 0 H;exact Q3 (Jy (YH H.drop) rfl fun w' H'=>⟨rfl,s,m,told,Jn,H'⟩)
  | some q=>
   have hid:(QY s.par rg).isSome=true:=by rw[hf];rfl
   have hlv:Y1 m.P rg=true:=by rw[← Wj J.R,hid]
   have hpl:=hw.par.1;refine Jo 6 H ?_;refine Jk rfl rfl (Iu c s rg J.T hid J.I hgen H) ?_;clear H;rintro v w ⟨u,L',s',rfl,hL1,hL2,hL3,hL4,hFS,H⟩;obtain⟨hLe,J'⟩:=J.free hmw hid hL1 hL2 hL3 hFS;obtain⟨au,mu,cu,rfl⟩:=Qs H;refine UJ H ?_;replace H:=Js [4,0,0,0,0] 0 H;refine J1 H ?_;clear H;intro w H;refine Xx H ?_;refine Jk rfl rfl (PT mo m rg hOl H) ?_;clear H;rintro v w (⟨hl,_⟩|⟨_,vl,rfl,H⟩)
   ·rw[hlv] at hl;cases hl
   rw[D5,← hLe] at H;obtain⟨av,mv,cv,rfl⟩:=Qs H;refine UJ H ?_;replace H:=Js [2,0,0] 0 H;refine Xq H ?_;refine Zm H ?_;refine QT rfl rfl rfl (Qy (a:=[]) (b:=[]) rfl rfl (call (If _ _ L' L' (by omega) H) ?_));clear H;rintro v w ⟨rfl,H⟩;rw[decide_eq_true rfl];replace H:=H.drop.drop;refine J3 H ?_;replace H:=Js [2,2,1,0,0] 0 H;exact Q3 (Jy (YH H.drop) rfl fun w' H'=>⟨rfl,s',_,told,J',H'⟩)
 rw[show (K == 1)=false by simpa using hK1];refine Zf H ?_;by_cases hK2:K=2
 ·subst hK2;refine VH H ?_;replace H:=Js [1,3,0,0,0] 0 H;refine J1 H ?_;clear H;intro w H;refine HF H ?_;cases hf:QY s.par rg with
  | none=>
   have hlv:Y1 m.P rg=false:=by rw[← Wj J.R,hf];rfl
   refine Jo 6 H ?_;refine Jk rfl rfl (iL c s rg hf H) ?_;clear H;rintro v w ⟨rfl,H⟩;refine UJ H ?_;replace H:=Js [3,0,0,0,0] 0 H;refine J1 H ?_;clear H;intro w H;refine Xx H ?_;refine Jk rfl rfl (iN mo m rg hlv H) ?_;clear H;rintro v w ⟨rfl,H⟩;refine ES H ?_;refine XR H ?_;refine J3 H ?_;replace H:=Js [2,2,1,0,0] 0 H;exact Q3 (Jy (YH H.drop) rfl fun w' H'=>⟨rfl,s,m,told,Jn,H'⟩)
  | some q=>
   obtain⟨id,rfl,hid1,hPid,hq0⟩:=(J.R.tree _ _).1 ((Z1 J.R.nd).1 hf);obtain⟨qn,rfl⟩:∃ qn:Nat,q=qn:=⟨q.toNat,by omega⟩;refine Jo 6 H ?_;refine Jk rfl rfl (gU c s (id:Int) (qn:Int) hf J.T H) ?_;clear H;rintro v w (⟨hz,rfl,H⟩|⟨hz,rfl,s',hM,H⟩)
   ·refine UJ H ?_;replace H:=Js [3,0,0,0,0] 0 H;refine J1 H ?_;clear H;intro w H;refine Xx H ?_;refine Jk rfl rfl (PM mo m id (qn:Int) hid1 hPid hq0 H) ?_;clear H;rintro v w (⟨_,rfl,H⟩|⟨hz',_⟩)
    case inr=>exact absurd hz hz'
    refine ES H ?_;refine XR H ?_;refine J3 H ?_;replace H:=Js [2,2,1,0,0] 0 H;exact Q3 (Jy (YH H.drop) rfl fun w' H'=>⟨rfl,s,m,told,Jn,H'⟩)
   ·have J':=J.merge hf (by omega) hM;refine UJ H ?_;replace H:=Js [3,0,0,0,0] 0 H;refine J1 H ?_;clear H;intro w H;refine Xx H ?_;refine Jk rfl rfl (PM mo m id (qn:Int) hid1 hPid hq0 H) ?_;clear H;rintro v w (⟨hz',_⟩|⟨_,rfl,H⟩)
    ·exact absurd hz' hz
    rw[Int.toNat_natCast] at H;refine UJ H ?_;refine Vc H ?_;rw[Gm ((qn:Nat):Int)];refine Br H ?_;refine J3 H ?_;replace H:=Js [2,2,1,0,0] 0 H;exact Q3 (Jy (YH H.drop) rfl fun w' H'=>⟨rfl,s',_,told,J',H'⟩)
 rw[show (K == 2)=false by simpa using hK2];refine Zf H ?_;rw[show (K == 3)=false by simpa using hK3];refine KS H ?_;replace H:=Js [4,0,0,0,0] 0 H;exact Q3 (Jy (YH H.drop) rfl fun w' H'=>⟨rfl,s,m,told,Jn,H'⟩)
end Go.Proofs.YtbnnnljagkjpiaaGreatDoor
