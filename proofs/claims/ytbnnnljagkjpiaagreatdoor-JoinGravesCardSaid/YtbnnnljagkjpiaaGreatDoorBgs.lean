/- Cells: what is proved on the way: every input of the statement; no condition. Texts joined: ModE LawP LawQ LawR RefE. -/
import Derived.Test.YtbnnnljagkjpiaaGreatDoorBgf
import Derived.Test.YtbnnnljagkjpiaaGreatDoorBgr
import Derived.Test.YtbnnnljagkjpiaaGreatDoorBgm
set_option linter.unusedVariables false
set_option linter.unusedSimpArgs false
set_option linter.unusedSectionVars false
namespace Go.Proofs.YtbnnnljagkjpiaaGreatDoor
open List
open Go.SL
def GZ (region lay count:Int) (n:Nat):QI:=⟨region.toNat,lay.toNat,count.toNat,List.replicate n 0,List.replicate n 0,List.replicate n 0,true,false,false⟩
def Kq (m:MS) (region lay count:Int):MS:={ m with objs:=m.objs++[GZ region lay count (Vq m region lay count).1] }
theorem FE {m:MS} {region lay count:Int} (h:(Vq m region lay count).2=0):∃ (r la c:Nat) (l:QL),region=r∧lay=(la+1:Nat)∧count=c∧Y1 m.P region=true∧m.lays[la]? = some l∧Vq m region lay count=VQ l c∧VQ l c=(l.fixed+c*l.record,0)∧l.fixed+c*l.record < 8192:=by
 unfold Vq at h ⊢;by_cases h1:Y1 m.P region=false
 ·rw[if_pos h1] at h;cases h
 ·rw[if_neg h1] at h ⊢;by_cases h2:lay < 1∨(m.lays.length:Int) < lay
  ·rw[if_pos h2] at h;cases h
  ·rw[if_neg h2] at h ⊢;have h3:Y1 m.P region=true:=by simpa using h1
   have h4:0 < region:=by
    unfold Y1 at h3;exact(of_decide_eq_true h3).1
   obtain⟨la,rfl⟩:∃ la:Nat,lay=((la+1:Nat):Int):=⟨lay.toNat - 1,by omega⟩;have hla:la < m.lays.length:=by omega
   have hl:=getElem?_eq_getElem hla;generalize m.lays[la]=l at hl;rw[Int.toNat_natCast,Nat.add_sub_cancel,hl] at h ⊢;replace h:(VQ l count).2=0:=h;unfold VQ at h;split at h
   ·cases h
   ·rename_i hc;split at h
    ·cases h
    ·rename_i hs;obtain⟨c,rfl⟩:∃ c:Nat,count=c:=⟨count.toNat,by omega⟩;rw[Int.toNat_natCast] at hs;refine⟨region.toNat,la,c,l,by omega,rfl,rfl,h3,hl,rfl,?_,by omega⟩;unfold VQ;rw[if_neg hc,Int.toNat_natCast,if_neg hs]
theorem Ii {m:MS} {region lay count:Int} (h:(Vq m region lay count).2=0) (hm:V9 m) (hf:m.objs.length < 100000):V9 (Kq m region lay count):=by
 obtain⟨r,la,c,l,rfl,rfl,rfl,hl,hla,hmay,hsz,hlt⟩:=FE h;have hlen:(m.objs++[GZ r ((la+1:Nat):Int) c (Vq m r ((la+1:Nat):Int) c).1]).length=m.objs.length+1:=by simp
 refine⟨hm.P,hm.lays,fun x hx=>?_,by show (m.objs++[_]).length≤_;rw[hlen];omega⟩;show U2 m.lays (m.objs++[_]).length x;rw[hlen]
 rcases mem_append.1 hx with hx|hx
 ·obtain⟨a,b,c,d,e⟩:=hm.objs x hx;exact⟨a,b,c,d,fun p hp=>by have:=e p hp;omega⟩
 ·simp only[mem_singleton] at hx;subst hx;rw[hmay,hsz];refine⟨⟨l,?_,hm.lays.2 l (mem_of_getElem? hla),?_⟩,?_,rfl,rfl,?_⟩
  ·show m.lays[(((la+1:Nat):Int).toNat) - 1]? = _;rw[Int.toNat_natCast];exact hla
  ·show VQ l ((((c:Nat):Int).toNat:Nat):Int)=((List.replicate (l.fixed+c*l.record) 0).length,0);rw[Int.toNat_natCast,hsz,length_replicate]
  ·show 1≤((la+1:Nat):Int).toNat;omega
  ·intro p hp;have:(List.replicate (l.fixed+c*l.record) 0)[p]? = some 2:=hp;rw[getElem?_replicate] at this;split at this <;> cases this
theorem B3 [Q4] {w:World} {p t bO bW bK bT n rr la c:Nat} {m:MS} {lc:List Z5} {oc:List OC} {aL aS:Option Addr} {cL cS:Nat} {fr:List Q2} (hm':V9 { m with objs:=m.objs++[GZ (rr:Int) ((la+1:Nat):Int) (c:Int) n] }) (h2:lc.map (·.2.2)=m.lays) (h3:oc.map (·.ob)=m.objs) (hl1:lc.length=m.lays.length)
  (H : Q0 w (pts bO (row 266 [.int .i64 rr, .int .i64 ((la + 1 : Nat) : Int), .int .i64 c, .slice (some ⟨bW, 0, none⟩) n n, .slice (some ⟨bK, 0, none⟩) n n, .slice (some ⟨bT, 0, none⟩) n n, .bool true, .bool false, .bool false]) :: UL (.slice (some ⟨bW, 0, none⟩) n n) (List.replicate n 0) :: NL (.slice (some ⟨bK, 0, none⟩) n n) (List.replicate n 0) :: NL (.slice (some ⟨bT, 0, none⟩) n n) (List.replicate n 0) :: star (oc.map ZY) ::
   pts p (row 56 [pp t,.slice aL m.lays.length cL,.slice aS (m.objs.length+1) cS])::Vi t m.P::QX 164 4 (.slice aL m.lays.length cL) (VI lc)::star (lc.map YG)::QX 267 1 (.slice aS (m.objs.length+1) cS) ((oc.map fun x=>pp x.ptr)++[pp bO])::fr)) :
  Q0 w (Qq p { m with objs:=m.objs++[GZ (rr:Int) ((la+1:Nat):Int) (c:Int) n] }::fr):=by
 have H1:Q0 w (star ((oc++[(⟨bO,.slice (some ⟨bW,0,none⟩) n n,.slice (some ⟨bK,0,none⟩) n n,.slice (some ⟨bT,0,none⟩) n n,GZ (rr:Int) ((la+1:Nat):Int) (c:Int) n⟩:OC)]).map ZY)::pts p (row 56 [pp t,.slice aL m.lays.length cL,.slice aS (m.objs.length+1) cS])::Vi t m.P::QX 164 4 (.slice aL m.lays.length cL) (VI lc)::star (lc.map YG)::QX 267 1 (.slice aS (m.objs.length+1) cS) ((oc.map fun x=>pp x.ptr)++[pp bO])::fr):=by
  refine(Q0.pick (g1:=oc) (g2:=[]) rfl).2 ?_;rw[append_nil];exact Q0.star.2 H
 replace H1:=Js [1,1,1,1,1,0] 0 H1;exact Yz (m:={ m with objs:=m.objs++[GZ (rr:Int) ((la+1:Nat):Int) (c:Int) n] }) (oc:=oc++[(⟨bO,.slice (some ⟨bW,0,none⟩) n n,.slice (some ⟨bK,0,none⟩) n n,.slice (some ⟨bT,0,none⟩) n n,GZ (rr:Int) ((la+1:Nat):Int) (c:Int) n⟩:OC)]) hm' h2 (by rw[map_append,h3];rfl) (by rw[map_append];exact H1)
theorem eu [Q4] (p:Nat) (m:MS) (region lay count:Int) (hmay:(Vq m region lay count).2=0) (hf:m.objs.length < 100000) {w:World} {fr:List Q2} (H:Q0 w (Qq p m::fr)) :
  Calls Tryz.prog 215 #[pp p,.int .i64 region,.int .i64 lay,.int .i64 count] w (ret fun v w'=>v = .tuple #[]∧Q0 w' (Qq p (Kq m region lay count)::fr)):=by
 refine QQ Tryz.func215 rfl (by kernel_rfl) ?_;refine Xq H ?_;refine Jc rfl rfl (OI p m region lay count H) ?_;clear H;rintro v w ⟨rfl,H⟩;have hr:Kq m region lay count={ m with objs:=m.objs++[GZ region lay count (Vq m region lay count).1] }:=rfl;rw[hr];obtain⟨t,lc,oc,aL,cL,aO,cO,hm,h2,h3,hl1,hl2,H⟩:=Zj H;have hm':V9 _:=Ii hmay hm hf;rw[hr] at hm';obtain⟨rr,la,c,l,rfl,rfl,rfl,hlv,hla,hmm,hsz,hlt⟩:=FE hmay;have hn1:(Vq m (rr:Int) ((la+1:Nat):Int) (c:Int)).1=l.fixed+c*l.record:=by rw[hmm,hsz]
 rw[hmm,hsz] at hm' ⊢;generalize l.fixed+c*l.record=n at *
 have z1:Y2 (Qv (.int .u64 0)) n=Qa (List.replicate n 0):=by
  rw[show Qv (.int .u64 0)=[.int .u64 0] from rfl,WV];simp[Qa]
 have z2:Y2 (Qv (.int .i64 0)) n=QA (List.replicate n 0):=by
  rw[show Qv (.int .i64 0)=[.int .i64 0] from rfl,WV];simp[QA]
 refine Db H ?_;clear H;intro w H;refine WH H ?_;refine Jl 4 [17,20] H ?_;refine Ja 5 ?_;refine Ja 6 ?_;refine Ja 7 ?_;refine Ja 8 ?_;refine Ja 10 ?_;refine Ja 12 ?_;refine Sg 9 11 13 rfl rfl rfl (by kernel_rfl) (by repeat first|exact .nil|refine .cons (.inr H.at) ?_|refine .cons (.inr H.mp) ?_|refine .cons (.inl (by kernel_rfl)) ?_) (Q7.none rfl) (Q7.none rfl) (Q7.none rfl) (ZR H rfl rfl (by decide) (by omega) rfl ?_) (ZR H rfl rfl (by decide) (by omega) rfl ?_) (ZR H rfl rfl (by decide) (by omega) rfl ?_)
 ·clear H;intro bW w H;rw[z1] at H;refine Jw 11 13 H rfl rfl (ZR H rfl rfl (by decide) (by omega) rfl ?_) (ZR H rfl rfl (by decide) (by omega) rfl ?_)
  ·clear H;intro bK w H;rw[z2] at H;refine Jo 13 H ?_;refine ZR H rfl rfl (by decide) (by omega) rfl ?_;clear H;intro bT w H;rw[z2] at H;replace H:=Js [2,1,0] 0 H;refine AS H ?_;clear H;intro bO w H
   refine Aa H ?_;clear H;intro bS w H;replace H:=Js [9,0,0,0,0,0,0,0,0,0,0] 0 H;refine Jo 17 H ?_;refine YR H rfl rfl (by repeat first|exact .nil _|apply Q9.cons rfl) rfl (by decide) (by simp;omega) rfl rfl ?_;clear H;intro vS w H;obtain⟨aS,cS,rfl⟩:=QE H (m:=m.objs.length+1) (by simp[hl2]) (by decide);refine Ab H ?_;clear H;intro w H;refine Jx H ?_;replace H:=Js [2,2,2,2,6,2,2,2,2,0] 1 H;exact Y6 _ (.inl rfl) (B3 hm' h2 h3 hl1 H) rfl fun w' H'=>⟨rfl,H'⟩
  ·clear H;intro bT w H;rw[z2] at H;refine Jo 11 H ?_;refine ZR H rfl rfl (by decide) (by omega) rfl ?_;clear H;intro bK w H;rw[z2] at H;replace H:=Js [2,0,0] 0 H;refine AS H ?_;clear H;intro bO w H
   refine Aa H ?_;clear H;intro bS w H;replace H:=Js [9,0,0,0,0,0,0,0,0,0,0] 0 H;refine Jo 17 H ?_;refine YR H rfl rfl (by repeat first|exact .nil _|apply Q9.cons rfl) rfl (by decide) (by simp;omega) rfl rfl ?_;clear H;intro vS w H;obtain⟨aS,cS,rfl⟩:=QE H (m:=m.objs.length+1) (by simp[hl2]) (by decide);refine Ab H ?_;clear H;intro w H;refine Jx H ?_;replace H:=Js [2,2,2,2,6,2,2,2,2,0] 1 H;exact Y6 _ (.inl rfl) (B3 hm' h2 h3 hl1 H) rfl fun w' H'=>⟨rfl,H'⟩
 ·clear H;intro bK w H;rw[z2] at H;refine Jw 9 13 H rfl rfl (ZR H rfl rfl (by decide) (by omega) rfl ?_) (ZR H rfl rfl (by decide) (by omega) rfl ?_)
  ·clear H;intro bW w H;rw[z1] at H;refine Jo 13 H ?_;refine ZR H rfl rfl (by decide) (by omega) rfl ?_;clear H;intro bT w H;rw[z2] at H;replace H:=Js [1,1,0] 0 H;refine AS H ?_;clear H;intro bO w H
   refine Aa H ?_;clear H;intro bS w H;replace H:=Js [9,0,0,0,0,0,0,0,0,0,0] 0 H;refine Jo 17 H ?_;refine YR H rfl rfl (by repeat first|exact .nil _|apply Q9.cons rfl) rfl (by decide) (by simp;omega) rfl rfl ?_;clear H;intro vS w H;obtain⟨aS,cS,rfl⟩:=QE H (m:=m.objs.length+1) (by simp[hl2]) (by decide);refine Ab H ?_;clear H;intro w H;refine Jx H ?_;replace H:=Js [2,2,2,2,6,2,2,2,2,0] 1 H;exact Y6 _ (.inl rfl) (B3 hm' h2 h3 hl1 H) rfl fun w' H'=>⟨rfl,H'⟩
  ·clear H;intro bT w H;rw[z2] at H;refine Jo 9 H ?_;refine ZR H rfl rfl (by decide) (by omega) rfl ?_;clear H;intro bW w H;rw[z1] at H;replace H:=Js [0,1,0] 0 H;refine AS H ?_;clear H;intro bO w H
   refine Aa H ?_;clear H;intro bS w H;replace H:=Js [9,0,0,0,0,0,0,0,0,0,0] 0 H;refine Jo 17 H ?_;refine YR H rfl rfl (by repeat first|exact .nil _|apply Q9.cons rfl) rfl (by decide) (by simp;omega) rfl rfl ?_;clear H;intro vS w H;obtain⟨aS,cS,rfl⟩:=QE H (m:=m.objs.length+1) (by simp[hl2]) (by decide);refine Ab H ?_;clear H;intro w H;refine Jx H ?_;replace H:=Js [2,2,2,2,6,2,2,2,2,0] 1 H;exact Y6 _ (.inl rfl) (B3 hm' h2 h3 hl1 H) rfl fun w' H'=>⟨rfl,H'⟩
 ·clear H;intro bT w H;rw[z2] at H;refine Jw 9 11 H rfl rfl (ZR H rfl rfl (by decide) (by omega) rfl ?_) (ZR H rfl rfl (by decide) (by omega) rfl ?_)
  ·clear H;intro bW w H;rw[z1] at H;refine Jo 11 H ?_;refine ZR H rfl rfl (by decide) (by omega) rfl ?_;clear H;intro bK w H;rw[z2] at H;replace H:=Js [1,0,0] 0 H;refine AS H ?_;clear H;intro bO w H
   refine Aa H ?_;clear H;intro bS w H;replace H:=Js [9,0,0,0,0,0,0,0,0,0,0] 0 H;refine Jo 17 H ?_;refine YR H rfl rfl (by repeat first|exact .nil _|apply Q9.cons rfl) rfl (by decide) (by simp;omega) rfl rfl ?_;clear H;intro vS w H;obtain⟨aS,cS,rfl⟩:=QE H (m:=m.objs.length+1) (by simp[hl2]) (by decide);refine Ab H ?_;clear H;intro w H;refine Jx H ?_;replace H:=Js [2,2,2,2,6,2,2,2,2,0] 1 H;exact Y6 _ (.inl rfl) (B3 hm' h2 h3 hl1 H) rfl fun w' H'=>⟨rfl,H'⟩
  ·clear H;intro bK w H;rw[z2] at H;refine Jo 9 H ?_;refine ZR H rfl rfl (by decide) (by omega) rfl ?_;clear H;intro bW w H;rw[z1] at H;replace H:=Js [0,0,0] 0 H;refine AS H ?_;clear H;intro bO w H
   refine Aa H ?_;clear H;intro bS w H;replace H:=Js [9,0,0,0,0,0,0,0,0,0,0] 0 H;refine Jo 17 H ?_;refine YR H rfl rfl (by repeat first|exact .nil _|apply Q9.cons rfl) rfl (by decide) (by simp;omega) rfl rfl ?_;clear H;intro vS w H;obtain⟨aS,cS,rfl⟩:=QE H (m:=m.objs.length+1) (by simp[hl2]) (by decide);refine Ab H ?_;clear H;intro w H;refine Jx H ?_;replace H:=Js [2,2,2,2,6,2,2,2,2,0] 1 H;exact Y6 _ (.inl rfl) (B3 hm' h2 h3 hl1 H) rfl fun w' H'=>⟨rfl,H'⟩
def ey:Option (Nat×Nat)→VP
 | some (k,g) => .obj k g
 | none => .none
def ZZ (told:List (Nat×Nat)) (kd t:Nat):VP:=if kd=2 then ey told[t]? else if kd=1 then .grave else .none
def Uj (ls:List QL) (i:Nat):QL:=(ls[i - 1]?).getD ⟨0,[],0,[]⟩
structure U3 (lays:List QL) (told:List (Nat×Nat)) (e:Q8) (x:QI):Prop where
 region:e.region=x.region
 lay:e.lay=x.lay
 count:e.count=x.count
 held:e.held=x.held
 pinned:e.pinned=x.pinned
 len:e.ws.length=x.w.length
 ref:∀ p,p < x.w.length→VV (Uj lays x.lay) p=true→ZE (e.ws.getD p 0)=ZZ told (x.kind.getD p 0) (x.to.getD p 0)
 word:∀ p,p < x.w.length→VV (Uj lays x.lay) p=false→e.ws.getD p 0=x.w.getD p 0
 kind:∀ p,p < x.w.length→x.kind.getD p 0≠0→VV (Uj lays x.lay) p=true∧x.kind.getD p 0≤2
structure Rel (s:CS) (m:MS) (told:List (Nat×Nat)):Prop where
 len:told.length=m.objs.length
 lays:s.lays=m.lays
 tree:∀ (r q:Int),(r,q)∈s.par↔∃ k:Nat,r=k∧1≤k∧m.P[k]? = some q∧0≤q
 nd:(s.par.map (·.1)).Nodup
 last:s.last+1=m.P.length
 obj:∀ (o:Nat) (x:QI) (k g:Nat),m.objs[o]? = some x→told[o]? = some (k,g)→x.gone=false→∃ e,s.tab[k]? = some ⟨g,some e⟩∧U3 m.lays told e x
 gone:∀ (o:Nat) (x:QI) (k g:Nat),m.objs[o]? = some x→told[o]? = some (k,g)→x.gone=true→∀ e,s.tab[k]? ≠ some ⟨g,some e⟩
 used:∀ (k g:Nat) (e:Q8),s.tab[k]? = some ⟨g,some e⟩→∃ o:Nat,told[o]? = some (k,g)
 gens:∀ (o k g:Nat),told[o]? = some (k,g)→∃ t,s.tab[k]? = some t∧g≤t.gen
 nodup:told.Nodup
structure Rv (s:CS) (m:MS) (told:List (Nat×Nat)):Prop where
 len:told.length=m.objs.length
 lays:s.lays=m.lays
 tree:∀ (r q:Int),(r,q)∈s.par↔∃ k:Nat,r=k∧1≤k∧m.P[k]? = some q∧0≤q
 nd:(s.par.map (·.1)).Nodup
 obj:∀ (o:Nat) (x:QI) (k g:Nat),m.objs[o]? = some x→told[o]? = some (k,g)→x.gone=false→∃ e,s.tab[k]? = some ⟨g,some e⟩∧U3 m.lays told e x
 gone:∀ (o:Nat) (x:QI) (k g:Nat),m.objs[o]? = some x→told[o]? = some (k,g)→x.gone=true→∀ e,s.tab[k]? ≠ some ⟨g,some e⟩
theorem Rel.w {s:CS} {m:MS} {told:List (Nat×Nat)} (R:Rel s m told):Rv s m told:=⟨R.len,R.lays,R.tree,R.nd,R.obj,R.gone⟩
theorem FF {α:Type} {l:List α} (h:l.Nodup) {i j:Nat} {a:α} (hi:l[i]? = some a) (hj:l[j]? = some a):i=j:=by
 have h1:=(List.getElem?_eq_some_iff.1 hi);have h2:=(List.getElem?_eq_some_iff.1 hj);obtain⟨a1,b1⟩:=h1;obtain⟨a2,b2⟩:=h2;have h3:=pairwise_iff_getElem.1 h
 rcases Nat.lt_trichotomy i j with h4|h4|h4
 ·exact absurd (b1.trans b2.symm) (h3 i j a1 a2 h4)
 ·exact h4
 ·exact absurd (b2.trans b1.symm) (h3 j i a2 a1 h4)
theorem B4 {s:CS} {m:MS} {told:List (Nat×Nat)} (R:Rel s m told) {n k g:Nat} {e e':Q8} {x x':QI} (ht:told[n]? = some (k,g)) (hk:s.tab[k]? = some ⟨g,some e⟩) (hx:m.objs[n]? = some x) (hg:x.gone=false) (hg':x'.gone=false) (hl:U3 m.lays told e' x') (rem:List ((Int×Int)×Int)) :
  Rel { VO s k g e' with rem:=rem } (Yq m n x') told:=by
 have hnl:=(List.getElem?_eq_some_iff.1 hx).1;have hkl:=(List.getElem?_eq_some_iff.1 hk).1;refine⟨by show told.length=(m.objs.set n x').length;rw[length_set];exact R.len,R.lays,R.tree,R.nd,R.last,?_,?_,?_,?_,R.nodup⟩
 ·intro o x0 k0 g0 (hx0:(m.objs.set n x')[o]? = some x0) ht0 hg0;by_cases hon:n=o
  ·subst hon;rw[getElem?_set_self hnl] at hx0;injection hx0 with hx0
   subst hx0;rw[ht] at ht0;injection ht0 with h1
   injection h1 with h1 h2
   subst h1 h2;exact⟨e',by show (s.tab.set k _)[k]? = _;rw[getElem?_set_self hkl],hl⟩
  ·rw[getElem?_set_ne hon] at hx0;obtain⟨e0,h1,h2⟩:=R.obj o x0 k0 g0 hx0 ht0 hg0;refine⟨e0,?_,h2⟩;show (s.tab.set k _)[k0]? = _;by_cases hkk:k=k0
   ·subst hkk;rw[hk] at h1;injection h1 with h1
    injection h1 with h1 _
    subst h1;exact absurd (FF R.nodup ht ht0) hon
   ·rw[getElem?_set_ne hkk];exact h1
 ·intro o x0 k0 g0 (hx0:(m.objs.set n x')[o]? = some x0) ht0 hg0 e0 (h1:(s.tab.set k _)[k0]? = _);by_cases hon:n=o
  ·subst hon;rw[getElem?_set_self hnl] at hx0;injection hx0 with hx0
   subst hx0;rw[hg'] at hg0;cases hg0
  ·rw[getElem?_set_ne hon] at hx0
   rcases Qz h1 with ⟨rfl,h2,_⟩|⟨_,h2⟩
   ·injection h2 with h2 _
    subst h2;exact hon (FF R.nodup ht ht0)
   ·exact R.gone o x0 k0 g0 hx0 ht0 hg0 e0 h2
 ·intro k0 g0 e0 (h1:(s.tab.set k _)[k0]? = _)
  rcases Qz h1 with ⟨rfl,h2,_⟩|⟨_,h2⟩
  ·injection h2 with h2 _
   subst h2;exact⟨n,ht⟩
  ·exact R.used k0 g0 e0 h2
 ·intro o k0 g0 ht0;obtain⟨t,h1,h2⟩:=R.gens o k0 g0 ht0;show ∃ t,(s.tab.set k _)[k0]? = some t∧_;by_cases hkk:k=k0
  ·subst hkk;rw[hk] at h1;injection h1 with h1
   subst h1;exact⟨_,getElem?_set_self hkl,h2⟩
  ·exact⟨t,by rw[getElem?_set_ne hkk];exact h1,h2⟩
theorem ez {s:CS} {m:MS} {told:List (Nat×Nat)} (R:Rel s m told) {n:Nat} {x x':QI} (hx:m.objs[n]? = some x) (hg:x.gone=true) (hg':x'.gone=true):Rel s (Yq m n x') told:=by
 have hnl:=(List.getElem?_eq_some_iff.1 hx).1;refine⟨by show told.length=(m.objs.set n x').length;rw[length_set];exact R.len,R.lays,R.tree,R.nd,R.last,?_,?_,R.used,R.gens,R.nodup⟩
 ·intro o x0 k0 g0 (hx0:(m.objs.set n x')[o]? = some x0) ht0 hg0;by_cases hon:n=o
  ·subst hon;rw[getElem?_set_self hnl] at hx0;injection hx0 with hx0
   subst hx0;rw[hg'] at hg0;cases hg0
  ·rw[getElem?_set_ne hon] at hx0;exact R.obj o x0 k0 g0 hx0 ht0 hg0
 ·intro o x0 k0 g0 (hx0:(m.objs.set n x')[o]? = some x0) ht0 hg0;by_cases hon:n=o
  ·subst hon;exact R.gone n x k0 g0 hx ht0 hg
  ·rw[getElem?_set_ne hon] at hx0;exact R.gone o x0 k0 g0 hx0 ht0 hg0
def U4 (told:List (Nat×Nat)) (i g o:Int):Prop:=(∃ k gg n:Nat,i=k∧g=gg∧o=n∧told[n]? = some (k,gg))∨(o = -1∧∀ (k gg n:Nat),i=k→g=gg→told[n]? ≠ some (k,gg))
@[reducible] def Vd (s:CS) (m:MS) (told:List (Nat×Nat)) (i g o:Int):Prop:=(Qn s.tab i g=none∧V5 m o=none) ∨
  ∃ (k gg n:Nat) (e:Q8) (x:QI),i=k∧g=gg∧o=n∧told[n]? = some (k,gg)∧s.tab[k]? = some ⟨gg,some e⟩∧m.objs[n]? = some x∧x.gone=false∧U3 m.lays told e x∧Qn s.tab i g=some (k,e)∧V5 m o=some (n,x)
theorem f0 {s:CS} {m:MS} {told:List (Nat×Nat)} (R:Rv s m told) {k gg n:Nat} (ht:told[n]? = some (k,gg)):Vd s m told k gg n:=by
 have hnl:n < m.objs.length:=by rw[← R.len];exact(List.getElem?_eq_some_iff.1 ht).1
 have hx:=getElem?_eq_getElem hnl;generalize m.objs[n]=x at hx;cases hg:x.gone with
 | true=>
  left;constructor
  ·cases hv:Qn s.tab k gg with
   | none=>rfl
   | some q=>
    obtain⟨k',e⟩:=q;obtain⟨n',h1,h2,h3⟩:=Y9.1 (XJ.1 hv).1;obtain rfl:k=k':=by omega
    obtain rfl:gg=n':=by omega
    exact absurd h3 (R.gone n x k gg hx ht hg e)
  ·rw[Cq,hx];simp[hg]
 | false=>
  obtain⟨e,he,hl⟩:=R.obj n x k gg hx ht hg;have hlk:QS s.tab k gg=some (k,e):=Y9.2 ⟨gg,rfl,rfl,he⟩;cases hh:x.held with
  | true=>
   right;refine⟨k,gg,n,e,x,rfl,rfl,rfl,ht,he,hx,hg,hl,XJ.2 ⟨hlk,by rw[hl.held,hh]⟩,?_⟩;rw[Cq,hx];simp[hg,hh]
  | false=>
   left;constructor
   ·cases hv:Qn s.tab k gg with
    | none=>rfl
    | some q=>
     obtain⟨k',e'⟩:=q;obtain⟨h1,h2⟩:=XJ.1 hv;rw[hlk] at h1;injection h1 with h1
     injection h1 with h1 h3
     subst h3;rw[hl.held,hh] at h2;cases h2
   ·rw[Cq,hx];simp[hh]
theorem K9 {s:CS} {m:MS} {told:List (Nat×Nat)} (R:Rel s m told) {i g o:Int} (P:U4 told i g o):Vd s m told i g o:=by
 rcases P with ⟨k,gg,n,rfl,rfl,rfl,ht⟩|⟨rfl,hno⟩
 ·exact f0 R.w ht
 ·left;refine⟨?_,rfl⟩;cases hv:Qn s.tab i g with
  | none=>rfl
  | some q=>
   obtain⟨k,e⟩:=q;obtain⟨n',h1,h2,h3⟩:=Y9.1 (XJ.1 hv).1;obtain⟨o,ho⟩:=R.used k n' e h3;exact absurd ho (hno k n' o h1 h2)
theorem Kr {s:CS} {m:MS} {told:List (Nat×Nat)} (R:Rv s m told) {e:Q8} {x:QI} (h:U3 m.lays told e x):QJ s e=Vs m x:=by
 unfold QJ Vs;rw[R.lays,h.lay]
theorem f8 {s:CS} {m:MS} {told:List (Nat×Nat)} (R:Rv s m told) {i g o:Int} (V:Vd s m told i g o) (place:Int) :
  (VD m o place false≠0∧UX s i g place=(0,VD m o place false))∨(VD m o place false=0∧∃ (n j:Nat) (x:QI),o=n∧place=j∧m.objs[n]? = some x∧j < x.w.length∧UX s i g place=(x.w.getD j 0,0)):=by
 rcases V with ⟨h1,h2⟩|⟨k,gg,n,e,x,rfl,rfl,rfl,ht,hk,hx,hg,hl,h1,h2⟩
 ·left;rw[XT h2,NR h1];exact⟨by omega,rfl⟩
 ·rw[Uh h2,I6 h1,Kr R hl,hl.len];by_cases h0:QM (Vs m x) x.w.length place false=0
  ·right;obtain⟨j,rfl,hj,hr⟩:=Zh h0;refine⟨h0,n,j,x,rfl,rfl,hx,hj,?_⟩;rw[if_pos h0,Int.toNat_natCast,hl.word j hj hr]
  ·left;exact⟨h0,by rw[if_neg h0]⟩
theorem f9 {s:CS} {m:MS} {told:List (Nat×Nat)} (R:Rel s m told) {i g o:Int} (P:U4 told i g o) (place:Int) :
  (VD m o place false≠0∧UX s i g place=(0,VD m o place false))∨(VD m o place false=0∧∃ (n j:Nat) (x:QI),o=n∧place=j∧m.objs[n]? = some x∧j < x.w.length∧UX s i g place=(x.w.getD j 0,0)):=f8 R.w (K9 R P) place
theorem Rw {α:Type} {l:List α} {i j:Nat} {a d:α} (h:i < l.length):(l.set i a).getD j d=if i=j then a else l.getD j d:=by
 rw[getD_eq_getElem?_getD,getD_eq_getElem?_getD,getElem?_set];split
 ·rename_i hij;subst hij;simp[h]
 ·rfl
def Ks (m:MS) (o place:Int) (X:Nat):MS:=
 match V5 m o with
 | none=>m
 | some (k,x)=>if QM (Vs m x) x.w.length place false=0 then Yq m k { x with w:=x.w.set place.toNat X } else m
theorem OJ {m:MS} {o place:Int} {X:Nat} (h:V5 m o=none):Ks m o place X=m:=by unfold Ks;rw[h]
theorem Ij {m:MS} {o place:Int} {X k:Nat} {x:QI} (h:V5 m o=some (k,x)):Ks m o place X=if QM (Vs m x) x.w.length place false=0 then Yq m k { x with w:=x.w.set place.toNat X } else m:=by unfold Ks;rw[h]
theorem fQ {s:CS} {m:MS} {told:List (Nat×Nat)} (R:Rel s m told) {i g o:Int} (P:U4 told i g o) (place:Int) (X:Nat) :
  (Ua s i g place X).2=VD m o place false∧Rel (Ua s i g place X).1 (Ks m o place X) told:=by
 rcases K9 R P with ⟨h1,h2⟩|⟨k,gg,n,e,x,rfl,rfl,rfl,ht,hk,hx,hg,hl,h1,h2⟩
 ·rw[XT h2,CM h1,OJ h2];exact⟨rfl,R⟩
 ·rw[Uh h2,CN h1,Ij h2,Kr R.w hl,hl.len];by_cases h0:QM (Vs m x) x.w.length place false=0
  ·obtain⟨j,rfl,hj,hr⟩:=Zh h0;rw[if_pos h0,if_pos h0,h0,Int.toNat_natCast,Int.toNat_natCast];refine⟨rfl,B4 R ht hk hx hg (by exact hg) ?_ s.rem⟩;refine⟨hl.region,hl.lay,hl.count,hl.held,hl.pinned,by simp[hl.len],?_,?_,?_⟩
   ·intro p hp hr';have hp':p < x.w.length:=by simpa using hp
    show ZE ((e.ws.set j X).getD p 0)=_;rw[Rw (by rw[hl.len];exact hj)];rw[if_neg (by rintro rfl;exact absurd (hr'.symm.trans hr) (by decide))];exact hl.ref p hp' hr'
   ·intro p hp hr';have hp':p < x.w.length:=by simpa using hp
    show (e.ws.set j X).getD p 0=(x.w.set j X).getD p 0;rw[Rw (by rw[hl.len];exact hj),Rw hj];split
    ·rfl
    ·exact hl.word p hp' hr'
   ·intro p hp hn;have hp':p < x.w.length:=by simpa using hp
    exact hl.kind p hp' hn
  ·rw[if_neg h0,if_neg h0];exact⟨rfl,R⟩
theorem OM {ls:List QL} {told:List (Nat×Nat)} {e:Q8} {x:QI} (h:U3 ls told e x) (b:Bool):U3 ls told { e with held:=b } { x with held:=b }:=⟨h.region,h.lay,h.count,rfl,h.pinned,h.len,h.ref,h.word,h.kind⟩
theorem fV {ls:List QL} {told:List (Nat×Nat)} {e:Q8} {x:QI} (h:U3 ls told e x) (b:Bool):U3 ls told { e with pinned:=b } { x with pinned:=b }:=⟨h.region,h.lay,h.count,h.held,rfl,h.len,h.ref,h.word,h.kind⟩
theorem fY {s:CS} {m:MS} {told:List (Nat×Nat)} (R:Rel s m told) {i g o:Int} (P:U4 told i g o) :
  (Ub s i g).2=(Gj m o).2∧Rel (Ub s i g).1 (Gj m o).1 told:=by
 rcases K9 R P with ⟨h1,h2⟩|⟨k,gg,n,e,x,rfl,rfl,rfl,ht,hk,hx,hg,hl,h1,h2⟩
 ·have:Gj m o=(m,8):=by unfold Gj;rw[h2]
  rw[this,CP h1];exact⟨rfl,R⟩
 ·have:Gj m n=(Yq m n { x with held:=false },0):=by unfold Gj;rw[h2]
  rw[this,CT h1,Int.toNat_natCast];exact⟨rfl,B4 R ht hk hx hg (by exact hg) (OM hl false) s.rem⟩
theorem fZ {s:CS} {m:MS} {told:List (Nat×Nat)} (R:Rel s m told) {i g o:Int} (P:U4 told i g o) (on:Bool) :
  (Uc s i g on).2=(Gk m o on).2∧Rel (Uc s i g on).1 (Gk m o on).1 told:=by
 rcases K9 R P with ⟨h1,h2⟩|⟨k,gg,n,e,x,rfl,rfl,rfl,ht,hk,hx,hg,hl,h1,h2⟩
 ·have:Gk m o on=(m,8):=by unfold Gk;rw[h2]
  rw[this,Ca h1];exact⟨rfl,R⟩
 ·have:Gk m n on=if x.pinned=on then (m,7) else (Yq m n { x with pinned:=on },0):=by unfold Gk;rw[h2]
  rw[this,Cb h1,Int.toNat_natCast,hl.pinned];by_cases hb:x.pinned=on
  ·rw[if_pos hb,if_pos hb];exact⟨rfl,R⟩
  ·rw[if_neg hb,if_neg hb];exact⟨rfl,B4 R ht hk hx hg (by exact hg) (fV hl on) s.rem⟩
theorem fG {s:CS} {m:MS} {told:List (Nat×Nat)} (R:Rv s m told) {i g o:Int} (V:Vd s m told i g o) (place:Int) :
  (VD m o place true≠0∧Y5 s i g place=(.none,VD m o place true))∨(VD m o place true=0∧∃ (n j:Nat) (x:QI),o=n∧place=j∧m.objs[n]? = some x∧V5 m o=some (n,x)∧j < x.w.length∧VV (Uj m.lays x.lay) j=true∧x.kind.getD j 0≤2∧Y5 s i g place=(ZZ told (x.kind.getD j 0) (x.to.getD j 0),0)):=by
 rcases V with ⟨h1,h2⟩|⟨k,gg,n,e,x,rfl,rfl,rfl,ht,hk,hx,hg,hl,h1,h2⟩
 ·left;rw[XT h2,I9 h1];exact⟨by omega,rfl⟩
 ·rw[Uh h2,CO h1,Kr R hl,hl.len];by_cases h0:QM (Vs m x) x.w.length place true=0
  ·right;obtain⟨j,rfl,hj,hr⟩:=Zh h0;refine⟨h0,n,j,x,rfl,rfl,hx,h2,hj,hr,?_,?_⟩
   ·by_cases hz:x.kind.getD j 0=0
    ·omega
    ·exact(hl.kind j hj hz).2
   ·rw[if_pos h0,Int.toNat_natCast,hl.ref j hj hr]
  ·left;exact⟨h0,by rw[if_neg h0]⟩
theorem Ik {s:CS} {m:MS} {told:List (Nat×Nat)} (R:Rel s m told) {i g o:Int} (P:U4 told i g o) (place:Int) :
  (VD m o place true≠0∧Y5 s i g place=(.none,VD m o place true))∨(VD m o place true=0∧∃ (n j:Nat) (x:QI),o=n∧place=j∧m.objs[n]? = some x∧V5 m o=some (n,x)∧j < x.w.length∧VV (Uj m.lays x.lay) j=true∧x.kind.getD j 0≤2∧Y5 s i g place=(ZZ told (x.kind.getD j 0) (x.to.getD j 0),0)):=fG R.w (K9 R P) place
theorem ON {ls:List QL} {told:List (Nat×Nat)} {e:Q8} {x:QI} {n:Nat} (h:U3 ls told e x) (hm:U2 ls n x) {j:Nat} (hj:j < x.w.length) (hr:VV (Uj ls x.lay) j=true) (kd t:Nat) (hkd:kd≤2) (W:Nat) (hW:ZE W=ZZ told kd t):U3 ls told { e with ws:=e.ws.set j W } { x with kind:=x.kind.set j kd,to:=x.to.set j t }:=by
 refine⟨h.region,h.lay,h.count,h.held,h.pinned,by simp[h.len],?_,?_,?_⟩
 ·intro p hp hr';show ZE ((e.ws.set j W).getD p 0)=ZZ told ((x.kind.set j kd).getD p 0) ((x.to.set j t).getD p 0);rw[Rw (by rw[h.len];exact hj),Rw (by rw[hm.kind];exact hj),Rw (by rw[hm.to];exact hj)];split
  ·exact hW
  ·exact h.ref p hp hr'
 ·intro p hp hr';show (e.ws.set j W).getD p 0=x.w.getD p 0;rw[Rw (by rw[h.len];exact hj),if_neg (by rintro rfl;exact absurd (hr.symm.trans hr') (by decide))];exact h.word p hp hr'
 ·intro p hp (hn:(x.kind.set j kd).getD p 0≠0);show _∧(x.kind.set j kd).getD p 0≤2;rw[Rw (by rw[hm.kind];exact hj)] at hn ⊢;by_cases hjp:j=p
  ·subst hjp;rw[if_pos rfl];exact⟨hr,hkd⟩
  ·rw[if_neg hjp] at hn ⊢;exact h.kind p hp hn
theorem fU {s:CS} {m:MS} {told:List (Nat×Nat)} (R:Rel s m told) (hm:V9 m) {i g o:Int} (P:U4 told i g o) (place:Int) :
  (Gc s i g place .none).2=(Ui m o place).2∧Rel (Gc s i g place .none).1 (Ui m o place).1 told:=by
 rcases K9 R P with ⟨h1,h2⟩|⟨k,gg,n,e,x,rfl,rfl,rfl,ht,hk,hx,hg,hl,h1,h2⟩
 ·rw[OF h2,Cd h1];exact⟨rfl,R⟩
 ·rw[Ig h2,We h1,Kr R.w hl,hl.len];by_cases h0:QM (Vs m x) x.w.length place true=0
  ·obtain⟨j,rfl,hj,hr⟩:=Zh h0;rw[if_pos h0,if_pos h0,Int.toNat_natCast,Int.toNat_natCast];exact⟨rfl,B4 R ht hk hx hg (by exact hg) (ON hl (hm.objs x (mem_of_getElem? hx)) hj hr 0 0 (by omega) _ rfl) _⟩
  ·rw[if_neg h0,if_neg h0];exact⟨rfl,R⟩
theorem OO {s:CS} {m:MS} {told:List (Nat×Nat)} (R:Rel s m told) (hw:WF s) (hm:V9 m) {i g o u v q:Int} (P:U4 told i g o) (Q:U4 told u v q) (place:Int) :
  (Yn s i g place u v).2=(Yg m o place q).2∧Rel (Yn s i g place u v).1 (Yg m o place q).1 told:=by
 rcases K9 R P with ⟨h1,h2⟩|⟨k,gg,n,e,x,rfl,rfl,rfl,ht,hk,hx,hg,hl,h1,h2⟩
 ·have h3:Yg m o place q=(m,8):=by unfold Yg;rw[h2]
  have h4:Yn s i g place u v=(s,8):=by unfold Yn;rw[I9 h1];rw[if_pos (by decide)]
  rw[h3,h4];exact⟨rfl,R⟩
 ·by_cases h0:QM (Vs m x) x.w.length place true=0
  ·have hz:(Y5 s k gg place).2=0:=by rw[CO h1,Kr R.w hl,hl.len,if_pos h0]
   rcases K9 R Q with ⟨h3,h4⟩|⟨k',gg',n',e',x',rfl,rfl,rfl,ht',hk',hx',hg',hl',h3,h4⟩
   ·have h5:Yg m n place q=(m,8):=by unfold Yg;rw[h2];show (if QM _ _ _ _=0 then _ else _)=_;rw[if_pos h0,h4]
    have h6:Yn s k gg place u v=(s,8):=by unfold Yn;rw[hz,if_neg (by decide),h3];rfl
    rw[h5,h6];exact⟨rfl,R⟩
   ·have h5:Yg m n place n'=(Yq m n { x with kind:=x.kind.set place.toNat 2,to:=x.to.set place.toNat n' },0):=by unfold Yg;rw[h2];show (if QM _ _ _ _=0 then _ else _)=_;rw[if_pos h0,h4]
    have h6:Yn s k gg place k' gg'=Gc s k gg place (.obj k' gg'):=by unfold Yn;rw[hz,if_neg (by decide),h3];rfl
    rw[h5,h6,We h1,Kr R.w hl,hl.len,if_pos h0];obtain⟨j,rfl,hj,hr⟩:=Zh h0;rw[Int.toNat_natCast,Int.toNat_natCast];have hok:=IG hw hk';exact⟨rfl,B4 R ht hk hx hg (by exact hg) (ON hl (hm.objs x (mem_of_getElem? hx)) hj hr 2 n' (by omega) _ (by rw[NG hok.1];unfold ZZ;rw[if_pos rfl,ht'];rfl)) _⟩
  ·have hz:Y5 s k gg place=(.none,QM (Vs m x) x.w.length place true):=by rw[CO h1,Kr R.w hl,hl.len,if_neg h0]
   have h5:Yg m n place q=(m,QM (Vs m x) x.w.length place true):=by unfold Yg;rw[h2];show (if QM _ _ _ _=0 then _ else _)=_;rw[if_neg h0]
   have h6:Yn s k gg place u v=(s,QM (Vs m x) x.w.length place true):=by unfold Yn;rw[hz,if_pos h0]
   rw[h5,h6];exact⟨rfl,R⟩
theorem fX {s:CS} {m:MS} {told:List (Nat×Nat)} (R:Rel s m told) (hm:V9 m) {i g o:Int} (P:U4 told i g o) (place:Int) :
  (Y5 s i g place).2=(YF m o place).2.2.2∧(Y5 s i g place).1=ZZ told (YF m o place).2.1 (YF m o place).2.2.1∧(YF m o place).2.1≤2∧((YF m o place).2.1=2→(YF m o place).2.2.1 < told.length)∧Rel (ZM s i g place) (YF m o place).1 told:=by
 rcases Ik R P place with ⟨h0,h1⟩|⟨h0,n,j,x,rfl,rfl,hx,hv,hj,hr,hk2,h1⟩
 ·have h3:YF m o place=(m,0,0,VD m o place true):=by
   cases hv:V5 m o with
   | none=>unfold YF;rw[hv,XT hv]
   | some kx=>
    obtain⟨k,x⟩:=kx;rw[Uh hv] at h0 ⊢;unfold YF;rw[hv];show (if QM _ _ _ _=0 then _ else _)=_;rw[if_neg h0]
  have h4:ZM s i g place=s:=by unfold ZM;rw[h1]
  rw[h3,h4,h1];exact⟨rfl,rfl,by show 0≤2;omega,fun h=>(by cases h),R⟩
 ·rw[Uh hv] at h0;have h3:YF m n j=(if x.kind.getD j 0=2 then K8 m (x.to.getD j 0) else m,x.kind.getD j 0,x.to.getD j 0,0):=by unfold YF;rw[hv];show (if QM _ _ _ _=0 then _ else _)=_;rw[if_pos h0,Int.toNat_natCast]
  have hmo:=hm.objs x (mem_of_getElem? hx);rw[h3,h1];by_cases hkd:x.kind.getD j 0=2
  ·have hjk:j < x.kind.length:=by rw[hmo.kind];exact hj
   have hjk2:=getElem?_eq_getElem hjk;have hgo:=hmo.goes j (by rw[hjk2];rw[getD_eq_getElem?_getD,hjk2] at hkd;exact congrArg some hkd);have hgt:x.to.getD j 0 < told.length:=by rw[R.len];exact hgo
   generalize htd:x.to.getD j 0=td at *;rw[hkd,if_pos rfl];have hy:=getElem?_eq_getElem hgo;generalize m.objs[td]=y at hy;have htt:=getElem?_eq_getElem hgt;generalize told[td]=ab at htt;obtain⟨a,b⟩:=ab;have hln:ZZ told 2 td = .obj a b:=by unfold ZZ;rw[if_pos rfl,htt];rfl
   have h4:ZM s i g j=Kg s a b:=by unfold ZM;rw[h1,hkd,hln];rfl
   have h5:K8 m td=Yq m td { y with held:=true }:=by unfold K8;rw[hy]
   rw[h4,h5];refine⟨rfl,rfl,by show 2≤2;omega,fun _=>hgt,?_⟩;by_cases hyg:y.gone=true
   ·have h6:QS s.tab a b=none:=by
     cases hlk:QS s.tab a b with
     | none=>rfl
     | some q=>
      obtain⟨k',e'⟩:=q;obtain⟨n',h1,h2,h3⟩:=Y9.1 hlk;obtain rfl:a=k':=by omega
      obtain rfl:b=n':=by omega
      exact absurd h3 (R.gone td y a b hy htt hyg e')
    rw[Ce h6];exact ez R hy hyg (by exact hyg)
   ·have hyg:y.gone=false:=by simpa using hyg
    obtain⟨e',he',hl'⟩:=R.obj td y a b hy htt hyg;have h6:QS s.tab a b=some (a,e'):=Y9.2 ⟨b,rfl,rfl,he'⟩;rw[Cf h6];exact B4 R htt he' hy hyg (by exact hyg) (OM hl' true) s.rem
  ·have h4:ZM s i g j=s:=by
    unfold ZM;rw[h1]
    have:∀ a b,ZZ told (x.kind.getD j 0) (x.to.getD j 0) ≠ .obj a b:=by
     intro a b;unfold ZZ;rw[if_neg hkd];split <;> intro h <;> cases h
    generalize ZZ told (x.kind.getD j 0) (x.to.getD j 0)=L at this;cases L with
    | none=>rfl
    | grave=>rfl
    | obj a b=>exact absurd rfl (this a b)
   rw[h4,if_neg hkd];exact⟨rfl,rfl,hk2,fun h=>absurd h hkd,R⟩
def OP:Option (Nat×QI)→Value
 | some (_,x) => .tuple #[.agg #[.int .i64 x.region,.int .i64 x.lay,.int .i64 x.count,.int .i64 x.w.length,.bool x.pinned],.int .i64 0]
 | none => .tuple #[.agg #[.int .i64 0,.int .i64 0,.int .i64 0,.int .i64 0,.bool false],.int .i64 8]
theorem fK {s:CS} {m:MS} {told:List (Nat×Nat)} (R:Rv s m told) {i g o:Int} (V:Vd s m told i g o):IV (Qn s.tab i g)=OP (V5 m o):=by
 rcases V with ⟨h1,h2⟩|⟨k,gg,n,e,x,rfl,rfl,rfl,ht,hk,hx,hg,hl,h1,h2⟩
 ·rw[h1,h2];rfl
 ·rw[h1,h2];show Value.tuple #[.agg (NW e).toArray,.int .i64 0]=_;show Value.tuple #[.agg #[.int .i64 e.region,.int .i64 e.lay,.int .i64 e.count,.int .i64 e.ws.length,.bool e.pinned],.int .i64 0]=Value.tuple #[.agg #[.int .i64 x.region,.int .i64 x.lay,.int .i64 x.count,.int .i64 x.w.length,.bool x.pinned],.int .i64 0];rw[hl.region,hl.lay,hl.count,hl.len,hl.pinned]
theorem Wj {s:CS} {m:MS} {told:List (Nat×Nat)} (R:Rel s m told) (id:Int):(QY s.par id).isSome=Y1 m.P id:=by
 unfold Y1;cases hf:QY s.par id with
 | some q=>
  obtain⟨k,rfl,h1,h2,h3⟩:=(R.tree id q).1 (Un hf);have h4:=(List.getElem?_eq_some_iff.1 h2).1
  symm
  show decide _=true;rw[decide_eq_true];refine⟨by omega,by omega,?_⟩;rw[Int.toNat_natCast,getD_eq_getElem?_getD,h2];exact h3
 | none=>
  symm
  show decide _=false;rw[decide_eq_false];rintro⟨h1,h2,h3⟩;obtain⟨k,rfl⟩:∃ k:Nat,id=k:=⟨id.toNat,by omega⟩;have hk:k < m.P.length:=by omega
  have h4:=getElem?_eq_getElem hk;rw[Int.toNat_natCast,getD_eq_getElem?_getD,h4] at h3;have h5:=(R.tree k m.P[k]).2 ⟨k,rfl,by omega,h4,h3⟩;rw[(Z1 R.nd).2 h5] at hf;cases hf
theorem OS {P:List Int} {k:Nat}:k∈ZS P↔∃ q,P[k]? = some q∧1≤k∧0≤q:=by
 unfold ZS;rw[OA];constructor
 ·rintro⟨h1,h2,h3⟩;have h4:=getElem?_eq_getElem h1;rw[getD_eq_getElem?_getD,h4] at h3;exact⟨_,h4,h2,by simpa using h3⟩
 ·rintro⟨q,h1,h2,h3⟩;refine⟨(List.getElem?_eq_some_iff.1 h1).1,h2,?_⟩;rw[getD_eq_getElem?_getD,h1];simpa using h3
theorem fR (P:List Int):(ZS P).Nodup:=(eI P _ _).imp (fun h=>by omega)
theorem FH {s:CS} {m:MS} {told:List (Nat×Nat)} (R:Rv s m told):s.par.length=(ZS m.P).length:=by
 have h1:((ZS m.P).map fun k:Nat=>(k:Int)).Nodup:=by
  refine List.Pairwise.map _ ?_ (fR m.P);intro a b hab;omega
 have h2:=Ga R.nd (l₂:=(ZS m.P).map fun k:Nat=>(k:Int)) (by
  intro z hz;obtain⟨⟨r,q⟩,hq,rfl⟩:=mem_map.1 hz;obtain⟨k,rfl,a,b,c⟩:=(R.tree r q).1 hq;exact mem_map.2 ⟨k,OS.2 ⟨q,b,a,c⟩,rfl⟩)
 have h3:=Ga h1 (l₂:=s.par.map (·.1)) (by
  intro z hz;obtain⟨k,hk,rfl⟩:=mem_map.1 hz;obtain⟨q,a,b,c⟩:=OS.1 hk;exact mem_map.2 ⟨((k:Int),q),(R.tree k q).2 ⟨k,rfl,b,a,c⟩,rfl⟩)
 rw[length_map,length_map] at h2 h3;omega
theorem fW {s:CS} {m:MS} {told:List (Nat×Nat)} (R:Rel s m told) (hw:WF s) (parent:Int):Z7 s.par parent=ZV m.P parent:=by
 unfold Z7 ZV;rw[Wj R,FH R.w];have:=hw.par.1;rw[FH R.w] at this;by_cases h:parent≠0∧Y1 m.P parent=false
 ·rw[if_pos h,if_pos h]
 ·rw[if_neg h,if_neg h];by_cases h2:(ZS m.P).length=64
  ·rw[if_pos h2,if_pos (by omega)]
  ·rw[if_neg h2,if_neg (by omega)]
theorem Il {s:CS} {m:MS} {told:List (Nat×Nat)} (R:Rel s m told) {parent:Int} (h:ZV m.P parent=0) (b b2:Nat):Rel (Wf s parent b b2) { m with P:=m.P++[parent] } told:=by
 have hp:0≤parent:=by
  unfold ZV at h;split at h
  ·cases h
  ·rename_i hn;by_cases h0:parent=0
   ·omega
   ·have:Y1 m.P parent=true:=by
     cases hl:Y1 m.P parent with
     | true=>rfl
     | false=>exact absurd ⟨h0,hl⟩ hn
    unfold Y1 at this;have:=of_decide_eq_true this;omega
 have hl:=R.last;refine⟨R.len,R.lays,?_,?_,?_,R.obj,R.gone,R.used,R.gens,R.nodup⟩
 ·intro r q;show (r,q)∈s.par++[(((s.last+1:Nat):Int),parent)]↔∃ k:Nat,r=k∧1≤k∧(m.P++[parent])[k]? = some q∧0≤q;rw[mem_append,R.tree r q];constructor
  ·rintro(⟨k,rfl,a,b,c⟩|h)
   ·exact⟨k,rfl,a,by rw[getElem?_append_left (List.getElem?_eq_some_iff.1 b).1];exact b,c⟩
   ·simp only[mem_singleton] at h;injection h with h1 h2
    subst h1 h2;exact⟨s.last+1,rfl,by omega,by rw[hl,getElem?_append_right (Nat.le_refl _),Nat.sub_self];rfl,hp⟩
  ·rintro⟨k,rfl,a,b,c⟩;by_cases hk:k < m.P.length
   ·rw[getElem?_append_left hk] at b;exact .inl ⟨k,rfl,a,b,c⟩
   ·right;have hk2:=(List.getElem?_eq_some_iff.1 b).1;simp at hk2;obtain rfl:k=m.P.length:=by omega
    rw[getElem?_append_right (Nat.le_refl _),Nat.sub_self] at b;injection b with b
    simp only[mem_singleton];rw[hl,← b]
 ·show ((s.par++[(((s.last+1:Nat):Int),parent)]).map (·.1)).Nodup;rw[map_append];refine nodup_append.2 ⟨R.nd,by simp,?_⟩;intro a ha b hb;simp only[map_cons,map_nil,mem_singleton] at hb;subst hb;obtain⟨⟨r,q⟩,hq,rfl⟩:=mem_map.1 ha;obtain⟨k,h1,_,h2,_⟩:=(R.tree r q).1 hq;have:=(List.getElem?_eq_some_iff.1 h2).1;intro h3;have h4:r=((s.last+1:Nat):Int):=h3;omega
 ·show s.last+1+1=(m.P++[parent]).length;simp;omega
theorem Im {ls:List QL} {l:QL} {i:Nat} (h:i - 1 < ls.length):Uj (ls++[l]) i=Uj ls i:=by
 unfold Uj;rw[getElem?_append_left h]
theorem fA {ls:List QL} {told:List (Nat×Nat)} {e:Q8} {x:QI} (h:U3 ls told e x) {l:QL} (hi:x.lay - 1 < ls.length):U3 (ls++[l]) told e x:=by
 refine⟨h.region,h.lay,h.count,h.held,h.pinned,h.len,?_,?_,?_⟩
 ·rw[Im hi];exact h.ref
 ·rw[Im hi];exact h.word
 ·rw[Im hi];exact h.kind
theorem OT {s:CS} {m:MS} {told:List (Nat×Nat)} (R:Rel s m told) (hm:V9 m) (ws:List Nat):(Ud s ws).2=(ZT m ws).2∧Rel (Ud s ws).1 (ZT m ws).1 told:=by
 cases hd:ZC ws with
 | none=>
  have h1:ZT m ws=(m,0,4):=by unfold ZT;rw[hd]
  rw[h1,Cg hd];exact⟨rfl,R⟩
 | some l=>
  have h1:ZT m ws=if 64≤m.lays.length then (m,0,5) else ({ m with lays:=m.lays++[l] },m.lays.length+1,0):=by unfold ZT;rw[hd]
  rw[h1,Av hd,R.lays];have:=hm.lays.1;by_cases h64:m.lays.length=64
  ·rw[if_pos h64,if_pos (by omega)];exact⟨rfl,R⟩
  ·rw[if_neg h64,if_neg (by omega)];refine⟨rfl,R.len,rfl,R.tree,R.nd,R.last,?_,R.gone,R.used,R.gens,R.nodup⟩;intro o x k g hx ht hg;obtain⟨e,h1,h2⟩:=R.obj o x k g hx ht hg;have hmo:=hm.objs x (mem_of_getElem? hx);obtain⟨l',h3,_⟩:=hmo.lay;exact⟨e,h1,fA h2 (List.getElem?_eq_some_iff.1 h3).1⟩
theorem Io {s:CS} {m:MS} {told:List (Nat×Nat)} (R:Rel s m told) (region id count:Int):ZN s region id count=(Vq m region id count).2∧((Vq m region id count).2=0→YE s id count=(Vq m region id count).1):=by
 unfold ZN YE Vq Kh;rw[Wj R,R.lays];by_cases h1:Y1 m.P region=false
 ·rw[if_pos h1,if_pos h1];exact⟨rfl,fun h=>by cases h⟩
 ·rw[if_neg h1,if_neg h1];by_cases h2:id < 1∨(m.lays.length:Int) < id
  ·rw[if_pos h2,if_pos h2];exact⟨rfl,fun h=>by cases h⟩
  ·rw[if_neg h2,if_neg h2];exact⟨rfl,fun _=>rfl⟩
theorem fB {ls:List QL} {told:List (Nat×Nat)} {e:Q8} {x:QI} (h:U3 ls told e x) {t:Nat×Nat} (hx:∀ p,x.kind[p]? = some 2→x.to.getD p 0 < told.length):U3 ls (told++[t]) e x:=by
 refine⟨h.region,h.lay,h.count,h.held,h.pinned,h.len,?_,h.word,h.kind⟩;intro p hp hr;rw[h.ref p hp hr];unfold ZZ;by_cases h2:x.kind.getD p 0=2
 ·rw[if_pos h2,if_pos h2]
  have h3:x.kind[p]? = some 2:=by
   rw[getD_eq_getElem?_getD] at h2;cases hk:x.kind[p]? with
   | none=>rw[hk] at h2;cases h2
   | some q=>rw[hk] at h2;exact congrArg some h2
  rw[getElem?_append_left (hx p h3)]
 ·rw[if_neg h2,if_neg h2]
theorem Ip (n p:Nat):(List.replicate n 0).getD p 0=0:=by
 rw[getD_eq_getElem?_getD,getElem?_replicate];split <;> rfl
theorem Oa {s s':CS} {m:MS} {told:List (Nat×Nat)} (R:Rel s m told) (hm:V9 m) {region id count:Int} (hmay:(Vq m region id count).2=0) {k g0 addr:Nat} (hk:s.tab[k]? = some ⟨g0,none⟩)
  (e1:s'.lays=s.lays) (e2:s'.last=s.last) (e3:s'.par=s.par) (e4:s'.tab=s.tab.set k ⟨g0+1,some ⟨addr,region,true,false,id.toNat,count.toNat,List.replicate (YE s id count) 0⟩⟩) :
  (∀ n:Nat,told[n]? ≠ some (k,g0+1))∧Rel s' (Kq m region id count) (told++[(k,g0+1)]):=by
 have hkl:=(List.getElem?_eq_some_iff.1 hk).1;have hn:YE s id count=(Vq m region id count).1:=(Io R region id count).2 hmay;have hr:Kq m region id count={ m with objs:=m.objs++[GZ region id count (Vq m region id count).1] }:=rfl
 have hreg:region=(region.toNat:Int):=by
  obtain⟨r,la,c,l,rfl,_⟩:=FE hmay;rfl
 have hnew:∀ n:Nat,told[n]? ≠ some (k,g0+1):=by
  intro n hn;obtain⟨t,h1,h2⟩:=R.gens n k (g0+1) hn;rw[hk] at h1;injection h1 with h1
  subst h1;have h2:g0+1≤g0:=h2;omega
 refine⟨hnew,?_⟩;rw[hr]
 have hne:∀ (o k0 g:Nat) (e:Q8),s.tab[k0]? = some ⟨g,some e⟩→k≠k0:=by
  rintro o k0 g e h rfl;rw[hk] at h;injection h with h
  injection h with _ h
  cases h
 refine⟨by show (told++[_]).length=(m.objs++[_]).length;rw[length_append,length_append,R.len];rfl,by rw[e1];exact R.lays,by rw[e3];exact R.tree,by rw[e3];exact R.nd,by rw[e2];exact R.last,?_,?_,?_,?_,?_⟩
 ·intro o x k0 g (hx:(m.objs++[GZ region id count (Vq m region id count).1])[o]? = some x) ht hg;by_cases ho:o < m.objs.length
  ·rw[getElem?_append_left ho] at hx;rw[getElem?_append_left (by rw[R.len];exact ho)] at ht;obtain⟨e,h1,h2⟩:=R.obj o x k0 g hx ht hg;refine⟨e,?_,fB h2 (by rw[R.len];exact(hm.objs x (mem_of_getElem? hx)).goes)⟩;rw[e4,getElem?_set_ne (hne o k0 g e h1)];exact h1
  ·have hol:=(List.getElem?_eq_some_iff.1 hx).1;rw[length_append] at hol;obtain rfl:o=m.objs.length:=by simp at hol;omega
   rw[getElem?_append_right (Nat.le_refl _),Nat.sub_self] at hx;rw[← R.len,getElem?_append_right (Nat.le_refl _),Nat.sub_self] at ht;injection hx with hx
   injection ht with ht
   injection ht with h1 h2
   subst hx h1 h2;refine⟨_,by rw[e4,getElem?_set_self hkl],?_⟩;rw[hn];refine⟨hreg,rfl,rfl,rfl,rfl,rfl,?_,?_,?_⟩
   ·intro p hp _;show ZE ((List.replicate _ 0).getD p 0)=ZZ _ ((List.replicate _ 0).getD p 0) ((List.replicate _ 0).getD p 0);rw[Ip];rfl
   ·intro p hp _;rfl
   ·intro p hp (hk:(List.replicate _ 0).getD p 0≠0);exact absurd (Ip _ p) hk
 ·intro o x k0 g (hx:(m.objs++[GZ region id count (Vq m region id count).1])[o]? = some x) ht hg;by_cases ho:o < m.objs.length
  ·rw[getElem?_append_left ho] at hx;rw[getElem?_append_left (by rw[R.len];exact ho)] at ht;intro e h1;rw[e4] at h1
   rcases Qz h1 with ⟨rfl,h2,_⟩|⟨_,h2⟩
   ·injection h2 with h2 _
    subst h2;exact hnew o ht
   ·exact R.gone o x k0 g hx ht hg e h2
  ·have hol:=(List.getElem?_eq_some_iff.1 hx).1;rw[length_append] at hol;obtain rfl:o=m.objs.length:=by simp at hol;omega
   rw[getElem?_append_right (Nat.le_refl _),Nat.sub_self] at hx;injection hx with hx
   subst hx;cases hg
 ·intro k0 g e h1;rw[e4] at h1
  rcases Qz h1 with ⟨rfl,h2,_⟩|⟨_,h2⟩
  ·injection h2 with h2 _
   subst h2;exact⟨told.length,by rw[getElem?_append_right (Nat.le_refl _),Nat.sub_self];rfl⟩
  ·obtain⟨o,ho⟩:=R.used k0 g e h2;exact⟨o,by rw[getElem?_append_left (List.getElem?_eq_some_iff.1 ho).1];exact ho⟩
 ·intro o k0 g ht;rw[e4];by_cases ho:o < told.length
  ·rw[getElem?_append_left ho] at ht;obtain⟨t,h1,h2⟩:=R.gens o k0 g ht;by_cases hkk:k=k0
   ·subst hkk;rw[hk] at h1;injection h1 with h1
    subst h1;exact⟨_,getElem?_set_self hkl,by show g≤g0+1;have h2:g≤g0:=h2;omega⟩
   ·exact⟨t,by rw[getElem?_set_ne hkk];exact h1,h2⟩
  ·have hol:=(List.getElem?_eq_some_iff.1 ht).1;rw[length_append] at hol;obtain rfl:o=told.length:=by simp at hol;omega
   rw[getElem?_append_right (Nat.le_refl _),Nat.sub_self] at ht;injection ht with ht
   injection ht with h1 h2
   subst h1 h2;exact⟨_,getElem?_set_self hkl,Nat.le_refl _⟩
 ·refine nodup_append.2 ⟨R.nodup,by simp,?_⟩;intro a ha b hb;simp only[mem_singleton] at hb;subst hb;rintro rfl;obtain⟨n,h⟩:=mem_iff_getElem?.1 ha;exact hnew n h
def Wk (P:List Int):Prop:=∀ (i:Nat) (q:Int),1≤i→P[i]? = some q→q < i
def Rx (P:List Int) (id:Int):Nat→Int→Bool
 | 0,_=>false
 | n+1,i=>if 0 < i then (if i=id then true else Rx P id n (P.getD i.toNat 0)) else false
def Zw (P:List Int) (id i:Int):Bool:=Rx P id i.toNat i
theorem Cr (P:List Int) (id:Int) (n:Nat) {i:Int} (h:i≤0):Rx P id n i=false:=by
 cases n with
 | zero=>rfl
 | succ n=>unfold Rx;rw[if_neg (by omega)]
theorem Iq {P:List Int} (h:Wk P) (id:Int):∀ (n:Nat) (i:Int),i≤n→i < P.length→Rx P id n i=Zw P id i
 | 0,i,h1,_=>by
  unfold Zw;rw[Cr P id _ (by omega),Cr P id _ (by omega)]
 | n+1,i,h1,h2=>by
  by_cases h0:0 < i
  ·obtain⟨k,rfl⟩:∃ k:Nat,i=(k+1:Nat):=⟨i.toNat - 1,by omega⟩;have hk:k+1 < P.length:=by omega
   have hg:P.getD (k+1) 0 < ((k+1:Nat):Int):=h (k+1) _ (by omega) (by rw[getD_eq_getElem?_getD,getElem?_eq_getElem hk];rfl);unfold Zw;rw[Int.toNat_natCast];unfold Rx;rw[if_pos h0,if_pos h0,Int.toNat_natCast];by_cases h3:((k+1:Nat):Int)=id
   ·rw[if_pos h3,if_pos h3]
   ·rw[if_neg h3,if_neg h3,Iq h id n _ (by omega) (by omega),Iq h id k _ (by omega) (by omega)]
  ·unfold Zw;rw[Cr P id _ (by omega),Cr P id _ (by omega)]
theorem Ob {P:List Int} (h:Wk P) {id i:Int} (h0:0 < i) (hl:i < P.length):Zw P id i=if i=id then true else Zw P id (P.getD i.toNat 0):=by
 obtain⟨k,rfl⟩:∃ k:Nat,i=(k+1:Nat):=⟨i.toNat - 1,by omega⟩;have hk:k+1 < P.length:=by omega
 have hg:P.getD (k+1) 0 < ((k+1:Nat):Int):=h (k+1) _ (by omega) (by rw[getD_eq_getElem?_getD,getElem?_eq_getElem hk];rfl);rw[Int.toNat_natCast];show Rx P id (((k+1:Nat):Int).toNat) _=_;rw[Int.toNat_natCast];show (if (0:Int) < ((k+1:Nat):Int) then (if ((k+1:Nat):Int)=id then true else Rx P id k (P.getD ((k+1:Nat):Int).toNat 0)) else false)=_;rw[if_pos h0,Int.toNat_natCast];by_cases h3:((k+1:Nat):Int)=id
 ·rw[if_pos h3,if_pos h3]
 ·rw[if_neg h3,if_neg h3,Iq h id k _ (by omega) (by omega)]
theorem Oc (P:List Int) (id:Int) {i:Int} (h:i≤0):Zw P id i=false:=Cr P id _ h
def Ry (P:List Int) (id:Int) (k:Nat):List Nat:=(List.range k).filter fun i=>decide (1≤i∧0≤P.getD i 0) && Zw P id i
def Zx (P:List Int) (id:Int):List Nat:=Ry P id P.length
theorem fC (P:List Int) (id:Int) (k:Nat) (hk:1≤k):Ry P id (k+1)=Ry P id k++if 0≤P.getD k 0∧Zw P id k=true then [k] else []:=by
 unfold Ry;rw[range_succ,filter_append];congr 1;by_cases h1:0≤P.getD k 0
 ·by_cases h2:Zw P id k=true
  ·rw[if_pos ⟨h1,h2⟩,filter_cons,if_pos (by rw[h2,decide_eq_true ⟨hk,h1⟩];rfl),filter_nil]
  ·rw[if_neg (fun h=>h2 h.2),filter_cons,if_neg (by simpa using fun _ _=>h2),filter_nil]
 ·rw[if_neg (fun h=>h1 h.1),filter_cons,if_neg (by rw[decide_eq_false (fun h=>h1 h.2)];simp),filter_nil]
theorem Od {P:List Int} {id:Int} {k i:Nat}:i∈Ry P id k↔i < k∧(1≤i∧0≤P.getD i 0)∧Zw P id i=true:=by
 unfold Ry;rw[mem_filter,mem_range,Bool.and_eq_true,decide_eq_true_eq]
theorem Ir (P:List Int) (id:Int) (k:Nat):(Ry P id k).length≤k:=by
 have:=length_filter_le (fun i=>decide (1≤i∧0≤P.getD i 0) && Zw P id (i:Nat)) (List.range k);rw[length_range] at this;exact this
def Vu (P:List Int) (L:List Nat):List Int:=P.mapIdx fun k q=>if k∈L then -1 else q
theorem fD (P:List Int):Vu P []=P:=by
 unfold Vu;apply ext_getElem?;intro i;rw[getElem?_mapIdx];cases P[i]? <;> simp
theorem Is (P:List Int) (L:List Nat):(Vu P L).length=P.length:=length_mapIdx
theorem fE (P:List Int) (L:List Nat) (k:Nat):(Vu P L).set k (-1)=Vu P (L++[k]):=by
 apply ext_getElem?;intro i;rw[getElem?_set];unfold Vu;rw[getElem?_mapIdx,getElem?_mapIdx,length_mapIdx];by_cases h:k=i
 ·subst h;rw[if_pos rfl];by_cases hl:k < P.length
  ·rw[if_pos hl,getElem?_eq_getElem hl];simp
  ·rw[if_neg hl,getElem?_eq_none (by omega)];rfl
 ·rw[if_neg h];cases P[i]? with
  | none=>rfl
  | some q=>
   have h2:i∈L++[k]↔i∈L:=by
    rw[mem_append,mem_singleton];exact⟨fun h4=>h4.elim id fun h5=>absurd h5.symm h,.inl⟩
   simp only[Option.map_some,h2]
def ZG (P:List Int) (id q:Nat):List Int:=P.mapIdx fun k x=>if k=id then -1 else if 1≤k∧x=(id:Int) then (q:Int) else x
def UA (P:List Int) (id q n:Nat):List Int:=P.mapIdx fun k x=>if (1≤k∧k < n)∧x=(id:Int) then (q:Int) else x
theorem B5 (P:List Int) (id q n:Nat):(UA P id q n).length=P.length:=length_mapIdx
theorem Wl (P:List Int) (id q n k:Nat):(UA P id q n)[k]? = (P[k]?).map fun x=>if (1≤k∧k < n)∧x=(id:Int) then (q:Int) else x:=getElem?_mapIdx
theorem fF {P:List Int} {id q:Nat}:UA P id q 1=P:=by
 apply ext_getElem?;intro i;rw[Wl];cases hi:P[i]? with
 | none=>rfl
 | some x=>
  simp only[Option.map_some];rw[if_neg];rintro⟨h1,h2⟩;omega
theorem fH {P:List Int} {id q n:Nat} (hn:1≤n) (h:P[n]? = some (id:Int)):(UA P id q n).set n (q:Int)=UA P id q (n+1):=by
 apply ext_getElem?;intro i;rw[getElem?_set,Wl,Wl,B5];have hl:=(List.getElem?_eq_some_iff.1 h).1;by_cases hi:n=i
 ·subst hi;rw[if_pos rfl,if_pos hl,h];simp only[Option.map_some];rw[if_pos ⟨⟨hn,by omega⟩,trivial⟩]
 ·rw[if_neg hi];cases P[i]? with
  | none=>rfl
  | some x=>
   simp only[Option.map_some];have:(1≤i∧i < n+1)↔(1≤i∧i < n):=by omega
   simp only[this]
theorem fI {P:List Int} {id q n:Nat} {x:Int} (h:P[n]? = some x) (hx:x≠(id:Int)):UA P id q n=UA P id q (n+1):=by
 apply ext_getElem?;intro i;rw[Wl,Wl];cases hP:P[i]? with
 | none=>rfl
 | some y=>
  simp only[Option.map_some];by_cases hi:i=n
  ·subst hi;rw[h] at hP;injection hP with hP
   subst hP;rw[if_neg (fun h=>hx h.2),if_neg (fun h=>hx h.2)]
  ·have:i < n+1↔i < n:=by omega
   simp only[this]
theorem fJ (P:List Int) (id q:Nat):(UA P id q P.length).set id (-1)=ZG P id q:=by
 apply ext_getElem?;intro i;unfold ZG;rw[getElem?_set,Wl,B5,getElem?_mapIdx];by_cases hi:id=i
 ·subst hi;rw[if_pos rfl];by_cases hl:id < P.length
  ·rw[if_pos hl,getElem?_eq_getElem hl];simp
  ·rw[if_neg hl,getElem?_eq_none (by omega)];rfl
 ·rw[if_neg hi];cases hP:P[i]? with
  | none=>rfl
  | some y=>
   have hl:=(List.getElem?_eq_some_iff.1 hP).1;simp only[Option.map_some];rw[if_neg (fun h:i=id=>hi h.symm)];by_cases hy:1≤i∧y=(id:Int)
   ·rw[if_pos ⟨⟨hy.1,hl⟩,hy.2⟩,if_pos hy]
   ·rw[if_neg (fun h=>hy ⟨h.1.1,h.2⟩),if_neg hy]
theorem It {l:List Int} {spare:List Value} {i:Nat} {x:Int} (h:i < l.length):(Qe l++spare).set (0+i*1) (.int .i64 x)=Qe (l.set i x)++spare:=by
 rw[Nat.zero_add,Nat.mul_one,set_append_left _ _ (by simpa [Qe] using h)];simp[Qe,map_set]
theorem fL [Q4] (p:Nat) (P:List Int) (hO:Wk P) (i id:Int) (hi:i < P.length) {w:World} {fr:List Q2} (H:Q0 w (Vi p P::fr)) :
  Calls Tryz.prog 246 #[pp p,.int .i64 i,.int .i64 id] w (ret fun v w'=>v = .bool (Zw P id i)∧Q0 w' (Vi p P::fr)):=by
 refine QQ Tryz.func246 rfl (by kernel_rfl) ?_;refine A9 H ?_;refine Ql (fun ms σ w n=>ms=[]∧∃ i':Int,i' < P.length∧Zw P id i'=Zw P id i∧n=i'.toNat∧σ 0=pp p∧σ 1 = .int .i64 i'∧σ 2 = .int .i64 id∧Q0 w (Vi p P::fr)) (m:=i.toNat) ⟨rfl,i,hi,rfl,rfl,rfl,rfl,rfl,H⟩ ?_;clear H;rintro ms σ w n ⟨rfl,i',hi',hb,rfl,g0,g1,g2,H⟩;rw[Q1 g0,Q1 g1,Q1 g2];refine Bk H ?_;refine Qj rfl (fun h=>QD ?_) (fun h=>Qp ?_)
 ·have h:0 < i':=h;rw[Ob hO h hi'] at hb;obtain⟨k,rfl⟩:∃ k:Nat,i'=k:=⟨i'.toNat,by omega⟩;rw[Int.toNat_natCast] at hb;refine G1 H ?_;refine VX H ?_;by_cases he:(k:Int)=id
  ·rw[show ((k:Int) == id)=true by rw[he];exact beq_self_eq_true id];refine YC H ?_;rw[if_pos he] at hb;rw[← hb];exact Q3 (Jy H rfl fun w' H'=>⟨rfl,H'⟩)
  ·rw[show ((k:Int) == id)=false by rw[beq_eq_false_iff_ne];exact he];refine V4 H ?_;rw[if_neg he] at hb;have hkl:k < P.length:=by omega
   have hg:P.getD k 0 < (k:Int):=hO k _ (by omega) (by rw[getD_eq_getElem?_getD,getElem?_eq_getElem hkl];rfl);obtain⟨a,c,H⟩:=Kp H;obtain⟨b,s,rfl,H,hclose⟩:=V3 H.swap (by omega);have hc:=B0 (P:=P) (s:=s) (i:=k) hkl;refine V2 H ?_;refine Jd ?_;refine Q5 rfl (QB H rfl hc rfl ?_);refine J0 H ?_;replace H:=Gh (hclose _ _ H).swap;exact⟨_,⟨rfl,P.getD k 0,by omega,hb,rfl,rfl,rfl,rfl,H⟩,by rw[Int.toNat_natCast];omega⟩
 ·have h:¬ 0 < i':=h;rw[Oc _ _ (by omega)] at hb;rw[← hb];refine VF H ?_;exact Q3 (Jy H rfl fun w' H'=>⟨rfl,H'⟩)
theorem fM [Q4] (p:Nat) (P:List Int) (hO:Wk P) (id:Int) (h1:1≤P.length) (hl:P.length≤1000000) {w:World} {fr:List Q2} (H:Q0 w (Vi p P::fr)) :
  Calls Tryz.prog 223 #[pp p,.int .i64 id] w (ret fun v w'=>Q0 w' (NL v (Zx P id)::Vi p P::fr)):=by
 refine QQ Tryz.func223 rfl (by kernel_rfl) ?_;refine EM H ?_;refine Ql (fun ms σ w n=>ms=[]∧∃ (i:Nat) (g:Value),1≤i∧i≤P.length∧n=P.length - i∧σ 0=pp p∧σ 1 = .int .i64 id∧σ 5=g∧σ 6 = .int .i64 i∧Q0 w (NL g (Ry P id i)::Vi p P::fr)) (m:=P.length - 1) ⟨rfl,1,_,by omega,h1,rfl,rfl,rfl,rfl,rfl,Yt H⟩ ?_;clear H;rintro ms σ w n ⟨rfl,i,g,hi1,hi2,rfl,g0,g1,g5,g6,H⟩;obtain⟨ag,mg,cg,rfl⟩:=Qs H;obtain⟨a,c,H⟩:=Kp H.swap;rw[Q1 g0,Q1 g1,Q1 g5,Q1 g6];refine Ka H ?_;refine Qj rfl (fun h=>QD ?_) (fun h=>Qp ?_)
 ·have hlt:i < P.length:=by omega
  obtain⟨b,s,rfl,H,hclose⟩:=V3 H.swap (by omega);have hc:=B0 (P:=P) (s:=s) (i:=i) (by omega);have hnx:=fC P id i hi1;generalize P.getD i 0=y at hc hnx;refine AX H ?_;refine Jd ?_;refine Q5 rfl (QB H rfl hc rfl ?_);refine J0 H ?_;replace H:=Gh (hclose _ _ H).swap;refine J6 H ?_;refine Qj rfl (fun h=>?_) (fun h=>QD ?_)
  ·have h:0≤y:=h;refine Vc H ?_;refine Jc rfl rfl (fL p P hO i id (by omega) H) ?_;clear H;rintro v w ⟨rfl,H⟩;refine J0 H ?_;refine VF H ?_;cases hb:Zw P id i with
   | true=>
    rw[hb,if_pos ⟨h,rfl⟩] at hnx;refine VH H ?_;refine EG H ?_;clear H;intro b32 w H;replace H:=Js [2,0,0] 0 H;refine Q5 rfl (YR H rfl rfl (by repeat first|exact .nil _|apply Q9.cons rfl) rfl (by decide) (by rw[QH];have:=Ir P id i;simp only[length_cons,length_nil];omega) rfl rfl ?_);clear H;intro v25 w H;obtain⟨a25,m25,c25,rfl⟩:=Qs H;refine C6 H ?_;replace H:=Js [0,1] 1 H;refine⟨_,⟨rfl,i+1,_,by omega,hlt,rfl,rfl,rfl,rfl,Qc (by omega),?_⟩,by omega⟩;rw[hnx];show Q0 w (QX _ 1 _ (QA (_++[i]))::_);rw[WT];exact H
   | false=>
    rw[hb,if_neg (fun h=>by cases h.2),append_nil] at hnx;refine AW H ?_;exact⟨_,⟨rfl,i+1,_,by omega,hlt,rfl,rfl,rfl,rfl,Qc (by omega),by rw[hnx];exact H.swap⟩,by omega⟩
  ·have h:¬ 0≤y:=h;rw[if_neg (fun h2=>h h2.1),append_nil] at hnx;refine VX H ?_;exact⟨_,⟨rfl,i+1,_,by omega,hlt,rfl,rfl,rfl,rfl,Qc (by omega),by rw[hnx];exact H.swap⟩,by omega⟩
 ·obtain rfl:i=P.length:=by omega
  refine J4 H ?_;have H:=(Gh H).swap;exact Q3 (Jy H rfl fun w' H'=>H')
theorem fN [Q4] (p:Nat) (P:List Int) (hO:Wk P) (id:Int) (h1:1≤P.length) (hl:P.length≤1000000) {w:World} {fr:List Q2} (H:Q0 w (Vi p P::fr)) :
  Calls Tryz.prog 166 #[pp p,.int .i64 id] w (ret fun v w'=>Q0 w' (NL v (Zx P id)::Vi p (Vu P (Zx P id))::fr)):=by
 refine QQ Tryz.func166 rfl (by kernel_rfl) ?_;refine Uw H ?_;refine Jc rfl rfl (fM p P hO id h1 hl H) ?_;clear H;rintro v w H;have hLm:∀ k∈Zx P id,k < P.length:=fun k hk=>(Od.1 hk).1;have hLl:(Zx P id).length≤P.length:=Ir P id P.length;generalize Zx P id=U at H hLm hLl;obtain⟨aU,cU,rfl⟩:=QE H (QH U) (by decide);refine J0 H ?_;refine A9 H ?_;refine Ql (fun ms σ w n=>ms=[]∧∃ i:Nat,i≤U.length∧n=U.length - i∧σ 0=pp p∧σ 5 = .slice aU U.length cU∧σ 6 = .int .i64 i∧Q0 w (NL (.slice aU U.length cU) U::Vi p (Vu P (U.take i))::fr)) (m:=U.length) ⟨rfl,0,by omega,rfl,rfl,rfl,rfl,by rw[take_zero,fD];exact H⟩ ?_;clear H;rintro ms σ w n ⟨rfl,i,hi,rfl,g0,g5,g6,H⟩;rw[Q1 g0,Q1 g5,Q1 g6];refine KT H ?_;refine Qj rfl (fun h=>QD ?_) (fun h=>Qp ?_)
 ·have hlt:i < U.length:=by omega
  have hx:=getElem?_eq_getElem hlt;have htk:U.take (i+1)=U.take i++[U[i]]:=by rw[take_add_one,hx];rfl
  have hxl:=hLm _ (getElem_mem hlt);generalize U[i]=k at hx htk hxl;have hfl:=Is P (U.take i);obtain⟨a,c,H⟩:=Kp H.swap;obtain⟨b,s,rfl,H,_,_,hclose⟩:=Z2 H.swap (by omega);replace H:=Js [2,0,0] 0 H;obtain⟨bU,sU,rfl,H,hclU⟩:=V3 H (by omega);have hkx:((k:Nat):Int).toNat=k:=Int.toNat_natCast k;refine C7 H ?_;clear H;intro w H;refine E3 H ?_;refine Us H ?_;refine Ji 6 ?_;refine Vn 7 [] H rfl (Q7.none rfl) rfl (Gz hx) (by kernel_rfl) ?_;refine Ji 8 ?_;refine Jo 9 H ?_;refine Yh H rfl rfl inferInstance rfl (by simp only[length_append,Vo];omega) rfl ?_;clear H;intro w H;rw[hkx,It (by omega),fE] at H;refine Jx H ?_;replace H:=hclU _ _ H;replace H:=Js [1,1,0] 0 H;replace H:=hclose _ _ _ (by rw[Vo,Vo,Is,Is]) H;replace H:=Gh H.swap;refine VX H ?_;exact⟨_,⟨rfl,i+1,hlt,rfl,rfl,rfl,Qc (by omega),by rw[htk];exact H.swap⟩,by omega⟩
 ·obtain rfl:i=U.length:=by omega
  rw[take_length] at H;refine J4 H ?_;exact Q3 (Jy H rfl fun w' H'=>H')
theorem fO [Q4] (p:Nat) (P:List Int) (id:Nat) (q:Int) (hid:1≤id) (hq:P[id]? = some q) (hq0:0≤q) (h1:1≤P.length) (hl:P.length≤1000000) {w:World} {fr:List Q2} (H:Q0 w (Vi p P::fr)) :
  Calls Tryz.prog 168 #[pp p,.int .i64 id] w (ret fun v w'=>(q=0∧v = .tuple #[.int .i64 0,.int .i64 16]∧Q0 w' (Vi p P::fr))∨(q≠0∧v = .tuple #[.int .i64 q,.int .i64 0]∧Q0 w' (Vi p (ZG P id q.toNat)::fr))):=by
 have hidl:=(List.getElem?_eq_some_iff.1 hq).1;have hgd:P.getD id 0=q:=by rw[getD_eq_getElem?_getD,hq];rfl
 have hlv:Y1 P (id:Int)=true:=decide_eq_true ⟨by omega,by omega,by rw[Int.toNat_natCast,hgd];exact hq0⟩;refine QQ Tryz.func168 rfl (by kernel_rfl) ?_;refine XF H ?_;refine Jc rfl rfl (Wh p P id H) ?_;clear H;rintro v w ⟨rfl,H⟩;rw[hlv];refine Yl H ?_;obtain⟨a,c,H⟩:=Kp H;obtain⟨b,s,rfl,H,hclose⟩:=V3 H.swap (by omega);have hc:=B0 (P:=P) (s:=s) (i:=id) hidl;rw[hgd] at hc;refine V2 H ?_;refine Jd ?_;refine Q5 rfl (QB H rfl hc rfl ?_);refine J0 H ?_;replace H:=Gh (hclose _ _ H).swap;refine J4 H ?_;by_cases hz:q=0
 ·rw[show (q == (0:Int))=true by rw[hz];rfl];refine Yc H ?_;exact Q3 (Jy H rfl fun w' H' => .inl ⟨hz,rfl,H'⟩)
 rw[show (q == (0:Int))=false by rw[beq_eq_false_iff_ne];exact hz];refine V4 H ?_;obtain⟨qn,rfl⟩:∃ qn:Nat,q=qn:=⟨q.toNat,by omega⟩;rw[Int.toNat_natCast];refine J8 H ?_;refine Qk (fun ms σ w=>ms=[]∧σ 0=pp p∧σ 1 = .int .i64 id∧σ 7 = .int .i64 qn∧Q0 w (Vi p (UA P id qn P.length)::fr)) ?_ ?_
 ·refine QP ?_;refine Ql (fun ms σ w n=>ms=[]∧∃ i:Nat,1≤i∧i≤P.length∧n=P.length - i∧σ 0=pp p∧σ 1 = .int .i64 id∧σ 7 = .int .i64 qn∧σ 8 = .int .i64 i∧Q0 w (Vi p (UA P id qn i)::fr)) (m:=P.length - 1) ⟨rfl,1,by omega,h1,rfl,rfl,rfl,rfl,rfl,by rw[fF];exact H⟩ ?_;clear H hclose;rintro ms σ w n ⟨rfl,i,hi1,hi2,rfl,g0,g1,g7,g8,H⟩;rw[Q1 g0,Q1 g1,Q1 g7,Q1 g8];have hml:=B5 P id qn i;obtain⟨a,c,H⟩:=Kp H;refine Ka H ?_;rw[hml];refine Qj rfl (fun h=>QD ?_) (fun h=>Qp ?_)
  ·have hlt:i < P.length:=by omega
   obtain⟨b,s,rfl,H,_,_,hclose⟩:=Z2 H.swap (by omega);have hPi:=getElem?_eq_getElem hlt;generalize P[i]=y at hPi
   have hgi:(UA P id qn i).getD i 0=y:=by
    rw[getD_eq_getElem?_getD,Wl,hPi];simp
   have hc:=B0 (P:=UA P id qn i) (s:=s) (i:=i) (by omega);rw[hgi] at hc;have hkx:((i:Nat):Int).toNat=i:=Int.toNat_natCast i;refine AX H ?_;refine Jd ?_;refine Q5 rfl (QB H rfl hc rfl ?_);refine J3 H ?_;by_cases hy:y=(id:Int)
   ·rw[show (y == (id:Int))=true by rw[hy];exact beq_self_eq_true _];subst hy;refine VH H ?_;refine GI H ?_;refine Jd ?_;refine Q5 rfl (Yh H rfl rfl inferInstance rfl (by simp only[length_append,Vo];omega) rfl ?_);clear H;intro w H;rw[hkx,It (by omega),fH hi1 hPi] at H;refine J2 H ?_;replace H:=Gh (hclose _ _ _ (by rw[Vo,Vo,B5,B5]) H).swap;refine VX H ?_;exact⟨_,⟨rfl,i+1,by omega,hlt,rfl,rfl,rfl,rfl,Qc (by omega),H⟩,by omega⟩
   ·rw[show (y == (id:Int))=false by rw[beq_eq_false_iff_ne];exact hy];refine V4 H ?_;rw[fI hPi hy] at H hclose;replace H:=Gh (hclose _ _ _ rfl H).swap;refine VX H ?_;exact⟨_,⟨rfl,i+1,by omega,hlt,rfl,rfl,rfl,rfl,Qc (by omega),H⟩,by omega⟩
  ·obtain rfl:i=P.length:=by omega
   exact⟨rfl,rfl,rfl,rfl,rfl,Gh H⟩
 clear H hclose;rintro ms σ w ⟨rfl,g0,g1,g7,H⟩;rw[Q1 g0,Q1 g1,Q1 g7];have hml:=B5 P id qn P.length;obtain⟨a,c,H⟩:=Kp H;obtain⟨b,s,rfl,H,_,_,hclose⟩:=Z2 H.swap (by omega);have hkx:((id:Nat):Int).toNat=id:=Int.toNat_natCast id;refine V2 H ?_;refine Jd ?_;refine Q5 rfl (Yh H rfl rfl inferInstance rfl (by simp only[length_append,Vo];omega) rfl ?_);clear H;intro w H;rw[hkx,It (by omega),fJ] at H;have hmp:(ZG P id qn).length=(UA P id qn P.length).length:=by unfold ZG UA;rw[length_mapIdx,length_mapIdx]
 refine J2 H ?_;replace H:=Gh (hclose _ _ _ (by rw[Vo,Vo,hmp]) H).swap;refine VX H ?_;exact Q3 (Jy H rfl fun w' H' => .inr ⟨hz,rfl,H'⟩)
end Go.Proofs.YtbnnnljagkjpiaaGreatDoor
