/- Cells: what is proved on the way: every input of the statement; no condition. Texts joined: ChkP LawA ChkQ SplT JoiE JoiF JoiG. -/
import Derived.Test.YtbnnnljagkjpiaaGreatDoorBgt
import Derived.Test.YtbnnnljagkjpiaaGreatDoorBgf
import Derived.Test.YtbnnnljagkjpiaaGreatDoorBgs
import Derived.Test.YtbnnnljagkjpiaaGreatDoorBgn
import Derived.Test.YtbnnnljagkjpiaaGreatDoorBge
import Derived.Test.YtbnnnljagkjpiaaGreatDoorBgq
import Derived.Test.YtbnnnljagkjpiaaGreatDoorBgp
import Derived.Test.YtbnnnljagkjpiaaGreatDoorBgm
import Derived.Test.YtbnnnljagkjpiaaGreatDoorBgo
set_option linter.unusedVariables false
set_option linter.unusedSimpArgs false
set_option linter.unusedSectionVars false
namespace Go.Proofs.YtbnnnljagkjpiaaGreatDoor
open List
open Go.SL
def ZU (ts:List QK) (r:Int):List (Nat×Nat)→List (Nat×Nat)→Nat
 | _,[]=>0
 | pre,t::l=>match Qn ts t.1 t.2 with
  | none=>8
  | some (_,e)=>if e.region≠r then 15 else if e.pinned=true then 13 else if t∈pre then 14 else ZU ts r (pre++[t]) l
def Zb (s:CS) (r:Int) (l:List (Nat×Nat)):Nat:=if 64 < l.length then 18 else if ZU s.tab r [] l≠0 then ZU s.tab r [] l else if s.par.length=64 then 5 else 0
theorem FP {ts:List QK} {r:Int} {pre l:List (Nat×Nat)} {t:Nat×Nat} (h:Qn ts t.1 t.2=none):ZU ts r pre (t::l)=8:=by
 unfold ZU;rw[h]
theorem JV {ts:List QK} {r:Int} {pre l:List (Nat×Nat)} {t:Nat×Nat} {k:Nat} {e:Q8} (h:Qn ts t.1 t.2=some (k,e)):ZU ts r pre (t::l)=if e.region≠r then 15 else if e.pinned=true then 13 else if t∈pre then 14 else ZU ts r (pre++[t]) l:=by
 show (match Qn ts t.1 t.2 with
  | none=>8
  | some (_,e)=>if e.region≠r then 15 else if e.pinned=true then 13 else if t∈pre then 14 else ZU ts r (pre++[t]) l)=_
 rw[h]
theorem FS {ts:List QK} {r:Int}:∀ {l pre:List (Nat×Nat)},ZU ts r pre l=0→(∀ t∈l,(∃ e,ts[t.1]? = some ⟨t.2,some e⟩∧e.held=true∧e.region=r∧e.pinned=false)∧t∉pre)∧l.Nodup
 | [],_,_=>⟨fun t ht=>(by cases ht),.nil⟩
 | t::l,pre,h=>by
  cases hv:Qn ts t.1 t.2 with
  | none=>rw[FP hv] at h;cases h
  | some q=>
   obtain⟨k,e⟩:=q;rw[JV hv] at h;split at h
   ·cases h
   ·rename_i h1;split at h
    ·cases h
    ·rename_i h2;split at h
     ·cases h
     ·rename_i h3;obtain⟨h4,h5⟩:=FS h;obtain⟨hL,hh⟩:=XJ.1 hv;obtain⟨n,n1,n2,n3⟩:=Y9.1 hL;have e1:t.1=k:=by omega
      have e2:t.2=n:=by omega
      refine⟨fun u hu=>?_,nodup_cons.2 ⟨fun h6=>(h4 t h6).2 (by simp),h5⟩⟩
      rcases mem_cons.1 hu with rfl|hu
      ·exact⟨⟨e,by rw[e1,e2];exact n3,hh,Classical.not_not.1 h1,by simpa using h2⟩,h3⟩
      ·exact⟨(h4 u hu).1,fun h6=>(h4 u hu).2 (mem_append.2 (.inl h6))⟩
theorem fl {ts:List QK} {r:Int} {l:List (Nat×Nat)} (h:ZU ts r [] l=0):(l.map (·.1)).Nodup:=by
 obtain⟨h1,h2⟩:=FS h;refine pairwise_map.2 (h2.imp_of_mem fun {a b} ha hb hab hk=>hab ?_);obtain⟨⟨e,e1,_⟩,_⟩:=h1 a ha;obtain⟨⟨f,f1,_⟩,_⟩:=h1 b hb;rw[hk,f1] at e1;injection e1 with e1
 injection e1 with e1 _
 exact Prod.ext hk e1.symm
def GU (m:MS) (r:Int):List Int→List Int→Nat
 | _,[]=>0
 | pre,o::l=>match V5 m o with
  | none=>8
  | some (_,x)=>if (x.region:Int)≠r then 15 else if x.pinned=true then 13 else if o∈pre then 14 else GU m r (pre++[o]) l
def Gl (m:MS) (r:Int) (os:List Int):Nat:=if Y1 m.P r=false then 15 else if 64 < os.length then 18 else if GU m r [] os≠0 then GU m r [] os else if 64≤(ZS m.P).length then 5 else 0
theorem Oo {m:MS} {r:Int} {pre l:List Int} {o:Int} (h:V5 m o=none):GU m r pre (o::l)=8:=by
 unfold GU;rw[h]
theorem Oq {m:MS} {r:Int} {pre l:List Int} {o:Int} {k:Nat} {x:QI} (h:V5 m o=some (k,x)):GU m r pre (o::l)=if (x.region:Int)≠r then 15 else if x.pinned=true then 13 else if o∈pre then 14 else GU m r (pre++[o]) l:=by
 show (match V5 m o with
  | none=>8
  | some (_,x)=>if (x.region:Int)≠r then 15 else if x.pinned=true then 13 else if o∈pre then 14 else GU m r (pre++[o]) l)=_
 rw[h]
def Rz (told:List (Nat×Nat)) (y:(Nat×Nat)×Int):Prop:=(∃ n:Nat,y.2=n∧told[n]? = some y.1)∨(y.2 = -1∧told=[])
theorem Rz.pick {told:List (Nat×Nat)} {y:(Nat×Nat)×Int} (h:Rz told y):U4 told y.1.1 y.1.2 y.2:=by
 rcases h with ⟨n,h1,h2⟩|⟨h1,h2⟩
 ·exact .inl ⟨y.1.1,y.1.2,n,rfl,rfl,h1,h2⟩
 ·exact .inr ⟨h1,fun k gg n _ _=>by rw[h2];simp⟩
theorem Ot {s:CS} {m:MS} {told:List (Nat×Nat)} (R:Rel s m told) (r:Int):∀ (l pre:List ((Nat×Nat)×Int)),(∀ y∈l,Rz told y)→(∀ y∈pre,Rz told y)→ZU s.tab r (pre.map (·.1)) (l.map (·.1))=GU m r (pre.map (·.2)) (l.map (·.2))
 | [],pre,_,_=>rfl
 | y::l,pre,h1,h2=>by
  have hy:=h1 y mem_cons_self
  have ih:=Ot R r l (pre++[y]) (fun z hz=>h1 z (mem_cons_of_mem _ hz)) (fun z hz=>by
   rcases mem_append.1 hz with hz|hz
   ·exact h2 z hz
   ·rw[mem_singleton] at hz;subst hz;exact hy)
  rw[map_append,map_append] at ih;have hV:Vd s m told y.1.1 y.1.2 y.2:=K9 R hy.pick
  rcases hV with ⟨v1,v2⟩|⟨k,gg,n,e,x,a1,a2,a3,a4,a5,a6,a7,a8,a9,a10⟩
  ·show ZU s.tab r (pre.map (·.1)) (y.1::l.map (·.1))=GU m r (pre.map (·.2)) (y.2::l.map (·.2));rw[FP v1,Oo v2]
  ·show ZU s.tab r (pre.map (·.1)) (y.1::l.map (·.1))=GU m r (pre.map (·.2)) (y.2::l.map (·.2));rw[JV a9,Oq a10,a8.region,a8.pinned]
   have hiff:y.1∈pre.map (·.1)↔y.2∈pre.map (·.2):=by
    have ht:told[n]? = some y.1:=by rw[a4];congr 1;exact Prod.ext (by omega) (by omega)
    constructor
    ·intro h;obtain⟨z,z1,z2⟩:=mem_map.1 h;refine mem_map.2 ⟨z,z1,?_⟩
     rcases h2 z z1 with ⟨n',b1,b2⟩|⟨_,b2⟩
     ·rw[z2] at b2;have:=FF R.nodup ht b2;omega
     ·rw[b2] at ht;cases ht
    ·intro h;obtain⟨z,z1,z2⟩:=mem_map.1 h;refine mem_map.2 ⟨z,z1,?_⟩
     rcases h2 z z1 with ⟨n',b1,b2⟩|⟨b1,_⟩
     ·have:n'=n:=by omega
      subst this;rw[ht] at b2;injection b2 with b2
      exact b2.symm
     ·omega
   by_cases c1:(x.region:Int)≠r
   ·rw[if_pos c1,if_pos c1]
   ·rw[if_neg c1,if_neg c1];by_cases c2:x.pinned=true
    ·rw[if_pos c2,if_pos c2]
    ·rw[if_neg c2,if_neg c2];by_cases c3:y.1∈pre.map (·.1)
     ·rw[if_pos c3,if_pos (hiff.1 c3)]
     ·rw[if_neg c3,if_neg (fun h=>c3 (hiff.2 h))];exact ih
theorem fm {s:CS} {m:MS} {told:List (Nat×Nat)} (R:Rel s m told) (hw:WF s) {r:Int} (hr:(QY s.par r).isSome=true) {l:List ((Nat×Nat)×Int)} (h:∀ y∈l,Rz told y):Zb s r (l.map (·.1))=Gl m r (l.map (·.2)):=by
 have h1:=Ot R r l [] h (fun y hy=>(by cases hy));have h1:ZU s.tab r [] (l.map (·.1))=GU m r [] (l.map (·.2)):=h1;unfold Zb Gl;rw[← Wj R,hr,if_neg (show ¬ (true=false) by decide),length_map,length_map,h1];by_cases c1:64 < l.length
 ·rw[if_pos c1,if_pos c1]
 ·rw[if_neg c1,if_neg c1];by_cases c2:GU m r [] (l.map (·.2))≠0
  ·rw[if_pos c2,if_pos c2]
  ·rw[if_neg c2,if_neg c2,FH R.w];have:=hw.par.1;rw[FH R.w] at this;by_cases c3:(ZS m.P).length=64
   ·rw[if_pos c3,if_pos (by omega)]
   ·rw[if_neg c3,if_neg (by omega)]
def ZI (l:List (Nat×Nat)):List Value:=l.flatMap fun t=>[.int .i64 (t.1:Nat),.int .i64 (t.2:Nat)]
theorem W0 (l:List (Nat×Nat)):(ZI l).length=l.length*2:=by
 induction l with
 | nil=>rfl
 | cons p L ih=>simp only[ZI,flatMap_cons,length_append,length_cons,length_nil] at ih ⊢;omega
theorem JY (a b:List (Nat×Nat)):ZI (a++b)=ZI a++ZI b:=by simp[ZI]
theorem fp {L:List (Nat×Nat)} {i:Nat} {p:Nat×Nat} (h:L[i]? = some p):(ZI L)[i*2]? = some (.int .i64 (p.1:Nat))∧(ZI L)[i*2+1]? = some (.int .i64 (p.2:Nat)):=by
 induction L generalizing i with
 | nil=>simp at h
 | cons x L ih=>
  cases i with
  | zero=>
   simp at h;subst h;exact⟨rfl,rfl⟩
  | succ i=>
   have:=ih (i:=i) (by simpa using h);rw[show (i+1)*2=i*2+2 by omega];exact this
theorem fq {c:List Value} {o n:Nat} {L:List (Nat×Nat)} (h:Q9 c o n (ZI L)) {i:Nat} {p:Nat×Nat} (hp:L[i]? = some p):Q9 c (o+i*2) 2 [.int .i64 (p.1:Nat),.int .i64 (p.2:Nat)]:=by
 obtain⟨h1,h2⟩:=fp hp;refine h.part (es:=[.int .i64 (p.1:Nat),.int .i64 (p.2:Nat)]) fun j v hj=>?_
 match j,hj with
 | 0,hj=>rw[← hj];exact h1
 | 1,hj=>rw[← hj];exact h2
theorem Kv {L:List (Nat×Nat)} {spare:List Value} {i:Nat} {p:Nat×Nat} (h:L[i]? = some p):Q9 (ZI L++spare) (0+i*2) 2 [.int .i64 (p.1:Nat),.int .i64 (p.2:Nat)]:=by
 refine fq (L:=L) (n:=(ZI L).length) (Q9.of_get fun j v hj=>?_) h;rw[Nat.zero_add,getElem?_append_left (List.getElem?_eq_some_iff.1 hj).1];exact hj
@[reducible] def VE (v:Value) (told:List (Nat×Nat)):Q2:=QX 62 2 v (ZI told)
@[reducible] def Va (p c mo:Nat) (v:Value):Q2:=pts p (row 49 [pp c,pp mo,v])
structure RQ where
 c:Nat
 mo:Nat
 v:Value
def Uk (p:Nat) (s:CS) (m:MS) (told:List (Nat×Nat)):Q2:=ex fun q:RQ=>star [Va p q.c q.mo q.v,QW q.c s,Qq q.mo m,VE q.v told]
theorem FT [Q4] {w:World} {p:Nat} {s:CS} {m:MS} {told:List (Nat×Nat)} {l:List Q2} (H:Q0 w (Uk p s m told::l)):∃ (c mo:Nat) (a:Option Addr) (cap:Nat),Q0 w (Va p c mo (.slice a told.length cap)::QW c s::Qq mo m::VE (.slice a told.length cap) told::l):=by
 obtain⟨⟨c,mo,v⟩,H⟩:=Q0.ex.1 H;have H:=Q0.star.1 H;obtain⟨a,cap,rfl⟩:=QE (H.drop.drop.drop) (W0 told) (by decide);exact⟨c,mo,a,cap,H⟩
theorem YH [Q4] {w:World} {p c mo:Nat} {v:Value} {s:CS} {m:MS} {told:List (Nat×Nat)} {l:List Q2} (H:Q0 w (Va p c mo v::QW c s::Qq mo m::VE v told::l)):Q0 w (Uk p s m told::l):=
 Q0.ex.2 ⟨⟨c,mo,v⟩,Q0.star.2 H⟩
theorem Ou [Q4] (p c mo:Nat) (a:Option Addr) (cap:Nat) (told:List (Nat×Nat)) (hlen:told.length≤1000000) (k i g:Int) (raw:Bool) {w:World} {fr:List Q2} (H:Q0 w (Va p c mo (.slice a told.length cap)::VE (.slice a told.length cap) told::fr)) :
  Calls Tryz.prog 147 #[pp p,.int .i64 k,.bool raw,Yy i g] w (ret fun v w'=>∃ i' g' o,v = .tuple #[Yy i' g',.int .i64 o]∧U4 told i' g' o∧(raw=false→told≠[]→o ≠ -1)∧(raw=true∨told=[]→i'=i∧g'=g)∧Q0 w' (Va p c mo (.slice a told.length cap)::VE (.slice a told.length cap) told::fr)):=by
 refine QQ Tryz.func147 rfl (by kernel_rfl) ?_;refine J7 H ?_;clear H;intro b7 w H;refine VZ H ?_;clear H;intro b8 w H;refine Y8 H ?_;refine Qk (fun ms σ w=>ms=[]∧(∃ q,σ 21 = .bool q∧(q=true↔raw=false∧told≠[]))∧σ 0=pp p∧σ 1 = .int .i64 k∧σ 7=pp b7∧σ 8=pp b8∧Q0 w (pts b7 (row 62 [.int .i64 i,.int .i64 g])::pts b8 (row 62 [.int .i64 0,.int .i64 0])::Va p c mo (.slice a told.length cap)::VE (.slice a told.length cap) told::fr)) ?_ ?_
 ·cases raw with
  | true=>
   refine Vc H ?_;refine AR H ?_;refine KI H ?_;refine J0 H ?_;exact⟨rfl,rfl,⟨false,rfl,by simp⟩,rfl,rfl,rfl,rfl,H.swap⟩
  | false=>
   refine WD H ?_;refine QT rfl rfl rfl (VR rfl rfl ?_);refine QT rfl rfl rfl (QB H rfl rfl rfl ?_);refine QT rfl rfl rfl (ZJ rfl rfl ?_);refine VU rfl rfl rfl rfl ?_;refine J0 H ?_;refine⟨rfl,rfl,⟨_,rfl,?_⟩,rfl,rfl,rfl,rfl,H.swap⟩;cases told with
   | nil=>simp
   | cons x l=>
    refine⟨fun _=>⟨rfl,by simp⟩,fun _=>?_⟩;show decide ((((x::l).length:Nat):Int) > 0)=true;exact decide_eq_true (by rw[length_cons];omega)
 clear H;rintro ms σ w ⟨rfl,⟨q,g21,hq⟩,g0,g1,g7,g8,H⟩;rw[Q1 g21,Q1 g0,Q1 g1,Q1 g7,Q1 g8];refine J6 H ?_;refine Qk (fun ms σ w=>ms=[]∧σ 0=pp p∧σ 7=pp b7∧σ 8=pp b8∧∃ i' g':Int,(raw=false→told≠[]→∃ n x y:Nat,told[n]? = some (x,y)∧i'=x∧g'=y)∧(raw=true∨told=[]→i'=i∧g'=g)∧Q0 w (pts b7 (row 62 [.int .i64 i',.int .i64 g'])::pts b8 (row 62 [.int .i64 0,.int .i64 0])::Va p c mo (.slice a told.length cap)::VE (.slice a told.length cap) told::fr)) ?_ ?_
 ·cases q with
  | true=>
   obtain⟨hq1,hq2⟩:=hq.1 rfl;refine VH H ?_;refine J1 H ?_;clear H;intro w H;refine Yu H ?_;refine Jl 3 [16] H ?_;refine Ja 4 ?_;refine U8 5 rfl (Q7.none rfl) rfl (by kernel_rfl) ?_;refine AJ H ?_;refine Jl 9 [16] H ?_;refine R5 10 rfl (Q7.none rfl) rfl (by kernel_rfl) ?_;refine U8 11 rfl (Q7.none rfl) rfl (by kernel_rfl) ?_
   obtain⟨K,hK⟩:∃ K:Nat,IntKind.u64.wrap k=K:=⟨(IntKind.u64.wrap k).toNat,by
    have:0≤IntKind.u64.wrap k:=Int.emod_nonneg _ (by decide);omega⟩
   have hlp:0 < told.length:=length_pos_iff.2 hq2;have e1:IntKind.u64.wrap (told.length:Int)=(told.length:Int):=Int.emod_eq_of_lt (by omega) (by show (told.length:Int) < 18446744073709551616;omega);rw[hK,e1];have hmod:=Nat.mod_lt K hlp
   refine Gs (v := .int .u64 ((K % told.length:Nat):Int)) 12 rfl (Q7.none rfl) (by
    show (if IntKind.u64=IntKind.u64 then (if (told.length:Int)=0 then none else some (Value.int IntKind.u64 (Int.tmod (K:Int) (told.length:Int)))) else none)=_;rw[if_pos rfl,if_neg (by omega),Int.tmod_eq_emod_of_nonneg (by omega),Int.natCast_emod]) (by kernel_rfl) ?_
   refine U8 13 rfl (Q7.none rfl) rfl (by kernel_rfl) ?_;rw[Qb (x:=((K % told.length:Nat):Int)) (by omega) (by omega)];generalize K % told.length=n at hmod;have hn:=getElem?_eq_getElem hmod;generalize told[n]=xy at hn;obtain⟨x,y⟩:=xy;replace H:=Js [3,0,0,0] 0 H;obtain⟨bT,sT,rfl,H,hcl⟩:=V3 H hlp;refine Ji 14 ?_;refine VB 15 [16] H rfl (Q7.none rfl) rfl (Kv hn) (by kernel_rfl) ?_;refine Jo 16 H ?_;refine Gy H ?_;clear H;intro w H;replace H:=hcl _ _ H;refine Jx H ?_;replace H:=Js [1,1,1,0] 0 H;exact⟨rfl,rfl,rfl,rfl,rfl,x,y,fun _ _=>⟨n,x,y,hn,rfl,rfl⟩,fun h=>absurd h (by rintro(h|h);exact absurd (hq1.symm.trans h) (by decide);exact hq2 h),H⟩
  | false=>
   refine V4 H ?_;refine⟨rfl,rfl,rfl,rfl,rfl,i,g,?_,fun _=>⟨rfl,rfl⟩,H⟩;intro h1 h2;exact absurd (hq.2 ⟨h1,h2⟩) (by decide)
 clear H;rintro ms σ w ⟨rfl,g0,g7,g8,i',g',hin,hout,H⟩;rw[Q1 g0,Q1 g7,Q1 g8];refine Yk H ?_;refine KP H ?_;refine Ql (fun ms σ w q=>ms=[]∧∃ j:Nat,j≤told.length∧q=told.length - j∧(∀ (n x y:Nat),n < j→told[n]? = some (x,y)→¬(i'=x∧g'=y))∧σ 7=pp b7∧σ 8=pp b8∧σ 41 = .slice a told.length cap∧σ 42 = .int .i64 told.length∧σ 43 = .int .i64 j∧Q0 w (VE (.slice a told.length cap) told::pts b7 (row 62 [.int .i64 i',.int .i64 g'])::pts b8 (row 62 [.int .i64 0,.int .i64 0])::Va p c mo (.slice a told.length cap)::fr)) (m:=told.length) ⟨rfl,0,by omega,rfl,by omega,rfl,rfl,rfl,rfl,rfl,H.sel [3,0,0,0] 0⟩ ?_;clear H;rintro ms σ w q ⟨rfl,j,hj,rfl,hno,g7,g8,g41,g42,g43,H⟩;rw[Q1 g7,Q1 g8,Q1 g41,Q1 g42,Q1 g43];refine J8 H ?_;refine Qj rfl (fun h=>QD ?_) (fun h=>Qp ?_)
 ·have hlt:j < told.length:=by omega
  have hn:=getElem?_eq_getElem hlt;generalize told[j]=xy at hn;obtain⟨x,y⟩:=xy;obtain⟨bT,sT,rfl,H,hcl⟩:=V3 H (by omega);refine BO H ?_;refine Jd ?_;refine Q5 rfl (VA H rfl (Kv hn) rfl ?_);refine VZ H ?_;clear H;intro b11 w H;refine DP H ?_;clear H;intro w H;refine EF H ?_;refine J2 H ?_;replace H:=H.drop;refine Qj (p:=((x:Int),(y:Int))=(i',g')) rfl (fun he=>?_) (fun he=>QD ?_)
  ·injection he with h1 h2
   subst h1 h2;refine KN H ?_;clear H;intro w H;refine J0 H ?_;replace H:=hcl _ _ H;replace H:=Js [2,2,0] 1 H;refine Q3 (Jz H (fun w' H' => .cellN H' rfl (by repeat first|exact .nil _|apply Q9.cons rfl) (.tmp .nil)) fun w' H'=>⟨x,y,j,rfl,.inl ⟨x,y,j,rfl,rfl,rfl,hn⟩,fun _ _=>by omega,hout,H'.drop⟩)
  ·replace H:=hcl _ _ H;refine J4 H ?_;refine⟨_,⟨rfl,j+1,hlt,rfl,?_,rfl,rfl,rfl,rfl,Qc (by omega),H⟩,by omega⟩;intro n x' y' hnj hn' hc;by_cases hnj':n=j
   ·subst hnj';rw[hn] at hn';injection hn' with hn'
    injection hn' with h1 h2
    subst h1 h2;exact he (by rw[hc.1,hc.2])
   ·exact hno n x' y' (by omega) hn' hc
 ·have hge:j=told.length:=by omega
  subst hge;refine KD H ?_;clear H;intro w H;refine J0 H ?_;replace H:=Js [2,2,0] 1 H;refine Q3 (Jz H (fun w' H' => .cellN H' rfl (by repeat first|exact .nil _|apply Q9.cons rfl) (.tmp .nil)) fun w' H'=>⟨i',g',-1,rfl,.inr ⟨rfl,?_⟩,?_,hout,H'.drop⟩)
  ·intro x y n h1 h2 hn;exact hno n x y (List.getElem?_eq_some_iff.1 hn).1 hn ⟨h1,h2⟩
  ·intro h1 h2 _;obtain⟨n,x,y,hn,h3,h4⟩:=hin h1 h2;exact hno n x y (List.getElem?_eq_some_iff.1 hn).1 hn ⟨h3,h4⟩
set_option maxRecDepth 10000 in
theorem ft [Q4] (p:Nat) (u:Gb) (s:CS) (r:Int) (v:Value) (l:List (Nat×Nat)) (hl:l.length≤1000) {w:World} {fr:List Q2} (H:Q0 w (Qg u.tp s.tab::Qt p u::Qf u.trp s.last s.par::VE v l::fr)) :
  Calls Tryz.prog 52 #[pp p,.int .i64 r,v] w (ret fun x w'=>x = .int .i64 (Zb s r l:Nat)∧Q0 w' (Qg u.tp s.tab::Qt p u::Qf u.trp s.last s.par::VE v l::fr)):=by
 obtain⟨a,c,rfl⟩:=QE (H.pull 3) (W0 l) (by decide);refine QQ Tryz.func52 rfl (by kernel_rfl) ?_;refine VF H ?_;refine T7 ?_;refine Xu H ?_;by_cases h64:64 < l.length
 ·rw[show decide (((l.length:Nat):Int) > 64)=true from decide_eq_true (by omega)];refine YC H ?_;exact Q3 (Jy H rfl fun w' H'=>⟨by unfold Zb;rw[if_pos h64];rfl,H'⟩)
 have hfail:∀ x:Nat,x≠0→ZU s.tab r [] l=x→Zb s r l=x:=fun x h1 h2=>by
  unfold Zb;rw[if_neg h64,h2,if_pos h1]
 rw[show decide (((l.length:Nat):Int) > 64)=false from decide_eq_false (by omega)];refine V4 H ?_;refine J8 H ?_;refine Po ?_;refine Xu H ?_;replace H:=Js [3,0,0,0] 0 H;refine J6 H ?_;refine Y4 (fun ms σ w=>ms=[]∧∃ again:Bool,((again=true∧ZU s.tab r [] l=14)∨(again=false∧ZU s.tab r [] l=0))∧σ 0=pp p∧σ 7 = .bool again∧Q0 w (VE (.slice a l.length c) l::Qg u.tp s.tab::Qt p u::Qf u.trp s.last s.par::fr)) ?_ ?_
 ·refine QP ?_;refine Ql (fun ms σ w z=>ms=[]∧∃ i:Nat,i≤l.length∧z=l.length - i∧ZU s.tab r (l.take i) (l.drop i)=ZU s.tab r [] l∧σ 0=pp p∧σ 1 = .int .i64 r∧σ 2 = .slice a l.length c∧σ 7 = .bool false∧σ 17 = .slice a l.length c∧σ 18 = .int .i64 l.length∧σ 19 = .int .i64 i∧Q0 w (VE (.slice a l.length c) l::Qg u.tp s.tab::Qt p u::Qf u.trp s.last s.par::fr)) (m:=l.length) ⟨rfl,0,by omega,by omega,rfl,rfl,rfl,rfl,rfl,rfl,rfl,rfl,H⟩ ?_;clear H;rintro ms σ w z ⟨rfl,i,hi,rfl,hch,g0,g1,g2,g7,g17,g18,g19,H⟩;rw[Q1 g0,Q1 g1,Q1 g2,Q1 g7,Q1 g17,Q1 g18,Q1 g19];refine J8 H ?_;refine Qj rfl (fun h=>QD ?_) (fun h=>Qp ?_)
  ·have hlt:i < l.length:=by omega
   have hx:=getElem?_eq_getElem hlt;have htk:l.take (i+1)=l.take i++[l[i]]:=by rw[take_add_one,hx];rfl
   rw[drop_eq_getElem_cons hlt] at hch;generalize l[i]=t at hx htk hch;obtain⟨k,n⟩:=t;obtain⟨bT,sT,rfl,H,hcap,_,hcl⟩:=Z2 H (by omega);refine BO H ?_;refine Jd ?_;refine Q5 rfl (VA H rfl (Kv hx) rfl ?_);refine VZ H ?_;clear H;intro b9 w H;refine DP H ?_;clear H;intro w H;refine J2 H ?_;replace H:Q0 w (pts b9 (row 62 [.int .i64 k,.int .i64 n])::pts bT (row 62 (ZI l++sT))::Qg u.tp s.tab::Qt p u::Qf u.trp s.last s.par::fr):=H;obtain⟨e1,e2,h1,h2,e4,hsh⟩:=CL (QS s.tab k n);refine J6 H ?_
   refine Qk (fun ms σ w=>ms=[]∧∃ b10,σ 0=pp p∧σ 1 = .int .i64 r∧σ 2 = .slice (some ⟨bT,0,none⟩) l.length c∧σ 7 = .bool false∧σ 8 = .int .i64 i∧σ 9=pp b9∧σ 10=pp b10∧σ 11 = .int .i64 e4∧σ 17 = .slice (some ⟨bT,0,none⟩) l.length c∧σ 18 = .int .i64 l.length∧σ 19 = .int .i64 i ∧
    Q0 w (Qg u.tp s.tab::pts b10 (row 78 [.int .i64 e1,.int .i64 e2,.bool h1,.bool h2])::pts b9 (row 62 [.int .i64 k,.int .i64 n])::pts bT (row 62 (ZI l++sT))::Qt p u::Qf u.trp s.last s.par::fr)) ?_ ?_
   ·replace H:=Js [2,0,0,0,0] 0 H;refine J1 H ?_;clear H;intro w H;refine RJ H ?_;refine Jw 5 9 H rfl rfl (Qy (a:=[]) (b:=[]) rfl rfl (call (Ya u.tp s.tab k n H) ?_)) (VN H rfl ?_)
    ·clear H;rintro v w ⟨rfl,H⟩;rw[hsh];refine RL H ?_;clear H;intro b10 w H;refine RM H ?_;clear H;intro w H;refine GM H ?_;replace H:=Js [1,0,0,0,0,0] 0 H;exact⟨rfl,rfl,b10,rfl,rfl,rfl,rfl,rfl,rfl,rfl,rfl,rfl,rfl,rfl,H⟩
    ·clear H;intro b10 w H;refine Jo 5 H ?_;refine Jk rfl rfl (Ya u.tp s.tab k n H.swap) ?_;clear H;rintro v w ⟨rfl,H⟩;rw[hsh];refine RN H ?_;clear H;intro w H;refine GM H ?_;exact⟨rfl,rfl,b10,rfl,rfl,rfl,rfl,rfl,rfl,rfl,rfl,rfl,rfl,rfl,H⟩
   clear H;rintro ms σ w ⟨rfl,b10,g0,g1,g2,g7,g8,g9,g10,g11,g17,g18,g19,H⟩;rw[Q1 g0,Q1 g1,Q1 g2,Q1 g7,Q1 g8,Q1 g9,Q1 g10,Q1 g11,Q1 g17,Q1 g18,Q1 g19];cases hL:QS s.tab k n with
   | none=>
    have hv:Qn s.tab k n=none:=by unfold Qn;rw[hL]
    rw[FP hv] at hch;rw[hL] at hsh;cases hsh;refine WW H ?_;refine KJ H ?_;refine E1 H ?_;replace H:=Js [3,0,2,2] 2 H;replace H:=hcl _ _ _ rfl H;replace H:=Js [1,1,1,0] 0 H;exact Q3 (.inr ⟨by simp,Jy H rfl fun w' H'=>⟨by rw[hfail 8 (by decide) hch.symm];rfl,H'⟩⟩)
   | some q=>
    obtain⟨k',e⟩:=q;obtain⟨n',hn1,hn2,hk⟩:=Y9.1 hL;obtain rfl:k=k':=by omega
    obtain rfl:n=n':=by omega
    rw[hL] at hsh;cases hsh;cases hh:e.held with
    | false=>
     have hv:Qn s.tab k n=none:=by unfold Qn;rw[hL];show (if e.held=true then some (k,e) else none)=none;rw[hh];rfl
     rw[FP hv] at hch;rw[hh] at H;refine WW H ?_;refine U9 H ?_;refine E1 H ?_;replace H:=Js [3,0,2,2] 2 H;replace H:=hcl _ _ _ rfl H;replace H:=Js [1,1,1,0] 0 H;exact Q3 (.inr ⟨by simp,Jy H rfl fun w' H'=>⟨by rw[hfail 8 (by decide) hch.symm];rfl,H'⟩⟩)
    | true=>
     have hv:Qn s.tab k n=some (k,e):=XJ.2 ⟨hL,hh⟩;rw[JV hv] at hch;rw[hh] at H;refine WW H ?_;refine U9 H ?_;refine KC H ?_;refine KE H ?_;refine AK H ?_;by_cases hr:e.region=r
     ·rw[show (e.region != r)=false by rw[hr];simp];rw[if_neg (by simpa using hr)] at hch;refine Bv H ?_;refine AM H ?_;cases hp:e.pinned with
      | true=>
       rw[hp,if_pos rfl] at hch;refine YC H ?_;replace H:=Js [3,0,2,2] 2 H;replace H:=hcl _ _ _ rfl H;replace H:=Js [1,1,1,0] 0 H;exact Q3 (.inr ⟨by simp,Jy H rfl fun w' H'=>⟨by rw[hfail 13 (by decide) hch.symm];rfl,H'⟩⟩)
      | false=>
       rw[hp,if_neg (by decide)] at hch;refine AC H ?_;refine Q5 rfl (Sc rfl rfl (by omega) (by omega) rfl ?_);rw[Int.toNat_natCast];refine Gx H ?_;replace H:=Js [3,0,1,1,1] 1 H;refine G1 H ?_
       refine Ql (fun ms σ w z=>ms=[]∧∃ j:Nat,j≤i∧z=i - j∧(∀ x∈l.take j,x≠(k,n))∧σ 0=pp p∧σ 1 = .int .i64 r∧σ 2 = .slice (some ⟨bT,0,none⟩) l.length c∧σ 7 = .bool false∧σ 9=pp b9∧σ 17 = .slice (some ⟨bT,0,none⟩) l.length c∧σ 18 = .int .i64 l.length∧σ 19 = .int .i64 i∧σ 51 = .slice (some ⟨bT,0,none⟩) i c∧σ 52 = .int .i64 i∧σ 53 = .int .i64 j ∧
        Q0 w (pts bT (row 62 (ZI l++sT))::Qg u.tp s.tab::pts b9 (row 62 [.int .i64 k,.int .i64 n])::Qt p u::Qf u.trp s.last s.par::fr)) (m:=i) ⟨rfl,0,by omega,by omega,(fun x hx=>by simp at hx),rfl,rfl,rfl,rfl,rfl,rfl,rfl,rfl,rfl,rfl,rfl,H⟩ ?_
       clear H;rintro ms σ w z ⟨rfl,j,hj,rfl,hno,g0,g1,g2,g7,g9,g17,g18,g19,g51,g52,g53,H⟩;rw[Q1 g0,Q1 g1,Q1 g2,Q1 g7,Q1 g9,Q1 g17,Q1 g18,Q1 g19,Q1 g51,Q1 g52,Q1 g53];refine J8 H ?_;refine Qj rfl (fun h=>QD ?_) (fun h=>Qp ?_)
       ·have hjl:j < i:=by omega
        have hy:=getElem?_eq_getElem (l:=l) (i:=j) (by omega);have htj:l.take (j+1)=l.take j++[l[j]]:=by rw[take_add_one,hy];rfl
        generalize l[j]=y at hy htj;obtain⟨k2,n2⟩:=y;refine YB H ?_;refine Jd ?_;refine Q5 rfl (VA H rfl (Kv hy) rfl ?_);refine VZ H ?_;clear H;intro b13 w H;refine J5 H ?_;clear H;intro w H;refine EF H ?_;refine AV H ?_;refine Qj (p:=(((k2:Nat):Int),((n2:Nat):Int))=(((k:Nat):Int),((n:Nat):Int))) rfl (fun he=>?_) (fun he=>QD ?_)
        ·have hkn:(k2,n2)=(k,n):=by
          injection he with e1 e2
          exact Prod.ext (by show k2=k;omega) (by show n2=n;omega)
         rw[hkn] at hy;rw[if_pos (mem_of_getElem? (i:=j) (by rw[getElem?_take_of_lt hjl];exact hy))] at hch;refine VF H ?_;refine Qp ?_;replace H:=Js [1,1,2,2] 2 H;replace H:=hcl _ _ _ rfl H;exact .inl ⟨rfl,rfl,true,.inl ⟨rfl,hch.symm⟩,rfl,rfl,H⟩
        ·refine J4 H ?_;refine⟨_,⟨rfl,j+1,hjl,rfl,(fun x hx=>?_),rfl,rfl,rfl,rfl,rfl,rfl,rfl,rfl,rfl,rfl,Qc (by omega),H.drop⟩,by omega⟩;rw[htj] at hx
         rcases mem_append.1 hx with hx|hx
         ·exact hno x hx
         ·rw[mem_singleton] at hx;subst hx;intro h;injection h with e1 e2
          exact he (by rw[e1,e2])
       ·obtain rfl:j=i:=by omega
        rw[if_neg (fun h=>hno _ h rfl),← htk] at hch;refine J4 H ?_;replace H:=Js [0,0,1,1] 1 H;replace H:=hcl _ _ _ rfl H;exact⟨_,⟨rfl,j+1,hlt,rfl,hch,rfl,rfl,rfl,rfl,rfl,rfl,Qc (by omega),H⟩,by omega⟩
     ·rw[show (e.region != r)=true by simpa using hr];rw[if_pos hr] at hch;refine YC H ?_;replace H:=Js [3,0,2,2] 2 H;replace H:=hcl _ _ _ rfl H;replace H:=Js [1,1,1,0] 0 H;exact Q3 (.inr ⟨by simp,Jy H rfl fun w' H'=>⟨by rw[hfail 15 (by decide) hch.symm];rfl,H'⟩⟩)
  ·obtain rfl:i=l.length:=by omega
   rw[drop_length] at hch;exact .inl ⟨rfl,rfl,false,.inr ⟨rfl,hch.symm⟩,rfl,rfl,H⟩
 clear H;rintro ms σ w ⟨rfl,again,hag,g0,g7,H⟩;rw[Q1 g0,Q1 g7];refine J6 H ?_;refine Y4 (fun ms σ w=>ms=[]∧Zb s r l=0∧Q0 w (Qg u.tp s.tab::Qt p u::Qf u.trp s.last s.par::VE (.slice a l.length c) l::fr)) ?_ ?_
 ·refine QP ?_;refine J4 H ?_
  rcases hag with ⟨rfl,hch⟩|⟨rfl,hch⟩
  ·refine YC H ?_;replace H:=Js [1,1,1,0] 0 H;exact Q3 (.inr ⟨by simp,Jy H rfl fun w' H'=>⟨by rw[hfail 14 (by decide) hch];rfl,H'⟩⟩)
  ·refine Bv H ?_;replace H:=Js [3,1,1,0] 0 H;refine Yk H ?_;refine Jc rfl rfl (Tz u.trp s.last s.par H) ?_;clear H;rintro v w ⟨rfl,H⟩;refine Jv ?_;by_cases hf:s.par.length=64
   ·rw[show (((s.par.length:Nat):Int) == (64:Int))=true by rw[hf];rfl];refine UM H ?_;replace H:=Js [1,1,0,0] 0 H;exact Q3 (.inr ⟨by simp,Jy H rfl fun w' H'=>⟨by unfold Zb;rw[if_neg h64,hch,if_neg (by decide),if_pos hf];rfl,H'⟩⟩)
   ·rw[show (((s.par.length:Nat):Int) == (64:Int))=false by rw[beq_eq_false_iff_ne];omega];refine Vx H ?_;replace H:=Js [1,1,0,0] 0 H;exact .inl ⟨rfl,rfl,by unfold Zb;rw[if_neg h64,hch,if_neg (by decide),if_neg hf],H⟩
 clear H;rintro ms σ w ⟨rfl,hE,H⟩;refine VF H ?_;exact Q3 (Jy H rfl fun w' H'=>⟨by rw[hE];rfl,H'⟩)
theorem Ov:∀ {l:List (Nat×Nat)},(∀ p∈l,p.2=1)→QR l=l.map (·.1)
 | [],_=>rfl
 | (c,n)::l,h=>by
  have hn:n=1:=h (c,n) mem_cons_self;subst hn;rw[IJ,Ov fun p hp=>h p (mem_cons_of_mem _ hp)];rfl
theorem Ow:∀ own:List Nat,((List.range own.length).filter fun c=>own.getD c 0 == 0).length+(own.filter (· != 0)).length=own.length
 | []=>rfl
 | a::t=>by
  have ih:=Ow t;rw[length_cons,range_succ_eq_map,filter_cons,filter_map,filter_cons];have e1:((fun c=>(a::t).getD c 0 == 0)∘Nat.succ)=fun c=>t.getD c 0 == 0:=rfl;rw[e1];by_cases h:a=0
  ·subst h;rw[if_pos (by rfl),if_neg (by decide),length_cons,length_map];omega
  ·rw[if_neg (by simpa using h),if_pos (by simpa using h),length_cons,length_map];omega
theorem YP.bnd {s:CS} (hw:WF s) {r:Nat} {S T:QF} {Z:List Pl} {mem own' mem':List Nat} (h:YP s r S Z mem own' mem' T):T.parts.length≤63∧(QR T.parts).length=T.parts.length∧T.fin≤1000000∧∀ c∈QR T.parts,c < s.own.length∧s.own.getD c 0=0:=by
 have ho:=hw.own.2;have hone:QR T.parts=T.parts.map (·.1):=Ov fun p hp=>(h.parts p hp).1
 have hin:∀ c∈QR T.parts,c < s.own.length∧s.own.getD c 0=0:=fun c hc=>by
  rw[hone] at hc;obtain⟨p,h1,h2⟩:=mem_map.1 hc;have h3:=(h.parts p h1).2;rw[h2] at h3;exact⟨(List.getElem?_eq_some_iff.1 h3).1,by rw[getD_eq_getElem?_getD,h3];rfl⟩
 have h3:=Ga h.nd (l₂:=List.range s.own.length) (fun c hc=>mem_range.2 (hin c hc).1);rw[length_range] at h3;have h4:(QR T.parts).length=T.parts.length:=by rw[hone,length_map]
 refine⟨by omega,h4,?_,hin⟩;by_cases hf:T.fin=0
 ·omega
 ·obtain⟨c,h5,_,h6⟩:=h.fin hf;have h7:=(List.getElem?_eq_some_iff.1 (h.parts _ h6).2).1;have h7:c < s.own.length:=h7;have:=Nat.mul_le_mul (show c+1≤63 by omega) hw.size.2;omega
theorem fu {a b:List Nat} (h:a.length=b.length) (hg:∀ j,a.getD j 0=b.getD j 0):a=b:=by
 apply ext_getElem h;intro i h1 h2;have:=hg i;rw[getD_eq_getElem?_getD,getD_eq_getElem?_getD,getElem?_eq_getElem h1,getElem?_eq_getElem h2] at this;exact this
theorem YP.undo {s:CS} (hw:WF s) {r:Nat} {S T:QF} {Z:List Pl} {mem own' mem':List Nat} (h:YP s r S Z mem own' mem' T) {own2:List Nat} (h1:own2.length=own'.length) (h2:∀ j,own2.getD j 0=if j∈QR T.parts then 0 else own'.getD j 0):own2=s.own:=by
 obtain⟨_,_,_,hin⟩:=h.bnd hw;refine fu (h1.trans h.ol) fun j=>?_;rw[h2,h.og];by_cases hj:j∈QR T.parts
 ·rw[if_pos hj,(hin j hj).2]
 ·rw[if_neg hj,if_neg hj]
theorem YP.full {s:CS} (hw:WF s) {r:Nat} {S T:QF} {Z:List Pl} {mem own' mem':List Nat} (h:YP s r S Z mem own' mem' T) (hf:∀ a,a+1≤own'.length→own'.getD a 0≠0):s.own.length - (s.own.filter (· != 0)).length≤Z.length:=by
 obtain⟨_,hl,_,hin⟩:=h.bnd hw;have hz:=Ow s.own
 have h1:=Ga (l₁:=(List.range s.own.length).filter fun c=>s.own.getD c 0 == 0) (l₂:=QR T.parts) (List.Pairwise.filter _ nodup_range) (fun c hc=>by
  rw[mem_filter,mem_range] at hc;obtain⟨h2,h3⟩:=hc;have h3:s.own.getD c 0=0:=by simpa using h3
  have h4:=hf c (by rw[h.ol];omega);rw[h.og] at h4;by_cases h5:c∈QR T.parts
  ·exact h5
  ·rw[if_neg h5] at h4;exact absurd h3 h4)
 have:=h.few;omega
theorem YP.own0 {s:CS} (hw:WF s) {r:Nat} (hr:1≤r) {S T:QF} {Z:List Pl} {mem own' mem':List Nat} (h:YP s r S Z mem own' mem' T) {d:Nat} (hd:s.own.getD d 0≠0):own'.getD d 0≠0:=by
 rw[h.og];split
 ·omega
 ·exact hd
theorem YP.img {s:CS} (hw:WF s) {r:Nat} (hr:1≤r) {S T:QF} {Z:List Pl} {mem own' mem':List Nat} (h:YP s r S Z mem own' mem' T) (m:VT s mem) {k g:Nat} {e:Q8} (hk:s.tab[k]? = some ⟨g,some e⟩):XM s.lays s.size mem' own' e.addr e.lay e.count k e.ws.length (QJ s e):=by
 obtain⟨a1,a2,a3,a4,a5,a6,a7⟩:=XN hw m hk;refine⟨a1,a2,a3,a4,?_,by rw[h.ml];exact a6,fun d d1 d2=>h.own0 hw hr (a7 d d1 d2)⟩;obtain⟨x,x1,_,x3⟩:=(hw.obj k g e hk).2.1.2 (e.addr / s.size) (Nat.le_refl _) (Nat.div_le_div_right (by omega));rw[getD_eq_getElem?_getD,h.mg _ x x1 (by omega),← getD_eq_getElem?_getD];exact a5
theorem fw [Q4] (p:Nat) (q:Gb) (s:CS) (k n:Nat) (e:Q8) (hk:s.tab[k]? = some ⟨n,some e⟩) (place:Int) (l:VP) {w:World} {fr:List Q2} (H:Q0 w (RS q.rp s.rem::Qg q.tp s.tab::Qt p q::fr)) :
  Calls Tryz.prog 145 #[pp p,.int .i64 k,.int .i64 place,ZA l] w (ret fun v w'=>Q0 w' (RS q.rp (Ye s k e place l)::Qg q.tp s.tab::Qt p q::fr)):=by
 obtain⟨a1,a2,a3,hkv⟩:=U1 l;rw[hkv];have hnd:=Au H;have hnd0:=hnd;refine QQ Tryz.func145 rfl (by kernel_rfl) ?_;refine J7 H ?_;clear H;intro b7 w H;refine WY H ?_;refine XK H ?_;refine VZ H ?_;clear H;intro b8 w H;refine J5 H ?_;clear H;intro w H;refine J2 H ?_;replace H:=Js [2,0,0,0,0] 0 H;refine J1 H ?_;clear H;intro w H;refine Dy H ?_;refine Jk rfl rfl (CC q.rp s.rem hnd ((k:Int),place) H) ?_;clear H;rintro v w ⟨rfl,H⟩;refine Jx H ?_;replace H:=Js [0,2,2,0,0] 0 H;refine AM H ?_
 have hcase:(a1≠2∧Ye s k e place l=QC s.rem ((k:Int),place))∨∃ a b:Nat,l = .obj a b∧a1=2∧a2=a∧a3=b:=by
  cases l with
  | none=>injection hkv with h;simp at h;exact .inl ⟨by omega,rfl⟩
  | grave=>injection hkv with h;simp at h;exact .inl ⟨by omega,rfl⟩
  | obj a b=>injection hkv with h;simp at h;exact .inr ⟨a,b,rfl,by omega,by omega,by omega⟩
 rcases hcase with ⟨h2,hn⟩|⟨a,b,rfl,rfl,rfl,rfl⟩
 ·rw[show (a1 != 2)=true by simpa using h2];refine VH H ?_;rw[hn];replace H:=Js [0,0,0] 2 H;exact Q3 (Jy H rfl fun w' H'=>H')
 ·refine AC H ?_;replace H:=Js [1,1,0] 0 H;refine Jc rfl rfl (Np p q s.tab k n e hk H) ?_;clear H;rintro v w ⟨rfl,H⟩;refine Ve H ?_;clear H;intro b9 w H;refine J5 H ?_;clear H;intro w H;refine J0 H ?_;obtain⟨e1,e2,h1,h2,e4,hsh⟩:=CL (QS s.tab a b);refine J6 H ?_
  refine Qk (fun ms σ w=>ms=[]∧∃ b11,σ 0=pp p∧σ 7=pp b7∧σ 8=pp b8∧σ 9=pp b9∧σ 11=pp b11∧σ 12 = .int .i64 e4 ∧
    Q0 w (RS q.rp (QC s.rem ((k:Int),place))::Qg q.tp s.tab::Qt p q::pts b11 (row 78 [.int .i64 e1,.int .i64 e2,.bool h1,.bool h2])::pts b9 (row 78 (Vl e))::pts b8 (row 132 [.int .i64 k,.int .i64 place])::pts b7 (row 85 [.int .i64 2,.int .i64 a,.int .i64 b])::fr)) ?_ ?_
  ·replace H:=Js [1,0] 0 H;refine J1 H ?_;clear H;intro w H;refine E9 H ?_;refine HD H ?_;refine Jw 6 10 H rfl rfl (Qy (a:=[]) (b:=[]) rfl rfl (call (Ya q.tp s.tab a b H) ?_)) (VN H rfl ?_)
   ·clear H;rintro v w ⟨rfl,H⟩;rw[hsh];refine EQ H ?_;clear H;intro b11 w H;refine AQ H ?_;clear H;intro w H;refine Xv H ?_;replace H:=Js [4,1,2,0,0,0,0] 0 H;exact⟨rfl,rfl,b11,rfl,rfl,rfl,rfl,rfl,rfl,H⟩
   ·clear H;intro b11 w H;refine Jo 6 H ?_;refine Jk rfl rfl (Ya q.tp s.tab a b H.swap) ?_;clear H;rintro v w ⟨rfl,H⟩;rw[hsh];refine EV H ?_;clear H;intro w H;refine Xv H ?_;replace H:=Js [4,0,2,0,0,0,0] 0 H;exact⟨rfl,rfl,b11,rfl,rfl,rfl,rfl,rfl,rfl,H⟩
  ·clear H;rintro ms σ w ⟨rfl,b11,g0,g7,g8,g9,g11,g12,H⟩;rw[Q1 g0,Q1 g7,Q1 g8,Q1 g9,Q1 g11,Q1 g12];cases hL:QS s.tab a b with
   | none=>
    have hn:Ye s k e place (.obj a b)=QC s.rem ((k:Int),place):=IY hL;rw[hL] at hsh;cases hsh;rw[hn];refine Vc H ?_;refine AR H ?_;refine Qw rfl rfl rfl ?_;refine Vx H ?_;replace H:=Js [0,0,0] 4 H;exact Y6 _ (.inl rfl) H rfl fun w' H'=>H'
   | some x=>
    obtain⟨kk,f⟩:=x;rw[hL] at hsh;cases hsh;refine Vc H ?_;refine Ur H ?_;refine U9 H ?_;by_cases hr:f.region=e.region
    ·have hn:Ye s k e place (.obj a b)=QC s.rem ((k:Int),place):=by rw[Cc hL];exact if_neg (by simpa using hr)
     rw[hn,show (f.region != e.region)=false by simpa using hr];refine Vx H ?_;replace H:=Js [0,0,0] 4 H;exact Y6 _ (.inl rfl) H rfl fun w' H'=>H'
    ·have hn:Ye s k e place (.obj a b)=Vw (QC s.rem ((k:Int),place)) ((k:Int),place) (a:Int):=by rw[Cc hL];exact if_pos hr
     rw[hn,show (f.region != e.region)=true by simpa using hr];refine XE H ?_;have hnd:=Au H;refine J1 H ?_;clear H;intro w H;refine C3 H ?_;refine VB 4 [8] H rfl (Q7.none rfl) rfl (by repeat first|exact .nil _|apply Q9.cons rfl) (by kernel_rfl) ?_;refine Jf 5 ?_;refine Jf 6 ?_;refine Jl 7 [8] H ?_;refine Jo 8 H ?_;refine Jk rfl rfl (Mp q.rp _ hnd ((k:Int),place) a H) ?_;clear H;rintro v w ⟨rfl,H⟩;refine Jx H ?_
     have he:QC (QC s.rem ((k:Int),place)) ((k:Int),place)=QC s.rem ((k:Int),place):=by
      refine BX ?_;intro hmem;exact absurd rfl ((BK hnd0).1 hmem).1
     rw[he] at H;replace H:=Js [0,0,0] 4 H;exact Y6 _ (.inl rfl) H rfl fun w' H'=>H'
set_option maxRecDepth 10000 in
theorem gQ [Q4] (p:Nat) (s:CS) (R0 R:List (Rf×Int)) (D:List Rf) (hD:ZH s R0 D R) (k g:Nat) (e:Q8) (hk:s.tab[k]? = some ⟨g,some e⟩) {w:World} {fr:List Q2} (H:Q0 w (QW p { s with rem:=R }::fr)) :
  Calls Tryz.prog 119 #[pp p,.int .i64 k] w (ret fun v w'=>v = .tuple #[]∧∃ R',ZH s R0 (D++Wg s k e) R'∧Q0 w' (QW p { s with rem:=R' }::fr)):=by
 refine QQ Tryz.func119 rfl (by kernel_rfl) ?_;refine Yv H ?_;clear H;intro b2 w H;refine KO H ?_;clear H;intro b3 w H;refine J2 H ?_;replace H:=Js [2,0,0] 0 H;refine C4 H ?_;refine Jc rfl rfl (NA p { s with rem:=R } k g e hk H) ?_;clear H;rintro v w ⟨rfl,H⟩;refine Ve H ?_;clear H;intro b4 w H;refine J5 H ?_;clear H;intro w H;refine Yl H ?_;replace H:=Js [1,0] 0 H;obtain⟨q,mem,hw,hm,H⟩:=Vz H;dsimp only at H;have hws:WF s:=Am hw s.rem;have hms:VT s mem:=Ex hm s.rem;refine J1 H ?_;clear H;intro w H;refine Jl 0 [6] H ?_;refine G4 H ?_;refine Jl 3 [6] H ?_;refine Jf 4 ?_;refine Jl 5 [6] H ?_;refine Jo 6 H ?_;refine Jk rfl rfl (NC q.ip e.addr H) ?_;clear H;rintro v w ⟨bm,ba,rfl,H⟩;refine Jx H ?_;refine J6 H ?_;refine QP (Xn (a:=[]) (b:=[pp bm,pp ba]) H rfl (fun yl D2 w H=>?_));generalize hL:LR _ yl _ _ _ _ D2 .ready=L at H ⊢;obtain⟨J,hJ⟩:∃ J:List Nat→Q2,J=fun ks=>ex fun R1:List (Rf×Int)=>star [prop (ZH s R0 (D++ks.map fun x:Nat=>((k:Int),(x:Int))) R1),L,Qt p q,Qg q.tp s.tab,Qf q.trp s.last s.par,RS q.rp R1,mp (ki .i64) Qo q.sm (s.sps.map VJ),star (s.sps.map (VL q.sp)),mp (ki .i64) Qo q.mm (s.mns.map V0),star (s.mns.map V8),pts b2 (row 45 [pp p]),pts b3 (row 3 [.int .i64 k])]:=⟨_,rfl⟩
 have hin:∀ (ks:List Nat) (R1:List (Rf×Int)) (w:World) (l':List Q2),ZH s R0 (D++ks.map fun x:Nat=>((k:Int),(x:Int))) R1→Q0 w (L::Qt p q::Qg q.tp s.tab::Qf q.trp s.last s.par::RS q.rp R1::mp (ki .i64) Qo q.sm (s.sps.map VJ)::star (s.sps.map (VL q.sp))::mp (ki .i64) Qo q.mm (s.mns.map V0)::star (s.mns.map V8)::pts b2 (row 45 [pp p])::pts b3 (row 3 [.int .i64 k])::l')→Q0 w (J ks::l'):=by
  intro ks R1 w l' h H;rw[hJ];exact Q0.ex.2 ⟨R1,Q0.star.2 (Q0.prop.2 ⟨h,H⟩)⟩
 have hout:∀ (ks:List Nat) (w:World) (l':List Q2),Q0 w (J ks::l')→∃ R1,ZH s R0 (D++ks.map fun x:Nat=>((k:Int),(x:Int))) R1∧Q0 w (L::Qt p q::Qg q.tp s.tab::Qf q.trp s.last s.par::RS q.rp R1::mp (ki .i64) Qo q.sm (s.sps.map VJ)::star (s.sps.map (VL q.sp))::mp (ki .i64) Qo q.mm (s.mns.map V0)::star (s.mns.map V8)::pts b2 (row 45 [pp p])::pts b3 (row 3 [.int .i64 k])::l'):=by
  intro ks w l' H;rw[hJ] at H;obtain⟨R1,H⟩:=Q0.ex.1 H;exact⟨R1,Q0.prop.1 (Q0.star.1 H)⟩
 replace H:=Js [0,3,6,6,6,6,6,6,6,8,7,1,1,1,1,1,0] 1 H;replace H:=hin [] R _ _ (by rw[map_nil,append_nil];exact hD) H;refine call (ND yl bm ba q.ip q.sp q.bp s.size s.lays s.own e.addr e.lay e.count k e.ws.length (QJ s e) (Qx e) (VT s) (fun _ h=>IX hws h hk) J ?_ hms H) ?_
 ·clear H;intro ks z mem' rest w hm' hpre H;obtain⟨R1,hD1,H⟩:=hout _ _ _ H;obtain⟨t,hpre⟩:=hpre;obtain⟨hz1,hz2⟩:=IZ hpre;have hstep:=hD1.step hk hz1 hz2;rw[append_assoc,show [((k:Int),(z:Int))]=[z].map (fun x:Nat=>((k:Int),(x:Int))) from rfl,← map_append] at hstep;have hnote:=fun (w:World) (fr:List Q2) (H:Q0 w (RS q.rp R1::Qg q.tp s.tab::Qt p q::fr))=>fw p q { s with rem:=R1 } k g e hk (z:Int) (Qx e z) H;obtain⟨a1,a2,a3,hkv⟩:=U1 (Qx e z);rw[hkv] at hnote;rw[hkv];subst hL;refine XX (args:=[.int .i64 z,.agg #[.int .i64 a1,.int .i64 a2,.int .i64 a3]]) H rfl rfl ?_;refine VF H ?_;refine Y7 H ?_;clear H;intro b7 w H;refine J5 H ?_;clear H;intro w H;refine J2 H ?_;replace H:=Js [1,0] 0 H;refine⟨rfl,_,H,fun w H=>QP ?_⟩;generalize hLB:LR _ yl _ _ _ _ D2 .busy=LB at H ⊢;replace H:=Js [5,3,2,0,0,0,0,0,0,0,0,0] 0 H;refine C4 H ?_;refine Jv ?_;refine KA H ?_;refine Jc rfl rfl (hnote _ _ H) ?_;clear H;rintro v w H;refine J2 H ?_;subst hLB;replace H:=Js [3,2,1,2,0,1,1,1,1,1,1] 1 H;refine⟨rfl,_,H,fun w H=>⟨rfl,mem',hm',hin _ _ _ _ hstep H⟩⟩
 ·clear H;rintro v w ⟨mem',hm',H⟩;obtain⟨R1,hD1,H⟩:=hout _ _ _ H;subst hL;refine⟨_,H,fun w H=>?_⟩;replace H:=Js [15,0,11,11,11,0,0,0,0,0,0,0] 4 H;exact Kx (ms:=[D2]) _ (.inl rfl) ((Q0.star (k:=[pts D2 (.deferred (some []))])).2 H) rfl fun w' H'=>⟨rfl,R1,hD1,VY (s:={ s with rem:=R1 }) (Am hws R1) (Ex hm' R1) H'⟩
theorem Ox [Q4] (p:Nat) (q:Gb) (ts:List QK) (mk:List (Int×Nat)) (k n:Nat) (e:Q8) (hk:ts[k]? = some ⟨n,some e⟩) (region:Int) (addr b1 b2:Nat) (M1 M2:List Nat) (h1:QY mk e.region=some b1) (h2:QY mk region=some b2)
  (hs1:M1.Pairwise (· < ·)) (hl1:M1.length≤1000) (hs2:M2.Pairwise (· < ·)) (hl2:M2.length≤1000) (hkM:k∉M2) {w:World} {fr:List Q2} (H:Q0 w (Qg q.tp ts::Qt p q::mp (ki .i64) Qo q.mm mk::Qu b1 M1::Qu b2 M2::fr)) :
  Calls Tryz.prog 50 #[pp p,.int .i64 k,.int .i64 region,.int .i64 addr] w (ret fun v w'=>v = .tuple #[]∧Q0 w' (Qg q.tp (ts.set k ⟨n,some { e with region:=region,addr:=addr }⟩)::Qt p q::mp (ki .i64) Qo q.mm mk::Qu b1 (M1.filter (·≠k))::Qu b2 (YO M2 k)::fr)):=by
 have hL:QS ts k n=some (k,e):=Y9.2 ⟨n,rfl,rfl,hk⟩;refine QQ Tryz.func50 rfl (by kernel_rfl) ?_;refine J9 H ?_;refine Jc rfl rfl (IC p q ts k n e hk H) ?_;clear H;rintro v w ⟨rfl,H⟩;refine Ve H ?_;clear H;intro b8 w H;refine VZ H ?_;clear H;intro b9 w H;refine J5 H ?_;clear H;intro w H;refine J5 H ?_;clear H;intro w H;refine J2 H ?_;replace H:=Js [5,0,0,0,0,0,0] 0 H;refine J1 H ?_;clear H;intro w H;refine C3 H ?_;refine Jf 4 ?_;refine Jl 5 [8] H ?_;refine Xl 6 [8] (key:=e.region) H rfl (Q7.none rfl) rfl rfl Vf (by kernel_rfl) ?_;rw[h1];refine Ja 7 ?_;refine Jo 8 H ?_;refine Jk rfl rfl (Nq b1 M1 k hs1 (by omega) H) ?_;clear H;rintro v w ⟨rfl,H⟩;refine Jx H ?_;refine J9 H ?_;refine Uu H ?_;clear H;intro w H;refine Uu H ?_;clear H;intro w H;refine J2 H ?_;replace H:Q0 w (Qu b1 (M1.filter (·≠k))::pts b9 (row 78 (Vl { e with region:=region,addr:=addr }))::pts b8 (row 62 [.int .i64 k,.int .i64 n])::Qg q.tp ts::Qt p q::mp (ki .i64) Qo q.mm mk::Qu b2 M2::fr):=H;replace H:=Js [3,0,0,0,0,0,0] 0 H;refine J1 H ?_;clear H;intro w H;refine Bt H ?_;refine E0 H ?_;refine Bu H ?_;refine Jk rfl rfl (CH q.tp ts k n { e with region:=region,addr:=addr } H) ?_;clear H;intro v w hS
 obtain⟨rfl,H⟩:v = .int .i64 0∧Q0 w (Qg q.tp (ts.set k ⟨n,some { e with region:=region,addr:=addr }⟩)::Qu b1 (M1.filter (·≠k))::pts b9 (row 78 (Vl { e with region:=region,addr:=addr }))::pts b8 (row 62 [.int .i64 k,.int .i64 n])::Qt p q::mp (ki .i64) Qo q.mm mk::Qu b2 M2::fr):=by
  rcases hS with ⟨k2,e2,hL2,hv,H⟩|⟨hL2,_,_⟩
  ·rw[hL] at hL2;injection hL2 with hL2
   injection hL2 with hL2 _
   subst hL2;exact⟨hv,H⟩
  ·rw[hL] at hL2;cases hL2
 refine Jx H ?_;replace H:=Js [6,0,3,3,0,0,0] 0 H;refine V2 H ?_;refine Q5 rfl (G0 (key:=region) H rfl rfl Vf rfl ?_);rw[h2];refine Jv ?_;refine Jc rfl rfl (NJ b2 M2 k hs2 (by omega) hkM H) ?_;clear H;rintro v w ⟨rfl,H⟩;refine J2 H ?_;replace H:=Js [1,1,1,1,0] 2 H;exact Y6 _ (.inl rfl) H rfl fun w' H'=>⟨rfl,H'⟩
theorem mk_nil [Q4] {w:World} {l:List Q2} (H:Q0 w l):Q0 w (mk []::l):=(Q0.star (k:=[])).2 H
theorem gV [Q4] {w:World} {D:Nat} {Ds:List Nat} {l:List Q2} (H:Q0 w (pts D (.deferred (some []))::mk Ds::l)):Q0 w (mk (D::Ds)::l):=
 (Q0.pick (R:=fun D=>pts D (.deferred (some []))) (x:=D) (gs:=D::Ds) (g1:=[]) (g2:=Ds) rfl).2 H
def Wo (s:CS) (k:Nat):List Rf:=match s.tab[k]? with
 | some ⟨_,some e⟩=>Wg s k e
 | _=>[]
theorem JZ {s:CS} {k g:Nat} {e:Q8} (hk:s.tab[k]? = some ⟨g,some e⟩):Wo s k=Wg s k e:=by
 unfold Wo;rw[hk]
def B6 (s:CS) (ids:List Int) (D:List Rf):Prop:=∀ r,r∈D↔∃ (k g:Nat) (e:Q8),s.tab[k]? = some ⟨g,some e⟩∧e.region∈ids∧r∈Wg s k e
theorem B6.step {s:CS} {ids:List Int} {D:List Rf} (h:B6 s ids D) {x:Int} {M:List Nat} (hM:∀ i,i∈M↔∃ g e,s.tab[i]? = some ⟨g,some e⟩∧e.region=x):B6 s (ids++[x]) (D++M.flatMap (Wo s)):=by
 intro r;rw[mem_append,h r,mem_flatMap];constructor
 ·rintro(⟨k,g,e,h1,h2,h3⟩|⟨k,h1,h2⟩)
  ·exact⟨k,g,e,h1,mem_append.2 (.inl h2),h3⟩
  ·obtain⟨g,e,h3,h4⟩:=(hM k).1 h1;rw[JZ h3] at h2;exact⟨k,g,e,h3,mem_append.2 (.inr (mem_singleton.2 h4)),h2⟩
 ·rintro⟨k,g,e,h1,h2,h3⟩
  rcases mem_append.1 h2 with h2|h2
  ·exact .inl ⟨k,g,e,h1,h2,h3⟩
  ·rw[mem_singleton] at h2;exact .inr ⟨k,(hM k).2 ⟨g,e,h1,h2⟩,by rw[JZ h1];exact h3⟩
set_option maxRecDepth 10000 in
theorem Oy [Q4] (p:Nat) (s:CS) (R0:List (Rf×Int)) (hR0:(R0.map (·.1)).Nodup) (v:Value) (ids:List Int) (hids:∀ x∈ids,x∈s.mns.map (·.1)) (hl:ids.length≤1000) {w:World} {fr:List Q2} (H:Q0 w (IL v ids::QW p { s with rem:=R0 }::fr)) :
  Calls Tryz.prog 51 #[pp p,v] w (ret fun x w'=>x = .tuple #[]∧∃ D R',B6 s ids D∧ZH s R0 D R'∧Q0 w' (QW p { s with rem:=R' }::fr)):=by
 obtain⟨a,c,rfl⟩:=QE H (Vo ids) (by decide);refine QQ Tryz.func51 rfl (by kernel_rfl) ?_;refine Yv H ?_;clear H;intro b2 w H;refine J2 H ?_;refine Xu H ?_;replace H:=Js [1,1,0] 0 H;replace H:=mk_nil H;replace H:=Js [1,1,1,0] 0 H;refine Qk (fun ms σ w=>∃ D R',B6 s ids D∧ZH s R0 D R'∧Q0 w (mk ms::QW p { s with rem:=R' }::fr)) ?_ ?_
 ·refine QP ?_;refine Ql (fun ms σ w z=>∃ (i:Nat) (D:List Rf) (R':List (Rf×Int)),i≤ids.length∧z=ids.length - i∧B6 s (ids.take i) D∧ZH s R0 D R'∧σ 2=pp b2∧σ 7 = .slice a ids.length c∧σ 8 = .int .i64 ids.length∧σ 9 = .int .i64 i∧Q0 w (IL (.slice a ids.length c) ids::QW p { s with rem:=R' }::pts b2 (row 45 [pp p])::mk ms::fr)) (m:=ids.length) ⟨0,[],R0,by omega,by omega,(fun r=>⟨fun h=>(by cases h),fun ⟨k,g,e,_,h,_⟩=>(by cases h)⟩),ZH.start hR0,rfl,rfl,rfl,rfl,H⟩ ?_;clear H;rintro ms σ w z ⟨i,D,R',hi,rfl,hD,hN,g2,g7,g8,g9,H⟩;rw[Q1 g2,Q1 g7,Q1 g8,Q1 g9];refine J8 H ?_;refine Qj rfl (fun h=>QD ?_) (fun h=>Qp ?_)
  ·have hlt:i < ids.length:=by omega
   have hx:=getElem?_eq_getElem hlt;have htk:ids.take (i+1)=ids.take i++[ids[i]]:=by rw[take_add_one,hx];rfl
   have hxi:=hids _ (getElem_mem hlt);generalize ids[i]=x at hx htk hxi;obtain⟨bT,sT,rfl,H,hcl⟩:=V3 H (by omega);refine YB H ?_;refine Jd ?_;refine Q5 rfl (QB H rfl (by simpa using Ue hx) rfl ?_);refine J0 H ?_;replace H:=hcl _ _ H;replace H:=Js [1,0] 0 H;obtain⟨q,mem,hw,hm,H⟩:=Vz H;dsimp only at H;have hws:WF s:=Am hw s.rem;obtain⟨b1,hkM⟩:=Kj (l:=s.mns) (f:=fun x=>x.1) (g:=fun x=>x.2.1) (k:=x) hxi;obtain⟨⟨r2,b1',M⟩,m1,m2,hmns,hs3,hs4⟩:=Ki hkM;obtain rfl:r2=x:=hs3;obtain rfl:b1'=b1:=hs4;have hkM':QY (s.mns.map V0) r2=some b1':=hkM;have hMm:=hws.mine (r2,b1',M) (by rw[hmns];simp)
   have hMl:M.length≤64:=by
    have:=Rm M 0 64 (fun y hy=>⟨Nat.zero_le _,by
     obtain⟨g,f,h3,_⟩:=(hMm.2 y).1 hy;have h4:=(List.getElem?_eq_some_iff.1 h3).1;have:=hws.slots.2;omega⟩) hMm.1
    omega
   refine Uz H ?_;refine Q5 rfl (G0 (key:=r2) H rfl rfl Vf rfl ?_);rw[hkM'];replace H:=Js [10,0,0,0,0,0,0,0,0,0,0] 0 H;replace H:Q0 w (Qu b1' M::star ((m1++m2).map V8)::_):=(Q0.pick (R:=V8) (x:=(r2,b1',M)) hmns).1 H;refine Jc rfl rfl (FU b1' M (by omega) H) ?_;clear H;rintro v w ⟨bv,av,cv,rfl,H⟩;replace H:=Js [2,2,0,0] 0 H;replace H:=(Q0.pick (R:=V8) (x:=(r2,b1',M)) hmns).2 H;replace H:=Js [3,3,3,3,3,3,3,3,3,3,0,0,0] 0 H;replace H:=VY (s:={ s with rem:=R' }) hw hm H;refine J2 H ?_;replace H:=Js [0,3,0,0,0,0] 0 H;refine J6 H ?_;refine Qk (fun ms' σ w=>∃ (D2:Nat) (R2:List (Rf×Int)),ms'=D2::ms∧ZH s R0 (D++M.flatMap (Wo s)) R2∧σ 2=pp b2∧σ 7 = .slice (some ⟨bT,0,none⟩) ids.length c∧σ 8 = .int .i64 ids.length∧σ 9 = .int .i64 i∧Q0 w (QW p { s with rem:=R2 }::pts b2 (row 45 [pp p])::pts D2 (.deferred (some []))::IL (.slice (some ⟨bT,0,none⟩) ids.length c) ids::mk ms::fr)) ?_ ?_
   ·refine QP (Xn (a:=[]) (b:=[pp bv]) H rfl (fun yl D2 w H=>?_));generalize hL:LR _ yl _ _ _ _ D2 .ready=LRR at H ⊢;obtain⟨J,hJ⟩:∃ J:List Nat→Q2,J=fun ks=>ex fun R1:List (Rf×Int)=>star [prop (ZH s R0 (D++ks.flatMap (Wo s)) R1),LRR,QW p { s with rem:=R1 },pts b2 (row 45 [pp p])]:=⟨_,rfl⟩
    have hin:∀ (ks:List Nat) (R1:List (Rf×Int)) (w:World) (l':List Q2),ZH s R0 (D++ks.flatMap (Wo s)) R1→Q0 w (LRR::QW p { s with rem:=R1 }::pts b2 (row 45 [pp p])::l')→Q0 w (J ks::l'):=by
     intro ks R1 w l' h H;rw[hJ];exact Q0.ex.2 ⟨R1,Q0.star.2 (Q0.prop.2 ⟨h,H⟩)⟩
    have hout:∀ (ks:List Nat) (w:World) (l':List Q2),Q0 w (J ks::l')→∃ R1,ZH s R0 (D++ks.flatMap (Wo s)) R1∧Q0 w (LRR::QW p { s with rem:=R1 }::pts b2 (row 45 [pp p])::l'):=by
     intro ks w l' H;rw[hJ] at H;obtain⟨R1,H⟩:=Q0.ex.1 H;exact⟨R1,Q0.prop.1 (Q0.star.1 H)⟩
    replace H:=Js [0,1,1,1,1,0,0,0] 0 H;replace H:=hin [] R' _ _ (by rw[flatMap_nil,append_nil];exact hN) H;refine call (FX yl bv av cv M (by omega) J ?_ H) ?_
    ·clear H;intro ks k tt rest w hpre H;obtain⟨R1,hN1,H⟩:=hout _ _ _ H;obtain⟨g,e,hk,_⟩:=(hMm.2 k).1 (by rw[hpre];simp);subst hL;refine XX (args:=[.int .i64 k]) H rfl rfl ?_;refine VF H ?_;refine⟨rfl,_,H,fun w H=>QP ?_⟩;generalize hLB:LR _ yl _ _ _ _ D2 .busy=LB at H ⊢;replace H:=Js [1,0] 0 H;refine Ux H ?_;refine Jc rfl rfl (gQ p s R0 R1 _ hN1 k g e hk H) ?_;clear H;rintro v w ⟨rfl,R2,hN2,H⟩;refine J2 H ?_;subst hLB;replace H:=Js [1,0,0] 0 H;refine⟨rfl,_,H,fun w H=>⟨rfl,hin _ _ _ _ ?_ H⟩⟩;rw[flatMap_append,flatMap_cons,flatMap_nil,append_nil,JZ hk,← append_assoc];exact hN2
    ·clear H;rintro v w H;obtain⟨R1,hN1,H⟩:=hout _ _ _ H;subst hL;refine⟨_,H,fun w H=>?_⟩;replace H:=Js [0,0,2,2,2] 2 H;exact⟨rfl,D2,R1,rfl,hN1,rfl,rfl,rfl,rfl,H⟩
   clear H;rintro ms' σ w ⟨D2,R2,rfl,hN2,g2,g7,g8,g9,H⟩;rw[Q1 g2,Q1 g7,Q1 g8,Q1 g9];refine J4 H ?_;replace H:=Js [2,3,2,0,0] 0 H;replace H:=gV H;replace H:=Js [1,1,1,0] 0 H;exact⟨_,⟨i+1,_,R2,hlt,rfl,by rw[htk];exact hD.step hMm.2,hN2,rfl,rfl,rfl,Qc (by omega),H⟩,by omega⟩
  ·have hge:i=ids.length:=by omega
   subst hge;rw[take_length] at hD;replace H:=Js [3,1] 2 H;exact⟨rfl,D,R',hD,hN,H⟩
 clear H;rintro ms σ w ⟨D,R',hD,hN,H⟩;exact Kx (ms:=ms) _ (.inl rfl) H rfl fun w' H'=>⟨rfl,D,R',hD,hN,H'⟩
end Go.Proofs.YtbnnnljagkjpiaaGreatDoor
