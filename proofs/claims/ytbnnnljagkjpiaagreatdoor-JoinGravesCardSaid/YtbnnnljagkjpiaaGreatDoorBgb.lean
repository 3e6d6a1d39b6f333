/- Cells: what is proved on the way: every input of the statement; no condition. Texts joined: SlD SlE SlF. -/
import Derived.Test.YtbnnnljagkjpiaaGreatDoorBga
import Derived.Laws.StructEq
set_option linter.unusedVariables false
set_option linter.unusedSimpArgs false
namespace Go.SL
open List
section
variable {P:Program} {n:Nat} {r:Option Nat} {ops:Array Oper} {Q:YQ} {ms:List Nat}
def KK (P:Program) (n:Nat) (r:Option Nat) (ops:Array Oper) (i:Nat) (σ:QU) (w:World) (K:QU→World→Prop):Prop:=
 ∃ o,ops[i]? = some o∧((Q7 ops σ o true∧St P n r o σ w K)∨(Q7 ops σ o false∧Qh n o.dst=true∧K (put σ o.dst undef) w))
def hit (D:List Nat) (L:Array Bool):Bool:=D.any fun d=>L.getD d false
def Vj (ivs:List (List Nat×(World→Prop))) (L:Array Bool) (w:World):Prop:=∀ p∈ivs,hit p.1 L=true∨p.2 w
theorem Vj.nil {L:Array Bool} {w:World}:Vj [] L w:=fun _ h=>by cases h
theorem Vj.cons {D:List Nat} {rd:World→Prop} {ivs:List (List Nat×(World→Prop))} {L:Array Bool} {w:World} (h:hit D L=true∨rd w) (t:Vj ivs L w):Vj ((D,rd)::ivs) L w:=fun p hp=>by
 rcases mem_cons.1 hp with rfl|hp
 ·exact h
 ·exact t p hp
def Any (P:Program) (n:Nat) (r:Option Nat) (ops:Array Oper) (ivs:List (List Nat×(World→Prop))) (T:QU→World→Prop):Nat→Array Bool→QU→World→Prop
 | 0,listed,σ,w=>Vj ivs listed w∧Region.ready .any ops listed=[]∧T σ w
 | f+1,listed,σ,w=>Vj ivs listed w∧(Region.ready .any ops listed=[]→T σ w)∧∀ i∈Region.ready .any ops listed,KK P n r ops i σ w (Any P n r ops ivs T f (listed.setIfInBounds i true))
theorem KK.mono {i:Nat} {σ:QU} {w:World} {K K':QU→World→Prop} (h:KK P n r ops i σ w K) (hk:∀ σ w,K σ w→K' σ w):KK P n r ops i σ w K':=by
 obtain⟨o,ho,⟨h1,h2⟩|⟨h1,h2,h3⟩⟩:=h
 ·exact⟨o,ho,.inl ⟨h1,LZ h2 hk⟩⟩
 ·exact⟨o,ho,.inr ⟨h1,h2,hk _ _ h3⟩⟩
theorem KK.sound {i:Nat} {σ:QU} {w:World} {K:QU→World→Prop} {K':Act→World→Prop} (h:KK P n r ops i σ w K) (hk:∀ σ w a,Rel n ms σ a→K σ w→K' a w) {a:Act} (ra:Rel n ms σ a) :
  wpOpIn (F r) 0 P ops (BV n Q) i K' a w:=by
 obtain⟨o,ho,⟨h1,h2⟩|⟨h1,h2,h3⟩⟩:=h
 ·unfold wpOpIn;simp only[ho,h1.wanted ra,if_true];exact Oper.wpIn_mono (fun a' w' ⟨σ',ra',q⟩=>hk σ' w' a' ra' q) (h2 ms a _ ra)
 ·unfold wpOpIn;simp only[ho,h1.wanted ra,Bool.false_eq_true,if_false];exact⟨fun _ _=>trivial,hk _ _ _ (ra.put undef h2) h3⟩
theorem Any.sound {ivs:List (List Nat×(World→Prop))} {T:QU→World→Prop} (hT:∀ σ w,T σ w→Q .normal ms σ w):∀ (f:Nat) (listed:Array Bool) (σ:QU) (w:World) (a:Act),Any P n r ops ivs T f listed σ w→Rel n ms σ a →
  wpAnyIn (F r) 0 P .any ops (BV n Q) f listed a w
 | 0,_,σ,w,a,h,ra=>⟨h.2.1,ms,σ,ra,hT _ _ h.2.2⟩
 | f+1,_,σ,w,a,h,ra=>⟨fun h0=>⟨ms,σ,ra,hT _ _ (h.2.1 h0)⟩,fun i hi=>(h.2.2 i hi).sound (fun σ' w' a' ra' q=>Any.sound hT f _ σ' w' a' q ra') ra⟩
theorem LC {id:Nat} {l:List Oper} {σ:QU} {w:World} (hm:P.follows .mixedOrders=true)
  (h:Any P n r l.toArray [] (fun σ w=>Q .normal ms σ w) l.length (Array.replicate l.length false) σ { w with drawn:=w.drawn+1 }):C P n r (.region id l.toArray true) Q ms σ w:=fun a ra=>
 wpIn_region_any hm (Any.sound (fun _ _ h=>h) _ _ σ _ a (by simpa using h) ra)
def W5 (P:Program) (ops:Array Oper) (Inv:World→Prop) (i:Nat) (σ:QU) (v:Value):Prop:=
 ∃ o,ops[i]? = some o∧(∀ c,o.op ≠ .defer c)∧((Q7 ops σ o true∧∀ w,Inv w→(execOp (ev σ) o).run P w = .ok (.value v) w)∨(Q7 ops σ o false∧v=undef))
theorem W5.op1 {Inv:World→Prop} {i:Nat} {σ:QU} {v:Value} {w:World} {K:QU→World→Prop} (h:W5 P ops Inv i σ v) (hw:Inv w) (hd:Qh n ((ops[i]?).bind (·.dst))=true) (hk:K (put σ ((ops[i]?).bind (·.dst)) v) w) :
  KK P n r ops i σ w K:=by
 obtain⟨o,ho,hdf,h⟩:=h;have ed:(ops[i]?).bind (·.dst)=o.dst:=by rw[ho];rfl
 rw[ed] at hd hk
 rcases h with ⟨h1,h2⟩|⟨h1,rfl⟩
 ·exact⟨o,ho,.inl ⟨h1,V6 hd hdf (h2 w hw) hk⟩⟩
 ·exact⟨o,ho,.inr ⟨h1,hd,hk⟩⟩
theorem LD {σ:QU} {d:Option Tmp} {v:Value} {x:Operand} (h:∀ t,d=some t→x ≠ .tmp t):ev (put σ d v) x=ev σ x:=by
 cases d with
 | none=>rfl
 | some t=>
  cases x with
  | tmp u=>
   have hne:u≠t:=fun e=>h t rfl (by rw[e]);show (bif Nat.beq u t then v else σ u)=σ u;cases hb:Nat.beq u t with
   | false=>rfl
   | true=>exact absurd (Nat.eq_of_beq_eq_true hb) hne
  | const v=>rfl
  | global g=>rfl
  | func f=>rfl
theorem Px {σ:QU} {d e:Nat} {v u:Value} (h:d≠e):Xe (Xe σ d v) e u=Xe (Xe σ e u) d v:=by
 funext j
 unfold Xe;cases h1:Nat.beq j e <;> cases h2:Nat.beq j d <;> try rfl
 exact absurd ((Nat.eq_of_beq_eq_true h2).symm.trans (Nat.eq_of_beq_eq_true h1)) h
theorem LF {σ:QU} {x y:Option Tmp} {v u:Value} (h:∀ d,x=some d→y≠some d):put (put σ x v) y u=put (put σ y u) x v:=by
 cases x with
 | none=>rfl
 | some d=>
  cases y with
  | none=>rfl
  | some e=>exact Px (fun he=>h d rfl (by rw[he]))
theorem LH (o:Oper) (hs:∀ cs b,o.op ≠ .select cs b) (σ:QU) (dst:Option Tmp) (v:Value) (h:∀ d,dst=some d→d∉o.looksAt ops):execOp (ev (put σ dst v)) o=execOp (ev σ) o:=
 execOp_congr o hs fun x hx=>LD fun d hd hxd=>h d hd (by
  subst hxd;exact mem_append_left _ (mem_filterMap.2 ⟨.tmp d,by simpa using hx,rfl⟩))
theorem Py {σ:QU} {d:Option Tmp} {v:Value} {j:Nat} (h:∀ t,d=some t→t∉((ops[j]?).bind (·.dst)).toList):gv ops (put σ d v) j=gv ops σ j:=by
 unfold gv;cases hj:(ops[j]?).bind (·.dst) with
 | none=>rfl
 | some t=>
  have:put σ d v t=σ t:=LD (σ:=σ) (d:=d) (v:=v) (x := .tmp t) (fun u hu e=>h u hu (by rw[hj];cases e;simp));simp only[Option.map_some,this]
theorem DX {o:Oper} {σ:QU} {d:Option Tmp} {v:Value} {t:Bool} (h:∀ u,d=some u→u∉o.looksAt ops):Q7 ops (put σ d v) o t↔Q7 ops σ o t:=by
 unfold Q7;cases hg:o.guard with
 | none=>rfl
 | some jw=>
  obtain⟨j,want⟩:=jw
  have e:gv ops (put σ d v) j=gv ops σ j:=Py (fun u hu hm=>h u hu (by
   unfold Oper.looksAt;rw[hg];exact mem_append_right _ hm))
  simp only[e]
theorem W5.put {Inv:World→Prop} {i j:Nat} {oi oj:Oper} {σ:QU} {v u:Value} (hi:ops[i]? = some oi) (hj:ops[j]? = some oj) (hap:oi.apart ops oj=true) (hsi:∀ cs b,oi.op ≠ .select cs b)
  (h:W5 P ops Inv i σ v):W5 P ops Inv i (put σ oj.dst u) v:=by
 obtain⟨o,ho,hdf,h⟩:=h;have:o=oi:=Option.some.inj (ho.symm.trans hi);subst this;obtain⟨h1,h2,h3⟩:=Oper.apart_spec hap;refine⟨o,ho,hdf,?_⟩
 rcases h with ⟨a,b⟩|⟨a,b⟩
 ·exact .inl ⟨(DX h3).2 a,fun w hw=>by rw[LH (ops:=ops) o hsi σ oj.dst u h3];exact b w hw⟩
 ·exact .inr ⟨(DX h3).2 a,b⟩
theorem Pz {oi oj:Oper} {σ:QU} {v:Value} {w:World} {K:QU→World→Prop} (hap:oi.apart ops oj=true) (hsj:∀ cs b,oj.op ≠ .select cs b) (hdj:∀ c,oj.op ≠ .defer c)
  (hd:Qh n oi.dst=true) (hd':Qh n oj.dst=true) (h:St P n r oj (put σ oi.dst v) w K):St P n r oj σ w (fun σ' w'=>∃ u,σ'=put σ oj.dst u∧K (put σ' oi.dst v) w'):=fun ms a Q ra=>by
 obtain⟨h1,h2,h3⟩:=Oper.apart_spec hap;have h:=(h ms (a.put oi.dst v) (fun _ _ _=>False) (ra.put v hd)).2;refine⟨fun _ _=>trivial,?_⟩;have ra':=ra.put v hd;rw[Oper.semAt_eq _ _ _ hdj,ra'.eval,LH (ops:=ops) oj hsj σ oi.dst v h1] at h;rw[Oper.semAt_eq _ _ _ hdj,ra.eval]
 have hok:∀ (u:Value) (w':World),(∃ σ',Rel n ms σ' ((a.put oi.dst v).put oj.dst u)∧K σ' w')→∃ σ',Rel n ms σ' (a.put oj.dst u)∧∃ u',σ'=put σ oj.dst u'∧K (put σ' oi.dst v) w':=by
  rintro u w' ⟨σ',ra2,hk⟩;have ra3:=(ra.put v hd).put u hd'
  have e:σ'=put (put σ oi.dst v) oj.dst u:=by
   funext i
   rw[← ra2.val,← ra3.val]
  subst e;refine⟨_,ra.put u hd',u,rfl,?_⟩;rw[← LF h2];exact hk
 generalize (execOp (ev σ) oj).run P w=XY at *;cases XY with
 | ok x w'=>
  cases x <;> simp only[Oper.uponIn] at h ⊢
  case value u=>exact hok u w' h
  case skip=>exact hok undef w' h
  case defer d=>
   obtain⟨σ',ra2,_⟩:=h;have e1:=ra2.defs;have e2:=ra'.defs;exfalso
   have e3:(d::(a.put oi.dst v).defers)=Fj ms:=by
    rw[← e1];cases oj.dst <;> rfl
   rw[e2] at e3;have:=congrArg List.length e3;simp at this
  case enter f args=>
   refine⟨h.1,CallsIn.mono h.2 fun e w'' he=>?_⟩;cases e with
   | returned u=>exact hok u w'' he
   | panicked c=>exact he.elim
   | outgrown=>obtain⟨_,_,q⟩:=he;exact q.elim
  case row row args=>exact⟨h.1,RowsIn.mono h.2 fun u w'' he=>hok u w'' he⟩
  case round l f tmps assign body=>
   refine⟨h.1,RoundIn.mono h.2 fun e w'' he=>?_⟩;cases e with
   | returned u=>exact hok u w'' he
   | panicked c=>exact he.elim
   | outgrown=>obtain⟨_,_,q⟩:=he;exact q.elim
 | halt x w'=>
  cases x <;> simp only[Oper.uponIn] at h ⊢
def DR (n:Nat) (ops:Array Oper):Bool:=ops.toList.all fun o=>Qh n o.dst && (match o.op with | .select _ _=>false | .defer _=>false|_=>true)
theorem DW (h:DR n ops=true) {j:Nat} {o:Oper} (hj:ops[j]? = some o):Qh n o.dst=true∧(∀ cs b,o.op ≠ .select cs b)∧(∀ c,o.op ≠ .defer c):=by
 have hm:o∈ops.toList:=by
  have:=Array.mem_of_getElem? hj;simpa using this
 have:=all_eq_true.1 h o hm;simp only[Bool.and_eq_true] at this;refine⟨this.1,fun cs b e=>?_,fun c e=>?_⟩
 ·have h2:=this.2;rw[e] at h2;cases h2
 ·have h2:=this.2;rw[e] at h2;cases h2
theorem S0 {i j:Nat} {oi:Oper} {σ:QU} {v:Value} {w:World} {K:QU→World→Prop} (hf:DR n ops=true) (hi:ops[i]? = some oi) (hap:∀ oj,ops[j]? = some oj→oi.apart ops oj=true)
  (h:KK P n r ops j (put σ oi.dst v) w K):KK P n r ops j σ w (fun σ' w'=>∃ oj u,ops[j]? = some oj∧σ'=put σ oj.dst u∧K (put σ' oi.dst v) w'):=by
 obtain⟨oj,hj,h⟩:=h;obtain⟨d1,_,_⟩:=DW hf hi;obtain⟨d2,s2,f2⟩:=DW hf hj;have ha:=hap oj hj;obtain⟨h1,h2,h3⟩:=Oper.apart_spec ha;refine⟨oj,hj,?_⟩
 rcases h with ⟨a,b⟩|⟨a,b,c⟩
 ·exact .inl ⟨(DX h1).1 a,LZ (Pz ha s2 f2 d1 d2 b) fun σ' w' ⟨u,e,k⟩=>⟨oj,u,hj,e,k⟩⟩
 ·exact .inr ⟨(DX h1).1 a,b,oj,undef,hj,rfl,by rw[← LF h2];exact c⟩
def tw (ops:Array Oper) (i:Nat):Nat→Nat→Bool
 | 0,_=>false
 | f+1,j=>match ops[j]? with
  | some o=>o.after.any fun e=>Region.binds .any e && (e.on == i || tw ops i f e.on)
  | none=>false
def Wv (ops:Array Oper) (L:Array Bool):Prop:=∀ j oj,ops[j]? = some oj→L.getD j false=true→∀ e∈oj.after,Region.binds .any e=true→L.getD e.on false=true
theorem Wv.set {L:Array Bool} {i:Nat} (h:Wv ops L) (hi:i∈Region.ready .any ops L):Wv ops (L.setIfInBounds i true):=fun j oj hj hl e he hb=>by
 obtain⟨_,oi,hoi,hall⟩:=mem_ready.1 hi;by_cases hij:i=j
 ·subst hij;have:oj=oi:=Option.some.inj (hj.symm.trans hoi);subst this;exact getD_set_true (hall e he hb)
 ·rw[getD_set_ne false hij] at hl;exact getD_set_true (h j oj hj hl e he hb)
theorem LI {i:Nat} {L:Array Bool} (hc:Wv ops L) (hi:L.getD i false=false):∀ (f j:Nat),tw ops i f j=true→L.getD j false=false∧j∉Region.ready .any ops L
 | 0,_,h=>by cases h
 | f+1,j,h=>by
  unfold tw at h;split at h
  ·rename_i o ho;obtain⟨e,he,hb⟩:=Array.any_eq_true'.1 h;simp only[Bool.and_eq_true,Bool.or_eq_true,beq_iff_eq] at hb
   have hun:L.getD e.on false=false:=by
    rcases hb.2 with h3|h3
    ·rw[h3];exact hi
    ·exact(LI hc hi f e.on h3).1
   refine⟨?_,fun hr=>?_⟩
   ·cases hl:L.getD j false with
    | false=>rfl
    | true=>rw[hc j o ho hl e he hb.1] at hun;cases hun
   ·obtain⟨_,o',ho',hall⟩:=mem_ready.1 hr;have:o=o':=Option.some.inj (ho.symm.trans ho');subst this;rw[hall e he hb.1] at hun;cases hun
  ·cases h
theorem Fr {D:List Nat} {L:Array Bool} {j:Nat} (h:hit D L=false) (hj:j∉D):hit D (L.setIfInBounds j true)=false:=by
 unfold hit at *;rw[any_eq_false] at *;intro d hd;have:=h d hd;have hne:j≠d:=fun e=>hj (e▸hd);rw[getD_set_ne false hne];exact this
theorem S3 {D:List Nat} {L:Array Bool} {j:Nat} (h:hit D (L.setIfInBounds j true)=true) (hj:j∉D):hit D L=true:=by
 cases e:hit D L with
 | true=>rfl
 | false=>rw[Fr e hj] at h;cases h
theorem Any.mono {ivs ivs':List (List Nat×(World→Prop))} {T:QU→World→Prop} (hI:∀ p∈ivs,p∈ivs'):∀ (f:Nat) (listed:Array Bool) (σ:QU) (w:World),Any P n r ops ivs' T f listed σ w→Any P n r ops ivs T f listed σ w
 | 0,_,_,w,h=>⟨fun p hp=>h.1 p (hI p hp),h.2⟩
 | f+1,_,_,w,h=>⟨fun p hp=>h.1 p (hI p hp),h.2.1,fun j hj=>(h.2.2 j hj).mono fun σ w=>Any.mono hI f _ σ w⟩
theorem Any.inv {ivs:List (List Nat×(World→Prop))} {T:QU→World→Prop}:∀ {f:Nat} {listed:Array Bool} {σ:QU} {w:World},Any P n r ops ivs T f listed σ w→Vj ivs listed w
 | 0,_,_,_,h=>h.1
 | _+1,_,_,_,h=>h.1
theorem LJ {i:Nat} {L:Array Bool} (h:i∈Region.ready .any ops L):L.getD i false=false:=by
 obtain⟨h0,o,ho,_⟩:=mem_ready.1 h
 rcases Nat.lt_or_ge i L.size with h'|h'
 ·simp[h'] at h0 ⊢;exact h0
 ·simp[Array.getElem?_eq_none h'] at h0
theorem Any.first {ivs:List (List Nat×(World→Prop))} {rd:World→Prop} {T:QU→World→Prop} {i:Nat} {oi:Oper} {v:Value} (D:List Nat)
  (hf:DR n ops=true) (hi:ops[i]? = some oi) (hD:∀ d∈D,d≠i∧tw ops i ops.size d=true) (hiv:∀ p∈ivs,i∉p.1) :
  ∀ (f:Nat) (listed:Array Bool) (σ:QU) (w:World),Wv ops listed→hit D listed=false →
   (∀ j oj,ops[j]? = some oj→j≠i→listed.getD j true=false→(∀ e∈oj.after,Region.binds .any e=true→e.on≠i)→oi.apart ops oj=true) →
   i∈Region.ready .any ops listed→W5 P ops rd i σ v →
   Any P n r ops ((D,rd)::ivs) T f (listed.setIfInBounds i true) (put σ oi.dst v) w→Any P n r ops ivs T (f+1) listed σ w:=by
 have hdi:Qh n ((ops[i]?).bind (·.dst))=true:=by rw[hi];exact(DW hf hi).1
 have edi:(ops[i]?).bind (·.dst)=oi.dst:=by rw[hi];rfl
 have hiD:i∉D:=fun h=>(hD i h).1 rfl;have hsub:∀ p∈ivs,p∈(D,rd)::ivs:=fun p hp=>mem_cons_of_mem _ hp;have hpr:∀ L w,Vj ((D,rd)::ivs) (L.setIfInBounds i true) w→Vj ivs L w:=fun L w h p hp=>(h p (hsub p hp)).imp (fun e=>S3 e (hiv p hp)) id;have hrd:∀ L w,hit D L=false→Vj ((D,rd)::ivs) (L.setIfInBounds i true) w→rd w:=fun L w hh h=>(h (D,rd) (mem_cons_self ..)).resolve_left (by rw[Fr hh hiD];simp);intro f
 induction f with
 | zero=>
  intro listed σ w hc hh _ hr hy H;refine⟨hpr _ w H.inv,fun h=>(by rw[h] at hr;cases hr),fun j hj=>?_⟩;by_cases hji:j=i
  ·subst hji;exact hy.op1 (hrd _ w hh H.inv) hdi (by rw[edi];exact Any.mono hsub _ _ _ _ H)
  ·have:=ready_mono hj hji;rw[H.2.1] at this;cases this
 | succ f ih=>
  intro listed σ w hc hh hfree hr hy H;refine⟨hpr _ w H.inv,fun h=>(by rw[h] at hr;cases hr),fun j hj=>?_⟩;by_cases hji:j=i
  ·subst hji;exact hy.op1 (hrd _ w hh H.inv) hdi (by rw[edi];exact Any.mono hsub _ _ _ _ H)
  ·have hjD:j∉D:=fun h=>(LI hc (LJ hr) _ _ (hD j h).2).2 hj;have h1:=H.2.2 j (ready_mono hj hji);obtain⟨hjun,oj,hoj,hall⟩:=mem_ready.1 hj
   have hnot:∀ e∈oj.after,Region.binds .any e=true→e.on≠i:=fun e he hb heq=>by
    have h1:=hall e he hb;rw[heq,LJ hr] at h1;cases h1
   have hap:=hfree j oj hoj hji hjun hnot;refine(S0 hf hi (fun o ho=>by rw[Option.some.inj (ho.symm.trans hoj)];exact hap) h1).mono ?_;rintro σ' w' ⟨oj',u,hoj',rfl,h3⟩;have ej:oj'=oj:=Option.some.inj (hoj'.symm.trans hoj);subst ej
   have hfree':∀ k ok,ops[k]? = some ok→k≠i→(listed.setIfInBounds j true).getD k true=false →
     (∀ e∈ok.after,Region.binds .any e=true→e.on≠i)→oi.apart ops ok=true:=fun k ok hk hki hun hno=>by
    refine hfree k ok hk hki ?_ hno;by_cases hjk:j=k
    ·subst hjk;exact hjun
    ·rw[getD_set_ne true hjk] at hun;exact hun
   rw[← Array.setIfInBounds_comm _ _ hji] at h3;exact ih (listed.setIfInBounds j true) _ w' (hc.set hj) (Fr hh hjD) hfree' (ready_mono hr (Ne.symm hji)) (hy.put hi hoj hap (DW hf hi).2.1) h3
def LL (ops:Array Oper) (L:Array Bool):Bool:=(List.range ops.size).all fun j => !L.getD j false || match ops[j]? with
 | some o=>o.after.all fun e => !Region.binds .any e || L.getD e.on false
 | none=>true
theorem S4 {L:Array Bool} (h:LL ops L=true):Wv ops L:=fun j oj hj hl e he hb=>by
 have hlt:j < ops.size:=(Array.getElem?_eq_some_iff.1 hj).1;have h1:=all_eq_true.1 h j (mem_range.2 hlt);rw[hl,hj] at h1;simp only[Bool.not_true,Bool.false_or] at h1;have h2:=Array.all_eq_true_iff_forall_mem.1 h1 e he;simpa [hb] using h2
def YX (n:Nat) (ops:Array Oper) (ivs:List (List Nat)) (L:Array Bool) (i:Nat) (D:List Nat):Bool:=
 DR n ops && LL ops L && (D.all fun d=>d != i && tw ops i ops.size d) && !hit D L && Region.free .any ops L i && (Region.ready .any ops L).contains i && ivs.all fun p => !p.contains i
variable {ivs:List (List Nat×(World→Prop))} {T:QU→World→Prop} {f:Nat} {L:Array Bool} {σ:QU} {w:World} {l:List Q2}
theorem BG {o:Oper} {v:Value} {rd:World→Prop} (i:Nat) (D:List Nat) (hi:ops[i]? = some o) (hy:W5 P ops rd i σ v) (hs:YX n ops (ivs.map (·.1)) L i D=true)
  (h:Any P n r ops ((D,rd)::ivs) T f (L.setIfInBounds i true) (put σ o.dst v) w):Any P n r ops ivs T (f+1) L σ w:=by
 simp only[YX,Bool.and_eq_true,Bool.not_eq_true'] at hs;obtain⟨⟨⟨⟨⟨⟨h1,h2⟩,h3⟩,h4⟩,h5⟩,h6⟩,h7⟩:=hs;refine Any.first D h1 hi (fun d hd=>?_) (fun p hp=>?_) f L σ w (S4 h2) h4 (Region.free_spec hi h5) (by simpa using h6) hy h
 ·have:=all_eq_true.1 h3 d hd;simp only[Bool.and_eq_true,bne_iff_ne] at this;exact this
 ·have:=all_eq_true.1 h7 p.1 (mem_map_of_mem hp);simpa using this
theorem U7 {o:Oper} {v:Value} (i:Nat) (hi:ops[i]? = some o) (hg:Q7 ops σ o true) (hdf:∀ c,o.op ≠ .defer c) (hv:∀ w,(execOp (ev σ) o).run P w = .ok (.value v) w) (hs:YX n ops (ivs.map (·.1)) L i []=true) (h:Any P n r ops ivs T f (L.setIfInBounds i true) (put σ o.dst v) w) :
  Any P n r ops ivs T (f+1) L σ w:=
 BG (rd:=fun _=>True) i [] hi ⟨o,hi,hdf,.inl ⟨hg,fun w _=>hv w⟩⟩ hs (Any.mono (ivs:=([],fun _=>True)::ivs) (ivs':=([],fun _=>True)::ivs) (fun _ h=>h) _ _ _ _ (by
  have key:∀ (f:Nat) (L:Array Bool) (σ:QU) (w:World),Any P n r ops ivs T f L σ w→Any P n r ops (([],fun _=>True)::ivs) T f L σ w:=by
   intro f
   induction f with
   | zero=>exact fun L σ w h=>⟨Vj.cons (.inr trivial) h.1,h.2⟩
   | succ f ih=>exact fun L σ w h=>⟨Vj.cons (.inr trivial) h.1,h.2.1,fun j hj=>(h.2.2 j hj).mono fun σ w=>ih _ σ w⟩
  exact key _ _ _ _ h))
theorem Gs {d:Option Tmp} {op:Op} {u:TypeId} {p:String} {af:Array Edge} {g:Option (Nat×Bool)} {v:Value} (i:Nat) (hi:ops[i]? = some ⟨d,op,u,p,af,g⟩) (hg:Q7 ops σ ⟨d,op,u,p,af,g⟩ true) (hv:pv σ op=some v) (hs:YX n ops (ivs.map (·.1)) L i []=true) (h:Any P n r ops ivs T f (L.setIfInBounds i true) (put σ d v) w) :
  Any P n r ops ivs T (f+1) L σ w:=
 U7 i hi hg (LU (o:=⟨d,op,u,p,af,g⟩) hv) (fun _=>LG (o:=⟨d,op,u,p,af,g⟩) hv) hs h
theorem S5 {d:Option Tmp} {op:Op} {u:TypeId} {p:String} {af:Array Edge} {g:Option (Nat×Bool)} (i:Nat) (hi:ops[i]? = some ⟨d,op,u,p,af,g⟩) (hg:Q7 ops σ ⟨d,op,u,p,af,g⟩ false) (hdf:∀ c,op ≠ .defer c) (hs:YX n ops (ivs.map (·.1)) L i []=true) (h:Any P n r ops ivs T f (L.setIfInBounds i true) (put σ d undef) w) :
  Any P n r ops ivs T (f+1) L σ w:=
 BG (rd:=fun _=>True) i [] hi ⟨_,hi,hdf,.inr ⟨hg,rfl⟩⟩ hs (by
  have key:∀ (f:Nat) (L:Array Bool) (σ:QU) (w:World),Any P n r ops ivs T f L σ w→Any P n r ops (([],fun _=>True)::ivs) T f L σ w:=by
   intro f
   induction f with
   | zero=>exact fun L σ w h=>⟨Vj.cons (.inr trivial) h.1,h.2⟩
   | succ f ih=>exact fun L σ w h=>⟨Vj.cons (.inr trivial) h.1,h.2.1,fun j hj=>(h.2.2 j hj).mono fun σ w=>ih _ σ w⟩
  exact key _ _ _ _ h)
theorem LM {o:Oper} {v:Value} {b:Nat} {ob:Obj} (i:Nat) (D:List Nat) (hi:ops[i]? = some o) (hg:Q7 ops σ o true) (hdf:∀ c,o.op ≠ .defer c) (hv:∀ w,w.heap[b]? = some ob→(execOp (ev σ) o).run P w = .ok (.value v) w) (hs:YX n ops (ivs.map (·.1)) L i D=true)
  (h:Any P n r ops ((D,fun w=>w.heap[b]? = some ob)::ivs) T f (L.setIfInBounds i true) (put σ o.dst v) w):Any P n r ops ivs T (f+1) L σ w:=
 BG i D hi ⟨o,hi,hdf,.inl ⟨hg,hv⟩⟩ hs h
theorem BU {o:Oper} (i:Nat) (hi:ops[i]? = some o) (hr:Region.ready .any ops L=[i]) (hI:Vj ivs L w) (hg:Q7 ops σ o true) (h:St P n r o σ w (Any P n r ops ivs T f (L.setIfInBounds i true))):Any P n r ops ivs T (f+1) L σ w:=
 ⟨hI, fun h0 => (by rw [hr] at h0; cases h0), fun j hj => by
  rw[hr] at hj;have:j=i:=by simpa using hj
  subst this;exact⟨o,hi,.inl ⟨hg,h⟩⟩⟩
theorem Fs (hr:Region.ready .any ops L=[]) (hI:Vj ivs L w) (h:T σ w):Any P n r ops ivs T f L σ w:=by
 cases f with
 | zero=>exact⟨hI,hr,h⟩
 | succ f=>exact⟨hI,fun _=>h,fun j hj=>by rw[hr] at hj;cases hj⟩
end
end Go.SL
set_option linter.unusedSectionVars false
namespace Go.SL
open List
class Yi (P:Program) (t:TypeId) (k:outParam TypeId) (e:outParam TypeId):Prop where
 und:P.underlying t=some (.map k e)
structure GB (P:Program) (k:TypeId) {K:Type} (ek:K→Value):Prop where
 inj:∀ a b,ek a=ek b→a=b
 check:∀ (w:World) (em:Bool) (x:K),(Instr.checkKey em 10000 k (ek x)).run P w = .ok () w
 stays:∀ (w:World) (x:K),(Instr.keyThatStays (ek x) (ek x)).run P w = .ok (ek x) w
 find:∀ (w:World) (x:K) (es:List MapEntry) (ks:List K),es.map (·.key)=ks.map ek →
  ((Instr.findKey k (ek x) es).run P w = .ok none w∧x∉ks)∨∃ j e,(Instr.findKey k (ek x) es).run P w = .ok (some (j,e.val)) w∧es[j]? = some e∧ks[j]? = some x
section
variable {K V:Type} [DecidableEq K]
def QY:List (K×V)→K→Option V
 | [],_=>none
 | p::l,x=>if p.1=x then some p.2 else QY l x
def Vw (m:List (K×V)) (x:K) (v:V):List (K×V):=
 match m with
 | []=>[(x,v)]
 | p::l=>if p.1=x then (x,v)::l else p::Vw l x v
def QC:List (K×V)→K→List (K×V)
 | [],_=>[]
 | p::l,x=>if p.1=x then l else p::QC l x
theorem Ft {m:List (K×V)} {x:K} (h:x∉m.map (·.1)):QY m x=none:=by
 induction m with
 | nil=>rfl
 | cons p l ih=>
  simp only[map_cons,mem_cons,not_or] at h;simp only[QY,if_neg (Ne.symm h.1),ih h.2]
theorem LN {m:List (K×V)} {x:K} {v:V}:∀ {j:Nat},(m.map (·.1)).Nodup→m[j]? = some (x,v)→QY m x=some v:=by
 induction m with
 | nil=>intro j _ h;simp at h
 | cons p l ih=>
  intro j hn h;simp only[map_cons,nodup_cons] at hn;cases j with
  | zero=>simp at h;subst h;simp[QY]
  | succ j=>
   have h':l[j]? = some (x,v):=by simpa using h
   have hm:x∈l.map (·.1):=mem_map.2 ⟨(x,v),mem_of_getElem? h',rfl⟩;have hne:p.1≠x:=fun e=>hn.1 (e▸hm);simp only[QY,if_neg hne,ih hn.2 h']
theorem Xg {m:List (K×V)} {x:K} {v:V} (h:x∉m.map (·.1)):Vw m x v=m++[(x,v)]:=by
 induction m with
 | nil=>rfl
 | cons p l ih=>
  simp only[map_cons,mem_cons,not_or] at h;simp only[Vw,if_neg (Ne.symm h.1),ih h.2,cons_append]
theorem LO {m:List (K×V)} {x:K} {v u:V}:∀ {j:Nat},(m.map (·.1)).Nodup→m[j]? = some (x,u)→Vw m x v=m.set j (x,v):=by
 induction m with
 | nil=>intro j _ h;simp at h
 | cons p l ih=>
  intro j hn h;simp only[map_cons,nodup_cons] at hn;cases j with
  | zero=>simp at h;subst h;simp[Vw]
  | succ j=>
   have h':l[j]? = some (x,u):=by simpa using h
   have hm:x∈l.map (·.1):=mem_map.2 ⟨(x,u),mem_of_getElem? h',rfl⟩;have hne:p.1≠x:=fun e=>hn.1 (e▸hm);simp only[Vw,if_neg hne,ih hn.2 h',set_cons_succ]
theorem BX {m:List (K×V)} {x:K} (h:x∉m.map (·.1)):QC m x=m:=by
 induction m with
 | nil=>rfl
 | cons p l ih=>
  simp only[map_cons,mem_cons,not_or] at h;simp only[QC,if_neg (Ne.symm h.1),ih h.2]
theorem LP {m:List (K×V)} {x:K} {u:V}:∀ {j:Nat},(m.map (·.1)).Nodup→m[j]? = some (x,u)→QC m x=m.eraseIdx j:=by
 induction m with
 | nil=>intro j _ h;simp at h
 | cons p l ih=>
  intro j hn h;simp only[map_cons,nodup_cons] at hn;cases j with
  | zero=>simp at h;subst h;simp[QC]
  | succ j=>
   have h':l[j]? = some (x,u):=by simpa using h
   have hm:x∈l.map (·.1):=mem_map.2 ⟨(x,u),mem_of_getElem? h',rfl⟩;have hne:p.1≠x:=fun e=>hn.1 (e▸hm);simp only[QC,if_neg hne,ih hn.2 h',eraseIdx_cons_succ]
theorem LS {m:List (K×V)} {x y:K} {v:V}:y∈(Vw m x v).map (·.1)↔y=x∨y∈m.map (·.1):=by
 induction m with
 | nil=>simp[Vw]
 | cons p l ih=>
  simp only[Vw];split
  ·rename_i e;subst e;simp
  ·simp only[map_cons,mem_cons,ih];constructor
   ·rintro(h|h|h)
    ·exact .inr (.inl h)
    ·exact .inl h
    ·exact .inr (.inr h)
   ·rintro(h|h|h)
    ·exact .inr (.inl h)
    ·exact .inl h
    ·exact .inr (.inr h)
theorem DA {m:List (K×V)} {x:K} {v:V} (h:(m.map (·.1)).Nodup):((Vw m x v).map (·.1)).Nodup:=by
 induction m with
 | nil=>simp[Vw]
 | cons p l ih=>
  simp only[map_cons,nodup_cons] at h;simp only[Vw];split
  ·rename_i e;subst e;simpa using h
  ·rename_i e;simp only[map_cons,nodup_cons];exact⟨fun hm=>(LS.1 hm).elim e h.1,ih h.2⟩
theorem BK {m:List (K×V)} {x y:K} (h:(m.map (·.1)).Nodup):y∈(QC m x).map (·.1)↔y≠x∧y∈m.map (·.1):=by
 induction m with
 | nil=>simp[QC]
 | cons p l ih=>
  simp only[map_cons,nodup_cons] at h;simp only[QC];split
  ·rename_i e;subst e;constructor
   ·exact fun hm=>⟨fun e=>h.1 (e▸hm),by simp[hm]⟩
   ·rintro⟨h1,h2⟩;simp only[map_cons,mem_cons] at h2;exact h2.resolve_left h1
  ·rename_i e;simp only[map_cons,mem_cons,ih h.2];constructor
   ·rintro(rfl|h)
    ·exact⟨e,.inl rfl⟩
    ·exact⟨h.1,.inr h.2⟩
   ·rintro⟨h1,h2|h2⟩
    ·exact .inl h2
    ·exact .inr ⟨h1,h2⟩
theorem XU {m:List (K×V)} {x:K} (h:(m.map (·.1)).Nodup):((QC m x).map (·.1)).Nodup:=by
 induction m with
 | nil=>simp[QC]
 | cons p l ih=>
  have h0:=h;simp only[map_cons,nodup_cons] at h;simp only[QC];split
  ·exact h.2
  ·simp only[map_cons,nodup_cons];exact⟨fun hm=>h.1 ((BK h.2).1 hm).2,ih h.2⟩
theorem UC {m:List (K×V)} {x y:K} {v:V}:QY (Vw m x v) y=if x=y then some v else QY m y:=by
 induction m with
 | nil=>simp[Vw,QY]
 | cons p l ih=>
  simp only[Vw];split
  ·rename_i e;subst e;simp only[QY];split <;> rfl
  ·rename_i e;simp only[QY,ih];by_cases h:p.1=y
   ·subst h;rw[if_pos rfl,if_neg (Ne.symm e),if_pos rfl]
   ·rw[if_neg h,if_neg h]
theorem Xh {m:List (K×V)} {x y:K} (h:(m.map (·.1)).Nodup):QY (QC m x) y=if x=y then none else QY m y:=by
 induction m with
 | nil=>simp[QC,QY]
 | cons p l ih=>
  simp only[map_cons,nodup_cons] at h;simp only[QC];split
  ·rename_i e;subst e;split
   ·rename_i e;subst e;exact Ft h.1
   ·rename_i e;simp only[QY,if_neg e]
  ·rename_i e;simp only[QY,ih h.2];by_cases h':p.1=y
   ·subst h';rw[if_pos rfl,if_neg (Ne.symm e),if_pos rfl]
   ·rw[if_neg h',if_neg h']
theorem Un {m:List (K×V)} {x:K} {v:V} (h:QY m x=some v):(x,v)∈m:=by
 induction m with
 | nil=>cases h
 | cons p l ih=>
  simp only[QY] at h;split at h
  ·rename_i e;subst e;cases h;exact mem_cons_self ..
  ·exact mem_cons_of_mem _ (ih h)
theorem Z1 {m:List (K×V)} {x:K} {v:V} (hn:(m.map (·.1)).Nodup):QY m x=some v↔(x,v)∈m:=
 ⟨Un,fun h=>by obtain⟨j,hj,e⟩:=getElem_of_mem h;exact LN hn (j:=j) (by rw[getElem?_eq_getElem hj,e])⟩
theorem W6 {m:List (K×V)} {x:K}:QY m x=none↔x∉m.map (·.1):=by
 refine⟨fun h hm=>?_,Ft⟩
 induction m with
 | nil=>simp at hm
 | cons p l ih=>
  simp only[QY] at h;split at h
  ·cases h
  ·rename_i e;simp only[map_cons,mem_cons] at hm;exact hm.elim (fun h'=>e h'.symm) (ih h)
theorem La {α β:Type} (g:α→β):∀ (l:List α) (j:Nat),(l.map g).eraseIdx j=(l.eraseIdx j).map g
 | [],_=>rfl
 | _::_,0=>rfl
 | a::l,j+1=>by simp only[map_cons,eraseIdx_cons_succ,La g l j]
end
structure Ys {K V:Type} (ek:K→Value) (vv:V→Value) (es:Array MapEntry) (clock:Nat) (m:List (K×V)):Prop where
 ents:es.toList.map (fun e=>(e.key,e.val))=m.map (fun p=>(ek p.1,vv p.2))
 nodup:(m.map (·.1)).Nodup
 rise:(es.toList.map (·.born)).Pairwise (· < ·)
 born:∀ e∈es.toList,e.born < clock
def mp {K V:Type} (ek:K→Value) (vv:V→Value) (b:Nat) (m:List (K×V)):Q2:=fun h=>∃ es clock,h b=some (.map es clock)∧Ys ek vv es clock m
class Uo {K V:outParam Type} (ek:outParam (K→Value)) (vv:outParam (V→Value)) (b:Nat) (m:outParam (List (K×V))) (l:List Q2):Prop where
 get:∀ h,VK l h→mp ek vv b m h
class W7 {K V:Type} (ek:K→Value) (vv:V→Value) (b:Nat) (m:List (K×V)) (l:List Q2) (m':List (K×V)) (l':outParam (List Q2)):Prop where
 get:∀ h,VK l h→mp ek vv b m h
 set:∀ h h',VK l h→mp ek vv b m' h'→(∀ c,c≠b→h' c=h c)→VK l' h'
section
variable {K V:Type} {ek:K→Value} {vv:V→Value} {b:Nat} {m m':List (K×V)} {l l':List Q2}
theorem Lb {f g:Hp} (s:Vv f g):mp ek vv b m f→mp ek vv b m g:=fun ⟨es,c,h1,h2⟩=>⟨es,c,s _ _ h1,h2⟩
instance (priority:=high) Uo.here:Uo ek vv b m (mp ek vv b m::l):=⟨fun _ ⟨_,_,a,_,_,x,_⟩=>Lb a x⟩
instance Uo.there {A:Q2} [i:Uo ek vv b m l]:Uo ek vv b m (A::l):=⟨fun _ s=>i.get _ (W2 s)⟩
instance (priority:=high) W7.here:W7 ek vv b m (mp ek vv b m::l) m' (mp ek vv b m'::l) where
 get:=fun _ ⟨_,_,a,_,_,x,_⟩=>Lb a x
 set:=fun h h' ⟨f,g,a,e,d,⟨es,c,h1,h2⟩,y⟩ ⟨es',c',h3,h4⟩ hs=>by
  have s:VK (pts b (.map es c)::l) h:=⟨f,g,a,e,d,h1,y⟩;exact JM (fun k hk=>⟨es',c',hk,h4⟩) (Fi s h3 hs)
instance W7.there {A:Q2} [i:W7 ek vv b m l m' l']:W7 ek vv b m (A::l) m' (A::l') where
 get:=fun _ s=>i.get _ (W2 s)
 set:=fun h h' ⟨f,g,a,e,d,x,y⟩ ⟨es',c',h3,h4⟩ hs=>by
  obtain⟨es,c,h1,h2⟩:=i.get g y;refine⟨f,fun k=>if k=b then some (.map es' c') else g k,?_,?_,?_,x,i.set g _ y ⟨es',c',by simp,h4⟩ (fun k hk=>by simp[hk])⟩
  ·intro k p hk;have hkb:k≠b:=fun h0=>by subst h0;exact d k p _ hk h1
   rw[hs k hkb];exact a k p hk
  ·intro k p hk;by_cases hkb:k=b
   ·subst hkb;simp at hk;subst hk;exact h3
   ·simp[hkb] at hk;rw[hs k hkb];exact e k p hk
  ·intro k p p' hk hk';by_cases hkb:k=b
   ·subst hkb;exact d k p _ hk h1
   ·simp[hkb] at hk';exact d k p p' hk hk'
theorem Q0.mp [Q4] {w:World} (h:Q0 w l) [i:Uo ek vv b m l]:∃ es clock,w.heap[b]? = some (.map es clock)∧Ys ek vv es clock m:=i.get _ h.1
end
section
variable {P:Program} {w:World} {K V:Type} [DecidableEq K] {ek:K→Value} {vv:V→Value} {b:Nat} {m:List (K×V)} {t k e:TypeId}
theorem Ys.keys {es:Array MapEntry} {clock:Nat} (h:Ys ek vv es clock m):es.toList.map (·.key)=(m.map (·.1)).map ek:=by
 have:=congrArg (List.map Prod.fst) h.ents;simpa [map_map,Function.comp_def] using this
theorem Ys.at {es:Array MapEntry} {clock:Nat} (h:Ys ek vv es clock m) {j:Nat} {x:MapEntry} (hj:es.toList[j]? = some x):∃ p,m[j]? = some p∧x.key=ek p.1∧x.val=vv p.2:=by
 have h1:=congrArg (fun l=>l[j]?) h.ents;simp only[getElem?_map,hj,Option.map_some] at h1;cases hm:m[j]? with
 | none=>rw[hm] at h1;cases h1
 | some p=>rw[hm] at h1;simp at h1;exact⟨p,rfl,h1.1,h1.2⟩
theorem Ys.find {es:Array MapEntry} {clock:Nat} (h:Ys ek vv es clock m) (T:GB P k ek) (w:World) (x:K) :
  ((Instr.findKey k (ek x) es.toList).run P w = .ok none w∧x∉m.map (·.1))∨∃ j y v,(Instr.findKey k (ek x) es.toList).run P w = .ok (some (j,vv v)) w∧es.toList[j]? = some y∧y.key=ek x∧m[j]? = some (x,v):=by
 rcases T.find w x es.toList (m.map (·.1)) h.keys with h1|⟨j,y,h1,h2,h3⟩
 ·exact .inl h1
 ·obtain⟨⟨a,v⟩,h4,h5,h6⟩:=h.at h2;have:a=x:=by simpa [h4] using h3
  subst this;exact .inr ⟨j,y,v,by rw[h1,h6],h2,h5,h4⟩
theorem Ww {es:Array MapEntry} {clock:Nat} (h:w.heap[b]? = some (.map es clock)):(getObj b).run P w = .ok (.map es clock) w:=by
 simp[getObj,Sem.run,h]
theorem Wx {es:Array MapEntry} {clock:Nat} (o:Obj) (h:w.heap[b]? = some (.map es clock)):(setObj b o).run P w = .ok () (w.putObj b o):=by
 simp[setObj,Sem.run,h,World.putObj]
theorem Vr {t:TypeId} {d:TypeDesc} (h:P.underlying t=some d):(underlying t).run P w = .ok d w:=by
 unfold underlying;simp only[Sem.run_bind,run_program,Result.andThen_ok,h,Sem.run_pure]
def W8 (zv:Value) (vv:V→Value):Option V→Value
 | none=>zv
 | some v=>vv v
theorem Lc (hM:Yi P t k e) (T:GB P k ek) {zv:Value} (hz:V1 P e zv) (h:∃ es clock,w.heap[b]? = some (.map es clock)∧Ys ek vv es clock m) (x:K) (ok:Bool) :
  (Instr.lookup t (.map (some b)) (ek x) ok).run P w = .ok (if ok then .tuple #[W8 zv vv (QY m x),.bool (QY m x).isSome] else W8 zv vv (QY m x)) w:=by
 obtain⟨es,clock,h1,h2⟩:=h;unfold Instr.lookup;simp only[Sem.run_bind,Vr hM.und,Result.andThen_ok,Ww h1,Sem.run_pure,T.check]
 rcases h2.find T w x with ⟨h3,h4⟩|⟨j,y,v,h3,h4,h5,h6⟩
 ·simp only[h3,Result.andThen_ok,Sem.run_bind,Fq hz,Sem.run_pure,Ft h4];cases ok <;> rfl
 ·simp only[h3,Result.andThen_ok,Sem.run_pure,LN h2.nodup h6];cases ok <;> rfl
theorem S6 (hM:Yi P t k e) (T:GB P k ek) (h:∃ es clock,w.heap[b]? = some (.map es clock)∧Ys ek vv es clock m) (x:K) (v:V) :
  ∃ w' es clock,(Instr.mapUpdate t (.map (some b)) (ek x) (vv v)).run P w = .ok () w'∧w'.heap[b]? = some (.map es clock)∧Ys ek vv es clock (Vw m x v)∧(∀ c,c≠b→w'.heap[c]? = w.heap[c]?)∧Zc w w':=by
 obtain⟨es,clock,h1,h2⟩:=h;have hlt:b < w.heap.size:=(Array.getElem?_eq_some_iff.1 h1).1;unfold Instr.mapUpdate;simp only[Sem.run_bind,Vr hM.und,Result.andThen_ok,Ww h1,Sem.run_pure,T.check]
 rcases h2.find T w x with ⟨h3,h4⟩|⟨j,y,u,h3,h4,h5,h6⟩
 ·refine⟨_,es.push { key:=ek x,val:=vv v,born:=clock },clock+1,by rw[h3];simp only[Result.andThen_ok];exact Wx _ h1,World.putObj_heap_same hlt,?_,fun c hc=>World.putObj_heap_other hc,⟨rfl,rfl⟩⟩;rw[Xg h4];refine⟨by simp[h2.ents],?_,?_,?_⟩
  ·have:=DA (x:=x) (v:=v) h2.nodup;rwa [Xg h4] at this
  ·simp only[Array.toList_push,map_append,map_cons,map_nil];refine pairwise_append.2 ⟨h2.rise,by simp,fun a ha c hc=>?_⟩;obtain⟨q,hq,rfl⟩:=mem_map.1 ha;simp at hc;subst hc;exact h2.born q hq
  ·intro q hq;simp only[Array.toList_push,mem_append,mem_singleton] at hq
   rcases hq with hq|rfl
   ·exact Nat.lt_succ_of_lt (h2.born q hq)
   ·exact Nat.lt_succ_self _
 ·have hy:es[j]? = some y:=by simpa using h4
  have hk:((es[j]?).map (·.key)).getD (ek x)=ek x:=by rw[hy];simp[h5]
  have hjl:j < es.size:=(Array.getElem?_eq_some_iff.1 hy).1;refine⟨_,es.modify j fun q=>{ q with key:=ek x,val:=vv v },clock,by rw[h3];simp only[Result.andThen_ok,Sem.run_bind,hk,T.stays];exact Wx _ h1,World.putObj_heap_same hlt,?_,fun c hc=>World.putObj_heap_other hc,⟨rfl,rfl⟩⟩
  have ems:(es.modify j fun q=>{ q with key:=ek x,val:=vv v }).toList=es.toList.set j { y with key:=ek x,val:=vv v }:=by
   rw[Array.toList_modify];apply ext_getElem?;intro i;rw[getElem?_modify,getElem?_set];by_cases hij:j=i
   ·subst hij;rw[if_pos rfl,if_pos (by simpa using hjl),h4];simp
   ·rw[if_neg hij];simp[hij]
  rw[LO h2.nodup h6]
  have hb':(es.toList.set j { y with key:=ek x,val:=vv v }).map (·.born)=es.toList.map (·.born):=by
   rw[map_set];apply ext_getElem?;intro i;rw[getElem?_set];split
   ·rename_i hij;subst hij;simp only[length_map];rw[if_pos (by simpa using hjl),getElem?_map,h4];rfl
   ·rfl
  refine⟨?_,?_,?_,?_⟩
  ·rw[ems,map_set,map_set,h2.ents]
  ·have:=DA (x:=x) (v:=v) h2.nodup;rwa [LO h2.nodup h6] at this
  ·rw[ems,hb'];exact h2.rise
  ·intro q hq;rw[ems] at hq
   rcases mem_or_eq_of_mem_set hq with hq|rfl
   ·exact h2.born q hq
   ·exact h2.born y (mem_of_getElem? h4)
theorem S7 (hM:Yi P t k e) (T:GB P k ek) (h:∃ es clock,w.heap[b]? = some (.map es clock)∧Ys ek vv es clock m) (x:K) (ty:TypeId) (u:TypeId) :
  ∃ w' es clock,(Builtin.delete_ #[t,u] ty #[.map (some b),ek x]).run P w = .ok (.tuple #[]) w'∧w'.heap[b]? = some (.map es clock)∧Ys ek vv es clock (QC m x)∧(∀ c,c≠b→w'.heap[c]? = w.heap[c]?)∧Zc w w':=by
 obtain⟨es,clock,h1,h2⟩:=h;have hlt:b < w.heap.size:=(Array.getElem?_eq_some_iff.1 h1).1;unfold Builtin.delete_;simp only[Sem.run_bind,Vr hM.und,Result.andThen_ok,Ww h1,Sem.run_pure,T.check,getElem?_toArray,getElem?_cons_zero,getElem?_cons_succ]
 rcases h2.find T w x with ⟨h3,h4⟩|⟨j,y,v,h3,h4,h5,h6⟩
 ·refine⟨_,es,clock,by rw[h3];simp only[Result.andThen_ok,Sem.run_bind,Wx _ h1,Sem.run_pure],World.putObj_heap_same hlt,by rw[BX h4];exact h2,fun c hc=>World.putObj_heap_other hc,⟨rfl,rfl⟩⟩
 ·have hy:es[j]? = some y:=by simpa using h4
  have hjl:j < es.size:=(Array.getElem?_eq_some_iff.1 hy).1;refine⟨_,es.eraseIdxIfInBounds j,clock,by rw[h3];simp only[Result.andThen_ok,Sem.run_bind,Wx _ h1,Sem.run_pure],World.putObj_heap_same hlt,?_,fun c hc=>World.putObj_heap_other hc,⟨rfl,rfl⟩⟩
  have ems:(es.eraseIdxIfInBounds j).toList=es.toList.eraseIdx j:=by
   simp[Array.eraseIdxIfInBounds,hjl]
  have hsub:(es.toList.eraseIdx j).Sublist es.toList:=eraseIdx_sublist _ _;rw[LP h2.nodup h6];refine⟨?_,?_,?_,?_⟩
  ·rw[ems];have h7:=congrArg (fun l=>l.eraseIdx j) h2.ents;simpa [La] using h7
  ·have:=XU (x:=x) h2.nodup;rwa [LP h2.nodup h6] at this
  ·rw[ems];exact h2.rise.sublist (hsub.map _)
  ·intro q hq;rw[ems] at hq;exact h2.born q (hsub.subset hq)
theorem S8 (hM:Yi P t k e) (T:GB P k ek) (x:K) (ty:TypeId) (u:TypeId):(Builtin.delete_ #[t,u] ty #[.map none,ek x]).run P w = .ok (.tuple #[]) w:=by
 unfold Builtin.delete_;simp only[Sem.run_bind,Vr hM.und,Result.andThen_ok,Sem.run_pure,T.check,getElem?_toArray,getElem?_cons_zero,getElem?_cons_succ]
theorem Ys.len {es:Array MapEntry} {clock:Nat} (h:Ys ek vv es clock m):es.size=m.length:=by
 have:=congrArg List.length h.ents;simpa using this
theorem S9 (hM:Yi P t k e) (h:∃ es clock,w.heap[b]? = some (.map es clock)∧Ys ek vv es clock m) (ty:TypeId) :
  (Builtin.len_ #[t] ty #[.map (some b)]).run P w = .ok (.int .i64 m.length) w:=by
 obtain⟨es,clock,h1,h2⟩:=h;unfold Builtin.len_;simp only[Sem.run_bind,Vr hM.und,Result.andThen_ok,Ww h1,Sem.run_pure,getElem?_toArray,getElem?_cons_zero,h2.len,goInt]
theorem SQ (hM:Yi P t k e) (ty:TypeId):(Builtin.len_ #[t] ty #[.map none]).run P w = .ok (.int .i64 0) w:=by
 unfold Builtin.len_;simp only[Sem.run_bind,Vr hM.und,Result.andThen_ok,Sem.run_pure,getElem?_toArray,getElem?_cons_zero,goInt]
end
end Go.SL
namespace Go.SL
open List
section
variable {P:Program} {k:TypeId}
class Xi (P:Program) (t:TypeId) (q:outParam IntKind):Prop where
 und:P.underlying t=some (.int q)
@[reducible] def ki (q:IntKind):Int→Value:=fun x => .int q x
@[reducible] def kp:Int×Int→Value:=fun x => .agg #[.int .i64 x.1,.int .i64 x.2]
@[reducible] def ks:ByteArray→Value:=fun x => .string x
theorem Ld {q:IntKind} (x:Int):∀ (es:List MapEntry) (ks:List Int) (i:Nat),es.map (·.key)=ks.map (ki q) →
  (Instr.findNow (.int q) (ki q x) es i=some none∧x∉ks)∨∃ j e,Instr.findNow (.int q) (ki q x) es i=some (some (i+j,e.val))∧es[j]? = some e∧ks[j]? = some x
 | [],[],_,_ => .inl ⟨rfl,by simp⟩
 | [],_::_,_,h=>by simp at h
 | _::_,[],_,h=>by simp at h
 | e::es,y::ks,i,h=>by
  simp only[map_cons,List.cons.injEq] at h;by_cases hxy:x=y
  ·subst hxy;exact .inr ⟨0,e,by simp[Instr.findNow,Instr.sameNow,h.1],rfl,rfl⟩
  ·have hb:(x == y)=false:=by simpa using hxy
   rcases Ld x es ks (i+1) h.2 with ⟨h1,h2⟩|⟨j,e',h1,h2,h3⟩
   ·exact .inl ⟨by simp[Instr.findNow,Instr.sameNow,h.1,hb,h1],by simp[hxy,h2]⟩
   ·exact .inr ⟨j+1,e',by simp[Instr.findNow,Instr.sameNow,h.1,hb,h1];omega,by simpa using h2,by simpa using h3⟩
theorem SV {q:IntKind} (h:Xi P k q):GB P k (ki q) where
 inj:=fun a b e=>by simpa using e
 check:=fun w em x=>by
  unfold Instr.checkKey;simp only[Sem.run_bind,Vr h.und,Result.andThen_ok,ki];rfl
 stays:=fun w x=>by simp[Instr.keyThatStays,Instr.sameBits]
 find:=fun w x es l hl=>by
  unfold Instr.findKey;simp only[Sem.run_bind,Vr h.und,Result.andThen_ok]
  rcases Ld x es l 0 hl with ⟨h1,h2⟩|⟨j,e,h1,h2,h3⟩
  ·exact .inl ⟨by rw[h1];rfl,h2⟩
  ·exact .inr ⟨j,e,by rw[h1];simp,h2,h3⟩
structure Le (P:Program) (t:TypeId) {A:Type} (enc:A→Value) (eq:A→A→Bool):Prop where
 run:∀ (d:Nat) (w:World) (x y:A),(Op.equalIn (d+3) t (enc x) (enc y)).run P w = .ok (eq x y) w
class Kz (P:Program) (t:TypeId):Prop where
 und:∃ f g a b,P.underlying t=some (.struct #[f,g])∧f.name ≠ "_" ∧ g.name ≠ "_" ∧ f.offset=0∧g.offset=1∧P.underlying f.type=some (.int a)∧P.underlying g.type=some (.int b)
 one:∀ f g,P.underlying t=some (.struct #[f,g])→T1 P f.type∧T1 P g.type
 held:P.stoodInHeld t=false
 guard:P.eqGuardType P.depth t=false
theorem Lf {t:TypeId} (h:Kz P t):Le P t kp (fun x y=>x.1 == y.1 && x.2 == y.2) where
 run:=fun d w x y=>by
  obtain⟨f,g,a,b,h1,h2,h3,h4,h5,h6,h7⟩:=h.und;obtain⟨o1,o2⟩:=h.one f g h1;have hf:P.fieldsOf t=#[f,g]:=by simp[Program.fieldsOf,h1]
  rw[run_equalIn_struct w (d+2) t _ _ (by rw[hf];exact h1) h.held,hf];have p1:∀ (u v:Int),(part f.type #[.int .i64 u,.int .i64 v] f.offset).run P w = .ok (.int .i64 u) w:=fun u v=>Wu o1 (c:=[.int .i64 u,.int .i64 v]) (by rw[h4];rfl);have p2:∀ (u v:Int),(part g.type #[.int .i64 u,.int .i64 v] g.offset).run P w = .ok (.int .i64 v) w:=fun u v=>Wu o2 (c:=[.int .i64 u,.int .i64 v]) (by rw[h5];rfl);simp only[Op.eqFields,h2,h3,ne_eq,not_false_eq_true,if_true,Sem.run_bind,p1,p2,Result.andThen_ok,run_equalIn_int w (d+1) f.type .i64 a _ _ h6,run_equalIn_int w (d+1) g.type .i64 b _ _ h7];cases h8:(x.1 == y.1)
  ·simp
  ·cases h9:(x.2 == y.2) <;> simp[p2,run_equalIn_int w (d+1) g.type .i64 b _ _ h7,h9]
theorem SY {fs:Array Field} (x:Int×Int) (e:MapEntry) (es:List MapEntry) (i:Nat):Instr.findNow (.struct fs) (kp x) (e::es) i=none:=by
 simp[Instr.findNow,Instr.sameNow]
theorem Lg {A:Type} {enc:A→Value} {eq:A→A→Bool} (E:Le P k enc eq) (he:∀ a b,eq a b=true↔a=b) (w:World) (x:A):∀ (es:List MapEntry) (l:List A) (i:Nat),es.map (·.key)=l.map enc →
  ((Instr.findAsking k (enc x) es i).run P w = .ok none w∧x∉l)∨∃ j e,(Instr.findAsking k (enc x) es i).run P w = .ok (some (i+j,e.val)) w∧es[j]? = some e∧l[j]? = some x
 | [],[],_,_ => .inl ⟨rfl,by simp⟩
 | [],_::_,_,h=>by simp at h
 | _::_,[],_,h=>by simp at h
 | e::es,y::l,i,h=>by
  simp only[map_cons,List.cons.injEq] at h;have hr:(Op.equal k (enc x) e.key).run P w = .ok (eq x y) w:=by rw[h.1];exact E.run 9997 w x y
  unfold Instr.findAsking;simp only[Sem.run_bind,hr,Result.andThen_ok];by_cases hxy:x=y
  ·subst hxy;rw[(he x x).2 rfl];exact .inr ⟨0,e,by simp,rfl,rfl⟩
  ·have hb:eq x y=false:=by
    cases hq:eq x y with
    | false=>rfl
    | true=>exact absurd ((he x y).1 hq) hxy
   rw[hb];simp only[Bool.false_eq_true,if_false]
   rcases Lg E he w x es l (i+1) h.2 with ⟨h1,h2⟩|⟨j,e',h1,h2,h3⟩
   ·exact .inl ⟨h1,by simp[hxy,h2]⟩
   ·exact .inr ⟨j+1,e',by rw[h1];congr 3;omega,by simpa using h2,by simpa using h3⟩
theorem Lh (h:Kz P k):GB P k kp where
 inj:=fun a b e=>by
  obtain⟨a1,a2⟩:=a;obtain⟨b1,b2⟩:=b;simpa using e
 check:=fun w em x=>by
  obtain⟨f,g,a,b,h1,h2,h3,h4,h5,h6,h7⟩:=h.und;obtain⟨o1,o2⟩:=h.one f g h1;have p1:(part f.type #[.int .i64 x.1,.int .i64 x.2] f.offset).run P w = .ok (.int .i64 x.1) w:=Wu o1 (c:=[.int .i64 x.1,.int .i64 x.2]) (by rw[h4];rfl);have p2:(part g.type #[.int .i64 x.1,.int .i64 x.2] g.offset).run P w = .ok (.int .i64 x.2) w:=Wu o2 (c:=[.int .i64 x.1,.int .i64 x.2]) (by rw[h5];rfl)
  have c1:∀ (t:TypeId) (q:IntKind) (u:Int),P.underlying t=some (.int q)→(Instr.checkKey em 9999 t (.int .i64 u)).run P w = .ok () w:=fun t q u ht=>by
   unfold Instr.checkKey;simp only[Sem.run_bind,Vr ht,Result.andThen_ok];rfl
  unfold Instr.checkKey;simp only[Sem.run_bind,Vr h1,Result.andThen_ok,kp];simp[h2,h3,p1,p2,c1 _ _ _ h6,c1 _ _ _ h7]
 stays:=fun w x=>by simp[Instr.keyThatStays,Instr.sameBits]
 find:=fun w x es l hl=>by
  obtain⟨f,g,a,b,h1,_⟩:=h.und;unfold Instr.findKey;simp only[Sem.run_bind,Vr h1,Result.andThen_ok]
  have key:=Lg (Lf h) (fun a b=>by
   obtain⟨a1,a2⟩:=a;obtain⟨b1,b2⟩:=b;simp) w x es l 0 hl
  cases es with
  | nil=>
   cases l with
   | nil=>exact .inl ⟨by simp[Instr.findNow],by simp⟩
   | cons y l=>simp at hl
  | cons e es=>
   rw[SY];simpa using key
end
section
variable {P:Program} {w:World}
def YK:BinOp→Bool
 | .eql=>true
 | _=>false
theorem Li {t:TypeId} (h:U6 P t) (op:BinOp) (a:Option Addr) (X Y:Operand) (u:TypeId) (ho:op = .eql∨op = .neq) :
  (do eqGuard op t X Y (.pointer a) (.pointer none);binOp op t (.pointer a) (.pointer none):Sem Value).run P w = .ok (.bool (if YK op then a.isNone else a.isSome)) w:=by
 obtain⟨e,h⟩:=h.und
 have h1:(Op.equal t (.pointer a) (.pointer none)).run P w = .ok a.isNone w:=by
  unfold Op.equal Op.maxDepth Op.equalIn;simp only[Sem.run_bind,Vr h,Result.andThen_ok];cases a <;> rfl
 rcases ho with rfl|rfl
 ·simp[eqGuard,binOp,h1,YK]
 ·simp[eqGuard,binOp,h1,YK]
theorem SZ {t k e:TypeId} (h:Yi P t k e) (op:BinOp) (a:Option Nat) (X Y:Operand) (ho:op = .eql∨op = .neq) :
  (do eqGuard op t X Y (.map a) (.map none);binOp op t (.map a) (.map none):Sem Value).run P w = .ok (.bool (if YK op then a.isNone else a.isSome)) w:=by
 have h1:(Op.equal t (.map a) (.map none)).run P w = .ok a.isNone w:=by
  unfold Op.equal Op.maxDepth Op.equalIn;simp only[Sem.run_bind,Vr h.und,Result.andThen_ok];cases a <;> rfl
 rcases ho with rfl|rfl
 ·simp[eqGuard,binOp,h1,YK]
 ·simp[eqGuard,binOp,h1,YK]
class Fu (P:Program) (t:TypeId):Prop where
 und:P.underlying t=some .bool
theorem SG {t:TypeId} (h:Fu P t) (op:BinOp) (a b:Bool) (X Y:Operand) (ho:op = .eql∨op = .neq) :
  (do eqGuard op t X Y (.bool a) (.bool b);binOp op t (.bool a) (.bool b):Sem Value).run P w = .ok (.bool (if YK op then a == b else !(a == b))) w:=by
 have h1:(Op.equal t (.bool a) (.bool b)).run P w = .ok (a == b) w:=by
  unfold Op.equal Op.maxDepth Op.equalIn;simp only[Sem.run_bind,Vr h.und,Result.andThen_ok];rfl
 rcases ho with rfl|rfl
 ·simp[eqGuard,binOp,h1,YK]
 ·simp[eqGuard,binOp,h1,YK]
theorem Lj {t:TypeId} (h:Kz P t) (op:BinOp) (a b c d:Int) (X Y:Operand) (ho:op = .eql∨op = .neq) :
  (do eqGuard op t X Y (.agg #[.int .i64 a,.int .i64 b]) (.agg #[.int .i64 c,.int .i64 d]);binOp op t (.agg #[.int .i64 a,.int .i64 b]) (.agg #[.int .i64 c,.int .i64 d]):Sem Value).run P w =
   .ok (.bool (if YK op then decide ((a,b)=(c,d)) else !decide ((a,b)=(c,d)))) w:=by
 have h0:=run_eqGuard_agg (P:=P) w op t X Y #[.int .i64 a,.int .i64 b] #[.int .i64 c,.int .i64 d] h.guard;have h1:=(Lf h).run 9997 w (a,b) (c,d)
 have e:(a == c && b == d)=decide ((a,b)=(c,d)):=by
  rw[Bool.eq_iff_iff];simp
 simp only[e] at h1;simp only[Sem.run_bind,h0,Result.andThen_ok]
 rcases ho with rfl|rfl
 ·rw[run_eql_struct,h1];rfl
 ·rw[run_neq_struct,h1];rfl
end
section
variable {P:Program} {n:Nat} {r:Option Nat} {ops:Array Oper} {Q:YQ} {ms:List Nat} {σ:QU} {w:World} {rest:List Oper} {o:Oper} {K:QU→World→Prop} {l l':List Q2}
variable {ivs:List (List Nat×(World→Prop))} {T:QU→World→Prop} {f:Nat} {L:Array Bool}
variable {u t:TypeId} {p:String} {af:Array Edge} {g:Option (Nat×Bool)} {d:Option Tmp} {x y z:Operand}
theorem Gt {op:BinOp} {yt:TypeId} {a:Option Addr} [h:U6 P t] (hx:ev σ x = .pointer a) (hy:ev σ y = .pointer none) (ho:op = .eql∨op = .neq) (hd:Qh n d=true)
  (k:K (put σ d (.bool (if YK op then a.isNone else a.isSome))) w):St P n r ⟨d,.binOp op t x y yt,u,p,af,g⟩ σ w K:=
 V6 hd (fun c e=>by cases e) (by simp only[execOp,hx,hy,Sem.run_bind];rw[← Sem.run_bind,Li h op a x y yt ho];rfl) k
theorem Lk {op:BinOp} {yt k e:TypeId} {a:Option Nat} [h:Yi P t k e] (hx:ev σ x = .map a) (hy:ev σ y = .map none) (ho:op = .eql∨op = .neq) (hd:Qh n d=true)
  (k:K (put σ d (.bool (if YK op then a.isNone else a.isSome))) w):St P n r ⟨d,.binOp op t x y yt,u,p,af,g⟩ σ w K:=
 V6 hd (fun c e=>by cases e) (by simp only[execOp,hx,hy,Sem.run_bind];rw[← Sem.run_bind,SZ h op a x y ho];rfl) k
theorem BR {op:BinOp} {yt:TypeId} {a b:Bool} [h:Fu P t] (hx:ev σ x = .bool a) (hy:ev σ y = .bool b) (ho:op = .eql∨op = .neq) (hd:Qh n d=true)
  (k:K (put σ d (.bool (if YK op then a == b else !(a == b)))) w):St P n r ⟨d,.binOp op t x y yt,u,p,af,g⟩ σ w K:=
 V6 hd (fun c e=>by cases e) (by simp only[execOp,hx,hy,Sem.run_bind];rw[← Sem.run_bind,SG h op a b x y ho];rfl) k
theorem Fv {op:BinOp} {yt:TypeId} {a b c e:Int} [h:Kz P t] (hx:ev σ x = .agg #[.int .i64 a,.int .i64 b]) (hy:ev σ y = .agg #[.int .i64 c,.int .i64 e]) (ho:op = .eql∨op = .neq) (hd:Qh n d=true)
  (k:K (put σ d (.bool (if YK op then decide ((a,b)=(c,e)) else !decide ((a,b)=(c,e))))) w):St P n r ⟨d,.binOp op t x y yt,u,p,af,g⟩ σ w K:=
 V6 hd (fun c e=>by cases e) (by simp only[execOp,hx,hy,Sem.run_bind];rw[← Sem.run_bind,Lj h op a b c e x y ho];rfl) k
theorem UD {op:Op} {v:Value} (h:pv σ op=some v) (hd:Qh n d=true) (k:Lp P n r ops Q rest ms (put σ d v) w):Lp P n r ops Q (⟨d,op,u,p,af,none⟩::rest) ms σ w:=
 BZ (Q7.none rfl) (LX (o:=⟨d,op,u,p,af,none⟩) h hd k)
def Ll (σ:QU):Op→Option Value
 | .move x | .assign x=>some (ev σ x)
 | _=>none
theorem Up {op:Op} {v:Value} (h:Ll σ op=some v) (hd:Qh n d=true) (k:Lp P n r ops Q rest ms (put σ d v) w):Lp P n r ops Q (⟨d,op,u,p,af,none⟩::rest) ms σ w:=by
 refine BZ (Q7.none rfl) (V6 hd (fun c e=>?_) ?_ k)
 ·have e:op = .defer c:=e;subst e;cases h
 ·cases op <;> simp only[Ll] at h <;> first|(cases h;rfl)|cases h
theorem Q5 (hg:o.guard=none) (h:St P n r o σ w (fun σ' w'=>Lp P n r ops Q rest ms σ' w')):Lp P n r ops Q (o::rest) ms σ w:=BZ (Q7.none hg) h
theorem Q0.pick [Q4] {G:Type} {R:G→Q2} {gs g1 g2:List G} {x:G} (e:gs=g1++x::g2):Q0 w (SL.star (gs.map R)::l)↔Q0 w (R x::SL.star ((g1++g2).map R)::l):=by
 subst e
 have p:((g1++x::g2).map R++l).Perm (R x::((g1++g2).map R++l)):=by
  simp only[map_append,map_cons,append_assoc,cons_append];exact perm_middle
 constructor
 ·exact fun h=>⟨D7 (fun _=>DY.2) ((Q0.star.1 h).perm p).1,h.2⟩
 ·exact fun h=>Q0.star.2 (Q0.perm ⟨D7 (fun _=>DY.1) h.1,h.2⟩ p.symm)
variable {A B:Type} [DecidableEq A] {ek:A→Value} {vv:B→Value} {b:Nat} {m:List (A×B)} {kt et:TypeId}
theorem R3 [Q4] (vv:B→Value) (ek:A→Value) (H:Q0 w l) [hM:Yi P t kt et] (hd:Qh n d=true) (k:∀ b w',Q0 w' (mp ek vv b []::l)→K (put σ d (.map (some b))) w') :
  St P n r ⟨d,.makeMap t none,u,p,af,g⟩ σ w K:=by
 refine V6 (v := .map (some w.heap.size)) (w':={ w with heap:=w.heap.push (.map #[] 0) }) hd (fun c e=>by cases e) ?_ (k _ _ ((H.new (.map #[] 0)).head fun h e=>⟨#[],0,e,?_⟩))
 ·simp[execOp,Instr.makeMap]
 ·exact⟨rfl,by simp,by simp,by simp⟩
theorem G0 [Q4] {ix:Operand} {ok:Bool} {key:A} {zv:Value} (H:Q0 w l) (hx:ev σ x = .map (some b)) (hk:ev σ ix=ek key) (TK:GB P kt ek) [hM:Yi P t kt et] [hz:V1 P et zv] [i:Uo ek vv b m l] (hd:Qh n d=true)
  (k:K (put σ d (if ok then .tuple #[W8 zv vv (QY m key),.bool (QY m key).isSome] else W8 zv vv (QY m key))) w):St P n r ⟨d,.lookup t x ix ok,u,p,af,g⟩ σ w K:=
 V6 hd (fun c e=>by cases e) (by simp only[execOp,hx,hk,Sem.run_bind];rw[Lc hM TK hz (i.get _ H.1) key ok];rfl) k
theorem Xj [Q4] {ix:Operand} {key:A} {v:B} (H:Q0 w l) (hx:ev σ x = .map (some b)) (hk:ev σ ix=ek key) (hv:ev σ y=vv v) (TK:GB P kt ek) [hM:Yi P t kt et] [i0:Uo ek vv b m l] [i:W7 ek vv b m l (Vw m key v) l'] (hd:Qh n d=true)
  (k:∀ w',Q0 w' l'→K (put σ d undef) w'):St P n r ⟨d,.mapUpdate t x ix y,u,p,af,g⟩ σ w K:=by
 obtain⟨w',es,c,h1,h2,h3,h4,h5⟩:=S6 hM TK (i.get _ H.1) key v;exact DG (w':=w') hd (fun c e=>by cases e) (by simp only[execOp,hx,hk,hv,Sem.run_bind,h1,Result.andThen_ok];rfl) (k w' ⟨i.set _ _ H.1 ⟨es,c,h2,h3⟩ h4,H.2.same h5⟩)
theorem Xk [Q4] {ix:Operand} {key:A} {t2:TypeId} (H:Q0 w l) (hx:ev σ x = .map (some b)) (hk:ev σ ix=ek key) (TK:GB P kt ek) [hM:Yi P t kt et] [i0:Uo ek vv b m l] [i:W7 ek vv b m l (QC m key) l'] (hd:Qh n d=true)
  (k:∀ w',Q0 w' l'→K (put σ d (.tuple #[])) w'):St P n r ⟨d,.call { callee := .builtin .delete,args:=#[x,ix],argTypes:=#[t,t2] },u,p,af,g⟩ σ w K:=by
 obtain⟨w',es,c,h1,h2,h3,h4,h5⟩:=S7 hM TK (i.get _ H.1) key u t2;refine V6 (v := .tuple #[]) (w':=w') hd (fun c e=>by cases e) ?_ (k w' ⟨i.set _ _ H.1 ⟨es,c,h2,h3⟩ h4,H.2.same h5⟩);simp[execOp,resolve,invoke,builtin,hx,hk,h1]
theorem SU {ix:Operand} {key:A} {t2:TypeId} (hx:ev σ x = .map none) (hk:ev σ ix=ek key) (TK:GB P kt ek) [hM:Yi P t kt et] (hd:Qh n d=true)
  (k:K (put σ d (.tuple #[])) w):St P n r ⟨d,.call { callee := .builtin .delete,args:=#[x,ix],argTypes:=#[t,t2] },u,p,af,g⟩ σ w K:=by
 refine V6 (v := .tuple #[]) (w':=w) hd (fun c e=>by cases e) ?_ k;simp[execOp,resolve,invoke,builtin,hx,hk,S8 (P:=P) (w:=w) hM TK key u t2]
theorem Fw [Q4] (ek:A→Value) (vv:B→Value) (H:Q0 w l) (hx:ev σ x = .map (some b)) [hM:Yi P t kt et] [i:Uo ek vv b m l] (hd:Qh n d=true)
  (k:K (put σ d (.int .i64 m.length)) w):St P n r ⟨d,.call { callee := .builtin .len,args:=#[x],argTypes:=#[t] },u,p,af,g⟩ σ w K:=by
 refine V6 (v := .int .i64 m.length) (w':=w) hd (fun c e=>by cases e) ?_ k;simp[execOp,resolve,invoke,builtin,hx,S9 (P:=P) hM (i.get _ H.1) u]
theorem SX (hx:ev σ x = .map none) [hM:Yi P t kt et] (hd:Qh n d=true)
  (k:K (put σ d (.int .i64 0)) w):St P n r ⟨d,.call { callee := .builtin .len,args:=#[x],argTypes:=#[t] },u,p,af,g⟩ σ w K:=by
 refine V6 (v := .int .i64 0) (w':=w) hd (fun c e=>by cases e) ?_ k;simp[execOp,resolve,invoke,builtin,hx,SQ (P:=P) (w:=w) hM u]
theorem SR {s:TypeId} {fi off b i₀:Nat} (i:Nat) (hi:ops[i]? = some ⟨d,.fieldAddr s x fi,u,p,af,g⟩) (hg:Q7 ops σ ⟨d,.fieldAddr s x fi,u,p,af,g⟩ true) [hf:QO P s fi off] (hx:ev σ x = .pointer (some ⟨b,i₀,none⟩)) (hs:YX n ops (ivs.map (·.1)) L i []=true)
  (h:Any P n r ops ivs T f (L.setIfInBounds i true) (put σ d (.pointer (some ⟨b,i₀+off,none⟩))) w):Any P n r ops ivs T (f+1) L σ w:=by
 refine U7 (v := .pointer (some ⟨b,i₀+off,none⟩)) i hi hg (fun c e=>by cases e) (fun w=>?_) hs h;obtain⟨fs,fd,h1,h2,h3,i',h4,h5⟩:=hf.field;simp only[execOp,hx,Instr.fieldAt,Sem.run_bind,underlying,run_program,Result.andThen_ok,h1,Sem.run_pure,h2,Instr.sureAddr,fieldPlace];have hs:(sizeOf fd.type).run P w = .ok i' w:=Zz h4;simp only[hs,Result.andThen_ok,if_neg h5,ZX,h3,Sem.run_pure]
theorem Vn [Q4] {b i₀ E:Nat} {fz:Nat×Nat} {c:List Value} {v:Value} (i:Nat) (D:List Nat) (H:Q0 w l) (hi:ops[i]? = some ⟨d,.load t x,u,p,af,g⟩) (hg:Q7 ops σ ⟨d,.load t x,u,p,af,g⟩ true) (hx:ev σ x = .pointer (some ⟨b,i₀,none⟩)) [h1:T1 P t] [ha:At b (.cells c.toArray E fz) l] (hv:c[i₀]? = some v)
  (hs:YX n ops (ivs.map (·.1)) L i D=true) (h:Any P n r ops ((D,fun w=>w.heap[b]? = some (.cells c.toArray E fz))::ivs) T f (L.setIfInBounds i true) (put σ d v) w):Any P n r ops ivs T (f+1) L σ w:=
 LM i D hi hg (fun c e=>by cases e) (fun w hw=>by simp only[execOp,hx,Instr.loadAt,Instr.sureAddr,Sem.run_bind,Sem.run_pure,Result.andThen_ok,LY (P:=P) h1 hw hv]) hs h
theorem VB [Q4] {b i₀ E k:Nat} {fz:Nat×Nat} {c vs:List Value} (i:Nat) (D:List Nat) (H:Q0 w l) (hi:ops[i]? = some ⟨d,.load t x,u,p,af,g⟩) (hg:Q7 ops σ ⟨d,.load t x,u,p,af,g⟩ true) (hx:ev σ x = .pointer (some ⟨b,i₀,none⟩)) [h1:TN P t k] [ha:At b (.cells c.toArray E fz) l] (hv:Q9 c i₀ k vs)
  (hs:YX n ops (ivs.map (·.1)) L i D=true) (h:Any P n r ops ((D,fun w=>w.heap[b]? = some (.cells c.toArray E fz))::ivs) T f (L.setIfInBounds i true) (put σ d (.agg vs.toArray)) w):Any P n r ops ivs T (f+1) L σ w:=
 LM i D hi hg (fun c e=>by cases e) (fun w hw=>by simp only[execOp,hx,Instr.loadAt,Instr.sureAddr,Sem.run_bind,Sem.run_pure,Result.andThen_ok,Fp (P:=P) h1 hw hv]) hs h
theorem Xl [Q4] {ix:Operand} {ok:Bool} {key:A} {zv:Value} (i:Nat) (D:List Nat) (H:Q0 w l) (hi:ops[i]? = some ⟨d,.lookup t x ix ok,u,p,af,g⟩) (hg:Q7 ops σ ⟨d,.lookup t x ix ok,u,p,af,g⟩ true) (hx:ev σ x = .map (some b)) (hk:ev σ ix=ek key) (TK:GB P kt ek) [hM:Yi P t kt et] [hz:V1 P et zv] [ha:Uo ek vv b m l]
  (hs:YX n ops (ivs.map (·.1)) L i D=true) (h:Any P n r ops ((D,fun w=>mp ek vv b m (hp w))::ivs) T f (L.setIfInBounds i true) (put σ d (if ok then .tuple #[W8 zv vv (QY m key),.bool (QY m key).isSome] else W8 zv vv (QY m key))) w):Any P n r ops ivs T (f+1) L σ w:=
 BG i D hi ⟨_,hi,fun c e=>(by cases e),.inl ⟨hg,fun w hw=>by simp only[execOp,hx,hk,Sem.run_bind];rw[Lc hM TK hz hw key ok];rfl⟩⟩ hs h
end
end Go.SL
