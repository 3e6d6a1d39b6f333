/- Cells: what is proved on the way: every input of the statement; no condition. Texts joined: SlA SlB SlC SlD SlE. -/
import Derived.RangeFuncLeaves
import Derived.OrdersIn
import Derived.TacticsIn
import Derived.RangeFuncRecord
import Derived.Laws.Cells
import Derived.Laws.StructEq
namespace Go.SL
abbrev Hp:=Nat→Option Obj
abbrev Q2:=Hp→Prop
def Ye (g h:Hp):Prop:=∀ b o,g b=some o→h b=some o
def KY (g h:Hp):Prop:=∀ b o o',g b=some o→h b=some o'→False
theorem Ye.rfl' (h:Hp):Ye h h:=fun _ _ e=>e
theorem Ye.trans {f g h:Hp} (a:Ye f g) (b:Ye g h):Ye f h:=fun x o e=>b x o (a x o e)
theorem KY.symm {g h:Hp} (d:KY g h):KY h g:=fun b o o' e e'=>d b o' o e' e
theorem KY.mono {f g f' g':Hp} (d:KY f g) (a:Ye f' f) (b:Ye g' g):KY f' g':=fun x o o' e e'=>d x o o' (a x o e) (b x o' e')
def Vq:List Q2→Hp→Prop
 | [],_=>True
 | A::l,h=>∃ f g,Ye f h∧Ye g h∧KY f g∧A f∧Vq l g
def pts (b:Nat) (o:Obj):Q2:=fun h=>h b=some o
def prop (p:Prop):Q2:=fun _=>p
def star (l:List Q2):Q2:=Vq l
def ex {α:Type} (A:α→Q2):Q2:=fun h=>∃ x,A x h
def old (w:World):Q2:=fun h=>∀ b,b < w.heap.size→h b=w.heap[b]?
theorem EF:∀ {l:List Q2} {g h:Hp},Ye g h→Vq l g→Vq l h
 | [],_,_,_,_=>trivial
 | _::_,_,_,s,⟨f,k,a,b,d,x,y⟩=>⟨f,k,a.trans s,b.trans s,d,x,y⟩
theorem Lq {A:Q2} {l l':List Q2} {h:Hp} (i:∀ g,Vq l g→Vq l' g):Vq (A::l) h→Vq (A::l') h:=
 fun ⟨f,g,a,b,d,x,y⟩=>⟨f,g,a,b,d,x,i _ y⟩
theorem cp {A A':Q2} {l:List Q2} {h:Hp} (i:∀ g,A g→A' g):Vq (A::l) h→Vq (A'::l) h:=
 fun ⟨f,g,a,b,d,x,y⟩=>⟨f,g,a,b,d,i _ x,y⟩
theorem Cv {A:Q2} {l:List Q2} {h:Hp}:Vq (A::l) h→Vq l h:=
 fun ⟨_,_,_,b,_,_,y⟩=>EF b y
def XR (f g:Hp):Hp:=fun c=>match f c with|some o=>some o|none=>g c
theorem cz {f g:Hp} {c:Nat} {o:Obj} (h:XR f g c=some o):f c=some o∨f c=none∧g c=some o:=by
 unfold XR at h;split at h
 ·rename_i o' e;left;rw[e];exact h
 ·rename_i e;exact .inr ⟨e,h⟩
theorem Lr {f g:Hp}:Ye f (XR f g):=fun c o e=>by unfold XR;rw[e]
theorem Ls {f g:Hp} (d:KY f g):Ye g (XR f g):=fun c o e=>by
 unfold XR;cases hc:f c with
 | none=>exact e
 | some p=>exact(d c p o hc e).elim
theorem Lt {f g h:Hp} (a:Ye f h) (b:Ye g h):Ye (XR f g) h:=fun c o e=>by
 rcases cz e with e|⟨_,e⟩
 ·exact a c o e
 ·exact b c o e
theorem Lu {f g h:Hp} (a:KY f h) (b:KY g h):KY (XR f g) h:=fun c o o' e e'=>by
 rcases cz e with e|⟨_,e⟩
 ·exact a c o o' e e'
 ·exact b c o o' e e'
theorem d5 {A B:Q2} {l:List Q2} {h:Hp}:Vq (A::B::l) h→Vq (B::A::l) h:=by
 rintro⟨f,g,a,b,d,x,f',g',a',b',d',x',y⟩;have dg:KY f g':=d.mono (Ye.rfl' f) b';exact⟨f',XR f g',a'.trans b,Lt a (b'.trans b),(Lu (d.mono (Ye.rfl' f) a') d'.symm).symm,x',f,g',Lr,Ls dg,dg,x,y⟩
theorem PX {l l':List Q2} (p:l.Perm l'):∀ {h:Hp},Vq l h→Vq l' h:=by
 induction p with
 | nil=>exact fun x=>x
 | cons A _ ih=>exact fun x=>Lq (fun _=>ih) x
 | swap A B l=>exact fun x=>d5 x
 | trans _ _ i j=>exact fun x=>j (i x)
def pull {α:Type}:Nat→List α→List α
 | 0,l=>l
 | _+1,[]=>[]
 | i+1,a::l=>match pull i l with
  | []=>[a]
  | b::r=>b::a::r
theorem PK {α:Type}:∀ (i:Nat) (l:List α),l.Perm (pull i l)
 | 0,l=>List.Perm.refl l
 | _+1,[]=>List.Perm.refl []
 | i+1,a::l=>by
  have h:=PK i l;simp only[pull];cases hp:pull i l with
  | nil=>rw[hp] at h;simpa using h
  | cons b r=>rw[hp] at h;exact(h.cons a).trans (List.Perm.swap b a r)
theorem d6 {l:List Q2} {f:Hp}:∀ {k:List Q2} {g h:Hp},Ye f h→Ye g h→KY g f→Vq k g→Vq l f→Vq (k++l) h
 | [],_,_,a,_,_,_,y=>EF a y
 | _::k,_,_,a,b,d,⟨f1,g1,a1,b1,d1,x,z⟩,y=>
  have dg:=d.mono b1 (Ye.rfl' f)
  ⟨f1, XR g1 f, a1.trans b, Lt (b1.trans b) a, (Lu d1.symm (d.mono a1 (Ye.rfl' f)).symm).symm, x,
   d6 (k:=k) (Ls dg) Lr dg z y⟩
theorem d7 {l:List Q2}:∀ {k:List Q2} {h:Hp},Vq (k++l) h→∃ g f,Ye g h∧Ye f h∧KY g f∧Vq k g∧Vq l f
 | [],h,s=>⟨fun _=>none,h,fun _ _ e=>(by cases e),Ye.rfl' h,fun _ _ _ e=>(by cases e),trivial,s⟩
 | A::k,h,⟨f1,g1,a,b,d,x,y⟩=>
  let ⟨g,f,a',b',d',x',y'⟩:=d7 (k:=k) y
  have d1:=d.mono (Ye.rfl' f1) a'
  ⟨XR f1 g,f,Lt a (a'.trans b),b'.trans b,Lu (d.mono (Ye.rfl' f1) b') d',⟨f1,g,Lr,Ls d1,d1,x,x'⟩,y'⟩
theorem Lv {k l:List Q2} {h:Hp}:Vq (star k::l) h↔Vq (k++l) h:=
 ⟨fun ⟨_,_,a,b,d,x,y⟩=>d6 b a d x y,fun s=>let ⟨g,f,a,b,d,x,y⟩:=d7 s;⟨g,f,a,b,d,x,y⟩⟩
theorem d8 {α:Type} {A:α→Q2} {l:List Q2} {h:Hp}:Vq (ex A::l) h↔∃ x,Vq (A x::l) h:=
 ⟨fun ⟨f,g,a,b,d,⟨x,hx⟩,y⟩=>⟨x,f,g,a,b,d,hx,y⟩,fun ⟨x,f,g,a,b,d,hx,y⟩=>⟨f,g,a,b,d,⟨x,hx⟩,y⟩⟩
theorem d9 {p:Prop} {l:List Q2} {h:Hp}:Vq (prop p::l) h↔p∧Vq l h:=
 ⟨fun ⟨_,_,_,b,_,x,y⟩=>⟨x,EF b y⟩,fun ⟨x,y⟩=>⟨fun _=>none,h,fun _ _ e=>(by cases e),Ye.rfl' h,fun _ _ _ e=>(by cases e),x,y⟩⟩
def hp (w:World):Hp:=fun b=>w.heap[b]?
class Q4 where
 os:Os
 output:Array (Nat×ByteArray)
def Ok [X:Q4] (w:World):Prop:=w.os=X.os∧w.output=X.output
def UG (w w':World):Prop:=w'.os=w.os∧w'.output=w.output
theorem UG.refl (w:World):UG w w:=⟨rfl,rfl⟩
theorem Ok.same [Q4] {w w':World} (h:Ok w) (s:UG w w'):Ok w':=⟨s.1.trans h.1,s.2.trans h.2⟩
def Q0 [Q4] (w:World) (l:List Q2):Prop:=Vq l (hp w)∧Ok w
theorem Q0.pull [Q4] {w:World} {l:List Q2} (i:Nat) (h:Q0 w l):Q0 w (SL.pull i l):=⟨PX (PK i l) h.1,h.2⟩
theorem Q0.perm [Q4] {w:World} {l l':List Q2} (h:Q0 w l) (p:l.Perm l'):Q0 w l':=⟨PX p h.1,h.2⟩
theorem Q0.drop [Q4] {w:World} {A:Q2} {l:List Q2} (h:Q0 w (A::l)):Q0 w l:=⟨Cv h.1,h.2⟩
theorem Q0.swap [Q4] {w:World} {A B:Q2} {l:List Q2} (h:Q0 w (A::B::l)):Q0 w (B::A::l):=⟨d5 h.1,h.2⟩
theorem Q0.head [Q4] {w:World} {A A':Q2} {l:List Q2} (h:Q0 w (A::l)) (i:∀ g,A g→A' g):Q0 w (A'::l):=⟨cp i h.1,h.2⟩
theorem Q0.star [Q4] {w:World} {k l:List Q2}:Q0 w (SL.star k::l)↔Q0 w (k++l):=⟨fun h=>⟨Lv.1 h.1,h.2⟩,fun h=>⟨Lv.2 h.1,h.2⟩⟩
theorem Q0.ex [Q4] {w:World} {α:Type} {A:α→Q2} {l:List Q2}:Q0 w (SL.ex A::l)↔∃ x,Q0 w (A x::l):=⟨fun h=>let ⟨x,y⟩:=d8.1 h.1;⟨x,y,h.2⟩,fun ⟨x,y⟩=>⟨d8.2 ⟨x,y.1⟩,y.2⟩⟩
theorem Q0.prop [Q4] {w:World} {p:Prop} {l:List Q2}:Q0 w (SL.prop p::l)↔p∧Q0 w l:=⟨fun h=>let ⟨x,y⟩:=d9.1 h.1;⟨x,y,h.2⟩,fun ⟨x,y⟩=>⟨d9.2 ⟨x,y.1⟩,y.2⟩⟩
theorem Q0.nil [Q4] (w:World) (ok:Ok w):Q0 w []:=⟨trivial,ok⟩
theorem Q0.up [Q4] {w w':World} {l:List Q2} (h:Q0 w l) (s:∀ (b:Nat) (o:Obj),w.heap[b]? = some o→w'.heap[b]? = some o) (e:UG w w'):Q0 w' l:=⟨EF s h.1,h.2.same e⟩
theorem Q0.heap [Q4] {w w':World} {l:List Q2} (h:Q0 w l) (s:w'.heap=w.heap) (e:UG w w':=by exact⟨rfl,rfl⟩):Q0 w' l:=by
 refine⟨?_,h.2.same e⟩;have h1:=h.1;unfold hp at *;rw[s];exact h1
theorem Q0.pts [Q4] {w:World} {b:Nat} {o:Obj} {l:List Q2} (h:Q0 w (SL.pts b o::l)):w.heap[b]? = some o:=by
 obtain⟨f,_,a,_,_,x,_⟩:=h.1;exact a b o x
theorem Q0.old [Q4] {w w₀:World} {b:Nat} {l:List Q2} (h:Q0 w (SL.old w₀::l)) (hb:b < w₀.heap.size):w.heap[b]? = w₀.heap[b]?:=by
 obtain⟨f,_,a,_,_,x,_⟩:=h.1;have e:=x b hb;cases ho:w₀.heap[b]? with
 | none=>have:=Array.getElem?_eq_none_iff.1 ho;omega
 | some o=>rw[ho] at e;exact a b o e
theorem Q0.start [Q4] (w:World) (ok:Ok w):Q0 w [SL.old w]:=
 ⟨⟨hp w,fun _=>none,Ye.rfl' _,fun _ _ e=>(by cases e),fun _ _ _ _ e=>(by cases e),fun _ _=>rfl,trivial⟩,ok⟩
theorem PR {b:Nat} {o o':Obj} {l:List Q2} {h h':Hp} (s:Vq (pts b o::l) h) (hb:h' b=some o') (ho:∀ c,c≠b→h' c=h c):Vq (pts b o'::l) h':=by
 obtain⟨f,g,a,e,d,x,y⟩:=s;refine⟨fun c=>if c=b then some o' else none,g,?_,?_,?_,by simp[SL.pts],y⟩
 ·intro c p hc;by_cases YL:c=b
  ·subst YL;simp at hc;subst hc;exact hb
  ·simp[YL] at hc
 ·intro c p hc;have YL:c≠b:=fun h0=>by subst h0;exact d c o p x hc
  rw[ho c YL];exact e c p hc
 ·intro c p p' hc Zu;by_cases YL:c=b
  ·subst YL;exact d c o p' x Zu
  ·simp[YL] at hc
theorem mL {b:Nat} {o:Obj} {l:List Q2} {h h':Hp} (s:Vq l h) (hn:h b=none) (hb:h' b=some o) (ho:∀ c,c≠b→h' c=h c):Vq (pts b o::l) h':=by
 refine⟨fun c=>if c=b then some o else none,h,?_,?_,?_,by simp[SL.pts],s⟩
 ·intro c p hc;by_cases YL:c=b
  ·subst YL;simp at hc;subst hc;exact hb
  ·simp[YL] at hc
 ·intro c p hc;have YL:c≠b:=fun h0=>by subst h0;rw[hn] at hc;cases hc
  rw[ho c YL];exact hc
 ·intro c p p' hc Zu;by_cases YL:c=b
  ·subst YL;rw[hn] at Zu;cases Zu
  ·simp[YL] at hc
theorem Q0.set [Q4] {w w':World} {b:Nat} {o o':Obj} {l:List Q2} (h:Q0 w (SL.pts b o::l)) (hb:w'.heap[b]? = some o') (ho:∀ c,c≠b→w'.heap[c]? = w.heap[c]?) (e:UG w w':=by exact⟨rfl,rfl⟩):Q0 w' (SL.pts b o'::l):=
 ⟨PR h.1 hb ho,h.2.same e⟩
theorem Q0.new [Q4] {w:World} {l:List Q2} (h:Q0 w l) (o:Obj):Q0 { w with heap:=w.heap.push o } (SL.pts w.heap.size o::l):=
 ⟨mL h.1 (by simp [hp]) (by simp [hp]) (by
  intro c hc;simp only[hp];rw[Array.getElem?_push,if_neg hc]),h.2⟩
theorem Q0.ne [Q4] {w:World} {b c:Nat} {o p:Obj} {l:List Q2} (h:Q0 w (SL.pts b o::SL.pts c p::l)):b≠c:=by
 rintro rfl;obtain⟨f,g,_,_,d,x,f',g',a',_,_,x',_⟩:=h.1;exact d b o p x (a' b p x')
theorem Q0.fresh [Q4] {w:World} {b:Nat} {o:Obj} {l:List Q2} (h:Q0 w (SL.pts b o::l)):b < w.heap.size:=
 (Array.getElem?_eq_some_iff.1 h.pts).1
end Go.SL
set_option linter.unusedVariables false
set_option linter.unusedSimpArgs false
namespace Go.SL
open List
abbrev QC:=Nat→Value
def Wf (σ:QC) (i:Nat) (v:Value):QC:=fun j=>bif Nat.beq j i then v else σ j
@[reducible] def put (σ:QC):Option Tmp→Value→QC
 | none,_=>σ
 | some d,v=>Wf σ d v
def ev (σ:QC):Operand→Value
 | .tmp t=>σ t
 | .const v=>v
 | .global g => .pointer (some ⟨g,0,none⟩)
 | .func f => .func (.func f) #[] #[]
theorem Q1 {σ:QC} {i:Nat} {v:Value} (h:σ i=v):σ=Wf σ i v:=by
 funext j
 unfold Wf;cases e:Nat.beq j i with
 | false=>rfl
 | true=>rw[Nat.eq_of_beq_eq_true e];exact h
def mM (D:Nat):Deferred:={ target := .collected D,args:=#[] }
def PW (ms:List Nat):List Deferred:=ms.map mM
structure Rel (n:Nat) (ms:List Nat) (σ:QC) (a:Act):Prop where
 size:a.tmps.size=n
 defs:a.defers=PW ms
 val:∀ i,a.tmps.getD i undef=σ i
theorem Rel.eval {n:Nat} {ms:List Nat} {σ:QC} {a:Act} (r:Rel n ms σ a):a.eval=ev σ:=by
 funext x
 cases x with
 | tmp t=>exact r.val t
 | const v=>rfl
 | global g=>rfl
 | func f=>rfl
def Qs (n:Nat):Option Tmp→Bool
 | none=>true
 | some d=>Nat.blt d n
theorem Rel.put {n:Nat} {ms:List Nat} {σ:QC} {a:Act} (r:Rel n ms σ a) {d:Option Tmp} (v:Value) (hd:Qs n d=true):Rel n ms (put σ d v) (a.put d v):=by
 cases d with
 | none=>exact r
 | some d=>
  have Lw:d < n:=by simpa [Qs,Nat.blt_eq] using hd
  refine⟨by simp[Act.put,r.size],by simp[Act.put,r.defs],fun i=>?_⟩;simp only[Act.put,SL.put,Wf];have hs:=r.size;by_cases e:i=d
  ·subst e;simp[hs,Lw]
  ·have e':Nat.beq i d=false:=by
    cases hb:Nat.beq i d with
    | false=>rfl
    | true=>exact absurd (Nat.eq_of_beq_eq_true hb) e
   rw[e'];show (a.tmps.setIfInBounds d v).getD i undef=σ i;rw[← r.val i];simp only[Array.getD_eq_getD_getElem?];rw[Array.getElem?_setIfInBounds_ne (by omega)]
def F (r:Option Nat):Fence:={ fn:=fun _=>True,depth:=none,alive:=false,round:=r }
theorem dQ (l:Nat):F (some l)=Fence.wide.inRound l:=rfl
abbrev Z5:=Exit→List Nat→QC→World→Prop
def HF (n:Nat) (Q:Z5):Exit→Act→World→Prop
 | .outgrown,_,_=>False
 | e,a,w=>∃ ms σ,Rel n ms σ a∧Q e ms σ w
def C (P:Program) (n:Nat) (r:Option Nat) (c:Code) (Q:Z5) (ms:List Nat) (σ:QC) (w:World):Prop:=
 ∀ a,Rel n ms σ a→c.wpIn (F r) 0 P (HF n Q) a w
def dV (K:List Nat→QC→World→Prop) (Q:Z5):Z5
 | .normal,ms,σ,w=>K ms σ w
 | e,ms,σ,w=>Q e ms σ w
def dY (id:Nat) (Q:Z5):Z5
 | .exit id',ms,σ,w=>if id'=id then Q .normal ms σ w else Q (.exit id') ms σ w
 | e,ms,σ,w=>Q e ms σ w
section
variable {P:Program} {n:Nat} {r:Option Nat} {Q:Z5} {ms:List Nat} {σ:QC} {w:World}
theorem dZ {c:Code} {Q':Z5} (h:C P n r c Q ms σ w) (hq:∀ e ms σ w,Q e ms σ w→Q' e ms σ w):C P n r c Q' ms σ w:=
 fun a ra=>wpIn_mono (h a ra) fun e a w q=>by
  cases e with
  | outgrown=>exact q
  | _=>obtain⟨ms,σ,r,q⟩:=q;exact⟨ms,σ,r,hq _ _ _ _ q⟩
theorem Qt {c:Code} (I:List Nat→QC→World→Prop) (h:C P n r c (fun e ms σ w=>e = .normal∧I ms σ w) ms σ w) (k:∀ ms σ w,I ms σ w→Q .normal ms σ w):C P n r c Q ms σ w:=
 dZ h fun e ms σ w q=>by obtain⟨rfl,q⟩:=q;exact k _ _ _ q
theorem QF (h:Q .normal ms σ w):C P n r .skip Q ms σ w:=fun _ ra=>wpIn_skip ⟨ms,σ,ra,h⟩
theorem mN {l:Nat} (h:Q .normal ms σ w):C P n r (.label l) Q ms σ w:=fun _ ra=>wpIn_label ⟨ms,σ,ra,h⟩
theorem Qv {id:Nat} (h:Q (.exit id) ms σ w):C P n r (.exit id) Q ms σ w:=fun _ ra=>wpIn_exit ⟨ms,σ,ra,h⟩
theorem Q3 (h:Q .ret ms σ w):C P n r .ret Q ms σ w:=fun _ ra=>wpIn_ret ⟨ms,σ,ra,h⟩
theorem Q7 {x y:Code} (h:C P n r x (dV (C P n r y Q) Q) ms σ w):C P n r (.seq x y) Q ms σ w:=fun a ra=>
 wpIn_seq (wpIn_mono (h a ra) fun e a w q=>by
  cases e with
  | outgrown=>exact q
  | normal=>obtain⟨ms,σ,r,q⟩:=q;exact q a r
  | exit id=>obtain⟨ms,σ,r,q⟩:=q;exact⟨ms,σ,r,q⟩
  | goto l=>obtain⟨ms,σ,r,q⟩:=q;exact⟨ms,σ,r,q⟩
  | ret=>obtain⟨ms,σ,r,q⟩:=q;exact⟨ms,σ,r,q⟩
  | panic c=>obtain⟨ms,σ,r,q⟩:=q;exact⟨ms,σ,r,q⟩)
theorem Cw {c:Operand} {x y:Code} {t:Bool} (hc:ev σ c = .bool t) (ht:t=true→C P n r x Q ms σ w) (hf:t=false→C P n r y Q ms σ w):C P n r (.cond c x y) Q ms σ w:=
 fun a ra=>wpIn_cond_split (t:=t) (by rw[ra.eval];exact hc) (fun e=>ht e a ra) (fun e=>hf e a ra)
theorem YY {c:Operand} {x y:Code} (hc:ev σ c = .bool true) (ht:C P n r x Q ms σ w):C P n r (.cond c x y) Q ms σ w:=Cw hc (fun _=>ht) (fun e=>by cases e)
theorem Vu {c:Operand} {x y:Code} (hc:ev σ c = .bool false) (hf:C P n r y Q ms σ w):C P n r (.cond c x y) Q ms σ w:=Cw hc (fun e=>by cases e) (fun _=>hf)
theorem Qm {c:Operand} {x y:Code} {p:Prop} [Decidable p] (hc:ev σ c = .bool (decide p)) (ht:p→C P n r x Q ms σ w) (hf:¬ p→C P n r y Q ms σ w):C P n r (.cond c x y) Q ms σ w:=
 Cw hc (fun e=>ht (of_decide_eq_true e)) (fun e=>hf (of_decide_eq_false e))
theorem Qe {id:Nat} {c:Code} (h:C P n r c (dY id Q) ms σ w):C P n r (.block id c) Q ms σ w:=fun a ra=>
 wpIn_block (wpIn_mono (h a ra) fun e a w q=>by
  cases e with
  | outgrown=>exact q
  | normal=>obtain⟨ms,σ,r,q⟩:=q;exact⟨ms,σ,r,q⟩
  | exit id'=>
   obtain⟨ms,σ,r,q⟩:=q;simp only[dY] at q;simp only[Exit.inBlock];split at q
   ·rename_i e;rw[if_pos e];exact⟨ms,σ,r,q⟩
   ·rename_i e;rw[if_neg e];exact⟨ms,σ,r,q⟩
  | goto l=>obtain⟨ms,σ,r,q⟩:=q;exact⟨ms,σ,r,q⟩
  | ret=>obtain⟨ms,σ,r,q⟩:=q;exact⟨ms,σ,r,q⟩
  | panic c=>obtain⟨ms,σ,r,q⟩:=q;exact⟨ms,σ,r,q⟩)
theorem Qq {c:Code} (I:List Nat→QC→World→Nat→Prop) {m:Nat} (h₀:I ms σ w m)
  (round:∀ ms σ w m,I ms σ w m→C P n r c (dV (fun ms' σ' w'=>∃ m',I ms' σ' w' m'∧m' < m) Q) ms σ w):C P n r (.loop c) Q ms σ w:=by
 have key:∀ m,∀ ms σ w,I ms σ w m→C P n r (.loop c) Q ms σ w:=by
  intro m ms σ w hI a ra;refine wpIn_loop (I:=fun a w=>∃ k ms σ,Rel n ms σ a∧I ms σ w k) (μ:=fun a w=>Classical.epsilon (fun k=>(∃ ms σ,Rel n ms σ a∧I ms σ w k)∧∀ j,(∃ ms σ,Rel n ms σ a∧I ms σ w j)→k≤j)) ⟨m,ms,σ,ra,hI⟩ ?_;intro a w hI
  have HI:∃ k,(∃ ms σ,Rel n ms σ a∧I ms σ w k)∧∀ j,(∃ ms σ,Rel n ms σ a∧I ms σ w j)→k≤j:=by
   obtain⟨k,h⟩:=hI
   induction k using Nat.strongRecOn with
   | _ k ih=>
    by_cases hx:∃ j,j < k∧∃ ms σ,Rel n ms σ a∧I ms σ w j
    ·obtain⟨j,hj,h'⟩:=hx;exact ih j hj h'
    ·exact⟨k,h,fun j hj=>Nat.le_of_not_lt fun Q6=>hx ⟨j,Q6,hj⟩⟩
  have hs:=Classical.epsilon_spec HI;obtain⟨⟨ms,σ,ra,hI⟩,_⟩:=hs;refine wpIn_mono (round _ _ _ _ hI a ra) ?_;intro e a' w' q;cases e with
  | outgrown=>exact q
  | normal=>
   obtain⟨ms',σ',ra',m',HJ,Q6⟩:=q;have dG:∃ k ms σ,Rel n ms σ a'∧I ms σ w' k:=⟨m',ms',σ',ra',HJ⟩;refine⟨dG,?_⟩
   have mO:∃ k,(∃ ms σ,Rel n ms σ a'∧I ms σ w' k)∧∀ j,(∃ ms σ,Rel n ms σ a'∧I ms σ w' j)→k≤j:=by
    obtain⟨k,h⟩:=dG
    induction k using Nat.strongRecOn with
    | _ k ih=>
     by_cases hx:∃ j,j < k∧∃ ms σ,Rel n ms σ a'∧I ms σ w' j
     ·obtain⟨j,hj,h'⟩:=hx;exact ih j hj h'
     ·exact⟨k,h,fun j hj=>Nat.le_of_not_lt fun Q6=>hx ⟨j,Q6,hj⟩⟩
   exact Nat.lt_of_le_of_lt ((Classical.epsilon_spec mO).2 m' ⟨ms',σ',ra',HJ⟩) Q6
  | exit id=>obtain⟨ms,σ,r,q⟩:=q;exact⟨ms,σ,r,q⟩
  | goto l=>obtain⟨ms,σ,r,q⟩:=q;exact⟨ms,σ,r,q⟩
  | ret=>obtain⟨ms,σ,r,q⟩:=q;exact⟨ms,σ,r,q⟩
  | panic c=>obtain⟨ms,σ,r,q⟩:=q;exact⟨ms,σ,r,q⟩
 exact key m ms σ w h₀
end
def Lp (P:Program) (n:Nat) (r:Option Nat) (ops:Array Oper) (Q:Z5) (l:List Oper) (ms:List Nat) (σ:QC) (w:World):Prop:=
 ∀ a,Rel n ms σ a→wpListIn (F r) 0 P ops (HF n Q) l a w
def ret (R:Value→World→Prop):Ending→World→Prop
 | .returned v,w=>R v w
 | _,_=>False
theorem dU {R R':Value→World→Prop} (h:∀ v w,R v w→R' v w):∀ e w,ret R e w→ret R' e w:=fun e w q=>by
 cases e with
 | returned v=>exact h v w q
 | _=>exact q
section
variable {P:Program} {n:Nat} {r:Option Nat} {ops:Array Oper} {Q:Z5} {ms:List Nat} {σ:QC} {w:World} {rest:List Oper} {o:Oper}
theorem QG {id:Nat} {l:List Oper} (h:Lp P n r l.toArray Q l ms σ w):C P n r (.region id l.toArray false) Q ms σ w:=fun a ra=>
 wpIn_region_lit (h a ra)
theorem QU (h:Q .normal ms σ w):Lp P n r ops Q [] ms σ w:=fun _ ra=>⟨ms,σ,ra,h⟩
def gv (ops:Array Oper) (σ:QC) (j:Nat):Option Bool:=
 match ((ops[j]?).bind (·.dst)).map σ with
 | some (.bool b)=>some b
 | _=>none
theorem mP {a:Act} (ra:Rel n ms σ a) (j:Nat):yielded ops a.tmps j=gv ops σ j:=by
 unfold gv yielded;cases hd:(ops[j]?).bind (·.dst) with
 | none=>rfl
 | some d=>
  have e2:=ra.val d;rw[Array.getD_eq_getD_getElem?] at e2;simp only[Option.bind_some,Option.map_some];rw[← e2];cases ht:a.tmps[d]? with
  | none=>rfl
  | some v=>cases v <;> rfl
def Q9 (ops:Array Oper) (σ:QC) (o:Oper) (t:Bool):Prop:=
 match o.guard with
 | none=>t=true
 | some (j,want)=>∃ b,gv ops σ j=b∧(b == some want)=t
theorem Q9.wanted {a:Act} {t:Bool} (h:Q9 ops σ o t) (ra:Rel n ms σ a):Region.wanted o (yielded ops a.tmps)=t:=by
 unfold Q9 at h;unfold Region.wanted;split at h
 ·rename_i e;simp[e,h]
 ·rename_i j want e;obtain⟨b,hb,ht⟩:=h;rw[e];simp only;rw[mP ra j,hb,← ht]
theorem Q9.none (h:o.guard=none):Q9 ops σ o true:=by unfold Q9;rw[h]
theorem dX (hw:Q9 ops σ o false) (hd:Qs n o.dst=true) (h:Lp P n r ops Q rest ms (put σ o.dst undef) w):Lp P n r ops Q (o::rest) ms σ w:=fun a ra=>by
 unfold wpListIn;rw[if_neg (by rw[hw.wanted ra];simp)];exact⟨fun _ _=>trivial,h _ (ra.put undef hd)⟩
theorem PA {f:FuncId} {args:Array Value} {R:Ending→World→Prop} (h:Calls P f args w R):CallsIn (F r) 0 P f args w R:=by
 have h':=(callsIn_wide (n:=0)).2 h;cases r with
 | none=>exact h'
 | some l=>exact h'
def Yields (P:Program) (yl:Nat) (args:Array Value) (w:World) (R:Value→World→Prop):Prop:=
 ∃ fn tmps assign body,(Instr.yield yl args).run P w = .ok (.round yl fn tmps assign body) w∧RoundIn Fence.wide 0 P yl fn tmps assign body w (ret R)
theorem Yields.mono {yl:Nat} {args:Array Value} {R R':Value→World→Prop} (h:Yields P yl args w R) (hr:∀ v w,R v w→R' v w):Yields P yl args w R':=
 let ⟨fn,tmps,assign,body,h1,h2⟩:=h
 ⟨fn,tmps,assign,body,h1,RoundIn.mono h2 (dU hr)⟩
end
def mk (ms:List Nat):Q2:=star (ms.map fun D=>pts D (.deferred (some [])))
theorem Q0.take [Q4] {P:Program} {fn:Func} {tmps:Array Value} {R:Ending→World→Prop}:∀ {ms:List Nat} {w:World} {l:List Q2},Q0 w (mk ms::l) →
  (∀ w',Q0 w' l→LeavesInM Fence.wide 0 P fn tmps R [] .returning w')→LeavesInM Fence.wide 0 P fn tmps R (PW ms) .returning w
 | [],_,_,H,k=>k _ (by simpa using Q0.star.1 H)
 | D::ms,w,l,H,k=>by
  have H1:Q0 w (SL.pts D (.deferred (some []))::(ms.map (fun D=>SL.pts D (.deferred (some [])))++l)):=Q0.star.1 H;have hD:=H1.pts
  have H2:Q0 (w.putObj D (.deferred none)) (SL.pts D (.deferred none)::(ms.map (fun D=>SL.pts D (.deferred (some [])))++l)):=
   H1.set (World.putObj_heap_same H1.fresh) (fun c hc=>World.putObj_heap_other hc)
  refine⟨by simp,.inl ⟨D,_,rfl,run_takeDeferred hD,?_⟩⟩;exact Q0.take (ms:=ms) (Q0.star.2 H2.drop) k
def Rt (σ:QC):List ResultVar→Option (List Value)
 | []=>some []
 | .tmp t::l=>(Rt σ l).map (σ t::·)
 | .cell _ _::_=>none
def AM:List Value→Value
 | [v]=>v
 | l => .tuple l.toArray
def Bi [Q4] (P:Program) (n:Nat) (fn:Func) (R:Value→World→Prop):Z5:=fun e ms σ w=>
 (e = .normal ∨ e = .ret) ∧ ((∃ l, Q0 w (mk ms :: l) ∧ ∀ w', Q0 w' l → ∀ a, Rel n ms σ a → ∃ v, (results fn a.tmps).run P w' = .ok v w' ∧ R v w') ∨
  (ms=[]∧∀ a,Rel n ms σ a→∃ v,(results fn a.tmps).run P w = .ok v w∧R v w))
theorem dK {P:Program} {σ:QC} {g:ResultVar→Sem Value} (hg:∀ t,g (.tmp t)=pure (σ t)):∀ (l:List ResultVar) (vs:List Value),Rt σ l=some vs→∀ w,(l.mapM g).run P w = .ok vs w
 | [],_,h,w=>by cases h;rfl
 | .cell _ _::_,_,h,_=>by simp[Rt] at h
 | .tmp t::l,vs,h,w=>by
  simp only[Rt,Option.map_eq_some_iff] at h;obtain⟨us,h1,rfl⟩:=h;rw[mapM_cons,hg];have ih:=dK (P:=P) hg l us h1 w;simp only[Sem.run_bind,ih,Result.andThen,Sem.run_pure]
theorem dR {P:Program} {n:Nat} {ms:List Nat} {fn:Func} {σ:QC} {a:Act} {vs:List Value} (w:World) (ra:Rel n ms σ a) (h:Rt σ fn.results.toList=some vs):(results fn a.tmps).run P w = .ok (AM vs) w:=by
 unfold results;rw[← Array.toArray_toList (xs:=fn.results),mapM_toArray];simp only[Sem.run_bind,Sem.run_map];rw[dK (P:=P) (σ:=σ) (fun t=>by simp only[ra.val]) fn.results.toList vs h w];simp only[Result.andThen];cases vs with
 | nil=>rfl
 | cons v vs=>cases vs <;> rfl
theorem Bj [Q4] {P:Program} {n:Nat} {fn:Func} {R:Value→World→Prop} {e:Exit} {ms:List Nat} {σ:QC} {w:World} {vs:List Value} (l:List Q2) (he:e = .normal∨e = .ret) (H:Q0 w (mk ms::l))
  (hv:Rt σ fn.results.toList=some vs) (hR:∀ w',Q0 w' l→R (AM vs) w'):Bi P n fn R e ms σ w:=
 ⟨he,.inl ⟨l,H,fun w' H' a ra=>⟨_,dR w' ra hv,hR w' H'⟩⟩⟩
theorem AN [Q4] {P:Program} {n:Nat} {fn:Func} {R:Value→World→Prop} {e:Exit} {σ:QC} {w:World} {vs:List Value} (he:e = .normal∨e = .ret)
  (hv:Rt σ fn.results.toList=some vs) (hR:R (AM vs) w):Bi P n fn R e [] σ w:=
 ⟨he,.inr ⟨rfl,fun a ra=>⟨_,dR w ra hv,hR⟩⟩⟩
theorem mk_nil [Q4] {w:World} {l:List Q2} (H:Q0 w l):Q0 w (mk []::l):=Q0.star.2 H
theorem Z2 [Q4] {P:Program} {n:Nat} {fn:Func} {R:Value→World→Prop} {e:Exit} {σ:QC} {w:World} {vs:List Value} (l:List Q2) (he:e = .normal∨e = .ret) (H:Q0 w l)
  (hv:Rt σ fn.results.toList=some vs) (hR:∀ w',Q0 w' l→R (AM vs) w'):Bi P n fn R e [] σ w:=
 Bj l he (mk_nil H) hv hR
def PB (args:List Value):QC:=fun j=>args.getD j undef
theorem QQ [Q4] {P:Program} {f:FuncId} {fn:Func} {c:Code} {args:List Value} {w:World} {R:Value→World→Prop} (hf:P.funcs[f]? = some fn) (hb:fn.body=some c) (ha:Nat.ble args.length fn.ntmps=true)
  (h:C P fn.ntmps none c (Bi P fn.ntmps fn R) [] (PB args) w):Calls P f args.toArray w (ret R):=by
 refine(callsIn_wide (n:=0)).1 (callsIn_of_wp_marks hf hb trivial ?_);have VO:args.length≤fn.ntmps:=Nat.le_of_ble_eq_true ha
 have ra:Rel fn.ntmps [] (PB args) { tmps:=args.toArray++Array.replicate (fn.ntmps - args.toArray.size) undef,defers:=[] }:=by
  refine⟨by simp;omega,rfl,fun i=>?_⟩;simp only[PB,Array.getD_eq_getD_getElem?,getD_eq_getElem?_getD];rw[Array.getElem?_append];split
  ·simp
  ·rename_i hi;have:args[i]? = none:=by simpa using hi
   rw[this];simp only[Array.getElem?_replicate];split <;> rfl
 refine wpIn_mono (h _ ra) ?_;intro e a w q;cases e with
 | outgrown=>exact q.elim
 | normal=>
  obtain⟨ms,σ,ra,_,q⟩:=q;show LeavesInM Fence.wide 0 P fn a.tmps (ret R) a.defers .returning w;rw[ra.defs]
  rcases q with ⟨l,H,k⟩|⟨rfl,k⟩
  ·exact Q0.take H fun w' H'=>let ⟨v,h1,h2⟩:=k w' H' a ra;⟨v,h1,h2⟩
  ·exact let ⟨v,h1,h2⟩:=k a ra;⟨v,h1,h2⟩
 | ret=>
  obtain⟨ms,σ,ra,_,q⟩:=q;show LeavesInM Fence.wide 0 P fn a.tmps (ret R) a.defers .returning w;rw[ra.defs]
  rcases q with ⟨l,H,k⟩|⟨rfl,k⟩
  ·exact Q0.take H fun w' H'=>let ⟨v,h1,h2⟩:=k w' H' a ra;⟨v,h1,h2⟩
  ·exact let ⟨v,h1,h2⟩:=k a ra;⟨v,h1,h2⟩
 | exit id=>obtain⟨ms,σ,ra,he,_⟩:=q;rcases he with he|he <;> cases he
 | goto l=>obtain⟨ms,σ,ra,he,_⟩:=q;rcases he with he|he <;> cases he
 | panic c=>obtain⟨ms,σ,ra,he,_⟩:=q;rcases he with he|he <;> cases he
theorem call {P:Program} {f:FuncId} {args:Array Value} {w:World} {R R':Value→World→Prop} (h:Calls P f args w (ret R)) (hr:∀ v w,R v w→R' v w):Calls P f args w (ret R'):=
 h.mono (dU hr)
end Go.SL
namespace Go.SL
open List
class T1 (P:Program) (t:TypeId):Prop where
 und:∃ d,P.underlying t=some d∧(∀ fs,d ≠ .struct fs)∧(∀ k e,d ≠ .array k e)
 size:(P.info? t).map (·.size)=some 1
class TN (P:Program) (t:TypeId) (n:outParam Nat):Prop where
 und:(∃ fs,P.underlying t=some (.struct fs))∨(∃ k e,P.underlying t=some (.array k e))
 size:(P.info? t).map (·.size)=some n
class Qf (P:Program) (s:TypeId) (f:Nat) (off:outParam Nat):Prop where
 field:∃ fs fd,P.underlying s=some (.struct fs)∧fs[f]? = some fd∧fd.offset=off∧∃ k,(P.info? fd.type).map (·.size)=some k∧k≠0
class Vv (P:Program) (t:TypeId) (e:outParam TypeId) (size bytes:outParam Nat):Prop where
 und:P.underlying t=some (.slice e)
 info:(P.info? e).map (fun i=>(i.size,i.bytes))=some (size,bytes)
class VF (P:Program) (t:TypeId) (v:outParam Value):Prop where
 zero:(P.info? t).map (·.zero)=some (some v)
class KZ (P:Program) (t:TypeId):Prop where
 und:∃ e,P.underlying t=some (.pointer e)
class QZ (P:Program) (f:FuncId):Prop where
 body:∃ fn,P.funcs[f]? = some fn∧fn.body.isNone=false∧(fn.name == "runtime.NumGoroutine")=false
@[reducible] def row (E:TypeId) (c:List Value):Obj := .cells c.toArray E (0,0)
inductive QY (c:List Value):Nat→Nat→List Value→Prop
 | nil (o:Nat):QY c o 0 []
 | cons {o n:Nat} {v:Value} {l:List Value} (h:c[o]? = some v) (t:QY c (o+1) n l):QY c o (n+1) (v::l)
theorem QY.len {c:List Value} {o n:Nat} {l:List Value} (h:QY c o n l):l.length=n:=by
 induction h with
 | nil o=>rfl
 | cons _ _ ih=>simp[ih]
theorem QY.get {c:List Value} {o n:Nat} {l:List Value} (h:QY c o n l):∀ (j:Nat) (v:Value),l[j]? = some v→c[o+j]? = some v:=by
 induction h with
 | nil o=>intro j v e;simp at e
 | @cons o n u l h t ih=>
  intro j v e;cases j with
  | zero=>simp at e;subst e;exact h
  | succ j=>
   have:=ih j v (by simpa using e);rw[show o+(j+1)=o+1+j by omega];exact this
def wr (c:List Value) (o:Nat):List Value→List Value
 | []=>c
 | v::l=>wr (c.set o v) (o+1) l
section
variable {P:Program} {w:World}
theorem Ua {b o E:Nat} {fz:Nat×Nat} {c:List Value} {v:Value} (h:w.heap[b]? = some (.cells c.toArray E fz)) (hv:c[o]? = some v):w.cell? ⟨b,o,none⟩=some v:=by
 simp[World.cell?,h,hv]
theorem Gj (b o i:Nat):(Addr.mk b o none).add i=⟨b,o+i,none⟩:=by
 unfold Addr.add;split
 ·rename_i e;subst e;rfl
 ·rfl
theorem Cx {b o E:Nat} {c:List Value} (h:w.heap[b]? = some (row E c)):w.frozen? ⟨b,o,none⟩=false:=by
 simp[World.frozen?,h]
theorem dW {t:TypeId} (h:T1 P t):(isAgg t).run P w = .ok false w:=by
 obtain⟨d,hd,h1,h2⟩:=h.und;unfold isAgg underlying;simp only[Sem.run_bind,run_program,Result.andThen_ok,hd,Sem.run_pure]
theorem PC {t:TypeId} {n:Nat} (h:TN P t n):(isAgg t).run P w = .ok true w:=by
 unfold isAgg underlying
 rcases h.und with ⟨fs,hd⟩|⟨k,e,hd⟩ <;> simp only[Sem.run_bind,run_program,Result.andThen_ok,hd,Sem.run_pure]
theorem Ur {t:TypeId} {n:Nat} (h:(P.info? t).map (·.size)=some n):(sizeOf t).run P w = .ok n w:=by
 obtain⟨i,hi,rfl⟩:=Option.map_eq_some_iff.1 h;unfold sizeOf typeInfo;simp only[Sem.run_bind,run_program,Result.andThen_ok,hi,Sem.run_pure]
theorem PD {t:TypeId} (h:T1 P t) {b o E:Nat} {fz:Nat×Nat} {c:List Value} {v:Value} (hb:w.heap[b]? = some (.cells c.toArray E fz)) (hv:c[o]? = some v):(loadVar t ⟨b,o,none⟩).run P w = .ok v w:=by
 unfold loadVar;simp only[Sem.run_bind,dW h,Result.andThen_ok];simp only[Bool.false_eq_true,if_false];unfold load;simp only[Sem.run,Ua hb hv]
theorem PE {t:TypeId} {n:Nat} (h:TN P t n) {b o E:Nat} {fz:Nat×Nat} {c vs:List Value} (hb:w.heap[b]? = some (.cells c.toArray E fz)) (hv:QY c o n vs):(loadVar t ⟨b,o,none⟩).run P w = .ok (.agg vs.toArray) w:=by
 unfold loadVar;simp only[Sem.run_bind,PC h,Result.andThen_ok,if_true,Ur h.size];have hl:=run_loadCells_list (P:=P) (w:=w) ⟨b,o,none⟩ vs (fun j v hj=>by rw[Gj];exact Ua hb (hv.get j v hj));rw[hv.len] at hl;rw[hl];rfl
theorem mS {b o E:Nat} {c:List Value} {v:Value} (h:w.heap[b]? = some (row E c)):(w.setCell ⟨b,o,none⟩ v).heap[b]? = some (row E (c.set o v)):=by
 have Q6:=(Array.getElem?_eq_some_iff.1 h).1;have he:w.heap[b]=row E c:=by simpa [Array.getElem?_eq_getElem Q6] using h
 simp only[World.setCell];rw[Array.getElem?_eq_getElem (by simpa using Q6),Array.getElem_modify_self,he];simp
theorem mc {a:Addr} {v:Value} {k:Nat} (hk:k≠a.block):(w.setCell a v).heap[k]? = w.heap[k]?:=by
 simp only[World.setCell];rw[Array.getElem?_modify];rw[if_neg (fun e=>hk e.symm)]
theorem HL:∀ (vs:List Value) (w:World) (b o E:Nat) (c:List Value) (i:Nat),w.heap[b]? = some (row E c)→o+i+vs.length≤c.length→(∀ v∈vs,v.oneCell'=true) →
  ∃ w',(storeCells ⟨b,o,none⟩ vs i).run P w = .ok () w'∧w'.heap[b]? = some (row E (wr c (o+i) vs))∧(∀ k,k≠b→w'.heap[k]? = w.heap[k]?)∧UG w w'
 | [],w,b,o,E,c,i,h,_,_=>⟨w,by rw[storeCells.eq_def];rfl,h,fun _ _=>rfl,UG.refl w⟩
 | v::vs,w,b,o,E,c,i,h,hl,h1=>by
  rw[storeCells.eq_def];simp only[length_cons] at hl;have hv:=h1 v (by simp);have hc:w.cell? ⟨b,o+i,none⟩=some c[o+i]:=Ua h (by simp);obtain⟨w',r,h2,h3,h4⟩:=HL vs (w.setCell ⟨b,o+i,none⟩ v) b o E (c.set (o+i) v) (i+1) (mS h) (by simp;omega) (fun u hu=>h1 u (by simp[hu]));refine⟨w',?_,?_,fun k hk=>(h3 k hk).trans (mc hk),h4⟩
  ·simp only[Sem.run_bind,Gj]
   have hs:(store ⟨b,o+i,none⟩ v).run P w = .ok () (w.setCell ⟨b,o+i,none⟩ v):=by
    rw[run_store P w _ v .plain hv];simp only[hc,Cx h];rfl
   rw[hs];exact r
  ·rw[h2];rw[show o+(i+1)=o+i+1 by omega];rfl
end
class At (b:Nat) (o:outParam Obj) (l:List Q2):Prop where
 get:∀ h,Vq l h→h b=some o
class Ru (b:Nat) (o:outParam Obj) (l:List Q2) (o':Obj) (l':outParam (List Q2)):Prop where
 get:∀ h,Vq l h→h b=some o
 set:∀ h h',Vq l h→h' b=some o'→(∀ c,c≠b→h' c=h c)→Vq l' h'
instance (priority:=high) At.here {b:Nat} {o:Obj} {l:List Q2}:At b o (pts b o::l):=⟨fun _ ⟨_,_,a,_,_,x,_⟩=>a b o x⟩
instance At.there {b:Nat} {o:Obj} {A:Q2} {l:List Q2} [i:At b o l]:At b o (A::l):=⟨fun _ s=>i.get _ (Cv s)⟩
instance (priority:=high) Ru.here {b:Nat} {o o':Obj} {l:List Q2}:Ru b o (pts b o::l) o' (pts b o'::l):=
 ⟨fun _ ⟨_,_,a,_,_,x,_⟩=>a b o x,fun _ _ s e1 e2=>PR s e1 e2⟩
theorem md {A:Q2} {l l':List Q2} {b:Nat} {o o':Obj} {h h':Hp} (i:Ru b o l o' l') (s:Vq (A::l) h) (e1:h' b=some o') (e2:∀ c,c≠b→h' c=h c):Vq (A::l') h':=by
 obtain⟨f,g,a,e,d,x,y⟩:=s;have hg:=i.get g y;refine⟨f,fun c=>if c=b then some o' else g c,?_,?_,?_,x,i.set g _ y (by simp) (fun c hc=>by simp[hc])⟩
 ·intro c p hc;have YL:c≠b:=fun h0=>by subst h0;exact d c p o hc hg
  rw[e2 c YL];exact a c p hc
 ·intro c p hc;by_cases YL:c=b
  ·subst YL;simp at hc;subst hc;exact e1
  ·simp[YL] at hc;rw[e2 c YL];exact e c p hc
 ·intro c p p' hc Zu;by_cases YL:c=b
  ·subst YL;exact d c p o hc hg
  ·simp[YL] at Zu;exact d c p p' hc Zu
instance Ru.there {b:Nat} {o o':Obj} {A:Q2} {l l':List Q2} [i:Ru b o l o' l']:Ru b o (A::l) o' (A::l'):=
 ⟨fun _ s=>i.get _ (Cv s),fun _ _ s e1 e2=>md i s e1 e2⟩
theorem Q0.at [Q4] {w:World} {l:List Q2} {b:Nat} {o:Obj} [i:At b o l] (h:Q0 w l):w.heap[b]? = some o:=i.get _ h.1
theorem Q0.put [Q4] {w w':World} {l l':List Q2} {b:Nat} {o o':Obj} [i:Ru b o l o' l'] (h:Q0 w l) (e1:w'.heap[b]? = some o') (e2:∀ c,c≠b→w'.heap[c]? = w.heap[c]?) (e:UG w w'):Q0 w' l':=⟨i.set _ _ h.1 e1 e2,h.2.same e⟩
class Lx (w:World) (b:Nat) (o:outParam Obj):Prop where
 h:w.heap[b]? = some o
instance At.old {b:Nat} {o:Obj} {w₀:World} {l:List Q2} [i:Lx w₀ b o]:At b o (SL.old w₀::l):=⟨fun h ⟨f,_,a,_,_,x,_⟩=>by
 have hb:=(Array.getElem?_eq_some_iff.1 i.h).1;exact a b o ((x b hb).trans i.h)⟩
def St (P:Program) (n:Nat) (r:Option Nat) (o:Oper) (σ:QC) (w:World) (K:QC→World→Prop):Prop:=
 ∀ ms a (Q:Exit→Act→World→Prop),Rel n ms σ a→o.wpIn (F r) 0 P a w (fun a' w'=>∃ σ',Rel n ms σ' a'∧K σ' w') Q
section
variable {P:Program} {n:Nat} {r:Option Nat} {ops:Array Oper} {Q:Z5} {ms:List Nat} {σ:QC} {w:World} {rest:List Oper} {o:Oper} {K:QC→World→Prop}
theorem HM (hw:Q9 ops σ o true) (h:St P n r o σ w (fun σ' w'=>Lp P n r ops Q rest ms σ' w')):Lp P n r ops Q (o::rest) ms σ w:=fun a ra=>by
 unfold wpListIn;rw[if_pos (hw.wanted ra)];exact Oper.wpIn_mono (fun a' w' ⟨σ',ra',h'⟩=>h' a' ra') (h ms a (HF n Q) ra)
theorem dA {K':QC→World→Prop} (h:St P n r o σ w K) (hk:∀ σ w,K σ w→K' σ w):St P n r o σ w K':=fun ms a Q ra=>
 Oper.wpIn_mono (fun a' w' ⟨σ',ra',h'⟩=>⟨σ',ra',hk _ _ h'⟩) (h ms a Q ra)
theorem VP {v:Value} {w':World} (hd:Qs n o.dst=true) (UU:∀ c,o.op ≠ .defer c) (Us:(execOp (ev σ) o).run P w = .ok (.value v) w') (h:K (put σ o.dst v) w'):St P n r o σ w K:=fun ms a Q ra=>by
 refine⟨fun _ _=>trivial,?_⟩;rw[Oper.semAt_eq _ _ _ UU,ra.eval,Us];exact⟨_,ra.put v hd,h⟩
theorem Ly {w':World} (hd:Qs n o.dst=true) (UU:∀ c,o.op ≠ .defer c) (Us:(execOp (ev σ) o).run P w = .ok .skip w') (h:K (put σ o.dst undef) w'):St P n r o σ w K:=fun ms a Q ra=>by
 refine⟨fun _ _=>trivial,?_⟩;rw[Oper.semAt_eq _ _ _ UU,ra.eval,Us];exact⟨_,ra.put undef hd,h⟩
theorem me {f:FuncId} {args:Array Value} {w':World} (hd:Qs n o.dst=true) (UU:∀ c,o.op ≠ .defer c) (Us:(execOp (ev σ) o).run P w = .ok (.enter f args) w')
  (h:Calls P f args w' (ret fun v w''=>K (put σ o.dst v) w'')):St P n r o σ w K:=fun ms a Q ra=>by
 refine⟨fun _ _=>trivial,?_⟩;rw[Oper.semAt_eq _ _ _ UU,ra.eval,Us];refine⟨fun hs=>by simp[F] at hs,PA (h.mono fun e w'' q=>?_)⟩;cases e with
 | returned v=>exact⟨_,ra.put v hd,q⟩
 | panicked c=>exact q.elim
 | outgrown=>exact q.elim
theorem mf {yl:Nat} {args:Array Value} (hd:Qs n o.dst=true) (UU:∀ c,o.op ≠ .defer c) (Us:∀ nx,(Instr.yield yl args).run P w = .ok nx w→(execOp (ev σ) o).run P w = .ok nx w)
  (h:Yields P yl args w (fun v w''=>K (put σ o.dst v) w'')):St P n r o σ w K:=fun ms a Q ra=>by
 obtain⟨fn,tmps,assign,body,h1,h2⟩:=h;refine⟨fun _ _=>trivial,?_⟩;rw[Oper.semAt_eq _ _ _ UU,ra.eval,Us _ h1];refine⟨fun hs=>by simp[F] at hs,?_⟩
 have h3:RoundIn (F r) 0 P yl fn tmps assign body w (ret (fun v w''=>K (put σ o.dst v) w'')):=by
  cases r with
  | none=>exact h2
  | some l=>exact h2
 refine RoundIn.mono h3 fun e w'' q=>?_;cases e with
 | returned v=>exact⟨_,ra.put v hd,q⟩
 | panicked c=>exact q.elim
 | outgrown=>exact q.elim
def ZO (op:BinOp) (k:IntKind) (a b:Int):Int:=
 let x:=BitVec.ofInt k.bits a
 let y:=BitVec.ofInt k.bits b
 k.wrap (match op with | .and=>(x &&& y).toNat | .or=>(x ||| y).toNat | .xor=>(x ^^^ y).toNat|_=>(x &&& ~~~y).toNat)
def Wg (k:IntKind) (a b:Int):Int:=k.wrap (a*2 ^ min b.toNat k.bits)
def Rv (k:IntKind) (a b:Int):Int:=a.fdiv (2 ^ min b.toNat k.bits)
def bo:BinOp→Value→Value→Option Value
 | .add,.int k a,.int k' b=>if k=k' then some (.int k (k.wrap (a+b))) else none
 | .sub,.int k a,.int k' b=>if k=k' then some (.int k (k.wrap (a - b))) else none
 | .mul,.int k a,.int k' b=>if k=k' then some (.int k (k.wrap (a*b))) else none
 | .eql,.int k a,.int k' b=>if k=k' then some (.bool (a == b)) else none
 | .neq,.int k a,.int k' b=>if k=k' then some (.bool (a != b)) else none
 | .lss,.int k a,.int k' b=>if k=k' then some (.bool (decide (a < b))) else none
 | .leq,.int k a,.int k' b=>if k=k' then some (.bool (decide (a≤b))) else none
 | .gtr,.int k a,.int k' b=>if k=k' then some (.bool (decide (a > b))) else none
 | .geq,.int k a,.int k' b=>if k=k' then some (.bool (decide (a≥b))) else none
 | .quo,.int k a,.int k' b=>if k=k' then (if b=0 then none else some (.int k (k.wrap (a.tdiv b)))) else none
 | .rem,.int k a,.int k' b=>if k=k' then (if b=0 then none else some (.int k (a.tmod b))) else none
 | .and,.int k a,.int k' b=>if k=k' then some (.int k (ZO .and k a b)) else none
 | .or,.int k a,.int k' b=>if k=k' then some (.int k (ZO .or k a b)) else none
 | .xor,.int k a,.int k' b=>if k=k' then some (.int k (ZO .xor k a b)) else none
 | .andNot,.int k a,.int k' b=>if k=k' then some (.int k (ZO .andNot k a b)) else none
 | .shl,.int k a,.int _ b=>if b < 0 then none else some (.int k (Wg k a b))
 | .shr,.int k a,.int _ b=>if b < 0 then none else some (.int k (Rv k a b))
 | _,_,_=>none
theorem mh {op:BinOp} {t:TypeId} {x y v:Value} (h:bo op x y=some v) (u:TypeId) (X Y:Operand):(do eqGuard op t X Y x y;binOp op t x y:Sem Value).run P w = .ok v w:=by
  unfold bo at h
  split at h <;> first
    | (split at h
       · rename_i hk;cases hk;cases h;simp[eqGuard,binOp,Op.intArith,Op.intCmp]
       · cases h)
    | (split at h
       · rename_i hk;cases hk;split at h
         · cases h
         · rename_i hz;cases h;simp[eqGuard,binOp,Op.intDiv,hz]
       · cases h)
    | (split at h
       · rename_i hk;cases hk;cases h;simp[eqGuard,binOp,Op.intBits,ZO]
       · cases h)
    | (split at h
       · cases h
       · rename_i hz;cases h;simp[eqGuard,binOp,Op.shift,hz,Wg,Rv])
    | cases h
def fo:Value→Option Value
 | .int k a=>some (.int k a)
 | .bool b=>some (.bool b)
 | .string x=>some (.string x)
 | .pointer a=>some (.pointer a)
 | .map a=>some (.map a)
 | .slice a l c=>some (.slice a l c)
 | .agg c=>some (.agg c)
 | .tuple c=>some (.tuple c)
 | .func f a b=>some (.func f a b)
 | .nilFunc=>some .nilFunc
 | .nilIface=>some .nilIface
 | .iface t v=>some (.iface t v)
 | _=>none
theorem EH {v u:Value} (h:fo v=some u):v=u:=by
 cases v <;> simp[fo] at h <;> exact h
def pv (σ:QC):Op→Option Value
 | .move x | .assign x=>fo (ev σ x)
 | .extract t i=>match ev σ t with
  | .tuple vs=>vs.toList[i]?
  | _=>none
 | .makeFunc f first captured=>some (.func f (first.toList.map (ev σ)).toArray (captured.toList.map (ev σ)).toArray)
 | .nilCheck x=>match ev σ x with
  | .pointer (some a)=>some (.pointer (some a))
  | .func (.func f) a b=>some (.func (.func f) a b)
  | .func (.yield f) a b=>some (.func (.yield f) a b)
  | _=>none
 | .unOp .not _ x=>match ev σ x with
  | .bool b=>some (.bool (!b))
  | _=>none
 | .unOp .neg _ x=>match ev σ x with
  | .int k a=>some (.int k (k.wrap (0 - a)))
  | _=>none
 | .pick c a b=>match ev σ c with
  | .bool true=>fo (ev σ a)
  | .bool false=>fo (ev σ b)
  | _=>none
 | .binOp op _ x y _=>bo op (ev σ x) (ev σ y)
 | _=>none
theorem mj (σ:QC) (a:Array Operand):a.map (ev σ)=(a.toList.map (ev σ)).toArray:=by
 apply Array.ext';simp
theorem dB {v:Value} (h:pv σ o.op=some v):(execOp (ev σ) o).run P w = .ok (.value v) w:=by
 unfold execOp;cases ho:o.op <;> rw[ho] at h <;> simp only[pv] at h <;> try (cases h;done)
 case move x=>rw[← EH h];rfl
 case assign x=>rw[← EH h];rfl
 case pick c a b=>
  cases hc:ev σ c <;> rw[hc] at h <;> try simp only at h
  all_goals try cases h
  rename_i t;cases t <;> simp only at h <;> rw[← EH h] <;> simp[asBool,hc]
 case nilCheck x=>
  cases hx:ev σ x <;> rw[hx] at h <;> try simp only at h
  all_goals try cases h
  case pointer p=>
   cases p
   ·cases h
   ·cases h;simp only[hx];rfl
  case func f a b=>cases f <;> cases h <;> simp only[hx] <;> rfl
 case binOp op t x y u=>simp only[Sem.run_bind,mh (P:=P) (w:=w) h u x y,Result.andThen_ok];rfl
 case unOp op t x=>
  cases op <;> try simp only at h
  all_goals try cases h
  all_goals (cases hx:ev σ x <;> rw[hx] at h <;> cases h;simp[Op.unary,Op.intArith,hx])
 case makeFunc f a b=>cases h;simp[Instr.makeFunc,mj]
 case extract t i=>
  cases hx:ev σ t <;> rw[hx] at h <;> try simp only at h
  all_goals try cases h
  rename_i vs;have h':vs[i]? = some v:=by simpa using h
  simp[Instr.extract,hx,h']
theorem dC {v:Value} (h:pv σ o.op=some v):∀ c,o.op ≠ .defer c:=fun c e=>by rw[e] at h;simp[pv] at h
theorem dD {v:Value} (h:pv σ o.op=some v) (hd:Qs n o.dst=true) (k:K (put σ o.dst v) w):St P n r o σ w K:=VP hd (dC h) (dB h) k
theorem VW {s:TypeId} {x:Operand} {f off b i:Nat} {t:TypeId} {p:String} {af:Array Edge} {g:Option (Nat×Bool)} {d:Option Tmp} [hf:Qf P s f off] (hx:ev σ x = .pointer (some ⟨b,i,none⟩)) (hd:Qs n d=true)
  (k:K (put σ d (.pointer (some ⟨b,i+off,none⟩))) w):St P n r ⟨d,.fieldAddr s x f,t,p,af,g⟩ σ w K:=by
 obtain⟨fs,fd,h1,h2,h3,i',h4,h5⟩:=hf.field;refine VP (v := .pointer (some ⟨b,i+off,none⟩)) (w':=w) hd (fun c e=>by cases e) ?_ k;simp only[execOp,hx,Instr.fieldAt,Sem.run_bind,underlying,run_program,Result.andThen_ok,h1,Sem.run_pure,h2,Instr.sureAddr,fieldPlace];have hs:(sizeOf fd.type).run P w = .ok i' w:=Ur h4;simp only[hs,Result.andThen_ok,if_neg h5,Gj,h3,Sem.run_pure]
theorem EI {t:TypeId} (h:T1 P t) {c:List Value} {o:Nat} {v:Value} (hv:c[o]? = some v):(part t c.toArray o).run P w = .ok v w:=by
 unfold part;simp only[Sem.run_bind,dW h,Result.andThen_ok,Bool.false_eq_true,if_false];simp[hv]
theorem QY.extract {c:List Value} {o n:Nat} {l:List Value} (h:QY c o n l):c.toArray.extract o (o+n)=l.toArray:=by
 apply Array.ext';simp only[Array.toList_extract,extract_eq_take_drop];apply ext_getElem?;intro j;have hl:=h.len;by_cases hj:j < n
 ·have Q6:j < l.length:=by omega
  rw[getElem?_take_of_lt (by omega),getElem?_drop,getElem?_eq_getElem Q6];exact h.get j _ (getElem?_eq_getElem Q6)
 ·rw[getElem?_eq_none (by simp;omega),getElem?_eq_none (by omega)]
theorem dE {t:TypeId} {n:Nat} (h:TN P t n) {c vs:List Value} {o:Nat} (hv:QY c o n vs):(part t c.toArray o).run P w = .ok (.agg vs.toArray) w:=by
 unfold part;simp only[Sem.run_bind,PC h,Result.andThen_ok,if_true,Ur h.size,hv.extract,Sem.run_pure]
theorem QA [Q4] {l:List Q2} {t:TypeId} {x:Operand} {b i E:Nat} {fz:Nat×Nat} {c:List Value} {v:Value} {u:TypeId} {p:String} {af:Array Edge} {g:Option (Nat×Bool)} {d:Option Tmp} (H:Q0 w l) (hx:ev σ x = .pointer (some ⟨b,i,none⟩)) [h1:T1 P t] [ha:At b (.cells c.toArray E fz) l] (hv:c[i]? = some v) (hd:Qs n d=true)
  (k:K (put σ d v) w):St P n r ⟨d,.load t x,u,p,af,g⟩ σ w K:=by
 refine VP (v:=v) (w':=w) hd (fun c e=>by cases e) ?_ k;simp only[execOp,hx,Instr.loadAt,Instr.sureAddr,Sem.run_bind,Sem.run_pure,Result.andThen_ok,PD (P:=P) h1 H.at hv]
theorem Vz [Q4] {l:List Q2} {t:TypeId} {x:Operand} {b i E m:Nat} {fz:Nat×Nat} {c vs:List Value} {u:TypeId} {p:String} {af:Array Edge} {g:Option (Nat×Bool)} {d:Option Tmp} (H:Q0 w l) (hx:ev σ x = .pointer (some ⟨b,i,none⟩)) [h1:TN P t m] [ha:At b (.cells c.toArray E fz) l] (hv:QY c i m vs) (hd:Qs n d=true)
  (k:K (put σ d (.agg vs.toArray)) w):St P n r ⟨d,.load t x,u,p,af,g⟩ σ w K:=by
 refine VP (v := .agg vs.toArray) (w':=w) hd (fun c e=>by cases e) ?_ k;simp only[execOp,hx,Instr.loadAt,Instr.sureAddr,Sem.run_bind,Sem.run_pure,Result.andThen_ok,PE (P:=P) h1 H.at hv]
theorem dF {t:TypeId} {m:Nat} {b i E:Nat} {c:List Value} {v:Value} (hs:(P.info? t).map (·.size)=some m) (hb:w.heap[b]? = some (row E c)) (hl:v.cells.toList.length=m) (VO:i+m≤c.length) (h1:∀ u∈v.cells.toList,u.oneCell'=true) :
  ∃ w',(storeVar t ⟨b,i,none⟩ v).run P w = .ok () w'∧w'.heap[b]? = some (row E (wr c i v.cells.toList))∧(∀ k,k≠b→w'.heap[k]? = w.heap[k]?)∧UG w w':=by
 obtain⟨w',r,h2,h3,h4⟩:=HL (P:=P) v.cells.toList w b i E c 0 hb (by omega) h1;refine⟨w',?_,h2,h3,h4⟩;unfold storeVar;have hz:v.cells.size=m:=by simpa using hl
 simp only[Sem.run_bind,Ur hs,Result.andThen_ok,hz];simp[r]
theorem Zv [Q4] {l l':List Q2} {t:TypeId} {x y:Operand} {b i E:Nat} {c:List Value} {v:Value} {u:TypeId} {p:String} {af:Array Edge} {g:Option (Nat×Bool)} {d:Option Tmp} (H:Q0 w l) (hx:ev σ x = .pointer (some ⟨b,i,none⟩)) (mn:fo (ev σ y)=some v) (h1:T1 P t) (ho:v.oneCell'=true)
  [ha:Ru b (row E c) l (row E (c.set i v)) l'] (hi:i < c.length) (hd:Qs n d=true)
  (k:∀ w',Q0 w' l'→K (put σ d undef) w'):St P n r ⟨d,.store t x y,u,p,af,g⟩ σ w K:=by
 have hy:ev σ y=v:=EH mn;have hc:v.cells.toList=[v]:=by cases v <;> first|rfl|(simp[Value.oneCell'] at ho)
 obtain⟨w',hr,h2,h3,h4⟩:=dF (P:=P) (t:=t) (m:=1) (i:=i) (v:=v) h1.size (ha.get _ H.1) (by rw[hc];rfl) (by omega) (by rw[hc];simpa using ho);rw[hc] at h2;have Yj:w'.heap[b]? = some (row E (c.set i v)):=h2;refine Ly (w':=w') hd (fun c e=>by cases e) ?_ (k w' ⟨ha.set _ _ H.1 Yj h3,H.2.same h4⟩);simp only[execOp,hx,hy,Instr.storeAt,Instr.sureAddr,Sem.run_bind,Sem.run_pure,Result.andThen_ok,hr]
theorem U0 [Q4] {l l':List Q2} {t:TypeId} {x y:Operand} {b i E m:Nat} {c vs:List Value} {u:TypeId} {p:String} {af:Array Edge} {g:Option (Nat×Bool)} {d:Option Tmp} (H:Q0 w l) (hx:ev σ x = .pointer (some ⟨b,i,none⟩)) (hy:ev σ y = .agg vs.toArray) (h1:TN P t m) (hm:vs.length=m) (ho:vs.all (·.oneCell')=true)
  [ha:Ru b (row E c) l (row E (wr c i vs)) l'] (hi:i+m≤c.length) (hd:Qs n d=true)
  (k:∀ w',Q0 w' l'→K (put σ d undef) w'):St P n r ⟨d,.store t x y,u,p,af,g⟩ σ w K:=by
 have hc:(Value.agg vs.toArray).cells.toList=vs:=by simp[Value.cells]
 obtain⟨w',hr,h2,h3,h4⟩:=dF (P:=P) (t:=t) (m:=m) (i:=i) (v := .agg vs.toArray) h1.size (ha.get _ H.1) (by rw[hc];exact hm) hi (by rw[hc];exact all_eq_true.1 ho);rw[hc] at h2;refine Ly (w':=w') hd (fun c e=>by cases e) ?_ (k w' (H.put h2 h3 h4));simp only[execOp,hx,hy,Instr.storeAt,Instr.sureAddr,Sem.run_bind,Sem.run_pure,Result.andThen_ok,hr]
def VK:Value→List Value
 | .agg cs=>cs.toList
 | v=>[v]
theorem AO (v:Value):v.cells=(VK v).toArray:=by cases v <;> simp[Value.cells,VK]
theorem dH [Q4] {l:List Q2} {E:TypeId} {x:Operand} {v:Value} {u:TypeId} {p:String} {af:Array Edge} {g:Option (Nat×Bool)} {d:Option Tmp} (H:Q0 w l) (hx:ev σ x=v) (hd:Qs n d=true)
  (k:∀ b w',Q0 w' (pts b (row E (VK v))::l)→K (put σ d (.pointer (some ⟨b,0,none⟩))) w'):St P n r ⟨d,.box E x,u,p,af,g⟩ σ w K:=by
 refine VP (v := .pointer (some ⟨w.heap.size,0,none⟩)) (w':={ w with heap:=w.heap.push (row E (VK v)) }) hd (fun c e=>by cases e) ?_ (k _ _ (H.new _));simp only[execOp,hx,Instr.box,newVar,newRow,Sem.run_bind,run_newObj,Result.andThen_ok,Sem.run_pure,AO]
theorem PF {t:TypeId} {v:Value} (h:VF P t v):(zeroValue t).run P w = .ok v w:=by
 obtain⟨i,hi,hz⟩:=Option.map_eq_some_iff.1 h.zero;unfold zeroValue typeInfo;simp only[Sem.run_bind,run_program,Result.andThen_ok,hi,Sem.run_pure,hz]
theorem YH [Q4] {l:List Q2} {E:TypeId} {v:Value} {u:TypeId} {p:String} {af:Array Edge} {g:Option (Nat×Bool)} {d:Option Tmp} (H:Q0 w l) [hz:VF P E v] (hd:Qs n d=true)
  (k:∀ b w',Q0 w' (pts b (row E (VK v))::l)→K (put σ d (.pointer (some ⟨b,0,none⟩))) w'):St P n r ⟨d,.alloc E,u,p,af,g⟩ σ w K:=by
 refine VP (v := .pointer (some ⟨w.heap.size,0,none⟩)) (w':={ w with heap:=w.heap.push (row E (VK v)) }) hd (fun c e=>by cases e) ?_ (k _ _ (H.new _));simp only[execOp,Instr.alloc,newVar,newRow,Sem.run_bind,run_newObj,Result.andThen_ok,Sem.run_pure,AO,PF (P:=P) (w:=w) hz]
theorem Lz {f:FuncId} (h:QZ P f) (args:Array Value):(callFunc f args).run P w = .ok (.enter f args) w:=by
 obtain⟨fn,h1,h2,h3⟩:=h.body;unfold callFunc;simp only[Sem.run_bind,run_program,Result.andThen_ok,h1,h3,h2];simp
theorem V1 {f:FuncId} {x:Operand} {xs:List Operand} {ts:Array TypeId} {a b:List Value} {u:TypeId} {p:String} {af:Array Edge} {g:Option (Nat×Bool)} {d:Option Tmp} (hx:ev σ x = .func (.func f) a.toArray b.toArray) [hb:QZ P f] (hd:Qs n d=true)
  (k:Calls P f ((a++xs.map (ev σ))++b).toArray w (ret fun v w'=>K (put σ d v) w')):St P n r ⟨d,.call { callee := .value x,args:=xs.toArray,argTypes:=ts },u,p,af,g⟩ σ w K:=by
 refine me (f:=f) (args:=((a++xs.map (ev σ))++b).toArray) (w':=w) hd (fun c e=>by cases e) ?_ k;simp only[execOp,resolve,hx,Deferred.ofValue,Sem.run_bind,Sem.run_pure,Result.andThen_ok,invoke];rw[Lz hb];simp
theorem Bk {yl:Nat} {x:Operand} {xs:List Operand} {ts:Array TypeId} {u:TypeId} {p:String} {af:Array Edge} {g:Option (Nat×Bool)} {d:Option Tmp} (hx:ev σ x = .func (.yield yl) #[] #[]) (hd:Qs n d=true)
  (k:Yields P yl (xs.map (ev σ)).toArray w (fun v w'=>K (put σ d v) w')):St P n r ⟨d,.call { callee := .value x,args:=xs.toArray,argTypes:=ts },u,p,af,g⟩ σ w K:=by
 refine mf (yl:=yl) (args:=(xs.map (ev σ)).toArray) hd (fun c e=>by cases e) ?_ k;intro nx hn;simp only[execOp,resolve,hx,Deferred.ofValue,Sem.run_bind,Sem.run_pure,Result.andThen_ok,invoke];simpa using hn
end
end Go.SL
namespace Go.SL
open List
section
variable {P:Program} {n:Nat} {r:Option Nat} {ops:Array Oper} {Q:Z5} {ms:List Nat}
def AP (P:Program) (n:Nat) (r:Option Nat) (ops:Array Oper) (i:Nat) (σ:QC) (w:World) (K:QC→World→Prop):Prop:=
 ∃ o,ops[i]? = some o∧((Q9 ops σ o true∧St P n r o σ w K)∨(Q9 ops σ o false∧Qs n o.dst=true∧K (put σ o.dst undef) w))
def hit (D:List Nat) (L:Array Bool):Bool:=D.any fun d=>L.getD d false
def YR (ivs:List (List Nat×(World→Prop))) (L:Array Bool) (w:World):Prop:=∀ p∈ivs,hit p.1 L=true∨p.2 w
theorem YR.nil {L:Array Bool} {w:World}:YR [] L w:=fun _ h=>by cases h
theorem YR.cons {D:List Nat} {rd:World→Prop} {ivs:List (List Nat×(World→Prop))} {L:Array Bool} {w:World} (h:hit D L=true∨rd w) (t:YR ivs L w):YR ((D,rd)::ivs) L w:=fun p hp=>by
 rcases mem_cons.1 hp with rfl|hp
 ·exact h
 ·exact t p hp
def Any (P:Program) (n:Nat) (r:Option Nat) (ops:Array Oper) (ivs:List (List Nat×(World→Prop))) (T:QC→World→Prop):Nat→Array Bool→QC→World→Prop
 | 0,listed,σ,w=>YR ivs listed w∧Region.ready .any ops listed=[]∧T σ w
 | f+1,listed,σ,w=>YR ivs listed w∧(Region.ready .any ops listed=[]→T σ w)∧∀ i∈Region.ready .any ops listed,AP P n r ops i σ w (Any P n r ops ivs T f (listed.setIfInBounds i true))
theorem AP.mono {i:Nat} {σ:QC} {w:World} {K K':QC→World→Prop} (h:AP P n r ops i σ w K) (hk:∀ σ w,K σ w→K' σ w):AP P n r ops i σ w K':=by
 obtain⟨o,ho,⟨h1,h2⟩|⟨h1,h2,h3⟩⟩:=h
 ·exact⟨o,ho,.inl ⟨h1,dA h2 hk⟩⟩
 ·exact⟨o,ho,.inr ⟨h1,h2,hk _ _ h3⟩⟩
theorem AP.sound {i:Nat} {σ:QC} {w:World} {K:QC→World→Prop} {K':Act→World→Prop} (h:AP P n r ops i σ w K) (hk:∀ σ w a,Rel n ms σ a→K σ w→K' a w) {a:Act} (ra:Rel n ms σ a) :
  wpOpIn (F r) 0 P ops (HF n Q) i K' a w:=by
 obtain⟨o,ho,⟨h1,h2⟩|⟨h1,h2,h3⟩⟩:=h
 ·unfold wpOpIn;simp only[ho,h1.wanted ra,if_true];exact Oper.wpIn_mono (fun a' w' ⟨σ',ra',q⟩=>hk σ' w' a' ra' q) (h2 ms a _ ra)
 ·unfold wpOpIn;simp only[ho,h1.wanted ra,Bool.false_eq_true,if_false];exact⟨fun _ _=>trivial,hk _ _ _ (ra.put undef h2) h3⟩
theorem Any.sound {ivs:List (List Nat×(World→Prop))} {T:QC→World→Prop} (hT:∀ σ w,T σ w→Q .normal ms σ w):∀ (f:Nat) (listed:Array Bool) (σ:QC) (w:World) (a:Act),Any P n r ops ivs T f listed σ w→Rel n ms σ a →
  wpAnyIn (F r) 0 P .any ops (HF n Q) f listed a w
 | 0,_,σ,w,a,h,ra=>⟨h.2.1,ms,σ,ra,hT _ _ h.2.2⟩
 | f+1,_,σ,w,a,h,ra=>⟨fun h0=>⟨ms,σ,ra,hT _ _ (h.2.1 h0)⟩,fun i hi=>(h.2.2 i hi).sound (fun σ' w' a' ra' q=>Any.sound hT f _ σ' w' a' q ra') ra⟩
theorem dI {id:Nat} {l:List Oper} {σ:QC} {w:World} (hm:P.follows .mixedOrders=true)
  (h:Any P n r l.toArray [] (fun σ w=>Q .normal ms σ w) l.length (Array.replicate l.length false) σ { w with drawn:=w.drawn+1 }):C P n r (.region id l.toArray true) Q ms σ w:=fun a ra=>
 wpIn_region_any hm (Any.sound (fun _ _ h=>h) _ _ σ _ a (by simpa using h) ra)
def Cy (P:Program) (ops:Array Oper) (Inv:World→Prop) (i:Nat) (σ:QC) (v:Value):Prop:=
 ∃ o,ops[i]? = some o∧(∀ c,o.op ≠ .defer c)∧((Q9 ops σ o true∧∀ w,Inv w→(execOp (ev σ) o).run P w = .ok (.value v) w)∨(Q9 ops σ o false∧v=undef))
theorem Cy.op1 {Inv:World→Prop} {i:Nat} {σ:QC} {v:Value} {w:World} {K:QC→World→Prop} (h:Cy P ops Inv i σ v) (hw:Inv w) (hd:Qs n ((ops[i]?).bind (·.dst))=true) (hk:K (put σ ((ops[i]?).bind (·.dst)) v) w) :
  AP P n r ops i σ w K:=by
 obtain⟨o,ho,UU,h⟩:=h;have ed:(ops[i]?).bind (·.dst)=o.dst:=by rw[ho];rfl
 rw[ed] at hd hk
 rcases h with ⟨h1,h2⟩|⟨h1,rfl⟩
 ·exact⟨o,ho,.inl ⟨h1,VP hd UU (h2 w hw) hk⟩⟩
 ·exact⟨o,ho,.inr ⟨h1,hd,hk⟩⟩
theorem dJ {σ:QC} {d:Option Tmp} {v:Value} {x:Operand} (h:∀ t,d=some t→x ≠ .tmp t):ev (put σ d v) x=ev σ x:=by
 cases d with
 | none=>rfl
 | some t=>
  cases x with
  | tmp u=>
   have QB:u≠t:=fun e=>h t rfl (by rw[e]);show (bif Nat.beq u t then v else σ u)=σ u;cases hb:Nat.beq u t with
   | false=>rfl
   | true=>exact absurd (Nat.eq_of_beq_eq_true hb) QB
  | const v=>rfl
  | global g=>rfl
  | func f=>rfl
theorem mq {σ:QC} {d e:Nat} {v u:Value} (h:d≠e):Wf (Wf σ d v) e u=Wf (Wf σ e u) d v:=by
 funext j
 unfold Wf;cases h1:Nat.beq j e <;> cases h2:Nat.beq j d <;> try rfl
 exact absurd ((Nat.eq_of_beq_eq_true h2).symm.trans (Nat.eq_of_beq_eq_true h1)) h
theorem dL {σ:QC} {x y:Option Tmp} {v u:Value} (h:∀ d,x=some d→y≠some d):put (put σ x v) y u=put (put σ y u) x v:=by
 cases x with
 | none=>rfl
 | some d=>
  cases y with
  | none=>rfl
  | some e=>exact mq (fun he=>h d rfl (by rw[he]))
theorem dM (o:Oper) (hs:∀ cs b,o.op ≠ .select cs b) (σ:QC) (dst:Option Tmp) (v:Value) (h:∀ d,dst=some d→d∉o.looksAt ops):execOp (ev (put σ dst v)) o=execOp (ev σ) o:=
 execOp_congr o hs fun x hx=>dJ fun d hd RH=>h d hd (by
  subst RH;exact mem_append_left _ (mem_filterMap.2 ⟨.tmp d,by simpa using hx,rfl⟩))
theorem mr {σ:QC} {d:Option Tmp} {v:Value} {j:Nat} (h:∀ t,d=some t→t∉((ops[j]?).bind (·.dst)).toList):gv ops (put σ d v) j=gv ops σ j:=by
 unfold gv;cases hj:(ops[j]?).bind (·.dst) with
 | none=>rfl
 | some t=>
  have:put σ d v t=σ t:=dJ (σ:=σ) (d:=d) (v:=v) (x := .tmp t) (fun u hu e=>h u hu (by rw[hj];cases e;simp));simp only[Option.map_some,this]
theorem M0 {o:Oper} {σ:QC} {d:Option Tmp} {v:Value} {t:Bool} (h:∀ u,d=some u→u∉o.looksAt ops):Q9 ops (put σ d v) o t↔Q9 ops σ o t:=by
 unfold Q9;cases hg:o.guard with
 | none=>rfl
 | some jw=>
  obtain⟨j,want⟩:=jw
  have e:gv ops (put σ d v) j=gv ops σ j:=mr (fun u hu hm=>h u hu (by
   unfold Oper.looksAt;rw[hg];exact mem_append_right _ hm))
  simp only[e]
theorem Cy.put {Inv:World→Prop} {i j:Nat} {oi oj:Oper} {σ:QC} {v u:Value} (hi:ops[i]? = some oi) (hj:ops[j]? = some oj) (GF:oi.apart ops oj=true) (mw:∀ cs b,oi.op ≠ .select cs b)
  (h:Cy P ops Inv i σ v):Cy P ops Inv i (put σ oj.dst u) v:=by
 obtain⟨o,ho,UU,h⟩:=h;have:o=oi:=Option.some.inj (ho.symm.trans hi);subst this;obtain⟨h1,h2,h3⟩:=Oper.apart_spec GF;refine⟨o,ho,UU,?_⟩
 rcases h with ⟨a,b⟩|⟨a,b⟩
 ·exact .inl ⟨(M0 h3).2 a,fun w hw=>by rw[dM (ops:=ops) o mw σ oj.dst u h3];exact b w hw⟩
 ·exact .inr ⟨(M0 h3).2 a,b⟩
theorem mx {oi oj:Oper} {σ:QC} {v:Value} {w:World} {K:QC→World→Prop} (GF:oi.apart ops oj=true) (my:∀ cs b,oj.op ≠ .select cs b) (M3:∀ c,oj.op ≠ .defer c)
  (hd:Qs n oi.dst=true) (Lw:Qs n oj.dst=true) (h:St P n r oj (put σ oi.dst v) w K):St P n r oj σ w (fun σ' w'=>∃ u,σ'=put σ oj.dst u∧K (put σ' oi.dst v) w'):=fun ms a Q ra=>by
 obtain⟨h1,h2,h3⟩:=Oper.apart_spec GF;have h:=(h ms (a.put oi.dst v) (fun _ _ _=>False) (ra.put v hd)).2;refine⟨fun _ _=>trivial,?_⟩;have ra':=ra.put v hd;rw[Oper.semAt_eq _ _ _ M3,ra'.eval,dM (ops:=ops) oj my σ oi.dst v h1] at h;rw[Oper.semAt_eq _ _ _ M3,ra.eval]
 have QX:∀ (u:Value) (w':World),(∃ σ',Rel n ms σ' ((a.put oi.dst v).put oj.dst u)∧K σ' w')→∃ σ',Rel n ms σ' (a.put oj.dst u)∧∃ u',σ'=put σ oj.dst u'∧K (put σ' oi.dst v) w':=by
  rintro u w' ⟨σ',ra2,hk⟩;have ra3:=(ra.put v hd).put u Lw
  have e:σ'=put (put σ oi.dst v) oj.dst u:=by
   funext i
   rw[← ra2.val,← ra3.val]
  subst e;refine⟨_,ra.put u Lw,u,rfl,?_⟩;rw[← dL h2];exact hk
 generalize (execOp (ev σ) oj).run P w=Rt at *;cases Rt with
 | ok x w'=>
  cases x <;> simp only[Oper.uponIn] at h ⊢
  case value u=>exact QX u w' h
  case skip=>exact QX undef w' h
  case defer d=>
   obtain⟨σ',ra2,_⟩:=h;have e1:=ra2.defs;have e2:=ra'.defs;exfalso
   have e3:(d::(a.put oi.dst v).defers)=PW ms:=by
    rw[← e1];cases oj.dst <;> rfl
   rw[e2] at e3;have:=congrArg List.length e3;simp at this
  case enter f args=>
   refine⟨h.1,CallsIn.mono h.2 fun e w'' he=>?_⟩;cases e with
   | returned u=>exact QX u w'' he
   | panicked c=>exact he.elim
   | outgrown=>obtain⟨_,_,q⟩:=he;exact q.elim
  case row row args=>exact⟨h.1,RowsIn.mono h.2 fun u w'' he=>QX u w'' he⟩
  case round l f tmps assign body=>
   refine⟨h.1,RoundIn.mono h.2 fun e w'' he=>?_⟩;cases e with
   | returned u=>exact QX u w'' he
   | panicked c=>exact he.elim
   | outgrown=>obtain⟨_,_,q⟩:=he;exact q.elim
 | halt x w'=>
  cases x <;> simp only[Oper.uponIn] at h ⊢
def M4 (n:Nat) (ops:Array Oper):Bool:=ops.toList.all fun o=>Qs n o.dst && (match o.op with | .select _ _=>false | .defer _=>false|_=>true)
theorem M5 (h:M4 n ops=true) {j:Nat} {o:Oper} (hj:ops[j]? = some o):Qs n o.dst=true∧(∀ cs b,o.op ≠ .select cs b)∧(∀ c,o.op ≠ .defer c):=by
 have hm:o∈ops.toList:=by
  have:=Array.mem_of_getElem? hj;simpa using this
 have:=all_eq_true.1 h o hm;simp only[Bool.and_eq_true] at this;refine⟨this.1,fun cs b e=>?_,fun c e=>?_⟩
 ·have h2:=this.2;rw[e] at h2;cases h2
 ·have h2:=this.2;rw[e] at h2;cases h2
theorem mz {i j:Nat} {oi:Oper} {σ:QC} {v:Value} {w:World} {K:QC→World→Prop} (hf:M4 n ops=true) (hi:ops[i]? = some oi) (GF:∀ oj,ops[j]? = some oj→oi.apart ops oj=true)
  (h:AP P n r ops j (put σ oi.dst v) w K):AP P n r ops j σ w (fun σ' w'=>∃ oj u,ops[j]? = some oj∧σ'=put σ oj.dst u∧K (put σ' oi.dst v) w'):=by
 obtain⟨oj,hj,h⟩:=h;obtain⟨d1,_,_⟩:=M5 hf hi;obtain⟨d2,s2,f2⟩:=M5 hf hj;have ha:=GF oj hj;obtain⟨h1,h2,h3⟩:=Oper.apart_spec ha;refine⟨oj,hj,?_⟩
 rcases h with ⟨a,b⟩|⟨a,b,c⟩
 ·exact .inl ⟨(M0 h1).1 a,dA (mx ha s2 f2 d1 d2 b) fun σ' w' ⟨u,e,k⟩=>⟨oj,u,hj,e,k⟩⟩
 ·exact .inr ⟨(M0 h1).1 a,b,oj,undef,hj,rfl,by rw[← dL h2];exact c⟩
def tw (ops:Array Oper) (i:Nat):Nat→Nat→Bool
 | 0,_=>false
 | f+1,j=>match ops[j]? with
  | some o=>o.after.any fun e=>Region.binds .any e && (e.on == i || tw ops i f e.on)
  | none=>false
def EJ (ops:Array Oper) (L:Array Bool):Prop:=∀ j oj,ops[j]? = some oj→L.getD j false=true→∀ e∈oj.after,Region.binds .any e=true→L.getD e.on false=true
theorem EJ.set {L:Array Bool} {i:Nat} (h:EJ ops L) (hi:i∈Region.ready .any ops L):EJ ops (L.setIfInBounds i true):=fun j oj hj hl e he hb=>by
 obtain⟨_,oi,n7,ZG⟩:=mem_ready.1 hi;by_cases ZA:i=j
 ·subst ZA;have:oj=oi:=Option.some.inj (hj.symm.trans n7);subst this;exact getD_set_true (ZG e he hb)
 ·rw[getD_set_ne false ZA] at hl;exact getD_set_true (h j oj hj hl e he hb)
theorem dN {i:Nat} {L:Array Bool} (hc:EJ ops L) (hi:L.getD i false=false):∀ (f j:Nat),tw ops i f j=true→L.getD j false=false∧j∉Region.ready .any ops L
 | 0,_,h=>by cases h
 | f+1,j,h=>by
  unfold tw at h;split at h
  ·rename_i o ho;obtain⟨e,he,hb⟩:=Array.any_eq_true'.1 h;simp only[Bool.and_eq_true,Bool.or_eq_true,beq_iff_eq] at hb
   have Cz:L.getD e.on false=false:=by
    rcases hb.2 with h3|h3
    ·rw[h3];exact hi
    ·exact(dN hc hi f e.on h3).1
   refine⟨?_,fun hr=>?_⟩
   ·cases hl:L.getD j false with
    | false=>rfl
    | true=>rw[hc j o ho hl e he hb.1] at Cz;cases Cz
   ·obtain⟨_,o',HN,ZG⟩:=mem_ready.1 hr;have:o=o':=Option.some.inj (ho.symm.trans HN);subst this;rw[ZG e he hb.1] at Cz;cases Cz
  ·cases h
theorem PH {D:List Nat} {L:Array Bool} {j:Nat} (h:hit D L=false) (hj:j∉D):hit D (L.setIfInBounds j true)=false:=by
 unfold hit at *;rw[any_eq_false] at *;intro d hd;have:=h d hd;have QB:j≠d:=fun e=>hj (e▸hd);rw[getD_set_ne false QB];exact this
theorem n8 {D:List Nat} {L:Array Bool} {j:Nat} (h:hit D (L.setIfInBounds j true)=true) (hj:j∉D):hit D L=true:=by
 cases e:hit D L with
 | true=>rfl
 | false=>rw[PH e hj] at h;cases h
theorem Any.mono {ivs ivs':List (List Nat×(World→Prop))} {T:QC→World→Prop} (hI:∀ p∈ivs,p∈ivs'):∀ (f:Nat) (listed:Array Bool) (σ:QC) (w:World),Any P n r ops ivs' T f listed σ w→Any P n r ops ivs T f listed σ w
 | 0,_,_,w,h=>⟨fun p hp=>h.1 p (hI p hp),h.2⟩
 | f+1,_,_,w,h=>⟨fun p hp=>h.1 p (hI p hp),h.2.1,fun j hj=>(h.2.2 j hj).mono fun σ w=>Any.mono hI f _ σ w⟩
theorem Any.inv {ivs:List (List Nat×(World→Prop))} {T:QC→World→Prop}:∀ {f:Nat} {listed:Array Bool} {σ:QC} {w:World},Any P n r ops ivs T f listed σ w→YR ivs listed w
 | 0,_,_,_,h=>h.1
 | _+1,_,_,_,h=>h.1
theorem dO {i:Nat} {L:Array Bool} (h:i∈Region.ready .any ops L):L.getD i false=false:=by
 obtain⟨h0,o,ho,_⟩:=mem_ready.1 h
 rcases Nat.lt_or_ge i L.size with h'|h'
 ·simp[h'] at h0 ⊢;exact h0
 ·simp[Array.getElem?_eq_none h'] at h0
theorem Any.first {ivs:List (List Nat×(World→Prop))} {rd:World→Prop} {T:QC→World→Prop} {i:Nat} {oi:Oper} {v:Value} (D:List Nat)
  (hf:M4 n ops=true) (hi:ops[i]? = some oi) (hD:∀ d∈D,d≠i∧tw ops i ops.size d=true) (n9:∀ p∈ivs,i∉p.1) :
  ∀ (f:Nat) (listed:Array Bool) (σ:QC) (w:World),EJ ops listed→hit D listed=false →
   (∀ j oj,ops[j]? = some oj→j≠i→listed.getD j true=false→(∀ e∈oj.after,Region.binds .any e=true→e.on≠i)→oi.apart ops oj=true) →
   i∈Region.ready .any ops listed→Cy P ops rd i σ v →
   Any P n r ops ((D,rd)::ivs) T f (listed.setIfInBounds i true) (put σ oi.dst v) w→Any P n r ops ivs T (f+1) listed σ w:=by
 have dP:Qs n ((ops[i]?).bind (·.dst))=true:=by rw[hi];exact(M5 hf hi).1
 have edi:(ops[i]?).bind (·.dst)=oi.dst:=by rw[hi];rfl
 have nQ:i∉D:=fun h=>(hD i h).1 rfl;have Xr:∀ p∈ivs,p∈(D,rd)::ivs:=fun p hp=>mem_cons_of_mem _ hp;have D0:∀ L w,YR ((D,rd)::ivs) (L.setIfInBounds i true) w→YR ivs L w:=fun L w h p hp=>(h p (Xr p hp)).imp (fun e=>n8 e (n9 p hp)) id;have Qu:∀ L w,hit D L=false→YR ((D,rd)::ivs) (L.setIfInBounds i true) w→rd w:=fun L w hh h=>(h (D,rd) (mem_cons_self ..)).resolve_left (by rw[PH hh nQ];simp);intro f
 induction f with
 | zero=>
  intro listed σ w hc hh _ hr hy H;refine⟨D0 _ w H.inv,fun h=>(by rw[h] at hr;cases hr),fun j hj=>?_⟩;by_cases Yf:j=i
  ·subst Yf;exact hy.op1 (Qu _ w hh H.inv) dP (by rw[edi];exact Any.mono Xr _ _ _ _ H)
  ·have:=ready_mono hj Yf;rw[H.2.1] at this;cases this
 | succ f ih=>
  intro listed σ w hc hh Zw hr hy H;refine⟨D0 _ w H.inv,fun h=>(by rw[h] at hr;cases hr),fun j hj=>?_⟩;by_cases Yf:j=i
  ·subst Yf;exact hy.op1 (Qu _ w hh H.inv) dP (by rw[edi];exact Any.mono Xr _ _ _ _ H)
  ·have nV:j∉D:=fun h=>(dN hc (dO hr) _ _ (hD j h).2).2 hj;have h1:=H.2.2 j (ready_mono hj Yf);obtain⟨dS,oj,M6,ZG⟩:=mem_ready.1 hj
   have PI:∀ e∈oj.after,Region.binds .any e=true→e.on≠i:=fun e he hb RI=>by
    have h1:=ZG e he hb;rw[RI,dO hr] at h1;cases h1
   have GF:=Zw j oj M6 Yf dS PI;refine(mz hf hi (fun o ho=>by rw[Option.some.inj (ho.symm.trans M6)];exact GF) h1).mono ?_;rintro σ' w' ⟨oj',u,nY,rfl,h3⟩;have ej:oj'=oj:=Option.some.inj (nY.symm.trans M6);subst ej
   have nZ:∀ k ok,ops[k]? = some ok→k≠i→(listed.setIfInBounds j true).getD k true=false →
     (∀ e∈ok.after,Region.binds .any e=true→e.on≠i)→oi.apart ops ok=true:=fun k ok hk PJ Cz VZ=>by
    refine Zw k ok hk PJ ?_ VZ;by_cases KG:j=k
    ·subst KG;exact dS
    ·rw[getD_set_ne true KG] at Cz;exact Cz
   rw[← Array.setIfInBounds_comm _ _ Yf] at h3;exact ih (listed.setIfInBounds j true) _ w' (hc.set hj) (PH hh nV) nZ (ready_mono hr (Ne.symm Yf)) (hy.put hi M6 GF (M5 hf hi).2.1) h3
def dT (ops:Array Oper) (L:Array Bool):Bool:=(List.range ops.size).all fun j => !L.getD j false || match ops[j]? with
 | some o=>o.after.all fun e => !Region.binds .any e || L.getD e.on false
 | none=>true
theorem nG {L:Array Bool} (h:dT ops L=true):EJ ops L:=fun j oj hj hl e he hb=>by
 have Q6:j < ops.size:=(Array.getElem?_eq_some_iff.1 hj).1;have h1:=all_eq_true.1 h j (mem_range.2 Q6);rw[hl,hj] at h1;simp only[Bool.not_true,Bool.false_or] at h1;have h2:=Array.all_eq_true_iff_forall_mem.1 h1 e he;simpa [hb] using h2
def ZB (n:Nat) (ops:Array Oper) (ivs:List (List Nat)) (L:Array Bool) (i:Nat) (D:List Nat):Bool:=
 M4 n ops && dT ops L && (D.all fun d=>d != i && tw ops i ops.size d) && !hit D L && Region.free .any ops L i && (Region.ready .any ops L).contains i && ivs.all fun p => !p.contains i
variable {ivs:List (List Nat×(World→Prop))} {T:QC→World→Prop} {f:Nat} {L:Array Bool} {σ:QC} {w:World} {l:List Q2}
theorem HP {o:Oper} {v:Value} {rd:World→Prop} (i:Nat) (D:List Nat) (hi:ops[i]? = some o) (hy:Cy P ops rd i σ v) (hs:ZB n ops (ivs.map (·.1)) L i D=true)
  (h:Any P n r ops ((D,rd)::ivs) T f (L.setIfInBounds i true) (put σ o.dst v) w):Any P n r ops ivs T (f+1) L σ w:=by
 simp only[ZB,Bool.and_eq_true,Bool.not_eq_true'] at hs;obtain⟨⟨⟨⟨⟨⟨h1,h2⟩,h3⟩,h4⟩,h5⟩,h6⟩,h7⟩:=hs;refine Any.first D h1 hi (fun d hd=>?_) (fun p hp=>?_) f L σ w (nG h2) h4 (Region.free_spec hi h5) (by simpa using h6) hy h
 ·have:=all_eq_true.1 h3 d hd;simp only[Bool.and_eq_true,bne_iff_ne] at this;exact this
 ·have:=all_eq_true.1 h7 p.1 (mem_map_of_mem hp);simpa using this
theorem KU {o:Oper} {v:Value} (i:Nat) (hi:ops[i]? = some o) (hg:Q9 ops σ o true) (UU:∀ c,o.op ≠ .defer c) (hv:∀ w,(execOp (ev σ) o).run P w = .ok (.value v) w) (hs:ZB n ops (ivs.map (·.1)) L i []=true) (h:Any P n r ops ivs T f (L.setIfInBounds i true) (put σ o.dst v) w) :
  Any P n r ops ivs T (f+1) L σ w:=
 HP (rd:=fun _=>True) i [] hi ⟨o,hi,UU,.inl ⟨hg,fun w _=>hv w⟩⟩ hs (Any.mono (ivs:=([],fun _=>True)::ivs) (ivs':=([],fun _=>True)::ivs) (fun _ h=>h) _ _ _ _ (by
  have key:∀ (f:Nat) (L:Array Bool) (σ:QC) (w:World),Any P n r ops ivs T f L σ w→Any P n r ops (([],fun _=>True)::ivs) T f L σ w:=by
   intro f
   induction f with
   | zero=>exact fun L σ w h=>⟨YR.cons (.inr trivial) h.1,h.2⟩
   | succ f ih=>exact fun L σ w h=>⟨YR.cons (.inr trivial) h.1,h.2.1,fun j hj=>(h.2.2 j hj).mono fun σ w=>ih _ σ w⟩
  exact key _ _ _ _ h))
theorem XW {d:Option Tmp} {op:Op} {u:TypeId} {p:String} {af:Array Edge} {g:Option (Nat×Bool)} {v:Value} (i:Nat) (hi:ops[i]? = some ⟨d,op,u,p,af,g⟩) (hg:Q9 ops σ ⟨d,op,u,p,af,g⟩ true) (hv:pv σ op=some v) (hs:ZB n ops (ivs.map (·.1)) L i []=true) (h:Any P n r ops ivs T f (L.setIfInBounds i true) (put σ d v) w) :
  Any P n r ops ivs T (f+1) L σ w:=
 KU i hi hg (dC (o:=⟨d,op,u,p,af,g⟩) hv) (fun _=>dB (o:=⟨d,op,u,p,af,g⟩) hv) hs h
theorem nU {d:Option Tmp} {op:Op} {u:TypeId} {p:String} {af:Array Edge} {g:Option (Nat×Bool)} (i:Nat) (hi:ops[i]? = some ⟨d,op,u,p,af,g⟩) (hg:Q9 ops σ ⟨d,op,u,p,af,g⟩ false) (UU:∀ c,op ≠ .defer c) (hs:ZB n ops (ivs.map (·.1)) L i []=true) (h:Any P n r ops ivs T f (L.setIfInBounds i true) (put σ d undef) w) :
  Any P n r ops ivs T (f+1) L σ w:=
 HP (rd:=fun _=>True) i [] hi ⟨_,hi,UU,.inr ⟨hg,rfl⟩⟩ hs (by
  have key:∀ (f:Nat) (L:Array Bool) (σ:QC) (w:World),Any P n r ops ivs T f L σ w→Any P n r ops (([],fun _=>True)::ivs) T f L σ w:=by
   intro f
   induction f with
   | zero=>exact fun L σ w h=>⟨YR.cons (.inr trivial) h.1,h.2⟩
   | succ f ih=>exact fun L σ w h=>⟨YR.cons (.inr trivial) h.1,h.2.1,fun j hj=>(h.2.2 j hj).mono fun σ w=>ih _ σ w⟩
  exact key _ _ _ _ h)
theorem da {o:Oper} {v:Value} {b:Nat} {ob:Obj} (i:Nat) (D:List Nat) (hi:ops[i]? = some o) (hg:Q9 ops σ o true) (UU:∀ c,o.op ≠ .defer c) (hv:∀ w,w.heap[b]? = some ob→(execOp (ev σ) o).run P w = .ok (.value v) w) (hs:ZB n ops (ivs.map (·.1)) L i D=true)
  (h:Any P n r ops ((D,fun w=>w.heap[b]? = some ob)::ivs) T f (L.setIfInBounds i true) (put σ o.dst v) w):Any P n r ops ivs T (f+1) L σ w:=
 HP i D hi ⟨o,hi,UU,.inl ⟨hg,hv⟩⟩ hs h
theorem HS {o:Oper} (i:Nat) (hi:ops[i]? = some o) (hr:Region.ready .any ops L=[i]) (hI:YR ivs L w) (hg:Q9 ops σ o true) (h:St P n r o σ w (Any P n r ops ivs T f (L.setIfInBounds i true))):Any P n r ops ivs T (f+1) L σ w:=
 ⟨hI, fun h0 => (by rw [hr] at h0; cases h0), fun j hj => by
  rw[hr] at hj;have:j=i:=by simpa using hj
  subst this;exact⟨o,hi,.inl ⟨hg,h⟩⟩⟩
theorem PL (hr:Region.ready .any ops L=[]) (hI:YR ivs L w) (h:T σ w):Any P n r ops ivs T f L σ w:=by
 cases f with
 | zero=>exact⟨hI,hr,h⟩
 | succ f=>exact⟨hI,fun _=>h,fun j hj=>by rw[hr] at hj;cases hj⟩
end
end Go.SL
set_option linter.unusedSectionVars false
namespace Go.SL
open List
class Zx (P:Program) (t:TypeId) (k:outParam TypeId) (e:outParam TypeId):Prop where
 und:P.underlying t=some (.map k e)
structure XA (P:Program) (k:TypeId) {K:Type} (ek:K→Value):Prop where
 inj:∀ a b,ek a=ek b→a=b
 check:∀ (w:World) (em:Bool) (x:K),(Instr.checkKey em 10000 k (ek x)).run P w = .ok () w
 stays:∀ (w:World) (x:K),(Instr.keyThatStays (ek x) (ek x)).run P w = .ok (ek x) w
 find:∀ (w:World) (x:K) (es:List MapEntry) (ks:List K),es.map (·.key)=ks.map ek →
  ((Instr.findKey k (ek x) es).run P w = .ok none w∧x∉ks)∨∃ j e,(Instr.findKey k (ek x) es).run P w = .ok (some (j,e.val)) w∧es[j]? = some e∧ks[j]? = some x
section
variable {K V:Type} [DecidableEq K]
def QV:List (K×V)→K→Option V
 | [],_=>none
 | p::l,x=>if p.1=x then some p.2 else QV l x
def Yg (m:List (K×V)) (x:K) (v:V):List (K×V):=
 match m with
 | []=>[(x,v)]
 | p::l=>if p.1=x then (x,v)::l else p::Yg l x v
def QN:List (K×V)→K→List (K×V)
 | [],_=>[]
 | p::l,x=>if p.1=x then l else p::QN l x
theorem PM {m:List (K×V)} {x:K} (h:x∉m.map (·.1)):QV m x=none:=by
 induction m with
 | nil=>rfl
 | cons p l ih=>
  simp only[map_cons,mem_cons,not_or] at h;simp only[QV,if_neg (Ne.symm h.1),ih h.2]
theorem db {m:List (K×V)} {x:K} {v:V}:∀ {j:Nat},(m.map (·.1)).Nodup→m[j]? = some (x,v)→QV m x=some v:=by
 induction m with
 | nil=>intro j _ h;simp at h
 | cons p l ih=>
  intro j hn h;simp only[map_cons,nodup_cons] at hn;cases j with
  | zero=>simp at h;subst h;simp[QV]
  | succ j=>
   have h':l[j]? = some (x,v):=by simpa using h
   have hm:x∈l.map (·.1):=mem_map.2 ⟨(x,v),mem_of_getElem? h',rfl⟩;have QB:p.1≠x:=fun e=>hn.1 (e▸hm);simp only[QV,if_neg QB,ih hn.2 h']
theorem Wh {m:List (K×V)} {x:K} {v:V} (h:x∉m.map (·.1)):Yg m x v=m++[(x,v)]:=by
 induction m with
 | nil=>rfl
 | cons p l ih=>
  simp only[map_cons,mem_cons,not_or] at h;simp only[Yg,if_neg (Ne.symm h.1),ih h.2,cons_append]
theorem dc {m:List (K×V)} {x:K} {v u:V}:∀ {j:Nat},(m.map (·.1)).Nodup→m[j]? = some (x,u)→Yg m x v=m.set j (x,v):=by
 induction m with
 | nil=>intro j _ h;simp at h
 | cons p l ih=>
  intro j hn h;simp only[map_cons,nodup_cons] at hn;cases j with
  | zero=>simp at h;subst h;simp[Yg]
  | succ j=>
   have h':l[j]? = some (x,u):=by simpa using h
   have hm:x∈l.map (·.1):=mem_map.2 ⟨(x,u),mem_of_getElem? h',rfl⟩;have QB:p.1≠x:=fun e=>hn.1 (e▸hm);simp only[Yg,if_neg QB,ih hn.2 h',set_cons_succ]
theorem HT {m:List (K×V)} {x:K} (h:x∉m.map (·.1)):QN m x=m:=by
 induction m with
 | nil=>rfl
 | cons p l ih=>
  simp only[map_cons,mem_cons,not_or] at h;simp only[QN,if_neg (Ne.symm h.1),ih h.2]
theorem de {m:List (K×V)} {x:K} {u:V}:∀ {j:Nat},(m.map (·.1)).Nodup→m[j]? = some (x,u)→QN m x=m.eraseIdx j:=by
 induction m with
 | nil=>intro j _ h;simp at h
 | cons p l ih=>
  intro j hn h;simp only[map_cons,nodup_cons] at hn;cases j with
  | zero=>simp at h;subst h;simp[QN]
  | succ j=>
   have h':l[j]? = some (x,u):=by simpa using h
   have hm:x∈l.map (·.1):=mem_map.2 ⟨(x,u),mem_of_getElem? h',rfl⟩;have QB:p.1≠x:=fun e=>hn.1 (e▸hm);simp only[QN,if_neg QB,ih hn.2 h',eraseIdx_cons_succ]
theorem df {m:List (K×V)} {x y:K} {v:V}:y∈(Yg m x v).map (·.1)↔y=x∨y∈m.map (·.1):=by
 induction m with
 | nil=>simp[Yg]
 | cons p l ih=>
  simp only[Yg];split
  ·rename_i e;subst e;simp
  ·simp only[map_cons,mem_cons,ih];constructor
   ·rintro(h|h|h)
    ·exact .inr (.inl h)
    ·exact .inl h
    ·exact .inr (.inr h)
   ·rintro(h|h|h)
    ·exact .inr (.inl h)
    ·exact .inl h
    ·exact .inr (.inr h)
theorem M7 {m:List (K×V)} {x:K} {v:V} (h:(m.map (·.1)).Nodup):((Yg m x v).map (·.1)).Nodup:=by
 induction m with
 | nil=>simp[Yg]
 | cons p l ih=>
  simp only[map_cons,nodup_cons] at h;simp only[Yg];split
  ·rename_i e;subst e;simpa using h
  ·rename_i e;simp only[map_cons,nodup_cons];exact⟨fun hm=>(df.1 hm).elim e h.1,ih h.2⟩
theorem Ha {m:List (K×V)} {x y:K} (h:(m.map (·.1)).Nodup):y∈(QN m x).map (·.1)↔y≠x∧y∈m.map (·.1):=by
 induction m with
 | nil=>simp[QN]
 | cons p l ih=>
  simp only[map_cons,nodup_cons] at h;simp only[QN];split
  ·rename_i e;subst e;constructor
   ·exact fun hm=>⟨fun e=>h.1 (e▸hm),by simp[hm]⟩
   ·rintro⟨h1,h2⟩;simp only[map_cons,mem_cons] at h2;exact h2.resolve_left h1
  ·rename_i e;simp only[map_cons,mem_cons,ih h.2];constructor
   ·rintro(rfl|h)
    ·exact⟨e,.inl rfl⟩
    ·exact⟨h.1,.inr h.2⟩
   ·rintro⟨h1,h2|h2⟩
    ·exact .inl h2
    ·exact .inr ⟨h1,h2⟩
theorem Rw {m:List (K×V)} {x:K} (h:(m.map (·.1)).Nodup):((QN m x).map (·.1)).Nodup:=by
 induction m with
 | nil=>simp[QN]
 | cons p l ih=>
  have h0:=h;simp only[map_cons,nodup_cons] at h;simp only[QN];split
  ·exact h.2
  ·simp only[map_cons,nodup_cons];exact⟨fun hm=>h.1 ((Ha h.2).1 hm).2,ih h.2⟩
theorem KX {m:List (K×V)} {x y:K} {v:V}:QV (Yg m x v) y=if x=y then some v else QV m y:=by
 induction m with
 | nil=>simp[Yg,QV]
 | cons p l ih=>
  simp only[Yg];split
  ·rename_i e;subst e;simp only[QV];split <;> rfl
  ·rename_i e;simp only[QV,ih];by_cases h:p.1=y
   ·subst h;rw[if_pos rfl,if_neg (Ne.symm e),if_pos rfl]
   ·rw[if_neg h,if_neg h]
theorem Wi {m:List (K×V)} {x y:K} (h:(m.map (·.1)).Nodup):QV (QN m x) y=if x=y then none else QV m y:=by
 induction m with
 | nil=>simp[QN,QV]
 | cons p l ih=>
  simp only[map_cons,nodup_cons] at h;simp only[QN];split
  ·rename_i e;subst e;split
   ·rename_i e;subst e;exact PM h.1
   ·rename_i e;simp only[QV,if_neg e]
  ·rename_i e;simp only[QV,ih h.2];by_cases h':p.1=y
   ·subst h';rw[if_pos rfl,if_neg (Ne.symm e),if_pos rfl]
   ·rw[if_neg h',if_neg h']
theorem KK {m:List (K×V)} {x:K} {v:V} (h:QV m x=some v):(x,v)∈m:=by
 induction m with
 | nil=>cases h
 | cons p l ih=>
  simp only[QV] at h;split at h
  ·rename_i e;subst e;cases h;exact mem_cons_self ..
  ·exact mem_cons_of_mem _ (ih h)
theorem YI {m:List (K×V)} {x:K} {v:V} (hn:(m.map (·.1)).Nodup):QV m x=some v↔(x,v)∈m:=
 ⟨KK,fun h=>by obtain⟨j,hj,e⟩:=getElem_of_mem h;exact db hn (j:=j) (by rw[getElem?_eq_getElem hj,e])⟩
theorem D3 {m:List (K×V)} {x:K}:QV m x=none↔x∉m.map (·.1):=by
 refine⟨fun h hm=>?_,PM⟩
 induction m with
 | nil=>simp at hm
 | cons p l ih=>
  simp only[QV] at h;split at h
  ·cases h
  ·rename_i e;simp only[map_cons,mem_cons] at hm;exact hm.elim (fun h'=>e h'.symm) (ih h)
theorem dh {α β:Type} (g:α→β):∀ (l:List α) (j:Nat),(l.map g).eraseIdx j=(l.eraseIdx j).map g
 | [],_=>rfl
 | _::_,0=>rfl
 | a::l,j+1=>by simp only[map_cons,eraseIdx_cons_succ,dh g l j]
end
structure G9 {K V:Type} (ek:K→Value) (vv:V→Value) (es:Array MapEntry) (clock:Nat) (m:List (K×V)):Prop where
 ents:es.toList.map (fun e=>(e.key,e.val))=m.map (fun p=>(ek p.1,vv p.2))
 nodup:(m.map (·.1)).Nodup
 rise:(es.toList.map (·.born)).Pairwise (· < ·)
 born:∀ e∈es.toList,e.born < clock
def mp {K V:Type} (ek:K→Value) (vv:V→Value) (b:Nat) (m:List (K×V)):Q2:=fun h=>∃ es clock,h b=some (.map es clock)∧G9 ek vv es clock m
class RJ {K V:outParam Type} (ek:outParam (K→Value)) (vv:outParam (V→Value)) (b:Nat) (m:outParam (List (K×V))) (l:List Q2):Prop where
 get:∀ h,Vq l h→mp ek vv b m h
class D4 {K V:Type} (ek:K→Value) (vv:V→Value) (b:Nat) (m:List (K×V)) (l:List Q2) (m':List (K×V)) (l':outParam (List Q2)):Prop where
 get:∀ h,Vq l h→mp ek vv b m h
 set:∀ h h',Vq l h→mp ek vv b m' h'→(∀ c,c≠b→h' c=h c)→Vq l' h'
section
variable {K V:Type} {ek:K→Value} {vv:V→Value} {b:Nat} {m m':List (K×V)} {l l':List Q2}
theorem di {f g:Hp} (s:Ye f g):mp ek vv b m f→mp ek vv b m g:=fun ⟨es,c,h1,h2⟩=>⟨es,c,s _ _ h1,h2⟩
instance (priority:=high) RJ.here:RJ ek vv b m (mp ek vv b m::l):=⟨fun _ ⟨_,_,a,_,_,x,_⟩=>di a x⟩
instance RJ.there {A:Q2} [i:RJ ek vv b m l]:RJ ek vv b m (A::l):=⟨fun _ s=>i.get _ (Cv s)⟩
instance (priority:=high) D4.here:D4 ek vv b m (mp ek vv b m::l) m' (mp ek vv b m'::l) where
 get:=fun _ ⟨_,_,a,_,_,x,_⟩=>di a x
 set:=fun h h' ⟨f,g,a,e,d,⟨es,c,h1,h2⟩,y⟩ ⟨es',c',h3,h4⟩ hs=>by
  have s:Vq (pts b (.map es c)::l) h:=⟨f,g,a,e,d,h1,y⟩;exact cp (fun k hk=>⟨es',c',hk,h4⟩) (PR s h3 hs)
instance D4.there {A:Q2} [i:D4 ek vv b m l m' l']:D4 ek vv b m (A::l) m' (A::l') where
 get:=fun _ s=>i.get _ (Cv s)
 set:=fun h h' ⟨f,g,a,e,d,x,y⟩ ⟨es',c',h3,h4⟩ hs=>by
  obtain⟨es,c,h1,h2⟩:=i.get g y;refine⟨f,fun k=>if k=b then some (.map es' c') else g k,?_,?_,?_,x,i.set g _ y ⟨es',c',by simp,h4⟩ (fun k hk=>by simp[hk])⟩
  ·intro k p hk;have Bl:k≠b:=fun h0=>by subst h0;exact d k p _ hk h1
   rw[hs k Bl];exact a k p hk
  ·intro k p hk;by_cases Bl:k=b
   ·subst Bl;simp at hk;subst hk;exact h3
   ·simp[Bl] at hk;rw[hs k Bl];exact e k p hk
  ·intro k p p' hk Yk;by_cases Bl:k=b
   ·subst Bl;exact d k p _ hk h1
   ·simp[Bl] at Yk;exact d k p p' hk Yk
theorem Q0.mp [Q4] {w:World} (h:Q0 w l) [i:RJ ek vv b m l]:∃ es clock,w.heap[b]? = some (.map es clock)∧G9 ek vv es clock m:=i.get _ h.1
end
section
variable {P:Program} {w:World} {K V:Type} [DecidableEq K] {ek:K→Value} {vv:V→Value} {b:Nat} {m:List (K×V)} {t k e:TypeId}
theorem G9.keys {es:Array MapEntry} {clock:Nat} (h:G9 ek vv es clock m):es.toList.map (·.key)=(m.map (·.1)).map ek:=by
 have:=congrArg (List.map Prod.fst) h.ents;simpa [map_map,Function.comp_def] using this
theorem G9.at {es:Array MapEntry} {clock:Nat} (h:G9 ek vv es clock m) {j:Nat} {x:MapEntry} (hj:es.toList[j]? = some x):∃ p,m[j]? = some p∧x.key=ek p.1∧x.val=vv p.2:=by
 have h1:=congrArg (fun l=>l[j]?) h.ents;simp only[getElem?_map,hj,Option.map_some] at h1;cases hm:m[j]? with
 | none=>rw[hm] at h1;cases h1
 | some p=>rw[hm] at h1;simp at h1;exact⟨p,rfl,h1.1,h1.2⟩
theorem G9.find {es:Array MapEntry} {clock:Nat} (h:G9 ek vv es clock m) (T:XA P k ek) (w:World) (x:K) :
  ((Instr.findKey k (ek x) es.toList).run P w = .ok none w∧x∉m.map (·.1))∨∃ j y v,(Instr.findKey k (ek x) es.toList).run P w = .ok (some (j,vv v)) w∧es.toList[j]? = some y∧y.key=ek x∧m[j]? = some (x,v):=by
 rcases T.find w x es.toList (m.map (·.1)) h.keys with h1|⟨j,y,h1,h2,h3⟩
 ·exact .inl h1
 ·obtain⟨⟨a,v⟩,h4,h5,h6⟩:=h.at h2;have:a=x:=by simpa [h4] using h3
  subst this;exact .inr ⟨j,y,v,by rw[h1,h6],h2,h5,h4⟩
theorem EL {es:Array MapEntry} {clock:Nat} (h:w.heap[b]? = some (.map es clock)):(getObj b).run P w = .ok (.map es clock) w:=by
 simp[getObj,Sem.run,h]
theorem EM {es:Array MapEntry} {clock:Nat} (o:Obj) (h:w.heap[b]? = some (.map es clock)):(setObj b o).run P w = .ok () (w.putObj b o):=by
 simp[setObj,Sem.run,h,World.putObj]
theorem YP {t:TypeId} {d:TypeDesc} (h:P.underlying t=some d):(underlying t).run P w = .ok d w:=by
 unfold underlying;simp only[Sem.run_bind,run_program,Result.andThen_ok,h,Sem.run_pure]
def D5 (zv:Value) (vv:V→Value):Option V→Value
 | none=>zv
 | some v=>vv v
theorem dj (hM:Zx P t k e) (T:XA P k ek) {zv:Value} (hz:VF P e zv) (h:∃ es clock,w.heap[b]? = some (.map es clock)∧G9 ek vv es clock m) (x:K) (ok:Bool) :
  (Instr.lookup t (.map (some b)) (ek x) ok).run P w = .ok (if ok then .tuple #[D5 zv vv (QV m x),.bool (QV m x).isSome] else D5 zv vv (QV m x)) w:=by
 obtain⟨es,clock,h1,h2⟩:=h;unfold Instr.lookup;simp only[Sem.run_bind,YP hM.und,Result.andThen_ok,EL h1,Sem.run_pure,T.check]
 rcases h2.find T w x with ⟨h3,h4⟩|⟨j,y,v,h3,h4,h5,h6⟩
 ·simp only[h3,Result.andThen_ok,Sem.run_bind,PF hz,Sem.run_pure,PM h4];cases ok <;> rfl
 ·simp only[h3,Result.andThen_ok,Sem.run_pure,db h2.nodup h6];cases ok <;> rfl
theorem nX (hM:Zx P t k e) (T:XA P k ek) (h:∃ es clock,w.heap[b]? = some (.map es clock)∧G9 ek vv es clock m) (x:K) (v:V) :
  ∃ w' es clock,(Instr.mapUpdate t (.map (some b)) (ek x) (vv v)).run P w = .ok () w'∧w'.heap[b]? = some (.map es clock)∧G9 ek vv es clock (Yg m x v)∧(∀ c,c≠b→w'.heap[c]? = w.heap[c]?)∧UG w w':=by
 obtain⟨es,clock,h1,h2⟩:=h;have Q6:b < w.heap.size:=(Array.getElem?_eq_some_iff.1 h1).1;unfold Instr.mapUpdate;simp only[Sem.run_bind,YP hM.und,Result.andThen_ok,EL h1,Sem.run_pure,T.check]
 rcases h2.find T w x with ⟨h3,h4⟩|⟨j,y,u,h3,h4,h5,h6⟩
 ·refine⟨_,es.push { key:=ek x,val:=vv v,born:=clock },clock+1,by rw[h3];simp only[Result.andThen_ok];exact EM _ h1,World.putObj_heap_same Q6,?_,fun c hc=>World.putObj_heap_other hc,⟨rfl,rfl⟩⟩;rw[Wh h4];refine⟨by simp[h2.ents],?_,?_,?_⟩
  ·have:=M7 (x:=x) (v:=v) h2.nodup;rwa [Wh h4] at this
  ·simp only[Array.toList_push,map_append,map_cons,map_nil];refine pairwise_append.2 ⟨h2.rise,by simp,fun a ha c hc=>?_⟩;obtain⟨q,hq,rfl⟩:=mem_map.1 ha;simp at hc;subst hc;exact h2.born q hq
  ·intro q hq;simp only[Array.toList_push,mem_append,mem_singleton] at hq
   rcases hq with hq|rfl
   ·exact Nat.lt_succ_of_lt (h2.born q hq)
   ·exact Nat.lt_succ_self _
 ·have hy:es[j]? = some y:=by simpa using h4
  have hk:((es[j]?).map (·.key)).getD (ek x)=ek x:=by rw[hy];simp[h5]
  have ZP:j < es.size:=(Array.getElem?_eq_some_iff.1 hy).1;refine⟨_,es.modify j fun q=>{ q with key:=ek x,val:=vv v },clock,by rw[h3];simp only[Result.andThen_ok,Sem.run_bind,hk,T.stays];exact EM _ h1,World.putObj_heap_same Q6,?_,fun c hc=>World.putObj_heap_other hc,⟨rfl,rfl⟩⟩
  have ems:(es.modify j fun q=>{ q with key:=ek x,val:=vv v }).toList=es.toList.set j { y with key:=ek x,val:=vv v }:=by
   rw[Array.toList_modify];apply ext_getElem?;intro i;rw[getElem?_modify,getElem?_set];by_cases ZA:j=i
   ·subst ZA;rw[if_pos rfl,if_pos (by simpa using ZP),h4];simp
   ·rw[if_neg ZA];simp[ZA]
  rw[dc h2.nodup h6]
  have Hd:(es.toList.set j { y with key:=ek x,val:=vv v }).map (·.born)=es.toList.map (·.born):=by
   rw[map_set];apply ext_getElem?;intro i;rw[getElem?_set];split
   ·rename_i ZA;subst ZA;simp only[length_map];rw[if_pos (by simpa using ZP),getElem?_map,h4];rfl
   ·rfl
  refine⟨?_,?_,?_,?_⟩
  ·rw[ems,map_set,map_set,h2.ents]
  ·have:=M7 (x:=x) (v:=v) h2.nodup;rwa [dc h2.nodup h6] at this
  ·rw[ems,Hd];exact h2.rise
  ·intro q hq;rw[ems] at hq
   rcases mem_or_eq_of_mem_set hq with hq|rfl
   ·exact h2.born q hq
   ·exact h2.born y (mem_of_getElem? h4)
theorem nK (hM:Zx P t k e) (T:XA P k ek) (h:∃ es clock,w.heap[b]? = some (.map es clock)∧G9 ek vv es clock m) (x:K) (ty:TypeId) (u:TypeId) :
  ∃ w' es clock,(Builtin.delete_ #[t,u] ty #[.map (some b),ek x]).run P w = .ok (.tuple #[]) w'∧w'.heap[b]? = some (.map es clock)∧G9 ek vv es clock (QN m x)∧(∀ c,c≠b→w'.heap[c]? = w.heap[c]?)∧UG w w':=by
 obtain⟨es,clock,h1,h2⟩:=h;have Q6:b < w.heap.size:=(Array.getElem?_eq_some_iff.1 h1).1;unfold Builtin.delete_;simp only[Sem.run_bind,YP hM.und,Result.andThen_ok,EL h1,Sem.run_pure,T.check,getElem?_toArray,getElem?_cons_zero,getElem?_cons_succ]
 rcases h2.find T w x with ⟨h3,h4⟩|⟨j,y,v,h3,h4,h5,h6⟩
 ·refine⟨_,es,clock,by rw[h3];simp only[Result.andThen_ok,Sem.run_bind,EM _ h1,Sem.run_pure],World.putObj_heap_same Q6,by rw[HT h4];exact h2,fun c hc=>World.putObj_heap_other hc,⟨rfl,rfl⟩⟩
 ·have hy:es[j]? = some y:=by simpa using h4
  have ZP:j < es.size:=(Array.getElem?_eq_some_iff.1 hy).1;refine⟨_,es.eraseIdxIfInBounds j,clock,by rw[h3];simp only[Result.andThen_ok,Sem.run_bind,EM _ h1,Sem.run_pure],World.putObj_heap_same Q6,?_,fun c hc=>World.putObj_heap_other hc,⟨rfl,rfl⟩⟩
  have ems:(es.eraseIdxIfInBounds j).toList=es.toList.eraseIdx j:=by
   simp[Array.eraseIdxIfInBounds,ZP]
  have Xr:(es.toList.eraseIdx j).Sublist es.toList:=eraseIdx_sublist _ _;rw[de h2.nodup h6];refine⟨?_,?_,?_,?_⟩
  ·rw[ems];have h7:=congrArg (fun l=>l.eraseIdx j) h2.ents;simpa [dh] using h7
  ·have:=Rw (x:=x) h2.nodup;rwa [de h2.nodup h6] at this
  ·rw[ems];exact h2.rise.sublist (Xr.map _)
  ·intro q hq;rw[ems] at hq;exact h2.born q (Xr.subset hq)
theorem nR (hM:Zx P t k e) (T:XA P k ek) (x:K) (ty:TypeId) (u:TypeId):(Builtin.delete_ #[t,u] ty #[.map none,ek x]).run P w = .ok (.tuple #[]) w:=by
 unfold Builtin.delete_;simp only[Sem.run_bind,YP hM.und,Result.andThen_ok,Sem.run_pure,T.check,getElem?_toArray,getElem?_cons_zero,getElem?_cons_succ]
theorem G9.len {es:Array MapEntry} {clock:Nat} (h:G9 ek vv es clock m):es.size=m.length:=by
 have:=congrArg List.length h.ents;simpa using this
theorem nW (hM:Zx P t k e) (h:∃ es clock,w.heap[b]? = some (.map es clock)∧G9 ek vv es clock m) (ty:TypeId) :
  (Builtin.len_ #[t] ty #[.map (some b)]).run P w = .ok (.int .i64 m.length) w:=by
 obtain⟨es,clock,h1,h2⟩:=h;unfold Builtin.len_;simp only[Sem.run_bind,YP hM.und,Result.andThen_ok,EL h1,Sem.run_pure,getElem?_toArray,getElem?_cons_zero,h2.len,goInt]
theorem nA (hM:Zx P t k e) (ty:TypeId):(Builtin.len_ #[t] ty #[.map none]).run P w = .ok (.int .i64 0) w:=by
 unfold Builtin.len_;simp only[Sem.run_bind,YP hM.und,Result.andThen_ok,Sem.run_pure,getElem?_toArray,getElem?_cons_zero,goInt]
end
end Go.SL
