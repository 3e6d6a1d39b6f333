/- Cells: what is proved on the way: every input of the statement; no condition. Texts joined: SlA SlB SlC SlD SlE. -/
import Derived.RangeFuncLeaves
import Derived.OrdersIn
import Derived.TacticsIn
import Derived.RangeFuncRecord
import Derived.Laws.Cells
import Derived.Laws.StructEq
namespace Go.SL
abbrev Hp:=Nat→Option Obj
abbrev Q2:=Hp→Prop
def Vt (g h:Hp):Prop:=∀ b o,g b=some o→h b=some o
def Gm (g h:Hp):Prop:=∀ b o o',g b=some o→h b=some o'→False
theorem Vt.rfl' (h:Hp):Vt h h:=fun _ _ e=>e
theorem Vt.trans {f g h:Hp} (a:Vt f g) (b:Vt g h):Vt f h:=fun x o e=>b x o (a x o e)
theorem Gm.symm {g h:Hp} (d:Gm g h):Gm h g:=fun b o o' e e'=>d b o' o e' e
theorem Gm.mono {f g f' g':Hp} (d:Gm f g) (a:Vt f' f) (b:Vt g' g):Gm f' g':=fun x o o' e e'=>d x o o' (a x o e) (b x o' e')
def VK:List Q2→Hp→Prop
 | [],_=>True
 | A::l,h=>∃ f g,Vt f h∧Vt g h∧Gm f g∧A f∧VK l g
def pts (b:Nat) (o:Obj):Q2:=fun h=>h b=some o
def prop (p:Prop):Q2:=fun _=>p
def star (l:List Q2):Q2:=VK l
def ex {α:Type} (A:α→Q2):Q2:=fun h=>∃ x,A x h
def old (w:World):Q2:=fun h=>∀ b,b < w.heap.size→h b=w.heap[b]?
theorem Wi:∀ {l:List Q2} {g h:Hp},Vt g h→VK l g→VK l h
 | [],_,_,_,_=>trivial
 | _::_,_,_,s,⟨f,k,a,b,d,x,y⟩=>⟨f,k,a.trans s,b.trans s,d,x,y⟩
theorem Cx {A:Q2} {l l':List Q2} {h:Hp} (i:∀ g,VK l g→VK l' g):VK (A::l) h→VK (A::l') h:=
 fun ⟨f,g,a,b,d,x,y⟩=>⟨f,g,a,b,d,x,i _ y⟩
theorem JC {A A':Q2} {l:List Q2} {h:Hp} (i:∀ g,A g→A' g):VK (A::l) h→VK (A'::l) h:=
 fun ⟨f,g,a,b,d,x,y⟩=>⟨f,g,a,b,d,i _ x,y⟩
theorem Rh {A:Q2} {l:List Q2} {h:Hp}:VK (A::l) h→VK l h:=
 fun ⟨_,_,_,b,_,_,y⟩=>Wi b y
def G9 (f g:Hp):Hp:=fun c=>match f c with|some o=>some o|none=>g c
theorem JD {f g:Hp} {c:Nat} {o:Obj} (h:G9 f g c=some o):f c=some o∨f c=none∧g c=some o:=by
 unfold G9 at h;split at h
 ·rename_i o' e;left;rw[e];exact h
 ·rename_i e;exact .inr ⟨e,h⟩
theorem Cy {f g:Hp}:Vt f (G9 f g):=fun c o e=>by unfold G9;rw[e]
theorem Cz {f g:Hp} (d:Gm f g):Vt g (G9 f g):=fun c o e=>by
 unfold G9;cases hc:f c with
 | none=>exact e
 | some p=>exact(d c p o hc e).elim
theorem D0 {f g h:Hp} (a:Vt f h) (b:Vt g h):Vt (G9 f g) h:=fun c o e=>by
 rcases JD e with e|⟨_,e⟩
 ·exact a c o e
 ·exact b c o e
theorem D3 {f g h:Hp} (a:Gm f h) (b:Gm g h):Gm (G9 f g) h:=fun c o o' e e'=>by
 rcases JD e with e|⟨_,e⟩
 ·exact a c o o' e e'
 ·exact b c o o' e e'
theorem JE {A B:Q2} {l:List Q2} {h:Hp}:VK (A::B::l) h→VK (B::A::l) h:=by
 rintro⟨f,g,a,b,d,x,f',g',a',b',d',x',y⟩;have dg:Gm f g':=d.mono (Vt.rfl' f) b';exact⟨f',G9 f g',a'.trans b,D0 a (b'.trans b),(D3 (d.mono (Vt.rfl' f) a') d'.symm).symm,x',f,g',Cy,Cz dg,dg,x,y⟩
theorem FT {l l':List Q2} (p:l.Perm l'):∀ {h:Hp},VK l h→VK l' h:=by
 induction p with
 | nil=>exact fun x=>x
 | cons A _ ih=>exact fun x=>Cx (fun _=>ih) x
 | swap A B l=>exact fun x=>JE x
 | trans _ _ i j=>exact fun x=>j (i x)
def pull {α:Type}:Nat→List α→List α
 | 0,l=>l
 | _+1,[]=>[]
 | i+1,a::l=>match pull i l with
  | []=>[a]
  | b::r=>b::a::r
theorem Fa {α:Type}:∀ (i:Nat) (l:List α),l.Perm (pull i l)
 | 0,l=>List.Perm.refl l
 | _+1,[]=>List.Perm.refl []
 | i+1,a::l=>by
  have h:=Fa i l;simp only[pull];cases hp:pull i l with
  | nil=>rw[hp] at h;simpa using h
  | cons b r=>rw[hp] at h;exact(h.cons a).trans (List.Perm.swap b a r)
theorem JF {l:List Q2} {f:Hp}:∀ {k:List Q2} {g h:Hp},Vt f h→Vt g h→Gm g f→VK k g→VK l f→VK (k++l) h
 | [],_,_,a,_,_,_,y=>Wi a y
 | _::k,_,_,a,b,d,⟨f1,g1,a1,b1,d1,x,z⟩,y=>
  have dg:=d.mono b1 (Vt.rfl' f)
  ⟨f1, G9 g1 f, a1.trans b, D0 (b1.trans b) a, (D3 d1.symm (d.mono a1 (Vt.rfl' f)).symm).symm, x,
   JF (k:=k) (Cz dg) Cy dg z y⟩
theorem JH {l:List Q2}:∀ {k:List Q2} {h:Hp},VK (k++l) h→∃ g f,Vt g h∧Vt f h∧Gm g f∧VK k g∧VK l f
 | [],h,s=>⟨fun _=>none,h,fun _ _ e=>(by cases e),Vt.rfl' h,fun _ _ _ e=>(by cases e),trivial,s⟩
 | A::k,h,⟨f1,g1,a,b,d,x,y⟩=>
  let ⟨g,f,a',b',d',x',y'⟩:=JH (k:=k) y
  have d1:=d.mono (Vt.rfl' f1) a'
  ⟨G9 f1 g,f,D0 a (a'.trans b),b'.trans b,D3 (d.mono (Vt.rfl' f1) b') d',⟨f1,g,Cy,Cz d1,d1,x,x'⟩,y'⟩
theorem D4 {k l:List Q2} {h:Hp}:VK (star k::l) h↔VK (k++l) h:=
 ⟨fun ⟨_,_,a,b,d,x,y⟩=>JF b a d x y,fun s=>let ⟨g,f,a,b,d,x,y⟩:=JH s;⟨g,f,a,b,d,x,y⟩⟩
theorem JI {α:Type} {A:α→Q2} {l:List Q2} {h:Hp}:VK (ex A::l) h↔∃ x,VK (A x::l) h:=
 ⟨fun ⟨f,g,a,b,d,⟨x,hx⟩,y⟩=>⟨x,f,g,a,b,d,hx,y⟩,fun ⟨x,f,g,a,b,d,hx,y⟩=>⟨f,g,a,b,d,⟨x,hx⟩,y⟩⟩
theorem JJ {p:Prop} {l:List Q2} {h:Hp}:VK (prop p::l) h↔p∧VK l h:=
 ⟨fun ⟨_,_,_,b,_,x,y⟩=>⟨x,Wi b y⟩,fun ⟨x,y⟩=>⟨fun _=>none,h,fun _ _ e=>(by cases e),Vt.rfl' h,fun _ _ _ e=>(by cases e),x,y⟩⟩
def hp (w:World):Hp:=fun b=>w.heap[b]?
class Q4 where
 os:Os
 output:Array (Nat×ByteArray)
def Ok [X:Q4] (w:World):Prop:=w.os=X.os∧w.output=X.output
def Zb (w w':World):Prop:=w'.os=w.os∧w'.output=w.output
theorem Zb.refl (w:World):Zb w w:=⟨rfl,rfl⟩
theorem Ok.same [Q4] {w w':World} (h:Ok w) (s:Zb w w'):Ok w':=⟨s.1.trans h.1,s.2.trans h.2⟩
def Q0 [Q4] (w:World) (l:List Q2):Prop:=VK l (hp w)∧Ok w
theorem Q0.pull [Q4] {w:World} {l:List Q2} (i:Nat) (h:Q0 w l):Q0 w (SL.pull i l):=⟨FT (Fa i l) h.1,h.2⟩
theorem Q0.perm [Q4] {w:World} {l l':List Q2} (h:Q0 w l) (p:l.Perm l'):Q0 w l':=⟨FT p h.1,h.2⟩
theorem Q0.drop [Q4] {w:World} {A:Q2} {l:List Q2} (h:Q0 w (A::l)):Q0 w l:=⟨Rh h.1,h.2⟩
theorem Q0.swap [Q4] {w:World} {A B:Q2} {l:List Q2} (h:Q0 w (A::B::l)):Q0 w (B::A::l):=⟨JE h.1,h.2⟩
theorem Q0.head [Q4] {w:World} {A A':Q2} {l:List Q2} (h:Q0 w (A::l)) (i:∀ g,A g→A' g):Q0 w (A'::l):=⟨JC i h.1,h.2⟩
theorem Q0.star [Q4] {w:World} {k l:List Q2}:Q0 w (SL.star k::l)↔Q0 w (k++l):=⟨fun h=>⟨D4.1 h.1,h.2⟩,fun h=>⟨D4.2 h.1,h.2⟩⟩
theorem Q0.ex [Q4] {w:World} {α:Type} {A:α→Q2} {l:List Q2}:Q0 w (SL.ex A::l)↔∃ x,Q0 w (A x::l):=⟨fun h=>let ⟨x,y⟩:=JI.1 h.1;⟨x,y,h.2⟩,fun ⟨x,y⟩=>⟨JI.2 ⟨x,y.1⟩,y.2⟩⟩
theorem Q0.prop [Q4] {w:World} {p:Prop} {l:List Q2}:Q0 w (SL.prop p::l)↔p∧Q0 w l:=⟨fun h=>let ⟨x,y⟩:=JJ.1 h.1;⟨x,y,h.2⟩,fun ⟨x,y⟩=>⟨JJ.2 ⟨x,y.1⟩,y.2⟩⟩
theorem Q0.nil [Q4] (w:World) (ok:Ok w):Q0 w []:=⟨trivial,ok⟩
theorem Q0.up [Q4] {w w':World} {l:List Q2} (h:Q0 w l) (s:∀ (b:Nat) (o:Obj),w.heap[b]? = some o→w'.heap[b]? = some o) (e:Zb w w'):Q0 w' l:=⟨Wi s h.1,h.2.same e⟩
theorem Q0.heap [Q4] {w w':World} {l:List Q2} (h:Q0 w l) (s:w'.heap=w.heap) (e:Zb w w':=by exact⟨rfl,rfl⟩):Q0 w' l:=by
 refine⟨?_,h.2.same e⟩;have h1:=h.1;unfold hp at *;rw[s];exact h1
theorem Q0.pts [Q4] {w:World} {b:Nat} {o:Obj} {l:List Q2} (h:Q0 w (SL.pts b o::l)):w.heap[b]? = some o:=by
 obtain⟨f,_,a,_,_,x,_⟩:=h.1;exact a b o x
theorem Q0.old [Q4] {w w₀:World} {b:Nat} {l:List Q2} (h:Q0 w (SL.old w₀::l)) (hb:b < w₀.heap.size):w.heap[b]? = w₀.heap[b]?:=by
 obtain⟨f,_,a,_,_,x,_⟩:=h.1;have e:=x b hb;cases ho:w₀.heap[b]? with
 | none=>have:=Array.getElem?_eq_none_iff.1 ho;omega
 | some o=>rw[ho] at e;exact a b o e
theorem Q0.start [Q4] (w:World) (ok:Ok w):Q0 w [SL.old w]:=
 ⟨⟨hp w,fun _=>none,Vt.rfl' _,fun _ _ e=>(by cases e),fun _ _ _ _ e=>(by cases e),fun _ _=>rfl,trivial⟩,ok⟩
theorem Fb {b:Nat} {o o':Obj} {l:List Q2} {h h':Hp} (s:VK (pts b o::l) h) (hb:h' b=some o') (ho:∀ c,c≠b→h' c=h c):VK (pts b o'::l) h':=by
 obtain⟨f,g,a,e,d,x,y⟩:=s;refine⟨fun c=>if c=b then some o' else none,g,?_,?_,?_,by simp[SL.pts],y⟩
 ·intro c p hc;by_cases hcb:c=b
  ·subst hcb;simp at hc;subst hc;exact hb
  ·simp[hcb] at hc
 ·intro c p hc;have hcb:c≠b:=fun h0=>by subst h0;exact d c o p x hc
  rw[ho c hcb];exact e c p hc
 ·intro c p p' hc hc';by_cases hcb:c=b
  ·subst hcb;exact d c o p' x hc'
  ·simp[hcb] at hc
theorem PJ {b:Nat} {o:Obj} {l:List Q2} {h h':Hp} (s:VK l h) (hn:h b=none) (hb:h' b=some o) (ho:∀ c,c≠b→h' c=h c):VK (pts b o::l) h':=by
 refine⟨fun c=>if c=b then some o else none,h,?_,?_,?_,by simp[SL.pts],s⟩
 ·intro c p hc;by_cases hcb:c=b
  ·subst hcb;simp at hc;subst hc;exact hb
  ·simp[hcb] at hc
 ·intro c p hc;have hcb:c≠b:=fun h0=>by subst h0;rw[hn] at hc;cases hc
  rw[ho c hcb];exact hc
 ·intro c p p' hc hc';by_cases hcb:c=b
  ·subst hcb;rw[hn] at hc';cases hc'
  ·simp[hcb] at hc
theorem Q0.set [Q4] {w w':World} {b:Nat} {o o':Obj} {l:List Q2} (h:Q0 w (SL.pts b o::l)) (hb:w'.heap[b]? = some o') (ho:∀ c,c≠b→w'.heap[c]? = w.heap[c]?) (e:Zb w w':=by exact⟨rfl,rfl⟩):Q0 w' (SL.pts b o'::l):=
 ⟨Fb h.1 hb ho,h.2.same e⟩
theorem Q0.new [Q4] {w:World} {l:List Q2} (h:Q0 w l) (o:Obj):Q0 { w with heap:=w.heap.push o } (SL.pts w.heap.size o::l):=
 ⟨PJ h.1 (by simp [hp]) (by simp [hp]) (by
  intro c hc;simp only[hp];rw[Array.getElem?_push,if_neg hc]),h.2⟩
theorem Q0.ne [Q4] {w:World} {b c:Nat} {o p:Obj} {l:List Q2} (h:Q0 w (SL.pts b o::SL.pts c p::l)):b≠c:=by
 rintro rfl;obtain⟨f,g,_,_,d,x,f',g',a',_,_,x',_⟩:=h.1;exact d b o p x (a' b p x')
theorem Q0.fresh [Q4] {w:World} {b:Nat} {o:Obj} {l:List Q2} (h:Q0 w (SL.pts b o::l)):b < w.heap.size:=
 (Array.getElem?_eq_some_iff.1 h.pts).1
end Go.SL
set_option linter.unusedVariables false
set_option linter.unusedSimpArgs false
namespace Go.SL
open List
abbrev QX:=Nat→Value
def XD (σ:QX) (i:Nat) (v:Value):QX:=fun j=>bif Nat.beq j i then v else σ j
@[reducible] def put (σ:QX):Option Tmp→Value→QX
 | none,_=>σ
 | some d,v=>XD σ d v
def ev (σ:QX):Operand→Value
 | .tmp t=>σ t
 | .const v=>v
 | .global g => .pointer (some ⟨g,0,none⟩)
 | .func f => .func (.func f) #[] #[]
theorem Q1 {σ:QX} {i:Nat} {v:Value} (h:σ i=v):σ=XD σ i v:=by
 funext j
 unfold XD;cases e:Nat.beq j i with
 | false=>rfl
 | true=>rw[Nat.eq_of_beq_eq_true e];exact h
def PL (D:Nat):Deferred:={ target := .collected D,args:=#[] }
def Fc (ms:List Nat):List Deferred:=ms.map PL
structure Rel (n:Nat) (ms:List Nat) (σ:QX) (a:Act):Prop where
 size:a.tmps.size=n
 defs:a.defers=Fc ms
 val:∀ i,a.tmps.getD i undef=σ i
theorem Rel.eval {n:Nat} {ms:List Nat} {σ:QX} {a:Act} (r:Rel n ms σ a):a.eval=ev σ:=by
 funext x
 cases x with
 | tmp t=>exact r.val t
 | const v=>rfl
 | global g=>rfl
 | func f=>rfl
def Qf (n:Nat):Option Tmp→Bool
 | none=>true
 | some d=>Nat.blt d n
theorem Rel.put {n:Nat} {ms:List Nat} {σ:QX} {a:Act} (r:Rel n ms σ a) {d:Option Tmp} (v:Value) (hd:Qf n d=true):Rel n ms (put σ d v) (a.put d v):=by
 cases d with
 | none=>exact r
 | some d=>
  have hd':d < n:=by simpa [Qf,Nat.blt_eq] using hd
  refine⟨by simp[Act.put,r.size],by simp[Act.put,r.defs],fun i=>?_⟩;simp only[Act.put,SL.put,XD];have hs:=r.size;by_cases e:i=d
  ·subst e;simp[hs,hd']
  ·have e':Nat.beq i d=false:=by
    cases hb:Nat.beq i d with
    | false=>rfl
    | true=>exact absurd (Nat.eq_of_beq_eq_true hb) e
   rw[e'];show (a.tmps.setIfInBounds d v).getD i undef=σ i;rw[← r.val i];simp only[Array.getD_eq_getD_getElem?];rw[Array.getElem?_setIfInBounds_ne (by omega)]
def F (r:Option Nat):Fence:={ fn:=fun _=>True,depth:=none,alive:=false,round:=r }
theorem JL (l:Nat):F (some l)=Fence.wide.inRound l:=rfl
abbrev Y6:=Exit→List Nat→QX→World→Prop
def B0 (n:Nat) (Q:Y6):Exit→Act→World→Prop
 | .outgrown,_,_=>False
 | e,a,w=>∃ ms σ,Rel n ms σ a∧Q e ms σ w
def C (P:Program) (n:Nat) (r:Option Nat) (c:Code) (Q:Y6) (ms:List Nat) (σ:QX) (w:World):Prop:=
 ∀ a,Rel n ms σ a→c.wpIn (F r) 0 P (B0 n Q) a w
def JM (K:List Nat→QX→World→Prop) (Q:Y6):Y6
 | .normal,ms,σ,w=>K ms σ w
 | e,ms,σ,w=>Q e ms σ w
def JN (id:Nat) (Q:Y6):Y6
 | .exit id',ms,σ,w=>if id'=id then Q .normal ms σ w else Q (.exit id') ms σ w
 | e,ms,σ,w=>Q e ms σ w
section
variable {P:Program} {n:Nat} {r:Option Nat} {Q:Y6} {ms:List Nat} {σ:QX} {w:World}
theorem JO {c:Code} {Q':Y6} (h:C P n r c Q ms σ w) (hq:∀ e ms σ w,Q e ms σ w→Q' e ms σ w):C P n r c Q' ms σ w:=
 fun a ra=>wpIn_mono (h a ra) fun e a w q=>by
  cases e with
  | outgrown=>exact q
  | _=>obtain⟨ms,σ,r,q⟩:=q;exact⟨ms,σ,r,hq _ _ _ _ q⟩
theorem Qm {c:Code} (I:List Nat→QX→World→Prop) (h:C P n r c (fun e ms σ w=>e = .normal∧I ms σ w) ms σ w) (k:∀ ms σ w,I ms σ w→Q .normal ms σ w):C P n r c Q ms σ w:=
 JO h fun e ms σ w q=>by obtain⟨rfl,q⟩:=q;exact k _ _ _ q
theorem QR (h:Q .normal ms σ w):C P n r .skip Q ms σ w:=fun _ ra=>wpIn_skip ⟨ms,σ,ra,h⟩
theorem PM {l:Nat} (h:Q .normal ms σ w):C P n r (.label l) Q ms σ w:=fun _ ra=>wpIn_label ⟨ms,σ,ra,h⟩
theorem Qj {id:Nat} (h:Q (.exit id) ms σ w):C P n r (.exit id) Q ms σ w:=fun _ ra=>wpIn_exit ⟨ms,σ,ra,h⟩
theorem Q3 (h:Q .ret ms σ w):C P n r .ret Q ms σ w:=fun _ ra=>wpIn_ret ⟨ms,σ,ra,h⟩
theorem Q7 {x y:Code} (h:C P n r x (JM (C P n r y Q) Q) ms σ w):C P n r (.seq x y) Q ms σ w:=fun a ra=>
 wpIn_seq (wpIn_mono (h a ra) fun e a w q=>by
  cases e with
  | outgrown=>exact q
  | normal=>obtain⟨ms,σ,r,q⟩:=q;exact q a r
  | exit id=>obtain⟨ms,σ,r,q⟩:=q;exact⟨ms,σ,r,q⟩
  | goto l=>obtain⟨ms,σ,r,q⟩:=q;exact⟨ms,σ,r,q⟩
  | ret=>obtain⟨ms,σ,r,q⟩:=q;exact⟨ms,σ,r,q⟩
  | panic c=>obtain⟨ms,σ,r,q⟩:=q;exact⟨ms,σ,r,q⟩)
theorem Ri {c:Operand} {x y:Code} {t:Bool} (hc:ev σ c = .bool t) (ht:t=true→C P n r x Q ms σ w) (hf:t=false→C P n r y Q ms σ w):C P n r (.cond c x y) Q ms σ w:=
 fun a ra=>wpIn_cond_split (t:=t) (by rw[ra.eval];exact hc) (fun e=>ht e a ra) (fun e=>hf e a ra)
theorem VE {c:Operand} {x y:Code} (hc:ev σ c = .bool true) (ht:C P n r x Q ms σ w):C P n r (.cond c x y) Q ms σ w:=Ri hc (fun _=>ht) (fun e=>by cases e)
theorem VY {c:Operand} {x y:Code} (hc:ev σ c = .bool false) (hf:C P n r y Q ms σ w):C P n r (.cond c x y) Q ms σ w:=Ri hc (fun e=>by cases e) (fun _=>hf)
theorem Qh {c:Operand} {x y:Code} {p:Prop} [Decidable p] (hc:ev σ c = .bool (decide p)) (ht:p→C P n r x Q ms σ w) (hf:¬ p→C P n r y Q ms σ w):C P n r (.cond c x y) Q ms σ w:=
 Ri hc (fun e=>ht (of_decide_eq_true e)) (fun e=>hf (of_decide_eq_false e))
theorem QS {id:Nat} {c:Code} (h:C P n r c (JN id Q) ms σ w):C P n r (.block id c) Q ms σ w:=fun a ra=>
 wpIn_block (wpIn_mono (h a ra) fun e a w q=>by
  cases e with
  | outgrown=>exact q
  | normal=>obtain⟨ms,σ,r,q⟩:=q;exact⟨ms,σ,r,q⟩
  | exit id'=>
   obtain⟨ms,σ,r,q⟩:=q;simp only[JN] at q;simp only[Exit.inBlock];split at q
   ·rename_i e;rw[if_pos e];exact⟨ms,σ,r,q⟩
   ·rename_i e;rw[if_neg e];exact⟨ms,σ,r,q⟩
  | goto l=>obtain⟨ms,σ,r,q⟩:=q;exact⟨ms,σ,r,q⟩
  | ret=>obtain⟨ms,σ,r,q⟩:=q;exact⟨ms,σ,r,q⟩
  | panic c=>obtain⟨ms,σ,r,q⟩:=q;exact⟨ms,σ,r,q⟩)
theorem Qi {c:Code} (I:List Nat→QX→World→Nat→Prop) {m:Nat} (h₀:I ms σ w m)
  (round:∀ ms σ w m,I ms σ w m→C P n r c (JM (fun ms' σ' w'=>∃ m',I ms' σ' w' m'∧m' < m) Q) ms σ w):C P n r (.loop c) Q ms σ w:=by
 have key:∀ m,∀ ms σ w,I ms σ w m→C P n r (.loop c) Q ms σ w:=by
  intro m ms σ w hI a ra;refine wpIn_loop (I:=fun a w=>∃ k ms σ,Rel n ms σ a∧I ms σ w k) (μ:=fun a w=>Classical.epsilon (fun k=>(∃ ms σ,Rel n ms σ a∧I ms σ w k)∧∀ j,(∃ ms σ,Rel n ms σ a∧I ms σ w j)→k≤j)) ⟨m,ms,σ,ra,hI⟩ ?_;intro a w hI
  have hmin:∃ k,(∃ ms σ,Rel n ms σ a∧I ms σ w k)∧∀ j,(∃ ms σ,Rel n ms σ a∧I ms σ w j)→k≤j:=by
   obtain⟨k,h⟩:=hI
   induction k using Nat.strongRecOn with
   | _ k ih=>
    by_cases hx:∃ j,j < k∧∃ ms σ,Rel n ms σ a∧I ms σ w j
    ·obtain⟨j,hj,h'⟩:=hx;exact ih j hj h'
    ·exact⟨k,h,fun j hj=>Nat.le_of_not_lt fun hlt=>hx ⟨j,hlt,hj⟩⟩
  have hs:=Classical.epsilon_spec hmin;obtain⟨⟨ms,σ,ra,hI⟩,_⟩:=hs;refine wpIn_mono (round _ _ _ _ hI a ra) ?_;intro e a' w' q;cases e with
  | outgrown=>exact q
  | normal=>
   obtain⟨ms',σ',ra',m',hI',hlt⟩:=q;have hex:∃ k ms σ,Rel n ms σ a'∧I ms σ w' k:=⟨m',ms',σ',ra',hI'⟩;refine⟨hex,?_⟩
   have hmin':∃ k,(∃ ms σ,Rel n ms σ a'∧I ms σ w' k)∧∀ j,(∃ ms σ,Rel n ms σ a'∧I ms σ w' j)→k≤j:=by
    obtain⟨k,h⟩:=hex
    induction k using Nat.strongRecOn with
    | _ k ih=>
     by_cases hx:∃ j,j < k∧∃ ms σ,Rel n ms σ a'∧I ms σ w' j
     ·obtain⟨j,hj,h'⟩:=hx;exact ih j hj h'
     ·exact⟨k,h,fun j hj=>Nat.le_of_not_lt fun hlt=>hx ⟨j,hlt,hj⟩⟩
   exact Nat.lt_of_le_of_lt ((Classical.epsilon_spec hmin').2 m' ⟨ms',σ',ra',hI'⟩) hlt
  | exit id=>obtain⟨ms,σ,r,q⟩:=q;exact⟨ms,σ,r,q⟩
  | goto l=>obtain⟨ms,σ,r,q⟩:=q;exact⟨ms,σ,r,q⟩
  | ret=>obtain⟨ms,σ,r,q⟩:=q;exact⟨ms,σ,r,q⟩
  | panic c=>obtain⟨ms,σ,r,q⟩:=q;exact⟨ms,σ,r,q⟩
 exact key m ms σ w h₀
end
def Lp (P:Program) (n:Nat) (r:Option Nat) (ops:Array Oper) (Q:Y6) (l:List Oper) (ms:List Nat) (σ:QX) (w:World):Prop:=
 ∀ a,Rel n ms σ a→wpListIn (F r) 0 P ops (B0 n Q) l a w
def ret (R:Value→World→Prop):Ending→World→Prop
 | .returned v,w=>R v w
 | _,_=>False
theorem JP {R R':Value→World→Prop} (h:∀ v w,R v w→R' v w):∀ e w,ret R e w→ret R' e w:=fun e w q=>by
 cases e with
 | returned v=>exact h v w q
 | _=>exact q
section
variable {P:Program} {n:Nat} {r:Option Nat} {ops:Array Oper} {Q:Y6} {ms:List Nat} {σ:QX} {w:World} {rest:List Oper} {o:Oper}
theorem QG {id:Nat} {l:List Oper} (h:Lp P n r l.toArray Q l ms σ w):C P n r (.region id l.toArray false) Q ms σ w:=fun a ra=>
 wpIn_region_lit (h a ra)
theorem Q6 (h:Q .normal ms σ w):Lp P n r ops Q [] ms σ w:=fun _ ra=>⟨ms,σ,ra,h⟩
def gv (ops:Array Oper) (σ:QX) (j:Nat):Option Bool:=
 match ((ops[j]?).bind (·.dst)).map σ with
 | some (.bool b)=>some b
 | _=>none
theorem PN {a:Act} (ra:Rel n ms σ a) (j:Nat):yielded ops a.tmps j=gv ops σ j:=by
 unfold gv yielded;cases hd:(ops[j]?).bind (·.dst) with
 | none=>rfl
 | some d=>
  have e2:=ra.val d;rw[Array.getD_eq_getD_getElem?] at e2;simp only[Option.bind_some,Option.map_some];rw[← e2];cases ht:a.tmps[d]? with
  | none=>rfl
  | some v=>cases v <;> rfl
def Q9 (ops:Array Oper) (σ:QX) (o:Oper) (t:Bool):Prop:=
 match o.guard with
 | none=>t=true
 | some (j,want)=>∃ b,gv ops σ j=b∧(b == some want)=t
theorem Q9.wanted {a:Act} {t:Bool} (h:Q9 ops σ o t) (ra:Rel n ms σ a):Region.wanted o (yielded ops a.tmps)=t:=by
 unfold Q9 at h;unfold Region.wanted;split at h
 ·rename_i e;simp[e,h]
 ·rename_i j want e;obtain⟨b,hb,ht⟩:=h;rw[e];simp only;rw[PN ra j,hb,← ht]
theorem Q9.none (h:o.guard=none):Q9 ops σ o true:=by unfold Q9;rw[h]
theorem JS (hw:Q9 ops σ o false) (hd:Qf n o.dst=true) (h:Lp P n r ops Q rest ms (put σ o.dst undef) w):Lp P n r ops Q (o::rest) ms σ w:=fun a ra=>by
 unfold wpListIn;rw[if_neg (by rw[hw.wanted ra];simp)];exact⟨fun _ _=>trivial,h _ (ra.put undef hd)⟩
theorem JT {f:FuncId} {args:Array Value} {R:Ending→World→Prop} (h:Calls P f args w R):CallsIn (F r) 0 P f args w R:=by
 have h':=(callsIn_wide (n:=0)).2 h;cases r with
 | none=>exact h'
 | some l=>exact h'
def Yields (P:Program) (yl:Nat) (args:Array Value) (w:World) (R:Value→World→Prop):Prop:=
 ∃ fn tmps assign body,(Instr.yield yl args).run P w = .ok (.round yl fn tmps assign body) w∧RoundIn Fence.wide 0 P yl fn tmps assign body w (ret R)
theorem Yields.mono {yl:Nat} {args:Array Value} {R R':Value→World→Prop} (h:Yields P yl args w R) (hr:∀ v w,R v w→R' v w):Yields P yl args w R':=
 let ⟨fn,tmps,assign,body,h1,h2⟩:=h
 ⟨fn,tmps,assign,body,h1,RoundIn.mono h2 (JP hr)⟩
end
def mk (ms:List Nat):Q2:=star (ms.map fun D=>pts D (.deferred (some [])))
theorem Q0.take [Q4] {P:Program} {fn:Func} {tmps:Array Value} {R:Ending→World→Prop}:∀ {ms:List Nat} {w:World} {l:List Q2},Q0 w (mk ms::l) →
  (∀ w',Q0 w' l→LeavesInM Fence.wide 0 P fn tmps R [] .returning w')→LeavesInM Fence.wide 0 P fn tmps R (Fc ms) .returning w
 | [],_,_,H,k=>k _ (by simpa using Q0.star.1 H)
 | D::ms,w,l,H,k=>by
  have H1:Q0 w (SL.pts D (.deferred (some []))::(ms.map (fun D=>SL.pts D (.deferred (some [])))++l)):=Q0.star.1 H;have hD:=H1.pts
  have H2:Q0 (w.putObj D (.deferred none)) (SL.pts D (.deferred none)::(ms.map (fun D=>SL.pts D (.deferred (some [])))++l)):=
   H1.set (World.putObj_heap_same H1.fresh) (fun c hc=>World.putObj_heap_other hc)
  refine⟨by simp,.inl ⟨D,_,rfl,run_takeDeferred hD,?_⟩⟩;exact Q0.take (ms:=ms) (Q0.star.2 H2.drop) k
def Ux (σ:QX):List ResultVar→Option (List Value)
 | []=>some []
 | .tmp t::l=>(Ux σ l).map (σ t::·)
 | .cell _ _::_=>none
def K2:List Value→Value
 | [v]=>v
 | l => .tuple l.toArray
def Km [Q4] (P:Program) (n:Nat) (fn:Func) (R:Value→World→Prop):Y6:=fun e ms σ w=>
 (e = .normal ∨ e = .ret) ∧ ((∃ l, Q0 w (mk ms :: l) ∧ ∀ w', Q0 w' l → ∀ a, Rel n ms σ a → ∃ v, (results fn a.tmps).run P w' = .ok v w' ∧ R v w') ∨
  (ms=[]∧∀ a,Rel n ms σ a→∃ v,(results fn a.tmps).run P w = .ok v w∧R v w))
theorem L1 {P:Program} {σ:QX} {g:ResultVar→Sem Value} (hg:∀ t,g (.tmp t)=pure (σ t)):∀ (l:List ResultVar) (vs:List Value),Ux σ l=some vs→∀ w,(l.mapM g).run P w = .ok vs w
 | [],_,h,w=>by cases h;rfl
 | .cell _ _::_,_,h,_=>by simp[Ux] at h
 | .tmp t::l,vs,h,w=>by
  simp only[Ux,Option.map_eq_some_iff] at h;obtain⟨us,h1,rfl⟩:=h;rw[mapM_cons,hg];have ih:=L1 (P:=P) hg l us h1 w;simp only[Sem.run_bind,ih,Result.andThen,Sem.run_pure]
theorem L2 {P:Program} {n:Nat} {ms:List Nat} {fn:Func} {σ:QX} {a:Act} {vs:List Value} (w:World) (ra:Rel n ms σ a) (h:Ux σ fn.results.toList=some vs):(results fn a.tmps).run P w = .ok (K2 vs) w:=by
 unfold results;rw[← Array.toArray_toList (xs:=fn.results),mapM_toArray];simp only[Sem.run_bind,Sem.run_map];rw[L1 (P:=P) (σ:=σ) (fun t=>by simp only[ra.val]) fn.results.toList vs h w];simp only[Result.andThen];cases vs with
 | nil=>rfl
 | cons v vs=>cases vs <;> rfl
theorem Rj [Q4] {P:Program} {n:Nat} {fn:Func} {R:Value→World→Prop} {e:Exit} {ms:List Nat} {σ:QX} {w:World} {vs:List Value} (l:List Q2) (he:e = .normal∨e = .ret) (H:Q0 w (mk ms::l))
  (hv:Ux σ fn.results.toList=some vs) (hR:∀ w',Q0 w' l→R (K2 vs) w'):Km P n fn R e ms σ w:=
 ⟨he,.inl ⟨l,H,fun w' H' a ra=>⟨_,L2 w' ra hv,hR w' H'⟩⟩⟩
theorem K3 [Q4] {P:Program} {n:Nat} {fn:Func} {R:Value→World→Prop} {e:Exit} {σ:QX} {w:World} {vs:List Value} (he:e = .normal∨e = .ret)
  (hv:Ux σ fn.results.toList=some vs) (hR:R (K2 vs) w):Km P n fn R e [] σ w:=
 ⟨he,.inr ⟨rfl,fun a ra=>⟨_,L2 w ra hv,hR⟩⟩⟩
theorem mk_nil [Q4] {w:World} {l:List Q2} (H:Q0 w l):Q0 w (mk []::l):=Q0.star.2 H
theorem Y7 [Q4] {P:Program} {n:Nat} {fn:Func} {R:Value→World→Prop} {e:Exit} {σ:QX} {w:World} {vs:List Value} (l:List Q2) (he:e = .normal∨e = .ret) (H:Q0 w l)
  (hv:Ux σ fn.results.toList=some vs) (hR:∀ w',Q0 w' l→R (K2 vs) w'):Km P n fn R e [] σ w:=
 Rj l he (mk_nil H) hv hR
def Fe (args:List Value):QX:=fun j=>args.getD j undef
theorem QV [Q4] {P:Program} {f:FuncId} {fn:Func} {c:Code} {args:List Value} {w:World} {R:Value→World→Prop} (hf:P.funcs[f]? = some fn) (hb:fn.body=some c) (ha:Nat.ble args.length fn.ntmps=true)
  (h:C P fn.ntmps none c (Km P fn.ntmps fn R) [] (Fe args) w):Calls P f args.toArray w (ret R):=by
 refine(callsIn_wide (n:=0)).1 (callsIn_of_wp_marks hf hb trivial ?_);have hle:args.length≤fn.ntmps:=Nat.le_of_ble_eq_true ha
 have ra:Rel fn.ntmps [] (Fe args) { tmps:=args.toArray++Array.replicate (fn.ntmps - args.toArray.size) undef,defers:=[] }:=by
  refine⟨by simp;omega,rfl,fun i=>?_⟩;simp only[Fe,Array.getD_eq_getD_getElem?,getD_eq_getElem?_getD];rw[Array.getElem?_append];split
  ·simp
  ·rename_i hi;have:args[i]? = none:=by simpa using hi
   rw[this];simp only[Array.getElem?_replicate];split <;> rfl
 refine wpIn_mono (h _ ra) ?_;intro e a w q;cases e with
 | outgrown=>exact q.elim
 | normal=>
  obtain⟨ms,σ,ra,_,q⟩:=q;show LeavesInM Fence.wide 0 P fn a.tmps (ret R) a.defers .returning w;rw[ra.defs]
  rcases q with ⟨l,H,k⟩|⟨rfl,k⟩
  ·exact Q0.take H fun w' H'=>let ⟨v,h1,h2⟩:=k w' H' a ra;⟨v,h1,h2⟩
  ·exact let ⟨v,h1,h2⟩:=k a ra;⟨v,h1,h2⟩
 | ret=>
  obtain⟨ms,σ,ra,_,q⟩:=q;show LeavesInM Fence.wide 0 P fn a.tmps (ret R) a.defers .returning w;rw[ra.defs]
  rcases q with ⟨l,H,k⟩|⟨rfl,k⟩
  ·exact Q0.take H fun w' H'=>let ⟨v,h1,h2⟩:=k w' H' a ra;⟨v,h1,h2⟩
  ·exact let ⟨v,h1,h2⟩:=k a ra;⟨v,h1,h2⟩
 | exit id=>obtain⟨ms,σ,ra,he,_⟩:=q;rcases he with he|he <;> cases he
 | goto l=>obtain⟨ms,σ,ra,he,_⟩:=q;rcases he with he|he <;> cases he
 | panic c=>obtain⟨ms,σ,ra,he,_⟩:=q;rcases he with he|he <;> cases he
theorem call {P:Program} {f:FuncId} {args:Array Value} {w:World} {R R':Value→World→Prop} (h:Calls P f args w (ret R)) (hr:∀ v w,R v w→R' v w):Calls P f args w (ret R'):=
 h.mono (JP hr)
end Go.SL
namespace Go.SL
open List
class T1 (P:Program) (t:TypeId):Prop where
 und:∃ d,P.underlying t=some d∧(∀ fs,d ≠ .struct fs)∧(∀ k e,d ≠ .array k e)
 size:(P.info? t).map (·.size)=some 1
class TN (P:Program) (t:TypeId) (n:outParam Nat):Prop where
 und:(∃ fs,P.underlying t=some (.struct fs))∨(∃ k e,P.underlying t=some (.array k e))
 size:(P.info? t).map (·.size)=some n
class QL (P:Program) (s:TypeId) (f:Nat) (off:outParam Nat):Prop where
 field:∃ fs fd,P.underlying s=some (.struct fs)∧fs[f]? = some fd∧fd.offset=off∧∃ k,(P.info? fd.type).map (·.size)=some k∧k≠0
class VB (P:Program) (t:TypeId) (e:outParam TypeId) (size bytes:outParam Nat):Prop where
 und:P.underlying t=some (.slice e)
 info:(P.info? e).map (fun i=>(i.size,i.bytes))=some (size,bytes)
class Qy (P:Program) (t:TypeId) (v:outParam Value):Prop where
 zero:(P.info? t).map (·.zero)=some (some v)
class Gn (P:Program) (t:TypeId):Prop where
 und:∃ e,P.underlying t=some (.pointer e)
class QY (P:Program) (f:FuncId):Prop where
 body:∃ fn,P.funcs[f]? = some fn∧fn.body.isNone=false∧(fn.name == "runtime.NumGoroutine")=false
@[reducible] def row (E:TypeId) (c:List Value):Obj := .cells c.toArray E (0,0)
inductive QZ (c:List Value):Nat→Nat→List Value→Prop
 | nil (o:Nat):QZ c o 0 []
 | cons {o n:Nat} {v:Value} {l:List Value} (h:c[o]? = some v) (t:QZ c (o+1) n l):QZ c o (n+1) (v::l)
theorem QZ.len {c:List Value} {o n:Nat} {l:List Value} (h:QZ c o n l):l.length=n:=by
 induction h with
 | nil o=>rfl
 | cons _ _ ih=>simp[ih]
theorem QZ.get {c:List Value} {o n:Nat} {l:List Value} (h:QZ c o n l):∀ (j:Nat) (v:Value),l[j]? = some v→c[o+j]? = some v:=by
 induction h with
 | nil o=>intro j v e;simp at e
 | @cons o n u l h t ih=>
  intro j v e;cases j with
  | zero=>simp at e;subst e;exact h
  | succ j=>
   have:=ih j v (by simpa using e);rw[show o+(j+1)=o+1+j by omega];exact this
def wr (c:List Value) (o:Nat):List Value→List Value
 | []=>c
 | v::l=>wr (c.set o v) (o+1) l
section
variable {P:Program} {w:World}
theorem Zj {b o E:Nat} {fz:Nat×Nat} {c:List Value} {v:Value} (h:w.heap[b]? = some (.cells c.toArray E fz)) (hv:c[o]? = some v):w.cell? ⟨b,o,none⟩=some v:=by
 simp[World.cell?,h,hv]
theorem ZV (b o i:Nat):(Addr.mk b o none).add i=⟨b,o+i,none⟩:=by
 unfold Addr.add;split
 ·rename_i e;subst e;rfl
 ·rfl
theorem Rk {b o E:Nat} {c:List Value} (h:w.heap[b]? = some (row E c)):w.frozen? ⟨b,o,none⟩=false:=by
 simp[World.frozen?,h]
theorem L3 {t:TypeId} (h:T1 P t):(isAgg t).run P w = .ok false w:=by
 obtain⟨d,hd,h1,h2⟩:=h.und;unfold isAgg underlying;simp only[Sem.run_bind,run_program,Result.andThen_ok,hd,Sem.run_pure]
theorem Ff {t:TypeId} {n:Nat} (h:TN P t n):(isAgg t).run P w = .ok true w:=by
 unfold isAgg underlying
 rcases h.und with ⟨fs,hd⟩|⟨k,e,hd⟩ <;> simp only[Sem.run_bind,run_program,Result.andThen_ok,hd,Sem.run_pure]
theorem Zu {t:TypeId} {n:Nat} (h:(P.info? t).map (·.size)=some n):(sizeOf t).run P w = .ok n w:=by
 obtain⟨i,hi,rfl⟩:=Option.map_eq_some_iff.1 h;unfold sizeOf typeInfo;simp only[Sem.run_bind,run_program,Result.andThen_ok,hi,Sem.run_pure]
theorem L4 {t:TypeId} (h:T1 P t) {b o E:Nat} {fz:Nat×Nat} {c:List Value} {v:Value} (hb:w.heap[b]? = some (.cells c.toArray E fz)) (hv:c[o]? = some v):(loadVar t ⟨b,o,none⟩).run P w = .ok v w:=by
 unfold loadVar;simp only[Sem.run_bind,L3 h,Result.andThen_ok];simp only[Bool.false_eq_true,if_false];unfold load;simp only[Sem.run,Zj hb hv]
theorem Fg {t:TypeId} {n:Nat} (h:TN P t n) {b o E:Nat} {fz:Nat×Nat} {c vs:List Value} (hb:w.heap[b]? = some (.cells c.toArray E fz)) (hv:QZ c o n vs):(loadVar t ⟨b,o,none⟩).run P w = .ok (.agg vs.toArray) w:=by
 unfold loadVar;simp only[Sem.run_bind,Ff h,Result.andThen_ok,if_true,Zu h.size];have hl:=run_loadCells_list (P:=P) (w:=w) ⟨b,o,none⟩ vs (fun j v hj=>by rw[ZV];exact Zj hb (hv.get j v hj));rw[hv.len] at hl;rw[hl];rfl
theorem PO {b o E:Nat} {c:List Value} {v:Value} (h:w.heap[b]? = some (row E c)):(w.setCell ⟨b,o,none⟩ v).heap[b]? = some (row E (c.set o v)):=by
 have hlt:=(Array.getElem?_eq_some_iff.1 h).1;have he:w.heap[b]=row E c:=by simpa [Array.getElem?_eq_getElem hlt] using h
 simp only[World.setCell];rw[Array.getElem?_eq_getElem (by simpa using hlt),Array.getElem_modify_self,he];simp
theorem PP {a:Addr} {v:Value} {k:Nat} (hk:k≠a.block):(w.setCell a v).heap[k]? = w.heap[k]?:=by
 simp only[World.setCell];rw[Array.getElem?_modify];rw[if_neg (fun e=>hk e.symm)]
theorem B1:∀ (vs:List Value) (w:World) (b o E:Nat) (c:List Value) (i:Nat),w.heap[b]? = some (row E c)→o+i+vs.length≤c.length→(∀ v∈vs,v.oneCell'=true) →
  ∃ w',(storeCells ⟨b,o,none⟩ vs i).run P w = .ok () w'∧w'.heap[b]? = some (row E (wr c (o+i) vs))∧(∀ k,k≠b→w'.heap[k]? = w.heap[k]?)∧Zb w w'
 | [],w,b,o,E,c,i,h,_,_=>⟨w,by rw[storeCells.eq_def];rfl,h,fun _ _=>rfl,Zb.refl w⟩
 | v::vs,w,b,o,E,c,i,h,hl,h1=>by
  rw[storeCells.eq_def];simp only[length_cons] at hl;have hv:=h1 v (by simp);have hc:w.cell? ⟨b,o+i,none⟩=some c[o+i]:=Zj h (by simp);obtain⟨w',r,h2,h3,h4⟩:=B1 vs (w.setCell ⟨b,o+i,none⟩ v) b o E (c.set (o+i) v) (i+1) (PO h) (by simp;omega) (fun u hu=>h1 u (by simp[hu]));refine⟨w',?_,?_,fun k hk=>(h3 k hk).trans (PP hk),h4⟩
  ·simp only[Sem.run_bind,ZV]
   have hs:(store ⟨b,o+i,none⟩ v).run P w = .ok () (w.setCell ⟨b,o+i,none⟩ v):=by
    rw[run_store P w _ v .plain hv];simp only[hc,Rk h];rfl
   rw[hs];exact r
  ·rw[h2];rw[show o+(i+1)=o+i+1 by omega];rfl
end
class At (b:Nat) (o:outParam Obj) (l:List Q2):Prop where
 get:∀ h,VK l h→h b=some o
class Uy (b:Nat) (o:outParam Obj) (l:List Q2) (o':Obj) (l':outParam (List Q2)):Prop where
 get:∀ h,VK l h→h b=some o
 set:∀ h h',VK l h→h' b=some o'→(∀ c,c≠b→h' c=h c)→VK l' h'
instance (priority:=high) At.here {b:Nat} {o:Obj} {l:List Q2}:At b o (pts b o::l):=⟨fun _ ⟨_,_,a,_,_,x,_⟩=>a b o x⟩
instance At.there {b:Nat} {o:Obj} {A:Q2} {l:List Q2} [i:At b o l]:At b o (A::l):=⟨fun _ s=>i.get _ (Rh s)⟩
instance (priority:=high) Uy.here {b:Nat} {o o':Obj} {l:List Q2}:Uy b o (pts b o::l) o' (pts b o'::l):=
 ⟨fun _ ⟨_,_,a,_,_,x,_⟩=>a b o x,fun _ _ s e1 e2=>Fb s e1 e2⟩
theorem PS {A:Q2} {l l':List Q2} {b:Nat} {o o':Obj} {h h':Hp} (i:Uy b o l o' l') (s:VK (A::l) h) (e1:h' b=some o') (e2:∀ c,c≠b→h' c=h c):VK (A::l') h':=by
 obtain⟨f,g,a,e,d,x,y⟩:=s;have hg:=i.get g y;refine⟨f,fun c=>if c=b then some o' else g c,?_,?_,?_,x,i.set g _ y (by simp) (fun c hc=>by simp[hc])⟩
 ·intro c p hc;have hcb:c≠b:=fun h0=>by subst h0;exact d c p o hc hg
  rw[e2 c hcb];exact a c p hc
 ·intro c p hc;by_cases hcb:c=b
  ·subst hcb;simp at hc;subst hc;exact e1
  ·simp[hcb] at hc;rw[e2 c hcb];exact e c p hc
 ·intro c p p' hc hc';by_cases hcb:c=b
  ·subst hcb;exact d c p o hc hg
  ·simp[hcb] at hc';exact d c p p' hc hc'
instance Uy.there {b:Nat} {o o':Obj} {A:Q2} {l l':List Q2} [i:Uy b o l o' l']:Uy b o (A::l) o' (A::l'):=
 ⟨fun _ s=>i.get _ (Rh s),fun _ _ s e1 e2=>PS i s e1 e2⟩
theorem Q0.at [Q4] {w:World} {l:List Q2} {b:Nat} {o:Obj} [i:At b o l] (h:Q0 w l):w.heap[b]? = some o:=i.get _ h.1
theorem Q0.put [Q4] {w w':World} {l l':List Q2} {b:Nat} {o o':Obj} [i:Uy b o l o' l'] (h:Q0 w l) (e1:w'.heap[b]? = some o') (e2:∀ c,c≠b→w'.heap[c]? = w.heap[c]?) (e:Zb w w'):Q0 w' l':=⟨i.set _ _ h.1 e1 e2,h.2.same e⟩
class B2 (w:World) (b:Nat) (o:outParam Obj):Prop where
 h:w.heap[b]? = some o
instance At.old {b:Nat} {o:Obj} {w₀:World} {l:List Q2} [i:B2 w₀ b o]:At b o (SL.old w₀::l):=⟨fun h ⟨f,_,a,_,_,x,_⟩=>by
 have hb:=(Array.getElem?_eq_some_iff.1 i.h).1;exact a b o ((x b hb).trans i.h)⟩
def St (P:Program) (n:Nat) (r:Option Nat) (o:Oper) (σ:QX) (w:World) (K:QX→World→Prop):Prop:=
 ∀ ms a (Q:Exit→Act→World→Prop),Rel n ms σ a→o.wpIn (F r) 0 P a w (fun a' w'=>∃ σ',Rel n ms σ' a'∧K σ' w') Q
section
variable {P:Program} {n:Nat} {r:Option Nat} {ops:Array Oper} {Q:Y6} {ms:List Nat} {σ:QX} {w:World} {rest:List Oper} {o:Oper} {K:QX→World→Prop}
theorem B3 (hw:Q9 ops σ o true) (h:St P n r o σ w (fun σ' w'=>Lp P n r ops Q rest ms σ' w')):Lp P n r ops Q (o::rest) ms σ w:=fun a ra=>by
 unfold wpListIn;rw[if_pos (hw.wanted ra)];exact Oper.wpIn_mono (fun a' w' ⟨σ',ra',h'⟩=>h' a' ra') (h ms a (B0 n Q) ra)
theorem L5 {K':QX→World→Prop} (h:St P n r o σ w K) (hk:∀ σ w,K σ w→K' σ w):St P n r o σ w K':=fun ms a Q ra=>
 Oper.wpIn_mono (fun a' w' ⟨σ',ra',h'⟩=>⟨σ',ra',hk _ _ h'⟩) (h ms a Q ra)
theorem V3 {v:Value} {w':World} (hd:Qf n o.dst=true) (hdf:∀ c,o.op ≠ .defer c) (hrun:(execOp (ev σ) o).run P w = .ok (.value v) w') (h:K (put σ o.dst v) w'):St P n r o σ w K:=fun ms a Q ra=>by
 refine⟨fun _ _=>trivial,?_⟩;rw[Oper.semAt_eq _ _ _ hdf,ra.eval,hrun];exact⟨_,ra.put v hd,h⟩
theorem D5 {w':World} (hd:Qf n o.dst=true) (hdf:∀ c,o.op ≠ .defer c) (hrun:(execOp (ev σ) o).run P w = .ok .skip w') (h:K (put σ o.dst undef) w'):St P n r o σ w K:=fun ms a Q ra=>by
 refine⟨fun _ _=>trivial,?_⟩;rw[Oper.semAt_eq _ _ _ hdf,ra.eval,hrun];exact⟨_,ra.put undef hd,h⟩
theorem PT {f:FuncId} {args:Array Value} {w':World} (hd:Qf n o.dst=true) (hdf:∀ c,o.op ≠ .defer c) (hrun:(execOp (ev σ) o).run P w = .ok (.enter f args) w')
  (h:Calls P f args w' (ret fun v w''=>K (put σ o.dst v) w'')):St P n r o σ w K:=fun ms a Q ra=>by
 refine⟨fun _ _=>trivial,?_⟩;rw[Oper.semAt_eq _ _ _ hdf,ra.eval,hrun];refine⟨fun hs=>by simp[F] at hs,JT (h.mono fun e w'' q=>?_)⟩;cases e with
 | returned v=>exact⟨_,ra.put v hd,q⟩
 | panicked c=>exact q.elim
 | outgrown=>exact q.elim
theorem Pa {yl:Nat} {args:Array Value} (hd:Qf n o.dst=true) (hdf:∀ c,o.op ≠ .defer c) (hrun:∀ nx,(Instr.yield yl args).run P w = .ok nx w→(execOp (ev σ) o).run P w = .ok nx w)
  (h:Yields P yl args w (fun v w''=>K (put σ o.dst v) w'')):St P n r o σ w K:=fun ms a Q ra=>by
 obtain⟨fn,tmps,assign,body,h1,h2⟩:=h;refine⟨fun _ _=>trivial,?_⟩;rw[Oper.semAt_eq _ _ _ hdf,ra.eval,hrun _ h1];refine⟨fun hs=>by simp[F] at hs,?_⟩
 have h3:RoundIn (F r) 0 P yl fn tmps assign body w (ret (fun v w''=>K (put σ o.dst v) w'')):=by
  cases r with
  | none=>exact h2
  | some l=>exact h2
 refine RoundIn.mono h3 fun e w'' q=>?_;cases e with
 | returned v=>exact⟨_,ra.put v hd,q⟩
 | panicked c=>exact q.elim
 | outgrown=>exact q.elim
def YG (op:BinOp) (k:IntKind) (a b:Int):Int:=
 let x:=BitVec.ofInt k.bits a
 let y:=BitVec.ofInt k.bits b
 k.wrap (match op with | .and=>(x &&& y).toNat | .or=>(x ||| y).toNat | .xor=>(x ^^^ y).toNat|_=>(x &&& ~~~y).toNat)
def XE (k:IntKind) (a b:Int):Int:=k.wrap (a*2 ^ min b.toNat k.bits)
def Uz (k:IntKind) (a b:Int):Int:=a.fdiv (2 ^ min b.toNat k.bits)
def bo:BinOp→Value→Value→Option Value
 | .add,.int k a,.int k' b=>if k=k' then some (.int k (k.wrap (a+b))) else none
 | .sub,.int k a,.int k' b=>if k=k' then some (.int k (k.wrap (a - b))) else none
 | .mul,.int k a,.int k' b=>if k=k' then some (.int k (k.wrap (a*b))) else none
 | .eql,.int k a,.int k' b=>if k=k' then some (.bool (a == b)) else none
 | .neq,.int k a,.int k' b=>if k=k' then some (.bool (a != b)) else none
 | .lss,.int k a,.int k' b=>if k=k' then some (.bool (decide (a < b))) else none
 | .leq,.int k a,.int k' b=>if k=k' then some (.bool (decide (a≤b))) else none
 | .gtr,.int k a,.int k' b=>if k=k' then some (.bool (decide (a > b))) else none
 | .geq,.int k a,.int k' b=>if k=k' then some (.bool (decide (a≥b))) else none
 | .quo,.int k a,.int k' b=>if k=k' then (if b=0 then none else some (.int k (k.wrap (a.tdiv b)))) else none
 | .rem,.int k a,.int k' b=>if k=k' then (if b=0 then none else some (.int k (a.tmod b))) else none
 | .and,.int k a,.int k' b=>if k=k' then some (.int k (YG .and k a b)) else none
 | .or,.int k a,.int k' b=>if k=k' then some (.int k (YG .or k a b)) else none
 | .xor,.int k a,.int k' b=>if k=k' then some (.int k (YG .xor k a b)) else none
 | .andNot,.int k a,.int k' b=>if k=k' then some (.int k (YG .andNot k a b)) else none
 | .shl,.int k a,.int _ b=>if b < 0 then none else some (.int k (XE k a b))
 | .shr,.int k a,.int _ b=>if b < 0 then none else some (.int k (Uz k a b))
 | _,_,_=>none
theorem Pb {op:BinOp} {t:TypeId} {x y v:Value} (h:bo op x y=some v) (u:TypeId) (X Y:Operand):(do eqGuard op t X Y x y;binOp op t x y:Sem Value).run P w = .ok v w:=by
  unfold bo at h
  split at h <;> first
    | (split at h
       · rename_i hk;cases hk;cases h;simp[eqGuard,binOp,Op.intArith,Op.intCmp]
       · cases h)
    | (split at h
       · rename_i hk;cases hk;split at h
         · cases h
         · rename_i hz;cases h;simp[eqGuard,binOp,Op.intDiv,hz]
       · cases h)
    | (split at h
       · rename_i hk;cases hk;cases h;simp[eqGuard,binOp,Op.intBits,YG]
       · cases h)
    | (split at h
       · cases h
       · rename_i hz;cases h;simp[eqGuard,binOp,Op.shift,hz,XE,Uz])
    | cases h
def fo:Value→Option Value
 | .int k a=>some (.int k a)
 | .bool b=>some (.bool b)
 | .string x=>some (.string x)
 | .pointer a=>some (.pointer a)
 | .map a=>some (.map a)
 | .slice a l c=>some (.slice a l c)
 | .agg c=>some (.agg c)
 | .tuple c=>some (.tuple c)
 | .func f a b=>some (.func f a b)
 | .nilFunc=>some .nilFunc
 | .nilIface=>some .nilIface
 | .iface t v=>some (.iface t v)
 | _=>none
theorem Wj {v u:Value} (h:fo v=some u):v=u:=by
 cases v <;> simp[fo] at h <;> exact h
def pv (σ:QX):Op→Option Value
 | .move x | .assign x=>fo (ev σ x)
 | .extract t i=>match ev σ t with
  | .tuple vs=>vs.toList[i]?
  | _=>none
 | .makeFunc f first captured=>some (.func f (first.toList.map (ev σ)).toArray (captured.toList.map (ev σ)).toArray)
 | .nilCheck x=>match ev σ x with
  | .pointer (some a)=>some (.pointer (some a))
  | .func (.func f) a b=>some (.func (.func f) a b)
  | .func (.yield f) a b=>some (.func (.yield f) a b)
  | _=>none
 | .unOp .not _ x=>match ev σ x with
  | .bool b=>some (.bool (!b))
  | _=>none
 | .unOp .neg _ x=>match ev σ x with
  | .int k a=>some (.int k (k.wrap (0 - a)))
  | _=>none
 | .pick c a b=>match ev σ c with
  | .bool true=>fo (ev σ a)
  | .bool false=>fo (ev σ b)
  | _=>none
 | .binOp op _ x y _=>bo op (ev σ x) (ev σ y)
 | _=>none
theorem Pc (σ:QX) (a:Array Operand):a.map (ev σ)=(a.toList.map (ev σ)).toArray:=by
 apply Array.ext';simp
theorem L6 {v:Value} (h:pv σ o.op=some v):(execOp (ev σ) o).run P w = .ok (.value v) w:=by
 unfold execOp;cases ho:o.op <;> rw[ho] at h <;> simp only[pv] at h <;> try (cases h;done)
 case move x=>rw[← Wj h];rfl
 case assign x=>rw[← Wj h];rfl
 case pick c a b=>
  cases hc:ev σ c <;> rw[hc] at h <;> try simp only at h
  all_goals try cases h
  rename_i t;cases t <;> simp only at h <;> rw[← Wj h] <;> simp[asBool,hc]
 case nilCheck x=>
  cases hx:ev σ x <;> rw[hx] at h <;> try simp only at h
  all_goals try cases h
  case pointer p=>
   cases p
   ·cases h
   ·cases h;simp only[hx];rfl
  case func f a b=>cases f <;> cases h <;> simp only[hx] <;> rfl
 case binOp op t x y u=>simp only[Sem.run_bind,Pb (P:=P) (w:=w) h u x y,Result.andThen_ok];rfl
 case unOp op t x=>
  cases op <;> try simp only at h
  all_goals try cases h
  all_goals (cases hx:ev σ x <;> rw[hx] at h <;> cases h;simp[Op.unary,Op.intArith,hx])
 case makeFunc f a b=>cases h;simp[Instr.makeFunc,Pc]
 case extract t i=>
  cases hx:ev σ t <;> rw[hx] at h <;> try simp only at h
  all_goals try cases h
  rename_i vs;have h':vs[i]? = some v:=by simpa using h
  simp[Instr.extract,hx,h']
theorem L7 {v:Value} (h:pv σ o.op=some v):∀ c,o.op ≠ .defer c:=fun c e=>by rw[e] at h;simp[pv] at h
theorem L8 {v:Value} (h:pv σ o.op=some v) (hd:Qf n o.dst=true) (k:K (put σ o.dst v) w):St P n r o σ w K:=V3 hd (L7 h) (L6 h) k
theorem V7 {s:TypeId} {x:Operand} {f off b i:Nat} {t:TypeId} {p:String} {af:Array Edge} {g:Option (Nat×Bool)} {d:Option Tmp} [hf:QL P s f off] (hx:ev σ x = .pointer (some ⟨b,i,none⟩)) (hd:Qf n d=true)
  (k:K (put σ d (.pointer (some ⟨b,i+off,none⟩))) w):St P n r ⟨d,.fieldAddr s x f,t,p,af,g⟩ σ w K:=by
 obtain⟨fs,fd,h1,h2,h3,i',h4,h5⟩:=hf.field;refine V3 (v := .pointer (some ⟨b,i+off,none⟩)) (w':=w) hd (fun c e=>by cases e) ?_ k;simp only[execOp,hx,Instr.fieldAt,Sem.run_bind,underlying,run_program,Result.andThen_ok,h1,Sem.run_pure,h2,Instr.sureAddr,fieldPlace];have hs:(sizeOf fd.type).run P w = .ok i' w:=Zu h4;simp only[hs,Result.andThen_ok,if_neg h5,ZV,h3,Sem.run_pure]
theorem Wk {t:TypeId} (h:T1 P t) {c:List Value} {o:Nat} {v:Value} (hv:c[o]? = some v):(part t c.toArray o).run P w = .ok v w:=by
 unfold part;simp only[Sem.run_bind,L3 h,Result.andThen_ok,Bool.false_eq_true,if_false];simp[hv]
theorem QZ.extract {c:List Value} {o n:Nat} {l:List Value} (h:QZ c o n l):c.toArray.extract o (o+n)=l.toArray:=by
 apply Array.ext';simp only[Array.toList_extract,extract_eq_take_drop];apply ext_getElem?;intro j;have hl:=h.len;by_cases hj:j < n
 ·have hlt:j < l.length:=by omega
  rw[getElem?_take_of_lt (by omega),getElem?_drop,getElem?_eq_getElem hlt];exact h.get j _ (getElem?_eq_getElem hlt)
 ·rw[getElem?_eq_none (by simp;omega),getElem?_eq_none (by omega)]
theorem L9 {t:TypeId} {n:Nat} (h:TN P t n) {c vs:List Value} {o:Nat} (hv:QZ c o n vs):(part t c.toArray o).run P w = .ok (.agg vs.toArray) w:=by
 unfold part;simp only[Sem.run_bind,Ff h,Result.andThen_ok,if_true,Zu h.size,hv.extract,Sem.run_pure]
theorem QW [Q4] {l:List Q2} {t:TypeId} {x:Operand} {b i E:Nat} {fz:Nat×Nat} {c:List Value} {v:Value} {u:TypeId} {p:String} {af:Array Edge} {g:Option (Nat×Bool)} {d:Option Tmp} (H:Q0 w l) (hx:ev σ x = .pointer (some ⟨b,i,none⟩)) [h1:T1 P t] [ha:At b (.cells c.toArray E fz) l] (hv:c[i]? = some v) (hd:Qf n d=true)
  (k:K (put σ d v) w):St P n r ⟨d,.load t x,u,p,af,g⟩ σ w K:=by
 refine V3 (v:=v) (w':=w) hd (fun c e=>by cases e) ?_ k;simp only[execOp,hx,Instr.loadAt,Instr.sureAddr,Sem.run_bind,Sem.run_pure,Result.andThen_ok,L4 (P:=P) h1 H.at hv]
theorem VH [Q4] {l:List Q2} {t:TypeId} {x:Operand} {b i E m:Nat} {fz:Nat×Nat} {c vs:List Value} {u:TypeId} {p:String} {af:Array Edge} {g:Option (Nat×Bool)} {d:Option Tmp} (H:Q0 w l) (hx:ev σ x = .pointer (some ⟨b,i,none⟩)) [h1:TN P t m] [ha:At b (.cells c.toArray E fz) l] (hv:QZ c i m vs) (hd:Qf n d=true)
  (k:K (put σ d (.agg vs.toArray)) w):St P n r ⟨d,.load t x,u,p,af,g⟩ σ w K:=by
 refine V3 (v := .agg vs.toArray) (w':=w) hd (fun c e=>by cases e) ?_ k;simp only[execOp,hx,Instr.loadAt,Instr.sureAddr,Sem.run_bind,Sem.run_pure,Result.andThen_ok,Fg (P:=P) h1 H.at hv]
theorem LQ {t:TypeId} {m:Nat} {b i E:Nat} {c:List Value} {v:Value} (hs:(P.info? t).map (·.size)=some m) (hb:w.heap[b]? = some (row E c)) (hl:v.cells.toList.length=m) (hle:i+m≤c.length) (h1:∀ u∈v.cells.toList,u.oneCell'=true) :
  ∃ w',(storeVar t ⟨b,i,none⟩ v).run P w = .ok () w'∧w'.heap[b]? = some (row E (wr c i v.cells.toList))∧(∀ k,k≠b→w'.heap[k]? = w.heap[k]?)∧Zb w w':=by
 obtain⟨w',r,h2,h3,h4⟩:=B1 (P:=P) v.cells.toList w b i E c 0 hb (by omega) h1;refine⟨w',?_,h2,h3,h4⟩;unfold storeVar;have hz:v.cells.size=m:=by simpa using hl
 simp only[Sem.run_bind,Zu hs,Result.andThen_ok,hz];simp[r]
theorem Yh [Q4] {l l':List Q2} {t:TypeId} {x y:Operand} {b i E:Nat} {c:List Value} {v:Value} {u:TypeId} {p:String} {af:Array Edge} {g:Option (Nat×Bool)} {d:Option Tmp} (H:Q0 w l) (hx:ev σ x = .pointer (some ⟨b,i,none⟩)) (hy':fo (ev σ y)=some v) (h1:T1 P t) (ho:v.oneCell'=true)
  [ha:Uy b (row E c) l (row E (c.set i v)) l'] (hi:i < c.length) (hd:Qf n d=true)
  (k:∀ w',Q0 w' l'→K (put σ d undef) w'):St P n r ⟨d,.store t x y,u,p,af,g⟩ σ w K:=by
 have hy:ev σ y=v:=Wj hy';have hc:v.cells.toList=[v]:=by cases v <;> first|rfl|(simp[Value.oneCell'] at ho)
 obtain⟨w',hr,h2,h3,h4⟩:=LQ (P:=P) (t:=t) (m:=1) (i:=i) (v:=v) h1.size (ha.get _ H.1) (by rw[hc];rfl) (by omega) (by rw[hc];simpa using ho);rw[hc] at h2;have h2':w'.heap[b]? = some (row E (c.set i v)):=h2;refine D5 (w':=w') hd (fun c e=>by cases e) ?_ (k w' ⟨ha.set _ _ H.1 h2' h3,H.2.same h4⟩);simp only[execOp,hx,hy,Instr.storeAt,Instr.sureAddr,Sem.run_bind,Sem.run_pure,Result.andThen_ok,hr]
theorem Zc [Q4] {l l':List Q2} {t:TypeId} {x y:Operand} {b i E m:Nat} {c vs:List Value} {u:TypeId} {p:String} {af:Array Edge} {g:Option (Nat×Bool)} {d:Option Tmp} (H:Q0 w l) (hx:ev σ x = .pointer (some ⟨b,i,none⟩)) (hy:ev σ y = .agg vs.toArray) (h1:TN P t m) (hm:vs.length=m) (ho:vs.all (·.oneCell')=true)
  [ha:Uy b (row E c) l (row E (wr c i vs)) l'] (hi:i+m≤c.length) (hd:Qf n d=true)
  (k:∀ w',Q0 w' l'→K (put σ d undef) w'):St P n r ⟨d,.store t x y,u,p,af,g⟩ σ w K:=by
 have hc:(Value.agg vs.toArray).cells.toList=vs:=by simp[Value.cells]
 obtain⟨w',hr,h2,h3,h4⟩:=LQ (P:=P) (t:=t) (m:=m) (i:=i) (v := .agg vs.toArray) h1.size (ha.get _ H.1) (by rw[hc];exact hm) hi (by rw[hc];exact all_eq_true.1 ho);rw[hc] at h2;refine D5 (w':=w') hd (fun c e=>by cases e) ?_ (k w' (H.put h2 h3 h4));simp only[execOp,hx,hy,Instr.storeAt,Instr.sureAddr,Sem.run_bind,Sem.run_pure,Result.andThen_ok,hr]
def Qt:Value→List Value
 | .agg cs=>cs.toList
 | v=>[v]
theorem K4 (v:Value):v.cells=(Qt v).toArray:=by cases v <;> simp[Value.cells,Qt]
theorem LV [Q4] {l:List Q2} {E:TypeId} {x:Operand} {v:Value} {u:TypeId} {p:String} {af:Array Edge} {g:Option (Nat×Bool)} {d:Option Tmp} (H:Q0 w l) (hx:ev σ x=v) (hd:Qf n d=true)
  (k:∀ b w',Q0 w' (pts b (row E (Qt v))::l)→K (put σ d (.pointer (some ⟨b,0,none⟩))) w'):St P n r ⟨d,.box E x,u,p,af,g⟩ σ w K:=by
 refine V3 (v := .pointer (some ⟨w.heap.size,0,none⟩)) (w':={ w with heap:=w.heap.push (row E (Qt v)) }) hd (fun c e=>by cases e) ?_ (k _ _ (H.new _));simp only[execOp,hx,Instr.box,newVar,newRow,Sem.run_bind,run_newObj,Result.andThen_ok,Sem.run_pure,K4]
theorem Fh {t:TypeId} {v:Value} (h:Qy P t v):(zeroValue t).run P w = .ok v w:=by
 obtain⟨i,hi,hz⟩:=Option.map_eq_some_iff.1 h.zero;unfold zeroValue typeInfo;simp only[Sem.run_bind,run_program,Result.andThen_ok,hi,Sem.run_pure,hz]
theorem Vr [Q4] {l:List Q2} {E:TypeId} {v:Value} {u:TypeId} {p:String} {af:Array Edge} {g:Option (Nat×Bool)} {d:Option Tmp} (H:Q0 w l) [hz:Qy P E v] (hd:Qf n d=true)
  (k:∀ b w',Q0 w' (pts b (row E (Qt v))::l)→K (put σ d (.pointer (some ⟨b,0,none⟩))) w'):St P n r ⟨d,.alloc E,u,p,af,g⟩ σ w K:=by
 refine V3 (v := .pointer (some ⟨w.heap.size,0,none⟩)) (w':={ w with heap:=w.heap.push (row E (Qt v)) }) hd (fun c e=>by cases e) ?_ (k _ _ (H.new _));simp only[execOp,Instr.alloc,newVar,newRow,Sem.run_bind,run_newObj,Result.andThen_ok,Sem.run_pure,K4,Fh (P:=P) (w:=w) hz]
theorem Fi {f:FuncId} (h:QY P f) (args:Array Value):(callFunc f args).run P w = .ok (.enter f args) w:=by
 obtain⟨fn,h1,h2,h3⟩:=h.body;unfold callFunc;simp only[Sem.run_bind,run_program,Result.andThen_ok,h1,h3,h2];simp
theorem V0 {f:FuncId} {x:Operand} {xs:List Operand} {ts:Array TypeId} {a b:List Value} {u:TypeId} {p:String} {af:Array Edge} {g:Option (Nat×Bool)} {d:Option Tmp} (hx:ev σ x = .func (.func f) a.toArray b.toArray) [hb:QY P f] (hd:Qf n d=true)
  (k:Calls P f ((a++xs.map (ev σ))++b).toArray w (ret fun v w'=>K (put σ d v) w')):St P n r ⟨d,.call { callee := .value x,args:=xs.toArray,argTypes:=ts },u,p,af,g⟩ σ w K:=by
 refine PT (f:=f) (args:=((a++xs.map (ev σ))++b).toArray) (w':=w) hd (fun c e=>by cases e) ?_ k;simp only[execOp,resolve,hx,Deferred.ofValue,Sem.run_bind,Sem.run_pure,Result.andThen_ok,invoke];rw[Fi hb];simp
theorem Wl {yl:Nat} {x:Operand} {xs:List Operand} {ts:Array TypeId} {u:TypeId} {p:String} {af:Array Edge} {g:Option (Nat×Bool)} {d:Option Tmp} (hx:ev σ x = .func (.yield yl) #[] #[]) (hd:Qf n d=true)
  (k:Yields P yl (xs.map (ev σ)).toArray w (fun v w'=>K (put σ d v) w')):St P n r ⟨d,.call { callee := .value x,args:=xs.toArray,argTypes:=ts },u,p,af,g⟩ σ w K:=by
 refine Pa (yl:=yl) (args:=(xs.map (ev σ)).toArray) hd (fun c e=>by cases e) ?_ k;intro nx hn;simp only[execOp,resolve,hx,Deferred.ofValue,Sem.run_bind,Sem.run_pure,Result.andThen_ok,invoke];simpa using hn
end
end Go.SL
namespace Go.SL
open List
section
variable {P:Program} {n:Nat} {r:Option Nat} {ops:Array Oper} {Q:Y6} {ms:List Nat}
def K5 (P:Program) (n:Nat) (r:Option Nat) (ops:Array Oper) (i:Nat) (σ:QX) (w:World) (K:QX→World→Prop):Prop:=
 ∃ o,ops[i]? = some o∧((Q9 ops σ o true∧St P n r o σ w K)∨(Q9 ops σ o false∧Qf n o.dst=true∧K (put σ o.dst undef) w))
def hit (D:List Nat) (L:Array Bool):Bool:=D.any fun d=>L.getD d false
def Vc (ivs:List (List Nat×(World→Prop))) (L:Array Bool) (w:World):Prop:=∀ p∈ivs,hit p.1 L=true∨p.2 w
theorem Vc.nil {L:Array Bool} {w:World}:Vc [] L w:=fun _ h=>by cases h
theorem Vc.cons {D:List Nat} {rd:World→Prop} {ivs:List (List Nat×(World→Prop))} {L:Array Bool} {w:World} (h:hit D L=true∨rd w) (t:Vc ivs L w):Vc ((D,rd)::ivs) L w:=fun p hp=>by
 rcases mem_cons.1 hp with rfl|hp
 ·exact h
 ·exact t p hp
def Any (P:Program) (n:Nat) (r:Option Nat) (ops:Array Oper) (ivs:List (List Nat×(World→Prop))) (T:QX→World→Prop):Nat→Array Bool→QX→World→Prop
 | 0,listed,σ,w=>Vc ivs listed w∧Region.ready .any ops listed=[]∧T σ w
 | f+1,listed,σ,w=>Vc ivs listed w∧(Region.ready .any ops listed=[]→T σ w)∧∀ i∈Region.ready .any ops listed,K5 P n r ops i σ w (Any P n r ops ivs T f (listed.setIfInBounds i true))
theorem K5.mono {i:Nat} {σ:QX} {w:World} {K K':QX→World→Prop} (h:K5 P n r ops i σ w K) (hk:∀ σ w,K σ w→K' σ w):K5 P n r ops i σ w K':=by
 obtain⟨o,ho,⟨h1,h2⟩|⟨h1,h2,h3⟩⟩:=h
 ·exact⟨o,ho,.inl ⟨h1,L5 h2 hk⟩⟩
 ·exact⟨o,ho,.inr ⟨h1,h2,hk _ _ h3⟩⟩
theorem K5.sound {i:Nat} {σ:QX} {w:World} {K:QX→World→Prop} {K':Act→World→Prop} (h:K5 P n r ops i σ w K) (hk:∀ σ w a,Rel n ms σ a→K σ w→K' a w) {a:Act} (ra:Rel n ms σ a) :
  wpOpIn (F r) 0 P ops (B0 n Q) i K' a w:=by
 obtain⟨o,ho,⟨h1,h2⟩|⟨h1,h2,h3⟩⟩:=h
 ·unfold wpOpIn;simp only[ho,h1.wanted ra,if_true];exact Oper.wpIn_mono (fun a' w' ⟨σ',ra',q⟩=>hk σ' w' a' ra' q) (h2 ms a _ ra)
 ·unfold wpOpIn;simp only[ho,h1.wanted ra,Bool.false_eq_true,if_false];exact⟨fun _ _=>trivial,hk _ _ _ (ra.put undef h2) h3⟩
theorem Any.sound {ivs:List (List Nat×(World→Prop))} {T:QX→World→Prop} (hT:∀ σ w,T σ w→Q .normal ms σ w):∀ (f:Nat) (listed:Array Bool) (σ:QX) (w:World) (a:Act),Any P n r ops ivs T f listed σ w→Rel n ms σ a →
  wpAnyIn (F r) 0 P .any ops (B0 n Q) f listed a w
 | 0,_,σ,w,a,h,ra=>⟨h.2.1,ms,σ,ra,hT _ _ h.2.2⟩
 | f+1,_,σ,w,a,h,ra=>⟨fun h0=>⟨ms,σ,ra,hT _ _ (h.2.1 h0)⟩,fun i hi=>(h.2.2 i hi).sound (fun σ' w' a' ra' q=>Any.sound hT f _ σ' w' a' q ra') ra⟩
theorem LY {id:Nat} {l:List Oper} {σ:QX} {w:World} (hm:P.follows .mixedOrders=true)
  (h:Any P n r l.toArray [] (fun σ w=>Q .normal ms σ w) l.length (Array.replicate l.length false) σ { w with drawn:=w.drawn+1 }):C P n r (.region id l.toArray true) Q ms σ w:=fun a ra=>
 wpIn_region_any hm (Any.sound (fun _ _ h=>h) _ _ σ _ a (by simpa using h) ra)
def Rl (P:Program) (ops:Array Oper) (Inv:World→Prop) (i:Nat) (σ:QX) (v:Value):Prop:=
 ∃ o,ops[i]? = some o∧(∀ c,o.op ≠ .defer c)∧((Q9 ops σ o true∧∀ w,Inv w→(execOp (ev σ) o).run P w = .ok (.value v) w)∨(Q9 ops σ o false∧v=undef))
theorem Rl.op1 {Inv:World→Prop} {i:Nat} {σ:QX} {v:Value} {w:World} {K:QX→World→Prop} (h:Rl P ops Inv i σ v) (hw:Inv w) (hd:Qf n ((ops[i]?).bind (·.dst))=true) (hk:K (put σ ((ops[i]?).bind (·.dst)) v) w) :
  K5 P n r ops i σ w K:=by
 obtain⟨o,ho,hdf,h⟩:=h;have ed:(ops[i]?).bind (·.dst)=o.dst:=by rw[ho];rfl
 rw[ed] at hd hk
 rcases h with ⟨h1,h2⟩|⟨h1,rfl⟩
 ·exact⟨o,ho,.inl ⟨h1,V3 hd hdf (h2 w hw) hk⟩⟩
 ·exact⟨o,ho,.inr ⟨h1,hd,hk⟩⟩
theorem LZ {σ:QX} {d:Option Tmp} {v:Value} {x:Operand} (h:∀ t,d=some t→x ≠ .tmp t):ev (put σ d v) x=ev σ x:=by
 cases d with
 | none=>rfl
 | some t=>
  cases x with
  | tmp u=>
   have hne:u≠t:=fun e=>h t rfl (by rw[e]);show (bif Nat.beq u t then v else σ u)=σ u;cases hb:Nat.beq u t with
   | false=>rfl
   | true=>exact absurd (Nat.eq_of_beq_eq_true hb) hne
  | const v=>rfl
  | global g=>rfl
  | func f=>rfl
theorem Pd {σ:QX} {d e:Nat} {v u:Value} (h:d≠e):XD (XD σ d v) e u=XD (XD σ e u) d v:=by
 funext j
 unfold XD;cases h1:Nat.beq j e <;> cases h2:Nat.beq j d <;> try rfl
 exact absurd ((Nat.eq_of_beq_eq_true h2).symm.trans (Nat.eq_of_beq_eq_true h1)) h
theorem LG {σ:QX} {x y:Option Tmp} {v u:Value} (h:∀ d,x=some d→y≠some d):put (put σ x v) y u=put (put σ y u) x v:=by
 cases x with
 | none=>rfl
 | some d=>
  cases y with
  | none=>rfl
  | some e=>exact Pd (fun he=>h d rfl (by rw[he]))
theorem LU (o:Oper) (hs:∀ cs b,o.op ≠ .select cs b) (σ:QX) (dst:Option Tmp) (v:Value) (h:∀ d,dst=some d→d∉o.looksAt ops):execOp (ev (put σ dst v)) o=execOp (ev σ) o:=
 execOp_congr o hs fun x hx=>LZ fun d hd hxd=>h d hd (by
  subst hxd;exact mem_append_left _ (mem_filterMap.2 ⟨.tmp d,by simpa using hx,rfl⟩))
theorem Pe {σ:QX} {d:Option Tmp} {v:Value} {j:Nat} (h:∀ t,d=some t→t∉((ops[j]?).bind (·.dst)).toList):gv ops (put σ d v) j=gv ops σ j:=by
 unfold gv;cases hj:(ops[j]?).bind (·.dst) with
 | none=>rfl
 | some t=>
  have:put σ d v t=σ t:=LZ (σ:=σ) (d:=d) (v:=v) (x := .tmp t) (fun u hu e=>h u hu (by rw[hj];cases e;simp));simp only[Option.map_some,this]
theorem D6 {o:Oper} {σ:QX} {d:Option Tmp} {v:Value} {t:Bool} (h:∀ u,d=some u→u∉o.looksAt ops):Q9 ops (put σ d v) o t↔Q9 ops σ o t:=by
 unfold Q9;cases hg:o.guard with
 | none=>rfl
 | some jw=>
  obtain⟨j,want⟩:=jw
  have e:gv ops (put σ d v) j=gv ops σ j:=Pe (fun u hu hm=>h u hu (by
   unfold Oper.looksAt;rw[hg];exact mem_append_right _ hm))
  simp only[e]
theorem Rl.put {Inv:World→Prop} {i j:Nat} {oi oj:Oper} {σ:QX} {v u:Value} (hi:ops[i]? = some oi) (hj:ops[j]? = some oj) (hap:oi.apart ops oj=true) (hsi:∀ cs b,oi.op ≠ .select cs b)
  (h:Rl P ops Inv i σ v):Rl P ops Inv i (put σ oj.dst u) v:=by
 obtain⟨o,ho,hdf,h⟩:=h;have:o=oi:=Option.some.inj (ho.symm.trans hi);subst this;obtain⟨h1,h2,h3⟩:=Oper.apart_spec hap;refine⟨o,ho,hdf,?_⟩
 rcases h with ⟨a,b⟩|⟨a,b⟩
 ·exact .inl ⟨(D6 h3).2 a,fun w hw=>by rw[LU (ops:=ops) o hsi σ oj.dst u h3];exact b w hw⟩
 ·exact .inr ⟨(D6 h3).2 a,b⟩
theorem Pf {oi oj:Oper} {σ:QX} {v:Value} {w:World} {K:QX→World→Prop} (hap:oi.apart ops oj=true) (hsj:∀ cs b,oj.op ≠ .select cs b) (hdj:∀ c,oj.op ≠ .defer c)
  (hd:Qf n oi.dst=true) (hd':Qf n oj.dst=true) (h:St P n r oj (put σ oi.dst v) w K):St P n r oj σ w (fun σ' w'=>∃ u,σ'=put σ oj.dst u∧K (put σ' oi.dst v) w'):=fun ms a Q ra=>by
 obtain⟨h1,h2,h3⟩:=Oper.apart_spec hap;have h:=(h ms (a.put oi.dst v) (fun _ _ _=>False) (ra.put v hd)).2;refine⟨fun _ _=>trivial,?_⟩;have ra':=ra.put v hd;rw[Oper.semAt_eq _ _ _ hdj,ra'.eval,LU (ops:=ops) oj hsj σ oi.dst v h1] at h;rw[Oper.semAt_eq _ _ _ hdj,ra.eval]
 have hok:∀ (u:Value) (w':World),(∃ σ',Rel n ms σ' ((a.put oi.dst v).put oj.dst u)∧K σ' w')→∃ σ',Rel n ms σ' (a.put oj.dst u)∧∃ u',σ'=put σ oj.dst u'∧K (put σ' oi.dst v) w':=by
  rintro u w' ⟨σ',ra2,hk⟩;have ra3:=(ra.put v hd).put u hd'
  have e:σ'=put (put σ oi.dst v) oj.dst u:=by
   funext i
   rw[← ra2.val,← ra3.val]
  subst e;refine⟨_,ra.put u hd',u,rfl,?_⟩;rw[← LG h2];exact hk
 generalize (execOp (ev σ) oj).run P w=Ux at *;cases Ux with
 | ok x w'=>
  cases x <;> simp only[Oper.uponIn] at h ⊢
  case value u=>exact hok u w' h
  case skip=>exact hok undef w' h
  case defer d=>
   obtain⟨σ',ra2,_⟩:=h;have e1:=ra2.defs;have e2:=ra'.defs;exfalso
   have e3:(d::(a.put oi.dst v).defers)=Fc ms:=by
    rw[← e1];cases oj.dst <;> rfl
   rw[e2] at e3;have:=congrArg List.length e3;simp at this
  case enter f args=>
   refine⟨h.1,CallsIn.mono h.2 fun e w'' he=>?_⟩;cases e with
   | returned u=>exact hok u w'' he
   | panicked c=>exact he.elim
   | outgrown=>obtain⟨_,_,q⟩:=he;exact q.elim
  case row row args=>exact⟨h.1,RowsIn.mono h.2 fun u w'' he=>hok u w'' he⟩
  case round l f tmps assign body=>
   refine⟨h.1,RoundIn.mono h.2 fun e w'' he=>?_⟩;cases e with
   | returned u=>exact hok u w'' he
   | panicked c=>exact he.elim
   | outgrown=>obtain⟨_,_,q⟩:=he;exact q.elim
 | halt x w'=>
  cases x <;> simp only[Oper.uponIn] at h ⊢
def D7 (n:Nat) (ops:Array Oper):Bool:=ops.toList.all fun o=>Qf n o.dst && (match o.op with | .select _ _=>false | .defer _=>false|_=>true)
theorem D8 (h:D7 n ops=true) {j:Nat} {o:Oper} (hj:ops[j]? = some o):Qf n o.dst=true∧(∀ cs b,o.op ≠ .select cs b)∧(∀ c,o.op ≠ .defer c):=by
 have hm:o∈ops.toList:=by
  have:=Array.mem_of_getElem? hj;simpa using this
 have:=all_eq_true.1 h o hm;simp only[Bool.and_eq_true] at this;refine⟨this.1,fun cs b e=>?_,fun c e=>?_⟩
 ·have h2:=this.2;rw[e] at h2;cases h2
 ·have h2:=this.2;rw[e] at h2;cases h2
theorem Pg {i j:Nat} {oi:Oper} {σ:QX} {v:Value} {w:World} {K:QX→World→Prop} (hf:D7 n ops=true) (hi:ops[i]? = some oi) (hap:∀ oj,ops[j]? = some oj→oi.apart ops oj=true)
  (h:K5 P n r ops j (put σ oi.dst v) w K):K5 P n r ops j σ w (fun σ' w'=>∃ oj u,ops[j]? = some oj∧σ'=put σ oj.dst u∧K (put σ' oi.dst v) w'):=by
 obtain⟨oj,hj,h⟩:=h;obtain⟨d1,_,_⟩:=D8 hf hi;obtain⟨d2,s2,f2⟩:=D8 hf hj;have ha:=hap oj hj;obtain⟨h1,h2,h3⟩:=Oper.apart_spec ha;refine⟨oj,hj,?_⟩
 rcases h with ⟨a,b⟩|⟨a,b,c⟩
 ·exact .inl ⟨(D6 h1).1 a,L5 (Pf ha s2 f2 d1 d2 b) fun σ' w' ⟨u,e,k⟩=>⟨oj,u,hj,e,k⟩⟩
 ·exact .inr ⟨(D6 h1).1 a,b,oj,undef,hj,rfl,by rw[← LG h2];exact c⟩
def tw (ops:Array Oper) (i:Nat):Nat→Nat→Bool
 | 0,_=>false
 | f+1,j=>match ops[j]? with
  | some o=>o.after.any fun e=>Region.binds .any e && (e.on == i || tw ops i f e.on)
  | none=>false
def Wm (ops:Array Oper) (L:Array Bool):Prop:=∀ j oj,ops[j]? = some oj→L.getD j false=true→∀ e∈oj.after,Region.binds .any e=true→L.getD e.on false=true
theorem Wm.set {L:Array Bool} {i:Nat} (h:Wm ops L) (hi:i∈Region.ready .any ops L):Wm ops (L.setIfInBounds i true):=fun j oj hj hl e he hb=>by
 obtain⟨_,oi,hoi,hall⟩:=mem_ready.1 hi;by_cases hij:i=j
 ·subst hij;have:oj=oi:=Option.some.inj (hj.symm.trans hoi);subst this;exact getD_set_true (hall e he hb)
 ·rw[getD_set_ne false hij] at hl;exact getD_set_true (h j oj hj hl e he hb)
theorem LX {i:Nat} {L:Array Bool} (hc:Wm ops L) (hi:L.getD i false=false):∀ (f j:Nat),tw ops i f j=true→L.getD j false=false∧j∉Region.ready .any ops L
 | 0,_,h=>by cases h
 | f+1,j,h=>by
  unfold tw at h;split at h
  ·rename_i o ho;obtain⟨e,he,hb⟩:=Array.any_eq_true'.1 h;simp only[Bool.and_eq_true,Bool.or_eq_true,beq_iff_eq] at hb
   have hun:L.getD e.on false=false:=by
    rcases hb.2 with h3|h3
    ·rw[h3];exact hi
    ·exact(LX hc hi f e.on h3).1
   refine⟨?_,fun hr=>?_⟩
   ·cases hl:L.getD j false with
    | false=>rfl
    | true=>rw[hc j o ho hl e he hb.1] at hun;cases hun
   ·obtain⟨_,o',ho',hall⟩:=mem_ready.1 hr;have:o=o':=Option.some.inj (ho.symm.trans ho');subst this;rw[hall e he hb.1] at hun;cases hun
  ·cases h
theorem Fj {D:List Nat} {L:Array Bool} {j:Nat} (h:hit D L=false) (hj:j∉D):hit D (L.setIfInBounds j true)=false:=by
 unfold hit at *;rw[any_eq_false] at *;intro d hd;have:=h d hd;have hne:j≠d:=fun e=>hj (e▸hd);rw[getD_set_ne false hne];exact this
theorem Ph {D:List Nat} {L:Array Bool} {j:Nat} (h:hit D (L.setIfInBounds j true)=true) (hj:j∉D):hit D L=true:=by
 cases e:hit D L with
 | true=>rfl
 | false=>rw[Fj e hj] at h;cases h
theorem Any.mono {ivs ivs':List (List Nat×(World→Prop))} {T:QX→World→Prop} (hI:∀ p∈ivs,p∈ivs'):∀ (f:Nat) (listed:Array Bool) (σ:QX) (w:World),Any P n r ops ivs' T f listed σ w→Any P n r ops ivs T f listed σ w
 | 0,_,_,w,h=>⟨fun p hp=>h.1 p (hI p hp),h.2⟩
 | f+1,_,_,w,h=>⟨fun p hp=>h.1 p (hI p hp),h.2.1,fun j hj=>(h.2.2 j hj).mono fun σ w=>Any.mono hI f _ σ w⟩
theorem Any.inv {ivs:List (List Nat×(World→Prop))} {T:QX→World→Prop}:∀ {f:Nat} {listed:Array Bool} {σ:QX} {w:World},Any P n r ops ivs T f listed σ w→Vc ivs listed w
 | 0,_,_,_,h=>h.1
 | _+1,_,_,_,h=>h.1
theorem LK {i:Nat} {L:Array Bool} (h:i∈Region.ready .any ops L):L.getD i false=false:=by
 obtain⟨h0,o,ho,_⟩:=mem_ready.1 h
 rcases Nat.lt_or_ge i L.size with h'|h'
 ·simp[h'] at h0 ⊢;exact h0
 ·simp[Array.getElem?_eq_none h'] at h0
theorem Any.first {ivs:List (List Nat×(World→Prop))} {rd:World→Prop} {T:QX→World→Prop} {i:Nat} {oi:Oper} {v:Value} (D:List Nat)
  (hf:D7 n ops=true) (hi:ops[i]? = some oi) (hD:∀ d∈D,d≠i∧tw ops i ops.size d=true) (hiv:∀ p∈ivs,i∉p.1) :
  ∀ (f:Nat) (listed:Array Bool) (σ:QX) (w:World),Wm ops listed→hit D listed=false →
   (∀ j oj,ops[j]? = some oj→j≠i→listed.getD j true=false→(∀ e∈oj.after,Region.binds .any e=true→e.on≠i)→oi.apart ops oj=true) →
   i∈Region.ready .any ops listed→Rl P ops rd i σ v →
   Any P n r ops ((D,rd)::ivs) T f (listed.setIfInBounds i true) (put σ oi.dst v) w→Any P n r ops ivs T (f+1) listed σ w:=by
 have hdi:Qf n ((ops[i]?).bind (·.dst))=true:=by rw[hi];exact(D8 hf hi).1
 have edi:(ops[i]?).bind (·.dst)=oi.dst:=by rw[hi];rfl
 have hiD:i∉D:=fun h=>(hD i h).1 rfl;have hsub:∀ p∈ivs,p∈(D,rd)::ivs:=fun p hp=>mem_cons_of_mem _ hp;have hpr:∀ L w,Vc ((D,rd)::ivs) (L.setIfInBounds i true) w→Vc ivs L w:=fun L w h p hp=>(h p (hsub p hp)).imp (fun e=>Ph e (hiv p hp)) id;have hrd:∀ L w,hit D L=false→Vc ((D,rd)::ivs) (L.setIfInBounds i true) w→rd w:=fun L w hh h=>(h (D,rd) (mem_cons_self ..)).resolve_left (by rw[Fj hh hiD];simp);intro f
 induction f with
 | zero=>
  intro listed σ w hc hh _ hr hy H;refine⟨hpr _ w H.inv,fun h=>(by rw[h] at hr;cases hr),fun j hj=>?_⟩;by_cases hji:j=i
  ·subst hji;exact hy.op1 (hrd _ w hh H.inv) hdi (by rw[edi];exact Any.mono hsub _ _ _ _ H)
  ·have:=ready_mono hj hji;rw[H.2.1] at this;cases this
 | succ f ih=>
  intro listed σ w hc hh hfree hr hy H;refine⟨hpr _ w H.inv,fun h=>(by rw[h] at hr;cases hr),fun j hj=>?_⟩;by_cases hji:j=i
  ·subst hji;exact hy.op1 (hrd _ w hh H.inv) hdi (by rw[edi];exact Any.mono hsub _ _ _ _ H)
  ·have hjD:j∉D:=fun h=>(LX hc (LK hr) _ _ (hD j h).2).2 hj;have h1:=H.2.2 j (ready_mono hj hji);obtain⟨hjun,oj,hoj,hall⟩:=mem_ready.1 hj
   have hnot:∀ e∈oj.after,Region.binds .any e=true→e.on≠i:=fun e he hb heq=>by
    have h1:=hall e he hb;rw[heq,LK hr] at h1;cases h1
   have hap:=hfree j oj hoj hji hjun hnot;refine(Pg hf hi (fun o ho=>by rw[Option.some.inj (ho.symm.trans hoj)];exact hap) h1).mono ?_;rintro σ' w' ⟨oj',u,hoj',rfl,h3⟩;have ej:oj'=oj:=Option.some.inj (hoj'.symm.trans hoj);subst ej
   have hfree':∀ k ok,ops[k]? = some ok→k≠i→(listed.setIfInBounds j true).getD k true=false →
     (∀ e∈ok.after,Region.binds .any e=true→e.on≠i)→oi.apart ops ok=true:=fun k ok hk hki hun hno=>by
    refine hfree k ok hk hki ?_ hno;by_cases hjk:j=k
    ·subst hjk;exact hjun
    ·rw[getD_set_ne true hjk] at hun;exact hun
   rw[← Array.setIfInBounds_comm _ _ hji] at h3;exact ih (listed.setIfInBounds j true) _ w' (hc.set hj) (Fj hh hjD) hfree' (ready_mono hr (Ne.symm hji)) (hy.put hi hoj hap (D8 hf hi).2.1) h3
def LW (ops:Array Oper) (L:Array Bool):Bool:=(List.range ops.size).all fun j => !L.getD j false || match ops[j]? with
 | some o=>o.after.all fun e => !Region.binds .any e || L.getD e.on false
 | none=>true
theorem Pj {L:Array Bool} (h:LW ops L=true):Wm ops L:=fun j oj hj hl e he hb=>by
 have hlt:j < ops.size:=(Array.getElem?_eq_some_iff.1 hj).1;have h1:=all_eq_true.1 h j (mem_range.2 hlt);rw[hl,hj] at h1;simp only[Bool.not_true,Bool.false_or] at h1;have h2:=Array.all_eq_true_iff_forall_mem.1 h1 e he;simpa [hb] using h2
def YU (n:Nat) (ops:Array Oper) (ivs:List (List Nat)) (L:Array Bool) (i:Nat) (D:List Nat):Bool:=
 D7 n ops && LW ops L && (D.all fun d=>d != i && tw ops i ops.size d) && !hit D L && Region.free .any ops L i && (Region.ready .any ops L).contains i && ivs.all fun p => !p.contains i
variable {ivs:List (List Nat×(World→Prop))} {T:QX→World→Prop} {f:Nat} {L:Array Bool} {σ:QX} {w:World} {l:List Q2}
theorem B4 {o:Oper} {v:Value} {rd:World→Prop} (i:Nat) (D:List Nat) (hi:ops[i]? = some o) (hy:Rl P ops rd i σ v) (hs:YU n ops (ivs.map (·.1)) L i D=true)
  (h:Any P n r ops ((D,rd)::ivs) T f (L.setIfInBounds i true) (put σ o.dst v) w):Any P n r ops ivs T (f+1) L σ w:=by
 simp only[YU,Bool.and_eq_true,Bool.not_eq_true'] at hs;obtain⟨⟨⟨⟨⟨⟨h1,h2⟩,h3⟩,h4⟩,h5⟩,h6⟩,h7⟩:=hs;refine Any.first D h1 hi (fun d hd=>?_) (fun p hp=>?_) f L σ w (Pj h2) h4 (Region.free_spec hi h5) (by simpa using h6) hy h
 ·have:=all_eq_true.1 h3 d hd;simp only[Bool.and_eq_true,bne_iff_ne] at this;exact this
 ·have:=all_eq_true.1 h7 p.1 (mem_map_of_mem hp);simpa using this
theorem Gp {o:Oper} {v:Value} (i:Nat) (hi:ops[i]? = some o) (hg:Q9 ops σ o true) (hdf:∀ c,o.op ≠ .defer c) (hv:∀ w,(execOp (ev σ) o).run P w = .ok (.value v) w) (hs:YU n ops (ivs.map (·.1)) L i []=true) (h:Any P n r ops ivs T f (L.setIfInBounds i true) (put σ o.dst v) w) :
  Any P n r ops ivs T (f+1) L σ w:=
 B4 (rd:=fun _=>True) i [] hi ⟨o,hi,hdf,.inl ⟨hg,fun w _=>hv w⟩⟩ hs (Any.mono (ivs:=([],fun _=>True)::ivs) (ivs':=([],fun _=>True)::ivs) (fun _ h=>h) _ _ _ _ (by
  have key:∀ (f:Nat) (L:Array Bool) (σ:QX) (w:World),Any P n r ops ivs T f L σ w→Any P n r ops (([],fun _=>True)::ivs) T f L σ w:=by
   intro f
   induction f with
   | zero=>exact fun L σ w h=>⟨Vc.cons (.inr trivial) h.1,h.2⟩
   | succ f ih=>exact fun L σ w h=>⟨Vc.cons (.inr trivial) h.1,h.2.1,fun j hj=>(h.2.2 j hj).mono fun σ w=>ih _ σ w⟩
  exact key _ _ _ _ h))
theorem Gc {d:Option Tmp} {op:Op} {u:TypeId} {p:String} {af:Array Edge} {g:Option (Nat×Bool)} {v:Value} (i:Nat) (hi:ops[i]? = some ⟨d,op,u,p,af,g⟩) (hg:Q9 ops σ ⟨d,op,u,p,af,g⟩ true) (hv:pv σ op=some v) (hs:YU n ops (ivs.map (·.1)) L i []=true) (h:Any P n r ops ivs T f (L.setIfInBounds i true) (put σ d v) w) :
  Any P n r ops ivs T (f+1) L σ w:=
 Gp i hi hg (L7 (o:=⟨d,op,u,p,af,g⟩) hv) (fun _=>L6 (o:=⟨d,op,u,p,af,g⟩) hv) hs h
theorem Pk {d:Option Tmp} {op:Op} {u:TypeId} {p:String} {af:Array Edge} {g:Option (Nat×Bool)} (i:Nat) (hi:ops[i]? = some ⟨d,op,u,p,af,g⟩) (hg:Q9 ops σ ⟨d,op,u,p,af,g⟩ false) (hdf:∀ c,op ≠ .defer c) (hs:YU n ops (ivs.map (·.1)) L i []=true) (h:Any P n r ops ivs T f (L.setIfInBounds i true) (put σ d undef) w) :
  Any P n r ops ivs T (f+1) L σ w:=
 B4 (rd:=fun _=>True) i [] hi ⟨_,hi,hdf,.inr ⟨hg,rfl⟩⟩ hs (by
  have key:∀ (f:Nat) (L:Array Bool) (σ:QX) (w:World),Any P n r ops ivs T f L σ w→Any P n r ops (([],fun _=>True)::ivs) T f L σ w:=by
   intro f
   induction f with
   | zero=>exact fun L σ w h=>⟨Vc.cons (.inr trivial) h.1,h.2⟩
   | succ f ih=>exact fun L σ w h=>⟨Vc.cons (.inr trivial) h.1,h.2.1,fun j hj=>(h.2.2 j hj).mono fun σ w=>ih _ σ w⟩
  exact key _ _ _ _ h)
theorem LA {o:Oper} {v:Value} {b:Nat} {ob:Obj} (i:Nat) (D:List Nat) (hi:ops[i]? = some o) (hg:Q9 ops σ o true) (hdf:∀ c,o.op ≠ .defer c) (hv:∀ w,w.heap[b]? = some ob→(execOp (ev σ) o).run P w = .ok (.value v) w) (hs:YU n ops (ivs.map (·.1)) L i D=true)
  (h:Any P n r ops ((D,fun w=>w.heap[b]? = some ob)::ivs) T f (L.setIfInBounds i true) (put σ o.dst v) w):Any P n r ops ivs T (f+1) L σ w:=
 B4 i D hi ⟨o,hi,hdf,.inl ⟨hg,hv⟩⟩ hs h
theorem B5 {o:Oper} (i:Nat) (hi:ops[i]? = some o) (hr:Region.ready .any ops L=[i]) (hI:Vc ivs L w) (hg:Q9 ops σ o true) (h:St P n r o σ w (Any P n r ops ivs T f (L.setIfInBounds i true))):Any P n r ops ivs T (f+1) L σ w:=
 ⟨hI, fun h0 => (by rw [hr] at h0; cases h0), fun j hj => by
  rw[hr] at hj;have:j=i:=by simpa using hj
  subst this;exact⟨o,hi,.inl ⟨hg,h⟩⟩⟩
theorem Fk (hr:Region.ready .any ops L=[]) (hI:Vc ivs L w) (h:T σ w):Any P n r ops ivs T f L σ w:=by
 cases f with
 | zero=>exact⟨hI,hr,h⟩
 | succ f=>exact⟨hI,fun _=>h,fun j hj=>by rw[hr] at hj;cases hj⟩
end
end Go.SL
set_option linter.unusedSectionVars false
namespace Go.SL
open List
class Yc (P:Program) (t:TypeId) (k:outParam TypeId) (e:outParam TypeId):Prop where
 und:P.underlying t=some (.map k e)
structure GQ (P:Program) (k:TypeId) {K:Type} (ek:K→Value):Prop where
 inj:∀ a b,ek a=ek b→a=b
 check:∀ (w:World) (em:Bool) (x:K),(Instr.checkKey em 10000 k (ek x)).run P w = .ok () w
 stays:∀ (w:World) (x:K),(Instr.keyThatStays (ek x) (ek x)).run P w = .ok (ek x) w
 find:∀ (w:World) (x:K) (es:List MapEntry) (ks:List K),es.map (·.key)=ks.map ek →
  ((Instr.findKey k (ek x) es).run P w = .ok none w∧x∉ks)∨∃ j e,(Instr.findKey k (ek x) es).run P w = .ok (some (j,e.val)) w∧es[j]? = some e∧ks[j]? = some x
section
variable {K V:Type} [DecidableEq K]
def Q8:List (K×V)→K→Option V
 | [],_=>none
 | p::l,x=>if p.1=x then some p.2 else Q8 l x
def Vm (m:List (K×V)) (x:K) (v:V):List (K×V):=
 match m with
 | []=>[(x,v)]
 | p::l=>if p.1=x then (x,v)::l else p::Vm l x v
def QB:List (K×V)→K→List (K×V)
 | [],_=>[]
 | p::l,x=>if p.1=x then l else p::QB l x
theorem Fm {m:List (K×V)} {x:K} (h:x∉m.map (·.1)):Q8 m x=none:=by
 induction m with
 | nil=>rfl
 | cons p l ih=>
  simp only[map_cons,mem_cons,not_or] at h;simp only[Q8,if_neg (Ne.symm h.1),ih h.2]
theorem LC {m:List (K×V)} {x:K} {v:V}:∀ {j:Nat},(m.map (·.1)).Nodup→m[j]? = some (x,v)→Q8 m x=some v:=by
 induction m with
 | nil=>intro j _ h;simp at h
 | cons p l ih=>
  intro j hn h;simp only[map_cons,nodup_cons] at hn;cases j with
  | zero=>simp at h;subst h;simp[Q8]
  | succ j=>
   have h':l[j]? = some (x,v):=by simpa using h
   have hm:x∈l.map (·.1):=mem_map.2 ⟨(x,v),mem_of_getElem? h',rfl⟩;have hne:p.1≠x:=fun e=>hn.1 (e▸hm);simp only[Q8,if_neg hne,ih hn.2 h']
theorem XF {m:List (K×V)} {x:K} {v:V} (h:x∉m.map (·.1)):Vm m x v=m++[(x,v)]:=by
 induction m with
 | nil=>rfl
 | cons p l ih=>
  simp only[map_cons,mem_cons,not_or] at h;simp only[Vm,if_neg (Ne.symm h.1),ih h.2,cons_append]
theorem LD {m:List (K×V)} {x:K} {v u:V}:∀ {j:Nat},(m.map (·.1)).Nodup→m[j]? = some (x,u)→Vm m x v=m.set j (x,v):=by
 induction m with
 | nil=>intro j _ h;simp at h
 | cons p l ih=>
  intro j hn h;simp only[map_cons,nodup_cons] at hn;cases j with
  | zero=>simp at h;subst h;simp[Vm]
  | succ j=>
   have h':l[j]? = some (x,u):=by simpa using h
   have hm:x∈l.map (·.1):=mem_map.2 ⟨(x,u),mem_of_getElem? h',rfl⟩;have hne:p.1≠x:=fun e=>hn.1 (e▸hm);simp only[Vm,if_neg hne,ih hn.2 h',set_cons_succ]
theorem B6 {m:List (K×V)} {x:K} (h:x∉m.map (·.1)):QB m x=m:=by
 induction m with
 | nil=>rfl
 | cons p l ih=>
  simp only[map_cons,mem_cons,not_or] at h;simp only[QB,if_neg (Ne.symm h.1),ih h.2]
theorem LF {m:List (K×V)} {x:K} {u:V}:∀ {j:Nat},(m.map (·.1)).Nodup→m[j]? = some (x,u)→QB m x=m.eraseIdx j:=by
 induction m with
 | nil=>intro j _ h;simp at h
 | cons p l ih=>
  intro j hn h;simp only[map_cons,nodup_cons] at hn;cases j with
  | zero=>simp at h;subst h;simp[QB]
  | succ j=>
   have h':l[j]? = some (x,u):=by simpa using h
   have hm:x∈l.map (·.1):=mem_map.2 ⟨(x,u),mem_of_getElem? h',rfl⟩;have hne:p.1≠x:=fun e=>hn.1 (e▸hm);simp only[QB,if_neg hne,ih hn.2 h',eraseIdx_cons_succ]
theorem LH {m:List (K×V)} {x y:K} {v:V}:y∈(Vm m x v).map (·.1)↔y=x∨y∈m.map (·.1):=by
 induction m with
 | nil=>simp[Vm]
 | cons p l ih=>
  simp only[Vm];split
  ·rename_i e;subst e;simp
  ·simp only[map_cons,mem_cons,ih];constructor
   ·rintro(h|h|h)
    ·exact .inr (.inl h)
    ·exact .inl h
    ·exact .inr (.inr h)
   ·rintro(h|h|h)
    ·exact .inr (.inl h)
    ·exact .inl h
    ·exact .inr (.inr h)
theorem D9 {m:List (K×V)} {x:K} {v:V} (h:(m.map (·.1)).Nodup):((Vm m x v).map (·.1)).Nodup:=by
 induction m with
 | nil=>simp[Vm]
 | cons p l ih=>
  simp only[map_cons,nodup_cons] at h;simp only[Vm];split
  ·rename_i e;subst e;simpa using h
  ·rename_i e;simp only[map_cons,nodup_cons];exact⟨fun hm=>(LH.1 hm).elim e h.1,ih h.2⟩
theorem B7 {m:List (K×V)} {x y:K} (h:(m.map (·.1)).Nodup):y∈(QB m x).map (·.1)↔y≠x∧y∈m.map (·.1):=by
 induction m with
 | nil=>simp[QB]
 | cons p l ih=>
  simp only[map_cons,nodup_cons] at h;simp only[QB];split
  ·rename_i e;subst e;constructor
   ·exact fun hm=>⟨fun e=>h.1 (e▸hm),by simp[hm]⟩
   ·rintro⟨h1,h2⟩;simp only[map_cons,mem_cons] at h2;exact h2.resolve_left h1
  ·rename_i e;simp only[map_cons,mem_cons,ih h.2];constructor
   ·rintro(rfl|h)
    ·exact⟨e,.inl rfl⟩
    ·exact⟨h.1,.inr h.2⟩
   ·rintro⟨h1,h2|h2⟩
    ·exact .inl h2
    ·exact .inr ⟨h1,h2⟩
theorem X0 {m:List (K×V)} {x:K} (h:(m.map (·.1)).Nodup):((QB m x).map (·.1)).Nodup:=by
 induction m with
 | nil=>simp[QB]
 | cons p l ih=>
  have h0:=h;simp only[map_cons,nodup_cons] at h;simp only[QB];split
  ·exact h.2
  ·simp only[map_cons,nodup_cons];exact⟨fun hm=>h.1 ((B7 h.2).1 hm).2,ih h.2⟩
theorem Gd {m:List (K×V)} {x y:K} {v:V}:Q8 (Vm m x v) y=if x=y then some v else Q8 m y:=by
 induction m with
 | nil=>simp[Vm,Q8]
 | cons p l ih=>
  simp only[Vm];split
  ·rename_i e;subst e;simp only[Q8];split <;> rfl
  ·rename_i e;simp only[Q8,ih];by_cases h:p.1=y
   ·subst h;rw[if_pos rfl,if_neg (Ne.symm e),if_pos rfl]
   ·rw[if_neg h,if_neg h]
theorem XH {m:List (K×V)} {x y:K} (h:(m.map (·.1)).Nodup):Q8 (QB m x) y=if x=y then none else Q8 m y:=by
 induction m with
 | nil=>simp[QB,Q8]
 | cons p l ih=>
  simp only[map_cons,nodup_cons] at h;simp only[QB];split
  ·rename_i e;subst e;split
   ·rename_i e;subst e;exact Fm h.1
   ·rename_i e;simp only[Q8,if_neg e]
  ·rename_i e;simp only[Q8,ih h.2];by_cases h':p.1=y
   ·subst h';rw[if_pos rfl,if_neg (Ne.symm e),if_pos rfl]
   ·rw[if_neg h',if_neg h']
theorem Ud {m:List (K×V)} {x:K} {v:V} (h:Q8 m x=some v):(x,v)∈m:=by
 induction m with
 | nil=>cases h
 | cons p l ih=>
  simp only[Q8] at h;split at h
  ·rename_i e;subst e;cases h;exact mem_cons_self ..
  ·exact mem_cons_of_mem _ (ih h)
theorem Y4 {m:List (K×V)} {x:K} {v:V} (hn:(m.map (·.1)).Nodup):Q8 m x=some v↔(x,v)∈m:=
 ⟨Ud,fun h=>by obtain⟨j,hj,e⟩:=getElem_of_mem h;exact LC hn (j:=j) (by rw[getElem?_eq_getElem hj,e])⟩
theorem Rm {m:List (K×V)} {x:K}:Q8 m x=none↔x∉m.map (·.1):=by
 refine⟨fun h hm=>?_,Fm⟩
 induction m with
 | nil=>simp at hm
 | cons p l ih=>
  simp only[Q8] at h;split at h
  ·cases h
  ·rename_i e;simp only[map_cons,mem_cons] at hm;exact hm.elim (fun h'=>e h'.symm) (ih h)
theorem LI {α β:Type} (g:α→β):∀ (l:List α) (j:Nat),(l.map g).eraseIdx j=(l.eraseIdx j).map g
 | [],_=>rfl
 | _::_,0=>rfl
 | a::l,j+1=>by simp only[map_cons,eraseIdx_cons_succ,LI g l j]
end
structure Ym {K V:Type} (ek:K→Value) (vv:V→Value) (es:Array MapEntry) (clock:Nat) (m:List (K×V)):Prop where
 ents:es.toList.map (fun e=>(e.key,e.val))=m.map (fun p=>(ek p.1,vv p.2))
 nodup:(m.map (·.1)).Nodup
 rise:(es.toList.map (·.born)).Pairwise (· < ·)
 born:∀ e∈es.toList,e.born < clock
def mp {K V:Type} (ek:K→Value) (vv:V→Value) (b:Nat) (m:List (K×V)):Q2:=fun h=>∃ es clock,h b=some (.map es clock)∧Ym ek vv es clock m
class Ue {K V:outParam Type} (ek:outParam (K→Value)) (vv:outParam (V→Value)) (b:Nat) (m:outParam (List (K×V))) (l:List Q2):Prop where
 get:∀ h,VK l h→mp ek vv b m h
class Rn {K V:Type} (ek:K→Value) (vv:V→Value) (b:Nat) (m:List (K×V)) (l:List Q2) (m':List (K×V)) (l':outParam (List Q2)):Prop where
 get:∀ h,VK l h→mp ek vv b m h
 set:∀ h h',VK l h→mp ek vv b m' h'→(∀ c,c≠b→h' c=h c)→VK l' h'
section
variable {K V:Type} {ek:K→Value} {vv:V→Value} {b:Nat} {m m':List (K×V)} {l l':List Q2}
theorem LJ {f g:Hp} (s:Vt f g):mp ek vv b m f→mp ek vv b m g:=fun ⟨es,c,h1,h2⟩=>⟨es,c,s _ _ h1,h2⟩
instance (priority:=high) Ue.here:Ue ek vv b m (mp ek vv b m::l):=⟨fun _ ⟨_,_,a,_,_,x,_⟩=>LJ a x⟩
instance Ue.there {A:Q2} [i:Ue ek vv b m l]:Ue ek vv b m (A::l):=⟨fun _ s=>i.get _ (Rh s)⟩
instance (priority:=high) Rn.here:Rn ek vv b m (mp ek vv b m::l) m' (mp ek vv b m'::l) where
 get:=fun _ ⟨_,_,a,_,_,x,_⟩=>LJ a x
 set:=fun h h' ⟨f,g,a,e,d,⟨es,c,h1,h2⟩,y⟩ ⟨es',c',h3,h4⟩ hs=>by
  have s:VK (pts b (.map es c)::l) h:=⟨f,g,a,e,d,h1,y⟩;exact JC (fun k hk=>⟨es',c',hk,h4⟩) (Fb s h3 hs)
instance Rn.there {A:Q2} [i:Rn ek vv b m l m' l']:Rn ek vv b m (A::l) m' (A::l') where
 get:=fun _ s=>i.get _ (Rh s)
 set:=fun h h' ⟨f,g,a,e,d,x,y⟩ ⟨es',c',h3,h4⟩ hs=>by
  obtain⟨es,c,h1,h2⟩:=i.get g y;refine⟨f,fun k=>if k=b then some (.map es' c') else g k,?_,?_,?_,x,i.set g _ y ⟨es',c',by simp,h4⟩ (fun k hk=>by simp[hk])⟩
  ·intro k p hk;have hkb:k≠b:=fun h0=>by subst h0;exact d k p _ hk h1
   rw[hs k hkb];exact a k p hk
  ·intro k p hk;by_cases hkb:k=b
   ·subst hkb;simp at hk;subst hk;exact h3
   ·simp[hkb] at hk;rw[hs k hkb];exact e k p hk
  ·intro k p p' hk hk';by_cases hkb:k=b
   ·subst hkb;exact d k p _ hk h1
   ·simp[hkb] at hk';exact d k p p' hk hk'
theorem Q0.mp [Q4] {w:World} (h:Q0 w l) [i:Ue ek vv b m l]:∃ es clock,w.heap[b]? = some (.map es clock)∧Ym ek vv es clock m:=i.get _ h.1
end
section
variable {P:Program} {w:World} {K V:Type} [DecidableEq K] {ek:K→Value} {vv:V→Value} {b:Nat} {m:List (K×V)} {t k e:TypeId}
theorem Ym.keys {es:Array MapEntry} {clock:Nat} (h:Ym ek vv es clock m):es.toList.map (·.key)=(m.map (·.1)).map ek:=by
 have:=congrArg (List.map Prod.fst) h.ents;simpa [map_map,Function.comp_def] using this
theorem Ym.at {es:Array MapEntry} {clock:Nat} (h:Ym ek vv es clock m) {j:Nat} {x:MapEntry} (hj:es.toList[j]? = some x):∃ p,m[j]? = some p∧x.key=ek p.1∧x.val=vv p.2:=by
 have h1:=congrArg (fun l=>l[j]?) h.ents;simp only[getElem?_map,hj,Option.map_some] at h1;cases hm:m[j]? with
 | none=>rw[hm] at h1;cases h1
 | some p=>rw[hm] at h1;simp at h1;exact⟨p,rfl,h1.1,h1.2⟩
theorem Ym.find {es:Array MapEntry} {clock:Nat} (h:Ym ek vv es clock m) (T:GQ P k ek) (w:World) (x:K) :
  ((Instr.findKey k (ek x) es.toList).run P w = .ok none w∧x∉m.map (·.1))∨∃ j y v,(Instr.findKey k (ek x) es.toList).run P w = .ok (some (j,vv v)) w∧es.toList[j]? = some y∧y.key=ek x∧m[j]? = some (x,v):=by
 rcases T.find w x es.toList (m.map (·.1)) h.keys with h1|⟨j,y,h1,h2,h3⟩
 ·exact .inl h1
 ·obtain⟨⟨a,v⟩,h4,h5,h6⟩:=h.at h2;have:a=x:=by simpa [h4] using h3
  subst this;exact .inr ⟨j,y,v,by rw[h1,h6],h2,h5,h4⟩
theorem Wn {es:Array MapEntry} {clock:Nat} (h:w.heap[b]? = some (.map es clock)):(getObj b).run P w = .ok (.map es clock) w:=by
 simp[getObj,Sem.run,h]
theorem Wo {es:Array MapEntry} {clock:Nat} (o:Obj) (h:w.heap[b]? = some (.map es clock)):(setObj b o).run P w = .ok () (w.putObj b o):=by
 simp[setObj,Sem.run,h,World.putObj]
theorem Vn {t:TypeId} {d:TypeDesc} (h:P.underlying t=some d):(underlying t).run P w = .ok d w:=by
 unfold underlying;simp only[Sem.run_bind,run_program,Result.andThen_ok,h,Sem.run_pure]
def Ro (zv:Value) (vv:V→Value):Option V→Value
 | none=>zv
 | some v=>vv v
theorem LL (hM:Yc P t k e) (T:GQ P k ek) {zv:Value} (hz:Qy P e zv) (h:∃ es clock,w.heap[b]? = some (.map es clock)∧Ym ek vv es clock m) (x:K) (ok:Bool) :
  (Instr.lookup t (.map (some b)) (ek x) ok).run P w = .ok (if ok then .tuple #[Ro zv vv (Q8 m x),.bool (Q8 m x).isSome] else Ro zv vv (Q8 m x)) w:=by
 obtain⟨es,clock,h1,h2⟩:=h;unfold Instr.lookup;simp only[Sem.run_bind,Vn hM.und,Result.andThen_ok,Wn h1,Sem.run_pure,T.check]
 rcases h2.find T w x with ⟨h3,h4⟩|⟨j,y,v,h3,h4,h5,h6⟩
 ·simp only[h3,Result.andThen_ok,Sem.run_bind,Fh hz,Sem.run_pure,Fm h4];cases ok <;> rfl
 ·simp only[h3,Result.andThen_ok,Sem.run_pure,LC h2.nodup h6];cases ok <;> rfl
theorem Pn (hM:Yc P t k e) (T:GQ P k ek) (h:∃ es clock,w.heap[b]? = some (.map es clock)∧Ym ek vv es clock m) (x:K) (v:V) :
  ∃ w' es clock,(Instr.mapUpdate t (.map (some b)) (ek x) (vv v)).run P w = .ok () w'∧w'.heap[b]? = some (.map es clock)∧Ym ek vv es clock (Vm m x v)∧(∀ c,c≠b→w'.heap[c]? = w.heap[c]?)∧Zb w w':=by
 obtain⟨es,clock,h1,h2⟩:=h;have hlt:b < w.heap.size:=(Array.getElem?_eq_some_iff.1 h1).1;unfold Instr.mapUpdate;simp only[Sem.run_bind,Vn hM.und,Result.andThen_ok,Wn h1,Sem.run_pure,T.check]
 rcases h2.find T w x with ⟨h3,h4⟩|⟨j,y,u,h3,h4,h5,h6⟩
 ·refine⟨_,es.push { key:=ek x,val:=vv v,born:=clock },clock+1,by rw[h3];simp only[Result.andThen_ok];exact Wo _ h1,World.putObj_heap_same hlt,?_,fun c hc=>World.putObj_heap_other hc,⟨rfl,rfl⟩⟩;rw[XF h4];refine⟨by simp[h2.ents],?_,?_,?_⟩
  ·have:=D9 (x:=x) (v:=v) h2.nodup;rwa [XF h4] at this
  ·simp only[Array.toList_push,map_append,map_cons,map_nil];refine pairwise_append.2 ⟨h2.rise,by simp,fun a ha c hc=>?_⟩;obtain⟨q,hq,rfl⟩:=mem_map.1 ha;simp at hc;subst hc;exact h2.born q hq
  ·intro q hq;simp only[Array.toList_push,mem_append,mem_singleton] at hq
   rcases hq with hq|rfl
   ·exact Nat.lt_succ_of_lt (h2.born q hq)
   ·exact Nat.lt_succ_self _
 ·have hy:es[j]? = some y:=by simpa using h4
  have hk:((es[j]?).map (·.key)).getD (ek x)=ek x:=by rw[hy];simp[h5]
  have hjl:j < es.size:=(Array.getElem?_eq_some_iff.1 hy).1;refine⟨_,es.modify j fun q=>{ q with key:=ek x,val:=vv v },clock,by rw[h3];simp only[Result.andThen_ok,Sem.run_bind,hk,T.stays];exact Wo _ h1,World.putObj_heap_same hlt,?_,fun c hc=>World.putObj_heap_other hc,⟨rfl,rfl⟩⟩
  have ems:(es.modify j fun q=>{ q with key:=ek x,val:=vv v }).toList=es.toList.set j { y with key:=ek x,val:=vv v }:=by
   rw[Array.toList_modify];apply ext_getElem?;intro i;rw[getElem?_modify,getElem?_set];by_cases hij:j=i
   ·subst hij;rw[if_pos rfl,if_pos (by simpa using hjl),h4];simp
   ·rw[if_neg hij];simp[hij]
  rw[LD h2.nodup h6]
  have hb':(es.toList.set j { y with key:=ek x,val:=vv v }).map (·.born)=es.toList.map (·.born):=by
   rw[map_set];apply ext_getElem?;intro i;rw[getElem?_set];split
   ·rename_i hij;subst hij;simp only[length_map];rw[if_pos (by simpa using hjl),getElem?_map,h4];rfl
   ·rfl
  refine⟨?_,?_,?_,?_⟩
  ·rw[ems,map_set,map_set,h2.ents]
  ·have:=D9 (x:=x) (v:=v) h2.nodup;rwa [LD h2.nodup h6] at this
  ·rw[ems,hb'];exact h2.rise
  ·intro q hq;rw[ems] at hq
   rcases mem_or_eq_of_mem_set hq with hq|rfl
   ·exact h2.born q hq
   ·exact h2.born y (mem_of_getElem? h4)
theorem Po (hM:Yc P t k e) (T:GQ P k ek) (h:∃ es clock,w.heap[b]? = some (.map es clock)∧Ym ek vv es clock m) (x:K) (ty:TypeId) (u:TypeId) :
  ∃ w' es clock,(Builtin.delete_ #[t,u] ty #[.map (some b),ek x]).run P w = .ok (.tuple #[]) w'∧w'.heap[b]? = some (.map es clock)∧Ym ek vv es clock (QB m x)∧(∀ c,c≠b→w'.heap[c]? = w.heap[c]?)∧Zb w w':=by
 obtain⟨es,clock,h1,h2⟩:=h;have hlt:b < w.heap.size:=(Array.getElem?_eq_some_iff.1 h1).1;unfold Builtin.delete_;simp only[Sem.run_bind,Vn hM.und,Result.andThen_ok,Wn h1,Sem.run_pure,T.check,getElem?_toArray,getElem?_cons_zero,getElem?_cons_succ]
 rcases h2.find T w x with ⟨h3,h4⟩|⟨j,y,v,h3,h4,h5,h6⟩
 ·refine⟨_,es,clock,by rw[h3];simp only[Result.andThen_ok,Sem.run_bind,Wo _ h1,Sem.run_pure],World.putObj_heap_same hlt,by rw[B6 h4];exact h2,fun c hc=>World.putObj_heap_other hc,⟨rfl,rfl⟩⟩
 ·have hy:es[j]? = some y:=by simpa using h4
  have hjl:j < es.size:=(Array.getElem?_eq_some_iff.1 hy).1;refine⟨_,es.eraseIdxIfInBounds j,clock,by rw[h3];simp only[Result.andThen_ok,Sem.run_bind,Wo _ h1,Sem.run_pure],World.putObj_heap_same hlt,?_,fun c hc=>World.putObj_heap_other hc,⟨rfl,rfl⟩⟩
  have ems:(es.eraseIdxIfInBounds j).toList=es.toList.eraseIdx j:=by
   simp[Array.eraseIdxIfInBounds,hjl]
  have hsub:(es.toList.eraseIdx j).Sublist es.toList:=eraseIdx_sublist _ _;rw[LF h2.nodup h6];refine⟨?_,?_,?_,?_⟩
  ·rw[ems];have h7:=congrArg (fun l=>l.eraseIdx j) h2.ents;simpa [LI] using h7
  ·have:=X0 (x:=x) h2.nodup;rwa [LF h2.nodup h6] at this
  ·rw[ems];exact h2.rise.sublist (hsub.map _)
  ·intro q hq;rw[ems] at hq;exact h2.born q (hsub.subset hq)
theorem Pp (hM:Yc P t k e) (T:GQ P k ek) (x:K) (ty:TypeId) (u:TypeId):(Builtin.delete_ #[t,u] ty #[.map none,ek x]).run P w = .ok (.tuple #[]) w:=by
 unfold Builtin.delete_;simp only[Sem.run_bind,Vn hM.und,Result.andThen_ok,Sem.run_pure,T.check,getElem?_toArray,getElem?_cons_zero,getElem?_cons_succ]
theorem Ym.len {es:Array MapEntry} {clock:Nat} (h:Ym ek vv es clock m):es.size=m.length:=by
 have:=congrArg List.length h.ents;simpa using this
theorem Pq (hM:Yc P t k e) (h:∃ es clock,w.heap[b]? = some (.map es clock)∧Ym ek vv es clock m) (ty:TypeId) :
  (Builtin.len_ #[t] ty #[.map (some b)]).run P w = .ok (.int .i64 m.length) w:=by
 obtain⟨es,clock,h1,h2⟩:=h;unfold Builtin.len_;simp only[Sem.run_bind,Vn hM.und,Result.andThen_ok,Wn h1,Sem.run_pure,getElem?_toArray,getElem?_cons_zero,h2.len,goInt]
theorem Pr (hM:Yc P t k e) (ty:TypeId):(Builtin.len_ #[t] ty #[.map none]).run P w = .ok (.int .i64 0) w:=by
 unfold Builtin.len_;simp only[Sem.run_bind,Vn hM.und,Result.andThen_ok,Sem.run_pure,getElem?_toArray,getElem?_cons_zero,goInt]
end
end Go.SL
