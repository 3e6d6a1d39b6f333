/- Cells: what is proved on the way: every input of the statement; no condition. Texts joined: SlA SlB SlC. -/
import Derived.RangeFuncLeaves
import Derived.OrdersIn
import Derived.TacticsIn
import Derived.RangeFuncRecord
import Derived.Laws.Cells
namespace Go.SL
abbrev Hp:=Nat→Option Obj
abbrev Q2:=Hp→Prop
def Vv (g h:Hp):Prop:=∀ b o,g b=some o→h b=some o
def U5 (g h:Hp):Prop:=∀ b o o',g b=some o→h b=some o'→False
theorem Vv.rfl' (h:Hp):Vv h h:=fun _ _ e=>e
theorem Vv.trans {f g h:Hp} (a:Vv f g) (b:Vv g h):Vv f h:=fun x o e=>b x o (a x o e)
theorem U5.symm {g h:Hp} (d:U5 g h):U5 h g:=fun b o o' e e'=>d b o' o e' e
theorem U5.mono {f g f' g':Hp} (d:U5 f g) (a:Vv f' f) (b:Vv g' g):U5 f' g':=fun x o o' e e'=>d x o o' (a x o e) (b x o' e')
def VK:List Q2→Hp→Prop
 | [],_=>True
 | A::l,h=>∃ f g,Vv f h∧Vv g h∧U5 f g∧A f∧VK l g
def pts (b:Nat) (o:Obj):Q2:=fun h=>h b=some o
def prop (p:Prop):Q2:=fun _=>p
def star (l:List Q2):Q2:=VK l
def ex {α:Type} (A:α→Q2):Q2:=fun h=>∃ x,A x h
def old (w:World):Q2:=fun h=>∀ b,b < w.heap.size→h b=w.heap[b]?
theorem Ws:∀ {l:List Q2} {g h:Hp},Vv g h→VK l g→VK l h
 | [],_,_,_,_=>trivial
 | _::_,_,_,s,⟨f,k,a,b,d,x,y⟩=>⟨f,k,a.trans s,b.trans s,d,x,y⟩
theorem D7 {A:Q2} {l l':List Q2} {h:Hp} (i:∀ g,VK l g→VK l' g):VK (A::l) h→VK (A::l') h:=
 fun ⟨f,g,a,b,d,x,y⟩=>⟨f,g,a,b,d,x,i _ y⟩
theorem JM {A A':Q2} {l:List Q2} {h:Hp} (i:∀ g,A g→A' g):VK (A::l) h→VK (A'::l) h:=
 fun ⟨f,g,a,b,d,x,y⟩=>⟨f,g,a,b,d,i _ x,y⟩
theorem W2 {A:Q2} {l:List Q2} {h:Hp}:VK (A::l) h→VK l h:=
 fun ⟨_,_,_,b,_,_,y⟩=>Ws b y
def GA (f g:Hp):Hp:=fun c=>match f c with|some o=>some o|none=>g c
theorem JN {f g:Hp} {c:Nat} {o:Obj} (h:GA f g c=some o):f c=some o∨f c=none∧g c=some o:=by
 unfold GA at h;split at h
 ·rename_i o' e;left;rw[e];exact h
 ·rename_i e;exact .inr ⟨e,h⟩
theorem D8 {f g:Hp}:Vv f (GA f g):=fun c o e=>by unfold GA;rw[e]
theorem D9 {f g:Hp} (d:U5 f g):Vv g (GA f g):=fun c o e=>by
 unfold GA;cases hc:f c with
 | none=>exact e
 | some p=>exact(d c p o hc e).elim
theorem DQ {f g h:Hp} (a:Vv f h) (b:Vv g h):Vv (GA f g) h:=fun c o e=>by
 rcases JN e with e|⟨_,e⟩
 ·exact a c o e
 ·exact b c o e
theorem DV {f g h:Hp} (a:U5 f h) (b:U5 g h):U5 (GA f g) h:=fun c o o' e e'=>by
 rcases JN e with e|⟨_,e⟩
 ·exact a c o o' e e'
 ·exact b c o o' e e'
theorem JO {A B:Q2} {l:List Q2} {h:Hp}:VK (A::B::l) h→VK (B::A::l) h:=by
 rintro⟨f,g,a,b,d,x,f',g',a',b',d',x',y⟩;have dg:U5 f g':=d.mono (Vv.rfl' f) b';exact⟨f',GA f g',a'.trans b,DQ a (b'.trans b),(DV (d.mono (Vv.rfl' f) a') d'.symm).symm,x',f,g',D8,D9 dg,dg,x,y⟩
theorem Fg {l l':List Q2} (p:l.Perm l'):∀ {h:Hp},VK l h→VK l' h:=by
 induction p with
 | nil=>exact fun x=>x
 | cons A _ ih=>exact fun x=>D7 (fun _=>ih) x
 | swap A B l=>exact fun x=>JO x
 | trans _ _ i j=>exact fun x=>j (i x)
def pull {α:Type}:Nat→List α→List α
 | 0,l=>l
 | _+1,[]=>[]
 | i+1,a::l=>match pull i l with
  | []=>[a]
  | b::r=>b::a::r
theorem Fh {α:Type}:∀ (i:Nat) (l:List α),l.Perm (pull i l)
 | 0,l=>List.Perm.refl l
 | _+1,[]=>List.Perm.refl []
 | i+1,a::l=>by
  have h:=Fh i l;simp only[pull];cases hp:pull i l with
  | nil=>rw[hp] at h;simpa using h
  | cons b r=>rw[hp] at h;exact(h.cons a).trans (List.Perm.swap b a r)
theorem JP {l:List Q2} {f:Hp}:∀ {k:List Q2} {g h:Hp},Vv f h→Vv g h→U5 g f→VK k g→VK l f→VK (k++l) h
 | [],_,_,a,_,_,_,y=>Ws a y
 | _::k,_,_,a,b,d,⟨f1,g1,a1,b1,d1,x,z⟩,y=>
  have dg:=d.mono b1 (Vv.rfl' f)
  ⟨f1, GA g1 f, a1.trans b, DQ (b1.trans b) a, (DV d1.symm (d.mono a1 (Vv.rfl' f)).symm).symm, x,
   JP (k:=k) (D9 dg) D8 dg z y⟩
theorem JS {l:List Q2}:∀ {k:List Q2} {h:Hp},VK (k++l) h→∃ g f,Vv g h∧Vv f h∧U5 g f∧VK k g∧VK l f
 | [],h,s=>⟨fun _=>none,h,fun _ _ e=>(by cases e),Vv.rfl' h,fun _ _ _ e=>(by cases e),trivial,s⟩
 | A::k,h,⟨f1,g1,a,b,d,x,y⟩=>
  let ⟨g,f,a',b',d',x',y'⟩:=JS (k:=k) y
  have d1:=d.mono (Vv.rfl' f1) a'
  ⟨GA f1 g,f,DQ a (a'.trans b),b'.trans b,DV (d.mono (Vv.rfl' f1) b') d',⟨f1,g,D8,D9 d1,d1,x,x'⟩,y'⟩
theorem DY {k l:List Q2} {h:Hp}:VK (star k::l) h↔VK (k++l) h:=
 ⟨fun ⟨_,_,a,b,d,x,y⟩=>JP b a d x y,fun s=>let ⟨g,f,a,b,d,x,y⟩:=JS s;⟨g,f,a,b,d,x,y⟩⟩
theorem JT {α:Type} {A:α→Q2} {l:List Q2} {h:Hp}:VK (ex A::l) h↔∃ x,VK (A x::l) h:=
 ⟨fun ⟨f,g,a,b,d,⟨x,hx⟩,y⟩=>⟨x,f,g,a,b,d,hx,y⟩,fun ⟨x,f,g,a,b,d,hx,y⟩=>⟨f,g,a,b,d,⟨x,hx⟩,y⟩⟩
theorem L1 {p:Prop} {l:List Q2} {h:Hp}:VK (prop p::l) h↔p∧VK l h:=
 ⟨fun ⟨_,_,_,b,_,x,y⟩=>⟨x,Ws b y⟩,fun ⟨x,y⟩=>⟨fun _=>none,h,fun _ _ e=>(by cases e),Vv.rfl' h,fun _ _ _ e=>(by cases e),x,y⟩⟩
def hp (w:World):Hp:=fun b=>w.heap[b]?
class Q4 where
 os:Os
 output:Array (Nat×ByteArray)
def Ok [X:Q4] (w:World):Prop:=w.os=X.os∧w.output=X.output
def Zc (w w':World):Prop:=w'.os=w.os∧w'.output=w.output
theorem Zc.refl (w:World):Zc w w:=⟨rfl,rfl⟩
theorem Ok.same [Q4] {w w':World} (h:Ok w) (s:Zc w w'):Ok w':=⟨s.1.trans h.1,s.2.trans h.2⟩
def Q0 [Q4] (w:World) (l:List Q2):Prop:=VK l (hp w)∧Ok w
theorem Q0.pull [Q4] {w:World} {l:List Q2} (i:Nat) (h:Q0 w l):Q0 w (SL.pull i l):=⟨Fg (Fh i l) h.1,h.2⟩
theorem Q0.perm [Q4] {w:World} {l l':List Q2} (h:Q0 w l) (p:l.Perm l'):Q0 w l':=⟨Fg p h.1,h.2⟩
theorem Q0.drop [Q4] {w:World} {A:Q2} {l:List Q2} (h:Q0 w (A::l)):Q0 w l:=⟨W2 h.1,h.2⟩
theorem Q0.swap [Q4] {w:World} {A B:Q2} {l:List Q2} (h:Q0 w (A::B::l)):Q0 w (B::A::l):=⟨JO h.1,h.2⟩
theorem Q0.head [Q4] {w:World} {A A':Q2} {l:List Q2} (h:Q0 w (A::l)) (i:∀ g,A g→A' g):Q0 w (A'::l):=⟨JM i h.1,h.2⟩
theorem Q0.star [Q4] {w:World} {k l:List Q2}:Q0 w (SL.star k::l)↔Q0 w (k++l):=⟨fun h=>⟨DY.1 h.1,h.2⟩,fun h=>⟨DY.2 h.1,h.2⟩⟩
theorem Q0.ex [Q4] {w:World} {α:Type} {A:α→Q2} {l:List Q2}:Q0 w (SL.ex A::l)↔∃ x,Q0 w (A x::l):=⟨fun h=>let ⟨x,y⟩:=JT.1 h.1;⟨x,y,h.2⟩,fun ⟨x,y⟩=>⟨JT.2 ⟨x,y.1⟩,y.2⟩⟩
theorem Q0.prop [Q4] {w:World} {p:Prop} {l:List Q2}:Q0 w (SL.prop p::l)↔p∧Q0 w l:=⟨fun h=>let ⟨x,y⟩:=L1.1 h.1;⟨x,y,h.2⟩,fun ⟨x,y⟩=>⟨L1.2 ⟨x,y.1⟩,y.2⟩⟩
theorem Q0.nil [Q4] (w:World) (ok:Ok w):Q0 w []:=⟨trivial,ok⟩
theorem Q0.up [Q4] {w w':World} {l:List Q2} (h:Q0 w l) (s:∀ (b:Nat) (o:Obj),w.heap[b]? = some o→w'.heap[b]? = some o) (e:Zc w w'):Q0 w' l:=⟨Ws s h.1,h.2.same e⟩
theorem Q0.heap [Q4] {w w':World} {l:List Q2} (h:Q0 w l) (s:w'.heap=w.heap) (e:Zc w w':=by exact⟨rfl,rfl⟩):Q0 w' l:=by
 refine⟨?_,h.2.same e⟩;have h1:=h.1;unfold hp at *;rw[s];exact h1
theorem Q0.pts [Q4] {w:World} {b:Nat} {o:Obj} {l:List Q2} (h:Q0 w (SL.pts b o::l)):w.heap[b]? = some o:=by
 obtain⟨f,_,a,_,_,x,_⟩:=h.1;exact a b o x
theorem Q0.old [Q4] {w w₀:World} {b:Nat} {l:List Q2} (h:Q0 w (SL.old w₀::l)) (hb:b < w₀.heap.size):w.heap[b]? = w₀.heap[b]?:=by
 obtain⟨f,_,a,_,_,x,_⟩:=h.1;have e:=x b hb;cases ho:w₀.heap[b]? with
 | none=>have:=Array.getElem?_eq_none_iff.1 ho;omega
 | some o=>rw[ho] at e;exact a b o e
theorem Q0.start [Q4] (w:World) (ok:Ok w):Q0 w [SL.old w]:=
 ⟨⟨hp w,fun _=>none,Vv.rfl' _,fun _ _ e=>(by cases e),fun _ _ _ _ e=>(by cases e),fun _ _=>rfl,trivial⟩,ok⟩
theorem Fi {b:Nat} {o o':Obj} {l:List Q2} {h h':Hp} (s:VK (pts b o::l) h) (hb:h' b=some o') (ho:∀ c,c≠b→h' c=h c):VK (pts b o'::l) h':=by
 obtain⟨f,g,a,e,d,x,y⟩:=s;refine⟨fun c=>if c=b then some o' else none,g,?_,?_,?_,by simp[SL.pts],y⟩
 ·intro c p hc;by_cases hcb:c=b
  ·subst hcb;simp at hc;subst hc;exact hb
  ·simp[hcb] at hc
 ·intro c p hc;have hcb:c≠b:=fun h0=>by subst h0;exact d c o p x hc
  rw[ho c hcb];exact e c p hc
 ·intro c p p' hc hc';by_cases hcb:c=b
  ·subst hcb;exact d c o p' x hc'
  ·simp[hcb] at hc
theorem Pm {b:Nat} {o:Obj} {l:List Q2} {h h':Hp} (s:VK l h) (hn:h b=none) (hb:h' b=some o) (ho:∀ c,c≠b→h' c=h c):VK (pts b o::l) h':=by
 refine⟨fun c=>if c=b then some o else none,h,?_,?_,?_,by simp[SL.pts],s⟩
 ·intro c p hc;by_cases hcb:c=b
  ·subst hcb;simp at hc;subst hc;exact hb
  ·simp[hcb] at hc
 ·intro c p hc;have hcb:c≠b:=fun h0=>by subst h0;rw[hn] at hc;cases hc
  rw[ho c hcb];exact hc
 ·intro c p p' hc hc';by_cases hcb:c=b
  ·subst hcb;rw[hn] at hc';cases hc'
  ·simp[hcb] at hc
theorem Q0.set [Q4] {w w':World} {b:Nat} {o o':Obj} {l:List Q2} (h:Q0 w (SL.pts b o::l)) (hb:w'.heap[b]? = some o') (ho:∀ c,c≠b→w'.heap[c]? = w.heap[c]?) (e:Zc w w':=by exact⟨rfl,rfl⟩):Q0 w' (SL.pts b o'::l):=
 ⟨Fi h.1 hb ho,h.2.same e⟩
theorem Q0.new [Q4] {w:World} {l:List Q2} (h:Q0 w l) (o:Obj):Q0 { w with heap:=w.heap.push o } (SL.pts w.heap.size o::l):=
 ⟨Pm h.1 (by simp [hp]) (by simp [hp]) (by
  intro c hc;simp only[hp];rw[Array.getElem?_push,if_neg hc]),h.2⟩
theorem Q0.ne [Q4] {w:World} {b c:Nat} {o p:Obj} {l:List Q2} (h:Q0 w (SL.pts b o::SL.pts c p::l)):b≠c:=by
 rintro rfl;obtain⟨f,g,_,_,d,x,f',g',a',_,_,x',_⟩:=h.1;exact d b o p x (a' b p x')
theorem Q0.fresh [Q4] {w:World} {b:Nat} {o:Obj} {l:List Q2} (h:Q0 w (SL.pts b o::l)):b < w.heap.size:=
 (Array.getElem?_eq_some_iff.1 h.pts).1
end Go.SL
set_option linter.unusedVariables false
set_option linter.unusedSimpArgs false
namespace Go.SL
open List
abbrev QU:=Nat→Value
def Xe (σ:QU) (i:Nat) (v:Value):QU:=fun j=>bif Nat.beq j i then v else σ j
@[reducible] def put (σ:QU):Option Tmp→Value→QU
 | none,_=>σ
 | some d,v=>Xe σ d v
def ev (σ:QU):Operand→Value
 | .tmp t=>σ t
 | .const v=>v
 | .global g => .pointer (some ⟨g,0,none⟩)
 | .func f => .func (.func f) #[] #[]
theorem Q1 {σ:QU} {i:Nat} {v:Value} (h:σ i=v):σ=Xe σ i v:=by
 funext j
 unfold Xe;cases e:Nat.beq j i with
 | false=>rfl
 | true=>rw[Nat.eq_of_beq_eq_true e];exact h
def Pn (D:Nat):Deferred:={ target := .collected D,args:=#[] }
def Fj (ms:List Nat):List Deferred:=ms.map Pn
structure Rel (n:Nat) (ms:List Nat) (σ:QU) (a:Act):Prop where
 size:a.tmps.size=n
 defs:a.defers=Fj ms
 val:∀ i,a.tmps.getD i undef=σ i
theorem Rel.eval {n:Nat} {ms:List Nat} {σ:QU} {a:Act} (r:Rel n ms σ a):a.eval=ev σ:=by
 funext x
 cases x with
 | tmp t=>exact r.val t
 | const v=>rfl
 | global g=>rfl
 | func f=>rfl
def Qh (n:Nat):Option Tmp→Bool
 | none=>true
 | some d=>Nat.blt d n
theorem Rel.put {n:Nat} {ms:List Nat} {σ:QU} {a:Act} (r:Rel n ms σ a) {d:Option Tmp} (v:Value) (hd:Qh n d=true):Rel n ms (put σ d v) (a.put d v):=by
 cases d with
 | none=>exact r
 | some d=>
  have hd':d < n:=by simpa [Qh,Nat.blt_eq] using hd
  refine⟨by simp[Act.put,r.size],by simp[Act.put,r.defs],fun i=>?_⟩;simp only[Act.put,SL.put,Xe];have hs:=r.size;by_cases e:i=d
  ·subst e;simp[hs,hd']
  ·have e':Nat.beq i d=false:=by
    cases hb:Nat.beq i d with
    | false=>rfl
    | true=>exact absurd (Nat.eq_of_beq_eq_true hb) e
   rw[e'];show (a.tmps.setIfInBounds d v).getD i undef=σ i;rw[← r.val i];simp only[Array.getD_eq_getD_getElem?];rw[Array.getElem?_setIfInBounds_ne (by omega)]
def F (r:Option Nat):Fence:={ fn:=fun _=>True,depth:=none,alive:=false,round:=r }
theorem L3 (l:Nat):F (some l)=Fence.wide.inRound l:=rfl
abbrev YQ:=Exit→List Nat→QU→World→Prop
def BV (n:Nat) (Q:YQ):Exit→Act→World→Prop
 | .outgrown,_,_=>False
 | e,a,w=>∃ ms σ,Rel n ms σ a∧Q e ms σ w
def C (P:Program) (n:Nat) (r:Option Nat) (c:Code) (Q:YQ) (ms:List Nat) (σ:QU) (w:World):Prop:=
 ∀ a,Rel n ms σ a→c.wpIn (F r) 0 P (BV n Q) a w
def L4 (K:List Nat→QU→World→Prop) (Q:YQ):YQ
 | .normal,ms,σ,w=>K ms σ w
 | e,ms,σ,w=>Q e ms σ w
def L5 (id:Nat) (Q:YQ):YQ
 | .exit id',ms,σ,w=>if id'=id then Q .normal ms σ w else Q (.exit id') ms σ w
 | e,ms,σ,w=>Q e ms σ w
section
variable {P:Program} {n:Nat} {r:Option Nat} {Q:YQ} {ms:List Nat} {σ:QU} {w:World}
theorem L6 {c:Code} {Q':YQ} (h:C P n r c Q ms σ w) (hq:∀ e ms σ w,Q e ms σ w→Q' e ms σ w):C P n r c Q' ms σ w:=
 fun a ra=>wpIn_mono (h a ra) fun e a w q=>by
  cases e with
  | outgrown=>exact q
  | _=>obtain⟨ms,σ,r,q⟩:=q;exact⟨ms,σ,r,hq _ _ _ _ q⟩
theorem Qk {c:Code} (I:List Nat→QU→World→Prop) (h:C P n r c (fun e ms σ w=>e = .normal∧I ms σ w) ms σ w) (k:∀ ms σ w,I ms σ w→Q .normal ms σ w):C P n r c Q ms σ w:=
 L6 h fun e ms σ w q=>by obtain⟨rfl,q⟩:=q;exact k _ _ _ q
theorem QD (h:Q .normal ms σ w):C P n r .skip Q ms σ w:=fun _ ra=>wpIn_skip ⟨ms,σ,ra,h⟩
theorem Po {l:Nat} (h:Q .normal ms σ w):C P n r (.label l) Q ms σ w:=fun _ ra=>wpIn_label ⟨ms,σ,ra,h⟩
theorem Qp {id:Nat} (h:Q (.exit id) ms σ w):C P n r (.exit id) Q ms σ w:=fun _ ra=>wpIn_exit ⟨ms,σ,ra,h⟩
theorem Q3 (h:Q .ret ms σ w):C P n r .ret Q ms σ w:=fun _ ra=>wpIn_ret ⟨ms,σ,ra,h⟩
theorem Q6 {x y:Code} (h:C P n r x (L4 (C P n r y Q) Q) ms σ w):C P n r (.seq x y) Q ms σ w:=fun a ra=>
 wpIn_seq (wpIn_mono (h a ra) fun e a w q=>by
  cases e with
  | outgrown=>exact q
  | normal=>obtain⟨ms,σ,r,q⟩:=q;exact q a r
  | exit id=>obtain⟨ms,σ,r,q⟩:=q;exact⟨ms,σ,r,q⟩
  | goto l=>obtain⟨ms,σ,r,q⟩:=q;exact⟨ms,σ,r,q⟩
  | ret=>obtain⟨ms,σ,r,q⟩:=q;exact⟨ms,σ,r,q⟩
  | panic c=>obtain⟨ms,σ,r,q⟩:=q;exact⟨ms,σ,r,q⟩)
theorem W3 {c:Operand} {x y:Code} {t:Bool} (hc:ev σ c = .bool t) (ht:t=true→C P n r x Q ms σ w) (hf:t=false→C P n r y Q ms σ w):C P n r (.cond c x y) Q ms σ w:=
 fun a ra=>wpIn_cond_split (t:=t) (by rw[ra.eval];exact hc) (fun e=>ht e a ra) (fun e=>hf e a ra)
theorem Vp {c:Operand} {x y:Code} (hc:ev σ c = .bool true) (ht:C P n r x Q ms σ w):C P n r (.cond c x y) Q ms σ w:=W3 hc (fun _=>ht) (fun e=>by cases e)
theorem VM {c:Operand} {x y:Code} (hc:ev σ c = .bool false) (hf:C P n r y Q ms σ w):C P n r (.cond c x y) Q ms σ w:=W3 hc (fun e=>by cases e) (fun _=>hf)
theorem Qj {c:Operand} {x y:Code} {p:Prop} [Decidable p] (hc:ev σ c = .bool (decide p)) (ht:p→C P n r x Q ms σ w) (hf:¬ p→C P n r y Q ms σ w):C P n r (.cond c x y) Q ms σ w:=
 W3 hc (fun e=>ht (of_decide_eq_true e)) (fun e=>hf (of_decide_eq_false e))
theorem QP {id:Nat} {c:Code} (h:C P n r c (L5 id Q) ms σ w):C P n r (.block id c) Q ms σ w:=fun a ra=>
 wpIn_block (wpIn_mono (h a ra) fun e a w q=>by
  cases e with
  | outgrown=>exact q
  | normal=>obtain⟨ms,σ,r,q⟩:=q;exact⟨ms,σ,r,q⟩
  | exit id'=>
   obtain⟨ms,σ,r,q⟩:=q;simp only[L5] at q;simp only[Exit.inBlock];split at q
   ·rename_i e;rw[if_pos e];exact⟨ms,σ,r,q⟩
   ·rename_i e;rw[if_neg e];exact⟨ms,σ,r,q⟩
  | goto l=>obtain⟨ms,σ,r,q⟩:=q;exact⟨ms,σ,r,q⟩
  | ret=>obtain⟨ms,σ,r,q⟩:=q;exact⟨ms,σ,r,q⟩
  | panic c=>obtain⟨ms,σ,r,q⟩:=q;exact⟨ms,σ,r,q⟩)
theorem Ql {c:Code} (I:List Nat→QU→World→Nat→Prop) {m:Nat} (h₀:I ms σ w m)
  (round:∀ ms σ w m,I ms σ w m→C P n r c (L4 (fun ms' σ' w'=>∃ m',I ms' σ' w' m'∧m' < m) Q) ms σ w):C P n r (.loop c) Q ms σ w:=by
 have key:∀ m,∀ ms σ w,I ms σ w m→C P n r (.loop c) Q ms σ w:=by
  intro m ms σ w hI a ra;refine wpIn_loop (I:=fun a w=>∃ k ms σ,Rel n ms σ a∧I ms σ w k) (μ:=fun a w=>Classical.epsilon (fun k=>(∃ ms σ,Rel n ms σ a∧I ms σ w k)∧∀ j,(∃ ms σ,Rel n ms σ a∧I ms σ w j)→k≤j)) ⟨m,ms,σ,ra,hI⟩ ?_;intro a w hI
  have hmin:∃ k,(∃ ms σ,Rel n ms σ a∧I ms σ w k)∧∀ j,(∃ ms σ,Rel n ms σ a∧I ms σ w j)→k≤j:=by
   obtain⟨k,h⟩:=hI
   induction k using Nat.strongRecOn with
   | _ k ih=>
    by_cases hx:∃ j,j < k∧∃ ms σ,Rel n ms σ a∧I ms σ w j
    ·obtain⟨j,hj,h'⟩:=hx;exact ih j hj h'
    ·exact⟨k,h,fun j hj=>Nat.le_of_not_lt fun hlt=>hx ⟨j,hlt,hj⟩⟩
  have hs:=Classical.epsilon_spec hmin;obtain⟨⟨ms,σ,ra,hI⟩,_⟩:=hs;refine wpIn_mono (round _ _ _ _ hI a ra) ?_;intro e a' w' q;cases e with
  | outgrown=>exact q
  | normal=>
   obtain⟨ms',σ',ra',m',hI',hlt⟩:=q;have hex:∃ k ms σ,Rel n ms σ a'∧I ms σ w' k:=⟨m',ms',σ',ra',hI'⟩;refine⟨hex,?_⟩
   have hmin':∃ k,(∃ ms σ,Rel n ms σ a'∧I ms σ w' k)∧∀ j,(∃ ms σ,Rel n ms σ a'∧I ms σ w' j)→k≤j:=by
    obtain⟨k,h⟩:=hex
    induction k using Nat.strongRecOn with
    | _ k ih=>
     by_cases hx:∃ j,j < k∧∃ ms σ,Rel n ms σ a'∧I ms σ w' j
     ·obtain⟨j,hj,h'⟩:=hx;exact ih j hj h'
     ·exact⟨k,h,fun j hj=>Nat.le_of_not_lt fun hlt=>hx ⟨j,hlt,hj⟩⟩
   exact Nat.lt_of_le_of_lt ((Classical.epsilon_spec hmin').2 m' ⟨ms',σ',ra',hI'⟩) hlt
  | exit id=>obtain⟨ms,σ,r,q⟩:=q;exact⟨ms,σ,r,q⟩
  | goto l=>obtain⟨ms,σ,r,q⟩:=q;exact⟨ms,σ,r,q⟩
  | ret=>obtain⟨ms,σ,r,q⟩:=q;exact⟨ms,σ,r,q⟩
  | panic c=>obtain⟨ms,σ,r,q⟩:=q;exact⟨ms,σ,r,q⟩
 exact key m ms σ w h₀
end
def Lp (P:Program) (n:Nat) (r:Option Nat) (ops:Array Oper) (Q:YQ) (l:List Oper) (ms:List Nat) (σ:QU) (w:World):Prop:=
 ∀ a,Rel n ms σ a→wpListIn (F r) 0 P ops (BV n Q) l a w
def ret (R:Value→World→Prop):Ending→World→Prop
 | .returned v,w=>R v w
 | _,_=>False
theorem L7 {R R':Value→World→Prop} (h:∀ v w,R v w→R' v w):∀ e w,ret R e w→ret R' e w:=fun e w q=>by
 cases e with
 | returned v=>exact h v w q
 | _=>exact q
section
variable {P:Program} {n:Nat} {r:Option Nat} {ops:Array Oper} {Q:YQ} {ms:List Nat} {σ:QU} {w:World} {rest:List Oper} {o:Oper}
theorem QZ {id:Nat} {l:List Oper} (h:Lp P n r l.toArray Q l ms σ w):C P n r (.region id l.toArray false) Q ms σ w:=fun a ra=>
 wpIn_region_lit (h a ra)
theorem QG (h:Q .normal ms σ w):Lp P n r ops Q [] ms σ w:=fun _ ra=>⟨ms,σ,ra,h⟩
def gv (ops:Array Oper) (σ:QU) (j:Nat):Option Bool:=
 match ((ops[j]?).bind (·.dst)).map σ with
 | some (.bool b)=>some b
 | _=>none
theorem Pp {a:Act} (ra:Rel n ms σ a) (j:Nat):yielded ops a.tmps j=gv ops σ j:=by
 unfold gv yielded;cases hd:(ops[j]?).bind (·.dst) with
 | none=>rfl
 | some d=>
  have e2:=ra.val d;rw[Array.getD_eq_getD_getElem?] at e2;simp only[Option.bind_some,Option.map_some];rw[← e2];cases ht:a.tmps[d]? with
  | none=>rfl
  | some v=>cases v <;> rfl
def Q7 (ops:Array Oper) (σ:QU) (o:Oper) (t:Bool):Prop:=
 match o.guard with
 | none=>t=true
 | some (j,want)=>∃ b,gv ops σ j=b∧(b == some want)=t
theorem Q7.wanted {a:Act} {t:Bool} (h:Q7 ops σ o t) (ra:Rel n ms σ a):Region.wanted o (yielded ops a.tmps)=t:=by
 unfold Q7 at h;unfold Region.wanted;split at h
 ·rename_i e;simp[e,h]
 ·rename_i j want e;obtain⟨b,hb,ht⟩:=h;rw[e];simp only;rw[Pp ra j,hb,← ht]
theorem Q7.none (h:o.guard=none):Q7 ops σ o true:=by unfold Q7;rw[h]
theorem L8 (hw:Q7 ops σ o false) (hd:Qh n o.dst=true) (h:Lp P n r ops Q rest ms (put σ o.dst undef) w):Lp P n r ops Q (o::rest) ms σ w:=fun a ra=>by
 unfold wpListIn;rw[if_neg (by rw[hw.wanted ra];simp)];exact⟨fun _ _=>trivial,h _ (ra.put undef hd)⟩
theorem Fk {f:FuncId} {args:Array Value} {R:Ending→World→Prop} (h:Calls P f args w R):CallsIn (F r) 0 P f args w R:=by
 have h':=(callsIn_wide (n:=0)).2 h;cases r with
 | none=>exact h'
 | some l=>exact h'
def Yields (P:Program) (yl:Nat) (args:Array Value) (w:World) (R:Value→World→Prop):Prop:=
 ∃ fn tmps assign body,(Instr.yield yl args).run P w = .ok (.round yl fn tmps assign body) w∧RoundIn Fence.wide 0 P yl fn tmps assign body w (ret R)
theorem Yields.mono {yl:Nat} {args:Array Value} {R R':Value→World→Prop} (h:Yields P yl args w R) (hr:∀ v w,R v w→R' v w):Yields P yl args w R':=
 let ⟨fn,tmps,assign,body,h1,h2⟩:=h
 ⟨fn,tmps,assign,body,h1,RoundIn.mono h2 (L7 hr)⟩
end
def mk (ms:List Nat):Q2:=star (ms.map fun D=>pts D (.deferred (some [])))
theorem Q0.take [Q4] {P:Program} {fn:Func} {tmps:Array Value} {R:Ending→World→Prop}:∀ {ms:List Nat} {w:World} {l:List Q2},Q0 w (mk ms::l) →
  (∀ w',Q0 w' l→LeavesInM Fence.wide 0 P fn tmps R [] .returning w')→LeavesInM Fence.wide 0 P fn tmps R (Fj ms) .returning w
 | [],_,_,H,k=>k _ (by simpa using Q0.star.1 H)
 | D::ms,w,l,H,k=>by
  have H1:Q0 w (SL.pts D (.deferred (some []))::(ms.map (fun D=>SL.pts D (.deferred (some [])))++l)):=Q0.star.1 H;have hD:=H1.pts
  have H2:Q0 (w.putObj D (.deferred none)) (SL.pts D (.deferred none)::(ms.map (fun D=>SL.pts D (.deferred (some [])))++l)):=
   H1.set (World.putObj_heap_same H1.fresh) (fun c hc=>World.putObj_heap_other hc)
  refine⟨by simp,.inl ⟨D,_,rfl,run_takeDeferred hD,?_⟩⟩;exact Q0.take (ms:=ms) (Q0.star.2 H2.drop) k
def XY (σ:QU):List ResultVar→Option (List Value)
 | []=>some []
 | .tmp t::l=>(XY σ l).map (σ t::·)
 | .cell _ _::_=>none
def KG:List Value→Value
 | [v]=>v
 | l => .tuple l.toArray
def Kw [Q4] (P:Program) (n:Nat) (fn:Func) (R:Value→World→Prop):YQ:=fun e ms σ w=>
 (e = .normal ∨ e = .ret) ∧ ((∃ l, Q0 w (mk ms :: l) ∧ ∀ w', Q0 w' l → ∀ a, Rel n ms σ a → ∃ v, (results fn a.tmps).run P w' = .ok v w' ∧ R v w') ∨
  (ms=[]∧∀ a,Rel n ms σ a→∃ v,(results fn a.tmps).run P w = .ok v w∧R v w))
theorem L9 {P:Program} {σ:QU} {g:ResultVar→Sem Value} (hg:∀ t,g (.tmp t)=pure (σ t)):∀ (l:List ResultVar) (vs:List Value),XY σ l=some vs→∀ w,(l.mapM g).run P w = .ok vs w
 | [],_,h,w=>by cases h;rfl
 | .cell _ _::_,_,h,_=>by simp[XY] at h
 | .tmp t::l,vs,h,w=>by
  simp only[XY,Option.map_eq_some_iff] at h;obtain⟨us,h1,rfl⟩:=h;rw[mapM_cons,hg];have ih:=L9 (P:=P) hg l us h1 w;simp only[Sem.run_bind,ih,Result.andThen,Sem.run_pure]
theorem LQ {P:Program} {n:Nat} {ms:List Nat} {fn:Func} {σ:QU} {a:Act} {vs:List Value} (w:World) (ra:Rel n ms σ a) (h:XY σ fn.results.toList=some vs):(results fn a.tmps).run P w = .ok (KG vs) w:=by
 unfold results;rw[← Array.toArray_toList (xs:=fn.results),mapM_toArray];simp only[Sem.run_bind,Sem.run_map];rw[L9 (P:=P) (σ:=σ) (fun t=>by simp only[ra.val]) fn.results.toList vs h w];simp only[Result.andThen];cases vs with
 | nil=>rfl
 | cons v vs=>cases vs <;> rfl
theorem Kx [Q4] {P:Program} {n:Nat} {fn:Func} {R:Value→World→Prop} {e:Exit} {ms:List Nat} {σ:QU} {w:World} {vs:List Value} (l:List Q2) (he:e = .normal∨e = .ret) (H:Q0 w (mk ms::l))
  (hv:XY σ fn.results.toList=some vs) (hR:∀ w',Q0 w' l→R (KG vs) w'):Kw P n fn R e ms σ w:=
 ⟨he,.inl ⟨l,H,fun w' H' a ra=>⟨_,LQ w' ra hv,hR w' H'⟩⟩⟩
theorem KU [Q4] {P:Program} {n:Nat} {fn:Func} {R:Value→World→Prop} {e:Exit} {σ:QU} {w:World} {vs:List Value} (he:e = .normal∨e = .ret)
  (hv:XY σ fn.results.toList=some vs) (hR:R (KG vs) w):Kw P n fn R e [] σ w:=
 ⟨he,.inr ⟨rfl,fun a ra=>⟨_,LQ w ra hv,hR⟩⟩⟩
theorem mk_nil [Q4] {w:World} {l:List Q2} (H:Q0 w l):Q0 w (mk []::l):=Q0.star.2 H
theorem Y6 [Q4] {P:Program} {n:Nat} {fn:Func} {R:Value→World→Prop} {e:Exit} {σ:QU} {w:World} {vs:List Value} (l:List Q2) (he:e = .normal∨e = .ret) (H:Q0 w l)
  (hv:XY σ fn.results.toList=some vs) (hR:∀ w',Q0 w' l→R (KG vs) w'):Kw P n fn R e [] σ w:=
 Kx l he (mk_nil H) hv hR
def Fm (args:List Value):QU:=fun j=>args.getD j undef
theorem QQ [Q4] {P:Program} {f:FuncId} {fn:Func} {c:Code} {args:List Value} {w:World} {R:Value→World→Prop} (hf:P.funcs[f]? = some fn) (hb:fn.body=some c) (ha:Nat.ble args.length fn.ntmps=true)
  (h:C P fn.ntmps none c (Kw P fn.ntmps fn R) [] (Fm args) w):Calls P f args.toArray w (ret R):=by
 refine(callsIn_wide (n:=0)).1 (callsIn_of_wp_marks hf hb trivial ?_);have hle:args.length≤fn.ntmps:=Nat.le_of_ble_eq_true ha
 have ra:Rel fn.ntmps [] (Fm args) { tmps:=args.toArray++Array.replicate (fn.ntmps - args.toArray.size) undef,defers:=[] }:=by
  refine⟨by simp;omega,rfl,fun i=>?_⟩;simp only[Fm,Array.getD_eq_getD_getElem?,getD_eq_getElem?_getD];rw[Array.getElem?_append];split
  ·simp
  ·rename_i hi;have:args[i]? = none:=by simpa using hi
   rw[this];simp only[Array.getElem?_replicate];split <;> rfl
 refine wpIn_mono (h _ ra) ?_;intro e a w q;cases e with
 | outgrown=>exact q.elim
 | normal=>
  obtain⟨ms,σ,ra,_,q⟩:=q;show LeavesInM Fence.wide 0 P fn a.tmps (ret R) a.defers .returning w;rw[ra.defs]
  rcases q with ⟨l,H,k⟩|⟨rfl,k⟩
  ·exact Q0.take H fun w' H'=>let ⟨v,h1,h2⟩:=k w' H' a ra;⟨v,h1,h2⟩
  ·exact let ⟨v,h1,h2⟩:=k a ra;⟨v,h1,h2⟩
 | ret=>
  obtain⟨ms,σ,ra,_,q⟩:=q;show LeavesInM Fence.wide 0 P fn a.tmps (ret R) a.defers .returning w;rw[ra.defs]
  rcases q with ⟨l,H,k⟩|⟨rfl,k⟩
  ·exact Q0.take H fun w' H'=>let ⟨v,h1,h2⟩:=k w' H' a ra;⟨v,h1,h2⟩
  ·exact let ⟨v,h1,h2⟩:=k a ra;⟨v,h1,h2⟩
 | exit id=>obtain⟨ms,σ,ra,he,_⟩:=q;rcases he with he|he <;> cases he
 | goto l=>obtain⟨ms,σ,ra,he,_⟩:=q;rcases he with he|he <;> cases he
 | panic c=>obtain⟨ms,σ,ra,he,_⟩:=q;rcases he with he|he <;> cases he
theorem call {P:Program} {f:FuncId} {args:Array Value} {w:World} {R R':Value→World→Prop} (h:Calls P f args w (ret R)) (hr:∀ v w,R v w→R' v w):Calls P f args w (ret R'):=
 h.mono (L7 hr)
end Go.SL
namespace Go.SL
open List
class T1 (P:Program) (t:TypeId):Prop where
 und:∃ d,P.underlying t=some d∧(∀ fs,d ≠ .struct fs)∧(∀ k e,d ≠ .array k e)
 size:(P.info? t).map (·.size)=some 1
class TN (P:Program) (t:TypeId) (n:outParam Nat):Prop where
 und:(∃ fs,P.underlying t=some (.struct fs))∨(∃ k e,P.underlying t=some (.array k e))
 size:(P.info? t).map (·.size)=some n
class QO (P:Program) (s:TypeId) (f:Nat) (off:outParam Nat):Prop where
 field:∃ fs fd,P.underlying s=some (.struct fs)∧fs[f]? = some fd∧fd.offset=off∧∃ k,(P.info? fd.type).map (·.size)=some k∧k≠0
class VW (P:Program) (t:TypeId) (e:outParam TypeId) (size bytes:outParam Nat):Prop where
 und:P.underlying t=some (.slice e)
 info:(P.info? e).map (fun i=>(i.size,i.bytes))=some (size,bytes)
class V1 (P:Program) (t:TypeId) (v:outParam Value):Prop where
 zero:(P.info? t).map (·.zero)=some (some v)
class U6 (P:Program) (t:TypeId):Prop where
 und:∃ e,P.underlying t=some (.pointer e)
class QV (P:Program) (f:FuncId):Prop where
 body:∃ fn,P.funcs[f]? = some fn∧fn.body.isNone=false∧(fn.name == "runtime.NumGoroutine")=false
@[reducible] def row (E:TypeId) (c:List Value):Obj := .cells c.toArray E (0,0)
inductive Q9 (c:List Value):Nat→Nat→List Value→Prop
 | nil (o:Nat):Q9 c o 0 []
 | cons {o n:Nat} {v:Value} {l:List Value} (h:c[o]? = some v) (t:Q9 c (o+1) n l):Q9 c o (n+1) (v::l)
theorem Q9.len {c:List Value} {o n:Nat} {l:List Value} (h:Q9 c o n l):l.length=n:=by
 induction h with
 | nil o=>rfl
 | cons _ _ ih=>simp[ih]
theorem Q9.get {c:List Value} {o n:Nat} {l:List Value} (h:Q9 c o n l):∀ (j:Nat) (v:Value),l[j]? = some v→c[o+j]? = some v:=by
 induction h with
 | nil o=>intro j v e;simp at e
 | @cons o n u l h t ih=>
  intro j v e;cases j with
  | zero=>simp at e;subst e;exact h
  | succ j=>
   have:=ih j v (by simpa using e);rw[show o+(j+1)=o+1+j by omega];exact this
def wr (c:List Value) (o:Nat):List Value→List Value
 | []=>c
 | v::l=>wr (c.set o v) (o+1) l
section
variable {P:Program} {w:World}
theorem Zl {b o E:Nat} {fz:Nat×Nat} {c:List Value} {v:Value} (h:w.heap[b]? = some (.cells c.toArray E fz)) (hv:c[o]? = some v):w.cell? ⟨b,o,none⟩=some v:=by
 simp[World.cell?,h,hv]
theorem ZX (b o i:Nat):(Addr.mk b o none).add i=⟨b,o+i,none⟩:=by
 unfold Addr.add;split
 ·rename_i e;subst e;rfl
 ·rfl
theorem W4 {b o E:Nat} {c:List Value} (h:w.heap[b]? = some (row E c)):w.frozen? ⟨b,o,none⟩=false:=by
 simp[World.frozen?,h]
theorem LV {t:TypeId} (h:T1 P t):(isAgg t).run P w = .ok false w:=by
 obtain⟨d,hd,h1,h2⟩:=h.und;unfold isAgg underlying;simp only[Sem.run_bind,run_program,Result.andThen_ok,hd,Sem.run_pure]
theorem Fo {t:TypeId} {n:Nat} (h:TN P t n):(isAgg t).run P w = .ok true w:=by
 unfold isAgg underlying
 rcases h.und with ⟨fs,hd⟩|⟨k,e,hd⟩ <;> simp only[Sem.run_bind,run_program,Result.andThen_ok,hd,Sem.run_pure]
theorem Zz {t:TypeId} {n:Nat} (h:(P.info? t).map (·.size)=some n):(sizeOf t).run P w = .ok n w:=by
 obtain⟨i,hi,rfl⟩:=Option.map_eq_some_iff.1 h;unfold sizeOf typeInfo;simp only[Sem.run_bind,run_program,Result.andThen_ok,hi,Sem.run_pure]
theorem LY {t:TypeId} (h:T1 P t) {b o E:Nat} {fz:Nat×Nat} {c:List Value} {v:Value} (hb:w.heap[b]? = some (.cells c.toArray E fz)) (hv:c[o]? = some v):(loadVar t ⟨b,o,none⟩).run P w = .ok v w:=by
 unfold loadVar;simp only[Sem.run_bind,LV h,Result.andThen_ok];simp only[Bool.false_eq_true,if_false];unfold load;simp only[Sem.run,Zl hb hv]
theorem Fp {t:TypeId} {n:Nat} (h:TN P t n) {b o E:Nat} {fz:Nat×Nat} {c vs:List Value} (hb:w.heap[b]? = some (.cells c.toArray E fz)) (hv:Q9 c o n vs):(loadVar t ⟨b,o,none⟩).run P w = .ok (.agg vs.toArray) w:=by
 unfold loadVar;simp only[Sem.run_bind,Fo h,Result.andThen_ok,if_true,Zz h.size];have hl:=run_loadCells_list (P:=P) (w:=w) ⟨b,o,none⟩ vs (fun j v hj=>by rw[ZX];exact Zl hb (hv.get j v hj));rw[hv.len] at hl;rw[hl];rfl
theorem Pq {b o E:Nat} {c:List Value} {v:Value} (h:w.heap[b]? = some (row E c)):(w.setCell ⟨b,o,none⟩ v).heap[b]? = some (row E (c.set o v)):=by
 have hlt:=(Array.getElem?_eq_some_iff.1 h).1;have he:w.heap[b]=row E c:=by simpa [Array.getElem?_eq_getElem hlt] using h
 simp only[World.setCell];rw[Array.getElem?_eq_getElem (by simpa using hlt),Array.getElem_modify_self,he];simp
theorem Pr {a:Addr} {v:Value} {k:Nat} (hk:k≠a.block):(w.setCell a v).heap[k]? = w.heap[k]?:=by
 simp only[World.setCell];rw[Array.getElem?_modify];rw[if_neg (fun e=>hk e.symm)]
theorem BY:∀ (vs:List Value) (w:World) (b o E:Nat) (c:List Value) (i:Nat),w.heap[b]? = some (row E c)→o+i+vs.length≤c.length→(∀ v∈vs,v.oneCell'=true) →
  ∃ w',(storeCells ⟨b,o,none⟩ vs i).run P w = .ok () w'∧w'.heap[b]? = some (row E (wr c (o+i) vs))∧(∀ k,k≠b→w'.heap[k]? = w.heap[k]?)∧Zc w w'
 | [],w,b,o,E,c,i,h,_,_=>⟨w,by rw[storeCells.eq_def];rfl,h,fun _ _=>rfl,Zc.refl w⟩
 | v::vs,w,b,o,E,c,i,h,hl,h1=>by
  rw[storeCells.eq_def];simp only[length_cons] at hl;have hv:=h1 v (by simp);have hc:w.cell? ⟨b,o+i,none⟩=some c[o+i]:=Zl h (by simp);obtain⟨w',r,h2,h3,h4⟩:=BY vs (w.setCell ⟨b,o+i,none⟩ v) b o E (c.set (o+i) v) (i+1) (Pq h) (by simp;omega) (fun u hu=>h1 u (by simp[hu]));refine⟨w',?_,?_,fun k hk=>(h3 k hk).trans (Pr hk),h4⟩
  ·simp only[Sem.run_bind,ZX]
   have hs:(store ⟨b,o+i,none⟩ v).run P w = .ok () (w.setCell ⟨b,o+i,none⟩ v):=by
    rw[run_store P w _ v .plain hv];simp only[hc,W4 h];rfl
   rw[hs];exact r
  ·rw[h2];rw[show o+(i+1)=o+i+1 by omega];rfl
end
class At (b:Nat) (o:outParam Obj) (l:List Q2):Prop where
 get:∀ h,VK l h→h b=some o
class XZ (b:Nat) (o:outParam Obj) (l:List Q2) (o':Obj) (l':outParam (List Q2)):Prop where
 get:∀ h,VK l h→h b=some o
 set:∀ h h',VK l h→h' b=some o'→(∀ c,c≠b→h' c=h c)→VK l' h'
instance (priority:=high) At.here {b:Nat} {o:Obj} {l:List Q2}:At b o (pts b o::l):=⟨fun _ ⟨_,_,a,_,_,x,_⟩=>a b o x⟩
instance At.there {b:Nat} {o:Obj} {A:Q2} {l:List Q2} [i:At b o l]:At b o (A::l):=⟨fun _ s=>i.get _ (W2 s)⟩
instance (priority:=high) XZ.here {b:Nat} {o o':Obj} {l:List Q2}:XZ b o (pts b o::l) o' (pts b o'::l):=
 ⟨fun _ ⟨_,_,a,_,_,x,_⟩=>a b o x,fun _ _ s e1 e2=>Fi s e1 e2⟩
theorem Ps {A:Q2} {l l':List Q2} {b:Nat} {o o':Obj} {h h':Hp} (i:XZ b o l o' l') (s:VK (A::l) h) (e1:h' b=some o') (e2:∀ c,c≠b→h' c=h c):VK (A::l') h':=by
 obtain⟨f,g,a,e,d,x,y⟩:=s;have hg:=i.get g y;refine⟨f,fun c=>if c=b then some o' else g c,?_,?_,?_,x,i.set g _ y (by simp) (fun c hc=>by simp[hc])⟩
 ·intro c p hc;have hcb:c≠b:=fun h0=>by subst h0;exact d c p o hc hg
  rw[e2 c hcb];exact a c p hc
 ·intro c p hc;by_cases hcb:c=b
  ·subst hcb;simp at hc;subst hc;exact e1
  ·simp[hcb] at hc;rw[e2 c hcb];exact e c p hc
 ·intro c p p' hc hc';by_cases hcb:c=b
  ·subst hcb;exact d c p o hc hg
  ·simp[hcb] at hc';exact d c p p' hc hc'
instance XZ.there {b:Nat} {o o':Obj} {A:Q2} {l l':List Q2} [i:XZ b o l o' l']:XZ b o (A::l) o' (A::l'):=
 ⟨fun _ s=>i.get _ (W2 s),fun _ _ s e1 e2=>Ps i s e1 e2⟩
theorem Q0.at [Q4] {w:World} {l:List Q2} {b:Nat} {o:Obj} [i:At b o l] (h:Q0 w l):w.heap[b]? = some o:=i.get _ h.1
theorem Q0.put [Q4] {w w':World} {l l':List Q2} {b:Nat} {o o':Obj} [i:XZ b o l o' l'] (h:Q0 w l) (e1:w'.heap[b]? = some o') (e2:∀ c,c≠b→w'.heap[c]? = w.heap[c]?) (e:Zc w w'):Q0 w' l':=⟨i.set _ _ h.1 e1 e2,h.2.same e⟩
class DZ (w:World) (b:Nat) (o:outParam Obj):Prop where
 h:w.heap[b]? = some o
instance At.old {b:Nat} {o:Obj} {w₀:World} {l:List Q2} [i:DZ w₀ b o]:At b o (SL.old w₀::l):=⟨fun h ⟨f,_,a,_,_,x,_⟩=>by
 have hb:=(Array.getElem?_eq_some_iff.1 i.h).1;exact a b o ((x b hb).trans i.h)⟩
def St (P:Program) (n:Nat) (r:Option Nat) (o:Oper) (σ:QU) (w:World) (K:QU→World→Prop):Prop:=
 ∀ ms a (Q:Exit→Act→World→Prop),Rel n ms σ a→o.wpIn (F r) 0 P a w (fun a' w'=>∃ σ',Rel n ms σ' a'∧K σ' w') Q
section
variable {P:Program} {n:Nat} {r:Option Nat} {ops:Array Oper} {Q:YQ} {ms:List Nat} {σ:QU} {w:World} {rest:List Oper} {o:Oper} {K:QU→World→Prop}
theorem BZ (hw:Q7 ops σ o true) (h:St P n r o σ w (fun σ' w'=>Lp P n r ops Q rest ms σ' w')):Lp P n r ops Q (o::rest) ms σ w:=fun a ra=>by
 unfold wpListIn;rw[if_pos (hw.wanted ra)];exact Oper.wpIn_mono (fun a' w' ⟨σ',ra',h'⟩=>h' a' ra') (h ms a (BV n Q) ra)
theorem LZ {K':QU→World→Prop} (h:St P n r o σ w K) (hk:∀ σ w,K σ w→K' σ w):St P n r o σ w K':=fun ms a Q ra=>
 Oper.wpIn_mono (fun a' w' ⟨σ',ra',h'⟩=>⟨σ',ra',hk _ _ h'⟩) (h ms a Q ra)
theorem V6 {v:Value} {w':World} (hd:Qh n o.dst=true) (hdf:∀ c,o.op ≠ .defer c) (hrun:(execOp (ev σ) o).run P w = .ok (.value v) w') (h:K (put σ o.dst v) w'):St P n r o σ w K:=fun ms a Q ra=>by
 refine⟨fun _ _=>trivial,?_⟩;rw[Oper.semAt_eq _ _ _ hdf,ra.eval,hrun];exact⟨_,ra.put v hd,h⟩
theorem DG {w':World} (hd:Qh n o.dst=true) (hdf:∀ c,o.op ≠ .defer c) (hrun:(execOp (ev σ) o).run P w = .ok .skip w') (h:K (put σ o.dst undef) w'):St P n r o σ w K:=fun ms a Q ra=>by
 refine⟨fun _ _=>trivial,?_⟩;rw[Oper.semAt_eq _ _ _ hdf,ra.eval,hrun];exact⟨_,ra.put undef hd,h⟩
theorem Pt {f:FuncId} {args:Array Value} {w':World} (hd:Qh n o.dst=true) (hdf:∀ c,o.op ≠ .defer c) (hrun:(execOp (ev σ) o).run P w = .ok (.enter f args) w')
  (h:Calls P f args w' (ret fun v w''=>K (put σ o.dst v) w'')):St P n r o σ w K:=fun ms a Q ra=>by
 refine⟨fun _ _=>trivial,?_⟩;rw[Oper.semAt_eq _ _ _ hdf,ra.eval,hrun];refine⟨fun hs=>by simp[F] at hs,Fk (h.mono fun e w'' q=>?_)⟩;cases e with
 | returned v=>exact⟨_,ra.put v hd,q⟩
 | panicked c=>exact q.elim
 | outgrown=>exact q.elim
theorem Pu {yl:Nat} {args:Array Value} (hd:Qh n o.dst=true) (hdf:∀ c,o.op ≠ .defer c) (hrun:∀ nx,(Instr.yield yl args).run P w = .ok nx w→(execOp (ev σ) o).run P w = .ok nx w)
  (h:Yields P yl args w (fun v w''=>K (put σ o.dst v) w'')):St P n r o σ w K:=fun ms a Q ra=>by
 obtain⟨fn,tmps,assign,body,h1,h2⟩:=h;refine⟨fun _ _=>trivial,?_⟩;rw[Oper.semAt_eq _ _ _ hdf,ra.eval,hrun _ h1];refine⟨fun hs=>by simp[F] at hs,?_⟩
 have h3:RoundIn (F r) 0 P yl fn tmps assign body w (ret (fun v w''=>K (put σ o.dst v) w'')):=by
  cases r with
  | none=>exact h2
  | some l=>exact h2
 refine RoundIn.mono h3 fun e w'' q=>?_;cases e with
 | returned v=>exact⟨_,ra.put v hd,q⟩
 | panicked c=>exact q.elim
 | outgrown=>exact q.elim
def YM (op:BinOp) (k:IntKind) (a b:Int):Int:=
 let x:=BitVec.ofInt k.bits a
 let y:=BitVec.ofInt k.bits b
 k.wrap (match op with | .and=>(x &&& y).toNat | .or=>(x ||| y).toNat | .xor=>(x ^^^ y).toNat|_=>(x &&& ~~~y).toNat)
def Xf (k:IntKind) (a b:Int):Int:=k.wrap (a*2 ^ min b.toNat k.bits)
def XG (k:IntKind) (a b:Int):Int:=a.fdiv (2 ^ min b.toNat k.bits)
def bo:BinOp→Value→Value→Option Value
 | .add,.int k a,.int k' b=>if k=k' then some (.int k (k.wrap (a+b))) else none
 | .sub,.int k a,.int k' b=>if k=k' then some (.int k (k.wrap (a - b))) else none
 | .mul,.int k a,.int k' b=>if k=k' then some (.int k (k.wrap (a*b))) else none
 | .eql,.int k a,.int k' b=>if k=k' then some (.bool (a == b)) else none
 | .neq,.int k a,.int k' b=>if k=k' then some (.bool (a != b)) else none
 | .lss,.int k a,.int k' b=>if k=k' then some (.bool (decide (a < b))) else none
 | .leq,.int k a,.int k' b=>if k=k' then some (.bool (decide (a≤b))) else none
 | .gtr,.int k a,.int k' b=>if k=k' then some (.bool (decide (a > b))) else none
 | .geq,.int k a,.int k' b=>if k=k' then some (.bool (decide (a≥b))) else none
 | .quo,.int k a,.int k' b=>if k=k' then (if b=0 then none else some (.int k (k.wrap (a.tdiv b)))) else none
 | .rem,.int k a,.int k' b=>if k=k' then (if b=0 then none else some (.int k (a.tmod b))) else none
 | .and,.int k a,.int k' b=>if k=k' then some (.int k (YM .and k a b)) else none
 | .or,.int k a,.int k' b=>if k=k' then some (.int k (YM .or k a b)) else none
 | .xor,.int k a,.int k' b=>if k=k' then some (.int k (YM .xor k a b)) else none
 | .andNot,.int k a,.int k' b=>if k=k' then some (.int k (YM .andNot k a b)) else none
 | .shl,.int k a,.int _ b=>if b < 0 then none else some (.int k (Xf k a b))
 | .shr,.int k a,.int _ b=>if b < 0 then none else some (.int k (XG k a b))
 | _,_,_=>none
theorem Pv {op:BinOp} {t:TypeId} {x y v:Value} (h:bo op x y=some v) (u:TypeId) (X Y:Operand):(do eqGuard op t X Y x y;binOp op t x y:Sem Value).run P w = .ok v w:=by
  unfold bo at h
  split at h <;> first
    | (split at h
       · rename_i hk;cases hk;cases h;simp[eqGuard,binOp,Op.intArith,Op.intCmp]
       · cases h)
    | (split at h
       · rename_i hk;cases hk;split at h
         · cases h
         · rename_i hz;cases h;simp[eqGuard,binOp,Op.intDiv,hz]
       · cases h)
    | (split at h
       · rename_i hk;cases hk;cases h;simp[eqGuard,binOp,Op.intBits,YM]
       · cases h)
    | (split at h
       · cases h
       · rename_i hz;cases h;simp[eqGuard,binOp,Op.shift,hz,Xf,XG])
    | cases h
def fo:Value→Option Value
 | .int k a=>some (.int k a)
 | .bool b=>some (.bool b)
 | .string x=>some (.string x)
 | .pointer a=>some (.pointer a)
 | .map a=>some (.map a)
 | .slice a l c=>some (.slice a l c)
 | .agg c=>some (.agg c)
 | .tuple c=>some (.tuple c)
 | .func f a b=>some (.func f a b)
 | .nilFunc=>some .nilFunc
 | .nilIface=>some .nilIface
 | .iface t v=>some (.iface t v)
 | _=>none
theorem Wt {v u:Value} (h:fo v=some u):v=u:=by
 cases v <;> simp[fo] at h <;> exact h
def pv (σ:QU):Op→Option Value
 | .move x | .assign x=>fo (ev σ x)
 | .extract t i=>match ev σ t with
  | .tuple vs=>vs.toList[i]?
  | _=>none
 | .makeFunc f first captured=>some (.func f (first.toList.map (ev σ)).toArray (captured.toList.map (ev σ)).toArray)
 | .nilCheck x=>match ev σ x with
  | .pointer (some a)=>some (.pointer (some a))
  | .func (.func f) a b=>some (.func (.func f) a b)
  | .func (.yield f) a b=>some (.func (.yield f) a b)
  | _=>none
 | .unOp .not _ x=>match ev σ x with
  | .bool b=>some (.bool (!b))
  | _=>none
 | .unOp .neg _ x=>match ev σ x with
  | .int k a=>some (.int k (k.wrap (0 - a)))
  | _=>none
 | .pick c a b=>match ev σ c with
  | .bool true=>fo (ev σ a)
  | .bool false=>fo (ev σ b)
  | _=>none
 | .binOp op _ x y _=>bo op (ev σ x) (ev σ y)
 | _=>none
theorem Pw (σ:QU) (a:Array Operand):a.map (ev σ)=(a.toList.map (ev σ)).toArray:=by
 apply Array.ext';simp
theorem LG {v:Value} (h:pv σ o.op=some v):(execOp (ev σ) o).run P w = .ok (.value v) w:=by
 unfold execOp;cases ho:o.op <;> rw[ho] at h <;> simp only[pv] at h <;> try (cases h;done)
 case move x=>rw[← Wt h];rfl
 case assign x=>rw[← Wt h];rfl
 case pick c a b=>
  cases hc:ev σ c <;> rw[hc] at h <;> try simp only at h
  all_goals try cases h
  rename_i t;cases t <;> simp only at h <;> rw[← Wt h] <;> simp[asBool,hc]
 case nilCheck x=>
  cases hx:ev σ x <;> rw[hx] at h <;> try simp only at h
  all_goals try cases h
  case pointer p=>
   cases p
   ·cases h
   ·cases h;simp only[hx];rfl
  case func f a b=>cases f <;> cases h <;> simp only[hx] <;> rfl
 case binOp op t x y u=>simp only[Sem.run_bind,Pv (P:=P) (w:=w) h u x y,Result.andThen_ok];rfl
 case unOp op t x=>
  cases op <;> try simp only at h
  all_goals try cases h
  all_goals (cases hx:ev σ x <;> rw[hx] at h <;> cases h;simp[Op.unary,Op.intArith,hx])
 case makeFunc f a b=>cases h;simp[Instr.makeFunc,Pw]
 case extract t i=>
  cases hx:ev σ t <;> rw[hx] at h <;> try simp only at h
  all_goals try cases h
  rename_i vs;have h':vs[i]? = some v:=by simpa using h
  simp[Instr.extract,hx,h']
theorem LU {v:Value} (h:pv σ o.op=some v):∀ c,o.op ≠ .defer c:=fun c e=>by rw[e] at h;simp[pv] at h
theorem LX {v:Value} (h:pv σ o.op=some v) (hd:Qh n o.dst=true) (k:K (put σ o.dst v) w):St P n r o σ w K:=V6 hd (LU h) (LG h) k
theorem VR {s:TypeId} {x:Operand} {f off b i:Nat} {t:TypeId} {p:String} {af:Array Edge} {g:Option (Nat×Bool)} {d:Option Tmp} [hf:QO P s f off] (hx:ev σ x = .pointer (some ⟨b,i,none⟩)) (hd:Qh n d=true)
  (k:K (put σ d (.pointer (some ⟨b,i+off,none⟩))) w):St P n r ⟨d,.fieldAddr s x f,t,p,af,g⟩ σ w K:=by
 obtain⟨fs,fd,h1,h2,h3,i',h4,h5⟩:=hf.field;refine V6 (v := .pointer (some ⟨b,i+off,none⟩)) (w':=w) hd (fun c e=>by cases e) ?_ k;simp only[execOp,hx,Instr.fieldAt,Sem.run_bind,underlying,run_program,Result.andThen_ok,h1,Sem.run_pure,h2,Instr.sureAddr,fieldPlace];have hs:(sizeOf fd.type).run P w = .ok i' w:=Zz h4;simp only[hs,Result.andThen_ok,if_neg h5,ZX,h3,Sem.run_pure]
theorem Wu {t:TypeId} (h:T1 P t) {c:List Value} {o:Nat} {v:Value} (hv:c[o]? = some v):(part t c.toArray o).run P w = .ok v w:=by
 unfold part;simp only[Sem.run_bind,LV h,Result.andThen_ok,Bool.false_eq_true,if_false];simp[hv]
theorem Q9.extract {c:List Value} {o n:Nat} {l:List Value} (h:Q9 c o n l):c.toArray.extract o (o+n)=l.toArray:=by
 apply Array.ext';simp only[Array.toList_extract,extract_eq_take_drop];apply ext_getElem?;intro j;have hl:=h.len;by_cases hj:j < n
 ·have hlt:j < l.length:=by omega
  rw[getElem?_take_of_lt (by omega),getElem?_drop,getElem?_eq_getElem hlt];exact h.get j _ (getElem?_eq_getElem hlt)
 ·rw[getElem?_eq_none (by simp;omega),getElem?_eq_none (by omega)]
theorem LK {t:TypeId} {n:Nat} (h:TN P t n) {c vs:List Value} {o:Nat} (hv:Q9 c o n vs):(part t c.toArray o).run P w = .ok (.agg vs.toArray) w:=by
 unfold part;simp only[Sem.run_bind,Fo h,Result.andThen_ok,if_true,Zz h.size,hv.extract,Sem.run_pure]
theorem QB [Q4] {l:List Q2} {t:TypeId} {x:Operand} {b i E:Nat} {fz:Nat×Nat} {c:List Value} {v:Value} {u:TypeId} {p:String} {af:Array Edge} {g:Option (Nat×Bool)} {d:Option Tmp} (H:Q0 w l) (hx:ev σ x = .pointer (some ⟨b,i,none⟩)) [h1:T1 P t] [ha:At b (.cells c.toArray E fz) l] (hv:c[i]? = some v) (hd:Qh n d=true)
  (k:K (put σ d v) w):St P n r ⟨d,.load t x,u,p,af,g⟩ σ w K:=by
 refine V6 (v:=v) (w':=w) hd (fun c e=>by cases e) ?_ k;simp only[execOp,hx,Instr.loadAt,Instr.sureAddr,Sem.run_bind,Sem.run_pure,Result.andThen_ok,LY (P:=P) h1 H.at hv]
theorem VA [Q4] {l:List Q2} {t:TypeId} {x:Operand} {b i E m:Nat} {fz:Nat×Nat} {c vs:List Value} {u:TypeId} {p:String} {af:Array Edge} {g:Option (Nat×Bool)} {d:Option Tmp} (H:Q0 w l) (hx:ev σ x = .pointer (some ⟨b,i,none⟩)) [h1:TN P t m] [ha:At b (.cells c.toArray E fz) l] (hv:Q9 c i m vs) (hd:Qh n d=true)
  (k:K (put σ d (.agg vs.toArray)) w):St P n r ⟨d,.load t x,u,p,af,g⟩ σ w K:=by
 refine V6 (v := .agg vs.toArray) (w':=w) hd (fun c e=>by cases e) ?_ k;simp only[execOp,hx,Instr.loadAt,Instr.sureAddr,Sem.run_bind,Sem.run_pure,Result.andThen_ok,Fp (P:=P) h1 H.at hv]
theorem LW {t:TypeId} {m:Nat} {b i E:Nat} {c:List Value} {v:Value} (hs:(P.info? t).map (·.size)=some m) (hb:w.heap[b]? = some (row E c)) (hl:v.cells.toList.length=m) (hle:i+m≤c.length) (h1:∀ u∈v.cells.toList,u.oneCell'=true) :
  ∃ w',(storeVar t ⟨b,i,none⟩ v).run P w = .ok () w'∧w'.heap[b]? = some (row E (wr c i v.cells.toList))∧(∀ k,k≠b→w'.heap[k]? = w.heap[k]?)∧Zc w w':=by
 obtain⟨w',r,h2,h3,h4⟩:=BY (P:=P) v.cells.toList w b i E c 0 hb (by omega) h1;refine⟨w',?_,h2,h3,h4⟩;unfold storeVar;have hz:v.cells.size=m:=by simpa using hl
 simp only[Sem.run_bind,Zz hs,Result.andThen_ok,hz];simp[r]
theorem Yh [Q4] {l l':List Q2} {t:TypeId} {x y:Operand} {b i E:Nat} {c:List Value} {v:Value} {u:TypeId} {p:String} {af:Array Edge} {g:Option (Nat×Bool)} {d:Option Tmp} (H:Q0 w l) (hx:ev σ x = .pointer (some ⟨b,i,none⟩)) (hy':fo (ev σ y)=some v) (h1:T1 P t) (ho:v.oneCell'=true)
  [ha:XZ b (row E c) l (row E (c.set i v)) l'] (hi:i < c.length) (hd:Qh n d=true)
  (k:∀ w',Q0 w' l'→K (put σ d undef) w'):St P n r ⟨d,.store t x y,u,p,af,g⟩ σ w K:=by
 have hy:ev σ y=v:=Wt hy';have hc:v.cells.toList=[v]:=by cases v <;> first|rfl|(simp[Value.oneCell'] at ho)
 obtain⟨w',hr,h2,h3,h4⟩:=LW (P:=P) (t:=t) (m:=1) (i:=i) (v:=v) h1.size (ha.get _ H.1) (by rw[hc];rfl) (by omega) (by rw[hc];simpa using ho);rw[hc] at h2;have h2':w'.heap[b]? = some (row E (c.set i v)):=h2;refine DG (w':=w') hd (fun c e=>by cases e) ?_ (k w' ⟨ha.set _ _ H.1 h2' h3,H.2.same h4⟩);simp only[execOp,hx,hy,Instr.storeAt,Instr.sureAddr,Sem.run_bind,Sem.run_pure,Result.andThen_ok,hr]
theorem Z0 [Q4] {l l':List Q2} {t:TypeId} {x y:Operand} {b i E m:Nat} {c vs:List Value} {u:TypeId} {p:String} {af:Array Edge} {g:Option (Nat×Bool)} {d:Option Tmp} (H:Q0 w l) (hx:ev σ x = .pointer (some ⟨b,i,none⟩)) (hy:ev σ y = .agg vs.toArray) (h1:TN P t m) (hm:vs.length=m) (ho:vs.all (·.oneCell')=true)
  [ha:XZ b (row E c) l (row E (wr c i vs)) l'] (hi:i+m≤c.length) (hd:Qh n d=true)
  (k:∀ w',Q0 w' l'→K (put σ d undef) w'):St P n r ⟨d,.store t x y,u,p,af,g⟩ σ w K:=by
 have hc:(Value.agg vs.toArray).cells.toList=vs:=by simp[Value.cells]
 obtain⟨w',hr,h2,h3,h4⟩:=LW (P:=P) (t:=t) (m:=m) (i:=i) (v := .agg vs.toArray) h1.size (ha.get _ H.1) (by rw[hc];exact hm) hi (by rw[hc];exact all_eq_true.1 ho);rw[hc] at h2;refine DG (w':=w') hd (fun c e=>by cases e) ?_ (k w' (H.put h2 h3 h4));simp only[execOp,hx,hy,Instr.storeAt,Instr.sureAddr,Sem.run_bind,Sem.run_pure,Result.andThen_ok,hr]
def Qv:Value→List Value
 | .agg cs=>cs.toList
 | v=>[v]
theorem KX (v:Value):v.cells=(Qv v).toArray:=by cases v <;> simp[Value.cells,Qv]
theorem LA [Q4] {l:List Q2} {E:TypeId} {x:Operand} {v:Value} {u:TypeId} {p:String} {af:Array Edge} {g:Option (Nat×Bool)} {d:Option Tmp} (H:Q0 w l) (hx:ev σ x=v) (hd:Qh n d=true)
  (k:∀ b w',Q0 w' (pts b (row E (Qv v))::l)→K (put σ d (.pointer (some ⟨b,0,none⟩))) w'):St P n r ⟨d,.box E x,u,p,af,g⟩ σ w K:=by
 refine V6 (v := .pointer (some ⟨w.heap.size,0,none⟩)) (w':={ w with heap:=w.heap.push (row E (Qv v)) }) hd (fun c e=>by cases e) ?_ (k _ _ (H.new _));simp only[execOp,hx,Instr.box,newVar,newRow,Sem.run_bind,run_newObj,Result.andThen_ok,Sem.run_pure,KX]
theorem Fq {t:TypeId} {v:Value} (h:V1 P t v):(zeroValue t).run P w = .ok v w:=by
 obtain⟨i,hi,hz⟩:=Option.map_eq_some_iff.1 h.zero;unfold zeroValue typeInfo;simp only[Sem.run_bind,run_program,Result.andThen_ok,hi,Sem.run_pure,hz]
theorem VN [Q4] {l:List Q2} {E:TypeId} {v:Value} {u:TypeId} {p:String} {af:Array Edge} {g:Option (Nat×Bool)} {d:Option Tmp} (H:Q0 w l) [hz:V1 P E v] (hd:Qh n d=true)
  (k:∀ b w',Q0 w' (pts b (row E (Qv v))::l)→K (put σ d (.pointer (some ⟨b,0,none⟩))) w'):St P n r ⟨d,.alloc E,u,p,af,g⟩ σ w K:=by
 refine V6 (v := .pointer (some ⟨w.heap.size,0,none⟩)) (w':={ w with heap:=w.heap.push (row E (Qv v)) }) hd (fun c e=>by cases e) ?_ (k _ _ (H.new _));simp only[execOp,Instr.alloc,newVar,newRow,Sem.run_bind,run_newObj,Result.andThen_ok,Sem.run_pure,KX,Fq (P:=P) (w:=w) hz]
theorem DU {f:FuncId} (h:QV P f) (args:Array Value):(callFunc f args).run P w = .ok (.enter f args) w:=by
 obtain⟨fn,h1,h2,h3⟩:=h.body;unfold callFunc;simp only[Sem.run_bind,run_program,Result.andThen_ok,h1,h3,h2];simp
theorem Qy {f:FuncId} {x:Operand} {xs:List Operand} {ts:Array TypeId} {a b:List Value} {u:TypeId} {p:String} {af:Array Edge} {g:Option (Nat×Bool)} {d:Option Tmp} (hx:ev σ x = .func (.func f) a.toArray b.toArray) [hb:QV P f] (hd:Qh n d=true)
  (k:Calls P f ((a++xs.map (ev σ))++b).toArray w (ret fun v w'=>K (put σ d v) w')):St P n r ⟨d,.call { callee := .value x,args:=xs.toArray,argTypes:=ts },u,p,af,g⟩ σ w K:=by
 refine Pt (f:=f) (args:=((a++xs.map (ev σ))++b).toArray) (w':=w) hd (fun c e=>by cases e) ?_ k;simp only[execOp,resolve,hx,Deferred.ofValue,Sem.run_bind,Sem.run_pure,Result.andThen_ok,invoke];rw[DU hb];simp
theorem Ky {yl:Nat} {x:Operand} {xs:List Operand} {ts:Array TypeId} {u:TypeId} {p:String} {af:Array Edge} {g:Option (Nat×Bool)} {d:Option Tmp} (hx:ev σ x = .func (.yield yl) #[] #[]) (hd:Qh n d=true)
  (k:Yields P yl (xs.map (ev σ)).toArray w (fun v w'=>K (put σ d v) w')):St P n r ⟨d,.call { callee := .value x,args:=xs.toArray,argTypes:=ts },u,p,af,g⟩ σ w K:=by
 refine Pu (yl:=yl) (args:=(xs.map (ev σ)).toArray) hd (fun c e=>by cases e) ?_ k;intro nx hn;simp only[execOp,resolve,hx,Deferred.ofValue,Sem.run_bind,Sem.run_pure,Result.andThen_ok,invoke];simpa using hn
end
end Go.SL
