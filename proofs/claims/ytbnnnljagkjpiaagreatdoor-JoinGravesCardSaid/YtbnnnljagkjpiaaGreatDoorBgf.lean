/- Cells: what is proved on the way: every input of the statement; no condition. Texts joined: Dic. -/
import Derived.Test.YtbnnnljagkjpiaaGreatDoorBga
import Derived.Test.YtbnnnljagkjpiaaGreatDoorBgb
import Derived.Test.YtbnnnljagkjpiaaGreatDoorBgc
import Derived.Test.YtbnnnljagkjpiaaGreatDoorBgd
import Derived.Test.YtbnnnljagkjpiaaGreatDoorBge
set_option linter.unusedVariables false
set_option linter.unusedSimpArgs false
set_option linter.unusedSectionVars false
namespace Go.SL
open List
section
variable [Q4] {P:Program} {n:Nat} {r:Option Nat} {ops:Array Oper} {Q:YQ} {ms:List Nat} {σ:QU} {w:World} {rest:List Oper} {o:Oper} {l:List Q2} {ivs:List (List Nat×(World→Prop))} {T:QU→World→Prop} {f:Nat} {L:Array Bool} {t u:TypeId} {p:String} {af:Array Edge} {g:Option (Nat×Bool)} {d:Option Tmp} {x:Operand} {G K:Prop}
theorem Jo (j:Nat) (H:Q0 w l) (k:St P n r o σ w (Any P n r ops ivs T f (L.setIfInBounds j true))) (hi:ops[j]? = some o:=by rfl) (hr:Region.ready .any ops L=[j]:=by kernel_rfl)
  (hI:Q0 w l→Vj ivs L w:=by intro H;repeat first|exact Vj.nil|refine Vj.cons (.inr (Q0.at H)) ?_|refine Vj.cons (.inr (Q0.mp H)) ?_|refine Vj.cons (.inl (by kernel_rfl)) ?_)
  (hg:Q7 ops σ o true:=by first|exact Q7.none rfl|exact Q7.of rfl rfl rfl):Any P n r ops ivs T (f+1) L σ w:=BU j hi hr (hI H) hg k
theorem Ja {op:Op} {v:Value} (i:Nat) (k:Any P n r ops ivs T f (L.setIfInBounds i true) (put σ d v) w) (hi:ops[i]? = some ⟨d,op,u,p,af,g⟩:=by rfl) (hg:Q7 ops σ ⟨d,op,u,p,af,g⟩ true:=by first|exact Q7.none rfl|exact Q7.of rfl rfl rfl) (hv:pv σ op=some v:=by rfl) (hs:YX n ops (ivs.map (·.1)) L i []=true:=by kernel_rfl):Any P n r ops ivs T (f+1) L σ w:=Gs i hi hg hv hs k
theorem Jf {s:TypeId} {fi off b i₀:Nat} (i:Nat) (k:Any P n r ops ivs T f (L.setIfInBounds i true) (put σ d (.pointer (some ⟨b,i₀+off,none⟩))) w) (hi:ops[i]? = some ⟨d,.fieldAddr s x fi,u,p,af,g⟩:=by rfl) (hg:Q7 ops σ ⟨d,.fieldAddr s x fi,u,p,af,g⟩ true:=by first|exact Q7.none rfl|exact Q7.of rfl rfl rfl) [hf:QO P s fi off] (hx:ev σ x = .pointer (some ⟨b,i₀,none⟩):=by rfl) (hs:YX n ops (ivs.map (·.1)) L i []=true:=by kernel_rfl):Any P n r ops ivs T (f+1) L σ w:=SR i hi hg hx hs k
theorem Jl {b i₀ E:Nat} {fz:Nat×Nat} {c:List Value} {v:Value} (i:Nat) (D:List Nat) (H:Q0 w l) (k:Any P n r ops ((D,fun w=>w.heap[b]? = some (.cells c.toArray E fz))::ivs) T f (L.setIfInBounds i true) (put σ d v) w) (hi:ops[i]? = some ⟨d,.load t x,u,p,af,g⟩:=by rfl) (hg:Q7 ops σ ⟨d,.load t x,u,p,af,g⟩ true:=by first|exact Q7.none rfl|exact Q7.of rfl rfl rfl) (hx:ev σ x = .pointer (some ⟨b,i₀,none⟩):=by rfl) (h1:T1 P t:=by infer_instance) (ha:At b (.cells c.toArray E fz) l:=by infer_instance) (hv:c[i₀]? = some v:=by rfl) (hs:YX n ops (ivs.map (·.1)) L i D=true:=by kernel_rfl):Any P n r ops ivs T (f+1) L σ w:=Vn i D H hi hg hx hv hs k
theorem Jn {op:Op} (i:Nat) (k:Any P n r ops ivs T f (L.setIfInBounds i true) (put σ d undef) w) (hi:ops[i]? = some ⟨d,op,u,p,af,g⟩:=by rfl) (hg:Q7 ops σ ⟨d,op,u,p,af,g⟩ false:=by first|exact Q7.of rfl rfl rfl|exact Q7.skip rfl rfl) (hf:∀ c,op ≠ .defer c:=by intro c e;cases e) (hs:YX n ops (ivs.map (·.1)) L i []=true:=by kernel_rfl):Any P n r ops ivs T (f+1) L σ w:=S5 i hi hg hf hs k
theorem Ji {e size bytes b o len cap:Nat} {q:IntKind} {i:Int} {ix:Operand} (j:Nat) (k:Any P n r ops ivs T f (L.setIfInBounds j true) (put σ d (.pointer (some ⟨b,o+i.toNat*size,none⟩))) w) (hj:ops[j]? = some ⟨d,.indexAddr t x ix,u,p,af,g⟩:=by rfl) (hg:Q7 ops σ ⟨d,.indexAddr t x ix,u,p,af,g⟩ true:=by first|exact Q7.none rfl|exact Q7.of rfl rfl rfl) [hT:VW P t e size bytes] (hx:ev σ x = .slice (some ⟨b,o,none⟩) len cap:=by rfl) (hi:ev σ ix = .int q i:=by rfl) (h0:0≤i:=by omega) (h1:i < len:=by omega) (hs:YX n ops (ivs.map (·.1)) L j []=true:=by kernel_rfl):Any P n r ops ivs T (f+1) L σ w:=R4 j hj hg hx hi h0 h1 hs k
theorem Jd {e size bytes b o len cap:Nat} {q:IntKind} {i:Int} {ix:Operand} (k:Lp P n r ops Q rest ms (put σ d (.pointer (some ⟨b,o+i.toNat*size,none⟩))) w) [hT:VW P t e size bytes] (hx:ev σ x = .slice (some ⟨b,o,none⟩) len cap:=by rfl) (hi:ev σ ix = .int q i:=by rfl) (h0:0≤i:=by omega) (h1:i < len:=by omega) (hd:Qh n d=true:=by rfl):Lp P n r ops Q (⟨d,.indexAddr t x ix,u,p,af,none⟩::rest) ms σ w:=Q5 rfl (GC hx hi h0 h1 hd k)
theorem Jv {op:Op} {v:Value} (k:Lp P n r ops Q rest ms (put σ d v) w) (h:pv σ op=some v:=by rfl) (hd:Qh n d=true:=by rfl):Lp P n r ops Q (⟨d,op,u,p,af,none⟩::rest) ms σ w:=UD h hd k
theorem Jx (H:Q0 w l) (k:T σ w) (hr:Region.ready .any ops L=[]:=by kernel_rfl) (hI:Q0 w l→Vj ivs L w:=by intro H;repeat first|exact Vj.nil|refine Vj.cons (.inr (Q0.at H)) ?_|refine Vj.cons (.inr (Q0.mp H)) ?_|refine Vj.cons (.inl (by kernel_rfl)) ?_):Any P n r ops ivs T f L σ w:=Fs hr (hI H) k
theorem Jw {o o':Oper} (i j:Nat) (H:Q0 w l) (hi:ops[i]? = some o) (hj:ops[j]? = some o') (k:St P n r o σ w (Any P n r ops ivs T f (L.setIfInBounds i true))) (k':St P n r o' σ w (Any P n r ops ivs T f (L.setIfInBounds j true))) (hr:Region.ready .any ops L=[i,j]:=by kernel_rfl) (hI:Q0 w l→Vj ivs L w:=by intro H;repeat first|exact Vj.nil|refine Vj.cons (.inr (Q0.at H)) ?_|refine Vj.cons (.inr (Q0.mp H)) ?_|refine Vj.cons (.inl (by kernel_rfl)) ?_) (hg:Q7 ops σ o true:=by first|exact Q7.none rfl|exact Q7.of rfl rfl rfl) (hg':Q7 ops σ o' true:=by first|exact Q7.none rfl|exact Q7.of rfl rfl rfl):Any P n r ops ivs T (f+1) L σ w:=Sf i j hi hj hr (hI H) hg hg' k k'
theorem Jk {f:FuncId} {K:QU→World→Prop} {xs:List Operand} {ts:Array TypeId} {R:Value→World→Prop} (hx:ev σ x = .func (.func f) #[] #[]) [hb:QV P f] (hd:Qh n d=true) (s:Calls P f (xs.map (ev σ)).toArray w (ret R)) (k:∀ v w',R v w'→K (put σ d v) w') :
  St P n r ⟨d,.call { callee := .value x,args:=xs.toArray,argTypes:=ts },u,p,af,g⟩ σ w K:=Qy (a:=[]) (b:=[]) hx hd (by rw[nil_append,append_nil];exact call s k)
theorem Jc {f:FuncId} {xs:List Operand} {ts:Array TypeId} {R:Value→World→Prop} (hx:ev σ x = .func (.func f) #[] #[]) [hb:QV P f] (hd:Qh n d=true) (s:Calls P f (xs.map (ev σ)).toArray w (ret R)) (k:∀ v w',R v w'→Lp P n r ops Q rest ms (put σ d v) w') :
  Lp P n r ops Q (⟨d,.call { callee := .value x,args:=xs.toArray,argTypes:=ts },u,p,af,none⟩::rest) ms σ w:=Q5 rfl (Jk hx hd s k)
theorem Js {l':List Q2} (is:List Nat) (m:Nat) (H:Q0 w l) (h:Q0 w (sel is m l)→Q0 w l':=by intro H;dsimp only[SL.sel,SL.pull,List.drop] at H;exact H):Q0 w l':=h (H.sel is m)
theorem Jy {fn:Func} {R:Value→World→Prop} {e:Exit} {vs:List Value} (H:Q0 w l) (h:XY σ fn.results.toList=some vs) (hr:∀ w',Q0 w' l→R (KG vs) w') (he:e = .normal∨e = .ret:=by first|exact .inr rfl|exact .inl rfl):Kw P n fn R e [] σ w:=Y6 _ he H h hr
theorem Jz {fn:Func} {R:Value→World→Prop} {e:Exit} {vs:List Value} (H:Q0 w l) (h:∀ w',Q0 w' l→UF P σ w' fn.results.toList vs) (hr:∀ w',Q0 w' l→R (KG vs) w') (he:e = .normal∨e = .ret:=by first|exact .inr rfl|exact .inl rfl):Kw P n fn R e [] σ w:=BB _ he H h hr
theorem J0 (H:Q0 w l) (k:K) (h:Q0 w l→K→G:=by
 intro H k;refine Jv ?_;refine QG ?_;exact k):G:=h H k
theorem J1 (H:Q0 w l) (k:K) (h:Q0 w l→K→G:=by
 intro H k
 repeat refine Q6 ?_
 refine W9 H mixed ?_;exact k):G:=h H k
theorem J2 (H:Q0 w l) (k:K) (h:Q0 w l→K→G:=by
 intro H k;refine QG ?_;exact k):G:=h H k
theorem J3 (H:Q0 w l) (k:K) (h:Q0 w l→K→G:=by
 intro H k;refine Jv ?_;refine Jv ?_;refine QG ?_;exact k):G:=h H k
theorem J4 (H:Q0 w l) (k:K) (h:Q0 w l→K→G:=by
 intro H k
 repeat refine Q6 ?_
 refine QZ ?_;refine Jv ?_;refine Jv ?_;refine QG ?_;exact k):G:=h H k
theorem J5 (H:Q0 w l) (k:K) (h:Q0 w l→K→G:=by
 intro H k;refine Q5 rfl (Z0 H rfl rfl inferInstance rfl rfl (Nat.le_of_ble_eq_true rfl) rfl ?_);exact k):G:=h H k
theorem J6 (H:Q0 w l) (k:K) (h:Q0 w l→K→G:=by
 intro H k
 repeat refine Q6 ?_
 exact k):G:=h H k
theorem J7 (H:Q0 w l) (k:K) (h:Q0 w l→K→G:=by
 intro H k
 repeat refine Q6 ?_
 refine QZ ?_;refine Q5 rfl (A0 H rfl rfl ?_);exact k):G:=h H k
theorem J8 (H:Q0 w l) (k:K) (h:Q0 w l→K→G:=by
 intro H k
 repeat refine Q6 ?_
 refine QZ ?_;refine Jv ?_;refine QG ?_
 repeat refine Q6 ?_
 exact k):G:=h H k
theorem J9 (H:Q0 w l) (k:K) (h:Q0 w l→K→G:=by
 intro H k
 repeat refine Q6 ?_
 refine QZ ?_;refine Jv ?_;refine Jv ?_;exact k):G:=h H k
theorem V2 (H:Q0 w l) (k:K) (h:Q0 w l→K→G:=by
 intro H k
 repeat refine Q6 ?_
 refine QZ ?_;refine Jv ?_;refine Jv ?_;refine Q5 rfl (VR rfl rfl ?_);refine Q5 rfl (QB H rfl rfl rfl ?_);refine Jv ?_;exact k):G:=h H k
theorem V4 (H:Q0 w l) (k:K) (h:Q0 w l→K→G:=by
 intro H k
 repeat refine Q6 ?_
 refine VM rfl (QD ?_);exact k):G:=h H k
theorem VZ (H:Q0 w l) (k:K) (h:Q0 w l→K→G:=by
 intro H k;refine Q5 rfl (VN H rfl ?_);exact k):G:=h H k
theorem VX (H:Q0 w l) (k:K) (h:Q0 w l→K→G:=by
 intro H k
 repeat refine Q6 ?_
 refine QZ ?_;refine Jv ?_;refine Jv ?_;refine Jv ?_;refine QG ?_;exact k):G:=h H k
theorem VF (H:Q0 w l) (k:K) (h:Q0 w l→K→G:=by
 intro H k
 repeat refine Q6 ?_
 refine QZ ?_;refine Jv ?_;refine QG ?_;exact k):G:=h H k
theorem VH (H:Q0 w l) (k:K) (h:Q0 w l→K→G:=by
 intro H k
 repeat refine Q6 ?_
 refine Vp rfl ?_;exact k):G:=h H k
theorem Vc (H:Q0 w l) (k:K) (h:Q0 w l→K→G:=by
 intro H k
 repeat refine Q6 ?_
 refine QZ ?_;refine Jv ?_;refine Jv ?_;refine Jv ?_;exact k):G:=h H k
theorem Ve (H:Q0 w l) (k:K) (h:Q0 w l→K→G:=by
 intro H k;refine Jv ?_;refine Jv ?_;refine Jv ?_;refine Q5 rfl (VN H rfl ?_);exact k):G:=h H k
theorem Vx (H:Q0 w l) (k:K) (h:Q0 w l→K→G:=by
 intro H k;refine Jv ?_;refine QG ?_
 repeat refine Q6 ?_
 refine VM rfl (QD ?_);exact k):G:=h H k
theorem Y7 (H:Q0 w l) (k:K) (h:Q0 w l→K→G:=by
 intro H k
 repeat refine Q6 ?_
 refine QZ ?_;refine Q5 rfl (VN H rfl ?_);exact k):G:=h H k
theorem Y8 (H:Q0 w l) (k:K) (h:Q0 w l→K→G:=by
 intro H k;refine Jv ?_;refine QG ?_
 repeat refine Q6 ?_
 exact k):G:=h H k
theorem YY (H:Q0 w l) (k:K) (h:Q0 w l→K→G:=by
 intro H k;refine Jv ?_;refine QG ?_
 repeat refine Q6 ?_
 refine QZ ?_;refine Jv ?_;refine Jv ?_;refine QG ?_;exact k):G:=h H k
theorem YZ (H:Q0 w l) (k:K) (h:Q0 w l→K→G:=by
 intro H k
 repeat refine Q6 ?_
 refine QZ ?_;refine Jv ?_;exact k):G:=h H k
theorem YA (H:Q0 w l) (k:K) (h:Q0 w l→K→G:=by
 intro H k;refine Jv ?_;refine Jv ?_;exact k):G:=h H k
theorem YB (H:Q0 w l) (k:K) (h:Q0 w l→K→G:=by
 intro H k
 repeat refine Q6 ?_
 refine QP ?_
 repeat refine Q6 ?_
 refine QZ ?_;exact k):G:=h H k
theorem YC (H:Q0 w l) (k:K) (h:Q0 w l→K→G:=by
 intro H k
 repeat refine Q6 ?_
 refine Vp rfl ?_
 repeat refine Q6 ?_
 refine QZ ?_;refine Jv ?_;refine QG ?_;exact k):G:=h H k
theorem Yc (H:Q0 w l) (k:K) (h:Q0 w l→K→G:=by
 intro H k
 repeat refine Q6 ?_
 refine Vp rfl ?_
 repeat refine Q6 ?_
 refine QZ ?_;refine Jv ?_;refine Jv ?_;refine QG ?_;exact k):G:=h H k
theorem Yj (H:Q0 w l) (k:K) (h:Q0 w l→K→G:=by
 intro H k;refine VU rfl rfl rfl rfl ?_;exact k):G:=h H k
theorem Yk (H:Q0 w l) (k:K) (h:Q0 w l→K→G:=by
 intro H k
 repeat refine Q6 ?_
 refine QZ ?_;refine Jv ?_;refine Jv ?_;refine Q5 rfl (VR rfl rfl ?_);refine Q5 rfl (QB H rfl rfl rfl ?_);exact k):G:=h H k
theorem Yl (H:Q0 w l) (k:K) (h:Q0 w l→K→G:=by
 intro H k;refine Jv ?_;refine QG ?_
 repeat refine Q6 ?_
 refine QZ ?_;refine Jv ?_;refine Jv ?_;refine QG ?_
 repeat refine Q6 ?_
 refine VM rfl (QD ?_);exact k):G:=h H k
theorem Yu (H:Q0 w l) (k:K) (h:Q0 w l→K→G:=by
 intro H k;refine Ja 0 ?_;refine Ja 1 ?_;refine Jf 2 ?_;exact k):G:=h H k
theorem Yv (H:Q0 w l) (k:K) (h:Q0 w l→K→G:=by
 intro H k
 repeat refine Q6 ?_
 refine QZ ?_;refine Q5 rfl (Lt H rfl rfl rfl ?_);exact k):G:=h H k
theorem ZW (H:Q0 w l) (k:K) (h:Q0 w l→K→G:=by
 intro H k;refine Q5 rfl (VR rfl rfl ?_);refine Q5 rfl (QB H rfl rfl rfl ?_);exact k):G:=h H k
theorem Zf (H:Q0 w l) (k:K) (h:Q0 w l→K→G:=by
 intro H k
 repeat refine Q6 ?_
 refine VM rfl ?_
 repeat refine Q6 ?_
 refine QZ ?_;refine Jv ?_;refine Jv ?_;refine QG ?_;exact k):G:=h H k
theorem Zg (H:Q0 w l) (k:K) (h:Q0 w l→K→G:=by
 intro H k
 repeat refine Q6 ?_
 refine QZ ?_;refine Q5 rfl (QB H rfl rfl rfl ?_);exact k):G:=h H k
theorem Zm (H:Q0 w l) (k:K) (h:Q0 w l→K→G:=by
 intro H k;refine VU rfl rfl rfl rfl ?_;refine VU rfl rfl rfl rfl ?_;exact k):G:=h H k
theorem Zn (H:Q0 w l) (k:K) (h:Q0 w l→K→G:=by
 intro H k
 repeat refine Q6 ?_
 refine QZ ?_;exact k):G:=h H k
theorem G1 (H:Q0 w l) (k:K) (h:Q0 w l→K→G:=by
 intro H k
 repeat refine Q6 ?_
 refine QP ?_;exact k):G:=h H k
theorem G2 (H:Q0 w l) (k:K) (h:Q0 w l→K→G:=by
 intro H k;refine Jv ?_;refine Jv ?_;refine Jv ?_;refine Jv ?_;refine Jv ?_;refine QG ?_
 repeat refine Q6 ?_
 refine QZ ?_;refine Jv ?_;refine Jv ?_;refine QG ?_
 repeat refine Q6 ?_
 refine VM rfl (QD ?_);exact k):G:=h H k
theorem G3 (H:Q0 w l) (k:K) (h:Q0 w l→K→G:=by
 intro H k;refine Jv ?_;refine Jv ?_;refine Jv ?_;refine Jv ?_;refine Jv ?_;refine QG ?_;exact k):G:=h H k
theorem G4 (H:Q0 w l) (k:K) (h:Q0 w l→K→G:=by
 intro H k;refine Ja 1 ?_;refine Jf 2 ?_;exact k):G:=h H k
theorem GH (H:Q0 w l) (k:K) (h:Q0 w l→K→G:=by
 intro H k
 repeat refine Q6 ?_
 refine QZ ?_;refine Q5 rfl (VA H rfl (by repeat first|exact .nil _|apply Q9.cons rfl) rfl ?_);exact k):G:=h H k
theorem GI (H:Q0 w l) (k:K) (h:Q0 w l→K→G:=by
 intro H k
 repeat refine Q6 ?_
 refine QZ ?_;refine Jv ?_;refine Jv ?_;refine Q5 rfl (VR rfl rfl ?_);refine Q5 rfl (QB H rfl rfl rfl ?_);refine Jv ?_;refine Jv ?_;exact k):G:=h H k
theorem GJ (H:Q0 w l) (k:K) (h:Q0 w l→K→G:=by
 intro H k;refine Q5 rfl (R7 H rfl rfl rfl ?_);exact k):G:=h H k
theorem GL (H:Q0 w l) (k:K) (h:Q0 w l→K→G:=by
 intro H k;refine Jv ?_;refine Q5 rfl (VR rfl rfl ?_);refine Q5 rfl (Yh H rfl rfl inferInstance rfl (Nat.le_of_ble_eq_true rfl) rfl ?_);exact k):G:=h H k
theorem GM (H:Q0 w l) (k:K) (h:Q0 w l→K→G:=by
 intro H k;refine Ja 11 ?_;refine Jx H ?_;exact k):G:=h H k
theorem Gv (H:Q0 w l) (k:K) (h:Q0 w l→K→G:=by
 intro H k
 repeat refine Q6 ?_
 refine QZ ?_;refine Jv ?_;refine Q5 rfl (VA H rfl (by repeat first|exact .nil _|apply Q9.cons rfl) rfl ?_);exact k):G:=h H k
theorem Gw (H:Q0 w l) (k:K) (h:Q0 w l→K→G:=by
 intro H k
 repeat refine Q6 ?_
 refine QZ ?_;refine Jv ?_;refine Jv ?_;refine QG ?_
 repeat refine Q6 ?_
 refine VM rfl (QD ?_);exact k):G:=h H k
theorem Gx (H:Q0 w l) (k:K) (h:Q0 w l→K→G:=by
 intro H k;refine Q5 rfl (ZJ rfl rfl ?_);refine Jv ?_;refine QG ?_;exact k):G:=h H k
theorem Gy (H:Q0 w l) (k:K) (h:Q0 w l→K→G:=by
 intro H k;refine Z0 H rfl rfl inferInstance rfl rfl (Nat.le_of_ble_eq_true rfl) rfl ?_;exact k):G:=h H k
theorem U9 (H:Q0 w l) (k:K) (h:Q0 w l→K→G:=by
 intro H k;refine QT rfl rfl rfl (VR rfl rfl ?_);refine QT rfl rfl rfl (QB H rfl rfl rfl ?_);refine VU rfl rfl rfl rfl ?_;exact k):G:=h H k
theorem UQ (H:Q0 w l) (k:K) (h:Q0 w l→K→G:=by
 intro H k;refine Jv ?_;refine VU rfl rfl rfl rfl ?_;refine VU rfl rfl rfl rfl ?_;exact k):G:=h H k
theorem UJ (H:Q0 w l) (k:K) (h:Q0 w l→K→G:=by
 intro H k;refine Ja 7 ?_;refine Ja 8 ?_;refine Ja 9 ?_;refine Ja 10 ?_;refine Ja 11 ?_;refine Jx H ?_;exact k):G:=h H k
theorem UM (H:Q0 w l) (k:K) (h:Q0 w l→K→G:=by
 intro H k;refine Jv ?_;refine QG ?_
 repeat refine Q6 ?_
 refine Vp rfl ?_
 repeat refine Q6 ?_
 refine QZ ?_;refine Jv ?_;refine QG ?_;exact k):G:=h H k
theorem UN (H:Q0 w l) (k:K) (h:Q0 w l→K→G:=by
 intro H k;refine Up rfl rfl ?_;refine QG ?_;exact k):G:=h H k
theorem Ur (H:Q0 w l) (k:K) (h:Q0 w l→K→G:=by
 intro H k;refine QT rfl rfl rfl (VR rfl rfl ?_);refine QT rfl rfl rfl (QB H rfl rfl rfl ?_);exact k):G:=h H k
theorem Us (H:Q0 w l) (k:K) (h:Q0 w l→K→G:=by
 intro H k;refine Ja 4 ?_;refine Ja 5 ?_;exact k):G:=h H k
theorem Ut (H:Q0 w l) (k:K) (h:Q0 w l→K→G:=by
 intro H k;refine Yh H rfl rfl inferInstance rfl (Nat.le_of_ble_eq_true rfl) rfl ?_;exact k):G:=h H k
theorem Uu (H:Q0 w l) (k:K) (h:Q0 w l→K→G:=by
 intro H k;refine Q5 rfl (VR rfl rfl ?_);refine Q5 rfl (Yh H rfl rfl inferInstance rfl (Nat.le_of_ble_eq_true rfl) rfl ?_);exact k):G:=h H k
theorem Uv (H:Q0 w l) (k:K) (h:Q0 w l→K→G:=by
 intro H k;refine Jv ?_;refine QG ?_
 repeat refine Q6 ?_
 refine VM rfl (QD ?_)
 repeat refine Q6 ?_
 refine QZ ?_;refine Jv ?_;refine Jv ?_;refine QG ?_;exact k):G:=h H k
theorem UV (H:Q0 w l) (k:K) (h:Q0 w l→K→G:=by
 intro H k;refine Jv ?_;refine Jv ?_;refine Jv ?_;refine Jv ?_;refine Jv ?_;refine QG ?_
 repeat refine Q6 ?_
 refine QZ ?_;refine Jv ?_;refine Jv ?_;refine QG ?_;exact k):G:=h H k
theorem Uw (H:Q0 w l) (k:K) (h:Q0 w l→K→G:=by
 intro H k
 repeat refine Q6 ?_
 refine QZ ?_;refine Jv ?_;refine QG ?_
 repeat refine Q6 ?_
 refine QZ ?_;refine Jv ?_;refine Jv ?_;exact k):G:=h H k
theorem Ux (H:Q0 w l) (k:K) (h:Q0 w l→K→G:=by
 intro H k
 repeat refine Q6 ?_
 refine QZ ?_;refine Q5 rfl (QB H rfl rfl rfl ?_);refine Jv ?_;exact k):G:=h H k
theorem Uy (H:Q0 w l) (k:K) (h:Q0 w l→K→G:=by
 intro H k;refine Jv ?_;refine Jv ?_;refine Qw rfl rfl rfl ?_;refine Qw rfl rfl rfl ?_;refine Qw rfl rfl rfl ?_;refine Qw rfl rfl rfl ?_;exact k):G:=h H k
theorem Uz (H:Q0 w l) (k:K) (h:Q0 w l→K→G:=by
 intro H k
 repeat refine Q6 ?_
 refine QZ ?_;refine Q5 rfl (QB H rfl rfl rfl ?_);refine Jv ?_;refine Q5 rfl (VR rfl rfl ?_);refine Q5 rfl (QB H rfl rfl rfl ?_);refine Jv ?_;exact k):G:=h H k
theorem XK (H:Q0 w l) (k:K) (h:Q0 w l→K→G:=by
 intro H k;refine Q5 rfl (UE rfl rfl ?_);exact k):G:=h H k
theorem XR (H:Q0 w l) (k:K) (h:Q0 w l→K→G:=by
 intro H k;refine VU rfl rfl rfl rfl ?_;refine VU rfl rfl rfl rfl ?_;refine VU rfl rfl rfl rfl ?_;exact k):G:=h H k
theorem XW (H:Q0 w l) (k:K) (h:Q0 w l→K→G:=by
 intro H k;refine Q5 rfl (UE rfl rfl ?_);refine Q5 rfl (A0 H rfl rfl ?_);exact k):G:=h H k
theorem XA (H:Q0 w l) (k:K) (h:Q0 w l→K→G:=by
 intro H k;refine Ja 0 ?_;refine Ja 1 ?_;refine Jf 2 ?_;refine Jl 3 [] H ?_;exact k):G:=h H k
theorem XB (H:Q0 w l) (k:K) (h:Q0 w l→K→G:=by
 intro H k;refine QG ?_
 repeat refine Q6 ?_
 refine QZ ?_;refine Jv ?_;refine Jv ?_;refine QG ?_;exact k):G:=h H k
theorem XC (H:Q0 w l) (k:K) (h:Q0 w l→K→G:=by
 intro H k
 repeat refine Q6 ?_
 refine QZ ?_;refine Jv ?_;refine QG ?_
 repeat refine Q6 ?_
 refine QZ ?_;refine Jv ?_;exact k):G:=h H k
theorem XD (H:Q0 w l) (k:K) (h:Q0 w l→K→G:=by
 intro H k;refine Q5 rfl (A0 H rfl rfl ?_);exact k):G:=h H k
theorem XE (H:Q0 w l) (k:K) (h:Q0 w l→K→G:=by
 intro H k;refine Jv ?_;refine QG ?_
 repeat refine Q6 ?_
 refine Vp rfl ?_;exact k):G:=h H k
theorem XF (H:Q0 w l) (k:K) (h:Q0 w l→K→G:=by
 intro H k
 repeat refine Q6 ?_
 refine QZ ?_;refine Jv ?_;refine Jv ?_;refine QG ?_
 repeat refine Q6 ?_
 refine QZ ?_;refine Jv ?_;refine Jv ?_;exact k):G:=h H k
theorem XH (H:Q0 w l) (k:K) (h:Q0 w l→K→G:=by
 intro H k;refine Ja 8 ?_;refine Jx H ?_;exact k):G:=h H k
theorem Xo (H:Q0 w l) (k:K) (h:Q0 w l→K→G:=by
 intro H k;refine Q5 rfl (QB H rfl rfl rfl ?_);exact k):G:=h H k
theorem Xp (H:Q0 w l) (k:K) (h:Q0 w l→K→G:=by
 intro H k;refine VU rfl rfl rfl rfl ?_;refine Jv ?_;refine Jv ?_;refine QG ?_;exact k):G:=h H k
theorem Xq (H:Q0 w l) (k:K) (h:Q0 w l→K→G:=by
 intro H k
 repeat refine Q6 ?_
 refine QZ ?_;refine Jv ?_;refine Jv ?_;refine Jv ?_;refine Jv ?_;exact k):G:=h H k
theorem Xr (H:Q0 w l) (k:K) (h:Q0 w l→K→G:=by
 intro H k;refine Vp rfl (QD ?_);exact k):G:=h H k
theorem Xs (H:Q0 w l) (k:K) (h:Q0 w l→K→G:=by
 intro H k
 repeat refine Q6 ?_
 refine QP ?_
 repeat refine Q6 ?_
 refine QZ ?_;refine Jv ?_;refine Jv ?_;exact k):G:=h H k
theorem Xt (H:Q0 w l) (k:K) (h:Q0 w l→K→G:=by
 intro H k;refine Jv ?_;refine QG ?_
 repeat refine Q6 ?_
 refine Vp rfl ?_
 repeat refine Q6 ?_
 refine QZ ?_;refine Q5 rfl (UE rfl rfl ?_);refine Q5 rfl (Z0 H rfl rfl inferInstance rfl rfl (Nat.le_of_ble_eq_true rfl) rfl ?_);exact k):G:=h H k
theorem Xu (H:Q0 w l) (k:K) (h:Q0 w l→K→G:=by
 intro H k
 repeat refine Q6 ?_
 refine QZ ?_;refine Jv ?_;refine Q5 rfl (ZJ rfl rfl ?_);refine Jv ?_;refine QG ?_;exact k):G:=h H k
theorem Xv (H:Q0 w l) (k:K) (h:Q0 w l→K→G:=by
 intro H k;refine Ja 12 ?_;refine Jx H ?_;exact k):G:=h H k
theorem Xw (H:Q0 w l) (k:K) (h:Q0 w l→K→G:=by
 intro H k;refine Jo 12 H ?_;refine Z0 H rfl rfl inferInstance rfl rfl (Nat.le_of_ble_eq_true rfl) rfl ?_;exact k):G:=h H k
theorem Xx (H:Q0 w l) (k:K) (h:Q0 w l→K→G:=by
 intro H k;refine Ja 0 ?_;refine Ja 1 ?_;refine Jf 2 ?_;refine Jl 3 [6] H ?_;refine Jf 4 ?_;refine Jl 5 [6] H ?_;refine Jo 6 H ?_;exact k):G:=h H k
theorem KA (H:Q0 w l) (k:K) (h:Q0 w l→K→G:=by
 intro H k;refine Q5 rfl (VA H rfl (by repeat first|exact .nil _|apply Q9.cons rfl) rfl ?_);exact k):G:=h H k
theorem KB (H:Q0 w l) (k:K) (h:Q0 w l→K→G:=by
 intro H k;refine Jv ?_;refine Jv ?_;refine QG ?_
 repeat refine Q6 ?_
 exact k):G:=h H k
theorem KC (H:Q0 w l) (k:K) (h:Q0 w l→K→G:=by
 intro H k;refine Jv ?_;refine Jv ?_;refine QG ?_
 repeat refine Q6 ?_
 refine VM rfl ?_;exact k):G:=h H k
theorem KD (H:Q0 w l) (k:K) (h:Q0 w l→K→G:=by
 intro H k
 repeat refine Q6 ?_
 refine QZ ?_;refine Q5 rfl (VA H rfl (by repeat first|exact .nil _|apply Q9.cons rfl) rfl ?_);refine Q5 rfl (Z0 H rfl rfl inferInstance rfl rfl (Nat.le_of_ble_eq_true rfl) rfl ?_);exact k):G:=h H k
theorem KE (H:Q0 w l) (k:K) (h:Q0 w l→K→G:=by
 intro H k
 repeat refine Q6 ?_
 refine QZ ?_;refine Q5 rfl (VR rfl rfl ?_);refine Q5 rfl (QB H rfl rfl rfl ?_);exact k):G:=h H k
theorem KF (H:Q0 w l) (k:K) (h:Q0 w l→K→G:=by
 intro H k
 repeat refine Q6 ?_
 refine QZ ?_;refine Jv ?_;refine Jv ?_;refine Jv ?_;refine Jv ?_;refine Jv ?_;refine QG ?_;exact k):G:=h H k
theorem KH (H:Q0 w l) (k:K) (h:Q0 w l→K→G:=by
 intro H k;refine VM rfl (Qp ?_);exact k):G:=h H k
theorem KI (H:Q0 w l) (k:K) (h:Q0 w l→K→G:=by
 intro H k;refine Qw rfl rfl rfl ?_;refine Qw rfl rfl rfl ?_;exact k):G:=h H k
theorem KJ (H:Q0 w l) (k:K) (h:Q0 w l→K→G:=by
 intro H k;refine Qw rfl rfl rfl ?_;refine Qw rfl rfl rfl ?_;refine Qw rfl rfl rfl ?_;exact k):G:=h H k
theorem KL (H:Q0 w l) (k:K) (h:Q0 w l→K→G:=by
 intro H k;refine Jv ?_;refine VU rfl rfl rfl rfl ?_;refine VU rfl rfl rfl rfl ?_;refine VU rfl rfl rfl rfl ?_;refine QT rfl rfl rfl (VR rfl rfl ?_);refine QT rfl rfl rfl (QB H rfl rfl rfl ?_);refine QT rfl rfl rfl (ZJ rfl rfl ?_);refine VU rfl rfl rfl rfl ?_;exact k):G:=h H k
theorem KM (H:Q0 w l) (k:K) (h:Q0 w l→K→G:=by
 intro H k;refine Jv ?_;refine QG ?_
 repeat refine Q6 ?_
 refine QZ ?_;refine Jv ?_;refine Q5 rfl (VA H rfl (by repeat first|exact .nil _|apply Q9.cons rfl) rfl ?_);exact k):G:=h H k
theorem KN (H:Q0 w l) (k:K) (h:Q0 w l→K→G:=by
 intro H k
 repeat refine Q6 ?_
 refine QZ ?_;refine Q5 rfl (VA H rfl (by repeat first|exact .nil _|apply Q9.cons rfl) rfl ?_);refine Jv ?_;refine Q5 rfl (Z0 H rfl rfl inferInstance rfl rfl (Nat.le_of_ble_eq_true rfl) rfl ?_);exact k):G:=h H k
theorem KO (H:Q0 w l) (k:K) (h:Q0 w l→K→G:=by
 intro H k;refine Q5 rfl (Lt H rfl rfl rfl ?_);exact k):G:=h H k
theorem KP (H:Q0 w l) (k:K) (h:Q0 w l→K→G:=by
 intro H k;refine Q5 rfl (ZJ rfl rfl ?_);refine Jv ?_;refine QG ?_
 repeat refine Q6 ?_
 refine QP ?_;exact k):G:=h H k
theorem KS (H:Q0 w l) (k:K) (h:Q0 w l→K→G:=by
 intro H k
 repeat refine Q6 ?_
 refine VM rfl (QD ?_)
 repeat refine Q6 ?_
 refine QZ ?_;refine Jv ?_;refine QG ?_;exact k):G:=h H k
theorem KT (H:Q0 w l) (k:K) (h:Q0 w l→K→G:=by
 intro H k
 repeat refine Q6 ?_
 refine QZ ?_;refine Jv ?_;refine Jv ?_;refine Q5 rfl (ZJ rfl rfl ?_);refine Jv ?_;refine QG ?_
 repeat refine Q6 ?_
 exact k):G:=h H k
theorem Ka (H:Q0 w l) (k:K) (h:Q0 w l→K→G:=by
 intro H k
 repeat refine Q6 ?_
 refine QZ ?_;refine Jv ?_;refine Jv ?_;refine Jv ?_;refine Q5 rfl (VR rfl rfl ?_);refine Q5 rfl (QB H rfl rfl rfl ?_);refine Q5 rfl (ZJ rfl rfl ?_);refine Jv ?_;refine QG ?_
 repeat refine Q6 ?_
 exact k):G:=h H k
theorem RY (H:Q0 w l) (k:K) (h:Q0 w l→K→G:=by
 intro H k
 repeat refine Q6 ?_
 refine QZ ?_;refine Q5 rfl (VR rfl rfl ?_);refine Q5 rfl (QB H rfl rfl rfl ?_);refine Jv ?_;exact k):G:=h H k
theorem RZ (H:Q0 w l) (k:K) (h:Q0 w l→K→G:=by
 intro H k;refine Jf 0 ?_;refine Jl 1 [] H ?_;refine Ja 2 ?_;exact k):G:=h H k
theorem RG (H:Q0 w l) (k:K) (h:Q0 w l→K→G:=by
 intro H k;refine Jf 4 ?_;refine Jl 5 [] H ?_;exact k):G:=h H k
theorem RU (H:Q0 w l) (k:K) (h:Q0 w l→K→G:=by
 intro H k;refine Ja 4 ?_;refine Jf 5 ?_;exact k):G:=h H k
theorem RX (H:Q0 w l) (k:K) (h:Q0 w l→K→G:=by
 intro H k
 repeat refine Q6 ?_
 refine QZ ?_;refine Jv ?_;refine QG ?_
 repeat refine Q6 ?_
 refine QZ ?_;refine Jv ?_;refine Q5 rfl (Gt rfl rfl (.inl rfl) rfl ?_);refine QG ?_
 repeat refine Q6 ?_
 refine VM rfl (QD ?_)
 repeat refine Q6 ?_
 refine QZ ?_;refine Jv ?_;refine Jv ?_;refine Q5 rfl (VR rfl rfl ?_);refine Q5 rfl (QB H rfl rfl rfl ?_);exact k):G:=h H k
theorem RK (H:Q0 w l) (k:K) (h:Q0 w l→K→G:=by
 intro H k;refine QP ?_
 repeat refine Q6 ?_
 refine QZ ?_;refine Jv ?_;refine Q5 rfl (Gt rfl rfl (.inl rfl) rfl ?_);refine Jv ?_;refine QG ?_
 repeat refine Q6 ?_
 refine VM rfl ?_;exact k):G:=h H k
theorem RR (H:Q0 w l) (k:K) (h:Q0 w l→K→G:=by
 intro H k;refine Ja 12 ?_;refine Ja 13 ?_;refine Ja 14 ?_;exact k):G:=h H k
theorem RW (H:Q0 w l) (k:K) (h:Q0 w l→K→G:=by
 intro H k;refine Xm rfl rfl ?_;refine Xm rfl rfl ?_;exact k):G:=h H k
theorem RH (H:Q0 w l) (k:K) (h:Q0 w l→K→G:=by
 intro H k
 repeat refine Q6 ?_
 refine QP ?_
 repeat refine Q6 ?_
 refine QZ ?_;refine Jv ?_;refine Jv ?_;refine QG ?_;exact k):G:=h H k
theorem RI (H:Q0 w l) (k:K) (h:Q0 w l→K→G:=by
 intro H k;refine Q5 rfl (VR rfl rfl ?_);exact k):G:=h H k
theorem RJ (H:Q0 w l) (k:K) (h:Q0 w l→K→G:=by
 intro H k;refine Ja 0 ?_;refine Ja 1 ?_;refine Jf 2 ?_;refine Jl 3 [5,10] H ?_;refine VB 4 [5,10] H rfl (Q7.none rfl) rfl (by repeat first|exact .nil _|apply Q9.cons rfl) (by kernel_rfl) ?_;exact k):G:=h H k
theorem RL (H:Q0 w l) (k:K) (h:Q0 w l→K→G:=by
 intro H k;refine Ja 6 ?_;refine Ja 7 ?_;refine Ja 8 ?_;refine Jo 9 H ?_;refine VN H rfl ?_;exact k):G:=h H k
theorem RM (H:Q0 w l) (k:K) (h:Q0 w l→K→G:=by
 intro H k;refine Jo 10 H ?_;refine Z0 H rfl rfl inferInstance rfl rfl (Nat.le_of_ble_eq_true rfl) rfl ?_;exact k):G:=h H k
theorem RN (H:Q0 w l) (k:K) (h:Q0 w l→K→G:=by
 intro H k;refine Ja 6 ?_;refine Ja 7 ?_;refine Ja 8 ?_;refine Jo 10 H ?_;refine Z0 H rfl rfl inferInstance rfl rfl (Nat.le_of_ble_eq_true rfl) rfl ?_;exact k):G:=h H k
theorem RP (H:Q0 w l) (k:K) (h:Q0 w l→K→G:=by
 intro H k;refine Ja 8 ?_;refine Ja 9 ?_;refine Ja 10 ?_;exact k):G:=h H k
theorem RT (H:Q0 w l) (k:K) (h:Q0 w l→K→G:=by
 intro H k;refine QG ?_
 repeat refine Q6 ?_
 refine VM rfl (QD ?_);exact k):G:=h H k
theorem Ra (H:Q0 w l) (k:K) (h:Q0 w l→K→G:=by
 intro H k;refine Ja 17 ?_;refine Jx H ?_;exact k):G:=h H k
theorem Rb (H:Q0 w l) (k:K) (h:Q0 w l→K→G:=by
 intro H k;refine Ja 13 ?_;refine Jx H ?_;exact k):G:=h H k
theorem WY (H:Q0 w l) (k:K) (h:Q0 w l→K→G:=by
 intro H k;refine QG ?_
 repeat refine Q6 ?_
 refine QZ ?_;refine Jv ?_;refine Jv ?_;exact k):G:=h H k
theorem WZ (H:Q0 w l) (k:K) (h:Q0 w l→K→G:=by
 intro H k;refine VU rfl rfl rfl rfl ?_;refine Jv ?_;refine QG ?_
 repeat refine Q6 ?_
 refine VM rfl (QD ?_);exact k):G:=h H k
theorem WG (H:Q0 w l) (k:K) (h:Q0 w l→K→G:=by
 intro H k;refine Ja 0 ?_;refine Ja 1 ?_;exact k):G:=h H k
theorem WU (H:Q0 w l) (k:K) (h:Q0 w l→K→G:=by
 intro H k;refine R7 H rfl rfl rfl ?_;exact k):G:=h H k
theorem WX (H:Q0 w l) (k:K) (h:Q0 w l→K→G:=by
 intro H k;refine Jv ?_;refine QG ?_
 repeat refine Q6 ?_
 refine QZ ?_;refine Q5 rfl (VR rfl rfl ?_);refine Q5 rfl (QB H rfl rfl rfl ?_);exact k):G:=h H k
theorem WK (H:Q0 w l) (k:K) (h:Q0 w l→K→G:=by
 intro H k
 repeat refine Q6 ?_
 refine QZ ?_;refine Jv ?_;refine QG ?_
 repeat refine Q6 ?_
 refine QZ ?_;refine Jv ?_;refine Jv ?_;refine Jv ?_;exact k):G:=h H k
theorem WR (H:Q0 w l) (k:K) (h:Q0 w l→K→G:=by
 intro H k;refine QG ?_
 repeat refine Q6 ?_
 refine QZ ?_;refine Jv ?_;refine QG ?_;exact k):G:=h H k
theorem WW (H:Q0 w l) (k:K) (h:Q0 w l→K→G:=by
 intro H k
 repeat refine Q6 ?_
 refine QP ?_
 repeat refine Q6 ?_
 refine QZ ?_;refine Jv ?_;refine Jv ?_;refine Jv ?_;exact k):G:=h H k
theorem WA (H:Q0 w l) (k:K) (h:Q0 w l→K→G:=by
 intro H k;refine QG ?_
 repeat refine Q6 ?_
 refine QZ ?_;refine Jv ?_;refine Jv ?_;refine Jv ?_;refine QG ?_;exact k):G:=h H k
theorem WB (H:Q0 w l) (k:K) (h:Q0 w l→K→G:=by
 intro H k;refine Jv ?_;refine Jv ?_;refine Jv ?_;refine Jv ?_;refine Jv ?_;refine QG ?_
 repeat refine Q6 ?_
 exact k):G:=h H k
theorem WC (H:Q0 w l) (k:K) (h:Q0 w l→K→G:=by
 intro H k;refine Jv ?_;refine Jv ?_;refine Jv ?_;exact k):G:=h H k
theorem WD (H:Q0 w l) (k:K) (h:Q0 w l→K→G:=by
 intro H k
 repeat refine Q6 ?_
 refine QZ ?_;refine Jv ?_;refine Jv ?_;refine Jv ?_;refine VU rfl rfl rfl rfl ?_;refine VU rfl rfl rfl rfl ?_;exact k):G:=h H k
theorem WE (H:Q0 w l) (k:K) (h:Q0 w l→K→G:=by
 intro H k;refine Jv ?_;refine Jv ?_;refine QG ?_
 repeat refine Q6 ?_
 refine VM rfl (QD ?_);exact k):G:=h H k
theorem WH (H:Q0 w l) (k:K) (h:Q0 w l→K→G:=by
 intro H k;refine Ja 0 ?_;refine Ja 1 ?_;refine Ja 2 ?_;refine Jf 3 ?_;exact k):G:=h H k
theorem WI (H:Q0 w l) (k:K) (h:Q0 w l→K→G:=by
 intro H k
 repeat refine Q6 ?_
 refine QZ ?_;refine Jv ?_;refine Q5 rfl (VR rfl rfl ?_);refine Q5 rfl (QB H rfl rfl rfl ?_);exact k):G:=h H k
theorem WJ (H:Q0 w l) (k:K) (h:Q0 w l→K→G:=by
 intro H k
 repeat refine Q6 ?_
 refine QZ ?_;refine Jv ?_;refine Jv ?_;refine Jv ?_;refine Jv ?_;refine QG ?_;exact k):G:=h H k
theorem WL (H:Q0 w l) (k:K) (h:Q0 w l→K→G:=by
 intro H k
 repeat refine Q6 ?_
 refine QZ ?_;refine Jv ?_;refine QG ?_
 repeat refine Q6 ?_
 refine QZ ?_;refine Jv ?_;refine Q5 rfl (Gt rfl rfl (.inl rfl) rfl ?_);refine QG ?_
 repeat refine Q6 ?_
 refine VM rfl (QD ?_)
 repeat refine Q6 ?_
 refine QZ ?_;refine Jv ?_;refine Jv ?_;refine Q5 rfl (VR rfl rfl ?_);refine Q5 rfl (QB H rfl rfl rfl ?_);refine Jv ?_;exact k):G:=h H k
theorem WM (H:Q0 w l) (k:K) (h:Q0 w l→K→G:=by
 intro H k;refine Ja 13 ?_;refine Ja 14 ?_;refine Jx H ?_;exact k):G:=h H k
theorem A4 (H:Q0 w l) (k:K) (h:Q0 w l→K→G:=by
 intro H k;refine Jv ?_;refine QT rfl rfl rfl (VR rfl rfl ?_);refine QT rfl rfl rfl (QB H rfl rfl rfl ?_);refine VU rfl rfl rfl rfl ?_;exact k):G:=h H k
theorem A5 (H:Q0 w l) (k:K) (h:Q0 w l→K→G:=by
 intro H k
 repeat refine Q6 ?_
 refine QZ ?_;refine Jv ?_;refine QG ?_
 repeat refine Q6 ?_
 refine QZ ?_;refine Jv ?_;refine Q5 rfl (ZJ rfl rfl ?_);refine Jv ?_;refine QG ?_
 repeat refine Q6 ?_
 refine QP ?_;exact k):G:=h H k
theorem A6 (H:Q0 w l) (k:K) (h:Q0 w l→K→G:=by
 intro H k;refine Jv ?_;refine VU rfl rfl rfl rfl ?_;exact k):G:=h H k
theorem A7 (H:Q0 w l) (k:K) (h:Q0 w l→K→G:=by
 intro H k;refine Q5 rfl (UE rfl rfl ?_);refine Q5 rfl (R7 H rfl rfl rfl ?_);exact k):G:=h H k
theorem A8 (H:Q0 w l) (k:K) (h:Q0 w l→K→G:=by
 intro H k;refine Jv ?_;refine QT rfl rfl rfl (VR rfl rfl ?_);refine QT rfl rfl rfl (QB H rfl rfl rfl ?_);refine VU rfl rfl rfl rfl ?_;refine Jv ?_;exact k):G:=h H k
theorem A9 (H:Q0 w l) (k:K) (h:Q0 w l→K→G:=by
 intro H k
 repeat refine Q6 ?_
 refine QZ ?_;refine Jv ?_;refine QG ?_
 repeat refine Q6 ?_
 refine QP ?_;exact k):G:=h H k
theorem AQ (H:Q0 w l) (k:K) (h:Q0 w l→K→G:=by
 intro H k;refine Jo 11 H ?_;refine Z0 H rfl rfl inferInstance rfl rfl (Nat.le_of_ble_eq_true rfl) rfl ?_;exact k):G:=h H k
theorem AV (H:Q0 w l) (k:K) (h:Q0 w l→K→G:=by
 intro H k;refine QG ?_
 repeat refine Q6 ?_
 exact k):G:=h H k
theorem AY (H:Q0 w l) (k:K) (h:Q0 w l→K→G:=by
 intro H k
 repeat refine Q6 ?_
 refine QZ ?_;refine Jv ?_;refine Q5 rfl (Gt rfl rfl (.inl rfl) rfl ?_);exact k):G:=h H k
theorem AZ (H:Q0 w l) (k:K) (h:Q0 w l→K→G:=by
 intro H k;refine Q5 rfl (HR rfl rfl rfl ?_);exact k):G:=h H k
theorem AG (H:Q0 w l) (k:K) (h:Q0 w l→K→G:=by
 intro H k
 repeat refine Q6 ?_
 refine QZ ?_;refine Jv ?_;refine Jv ?_;refine Jv ?_;refine Q5 rfl (VR rfl rfl ?_);refine Q5 rfl (QB H rfl rfl rfl ?_);exact k):G:=h H k
theorem AU (H:Q0 w l) (k:K) (h:Q0 w l→K→G:=by
 intro H k
 repeat refine Q6 ?_
 refine VM rfl (QD ?_)
 repeat refine Q6 ?_
 refine QZ ?_;refine Jv ?_;exact k):G:=h H k
theorem AX (H:Q0 w l) (k:K) (h:Q0 w l→K→G:=by
 intro H k
 repeat refine Q6 ?_
 refine QP ?_
 repeat refine Q6 ?_
 refine QZ ?_;refine Jv ?_;refine Jv ?_;refine Q5 rfl (VR rfl rfl ?_);refine Q5 rfl (QB H rfl rfl rfl ?_);refine Jv ?_;exact k):G:=h H k
theorem AK (H:Q0 w l) (k:K) (h:Q0 w l→K→G:=by
 intro H k;refine Jv ?_;refine Jv ?_;refine Jv ?_;refine QG ?_;exact k):G:=h H k
theorem AR (H:Q0 w l) (k:K) (h:Q0 w l→K→G:=by
 intro H k;refine Qw rfl rfl rfl ?_;refine Qw rfl rfl rfl ?_;refine Qw rfl rfl rfl ?_;refine Qw rfl rfl rfl ?_;exact k):G:=h H k
theorem AW (H:Q0 w l) (k:K) (h:Q0 w l→K→G:=by
 intro H k
 repeat refine Q6 ?_
 refine VM rfl (QD ?_)
 repeat refine Q6 ?_
 refine QZ ?_;refine Jv ?_;refine Jv ?_;refine Jv ?_;refine QG ?_;exact k):G:=h H k
theorem AA (H:Q0 w l) (k:K) (h:Q0 w l→K→G:=by
 intro H k
 repeat refine Q6 ?_
 refine QZ ?_;refine Q5 rfl (VA H rfl (by repeat first|exact .nil _|apply Q9.cons rfl) rfl ?_);refine Jv ?_;exact k):G:=h H k
theorem AB (H:Q0 w l) (k:K) (h:Q0 w l→K→G:=by
 intro H k
 repeat refine Q6 ?_
 refine QZ ?_;refine Jv ?_;refine Jv ?_;refine Jv ?_;refine QG ?_
 repeat refine Q6 ?_
 refine VM rfl ?_
 repeat refine Q6 ?_
 refine QZ ?_;refine Jv ?_;refine Jv ?_;exact k):G:=h H k
theorem AC (H:Q0 w l) (k:K) (h:Q0 w l→K→G:=by
 intro H k
 repeat refine Q6 ?_
 refine VM rfl (QD ?_)
 repeat refine Q6 ?_
 refine QZ ?_;refine Jv ?_;refine Jv ?_;exact k):G:=h H k
theorem AD (H:Q0 w l) (k:K) (h:Q0 w l→K→G:=by
 intro H k;refine Jv ?_;refine QG ?_
 repeat refine Q6 ?_
 refine QZ ?_;refine Jv ?_;refine Q5 rfl (Gt rfl rfl (.inl rfl) rfl ?_);refine QG ?_
 repeat refine Q6 ?_
 refine VM rfl (QD ?_);exact k):G:=h H k
theorem AE (H:Q0 w l) (k:K) (h:Q0 w l→K→G:=by
 intro H k;refine Jv ?_;refine Jv ?_;refine Jv ?_;refine Jv ?_;exact k):G:=h H k
theorem AF (H:Q0 w l) (k:K) (h:Q0 w l→K→G:=by
 intro H k;refine Q5 rfl (VR rfl rfl ?_);refine Q5 rfl (QB H rfl rfl rfl ?_);refine Jv ?_;exact k):G:=h H k
theorem AH (H:Q0 w l) (k:K) (h:Q0 w l→K→G:=by
 intro H k
 repeat refine Q6 ?_
 refine QZ ?_;refine Jv ?_;refine Jv ?_;refine Jv ?_;refine Q5 rfl (VR rfl rfl ?_);refine Q5 rfl (QB H rfl rfl rfl ?_);refine Jv ?_;exact k):G:=h H k
theorem AI (H:Q0 w l) (k:K) (h:Q0 w l→K→G:=by
 intro H k;refine Jv ?_;refine Jv ?_;refine Jv ?_;refine Jv ?_;refine QG ?_;exact k):G:=h H k
theorem AJ (H:Q0 w l) (k:K) (h:Q0 w l→K→G:=by
 intro H k;refine Ja 6 ?_;refine Ja 7 ?_;refine Jf 8 ?_;exact k):G:=h H k
theorem AL (H:Q0 w l) (k:K) (h:Q0 w l→K→G:=by
 intro H k;refine Jv ?_;refine Jv ?_;refine VU rfl rfl rfl rfl ?_;refine VU rfl rfl rfl rfl ?_;refine QT rfl rfl rfl (VR rfl rfl ?_);refine QT rfl rfl rfl (QB H rfl rfl rfl ?_);refine VU rfl rfl rfl rfl ?_;exact k):G:=h H k
theorem AM (H:Q0 w l) (k:K) (h:Q0 w l→K→G:=by
 intro H k
 repeat refine Q6 ?_
 refine QZ ?_;refine Q5 rfl (VR rfl rfl ?_);refine Q5 rfl (QB H rfl rfl rfl ?_);refine Jv ?_;refine QG ?_;exact k):G:=h H k
theorem AN (H:Q0 w l) (k:K) (h:Q0 w l→K→G:=by
 intro H k;refine Jv ?_;refine QG ?_
 repeat refine Q6 ?_
 refine QZ ?_;refine Jv ?_;refine Jv ?_;refine QG ?_
 repeat refine Q6 ?_
 refine Vp rfl ?_
 repeat refine Q6 ?_
 refine QZ ?_;refine Jv ?_;refine Jv ?_;refine Jv ?_;refine QG ?_;exact k):G:=h H k
theorem AO (H:Q0 w l) (k:K) (h:Q0 w l→K→G:=by
 intro H k;refine Jv ?_;refine Jv ?_;refine Qw rfl rfl rfl ?_;refine Qw rfl rfl rfl ?_;refine Qw rfl rfl rfl ?_;refine Qw rfl rfl rfl ?_;refine Qw rfl rfl rfl ?_;refine Qw rfl rfl rfl ?_;refine Qw rfl rfl rfl ?_;refine Qw rfl rfl rfl ?_;exact k):G:=h H k
theorem AP (H:Q0 w l) (k:K) (h:Q0 w l→K→G:=by
 intro H k
 repeat refine Q6 ?_
 refine QZ ?_;refine Jv ?_;refine Jv ?_;refine QG ?_
 repeat refine Q6 ?_
 refine Vp rfl ?_
 repeat refine Q6 ?_
 refine QZ ?_;refine Jv ?_;refine QG ?_;exact k):G:=h H k
theorem AS (H:Q0 w l) (k:K) (h:Q0 w l→K→G:=by
 intro H k;refine GF 14 rfl (Q7.none rfl) rfl (by kernel_rfl) ?_;refine Jo 15 H ?_;refine A0 H rfl rfl ?_;exact k):G:=h H k
theorem Aa (H:Q0 w l) (k:K) (h:Q0 w l→K→G:=by
 intro H k;refine Jo 16 H ?_;refine R7 H rfl rfl rfl ?_;exact k):G:=h H k
theorem Ab (H:Q0 w l) (k:K) (h:Q0 w l→K→G:=by
 intro H k;refine Ja 18 ?_;refine Jf 19 ?_;refine Jo 20 H ?_;refine Yh H rfl rfl inferInstance rfl (Nat.le_of_ble_eq_true rfl) rfl ?_;exact k):G:=h H k
theorem Ad (H:Q0 w l) (k:K) (h:Q0 w l→K→G:=by
 intro H k;refine Ja 8 ?_;refine Ja 9 ?_;refine Ja 10 ?_;refine Ja 11 ?_;refine Ja 12 ?_;refine Jx H ?_;exact k):G:=h H k
theorem BJ (H:Q0 w l) (k:K) (h:Q0 w l→K→G:=by
 intro H k;refine Jv ?_;refine Jv ?_;refine QT rfl rfl rfl (VR rfl rfl ?_);refine QT rfl rfl rfl (QB H rfl rfl rfl ?_);refine VU rfl rfl rfl rfl ?_;exact k):G:=h H k
theorem BL (H:Q0 w l) (k:K) (h:Q0 w l→K→G:=by
 intro H k;refine Jv ?_;refine Jv ?_;refine VU rfl rfl rfl rfl ?_;exact k):G:=h H k
theorem BN (H:Q0 w l) (k:K) (h:Q0 w l→K→G:=by
 intro H k;refine QT rfl rfl rfl (VA H rfl (by repeat first|exact .nil _|apply Q9.cons rfl) rfl ?_);exact k):G:=h H k
theorem BO (H:Q0 w l) (k:K) (h:Q0 w l→K→G:=by
 intro H k
 repeat refine Q6 ?_
 refine QP ?_
 repeat refine Q6 ?_
 refine QZ ?_;refine Jv ?_;exact k):G:=h H k
theorem BP (H:Q0 w l) (k:K) (h:Q0 w l→K→G:=by
 intro H k;refine Ja 12 ?_;refine Ja 13 ?_;refine Ja 14 ?_;refine Ja 15 ?_;refine Jx H ?_;exact k):G:=h H k
theorem BS (H:Q0 w l) (k:K) (h:Q0 w l→K→G:=by
 intro H k;refine Jo 14 H ?_;refine Z0 H rfl rfl inferInstance rfl rfl (Nat.le_of_ble_eq_true rfl) rfl ?_;exact k):G:=h H k
theorem Ba (H:Q0 w l) (k:K) (h:Q0 w l→K→G:=by
 intro H k
 repeat refine Q6 ?_
 refine QZ ?_;refine Q5 rfl (VA H rfl (by repeat first|exact .nil _|apply Q9.cons rfl) rfl ?_);refine Q5 rfl (UE rfl rfl ?_);refine Q5 rfl (R9 rfl rfl rfl rfl (.inl rfl) rfl ?_);exact k):G:=h H k
theorem Bb (H:Q0 w l) (k:K) (h:Q0 w l→K→G:=by
 intro H k;refine Jv ?_;refine QG ?_
 repeat refine Q6 ?_
 refine Vp rfl ?_
 repeat refine Q6 ?_
 refine QZ ?_;refine Jv ?_;refine Jv ?_;refine QG ?_;exact k):G:=h H k
theorem Bc (H:Q0 w l) (k:K) (h:Q0 w l→K→G:=by
 intro H k;refine Jv ?_;refine QG ?_
 repeat refine Q6 ?_
 refine VM rfl ?_;exact k):G:=h H k
theorem Bd (H:Q0 w l) (k:K) (h:Q0 w l→K→G:=by
 intro H k
 repeat refine Q6 ?_
 refine Vp rfl ?_
 repeat refine Q6 ?_
 refine QZ ?_;refine Q5 rfl (UE rfl rfl ?_);refine Q5 rfl (Z0 H rfl rfl inferInstance rfl rfl (Nat.le_of_ble_eq_true rfl) rfl ?_);exact k):G:=h H k
theorem Be (H:Q0 w l) (k:K) (h:Q0 w l→K→G:=by
 intro H k;refine Jv ?_;refine QG ?_
 repeat refine Q6 ?_
 refine QZ ?_;refine Jv ?_;refine QG ?_
 repeat refine Q6 ?_
 exact k):G:=h H k
theorem Bf (H:Q0 w l) (k:K) (h:Q0 w l→K→G:=by
 intro H k
 repeat refine Q6 ?_
 refine QZ ?_;refine Jv ?_;refine QG ?_
 repeat refine Q6 ?_
 refine QZ ?_;refine Jv ?_;refine Q5 rfl (Gt rfl rfl (.inl rfl) rfl ?_);refine QG ?_
 repeat refine Q6 ?_
 refine VM rfl (QD ?_);exact k):G:=h H k
theorem Bg (H:Q0 w l) (k:K) (h:Q0 w l→K→G:=by
 intro H k
 repeat refine Q6 ?_
 refine VM rfl (QD ?_)
 repeat refine Q6 ?_
 refine QZ ?_;refine Jv ?_;refine Jv ?_;refine QG ?_;exact k):G:=h H k
theorem Bh (H:Q0 w l) (k:K) (h:Q0 w l→K→G:=by
 intro H k;refine Jv ?_;refine Jv ?_;refine Jv ?_;refine Jv ?_;refine Jv ?_;exact k):G:=h H k
theorem Bi (H:Q0 w l) (k:K) (h:Q0 w l→K→G:=by
 intro H k;refine Ja 9 ?_;refine Ja 10 ?_;refine Jf 11 ?_;exact k):G:=h H k
theorem Bj (H:Q0 w l) (k:K) (h:Q0 w l→K→G:=by
 intro H k;refine Jx H ?_
 repeat refine Q6 ?_
 refine QZ ?_;refine Jv ?_;refine QG ?_;exact k):G:=h H k
theorem Bk (H:Q0 w l) (k:K) (h:Q0 w l→K→G:=by
 intro H k
 repeat refine Q6 ?_
 refine QZ ?_;refine Jv ?_;refine Jv ?_;refine QG ?_
 repeat refine Q6 ?_
 exact k):G:=h H k
theorem Bl (H:Q0 w l) (k:K) (h:Q0 w l→K→G:=by
 intro H k
 first|refine Jv ?_|refine Up rfl rfl ?_
 refine Jv ?_;refine Jv ?_;refine Jv ?_;refine Jv ?_;refine QG ?_
 repeat refine Q6 ?_
 refine QZ ?_;refine Jv ?_;refine Jv ?_;refine QG ?_;exact k):G:=h H k
theorem Bm (H:Q0 w l) (k:K) (h:Q0 w l→K→G:=by
 intro H k;refine Qw rfl rfl rfl ?_;refine Qw rfl rfl rfl ?_;refine Qw rfl rfl rfl ?_;refine Qw rfl rfl rfl ?_;refine Qw rfl rfl rfl ?_;refine Qw rfl rfl rfl ?_;refine Qw rfl rfl rfl ?_;exact k):G:=h H k
theorem Bn (H:Q0 w l) (k:K) (h:Q0 w l→K→G:=by
 intro H k
 repeat refine Q6 ?_
 refine QZ ?_;refine Q5 rfl (VR rfl rfl ?_);refine Q5 rfl (QB H rfl rfl rfl ?_);refine Q5 rfl (VR rfl rfl ?_);refine Q5 rfl (QB H rfl rfl rfl ?_);exact k):G:=h H k
theorem Bo (H:Q0 w l) (k:K) (h:Q0 w l→K→G:=by
 intro H k;refine Ja 6 ?_;refine Ja 7 ?_;refine Ja 8 ?_;refine Ja 9 ?_;exact k):G:=h H k
theorem Bp (H:Q0 w l) (k:K) (h:Q0 w l→K→G:=by
 intro H k;refine Jv ?_;refine Qw rfl rfl rfl ?_;refine Qw rfl rfl rfl ?_;refine Qw rfl rfl rfl ?_;refine Qw rfl rfl rfl ?_;refine Qw rfl rfl rfl ?_;refine Qw rfl rfl rfl ?_;refine Qw rfl rfl rfl ?_;exact k):G:=h H k
theorem Bq (H:Q0 w l) (k:K) (h:Q0 w l→K→G:=by
 intro H k
 repeat refine Q6 ?_
 refine QZ ?_;refine Jv ?_;refine Jv ?_;refine Jv ?_;refine QG ?_
 repeat refine Q6 ?_
 exact k):G:=h H k
theorem Br (H:Q0 w l) (k:K) (h:Q0 w l→K→G:=by
 intro H k;refine Jv ?_;refine VU rfl rfl rfl rfl ?_;refine VU rfl rfl rfl rfl ?_;refine VU rfl rfl rfl rfl ?_;exact k):G:=h H k
theorem Bs (H:Q0 w l) (k:K) (h:Q0 w l→K→G:=by
 intro H k
 repeat refine Q6 ?_
 refine QZ ?_;refine Jv ?_;refine QG ?_
 repeat refine Q6 ?_
 refine QZ ?_;exact k):G:=h H k
theorem Bt (H:Q0 w l) (k:K) (h:Q0 w l→K→G:=by
 intro H k;refine Ja 0 ?_;refine Ja 1 ?_;refine Jf 2 ?_;refine Jl 3 [6] H ?_;exact k):G:=h H k
theorem Bu (H:Q0 w l) (k:K) (h:Q0 w l→K→G:=by
 intro H k;refine VB 5 [6] H rfl (Q7.none rfl) rfl (by repeat first|exact .nil _|apply Q9.cons rfl) (by kernel_rfl) ?_;refine Jo 6 H ?_;exact k):G:=h H k
theorem Bv (H:Q0 w l) (k:K) (h:Q0 w l→K→G:=by
 intro H k
 repeat refine Q6 ?_
 refine VM rfl ?_;exact k):G:=h H k
theorem Bw (H:Q0 w l) (k:K) (h:Q0 w l→K→G:=by
 intro H k;refine Jv ?_;refine Jv ?_;refine QG ?_
 repeat refine Q6 ?_
 refine QZ ?_;refine Jv ?_;refine Jv ?_;refine QG ?_
 repeat refine Q6 ?_
 refine VM rfl (QD ?_);exact k):G:=h H k
theorem Bx (H:Q0 w l) (k:K) (h:Q0 w l→K→G:=by
 intro H k;refine Q5 rfl (ZJ rfl rfl ?_);refine Jv ?_;refine QG ?_
 repeat refine Q6 ?_
 exact k):G:=h H k
theorem By (H:Q0 w l) (k:K) (h:Q0 w l→K→G:=by
 intro H k;refine QG ?_
 repeat refine Q6 ?_
 refine QZ ?_;refine Jv ?_;exact k):G:=h H k
theorem Bz (H:Q0 w l) (k:K) (h:Q0 w l→K→G:=by
 intro H k
 repeat refine Q6 ?_
 refine VM rfl (QD ?_)
 repeat refine Q6 ?_
 refine W9 H mixed ?_;exact k):G:=h H k
theorem C0 (H:Q0 w l) (k:K) (h:Q0 w l→K→G:=by
 intro H k
 repeat refine Q6 ?_
 refine Vp rfl ?_
 repeat refine Q6 ?_
 refine QZ ?_;refine Q5 rfl (UE rfl rfl ?_);refine Jv ?_;refine Q5 rfl (Z0 H rfl rfl inferInstance rfl rfl (Nat.le_of_ble_eq_true rfl) rfl ?_);exact k):G:=h H k
theorem C1 (H:Q0 w l) (k:K) (h:Q0 w l→K→G:=by
 intro H k;refine Jv ?_;refine QG ?_
 repeat refine Q6 ?_
 refine QZ ?_;refine Jv ?_;refine Jv ?_;refine QG ?_
 repeat refine Q6 ?_
 refine Vp rfl ?_
 repeat refine Q6 ?_
 refine QZ ?_;refine Jv ?_;refine Jv ?_;refine QG ?_;exact k):G:=h H k
theorem C2 (H:Q0 w l) (k:K) (h:Q0 w l→K→G:=by
 intro H k;refine Jo 11 H ?_;refine VN H rfl ?_;exact k):G:=h H k
theorem C3 (H:Q0 w l) (k:K) (h:Q0 w l→K→G:=by
 intro H k;refine Ja 0 ?_;refine Ja 1 ?_;refine Jf 2 ?_;refine Jl 3 [8] H ?_;exact k):G:=h H k
theorem C4 (H:Q0 w l) (k:K) (h:Q0 w l→K→G:=by
 intro H k
 repeat refine Q6 ?_
 refine QZ ?_;refine Q5 rfl (QB H rfl rfl rfl ?_);refine Q5 rfl (QB H rfl rfl rfl ?_);exact k):G:=h H k
theorem C5 (H:Q0 w l) (k:K) (h:Q0 w l→K→G:=by
 intro H k;refine Ja 11 ?_;refine Ja 12 ?_;refine Ja 13 ?_;exact k):G:=h H k
theorem C6 (H:Q0 w l) (k:K) (h:Q0 w l→K→G:=by
 intro H k;refine Jv ?_;refine QG ?_
 repeat refine Q6 ?_
 refine QZ ?_;refine Jv ?_;refine Jv ?_;refine Jv ?_;refine QG ?_;exact k):G:=h H k
theorem C7 (H:Q0 w l) (k:K) (h:Q0 w l→K→G:=by
 intro H k
 repeat refine Q6 ?_
 refine QP ?_
 repeat refine Q6 ?_
 refine W9 H mixed ?_;exact k):G:=h H k
theorem C8 (H:Q0 w l) (k:K) (h:Q0 w l→K→G:=by
 intro H k;refine Jv ?_;refine Q5 rfl (VR rfl rfl ?_);refine Q5 rfl (QB H rfl rfl rfl ?_);refine Jv ?_;exact k):G:=h H k
theorem C9 (H:Q0 w l) (k:K) (h:Q0 w l→K→G:=by
 intro H k
 repeat refine Q6 ?_
 refine QZ ?_;refine Jv ?_;refine Jv ?_;refine QG ?_
 repeat refine Q6 ?_
 refine QZ ?_;refine Jv ?_;refine Jv ?_;refine Q5 rfl (VR rfl rfl ?_);refine Q5 rfl (QB H rfl rfl rfl ?_);refine Jv ?_;exact k):G:=h H k
theorem CQ (H:Q0 w l) (k:K) (h:Q0 w l→K→G:=by
 intro H k;refine Q5 rfl (Yh H rfl rfl inferInstance rfl (Nat.le_of_ble_eq_true rfl) rfl ?_);exact k):G:=h H k
theorem CV (H:Q0 w l) (k:K) (h:Q0 w l→K→G:=by
 intro H k;refine QT rfl rfl rfl (VA H rfl (by repeat first|exact .nil _|apply Q9.cons rfl) rfl ?_);refine QT rfl rfl rfl (UE rfl rfl ?_);exact k):G:=h H k
theorem CY (H:Q0 w l) (k:K) (h:Q0 w l→K→G:=by
 intro H k;refine Jv ?_;refine QG ?_
 repeat refine Q6 ?_
 refine VM rfl ?_
 repeat refine Q6 ?_
 refine QZ ?_;refine Jv ?_;refine Jv ?_;exact k):G:=h H k
theorem CZ (H:Q0 w l) (k:K) (h:Q0 w l→K→G:=by
 intro H k;refine Q5 rfl (VR rfl rfl ?_);refine Q5 rfl (VA H rfl (by repeat first|exact .nil _|apply Q9.cons rfl) rfl ?_);exact k):G:=h H k
theorem CG (H:Q0 w l) (k:K) (h:Q0 w l→K→G:=by
 intro H k;refine Ja 0 ?_;refine Ja 1 ?_;refine Jf 2 ?_;refine Jl 3 [7] H ?_;refine Ja 4 ?_;refine Jf 5 ?_;refine Jl 6 [7] H ?_;refine Jo 7 H ?_;exact k):G:=h H k
theorem DN (H:Q0 w l) (k:K) (h:Q0 w l→K→G:=by
 intro H k
 repeat refine Q6 ?_
 refine QZ ?_;refine Jv ?_;refine Jv ?_;refine QG ?_
 repeat refine Q6 ?_
 refine QZ ?_;refine Jv ?_;exact k):G:=h H k
theorem DO (H:Q0 w l) (k:K) (h:Q0 w l→K→G:=by
 intro H k;refine Q5 rfl (ZJ rfl rfl ?_);refine Jv ?_;exact k):G:=h H k
theorem DP (H:Q0 w l) (k:K) (h:Q0 w l→K→G:=by
 intro H k;refine Jv ?_;refine Q5 rfl (Z0 H rfl rfl inferInstance rfl rfl (Nat.le_of_ble_eq_true rfl) rfl ?_);exact k):G:=h H k
theorem DS (H:Q0 w l) (k:K) (h:Q0 w l→K→G:=by
 intro H k
 repeat refine Q6 ?_
 refine QZ ?_;refine Jv ?_;refine QG ?_
 repeat refine Q6 ?_
 refine QZ ?_;refine Q5 rfl (UE rfl rfl ?_);exact k):G:=h H k
theorem DT (H:Q0 w l) (k:K) (h:Q0 w l→K→G:=by
 intro H k;refine U8 3 rfl (Q7.none rfl) rfl (by kernel_rfl) ?_;exact k):G:=h H k
theorem Da (H:Q0 w l) (k:K) (h:Q0 w l→K→G:=by
 intro H k;refine Jv ?_;refine QG ?_
 repeat refine Q6 ?_
 refine QZ ?_;refine Jv ?_;exact k):G:=h H k
theorem Db (H:Q0 w l) (k:K) (h:Q0 w l→K→G:=by
 intro H k;refine Jv ?_;refine Jv ?_;refine Jv ?_;refine Jv ?_;refine Jv ?_;refine QG ?_
 repeat refine Q6 ?_
 refine W9 H mixed ?_;exact k):G:=h H k
theorem Dc (H:Q0 w l) (k:K) (h:Q0 w l→K→G:=by
 intro H k;refine VU rfl rfl rfl rfl ?_;refine VU rfl rfl rfl rfl ?_;refine Jv ?_;refine Jv ?_;exact k):G:=h H k
theorem Dd (H:Q0 w l) (k:K) (h:Q0 w l→K→G:=by
 intro H k;refine Ja 10 ?_;refine Ja 11 ?_;refine Jx H ?_;exact k):G:=h H k
theorem De (H:Q0 w l) (k:K) (h:Q0 w l→K→G:=by
 intro H k;refine Ja 5 ?_;refine Ja 6 ?_;refine Jf 7 ?_;exact k):G:=h H k
theorem Df (H:Q0 w l) (k:K) (h:Q0 w l→K→G:=by
 intro H k;refine VU rfl rfl rfl rfl ?_;refine Jv ?_;refine QG ?_;exact k):G:=h H k
theorem Dg (H:Q0 w l) (k:K) (h:Q0 w l→K→G:=by
 intro H k;refine VU rfl rfl rfl rfl ?_;refine VU rfl rfl rfl rfl ?_;refine VU rfl rfl rfl rfl ?_;refine QT rfl rfl rfl (VR rfl rfl ?_);refine QT rfl rfl rfl (QB H rfl rfl rfl ?_);refine QT rfl rfl rfl (ZJ rfl rfl ?_);refine VU rfl rfl rfl rfl ?_;exact k):G:=h H k
theorem Dh (H:Q0 w l) (k:K) (h:Q0 w l→K→G:=by
 intro H k
 repeat refine Q6 ?_
 refine QZ ?_;refine Jv ?_;refine Jv ?_;refine QG ?_
 repeat refine Q6 ?_
 refine QZ ?_;refine Jv ?_;refine Q5 rfl (Gt rfl rfl (.inl rfl) rfl ?_);refine QG ?_
 repeat refine Q6 ?_
 refine VM rfl (QD ?_);exact k):G:=h H k
theorem Di (H:Q0 w l) (k:K) (h:Q0 w l→K→G:=by
 intro H k
 repeat refine Q6 ?_
 refine QZ ?_;refine Jv ?_;refine QG ?_
 repeat refine Q6 ?_
 refine QZ ?_;refine Jv ?_;refine Q5 rfl (Gt rfl rfl (.inl rfl) rfl ?_);refine QG ?_
 repeat refine Q6 ?_
 refine VM rfl (QD ?_)
 repeat refine Q6 ?_
 refine QZ ?_;refine Jv ?_;refine Jv ?_;exact k):G:=h H k
theorem Dj (H:Q0 w l) (k:K) (h:Q0 w l→K→G:=by
 intro H k;refine Ja 4 ?_;refine Ja 5 ?_;refine Ja 6 ?_;refine Jf 7 ?_;exact k):G:=h H k
theorem Dk (H:Q0 w l) (k:K) (h:Q0 w l→K→G:=by
 intro H k;refine Jv ?_;refine Qw rfl rfl rfl ?_;refine Qw rfl rfl rfl ?_;refine Qw rfl rfl rfl ?_;exact k):G:=h H k
theorem Dm (H:Q0 w l) (k:K) (h:Q0 w l→K→G:=by
 intro H k;refine Xm rfl rfl ?_;refine Xm rfl rfl ?_;refine Xm rfl rfl ?_;refine Qw rfl rfl rfl ?_;exact k):G:=h H k
theorem Dn (H:Q0 w l) (k:K) (h:Q0 w l→K→G:=by
 intro H k;refine Jv ?_;refine Jv ?_;refine Qw rfl rfl rfl ?_;refine Qw rfl rfl rfl ?_;refine Qw rfl rfl rfl ?_;exact k):G:=h H k
theorem Dp (H:Q0 w l) (k:K) (h:Q0 w l→K→G:=by
 intro H k;refine Xm rfl rfl ?_;refine Xm rfl rfl ?_;refine Xm rfl rfl ?_;refine Qw rfl rfl rfl ?_;refine Jv ?_;refine Jv ?_;refine QG ?_;exact k):G:=h H k
theorem Dq (H:Q0 w l) (k:K) (h:Q0 w l→K→G:=by
 intro H k;refine VU rfl rfl rfl rfl ?_;refine QT rfl rfl rfl (VR rfl rfl ?_);refine QT rfl rfl rfl (QB H rfl rfl rfl ?_);refine VU rfl rfl rfl rfl ?_;exact k):G:=h H k
theorem Dr (H:Q0 w l) (k:K) (h:Q0 w l→K→G:=by
 intro H k;refine Q5 rfl (VR rfl rfl ?_);refine Q5 rfl (QB H rfl rfl rfl ?_);refine Jv ?_;refine Jv ?_;exact k):G:=h H k
theorem Dt (H:Q0 w l) (k:K) (h:Q0 w l→K→G:=by
 intro H k;refine Jv ?_;refine QG ?_
 repeat refine Q6 ?_
 refine QZ ?_;refine Jv ?_;refine Q5 rfl (ZJ rfl rfl ?_);refine Jv ?_;refine QG ?_;exact k):G:=h H k
theorem Du (H:Q0 w l) (k:K) (h:Q0 w l→K→G:=by
 intro H k
 repeat refine Q6 ?_
 refine QZ ?_;refine Jv ?_;refine Jv ?_;refine Q5 rfl (VR rfl rfl ?_);refine Q5 rfl (QB H rfl rfl rfl ?_);refine Q5 rfl (ZJ rfl rfl ?_);exact k):G:=h H k
theorem Dv (H:Q0 w l) (k:K) (h:Q0 w l→K→G:=by
 intro H k;refine QP ?_
 repeat refine Q6 ?_
 refine QZ ?_;refine Jv ?_;refine Q5 rfl (Gt rfl rfl (.inl rfl) rfl ?_);refine Jv ?_;refine QG ?_
 repeat refine Q6 ?_
 refine VM rfl ?_
 repeat refine Q6 ?_
 refine QZ ?_;refine Jv ?_;refine Jv ?_;exact k):G:=h H k
theorem Dw (H:Q0 w l) (k:K) (h:Q0 w l→K→G:=by
 intro H k;refine Jv ?_;refine Jv ?_;refine QG ?_
 repeat refine Q6 ?_
 refine Vp rfl ?_
 repeat refine Q6 ?_
 refine QZ ?_;refine Q5 rfl (UE rfl rfl ?_);refine Q5 rfl (Z0 H rfl rfl inferInstance rfl rfl (Nat.le_of_ble_eq_true rfl) rfl ?_);exact k):G:=h H k
theorem Dx (H:Q0 w l) (k:K) (h:Q0 w l→K→G:=by
 intro H k;refine Jv ?_;refine Jv ?_;refine QG ?_
 repeat refine Q6 ?_
 refine QZ ?_;refine Jv ?_;refine Q5 rfl (Gt rfl rfl (.inl rfl) rfl ?_);refine QG ?_
 repeat refine Q6 ?_
 refine VM rfl (QD ?_);exact k):G:=h H k
theorem Dy (H:Q0 w l) (k:K) (h:Q0 w l→K→G:=by
 intro H k;refine Ja 0 ?_;refine Ja 1 ?_;refine Jf 2 ?_;refine Jl 3 [5] H ?_;refine VB 4 [5] H rfl (Q7.none rfl) rfl (by repeat first|exact .nil _|apply Q9.cons rfl) (by kernel_rfl) ?_;refine Jo 5 H ?_;exact k):G:=h H k
theorem Dz (H:Q0 w l) (k:K) (h:Q0 w l→K→G:=by
 intro H k;refine VB 6 [7] H rfl (Q7.none rfl) rfl (by repeat first|exact .nil _|apply Q9.cons rfl) (by kernel_rfl) ?_;refine Jo 7 H ?_;exact k):G:=h H k
theorem E0 (H:Q0 w l) (k:K) (h:Q0 w l→K→G:=by
 intro H k;refine VB 4 [6] H rfl (Q7.none rfl) rfl (by repeat first|exact .nil _|apply Q9.cons rfl) (by kernel_rfl) ?_;exact k):G:=h H k
theorem E1 (H:Q0 w l) (k:K) (h:Q0 w l→K→G:=by
 intro H k;refine Jv ?_;refine Jv ?_;refine QG ?_
 repeat refine Q6 ?_
 refine Vp rfl ?_
 repeat refine Q6 ?_
 refine QZ ?_;refine Jv ?_;refine QG ?_;exact k):G:=h H k
theorem E2 (H:Q0 w l) (k:K) (h:Q0 w l→K→G:=by
 intro H k;refine Jv ?_;refine Qw rfl rfl rfl ?_;refine Qw rfl rfl rfl ?_;refine Qw rfl rfl rfl ?_;refine Qw rfl rfl rfl ?_;exact k):G:=h H k
theorem E3 (H:Q0 w l) (k:K) (h:Q0 w l→K→G:=by
 intro H k;refine Ja 0 ?_;refine Ja 1 ?_;refine Jf 2 ?_;refine Jl 3 [9] H ?_;exact k):G:=h H k
theorem E4 (H:Q0 w l) (k:K) (h:Q0 w l→K→G:=by
 intro H k;refine Ja 4 ?_;refine Ja 5 ?_;refine Jf 6 ?_;exact k):G:=h H k
theorem E5 (H:Q0 w l) (k:K) (h:Q0 w l→K→G:=by
 intro H k;refine Ja 4 ?_;refine Ja 5 ?_;refine Jf 6 ?_;refine Jl 7 [] H ?_;exact k):G:=h H k
theorem E6 (H:Q0 w l) (k:K) (h:Q0 w l→K→G:=by
 intro H k;refine Jv ?_;refine QG ?_
 repeat refine Q6 ?_
 refine QZ ?_;refine Jv ?_;refine Jv ?_;refine Jv ?_;exact k):G:=h H k
theorem E7 (H:Q0 w l) (k:K) (h:Q0 w l→K→G:=by
 intro H k
 repeat refine Q6 ?_
 refine Vp rfl ?_
 repeat refine Q6 ?_
 refine QZ ?_;refine Jv ?_;refine Jv ?_;refine Jv ?_;refine QG ?_;exact k):G:=h H k
theorem E8 (H:Q0 w l) (k:K) (h:Q0 w l→K→G:=by
 intro H k;refine QT rfl rfl rfl (Gt rfl rfl (.inl rfl) rfl ?_);refine Jv ?_;refine QG ?_
 repeat refine Q6 ?_
 refine VM rfl (QD ?_);exact k):G:=h H k
theorem E9 (H:Q0 w l) (k:K) (h:Q0 w l→K→G:=by
 intro H k;refine Ja 0 ?_;refine Ja 1 ?_;refine Jf 2 ?_;refine Jl 3 [6,11] H ?_;refine Jf 4 ?_;exact k):G:=h H k
theorem EQ (H:Q0 w l) (k:K) (h:Q0 w l→K→G:=by
 intro H k;refine Ja 7 ?_;refine Ja 8 ?_;refine Ja 9 ?_;refine Jo 10 H ?_;refine VN H rfl ?_;exact k):G:=h H k
theorem EV (H:Q0 w l) (k:K) (h:Q0 w l→K→G:=by
 intro H k;refine Ja 7 ?_;refine Ja 8 ?_;refine Ja 9 ?_;refine Jo 11 H ?_;refine Z0 H rfl rfl inferInstance rfl rfl (Nat.le_of_ble_eq_true rfl) rfl ?_;exact k):G:=h H k
theorem EY (H:Q0 w l) (k:K) (h:Q0 w l→K→G:=by
 intro H k;refine Jv ?_;refine Jv ?_;refine Q5 rfl (Z0 H rfl rfl inferInstance rfl rfl (Nat.le_of_ble_eq_true rfl) rfl ?_);exact k):G:=h H k
theorem EZ (H:Q0 w l) (k:K) (h:Q0 w l→K→G:=by
 intro H k;refine Jv ?_;refine QG ?_
 repeat refine Q6 ?_
 refine QZ ?_;refine Jv ?_;refine Jv ?_;refine QG ?_
 repeat refine Q6 ?_
 refine VM rfl (QD ?_)
 repeat refine Q6 ?_
 refine QZ ?_;refine Jv ?_;refine Q5 rfl (VA H rfl (by repeat first|exact .nil _|apply Q9.cons rfl) rfl ?_);exact k):G:=h H k
theorem EG (H:Q0 w l) (k:K) (h:Q0 w l→K→G:=by
 intro H k
 repeat refine Q6 ?_
 refine QZ ?_;refine Jv ?_;refine Jv ?_;refine Q5 rfl (R7 H rfl rfl rfl ?_);exact k):G:=h H k
theorem EU (H:Q0 w l) (k:K) (h:Q0 w l→K→G:=by
 intro H k;refine Jn 4 ?_;refine Jn 5 ?_;refine Jn 6 ?_;refine Jn 7 ?_;refine Jn 8 ?_;refine Jn 9 ?_;refine Jn 10 ?_;refine Jn 11 ?_;exact k):G:=h H k
theorem EK (H:Q0 w l) (k:K) (h:Q0 w l→K→G:=by
 intro H k;refine Jn 14 ?_;refine Jn 15 ?_;refine Jn 16 ?_;refine Jn 17 ?_;refine Jn 18 ?_;refine Jn 19 ?_;refine Jn 20 ?_;refine Jn 21 ?_;refine Jn 22 ?_;refine Jn 23 ?_;exact k):G:=h H k
theorem ER (H:Q0 w l) (k:K) (h:Q0 w l→K→G:=by
 intro H k;refine Ja 24 ?_;refine Ja 25 ?_;refine Jn 26 ?_;refine Jn 27 ?_;refine Jn 28 ?_;refine Jn 29 ?_;refine Jn 30 ?_;refine Jn 31 ?_;refine Jn 32 ?_;refine Jn 33 ?_;refine Jn 34 ?_;refine Jn 35 ?_;refine Jn 36 ?_;refine Jn 37 ?_;refine Ja 38 ?_;refine Jx H ?_
 repeat refine Q6 ?_
 refine Vp rfl ?_
 repeat refine Q6 ?_
 refine QZ ?_;refine Jv ?_;refine Jv ?_;refine QG ?_;exact k):G:=h H k
theorem EW (H:Q0 w l) (k:K) (h:Q0 w l→K→G:=by
 intro H k
 repeat refine Q6 ?_
 refine QZ ?_;refine Jv ?_;refine Jv ?_;refine Q5 rfl (VR rfl rfl ?_);exact k):G:=h H k
theorem EA (H:Q0 w l) (k:K) (h:Q0 w l→K→G:=by
 intro H k;refine Q5 rfl (UE rfl rfl ?_);refine Q5 rfl (Z0 H rfl rfl inferInstance rfl rfl (Nat.le_of_ble_eq_true rfl) rfl ?_);exact k):G:=h H k
theorem EB (H:Q0 w l) (k:K) (h:Q0 w l→K→G:=by
 intro H k;refine QG ?_
 repeat refine Q6 ?_
 refine QZ ?_;refine Jv ?_;refine Jv ?_;refine Q5 rfl (VR rfl rfl ?_);refine Q5 rfl (QB H rfl rfl rfl ?_);refine Jv ?_;exact k):G:=h H k
theorem EC (H:Q0 w l) (k:K) (h:Q0 w l→K→G:=by
 intro H k
 repeat refine Q6 ?_
 refine QZ ?_;refine Q5 rfl (QB H rfl rfl rfl ?_);refine Q5 rfl (VA H rfl (by repeat first|exact .nil _|apply Q9.cons rfl) rfl ?_);refine Jv ?_;exact k):G:=h H k
theorem ED (H:Q0 w l) (k:K) (h:Q0 w l→K→G:=by
 intro H k;refine Jv ?_;refine QG ?_
 repeat refine Q6 ?_
 refine QZ ?_;refine Q5 rfl (QB H rfl rfl rfl ?_);refine Q5 rfl (VA H rfl (by repeat first|exact .nil _|apply Q9.cons rfl) rfl ?_);refine Jv ?_;exact k):G:=h H k
theorem EE (H:Q0 w l) (k:K) (h:Q0 w l→K→G:=by
 intro H k;refine Ja 7 ?_;refine Ja 8 ?_;refine Ja 9 ?_;refine Ja 10 ?_;exact k):G:=h H k
theorem EF (H:Q0 w l) (k:K) (h:Q0 w l→K→G:=by
 intro H k;refine QG ?_
 repeat refine Q6 ?_
 refine QZ ?_;refine Q5 rfl (VA H rfl (by repeat first|exact .nil _|apply Q9.cons rfl) rfl ?_);refine Q5 rfl (VA H rfl (by repeat first|exact .nil _|apply Q9.cons rfl) rfl ?_);refine Q5 rfl (Fv rfl rfl (.inl rfl) rfl ?_);exact k):G:=h H k
theorem EH (H:Q0 w l) (k:K) (h:Q0 w l→K→G:=by
 intro H k;refine Ja 8 ?_;refine Ja 9 ?_;refine Jf 10 ?_;exact k):G:=h H k
theorem EI (H:Q0 w l) (k:K) (h:Q0 w l→K→G:=by
 intro H k;refine Ja 10 ?_;refine Ja 11 ?_;refine Jf 12 ?_;exact k):G:=h H k
theorem EJ (H:Q0 w l) (k:K) (h:Q0 w l→K→G:=by
 intro H k
 repeat refine Q6 ?_
 refine Vp rfl ?_
 repeat refine Q6 ?_
 refine QZ ?_;refine Jv ?_;refine Jv ?_;refine Jv ?_;exact k):G:=h H k
theorem EL (H:Q0 w l) (k:K) (h:Q0 w l→K→G:=by
 intro H k;refine Ja 0 ?_;refine Ja 1 ?_;refine Ja 2 ?_;refine Ja 3 ?_;exact k):G:=h H k
theorem EM (H:Q0 w l) (k:K) (h:Q0 w l→K→G:=by
 intro H k
 repeat refine Q6 ?_
 refine QZ ?_;refine Jv ?_;refine QG ?_
 repeat refine Q6 ?_
 refine QZ ?_;refine Jv ?_;refine QG ?_
 repeat refine Q6 ?_
 refine QZ ?_;refine Jv ?_;refine QG ?_
 repeat refine Q6 ?_
 refine QP ?_;exact k):G:=h H k
theorem EN (H:Q0 w l) (k:K) (h:Q0 w l→K→G:=by
 intro H k
 repeat refine Q6 ?_
 refine QZ ?_;refine Jv ?_;refine Jv ?_;refine Q5 rfl (BR rfl rfl (.inr rfl) rfl ?_);refine QG ?_;exact k):G:=h H k
theorem EO (H:Q0 w l) (k:K) (h:Q0 w l→K→G:=by
 intro H k;refine Jv ?_;refine Q5 rfl (VR rfl rfl ?_);refine Q5 rfl (QB H rfl rfl rfl ?_);refine Jv ?_;refine Q5 rfl (BR rfl rfl (.inl rfl) rfl ?_);exact k):G:=h H k
theorem EP (H:Q0 w l) (k:K) (h:Q0 w l→K→G:=by
 intro H k;refine Jo 15 H ?_;refine Z0 H rfl rfl inferInstance rfl rfl (Nat.le_of_ble_eq_true rfl) rfl ?_;exact k):G:=h H k
theorem ES (H:Q0 w l) (k:K) (h:Q0 w l→K→G:=by
 intro H k;refine Ja 7 ?_;refine Ja 8 ?_;refine Ja 9 ?_;refine Ja 10 ?_;refine Ja 11 ?_;refine Jx H ?_
 repeat refine Q6 ?_
 refine QZ ?_;refine Jv ?_;refine Jv ?_;refine Jv ?_;refine Jv ?_;exact k):G:=h H k
theorem ET (H:Q0 w l) (k:K) (h:Q0 w l→K→G:=by
 intro H k;refine Jv ?_;refine Jv ?_;refine QT rfl rfl rfl (VR rfl rfl ?_);refine QT rfl rfl rfl (QB H rfl rfl rfl ?_);refine QT rfl rfl rfl (ZJ rfl rfl ?_);refine VU rfl rfl rfl rfl ?_;exact k):G:=h H k
theorem Ea (H:Q0 w l) (k:K) (h:Q0 w l→K→G:=by
 intro H k;refine Ja 0 ?_;refine Ja 1 ?_;refine Jf 2 ?_;refine Jl 3 [7] H ?_;refine Jf 4 ?_;refine Jl 5 [7] H ?_;refine Ja 6 ?_;refine Jo 7 H ?_;exact k):G:=h H k
theorem Eb (H:Q0 w l) (k:K) (h:Q0 w l→K→G:=by
 intro H k;refine QT rfl rfl rfl (VA H rfl (by repeat first|exact .nil _|apply Q9.cons rfl) rfl ?_);refine QT rfl rfl rfl (VA H rfl (by repeat first|exact .nil _|apply Q9.cons rfl) rfl ?_);exact k):G:=h H k
theorem Ec (H:Q0 w l) (k:K) (h:Q0 w l→K→G:=by
 intro H k;refine Ja 10 ?_;refine Ja 11 ?_;refine Ja 12 ?_;exact k):G:=h H k
theorem HB (H:Q0 w l) (k:K) (h:Q0 w l→K→G:=by
 intro H k
 first|refine Jv ?_|refine Up rfl rfl ?_
 refine Jv ?_;refine Jv ?_;refine Jv ?_;refine Jv ?_;refine QG ?_;exact k):G:=h H k
theorem HC (H:Q0 w l) (k:K) (h:Q0 w l→K→G:=by
 intro H k
 repeat refine Q6 ?_
 refine QZ ?_;refine Jv ?_;refine QG ?_
 repeat refine Q6 ?_
 refine QZ ?_;refine Jv ?_;refine QG ?_
 repeat refine Q6 ?_
 refine QP ?_;exact k):G:=h H k
theorem HD (H:Q0 w l) (k:K) (h:Q0 w l→K→G:=by
 intro H k;refine VB 5 [6,11] H rfl (Q7.none rfl) rfl (by repeat first|exact .nil _|apply Q9.cons rfl) (by kernel_rfl) ?_;exact k):G:=h H k
theorem HE (H:Q0 w l) (k:K) (h:Q0 w l→K→G:=by
 intro H k;refine VB 5 [7] H rfl (Q7.none rfl) rfl (by repeat first|exact .nil _|apply Q9.cons rfl) (by kernel_rfl) ?_;exact k):G:=h H k
theorem HF (H:Q0 w l) (k:K) (h:Q0 w l→K→G:=by
 intro H k;refine Ja 0 ?_;refine Ja 1 ?_;refine Jf 2 ?_;refine Jl 3 [6] H ?_;refine Jf 4 ?_;refine Jl 5 [6] H ?_;exact k):G:=h H k
theorem HI (H:Q0 w l) (k:K) (h:Q0 w l→K→G:=by
 intro H k;refine VB 5 [6,7,10] H rfl (Q7.none rfl) rfl (by repeat first|exact .nil _|apply Q9.cons rfl) (by kernel_rfl) ?_;exact k):G:=h H k
theorem HJ (H:Q0 w l) (k:K) (h:Q0 w l→K→G:=by
 intro H k;refine VB 4 [7,12] H rfl (Q7.none rfl) rfl (by repeat first|exact .nil _|apply Q9.cons rfl) (by kernel_rfl) ?_;exact k):G:=h H k
theorem MC (H:Q0 w l) (k:K) (h:Q0 w l→K→G:=by
 intro H k;refine VB 8 [9,14] H rfl (Q7.none rfl) rfl (by repeat first|exact .nil _|apply Q9.cons rfl) (by kernel_rfl) ?_;exact k):G:=h H k
end
end Go.SL
