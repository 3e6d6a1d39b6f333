/- Cells: what is proved on the way: every input of the statement; no condition. Texts joined: Dic FldA FldB FldC. -/
import Derived.Test.YtmjdnljneifpcaaGreatDoorBca
import Derived.Test.YtmjdnljneifpcaaGreatDoorBcb
import Derived.Test.YtmjdnljneifpcaaGreatDoorBcc
import Derived.Test.YtmjdnljneifpcaaGreatDoorBcd
set_option linter.unusedVariables false
set_option linter.unusedSimpArgs false
set_option linter.unusedSectionVars false
namespace Go.SL
open List
section
variable [Q4] {P:Program} {n:Nat} {r:Option Nat} {ops:Array Oper} {Q:YU} {ms:List Nat} {σ:QK} {w:World} {rest:List Oper} {o:Oper} {l:List Q2} {ivs:List (List Nat×(World→Prop))} {T:QK→World→Prop} {f:Nat} {L:Array Bool} {t u:TypeId} {p:String} {af:Array Edge} {g:Option (Nat×Bool)} {d:Option Tmp} {x:Operand} {G K:Prop}
theorem Jo (j:Nat) (H:Q0 w l) (k:St P n r o σ w (Any P n r ops ivs T f (L.setIfInBounds j true))) (hi:ops[j]? = some o:=by rfl) (hr:Region.ready .any ops L=[j]:=by kernel_rfl)
  (hI:Q0 w l→Vi ivs L w:=by intro H;repeat first|exact Vi.nil|refine Vi.cons (.inr (Q0.at H)) ?_|refine Vi.cons (.inr (Q0.mp H)) ?_|refine Vi.cons (.inl (by kernel_rfl)) ?_)
  (hg:Q8 ops σ o true:=by first|exact Q8.none rfl|exact Q8.of rfl rfl rfl):Any P n r ops ivs T (f+1) L σ w:=BD j hi hr (hI H) hg k
theorem Ja {op:Op} {v:Value} (i:Nat) (k:Any P n r ops ivs T f (L.setIfInBounds i true) (put σ d v) w) (hi:ops[i]? = some ⟨d,op,u,p,af,g⟩:=by rfl) (hg:Q8 ops σ ⟨d,op,u,p,af,g⟩ true:=by first|exact Q8.none rfl|exact Q8.of rfl rfl rfl) (hv:pv σ op=some v:=by rfl) (hs:YB n ops (ivs.map (·.1)) L i []=true:=by kernel_rfl):Any P n r ops ivs T (f+1) L σ w:=GC i hi hg hv hs k
theorem Jf {s:TypeId} {fi off b i₀:Nat} (i:Nat) (k:Any P n r ops ivs T f (L.setIfInBounds i true) (put σ d (.pointer (some ⟨b,i₀+off,none⟩))) w) (hi:ops[i]? = some ⟨d,.fieldAddr s x fi,u,p,af,g⟩:=by rfl) (hg:Q8 ops σ ⟨d,.fieldAddr s x fi,u,p,af,g⟩ true:=by first|exact Q8.none rfl|exact Q8.of rfl rfl rfl) [hf:QS P s fi off] (hx:ev σ x = .pointer (some ⟨b,i₀,none⟩):=by rfl) (hs:YB n ops (ivs.map (·.1)) L i []=true:=by kernel_rfl):Any P n r ops ivs T (f+1) L σ w:=Se i hi hg hx hs k
theorem Jl {b i₀ E:Nat} {fz:Nat×Nat} {c:List Value} {v:Value} (i:Nat) (D:List Nat) (H:Q0 w l) (k:Any P n r ops ((D,fun w=>w.heap[b]? = some (.cells c.toArray E fz))::ivs) T f (L.setIfInBounds i true) (put σ d v) w) (hi:ops[i]? = some ⟨d,.load t x,u,p,af,g⟩:=by rfl) (hg:Q8 ops σ ⟨d,.load t x,u,p,af,g⟩ true:=by first|exact Q8.none rfl|exact Q8.of rfl rfl rfl) (hx:ev σ x = .pointer (some ⟨b,i₀,none⟩):=by rfl) (h1:T1 P t:=by infer_instance) (ha:At b (.cells c.toArray E fz) l:=by infer_instance) (hv:c[i₀]? = some v:=by rfl) (hs:YB n ops (ivs.map (·.1)) L i D=true:=by kernel_rfl):Any P n r ops ivs T (f+1) L σ w:=Vm i D H hi hg hx hv hs k
theorem Jn {op:Op} (i:Nat) (k:Any P n r ops ivs T f (L.setIfInBounds i true) (put σ d undef) w) (hi:ops[i]? = some ⟨d,op,u,p,af,g⟩:=by rfl) (hg:Q8 ops σ ⟨d,op,u,p,af,g⟩ false:=by first|exact Q8.of rfl rfl rfl|exact Q8.skip rfl rfl) (hf:∀ c,op ≠ .defer c:=by intro c e;cases e) (hs:YB n ops (ivs.map (·.1)) L i []=true:=by kernel_rfl):Any P n r ops ivs T (f+1) L σ w:=SF i hi hg hf hs k
theorem Ji {e size bytes b o len cap:Nat} {q:IntKind} {i:Int} {ix:Operand} (j:Nat) (k:Any P n r ops ivs T f (L.setIfInBounds j true) (put σ d (.pointer (some ⟨b,o+i.toNat*size,none⟩))) w) (hj:ops[j]? = some ⟨d,.indexAddr t x ix,u,p,af,g⟩:=by rfl) (hg:Q8 ops σ ⟨d,.indexAddr t x ix,u,p,af,g⟩ true:=by first|exact Q8.none rfl|exact Q8.of rfl rfl rfl) [hT:VH P t e size bytes] (hx:ev σ x = .slice (some ⟨b,o,none⟩) len cap:=by rfl) (hi:ev σ ix = .int q i:=by rfl) (h0:0≤i:=by omega) (h1:i < len:=by omega) (hs:YB n ops (ivs.map (·.1)) L j []=true:=by kernel_rfl):Any P n r ops ivs T (f+1) L σ w:=R8 j hj hg hx hi h0 h1 hs k
theorem Jd {e size bytes b o len cap:Nat} {q:IntKind} {i:Int} {ix:Operand} (k:Lp P n r ops Q rest ms (put σ d (.pointer (some ⟨b,o+i.toNat*size,none⟩))) w) [hT:VH P t e size bytes] (hx:ev σ x = .slice (some ⟨b,o,none⟩) len cap:=by rfl) (hi:ev σ ix = .int q i:=by rfl) (h0:0≤i:=by omega) (h1:i < len:=by omega) (hd:Qj n d=true:=by rfl):Lp P n r ops Q (⟨d,.indexAddr t x ix,u,p,af,none⟩::rest) ms σ w:=Q5 rfl (GF hx hi h0 h1 hd k)
theorem Jv {op:Op} {v:Value} (k:Lp P n r ops Q rest ms (put σ d v) w) (h:pv σ op=some v:=by rfl) (hd:Qj n d=true:=by rfl):Lp P n r ops Q (⟨d,op,u,p,af,none⟩::rest) ms σ w:=UD h hd k
theorem Jx (H:Q0 w l) (k:T σ w) (hr:Region.ready .any ops L=[]:=by kernel_rfl) (hI:Q0 w l→Vi ivs L w:=by intro H;repeat first|exact Vi.nil|refine Vi.cons (.inr (Q0.at H)) ?_|refine Vi.cons (.inr (Q0.mp H)) ?_|refine Vi.cons (.inl (by kernel_rfl)) ?_):Any P n r ops ivs T f L σ w:=Fz hr (hI H) k
theorem Jw {o o':Oper} (i j:Nat) (H:Q0 w l) (hi:ops[i]? = some o) (hj:ops[j]? = some o') (k:St P n r o σ w (Any P n r ops ivs T f (L.setIfInBounds i true))) (k':St P n r o' σ w (Any P n r ops ivs T f (L.setIfInBounds j true))) (hr:Region.ready .any ops L=[i,j]:=by kernel_rfl) (hI:Q0 w l→Vi ivs L w:=by intro H;repeat first|exact Vi.nil|refine Vi.cons (.inr (Q0.at H)) ?_|refine Vi.cons (.inr (Q0.mp H)) ?_|refine Vi.cons (.inl (by kernel_rfl)) ?_) (hg:Q8 ops σ o true:=by first|exact Q8.none rfl|exact Q8.of rfl rfl rfl) (hg':Q8 ops σ o' true:=by first|exact Q8.none rfl|exact Q8.of rfl rfl rfl):Any P n r ops ivs T (f+1) L σ w:=Sy i j hi hj hr (hI H) hg hg' k k'
theorem Jk {f:FuncId} {K:QK→World→Prop} {xs:List Operand} {ts:Array TypeId} {R:Value→World→Prop} (hx:ev σ x = .func (.func f) #[] #[]) [hb:QQ P f] (hd:Qj n d=true) (s:Calls P f (xs.map (ev σ)).toArray w (ret R)) (k:∀ v w',R v w'→K (put σ d v) w') :
  St P n r ⟨d,.call { callee := .value x,args:=xs.toArray,argTypes:=ts },u,p,af,g⟩ σ w K:=V1 (a:=[]) (b:=[]) hx hd (by rw[nil_append,append_nil];exact call s k)
theorem Jc {f:FuncId} {xs:List Operand} {ts:Array TypeId} {R:Value→World→Prop} (hx:ev σ x = .func (.func f) #[] #[]) [hb:QQ P f] (hd:Qj n d=true) (s:Calls P f (xs.map (ev σ)).toArray w (ret R)) (k:∀ v w',R v w'→Lp P n r ops Q rest ms (put σ d v) w') :
  Lp P n r ops Q (⟨d,.call { callee := .value x,args:=xs.toArray,argTypes:=ts },u,p,af,none⟩::rest) ms σ w:=Q5 rfl (Jk hx hd s k)
theorem Js {l':List Q2} (is:List Nat) (m:Nat) (H:Q0 w l) (h:Q0 w (sel is m l)→Q0 w l':=by intro H;dsimp only[SL.sel,SL.pull,List.drop] at H;exact H):Q0 w l':=h (H.sel is m)
theorem Jy {fn:Func} {R:Value→World→Prop} {e:Exit} {vs:List Value} (H:Q0 w l) (h:XG σ fn.results.toList=some vs) (hr:∀ w',Q0 w' l→R (KX vs) w') (he:e = .normal∨e = .ret:=by first|exact .inr rfl|exact .inl rfl):R4 P n fn R e [] σ w:=YV _ he H h hr
theorem Jz {fn:Func} {R:Value→World→Prop} {e:Exit} {vs:List Value} (H:Q0 w l) (h:∀ w',Q0 w' l→GI P σ w' fn.results.toList vs) (hr:∀ w',Q0 w' l→R (KX vs) w') (he:e = .normal∨e = .ret:=by first|exact .inr rfl|exact .inl rfl):R4 P n fn R e [] σ w:=BJ _ he H h hr
theorem J0 (H:Q0 w l) (k:K) (h:Q0 w l→K→G:=by
 intro H k;refine Jv ?_;refine QG ?_;exact k):G:=h H k
theorem J1 (H:Q0 w l) (k:K) (h:Q0 w l→K→G:=by
 intro H k
 repeat refine Q6 ?_
 refine RZ H mixed ?_;exact k):G:=h H k
theorem J2 (H:Q0 w l) (k:K) (h:Q0 w l→K→G:=by
 intro H k;refine QG ?_;exact k):G:=h H k
theorem J3 (H:Q0 w l) (k:K) (h:Q0 w l→K→G:=by
 intro H k;refine Jv ?_;refine Jv ?_;refine QG ?_;exact k):G:=h H k
theorem J4 (H:Q0 w l) (k:K) (h:Q0 w l→K→G:=by
 intro H k;refine Q5 rfl (ZN H rfl rfl inferInstance rfl rfl (Nat.le_of_ble_eq_true rfl) rfl ?_);exact k):G:=h H k
theorem J5 (H:Q0 w l) (k:K) (h:Q0 w l→K→G:=by
 intro H k
 repeat refine Q6 ?_
 refine QZ ?_;refine Jv ?_;refine Jv ?_;refine QG ?_;exact k):G:=h H k
theorem J6 (H:Q0 w l) (k:K) (h:Q0 w l→K→G:=by
 intro H k
 repeat refine Q6 ?_
 exact k):G:=h H k
theorem J7 (H:Q0 w l) (k:K) (h:Q0 w l→K→G:=by
 intro H k
 repeat refine Q6 ?_
 refine QZ ?_;refine Jv ?_;refine QG ?_
 repeat refine Q6 ?_
 exact k):G:=h H k
theorem J8 (H:Q0 w l) (k:K) (h:Q0 w l→K→G:=by
 intro H k
 repeat refine Q6 ?_
 refine QZ ?_;refine Q5 rfl (A4 H rfl rfl ?_);exact k):G:=h H k
theorem J9 (H:Q0 w l) (k:K) (h:Q0 w l→K→G:=by
 intro H k
 repeat refine Q6 ?_
 refine QZ ?_;refine Jv ?_;refine Jv ?_;exact k):G:=h H k
theorem V6 (H:Q0 w l) (k:K) (h:Q0 w l→K→G:=by
 intro H k
 repeat refine Q6 ?_
 refine VF rfl (QB ?_);exact k):G:=h H k
theorem VQ (H:Q0 w l) (k:K) (h:Q0 w l→K→G:=by
 intro H k
 repeat refine Q6 ?_
 refine QZ ?_;refine Jv ?_;refine Jv ?_;refine Q5 rfl (V8 rfl rfl ?_);refine Q5 rfl (QR H rfl rfl rfl ?_);refine Jv ?_;exact k):G:=h H k
theorem VZ (H:Q0 w l) (k:K) (h:Q0 w l→K→G:=by
 intro H k;refine Q5 rfl (Vo H rfl ?_);exact k):G:=h H k
theorem VX (H:Q0 w l) (k:K) (h:Q0 w l→K→G:=by
 intro H k
 repeat refine Q6 ?_
 refine QZ ?_;refine Jv ?_;refine Jv ?_;refine Jv ?_;refine QG ?_;exact k):G:=h H k
theorem VB (H:Q0 w l) (k:K) (h:Q0 w l→K→G:=by
 intro H k
 repeat refine Q6 ?_
 refine QZ ?_;refine Jv ?_;refine QG ?_;exact k):G:=h H k
theorem VM (H:Q0 w l) (k:K) (h:Q0 w l→K→G:=by
 intro H k
 repeat refine Q6 ?_
 refine Vh rfl ?_;exact k):G:=h H k
theorem Vj (H:Q0 w l) (k:K) (h:Q0 w l→K→G:=by
 intro H k;refine Jv ?_;refine Jv ?_;refine Jv ?_;refine Q5 rfl (Vo H rfl ?_);exact k):G:=h H k
theorem Vp (H:Q0 w l) (k:K) (h:Q0 w l→K→G:=by
 intro H k
 repeat refine Q6 ?_
 refine QZ ?_;refine Q5 rfl (Vo H rfl ?_);exact k):G:=h H k
theorem Vq (H:Q0 w l) (k:K) (h:Q0 w l→K→G:=by
 intro H k
 repeat refine Q6 ?_
 refine QZ ?_;refine Jv ?_;refine Jv ?_;refine Jv ?_;exact k):G:=h H k
theorem Y3 (H:Q0 w l) (k:K) (h:Q0 w l→K→G:=by
 intro H k;refine Ja 0 ?_;refine Ja 1 ?_;refine Jf 2 ?_;exact k):G:=h H k
theorem Y7 (H:Q0 w l) (k:K) (h:Q0 w l→K→G:=by
 intro H k;refine Jv ?_;refine QG ?_
 repeat refine Q6 ?_
 refine VF rfl (QB ?_);exact k):G:=h H k
theorem YY (H:Q0 w l) (k:K) (h:Q0 w l→K→G:=by
 intro H k
 repeat refine Q6 ?_
 refine QZ ?_;refine Jv ?_;exact k):G:=h H k
theorem YZ (H:Q0 w l) (k:K) (h:Q0 w l→K→G:=by
 intro H k;refine Jv ?_;refine QG ?_
 repeat refine Q6 ?_
 exact k):G:=h H k
theorem YW (H:Q0 w l) (k:K) (h:Q0 w l→K→G:=by
 intro H k
 repeat refine Q6 ?_
 refine QP ?_
 repeat refine Q6 ?_
 refine QZ ?_;exact k):G:=h H k
theorem YA (H:Q0 w l) (k:K) (h:Q0 w l→K→G:=by
 intro H k;refine Jv ?_;refine QG ?_
 repeat refine Q6 ?_
 refine QZ ?_;refine Jv ?_;refine Jv ?_;refine QG ?_;exact k):G:=h H k
theorem YD (H:Q0 w l) (k:K) (h:Q0 w l→K→G:=by
 intro H k
 repeat refine Q6 ?_
 refine Vh rfl ?_
 repeat refine Q6 ?_
 refine QZ ?_;refine Jv ?_;refine QG ?_;exact k):G:=h H k
theorem YP (H:Q0 w l) (k:K) (h:Q0 w l→K→G:=by
 intro H k;refine Jv ?_;refine Jv ?_;exact k):G:=h H k
theorem Yd (H:Q0 w l) (k:K) (h:Q0 w l→K→G:=by
 intro H k
 repeat refine Q6 ?_
 refine QZ ?_;refine Jv ?_;refine Jv ?_;refine Q5 rfl (V8 rfl rfl ?_);refine Q5 rfl (QR H rfl rfl rfl ?_);exact k):G:=h H k
theorem Ym (H:Q0 w l) (k:K) (h:Q0 w l→K→G:=by
 intro H k;refine V2 rfl rfl rfl rfl ?_;exact k):G:=h H k
theorem Yn (H:Q0 w l) (k:K) (h:Q0 w l→K→G:=by
 intro H k
 repeat refine Q6 ?_
 refine Vh rfl ?_
 repeat refine Q6 ?_
 refine QZ ?_;refine Jv ?_;refine Jv ?_;refine QG ?_;exact k):G:=h H k
theorem Yv (H:Q0 w l) (k:K) (h:Q0 w l→K→G:=by
 intro H k;refine Jv ?_;refine QG ?_
 repeat refine Q6 ?_
 refine QZ ?_;refine Jv ?_;refine Jv ?_;refine QG ?_
 repeat refine Q6 ?_
 refine VF rfl (QB ?_);exact k):G:=h H k
theorem Yw (H:Q0 w l) (k:K) (h:Q0 w l→K→G:=by
 intro H k
 repeat refine Q6 ?_
 refine QZ ?_;refine Q5 rfl (M6 H rfl rfl rfl ?_);exact k):G:=h H k
theorem ZB (H:Q0 w l) (k:K) (h:Q0 w l→K→G:=by
 intro H k;refine Q5 rfl (V8 rfl rfl ?_);refine Q5 rfl (QR H rfl rfl rfl ?_);exact k):G:=h H k
theorem Zk (H:Q0 w l) (k:K) (h:Q0 w l→K→G:=by
 intro H k
 repeat refine Q6 ?_
 refine VF rfl ?_
 repeat refine Q6 ?_
 refine QZ ?_;refine Jv ?_;refine Jv ?_;refine QG ?_;exact k):G:=h H k
theorem Zl (H:Q0 w l) (k:K) (h:Q0 w l→K→G:=by
 intro H k
 repeat refine Q6 ?_
 refine QZ ?_;refine Q5 rfl (QR H rfl rfl rfl ?_);exact k):G:=h H k
theorem Zr (H:Q0 w l) (k:K) (h:Q0 w l→K→G:=by
 intro H k;refine V2 rfl rfl rfl rfl ?_;refine V2 rfl rfl rfl rfl ?_;exact k):G:=h H k
theorem Zs (H:Q0 w l) (k:K) (h:Q0 w l→K→G:=by
 intro H k;refine Jv ?_;refine Jv ?_;refine Jv ?_;refine Jv ?_;refine Jv ?_;refine QG ?_;exact k):G:=h H k
theorem G4 (H:Q0 w l) (k:K) (h:Q0 w l→K→G:=by
 intro H k;refine Jv ?_;refine Jv ?_;refine Jv ?_;refine Jv ?_;refine Jv ?_;refine QG ?_
 repeat refine Q6 ?_
 refine QZ ?_;refine Jv ?_;refine Jv ?_;refine QG ?_
 repeat refine Q6 ?_
 refine VF rfl (QB ?_);exact k):G:=h H k
theorem G5 (H:Q0 w l) (k:K) (h:Q0 w l→K→G:=by
 intro H k
 repeat refine Q6 ?_
 refine QZ ?_;exact k):G:=h H k
theorem GJ (H:Q0 w l) (k:K) (h:Q0 w l→K→G:=by
 intro H k
 repeat refine Q6 ?_
 refine QZ ?_;refine Q5 rfl (VN H rfl (by repeat first|exact .nil _|apply QV.cons rfl) rfl ?_);exact k):G:=h H k
theorem GL (H:Q0 w l) (k:K) (h:Q0 w l→K→G:=by
 intro H k
 repeat refine Q6 ?_
 refine QP ?_;exact k):G:=h H k
theorem GM (H:Q0 w l) (k:K) (h:Q0 w l→K→G:=by
 intro H k
 repeat refine Q6 ?_
 refine QZ ?_;refine Jv ?_;refine Jv ?_;refine Q5 rfl (V8 rfl rfl ?_);refine Q5 rfl (QR H rfl rfl rfl ?_);refine Jv ?_;refine Jv ?_;exact k):G:=h H k
theorem GN (H:Q0 w l) (k:K) (h:Q0 w l→K→G:=by
 intro H k;refine Q5 rfl (RY H rfl rfl rfl ?_);exact k):G:=h H k
theorem GO (H:Q0 w l) (k:K) (h:Q0 w l→K→G:=by
 intro H k;refine Jv ?_;refine Q5 rfl (V8 rfl rfl ?_);refine Q5 rfl (Yj H rfl rfl inferInstance rfl (Nat.le_of_ble_eq_true rfl) rfl ?_);exact k):G:=h H k
theorem GP (H:Q0 w l) (k:K) (h:Q0 w l→K→G:=by
 intro H k;refine Ja 11 ?_;refine Jx H ?_;exact k):G:=h H k
theorem GS (H:Q0 w l) (k:K) (h:Q0 w l→K→G:=by
 intro H k
 repeat refine Q6 ?_
 refine QZ ?_;refine Q5 rfl (QR H rfl rfl rfl ?_);refine Jv ?_;exact k):G:=h H k
theorem Gv (H:Q0 w l) (k:K) (h:Q0 w l→K→G:=by
 intro H k
 repeat refine Q6 ?_
 refine QZ ?_;refine Jv ?_;refine Q5 rfl (VN H rfl (by repeat first|exact .nil _|apply QV.cons rfl) rfl ?_);exact k):G:=h H k
theorem U8 (H:Q0 w l) (k:K) (h:Q0 w l→K→G:=by
 intro H k
 repeat refine Q6 ?_
 refine QZ ?_;refine Jv ?_;refine Jv ?_;refine QG ?_
 repeat refine Q6 ?_
 refine VF rfl (QB ?_);exact k):G:=h H k
theorem U9 (H:Q0 w l) (k:K) (h:Q0 w l→K→G:=by
 intro H k;refine ZN H rfl rfl inferInstance rfl rfl (Nat.le_of_ble_eq_true rfl) rfl ?_;exact k):G:=h H k
theorem UQ (H:Q0 w l) (k:K) (h:Q0 w l→K→G:=by
 intro H k;refine Yj H rfl rfl inferInstance rfl (Nat.le_of_ble_eq_true rfl) rfl ?_;exact k):G:=h H k
theorem UV (H:Q0 w l) (k:K) (h:Q0 w l→K→G:=by
 intro H k
 repeat refine Q6 ?_
 refine QZ ?_;refine Jv ?_;refine Q5 rfl (ZO rfl rfl ?_);refine Jv ?_;refine QG ?_;exact k):G:=h H k
theorem UJ (H:Q0 w l) (k:K) (h:Q0 w l→K→G:=by
 intro H k;refine Ja 7 ?_;refine Ja 8 ?_;refine Ja 9 ?_;refine Ja 10 ?_;refine Ja 11 ?_;refine Jx H ?_;exact k):G:=h H k
theorem UM (H:Q0 w l) (k:K) (h:Q0 w l→K→G:=by
 intro H k;refine QT rfl rfl rfl (V8 rfl rfl ?_);refine QT rfl rfl rfl (QR H rfl rfl rfl ?_);refine V2 rfl rfl rfl rfl ?_;exact k):G:=h H k
theorem UN (H:Q0 w l) (k:K) (h:Q0 w l→K→G:=by
 intro H k;refine Q5 rfl (ZO rfl rfl ?_);refine Jv ?_;refine QG ?_;exact k):G:=h H k
theorem UO (H:Q0 w l) (k:K) (h:Q0 w l→K→G:=by
 intro H k;refine Jv ?_;refine QG ?_
 repeat refine Q6 ?_
 refine Vh rfl ?_
 repeat refine Q6 ?_
 refine QZ ?_;refine Jv ?_;refine QG ?_;exact k):G:=h H k
theorem UP (H:Q0 w l) (k:K) (h:Q0 w l→K→G:=by
 intro H k;refine XR rfl rfl ?_;refine QG ?_;exact k):G:=h H k
theorem US (H:Q0 w l) (k:K) (h:Q0 w l→K→G:=by
 intro H k
 repeat refine Q6 ?_
 refine QZ ?_;refine Q5 rfl (QR H rfl rfl rfl ?_);refine Jv ?_;refine Q5 rfl (V8 rfl rfl ?_);refine Q5 rfl (QR H rfl rfl rfl ?_);refine Jv ?_;exact k):G:=h H k
theorem Us (H:Q0 w l) (k:K) (h:Q0 w l→K→G:=by
 intro H k;refine Ja 4 ?_;refine Ja 5 ?_;exact k):G:=h H k
theorem Ut (H:Q0 w l) (k:K) (h:Q0 w l→K→G:=by
 intro H k;refine Jo 11 H ?_;refine ZN H rfl rfl inferInstance rfl rfl (Nat.le_of_ble_eq_true rfl) rfl ?_;exact k):G:=h H k
theorem Uu (H:Q0 w l) (k:K) (h:Q0 w l→K→G:=by
 intro H k;refine Jv ?_;refine V2 rfl rfl rfl rfl ?_;refine V2 rfl rfl rfl rfl ?_;exact k):G:=h H k
theorem UY (H:Q0 w l) (k:K) (h:Q0 w l→K→G:=by
 intro H k;refine Q5 rfl (V8 rfl rfl ?_);refine Q5 rfl (Yj H rfl rfl inferInstance rfl (Nat.le_of_ble_eq_true rfl) rfl ?_);exact k):G:=h H k
theorem Uv (H:Q0 w l) (k:K) (h:Q0 w l→K→G:=by
 intro H k;refine QG ?_
 repeat refine Q6 ?_
 refine QZ ?_;refine Jv ?_;refine Jv ?_;refine QG ?_;exact k):G:=h H k
theorem Uw (H:Q0 w l) (k:K) (h:Q0 w l→K→G:=by
 intro H k;refine Jv ?_;refine Jv ?_;refine Jv ?_;refine Jv ?_;refine Jv ?_;refine QG ?_
 repeat refine Q6 ?_
 refine QZ ?_;refine Jv ?_;refine Jv ?_;refine QG ?_;exact k):G:=h H k
theorem Ux (H:Q0 w l) (k:K) (h:Q0 w l→K→G:=by
 intro H k;refine Ja 12 ?_;refine Jx H ?_;exact k):G:=h H k
theorem Uy (H:Q0 w l) (k:K) (h:Q0 w l→K→G:=by
 intro H k
 repeat refine Q6 ?_
 refine QZ ?_;refine Jv ?_;refine QG ?_
 repeat refine Q6 ?_
 refine QZ ?_;refine Jv ?_;refine Jv ?_;exact k):G:=h H k
theorem Uz (H:Q0 w l) (k:K) (h:Q0 w l→K→G:=by
 intro H k;refine Jo 12 H ?_;refine ZN H rfl rfl inferInstance rfl rfl (Nat.le_of_ble_eq_true rfl) rfl ?_;exact k):G:=h H k
theorem XB (H:Q0 w l) (k:K) (h:Q0 w l→K→G:=by
 intro H k;refine Q5 rfl (UE rfl rfl ?_);exact k):G:=h H k
theorem XC (H:Q0 w l) (k:K) (h:Q0 w l→K→G:=by
 intro H k;refine Q5 rfl (QR H rfl rfl rfl ?_);exact k):G:=h H k
theorem XD (H:Q0 w l) (k:K) (h:Q0 w l→K→G:=by
 intro H k;refine V2 rfl rfl rfl rfl ?_;refine V2 rfl rfl rfl rfl ?_;refine V2 rfl rfl rfl rfl ?_;exact k):G:=h H k
theorem XE (H:Q0 w l) (k:K) (h:Q0 w l→K→G:=by
 intro H k;refine Q5 rfl (UE rfl rfl ?_);refine Q5 rfl (A4 H rfl rfl ?_);exact k):G:=h H k
theorem XF (H:Q0 w l) (k:K) (h:Q0 w l→K→G:=by
 intro H k;refine Ja 0 ?_;refine Ja 1 ?_;refine Jf 2 ?_;refine Jl 3 [] H ?_;exact k):G:=h H k
theorem XH (H:Q0 w l) (k:K) (h:Q0 w l→K→G:=by
 intro H k;refine Q5 rfl (A4 H rfl rfl ?_);exact k):G:=h H k
theorem XI (H:Q0 w l) (k:K) (h:Q0 w l→K→G:=by
 intro H k;refine Jv ?_;refine Jv ?_;refine Qm rfl rfl rfl ?_;refine Qm rfl rfl rfl ?_;refine Qm rfl rfl rfl ?_;refine Qm rfl rfl rfl ?_;exact k):G:=h H k
theorem XJ (H:Q0 w l) (k:K) (h:Q0 w l→K→G:=by
 intro H k;refine Jv ?_;refine QG ?_
 repeat refine Q6 ?_
 refine Vh rfl ?_;exact k):G:=h H k
theorem XL (H:Q0 w l) (k:K) (h:Q0 w l→K→G:=by
 intro H k
 repeat refine Q6 ?_
 refine QZ ?_;refine Jv ?_;refine Jv ?_;refine QG ?_
 repeat refine Q6 ?_
 refine QZ ?_;refine Jv ?_;refine Jv ?_;exact k):G:=h H k
theorem XM (H:Q0 w l) (k:K) (h:Q0 w l→K→G:=by
 intro H k;refine Ja 8 ?_;refine Jx H ?_;exact k):G:=h H k
theorem XN (H:Q0 w l) (k:K) (h:Q0 w l→K→G:=by
 intro H k;refine Ja 1 ?_;refine Jf 2 ?_;exact k):G:=h H k
theorem Xq (H:Q0 w l) (k:K) (h:Q0 w l→K→G:=by
 intro H k
 repeat refine Q6 ?_
 refine QZ ?_;refine Q5 rfl (V8 rfl rfl ?_);refine Q5 rfl (QR H rfl rfl rfl ?_);refine Jv ?_;exact k):G:=h H k
theorem Xr (H:Q0 w l) (k:K) (h:Q0 w l→K→G:=by
 intro H k;refine V2 rfl rfl rfl rfl ?_;refine Jv ?_;refine QG ?_
 repeat refine Q6 ?_
 refine VF rfl (QB ?_);exact k):G:=h H k
theorem Xs (H:Q0 w l) (k:K) (h:Q0 w l→K→G:=by
 intro H k;refine V2 rfl rfl rfl rfl ?_;refine Jv ?_;refine Jv ?_;refine QG ?_;exact k):G:=h H k
theorem Xt (H:Q0 w l) (k:K) (h:Q0 w l→K→G:=by
 intro H k
 repeat refine Q6 ?_
 refine QZ ?_;refine Jv ?_;refine QG ?_
 repeat refine Q6 ?_
 refine QZ ?_;refine Jv ?_;refine Q5 rfl (U6 rfl rfl (.inl rfl) rfl ?_);refine QG ?_
 repeat refine Q6 ?_
 refine VF rfl (QB ?_)
 repeat refine Q6 ?_
 refine QZ ?_;refine Jv ?_;refine Jv ?_;refine Q5 rfl (V8 rfl rfl ?_);refine Q5 rfl (QR H rfl rfl rfl ?_);exact k):G:=h H k
theorem Xu (H:Q0 w l) (k:K) (h:Q0 w l→K→G:=by
 intro H k
 repeat refine Q6 ?_
 refine QZ ?_;refine Jv ?_;refine Jv ?_;refine Jv ?_;refine Jv ?_;exact k):G:=h H k
theorem Xv (H:Q0 w l) (k:K) (h:Q0 w l→K→G:=by
 intro H k;refine Vh rfl (QB ?_);exact k):G:=h H k
theorem Xw (H:Q0 w l) (k:K) (h:Q0 w l→K→G:=by
 intro H k
 repeat refine Q6 ?_
 refine QP ?_
 repeat refine Q6 ?_
 refine QZ ?_;refine Jv ?_;refine Jv ?_;exact k):G:=h H k
theorem Xx (H:Q0 w l) (k:K) (h:Q0 w l→K→G:=by
 intro H k;refine Ja 0 ?_;refine Ja 1 ?_;refine Jf 2 ?_;refine Jl 3 [6] H ?_;refine Jf 4 ?_;refine Jl 5 [6] H ?_;refine Jo 6 H ?_;exact k):G:=h H k
theorem KD (H:Q0 w l) (k:K) (h:Q0 w l→K→G:=by
 intro H k;refine QT rfl rfl rfl (V8 rfl rfl ?_);refine QT rfl rfl rfl (QR H rfl rfl rfl ?_);exact k):G:=h H k
theorem KE (H:Q0 w l) (k:K) (h:Q0 w l→K→G:=by
 intro H k;refine Jv ?_;refine Jv ?_;refine QG ?_
 repeat refine Q6 ?_
 exact k):G:=h H k
theorem KF (H:Q0 w l) (k:K) (h:Q0 w l→K→G:=by
 intro H k;refine Jv ?_;refine Jv ?_;refine QG ?_
 repeat refine Q6 ?_
 refine VF rfl ?_;exact k):G:=h H k
theorem KH (H:Q0 w l) (k:K) (h:Q0 w l→K→G:=by
 intro H k
 repeat refine Q6 ?_
 refine QZ ?_;refine Q5 rfl (VN H rfl (by repeat first|exact .nil _|apply QV.cons rfl) rfl ?_);refine Q5 rfl (ZN H rfl rfl inferInstance rfl rfl (Nat.le_of_ble_eq_true rfl) rfl ?_);exact k):G:=h H k
theorem KI (H:Q0 w l) (k:K) (h:Q0 w l→K→G:=by
 intro H k
 repeat refine Q6 ?_
 refine QZ ?_;refine Jv ?_;refine Jv ?_;refine Jv ?_;refine Jv ?_;refine Jv ?_;refine QG ?_;exact k):G:=h H k
theorem KJ (H:Q0 w l) (k:K) (h:Q0 w l→K→G:=by
 intro H k;refine VF rfl (Qq ?_);exact k):G:=h H k
theorem KL (H:Q0 w l) (k:K) (h:Q0 w l→K→G:=by
 intro H k;refine Qm rfl rfl rfl ?_;refine Qm rfl rfl rfl ?_;refine Qm rfl rfl rfl ?_;exact k):G:=h H k
theorem KM (H:Q0 w l) (k:K) (h:Q0 w l→K→G:=by
 intro H k;refine Jv ?_;refine QG ?_
 repeat refine Q6 ?_
 refine Vh rfl ?_
 repeat refine Q6 ?_
 refine QZ ?_;refine Q5 rfl (UE rfl rfl ?_);refine Q5 rfl (ZN H rfl rfl inferInstance rfl rfl (Nat.le_of_ble_eq_true rfl) rfl ?_);exact k):G:=h H k
theorem KN (H:Q0 w l) (k:K) (h:Q0 w l→K→G:=by
 intro H k;refine Jv ?_;refine V2 rfl rfl rfl rfl ?_;refine V2 rfl rfl rfl rfl ?_;refine V2 rfl rfl rfl rfl ?_;refine QT rfl rfl rfl (V8 rfl rfl ?_);refine QT rfl rfl rfl (QR H rfl rfl rfl ?_);refine QT rfl rfl rfl (ZO rfl rfl ?_);refine V2 rfl rfl rfl rfl ?_;exact k):G:=h H k
theorem KO (H:Q0 w l) (k:K) (h:Q0 w l→K→G:=by
 intro H k
 repeat refine Q6 ?_
 refine QZ ?_;refine Jv ?_;refine Jv ?_;refine Q5 rfl (ZO rfl rfl ?_);refine Jv ?_;refine QG ?_
 repeat refine Q6 ?_
 exact k):G:=h H k
theorem KP (H:Q0 w l) (k:K) (h:Q0 w l→K→G:=by
 intro H k;refine Jv ?_;refine QG ?_
 repeat refine Q6 ?_
 refine QZ ?_;refine Jv ?_;refine Q5 rfl (VN H rfl (by repeat first|exact .nil _|apply QV.cons rfl) rfl ?_);exact k):G:=h H k
theorem KS (H:Q0 w l) (k:K) (h:Q0 w l→K→G:=by
 intro H k
 repeat refine Q6 ?_
 refine QZ ?_;refine Q5 rfl (VN H rfl (by repeat first|exact .nil _|apply QV.cons rfl) rfl ?_);refine Jv ?_;refine Q5 rfl (ZN H rfl rfl inferInstance rfl rfl (Nat.le_of_ble_eq_true rfl) rfl ?_);exact k):G:=h H k
theorem KT (H:Q0 w l) (k:K) (h:Q0 w l→K→G:=by
 intro H k
 repeat refine Q6 ?_
 refine QP ?_
 repeat refine Q6 ?_
 refine QZ ?_;refine Jv ?_;refine Jv ?_;refine QG ?_;exact k):G:=h H k
theorem Ka (H:Q0 w l) (k:K) (h:Q0 w l→K→G:=by
 intro H k;refine Q5 rfl (ZO rfl rfl ?_);refine Jv ?_;refine QG ?_
 repeat refine Q6 ?_
 refine QP ?_;exact k):G:=h H k
theorem Kb (H:Q0 w l) (k:K) (h:Q0 w l→K→G:=by
 intro H k
 repeat refine Q6 ?_
 refine VF rfl (QB ?_)
 repeat refine Q6 ?_
 refine QZ ?_;refine Jv ?_;refine QG ?_;exact k):G:=h H k
theorem Kc (H:Q0 w l) (k:K) (h:Q0 w l→K→G:=by
 intro H k
 repeat refine Q6 ?_
 refine QZ ?_;refine Jv ?_;refine Jv ?_;refine Jv ?_;refine Q5 rfl (V8 rfl rfl ?_);refine Q5 rfl (QR H rfl rfl rfl ?_);refine Q5 rfl (ZO rfl rfl ?_);refine Jv ?_;refine QG ?_
 repeat refine Q6 ?_
 exact k):G:=h H k
theorem Kd (H:Q0 w l) (k:K) (h:Q0 w l→K→G:=by
 intro H k;refine Ja 12 ?_;refine Ja 13 ?_;exact k):G:=h H k
theorem Ke (H:Q0 w l) (k:K) (h:Q0 w l→K→G:=by
 intro H k;refine Q5 rfl (M6 H rfl rfl rfl ?_);exact k):G:=h H k
theorem Kf (H:Q0 w l) (k:K) (h:Q0 w l→K→G:=by
 intro H k;refine Ja 13 ?_;refine Ja 14 ?_;refine Jx H ?_;exact k):G:=h H k
theorem Kg (H:Q0 w l) (k:K) (h:Q0 w l→K→G:=by
 intro H k;refine Q5 rfl (Yj H rfl rfl inferInstance rfl (Nat.le_of_ble_eq_true rfl) rfl ?_);exact k):G:=h H k
theorem RX (H:Q0 w l) (k:K) (h:Q0 w l→K→G:=by
 intro H k;refine Jf 0 ?_;refine Jl 1 [] H ?_;refine Ja 2 ?_;exact k):G:=h H k
theorem RK (H:Q0 w l) (k:K) (h:Q0 w l→K→G:=by
 intro H k;refine Jf 4 ?_;refine Jl 5 [] H ?_;exact k):G:=h H k
theorem RR (H:Q0 w l) (k:K) (h:Q0 w l→K→G:=by
 intro H k;refine QG ?_
 repeat refine Q6 ?_
 exact k):G:=h H k
theorem RW (H:Q0 w l) (k:K) (h:Q0 w l→K→G:=by
 intro H k;refine QP ?_
 repeat refine Q6 ?_
 refine QZ ?_;refine Jv ?_;refine Q5 rfl (U6 rfl rfl (.inl rfl) rfl ?_);refine Jv ?_;refine QG ?_
 repeat refine Q6 ?_
 refine VF rfl ?_;exact k):G:=h H k
theorem RH (H:Q0 w l) (k:K) (h:Q0 w l→K→G:=by
 intro H k;refine Xp rfl rfl ?_;refine Xp rfl rfl ?_;exact k):G:=h H k
theorem RI (H:Q0 w l) (k:K) (h:Q0 w l→K→G:=by
 intro H k
 repeat refine Q6 ?_
 refine QZ ?_;refine Jv ?_;refine QG ?_
 repeat refine Q6 ?_
 refine QZ ?_;refine Jv ?_;exact k):G:=h H k
theorem RJ (H:Q0 w l) (k:K) (h:Q0 w l→K→G:=by
 intro H k;refine Ja 0 ?_;refine Ja 1 ?_;refine Ja 2 ?_;refine Jf 3 ?_;exact k):G:=h H k
theorem RL (H:Q0 w l) (k:K) (h:Q0 w l→K→G:=by
 intro H k;refine Q5 rfl (VN H rfl (by repeat first|exact .nil _|apply QV.cons rfl) rfl ?_);exact k):G:=h H k
theorem RM (H:Q0 w l) (k:K) (h:Q0 w l→K→G:=by
 intro H k;refine Ja 13 ?_;refine Jx H ?_;exact k):G:=h H k
theorem RN (H:Q0 w l) (k:K) (h:Q0 w l→K→G:=by
 intro H k;refine QG ?_
 repeat refine Q6 ?_
 refine VF rfl (QB ?_);exact k):G:=h H k
theorem RP (H:Q0 w l) (k:K) (h:Q0 w l→K→G:=by
 intro H k;refine Ja 0 ?_;refine Ja 1 ?_;refine Jf 2 ?_;refine Jl 3 [5,10] H ?_;refine VP 4 [5,10] H rfl (Q8.none rfl) rfl (by repeat first|exact .nil _|apply QV.cons rfl) (by kernel_rfl) ?_;exact k):G:=h H k
theorem RT (H:Q0 w l) (k:K) (h:Q0 w l→K→G:=by
 intro H k;refine Ja 6 ?_;refine Ja 7 ?_;refine Ja 8 ?_;refine Jo 9 H ?_;refine Vo H rfl ?_;exact k):G:=h H k
theorem Ra (H:Q0 w l) (k:K) (h:Q0 w l→K→G:=by
 intro H k;refine Jo 10 H ?_;refine ZN H rfl rfl inferInstance rfl rfl (Nat.le_of_ble_eq_true rfl) rfl ?_;exact k):G:=h H k
theorem Rb (H:Q0 w l) (k:K) (h:Q0 w l→K→G:=by
 intro H k;refine Ja 6 ?_;refine Ja 7 ?_;refine Ja 8 ?_;refine Jo 10 H ?_;refine ZN H rfl rfl inferInstance rfl rfl (Nat.le_of_ble_eq_true rfl) rfl ?_;exact k):G:=h H k
theorem Rc (H:Q0 w l) (k:K) (h:Q0 w l→K→G:=by
 intro H k;refine Ja 8 ?_;refine Ja 9 ?_;refine Ja 10 ?_;exact k):G:=h H k
theorem Rd (H:Q0 w l) (k:K) (h:Q0 w l→K→G:=by
 intro H k;refine Jv ?_;refine QG ?_
 repeat refine Q6 ?_
 refine VF rfl (QB ?_)
 repeat refine Q6 ?_
 refine QZ ?_;refine Jv ?_;refine Jv ?_;refine QG ?_;exact k):G:=h H k
theorem WZ (H:Q0 w l) (k:K) (h:Q0 w l→K→G:=by
 intro H k;refine QT rfl rfl rfl (VN H rfl (by repeat first|exact .nil _|apply QV.cons rfl) rfl ?_);exact k):G:=h H k
theorem WG (H:Q0 w l) (k:K) (h:Q0 w l→K→G:=by
 intro H k;refine Ja 0 ?_;refine Ja 1 ?_;exact k):G:=h H k
theorem WU (H:Q0 w l) (k:K) (h:Q0 w l→K→G:=by
 intro H k;refine RY H rfl rfl rfl ?_;exact k):G:=h H k
theorem WX (H:Q0 w l) (k:K) (h:Q0 w l→K→G:=by
 intro H k;refine Ja 10 ?_;refine Jx H ?_;exact k):G:=h H k
theorem WK (H:Q0 w l) (k:K) (h:Q0 w l→K→G:=by
 intro H k;refine Jv ?_;refine QG ?_
 repeat refine Q6 ?_
 refine QZ ?_;refine Q5 rfl (V8 rfl rfl ?_);refine Q5 rfl (QR H rfl rfl rfl ?_);exact k):G:=h H k
theorem WR (H:Q0 w l) (k:K) (h:Q0 w l→K→G:=by
 intro H k
 repeat refine Q6 ?_
 refine QZ ?_;refine Jv ?_;refine QG ?_
 repeat refine Q6 ?_
 refine QZ ?_;refine Jv ?_;refine Jv ?_;refine Jv ?_;exact k):G:=h H k
theorem WW (H:Q0 w l) (k:K) (h:Q0 w l→K→G:=by
 intro H k;refine QG ?_
 repeat refine Q6 ?_
 refine QZ ?_;refine Jv ?_;refine QG ?_;exact k):G:=h H k
theorem WA (H:Q0 w l) (k:K) (h:Q0 w l→K→G:=by
 intro H k
 repeat refine Q6 ?_
 refine QP ?_
 repeat refine Q6 ?_
 refine QZ ?_;refine Jv ?_;refine Jv ?_;refine Jv ?_;exact k):G:=h H k
theorem WB (H:Q0 w l) (k:K) (h:Q0 w l→K→G:=by
 intro H k;refine QG ?_
 repeat refine Q6 ?_
 refine QZ ?_;refine Jv ?_;refine Jv ?_;refine Jv ?_;refine QG ?_;exact k):G:=h H k
theorem WC (H:Q0 w l) (k:K) (h:Q0 w l→K→G:=by
 intro H k;refine Jv ?_;refine Jv ?_;refine Jv ?_;refine Jv ?_;refine Jv ?_;refine QG ?_
 repeat refine Q6 ?_
 exact k):G:=h H k
theorem WD (H:Q0 w l) (k:K) (h:Q0 w l→K→G:=by
 intro H k
 repeat refine Q6 ?_
 refine VF rfl (QB ?_)
 repeat refine Q6 ?_
 refine QZ ?_;refine Jv ?_;refine Jv ?_;refine QG ?_;exact k):G:=h H k
theorem WE (H:Q0 w l) (k:K) (h:Q0 w l→K→G:=by
 intro H k
 repeat refine Q6 ?_
 refine QZ ?_;refine Jv ?_;refine Jv ?_;refine Jv ?_;refine V2 rfl rfl rfl rfl ?_;refine V2 rfl rfl rfl rfl ?_;exact k):G:=h H k
theorem WH (H:Q0 w l) (k:K) (h:Q0 w l→K→G:=by
 intro H k;refine Jv ?_;refine Jv ?_;refine QG ?_
 repeat refine Q6 ?_
 refine VF rfl (QB ?_);exact k):G:=h H k
theorem WI (H:Q0 w l) (k:K) (h:Q0 w l→K→G:=by
 intro H k;refine Q5 rfl (V8 rfl rfl ?_);refine Q5 rfl (QR H rfl rfl rfl ?_);refine Jv ?_;refine Jv ?_;exact k):G:=h H k
theorem WJ (H:Q0 w l) (k:K) (h:Q0 w l→K→G:=by
 intro H k;refine Jv ?_;refine V2 rfl rfl rfl rfl ?_;refine V2 rfl rfl rfl rfl ?_;refine V2 rfl rfl rfl rfl ?_;exact k):G:=h H k
theorem WL (H:Q0 w l) (k:K) (h:Q0 w l→K→G:=by
 intro H k;refine QG ?_
 repeat refine Q6 ?_
 refine QZ ?_;refine Jv ?_;refine Jv ?_;exact k):G:=h H k
theorem WM (H:Q0 w l) (k:K) (h:Q0 w l→K→G:=by
 intro H k
 repeat refine Q6 ?_
 refine QZ ?_;refine Jv ?_;refine Jv ?_;refine Jv ?_;refine Jv ?_;refine QG ?_;exact k):G:=h H k
theorem WN (H:Q0 w l) (k:K) (h:Q0 w l→K→G:=by
 intro H k
 repeat refine Q6 ?_
 refine QZ ?_;refine Jv ?_;refine QG ?_
 repeat refine Q6 ?_
 refine QZ ?_;refine Jv ?_;refine Q5 rfl (U6 rfl rfl (.inl rfl) rfl ?_);refine QG ?_
 repeat refine Q6 ?_
 refine VF rfl (QB ?_)
 repeat refine Q6 ?_
 refine QZ ?_;refine Jv ?_;refine Jv ?_;refine Q5 rfl (V8 rfl rfl ?_);refine Q5 rfl (QR H rfl rfl rfl ?_);refine Jv ?_;exact k):G:=h H k
theorem WO (H:Q0 w l) (k:K) (h:Q0 w l→K→G:=by
 intro H k;refine Ja 7 ?_;refine Ja 8 ?_;refine Ja 9 ?_;refine Jo 10 H ?_;refine Vo H rfl ?_;exact k):G:=h H k
theorem WP (H:Q0 w l) (k:K) (h:Q0 w l→K→G:=by
 intro H k;refine Q5 rfl (V8 rfl rfl ?_);exact k):G:=h H k
theorem A8 (H:Q0 w l) (k:K) (h:Q0 w l→K→G:=by
 intro H k;refine Jv ?_;refine QT rfl rfl rfl (V8 rfl rfl ?_);refine QT rfl rfl rfl (QR H rfl rfl rfl ?_);refine V2 rfl rfl rfl rfl ?_;exact k):G:=h H k
theorem A9 (H:Q0 w l) (k:K) (h:Q0 w l→K→G:=by
 intro H k
 repeat refine Q6 ?_
 refine QZ ?_;refine Jv ?_;refine QG ?_
 repeat refine Q6 ?_
 refine QZ ?_;refine Jv ?_;refine Q5 rfl (ZO rfl rfl ?_);refine Jv ?_;refine QG ?_
 repeat refine Q6 ?_
 refine QP ?_;exact k):G:=h H k
theorem AQ (H:Q0 w l) (k:K) (h:Q0 w l→K→G:=by
 intro H k;refine Jv ?_;refine V2 rfl rfl rfl rfl ?_;exact k):G:=h H k
theorem AV (H:Q0 w l) (k:K) (h:Q0 w l→K→G:=by
 intro H k;refine Jv ?_;refine QT rfl rfl rfl (V8 rfl rfl ?_);refine QT rfl rfl rfl (QR H rfl rfl rfl ?_);refine V2 rfl rfl rfl rfl ?_;refine Jv ?_;exact k):G:=h H k
theorem AY (H:Q0 w l) (k:K) (h:Q0 w l→K→G:=by
 intro H k;refine Jv ?_;refine QG ?_
 repeat refine Q6 ?_
 refine QZ ?_;refine Jv ?_;exact k):G:=h H k
theorem AZ (H:Q0 w l) (k:K) (h:Q0 w l→K→G:=by
 intro H k;refine QT rfl rfl rfl (V8 rfl rfl ?_);exact k):G:=h H k
theorem AG (H:Q0 w l) (k:K) (h:Q0 w l→K→G:=by
 intro H k
 repeat refine Q6 ?_
 refine QZ ?_;refine Jv ?_;refine QG ?_
 repeat refine Q6 ?_
 refine QP ?_;exact k):G:=h H k
theorem AU (H:Q0 w l) (k:K) (h:Q0 w l→K→G:=by
 intro H k
 repeat refine Q6 ?_
 refine QZ ?_;refine Jv ?_;refine Q5 rfl (U6 rfl rfl (.inl rfl) rfl ?_);exact k):G:=h H k
theorem AX (H:Q0 w l) (k:K) (h:Q0 w l→K→G:=by
 intro H k;refine Q5 rfl (DO rfl rfl rfl ?_);exact k):G:=h H k
theorem AK (H:Q0 w l) (k:K) (h:Q0 w l→K→G:=by
 intro H k
 repeat refine Q6 ?_
 refine QZ ?_;refine Jv ?_;refine Jv ?_;refine Jv ?_;refine Q5 rfl (V8 rfl rfl ?_);refine Q5 rfl (QR H rfl rfl rfl ?_);exact k):G:=h H k
theorem AR (H:Q0 w l) (k:K) (h:Q0 w l→K→G:=by
 intro H k
 repeat refine Q6 ?_
 refine VF rfl (QB ?_)
 repeat refine Q6 ?_
 refine QZ ?_;refine Jv ?_;exact k):G:=h H k
theorem AW (H:Q0 w l) (k:K) (h:Q0 w l→K→G:=by
 intro H k
 repeat refine Q6 ?_
 refine QP ?_
 repeat refine Q6 ?_
 refine QZ ?_;refine Jv ?_;refine Jv ?_;refine Q5 rfl (V8 rfl rfl ?_);refine Q5 rfl (QR H rfl rfl rfl ?_);refine Jv ?_;exact k):G:=h H k
theorem AA (H:Q0 w l) (k:K) (h:Q0 w l→K→G:=by
 intro H k;refine Jv ?_;refine Jv ?_;refine Jv ?_;exact k):G:=h H k
theorem AB (H:Q0 w l) (k:K) (h:Q0 w l→K→G:=by
 intro H k
 repeat refine Q6 ?_
 refine QZ ?_;refine Q5 rfl (V8 rfl rfl ?_);refine Q5 rfl (QR H rfl rfl rfl ?_);exact k):G:=h H k
theorem AC (H:Q0 w l) (k:K) (h:Q0 w l→K→G:=by
 intro H k
 repeat refine Q6 ?_
 refine VF rfl (QB ?_)
 repeat refine Q6 ?_
 refine QZ ?_;refine Jv ?_;refine Jv ?_;refine Jv ?_;refine QG ?_;exact k):G:=h H k
theorem AD (H:Q0 w l) (k:K) (h:Q0 w l→K→G:=by
 intro H k
 repeat refine Q6 ?_
 refine QZ ?_;refine Q5 rfl (VN H rfl (by repeat first|exact .nil _|apply QV.cons rfl) rfl ?_);refine Jv ?_;exact k):G:=h H k
theorem AE (H:Q0 w l) (k:K) (h:Q0 w l→K→G:=by
 intro H k
 repeat refine Q6 ?_
 refine QZ ?_;refine Jv ?_;refine Jv ?_;refine Jv ?_;refine QG ?_
 repeat refine Q6 ?_
 refine VF rfl ?_
 repeat refine Q6 ?_
 refine QZ ?_;refine Jv ?_;refine Jv ?_;exact k):G:=h H k
theorem AF (H:Q0 w l) (k:K) (h:Q0 w l→K→G:=by
 intro H k
 repeat refine Q6 ?_
 refine VF rfl (QB ?_)
 repeat refine Q6 ?_
 refine QZ ?_;refine Jv ?_;refine Jv ?_;exact k):G:=h H k
theorem AH (H:Q0 w l) (k:K) (h:Q0 w l→K→G:=by
 intro H k;refine Jv ?_;refine Jv ?_;refine Jv ?_;refine Jv ?_;refine QG ?_;exact k):G:=h H k
theorem AI (H:Q0 w l) (k:K) (h:Q0 w l→K→G:=by
 intro H k;refine Jv ?_;refine QG ?_
 repeat refine Q6 ?_
 refine QZ ?_;refine Jv ?_;refine Q5 rfl (U6 rfl rfl (.inl rfl) rfl ?_);refine QG ?_
 repeat refine Q6 ?_
 refine VF rfl (QB ?_);exact k):G:=h H k
theorem AJ (H:Q0 w l) (k:K) (h:Q0 w l→K→G:=by
 intro H k;refine Jv ?_;refine Jv ?_;refine Jv ?_;refine Jv ?_;exact k):G:=h H k
theorem AL (H:Q0 w l) (k:K) (h:Q0 w l→K→G:=by
 intro H k;refine Q5 rfl (V8 rfl rfl ?_);refine Q5 rfl (QR H rfl rfl rfl ?_);refine Jv ?_;exact k):G:=h H k
theorem AM (H:Q0 w l) (k:K) (h:Q0 w l→K→G:=by
 intro H k
 repeat refine Q6 ?_
 refine QZ ?_;refine Jv ?_;refine Jv ?_;refine Jv ?_;refine Q5 rfl (V8 rfl rfl ?_);refine Q5 rfl (QR H rfl rfl rfl ?_);refine Jv ?_;exact k):G:=h H k
theorem AN (H:Q0 w l) (k:K) (h:Q0 w l→K→G:=by
 intro H k;refine Jv ?_;refine Jv ?_;refine V2 rfl rfl rfl rfl ?_;refine V2 rfl rfl rfl rfl ?_;refine QT rfl rfl rfl (V8 rfl rfl ?_);refine QT rfl rfl rfl (QR H rfl rfl rfl ?_);refine V2 rfl rfl rfl rfl ?_;exact k):G:=h H k
theorem AO (H:Q0 w l) (k:K) (h:Q0 w l→K→G:=by
 intro H k
 repeat refine Q6 ?_
 refine QZ ?_;refine Jv ?_;refine Jv ?_;refine QG ?_
 repeat refine Q6 ?_
 refine Vh rfl ?_
 repeat refine Q6 ?_
 refine QZ ?_;refine Jv ?_;refine QG ?_;exact k):G:=h H k
theorem AP (H:Q0 w l) (k:K) (h:Q0 w l→K→G:=by
 intro H k;refine Jv ?_;refine Q5 rfl (V8 rfl rfl ?_);refine Q5 rfl (QR H rfl rfl rfl ?_);refine Jv ?_;exact k):G:=h H k
theorem AS (H:Q0 w l) (k:K) (h:Q0 w l→K→G:=by
 intro H k;refine Zq 14 rfl (Q8.none rfl) rfl (by kernel_rfl) ?_;refine Jo 15 H ?_;refine A4 H rfl rfl ?_;exact k):G:=h H k
theorem Aa (H:Q0 w l) (k:K) (h:Q0 w l→K→G:=by
 intro H k;refine Jo 16 H ?_;refine RY H rfl rfl rfl ?_;exact k):G:=h H k
theorem Ab (H:Q0 w l) (k:K) (h:Q0 w l→K→G:=by
 intro H k;refine Ja 18 ?_;refine Jf 19 ?_;refine Jo 20 H ?_;refine Yj H rfl rfl inferInstance rfl (Nat.le_of_ble_eq_true rfl) rfl ?_;exact k):G:=h H k
theorem Ad (H:Q0 w l) (k:K) (h:Q0 w l→K→G:=by
 intro H k;refine Ja 6 ?_;refine Ja 7 ?_;refine Jf 8 ?_;exact k):G:=h H k
theorem Ae (H:Q0 w l) (k:K) (h:Q0 w l→K→G:=by
 intro H k;refine Ja 7 ?_;refine Ja 8 ?_;refine Ja 9 ?_;refine Ja 10 ?_;exact k):G:=h H k
theorem Af (H:Q0 w l) (k:K) (h:Q0 w l→K→G:=by
 intro H k;refine Jo 11 H ?_;refine Vo H rfl ?_;exact k):G:=h H k
theorem Ag (H:Q0 w l) (k:K) (h:Q0 w l→K→G:=by
 intro H k
 repeat refine Q6 ?_
 refine QZ ?_;refine Q5 rfl (V8 rfl rfl ?_);refine Q5 rfl (QR H rfl rfl rfl ?_);refine Jv ?_;refine QG ?_;exact k):G:=h H k
theorem Ah (H:Q0 w l) (k:K) (h:Q0 w l→K→G:=by
 intro H k;refine Jl 3 [6,11] H ?_;refine Jf 4 ?_;refine VP 5 [6,11] H rfl (Q8.none rfl) rfl (by repeat first|exact .nil _|apply QV.cons rfl) (by kernel_rfl) ?_;exact k):G:=h H k
theorem Ai (H:Q0 w l) (k:K) (h:Q0 w l→K→G:=by
 intro H k;refine Jv ?_;refine QG ?_
 repeat refine Q6 ?_
 refine QZ ?_;refine Jv ?_;refine Jv ?_;refine QG ?_
 repeat refine Q6 ?_
 refine Vh rfl ?_
 repeat refine Q6 ?_
 refine QZ ?_;refine Jv ?_;refine Jv ?_;refine Jv ?_;refine QG ?_;exact k):G:=h H k
theorem Aj (H:Q0 w l) (k:K) (h:Q0 w l→K→G:=by
 intro H k;refine Ja 8 ?_;refine Ja 9 ?_;refine Ja 10 ?_;refine Ja 11 ?_;refine Ja 12 ?_;refine Jx H ?_;exact k):G:=h H k
theorem Bc (H:Q0 w l) (k:K) (h:Q0 w l→K→G:=by
 intro H k;refine Jv ?_;refine Jv ?_;refine QT rfl rfl rfl (V8 rfl rfl ?_);refine QT rfl rfl rfl (QR H rfl rfl rfl ?_);refine V2 rfl rfl rfl rfl ?_;exact k):G:=h H k
theorem Bd (H:Q0 w l) (k:K) (h:Q0 w l→K→G:=by
 intro H k;refine Jv ?_;refine Jv ?_;refine V2 rfl rfl rfl rfl ?_;exact k):G:=h H k
theorem Be (H:Q0 w l) (k:K) (h:Q0 w l→K→G:=by
 intro H k;refine Q5 rfl (ZO rfl rfl ?_);refine Jv ?_;exact k):G:=h H k
theorem Bf (H:Q0 w l) (k:K) (h:Q0 w l→K→G:=by
 intro H k
 repeat refine Q6 ?_
 refine QP ?_
 repeat refine Q6 ?_
 refine QZ ?_;refine Jv ?_;exact k):G:=h H k
theorem Bg (H:Q0 w l) (k:K) (h:Q0 w l→K→G:=by
 intro H k;refine Q5 rfl (UE rfl rfl ?_);refine Q5 rfl (RY H rfl rfl rfl ?_);exact k):G:=h H k
theorem Bh (H:Q0 w l) (k:K) (h:Q0 w l→K→G:=by
 intro H k;refine Ja 12 ?_;refine Ja 13 ?_;refine Ja 14 ?_;refine Ja 15 ?_;refine Jx H ?_;exact k):G:=h H k
theorem Bi (H:Q0 w l) (k:K) (h:Q0 w l→K→G:=by
 intro H k
 repeat refine Q6 ?_
 refine QZ ?_;refine Q5 rfl (VN H rfl (by repeat first|exact .nil _|apply QV.cons rfl) rfl ?_);refine Q5 rfl (UE rfl rfl ?_);refine Q5 rfl (BS rfl rfl rfl rfl (.inl rfl) rfl ?_);exact k):G:=h H k
theorem Bj (H:Q0 w l) (k:K) (h:Q0 w l→K→G:=by
 intro H k;refine Jv ?_;refine QG ?_
 repeat refine Q6 ?_
 refine Vh rfl ?_
 repeat refine Q6 ?_
 refine QZ ?_;refine Jv ?_;refine Jv ?_;refine QG ?_;exact k):G:=h H k
theorem Bk (H:Q0 w l) (k:K) (h:Q0 w l→K→G:=by
 intro H k;refine Jv ?_;refine QG ?_
 repeat refine Q6 ?_
 refine VF rfl ?_;exact k):G:=h H k
theorem Bl (H:Q0 w l) (k:K) (h:Q0 w l→K→G:=by
 intro H k
 repeat refine Q6 ?_
 refine Vh rfl ?_
 repeat refine Q6 ?_
 refine QZ ?_;refine Q5 rfl (UE rfl rfl ?_);refine Q5 rfl (ZN H rfl rfl inferInstance rfl rfl (Nat.le_of_ble_eq_true rfl) rfl ?_);exact k):G:=h H k
theorem Bm (H:Q0 w l) (k:K) (h:Q0 w l→K→G:=by
 intro H k;refine Ja 5 ?_;refine Ja 6 ?_;refine Jf 7 ?_;exact k):G:=h H k
theorem Bn (H:Q0 w l) (k:K) (h:Q0 w l→K→G:=by
 intro H k;refine Jv ?_;refine Jv ?_;refine Jv ?_;refine Jv ?_;refine Jv ?_;exact k):G:=h H k
theorem Bo (H:Q0 w l) (k:K) (h:Q0 w l→K→G:=by
 intro H k;refine Ja 9 ?_;refine Ja 10 ?_;refine Jf 11 ?_;exact k):G:=h H k
theorem Bp (H:Q0 w l) (k:K) (h:Q0 w l→K→G:=by
 intro H k;refine Jx H ?_
 repeat refine Q6 ?_
 refine QZ ?_;refine Jv ?_;refine QG ?_;exact k):G:=h H k
theorem Bq (H:Q0 w l) (k:K) (h:Q0 w l→K→G:=by
 intro H k
 repeat refine Q6 ?_
 refine QZ ?_;refine Jv ?_;refine Jv ?_;refine QG ?_
 repeat refine Q6 ?_
 exact k):G:=h H k
theorem Br (H:Q0 w l) (k:K) (h:Q0 w l→K→G:=by
 intro H k
 first|refine Jv ?_|refine XR rfl rfl ?_
 refine Jv ?_;refine Jv ?_;refine Jv ?_;refine Jv ?_;refine QG ?_
 repeat refine Q6 ?_
 refine QZ ?_;refine Jv ?_;refine Jv ?_;refine QG ?_;exact k):G:=h H k
theorem Bs (H:Q0 w l) (k:K) (h:Q0 w l→K→G:=by
 intro H k;refine Qm rfl rfl rfl ?_;refine Qm rfl rfl rfl ?_;refine Qm rfl rfl rfl ?_;refine Qm rfl rfl rfl ?_;refine Qm rfl rfl rfl ?_;refine Qm rfl rfl rfl ?_;refine Qm rfl rfl rfl ?_;exact k):G:=h H k
theorem Bt (H:Q0 w l) (k:K) (h:Q0 w l→K→G:=by
 intro H k;refine Qm rfl rfl rfl ?_;refine Qm rfl rfl rfl ?_;refine Qm rfl rfl rfl ?_;refine Qm rfl rfl rfl ?_;refine Qm rfl rfl rfl ?_;exact k):G:=h H k
theorem Bu (H:Q0 w l) (k:K) (h:Q0 w l→K→G:=by
 intro H k;refine Qm rfl rfl rfl ?_;refine Qm rfl rfl rfl ?_;exact k):G:=h H k
theorem Bv (H:Q0 w l) (k:K) (h:Q0 w l→K→G:=by
 intro H k;refine V2 rfl rfl rfl rfl ?_;refine QT rfl rfl rfl (V8 rfl rfl ?_);refine QT rfl rfl rfl (QR H rfl rfl rfl ?_);refine V2 rfl rfl rfl rfl ?_;exact k):G:=h H k
theorem Bw (H:Q0 w l) (k:K) (h:Q0 w l→K→G:=by
 intro H k;refine Ja 6 ?_;refine Ja 7 ?_;refine Ja 8 ?_;refine Ja 9 ?_;exact k):G:=h H k
theorem Bx (H:Q0 w l) (k:K) (h:Q0 w l→K→G:=by
 intro H k;refine Jv ?_;refine Qm rfl rfl rfl ?_;refine Qm rfl rfl rfl ?_;refine Qm rfl rfl rfl ?_;refine Qm rfl rfl rfl ?_;refine Qm rfl rfl rfl ?_;refine Qm rfl rfl rfl ?_;refine Qm rfl rfl rfl ?_;exact k):G:=h H k
theorem By (H:Q0 w l) (k:K) (h:Q0 w l→K→G:=by
 intro H k
 repeat refine Q6 ?_
 refine QZ ?_;refine Jv ?_;refine Jv ?_;refine Jv ?_;refine QG ?_
 repeat refine Q6 ?_
 exact k):G:=h H k
theorem Bz (H:Q0 w l) (k:K) (h:Q0 w l→K→G:=by
 intro H k;refine Jv ?_;refine QG ?_
 repeat refine Q6 ?_
 refine QZ ?_;refine Jv ?_;refine Jv ?_;refine Jv ?_;refine QG ?_;exact k):G:=h H k
theorem C0 (H:Q0 w l) (k:K) (h:Q0 w l→K→G:=by
 intro H k;refine Qm rfl rfl rfl ?_;refine Qm rfl rfl rfl ?_;refine Jv ?_;refine Jv ?_;refine Qm rfl rfl rfl ?_;refine Qm rfl rfl rfl ?_;refine Qm rfl rfl rfl ?_;refine Qm rfl rfl rfl ?_;exact k):G:=h H k
theorem C1 (H:Q0 w l) (k:K) (h:Q0 w l→K→G:=by
 intro H k
 repeat refine Q6 ?_
 refine VF rfl (QB ?_)
 repeat refine Q6 ?_
 refine RZ H mixed ?_;exact k):G:=h H k
theorem C2 (H:Q0 w l) (k:K) (h:Q0 w l→K→G:=by
 intro H k
 repeat refine Q6 ?_
 refine QZ ?_;refine Jv ?_;refine QG ?_
 repeat refine Q6 ?_
 refine QZ ?_;exact k):G:=h H k
theorem C3 (H:Q0 w l) (k:K) (h:Q0 w l→K→G:=by
 intro H k;refine Ja 0 ?_;refine Ja 1 ?_;refine Jf 2 ?_;refine Jl 3 [6] H ?_;exact k):G:=h H k
theorem C4 (H:Q0 w l) (k:K) (h:Q0 w l→K→G:=by
 intro H k;refine VP 5 [6] H rfl (Q8.none rfl) rfl (by repeat first|exact .nil _|apply QV.cons rfl) (by kernel_rfl) ?_;refine Jo 6 H ?_;exact k):G:=h H k
theorem C5 (H:Q0 w l) (k:K) (h:Q0 w l→K→G:=by
 intro H k
 repeat refine Q6 ?_
 refine VF rfl ?_;exact k):G:=h H k
theorem C6 (H:Q0 w l) (k:K) (h:Q0 w l→K→G:=by
 intro H k;refine QT rfl rfl rfl (U6 rfl rfl (.inl rfl) rfl ?_);refine Jv ?_;refine QG ?_
 repeat refine Q6 ?_
 refine VF rfl (QB ?_);exact k):G:=h H k
theorem C7 (H:Q0 w l) (k:K) (h:Q0 w l→K→G:=by
 intro H k;refine Jv ?_;refine Jv ?_;refine QG ?_
 repeat refine Q6 ?_
 refine QZ ?_;refine Jv ?_;refine Jv ?_;refine QG ?_
 repeat refine Q6 ?_
 refine VF rfl (QB ?_);exact k):G:=h H k
theorem C8 (H:Q0 w l) (k:K) (h:Q0 w l→K→G:=by
 intro H k;refine QG ?_
 repeat refine Q6 ?_
 refine QZ ?_;refine Jv ?_;exact k):G:=h H k
theorem C9 (H:Q0 w l) (k:K) (h:Q0 w l→K→G:=by
 intro H k;refine Q5 rfl (ZO rfl rfl ?_);refine Jv ?_;refine QG ?_
 repeat refine Q6 ?_
 exact k):G:=h H k
theorem CQ (H:Q0 w l) (k:K) (h:Q0 w l→K→G:=by
 intro H k
 repeat refine Q6 ?_
 refine QP ?_
 repeat refine Q6 ?_
 refine RZ H mixed ?_;exact k):G:=h H k
theorem CV (H:Q0 w l) (k:K) (h:Q0 w l→K→G:=by
 intro H k
 repeat refine Q6 ?_
 refine QZ ?_;refine Jv ?_;refine Jv ?_;refine QG ?_
 repeat refine Q6 ?_
 refine QZ ?_;refine Jv ?_;refine Jv ?_;refine Q5 rfl (V8 rfl rfl ?_);refine Q5 rfl (QR H rfl rfl rfl ?_);refine Jv ?_;exact k):G:=h H k
theorem CY (H:Q0 w l) (k:K) (h:Q0 w l→K→G:=by
 intro H k;refine Jv ?_;refine QG ?_
 repeat refine Q6 ?_
 refine QZ ?_;refine Jv ?_;refine Jv ?_;refine QG ?_
 repeat refine Q6 ?_
 refine Vh rfl ?_
 repeat refine Q6 ?_
 refine QZ ?_;refine Jv ?_;refine Jv ?_;refine QG ?_;exact k):G:=h H k
theorem CZ (H:Q0 w l) (k:K) (h:Q0 w l→K→G:=by
 intro H k
 repeat refine Q6 ?_
 refine Vh rfl ?_
 repeat refine Q6 ?_
 refine QZ ?_;refine Q5 rfl (UE rfl rfl ?_);refine Jv ?_;refine Q5 rfl (ZN H rfl rfl inferInstance rfl rfl (Nat.le_of_ble_eq_true rfl) rfl ?_);exact k):G:=h H k
theorem CG (H:Q0 w l) (k:K) (h:Q0 w l→K→G:=by
 intro H k;refine QT rfl rfl rfl (VN H rfl (by repeat first|exact .nil _|apply QV.cons rfl) rfl ?_);refine QT rfl rfl rfl (UE rfl rfl ?_);exact k):G:=h H k
theorem CU (H:Q0 w l) (k:K) (h:Q0 w l→K→G:=by
 intro H k
 repeat refine Q6 ?_
 refine QZ ?_;refine Q5 rfl (QR H rfl rfl rfl ?_);refine Q5 rfl (QR H rfl rfl rfl ?_);exact k):G:=h H k
theorem CX (H:Q0 w l) (k:K) (h:Q0 w l→K→G:=by
 intro H k;refine Jv ?_;refine QG ?_
 repeat refine Q6 ?_
 refine VF rfl ?_
 repeat refine Q6 ?_
 refine QZ ?_;refine Jv ?_;refine Jv ?_;exact k):G:=h H k
theorem CK (H:Q0 w l) (k:K) (h:Q0 w l→K→G:=by
 intro H k;refine Ja 0 ?_;refine Ja 1 ?_;refine Jf 2 ?_;refine Jl 3 [7] H ?_;refine Ja 4 ?_;refine Jf 5 ?_;refine Jl 6 [7] H ?_;refine Jo 7 H ?_;exact k):G:=h H k
theorem DT (H:Q0 w l) (k:K) (h:Q0 w l→K→G:=by
 intro H k
 repeat refine Q6 ?_
 refine QZ ?_;refine Jv ?_;refine Jv ?_;refine QG ?_
 repeat refine Q6 ?_
 refine QZ ?_;refine Jv ?_;exact k):G:=h H k
theorem Da (H:Q0 w l) (k:K) (h:Q0 w l→K→G:=by
 intro H k;refine Jv ?_;refine Q5 rfl (ZN H rfl rfl inferInstance rfl rfl (Nat.le_of_ble_eq_true rfl) rfl ?_);exact k):G:=h H k
theorem Db (H:Q0 w l) (k:K) (h:Q0 w l→K→G:=by
 intro H k
 repeat refine Q6 ?_
 refine QZ ?_;refine Jv ?_;refine QG ?_
 repeat refine Q6 ?_
 refine QZ ?_;refine Q5 rfl (UE rfl rfl ?_);exact k):G:=h H k
theorem Dc (H:Q0 w l) (k:K) (h:Q0 w l→K→G:=by
 intro H k;refine U7 3 rfl (Q8.none rfl) rfl (by kernel_rfl) ?_;exact k):G:=h H k
theorem Dd (H:Q0 w l) (k:K) (h:Q0 w l→K→G:=by
 intro H k;refine Jv ?_;refine Jv ?_;refine Jv ?_;refine Jv ?_;refine Jv ?_;refine QG ?_
 repeat refine Q6 ?_
 refine RZ H mixed ?_;exact k):G:=h H k
theorem De (H:Q0 w l) (k:K) (h:Q0 w l→K→G:=by
 intro H k
 repeat refine Q6 ?_
 refine QZ ?_;refine Q5 rfl (V8 rfl rfl ?_);refine Q5 rfl (QR H rfl rfl rfl ?_);refine Jv ?_;refine Jv ?_;exact k):G:=h H k
theorem Df (H:Q0 w l) (k:K) (h:Q0 w l→K→G:=by
 intro H k;refine Jv ?_;refine QG ?_
 repeat refine Q6 ?_
 refine QZ ?_;refine Jv ?_;refine QG ?_
 repeat refine Q6 ?_
 exact k):G:=h H k
theorem Dg (H:Q0 w l) (k:K) (h:Q0 w l→K→G:=by
 intro H k;refine V2 rfl rfl rfl rfl ?_;refine V2 rfl rfl rfl rfl ?_;refine Jv ?_;refine Jv ?_;exact k):G:=h H k
theorem Dh (H:Q0 w l) (k:K) (h:Q0 w l→K→G:=by
 intro H k;refine Ja 10 ?_;refine Ja 11 ?_;refine Jx H ?_;exact k):G:=h H k
theorem Di (H:Q0 w l) (k:K) (h:Q0 w l→K→G:=by
 intro H k
 repeat refine Q6 ?_
 refine QZ ?_;refine Jv ?_;refine QG ?_
 repeat refine Q6 ?_
 refine QZ ?_;refine Jv ?_;refine Q5 rfl (U6 rfl rfl (.inl rfl) rfl ?_);refine QG ?_
 repeat refine Q6 ?_
 refine VF rfl (QB ?_)
 repeat refine Q6 ?_
 refine RZ H mixed ?_;exact k):G:=h H k
theorem Dj (H:Q0 w l) (k:K) (h:Q0 w l→K→G:=by
 intro H k;refine V2 rfl rfl rfl rfl ?_;refine Jv ?_;refine QG ?_;exact k):G:=h H k
theorem Dk (H:Q0 w l) (k:K) (h:Q0 w l→K→G:=by
 intro H k;refine V2 rfl rfl rfl rfl ?_;refine V2 rfl rfl rfl rfl ?_;refine V2 rfl rfl rfl rfl ?_;refine QT rfl rfl rfl (V8 rfl rfl ?_);refine QT rfl rfl rfl (QR H rfl rfl rfl ?_);refine QT rfl rfl rfl (ZO rfl rfl ?_);refine V2 rfl rfl rfl rfl ?_;exact k):G:=h H k
theorem Dm (H:Q0 w l) (k:K) (h:Q0 w l→K→G:=by
 intro H k
 repeat refine Q6 ?_
 refine QZ ?_;refine Jv ?_;refine Jv ?_;refine QG ?_
 repeat refine Q6 ?_
 refine QZ ?_;refine Jv ?_;refine Q5 rfl (U6 rfl rfl (.inl rfl) rfl ?_);refine QG ?_
 repeat refine Q6 ?_
 refine VF rfl (QB ?_);exact k):G:=h H k
theorem Dn (H:Q0 w l) (k:K) (h:Q0 w l→K→G:=by
 intro H k
 repeat refine Q6 ?_
 refine QZ ?_;refine Jv ?_;refine QG ?_
 repeat refine Q6 ?_
 refine QZ ?_;refine Jv ?_;refine Q5 rfl (U6 rfl rfl (.inl rfl) rfl ?_);refine QG ?_
 repeat refine Q6 ?_
 refine VF rfl (QB ?_)
 repeat refine Q6 ?_
 refine QZ ?_;refine Jv ?_;refine Jv ?_;exact k):G:=h H k
theorem Dp (H:Q0 w l) (k:K) (h:Q0 w l→K→G:=by
 intro H k;refine Ja 4 ?_;refine Ja 5 ?_;refine Ja 6 ?_;refine Jf 7 ?_;exact k):G:=h H k
theorem Dq (H:Q0 w l) (k:K) (h:Q0 w l→K→G:=by
 intro H k;refine Ja 9 ?_;refine Ja 10 ?_;refine Ja 11 ?_;refine Ja 12 ?_;refine Ja 13 ?_;exact k):G:=h H k
theorem Dr (H:Q0 w l) (k:K) (h:Q0 w l→K→G:=by
 intro H k;refine Jv ?_;refine Qm rfl rfl rfl ?_;refine Qm rfl rfl rfl ?_;refine Qm rfl rfl rfl ?_;exact k):G:=h H k
theorem Dt (H:Q0 w l) (k:K) (h:Q0 w l→K→G:=by
 intro H k;refine Xp rfl rfl ?_;refine Xp rfl rfl ?_;refine Xp rfl rfl ?_;refine Qm rfl rfl rfl ?_;exact k):G:=h H k
theorem Du (H:Q0 w l) (k:K) (h:Q0 w l→K→G:=by
 intro H k
 repeat refine Q6 ?_
 refine QZ ?_;refine Q5 rfl (V8 rfl rfl ?_);refine Q5 rfl (QR H rfl rfl rfl ?_);refine Q5 rfl (V8 rfl rfl ?_);refine Q5 rfl (QR H rfl rfl rfl ?_);exact k):G:=h H k
theorem Dv (H:Q0 w l) (k:K) (h:Q0 w l→K→G:=by
 intro H k;refine Jv ?_;refine Jv ?_;refine Qm rfl rfl rfl ?_;refine Qm rfl rfl rfl ?_;refine Qm rfl rfl rfl ?_;exact k):G:=h H k
theorem Dw (H:Q0 w l) (k:K) (h:Q0 w l→K→G:=by
 intro H k;refine Xp rfl rfl ?_;refine Xp rfl rfl ?_;refine Xp rfl rfl ?_;refine Qm rfl rfl rfl ?_;refine Jv ?_;refine Jv ?_;refine QG ?_;exact k):G:=h H k
theorem Dx (H:Q0 w l) (k:K) (h:Q0 w l→K→G:=by
 intro H k;refine Jv ?_;refine QG ?_
 repeat refine Q6 ?_
 refine QZ ?_;refine Jv ?_;refine Q5 rfl (ZO rfl rfl ?_);refine Jv ?_;refine QG ?_;exact k):G:=h H k
theorem Dy (H:Q0 w l) (k:K) (h:Q0 w l→K→G:=by
 intro H k
 repeat refine Q6 ?_
 refine QZ ?_;refine Jv ?_;refine Jv ?_;refine Q5 rfl (V8 rfl rfl ?_);refine Q5 rfl (QR H rfl rfl rfl ?_);refine Q5 rfl (ZO rfl rfl ?_);exact k):G:=h H k
theorem Dz (H:Q0 w l) (k:K) (h:Q0 w l→K→G:=by
 intro H k;refine QP ?_
 repeat refine Q6 ?_
 refine QZ ?_;refine Jv ?_;refine Q5 rfl (U6 rfl rfl (.inl rfl) rfl ?_);refine Jv ?_;refine QG ?_
 repeat refine Q6 ?_
 refine VF rfl ?_
 repeat refine Q6 ?_
 refine QZ ?_;refine Jv ?_;refine Jv ?_;exact k):G:=h H k
theorem E0 (H:Q0 w l) (k:K) (h:Q0 w l→K→G:=by
 intro H k;refine Jv ?_;refine Jv ?_;refine QG ?_
 repeat refine Q6 ?_
 refine Vh rfl ?_
 repeat refine Q6 ?_
 refine QZ ?_;refine Q5 rfl (UE rfl rfl ?_);refine Q5 rfl (ZN H rfl rfl inferInstance rfl rfl (Nat.le_of_ble_eq_true rfl) rfl ?_);exact k):G:=h H k
theorem E1 (H:Q0 w l) (k:K) (h:Q0 w l→K→G:=by
 intro H k
 repeat refine Q6 ?_
 refine QZ ?_;refine Jv ?_;refine QG ?_
 repeat refine Q6 ?_
 refine QZ ?_;refine Jv ?_;refine QG ?_
 repeat refine Q6 ?_
 refine QZ ?_;refine Jv ?_;refine QG ?_
 repeat refine Q6 ?_
 refine QP ?_;exact k):G:=h H k
theorem E2 (H:Q0 w l) (k:K) (h:Q0 w l→K→G:=by
 intro H k;refine Jv ?_;refine Qm rfl rfl rfl ?_;refine Qm rfl rfl rfl ?_;refine Qm rfl rfl rfl ?_;refine Qm rfl rfl rfl ?_;exact k):G:=h H k
theorem E3 (H:Q0 w l) (k:K) (h:Q0 w l→K→G:=by
 intro H k
 repeat refine Q6 ?_
 refine QZ ?_;refine Jv ?_;refine Jv ?_;refine Q5 rfl (RY H rfl rfl rfl ?_);exact k):G:=h H k
theorem E4 (H:Q0 w l) (k:K) (h:Q0 w l→K→G:=by
 intro H k;refine Jv ?_;refine Jv ?_;refine QG ?_
 repeat refine Q6 ?_
 refine QZ ?_;refine Jv ?_;refine Q5 rfl (U6 rfl rfl (.inl rfl) rfl ?_);refine QG ?_
 repeat refine Q6 ?_
 refine VF rfl (QB ?_);exact k):G:=h H k
theorem E5 (H:Q0 w l) (k:K) (h:Q0 w l→K→G:=by
 intro H k;refine Ja 0 ?_;refine Ja 1 ?_;refine Jf 2 ?_;refine Jl 3 [5] H ?_;refine VP 4 [5] H rfl (Q8.none rfl) rfl (by repeat first|exact .nil _|apply QV.cons rfl) (by kernel_rfl) ?_;refine Jo 5 H ?_;exact k):G:=h H k
theorem E6 (H:Q0 w l) (k:K) (h:Q0 w l→K→G:=by
 intro H k;refine VP 6 [7] H rfl (Q8.none rfl) rfl (by repeat first|exact .nil _|apply QV.cons rfl) (by kernel_rfl) ?_;refine Jo 7 H ?_;exact k):G:=h H k
theorem E7 (H:Q0 w l) (k:K) (h:Q0 w l→K→G:=by
 intro H k;refine VP 4 [6] H rfl (Q8.none rfl) rfl (by repeat first|exact .nil _|apply QV.cons rfl) (by kernel_rfl) ?_;exact k):G:=h H k
theorem E8 (H:Q0 w l) (k:K) (h:Q0 w l→K→G:=by
 intro H k;refine Jv ?_;refine Jv ?_;refine QG ?_
 repeat refine Q6 ?_
 refine Vh rfl ?_
 repeat refine Q6 ?_
 refine QZ ?_;refine Jv ?_;refine QG ?_;exact k):G:=h H k
theorem E9 (H:Q0 w l) (k:K) (h:Q0 w l→K→G:=by
 intro H k;refine Ja 0 ?_;refine Ja 1 ?_;refine Jf 2 ?_;refine Jl 3 [9] H ?_;exact k):G:=h H k
theorem EQ (H:Q0 w l) (k:K) (h:Q0 w l→K→G:=by
 intro H k;refine Ja 4 ?_;refine Ja 5 ?_;refine Jf 6 ?_;exact k):G:=h H k
theorem EV (H:Q0 w l) (k:K) (h:Q0 w l→K→G:=by
 intro H k;refine Ja 4 ?_;refine Ja 5 ?_;refine Jf 6 ?_;refine Jl 7 [] H ?_;exact k):G:=h H k
theorem EY (H:Q0 w l) (k:K) (h:Q0 w l→K→G:=by
 intro H k;refine Jv ?_;refine QG ?_
 repeat refine Q6 ?_
 refine QZ ?_;refine Jv ?_;refine Jv ?_;refine Jv ?_;exact k):G:=h H k
theorem EZ (H:Q0 w l) (k:K) (h:Q0 w l→K→G:=by
 intro H k
 repeat refine Q6 ?_
 refine Vh rfl ?_
 repeat refine Q6 ?_
 refine QZ ?_;refine Jv ?_;refine Jv ?_;refine Jv ?_;refine QG ?_;exact k):G:=h H k
theorem EG (H:Q0 w l) (k:K) (h:Q0 w l→K→G:=by
 intro H k;refine Ja 7 ?_;refine Ja 8 ?_;refine Ja 9 ?_;refine Jo 11 H ?_;refine ZN H rfl rfl inferInstance rfl rfl (Nat.le_of_ble_eq_true rfl) rfl ?_;exact k):G:=h H k
theorem EU (H:Q0 w l) (k:K) (h:Q0 w l→K→G:=by
 intro H k;refine Jv ?_;refine Jv ?_;refine Q5 rfl (ZN H rfl rfl inferInstance rfl rfl (Nat.le_of_ble_eq_true rfl) rfl ?_);exact k):G:=h H k
theorem EK (H:Q0 w l) (k:K) (h:Q0 w l→K→G:=by
 intro H k;refine Jv ?_;refine QG ?_
 repeat refine Q6 ?_
 refine QZ ?_;refine Jv ?_;refine Jv ?_;refine QG ?_
 repeat refine Q6 ?_
 refine VF rfl (QB ?_)
 repeat refine Q6 ?_
 refine QZ ?_;refine Jv ?_;refine Q5 rfl (VN H rfl (by repeat first|exact .nil _|apply QV.cons rfl) rfl ?_);exact k):G:=h H k
theorem ER (H:Q0 w l) (k:K) (h:Q0 w l→K→G:=by
 intro H k;refine Jv ?_;refine Jv ?_;refine Qm rfl rfl rfl ?_;refine Qm rfl rfl rfl ?_;refine Qm rfl rfl rfl ?_;refine Qm rfl rfl rfl ?_;refine Qm rfl rfl rfl ?_;refine Qm rfl rfl rfl ?_;refine Qm rfl rfl rfl ?_;refine Qm rfl rfl rfl ?_;exact k):G:=h H k
theorem EW (H:Q0 w l) (k:K) (h:Q0 w l→K→G:=by
 intro H k
 repeat refine Q6 ?_
 refine QZ ?_;refine Jv ?_;refine Jv ?_;refine Q5 rfl (WQ rfl rfl (.inr rfl) rfl ?_);refine QG ?_;exact k):G:=h H k
theorem EA (H:Q0 w l) (k:K) (h:Q0 w l→K→G:=by
 intro H k;refine Jv ?_;refine Q5 rfl (V8 rfl rfl ?_);refine Q5 rfl (QR H rfl rfl rfl ?_);refine Jv ?_;refine Q5 rfl (WQ rfl rfl (.inl rfl) rfl ?_);exact k):G:=h H k
theorem EB (H:Q0 w l) (k:K) (h:Q0 w l→K→G:=by
 intro H k;refine QG ?_
 repeat refine Q6 ?_
 refine QZ ?_;refine Jv ?_;refine Jv ?_;refine Q5 rfl (V8 rfl rfl ?_);refine Q5 rfl (QR H rfl rfl rfl ?_);refine Jv ?_;exact k):G:=h H k
theorem EC (H:Q0 w l) (k:K) (h:Q0 w l→K→G:=by
 intro H k;refine Jn 4 ?_;refine Jn 5 ?_;refine Jn 6 ?_;refine Jn 7 ?_;refine Jn 8 ?_;refine Jn 9 ?_;refine Jn 10 ?_;refine Jn 11 ?_;exact k):G:=h H k
theorem ED (H:Q0 w l) (k:K) (h:Q0 w l→K→G:=by
 intro H k;refine Jn 14 ?_;refine Jn 15 ?_;refine Jn 16 ?_;refine Jn 17 ?_;refine Jn 18 ?_;refine Jn 19 ?_;refine Jn 20 ?_;refine Jn 21 ?_;refine Jn 22 ?_;refine Jn 23 ?_;exact k):G:=h H k
theorem EE (H:Q0 w l) (k:K) (h:Q0 w l→K→G:=by
 intro H k;refine Ja 24 ?_;refine Ja 25 ?_;refine Jn 26 ?_;refine Jn 27 ?_;refine Jn 28 ?_;refine Jn 29 ?_;refine Jn 30 ?_;refine Jn 31 ?_;refine Jn 32 ?_;refine Jn 33 ?_;refine Jn 34 ?_;refine Jn 35 ?_;refine Jn 36 ?_;refine Jn 37 ?_;refine Ja 38 ?_;refine Jx H ?_
 repeat refine Q6 ?_
 refine Vh rfl ?_
 repeat refine Q6 ?_
 refine QZ ?_;refine Jv ?_;refine Jv ?_;refine QG ?_;exact k):G:=h H k
theorem EF (H:Q0 w l) (k:K) (h:Q0 w l→K→G:=by
 intro H k
 repeat refine Q6 ?_
 refine QZ ?_;refine Jv ?_;refine Jv ?_;refine Q5 rfl (V8 rfl rfl ?_);exact k):G:=h H k
theorem EH (H:Q0 w l) (k:K) (h:Q0 w l→K→G:=by
 intro H k;refine Q5 rfl (UE rfl rfl ?_);refine Q5 rfl (ZN H rfl rfl inferInstance rfl rfl (Nat.le_of_ble_eq_true rfl) rfl ?_);exact k):G:=h H k
theorem EI (H:Q0 w l) (k:K) (h:Q0 w l→K→G:=by
 intro H k;refine Jv ?_;refine QG ?_
 repeat refine Q6 ?_
 refine QZ ?_;refine Q5 rfl (QR H rfl rfl rfl ?_);refine Q5 rfl (VN H rfl (by repeat first|exact .nil _|apply QV.cons rfl) rfl ?_);refine Jv ?_;exact k):G:=h H k
theorem EJ (H:Q0 w l) (k:K) (h:Q0 w l→K→G:=by
 intro H k;refine Jl 0 [8] H ?_;refine Ja 1 ?_;refine Jf 2 ?_;refine Jl 3 [8] H ?_;refine Jf 4 ?_;refine Jl 5 [8] H ?_;exact k):G:=h H k
theorem EL (H:Q0 w l) (k:K) (h:Q0 w l→K→G:=by
 intro H k;refine Jl 0 [6] H ?_;refine Ja 1 ?_;refine Jf 2 ?_;refine Jl 3 [6] H ?_;exact k):G:=h H k
theorem EM (H:Q0 w l) (k:K) (h:Q0 w l→K→G:=by
 intro H k;refine QG ?_
 repeat refine Q6 ?_
 refine QZ ?_;refine Q5 rfl (VN H rfl (by repeat first|exact .nil _|apply QV.cons rfl) rfl ?_);refine Q5 rfl (VN H rfl (by repeat first|exact .nil _|apply QV.cons rfl) rfl ?_);refine Q5 rfl (H9 rfl rfl (.inl rfl) rfl ?_);exact k):G:=h H k
theorem EN (H:Q0 w l) (k:K) (h:Q0 w l→K→G:=by
 intro H k
 repeat refine Q6 ?_
 refine QZ ?_;refine Jv ?_;refine Jv ?_;refine Q5 rfl (V8 rfl rfl ?_);refine Q5 rfl (QR H rfl rfl rfl ?_);refine Jv ?_;refine Q5 rfl (V8 rfl rfl ?_);refine Q5 rfl (QR H rfl rfl rfl ?_);exact k):G:=h H k
theorem EO (H:Q0 w l) (k:K) (h:Q0 w l→K→G:=by
 intro H k;refine Ja 8 ?_;refine Ja 9 ?_;refine Jf 10 ?_;exact k):G:=h H k
theorem EP (H:Q0 w l) (k:K) (h:Q0 w l→K→G:=by
 intro H k
 repeat refine Q6 ?_
 refine QZ ?_;refine Jv ?_;refine Q5 rfl (V8 rfl rfl ?_);refine Q5 rfl (QR H rfl rfl rfl ?_);exact k):G:=h H k
theorem ES (H:Q0 w l) (k:K) (h:Q0 w l→K→G:=by
 intro H k;refine Q5 rfl (U6 rfl rfl (.inl rfl) rfl ?_);exact k):G:=h H k
theorem ET (H:Q0 w l) (k:K) (h:Q0 w l→K→G:=by
 intro H k
 repeat refine Q6 ?_
 refine Vh rfl ?_
 repeat refine Q6 ?_
 refine QZ ?_;refine Jv ?_;refine Jv ?_;refine Jv ?_;exact k):G:=h H k
theorem Ea (H:Q0 w l) (k:K) (h:Q0 w l→K→G:=by
 intro H k;refine Q5 rfl (V8 rfl rfl ?_);refine Q5 rfl (VN H rfl (by repeat first|exact .nil _|apply QV.cons rfl) rfl ?_);exact k):G:=h H k
theorem Eb (H:Q0 w l) (k:K) (h:Q0 w l→K→G:=by
 intro H k;refine Ja 7 ?_;refine Ja 8 ?_;refine Ja 9 ?_;refine Ja 10 ?_;refine Ja 11 ?_;refine Jx H ?_
 repeat refine Q6 ?_
 refine QZ ?_;refine Jv ?_;refine Jv ?_;refine Jv ?_;refine Jv ?_;exact k):G:=h H k
theorem Ec (H:Q0 w l) (k:K) (h:Q0 w l→K→G:=by
 intro H k;refine Ja 0 ?_;refine Ja 1 ?_;refine Ja 2 ?_;refine Ja 3 ?_;exact k):G:=h H k
theorem Ed (H:Q0 w l) (k:K) (h:Q0 w l→K→G:=by
 intro H k;refine Ja 10 ?_;refine Ja 11 ?_;refine Jf 12 ?_;exact k):G:=h H k
theorem Ee (H:Q0 w l) (k:K) (h:Q0 w l→K→G:=by
 intro H k;refine Jv ?_;refine Jv ?_;refine QT rfl rfl rfl (V8 rfl rfl ?_);refine QT rfl rfl rfl (QR H rfl rfl rfl ?_);refine QT rfl rfl rfl (ZO rfl rfl ?_);refine V2 rfl rfl rfl rfl ?_;exact k):G:=h H k
theorem Ef (H:Q0 w l) (k:K) (h:Q0 w l→K→G:=by
 intro H k;refine Ja 0 ?_;refine Ja 1 ?_;refine Jf 2 ?_;refine Jl 3 [7] H ?_;refine Jf 4 ?_;refine Jl 5 [7] H ?_;refine Ja 6 ?_;refine Jo 7 H ?_;exact k):G:=h H k
theorem Eg (H:Q0 w l) (k:K) (h:Q0 w l→K→G:=by
 intro H k;refine Ja 12 ?_;refine Jx H ?_
 repeat refine Q6 ?_
 refine QZ ?_;refine Q5 rfl (V8 rfl rfl ?_);refine Q5 rfl (QR H rfl rfl rfl ?_);refine Jv ?_;refine Jv ?_;refine V2 rfl rfl rfl rfl ?_;refine V2 rfl rfl rfl rfl ?_;refine Jv ?_;refine Jv ?_;refine QT rfl rfl rfl (V8 rfl rfl ?_);refine QT rfl rfl rfl (QR H rfl rfl rfl ?_);refine QT rfl rfl rfl (V8 rfl rfl ?_);refine QT rfl rfl rfl (QR H rfl rfl rfl ?_);refine V2 rfl rfl rfl rfl ?_;exact k):G:=h H k
theorem Eh (H:Q0 w l) (k:K) (h:Q0 w l→K→G:=by
 intro H k;refine Jv ?_;refine Jv ?_;refine QG ?_
 repeat refine Q6 ?_
 refine QZ ?_;refine Jv ?_;refine Jv ?_;refine Q5 rfl (WQ rfl rfl (.inr rfl) rfl ?_);refine Jv ?_;refine V2 rfl rfl rfl rfl ?_;refine V2 rfl rfl rfl rfl ?_;refine Qm rfl rfl rfl ?_;refine Qm rfl rfl rfl ?_;refine Qm rfl rfl rfl ?_;refine Qm rfl rfl rfl ?_;refine Qm rfl rfl rfl ?_;refine V2 rfl rfl rfl rfl ?_;refine Jv ?_;refine QG ?_
 repeat refine Q6 ?_
 refine VF rfl (QB ?_)
 repeat refine Q6 ?_
 refine QZ ?_;refine Jv ?_;refine QG ?_
 repeat refine Q6 ?_
 refine VF rfl (QB ?_);exact k):G:=h H k
theorem HJ (H:Q0 w l) (k:K) (h:Q0 w l→K→G:=by
 intro H k
 first|refine Jv ?_|refine XR rfl rfl ?_
 refine Jv ?_;refine Jv ?_;refine Jv ?_;refine Jv ?_;refine QG ?_;exact k):G:=h H k
theorem HL (H:Q0 w l) (k:K) (h:Q0 w l→K→G:=by
 intro H k
 repeat refine Q6 ?_
 refine QZ ?_;refine Jv ?_;refine QG ?_
 repeat refine Q6 ?_
 refine QZ ?_;refine Jv ?_;refine QG ?_
 repeat refine Q6 ?_
 refine QP ?_;exact k):G:=h H k
theorem HM (H:Q0 w l) (k:K) (h:Q0 w l→K→G:=by
 intro H k;refine Ja 10 ?_;refine Ja 11 ?_;refine Ja 12 ?_;refine Ja 13 ?_;exact k):G:=h H k
theorem HN (H:Q0 w l) (k:K) (h:Q0 w l→K→G:=by
 intro H k;refine VP 5 [6,7,10] H rfl (Q8.none rfl) rfl (by repeat first|exact .nil _|apply QV.cons rfl) (by kernel_rfl) ?_;exact k):G:=h H k
theorem HP (H:Q0 w l) (k:K) (h:Q0 w l→K→G:=by
 intro H k
 repeat refine Q6 ?_
 refine QZ ?_;refine Q5 rfl (QR H rfl rfl rfl ?_);refine Q5 rfl (VN H rfl (by repeat first|exact .nil _|apply QV.cons rfl) rfl ?_);refine Jv ?_;exact k):G:=h H k
theorem HS (H:Q0 w l) (k:K) (h:Q0 w l→K→G:=by
 intro H k;refine QT rfl rfl rfl (V8 rfl rfl ?_);refine QT rfl rfl rfl (QR H rfl rfl rfl ?_);refine QT rfl rfl rfl (V8 rfl rfl ?_);refine QT rfl rfl rfl (QR H rfl rfl rfl ?_);refine V2 rfl rfl rfl rfl ?_;exact k):G:=h H k
theorem HT (H:Q0 w l) (k:K) (h:Q0 w l→K→G:=by
 intro H k;refine VP 5 [7] H rfl (Q8.none rfl) rfl (by repeat first|exact .nil _|apply QV.cons rfl) (by kernel_rfl) ?_;exact k):G:=h H k
theorem Ha (H:Q0 w l) (k:K) (h:Q0 w l→K→G:=by
 intro H k;refine Qm rfl rfl rfl ?_;refine Qm rfl rfl rfl ?_;refine Qm rfl rfl rfl ?_;refine Qm rfl rfl rfl ?_;exact k):G:=h H k
theorem Hd (H:Q0 w l) (k:K) (h:Q0 w l→K→G:=by
 intro H k;refine VP 4 [7,12] H rfl (Q8.none rfl) rfl (by repeat first|exact .nil _|apply QV.cons rfl) (by kernel_rfl) ?_;exact k):G:=h H k
theorem He (H:Q0 w l) (k:K) (h:Q0 w l→K→G:=by
 intro H k;refine Ja 0 ?_;refine Ja 1 ?_;refine Jf 2 ?_;refine Jl 3 [6] H ?_;refine Jf 4 ?_;refine Jl 5 [6] H ?_;exact k):G:=h H k
theorem MP (H:Q0 w l) (k:K) (h:Q0 w l→K→G:=by
 intro H k
 repeat refine Q6 ?_
 refine QZ ?_;refine Jv ?_;refine QG ?_
 repeat refine Q6 ?_
 refine QZ ?_;refine Jv ?_;refine Q5 rfl (U6 rfl rfl (.inl rfl) rfl ?_);refine QG ?_
 repeat refine Q6 ?_
 refine VF rfl (QB ?_);exact k):G:=h H k
theorem MT (H:Q0 w l) (k:K) (h:Q0 w l→K→G:=by
 intro H k
 repeat refine Q6 ?_
 refine QZ ?_;refine Jv ?_;refine QG ?_
 repeat refine Q6 ?_
 refine VF rfl (QB ?_);exact k):G:=h H k
theorem Ma (H:Q0 w l) (k:K) (h:Q0 w l→K→G:=by
 intro H k;refine Jv ?_;refine Jv ?_;refine QG ?_
 repeat refine Q6 ?_
 refine QZ ?_;refine Jv ?_;refine Jv ?_;refine Q5 rfl (WQ rfl rfl (.inr rfl) rfl ?_);exact k):G:=h H k
end
end Go.SL
namespace Go.Proofs.YtmjdnljneifpcaaGreatDoor
open List
open Go.SL
@[reducible] def pp (b:Nat):Value := .pointer (some ⟨b,0,none⟩)
theorem Qb {x:Int} (h1 : -9223372036854775808≤x) (h2:x≤9223372036854775807):IntKind.i64.wrap x=x:=by
 simp[IntKind.wrap,IntKind.bits,IntKind.signed];omega
theorem Qc {i:Nat} (h:i < 1000000000):Value.int .i64 (IntKind.i64.wrap ((i:Int)+1)) = .int .i64 ((i+1:Nat):Int):=by
 rw[Qb (by omega) (by omega)];rfl
abbrev Fl:=Nat×Nat
def Re (f:Fl):Prop:=0 < f.2∧f.1+f.2≤64
@[reducible] def fv (f:Fl):Value := .agg #[.int .i64 f.1,.int .i64 f.2]
def Mb (f:Fl):List Value:=[.int .i64 f.1,.int .i64 f.2]
def Ak (l:List Fl):List Value:=l.flatMap Mb
def Qa (l:List Nat):List Value:=l.map fun x:Nat=>Value.int .u64 (x:Int)
theorem Ei (l:List Fl):(Ak l).length=l.length*2:=by
 induction l with
 | nil=>rfl
 | cons p L ih=>simp only[Ak,Mb,flatMap_cons,length_append,length_cons,length_nil] at ih ⊢;omega
theorem Z4 (l:List Nat):(Qa l).length=l.length*1:=by simp[Qa]
theorem TM (a b:List Nat):Qa (a++b)=Qa a++Qa b:=by simp[Qa]
theorem Hf {l:List Nat} {spare:List Value} {i x:Nat} (h:l[i]? = some x):(Qa l++spare)[0+i*1]? = some (.int .u64 x):=by
 have hi:=(List.getElem?_eq_some_iff.1 h).1;rw[Nat.zero_add,Nat.mul_one,getElem?_append_left (by simpa [Qa] using hi)];simp[Qa,h]
theorem TO {L:List Fl} {i:Nat} {p:Fl} (h:L[i]? = some p):(Ak L)[i*2]? = some (.int .i64 p.1)∧(Ak L)[i*2+1]? = some (.int .i64 p.2):=by
 induction L generalizing i with
 | nil=>simp at h
 | cons x L ih=>
  cases i with
  | zero=>
   simp at h;subst h;exact⟨rfl,rfl⟩
  | succ i=>
   have:=ih (i:=i) (by simpa using h);rw[show (i+1)*2=i*2+2 by omega];exact this
theorem Hg {L:List Fl} {spare:List Value} {i:Nat} {p:Fl} (h:L[i]? = some p):QV (Ak L++spare) (0+i*2) 2 [.int .i64 p.1,.int .i64 p.2]:=by
 obtain⟨h1,h2⟩:=TO h;have hi:=(List.getElem?_eq_some_iff.1 h).1;have hl:=Ei L;rw[Nat.zero_add];refine .cons ?_ (.cons ?_ (.nil _))
 ·rw[getElem?_append_left (by omega)];exact h1
 ·rw[getElem?_append_left (by omega)];exact h2
@[reducible] def FL (v:Value) (l:List Fl):Q2:=QC 307 2 v (Ak l)
@[reducible] def UL (v:Value) (l:List Nat):Q2:=QC 83 1 v (Qa l)
theorem Mc [Q4] (f:Fl) (hf:Re f) {w:World} {fr:List Q2} (H:Q0 w fr):Calls Tryz.prog 250 #[fv f] w (ret fun v w'=>v = .bool true∧Q0 w' fr):=by
 obtain⟨a,d⟩:=f;obtain⟨h1,h2⟩:=hf;dsimp only at h1 h2;refine Q9 Tryz.func250 rfl (by kernel_rfl) ?_;refine J8 H ?_;clear H;intro b1 w H;refine J0 H ?_;refine Xq H ?_;rw[show decide ((a:Int)≥0)=true from decide_eq_true (by omega)];refine A8 H ?_;rw[show decide ((a:Int) < 64)=true from decide_eq_true (by omega)];refine Bc H ?_;rw[show decide ((d:Int) > 0)=true from decide_eq_true (by omega)];refine YP H ?_;refine KD H ?_;refine KD H ?_;refine Zr H ?_;rw[show decide ((d:Int)≤IntKind.i64.wrap (64 - (a:Int)))=true from decide_eq_true (by rw[Qb (by omega) (by omega)];omega)];refine J3 H ?_;exact Q3 (Jy H.drop rfl fun w' H'=>⟨rfl,H'⟩)
theorem Ej [Q4] (f:Fl) (hf:Re f) {w:World} {fr:List Q2} (H:Q0 w fr):Calls Tryz.prog 218 #[fv f] w (ret fun v w'=>v = .int .u64 (Yc f.1 f.2)∧Q0 w' fr):=by
 obtain⟨a,d⟩:=f;obtain⟨h1,h2⟩:=hf;dsimp only at h1 h2;refine Q9 Tryz.func218 rfl (by kernel_rfl) ?_;refine J8 H ?_;clear H;intro b1 w H;refine J0 H ?_;have e64:IntKind.i64.wrap (64 - (d:Int))=((64 - d:Nat):Int):=by rw[Qb (by omega) (by omega)];omega
 have e1:XX .u64 18446744073709551615 ((64 - d:Nat):Int)=((2 ^ d - 1:Nat):Int):=by
  rw[show (18446744073709551615:Int)=((18446744073709551615:Nat):Int) from rfl,BL (by omega) rfl];congr 1;have hp:(18446744073709551615:Nat)=2 ^ d*2 ^ (64 - d) - 1:=by rw[← Nat.pow_add,show d+(64 - d)=64 by omega]
  rw[hp];have hd:=Nat.two_pow_pos (64 - d);have hd2:=Nat.two_pow_pos d
  rw[show 2 ^ d*2 ^ (64 - d) - 1=(2 ^ (64 - d) - 1)+2 ^ (64 - d)*(2 ^ d - 1) by
   rw[Nat.mul_sub,Nat.mul_comm (2 ^ d),Nat.mul_one];have:2 ^ (64 - d)≤2 ^ (64 - d)*2 ^ d:=Nat.le_mul_of_pos_right _ hd2;omega]
  rw[Nat.add_mul_div_left _ _ hd,Nat.div_eq_of_lt (by omega),Nat.zero_add]
 have e2:Xk .u64 ((2 ^ d - 1:Nat):Int) (a:Int)=(Yc a d:Nat):=by
  rw[HR (by omega)];have:=BN (a:=a) (wd:=d) h2;unfold Yc at this ⊢;rw[Nat.mod_eq_of_lt this]
 refine J1 H ?_;clear H;intro w H;refine RX H ?_;rw[e64]
 refine GC (v := .int .u64 (XX .u64 18446744073709551615 ((64 - d:Nat):Int))) 3 rfl (Q8.none rfl) (by
  show (if ((64 - d:Nat):Int) < 0 then none else some _)=_;rw[if_neg (by omega)]) (by kernel_rfl) ?_
 rw[e1];refine RK H ?_
 refine GC (v := .int .u64 (Xk .u64 ((2 ^ d - 1:Nat):Int) (a:Int))) 6 rfl (Q8.none rfl) (by
  show (if (a:Int) < 0 then none else some _)=_;rw[if_neg (by omega)]) (by kernel_rfl) ?_
 rw[e2];refine Ja 7 ?_;refine Jx H ?_;exact Q3 (Jy H.drop rfl fun w' H'=>⟨rfl,H'⟩)
def Rg (fs:List Fl):Prop:=(∀ f∈fs,Re f)∧fs.Pairwise (fun f g=>f.1+f.2≤g.1)
theorem Rg.at {fs:List Fl} (h:Rg fs) {i:Nat} {f:Fl} (hf:fs[i]? = some f):Re f:=h.1 f (mem_of_getElem? hf)
theorem Md [Q4] (v:Value) (fs:List Fl) (hfs:Rg fs) (hl:fs.length≤1000000) {w:World} {fr:List Q2} (H:Q0 w (FL v fs::fr)) :
  Calls Tryz.prog 217 #[v] w (ret fun x w'=>x = .bool true∧Q0 w' (FL v fs::fr)):=by
 obtain⟨a,c,rfl⟩:=QF H (Ei fs) (by decide);refine Q9 Tryz.func217 rfl (by kernel_rfl) ?_;refine VB H ?_;refine A9 H ?_;refine Ql (fun ms σ w n=>ms=[]∧∃ (i A:Nat),i≤fs.length∧n=fs.length - i∧(∀ f∈fs.drop i,A < 2 ^ f.1)∧σ 3 = .int .u64 A∧σ 6 = .slice a fs.length c∧σ 7 = .int .i64 fs.length∧σ 8 = .int .i64 i∧Q0 w (FL (.slice a fs.length c) fs::fr)) (m:=fs.length) ⟨rfl,0,0,by omega,rfl,fun f _=>Nat.two_pow_pos _,rfl,rfl,rfl,rfl,H⟩ ?_;clear H;rintro ms σ w n ⟨rfl,i,A,hi,rfl,hA,g3,g6,g7,g8,H⟩;rw[Q1 g3,Q1 g6,Q1 g7,Q1 g8];refine J7 H ?_;refine Qk rfl (fun h=>QB ?_) (fun h=>Qq ?_)
 ·have hlt:i < fs.length:=by omega
  have hx:=getElem?_eq_getElem hlt;have hdr:fs.drop i=fs[i]::fs.drop (i+1):=drop_eq_getElem_cons hlt;have hpw:=hfs.2;rw[← take_append_drop i fs,hdr] at hpw;have hpw2:=(pairwise_cons.1 (pairwise_append.1 hpw).2.1).1;rw[hdr] at hA;generalize fs[i]=f at hx hpw2 hA;have hf:=hfs.at hx;have hAf:=hA f (by simp);have hA64:A < 18446744073709551616:=Nat.lt_of_lt_of_le hAf (Nat.le_trans (Nat.pow_le_pow_right (by decide) (show f.1≤64 by have:=hf.2;omega)) (by decide));have hm64:=BN (a:=f.1) (wd:=f.2) hf.2
  have hand:YN .and .u64 (A:Int) (Yc f.1 f.2:Nat)=0:=by
   rw[DM hA64 hm64,MK,Nat.div_eq_of_lt hAf];simp
  have hor:YN .or .u64 (A:Int) (Yc f.1 f.2:Nat)=((A+Yc f.1 f.2:Nat):Int):=by
   rw[MG hA64 hm64];unfold Yc;rw[MR hAf]
  obtain⟨b,s,rfl,H,hclose⟩:=V5 H (by omega);refine YW H ?_;refine Jd ?_;refine Q5 rfl (VN H rfl (Hg hx) rfl ?_);refine VZ H ?_;clear H;intro b5 w H;refine J4 H ?_;clear H;intro w H;refine QG ?_
  repeat refine Q6 ?_
  refine QZ ?_;refine Q5 rfl (VN H rfl (by repeat first|exact .nil _|apply QV.cons rfl) rfl ?_);refine Jc rfl rfl (Mc f hf H) ?_;clear H;rintro v w ⟨rfl,H⟩;refine Bd H ?_;refine WZ H ?_;refine QT rfl rfl rfl (V1 (a:=[]) (b:=[]) rfl rfl (call (Ej f hf H) ?_));clear H;rintro v w ⟨rfl,H⟩;refine V2 rfl rfl (v := .int .u64 (YN .and .u64 (A:Int) (Yc f.1 f.2:Nat))) rfl rfl ?_;rw[hand];refine Xr H ?_;refine Gv H ?_;refine Jc rfl rfl (Ej f hf H) ?_;clear H;rintro v w ⟨rfl,H⟩;refine UD (v := .int .u64 (YN .or .u64 (A:Int) (Yc f.1 f.2:Nat))) rfl rfl ?_;rw[hor];refine YA H ?_;replace H:=hclose _ _ H.drop;refine⟨_,⟨rfl,i+1,A+Yc f.1 f.2,hlt,rfl,fun g hg=>?_,rfl,rfl,rfl,Qc (by omega),H⟩,by omega⟩;have h1:=hpw2 g hg
  have h2:A+Yc f.1 f.2 < 2 ^ (f.1+f.2):=by
   unfold Yc;rw[Nat.pow_add,Nat.sub_mul,Nat.one_mul,Nat.mul_comm (2 ^ f.2)];have:2 ^ f.1≤2 ^ f.1*2 ^ f.2:=Nat.le_mul_of_pos_right _ (Nat.two_pow_pos _);omega
  exact Nat.lt_of_lt_of_le h2 (Nat.pow_le_pow_right (by decide) h1)
 ·refine VB H ?_;exact Q3 (Jy H rfl fun w' H'=>⟨rfl,H'⟩)
def Yx (x:Nat) (f:Fl):Nat:=x / 2 ^ f.1 % 2 ^ f.2
theorem Hh [Q4] (x:Nat) (hx64:x < 18446744073709551616) (v:Value) (fs:List Fl) (hfs:Rg fs) (hl:fs.length≤1000) {w:World} {fr:List Q2} (H:Q0 w (FL v fs::fr)) :
  Calls Tryz.prog 145 #[.int .u64 x,v] w (ret fun r w'=>∃ u,r = .tuple #[u,.int .i64 0]∧Q0 w' (UL u (fs.map (Yx x))::FL v fs::fr)):=by
 obtain⟨a,c,rfl⟩:=QF H (Ei fs) (by decide);refine Q9 Tryz.func145 rfl (by kernel_rfl) ?_;refine DT H ?_;refine Jc rfl rfl (Md _ fs hfs (by omega) H) ?_;clear H;rintro v w ⟨rfl,H⟩;refine Y7 H ?_;refine A9 H ?_;refine Ql (fun ms σ w n=>ms=[]∧∃ (i:Nat) (g:Value),i≤fs.length∧n=fs.length - i∧σ 0 = .int .u64 x∧σ 6=g∧σ 12 = .slice a fs.length c∧σ 13 = .int .i64 fs.length∧σ 14 = .int .i64 i∧Q0 w (UL g ((fs.take i).map (Yx x))::FL (.slice a fs.length c) fs::fr)) (m:=fs.length) ⟨rfl,0,_,by omega,rfl,rfl,rfl,rfl,rfl,rfl,Z2 H⟩ ?_;clear H;rintro ms σ w n ⟨rfl,i,g,hi,rfl,g0,g6,g12,g13,g14,H⟩;obtain⟨ag,cg,rfl⟩:=QF H (Z4 _) (by decide);rw[Q1 g0,Q1 g6,Q1 g12,Q1 g13,Q1 g14];refine J7 H ?_;refine Qk rfl (fun h=>QB ?_) (fun h=>Qq ?_)
 ·have hlt:i < fs.length:=by omega
  have hx:=getElem?_eq_getElem hlt;generalize fs[i]=f at hx;have hf:=hfs.at hx;have hm64:=BN (a:=f.1) (wd:=f.2) hf.2;have hf1:f.1 < 64:=by have:=hf.1;have:=hf.2;omega
  have hsh:XX .u64 (YN .and .u64 (x:Int) (Yc f.1 f.2:Nat)) (f.1:Int)=(Yx x f:Nat):=by
   rw[DM hx64 hm64,BL hf1 rfl,So];rfl
  replace H:=Js [1,0] 0 H;obtain⟨b,s,rfl,H,hclose⟩:=V5 H (by omega);refine YW H ?_;refine Jd ?_;refine Q5 rfl (VN H rfl (Hg hx) rfl ?_);refine VZ H ?_;clear H;intro b8 w H;refine J4 H ?_;clear H;intro w H;refine J2 H ?_;replace H:=hclose _ _ H.swap;replace H:=Js [2,1,0] 0 H;refine J1 H ?_;clear H;intro w H;refine WG H ?_;refine VP 2 [3,8,9] H rfl (Q8.none rfl) rfl (by repeat first|exact .nil _|apply QV.cons rfl) (by kernel_rfl) ?_;refine Jf 5 ?_;refine Jl 6 [8,9] H ?_;refine Jo 3 H ?_;refine Jk rfl rfl (Ej f hf H) ?_;clear H;rintro v w ⟨rfl,H⟩;refine GC (v := .int .u64 (YN .and .u64 (x:Int) (Yc f.1 f.2:Nat))) 4 rfl (Q8.none rfl) rfl (by kernel_rfl) ?_
  refine GC (v := .int .u64 (XX .u64 (YN .and .u64 (x:Int) (Yc f.1 f.2:Nat)) (f.1:Int))) 7 rfl (Q8.none rfl) (by
   show (if (f.1:Int) < 0 then none else some _)=_;rw[if_neg (by omega)]) (by kernel_rfl) ?_
  rw[hsh];refine Jo 8 H ?_;refine WU H ?_;clear H;intro b26 w H;replace H:=Js [1,0,1] 1 H;refine Jo 9 H ?_;refine YO H rfl rfl (by repeat first|exact .nil _|apply QV.cons rfl) rfl (by decide) (by rw[Z4,length_map,length_take];simp only[length_cons,length_nil];omega) rfl rfl ?_;clear H;intro v27 w H;obtain⟨a27,m27,c27,rfl⟩:=Qw H;refine WX H ?_;refine J5 H ?_;replace H:=Js [0,1] 1 H;refine⟨_,⟨rfl,i+1,_,hlt,rfl,rfl,rfl,rfl,rfl,Qc (by omega),?_⟩,by omega⟩
  have ht:(fs.take (i+1)).map (Yx x)=(fs.take i).map (Yx x)++[Yx x f]:=by
   rw[take_add_one,hx,map_append];rfl
  rw[ht];show Q0 w (QC _ 1 _ (Qa ((fs.take i).map (Yx x)++[Yx x f]))::_);rw[TM];exact H
 ·have hge:i=fs.length:=by omega
  subst hge;rw[take_length] at H;refine VX H ?_;exact Q3 (YV (vs:=[.slice ag (List.map (Yx x) fs).length cg,.int .i64 0]) _ (.inr rfl) H (by rw[take_length];rfl) fun w' H'=>⟨_,rfl,H'⟩)
theorem Me:∀ (f x:Nat),Lib.bitLenAux f x≤f
 | 0,_=>Nat.le_refl _
 | f+1,x=>by
  unfold Lib.bitLenAux;split
  ·omega
  ·have:=Me f (x / 2);omega
theorem TP {x k:Nat} (h:x < 2 ^ k) (hk:k≤64):Lib.bitLen x≤k:=by
 unfold Lib.bitLen;rw[Lib.bitLenAux_fuel k x h 64 hk];exact Me k x
theorem TS [Q4] (x:Nat) (hx:x < 18446744073709551616) {w:World} {fr:List Q2} (H:Q0 w fr):Calls Tryz.prog 197 #[.int .u64 x] w (ret fun v w'=>v = .int .i64 (Lib.bitLen x)∧Q0 w' fr):=by
 refine(Any.bits_Len64 Tryz.laysLen (x:Int) w (by omega) (by omega)).mono ?_;rintro e w' ⟨rfl,rfl⟩;exact⟨by rw[Int.toNat_natCast],H⟩
theorem Ek {k:Nat} (h:k≤64):2 ^ k≤18446744073709551616:=Nat.le_trans (Nat.pow_le_pow_right (by decide) h) (by decide)
theorem TT [Q4] (x:Nat) (f:Fl) (y:Nat) (hf:Re f) (hx:x < 2 ^ f.1) (hy:y < 2 ^ f.2) {w:World} {fr:List Q2} (H:Q0 w fr) :
  Calls Tryz.prog 247 #[.int .u64 x,fv f,.int .u64 y] w (ret fun v w'=>v = .tuple #[.int .u64 ((x+y*2 ^ f.1:Nat):Int),.int .i64 0]∧Q0 w' fr):=by
 have h1:=hf.1;have h2:=hf.2;have hx64:x < 18446744073709551616:=Nat.lt_of_lt_of_le hx (Ek (by omega));have hy64:y < 18446744073709551616:=Nat.lt_of_lt_of_le hy (Ek (by omega));have hm64:=BN (a:=f.1) (wd:=f.2) hf.2;have hbl:=TP hy (by omega);have e1:YN .andNot .u64 (x:Int) (Yc f.1 f.2:Nat)=(x:Nat):=by rw[Sn hx64 hm64,Sp hx hf.2]
 have hyy:y*2 ^ f.1 < 18446744073709551616:=by
  have:y*2 ^ f.1 < 2 ^ f.2*2 ^ f.1:=(Nat.mul_lt_mul_right (Nat.two_pow_pos _)).2 hy;rw[← Nat.pow_add] at this;exact Nat.lt_of_lt_of_le this (Ek (by omega))
 have e2:Xk .u64 (y:Int) (f.1:Int)=((y*2 ^ f.1:Nat):Int):=by rw[HR (by omega),Nat.mod_eq_of_lt hyy]
 have e3:YN .or .u64 (x:Int) ((y*2 ^ f.1:Nat):Int)=((x+y*2 ^ f.1:Nat):Int):=by rw[MG hx64 hyy,MR hx]
 obtain⟨a,d⟩:=f;dsimp only at h1 h2 hx hy hm64 hbl e1 e2 e3 hyy;refine Q9 Tryz.func247 rfl (by kernel_rfl) ?_;refine J8 H ?_;clear H;intro b4 w H;refine KE H ?_;refine Qo (fun ms σ w=>ms=[]∧σ 0 = .int .u64 x∧σ 2 = .int .u64 y∧σ 4=pp b4∧Q0 w (pts b4 (row 307 [.int .i64 a,.int .i64 d])::fr)) ?_ ?_
 ·refine QP ?_;refine GJ H ?_;refine Jc rfl rfl (Mc (a,d) hf H) ?_;clear H;rintro v w ⟨rfl,H⟩;refine KF H ?_;refine J1 H ?_;clear H;intro w H;refine Ja 0 ?_;refine Jf 2 ?_;refine Jl 3 [] H ?_;refine Jo 1 H ?_;refine Jk rfl rfl (TS y hy64 H) ?_;clear H;rintro v w ⟨rfl,H⟩;refine Ja 4 ?_;rw[show decide (((Lib.bitLen y:Nat):Int) > (d:Int))=false from decide_eq_false (by omega)];refine Ja 5 ?_;refine Jx H ?_;refine V6 H ?_;exact⟨rfl,rfl,rfl,rfl,rfl,H⟩
 ·clear H;rintro ms σ w ⟨rfl,g0,g2,g4,H⟩;rw[Q1 g0,Q1 g2,Q1 g4];refine J1 H ?_;clear H;intro w H;refine Ja 0 ?_;refine VP 1 [2] H rfl (Q8.none rfl) rfl (by repeat first|exact .nil _|apply QV.cons rfl) (by kernel_rfl) ?_;refine Ja 4 ?_;refine Jf 5 ?_;refine Jl 6 [] H ?_
  refine GC (v := .int .u64 (Xk .u64 (y:Int) (a:Int))) 7 rfl (Q8.none rfl) (by
   show (if (a:Int) < 0 then none else some _)=_;rw[if_neg (by omega)]) (by kernel_rfl) ?_
  rw[e2];refine Jo 2 H ?_;refine Jk rfl rfl (Ej (a,d) hf H) ?_;clear H;rintro v w ⟨rfl,H⟩;refine GC (v := .int .u64 (YN .andNot .u64 (x:Int) (Yc a d:Nat))) 3 rfl (Q8.none rfl) rfl (by kernel_rfl) ?_;rw[e1];refine GC (v := .int .u64 (YN .or .u64 (x:Int) ((y*2 ^ a:Nat):Int))) 8 rfl (Q8.none rfl) rfl (by kernel_rfl) ?_;rw[e3];refine Ja 9 ?_;refine WX H ?_;exact Q3 (Jy H.drop rfl fun w' H'=>⟨rfl,H'⟩)
def G6:List Fl→List Nat→Nat
 | f::fs,x::xs=>x*2 ^ f.1+G6 fs xs
 | _,_=>0
theorem Mf:∀ (fs:List Fl) (xs:List Nat) (f:Fl) (x:Nat),fs.length=xs.length→G6 (fs++[f]) (xs++[x])=G6 fs xs+x*2 ^ f.1
 | [],[],f,x,_=>by simp[G6]
 | [],_::_,_,_,h=>by simp at h
 | _::_,[],_,_,h=>by simp at h
 | g::fs,y::xs,f,x,h=>by
  have ih:=Mf fs xs f x (by simpa using h);show y*2 ^ g.1+G6 (fs++[f]) (xs++[x])=y*2 ^ g.1+G6 fs xs+x*2 ^ f.1;rw[ih];omega
theorem El [Q4] (vf vx:Value) (fs:List Fl) (xs:List Nat) (hfs:Rg fs) (hl:fs.length≤1000) (hlen:fs.length=xs.length) (hb:∀ (i:Nat) (f:Fl) (x:Nat),fs[i]? = some f→xs[i]? = some x→x < 2 ^ f.2) {w:World} {fr:List Q2} (H:Q0 w (FL vf fs::UL vx xs::fr)) :
  Calls Tryz.prog 206 #[vf,vx] w (ret fun v w'=>v = .tuple #[.int .u64 (G6 fs xs),.int .i64 0]∧Q0 w' (FL vf fs::UL vx xs::fr)):=by
 obtain⟨a,c,rfl⟩:=QF H (Ei fs) (by decide);obtain⟨a1,c1,rfl⟩:=QF H.drop (Z4 xs) (by decide);refine Q9 Tryz.func206 rfl (by kernel_rfl) ?_;refine DT H ?_;refine Be H ?_;refine Be H ?_;rw[show ((fs.length:Int) != (xs.length:Int))=false by rw[hlen];simp];refine AQ H ?_;refine QT rfl rfl rfl (V1 (a:=[]) (b:=[]) rfl rfl (call (Md _ fs hfs (by omega) H) ?_));clear H;rintro v w ⟨rfl,H⟩;refine Xr H ?_;refine A9 H ?_;refine Ql (fun ms σ w n=>ms=[]∧∃ i:Nat,i≤fs.length∧n=fs.length - i∧(∀ f∈fs.drop i,G6 (fs.take i) (xs.take i) < 2 ^ f.1)∧σ 1 = .slice a1 xs.length c1∧σ 6 = .int .u64 (G6 (fs.take i) (xs.take i))∧σ 20 = .slice a fs.length c∧σ 21 = .int .i64 fs.length∧σ 22 = .int .i64 i∧Q0 w (FL (.slice a fs.length c) fs::UL (.slice a1 xs.length c1) xs::fr)) (m:=fs.length) ⟨rfl,0,by omega,rfl,fun f _=>by simp only[take_zero,G6];exact Nat.two_pow_pos _,rfl,rfl,rfl,rfl,rfl,H⟩ ?_;clear H;rintro ms σ w n ⟨rfl,i,hi,rfl,hW,g1,g6,g20,g21,g22,H⟩;rw[Q1 g1,Q1 g6,Q1 g20,Q1 g21,Q1 g22];refine J7 H ?_;refine Qk rfl (fun h=>QB ?_) (fun h=>Qq ?_)
 ·have hlt:i < fs.length:=by omega
  have hx:=getElem?_eq_getElem hlt;have hy:=getElem?_eq_getElem (l:=xs) (i:=i) (by omega);have hdr:fs.drop i=fs[i]::fs.drop (i+1):=drop_eq_getElem_cons hlt;have hpw:=hfs.2;rw[← take_append_drop i fs,hdr] at hpw;have hpw2:=(pairwise_cons.1 (pairwise_append.1 hpw).2.1).1;rw[hdr] at hW;generalize fs[i]=f at hx hpw2 hW;generalize xs[i]'(by omega)=y at hy;have hf:=hfs.at hx;have hWf:=hW f (by simp);have hyb:=hb i f y hx hy
  have hsn:G6 (fs.take (i+1)) (xs.take (i+1))=G6 (fs.take i) (xs.take i)+y*2 ^ f.1:=by
   rw[take_add_one,take_add_one,hx,hy];exact Mf _ _ f y (by rw[length_take,length_take,hlen])
  obtain⟨b,s,rfl,H,hclose⟩:=V5 H (by omega);obtain⟨b2,s2,rfl,H,hclose2⟩:=V5 H.swap (by omega);refine Bf H ?_;refine Jd ?_;refine Q5 rfl (VN H rfl (Hg hx) rfl ?_);refine VZ H ?_;clear H;intro b8 w H;refine Da H ?_;clear H;intro w H;refine J2 H ?_;refine J7 H ?_;refine RZ H mixed ?_;clear H;intro w H;refine Ja 0 ?_;refine VP 1 [6] H rfl (Q8.none rfl) rfl (by repeat first|exact .nil _|apply QV.cons rfl) (by kernel_rfl) ?_;refine Ja 2 ?_;refine Ja 3 ?_;refine Ji 4 ?_;refine Vm 5 [6] H rfl (Q8.none rfl) rfl (Hf hy) (by kernel_rfl) ?_
  refine Jo 6 H ?_;refine Jk rfl rfl (TT _ f y hf hWf hyb H) ?_;clear H;rintro v w ⟨rfl,H⟩;refine UJ H ?_;refine U8 H ?_;refine J5 H ?_;replace H:=Js [1,1] 1 H;replace H:=hclose2 _ _ H;replace H:=hclose _ _ H.swap;refine⟨_,⟨rfl,i+1,hlt,rfl,fun g hg=>?_,rfl,?_,rfl,rfl,Qc (by omega),H⟩,by omega⟩
  ·have h1:=hpw2 g hg;rw[hsn]
   have h2:G6 (fs.take i) (xs.take i)+y*2 ^ f.1 < 2 ^ (f.1+f.2):=by
    rw[Nat.pow_add];have:(y+1)*2 ^ f.1≤2 ^ f.2*2 ^ f.1:=Nat.mul_le_mul_right _ hyb;rw[Nat.add_mul,Nat.one_mul] at this;rw[Nat.mul_comm (2 ^ f.1)];omega
   exact Nat.lt_of_lt_of_le h2 (Nat.pow_le_pow_right (by decide) h1)
  ·rw[hsn];rfl
 ·have hge:i=fs.length:=by omega
  subst hge;refine VX H ?_;refine Q3 (Jy H rfl fun w' H'=>⟨?_,H'⟩);have e:xs.take fs.length=xs:=by rw[hlen,take_length]
  rw[take_length,e];rfl
end Go.Proofs.YtmjdnljneifpcaaGreatDoor
