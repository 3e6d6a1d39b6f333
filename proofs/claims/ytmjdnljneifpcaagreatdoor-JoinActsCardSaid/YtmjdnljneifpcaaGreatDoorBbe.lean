/- Cells: what is proved on the way: every input of the statement; no condition. Texts joined: Dic FldA FldB FldC. -/
import Derived.Test.YtmjdnljneifpcaaGreatDoorBba
import Derived.Test.YtmjdnljneifpcaaGreatDoorBbb
import Derived.Test.YtmjdnljneifpcaaGreatDoorBbc
import Derived.Test.YtmjdnljneifpcaaGreatDoorBbd
set_option linter.unusedVariables false
set_option linter.unusedSimpArgs false
set_option linter.unusedSectionVars false
namespace Go.SL
section
variable [Q0i] {P:Program} {n:Nat} {r:Option Nat} {ops:Array Oper} {Q:V3f} {ms:List Nat} {σ:Env} {w:World} {rest:List Oper} {o:Oper} {l:List Q0e} {ivs:List (List Nat×(World→Prop))} {T:Env→World→Prop} {f:Nat} {L:Array Bool} {t u:TypeId} {p:String} {af:Array Edge} {g:Option (Nat×Bool)} {d:Option Tmp} {x:Operand} {G K:Prop}
theorem Jo (j:Nat) (H:Q0a w l) (k:St P n r o σ w (Any P n r ops ivs T f (L.setIfInBounds j true))) (hi:ops[j]? = some o:=by rfl) (hr:Region.ready .any ops L=[j]:=by kernel_rfl)
  (hI:Q0a w l→Q9y ivs L w:=by intro H;repeat first|exact Q9y.nil|refine Q9y.cons (.inr (Q0a.at H)) ?_|refine Q9y.cons (.inr (Q0a.mp H)) ?_|refine Q9y.cons (.inl (by kernel_rfl)) ?_)
  (hg:Q0n ops σ o true:=by first|exact Q0n.none rfl|exact Q0n.of rfl rfl rfl):Any P n r ops ivs T (f+1) L σ w:=Z9y j hi hr (hI H) hg k
theorem Ja {op:Op} {v:Value} (i:Nat) (k:Any P n r ops ivs T f (L.setIfInBounds i true) (put σ d v) w) (hi:ops[i]? = some ⟨d,op,u,p,af,g⟩:=by rfl) (hg:Q0n ops σ ⟨d,op,u,p,af,g⟩ true:=by first|exact Q0n.none rfl|exact Q0n.of rfl rfl rfl) (hv:pv σ op=some v:=by rfl) (hs:stB n ops (ivs.map (·.1)) L i []=true:=by kernel_rfl):Any P n r ops ivs T (f+1) L σ w:=Z0w i hi hg hv hs k
theorem Jf {s:TypeId} {fi off b i₀:Nat} (i:Nat) (k:Any P n r ops ivs T f (L.setIfInBounds i true) (put σ d (.pointer (some ⟨b,i₀+off,none⟩))) w) (hi:ops[i]? = some ⟨d,.fieldAddr s x fi,u,p,af,g⟩:=by rfl) (hg:Q0n ops σ ⟨d,.fieldAddr s x fi,u,p,af,g⟩ true:=by first|exact Q0n.none rfl|exact Q0n.of rfl rfl rfl) [hf:Q1a P s fi off] (hx:ev σ x = .pointer (some ⟨b,i₀,none⟩):=by rfl) (hs:stB n ops (ivs.map (·.1)) L i []=true:=by kernel_rfl):Any P n r ops ivs T (f+1) L σ w:=Z0y i hi hg hx hs k
theorem Jl {b i₀ E:Nat} {fz:Nat×Nat} {c:List Value} {v:Value} (i:Nat) (D:List Nat) (H:Q0a w l) (k:Any P n r ops ((D,fun w=>w.heap[b]? = some (.cells c.toArray E fz))::ivs) T f (L.setIfInBounds i true) (put σ d v) w) (hi:ops[i]? = some ⟨d,.load t x,u,p,af,g⟩:=by rfl) (hg:Q0n ops σ ⟨d,.load t x,u,p,af,g⟩ true:=by first|exact Q0n.none rfl|exact Q0n.of rfl rfl rfl) (hx:ev σ x = .pointer (some ⟨b,i₀,none⟩):=by rfl) (h1:T1 P t:=by infer_instance) (ha:At b (.cells c.toArray E fz) l:=by infer_instance) (hv:c[i₀]? = some v:=by rfl) (hs:stB n ops (ivs.map (·.1)) L i D=true:=by kernel_rfl):Any P n r ops ivs T (f+1) L σ w:=Q2b i D H hi hg hx hv hs k
theorem Jn {op:Op} (i:Nat) (k:Any P n r ops ivs T f (L.setIfInBounds i true) (put σ d undef) w) (hi:ops[i]? = some ⟨d,op,u,p,af,g⟩:=by rfl) (hg:Q0n ops σ ⟨d,op,u,p,af,g⟩ false:=by first|exact Q0n.of rfl rfl rfl|exact Q0n.skip rfl rfl) (hf:∀ c,op ≠ .defer c:=by intro c e;cases e) (hs:stB n ops (ivs.map (·.1)) L i []=true:=by kernel_rfl):Any P n r ops ivs T (f+1) L σ w:=U9w i hi hg hf hs k
theorem Ji {e size bytes b o len cap:Nat} {q:IntKind} {i:Int} {ix:Operand} (j:Nat) (k:Any P n r ops ivs T f (L.setIfInBounds j true) (put σ d (.pointer (some ⟨b,o+i.toNat*size,none⟩))) w) (hj:ops[j]? = some ⟨d,.indexAddr t x ix,u,p,af,g⟩:=by rfl) (hg:Q0n ops σ ⟨d,.indexAddr t x ix,u,p,af,g⟩ true:=by first|exact Q0n.none rfl|exact Q0n.of rfl rfl rfl) [hT:Q2m P t e size bytes] (hx:ev σ x = .slice (some ⟨b,o,none⟩) len cap:=by rfl) (hi:ev σ ix = .int q i:=by rfl) (h0:0≤i:=by omega) (h1:i < len:=by omega) (hs:stB n ops (ivs.map (·.1)) L j []=true:=by kernel_rfl):Any P n r ops ivs T (f+1) L σ w:=Q4z j hj hg hx hi h0 h1 hs k
theorem Jd {e size bytes b o len cap:Nat} {q:IntKind} {i:Int} {ix:Operand} (k:Lp P n r ops Q rest ms (put σ d (.pointer (some ⟨b,o+i.toNat*size,none⟩))) w) [hT:Q2m P t e size bytes] (hx:ev σ x = .slice (some ⟨b,o,none⟩) len cap:=by rfl) (hi:ev σ ix = .int q i:=by rfl) (h0:0≤i:=by omega) (h1:i < len:=by omega) (hd:okd n d=true:=by rfl):Lp P n r ops Q (⟨d,.indexAddr t x ix,u,p,af,none⟩::rest) ms σ w:=Q0s rfl (Q2k hx hi h0 h1 hd k)
theorem Jv {op:Op} {v:Value} (k:Lp P n r ops Q rest ms (put σ d v) w) (h:pv σ op=some v:=by rfl) (hd:okd n d=true:=by rfl):Lp P n r ops Q (⟨d,op,u,p,af,none⟩::rest) ms σ w:=V5d h hd k
theorem Jx (H:Q0a w l) (k:T σ w) (hr:Region.ready .any ops L=[]:=by kernel_rfl) (hI:Q0a w l→Q9y ivs L w:=by intro H;repeat first|exact Q9y.nil|refine Q9y.cons (.inr (Q0a.at H)) ?_|refine Q9y.cons (.inr (Q0a.mp H)) ?_|refine Q9y.cons (.inl (by kernel_rfl)) ?_):Any P n r ops ivs T f L σ w:=G9f hr (hI H) k
theorem Jw {o o':Oper} (i j:Nat) (H:Q0a w l) (hi:ops[i]? = some o) (hj:ops[j]? = some o') (k:St P n r o σ w (Any P n r ops ivs T f (L.setIfInBounds i true))) (k':St P n r o' σ w (Any P n r ops ivs T f (L.setIfInBounds j true))) (hr:Region.ready .any ops L=[i,j]:=by kernel_rfl) (hI:Q0a w l→Q9y ivs L w:=by intro H;repeat first|exact Q9y.nil|refine Q9y.cons (.inr (Q0a.at H)) ?_|refine Q9y.cons (.inr (Q0a.mp H)) ?_|refine Q9y.cons (.inl (by kernel_rfl)) ?_) (hg:Q0n ops σ o true:=by first|exact Q0n.none rfl|exact Q0n.of rfl rfl rfl) (hg':Q0n ops σ o' true:=by first|exact Q0n.none rfl|exact Q0n.of rfl rfl rfl):Any P n r ops ivs T (f+1) L σ w:=U8u i j hi hj hr (hI H) hg hg' k k'
theorem Jk {f:FuncId} {K:Env→World→Prop} {xs:List Operand} {ts:Array TypeId} {R:Value→World→Prop} (hx:ev σ x = .func (.func f) #[] #[]) [hb:Q0p P f] (hd:okd n d=true) (s:Calls P f (xs.map (ev σ)).toArray w (ret R)) (k:∀ v w',R v w'→K (put σ d v) w') :
  St P n r ⟨d,.call { callee := .value x,args:=xs.toArray,argTypes:=ts },u,p,af,g⟩ σ w K:=Q1h (a:=[]) (b:=[]) hx hd (by rw[List.nil_append,List.append_nil];exact call s k)
theorem Jc {f:FuncId} {xs:List Operand} {ts:Array TypeId} {R:Value→World→Prop} (hx:ev σ x = .func (.func f) #[] #[]) [hb:Q0p P f] (hd:okd n d=true) (s:Calls P f (xs.map (ev σ)).toArray w (ret R)) (k:∀ v w',R v w'→Lp P n r ops Q rest ms (put σ d v) w') :
  Lp P n r ops Q (⟨d,.call { callee := .value x,args:=xs.toArray,argTypes:=ts },u,p,af,none⟩::rest) ms σ w:=Q0s rfl (Jk hx hd s k)
theorem Js {l':List Q0e} (is:List Nat) (m:Nat) (H:Q0a w l) (h:Q0a w (sel is m l)→Q0a w l':=by intro H;dsimp only[SL.sel,SL.pull,List.drop] at H;exact H):Q0a w l':=h (H.sel is m)
theorem Jy {fn:Func} {R:Value→World→Prop} {e:Exit} {vs:List Value} (H:Q0a w l) (h:res σ fn.results.toList=some vs) (hr:∀ w',Q0a w' l→R (G4r vs) w') (he:e = .normal∨e = .ret:=by first|exact .inr rfl|exact .inl rfl):V6p P n fn R e [] σ w:=Q2w _ he H h hr
theorem Jz {fn:Func} {R:Value→World→Prop} {e:Exit} {vs:List Value} (H:Q0a w l) (h:∀ w',Q0a w' l→V5g P σ w' fn.results.toList vs) (hr:∀ w',Q0a w' l→R (G4r vs) w') (he:e = .normal∨e = .ret:=by first|exact .inr rfl|exact .inl rfl):V6p P n fn R e [] σ w:=V8r _ he H h hr
theorem J0 (H:Q0a w l) (k:K) (h:Q0a w l→K→G:=by
 intro H k;refine Jv ?_;refine Q0h ?_;exact k):G:=h H k
theorem J1 (H:Q0a w l) (k:K) (h:Q0a w l→K→G:=by
 intro H k
 repeat refine Q0m ?_
 refine V5e H mixed ?_;exact k):G:=h H k
theorem J2 (H:Q0a w l) (k:K) (h:Q0a w l→K→G:=by
 intro H k;refine Jv ?_;refine Jv ?_;refine Q0h ?_;exact k):G:=h H k
theorem J3 (H:Q0a w l) (k:K) (h:Q0a w l→K→G:=by
 intro H k
 repeat refine Q0m ?_
 refine Q0f ?_;refine Jv ?_;refine Jv ?_;refine Q0h ?_;exact k):G:=h H k
theorem J4 (H:Q0a w l) (k:K) (h:Q0a w l→K→G:=by
 intro H k;refine Q0s rfl (Q3a H rfl rfl inferInstance rfl rfl (Nat.le_of_ble_eq_true rfl) rfl ?_);exact k):G:=h H k
theorem J5 (H:Q0a w l) (k:K) (h:Q0a w l→K→G:=by
 intro H k
 repeat refine Q0m ?_
 refine Q0f ?_;refine Jv ?_;refine Q0h ?_
 repeat refine Q0m ?_
 exact k):G:=h H k
theorem J6 (H:Q0a w l) (k:K) (h:Q0a w l→K→G:=by
 intro H k
 repeat refine Q0m ?_
 refine Q0f ?_;refine Jv ?_;refine Jv ?_;exact k):G:=h H k
theorem J7 (H:Q0a w l) (k:K) (h:Q0a w l→K→G:=by
 intro H k
 repeat refine Q0m ?_
 exact k):G:=h H k
theorem J8 (H:Q0a w l) (k:K) (h:Q0a w l→K→G:=by
 intro H k
 repeat refine Q0m ?_
 refine Q0f ?_;refine Q0s rfl (V5f H rfl rfl ?_);exact k):G:=h H k
theorem J9 (H:Q0a w l) (k:K) (h:Q0a w l→K→G:=by
 intro H k
 repeat refine Q0m ?_
 refine Q1y rfl (Q0w ?_);exact k):G:=h H k
theorem J10 (H:Q0a w l) (k:K) (h:Q0a w l→K→G:=by
 intro H k
 repeat refine Q0m ?_
 refine Q0f ?_;refine Jv ?_;refine Jv ?_;refine Q0s rfl (Q0q rfl rfl ?_);refine Q0s rfl (Q0l H rfl rfl rfl ?_);refine Jv ?_;exact k):G:=h H k
theorem J11 (H:Q0a w l) (k:K) (h:Q0a w l→K→G:=by
 intro H k
 repeat refine Q0m ?_
 refine Q0f ?_;refine Jv ?_;refine Jv ?_;refine Jv ?_;refine Q0h ?_;exact k):G:=h H k
theorem J12 (H:Q0a w l) (k:K) (h:Q0a w l→K→G:=by
 intro H k;refine Q0s rfl (Q1x H rfl ?_);exact k):G:=h H k
theorem J13 (H:Q0a w l) (k:K) (h:Q0a w l→K→G:=by
 intro H k
 repeat refine Q0m ?_
 refine Q3g rfl ?_;exact k):G:=h H k
theorem J14 (H:Q0a w l) (k:K) (h:Q0a w l→K→G:=by
 intro H k
 repeat refine Q0m ?_
 refine Q0f ?_;refine Jv ?_;refine Q0h ?_;exact k):G:=h H k
theorem J15 (H:Q0a w l) (k:K) (h:Q0a w l→K→G:=by
 intro H k
 repeat refine Q0m ?_
 refine Q0f ?_;refine Jv ?_;refine Jv ?_;refine Jv ?_;exact k):G:=h H k
theorem J16 (H:Q0a w l) (k:K) (h:Q0a w l→K→G:=by
 intro H k;refine Jv ?_;refine Jv ?_;refine Jv ?_;refine Q0s rfl (Q1x H rfl ?_);exact k):G:=h H k
theorem J17 (H:Q0a w l) (k:K) (h:Q0a w l→K→G:=by
 intro H k;refine Jv ?_;refine Q0h ?_
 repeat refine Q0m ?_
 refine Q1y rfl (Q0w ?_);exact k):G:=h H k
theorem J18 (H:Q0a w l) (k:K) (h:Q0a w l→K→G:=by
 intro H k;refine Jv ?_;refine Q0h ?_
 repeat refine Q0m ?_
 exact k):G:=h H k
theorem J19 (H:Q0a w l) (k:K) (h:Q0a w l→K→G:=by
 intro H k
 repeat refine Q0m ?_
 refine Q0t ?_
 repeat refine Q0m ?_
 refine Q0f ?_;exact k):G:=h H k
theorem J20 (H:Q0a w l) (k:K) (h:Q0a w l→K→G:=by
 intro H k
 repeat refine Q0m ?_
 refine Q0f ?_;refine Jv ?_;exact k):G:=h H k
theorem J21 (H:Q0a w l) (k:K) (h:Q0a w l→K→G:=by
 intro H k
 repeat refine Q0m ?_
 refine Q3g rfl ?_
 repeat refine Q0m ?_
 refine Q0f ?_;refine Jv ?_;refine Q0h ?_;exact k):G:=h H k
theorem J22 (H:Q0a w l) (k:K) (h:Q0a w l→K→G:=by
 intro H k;refine Jv ?_;refine Q0h ?_
 repeat refine Q0m ?_
 refine Q0f ?_;refine Jv ?_;refine Jv ?_;refine Q0h ?_;exact k):G:=h H k
theorem J23 (H:Q0a w l) (k:K) (h:Q0a w l→K→G:=by
 intro H k;refine Jv ?_;refine Q0h ?_
 repeat refine Q0m ?_
 refine Q0f ?_;refine Jv ?_;refine Jv ?_;refine Q0h ?_
 repeat refine Q0m ?_
 refine Q1y rfl (Q0w ?_);exact k):G:=h H k
theorem J24 (H:Q0a w l) (k:K) (h:Q0a w l→K→G:=by
 intro H k
 repeat refine Q0m ?_
 refine Q0f ?_;refine Q0s rfl (Q1x H rfl ?_);exact k):G:=h H k
theorem J25 (H:Q0a w l) (k:K) (h:Q0a w l→K→G:=by
 intro H k;refine Q2q rfl rfl rfl rfl ?_;exact k):G:=h H k
theorem J26 (H:Q0a w l) (k:K) (h:Q0a w l→K→G:=by
 intro H k;refine Jv ?_;refine Jv ?_;exact k):G:=h H k
theorem J27 (H:Q0a w l) (k:K) (h:Q0a w l→K→G:=by
 intro H k;refine Ja 0 ?_;refine Ja 1 ?_;refine Jf 2 ?_;exact k):G:=h H k
theorem J28 (H:Q0a w l) (k:K) (h:Q0a w l→K→G:=by
 intro H k
 repeat refine Q0m ?_
 refine Q3g rfl ?_
 repeat refine Q0m ?_
 refine Q0f ?_;refine Jv ?_;refine Jv ?_;refine Q0h ?_;exact k):G:=h H k
theorem J29 (H:Q0a w l) (k:K) (h:Q0a w l→K→G:=by
 intro H k
 repeat refine Q0m ?_
 refine Q0f ?_;refine Jv ?_;refine Jv ?_;refine Q0s rfl (Q0q rfl rfl ?_);refine Q0s rfl (Q0l H rfl rfl rfl ?_);exact k):G:=h H k
theorem J30 (H:Q0a w l) (k:K) (h:Q0a w l→K→G:=by
 intro H k
 repeat refine Q0m ?_
 refine Q0f ?_;refine Q0s rfl (Z9z H rfl rfl rfl ?_);exact k):G:=h H k
theorem J31 (H:Q0a w l) (k:K) (h:Q0a w l→K→G:=by
 intro H k
 repeat refine Q0m ?_
 refine Q1y rfl ?_
 repeat refine Q0m ?_
 refine Q0f ?_;refine Jv ?_;refine Jv ?_;refine Q0h ?_;exact k):G:=h H k
theorem J32 (H:Q0a w l) (k:K) (h:Q0a w l→K→G:=by
 intro H k;refine Jv ?_;refine Jv ?_;refine Jv ?_;refine Jv ?_;refine Jv ?_;refine Q0h ?_;exact k):G:=h H k
theorem J33 (H:Q0a w l) (k:K) (h:Q0a w l→K→G:=by
 intro H k;refine Q2q rfl rfl rfl rfl ?_;refine Q2q rfl rfl rfl rfl ?_;exact k):G:=h H k
theorem J34 (H:Q0a w l) (k:K) (h:Q0a w l→K→G:=by
 intro H k;refine Q4u rfl rfl rfl (Q0q rfl rfl ?_);refine Q4u rfl rfl rfl (Q0l H rfl rfl rfl ?_);refine Q2q rfl rfl rfl rfl ?_;exact k):G:=h H k
theorem J35 (H:Q0a w l) (k:K) (h:Q0a w l→K→G:=by
 intro H k;refine Q0s rfl (Q4g H rfl rfl rfl ?_);exact k):G:=h H k
theorem J36 (H:Q0a w l) (k:K) (h:Q0a w l→K→G:=by
 intro H k
 repeat refine Q0m ?_
 refine Q0f ?_;refine Q0s rfl (Q1j H rfl (by repeat first|exact .nil _|apply Q0o.cons rfl) rfl ?_);exact k):G:=h H k
theorem J37 (H:Q0a w l) (k:K) (h:Q0a w l→K→G:=by
 intro H k
 repeat refine Q0m ?_
 refine Q0f ?_;refine Jv ?_;refine Jv ?_;refine Q0s rfl (Q0q rfl rfl ?_);refine Q0s rfl (Q0l H rfl rfl rfl ?_);refine Jv ?_;refine Jv ?_;exact k):G:=h H k
theorem J38 (H:Q0a w l) (k:K) (h:Q0a w l→K→G:=by
 intro H k;refine Jv ?_;refine Jv ?_;refine Jv ?_;refine Jv ?_;refine Jv ?_;refine Q0h ?_
 repeat refine Q0m ?_
 refine Q0f ?_;refine Jv ?_;refine Jv ?_;refine Q0h ?_
 repeat refine Q0m ?_
 refine Q1y rfl (Q0w ?_);exact k):G:=h H k
theorem J39 (H:Q0a w l) (k:K) (h:Q0a w l→K→G:=by
 intro H k
 repeat refine Q0m ?_
 refine Q0f ?_;exact k):G:=h H k
theorem J40 (H:Q0a w l) (k:K) (h:Q0a w l→K→G:=by
 intro H k;refine Jv ?_;refine Q0s rfl (Q0q rfl rfl ?_);refine Q0s rfl (Q2e H rfl rfl inferInstance rfl (Nat.le_of_ble_eq_true rfl) rfl ?_);exact k):G:=h H k
theorem J41 (H:Q0a w l) (k:K) (h:Q0a w l→K→G:=by
 intro H k;refine Ja 11 ?_;refine Jx H ?_;exact k):G:=h H k
theorem J42 (H:Q0a w l) (k:K) (h:Q0a w l→K→G:=by
 intro H k
 repeat refine Q0m ?_
 refine Q0f ?_;refine Jv ?_;refine Q0s rfl (Q1j H rfl (by repeat first|exact .nil _|apply Q0o.cons rfl) rfl ?_);exact k):G:=h H k
theorem J43 (H:Q0a w l) (k:K) (h:Q0a w l→K→G:=by
 intro H k
 repeat refine Q0m ?_
 refine Q0t ?_;exact k):G:=h H k
theorem J44 (H:Q0a w l) (k:K) (h:Q0a w l→K→G:=by
 intro H k;refine Q2q rfl rfl rfl rfl ?_;refine Q2q rfl rfl rfl rfl ?_;refine Q2q rfl rfl rfl rfl ?_;exact k):G:=h H k
theorem J45 (H:Q0a w l) (k:K) (h:Q0a w l→K→G:=by
 intro H k;refine Q0s rfl (Q0q rfl rfl ?_);refine Q0s rfl (Q0l H rfl rfl rfl ?_);exact k):G:=h H k
theorem J46 (H:Q0a w l) (k:K) (h:Q0a w l→K→G:=by
 intro H k;refine Ja 7 ?_;refine Ja 8 ?_;refine Ja 9 ?_;refine Ja 10 ?_;refine Ja 11 ?_;refine Jx H ?_;exact k):G:=h H k
theorem J47 (H:Q0a w l) (k:K) (h:Q0a w l→K→G:=by
 intro H k
 repeat refine Q0m ?_
 refine Q0f ?_;refine Jv ?_;refine Jv ?_;refine Q0h ?_
 repeat refine Q0m ?_
 refine Q1y rfl (Q0w ?_);exact k):G:=h H k
theorem J48 (H:Q0a w l) (k:K) (h:Q0a w l→K→G:=by
 intro H k;refine Q0s rfl (Q6d rfl rfl ?_);exact k):G:=h H k
theorem J49 (H:Q0a w l) (k:K) (h:Q0a w l→K→G:=by
 intro H k;refine Q3a H rfl rfl inferInstance rfl rfl (Nat.le_of_ble_eq_true rfl) rfl ?_;exact k):G:=h H k
theorem J50 (H:Q0a w l) (k:K) (h:Q0a w l→K→G:=by
 intro H k
 repeat refine Q0m ?_
 refine Q0f ?_;refine Q0s rfl (Q0l H rfl rfl rfl ?_);exact k):G:=h H k
theorem J51 (H:Q0a w l) (k:K) (h:Q0a w l→K→G:=by
 intro H k;refine Jv ?_;refine Q0h ?_
 repeat refine Q0m ?_
 refine Q3g rfl ?_
 repeat refine Q0m ?_
 refine Q0f ?_;refine Jv ?_;refine Q0h ?_;exact k):G:=h H k
theorem J52 (H:Q0a w l) (k:K) (h:Q0a w l→K→G:=by
 intro H k;refine V8p rfl rfl ?_;refine Q0h ?_;exact k):G:=h H k
theorem J53 (H:Q0a w l) (k:K) (h:Q0a w l→K→G:=by
 intro H k;refine Q4u rfl rfl rfl (Q0q rfl rfl ?_);refine Q4u rfl rfl rfl (Q0l H rfl rfl rfl ?_);exact k):G:=h H k
theorem J54 (H:Q0a w l) (k:K) (h:Q0a w l→K→G:=by
 intro H k;refine Ja 4 ?_;refine Ja 5 ?_;exact k):G:=h H k
theorem J55 (H:Q0a w l) (k:K) (h:Q0a w l→K→G:=by
 intro H k;refine Q2e H rfl rfl inferInstance rfl (Nat.le_of_ble_eq_true rfl) rfl ?_;exact k):G:=h H k
theorem J56 (H:Q0a w l) (k:K) (h:Q0a w l→K→G:=by
 intro H k;refine Q0s rfl (Q0q rfl rfl ?_);refine Q0s rfl (Q2e H rfl rfl inferInstance rfl (Nat.le_of_ble_eq_true rfl) rfl ?_);exact k):G:=h H k
theorem J57 (H:Q0a w l) (k:K) (h:Q0a w l→K→G:=by
 intro H k;refine Q0s rfl (Q1z rfl rfl ?_);refine Jv ?_;refine Q0h ?_;exact k):G:=h H k
theorem J58 (H:Q0a w l) (k:K) (h:Q0a w l→K→G:=by
 intro H k;refine Ja 12 ?_;refine Jx H ?_;exact k):G:=h H k
theorem J59 (H:Q0a w l) (k:K) (h:Q0a w l→K→G:=by
 intro H k
 repeat refine Q0m ?_
 refine Q0f ?_;refine Jv ?_;refine Q0h ?_
 repeat refine Q0m ?_
 refine Q0f ?_;refine Jv ?_;refine Jv ?_;exact k):G:=h H k
theorem J60 (H:Q0a w l) (k:K) (h:Q0a w l→K→G:=by
 intro H k;refine Q0s rfl (Q6d rfl rfl ?_);refine Q0s rfl (V5f H rfl rfl ?_);exact k):G:=h H k
theorem J61 (H:Q0a w l) (k:K) (h:Q0a w l→K→G:=by
 intro H k;refine Ja 0 ?_;refine Ja 1 ?_;refine Jf 2 ?_;refine Jl 3 [] H ?_;exact k):G:=h H k
theorem J62 (H:Q0a w l) (k:K) (h:Q0a w l→K→G:=by
 intro H k;refine Q0h ?_
 repeat refine Q0m ?_
 refine Q0f ?_;refine Jv ?_;refine Jv ?_;refine Q0h ?_;exact k):G:=h H k
theorem J63 (H:Q0a w l) (k:K) (h:Q0a w l→K→G:=by
 intro H k
 repeat refine Q0m ?_
 refine Q0f ?_;refine Jv ?_;refine Q0h ?_
 repeat refine Q0m ?_
 refine Q0f ?_;refine Jv ?_;exact k):G:=h H k
theorem J64 (H:Q0a w l) (k:K) (h:Q0a w l→K→G:=by
 intro H k;refine Q0s rfl (V5f H rfl rfl ?_);exact k):G:=h H k
theorem J65 (H:Q0a w l) (k:K) (h:Q0a w l→K→G:=by
 intro H k;refine Jv ?_;refine Jv ?_;refine Q3h rfl rfl rfl ?_;refine Q3h rfl rfl rfl ?_;refine Q3h rfl rfl rfl ?_;refine Q3h rfl rfl rfl ?_;exact k):G:=h H k
theorem J66 (H:Q0a w l) (k:K) (h:Q0a w l→K→G:=by
 intro H k;refine Jv ?_;refine Jv ?_;refine Jv ?_;refine Jv ?_;refine Jv ?_;refine Q0h ?_
 repeat refine Q0m ?_
 refine Q0f ?_;refine Jv ?_;refine Jv ?_;refine Q0h ?_;exact k):G:=h H k
theorem J67 (H:Q0a w l) (k:K) (h:Q0a w l→K→G:=by
 intro H k;refine Jv ?_;refine Q0h ?_
 repeat refine Q0m ?_
 refine Q3g rfl ?_;exact k):G:=h H k
theorem J68 (H:Q0a w l) (k:K) (h:Q0a w l→K→G:=by
 intro H k
 repeat refine Q0m ?_
 refine Q0f ?_;refine Jv ?_;refine Jv ?_;refine Q0h ?_
 repeat refine Q0m ?_
 refine Q0f ?_;refine Jv ?_;refine Jv ?_;exact k):G:=h H k
theorem J69 (H:Q0a w l) (k:K) (h:Q0a w l→K→G:=by
 intro H k;refine Ja 8 ?_;refine Jx H ?_;exact k):G:=h H k
theorem J70 (H:Q0a w l) (k:K) (h:Q0a w l→K→G:=by
 intro H k;refine Ja 1 ?_;refine Jf 2 ?_;exact k):G:=h H k
theorem J71 (H:Q0a w l) (k:K) (h:Q0a w l→K→G:=by
 intro H k;refine Q2q rfl rfl rfl rfl ?_;refine Jv ?_;refine Jv ?_;refine Q0h ?_;exact k):G:=h H k
theorem J72 (H:Q0a w l) (k:K) (h:Q0a w l→K→G:=by
 intro H k;refine Jv ?_;refine Q2q rfl rfl rfl rfl ?_;refine Q2q rfl rfl rfl rfl ?_;exact k):G:=h H k
theorem J73 (H:Q0a w l) (k:K) (h:Q0a w l→K→G:=by
 intro H k
 repeat refine Q0m ?_
 refine Q0f ?_;refine Jv ?_;refine Jv ?_;refine Jv ?_;refine Jv ?_;exact k):G:=h H k
theorem J74 (H:Q0a w l) (k:K) (h:Q0a w l→K→G:=by
 intro H k;refine Q3g rfl (Q0w ?_);exact k):G:=h H k
theorem J75 (H:Q0a w l) (k:K) (h:Q0a w l→K→G:=by
 intro H k;refine Ja 6 ?_;refine Ja 7 ?_;exact k):G:=h H k
theorem J76 (H:Q0a w l) (k:K) (h:Q0a w l→K→G:=by
 intro H k;refine Jv ?_;refine Q0h ?_
 repeat refine Q0m ?_
 refine Q1y rfl (Q0w ?_)
 repeat refine Q0m ?_
 refine Q0f ?_;refine Jv ?_;refine Jv ?_;refine Q0h ?_;exact k):G:=h H k
theorem J77 (H:Q0a w l) (k:K) (h:Q0a w l→K→G:=by
 intro H k
 repeat refine Q0m ?_
 refine Q0f ?_;refine Jv ?_;refine Q0s rfl (Q1z rfl rfl ?_);refine Jv ?_;refine Q0h ?_;exact k):G:=h H k
theorem J78 (H:Q0a w l) (k:K) (h:Q0a w l→K→G:=by
 intro H k
 repeat refine Q0m ?_
 refine Q0f ?_;refine Jv ?_;refine Jv ?_;refine Jv ?_;refine Q0s rfl (Q0q rfl rfl ?_);refine Q0s rfl (Q0l H rfl rfl rfl ?_);refine Q0s rfl (Q1z rfl rfl ?_);refine Jv ?_;refine Q0h ?_
 repeat refine Q0m ?_
 exact k):G:=h H k
theorem J79 (H:Q0a w l) (k:K) (h:Q0a w l→K→G:=by
 intro H k;refine Ja 12 ?_;refine Ja 13 ?_;exact k):G:=h H k
theorem J80 (H:Q0a w l) (k:K) (h:Q0a w l→K→G:=by
 intro H k;refine Jo 12 H ?_;refine Q3a H rfl rfl inferInstance rfl rfl (Nat.le_of_ble_eq_true rfl) rfl ?_;exact k):G:=h H k
theorem J81 (H:Q0a w l) (k:K) (h:Q0a w l→K→G:=by
 intro H k
 repeat refine Q0m ?_
 refine Q0f ?_;refine Q0s rfl (Q0l H rfl rfl rfl ?_);refine Jv ?_;exact k):G:=h H k
theorem J82 (H:Q0a w l) (k:K) (h:Q0a w l→K→G:=by
 intro H k;refine Ja 0 ?_;refine Ja 1 ?_;refine Jf 2 ?_;refine Jl 3 [6] H ?_;refine Jf 4 ?_;refine Jl 5 [6] H ?_;refine Jo 6 H ?_;exact k):G:=h H k
theorem J83 (H:Q0a w l) (k:K) (h:Q0a w l→K→G:=by
 intro H k
 repeat refine Q0m ?_
 refine Q0f ?_;refine Q0s rfl (Q0l H rfl rfl rfl ?_);refine Jv ?_;refine Q0s rfl (Q0q rfl rfl ?_);refine Q0s rfl (Q0l H rfl rfl rfl ?_);refine Jv ?_;exact k):G:=h H k
theorem J84 (H:Q0a w l) (k:K) (h:Q0a w l→K→G:=by
 intro H k;refine Jv ?_;refine Jv ?_;refine Q0h ?_
 repeat refine Q0m ?_
 exact k):G:=h H k
theorem J85 (H:Q0a w l) (k:K) (h:Q0a w l→K→G:=by
 intro H k;refine Jv ?_;refine Jv ?_;refine Q0h ?_
 repeat refine Q0m ?_
 refine Q1y rfl ?_;exact k):G:=h H k
theorem J86 (H:Q0a w l) (k:K) (h:Q0a w l→K→G:=by
 intro H k;refine Q0s rfl (Q0l H rfl rfl rfl ?_);exact k):G:=h H k
theorem J87 (H:Q0a w l) (k:K) (h:Q0a w l→K→G:=by
 intro H k
 repeat refine Q0m ?_
 refine Q0f ?_;refine Q0s rfl (Q1j H rfl (by repeat first|exact .nil _|apply Q0o.cons rfl) rfl ?_);refine Q0s rfl (Q3a H rfl rfl inferInstance rfl rfl (Nat.le_of_ble_eq_true rfl) rfl ?_);exact k):G:=h H k
theorem J88 (H:Q0a w l) (k:K) (h:Q0a w l→K→G:=by
 intro H k
 repeat refine Q0m ?_
 refine Q0f ?_;refine Q0s rfl (Q0q rfl rfl ?_);refine Q0s rfl (Q0l H rfl rfl rfl ?_);exact k):G:=h H k
theorem J89 (H:Q0a w l) (k:K) (h:Q0a w l→K→G:=by
 intro H k
 repeat refine Q0m ?_
 refine Q0f ?_;refine Jv ?_;refine Jv ?_;refine Jv ?_;refine Jv ?_;refine Jv ?_;refine Q0h ?_;exact k):G:=h H k
theorem J90 (H:Q0a w l) (k:K) (h:Q0a w l→K→G:=by
 intro H k
 repeat refine Q0m ?_
 refine Q0t ?_
 repeat refine Q0m ?_
 refine Q0f ?_;refine Jv ?_;refine Jv ?_;exact k):G:=h H k
theorem J91 (H:Q0a w l) (k:K) (h:Q0a w l→K→G:=by
 intro H k;refine Q1y rfl (Q1n ?_);exact k):G:=h H k
theorem J92 (H:Q0a w l) (k:K) (h:Q0a w l→K→G:=by
 intro H k;refine Jv ?_;refine Q2q rfl rfl rfl rfl ?_;refine Q2q rfl rfl rfl rfl ?_;refine Q2q rfl rfl rfl rfl ?_;refine Q4u rfl rfl rfl (Q0q rfl rfl ?_);refine Q4u rfl rfl rfl (Q0l H rfl rfl rfl ?_);refine Q4u rfl rfl rfl (Q1z rfl rfl ?_);refine Q2q rfl rfl rfl rfl ?_;exact k):G:=h H k
theorem J93 (H:Q0a w l) (k:K) (h:Q0a w l→K→G:=by
 intro H k
 repeat refine Q0m ?_
 refine Q0f ?_;refine Jv ?_;refine Jv ?_;refine Q0s rfl (Q1z rfl rfl ?_);refine Jv ?_;refine Q0h ?_
 repeat refine Q0m ?_
 exact k):G:=h H k
theorem J94 (H:Q0a w l) (k:K) (h:Q0a w l→K→G:=by
 intro H k;refine Ja 8 ?_;refine Ja 9 ?_;refine Ja 10 ?_;exact k):G:=h H k
theorem J95 (H:Q0a w l) (k:K) (h:Q0a w l→K→G:=by
 intro H k
 repeat refine Q0m ?_
 refine Q0f ?_;refine Q0s rfl (Q1j H rfl (by repeat first|exact .nil _|apply Q0o.cons rfl) rfl ?_);refine Jv ?_;refine Q0s rfl (Q3a H rfl rfl inferInstance rfl rfl (Nat.le_of_ble_eq_true rfl) rfl ?_);exact k):G:=h H k
theorem J96 (H:Q0a w l) (k:K) (h:Q0a w l→K→G:=by
 intro H k
 repeat refine Q0m ?_
 refine Q0t ?_
 repeat refine Q0m ?_
 refine Q0f ?_;refine Jv ?_;refine Jv ?_;refine Q0h ?_;exact k):G:=h H k
theorem J97 (H:Q0a w l) (k:K) (h:Q0a w l→K→G:=by
 intro H k;refine Q0s rfl (Q1z rfl rfl ?_);refine Jv ?_;refine Q0h ?_
 repeat refine Q0m ?_
 refine Q0t ?_;exact k):G:=h H k
theorem J98 (H:Q0a w l) (k:K) (h:Q0a w l→K→G:=by
 intro H k
 repeat refine Q0m ?_
 refine Q1y rfl (Q0w ?_)
 repeat refine Q0m ?_
 refine Q0f ?_;refine Jv ?_;refine Q0h ?_;exact k):G:=h H k
theorem J99 (H:Q0a w l) (k:K) (h:Q0a w l→K→G:=by
 intro H k;refine Q0s rfl (Q0q rfl rfl ?_);exact k):G:=h H k
theorem G5j (H:Q0a w l) (k:K) (h:Q0a w l→K→G:=by
 intro H k;refine Q0s rfl (Z9z H rfl rfl rfl ?_);exact k):G:=h H k
theorem G8c (H:Q0a w l) (k:K) (h:Q0a w l→K→G:=by
 intro H k
 repeat refine Q0m ?_
 refine Q0f ?_;refine Q0s rfl (Q0q rfl rfl ?_);refine Q0s rfl (Q0l H rfl rfl rfl ?_);refine Jv ?_;exact k):G:=h H k
theorem G8d (H:Q0a w l) (k:K) (h:Q0a w l→K→G:=by
 intro H k;refine Jf 0 ?_;refine Jl 1 [] H ?_;refine Ja 2 ?_;exact k):G:=h H k
theorem G8e (H:Q0a w l) (k:K) (h:Q0a w l→K→G:=by
 intro H k;refine Jf 4 ?_;refine Jl 5 [] H ?_;exact k):G:=h H k
theorem G8f (H:Q0a w l) (k:K) (h:Q0a w l→K→G:=by
 intro H k
 repeat refine Q0m ?_
 refine Q0f ?_;refine Jv ?_;refine Q0h ?_
 repeat refine Q0m ?_
 refine Q0f ?_;refine Jv ?_;refine Q0s rfl (Q3i rfl rfl (.inl rfl) rfl ?_);refine Q0h ?_
 repeat refine Q0m ?_
 refine Q1y rfl (Q0w ?_)
 repeat refine Q0m ?_
 refine Q0f ?_;refine Jv ?_;refine Jv ?_;refine Q0s rfl (Q0q rfl rfl ?_);refine Q0s rfl (Q0l H rfl rfl rfl ?_);exact k):G:=h H k
theorem G8g (H:Q0a w l) (k:K) (h:Q0a w l→K→G:=by
 intro H k;refine Q0t ?_
 repeat refine Q0m ?_
 refine Q0f ?_;refine Jv ?_;refine Q0s rfl (Q3i rfl rfl (.inl rfl) rfl ?_);refine Jv ?_;refine Q0h ?_
 repeat refine Q0m ?_
 refine Q1y rfl ?_;exact k):G:=h H k
theorem G8h (H:Q0a w l) (k:K) (h:Q0a w l→K→G:=by
 intro H k;refine Y1j rfl rfl ?_;refine Y1j rfl rfl ?_;exact k):G:=h H k
theorem G8i (H:Q0a w l) (k:K) (h:Q0a w l→K→G:=by
 intro H k;refine Q3h rfl rfl rfl ?_;refine Q3h rfl rfl rfl ?_;exact k):G:=h H k
theorem G8j (H:Q0a w l) (k:K) (h:Q0a w l→K→G:=by
 intro H k;refine Q3h rfl rfl rfl ?_;refine Q3h rfl rfl rfl ?_;refine Q3h rfl rfl rfl ?_;exact k):G:=h H k
theorem G8k (H:Q0a w l) (k:K) (h:Q0a w l→K→G:=by
 intro H k;refine Q0s rfl (Q1j H rfl (by repeat first|exact .nil _|apply Q0o.cons rfl) rfl ?_);exact k):G:=h H k
theorem G8l (H:Q0a w l) (k:K) (h:Q0a w l→K→G:=by
 intro H k;refine Jv ?_;refine Q0h ?_
 repeat refine Q0m ?_
 refine Q0f ?_;refine Jv ?_;refine Q0s rfl (Q1j H rfl (by repeat first|exact .nil _|apply Q0o.cons rfl) rfl ?_);exact k):G:=h H k
theorem G8m (H:Q0a w l) (k:K) (h:Q0a w l→K→G:=by
 intro H k;refine Ja 13 ?_;refine Jx H ?_;exact k):G:=h H k
theorem G8n (H:Q0a w l) (k:K) (h:Q0a w l→K→G:=by
 intro H k;refine Ja 0 ?_;refine Ja 1 ?_;refine Jf 2 ?_;refine Jl 3 [5,10] H ?_;refine Q1w 4 [5,10] H rfl (Q0n.none rfl) rfl (by repeat first|exact .nil _|apply Q0o.cons rfl) (by kernel_rfl) ?_;exact k):G:=h H k
theorem G8o (H:Q0a w l) (k:K) (h:Q0a w l→K→G:=by
 intro H k;refine Ja 6 ?_;refine Ja 7 ?_;refine Ja 8 ?_;refine Jo 9 H ?_;refine Q1x H rfl ?_;exact k):G:=h H k
theorem G8p (H:Q0a w l) (k:K) (h:Q0a w l→K→G:=by
 intro H k;refine Jo 10 H ?_;refine Q3a H rfl rfl inferInstance rfl rfl (Nat.le_of_ble_eq_true rfl) rfl ?_;exact k):G:=h H k
theorem G8q (H:Q0a w l) (k:K) (h:Q0a w l→K→G:=by
 intro H k;refine Ja 6 ?_;refine Ja 7 ?_;refine Ja 8 ?_;refine Jo 10 H ?_;refine Q3a H rfl rfl inferInstance rfl rfl (Nat.le_of_ble_eq_true rfl) rfl ?_;exact k):G:=h H k
theorem G9q (H:Q0a w l) (k:K) (h:Q0a w l→K→G:=by
 intro H k;refine Q4u rfl rfl rfl (Q1j H rfl (by repeat first|exact .nil _|apply Q0o.cons rfl) rfl ?_);exact k):G:=h H k
theorem G9r (H:Q0a w l) (k:K) (h:Q0a w l→K→G:=by
 intro H k;refine Q4g H rfl rfl rfl ?_;exact k):G:=h H k
theorem G9s (H:Q0a w l) (k:K) (h:Q0a w l→K→G:=by
 intro H k;refine Jv ?_;refine Q0h ?_
 repeat refine Q0m ?_
 refine Q0f ?_;refine Q0s rfl (Q0q rfl rfl ?_);refine Q0s rfl (Q0l H rfl rfl rfl ?_);exact k):G:=h H k
theorem G9t (H:Q0a w l) (k:K) (h:Q0a w l→K→G:=by
 intro H k;refine Jo 11 H ?_;refine Q3a H rfl rfl inferInstance rfl rfl (Nat.le_of_ble_eq_true rfl) rfl ?_;exact k):G:=h H k
theorem G9u (H:Q0a w l) (k:K) (h:Q0a w l→K→G:=by
 intro H k
 repeat refine Q0m ?_
 refine Q0f ?_;refine Jv ?_;refine Q0h ?_
 repeat refine Q0m ?_
 refine Q0f ?_;refine Jv ?_;refine Jv ?_;refine Jv ?_;exact k):G:=h H k
theorem G9v (H:Q0a w l) (k:K) (h:Q0a w l→K→G:=by
 intro H k;refine Q0h ?_
 repeat refine Q0m ?_
 refine Q0f ?_;refine Jv ?_;refine Q0h ?_;exact k):G:=h H k
theorem G9w (H:Q0a w l) (k:K) (h:Q0a w l→K→G:=by
 intro H k
 repeat refine Q0m ?_
 refine Q0t ?_
 repeat refine Q0m ?_
 refine Q0f ?_;refine Jv ?_;refine Jv ?_;refine Jv ?_;exact k):G:=h H k
theorem G9x (H:Q0a w l) (k:K) (h:Q0a w l→K→G:=by
 intro H k;refine Q0h ?_
 repeat refine Q0m ?_
 refine Q0f ?_;refine Jv ?_;refine Jv ?_;refine Jv ?_;refine Q0h ?_;exact k):G:=h H k
theorem G9y (H:Q0a w l) (k:K) (h:Q0a w l→K→G:=by
 intro H k;refine Jv ?_;refine Jv ?_;refine Jv ?_;refine Jv ?_;refine Jv ?_;refine Q0h ?_
 repeat refine Q0m ?_
 exact k):G:=h H k
theorem G9z (H:Q0a w l) (k:K) (h:Q0a w l→K→G:=by
 intro H k
 repeat refine Q0m ?_
 refine Q0t ?_
 repeat refine Q0m ?_
 refine Q0f ?_;refine Jv ?_;refine Jv ?_;refine Q0s rfl (Q0q rfl rfl ?_);refine Q0s rfl (Q0l H rfl rfl rfl ?_);refine Jv ?_;exact k):G:=h H k
theorem U0a (H:Q0a w l) (k:K) (h:Q0a w l→K→G:=by
 intro H k
 repeat refine Q0m ?_
 refine Q0f ?_;refine Jv ?_;refine Jv ?_;refine Jv ?_;refine Q2q rfl rfl rfl rfl ?_;refine Q2q rfl rfl rfl rfl ?_;exact k):G:=h H k
theorem U0b (H:Q0a w l) (k:K) (h:Q0a w l→K→G:=by
 intro H k;refine Jv ?_;refine Jv ?_;refine Q0h ?_
 repeat refine Q0m ?_
 refine Q1y rfl (Q0w ?_);exact k):G:=h H k
theorem U0c (H:Q0a w l) (k:K) (h:Q0a w l→K→G:=by
 intro H k;refine Ja 0 ?_;refine Ja 1 ?_;refine Ja 2 ?_;refine Jf 3 ?_;exact k):G:=h H k
theorem U0d (H:Q0a w l) (k:K) (h:Q0a w l→K→G:=by
 intro H k
 repeat refine Q0m ?_
 refine Q0f ?_;refine Jv ?_;refine Q0s rfl (Q0q rfl rfl ?_);refine Q0s rfl (Q0l H rfl rfl rfl ?_);exact k):G:=h H k
theorem U0e (H:Q0a w l) (k:K) (h:Q0a w l→K→G:=by
 intro H k;refine Q0h ?_
 repeat refine Q0m ?_
 refine Q0f ?_;refine Jv ?_;refine Jv ?_;exact k):G:=h H k
theorem U0f (H:Q0a w l) (k:K) (h:Q0a w l→K→G:=by
 intro H k
 repeat refine Q0m ?_
 refine Q0f ?_;refine Jv ?_;refine Jv ?_;refine Jv ?_;refine Jv ?_;refine Q0h ?_;exact k):G:=h H k
theorem U0g (H:Q0a w l) (k:K) (h:Q0a w l→K→G:=by
 intro H k
 repeat refine Q0m ?_
 refine Q0f ?_;refine Jv ?_;refine Q0h ?_
 repeat refine Q0m ?_
 refine Q0f ?_;refine Jv ?_;refine Q0s rfl (Q3i rfl rfl (.inl rfl) rfl ?_);refine Q0h ?_
 repeat refine Q0m ?_
 refine Q1y rfl (Q0w ?_)
 repeat refine Q0m ?_
 refine Q0f ?_;refine Jv ?_;refine Jv ?_;refine Q0s rfl (Q0q rfl rfl ?_);refine Q0s rfl (Q0l H rfl rfl rfl ?_);refine Jv ?_;exact k):G:=h H k
theorem U1p (H:Q0a w l) (k:K) (h:Q0a w l→K→G:=by
 intro H k;refine Jv ?_;refine Q4u rfl rfl rfl (Q0q rfl rfl ?_);refine Q4u rfl rfl rfl (Q0l H rfl rfl rfl ?_);refine Q2q rfl rfl rfl rfl ?_;exact k):G:=h H k
theorem U1q (H:Q0a w l) (k:K) (h:Q0a w l→K→G:=by
 intro H k
 repeat refine Q0m ?_
 refine Q0f ?_;refine Jv ?_;refine Q0h ?_
 repeat refine Q0m ?_
 refine Q0f ?_;refine Jv ?_;refine Q0s rfl (Q1z rfl rfl ?_);refine Jv ?_;refine Q0h ?_
 repeat refine Q0m ?_
 refine Q0t ?_;exact k):G:=h H k
theorem U1r (H:Q0a w l) (k:K) (h:Q0a w l→K→G:=by
 intro H k;refine Q2q rfl rfl rfl rfl ?_;refine Jv ?_;refine Q0h ?_
 repeat refine Q0m ?_
 refine Q1y rfl (Q0w ?_);exact k):G:=h H k
theorem U1s (H:Q0a w l) (k:K) (h:Q0a w l→K→G:=by
 intro H k;refine Jv ?_;refine Q2q rfl rfl rfl rfl ?_;exact k):G:=h H k
theorem U1t (H:Q0a w l) (k:K) (h:Q0a w l→K→G:=by
 intro H k
 repeat refine Q0m ?_
 refine Q0t ?_
 repeat refine Q0m ?_
 refine Q0f ?_;refine Jv ?_;exact k):G:=h H k
theorem U1u (H:Q0a w l) (k:K) (h:Q0a w l→K→G:=by
 intro H k;refine Jv ?_;refine Q4u rfl rfl rfl (Q0q rfl rfl ?_);refine Q4u rfl rfl rfl (Q0l H rfl rfl rfl ?_);refine Q2q rfl rfl rfl rfl ?_;refine Jv ?_;exact k):G:=h H k
theorem U1v (H:Q0a w l) (k:K) (h:Q0a w l→K→G:=by
 intro H k
 repeat refine Q0m ?_
 refine Q0f ?_;refine Jv ?_;refine Q0h ?_
 repeat refine Q0m ?_
 refine Q0t ?_;exact k):G:=h H k
theorem U1w (H:Q0a w l) (k:K) (h:Q0a w l→K→G:=by
 intro H k;refine Q0s rfl (G0f rfl rfl rfl ?_);exact k):G:=h H k
theorem U1x (H:Q0a w l) (k:K) (h:Q0a w l→K→G:=by
 intro H k
 repeat refine Q0m ?_
 refine Q0f ?_;refine Jv ?_;refine Jv ?_;refine Jv ?_;refine Q0s rfl (Q0q rfl rfl ?_);refine Q0s rfl (Q0l H rfl rfl rfl ?_);exact k):G:=h H k
theorem U1y (H:Q0a w l) (k:K) (h:Q0a w l→K→G:=by
 intro H k
 repeat refine Q0m ?_
 refine Q1y rfl (Q0w ?_)
 repeat refine Q0m ?_
 refine Q0f ?_;refine Jv ?_;exact k):G:=h H k
theorem U1z (H:Q0a w l) (k:K) (h:Q0a w l→K→G:=by
 intro H k;refine Jv ?_;refine Jv ?_;refine Jv ?_;exact k):G:=h H k
theorem U2a (H:Q0a w l) (k:K) (h:Q0a w l→K→G:=by
 intro H k;refine Jv ?_;refine Jv ?_;refine Jv ?_;refine Q0h ?_;exact k):G:=h H k
theorem U2b (H:Q0a w l) (k:K) (h:Q0a w l→K→G:=by
 intro H k;refine Q3h rfl rfl rfl ?_;refine Q3h rfl rfl rfl ?_;refine Q3h rfl rfl rfl ?_;refine Q3h rfl rfl rfl ?_;exact k):G:=h H k
theorem U2c (H:Q0a w l) (k:K) (h:Q0a w l→K→G:=by
 intro H k
 repeat refine Q0m ?_
 refine Q1y rfl (Q0w ?_)
 repeat refine Q0m ?_
 refine Q0f ?_;refine Jv ?_;refine Jv ?_;refine Jv ?_;refine Q0h ?_;exact k):G:=h H k
theorem U2d (H:Q0a w l) (k:K) (h:Q0a w l→K→G:=by
 intro H k;refine Jv ?_;refine Q0h ?_
 repeat refine Q0m ?_
 refine Q3g rfl ?_
 repeat refine Q0m ?_
 refine Q0f ?_;refine Q0s rfl (Q6d rfl rfl ?_);refine Q0s rfl (Q3a H rfl rfl inferInstance rfl rfl (Nat.le_of_ble_eq_true rfl) rfl ?_);exact k):G:=h H k
theorem U2e (H:Q0a w l) (k:K) (h:Q0a w l→K→G:=by
 intro H k
 repeat refine Q0m ?_
 refine Q0f ?_;refine Q0s rfl (Q1j H rfl (by repeat first|exact .nil _|apply Q0o.cons rfl) rfl ?_);refine Jv ?_;exact k):G:=h H k
theorem U2f (H:Q0a w l) (k:K) (h:Q0a w l→K→G:=by
 intro H k
 repeat refine Q0m ?_
 refine Q0f ?_;refine Jv ?_;refine Jv ?_;refine Jv ?_;refine Q0h ?_
 repeat refine Q0m ?_
 refine Q1y rfl ?_
 repeat refine Q0m ?_
 refine Q0f ?_;refine Jv ?_;refine Jv ?_;exact k):G:=h H k
theorem U2g (H:Q0a w l) (k:K) (h:Q0a w l→K→G:=by
 intro H k
 repeat refine Q0m ?_
 refine Q1y rfl (Q0w ?_)
 repeat refine Q0m ?_
 refine Q0f ?_;refine Jv ?_;refine Jv ?_;exact k):G:=h H k
theorem U2h (H:Q0a w l) (k:K) (h:Q0a w l→K→G:=by
 intro H k;refine Jv ?_;refine Q0h ?_
 repeat refine Q0m ?_
 refine Q0f ?_;refine Jv ?_;refine Jv ?_;refine Jv ?_;refine Q0h ?_;exact k):G:=h H k
theorem U2i (H:Q0a w l) (k:K) (h:Q0a w l→K→G:=by
 intro H k;refine Jv ?_;refine Jv ?_;refine Jv ?_;refine Jv ?_;refine Q0h ?_;exact k):G:=h H k
theorem U2j (H:Q0a w l) (k:K) (h:Q0a w l→K→G:=by
 intro H k;refine Ja 0 ?_;refine Ja 1 ?_;refine Jf 2 ?_;refine Jl 3 [6] H ?_;exact k):G:=h H k
theorem U2k (H:Q0a w l) (k:K) (h:Q0a w l→K→G:=by
 intro H k;refine Jv ?_;refine Q0h ?_
 repeat refine Q0m ?_
 refine Q0f ?_;refine Jv ?_;refine Q0s rfl (Q3i rfl rfl (.inl rfl) rfl ?_);refine Q0h ?_
 repeat refine Q0m ?_
 refine Q1y rfl (Q0w ?_);exact k):G:=h H k
theorem U2l (H:Q0a w l) (k:K) (h:Q0a w l→K→G:=by
 intro H k
 repeat refine Q0m ?_
 refine Q1y rfl ?_;exact k):G:=h H k
theorem U2m (H:Q0a w l) (k:K) (h:Q0a w l→K→G:=by
 intro H k;refine Jv ?_;refine Jv ?_;refine Jv ?_;refine Jv ?_;exact k):G:=h H k
theorem U2n (H:Q0a w l) (k:K) (h:Q0a w l→K→G:=by
 intro H k;refine Q0s rfl (Q1z rfl rfl ?_);refine Jv ?_;refine Q0h ?_
 repeat refine Q0m ?_
 exact k):G:=h H k
theorem U2o (H:Q0a w l) (k:K) (h:Q0a w l→K→G:=by
 intro H k
 repeat refine Q0m ?_
 refine Q0f ?_;refine Jv ?_;refine Jv ?_;refine Q0h ?_
 repeat refine Q0m ?_
 refine Q3g rfl ?_
 repeat refine Q0m ?_
 refine Q0f ?_;refine Jv ?_;refine Q0h ?_;exact k):G:=h H k
theorem U2p (H:Q0a w l) (k:K) (h:Q0a w l→K→G:=by
 intro H k;refine Q0h ?_
 repeat refine Q0m ?_
 refine Q1y rfl (Q0w ?_);exact k):G:=h H k
theorem U2q (H:Q0a w l) (k:K) (h:Q0a w l→K→G:=by
 intro H k;refine Q5r 14 rfl (Q0n.none rfl) rfl (by kernel_rfl) ?_;refine Jo 15 H ?_;refine V5f H rfl rfl ?_;exact k):G:=h H k
theorem U2r (H:Q0a w l) (k:K) (h:Q0a w l→K→G:=by
 intro H k;refine Jo 16 H ?_;refine Q4g H rfl rfl rfl ?_;exact k):G:=h H k
theorem U2s (H:Q0a w l) (k:K) (h:Q0a w l→K→G:=by
 intro H k;refine Ja 18 ?_;refine Jf 19 ?_;refine Jo 20 H ?_;refine Q2e H rfl rfl inferInstance rfl (Nat.le_of_ble_eq_true rfl) rfl ?_;exact k):G:=h H k
theorem U2t (H:Q0a w l) (k:K) (h:Q0a w l→K→G:=by
 intro H k;refine Ja 6 ?_;refine Ja 7 ?_;refine Jf 8 ?_;exact k):G:=h H k
theorem U2u (H:Q0a w l) (k:K) (h:Q0a w l→K→G:=by
 intro H k;refine Ja 13 ?_;refine Ja 14 ?_;refine Jx H ?_;exact k):G:=h H k
theorem U2v (H:Q0a w l) (k:K) (h:Q0a w l→K→G:=by
 intro H k
 repeat refine Q0m ?_
 refine Q0f ?_;refine Q0s rfl (Q0q rfl rfl ?_);refine Q0s rfl (Q0l H rfl rfl rfl ?_);refine Jv ?_;refine Q0h ?_;exact k):G:=h H k
theorem U2w (H:Q0a w l) (k:K) (h:Q0a w l→K→G:=by
 intro H k;refine Jv ?_;refine Q0h ?_
 repeat refine Q0m ?_
 refine Q0f ?_;refine Jv ?_;refine Jv ?_;refine Q0h ?_
 repeat refine Q0m ?_
 refine Q3g rfl ?_
 repeat refine Q0m ?_
 refine Q0f ?_;refine Jv ?_;refine Jv ?_;refine Jv ?_;refine Q0h ?_;exact k):G:=h H k
theorem U2x (H:Q0a w l) (k:K) (h:Q0a w l→K→G:=by
 intro H k;refine Ja 8 ?_;refine Ja 9 ?_;refine Jf 10 ?_;exact k):G:=h H k
theorem U2y (H:Q0a w l) (k:K) (h:Q0a w l→K→G:=by
 intro H k;refine Ja 8 ?_;refine Ja 9 ?_;refine Ja 10 ?_;refine Ja 11 ?_;refine Ja 12 ?_;refine Jx H ?_;exact k):G:=h H k
theorem U3l (H:Q0a w l) (k:K) (h:Q0a w l→K→G:=by
 intro H k;refine Jv ?_;refine Jv ?_;refine Q4u rfl rfl rfl (Q0q rfl rfl ?_);refine Q4u rfl rfl rfl (Q0l H rfl rfl rfl ?_);refine Q2q rfl rfl rfl rfl ?_;exact k):G:=h H k
theorem U3m (H:Q0a w l) (k:K) (h:Q0a w l→K→G:=by
 intro H k;refine Jv ?_;refine Jv ?_;refine Q2q rfl rfl rfl rfl ?_;exact k):G:=h H k
theorem U3n (H:Q0a w l) (k:K) (h:Q0a w l→K→G:=by
 intro H k;refine Jv ?_;refine Q0s rfl (Q3a H rfl rfl inferInstance rfl rfl (Nat.le_of_ble_eq_true rfl) rfl ?_);exact k):G:=h H k
theorem U3o (H:Q0a w l) (k:K) (h:Q0a w l→K→G:=by
 intro H k;refine Q0s rfl (Q6d rfl rfl ?_);refine Q0s rfl (Q4g H rfl rfl rfl ?_);exact k):G:=h H k
theorem U3p (H:Q0a w l) (k:K) (h:Q0a w l→K→G:=by
 intro H k;refine Ja 12 ?_;refine Ja 13 ?_;refine Ja 14 ?_;refine Ja 15 ?_;refine Jx H ?_;exact k):G:=h H k
theorem U3q (H:Q0a w l) (k:K) (h:Q0a w l→K→G:=by
 intro H k
 repeat refine Q0m ?_
 refine Q0f ?_;refine Q0s rfl (Q1j H rfl (by repeat first|exact .nil _|apply Q0o.cons rfl) rfl ?_);refine Q0s rfl (Q6d rfl rfl ?_);refine Q0s rfl (V3u rfl rfl rfl rfl (.inl rfl) rfl ?_);exact k):G:=h H k
theorem U3r (H:Q0a w l) (k:K) (h:Q0a w l→K→G:=by
 intro H k;refine Jv ?_;refine Q0h ?_
 repeat refine Q0m ?_
 refine Q3g rfl ?_
 repeat refine Q0m ?_
 refine Q0f ?_;refine Jv ?_;refine Jv ?_;refine Q0h ?_;exact k):G:=h H k
theorem U3s (H:Q0a w l) (k:K) (h:Q0a w l→K→G:=by
 intro H k;refine Jv ?_;refine Q0h ?_
 repeat refine Q0m ?_
 refine Q1y rfl ?_;exact k):G:=h H k
theorem U3t (H:Q0a w l) (k:K) (h:Q0a w l→K→G:=by
 intro H k
 repeat refine Q0m ?_
 refine Q3g rfl ?_
 repeat refine Q0m ?_
 refine Q0f ?_;refine Q0s rfl (Q6d rfl rfl ?_);refine Q0s rfl (Q3a H rfl rfl inferInstance rfl rfl (Nat.le_of_ble_eq_true rfl) rfl ?_);exact k):G:=h H k
theorem U3u (H:Q0a w l) (k:K) (h:Q0a w l→K→G:=by
 intro H k;refine Jv ?_;refine Q0h ?_
 repeat refine Q0m ?_
 refine Q0f ?_;refine Jv ?_;refine Q0h ?_
 repeat refine Q0m ?_
 exact k):G:=h H k
theorem U3v (H:Q0a w l) (k:K) (h:Q0a w l→K→G:=by
 intro H k;refine Q0h ?_
 repeat refine Q0m ?_
 exact k):G:=h H k
theorem U3w (H:Q0a w l) (k:K) (h:Q0a w l→K→G:=by
 intro H k
 repeat refine Q0m ?_
 refine Q0f ?_;refine Jv ?_;refine Q0h ?_
 repeat refine Q0m ?_
 refine Q0f ?_;refine Jv ?_;refine Q0s rfl (Q3i rfl rfl (.inl rfl) rfl ?_);refine Q0h ?_
 repeat refine Q0m ?_
 refine Q1y rfl (Q0w ?_);exact k):G:=h H k
theorem U3x (H:Q0a w l) (k:K) (h:Q0a w l→K→G:=by
 intro H k;refine Ja 5 ?_;refine Ja 6 ?_;refine Jf 7 ?_;exact k):G:=h H k
theorem U3y (H:Q0a w l) (k:K) (h:Q0a w l→K→G:=by
 intro H k
 repeat refine Q0m ?_
 refine Q1y rfl (Q0w ?_)
 repeat refine Q0m ?_
 refine Q0f ?_;refine Jv ?_;refine Jv ?_;refine Q0h ?_;exact k):G:=h H k
theorem U3z (H:Q0a w l) (k:K) (h:Q0a w l→K→G:=by
 intro H k;refine Jv ?_;refine Jv ?_;refine Jv ?_;refine Jv ?_;refine Jv ?_;exact k):G:=h H k
theorem U4a (H:Q0a w l) (k:K) (h:Q0a w l→K→G:=by
 intro H k;refine Ja 9 ?_;refine Ja 10 ?_;refine Jf 11 ?_;exact k):G:=h H k
theorem U4b (H:Q0a w l) (k:K) (h:Q0a w l→K→G:=by
 intro H k;refine Jx H ?_
 repeat refine Q0m ?_
 refine Q0f ?_;refine Jv ?_;refine Q0h ?_;exact k):G:=h H k
theorem U4c (H:Q0a w l) (k:K) (h:Q0a w l→K→G:=by
 intro H k
 repeat refine Q0m ?_
 refine Q0f ?_;refine Jv ?_;refine Jv ?_;refine Q0h ?_
 repeat refine Q0m ?_
 exact k):G:=h H k
theorem U4d (H:Q0a w l) (k:K) (h:Q0a w l→K→G:=by
 intro H k
 first|refine Jv ?_|refine V8p rfl rfl ?_
 refine Jv ?_;refine Jv ?_;refine Jv ?_;refine Jv ?_;refine Q0h ?_
 repeat refine Q0m ?_
 refine Q0f ?_;refine Jv ?_;refine Jv ?_;refine Q0h ?_;exact k):G:=h H k
theorem U4e (H:Q0a w l) (k:K) (h:Q0a w l→K→G:=by
 intro H k;refine Q3h rfl rfl rfl ?_;refine Q3h rfl rfl rfl ?_;refine Q3h rfl rfl rfl ?_;refine Q3h rfl rfl rfl ?_;refine Q3h rfl rfl rfl ?_;refine Q3h rfl rfl rfl ?_;refine Q3h rfl rfl rfl ?_;exact k):G:=h H k
theorem U4f (H:Q0a w l) (k:K) (h:Q0a w l→K→G:=by
 intro H k
 repeat refine Q0m ?_
 refine Q0f ?_;refine Q0s rfl (Q0q rfl rfl ?_);refine Q0s rfl (Q0l H rfl rfl rfl ?_);refine Q0s rfl (Q0q rfl rfl ?_);refine Q0s rfl (Q0l H rfl rfl rfl ?_);exact k):G:=h H k
theorem U4g (H:Q0a w l) (k:K) (h:Q0a w l→K→G:=by
 intro H k;refine Jv ?_;refine Q3h rfl rfl rfl ?_;refine Q3h rfl rfl rfl ?_;refine Q3h rfl rfl rfl ?_;refine Q3h rfl rfl rfl ?_;refine Q3h rfl rfl rfl ?_;refine Q3h rfl rfl rfl ?_;refine Q3h rfl rfl rfl ?_;exact k):G:=h H k
theorem U4h (H:Q0a w l) (k:K) (h:Q0a w l→K→G:=by
 intro H k
 repeat refine Q0m ?_
 refine Q0f ?_;refine Jv ?_;refine Jv ?_;refine Jv ?_;refine Q0h ?_
 repeat refine Q0m ?_
 exact k):G:=h H k
theorem U4i (H:Q0a w l) (k:K) (h:Q0a w l→K→G:=by
 intro H k;refine Jv ?_;refine Q2q rfl rfl rfl rfl ?_;refine Q2q rfl rfl rfl rfl ?_;refine Q2q rfl rfl rfl rfl ?_;exact k):G:=h H k
theorem U4j (H:Q0a w l) (k:K) (h:Q0a w l→K→G:=by
 intro H k
 repeat refine Q0m ?_
 refine Q0f ?_;refine Jv ?_;refine Q0h ?_
 repeat refine Q0m ?_
 refine Q0f ?_;refine Jv ?_;refine Q0h ?_
 repeat refine Q0m ?_
 refine Q0f ?_;refine Jv ?_;refine Q0h ?_
 repeat refine Q0m ?_
 refine Q0t ?_;exact k):G:=h H k
theorem U4k (H:Q0a w l) (k:K) (h:Q0a w l→K→G:=by
 intro H k
 repeat refine Q0m ?_
 refine Q0f ?_;refine Jv ?_;refine Jv ?_;refine Q0s rfl (Q4g H rfl rfl rfl ?_);exact k):G:=h H k
theorem U4l (H:Q0a w l) (k:K) (h:Q0a w l→K→G:=by
 intro H k
 repeat refine Q0m ?_
 refine Q1y rfl (Q0w ?_)
 repeat refine Q0m ?_
 refine V5e H mixed ?_;exact k):G:=h H k
theorem U4m (H:Q0a w l) (k:K) (h:Q0a w l→K→G:=by
 intro H k
 repeat refine Q0m ?_
 refine Q0f ?_;refine Jv ?_;refine Q0h ?_
 repeat refine Q0m ?_
 refine Q0f ?_;exact k):G:=h H k
theorem U4n (H:Q0a w l) (k:K) (h:Q0a w l→K→G:=by
 intro H k;refine Q1w 5 [6] H rfl (Q0n.none rfl) rfl (by repeat first|exact .nil _|apply Q0o.cons rfl) (by kernel_rfl) ?_;refine Jo 6 H ?_;exact k):G:=h H k
theorem U4o (H:Q0a w l) (k:K) (h:Q0a w l→K→G:=by
 intro H k;refine Q1w 4 [6] H rfl (Q0n.none rfl) rfl (by repeat first|exact .nil _|apply Q0o.cons rfl) (by kernel_rfl) ?_;exact k):G:=h H k
theorem U4p (H:Q0a w l) (k:K) (h:Q0a w l→K→G:=by
 intro H k;refine Ja 7 ?_;refine Ja 8 ?_;refine Ja 9 ?_;refine Jo 10 H ?_;refine Q1x H rfl ?_;exact k):G:=h H k
theorem U4q (H:Q0a w l) (k:K) (h:Q0a w l→K→G:=by
 intro H k;refine Ja 7 ?_;refine Ja 8 ?_;refine Ja 9 ?_;refine Jo 11 H ?_;refine Q3a H rfl rfl inferInstance rfl rfl (Nat.le_of_ble_eq_true rfl) rfl ?_;exact k):G:=h H k
theorem U4r (H:Q0a w l) (k:K) (h:Q0a w l→K→G:=by
 intro H k;refine Jv ?_;refine Jv ?_;refine Q0h ?_
 repeat refine Q0m ?_
 refine Q0f ?_;refine Jv ?_;refine Jv ?_;refine Q0h ?_
 repeat refine Q0m ?_
 refine Q1y rfl (Q0w ?_);exact k):G:=h H k
theorem U4s (H:Q0a w l) (k:K) (h:Q0a w l→K→G:=by
 intro H k
 repeat refine Q0m ?_
 refine Q0f ?_;refine Jv ?_;refine Jv ?_;refine Jv ?_;refine Q0s rfl (Q0q rfl rfl ?_);refine Q0s rfl (Q0l H rfl rfl rfl ?_);refine Jv ?_;exact k):G:=h H k
theorem U4t (H:Q0a w l) (k:K) (h:Q0a w l→K→G:=by
 intro H k;refine Q0h ?_
 repeat refine Q0m ?_
 refine Q0f ?_;refine Jv ?_;exact k):G:=h H k
theorem U4u (H:Q0a w l) (k:K) (h:Q0a w l→K→G:=by
 intro H k
 repeat refine Q0m ?_
 refine Q0t ?_
 repeat refine Q0m ?_
 refine V5e H mixed ?_;exact k):G:=h H k
theorem U4v (H:Q0a w l) (k:K) (h:Q0a w l→K→G:=by
 intro H k;refine Jv ?_;refine Q0s rfl (Q0q rfl rfl ?_);refine Q0s rfl (Q0l H rfl rfl rfl ?_);refine Jv ?_;exact k):G:=h H k
theorem U4w (H:Q0a w l) (k:K) (h:Q0a w l→K→G:=by
 intro H k
 repeat refine Q0m ?_
 refine Q0f ?_;refine Jv ?_;refine Jv ?_;refine Q0h ?_
 repeat refine Q0m ?_
 refine Q0f ?_;refine Jv ?_;refine Jv ?_;refine Q0s rfl (Q0q rfl rfl ?_);refine Q0s rfl (Q0l H rfl rfl rfl ?_);refine Jv ?_;exact k):G:=h H k
theorem U4x (H:Q0a w l) (k:K) (h:Q0a w l→K→G:=by
 intro H k;refine Jv ?_;refine Q0h ?_
 repeat refine Q0m ?_
 refine Q0f ?_;refine Jv ?_;refine Jv ?_;refine Q0h ?_
 repeat refine Q0m ?_
 refine Q3g rfl ?_
 repeat refine Q0m ?_
 refine Q0f ?_;refine Jv ?_;refine Jv ?_;refine Q0h ?_;exact k):G:=h H k
theorem U4y (H:Q0a w l) (k:K) (h:Q0a w l→K→G:=by
 intro H k
 repeat refine Q0m ?_
 refine Q0f ?_;refine Jv ?_;refine Q0s rfl (Q1j H rfl (by repeat first|exact .nil _|apply Q0o.cons rfl) rfl ?_);refine Jv ?_;exact k):G:=h H k
theorem U4z (H:Q0a w l) (k:K) (h:Q0a w l→K→G:=by
 intro H k;refine Jo 11 H ?_;refine Q1x H rfl ?_;exact k):G:=h H k
theorem U5a (H:Q0a w l) (k:K) (h:Q0a w l→K→G:=by
 intro H k;refine Ja 0 ?_;refine Ja 1 ?_;refine Jf 2 ?_;refine Jl 3 [8] H ?_;exact k):G:=h H k
theorem U5b (H:Q0a w l) (k:K) (h:Q0a w l→K→G:=by
 intro H k;refine Q4u rfl rfl rfl (Q1j H rfl (by repeat first|exact .nil _|apply Q0o.cons rfl) rfl ?_);refine Q4u rfl rfl rfl (Q6d rfl rfl ?_);exact k):G:=h H k
theorem U5c (H:Q0a w l) (k:K) (h:Q0a w l→K→G:=by
 intro H k
 repeat refine Q0m ?_
 refine Q0f ?_;refine Q0s rfl (Q0l H rfl rfl rfl ?_);refine Q0s rfl (Q0l H rfl rfl rfl ?_);exact k):G:=h H k
theorem U5d (H:Q0a w l) (k:K) (h:Q0a w l→K→G:=by
 intro H k;refine Jv ?_;refine Q0h ?_
 repeat refine Q0m ?_
 refine Q1y rfl ?_
 repeat refine Q0m ?_
 refine Q0f ?_;refine Jv ?_;refine Jv ?_;exact k):G:=h H k
theorem U5e (H:Q0a w l) (k:K) (h:Q0a w l→K→G:=by
 intro H k;refine Ja 0 ?_;refine Ja 1 ?_;refine Jf 2 ?_;refine Jl 3 [7] H ?_;refine Ja 4 ?_;refine Jf 5 ?_;refine Jl 6 [7] H ?_;refine Jo 7 H ?_;exact k):G:=h H k
theorem U5f (H:Q0a w l) (k:K) (h:Q0a w l→K→G:=by
 intro H k;refine Ja 0 ?_;refine Ja 1 ?_;refine Ja 2 ?_;refine Ja 3 ?_;exact k):G:=h H k
theorem U6h (H:Q0a w l) (k:K) (h:Q0a w l→K→G:=by
 intro H k
 repeat refine Q0m ?_
 refine Q0f ?_;refine Jv ?_;refine Jv ?_;refine Q0h ?_
 repeat refine Q0m ?_
 refine Q0f ?_;refine Jv ?_;exact k):G:=h H k
theorem U6i (H:Q0a w l) (k:K) (h:Q0a w l→K→G:=by
 intro H k;refine Jx H ?_
 repeat refine Q0m ?_
 refine Q0f ?_;refine Jv ?_;refine Jv ?_;refine Q0h ?_;exact k):G:=h H k
theorem U6j (H:Q0a w l) (k:K) (h:Q0a w l→K→G:=by
 intro H k;refine Q0s rfl (Q1z rfl rfl ?_);refine Jv ?_;exact k):G:=h H k
theorem U6k (H:Q0a w l) (k:K) (h:Q0a w l→K→G:=by
 intro H k
 repeat refine Q0m ?_
 refine Q0f ?_;refine Jv ?_;refine Q0h ?_
 repeat refine Q0m ?_
 refine Q0f ?_;refine Q0s rfl (Q6d rfl rfl ?_);exact k):G:=h H k
theorem U6l (H:Q0a w l) (k:K) (h:Q0a w l→K→G:=by
 intro H k;refine Q6n 3 rfl (Q0n.none rfl) rfl (by kernel_rfl) ?_;exact k):G:=h H k
theorem U6m (H:Q0a w l) (k:K) (h:Q0a w l→K→G:=by
 intro H k;refine Jv ?_;refine Q0h ?_
 repeat refine Q0m ?_
 refine Q0f ?_;refine Jv ?_;exact k):G:=h H k
theorem U6n (H:Q0a w l) (k:K) (h:Q0a w l→K→G:=by
 intro H k;refine Jv ?_;refine Jv ?_;refine Jv ?_;refine Jv ?_;refine Jv ?_;refine Q0h ?_
 repeat refine Q0m ?_
 refine V5e H mixed ?_;exact k):G:=h H k
theorem U6o (H:Q0a w l) (k:K) (h:Q0a w l→K→G:=by
 intro H k
 repeat refine Q0m ?_
 refine Q0f ?_;refine Jv ?_;refine Q0s rfl (Q3i rfl rfl (.inl rfl) rfl ?_);exact k):G:=h H k
theorem U6p (H:Q0a w l) (k:K) (h:Q0a w l→K→G:=by
 intro H k;refine Q2q rfl rfl rfl rfl ?_;refine Q2q rfl rfl rfl rfl ?_;refine Jv ?_;refine Jv ?_;exact k):G:=h H k
theorem U6q (H:Q0a w l) (k:K) (h:Q0a w l→K→G:=by
 intro H k;refine Ja 10 ?_;refine Ja 11 ?_;refine Jx H ?_;exact k):G:=h H k
theorem U6r (H:Q0a w l) (k:K) (h:Q0a w l→K→G:=by
 intro H k;refine Q2q rfl rfl rfl rfl ?_;refine Jv ?_;refine Q0h ?_;exact k):G:=h H k
theorem U6s (H:Q0a w l) (k:K) (h:Q0a w l→K→G:=by
 intro H k
 repeat refine Q0m ?_
 refine Q0f ?_;refine Jv ?_;refine Jv ?_;refine Q0h ?_
 repeat refine Q0m ?_
 refine Q0f ?_;refine Jv ?_;refine Q0s rfl (Q3i rfl rfl (.inl rfl) rfl ?_);refine Q0h ?_
 repeat refine Q0m ?_
 refine Q1y rfl (Q0w ?_);exact k):G:=h H k
theorem U6t (H:Q0a w l) (k:K) (h:Q0a w l→K→G:=by
 intro H k
 repeat refine Q0m ?_
 refine Q0f ?_;refine Jv ?_;refine Q0h ?_
 repeat refine Q0m ?_
 refine Q0f ?_;refine Jv ?_;refine Q0s rfl (Q3i rfl rfl (.inl rfl) rfl ?_);refine Q0h ?_
 repeat refine Q0m ?_
 refine Q1y rfl (Q0w ?_)
 repeat refine Q0m ?_
 refine Q0f ?_;refine Jv ?_;refine Jv ?_;exact k):G:=h H k
theorem U6u (H:Q0a w l) (k:K) (h:Q0a w l→K→G:=by
 intro H k;refine Ja 4 ?_;refine Ja 5 ?_;refine Ja 6 ?_;refine Jf 7 ?_;exact k):G:=h H k
theorem U6v (H:Q0a w l) (k:K) (h:Q0a w l→K→G:=by
 intro H k;refine Ja 12 ?_;refine Ja 13 ?_;refine Ja 14 ?_;exact k):G:=h H k
theorem U6w (H:Q0a w l) (k:K) (h:Q0a w l→K→G:=by
 intro H k;refine Jv ?_;refine Q3h rfl rfl rfl ?_;refine Q3h rfl rfl rfl ?_;refine Q3h rfl rfl rfl ?_;exact k):G:=h H k
theorem U6x (H:Q0a w l) (k:K) (h:Q0a w l→K→G:=by
 intro H k;refine Y1j rfl rfl ?_;refine Y1j rfl rfl ?_;refine Y1j rfl rfl ?_;refine Q3h rfl rfl rfl ?_;exact k):G:=h H k
theorem U6y (H:Q0a w l) (k:K) (h:Q0a w l→K→G:=by
 intro H k;refine Jv ?_;refine Jv ?_;refine Q3h rfl rfl rfl ?_;refine Q3h rfl rfl rfl ?_;refine Q3h rfl rfl rfl ?_;exact k):G:=h H k
theorem U6z (H:Q0a w l) (k:K) (h:Q0a w l→K→G:=by
 intro H k;refine Y1j rfl rfl ?_;refine Y1j rfl rfl ?_;refine Y1j rfl rfl ?_;refine Q3h rfl rfl rfl ?_;refine Jv ?_;refine Jv ?_;refine Q0h ?_;exact k):G:=h H k
theorem U7a (H:Q0a w l) (k:K) (h:Q0a w l→K→G:=by
 intro H k;refine Q2q rfl rfl rfl rfl ?_;refine Q4u rfl rfl rfl (Q0q rfl rfl ?_);refine Q4u rfl rfl rfl (Q0l H rfl rfl rfl ?_);refine Q2q rfl rfl rfl rfl ?_;exact k):G:=h H k
theorem U7b (H:Q0a w l) (k:K) (h:Q0a w l→K→G:=by
 intro H k;refine Q0s rfl (Q0q rfl rfl ?_);refine Q0s rfl (Q0l H rfl rfl rfl ?_);refine Jv ?_;refine Jv ?_;exact k):G:=h H k
theorem U7c (H:Q0a w l) (k:K) (h:Q0a w l→K→G:=by
 intro H k;refine Jv ?_;refine Q0h ?_
 repeat refine Q0m ?_
 refine Q0f ?_;refine Jv ?_;refine Q0s rfl (Q1z rfl rfl ?_);refine Jv ?_;refine Q0h ?_;exact k):G:=h H k
theorem U7d (H:Q0a w l) (k:K) (h:Q0a w l→K→G:=by
 intro H k;refine Ja 8 ?_;refine Ja 9 ?_;refine Jx H ?_;exact k):G:=h H k
theorem U7e (H:Q0a w l) (k:K) (h:Q0a w l→K→G:=by
 intro H k
 repeat refine Q0m ?_
 refine Q0f ?_;refine Jv ?_;refine Jv ?_;refine Q0s rfl (Q0q rfl rfl ?_);refine Q0s rfl (Q0l H rfl rfl rfl ?_);refine Q0s rfl (Q1z rfl rfl ?_);exact k):G:=h H k
theorem U7f (H:Q0a w l) (k:K) (h:Q0a w l→K→G:=by
 intro H k;refine Q0t ?_
 repeat refine Q0m ?_
 refine Q0f ?_;refine Jv ?_;refine Q0s rfl (Q3i rfl rfl (.inl rfl) rfl ?_);refine Jv ?_;refine Q0h ?_
 repeat refine Q0m ?_
 refine Q1y rfl ?_
 repeat refine Q0m ?_
 refine Q0f ?_;refine Jv ?_;refine Jv ?_;exact k):G:=h H k
theorem U7g (H:Q0a w l) (k:K) (h:Q0a w l→K→G:=by
 intro H k;refine Jv ?_;refine Jv ?_;refine Q0h ?_
 repeat refine Q0m ?_
 refine Q3g rfl ?_
 repeat refine Q0m ?_
 refine Q0f ?_;refine Q0s rfl (Q6d rfl rfl ?_);refine Q0s rfl (Q3a H rfl rfl inferInstance rfl rfl (Nat.le_of_ble_eq_true rfl) rfl ?_);exact k):G:=h H k
theorem U7h (H:Q0a w l) (k:K) (h:Q0a w l→K→G:=by
 intro H k;refine Jv ?_;refine Q3h rfl rfl rfl ?_;refine Q3h rfl rfl rfl ?_;refine Q3h rfl rfl rfl ?_;refine Q3h rfl rfl rfl ?_;exact k):G:=h H k
theorem U7i (H:Q0a w l) (k:K) (h:Q0a w l→K→G:=by
 intro H k;refine Jv ?_;refine Jv ?_;refine Q0h ?_
 repeat refine Q0m ?_
 refine Q0f ?_;refine Jv ?_;refine Q0s rfl (Q3i rfl rfl (.inl rfl) rfl ?_);refine Q0h ?_
 repeat refine Q0m ?_
 refine Q1y rfl (Q0w ?_);exact k):G:=h H k
theorem U7j (H:Q0a w l) (k:K) (h:Q0a w l→K→G:=by
 intro H k;refine Ja 0 ?_;refine Ja 1 ?_;refine Jf 2 ?_;refine Jl 3 [5] H ?_;refine Q1w 4 [5] H rfl (Q0n.none rfl) rfl (by repeat first|exact .nil _|apply Q0o.cons rfl) (by kernel_rfl) ?_;refine Jo 5 H ?_;exact k):G:=h H k
theorem U7k (H:Q0a w l) (k:K) (h:Q0a w l→K→G:=by
 intro H k;refine Q1w 6 [7] H rfl (Q0n.none rfl) rfl (by repeat first|exact .nil _|apply Q0o.cons rfl) (by kernel_rfl) ?_;refine Jo 7 H ?_;exact k):G:=h H k
theorem U7l (H:Q0a w l) (k:K) (h:Q0a w l→K→G:=by
 intro H k;refine Jv ?_;refine Jv ?_;refine Q0h ?_
 repeat refine Q0m ?_
 refine Q3g rfl ?_
 repeat refine Q0m ?_
 refine Q0f ?_;refine Jv ?_;refine Q0h ?_;exact k):G:=h H k
theorem U7m (H:Q0a w l) (k:K) (h:Q0a w l→K→G:=by
 intro H k;refine Ja 0 ?_;refine Ja 1 ?_;refine Jf 2 ?_;refine Jl 3 [9] H ?_;exact k):G:=h H k
theorem U7n (H:Q0a w l) (k:K) (h:Q0a w l→K→G:=by
 intro H k;refine Ja 4 ?_;refine Ja 5 ?_;refine Jf 6 ?_;exact k):G:=h H k
theorem U7o (H:Q0a w l) (k:K) (h:Q0a w l→K→G:=by
 intro H k;refine Ja 4 ?_;refine Ja 5 ?_;refine Jf 6 ?_;refine Jl 7 [] H ?_;exact k):G:=h H k
theorem U7p (H:Q0a w l) (k:K) (h:Q0a w l→K→G:=by
 intro H k;refine Jv ?_;refine Q0h ?_
 repeat refine Q0m ?_
 refine Q0f ?_;refine Jv ?_;refine Jv ?_;refine Jv ?_;exact k):G:=h H k
theorem U7q (H:Q0a w l) (k:K) (h:Q0a w l→K→G:=by
 intro H k
 repeat refine Q0m ?_
 refine Q3g rfl ?_
 repeat refine Q0m ?_
 refine Q0f ?_;refine Jv ?_;refine Jv ?_;refine Jv ?_;refine Q0h ?_;exact k):G:=h H k
theorem U7r (H:Q0a w l) (k:K) (h:Q0a w l→K→G:=by
 intro H k;refine Q4u rfl rfl rfl (Q3i rfl rfl (.inl rfl) rfl ?_);refine Jv ?_;refine Q0h ?_
 repeat refine Q0m ?_
 refine Q1y rfl (Q0w ?_);exact k):G:=h H k
theorem U7s (H:Q0a w l) (k:K) (h:Q0a w l→K→G:=by
 intro H k;refine Ja 0 ?_;refine Ja 1 ?_;refine Jf 2 ?_;refine Jl 3 [6,11] H ?_;refine Jf 4 ?_;exact k):G:=h H k
theorem U7t (H:Q0a w l) (k:K) (h:Q0a w l→K→G:=by
 intro H k;refine Jv ?_;refine Jv ?_;refine Q0s rfl (Q3a H rfl rfl inferInstance rfl rfl (Nat.le_of_ble_eq_true rfl) rfl ?_);exact k):G:=h H k
theorem U7u (H:Q0a w l) (k:K) (h:Q0a w l→K→G:=by
 intro H k;refine Jv ?_;refine Jv ?_;refine Q2q rfl rfl rfl rfl ?_;refine Q2q rfl rfl rfl rfl ?_;refine Q4u rfl rfl rfl (Q0q rfl rfl ?_);refine Q4u rfl rfl rfl (Q0l H rfl rfl rfl ?_);refine Q2q rfl rfl rfl rfl ?_;exact k):G:=h H k
theorem U7v (H:Q0a w l) (k:K) (h:Q0a w l→K→G:=by
 intro H k;refine Jv ?_;refine Jv ?_;refine Q3h rfl rfl rfl ?_;refine Q3h rfl rfl rfl ?_;refine Q3h rfl rfl rfl ?_;refine Q3h rfl rfl rfl ?_;refine Q3h rfl rfl rfl ?_;refine Q3h rfl rfl rfl ?_;refine Q3h rfl rfl rfl ?_;refine Q3h rfl rfl rfl ?_;exact k):G:=h H k
theorem U7w (H:Q0a w l) (k:K) (h:Q0a w l→K→G:=by
 intro H k
 repeat refine Q0m ?_
 refine Q0f ?_;refine Jv ?_;refine Jv ?_;refine Q0s rfl (V0t rfl rfl (.inr rfl) rfl ?_);refine Q0h ?_;exact k):G:=h H k
theorem U7x (H:Q0a w l) (k:K) (h:Q0a w l→K→G:=by
 intro H k;refine Jv ?_;refine Q0s rfl (Q0q rfl rfl ?_);refine Q0s rfl (Q0l H rfl rfl rfl ?_);refine Jv ?_;refine Q0s rfl (V0t rfl rfl (.inl rfl) rfl ?_);exact k):G:=h H k
theorem U7y (H:Q0a w l) (k:K) (h:Q0a w l→K→G:=by
 intro H k;refine Q0h ?_
 repeat refine Q0m ?_
 refine Q0f ?_;refine Jv ?_;refine Jv ?_;refine Q0s rfl (Q0q rfl rfl ?_);refine Q0s rfl (Q0l H rfl rfl rfl ?_);refine Jv ?_;exact k):G:=h H k
theorem U7z (H:Q0a w l) (k:K) (h:Q0a w l→K→G:=by
 intro H k
 repeat refine Q0m ?_
 refine Q0f ?_;refine Jv ?_;refine Jv ?_;refine Q0s rfl (Q0q rfl rfl ?_);refine Q0s rfl (Q0l H rfl rfl rfl ?_);refine Q0s rfl (Q1z rfl rfl ?_);refine Jv ?_;refine Q0h ?_;exact k):G:=h H k
theorem U8a (H:Q0a w l) (k:K) (h:Q0a w l→K→G:=by
 intro H k;refine Jn 9 ?_;refine Jn 10 ?_;refine Jn 11 ?_;exact k):G:=h H k
theorem U8b (H:Q0a w l) (k:K) (h:Q0a w l→K→G:=by
 intro H k;refine Jn 14 ?_;refine Jn 15 ?_;refine Jn 16 ?_;refine Jn 17 ?_;refine Jn 18 ?_;refine Jn 19 ?_;refine Jn 20 ?_;refine Jn 21 ?_;refine Jn 22 ?_;refine Jn 23 ?_;exact k):G:=h H k
theorem U8c (H:Q0a w l) (k:K) (h:Q0a w l→K→G:=by
 intro H k;refine Ja 24 ?_;refine Ja 25 ?_;refine Jn 26 ?_;refine Jn 27 ?_;refine Jn 28 ?_;refine Jn 29 ?_;refine Jn 30 ?_;refine Jn 31 ?_;refine Jn 32 ?_;refine Jn 33 ?_;refine Jn 34 ?_;refine Jn 35 ?_;refine Jn 36 ?_;refine Jn 37 ?_;refine Ja 38 ?_;refine Jx H ?_
 repeat refine Q0m ?_
 refine Q3g rfl ?_
 repeat refine Q0m ?_
 refine Q0f ?_;refine Jv ?_;refine Jv ?_;refine Q0h ?_;exact k):G:=h H k
theorem U8d (H:Q0a w l) (k:K) (h:Q0a w l→K→G:=by
 intro H k
 repeat refine Q0m ?_
 refine Q3g rfl ?_
 repeat refine Q0m ?_
 refine Q0f ?_;refine Q0s rfl (Q6d rfl rfl ?_);refine Jv ?_;refine Q0s rfl (Q3a H rfl rfl inferInstance rfl rfl (Nat.le_of_ble_eq_true rfl) rfl ?_);exact k):G:=h H k
theorem U8e (H:Q0a w l) (k:K) (h:Q0a w l→K→G:=by
 intro H k;refine Jv ?_;refine Q0h ?_
 repeat refine Q0m ?_
 refine Q0f ?_;refine Q0s rfl (Q0l H rfl rfl rfl ?_);refine Q0s rfl (Q1j H rfl (by repeat first|exact .nil _|apply Q0o.cons rfl) rfl ?_);refine Jv ?_;exact k):G:=h H k
theorem U8f (H:Q0a w l) (k:K) (h:Q0a w l→K→G:=by
 intro H k;refine Ja 7 ?_;refine Ja 8 ?_;refine Ja 9 ?_;refine Ja 10 ?_;exact k):G:=h H k
theorem U8g (H:Q0a w l) (k:K) (h:Q0a w l→K→G:=by
 intro H k;refine Q0h ?_
 repeat refine Q0m ?_
 refine Q0f ?_;refine Q0s rfl (Q1j H rfl (by repeat first|exact .nil _|apply Q0o.cons rfl) rfl ?_);refine Q0s rfl (Q1j H rfl (by repeat first|exact .nil _|apply Q0o.cons rfl) rfl ?_);refine Q0s rfl (V8o rfl rfl (.inl rfl) rfl ?_);exact k):G:=h H k
theorem U8h (H:Q0a w l) (k:K) (h:Q0a w l→K→G:=by
 intro H k
 repeat refine Q0m ?_
 refine Q0f ?_;refine Jv ?_;refine Jv ?_;refine Q0s rfl (Q0q rfl rfl ?_);refine Q0s rfl (Q0l H rfl rfl rfl ?_);refine Jv ?_;refine Q0s rfl (Q0q rfl rfl ?_);refine Q0s rfl (Q0l H rfl rfl rfl ?_);exact k):G:=h H k
theorem U8i (H:Q0a w l) (k:K) (h:Q0a w l→K→G:=by
 intro H k
 repeat refine Q0m ?_
 refine Q0f ?_;refine Jv ?_;refine Jv ?_;refine Q0s rfl (Q0q rfl rfl ?_);refine Q0s rfl (Q0l H rfl rfl rfl ?_);refine Jv ?_;refine Q0s rfl (Q0q rfl rfl ?_);refine Q0s rfl (Q0l H rfl rfl rfl ?_);refine Jv ?_;exact k):G:=h H k
theorem U8j (H:Q0a w l) (k:K) (h:Q0a w l→K→G:=by
 intro H k
 repeat refine Q0m ?_
 refine Q3g rfl ?_
 repeat refine Q0m ?_
 refine Q0f ?_;refine Jv ?_;refine Jv ?_;refine Jv ?_;exact k):G:=h H k
theorem U8k (H:Q0a w l) (k:K) (h:Q0a w l→K→G:=by
 intro H k;refine Q0s rfl (Q0q rfl rfl ?_);refine Q0s rfl (Q1j H rfl (by repeat first|exact .nil _|apply Q0o.cons rfl) rfl ?_);exact k):G:=h H k
theorem U8l (H:Q0a w l) (k:K) (h:Q0a w l→K→G:=by
 intro H k;refine Ja 7 ?_;refine Ja 8 ?_;refine Ja 9 ?_;refine Ja 10 ?_;refine Ja 11 ?_;refine Jx H ?_
 repeat refine Q0m ?_
 refine Q0f ?_;refine Jv ?_;refine Jv ?_;refine Jv ?_;refine Jv ?_;exact k):G:=h H k
theorem U8m (H:Q0a w l) (k:K) (h:Q0a w l→K→G:=by
 intro H k;refine Ja 10 ?_;refine Ja 11 ?_;refine Jf 12 ?_;exact k):G:=h H k
theorem U8n (H:Q0a w l) (k:K) (h:Q0a w l→K→G:=by
 intro H k;refine Jv ?_;refine Jv ?_;refine Q4u rfl rfl rfl (Q0q rfl rfl ?_);refine Q4u rfl rfl rfl (Q0l H rfl rfl rfl ?_);refine Q4u rfl rfl rfl (Q1z rfl rfl ?_);refine Q2q rfl rfl rfl rfl ?_;exact k):G:=h H k
theorem U8o (H:Q0a w l) (k:K) (h:Q0a w l→K→G:=by
 intro H k;refine Ja 0 ?_;refine Ja 1 ?_;refine Jf 2 ?_;refine Jl 3 [7] H ?_;refine Jf 4 ?_;refine Jl 5 [7] H ?_;refine Ja 6 ?_;refine Jo 7 H ?_;exact k):G:=h H k
theorem U8w (H:Q0a w l) (k:K) (h:Q0a w l→K→G:=by
 intro H k
 first|refine Jv ?_|refine V8p rfl rfl ?_
 refine Jv ?_;refine Jv ?_;refine Jv ?_;refine Jv ?_;refine Q0h ?_;exact k):G:=h H k
theorem U8x (H:Q0a w l) (k:K) (h:Q0a w l→K→G:=by
 intro H k;refine Q4u rfl rfl rfl (Q0q rfl rfl ?_);refine Q4u rfl rfl rfl (Q0l H rfl rfl rfl ?_);refine Q4u rfl rfl rfl (Q1z rfl rfl ?_);refine Q2q rfl rfl rfl rfl ?_;exact k):G:=h H k
theorem U8y (H:Q0a w l) (k:K) (h:Q0a w l→K→G:=by
 intro H k
 repeat refine Q0m ?_
 refine Q0f ?_;refine Jv ?_;refine Q0h ?_
 repeat refine Q0m ?_
 refine Q0f ?_;refine Jv ?_;refine Q0h ?_
 repeat refine Q0m ?_
 refine Q0t ?_;exact k):G:=h H k
theorem U8z (H:Q0a w l) (k:K) (h:Q0a w l→K→G:=by
 intro H k;refine Q0s rfl (Q0q rfl rfl ?_);refine Q0s rfl (Q0l H rfl rfl rfl ?_);refine Jv ?_;exact k):G:=h H k
theorem U9a (H:Q0a w l) (k:K) (h:Q0a w l→K→G:=by
 intro H k;refine Q1w 5 [6,7,10] H rfl (Q0n.none rfl) rfl (by repeat first|exact .nil _|apply Q0o.cons rfl) (by kernel_rfl) ?_;exact k):G:=h H k
theorem U9b (H:Q0a w l) (k:K) (h:Q0a w l→K→G:=by
 intro H k
 repeat refine Q0m ?_
 refine Q0f ?_;refine Q0s rfl (Q0l H rfl rfl rfl ?_);refine Q0s rfl (Q1j H rfl (by repeat first|exact .nil _|apply Q0o.cons rfl) rfl ?_);refine Jv ?_;exact k):G:=h H k
theorem U9c (H:Q0a w l) (k:K) (h:Q0a w l→K→G:=by
 intro H k;refine Q1w 5 [6,11] H rfl (Q0n.none rfl) rfl (by repeat first|exact .nil _|apply Q0o.cons rfl) (by kernel_rfl) ?_;exact k):G:=h H k
theorem U9d (H:Q0a w l) (k:K) (h:Q0a w l→K→G:=by
 intro H k;refine Q1w 5 [7] H rfl (Q0n.none rfl) rfl (by repeat first|exact .nil _|apply Q0o.cons rfl) (by kernel_rfl) ?_;exact k):G:=h H k
theorem U9e (H:Q0a w l) (k:K) (h:Q0a w l→K→G:=by
 intro H k;refine Q1w 4 [7,12] H rfl (Q0n.none rfl) rfl (by repeat first|exact .nil _|apply Q0o.cons rfl) (by kernel_rfl) ?_;exact k):G:=h H k
theorem U9f (H:Q0a w l) (k:K) (h:Q0a w l→K→G:=by
 intro H k;refine Ja 0 ?_;refine Ja 1 ?_;refine Jf 2 ?_;refine Jl 3 [6] H ?_;refine Jf 4 ?_;refine Jl 5 [6] H ?_;exact k):G:=h H k
theorem U9g (H:Q0a w l) (k:K) (h:Q0a w l→K→G:=by
 intro H k;refine Q0s rfl (Q2e H rfl rfl inferInstance rfl (Nat.le_of_ble_eq_true rfl) rfl ?_);exact k):G:=h H k
end
end Go.SL
namespace Go.Proofs.YtmjdnljneifpcaaGreatDoor
open Go.SL
@[reducible] def pp (b:Nat):Value := .pointer (some ⟨b,0,none⟩)
theorem Q1e {x:Int} (h1 : -9223372036854775808≤x) (h2:x≤9223372036854775807):IntKind.i64.wrap x=x:=by
 simp[IntKind.wrap,IntKind.bits,IntKind.signed];omega
theorem Q2a {i:Nat} (h:i < 1000000000):Value.int .i64 (IntKind.i64.wrap ((i:Int)+1)) = .int .i64 ((i+1:Nat):Int):=by
 rw[Q1e (by omega) (by omega)];rfl
abbrev Fl:=Nat×Nat
def V6w (f:Fl):Prop:=0 < f.2∧f.1+f.2≤64
@[reducible] def fv (f:Fl):Value := .agg #[.int .i64 f.1,.int .i64 f.2]
def U9q (f:Fl):List Value:=[.int .i64 f.1,.int .i64 f.2]
def Y2f (l:List Fl):List Value:=l.flatMap U9q
def Q1b (l:List Nat):List Value:=l.map fun x:Nat=>Value.int .u64 (x:Int)
theorem Q8a (l:List Fl):(Y2f l).length=l.length*2:=by
 induction l with
 | nil=>rfl
 | cons p L ih=>simp only[Y2f,U9q,List.flatMap_cons,List.length_append,List.length_cons,List.length_nil] at ih ⊢;omega
theorem Q1f (l:List Nat):(Q1b l).length=l.length*1:=by simp[Q1b]
theorem Y4v (a b:List Nat):Q1b (a++b)=Q1b a++Q1b b:=by simp[Q1b]
theorem V1o {l:List Nat} {spare:List Value} {i x:Nat} (h:l[i]? = some x):(Q1b l++spare)[0+i*1]? = some (.int .u64 x):=by
 have hi:=(List.getElem?_eq_some_iff.1 h).1;rw[Nat.zero_add,Nat.mul_one,List.getElem?_append_left (by simpa [Q1b] using hi)];simp[Q1b,h]
theorem Z6j {L:List Fl} {i:Nat} {p:Fl} (h:L[i]? = some p):(Y2f L)[i*2]? = some (.int .i64 p.1)∧(Y2f L)[i*2+1]? = some (.int .i64 p.2):=by
 induction L generalizing i with
 | nil=>simp at h
 | cons x L ih=>
  cases i with
  | zero=>
   simp at h;subst h;exact⟨rfl,rfl⟩
  | succ i=>
   have:=ih (i:=i) (by simpa using h);rw[show (i+1)*2=i*2+2 by omega];exact this
theorem V0x {L:List Fl} {spare:List Value} {i:Nat} {p:Fl} (h:L[i]? = some p):Q0o (Y2f L++spare) (0+i*2) 2 [.int .i64 p.1,.int .i64 p.2]:=by
 obtain⟨h1,h2⟩:=Z6j h;have hi:=(List.getElem?_eq_some_iff.1 h).1;have hl:=Q8a L;rw[Nat.zero_add];refine .cons ?_ (.cons ?_ (.nil _))
 ·rw[List.getElem?_append_left (by omega)];exact h1
 ·rw[List.getElem?_append_left (by omega)];exact h2
@[reducible] def FL (v:Value) (l:List Fl):Q0e:=sls 307 2 v (Y2f l)
@[reducible] def UL (v:Value) (l:List Nat):Q0e:=sls 83 1 v (Q1b l)
theorem V8v [Q0i] (f:Fl) (hf:V6w f) {w:World} {fr:List Q0e} (H:Q0a w fr):Calls Tryz.prog 250 #[fv f] w (ret fun v w'=>v = .bool true∧Q0a w' fr):=by
 obtain⟨a,d⟩:=f;obtain⟨h1,h2⟩:=hf;dsimp only at h1 h2;refine Q0c Tryz.func250 rfl (by kernel_rfl) ?_;refine J8 H ?_;clear H;intro b1 w H;refine J0 H ?_;refine G8c H ?_;rw[show decide ((a:Int)≥0)=true from decide_eq_true (by omega)];refine U1p H ?_;rw[show decide ((a:Int) < 64)=true from decide_eq_true (by omega)];refine U3l H ?_;rw[show decide ((d:Int) > 0)=true from decide_eq_true (by omega)];refine J26 H ?_;refine J53 H ?_;refine J53 H ?_;refine J33 H ?_;rw[show decide ((d:Int)≤IntKind.i64.wrap (64 - (a:Int)))=true from decide_eq_true (by rw[Q1e (by omega) (by omega)];omega)];refine J2 H ?_;exact Q0g (Jy H.drop rfl fun w' H'=>⟨rfl,H'⟩)
theorem V3x [Q0i] (f:Fl) (hf:V6w f) {w:World} {fr:List Q0e} (H:Q0a w fr):Calls Tryz.prog 218 #[fv f] w (ret fun v w'=>v = .int .u64 (Q7q f.1 f.2)∧Q0a w' fr):=by
 obtain⟨a,d⟩:=f;obtain⟨h1,h2⟩:=hf;dsimp only at h1 h2;refine Q0c Tryz.func218 rfl (by kernel_rfl) ?_;refine J8 H ?_;clear H;intro b1 w H;refine J0 H ?_;have e64:IntKind.i64.wrap (64 - (d:Int))=((64 - d:Nat):Int):=by rw[Q1e (by omega) (by omega)];omega
 have e1:Z9w .u64 18446744073709551615 ((64 - d:Nat):Int)=((2 ^ d - 1:Nat):Int):=by
  rw[show (18446744073709551615:Int)=((18446744073709551615:Nat):Int) from rfl,V8s (by omega) rfl];congr 1;have hp:(18446744073709551615:Nat)=2 ^ d*2 ^ (64 - d) - 1:=by rw[← Nat.pow_add,show d+(64 - d)=64 by omega]
  rw[hp];have hd:=Nat.two_pow_pos (64 - d);have hd2:=Nat.two_pow_pos d
  rw[show 2 ^ d*2 ^ (64 - d) - 1=(2 ^ (64 - d) - 1)+2 ^ (64 - d)*(2 ^ d - 1) by
   rw[Nat.mul_sub,Nat.mul_comm (2 ^ d),Nat.mul_one];have:2 ^ (64 - d)≤2 ^ (64 - d)*2 ^ d:=Nat.le_mul_of_pos_right _ hd2;omega]
  rw[Nat.add_mul_div_left _ _ hd,Nat.div_eq_of_lt (by omega),Nat.zero_add]
 have e2:G4l .u64 ((2 ^ d - 1:Nat):Int) (a:Int)=(Q7q a d:Nat):=by
  rw[Z1c (by omega)];have:=V3t (a:=a) (wd:=d) h2;unfold Q7q at this ⊢;rw[Nat.mod_eq_of_lt this]
 refine J1 H ?_;clear H;intro w H;refine G8d H ?_;rw[e64]
 refine Z0w (v := .int .u64 (Z9w .u64 18446744073709551615 ((64 - d:Nat):Int))) 3 rfl (Q0n.none rfl) (by
  show (if ((64 - d:Nat):Int) < 0 then none else some _)=_;rw[if_neg (by omega)]) (by kernel_rfl) ?_
 rw[e1];refine G8e H ?_
 refine Z0w (v := .int .u64 (G4l .u64 ((2 ^ d - 1:Nat):Int) (a:Int))) 6 rfl (Q0n.none rfl) (by
  show (if (a:Int) < 0 then none else some _)=_;rw[if_neg (by omega)]) (by kernel_rfl) ?_
 rw[e2];refine Ja 7 ?_;refine Jx H ?_;exact Q0g (Jy H.drop rfl fun w' H'=>⟨rfl,H'⟩)
end Go.Proofs.YtmjdnljneifpcaaGreatDoor
namespace Go.Proofs.YtmjdnljneifpcaaGreatDoor
open Go.SL
def G8r (fs:List Fl):Prop:=(∀ f∈fs,V6w f)∧fs.Pairwise (fun f g=>f.1+f.2≤g.1)
theorem G8r.at {fs:List Fl} (h:G8r fs) {i:Nat} {f:Fl} (hf:fs[i]? = some f):V6w f:=h.1 f (List.mem_of_getElem? hf)
theorem Y2g [Q0i] (v:Value) (fs:List Fl) (hfs:G8r fs) (hl:fs.length≤1000000) {w:World} {fr:List Q0e} (H:Q0a w (FL v fs::fr)) :
  Calls Tryz.prog 217 #[v] w (ret fun x w'=>x = .bool true∧Q0a w' (FL v fs::fr)):=by
 obtain⟨a,c,rfl⟩:=Q0j H (Q8a fs) (by decide);refine Q0c Tryz.func217 rfl (by kernel_rfl) ?_;refine J14 H ?_;refine U1q H ?_;refine Q1l (fun ms σ w n=>ms=[]∧∃ (i A:Nat),i≤fs.length∧n=fs.length - i∧(∀ f∈fs.drop i,A < 2 ^ f.1)∧σ 3 = .int .u64 A∧σ 6 = .slice a fs.length c∧σ 7 = .int .i64 fs.length∧σ 8 = .int .i64 i∧Q0a w (FL (.slice a fs.length c) fs::fr)) (m:=fs.length) ⟨rfl,0,0,by omega,rfl,fun f _=>Nat.two_pow_pos _,rfl,rfl,rfl,rfl,H⟩ ?_;clear H;rintro ms σ w n ⟨rfl,i,A,hi,rfl,hA,g3,g6,g7,g8,H⟩;rw[Q0b g3,Q0b g6,Q0b g7,Q0b g8];refine J5 H ?_;refine Q2d rfl (fun h=>Q0w ?_) (fun h=>Q1n ?_)
 ·have hlt:i < fs.length:=by omega
  have hx:=List.getElem?_eq_getElem hlt;have hdr:fs.drop i=fs[i]::fs.drop (i+1):=List.drop_eq_getElem_cons hlt;have hpw:=hfs.2;rw[← List.take_append_drop i fs,hdr] at hpw;have hpw2:=(List.pairwise_cons.1 (List.pairwise_append.1 hpw).2.1).1;rw[hdr] at hA;generalize fs[i]=f at hx hpw2 hA;have hf:=hfs.at hx;have hAf:=hA f (by simp);have hA64:A < 18446744073709551616:=Nat.lt_of_lt_of_le hAf (Nat.le_trans (Nat.pow_le_pow_right (by decide) (show f.1≤64 by have:=hf.2;omega)) (by decide));have hm64:=V3t (a:=f.1) (wd:=f.2) hf.2
  have hand:V5c .and .u64 (A:Int) (Q7q f.1 f.2:Nat)=0:=by
   rw[Y4o hA64 hm64,Z4g,Nat.div_eq_of_lt hAf];simp
  have hor:V5c .or .u64 (A:Int) (Q7q f.1 f.2:Nat)=((A+Q7q f.1 f.2:Nat):Int):=by
   rw[G8a hA64 hm64];unfold Q7q;rw[Z4h hAf]
  obtain⟨b,s,rfl,H,hclose⟩:=Q0y H (by omega);refine J19 H ?_;refine Jd ?_;refine Q0s rfl (Q1j H rfl (V0x hx) rfl ?_);refine J12 H ?_;clear H;intro b5 w H;refine J4 H ?_;clear H;intro w H;refine Q0h ?_
  repeat refine Q0m ?_
  refine Q0f ?_;refine Q0s rfl (Q1j H rfl (by repeat first|exact .nil _|apply Q0o.cons rfl) rfl ?_);refine Jc rfl rfl (V8v f hf H) ?_;clear H;rintro v w ⟨rfl,H⟩;refine U3m H ?_;refine G9q H ?_;refine Q4u rfl rfl rfl (Q1h (a:=[]) (b:=[]) rfl rfl (call (V3x f hf H) ?_));clear H;rintro v w ⟨rfl,H⟩;refine Q2q rfl rfl (v := .int .u64 (V5c .and .u64 (A:Int) (Q7q f.1 f.2:Nat))) rfl rfl ?_;rw[hand];refine U1r H ?_;refine J42 H ?_;refine Jc rfl rfl (V3x f hf H) ?_;clear H;rintro v w ⟨rfl,H⟩;refine V5d (v := .int .u64 (V5c .or .u64 (A:Int) (Q7q f.1 f.2:Nat))) rfl rfl ?_;rw[hor];refine J22 H ?_;replace H:=hclose _ _ H.drop;refine⟨_,⟨rfl,i+1,A+Q7q f.1 f.2,hlt,rfl,fun g hg=>?_,rfl,rfl,rfl,Q2a (by omega),H⟩,by omega⟩;have h1:=hpw2 g hg
  have h2:A+Q7q f.1 f.2 < 2 ^ (f.1+f.2):=by
   unfold Q7q;rw[Nat.pow_add,Nat.sub_mul,Nat.one_mul,Nat.mul_comm (2 ^ f.2)];have:2 ^ f.1≤2 ^ f.1*2 ^ f.2:=Nat.le_mul_of_pos_right _ (Nat.two_pow_pos _);omega
  exact Nat.lt_of_lt_of_le h2 (Nat.pow_le_pow_right (by decide) h1)
 ·refine J14 H ?_;exact Q0g (Jy H rfl fun w' H'=>⟨rfl,H'⟩)
def V8w (x:Nat) (f:Fl):Nat:=x / 2 ^ f.1 % 2 ^ f.2
theorem V2l [Q0i] (x:Nat) (hx64:x < 18446744073709551616) (v:Value) (fs:List Fl) (hfs:G8r fs) (hl:fs.length≤1000) {w:World} {fr:List Q0e} (H:Q0a w (FL v fs::fr)) :
  Calls Tryz.prog 145 #[.int .u64 x,v] w (ret fun r w'=>∃ u,r = .tuple #[u,.int .i64 0]∧Q0a w' (UL u (fs.map (V8w x))::FL v fs::fr)):=by
 obtain⟨a,c,rfl⟩:=Q0j H (Q8a fs) (by decide);refine Q0c Tryz.func145 rfl (by kernel_rfl) ?_;refine U6h H ?_;refine Jc rfl rfl (Y2g _ fs hfs (by omega) H) ?_;clear H;rintro v w ⟨rfl,H⟩;refine J17 H ?_;refine U1q H ?_;refine Q1l (fun ms σ w n=>ms=[]∧∃ (i:Nat) (g:Value),i≤fs.length∧n=fs.length - i∧σ 0 = .int .u64 x∧σ 6=g∧σ 12 = .slice a fs.length c∧σ 13 = .int .i64 fs.length∧σ 14 = .int .i64 i∧Q0a w (UL g ((fs.take i).map (V8w x))::FL (.slice a fs.length c) fs::fr)) (m:=fs.length) ⟨rfl,0,_,by omega,rfl,rfl,rfl,rfl,rfl,rfl,Q3x H⟩ ?_;clear H;rintro ms σ w n ⟨rfl,i,g,hi,rfl,g0,g6,g12,g13,g14,H⟩;obtain⟨ag,cg,rfl⟩:=Q0j H (Q1f _) (by decide);rw[Q0b g0,Q0b g6,Q0b g12,Q0b g13,Q0b g14];refine J5 H ?_;refine Q2d rfl (fun h=>Q0w ?_) (fun h=>Q1n ?_)
 ·have hlt:i < fs.length:=by omega
  have hx:=List.getElem?_eq_getElem hlt;generalize fs[i]=f at hx;have hf:=hfs.at hx;have hm64:=V3t (a:=f.1) (wd:=f.2) hf.2;have hf1:f.1 < 64:=by have:=hf.1;have:=hf.2;omega
  have hsh:Z9w .u64 (V5c .and .u64 (x:Int) (Q7q f.1 f.2:Nat)) (f.1:Int)=(V8w x f:Nat):=by
   rw[Y4o hx64 hm64,V8s hf1 rfl,G5b];rfl
  replace H:=Js [1,0] 0 H;obtain⟨b,s,rfl,H,hclose⟩:=Q0y H (by omega);refine J19 H ?_;refine Jd ?_;refine Q0s rfl (Q1j H rfl (V0x hx) rfl ?_);refine J12 H ?_;clear H;intro b8 w H;refine J4 H ?_;clear H;intro w H;refine Q0h ?_;replace H:=hclose _ _ H.swap;replace H:=Js [2,1,0] 0 H;refine J1 H ?_;clear H;intro w H;refine Ja 0 ?_;refine Ja 1 ?_;refine Q1w 2 [3,8,9] H rfl (Q0n.none rfl) rfl (by repeat first|exact .nil _|apply Q0o.cons rfl) (by kernel_rfl) ?_;refine Jf 5 ?_;refine Jl 6 [8,9] H ?_;refine Jo 3 H ?_;refine Jk rfl rfl (V3x f hf H) ?_;clear H;rintro v w ⟨rfl,H⟩;refine Z0w (v := .int .u64 (V5c .and .u64 (x:Int) (Q7q f.1 f.2:Nat))) 4 rfl (Q0n.none rfl) rfl (by kernel_rfl) ?_
  refine Z0w (v := .int .u64 (Z9w .u64 (V5c .and .u64 (x:Int) (Q7q f.1 f.2:Nat)) (f.1:Int))) 7 rfl (Q0n.none rfl) (by
   show (if (f.1:Int) < 0 then none else some _)=_;rw[if_neg (by omega)]) (by kernel_rfl) ?_
  rw[hsh];refine Jo 8 H ?_;refine G9r H ?_;clear H;intro b26 w H;replace H:=Js [1,0,1] 1 H;refine Jo 9 H ?_;refine Q1t H rfl rfl (by repeat first|exact .nil _|apply Q0o.cons rfl) rfl (by decide) (by rw[Q1f,List.length_map,List.length_take];simp only[List.length_cons,List.length_nil];omega) rfl rfl ?_;clear H;intro v27 w H;obtain⟨a27,m27,c27,rfl⟩:=Q1d H;refine Ja 10 ?_;refine U6i H ?_;replace H:=Js [0,1] 1 H;refine⟨_,⟨rfl,i+1,_,hlt,rfl,rfl,rfl,rfl,rfl,Q2a (by omega),?_⟩,by omega⟩
  have ht:(fs.take (i+1)).map (V8w x)=(fs.take i).map (V8w x)++[V8w x f]:=by
   rw[List.take_add_one,hx,List.map_append];rfl
  rw[ht];show Q0a w (sls _ 1 _ (Q1b ((fs.take i).map (V8w x)++[V8w x f]))::_);rw[Y4v];exact H
 ·have hge:i=fs.length:=by omega
  subst hge;rw[List.take_length] at H;refine J11 H ?_;exact Q0g (Q2w (vs:=[.slice ag (List.map (V8w x) fs).length cg,.int .i64 0]) _ (.inr rfl) H (by rw[List.take_length];rfl) fun w' H'=>⟨_,rfl,H'⟩)
end Go.Proofs.YtmjdnljneifpcaaGreatDoor
namespace Go.Proofs.YtmjdnljneifpcaaGreatDoor
open Go.SL
theorem V6x:∀ (f x:Nat),Lib.bitLenAux f x≤f
 | 0,_=>Nat.le_refl _
 | f+1,x=>by
  unfold Lib.bitLenAux;split
  ·omega
  ·have:=V6x f (x / 2);omega
theorem G0j {x k:Nat} (h:x < 2 ^ k) (hk:k≤64):Lib.bitLen x≤k:=by
 unfold Lib.bitLen;rw[Lib.bitLenAux_fuel k x h 64 hk];exact V6x k x
theorem Z6k [Q0i] (x:Nat) (hx:x < 18446744073709551616) {w:World} {fr:List Q0e} (H:Q0a w fr):Calls Tryz.prog 197 #[.int .u64 x] w (ret fun v w'=>v = .int .i64 (Lib.bitLen x)∧Q0a w' fr):=by
 refine(Any.bits_Len64 Tryz.laysLen (x:Int) w (by omega) (by omega)).mono ?_;rintro e w' ⟨rfl,rfl⟩;exact⟨by rw[Int.toNat_natCast],H⟩
theorem V7u {k:Nat} (h:k≤64):2 ^ k≤18446744073709551616:=Nat.le_trans (Nat.pow_le_pow_right (by decide) h) (by decide)
theorem G5k [Q0i] (x:Nat) (f:Fl) (y:Nat) (hf:V6w f) (hx:x < 2 ^ f.1) (hy:y < 2 ^ f.2) {w:World} {fr:List Q0e} (H:Q0a w fr) :
  Calls Tryz.prog 247 #[.int .u64 x,fv f,.int .u64 y] w (ret fun v w'=>v = .tuple #[.int .u64 ((x+y*2 ^ f.1:Nat):Int),.int .i64 0]∧Q0a w' fr):=by
 have h1:=hf.1;have h2:=hf.2;have hx64:x < 18446744073709551616:=Nat.lt_of_lt_of_le hx (V7u (by omega));have hy64:y < 18446744073709551616:=Nat.lt_of_lt_of_le hy (V7u (by omega));have hm64:=V3t (a:=f.1) (wd:=f.2) hf.2;have hbl:=G0j hy (by omega);have e1:V5c .andNot .u64 (x:Int) (Q7q f.1 f.2:Nat)=(x:Nat):=by rw[Z6c hx64 hm64,Z6d hx hf.2]
 have hyy:y*2 ^ f.1 < 18446744073709551616:=by
  have:y*2 ^ f.1 < 2 ^ f.2*2 ^ f.1:=(Nat.mul_lt_mul_right (Nat.two_pow_pos _)).2 hy;rw[← Nat.pow_add] at this;exact Nat.lt_of_lt_of_le this (V7u (by omega))
 have e2:G4l .u64 (y:Int) (f.1:Int)=((y*2 ^ f.1:Nat):Int):=by rw[Z1c (by omega),Nat.mod_eq_of_lt hyy]
 have e3:V5c .or .u64 (x:Int) ((y*2 ^ f.1:Nat):Int)=((x+y*2 ^ f.1:Nat):Int):=by rw[G8a hx64 hyy,Z4h hx]
 obtain⟨a,d⟩:=f;dsimp only at h1 h2 hx hy hm64 hbl e1 e2 e3 hyy;refine Q0c Tryz.func247 rfl (by kernel_rfl) ?_;refine J8 H ?_;clear H;intro b4 w H;refine J84 H ?_;refine Q1m (fun ms σ w=>ms=[]∧σ 0 = .int .u64 x∧σ 2 = .int .u64 y∧σ 4=pp b4∧Q0a w (pts b4 (row 307 [.int .i64 a,.int .i64 d])::fr)) ?_ ?_
 ·refine Q0t ?_;refine J36 H ?_;refine Jc rfl rfl (V8v (a,d) hf H) ?_;clear H;rintro v w ⟨rfl,H⟩;refine J85 H ?_;refine J1 H ?_;clear H;intro w H;refine Ja 0 ?_;refine Jf 2 ?_;refine Jl 3 [] H ?_;refine Jo 1 H ?_;refine Jk rfl rfl (Z6k y hy64 H) ?_;clear H;rintro v w ⟨rfl,H⟩;refine Ja 4 ?_;rw[show decide (((Lib.bitLen y:Nat):Int) > (d:Int))=false from decide_eq_false (by omega)];refine Ja 5 ?_;refine Jx H ?_;refine J9 H ?_;exact⟨rfl,rfl,rfl,rfl,rfl,H⟩
 ·clear H;rintro ms σ w ⟨rfl,g0,g2,g4,H⟩;rw[Q0b g0,Q0b g2,Q0b g4];refine J1 H ?_;clear H;intro w H;refine Ja 0 ?_;refine Q1w 1 [2] H rfl (Q0n.none rfl) rfl (by repeat first|exact .nil _|apply Q0o.cons rfl) (by kernel_rfl) ?_;refine Ja 4 ?_;refine Jf 5 ?_;refine Jl 6 [] H ?_
  refine Z0w (v := .int .u64 (G4l .u64 (y:Int) (a:Int))) 7 rfl (Q0n.none rfl) (by
   show (if (a:Int) < 0 then none else some _)=_;rw[if_neg (by omega)]) (by kernel_rfl) ?_
  rw[e2];refine Jo 2 H ?_;refine Jk rfl rfl (V3x (a,d) hf H) ?_;clear H;rintro v w ⟨rfl,H⟩;refine Z0w (v := .int .u64 (V5c .andNot .u64 (x:Int) (Q7q a d:Nat))) 3 rfl (Q0n.none rfl) rfl (by kernel_rfl) ?_;rw[e1];refine Z0w (v := .int .u64 (V5c .or .u64 (x:Int) ((y*2 ^ a:Nat):Int))) 8 rfl (Q0n.none rfl) rfl (by kernel_rfl) ?_;rw[e3];refine Ja 9 ?_;refine Ja 10 ?_;refine Jx H ?_;exact Q0g (Jy H.drop rfl fun w' H'=>⟨rfl,H'⟩)
def V0y:List Fl→List Nat→Nat
 | f::fs,x::xs=>x*2 ^ f.1+V0y fs xs
 | _,_=>0
theorem Y2h:∀ (fs:List Fl) (xs:List Nat) (f:Fl) (x:Nat),fs.length=xs.length→V0y (fs++[f]) (xs++[x])=V0y fs xs+x*2 ^ f.1
 | [],[],f,x,_=>by simp[V0y]
 | [],_::_,_,_,h=>by simp at h
 | _::_,[],_,_,h=>by simp at h
 | g::fs,y::xs,f,x,h=>by
  have ih:=Y2h fs xs f x (by simpa using h);show y*2 ^ g.1+V0y (fs++[f]) (xs++[x])=y*2 ^ g.1+V0y fs xs+x*2 ^ f.1;rw[ih];omega
theorem V3y [Q0i] (vf vx:Value) (fs:List Fl) (xs:List Nat) (hfs:G8r fs) (hl:fs.length≤1000) (hlen:fs.length=xs.length) (hb:∀ (i:Nat) (f:Fl) (x:Nat),fs[i]? = some f→xs[i]? = some x→x < 2 ^ f.2) {w:World} {fr:List Q0e} (H:Q0a w (FL vf fs::UL vx xs::fr)) :
  Calls Tryz.prog 206 #[vf,vx] w (ret fun v w'=>v = .tuple #[.int .u64 (V0y fs xs),.int .i64 0]∧Q0a w' (FL vf fs::UL vx xs::fr)):=by
 obtain⟨a,c,rfl⟩:=Q0j H (Q8a fs) (by decide);obtain⟨a1,c1,rfl⟩:=Q0j H.drop (Q1f xs) (by decide);refine Q0c Tryz.func206 rfl (by kernel_rfl) ?_;refine U6h H ?_;refine U6j H ?_;refine U6j H ?_;rw[show ((fs.length:Int) != (xs.length:Int))=false by rw[hlen];simp];refine U1s H ?_;refine Q4u rfl rfl rfl (Q1h (a:=[]) (b:=[]) rfl rfl (call (Y2g _ fs hfs (by omega) H) ?_));clear H;rintro v w ⟨rfl,H⟩;refine U1r H ?_;refine U1q H ?_;refine Q1l (fun ms σ w n=>ms=[]∧∃ i:Nat,i≤fs.length∧n=fs.length - i∧(∀ f∈fs.drop i,V0y (fs.take i) (xs.take i) < 2 ^ f.1)∧σ 1 = .slice a1 xs.length c1∧σ 6 = .int .u64 (V0y (fs.take i) (xs.take i))∧σ 20 = .slice a fs.length c∧σ 21 = .int .i64 fs.length∧σ 22 = .int .i64 i∧Q0a w (FL (.slice a fs.length c) fs::UL (.slice a1 xs.length c1) xs::fr)) (m:=fs.length) ⟨rfl,0,by omega,rfl,fun f _=>by simp only[List.take_zero,V0y];exact Nat.two_pow_pos _,rfl,rfl,rfl,rfl,rfl,H⟩ ?_;clear H;rintro ms σ w n ⟨rfl,i,hi,rfl,hW,g1,g6,g20,g21,g22,H⟩;rw[Q0b g1,Q0b g6,Q0b g20,Q0b g21,Q0b g22];refine J5 H ?_;refine Q2d rfl (fun h=>Q0w ?_) (fun h=>Q1n ?_)
 ·have hlt:i < fs.length:=by omega
  have hx:=List.getElem?_eq_getElem hlt;have hy:=List.getElem?_eq_getElem (l:=xs) (i:=i) (by omega);have hdr:fs.drop i=fs[i]::fs.drop (i+1):=List.drop_eq_getElem_cons hlt;have hpw:=hfs.2;rw[← List.take_append_drop i fs,hdr] at hpw;have hpw2:=(List.pairwise_cons.1 (List.pairwise_append.1 hpw).2.1).1;rw[hdr] at hW;generalize fs[i]=f at hx hpw2 hW;generalize xs[i]'(by omega)=y at hy;have hf:=hfs.at hx;have hWf:=hW f (by simp);have hyb:=hb i f y hx hy
  have hsn:V0y (fs.take (i+1)) (xs.take (i+1))=V0y (fs.take i) (xs.take i)+y*2 ^ f.1:=by
   rw[List.take_add_one,List.take_add_one,hx,hy];exact Y2h _ _ f y (by rw[List.length_take,List.length_take,hlen])
  obtain⟨b,s,rfl,H,hclose⟩:=Q0y H (by omega);obtain⟨b2,s2,rfl,H,hclose2⟩:=Q0y H.swap (by omega);refine U1t H ?_;refine Jd ?_;refine Q0s rfl (Q1j H rfl (V0x hx) rfl ?_);refine J12 H ?_;clear H;intro b8 w H;refine U3n H ?_;clear H;intro w H;refine Q0h ?_;refine J5 H ?_;refine V5e H mixed ?_;clear H;intro w H;refine Ja 0 ?_;refine Q1w 1 [6] H rfl (Q0n.none rfl) rfl (by repeat first|exact .nil _|apply Q0o.cons rfl) (by kernel_rfl) ?_;refine Ja 2 ?_;refine Ja 3 ?_;refine Ji 4 ?_;refine Q2b 5 [6] H rfl (Q0n.none rfl) rfl (V1o hy) (by kernel_rfl) ?_
  refine Jo 6 H ?_;refine Jk rfl rfl (G5k _ f y hf hWf hyb H) ?_;clear H;rintro v w ⟨rfl,H⟩;refine J46 H ?_;refine J47 H ?_;refine J3 H ?_;replace H:=Js [1,1] 1 H;replace H:=hclose2 _ _ H;replace H:=hclose _ _ H.swap;refine⟨_,⟨rfl,i+1,hlt,rfl,fun g hg=>?_,rfl,?_,rfl,rfl,Q2a (by omega),H⟩,by omega⟩
  ·have h1:=hpw2 g hg;rw[hsn]
   have h2:V0y (fs.take i) (xs.take i)+y*2 ^ f.1 < 2 ^ (f.1+f.2):=by
    rw[Nat.pow_add];have:(y+1)*2 ^ f.1≤2 ^ f.2*2 ^ f.1:=Nat.mul_le_mul_right _ hyb;rw[Nat.add_mul,Nat.one_mul] at this;rw[Nat.mul_comm (2 ^ f.1)];omega
   exact Nat.lt_of_lt_of_le h2 (Nat.pow_le_pow_right (by decide) h1)
  ·rw[hsn];rfl
 ·have hge:i=fs.length:=by omega
  subst hge;refine J11 H ?_;refine Q0g (Jy H rfl fun w' H'=>⟨?_,H'⟩);have e:xs.take fs.length=xs:=by rw[hlen,List.take_length]
  rw[List.take_length,e];rfl
end Go.Proofs.YtmjdnljneifpcaaGreatDoor
