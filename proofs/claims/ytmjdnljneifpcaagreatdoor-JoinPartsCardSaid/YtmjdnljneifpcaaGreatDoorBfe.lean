/- Cells: what is proved on the way: every input of the statement; no condition. Texts joined: Dic FldA FldB FldC. -/
import Derived.Test.YtmjdnljneifpcaaGreatDoorBfa
import Derived.Test.YtmjdnljneifpcaaGreatDoorBfb
import Derived.Test.YtmjdnljneifpcaaGreatDoorBfc
import Derived.Test.YtmjdnljneifpcaaGreatDoorBfd
set_option linter.unusedVariables false
set_option linter.unusedSimpArgs false
set_option linter.unusedSectionVars false
namespace Go.SL
open List
section
variable [Q4] {P:Program} {n:Nat} {r:Option Nat} {ops:Array Oper} {Q:Z7} {ms:List Nat} {σ:QB} {w:World} {rest:List Oper} {o:Oper} {l:List Q2} {ivs:List (List Nat×(World→Prop))} {T:QB→World→Prop} {f:Nat} {L:Array Bool} {t u:TypeId} {p:String} {af:Array Edge} {g:Option (Nat×Bool)} {d:Option Tmp} {x:Operand} {G K:Prop}
theorem Jo (j:Nat) (H:Q0 w l) (k:St P n r o σ w (Any P n r ops ivs T f (L.setIfInBounds j true))) (hi:ops[j]? = some o:=by rfl) (hr:Region.ready .any ops L=[j]:=by kernel_rfl)
  (hI:Q0 w l→YA ivs L w:=by intro H;repeat first|exact YA.nil|refine YA.cons (.inr (Q0.at H)) ?_|refine YA.cons (.inr (Q0.mp H)) ?_|refine YA.cons (.inl (by kernel_rfl)) ?_)
  (hg:Q8 ops σ o true:=by first|exact Q8.none rfl|exact Q8.of rfl rfl rfl):Any P n r ops ivs T (f+1) L σ w:=Hu j hi hr (hI H) hg k
theorem Ja {op:Op} {v:Value} (i:Nat) (k:Any P n r ops ivs T f (L.setIfInBounds i true) (put σ d v) w) (hi:ops[i]? = some ⟨d,op,u,p,af,g⟩:=by rfl) (hg:Q8 ops σ ⟨d,op,u,p,af,g⟩ true:=by first|exact Q8.none rfl|exact Q8.of rfl rfl rfl) (hv:pv σ op=some v:=by rfl) (hs:ZW n ops (ivs.map (·.1)) L i []=true:=by kernel_rfl):Any P n r ops ivs T (f+1) L σ w:=XF i hi hg hv hs k
theorem Jf {s:TypeId} {fi off b i₀:Nat} (i:Nat) (k:Any P n r ops ivs T f (L.setIfInBounds i true) (put σ d (.pointer (some ⟨b,i₀+off,none⟩))) w) (hi:ops[i]? = some ⟨d,.fieldAddr s x fi,u,p,af,g⟩:=by rfl) (hg:Q8 ops σ ⟨d,.fieldAddr s x fi,u,p,af,g⟩ true:=by first|exact Q8.none rfl|exact Q8.of rfl rfl rfl) [hf:Qf P s fi off] (hx:ev σ x = .pointer (some ⟨b,i₀,none⟩):=by rfl) (hs:ZW n ops (ivs.map (·.1)) L i []=true:=by kernel_rfl):Any P n r ops ivs T (f+1) L σ w:=nv i hi hg hx hs k
theorem Jl {b i₀ E:Nat} {fz:Nat×Nat} {c:List Value} {v:Value} (i:Nat) (D:List Nat) (H:Q0 w l) (k:Any P n r ops ((D,fun w=>w.heap[b]? = some (.cells c.toArray E fz))::ivs) T f (L.setIfInBounds i true) (put σ d v) w) (hi:ops[i]? = some ⟨d,.load t x,u,p,af,g⟩:=by rfl) (hg:Q8 ops σ ⟨d,.load t x,u,p,af,g⟩ true:=by first|exact Q8.none rfl|exact Q8.of rfl rfl rfl) (hx:ev σ x = .pointer (some ⟨b,i₀,none⟩):=by rfl) (h1:T1 P t:=by infer_instance) (ha:At b (.cells c.toArray E fz) l:=by infer_instance) (hv:c[i₀]? = some v:=by rfl) (hs:ZW n ops (ivs.map (·.1)) L i D=true:=by kernel_rfl):Any P n r ops ivs T (f+1) L σ w:=Y2 i D H hi hg hx hv hs k
theorem Jn {op:Op} (i:Nat) (k:Any P n r ops ivs T f (L.setIfInBounds i true) (put σ d undef) w) (hi:ops[i]? = some ⟨d,op,u,p,af,g⟩:=by rfl) (hg:Q8 ops σ ⟨d,op,u,p,af,g⟩ false:=by first|exact Q8.of rfl rfl rfl|exact Q8.skip rfl rfl) (hf:∀ c,op ≠ .defer c:=by intro c e;cases e) (hs:ZW n ops (ivs.map (·.1)) L i []=true:=by kernel_rfl):Any P n r ops ivs T (f+1) L σ w:=nh i hi hg hf hs k
theorem Ji {e size bytes b o len cap:Nat} {q:IntKind} {i:Int} {ix:Operand} (j:Nat) (k:Any P n r ops ivs T f (L.setIfInBounds j true) (put σ d (.pointer (some ⟨b,o+i.toNat*size,none⟩))) w) (hj:ops[j]? = some ⟨d,.indexAddr t x ix,u,p,af,g⟩:=by rfl) (hg:Q8 ops σ ⟨d,.indexAddr t x ix,u,p,af,g⟩ true:=by first|exact Q8.none rfl|exact Q8.of rfl rfl rfl) [hT:Vx P t e size bytes] (hx:ev σ x = .slice (some ⟨b,o,none⟩) len cap:=by rfl) (hi:ev σ ix = .int q i:=by rfl) (h0:0≤i:=by omega) (h1:i < len:=by omega) (hs:ZW n ops (ivs.map (·.1)) L j []=true:=by kernel_rfl):Any P n r ops ivs T (f+1) L σ w:=C1 j hj hg hx hi h0 h1 hs k
theorem Jd {e size bytes b o len cap:Nat} {q:IntKind} {i:Int} {ix:Operand} (k:Lp P n r ops Q rest ms (put σ d (.pointer (some ⟨b,o+i.toNat*size,none⟩))) w) [hT:Vx P t e size bytes] (hx:ev σ x = .slice (some ⟨b,o,none⟩) len cap:=by rfl) (hi:ev σ ix = .int q i:=by rfl) (h0:0≤i:=by omega) (h1:i < len:=by omega) (hd:Qs n d=true:=by rfl):Lp P n r ops Q (⟨d,.indexAddr t x ix,u,p,af,none⟩::rest) ms σ w:=Q5 rfl (X4 hx hi h0 h1 hd k)
theorem Jv {op:Op} {v:Value} (k:Lp P n r ops Q rest ms (put σ d v) w) (h:pv σ op=some v:=by rfl) (hd:Qs n d=true:=by rfl):Lp P n r ops Q (⟨d,op,u,p,af,none⟩::rest) ms σ w:=Kn h hd k
theorem Jx (H:Q0 w l) (k:T σ w) (hr:Region.ready .any ops L=[]:=by kernel_rfl) (hI:Q0 w l→YA ivs L w:=by intro H;repeat first|exact YA.nil|refine YA.cons (.inr (Q0.at H)) ?_|refine YA.cons (.inr (Q0.mp H)) ?_|refine YA.cons (.inl (by kernel_rfl)) ?_):Any P n r ops ivs T f L σ w:=Pb hr (hI H) k
theorem Jw {o o':Oper} (i j:Nat) (H:Q0 w l) (hi:ops[i]? = some o) (hj:ops[j]? = some o') (k:St P n r o σ w (Any P n r ops ivs T f (L.setIfInBounds i true))) (k':St P n r o' σ w (Any P n r ops ivs T f (L.setIfInBounds j true))) (hr:Region.ready .any ops L=[i,j]:=by kernel_rfl) (hI:Q0 w l→YA ivs L w:=by intro H;repeat first|exact YA.nil|refine YA.cons (.inr (Q0.at H)) ?_|refine YA.cons (.inr (Q0.mp H)) ?_|refine YA.cons (.inl (by kernel_rfl)) ?_) (hg:Q8 ops σ o true:=by first|exact Q8.none rfl|exact Q8.of rfl rfl rfl) (Wx:Q8 ops σ o' true:=by first|exact Q8.none rfl|exact Q8.of rfl rfl rfl):Any P n r ops ivs T (f+1) L σ w:=oC i j hi hj hr (hI H) hg Wx k k'
theorem Jk {f:FuncId} {K:QB→World→Prop} {xs:List Operand} {ts:Array TypeId} {R:Value→World→Prop} (hx:ev σ x = .func (.func f) #[] #[]) [hb:QZ P f] (hd:Qs n d=true) (s:Calls P f (xs.map (ev σ)).toArray w (ret R)) (k:∀ v w',R v w'→K (put σ d v) w') :
  St P n r ⟨d,.call { callee := .value x,args:=xs.toArray,argTypes:=ts },u,p,af,g⟩ σ w K:=V3 (a:=[]) (b:=[]) hx hd (by rw[nil_append,append_nil];exact call s k)
theorem Jc {f:FuncId} {xs:List Operand} {ts:Array TypeId} {R:Value→World→Prop} (hx:ev σ x = .func (.func f) #[] #[]) [hb:QZ P f] (hd:Qs n d=true) (s:Calls P f (xs.map (ev σ)).toArray w (ret R)) (k:∀ v w',R v w'→Lp P n r ops Q rest ms (put σ d v) w') :
  Lp P n r ops Q (⟨d,.call { callee := .value x,args:=xs.toArray,argTypes:=ts },u,p,af,none⟩::rest) ms σ w:=Q5 rfl (Jk hx hd s k)
theorem Js {l':List Q2} (is:List Nat) (m:Nat) (H:Q0 w l) (h:Q0 w (sel is m l)→Q0 w l':=by intro H;dsimp only[SL.sel,SL.pull,List.drop] at H;exact H):Q0 w l':=h (H.sel is m)
theorem Jy {fn:Func} {R:Value→World→Prop} {e:Exit} {vs:List Value} (H:Q0 w l) (h:W2 σ fn.results.toList=some vs) (hr:∀ w',Q0 w' l→R (Aj vs) w') (he:e = .normal∨e = .ret:=by first|exact .inr rfl|exact .inl rfl):Bw P n fn R e [] σ w:=Z2 _ he H h hr
theorem Jz {fn:Func} {R:Value→World→Prop} {e:Exit} {vs:List Value} (H:Q0 w l) (h:∀ w',Q0 w' l→XJ P σ w' fn.results.toList vs) (hr:∀ w',Q0 w' l→R (Aj vs) w') (he:e = .normal∨e = .ret:=by first|exact .inr rfl|exact .inl rfl):Bw P n fn R e [] σ w:=I7 _ he H h hr
theorem J0 (H:Q0 w l) (k:K) (h:Q0 w l→K→G:=by
 intro H k;refine Jv ?_;refine QX ?_;exact k):G:=h H k
theorem J1 (H:Q0 w l) (k:K) (h:Q0 w l→K→G:=by
 intro H k
 repeat refine Q7 ?_
 refine Wu H mixed ?_;exact k):G:=h H k
theorem J2 (H:Q0 w l) (k:K) (h:Q0 w l→K→G:=by
 intro H k;refine QX ?_;exact k):G:=h H k
theorem J3 (H:Q0 w l) (k:K) (h:Q0 w l→K→G:=by
 intro H k
 repeat refine Q7 ?_
 refine QG ?_;refine Jv ?_;refine Jv ?_;refine QX ?_;exact k):G:=h H k
theorem J4 (H:Q0 w l) (k:K) (h:Q0 w l→K→G:=by
 intro H k;refine Jv ?_;refine Jv ?_;refine QX ?_;exact k):G:=h H k
theorem J5 (H:Q0 w l) (k:K) (h:Q0 w l→K→G:=by
 intro H k;refine Q5 rfl (U8 H rfl rfl inferInstance rfl rfl (Nat.le_of_ble_eq_true rfl) rfl ?_);exact k):G:=h H k
theorem J6 (H:Q0 w l) (k:K) (h:Q0 w l→K→G:=by
 intro H k
 repeat refine Q7 ?_
 exact k):G:=h H k
theorem J7 (H:Q0 w l) (k:K) (h:Q0 w l→K→G:=by
 intro H k
 repeat refine Q7 ?_
 refine QG ?_;refine Jv ?_;refine QX ?_
 repeat refine Q7 ?_
 exact k):G:=h H k
theorem J8 (H:Q0 w l) (k:K) (h:Q0 w l→K→G:=by
 intro H k
 repeat refine Q7 ?_
 refine QG ?_;refine Q5 rfl (En H rfl rfl ?_);exact k):G:=h H k
theorem J9 (H:Q0 w l) (k:K) (h:Q0 w l→K→G:=by
 intro H k
 repeat refine Q7 ?_
 refine QG ?_;refine Jv ?_;refine Jv ?_;exact k):G:=h H k
theorem VO (H:Q0 w l) (k:K) (h:Q0 w l→K→G:=by
 intro H k;refine Q5 rfl (YW H rfl ?_);exact k):G:=h H k
theorem Vb (H:Q0 w l) (k:K) (h:Q0 w l→K→G:=by
 intro H k
 repeat refine Q7 ?_
 refine QG ?_;refine Jv ?_;refine Jv ?_;refine Q5 rfl (VJ rfl rfl ?_);refine Q5 rfl (QC H rfl rfl rfl ?_);refine Jv ?_;exact k):G:=h H k
theorem Vg (H:Q0 w l) (k:K) (h:Q0 w l→K→G:=by
 intro H k
 repeat refine Q7 ?_
 refine QG ?_;refine Jv ?_;refine QX ?_;exact k):G:=h H k
theorem Vj (H:Q0 w l) (k:K) (h:Q0 w l→K→G:=by
 intro H k
 repeat refine Q7 ?_
 refine QG ?_;refine Jv ?_;refine Jv ?_;refine Jv ?_;refine QX ?_;exact k):G:=h H k
theorem Vk (H:Q0 w l) (k:K) (h:Q0 w l→K→G:=by
 intro H k
 repeat refine Q7 ?_
 refine Vw rfl (QE ?_);exact k):G:=h H k
theorem Vt (H:Q0 w l) (k:K) (h:Q0 w l→K→G:=by
 intro H k
 repeat refine Q7 ?_
 refine YU rfl ?_;exact k):G:=h H k
theorem YC (H:Q0 w l) (k:K) (h:Q0 w l→K→G:=by
 intro H k;refine Jv ?_;refine Jv ?_;refine Jv ?_;refine Q5 rfl (YW H rfl ?_);exact k):G:=h H k
theorem YI (H:Q0 w l) (k:K) (h:Q0 w l→K→G:=by
 intro H k;refine Ja 0 ?_;refine Ja 1 ?_;refine Jf 2 ?_;exact k):G:=h H k
theorem YJ (H:Q0 w l) (k:K) (h:Q0 w l→K→G:=by
 intro H k
 repeat refine Q7 ?_
 refine QG ?_;refine Jv ?_;refine Jv ?_;refine Jv ?_;exact k):G:=h H k
theorem YN (H:Q0 w l) (k:K) (h:Q0 w l→K→G:=by
 intro H k
 repeat refine Q7 ?_
 refine QG ?_;refine Q5 rfl (YW H rfl ?_);exact k):G:=h H k
theorem YT (H:Q0 w l) (k:K) (h:Q0 w l→K→G:=by
 intro H k;refine Jv ?_;refine QX ?_
 repeat refine Q7 ?_
 refine Vw rfl (QE ?_);exact k):G:=h H k
theorem Yn (H:Q0 w l) (k:K) (h:Q0 w l→K→G:=by
 intro H k;refine Jv ?_;refine QX ?_
 repeat refine Q7 ?_
 exact k):G:=h H k
theorem Z6 (H:Q0 w l) (k:K) (h:Q0 w l→K→G:=by
 intro H k
 repeat refine Q7 ?_
 refine QG ?_;refine Jv ?_;exact k):G:=h H k
theorem Z8 (H:Q0 w l) (k:K) (h:Q0 w l→K→G:=by
 intro H k
 repeat refine Q7 ?_
 refine Qd ?_
 repeat refine Q7 ?_
 refine QG ?_;exact k):G:=h H k
theorem ZZ (H:Q0 w l) (k:K) (h:Q0 w l→K→G:=by
 intro H k;refine Jv ?_;refine QX ?_
 repeat refine Q7 ?_
 refine QG ?_;refine Jv ?_;refine Jv ?_;refine QX ?_;exact k):G:=h H k
theorem ZB (H:Q0 w l) (k:K) (h:Q0 w l→K→G:=by
 intro H k
 repeat refine Q7 ?_
 refine YU rfl ?_
 repeat refine Q7 ?_
 refine QG ?_;refine Jv ?_;refine QX ?_;exact k):G:=h H k
theorem ZT (H:Q0 w l) (k:K) (h:Q0 w l→K→G:=by
 intro H k;refine Jv ?_;refine Jv ?_;exact k):G:=h H k
theorem Za (H:Q0 w l) (k:K) (h:Q0 w l→K→G:=by
 intro H k;refine Jv ?_;refine QX ?_
 repeat refine Q7 ?_
 refine QG ?_;refine Jv ?_;refine Jv ?_;refine QX ?_
 repeat refine Q7 ?_
 refine Vw rfl (QE ?_);exact k):G:=h H k
theorem Zq (H:Q0 w l) (k:K) (h:Q0 w l→K→G:=by
 intro H k;refine VW rfl rfl rfl rfl ?_;exact k):G:=h H k
theorem G6 (H:Q0 w l) (k:K) (h:Q0 w l→K→G:=by
 intro H k
 repeat refine Q7 ?_
 refine QG ?_;refine Jv ?_;refine Jv ?_;refine Q5 rfl (VJ rfl rfl ?_);refine Q5 rfl (QC H rfl rfl rfl ?_);exact k):G:=h H k
theorem G7 (H:Q0 w l) (k:K) (h:Q0 w l→K→G:=by
 intro H k
 repeat refine Q7 ?_
 refine YU rfl ?_
 repeat refine Q7 ?_
 refine QG ?_;refine Jv ?_;refine Jv ?_;refine QX ?_;exact k):G:=h H k
theorem GW (H:Q0 w l) (k:K) (h:Q0 w l→K→G:=by
 intro H k
 repeat refine Q7 ?_
 refine QG ?_;refine Q5 rfl (eJ H rfl rfl rfl ?_);exact k):G:=h H k
theorem Gq (H:Q0 w l) (k:K) (h:Q0 w l→K→G:=by
 intro H k;refine VW rfl rfl rfl rfl ?_;refine VW rfl rfl rfl rfl ?_;exact k):G:=h H k
theorem Gs (H:Q0 w l) (k:K) (h:Q0 w l→K→G:=by
 intro H k;refine Q5 rfl (VJ rfl rfl ?_);refine Q5 rfl (QC H rfl rfl rfl ?_);exact k):G:=h H k
theorem Gt (H:Q0 w l) (k:K) (h:Q0 w l→K→G:=by
 intro H k;refine Jv ?_;refine Jv ?_;refine Jv ?_;refine Jv ?_;refine Jv ?_;refine QX ?_;exact k):G:=h H k
theorem UH (H:Q0 w l) (k:K) (h:Q0 w l→K→G:=by
 intro H k
 repeat refine Q7 ?_
 refine Vw rfl ?_
 repeat refine Q7 ?_
 refine QG ?_;refine Jv ?_;refine Jv ?_;refine QX ?_;exact k):G:=h H k
theorem UI (H:Q0 w l) (k:K) (h:Q0 w l→K→G:=by
 intro H k;refine Jv ?_;refine Jv ?_;refine Jv ?_;refine Jv ?_;refine Jv ?_;refine QX ?_
 repeat refine Q7 ?_
 refine QG ?_;refine Jv ?_;refine Jv ?_;refine QX ?_
 repeat refine Q7 ?_
 refine Vw rfl (QE ?_);exact k):G:=h H k
theorem UJ (H:Q0 w l) (k:K) (h:Q0 w l→K→G:=by
 intro H k
 repeat refine Q7 ?_
 refine QG ?_;refine Q5 rfl (QC H rfl rfl rfl ?_);exact k):G:=h H k
theorem Ug (H:Q0 w l) (k:K) (h:Q0 w l→K→G:=by
 intro H k;refine Qe rfl rfl rfl (VJ rfl rfl ?_);refine Qe rfl rfl rfl (QC H rfl rfl rfl ?_);refine VW rfl rfl rfl rfl ?_;exact k):G:=h H k
theorem Uh (H:Q0 w l) (k:K) (h:Q0 w l→K→G:=by
 intro H k
 repeat refine Q7 ?_
 refine Qd ?_;exact k):G:=h H k
theorem Ui (H:Q0 w l) (k:K) (h:Q0 w l→K→G:=by
 intro H k
 repeat refine Q7 ?_
 refine QG ?_;exact k):G:=h H k
theorem Uj (H:Q0 w l) (k:K) (h:Q0 w l→K→G:=by
 intro H k;refine Ja 11 ?_;refine Jx H ?_;exact k):G:=h H k
theorem X6 (H:Q0 w l) (k:K) (h:Q0 w l→K→G:=by
 intro H k
 repeat refine Q7 ?_
 refine QG ?_;refine Jv ?_;refine Jv ?_;refine Q5 rfl (VJ rfl rfl ?_);refine Q5 rfl (QC H rfl rfl rfl ?_);refine Jv ?_;refine Jv ?_;exact k):G:=h H k
theorem X7 (H:Q0 w l) (k:K) (h:Q0 w l→K→G:=by
 intro H k;refine Q5 rfl (C3 H rfl rfl rfl ?_);exact k):G:=h H k
theorem XL (H:Q0 w l) (k:K) (h:Q0 w l→K→G:=by
 intro H k
 repeat refine Q7 ?_
 refine QG ?_;refine Q5 rfl (Vy H rfl (by repeat first|exact .nil _|apply QY.cons rfl) rfl ?_);exact k):G:=h H k
theorem XM (H:Q0 w l) (k:K) (h:Q0 w l→K→G:=by
 intro H k;refine G1 H rfl rfl inferInstance rfl (Nat.le_of_ble_eq_true rfl) rfl ?_;exact k):G:=h H k
theorem XN (H:Q0 w l) (k:K) (h:Q0 w l→K→G:=by
 intro H k
 repeat refine Q7 ?_
 refine QG ?_;refine Jv ?_;refine Q5 rfl (Gm rfl rfl ?_);refine Jv ?_;refine QX ?_;exact k):G:=h H k
theorem XO (H:Q0 w l) (k:K) (h:Q0 w l→K→G:=by
 intro H k;refine Jv ?_;refine Q5 rfl (VJ rfl rfl ?_);refine Q5 rfl (G1 H rfl rfl inferInstance rfl (Nat.le_of_ble_eq_true rfl) rfl ?_);exact k):G:=h H k
theorem XP (H:Q0 w l) (k:K) (h:Q0 w l→K→G:=by
 intro H k
 repeat refine Q7 ?_
 refine QG ?_;refine Q5 rfl (QC H rfl rfl rfl ?_);refine Jv ?_;exact k):G:=h H k
theorem Xy (H:Q0 w l) (k:K) (h:Q0 w l→K→G:=by
 intro H k
 repeat refine Q7 ?_
 refine QG ?_;refine Jv ?_;refine Q5 rfl (Vy H rfl (by repeat first|exact .nil _|apply QY.cons rfl) rfl ?_);exact k):G:=h H k
theorem KJ (H:Q0 w l) (k:K) (h:Q0 w l→K→G:=by
 intro H k;refine Ja 7 ?_;refine Ja 8 ?_;refine Ja 9 ?_;refine Ja 10 ?_;refine Ja 11 ?_;refine Jx H ?_;exact k):G:=h H k
theorem KL (H:Q0 w l) (k:K) (h:Q0 w l→K→G:=by
 intro H k
 repeat refine Q7 ?_
 refine QG ?_;refine Jv ?_;refine Jv ?_;refine QX ?_
 repeat refine Q7 ?_
 refine Vw rfl (QE ?_);exact k):G:=h H k
theorem KM (H:Q0 w l) (k:K) (h:Q0 w l→K→G:=by
 intro H k;refine U8 H rfl rfl inferInstance rfl rfl (Nat.le_of_ble_eq_true rfl) rfl ?_;exact k):G:=h H k
theorem KN (H:Q0 w l) (k:K) (h:Q0 w l→K→G:=by
 intro H k;refine Ja 12 ?_;refine Jx H ?_;exact k):G:=h H k
theorem Kt (H:Q0 w l) (k:K) (h:Q0 w l→K→G:=by
 intro H k;refine Qe rfl rfl rfl (VJ rfl rfl ?_);refine Qe rfl rfl rfl (QC H rfl rfl rfl ?_);exact k):G:=h H k
theorem Ku (H:Q0 w l) (k:K) (h:Q0 w l→K→G:=by
 intro H k;refine Ja 4 ?_;refine Ja 5 ?_;exact k):G:=h H k
theorem Kv (H:Q0 w l) (k:K) (h:Q0 w l→K→G:=by
 intro H k;refine Jo 11 H ?_;refine U8 H rfl rfl inferInstance rfl rfl (Nat.le_of_ble_eq_true rfl) rfl ?_;exact k):G:=h H k
theorem Kw (H:Q0 w l) (k:K) (h:Q0 w l→K→G:=by
 intro H k;refine Jv ?_;refine QX ?_
 repeat refine Q7 ?_
 refine YU rfl ?_
 repeat refine Q7 ?_
 refine QG ?_;refine Jv ?_;refine QX ?_;exact k):G:=h H k
theorem Kx (H:Q0 w l) (k:K) (h:Q0 w l→K→G:=by
 intro H k;refine W6 rfl rfl ?_;refine QX ?_;exact k):G:=h H k
theorem Ky (H:Q0 w l) (k:K) (h:Q0 w l→K→G:=by
 intro H k
 repeat refine Q7 ?_
 refine QG ?_;refine Q5 rfl (QC H rfl rfl rfl ?_);refine Jv ?_;refine Q5 rfl (VJ rfl rfl ?_);refine Q5 rfl (QC H rfl rfl rfl ?_);refine Jv ?_;exact k):G:=h H k
theorem KO (H:Q0 w l) (k:K) (h:Q0 w l→K→G:=by
 intro H k;refine Jv ?_;refine VW rfl rfl rfl rfl ?_;refine VW rfl rfl rfl rfl ?_;exact k):G:=h H k
theorem Rh (H:Q0 w l) (k:K) (h:Q0 w l→K→G:=by
 intro H k;refine Q5 rfl (VJ rfl rfl ?_);refine Q5 rfl (G1 H rfl rfl inferInstance rfl (Nat.le_of_ble_eq_true rfl) rfl ?_);exact k):G:=h H k
theorem Ri (H:Q0 w l) (k:K) (h:Q0 w l→K→G:=by
 intro H k;refine QX ?_
 repeat refine Q7 ?_
 refine QG ?_;refine Jv ?_;refine Jv ?_;refine QX ?_;exact k):G:=h H k
theorem Rj (H:Q0 w l) (k:K) (h:Q0 w l→K→G:=by
 intro H k;refine Q5 rfl (En H rfl rfl ?_);exact k):G:=h H k
theorem Rk (H:Q0 w l) (k:K) (h:Q0 w l→K→G:=by
 intro H k;refine Jv ?_;refine Jv ?_;refine Jv ?_;refine Jv ?_;refine Jv ?_;refine QX ?_
 repeat refine Q7 ?_
 refine QG ?_;refine Jv ?_;refine Jv ?_;refine QX ?_;exact k):G:=h H k
theorem Rl (H:Q0 w l) (k:K) (h:Q0 w l→K→G:=by
 intro H k;refine Ja 13 ?_;refine Ja 14 ?_;refine Jx H ?_;exact k):G:=h H k
theorem Rm (H:Q0 w l) (k:K) (h:Q0 w l→K→G:=by
 intro H k;refine Jv ?_;refine QX ?_
 repeat refine Q7 ?_
 refine YU rfl ?_;exact k):G:=h H k
theorem Rn (H:Q0 w l) (k:K) (h:Q0 w l→K→G:=by
 intro H k
 repeat refine Q7 ?_
 refine QG ?_;refine Jv ?_;refine QX ?_
 repeat refine Q7 ?_
 refine QG ?_;refine Jv ?_;refine Jv ?_;exact k):G:=h H k
theorem Ro (H:Q0 w l) (k:K) (h:Q0 w l→K→G:=by
 intro H k;refine Jo 12 H ?_;refine U8 H rfl rfl inferInstance rfl rfl (Nat.le_of_ble_eq_true rfl) rfl ?_;exact k):G:=h H k
theorem WQ (H:Q0 w l) (k:K) (h:Q0 w l→K→G:=by
 intro H k;refine VW rfl rfl rfl rfl ?_;refine Jv ?_;refine QX ?_
 repeat refine Q7 ?_
 refine Vw rfl (QE ?_);exact k):G:=h H k
theorem WV (H:Q0 w l) (k:K) (h:Q0 w l→K→G:=by
 intro H k;refine Q5 rfl (Ko rfl rfl ?_);exact k):G:=h H k
theorem WY (H:Q0 w l) (k:K) (h:Q0 w l→K→G:=by
 intro H k;refine Q5 rfl (QC H rfl rfl rfl ?_);exact k):G:=h H k
theorem WZ (H:Q0 w l) (k:K) (h:Q0 w l→K→G:=by
 intro H k;refine VW rfl rfl rfl rfl ?_;refine VW rfl rfl rfl rfl ?_;refine VW rfl rfl rfl rfl ?_;exact k):G:=h H k
theorem WG (H:Q0 w l) (k:K) (h:Q0 w l→K→G:=by
 intro H k;refine Q5 rfl (Ko rfl rfl ?_);refine Q5 rfl (En H rfl rfl ?_);exact k):G:=h H k
theorem WU (H:Q0 w l) (k:K) (h:Q0 w l→K→G:=by
 intro H k;refine Q5 rfl (Gm rfl rfl ?_);refine Jv ?_;refine QX ?_;exact k):G:=h H k
theorem WX (H:Q0 w l) (k:K) (h:Q0 w l→K→G:=by
 intro H k;refine Ja 0 ?_;refine Ja 1 ?_;refine Jf 2 ?_;refine Jl 3 [] H ?_;exact k):G:=h H k
theorem WK (H:Q0 w l) (k:K) (h:Q0 w l→K→G:=by
 intro H k;refine Jv ?_;refine Jv ?_;refine Qz rfl rfl rfl ?_;refine Qz rfl rfl rfl ?_;refine Qz rfl rfl rfl ?_;refine Qz rfl rfl rfl ?_;exact k):G:=h H k
theorem WR (H:Q0 w l) (k:K) (h:Q0 w l→K→G:=by
 intro H k
 repeat refine Q7 ?_
 refine QG ?_;refine Jv ?_;refine Jv ?_;refine QX ?_
 repeat refine Q7 ?_
 refine QG ?_;refine Jv ?_;refine Jv ?_;exact k):G:=h H k
theorem WW (H:Q0 w l) (k:K) (h:Q0 w l→K→G:=by
 intro H k;refine Ja 1 ?_;refine Jf 2 ?_;exact k):G:=h H k
theorem Wy (H:Q0 w l) (k:K) (h:Q0 w l→K→G:=by
 intro H k
 repeat refine Q7 ?_
 refine QG ?_;refine Q5 rfl (VJ rfl rfl ?_);refine Q5 rfl (QC H rfl rfl rfl ?_);refine Jv ?_;exact k):G:=h H k
theorem Wz (H:Q0 w l) (k:K) (h:Q0 w l→K→G:=by
 intro H k;refine Jv ?_;refine Jv ?_;refine VW rfl rfl rfl rfl ?_;exact k):G:=h H k
theorem A0 (H:Q0 w l) (k:K) (h:Q0 w l→K→G:=by
 intro H k;refine VW rfl rfl rfl rfl ?_;refine Jv ?_;refine Jv ?_;refine QX ?_;exact k):G:=h H k
theorem A1 (H:Q0 w l) (k:K) (h:Q0 w l→K→G:=by
 intro H k
 repeat refine Q7 ?_
 refine QG ?_;refine Jv ?_;refine QX ?_
 repeat refine Q7 ?_
 refine QG ?_;refine Jv ?_;refine Q5 rfl (KF rfl rfl (.inl rfl) rfl ?_);refine QX ?_
 repeat refine Q7 ?_
 refine Vw rfl (QE ?_)
 repeat refine Q7 ?_
 refine QG ?_;refine Jv ?_;refine Jv ?_;refine Q5 rfl (VJ rfl rfl ?_);refine Q5 rfl (QC H rfl rfl rfl ?_);exact k):G:=h H k
theorem A2 (H:Q0 w l) (k:K) (h:Q0 w l→K→G:=by
 intro H k
 repeat refine Q7 ?_
 refine QG ?_;refine Jv ?_;refine Jv ?_;refine Jv ?_;refine Jv ?_;exact k):G:=h H k
theorem A3 (H:Q0 w l) (k:K) (h:Q0 w l→K→G:=by
 intro H k;refine YU rfl (QE ?_);exact k):G:=h H k
theorem A4 (H:Q0 w l) (k:K) (h:Q0 w l→K→G:=by
 intro H k
 repeat refine Q7 ?_
 refine Qd ?_
 repeat refine Q7 ?_
 refine QG ?_;refine Jv ?_;refine Jv ?_;exact k):G:=h H k
theorem A5 (H:Q0 w l) (k:K) (h:Q0 w l→K→G:=by
 intro H k;refine Ja 8 ?_;refine Jx H ?_;exact k):G:=h H k
theorem A6 (H:Q0 w l) (k:K) (h:Q0 w l→K→G:=by
 intro H k
 repeat refine Q7 ?_
 refine QG ?_;refine Jv ?_;refine Jv ?_;refine Jv ?_;refine Q5 rfl (VJ rfl rfl ?_);refine Q5 rfl (QC H rfl rfl rfl ?_);refine Q5 rfl (Gm rfl rfl ?_);refine Jv ?_;refine QX ?_
 repeat refine Q7 ?_
 exact k):G:=h H k
theorem A7 (H:Q0 w l) (k:K) (h:Q0 w l→K→G:=by
 intro H k;refine Jo 10 H ?_;refine U8 H rfl rfl inferInstance rfl rfl (Nat.le_of_ble_eq_true rfl) rfl ?_;exact k):G:=h H k
theorem A8 (H:Q0 w l) (k:K) (h:Q0 w l→K→G:=by
 intro H k;refine Ja 0 ?_;refine Ja 1 ?_;refine Jf 2 ?_;refine Jl 3 [6] H ?_;refine Jf 4 ?_;refine Jl 5 [6] H ?_;refine Jo 6 H ?_;exact k):G:=h H k
theorem Av (H:Q0 w l) (k:K) (h:Q0 w l→K→G:=by
 intro H k;refine Jv ?_;refine Jv ?_;refine QX ?_
 repeat refine Q7 ?_
 exact k):G:=h H k
theorem Aw (H:Q0 w l) (k:K) (h:Q0 w l→K→G:=by
 intro H k;refine Jv ?_;refine Jv ?_;refine QX ?_
 repeat refine Q7 ?_
 refine Vw rfl ?_;exact k):G:=h H k
theorem Ax (H:Q0 w l) (k:K) (h:Q0 w l→K→G:=by
 intro H k;refine Jx H ?_
 repeat refine Q7 ?_
 refine Vw rfl (QE ?_);exact k):G:=h H k
theorem Ay (H:Q0 w l) (k:K) (h:Q0 w l→K→G:=by
 intro H k
 repeat refine Q7 ?_
 refine QG ?_;refine Q5 rfl (Vy H rfl (by repeat first|exact .nil _|apply QY.cons rfl) rfl ?_);refine Q5 rfl (U8 H rfl rfl inferInstance rfl rfl (Nat.le_of_ble_eq_true rfl) rfl ?_);exact k):G:=h H k
theorem Az (H:Q0 w l) (k:K) (h:Q0 w l→K→G:=by
 intro H k
 repeat refine Q7 ?_
 refine QG ?_;refine Jv ?_;refine Jv ?_;refine Jv ?_;refine Jv ?_;refine Jv ?_;refine QX ?_;exact k):G:=h H k
theorem B0 (H:Q0 w l) (k:K) (h:Q0 w l→K→G:=by
 intro H k;refine Vw rfl (Qu ?_);exact k):G:=h H k
theorem B1 (H:Q0 w l) (k:K) (h:Q0 w l→K→G:=by
 intro H k;refine Qz rfl rfl rfl ?_;refine Qz rfl rfl rfl ?_;refine Qz rfl rfl rfl ?_;exact k):G:=h H k
theorem B2 (H:Q0 w l) (k:K) (h:Q0 w l→K→G:=by
 intro H k;refine Jv ?_;refine QX ?_
 repeat refine Q7 ?_
 refine YU rfl ?_
 repeat refine Q7 ?_
 refine QG ?_;refine Q5 rfl (Ko rfl rfl ?_);refine Q5 rfl (U8 H rfl rfl inferInstance rfl rfl (Nat.le_of_ble_eq_true rfl) rfl ?_);exact k):G:=h H k
theorem B3 (H:Q0 w l) (k:K) (h:Q0 w l→K→G:=by
 intro H k;refine Jv ?_;refine VW rfl rfl rfl rfl ?_;refine VW rfl rfl rfl rfl ?_;refine VW rfl rfl rfl rfl ?_;refine Qe rfl rfl rfl (VJ rfl rfl ?_);refine Qe rfl rfl rfl (QC H rfl rfl rfl ?_);refine Qe rfl rfl rfl (Gm rfl rfl ?_);refine VW rfl rfl rfl rfl ?_;exact k):G:=h H k
theorem B4 (H:Q0 w l) (k:K) (h:Q0 w l→K→G:=by
 intro H k
 repeat refine Q7 ?_
 refine QG ?_;refine Jv ?_;refine Jv ?_;refine Q5 rfl (Gm rfl rfl ?_);refine Jv ?_;refine QX ?_
 repeat refine Q7 ?_
 exact k):G:=h H k
theorem B5 (H:Q0 w l) (k:K) (h:Q0 w l→K→G:=by
 intro H k;refine Jv ?_;refine QX ?_
 repeat refine Q7 ?_
 refine QG ?_;refine Jv ?_;refine Q5 rfl (Vy H rfl (by repeat first|exact .nil _|apply QY.cons rfl) rfl ?_);exact k):G:=h H k
theorem B6 (H:Q0 w l) (k:K) (h:Q0 w l→K→G:=by
 intro H k
 repeat refine Q7 ?_
 refine QG ?_;refine Q5 rfl (Vy H rfl (by repeat first|exact .nil _|apply QY.cons rfl) rfl ?_);refine Jv ?_;refine Q5 rfl (U8 H rfl rfl inferInstance rfl rfl (Nat.le_of_ble_eq_true rfl) rfl ?_);exact k):G:=h H k
theorem B7 (H:Q0 w l) (k:K) (h:Q0 w l→K→G:=by
 intro H k;refine Q5 rfl (Gm rfl rfl ?_);refine Jv ?_;refine QX ?_
 repeat refine Q7 ?_
 refine Qd ?_;exact k):G:=h H k
theorem B8 (H:Q0 w l) (k:K) (h:Q0 w l→K→G:=by
 intro H k;refine Ja 0 ?_;refine Ja 1 ?_;refine Jf 2 ?_;refine Jl 3 [5,10] H ?_;refine Vz 4 [5,10] H rfl (Q8.none rfl) rfl (by repeat first|exact .nil _|apply QY.cons rfl) (by kernel_rfl) ?_;exact k):G:=h H k
theorem B9 (H:Q0 w l) (k:K) (h:Q0 w l→K→G:=by
 intro H k;refine Ja 6 ?_;refine Ja 7 ?_;refine Ja 8 ?_;refine Jo 9 H ?_;refine YW H rfl ?_;exact k):G:=h H k
theorem BQ (H:Q0 w l) (k:K) (h:Q0 w l→K→G:=by
 intro H k;refine Q5 rfl (eJ H rfl rfl rfl ?_);exact k):G:=h H k
theorem BV (H:Q0 w l) (k:K) (h:Q0 w l→K→G:=by
 intro H k;refine Jv ?_;refine QX ?_
 repeat refine Q7 ?_
 refine Vw rfl (QE ?_)
 repeat refine Q7 ?_
 refine QG ?_;refine Jv ?_;refine Jv ?_;refine QX ?_;exact k):G:=h H k
theorem BY (H:Q0 w l) (k:K) (h:Q0 w l→K→G:=by
 intro H k;refine Q5 rfl (G1 H rfl rfl inferInstance rfl (Nat.le_of_ble_eq_true rfl) rfl ?_);exact k):G:=h H k
theorem C8 (H:Q0 w l) (k:K) (h:Q0 w l→K→G:=by
 intro H k;refine Jf 0 ?_;refine Jl 1 [] H ?_;refine Ja 2 ?_;exact k):G:=h H k
theorem C9 (H:Q0 w l) (k:K) (h:Q0 w l→K→G:=by
 intro H k;refine Jf 4 ?_;refine Jl 5 [] H ?_;exact k):G:=h H k
theorem CQ (H:Q0 w l) (k:K) (h:Q0 w l→K→G:=by
 intro H k;refine Ja 9 ?_;refine Ja 10 ?_;exact k):G:=h H k
theorem CV (H:Q0 w l) (k:K) (h:Q0 w l→K→G:=by
 intro H k;refine QX ?_
 repeat refine Q7 ?_
 exact k):G:=h H k
theorem CY (H:Q0 w l) (k:K) (h:Q0 w l→K→G:=by
 intro H k
 repeat refine Q7 ?_
 refine QG ?_;refine Jv ?_;refine Jv ?_;refine Jv ?_;refine VW rfl rfl rfl rfl ?_;refine VW rfl rfl rfl rfl ?_;exact k):G:=h H k
theorem CZ (H:Q0 w l) (k:K) (h:Q0 w l→K→G:=by
 intro H k;refine Qd ?_
 repeat refine Q7 ?_
 refine QG ?_;refine Jv ?_;refine Q5 rfl (KF rfl rfl (.inl rfl) rfl ?_);refine Jv ?_;refine QX ?_
 repeat refine Q7 ?_
 refine Vw rfl ?_;exact k):G:=h H k
theorem CG (H:Q0 w l) (k:K) (h:Q0 w l→K→G:=by
 intro H k;refine Wv rfl rfl ?_;refine Wv rfl rfl ?_;exact k):G:=h H k
theorem CU (H:Q0 w l) (k:K) (h:Q0 w l→K→G:=by
 intro H k
 repeat refine Q7 ?_
 refine QG ?_;refine Jv ?_;refine QX ?_
 repeat refine Q7 ?_
 refine QG ?_;refine Jv ?_;exact k):G:=h H k
theorem CX (H:Q0 w l) (k:K) (h:Q0 w l→K→G:=by
 intro H k;refine Ja 0 ?_;refine Ja 1 ?_;refine Ja 2 ?_;refine Jf 3 ?_;exact k):G:=h H k
theorem CK (H:Q0 w l) (k:K) (h:Q0 w l→K→G:=by
 intro H k;refine Q5 rfl (Vy H rfl (by repeat first|exact .nil _|apply QY.cons rfl) rfl ?_);exact k):G:=h H k
theorem CR (H:Q0 w l) (k:K) (h:Q0 w l→K→G:=by
 intro H k;refine Ja 7 ?_;refine Ja 8 ?_;refine Ja 9 ?_;refine Jo 10 H ?_;refine YW H rfl ?_;exact k):G:=h H k
theorem CW (H:Q0 w l) (k:K) (h:Q0 w l→K→G:=by
 intro H k;refine Jv ?_;refine Jv ?_;refine VW rfl rfl rfl rfl ?_;refine VW rfl rfl rfl rfl ?_;refine Qe rfl rfl rfl (VJ rfl rfl ?_);refine Qe rfl rfl rfl (QC H rfl rfl rfl ?_);refine VW rfl rfl rfl rfl ?_;exact k):G:=h H k
theorem CA (H:Q0 w l) (k:K) (h:Q0 w l→K→G:=by
 intro H k;refine Ja 13 ?_;refine Jx H ?_;exact k):G:=h H k
theorem CB (H:Q0 w l) (k:K) (h:Q0 w l→K→G:=by
 intro H k;refine QX ?_
 repeat refine Q7 ?_
 refine Vw rfl (QE ?_);exact k):G:=h H k
theorem CC (H:Q0 w l) (k:K) (h:Q0 w l→K→G:=by
 intro H k;refine Ja 6 ?_;refine Ja 7 ?_;refine Ja 8 ?_;refine Jo 10 H ?_;refine U8 H rfl rfl inferInstance rfl rfl (Nat.le_of_ble_eq_true rfl) rfl ?_;exact k):G:=h H k
theorem CD (H:Q0 w l) (k:K) (h:Q0 w l→K→G:=by
 intro H k;refine Ja 8 ?_;refine Ja 9 ?_;refine Ja 10 ?_;exact k):G:=h H k
theorem DA (H:Q0 w l) (k:K) (h:Q0 w l→K→G:=by
 intro H k;refine Qe rfl rfl rfl (Vy H rfl (by repeat first|exact .nil _|apply QY.cons rfl) rfl ?_);exact k):G:=h H k
theorem DB (H:Q0 w l) (k:K) (h:Q0 w l→K→G:=by
 intro H k;refine Ja 0 ?_;refine Ja 1 ?_;exact k):G:=h H k
theorem DC (H:Q0 w l) (k:K) (h:Q0 w l→K→G:=by
 intro H k;refine C3 H rfl rfl rfl ?_;exact k):G:=h H k
theorem DD (H:Q0 w l) (k:K) (h:Q0 w l→K→G:=by
 intro H k
 repeat refine Q7 ?_
 refine Qd ?_
 repeat refine Q7 ?_
 refine QG ?_;refine Jv ?_;exact k):G:=h H k
theorem DE (H:Q0 w l) (k:K) (h:Q0 w l→K→G:=by
 intro H k;refine Jv ?_;refine QX ?_
 repeat refine Q7 ?_
 refine QG ?_;refine Q5 rfl (VJ rfl rfl ?_);refine Q5 rfl (QC H rfl rfl rfl ?_);exact k):G:=h H k
theorem DF (H:Q0 w l) (k:K) (h:Q0 w l→K→G:=by
 intro H k
 repeat refine Q7 ?_
 refine QG ?_;refine Jv ?_;refine QX ?_
 repeat refine Q7 ?_
 refine QG ?_;refine Jv ?_;refine Jv ?_;refine Jv ?_;exact k):G:=h H k
theorem DH (H:Q0 w l) (k:K) (h:Q0 w l→K→G:=by
 intro H k;refine QX ?_
 repeat refine Q7 ?_
 refine QG ?_;refine Jv ?_;refine QX ?_;exact k):G:=h H k
theorem DI (H:Q0 w l) (k:K) (h:Q0 w l→K→G:=by
 intro H k
 repeat refine Q7 ?_
 refine Qd ?_
 repeat refine Q7 ?_
 refine QG ?_;refine Jv ?_;refine Jv ?_;refine Jv ?_;exact k):G:=h H k
theorem DJ (H:Q0 w l) (k:K) (h:Q0 w l→K→G:=by
 intro H k;refine QX ?_
 repeat refine Q7 ?_
 refine QG ?_;refine Jv ?_;refine Jv ?_;refine Jv ?_;refine QX ?_;exact k):G:=h H k
theorem DL (H:Q0 w l) (k:K) (h:Q0 w l→K→G:=by
 intro H k;refine Jv ?_;refine Jv ?_;refine Jv ?_;refine Jv ?_;refine Jv ?_;refine QX ?_
 repeat refine Q7 ?_
 exact k):G:=h H k
theorem DM (H:Q0 w l) (k:K) (h:Q0 w l→K→G:=by
 intro H k
 repeat refine Q7 ?_
 refine Qd ?_
 repeat refine Q7 ?_
 refine QG ?_;refine Jv ?_;refine Jv ?_;refine Q5 rfl (VJ rfl rfl ?_);refine Q5 rfl (QC H rfl rfl rfl ?_);refine Jv ?_;exact k):G:=h H k
theorem DN (H:Q0 w l) (k:K) (h:Q0 w l→K→G:=by
 intro H k;refine Jv ?_;refine Jv ?_;refine QX ?_
 repeat refine Q7 ?_
 refine Vw rfl (QE ?_);exact k):G:=h H k
theorem DO (H:Q0 w l) (k:K) (h:Q0 w l→K→G:=by
 intro H k;refine Q5 rfl (VJ rfl rfl ?_);refine Q5 rfl (QC H rfl rfl rfl ?_);refine Jv ?_;refine Jv ?_;exact k):G:=h H k
theorem DP (H:Q0 w l) (k:K) (h:Q0 w l→K→G:=by
 intro H k;refine Ja 6 ?_;refine Ja 7 ?_;refine Ja 8 ?_;exact k):G:=h H k
theorem DS (H:Q0 w l) (k:K) (h:Q0 w l→K→G:=by
 intro H k;refine Jv ?_;refine VW rfl rfl rfl rfl ?_;refine VW rfl rfl rfl rfl ?_;refine VW rfl rfl rfl rfl ?_;exact k):G:=h H k
theorem DT (H:Q0 w l) (k:K) (h:Q0 w l→K→G:=by
 intro H k;refine QX ?_
 repeat refine Q7 ?_
 refine QG ?_;refine Jv ?_;refine Jv ?_;exact k):G:=h H k
theorem Da (H:Q0 w l) (k:K) (h:Q0 w l→K→G:=by
 intro H k;refine Ja 7 ?_;refine Ja 8 ?_;refine Ja 9 ?_;refine Ja 10 ?_;exact k):G:=h H k
theorem Db (H:Q0 w l) (k:K) (h:Q0 w l→K→G:=by
 intro H k
 repeat refine Q7 ?_
 refine QG ?_;refine Jv ?_;refine Jv ?_;refine Jv ?_;refine Jv ?_;refine QX ?_;exact k):G:=h H k
theorem Dc (H:Q0 w l) (k:K) (h:Q0 w l→K→G:=by
 intro H k
 repeat refine Q7 ?_
 refine QG ?_;refine Jv ?_;refine QX ?_
 repeat refine Q7 ?_
 refine QG ?_;refine Jv ?_;refine Q5 rfl (KF rfl rfl (.inl rfl) rfl ?_);refine QX ?_
 repeat refine Q7 ?_
 refine Vw rfl (QE ?_)
 repeat refine Q7 ?_
 refine QG ?_;refine Jv ?_;refine Jv ?_;refine Q5 rfl (VJ rfl rfl ?_);refine Q5 rfl (QC H rfl rfl rfl ?_);refine Jv ?_;exact k):G:=h H k
theorem Dd (H:Q0 w l) (k:K) (h:Q0 w l→K→G:=by
 intro H k
 repeat refine Q7 ?_
 refine Qd ?_
 repeat refine Q7 ?_
 refine QG ?_;refine Jv ?_;refine Jv ?_;refine QX ?_;exact k):G:=h H k
theorem De (H:Q0 w l) (k:K) (h:Q0 w l→K→G:=by
 intro H k
 repeat refine Q7 ?_
 refine Vw rfl (QE ?_)
 repeat refine Q7 ?_
 refine QG ?_;refine Jv ?_;refine QX ?_;exact k):G:=h H k
theorem Df (H:Q0 w l) (k:K) (h:Q0 w l→K→G:=by
 intro H k;refine Ja 7 ?_;refine Ja 8 ?_;exact k):G:=h H k
theorem Dg (H:Q0 w l) (k:K) (h:Q0 w l→K→G:=by
 intro H k;refine Ja 12 ?_;refine Ja 13 ?_;exact k):G:=h H k
theorem Dh (H:Q0 w l) (k:K) (h:Q0 w l→K→G:=by
 intro H k;refine Q5 rfl (VJ rfl rfl ?_);exact k):G:=h H k
theorem Ex (H:Q0 w l) (k:K) (h:Q0 w l→K→G:=by
 intro H k;refine Jv ?_;refine Qe rfl rfl rfl (VJ rfl rfl ?_);refine Qe rfl rfl rfl (QC H rfl rfl rfl ?_);refine VW rfl rfl rfl rfl ?_;exact k):G:=h H k
theorem Ey (H:Q0 w l) (k:K) (h:Q0 w l→K→G:=by
 intro H k
 repeat refine Q7 ?_
 refine QG ?_;refine Jv ?_;refine QX ?_
 repeat refine Q7 ?_
 refine QG ?_;refine Jv ?_;refine Q5 rfl (Gm rfl rfl ?_);refine Jv ?_;refine QX ?_
 repeat refine Q7 ?_
 refine Qd ?_;exact k):G:=h H k
theorem Ez (H:Q0 w l) (k:K) (h:Q0 w l→K→G:=by
 intro H k;refine Jv ?_;refine VW rfl rfl rfl rfl ?_;exact k):G:=h H k
theorem F0 (H:Q0 w l) (k:K) (h:Q0 w l→K→G:=by
 intro H k;refine Jv ?_;refine Q5 rfl (U8 H rfl rfl inferInstance rfl rfl (Nat.le_of_ble_eq_true rfl) rfl ?_);exact k):G:=h H k
theorem F1 (H:Q0 w l) (k:K) (h:Q0 w l→K→G:=by
 intro H k;refine Jv ?_;refine Qe rfl rfl rfl (VJ rfl rfl ?_);refine Qe rfl rfl rfl (QC H rfl rfl rfl ?_);refine VW rfl rfl rfl rfl ?_;refine Jv ?_;exact k):G:=h H k
theorem F2 (H:Q0 w l) (k:K) (h:Q0 w l→K→G:=by
 intro H k;refine Jv ?_;refine QX ?_
 repeat refine Q7 ?_
 refine QG ?_;refine Jv ?_;exact k):G:=h H k
theorem F3 (H:Q0 w l) (k:K) (h:Q0 w l→K→G:=by
 intro H k;refine Qe rfl rfl rfl (VJ rfl rfl ?_);exact k):G:=h H k
theorem F4 (H:Q0 w l) (k:K) (h:Q0 w l→K→G:=by
 intro H k
 repeat refine Q7 ?_
 refine QG ?_;refine Jv ?_;refine QX ?_
 repeat refine Q7 ?_
 refine Qd ?_;exact k):G:=h H k
theorem F5 (H:Q0 w l) (k:K) (h:Q0 w l→K→G:=by
 intro H k
 repeat refine Q7 ?_
 refine QG ?_;refine Jv ?_;refine Q5 rfl (KF rfl rfl (.inl rfl) rfl ?_);exact k):G:=h H k
theorem F6 (H:Q0 w l) (k:K) (h:Q0 w l→K→G:=by
 intro H k;refine Q5 rfl (MP rfl rfl rfl ?_);exact k):G:=h H k
theorem F7 (H:Q0 w l) (k:K) (h:Q0 w l→K→G:=by
 intro H k
 repeat refine Q7 ?_
 refine QG ?_;refine Jv ?_;refine Jv ?_;refine Jv ?_;refine Q5 rfl (VJ rfl rfl ?_);refine Q5 rfl (QC H rfl rfl rfl ?_);exact k):G:=h H k
theorem F8 (H:Q0 w l) (k:K) (h:Q0 w l→K→G:=by
 intro H k
 repeat refine Q7 ?_
 refine Vw rfl (QE ?_)
 repeat refine Q7 ?_
 refine QG ?_;refine Jv ?_;exact k):G:=h H k
theorem F9 (H:Q0 w l) (k:K) (h:Q0 w l→K→G:=by
 intro H k;refine Ja 5 ?_;refine Ja 6 ?_;refine Jf 7 ?_;exact k):G:=h H k
theorem FQ (H:Q0 w l) (k:K) (h:Q0 w l→K→G:=by
 intro H k
 repeat refine Q7 ?_
 refine Vw rfl (QE ?_)
 repeat refine Q7 ?_
 refine QG ?_;refine Jv ?_;refine Jv ?_;refine QX ?_;exact k):G:=h H k
theorem FV (H:Q0 w l) (k:K) (h:Q0 w l→K→G:=by
 intro H k;refine Jv ?_;refine Jv ?_;refine Jv ?_;exact k):G:=h H k
theorem FY (H:Q0 w l) (k:K) (h:Q0 w l→K→G:=by
 intro H k
 first|refine Jv ?_|refine W6 rfl rfl ?_
 refine Jv ?_;refine Jv ?_;refine Jv ?_;refine Jv ?_;refine QX ?_
 repeat refine Q7 ?_
 refine QG ?_;refine Jv ?_;refine Jv ?_;refine QX ?_;exact k):G:=h H k
theorem FZ (H:Q0 w l) (k:K) (h:Q0 w l→K→G:=by
 intro H k
 repeat refine Q7 ?_
 refine QG ?_;refine Q5 rfl (VJ rfl rfl ?_);refine Q5 rfl (QC H rfl rfl rfl ?_);exact k):G:=h H k
theorem FG (H:Q0 w l) (k:K) (h:Q0 w l→K→G:=by
 intro H k
 repeat refine Q7 ?_
 refine Vw rfl (QE ?_)
 repeat refine Q7 ?_
 refine QG ?_;refine Jv ?_;refine Jv ?_;refine Jv ?_;refine QX ?_;exact k):G:=h H k
theorem FU (H:Q0 w l) (k:K) (h:Q0 w l→K→G:=by
 intro H k
 repeat refine Q7 ?_
 refine QG ?_;refine Q5 rfl (Vy H rfl (by repeat first|exact .nil _|apply QY.cons rfl) rfl ?_);refine Jv ?_;exact k):G:=h H k
theorem FX (H:Q0 w l) (k:K) (h:Q0 w l→K→G:=by
 intro H k
 repeat refine Q7 ?_
 refine QG ?_;refine Jv ?_;refine Jv ?_;refine Jv ?_;refine QX ?_
 repeat refine Q7 ?_
 refine Vw rfl ?_
 repeat refine Q7 ?_
 refine QG ?_;refine Jv ?_;refine Jv ?_;exact k):G:=h H k
theorem FK (H:Q0 w l) (k:K) (h:Q0 w l→K→G:=by
 intro H k
 repeat refine Q7 ?_
 refine Vw rfl (QE ?_)
 repeat refine Q7 ?_
 refine QG ?_;refine Jv ?_;refine Jv ?_;exact k):G:=h H k
theorem FR (H:Q0 w l) (k:K) (h:Q0 w l→K→G:=by
 intro H k;refine Jv ?_;refine QX ?_
 repeat refine Q7 ?_
 refine QG ?_;refine Jv ?_;refine Jv ?_;refine Jv ?_;refine QX ?_;exact k):G:=h H k
theorem FW (H:Q0 w l) (k:K) (h:Q0 w l→K→G:=by
 intro H k;refine Jv ?_;refine Jv ?_;refine Jv ?_;refine Jv ?_;refine QX ?_;exact k):G:=h H k
theorem FA (H:Q0 w l) (k:K) (h:Q0 w l→K→G:=by
 intro H k;refine Ja 0 ?_;refine Ja 1 ?_;refine Jf 2 ?_;refine Jl 3 [6] H ?_;exact k):G:=h H k
theorem FE (H:Q0 w l) (k:K) (h:Q0 w l→K→G:=by
 intro H k;refine Jv ?_;refine QX ?_
 repeat refine Q7 ?_
 refine QG ?_;refine Jv ?_;refine Q5 rfl (KF rfl rfl (.inl rfl) rfl ?_);refine QX ?_
 repeat refine Q7 ?_
 refine Vw rfl (QE ?_);exact k):G:=h H k
theorem FF (H:Q0 w l) (k:K) (h:Q0 w l→K→G:=by
 intro H k
 repeat refine Q7 ?_
 refine Vw rfl ?_;exact k):G:=h H k
theorem FH (H:Q0 w l) (k:K) (h:Q0 w l→K→G:=by
 intro H k;refine Jv ?_;refine Jv ?_;refine Jv ?_;refine Jv ?_;exact k):G:=h H k
theorem FI (H:Q0 w l) (k:K) (h:Q0 w l→K→G:=by
 intro H k
 repeat refine Q7 ?_
 refine QG ?_;refine Jv ?_;refine Jv ?_;refine Jv ?_;refine Q5 rfl (VJ rfl rfl ?_);refine Q5 rfl (QC H rfl rfl rfl ?_);refine Jv ?_;exact k):G:=h H k
theorem FJ (H:Q0 w l) (k:K) (h:Q0 w l→K→G:=by
 intro H k;refine Q5 rfl (Gm rfl rfl ?_);refine Jv ?_;refine QX ?_
 repeat refine Q7 ?_
 exact k):G:=h H k
theorem FM (H:Q0 w l) (k:K) (h:Q0 w l→K→G:=by
 intro H k
 repeat refine Q7 ?_
 refine QG ?_;refine Jv ?_;refine Jv ?_;refine QX ?_
 repeat refine Q7 ?_
 refine YU rfl ?_
 repeat refine Q7 ?_
 refine QG ?_;refine Jv ?_;refine QX ?_;exact k):G:=h H k
theorem FN (H:Q0 w l) (k:K) (h:Q0 w l→K→G:=by
 intro H k;refine Jv ?_;refine Q5 rfl (VJ rfl rfl ?_);refine Q5 rfl (QC H rfl rfl rfl ?_);refine Jv ?_;exact k):G:=h H k
theorem FO (H:Q0 w l) (k:K) (h:Q0 w l→K→G:=by
 intro H k;refine Uf 14 rfl (Q8.none rfl) rfl (by kernel_rfl) ?_;refine Jo 15 H ?_;refine En H rfl rfl ?_;exact k):G:=h H k
theorem FP (H:Q0 w l) (k:K) (h:Q0 w l→K→G:=by
 intro H k;refine Jo 16 H ?_;refine C3 H rfl rfl rfl ?_;exact k):G:=h H k
theorem FS (H:Q0 w l) (k:K) (h:Q0 w l→K→G:=by
 intro H k;refine Ja 18 ?_;refine Jf 19 ?_;refine Jo 20 H ?_;refine G1 H rfl rfl inferInstance rfl (Nat.le_of_ble_eq_true rfl) rfl ?_;exact k):G:=h H k
theorem FT (H:Q0 w l) (k:K) (h:Q0 w l→K→G:=by
 intro H k;refine Ja 6 ?_;refine Ja 7 ?_;refine Jf 8 ?_;exact k):G:=h H k
theorem Fa (H:Q0 w l) (k:K) (h:Q0 w l→K→G:=by
 intro H k;refine Jo 11 H ?_;refine YW H rfl ?_;exact k):G:=h H k
theorem Fb (H:Q0 w l) (k:K) (h:Q0 w l→K→G:=by
 intro H k
 repeat refine Q7 ?_
 refine QG ?_;refine Q5 rfl (VJ rfl rfl ?_);refine Q5 rfl (QC H rfl rfl rfl ?_);refine Jv ?_;refine QX ?_;exact k):G:=h H k
theorem Fc (H:Q0 w l) (k:K) (h:Q0 w l→K→G:=by
 intro H k;refine Jl 3 [6,11] H ?_;refine Jf 4 ?_;refine Vz 5 [6,11] H rfl (Q8.none rfl) rfl (by repeat first|exact .nil _|apply QY.cons rfl) (by kernel_rfl) ?_;exact k):G:=h H k
theorem Fe (H:Q0 w l) (k:K) (h:Q0 w l→K→G:=by
 intro H k;refine Jv ?_;refine QX ?_
 repeat refine Q7 ?_
 refine QG ?_;refine Jv ?_;refine Jv ?_;refine QX ?_
 repeat refine Q7 ?_
 refine YU rfl ?_
 repeat refine Q7 ?_
 refine QG ?_;refine Jv ?_;refine Jv ?_;refine Jv ?_;refine QX ?_;exact k):G:=h H k
theorem Ff (H:Q0 w l) (k:K) (h:Q0 w l→K→G:=by
 intro H k;refine Ja 11 ?_;refine Ja 12 ?_;refine Ja 13 ?_;exact k):G:=h H k
theorem Fg (H:Q0 w l) (k:K) (h:Q0 w l→K→G:=by
 intro H k
 repeat refine Q7 ?_
 refine QG ?_;refine Jv ?_;refine Jv ?_;refine Q5 rfl (VJ rfl rfl ?_);refine Q5 rfl (QC H rfl rfl rfl ?_);refine Jv ?_;refine Q5 rfl (VJ rfl rfl ?_);refine Q5 rfl (QC H rfl rfl rfl ?_);exact k):G:=h H k
theorem Fh (H:Q0 w l) (k:K) (h:Q0 w l→K→G:=by
 intro H k;refine Ja 8 ?_;refine Ja 9 ?_;refine Ja 10 ?_;refine Ja 11 ?_;refine Ja 12 ?_;refine Jx H ?_;exact k):G:=h H k
theorem IX (H:Q0 w l) (k:K) (h:Q0 w l→K→G:=by
 intro H k;refine Jv ?_;refine Jv ?_;refine Qe rfl rfl rfl (VJ rfl rfl ?_);refine Qe rfl rfl rfl (QC H rfl rfl rfl ?_);refine VW rfl rfl rfl rfl ?_;exact k):G:=h H k
theorem IK (H:Q0 w l) (k:K) (h:Q0 w l→K→G:=by
 intro H k;refine Q5 rfl (Gm rfl rfl ?_);refine Jv ?_;exact k):G:=h H k
theorem IR (H:Q0 w l) (k:K) (h:Q0 w l→K→G:=by
 intro H k;refine Q5 rfl (Ko rfl rfl ?_);refine Q5 rfl (C3 H rfl rfl rfl ?_);exact k):G:=h H k
theorem IW (H:Q0 w l) (k:K) (h:Q0 w l→K→G:=by
 intro H k;refine Ja 12 ?_;refine Ja 13 ?_;refine Ja 14 ?_;refine Ja 15 ?_;refine Jx H ?_;exact k):G:=h H k
theorem IA (H:Q0 w l) (k:K) (h:Q0 w l→K→G:=by
 intro H k
 repeat refine Q7 ?_
 refine QG ?_;refine Q5 rfl (Vy H rfl (by repeat first|exact .nil _|apply QY.cons rfl) rfl ?_);refine Q5 rfl (Ko rfl rfl ?_);refine Q5 rfl (IY rfl rfl rfl rfl (.inl rfl) rfl ?_);exact k):G:=h H k
theorem IB (H:Q0 w l) (k:K) (h:Q0 w l→K→G:=by
 intro H k;refine Jv ?_;refine QX ?_
 repeat refine Q7 ?_
 refine YU rfl ?_
 repeat refine Q7 ?_
 refine QG ?_;refine Jv ?_;refine Jv ?_;refine QX ?_;exact k):G:=h H k
theorem IC (H:Q0 w l) (k:K) (h:Q0 w l→K→G:=by
 intro H k;refine Jv ?_;refine QX ?_
 repeat refine Q7 ?_
 refine Vw rfl ?_;exact k):G:=h H k
theorem ID (H:Q0 w l) (k:K) (h:Q0 w l→K→G:=by
 intro H k
 repeat refine Q7 ?_
 refine YU rfl ?_
 repeat refine Q7 ?_
 refine QG ?_;refine Q5 rfl (Ko rfl rfl ?_);refine Q5 rfl (U8 H rfl rfl inferInstance rfl rfl (Nat.le_of_ble_eq_true rfl) rfl ?_);exact k):G:=h H k
theorem IF (H:Q0 w l) (k:K) (h:Q0 w l→K→G:=by
 intro H k;refine Jv ?_;refine Jv ?_;refine Jv ?_;refine Jv ?_;refine Jv ?_;exact k):G:=h H k
theorem IH (H:Q0 w l) (k:K) (h:Q0 w l→K→G:=by
 intro H k;refine Ja 9 ?_;refine Ja 10 ?_;refine Jf 11 ?_;exact k):G:=h H k
theorem II (H:Q0 w l) (k:K) (h:Q0 w l→K→G:=by
 intro H k;refine Jx H ?_
 repeat refine Q7 ?_
 refine QG ?_;refine Jv ?_;refine QX ?_;exact k):G:=h H k
theorem IJ (H:Q0 w l) (k:K) (h:Q0 w l→K→G:=by
 intro H k
 repeat refine Q7 ?_
 refine QG ?_;refine Jv ?_;refine Jv ?_;refine QX ?_
 repeat refine Q7 ?_
 exact k):G:=h H k
theorem IM (H:Q0 w l) (k:K) (h:Q0 w l→K→G:=by
 intro H k;refine Qz rfl rfl rfl ?_;refine Qz rfl rfl rfl ?_;refine Qz rfl rfl rfl ?_;refine Qz rfl rfl rfl ?_;refine Qz rfl rfl rfl ?_;refine Qz rfl rfl rfl ?_;refine Qz rfl rfl rfl ?_;exact k):G:=h H k
theorem IP (H:Q0 w l) (k:K) (h:Q0 w l→K→G:=by
 intro H k;refine Qz rfl rfl rfl ?_;refine Qz rfl rfl rfl ?_;refine Qz rfl rfl rfl ?_;refine Qz rfl rfl rfl ?_;refine Qz rfl rfl rfl ?_;exact k):G:=h H k
theorem IS (H:Q0 w l) (k:K) (h:Q0 w l→K→G:=by
 intro H k;refine Qz rfl rfl rfl ?_;refine Qz rfl rfl rfl ?_;exact k):G:=h H k
theorem IT (H:Q0 w l) (k:K) (h:Q0 w l→K→G:=by
 intro H k;refine Jv ?_;refine Jv ?_;refine Qz rfl rfl rfl ?_;refine Qz rfl rfl rfl ?_;refine Qz rfl rfl rfl ?_;exact k):G:=h H k
theorem Ia (H:Q0 w l) (k:K) (h:Q0 w l→K→G:=by
 intro H k;refine VW rfl rfl rfl rfl ?_;refine Qe rfl rfl rfl (VJ rfl rfl ?_);refine Qe rfl rfl rfl (QC H rfl rfl rfl ?_);refine VW rfl rfl rfl rfl ?_;exact k):G:=h H k
theorem Ib (H:Q0 w l) (k:K) (h:Q0 w l→K→G:=by
 intro H k;refine Jv ?_;refine Qz rfl rfl rfl ?_;refine Qz rfl rfl rfl ?_;refine Qz rfl rfl rfl ?_;refine Qz rfl rfl rfl ?_;refine Qz rfl rfl rfl ?_;refine Qz rfl rfl rfl ?_;refine Qz rfl rfl rfl ?_;exact k):G:=h H k
theorem Ic (H:Q0 w l) (k:K) (h:Q0 w l→K→G:=by
 intro H k
 repeat refine Q7 ?_
 refine QG ?_;refine Jv ?_;refine Jv ?_;refine Jv ?_;refine QX ?_
 repeat refine Q7 ?_
 exact k):G:=h H k
theorem Ie (H:Q0 w l) (k:K) (h:Q0 w l→K→G:=by
 intro H k
 repeat refine Q7 ?_
 refine QG ?_;refine Jv ?_;refine QX ?_
 repeat refine Q7 ?_
 refine QG ?_;refine Jv ?_;refine QX ?_
 repeat refine Q7 ?_
 refine QG ?_;refine Jv ?_;refine QX ?_
 repeat refine Q7 ?_
 refine Qd ?_;exact k):G:=h H k
theorem If (H:Q0 w l) (k:K) (h:Q0 w l→K→G:=by
 intro H k
 repeat refine Q7 ?_
 refine QG ?_;refine Jv ?_;refine Jv ?_;refine Q5 rfl (C3 H rfl rfl rfl ?_);exact k):G:=h H k
theorem Ig (H:Q0 w l) (k:K) (h:Q0 w l→K→G:=by
 intro H k;refine Qz rfl rfl rfl ?_;refine Qz rfl rfl rfl ?_;refine Jv ?_;refine Jv ?_;refine Qz rfl rfl rfl ?_;refine Qz rfl rfl rfl ?_;refine Qz rfl rfl rfl ?_;refine Qz rfl rfl rfl ?_;exact k):G:=h H k
theorem Ih (H:Q0 w l) (k:K) (h:Q0 w l→K→G:=by
 intro H k
 repeat refine Q7 ?_
 refine QG ?_;refine Jv ?_;refine QX ?_
 repeat refine Q7 ?_
 refine QG ?_;exact k):G:=h H k
theorem Ii (H:Q0 w l) (k:K) (h:Q0 w l→K→G:=by
 intro H k;refine Vz 5 [6] H rfl (Q8.none rfl) rfl (by repeat first|exact .nil _|apply QY.cons rfl) (by kernel_rfl) ?_;refine Jo 6 H ?_;exact k):G:=h H k
theorem Ij (H:Q0 w l) (k:K) (h:Q0 w l→K→G:=by
 intro H k;refine Vz 4 [6] H rfl (Q8.none rfl) rfl (by repeat first|exact .nil _|apply QY.cons rfl) (by kernel_rfl) ?_;exact k):G:=h H k
theorem Ik (H:Q0 w l) (k:K) (h:Q0 w l→K→G:=by
 intro H k;refine Qe rfl rfl rfl (KF rfl rfl (.inl rfl) rfl ?_);refine Jv ?_;refine QX ?_
 repeat refine Q7 ?_
 refine Vw rfl (QE ?_);exact k):G:=h H k
theorem Il (H:Q0 w l) (k:K) (h:Q0 w l→K→G:=by
 intro H k;refine Ja 7 ?_;refine Ja 8 ?_;refine Ja 9 ?_;refine Jo 11 H ?_;refine U8 H rfl rfl inferInstance rfl rfl (Nat.le_of_ble_eq_true rfl) rfl ?_;exact k):G:=h H k
theorem Im (H:Q0 w l) (k:K) (h:Q0 w l→K→G:=by
 intro H k;refine Jv ?_;refine Jv ?_;refine QX ?_
 repeat refine Q7 ?_
 refine QG ?_;refine Jv ?_;refine Jv ?_;refine QX ?_
 repeat refine Q7 ?_
 refine Vw rfl (QE ?_);exact k):G:=h H k
theorem Io (H:Q0 w l) (k:K) (h:Q0 w l→K→G:=by
 intro H k;refine QX ?_
 repeat refine Q7 ?_
 refine QG ?_;refine Jv ?_;exact k):G:=h H k
theorem Ip (H:Q0 w l) (k:K) (h:Q0 w l→K→G:=by
 intro H k
 repeat refine Q7 ?_
 refine Qd ?_
 repeat refine Q7 ?_
 refine Wu H mixed ?_;exact k):G:=h H k
theorem Iq (H:Q0 w l) (k:K) (h:Q0 w l→K→G:=by
 intro H k
 repeat refine Q7 ?_
 refine QG ?_;refine Jv ?_;refine Jv ?_;refine QX ?_
 repeat refine Q7 ?_
 refine QG ?_;refine Jv ?_;refine Jv ?_;refine Q5 rfl (VJ rfl rfl ?_);refine Q5 rfl (QC H rfl rfl rfl ?_);refine Jv ?_;exact k):G:=h H k
theorem Ir (H:Q0 w l) (k:K) (h:Q0 w l→K→G:=by
 intro H k;refine Jv ?_;refine QX ?_
 repeat refine Q7 ?_
 refine QG ?_;refine Jv ?_;refine Jv ?_;refine QX ?_
 repeat refine Q7 ?_
 refine YU rfl ?_
 repeat refine Q7 ?_
 refine QG ?_;refine Jv ?_;refine Jv ?_;refine QX ?_;exact k):G:=h H k
theorem Is (H:Q0 w l) (k:K) (h:Q0 w l→K→G:=by
 intro H k
 repeat refine Q7 ?_
 refine YU rfl ?_
 repeat refine Q7 ?_
 refine QG ?_;refine Q5 rfl (Ko rfl rfl ?_);refine Jv ?_;refine Q5 rfl (U8 H rfl rfl inferInstance rfl rfl (Nat.le_of_ble_eq_true rfl) rfl ?_);exact k):G:=h H k
theorem It (H:Q0 w l) (k:K) (h:Q0 w l→K→G:=by
 intro H k
 repeat refine Q7 ?_
 refine QG ?_;refine Jv ?_;refine Q5 rfl (Vy H rfl (by repeat first|exact .nil _|apply QY.cons rfl) rfl ?_);refine Jv ?_;exact k):G:=h H k
theorem Iu (H:Q0 w l) (k:K) (h:Q0 w l→K→G:=by
 intro H k
 repeat refine Q7 ?_
 refine QG ?_;refine Jv ?_;refine Jv ?_;refine Q5 rfl (VJ rfl rfl ?_);refine Q5 rfl (QC H rfl rfl rfl ?_);refine Jv ?_;refine Q5 rfl (VJ rfl rfl ?_);refine Q5 rfl (QC H rfl rfl rfl ?_);refine Jv ?_;exact k):G:=h H k
theorem Iv (H:Q0 w l) (k:K) (h:Q0 w l→K→G:=by
 intro H k;refine Qe rfl rfl rfl (Vy H rfl (by repeat first|exact .nil _|apply QY.cons rfl) rfl ?_);refine Qe rfl rfl rfl (Ko rfl rfl ?_);exact k):G:=h H k
theorem Iw (H:Q0 w l) (k:K) (h:Q0 w l→K→G:=by
 intro H k;refine Ja 8 ?_;refine Ja 9 ?_;refine Jf 10 ?_;exact k):G:=h H k
theorem Ix (H:Q0 w l) (k:K) (h:Q0 w l→K→G:=by
 intro H k
 repeat refine Q7 ?_
 refine QG ?_;refine Q5 rfl (QC H rfl rfl rfl ?_);refine Q5 rfl (QC H rfl rfl rfl ?_);exact k):G:=h H k
theorem Iy (H:Q0 w l) (k:K) (h:Q0 w l→K→G:=by
 intro H k;refine Jv ?_;refine QX ?_
 repeat refine Q7 ?_
 refine Vw rfl ?_
 repeat refine Q7 ?_
 refine QG ?_;refine Jv ?_;refine Jv ?_;exact k):G:=h H k
theorem Iz (H:Q0 w l) (k:K) (h:Q0 w l→K→G:=by
 intro H k;refine Ja 0 ?_;refine Ja 1 ?_;refine Jf 2 ?_;refine Jl 3 [7] H ?_;refine Ja 4 ?_;refine Jf 5 ?_;refine Jl 6 [7] H ?_;refine Jo 7 H ?_;exact k):G:=h H k
theorem JQ (H:Q0 w l) (k:K) (h:Q0 w l→K→G:=by
 intro H k;refine Ja 0 ?_;refine Ja 1 ?_;refine Ja 2 ?_;refine Ja 3 ?_;exact k):G:=h H k
theorem Mc (H:Q0 w l) (k:K) (h:Q0 w l→K→G:=by
 intro H k
 repeat refine Q7 ?_
 refine QG ?_;refine Jv ?_;refine Jv ?_;refine QX ?_
 repeat refine Q7 ?_
 refine QG ?_;refine Jv ?_;exact k):G:=h H k
theorem Md (H:Q0 w l) (k:K) (h:Q0 w l→K→G:=by
 intro H k
 repeat refine Q7 ?_
 refine QG ?_;refine Jv ?_;refine QX ?_
 repeat refine Q7 ?_
 refine QG ?_;refine Q5 rfl (Ko rfl rfl ?_);exact k):G:=h H k
theorem Me (H:Q0 w l) (k:K) (h:Q0 w l→K→G:=by
 intro H k;refine KI 3 rfl (Q8.none rfl) rfl (by kernel_rfl) ?_;exact k):G:=h H k
theorem Mf (H:Q0 w l) (k:K) (h:Q0 w l→K→G:=by
 intro H k;refine Jv ?_;refine Jv ?_;refine Jv ?_;refine Jv ?_;refine Jv ?_;refine QX ?_
 repeat refine Q7 ?_
 refine Wu H mixed ?_;exact k):G:=h H k
theorem Mg (H:Q0 w l) (k:K) (h:Q0 w l→K→G:=by
 intro H k
 repeat refine Q7 ?_
 refine QG ?_;refine Q5 rfl (VJ rfl rfl ?_);refine Q5 rfl (QC H rfl rfl rfl ?_);refine Jv ?_;refine Jv ?_;exact k):G:=h H k
theorem Mh (H:Q0 w l) (k:K) (h:Q0 w l→K→G:=by
 intro H k;refine Jv ?_;refine QX ?_
 repeat refine Q7 ?_
 refine QG ?_;refine Jv ?_;refine QX ?_
 repeat refine Q7 ?_
 exact k):G:=h H k
theorem Mi (H:Q0 w l) (k:K) (h:Q0 w l→K→G:=by
 intro H k;refine VW rfl rfl rfl rfl ?_;refine VW rfl rfl rfl rfl ?_;refine Jv ?_;refine Jv ?_;exact k):G:=h H k
theorem Mj (H:Q0 w l) (k:K) (h:Q0 w l→K→G:=by
 intro H k;refine Ja 10 ?_;refine Ja 11 ?_;refine Jx H ?_;exact k):G:=h H k
theorem Mk (H:Q0 w l) (k:K) (h:Q0 w l→K→G:=by
 intro H k
 repeat refine Q7 ?_
 refine QG ?_;refine Jv ?_;refine QX ?_
 repeat refine Q7 ?_
 refine QG ?_;refine Jv ?_;refine Q5 rfl (KF rfl rfl (.inl rfl) rfl ?_);refine QX ?_
 repeat refine Q7 ?_
 refine Vw rfl (QE ?_)
 repeat refine Q7 ?_
 refine Wu H mixed ?_;exact k):G:=h H k
theorem Ml (H:Q0 w l) (k:K) (h:Q0 w l→K→G:=by
 intro H k;refine VW rfl rfl rfl rfl ?_;refine Jv ?_;refine QX ?_;exact k):G:=h H k
theorem Mm (H:Q0 w l) (k:K) (h:Q0 w l→K→G:=by
 intro H k;refine VW rfl rfl rfl rfl ?_;refine VW rfl rfl rfl rfl ?_;refine VW rfl rfl rfl rfl ?_;refine Qe rfl rfl rfl (VJ rfl rfl ?_);refine Qe rfl rfl rfl (QC H rfl rfl rfl ?_);refine Qe rfl rfl rfl (Gm rfl rfl ?_);refine VW rfl rfl rfl rfl ?_;exact k):G:=h H k
theorem Mn (H:Q0 w l) (k:K) (h:Q0 w l→K→G:=by
 intro H k
 repeat refine Q7 ?_
 refine QG ?_;refine Jv ?_;refine Jv ?_;refine QX ?_
 repeat refine Q7 ?_
 refine QG ?_;refine Jv ?_;refine Q5 rfl (KF rfl rfl (.inl rfl) rfl ?_);refine QX ?_
 repeat refine Q7 ?_
 refine Vw rfl (QE ?_);exact k):G:=h H k
theorem Mo (H:Q0 w l) (k:K) (h:Q0 w l→K→G:=by
 intro H k
 repeat refine Q7 ?_
 refine QG ?_;refine Jv ?_;refine QX ?_
 repeat refine Q7 ?_
 refine QG ?_;refine Jv ?_;refine Q5 rfl (KF rfl rfl (.inl rfl) rfl ?_);refine QX ?_
 repeat refine Q7 ?_
 refine Vw rfl (QE ?_)
 repeat refine Q7 ?_
 refine QG ?_;refine Jv ?_;refine Jv ?_;exact k):G:=h H k
theorem Mp (H:Q0 w l) (k:K) (h:Q0 w l→K→G:=by
 intro H k;refine Ja 4 ?_;refine Ja 5 ?_;refine Ja 6 ?_;refine Jf 7 ?_;exact k):G:=h H k
theorem Mq (H:Q0 w l) (k:K) (h:Q0 w l→K→G:=by
 intro H k;refine Ja 13 ?_;refine Ja 14 ?_;refine Jf 15 ?_;exact k):G:=h H k
theorem Mr (H:Q0 w l) (k:K) (h:Q0 w l→K→G:=by
 intro H k;refine Jv ?_;refine Qz rfl rfl rfl ?_;refine Qz rfl rfl rfl ?_;refine Qz rfl rfl rfl ?_;exact k):G:=h H k
theorem Ms (H:Q0 w l) (k:K) (h:Q0 w l→K→G:=by
 intro H k;refine Wv rfl rfl ?_;refine Wv rfl rfl ?_;refine Wv rfl rfl ?_;refine Qz rfl rfl rfl ?_;exact k):G:=h H k
theorem Mt (H:Q0 w l) (k:K) (h:Q0 w l→K→G:=by
 intro H k
 repeat refine Q7 ?_
 refine QG ?_;refine Q5 rfl (VJ rfl rfl ?_);refine Q5 rfl (QC H rfl rfl rfl ?_);refine Q5 rfl (VJ rfl rfl ?_);refine Q5 rfl (QC H rfl rfl rfl ?_);exact k):G:=h H k
theorem Mu (H:Q0 w l) (k:K) (h:Q0 w l→K→G:=by
 intro H k;refine Wv rfl rfl ?_;refine Wv rfl rfl ?_;refine Wv rfl rfl ?_;refine Qz rfl rfl rfl ?_;refine Jv ?_;refine Jv ?_;refine QX ?_;exact k):G:=h H k
theorem Mv (H:Q0 w l) (k:K) (h:Q0 w l→K→G:=by
 intro H k;refine Jv ?_;refine QX ?_
 repeat refine Q7 ?_
 refine QG ?_;refine Jv ?_;refine Q5 rfl (Gm rfl rfl ?_);refine Jv ?_;refine QX ?_;exact k):G:=h H k
theorem Mw (H:Q0 w l) (k:K) (h:Q0 w l→K→G:=by
 intro H k
 repeat refine Q7 ?_
 refine QG ?_;refine Jv ?_;refine Jv ?_;refine Q5 rfl (VJ rfl rfl ?_);refine Q5 rfl (QC H rfl rfl rfl ?_);refine Q5 rfl (Gm rfl rfl ?_);exact k):G:=h H k
theorem Mx (H:Q0 w l) (k:K) (h:Q0 w l→K→G:=by
 intro H k;refine Qd ?_
 repeat refine Q7 ?_
 refine QG ?_;refine Jv ?_;refine Q5 rfl (KF rfl rfl (.inl rfl) rfl ?_);refine Jv ?_;refine QX ?_
 repeat refine Q7 ?_
 refine Vw rfl ?_
 repeat refine Q7 ?_
 refine QG ?_;refine Jv ?_;refine Jv ?_;exact k):G:=h H k
theorem My (H:Q0 w l) (k:K) (h:Q0 w l→K→G:=by
 intro H k;refine Jv ?_;refine Jv ?_;refine QX ?_
 repeat refine Q7 ?_
 refine YU rfl ?_
 repeat refine Q7 ?_
 refine QG ?_;refine Q5 rfl (Ko rfl rfl ?_);refine Q5 rfl (U8 H rfl rfl inferInstance rfl rfl (Nat.le_of_ble_eq_true rfl) rfl ?_);exact k):G:=h H k
theorem Mz (H:Q0 w l) (k:K) (h:Q0 w l→K→G:=by
 intro H k;refine Jv ?_;refine Qz rfl rfl rfl ?_;refine Qz rfl rfl rfl ?_;refine Qz rfl rfl rfl ?_;refine Qz rfl rfl rfl ?_;exact k):G:=h H k
theorem N0 (H:Q0 w l) (k:K) (h:Q0 w l→K→G:=by
 intro H k
 repeat refine Q7 ?_
 refine Vw rfl (QE ?_)
 repeat refine Q7 ?_
 refine Wu H mixed ?_;exact k):G:=h H k
theorem N2 (H:Q0 w l) (k:K) (h:Q0 w l→K→G:=by
 intro H k;refine Jv ?_;refine Jv ?_;refine QX ?_
 repeat refine Q7 ?_
 refine QG ?_;refine Jv ?_;refine Q5 rfl (KF rfl rfl (.inl rfl) rfl ?_);refine QX ?_
 repeat refine Q7 ?_
 refine Vw rfl (QE ?_);exact k):G:=h H k
theorem N3 (H:Q0 w l) (k:K) (h:Q0 w l→K→G:=by
 intro H k;refine Ja 0 ?_;refine Ja 1 ?_;refine Jf 2 ?_;refine Jl 3 [5] H ?_;refine Vz 4 [5] H rfl (Q8.none rfl) rfl (by repeat first|exact .nil _|apply QY.cons rfl) (by kernel_rfl) ?_;refine Jo 5 H ?_;exact k):G:=h H k
theorem N4 (H:Q0 w l) (k:K) (h:Q0 w l→K→G:=by
 intro H k;refine Vz 6 [7] H rfl (Q8.none rfl) rfl (by repeat first|exact .nil _|apply QY.cons rfl) (by kernel_rfl) ?_;refine Jo 7 H ?_;exact k):G:=h H k
theorem N5 (H:Q0 w l) (k:K) (h:Q0 w l→K→G:=by
 intro H k;refine Jv ?_;refine Jv ?_;refine QX ?_
 repeat refine Q7 ?_
 refine YU rfl ?_
 repeat refine Q7 ?_
 refine QG ?_;refine Jv ?_;refine QX ?_;exact k):G:=h H k
theorem N6 (H:Q0 w l) (k:K) (h:Q0 w l→K→G:=by
 intro H k;refine Ja 0 ?_;refine Ja 1 ?_;refine Jf 2 ?_;refine Jl 3 [9] H ?_;exact k):G:=h H k
theorem N7 (H:Q0 w l) (k:K) (h:Q0 w l→K→G:=by
 intro H k;refine Ja 4 ?_;refine Ja 5 ?_;refine Jf 6 ?_;exact k):G:=h H k
theorem N8 (H:Q0 w l) (k:K) (h:Q0 w l→K→G:=by
 intro H k;refine Ja 4 ?_;refine Ja 5 ?_;refine Jf 6 ?_;refine Jl 7 [] H ?_;exact k):G:=h H k
theorem N9 (H:Q0 w l) (k:K) (h:Q0 w l→K→G:=by
 intro H k;refine Jv ?_;refine QX ?_
 repeat refine Q7 ?_
 refine QG ?_;refine Jv ?_;refine Jv ?_;refine Jv ?_;exact k):G:=h H k
theorem NQ (H:Q0 w l) (k:K) (h:Q0 w l→K→G:=by
 intro H k
 repeat refine Q7 ?_
 refine YU rfl ?_
 repeat refine Q7 ?_
 refine QG ?_;refine Jv ?_;refine Jv ?_;refine Jv ?_;refine QX ?_;exact k):G:=h H k
theorem NV (H:Q0 w l) (k:K) (h:Q0 w l→K→G:=by
 intro H k;refine Jv ?_;refine Jv ?_;refine Q5 rfl (U8 H rfl rfl inferInstance rfl rfl (Nat.le_of_ble_eq_true rfl) rfl ?_);exact k):G:=h H k
theorem NY (H:Q0 w l) (k:K) (h:Q0 w l→K→G:=by
 intro H k;refine Q5 rfl (VJ rfl rfl ?_);refine Q5 rfl (QC H rfl rfl rfl ?_);refine Jv ?_;exact k):G:=h H k
theorem NZ (H:Q0 w l) (k:K) (h:Q0 w l→K→G:=by
 intro H k;refine Jv ?_;refine Jv ?_;refine Qz rfl rfl rfl ?_;refine Qz rfl rfl rfl ?_;refine Qz rfl rfl rfl ?_;refine Qz rfl rfl rfl ?_;refine Qz rfl rfl rfl ?_;refine Qz rfl rfl rfl ?_;refine Qz rfl rfl rfl ?_;refine Qz rfl rfl rfl ?_;exact k):G:=h H k
theorem NG (H:Q0 w l) (k:K) (h:Q0 w l→K→G:=by
 intro H k
 repeat refine Q7 ?_
 refine QG ?_;refine Jv ?_;refine Jv ?_;refine Q5 rfl (DY rfl rfl (.inr rfl) rfl ?_);refine QX ?_;exact k):G:=h H k
theorem NU (H:Q0 w l) (k:K) (h:Q0 w l→K→G:=by
 intro H k;refine Jv ?_;refine Q5 rfl (VJ rfl rfl ?_);refine Q5 rfl (QC H rfl rfl rfl ?_);refine Jv ?_;refine Q5 rfl (DY rfl rfl (.inl rfl) rfl ?_);exact k):G:=h H k
theorem NX (H:Q0 w l) (k:K) (h:Q0 w l→K→G:=by
 intro H k;refine QX ?_
 repeat refine Q7 ?_
 refine QG ?_;refine Jv ?_;refine Jv ?_;refine Q5 rfl (VJ rfl rfl ?_);refine Q5 rfl (QC H rfl rfl rfl ?_);refine Jv ?_;exact k):G:=h H k
theorem NK (H:Q0 w l) (k:K) (h:Q0 w l→K→G:=by
 intro H k
 repeat refine Q7 ?_
 refine QG ?_;refine Jv ?_;refine Jv ?_;refine Q5 rfl (VJ rfl rfl ?_);refine Q5 rfl (QC H rfl rfl rfl ?_);refine Q5 rfl (Gm rfl rfl ?_);refine Jv ?_;refine QX ?_;exact k):G:=h H k
theorem NR (H:Q0 w l) (k:K) (h:Q0 w l→K→G:=by
 intro H k;refine Jn 4 ?_;refine Jn 5 ?_;refine Jn 6 ?_;refine Jn 7 ?_;refine Jn 8 ?_;refine Jn 9 ?_;refine Jn 10 ?_;refine Jn 11 ?_;exact k):G:=h H k
theorem NW (H:Q0 w l) (k:K) (h:Q0 w l→K→G:=by
 intro H k;refine Jn 14 ?_;refine Jn 15 ?_;refine Jn 16 ?_;refine Jn 17 ?_;refine Jn 18 ?_;refine Jn 19 ?_;refine Jn 20 ?_;refine Jn 21 ?_;refine Jn 22 ?_;refine Jn 23 ?_;exact k):G:=h H k
theorem NA (H:Q0 w l) (k:K) (h:Q0 w l→K→G:=by
 intro H k;refine Ja 24 ?_;refine Ja 25 ?_;refine Jn 26 ?_;refine Jn 27 ?_;refine Jn 28 ?_;refine Jn 29 ?_;refine Jn 30 ?_;refine Jn 31 ?_;refine Jn 32 ?_;refine Jn 33 ?_;refine Jn 34 ?_;refine Jn 35 ?_;refine Jn 36 ?_;refine Jn 37 ?_;refine Ja 38 ?_;refine Jx H ?_
 repeat refine Q7 ?_
 refine YU rfl ?_
 repeat refine Q7 ?_
 refine QG ?_;refine Jv ?_;refine Jv ?_;refine QX ?_;exact k):G:=h H k
theorem NB (H:Q0 w l) (k:K) (h:Q0 w l→K→G:=by
 intro H k
 repeat refine Q7 ?_
 refine QG ?_;refine Jv ?_;refine Jv ?_;refine Q5 rfl (VJ rfl rfl ?_);exact k):G:=h H k
theorem NC (H:Q0 w l) (k:K) (h:Q0 w l→K→G:=by
 intro H k;refine Q5 rfl (Ko rfl rfl ?_);refine Q5 rfl (U8 H rfl rfl inferInstance rfl rfl (Nat.le_of_ble_eq_true rfl) rfl ?_);exact k):G:=h H k
theorem ND (H:Q0 w l) (k:K) (h:Q0 w l→K→G:=by
 intro H k;refine Jv ?_;refine QX ?_
 repeat refine Q7 ?_
 refine QG ?_;refine Q5 rfl (QC H rfl rfl rfl ?_);refine Q5 rfl (Vy H rfl (by repeat first|exact .nil _|apply QY.cons rfl) rfl ?_);refine Jv ?_;exact k):G:=h H k
theorem NE (H:Q0 w l) (k:K) (h:Q0 w l→K→G:=by
 intro H k;refine Jl 0 [8] H ?_;refine Ja 1 ?_;refine Jf 2 ?_;refine Jl 3 [8] H ?_;refine Jf 4 ?_;refine Jl 5 [8] H ?_;exact k):G:=h H k
theorem NF (H:Q0 w l) (k:K) (h:Q0 w l→K→G:=by
 intro H k;refine Jl 0 [6] H ?_;refine Ja 1 ?_;refine Jf 2 ?_;refine Jl 3 [6] H ?_;exact k):G:=h H k
theorem NH (H:Q0 w l) (k:K) (h:Q0 w l→K→G:=by
 intro H k;refine QX ?_
 repeat refine Q7 ?_
 refine QG ?_;refine Q5 rfl (Vy H rfl (by repeat first|exact .nil _|apply QY.cons rfl) rfl ?_);refine Q5 rfl (Vy H rfl (by repeat first|exact .nil _|apply QY.cons rfl) rfl ?_);refine Q5 rfl (Pe rfl rfl (.inl rfl) rfl ?_);exact k):G:=h H k
theorem NI (H:Q0 w l) (k:K) (h:Q0 w l→K→G:=by
 intro H k
 repeat refine Q7 ?_
 refine QG ?_;refine Jv ?_;refine Q5 rfl (VJ rfl rfl ?_);refine Q5 rfl (QC H rfl rfl rfl ?_);exact k):G:=h H k
theorem NJ (H:Q0 w l) (k:K) (h:Q0 w l→K→G:=by
 intro H k;refine Q5 rfl (KF rfl rfl (.inl rfl) rfl ?_);exact k):G:=h H k
theorem NM (H:Q0 w l) (k:K) (h:Q0 w l→K→G:=by
 intro H k
 repeat refine Q7 ?_
 refine YU rfl ?_
 repeat refine Q7 ?_
 refine QG ?_;refine Jv ?_;refine Jv ?_;refine Jv ?_;exact k):G:=h H k
theorem NN (H:Q0 w l) (k:K) (h:Q0 w l→K→G:=by
 intro H k;refine Q5 rfl (VJ rfl rfl ?_);refine Q5 rfl (Vy H rfl (by repeat first|exact .nil _|apply QY.cons rfl) rfl ?_);exact k):G:=h H k
theorem NO (H:Q0 w l) (k:K) (h:Q0 w l→K→G:=by
 intro H k;refine Ja 7 ?_;refine Ja 8 ?_;refine Ja 9 ?_;refine Ja 10 ?_;refine Ja 11 ?_;refine Jx H ?_
 repeat refine Q7 ?_
 refine QG ?_;refine Jv ?_;refine Jv ?_;refine Jv ?_;refine Jv ?_;exact k):G:=h H k
theorem NP (H:Q0 w l) (k:K) (h:Q0 w l→K→G:=by
 intro H k;refine Ja 10 ?_;refine Ja 11 ?_;refine Jf 12 ?_;exact k):G:=h H k
theorem NS (H:Q0 w l) (k:K) (h:Q0 w l→K→G:=by
 intro H k;refine Jv ?_;refine Jv ?_;refine Qe rfl rfl rfl (VJ rfl rfl ?_);refine Qe rfl rfl rfl (QC H rfl rfl rfl ?_);refine Qe rfl rfl rfl (Gm rfl rfl ?_);refine VW rfl rfl rfl rfl ?_;exact k):G:=h H k
theorem NT (H:Q0 w l) (k:K) (h:Q0 w l→K→G:=by
 intro H k
 repeat refine Q7 ?_
 refine Qd ?_
 repeat refine Q7 ?_
 refine QG ?_;refine Jv ?_;refine Jv ?_;refine QX ?_
 repeat refine Q7 ?_
 refine Wu H mixed ?_;exact k):G:=h H k
theorem Na (H:Q0 w l) (k:K) (h:Q0 w l→K→G:=by
 intro H k
 repeat refine Q7 ?_
 refine QG ?_;refine Jv ?_;refine Jv ?_;refine Jv ?_;refine VW rfl rfl rfl rfl ?_;refine VW rfl rfl rfl rfl ?_;refine VW rfl rfl rfl rfl ?_;exact k):G:=h H k
theorem Nb (H:Q0 w l) (k:K) (h:Q0 w l→K→G:=by
 intro H k;refine Ja 0 ?_;refine Ja 1 ?_;refine Jf 2 ?_;refine Jl 3 [7] H ?_;refine Jf 4 ?_;refine Jl 5 [7] H ?_;refine Ja 6 ?_;refine Jo 7 H ?_;exact k):G:=h H k
theorem Nc (H:Q0 w l) (k:K) (h:Q0 w l→K→G:=by
 intro H k;refine Ja 12 ?_;refine Jx H ?_
 repeat refine Q7 ?_
 refine QG ?_;refine Q5 rfl (VJ rfl rfl ?_);refine Q5 rfl (QC H rfl rfl rfl ?_);refine Jv ?_;refine Jv ?_;refine VW rfl rfl rfl rfl ?_;refine VW rfl rfl rfl rfl ?_;refine Jv ?_;refine Jv ?_;refine Qe rfl rfl rfl (VJ rfl rfl ?_);refine Qe rfl rfl rfl (QC H rfl rfl rfl ?_);refine Qe rfl rfl rfl (VJ rfl rfl ?_);refine Qe rfl rfl rfl (QC H rfl rfl rfl ?_);refine VW rfl rfl rfl rfl ?_;exact k):G:=h H k
theorem Nd (H:Q0 w l) (k:K) (h:Q0 w l→K→G:=by
 intro H k;refine Jv ?_;refine Jv ?_;refine QX ?_
 repeat refine Q7 ?_
 refine QG ?_;refine Jv ?_;refine Jv ?_;refine Q5 rfl (DY rfl rfl (.inr rfl) rfl ?_);refine Jv ?_;refine VW rfl rfl rfl rfl ?_;refine VW rfl rfl rfl rfl ?_;refine Qz rfl rfl rfl ?_;refine Qz rfl rfl rfl ?_;refine Qz rfl rfl rfl ?_;refine Qz rfl rfl rfl ?_;refine Qz rfl rfl rfl ?_;refine VW rfl rfl rfl rfl ?_;refine Jv ?_;refine QX ?_
 repeat refine Q7 ?_
 refine Vw rfl (QE ?_)
 repeat refine Q7 ?_
 refine QG ?_;refine Jv ?_;refine QX ?_
 repeat refine Q7 ?_
 refine Vw rfl (QE ?_);exact k):G:=h H k
theorem S7 (H:Q0 w l) (k:K) (h:Q0 w l→K→G:=by
 intro H k
 first|refine Jv ?_|refine W6 rfl rfl ?_
 refine Jv ?_;refine Jv ?_;refine Jv ?_;refine Jv ?_;refine QX ?_;exact k):G:=h H k
theorem S8 (H:Q0 w l) (k:K) (h:Q0 w l→K→G:=by
 intro H k
 repeat refine Q7 ?_
 refine QG ?_;refine Jv ?_;refine QX ?_
 repeat refine Q7 ?_
 refine QG ?_;refine Jv ?_;refine QX ?_
 repeat refine Q7 ?_
 refine Qd ?_;exact k):G:=h H k
theorem S9 (H:Q0 w l) (k:K) (h:Q0 w l→K→G:=by
 intro H k;refine Vz 5 [6,7,10] H rfl (Q8.none rfl) rfl (by repeat first|exact .nil _|apply QY.cons rfl) (by kernel_rfl) ?_;exact k):G:=h H k
theorem SQ (H:Q0 w l) (k:K) (h:Q0 w l→K→G:=by
 intro H k
 repeat refine Q7 ?_
 refine QG ?_;refine Q5 rfl (QC H rfl rfl rfl ?_);refine Q5 rfl (Vy H rfl (by repeat first|exact .nil _|apply QY.cons rfl) rfl ?_);refine Jv ?_;exact k):G:=h H k
theorem SV (H:Q0 w l) (k:K) (h:Q0 w l→K→G:=by
 intro H k;refine Qe rfl rfl rfl (VJ rfl rfl ?_);refine Qe rfl rfl rfl (QC H rfl rfl rfl ?_);refine Qe rfl rfl rfl (VJ rfl rfl ?_);refine Qe rfl rfl rfl (QC H rfl rfl rfl ?_);refine VW rfl rfl rfl rfl ?_;exact k):G:=h H k
theorem SY (H:Q0 w l) (k:K) (h:Q0 w l→K→G:=by
 intro H k;refine Vz 5 [7] H rfl (Q8.none rfl) rfl (by repeat first|exact .nil _|apply QY.cons rfl) (by kernel_rfl) ?_;exact k):G:=h H k
theorem SZ (H:Q0 w l) (k:K) (h:Q0 w l→K→G:=by
 intro H k;refine Qz rfl rfl rfl ?_;refine Qz rfl rfl rfl ?_;refine Qz rfl rfl rfl ?_;refine Qz rfl rfl rfl ?_;exact k):G:=h H k
theorem SG (H:Q0 w l) (k:K) (h:Q0 w l→K→G:=by
 intro H k;refine Vz 4 [7,12] H rfl (Q8.none rfl) rfl (by repeat first|exact .nil _|apply QY.cons rfl) (by kernel_rfl) ?_;exact k):G:=h H k
theorem SU (H:Q0 w l) (k:K) (h:Q0 w l→K→G:=by
 intro H k;refine Ja 0 ?_;refine Ja 1 ?_;refine Jf 2 ?_;refine Jl 3 [6] H ?_;refine Jf 4 ?_;refine Jl 5 [6] H ?_;exact k):G:=h H k
theorem SX (H:Q0 w l) (k:K) (h:Q0 w l→K→G:=by
 intro H k;refine Qe rfl rfl rfl (Gm rfl rfl ?_);refine VW rfl rfl rfl rfl ?_;exact k):G:=h H k
theorem fB (H:Q0 w l) (k:K) (h:Q0 w l→K→G:=by
 intro H k
 repeat refine Q7 ?_
 refine QG ?_;refine Jv ?_;refine QX ?_
 repeat refine Q7 ?_
 refine QG ?_;refine Jv ?_;refine Q5 rfl (KF rfl rfl (.inl rfl) rfl ?_);refine QX ?_
 repeat refine Q7 ?_
 refine Vw rfl (QE ?_);exact k):G:=h H k
theorem fC (H:Q0 w l) (k:K) (h:Q0 w l→K→G:=by
 intro H k
 repeat refine Q7 ?_
 refine QG ?_;refine Jv ?_;refine QX ?_
 repeat refine Q7 ?_
 refine Vw rfl (QE ?_);exact k):G:=h H k
theorem fD (H:Q0 w l) (k:K) (h:Q0 w l→K→G:=by
 intro H k;refine Jv ?_;refine Jv ?_;refine QX ?_
 repeat refine Q7 ?_
 refine QG ?_;refine Jv ?_;refine Jv ?_;refine Q5 rfl (DY rfl rfl (.inr rfl) rfl ?_);exact k):G:=h H k
end
end Go.SL
namespace Go.Proofs.YtmjdnljneifpcaaGreatDoor
open List
open Go.SL
@[reducible] def pp (b:Nat):Value := .pointer (some ⟨b,0,none⟩)
theorem Qh {x:Int} (h1 : -9223372036854775808≤x) (h2:x≤9223372036854775807):IntKind.i64.wrap x=x:=by
 simp[IntKind.wrap,IntKind.bits,IntKind.signed];omega
theorem Qg {i:Nat} (h:i < 1000000000):Value.int .i64 (IntKind.i64.wrap ((i:Int)+1)) = .int .i64 ((i+1:Nat):Int):=by
 rw[Qh (by omega) (by omega)];rfl
abbrev Fl:=Nat×Nat
def CE (f:Fl):Prop:=0 < f.2∧f.1+f.2≤64
@[reducible] def fv (f:Fl):Value := .agg #[.int .i64 f.1,.int .i64 f.2]
def fE (f:Fl):List Value:=[.int .i64 f.1,.int .i64 f.2]
def Fi (l:List Fl):List Value:=l.flatMap fE
def Qj (l:List Nat):List Value:=l.map fun x:Nat=>Value.int .u64 (x:Int)
theorem Nf (l:List Fl):(Fi l).length=l.length*2:=by
 induction l with
 | nil=>rfl
 | cons p L ih=>simp only[Fi,fE,flatMap_cons,length_append,length_cons,length_nil] at ih ⊢;omega
theorem GA (l:List Nat):(Qj l).length=l.length*1:=by simp[Qj]
theorem p7 (a b:List Nat):Qj (a++b)=Qj a++Qj b:=by simp[Qj]
theorem Ng {l:List Nat} {spare:List Value} {i x:Nat} (h:l[i]? = some x):(Qj l++spare)[0+i*1]? = some (.int .u64 x):=by
 have hi:=(List.getElem?_eq_some_iff.1 h).1;rw[Nat.zero_add,Nat.mul_one,getElem?_append_left (by simpa [Qj] using hi)];simp[Qj,h]
theorem p8 {L:List Fl} {i:Nat} {p:Fl} (h:L[i]? = some p):(Fi L)[i*2]? = some (.int .i64 p.1)∧(Fi L)[i*2+1]? = some (.int .i64 p.2):=by
 induction L generalizing i with
 | nil=>simp at h
 | cons x L ih=>
  cases i with
  | zero=>
   simp at h;subst h;exact⟨rfl,rfl⟩
  | succ i=>
   have:=ih (i:=i) (by simpa using h);rw[show (i+1)*2=i*2+2 by omega];exact this
theorem SR {L:List Fl} {spare:List Value} {i:Nat} {p:Fl} (h:L[i]? = some p):QY (Fi L++spare) (0+i*2) 2 [.int .i64 p.1,.int .i64 p.2]:=by
 obtain⟨h1,h2⟩:=p8 h;have hi:=(List.getElem?_eq_some_iff.1 h).1;have hl:=Nf L;rw[Nat.zero_add];refine .cons ?_ (.cons ?_ (.nil _))
 ·rw[getElem?_append_left (by omega)];exact h1
 ·rw[getElem?_append_left (by omega)];exact h2
@[reducible] def FL (v:Value) (l:List Fl):Q2:=QF 307 2 v (Fi l)
@[reducible] def UL (v:Value) (l:List Nat):Q2:=QF 83 1 v (Qj l)
theorem fF [Q4] (f:Fl) (hf:CE f) {w:World} {fr:List Q2} (H:Q0 w fr):Calls Tryz.prog 250 #[fv f] w (ret fun v w'=>v = .bool true∧Q0 w' fr):=by
 obtain⟨a,d⟩:=f;obtain⟨h1,h2⟩:=hf;dsimp only at h1 h2;refine QQ Tryz.func250 rfl (by kernel_rfl) ?_;refine J8 H ?_;intro b1 w H;refine J0 H ?_;refine Wy H ?_;rw[show decide ((a:Int)≥0)=true from decide_eq_true (by omega)];refine Ex H ?_;rw[show decide ((a:Int) < 64)=true from decide_eq_true (by omega)];refine IX H ?_;rw[show decide ((d:Int) > 0)=true from decide_eq_true (by omega)];refine ZT H ?_;refine Kt H ?_;refine Kt H ?_;refine Gq H ?_;rw[show decide ((d:Int)≤IntKind.i64.wrap (64 - (a:Int)))=true from decide_eq_true (by rw[Qh (by omega) (by omega)];omega)];refine J4 H ?_;exact Q3 (Jy H.drop rfl fun w' H'=>⟨rfl,H'⟩)
theorem Nh [Q4] (f:Fl) (hf:CE f) {w:World} {fr:List Q2} (H:Q0 w fr):Calls Tryz.prog 218 #[fv f] w (ret fun v w'=>v = .int .u64 (Zj f.1 f.2)∧Q0 w' fr):=by
 obtain⟨a,d⟩:=f;obtain⟨h1,h2⟩:=hf;dsimp only at h1 h2;refine QQ Tryz.func218 rfl (by kernel_rfl) ?_;refine J8 H ?_;intro b1 w H;refine J0 H ?_;have e64:IntKind.i64.wrap (64 - (d:Int))=((64 - d:Nat):Int):=by rw[Qh (by omega) (by omega)];omega
 have e1:W4 .u64 18446744073709551615 ((64 - d:Nat):Int)=((2 ^ d - 1:Nat):Int):=by
  rw[show (18446744073709551615:Int)=((18446744073709551615:Nat):Int) from rfl,I8 (by omega) rfl];congr 1;have hp:(18446744073709551615:Nat)=2 ^ d*2 ^ (64 - d) - 1:=by rw[← Nat.pow_add,show d+(64 - d)=64 by omega]
  rw[hp];have hd:=Nat.two_pow_pos (64 - d);have BZ:=Nat.two_pow_pos d
  rw[show 2 ^ d*2 ^ (64 - d) - 1=(2 ^ (64 - d) - 1)+2 ^ (64 - d)*(2 ^ d - 1) by
   rw[Nat.mul_sub,Nat.mul_comm (2 ^ d),Nat.mul_one];have:2 ^ (64 - d)≤2 ^ (64 - d)*2 ^ d:=Nat.le_mul_of_pos_right _ BZ;omega]
  rw[Nat.add_mul_div_left _ _ hd,Nat.div_eq_of_lt (by omega),Nat.zero_add]
 have e2:Wo .u64 ((2 ^ d - 1:Nat):Int) (a:Int)=(Zj a d:Nat):=by
  rw[Ps (by omega)];have:=I9 (a:=a) (wd:=d) h2;unfold Zj at this ⊢;rw[Nat.mod_eq_of_lt this]
 refine J1 H ?_;intro w H;refine C8 H ?_;rw[e64]
 refine XF (v := .int .u64 (W4 .u64 18446744073709551615 ((64 - d:Nat):Int))) 3 rfl (Q8.none rfl) (by
  show (if ((64 - d:Nat):Int) < 0 then none else some _)=_;rw[if_neg (by omega)]) (by kernel_rfl) ?_
 rw[e1];refine C9 H ?_
 refine XF (v := .int .u64 (Wo .u64 ((2 ^ d - 1:Nat):Int) (a:Int))) 6 rfl (Q8.none rfl) (by
  show (if (a:Int) < 0 then none else some _)=_;rw[if_neg (by omega)]) (by kernel_rfl) ?_
 rw[e2];refine Ja 7 ?_;refine Jx H ?_;exact Q3 (Jy H.drop rfl fun w' H'=>⟨rfl,H'⟩)
def CF (fs:List Fl):Prop:=(∀ f∈fs,CE f)∧fs.Pairwise (fun f g=>f.1+f.2≤g.1)
theorem CF.at {fs:List Fl} (h:CF fs) {i:Nat} {f:Fl} (hf:fs[i]? = some f):CE f:=h.1 f (mem_of_getElem? hf)
theorem fH [Q4] (v:Value) (fs:List Fl) (BG:CF fs) (hl:fs.length≤1000000) {w:World} {fr:List Q2} (H:Q0 w (FL v fs::fr)) :
  Calls Tryz.prog 217 #[v] w (ret fun x w'=>x = .bool true∧Q0 w' (FL v fs::fr)):=by
 obtain⟨a,c,rfl⟩:=QI H (Nf fs) (by decide);refine QQ Tryz.func217 rfl (by kernel_rfl) ?_;refine Vg H ?_;refine Ey H ?_;refine Qp (fun ms σ w n=>ms=[]∧∃ (i A:Nat),i≤fs.length∧n=fs.length - i∧(∀ f∈fs.drop i,A < 2 ^ f.1)∧σ 3 = .int .u64 A∧σ 6 = .slice a fs.length c∧σ 7 = .int .i64 fs.length∧σ 8 = .int .i64 i∧Q0 w (FL (.slice a fs.length c) fs::fr)) (m:=fs.length) ⟨rfl,0,0,by omega,rfl,fun f _=>Nat.two_pow_pos _,rfl,rfl,rfl,rfl,H⟩ ?_;rintro ms σ w n ⟨rfl,i,A,hi,rfl,hA,g3,g6,g7,g8,H⟩;rw[Q1 g3,Q1 g6,Q1 g7,Q1 g8];refine J7 H ?_;refine Qk rfl (fun h=>QE ?_) (fun h=>Qu ?_)
 ·have Q6:i < fs.length:=by omega
  have hx:=getElem?_eq_getElem Q6;have G5:fs.drop i=fs[i]::fs.drop (i+1):=drop_eq_getElem_cons Q6;have CH:=BG.2;rw[← take_append_drop i fs,G5] at CH;have JV:=(pairwise_cons.1 (pairwise_append.1 CH).2.1).1;rw[G5] at hA;generalize fs[i]=f at hx JV hA;have hf:=BG.at hx;have SA:=hA f (by simp);have fI:A < 18446744073709551616:=Nat.lt_of_lt_of_le SA (Nat.le_trans (Nat.pow_le_pow_right (by decide) (show f.1≤64 by have:=hf.2;omega)) (by decide));have Di:=I9 (a:=f.1) (wd:=f.2) hf.2
  have hand:ZP .and .u64 (A:Int) (Zj f.1 f.2:Nat)=0:=by
   rw[MN fI Di,ey,Nat.div_eq_of_lt SA];simp
  have p9:ZP .or .u64 (A:Int) (Zj f.1 f.2:Nat)=((A+Zj f.1 f.2:Nat):Int):=by
   rw[eg fI Di];unfold Zj;rw[ez SA]
  obtain⟨b,s,rfl,H,QU⟩:=VY H (by omega);refine Z8 H ?_;refine Jd ?_;refine Q5 rfl (Vy H rfl (SR hx) rfl ?_);refine VO H ?_;intro b5 w H;refine J5 H ?_;intro w H;refine QX ?_
  repeat refine Q7 ?_
  refine QG ?_;refine Q5 rfl (Vy H rfl (by repeat first|exact .nil _|apply QY.cons rfl) rfl ?_);refine Jc rfl rfl (fF f hf H) ?_;rintro v w ⟨rfl,H⟩;refine Wz H ?_;refine DA H ?_;refine Qe rfl rfl rfl (V3 (a:=[]) (b:=[]) rfl rfl (call (Nh f hf H) ?_));rintro v w ⟨rfl,H⟩;refine VW rfl rfl (v := .int .u64 (ZP .and .u64 (A:Int) (Zj f.1 f.2:Nat))) rfl rfl ?_;rw[hand];refine WQ H ?_;refine Xy H ?_;refine Jc rfl rfl (Nh f hf H) ?_;rintro v w ⟨rfl,H⟩;refine Kn (v := .int .u64 (ZP .or .u64 (A:Int) (Zj f.1 f.2:Nat))) rfl rfl ?_;rw[p9];refine ZZ H ?_;replace H:=QU _ _ H.drop;refine⟨_,⟨rfl,i+1,A+Zj f.1 f.2,Q6,rfl,fun g hg=>?_,rfl,rfl,rfl,Qg (by omega),H⟩,by omega⟩;have h1:=JV g hg
  have h2:A+Zj f.1 f.2 < 2 ^ (f.1+f.2):=by
   unfold Zj;rw[Nat.pow_add,Nat.sub_mul,Nat.one_mul,Nat.mul_comm (2 ^ f.2)];have:2 ^ f.1≤2 ^ f.1*2 ^ f.2:=Nat.le_mul_of_pos_right _ (Nat.two_pow_pos _);omega
  exact Nat.lt_of_lt_of_le h2 (Nat.pow_le_pow_right (by decide) h1)
 ·refine Vg H ?_;exact Q3 (Jy H rfl fun w' H'=>⟨rfl,H'⟩)
def GB (x:Nat) (f:Fl):Nat:=x / 2 ^ f.1 % 2 ^ f.2
theorem SB [Q4] (x:Nat) (Ni:x < 18446744073709551616) (v:Value) (fs:List Fl) (BG:CF fs) (hl:fs.length≤1000) {w:World} {fr:List Q2} (H:Q0 w (FL v fs::fr)) :
  Calls Tryz.prog 145 #[.int .u64 x,v] w (ret fun r w'=>∃ u,r = .tuple #[u,.int .i64 0]∧Q0 w' (UL u (fs.map (GB x))::FL v fs::fr)):=by
 obtain⟨a,c,rfl⟩:=QI H (Nf fs) (by decide);refine QQ Tryz.func145 rfl (by kernel_rfl) ?_;refine Mc H ?_;refine Jc rfl rfl (fH _ fs BG (by omega) H) ?_;rintro v w ⟨rfl,H⟩;refine YT H ?_;refine Ey H ?_;refine Qp (fun ms σ w n=>ms=[]∧∃ (i:Nat) (g:Value),i≤fs.length∧n=fs.length - i∧σ 0 = .int .u64 x∧σ 6=g∧σ 12 = .slice a fs.length c∧σ 13 = .int .i64 fs.length∧σ 14 = .int .i64 i∧Q0 w (UL g ((fs.take i).map (GB x))::FL (.slice a fs.length c) fs::fr)) (m:=fs.length) ⟨rfl,0,_,by omega,rfl,rfl,rfl,rfl,rfl,rfl,GK H⟩ ?_;rintro ms σ w n ⟨rfl,i,g,hi,rfl,g0,g6,g12,g13,g14,H⟩;obtain⟨ag,cg,rfl⟩:=QI H (GA _) (by decide);rw[Q1 g0,Q1 g6,Q1 g12,Q1 g13,Q1 g14];refine J7 H ?_;refine Qk rfl (fun h=>QE ?_) (fun h=>Qu ?_)
 ·have Q6:i < fs.length:=by omega
  have hx:=getElem?_eq_getElem Q6;generalize fs[i]=f at hx;have hf:=BG.at hx;have Di:=I9 (a:=f.1) (wd:=f.2) hf.2;have SC:f.1 < 64:=by have:=hf.1;have:=hf.2;omega
  have Y4:W4 .u64 (ZP .and .u64 (x:Int) (Zj f.1 f.2:Nat)) (f.1:Int)=(GB x f:Nat):=by
   rw[MN Ni Di,I8 SC rfl,oV];rfl
  replace H:=Js [1,0] 0 H;obtain⟨b,s,rfl,H,QU⟩:=VY H (by omega);refine Z8 H ?_;refine Jd ?_;refine Q5 rfl (Vy H rfl (SR hx) rfl ?_);refine VO H ?_;intro b8 w H;refine J5 H ?_;intro w H;refine J2 H ?_;replace H:=QU _ _ H.swap;replace H:=Js [2,1,0] 0 H;refine J1 H ?_;intro w H;refine DB H ?_;refine Vz 2 [3,8,9] H rfl (Q8.none rfl) rfl (by repeat first|exact .nil _|apply QY.cons rfl) (by kernel_rfl) ?_;refine Jf 5 ?_;refine Jl 6 [8,9] H ?_;refine Jo 3 H ?_;refine Jk rfl rfl (Nh f hf H) ?_;rintro v w ⟨rfl,H⟩;refine XF (v := .int .u64 (ZP .and .u64 (x:Int) (Zj f.1 f.2:Nat))) 4 rfl (Q8.none rfl) rfl (by kernel_rfl) ?_
  refine XF (v := .int .u64 (W4 .u64 (ZP .and .u64 (x:Int) (Zj f.1 f.2:Nat)) (f.1:Int))) 7 rfl (Q8.none rfl) (by
   show (if (f.1:Int) < 0 then none else some _)=_;rw[if_neg (by omega)]) (by kernel_rfl) ?_
  rw[Y4];refine Jo 8 H ?_;refine DC H ?_;intro b26 w H;replace H:=Js [1,0,1] 1 H;refine Jo 9 H ?_;refine ZY H rfl rfl (by repeat first|exact .nil _|apply QY.cons rfl) rfl (by decide) (by rw[GA,length_map,length_take];simp only[length_cons,length_nil];omega) rfl rfl ?_;intro v27 w H;obtain⟨a27,m27,c27,rfl⟩:=VZ H;refine Ja 10 ?_;refine Jx H ?_;refine J3 H ?_;replace H:=Js [0,1] 1 H;refine⟨_,⟨rfl,i+1,_,Q6,rfl,rfl,rfl,rfl,rfl,Qg (by omega),?_⟩,by omega⟩
  have ht:(fs.take (i+1)).map (GB x)=(fs.take i).map (GB x)++[GB x f]:=by
   rw[take_add_one,hx,map_append];rfl
  rw[ht];show Q0 w (QF _ 1 _ (Qj ((fs.take i).map (GB x)++[GB x f]))::_);rw[p7];exact H
 ·have V0:i=fs.length:=by omega
  subst V0;rw[take_length] at H;refine Vj H ?_;exact Q3 (Z2 (vs:=[.slice ag (List.map (GB x) fs).length cg,.int .i64 0]) _ (.inr rfl) H (by rw[take_length];rfl) fun w' H'=>⟨_,rfl,H'⟩)
theorem fJ:∀ (f x:Nat),Lib.bitLenAux f x≤f
 | 0,_=>Nat.le_refl _
 | f+1,x=>by
  unfold Lib.bitLenAux;split
  ·omega
  ·have:=fJ f (x / 2);omega
theorem pQ {x k:Nat} (h:x < 2 ^ k) (hk:k≤64):Lib.bitLen x≤k:=by
 unfold Lib.bitLen;rw[Lib.bitLenAux_fuel k x h 64 hk];exact fJ k x
theorem pV [Q4] (x:Nat) (hx:x < 18446744073709551616) {w:World} {fr:List Q2} (H:Q0 w fr):Calls Tryz.prog 197 #[.int .u64 x] w (ret fun v w'=>v = .int .i64 (Lib.bitLen x)∧Q0 w' fr):=by
 refine(Any.bits_Len64 Tryz.laysLen (x:Int) w (by omega) (by omega)).mono ?_;rintro e w' ⟨rfl,rfl⟩;exact⟨by rw[Int.toNat_natCast],H⟩
theorem Nj {k:Nat} (h:k≤64):2 ^ k≤18446744073709551616:=Nat.le_trans (Nat.pow_le_pow_right (by decide) h) (by decide)
theorem pY [Q4] (x:Nat) (f:Fl) (y:Nat) (hf:CE f) (hx:x < 2 ^ f.1) (hy:y < 2 ^ f.2) {w:World} {fr:List Q2} (H:Q0 w fr) :
  Calls Tryz.prog 247 #[.int .u64 x,fv f,.int .u64 y] w (ret fun v w'=>v = .tuple #[.int .u64 ((x+y*2 ^ f.1:Nat):Int),.int .i64 0]∧Q0 w' fr):=by
 have h1:=hf.1;have h2:=hf.2;have Ni:x < 18446744073709551616:=Nat.lt_of_lt_of_le hx (Nj (by omega));have pZ:y < 18446744073709551616:=Nat.lt_of_lt_of_le hy (Nj (by omega));have Di:=I9 (a:=f.1) (wd:=f.2) hf.2;have CI:=pQ hy (by omega);have e1:ZP .andNot .u64 (x:Int) (Zj f.1 f.2:Nat)=(x:Nat):=by rw[oQ Ni Di,oY hx hf.2]
 have Zr:y*2 ^ f.1 < 18446744073709551616:=by
  have:y*2 ^ f.1 < 2 ^ f.2*2 ^ f.1:=(Nat.mul_lt_mul_right (Nat.two_pow_pos _)).2 hy;rw[← Nat.pow_add] at this;exact Nat.lt_of_lt_of_le this (Nj (by omega))
 have e2:Wo .u64 (y:Int) (f.1:Int)=((y*2 ^ f.1:Nat):Int):=by rw[Ps (by omega),Nat.mod_eq_of_lt Zr]
 have e3:ZP .or .u64 (x:Int) ((y*2 ^ f.1:Nat):Int)=((x+y*2 ^ f.1:Nat):Int):=by rw[eg Ni Zr,ez hx]
 obtain⟨a,d⟩:=f;dsimp only at h1 h2 hx hy Di CI e1 e2 e3 Zr;refine QQ Tryz.func247 rfl (by kernel_rfl) ?_;refine J8 H ?_;intro b4 w H;refine Av H ?_;refine Qt (fun ms σ w=>ms=[]∧σ 0 = .int .u64 x∧σ 2 = .int .u64 y∧σ 4=pp b4∧Q0 w (pts b4 (row 307 [.int .i64 a,.int .i64 d])::fr)) ?_ ?_
 ·refine Qd ?_;refine XL H ?_;refine Jc rfl rfl (fF (a,d) hf H) ?_;rintro v w ⟨rfl,H⟩;refine Aw H ?_;refine J1 H ?_;intro w H;refine Ja 0 ?_;refine Jf 2 ?_;refine Jl 3 [] H ?_;refine Jo 1 H ?_;refine Jk rfl rfl (pV y pZ H) ?_;rintro v w ⟨rfl,H⟩;refine Ja 4 ?_;rw[show decide (((Lib.bitLen y:Nat):Int) > (d:Int))=false from decide_eq_false (by omega)];refine Ja 5 ?_;refine Ax H ?_;exact⟨rfl,rfl,rfl,rfl,rfl,H⟩
 ·rintro ms σ w ⟨rfl,g0,g2,g4,H⟩;rw[Q1 g0,Q1 g2,Q1 g4];refine J1 H ?_;intro w H;refine Ja 0 ?_;refine Vz 1 [2] H rfl (Q8.none rfl) rfl (by repeat first|exact .nil _|apply QY.cons rfl) (by kernel_rfl) ?_;refine Ja 4 ?_;refine Jf 5 ?_;refine Jl 6 [] H ?_
  refine XF (v := .int .u64 (Wo .u64 (y:Int) (a:Int))) 7 rfl (Q8.none rfl) (by
   show (if (a:Int) < 0 then none else some _)=_;rw[if_neg (by omega)]) (by kernel_rfl) ?_
  rw[e2];refine Jo 2 H ?_;refine Jk rfl rfl (Nh (a,d) hf H) ?_;rintro v w ⟨rfl,H⟩;refine XF (v := .int .u64 (ZP .andNot .u64 (x:Int) (Zj a d:Nat))) 3 rfl (Q8.none rfl) rfl (by kernel_rfl) ?_;rw[e1];refine XF (v := .int .u64 (ZP .or .u64 (x:Int) ((y*2 ^ a:Nat):Int))) 8 rfl (Q8.none rfl) rfl (by kernel_rfl) ?_;rw[e3];refine CQ H ?_;refine Jx H ?_;exact Q3 (Jy H.drop rfl fun w' H'=>⟨rfl,H'⟩)
def X8:List Fl→List Nat→Nat
 | f::fs,x::xs=>x*2 ^ f.1+X8 fs xs
 | _,_=>0
theorem fL:∀ (fs:List Fl) (xs:List Nat) (f:Fl) (x:Nat),fs.length=xs.length→X8 (fs++[f]) (xs++[x])=X8 fs xs+x*2 ^ f.1
 | [],[],f,x,_=>by simp[X8]
 | [],_::_,_,_,h=>by simp at h
 | _::_,[],_,_,h=>by simp at h
 | g::fs,y::xs,f,x,h=>by
  have ih:=fL fs xs f x (by simpa using h);show y*2 ^ g.1+X8 (fs++[f]) (xs++[x])=y*2 ^ g.1+X8 fs xs+x*2 ^ f.1;rw[ih];omega
theorem Nk [Q4] (vf vx:Value) (fs:List Fl) (xs:List Nat) (BG:CF fs) (hl:fs.length≤1000) (Qw:fs.length=xs.length) (hb:∀ (i:Nat) (f:Fl) (x:Nat),fs[i]? = some f→xs[i]? = some x→x < 2 ^ f.2) {w:World} {fr:List Q2} (H:Q0 w (FL vf fs::UL vx xs::fr)) :
  Calls Tryz.prog 206 #[vf,vx] w (ret fun v w'=>v = .tuple #[.int .u64 (X8 fs xs),.int .i64 0]∧Q0 w' (FL vf fs::UL vx xs::fr)):=by
 obtain⟨a,c,rfl⟩:=QI H (Nf fs) (by decide);obtain⟨a1,c1,rfl⟩:=QI H.drop (GA xs) (by decide);refine QQ Tryz.func206 rfl (by kernel_rfl) ?_;refine Mc H ?_;refine IK H ?_;refine IK H ?_;rw[show ((fs.length:Int) != (xs.length:Int))=false by rw[Qw];simp];refine Ez H ?_;refine Qe rfl rfl rfl (V3 (a:=[]) (b:=[]) rfl rfl (call (fH _ fs BG (by omega) H) ?_));rintro v w ⟨rfl,H⟩;refine WQ H ?_;refine Ey H ?_;refine Qp (fun ms σ w n=>ms=[]∧∃ i:Nat,i≤fs.length∧n=fs.length - i∧(∀ f∈fs.drop i,X8 (fs.take i) (xs.take i) < 2 ^ f.1)∧σ 1 = .slice a1 xs.length c1∧σ 6 = .int .u64 (X8 (fs.take i) (xs.take i))∧σ 20 = .slice a fs.length c∧σ 21 = .int .i64 fs.length∧σ 22 = .int .i64 i∧Q0 w (FL (.slice a fs.length c) fs::UL (.slice a1 xs.length c1) xs::fr)) (m:=fs.length) ⟨rfl,0,by omega,rfl,fun f _=>by simp only[take_zero,X8];exact Nat.two_pow_pos _,rfl,rfl,rfl,rfl,rfl,H⟩ ?_;rintro ms σ w n ⟨rfl,i,hi,rfl,hW,g1,g6,g20,g21,g22,H⟩;rw[Q1 g1,Q1 g6,Q1 g20,Q1 g21,Q1 g22];refine J7 H ?_;refine Qk rfl (fun h=>QE ?_) (fun h=>Qu ?_)
 ·have Q6:i < fs.length:=by omega
  have hx:=getElem?_eq_getElem Q6;have hy:=getElem?_eq_getElem (l:=xs) (i:=i) (by omega);have G5:fs.drop i=fs[i]::fs.drop (i+1):=drop_eq_getElem_cons Q6;have CH:=BG.2;rw[← take_append_drop i fs,G5] at CH;have JV:=(pairwise_cons.1 (pairwise_append.1 CH).2.1).1;rw[G5] at hW;generalize fs[i]=f at hx JV hW;generalize xs[i]'(by omega)=y at hy;have hf:=BG.at hx;have pG:=hW f (by simp);have WA:=hb i f y hx hy
  have fM:X8 (fs.take (i+1)) (xs.take (i+1))=X8 (fs.take i) (xs.take i)+y*2 ^ f.1:=by
   rw[take_add_one,take_add_one,hx,hy];exact fL _ _ f y (by rw[length_take,length_take,Qw])
  obtain⟨b,s,rfl,H,QU⟩:=VY H (by omega);obtain⟨b2,s2,rfl,H,pU⟩:=VY H.swap (by omega);refine DD H ?_;refine Jd ?_;refine Q5 rfl (Vy H rfl (SR hx) rfl ?_);refine VO H ?_;intro b8 w H;refine F0 H ?_;intro w H;refine J2 H ?_;refine J7 H ?_;refine Wu H mixed ?_;intro w H;refine Ja 0 ?_;refine Vz 1 [6] H rfl (Q8.none rfl) rfl (by repeat first|exact .nil _|apply QY.cons rfl) (by kernel_rfl) ?_;refine Ja 2 ?_;refine Ja 3 ?_;refine Ji 4 ?_;refine Y2 5 [6] H rfl (Q8.none rfl) rfl (Ng hy) (by kernel_rfl) ?_
  refine Jo 6 H ?_;refine Jk rfl rfl (pY _ f y hf pG WA H) ?_;rintro v w ⟨rfl,H⟩;refine KJ H ?_;refine KL H ?_;refine J3 H ?_;replace H:=Js [1,1] 1 H;replace H:=pU _ _ H;replace H:=QU _ _ H.swap;refine⟨_,⟨rfl,i+1,Q6,rfl,fun g hg=>?_,rfl,?_,rfl,rfl,Qg (by omega),H⟩,by omega⟩
  ·have h1:=JV g hg;rw[fM]
   have h2:X8 (fs.take i) (xs.take i)+y*2 ^ f.1 < 2 ^ (f.1+f.2):=by
    rw[Nat.pow_add];have:(y+1)*2 ^ f.1≤2 ^ f.2*2 ^ f.1:=Nat.mul_le_mul_right _ WA;rw[Nat.add_mul,Nat.one_mul] at this;rw[Nat.mul_comm (2 ^ f.1)];omega
   exact Nat.lt_of_lt_of_le h2 (Nat.pow_le_pow_right (by decide) h1)
  ·rw[fM];rfl
 ·have V0:i=fs.length:=by omega
  subst V0;refine Vj H ?_;refine Q3 (Jy H rfl fun w' H'=>⟨?_,H'⟩);have e:xs.take fs.length=xs:=by rw[Qw,take_length]
  rw[take_length,e];rfl
end Go.Proofs.YtmjdnljneifpcaaGreatDoor
