/- Cells: what is proved on the way: every input of the statement; no condition. Texts joined: Dic FldA FldB FldC. -/
import Derived.Test.YtmjdnljneifpcaaGreatDoorBea
import Derived.Test.YtmjdnljneifpcaaGreatDoorBeb
import Derived.Test.YtmjdnljneifpcaaGreatDoorBec
import Derived.Test.YtmjdnljneifpcaaGreatDoorBed
set_option linter.unusedVariables false
set_option linter.unusedSimpArgs false
set_option linter.unusedSectionVars false
namespace Go.SL
open List
section
variable [Q4] {P:Program} {n:Nat} {r:Option Nat} {ops:Array Oper} {Q:Z5} {ms:List Nat} {σ:QC} {w:World} {rest:List Oper} {o:Oper} {l:List Q2} {ivs:List (List Nat×(World→Prop))} {T:QC→World→Prop} {f:Nat} {L:Array Bool} {t u:TypeId} {p:String} {af:Array Edge} {g:Option (Nat×Bool)} {d:Option Tmp} {x:Operand} {G K:Prop}
theorem Jo (j:Nat) (H:Q0 w l) (k:St P n r o σ w (Any P n r ops ivs T f (L.setIfInBounds j true))) (hi:ops[j]? = some o:=by rfl) (hr:Region.ready .any ops L=[j]:=by kernel_rfl)
  (hI:Q0 w l→YR ivs L w:=by intro H;repeat first|exact YR.nil|refine YR.cons (.inr (Q0.at H)) ?_|refine YR.cons (.inr (Q0.mp H)) ?_|refine YR.cons (.inl (by kernel_rfl)) ?_)
  (hg:Q9 ops σ o true:=by first|exact Q9.none rfl|exact Q9.of rfl rfl rfl):Any P n r ops ivs T (f+1) L σ w:=HS j hi hr (hI H) hg k
theorem Ja {op:Op} {v:Value} (i:Nat) (k:Any P n r ops ivs T f (L.setIfInBounds i true) (put σ d v) w) (hi:ops[i]? = some ⟨d,op,u,p,af,g⟩:=by rfl) (hg:Q9 ops σ ⟨d,op,u,p,af,g⟩ true:=by first|exact Q9.none rfl|exact Q9.of rfl rfl rfl) (hv:pv σ op=some v:=by rfl) (hs:ZB n ops (ivs.map (·.1)) L i []=true:=by kernel_rfl):Any P n r ops ivs T (f+1) L σ w:=XW i hi hg hv hs k
theorem Jf {s:TypeId} {fi off b i₀:Nat} (i:Nat) (k:Any P n r ops ivs T f (L.setIfInBounds i true) (put σ d (.pointer (some ⟨b,i₀+off,none⟩))) w) (hi:ops[i]? = some ⟨d,.fieldAddr s x fi,u,p,af,g⟩:=by rfl) (hg:Q9 ops σ ⟨d,.fieldAddr s x fi,u,p,af,g⟩ true:=by first|exact Q9.none rfl|exact Q9.of rfl rfl rfl) [hf:Qf P s fi off] (hx:ev σ x = .pointer (some ⟨b,i₀,none⟩):=by rfl) (hs:ZB n ops (ivs.map (·.1)) L i []=true:=by kernel_rfl):Any P n r ops ivs T (f+1) L σ w:=nI i hi hg hx hs k
theorem Jl {b i₀ E:Nat} {fz:Nat×Nat} {c:List Value} {v:Value} (i:Nat) (D:List Nat) (H:Q0 w l) (k:Any P n r ops ((D,fun w=>w.heap[b]? = some (.cells c.toArray E fz))::ivs) T f (L.setIfInBounds i true) (put σ d v) w) (hi:ops[i]? = some ⟨d,.load t x,u,p,af,g⟩:=by rfl) (hg:Q9 ops σ ⟨d,.load t x,u,p,af,g⟩ true:=by first|exact Q9.none rfl|exact Q9.of rfl rfl rfl) (hx:ev σ x = .pointer (some ⟨b,i₀,none⟩):=by rfl) (h1:T1 P t:=by infer_instance) (ha:At b (.cells c.toArray E fz) l:=by infer_instance) (hv:c[i₀]? = some v:=by rfl) (hs:ZB n ops (ivs.map (·.1)) L i D=true:=by kernel_rfl):Any P n r ops ivs T (f+1) L σ w:=YZ i D H hi hg hx hv hs k
theorem Jn {op:Op} (i:Nat) (k:Any P n r ops ivs T f (L.setIfInBounds i true) (put σ d undef) w) (hi:ops[i]? = some ⟨d,op,u,p,af,g⟩:=by rfl) (hg:Q9 ops σ ⟨d,op,u,p,af,g⟩ false:=by first|exact Q9.of rfl rfl rfl|exact Q9.skip rfl rfl) (hf:∀ c,op ≠ .defer c:=by intro c e;cases e) (hs:ZB n ops (ivs.map (·.1)) L i []=true:=by kernel_rfl):Any P n r ops ivs T (f+1) L σ w:=nU i hi hg hf hs k
theorem Ji {e size bytes b o len cap:Nat} {q:IntKind} {i:Int} {ix:Operand} (j:Nat) (k:Any P n r ops ivs T f (L.setIfInBounds j true) (put σ d (.pointer (some ⟨b,o+i.toNat*size,none⟩))) w) (hj:ops[j]? = some ⟨d,.indexAddr t x ix,u,p,af,g⟩:=by rfl) (hg:Q9 ops σ ⟨d,.indexAddr t x ix,u,p,af,g⟩ true:=by first|exact Q9.none rfl|exact Q9.of rfl rfl rfl) [hT:Vv P t e size bytes] (hx:ev σ x = .slice (some ⟨b,o,none⟩) len cap:=by rfl) (hi:ev σ ix = .int q i:=by rfl) (h0:0≤i:=by omega) (h1:i < len:=by omega) (hs:ZB n ops (ivs.map (·.1)) L j []=true:=by kernel_rfl):Any P n r ops ivs T (f+1) L σ w:=Bn j hj hg hx hi h0 h1 hs k
theorem Jd {e size bytes b o len cap:Nat} {q:IntKind} {i:Int} {ix:Operand} (k:Lp P n r ops Q rest ms (put σ d (.pointer (some ⟨b,o+i.toNat*size,none⟩))) w) [hT:Vv P t e size bytes] (hx:ev σ x = .slice (some ⟨b,o,none⟩) len cap:=by rfl) (hi:ev σ ix = .int q i:=by rfl) (h0:0≤i:=by omega) (h1:i < len:=by omega) (hd:Qs n d=true:=by rfl):Lp P n r ops Q (⟨d,.indexAddr t x ix,u,p,af,none⟩::rest) ms σ w:=Q5 rfl (Ut hx hi h0 h1 hd k)
theorem Jv {op:Op} {v:Value} (k:Lp P n r ops Q rest ms (put σ d v) w) (h:pv σ op=some v:=by rfl) (hd:Qs n d=true:=by rfl):Lp P n r ops Q (⟨d,op,u,p,af,none⟩::rest) ms σ w:=Kh h hd k
theorem Jx (H:Q0 w l) (k:T σ w) (hr:Region.ready .any ops L=[]:=by kernel_rfl) (hI:Q0 w l→YR ivs L w:=by intro H;repeat first|exact YR.nil|refine YR.cons (.inr (Q0.at H)) ?_|refine YR.cons (.inr (Q0.mp H)) ?_|refine YR.cons (.inl (by kernel_rfl)) ?_):Any P n r ops ivs T f L σ w:=PL hr (hI H) k
theorem Jw {o o':Oper} (i j:Nat) (H:Q0 w l) (hi:ops[i]? = some o) (hj:ops[j]? = some o') (k:St P n r o σ w (Any P n r ops ivs T f (L.setIfInBounds i true))) (k':St P n r o' σ w (Any P n r ops ivs T f (L.setIfInBounds j true))) (hr:Region.ready .any ops L=[i,j]:=by kernel_rfl) (hI:Q0 w l→YR ivs L w:=by intro H;repeat first|exact YR.nil|refine YR.cons (.inr (Q0.at H)) ?_|refine YR.cons (.inr (Q0.mp H)) ?_|refine YR.cons (.inl (by kernel_rfl)) ?_) (hg:Q9 ops σ o true:=by first|exact Q9.none rfl|exact Q9.of rfl rfl rfl) (Wn:Q9 ops σ o' true:=by first|exact Q9.none rfl|exact Q9.of rfl rfl rfl):Any P n r ops ivs T (f+1) L σ w:=ns i j hi hj hr (hI H) hg Wn k k'
theorem Jk {f:FuncId} {K:QC→World→Prop} {xs:List Operand} {ts:Array TypeId} {R:Value→World→Prop} (hx:ev σ x = .func (.func f) #[] #[]) [hb:QZ P f] (hd:Qs n d=true) (s:Calls P f (xs.map (ev σ)).toArray w (ret R)) (k:∀ v w',R v w'→K (put σ d v) w') :
  St P n r ⟨d,.call { callee := .value x,args:=xs.toArray,argTypes:=ts },u,p,af,g⟩ σ w K:=V1 (a:=[]) (b:=[]) hx hd (by rw[nil_append,append_nil];exact call s k)
theorem Jc {f:FuncId} {xs:List Operand} {ts:Array TypeId} {R:Value→World→Prop} (hx:ev σ x = .func (.func f) #[] #[]) [hb:QZ P f] (hd:Qs n d=true) (s:Calls P f (xs.map (ev σ)).toArray w (ret R)) (k:∀ v w',R v w'→Lp P n r ops Q rest ms (put σ d v) w') :
  Lp P n r ops Q (⟨d,.call { callee := .value x,args:=xs.toArray,argTypes:=ts },u,p,af,none⟩::rest) ms σ w:=Q5 rfl (Jk hx hd s k)
theorem Js {l':List Q2} (is:List Nat) (m:Nat) (H:Q0 w l) (h:Q0 w (sel is m l)→Q0 w l':=by intro H;dsimp only[SL.sel,SL.pull,List.drop] at H;exact H):Q0 w l':=h (H.sel is m)
theorem Jy {fn:Func} {R:Value→World→Prop} {e:Exit} {vs:List Value} (H:Q0 w l) (h:Rt σ fn.results.toList=some vs) (hr:∀ w',Q0 w' l→R (AM vs) w') (he:e = .normal∨e = .ret:=by first|exact .inr rfl|exact .inl rfl):Bi P n fn R e [] σ w:=Z2 _ he H h hr
theorem Jz {fn:Func} {R:Value→World→Prop} {e:Exit} {vs:List Value} (H:Q0 w l) (h:∀ w',Q0 w' l→XC P σ w' fn.results.toList vs) (hr:∀ w',Q0 w' l→R (AM vs) w') (he:e = .normal∨e = .ret:=by first|exact .inr rfl|exact .inl rfl):Bi P n fn R e [] σ w:=Hl _ he H h hr
theorem J0 (H:Q0 w l) (k:K) (h:Q0 w l→K→G:=by
 intro H k;refine Jv ?_;refine QU ?_;exact k):G:=h H k
theorem J1 (H:Q0 w l) (k:K) (h:Q0 w l→K→G:=by
 intro H k
 repeat refine Q7 ?_
 refine Ae H mixed ?_;exact k):G:=h H k
theorem J2 (H:Q0 w l) (k:K) (h:Q0 w l→K→G:=by
 intro H k;refine QU ?_;exact k):G:=h H k
theorem J3 (H:Q0 w l) (k:K) (h:Q0 w l→K→G:=by
 intro H k
 repeat refine Q7 ?_
 refine QG ?_;refine Jv ?_;refine Jv ?_;refine QU ?_;exact k):G:=h H k
theorem J4 (H:Q0 w l) (k:K) (h:Q0 w l→K→G:=by
 intro H k;refine Jv ?_;refine Jv ?_;refine QU ?_;exact k):G:=h H k
theorem J5 (H:Q0 w l) (k:K) (h:Q0 w l→K→G:=by
 intro H k;refine Q5 rfl (U0 H rfl rfl inferInstance rfl rfl (Nat.le_of_ble_eq_true rfl) rfl ?_);exact k):G:=h H k
theorem J6 (H:Q0 w l) (k:K) (h:Q0 w l→K→G:=by
 intro H k
 repeat refine Q7 ?_
 exact k):G:=h H k
theorem J7 (H:Q0 w l) (k:K) (h:Q0 w l→K→G:=by
 intro H k
 repeat refine Q7 ?_
 refine QG ?_;refine Jv ?_;refine QU ?_
 repeat refine Q7 ?_
 exact k):G:=h H k
theorem J8 (H:Q0 w l) (k:K) (h:Q0 w l→K→G:=by
 intro H k
 repeat refine Q7 ?_
 refine QG ?_;refine Q5 rfl (ES H rfl rfl ?_);exact k):G:=h H k
theorem J9 (H:Q0 w l) (k:K) (h:Q0 w l→K→G:=by
 intro H k
 repeat refine Q7 ?_
 refine QG ?_;refine Jv ?_;refine Jv ?_;exact k):G:=h H k
theorem VM (H:Q0 w l) (k:K) (h:Q0 w l→K→G:=by
 intro H k
 repeat refine Q7 ?_
 refine QG ?_;refine Jv ?_;refine Jv ?_;refine Q5 rfl (VW rfl rfl ?_);refine Q5 rfl (QA H rfl rfl rfl ?_);refine Jv ?_;exact k):G:=h H k
theorem VS (H:Q0 w l) (k:K) (h:Q0 w l→K→G:=by
 intro H k;refine Q5 rfl (YH H rfl ?_);exact k):G:=h H k
theorem Vf (H:Q0 w l) (k:K) (h:Q0 w l→K→G:=by
 intro H k
 repeat refine Q7 ?_
 refine Vu rfl (QF ?_);exact k):G:=h H k
theorem Vj (H:Q0 w l) (k:K) (h:Q0 w l→K→G:=by
 intro H k
 repeat refine Q7 ?_
 refine QG ?_;refine Jv ?_;refine Jv ?_;refine Jv ?_;refine QU ?_;exact k):G:=h H k
theorem Vl (H:Q0 w l) (k:K) (h:Q0 w l→K→G:=by
 intro H k
 repeat refine Q7 ?_
 refine QG ?_;refine Jv ?_;refine QU ?_;exact k):G:=h H k
theorem Vr (H:Q0 w l) (k:K) (h:Q0 w l→K→G:=by
 intro H k
 repeat refine Q7 ?_
 refine YY rfl ?_;exact k):G:=h H k
theorem Y7 (H:Q0 w l) (k:K) (h:Q0 w l→K→G:=by
 intro H k
 repeat refine Q7 ?_
 refine QG ?_;refine Jv ?_;refine Jv ?_;refine Jv ?_;exact k):G:=h H k
theorem YA (H:Q0 w l) (k:K) (h:Q0 w l→K→G:=by
 intro H k;refine Jv ?_;refine Jv ?_;refine Jv ?_;refine Q5 rfl (YH H rfl ?_);exact k):G:=h H k
theorem YM (H:Q0 w l) (k:K) (h:Q0 w l→K→G:=by
 intro H k
 repeat refine Q7 ?_
 refine QG ?_;refine Q5 rfl (YH H rfl ?_);exact k):G:=h H k
theorem YN (H:Q0 w l) (k:K) (h:Q0 w l→K→G:=by
 intro H k;refine Ja 0 ?_;refine Ja 1 ?_;refine Jf 2 ?_;exact k):G:=h H k
theorem YS (H:Q0 w l) (k:K) (h:Q0 w l→K→G:=by
 intro H k;refine Jv ?_;refine QU ?_
 repeat refine Q7 ?_
 refine Vu rfl (QF ?_);exact k):G:=h H k
theorem Yy (H:Q0 w l) (k:K) (h:Q0 w l→K→G:=by
 intro H k;refine Jv ?_;refine QU ?_
 repeat refine Q7 ?_
 exact k):G:=h H k
theorem Z4 (H:Q0 w l) (k:K) (h:Q0 w l→K→G:=by
 intro H k
 repeat refine Q7 ?_
 refine QG ?_;refine Jv ?_;exact k):G:=h H k
theorem Z7 (H:Q0 w l) (k:K) (h:Q0 w l→K→G:=by
 intro H k
 repeat refine Q7 ?_
 refine Qe ?_
 repeat refine Q7 ?_
 refine QG ?_;exact k):G:=h H k
theorem ZX (H:Q0 w l) (k:K) (h:Q0 w l→K→G:=by
 intro H k;refine Jv ?_;refine QU ?_
 repeat refine Q7 ?_
 refine QG ?_;refine Jv ?_;refine Jv ?_;refine QU ?_;exact k):G:=h H k
theorem ZD (H:Q0 w l) (k:K) (h:Q0 w l→K→G:=by
 intro H k
 repeat refine Q7 ?_
 refine YY rfl ?_
 repeat refine Q7 ?_
 refine QG ?_;refine Jv ?_;refine QU ?_;exact k):G:=h H k
theorem ZS (H:Q0 w l) (k:K) (h:Q0 w l→K→G:=by
 intro H k;refine Jv ?_;refine Jv ?_;exact k):G:=h H k
theorem ZT (H:Q0 w l) (k:K) (h:Q0 w l→K→G:=by
 intro H k;refine Jv ?_;refine QU ?_
 repeat refine Q7 ?_
 refine QG ?_;refine Jv ?_;refine Jv ?_;refine QU ?_
 repeat refine Q7 ?_
 refine Vu rfl (QF ?_);exact k):G:=h H k
theorem Zm (H:Q0 w l) (k:K) (h:Q0 w l→K→G:=by
 intro H k;refine VG rfl rfl rfl rfl ?_;exact k):G:=h H k
theorem G1 (H:Q0 w l) (k:K) (h:Q0 w l→K→G:=by
 intro H k
 repeat refine Q7 ?_
 refine QG ?_;refine Jv ?_;refine Jv ?_;refine Q5 rfl (VW rfl rfl ?_);refine Q5 rfl (QA H rfl rfl rfl ?_);exact k):G:=h H k
theorem G2 (H:Q0 w l) (k:K) (h:Q0 w l→K→G:=by
 intro H k
 repeat refine Q7 ?_
 refine YY rfl ?_
 repeat refine Q7 ?_
 refine QG ?_;refine Jv ?_;refine Jv ?_;refine QU ?_;exact k):G:=h H k
theorem GV (H:Q0 w l) (k:K) (h:Q0 w l→K→G:=by
 intro H k
 repeat refine Q7 ?_
 refine QG ?_;refine Q5 rfl (eV H rfl rfl rfl ?_);exact k):G:=h H k
theorem GL (H:Q0 w l) (k:K) (h:Q0 w l→K→G:=by
 intro H k;refine VG rfl rfl rfl rfl ?_;refine VG rfl rfl rfl rfl ?_;exact k):G:=h H k
theorem Gm (H:Q0 w l) (k:K) (h:Q0 w l→K→G:=by
 intro H k;refine Q5 rfl (VW rfl rfl ?_);refine Q5 rfl (QA H rfl rfl rfl ?_);exact k):G:=h H k
theorem U2 (H:Q0 w l) (k:K) (h:Q0 w l→K→G:=by
 intro H k;refine Jv ?_;refine Jv ?_;refine Jv ?_;refine Jv ?_;refine Jv ?_;refine QU ?_;exact k):G:=h H k
theorem U3 (H:Q0 w l) (k:K) (h:Q0 w l→K→G:=by
 intro H k;refine Jv ?_;refine Jv ?_;refine V5 rfl rfl rfl ?_;refine V5 rfl rfl rfl ?_;refine V5 rfl rfl rfl ?_;refine V5 rfl rfl rfl ?_;exact k):G:=h H k
theorem UW (H:Q0 w l) (k:K) (h:Q0 w l→K→G:=by
 intro H k
 repeat refine Q7 ?_
 refine Vu rfl ?_
 repeat refine Q7 ?_
 refine QG ?_;refine Jv ?_;refine Jv ?_;refine QU ?_;exact k):G:=h H k
theorem UA (H:Q0 w l) (k:K) (h:Q0 w l→K→G:=by
 intro H k;refine Jv ?_;refine Jv ?_;refine Jv ?_;refine Jv ?_;refine Jv ?_;refine QU ?_
 repeat refine Q7 ?_
 refine QG ?_;refine Jv ?_;refine Jv ?_;refine QU ?_
 repeat refine Q7 ?_
 refine Vu rfl (QF ?_);exact k):G:=h H k
theorem UB (H:Q0 w l) (k:K) (h:Q0 w l→K→G:=by
 intro H k
 repeat refine Q7 ?_
 refine QG ?_;refine Q5 rfl (QA H rfl rfl rfl ?_);exact k):G:=h H k
theorem Uv (H:Q0 w l) (k:K) (h:Q0 w l→K→G:=by
 intro H k
 repeat refine Q7 ?_
 refine QG ?_;exact k):G:=h H k
theorem Uw (H:Q0 w l) (k:K) (h:Q0 w l→K→G:=by
 intro H k;refine Q5 rfl (Ad H rfl rfl rfl ?_);exact k):G:=h H k
theorem XD (H:Q0 w l) (k:K) (h:Q0 w l→K→G:=by
 intro H k
 repeat refine Q7 ?_
 refine QG ?_;refine Q5 rfl (Vz H rfl (by repeat first|exact .nil _|apply QY.cons rfl) rfl ?_);exact k):G:=h H k
theorem XE (H:Q0 w l) (k:K) (h:Q0 w l→K→G:=by
 intro H k
 repeat refine Q7 ?_
 refine Qe ?_;exact k):G:=h H k
theorem XF (H:Q0 w l) (k:K) (h:Q0 w l→K→G:=by
 intro H k
 repeat refine Q7 ?_
 refine QG ?_;refine Jv ?_;refine Jv ?_;refine Q5 rfl (VW rfl rfl ?_);refine Q5 rfl (QA H rfl rfl rfl ?_);refine Jv ?_;refine Jv ?_;exact k):G:=h H k
theorem XH (H:Q0 w l) (k:K) (h:Q0 w l→K→G:=by
 intro H k;refine Jv ?_;refine Q5 rfl (VW rfl rfl ?_);refine Q5 rfl (Zv H rfl rfl inferInstance rfl (Nat.le_of_ble_eq_true rfl) rfl ?_);exact k):G:=h H k
theorem XI (H:Q0 w l) (k:K) (h:Q0 w l→K→G:=by
 intro H k;refine Ja 11 ?_;refine Jx H ?_;exact k):G:=h H k
theorem XJ (H:Q0 w l) (k:K) (h:Q0 w l→K→G:=by
 intro H k
 repeat refine Q7 ?_
 refine QG ?_;refine Q5 rfl (QA H rfl rfl rfl ?_);refine Jv ?_;exact k):G:=h H k
theorem Xt (H:Q0 w l) (k:K) (h:Q0 w l→K→G:=by
 intro H k
 repeat refine Q7 ?_
 refine QG ?_;refine Jv ?_;refine Q5 rfl (Vz H rfl (by repeat first|exact .nil _|apply QY.cons rfl) rfl ?_);exact k):G:=h H k
theorem Xu (H:Q0 w l) (k:K) (h:Q0 w l→K→G:=by
 intro H k;refine QS rfl rfl rfl (VW rfl rfl ?_);refine QS rfl rfl rfl (QA H rfl rfl rfl ?_);refine VG rfl rfl rfl rfl ?_;exact k):G:=h H k
theorem KB (H:Q0 w l) (k:K) (h:Q0 w l→K→G:=by
 intro H k;refine Ja 7 ?_;refine Ja 8 ?_;refine Ja 9 ?_;refine Ja 10 ?_;refine Ja 11 ?_;refine Jx H ?_;exact k):G:=h H k
theorem KC (H:Q0 w l) (k:K) (h:Q0 w l→K→G:=by
 intro H k
 repeat refine Q7 ?_
 refine QG ?_;refine Jv ?_;refine Jv ?_;refine QU ?_
 repeat refine Q7 ?_
 refine Vu rfl (QF ?_);exact k):G:=h H k
theorem KD (H:Q0 w l) (k:K) (h:Q0 w l→K→G:=by
 intro H k;refine U0 H rfl rfl inferInstance rfl rfl (Nat.le_of_ble_eq_true rfl) rfl ?_;exact k):G:=h H k
theorem KE (H:Q0 w l) (k:K) (h:Q0 w l→K→G:=by
 intro H k;refine Zv H rfl rfl inferInstance rfl (Nat.le_of_ble_eq_true rfl) rfl ?_;exact k):G:=h H k
theorem KF (H:Q0 w l) (k:K) (h:Q0 w l→K→G:=by
 intro H k
 repeat refine Q7 ?_
 refine QG ?_;refine Jv ?_;refine Q5 rfl (Gk rfl rfl ?_);refine Jv ?_;refine QU ?_;exact k):G:=h H k
theorem KH (H:Q0 w l) (k:K) (h:Q0 w l→K→G:=by
 intro H k;refine Ja 12 ?_;refine Jx H ?_;exact k):G:=h H k
theorem Km (H:Q0 w l) (k:K) (h:Q0 w l→K→G:=by
 intro H k;refine Jo 11 H ?_;refine U0 H rfl rfl inferInstance rfl rfl (Nat.le_of_ble_eq_true rfl) rfl ?_;exact k):G:=h H k
theorem Kn (H:Q0 w l) (k:K) (h:Q0 w l→K→G:=by
 intro H k;refine Jv ?_;refine QU ?_
 repeat refine Q7 ?_
 refine YY rfl ?_
 repeat refine Q7 ?_
 refine QG ?_;refine Jv ?_;refine QU ?_;exact k):G:=h H k
theorem Ko (H:Q0 w l) (k:K) (h:Q0 w l→K→G:=by
 intro H k;refine Rx rfl rfl ?_;refine QU ?_;exact k):G:=h H k
theorem Kp (H:Q0 w l) (k:K) (h:Q0 w l→K→G:=by
 intro H k
 repeat refine Q7 ?_
 refine QG ?_;refine Q5 rfl (QA H rfl rfl rfl ?_);refine Jv ?_;refine Q5 rfl (VW rfl rfl ?_);refine Q5 rfl (QA H rfl rfl rfl ?_);refine Jv ?_;exact k):G:=h H k
theorem Ra (H:Q0 w l) (k:K) (h:Q0 w l→K→G:=by
 intro H k;refine QS rfl rfl rfl (VW rfl rfl ?_);refine QS rfl rfl rfl (QA H rfl rfl rfl ?_);exact k):G:=h H k
theorem KI (H:Q0 w l) (k:K) (h:Q0 w l→K→G:=by
 intro H k;refine Ja 4 ?_;refine Ja 5 ?_;exact k):G:=h H k
theorem Rb (H:Q0 w l) (k:K) (h:Q0 w l→K→G:=by
 intro H k;refine Jv ?_;refine VG rfl rfl rfl rfl ?_;refine VG rfl rfl rfl rfl ?_;exact k):G:=h H k
theorem Rc (H:Q0 w l) (k:K) (h:Q0 w l→K→G:=by
 intro H k;refine Q5 rfl (VW rfl rfl ?_);refine Q5 rfl (Zv H rfl rfl inferInstance rfl (Nat.le_of_ble_eq_true rfl) rfl ?_);exact k):G:=h H k
theorem Rd (H:Q0 w l) (k:K) (h:Q0 w l→K→G:=by
 intro H k;refine QU ?_
 repeat refine Q7 ?_
 refine QG ?_;refine Jv ?_;refine Jv ?_;refine QU ?_;exact k):G:=h H k
theorem Re (H:Q0 w l) (k:K) (h:Q0 w l→K→G:=by
 intro H k
 repeat refine Q7 ?_
 refine QG ?_;refine Jv ?_;refine QU ?_
 repeat refine Q7 ?_
 refine QG ?_;refine Jv ?_;refine Jv ?_;exact k):G:=h H k
theorem Rg (H:Q0 w l) (k:K) (h:Q0 w l→K→G:=by
 intro H k;refine Jo 12 H ?_;refine U0 H rfl rfl inferInstance rfl rfl (Nat.le_of_ble_eq_true rfl) rfl ?_;exact k):G:=h H k
theorem W2 (H:Q0 w l) (k:K) (h:Q0 w l→K→G:=by
 intro H k;refine VG rfl rfl rfl rfl ?_;refine Jv ?_;refine QU ?_
 repeat refine Q7 ?_
 refine Vu rfl (QF ?_);exact k):G:=h H k
theorem W3 (H:Q0 w l) (k:K) (h:Q0 w l→K→G:=by
 intro H k;refine Q5 rfl (Ki rfl rfl ?_);exact k):G:=h H k
theorem W4 (H:Q0 w l) (k:K) (h:Q0 w l→K→G:=by
 intro H k;refine Q5 rfl (QA H rfl rfl rfl ?_);exact k):G:=h H k
theorem W5 (H:Q0 w l) (k:K) (h:Q0 w l→K→G:=by
 intro H k;refine VG rfl rfl rfl rfl ?_;refine Jv ?_;refine Jv ?_;refine QU ?_;exact k):G:=h H k
theorem W6 (H:Q0 w l) (k:K) (h:Q0 w l→K→G:=by
 intro H k;refine Q5 rfl (Ki rfl rfl ?_);refine Q5 rfl (ES H rfl rfl ?_);exact k):G:=h H k
theorem W7 (H:Q0 w l) (k:K) (h:Q0 w l→K→G:=by
 intro H k;refine Q5 rfl (Gk rfl rfl ?_);refine Jv ?_;refine QU ?_;exact k):G:=h H k
theorem W8 (H:Q0 w l) (k:K) (h:Q0 w l→K→G:=by
 intro H k;refine Ja 0 ?_;refine Ja 1 ?_;refine Jf 2 ?_;refine Jl 3 [] H ?_;exact k):G:=h H k
theorem W9 (H:Q0 w l) (k:K) (h:Q0 w l→K→G:=by
 intro H k;refine Q5 rfl (ES H rfl rfl ?_);exact k):G:=h H k
theorem WQ (H:Q0 w l) (k:K) (h:Q0 w l→K→G:=by
 intro H k;refine Jv ?_;refine QU ?_
 repeat refine Q7 ?_
 refine YY rfl ?_;exact k):G:=h H k
theorem WV (H:Q0 w l) (k:K) (h:Q0 w l→K→G:=by
 intro H k
 repeat refine Q7 ?_
 refine QG ?_;refine Jv ?_;refine Jv ?_;refine QU ?_
 repeat refine Q7 ?_
 refine QG ?_;refine Jv ?_;refine Jv ?_;exact k):G:=h H k
theorem WY (H:Q0 w l) (k:K) (h:Q0 w l→K→G:=by
 intro H k;refine Ja 8 ?_;refine Jx H ?_;exact k):G:=h H k
theorem WZ (H:Q0 w l) (k:K) (h:Q0 w l→K→G:=by
 intro H k;refine Ja 1 ?_;refine Jf 2 ?_;exact k):G:=h H k
theorem Wo (H:Q0 w l) (k:K) (h:Q0 w l→K→G:=by
 intro H k
 repeat refine Q7 ?_
 refine QG ?_;refine Q5 rfl (VW rfl rfl ?_);refine Q5 rfl (QA H rfl rfl rfl ?_);refine Jv ?_;exact k):G:=h H k
theorem Wp (H:Q0 w l) (k:K) (h:Q0 w l→K→G:=by
 intro H k
 repeat refine Q7 ?_
 refine QG ?_;refine Jv ?_;refine QU ?_
 repeat refine Q7 ?_
 refine QG ?_;refine Jv ?_;refine Q5 rfl (KR rfl rfl (.inl rfl) rfl ?_);refine QU ?_
 repeat refine Q7 ?_
 refine Vu rfl (QF ?_)
 repeat refine Q7 ?_
 refine QG ?_;refine Jv ?_;refine Jv ?_;refine Q5 rfl (VW rfl rfl ?_);refine Q5 rfl (QA H rfl rfl rfl ?_);exact k):G:=h H k
theorem Wq (H:Q0 w l) (k:K) (h:Q0 w l→K→G:=by
 intro H k;refine VG rfl rfl rfl rfl ?_;refine VG rfl rfl rfl rfl ?_;refine VG rfl rfl rfl rfl ?_;exact k):G:=h H k
theorem Wr (H:Q0 w l) (k:K) (h:Q0 w l→K→G:=by
 intro H k
 repeat refine Q7 ?_
 refine QG ?_;refine Jv ?_;refine Jv ?_;refine Jv ?_;refine Jv ?_;exact k):G:=h H k
theorem Ws (H:Q0 w l) (k:K) (h:Q0 w l→K→G:=by
 intro H k;refine YY rfl (QF ?_);exact k):G:=h H k
theorem Wt (H:Q0 w l) (k:K) (h:Q0 w l→K→G:=by
 intro H k
 repeat refine Q7 ?_
 refine Qe ?_
 repeat refine Q7 ?_
 refine QG ?_;refine Jv ?_;refine Jv ?_;exact k):G:=h H k
theorem Wu (H:Q0 w l) (k:K) (h:Q0 w l→K→G:=by
 intro H k;refine Jv ?_;refine Jv ?_;refine VG rfl rfl rfl rfl ?_;refine VG rfl rfl rfl rfl ?_;refine QS rfl rfl rfl (VW rfl rfl ?_);refine QS rfl rfl rfl (QA H rfl rfl rfl ?_);refine VG rfl rfl rfl rfl ?_;exact k):G:=h H k
theorem Wv (H:Q0 w l) (k:K) (h:Q0 w l→K→G:=by
 intro H k
 repeat refine Q7 ?_
 refine QG ?_;refine Jv ?_;refine Jv ?_;refine Jv ?_;refine Q5 rfl (VW rfl rfl ?_);refine Q5 rfl (QA H rfl rfl rfl ?_);refine Q5 rfl (Gk rfl rfl ?_);refine Jv ?_;refine QU ?_
 repeat refine Q7 ?_
 exact k):G:=h H k
theorem Ww (H:Q0 w l) (k:K) (h:Q0 w l→K→G:=by
 intro H k;refine Ja 12 ?_;refine Ja 13 ?_;exact k):G:=h H k
theorem Wx (H:Q0 w l) (k:K) (h:Q0 w l→K→G:=by
 intro H k;refine Ja 0 ?_;refine Ja 1 ?_;refine Jf 2 ?_;refine Jl 3 [6] H ?_;refine Jf 4 ?_;refine Jl 5 [6] H ?_;refine Jo 6 H ?_;exact k):G:=h H k
theorem Ai (H:Q0 w l) (k:K) (h:Q0 w l→K→G:=by
 intro H k;refine Jv ?_;refine Jv ?_;refine QU ?_
 repeat refine Q7 ?_
 exact k):G:=h H k
theorem Aj (H:Q0 w l) (k:K) (h:Q0 w l→K→G:=by
 intro H k;refine Jv ?_;refine Jv ?_;refine QU ?_
 repeat refine Q7 ?_
 refine Vu rfl ?_;exact k):G:=h H k
theorem Ak (H:Q0 w l) (k:K) (h:Q0 w l→K→G:=by
 intro H k
 repeat refine Q7 ?_
 refine QG ?_;refine Q5 rfl (Vz H rfl (by repeat first|exact .nil _|apply QY.cons rfl) rfl ?_);refine Q5 rfl (U0 H rfl rfl inferInstance rfl rfl (Nat.le_of_ble_eq_true rfl) rfl ?_);exact k):G:=h H k
theorem Al (H:Q0 w l) (k:K) (h:Q0 w l→K→G:=by
 intro H k
 repeat refine Q7 ?_
 refine QG ?_;refine Jv ?_;refine Jv ?_;refine Jv ?_;refine Jv ?_;refine Jv ?_;refine QU ?_;exact k):G:=h H k
theorem Am (H:Q0 w l) (k:K) (h:Q0 w l→K→G:=by
 intro H k;refine Vu rfl (Qv ?_);exact k):G:=h H k
theorem Ao (H:Q0 w l) (k:K) (h:Q0 w l→K→G:=by
 intro H k
 repeat refine Q7 ?_
 refine QG ?_;refine Jv ?_;refine Jv ?_;refine Jv ?_;refine VG rfl rfl rfl rfl ?_;refine VG rfl rfl rfl rfl ?_;exact k):G:=h H k
theorem Ap (H:Q0 w l) (k:K) (h:Q0 w l→K→G:=by
 intro H k;refine V5 rfl rfl rfl ?_;refine V5 rfl rfl rfl ?_;refine V5 rfl rfl rfl ?_;exact k):G:=h H k
theorem Aq (H:Q0 w l) (k:K) (h:Q0 w l→K→G:=by
 intro H k;refine Jv ?_;refine QU ?_
 repeat refine Q7 ?_
 refine YY rfl ?_
 repeat refine Q7 ?_
 refine QG ?_;refine Q5 rfl (Ki rfl rfl ?_);refine Q5 rfl (U0 H rfl rfl inferInstance rfl rfl (Nat.le_of_ble_eq_true rfl) rfl ?_);exact k):G:=h H k
theorem Ar (H:Q0 w l) (k:K) (h:Q0 w l→K→G:=by
 intro H k;refine Jv ?_;refine VG rfl rfl rfl rfl ?_;refine VG rfl rfl rfl rfl ?_;refine VG rfl rfl rfl rfl ?_;refine QS rfl rfl rfl (VW rfl rfl ?_);refine QS rfl rfl rfl (QA H rfl rfl rfl ?_);refine QS rfl rfl rfl (Gk rfl rfl ?_);refine VG rfl rfl rfl rfl ?_;exact k):G:=h H k
theorem As (H:Q0 w l) (k:K) (h:Q0 w l→K→G:=by
 intro H k
 repeat refine Q7 ?_
 refine QG ?_;refine Jv ?_;refine Jv ?_;refine Q5 rfl (Gk rfl rfl ?_);refine Jv ?_;refine QU ?_
 repeat refine Q7 ?_
 exact k):G:=h H k
theorem Au (H:Q0 w l) (k:K) (h:Q0 w l→K→G:=by
 intro H k;refine Jv ?_;refine QU ?_
 repeat refine Q7 ?_
 refine QG ?_;refine Jv ?_;refine Q5 rfl (Vz H rfl (by repeat first|exact .nil _|apply QY.cons rfl) rfl ?_);exact k):G:=h H k
theorem Av (H:Q0 w l) (k:K) (h:Q0 w l→K→G:=by
 intro H k;refine Jv ?_;refine Jv ?_;refine Jv ?_;refine Jv ?_;refine Jv ?_;refine QU ?_
 repeat refine Q7 ?_
 refine QG ?_;refine Jv ?_;refine Jv ?_;refine QU ?_;exact k):G:=h H k
theorem Aw (H:Q0 w l) (k:K) (h:Q0 w l→K→G:=by
 intro H k
 repeat refine Q7 ?_
 refine QG ?_;refine Q5 rfl (Vz H rfl (by repeat first|exact .nil _|apply QY.cons rfl) rfl ?_);refine Jv ?_;refine Q5 rfl (U0 H rfl rfl inferInstance rfl rfl (Nat.le_of_ble_eq_true rfl) rfl ?_);exact k):G:=h H k
theorem Ax (H:Q0 w l) (k:K) (h:Q0 w l→K→G:=by
 intro H k;refine Q5 rfl (Gk rfl rfl ?_);refine Jv ?_;refine QU ?_
 repeat refine Q7 ?_
 refine Qe ?_;exact k):G:=h H k
theorem Ay (H:Q0 w l) (k:K) (h:Q0 w l→K→G:=by
 intro H k
 repeat refine Q7 ?_
 refine Vu rfl (QF ?_)
 repeat refine Q7 ?_
 refine QG ?_;refine Jv ?_;refine QU ?_;exact k):G:=h H k
theorem Az (H:Q0 w l) (k:K) (h:Q0 w l→K→G:=by
 intro H k;refine Q5 rfl (eV H rfl rfl rfl ?_);exact k):G:=h H k
theorem B0 (H:Q0 w l) (k:K) (h:Q0 w l→K→G:=by
 intro H k;refine Ja 13 ?_;refine Ja 14 ?_;refine Jx H ?_;exact k):G:=h H k
theorem B1 (H:Q0 w l) (k:K) (h:Q0 w l→K→G:=by
 intro H k;refine Q5 rfl (Zv H rfl rfl inferInstance rfl (Nat.le_of_ble_eq_true rfl) rfl ?_);exact k):G:=h H k
theorem Bu (H:Q0 w l) (k:K) (h:Q0 w l→K→G:=by
 intro H k;refine Jf 0 ?_;refine Jl 1 [] H ?_;refine Ja 2 ?_;exact k):G:=h H k
theorem Bv (H:Q0 w l) (k:K) (h:Q0 w l→K→G:=by
 intro H k;refine Jf 4 ?_;refine Jl 5 [] H ?_;exact k):G:=h H k
theorem Bw (H:Q0 w l) (k:K) (h:Q0 w l→K→G:=by
 intro H k;refine QU ?_
 repeat refine Q7 ?_
 exact k):G:=h H k
theorem Bx (H:Q0 w l) (k:K) (h:Q0 w l→K→G:=by
 intro H k;refine Qe ?_
 repeat refine Q7 ?_
 refine QG ?_;refine Jv ?_;refine Q5 rfl (KR rfl rfl (.inl rfl) rfl ?_);refine Jv ?_;refine QU ?_
 repeat refine Q7 ?_
 refine Vu rfl ?_;exact k):G:=h H k
theorem By (H:Q0 w l) (k:K) (h:Q0 w l→K→G:=by
 intro H k;refine Wl rfl rfl ?_;refine Wl rfl rfl ?_;exact k):G:=h H k
theorem Bz (H:Q0 w l) (k:K) (h:Q0 w l→K→G:=by
 intro H k
 repeat refine Q7 ?_
 refine QG ?_;refine Jv ?_;refine QU ?_
 repeat refine Q7 ?_
 refine QG ?_;refine Jv ?_;exact k):G:=h H k
theorem C0 (H:Q0 w l) (k:K) (h:Q0 w l→K→G:=by
 intro H k;refine Ja 0 ?_;refine Ja 1 ?_;refine Ja 2 ?_;refine Jf 3 ?_;exact k):G:=h H k
theorem C1 (H:Q0 w l) (k:K) (h:Q0 w l→K→G:=by
 intro H k;refine Q5 rfl (Vz H rfl (by repeat first|exact .nil _|apply QY.cons rfl) rfl ?_);exact k):G:=h H k
theorem C2 (H:Q0 w l) (k:K) (h:Q0 w l→K→G:=by
 intro H k;refine V5 rfl rfl rfl ?_;refine V5 rfl rfl rfl ?_;refine V5 rfl rfl rfl ?_;refine V5 rfl rfl rfl ?_;exact k):G:=h H k
theorem C3 (H:Q0 w l) (k:K) (h:Q0 w l→K→G:=by
 intro H k;refine Ja 7 ?_;refine Ja 8 ?_;refine Ja 9 ?_;refine Jo 10 H ?_;refine YH H rfl ?_;exact k):G:=h H k
theorem C4 (H:Q0 w l) (k:K) (h:Q0 w l→K→G:=by
 intro H k;refine Ja 13 ?_;refine Jx H ?_;exact k):G:=h H k
theorem C5 (H:Q0 w l) (k:K) (h:Q0 w l→K→G:=by
 intro H k;refine QU ?_
 repeat refine Q7 ?_
 refine Vu rfl (QF ?_);exact k):G:=h H k
theorem C6 (H:Q0 w l) (k:K) (h:Q0 w l→K→G:=by
 intro H k;refine Ja 0 ?_;refine Ja 1 ?_;refine Jf 2 ?_;refine Jl 3 [5,10] H ?_;refine Vw 4 [5,10] H rfl (Q9.none rfl) rfl (by repeat first|exact .nil _|apply QY.cons rfl) (by kernel_rfl) ?_;exact k):G:=h H k
theorem C7 (H:Q0 w l) (k:K) (h:Q0 w l→K→G:=by
 intro H k;refine Ja 6 ?_;refine Ja 7 ?_;refine Ja 8 ?_;refine Jo 9 H ?_;refine YH H rfl ?_;exact k):G:=h H k
theorem C8 (H:Q0 w l) (k:K) (h:Q0 w l→K→G:=by
 intro H k;refine Jo 10 H ?_;refine U0 H rfl rfl inferInstance rfl rfl (Nat.le_of_ble_eq_true rfl) rfl ?_;exact k):G:=h H k
theorem C9 (H:Q0 w l) (k:K) (h:Q0 w l→K→G:=by
 intro H k;refine Ja 6 ?_;refine Ja 7 ?_;refine Ja 8 ?_;refine Jo 10 H ?_;refine U0 H rfl rfl inferInstance rfl rfl (Nat.le_of_ble_eq_true rfl) rfl ?_;exact k):G:=h H k
theorem CQ (H:Q0 w l) (k:K) (h:Q0 w l→K→G:=by
 intro H k;refine Ja 8 ?_;refine Ja 9 ?_;refine Ja 10 ?_;exact k):G:=h H k
theorem CV (H:Q0 w l) (k:K) (h:Q0 w l→K→G:=by
 intro H k;refine Jv ?_;refine QU ?_
 repeat refine Q7 ?_
 refine Vu rfl (QF ?_)
 repeat refine Q7 ?_
 refine QG ?_;refine Jv ?_;refine Jv ?_;refine QU ?_;exact k):G:=h H k
theorem DZ (H:Q0 w l) (k:K) (h:Q0 w l→K→G:=by
 intro H k;refine Jv ?_;refine Jv ?_;refine VG rfl rfl rfl rfl ?_;exact k):G:=h H k
theorem DG (H:Q0 w l) (k:K) (h:Q0 w l→K→G:=by
 intro H k;refine QS rfl rfl rfl (Vz H rfl (by repeat first|exact .nil _|apply QY.cons rfl) rfl ?_);exact k):G:=h H k
theorem DU (H:Q0 w l) (k:K) (h:Q0 w l→K→G:=by
 intro H k;refine Ja 0 ?_;refine Ja 1 ?_;exact k):G:=h H k
theorem DX (H:Q0 w l) (k:K) (h:Q0 w l→K→G:=by
 intro H k;refine Ad H rfl rfl rfl ?_;exact k):G:=h H k
theorem DR (H:Q0 w l) (k:K) (h:Q0 w l→K→G:=by
 intro H k;refine Ja 10 ?_;refine Jx H ?_;exact k):G:=h H k
theorem DW (H:Q0 w l) (k:K) (h:Q0 w l→K→G:=by
 intro H k;refine Jv ?_;refine QU ?_
 repeat refine Q7 ?_
 refine QG ?_;refine Q5 rfl (VW rfl rfl ?_);refine Q5 rfl (QA H rfl rfl rfl ?_);exact k):G:=h H k
theorem DA (H:Q0 w l) (k:K) (h:Q0 w l→K→G:=by
 intro H k
 repeat refine Q7 ?_
 refine QG ?_;refine Jv ?_;refine QU ?_
 repeat refine Q7 ?_
 refine QG ?_;refine Jv ?_;refine Jv ?_;refine Jv ?_;exact k):G:=h H k
theorem DB (H:Q0 w l) (k:K) (h:Q0 w l→K→G:=by
 intro H k;refine QU ?_
 repeat refine Q7 ?_
 refine QG ?_;refine Jv ?_;refine QU ?_;exact k):G:=h H k
theorem DC (H:Q0 w l) (k:K) (h:Q0 w l→K→G:=by
 intro H k
 repeat refine Q7 ?_
 refine Qe ?_
 repeat refine Q7 ?_
 refine QG ?_;refine Jv ?_;refine Jv ?_;refine Jv ?_;exact k):G:=h H k
theorem DD (H:Q0 w l) (k:K) (h:Q0 w l→K→G:=by
 intro H k;refine QU ?_
 repeat refine Q7 ?_
 refine QG ?_;refine Jv ?_;refine Jv ?_;refine Jv ?_;refine QU ?_;exact k):G:=h H k
theorem DE (H:Q0 w l) (k:K) (h:Q0 w l→K→G:=by
 intro H k;refine Jv ?_;refine Jv ?_;refine Jv ?_;refine Jv ?_;refine Jv ?_;refine QU ?_
 repeat refine Q7 ?_
 exact k):G:=h H k
theorem DF (H:Q0 w l) (k:K) (h:Q0 w l→K→G:=by
 intro H k
 repeat refine Q7 ?_
 refine Vu rfl (QF ?_)
 repeat refine Q7 ?_
 refine QG ?_;refine Jv ?_;refine Jv ?_;refine QU ?_;exact k):G:=h H k
theorem DH (H:Q0 w l) (k:K) (h:Q0 w l→K→G:=by
 intro H k
 repeat refine Q7 ?_
 refine Qe ?_
 repeat refine Q7 ?_
 refine QG ?_;refine Jv ?_;refine Jv ?_;refine Q5 rfl (VW rfl rfl ?_);refine Q5 rfl (QA H rfl rfl rfl ?_);refine Jv ?_;exact k):G:=h H k
theorem DI (H:Q0 w l) (k:K) (h:Q0 w l→K→G:=by
 intro H k;refine Jv ?_;refine Jv ?_;refine QU ?_
 repeat refine Q7 ?_
 refine Vu rfl (QF ?_);exact k):G:=h H k
theorem DJ (H:Q0 w l) (k:K) (h:Q0 w l→K→G:=by
 intro H k;refine Q5 rfl (VW rfl rfl ?_);refine Q5 rfl (QA H rfl rfl rfl ?_);refine Jv ?_;refine Jv ?_;exact k):G:=h H k
theorem DL (H:Q0 w l) (k:K) (h:Q0 w l→K→G:=by
 intro H k;refine Jv ?_;refine VG rfl rfl rfl rfl ?_;refine VG rfl rfl rfl rfl ?_;refine VG rfl rfl rfl rfl ?_;exact k):G:=h H k
theorem DM (H:Q0 w l) (k:K) (h:Q0 w l→K→G:=by
 intro H k;refine QU ?_
 repeat refine Q7 ?_
 refine QG ?_;refine Jv ?_;refine Jv ?_;exact k):G:=h H k
theorem DN (H:Q0 w l) (k:K) (h:Q0 w l→K→G:=by
 intro H k
 repeat refine Q7 ?_
 refine QG ?_;refine Jv ?_;refine Jv ?_;refine Jv ?_;refine Jv ?_;refine QU ?_;exact k):G:=h H k
theorem DO (H:Q0 w l) (k:K) (h:Q0 w l→K→G:=by
 intro H k
 repeat refine Q7 ?_
 refine QG ?_;refine Jv ?_;refine QU ?_
 repeat refine Q7 ?_
 refine QG ?_;refine Jv ?_;refine Q5 rfl (KR rfl rfl (.inl rfl) rfl ?_);refine QU ?_
 repeat refine Q7 ?_
 refine Vu rfl (QF ?_)
 repeat refine Q7 ?_
 refine QG ?_;refine Jv ?_;refine Jv ?_;refine Q5 rfl (VW rfl rfl ?_);refine Q5 rfl (QA H rfl rfl rfl ?_);refine Jv ?_;exact k):G:=h H k
theorem DP (H:Q0 w l) (k:K) (h:Q0 w l→K→G:=by
 intro H k;refine Q5 rfl (VW rfl rfl ?_);exact k):G:=h H k
theorem DS (H:Q0 w l) (k:K) (h:Q0 w l→K→G:=by
 intro H k;refine Ja 17 ?_;refine Jx H ?_;exact k):G:=h H k
theorem Eh (H:Q0 w l) (k:K) (h:Q0 w l→K→G:=by
 intro H k;refine Jv ?_;refine QS rfl rfl rfl (VW rfl rfl ?_);refine QS rfl rfl rfl (QA H rfl rfl rfl ?_);refine VG rfl rfl rfl rfl ?_;exact k):G:=h H k
theorem Ei (H:Q0 w l) (k:K) (h:Q0 w l→K→G:=by
 intro H k
 repeat refine Q7 ?_
 refine QG ?_;refine Jv ?_;refine QU ?_
 repeat refine Q7 ?_
 refine QG ?_;refine Jv ?_;refine Q5 rfl (Gk rfl rfl ?_);refine Jv ?_;refine QU ?_
 repeat refine Q7 ?_
 refine Qe ?_;exact k):G:=h H k
theorem Ej (H:Q0 w l) (k:K) (h:Q0 w l→K→G:=by
 intro H k;refine Jv ?_;refine VG rfl rfl rfl rfl ?_;exact k):G:=h H k
theorem Ek (H:Q0 w l) (k:K) (h:Q0 w l→K→G:=by
 intro H k
 repeat refine Q7 ?_
 refine Qe ?_
 repeat refine Q7 ?_
 refine QG ?_;refine Jv ?_;exact k):G:=h H k
theorem El (H:Q0 w l) (k:K) (h:Q0 w l→K→G:=by
 intro H k;refine Jv ?_;refine QS rfl rfl rfl (VW rfl rfl ?_);refine QS rfl rfl rfl (QA H rfl rfl rfl ?_);refine VG rfl rfl rfl rfl ?_;refine Jv ?_;exact k):G:=h H k
theorem Em (H:Q0 w l) (k:K) (h:Q0 w l→K→G:=by
 intro H k;refine Jv ?_;refine QU ?_
 repeat refine Q7 ?_
 refine QG ?_;refine Jv ?_;exact k):G:=h H k
theorem En (H:Q0 w l) (k:K) (h:Q0 w l→K→G:=by
 intro H k;refine QS rfl rfl rfl (VW rfl rfl ?_);exact k):G:=h H k
theorem Eo (H:Q0 w l) (k:K) (h:Q0 w l→K→G:=by
 intro H k
 repeat refine Q7 ?_
 refine QG ?_;refine Jv ?_;refine QU ?_
 repeat refine Q7 ?_
 refine Qe ?_;exact k):G:=h H k
theorem Ep (H:Q0 w l) (k:K) (h:Q0 w l→K→G:=by
 intro H k
 repeat refine Q7 ?_
 refine QG ?_;refine Jv ?_;refine Q5 rfl (KR rfl rfl (.inl rfl) rfl ?_);exact k):G:=h H k
theorem Er (H:Q0 w l) (k:K) (h:Q0 w l→K→G:=by
 intro H k;refine Q5 rfl (MR rfl rfl rfl ?_);exact k):G:=h H k
theorem Es (H:Q0 w l) (k:K) (h:Q0 w l→K→G:=by
 intro H k
 repeat refine Q7 ?_
 refine QG ?_;refine Jv ?_;refine Jv ?_;refine Jv ?_;refine Q5 rfl (VW rfl rfl ?_);refine Q5 rfl (QA H rfl rfl rfl ?_);exact k):G:=h H k
theorem Et (H:Q0 w l) (k:K) (h:Q0 w l→K→G:=by
 intro H k
 repeat refine Q7 ?_
 refine Vu rfl (QF ?_)
 repeat refine Q7 ?_
 refine QG ?_;refine Jv ?_;exact k):G:=h H k
theorem Eu (H:Q0 w l) (k:K) (h:Q0 w l→K→G:=by
 intro H k;refine Ja 5 ?_;refine Ja 6 ?_;refine Jf 7 ?_;exact k):G:=h H k
theorem Ev (H:Q0 w l) (k:K) (h:Q0 w l→K→G:=by
 intro H k;refine Jv ?_;refine Jv ?_;refine Jv ?_;exact k):G:=h H k
theorem Ew (H:Q0 w l) (k:K) (h:Q0 w l→K→G:=by
 intro H k
 repeat refine Q7 ?_
 refine QG ?_;refine Q5 rfl (VW rfl rfl ?_);refine Q5 rfl (QA H rfl rfl rfl ?_);exact k):G:=h H k
theorem Ex (H:Q0 w l) (k:K) (h:Q0 w l→K→G:=by
 intro H k
 repeat refine Q7 ?_
 refine Vu rfl (QF ?_)
 repeat refine Q7 ?_
 refine QG ?_;refine Jv ?_;refine Jv ?_;refine Jv ?_;refine QU ?_;exact k):G:=h H k
theorem Ey (H:Q0 w l) (k:K) (h:Q0 w l→K→G:=by
 intro H k
 repeat refine Q7 ?_
 refine QG ?_;refine Q5 rfl (Vz H rfl (by repeat first|exact .nil _|apply QY.cons rfl) rfl ?_);refine Jv ?_;exact k):G:=h H k
theorem Ez (H:Q0 w l) (k:K) (h:Q0 w l→K→G:=by
 intro H k
 repeat refine Q7 ?_
 refine QG ?_;refine Jv ?_;refine Jv ?_;refine Jv ?_;refine QU ?_
 repeat refine Q7 ?_
 refine Vu rfl ?_
 repeat refine Q7 ?_
 refine QG ?_;refine Jv ?_;refine Jv ?_;exact k):G:=h H k
theorem F0 (H:Q0 w l) (k:K) (h:Q0 w l→K→G:=by
 intro H k
 repeat refine Q7 ?_
 refine Vu rfl (QF ?_)
 repeat refine Q7 ?_
 refine QG ?_;refine Jv ?_;refine Jv ?_;exact k):G:=h H k
theorem F1 (H:Q0 w l) (k:K) (h:Q0 w l→K→G:=by
 intro H k;refine Jv ?_;refine QU ?_
 repeat refine Q7 ?_
 refine QG ?_;refine Jv ?_;refine Jv ?_;refine Jv ?_;refine QU ?_;exact k):G:=h H k
theorem F2 (H:Q0 w l) (k:K) (h:Q0 w l→K→G:=by
 intro H k;refine Jv ?_;refine Jv ?_;refine Jv ?_;refine Jv ?_;refine QU ?_;exact k):G:=h H k
theorem F3 (H:Q0 w l) (k:K) (h:Q0 w l→K→G:=by
 intro H k;refine Ja 0 ?_;refine Ja 1 ?_;refine Jf 2 ?_;refine Jl 3 [6] H ?_;exact k):G:=h H k
theorem F4 (H:Q0 w l) (k:K) (h:Q0 w l→K→G:=by
 intro H k;refine Jv ?_;refine QU ?_
 repeat refine Q7 ?_
 refine QG ?_;refine Jv ?_;refine Q5 rfl (KR rfl rfl (.inl rfl) rfl ?_);refine QU ?_
 repeat refine Q7 ?_
 refine Vu rfl (QF ?_);exact k):G:=h H k
theorem F5 (H:Q0 w l) (k:K) (h:Q0 w l→K→G:=by
 intro H k
 repeat refine Q7 ?_
 refine Vu rfl ?_;exact k):G:=h H k
theorem F6 (H:Q0 w l) (k:K) (h:Q0 w l→K→G:=by
 intro H k;refine Jv ?_;refine Jv ?_;refine Jv ?_;refine Jv ?_;exact k):G:=h H k
theorem F7 (H:Q0 w l) (k:K) (h:Q0 w l→K→G:=by
 intro H k
 repeat refine Q7 ?_
 refine QG ?_;refine Jv ?_;refine Jv ?_;refine Jv ?_;refine Q5 rfl (VW rfl rfl ?_);refine Q5 rfl (QA H rfl rfl rfl ?_);refine Jv ?_;exact k):G:=h H k
theorem F8 (H:Q0 w l) (k:K) (h:Q0 w l→K→G:=by
 intro H k
 repeat refine Q7 ?_
 refine Qe ?_
 repeat refine Q7 ?_
 refine QG ?_;refine Jv ?_;refine Jv ?_;refine QU ?_;exact k):G:=h H k
theorem F9 (H:Q0 w l) (k:K) (h:Q0 w l→K→G:=by
 intro H k;refine Q5 rfl (Gk rfl rfl ?_);refine Jv ?_;refine QU ?_
 repeat refine Q7 ?_
 exact k):G:=h H k
theorem FQ (H:Q0 w l) (k:K) (h:Q0 w l→K→G:=by
 intro H k
 repeat refine Q7 ?_
 refine QG ?_;refine Jv ?_;refine Jv ?_;refine QU ?_
 repeat refine Q7 ?_
 refine YY rfl ?_
 repeat refine Q7 ?_
 refine QG ?_;refine Jv ?_;refine QU ?_;exact k):G:=h H k
theorem FV (H:Q0 w l) (k:K) (h:Q0 w l→K→G:=by
 intro H k;refine Jv ?_;refine Q5 rfl (VW rfl rfl ?_);refine Q5 rfl (QA H rfl rfl rfl ?_);refine Jv ?_;exact k):G:=h H k
theorem FY (H:Q0 w l) (k:K) (h:Q0 w l→K→G:=by
 intro H k;refine Uc 14 rfl (Q9.none rfl) rfl (by kernel_rfl) ?_;refine Jo 15 H ?_;refine ES H rfl rfl ?_;exact k):G:=h H k
theorem FZ (H:Q0 w l) (k:K) (h:Q0 w l→K→G:=by
 intro H k;refine Jo 16 H ?_;refine Ad H rfl rfl rfl ?_;exact k):G:=h H k
theorem FG (H:Q0 w l) (k:K) (h:Q0 w l→K→G:=by
 intro H k;refine Ja 18 ?_;refine Jf 19 ?_;refine Jo 20 H ?_;refine Zv H rfl rfl inferInstance rfl (Nat.le_of_ble_eq_true rfl) rfl ?_;exact k):G:=h H k
theorem FU (H:Q0 w l) (k:K) (h:Q0 w l→K→G:=by
 intro H k;refine Ja 6 ?_;refine Ja 7 ?_;refine Jf 8 ?_;exact k):G:=h H k
theorem FX (H:Q0 w l) (k:K) (h:Q0 w l→K→G:=by
 intro H k;refine Ja 7 ?_;refine Ja 8 ?_;refine Ja 9 ?_;refine Ja 10 ?_;exact k):G:=h H k
theorem FK (H:Q0 w l) (k:K) (h:Q0 w l→K→G:=by
 intro H k;refine Jo 11 H ?_;refine YH H rfl ?_;exact k):G:=h H k
theorem FR (H:Q0 w l) (k:K) (h:Q0 w l→K→G:=by
 intro H k
 repeat refine Q7 ?_
 refine QG ?_;refine Q5 rfl (VW rfl rfl ?_);refine Q5 rfl (QA H rfl rfl rfl ?_);refine Jv ?_;refine QU ?_;exact k):G:=h H k
theorem FW (H:Q0 w l) (k:K) (h:Q0 w l→K→G:=by
 intro H k;refine Jl 3 [6,11] H ?_;refine Jf 4 ?_;refine Vw 5 [6,11] H rfl (Q9.none rfl) rfl (by repeat first|exact .nil _|apply QY.cons rfl) (by kernel_rfl) ?_;exact k):G:=h H k
theorem FA (H:Q0 w l) (k:K) (h:Q0 w l→K→G:=by
 intro H k;refine Jv ?_;refine QU ?_
 repeat refine Q7 ?_
 refine QG ?_;refine Jv ?_;refine Jv ?_;refine QU ?_
 repeat refine Q7 ?_
 refine YY rfl ?_
 repeat refine Q7 ?_
 refine QG ?_;refine Jv ?_;refine Jv ?_;refine Jv ?_;refine QU ?_;exact k):G:=h H k
theorem FE (H:Q0 w l) (k:K) (h:Q0 w l→K→G:=by
 intro H k;refine Ja 8 ?_;refine Ja 9 ?_;refine Jf 10 ?_;exact k):G:=h H k
theorem FF (H:Q0 w l) (k:K) (h:Q0 w l→K→G:=by
 intro H k;refine Ja 8 ?_;refine Ja 9 ?_;refine Ja 10 ?_;refine Ja 11 ?_;refine Ja 12 ?_;refine Jx H ?_;exact k):G:=h H k
theorem Hw (H:Q0 w l) (k:K) (h:Q0 w l→K→G:=by
 intro H k;refine Jv ?_;refine Jv ?_;refine QS rfl rfl rfl (VW rfl rfl ?_);refine QS rfl rfl rfl (QA H rfl rfl rfl ?_);refine VG rfl rfl rfl rfl ?_;exact k):G:=h H k
theorem Hx (H:Q0 w l) (k:K) (h:Q0 w l→K→G:=by
 intro H k;refine Q5 rfl (Gk rfl rfl ?_);refine Jv ?_;exact k):G:=h H k
theorem Hy (H:Q0 w l) (k:K) (h:Q0 w l→K→G:=by
 intro H k;refine Jv ?_;refine Q5 rfl (U0 H rfl rfl inferInstance rfl rfl (Nat.le_of_ble_eq_true rfl) rfl ?_);exact k):G:=h H k
theorem Hz (H:Q0 w l) (k:K) (h:Q0 w l→K→G:=by
 intro H k;refine Q5 rfl (Ki rfl rfl ?_);refine Q5 rfl (Ad H rfl rfl rfl ?_);exact k):G:=h H k
theorem I0 (H:Q0 w l) (k:K) (h:Q0 w l→K→G:=by
 intro H k;refine Ja 12 ?_;refine Ja 13 ?_;refine Ja 14 ?_;refine Ja 15 ?_;refine Jx H ?_;exact k):G:=h H k
theorem I1 (H:Q0 w l) (k:K) (h:Q0 w l→K→G:=by
 intro H k
 repeat refine Q7 ?_
 refine QG ?_;refine Q5 rfl (Vz H rfl (by repeat first|exact .nil _|apply QY.cons rfl) rfl ?_);refine Q5 rfl (Ki rfl rfl ?_);refine Q5 rfl (Hr rfl rfl rfl rfl (.inl rfl) rfl ?_);exact k):G:=h H k
theorem I2 (H:Q0 w l) (k:K) (h:Q0 w l→K→G:=by
 intro H k;refine Jv ?_;refine QU ?_
 repeat refine Q7 ?_
 refine YY rfl ?_
 repeat refine Q7 ?_
 refine QG ?_;refine Jv ?_;refine Jv ?_;refine QU ?_;exact k):G:=h H k
theorem I3 (H:Q0 w l) (k:K) (h:Q0 w l→K→G:=by
 intro H k;refine Jv ?_;refine QU ?_
 repeat refine Q7 ?_
 refine Vu rfl ?_;exact k):G:=h H k
theorem I4 (H:Q0 w l) (k:K) (h:Q0 w l→K→G:=by
 intro H k
 repeat refine Q7 ?_
 refine YY rfl ?_
 repeat refine Q7 ?_
 refine QG ?_;refine Q5 rfl (Ki rfl rfl ?_);refine Q5 rfl (U0 H rfl rfl inferInstance rfl rfl (Nat.le_of_ble_eq_true rfl) rfl ?_);exact k):G:=h H k
theorem I5 (H:Q0 w l) (k:K) (h:Q0 w l→K→G:=by
 intro H k;refine Jv ?_;refine Jv ?_;refine Jv ?_;refine Jv ?_;refine Jv ?_;exact k):G:=h H k
theorem I6 (H:Q0 w l) (k:K) (h:Q0 w l→K→G:=by
 intro H k;refine Ja 9 ?_;refine Ja 10 ?_;refine Jf 11 ?_;exact k):G:=h H k
theorem I7 (H:Q0 w l) (k:K) (h:Q0 w l→K→G:=by
 intro H k;refine Jx H ?_
 repeat refine Q7 ?_
 refine QG ?_;refine Jv ?_;refine QU ?_;exact k):G:=h H k
theorem I8 (H:Q0 w l) (k:K) (h:Q0 w l→K→G:=by
 intro H k
 repeat refine Q7 ?_
 refine QG ?_;refine Jv ?_;refine Jv ?_;refine QU ?_
 repeat refine Q7 ?_
 exact k):G:=h H k
theorem I9 (H:Q0 w l) (k:K) (h:Q0 w l→K→G:=by
 intro H k
 first|refine Jv ?_|refine Rx rfl rfl ?_
 refine Jv ?_;refine Jv ?_;refine Jv ?_;refine Jv ?_;refine QU ?_
 repeat refine Q7 ?_
 refine QG ?_;refine Jv ?_;refine Jv ?_;refine QU ?_;exact k):G:=h H k
theorem IQ (H:Q0 w l) (k:K) (h:Q0 w l→K→G:=by
 intro H k;refine V5 rfl rfl rfl ?_;refine V5 rfl rfl rfl ?_;refine V5 rfl rfl rfl ?_;refine V5 rfl rfl rfl ?_;refine V5 rfl rfl rfl ?_;refine V5 rfl rfl rfl ?_;refine V5 rfl rfl rfl ?_;exact k):G:=h H k
theorem IV (H:Q0 w l) (k:K) (h:Q0 w l→K→G:=by
 intro H k;refine V5 rfl rfl rfl ?_;refine V5 rfl rfl rfl ?_;refine V5 rfl rfl rfl ?_;refine V5 rfl rfl rfl ?_;refine V5 rfl rfl rfl ?_;exact k):G:=h H k
theorem IY (H:Q0 w l) (k:K) (h:Q0 w l→K→G:=by
 intro H k;refine VG rfl rfl rfl rfl ?_;refine QS rfl rfl rfl (VW rfl rfl ?_);refine QS rfl rfl rfl (QA H rfl rfl rfl ?_);refine VG rfl rfl rfl rfl ?_;exact k):G:=h H k
theorem IZ (H:Q0 w l) (k:K) (h:Q0 w l→K→G:=by
 intro H k;refine Ja 6 ?_;refine Ja 7 ?_;refine Ja 8 ?_;refine Ja 9 ?_;exact k):G:=h H k
theorem IG (H:Q0 w l) (k:K) (h:Q0 w l→K→G:=by
 intro H k;refine Jv ?_;refine V5 rfl rfl rfl ?_;refine V5 rfl rfl rfl ?_;refine V5 rfl rfl rfl ?_;refine V5 rfl rfl rfl ?_;refine V5 rfl rfl rfl ?_;refine V5 rfl rfl rfl ?_;refine V5 rfl rfl rfl ?_;exact k):G:=h H k
theorem IU (H:Q0 w l) (k:K) (h:Q0 w l→K→G:=by
 intro H k
 repeat refine Q7 ?_
 refine QG ?_;refine Jv ?_;refine Jv ?_;refine Jv ?_;refine QU ?_
 repeat refine Q7 ?_
 exact k):G:=h H k
theorem IX (H:Q0 w l) (k:K) (h:Q0 w l→K→G:=by
 intro H k
 repeat refine Q7 ?_
 refine QG ?_;refine Jv ?_;refine QU ?_
 repeat refine Q7 ?_
 refine QG ?_;refine Jv ?_;refine QU ?_
 repeat refine Q7 ?_
 refine QG ?_;refine Jv ?_;refine QU ?_
 repeat refine Q7 ?_
 refine Qe ?_;exact k):G:=h H k
theorem IK (H:Q0 w l) (k:K) (h:Q0 w l→K→G:=by
 intro H k;refine V5 rfl rfl rfl ?_;refine V5 rfl rfl rfl ?_;refine V5 rfl rfl rfl ?_;refine V5 rfl rfl rfl ?_;refine V5 rfl rfl rfl ?_;refine V5 rfl rfl rfl ?_;exact k):G:=h H k
theorem IR (H:Q0 w l) (k:K) (h:Q0 w l→K→G:=by
 intro H k
 repeat refine Q7 ?_
 refine QG ?_;refine Jv ?_;refine Jv ?_;refine Q5 rfl (Ad H rfl rfl rfl ?_);exact k):G:=h H k
theorem IW (H:Q0 w l) (k:K) (h:Q0 w l→K→G:=by
 intro H k
 repeat refine Q7 ?_
 refine Vu rfl (QF ?_)
 repeat refine Q7 ?_
 refine Ae H mixed ?_;exact k):G:=h H k
theorem IA (H:Q0 w l) (k:K) (h:Q0 w l→K→G:=by
 intro H k
 repeat refine Q7 ?_
 refine QG ?_;refine Jv ?_;refine QU ?_
 repeat refine Q7 ?_
 refine QG ?_;exact k):G:=h H k
theorem IB (H:Q0 w l) (k:K) (h:Q0 w l→K→G:=by
 intro H k;refine Vw 5 [6] H rfl (Q9.none rfl) rfl (by repeat first|exact .nil _|apply QY.cons rfl) (by kernel_rfl) ?_;refine Jo 6 H ?_;exact k):G:=h H k
theorem IC (H:Q0 w l) (k:K) (h:Q0 w l→K→G:=by
 intro H k;refine Vw 4 [6] H rfl (Q9.none rfl) rfl (by repeat first|exact .nil _|apply QY.cons rfl) (by kernel_rfl) ?_;exact k):G:=h H k
theorem ID (H:Q0 w l) (k:K) (h:Q0 w l→K→G:=by
 intro H k;refine QS rfl rfl rfl (KR rfl rfl (.inl rfl) rfl ?_);refine Jv ?_;refine QU ?_
 repeat refine Q7 ?_
 refine Vu rfl (QF ?_);exact k):G:=h H k
theorem IF (H:Q0 w l) (k:K) (h:Q0 w l→K→G:=by
 intro H k;refine Ja 7 ?_;refine Ja 8 ?_;refine Ja 9 ?_;refine Jo 11 H ?_;refine U0 H rfl rfl inferInstance rfl rfl (Nat.le_of_ble_eq_true rfl) rfl ?_;exact k):G:=h H k
theorem IH (H:Q0 w l) (k:K) (h:Q0 w l→K→G:=by
 intro H k;refine Jv ?_;refine Jv ?_;refine QU ?_
 repeat refine Q7 ?_
 refine QG ?_;refine Jv ?_;refine Jv ?_;refine QU ?_
 repeat refine Q7 ?_
 refine Vu rfl (QF ?_);exact k):G:=h H k
theorem II (H:Q0 w l) (k:K) (h:Q0 w l→K→G:=by
 intro H k;refine QU ?_
 repeat refine Q7 ?_
 refine QG ?_;refine Jv ?_;exact k):G:=h H k
theorem IJ (H:Q0 w l) (k:K) (h:Q0 w l→K→G:=by
 intro H k
 repeat refine Q7 ?_
 refine Qe ?_
 repeat refine Q7 ?_
 refine Ae H mixed ?_;exact k):G:=h H k
theorem IM (H:Q0 w l) (k:K) (h:Q0 w l→K→G:=by
 intro H k
 repeat refine Q7 ?_
 refine QG ?_;refine Jv ?_;refine Jv ?_;refine QU ?_
 repeat refine Q7 ?_
 refine QG ?_;refine Jv ?_;refine Jv ?_;refine Q5 rfl (VW rfl rfl ?_);refine Q5 rfl (QA H rfl rfl rfl ?_);refine Jv ?_;exact k):G:=h H k
theorem IP (H:Q0 w l) (k:K) (h:Q0 w l→K→G:=by
 intro H k;refine Jv ?_;refine QU ?_
 repeat refine Q7 ?_
 refine QG ?_;refine Jv ?_;refine Jv ?_;refine QU ?_
 repeat refine Q7 ?_
 refine YY rfl ?_
 repeat refine Q7 ?_
 refine QG ?_;refine Jv ?_;refine Jv ?_;refine QU ?_;exact k):G:=h H k
theorem IS (H:Q0 w l) (k:K) (h:Q0 w l→K→G:=by
 intro H k;refine Jv ?_;refine Jv ?_;refine Jv ?_;refine Jv ?_;refine Jv ?_;refine QU ?_
 repeat refine Q7 ?_
 refine QG ?_;refine Jv ?_;refine Jv ?_;refine QU ?_
 repeat refine Q7 ?_
 refine YY rfl ?_;exact k):G:=h H k
theorem IT (H:Q0 w l) (k:K) (h:Q0 w l→K→G:=by
 intro H k
 repeat refine Q7 ?_
 refine QG ?_;refine Q5 rfl (Ki rfl rfl ?_);refine Jv ?_;refine Q5 rfl (U0 H rfl rfl inferInstance rfl rfl (Nat.le_of_ble_eq_true rfl) rfl ?_);exact k):G:=h H k
theorem Ia (H:Q0 w l) (k:K) (h:Q0 w l→K→G:=by
 intro H k
 repeat refine Q7 ?_
 refine QG ?_;refine Jv ?_;refine Q5 rfl (Vz H rfl (by repeat first|exact .nil _|apply QY.cons rfl) rfl ?_);refine Jv ?_;exact k):G:=h H k
theorem Ib (H:Q0 w l) (k:K) (h:Q0 w l→K→G:=by
 intro H k
 repeat refine Q7 ?_
 refine QG ?_;refine Jv ?_;refine Jv ?_;refine Q5 rfl (VW rfl rfl ?_);refine Q5 rfl (QA H rfl rfl rfl ?_);refine Jv ?_;refine Q5 rfl (VW rfl rfl ?_);refine Q5 rfl (QA H rfl rfl rfl ?_);exact k):G:=h H k
theorem Ic (H:Q0 w l) (k:K) (h:Q0 w l→K→G:=by
 intro H k
 repeat refine Q7 ?_
 refine QG ?_;refine Jv ?_;refine Jv ?_;refine Q5 rfl (VW rfl rfl ?_);refine Q5 rfl (QA H rfl rfl rfl ?_);refine Jv ?_;refine Q5 rfl (VW rfl rfl ?_);refine Q5 rfl (QA H rfl rfl rfl ?_);refine Jv ?_;exact k):G:=h H k
theorem Ie (H:Q0 w l) (k:K) (h:Q0 w l→K→G:=by
 intro H k;refine QS rfl rfl rfl (Vz H rfl (by repeat first|exact .nil _|apply QY.cons rfl) rfl ?_);refine QS rfl rfl rfl (Ki rfl rfl ?_);exact k):G:=h H k
theorem If (H:Q0 w l) (k:K) (h:Q0 w l→K→G:=by
 intro H k
 repeat refine Q7 ?_
 refine QG ?_;refine Q5 rfl (QA H rfl rfl rfl ?_);refine Q5 rfl (QA H rfl rfl rfl ?_);exact k):G:=h H k
theorem Ig (H:Q0 w l) (k:K) (h:Q0 w l→K→G:=by
 intro H k;refine Jv ?_;refine QU ?_
 repeat refine Q7 ?_
 refine Vu rfl ?_
 repeat refine Q7 ?_
 refine QG ?_;refine Jv ?_;refine Jv ?_;exact k):G:=h H k
theorem Ih (H:Q0 w l) (k:K) (h:Q0 w l→K→G:=by
 intro H k;refine Ja 0 ?_;refine Ja 1 ?_;refine Jf 2 ?_;refine Jl 3 [7] H ?_;refine Ja 4 ?_;refine Jf 5 ?_;refine Jl 6 [7] H ?_;refine Jo 7 H ?_;exact k):G:=h H k
theorem Ii (H:Q0 w l) (k:K) (h:Q0 w l→K→G:=by
 intro H k;refine Ja 0 ?_;refine Ja 1 ?_;refine Ja 2 ?_;refine Ja 3 ?_;exact k):G:=h H k
theorem MC (H:Q0 w l) (k:K) (h:Q0 w l→K→G:=by
 intro H k
 repeat refine Q7 ?_
 refine QG ?_;refine Jv ?_;refine Jv ?_;refine QU ?_
 repeat refine Q7 ?_
 refine QG ?_;refine Jv ?_;exact k):G:=h H k
theorem ME (H:Q0 w l) (k:K) (h:Q0 w l→K→G:=by
 intro H k;refine Jx H ?_
 repeat refine Q7 ?_
 refine Vu rfl (QF ?_);exact k):G:=h H k
theorem MF (H:Q0 w l) (k:K) (h:Q0 w l→K→G:=by
 intro H k
 repeat refine Q7 ?_
 refine QG ?_;refine Jv ?_;refine QU ?_
 repeat refine Q7 ?_
 refine QG ?_;refine Q5 rfl (Ki rfl rfl ?_);exact k):G:=h H k
theorem MH (H:Q0 w l) (k:K) (h:Q0 w l→K→G:=by
 intro H k;refine KA 3 rfl (Q9.none rfl) rfl (by kernel_rfl) ?_;exact k):G:=h H k
theorem MI (H:Q0 w l) (k:K) (h:Q0 w l→K→G:=by
 intro H k;refine Jv ?_;refine Jv ?_;refine Jv ?_;refine Jv ?_;refine Jv ?_;refine QU ?_
 repeat refine Q7 ?_
 refine Ae H mixed ?_;exact k):G:=h H k
theorem MJ (H:Q0 w l) (k:K) (h:Q0 w l→K→G:=by
 intro H k
 repeat refine Q7 ?_
 refine QG ?_;refine Q5 rfl (VW rfl rfl ?_);refine Q5 rfl (QA H rfl rfl rfl ?_);refine Jv ?_;refine Jv ?_;exact k):G:=h H k
theorem ML (H:Q0 w l) (k:K) (h:Q0 w l→K→G:=by
 intro H k;refine Jv ?_;refine QU ?_
 repeat refine Q7 ?_
 refine QG ?_;refine Jv ?_;refine QU ?_
 repeat refine Q7 ?_
 exact k):G:=h H k
theorem MM (H:Q0 w l) (k:K) (h:Q0 w l→K→G:=by
 intro H k;refine VG rfl rfl rfl rfl ?_;refine VG rfl rfl rfl rfl ?_;refine Jv ?_;refine Jv ?_;exact k):G:=h H k
theorem MN (H:Q0 w l) (k:K) (h:Q0 w l→K→G:=by
 intro H k;refine VG rfl rfl rfl rfl ?_;refine VG rfl rfl rfl rfl ?_;refine VG rfl rfl rfl rfl ?_;refine QS rfl rfl rfl (VW rfl rfl ?_);refine QS rfl rfl rfl (QA H rfl rfl rfl ?_);refine VG rfl rfl rfl rfl ?_;exact k):G:=h H k
theorem MO (H:Q0 w l) (k:K) (h:Q0 w l→K→G:=by
 intro H k;refine VG rfl rfl rfl rfl ?_;refine VG rfl rfl rfl rfl ?_;refine VG rfl rfl rfl rfl ?_;refine Jv ?_;refine Jv ?_;refine QU ?_;exact k):G:=h H k
theorem MP (H:Q0 w l) (k:K) (h:Q0 w l→K→G:=by
 intro H k;refine Ja 10 ?_;refine Ja 11 ?_;refine Jx H ?_;exact k):G:=h H k
theorem MT (H:Q0 w l) (k:K) (h:Q0 w l→K→G:=by
 intro H k
 repeat refine Q7 ?_
 refine QG ?_;refine Jv ?_;refine QU ?_
 repeat refine Q7 ?_
 refine QG ?_;refine Jv ?_;refine Q5 rfl (KR rfl rfl (.inl rfl) rfl ?_);refine QU ?_
 repeat refine Q7 ?_
 refine Vu rfl (QF ?_)
 repeat refine Q7 ?_
 refine Ae H mixed ?_;exact k):G:=h H k
theorem Ma (H:Q0 w l) (k:K) (h:Q0 w l→K→G:=by
 intro H k;refine VG rfl rfl rfl rfl ?_;refine Jv ?_;refine QU ?_;exact k):G:=h H k
theorem Mb (H:Q0 w l) (k:K) (h:Q0 w l→K→G:=by
 intro H k;refine VG rfl rfl rfl rfl ?_;refine VG rfl rfl rfl rfl ?_;refine VG rfl rfl rfl rfl ?_;refine QS rfl rfl rfl (VW rfl rfl ?_);refine QS rfl rfl rfl (QA H rfl rfl rfl ?_);refine QS rfl rfl rfl (Gk rfl rfl ?_);refine VG rfl rfl rfl rfl ?_;exact k):G:=h H k
theorem Mc (H:Q0 w l) (k:K) (h:Q0 w l→K→G:=by
 intro H k
 repeat refine Q7 ?_
 refine QG ?_;refine Jv ?_;refine Jv ?_;refine QU ?_
 repeat refine Q7 ?_
 refine QG ?_;refine Jv ?_;refine Q5 rfl (KR rfl rfl (.inl rfl) rfl ?_);refine QU ?_
 repeat refine Q7 ?_
 refine Vu rfl (QF ?_);exact k):G:=h H k
theorem Md (H:Q0 w l) (k:K) (h:Q0 w l→K→G:=by
 intro H k
 repeat refine Q7 ?_
 refine QG ?_;refine Jv ?_;refine QU ?_
 repeat refine Q7 ?_
 refine QG ?_;refine Jv ?_;refine Q5 rfl (KR rfl rfl (.inl rfl) rfl ?_);refine QU ?_
 repeat refine Q7 ?_
 refine Vu rfl (QF ?_)
 repeat refine Q7 ?_
 refine QG ?_;refine Jv ?_;refine Jv ?_;exact k):G:=h H k
theorem Me (H:Q0 w l) (k:K) (h:Q0 w l→K→G:=by
 intro H k;refine Ja 4 ?_;refine Ja 5 ?_;refine Ja 6 ?_;refine Jf 7 ?_;exact k):G:=h H k
theorem Mf (H:Q0 w l) (k:K) (h:Q0 w l→K→G:=by
 intro H k;refine Ja 9 ?_;refine Ja 10 ?_;refine Ja 11 ?_;refine Ja 12 ?_;refine Ja 13 ?_;exact k):G:=h H k
theorem Mg (H:Q0 w l) (k:K) (h:Q0 w l→K→G:=by
 intro H k;refine Jv ?_;refine V5 rfl rfl rfl ?_;refine V5 rfl rfl rfl ?_;refine V5 rfl rfl rfl ?_;exact k):G:=h H k
theorem Mh (H:Q0 w l) (k:K) (h:Q0 w l→K→G:=by
 intro H k;refine Wl rfl rfl ?_;refine Wl rfl rfl ?_;refine Wl rfl rfl ?_;refine V5 rfl rfl rfl ?_;exact k):G:=h H k
theorem Mi (H:Q0 w l) (k:K) (h:Q0 w l→K→G:=by
 intro H k
 repeat refine Q7 ?_
 refine QG ?_;refine Q5 rfl (VW rfl rfl ?_);refine Q5 rfl (QA H rfl rfl rfl ?_);refine Q5 rfl (VW rfl rfl ?_);refine Q5 rfl (QA H rfl rfl rfl ?_);exact k):G:=h H k
theorem Mj (H:Q0 w l) (k:K) (h:Q0 w l→K→G:=by
 intro H k;refine Jv ?_;refine Jv ?_;refine V5 rfl rfl rfl ?_;refine V5 rfl rfl rfl ?_;refine V5 rfl rfl rfl ?_;exact k):G:=h H k
theorem Mk (H:Q0 w l) (k:K) (h:Q0 w l→K→G:=by
 intro H k;refine Wl rfl rfl ?_;refine Wl rfl rfl ?_;refine Wl rfl rfl ?_;refine V5 rfl rfl rfl ?_;refine Jv ?_;refine Jv ?_;refine QU ?_;exact k):G:=h H k
theorem Ml (H:Q0 w l) (k:K) (h:Q0 w l→K→G:=by
 intro H k;refine Jv ?_;refine QU ?_
 repeat refine Q7 ?_
 refine QG ?_;refine Jv ?_;refine Q5 rfl (Gk rfl rfl ?_);refine Jv ?_;refine QU ?_;exact k):G:=h H k
theorem Mm (H:Q0 w l) (k:K) (h:Q0 w l→K→G:=by
 intro H k
 repeat refine Q7 ?_
 refine QG ?_;refine Jv ?_;refine Jv ?_;refine Q5 rfl (VW rfl rfl ?_);refine Q5 rfl (QA H rfl rfl rfl ?_);refine Q5 rfl (Gk rfl rfl ?_);exact k):G:=h H k
theorem Mn (H:Q0 w l) (k:K) (h:Q0 w l→K→G:=by
 intro H k;refine Qe ?_
 repeat refine Q7 ?_
 refine QG ?_;refine Jv ?_;refine Q5 rfl (KR rfl rfl (.inl rfl) rfl ?_);refine Jv ?_;refine QU ?_
 repeat refine Q7 ?_
 refine Vu rfl ?_
 repeat refine Q7 ?_
 refine QG ?_;refine Jv ?_;refine Jv ?_;exact k):G:=h H k
theorem Mo (H:Q0 w l) (k:K) (h:Q0 w l→K→G:=by
 intro H k;refine Jv ?_;refine Jv ?_;refine QU ?_
 repeat refine Q7 ?_
 refine YY rfl ?_
 repeat refine Q7 ?_
 refine QG ?_;refine Q5 rfl (Ki rfl rfl ?_);refine Q5 rfl (U0 H rfl rfl inferInstance rfl rfl (Nat.le_of_ble_eq_true rfl) rfl ?_);exact k):G:=h H k
theorem Mp (H:Q0 w l) (k:K) (h:Q0 w l→K→G:=by
 intro H k;refine Jv ?_;refine V5 rfl rfl rfl ?_;refine V5 rfl rfl rfl ?_;exact k):G:=h H k
theorem Mq (H:Q0 w l) (k:K) (h:Q0 w l→K→G:=by
 intro H k;refine Jv ?_;refine Jv ?_;refine QU ?_
 repeat refine Q7 ?_
 refine QG ?_;refine Jv ?_;refine Q5 rfl (KR rfl rfl (.inl rfl) rfl ?_);refine QU ?_
 repeat refine Q7 ?_
 refine Vu rfl (QF ?_);exact k):G:=h H k
theorem Mr (H:Q0 w l) (k:K) (h:Q0 w l→K→G:=by
 intro H k;refine Ja 0 ?_;refine Ja 1 ?_;refine Jf 2 ?_;refine Jl 3 [5] H ?_;refine Vw 4 [5] H rfl (Q9.none rfl) rfl (by repeat first|exact .nil _|apply QY.cons rfl) (by kernel_rfl) ?_;refine Jo 5 H ?_;exact k):G:=h H k
theorem Ms (H:Q0 w l) (k:K) (h:Q0 w l→K→G:=by
 intro H k;refine Vw 6 [7] H rfl (Q9.none rfl) rfl (by repeat first|exact .nil _|apply QY.cons rfl) (by kernel_rfl) ?_;refine Jo 7 H ?_;exact k):G:=h H k
theorem Mt (H:Q0 w l) (k:K) (h:Q0 w l→K→G:=by
 intro H k;refine Jv ?_;refine Jv ?_;refine QU ?_
 repeat refine Q7 ?_
 refine YY rfl ?_
 repeat refine Q7 ?_
 refine QG ?_;refine Jv ?_;refine QU ?_;exact k):G:=h H k
theorem Mu (H:Q0 w l) (k:K) (h:Q0 w l→K→G:=by
 intro H k;refine Ja 0 ?_;refine Ja 1 ?_;refine Jf 2 ?_;refine Jl 3 [9] H ?_;exact k):G:=h H k
theorem Mv (H:Q0 w l) (k:K) (h:Q0 w l→K→G:=by
 intro H k;refine Ja 4 ?_;refine Ja 5 ?_;refine Jf 6 ?_;exact k):G:=h H k
theorem Mw (H:Q0 w l) (k:K) (h:Q0 w l→K→G:=by
 intro H k;refine Ja 4 ?_;refine Ja 5 ?_;refine Jf 6 ?_;refine Jl 7 [] H ?_;exact k):G:=h H k
theorem Mx (H:Q0 w l) (k:K) (h:Q0 w l→K→G:=by
 intro H k;refine Jv ?_;refine QU ?_
 repeat refine Q7 ?_
 refine QG ?_;refine Jv ?_;refine Jv ?_;refine Jv ?_;exact k):G:=h H k
theorem My (H:Q0 w l) (k:K) (h:Q0 w l→K→G:=by
 intro H k
 repeat refine Q7 ?_
 refine YY rfl ?_
 repeat refine Q7 ?_
 refine QG ?_;refine Jv ?_;refine Jv ?_;refine Jv ?_;refine QU ?_;exact k):G:=h H k
theorem Mz (H:Q0 w l) (k:K) (h:Q0 w l→K→G:=by
 intro H k;refine Jv ?_;refine Jv ?_;refine Q5 rfl (U0 H rfl rfl inferInstance rfl rfl (Nat.le_of_ble_eq_true rfl) rfl ?_);exact k):G:=h H k
theorem N0 (H:Q0 w l) (k:K) (h:Q0 w l→K→G:=by
 intro H k;refine Q5 rfl (VW rfl rfl ?_);refine Q5 rfl (QA H rfl rfl rfl ?_);refine Jv ?_;exact k):G:=h H k
theorem N2 (H:Q0 w l) (k:K) (h:Q0 w l→K→G:=by
 intro H k
 repeat refine Q7 ?_
 refine QG ?_;refine Jv ?_;refine Jv ?_;refine Q5 rfl (D6 rfl rfl (.inr rfl) rfl ?_);refine QU ?_;exact k):G:=h H k
theorem N3 (H:Q0 w l) (k:K) (h:Q0 w l→K→G:=by
 intro H k;refine Jv ?_;refine Q5 rfl (VW rfl rfl ?_);refine Q5 rfl (QA H rfl rfl rfl ?_);refine Jv ?_;refine Q5 rfl (D6 rfl rfl (.inl rfl) rfl ?_);exact k):G:=h H k
theorem N4 (H:Q0 w l) (k:K) (h:Q0 w l→K→G:=by
 intro H k;refine QU ?_
 repeat refine Q7 ?_
 refine QG ?_;refine Jv ?_;refine Jv ?_;refine Q5 rfl (VW rfl rfl ?_);refine Q5 rfl (QA H rfl rfl rfl ?_);refine Jv ?_;exact k):G:=h H k
theorem N5 (H:Q0 w l) (k:K) (h:Q0 w l→K→G:=by
 intro H k
 repeat refine Q7 ?_
 refine QG ?_;refine Jv ?_;refine Jv ?_;refine Q5 rfl (VW rfl rfl ?_);refine Q5 rfl (QA H rfl rfl rfl ?_);refine Q5 rfl (Gk rfl rfl ?_);refine Jv ?_;refine QU ?_;exact k):G:=h H k
theorem N6 (H:Q0 w l) (k:K) (h:Q0 w l→K→G:=by
 intro H k;refine Jn 4 ?_;refine Jn 5 ?_;refine Jn 6 ?_;refine Jn 7 ?_;refine Jn 8 ?_;refine Jn 9 ?_;refine Jn 10 ?_;refine Jn 11 ?_;exact k):G:=h H k
theorem N7 (H:Q0 w l) (k:K) (h:Q0 w l→K→G:=by
 intro H k;refine Jn 14 ?_;refine Jn 15 ?_;refine Jn 16 ?_;refine Jn 17 ?_;refine Jn 18 ?_;refine Jn 19 ?_;refine Jn 20 ?_;refine Jn 21 ?_;refine Jn 22 ?_;refine Jn 23 ?_;exact k):G:=h H k
theorem N8 (H:Q0 w l) (k:K) (h:Q0 w l→K→G:=by
 intro H k;refine Ja 24 ?_;refine Ja 25 ?_;refine Jn 26 ?_;refine Jn 27 ?_;refine Jn 28 ?_;refine Jn 29 ?_;refine Jn 30 ?_;refine Jn 31 ?_;refine Jn 32 ?_;refine Jn 33 ?_;refine Jn 34 ?_;refine Jn 35 ?_;refine Jn 36 ?_;refine Jn 37 ?_;refine Ja 38 ?_;refine Jx H ?_
 repeat refine Q7 ?_
 refine YY rfl ?_
 repeat refine Q7 ?_
 refine QG ?_;refine Jv ?_;refine Jv ?_;refine QU ?_;exact k):G:=h H k
theorem N9 (H:Q0 w l) (k:K) (h:Q0 w l→K→G:=by
 intro H k
 repeat refine Q7 ?_
 refine QG ?_;refine Jv ?_;refine Jv ?_;refine Q5 rfl (VW rfl rfl ?_);exact k):G:=h H k
theorem NQ (H:Q0 w l) (k:K) (h:Q0 w l→K→G:=by
 intro H k;refine Q5 rfl (Ki rfl rfl ?_);refine Q5 rfl (U0 H rfl rfl inferInstance rfl rfl (Nat.le_of_ble_eq_true rfl) rfl ?_);exact k):G:=h H k
theorem NV (H:Q0 w l) (k:K) (h:Q0 w l→K→G:=by
 intro H k;refine Jv ?_;refine QU ?_
 repeat refine Q7 ?_
 refine QG ?_;refine Q5 rfl (QA H rfl rfl rfl ?_);refine Q5 rfl (Vz H rfl (by repeat first|exact .nil _|apply QY.cons rfl) rfl ?_);refine Jv ?_;exact k):G:=h H k
theorem NY (H:Q0 w l) (k:K) (h:Q0 w l→K→G:=by
 intro H k;refine Jl 0 [8] H ?_;refine Ja 1 ?_;refine Jf 2 ?_;refine Jl 3 [8] H ?_;refine Jf 4 ?_;refine Jl 5 [8] H ?_;exact k):G:=h H k
theorem NZ (H:Q0 w l) (k:K) (h:Q0 w l→K→G:=by
 intro H k;refine Jl 0 [6] H ?_;refine Ja 1 ?_;refine Jf 2 ?_;refine Jl 3 [6] H ?_;exact k):G:=h H k
theorem NG (H:Q0 w l) (k:K) (h:Q0 w l→K→G:=by
 intro H k;refine QU ?_
 repeat refine Q7 ?_
 refine QG ?_;refine Q5 rfl (Vz H rfl (by repeat first|exact .nil _|apply QY.cons rfl) rfl ?_);refine Q5 rfl (Vz H rfl (by repeat first|exact .nil _|apply QY.cons rfl) rfl ?_);refine Q5 rfl (PO rfl rfl (.inl rfl) rfl ?_);exact k):G:=h H k
theorem NU (H:Q0 w l) (k:K) (h:Q0 w l→K→G:=by
 intro H k
 repeat refine Q7 ?_
 refine QG ?_;refine Jv ?_;refine Q5 rfl (VW rfl rfl ?_);refine Q5 rfl (QA H rfl rfl rfl ?_);exact k):G:=h H k
theorem NX (H:Q0 w l) (k:K) (h:Q0 w l→K→G:=by
 intro H k;refine Q5 rfl (KR rfl rfl (.inl rfl) rfl ?_);exact k):G:=h H k
theorem NK (H:Q0 w l) (k:K) (h:Q0 w l→K→G:=by
 intro H k
 repeat refine Q7 ?_
 refine YY rfl ?_
 repeat refine Q7 ?_
 refine QG ?_;refine Jv ?_;refine Jv ?_;refine Jv ?_;exact k):G:=h H k
theorem NR (H:Q0 w l) (k:K) (h:Q0 w l→K→G:=by
 intro H k;refine Q5 rfl (VW rfl rfl ?_);refine Q5 rfl (Vz H rfl (by repeat first|exact .nil _|apply QY.cons rfl) rfl ?_);exact k):G:=h H k
theorem NW (H:Q0 w l) (k:K) (h:Q0 w l→K→G:=by
 intro H k;refine Ja 7 ?_;refine Ja 8 ?_;refine Ja 9 ?_;refine Ja 10 ?_;refine Ja 11 ?_;refine Jx H ?_
 repeat refine Q7 ?_
 refine QG ?_;refine Jv ?_;refine Jv ?_;refine Jv ?_;refine Jv ?_;exact k):G:=h H k
theorem NA (H:Q0 w l) (k:K) (h:Q0 w l→K→G:=by
 intro H k;refine Ja 10 ?_;refine Ja 11 ?_;refine Jf 12 ?_;exact k):G:=h H k
theorem NB (H:Q0 w l) (k:K) (h:Q0 w l→K→G:=by
 intro H k;refine Jv ?_;refine Jv ?_;refine QS rfl rfl rfl (VW rfl rfl ?_);refine QS rfl rfl rfl (QA H rfl rfl rfl ?_);refine QS rfl rfl rfl (Gk rfl rfl ?_);refine VG rfl rfl rfl rfl ?_;exact k):G:=h H k
theorem NC (H:Q0 w l) (k:K) (h:Q0 w l→K→G:=by
 intro H k
 repeat refine Q7 ?_
 refine Qe ?_
 repeat refine Q7 ?_
 refine QG ?_;refine Jv ?_;refine Jv ?_;refine QU ?_
 repeat refine Q7 ?_
 refine Ae H mixed ?_;exact k):G:=h H k
theorem ND (H:Q0 w l) (k:K) (h:Q0 w l→K→G:=by
 intro H k;refine Ja 0 ?_;refine Ja 1 ?_;refine Jf 2 ?_;refine Jl 3 [7] H ?_;refine Jf 4 ?_;refine Jl 5 [7] H ?_;refine Ja 6 ?_;refine Jo 7 H ?_;exact k):G:=h H k
theorem NE (H:Q0 w l) (k:K) (h:Q0 w l→K→G:=by
 intro H k;refine Ja 12 ?_;refine Jx H ?_
 repeat refine Q7 ?_
 refine QG ?_;refine Q5 rfl (VW rfl rfl ?_);refine Q5 rfl (QA H rfl rfl rfl ?_);refine Jv ?_;refine Jv ?_;refine VG rfl rfl rfl rfl ?_;refine VG rfl rfl rfl rfl ?_;refine Jv ?_;refine Jv ?_;refine QS rfl rfl rfl (VW rfl rfl ?_);refine QS rfl rfl rfl (QA H rfl rfl rfl ?_);refine QS rfl rfl rfl (VW rfl rfl ?_);refine QS rfl rfl rfl (QA H rfl rfl rfl ?_);refine VG rfl rfl rfl rfl ?_;exact k):G:=h H k
theorem NF (H:Q0 w l) (k:K) (h:Q0 w l→K→G:=by
 intro H k;refine Jv ?_;refine Jv ?_;refine QU ?_
 repeat refine Q7 ?_
 refine QG ?_;refine Jv ?_;refine Jv ?_;refine Q5 rfl (D6 rfl rfl (.inr rfl) rfl ?_);refine Jv ?_;refine VG rfl rfl rfl rfl ?_;refine VG rfl rfl rfl rfl ?_;refine V5 rfl rfl rfl ?_;refine V5 rfl rfl rfl ?_;refine V5 rfl rfl rfl ?_;refine V5 rfl rfl rfl ?_;refine V5 rfl rfl rfl ?_;refine VG rfl rfl rfl rfl ?_;refine Jv ?_;refine QU ?_
 repeat refine Q7 ?_
 refine Vu rfl (QF ?_)
 repeat refine Q7 ?_
 refine QG ?_;refine Jv ?_;refine QU ?_
 repeat refine Q7 ?_
 refine Vu rfl (QF ?_);exact k):G:=h H k
theorem Px (H:Q0 w l) (k:K) (h:Q0 w l→K→G:=by
 intro H k
 first|refine Jv ?_|refine Rx rfl rfl ?_
 refine Jv ?_;refine Jv ?_;refine Jv ?_;refine Jv ?_;refine QU ?_;exact k):G:=h H k
theorem Py (H:Q0 w l) (k:K) (h:Q0 w l→K→G:=by
 intro H k
 repeat refine Q7 ?_
 refine QG ?_;refine Jv ?_;refine QU ?_
 repeat refine Q7 ?_
 refine QG ?_;refine Jv ?_;refine QU ?_
 repeat refine Q7 ?_
 refine Qe ?_;exact k):G:=h H k
theorem Pz (H:Q0 w l) (k:K) (h:Q0 w l→K→G:=by
 intro H k;refine Ja 10 ?_;refine Ja 11 ?_;refine Ja 12 ?_;refine Ja 13 ?_;exact k):G:=h H k
theorem S0 (H:Q0 w l) (k:K) (h:Q0 w l→K→G:=by
 intro H k;refine Vw 5 [6,7,10] H rfl (Q9.none rfl) rfl (by repeat first|exact .nil _|apply QY.cons rfl) (by kernel_rfl) ?_;exact k):G:=h H k
theorem S3 (H:Q0 w l) (k:K) (h:Q0 w l→K→G:=by
 intro H k
 repeat refine Q7 ?_
 refine QG ?_;refine Q5 rfl (QA H rfl rfl rfl ?_);refine Q5 rfl (Vz H rfl (by repeat first|exact .nil _|apply QY.cons rfl) rfl ?_);refine Jv ?_;exact k):G:=h H k
theorem S4 (H:Q0 w l) (k:K) (h:Q0 w l→K→G:=by
 intro H k;refine QS rfl rfl rfl (VW rfl rfl ?_);refine QS rfl rfl rfl (QA H rfl rfl rfl ?_);refine QS rfl rfl rfl (VW rfl rfl ?_);refine QS rfl rfl rfl (QA H rfl rfl rfl ?_);refine VG rfl rfl rfl rfl ?_;exact k):G:=h H k
theorem S5 (H:Q0 w l) (k:K) (h:Q0 w l→K→G:=by
 intro H k;refine Vw 5 [7] H rfl (Q9.none rfl) rfl (by repeat first|exact .nil _|apply QY.cons rfl) (by kernel_rfl) ?_;exact k):G:=h H k
theorem S6 (H:Q0 w l) (k:K) (h:Q0 w l→K→G:=by
 intro H k;refine Vw 4 [7,12] H rfl (Q9.none rfl) rfl (by repeat first|exact .nil _|apply QY.cons rfl) (by kernel_rfl) ?_;exact k):G:=h H k
theorem S7 (H:Q0 w l) (k:K) (h:Q0 w l→K→G:=by
 intro H k;refine Ja 0 ?_;refine Ja 1 ?_;refine Jf 2 ?_;refine Jl 3 [6] H ?_;refine Jf 4 ?_;refine Jl 5 [6] H ?_;exact k):G:=h H k
theorem eu (H:Q0 w l) (k:K) (h:Q0 w l→K→G:=by
 intro H k
 repeat refine Q7 ?_
 refine QG ?_;refine Jv ?_;refine QU ?_
 repeat refine Q7 ?_
 refine QG ?_;refine Jv ?_;refine Q5 rfl (KR rfl rfl (.inl rfl) rfl ?_);refine QU ?_
 repeat refine Q7 ?_
 refine Vu rfl (QF ?_);exact k):G:=h H k
theorem ey (H:Q0 w l) (k:K) (h:Q0 w l→K→G:=by
 intro H k
 repeat refine Q7 ?_
 refine QG ?_;refine Jv ?_;refine QU ?_
 repeat refine Q7 ?_
 refine Vu rfl (QF ?_);exact k):G:=h H k
theorem ez (H:Q0 w l) (k:K) (h:Q0 w l→K→G:=by
 intro H k;refine Jv ?_;refine Jv ?_;refine QU ?_
 repeat refine Q7 ?_
 refine QG ?_;refine Jv ?_;refine Jv ?_;refine Q5 rfl (D6 rfl rfl (.inr rfl) rfl ?_);exact k):G:=h H k
end
end Go.SL
namespace Go.Proofs.YtmjdnljneifpcaaGreatDoor
open List
open Go.SL
@[reducible] def pp (b:Nat):Value := .pointer (some ⟨b,0,none⟩)
theorem Qg {x:Int} (h1 : -9223372036854775808≤x) (h2:x≤9223372036854775807):IntKind.i64.wrap x=x:=by
 simp[IntKind.wrap,IntKind.bits,IntKind.signed];omega
theorem Qh {i:Nat} (h:i < 1000000000):Value.int .i64 (IntKind.i64.wrap ((i:Int)+1)) = .int .i64 ((i+1:Nat):Int):=by
 rw[Qg (by omega) (by omega)];rfl
abbrev Fl:=Nat×Nat
def CY (f:Fl):Prop:=0 < f.2∧f.1+f.2≤64
@[reducible] def fv (f:Fl):Value := .agg #[.int .i64 f.1,.int .i64 f.2]
def f0 (f:Fl):List Value:=[.int .i64 f.1,.int .i64 f.2]
def FH (l:List Fl):List Value:=l.flatMap f0
def Qi (l:List Nat):List Value:=l.map fun x:Nat=>Value.int .u64 (x:Int)
theorem NH (l:List Fl):(FH l).length=l.length*2:=by
 induction l with
 | nil=>rfl
 | cons p L ih=>simp only[FH,f0,flatMap_cons,length_append,length_cons,length_nil] at ih ⊢;omega
theorem GY (l:List Nat):(Qi l).length=l.length*1:=by simp[Qi]
theorem oJ (a b:List Nat):Qi (a++b)=Qi a++Qi b:=by simp[Qi]
theorem NI {l:List Nat} {spare:List Value} {i x:Nat} (h:l[i]? = some x):(Qi l++spare)[0+i*1]? = some (.int .u64 x):=by
 have hi:=(List.getElem?_eq_some_iff.1 h).1;rw[Nat.zero_add,Nat.mul_one,getElem?_append_left (by simpa [Qi] using hi)];simp[Qi,h]
theorem oL {L:List Fl} {i:Nat} {p:Fl} (h:L[i]? = some p):(FH L)[i*2]? = some (.int .i64 p.1)∧(FH L)[i*2+1]? = some (.int .i64 p.2):=by
 induction L generalizing i with
 | nil=>simp at h
 | cons x L ih=>
  cases i with
  | zero=>
   simp at h;subst h;exact⟨rfl,rfl⟩
  | succ i=>
   have:=ih (i:=i) (by simpa using h);rw[show (i+1)*2=i*2+2 by omega];exact this
theorem S8 {L:List Fl} {spare:List Value} {i:Nat} {p:Fl} (h:L[i]? = some p):QY (FH L++spare) (0+i*2) 2 [.int .i64 p.1,.int .i64 p.2]:=by
 obtain⟨h1,h2⟩:=oL h;have hi:=(List.getElem?_eq_some_iff.1 h).1;have hl:=NH L;rw[Nat.zero_add];refine .cons ?_ (.cons ?_ (.nil _))
 ·rw[getElem?_append_left (by omega)];exact h1
 ·rw[getElem?_append_left (by omega)];exact h2
@[reducible] def FL (v:Value) (l:List Fl):Q2:=QE 307 2 v (FH l)
@[reducible] def UL (v:Value) (l:List Nat):Q2:=QE 83 1 v (Qi l)
theorem f8 [Q4] (f:Fl) (hf:CY f) {w:World} {fr:List Q2} (H:Q0 w fr):Calls Tryz.prog 250 #[fv f] w (ret fun v w'=>v = .bool true∧Q0 w' fr):=by
 obtain⟨a,d⟩:=f;obtain⟨h1,h2⟩:=hf;dsimp only at h1 h2;refine QQ Tryz.func250 rfl (by kernel_rfl) ?_;refine J8 H ?_;clear H;intro b1 w H;refine J0 H ?_;refine Wo H ?_;rw[show decide ((a:Int)≥0)=true from decide_eq_true (by omega)];refine Eh H ?_;rw[show decide ((a:Int) < 64)=true from decide_eq_true (by omega)];refine Hw H ?_;rw[show decide ((d:Int) > 0)=true from decide_eq_true (by omega)];refine ZS H ?_;refine Ra H ?_;refine Ra H ?_;refine GL H ?_;rw[show decide ((d:Int)≤IntKind.i64.wrap (64 - (a:Int)))=true from decide_eq_true (by rw[Qg (by omega) (by omega)];omega)];refine J4 H ?_;exact Q3 (Jy H.drop rfl fun w' H'=>⟨rfl,H'⟩)
theorem NJ [Q4] (f:Fl) (hf:CY f) {w:World} {fr:List Q2} (H:Q0 w fr):Calls Tryz.prog 218 #[fv f] w (ret fun v w'=>v = .int .u64 (Zh f.1 f.2)∧Q0 w' fr):=by
 obtain⟨a,d⟩:=f;obtain⟨h1,h2⟩:=hf;dsimp only at h1 h2;refine QQ Tryz.func218 rfl (by kernel_rfl) ?_;refine J8 H ?_;clear H;intro b1 w H;refine J0 H ?_;have e64:IntKind.i64.wrap (64 - (d:Int))=((64 - d:Nat):Int):=by rw[Qg (by omega) (by omega)];omega
 have e1:Rv .u64 18446744073709551615 ((64 - d:Nat):Int)=((2 ^ d - 1:Nat):Int):=by
  rw[show (18446744073709551615:Int)=((18446744073709551615:Nat):Int) from rfl,Hm (by omega) rfl];congr 1;have hp:(18446744073709551615:Nat)=2 ^ d*2 ^ (64 - d) - 1:=by rw[← Nat.pow_add,show d+(64 - d)=64 by omega]
  rw[hp];have hd:=Nat.two_pow_pos (64 - d);have B2:=Nat.two_pow_pos d
  rw[show 2 ^ d*2 ^ (64 - d) - 1=(2 ^ (64 - d) - 1)+2 ^ (64 - d)*(2 ^ d - 1) by
   rw[Nat.mul_sub,Nat.mul_comm (2 ^ d),Nat.mul_one];have:2 ^ (64 - d)≤2 ^ (64 - d)*2 ^ d:=Nat.le_mul_of_pos_right _ B2;omega]
  rw[Nat.add_mul_div_left _ _ hd,Nat.div_eq_of_lt (by omega),Nat.zero_add]
 have e2:Wg .u64 ((2 ^ d - 1:Nat):Int) (a:Int)=(Zh a d:Nat):=by
  rw[Pj (by omega)];have:=Hn (a:=a) (wd:=d) h2;unfold Zh at this ⊢;rw[Nat.mod_eq_of_lt this]
 refine J1 H ?_;clear H;intro w H;refine Bu H ?_;rw[e64]
 refine XW (v := .int .u64 (Rv .u64 18446744073709551615 ((64 - d:Nat):Int))) 3 rfl (Q9.none rfl) (by
  show (if ((64 - d:Nat):Int) < 0 then none else some _)=_;rw[if_neg (by omega)]) (by kernel_rfl) ?_
 rw[e1];refine Bv H ?_
 refine XW (v := .int .u64 (Wg .u64 ((2 ^ d - 1:Nat):Int) (a:Int))) 6 rfl (Q9.none rfl) (by
  show (if (a:Int) < 0 then none else some _)=_;rw[if_neg (by omega)]) (by kernel_rfl) ?_
 rw[e2];refine Ja 7 ?_;refine Jx H ?_;exact Q3 (Jy H.drop rfl fun w' H'=>⟨rfl,H'⟩)
def CZ (fs:List Fl):Prop:=(∀ f∈fs,CY f)∧fs.Pairwise (fun f g=>f.1+f.2≤g.1)
theorem CZ.at {fs:List Fl} (h:CZ fs) {i:Nat} {f:Fl} (hf:fs[i]? = some f):CY f:=h.1 f (mem_of_getElem? hf)
theorem f9 [Q4] (v:Value) (fs:List Fl) (B3:CZ fs) (hl:fs.length≤1000000) {w:World} {fr:List Q2} (H:Q0 w (FL v fs::fr)) :
  Calls Tryz.prog 217 #[v] w (ret fun x w'=>x = .bool true∧Q0 w' (FL v fs::fr)):=by
 obtain⟨a,c,rfl⟩:=QI H (NH fs) (by decide);refine QQ Tryz.func217 rfl (by kernel_rfl) ?_;refine Vl H ?_;refine Ei H ?_;refine Qq (fun ms σ w n=>ms=[]∧∃ (i A:Nat),i≤fs.length∧n=fs.length - i∧(∀ f∈fs.drop i,A < 2 ^ f.1)∧σ 3 = .int .u64 A∧σ 6 = .slice a fs.length c∧σ 7 = .int .i64 fs.length∧σ 8 = .int .i64 i∧Q0 w (FL (.slice a fs.length c) fs::fr)) (m:=fs.length) ⟨rfl,0,0,by omega,rfl,fun f _=>Nat.two_pow_pos _,rfl,rfl,rfl,rfl,H⟩ ?_;clear H;rintro ms σ w n ⟨rfl,i,A,hi,rfl,hA,g3,g6,g7,g8,H⟩;rw[Q1 g3,Q1 g6,Q1 g7,Q1 g8];refine J7 H ?_;refine Qm rfl (fun h=>QF ?_) (fun h=>Qv ?_)
 ·have Q6:i < fs.length:=by omega
  have hx:=getElem?_eq_getElem Q6;have G0:fs.drop i=fs[i]::fs.drop (i+1):=drop_eq_getElem_cons Q6;have CG:=B3.2;rw[← take_append_drop i fs,G0] at CG;have Ij:=(pairwise_cons.1 (pairwise_append.1 CG).2.1).1;rw[G0] at hA;generalize fs[i]=f at hx Ij hA;have hf:=B3.at hx;have S9:=hA f (by simp);have fQ:A < 18446744073709551616:=Nat.lt_of_lt_of_le S9 (Nat.le_trans (Nat.pow_le_pow_right (by decide) (show f.1≤64 by have:=hf.2;omega)) (by decide));have DT:=Hn (a:=f.1) (wd:=f.2) hf.2
  have hand:ZO .and .u64 (A:Int) (Zh f.1 f.2:Nat)=0:=by
   rw[MX fQ DT,eE,Nat.div_eq_of_lt S9];simp
  have oM:ZO .or .u64 (A:Int) (Zh f.1 f.2:Nat)=((A+Zh f.1 f.2:Nat):Int):=by
   rw[eB fQ DT];unfold Zh;rw[eF S9]
  obtain⟨b,s,rfl,H,QK⟩:=VX H (by omega);refine Z7 H ?_;refine Jd ?_;refine Q5 rfl (Vz H rfl (S8 hx) rfl ?_);refine VS H ?_;clear H;intro b5 w H;refine J5 H ?_;clear H;intro w H;refine QU ?_
  repeat refine Q7 ?_
  refine QG ?_;refine Q5 rfl (Vz H rfl (by repeat first|exact .nil _|apply QY.cons rfl) rfl ?_);refine Jc rfl rfl (f8 f hf H) ?_;clear H;rintro v w ⟨rfl,H⟩;refine DZ H ?_;refine DG H ?_;refine QS rfl rfl rfl (V1 (a:=[]) (b:=[]) rfl rfl (call (NJ f hf H) ?_));clear H;rintro v w ⟨rfl,H⟩;refine VG rfl rfl (v := .int .u64 (ZO .and .u64 (A:Int) (Zh f.1 f.2:Nat))) rfl rfl ?_;rw[hand];refine W2 H ?_;refine Xt H ?_;refine Jc rfl rfl (NJ f hf H) ?_;clear H;rintro v w ⟨rfl,H⟩;refine Kh (v := .int .u64 (ZO .or .u64 (A:Int) (Zh f.1 f.2:Nat))) rfl rfl ?_;rw[oM];refine ZX H ?_;replace H:=QK _ _ H.drop;refine⟨_,⟨rfl,i+1,A+Zh f.1 f.2,Q6,rfl,fun g hg=>?_,rfl,rfl,rfl,Qh (by omega),H⟩,by omega⟩;have h1:=Ij g hg
  have h2:A+Zh f.1 f.2 < 2 ^ (f.1+f.2):=by
   unfold Zh;rw[Nat.pow_add,Nat.sub_mul,Nat.one_mul,Nat.mul_comm (2 ^ f.2)];have:2 ^ f.1≤2 ^ f.1*2 ^ f.2:=Nat.le_mul_of_pos_right _ (Nat.two_pow_pos _);omega
  exact Nat.lt_of_lt_of_le h2 (Nat.pow_le_pow_right (by decide) h1)
 ·refine Vl H ?_;exact Q3 (Jy H rfl fun w' H'=>⟨rfl,H'⟩)
def GZ (x:Nat) (f:Fl):Nat:=x / 2 ^ f.1 % 2 ^ f.2
theorem SQ [Q4] (x:Nat) (NM:x < 18446744073709551616) (v:Value) (fs:List Fl) (B3:CZ fs) (hl:fs.length≤1000) {w:World} {fr:List Q2} (H:Q0 w (FL v fs::fr)) :
  Calls Tryz.prog 145 #[.int .u64 x,v] w (ret fun r w'=>∃ u,r = .tuple #[u,.int .i64 0]∧Q0 w' (UL u (fs.map (GZ x))::FL v fs::fr)):=by
 obtain⟨a,c,rfl⟩:=QI H (NH fs) (by decide);refine QQ Tryz.func145 rfl (by kernel_rfl) ?_;refine MC H ?_;refine Jc rfl rfl (f9 _ fs B3 (by omega) H) ?_;clear H;rintro v w ⟨rfl,H⟩;refine YS H ?_;refine Ei H ?_;refine Qq (fun ms σ w n=>ms=[]∧∃ (i:Nat) (g:Value),i≤fs.length∧n=fs.length - i∧σ 0 = .int .u64 x∧σ 6=g∧σ 12 = .slice a fs.length c∧σ 13 = .int .i64 fs.length∧σ 14 = .int .i64 i∧Q0 w (UL g ((fs.take i).map (GZ x))::FL (.slice a fs.length c) fs::fr)) (m:=fs.length) ⟨rfl,0,_,by omega,rfl,rfl,rfl,rfl,rfl,rfl,Zy H⟩ ?_;clear H;rintro ms σ w n ⟨rfl,i,g,hi,rfl,g0,g6,g12,g13,g14,H⟩;obtain⟨ag,cg,rfl⟩:=QI H (GY _) (by decide);rw[Q1 g0,Q1 g6,Q1 g12,Q1 g13,Q1 g14];refine J7 H ?_;refine Qm rfl (fun h=>QF ?_) (fun h=>Qv ?_)
 ·have Q6:i < fs.length:=by omega
  have hx:=getElem?_eq_getElem Q6;generalize fs[i]=f at hx;have hf:=B3.at hx;have DT:=Hn (a:=f.1) (wd:=f.2) hf.2;have SV:f.1 < 64:=by have:=hf.1;have:=hf.2;omega
  have Y1:Rv .u64 (ZO .and .u64 (x:Int) (Zh f.1 f.2:Nat)) (f.1:Int)=(GZ x f:Nat):=by
   rw[MX NM DT,Hm SV rfl,nf];rfl
  replace H:=Js [1,0] 0 H;obtain⟨b,s,rfl,H,QK⟩:=VX H (by omega);refine Z7 H ?_;refine Jd ?_;refine Q5 rfl (Vz H rfl (S8 hx) rfl ?_);refine VS H ?_;clear H;intro b8 w H;refine J5 H ?_;clear H;intro w H;refine J2 H ?_;replace H:=QK _ _ H.swap;replace H:=Js [2,1,0] 0 H;refine J1 H ?_;clear H;intro w H;refine DU H ?_;refine Vw 2 [3,8,9] H rfl (Q9.none rfl) rfl (by repeat first|exact .nil _|apply QY.cons rfl) (by kernel_rfl) ?_;refine Jf 5 ?_;refine Jl 6 [8,9] H ?_;refine Jo 3 H ?_;refine Jk rfl rfl (NJ f hf H) ?_;clear H;rintro v w ⟨rfl,H⟩;refine XW (v := .int .u64 (ZO .and .u64 (x:Int) (Zh f.1 f.2:Nat))) 4 rfl (Q9.none rfl) rfl (by kernel_rfl) ?_
  refine XW (v := .int .u64 (Rv .u64 (ZO .and .u64 (x:Int) (Zh f.1 f.2:Nat)) (f.1:Int))) 7 rfl (Q9.none rfl) (by
   show (if (f.1:Int) < 0 then none else some _)=_;rw[if_neg (by omega)]) (by kernel_rfl) ?_
  rw[Y1];refine Jo 8 H ?_;refine DX H ?_;clear H;intro b26 w H;replace H:=Js [1,0,1] 1 H;refine Jo 9 H ?_;refine ZU H rfl rfl (by repeat first|exact .nil _|apply QY.cons rfl) rfl (by decide) (by rw[GY,length_map,length_take];simp only[length_cons,length_nil];omega) rfl rfl ?_;clear H;intro v27 w H;obtain⟨a27,m27,c27,rfl⟩:=V8 H;refine DR H ?_;refine J3 H ?_;replace H:=Js [0,1] 1 H;refine⟨_,⟨rfl,i+1,_,Q6,rfl,rfl,rfl,rfl,rfl,Qh (by omega),?_⟩,by omega⟩
  have ht:(fs.take (i+1)).map (GZ x)=(fs.take i).map (GZ x)++[GZ x f]:=by
   rw[take_add_one,hx,map_append];rfl
  rw[ht];show Q0 w (QE _ 1 _ (Qi ((fs.take i).map (GZ x)++[GZ x f]))::_);rw[oJ];exact H
 ·have V2:i=fs.length:=by omega
  subst V2;rw[take_length] at H;refine Vj H ?_;exact Q3 (Z2 (vs:=[.slice ag (List.map (GZ x) fs).length cg,.int .i64 0]) _ (.inr rfl) H (by rw[take_length];rfl) fun w' H'=>⟨_,rfl,H'⟩)
theorem fV:∀ (f x:Nat),Lib.bitLenAux f x≤f
 | 0,_=>Nat.le_refl _
 | f+1,x=>by
  unfold Lib.bitLenAux;split
  ·omega
  ·have:=fV f (x / 2);omega
theorem oN {x k:Nat} (h:x < 2 ^ k) (hk:k≤64):Lib.bitLen x≤k:=by
 unfold Lib.bitLen;rw[Lib.bitLenAux_fuel k x h 64 hk];exact fV k x
theorem oO [Q4] (x:Nat) (hx:x < 18446744073709551616) {w:World} {fr:List Q2} (H:Q0 w fr):Calls Tryz.prog 197 #[.int .u64 x] w (ret fun v w'=>v = .int .i64 (Lib.bitLen x)∧Q0 w' fr):=by
 refine(Any.bits_Len64 Tryz.laysLen (x:Int) w (by omega) (by omega)).mono ?_;rintro e w' ⟨rfl,rfl⟩;exact⟨by rw[Int.toNat_natCast],H⟩
theorem NN {k:Nat} (h:k≤64):2 ^ k≤18446744073709551616:=Nat.le_trans (Nat.pow_le_pow_right (by decide) h) (by decide)
theorem oP [Q4] (x:Nat) (f:Fl) (y:Nat) (hf:CY f) (hx:x < 2 ^ f.1) (hy:y < 2 ^ f.2) {w:World} {fr:List Q2} (H:Q0 w fr) :
  Calls Tryz.prog 247 #[.int .u64 x,fv f,.int .u64 y] w (ret fun v w'=>v = .tuple #[.int .u64 ((x+y*2 ^ f.1:Nat):Int),.int .i64 0]∧Q0 w' fr):=by
 have h1:=hf.1;have h2:=hf.2;have NM:x < 18446744073709551616:=Nat.lt_of_lt_of_le hx (NN (by omega));have oS:y < 18446744073709551616:=Nat.lt_of_lt_of_le hy (NN (by omega));have DT:=Hn (a:=f.1) (wd:=f.2) hf.2;have CU:=oN hy (by omega);have e1:ZO .andNot .u64 (x:Int) (Zh f.1 f.2:Nat)=(x:Nat):=by rw[nc NM DT,ng hx hf.2]
 have GM:y*2 ^ f.1 < 18446744073709551616:=by
  have:y*2 ^ f.1 < 2 ^ f.2*2 ^ f.1:=(Nat.mul_lt_mul_right (Nat.two_pow_pos _)).2 hy;rw[← Nat.pow_add] at this;exact Nat.lt_of_lt_of_le this (NN (by omega))
 have e2:Wg .u64 (y:Int) (f.1:Int)=((y*2 ^ f.1:Nat):Int):=by rw[Pj (by omega),Nat.mod_eq_of_lt GM]
 have e3:ZO .or .u64 (x:Int) ((y*2 ^ f.1:Nat):Int)=((x+y*2 ^ f.1:Nat):Int):=by rw[eB NM GM,eF hx]
 obtain⟨a,d⟩:=f;dsimp only at h1 h2 hx hy DT CU e1 e2 e3 GM;refine QQ Tryz.func247 rfl (by kernel_rfl) ?_;refine J8 H ?_;clear H;intro b4 w H;refine Ai H ?_;refine Qt (fun ms σ w=>ms=[]∧σ 0 = .int .u64 x∧σ 2 = .int .u64 y∧σ 4=pp b4∧Q0 w (pts b4 (row 307 [.int .i64 a,.int .i64 d])::fr)) ?_ ?_
 ·refine Qe ?_;refine XD H ?_;refine Jc rfl rfl (f8 (a,d) hf H) ?_;clear H;rintro v w ⟨rfl,H⟩;refine Aj H ?_;refine J1 H ?_;clear H;intro w H;refine Ja 0 ?_;refine Jf 2 ?_;refine Jl 3 [] H ?_;refine Jo 1 H ?_;refine Jk rfl rfl (oO y oS H) ?_;clear H;rintro v w ⟨rfl,H⟩;refine Ja 4 ?_;rw[show decide (((Lib.bitLen y:Nat):Int) > (d:Int))=false from decide_eq_false (by omega)];refine Ja 5 ?_;refine ME H ?_;exact⟨rfl,rfl,rfl,rfl,rfl,H⟩
 ·clear H;rintro ms σ w ⟨rfl,g0,g2,g4,H⟩;rw[Q1 g0,Q1 g2,Q1 g4];refine J1 H ?_;clear H;intro w H;refine Ja 0 ?_;refine Vw 1 [2] H rfl (Q9.none rfl) rfl (by repeat first|exact .nil _|apply QY.cons rfl) (by kernel_rfl) ?_;refine Ja 4 ?_;refine Jf 5 ?_;refine Jl 6 [] H ?_
  refine XW (v := .int .u64 (Wg .u64 (y:Int) (a:Int))) 7 rfl (Q9.none rfl) (by
   show (if (a:Int) < 0 then none else some _)=_;rw[if_neg (by omega)]) (by kernel_rfl) ?_
  rw[e2];refine Jo 2 H ?_;refine Jk rfl rfl (NJ (a,d) hf H) ?_;clear H;rintro v w ⟨rfl,H⟩;refine XW (v := .int .u64 (ZO .andNot .u64 (x:Int) (Zh a d:Nat))) 3 rfl (Q9.none rfl) rfl (by kernel_rfl) ?_;rw[e1];refine XW (v := .int .u64 (ZO .or .u64 (x:Int) ((y*2 ^ a:Nat):Int))) 8 rfl (Q9.none rfl) rfl (by kernel_rfl) ?_;rw[e3];refine Ja 9 ?_;refine DR H ?_;exact Q3 (Jy H.drop rfl fun w' H'=>⟨rfl,H'⟩)
def Ux:List Fl→List Nat→Nat
 | f::fs,x::xs=>x*2 ^ f.1+Ux fs xs
 | _,_=>0
theorem fY:∀ (fs:List Fl) (xs:List Nat) (f:Fl) (x:Nat),fs.length=xs.length→Ux (fs++[f]) (xs++[x])=Ux fs xs+x*2 ^ f.1
 | [],[],f,x,_=>by simp[Ux]
 | [],_::_,_,_,h=>by simp at h
 | _::_,[],_,_,h=>by simp at h
 | g::fs,y::xs,f,x,h=>by
  have ih:=fY fs xs f x (by simpa using h);show y*2 ^ g.1+Ux (fs++[f]) (xs++[x])=y*2 ^ g.1+Ux fs xs+x*2 ^ f.1;rw[ih];omega
theorem NO [Q4] (vf vx:Value) (fs:List Fl) (xs:List Nat) (B3:CZ fs) (hl:fs.length≤1000) (Qw:fs.length=xs.length) (hb:∀ (i:Nat) (f:Fl) (x:Nat),fs[i]? = some f→xs[i]? = some x→x < 2 ^ f.2) {w:World} {fr:List Q2} (H:Q0 w (FL vf fs::UL vx xs::fr)) :
  Calls Tryz.prog 206 #[vf,vx] w (ret fun v w'=>v = .tuple #[.int .u64 (Ux fs xs),.int .i64 0]∧Q0 w' (FL vf fs::UL vx xs::fr)):=by
 obtain⟨a,c,rfl⟩:=QI H (NH fs) (by decide);obtain⟨a1,c1,rfl⟩:=QI H.drop (GY xs) (by decide);refine QQ Tryz.func206 rfl (by kernel_rfl) ?_;refine MC H ?_;refine Hx H ?_;refine Hx H ?_;rw[show ((fs.length:Int) != (xs.length:Int))=false by rw[Qw];simp];refine Ej H ?_;refine QS rfl rfl rfl (V1 (a:=[]) (b:=[]) rfl rfl (call (f9 _ fs B3 (by omega) H) ?_));clear H;rintro v w ⟨rfl,H⟩;refine W2 H ?_;refine Ei H ?_;refine Qq (fun ms σ w n=>ms=[]∧∃ i:Nat,i≤fs.length∧n=fs.length - i∧(∀ f∈fs.drop i,Ux (fs.take i) (xs.take i) < 2 ^ f.1)∧σ 1 = .slice a1 xs.length c1∧σ 6 = .int .u64 (Ux (fs.take i) (xs.take i))∧σ 20 = .slice a fs.length c∧σ 21 = .int .i64 fs.length∧σ 22 = .int .i64 i∧Q0 w (FL (.slice a fs.length c) fs::UL (.slice a1 xs.length c1) xs::fr)) (m:=fs.length) ⟨rfl,0,by omega,rfl,fun f _=>by simp only[take_zero,Ux];exact Nat.two_pow_pos _,rfl,rfl,rfl,rfl,rfl,H⟩ ?_;clear H;rintro ms σ w n ⟨rfl,i,hi,rfl,hW,g1,g6,g20,g21,g22,H⟩;rw[Q1 g1,Q1 g6,Q1 g20,Q1 g21,Q1 g22];refine J7 H ?_;refine Qm rfl (fun h=>QF ?_) (fun h=>Qv ?_)
 ·have Q6:i < fs.length:=by omega
  have hx:=getElem?_eq_getElem Q6;have hy:=getElem?_eq_getElem (l:=xs) (i:=i) (by omega);have G0:fs.drop i=fs[i]::fs.drop (i+1):=drop_eq_getElem_cons Q6;have CG:=B3.2;rw[← take_append_drop i fs,G0] at CG;have Ij:=(pairwise_cons.1 (pairwise_append.1 CG).2.1).1;rw[G0] at hW;generalize fs[i]=f at hx Ij hW;generalize xs[i]'(by omega)=y at hy;have hf:=B3.at hx;have oT:=hW f (by simp);have WG:=hb i f y hx hy
  have fZ:Ux (fs.take (i+1)) (xs.take (i+1))=Ux (fs.take i) (xs.take i)+y*2 ^ f.1:=by
   rw[take_add_one,take_add_one,hx,hy];exact fY _ _ f y (by rw[length_take,length_take,Qw])
  obtain⟨b,s,rfl,H,QK⟩:=VX H (by omega);obtain⟨b2,s2,rfl,H,oa⟩:=VX H.swap (by omega);refine Ek H ?_;refine Jd ?_;refine Q5 rfl (Vz H rfl (S8 hx) rfl ?_);refine VS H ?_;clear H;intro b8 w H;refine Hy H ?_;clear H;intro w H;refine J2 H ?_;refine J7 H ?_;refine Ae H mixed ?_;clear H;intro w H;refine Ja 0 ?_;refine Vw 1 [6] H rfl (Q9.none rfl) rfl (by repeat first|exact .nil _|apply QY.cons rfl) (by kernel_rfl) ?_;refine Ja 2 ?_;refine Ja 3 ?_;refine Ji 4 ?_;refine YZ 5 [6] H rfl (Q9.none rfl) rfl (NI hy) (by kernel_rfl) ?_
  refine Jo 6 H ?_;refine Jk rfl rfl (oP _ f y hf oT WG H) ?_;clear H;rintro v w ⟨rfl,H⟩;refine KB H ?_;refine KC H ?_;refine J3 H ?_;replace H:=Js [1,1] 1 H;replace H:=oa _ _ H;replace H:=QK _ _ H.swap;refine⟨_,⟨rfl,i+1,Q6,rfl,fun g hg=>?_,rfl,?_,rfl,rfl,Qh (by omega),H⟩,by omega⟩
  ·have h1:=Ij g hg;rw[fZ]
   have h2:Ux (fs.take i) (xs.take i)+y*2 ^ f.1 < 2 ^ (f.1+f.2):=by
    rw[Nat.pow_add];have:(y+1)*2 ^ f.1≤2 ^ f.2*2 ^ f.1:=Nat.mul_le_mul_right _ WG;rw[Nat.add_mul,Nat.one_mul] at this;rw[Nat.mul_comm (2 ^ f.1)];omega
   exact Nat.lt_of_lt_of_le h2 (Nat.pow_le_pow_right (by decide) h1)
  ·rw[fZ];rfl
 ·have V2:i=fs.length:=by omega
  subst V2;refine Vj H ?_;refine Q3 (Jy H rfl fun w' H'=>⟨?_,H'⟩);have e:xs.take fs.length=xs:=by rw[Qw,take_length]
  rw[take_length,e];rfl
end Go.Proofs.YtmjdnljneifpcaaGreatDoor
