/- Cells: what is proved on the way: every input of the statement; no condition. Texts joined: Dic RemA FldA FldB. -/
import Derived.Test.YtcaaojbnjfdglaaGreatDoorCia
import Derived.Test.YtcaaojbnjfdglaaGreatDoorCib
import Derived.Test.YtcaaojbnjfdglaaGreatDoorCic
import Derived.Test.YtcaaojbnjfdglaaGreatDoorCid
import Derived.Test.YtcaaojbnjfdglaaGreatDoorCie
set_option linter.unusedVariables false
set_option linter.unusedSimpArgs false
set_option linter.unusedSectionVars false
namespace Go.SL
section
variable [Extra] {P : Program} {n : Nat} {r : Option Nat} {ops : Array Oper} {Q : Post} {ms : List Nat} {σ : Env} {w : World} {rest : List Oper} {o : Oper} {l : List HProp} {ivs : List (List Nat × (World → Prop))} {T : Env → World → Prop} {f : Nat} {L : Array Bool} {t u : TypeId} {p : String} {af : Array Edge} {g : Option (Nat × Bool)} {d : Option Tmp} {x : Operand} {G K : Prop}
theorem Jo (j : Nat) (H : Holds w l) (k : St P n r o σ w (Any P n r ops ivs T f (L.setIfInBounds j true))) (hi : ops[j]? = some o := by rfl) (hr : Region.ready .any ops L = [j] := by kernel_rfl)
    (hI : Holds w l → InvL ivs L w := by intro H; repeat first | exact InvL.nil | refine InvL.cons (.inr (Holds.at H)) ?_ | refine InvL.cons (.inr (Holds.mp H)) ?_ | refine InvL.cons (.inl (by kernel_rfl)) ?_)
    (hg : Wants ops σ o true := by first | exact Wants.none rfl | exact Wants.of rfl rfl rfl) : Any P n r ops ivs T (f + 1) L σ w := A_one j hi hr (hI H) hg k
theorem Jk {f : FuncId} {K : Env → World → Prop} {xs : List Operand} {ts : Array TypeId} {R : Value → World → Prop} (hx : ev σ x = .func (.func f) #[] #[]) [hb : TBody P f] (hd : okd n d = true) (s : Calls P f (xs.map (ev σ)).toArray w (ret R)) (k : ∀ v w', R v w' → K (put σ d v) w') :
    St P n r ⟨d, .call { callee := .value x, args := xs.toArray, argTypes := ts }, u, p, af, g⟩ σ w K := St_call (a := []) (b := []) hx hd (by rw [List.nil_append, List.append_nil]; exact call s k)
theorem Jc {f : FuncId} {xs : List Operand} {ts : Array TypeId} {R : Value → World → Prop} (hx : ev σ x = .func (.func f) #[] #[]) [hb : TBody P f] (hd : okd n d = true) (s : Calls P f (xs.map (ev σ)).toArray w (ret R)) (k : ∀ v w', R v w' → Lp P n r ops Q rest ms (put σ d v) w') :
    Lp P n r ops Q (⟨d, .call { callee := .value x, args := xs.toArray, argTypes := ts }, u, p, af, none⟩ :: rest) ms σ w := Lp_s rfl (Jk hx hd s k)
theorem Js {l' : List HProp} (is : List Nat) (m : Nat) (H : Holds w l) (h : Holds w (sel is m l) → Holds w l' := by intro H; dsimp only [SL.sel, SL.pull, List.drop] at H; exact H) : Holds w l' := h (H.sel is m)
theorem Jy {fn : Func} {R : Value → World → Prop} {e : Exit} {vs : List Value} (H : Holds w l) (h : res σ fn.results.toList = some vs) (hr : ∀ w', Holds w' l → R (resV vs) w') (he : e = .normal ∨ e = .ret := by first | exact .inr rfl | exact .inl rfl) : fnPost P n fn R e [] σ w := fn_end0 _ he H h hr
theorem Jz {fn : Func} {R : Value → World → Prop} {e : Exit} {vs : List Value} (H : Holds w l) (h : ∀ w', Holds w' l → ResAt P σ w' fn.results.toList vs) (hr : ∀ w', Holds w' l → R (resV vs) w') (he : e = .normal ∨ e = .ret := by first | exact .inr rfl | exact .inl rfl) : fnPost P n fn R e [] σ w := fn_endC _ he H h hr
theorem J0 (H : Holds w l) (k : K) (h : Holds w l → K → G := by
 intro H k
 refine Lp_pv rfl rfl ?_
 refine Lp_nil ?_
 exact k) : G := h H k
theorem J1 (H : Holds w l) (k : K) (h : Holds w l → K → G := by
 intro H k
 repeat refine C_seq ?_
 refine C_drawH H mixed ?_
 exact k) : G := h H k
theorem J2 (H : Holds w l) (k : K) (h : Holds w l → K → G := by
 intro H k
 repeat refine C_seq ?_
 refine C_region ?_
 refine Lp_pv rfl rfl ?_
 refine Lp_pv rfl rfl ?_
 exact k) : G := h H k
theorem J3 (H : Holds w l) (k : K) (h : Holds w l → K → G := by
 intro H k
 refine Lp_pv rfl rfl ?_
 refine Lp_pv rfl rfl ?_
 refine Lp_nil ?_
 exact k) : G := h H k
theorem J4 (H : Holds w l) (k : K) (h : Holds w l → K → G := by
 intro H k
 refine Lp_s rfl (St_storeN H rfl rfl inferInstance rfl rfl (Nat.le_of_ble_eq_true rfl) rfl ?_)
 exact k) : G := h H k
theorem J5 (H : Holds w l) (k : K) (h : Holds w l → K → G := by
 intro H k
 refine A_end (by kernel_rfl) (by repeat first | exact .nil | refine .cons (.inr H.at) ?_ | refine .cons (.inr H.mp) ?_ | refine .cons (.inl (by kernel_rfl)) ?_) ?_
 exact k) : G := h H k
theorem J6 (H : Holds w l) (k : K) (h : Holds w l → K → G := by
 intro H k
 repeat refine C_seq ?_
 refine C_region ?_
 refine Lp_s rfl (St_boxN H rfl rfl ?_)
 exact k) : G := h H k
theorem J7 (H : Holds w l) (k : K) (h : Holds w l → K → G := by
 intro H k
 refine Lp_pv rfl rfl ?_
 refine Lp_pv rfl rfl ?_
 exact k) : G := h H k
theorem J8 (H : Holds w l) (k : K) (h : Holds w l → K → G := by
 intro H k
 repeat refine C_seq ?_
 refine C_region ?_
 refine Lp_pv rfl rfl ?_
 refine Lp_pv rfl rfl ?_
 refine Lp_nil ?_
 exact k) : G := h H k
theorem J9 (H : Holds w l) (k : K) (h : Holds w l → K → G := by
 intro H k
 repeat refine C_seq ?_
 refine C_false rfl (C_skip ?_)
 exact k) : G := h H k
theorem J10 (H : Holds w l) (k : K) (h : Holds w l → K → G := by
 intro H k
 refine Lp_pv rfl rfl ?_
 exact k) : G := h H k
theorem J11 (H : Holds w l) (k : K) (h : Holds w l → K → G := by
 intro H k
 refine Lp_pv rfl rfl ?_
 refine Lp_pv rfl rfl ?_
 refine Lp_pv rfl rfl ?_
 refine Lp_s rfl (St_alloc H rfl ?_)
 exact k) : G := h H k
theorem J12 (H : Holds w l) (k : K) (h : Holds w l → K → G := by
 intro H k
 repeat refine C_seq ?_
 refine C_region ?_
 refine Lp_pv rfl rfl ?_
 refine Lp_pv rfl rfl ?_
 refine Lp_pv rfl rfl ?_
 exact k) : G := h H k
theorem J13 (H : Holds w l) (k : K) (h : Holds w l → K → G := by
 intro H k
 repeat refine C_seq ?_
 exact k) : G := h H k
theorem J14 (H : Holds w l) (k : K) (h : Holds w l → K → G := by
 intro H k
 repeat refine C_seq ?_
 refine C_region ?_
 refine Lp_pv rfl rfl ?_
 refine Lp_nil ?_
 exact k) : G := h H k
theorem J15 (H : Holds w l) (k : K) (h : Holds w l → K → G := by
 intro H k
 repeat refine C_seq ?_
 refine C_region ?_
 refine Lp_pv rfl rfl ?_
 exact k) : G := h H k
theorem J16 (H : Holds w l) (k : K) (h : Holds w l → K → G := by
 intro H k
 refine Lp_s rfl (St_alloc H rfl ?_)
 exact k) : G := h H k
theorem J17 (H : Holds w l) (k : K) (h : Holds w l → K → G := by
 intro H k
 repeat refine C_seq ?_
 refine C_region ?_
 refine Lp_pv rfl rfl ?_
 refine Lp_pv rfl rfl ?_
 refine Lp_pv rfl rfl ?_
 refine Lp_nil ?_
 exact k) : G := h H k
theorem J18 (H : Holds w l) (k : K) (h : Holds w l → K → G := by
 intro H k
 repeat refine C_seq ?_
 refine C_region ?_
 refine Lp_s rfl (St_alloc H rfl ?_)
 exact k) : G := h H k
theorem J19 (H : Holds w l) (k : K) (h : Holds w l → K → G := by
 intro H k
 refine Lp_pv rfl rfl ?_
 refine Lp_pv rfl rfl ?_
 refine Lp_pv rfl rfl ?_
 refine Lp_pv rfl rfl ?_
 refine Lp_pv rfl rfl ?_
 refine Lp_nil ?_
 exact k) : G := h H k
theorem J20 (H : Holds w l) (k : K) (h : Holds w l → K → G := by
 intro H k
 refine Lp_pv rfl rfl ?_
 refine Lp_nil ?_
 repeat refine C_seq ?_
 refine C_false rfl (C_skip ?_)
 exact k) : G := h H k
theorem J21 (H : Holds w l) (k : K) (h : Holds w l → K → G := by
 intro H k
 refine Lp_gpv rfl rfl rfl rfl ?_
 exact k) : G := h H k
theorem J22 (H : Holds w l) (k : K) (h : Holds w l → K → G := by
 intro H k
 refine Lp_gpv rfl rfl rfl rfl ?_
 refine Lp_gpv rfl rfl rfl rfl ?_
 exact k) : G := h H k
theorem J23 (H : Holds w l) (k : K) (h : Holds w l → K → G := by
 intro H k
 repeat refine C_seq ?_
 refine C_block ?_
 exact k) : G := h H k
theorem J24 (H : Holds w l) (k : K) (h : Holds w l → K → G := by
 intro H k
 repeat refine C_seq ?_
 refine C_true rfl ?_
 repeat refine C_seq ?_
 refine C_region ?_
 refine Lp_pv rfl rfl ?_
 refine Lp_pv rfl rfl ?_
 refine Lp_nil ?_
 exact k) : G := h H k
theorem J25 (H : Holds w l) (k : K) (h : Holds w l → K → G := by
 intro H k
 refine Lp_s rfl (St_boxN H rfl rfl ?_)
 exact k) : G := h H k
theorem J26 (H : Holds w l) (k : K) (h : Holds w l → K → G := by
 intro H k
 repeat refine C_seq ?_
 refine C_region ?_
 refine Lp_s rfl (St_loadN H rfl (by repeat (first | exact Reads.nil _ | apply Reads.cons rfl)) rfl ?_)
 exact k) : G := h H k
theorem J27 (H : Holds w l) (k : K) (h : Holds w l → K → G := by
 intro H k
 refine Lp_gpv rfl rfl rfl rfl ?_
 refine Lp_gpv rfl rfl rfl rfl ?_
 refine Lp_pv rfl rfl ?_
 refine Lp_pv rfl rfl ?_
 exact k) : G := h H k
theorem J28 (H : Holds w l) (k : K) (h : Holds w l → K → G := by
 intro H k
 refine Lp_pv rfl rfl ?_
 refine Lp_nil ?_
 repeat refine C_seq ?_
 refine C_region ?_
 refine Lp_pv rfl rfl ?_
 refine Lp_pv rfl rfl ?_
 refine Lp_nil ?_
 exact k) : G := h H k
theorem J29 (H : Holds w l) (k : K) (h : Holds w l → K → G := by
 intro H k
 refine A_pv 0 rfl (Wants.none rfl) rfl (by kernel_rfl) ?_
 refine A_pv 1 rfl (Wants.none rfl) rfl (by kernel_rfl) ?_
 refine A_fieldAddr 2 rfl (Wants.none rfl) rfl (by kernel_rfl) ?_
 exact k) : G := h H k
theorem J30 (H : Holds w l) (k : K) (h : Holds w l → K → G := by
 intro H k
 repeat refine C_seq ?_
 refine C_region ?_
 refine Lp_pv rfl rfl ?_
 refine Lp_pv rfl rfl ?_
 refine Lp_s rfl (St_fieldAddr rfl rfl ?_)
 refine Lp_s rfl (St_load1 H rfl rfl rfl ?_)
 refine Lp_pv rfl rfl ?_
 refine Lp_pv rfl rfl ?_
 exact k) : G := h H k
theorem J31 (H : Holds w l) (k : K) (h : Holds w l → K → G := by
 intro H k
 refine Lp_pv rfl rfl ?_
 refine Lp_nil ?_
 repeat refine C_seq ?_
 exact k) : G := h H k
theorem J32 (H : Holds w l) (k : K) (h : Holds w l → K → G := by
 intro H k
 repeat refine C_seq ?_
 refine C_region ?_
 refine Lp_pv rfl rfl ?_
 refine Lp_pv rfl rfl ?_
 refine Lp_s rfl (St_fieldAddr rfl rfl ?_)
 refine Lp_s rfl (St_load1 H rfl rfl rfl ?_)
 refine Lp_pv rfl rfl ?_
 exact k) : G := h H k
theorem J33 (H : Holds w l) (k : K) (h : Holds w l → K → G := by
 intro H k
 refine Lp_pv rfl rfl ?_
 refine Lp_pv rfl rfl ?_
 refine Lp_g rfl rfl rfl (St_fieldAddr rfl rfl ?_)
 refine Lp_g rfl rfl rfl (St_load1 H rfl rfl rfl ?_)
 refine Lp_gpv rfl rfl rfl rfl ?_
 exact k) : G := h H k
theorem J34 (H : Holds w l) (k : K) (h : Holds w l → K → G := by
 intro H k
 repeat refine C_seq ?_
 refine C_region ?_
 refine Lp_pv rfl rfl ?_
 refine Lp_s rfl (St_loadN H rfl (by repeat (first | exact Reads.nil _ | apply Reads.cons rfl)) rfl ?_)
 exact k) : G := h H k
theorem J35 (H : Holds w l) (k : K) (h : Holds w l → K → G := by
 intro H k
 repeat refine C_seq ?_
 refine C_true rfl ?_
 exact k) : G := h H k
theorem J36 (H : Holds w l) (k : K) (h : Holds w l → K → G := by
 intro H k
 refine Lp_pv rfl rfl ?_
 refine Lp_nil ?_
 repeat refine C_seq ?_
 refine C_region ?_
 refine Lp_pv rfl rfl ?_
 refine Lp_pv rfl rfl ?_
 refine Lp_nil ?_
 repeat refine C_seq ?_
 refine C_false rfl (C_skip ?_)
 exact k) : G := h H k
theorem J37 (H : Holds w l) (k : K) (h : Holds w l → K → G := by
 intro H k
 repeat refine C_seq ?_
 refine C_region ?_
 refine Lp_s rfl (St_box1 H rfl rfl rfl ?_)
 exact k) : G := h H k
theorem J38 (H : Holds w l) (k : K) (h : Holds w l → K → G := by
 intro H k
 repeat refine C_seq ?_
 refine C_region ?_
 exact k) : G := h H k
theorem J39 (H : Holds w l) (k : K) (h : Holds w l → K → G := by
 intro H k
 refine Lp_pv rfl rfl ?_
 refine Lp_pv rfl rfl ?_
 refine Lp_pv rfl rfl ?_
 refine Lp_pv rfl rfl ?_
 refine Lp_pv rfl rfl ?_
 refine Lp_nil ?_
 repeat refine C_seq ?_
 refine C_region ?_
 refine Lp_pv rfl rfl ?_
 refine Lp_pv rfl rfl ?_
 refine Lp_nil ?_
 repeat refine C_seq ?_
 refine C_false rfl (C_skip ?_)
 exact k) : G := h H k
theorem J40 (H : Holds w l) (k : K) (h : Holds w l → K → G := by
 intro H k
 refine A_fieldAddr 4 rfl (Wants.none rfl) rfl (by kernel_rfl) ?_
 exact k) : G := h H k
theorem J41 (H : Holds w l) (k : K) (h : Holds w l → K → G := by
 intro H k
 refine A_pv 4 rfl (Wants.none rfl) rfl (by kernel_rfl) ?_
 exact k) : G := h H k
theorem J42 (H : Holds w l) (k : K) (h : Holds w l → K → G := by
 intro H k
 refine Lp_g rfl rfl rfl (St_fieldAddr rfl rfl ?_)
 refine Lp_g rfl rfl rfl (St_load1 H rfl rfl rfl ?_)
 refine Lp_gpv rfl rfl rfl rfl ?_
 exact k) : G := h H k
theorem J43 (H : Holds w l) (k : K) (h : Holds w l → K → G := by
 intro H k
 refine A_pv 4 rfl (Wants.none rfl) rfl (by kernel_rfl) ?_
 refine A_pv 5 rfl (Wants.none rfl) rfl (by kernel_rfl) ?_
 exact k) : G := h H k
theorem J44 (H : Holds w l) (k : K) (h : Holds w l → K → G := by
 intro H k
 refine Lp_s rfl (St_build rfl rfl ?_)
 refine Lp_s rfl (St_boxN H rfl rfl ?_)
 exact k) : G := h H k
theorem J45 (H : Holds w l) (k : K) (h : Holds w l → K → G := by
 intro H k
 refine Lp_pv rfl rfl ?_
 refine Lp_pv rfl rfl ?_
 refine Lp_pv rfl rfl ?_
 refine Lp_pv rfl rfl ?_
 refine Lp_pv rfl rfl ?_
 refine Lp_nil ?_
 repeat refine C_seq ?_
 refine C_region ?_
 refine Lp_pv rfl rfl ?_
 refine Lp_pv rfl rfl ?_
 refine Lp_nil ?_
 exact k) : G := h H k
theorem J46 (H : Holds w l) (k : K) (h : Holds w l → K → G := by
 intro H k
 refine Lp_s rfl (St_box1 H rfl rfl rfl ?_)
 exact k) : G := h H k
theorem J47 (H : Holds w l) (k : K) (h : Holds w l → K → G := by
 intro H k
 refine Lp_nil ?_
 repeat refine C_seq ?_
 refine C_region ?_
 refine Lp_pv rfl rfl ?_
 refine Lp_pv rfl rfl ?_
 exact k) : G := h H k
theorem J48 (H : Holds w l) (k : K) (h : Holds w l → K → G := by
 intro H k
 repeat refine C_seq ?_
 refine C_region ?_
 refine Lp_pv rfl rfl ?_
 refine Lp_nil ?_
 repeat refine C_seq ?_
 exact k) : G := h H k
theorem J49 (H : Holds w l) (k : K) (h : Holds w l → K → G := by
 intro H k
 refine A_pv 5 rfl (Wants.none rfl) rfl (by kernel_rfl) ?_
 exact k) : G := h H k
theorem J50 (H : Holds w l) (k : K) (h : Holds w l → K → G := by
 intro H k
 refine A_pv 3 rfl (Wants.none rfl) rfl (by kernel_rfl) ?_
 exact k) : G := h H k
theorem J51 (H : Holds w l) (k : K) (h : Holds w l → K → G := by
 intro H k
 refine St_storeN H rfl rfl inferInstance rfl rfl (Nat.le_of_ble_eq_true rfl) rfl ?_
 exact k) : G := h H k
theorem J52 (H : Holds w l) (k : K) (h : Holds w l → K → G := by
 intro H k
 refine Lp_g rfl rfl rfl (St_loadN H rfl (by repeat (first | exact Reads.nil _ | apply Reads.cons rfl)) rfl ?_)
 exact k) : G := h H k
theorem J53 (H : Holds w l) (k : K) (h : Holds w l → K → G := by
 intro H k
 refine Lp_gpv rfl rfl rfl rfl ?_
 refine Lp_pv rfl rfl ?_
 refine Lp_pv rfl rfl ?_
 refine Lp_nil ?_
 exact k) : G := h H k
theorem J54 (H : Holds w l) (k : K) (h : Holds w l → K → G := by
 intro H k
 refine Lp_no rfl rfl rfl ?_
 refine Lp_no rfl rfl rfl ?_
 refine Lp_no rfl rfl rfl ?_
 exact k) : G := h H k
theorem J55 (H : Holds w l) (k : K) (h : Holds w l → K → G := by
 intro H k
 repeat refine C_seq ?_
 refine C_region ?_
 refine Lp_s rfl (St_loadN H rfl (by repeat (first | exact Reads.nil _ | apply Reads.cons rfl)) rfl ?_)
 refine Lp_pv rfl rfl ?_
 refine Lp_s rfl (St_storeN H rfl rfl inferInstance rfl rfl (Nat.le_of_ble_eq_true rfl) rfl ?_)
 exact k) : G := h H k
theorem J56 (H : Holds w l) (k : K) (h : Holds w l → K → G := by
 intro H k
 refine Lp_gpv rfl rfl rfl rfl ?_
 refine Lp_pv rfl rfl ?_
 refine Lp_nil ?_
 repeat refine C_seq ?_
 refine C_false rfl (C_skip ?_)
 exact k) : G := h H k
theorem J57 (H : Holds w l) (k : K) (h : Holds w l → K → G := by
 intro H k
 refine Lp_pv rfl rfl ?_
 refine Lp_pv rfl rfl ?_
 refine Lp_nil ?_
 repeat refine C_seq ?_
 exact k) : G := h H k
theorem J58 (H : Holds w l) (k : K) (h : Holds w l → K → G := by
 intro H k
 refine A_pv 0 rfl (Wants.none rfl) rfl (by kernel_rfl) ?_
 exact k) : G := h H k
theorem J59 (H : Holds w l) (k : K) (h : Holds w l → K → G := by
 intro H k
 refine Lp_s rfl (St_buildSlice H rfl rfl rfl ?_)
 exact k) : G := h H k
theorem J60 (H : Holds w l) (k : K) (h : Holds w l → K → G := by
 intro H k
 refine Lp_s rfl (St_build rfl rfl ?_)
 exact k) : G := h H k
theorem J61 (H : Holds w l) (k : K) (h : Holds w l → K → G := by
 intro H k
 refine A_pv 8 rfl (Wants.none rfl) rfl (by kernel_rfl) ?_
 exact k) : G := h H k
theorem J62 (H : Holds w l) (k : K) (h : Holds w l → K → G := by
 intro H k
 refine A_fieldAddr 6 rfl (Wants.none rfl) rfl (by kernel_rfl) ?_
 exact k) : G := h H k
theorem J63 (H : Holds w l) (k : K) (h : Holds w l → K → G := by
 intro H k
 refine Jo 11 H ?_
 refine St_storeN H rfl rfl inferInstance rfl rfl (Nat.le_of_ble_eq_true rfl) rfl ?_
 exact k) : G := h H k
theorem J64 (H : Holds w l) (k : K) (h : Holds w l → K → G := by
 intro H k
 refine C_block ?_
 repeat refine C_seq ?_
 refine C_region ?_
 refine Lp_pv rfl rfl ?_
 refine Lp_s rfl (St_eqPtrNil rfl rfl (.inl rfl) rfl ?_)
 refine Lp_pv rfl rfl ?_
 refine Lp_nil ?_
 repeat refine C_seq ?_
 refine C_false rfl ?_
 exact k) : G := h H k
theorem J65 (H : Holds w l) (k : K) (h : Holds w l → K → G := by
 intro H k
 repeat refine C_seq ?_
 refine C_region ?_
 refine Lp_pv rfl rfl ?_
 refine Lp_pv rfl rfl ?_
 refine Lp_s rfl (St_fieldAddr rfl rfl ?_)
 refine Lp_s rfl (St_load1 H rfl rfl rfl ?_)
 exact k) : G := h H k
theorem J66 (H : Holds w l) (k : K) (h : Holds w l → K → G := by
 intro H k
 refine Lp_pv rfl rfl ?_
 refine Lp_nil ?_
 repeat refine C_seq ?_
 refine C_region ?_
 refine Lp_pv rfl rfl ?_
 refine Lp_s rfl (St_loadN H rfl (by repeat (first | exact Reads.nil _ | apply Reads.cons rfl)) rfl ?_)
 exact k) : G := h H k
theorem J67 (H : Holds w l) (k : K) (h : Holds w l → K → G := by
 intro H k
 refine A_pv 12 rfl (Wants.none rfl) rfl (by kernel_rfl) ?_
 refine A_end (by kernel_rfl) (by repeat first | exact .nil | refine .cons (.inr H.at) ?_ | refine .cons (.inr H.mp) ?_ | refine .cons (.inl (by kernel_rfl)) ?_) ?_
 exact k) : G := h H k
theorem J68 (H : Holds w l) (k : K) (h : Holds w l → K → G := by
 intro H k
 repeat refine C_seq ?_
 refine C_region ?_
 refine Lp_s rfl (St_fieldAddr rfl rfl ?_)
 refine Lp_s rfl (St_load1 H rfl rfl rfl ?_)
 refine Lp_pv rfl rfl ?_
 exact k) : G := h H k
theorem J69 (H : Holds w l) (k : K) (h : Holds w l → K → G := by
 intro H k
 refine Lp_pv rfl rfl ?_
 refine Lp_g rfl rfl rfl (St_fieldAddr rfl rfl ?_)
 refine Lp_g rfl rfl rfl (St_load1 H rfl rfl rfl ?_)
 refine Lp_gpv rfl rfl rfl rfl ?_
 exact k) : G := h H k
theorem J70 (H : Holds w l) (k : K) (h : Holds w l → K → G := by
 intro H k
 refine A_fieldAddr 0 rfl (Wants.none rfl) rfl (by kernel_rfl) ?_
 refine A_load1 1 [] H rfl (Wants.none rfl) rfl rfl (by kernel_rfl) ?_
 refine A_pv 2 rfl (Wants.none rfl) rfl (by kernel_rfl) ?_
 exact k) : G := h H k
theorem J71 (H : Holds w l) (k : K) (h : Holds w l → K → G := by
 intro H k
 refine A_pv 7 rfl (Wants.none rfl) rfl (by kernel_rfl) ?_
 refine A_pv 8 rfl (Wants.none rfl) rfl (by kernel_rfl) ?_
 refine A_pv 9 rfl (Wants.none rfl) rfl (by kernel_rfl) ?_
 exact k) : G := h H k
theorem J72 (H : Holds w l) (k : K) (h : Holds w l → K → G := by
 intro H k
 repeat refine C_seq ?_
 refine C_region ?_
 refine Lp_s rfl (St_loadN H rfl (by repeat (first | exact Reads.nil _ | apply Reads.cons rfl)) rfl ?_)
 refine Lp_s rfl (St_storeN H rfl rfl inferInstance rfl rfl (Nat.le_of_ble_eq_true rfl) rfl ?_)
 exact k) : G := h H k
theorem J73 (H : Holds w l) (k : K) (h : Holds w l → K → G := by
 intro H k
 repeat refine C_seq ?_
 refine C_region ?_
 refine Lp_pv rfl rfl ?_
 refine Lp_nil ?_
 repeat refine C_seq ?_
 refine C_region ?_
 refine Lp_pv rfl rfl ?_
 refine Lp_s rfl (St_eqPtrNil rfl rfl (.inl rfl) rfl ?_)
 refine Lp_nil ?_
 repeat refine C_seq ?_
 refine C_false rfl (C_skip ?_)
 exact k) : G := h H k
theorem J74 (H : Holds w l) (k : K) (h : Holds w l → K → G := by
 intro H k
 refine Lp_pv rfl rfl ?_
 refine Lp_gpv rfl rfl rfl rfl ?_
 refine Lp_gpv rfl rfl rfl rfl ?_
 exact k) : G := h H k
theorem J75 (H : Holds w l) (k : K) (h : Holds w l → K → G := by
 intro H k
 refine A_pv 9 rfl (Wants.none rfl) rfl (by kernel_rfl) ?_
 exact k) : G := h H k
theorem J76 (H : Holds w l) (k : K) (h : Holds w l → K → G := by
 intro H k
 refine Lp_gpv rfl rfl rfl rfl ?_
 refine Lp_gpv rfl rfl rfl rfl ?_
 refine Lp_gpv rfl rfl rfl rfl ?_
 exact k) : G := h H k
theorem J77 (H : Holds w l) (k : K) (h : Holds w l → K → G := by
 intro H k
 repeat refine C_seq ?_
 refine C_region ?_
 refine Lp_pv rfl rfl ?_
 refine Lp_pv rfl rfl ?_
 refine Lp_pv rfl rfl ?_
 refine Lp_pv rfl rfl ?_
 refine Lp_pv rfl rfl ?_
 refine Lp_nil ?_
 exact k) : G := h H k
theorem J78 (H : Holds w l) (k : K) (h : Holds w l → K → G := by
 intro H k
 repeat refine C_seq ?_
 refine C_region ?_
 refine Lp_pv rfl rfl ?_
 refine Lp_pv rfl rfl ?_
 refine Lp_pv rfl rfl ?_
 refine Lp_pv rfl rfl ?_
 exact k) : G := h H k
theorem J79 (H : Holds w l) (k : K) (h : Holds w l → K → G := by
 intro H k
 repeat refine C_seq ?_
 refine C_region ?_
 refine Lp_pv rfl rfl ?_
 refine Lp_pv rfl rfl ?_
 refine Lp_pv rfl rfl ?_
 refine Lp_s rfl (St_fieldAddr rfl rfl ?_)
 refine Lp_s rfl (St_load1 H rfl rfl rfl ?_)
 exact k) : G := h H k
theorem J80 (H : Holds w l) (k : K) (h : Holds w l → K → G := by
 intro H k
 first | refine Lp_pv rfl rfl ?_ | refine Lp_mv rfl rfl ?_
 refine Lp_pv rfl rfl ?_
 refine Lp_pv rfl rfl ?_
 refine Lp_pv rfl rfl ?_
 refine Lp_pv rfl rfl ?_
 refine Lp_nil ?_
 exact k) : G := h H k
theorem J81 (H : Holds w l) (k : K) (h : Holds w l → K → G := by
 intro H k
 refine A_pv 6 rfl (Wants.none rfl) rfl (by kernel_rfl) ?_
 refine A_fieldAddr 7 rfl (Wants.none rfl) rfl (by kernel_rfl) ?_
 exact k) : G := h H k
theorem J82 (H : Holds w l) (k : K) (h : Holds w l → K → G := by
 intro H k
 refine Lp_s rfl (St_fieldAddr rfl rfl ?_)
 refine Lp_s rfl (St_load1 H rfl rfl rfl ?_)
 exact k) : G := h H k
theorem J83 (H : Holds w l) (k : K) (h : Holds w l → K → G := by
 intro H k
 refine Lp_no rfl rfl rfl ?_
 refine Lp_no rfl rfl rfl ?_
 exact k) : G := h H k
theorem J84 (H : Holds w l) (k : K) (h : Holds w l → K → G := by
 intro H k
 refine Lp_pv rfl rfl ?_
 refine Lp_nil ?_
 repeat refine C_seq ?_
 refine C_true rfl ?_
 repeat refine C_seq ?_
 refine C_region ?_
 refine Lp_s rfl (St_build rfl rfl ?_)
 refine Lp_s rfl (St_storeN H rfl rfl inferInstance rfl rfl (Nat.le_of_ble_eq_true rfl) rfl ?_)
 exact k) : G := h H k
theorem J85 (H : Holds w l) (k : K) (h : Holds w l → K → G := by
 intro H k
 repeat refine C_seq ?_
 refine C_true rfl ?_
 repeat refine C_seq ?_
 refine C_region ?_
 refine Lp_pv rfl rfl ?_
 refine Lp_pv rfl rfl ?_
 refine Lp_pv rfl rfl ?_
 refine Lp_nil ?_
 exact k) : G := h H k
theorem J86 (H : Holds w l) (k : K) (h : Holds w l → K → G := by
 intro H k
 repeat refine C_seq ?_
 refine C_region ?_
 refine Lp_pv rfl rfl ?_
 refine Lp_pv rfl rfl ?_
 refine Lp_nil ?_
 repeat refine C_seq ?_
 refine C_region ?_
 refine Lp_pv rfl rfl ?_
 refine Lp_pv rfl rfl ?_
 exact k) : G := h H k
theorem J87 (H : Holds w l) (k : K) (h : Holds w l → K → G := by
 intro H k
 refine Lp_pv rfl rfl ?_
 refine Lp_pv rfl rfl ?_
 refine Lp_no rfl rfl rfl ?_
 refine Lp_no rfl rfl rfl ?_
 refine Lp_no rfl rfl rfl ?_
 refine Lp_pv rfl rfl ?_
 refine Lp_pv rfl rfl ?_
 refine Lp_no rfl rfl rfl ?_
 refine Lp_no rfl rfl rfl ?_
 refine Lp_no rfl rfl rfl ?_
 exact k) : G := h H k
theorem J88 (H : Holds w l) (k : K) (h : Holds w l → K → G := by
 intro H k
 refine Lp_s rfl (St_loadN H rfl (by repeat (first | exact Reads.nil _ | apply Reads.cons rfl)) rfl ?_)
 exact k) : G := h H k
theorem J89 (H : Holds w l) (k : K) (h : Holds w l → K → G := by
 intro H k
 refine Lp_g rfl rfl rfl (St_fieldAddr rfl rfl ?_)
 refine Lp_g rfl rfl rfl (St_load1 H rfl rfl rfl ?_)
 exact k) : G := h H k
theorem J90 (H : Holds w l) (k : K) (h : Holds w l → K → G := by
 intro H k
 refine Lp_pv rfl rfl ?_
 refine Lp_pv rfl rfl ?_
 refine Lp_nil ?_
 repeat refine C_seq ?_
 refine C_false rfl ?_
 exact k) : G := h H k
theorem J91 (H : Holds w l) (k : K) (h : Holds w l → K → G := by
 intro H k
 refine A_pv 10 rfl (Wants.none rfl) rfl (by kernel_rfl) ?_
 refine A_pv 11 rfl (Wants.none rfl) rfl (by kernel_rfl) ?_
 refine A_end (by kernel_rfl) (by repeat first | exact .nil | refine .cons (.inr H.at) ?_ | refine .cons (.inr H.mp) ?_ | refine .cons (.inl (by kernel_rfl)) ?_) ?_
 exact k) : G := h H k
theorem J92 (H : Holds w l) (k : K) (h : Holds w l → K → G := by
 intro H k
 repeat refine C_seq ?_
 refine C_region ?_
 refine Lp_pv rfl rfl ?_
 refine Lp_pv rfl rfl ?_
 refine Lp_nil ?_
 repeat refine C_seq ?_
 refine C_false rfl (C_skip ?_)
 exact k) : G := h H k
theorem J93 (H : Holds w l) (k : K) (h : Holds w l → K → G := by
 intro H k
 refine Lp_pv rfl rfl ?_
 refine Lp_g rfl rfl rfl (St_fieldAddr rfl rfl ?_)
 refine Lp_g rfl rfl rfl (St_load1 H rfl rfl rfl ?_)
 refine Lp_gpv rfl rfl rfl rfl ?_
 refine Lp_pv rfl rfl ?_
 exact k) : G := h H k
theorem J94 (H : Holds w l) (k : K) (h : Holds w l → K → G := by
 intro H k
 refine Lp_pv rfl rfl ?_
 refine Lp_nil ?_
 repeat refine C_seq ?_
 refine C_false rfl ?_
 exact k) : G := h H k
theorem J95 (H : Holds w l) (k : K) (h : Holds w l → K → G := by
 intro H k
 refine A_pv 0 rfl (Wants.none rfl) rfl (by kernel_rfl) ?_
 refine A_pv 1 rfl (Wants.none rfl) rfl (by kernel_rfl) ?_
 refine A_fieldAddr 2 rfl (Wants.none rfl) rfl (by kernel_rfl) ?_
 refine A_load1 3 [] H rfl (Wants.none rfl) rfl rfl (by kernel_rfl) ?_
 exact k) : G := h H k
theorem J96 (H : Holds w l) (k : K) (h : Holds w l → K → G := by
 intro H k
 refine Lp_pv rfl rfl ?_
 refine Lp_pv rfl rfl ?_
 refine Lp_pv rfl rfl ?_
 refine Lp_nil ?_
 exact k) : G := h H k
theorem J97 (H : Holds w l) (k : K) (h : Holds w l → K → G := by
 intro H k
 refine Lp_pv rfl rfl ?_
 refine Lp_s rfl (St_fieldAddr rfl rfl ?_)
 refine Lp_s rfl (St_store1 H rfl rfl inferInstance rfl (Nat.le_of_ble_eq_true rfl) rfl ?_)
 exact k) : G := h H k
theorem J98 (H : Holds w l) (k : K) (h : Holds w l → K → G := by
 intro H k
 refine Lp_pv rfl rfl ?_
 refine Lp_pv rfl rfl ?_
 refine Lp_pv rfl rfl ?_
 refine Lp_pv rfl rfl ?_
 refine Lp_pv rfl rfl ?_
 refine Lp_nil ?_
 repeat refine C_seq ?_
 refine C_region ?_
 refine Lp_pv rfl rfl ?_
 exact k) : G := h H k
theorem J99 (H : Holds w l) (k : K) (h : Holds w l → K → G := by
 intro H k
 refine A_pv 12 rfl (Wants.none rfl) rfl (by kernel_rfl) ?_
 refine A_pv 13 rfl (Wants.none rfl) rfl (by kernel_rfl) ?_
 exact k) : G := h H k
theorem J100 (H : Holds w l) (k : K) (h : Holds w l → K → G := by
 intro H k
 refine A_pv 24 rfl (Wants.none rfl) rfl (by kernel_rfl) ?_
 refine A_pv 25 rfl (Wants.none rfl) rfl (by kernel_rfl) ?_
 exact k) : G := h H k
theorem J101 (H : Holds w l) (k : K) (h : Holds w l → K → G := by
 intro H k
 refine Lp_s rfl (St_fieldAddr rfl rfl ?_)
 exact k) : G := h H k
theorem J102 (H : Holds w l) (k : K) (h : Holds w l → K → G := by
 intro H k
 refine Lp_pv rfl rfl ?_
 refine Lp_nil ?_
 repeat refine C_seq ?_
 refine C_region ?_
 refine Lp_s rfl (St_load1 H rfl rfl rfl ?_)
 refine Lp_s rfl (St_loadN H rfl (by repeat (first | exact Reads.nil _ | apply Reads.cons rfl)) rfl ?_)
 refine Lp_pv rfl rfl ?_
 exact k) : G := h H k
theorem J103 (H : Holds w l) (k : K) (h : Holds w l → K → G := by
 intro H k
 refine Lp_pv rfl rfl ?_
 refine Lp_nil ?_
 repeat refine C_seq ?_
 refine C_true rfl ?_
 repeat refine C_seq ?_
 refine C_region ?_
 refine Lp_pv rfl rfl ?_
 refine Lp_s rfl (St_eqPtrNil rfl rfl (.inl rfl) rfl ?_)
 refine Lp_pv rfl rfl ?_
 refine Lp_gpv rfl rfl rfl rfl ?_
 refine Lp_gpv rfl rfl rfl rfl ?_
 refine Lp_pv rfl rfl ?_
 refine Lp_pv rfl rfl ?_
 refine Lp_nil ?_
 exact k) : G := h H k
theorem J104 (H : Holds w l) (k : K) (h : Holds w l → K → G := by
 intro H k
 refine A_pv 7 rfl (Wants.none rfl) rfl (by kernel_rfl) ?_
 exact k) : G := h H k
theorem J105 (H : Holds w l) (k : K) (h : Holds w l → K → G := by
 intro H k
 refine A_pv 9 rfl (Wants.none rfl) rfl (by kernel_rfl) ?_
 refine A_pv 10 rfl (Wants.none rfl) rfl (by kernel_rfl) ?_
 exact k) : G := h H k
theorem J106 (H : Holds w l) (k : K) (h : Holds w l → K → G := by
 intro H k
 repeat refine C_seq ?_
 refine C_region ?_
 refine Lp_pv rfl rfl ?_
 refine Lp_nil ?_
 repeat refine C_seq ?_
 refine C_region ?_
 refine Lp_s rfl (St_build rfl rfl ?_)
 exact k) : G := h H k
theorem J107 (H : Holds w l) (k : K) (h : Holds w l → K → G := by
 intro H k
 repeat refine C_seq ?_
 refine C_region ?_
 refine Lp_s rfl (St_fieldAddr rfl rfl ?_)
 refine Lp_s rfl (St_load1 H rfl rfl rfl ?_)
 exact k) : G := h H k
theorem J108 (H : Holds w l) (k : K) (h : Holds w l → K → G := by
 intro H k
 repeat refine C_seq ?_
 refine C_region ?_
 refine Lp_s rfl (St_loadN H rfl (by repeat (first | exact Reads.nil _ | apply Reads.cons rfl)) rfl ?_)
 refine Lp_s rfl (St_build rfl rfl ?_)
 refine Lp_s rfl (St_eqAgg rfl rfl rfl rfl (.inl rfl) rfl ?_)
 exact k) : G := h H k
theorem J109 (H : Holds w l) (k : K) (h : Holds w l → K → G := by
 intro H k
 repeat refine C_seq ?_
 refine C_region ?_
 refine Lp_pv rfl rfl ?_
 refine Lp_pv rfl rfl ?_
 refine Lp_nil ?_
 repeat refine C_seq ?_
 exact k) : G := h H k
theorem J110 (H : Holds w l) (k : K) (h : Holds w l → K → G := by
 intro H k
 refine St_store1 H rfl rfl inferInstance rfl (Nat.le_of_ble_eq_true rfl) rfl ?_
 exact k) : G := h H k
theorem J111 (H : Holds w l) (k : K) (h : Holds w l → K → G := by
 intro H k
 repeat refine C_seq ?_
 refine C_block ?_
 repeat refine C_seq ?_
 refine C_region ?_
 refine Lp_pv rfl rfl ?_
 refine Lp_pv rfl rfl ?_
 exact k) : G := h H k
theorem J112 (H : Holds w l) (k : K) (h : Holds w l → K → G := by
 intro H k
 refine Lp_gpv rfl rfl rfl rfl ?_
 refine Lp_gpv rfl rfl rfl rfl ?_
 refine Lp_gpv rfl rfl rfl rfl ?_
 refine Lp_g rfl rfl rfl (St_fieldAddr rfl rfl ?_)
 refine Lp_g rfl rfl rfl (St_load1 H rfl rfl rfl ?_)
 refine Lp_g rfl rfl rfl (St_lenSlice rfl rfl ?_)
 exact k) : G := h H k
theorem J113 (H : Holds w l) (k : K) (h : Holds w l → K → G := by
 intro H k
 refine Lp_pv rfl rfl ?_
 refine Lp_pv rfl rfl ?_
 refine Lp_pv rfl rfl ?_
 exact k) : G := h H k
theorem J114 (H : Holds w l) (k : K) (h : Holds w l → K → G := by
 intro H k
 repeat refine C_seq ?_
 refine C_region ?_
 refine Lp_pv rfl rfl ?_
 refine Lp_pv rfl rfl ?_
 refine Lp_nil ?_
 repeat refine C_seq ?_
 refine C_region ?_
 refine Lp_pv rfl rfl ?_
 refine Lp_s rfl (St_eqPtrNil rfl rfl (.inl rfl) rfl ?_)
 refine Lp_nil ?_
 repeat refine C_seq ?_
 refine C_false rfl (C_skip ?_)
 exact k) : G := h H k
theorem J115 (H : Holds w l) (k : K) (h : Holds w l → K → G := by
 intro H k
 refine A_pv 10 rfl (Wants.none rfl) rfl (by kernel_rfl) ?_
 refine A_pv 11 rfl (Wants.none rfl) rfl (by kernel_rfl) ?_
 exact k) : G := h H k
theorem J116 (H : Holds w l) (k : K) (h : Holds w l → K → G := by
 intro H k
 refine Lp_pv rfl rfl ?_
 refine Lp_no rfl rfl rfl ?_
 refine Lp_no rfl rfl rfl ?_
 refine Lp_no rfl rfl rfl ?_
 exact k) : G := h H k
theorem J117 (H : Holds w l) (k : K) (h : Holds w l → K → G := by
 intro H k
 refine Lp_nn rfl rfl ?_
 refine Lp_nn rfl rfl ?_
 exact k) : G := h H k
theorem J118 (H : Holds w l) (k : K) (h : Holds w l → K → G := by
 intro H k
 refine Lp_pv rfl rfl ?_
 refine Lp_nil ?_
 repeat refine C_seq ?_
 refine C_true rfl ?_
 repeat refine C_seq ?_
 refine C_region ?_
 refine Lp_pv rfl rfl ?_
 refine Lp_nil ?_
 exact k) : G := h H k
theorem J119 (H : Holds w l) (k : K) (h : Holds w l → K → G := by
 intro H k
 repeat refine C_seq ?_
 refine C_region ?_
 refine Lp_s rfl (St_fieldAddr rfl rfl ?_)
 refine Lp_s rfl (St_load1 H rfl rfl rfl ?_)
 refine Lp_s rfl (St_fieldAddr rfl rfl ?_)
 refine Lp_s rfl (St_load1 H rfl rfl rfl ?_)
 exact k) : G := h H k
theorem J120 (H : Holds w l) (k : K) (h : Holds w l → K → G := by
 intro H k
 repeat refine C_seq ?_
 refine C_true rfl ?_
 repeat refine C_seq ?_
 refine C_region ?_
 refine Lp_pv rfl rfl ?_
 refine Lp_nil ?_
 exact k) : G := h H k
theorem J121 (H : Holds w l) (k : K) (h : Holds w l → K → G := by
 intro H k
 refine Lp_pv rfl rfl ?_
 refine Lp_pv rfl rfl ?_
 refine Lp_pv rfl rfl ?_
 refine Lp_pv rfl rfl ?_
 refine Lp_pv rfl rfl ?_
 refine Lp_nil ?_
 repeat refine C_seq ?_
 refine C_region ?_
 refine Lp_pv rfl rfl ?_
 refine Lp_pv rfl rfl ?_
 refine Lp_nil ?_
 repeat refine C_seq ?_
 refine C_false rfl (C_skip ?_)
 repeat refine C_seq ?_
 refine C_region ?_
 refine Lp_pv rfl rfl ?_
 exact k) : G := h H k
theorem J122 (H : Holds w l) (k : K) (h : Holds w l → K → G := by
 intro H k
 refine A_pv 38 rfl (Wants.none rfl) rfl (by kernel_rfl) ?_
 refine A_end (by kernel_rfl) (by repeat first | exact .nil | refine .cons (.inr H.at) ?_ | refine .cons (.inr H.mp) ?_ | refine .cons (.inl (by kernel_rfl)) ?_) ?_
 repeat refine C_seq ?_
 refine C_true rfl ?_
 repeat refine C_seq ?_
 refine C_region ?_
 refine Lp_pv rfl rfl ?_
 refine Lp_pv rfl rfl ?_
 refine Lp_nil ?_
 exact k) : G := h H k
theorem J123 (H : Holds w l) (k : K) (h : Holds w l → K → G := by
 intro H k
 refine Lp_nil ?_
 repeat refine C_seq ?_
 refine C_region ?_
 refine Lp_s rfl (St_load1 H rfl rfl rfl ?_)
 refine Lp_s rfl (St_loadN H rfl (by repeat (first | exact Reads.nil _ | apply Reads.cons rfl)) rfl ?_)
 refine Lp_pv rfl rfl ?_
 exact k) : G := h H k
theorem J124 (H : Holds w l) (k : K) (h : Holds w l → K → G := by
 intro H k
 repeat refine C_seq ?_
 refine C_region ?_
 refine Lp_s rfl (St_load1 H rfl rfl rfl ?_)
 exact k) : G := h H k
theorem J125 (H : Holds w l) (k : K) (h : Holds w l → K → G := by
 intro H k
 refine Lp_pv rfl rfl ?_
 refine Lp_nil ?_
 repeat refine C_seq ?_
 refine C_region ?_
 refine Lp_pv rfl rfl ?_
 refine Lp_s rfl (St_loadN H rfl (by repeat (first | exact Reads.nil _ | apply Reads.cons rfl)) rfl ?_)
 refine Lp_pv rfl rfl ?_
 exact k) : G := h H k
theorem J126 (H : Holds w l) (k : K) (h : Holds w l → K → G := by
 intro H k
 repeat refine C_seq ?_
 refine C_region ?_
 refine Lp_pv rfl rfl ?_
 refine Lp_nil ?_
 repeat refine C_seq ?_
 refine C_region ?_
 refine Lp_pv rfl rfl ?_
 refine Lp_nil ?_
 exact k) : G := h H k
theorem J127 (H : Holds w l) (k : K) (h : Holds w l → K → G := by
 intro H k
 repeat refine C_seq ?_
 refine C_region ?_
 refine Lp_pv rfl rfl ?_
 refine Lp_s rfl (St_lenSlice rfl rfl ?_)
 refine Lp_pv rfl rfl ?_
 refine Lp_nil ?_
 repeat refine C_seq ?_
 refine C_block ?_
 exact k) : G := h H k
theorem J128 (H : Holds w l) (k : K) (h : Holds w l → K → G := by
 intro H k
 refine Lp_gpv rfl rfl rfl rfl ?_
 refine Lp_g rfl rfl rfl (St_loadN H rfl (by repeat (first | exact Reads.nil _ | apply Reads.cons rfl)) rfl ?_)
 exact k) : G := h H k
theorem J129 (H : Holds w l) (k : K) (h : Holds w l → K → G := by
 intro H k
 repeat refine C_seq ?_
 refine C_region ?_
 refine Lp_pv rfl rfl ?_
 refine Lp_s rfl (St_lenSlice rfl rfl ?_)
 exact k) : G := h H k
theorem J130 (H : Holds w l) (k : K) (h : Holds w l → K → G := by
 intro H k
 refine A_convI 3 rfl (Wants.none rfl) rfl (by kernel_rfl) ?_
 exact k) : G := h H k
theorem J131 (H : Holds w l) (k : K) (h : Holds w l → K → G := by
 intro H k
 refine A_pv 12 rfl (Wants.none rfl) rfl (by kernel_rfl) ?_
 refine A_pv 13 rfl (Wants.none rfl) rfl (by kernel_rfl) ?_
 refine A_pv 14 rfl (Wants.none rfl) rfl (by kernel_rfl) ?_
 refine A_pv 15 rfl (Wants.none rfl) rfl (by kernel_rfl) ?_
 refine A_end (by kernel_rfl) (by repeat first | exact .nil | refine .cons (.inr H.at) ?_ | refine .cons (.inr H.mp) ?_ | refine .cons (.inl (by kernel_rfl)) ?_) ?_
 exact k) : G := h H k
theorem J132 (H : Holds w l) (k : K) (h : Holds w l → K → G := by
 intro H k
 refine Lp_gpv rfl rfl rfl rfl ?_
 refine Lp_pv rfl rfl ?_
 refine Lp_pv rfl rfl ?_
 exact k) : G := h H k
theorem J133 (H : Holds w l) (k : K) (h : Holds w l → K → G := by
 intro H k
 repeat refine C_seq ?_
 refine C_region ?_
 refine Lp_pv rfl rfl ?_
 refine Lp_nil ?_
 repeat refine C_seq ?_
 refine C_block ?_
 exact k) : G := h H k
theorem J134 (H : Holds w l) (k : K) (h : Holds w l → K → G := by
 intro H k
 repeat refine C_seq ?_
 refine C_region ?_
 refine Lp_pv rfl rfl ?_
 refine Lp_pv rfl rfl ?_
 refine Lp_nil ?_
 repeat refine C_seq ?_
 refine C_true rfl ?_
 repeat refine C_seq ?_
 refine C_region ?_
 refine Lp_s rfl (St_build rfl rfl ?_)
 refine Lp_s rfl (St_storeN H rfl rfl inferInstance rfl rfl (Nat.le_of_ble_eq_true rfl) rfl ?_)
 exact k) : G := h H k
theorem J135 (H : Holds w l) (k : K) (h : Holds w l → K → G := by
 intro H k
 repeat refine C_seq ?_
 refine C_region ?_
 refine Lp_pv rfl rfl ?_
 refine Lp_pv rfl rfl ?_
 refine Lp_s rfl (St_fieldAddr rfl rfl ?_)
 refine Lp_s rfl (St_load1 H rfl rfl rfl ?_)
 refine Lp_pv rfl rfl ?_
 refine Lp_nil ?_
 exact k) : G := h H k
theorem J136 (H : Holds w l) (k : K) (h : Holds w l → K → G := by
 intro H k
 refine Lp_s rfl (St_fieldAddr rfl rfl ?_)
 refine Lp_s rfl (St_store1 H rfl rfl inferInstance rfl (Nat.le_of_ble_eq_true rfl) rfl ?_)
 exact k) : G := h H k
theorem J137 (H : Holds w l) (k : K) (h : Holds w l → K → G := by
 intro H k
 repeat refine C_seq ?_
 refine C_region ?_
 refine Lp_pv rfl rfl ?_
 refine Lp_pv rfl rfl ?_
 refine Lp_nil ?_
 repeat refine C_seq ?_
 refine C_region ?_
 refine Lp_pv rfl rfl ?_
 refine Lp_pv rfl rfl ?_
 refine Lp_pv rfl rfl ?_
 exact k) : G := h H k
theorem J138 (H : Holds w l) (k : K) (h : Holds w l → K → G := by
 intro H k
 refine A_pv 0 rfl (Wants.none rfl) rfl (by kernel_rfl) ?_
 refine A_pv 1 rfl (Wants.none rfl) rfl (by kernel_rfl) ?_
 refine A_pv 2 rfl (Wants.none rfl) rfl (by kernel_rfl) ?_
 exact k) : G := h H k
theorem J139 (H : Holds w l) (k : K) (h : Holds w l → K → G := by
 intro H k
 repeat refine C_seq ?_
 refine C_region ?_
 refine Lp_pv rfl rfl ?_
 refine Lp_nil ?_
 repeat refine C_seq ?_
 refine C_region ?_
 refine Lp_pv rfl rfl ?_
 refine Lp_s rfl (St_eqPtrNil rfl rfl (.inl rfl) rfl ?_)
 refine Lp_nil ?_
 repeat refine C_seq ?_
 refine C_false rfl (C_skip ?_)
 repeat refine C_seq ?_
 refine C_drawH H mixed ?_
 exact k) : G := h H k
theorem J140 (H : Holds w l) (k : K) (h : Holds w l → K → G := by
 intro H k
 refine Lp_pv rfl rfl ?_
 refine Lp_pv rfl rfl ?_
 refine Lp_nil ?_
 repeat refine C_seq ?_
 refine C_false rfl (C_skip ?_)
 exact k) : G := h H k
theorem J141 (H : Holds w l) (k : K) (h : Holds w l → K → G := by
 intro H k
 refine Lp_nil ?_
 repeat refine C_seq ?_
 refine C_region ?_
 refine Lp_pv rfl rfl ?_
 refine Lp_pv rfl rfl ?_
 refine Lp_nil ?_
 exact k) : G := h H k
theorem J142 (H : Holds w l) (k : K) (h : Holds w l → K → G := by
 intro H k
 refine Lp_no rfl rfl rfl ?_
 refine Lp_no rfl rfl rfl ?_
 refine Lp_no rfl rfl rfl ?_
 refine Lp_no rfl rfl rfl ?_
 exact k) : G := h H k
theorem J143 (H : Holds w l) (k : K) (h : Holds w l → K → G := by
 intro H k
 refine Lp_pv rfl rfl ?_
 refine Lp_pv rfl rfl ?_
 refine Lp_no rfl rfl rfl ?_
 refine Lp_no rfl rfl rfl ?_
 refine Lp_no rfl rfl rfl ?_
 exact k) : G := h H k
theorem J144 (H : Holds w l) (k : K) (h : Holds w l → K → G := by
 intro H k
 refine Lp_nn rfl rfl ?_
 refine Lp_nn rfl rfl ?_
 refine Lp_nn rfl rfl ?_
 refine Lp_no rfl rfl rfl ?_
 refine Lp_pv rfl rfl ?_
 refine Lp_pv rfl rfl ?_
 refine Lp_nil ?_
 exact k) : G := h H k
theorem J145 (H : Holds w l) (k : K) (h : Holds w l → K → G := by
 intro H k
 repeat refine C_seq ?_
 refine C_region ?_
 refine Lp_pv rfl rfl ?_
 refine Lp_s rfl (St_lenSlice rfl rfl ?_)
 refine Lp_pv rfl rfl ?_
 refine Lp_nil ?_
 exact k) : G := h H k
theorem J146 (H : Holds w l) (k : K) (h : Holds w l → K → G := by
 intro H k
 refine A_pv 6 rfl (Wants.none rfl) rfl (by kernel_rfl) ?_
 refine A_pv 7 rfl (Wants.none rfl) rfl (by kernel_rfl) ?_
 refine A_pv 8 rfl (Wants.none rfl) rfl (by kernel_rfl) ?_
 refine A_pv 9 rfl (Wants.none rfl) rfl (by kernel_rfl) ?_
 refine A_end (by kernel_rfl) (by repeat first | exact .nil | refine .cons (.inr H.at) ?_ | refine .cons (.inr H.mp) ?_ | refine .cons (.inl (by kernel_rfl)) ?_) ?_
 exact k) : G := h H k
theorem J147 (H : Holds w l) (k : K) (h : Holds w l → K → G := by
 intro H k
 refine Lp_pv rfl rfl ?_
 refine Lp_no rfl rfl rfl ?_
 refine Lp_no rfl rfl rfl ?_
 refine Lp_no rfl rfl rfl ?_
 refine Lp_no rfl rfl rfl ?_
 exact k) : G := h H k
theorem J148 (H : Holds w l) (k : K) (h : Holds w l → K → G := by
 intro H k
 refine Lp_pv rfl rfl ?_
 refine Lp_pv rfl rfl ?_
 refine Lp_nil ?_
 repeat refine C_seq ?_
 refine C_true rfl ?_
 repeat refine C_seq ?_
 refine C_region ?_
 refine Lp_s rfl (St_build rfl rfl ?_)
 refine Lp_s rfl (St_storeN H rfl rfl inferInstance rfl rfl (Nat.le_of_ble_eq_true rfl) rfl ?_)
 exact k) : G := h H k
theorem J149 (H : Holds w l) (k : K) (h : Holds w l → K → G := by
 intro H k
 refine A_pv 0 rfl (Wants.none rfl) rfl (by kernel_rfl) ?_
 refine A_pv 1 rfl (Wants.none rfl) rfl (by kernel_rfl) ?_
 refine A_fieldAddr 2 rfl (Wants.none rfl) rfl (by kernel_rfl) ?_
 refine A_load1 3 [5] H rfl (Wants.none rfl) rfl rfl (by kernel_rfl) ?_
 refine A_loadN 4 [5] H rfl (Wants.none rfl) rfl (by repeat (first | exact Reads.nil _ | apply Reads.cons rfl)) (by kernel_rfl) ?_
 exact k) : G := h H k
theorem J150 (H : Holds w l) (k : K) (h : Holds w l → K → G := by
 intro H k
 refine A_pv 0 rfl (Wants.none rfl) rfl (by kernel_rfl) ?_
 refine A_pv 1 rfl (Wants.none rfl) rfl (by kernel_rfl) ?_
 refine A_fieldAddr 2 rfl (Wants.none rfl) rfl (by kernel_rfl) ?_
 refine A_load1 3 [6] H rfl (Wants.none rfl) rfl rfl (by kernel_rfl) ?_
 exact k) : G := h H k
theorem J151 (H : Holds w l) (k : K) (h : Holds w l → K → G := by
 intro H k
 refine A_pv 0 rfl (Wants.none rfl) rfl (by kernel_rfl) ?_
 refine A_pv 1 rfl (Wants.none rfl) rfl (by kernel_rfl) ?_
 refine A_fieldAddr 2 rfl (Wants.none rfl) rfl (by kernel_rfl) ?_
 refine A_load1 3 [7] H rfl (Wants.none rfl) rfl rfl (by kernel_rfl) ?_
 refine A_fieldAddr 4 rfl (Wants.none rfl) rfl (by kernel_rfl) ?_
 exact k) : G := h H k
theorem J152 (H : Holds w l) (k : K) (h : Holds w l → K → G := by
 intro H k
 refine A_loadN 6 [7] H rfl (Wants.none rfl) rfl (by repeat (first | exact Reads.nil _ | apply Reads.cons rfl)) (by kernel_rfl) ?_
 refine Jo 7 H ?_
 exact k) : G := h H k
theorem J153 (H : Holds w l) (k : K) (h : Holds w l → K → G := by
 intro H k
 refine Lp_pv rfl rfl ?_
 refine Lp_nil ?_
 repeat refine C_seq ?_
 refine C_region ?_
 refine Lp_pv rfl rfl ?_
 refine Lp_s rfl (St_eqPtrNil rfl rfl (.inl rfl) rfl ?_)
 refine Lp_nil ?_
 repeat refine C_seq ?_
 refine C_false rfl (C_skip ?_)
 exact k) : G := h H k
theorem J154 (H : Holds w l) (k : K) (h : Holds w l → K → G := by
 intro H k
 refine Lp_pv rfl rfl ?_
 refine Lp_nil ?_
 repeat refine C_seq ?_
 refine C_region ?_
 refine Lp_s rfl (St_alloc H rfl ?_)
 exact k) : G := h H k
theorem J155 (H : Holds w l) (k : K) (h : Holds w l → K → G := by
 intro H k
 refine A_pv 6 rfl (Wants.of rfl rfl rfl) rfl (by kernel_rfl) ?_
 refine A_pv 7 rfl (Wants.of rfl rfl rfl) rfl (by kernel_rfl) ?_
 exact k) : G := h H k
theorem J156 (H : Holds w l) (k : K) (h : Holds w l → K → G := by
 intro H k
 refine A_pv 14 rfl (Wants.of rfl rfl rfl) rfl (by kernel_rfl) ?_
 exact k) : G := h H k
theorem J157 (H : Holds w l) (k : K) (h : Holds w l → K → G := by
 intro H k
 refine A_fieldAddr 30 rfl (Wants.of rfl rfl rfl) rfl (by kernel_rfl) ?_
 exact k) : G := h H k
theorem J158 (H : Holds w l) (k : K) (h : Holds w l → K → G := by
 intro H k
 refine A_fieldAddr 33 rfl (Wants.of rfl rfl rfl) rfl (by kernel_rfl) ?_
 exact k) : G := h H k
theorem J159 (H : Holds w l) (k : K) (h : Holds w l → K → G := by
 intro H k
 repeat refine C_seq ?_
 refine C_true rfl ?_
 repeat refine C_seq ?_
 refine C_region ?_
 refine Lp_s rfl (St_build rfl rfl ?_)
 refine Lp_pv rfl rfl ?_
 refine Lp_s rfl (St_storeN H rfl rfl inferInstance rfl rfl (Nat.le_of_ble_eq_true rfl) rfl ?_)
 exact k) : G := h H k
theorem J160 (H : Holds w l) (k : K) (h : Holds w l → K → G := by
 intro H k
 refine A_pv 6 rfl (Wants.none rfl) rfl (by kernel_rfl) ?_
 refine A_pv 7 rfl (Wants.none rfl) rfl (by kernel_rfl) ?_
 refine A_pv 8 rfl (Wants.none rfl) rfl (by kernel_rfl) ?_
 exact k) : G := h H k
theorem J161 (H : Holds w l) (k : K) (h : Holds w l → K → G := by
 intro H k
 refine Jo 10 H ?_
 refine St_storeN H rfl rfl inferInstance rfl rfl (Nat.le_of_ble_eq_true rfl) rfl ?_
 exact k) : G := h H k
theorem J162 (H : Holds w l) (k : K) (h : Holds w l → K → G := by
 intro H k
 refine A_pv 11 rfl (Wants.none rfl) rfl (by kernel_rfl) ?_
 refine A_end (by kernel_rfl) (by repeat first | exact .nil | refine .cons (.inr H.at) ?_ | refine .cons (.inr H.mp) ?_ | refine .cons (.inl (by kernel_rfl)) ?_) ?_
 exact k) : G := h H k
theorem J163 (H : Holds w l) (k : K) (h : Holds w l → K → G := by
 intro H k
 refine Lp_pv rfl rfl ?_
 refine Lp_nil ?_
 repeat refine C_seq ?_
 refine C_region ?_
 refine Lp_pv rfl rfl ?_
 refine Lp_pv rfl rfl ?_
 refine Lp_nil ?_
 repeat refine C_seq ?_
 refine C_true rfl ?_
 repeat refine C_seq ?_
 refine C_region ?_
 refine Lp_pv rfl rfl ?_
 refine Lp_pv rfl rfl ?_
 refine Lp_nil ?_
 exact k) : G := h H k
theorem J164 (H : Holds w l) (k : K) (h : Holds w l → K → G := by
 intro H k
 refine A_pv 1 rfl (Wants.none rfl) rfl (by kernel_rfl) ?_
 refine A_fieldAddr 2 rfl (Wants.none rfl) rfl (by kernel_rfl) ?_
 exact k) : G := h H k
theorem J165 (H : Holds w l) (k : K) (h : Holds w l → K → G := by
 intro H k
 repeat refine C_seq ?_
 refine C_region ?_
 refine Lp_pv rfl rfl ?_
 refine Lp_s rfl (St_eqPtrNil rfl rfl (.inl rfl) rfl ?_)
 refine Lp_nil ?_
 exact k) : G := h H k
theorem J166 (H : Holds w l) (k : K) (h : Holds w l → K → G := by
 intro H k
 refine Lp_no rfl rfl rfl ?_
 refine Lp_no rfl rfl rfl ?_
 refine Lp_pv rfl rfl ?_
 refine Lp_nil ?_
 repeat refine C_seq ?_
 refine C_true rfl ?_
 repeat refine C_seq ?_
 refine C_region ?_
 refine Lp_pv rfl rfl ?_
 refine Lp_pv rfl rfl ?_
 refine Lp_nil ?_
 exact k) : G := h H k
theorem J167 (H : Holds w l) (k : K) (h : Holds w l → K → G := by
 intro H k
 refine Lp_gpv rfl rfl rfl rfl ?_
 refine Lp_gpv rfl rfl rfl rfl ?_
 refine Lp_pv rfl rfl ?_
 refine Lp_pv rfl rfl ?_
 refine Lp_gpv rfl rfl rfl rfl ?_
 refine Lp_g rfl rfl rfl (St_loadN H rfl (by repeat (first | exact Reads.nil _ | apply Reads.cons rfl)) rfl ?_)
 exact k) : G := h H k
theorem J168 (H : Holds w l) (k : K) (h : Holds w l → K → G := by
 intro H k
 refine Lp_s rfl (St_build rfl rfl ?_)
 refine Lp_s rfl (St_build rfl rfl ?_)
 exact k) : G := h H k
theorem J169 (H : Holds w l) (k : K) (h : Holds w l → K → G := by
 intro H k
 refine Lp_pv rfl rfl ?_
 refine Lp_nil ?_
 repeat refine C_seq ?_
 refine C_true rfl ?_
 repeat refine C_seq ?_
 refine C_region ?_
 refine Lp_pv rfl rfl ?_
 refine Lp_pv rfl rfl ?_
 refine Lp_nil ?_
 exact k) : G := h H k
theorem J170 (H : Holds w l) (k : K) (h : Holds w l → K → G := by
 intro H k
 refine A_pv 12 rfl (Wants.none rfl) rfl (by kernel_rfl) ?_
 refine A_pv 13 rfl (Wants.none rfl) rfl (by kernel_rfl) ?_
 refine A_pv 14 rfl (Wants.none rfl) rfl (by kernel_rfl) ?_
 exact k) : G := h H k
theorem J171 (H : Holds w l) (k : K) (h : Holds w l → K → G := by
 intro H k
 repeat refine C_seq ?_
 refine C_true rfl ?_
 repeat refine C_seq ?_
 refine C_region ?_
 refine Lp_s rfl (St_build rfl rfl ?_)
 refine Lp_s rfl (St_storeN H rfl rfl inferInstance rfl rfl (Nat.le_of_ble_eq_true rfl) rfl ?_)
 exact k) : G := h H k
theorem J172 (H : Holds w l) (k : K) (h : Holds w l → K → G := by
 intro H k
 repeat refine C_seq ?_
 refine C_region ?_
 refine Lp_pv rfl rfl ?_
 refine Lp_s rfl (St_eqPtrNil rfl rfl (.inl rfl) rfl ?_)
 refine Lp_nil ?_
 repeat refine C_seq ?_
 refine C_false rfl (C_skip ?_)
 exact k) : G := h H k
theorem J173 (H : Holds w l) (k : K) (h : Holds w l → K → G := by
 intro H k
 refine A_loadN 5 [6] H rfl (Wants.none rfl) rfl (by repeat (first | exact Reads.nil _ | apply Reads.cons rfl)) (by kernel_rfl) ?_
 exact k) : G := h H k
theorem J174 (H : Holds w l) (k : K) (h : Holds w l → K → G := by
 intro H k
 refine A_load1 3 [6, 11] H rfl (Wants.none rfl) rfl rfl (by kernel_rfl) ?_
 exact k) : G := h H k
theorem J175 (H : Holds w l) (k : K) (h : Holds w l → K → G := by
 intro H k
 refine A_load1 5 [] H rfl (Wants.of rfl rfl rfl) rfl rfl (by kernel_rfl) ?_
 exact k) : G := h H k
theorem J176 (H : Holds w l) (k : K) (h : Holds w l → K → G := by
 intro H k
 refine A_load1 9 [] H rfl (Wants.of rfl rfl rfl) rfl rfl (by kernel_rfl) ?_
 exact k) : G := h H k
theorem J177 (H : Holds w l) (k : K) (h : Holds w l → K → G := by
 intro H k
 refine Lp_gpv rfl rfl rfl rfl ?_
 refine Lp_gpv rfl rfl rfl rfl ?_
 refine Lp_gpv rfl rfl rfl rfl ?_
 refine Lp_pv rfl rfl ?_
 refine Lp_pv rfl rfl ?_
 refine Lp_gpv rfl rfl rfl rfl ?_
 refine Lp_gpv rfl rfl rfl rfl ?_
 refine Lp_gpv rfl rfl rfl rfl ?_
 refine Lp_pv rfl rfl ?_
 refine Lp_pv rfl rfl ?_
 exact k) : G := h H k
theorem J178 (H : Holds w l) (k : K) (h : Holds w l → K → G := by
 intro H k
 repeat refine C_seq ?_
 refine C_region ?_
 refine Lp_pv rfl rfl ?_
 refine Lp_s rfl (St_eqPtrNil rfl rfl (.inl rfl) rfl ?_)
 exact k) : G := h H k
theorem J179 (H : Holds w l) (k : K) (h : Holds w l → K → G := by
 intro H k
 refine A_loadN 4 [5, 10] H rfl (Wants.none rfl) rfl (by repeat (first | exact Reads.nil _ | apply Reads.cons rfl)) (by kernel_rfl) ?_
 exact k) : G := h H k
theorem J180 (H : Holds w l) (k : K) (h : Holds w l → K → G := by
 intro H k
 refine A_loadN 5 [6, 11] H rfl (Wants.none rfl) rfl (by repeat (first | exact Reads.nil _ | apply Reads.cons rfl)) (by kernel_rfl) ?_
 exact k) : G := h H k
end
end Go.SL
namespace Go.Proofs.YtcaaojbnjfdglaaGreatDoor
open Go.SL

abbrev Rf := Int × Int
theorem tkR : TKey Tryz.prog 241 kp := tkey_pair inferInstance
theorem tkI : TKey Tryz.prog 3 (ki .i64) := tkey_int inferInstance
@[reducible] def vm : Nat → Value := fun b => .map (some b)
@[reducible] def v1 : Int → Value := fun x => .int .i64 x
@[reducible] def rf (r : Rf) : Value := .agg #[.int .i64 r.1, .int .i64 r.2]

/-- A group: its number, its block, its references. -/
structure Gr where
  key : Int
  blk : Nat
  m : List (Rf × Int)

@[reducible] def inner (g : Gr) : HProp := mp kp v1 g.blk g.m
@[reducible] def gkb (g : Gr) : Int × Nat := (g.key, g.blk)
def mem (G : List Gr) (k : Int) (r : Rf) : Prop := ∃ g ∈ G, g.key = k ∧ r ∈ g.m.map (·.1)
def GrR (bo : Nat) (S : Int → Rf → Prop) : HProp := ex fun G => star [prop (∀ k r, mem G k r ↔ S k r), mp (ki .i64) vm bo (G.map gkb), star (G.map inner)]

theorem GrR_out [Extra] {w : World} {bo : Nat} {S : Int → Rf → Prop} {l : List HProp} (H : Holds w (GrR bo S :: l)) :
    ∃ G, (∀ k r, mem G k r ↔ S k r) ∧ Holds w (mp (ki .i64) vm bo (G.map gkb) :: star (G.map inner) :: l) := by
  obtain ⟨G, H⟩ := Holds.ex.1 H
  have H := Holds.star.1 H
  obtain ⟨h1, H⟩ := Holds.prop.1 H
  exact ⟨G, h1, H⟩

theorem GrR_in [Extra] {w : World} {bo : Nat} {S : Int → Rf → Prop} {l : List HProp} (G : List Gr) (h : ∀ k r, mem G k r ↔ S k r) (H : Holds w (mp (ki .i64) vm bo (G.map gkb) :: star (G.map inner) :: l)) : Holds w (GrR bo S :: l) :=
  Holds.ex.2 ⟨G, Holds.star.2 (Holds.prop.2 ⟨h, H⟩)⟩

theorem keys_nodup [Extra] {w : World} {K V : Type} {ek : K → Value} {vv : V → Value} (b : Nat) {m : List (K × V)} {l : List HProp} (H : Holds w l) [AtM ek vv b m l] : (m.map (·.1)).Nodup := by
  obtain ⟨es, c, _, h⟩ := Holds.mp H (ek := ek) (vv := vv) (b := b) (m := m)
  exact h.nodup

theorem gkb_keys (G : List Gr) : (G.map gkb).map (·.1) = G.map (·.key) := by simp [gkb, Function.comp_def]

theorem group_at {G : List Gr} {k : Int} {b : Nat} (h : fnd (G.map gkb) k = some b) : ∃ g g1 g2, G = g1 ++ g :: g2 ∧ g.key = k ∧ g.blk = b := by
  have h1 := fnd_mem h
  obtain ⟨g, hg, e⟩ := List.mem_map.1 h1
  obtain ⟨g1, g2, rfl⟩ := List.append_of_mem hg
  simp only [gkb, Prod.mk.injEq] at e
  exact ⟨g, g1, g2, rfl, e.1, e.2⟩

theorem era_mid {K V : Type} [DecidableEq K] {l1 l2 : List (K × V)} {p : K × V} (h : ((l1 ++ p :: l2).map (·.1)).Nodup) : era (l1 ++ p :: l2) p.1 = l1 ++ l2 := by
  induction l1 with
  | nil => simp [era]
  | cons q l1 ih =>
    simp only [List.cons_append, List.map_cons, List.nodup_cons] at h
    have hne : q.1 ≠ p.1 := fun e => h.1 (by rw [e]; simp)
    simp [era, hne, ih h.2]

theorem mem_mid {g1 g2 : List Gr} {g : Gr} {k : Int} {r : Rf} : mem (g1 ++ g :: g2) k r ↔ (g.key = k ∧ r ∈ g.m.map (·.1)) ∨ mem (g1 ++ g2) k r := by
  unfold mem
  simp only [List.mem_append, List.mem_cons]
  constructor
  · rintro ⟨x, hx | rfl | hx, h⟩
    · exact .inr ⟨x, .inl hx, h⟩
    · exact .inl h
    · exact .inr ⟨x, .inr hx, h⟩
  · rintro (h | ⟨x, hx | hx, h⟩)
    · exact ⟨g, .inr (.inl rfl), h⟩
    · exact ⟨x, .inl hx, h⟩
    · exact ⟨x, .inr (.inr hx), h⟩

theorem mem_key {G : List Gr} {k : Int} {r : Rf} (h : mem G k r) : k ∈ G.map (·.key) := by
  obtain ⟨g, hg, rfl, _⟩ := h
  exact List.mem_map_of_mem hg

theorem rest_key {g1 g2 : List Gr} {g : Gr} (h : ((g1 ++ g :: g2).map (·.key)).Nodup) : g.key ∉ (g1 ++ g2).map (·.key) := by
  rw [((List.perm_middle (a := g) (l₁ := g1) (l₂ := g2)).map (·.key)).nodup_iff] at h
  exact (List.nodup_cons.1 h).1

theorem mem_swap {g1 g2 : List Gr} {g g' : Gr} (hk : g'.key = g.key) (hn : ((g1 ++ g :: g2).map (·.key)).Nodup) {k : Int} {r : Rf} : mem (g1 ++ g' :: g2) k r ↔ if k = g.key then r ∈ g'.m.map (·.1) else mem (g1 ++ g :: g2) k r := by
  have hr := rest_key hn
  rw [mem_mid, mem_mid, hk]
  by_cases h : k = g.key
  · subst h
    simp only [if_true, true_and]
    exact ⟨fun h => h.elim id fun h => absurd (mem_key h) hr, .inl⟩
  · rw [if_neg h]
    constructor
    · rintro (⟨e, _⟩ | h')
      · exact absurd e.symm h
      · exact .inr h'
    · rintro (⟨e, _⟩ | h')
      · exact absurd e.symm h
      · exact .inr h'

theorem lose_spec [Extra] (bo : Nat) (S : Int → Rf → Prop) (k : Int) (r : Rf) {w : World} {fr : List HProp} (H : Holds w (GrR bo S :: fr)) :
    Calls Tryz.prog 188 #[.map (some bo), .int .i64 k, rf r] w (ret fun v w' => Holds w' (GrR bo (fun k' r' => S k' r' ∧ ¬ (k' = k ∧ r' = r)) :: fr)) := by
  obtain ⟨a, b⟩ := r
  refine calls_of Tryz.func188 rfl (by kernel_rfl) ?_
  obtain ⟨G, hG, H⟩ := GrR_out H
  refine J6 H ?_
  clear H; intro b5 w H
  refine J47 H ?_
  refine Lp_s rfl (St_lookup (key := k) H rfl rfl tkI rfl ?_)
  have hn0 := keys_nodup bo H
  have hn : (G.map (·.key)).Nodup := by rw [← gkb_keys]; exact hn0
  cases hf : fnd (G.map gkb) k with
  | none =>
    refine J88 H ?_
    refine Lp_s rfl (St_delete_nil (key := (a, b)) rfl rfl tkR rfl ?_)
    refine J47 H ?_
    refine Lp_s rfl (St_lookup (key := k) H rfl rfl tkI rfl ?_)
    rw [hf]
    refine Lp_s rfl (St_lenMap_nil rfl rfl ?_)
    refine J0 H ?_
    refine C_true rfl ?_
    refine J2 H ?_
    refine Lp_s rfl (St_delete (key := k) H rfl rfl tkI rfl ?_)
    clear H; intro w H
    refine Lp_nil ?_
    have hk := fnd_eq_none.1 hf
    rw [era_none hk] at H
    refine fn_end0 _ (.inl rfl) (GrR_in G (fun k' r' => ?_) H.drop) rfl (fun w' H' => H')
    rw [← hG k' r']
    exact ⟨fun h => ⟨h, fun e => hk (by rw [gkb_keys, ← e.1]; exact mem_key h)⟩, (·.1)⟩
  | some bi =>
    obtain ⟨g, g1, g2, rfl, rfl, rfl⟩ := group_at hf
    have H := (Holds.pick rfl).1 (H.pull 2)
    refine J88 H ?_
    have hi := keys_nodup g.blk H
    refine Lp_s rfl (St_delete (key := (a, b)) H rfl rfl tkR rfl ?_)
    clear H; intro w H
    refine J47 H ?_
    refine Lp_s rfl (St_lookup (key := g.key) H rfl rfl tkI rfl ?_)
    rw [hf]
    refine Lp_s rfl (St_lenMap kp v1 H rfl rfl ?_)
    refine J0 H ?_
    refine C_cond rfl (fun ht => ?_) (fun ht => ?_)
    · refine J2 H ?_
      refine Lp_s rfl (St_delete (key := g.key) H rfl rfl tkI rfl ?_)
      clear H; intro w H
      refine Lp_nil ?_
      have e : era ((g1 ++ g :: g2).map gkb) g.key = (g1 ++ g2).map gkb := by
        simp only [List.map_append, List.map_cons] at hn0 ⊢
        exact era_mid (p := gkb g) (by simpa using hn0)
      rw [e] at H
      refine fn_end0 _ (.inl rfl) (GrR_in (g1 ++ g2) (fun k' r' => ?_) (l := fr) ?_) rfl (fun w' H' => H')
      · have hr := rest_key hn
        have hz : era g.m (a, b) = [] := List.eq_nil_of_length_eq_zero (by simpa using ht)
        rw [← hG k' r', mem_mid]
        constructor
        · intro h
          exact ⟨.inr h, fun e => hr (by rw [← e.1]; exact mem_key h)⟩
        · rintro ⟨⟨rfl, h⟩ | h, h2⟩
          · have := (keys_era (m := g.m) (x := (a, b)) (y := r') hi).2 ⟨fun e => h2 ⟨rfl, e⟩, h⟩
            rw [hz] at this
            simp at this
          · exact h
      · replace H := Js [3,1] 2 H
        exact H
    · refine C_skip ?_
      replace H := Js [0,0,1] 1 H
      refine fn_end0 _ (.inl rfl) (GrR_in (g1 ++ { g with m := era g.m (a, b) } :: g2) (fun k' r' => ?_) (l := fr) ?_) rfl (fun w' H' => H')
      · rw [mem_swap (g := g) (g' := { g with m := era g.m (a, b) }) rfl hn, ← hG k' r']
        split
        · rename_i e
          subst e
          rw [keys_era hi, mem_mid]
          have hr := rest_key hn
          constructor
          · rintro ⟨h1, h2⟩
            exact ⟨.inl ⟨rfl, h2⟩, fun e => h1 e.2⟩
          · rintro ⟨⟨_, h⟩ | h, h2⟩
            · exact ⟨fun e => h2 ⟨rfl, e⟩, h⟩
            · exact absurd (mem_key h) hr
        · rename_i e
          exact ⟨fun h => ⟨h, fun e' => e e'.1⟩, (·.1)⟩
      · have H := ((Holds.pick (R := inner) (gs := g1 ++ { g with m := era g.m (a, b) } :: g2) rfl).2 H).swap
        simpa only [List.map_append, List.map_cons, List.map_nil, gkb] using H

theorem note_spec [Extra] (bo : Nat) (S : Int → Rf → Prop) (k : Int) (r : Rf) {w : World} {fr : List HProp} (H : Holds w (GrR bo S :: fr)) :
    Calls Tryz.prog 189 #[.map (some bo), .int .i64 k, rf r] w (ret fun v w' => Holds w' (GrR bo (fun k' r' => S k' r' ∨ (k' = k ∧ r' = r)) :: fr)) := by
  obtain ⟨a, b⟩ := r
  refine calls_of Tryz.func189 rfl (by kernel_rfl) ?_
  obtain ⟨G, hG, H⟩ := GrR_out H
  refine J6 H ?_
  clear H; intro b5 w H
  refine J47 H ?_
  refine Lp_s rfl (St_lookup (key := k) H rfl rfl tkI rfl ?_)
  have hn0 := keys_nodup bo H
  have hn : (G.map (·.key)).Nodup := by rw [← gkb_keys]; exact hn0
  cases hf : fnd (G.map gkb) k with
  | none =>
    refine Lp_s rfl (St_eqMapNil rfl rfl (.inl rfl) rfl ?_)
    refine Lp_nil ?_
    refine C_true rfl ?_
    refine J2 H ?_
    refine Lp_s rfl (St_makeMap v1 kp H rfl ?_)
    clear H; intro b12 w H
    refine Lp_s rfl (St_mapUpdate (key := k) (v := b12) H rfl rfl rfl tkI rfl ?_)
    clear H; intro w H
    refine J47 H ?_
    have hk := fnd_eq_none.1 hf
    refine Lp_s rfl (St_lookup (key := k) H rfl rfl tkI rfl ?_)
    have hf2 : fnd (ins (G.map gkb) k b12) k = some b12 := by rw [fnd_ins, if_pos rfl]
    rw [hf2]
    refine J88 H ?_
    refine Lp_s rfl (St_mapUpdate (key := (a, b)) (v := 1) H rfl rfl rfl tkR rfl ?_)
    clear H; intro w H
    refine Lp_nil ?_
    rw [ins_none hk] at H
    replace H := Js [0,2,1] 1 H
    refine fn_end0 _ (.inl rfl) (GrR_in (G ++ { key := k, blk := b12, m := [((a, b), 1)] } :: []) (fun k' r' => ?_) (l := fr) ?_) rfl (fun w' H' => H')
    · rw [mem_mid, List.append_nil, hG k' r']
      constructor
      · rintro (⟨rfl, h⟩ | h)
        · exact .inr ⟨rfl, by simpa using h⟩
        · exact .inl h
      · rintro (h | ⟨rfl, rfl⟩)
        · exact .inr h
        · exact .inl ⟨rfl, by simp⟩
    · have H := ((Holds.pick (R := inner) (gs := G ++ { key := k, blk := b12, m := [((a, b), 1)] } :: []) rfl).2 (by rw [List.append_nil]; exact H)).swap
      simpa only [List.map_append, List.map_cons, List.map_nil, gkb] using H
  | some bi =>
    obtain ⟨g, g1, g2, rfl, rfl, rfl⟩ := group_at hf
    have H := (Holds.pick rfl).1 (H.pull 2)
    refine Lp_s rfl (St_eqMapNil rfl rfl (.inl rfl) rfl ?_)
    refine Lp_nil ?_
    refine C_false rfl (C_skip ?_)
    refine J2 H ?_
    refine Lp_s rfl (St_lookup (key := g.key) H rfl rfl tkI rfl ?_)
    rw [hf]
    refine J88 H ?_
    refine Lp_s rfl (St_mapUpdate (key := (a, b)) (v := 1) H rfl rfl rfl tkR rfl ?_)
    clear H; intro w H
    refine Lp_nil ?_
    replace H := Js [0,0,1] 1 H
    refine fn_end0 _ (.inl rfl) (GrR_in (g1 ++ { g with m := ins g.m (a, b) 1 } :: g2) (fun k' r' => ?_) (l := fr) ?_) rfl (fun w' H' => H')
    · rw [mem_swap (g := g) (g' := { g with m := ins g.m (a, b) 1 }) rfl hn, ← hG k' r']
      split
      · rename_i e
        subst e
        rw [keys_ins, mem_mid]
        have hr := rest_key hn
        constructor
        · rintro (h | h)
          · exact .inr ⟨rfl, h⟩
          · exact .inl (.inl ⟨rfl, h⟩)
        · rintro ((⟨_, h⟩ | h) | ⟨_, h⟩)
          · exact .inr h
          · exact absurd (mem_key h) hr
          · exact .inl h
      · rename_i e
        exact ⟨.inl, fun h => h.elim id fun e' => absurd e'.1 e⟩
    · have H := ((Holds.pick (R := inner) (gs := g1 ++ { g with m := ins g.m (a, b) 1 } :: g2) rfl).2 H).swap
      simpa only [List.map_append, List.map_cons, List.map_nil, gkb] using H
end Go.Proofs.YtcaaojbnjfdglaaGreatDoor
namespace Go.Proofs.YtcaaojbnjfdglaaGreatDoor
open Go.SL

@[reducible] def pp (b : Nat) : Value := .pointer (some ⟨b, 0, none⟩)
theorem wrap64 {x : Int} (h1 : -9223372036854775808 ≤ x) (h2 : x ≤ 9223372036854775807) : IntKind.i64.wrap x = x := by
  simp [IntKind.wrap, IntKind.bits, IntKind.signed]; omega
theorem inc64 {i : Nat} (h : i < 1000000000) : Value.int .i64 (IntKind.i64.wrap ((i : Int) + 1)) = .int .i64 ((i + 1 : Nat) : Int) := by
  rw [wrap64 (by omega) (by omega)]; rfl

/-- A field: from where on, how many bits. -/
abbrev Fl := Nat × Nat
def RightF (f : Fl) : Prop := 0 < f.2 ∧ f.1 + f.2 ≤ 64
@[reducible] def fv (f : Fl) : Value := .agg #[.int .i64 f.1, .int .i64 f.2]
def encF (f : Fl) : List Value := [.int .i64 f.1, .int .i64 f.2]
def fcells (l : List Fl) : List Value := l.flatMap encF
def ucells (l : List Nat) : List Value := l.map fun x : Nat => Value.int .u64 (x : Int)
theorem fcells_length (l : List Fl) : (fcells l).length = l.length * 2 := by
  induction l with
  | nil => rfl
  | cons p L ih => simp only [fcells, encF, List.flatMap_cons, List.length_append, List.length_cons, List.length_nil] at ih ⊢; omega
theorem ucells_length (l : List Nat) : (ucells l).length = l.length * 1 := by simp [ucells]
theorem ucells_append (a b : List Nat) : ucells (a ++ b) = ucells a ++ ucells b := by simp [ucells]
theorem ucells_get {l : List Nat} {spare : List Value} {i x : Nat} (h : l[i]? = some x) : (ucells l ++ spare)[0 + i * 1]? = some (.int .u64 x) := by
  have hi := (List.getElem?_eq_some_iff.1 h).1
  rw [Nat.zero_add, Nat.mul_one, List.getElem?_append_left (by simpa [ucells] using hi)]
  simp [ucells, h]
theorem fcells_get {L : List Fl} {i : Nat} {p : Fl} (h : L[i]? = some p) : (fcells L)[i * 2]? = some (.int .i64 p.1) ∧ (fcells L)[i * 2 + 1]? = some (.int .i64 p.2) := by
  induction L generalizing i with
  | nil => simp at h
  | cons x L ih =>
    cases i with
    | zero =>
      simp at h
      subst h
      exact ⟨rfl, rfl⟩
    | succ i =>
      have := ih (i := i) (by simpa using h)
      rw [show (i + 1) * 2 = i * 2 + 2 by omega]
      exact this
theorem fcells_reads {L : List Fl} {spare : List Value} {i : Nat} {p : Fl} (h : L[i]? = some p) : Reads (fcells L ++ spare) (0 + i * 2) 2 [.int .i64 p.1, .int .i64 p.2] := by
  obtain ⟨h1, h2⟩ := fcells_get h
  have hi := (List.getElem?_eq_some_iff.1 h).1
  have hl := fcells_length L
  rw [Nat.zero_add]
  refine .cons ?_ (.cons ?_ (.nil _))
  · rw [List.getElem?_append_left (by omega)]; exact h1
  · rw [List.getElem?_append_left (by omega)]; exact h2

@[reducible] def FL (v : Value) (l : List Fl) : HProp := sls 277 2 v (fcells l)
@[reducible] def UL (v : Value) (l : List Nat) : HProp := sls 29 1 v (ucells l)

theorem fRight_spec [Extra] (f : Fl) (hf : RightF f) {w : World} {fr : List HProp} (H : Holds w fr) : Calls Tryz.prog 208 #[fv f] w (ret fun v w' => v = .bool true ∧ Holds w' fr) := by
  obtain ⟨a, d⟩ := f
  obtain ⟨h1, h2⟩ := hf
  dsimp only at h1 h2
  refine calls_of Tryz.func208 rfl (by kernel_rfl) ?_
  refine J6 H ?_
  clear H; intro b1 w H
  refine J0 H ?_
  refine J68 H ?_
  rw [show decide ((a : Int) ≥ 0) = true from decide_eq_true (by omega)]
  refine J69 H ?_
  rw [show decide ((a : Int) < 64) = true from decide_eq_true (by omega)]
  refine J33 H ?_
  rw [show decide ((d : Int) > 0) = true from decide_eq_true (by omega)]
  refine J7 H ?_
  refine J89 H ?_
  refine J89 H ?_
  refine J22 H ?_
  rw [show decide ((d : Int) ≤ IntKind.i64.wrap (64 - (a : Int))) = true from decide_eq_true (by rw [wrap64 (by omega) (by omega)]; omega)]
  refine J3 H ?_
  exact C_ret (Jy H.drop rfl fun w' H' => ⟨rfl, H'⟩)

theorem mask_spec [Extra] (f : Fl) (hf : RightF f) {w : World} {fr : List HProp} (H : Holds w fr) : Calls Tryz.prog 187 #[fv f] w (ret fun v w' => v = .int .u64 (maskN f.1 f.2) ∧ Holds w' fr) := by
  obtain ⟨a, d⟩ := f
  obtain ⟨h1, h2⟩ := hf
  dsimp only at h1 h2
  refine calls_of Tryz.func187 rfl (by kernel_rfl) ?_
  refine J6 H ?_
  clear H; intro b1 w H
  refine J0 H ?_
  have e64 : IntKind.i64.wrap (64 - (d : Int)) = ((64 - d : Nat) : Int) := by rw [wrap64 (by omega) (by omega)]; omega
  have e1 : shrI .u64 18446744073709551615 ((64 - d : Nat) : Int) = ((2 ^ d - 1 : Nat) : Int) := by
    rw [show (18446744073709551615 : Int) = ((18446744073709551615 : Nat) : Int) from rfl, shr_nat (by omega) rfl]
    congr 1
    have hp : (18446744073709551615 : Nat) = 2 ^ d * 2 ^ (64 - d) - 1 := by rw [← Nat.pow_add, show d + (64 - d) = 64 by omega]
    rw [hp]
    have hd := Nat.two_pow_pos (64 - d)
    have hd2 := Nat.two_pow_pos d
    rw [show 2 ^ d * 2 ^ (64 - d) - 1 = (2 ^ (64 - d) - 1) + 2 ^ (64 - d) * (2 ^ d - 1) by
      rw [Nat.mul_sub, Nat.mul_comm (2 ^ d), Nat.mul_one]
      have : 2 ^ (64 - d) ≤ 2 ^ (64 - d) * 2 ^ d := Nat.le_mul_of_pos_right _ hd2
      omega]
    rw [Nat.add_mul_div_left _ _ hd, Nat.div_eq_of_lt (by omega), Nat.zero_add]
  have e2 : shlI .u64 ((2 ^ d - 1 : Nat) : Int) (a : Int) = (maskN a d : Nat) := by
    rw [shl_nat (by omega)]
    have := maskN_lt (a := a) (wd := d) h2
    unfold maskN at this ⊢
    rw [Nat.mod_eq_of_lt this]
  refine J1 H ?_
  clear H; intro w H
  refine J70 H ?_
  rw [e64]
  refine A_pv (v := .int .u64 (shrI .u64 18446744073709551615 ((64 - d : Nat) : Int))) 3 rfl (Wants.none rfl) (by
    show (if ((64 - d : Nat) : Int) < 0 then none else some _) = _
    rw [if_neg (by omega)]) (by kernel_rfl) ?_
  rw [e1]
  refine J40 H ?_
  refine A_load1 5 [] H rfl (Wants.none rfl) rfl rfl (by kernel_rfl) ?_
  refine A_pv (v := .int .u64 (shlI .u64 ((2 ^ d - 1 : Nat) : Int) (a : Int))) 6 rfl (Wants.none rfl) (by
    show (if (a : Int) < 0 then none else some _) = _
    rw [if_neg (by omega)]) (by kernel_rfl) ?_
  rw [e2]
  refine J104 H ?_
  refine J5 H ?_
  exact C_ret (Jy H.drop rfl fun w' H' => ⟨rfl, H'⟩)
end Go.Proofs.YtcaaojbnjfdglaaGreatDoor
namespace Go.Proofs.YtcaaojbnjfdglaaGreatDoor
open Go.SL

/-- Fields that are right, one above the other. -/
def RisF (fs : List Fl) : Prop := (∀ f ∈ fs, RightF f) ∧ fs.Pairwise (fun f g => f.1 + f.2 ≤ g.1)

theorem RisF.at {fs : List Fl} (h : RisF fs) {i : Nat} {f : Fl} (hf : fs[i]? = some f) : RightF f := h.1 f (List.mem_of_getElem? hf)

theorem Apart_spec [Extra] (v : Value) (fs : List Fl) (hfs : RisF fs) (hl : fs.length ≤ 1000000) {w : World} {fr : List HProp} (H : Holds w (FL v fs :: fr)) :
    Calls Tryz.prog 186 #[v] w (ret fun x w' => x = .bool true ∧ Holds w' (FL v fs :: fr)) := by
  obtain ⟨a, c, rfl⟩ := sls_slice H (fcells_length fs) (by decide)
  refine calls_of Tryz.func186 rfl (by kernel_rfl) ?_
  refine J126 H ?_
  refine J127 H ?_
  refine C_loop (fun ms σ w n => ms = [] ∧ ∃ (i A : Nat), i ≤ fs.length ∧ n = fs.length - i ∧ (∀ f ∈ fs.drop i, A < 2 ^ f.1) ∧ σ 3 = .int .u64 A ∧ σ 6 = .slice a fs.length c ∧ σ 7 = .int .i64 fs.length ∧ σ 8 = .int .i64 i ∧ Holds w (FL (.slice a fs.length c) fs :: fr)) (m := fs.length) ⟨rfl, 0, 0, by omega, rfl, fun f _ => Nat.two_pow_pos _, rfl, rfl, rfl, rfl, H⟩ ?_
  clear H
  rintro ms σ w n ⟨rfl, i, A, hi, rfl, hA, g3, g6, g7, g8, H⟩
  rw [upd_self g3, upd_self g6, upd_self g7, upd_self g8]
  refine J48 H ?_
  refine C_dec rfl (fun h => C_skip ?_) (fun h => C_exit ?_)
  · have hlt : i < fs.length := by omega
    have hx := List.getElem?_eq_getElem hlt
    have hdr : fs.drop i = fs[i] :: fs.drop (i + 1) := List.drop_eq_getElem_cons hlt
    have hpw := hfs.2
    rw [← List.take_append_drop i fs, hdr] at hpw
    have hpw2 := (List.pairwise_cons.1 (List.pairwise_append.1 hpw).2.1).1
    rw [hdr] at hA
    generalize fs[i] = f at hx hpw2 hA
    have hf := hfs.at hx
    have hAf := hA f (by simp)
    have hA64 : A < 18446744073709551616 := Nat.lt_of_lt_of_le hAf (Nat.le_trans (Nat.pow_le_pow_right (by decide) (show f.1 ≤ 64 by have := hf.2; omega)) (by decide))
    have hm64 := maskN_lt (a := f.1) (wd := f.2) hf.2
    have hand : bitI .and .u64 (A : Int) (maskN f.1 f.2 : Nat) = 0 := by
      rw [bit_and hA64 hm64, part_and, Nat.div_eq_of_lt hAf]
      simp
    have hor : bitI .or .u64 (A : Int) (maskN f.1 f.2 : Nat) = ((A + maskN f.1 f.2 : Nat) : Int) := by
      rw [bit_or hA64 hm64]
      unfold maskN
      rw [part_put hAf]
    obtain ⟨b, s, rfl, H, hclose⟩ := sls_open H (by omega)
    refine J23 H ?_
    refine J38 H ?_
    refine Lp_s rfl (St_indexAddr rfl rfl (by omega) (by omega) rfl ?_)
    refine Lp_s rfl (St_loadN H rfl (fcells_reads hx) rfl ?_)
    refine J16 H ?_
    clear H; intro b5 w H
    refine J4 H ?_
    clear H; intro w H
    refine Lp_nil ?_
    refine J26 H ?_
    refine Jc rfl rfl (fRight_spec f hf H) ?_
    clear H; rintro v w ⟨rfl, H⟩
    refine J7 H ?_
    refine J128 H ?_
    refine Lp_g rfl rfl rfl (St_call (a := []) (b := []) rfl rfl (call (mask_spec f hf H) ?_))
    clear H; rintro v w ⟨rfl, H⟩
    refine Lp_gpv rfl rfl (v := .int .u64 (bitI .and .u64 (A : Int) (maskN f.1 f.2 : Nat))) rfl rfl ?_
    rw [hand]
    refine J56 H ?_
    refine J34 H ?_
    refine Jc rfl rfl (mask_spec f hf H) ?_
    clear H; rintro v w ⟨rfl, H⟩
    refine Lp_pv (v := .int .u64 (bitI .or .u64 (A : Int) (maskN f.1 f.2 : Nat))) rfl rfl ?_
    rw [hor]
    refine J28 H ?_
    replace H := hclose _ _ H.drop
    refine ⟨_, ⟨rfl, i + 1, A + maskN f.1 f.2, hlt, rfl, fun g hg => ?_, rfl, rfl, rfl, inc64 (by omega), H⟩, by omega⟩
    have h1 := hpw2 g hg
    have h2 : A + maskN f.1 f.2 < 2 ^ (f.1 + f.2) := by
      unfold maskN
      rw [Nat.pow_add, Nat.sub_mul, Nat.one_mul, Nat.mul_comm (2 ^ f.2)]
      have : 2 ^ f.1 ≤ 2 ^ f.1 * 2 ^ f.2 := Nat.le_mul_of_pos_right _ (Nat.two_pow_pos _)
      omega
    exact Nat.lt_of_lt_of_le h2 (Nat.pow_le_pow_right (by decide) h1)
  · refine J14 H ?_
    exact C_ret (Jy H rfl fun w' H' => ⟨rfl, H'⟩)

def getF (x : Nat) (f : Fl) : Nat := x / 2 ^ f.1 % 2 ^ f.2
theorem Unpack_spec [Extra] (x : Nat) (hx64 : x < 18446744073709551616) (v : Value) (fs : List Fl) (hfs : RisF fs) (hl : fs.length ≤ 1000) {w : World} {fr : List HProp} (H : Holds w (FL v fs :: fr)) :
    Calls Tryz.prog 148 #[.int .u64 x, v] w (ret fun r w' => ∃ u, r = .tuple #[u, .int .i64 0] ∧ Holds w' (UL u (fs.map (getF x)) :: FL v fs :: fr)) := by
  obtain ⟨a, c, rfl⟩ := sls_slice H (fcells_length fs) (by decide)
  refine calls_of Tryz.func148 rfl (by kernel_rfl) ?_
  refine J8 H ?_
  refine J15 H ?_
  refine Jc rfl rfl (Apart_spec _ fs hfs (by omega) H) ?_
  clear H; rintro v w ⟨rfl, H⟩
  refine J20 H ?_
  refine J14 H ?_
  refine J127 H ?_
  refine C_loop (fun ms σ w n => ms = [] ∧ ∃ (i : Nat) (g : Value), i ≤ fs.length ∧ n = fs.length - i ∧ σ 0 = .int .u64 x ∧ σ 6 = g ∧ σ 12 = .slice a fs.length c ∧ σ 13 = .int .i64 fs.length ∧ σ 14 = .int .i64 i ∧ Holds w (UL g ((fs.take i).map (getF x)) :: FL (.slice a fs.length c) fs :: fr)) (m := fs.length) ⟨rfl, 0, _, by omega, rfl, rfl, rfl, rfl, rfl, rfl, sls_nil H⟩ ?_
  clear H
  rintro ms σ w n ⟨rfl, i, g, hi, rfl, g0, g6, g12, g13, g14, H⟩
  obtain ⟨ag, cg, rfl⟩ := sls_slice H (ucells_length _) (by decide)
  rw [upd_self g0, upd_self g6, upd_self g12, upd_self g13, upd_self g14]
  refine J48 H ?_
  refine C_dec rfl (fun h => C_skip ?_) (fun h => C_exit ?_)
  · have hlt : i < fs.length := by omega
    have hx := List.getElem?_eq_getElem hlt
    generalize fs[i] = f at hx
    have hf := hfs.at hx
    have hm64 := maskN_lt (a := f.1) (wd := f.2) hf.2
    have hf1 : f.1 < 64 := by have := hf.1; have := hf.2; omega
    have hsh : shrI .u64 (bitI .and .u64 (x : Int) (maskN f.1 f.2 : Nat)) (f.1 : Int) = (getF x f : Nat) := by
      rw [bit_and hx64 hm64, shr_nat hf1 rfl, part_get]; rfl
    replace H := Js [1,0] 0 H
    obtain ⟨b, s, rfl, H, hclose⟩ := sls_open H (by omega)
    refine J23 H ?_
    refine J38 H ?_
    refine Lp_s rfl (St_indexAddr rfl rfl (by omega) (by omega) rfl ?_)
    refine Lp_s rfl (St_loadN H rfl (fcells_reads hx) rfl ?_)
    refine J16 H ?_
    clear H; intro b8 w H
    refine J4 H ?_
    clear H; intro w H
    refine Lp_nil ?_
    replace H := hclose _ _ H.swap
    replace H := Js [2,1,0] 0 H
    refine J1 H ?_
    clear H; intro w H
    refine A_pv 0 rfl (Wants.none rfl) rfl (by kernel_rfl) ?_
    refine A_pv 1 rfl (Wants.none rfl) rfl (by kernel_rfl) ?_
    refine A_loadN 2 [3, 8, 9] H rfl (Wants.none rfl) rfl (by repeat (first | exact Reads.nil _ | apply Reads.cons rfl)) (by kernel_rfl) ?_
    refine A_fieldAddr 5 rfl (Wants.none rfl) rfl (by kernel_rfl) ?_
    refine A_load1 6 [8, 9] H rfl (Wants.none rfl) rfl rfl (by kernel_rfl) ?_
    refine Jo 3 H ?_
    refine Jk rfl rfl (mask_spec f hf H) ?_
    clear H; rintro v w ⟨rfl, H⟩
    refine A_pv (v := .int .u64 (bitI .and .u64 (x : Int) (maskN f.1 f.2 : Nat))) 4 rfl (Wants.none rfl) rfl (by kernel_rfl) ?_
    refine A_pv (v := .int .u64 (shrI .u64 (bitI .and .u64 (x : Int) (maskN f.1 f.2 : Nat)) (f.1 : Int))) 7 rfl (Wants.none rfl) (by
      show (if (f.1 : Int) < 0 then none else some _) = _
      rw [if_neg (by omega)]) (by kernel_rfl) ?_
    rw [hsh]
    refine Jo 8 H ?_
    refine St_buildSlice H rfl rfl rfl ?_
    clear H; intro b26 w H
    replace H := Js [1,0,1] 1 H
    refine Jo 9 H ?_
    refine St_append H rfl rfl (by repeat (first | exact Reads.nil _ | apply Reads.cons rfl)) rfl (by decide) (by rw [ucells_length, List.length_map, List.length_take]; simp only [List.length_cons, List.length_nil]; omega) rfl rfl ?_
    clear H; intro v27 w H
    obtain ⟨a27, m27, c27, rfl⟩ := sls_any H
    refine A_pv 10 rfl (Wants.none rfl) rfl (by kernel_rfl) ?_
    refine J5 H ?_
    refine J8 H ?_
    replace H := Js [0,1] 1 H
    refine ⟨_, ⟨rfl, i + 1, _, hlt, rfl, rfl, rfl, rfl, rfl, inc64 (by omega), ?_⟩, by omega⟩
    have ht : (fs.take (i + 1)).map (getF x) = (fs.take i).map (getF x) ++ [getF x f] := by
      rw [List.take_add_one, hx, List.map_append]; rfl
    rw [ht]
    show Holds w (sls _ 1 _ (ucells ((fs.take i).map (getF x) ++ [getF x f])) :: _)
    rw [ucells_append]
    exact H
  · have hge : i = fs.length := by omega
    subst hge
    rw [List.take_length] at H
    refine J17 H ?_
    exact C_ret (fn_end0 (vs := [.slice ag (List.map (getF x) fs).length cg, .int .i64 0]) _ (.inr rfl) H (by rw [List.take_length]; rfl) fun w' H' => ⟨_, rfl, H'⟩)
end Go.Proofs.YtcaaojbnjfdglaaGreatDoor
