/- Cells: what is proved on the way: every input of the statement; no condition. Texts joined: Dic. -/
import Derived.Test.YtcaaojbnjfdglaaGreatDoorCha
import Derived.Test.YtcaaojbnjfdglaaGreatDoorChb
import Derived.Test.YtcaaojbnjfdglaaGreatDoorChc
import Derived.Test.YtcaaojbnjfdglaaGreatDoorChd
import Derived.Test.YtcaaojbnjfdglaaGreatDoorChe
set_option linter.unusedVariables false
set_option linter.unusedSimpArgs false
set_option linter.unusedSectionVars false
namespace Go.SL
section
variable [Extra] {P : Program} {n : Nat} {r : Option Nat} {ops : Array Oper} {Q : Post} {ms : List Nat} {σ : Env} {w : World} {rest : List Oper} {o : Oper} {l : List HProp} {ivs : List (List Nat × (World → Prop))} {T : Env → World → Prop} {f : Nat} {L : Array Bool} {t u : TypeId} {p : String} {af : Array Edge} {g : Option (Nat × Bool)} {d : Option Tmp} {x : Operand} {G K : Prop}
theorem Jo (j : Nat) (H : Holds w l) (k : St P n r o σ w (Any P n r ops ivs T f (L.setIfInBounds j true))) (hi : ops[j]? = some o := by rfl) (hr : Region.ready .any ops L = [j] := by kernel_rfl)
    (hI : Holds w l → InvL ivs L w := by intro H; repeat first | exact InvL.nil | refine InvL.cons (.inr (Holds.at H)) ?_ | refine InvL.cons (.inr (Holds.mp H)) ?_ | refine InvL.cons (.inl (by kernel_rfl)) ?_)
    (hg : Wants ops σ o true := by first | exact Wants.none rfl | exact Wants.of rfl rfl rfl) : Any P n r ops ivs T (f + 1) L σ w := A_one j hi hr (hI H) hg k
theorem Jk {f : FuncId} {K : Env → World → Prop} {xs : List Operand} {ts : Array TypeId} {R : Value → World → Prop} (hx : ev σ x = .func (.func f) #[] #[]) [hb : TBody P f] (hd : okd n d = true) (s : Calls P f (xs.map (ev σ)).toArray w (ret R)) (k : ∀ v w', R v w' → K (put σ d v) w') :
    St P n r ⟨d, .call { callee := .value x, args := xs.toArray, argTypes := ts }, u, p, af, g⟩ σ w K := St_call (a := []) (b := []) hx hd (by rw [List.nil_append, List.append_nil]; exact call s k)
theorem Jc {f : FuncId} {xs : List Operand} {ts : Array TypeId} {R : Value → World → Prop} (hx : ev σ x = .func (.func f) #[] #[]) [hb : TBody P f] (hd : okd n d = true) (s : Calls P f (xs.map (ev σ)).toArray w (ret R)) (k : ∀ v w', R v w' → Lp P n r ops Q rest ms (put σ d v) w') :
    Lp P n r ops Q (⟨d, .call { callee := .value x, args := xs.toArray, argTypes := ts }, u, p, af, none⟩ :: rest) ms σ w := Lp_s rfl (Jk hx hd s k)
theorem Js {l' : List HProp} (is : List Nat) (m : Nat) (H : Holds w l) (h : Holds w (sel is m l) → Holds w l' := by intro H; dsimp only [SL.sel, SL.pull, List.drop] at H; exact H) : Holds w l' := h (H.sel is m)
theorem Jy {fn : Func} {R : Value → World → Prop} {e : Exit} {vs : List Value} (H : Holds w l) (h : res σ fn.results.toList = some vs) (hr : ∀ w', Holds w' l → R (resV vs) w') (he : e = .normal ∨ e = .ret := by first | exact .inr rfl | exact .inl rfl) : fnPost P n fn R e [] σ w := fn_end0 _ he H h hr
theorem Jz {fn : Func} {R : Value → World → Prop} {e : Exit} {vs : List Value} (H : Holds w l) (h : ∀ w', Holds w' l → ResAt P σ w' fn.results.toList vs) (hr : ∀ w', Holds w' l → R (resV vs) w') (he : e = .normal ∨ e = .ret := by first | exact .inr rfl | exact .inl rfl) : fnPost P n fn R e [] σ w := fn_endC _ he H h hr
theorem J0 (H : Holds w l) (k : K) (h : Holds w l → K → G := by
 intro H k
 refine Lp_pv rfl rfl ?_
 refine Lp_nil ?_
 exact k) : G := h H k
theorem J1 (H : Holds w l) (k : K) (h : Holds w l → K → G := by
 intro H k
 repeat refine C_seq ?_
 refine C_drawH H mixed ?_
 exact k) : G := h H k
theorem J2 (H : Holds w l) (k : K) (h : Holds w l → K → G := by
 intro H k
 refine A_end (by kernel_rfl) (by repeat first | exact .nil | refine .cons (.inr H.at) ?_ | refine .cons (.inr H.mp) ?_ | refine .cons (.inl (by kernel_rfl)) ?_) ?_
 exact k) : G := h H k
theorem J3 (H : Holds w l) (k : K) (h : Holds w l → K → G := by
 intro H k
 repeat refine C_seq ?_
 refine C_region ?_
 refine Lp_pv rfl rfl ?_
 refine Lp_pv rfl rfl ?_
 refine Lp_nil ?_
 exact k) : G := h H k
theorem J4 (H : Holds w l) (k : K) (h : Holds w l → K → G := by
 intro H k
 refine Lp_pv rfl rfl ?_
 refine Lp_pv rfl rfl ?_
 refine Lp_nil ?_
 exact k) : G := h H k
theorem J5 (H : Holds w l) (k : K) (h : Holds w l → K → G := by
 intro H k
 repeat refine C_seq ?_
 refine C_region ?_
 refine Lp_pv rfl rfl ?_
 refine Lp_pv rfl rfl ?_
 exact k) : G := h H k
theorem J6 (H : Holds w l) (k : K) (h : Holds w l → K → G := by
 intro H k
 repeat refine C_seq ?_
 refine C_region ?_
 refine Lp_s rfl (St_boxN H rfl rfl ?_)
 exact k) : G := h H k
theorem J7 (H : Holds w l) (k : K) (h : Holds w l → K → G := by
 intro H k
 refine Lp_s rfl (St_storeN H rfl rfl inferInstance rfl rfl (Nat.le_of_ble_eq_true rfl) rfl ?_)
 exact k) : G := h H k
theorem J8 (H : Holds w l) (k : K) (h : Holds w l → K → G := by
 intro H k
 repeat refine C_seq ?_
 refine C_false rfl (C_skip ?_)
 exact k) : G := h H k
theorem J9 (H : Holds w l) (k : K) (h : Holds w l → K → G := by
 intro H k
 refine Lp_pv rfl rfl ?_
 exact k) : G := h H k
theorem J10 (H : Holds w l) (k : K) (h : Holds w l → K → G := by
 intro H k
 repeat refine C_seq ?_
 refine C_region ?_
 refine Lp_pv rfl rfl ?_
 refine Lp_pv rfl rfl ?_
 refine Lp_pv rfl rfl ?_
 exact k) : G := h H k
theorem J11 (H : Holds w l) (k : K) (h : Holds w l → K → G := by
 intro H k
 repeat refine C_seq ?_
 refine C_true rfl ?_
 exact k) : G := h H k
theorem J12 (H : Holds w l) (k : K) (h : Holds w l → K → G := by
 intro H k
 repeat refine C_seq ?_
 exact k) : G := h H k
theorem J13 (H : Holds w l) (k : K) (h : Holds w l → K → G := by
 intro H k
 repeat refine C_seq ?_
 refine C_region ?_
 refine Lp_pv rfl rfl ?_
 refine Lp_pv rfl rfl ?_
 refine Lp_s rfl (St_fieldAddr rfl rfl ?_)
 refine Lp_s rfl (St_load1 H rfl rfl rfl ?_)
 refine Lp_pv rfl rfl ?_
 exact k) : G := h H k
theorem J14 (H : Holds w l) (k : K) (h : Holds w l → K → G := by
 intro H k
 repeat refine C_seq ?_
 refine C_region ?_
 refine Lp_pv rfl rfl ?_
 refine Lp_nil ?_
 exact k) : G := h H k
theorem J15 (H : Holds w l) (k : K) (h : Holds w l → K → G := by
 intro H k
 refine A_pv 0 rfl (Wants.none rfl) rfl (by kernel_rfl) ?_
 refine A_pv 1 rfl (Wants.none rfl) rfl (by kernel_rfl) ?_
 refine A_fieldAddr 2 rfl (Wants.none rfl) rfl (by kernel_rfl) ?_
 exact k) : G := h H k
theorem J16 (H : Holds w l) (k : K) (h : Holds w l → K → G := by
 intro H k
 repeat refine C_seq ?_
 refine C_region ?_
 refine Lp_pv rfl rfl ?_
 exact k) : G := h H k
theorem J17 (H : Holds w l) (k : K) (h : Holds w l → K → G := by
 intro H k
 repeat refine C_seq ?_
 refine C_region ?_
 refine Lp_pv rfl rfl ?_
 refine Lp_pv rfl rfl ?_
 refine Lp_pv rfl rfl ?_
 refine Lp_nil ?_
 exact k) : G := h H k
theorem J18 (H : Holds w l) (k : K) (h : Holds w l → K → G := by
 intro H k
 repeat refine C_seq ?_
 refine C_region ?_
 refine Lp_s rfl (St_alloc H rfl ?_)
 exact k) : G := h H k
theorem J19 (H : Holds w l) (k : K) (h : Holds w l → K → G := by
 intro H k
 refine Lp_s rfl (St_alloc H rfl ?_)
 exact k) : G := h H k
theorem J20 (H : Holds w l) (k : K) (h : Holds w l → K → G := by
 intro H k
 refine Lp_pv rfl rfl ?_
 refine Lp_nil ?_
 repeat refine C_seq ?_
 refine C_false rfl (C_skip ?_)
 exact k) : G := h H k
theorem J21 (H : Holds w l) (k : K) (h : Holds w l → K → G := by
 intro H k
 refine Lp_pv rfl rfl ?_
 refine Lp_pv rfl rfl ?_
 refine Lp_pv rfl rfl ?_
 refine Lp_s rfl (St_alloc H rfl ?_)
 exact k) : G := h H k
theorem J22 (H : Holds w l) (k : K) (h : Holds w l → K → G := by
 intro H k
 refine Lp_pv rfl rfl ?_
 refine Lp_nil ?_
 repeat refine C_seq ?_
 refine C_region ?_
 refine Lp_pv rfl rfl ?_
 refine Lp_pv rfl rfl ?_
 refine Lp_nil ?_
 exact k) : G := h H k
theorem J23 (H : Holds w l) (k : K) (h : Holds w l → K → G := by
 intro H k
 repeat refine C_seq ?_
 refine C_block ?_
 exact k) : G := h H k
theorem J24 (H : Holds w l) (k : K) (h : Holds w l → K → G := by
 intro H k
 refine Lp_pv rfl rfl ?_
 refine Lp_nil ?_
 repeat refine C_seq ?_
 exact k) : G := h H k
theorem J25 (H : Holds w l) (k : K) (h : Holds w l → K → G := by
 intro H k
 repeat refine C_seq ?_
 refine C_region ?_
 refine Lp_pv rfl rfl ?_
 refine Lp_nil ?_
 repeat refine C_seq ?_
 exact k) : G := h H k
theorem J26 (H : Holds w l) (k : K) (h : Holds w l → K → G := by
 intro H k
 repeat refine C_seq ?_
 refine C_true rfl ?_
 repeat refine C_seq ?_
 refine C_region ?_
 refine Lp_pv rfl rfl ?_
 refine Lp_pv rfl rfl ?_
 refine Lp_nil ?_
 exact k) : G := h H k
theorem J27 (H : Holds w l) (k : K) (h : Holds w l → K → G := by
 intro H k
 refine Lp_gpv rfl rfl rfl rfl ?_
 exact k) : G := h H k
theorem J28 (H : Holds w l) (k : K) (h : Holds w l → K → G := by
 intro H k
 refine Lp_pv rfl rfl ?_
 refine Lp_pv rfl rfl ?_
 exact k) : G := h H k
theorem J29 (H : Holds w l) (k : K) (h : Holds w l → K → G := by
 intro H k
 refine Lp_s rfl (St_fieldAddr rfl rfl ?_)
 refine Lp_s rfl (St_load1 H rfl rfl rfl ?_)
 exact k) : G := h H k
theorem J30 (H : Holds w l) (k : K) (h : Holds w l → K → G := by
 intro H k
 repeat refine C_seq ?_
 refine C_region ?_
 refine Lp_s rfl (St_loadN H rfl (by repeat (first | exact Reads.nil _ | apply Reads.cons rfl)) rfl ?_)
 exact k) : G := h H k
theorem J31 (H : Holds w l) (k : K) (h : Holds w l → K → G := by
 intro H k
 refine Lp_pv rfl rfl ?_
 refine Lp_pv rfl rfl ?_
 refine Lp_pv rfl rfl ?_
 refine Lp_pv rfl rfl ?_
 refine Lp_pv rfl rfl ?_
 refine Lp_nil ?_
 repeat refine C_seq ?_
 refine C_region ?_
 refine Lp_pv rfl rfl ?_
 refine Lp_pv rfl rfl ?_
 refine Lp_nil ?_
 repeat refine C_seq ?_
 refine C_false rfl (C_skip ?_)
 exact k) : G := h H k
theorem J32 (H : Holds w l) (k : K) (h : Holds w l → K → G := by
 intro H k
 refine Lp_gpv rfl rfl rfl rfl ?_
 refine Lp_gpv rfl rfl rfl rfl ?_
 exact k) : G := h H k
theorem J33 (H : Holds w l) (k : K) (h : Holds w l → K → G := by
 intro H k
 repeat refine C_seq ?_
 refine C_region ?_
 refine Lp_pv rfl rfl ?_
 refine Lp_s rfl (St_loadN H rfl (by repeat (first | exact Reads.nil _ | apply Reads.cons rfl)) rfl ?_)
 exact k) : G := h H k
theorem J34 (H : Holds w l) (k : K) (h : Holds w l → K → G := by
 intro H k
 refine Jo 11 H ?_
 refine St_storeN H rfl rfl inferInstance rfl rfl (Nat.le_of_ble_eq_true rfl) rfl ?_
 exact k) : G := h H k
theorem J35 (H : Holds w l) (k : K) (h : Holds w l → K → G := by
 intro H k
 repeat refine C_seq ?_
 refine C_false rfl ?_
 repeat refine C_seq ?_
 refine C_region ?_
 refine Lp_pv rfl rfl ?_
 refine Lp_pv rfl rfl ?_
 refine Lp_nil ?_
 exact k) : G := h H k
theorem J36 (H : Holds w l) (k : K) (h : Holds w l → K → G := by
 intro H k
 repeat refine C_seq ?_
 refine C_region ?_
 refine Lp_pv rfl rfl ?_
 refine Lp_pv rfl rfl ?_
 refine Lp_s rfl (St_fieldAddr rfl rfl ?_)
 refine Lp_s rfl (St_load1 H rfl rfl rfl ?_)
 refine Lp_pv rfl rfl ?_
 refine Lp_pv rfl rfl ?_
 exact k) : G := h H k
theorem J37 (H : Holds w l) (k : K) (h : Holds w l → K → G := by
 intro H k
 refine Lp_pv rfl rfl ?_
 refine Lp_nil ?_
 repeat refine C_seq ?_
 refine C_region ?_
 refine Lp_pv rfl rfl ?_
 refine Lp_pv rfl rfl ?_
 refine Lp_nil ?_
 repeat refine C_seq ?_
 refine C_false rfl (C_skip ?_)
 exact k) : G := h H k
theorem J38 (H : Holds w l) (k : K) (h : Holds w l → K → G := by
 intro H k
 repeat refine C_seq ?_
 refine C_true rfl ?_
 repeat refine C_seq ?_
 refine C_region ?_
 refine Lp_pv rfl rfl ?_
 refine Lp_nil ?_
 exact k) : G := h H k
theorem J39 (H : Holds w l) (k : K) (h : Holds w l → K → G := by
 intro H k
 refine Lp_s rfl (St_buildSlice H rfl rfl rfl ?_)
 exact k) : G := h H k
theorem J40 (H : Holds w l) (k : K) (h : Holds w l → K → G := by
 intro H k
 refine St_storeN H rfl rfl inferInstance rfl rfl (Nat.le_of_ble_eq_true rfl) rfl ?_
 exact k) : G := h H k
theorem J41 (H : Holds w l) (k : K) (h : Holds w l → K → G := by
 intro H k
 repeat refine C_seq ?_
 refine C_region ?_
 refine Lp_pv rfl rfl ?_
 refine Lp_pv rfl rfl ?_
 refine Lp_s rfl (St_fieldAddr rfl rfl ?_)
 refine Lp_s rfl (St_load1 H rfl rfl rfl ?_)
 exact k) : G := h H k
theorem J42 (H : Holds w l) (k : K) (h : Holds w l → K → G := by
 intro H k
 refine A_pv 12 rfl (Wants.none rfl) rfl (by kernel_rfl) ?_
 refine A_end (by kernel_rfl) (by repeat first | exact .nil | refine .cons (.inr H.at) ?_ | refine .cons (.inr H.mp) ?_ | refine .cons (.inl (by kernel_rfl)) ?_) ?_
 exact k) : G := h H k
theorem J43 (H : Holds w l) (k : K) (h : Holds w l → K → G := by
 intro H k
 repeat refine C_seq ?_
 refine C_region ?_
 refine Lp_s rfl (St_box1 H rfl rfl rfl ?_)
 exact k) : G := h H k
theorem J44 (H : Holds w l) (k : K) (h : Holds w l → K → G := by
 intro H k
 refine A_fieldAddr 4 rfl (Wants.none rfl) rfl (by kernel_rfl) ?_
 exact k) : G := h H k
theorem J45 (H : Holds w l) (k : K) (h : Holds w l → K → G := by
 intro H k
 refine A_pv 5 rfl (Wants.none rfl) rfl (by kernel_rfl) ?_
 exact k) : G := h H k
theorem J46 (H : Holds w l) (k : K) (h : Holds w l → K → G := by
 intro H k
 refine A_pv 3 rfl (Wants.none rfl) rfl (by kernel_rfl) ?_
 exact k) : G := h H k
theorem J47 (H : Holds w l) (k : K) (h : Holds w l → K → G := by
 intro H k
 refine Lp_gpv rfl rfl rfl rfl ?_
 refine Lp_pv rfl rfl ?_
 refine Lp_pv rfl rfl ?_
 refine Lp_nil ?_
 exact k) : G := h H k
theorem J48 (H : Holds w l) (k : K) (h : Holds w l → K → G := by
 intro H k
 refine Lp_pv rfl rfl ?_
 refine Lp_gpv rfl rfl rfl rfl ?_
 refine Lp_gpv rfl rfl rfl rfl ?_
 exact k) : G := h H k
theorem J49 (H : Holds w l) (k : K) (h : Holds w l → K → G := by
 intro H k
 refine Lp_s rfl (St_build rfl rfl ?_)
 refine Lp_s rfl (St_boxN H rfl rfl ?_)
 exact k) : G := h H k
theorem J50 (H : Holds w l) (k : K) (h : Holds w l → K → G := by
 intro H k
 refine Lp_pv rfl rfl ?_
 refine Lp_pv rfl rfl ?_
 refine Lp_pv rfl rfl ?_
 refine Lp_pv rfl rfl ?_
 exact k) : G := h H k
theorem J51 (H : Holds w l) (k : K) (h : Holds w l → K → G := by
 intro H k
 refine Lp_pv rfl rfl ?_
 refine Lp_nil ?_
 repeat refine C_seq ?_
 refine C_true rfl ?_
 repeat refine C_seq ?_
 refine C_region ?_
 refine Lp_pv rfl rfl ?_
 refine Lp_nil ?_
 exact k) : G := h H k
theorem J52 (H : Holds w l) (k : K) (h : Holds w l → K → G := by
 intro H k
 refine Lp_s rfl (St_boxN H rfl rfl ?_)
 exact k) : G := h H k
theorem J53 (H : Holds w l) (k : K) (h : Holds w l → K → G := by
 intro H k
 refine Lp_pv rfl rfl ?_
 refine Lp_pv rfl rfl ?_
 refine Lp_pv rfl rfl ?_
 refine Lp_pv rfl rfl ?_
 refine Lp_pv rfl rfl ?_
 refine Lp_nil ?_
 exact k) : G := h H k
theorem J54 (H : Holds w l) (k : K) (h : Holds w l → K → G := by
 intro H k
 refine Lp_s rfl (St_loadN H rfl (by repeat (first | exact Reads.nil _ | apply Reads.cons rfl)) rfl ?_)
 exact k) : G := h H k
theorem J55 (H : Holds w l) (k : K) (h : Holds w l → K → G := by
 intro H k
 refine Lp_pv rfl rfl ?_
 refine Lp_pv rfl rfl ?_
 refine Lp_pv rfl rfl ?_
 refine Lp_pv rfl rfl ?_
 refine Lp_pv rfl rfl ?_
 refine Lp_nil ?_
 repeat refine C_seq ?_
 refine C_region ?_
 refine Lp_pv rfl rfl ?_
 refine Lp_pv rfl rfl ?_
 refine Lp_nil ?_
 exact k) : G := h H k
theorem J56 (H : Holds w l) (k : K) (h : Holds w l → K → G := by
 intro H k
 refine A_pv 12 rfl (Wants.none rfl) rfl (by kernel_rfl) ?_
 refine A_pv 13 rfl (Wants.none rfl) rfl (by kernel_rfl) ?_
 exact k) : G := h H k
theorem J57 (H : Holds w l) (k : K) (h : Holds w l → K → G := by
 intro H k
 refine A_pv 1 rfl (Wants.none rfl) rfl (by kernel_rfl) ?_
 refine A_fieldAddr 2 rfl (Wants.none rfl) rfl (by kernel_rfl) ?_
 exact k) : G := h H k
theorem J58 (H : Holds w l) (k : K) (h : Holds w l → K → G := by
 intro H k
 repeat refine C_seq ?_
 refine C_block ?_
 repeat refine C_seq ?_
 refine C_region ?_
 exact k) : G := h H k
theorem J59 (H : Holds w l) (k : K) (h : Holds w l → K → G := by
 intro H k
 refine A_fieldAddr 5 rfl (Wants.none rfl) rfl (by kernel_rfl) ?_
 exact k) : G := h H k
theorem J60 (H : Holds w l) (k : K) (h : Holds w l → K → G := by
 intro H k
 refine A_pv 9 rfl (Wants.none rfl) rfl (by kernel_rfl) ?_
 exact k) : G := h H k
theorem J61 (H : Holds w l) (k : K) (h : Holds w l → K → G := by
 intro H k
 repeat refine C_seq ?_
 refine C_region ?_
 refine Lp_pv rfl rfl ?_
 refine Lp_pv rfl rfl ?_
 refine Lp_nil ?_
 repeat refine C_seq ?_
 refine C_false rfl (C_skip ?_)
 exact k) : G := h H k
theorem J62 (H : Holds w l) (k : K) (h : Holds w l → K → G := by
 intro H k
 refine Lp_s rfl (St_load1 H rfl rfl rfl ?_)
 exact k) : G := h H k
theorem J63 (H : Holds w l) (k : K) (h : Holds w l → K → G := by
 intro H k
 refine Lp_s rfl (St_fieldAddr rfl rfl ?_)
 exact k) : G := h H k
theorem J64 (H : Holds w l) (k : K) (h : Holds w l → K → G := by
 intro H k
 repeat refine C_seq ?_
 refine C_region ?_
 refine Lp_s rfl (St_load1 H rfl rfl rfl ?_)
 exact k) : G := h H k
theorem J65 (H : Holds w l) (k : K) (h : Holds w l → K → G := by
 intro H k
 refine Jo 12 H ?_
 refine St_storeN H rfl rfl inferInstance rfl rfl (Nat.le_of_ble_eq_true rfl) rfl ?_
 exact k) : G := h H k
theorem J66 (H : Holds w l) (k : K) (h : Holds w l → K → G := by
 intro H k
 repeat refine C_seq ?_
 refine C_region ?_
 refine Lp_s rfl (St_fieldAddr rfl rfl ?_)
 refine Lp_s rfl (St_load1 H rfl rfl rfl ?_)
 refine Lp_pv rfl rfl ?_
 exact k) : G := h H k
theorem J67 (H : Holds w l) (k : K) (h : Holds w l → K → G := by
 intro H k
 refine A_pv 7 rfl (Wants.none rfl) rfl (by kernel_rfl) ?_
 exact k) : G := h H k
theorem J68 (H : Holds w l) (k : K) (h : Holds w l → K → G := by
 intro H k
 refine Lp_g rfl rfl rfl (St_loadN H rfl (by repeat (first | exact Reads.nil _ | apply Reads.cons rfl)) rfl ?_)
 exact k) : G := h H k
theorem J69 (H : Holds w l) (k : K) (h : Holds w l → K → G := by
 intro H k
 refine A_pv 0 rfl (Wants.none rfl) rfl (by kernel_rfl) ?_
 exact k) : G := h H k
theorem J70 (H : Holds w l) (k : K) (h : Holds w l → K → G := by
 intro H k
 refine A_pv 4 rfl (Wants.none rfl) rfl (by kernel_rfl) ?_
 exact k) : G := h H k
theorem J71 (H : Holds w l) (k : K) (h : Holds w l → K → G := by
 intro H k
 repeat refine C_seq ?_
 refine C_region ?_
 refine Lp_s rfl (St_fieldAddr rfl rfl ?_)
 refine Lp_s rfl (St_load1 H rfl rfl rfl ?_)
 exact k) : G := h H k
theorem J72 (H : Holds w l) (k : K) (h : Holds w l → K → G := by
 intro H k
 refine A_fieldAddr 6 rfl (Wants.none rfl) rfl (by kernel_rfl) ?_
 exact k) : G := h H k
theorem J73 (H : Holds w l) (k : K) (h : Holds w l → K → G := by
 intro H k
 refine St_store1 H rfl rfl inferInstance rfl (Nat.le_of_ble_eq_true rfl) rfl ?_
 exact k) : G := h H k
theorem J74 (H : Holds w l) (k : K) (h : Holds w l → K → G := by
 intro H k
 repeat refine C_seq ?_
 refine C_region ?_
 refine Lp_pv rfl rfl ?_
 refine Lp_pv rfl rfl ?_
 refine Lp_pv rfl rfl ?_
 refine Lp_pv rfl rfl ?_
 refine Lp_pv rfl rfl ?_
 refine Lp_nil ?_
 exact k) : G := h H k
theorem J75 (H : Holds w l) (k : K) (h : Holds w l → K → G := by
 intro H k
 refine Lp_pv rfl rfl ?_
 refine Lp_nil ?_
 repeat refine C_seq ?_
 refine C_block ?_
 exact k) : G := h H k
theorem J76 (H : Holds w l) (k : K) (h : Holds w l → K → G := by
 intro H k
 refine Lp_pv rfl rfl ?_
 refine Lp_nil ?_
 repeat refine C_seq ?_
 refine C_true rfl ?_
 repeat refine C_seq ?_
 refine C_region ?_
 refine Lp_s rfl (St_build rfl rfl ?_)
 refine Lp_s rfl (St_storeN H rfl rfl inferInstance rfl rfl (Nat.le_of_ble_eq_true rfl) rfl ?_)
 exact k) : G := h H k
theorem J77 (H : Holds w l) (k : K) (h : Holds w l → K → G := by
 intro H k
 repeat refine C_seq ?_
 refine C_region ?_
 refine Lp_pv rfl rfl ?_
 refine Lp_pv rfl rfl ?_
 refine Lp_pv rfl rfl ?_
 refine Lp_nil ?_
 repeat refine C_seq ?_
 refine C_false rfl ?_
 exact k) : G := h H k
theorem J78 (H : Holds w l) (k : K) (h : Holds w l → K → G := by
 intro H k
 refine Lp_pv rfl rfl ?_
 refine Lp_pv rfl rfl ?_
 refine Lp_no rfl rfl rfl ?_
 refine Lp_no rfl rfl rfl ?_
 refine Lp_no rfl rfl rfl ?_
 refine Lp_no rfl rfl rfl ?_
 exact k) : G := h H k
theorem J79 (H : Holds w l) (k : K) (h : Holds w l → K → G := by
 intro H k
 refine Lp_pv rfl rfl ?_
 refine Lp_s rfl (St_fieldAddr rfl rfl ?_)
 refine Lp_s rfl (St_store1 H rfl rfl inferInstance rfl (Nat.le_of_ble_eq_true rfl) rfl ?_)
 exact k) : G := h H k
theorem J80 (H : Holds w l) (k : K) (h : Holds w l → K → G := by
 intro H k
 refine Lp_pv rfl rfl ?_
 refine Lp_s rfl (St_fieldAddr rfl rfl ?_)
 refine Lp_s rfl (St_load1 H rfl rfl rfl ?_)
 refine Lp_pv rfl rfl ?_
 exact k) : G := h H k
theorem J81 (H : Holds w l) (k : K) (h : Holds w l → K → G := by
 intro H k
 refine Lp_g rfl rfl rfl (St_fieldAddr rfl rfl ?_)
 refine Lp_g rfl rfl rfl (St_load1 H rfl rfl rfl ?_)
 exact k) : G := h H k
theorem J82 (H : Holds w l) (k : K) (h : Holds w l → K → G := by
 intro H k
 refine Lp_pv rfl rfl ?_
 refine Lp_pv rfl rfl ?_
 refine Lp_nil ?_
 repeat refine C_seq ?_
 exact k) : G := h H k
theorem J83 (H : Holds w l) (k : K) (h : Holds w l → K → G := by
 intro H k
 refine Lp_g rfl rfl rfl (St_fieldAddr rfl rfl ?_)
 refine Lp_g rfl rfl rfl (St_load1 H rfl rfl rfl ?_)
 refine Lp_gpv rfl rfl rfl rfl ?_
 exact k) : G := h H k
theorem J84 (H : Holds w l) (k : K) (h : Holds w l → K → G := by
 intro H k
 refine A_pv 8 rfl (Wants.none rfl) rfl (by kernel_rfl) ?_
 exact k) : G := h H k
theorem J85 (H : Holds w l) (k : K) (h : Holds w l → K → G := by
 intro H k
 repeat refine C_seq ?_
 refine C_region ?_
 refine Lp_s rfl (St_loadN H rfl (by repeat (first | exact Reads.nil _ | apply Reads.cons rfl)) rfl ?_)
 refine Lp_s rfl (St_storeN H rfl rfl inferInstance rfl rfl (Nat.le_of_ble_eq_true rfl) rfl ?_)
 exact k) : G := h H k
theorem J86 (H : Holds w l) (k : K) (h : Holds w l → K → G := by
 intro H k
 refine Lp_gpv rfl rfl rfl rfl ?_
 refine Lp_gpv rfl rfl rfl rfl ?_
 refine Lp_gpv rfl rfl rfl rfl ?_
 exact k) : G := h H k
theorem J87 (H : Holds w l) (k : K) (h : Holds w l → K → G := by
 intro H k
 repeat refine C_seq ?_
 refine C_region ?_
 refine Lp_pv rfl rfl ?_
 refine Lp_nil ?_
 repeat refine C_seq ?_
 refine C_region ?_
 refine Lp_pv rfl rfl ?_
 refine Lp_s rfl (St_eqPtrNil rfl rfl (.inl rfl) rfl ?_)
 refine Lp_nil ?_
 repeat refine C_seq ?_
 refine C_false rfl (C_skip ?_)
 exact k) : G := h H k
theorem J88 (H : Holds w l) (k : K) (h : Holds w l → K → G := by
 intro H k
 refine Lp_s rfl (St_fieldAddr rfl rfl ?_)
 refine Lp_s rfl (St_load1 H rfl rfl rfl ?_)
 refine Lp_pv rfl rfl ?_
 refine Lp_pv rfl rfl ?_
 exact k) : G := h H k
theorem J89 (H : Holds w l) (k : K) (h : Holds w l → K → G := by
 intro H k
 refine Lp_pv rfl rfl ?_
 refine Lp_gpv rfl rfl rfl rfl ?_
 refine Lp_gpv rfl rfl rfl rfl ?_
 refine Lp_gpv rfl rfl rfl rfl ?_
 refine Lp_g rfl rfl rfl (St_fieldAddr rfl rfl ?_)
 refine Lp_g rfl rfl rfl (St_load1 H rfl rfl rfl ?_)
 refine Lp_g rfl rfl rfl (St_lenSlice rfl rfl ?_)
 refine Lp_gpv rfl rfl rfl rfl ?_
 exact k) : G := h H k
theorem J90 (H : Holds w l) (k : K) (h : Holds w l → K → G := by
 intro H k
 refine Lp_pv rfl rfl ?_
 refine Lp_nil ?_
 repeat refine C_seq ?_
 refine C_region ?_
 refine Lp_pv rfl rfl ?_
 refine Lp_s rfl (St_loadN H rfl (by repeat (first | exact Reads.nil _ | apply Reads.cons rfl)) rfl ?_)
 exact k) : G := h H k
theorem J91 (H : Holds w l) (k : K) (h : Holds w l → K → G := by
 intro H k
 repeat refine C_seq ?_
 refine C_region ?_
 refine Lp_s rfl (St_loadN H rfl (by repeat (first | exact Reads.nil _ | apply Reads.cons rfl)) rfl ?_)
 refine Lp_pv rfl rfl ?_
 refine Lp_s rfl (St_storeN H rfl rfl inferInstance rfl rfl (Nat.le_of_ble_eq_true rfl) rfl ?_)
 exact k) : G := h H k
theorem J92 (H : Holds w l) (k : K) (h : Holds w l → K → G := by
 intro H k
 repeat refine C_seq ?_
 refine C_region ?_
 refine Lp_pv rfl rfl ?_
 refine Lp_nil ?_
 repeat refine C_seq ?_
 refine C_region ?_
 refine Lp_pv rfl rfl ?_
 refine Lp_pv rfl rfl ?_
 exact k) : G := h H k
theorem J93 (H : Holds w l) (k : K) (h : Holds w l → K → G := by
 intro H k
 refine A_pv 13 rfl (Wants.none rfl) rfl (by kernel_rfl) ?_
 refine A_end (by kernel_rfl) (by repeat first | exact .nil | refine .cons (.inr H.at) ?_ | refine .cons (.inr H.mp) ?_ | refine .cons (.inl (by kernel_rfl)) ?_) ?_
 exact k) : G := h H k
theorem J94 (H : Holds w l) (k : K) (h : Holds w l → K → G := by
 intro H k
 refine Lp_s rfl (St_box1 H rfl rfl rfl ?_)
 exact k) : G := h H k
theorem J95 (H : Holds w l) (k : K) (h : Holds w l → K → G := by
 intro H k
 refine A_pv 8 rfl (Wants.none rfl) rfl (by kernel_rfl) ?_
 refine A_pv 9 rfl (Wants.none rfl) rfl (by kernel_rfl) ?_
 refine A_pv 10 rfl (Wants.none rfl) rfl (by kernel_rfl) ?_
 exact k) : G := h H k
theorem J96 (H : Holds w l) (k : K) (h : Holds w l → K → G := by
 intro H k
 refine A_fieldAddr 0 rfl (Wants.none rfl) rfl (by kernel_rfl) ?_
 refine A_load1 1 [] H rfl (Wants.none rfl) rfl rfl (by kernel_rfl) ?_
 refine A_pv 2 rfl (Wants.none rfl) rfl (by kernel_rfl) ?_
 exact k) : G := h H k
theorem J97 (H : Holds w l) (k : K) (h : Holds w l → K → G := by
 intro H k
 refine Lp_gpv rfl rfl rfl rfl ?_
 refine Lp_pv rfl rfl ?_
 refine Lp_nil ?_
 repeat refine C_seq ?_
 refine C_false rfl (C_skip ?_)
 exact k) : G := h H k
theorem J98 (H : Holds w l) (k : K) (h : Holds w l → K → G := by
 intro H k
 refine A_pv 7 rfl (Wants.none rfl) rfl (by kernel_rfl) ?_
 refine A_pv 8 rfl (Wants.none rfl) rfl (by kernel_rfl) ?_
 refine A_pv 9 rfl (Wants.none rfl) rfl (by kernel_rfl) ?_
 refine A_pv 10 rfl (Wants.none rfl) rfl (by kernel_rfl) ?_
 refine A_pv 11 rfl (Wants.none rfl) rfl (by kernel_rfl) ?_
 refine A_end (by kernel_rfl) (by repeat first | exact .nil | refine .cons (.inr H.at) ?_ | refine .cons (.inr H.mp) ?_ | refine .cons (.inl (by kernel_rfl)) ?_) ?_
 exact k) : G := h H k
theorem J99 (H : Holds w l) (k : K) (h : Holds w l → K → G := by
 intro H k
 refine Lp_s rfl (St_build rfl rfl ?_)
 exact k) : G := h H k
theorem J100 (H : Holds w l) (k : K) (h : Holds w l → K → G := by
 intro H k
 repeat refine C_seq ?_
 refine C_block ?_
 repeat refine C_seq ?_
 refine C_region ?_
 refine Lp_pv rfl rfl ?_
 refine Lp_pv rfl rfl ?_
 refine Lp_nil ?_
 exact k) : G := h H k
theorem J101 (H : Holds w l) (k : K) (h : Holds w l → K → G := by
 intro H k
 refine A_pv 4 rfl (Wants.none rfl) rfl (by kernel_rfl) ?_
 refine A_pv 5 rfl (Wants.none rfl) rfl (by kernel_rfl) ?_
 exact k) : G := h H k
theorem J102 (H : Holds w l) (k : K) (h : Holds w l → K → G := by
 intro H k
 repeat refine C_seq ?_
 refine C_region ?_
 refine Lp_pv rfl rfl ?_
 refine Lp_nil ?_
 repeat refine C_seq ?_
 refine C_region ?_
 refine Lp_pv rfl rfl ?_
 refine Lp_pv rfl rfl ?_
 refine Lp_pv rfl rfl ?_
 exact k) : G := h H k
theorem J103 (H : Holds w l) (k : K) (h : Holds w l → K → G := by
 intro H k
 refine A_pv 8 rfl (Wants.none rfl) rfl (by kernel_rfl) ?_
 refine A_pv 9 rfl (Wants.none rfl) rfl (by kernel_rfl) ?_
 exact k) : G := h H k
theorem J104 (H : Holds w l) (k : K) (h : Holds w l → K → G := by
 intro H k
 refine Lp_s rfl (St_fieldAddr rfl rfl ?_)
 refine Lp_s rfl (St_store1 H rfl rfl inferInstance rfl (Nat.le_of_ble_eq_true rfl) rfl ?_)
 exact k) : G := h H k
theorem J105 (H : Holds w l) (k : K) (h : Holds w l → K → G := by
 intro H k
 repeat refine C_seq ?_
 refine C_region ?_
 refine Lp_pv rfl rfl ?_
 refine Lp_pv rfl rfl ?_
 refine Lp_pv rfl rfl ?_
 refine Lp_pv rfl rfl ?_
 exact k) : G := h H k
theorem J106 (H : Holds w l) (k : K) (h : Holds w l → K → G := by
 intro H k
 refine A_pv 6 rfl (Wants.none rfl) rfl (by kernel_rfl) ?_
 refine A_fieldAddr 7 rfl (Wants.none rfl) rfl (by kernel_rfl) ?_
 exact k) : G := h H k
theorem J107 (H : Holds w l) (k : K) (h : Holds w l → K → G := by
 intro H k
 refine A_pv 16 rfl (Wants.none rfl) rfl (by kernel_rfl) ?_
 exact k) : G := h H k
theorem J108 (H : Holds w l) (k : K) (h : Holds w l → K → G := by
 intro H k
 refine C_block ?_
 repeat refine C_seq ?_
 refine C_region ?_
 refine Lp_pv rfl rfl ?_
 refine Lp_s rfl (St_eqPtrNil rfl rfl (.inl rfl) rfl ?_)
 refine Lp_pv rfl rfl ?_
 refine Lp_nil ?_
 repeat refine C_seq ?_
 refine C_false rfl ?_
 exact k) : G := h H k
theorem J109 (H : Holds w l) (k : K) (h : Holds w l → K → G := by
 intro H k
 refine Lp_nn rfl rfl ?_
 refine Lp_nn rfl rfl ?_
 exact k) : G := h H k
theorem J110 (H : Holds w l) (k : K) (h : Holds w l → K → G := by
 intro H k
 repeat refine C_seq ?_
 refine C_region ?_
 exact k) : G := h H k
theorem J111 (H : Holds w l) (k : K) (h : Holds w l → K → G := by
 intro H k
 repeat refine C_seq ?_
 refine C_region ?_
 refine Lp_pv rfl rfl ?_
 refine Lp_s rfl (St_lenSlice rfl rfl ?_)
 refine Lp_pv rfl rfl ?_
 refine Lp_nil ?_
 exact k) : G := h H k
theorem J112 (H : Holds w l) (k : K) (h : Holds w l → K → G := by
 intro H k
 refine A_pv 10 rfl (Wants.none rfl) rfl (by kernel_rfl) ?_
 refine A_pv 11 rfl (Wants.none rfl) rfl (by kernel_rfl) ?_
 exact k) : G := h H k
theorem J113 (H : Holds w l) (k : K) (h : Holds w l → K → G := by
 intro H k
 refine A_pv 6 rfl (Wants.none rfl) rfl (by kernel_rfl) ?_
 refine A_pv 7 rfl (Wants.none rfl) rfl (by kernel_rfl) ?_
 refine A_pv 8 rfl (Wants.none rfl) rfl (by kernel_rfl) ?_
 exact k) : G := h H k
theorem J114 (H : Holds w l) (k : K) (h : Holds w l → K → G := by
 intro H k
 refine Lp_nil ?_
 repeat refine C_seq ?_
 refine C_region ?_
 refine Lp_s rfl (St_load1 H rfl rfl rfl ?_)
 exact k) : G := h H k
theorem J115 (H : Holds w l) (k : K) (h : Holds w l → K → G := by
 intro H k
 refine Lp_g rfl rfl rfl (St_loadN H rfl (by repeat (first | exact Reads.nil _ | apply Reads.cons rfl)) rfl ?_)
 refine Lp_g rfl rfl rfl (St_build rfl rfl ?_)
 exact k) : G := h H k
theorem J116 (H : Holds w l) (k : K) (h : Holds w l → K → G := by
 intro H k
 refine Lp_pv rfl rfl ?_
 refine Lp_g rfl rfl rfl (St_fieldAddr rfl rfl ?_)
 refine Lp_g rfl rfl rfl (St_load1 H rfl rfl rfl ?_)
 refine Lp_gpv rfl rfl rfl rfl ?_
 exact k) : G := h H k
theorem J117 (H : Holds w l) (k : K) (h : Holds w l → K → G := by
 intro H k
 repeat refine C_seq ?_
 refine C_region ?_
 refine Lp_pv rfl rfl ?_
 refine Lp_nil ?_
 repeat refine C_seq ?_
 refine C_region ?_
 refine Lp_pv rfl rfl ?_
 refine Lp_nil ?_
 exact k) : G := h H k
theorem J118 (H : Holds w l) (k : K) (h : Holds w l → K → G := by
 intro H k
 refine Lp_pv rfl rfl ?_
 refine Lp_pv rfl rfl ?_
 refine Lp_gpv rfl rfl rfl rfl ?_
 exact k) : G := h H k
theorem J119 (H : Holds w l) (k : K) (h : Holds w l → K → G := by
 intro H k
 refine A_pv 10 rfl (Wants.none rfl) rfl (by kernel_rfl) ?_
 refine A_end (by kernel_rfl) (by repeat first | exact .nil | refine .cons (.inr H.at) ?_ | refine .cons (.inr H.mp) ?_ | refine .cons (.inl (by kernel_rfl)) ?_) ?_
 exact k) : G := h H k
theorem J120 (H : Holds w l) (k : K) (h : Holds w l → K → G := by
 intro H k
 refine Lp_pv rfl rfl ?_
 refine Lp_pv rfl rfl ?_
 refine Lp_nil ?_
 repeat refine C_seq ?_
 refine C_false rfl ?_
 exact k) : G := h H k
theorem J121 (H : Holds w l) (k : K) (h : Holds w l → K → G := by
 intro H k
 refine A_end (by kernel_rfl) (by repeat first | exact .nil | refine .cons (.inr H.at) ?_ | refine .cons (.inr H.mp) ?_ | refine .cons (.inl (by kernel_rfl)) ?_) ?_
 repeat refine C_seq ?_
 refine C_false rfl (C_skip ?_)
 exact k) : G := h H k
theorem J122 (H : Holds w l) (k : K) (h : Holds w l → K → G := by
 intro H k
 refine Lp_pv rfl rfl ?_
 refine Lp_g rfl rfl rfl (St_fieldAddr rfl rfl ?_)
 refine Lp_g rfl rfl rfl (St_load1 H rfl rfl rfl ?_)
 refine Lp_gpv rfl rfl rfl rfl ?_
 refine Lp_pv rfl rfl ?_
 exact k) : G := h H k
theorem J123 (H : Holds w l) (k : K) (h : Holds w l → K → G := by
 intro H k
 refine Lp_g rfl rfl rfl (St_fieldAddr rfl rfl ?_)
 exact k) : G := h H k
theorem J124 (H : Holds w l) (k : K) (h : Holds w l → K → G := by
 intro H k
 refine Lp_s rfl (St_max rfl rfl rfl ?_)
 exact k) : G := h H k
theorem J125 (H : Holds w l) (k : K) (h : Holds w l → K → G := by
 intro H k
 repeat refine C_seq ?_
 refine C_block ?_
 repeat refine C_seq ?_
 refine C_region ?_
 refine Lp_pv rfl rfl ?_
 refine Lp_pv rfl rfl ?_
 exact k) : G := h H k
theorem J126 (H : Holds w l) (k : K) (h : Holds w l → K → G := by
 intro H k
 refine A_pv 6 rfl (Wants.none rfl) rfl (by kernel_rfl) ?_
 refine A_pv 7 rfl (Wants.none rfl) rfl (by kernel_rfl) ?_
 exact k) : G := h H k
theorem J127 (H : Holds w l) (k : K) (h : Holds w l → K → G := by
 intro H k
 refine Lp_nil ?_
 repeat refine C_seq ?_
 refine C_region ?_
 refine Lp_pv rfl rfl ?_
 refine Lp_pv rfl rfl ?_
 refine Lp_nil ?_
 exact k) : G := h H k
theorem J128 (H : Holds w l) (k : K) (h : Holds w l → K → G := by
 intro H k
 refine A_fieldAddr 8 rfl (Wants.none rfl) rfl (by kernel_rfl) ?_
 exact k) : G := h H k
theorem J129 (H : Holds w l) (k : K) (h : Holds w l → K → G := by
 intro H k
 refine Lp_pv rfl rfl ?_
 refine Lp_gpv rfl rfl rfl rfl ?_
 refine Lp_gpv rfl rfl rfl rfl ?_
 refine Lp_gpv rfl rfl rfl rfl ?_
 exact k) : G := h H k
theorem J130 (H : Holds w l) (k : K) (h : Holds w l → K → G := by
 intro H k
 refine Lp_no rfl rfl rfl ?_
 refine Lp_no rfl rfl rfl ?_
 refine Lp_no rfl rfl rfl ?_
 refine Lp_no rfl rfl rfl ?_
 exact k) : G := h H k
theorem J131 (H : Holds w l) (k : K) (h : Holds w l → K → G := by
 intro H k
 refine Lp_nil ?_
 repeat refine C_seq ?_
 refine C_region ?_
 refine Lp_pv rfl rfl ?_
 refine Lp_pv rfl rfl ?_
 exact k) : G := h H k
theorem J132 (H : Holds w l) (k : K) (h : Holds w l → K → G := by
 intro H k
 refine A_pv 7 rfl (Wants.none rfl) rfl (by kernel_rfl) ?_
 refine A_pv 8 rfl (Wants.none rfl) rfl (by kernel_rfl) ?_
 refine A_pv 9 rfl (Wants.none rfl) rfl (by kernel_rfl) ?_
 refine Jo 10 H ?_
 refine St_alloc H rfl ?_
 exact k) : G := h H k
theorem J133 (H : Holds w l) (k : K) (h : Holds w l → K → G := by
 intro H k
 refine A_pv 7 rfl (Wants.none rfl) rfl (by kernel_rfl) ?_
 refine A_pv 8 rfl (Wants.none rfl) rfl (by kernel_rfl) ?_
 refine A_pv 9 rfl (Wants.none rfl) rfl (by kernel_rfl) ?_
 exact k) : G := h H k
theorem J134 (H : Holds w l) (k : K) (h : Holds w l → K → G := by
 intro H k
 refine Lp_pv rfl rfl ?_
 refine Lp_pv rfl rfl ?_
 refine Lp_gpv rfl rfl rfl rfl ?_
 refine Lp_gpv rfl rfl rfl rfl ?_
 refine Lp_g rfl rfl rfl (St_fieldAddr rfl rfl ?_)
 refine Lp_g rfl rfl rfl (St_load1 H rfl rfl rfl ?_)
 refine Lp_gpv rfl rfl rfl rfl ?_
 exact k) : G := h H k
theorem J135 (H : Holds w l) (k : K) (h : Holds w l → K → G := by
 intro H k
 refine A_build 14 rfl (Wants.none rfl) rfl (by kernel_rfl) ?_
 refine Jo 15 H ?_
 refine St_boxN H rfl rfl ?_
 exact k) : G := h H k
theorem J136 (H : Holds w l) (k : K) (h : Holds w l → K → G := by
 intro H k
 refine Jo 16 H ?_
 refine St_buildSlice H rfl rfl rfl ?_
 exact k) : G := h H k
theorem J137 (H : Holds w l) (k : K) (h : Holds w l → K → G := by
 intro H k
 refine A_pv 18 rfl (Wants.none rfl) rfl (by kernel_rfl) ?_
 refine A_fieldAddr 19 rfl (Wants.none rfl) rfl (by kernel_rfl) ?_
 refine Jo 20 H ?_
 refine St_store1 H rfl rfl inferInstance rfl (Nat.le_of_ble_eq_true rfl) rfl ?_
 exact k) : G := h H k
theorem J138 (H : Holds w l) (k : K) (h : Holds w l → K → G := by
 intro H k
 refine A_pv 11 rfl (Wants.of rfl rfl rfl) rfl (by kernel_rfl) ?_
 exact k) : G := h H k
theorem J139 (H : Holds w l) (k : K) (h : Holds w l → K → G := by
 intro H k
 refine A_pv 14 rfl (Wants.of rfl rfl rfl) rfl (by kernel_rfl) ?_
 exact k) : G := h H k
theorem J140 (H : Holds w l) (k : K) (h : Holds w l → K → G := by
 intro H k
 refine A_pv 24 rfl (Wants.none rfl) rfl (by kernel_rfl) ?_
 refine A_pv 25 rfl (Wants.none rfl) rfl (by kernel_rfl) ?_
 exact k) : G := h H k
theorem J141 (H : Holds w l) (k : K) (h : Holds w l → K → G := by
 intro H k
 refine Jo 10 H ?_
 refine St_storeN H rfl rfl inferInstance rfl rfl (Nat.le_of_ble_eq_true rfl) rfl ?_
 exact k) : G := h H k
theorem J142 (H : Holds w l) (k : K) (h : Holds w l → K → G := by
 intro H k
 refine A_pv 11 rfl (Wants.none rfl) rfl (by kernel_rfl) ?_
 refine A_end (by kernel_rfl) (by repeat first | exact .nil | refine .cons (.inr H.at) ?_ | refine .cons (.inr H.mp) ?_ | refine .cons (.inl (by kernel_rfl)) ?_) ?_
 exact k) : G := h H k
theorem J143 (H : Holds w l) (k : K) (h : Holds w l → K → G := by
 intro H k
 refine Lp_s rfl (St_store1 H rfl rfl inferInstance rfl (Nat.le_of_ble_eq_true rfl) rfl ?_)
 exact k) : G := h H k
theorem J144 (H : Holds w l) (k : K) (h : Holds w l → K → G := by
 intro H k
 refine Lp_pv rfl rfl ?_
 refine Lp_pv rfl rfl ?_
 refine Lp_g rfl rfl rfl (St_fieldAddr rfl rfl ?_)
 refine Lp_g rfl rfl rfl (St_load1 H rfl rfl rfl ?_)
 refine Lp_gpv rfl rfl rfl rfl ?_
 exact k) : G := h H k
theorem J145 (H : Holds w l) (k : K) (h : Holds w l → K → G := by
 intro H k
 repeat refine C_seq ?_
 refine C_region ?_
 refine Lp_pv rfl rfl ?_
 refine Lp_s rfl (St_lenSlice rfl rfl ?_)
 refine Lp_pv rfl rfl ?_
 refine Lp_nil ?_
 repeat refine C_seq ?_
 refine C_block ?_
 exact k) : G := h H k
theorem J146 (H : Holds w l) (k : K) (h : Holds w l → K → G := by
 intro H k
 repeat refine C_seq ?_
 refine C_region ?_
 refine Lp_pv rfl rfl ?_
 refine Lp_s rfl (St_lenSlice rfl rfl ?_)
 exact k) : G := h H k
theorem J147 (H : Holds w l) (k : K) (h : Holds w l → K → G := by
 intro H k
 refine Lp_pv rfl rfl ?_
 refine Lp_gpv rfl rfl rfl rfl ?_
 exact k) : G := h H k
theorem J148 (H : Holds w l) (k : K) (h : Holds w l → K → G := by
 intro H k
 refine Lp_nil ?_
 repeat refine C_seq ?_
 refine C_region ?_
 refine Lp_pv rfl rfl ?_
 refine Lp_nil ?_
 exact k) : G := h H k
theorem J149 (H : Holds w l) (k : K) (h : Holds w l → K → G := by
 intro H k
 refine Lp_pv rfl rfl ?_
 refine Lp_nil ?_
 repeat refine C_seq ?_
 refine C_region ?_
 refine Lp_s rfl (St_fieldAddr rfl rfl ?_)
 refine Lp_s rfl (St_load1 H rfl rfl rfl ?_)
 exact k) : G := h H k
theorem J150 (H : Holds w l) (k : K) (h : Holds w l → K → G := by
 intro H k
 refine A_pv 12 rfl (Wants.none rfl) rfl (by kernel_rfl) ?_
 refine A_pv 13 rfl (Wants.none rfl) rfl (by kernel_rfl) ?_
 refine A_pv 14 rfl (Wants.none rfl) rfl (by kernel_rfl) ?_
 refine A_pv 15 rfl (Wants.none rfl) rfl (by kernel_rfl) ?_
 refine A_end (by kernel_rfl) (by repeat first | exact .nil | refine .cons (.inr H.at) ?_ | refine .cons (.inr H.mp) ?_ | refine .cons (.inl (by kernel_rfl)) ?_) ?_
 exact k) : G := h H k
theorem J151 (H : Holds w l) (k : K) (h : Holds w l → K → G := by
 intro H k
 repeat refine C_seq ?_
 refine C_region ?_
 refine Lp_s rfl (St_loadN H rfl (by repeat (first | exact Reads.nil _ | apply Reads.cons rfl)) rfl ?_)
 refine Lp_s rfl (St_build rfl rfl ?_)
 refine Lp_s rfl (St_eqAgg rfl rfl rfl rfl (.inl rfl) rfl ?_)
 exact k) : G := h H k
theorem J152 (H : Holds w l) (k : K) (h : Holds w l → K → G := by
 intro H k
 repeat refine C_seq ?_
 refine C_true rfl ?_
 repeat refine C_seq ?_
 refine C_region ?_
 refine Lp_s rfl (St_build rfl rfl ?_)
 refine Lp_s rfl (St_storeN H rfl rfl inferInstance rfl rfl (Nat.le_of_ble_eq_true rfl) rfl ?_)
 exact k) : G := h H k
theorem J153 (H : Holds w l) (k : K) (h : Holds w l → K → G := by
 intro H k
 refine Lp_nil ?_
 repeat refine C_seq ?_
 exact k) : G := h H k
theorem J154 (H : Holds w l) (k : K) (h : Holds w l → K → G := by
 intro H k
 refine Lp_gpv rfl rfl rfl rfl ?_
 refine Lp_gpv rfl rfl rfl rfl ?_
 refine Lp_pv rfl rfl ?_
 refine Lp_pv rfl rfl ?_
 exact k) : G := h H k
theorem J155 (H : Holds w l) (k : K) (h : Holds w l → K → G := by
 intro H k
 first | refine Lp_pv rfl rfl ?_ | refine Lp_mv rfl rfl ?_
 refine Lp_pv rfl rfl ?_
 refine Lp_pv rfl rfl ?_
 refine Lp_pv rfl rfl ?_
 refine Lp_pv rfl rfl ?_
 refine Lp_nil ?_
 exact k) : G := h H k
theorem J156 (H : Holds w l) (k : K) (h : Holds w l → K → G := by
 intro H k
 refine A_pv 0 rfl (Wants.none rfl) rfl (by kernel_rfl) ?_
 refine A_pv 1 rfl (Wants.none rfl) rfl (by kernel_rfl) ?_
 refine A_pv 2 rfl (Wants.none rfl) rfl (by kernel_rfl) ?_
 exact k) : G := h H k
theorem J157 (H : Holds w l) (k : K) (h : Holds w l → K → G := by
 intro H k
 repeat refine C_seq ?_
 refine C_region ?_
 refine Lp_pv rfl rfl ?_
 refine Lp_pv rfl rfl ?_
 refine Lp_s rfl (St_fieldAddr rfl rfl ?_)
 refine Lp_s rfl (St_load1 H rfl rfl rfl ?_)
 refine Lp_s rfl (St_lenSlice rfl rfl ?_)
 refine Lp_pv rfl rfl ?_
 refine Lp_nil ?_
 exact k) : G := h H k
theorem J158 (H : Holds w l) (k : K) (h : Holds w l → K → G := by
 intro H k
 refine A_pv 0 rfl (Wants.none rfl) rfl (by kernel_rfl) ?_
 refine A_pv 1 rfl (Wants.none rfl) rfl (by kernel_rfl) ?_
 refine A_fieldAddr 2 rfl (Wants.none rfl) rfl (by kernel_rfl) ?_
 refine A_load1 3 [] H rfl (Wants.none rfl) rfl rfl (by kernel_rfl) ?_
 exact k) : G := h H k
theorem J159 (H : Holds w l) (k : K) (h : Holds w l → K → G := by
 intro H k
 refine Lp_g rfl rfl rfl (St_fieldAddr rfl rfl ?_)
 refine Lp_g rfl rfl rfl (St_load1 H rfl rfl rfl ?_)
 refine Lp_g rfl rfl rfl (St_lenSlice rfl rfl ?_)
 refine Lp_gpv rfl rfl rfl rfl ?_
 exact k) : G := h H k
theorem J160 (H : Holds w l) (k : K) (h : Holds w l → K → G := by
 intro H k
 refine Lp_pv rfl rfl ?_
 refine Lp_pv rfl rfl ?_
 refine Lp_pv rfl rfl ?_
 refine Lp_pv rfl rfl ?_
 refine Lp_pv rfl rfl ?_
 exact k) : G := h H k
theorem J161 (H : Holds w l) (k : K) (h : Holds w l → K → G := by
 intro H k
 refine A_pv 10 rfl (Wants.none rfl) rfl (by kernel_rfl) ?_
 exact k) : G := h H k
theorem J162 (H : Holds w l) (k : K) (h : Holds w l → K → G := by
 intro H k
 refine A_pv 17 rfl (Wants.none rfl) rfl (by kernel_rfl) ?_
 exact k) : G := h H k
theorem J163 (H : Holds w l) (k : K) (h : Holds w l → K → G := by
 intro H k
 refine Lp_no rfl rfl rfl ?_
 refine Lp_no rfl rfl rfl ?_
 refine Lp_no rfl rfl rfl ?_
 refine Lp_no rfl rfl rfl ?_
 refine Lp_no rfl rfl rfl ?_
 refine Lp_no rfl rfl rfl ?_
 refine Lp_no rfl rfl rfl ?_
 exact k) : G := h H k
theorem J164 (H : Holds w l) (k : K) (h : Holds w l → K → G := by
 intro H k
 refine Lp_no rfl rfl rfl ?_
 refine Lp_no rfl rfl rfl ?_
 exact k) : G := h H k
theorem J165 (H : Holds w l) (k : K) (h : Holds w l → K → G := by
 intro H k
 refine Lp_pv rfl rfl ?_
 refine Lp_pv rfl rfl ?_
 refine Lp_gpv rfl rfl rfl rfl ?_
 refine Lp_gpv rfl rfl rfl rfl ?_
 exact k) : G := h H k
theorem J166 (H : Holds w l) (k : K) (h : Holds w l → K → G := by
 intro H k
 refine Lp_gpv rfl rfl rfl rfl ?_
 refine Lp_g rfl rfl rfl (St_fieldAddr rfl rfl ?_)
 refine Lp_g rfl rfl rfl (St_load1 H rfl rfl rfl ?_)
 refine Lp_gpv rfl rfl rfl rfl ?_
 exact k) : G := h H k
theorem J167 (H : Holds w l) (k : K) (h : Holds w l → K → G := by
 intro H k
 refine Lp_no rfl rfl rfl ?_
 refine Lp_no rfl rfl rfl ?_
 refine Lp_no rfl rfl rfl ?_
 exact k) : G := h H k
theorem J168 (H : Holds w l) (k : K) (h : Holds w l → K → G := by
 intro H k
 refine A_pv 12 rfl (Wants.none rfl) rfl (by kernel_rfl) ?_
 exact k) : G := h H k
theorem J169 (H : Holds w l) (k : K) (h : Holds w l → K → G := by
 intro H k
 repeat refine C_seq ?_
 refine C_region ?_
 refine Lp_pv rfl rfl ?_
 refine Lp_pv rfl rfl ?_
 refine Lp_s rfl (St_fieldAddr rfl rfl ?_)
 refine Lp_s rfl (St_load1 H rfl rfl rfl ?_)
 refine Lp_s rfl (St_lenSlice rfl rfl ?_)
 exact k) : G := h H k
theorem J170 (H : Holds w l) (k : K) (h : Holds w l → K → G := by
 intro H k
 refine A_pv 0 rfl (Wants.none rfl) rfl (by kernel_rfl) ?_
 refine A_pv 1 rfl (Wants.none rfl) rfl (by kernel_rfl) ?_
 refine A_pv 2 rfl (Wants.none rfl) rfl (by kernel_rfl) ?_
 refine A_fieldAddr 3 rfl (Wants.none rfl) rfl (by kernel_rfl) ?_
 exact k) : G := h H k
theorem J171 (H : Holds w l) (k : K) (h : Holds w l → K → G := by
 intro H k
 refine Lp_pv rfl rfl ?_
 refine Lp_no rfl rfl rfl ?_
 refine Lp_no rfl rfl rfl ?_
 refine Lp_no rfl rfl rfl ?_
 refine Lp_no rfl rfl rfl ?_
 refine Lp_no rfl rfl rfl ?_
 refine Lp_no rfl rfl rfl ?_
 refine Lp_no rfl rfl rfl ?_
 exact k) : G := h H k
theorem J172 (H : Holds w l) (k : K) (h : Holds w l → K → G := by
 intro H k
 repeat refine C_seq ?_
 refine C_region ?_
 refine Lp_pv rfl rfl ?_
 refine Lp_s rfl (St_fieldAddr rfl rfl ?_)
 refine Lp_s rfl (St_load1 H rfl rfl rfl ?_)
 exact k) : G := h H k
theorem J173 (H : Holds w l) (k : K) (h : Holds w l → K → G := by
 intro H k
 refine Lp_no rfl rfl rfl ?_
 refine Lp_no rfl rfl rfl ?_
 refine Lp_pv rfl rfl ?_
 refine Lp_pv rfl rfl ?_
 refine Lp_no rfl rfl rfl ?_
 refine Lp_no rfl rfl rfl ?_
 refine Lp_no rfl rfl rfl ?_
 refine Lp_no rfl rfl rfl ?_
 exact k) : G := h H k
theorem J174 (H : Holds w l) (k : K) (h : Holds w l → K → G := by
 intro H k
 refine Lp_pv rfl rfl ?_
 refine Lp_pv rfl rfl ?_
 refine Lp_pv rfl rfl ?_
 refine Lp_pv rfl rfl ?_
 refine Lp_nil ?_
 exact k) : G := h H k
theorem J175 (H : Holds w l) (k : K) (h : Holds w l → K → G := by
 intro H k
 repeat refine C_seq ?_
 refine C_region ?_
 refine Lp_pv rfl rfl ?_
 refine Lp_nil ?_
 repeat refine C_seq ?_
 refine C_region ?_
 exact k) : G := h H k
theorem J176 (H : Holds w l) (k : K) (h : Holds w l → K → G := by
 intro H k
 repeat refine C_seq ?_
 refine C_region ?_
 refine Lp_pv rfl rfl ?_
 refine Lp_pv rfl rfl ?_
 refine Lp_pv rfl rfl ?_
 refine Lp_pv rfl rfl ?_
 refine Lp_nil ?_
 exact k) : G := h H k
theorem J177 (H : Holds w l) (k : K) (h : Holds w l → K → G := by
 intro H k
 repeat refine C_seq ?_
 refine C_region ?_
 refine Lp_pv rfl rfl ?_
 refine Lp_pv rfl rfl ?_
 refine Lp_pv rfl rfl ?_
 refine Lp_s rfl (St_fieldAddr rfl rfl ?_)
 refine Lp_s rfl (St_load1 H rfl rfl rfl ?_)
 refine Lp_pv rfl rfl ?_
 exact k) : G := h H k
theorem J178 (H : Holds w l) (k : K) (h : Holds w l → K → G := by
 intro H k
 refine A_pv 14 rfl (Wants.none rfl) rfl (by kernel_rfl) ?_
 exact k) : G := h H k
theorem J179 (H : Holds w l) (k : K) (h : Holds w l → K → G := by
 intro H k
 refine A_pv 11 rfl (Wants.none rfl) rfl (by kernel_rfl) ?_
 exact k) : G := h H k
theorem J180 (H : Holds w l) (k : K) (h : Holds w l → K → G := by
 intro H k
 refine Lp_nil ?_
 repeat refine C_seq ?_
 refine C_false rfl (C_skip ?_)
 exact k) : G := h H k
theorem J181 (H : Holds w l) (k : K) (h : Holds w l → K → G := by
 intro H k
 refine A_pv 8 rfl (Wants.none rfl) rfl (by kernel_rfl) ?_
 refine A_end (by kernel_rfl) (by repeat first | exact .nil | refine .cons (.inr H.at) ?_ | refine .cons (.inr H.mp) ?_ | refine .cons (.inl (by kernel_rfl)) ?_) ?_
 exact k) : G := h H k
theorem J182 (H : Holds w l) (k : K) (h : Holds w l → K → G := by
 intro H k
 refine A_pv 38 rfl (Wants.none rfl) rfl (by kernel_rfl) ?_
 refine A_end (by kernel_rfl) (by repeat first | exact .nil | refine .cons (.inr H.at) ?_ | refine .cons (.inr H.mp) ?_ | refine .cons (.inl (by kernel_rfl)) ?_) ?_
 repeat refine C_seq ?_
 refine C_true rfl ?_
 repeat refine C_seq ?_
 refine C_region ?_
 refine Lp_pv rfl rfl ?_
 refine Lp_pv rfl rfl ?_
 refine Lp_nil ?_
 exact k) : G := h H k
theorem J183 (H : Holds w l) (k : K) (h : Holds w l → K → G := by
 intro H k
 repeat refine C_seq ?_
 refine C_true rfl ?_
 repeat refine C_seq ?_
 refine C_region ?_
 refine Lp_s rfl (St_build rfl rfl ?_)
 refine Lp_pv rfl rfl ?_
 refine Lp_s rfl (St_storeN H rfl rfl inferInstance rfl rfl (Nat.le_of_ble_eq_true rfl) rfl ?_)
 exact k) : G := h H k
theorem J184 (H : Holds w l) (k : K) (h : Holds w l → K → G := by
 intro H k
 refine Jo 11 H ?_
 refine St_alloc H rfl ?_
 exact k) : G := h H k
theorem J185 (H : Holds w l) (k : K) (h : Holds w l → K → G := by
 intro H k
 refine A_load1 3 [6, 11] H rfl (Wants.none rfl) rfl rfl (by kernel_rfl) ?_
 refine A_fieldAddr 4 rfl (Wants.none rfl) rfl (by kernel_rfl) ?_
 refine A_loadN 5 [6, 11] H rfl (Wants.none rfl) rfl (by repeat (first | exact Reads.nil _ | apply Reads.cons rfl)) (by kernel_rfl) ?_
 exact k) : G := h H k
theorem J186 (H : Holds w l) (k : K) (h : Holds w l → K → G := by
 intro H k
 refine A_pv 6 rfl (Wants.none rfl) rfl (by kernel_rfl) ?_
 exact k) : G := h H k
theorem J187 (H : Holds w l) (k : K) (h : Holds w l → K → G := by
 intro H k
 refine A_pv 18 rfl (Wants.none rfl) rfl (by kernel_rfl) ?_
 exact k) : G := h H k
theorem J188 (H : Holds w l) (k : K) (h : Holds w l → K → G := by
 intro H k
 refine A_pv 5 rfl (Wants.of rfl rfl rfl) rfl (by kernel_rfl) ?_
 exact k) : G := h H k
theorem J189 (H : Holds w l) (k : K) (h : Holds w l → K → G := by
 intro H k
 refine A_pv 8 rfl (Wants.of rfl rfl rfl) rfl (by kernel_rfl) ?_
 exact k) : G := h H k
theorem J190 (H : Holds w l) (k : K) (h : Holds w l → K → G := by
 intro H k
 repeat refine C_seq ?_
 refine C_region ?_
 refine Lp_s rfl (St_load1 H rfl rfl rfl ?_)
 refine Lp_pv rfl rfl ?_
 exact k) : G := h H k
theorem J191 (H : Holds w l) (k : K) (h : Holds w l → K → G := by
 intro H k
 refine A_pv 0 rfl (Wants.none rfl) rfl (by kernel_rfl) ?_
 refine A_pv 1 rfl (Wants.none rfl) rfl (by kernel_rfl) ?_
 refine A_fieldAddr 2 rfl (Wants.none rfl) rfl (by kernel_rfl) ?_
 refine A_load1 3 [6] H rfl (Wants.none rfl) rfl rfl (by kernel_rfl) ?_
 refine A_fieldAddr 4 rfl (Wants.none rfl) rfl (by kernel_rfl) ?_
 refine A_load1 5 [6] H rfl (Wants.none rfl) rfl rfl (by kernel_rfl) ?_
 refine Jo 6 H ?_
 exact k) : G := h H k
theorem J192 (H : Holds w l) (k : K) (h : Holds w l → K → G := by
 intro H k
 refine A_pv 0 rfl (Wants.none rfl) rfl (by kernel_rfl) ?_
 refine A_pv 1 rfl (Wants.none rfl) rfl (by kernel_rfl) ?_
 refine A_fieldAddr 2 rfl (Wants.none rfl) rfl (by kernel_rfl) ?_
 refine A_load1 3 [7] H rfl (Wants.none rfl) rfl rfl (by kernel_rfl) ?_
 refine A_pv 4 rfl (Wants.none rfl) rfl (by kernel_rfl) ?_
 refine A_fieldAddr 5 rfl (Wants.none rfl) rfl (by kernel_rfl) ?_
 refine A_load1 6 [7] H rfl (Wants.none rfl) rfl rfl (by kernel_rfl) ?_
 refine Jo 7 H ?_
 exact k) : G := h H k
theorem J193 (H : Holds w l) (k : K) (h : Holds w l → K → G := by
 intro H k
 refine A_pv 0 rfl (Wants.none rfl) rfl (by kernel_rfl) ?_
 refine A_pv 1 rfl (Wants.none rfl) rfl (by kernel_rfl) ?_
 exact k) : G := h H k
theorem J194 (H : Holds w l) (k : K) (h : Holds w l → K → G := by
 intro H k
 repeat refine C_seq ?_
 refine C_region ?_
 refine Lp_pv rfl rfl ?_
 refine Lp_nil ?_
 repeat refine C_seq ?_
 refine C_region ?_
 refine Lp_s rfl (St_build rfl rfl ?_)
 exact k) : G := h H k
theorem J195 (H : Holds w l) (k : K) (h : Holds w l → K → G := by
 intro H k
 refine Lp_pv rfl rfl ?_
 refine Lp_pv rfl rfl ?_
 refine Lp_nil ?_
 repeat refine C_seq ?_
 refine C_region ?_
 refine Lp_s rfl (St_loadN H rfl (by repeat (first | exact Reads.nil _ | apply Reads.cons rfl)) rfl ?_)
 exact k) : G := h H k
theorem J196 (H : Holds w l) (k : K) (h : Holds w l → K → G := by
 intro H k
 refine A_convI 3 rfl (Wants.none rfl) rfl (by kernel_rfl) ?_
 exact k) : G := h H k
theorem J197 (H : Holds w l) (k : K) (h : Holds w l → K → G := by
 intro H k
 refine Lp_pv rfl rfl ?_
 refine Lp_pv rfl rfl ?_
 refine Lp_pv rfl rfl ?_
 refine Lp_pv rfl rfl ?_
 refine Lp_pv rfl rfl ?_
 refine Lp_nil ?_
 repeat refine C_seq ?_
 refine C_drawH H mixed ?_
 exact k) : G := h H k
theorem J198 (H : Holds w l) (k : K) (h : Holds w l → K → G := by
 intro H k
 refine Lp_pv rfl rfl ?_
 refine Lp_nil ?_
 repeat refine C_seq ?_
 refine C_true rfl ?_
 repeat refine C_seq ?_
 refine C_region ?_
 refine Lp_pv rfl rfl ?_
 refine Lp_pv rfl rfl ?_
 refine Lp_nil ?_
 exact k) : G := h H k
theorem J199 (H : Holds w l) (k : K) (h : Holds w l → K → G := by
 intro H k
 repeat refine C_seq ?_
 refine C_region ?_
 refine Lp_pv rfl rfl ?_
 refine Lp_nil ?_
 repeat refine C_seq ?_
 refine C_region ?_
 refine Lp_pv rfl rfl ?_
 refine Lp_s rfl (St_eqPtrNil rfl rfl (.inl rfl) rfl ?_)
 refine Lp_nil ?_
 repeat refine C_seq ?_
 refine C_false rfl (C_skip ?_)
 repeat refine C_seq ?_
 refine C_region ?_
 refine Lp_pv rfl rfl ?_
 refine Lp_pv rfl rfl ?_
 refine Lp_s rfl (St_fieldAddr rfl rfl ?_)
 refine Lp_s rfl (St_load1 H rfl rfl rfl ?_)
 exact k) : G := h H k
theorem J200 (H : Holds w l) (k : K) (h : Holds w l → K → G := by
 intro H k
 refine A_pv 10 rfl (Wants.none rfl) rfl (by kernel_rfl) ?_
 refine A_pv 11 rfl (Wants.none rfl) rfl (by kernel_rfl) ?_
 refine A_end (by kernel_rfl) (by repeat first | exact .nil | refine .cons (.inr H.at) ?_ | refine .cons (.inr H.mp) ?_ | refine .cons (.inl (by kernel_rfl)) ?_) ?_
 exact k) : G := h H k
theorem J201 (H : Holds w l) (k : K) (h : Holds w l → K → G := by
 intro H k
 repeat refine C_seq ?_
 refine C_region ?_
 refine Lp_pv rfl rfl ?_
 refine Lp_nil ?_
 repeat refine C_seq ?_
 refine C_region ?_
 refine Lp_pv rfl rfl ?_
 refine Lp_s rfl (St_eqPtrNil rfl rfl (.inl rfl) rfl ?_)
 refine Lp_nil ?_
 repeat refine C_seq ?_
 refine C_false rfl (C_skip ?_)
 repeat refine C_seq ?_
 refine C_drawH H mixed ?_
 exact k) : G := h H k
theorem J202 (H : Holds w l) (k : K) (h : Holds w l → K → G := by
 intro H k
 refine Lp_gpv rfl rfl rfl rfl ?_
 refine Lp_pv rfl rfl ?_
 refine Lp_nil ?_
 exact k) : G := h H k
theorem J203 (H : Holds w l) (k : K) (h : Holds w l → K → G := by
 intro H k
 repeat refine C_seq ?_
 refine C_false rfl (C_skip ?_)
 repeat refine C_seq ?_
 refine C_region ?_
 refine Lp_pv rfl rfl ?_
 refine Lp_pv rfl rfl ?_
 refine Lp_nil ?_
 exact k) : G := h H k
theorem J204 (H : Holds w l) (k : K) (h : Holds w l → K → G := by
 intro H k
 repeat refine C_seq ?_
 refine C_region ?_
 refine Lp_pv rfl rfl ?_
 refine Lp_pv rfl rfl ?_
 refine Lp_nil ?_
 repeat refine C_seq ?_
 refine C_region ?_
 refine Lp_pv rfl rfl ?_
 refine Lp_s rfl (St_eqPtrNil rfl rfl (.inl rfl) rfl ?_)
 refine Lp_nil ?_
 repeat refine C_seq ?_
 refine C_false rfl (C_skip ?_)
 exact k) : G := h H k
theorem J205 (H : Holds w l) (k : K) (h : Holds w l → K → G := by
 intro H k
 repeat refine C_seq ?_
 refine C_region ?_
 refine Lp_pv rfl rfl ?_
 refine Lp_pv rfl rfl ?_
 refine Lp_pv rfl rfl ?_
 refine Lp_gpv rfl rfl rfl rfl ?_
 refine Lp_gpv rfl rfl rfl rfl ?_
 exact k) : G := h H k
theorem J206 (H : Holds w l) (k : K) (h : Holds w l → K → G := by
 intro H k
 refine Lp_pv rfl rfl ?_
 refine Lp_pv rfl rfl ?_
 refine Lp_nil ?_
 repeat refine C_seq ?_
 refine C_false rfl (C_skip ?_)
 exact k) : G := h H k
theorem J207 (H : Holds w l) (k : K) (h : Holds w l → K → G := by
 intro H k
 repeat refine C_seq ?_
 refine C_region ?_
 refine Lp_pv rfl rfl ?_
 refine Lp_pv rfl rfl ?_
 refine Lp_nil ?_
 repeat refine C_seq ?_
 exact k) : G := h H k
theorem J208 (H : Holds w l) (k : K) (h : Holds w l → K → G := by
 intro H k
 refine A_pv 9 rfl (Wants.none rfl) rfl (by kernel_rfl) ?_
 refine A_pv 10 rfl (Wants.none rfl) rfl (by kernel_rfl) ?_
 refine A_pv 11 rfl (Wants.none rfl) rfl (by kernel_rfl) ?_
 exact k) : G := h H k
theorem J209 (H : Holds w l) (k : K) (h : Holds w l → K → G := by
 intro H k
 refine A_pv 12 rfl (Wants.none rfl) rfl (by kernel_rfl) ?_
 refine A_pv 13 rfl (Wants.none rfl) rfl (by kernel_rfl) ?_
 refine A_pv 14 rfl (Wants.none rfl) rfl (by kernel_rfl) ?_
 exact k) : G := h H k
theorem J210 (H : Holds w l) (k : K) (h : Holds w l → K → G := by
 intro H k
 refine A_fieldAddr 15 rfl (Wants.none rfl) rfl (by kernel_rfl) ?_
 exact k) : G := h H k
theorem J211 (H : Holds w l) (k : K) (h : Holds w l → K → G := by
 intro H k
 refine Lp_pv rfl rfl ?_
 refine Lp_no rfl rfl rfl ?_
 refine Lp_no rfl rfl rfl ?_
 refine Lp_no rfl rfl rfl ?_
 exact k) : G := h H k
theorem J212 (H : Holds w l) (k : K) (h : Holds w l → K → G := by
 intro H k
 refine Lp_nn rfl rfl ?_
 refine Lp_nn rfl rfl ?_
 refine Lp_nn rfl rfl ?_
 refine Lp_no rfl rfl rfl ?_
 exact k) : G := h H k
theorem J213 (H : Holds w l) (k : K) (h : Holds w l → K → G := by
 intro H k
 repeat refine C_seq ?_
 refine C_region ?_
 refine Lp_s rfl (St_fieldAddr rfl rfl ?_)
 refine Lp_s rfl (St_load1 H rfl rfl rfl ?_)
 refine Lp_s rfl (St_fieldAddr rfl rfl ?_)
 refine Lp_s rfl (St_load1 H rfl rfl rfl ?_)
 exact k) : G := h H k
theorem J214 (H : Holds w l) (k : K) (h : Holds w l → K → G := by
 intro H k
 refine Lp_no rfl rfl rfl ?_
 refine Lp_no rfl rfl rfl ?_
 refine Lp_no rfl rfl rfl ?_
 refine Lp_no rfl rfl rfl ?_
 refine Lp_no rfl rfl rfl ?_
 exact k) : G := h H k
theorem J215 (H : Holds w l) (k : K) (h : Holds w l → K → G := by
 intro H k
 refine Lp_pv rfl rfl ?_
 refine Lp_pv rfl rfl ?_
 refine Lp_no rfl rfl rfl ?_
 refine Lp_no rfl rfl rfl ?_
 refine Lp_no rfl rfl rfl ?_
 exact k) : G := h H k
theorem J216 (H : Holds w l) (k : K) (h : Holds w l → K → G := by
 intro H k
 refine Lp_nn rfl rfl ?_
 refine Lp_nn rfl rfl ?_
 refine Lp_nn rfl rfl ?_
 refine Lp_no rfl rfl rfl ?_
 refine Lp_pv rfl rfl ?_
 refine Lp_pv rfl rfl ?_
 refine Lp_nil ?_
 exact k) : G := h H k
theorem J217 (H : Holds w l) (k : K) (h : Holds w l → K → G := by
 intro H k
 refine A_fieldAddr 3 rfl (Wants.none rfl) rfl (by kernel_rfl) ?_
 exact k) : G := h H k
theorem J218 (H : Holds w l) (k : K) (h : Holds w l → K → G := by
 intro H k
 refine A_pv 6 rfl (Wants.none rfl) rfl (by kernel_rfl) ?_
 refine A_pv 7 rfl (Wants.none rfl) rfl (by kernel_rfl) ?_
 refine A_pv 8 rfl (Wants.none rfl) rfl (by kernel_rfl) ?_
 refine A_pv 9 rfl (Wants.none rfl) rfl (by kernel_rfl) ?_
 exact k) : G := h H k
theorem J219 (H : Holds w l) (k : K) (h : Holds w l → K → G := by
 intro H k
 refine Lp_pv rfl rfl ?_
 refine Lp_pv rfl rfl ?_
 refine Lp_nil ?_
 repeat refine C_seq ?_
 refine C_true rfl ?_
 repeat refine C_seq ?_
 refine C_region ?_
 refine Lp_s rfl (St_build rfl rfl ?_)
 refine Lp_s rfl (St_storeN H rfl rfl inferInstance rfl rfl (Nat.le_of_ble_eq_true rfl) rfl ?_)
 exact k) : G := h H k
theorem J220 (H : Holds w l) (k : K) (h : Holds w l → K → G := by
 intro H k
 refine Lp_pv rfl rfl ?_
 refine Lp_pv rfl rfl ?_
 refine Lp_pv rfl rfl ?_
 refine Lp_nil ?_
 exact k) : G := h H k
theorem J221 (H : Holds w l) (k : K) (h : Holds w l → K → G := by
 intro H k
 repeat refine C_seq ?_
 refine C_false rfl (C_skip ?_)
 repeat refine C_seq ?_
 refine C_region ?_
 refine Lp_pv rfl rfl ?_
 refine Lp_pv rfl rfl ?_
 exact k) : G := h H k
theorem J222 (H : Holds w l) (k : K) (h : Holds w l → K → G := by
 intro H k
 refine Lp_s rfl (St_lenSlice rfl rfl ?_)
 refine Lp_pv rfl rfl ?_
 refine Lp_nil ?_
 repeat refine C_seq ?_
 exact k) : G := h H k
theorem J223 (H : Holds w l) (k : K) (h : Holds w l → K → G := by
 intro H k
 refine Lp_pv rfl rfl ?_
 refine Lp_pv rfl rfl ?_
 refine Lp_nil ?_
 repeat refine C_seq ?_
 refine C_region ?_
 refine Lp_pv rfl rfl ?_
 refine Lp_s rfl (St_eqPtrNil rfl rfl (.inl rfl) rfl ?_)
 refine Lp_nil ?_
 repeat refine C_seq ?_
 refine C_false rfl (C_skip ?_)
 exact k) : G := h H k
theorem J224 (H : Holds w l) (k : K) (h : Holds w l → K → G := by
 intro H k
 refine A_pv 0 rfl (Wants.none rfl) rfl (by kernel_rfl) ?_
 refine A_pv 1 rfl (Wants.none rfl) rfl (by kernel_rfl) ?_
 refine A_fieldAddr 2 rfl (Wants.none rfl) rfl (by kernel_rfl) ?_
 refine A_load1 3 [6] H rfl (Wants.none rfl) rfl rfl (by kernel_rfl) ?_
 exact k) : G := h H k
theorem J225 (H : Holds w l) (k : K) (h : Holds w l → K → G := by
 intro H k
 refine A_loadN 5 [6] H rfl (Wants.none rfl) rfl (by repeat (first | exact Reads.nil _ | apply Reads.cons rfl)) (by kernel_rfl) ?_
 refine Jo 6 H ?_
 exact k) : G := h H k
theorem J226 (H : Holds w l) (k : K) (h : Holds w l → K → G := by
 intro H k
 refine A_pv 0 rfl (Wants.none rfl) rfl (by kernel_rfl) ?_
 refine A_pv 1 rfl (Wants.none rfl) rfl (by kernel_rfl) ?_
 refine A_fieldAddr 2 rfl (Wants.none rfl) rfl (by kernel_rfl) ?_
 refine A_load1 3 [7] H rfl (Wants.none rfl) rfl rfl (by kernel_rfl) ?_
 refine A_fieldAddr 4 rfl (Wants.none rfl) rfl (by kernel_rfl) ?_
 exact k) : G := h H k
theorem J227 (H : Holds w l) (k : K) (h : Holds w l → K → G := by
 intro H k
 refine A_loadN 6 [7] H rfl (Wants.none rfl) rfl (by repeat (first | exact Reads.nil _ | apply Reads.cons rfl)) (by kernel_rfl) ?_
 refine Jo 7 H ?_
 exact k) : G := h H k
theorem J228 (H : Holds w l) (k : K) (h : Holds w l → K → G := by
 intro H k
 refine Lp_pv rfl rfl ?_
 refine Lp_nil ?_
 repeat refine C_seq ?_
 refine C_region ?_
 refine Lp_pv rfl rfl ?_
 refine Lp_s rfl (St_eqPtrNil rfl rfl (.inl rfl) rfl ?_)
 refine Lp_nil ?_
 repeat refine C_seq ?_
 refine C_false rfl (C_skip ?_)
 exact k) : G := h H k
theorem J229 (H : Holds w l) (k : K) (h : Holds w l → K → G := by
 intro H k
 refine A_pv 4 rfl (Wants.none rfl) rfl (by kernel_rfl) ?_
 refine A_pv 5 rfl (Wants.none rfl) rfl (by kernel_rfl) ?_
 refine A_fieldAddr 6 rfl (Wants.none rfl) rfl (by kernel_rfl) ?_
 exact k) : G := h H k
theorem J230 (H : Holds w l) (k : K) (h : Holds w l → K → G := by
 intro H k
 repeat refine C_seq ?_
 refine C_true rfl ?_
 repeat refine C_seq ?_
 refine C_region ?_
 refine Lp_pv rfl rfl ?_
 refine Lp_pv rfl rfl ?_
 refine Lp_pv rfl rfl ?_
 refine Lp_nil ?_
 exact k) : G := h H k
theorem J231 (H : Holds w l) (k : K) (h : Holds w l → K → G := by
 intro H k
 repeat refine C_seq ?_
 refine C_region ?_
 refine Lp_pv rfl rfl ?_
 refine Lp_s rfl (St_eqPtrNil rfl rfl (.inl rfl) rfl ?_)
 exact k) : G := h H k
theorem J232 (H : Holds w l) (k : K) (h : Holds w l → K → G := by
 intro H k
 refine Lp_g rfl rfl rfl (St_eqPtrNil rfl rfl (.inl rfl) rfl ?_)
 refine Lp_pv rfl rfl ?_
 refine Lp_nil ?_
 repeat refine C_seq ?_
 refine C_false rfl (C_skip ?_)
 exact k) : G := h H k
theorem J233 (H : Holds w l) (k : K) (h : Holds w l → K → G := by
 intro H k
 repeat refine C_seq ?_
 refine C_region ?_
 refine Lp_pv rfl rfl ?_
 refine Lp_pv rfl rfl ?_
 refine Lp_nil ?_
 repeat refine C_seq ?_
 refine C_false rfl (C_skip ?_)
 repeat refine C_seq ?_
 refine C_region ?_
 refine Lp_s rfl (St_loadN H rfl (by repeat (first | exact Reads.nil _ | apply Reads.cons rfl)) rfl ?_)
 exact k) : G := h H k
theorem J234 (H : Holds w l) (k : K) (h : Holds w l → K → G := by
 intro H k
 refine Lp_pv rfl rfl ?_
 refine Lp_pv rfl rfl ?_
 refine Lp_s rfl (St_storeN H rfl rfl inferInstance rfl rfl (Nat.le_of_ble_eq_true rfl) rfl ?_)
 exact k) : G := h H k
theorem J235 (H : Holds w l) (k : K) (h : Holds w l → K → G := by
 intro H k
 refine Lp_s rfl (St_fieldAddr rfl rfl ?_)
 refine Lp_s rfl (St_load1 H rfl rfl rfl ?_)
 refine Lp_pv rfl rfl ?_
 exact k) : G := h H k
theorem J236 (H : Holds w l) (k : K) (h : Holds w l → K → G := by
 intro H k
 refine Lp_pv rfl rfl ?_
 refine Lp_pv rfl rfl ?_
 refine Lp_no rfl rfl rfl ?_
 refine Lp_no rfl rfl rfl ?_
 refine Lp_no rfl rfl rfl ?_
 refine Lp_no rfl rfl rfl ?_
 refine Lp_no rfl rfl rfl ?_
 refine Lp_no rfl rfl rfl ?_
 refine Lp_no rfl rfl rfl ?_
 refine Lp_no rfl rfl rfl ?_
 exact k) : G := h H k
theorem J237 (H : Holds w l) (k : K) (h : Holds w l → K → G := by
 intro H k
 repeat refine C_seq ?_
 refine C_region ?_
 refine Lp_pv rfl rfl ?_
 refine Lp_pv rfl rfl ?_
 refine Lp_nil ?_
 repeat refine C_seq ?_
 refine C_true rfl ?_
 repeat refine C_seq ?_
 refine C_region ?_
 refine Lp_pv rfl rfl ?_
 refine Lp_nil ?_
 exact k) : G := h H k
theorem J238 (H : Holds w l) (k : K) (h : Holds w l → K → G := by
 intro H k
 repeat refine C_seq ?_
 refine C_region ?_
 refine Lp_pv rfl rfl ?_
 refine Lp_pv rfl rfl ?_
 refine Lp_s rfl (St_eqBool rfl rfl (.inr rfl) rfl ?_)
 refine Lp_nil ?_
 exact k) : G := h H k
theorem J239 (H : Holds w l) (k : K) (h : Holds w l → K → G := by
 intro H k
 refine Lp_pv rfl rfl ?_
 refine Lp_s rfl (St_fieldAddr rfl rfl ?_)
 refine Lp_s rfl (St_load1 H rfl rfl rfl ?_)
 refine Lp_pv rfl rfl ?_
 refine Lp_s rfl (St_eqBool rfl rfl (.inl rfl) rfl ?_)
 exact k) : G := h H k
theorem J240 (H : Holds w l) (k : K) (h : Holds w l → K → G := by
 intro H k
 refine Lp_pv rfl rfl ?_
 refine Lp_nil ?_
 repeat refine C_seq ?_
 refine C_region ?_
 refine Lp_pv rfl rfl ?_
 refine Lp_pv rfl rfl ?_
 refine Lp_nil ?_
 repeat refine C_seq ?_
 refine C_true rfl ?_
 repeat refine C_seq ?_
 refine C_region ?_
 refine Lp_pv rfl rfl ?_
 refine Lp_pv rfl rfl ?_
 refine Lp_nil ?_
 exact k) : G := h H k
theorem J241 (H : Holds w l) (k : K) (h : Holds w l → K → G := by
 intro H k
 refine A_pv 6 rfl (Wants.of rfl rfl rfl) rfl (by kernel_rfl) ?_
 exact k) : G := h H k
theorem J242 (H : Holds w l) (k : K) (h : Holds w l → K → G := by
 intro H k
 refine A_pv 7 rfl (Wants.of rfl rfl rfl) rfl (by kernel_rfl) ?_
 exact k) : G := h H k
theorem J243 (H : Holds w l) (k : K) (h : Holds w l → K → G := by
 intro H k
 refine A_load1 9 [] H rfl (Wants.of rfl rfl rfl) rfl rfl (by kernel_rfl) ?_
 exact k) : G := h H k
theorem J244 (H : Holds w l) (k : K) (h : Holds w l → K → G := by
 intro H k
 refine A_pv 15 rfl (Wants.of rfl rfl rfl) rfl (by kernel_rfl) ?_
 refine A_fieldAddr 16 rfl (Wants.of rfl rfl rfl) rfl (by kernel_rfl) ?_
 exact k) : G := h H k
theorem J245 (H : Holds w l) (k : K) (h : Holds w l → K → G := by
 intro H k
 refine A_fieldAddr 18 rfl (Wants.of rfl rfl rfl) rfl (by kernel_rfl) ?_
 refine A_load1 19 [] H rfl (Wants.of rfl rfl rfl) rfl rfl (by kernel_rfl) ?_
 exact k) : G := h H k
theorem J246 (H : Holds w l) (k : K) (h : Holds w l → K → G := by
 intro H k
 refine A_pv 23 rfl (Wants.of rfl rfl rfl) rfl (by kernel_rfl) ?_
 exact k) : G := h H k
theorem J247 (H : Holds w l) (k : K) (h : Holds w l → K → G := by
 intro H k
 refine A_pv 26 rfl (Wants.of rfl rfl rfl) rfl (by kernel_rfl) ?_
 exact k) : G := h H k
theorem J248 (H : Holds w l) (k : K) (h : Holds w l → K → G := by
 intro H k
 refine Lp_pv rfl rfl ?_
 refine Lp_pv rfl rfl ?_
 refine Lp_gpv rfl rfl rfl rfl ?_
 refine Lp_gpv rfl rfl rfl rfl ?_
 refine Lp_gpv rfl rfl rfl rfl ?_
 exact k) : G := h H k
theorem J249 (H : Holds w l) (k : K) (h : Holds w l → K → G := by
 intro H k
 refine Lp_s rfl (St_build rfl rfl ?_)
 refine Lp_s rfl (St_storeN H rfl rfl inferInstance rfl rfl (Nat.le_of_ble_eq_true rfl) rfl ?_)
 exact k) : G := h H k
theorem J250 (H : Holds w l) (k : K) (h : Holds w l → K → G := by
 intro H k
 refine Lp_pv rfl rfl ?_
 refine Lp_nil ?_
 repeat refine C_seq ?_
 refine C_region ?_
 refine Lp_s rfl (St_load1 H rfl rfl rfl ?_)
 refine Lp_s rfl (St_loadN H rfl (by repeat (first | exact Reads.nil _ | apply Reads.cons rfl)) rfl ?_)
 refine Lp_pv rfl rfl ?_
 exact k) : G := h H k
theorem J251 (H : Holds w l) (k : K) (h : Holds w l → K → G := by
 intro H k
 refine A_load1 0 [8] H rfl (Wants.none rfl) rfl rfl (by kernel_rfl) ?_
 refine A_pv 1 rfl (Wants.none rfl) rfl (by kernel_rfl) ?_
 refine A_fieldAddr 2 rfl (Wants.none rfl) rfl (by kernel_rfl) ?_
 refine A_load1 3 [8] H rfl (Wants.none rfl) rfl rfl (by kernel_rfl) ?_
 refine A_fieldAddr 4 rfl (Wants.none rfl) rfl (by kernel_rfl) ?_
 refine A_load1 5 [8] H rfl (Wants.none rfl) rfl rfl (by kernel_rfl) ?_
 exact k) : G := h H k
theorem J252 (H : Holds w l) (k : K) (h : Holds w l → K → G := by
 intro H k
 refine A_pv 7 rfl (Wants.none rfl) rfl (by kernel_rfl) ?_
 refine A_pv 8 rfl (Wants.none rfl) rfl (by kernel_rfl) ?_
 refine A_pv 9 rfl (Wants.none rfl) rfl (by kernel_rfl) ?_
 refine A_pv 10 rfl (Wants.none rfl) rfl (by kernel_rfl) ?_
 exact k) : G := h H k
theorem J253 (H : Holds w l) (k : K) (h : Holds w l → K → G := by
 intro H k
 refine A_pv 13 rfl (Wants.none rfl) rfl (by kernel_rfl) ?_
 refine A_pv 14 rfl (Wants.none rfl) rfl (by kernel_rfl) ?_
 refine A_end (by kernel_rfl) (by repeat first | exact .nil | refine .cons (.inr H.at) ?_ | refine .cons (.inr H.mp) ?_ | refine .cons (.inl (by kernel_rfl)) ?_) ?_
 exact k) : G := h H k
theorem J254 (H : Holds w l) (k : K) (h : Holds w l → K → G := by
 intro H k
 refine A_pv 9 rfl (Wants.of rfl rfl rfl) rfl (by kernel_rfl) ?_
 exact k) : G := h H k
theorem J255 (H : Holds w l) (k : K) (h : Holds w l → K → G := by
 intro H k
 refine A_pv 19 rfl (Wants.none rfl) rfl (by kernel_rfl) ?_
 exact k) : G := h H k
theorem J256 (H : Holds w l) (k : K) (h : Holds w l → K → G := by
 intro H k
 repeat refine C_seq ?_
 refine C_region ?_
 refine Lp_pv rfl rfl ?_
 refine Lp_pv rfl rfl ?_
 refine Lp_s rfl (St_fieldAddr rfl rfl ?_)
 refine Lp_s rfl (St_load1 H rfl rfl rfl ?_)
 refine Lp_pv rfl rfl ?_
 refine Lp_s rfl (St_fieldAddr rfl rfl ?_)
 refine Lp_s rfl (St_load1 H rfl rfl rfl ?_)
 exact k) : G := h H k
theorem J257 (H : Holds w l) (k : K) (h : Holds w l → K → G := by
 intro H k
 refine A_fieldAddr 10 rfl (Wants.of rfl rfl rfl) rfl (by kernel_rfl) ?_
 exact k) : G := h H k
theorem J258 (H : Holds w l) (k : K) (h : Holds w l → K → G := by
 intro H k
 refine Lp_s rfl (St_eqPtrNil rfl rfl (.inl rfl) rfl ?_)
 exact k) : G := h H k
theorem J259 (H : Holds w l) (k : K) (h : Holds w l → K → G := by
 intro H k
 refine Lp_pv rfl rfl ?_
 refine Lp_pv rfl rfl ?_
 refine Lp_g rfl rfl rfl (St_fieldAddr rfl rfl ?_)
 refine Lp_g rfl rfl rfl (St_load1 H rfl rfl rfl ?_)
 refine Lp_g rfl rfl rfl (St_lenSlice rfl rfl ?_)
 refine Lp_gpv rfl rfl rfl rfl ?_
 exact k) : G := h H k
theorem J260 (H : Holds w l) (k : K) (h : Holds w l → K → G := by
 intro H k
 refine A_pv 12 rfl (Wants.none rfl) rfl (by kernel_rfl) ?_
 refine A_end (by kernel_rfl) (by repeat first | exact .nil | refine .cons (.inr H.at) ?_ | refine .cons (.inr H.mp) ?_ | refine .cons (.inl (by kernel_rfl)) ?_) ?_
 repeat refine C_seq ?_
 refine C_region ?_
 refine Lp_s rfl (St_fieldAddr rfl rfl ?_)
 refine Lp_s rfl (St_load1 H rfl rfl rfl ?_)
 refine Lp_pv rfl rfl ?_
 refine Lp_pv rfl rfl ?_
 refine Lp_gpv rfl rfl rfl rfl ?_
 refine Lp_gpv rfl rfl rfl rfl ?_
 refine Lp_pv rfl rfl ?_
 refine Lp_pv rfl rfl ?_
 refine Lp_g rfl rfl rfl (St_fieldAddr rfl rfl ?_)
 refine Lp_g rfl rfl rfl (St_load1 H rfl rfl rfl ?_)
 refine Lp_g rfl rfl rfl (St_fieldAddr rfl rfl ?_)
 refine Lp_g rfl rfl rfl (St_load1 H rfl rfl rfl ?_)
 refine Lp_gpv rfl rfl rfl rfl ?_
 exact k) : G := h H k
theorem J261 (H : Holds w l) (k : K) (h : Holds w l → K → G := by
 intro H k
 refine Lp_pv rfl rfl ?_
 refine Lp_pv rfl rfl ?_
 refine Lp_nil ?_
 repeat refine C_seq ?_
 refine C_region ?_
 refine Lp_pv rfl rfl ?_
 refine Lp_pv rfl rfl ?_
 refine Lp_s rfl (St_eqBool rfl rfl (.inr rfl) rfl ?_)
 refine Lp_pv rfl rfl ?_
 refine Lp_gpv rfl rfl rfl rfl ?_
 refine Lp_gpv rfl rfl rfl rfl ?_
 refine Lp_no rfl rfl rfl ?_
 refine Lp_no rfl rfl rfl ?_
 refine Lp_no rfl rfl rfl ?_
 refine Lp_no rfl rfl rfl ?_
 refine Lp_no rfl rfl rfl ?_
 refine Lp_gpv rfl rfl rfl rfl ?_
 refine Lp_pv rfl rfl ?_
 refine Lp_nil ?_
 repeat refine C_seq ?_
 refine C_false rfl (C_skip ?_)
 repeat refine C_seq ?_
 refine C_region ?_
 refine Lp_pv rfl rfl ?_
 refine Lp_nil ?_
 repeat refine C_seq ?_
 refine C_false rfl (C_skip ?_)
 exact k) : G := h H k
theorem J262 (H : Holds w l) (k : K) (h : Holds w l → K → G := by
 intro H k
 refine Lp_gpv rfl rfl rfl rfl ?_
 refine Lp_pv rfl rfl ?_
 refine Lp_nil ?_
 repeat refine C_seq ?_
 refine C_false rfl (C_skip ?_)
 repeat refine C_seq ?_
 refine C_region ?_
 refine Lp_pv rfl rfl ?_
 refine Lp_nil ?_
 exact k) : G := h H k
theorem J263 (H : Holds w l) (k : K) (h : Holds w l → K → G := by
 intro H k
 refine Lp_s rfl (St_build rfl rfl ?_)
 refine Lp_s rfl (St_build rfl rfl ?_)
 exact k) : G := h H k
theorem J264 (H : Holds w l) (k : K) (h : Holds w l → K → G := by
 intro H k
 refine Lp_pv rfl rfl ?_
 refine Lp_nil ?_
 repeat refine C_seq ?_
 refine C_false rfl ?_
 exact k) : G := h H k
theorem J265 (H : Holds w l) (k : K) (h : Holds w l → K → G := by
 intro H k
 refine Lp_pv rfl rfl ?_
 refine Lp_pv rfl rfl ?_
 refine Lp_pv rfl rfl ?_
 exact k) : G := h H k
theorem J266 (H : Holds w l) (k : K) (h : Holds w l → K → G := by
 intro H k
 refine A_loadN 4 [5] H rfl (Wants.none rfl) rfl (by repeat (first | exact Reads.nil _ | apply Reads.cons rfl)) (by kernel_rfl) ?_
 exact k) : G := h H k
theorem J267 (H : Holds w l) (k : K) (h : Holds w l → K → G := by
 intro H k
 refine A_loadN 4 [6] H rfl (Wants.none rfl) rfl (by repeat (first | exact Reads.nil _ | apply Reads.cons rfl)) (by kernel_rfl) ?_
 exact k) : G := h H k
theorem J268 (H : Holds w l) (k : K) (h : Holds w l → K → G := by
 intro H k
 refine A_load1 5 [] H rfl (Wants.of rfl rfl rfl) rfl rfl (by kernel_rfl) ?_
 exact k) : G := h H k
theorem J269 (H : Holds w l) (k : K) (h : Holds w l → K → G := by
 intro H k
 refine A_load1 3 [5, 10] H rfl (Wants.none rfl) rfl rfl (by kernel_rfl) ?_
 exact k) : G := h H k
theorem J270 (H : Holds w l) (k : K) (h : Holds w l → K → G := by
 intro H k
 refine A_loadN 4 [5, 10] H rfl (Wants.none rfl) rfl (by repeat (first | exact Reads.nil _ | apply Reads.cons rfl)) (by kernel_rfl) ?_
 exact k) : G := h H k
theorem J271 (H : Holds w l) (k : K) (h : Holds w l → K → G := by
 intro H k
 refine Lp_s rfl (St_loadN H rfl (by repeat (first | exact Reads.nil _ | apply Reads.cons rfl)) rfl ?_)
 refine Lp_pv rfl rfl ?_
 exact k) : G := h H k
theorem J272 (H : Holds w l) (k : K) (h : Holds w l → K → G := by
 intro H k
 refine A_load1 3 [7, 12] H rfl (Wants.none rfl) rfl rfl (by kernel_rfl) ?_
 exact k) : G := h H k
theorem J273 (H : Holds w l) (k : K) (h : Holds w l → K → G := by
 intro H k
 refine A_loadN 4 [7, 12] H rfl (Wants.none rfl) rfl (by repeat (first | exact Reads.nil _ | apply Reads.cons rfl)) (by kernel_rfl) ?_
 exact k) : G := h H k
theorem J274 (H : Holds w l) (k : K) (h : Holds w l → K → G := by
 intro H k
 refine A_load1 6 [7, 12] H rfl (Wants.none rfl) rfl rfl (by kernel_rfl) ?_
 exact k) : G := h H k
theorem J275 (H : Holds w l) (k : K) (h : Holds w l → K → G := by
 intro H k
 refine A_load1 0 [6, 11] H rfl (Wants.none rfl) rfl rfl (by kernel_rfl) ?_
 exact k) : G := h H k
theorem J276 (H : Holds w l) (k : K) (h : Holds w l → K → G := by
 intro H k
 repeat refine C_seq ?_
 refine C_region ?_
 refine Lp_pv rfl rfl ?_
 refine Lp_s rfl (St_eqPtrNil rfl rfl (.inl rfl) rfl ?_)
 refine Lp_pv rfl rfl ?_
 refine Lp_nil ?_
 repeat refine C_seq ?_
 refine C_false rfl ?_
 exact k) : G := h H k
theorem J277 (H : Holds w l) (k : K) (h : Holds w l → K → G := by
 intro H k
 refine A_loadN 5 [6, 7, 10] H rfl (Wants.none rfl) rfl (by repeat (first | exact Reads.nil _ | apply Reads.cons rfl)) (by kernel_rfl) ?_
 exact k) : G := h H k
theorem J278 (H : Holds w l) (k : K) (h : Holds w l → K → G := by
 intro H k
 refine Lp_pv rfl rfl ?_
 refine Lp_nil ?_
 repeat refine C_seq ?_
 refine C_region ?_
 refine Lp_s rfl (St_load1 H rfl rfl rfl ?_)
 exact k) : G := h H k
theorem J279 (H : Holds w l) (k : K) (h : Holds w l → K → G := by
 intro H k
 refine Lp_pv rfl rfl ?_
 refine Lp_pv rfl rfl ?_
 refine Lp_gpv rfl rfl rfl rfl ?_
 refine Lp_gpv rfl rfl rfl rfl ?_
 refine Lp_pv rfl rfl ?_
 refine Lp_pv rfl rfl ?_
 exact k) : G := h H k
theorem J280 (H : Holds w l) (k : K) (h : Holds w l → K → G := by
 intro H k
 refine Lp_pv rfl rfl ?_
 refine Lp_pv rfl rfl ?_
 refine Lp_nil ?_
 repeat refine C_seq ?_
 refine C_region ?_
 refine Lp_pv rfl rfl ?_
 refine Lp_pv rfl rfl ?_
 refine Lp_s rfl (St_eqBool rfl rfl (.inr rfl) rfl ?_)
 exact k) : G := h H k
end
end Go.SL
