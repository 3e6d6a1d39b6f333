/- Cells: what is proved on the way: every input of the statement; no condition. Texts joined: InE SlW SlX SlY SlT Sri Srs SlS Srt SlI SlZ Dic RemA FldA FldB FldC HdrA HdrB BmpA BmpB StoA StoB LayP LayA LayB LayC LayD LayE RmB TreA. -/
import Derived.Test.YtipelpbkeiphmaaGreatDoorAad
import Derived.Laws.MakeOwn
import Derived.Shelf.SlGeneric
import Derived.Shelf.Spec.SlicesInsert
import Derived.Shelf.Spec.SlicesInsertGrow
import Derived.Shelf.Slices.SearchI
import Derived.Shelf.Slices.Empties
import Derived.Ground.Names2Prog
import Derived.Test.YtipelpbkeiphmaaGreatDoorProg
import Derived.Shelf.Sort.Plain
import Derived.Shelf.Slices.In.SortNone
import Derived.Ground.NamesProg
import Derived.Test.YtipelpbkeiphmaaGreatDoorAac
import Derived.Shelf.SlSortCmp.NoneTotal
import Derived.Ground.SlsfProg
import Derived.RangeFuncNested
import Derived.WideKeyArgs
import Derived.ChangeOld
import Derived.OpenShut
import Derived.ProofKit
import Derived.Deep.Slices
import Derived.Test.YtipelpbkeiphmaaGreatDoorAaa
import Derived.Test.YtipelpbkeiphmaaGreatDoorAab
set_option linter.unusedVariables false
namespace Go.Proofs.YtipelpbkeiphmaaGreatDoor
open Go.SL
theorem semEq29 : SemEq Tryz.prog 29 [.i, .i, .i, .i, .i, .i, .i] 2 := semEq_of Tryz.underlying29 (by kernel_rfl) (FsEq.one (by decide) rfl (inferInstance : T1 Tryz.prog 3) ⟨_, Tryz.underlying3⟩ (by decide) (FsEq.one (by decide) rfl (inferInstance : T1 Tryz.prog 3) ⟨_, Tryz.underlying3⟩ (by decide) (FsEq.one (by decide) rfl (inferInstance : T1 Tryz.prog 3) ⟨_, Tryz.underlying3⟩ (by decide) (FsEq.one (by decide) rfl (inferInstance : T1 Tryz.prog 3) ⟨_, Tryz.underlying3⟩ (by decide) (FsEq.one (by decide) rfl (inferInstance : T1 Tryz.prog 3) ⟨_, Tryz.underlying3⟩ (by decide) (FsEq.one (by decide) rfl (inferInstance : T1 Tryz.prog 3) ⟨_, Tryz.underlying3⟩ (by decide) (FsEq.one (by decide) rfl (inferInstance : T1 Tryz.prog 3) ⟨_, Tryz.underlying3⟩ (by decide) FsEq.nil)))))))
instance : TAgg Tryz.prog 29 [.i, .i, .i, .i, .i, .i, .i] := ⟨⟨2, by decide, semEq29⟩, by kernel_rfl⟩
theorem semEq30 : SemEq Tryz.prog 30 [.i, .i, .i, .i, .i, .i, .i] 2 := semEq_of Tryz.underlying30 (by kernel_rfl) (FsEq.one (by decide) rfl (inferInstance : T1 Tryz.prog 3) ⟨_, Tryz.underlying3⟩ (by decide) (FsEq.one (by decide) rfl (inferInstance : T1 Tryz.prog 3) ⟨_, Tryz.underlying3⟩ (by decide) (FsEq.one (by decide) rfl (inferInstance : T1 Tryz.prog 3) ⟨_, Tryz.underlying3⟩ (by decide) (FsEq.one (by decide) rfl (inferInstance : T1 Tryz.prog 3) ⟨_, Tryz.underlying3⟩ (by decide) (FsEq.one (by decide) rfl (inferInstance : T1 Tryz.prog 3) ⟨_, Tryz.underlying3⟩ (by decide) (FsEq.one (by decide) rfl (inferInstance : T1 Tryz.prog 3) ⟨_, Tryz.underlying3⟩ (by decide) (FsEq.one (by decide) rfl (inferInstance : T1 Tryz.prog 3) ⟨_, Tryz.underlying3⟩ (by decide) FsEq.nil)))))))
instance : TAgg Tryz.prog 30 [.i, .i, .i, .i, .i, .i, .i] := ⟨⟨2, by decide, semEq30⟩, by kernel_rfl⟩
theorem semEq34 : SemEq Tryz.prog 34 [.i, .i, .i, .i, .i, .i] 2 := semEq_of Tryz.underlying34 (by kernel_rfl) (FsEq.one (by decide) rfl (inferInstance : T1 Tryz.prog 3) ⟨_, Tryz.underlying3⟩ (by decide) (FsEq.one (by decide) rfl (inferInstance : T1 Tryz.prog 3) ⟨_, Tryz.underlying3⟩ (by decide) (FsEq.one (by decide) rfl (inferInstance : T1 Tryz.prog 3) ⟨_, Tryz.underlying3⟩ (by decide) (FsEq.one (by decide) rfl (inferInstance : T1 Tryz.prog 3) ⟨_, Tryz.underlying3⟩ (by decide) (FsEq.one (by decide) rfl (inferInstance : T1 Tryz.prog 3) ⟨_, Tryz.underlying3⟩ (by decide) (FsEq.one (by decide) rfl (inferInstance : T1 Tryz.prog 3) ⟨_, Tryz.underlying3⟩ (by decide) FsEq.nil))))))
instance : TAgg Tryz.prog 34 [.i, .i, .i, .i, .i, .i] := ⟨⟨2, by decide, semEq34⟩, by kernel_rfl⟩
theorem semEq35 : SemEq Tryz.prog 35 [.i, .i, .i, .i, .i, .i] 2 := semEq_of Tryz.underlying35 (by kernel_rfl) (FsEq.one (by decide) rfl (inferInstance : T1 Tryz.prog 3) ⟨_, Tryz.underlying3⟩ (by decide) (FsEq.one (by decide) rfl (inferInstance : T1 Tryz.prog 3) ⟨_, Tryz.underlying3⟩ (by decide) (FsEq.one (by decide) rfl (inferInstance : T1 Tryz.prog 3) ⟨_, Tryz.underlying3⟩ (by decide) (FsEq.one (by decide) rfl (inferInstance : T1 Tryz.prog 3) ⟨_, Tryz.underlying3⟩ (by decide) (FsEq.one (by decide) rfl (inferInstance : T1 Tryz.prog 3) ⟨_, Tryz.underlying3⟩ (by decide) (FsEq.one (by decide) rfl (inferInstance : T1 Tryz.prog 3) ⟨_, Tryz.underlying3⟩ (by decide) FsEq.nil))))))
instance : TAgg Tryz.prog 35 [.i, .i, .i, .i, .i, .i] := ⟨⟨2, by decide, semEq35⟩, by kernel_rfl⟩
theorem semEq88 : SemEq Tryz.prog 88 [.i, .i] 2 := semEq_of Tryz.underlying88 (by kernel_rfl) (FsEq.one (by decide) rfl (inferInstance : T1 Tryz.prog 3) ⟨_, Tryz.underlying3⟩ (by decide) (FsEq.one (by decide) rfl (inferInstance : T1 Tryz.prog 3) ⟨_, Tryz.underlying3⟩ (by decide) FsEq.nil))
instance : TAgg Tryz.prog 88 [.i, .i] := ⟨⟨2, by decide, semEq88⟩, by kernel_rfl⟩
theorem semEq102 : SemEq Tryz.prog 102 [.i, .i, .b, .b] 2 := semEq_of Tryz.underlying102 (by kernel_rfl) (FsEq.one (by decide) rfl (inferInstance : T1 Tryz.prog 3) ⟨_, Tryz.underlying3⟩ (by decide) (FsEq.one (by decide) rfl (inferInstance : T1 Tryz.prog 3) ⟨_, Tryz.underlying3⟩ (by decide) (FsEq.one (by decide) rfl (inferInstance : T1 Tryz.prog 4) Tryz.underlying4 (by decide) (FsEq.one (by decide) rfl (inferInstance : T1 Tryz.prog 4) Tryz.underlying4 (by decide) FsEq.nil))))
instance : TAgg Tryz.prog 102 [.i, .i, .b, .b] := ⟨⟨2, by decide, semEq102⟩, by kernel_rfl⟩
theorem semEq108 : SemEq Tryz.prog 108 [.i, .i, .i] 3 := semEq_of Tryz.underlying108 (by kernel_rfl) (FsEq.one (by decide) rfl (inferInstance : T1 Tryz.prog 3) ⟨_, Tryz.underlying3⟩ (by decide) (FsEq.agg (by decide) rfl (inferInstance : TN Tryz.prog 88 2) semEq88 (by decide) rfl rfl FsEq.nil))
instance : TAgg Tryz.prog 108 [.i, .i, .i] := ⟨⟨3, by decide, semEq108⟩, by kernel_rfl⟩
theorem semEq146 : SemEq Tryz.prog 146 [.i, .i] 2 := semEq_of Tryz.underlying146 (by kernel_rfl) (FsEq.one (by decide) rfl (inferInstance : T1 Tryz.prog 3) ⟨_, Tryz.underlying3⟩ (by decide) (FsEq.one (by decide) rfl (inferInstance : T1 Tryz.prog 3) ⟨_, Tryz.underlying3⟩ (by decide) FsEq.nil))
instance : TAgg Tryz.prog 146 [.i, .i] := ⟨⟨2, by decide, semEq146⟩, by kernel_rfl⟩
theorem semEq155 : SemEq Tryz.prog 155 [.i, .i] 2 := semEq_of Tryz.underlying155 (by kernel_rfl) (FsEq.one (by decide) rfl (inferInstance : T1 Tryz.prog 3) ⟨_, Tryz.underlying3⟩ (by decide) (FsEq.one (by decide) rfl (inferInstance : T1 Tryz.prog 3) ⟨_, Tryz.underlying3⟩ (by decide) FsEq.nil))
instance : TAgg Tryz.prog 155 [.i, .i] := ⟨⟨2, by decide, semEq155⟩, by kernel_rfl⟩
theorem semEq223 : SemEq Tryz.prog 223 [.i, .b, .i, .i, .b, .b] 3 := semEq_of Tryz.underlying223 (by kernel_rfl) (FsEq.one (by decide) rfl (inferInstance : T1 Tryz.prog 3) ⟨_, Tryz.underlying3⟩ (by decide) (FsEq.one (by decide) rfl (inferInstance : T1 Tryz.prog 4) Tryz.underlying4 (by decide) (FsEq.agg (by decide) rfl (inferInstance : TN Tryz.prog 102 4) semEq102 (by decide) rfl rfl FsEq.nil)))
instance : TAgg Tryz.prog 223 [.i, .b, .i, .i, .b, .b] := ⟨⟨3, by decide, semEq223⟩, by kernel_rfl⟩
theorem semEq271 : SemEq Tryz.prog 271 [.i, .i] 2 := semEq_of Tryz.underlying271 (by kernel_rfl) (FsEq.one (by decide) rfl (inferInstance : T1 Tryz.prog 3) ⟨_, Tryz.underlying3⟩ (by decide) (FsEq.one (by decide) rfl (inferInstance : T1 Tryz.prog 3) ⟨_, Tryz.underlying3⟩ (by decide) FsEq.nil))
instance : TAgg Tryz.prog 271 [.i, .i] := ⟨⟨2, by decide, semEq271⟩, by kernel_rfl⟩
theorem semEq390 : SemEq Tryz.prog 390 [.i, .i] 2 := semEq_of Tryz.underlying390 (by kernel_rfl) (FsEq.one (by decide) rfl (inferInstance : T1 Tryz.prog 3) ⟨_, Tryz.underlying3⟩ (by decide) (FsEq.one (by decide) rfl (inferInstance : T1 Tryz.prog 3) ⟨_, Tryz.underlying3⟩ (by decide) FsEq.nil))
instance : TAgg Tryz.prog 390 [.i, .i] := ⟨⟨2, by decide, semEq390⟩, by kernel_rfl⟩
end Go.Proofs.YtipelpbkeiphmaaGreatDoor
set_option linter.unusedSimpArgs false
set_option linter.unusedSectionVars false
namespace Go.SL
section
variable {P : Program} {n : Nat} {r : Option Nat} {σ : Env} {w : World} {K : Env → World → Prop} {l : List HProp}
variable {u t : TypeId} {p : String} {af : Array Edge} {g : Option (Nat × Bool)} {d : Option Tmp} {x y : Operand}

theorem zeros1 (z : Value) : ∀ n, zeros [z] n = List.replicate n z
  | 0 => rfl
  | n + 1 => by simp [zeros, zeros1 z n, List.replicate_succ]

/-- 'make([]T, m)'. -/
theorem St_makeSlice [Extra] {e size bytes m : Nat} {zv : Value} {kl kc : IntKind} (H : Holds w l) [hT : TSlice P t e size bytes] [hz : TZero P e zv] (hx : ev σ x = .int kl (m : Int)) (hy : ev σ y = .int kc (m : Int)) (hq : (decide ((cellsL zv).length = size) && decide (bytes ≤ 1000000)) = true) (hm : m ≤ 100000000) (hd : okd n d = true)
    (k : ∀ b w', Holds w' (sls e size (.slice (some ⟨b, 0, none⟩) m m) (zeros (cellsL zv) m) :: l) → K (put σ d (.slice (some ⟨b, 0, none⟩) m m)) w') : St P n r ⟨d, .makeSlice t x y, u, p, af, g⟩ σ w K := by
  obtain ⟨i, hi, e2⟩ := Option.map_eq_some_iff.1 hT.info
  obtain ⟨i', hi', hz'⟩ := Option.map_eq_some_iff.1 hz.zero
  rw [hi] at hi'
  cases hi'
  simp only [Prod.mk.injEq] at e2
  simp only [Bool.and_eq_true, decide_eq_true_eq] at hq
  have hb : (i.bytes : Int) * (m : Int) ≤ 281474976710656 := by
    have : i.bytes * m ≤ 1000000 * 100000000 := Nat.mul_le_mul (by omega) hm
    have h : ((i.bytes * m : Nat) : Int) ≤ 281474976710656 := by omega
    rwa [Int.natCast_mul] at h
  have hr := run_make (P := P) w t e i zv hT.und hi hz' kl kc m m (by omega) (Int.le_refl _) hb (by omega)
  have hc : madeCells zv.cells (m * i.size) = (zeros (cellsL zv) m).toArray := by
    unfold madeCells
    rw [← zeros_range, cells_eq, hq.1, e2.1]
  rw [Int.toNat_natCast, hc] at hr
  have hn := H.new (row e (zeros (cellsL zv) m))
  refine St_value (v := .slice (some ⟨w.heap.size, 0, none⟩) m m) (w' := w.alloc (.cells (zeros (cellsL zv) m).toArray e)) hd (fun c e => by cases e) ?_ (k _ _ (sls_lit (by rw [zeros_length, hq.1]) hn))
  simp only [execOp, hx, hy, hr, Sem.run_bind, Result.andThen_ok, Sem.run_pure]

end

/-- A row of small numbers in a variable of the program, that stays. -/
def TabIs (g : Nat) (tab : List Nat) (w : World) : Prop := ∀ j, j < tab.length → w.cell? ⟨g, j, none⟩ = some (.int .u8 (tab.getD j 0))
class HasTab (g : outParam Nat) (tab : outParam (List Nat)) (l : List HProp) : Prop where
  tab : ∀ w : World, sat l (hp w) → TabIs g tab w
instance {g : Nat} {tab : List Nat} {A : HProp} {l : List HProp} [h : HasTab g tab l] : HasTab g tab (A :: l) := ⟨fun w s => h.tab w (sat_drop s)⟩
theorem hasTab_old {g : Nat} {tab : List Nat} {W : World} {l : List HProp} (h : TabIs g tab W) (hg : g < W.heap.size) : HasTab g tab (old W :: l) := ⟨fun w s j hj => by
  obtain ⟨f, _, a, _, _, x, _⟩ := s
  have e := x g hg
  have e2 : w.heap[g]? = W.heap[g]? := by
    cases ho : W.heap[g]? with
    | none => have := Array.getElem?_eq_none_iff.1 ho; omega
    | some o => rw [ho] at e; exact a g o e
  have := h j hj
  unfold World.cell? at this ⊢
  simp only [e2]
  exact this⟩
end Go.SL
namespace Go.SL
section
variable {P : Program} {n : Nat} {r : Option Nat} {ops : Array Oper} {Q : Post} {ms : List Nat} {σ : Env} {w : World} {rest : List Oper} {o : Oper} {K : Env → World → Prop} {l l' : List HProp}
variable {ivs : List (List Nat × (World → Prop))} {T : Env → World → Prop} {f : Nat} {L : Array Bool}
variable {u t s : TypeId} {p : String} {af : Array Edge} {g : Option (Nat × Bool)} {d : Option Tmp} {x y z : Operand}

/-- An owned slice is laid open; its cells may be others then. -/
theorem sls_open2 [Extra] {E k m cap : Nat} {a : Option Addr} {c : List Value} (H : Holds w (sls E k (.slice a m cap) c :: l)) (h0 : 0 < m) :
    ∃ b spare, a = some ⟨b, 0, none⟩ ∧ Holds w (pts b (row E (c ++ spare)) :: l) ∧ m ≤ cap ∧ spare.length = (cap - m) * k ∧ ∀ w' l' c', c'.length = c.length → Holds w' (pts b (row E (c' ++ spare)) :: l') → Holds w' (sls E k (.slice a m cap) c' :: l') := by
  rcases sls_case H with ⟨h, _⟩ | ⟨b, len, cap', spare, h, e3, e4, e5, H2⟩
  · injection h with h1 h2; omega
  · injection h with h1 h2 h3
    subst h1 h2 h3
    exact ⟨b, spare, rfl, H2, e4.1, e5, fun w' l' c' hc H' => sls_of (hc.trans e3) e4 e5 H'⟩

end
end Go.SL
namespace Go.SL
section
variable {P : Program} {n : Nat} {r : Option Nat} {ops : Array Oper} {Q : Post} {ms : List Nat} {σ : Env} {w : World} {rest : List Oper} {o : Oper} {K : Env → World → Prop} {l l' : List HProp}
variable {u t s : TypeId} {p : String} {af : Array Edge} {g : Option (Nat × Bool)} {d : Option Tmp} {x y z : Operand}

end
end Go.SL
namespace Go.SL

theorem split_at {α : Type} {l : List α} {k : Nat} {x : α} (h : l[k]? = some x) : l = l.take k ++ x :: l.drop (k + 1) := by
  obtain ⟨h1, h2⟩ := List.getElem?_eq_some_iff.1 h
  rw [← h2, List.getElem_cons_drop, List.take_append_drop]
section
variable {α : Type} {f : α → List Value} {m : Nat}
theorem flat_len (hf : ∀ a, (f a).length = m) (l : List α) : (l.flatMap f).length = l.length * m := by
  induction l with
  | nil => simp
  | cons a l ih => rw [List.flatMap_cons, List.length_append, ih, hf, List.length_cons, Nat.succ_mul]; omega
theorem flat_split {l : List α} {i : Nat} {x : α} (h : l[i]? = some x) (s : List Value) : l.flatMap f ++ s = (l.take i).flatMap f ++ (f x ++ ((l.drop (i + 1)).flatMap f ++ s)) := by
  conv => lhs; rw [split_at h]
  simp
theorem flat_alen (hf : ∀ a, (f a).length = m) {l : List α} {i : Nat} {x : α} (h : l[i]? = some x) : ((l.take i).flatMap f).length = i * m := by
  have h1 := (List.getElem?_eq_some_iff.1 h).1
  rw [flat_len hf, List.length_take, Nat.min_eq_left (by omega)]
theorem flat_get (hf : ∀ a, (f a).length = m) {l : List α} {i : Nat} {x : α} (h : l[i]? = some x) {s : List Value} {j : Nat} {v : Value} (hv : (f x)[j]? = some v) : (l.flatMap f ++ s)[i * m + j]? = some v := by
  have hj := (List.getElem?_eq_some_iff.1 hv).1
  rw [flat_split h, List.getElem?_append_right (by rw [flat_alen hf h]; omega), flat_alen hf h, show i * m + j - i * m = j by omega, List.getElem?_append_left hj]
  exact hv
theorem flat_reads (hf : ∀ a, (f a).length = m) {l : List α} {i : Nat} {x : α} (h : l[i]? = some x) {s : List Value} {j : Nat} {vs : List Value} (hv : Reads (f x) j vs.length vs) : Reads (l.flatMap f ++ s) (i * m + j) vs.length vs :=
  Reads.of_get fun k v hk => by
    rw [show i * m + j + k = i * m + (j + k) by omega]
    exact flat_get hf h (hv.get k v hk)
end
end Go.SL
namespace Go.Proofs
open Go.Shelf
end Go.Proofs
namespace Go.Proofs
open Go.Shelf
end Go.Proofs
namespace Go.SL
open Go.Sort Go.Proofs

section
variable {α : Type} [Inhabited α] {enc : α → List Value} {k : Nat}

end
theorem Holds.grow [Extra] {w : World} {l : List HProp} {q : Nat} {os' : Array Obj} (H : Holds w l) : Holds (Go.Sort.grow (w.drewN q) os') l := by
  refine H.up (fun c o hc => ?_) ⟨rfl, rfl⟩
  show (w.heap ++ os')[c]? = some o
  have := (Array.getElem?_eq_some_iff.1 hc).1
  rw [Array.getElem?_append_left this]
  exact hc

end Go.SL
namespace Go.Proofs
open Go.Shelf
end Go.Proofs
namespace Go.SL
section
variable {P : Program} {n : Nat} {r : Option Nat} {Q : Post} {ms : List Nat} {σ : Env} {w : World} {l : List HProp}
theorem fn_endCD [Extra] {fn : Func} {R : Value → World → Prop} {e : Exit} {vs : List Value} (l : List HProp) (he : e = .normal ∨ e = .ret) (H : Holds w (mk ms :: l))
    (hv : ∀ w', Holds w' l → ResAt P σ w' fn.results.toList vs) (hR : ∀ w', Holds w' l → R (resV vs) w') : fnPost P n fn R e ms σ w :=
  ⟨he, .inl ⟨l, H, fun w' H' a ra => ⟨_, results_at ra (hv w' H'), hR w' H'⟩⟩⟩
end
end Go.SL
namespace Go.SL
open Go.ChangeShapes

section
variable {H : Type} {enc : TypeId × Value → H} {P : Program} {W W' : World}

theorem trodAll_stays (hl : laidOutB P = true) : ∀ {ts : List TypeId} {vs : List Value} {ds : List (DataW H)} {ps : List MemPlace} {sp : Nat → Bool}, (∀ t ∈ ts, P.readableRec t = true ∧ t < P.types.size) →
    DataW.TrodAll enc P W 0 (fun _ => true) true ts vs ds ps → (∀ p ∈ ps, W.sameAt W' p) → (∀ p ∈ ps, sp p.block = true) → DataW.TrodAll enc P W' 0 sp true ts vs ds ps
  | [], [], [], _, _, _, h, _, _ => h
  | t :: ts, v :: vs, d :: ds, _, sp, hr, ⟨p, q, h, hs, e⟩, same, hsp => by
    subst e
    have hr0 := hr t (by simp)
    exact ⟨p, q, Go.WideElems.Trod_stays hl hr0.1 hr0.2 h (fun x hx => same x (List.mem_append_left _ hx)) (fun x hx => hsp x (List.mem_append_left _ hx)),
      trodAll_stays hl (fun t ht => hr t (by simp [ht])) hs (fun x hx => same x (List.mem_append_right _ hx)) (fun x hx => hsp x (List.mem_append_right _ hx)), rfl⟩

/-- What a statement asks at the end, from this: old blocks are as they were. -/
theorem closing {f : Func} {s : ChangeSpec} {args : Array Value} {v : Value} {ds gs : List (DataW H)} {before : List MemPlace} (hl : laidOutB P = true) (hts : ∀ t ∈ f.params.toList, P.readableRec t = true ∧ t < P.types.size)
    (hv : s.vars = []) (hW : DataW.Whole enc P f.params.toList s.vars false W args.toList ds gs before) (hh : ∀ b, b < W.heap.size → W'.heap[b]? = W.heap[b]?) (hos : W'.os = W.os) (hout : W'.output = W.output)
    (ha : (s.fn H (ds ++ gs)).args = ds) (hva : (s.fn H (ds ++ gs)).vars = [])
    (hres : DataW.TrodAll enc P W' W.heap.size (fun _ => false) false f.resultTypes.toList (v.resultList f.resultTypes.size) (s.fn H (ds ++ gs)).results []) : s.post enc P f false true false false W args v W' := by
  have hlt := hW.lt
  have hW' := hW
  obtain ⟨p, q, h1, h2, rfl, h3, h4⟩ := hW
  rw [hv] at h2
  obtain ⟨rfl, rfl⟩ := trodVars_none h2
  have same : ∀ x ∈ p, W.sameAt W' x := by
    intro x hx
    have hb := hlt x (by simp [hx])
    cases x with
    | cell b off => show W'.cell? _ = W.cell? _; unfold World.cell?; rw [hh b hb]
    | map b => exact hh b hb
  have hsp : ∀ x ∈ p, (fun b => decide (b < W.heap.size)) x.block = true := fun x hx => by
    have := hlt x (by simp [hx])
    simpa using this
  refine ⟨ds, [], p ++ [], [], p, [], hW', hres, ?_, ?_, ⟨hos, hout, fun i hi => ?_⟩, fun h => by cases h⟩
  · rw [ha]
    exact trodAll_stays hl hts h1 same hsp
  · rw [hva, hv]
    show ([] : List MemPlace) = []
    rfl
  · rw [hh i hi]
    cases hx : W.heap[i]? with
    | none => trivial
    | some o => cases o <;> simp
end
end Go.SL
namespace Go.SL
section
variable [Extra] {P : Program} {n : Nat} {r : Option Nat} {ops : Array Oper} {Q : Post} {ms : List Nat} {σ : Env} {w : World} {rest : List Oper} {o : Oper} {l : List HProp} {ivs : List (List Nat × (World → Prop))} {T : Env → World → Prop} {f : Nat} {L : Array Bool} {t u : TypeId} {p : String} {af : Array Edge} {g : Option (Nat × Bool)} {d : Option Tmp} {x : Operand} {G K : Prop}
theorem Jo (j : Nat) (H : Holds w l) (k : St P n r o σ w (Any P n r ops ivs T f (L.setIfInBounds j true))) (hi : ops[j]? = some o := by rfl) (hr : Region.ready .any ops L = [j] := by kernel_rfl)
    (hI : Holds w l → InvL ivs L w := by intro H; repeat first | exact InvL.nil | refine InvL.cons (.inr (Holds.at H)) ?_ | refine InvL.cons (.inr (Holds.mp H)) ?_ | refine InvL.cons (.inl (by kernel_rfl)) ?_)
    (hg : Wants ops σ o true := by first | exact Wants.none rfl | exact Wants.of rfl rfl rfl) : Any P n r ops ivs T (f + 1) L σ w := A_one j hi hr (hI H) hg k
theorem Jk {f : FuncId} {K : Env → World → Prop} {xs : List Operand} {ts : Array TypeId} {R : Value → World → Prop} (hx : ev σ x = .func (.func f) #[] #[]) [hb : TBody P f] (hd : okd n d = true) (s : Calls P f (xs.map (ev σ)).toArray w (ret R)) (k : ∀ v w', R v w' → K (put σ d v) w') :
    St P n r ⟨d, .call { callee := .value x, args := xs.toArray, argTypes := ts }, u, p, af, g⟩ σ w K := St_call (a := []) (b := []) hx hd (by rw [List.nil_append, List.append_nil]; exact call s k)
theorem Jc {f : FuncId} {xs : List Operand} {ts : Array TypeId} {R : Value → World → Prop} (hx : ev σ x = .func (.func f) #[] #[]) [hb : TBody P f] (hd : okd n d = true) (s : Calls P f (xs.map (ev σ)).toArray w (ret R)) (k : ∀ v w', R v w' → Lp P n r ops Q rest ms (put σ d v) w') :
    Lp P n r ops Q (⟨d, .call { callee := .value x, args := xs.toArray, argTypes := ts }, u, p, af, none⟩ :: rest) ms σ w := Lp_s rfl (Jk hx hd s k)
theorem Js {l' : List HProp} (is : List Nat) (m : Nat) (H : Holds w l) (h : Holds w (sel is m l) → Holds w l' := by intro H; dsimp only [SL.sel, SL.pull, List.drop] at H; exact H) : Holds w l' := h (H.sel is m)
theorem Jy {fn : Func} {R : Value → World → Prop} {e : Exit} {vs : List Value} (H : Holds w l) (h : res σ fn.results.toList = some vs) (hr : ∀ w', Holds w' l → R (resV vs) w') (he : e = .normal ∨ e = .ret := by first | exact .inr rfl | exact .inl rfl) : fnPost P n fn R e [] σ w := fn_end0 _ he H h hr
theorem Jz {fn : Func} {R : Value → World → Prop} {e : Exit} {vs : List Value} (H : Holds w l) (h : ∀ w', Holds w' l → ResAt P σ w' fn.results.toList vs) (hr : ∀ w', Holds w' l → R (resV vs) w') (he : e = .normal ∨ e = .ret := by first | exact .inr rfl | exact .inl rfl) : fnPost P n fn R e [] σ w := fn_endC _ he H h hr
theorem J0 (H : Holds w l) (k : K) (h : Holds w l → K → G := by
 intro H k
 refine Lp_pv rfl rfl ?_
 refine Lp_nil ?_
 exact k) : G := h H k
theorem J1 (H : Holds w l) (k : K) (h : Holds w l → K → G := by
 intro H k
 repeat refine C_seq ?_
 refine C_region ?_
 exact k) : G := h H k
theorem J2 (H : Holds w l) (k : K) (h : Holds w l → K → G := by
 intro H k
 refine Lp_pv rfl rfl ?_
 refine Lp_pv rfl rfl ?_
 exact k) : G := h H k
theorem J3 (H : Holds w l) (k : K) (h : Holds w l → K → G := by
 intro H k
 repeat refine C_seq ?_
 refine C_region ?_
 refine Lp_pv rfl rfl ?_
 refine Lp_pv rfl rfl ?_
 exact k) : G := h H k
theorem J4 (H : Holds w l) (k : K) (h : Holds w l → K → G := by
 intro H k
 refine Lp_pv rfl rfl ?_
 refine Lp_pv rfl rfl ?_
 refine Lp_nil ?_
 exact k) : G := h H k
theorem J5 (H : Holds w l) (k : K) (h : Holds w l → K → G := by
 intro H k
 refine Lp_pv rfl rfl ?_
 refine Lp_nil ?_
 repeat refine C_seq ?_
 exact k) : G := h H k
theorem J6 (H : Holds w l) (k : K) (h : Holds w l → K → G := by
 intro H k
 refine Lp_gpv rfl rfl rfl rfl ?_
 exact k) : G := h H k
theorem J7 (H : Holds w l) (k : K) (h : Holds w l → K → G := by
 intro H k
 repeat refine C_seq ?_
 refine C_region ?_
 refine Lp_pv rfl rfl ?_
 refine Lp_pv rfl rfl ?_
 refine Lp_nil ?_
 exact k) : G := h H k
theorem J8 (H : Holds w l) (k : K) (h : Holds w l → K → G := by
 intro H k
 refine A_end (by kernel_rfl) (by repeat first | exact .nil | refine .cons (.inr H.at) ?_ | refine .cons (.inr H.mp) ?_ | refine .cons (.inl (by kernel_rfl)) ?_) ?_
 exact k) : G := h H k
theorem J9 (H : Holds w l) (k : K) (h : Holds w l → K → G := by
 intro H k
 repeat refine C_seq ?_
 refine C_region ?_
 refine Lp_s rfl (St_load1 H rfl rfl rfl ?_)
 exact k) : G := h H k
theorem J10 (H : Holds w l) (k : K) (h : Holds w l → K → G := by
 intro H k
 refine Lp_s rfl (St_build rfl rfl ?_)
 refine Lp_s rfl (St_boxN H rfl rfl ?_)
 exact k) : G := h H k
theorem J11 (H : Holds w l) (k : K) (h : Holds w l → K → G := by
 intro H k
 repeat refine C_seq ?_
 refine C_region ?_
 refine Lp_s rfl (St_box1 H rfl rfl rfl ?_)
 exact k) : G := h H k
theorem J12 (H : Holds w l) (k : K) (h : Holds w l → K → G := by
 intro H k
 refine Lp_gpv rfl rfl rfl rfl ?_
 refine Lp_gpv rfl rfl rfl rfl ?_
 exact k) : G := h H k
theorem J13 (H : Holds w l) (k : K) (h : Holds w l → K → G := by
 intro H k
 repeat refine C_seq ?_
 refine C_false rfl (C_skip ?_)
 exact k) : G := h H k
theorem J14 (H : Holds w l) (k : K) (h : Holds w l → K → G := by
 intro H k
 repeat refine C_seq ?_
 refine C_region ?_
 refine Lp_pv rfl rfl ?_
 exact k) : G := h H k
theorem J15 (H : Holds w l) (k : K) (h : Holds w l → K → G := by
 intro H k
 refine Lp_pv rfl rfl ?_
 refine Lp_nil ?_
 repeat refine C_seq ?_
 refine C_false rfl (C_skip ?_)
 exact k) : G := h H k
theorem J16 (H : Holds w l) (k : K) (h : Holds w l → K → G := by
 intro H k
 first | refine Lp_pv rfl rfl ?_ | refine Lp_mv rfl rfl ?_
 exact k) : G := h H k
theorem J17 (H : Holds w l) (k : K) (h : Holds w l → K → G := by
 intro H k
 refine Lp_pv rfl rfl ?_
 refine Lp_pv rfl rfl ?_
 refine Lp_pv rfl rfl ?_
 refine Lp_pv rfl rfl ?_
 exact k) : G := h H k
theorem J18 (H : Holds w l) (k : K) (h : Holds w l → K → G := by
 intro H k
 refine A_pv 0 rfl (Wants.none rfl) rfl (by kernel_rfl) ?_
 refine A_pv 1 rfl (Wants.none rfl) rfl (by kernel_rfl) ?_
 exact k) : G := h H k
theorem J19 (H : Holds w l) (k : K) (h : Holds w l → K → G := by
 intro H k
 repeat refine C_seq ?_
 refine C_drawH H mixed ?_
 exact k) : G := h H k
theorem J20 (H : Holds w l) (k : K) (h : Holds w l → K → G := by
 intro H k
 repeat refine C_seq ?_
 refine C_region ?_
 refine Lp_pv rfl rfl ?_
 refine Lp_nil ?_
 repeat refine C_seq ?_
 refine C_region ?_
 exact k) : G := h H k
theorem J21 (H : Holds w l) (k : K) (h : Holds w l → K → G := by
 intro H k
 refine Lp_pv rfl rfl ?_
 refine Lp_nil ?_
 repeat refine C_seq ?_
 refine C_region ?_
 refine Lp_pv rfl rfl ?_
 exact k) : G := h H k
theorem J22 (H : Holds w l) (k : K) (h : Holds w l → K → G := by
 intro H k
 refine Lp_nil ?_
 repeat refine C_seq ?_
 refine C_false rfl (C_skip ?_)
 exact k) : G := h H k
theorem J23 (H : Holds w l) (k : K) (h : Holds w l → K → G := by
 intro H k
 refine Lp_g rfl rfl rfl (St_fieldAddr rfl rfl ?_)
 refine Lp_g rfl rfl rfl (St_load1 H rfl rfl rfl ?_)
 exact k) : G := h H k
theorem J24 (H : Holds w l) (k : K) (h : Holds w l → K → G := by
 intro H k
 refine Lp_pv rfl rfl ?_
 refine Lp_pv rfl rfl ?_
 refine Lp_gpv rfl rfl rfl rfl ?_
 refine Lp_gpv rfl rfl rfl rfl ?_
 exact k) : G := h H k
theorem J25 (H : Holds w l) (k : K) (h : Holds w l → K → G := by
 intro H k
 refine Lp_s rfl (St_storeN H rfl rfl inferInstance rfl rfl (Nat.le_of_ble_eq_true rfl) rfl ?_)
 exact k) : G := h H k
theorem J26 (H : Holds w l) (k : K) (h : Holds w l → K → G := by
 intro H k
 repeat refine C_seq ?_
 refine C_block ?_
 exact k) : G := h H k
theorem J27 (H : Holds w l) (k : K) (h : Holds w l → K → G := by
 intro H k
 refine A_fieldAddr 2 rfl (Wants.none rfl) rfl (by kernel_rfl) ?_
 exact k) : G := h H k
theorem J28 (H : Holds w l) (k : K) (h : Holds w l → K → G := by
 intro H k
 refine Lp_pv rfl rfl ?_
 refine Lp_gpv rfl rfl rfl rfl ?_
 refine Lp_gpv rfl rfl rfl rfl ?_
 exact k) : G := h H k
theorem J29 (H : Holds w l) (k : K) (h : Holds w l → K → G := by
 intro H k
 refine Lp_pv rfl rfl ?_
 refine Lp_pv rfl rfl ?_
 refine Lp_pv rfl rfl ?_
 refine Lp_s rfl (St_alloc H rfl ?_)
 exact k) : G := h H k
theorem J30 (H : Holds w l) (k : K) (h : Holds w l → K → G := by
 intro H k
 refine A_build 40 rfl (Wants.none rfl) rfl (by kernel_rfl) ?_
 refine Jo 42 H ?_
 refine St_storeN H rfl rfl inferInstance rfl rfl (Nat.le_of_ble_eq_true rfl) rfl ?_
 exact k) : G := h H k
theorem J31 (H : Holds w l) (k : K) (h : Holds w l → K → G := by
 intro H k
 repeat refine C_seq ?_
 refine C_region ?_
 refine Lp_s rfl (St_load1 H rfl rfl rfl ?_)
 refine Lp_pv rfl rfl ?_
 refine Lp_s rfl (St_fieldAddr rfl rfl ?_)
 refine Lp_s rfl (St_load1 H rfl rfl rfl ?_)
 refine Lp_pv rfl rfl ?_
 refine Lp_s rfl (St_fieldAddr rfl rfl ?_)
 refine Lp_s rfl (St_load1 H rfl rfl rfl ?_)
 exact k) : G := h H k
theorem J32 (H : Holds w l) (k : K) (h : Holds w l → K → G := by
 intro H k
 repeat refine C_seq ?_
 refine C_region ?_
 refine Lp_pv rfl rfl ?_
 refine Lp_nil ?_
 repeat refine C_seq ?_
 refine C_region ?_
 refine Lp_pv rfl rfl ?_
 refine Lp_s rfl (St_eqPtrNil rfl rfl (.inl rfl) rfl ?_)
 refine Lp_nil ?_
 repeat refine C_seq ?_
 refine C_false rfl (C_skip ?_)
 repeat refine C_seq ?_
 refine C_region ?_
 refine Lp_pv rfl rfl ?_
 refine Lp_pv rfl rfl ?_
 refine Lp_s rfl (St_fieldAddr rfl rfl ?_)
 refine Lp_s rfl (St_load1 H rfl rfl rfl ?_)
 exact k) : G := h H k
theorem J33 (H : Holds w l) (k : K) (h : Holds w l → K → G := by
 intro H k
 refine Lp_pv rfl rfl ?_
 refine Lp_nil ?_
 repeat refine C_seq ?_
 refine C_region ?_
 refine Lp_pv rfl rfl ?_
 refine Lp_pv rfl rfl ?_
 refine Lp_nil ?_
 exact k) : G := h H k
theorem J34 (H : Holds w l) (k : K) (h : Holds w l → K → G := by
 intro H k
 refine A_pv 5 rfl (Wants.none rfl) rfl (by kernel_rfl) ?_
 exact k) : G := h H k
theorem J35 (H : Holds w l) (k : K) (h : Holds w l → K → G := by
 intro H k
 refine A_pv 10 rfl (Wants.none rfl) rfl (by kernel_rfl) ?_
 refine A_pv 11 rfl (Wants.none rfl) rfl (by kernel_rfl) ?_
 refine A_end (by kernel_rfl) (by repeat first | exact .nil | refine .cons (.inr H.at) ?_ | refine .cons (.inr H.mp) ?_ | refine .cons (.inl (by kernel_rfl)) ?_) ?_
 exact k) : G := h H k
theorem J36 (H : Holds w l) (k : K) (h : Holds w l → K → G := by
 intro H k
 refine A_pv 6 rfl (Wants.none rfl) rfl (by kernel_rfl) ?_
 refine A_fieldAddr 7 rfl (Wants.none rfl) rfl (by kernel_rfl) ?_
 exact k) : G := h H k
theorem J37 (H : Holds w l) (k : K) (h : Holds w l → K → G := by
 intro H k
 refine Lp_pv rfl rfl ?_
 refine Lp_nil ?_
 repeat refine C_seq ?_
 refine C_region ?_
 refine Lp_pv rfl rfl ?_
 refine Lp_pv rfl rfl ?_
 refine Lp_pv rfl rfl ?_
 exact k) : G := h H k
theorem J38 (H : Holds w l) (k : K) (h : Holds w l → K → G := by
 intro H k
 first | refine Lp_pv rfl rfl ?_ | refine Lp_mv rfl rfl ?_
 first | refine Lp_pv rfl rfl ?_ | refine Lp_mv rfl rfl ?_
 refine Lp_nil ?_
 repeat refine C_seq ?_
 refine C_region ?_
 exact k) : G := h H k
theorem J39 (H : Holds w l) (k : K) (h : Holds w l → K → G := by
 intro H k
 first | refine Lp_pv rfl rfl ?_ | refine Lp_mv rfl rfl ?_
 first | refine Lp_pv rfl rfl ?_ | refine Lp_mv rfl rfl ?_
 exact k) : G := h H k
theorem J40 (H : Holds w l) (k : K) (h : Holds w l → K → G := by
 intro H k
 refine Lp_pv rfl rfl ?_
 refine Lp_nil ?_
 repeat refine C_seq ?_
 refine C_true rfl ?_
 repeat refine C_seq ?_
 refine C_region ?_
 refine Lp_s rfl (St_build rfl rfl ?_)
 refine Lp_s rfl (St_storeN H rfl rfl inferInstance rfl rfl (Nat.le_of_ble_eq_true rfl) rfl ?_)
 exact k) : G := h H k
theorem J41 (H : Holds w l) (k : K) (h : Holds w l → K → G := by
 intro H k
 refine Lp_g rfl rfl rfl (St_lenSlice rfl rfl ?_)
 refine Lp_gpv rfl rfl rfl rfl ?_
 exact k) : G := h H k
theorem J42 (H : Holds w l) (k : K) (h : Holds w l → K → G := by
 intro H k
 refine Lp_pv rfl rfl ?_
 refine Lp_pv rfl rfl ?_
 refine Lp_no rfl rfl rfl ?_
 refine Lp_no rfl rfl rfl ?_
 refine Lp_no rfl rfl rfl ?_
 refine Lp_no rfl rfl rfl ?_
 exact k) : G := h H k
theorem J43 (H : Holds w l) (k : K) (h : Holds w l → K → G := by
 intro H k
 repeat refine C_seq ?_
 refine C_region ?_
 refine Lp_pv rfl rfl ?_
 refine Lp_pv rfl rfl ?_
 refine Lp_pv rfl rfl ?_
 exact k) : G := h H k
theorem J44 (H : Holds w l) (k : K) (h : Holds w l → K → G := by
 intro H k
 refine Lp_pv rfl rfl ?_
 refine Lp_s rfl (St_fieldAddr rfl rfl ?_)
 refine Lp_s rfl (St_load1 H rfl rfl rfl ?_)
 exact k) : G := h H k
theorem J45 (H : Holds w l) (k : K) (h : Holds w l → K → G := by
 intro H k
 repeat refine C_seq ?_
 refine C_region ?_
 refine Lp_pv rfl rfl ?_
 refine Lp_pv rfl rfl ?_
 refine Lp_s rfl (St_fieldAddr rfl rfl ?_)
 refine Lp_s rfl (St_load1 H rfl rfl rfl ?_)
 exact k) : G := h H k
theorem J46 (H : Holds w l) (k : K) (h : Holds w l → K → G := by
 intro H k
 repeat refine C_seq ?_
 refine C_region ?_
 refine Lp_pv rfl rfl ?_
 refine Lp_nil ?_
 repeat refine C_seq ?_
 refine C_region ?_
 refine Lp_pv rfl rfl ?_
 refine Lp_s rfl (St_eqPtrNil rfl rfl (.inl rfl) rfl ?_)
 refine Lp_nil ?_
 repeat refine C_seq ?_
 refine C_false rfl (C_skip ?_)
 exact k) : G := h H k
theorem J47 (H : Holds w l) (k : K) (h : Holds w l → K → G := by
 intro H k
 repeat refine C_seq ?_
 refine C_region ?_
 refine Lp_pv rfl rfl ?_
 refine Lp_nil ?_
 repeat refine C_seq ?_
 refine C_region ?_
 refine Lp_pv rfl rfl ?_
 refine Lp_s rfl (St_eqPtrNil rfl rfl (.inl rfl) rfl ?_)
 exact k) : G := h H k
theorem J48 (H : Holds w l) (k : K) (h : Holds w l → K → G := by
 intro H k
 refine Lp_no rfl rfl rfl ?_
 refine Lp_no rfl rfl rfl ?_
 refine Lp_no rfl rfl rfl ?_
 refine Lp_no rfl rfl rfl ?_
 exact k) : G := h H k
theorem J49 (H : Holds w l) (k : K) (h : Holds w l → K → G := by
 intro H k
 refine Lp_g rfl rfl rfl (St_loadN H rfl (by repeat (first | exact Reads.nil _ | apply Reads.cons rfl)) rfl ?_)
 exact k) : G := h H k
theorem J50 (H : Holds w l) (k : K) (h : Holds w l → K → G := by
 intro H k
 first | refine Lp_pv rfl rfl ?_ | refine Lp_s rfl (St_eqPtrNil rfl rfl (.inr rfl) rfl ?_) | refine Lp_s rfl (St_eqMapNil rfl rfl (.inr rfl) rfl ?_) | refine Lp_s rfl (St_eqPair rfl rfl (.inr rfl) rfl ?_) | refine Lp_s rfl (St_eqBool rfl rfl (.inr rfl) rfl ?_) | refine Lp_s rfl (St_eqAgg rfl rfl rfl rfl (.inr rfl) rfl ?_) | refine Lp_s rfl (St_eqS rfl rfl (.inr rfl) rfl ?_) | refine Lp_s rfl (St_eqSliceNil rfl rfl (.inr rfl) rfl ?_) | refine Lp_s rfl (St_eqStr rfl rfl (.inr rfl) rfl ?_)
 exact k) : G := h H k
theorem J51 (H : Holds w l) (k : K) (h : Holds w l → K → G := by
 intro H k
 refine Lp_pv rfl rfl ?_
 refine Lp_nil ?_
 repeat refine C_seq ?_
 refine C_region ?_
 refine Lp_pv rfl rfl ?_
 refine Lp_s rfl (St_eqPtrNil rfl rfl (.inl rfl) rfl ?_)
 exact k) : G := h H k
end
end Go.SL
namespace Go.Proofs.YtipelpbkeiphmaaGreatDoor
open Go.SL

abbrev Rf := Int × Int
@[reducible] def vm : Nat → Value := fun b => .map (some b)
@[reducible] def v1 : Int → Value := fun x => .int .i64 x
/-- A group: its number, its block, its references. -/
structure Gr where
  key : Int
  blk : Nat
  m : List (Rf × Int)

@[reducible] def inner (g : Gr) : HProp := mp kp v1 g.blk g.m
@[reducible] def gkb (g : Gr) : Int × Nat := (g.key, g.blk)
def mem (G : List Gr) (k : Int) (r : Rf) : Prop := ∃ g ∈ G, g.key = k ∧ r ∈ g.m.map (·.1)
def GrR (bo : Nat) (S : Int → Rf → Prop) : HProp := ex fun G => star [prop (∀ k r, mem G k r ↔ S k r), mp (ki .i64) vm bo (G.map gkb), star (G.map inner)]

theorem GrR_in [Extra] {w : World} {bo : Nat} {S : Int → Rf → Prop} {l : List HProp} (G : List Gr) (h : ∀ k r, mem G k r ↔ S k r) (H : Holds w (mp (ki .i64) vm bo (G.map gkb) :: star (G.map inner) :: l)) : Holds w (GrR bo S :: l) :=
  Holds.ex.2 ⟨G, Holds.star.2 (Holds.prop.2 ⟨h, H⟩)⟩

end Go.Proofs.YtipelpbkeiphmaaGreatDoor
namespace Go.Proofs.YtipelpbkeiphmaaGreatDoor
open Go.SL

@[reducible] def pp (b : Nat) : Value := .pointer (some ⟨b, 0, none⟩)
theorem wrap64 {x : Int} (h1 : -9223372036854775808 ≤ x) (h2 : x ≤ 9223372036854775807) : IntKind.i64.wrap x = x := by
  simp [IntKind.wrap, IntKind.bits, IntKind.signed]; omega
theorem inc64 {i : Nat} (h : i < 1000000000) : Value.int .i64 (IntKind.i64.wrap ((i : Int) + 1)) = .int .i64 ((i + 1 : Nat) : Int) := by
  rw [wrap64 (by omega) (by omega)]; rfl

/-- A field: from where on, how many bits. -/
abbrev Fl := Nat × Nat
def RightF (f : Fl) : Prop := 0 < f.2 ∧ f.1 + f.2 ≤ 64
def ucells (l : List Nat) : List Value := l.map fun x : Nat => Value.int .u64 (x : Int)
@[reducible] def UL (v : Value) (l : List Nat) : HProp := sls 127 1 v (ucells l)

end Go.Proofs.YtipelpbkeiphmaaGreatDoor
namespace Go.Proofs.YtipelpbkeiphmaaGreatDoor
open Go.SL

/-- Fields that are right, one above the other. -/
def RisF (fs : List Fl) : Prop := (∀ f ∈ fs, RightF f) ∧ fs.Pairwise (fun f g => f.1 + f.2 ≤ g.1)

theorem RisF.at {fs : List Fl} (h : RisF fs) {i : Nat} {f : Fl} (hf : fs[i]? = some f) : RightF f := h.1 f (List.mem_of_getElem? hf)

end Go.Proofs.YtipelpbkeiphmaaGreatDoor
namespace Go.Proofs.YtipelpbkeiphmaaGreatDoor
open Go.SL

theorem Len64_spec [Extra] (x : Nat) (hx : x < 18446744073709551616) {w : World} {fr : List HProp} (H : Holds w fr) : Calls Tryz.prog 239 #[.int .u64 x] w (ret fun v w' => v = .int .i64 (Lib.bitLen x) ∧ Holds w' fr) := by
  refine (Any.bits_Len64 Tryz.laysLen (x : Int) w (by omega) (by omega)).mono ?_
  rintro e w' ⟨rfl, rfl⟩
  exact ⟨by rw [Int.toNat_natCast], H⟩

theorem pow_le64 {k : Nat} (h : k ≤ 64) : 2 ^ k ≤ 18446744073709551616 := Nat.le_trans (Nat.pow_le_pow_right (by decide) h) (by decide)

/-- A word of some fields' numbers. -/
def packN : List Fl → List Nat → Nat
  | f :: fs, x :: xs => x * 2 ^ f.1 + packN fs xs
  | _, _ => 0
end Go.Proofs.YtipelpbkeiphmaaGreatDoor
namespace Go.Proofs.YtipelpbkeiphmaaGreatDoor
open Go.SL

def hdrF : List Fl := [(0, 16), (16, 16), (32, 8), (40, 16), (56, 8)]
def lnkF : List Fl := [(0, 32), (32, 32)]
/-- A header: layout, count, slot. -/
def MayH (l c s : Nat) : Prop := 1 ≤ l ∧ l ≤ 64 ∧ c ≤ 1024 ∧ s < 4096
def encH (l c s : Nat) : Nat := packN hdrF [s, c, l, 0, 165]
end Go.Proofs.YtipelpbkeiphmaaGreatDoor
namespace Go.Proofs.YtipelpbkeiphmaaGreatDoor
open Go.SL

/-- A reference: to nothing, to a grave, to an object (slot, generation). -/
inductive Lnk where
  | none
  | grave
  | obj (i g : Nat)
  deriving DecidableEq
@[reducible] def tkn (i g : Nat) : Value := .agg #[.int .i64 i, .int .i64 g]
def okT (i g : Nat) : Prop := i < 4096 ∧ 1 ≤ g ∧ g ≤ 255
def okL : Lnk → Prop
  | .obj i g => okT i g
  | _ => True
def wordL : Lnk → Nat
  | .none => 0
  | .grave => 1
  | .obj i g => packN lnkF [i + 2, g]
end Go.Proofs.YtipelpbkeiphmaaGreatDoor
namespace Go.Proofs.YtipelpbkeiphmaaGreatDoor
open Go.SL

/-- A bitmap: how many places, its words, how many are on. -/
def BM (p n : Nat) (ws : List Nat) (many : Nat) : HProp := ex fun v : Value => star [pts p (row 303 [.int .i64 n, v, .int .i64 many]), UL v ws]
theorem BM_out [Extra] {w : World} {p n : Nat} {ws : List Nat} {m : Nat} {l : List HProp} (H : Holds w (BM p n ws m :: l)) : ∃ v, Holds w (pts p (row 303 [.int .i64 n, v, .int .i64 m]) :: UL v ws :: l) := by
  obtain ⟨v, H⟩ := Holds.ex.1 H
  exact ⟨v, Holds.star.1 H⟩
theorem BM_in [Extra] {w : World} {p n : Nat} {v : Value} {ws : List Nat} {m : Nat} {l : List HProp} (H : Holds w (pts p (row 303 [.int .i64 n, v, .int .i64 m]) :: UL v ws :: l)) : Holds w (BM p n ws m :: l) :=
  Holds.ex.2 ⟨v, Holds.star.2 H⟩
theorem BM_open [Extra] {w : World} {p n x m : Nat} {l : List HProp} (H : Holds w (BM p n [x] m :: l)) : ∃ b cap spare, Holds w (pts p (row 303 [.int .i64 n, .slice (some ⟨b, 0, none⟩) 1 cap, .int .i64 m]) :: pts b (row 127 (.int .u64 x :: spare)) :: l) ∧
    ∀ w' l' (x' m' : Nat), Holds w' (pts p (row 303 [.int .i64 n, .slice (some ⟨b, 0, none⟩) 1 cap, .int .i64 m']) :: pts b (row 127 (.int .u64 x' :: spare)) :: l') → Holds w' (BM p n [x'] m' :: l') := by
  obtain ⟨v, H⟩ := BM_out H
  have H := H.swap
  obtain ⟨a, cap, rfl⟩ := sls_slice (m := 1) H rfl (by decide)
  rcases sls_case H with ⟨h, _⟩ | ⟨b, len, cap', spare, h, e3, e4, e5, H2⟩
  · cases h
  · cases h
    exact ⟨b, cap, spare, H2.swap, fun w' l' x' m' H' => BM_in (Holds.swap (sls_of (c := ucells [x']) rfl e4 e5 H'.swap))⟩

/-- Of one word. -/
structure Bits (n x : Nat) : Prop where
  pos : 0 < n
  le : n ≤ 63
  lt : x < 2 ^ n
theorem Bits.lt64 {n x : Nat} (h : Bits n x) : x < 18446744073709551616 := Nat.lt_of_lt_of_le h.lt (pow_le64 (by have := h.le; omega))
theorem q64 {i : Nat} (h : i < 64) : IntKind.i64.wrap (Int.tdiv (i : Int) 64) = 0 := by
  rw [Int.tdiv_eq_ediv_of_nonneg (by omega), show (i : Int) / 64 = 0 by omega]; rfl
theorem r64 {i : Nat} (h : i < 64) : Int.tmod (i : Int) 64 = i := by
  rw [Int.tmod_eq_emod_of_nonneg (by omega)]; omega
theorem Count_spec [Extra] (p n : Nat) (ws : List Nat) (m : Nat) {w : World} {fr : List HProp} (H : Holds w (BM p n ws m :: fr)) : Calls Tryz.prog 123 #[pp p] w (ret fun v w' => v = .int .i64 m ∧ Holds w' (BM p n ws m :: fr)) := by
  obtain ⟨v, H⟩ := BM_out H
  refine calls_of Tryz.func123 rfl (by kernel_rfl) ?_
  refine J32 H ?_
  refine J0 H ?_
  exact C_ret (Jy (BM_in H) rfl fun w' H' => ⟨rfl, H'⟩)

/-- A place is turned. -/
def setB (x i : Nat) (on : Bool) : Nat := if x.testBit i = on then x else x ^^^ 2 ^ i
theorem setB_bit (x i : Nat) (on : Bool) (j : Nat) : (setB x i on).testBit j = if j = i then on else x.testBit j := by
  unfold setB
  split
  · rename_i h
    split
    · rename_i e; subst e; exact h
    · rfl
  · rename_i h
    rw [Nat.testBit_xor, Nat.testBit_two_pow]
    split
    · rename_i e
      subst e
      simp
      cases hx : x.testBit j <;> cases on <;> simp_all
    · rename_i e
      have : decide (i = j) = false := decide_eq_false (fun e2 => e e2.symm)
      simp [this]
def cntB (n x : Nat) : Nat := ((List.range n).filter fun i => x.testBit i).length
theorem lt_pow_of_bits {n x : Nat} (h : ∀ j, n ≤ j → x.testBit j = false) : x < 2 ^ n := Nat.lt_pow_two_of_testBit x fun j hj => h j hj
theorem bits_off {n x j : Nat} (h : x < 2 ^ n) (hj : n ≤ j) : x.testBit j = false := Nat.testBit_lt_two_pow (Nat.lt_of_lt_of_le h (Nat.pow_le_pow_right (by decide) hj))
theorem Bits.set {n x i : Nat} {on : Bool} (h : Bits n x) (hi : i < n) : Bits n (setB x i on) := ⟨h.pos, h.le, lt_pow_of_bits fun j hj => by
  rw [setB_bit, if_neg (by omega)]
  exact bits_off h.lt hj⟩
theorem cntB_le (n x : Nat) : cntB n x ≤ n := by
  have := List.length_filter_le (fun i => x.testBit i) (List.range n)
  rwa [List.length_range] at this

/-- A bitmap of one word. -/
@[reducible] def BM1 (p n x : Nat) : HProp := BM p n [x] (cntB n x)

end Go.Proofs.YtipelpbkeiphmaaGreatDoor
namespace Go.Proofs.YtipelpbkeiphmaaGreatDoor
open Go.SL

def fillB (x a : Nat) : Nat → Bool → Nat
  | 0, _ => x
  | k + 1, on => setB (fillB x a k on) (a + k) on
theorem Bits.fill {n x a : Nat} {on : Bool} (h : Bits n x) : ∀ {k : Nat}, a + k ≤ n → Bits n (fillB x a k on)
  | 0, _ => h
  | k + 1, hk => Bits.set (Bits.fill h (by omega)) (by omega)

theorem bNew_spec [Extra] (n : Nat) (h1 : 0 < n) (h2 : n ≤ 1048576) {w : World} {fr : List HProp} (H : Holds w fr) :
    Calls Tryz.prog 256 #[.int .i64 n] w (ret fun v w' => ∃ p, v = .tuple #[pp p, .int .i64 0] ∧ Holds w' (BM p n (List.replicate ((n + 63) / 64) 0) 0 :: fr)) := by
  refine calls_of Tryz.func256 rfl (by kernel_rfl) ?_
  refine J7 H ?_
  refine J43 H ?_
  rw [show decide ((n : Int) < 1) = false from decide_eq_false (by omega)]
  refine J12 H ?_
  refine J0 H ?_
  rw [show decide ((n : Int) > 1048576) = false from decide_eq_false (by omega)]
  refine J13 H ?_
  refine J3 H ?_
  refine J2 H ?_
  have e1 : IntKind.i64.wrap (Int.tdiv (IntKind.i64.wrap ((n : Int) + 63)) 64) = (((n + 63) / 64 : Nat) : Int) := by
    rw [wrap64 (x := (n : Int) + 63) (by omega) (by omega), Int.tdiv_eq_ediv_of_nonneg (by omega), wrap64 (by omega) (by omega)]; omega
  rw [e1]
  refine Lp_s rfl (St_makeSlice H rfl rfl (by decide) (by omega) rfl ?_)
  clear H; intro b14 w H
  refine J10 H ?_
  clear H; intro b16 w H
  refine J4 H ?_
  have e : zeros (cellsL (.int .u64 0)) ((n + 63) / 64) = ucells (List.replicate ((n + 63) / 64) 0) := by
    rw [show cellsL (.int .u64 0) = [.int .u64 0] from rfl, zeros1]; simp [ucells]
  rw [e] at H
  exact C_ret (Jy (BM_in H) rfl fun w' H' => ⟨_, rfl, H'⟩)

/-! ### The first one that is off, or on -/

theorem ctz_bits {y : Nat} (h0 : y ≠ 0) (h : y < 18446744073709551616) : Lib.ctz 64 y < 64 ∧ y.testBit (Lib.ctz 64 y) = true ∧ ∀ i, i < Lib.ctz 64 y → y.testBit i = false := by
  obtain ⟨m, hm, hk⟩ := Lib.ctzFrom_spec 64 y (by omega) h
  have e : Lib.ctz 64 y = Lib.ctzFrom 64 y := by simp [Lib.ctz, h0]
  rw [e]
  generalize Lib.ctzFrom 64 y = k at hm hk
  subst hm
  refine ⟨hk, ?_, fun i hi => ?_⟩
  · rw [Nat.testBit_eq_decide_div_mod_eq, Nat.mul_div_cancel_left _ (Nat.two_pow_pos k)]
    simp
  · rw [Nat.testBit_eq_decide_div_mod_eq]
    have : 2 ^ k * (2 * m + 1) / 2 ^ i = 2 * (2 ^ (k - i - 1) * (2 * m + 1)) := by
      have h2 : 2 ^ k = 2 ^ i * (2 * 2 ^ (k - i - 1)) := by
        rw [← Nat.pow_succ', ← Nat.pow_add]
        congr 1
        omega
      rw [h2, Nat.mul_assoc, Nat.mul_div_cancel_left _ (Nat.two_pow_pos i), Nat.mul_assoc]
    rw [this]
    simp

theorem Tz_spec [Extra] (x : Nat) (hx : x < 18446744073709551616) {w : World} {fr : List HProp} [hT : HasTab 0 Lib.deBruijn64tab fr] (H : Holds w fr) : Calls Tryz.prog 288 #[.int .u64 x] w (ret fun v w' => v = .int .i64 (Lib.ctz 64 x) ∧ Holds w' fr) := by
  refine (Any7.bits_TrailingZeros64 Tryz.laysTz x hx w (fun _ => hT.tab w H.1)).mono ?_
  rintro e w' ⟨rfl, rfl⟩
  exact ⟨rfl, H⟩

theorem div_bit (x a i : Nat) : (x / 2 ^ a).testBit i = x.testBit (a + i) := by
  rw [Nat.testBit_div_two_pow, Nat.add_comm]

/-- The first one that is on, from a on; the length, if there is none. -/
theorem next_spec [Extra] (p n x a m : Nat) (hb : Bits n x) (ha : a ≤ n) {w : World} {fr : List HProp} [hT : HasTab 0 Lib.deBruijn64tab fr] (H : Holds w (BM p n [x] m :: fr)) :
    Calls Tryz.prog 211 #[pp p, .int .i64 a] w (ret fun v w' => (∃ e : Nat, v = .int .i64 e ∧ a ≤ e ∧ e ≤ n ∧ (∀ i, a ≤ i → i < e → x.testBit i = false) ∧ (e < n → x.testBit e = true)) ∧ Holds w' (BM p n [x] m :: fr)) := by
  have hle := hb.le
  have h64 := hb.lt64
  refine calls_of Tryz.func211 rfl (by kernel_rfl) ?_
  refine J1 H ?_
  refine J5 H ?_
  refine C_joinQ (fun ms σ w => ms = [] ∧ σ 0 = pp p ∧ (∀ i, a ≤ i → i < n → x.testBit i = false) ∧ Holds w (BM p n [x] m :: fr)) ?_ ?_
  · refine C_block ?_
    refine C_loop (fun ms σ w q => ms = [] ∧ ∃ j : Nat, (q = if j < n then 1 else 0) ∧ (j < n → j = a) ∧ σ 0 = pp p ∧ σ 1 = .int .i64 j ∧ (j < n ∨ ∀ i, a ≤ i → i < n → x.testBit i = false) ∧ Holds w (BM p n [x] m :: fr)) (m := if a < n then 1 else 0) ⟨rfl, a, rfl, fun _ => rfl, rfl, rfl, by
      by_cases h : a < n
      · exact .inl h
      · exact .inr fun i h1 h2 => by omega, H⟩ ?_
    clear H
    rintro ms σ w q ⟨rfl, j, rfl, hj, g0, g1, h5, H⟩
    rw [upd_self g0, upd_self g1]
    obtain ⟨b, cap, spare, H, hclose⟩ := BM_open H
    refine J3 H ?_
    refine J44 H ?_
    refine J5 H ?_
    refine C_dec rfl (fun h => C_skip ?_) (fun h => C_exit ?_)
    · have hlt : j < n := by omega
      have := hj hlt
      subst this
      have hq : x / 2 ^ j < 18446744073709551616 := Nat.lt_of_le_of_lt (Nat.div_le_self _ _) (by omega)
      have hbit : ∀ i, (x / 2 ^ j).testBit i = x.testBit (j + i) := fun i => by rw [div_bit]
      refine J26 H ?_
      refine J45 H ?_
      refine J2 H ?_
      rw [q64 (show j < 64 by omega)]
      refine Lp_s rfl (St_indexAddr rfl rfl (by decide) (by decide) rfl ?_)
      refine Lp_s rfl (St_load1 H rfl rfl rfl ?_)
      refine J2 H ?_
      rw [r64 (show j < 64 by omega)]
      refine Lp_pv (v := .int .u64 (shrI .u64 (x : Int) (j : Int))) (by
        show (if (j : Int) < 0 then none else some _) = _
        rw [if_neg (by omega)]) rfl ?_
      rw [shr_nat (k := .u64) (by omega) rfl]
      refine J33 H ?_
      replace H := hclose _ _ _ _ H
      generalize x / 2 ^ j = y at *
      repeat refine C_seq ?_
      by_cases hy : y = 0
      · rw [show ((y : Int) != 0) = false by simp [hy]]
        refine J13 H ?_
        refine J3 H ?_
        refine J2 H ?_
        refine J0 H ?_
        refine ⟨_, ⟨rfl, 64, rfl, fun h => by omega, rfl, ?_, .inr fun i h1 h2 => ?_, H⟩, by rw [if_pos hlt, if_neg (by omega)]; decide⟩
        · show Value.int .i64 (IntKind.i64.wrap (IntKind.i64.wrap (IntKind.i64.wrap (Int.tdiv (j : Int) 64) + 1) * 64)) = _
          rw [q64 (show j < 64 by omega)]; rfl
        · have := hbit (i - j)
          rw [hy, Nat.zero_testBit, show j + (i - j) = i by omega] at this
          exact this.symm
      · rw [show ((y : Int) != 0) = true by simp; omega]
        repeat refine C_seq ?_
        refine C_true rfl ?_
        obtain ⟨c1, c2, c3⟩ := ctz_bits hy hq
        refine J3 H ?_
        refine Jc rfl rfl (Tz_spec y hq H) ?_
        clear H; rintro v w ⟨rfl, H⟩
        refine J4 H ?_
        have hk := hbit (Lib.ctz 64 y)
        rw [c2] at hk
        have hn : j + Lib.ctz 64 y < n := by
          rcases Nat.lt_or_ge (j + Lib.ctz 64 y) n with h | h
          · exact h
          · rw [bits_off hb.lt h] at hk; cases hk
        refine C_ret (.inr ⟨by simp, Jy H rfl fun w' H' => ⟨⟨j + Lib.ctz 64 y, ?_, by omega, by omega, fun i h1 h2 => ?_, fun _ => hk.symm⟩, H'⟩⟩)
        · show Value.int .i64 (IntKind.i64.wrap ((j : Int) + (Lib.ctz 64 y : Nat))) = _
          rw [wrap64 (by omega) (by omega)]; congr 1
        · have := hbit (i - j)
          rw [c3 (i - j) (by omega), show j + (i - j) = i by omega] at this
          exact this.symm
    · exact .inl ⟨rfl, rfl, rfl, by
        rcases h5 with h5 | h5
        · omega
        · exact h5, hclose _ _ _ _ H⟩
  · clear H
    rintro ms σ w ⟨rfl, g0, h1, H⟩
    rw [upd_self g0]
    obtain ⟨b, cap, spare, H, hclose⟩ := BM_open H
    refine J45 H ?_
    refine J0 H ?_
    exact C_ret (Jy (hclose _ _ _ _ H) rfl fun w' H' => ⟨⟨n, rfl, ha, Nat.le_refl _, h1, fun h => by omega⟩, H'⟩)

end Go.Proofs.YtipelpbkeiphmaaGreatDoor
namespace Go.Proofs.YtipelpbkeiphmaaGreatDoor
open Go.SL

def ncells (l : List Nat) : List Value := l.map fun x : Nat => Value.int .i64 (x : Int)
theorem ncells_length (l : List Nat) : (ncells l).length = l.length * 1 := by simp [ncells]
theorem ncells_get {l : List Nat} {spare : List Value} {i x : Nat} (h : l[i]? = some x) : (ncells l ++ spare)[0 + i * 1]? = some (.int .i64 x) := by
  have hi := (List.getElem?_eq_some_iff.1 h).1
  rw [Nat.zero_add, Nat.mul_one, List.getElem?_append_left (by simpa [ncells] using hi)]
  simp [ncells, h]
@[reducible] def NL (v : Value) (l : List Nat) : HProp := sls 3 1 v (ncells l)

structure STok (size : Nat) (mem own ws : List Nat) (many : Nat) : Prop where
  s1 : 1 ≤ size
  s2 : size ≤ 1024
  c1 : 1 ≤ own.length
  c2 : own.length ≤ 1024
  len : mem.length = own.length * size
  many : many = (own.filter (· != 0)).length
  one : own.length ≤ 63 → ∃ x, ws = [x] ∧ x < 2 ^ own.length ∧ ∀ c, c < own.length → x.testBit c = decide (own.getD c 0 ≠ 0)

/-- A store: words of a chunk, the words, the chunks' owners. -/
def ST (p size : Nat) (mem own : List Nat) : HProp := ex fun q : Value × Value × Nat × List Nat × Nat =>
  star [prop (STok size mem own q.2.2.2.1 q.2.2.2.2), pts p (row 213 [q.1, .int .i64 size, q.2.1, pp q.2.2.1]), UL q.1 mem, NL q.2.1 own, BM q.2.2.1 own.length q.2.2.2.1 q.2.2.2.2]
theorem ST_out [Extra] {w : World} {p size : Nat} {mem own : List Nat} {l : List HProp} (H : Holds w (ST p size mem own :: l)) : ∃ v v2 u ws many, STok size mem own ws many ∧
    Holds w (pts p (row 213 [v, .int .i64 size, v2, pp u]) :: UL v mem :: NL v2 own :: BM u own.length ws many :: l) := by
  obtain ⟨⟨v, v2, u, ws, many⟩, H⟩ := Holds.ex.1 H
  have H := Holds.star.1 H
  obtain ⟨h, H⟩ := Holds.prop.1 H
  exact ⟨v, v2, u, ws, many, h, H⟩
theorem ST_in [Extra] {w : World} {p size : Nat} {mem own : List Nat} {l : List HProp} {v v2 : Value} {u : Nat} {ws : List Nat} {many : Nat} (h : STok size mem own ws many)
    (H : Holds w (pts p (row 213 [v, .int .i64 size, v2, pp u]) :: UL v mem :: NL v2 own :: BM u own.length ws many :: l)) : Holds w (ST p size mem own :: l) :=
  Holds.ex.2 ⟨(v, v2, u, ws, many), Holds.star.2 (Holds.prop.2 ⟨h, H⟩)⟩

theorem sNew_spec [Extra] (n size : Nat) (h1 : 1 ≤ n) (h2 : n ≤ 1024) (h3 : 1 ≤ size) (h4 : size ≤ 1024) {w : World} {fr : List HProp} (H : Holds w fr) :
    Calls Tryz.prog 186 #[.int .i64 n, .int .i64 size] w (ret fun v w' => ∃ p, v = .tuple #[pp p, .int .i64 0] ∧ Holds w' (ST p size (List.replicate (n * size) 0) (List.replicate n 0) :: fr)) := by
  have hns : n * size ≤ 1048576 := Nat.mul_le_mul h2 h4
  refine calls_of Tryz.func186 rfl (by kernel_rfl) ?_
  refine J7 H ?_
  refine J43 H ?_
  rw [show decide ((n : Int) < 1) = false from decide_eq_false (by omega)]
  refine J12 H ?_
  refine J2 H ?_
  rw [show decide ((n : Int) > 1024) = false from decide_eq_false (by omega)]
  refine J12 H ?_
  refine J2 H ?_
  rw [show decide ((size : Int) < 1) = false from decide_eq_false (by omega)]
  refine J12 H ?_
  refine J0 H ?_
  rw [show decide ((size : Int) > 1024) = false from decide_eq_false (by omega)]
  refine J13 H ?_
  refine J14 H ?_
  refine Jc rfl rfl (bNew_spec n (by omega) (by omega) H) ?_
  clear H; rintro v w ⟨u, rfl, H⟩
  refine J17 H ?_
  refine J5 H ?_
  refine C_drawH H mixed ?_
  clear H; intro w H
  refine J18 H ?_
  refine A_pv 2 rfl (Wants.none rfl) rfl (by kernel_rfl) ?_
  refine A_pv 4 rfl (Wants.none rfl) rfl (by kernel_rfl) ?_
  refine J34 H ?_
  refine A_pv 7 rfl (Wants.none rfl) rfl (by kernel_rfl) ?_
  have e1 : IntKind.i64.wrap ((n : Int) * (size : Int)) = ((n * size : Nat) : Int) := by
    rw [← Int.natCast_mul, wrap64 (by omega) (by omega)]
  rw [e1]
  have hok : STok size (List.replicate (n * size) 0) (List.replicate n 0) (List.replicate (((List.replicate n 0).length + 63) / 64) 0) 0 := by
    refine ⟨h3, h4, by simpa using h1, by simpa using h2, by simp, by simp, fun h => ⟨0, ?_, Nat.two_pow_pos _, fun c hc => ?_⟩⟩
    · have : ((List.replicate n 0 : List Nat).length + 63) / 64 = 1 := by simp at h ⊢; omega
      rw [this]; rfl
    · have hc' : c < n := by simpa using hc
      simp [Nat.zero_testBit, hc']
  have z1 : zeros (cellsL (.int .u64 0)) (n * size) = ucells (List.replicate (n * size) 0) := by
    rw [show cellsL (.int .u64 0) = [.int .u64 0] from rfl, zeros1]; simp [ucells]
  have z2 : zeros (cellsL (.int .i64 0)) n = ncells (List.replicate n 0) := by
    rw [show cellsL (.int .i64 0) = [.int .i64 0] from rfl, zeros1]; simp [ncells]
  have hl : (List.replicate n 0 : List Nat).length = n := by simp
  rw [hl] at hok
  refine A_two 3 6 rfl rfl (by kernel_rfl) (by repeat first | exact .nil | refine .cons (.inr H.at) ?_ | refine .cons (.inr H.mp) ?_ | refine .cons (.inl (by kernel_rfl)) ?_) (Wants.none rfl) (Wants.none rfl) (St_makeSlice H rfl rfl (by decide) (by omega) rfl ?_) (St_makeSlice H rfl rfl (by decide) (by omega) rfl ?_)
  · clear H; intro b30 w H
    rw [z1] at H
    refine Jo 6 H ?_
    refine St_makeSlice H rfl rfl (by decide) (by omega) rfl ?_
    clear H; intro b33 w H
    rw [z2] at H
    refine A_build 8 rfl (Wants.none rfl) rfl (by kernel_rfl) ?_
    refine Jo 9 H ?_
    refine St_boxN H rfl rfl ?_
    clear H; intro b36 w H
    refine J35 H ?_
    replace H := Js [0,1,0,0] 0 H
    have H := ST_in (own := List.replicate n 0) hok (by rw [hl]; exact H)
    exact C_ret (Jy H rfl fun w' H' => ⟨_, rfl, H'⟩)
  · clear H; intro b33 w H
    rw [z2] at H
    refine Jo 3 H ?_
    refine St_makeSlice H rfl rfl (by decide) (by omega) rfl ?_
    clear H; intro b30 w H
    rw [z1] at H
    refine A_build 8 rfl (Wants.none rfl) rfl (by kernel_rfl) ?_
    refine Jo 9 H ?_
    refine St_boxN H rfl rfl ?_
    clear H; intro b36 w H
    refine J35 H ?_
    have H := ST_in (own := List.replicate n 0) hok (by rw [hl]; exact H)
    exact C_ret (Jy H rfl fun w' H' => ⟨_, rfl, H'⟩)

theorem Chunks_spec [Extra] (p size : Nat) (mem own : List Nat) {w : World} {fr : List HProp} (H : Holds w (ST p size mem own :: fr)) : Calls Tryz.prog 34 #[pp p] w (ret fun v w' => v = .int .i64 own.length ∧ Holds w' (ST p size mem own :: fr)) := by
  obtain ⟨v, v2, u, ws, many, hok, H⟩ := ST_out H
  obtain ⟨a2, c2, rfl⟩ := sls_slice (H.drop.drop) (ncells_length own) (by decide)
  refine calls_of Tryz.func34 rfl (by kernel_rfl) ?_
  refine J32 H ?_
  refine Lp_s rfl (St_lenSlice rfl rfl ?_)
  refine J0 H ?_
  exact C_ret (Jy (ST_in hok H) rfl fun w' H' => ⟨rfl, H'⟩)

theorem Free_spec [Extra] (p size : Nat) (mem own : List Nat) {w : World} {fr : List HProp} (H : Holds w (ST p size mem own :: fr)) : Calls Tryz.prog 33 #[pp p] w (ret fun v w' => v = .int .i64 ((own.length - (own.filter (· != 0)).length : Nat) : Int) ∧ Holds w' (ST p size mem own :: fr)) := by
  obtain ⟨v, v2, u, ws, many, hok, H⟩ := ST_out H
  obtain ⟨a2, c2, rfl⟩ := sls_slice (H.drop.drop) (ncells_length own) (by decide)
  refine calls_of Tryz.func33 rfl (by kernel_rfl) ?_
  refine J46 H ?_
  refine J19 H ?_
  clear H; intro w H
  refine J18 H ?_
  refine J27 H ?_
  refine A_load1 3 [] H rfl (Wants.none rfl) rfl rfl (by kernel_rfl) ?_
  refine A_lenSlice 4 rfl (Wants.none rfl) rfl (by kernel_rfl) ?_
  refine J34 H ?_
  refine J36 H ?_
  refine A_load1 8 [9] H rfl (Wants.none rfl) rfl rfl (by kernel_rfl) ?_
  replace H := Js [3,0,0,0] 0 H
  refine Jo 9 H ?_
  refine Jk rfl rfl (Count_spec u _ _ _ H) ?_
  clear H; rintro v w ⟨rfl, H⟩
  refine J35 H ?_
  replace H := Js [1,1,1,0] 0 H
  have hle := List.length_filter_le (· != 0) own
  have := hok.many
  have h2 := hok.c2
  refine C_ret (Jy (ST_in hok H) rfl fun w' H' => ⟨?_, H'⟩)
  show Value.int .i64 (IntKind.i64.wrap ((own.length : Int) - (many : Int))) = _
  rw [wrap64 (by omega) (by omega)]
  congr 1
  omega

theorem Owner_spec [Extra] (p size : Nat) (mem own : List Nat) (c : Nat) {w : World} {fr : List HProp} (H : Holds w (ST p size mem own :: fr)) (hc : c < own.length) : Calls Tryz.prog 74 #[pp p, .int .i64 c] w (ret fun v w' => v = .int .i64 (own.getD c 0) ∧ Holds w' (ST p size mem own :: fr)) := by
  refine calls_of Tryz.func74 rfl (by kernel_rfl) ?_
  refine J1 H ?_
  refine J37 H ?_
  rw [show decide ((c : Int) < 0) = false from decide_eq_false (by omega)]
  refine J12 H ?_
  refine Lp_g rfl rfl rfl (St_call (a := []) (b := []) rfl rfl (call (Chunks_spec p size mem own H) ?_))
  clear H; rintro v w ⟨rfl, H⟩
  refine J6 H ?_
  refine J0 H ?_
  rw [show decide ((c : Int) ≥ (own.length : Int)) = false from decide_eq_false (by omega)]
  refine J13 H ?_
  obtain ⟨v, v2, u, ws, many, hok, H⟩ := ST_out H
  replace H := Js [2,0,0,0] 0 H
  obtain ⟨a2, c2, rfl⟩ := sls_slice H (ncells_length own) (by decide)
  obtain ⟨b, s, rfl, H, hclose⟩ := sls_open H (by omega)
  have hx := List.getElem?_eq_getElem hc
  have hg : own.getD c 0 = own[c] := by simp [hc]
  rw [hg]
  generalize own[c] = x at hx
  refine J45 H ?_
  refine Lp_pv rfl rfl ?_
  refine Lp_s rfl (St_indexAddr rfl rfl (by omega) (by omega) rfl ?_)
  refine Lp_s rfl (St_load1 H rfl (ncells_get hx) rfl ?_)
  refine J0 H ?_
  replace H := hclose _ _ H
  replace H := Js [1,1,0,0] 0 H
  exact C_ret (Jy (ST_in hok H) rfl fun w' H' => ⟨rfl, H'⟩)

/-- From an address on so many words are owned. -/
def Owned (size : Nat) (own : List Nat) (a n : Nat) : Prop := ∀ c, a / size ≤ c → c ≤ (a + n - 1) / size → own.getD c 0 ≠ 0

end Go.Proofs.YtipelpbkeiphmaaGreatDoor
namespace Go.Proofs.YtipelpbkeiphmaaGreatDoor
open Go.SL

theorem STok.mem {size : Nat} {mem mem' own ws : List Nat} {many : Nat} (h : STok size mem own ws many) (e : mem'.length = mem.length) : STok size mem' own ws many := ⟨h.s1, h.s2, h.c1, h.c2, e.trans h.len, h.many, h.one⟩

end Go.Proofs.YtipelpbkeiphmaaGreatDoor
namespace Go.Proofs.YtipelpbkeiphmaaGreatDoor
/-- Places that rise, below a size. -/
def RisL (l : List Nat) (size : Nat) : Prop := (∀ p ∈ l, p < size) ∧ l.Pairwise (· < ·)
instance (l : List Nat) (size : Nat) : Decidable (RisL l size) := inferInstanceAs (Decidable (_ ∧ _))

/-- A layout. -/
structure Lay where
  fixed : Nat
  refs : List Nat
  record : Nat
  recs : List Nat
def RightL (l : Lay) : Prop := l.fixed ≤ 64 ∧ l.record ≤ 64 ∧ l.fixed + l.record ≠ 0 ∧ RisL l.refs l.fixed ∧ RisL l.recs l.record
instance (l : Lay) : Decidable (RightL l) := inferInstanceAs (Decidable (_ ∧ _))

/-- What the size of an object is told as: the words, the error. -/
def sizeL (l : Lay) (count : Int) : Nat × Nat :=
  if count < 0 ∨ count > 1024 ∨ (count > 0 ∧ l.record = 0) then (0, 3)
  else if l.fixed + count.toNat * l.record ≥ 8192 then (0, 10) else (l.fixed + count.toNat * l.record, 0)
def isRefL (l : Lay) (p : Nat) : Bool := if p < l.fixed then decide (p ∈ l.refs) else decide ((p - l.fixed) % l.record ∈ l.recs)
end Go.Proofs.YtipelpbkeiphmaaGreatDoor
namespace Go.Proofs.YtipelpbkeiphmaaGreatDoor
open Go.SL

structure RdL (fr : List HProp) (vr vq : Value) (l : Lay) : Prop where
  r : RdS fr vr l.refs.length 1 (ncells l.refs)
  q : RdS fr vq l.recs.length 1 (ncells l.recs)
theorem RdL.there {A : HProp} {fr : List HProp} {vr vq : Value} {l : Lay} (h : RdL fr vr vq l) : RdL (A :: fr) vr vq l := ⟨h.r.there, h.q.there⟩

theorem RdS.one {fr : List HProp} {v : Value} {m k : Nat} {cs : List Value} (h : RdS fr v m k cs) : fo v = some v ∧ v.oneCell' = true ∧ cellsL v = [v] := by
  obtain ⟨_, ad, cap, rfl, _⟩ := h
  exact ⟨rfl, rfl, rfl⟩

/-- Of numbers that are small. -/
structure SmallL (l : Lay) : Prop where
  f : l.fixed ≤ 1000000
  r : l.record ≤ 1000000
  a : l.refs.length ≤ 1000000
  b : l.recs.length ≤ 1000000

end Go.Proofs.YtipelpbkeiphmaaGreatDoor
namespace Go.Proofs.YtipelpbkeiphmaaGreatDoor
open Go.SL

theorem ris_len : ∀ (l : List Nat) (lo size : Nat), (∀ p ∈ l, lo ≤ p ∧ p < size) → l.Pairwise (· < ·) → l.length ≤ size - lo
  | [], _, _, _, _ => Nat.zero_le _
  | a :: l, lo, size, h, hp => by
    rw [List.pairwise_cons] at hp
    have h1 := ris_len l (a + 1) size (fun p hx => ⟨hp.1 p hx, (h p (List.mem_cons_of_mem _ hx)).2⟩) hp.2
    have h2 := h a (List.mem_cons_self ..)
    simp only [List.length_cons]
    omega
theorem RisL.len {l : List Nat} {n : Nat} (h : RisL l n) : l.length ≤ n := by
  have := ris_len l 0 n (fun p hp => ⟨Nat.zero_le _, h.1 p hp⟩) h.2
  omega
theorem RightL.small {l : Lay} (h : RightL l) : SmallL l := by
  obtain ⟨h1, h2, _, h4, h5⟩ := h
  have := h4.len
  have := h5.len
  exact ⟨by omega, by omega, by omega, by omega⟩

end Go.Proofs.YtipelpbkeiphmaaGreatDoor
namespace Go.Proofs.YtipelpbkeiphmaaGreatDoor
open Go.SL

end Go.Proofs.YtipelpbkeiphmaaGreatDoor
namespace Go.Proofs.YtipelpbkeiphmaaGreatDoor
open Go.SL

/-- A layout in the heap: its two slices, and what it is. -/
abbrev LyC := Value × Value × Lay
@[reducible] def bres (x : LyC) : HProp := star [NL x.1 x.2.2.refs, NL x.2.1 x.2.2.recs]
@[reducible] def bval (x : LyC) : List Value := [.int .i64 x.2.2.fixed, x.1, .int .i64 x.2.2.record, x.2.1]
def bcells (l : List LyC) : List Value := l.flatMap bval
def BOOK (p : Nat) (ls : List Lay) : HProp := ex fun q : Value × List LyC => star [prop (q.2.map (·.2.2) = ls ∧ ls.length ≤ 64 ∧ ∀ x ∈ ls, RightL x), pts p (row 354 [q.1]), sls 201 4 q.1 (bcells q.2), star (q.2.map bres)]
theorem BOOK_in [Extra] {w : World} {p : Nat} {ls : List Lay} {l : List HProp} {v : Value} {q : List LyC} (h : q.map (·.2.2) = ls ∧ ls.length ≤ 64 ∧ ∀ x ∈ ls, RightL x) (H : Holds w (pts p (row 354 [v]) :: sls 201 4 v (bcells q) :: star (q.map bres) :: l)) : Holds w (BOOK p ls :: l) :=
  Holds.ex.2 ⟨(v, q), Holds.star.2 (Holds.prop.2 ⟨h, H⟩)⟩

theorem NewBook_spec [Extra] {w : World} {fr : List HProp} (H : Holds w fr) : Calls Tryz.prog 188 #[] w (ret fun v w' => ∃ p, v = pp p ∧ Holds w' (BOOK p [] :: fr)) := by
  refine calls_of Tryz.func188 rfl (by kernel_rfl) ?_
  refine J20 H ?_
  refine J10 H ?_
  clear H; intro b2 w H
  refine J0 H ?_
  have H : Holds w (star (([] : List LyC).map bres) :: pts b2 (row 354 [.slice none 0 0]) :: fr) := Holds.star.2 H
  have H := sls_nil (E := 201) (k := 4) H
  replace H := Js [2,0,0] 0 H
  exact C_ret (Jy (BOOK_in (q := []) ⟨rfl, by simp, by simp⟩ H) rfl fun w' H' => ⟨_, rfl, H'⟩)

end Go.Proofs.YtipelpbkeiphmaaGreatDoor
namespace Go.Proofs.YtipelpbkeiphmaaGreatDoor
open Go.SL

end Go.Proofs.YtipelpbkeiphmaaGreatDoor
namespace Go.Proofs.YtipelpbkeiphmaaGreatDoor
open Go.SL



def RS (p : Nat) (m : List (Rf × Int)) : HProp := ex fun q : Nat × Nat × Nat =>
  star [pts p (row 220 [.map (some q.1), .map (some q.2.1), .map (some q.2.2)]), mp kp v1 q.1 m, GrR q.2.1 (fun k r => fnd m r = some k), GrR q.2.2 (fun k r => r.1 = k ∧ (fnd m r).isSome = true)]

theorem RS_in [Extra] {w : World} {p : Nat} {m : List (Rf × Int)} {l : List HProp} {S T : Int → Rf → Prop} (bt bo bf : Nat) (hS : ∀ k r, S k r ↔ fnd m r = some k) (hT : ∀ k r, T k r ↔ (r.1 = k ∧ (fnd m r).isSome = true))
    (H : Holds w (pts p (row 220 [.map (some bt), .map (some bo), .map (some bf)]) :: mp kp v1 bt m :: GrR bo S :: GrR bf T :: l)) : Holds w (RS p m :: l) := by
  have e1 : S = fun k r => fnd m r = some k := by funext k r; exact propext (hS k r)
  have e2 : T = fun k r => r.1 = k ∧ (fnd m r).isSome = true := by funext k r; exact propext (hT k r)
  subst e1 e2
  exact Holds.ex.2 ⟨(bt, bo, bf), Holds.star.2 H⟩

theorem GrR_empty [Extra] {w : World} {bo : Nat} {l : List HProp} (H : Holds w (mp (ki .i64) vm bo [] :: l)) : Holds w (GrR bo (fun _ _ => False) :: l) :=
  GrR_in [] (by simp [mem]) (Holds.swap ((Holds.star (k := [])).2 H))

theorem rNew_spec [Extra] {w : World} {fr : List HProp} (H : Holds w fr) : Calls Tryz.prog 191 #[] w (ret fun v w' => ∃ p, v = pp p ∧ Holds w' (RS p [] :: fr)) := by
  refine calls_of Tryz.func191 rfl (by kernel_rfl) ?_
  refine J20 H ?_
  refine Lp_s rfl (St_makeMap v1 kp H rfl ?_)
  clear H; intro b1 w H
  refine Lp_s rfl (St_makeMap vm (ki .i64) H rfl ?_)
  clear H; intro b2 w H
  refine Lp_s rfl (St_makeMap vm (ki .i64) H rfl ?_)
  clear H; intro b3 w H
  refine J10 H ?_
  clear H; intro b5 w H
  refine J0 H ?_
  refine C_ret ?_
  replace H := GrR_empty (H.pull 1)
  replace H := GrR_empty (H.pull 2)
  replace H := Js [2,2,0,0] 0 H
  exact Jy H rfl (fun w' H' => ⟨b5, rfl, RS_in b1 b2 b3 (S := fun _ _ => False) (T := fun _ _ => False) (by simp [fnd]) (by simp [fnd]) H'⟩)

end Go.Proofs.YtipelpbkeiphmaaGreatDoor
namespace Go.Proofs.YtipelpbkeiphmaaGreatDoor
open Go.SL

def TRE (p last : Nat) (par : List (Int × Int)) : HProp := ex fun b : Nat => star [pts p (row 207 [.map (some b), .int .i64 last]), mp (ki .i64) v1 b par]
theorem TRE_out [Extra] {w : World} {p last : Nat} {par : List (Int × Int)} {l : List HProp} (H : Holds w (TRE p last par :: l)) : ∃ b, Holds w (pts p (row 207 [.map (some b), .int .i64 last]) :: mp (ki .i64) v1 b par :: l) := by
  obtain ⟨b, H⟩ := Holds.ex.1 H
  exact ⟨b, Holds.star.1 H⟩
theorem TRE_in [Extra] {w : World} {p last b : Nat} {par : List (Int × Int)} {l : List HProp} (H : Holds w (pts p (row 207 [.map (some b), .int .i64 last]) :: mp (ki .i64) v1 b par :: l)) : Holds w (TRE p last par :: l) :=
  Holds.ex.2 ⟨b, Holds.star.2 H⟩
theorem trNew_spec [Extra] {w : World} {fr : List HProp} (H : Holds w fr) : Calls Tryz.prog 190 #[] w (ret fun v w' => ∃ p, v = pp p ∧ Holds w' (TRE p 0 [] :: fr)) := by
  refine calls_of Tryz.func190 rfl (by kernel_rfl) ?_
  refine J20 H ?_
  refine Lp_s rfl (St_makeMap v1 (ki .i64) H rfl ?_)
  clear H; intro b1 w H
  refine J10 H ?_
  clear H; intro b3 w H
  refine J0 H ?_
  exact C_ret (Jy H rfl fun w' H' => ⟨_, rfl, TRE_in H'⟩)

theorem trLen_spec [Extra] (p last : Nat) (par : List (Int × Int)) {w : World} {fr : List HProp} (H : Holds w (TRE p last par :: fr)) :
    Calls Tryz.prog 37 #[pp p] w (ret fun v w' => v = .int .i64 par.length ∧ Holds w' (TRE p last par :: fr)) := by
  obtain ⟨b, H⟩ := TRE_out H
  refine calls_of Tryz.func37 rfl (by kernel_rfl) ?_
  refine J32 H ?_
  refine Lp_s rfl (St_lenMap (ki .i64) v1 H rfl rfl ?_)
  refine J0 H ?_
  exact C_ret (Jy (TRE_in H) rfl fun w' H' => ⟨rfl, H'⟩)

end Go.Proofs.YtipelpbkeiphmaaGreatDoor
