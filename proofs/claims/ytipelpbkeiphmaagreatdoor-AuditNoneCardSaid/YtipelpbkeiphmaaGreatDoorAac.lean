/- Cells: what is proved on the way: every input of the statement; no condition. Texts joined: SlL Ins SlU SlM SlN Srl. -/
import Derived.Test.YtipelpbkeiphmaaGreatDoorAab
import Derived.Laws.IdiomStrings
import Derived.Lib.Bytealg
import Derived.Laws.Externs
import Derived.Laws.Slices
import Derived.Test.YtipelpbkeiphmaaGreatDoorProg
import Derived.KernelRfl
import Derived.Test.YtipelpbkeiphmaaGreatDoorAaa
import Derived.Shelf.SlGeneric
import Derived.Shelf.Strconv.Itoa0
import Derived.Shelf.Spec.TrailingZeros
import Derived.Ground.Names7Prog
import Derived.Ground.NamesProg
set_option linter.unusedVariables false
set_option linter.unusedSimpArgs false
set_option linter.unusedSectionVars false
namespace Go.SL

section
variable {P : Program} {n : Nat} {r : Option Nat} {ops : Array Oper} {Q : Post} {ms : List Nat} {σ : Env} {w : World} {rest : List Oper} {o : Oper} {K : Env → World → Prop} {l l' : List HProp}
variable {ivs : List (List Nat × (World → Prop))} {T : Env → World → Prop} {f : Nat} {L : Array Bool}
variable {u t s : TypeId} {p : String} {af : Array Edge} {g : Option (Nat × Bool)} {d : Option Tmp} {x y z : Operand}

/-- Where a part of the code ends, one word serves for what is behind it. -/
theorem C_joinQ {c : Code} {Q : Post} (I : List Nat → Env → World → Prop) (h : C P n r c (fun e ms σ w => (e = .normal ∧ I ms σ w) ∨ (e ≠ .normal ∧ Q e ms σ w)) ms σ w) (k : ∀ ms σ w, I ms σ w → Q .normal ms σ w) : C P n r c Q ms σ w :=
  C_mono h fun e ms σ w q => by
    rcases q with ⟨rfl, q⟩ | ⟨_, q⟩
    · exact k _ _ _ q
    · exact q

/-! ### Integers of another kind -/

theorem run_convI {k k' q : IntKind} {i : Int} (hs : TInt P s k') (ht : TInt P t k) : (convert s t (.int q i)).run P w = .ok (.int k (k.wrap i)) w := by
  unfold convert
  simp only [Sem.run_bind, run_und hs.und, run_und ht.und, Result.andThen_ok, Conv.intToInt, Sem.run_pure]

theorem St_convI {k k' q : IntKind} {i : Int} [hs : TInt P s k'] [ht : TInt P t k] (hx : ev σ x = .int q i) (hd : okd n d = true) (h : K (put σ d (.int k (k.wrap i))) w) : St P n r ⟨d, .convert s t x, u, p, af, g⟩ σ w K :=
  St_value hd (fun c e => by cases e) (by simp only [execOp, hx, Sem.run_bind, run_convI hs ht, Result.andThen_ok, Sem.run_pure]) h

/-! ### Strings -/

/-! ### Arrays -/

/-! ### A slice, and nil -/

/-! ### Named results -/

inductive ResAt (P : Program) (σ : Env) (w : World) : List ResultVar → List Value → Prop
  | nil : ResAt P σ w [] []
  | tmp {t : Tmp} {rs : List ResultVar} {vs : List Value} (h : ResAt P σ w rs vs) : ResAt P σ w (.tmp t :: rs) (σ t :: vs)
  | cell {a : Tmp} {t : TypeId} {b i : Nat} {v : Value} {rs : List ResultVar} {vs : List Value} (ha : σ a = .pointer (some ⟨b, i, none⟩)) (hv : (loadVar t ⟨b, i, none⟩).run P w = .ok v w) (h : ResAt P σ w rs vs) : ResAt P σ w (.cell a t :: rs) (v :: vs)

theorem run_mapM_at {G : ResultVar → Sem Value} (h1 : ∀ t, G (.tmp t) = pure (σ t)) (h2 : ∀ a t, G (.cell a t) = (do loadVar t (← asAddr (σ a)))) : ∀ {rs : List ResultVar} {vs : List Value}, ResAt P σ w rs vs → (rs.mapM G).run P w = .ok vs w
  | _, _, .nil => rfl
  | _, _, .tmp h => by
    rw [List.mapM_cons, h1]
    have ih := run_mapM_at h1 h2 h
    simp only [Sem.run_bind, ih, Result.andThen, Sem.run_pure]
  | _, _, .cell ha hv h => by
    rw [List.mapM_cons, h2, ha]
    have ih := run_mapM_at h1 h2 h
    simp only [asAddr, Sem.run_bind, Sem.run_pure, Result.andThen, hv, ih]

theorem results_at {fn : Func} {a : Act} {vs : List Value} (ra : Rel n ms σ a) (h : ResAt P σ w fn.results.toList vs) : (results fn a.tmps).run P w = .ok (resV vs) w := by
  unfold results
  rw [← Array.toArray_toList (xs := fn.results), List.mapM_toArray]
  simp only [Sem.run_bind, Sem.run_map]
  rw [run_mapM_at (σ := σ) (fun t => by simp only [ra.val]) (fun a t => by simp only [ra.val]) h]
  simp only [Result.andThen]
  cases vs with
  | nil => rfl
  | cons v vs => cases vs <;> rfl

/-- The end of a function whose results lie in cells. -/
theorem fn_endC [Extra] {fn : Func} {R : Value → World → Prop} {e : Exit} {vs : List Value} (l : List HProp) (he : e = .normal ∨ e = .ret) (H : Holds w l)
    (hv : ∀ w', Holds w' l → ResAt P σ w' fn.results.toList vs) (hR : ∀ w', Holds w' l → R (resV vs) w') : fnPost P n fn R e [] σ w :=
  ⟨he, .inl ⟨l, mk_nil H, fun w' H' a ra => ⟨_, results_at ra (hv w' H'), hR w' H'⟩⟩⟩

theorem ResAt.cellN [Extra] {a : Tmp} {t : TypeId} {b i E m : Nat} {fz : Nat × Nat} {c vs : List Value} {rs : List ResultVar} {us : List Value} (H : Holds w l) (ha : σ a = .pointer (some ⟨b, i, none⟩)) [h1 : TN P t m] [hA : At b (.cells c.toArray E fz) l] (hv : Reads c i m vs) (h : ResAt P σ w rs us) : ResAt P σ w (.cell a t :: rs) (.agg vs.toArray :: us) :=
  .cell ha (run_loadVarN (P := P) h1 (hA.get _ H.1) hv) h
/-! ### Functions that the model carries out itself -/

end
end Go.SL
namespace Go.Proofs.YtipelpbkeiphmaaGreatDoor
open Go.SL
instance : T1 Tryz.prog 1 := ⟨⟨_, Tryz.underlying1, (fun _ h => nomatch h), (fun _ _ h => nomatch h)⟩, by kernel_rfl⟩
instance : TZero Tryz.prog 1 (.nilFunc) := ⟨by kernel_rfl⟩
instance : T1 Tryz.prog 2 := ⟨⟨_, Tryz.underlying2, (fun _ h => nomatch h), (fun _ _ h => nomatch h)⟩, by kernel_rfl⟩
instance : TZero Tryz.prog 2 (.int .i64 0) := ⟨by kernel_rfl⟩
instance : TInt Tryz.prog 2 .i64 := ⟨Tryz.underlying2⟩
instance : T1 Tryz.prog 3 := ⟨⟨_, Tryz.underlying3, (fun _ h => nomatch h), (fun _ _ h => nomatch h)⟩, by kernel_rfl⟩
instance : TZero Tryz.prog 3 (.int .i64 0) := ⟨by kernel_rfl⟩
instance : TInt Tryz.prog 3 .i64 := ⟨Tryz.underlying3⟩
instance : T1 Tryz.prog 4 := ⟨⟨_, Tryz.underlying4, (fun _ h => nomatch h), (fun _ _ h => nomatch h)⟩, by kernel_rfl⟩
instance : TZero Tryz.prog 4 (.bool false) := ⟨by kernel_rfl⟩
instance : TBool Tryz.prog 4 := ⟨Tryz.underlying4⟩
instance : T1 Tryz.prog 5 := ⟨⟨_, Tryz.underlying5, (fun _ h => nomatch h), (fun _ _ h => nomatch h)⟩, by kernel_rfl⟩
instance : TZero Tryz.prog 5 (.int .u8 0) := ⟨by kernel_rfl⟩
instance : TInt Tryz.prog 5 .u8 := ⟨Tryz.underlying5⟩
instance : T1 Tryz.prog 6 := ⟨⟨_, Tryz.underlying6, (fun _ h => nomatch h), (fun _ _ h => nomatch h)⟩, by kernel_rfl⟩
instance : TZero Tryz.prog 6 (.int .u8 0) := ⟨by kernel_rfl⟩
instance : TInt Tryz.prog 6 .u8 := ⟨Tryz.underlying6⟩
instance : TN Tryz.prog 7 4 := ⟨.inl ⟨_, Tryz.underlying7⟩, by kernel_rfl⟩
instance : TZero Tryz.prog 7 (.agg #[.int .i64 0, .int .i64 0, .bool false, .int .u8 0]) := ⟨by kernel_rfl⟩
instance : TBuild Tryz.prog 7 [(0, 1), (1, 1), (2, 1), (3, 1)] := ⟨_, Tryz.underlying7, by kernel_rfl⟩
instance : TField Tryz.prog 7 0 0 := ⟨_, _, Tryz.underlying7, rfl, rfl, 1, by kernel_rfl, by decide⟩
instance : TPart Tryz.prog 7 0 0 none := ⟨_, _, Tryz.underlying7, rfl, rfl, (inferInstance : T1 Tryz.prog 2)⟩
instance : TField Tryz.prog 7 1 1 := ⟨_, _, Tryz.underlying7, rfl, rfl, 1, by kernel_rfl, by decide⟩
instance : TPart Tryz.prog 7 1 1 none := ⟨_, _, Tryz.underlying7, rfl, rfl, (inferInstance : T1 Tryz.prog 3)⟩
instance : TField Tryz.prog 7 2 2 := ⟨_, _, Tryz.underlying7, rfl, rfl, 1, by kernel_rfl, by decide⟩
instance : TPart Tryz.prog 7 2 2 none := ⟨_, _, Tryz.underlying7, rfl, rfl, (inferInstance : T1 Tryz.prog 4)⟩
instance : TField Tryz.prog 7 3 3 := ⟨_, _, Tryz.underlying7, rfl, rfl, 1, by kernel_rfl, by decide⟩
instance : TPart Tryz.prog 7 3 3 none := ⟨_, _, Tryz.underlying7, rfl, rfl, (inferInstance : T1 Tryz.prog 6)⟩
instance : T1 Tryz.prog 9 := ⟨⟨_, Tryz.underlying9, (fun _ h => nomatch h), (fun _ _ h => nomatch h)⟩, by kernel_rfl⟩
instance : TZero Tryz.prog 9 (.string ⟨#[]⟩) := ⟨by kernel_rfl⟩
instance : TString Tryz.prog 9 := ⟨Tryz.underlying9⟩
instance : T1 Tryz.prog 12 := ⟨⟨_, Tryz.underlying12, (fun _ h => nomatch h), (fun _ _ h => nomatch h)⟩, by kernel_rfl⟩
instance : TZero Tryz.prog 12 (.int .u64 0) := ⟨by kernel_rfl⟩
instance : TInt Tryz.prog 12 .u64 := ⟨Tryz.underlying12⟩
instance : TN Tryz.prog 13 2 := ⟨.inl ⟨_, Tryz.underlying13⟩, by kernel_rfl⟩
instance : TZero Tryz.prog 13 (.agg #[.string ⟨#[]⟩, .int .u64 0]) := ⟨by kernel_rfl⟩
instance : TBuild Tryz.prog 13 [(0, 1), (1, 1)] := ⟨_, Tryz.underlying13, by kernel_rfl⟩
instance : TField Tryz.prog 13 0 0 := ⟨_, _, Tryz.underlying13, rfl, rfl, 1, by kernel_rfl, by decide⟩
instance : TPart Tryz.prog 13 0 0 none := ⟨_, _, Tryz.underlying13, rfl, rfl, (inferInstance : T1 Tryz.prog 9)⟩
instance : TField Tryz.prog 13 1 1 := ⟨_, _, Tryz.underlying13, rfl, rfl, 1, by kernel_rfl, by decide⟩
instance : TPart Tryz.prog 13 1 1 none := ⟨_, _, Tryz.underlying13, rfl, rfl, (inferInstance : T1 Tryz.prog 12)⟩
instance : TN Tryz.prog 14 2 := ⟨.inl ⟨_, Tryz.underlying14⟩, by kernel_rfl⟩
instance : TZero Tryz.prog 14 (.agg #[.string ⟨#[]⟩, .int .u64 0]) := ⟨by kernel_rfl⟩
instance : TBuild Tryz.prog 14 [(0, 1), (1, 1)] := ⟨_, Tryz.underlying14, by kernel_rfl⟩
instance : TField Tryz.prog 14 0 0 := ⟨_, _, Tryz.underlying14, rfl, rfl, 1, by kernel_rfl, by decide⟩
instance : TPart Tryz.prog 14 0 0 none := ⟨_, _, Tryz.underlying14, rfl, rfl, (inferInstance : T1 Tryz.prog 9)⟩
instance : TField Tryz.prog 14 1 1 := ⟨_, _, Tryz.underlying14, rfl, rfl, 1, by kernel_rfl, by decide⟩
instance : TPart Tryz.prog 14 1 1 none := ⟨_, _, Tryz.underlying14, rfl, rfl, (inferInstance : T1 Tryz.prog 12)⟩
instance : T1 Tryz.prog 15 := ⟨⟨_, Tryz.underlying15, (fun _ h => nomatch h), (fun _ _ h => nomatch h)⟩, by kernel_rfl⟩
instance : TZero Tryz.prog 15 (.pointer none) := ⟨by kernel_rfl⟩
instance : TPtr Tryz.prog 15 := ⟨⟨_, Tryz.underlying15⟩⟩
instance : T1 Tryz.prog 16 := ⟨⟨_, Tryz.underlying16, (fun _ h => nomatch h), (fun _ _ h => nomatch h)⟩, by kernel_rfl⟩
instance : TZero Tryz.prog 16 (.pointer none) := ⟨by kernel_rfl⟩
instance : TPtr Tryz.prog 16 := ⟨⟨_, Tryz.underlying16⟩⟩
instance : T1 Tryz.prog 17 := ⟨⟨_, Tryz.underlying17, (fun _ h => nomatch h), (fun _ _ h => nomatch h)⟩, by kernel_rfl⟩
instance : TZero Tryz.prog 17 (.pointer none) := ⟨by kernel_rfl⟩
instance : TPtr Tryz.prog 17 := ⟨⟨_, Tryz.underlying17⟩⟩
instance : TN Tryz.prog 18 1 := ⟨.inl ⟨_, Tryz.underlying18⟩, by kernel_rfl⟩
instance : TZero Tryz.prog 18 (.agg #[.pointer none]) := ⟨by kernel_rfl⟩
instance : TBuild Tryz.prog 18 [(0, 1)] := ⟨_, Tryz.underlying18, by kernel_rfl⟩
instance : TField Tryz.prog 18 0 0 := ⟨_, _, Tryz.underlying18, rfl, rfl, 1, by kernel_rfl, by decide⟩
instance : TPart Tryz.prog 18 0 0 none := ⟨_, _, Tryz.underlying18, rfl, rfl, (inferInstance : T1 Tryz.prog 17)⟩
instance : T1 Tryz.prog 20 := ⟨⟨_, Tryz.underlying20, (fun _ h => nomatch h), (fun _ _ h => nomatch h)⟩, by kernel_rfl⟩
instance : TZero Tryz.prog 20 (.nilIface) := ⟨by kernel_rfl⟩
instance : T1 Tryz.prog 22 := ⟨⟨_, Tryz.underlying22, (fun _ h => nomatch h), (fun _ _ h => nomatch h)⟩, by kernel_rfl⟩
instance : TZero Tryz.prog 22 (.pointer none) := ⟨by kernel_rfl⟩
instance : TPtr Tryz.prog 22 := ⟨⟨_, Tryz.underlying22⟩⟩
instance : T1 Tryz.prog 23 := ⟨⟨_, Tryz.underlying23, (fun _ h => nomatch h), (fun _ _ h => nomatch h)⟩, by kernel_rfl⟩
instance : TZero Tryz.prog 23 (.pointer none) := ⟨by kernel_rfl⟩
instance : TPtr Tryz.prog 23 := ⟨⟨_, Tryz.underlying23⟩⟩
instance : T1 Tryz.prog 24 := ⟨⟨_, Tryz.underlying24, (fun _ h => nomatch h), (fun _ _ h => nomatch h)⟩, by kernel_rfl⟩
instance : TZero Tryz.prog 24 (.pointer none) := ⟨by kernel_rfl⟩
instance : TPtr Tryz.prog 24 := ⟨⟨_, Tryz.underlying24⟩⟩
instance : T1 Tryz.prog 25 := ⟨⟨_, Tryz.underlying25, (fun _ h => nomatch h), (fun _ _ h => nomatch h)⟩, by kernel_rfl⟩
instance : TZero Tryz.prog 25 (.pointer none) := ⟨by kernel_rfl⟩
instance : TPtr Tryz.prog 25 := ⟨⟨_, Tryz.underlying25⟩⟩
instance : TN Tryz.prog 27 4 := ⟨.inl ⟨_, Tryz.underlying27⟩, by kernel_rfl⟩
instance : TZero Tryz.prog 27 (.agg #[.pointer none, .int .i64 0, .pointer none, .pointer none]) := ⟨by kernel_rfl⟩
instance : TBuild Tryz.prog 27 [(0, 1), (1, 1), (2, 1), (3, 1)] := ⟨_, Tryz.underlying27, by kernel_rfl⟩
instance : TField Tryz.prog 27 0 0 := ⟨_, _, Tryz.underlying27, rfl, rfl, 1, by kernel_rfl, by decide⟩
instance : TPart Tryz.prog 27 0 0 none := ⟨_, _, Tryz.underlying27, rfl, rfl, (inferInstance : T1 Tryz.prog 23)⟩
instance : TField Tryz.prog 27 1 1 := ⟨_, _, Tryz.underlying27, rfl, rfl, 1, by kernel_rfl, by decide⟩
instance : TPart Tryz.prog 27 1 1 none := ⟨_, _, Tryz.underlying27, rfl, rfl, (inferInstance : T1 Tryz.prog 3)⟩
instance : TField Tryz.prog 27 2 2 := ⟨_, _, Tryz.underlying27, rfl, rfl, 1, by kernel_rfl, by decide⟩
instance : TPart Tryz.prog 27 2 2 none := ⟨_, _, Tryz.underlying27, rfl, rfl, (inferInstance : T1 Tryz.prog 24)⟩
instance : TField Tryz.prog 27 3 3 := ⟨_, _, Tryz.underlying27, rfl, rfl, 1, by kernel_rfl, by decide⟩
instance : TPart Tryz.prog 27 3 3 none := ⟨_, _, Tryz.underlying27, rfl, rfl, (inferInstance : T1 Tryz.prog 25)⟩
instance : T1 Tryz.prog 28 := ⟨⟨_, Tryz.underlying28, (fun _ h => nomatch h), (fun _ _ h => nomatch h)⟩, by kernel_rfl⟩
instance : TZero Tryz.prog 28 (.slice none 0 0) := ⟨by kernel_rfl⟩
instance : TSlice Tryz.prog 28 22 1 8 := ⟨Tryz.underlying28, by kernel_rfl⟩
instance : TN Tryz.prog 29 7 := ⟨.inl ⟨_, Tryz.underlying29⟩, by kernel_rfl⟩
instance : TZero Tryz.prog 29 (.agg #[.int .i64 0, .int .i64 0, .int .i64 0, .int .i64 0, .int .i64 0, .int .i64 0, .int .i64 0]) := ⟨by kernel_rfl⟩
instance : TBuild Tryz.prog 29 [(0, 1), (1, 1), (2, 1), (3, 1), (4, 1), (5, 1), (6, 1)] := ⟨_, Tryz.underlying29, by kernel_rfl⟩
instance : TField Tryz.prog 29 0 0 := ⟨_, _, Tryz.underlying29, rfl, rfl, 1, by kernel_rfl, by decide⟩
instance : TPart Tryz.prog 29 0 0 none := ⟨_, _, Tryz.underlying29, rfl, rfl, (inferInstance : T1 Tryz.prog 3)⟩
instance : TField Tryz.prog 29 1 1 := ⟨_, _, Tryz.underlying29, rfl, rfl, 1, by kernel_rfl, by decide⟩
instance : TPart Tryz.prog 29 1 1 none := ⟨_, _, Tryz.underlying29, rfl, rfl, (inferInstance : T1 Tryz.prog 3)⟩
instance : TField Tryz.prog 29 2 2 := ⟨_, _, Tryz.underlying29, rfl, rfl, 1, by kernel_rfl, by decide⟩
instance : TPart Tryz.prog 29 2 2 none := ⟨_, _, Tryz.underlying29, rfl, rfl, (inferInstance : T1 Tryz.prog 3)⟩
instance : TField Tryz.prog 29 3 3 := ⟨_, _, Tryz.underlying29, rfl, rfl, 1, by kernel_rfl, by decide⟩
instance : TPart Tryz.prog 29 3 3 none := ⟨_, _, Tryz.underlying29, rfl, rfl, (inferInstance : T1 Tryz.prog 3)⟩
instance : TField Tryz.prog 29 4 4 := ⟨_, _, Tryz.underlying29, rfl, rfl, 1, by kernel_rfl, by decide⟩
instance : TPart Tryz.prog 29 4 4 none := ⟨_, _, Tryz.underlying29, rfl, rfl, (inferInstance : T1 Tryz.prog 3)⟩
instance : TField Tryz.prog 29 5 5 := ⟨_, _, Tryz.underlying29, rfl, rfl, 1, by kernel_rfl, by decide⟩
instance : TPart Tryz.prog 29 5 5 none := ⟨_, _, Tryz.underlying29, rfl, rfl, (inferInstance : T1 Tryz.prog 3)⟩
instance : TField Tryz.prog 29 6 6 := ⟨_, _, Tryz.underlying29, rfl, rfl, 1, by kernel_rfl, by decide⟩
instance : TPart Tryz.prog 29 6 6 none := ⟨_, _, Tryz.underlying29, rfl, rfl, (inferInstance : T1 Tryz.prog 3)⟩
instance : TN Tryz.prog 30 7 := ⟨.inl ⟨_, Tryz.underlying30⟩, by kernel_rfl⟩
instance : TZero Tryz.prog 30 (.agg #[.int .i64 0, .int .i64 0, .int .i64 0, .int .i64 0, .int .i64 0, .int .i64 0, .int .i64 0]) := ⟨by kernel_rfl⟩
instance : TBuild Tryz.prog 30 [(0, 1), (1, 1), (2, 1), (3, 1), (4, 1), (5, 1), (6, 1)] := ⟨_, Tryz.underlying30, by kernel_rfl⟩
instance : TField Tryz.prog 30 0 0 := ⟨_, _, Tryz.underlying30, rfl, rfl, 1, by kernel_rfl, by decide⟩
instance : TPart Tryz.prog 30 0 0 none := ⟨_, _, Tryz.underlying30, rfl, rfl, (inferInstance : T1 Tryz.prog 3)⟩
instance : TField Tryz.prog 30 1 1 := ⟨_, _, Tryz.underlying30, rfl, rfl, 1, by kernel_rfl, by decide⟩
instance : TPart Tryz.prog 30 1 1 none := ⟨_, _, Tryz.underlying30, rfl, rfl, (inferInstance : T1 Tryz.prog 3)⟩
instance : TField Tryz.prog 30 2 2 := ⟨_, _, Tryz.underlying30, rfl, rfl, 1, by kernel_rfl, by decide⟩
instance : TPart Tryz.prog 30 2 2 none := ⟨_, _, Tryz.underlying30, rfl, rfl, (inferInstance : T1 Tryz.prog 3)⟩
instance : TField Tryz.prog 30 3 3 := ⟨_, _, Tryz.underlying30, rfl, rfl, 1, by kernel_rfl, by decide⟩
instance : TPart Tryz.prog 30 3 3 none := ⟨_, _, Tryz.underlying30, rfl, rfl, (inferInstance : T1 Tryz.prog 3)⟩
instance : TField Tryz.prog 30 4 4 := ⟨_, _, Tryz.underlying30, rfl, rfl, 1, by kernel_rfl, by decide⟩
instance : TPart Tryz.prog 30 4 4 none := ⟨_, _, Tryz.underlying30, rfl, rfl, (inferInstance : T1 Tryz.prog 3)⟩
instance : TField Tryz.prog 30 5 5 := ⟨_, _, Tryz.underlying30, rfl, rfl, 1, by kernel_rfl, by decide⟩
instance : TPart Tryz.prog 30 5 5 none := ⟨_, _, Tryz.underlying30, rfl, rfl, (inferInstance : T1 Tryz.prog 3)⟩
instance : TField Tryz.prog 30 6 6 := ⟨_, _, Tryz.underlying30, rfl, rfl, 1, by kernel_rfl, by decide⟩
instance : TPart Tryz.prog 30 6 6 none := ⟨_, _, Tryz.underlying30, rfl, rfl, (inferInstance : T1 Tryz.prog 3)⟩
instance : T1 Tryz.prog 31 := ⟨⟨_, Tryz.underlying31, (fun _ h => nomatch h), (fun _ _ h => nomatch h)⟩, by kernel_rfl⟩
instance : TZero Tryz.prog 31 (.int .i64 0) := ⟨by kernel_rfl⟩
instance : TInt Tryz.prog 31 .i64 := ⟨Tryz.underlying31⟩
instance : T1 Tryz.prog 33 := ⟨⟨_, Tryz.underlying33, (fun _ h => nomatch h), (fun _ _ h => nomatch h)⟩, by kernel_rfl⟩
instance : TZero Tryz.prog 33 (.nilFunc) := ⟨by kernel_rfl⟩
instance : TN Tryz.prog 34 6 := ⟨.inl ⟨_, Tryz.underlying34⟩, by kernel_rfl⟩
instance : TZero Tryz.prog 34 (.agg #[.int .i64 0, .int .i64 0, .int .i64 0, .int .i64 0, .int .i64 0, .int .i64 0]) := ⟨by kernel_rfl⟩
instance : TBuild Tryz.prog 34 [(0, 1), (1, 1), (2, 1), (3, 1), (4, 1), (5, 1)] := ⟨_, Tryz.underlying34, by kernel_rfl⟩
instance : TField Tryz.prog 34 0 0 := ⟨_, _, Tryz.underlying34, rfl, rfl, 1, by kernel_rfl, by decide⟩
instance : TPart Tryz.prog 34 0 0 none := ⟨_, _, Tryz.underlying34, rfl, rfl, (inferInstance : T1 Tryz.prog 3)⟩
instance : TField Tryz.prog 34 1 1 := ⟨_, _, Tryz.underlying34, rfl, rfl, 1, by kernel_rfl, by decide⟩
instance : TPart Tryz.prog 34 1 1 none := ⟨_, _, Tryz.underlying34, rfl, rfl, (inferInstance : T1 Tryz.prog 3)⟩
instance : TField Tryz.prog 34 2 2 := ⟨_, _, Tryz.underlying34, rfl, rfl, 1, by kernel_rfl, by decide⟩
instance : TPart Tryz.prog 34 2 2 none := ⟨_, _, Tryz.underlying34, rfl, rfl, (inferInstance : T1 Tryz.prog 3)⟩
instance : TField Tryz.prog 34 3 3 := ⟨_, _, Tryz.underlying34, rfl, rfl, 1, by kernel_rfl, by decide⟩
instance : TPart Tryz.prog 34 3 3 none := ⟨_, _, Tryz.underlying34, rfl, rfl, (inferInstance : T1 Tryz.prog 3)⟩
instance : TField Tryz.prog 34 4 4 := ⟨_, _, Tryz.underlying34, rfl, rfl, 1, by kernel_rfl, by decide⟩
instance : TPart Tryz.prog 34 4 4 none := ⟨_, _, Tryz.underlying34, rfl, rfl, (inferInstance : T1 Tryz.prog 3)⟩
instance : TField Tryz.prog 34 5 5 := ⟨_, _, Tryz.underlying34, rfl, rfl, 1, by kernel_rfl, by decide⟩
instance : TPart Tryz.prog 34 5 5 none := ⟨_, _, Tryz.underlying34, rfl, rfl, (inferInstance : T1 Tryz.prog 3)⟩
instance : TN Tryz.prog 35 6 := ⟨.inl ⟨_, Tryz.underlying35⟩, by kernel_rfl⟩
instance : TZero Tryz.prog 35 (.agg #[.int .i64 0, .int .i64 0, .int .i64 0, .int .i64 0, .int .i64 0, .int .i64 0]) := ⟨by kernel_rfl⟩
instance : TBuild Tryz.prog 35 [(0, 1), (1, 1), (2, 1), (3, 1), (4, 1), (5, 1)] := ⟨_, Tryz.underlying35, by kernel_rfl⟩
instance : TField Tryz.prog 35 0 0 := ⟨_, _, Tryz.underlying35, rfl, rfl, 1, by kernel_rfl, by decide⟩
instance : TPart Tryz.prog 35 0 0 none := ⟨_, _, Tryz.underlying35, rfl, rfl, (inferInstance : T1 Tryz.prog 3)⟩
instance : TField Tryz.prog 35 1 1 := ⟨_, _, Tryz.underlying35, rfl, rfl, 1, by kernel_rfl, by decide⟩
instance : TPart Tryz.prog 35 1 1 none := ⟨_, _, Tryz.underlying35, rfl, rfl, (inferInstance : T1 Tryz.prog 3)⟩
instance : TField Tryz.prog 35 2 2 := ⟨_, _, Tryz.underlying35, rfl, rfl, 1, by kernel_rfl, by decide⟩
instance : TPart Tryz.prog 35 2 2 none := ⟨_, _, Tryz.underlying35, rfl, rfl, (inferInstance : T1 Tryz.prog 3)⟩
instance : TField Tryz.prog 35 3 3 := ⟨_, _, Tryz.underlying35, rfl, rfl, 1, by kernel_rfl, by decide⟩
instance : TPart Tryz.prog 35 3 3 none := ⟨_, _, Tryz.underlying35, rfl, rfl, (inferInstance : T1 Tryz.prog 3)⟩
instance : TField Tryz.prog 35 4 4 := ⟨_, _, Tryz.underlying35, rfl, rfl, 1, by kernel_rfl, by decide⟩
instance : TPart Tryz.prog 35 4 4 none := ⟨_, _, Tryz.underlying35, rfl, rfl, (inferInstance : T1 Tryz.prog 3)⟩
instance : TField Tryz.prog 35 5 5 := ⟨_, _, Tryz.underlying35, rfl, rfl, 1, by kernel_rfl, by decide⟩
instance : TPart Tryz.prog 35 5 5 none := ⟨_, _, Tryz.underlying35, rfl, rfl, (inferInstance : T1 Tryz.prog 3)⟩
instance : T1 Tryz.prog 37 := ⟨⟨_, Tryz.underlying37, (fun _ h => nomatch h), (fun _ _ h => nomatch h)⟩, by kernel_rfl⟩
instance : TZero Tryz.prog 37 (.nilFunc) := ⟨by kernel_rfl⟩
instance : T1 Tryz.prog 38 := ⟨⟨_, Tryz.underlying38, (fun _ h => nomatch h), (fun _ _ h => nomatch h)⟩, by kernel_rfl⟩
instance : TZero Tryz.prog 38 (.slice none 0 0) := ⟨by kernel_rfl⟩
instance : TSlice Tryz.prog 38 155 2 16 := ⟨Tryz.underlying38, by kernel_rfl⟩
instance : T1 Tryz.prog 42 := ⟨⟨_, Tryz.underlying42, (fun _ h => nomatch h), (fun _ _ h => nomatch h)⟩, by kernel_rfl⟩
instance : TZero Tryz.prog 42 (.nilFunc) := ⟨by kernel_rfl⟩
instance : T1 Tryz.prog 45 := ⟨⟨_, Tryz.underlying45, (fun _ h => nomatch h), (fun _ _ h => nomatch h)⟩, by kernel_rfl⟩
instance : TZero Tryz.prog 45 (.slice none 0 0) := ⟨by kernel_rfl⟩
instance : TSlice Tryz.prog 45 88 2 16 := ⟨Tryz.underlying45, by kernel_rfl⟩
instance : T1 Tryz.prog 46 := ⟨⟨_, Tryz.underlying46, (fun _ h => nomatch h), (fun _ _ h => nomatch h)⟩, by kernel_rfl⟩
instance : TZero Tryz.prog 46 (.slice none 0 0) := ⟨by kernel_rfl⟩
instance : TSlice Tryz.prog 46 3 1 8 := ⟨Tryz.underlying46, by kernel_rfl⟩
instance : T1 Tryz.prog 48 := ⟨⟨_, Tryz.underlying48, (fun _ h => nomatch h), (fun _ _ h => nomatch h)⟩, by kernel_rfl⟩
instance : TZero Tryz.prog 48 (.nilFunc) := ⟨by kernel_rfl⟩
instance : T1 Tryz.prog 50 := ⟨⟨_, Tryz.underlying50, (fun _ h => nomatch h), (fun _ _ h => nomatch h)⟩, by kernel_rfl⟩
instance : TZero Tryz.prog 50 (.nilFunc) := ⟨by kernel_rfl⟩
instance : T1 Tryz.prog 54 := ⟨⟨_, Tryz.underlying54, (fun _ h => nomatch h), (fun _ _ h => nomatch h)⟩, by kernel_rfl⟩
instance : TZero Tryz.prog 54 (.pointer none) := ⟨by kernel_rfl⟩
instance : TPtr Tryz.prog 54 := ⟨⟨_, Tryz.underlying54⟩⟩
instance : TN Tryz.prog 56 3 := ⟨.inl ⟨_, Tryz.underlying56⟩, by kernel_rfl⟩
instance : TZero Tryz.prog 56 (.agg #[.pointer none, .pointer none, .slice none 0 0]) := ⟨by kernel_rfl⟩
instance : TBuild Tryz.prog 56 [(0, 1), (1, 1), (2, 1)] := ⟨_, Tryz.underlying56, by kernel_rfl⟩
instance : TField Tryz.prog 56 0 0 := ⟨_, _, Tryz.underlying56, rfl, rfl, 1, by kernel_rfl, by decide⟩
instance : TPart Tryz.prog 56 0 0 none := ⟨_, _, Tryz.underlying56, rfl, rfl, (inferInstance : T1 Tryz.prog 23)⟩
instance : TField Tryz.prog 56 1 1 := ⟨_, _, Tryz.underlying56, rfl, rfl, 1, by kernel_rfl, by decide⟩
instance : TPart Tryz.prog 56 1 1 none := ⟨_, _, Tryz.underlying56, rfl, rfl, (inferInstance : T1 Tryz.prog 54)⟩
instance : TField Tryz.prog 56 2 2 := ⟨_, _, Tryz.underlying56, rfl, rfl, 1, by kernel_rfl, by decide⟩
instance : TPart Tryz.prog 56 2 2 none := ⟨_, _, Tryz.underlying56, rfl, rfl, (inferInstance : T1 Tryz.prog 45)⟩
instance : T1 Tryz.prog 63 := ⟨⟨_, Tryz.underlying63, (fun _ h => nomatch h), (fun _ _ h => nomatch h)⟩, by kernel_rfl⟩
instance : TZero Tryz.prog 63 (.nilFunc) := ⟨by kernel_rfl⟩
instance : T1 Tryz.prog 64 := ⟨⟨_, Tryz.underlying64, (fun _ h => nomatch h), (fun _ _ h => nomatch h)⟩, by kernel_rfl⟩
instance : TZero Tryz.prog 64 (.nilFunc) := ⟨by kernel_rfl⟩
instance : TN Tryz.prog 65 3 := ⟨.inl ⟨_, Tryz.underlying65⟩, by kernel_rfl⟩
instance : TZero Tryz.prog 65 (.agg #[.int .i64 0, .int .i64 0, .slice none 0 0]) := ⟨by kernel_rfl⟩
instance : TBuild Tryz.prog 65 [(0, 1), (1, 1), (2, 1)] := ⟨_, Tryz.underlying65, by kernel_rfl⟩
instance : TField Tryz.prog 65 0 0 := ⟨_, _, Tryz.underlying65, rfl, rfl, 1, by kernel_rfl, by decide⟩
instance : TPart Tryz.prog 65 0 0 none := ⟨_, _, Tryz.underlying65, rfl, rfl, (inferInstance : T1 Tryz.prog 3)⟩
instance : TField Tryz.prog 65 1 1 := ⟨_, _, Tryz.underlying65, rfl, rfl, 1, by kernel_rfl, by decide⟩
instance : TPart Tryz.prog 65 1 1 none := ⟨_, _, Tryz.underlying65, rfl, rfl, (inferInstance : T1 Tryz.prog 3)⟩
instance : TField Tryz.prog 65 2 2 := ⟨_, _, Tryz.underlying65, rfl, rfl, 1, by kernel_rfl, by decide⟩
instance : TPart Tryz.prog 65 2 2 none := ⟨_, _, Tryz.underlying65, rfl, rfl, (inferInstance : T1 Tryz.prog 46)⟩
instance : T1 Tryz.prog 67 := ⟨⟨_, Tryz.underlying67, (fun _ h => nomatch h), (fun _ _ h => nomatch h)⟩, by kernel_rfl⟩
instance : TZero Tryz.prog 67 (.pointer none) := ⟨by kernel_rfl⟩
instance : TPtr Tryz.prog 67 := ⟨⟨_, Tryz.underlying67⟩⟩
instance : T1 Tryz.prog 68 := ⟨⟨_, Tryz.underlying68, (fun _ h => nomatch h), (fun _ _ h => nomatch h)⟩, by kernel_rfl⟩
instance : TZero Tryz.prog 68 (.pointer none) := ⟨by kernel_rfl⟩
instance : TPtr Tryz.prog 68 := ⟨⟨_, Tryz.underlying68⟩⟩
instance : T1 Tryz.prog 69 := ⟨⟨_, Tryz.underlying69, (fun _ h => nomatch h), (fun _ _ h => nomatch h)⟩, by kernel_rfl⟩
instance : TZero Tryz.prog 69 (.pointer none) := ⟨by kernel_rfl⟩
instance : TPtr Tryz.prog 69 := ⟨⟨_, Tryz.underlying69⟩⟩
instance : T1 Tryz.prog 70 := ⟨⟨_, Tryz.underlying70, (fun _ h => nomatch h), (fun _ _ h => nomatch h)⟩, by kernel_rfl⟩
instance : TZero Tryz.prog 70 (.pointer none) := ⟨by kernel_rfl⟩
instance : TPtr Tryz.prog 70 := ⟨⟨_, Tryz.underlying70⟩⟩
instance : T1 Tryz.prog 71 := ⟨⟨_, Tryz.underlying71, (fun _ h => nomatch h), (fun _ _ h => nomatch h)⟩, by kernel_rfl⟩
instance : TZero Tryz.prog 71 (.pointer none) := ⟨by kernel_rfl⟩
instance : TPtr Tryz.prog 71 := ⟨⟨_, Tryz.underlying71⟩⟩
instance : T1 Tryz.prog 72 := ⟨⟨_, Tryz.underlying72, (fun _ h => nomatch h), (fun _ _ h => nomatch h)⟩, by kernel_rfl⟩
instance : TZero Tryz.prog 72 (.pointer none) := ⟨by kernel_rfl⟩
instance : TPtr Tryz.prog 72 := ⟨⟨_, Tryz.underlying72⟩⟩
instance : T1 Tryz.prog 73 := ⟨⟨_, Tryz.underlying73, (fun _ h => nomatch h), (fun _ _ h => nomatch h)⟩, by kernel_rfl⟩
instance : TZero Tryz.prog 73 (.map none) := ⟨by kernel_rfl⟩
instance : TMap Tryz.prog 73 3 24 := ⟨Tryz.underlying73⟩
instance : T1 Tryz.prog 74 := ⟨⟨_, Tryz.underlying74, (fun _ h => nomatch h), (fun _ _ h => nomatch h)⟩, by kernel_rfl⟩
instance : TZero Tryz.prog 74 (.map none) := ⟨by kernel_rfl⟩
instance : TMap Tryz.prog 74 3 119 := ⟨Tryz.underlying74⟩
instance : TN Tryz.prog 75 8 := ⟨.inl ⟨_, Tryz.underlying75⟩, by kernel_rfl⟩
instance : TZero Tryz.prog 75 (.agg #[.pointer none, .pointer none, .pointer none, .pointer none, .pointer none, .pointer none, .map none, .map none]) := ⟨by kernel_rfl⟩
instance : TBuild Tryz.prog 75 [(0, 1), (1, 1), (2, 1), (3, 1), (4, 1), (5, 1), (6, 1), (7, 1)] := ⟨_, Tryz.underlying75, by kernel_rfl⟩
instance : TField Tryz.prog 75 0 0 := ⟨_, _, Tryz.underlying75, rfl, rfl, 1, by kernel_rfl, by decide⟩
instance : TPart Tryz.prog 75 0 0 none := ⟨_, _, Tryz.underlying75, rfl, rfl, (inferInstance : T1 Tryz.prog 67)⟩
instance : TField Tryz.prog 75 1 1 := ⟨_, _, Tryz.underlying75, rfl, rfl, 1, by kernel_rfl, by decide⟩
instance : TPart Tryz.prog 75 1 1 none := ⟨_, _, Tryz.underlying75, rfl, rfl, (inferInstance : T1 Tryz.prog 68)⟩
instance : TField Tryz.prog 75 2 2 := ⟨_, _, Tryz.underlying75, rfl, rfl, 1, by kernel_rfl, by decide⟩
instance : TPart Tryz.prog 75 2 2 none := ⟨_, _, Tryz.underlying75, rfl, rfl, (inferInstance : T1 Tryz.prog 69)⟩
instance : TField Tryz.prog 75 3 3 := ⟨_, _, Tryz.underlying75, rfl, rfl, 1, by kernel_rfl, by decide⟩
instance : TPart Tryz.prog 75 3 3 none := ⟨_, _, Tryz.underlying75, rfl, rfl, (inferInstance : T1 Tryz.prog 70)⟩
instance : TField Tryz.prog 75 4 4 := ⟨_, _, Tryz.underlying75, rfl, rfl, 1, by kernel_rfl, by decide⟩
instance : TPart Tryz.prog 75 4 4 none := ⟨_, _, Tryz.underlying75, rfl, rfl, (inferInstance : T1 Tryz.prog 71)⟩
instance : TField Tryz.prog 75 5 5 := ⟨_, _, Tryz.underlying75, rfl, rfl, 1, by kernel_rfl, by decide⟩
instance : TPart Tryz.prog 75 5 5 none := ⟨_, _, Tryz.underlying75, rfl, rfl, (inferInstance : T1 Tryz.prog 72)⟩
instance : TField Tryz.prog 75 6 6 := ⟨_, _, Tryz.underlying75, rfl, rfl, 1, by kernel_rfl, by decide⟩
instance : TPart Tryz.prog 75 6 6 none := ⟨_, _, Tryz.underlying75, rfl, rfl, (inferInstance : T1 Tryz.prog 73)⟩
instance : TField Tryz.prog 75 7 7 := ⟨_, _, Tryz.underlying75, rfl, rfl, 1, by kernel_rfl, by decide⟩
instance : TPart Tryz.prog 75 7 7 none := ⟨_, _, Tryz.underlying75, rfl, rfl, (inferInstance : T1 Tryz.prog 74)⟩
instance : TN Tryz.prog 76 8 := ⟨.inl ⟨_, Tryz.underlying76⟩, by kernel_rfl⟩
instance : TZero Tryz.prog 76 (.agg #[.pointer none, .pointer none, .pointer none, .pointer none, .pointer none, .pointer none, .map none, .map none]) := ⟨by kernel_rfl⟩
instance : TBuild Tryz.prog 76 [(0, 1), (1, 1), (2, 1), (3, 1), (4, 1), (5, 1), (6, 1), (7, 1)] := ⟨_, Tryz.underlying76, by kernel_rfl⟩
instance : TField Tryz.prog 76 0 0 := ⟨_, _, Tryz.underlying76, rfl, rfl, 1, by kernel_rfl, by decide⟩
instance : TPart Tryz.prog 76 0 0 none := ⟨_, _, Tryz.underlying76, rfl, rfl, (inferInstance : T1 Tryz.prog 67)⟩
instance : TField Tryz.prog 76 1 1 := ⟨_, _, Tryz.underlying76, rfl, rfl, 1, by kernel_rfl, by decide⟩
instance : TPart Tryz.prog 76 1 1 none := ⟨_, _, Tryz.underlying76, rfl, rfl, (inferInstance : T1 Tryz.prog 68)⟩
instance : TField Tryz.prog 76 2 2 := ⟨_, _, Tryz.underlying76, rfl, rfl, 1, by kernel_rfl, by decide⟩
instance : TPart Tryz.prog 76 2 2 none := ⟨_, _, Tryz.underlying76, rfl, rfl, (inferInstance : T1 Tryz.prog 69)⟩
instance : TField Tryz.prog 76 3 3 := ⟨_, _, Tryz.underlying76, rfl, rfl, 1, by kernel_rfl, by decide⟩
instance : TPart Tryz.prog 76 3 3 none := ⟨_, _, Tryz.underlying76, rfl, rfl, (inferInstance : T1 Tryz.prog 70)⟩
instance : TField Tryz.prog 76 4 4 := ⟨_, _, Tryz.underlying76, rfl, rfl, 1, by kernel_rfl, by decide⟩
instance : TPart Tryz.prog 76 4 4 none := ⟨_, _, Tryz.underlying76, rfl, rfl, (inferInstance : T1 Tryz.prog 71)⟩
instance : TField Tryz.prog 76 5 5 := ⟨_, _, Tryz.underlying76, rfl, rfl, 1, by kernel_rfl, by decide⟩
instance : TPart Tryz.prog 76 5 5 none := ⟨_, _, Tryz.underlying76, rfl, rfl, (inferInstance : T1 Tryz.prog 72)⟩
instance : TField Tryz.prog 76 6 6 := ⟨_, _, Tryz.underlying76, rfl, rfl, 1, by kernel_rfl, by decide⟩
instance : TPart Tryz.prog 76 6 6 none := ⟨_, _, Tryz.underlying76, rfl, rfl, (inferInstance : T1 Tryz.prog 73)⟩
instance : TField Tryz.prog 76 7 7 := ⟨_, _, Tryz.underlying76, rfl, rfl, 1, by kernel_rfl, by decide⟩
instance : TPart Tryz.prog 76 7 7 none := ⟨_, _, Tryz.underlying76, rfl, rfl, (inferInstance : T1 Tryz.prog 74)⟩
instance : T1 Tryz.prog 78 := ⟨⟨_, Tryz.underlying78, (fun _ h => nomatch h), (fun _ _ h => nomatch h)⟩, by kernel_rfl⟩
instance : TZero Tryz.prog 78 (.map none) := ⟨by kernel_rfl⟩
instance : TMap Tryz.prog 78 3 3 := ⟨Tryz.underlying78⟩
instance : T1 Tryz.prog 79 := ⟨⟨_, Tryz.underlying79, (fun _ h => nomatch h), (fun _ _ h => nomatch h)⟩, by kernel_rfl⟩
instance : TZero Tryz.prog 79 (.pointer none) := ⟨by kernel_rfl⟩
instance : TPtr Tryz.prog 79 := ⟨⟨_, Tryz.underlying79⟩⟩
instance : T1 Tryz.prog 80 := ⟨⟨_, Tryz.underlying80, (fun _ h => nomatch h), (fun _ _ h => nomatch h)⟩, by kernel_rfl⟩
instance : TZero Tryz.prog 80 (.slice none 0 0) := ⟨by kernel_rfl⟩
instance : TSlice Tryz.prog 80 201 4 64 := ⟨Tryz.underlying80, by kernel_rfl⟩
instance : T1 Tryz.prog 85 := ⟨⟨_, Tryz.underlying85, (fun _ h => nomatch h), (fun _ _ h => nomatch h)⟩, by kernel_rfl⟩
instance : TZero Tryz.prog 85 (.nilFunc) := ⟨by kernel_rfl⟩
instance : TN Tryz.prog 88 2 := ⟨.inl ⟨_, Tryz.underlying88⟩, by kernel_rfl⟩
instance : TZero Tryz.prog 88 (.agg #[.int .i64 0, .int .i64 0]) := ⟨by kernel_rfl⟩
instance : TBuild Tryz.prog 88 [(0, 1), (1, 1)] := ⟨_, Tryz.underlying88, by kernel_rfl⟩
instance : TField Tryz.prog 88 0 0 := ⟨_, _, Tryz.underlying88, rfl, rfl, 1, by kernel_rfl, by decide⟩
instance : TPart Tryz.prog 88 0 0 none := ⟨_, _, Tryz.underlying88, rfl, rfl, (inferInstance : T1 Tryz.prog 3)⟩
instance : TField Tryz.prog 88 1 1 := ⟨_, _, Tryz.underlying88, rfl, rfl, 1, by kernel_rfl, by decide⟩
instance : TPart Tryz.prog 88 1 1 none := ⟨_, _, Tryz.underlying88, rfl, rfl, (inferInstance : T1 Tryz.prog 3)⟩
instance : TPair Tryz.prog 88 := ⟨⟨_, _, _, _, Tryz.underlying88, by decide, by decide, rfl, rfl, Tryz.underlying3, Tryz.underlying3⟩, fun f g h => by rw [Tryz.underlying88] at h; cases h; exact ⟨(inferInstance : T1 Tryz.prog 3), (inferInstance : T1 Tryz.prog 3)⟩, by kernel_rfl, by kernel_rfl⟩
instance : T1 Tryz.prog 98 := ⟨⟨_, Tryz.underlying98, (fun _ h => nomatch h), (fun _ _ h => nomatch h)⟩, by kernel_rfl⟩
instance : TZero Tryz.prog 98 (.nilFunc) := ⟨by kernel_rfl⟩
instance : T1 Tryz.prog 99 := ⟨⟨_, Tryz.underlying99, (fun _ h => nomatch h), (fun _ _ h => nomatch h)⟩, by kernel_rfl⟩
instance : TZero Tryz.prog 99 (.nilFunc) := ⟨by kernel_rfl⟩
instance : T1 Tryz.prog 100 := ⟨⟨_, Tryz.underlying100, (fun _ h => nomatch h), (fun _ _ h => nomatch h)⟩, by kernel_rfl⟩
instance : TZero Tryz.prog 100 (.nilFunc) := ⟨by kernel_rfl⟩
instance : TN Tryz.prog 102 4 := ⟨.inl ⟨_, Tryz.underlying102⟩, by kernel_rfl⟩
instance : TZero Tryz.prog 102 (.agg #[.int .i64 0, .int .i64 0, .bool false, .bool false]) := ⟨by kernel_rfl⟩
instance : TBuild Tryz.prog 102 [(0, 1), (1, 1), (2, 1), (3, 1)] := ⟨_, Tryz.underlying102, by kernel_rfl⟩
instance : TField Tryz.prog 102 0 0 := ⟨_, _, Tryz.underlying102, rfl, rfl, 1, by kernel_rfl, by decide⟩
instance : TPart Tryz.prog 102 0 0 none := ⟨_, _, Tryz.underlying102, rfl, rfl, (inferInstance : T1 Tryz.prog 3)⟩
instance : TField Tryz.prog 102 1 1 := ⟨_, _, Tryz.underlying102, rfl, rfl, 1, by kernel_rfl, by decide⟩
instance : TPart Tryz.prog 102 1 1 none := ⟨_, _, Tryz.underlying102, rfl, rfl, (inferInstance : T1 Tryz.prog 3)⟩
instance : TField Tryz.prog 102 2 2 := ⟨_, _, Tryz.underlying102, rfl, rfl, 1, by kernel_rfl, by decide⟩
instance : TPart Tryz.prog 102 2 2 none := ⟨_, _, Tryz.underlying102, rfl, rfl, (inferInstance : T1 Tryz.prog 4)⟩
instance : TField Tryz.prog 102 3 3 := ⟨_, _, Tryz.underlying102, rfl, rfl, 1, by kernel_rfl, by decide⟩
instance : TPart Tryz.prog 102 3 3 none := ⟨_, _, Tryz.underlying102, rfl, rfl, (inferInstance : T1 Tryz.prog 4)⟩
instance : T1 Tryz.prog 106 := ⟨⟨_, Tryz.underlying106, (fun _ h => nomatch h), (fun _ _ h => nomatch h)⟩, by kernel_rfl⟩
instance : TZero Tryz.prog 106 (.nilFunc) := ⟨by kernel_rfl⟩
instance : TN Tryz.prog 108 3 := ⟨.inl ⟨_, Tryz.underlying108⟩, by kernel_rfl⟩
instance : TZero Tryz.prog 108 (.agg #[.int .i64 0, .int .i64 0, .int .i64 0]) := ⟨by kernel_rfl⟩
instance : TBuild Tryz.prog 108 [(0, 1), (1, 2)] := ⟨_, Tryz.underlying108, by kernel_rfl⟩
instance : TField Tryz.prog 108 0 0 := ⟨_, _, Tryz.underlying108, rfl, rfl, 1, by kernel_rfl, by decide⟩
instance : TPart Tryz.prog 108 0 0 none := ⟨_, _, Tryz.underlying108, rfl, rfl, (inferInstance : T1 Tryz.prog 3)⟩
instance : TField Tryz.prog 108 1 1 := ⟨_, _, Tryz.underlying108, rfl, rfl, 2, by kernel_rfl, by decide⟩
instance : TPart Tryz.prog 108 1 1 (some 2) := ⟨_, _, Tryz.underlying108, rfl, rfl, (inferInstance : TN Tryz.prog 88 2)⟩
instance : T1 Tryz.prog 115 := ⟨⟨_, Tryz.underlying115, (fun _ h => nomatch h), (fun _ _ h => nomatch h)⟩, by kernel_rfl⟩
instance : TZero Tryz.prog 115 (.slice none 0 0) := ⟨by kernel_rfl⟩
instance : TSlice Tryz.prog 115 127 1 8 := ⟨Tryz.underlying115, by kernel_rfl⟩
instance : TN Tryz.prog 116 9 := ⟨.inl ⟨_, Tryz.underlying116⟩, by kernel_rfl⟩
instance : TZero Tryz.prog 116 (.agg #[.int .i64 0, .int .i64 0, .int .i64 0, .slice none 0 0, .slice none 0 0, .slice none 0 0, .bool false, .bool false, .bool false]) := ⟨by kernel_rfl⟩
instance : TBuild Tryz.prog 116 [(0, 1), (1, 1), (2, 1), (3, 1), (4, 1), (5, 1), (6, 1), (7, 1), (8, 1)] := ⟨_, Tryz.underlying116, by kernel_rfl⟩
instance : TField Tryz.prog 116 0 0 := ⟨_, _, Tryz.underlying116, rfl, rfl, 1, by kernel_rfl, by decide⟩
instance : TPart Tryz.prog 116 0 0 none := ⟨_, _, Tryz.underlying116, rfl, rfl, (inferInstance : T1 Tryz.prog 3)⟩
instance : TField Tryz.prog 116 1 1 := ⟨_, _, Tryz.underlying116, rfl, rfl, 1, by kernel_rfl, by decide⟩
instance : TPart Tryz.prog 116 1 1 none := ⟨_, _, Tryz.underlying116, rfl, rfl, (inferInstance : T1 Tryz.prog 3)⟩
instance : TField Tryz.prog 116 2 2 := ⟨_, _, Tryz.underlying116, rfl, rfl, 1, by kernel_rfl, by decide⟩
instance : TPart Tryz.prog 116 2 2 none := ⟨_, _, Tryz.underlying116, rfl, rfl, (inferInstance : T1 Tryz.prog 3)⟩
instance : TField Tryz.prog 116 3 3 := ⟨_, _, Tryz.underlying116, rfl, rfl, 1, by kernel_rfl, by decide⟩
instance : TPart Tryz.prog 116 3 3 none := ⟨_, _, Tryz.underlying116, rfl, rfl, (inferInstance : T1 Tryz.prog 115)⟩
instance : TField Tryz.prog 116 4 4 := ⟨_, _, Tryz.underlying116, rfl, rfl, 1, by kernel_rfl, by decide⟩
instance : TPart Tryz.prog 116 4 4 none := ⟨_, _, Tryz.underlying116, rfl, rfl, (inferInstance : T1 Tryz.prog 46)⟩
instance : TField Tryz.prog 116 5 5 := ⟨_, _, Tryz.underlying116, rfl, rfl, 1, by kernel_rfl, by decide⟩
instance : TPart Tryz.prog 116 5 5 none := ⟨_, _, Tryz.underlying116, rfl, rfl, (inferInstance : T1 Tryz.prog 46)⟩
instance : TField Tryz.prog 116 6 6 := ⟨_, _, Tryz.underlying116, rfl, rfl, 1, by kernel_rfl, by decide⟩
instance : TPart Tryz.prog 116 6 6 none := ⟨_, _, Tryz.underlying116, rfl, rfl, (inferInstance : T1 Tryz.prog 4)⟩
instance : TField Tryz.prog 116 7 7 := ⟨_, _, Tryz.underlying116, rfl, rfl, 1, by kernel_rfl, by decide⟩
instance : TPart Tryz.prog 116 7 7 none := ⟨_, _, Tryz.underlying116, rfl, rfl, (inferInstance : T1 Tryz.prog 4)⟩
instance : TField Tryz.prog 116 8 8 := ⟨_, _, Tryz.underlying116, rfl, rfl, 1, by kernel_rfl, by decide⟩
instance : TPart Tryz.prog 116 8 8 none := ⟨_, _, Tryz.underlying116, rfl, rfl, (inferInstance : T1 Tryz.prog 4)⟩
instance : T1 Tryz.prog 119 := ⟨⟨_, Tryz.underlying119, (fun _ h => nomatch h), (fun _ _ h => nomatch h)⟩, by kernel_rfl⟩
instance : TZero Tryz.prog 119 (.pointer none) := ⟨by kernel_rfl⟩
instance : TPtr Tryz.prog 119 := ⟨⟨_, Tryz.underlying119⟩⟩
instance : T1 Tryz.prog 124 := ⟨⟨_, Tryz.underlying124, (fun _ h => nomatch h), (fun _ _ h => nomatch h)⟩, by kernel_rfl⟩
instance : TZero Tryz.prog 124 (.nilFunc) := ⟨by kernel_rfl⟩
instance : T1 Tryz.prog 127 := ⟨⟨_, Tryz.underlying127, (fun _ h => nomatch h), (fun _ _ h => nomatch h)⟩, by kernel_rfl⟩
instance : TZero Tryz.prog 127 (.int .u64 0) := ⟨by kernel_rfl⟩
instance : TInt Tryz.prog 127 .u64 := ⟨Tryz.underlying127⟩
instance : T1 Tryz.prog 129 := ⟨⟨_, Tryz.underlying129, (fun _ h => nomatch h), (fun _ _ h => nomatch h)⟩, by kernel_rfl⟩
instance : TZero Tryz.prog 129 (.nilFunc) := ⟨by kernel_rfl⟩
instance : T1 Tryz.prog 131 := ⟨⟨_, Tryz.underlying131, (fun _ h => nomatch h), (fun _ _ h => nomatch h)⟩, by kernel_rfl⟩
instance : TZero Tryz.prog 131 (.nilFunc) := ⟨by kernel_rfl⟩
instance : T1 Tryz.prog 132 := ⟨⟨_, Tryz.underlying132, (fun _ h => nomatch h), (fun _ _ h => nomatch h)⟩, by kernel_rfl⟩
instance : TZero Tryz.prog 132 (.nilFunc) := ⟨by kernel_rfl⟩
instance : T1 Tryz.prog 135 := ⟨⟨_, Tryz.underlying135, (fun _ h => nomatch h), (fun _ _ h => nomatch h)⟩, by kernel_rfl⟩
instance : TZero Tryz.prog 135 (.nilFunc) := ⟨by kernel_rfl⟩
instance : T1 Tryz.prog 138 := ⟨⟨_, Tryz.underlying138, (fun _ h => nomatch h), (fun _ _ h => nomatch h)⟩, by kernel_rfl⟩
instance : TZero Tryz.prog 138 (.nilFunc) := ⟨by kernel_rfl⟩
instance : T1 Tryz.prog 142 := ⟨⟨_, Tryz.underlying142, (fun _ h => nomatch h), (fun _ _ h => nomatch h)⟩, by kernel_rfl⟩
instance : TZero Tryz.prog 142 (.slice none 0 0) := ⟨by kernel_rfl⟩
instance : TSlice Tryz.prog 142 146 2 16 := ⟨Tryz.underlying142, by kernel_rfl⟩
instance : T1 Tryz.prog 143 := ⟨⟨_, Tryz.underlying143, (fun _ h => nomatch h), (fun _ _ h => nomatch h)⟩, by kernel_rfl⟩
instance : TZero Tryz.prog 143 (.slice none 0 0) := ⟨by kernel_rfl⟩
instance : TSlice Tryz.prog 143 166 2 16 := ⟨Tryz.underlying143, by kernel_rfl⟩
instance : TN Tryz.prog 146 2 := ⟨.inl ⟨_, Tryz.underlying146⟩, by kernel_rfl⟩
instance : TZero Tryz.prog 146 (.agg #[.int .i64 0, .int .i64 0]) := ⟨by kernel_rfl⟩
instance : TBuild Tryz.prog 146 [(0, 1), (1, 1)] := ⟨_, Tryz.underlying146, by kernel_rfl⟩
instance : TField Tryz.prog 146 0 0 := ⟨_, _, Tryz.underlying146, rfl, rfl, 1, by kernel_rfl, by decide⟩
instance : TPart Tryz.prog 146 0 0 none := ⟨_, _, Tryz.underlying146, rfl, rfl, (inferInstance : T1 Tryz.prog 3)⟩
instance : TField Tryz.prog 146 1 1 := ⟨_, _, Tryz.underlying146, rfl, rfl, 1, by kernel_rfl, by decide⟩
instance : TPart Tryz.prog 146 1 1 none := ⟨_, _, Tryz.underlying146, rfl, rfl, (inferInstance : T1 Tryz.prog 3)⟩
instance : TPair Tryz.prog 146 := ⟨⟨_, _, _, _, Tryz.underlying146, by decide, by decide, rfl, rfl, Tryz.underlying3, Tryz.underlying3⟩, fun f g h => by rw [Tryz.underlying146] at h; cases h; exact ⟨(inferInstance : T1 Tryz.prog 3), (inferInstance : T1 Tryz.prog 3)⟩, by kernel_rfl, by kernel_rfl⟩
instance : T1 Tryz.prog 149 := ⟨⟨_, Tryz.underlying149, (fun _ h => nomatch h), (fun _ _ h => nomatch h)⟩, by kernel_rfl⟩
instance : TZero Tryz.prog 149 (.nilFunc) := ⟨by kernel_rfl⟩
instance : T1 Tryz.prog 150 := ⟨⟨_, Tryz.underlying150, (fun _ h => nomatch h), (fun _ _ h => nomatch h)⟩, by kernel_rfl⟩
instance : TZero Tryz.prog 150 (.nilFunc) := ⟨by kernel_rfl⟩
instance : TN Tryz.prog 155 2 := ⟨.inl ⟨_, Tryz.underlying155⟩, by kernel_rfl⟩
instance : TZero Tryz.prog 155 (.agg #[.int .i64 0, .int .i64 0]) := ⟨by kernel_rfl⟩
instance : TBuild Tryz.prog 155 [(0, 1), (1, 1)] := ⟨_, Tryz.underlying155, by kernel_rfl⟩
instance : TField Tryz.prog 155 0 0 := ⟨_, _, Tryz.underlying155, rfl, rfl, 1, by kernel_rfl, by decide⟩
instance : TPart Tryz.prog 155 0 0 none := ⟨_, _, Tryz.underlying155, rfl, rfl, (inferInstance : T1 Tryz.prog 3)⟩
instance : TField Tryz.prog 155 1 1 := ⟨_, _, Tryz.underlying155, rfl, rfl, 1, by kernel_rfl, by decide⟩
instance : TPart Tryz.prog 155 1 1 none := ⟨_, _, Tryz.underlying155, rfl, rfl, (inferInstance : T1 Tryz.prog 3)⟩
instance : TPair Tryz.prog 155 := ⟨⟨_, _, _, _, Tryz.underlying155, by decide, by decide, rfl, rfl, Tryz.underlying3, Tryz.underlying3⟩, fun f g h => by rw [Tryz.underlying155] at h; cases h; exact ⟨(inferInstance : T1 Tryz.prog 3), (inferInstance : T1 Tryz.prog 3)⟩, by kernel_rfl, by kernel_rfl⟩
instance : T1 Tryz.prog 160 := ⟨⟨_, Tryz.underlying160, (fun _ h => nomatch h), (fun _ _ h => nomatch h)⟩, by kernel_rfl⟩
instance : TZero Tryz.prog 160 (.nilFunc) := ⟨by kernel_rfl⟩
instance : T1 Tryz.prog 161 := ⟨⟨_, Tryz.underlying161, (fun _ h => nomatch h), (fun _ _ h => nomatch h)⟩, by kernel_rfl⟩
instance : TZero Tryz.prog 161 (.nilFunc) := ⟨by kernel_rfl⟩
instance : T1 Tryz.prog 162 := ⟨⟨_, Tryz.underlying162, (fun _ h => nomatch h), (fun _ _ h => nomatch h)⟩, by kernel_rfl⟩
instance : TZero Tryz.prog 162 (.nilFunc) := ⟨by kernel_rfl⟩
instance : T1 Tryz.prog 177 := ⟨⟨_, Tryz.underlying177, (fun _ h => nomatch h), (fun _ _ h => nomatch h)⟩, by kernel_rfl⟩
instance : TZero Tryz.prog 177 (.nilFunc) := ⟨by kernel_rfl⟩
instance : T1 Tryz.prog 186 := ⟨⟨_, Tryz.underlying186, (fun _ h => nomatch h), (fun _ _ h => nomatch h)⟩, by kernel_rfl⟩
instance : TZero Tryz.prog 186 (.nilFunc) := ⟨by kernel_rfl⟩
instance : T1 Tryz.prog 187 := ⟨⟨_, Tryz.underlying187, (fun _ h => nomatch h), (fun _ _ h => nomatch h)⟩, by kernel_rfl⟩
instance : TZero Tryz.prog 187 (.nilFunc) := ⟨by kernel_rfl⟩
instance : T1 Tryz.prog 188 := ⟨⟨_, Tryz.underlying188, (fun _ h => nomatch h), (fun _ _ h => nomatch h)⟩, by kernel_rfl⟩
instance : TZero Tryz.prog 188 (.nilFunc) := ⟨by kernel_rfl⟩
instance : T1 Tryz.prog 189 := ⟨⟨_, Tryz.underlying189, (fun _ h => nomatch h), (fun _ _ h => nomatch h)⟩, by kernel_rfl⟩
instance : TZero Tryz.prog 189 (.nilFunc) := ⟨by kernel_rfl⟩
instance : T1 Tryz.prog 190 := ⟨⟨_, Tryz.underlying190, (fun _ h => nomatch h), (fun _ _ h => nomatch h)⟩, by kernel_rfl⟩
instance : TZero Tryz.prog 190 (.nilFunc) := ⟨by kernel_rfl⟩
instance : T1 Tryz.prog 191 := ⟨⟨_, Tryz.underlying191, (fun _ h => nomatch h), (fun _ _ h => nomatch h)⟩, by kernel_rfl⟩
instance : TZero Tryz.prog 191 (.slice none 0 0) := ⟨by kernel_rfl⟩
instance : TSlice Tryz.prog 191 193 9 88 := ⟨Tryz.underlying191, by kernel_rfl⟩
instance : TN Tryz.prog 201 4 := ⟨.inl ⟨_, Tryz.underlying201⟩, by kernel_rfl⟩
instance : TZero Tryz.prog 201 (.agg #[.int .i64 0, .slice none 0 0, .int .i64 0, .slice none 0 0]) := ⟨by kernel_rfl⟩
instance : TBuild Tryz.prog 201 [(0, 1), (1, 1), (2, 1), (3, 1)] := ⟨_, Tryz.underlying201, by kernel_rfl⟩
instance : TField Tryz.prog 201 0 0 := ⟨_, _, Tryz.underlying201, rfl, rfl, 1, by kernel_rfl, by decide⟩
instance : TPart Tryz.prog 201 0 0 none := ⟨_, _, Tryz.underlying201, rfl, rfl, (inferInstance : T1 Tryz.prog 3)⟩
instance : TField Tryz.prog 201 1 1 := ⟨_, _, Tryz.underlying201, rfl, rfl, 1, by kernel_rfl, by decide⟩
instance : TPart Tryz.prog 201 1 1 none := ⟨_, _, Tryz.underlying201, rfl, rfl, (inferInstance : T1 Tryz.prog 46)⟩
instance : TField Tryz.prog 201 2 2 := ⟨_, _, Tryz.underlying201, rfl, rfl, 1, by kernel_rfl, by decide⟩
instance : TPart Tryz.prog 201 2 2 none := ⟨_, _, Tryz.underlying201, rfl, rfl, (inferInstance : T1 Tryz.prog 3)⟩
instance : TField Tryz.prog 201 3 3 := ⟨_, _, Tryz.underlying201, rfl, rfl, 1, by kernel_rfl, by decide⟩
instance : TPart Tryz.prog 201 3 3 none := ⟨_, _, Tryz.underlying201, rfl, rfl, (inferInstance : T1 Tryz.prog 46)⟩
instance : TN Tryz.prog 207 2 := ⟨.inl ⟨_, Tryz.underlying207⟩, by kernel_rfl⟩
instance : TZero Tryz.prog 207 (.agg #[.map none, .int .i64 0]) := ⟨by kernel_rfl⟩
instance : TBuild Tryz.prog 207 [(0, 1), (1, 1)] := ⟨_, Tryz.underlying207, by kernel_rfl⟩
instance : TField Tryz.prog 207 0 0 := ⟨_, _, Tryz.underlying207, rfl, rfl, 1, by kernel_rfl, by decide⟩
instance : TPart Tryz.prog 207 0 0 none := ⟨_, _, Tryz.underlying207, rfl, rfl, (inferInstance : T1 Tryz.prog 78)⟩
instance : TField Tryz.prog 207 1 1 := ⟨_, _, Tryz.underlying207, rfl, rfl, 1, by kernel_rfl, by decide⟩
instance : TPart Tryz.prog 207 1 1 none := ⟨_, _, Tryz.underlying207, rfl, rfl, (inferInstance : T1 Tryz.prog 3)⟩
instance : T1 Tryz.prog 210 := ⟨⟨_, Tryz.underlying210, (fun _ h => nomatch h), (fun _ _ h => nomatch h)⟩, by kernel_rfl⟩
instance : TZero Tryz.prog 210 (.int .u64 0) := ⟨by kernel_rfl⟩
instance : TInt Tryz.prog 210 .u64 := ⟨Tryz.underlying210⟩
instance : T1 Tryz.prog 211 := ⟨⟨_, Tryz.underlying211, (fun _ h => nomatch h), (fun _ _ h => nomatch h)⟩, by kernel_rfl⟩
instance : TZero Tryz.prog 211 (.pointer none) := ⟨by kernel_rfl⟩
instance : TPtr Tryz.prog 211 := ⟨⟨_, Tryz.underlying211⟩⟩
instance : TN Tryz.prog 213 4 := ⟨.inl ⟨_, Tryz.underlying213⟩, by kernel_rfl⟩
instance : TZero Tryz.prog 213 (.agg #[.slice none 0 0, .int .i64 0, .slice none 0 0, .pointer none]) := ⟨by kernel_rfl⟩
instance : TBuild Tryz.prog 213 [(0, 1), (1, 1), (2, 1), (3, 1)] := ⟨_, Tryz.underlying213, by kernel_rfl⟩
instance : TField Tryz.prog 213 0 0 := ⟨_, _, Tryz.underlying213, rfl, rfl, 1, by kernel_rfl, by decide⟩
instance : TPart Tryz.prog 213 0 0 none := ⟨_, _, Tryz.underlying213, rfl, rfl, (inferInstance : T1 Tryz.prog 115)⟩
instance : TField Tryz.prog 213 1 1 := ⟨_, _, Tryz.underlying213, rfl, rfl, 1, by kernel_rfl, by decide⟩
instance : TPart Tryz.prog 213 1 1 none := ⟨_, _, Tryz.underlying213, rfl, rfl, (inferInstance : T1 Tryz.prog 3)⟩
instance : TField Tryz.prog 213 2 2 := ⟨_, _, Tryz.underlying213, rfl, rfl, 1, by kernel_rfl, by decide⟩
instance : TPart Tryz.prog 213 2 2 none := ⟨_, _, Tryz.underlying213, rfl, rfl, (inferInstance : T1 Tryz.prog 46)⟩
instance : TField Tryz.prog 213 3 3 := ⟨_, _, Tryz.underlying213, rfl, rfl, 1, by kernel_rfl, by decide⟩
instance : TPart Tryz.prog 213 3 3 none := ⟨_, _, Tryz.underlying213, rfl, rfl, (inferInstance : T1 Tryz.prog 211)⟩
instance : T1 Tryz.prog 214 := ⟨⟨_, Tryz.underlying214, (fun _ h => nomatch h), (fun _ _ h => nomatch h)⟩, by kernel_rfl⟩
instance : TZero Tryz.prog 214 (.slice none 0 0) := ⟨by kernel_rfl⟩
instance : TSlice Tryz.prog 214 223 6 40 := ⟨Tryz.underlying214, by kernel_rfl⟩
instance : TN Tryz.prog 216 3 := ⟨.inl ⟨_, Tryz.underlying216⟩, by kernel_rfl⟩
instance : TZero Tryz.prog 216 (.agg #[.slice none 0 0, .pointer none, .int .i64 0]) := ⟨by kernel_rfl⟩
instance : TBuild Tryz.prog 216 [(0, 1), (1, 1), (2, 1)] := ⟨_, Tryz.underlying216, by kernel_rfl⟩
instance : TField Tryz.prog 216 0 0 := ⟨_, _, Tryz.underlying216, rfl, rfl, 1, by kernel_rfl, by decide⟩
instance : TPart Tryz.prog 216 0 0 none := ⟨_, _, Tryz.underlying216, rfl, rfl, (inferInstance : T1 Tryz.prog 214)⟩
instance : TField Tryz.prog 216 1 1 := ⟨_, _, Tryz.underlying216, rfl, rfl, 1, by kernel_rfl, by decide⟩
instance : TPart Tryz.prog 216 1 1 none := ⟨_, _, Tryz.underlying216, rfl, rfl, (inferInstance : T1 Tryz.prog 211)⟩
instance : TField Tryz.prog 216 2 2 := ⟨_, _, Tryz.underlying216, rfl, rfl, 1, by kernel_rfl, by decide⟩
instance : TPart Tryz.prog 216 2 2 none := ⟨_, _, Tryz.underlying216, rfl, rfl, (inferInstance : T1 Tryz.prog 3)⟩
instance : T1 Tryz.prog 217 := ⟨⟨_, Tryz.underlying217, (fun _ h => nomatch h), (fun _ _ h => nomatch h)⟩, by kernel_rfl⟩
instance : TZero Tryz.prog 217 (.map none) := ⟨by kernel_rfl⟩
instance : TMap Tryz.prog 217 166 3 := ⟨Tryz.underlying217⟩
instance : T1 Tryz.prog 218 := ⟨⟨_, Tryz.underlying218, (fun _ h => nomatch h), (fun _ _ h => nomatch h)⟩, by kernel_rfl⟩
instance : TZero Tryz.prog 218 (.map none) := ⟨by kernel_rfl⟩
instance : TMap Tryz.prog 218 3 217 := ⟨Tryz.underlying218⟩
instance : TN Tryz.prog 220 3 := ⟨.inl ⟨_, Tryz.underlying220⟩, by kernel_rfl⟩
instance : TZero Tryz.prog 220 (.agg #[.map none, .map none, .map none]) := ⟨by kernel_rfl⟩
instance : TBuild Tryz.prog 220 [(0, 1), (1, 1), (2, 1)] := ⟨_, Tryz.underlying220, by kernel_rfl⟩
instance : TField Tryz.prog 220 0 0 := ⟨_, _, Tryz.underlying220, rfl, rfl, 1, by kernel_rfl, by decide⟩
instance : TPart Tryz.prog 220 0 0 none := ⟨_, _, Tryz.underlying220, rfl, rfl, (inferInstance : T1 Tryz.prog 217)⟩
instance : TField Tryz.prog 220 1 1 := ⟨_, _, Tryz.underlying220, rfl, rfl, 1, by kernel_rfl, by decide⟩
instance : TPart Tryz.prog 220 1 1 none := ⟨_, _, Tryz.underlying220, rfl, rfl, (inferInstance : T1 Tryz.prog 218)⟩
instance : TField Tryz.prog 220 2 2 := ⟨_, _, Tryz.underlying220, rfl, rfl, 1, by kernel_rfl, by decide⟩
instance : TPart Tryz.prog 220 2 2 none := ⟨_, _, Tryz.underlying220, rfl, rfl, (inferInstance : T1 Tryz.prog 218)⟩
instance : T1 Tryz.prog 221 := ⟨⟨_, Tryz.underlying221, (fun _ h => nomatch h), (fun _ _ h => nomatch h)⟩, by kernel_rfl⟩
instance : TZero Tryz.prog 221 (.nilFunc) := ⟨by kernel_rfl⟩
instance : TN Tryz.prog 223 6 := ⟨.inl ⟨_, Tryz.underlying223⟩, by kernel_rfl⟩
instance : TZero Tryz.prog 223 (.agg #[.int .i64 0, .bool false, .int .i64 0, .int .i64 0, .bool false, .bool false]) := ⟨by kernel_rfl⟩
instance : TBuild Tryz.prog 223 [(0, 1), (1, 1), (2, 4)] := ⟨_, Tryz.underlying223, by kernel_rfl⟩
instance : TField Tryz.prog 223 0 0 := ⟨_, _, Tryz.underlying223, rfl, rfl, 1, by kernel_rfl, by decide⟩
instance : TPart Tryz.prog 223 0 0 none := ⟨_, _, Tryz.underlying223, rfl, rfl, (inferInstance : T1 Tryz.prog 3)⟩
instance : TField Tryz.prog 223 1 1 := ⟨_, _, Tryz.underlying223, rfl, rfl, 1, by kernel_rfl, by decide⟩
instance : TPart Tryz.prog 223 1 1 none := ⟨_, _, Tryz.underlying223, rfl, rfl, (inferInstance : T1 Tryz.prog 4)⟩
instance : TField Tryz.prog 223 2 2 := ⟨_, _, Tryz.underlying223, rfl, rfl, 4, by kernel_rfl, by decide⟩
instance : TPart Tryz.prog 223 2 2 (some 4) := ⟨_, _, Tryz.underlying223, rfl, rfl, (inferInstance : TN Tryz.prog 102 4)⟩
instance : T1 Tryz.prog 230 := ⟨⟨_, Tryz.underlying230, (fun _ h => nomatch h), (fun _ _ h => nomatch h)⟩, by kernel_rfl⟩
instance : TZero Tryz.prog 230 (.nilFunc) := ⟨by kernel_rfl⟩
instance : TN Tryz.prog 234 1 := ⟨.inl ⟨_, Tryz.underlying234⟩, by kernel_rfl⟩
instance : TZero Tryz.prog 234 (.agg #[.slice none 0 0]) := ⟨by kernel_rfl⟩
instance : TBuild Tryz.prog 234 [(0, 1)] := ⟨_, Tryz.underlying234, by kernel_rfl⟩
instance : TField Tryz.prog 234 0 0 := ⟨_, _, Tryz.underlying234, rfl, rfl, 1, by kernel_rfl, by decide⟩
instance : TPart Tryz.prog 234 0 0 none := ⟨_, _, Tryz.underlying234, rfl, rfl, (inferInstance : T1 Tryz.prog 46)⟩
instance : T1 Tryz.prog 239 := ⟨⟨_, Tryz.underlying239, (fun _ h => nomatch h), (fun _ _ h => nomatch h)⟩, by kernel_rfl⟩
instance : TZero Tryz.prog 239 (.nilFunc) := ⟨by kernel_rfl⟩
instance : T1 Tryz.prog 256 := ⟨⟨_, Tryz.underlying256, (fun _ h => nomatch h), (fun _ _ h => nomatch h)⟩, by kernel_rfl⟩
instance : TZero Tryz.prog 256 (.nilFunc) := ⟨by kernel_rfl⟩
instance : TN Tryz.prog 262 2 := ⟨.inl ⟨_, Tryz.underlying262⟩, by kernel_rfl⟩
instance : TZero Tryz.prog 262 (.agg #[.pointer none, .pointer none]) := ⟨by kernel_rfl⟩
instance : TBuild Tryz.prog 262 [(0, 1), (1, 1)] := ⟨_, Tryz.underlying262, by kernel_rfl⟩
instance : TField Tryz.prog 262 0 0 := ⟨_, _, Tryz.underlying262, rfl, rfl, 1, by kernel_rfl, by decide⟩
instance : TPart Tryz.prog 262 0 0 none := ⟨_, _, Tryz.underlying262, rfl, rfl, (inferInstance : T1 Tryz.prog 67)⟩
instance : TField Tryz.prog 262 1 1 := ⟨_, _, Tryz.underlying262, rfl, rfl, 1, by kernel_rfl, by decide⟩
instance : TPart Tryz.prog 262 1 1 none := ⟨_, _, Tryz.underlying262, rfl, rfl, (inferInstance : T1 Tryz.prog 68)⟩
instance : T1 Tryz.prog 267 := ⟨⟨_, Tryz.underlying267, (fun _ h => nomatch h), (fun _ _ h => nomatch h)⟩, by kernel_rfl⟩
instance : TZero Tryz.prog 267 (.slice none 0 0) := ⟨by kernel_rfl⟩
instance : TSlice Tryz.prog 267 271 2 16 := ⟨Tryz.underlying267, by kernel_rfl⟩
instance : TN Tryz.prog 269 5 := ⟨.inl ⟨_, Tryz.underlying269⟩, by kernel_rfl⟩
instance : TZero Tryz.prog 269 (.agg #[.pointer none, .int .i64 0, .slice none 0 0, .int .i64 0, .int .i64 0]) := ⟨by kernel_rfl⟩
instance : TBuild Tryz.prog 269 [(0, 1), (1, 1), (2, 1), (3, 1), (4, 1)] := ⟨_, Tryz.underlying269, by kernel_rfl⟩
instance : TField Tryz.prog 269 0 0 := ⟨_, _, Tryz.underlying269, rfl, rfl, 1, by kernel_rfl, by decide⟩
instance : TPart Tryz.prog 269 0 0 none := ⟨_, _, Tryz.underlying269, rfl, rfl, (inferInstance : T1 Tryz.prog 67)⟩
instance : TField Tryz.prog 269 1 1 := ⟨_, _, Tryz.underlying269, rfl, rfl, 1, by kernel_rfl, by decide⟩
instance : TPart Tryz.prog 269 1 1 none := ⟨_, _, Tryz.underlying269, rfl, rfl, (inferInstance : T1 Tryz.prog 3)⟩
instance : TField Tryz.prog 269 2 2 := ⟨_, _, Tryz.underlying269, rfl, rfl, 1, by kernel_rfl, by decide⟩
instance : TPart Tryz.prog 269 2 2 none := ⟨_, _, Tryz.underlying269, rfl, rfl, (inferInstance : T1 Tryz.prog 267)⟩
instance : TField Tryz.prog 269 3 3 := ⟨_, _, Tryz.underlying269, rfl, rfl, 1, by kernel_rfl, by decide⟩
instance : TPart Tryz.prog 269 3 3 none := ⟨_, _, Tryz.underlying269, rfl, rfl, (inferInstance : T1 Tryz.prog 3)⟩
instance : TField Tryz.prog 269 4 4 := ⟨_, _, Tryz.underlying269, rfl, rfl, 1, by kernel_rfl, by decide⟩
instance : TPart Tryz.prog 269 4 4 none := ⟨_, _, Tryz.underlying269, rfl, rfl, (inferInstance : T1 Tryz.prog 3)⟩
instance : TN Tryz.prog 271 2 := ⟨.inl ⟨_, Tryz.underlying271⟩, by kernel_rfl⟩
instance : TZero Tryz.prog 271 (.agg #[.int .i64 0, .int .i64 0]) := ⟨by kernel_rfl⟩
instance : TBuild Tryz.prog 271 [(0, 1), (1, 1)] := ⟨_, Tryz.underlying271, by kernel_rfl⟩
instance : TField Tryz.prog 271 0 0 := ⟨_, _, Tryz.underlying271, rfl, rfl, 1, by kernel_rfl, by decide⟩
instance : TPart Tryz.prog 271 0 0 none := ⟨_, _, Tryz.underlying271, rfl, rfl, (inferInstance : T1 Tryz.prog 3)⟩
instance : TField Tryz.prog 271 1 1 := ⟨_, _, Tryz.underlying271, rfl, rfl, 1, by kernel_rfl, by decide⟩
instance : TPart Tryz.prog 271 1 1 none := ⟨_, _, Tryz.underlying271, rfl, rfl, (inferInstance : T1 Tryz.prog 3)⟩
instance : TPair Tryz.prog 271 := ⟨⟨_, _, _, _, Tryz.underlying271, by decide, by decide, rfl, rfl, Tryz.underlying3, Tryz.underlying3⟩, fun f g h => by rw [Tryz.underlying271] at h; cases h; exact ⟨(inferInstance : T1 Tryz.prog 3), (inferInstance : T1 Tryz.prog 3)⟩, by kernel_rfl, by kernel_rfl⟩
instance : T1 Tryz.prog 288 := ⟨⟨_, Tryz.underlying288, (fun _ h => nomatch h), (fun _ _ h => nomatch h)⟩, by kernel_rfl⟩
instance : TZero Tryz.prog 288 (.nilFunc) := ⟨by kernel_rfl⟩
instance : TN Tryz.prog 303 3 := ⟨.inl ⟨_, Tryz.underlying303⟩, by kernel_rfl⟩
instance : TZero Tryz.prog 303 (.agg #[.int .i64 0, .slice none 0 0, .int .i64 0]) := ⟨by kernel_rfl⟩
instance : TBuild Tryz.prog 303 [(0, 1), (1, 1), (2, 1)] := ⟨_, Tryz.underlying303, by kernel_rfl⟩
instance : TField Tryz.prog 303 0 0 := ⟨_, _, Tryz.underlying303, rfl, rfl, 1, by kernel_rfl, by decide⟩
instance : TPart Tryz.prog 303 0 0 none := ⟨_, _, Tryz.underlying303, rfl, rfl, (inferInstance : T1 Tryz.prog 3)⟩
instance : TField Tryz.prog 303 1 1 := ⟨_, _, Tryz.underlying303, rfl, rfl, 1, by kernel_rfl, by decide⟩
instance : TPart Tryz.prog 303 1 1 none := ⟨_, _, Tryz.underlying303, rfl, rfl, (inferInstance : T1 Tryz.prog 115)⟩
instance : TField Tryz.prog 303 2 2 := ⟨_, _, Tryz.underlying303, rfl, rfl, 1, by kernel_rfl, by decide⟩
instance : TPart Tryz.prog 303 2 2 none := ⟨_, _, Tryz.underlying303, rfl, rfl, (inferInstance : T1 Tryz.prog 3)⟩
instance : T1 Tryz.prog 327 := ⟨⟨_, Tryz.underlying327, (fun _ h => nomatch h), (fun _ _ h => nomatch h)⟩, by kernel_rfl⟩
instance : TZero Tryz.prog 327 (.int .i64 0) := ⟨by kernel_rfl⟩
instance : TInt Tryz.prog 327 .i64 := ⟨Tryz.underlying327⟩
instance : T1 Tryz.prog 334 := ⟨⟨_, Tryz.underlying334, (fun _ h => nomatch h), (fun _ _ h => nomatch h)⟩, by kernel_rfl⟩
instance : TZero Tryz.prog 334 (.int .u32 0) := ⟨by kernel_rfl⟩
instance : TInt Tryz.prog 334 .u32 := ⟨Tryz.underlying334⟩
instance : TN Tryz.prog 354 1 := ⟨.inl ⟨_, Tryz.underlying354⟩, by kernel_rfl⟩
instance : TZero Tryz.prog 354 (.agg #[.slice none 0 0]) := ⟨by kernel_rfl⟩
instance : TBuild Tryz.prog 354 [(0, 1)] := ⟨_, Tryz.underlying354, by kernel_rfl⟩
instance : TField Tryz.prog 354 0 0 := ⟨_, _, Tryz.underlying354, rfl, rfl, 1, by kernel_rfl, by decide⟩
instance : TPart Tryz.prog 354 0 0 none := ⟨_, _, Tryz.underlying354, rfl, rfl, (inferInstance : T1 Tryz.prog 80)⟩
instance : TN Tryz.prog 390 2 := ⟨.inl ⟨_, Tryz.underlying390⟩, by kernel_rfl⟩
instance : TZero Tryz.prog 390 (.agg #[.int .i64 0, .int .i64 0]) := ⟨by kernel_rfl⟩
instance : TBuild Tryz.prog 390 [(0, 1), (1, 1)] := ⟨_, Tryz.underlying390, by kernel_rfl⟩
instance : TField Tryz.prog 390 0 0 := ⟨_, _, Tryz.underlying390, rfl, rfl, 1, by kernel_rfl, by decide⟩
instance : TPart Tryz.prog 390 0 0 none := ⟨_, _, Tryz.underlying390, rfl, rfl, (inferInstance : T1 Tryz.prog 3)⟩
instance : TField Tryz.prog 390 1 1 := ⟨_, _, Tryz.underlying390, rfl, rfl, 1, by kernel_rfl, by decide⟩
instance : TPart Tryz.prog 390 1 1 none := ⟨_, _, Tryz.underlying390, rfl, rfl, (inferInstance : T1 Tryz.prog 3)⟩
instance : TPair Tryz.prog 390 := ⟨⟨_, _, _, _, Tryz.underlying390, by decide, by decide, rfl, rfl, Tryz.underlying3, Tryz.underlying3⟩, fun f g h => by rw [Tryz.underlying390] at h; cases h; exact ⟨(inferInstance : T1 Tryz.prog 3), (inferInstance : T1 Tryz.prog 3)⟩, by kernel_rfl, by kernel_rfl⟩
instance : TN Tryz.prog 402 64 := ⟨.inr ⟨_, _, Tryz.underlying402⟩, by kernel_rfl⟩
instance : TZero Tryz.prog 402 (.agg #[.int .u8 0, .int .u8 0, .int .u8 0, .int .u8 0, .int .u8 0, .int .u8 0, .int .u8 0, .int .u8 0, .int .u8 0, .int .u8 0, .int .u8 0, .int .u8 0, .int .u8 0, .int .u8 0, .int .u8 0, .int .u8 0, .int .u8 0, .int .u8 0, .int .u8 0, .int .u8 0, .int .u8 0, .int .u8 0, .int .u8 0, .int .u8 0, .int .u8 0, .int .u8 0, .int .u8 0, .int .u8 0, .int .u8 0, .int .u8 0, .int .u8 0, .int .u8 0, .int .u8 0, .int .u8 0, .int .u8 0, .int .u8 0, .int .u8 0, .int .u8 0, .int .u8 0, .int .u8 0, .int .u8 0, .int .u8 0, .int .u8 0, .int .u8 0, .int .u8 0, .int .u8 0, .int .u8 0, .int .u8 0, .int .u8 0, .int .u8 0, .int .u8 0, .int .u8 0, .int .u8 0, .int .u8 0, .int .u8 0, .int .u8 0, .int .u8 0, .int .u8 0, .int .u8 0, .int .u8 0, .int .u8 0, .int .u8 0, .int .u8 0, .int .u8 0]) := ⟨by kernel_rfl⟩
instance : TArr Tryz.prog 402 64 5 1 := ⟨Tryz.underlying402, by kernel_rfl⟩
instance : TBody Tryz.prog 3 := ⟨_, Tryz.func3, by kernel_rfl, by kernel_rfl⟩
instance : TBody Tryz.prog 13 := ⟨_, Tryz.func13, by kernel_rfl, by kernel_rfl⟩
instance : TBody Tryz.prog 14 := ⟨_, Tryz.func14, by kernel_rfl, by kernel_rfl⟩
instance : TBody Tryz.prog 15 := ⟨_, Tryz.func15, by kernel_rfl, by kernel_rfl⟩
instance : TBody Tryz.prog 16 := ⟨_, Tryz.func16, by kernel_rfl, by kernel_rfl⟩
instance : TBody Tryz.prog 33 := ⟨_, Tryz.func33, by kernel_rfl, by kernel_rfl⟩
instance : TBody Tryz.prog 34 := ⟨_, Tryz.func34, by kernel_rfl, by kernel_rfl⟩
instance : TBody Tryz.prog 35 := ⟨_, Tryz.func35, by kernel_rfl, by kernel_rfl⟩
instance : TBody Tryz.prog 37 := ⟨_, Tryz.func37, by kernel_rfl, by kernel_rfl⟩
instance : TBody Tryz.prog 38 := ⟨_, Tryz.func38, by kernel_rfl, by kernel_rfl⟩
instance : TBody Tryz.prog 62 := ⟨_, Tryz.func62, by kernel_rfl, by kernel_rfl⟩
instance : TBody Tryz.prog 63 := ⟨_, Tryz.func63, by kernel_rfl, by kernel_rfl⟩
instance : TBody Tryz.prog 64 := ⟨_, Tryz.func64, by kernel_rfl, by kernel_rfl⟩
instance : TBody Tryz.prog 65 := ⟨_, Tryz.func65, by kernel_rfl, by kernel_rfl⟩
instance : TBody Tryz.prog 73 := ⟨_, Tryz.func73, by kernel_rfl, by kernel_rfl⟩
instance : TBody Tryz.prog 74 := ⟨_, Tryz.func74, by kernel_rfl, by kernel_rfl⟩
instance : TBody Tryz.prog 75 := ⟨_, Tryz.func75, by kernel_rfl, by kernel_rfl⟩
instance : TBody Tryz.prog 79 := ⟨_, Tryz.func79, by kernel_rfl, by kernel_rfl⟩
instance : TBody Tryz.prog 103 := ⟨_, Tryz.func103, by kernel_rfl, by kernel_rfl⟩
instance : TBody Tryz.prog 123 := ⟨_, Tryz.func123, by kernel_rfl, by kernel_rfl⟩
instance : TBody Tryz.prog 124 := ⟨_, Tryz.func124, by kernel_rfl, by kernel_rfl⟩
instance : TBody Tryz.prog 125 := ⟨_, Tryz.func125, by kernel_rfl, by kernel_rfl⟩
instance : TBody Tryz.prog 161 := ⟨_, Tryz.func161, by kernel_rfl, by kernel_rfl⟩
instance : TBody Tryz.prog 162 := ⟨_, Tryz.func162, by kernel_rfl, by kernel_rfl⟩
instance : TBody Tryz.prog 186 := ⟨_, Tryz.func186, by kernel_rfl, by kernel_rfl⟩
instance : TBody Tryz.prog 187 := ⟨_, Tryz.func187, by kernel_rfl, by kernel_rfl⟩
instance : TBody Tryz.prog 188 := ⟨_, Tryz.func188, by kernel_rfl, by kernel_rfl⟩
instance : TBody Tryz.prog 189 := ⟨_, Tryz.func189, by kernel_rfl, by kernel_rfl⟩
instance : TBody Tryz.prog 190 := ⟨_, Tryz.func190, by kernel_rfl, by kernel_rfl⟩
instance : TBody Tryz.prog 191 := ⟨_, Tryz.func191, by kernel_rfl, by kernel_rfl⟩
instance : TBody Tryz.prog 210 := ⟨_, Tryz.func210, by kernel_rfl, by kernel_rfl⟩
instance : TBody Tryz.prog 211 := ⟨_, Tryz.func211, by kernel_rfl, by kernel_rfl⟩
instance : TBody Tryz.prog 230 := ⟨_, Tryz.func230, by kernel_rfl, by kernel_rfl⟩
instance : TBody Tryz.prog 239 := ⟨_, Tryz.func239, by kernel_rfl, by kernel_rfl⟩
instance : TBody Tryz.prog 256 := ⟨_, Tryz.func256, by kernel_rfl, by kernel_rfl⟩
instance : TBody Tryz.prog 288 := ⟨_, Tryz.func288, by kernel_rfl, by kernel_rfl⟩
theorem mixed : Tryz.prog.follows .mixedOrders = true := by kernel_rfl
end Go.Proofs.YtipelpbkeiphmaaGreatDoor
namespace Go.SL

theorem shr_nat {k : IntKind} {a b : Nat} (hb : b < 64) (hk : IntKind.bits k = 64) : shrI k a b = ((a / 2 ^ b : Nat) : Int) := by
  unfold shrI
  have hm : min (b : Int).toNat (IntKind.bits k) = b := by rw [hk]; simp; omega
  rw [hm, Int.fdiv_eq_ediv_of_nonneg _ (by exact_mod_cast Nat.zero_le _)]
  simp

/-! ### A part of a word -/

end Go.SL
namespace Go.SL

theorem Reads.of_get {c : List Value} : ∀ {vs : List Value} {o : Nat}, (∀ j v, vs[j]? = some v → c[o + j]? = some v) → Reads c o vs.length vs
  | [], o, _ => .nil o
  | v :: vs, o, h => .cons (by simpa using h 0 v rfl) (Reads.of_get fun j u hj => by
    have := h (j + 1) u (by simpa using hj)
    rw [show o + 1 + j = o + (j + 1) by omega]
    exact this)
theorem Reads.part {c cs es : List Value} {o n i : Nat} (h : Reads c o n cs) (he : ∀ j v, es[j]? = some v → cs[i + j]? = some v) : Reads c (o + i) es.length es :=
  Reads.of_get fun j v hj => by
    have := h.get (i + j) v (he j v hj)
    rw [Nat.add_assoc]
    exact this

/-- A slice that can be read: of m elements of k cells each, these. -/
def RdS (l : List HProp) (v : Value) (m k : Nat) (cs : List Value) : Prop :=
  cs.length = m * k ∧ ∃ ad cap, v = .slice ad m cap ∧ (m = 0 ∨ ∃ b o E fz c, ad = some ⟨b, o, none⟩ ∧ At b (.cells (List.toArray c) E fz) l ∧ Reads c o (m * k) cs)

theorem RdS.there {A : HProp} {l : List HProp} {v : Value} {m k : Nat} {cs : List Value} (h : RdS l v m k cs) : RdS (A :: l) v m k cs := by
  obtain ⟨h0, ad, cap, rfl, h⟩ := h
  refine ⟨h0, ad, cap, rfl, ?_⟩
  rcases h with h | ⟨b, o, E, fz, c, h1, h2, h3⟩
  · exact .inl h
  · exact .inr ⟨b, o, E, fz, c, h1, At.there (i := h2), h3⟩

section
variable {P : Program} {n : Nat} {r : Option Nat} {ops : Array Oper} {Q : Post} {ms : List Nat} {σ : Env} {w : World} {rest : List Oper} {o : Oper} {K : Env → World → Prop} {l l' : List HProp}
variable {u t s : TypeId} {p : String} {af : Array Edge} {g : Option (Nat × Bool)} {d : Option Tmp} {x y z : Operand}

/-! ### append of such a slice; '[]T{}' -/

/-! ### Parts of a slice; clear -/

end
end Go.SL
namespace Go.SL
section
variable {P : Program} {n : Nat} {r : Option Nat} {σ : Env} {w : World} {K : Env → World → Prop} {l : List HProp}
variable {u t : TypeId} {p : String} {af : Array Edge} {g : Option (Nat × Bool)} {d : Option Tmp} {x y : Operand}

end
end Go.SL
namespace Go.Proofs
open Go.Shelf
def Tryz.laysLen_ren : Go.Shelf.Ren := ⟨fun | 129 => 239 | n => n, fun | 53 => 127 | 3 => 3 | 4 => 4 | 46 => 210 | 5 => 5 | 9 => 9 | n => n, fun | n => n⟩
theorem Tryz.laysLen : Go.Proofs.Lays.n129 Tryz.prog Tryz.laysLen_ren := {
  mixed := by kernel_rfl
  f129 := Tryz.func239.trans (congrArg some (by kernel_rfl))
  t3 := Tryz.underlying3
  a3 := Tryz.isAgg3
  z3 := Tryz.sizeOf3
  v3 := Tryz.zeroValue3
  t4 := Tryz.underlying4
  a4 := Tryz.isAgg4
  z4 := Tryz.sizeOf4
  v4 := Tryz.zeroValue4
  t5 := Tryz.underlying5
  a5 := Tryz.isAgg5
  z5 := Tryz.sizeOf5
  v5 := Tryz.zeroValue5
  t9 := Tryz.underlying9
  a9 := Tryz.isAgg9
  z9 := Tryz.sizeOf9
  v9 := Tryz.zeroValue9
  t46 := Tryz.underlying210
  a46 := Tryz.isAgg210
  z46 := Tryz.sizeOf210
  v46 := Tryz.zeroValue210
  t53 := Tryz.underlying127
  a53 := Tryz.isAgg127
  z53 := Tryz.sizeOf127
  v53 := Tryz.zeroValue127 }
def Tryz.laysTz_ren : Go.Shelf.Ren := ⟨fun | 29 => 288 | n => n, fun | 22 => 127 | 3 => 3 | 4 => 4 | 25 => 210 | 54 => 402 | 0 => 0 | 5 => 5 | n => n, fun | 1 => 0 | n => n⟩
theorem Tryz.laysTz : Go.Proofs.Lays7.n29 Tryz.prog Tryz.laysTz_ren := {
  mixed := by kernel_rfl
  f29 := Tryz.func288.trans (congrArg some (by kernel_rfl))
  t0 := Tryz.underlying0
  a0 := Tryz.isAgg0
  z0 := Tryz.sizeOf0
  v0 := Tryz.zeroValue0
  i0 := by kernel_rfl
  t3 := Tryz.underlying3
  a3 := Tryz.isAgg3
  z3 := Tryz.sizeOf3
  v3 := Tryz.zeroValue3
  i3 := by kernel_rfl
  t4 := Tryz.underlying4
  a4 := Tryz.isAgg4
  z4 := Tryz.sizeOf4
  v4 := Tryz.zeroValue4
  i4 := by kernel_rfl
  t5 := Tryz.underlying5
  a5 := Tryz.isAgg5
  z5 := Tryz.sizeOf5
  v5 := Tryz.zeroValue5
  i5 := by kernel_rfl
  t22 := Tryz.underlying127
  a22 := Tryz.isAgg127
  z22 := Tryz.sizeOf127
  v22 := Tryz.zeroValue127
  i22 := by kernel_rfl
  t25 := Tryz.underlying210
  a25 := Tryz.isAgg210
  z25 := Tryz.sizeOf210
  v25 := Tryz.zeroValue210
  i25 := by kernel_rfl
  t54 := Tryz.underlying402
  a54 := Tryz.isAgg402
  z54 := Tryz.sizeOf402
  g1 := by kernel_rfl }
end Go.Proofs
