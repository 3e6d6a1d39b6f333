/- Cells: what is proved on the way: every input of the statement; no condition. Texts joined: SlV InE SlW SlX SlY SlT Sri Srs SlS Srt SlI SlZ Dic RemA FldA FldB FldC HdrA HdrB BmpA BmpB StoA StoB LayP LayA LayB LayC. -/
import Derived.Test.YtipelpbkeiphmaaGreatDoorAac
import Derived.Laws.MakeOwn
import Derived.Shelf.SlGeneric
import Derived.Shelf.Spec.SlicesInsert
import Derived.Shelf.Spec.SlicesInsertGrow
import Derived.Shelf.Slices.SearchI
import Derived.Shelf.Slices.Empties
import Derived.Ground.Names2Prog
import Derived.Test.YtipelpbkeiphmaaGreatDoorProg
import Derived.Shelf.Sort.Plain
import Derived.Shelf.Slices.In.SortNone
import Derived.Ground.NamesProg
import Derived.Test.YtipelpbkeiphmaaGreatDoorAab
import Derived.Shelf.SlSortCmp.NoneTotal
import Derived.Ground.SlsfProg
import Derived.RangeFuncNested
import Derived.WideKeyArgs
import Derived.ChangeOld
import Derived.OpenShut
import Derived.ProofKit
import Derived.Deep.Slices
import Derived.Test.YtipelpbkeiphmaaGreatDoorAaa
set_option linter.unusedVariables false
set_option linter.unusedSimpArgs false
set_option linter.unusedSectionVars false
namespace Go.SL

inductive SK where
  | i
  | b
def sfit : SK → Value → Bool
  | .i, .int .i64 _ => true
  | .b, .bool _ => true
  | _, _ => false
def fits : List SK → List Value → Bool
  | [], [] => true
  | k :: ks, v :: vs => sfit k v && fits ks vs
  | _, _ => false
@[reducible] def seq1 : Value → Value → Bool
  | .int _ a, .int _ b => a == b
  | .bool a, .bool b => a == b
  | _, _ => false
@[reducible] def veq : List Value → List Value → Bool
  | [], [] => true
  | x :: xs, y :: ys => seq1 x y && veq xs ys
  | _, _ => false

theorem fits_length : ∀ {ks : List SK} {vs : List Value}, fits ks vs = true → vs.length = ks.length
  | [], [], _ => rfl
  | [], _ :: _, h => by cases h
  | _ :: _, [], h => by cases h
  | _ :: ks, _ :: vs, h => by
    simp only [fits, Bool.and_eq_true] at h
    simp [fits_length h.2]

theorem fits_split : ∀ {ks : List SK} {ks' : List SK} {vs : List Value}, fits (ks ++ ks') vs = true → fits ks (vs.take ks.length) = true ∧ fits ks' (vs.drop ks.length) = true
  | [], ks', vs, h => by simpa [fits] using h
  | k :: ks, ks', [], h => by cases h
  | k :: ks, ks', v :: vs, h => by
    simp only [List.cons_append, fits, Bool.and_eq_true] at h
    have := fits_split h.2
    simp [fits, h.1, this]

theorem veq_split : ∀ (n : Nat) (xs ys : List Value), n ≤ xs.length → n ≤ ys.length → veq xs ys = (veq (xs.take n) (ys.take n) && veq (xs.drop n) (ys.drop n))
  | 0, xs, ys, _, _ => by simp [veq]
  | n + 1, [], ys, h, _ => by simp at h
  | n + 1, _ :: _, [], _, h => by simp at h
  | n + 1, x :: xs, y :: ys, h, h' => by
    have := veq_split n xs ys (by simpa using h) (by simpa using h')
    simp [veq, this, Bool.and_assoc]

/-- Two such structs are compared cell by cell. -/
def SemEq (P : Program) (t : TypeId) (ks : List SK) (d : Nat) : Prop :=
  ∀ k, d ≤ k → ∀ (w : World) (xs ys : List Value), fits ks xs = true → fits ks ys = true → (Op.equalIn k t (.agg xs.toArray) (.agg ys.toArray)).run P w = .ok (veq xs ys) w
def ScEq (P : Program) (t : TypeId) : SK → Prop
  | .i => ∃ q, P.underlying t = some (.int q)
  | .b => P.underlying t = some .bool

inductive FsEq (P : Program) : List Field → Nat → List SK → Nat → Prop where
  | nil {off d : Nat} : FsEq P [] off [] d
  | one {f : Field} {fs : List Field} {off d : Nat} {k : SK} {ks : List SK} (h1 : f.name ≠ "_") (h2 : f.offset = off) (h3 : T1 P f.type) (h4 : ScEq P f.type k) (h5 : 1 ≤ d) (h : FsEq P fs (off + 1) ks d) : FsEq P (f :: fs) off (k :: ks) d
  | agg {f : Field} {fs : List Field} {off d d' n : Nat} {ks ks' kk : List SK} (h1 : f.name ≠ "_") (h2 : f.offset = off) (h3 : TN P f.type n) (h4 : SemEq P f.type ks d') (h5 : d' ≤ d) (h6 : ks.length = n) (h7 : kk = ks ++ ks') (h : FsEq P fs (off + n) ks' d) : FsEq P (f :: fs) off kk d

theorem Reads.take' {c : List Value} {o n m : Nat} {l : List Value} (h : Reads c o n l) (hm : m ≤ n) : Reads c o m (l.take m) := by
  have hl := h.len
  have e : (l.take m).length = m := by simp; omega
  have := Reads.of_get (c := c) (vs := l.take m) (o := o) fun j v hj => by
    have : l[j]? = some v := by
      rw [List.getElem?_take] at hj
      split at hj
      · exact hj
      · cases hj
    exact h.get j v this
  rw [e] at this
  exact this
theorem Reads.drop' {c : List Value} {o n m : Nat} {l : List Value} (h : Reads c o n l) (hm : m ≤ n) : Reads c (o + m) (n - m) (l.drop m) := by
  have hl := h.len
  have e : (l.drop m).length = n - m := by simp; omega
  have := Reads.of_get (c := c) (vs := l.drop m) (o := o + m) fun j v hj => by
    rw [List.getElem?_drop] at hj
    have := h.get (m + j) v hj
    rw [Nat.add_assoc]
    exact this
  rw [e] at this
  exact this

theorem run_eqFs {P : Program} {fs : List Field} {off d : Nat} {ks : List SK} (h : FsEq P fs off ks d) : ∀ (k : Nat), d ≤ k → ∀ (w : World) (cx cy xs ys : List Value), Reads cx off ks.length xs → Reads cy off ks.length ys → fits ks xs = true → fits ks ys = true →
    (Op.eqFields k cx.toArray cy.toArray fs).run P w = .ok (veq xs ys) w := by
  induction h with
  | nil =>
    intro k hk w cx cy xs ys hx hy fx fy
    have e1 := fits_length fx
    have e2 := fits_length fy
    have : xs = [] := List.eq_nil_of_length_eq_zero e1
    have : ys = [] := List.eq_nil_of_length_eq_zero e2
    subst xs ys
    rfl
  | @one f fs off d q ks h1 h2 h3 h4 h5 h ih =>
    intro k hk w cx cy xs ys hx hy fx fy
    cases xs with
    | nil => cases fx
    | cons x xs =>
    cases ys with
    | nil => cases fy
    | cons y ys =>
    have gx := hx.get 0 x rfl
    have gy := hy.get 0 y rfl
    rw [Nat.add_zero] at gx gy
    have rx := hx.drop' (m := 1) (by simp)
    have ry := hy.drop' (m := 1) (by simp)
    simp only [List.length_cons, Nat.add_sub_cancel, List.drop_succ_cons, List.drop_zero] at rx ry
    simp only [fits, Bool.and_eq_true] at fx fy
    have e1 : (Op.equalIn k f.type x y).run P w = .ok (seq1 x y) w := by
      obtain ⟨k, rfl⟩ : ∃ j, k = j + 1 := ⟨k - 1, by omega⟩
      cases q with
      | i =>
        obtain ⟨q, hq⟩ := h4
        obtain ⟨a, rfl⟩ : ∃ a, x = .int .i64 a := by
          have := fx.1
          unfold sfit at this
          split at this <;> simp_all
        obtain ⟨b, rfl⟩ : ∃ a, y = .int .i64 a := by
          have := fy.1
          unfold sfit at this
          split at this <;> simp_all
        exact run_equalIn_int w k _ _ _ _ _ hq
      | b =>
        obtain ⟨a, rfl⟩ : ∃ a, x = .bool a := by
          have := fx.1
          unfold sfit at this
          split at this <;> simp_all
        obtain ⟨b, rfl⟩ : ∃ a, y = .bool a := by
          have := fy.1
          unfold sfit at this
          split at this <;> simp_all
        exact run_equalIn_bool w k _ _ _ h4
    have e2 := ih k hk w cx cy xs ys rx ry fx.2 fy.2
    simp only [Op.eqFields, h1, ne_eq, not_false_eq_true, if_true, Sem.run_bind, h2, part1 h3 gx, part1 h3 gy, Result.andThen_ok, e1, veq]
    cases hs : seq1 x y
    · simp
    · simp [e2]
  | @agg f fs off d d' n ks ks' kk h1 h2 h3 h4 h5 h6 h7 h ih =>
    subst h7
    intro k hk w cx cy xs ys hx hy fx fy
    have lx := fits_length fx
    have ly := fits_length fy
    rw [List.length_append] at lx ly hx hy
    have sx := fits_split fx
    have sy := fits_split fy
    rw [h6] at sx sy lx ly hx hy
    have px := partN (w := w) h3 (hx.take' (m := n) (by omega))
    have py := partN (w := w) h3 (hy.take' (m := n) (by omega))
    have e1 := h4 k (by omega) w _ _ sx.1 sy.1
    have rx := hx.drop' (m := n) (by omega)
    have ry := hy.drop' (m := n) (by omega)
    rw [show n + ks'.length - n = ks'.length by omega] at rx ry
    have e2 := ih k hk w cx cy _ _ rx ry sx.2 sy.2
    rw [veq_split n xs ys (by omega) (by omega)]
    simp only [Op.eqFields, h1, ne_eq, not_false_eq_true, if_true, Sem.run_bind, h2, px, py, Result.andThen_ok, e1]
    cases hs : veq (xs.take n) (ys.take n)
    · simp
    · simp [e2]

theorem semEq_of {P : Program} {t : TypeId} {fs : Array Field} {ks : List SK} {d : Nat} (h1 : P.underlying t = some (.struct fs)) (h2 : P.stoodInHeld t = false) (h : FsEq P fs.toList 0 ks d) : SemEq P t ks (d + 1) := by
  intro k hk w xs ys fx fy
  obtain ⟨k, rfl⟩ : ∃ j, k = j + 1 := ⟨k - 1, by omega⟩
  have hf : P.fieldsOf t = fs := by simp [Program.fieldsOf, h1]
  rw [run_equalIn_struct w k t _ _ (by rw [hf]; exact h1) h2, hf]
  have whole : ∀ (c : List Value), c.length = ks.length → Reads c 0 ks.length c := fun c hc => by
    rw [← hc]
    exact Reads.of_get fun j v hj => by rw [Nat.zero_add]; exact hj
  exact run_eqFs h k (by omega) w xs ys xs ys (whole _ (fits_length fx)) (whole _ (fits_length fy)) fx fy

class TAgg (P : Program) (t : TypeId) (ks : outParam (List SK)) : Prop where
  sem : ∃ d, d ≤ 10000 ∧ SemEq P t ks d
  guard : P.eqGuardType P.depth t = false

section
variable {P : Program} {n : Nat} {r : Option Nat} {ops : Array Oper} {Q : Post} {ms : List Nat} {σ : Env} {w : World} {rest : List Oper} {o : Oper} {K : Env → World → Prop} {l l' : List HProp}
variable {ivs : List (List Nat × (World → Prop))} {T : Env → World → Prop} {f : Nat} {L : Array Bool}
variable {u t s : TypeId} {p : String} {af : Array Edge} {g : Option (Nat × Bool)} {d : Option Tmp} {x y z : Operand} {ks : List SK}

theorem run_eqAgg (h : TAgg P t ks) (op : BinOp) (xs ys : List Value) (X Y : Operand) (ho : op = .eql ∨ op = .neq) (fx : fits ks xs = true) (fy : fits ks ys = true) :
    (do eqGuard op t X Y (.agg xs.toArray) (.agg ys.toArray); binOp op t (.agg xs.toArray) (.agg ys.toArray) : Sem Value).run P w = .ok (.bool (if isEql op then veq xs ys else !veq xs ys)) w := by
  have h0 := run_eqGuard_agg (P := P) w op t X Y xs.toArray ys.toArray h.guard
  obtain ⟨d, hd, hs⟩ := h.sem
  have h1 := hs 10000 hd w xs ys fx fy
  simp only [Sem.run_bind, h0, Result.andThen_ok]
  rcases ho with rfl | rfl
  · rw [run_eql_struct, h1]; rfl
  · rw [run_neq_struct, h1]; rfl

theorem St_eqAgg {op : BinOp} {yt : TypeId} {xs ys : List Value} [h : TAgg P t ks] (hx : ev σ x = .agg xs.toArray) (hy : ev σ y = .agg ys.toArray) (fx : fits ks xs = true) (fy : fits ks ys = true) (ho : op = .eql ∨ op = .neq) (hd : okd n d = true)
    (k : K (put σ d (.bool (if isEql op then veq xs ys else !veq xs ys))) w) : St P n r ⟨d, .binOp op t x y yt, u, p, af, g⟩ σ w K :=
  St_value hd (fun c e => by cases e) (by simp only [execOp, hx, hy, Sem.run_bind]; rw [← Sem.run_bind, run_eqAgg h op xs ys x y ho fx fy]; rfl) k

/-- Two are ready, in either order. -/
theorem A_two {o o' : Oper} (i j : Nat) (hi : ops[i]? = some o) (hj : ops[j]? = some o') (hr : Region.ready .any ops L = [i, j]) (hI : InvL ivs L w) (hg : Wants ops σ o true) (hg' : Wants ops σ o' true)
    (h : St P n r o σ w (Any P n r ops ivs T f (L.setIfInBounds i true))) (h' : St P n r o' σ w (Any P n r ops ivs T f (L.setIfInBounds j true))) : Any P n r ops ivs T (f + 1) L σ w :=
  ⟨hI, fun h0 => (by rw [hr] at h0; cases h0), fun k hk => by
    rw [hr] at hk
    have : k = i ∨ k = j := by simpa using hk
    rcases this with rfl | rfl
    · exact ⟨o, hi, .inl ⟨hg, h⟩⟩
    · exact ⟨o', hj, .inl ⟨hg', h'⟩⟩⟩
end
end Go.SL
namespace Go.Proofs.YtipelpbkeiphmaaGreatDoor
open Go.SL
theorem semEq29 : SemEq Tryz.prog 29 [.i, .i, .i, .i, .i, .i, .i] 2 := semEq_of Tryz.underlying29 (by kernel_rfl) (FsEq.one (by decide) rfl (inferInstance : T1 Tryz.prog 3) ⟨_, Tryz.underlying3⟩ (by decide) (FsEq.one (by decide) rfl (inferInstance : T1 Tryz.prog 3) ⟨_, Tryz.underlying3⟩ (by decide) (FsEq.one (by decide) rfl (inferInstance : T1 Tryz.prog 3) ⟨_, Tryz.underlying3⟩ (by decide) (FsEq.one (by decide) rfl (inferInstance : T1 Tryz.prog 3) ⟨_, Tryz.underlying3⟩ (by decide) (FsEq.one (by decide) rfl (inferInstance : T1 Tryz.prog 3) ⟨_, Tryz.underlying3⟩ (by decide) (FsEq.one (by decide) rfl (inferInstance : T1 Tryz.prog 3) ⟨_, Tryz.underlying3⟩ (by decide) (FsEq.one (by decide) rfl (inferInstance : T1 Tryz.prog 3) ⟨_, Tryz.underlying3⟩ (by decide) FsEq.nil)))))))
instance : TAgg Tryz.prog 29 [.i, .i, .i, .i, .i, .i, .i] := ⟨⟨2, by decide, semEq29⟩, by kernel_rfl⟩
theorem semEq30 : SemEq Tryz.prog 30 [.i, .i, .i, .i, .i, .i, .i] 2 := semEq_of Tryz.underlying30 (by kernel_rfl) (FsEq.one (by decide) rfl (inferInstance : T1 Tryz.prog 3) ⟨_, Tryz.underlying3⟩ (by decide) (FsEq.one (by decide) rfl (inferInstance : T1 Tryz.prog 3) ⟨_, Tryz.underlying3⟩ (by decide) (FsEq.one (by decide) rfl (inferInstance : T1 Tryz.prog 3) ⟨_, Tryz.underlying3⟩ (by decide) (FsEq.one (by decide) rfl (inferInstance : T1 Tryz.prog 3) ⟨_, Tryz.underlying3⟩ (by decide) (FsEq.one (by decide) rfl (inferInstance : T1 Tryz.prog 3) ⟨_, Tryz.underlying3⟩ (by decide) (FsEq.one (by decide) rfl (inferInstance : T1 Tryz.prog 3) ⟨_, Tryz.underlying3⟩ (by decide) (FsEq.one (by decide) rfl (inferInstance : T1 Tryz.prog 3) ⟨_, Tryz.underlying3⟩ (by decide) FsEq.nil)))))))
instance : TAgg Tryz.prog 30 [.i, .i, .i, .i, .i, .i, .i] := ⟨⟨2, by decide, semEq30⟩, by kernel_rfl⟩
theorem semEq34 : SemEq Tryz.prog 34 [.i, .i, .i, .i, .i, .i] 2 := semEq_of Tryz.underlying34 (by kernel_rfl) (FsEq.one (by decide) rfl (inferInstance : T1 Tryz.prog 3) ⟨_, Tryz.underlying3⟩ (by decide) (FsEq.one (by decide) rfl (inferInstance : T1 Tryz.prog 3) ⟨_, Tryz.underlying3⟩ (by decide) (FsEq.one (by decide) rfl (inferInstance : T1 Tryz.prog 3) ⟨_, Tryz.underlying3⟩ (by decide) (FsEq.one (by decide) rfl (inferInstance : T1 Tryz.prog 3) ⟨_, Tryz.underlying3⟩ (by decide) (FsEq.one (by decide) rfl (inferInstance : T1 Tryz.prog 3) ⟨_, Tryz.underlying3⟩ (by decide) (FsEq.one (by decide) rfl (inferInstance : T1 Tryz.prog 3) ⟨_, Tryz.underlying3⟩ (by decide) FsEq.nil))))))
instance : TAgg Tryz.prog 34 [.i, .i, .i, .i, .i, .i] := ⟨⟨2, by decide, semEq34⟩, by kernel_rfl⟩
theorem semEq35 : SemEq Tryz.prog 35 [.i, .i, .i, .i, .i, .i] 2 := semEq_of Tryz.underlying35 (by kernel_rfl) (FsEq.one (by decide) rfl (inferInstance : T1 Tryz.prog 3) ⟨_, Tryz.underlying3⟩ (by decide) (FsEq.one (by decide) rfl (inferInstance : T1 Tryz.prog 3) ⟨_, Tryz.underlying3⟩ (by decide) (FsEq.one (by decide) rfl (inferInstance : T1 Tryz.prog 3) ⟨_, Tryz.underlying3⟩ (by decide) (FsEq.one (by decide) rfl (inferInstance : T1 Tryz.prog 3) ⟨_, Tryz.underlying3⟩ (by decide) (FsEq.one (by decide) rfl (inferInstance : T1 Tryz.prog 3) ⟨_, Tryz.underlying3⟩ (by decide) (FsEq.one (by decide) rfl (inferInstance : T1 Tryz.prog 3) ⟨_, Tryz.underlying3⟩ (by decide) FsEq.nil))))))
instance : TAgg Tryz.prog 35 [.i, .i, .i, .i, .i, .i] := ⟨⟨2, by decide, semEq35⟩, by kernel_rfl⟩
theorem semEq88 : SemEq Tryz.prog 88 [.i, .i] 2 := semEq_of Tryz.underlying88 (by kernel_rfl) (FsEq.one (by decide) rfl (inferInstance : T1 Tryz.prog 3) ⟨_, Tryz.underlying3⟩ (by decide) (FsEq.one (by decide) rfl (inferInstance : T1 Tryz.prog 3) ⟨_, Tryz.underlying3⟩ (by decide) FsEq.nil))
instance : TAgg Tryz.prog 88 [.i, .i] := ⟨⟨2, by decide, semEq88⟩, by kernel_rfl⟩
theorem semEq102 : SemEq Tryz.prog 102 [.i, .i, .b, .b] 2 := semEq_of Tryz.underlying102 (by kernel_rfl) (FsEq.one (by decide) rfl (inferInstance : T1 Tryz.prog 3) ⟨_, Tryz.underlying3⟩ (by decide) (FsEq.one (by decide) rfl (inferInstance : T1 Tryz.prog 3) ⟨_, Tryz.underlying3⟩ (by decide) (FsEq.one (by decide) rfl (inferInstance : T1 Tryz.prog 4) Tryz.underlying4 (by decide) (FsEq.one (by decide) rfl (inferInstance : T1 Tryz.prog 4) Tryz.underlying4 (by decide) FsEq.nil))))
instance : TAgg Tryz.prog 102 [.i, .i, .b, .b] := ⟨⟨2, by decide, semEq102⟩, by kernel_rfl⟩
theorem semEq108 : SemEq Tryz.prog 108 [.i, .i, .i] 3 := semEq_of Tryz.underlying108 (by kernel_rfl) (FsEq.one (by decide) rfl (inferInstance : T1 Tryz.prog 3) ⟨_, Tryz.underlying3⟩ (by decide) (FsEq.agg (by decide) rfl (inferInstance : TN Tryz.prog 88 2) semEq88 (by decide) rfl rfl FsEq.nil))
instance : TAgg Tryz.prog 108 [.i, .i, .i] := ⟨⟨3, by decide, semEq108⟩, by kernel_rfl⟩
theorem semEq146 : SemEq Tryz.prog 146 [.i, .i] 2 := semEq_of Tryz.underlying146 (by kernel_rfl) (FsEq.one (by decide) rfl (inferInstance : T1 Tryz.prog 3) ⟨_, Tryz.underlying3⟩ (by decide) (FsEq.one (by decide) rfl (inferInstance : T1 Tryz.prog 3) ⟨_, Tryz.underlying3⟩ (by decide) FsEq.nil))
instance : TAgg Tryz.prog 146 [.i, .i] := ⟨⟨2, by decide, semEq146⟩, by kernel_rfl⟩
theorem semEq155 : SemEq Tryz.prog 155 [.i, .i] 2 := semEq_of Tryz.underlying155 (by kernel_rfl) (FsEq.one (by decide) rfl (inferInstance : T1 Tryz.prog 3) ⟨_, Tryz.underlying3⟩ (by decide) (FsEq.one (by decide) rfl (inferInstance : T1 Tryz.prog 3) ⟨_, Tryz.underlying3⟩ (by decide) FsEq.nil))
instance : TAgg Tryz.prog 155 [.i, .i] := ⟨⟨2, by decide, semEq155⟩, by kernel_rfl⟩
theorem semEq223 : SemEq Tryz.prog 223 [.i, .b, .i, .i, .b, .b] 3 := semEq_of Tryz.underlying223 (by kernel_rfl) (FsEq.one (by decide) rfl (inferInstance : T1 Tryz.prog 3) ⟨_, Tryz.underlying3⟩ (by decide) (FsEq.one (by decide) rfl (inferInstance : T1 Tryz.prog 4) Tryz.underlying4 (by decide) (FsEq.agg (by decide) rfl (inferInstance : TN Tryz.prog 102 4) semEq102 (by decide) rfl rfl FsEq.nil)))
instance : TAgg Tryz.prog 223 [.i, .b, .i, .i, .b, .b] := ⟨⟨3, by decide, semEq223⟩, by kernel_rfl⟩
theorem semEq271 : SemEq Tryz.prog 271 [.i, .i] 2 := semEq_of Tryz.underlying271 (by kernel_rfl) (FsEq.one (by decide) rfl (inferInstance : T1 Tryz.prog 3) ⟨_, Tryz.underlying3⟩ (by decide) (FsEq.one (by decide) rfl (inferInstance : T1 Tryz.prog 3) ⟨_, Tryz.underlying3⟩ (by decide) FsEq.nil))
instance : TAgg Tryz.prog 271 [.i, .i] := ⟨⟨2, by decide, semEq271⟩, by kernel_rfl⟩
theorem semEq390 : SemEq Tryz.prog 390 [.i, .i] 2 := semEq_of Tryz.underlying390 (by kernel_rfl) (FsEq.one (by decide) rfl (inferInstance : T1 Tryz.prog 3) ⟨_, Tryz.underlying3⟩ (by decide) (FsEq.one (by decide) rfl (inferInstance : T1 Tryz.prog 3) ⟨_, Tryz.underlying3⟩ (by decide) FsEq.nil))
instance : TAgg Tryz.prog 390 [.i, .i] := ⟨⟨2, by decide, semEq390⟩, by kernel_rfl⟩
end Go.Proofs.YtipelpbkeiphmaaGreatDoor
namespace Go.SL
section
variable {P : Program} {n : Nat} {r : Option Nat} {σ : Env} {w : World} {K : Env → World → Prop} {l : List HProp}
variable {u t : TypeId} {p : String} {af : Array Edge} {g : Option (Nat × Bool)} {d : Option Tmp} {x y : Operand}

theorem zeros1 (z : Value) : ∀ n, zeros [z] n = List.replicate n z
  | 0 => rfl
  | n + 1 => by simp [zeros, zeros1 z n, List.replicate_succ]

/-- 'make([]T, m)'. -/
theorem St_makeSlice [Extra] {e size bytes m : Nat} {zv : Value} {kl kc : IntKind} (H : Holds w l) [hT : TSlice P t e size bytes] [hz : TZero P e zv] (hx : ev σ x = .int kl (m : Int)) (hy : ev σ y = .int kc (m : Int)) (hq : (decide ((cellsL zv).length = size) && decide (bytes ≤ 1000000)) = true) (hm : m ≤ 100000000) (hd : okd n d = true)
    (k : ∀ b w', Holds w' (sls e size (.slice (some ⟨b, 0, none⟩) m m) (zeros (cellsL zv) m) :: l) → K (put σ d (.slice (some ⟨b, 0, none⟩) m m)) w') : St P n r ⟨d, .makeSlice t x y, u, p, af, g⟩ σ w K := by
  obtain ⟨i, hi, e2⟩ := Option.map_eq_some_iff.1 hT.info
  obtain ⟨i', hi', hz'⟩ := Option.map_eq_some_iff.1 hz.zero
  rw [hi] at hi'
  cases hi'
  simp only [Prod.mk.injEq] at e2
  simp only [Bool.and_eq_true, decide_eq_true_eq] at hq
  have hb : (i.bytes : Int) * (m : Int) ≤ 281474976710656 := by
    have : i.bytes * m ≤ 1000000 * 100000000 := Nat.mul_le_mul (by omega) hm
    have h : ((i.bytes * m : Nat) : Int) ≤ 281474976710656 := by omega
    rwa [Int.natCast_mul] at h
  have hr := run_make (P := P) w t e i zv hT.und hi hz' kl kc m m (by omega) (Int.le_refl _) hb (by omega)
  have hc : madeCells zv.cells (m * i.size) = (zeros (cellsL zv) m).toArray := by
    unfold madeCells
    rw [← zeros_range, cells_eq, hq.1, e2.1]
  rw [Int.toNat_natCast, hc] at hr
  have hn := H.new (row e (zeros (cellsL zv) m))
  refine St_value (v := .slice (some ⟨w.heap.size, 0, none⟩) m m) (w' := w.alloc (.cells (zeros (cellsL zv) m).toArray e)) hd (fun c e => by cases e) ?_ (k _ _ (sls_lit (by rw [zeros_length, hq.1]) hn))
  simp only [execOp, hx, hy, hr, Sem.run_bind, Result.andThen_ok, Sem.run_pure]

end

/-- A row of small numbers in a variable of the program, that stays. -/
def TabIs (g : Nat) (tab : List Nat) (w : World) : Prop := ∀ j, j < tab.length → w.cell? ⟨g, j, none⟩ = some (.int .u8 (tab.getD j 0))
class HasTab (g : outParam Nat) (tab : outParam (List Nat)) (l : List HProp) : Prop where
  tab : ∀ w : World, sat l (hp w) → TabIs g tab w
instance {g : Nat} {tab : List Nat} {A : HProp} {l : List HProp} [h : HasTab g tab l] : HasTab g tab (A :: l) := ⟨fun w s => h.tab w (sat_drop s)⟩
theorem hasTab_old {g : Nat} {tab : List Nat} {W : World} {l : List HProp} (h : TabIs g tab W) (hg : g < W.heap.size) : HasTab g tab (old W :: l) := ⟨fun w s j hj => by
  obtain ⟨f, _, a, _, _, x, _⟩ := s
  have e := x g hg
  have e2 : w.heap[g]? = W.heap[g]? := by
    cases ho : W.heap[g]? with
    | none => have := Array.getElem?_eq_none_iff.1 ho; omega
    | some o => rw [ho] at e; exact a g o e
  have := h j hj
  unfold World.cell? at this ⊢
  simp only [e2]
  exact this⟩
end Go.SL
namespace Go.SL
section
variable {P : Program} {n : Nat} {r : Option Nat} {ops : Array Oper} {Q : Post} {ms : List Nat} {σ : Env} {w : World} {rest : List Oper} {o : Oper} {K : Env → World → Prop} {l l' : List HProp}
variable {ivs : List (List Nat × (World → Prop))} {T : Env → World → Prop} {f : Nat} {L : Array Bool}
variable {u t s : TypeId} {p : String} {af : Array Edge} {g : Option (Nat × Bool)} {d : Option Tmp} {x y z : Operand}

/-- An owned slice is laid open; its cells may be others then. -/
theorem sls_open2 [Extra] {E k m cap : Nat} {a : Option Addr} {c : List Value} (H : Holds w (sls E k (.slice a m cap) c :: l)) (h0 : 0 < m) :
    ∃ b spare, a = some ⟨b, 0, none⟩ ∧ Holds w (pts b (row E (c ++ spare)) :: l) ∧ m ≤ cap ∧ spare.length = (cap - m) * k ∧ ∀ w' l' c', c'.length = c.length → Holds w' (pts b (row E (c' ++ spare)) :: l') → Holds w' (sls E k (.slice a m cap) c' :: l') := by
  rcases sls_case H with ⟨h, _⟩ | ⟨b, len, cap', spare, h, e3, e4, e5, H2⟩
  · injection h with h1 h2; omega
  · injection h with h1 h2 h3
    subst h1 h2 h3
    exact ⟨b, spare, rfl, H2, e4.1, e5, fun w' l' c' hc H' => sls_of (hc.trans e3) e4 e5 H'⟩

end
end Go.SL
namespace Go.SL
section
variable {P : Program} {n : Nat} {r : Option Nat} {ops : Array Oper} {Q : Post} {ms : List Nat} {σ : Env} {w : World} {rest : List Oper} {o : Oper} {K : Env → World → Prop} {l l' : List HProp}
variable {u t s : TypeId} {p : String} {af : Array Edge} {g : Option (Nat × Bool)} {d : Option Tmp} {x y z : Operand}

end
end Go.SL
namespace Go.SL

theorem split_at {α : Type} {l : List α} {k : Nat} {x : α} (h : l[k]? = some x) : l = l.take k ++ x :: l.drop (k + 1) := by
  obtain ⟨h1, h2⟩ := List.getElem?_eq_some_iff.1 h
  rw [← h2, List.getElem_cons_drop, List.take_append_drop]
section
variable {α : Type} {f : α → List Value} {m : Nat}
theorem flat_len (hf : ∀ a, (f a).length = m) (l : List α) : (l.flatMap f).length = l.length * m := by
  induction l with
  | nil => simp
  | cons a l ih => rw [List.flatMap_cons, List.length_append, ih, hf, List.length_cons, Nat.succ_mul]; omega
theorem flat_split {l : List α} {i : Nat} {x : α} (h : l[i]? = some x) (s : List Value) : l.flatMap f ++ s = (l.take i).flatMap f ++ (f x ++ ((l.drop (i + 1)).flatMap f ++ s)) := by
  conv => lhs; rw [split_at h]
  simp
theorem flat_alen (hf : ∀ a, (f a).length = m) {l : List α} {i : Nat} {x : α} (h : l[i]? = some x) : ((l.take i).flatMap f).length = i * m := by
  have h1 := (List.getElem?_eq_some_iff.1 h).1
  rw [flat_len hf, List.length_take, Nat.min_eq_left (by omega)]
theorem flat_get (hf : ∀ a, (f a).length = m) {l : List α} {i : Nat} {x : α} (h : l[i]? = some x) {s : List Value} {j : Nat} {v : Value} (hv : (f x)[j]? = some v) : (l.flatMap f ++ s)[i * m + j]? = some v := by
  have hj := (List.getElem?_eq_some_iff.1 hv).1
  rw [flat_split h, List.getElem?_append_right (by rw [flat_alen hf h]; omega), flat_alen hf h, show i * m + j - i * m = j by omega, List.getElem?_append_left hj]
  exact hv
theorem flat_reads (hf : ∀ a, (f a).length = m) {l : List α} {i : Nat} {x : α} (h : l[i]? = some x) {s : List Value} {j : Nat} {vs : List Value} (hv : Reads (f x) j vs.length vs) : Reads (l.flatMap f ++ s) (i * m + j) vs.length vs :=
  Reads.of_get fun k v hk => by
    rw [show i * m + j + k = i * m + (j + k) by omega]
    exact flat_get hf h (hv.get k v hk)
end
end Go.SL
namespace Go.Proofs
open Go.Shelf
end Go.Proofs
namespace Go.Proofs
open Go.Shelf
end Go.Proofs
namespace Go.SL
open Go.Sort Go.Proofs

section
variable {α : Type} [Inhabited α] {enc : α → List Value} {k : Nat}

end
theorem Holds.grow [Extra] {w : World} {l : List HProp} {q : Nat} {os' : Array Obj} (H : Holds w l) : Holds (Go.Sort.grow (w.drewN q) os') l := by
  refine H.up (fun c o hc => ?_) ⟨rfl, rfl⟩
  show (w.heap ++ os')[c]? = some o
  have := (Array.getElem?_eq_some_iff.1 hc).1
  rw [Array.getElem?_append_left this]
  exact hc

end Go.SL
namespace Go.Proofs
open Go.Shelf
end Go.Proofs
namespace Go.SL
section
variable {P : Program} {n : Nat} {r : Option Nat} {Q : Post} {ms : List Nat} {σ : Env} {w : World} {l : List HProp}
theorem fn_endCD [Extra] {fn : Func} {R : Value → World → Prop} {e : Exit} {vs : List Value} (l : List HProp) (he : e = .normal ∨ e = .ret) (H : Holds w (mk ms :: l))
    (hv : ∀ w', Holds w' l → ResAt P σ w' fn.results.toList vs) (hR : ∀ w', Holds w' l → R (resV vs) w') : fnPost P n fn R e ms σ w :=
  ⟨he, .inl ⟨l, H, fun w' H' a ra => ⟨_, results_at ra (hv w' H'), hR w' H'⟩⟩⟩
end
end Go.SL
namespace Go.SL
open Go.ChangeShapes

section
variable {H : Type} {enc : TypeId × Value → H} {P : Program} {W W' : World}

theorem trodAll_stays (hl : laidOutB P = true) : ∀ {ts : List TypeId} {vs : List Value} {ds : List (DataW H)} {ps : List MemPlace} {sp : Nat → Bool}, (∀ t ∈ ts, P.readableRec t = true ∧ t < P.types.size) →
    DataW.TrodAll enc P W 0 (fun _ => true) true ts vs ds ps → (∀ p ∈ ps, W.sameAt W' p) → (∀ p ∈ ps, sp p.block = true) → DataW.TrodAll enc P W' 0 sp true ts vs ds ps
  | [], [], [], _, _, _, h, _, _ => h
  | t :: ts, v :: vs, d :: ds, _, sp, hr, ⟨p, q, h, hs, e⟩, same, hsp => by
    subst e
    have hr0 := hr t (by simp)
    exact ⟨p, q, Go.WideElems.Trod_stays hl hr0.1 hr0.2 h (fun x hx => same x (List.mem_append_left _ hx)) (fun x hx => hsp x (List.mem_append_left _ hx)),
      trodAll_stays hl (fun t ht => hr t (by simp [ht])) hs (fun x hx => same x (List.mem_append_right _ hx)) (fun x hx => hsp x (List.mem_append_right _ hx)), rfl⟩

/-- What a statement asks at the end, from this: old blocks are as they were. -/
theorem closing {f : Func} {s : ChangeSpec} {args : Array Value} {v : Value} {ds gs : List (DataW H)} {before : List MemPlace} (hl : laidOutB P = true) (hts : ∀ t ∈ f.params.toList, P.readableRec t = true ∧ t < P.types.size)
    (hv : s.vars = []) (hW : DataW.Whole enc P f.params.toList s.vars false W args.toList ds gs before) (hh : ∀ b, b < W.heap.size → W'.heap[b]? = W.heap[b]?) (hos : W'.os = W.os) (hout : W'.output = W.output)
    (ha : (s.fn H (ds ++ gs)).args = ds) (hva : (s.fn H (ds ++ gs)).vars = [])
    (hres : DataW.TrodAll enc P W' W.heap.size (fun _ => false) false f.resultTypes.toList (v.resultList f.resultTypes.size) (s.fn H (ds ++ gs)).results []) : s.post enc P f false true false false W args v W' := by
  have hlt := hW.lt
  have hW' := hW
  obtain ⟨p, q, h1, h2, rfl, h3, h4⟩ := hW
  rw [hv] at h2
  obtain ⟨rfl, rfl⟩ := trodVars_none h2
  have same : ∀ x ∈ p, W.sameAt W' x := by
    intro x hx
    have hb := hlt x (by simp [hx])
    cases x with
    | cell b off => show W'.cell? _ = W.cell? _; unfold World.cell?; rw [hh b hb]
    | map b => exact hh b hb
  have hsp : ∀ x ∈ p, (fun b => decide (b < W.heap.size)) x.block = true := fun x hx => by
    have := hlt x (by simp [hx])
    simpa using this
  refine ⟨ds, [], p ++ [], [], p, [], hW', hres, ?_, ?_, ⟨hos, hout, fun i hi => ?_⟩, fun h => by cases h⟩
  · rw [ha]
    exact trodAll_stays hl hts h1 same hsp
  · rw [hva, hv]
    show ([] : List MemPlace) = []
    rfl
  · rw [hh i hi]
    cases hx : W.heap[i]? with
    | none => trivial
    | some o => cases o <;> simp
end
end Go.SL
namespace Go.SL
section
variable [Extra] {P : Program} {n : Nat} {r : Option Nat} {ops : Array Oper} {Q : Post} {ms : List Nat} {σ : Env} {w : World} {rest : List Oper} {o : Oper} {l : List HProp} {ivs : List (List Nat × (World → Prop))} {T : Env → World → Prop} {f : Nat} {L : Array Bool} {t u : TypeId} {p : String} {af : Array Edge} {g : Option (Nat × Bool)} {d : Option Tmp} {x : Operand} {G K : Prop}
theorem Jo (j : Nat) (H : Holds w l) (k : St P n r o σ w (Any P n r ops ivs T f (L.setIfInBounds j true))) (hi : ops[j]? = some o := by rfl) (hr : Region.ready .any ops L = [j] := by kernel_rfl)
    (hI : Holds w l → InvL ivs L w := by intro H; repeat first | exact InvL.nil | refine InvL.cons (.inr (Holds.at H)) ?_ | refine InvL.cons (.inr (Holds.mp H)) ?_ | refine InvL.cons (.inl (by kernel_rfl)) ?_)
    (hg : Wants ops σ o true := by first | exact Wants.none rfl | exact Wants.of rfl rfl rfl) : Any P n r ops ivs T (f + 1) L σ w := A_one j hi hr (hI H) hg k
theorem Jk {f : FuncId} {K : Env → World → Prop} {xs : List Operand} {ts : Array TypeId} {R : Value → World → Prop} (hx : ev σ x = .func (.func f) #[] #[]) [hb : TBody P f] (hd : okd n d = true) (s : Calls P f (xs.map (ev σ)).toArray w (ret R)) (k : ∀ v w', R v w' → K (put σ d v) w') :
    St P n r ⟨d, .call { callee := .value x, args := xs.toArray, argTypes := ts }, u, p, af, g⟩ σ w K := St_call (a := []) (b := []) hx hd (by rw [List.nil_append, List.append_nil]; exact call s k)
theorem Jc {f : FuncId} {xs : List Operand} {ts : Array TypeId} {R : Value → World → Prop} (hx : ev σ x = .func (.func f) #[] #[]) [hb : TBody P f] (hd : okd n d = true) (s : Calls P f (xs.map (ev σ)).toArray w (ret R)) (k : ∀ v w', R v w' → Lp P n r ops Q rest ms (put σ d v) w') :
    Lp P n r ops Q (⟨d, .call { callee := .value x, args := xs.toArray, argTypes := ts }, u, p, af, none⟩ :: rest) ms σ w := Lp_s rfl (Jk hx hd s k)
theorem Js {l' : List HProp} (is : List Nat) (m : Nat) (H : Holds w l) (h : Holds w (sel is m l) → Holds w l' := by intro H; dsimp only [SL.sel, SL.pull, List.drop] at H; exact H) : Holds w l' := h (H.sel is m)
theorem Jy {fn : Func} {R : Value → World → Prop} {e : Exit} {vs : List Value} (H : Holds w l) (h : res σ fn.results.toList = some vs) (hr : ∀ w', Holds w' l → R (resV vs) w') (he : e = .normal ∨ e = .ret := by first | exact .inr rfl | exact .inl rfl) : fnPost P n fn R e [] σ w := fn_end0 _ he H h hr
theorem Jz {fn : Func} {R : Value → World → Prop} {e : Exit} {vs : List Value} (H : Holds w l) (h : ∀ w', Holds w' l → ResAt P σ w' fn.results.toList vs) (hr : ∀ w', Holds w' l → R (resV vs) w') (he : e = .normal ∨ e = .ret := by first | exact .inr rfl | exact .inl rfl) : fnPost P n fn R e [] σ w := fn_endC _ he H h hr
theorem J0 (H : Holds w l) (k : K) (h : Holds w l → K → G := by
 intro H k
 refine Lp_pv rfl rfl ?_
 refine Lp_nil ?_
 exact k) : G := h H k
theorem J1 (H : Holds w l) (k : K) (h : Holds w l → K → G := by
 intro H k
 repeat refine C_seq ?_
 refine C_region ?_
 exact k) : G := h H k
theorem J2 (H : Holds w l) (k : K) (h : Holds w l → K → G := by
 intro H k
 refine Lp_pv rfl rfl ?_
 refine Lp_pv rfl rfl ?_
 refine Lp_nil ?_
 exact k) : G := h H k
theorem J3 (H : Holds w l) (k : K) (h : Holds w l → K → G := by
 intro H k
 repeat refine C_seq ?_
 refine C_region ?_
 refine Lp_pv rfl rfl ?_
 refine Lp_pv rfl rfl ?_
 refine Lp_nil ?_
 exact k) : G := h H k
theorem J4 (H : Holds w l) (k : K) (h : Holds w l → K → G := by
 intro H k
 refine Lp_pv rfl rfl ?_
 refine Lp_nil ?_
 repeat refine C_seq ?_
 exact k) : G := h H k
theorem J5 (H : Holds w l) (k : K) (h : Holds w l → K → G := by
 intro H k
 repeat refine C_seq ?_
 refine C_region ?_
 refine Lp_pv rfl rfl ?_
 refine Lp_pv rfl rfl ?_
 exact k) : G := h H k
theorem J6 (H : Holds w l) (k : K) (h : Holds w l → K → G := by
 intro H k
 refine Lp_gpv rfl rfl rfl rfl ?_
 exact k) : G := h H k
theorem J7 (H : Holds w l) (k : K) (h : Holds w l → K → G := by
 intro H k
 refine Lp_pv rfl rfl ?_
 refine Lp_pv rfl rfl ?_
 exact k) : G := h H k
theorem J8 (H : Holds w l) (k : K) (h : Holds w l → K → G := by
 intro H k
 refine A_end (by kernel_rfl) (by repeat first | exact .nil | refine .cons (.inr H.at) ?_ | refine .cons (.inr H.mp) ?_ | refine .cons (.inl (by kernel_rfl)) ?_) ?_
 exact k) : G := h H k
theorem J9 (H : Holds w l) (k : K) (h : Holds w l → K → G := by
 intro H k
 repeat refine C_seq ?_
 refine C_region ?_
 refine Lp_s rfl (St_load1 H rfl rfl rfl ?_)
 exact k) : G := h H k
theorem J10 (H : Holds w l) (k : K) (h : Holds w l → K → G := by
 intro H k
 repeat refine C_seq ?_
 refine C_false rfl (C_skip ?_)
 exact k) : G := h H k
theorem J11 (H : Holds w l) (k : K) (h : Holds w l → K → G := by
 intro H k
 refine Lp_s rfl (St_build rfl rfl ?_)
 refine Lp_s rfl (St_boxN H rfl rfl ?_)
 exact k) : G := h H k
theorem J12 (H : Holds w l) (k : K) (h : Holds w l → K → G := by
 intro H k
 refine Lp_pv rfl rfl ?_
 refine Lp_pv rfl rfl ?_
 refine Lp_pv rfl rfl ?_
 refine Lp_pv rfl rfl ?_
 exact k) : G := h H k
theorem J13 (H : Holds w l) (k : K) (h : Holds w l → K → G := by
 intro H k
 repeat refine C_seq ?_
 refine C_region ?_
 refine Lp_pv rfl rfl ?_
 exact k) : G := h H k
theorem J14 (H : Holds w l) (k : K) (h : Holds w l → K → G := by
 intro H k
 repeat refine C_seq ?_
 refine C_region ?_
 refine Lp_s rfl (St_box1 H rfl rfl rfl ?_)
 exact k) : G := h H k
theorem J15 (H : Holds w l) (k : K) (h : Holds w l → K → G := by
 intro H k
 refine Lp_gpv rfl rfl rfl rfl ?_
 refine Lp_gpv rfl rfl rfl rfl ?_
 exact k) : G := h H k
theorem J16 (H : Holds w l) (k : K) (h : Holds w l → K → G := by
 intro H k
 refine Lp_pv rfl rfl ?_
 refine Lp_nil ?_
 repeat refine C_seq ?_
 refine C_false rfl (C_skip ?_)
 exact k) : G := h H k
theorem J17 (H : Holds w l) (k : K) (h : Holds w l → K → G := by
 intro H k
 refine Lp_pv rfl rfl ?_
 refine Lp_nil ?_
 repeat refine C_seq ?_
 refine C_region ?_
 refine Lp_pv rfl rfl ?_
 refine Lp_pv rfl rfl ?_
 refine Lp_nil ?_
 exact k) : G := h H k
theorem J18 (H : Holds w l) (k : K) (h : Holds w l → K → G := by
 intro H k
 refine A_pv 0 rfl (Wants.none rfl) rfl (by kernel_rfl) ?_
 refine A_pv 1 rfl (Wants.none rfl) rfl (by kernel_rfl) ?_
 exact k) : G := h H k
theorem J19 (H : Holds w l) (k : K) (h : Holds w l → K → G := by
 intro H k
 repeat refine C_seq ?_
 refine C_drawH H mixed ?_
 exact k) : G := h H k
theorem J20 (H : Holds w l) (k : K) (h : Holds w l → K → G := by
 intro H k
 repeat refine C_seq ?_
 refine C_region ?_
 refine Lp_pv rfl rfl ?_
 refine Lp_nil ?_
 repeat refine C_seq ?_
 refine C_region ?_
 exact k) : G := h H k
theorem J21 (H : Holds w l) (k : K) (h : Holds w l → K → G := by
 intro H k
 refine Lp_pv rfl rfl ?_
 refine Lp_nil ?_
 repeat refine C_seq ?_
 refine C_region ?_
 refine Lp_pv rfl rfl ?_
 exact k) : G := h H k
theorem J22 (H : Holds w l) (k : K) (h : Holds w l → K → G := by
 intro H k
 refine Lp_g rfl rfl rfl (St_fieldAddr rfl rfl ?_)
 refine Lp_g rfl rfl rfl (St_load1 H rfl rfl rfl ?_)
 exact k) : G := h H k
theorem J23 (H : Holds w l) (k : K) (h : Holds w l → K → G := by
 intro H k
 refine Lp_pv rfl rfl ?_
 refine Lp_pv rfl rfl ?_
 refine Lp_gpv rfl rfl rfl rfl ?_
 refine Lp_gpv rfl rfl rfl rfl ?_
 exact k) : G := h H k
theorem J24 (H : Holds w l) (k : K) (h : Holds w l → K → G := by
 intro H k
 refine Lp_s rfl (St_storeN H rfl rfl inferInstance rfl rfl (Nat.le_of_ble_eq_true rfl) rfl ?_)
 exact k) : G := h H k
theorem J25 (H : Holds w l) (k : K) (h : Holds w l → K → G := by
 intro H k
 repeat refine C_seq ?_
 refine C_block ?_
 exact k) : G := h H k
theorem J26 (H : Holds w l) (k : K) (h : Holds w l → K → G := by
 intro H k
 refine A_fieldAddr 2 rfl (Wants.none rfl) rfl (by kernel_rfl) ?_
 exact k) : G := h H k
theorem J27 (H : Holds w l) (k : K) (h : Holds w l → K → G := by
 intro H k
 refine Lp_pv rfl rfl ?_
 refine Lp_gpv rfl rfl rfl rfl ?_
 refine Lp_gpv rfl rfl rfl rfl ?_
 exact k) : G := h H k
theorem J28 (H : Holds w l) (k : K) (h : Holds w l → K → G := by
 intro H k
 refine Lp_pv rfl rfl ?_
 refine Lp_pv rfl rfl ?_
 refine Lp_pv rfl rfl ?_
 refine Lp_s rfl (St_alloc H rfl ?_)
 exact k) : G := h H k
theorem J29 (H : Holds w l) (k : K) (h : Holds w l → K → G := by
 intro H k
 refine A_build 40 rfl (Wants.none rfl) rfl (by kernel_rfl) ?_
 refine Jo 42 H ?_
 refine St_storeN H rfl rfl inferInstance rfl rfl (Nat.le_of_ble_eq_true rfl) rfl ?_
 exact k) : G := h H k
theorem J30 (H : Holds w l) (k : K) (h : Holds w l → K → G := by
 intro H k
 repeat refine C_seq ?_
 refine C_region ?_
 refine Lp_s rfl (St_load1 H rfl rfl rfl ?_)
 refine Lp_pv rfl rfl ?_
 refine Lp_s rfl (St_fieldAddr rfl rfl ?_)
 refine Lp_s rfl (St_load1 H rfl rfl rfl ?_)
 refine Lp_pv rfl rfl ?_
 refine Lp_s rfl (St_fieldAddr rfl rfl ?_)
 refine Lp_s rfl (St_load1 H rfl rfl rfl ?_)
 exact k) : G := h H k
theorem J31 (H : Holds w l) (k : K) (h : Holds w l → K → G := by
 intro H k
 repeat refine C_seq ?_
 refine C_region ?_
 refine Lp_pv rfl rfl ?_
 refine Lp_nil ?_
 repeat refine C_seq ?_
 refine C_region ?_
 refine Lp_pv rfl rfl ?_
 refine Lp_s rfl (St_eqPtrNil rfl rfl (.inl rfl) rfl ?_)
 refine Lp_nil ?_
 repeat refine C_seq ?_
 refine C_false rfl (C_skip ?_)
 repeat refine C_seq ?_
 refine C_region ?_
 refine Lp_pv rfl rfl ?_
 refine Lp_pv rfl rfl ?_
 refine Lp_s rfl (St_fieldAddr rfl rfl ?_)
 refine Lp_s rfl (St_load1 H rfl rfl rfl ?_)
 exact k) : G := h H k
theorem J32 (H : Holds w l) (k : K) (h : Holds w l → K → G := by
 intro H k
 repeat refine C_seq ?_
 refine C_region ?_
 refine Lp_pv rfl rfl ?_
 refine Lp_pv rfl rfl ?_
 refine Lp_pv rfl rfl ?_
 refine Lp_pv rfl rfl ?_
 exact k) : G := h H k
theorem J33 (H : Holds w l) (k : K) (h : Holds w l → K → G := by
 intro H k
 refine A_pv 5 rfl (Wants.none rfl) rfl (by kernel_rfl) ?_
 exact k) : G := h H k
theorem J34 (H : Holds w l) (k : K) (h : Holds w l → K → G := by
 intro H k
 refine A_pv 10 rfl (Wants.none rfl) rfl (by kernel_rfl) ?_
 refine A_pv 11 rfl (Wants.none rfl) rfl (by kernel_rfl) ?_
 refine A_end (by kernel_rfl) (by repeat first | exact .nil | refine .cons (.inr H.at) ?_ | refine .cons (.inr H.mp) ?_ | refine .cons (.inl (by kernel_rfl)) ?_) ?_
 exact k) : G := h H k
theorem J35 (H : Holds w l) (k : K) (h : Holds w l → K → G := by
 intro H k
 refine A_pv 6 rfl (Wants.none rfl) rfl (by kernel_rfl) ?_
 refine A_fieldAddr 7 rfl (Wants.none rfl) rfl (by kernel_rfl) ?_
 exact k) : G := h H k
theorem J36 (H : Holds w l) (k : K) (h : Holds w l → K → G := by
 intro H k
 refine Lp_pv rfl rfl ?_
 refine Lp_nil ?_
 repeat refine C_seq ?_
 refine C_region ?_
 refine Lp_pv rfl rfl ?_
 refine Lp_pv rfl rfl ?_
 refine Lp_pv rfl rfl ?_
 exact k) : G := h H k
theorem J37 (H : Holds w l) (k : K) (h : Holds w l → K → G := by
 intro H k
 refine Lp_pv rfl rfl ?_
 refine Lp_nil ?_
 repeat refine C_seq ?_
 refine C_true rfl ?_
 repeat refine C_seq ?_
 refine C_region ?_
 refine Lp_s rfl (St_build rfl rfl ?_)
 refine Lp_s rfl (St_storeN H rfl rfl inferInstance rfl rfl (Nat.le_of_ble_eq_true rfl) rfl ?_)
 exact k) : G := h H k
theorem J38 (H : Holds w l) (k : K) (h : Holds w l → K → G := by
 intro H k
 refine Lp_nil ?_
 repeat refine C_seq ?_
 refine C_false rfl (C_skip ?_)
 exact k) : G := h H k
theorem J39 (H : Holds w l) (k : K) (h : Holds w l → K → G := by
 intro H k
 refine Lp_g rfl rfl rfl (St_lenSlice rfl rfl ?_)
 refine Lp_gpv rfl rfl rfl rfl ?_
 exact k) : G := h H k
theorem J40 (H : Holds w l) (k : K) (h : Holds w l → K → G := by
 intro H k
 refine Lp_pv rfl rfl ?_
 refine Lp_pv rfl rfl ?_
 refine Lp_no rfl rfl rfl ?_
 refine Lp_no rfl rfl rfl ?_
 refine Lp_no rfl rfl rfl ?_
 refine Lp_no rfl rfl rfl ?_
 exact k) : G := h H k
theorem J41 (H : Holds w l) (k : K) (h : Holds w l → K → G := by
 intro H k
 repeat refine C_seq ?_
 refine C_region ?_
 refine Lp_pv rfl rfl ?_
 refine Lp_pv rfl rfl ?_
 refine Lp_pv rfl rfl ?_
 exact k) : G := h H k
theorem J42 (H : Holds w l) (k : K) (h : Holds w l → K → G := by
 intro H k
 refine Lp_pv rfl rfl ?_
 refine Lp_s rfl (St_fieldAddr rfl rfl ?_)
 refine Lp_s rfl (St_load1 H rfl rfl rfl ?_)
 exact k) : G := h H k
theorem J43 (H : Holds w l) (k : K) (h : Holds w l → K → G := by
 intro H k
 repeat refine C_seq ?_
 refine C_region ?_
 refine Lp_pv rfl rfl ?_
 refine Lp_pv rfl rfl ?_
 refine Lp_s rfl (St_fieldAddr rfl rfl ?_)
 refine Lp_s rfl (St_load1 H rfl rfl rfl ?_)
 exact k) : G := h H k
theorem J44 (H : Holds w l) (k : K) (h : Holds w l → K → G := by
 intro H k
 repeat refine C_seq ?_
 refine C_region ?_
 refine Lp_pv rfl rfl ?_
 refine Lp_nil ?_
 repeat refine C_seq ?_
 refine C_region ?_
 refine Lp_pv rfl rfl ?_
 refine Lp_s rfl (St_eqPtrNil rfl rfl (.inl rfl) rfl ?_)
 refine Lp_nil ?_
 repeat refine C_seq ?_
 refine C_false rfl (C_skip ?_)
 exact k) : G := h H k
theorem J45 (H : Holds w l) (k : K) (h : Holds w l → K → G := by
 intro H k
 repeat refine C_seq ?_
 refine C_region ?_
 refine Lp_pv rfl rfl ?_
 refine Lp_nil ?_
 repeat refine C_seq ?_
 refine C_region ?_
 refine Lp_pv rfl rfl ?_
 refine Lp_s rfl (St_eqPtrNil rfl rfl (.inl rfl) rfl ?_)
 exact k) : G := h H k
theorem J46 (H : Holds w l) (k : K) (h : Holds w l → K → G := by
 intro H k
 refine Lp_no rfl rfl rfl ?_
 refine Lp_no rfl rfl rfl ?_
 refine Lp_no rfl rfl rfl ?_
 refine Lp_no rfl rfl rfl ?_
 exact k) : G := h H k
theorem J47 (H : Holds w l) (k : K) (h : Holds w l → K → G := by
 intro H k
 refine Lp_g rfl rfl rfl (St_loadN H rfl (by repeat (first | exact Reads.nil _ | apply Reads.cons rfl)) rfl ?_)
 exact k) : G := h H k
theorem J48 (H : Holds w l) (k : K) (h : Holds w l → K → G := by
 intro H k
 refine Lp_pv rfl rfl ?_
 refine Lp_nil ?_
 repeat refine C_seq ?_
 refine C_region ?_
 refine Lp_pv rfl rfl ?_
 refine Lp_s rfl (St_eqPtrNil rfl rfl (.inl rfl) rfl ?_)
 exact k) : G := h H k
end
end Go.SL
namespace Go.Proofs.YtipelpbkeiphmaaGreatDoor
open Go.SL

abbrev Rf := Int × Int
@[reducible] def vm : Nat → Value := fun b => .map (some b)
@[reducible] def v1 : Int → Value := fun x => .int .i64 x
/-- A group: its number, its block, its references. -/
structure Gr where
  key : Int
  blk : Nat
  m : List (Rf × Int)

@[reducible] def inner (g : Gr) : HProp := mp kp v1 g.blk g.m
@[reducible] def gkb (g : Gr) : Int × Nat := (g.key, g.blk)
def mem (G : List Gr) (k : Int) (r : Rf) : Prop := ∃ g ∈ G, g.key = k ∧ r ∈ g.m.map (·.1)
def GrR (bo : Nat) (S : Int → Rf → Prop) : HProp := ex fun G => star [prop (∀ k r, mem G k r ↔ S k r), mp (ki .i64) vm bo (G.map gkb), star (G.map inner)]

theorem GrR_in [Extra] {w : World} {bo : Nat} {S : Int → Rf → Prop} {l : List HProp} (G : List Gr) (h : ∀ k r, mem G k r ↔ S k r) (H : Holds w (mp (ki .i64) vm bo (G.map gkb) :: star (G.map inner) :: l)) : Holds w (GrR bo S :: l) :=
  Holds.ex.2 ⟨G, Holds.star.2 (Holds.prop.2 ⟨h, H⟩)⟩

end Go.Proofs.YtipelpbkeiphmaaGreatDoor
namespace Go.Proofs.YtipelpbkeiphmaaGreatDoor
open Go.SL

@[reducible] def pp (b : Nat) : Value := .pointer (some ⟨b, 0, none⟩)
theorem wrap64 {x : Int} (h1 : -9223372036854775808 ≤ x) (h2 : x ≤ 9223372036854775807) : IntKind.i64.wrap x = x := by
  simp [IntKind.wrap, IntKind.bits, IntKind.signed]; omega
theorem inc64 {i : Nat} (h : i < 1000000000) : Value.int .i64 (IntKind.i64.wrap ((i : Int) + 1)) = .int .i64 ((i + 1 : Nat) : Int) := by
  rw [wrap64 (by omega) (by omega)]; rfl

/-- A field: from where on, how many bits. -/
abbrev Fl := Nat × Nat
def RightF (f : Fl) : Prop := 0 < f.2 ∧ f.1 + f.2 ≤ 64
def ucells (l : List Nat) : List Value := l.map fun x : Nat => Value.int .u64 (x : Int)
@[reducible] def UL (v : Value) (l : List Nat) : HProp := sls 127 1 v (ucells l)

end Go.Proofs.YtipelpbkeiphmaaGreatDoor
namespace Go.Proofs.YtipelpbkeiphmaaGreatDoor
open Go.SL

/-- Fields that are right, one above the other. -/
def RisF (fs : List Fl) : Prop := (∀ f ∈ fs, RightF f) ∧ fs.Pairwise (fun f g => f.1 + f.2 ≤ g.1)

theorem RisF.at {fs : List Fl} (h : RisF fs) {i : Nat} {f : Fl} (hf : fs[i]? = some f) : RightF f := h.1 f (List.mem_of_getElem? hf)

end Go.Proofs.YtipelpbkeiphmaaGreatDoor
namespace Go.Proofs.YtipelpbkeiphmaaGreatDoor
open Go.SL

theorem Len64_spec [Extra] (x : Nat) (hx : x < 18446744073709551616) {w : World} {fr : List HProp} (H : Holds w fr) : Calls Tryz.prog 239 #[.int .u64 x] w (ret fun v w' => v = .int .i64 (Lib.bitLen x) ∧ Holds w' fr) := by
  refine (Any.bits_Len64 Tryz.laysLen (x : Int) w (by omega) (by omega)).mono ?_
  rintro e w' ⟨rfl, rfl⟩
  exact ⟨by rw [Int.toNat_natCast], H⟩

theorem pow_le64 {k : Nat} (h : k ≤ 64) : 2 ^ k ≤ 18446744073709551616 := Nat.le_trans (Nat.pow_le_pow_right (by decide) h) (by decide)

/-- A word of some fields' numbers. -/
def packN : List Fl → List Nat → Nat
  | f :: fs, x :: xs => x * 2 ^ f.1 + packN fs xs
  | _, _ => 0
end Go.Proofs.YtipelpbkeiphmaaGreatDoor
namespace Go.Proofs.YtipelpbkeiphmaaGreatDoor
open Go.SL

def hdrF : List Fl := [(0, 16), (16, 16), (32, 8), (40, 16), (56, 8)]
def lnkF : List Fl := [(0, 32), (32, 32)]
/-- A header: layout, count, slot. -/
def MayH (l c s : Nat) : Prop := 1 ≤ l ∧ l ≤ 64 ∧ c ≤ 1024 ∧ s < 4096
def encH (l c s : Nat) : Nat := packN hdrF [s, c, l, 0, 165]
end Go.Proofs.YtipelpbkeiphmaaGreatDoor
namespace Go.Proofs.YtipelpbkeiphmaaGreatDoor
open Go.SL

/-- A reference: to nothing, to a grave, to an object (slot, generation). -/
inductive Lnk where
  | none
  | grave
  | obj (i g : Nat)
  deriving DecidableEq
@[reducible] def tkn (i g : Nat) : Value := .agg #[.int .i64 i, .int .i64 g]
def okT (i g : Nat) : Prop := i < 4096 ∧ 1 ≤ g ∧ g ≤ 255
def okL : Lnk → Prop
  | .obj i g => okT i g
  | _ => True
def wordL : Lnk → Nat
  | .none => 0
  | .grave => 1
  | .obj i g => packN lnkF [i + 2, g]
end Go.Proofs.YtipelpbkeiphmaaGreatDoor
namespace Go.Proofs.YtipelpbkeiphmaaGreatDoor
open Go.SL

/-- A bitmap: how many places, its words, how many are on. -/
def BM (p n : Nat) (ws : List Nat) (many : Nat) : HProp := ex fun v : Value => star [pts p (row 303 [.int .i64 n, v, .int .i64 many]), UL v ws]
theorem BM_out [Extra] {w : World} {p n : Nat} {ws : List Nat} {m : Nat} {l : List HProp} (H : Holds w (BM p n ws m :: l)) : ∃ v, Holds w (pts p (row 303 [.int .i64 n, v, .int .i64 m]) :: UL v ws :: l) := by
  obtain ⟨v, H⟩ := Holds.ex.1 H
  exact ⟨v, Holds.star.1 H⟩
theorem BM_in [Extra] {w : World} {p n : Nat} {v : Value} {ws : List Nat} {m : Nat} {l : List HProp} (H : Holds w (pts p (row 303 [.int .i64 n, v, .int .i64 m]) :: UL v ws :: l)) : Holds w (BM p n ws m :: l) :=
  Holds.ex.2 ⟨v, Holds.star.2 H⟩
theorem BM_open [Extra] {w : World} {p n x m : Nat} {l : List HProp} (H : Holds w (BM p n [x] m :: l)) : ∃ b cap spare, Holds w (pts p (row 303 [.int .i64 n, .slice (some ⟨b, 0, none⟩) 1 cap, .int .i64 m]) :: pts b (row 127 (.int .u64 x :: spare)) :: l) ∧
    ∀ w' l' (x' m' : Nat), Holds w' (pts p (row 303 [.int .i64 n, .slice (some ⟨b, 0, none⟩) 1 cap, .int .i64 m']) :: pts b (row 127 (.int .u64 x' :: spare)) :: l') → Holds w' (BM p n [x'] m' :: l') := by
  obtain ⟨v, H⟩ := BM_out H
  have H := H.swap
  obtain ⟨a, cap, rfl⟩ := sls_slice (m := 1) H rfl (by decide)
  rcases sls_case H with ⟨h, _⟩ | ⟨b, len, cap', spare, h, e3, e4, e5, H2⟩
  · cases h
  · cases h
    exact ⟨b, cap, spare, H2.swap, fun w' l' x' m' H' => BM_in (Holds.swap (sls_of (c := ucells [x']) rfl e4 e5 H'.swap))⟩

/-- Of one word. -/
structure Bits (n x : Nat) : Prop where
  pos : 0 < n
  le : n ≤ 63
  lt : x < 2 ^ n
theorem Bits.lt64 {n x : Nat} (h : Bits n x) : x < 18446744073709551616 := Nat.lt_of_lt_of_le h.lt (pow_le64 (by have := h.le; omega))
theorem q64 {i : Nat} (h : i < 64) : IntKind.i64.wrap (Int.tdiv (i : Int) 64) = 0 := by
  rw [Int.tdiv_eq_ediv_of_nonneg (by omega), show (i : Int) / 64 = 0 by omega]; rfl
theorem r64 {i : Nat} (h : i < 64) : Int.tmod (i : Int) 64 = i := by
  rw [Int.tmod_eq_emod_of_nonneg (by omega)]; omega
theorem Count_spec [Extra] (p n : Nat) (ws : List Nat) (m : Nat) {w : World} {fr : List HProp} (H : Holds w (BM p n ws m :: fr)) : Calls Tryz.prog 123 #[pp p] w (ret fun v w' => v = .int .i64 m ∧ Holds w' (BM p n ws m :: fr)) := by
  obtain ⟨v, H⟩ := BM_out H
  refine calls_of Tryz.func123 rfl (by kernel_rfl) ?_
  refine J31 H ?_
  refine J0 H ?_
  exact C_ret (Jy (BM_in H) rfl fun w' H' => ⟨rfl, H'⟩)

/-- A place is turned. -/
def setB (x i : Nat) (on : Bool) : Nat := if x.testBit i = on then x else x ^^^ 2 ^ i
theorem setB_bit (x i : Nat) (on : Bool) (j : Nat) : (setB x i on).testBit j = if j = i then on else x.testBit j := by
  unfold setB
  split
  · rename_i h
    split
    · rename_i e; subst e; exact h
    · rfl
  · rename_i h
    rw [Nat.testBit_xor, Nat.testBit_two_pow]
    split
    · rename_i e
      subst e
      simp
      cases hx : x.testBit j <;> cases on <;> simp_all
    · rename_i e
      have : decide (i = j) = false := decide_eq_false (fun e2 => e e2.symm)
      simp [this]
def cntB (n x : Nat) : Nat := ((List.range n).filter fun i => x.testBit i).length
theorem lt_pow_of_bits {n x : Nat} (h : ∀ j, n ≤ j → x.testBit j = false) : x < 2 ^ n := Nat.lt_pow_two_of_testBit x fun j hj => h j hj
theorem bits_off {n x j : Nat} (h : x < 2 ^ n) (hj : n ≤ j) : x.testBit j = false := Nat.testBit_lt_two_pow (Nat.lt_of_lt_of_le h (Nat.pow_le_pow_right (by decide) hj))
theorem Bits.set {n x i : Nat} {on : Bool} (h : Bits n x) (hi : i < n) : Bits n (setB x i on) := ⟨h.pos, h.le, lt_pow_of_bits fun j hj => by
  rw [setB_bit, if_neg (by omega)]
  exact bits_off h.lt hj⟩
theorem cntB_le (n x : Nat) : cntB n x ≤ n := by
  have := List.length_filter_le (fun i => x.testBit i) (List.range n)
  rwa [List.length_range] at this

/-- A bitmap of one word. -/
@[reducible] def BM1 (p n x : Nat) : HProp := BM p n [x] (cntB n x)

end Go.Proofs.YtipelpbkeiphmaaGreatDoor
namespace Go.Proofs.YtipelpbkeiphmaaGreatDoor
open Go.SL

def fillB (x a : Nat) : Nat → Bool → Nat
  | 0, _ => x
  | k + 1, on => setB (fillB x a k on) (a + k) on
theorem Bits.fill {n x a : Nat} {on : Bool} (h : Bits n x) : ∀ {k : Nat}, a + k ≤ n → Bits n (fillB x a k on)
  | 0, _ => h
  | k + 1, hk => Bits.set (Bits.fill h (by omega)) (by omega)

theorem bNew_spec [Extra] (n : Nat) (h1 : 0 < n) (h2 : n ≤ 1048576) {w : World} {fr : List HProp} (H : Holds w fr) :
    Calls Tryz.prog 256 #[.int .i64 n] w (ret fun v w' => ∃ p, v = .tuple #[pp p, .int .i64 0] ∧ Holds w' (BM p n (List.replicate ((n + 63) / 64) 0) 0 :: fr)) := by
  refine calls_of Tryz.func256 rfl (by kernel_rfl) ?_
  refine J3 H ?_
  refine J41 H ?_
  rw [show decide ((n : Int) < 1) = false from decide_eq_false (by omega)]
  refine J15 H ?_
  refine J0 H ?_
  rw [show decide ((n : Int) > 1048576) = false from decide_eq_false (by omega)]
  refine J10 H ?_
  refine J32 H ?_
  have e1 : IntKind.i64.wrap (Int.tdiv (IntKind.i64.wrap ((n : Int) + 63)) 64) = (((n + 63) / 64 : Nat) : Int) := by
    rw [wrap64 (x := (n : Int) + 63) (by omega) (by omega), Int.tdiv_eq_ediv_of_nonneg (by omega), wrap64 (by omega) (by omega)]; omega
  rw [e1]
  refine Lp_s rfl (St_makeSlice H rfl rfl (by decide) (by omega) rfl ?_)
  clear H; intro b14 w H
  refine J11 H ?_
  clear H; intro b16 w H
  refine J2 H ?_
  have e : zeros (cellsL (.int .u64 0)) ((n + 63) / 64) = ucells (List.replicate ((n + 63) / 64) 0) := by
    rw [show cellsL (.int .u64 0) = [.int .u64 0] from rfl, zeros1]; simp [ucells]
  rw [e] at H
  exact C_ret (Jy (BM_in H) rfl fun w' H' => ⟨_, rfl, H'⟩)

/-! ### The first one that is off, or on -/

theorem ctz_bits {y : Nat} (h0 : y ≠ 0) (h : y < 18446744073709551616) : Lib.ctz 64 y < 64 ∧ y.testBit (Lib.ctz 64 y) = true ∧ ∀ i, i < Lib.ctz 64 y → y.testBit i = false := by
  obtain ⟨m, hm, hk⟩ := Lib.ctzFrom_spec 64 y (by omega) h
  have e : Lib.ctz 64 y = Lib.ctzFrom 64 y := by simp [Lib.ctz, h0]
  rw [e]
  generalize Lib.ctzFrom 64 y = k at hm hk
  subst hm
  refine ⟨hk, ?_, fun i hi => ?_⟩
  · rw [Nat.testBit_eq_decide_div_mod_eq, Nat.mul_div_cancel_left _ (Nat.two_pow_pos k)]
    simp
  · rw [Nat.testBit_eq_decide_div_mod_eq]
    have : 2 ^ k * (2 * m + 1) / 2 ^ i = 2 * (2 ^ (k - i - 1) * (2 * m + 1)) := by
      have h2 : 2 ^ k = 2 ^ i * (2 * 2 ^ (k - i - 1)) := by
        rw [← Nat.pow_succ', ← Nat.pow_add]
        congr 1
        omega
      rw [h2, Nat.mul_assoc, Nat.mul_div_cancel_left _ (Nat.two_pow_pos i), Nat.mul_assoc]
    rw [this]
    simp

theorem Tz_spec [Extra] (x : Nat) (hx : x < 18446744073709551616) {w : World} {fr : List HProp} [hT : HasTab 0 Lib.deBruijn64tab fr] (H : Holds w fr) : Calls Tryz.prog 288 #[.int .u64 x] w (ret fun v w' => v = .int .i64 (Lib.ctz 64 x) ∧ Holds w' fr) := by
  refine (Any7.bits_TrailingZeros64 Tryz.laysTz x hx w (fun _ => hT.tab w H.1)).mono ?_
  rintro e w' ⟨rfl, rfl⟩
  exact ⟨rfl, H⟩

theorem div_bit (x a i : Nat) : (x / 2 ^ a).testBit i = x.testBit (a + i) := by
  rw [Nat.testBit_div_two_pow, Nat.add_comm]

/-- The first one that is on, from a on; the length, if there is none. -/
theorem next_spec [Extra] (p n x a m : Nat) (hb : Bits n x) (ha : a ≤ n) {w : World} {fr : List HProp} [hT : HasTab 0 Lib.deBruijn64tab fr] (H : Holds w (BM p n [x] m :: fr)) :
    Calls Tryz.prog 211 #[pp p, .int .i64 a] w (ret fun v w' => (∃ e : Nat, v = .int .i64 e ∧ a ≤ e ∧ e ≤ n ∧ (∀ i, a ≤ i → i < e → x.testBit i = false) ∧ (e < n → x.testBit e = true)) ∧ Holds w' (BM p n [x] m :: fr)) := by
  have hle := hb.le
  have h64 := hb.lt64
  refine calls_of Tryz.func211 rfl (by kernel_rfl) ?_
  refine J1 H ?_
  refine J4 H ?_
  refine C_joinQ (fun ms σ w => ms = [] ∧ σ 0 = pp p ∧ (∀ i, a ≤ i → i < n → x.testBit i = false) ∧ Holds w (BM p n [x] m :: fr)) ?_ ?_
  · refine C_block ?_
    refine C_loop (fun ms σ w q => ms = [] ∧ ∃ j : Nat, (q = if j < n then 1 else 0) ∧ (j < n → j = a) ∧ σ 0 = pp p ∧ σ 1 = .int .i64 j ∧ (j < n ∨ ∀ i, a ≤ i → i < n → x.testBit i = false) ∧ Holds w (BM p n [x] m :: fr)) (m := if a < n then 1 else 0) ⟨rfl, a, rfl, fun _ => rfl, rfl, rfl, by
      by_cases h : a < n
      · exact .inl h
      · exact .inr fun i h1 h2 => by omega, H⟩ ?_
    clear H
    rintro ms σ w q ⟨rfl, j, rfl, hj, g0, g1, h5, H⟩
    rw [upd_self g0, upd_self g1]
    obtain ⟨b, cap, spare, H, hclose⟩ := BM_open H
    refine J5 H ?_
    refine J42 H ?_
    refine J4 H ?_
    refine C_dec rfl (fun h => C_skip ?_) (fun h => C_exit ?_)
    · have hlt : j < n := by omega
      have := hj hlt
      subst this
      have hq : x / 2 ^ j < 18446744073709551616 := Nat.lt_of_le_of_lt (Nat.div_le_self _ _) (by omega)
      have hbit : ∀ i, (x / 2 ^ j).testBit i = x.testBit (j + i) := fun i => by rw [div_bit]
      refine J25 H ?_
      refine J43 H ?_
      refine J7 H ?_
      rw [q64 (show j < 64 by omega)]
      refine Lp_s rfl (St_indexAddr rfl rfl (by decide) (by decide) rfl ?_)
      refine Lp_s rfl (St_load1 H rfl rfl rfl ?_)
      refine J7 H ?_
      rw [r64 (show j < 64 by omega)]
      refine Lp_pv (v := .int .u64 (shrI .u64 (x : Int) (j : Int))) (by
        show (if (j : Int) < 0 then none else some _) = _
        rw [if_neg (by omega)]) rfl ?_
      rw [shr_nat (k := .u64) (by omega) rfl]
      refine J17 H ?_
      replace H := hclose _ _ _ _ H
      generalize x / 2 ^ j = y at *
      repeat refine C_seq ?_
      by_cases hy : y = 0
      · rw [show ((y : Int) != 0) = false by simp [hy]]
        refine J10 H ?_
        refine J32 H ?_
        refine J0 H ?_
        refine ⟨_, ⟨rfl, 64, rfl, fun h => by omega, rfl, ?_, .inr fun i h1 h2 => ?_, H⟩, by rw [if_pos hlt, if_neg (by omega)]; decide⟩
        · show Value.int .i64 (IntKind.i64.wrap (IntKind.i64.wrap (IntKind.i64.wrap (Int.tdiv (j : Int) 64) + 1) * 64)) = _
          rw [q64 (show j < 64 by omega)]; rfl
        · have := hbit (i - j)
          rw [hy, Nat.zero_testBit, show j + (i - j) = i by omega] at this
          exact this.symm
      · rw [show ((y : Int) != 0) = true by simp; omega]
        repeat refine C_seq ?_
        refine C_true rfl ?_
        obtain ⟨c1, c2, c3⟩ := ctz_bits hy hq
        refine J5 H ?_
        refine Jc rfl rfl (Tz_spec y hq H) ?_
        clear H; rintro v w ⟨rfl, H⟩
        refine J2 H ?_
        have hk := hbit (Lib.ctz 64 y)
        rw [c2] at hk
        have hn : j + Lib.ctz 64 y < n := by
          rcases Nat.lt_or_ge (j + Lib.ctz 64 y) n with h | h
          · exact h
          · rw [bits_off hb.lt h] at hk; cases hk
        refine C_ret (.inr ⟨by simp, Jy H rfl fun w' H' => ⟨⟨j + Lib.ctz 64 y, ?_, by omega, by omega, fun i h1 h2 => ?_, fun _ => hk.symm⟩, H'⟩⟩)
        · show Value.int .i64 (IntKind.i64.wrap ((j : Int) + (Lib.ctz 64 y : Nat))) = _
          rw [wrap64 (by omega) (by omega)]; congr 1
        · have := hbit (i - j)
          rw [c3 (i - j) (by omega), show j + (i - j) = i by omega] at this
          exact this.symm
    · exact .inl ⟨rfl, rfl, rfl, by
        rcases h5 with h5 | h5
        · omega
        · exact h5, hclose _ _ _ _ H⟩
  · clear H
    rintro ms σ w ⟨rfl, g0, h1, H⟩
    rw [upd_self g0]
    obtain ⟨b, cap, spare, H, hclose⟩ := BM_open H
    refine J43 H ?_
    refine J0 H ?_
    exact C_ret (Jy (hclose _ _ _ _ H) rfl fun w' H' => ⟨⟨n, rfl, ha, Nat.le_refl _, h1, fun h => by omega⟩, H'⟩)

end Go.Proofs.YtipelpbkeiphmaaGreatDoor
namespace Go.Proofs.YtipelpbkeiphmaaGreatDoor
open Go.SL

def ncells (l : List Nat) : List Value := l.map fun x : Nat => Value.int .i64 (x : Int)
theorem ncells_length (l : List Nat) : (ncells l).length = l.length * 1 := by simp [ncells]
theorem ncells_get {l : List Nat} {spare : List Value} {i x : Nat} (h : l[i]? = some x) : (ncells l ++ spare)[0 + i * 1]? = some (.int .i64 x) := by
  have hi := (List.getElem?_eq_some_iff.1 h).1
  rw [Nat.zero_add, Nat.mul_one, List.getElem?_append_left (by simpa [ncells] using hi)]
  simp [ncells, h]
@[reducible] def NL (v : Value) (l : List Nat) : HProp := sls 3 1 v (ncells l)

structure STok (size : Nat) (mem own ws : List Nat) (many : Nat) : Prop where
  s1 : 1 ≤ size
  s2 : size ≤ 1024
  c1 : 1 ≤ own.length
  c2 : own.length ≤ 1024
  len : mem.length = own.length * size
  many : many = (own.filter (· != 0)).length
  one : own.length ≤ 63 → ∃ x, ws = [x] ∧ x < 2 ^ own.length ∧ ∀ c, c < own.length → x.testBit c = decide (own.getD c 0 ≠ 0)

/-- A store: words of a chunk, the words, the chunks' owners. -/
def ST (p size : Nat) (mem own : List Nat) : HProp := ex fun q : Value × Value × Nat × List Nat × Nat =>
  star [prop (STok size mem own q.2.2.2.1 q.2.2.2.2), pts p (row 213 [q.1, .int .i64 size, q.2.1, pp q.2.2.1]), UL q.1 mem, NL q.2.1 own, BM q.2.2.1 own.length q.2.2.2.1 q.2.2.2.2]
theorem ST_out [Extra] {w : World} {p size : Nat} {mem own : List Nat} {l : List HProp} (H : Holds w (ST p size mem own :: l)) : ∃ v v2 u ws many, STok size mem own ws many ∧
    Holds w (pts p (row 213 [v, .int .i64 size, v2, pp u]) :: UL v mem :: NL v2 own :: BM u own.length ws many :: l) := by
  obtain ⟨⟨v, v2, u, ws, many⟩, H⟩ := Holds.ex.1 H
  have H := Holds.star.1 H
  obtain ⟨h, H⟩ := Holds.prop.1 H
  exact ⟨v, v2, u, ws, many, h, H⟩
theorem ST_in [Extra] {w : World} {p size : Nat} {mem own : List Nat} {l : List HProp} {v v2 : Value} {u : Nat} {ws : List Nat} {many : Nat} (h : STok size mem own ws many)
    (H : Holds w (pts p (row 213 [v, .int .i64 size, v2, pp u]) :: UL v mem :: NL v2 own :: BM u own.length ws many :: l)) : Holds w (ST p size mem own :: l) :=
  Holds.ex.2 ⟨(v, v2, u, ws, many), Holds.star.2 (Holds.prop.2 ⟨h, H⟩)⟩

theorem sNew_spec [Extra] (n size : Nat) (h1 : 1 ≤ n) (h2 : n ≤ 1024) (h3 : 1 ≤ size) (h4 : size ≤ 1024) {w : World} {fr : List HProp} (H : Holds w fr) :
    Calls Tryz.prog 186 #[.int .i64 n, .int .i64 size] w (ret fun v w' => ∃ p, v = .tuple #[pp p, .int .i64 0] ∧ Holds w' (ST p size (List.replicate (n * size) 0) (List.replicate n 0) :: fr)) := by
  have hns : n * size ≤ 1048576 := Nat.mul_le_mul h2 h4
  refine calls_of Tryz.func186 rfl (by kernel_rfl) ?_
  refine J3 H ?_
  refine J41 H ?_
  rw [show decide ((n : Int) < 1) = false from decide_eq_false (by omega)]
  refine J15 H ?_
  refine J7 H ?_
  rw [show decide ((n : Int) > 1024) = false from decide_eq_false (by omega)]
  refine J15 H ?_
  refine J7 H ?_
  rw [show decide ((size : Int) < 1) = false from decide_eq_false (by omega)]
  refine J15 H ?_
  refine J0 H ?_
  rw [show decide ((size : Int) > 1024) = false from decide_eq_false (by omega)]
  refine J10 H ?_
  refine J13 H ?_
  refine Jc rfl rfl (bNew_spec n (by omega) (by omega) H) ?_
  clear H; rintro v w ⟨u, rfl, H⟩
  refine J12 H ?_
  refine J4 H ?_
  refine C_drawH H mixed ?_
  clear H; intro w H
  refine J18 H ?_
  refine A_pv 2 rfl (Wants.none rfl) rfl (by kernel_rfl) ?_
  refine A_pv 4 rfl (Wants.none rfl) rfl (by kernel_rfl) ?_
  refine J33 H ?_
  refine A_pv 7 rfl (Wants.none rfl) rfl (by kernel_rfl) ?_
  have e1 : IntKind.i64.wrap ((n : Int) * (size : Int)) = ((n * size : Nat) : Int) := by
    rw [← Int.natCast_mul, wrap64 (by omega) (by omega)]
  rw [e1]
  have hok : STok size (List.replicate (n * size) 0) (List.replicate n 0) (List.replicate (((List.replicate n 0).length + 63) / 64) 0) 0 := by
    refine ⟨h3, h4, by simpa using h1, by simpa using h2, by simp, by simp, fun h => ⟨0, ?_, Nat.two_pow_pos _, fun c hc => ?_⟩⟩
    · have : ((List.replicate n 0 : List Nat).length + 63) / 64 = 1 := by simp at h ⊢; omega
      rw [this]; rfl
    · have hc' : c < n := by simpa using hc
      simp [Nat.zero_testBit, hc']
  have z1 : zeros (cellsL (.int .u64 0)) (n * size) = ucells (List.replicate (n * size) 0) := by
    rw [show cellsL (.int .u64 0) = [.int .u64 0] from rfl, zeros1]; simp [ucells]
  have z2 : zeros (cellsL (.int .i64 0)) n = ncells (List.replicate n 0) := by
    rw [show cellsL (.int .i64 0) = [.int .i64 0] from rfl, zeros1]; simp [ncells]
  have hl : (List.replicate n 0 : List Nat).length = n := by simp
  rw [hl] at hok
  refine A_two 3 6 rfl rfl (by kernel_rfl) (by repeat first | exact .nil | refine .cons (.inr H.at) ?_ | refine .cons (.inr H.mp) ?_ | refine .cons (.inl (by kernel_rfl)) ?_) (Wants.none rfl) (Wants.none rfl) (St_makeSlice H rfl rfl (by decide) (by omega) rfl ?_) (St_makeSlice H rfl rfl (by decide) (by omega) rfl ?_)
  · clear H; intro b30 w H
    rw [z1] at H
    refine Jo 6 H ?_
    refine St_makeSlice H rfl rfl (by decide) (by omega) rfl ?_
    clear H; intro b33 w H
    rw [z2] at H
    refine A_build 8 rfl (Wants.none rfl) rfl (by kernel_rfl) ?_
    refine Jo 9 H ?_
    refine St_boxN H rfl rfl ?_
    clear H; intro b36 w H
    refine J34 H ?_
    replace H := Js [0,1,0,0] 0 H
    have H := ST_in (own := List.replicate n 0) hok (by rw [hl]; exact H)
    exact C_ret (Jy H rfl fun w' H' => ⟨_, rfl, H'⟩)
  · clear H; intro b33 w H
    rw [z2] at H
    refine Jo 3 H ?_
    refine St_makeSlice H rfl rfl (by decide) (by omega) rfl ?_
    clear H; intro b30 w H
    rw [z1] at H
    refine A_build 8 rfl (Wants.none rfl) rfl (by kernel_rfl) ?_
    refine Jo 9 H ?_
    refine St_boxN H rfl rfl ?_
    clear H; intro b36 w H
    refine J34 H ?_
    have H := ST_in (own := List.replicate n 0) hok (by rw [hl]; exact H)
    exact C_ret (Jy H rfl fun w' H' => ⟨_, rfl, H'⟩)

theorem Chunks_spec [Extra] (p size : Nat) (mem own : List Nat) {w : World} {fr : List HProp} (H : Holds w (ST p size mem own :: fr)) : Calls Tryz.prog 34 #[pp p] w (ret fun v w' => v = .int .i64 own.length ∧ Holds w' (ST p size mem own :: fr)) := by
  obtain ⟨v, v2, u, ws, many, hok, H⟩ := ST_out H
  obtain ⟨a2, c2, rfl⟩ := sls_slice (H.drop.drop) (ncells_length own) (by decide)
  refine calls_of Tryz.func34 rfl (by kernel_rfl) ?_
  refine J31 H ?_
  refine Lp_s rfl (St_lenSlice rfl rfl ?_)
  refine J0 H ?_
  exact C_ret (Jy (ST_in hok H) rfl fun w' H' => ⟨rfl, H'⟩)

theorem Free_spec [Extra] (p size : Nat) (mem own : List Nat) {w : World} {fr : List HProp} (H : Holds w (ST p size mem own :: fr)) : Calls Tryz.prog 33 #[pp p] w (ret fun v w' => v = .int .i64 ((own.length - (own.filter (· != 0)).length : Nat) : Int) ∧ Holds w' (ST p size mem own :: fr)) := by
  obtain ⟨v, v2, u, ws, many, hok, H⟩ := ST_out H
  obtain ⟨a2, c2, rfl⟩ := sls_slice (H.drop.drop) (ncells_length own) (by decide)
  refine calls_of Tryz.func33 rfl (by kernel_rfl) ?_
  refine J44 H ?_
  refine J19 H ?_
  clear H; intro w H
  refine J18 H ?_
  refine J26 H ?_
  refine A_load1 3 [] H rfl (Wants.none rfl) rfl rfl (by kernel_rfl) ?_
  refine A_lenSlice 4 rfl (Wants.none rfl) rfl (by kernel_rfl) ?_
  refine J33 H ?_
  refine J35 H ?_
  refine A_load1 8 [9] H rfl (Wants.none rfl) rfl rfl (by kernel_rfl) ?_
  replace H := Js [3,0,0,0] 0 H
  refine Jo 9 H ?_
  refine Jk rfl rfl (Count_spec u _ _ _ H) ?_
  clear H; rintro v w ⟨rfl, H⟩
  refine J34 H ?_
  replace H := Js [1,1,1,0] 0 H
  have hle := List.length_filter_le (· != 0) own
  have := hok.many
  have h2 := hok.c2
  refine C_ret (Jy (ST_in hok H) rfl fun w' H' => ⟨?_, H'⟩)
  show Value.int .i64 (IntKind.i64.wrap ((own.length : Int) - (many : Int))) = _
  rw [wrap64 (by omega) (by omega)]
  congr 1
  omega

theorem Owner_spec [Extra] (p size : Nat) (mem own : List Nat) (c : Nat) {w : World} {fr : List HProp} (H : Holds w (ST p size mem own :: fr)) (hc : c < own.length) : Calls Tryz.prog 74 #[pp p, .int .i64 c] w (ret fun v w' => v = .int .i64 (own.getD c 0) ∧ Holds w' (ST p size mem own :: fr)) := by
  refine calls_of Tryz.func74 rfl (by kernel_rfl) ?_
  refine J1 H ?_
  refine J36 H ?_
  rw [show decide ((c : Int) < 0) = false from decide_eq_false (by omega)]
  refine J15 H ?_
  refine Lp_g rfl rfl rfl (St_call (a := []) (b := []) rfl rfl (call (Chunks_spec p size mem own H) ?_))
  clear H; rintro v w ⟨rfl, H⟩
  refine J6 H ?_
  refine J0 H ?_
  rw [show decide ((c : Int) ≥ (own.length : Int)) = false from decide_eq_false (by omega)]
  refine J10 H ?_
  obtain ⟨v, v2, u, ws, many, hok, H⟩ := ST_out H
  replace H := Js [2,0,0,0] 0 H
  obtain ⟨a2, c2, rfl⟩ := sls_slice H (ncells_length own) (by decide)
  obtain ⟨b, s, rfl, H, hclose⟩ := sls_open H (by omega)
  have hx := List.getElem?_eq_getElem hc
  have hg : own.getD c 0 = own[c] := by simp [hc]
  rw [hg]
  generalize own[c] = x at hx
  refine J43 H ?_
  refine Lp_pv rfl rfl ?_
  refine Lp_s rfl (St_indexAddr rfl rfl (by omega) (by omega) rfl ?_)
  refine Lp_s rfl (St_load1 H rfl (ncells_get hx) rfl ?_)
  refine J0 H ?_
  replace H := hclose _ _ H
  replace H := Js [1,1,0,0] 0 H
  exact C_ret (Jy (ST_in hok H) rfl fun w' H' => ⟨rfl, H'⟩)

/-- From an address on so many words are owned. -/
def Owned (size : Nat) (own : List Nat) (a n : Nat) : Prop := ∀ c, a / size ≤ c → c ≤ (a + n - 1) / size → own.getD c 0 ≠ 0

end Go.Proofs.YtipelpbkeiphmaaGreatDoor
namespace Go.Proofs.YtipelpbkeiphmaaGreatDoor
open Go.SL

theorem STok.mem {size : Nat} {mem mem' own ws : List Nat} {many : Nat} (h : STok size mem own ws many) (e : mem'.length = mem.length) : STok size mem' own ws many := ⟨h.s1, h.s2, h.c1, h.c2, e.trans h.len, h.many, h.one⟩

end Go.Proofs.YtipelpbkeiphmaaGreatDoor
namespace Go.Proofs.YtipelpbkeiphmaaGreatDoor
/-- Places that rise, below a size. -/
def RisL (l : List Nat) (size : Nat) : Prop := (∀ p ∈ l, p < size) ∧ l.Pairwise (· < ·)
instance (l : List Nat) (size : Nat) : Decidable (RisL l size) := inferInstanceAs (Decidable (_ ∧ _))

/-- A layout. -/
structure Lay where
  fixed : Nat
  refs : List Nat
  record : Nat
  recs : List Nat
def RightL (l : Lay) : Prop := l.fixed ≤ 64 ∧ l.record ≤ 64 ∧ l.fixed + l.record ≠ 0 ∧ RisL l.refs l.fixed ∧ RisL l.recs l.record
instance (l : Lay) : Decidable (RightL l) := inferInstanceAs (Decidable (_ ∧ _))

/-- What the size of an object is told as: the words, the error. -/
def sizeL (l : Lay) (count : Int) : Nat × Nat :=
  if count < 0 ∨ count > 1024 ∨ (count > 0 ∧ l.record = 0) then (0, 3)
  else if l.fixed + count.toNat * l.record ≥ 8192 then (0, 10) else (l.fixed + count.toNat * l.record, 0)
def isRefL (l : Lay) (p : Nat) : Bool := if p < l.fixed then decide (p ∈ l.refs) else decide ((p - l.fixed) % l.record ∈ l.recs)
end Go.Proofs.YtipelpbkeiphmaaGreatDoor
namespace Go.Proofs.YtipelpbkeiphmaaGreatDoor
open Go.SL

structure RdL (fr : List HProp) (vr vq : Value) (l : Lay) : Prop where
  r : RdS fr vr l.refs.length 1 (ncells l.refs)
  q : RdS fr vq l.recs.length 1 (ncells l.recs)
theorem RdL.there {A : HProp} {fr : List HProp} {vr vq : Value} {l : Lay} (h : RdL fr vr vq l) : RdL (A :: fr) vr vq l := ⟨h.r.there, h.q.there⟩

theorem RdS.one {fr : List HProp} {v : Value} {m k : Nat} {cs : List Value} (h : RdS fr v m k cs) : fo v = some v ∧ v.oneCell' = true ∧ cellsL v = [v] := by
  obtain ⟨_, ad, cap, rfl, _⟩ := h
  exact ⟨rfl, rfl, rfl⟩

/-- Of numbers that are small. -/
structure SmallL (l : Lay) : Prop where
  f : l.fixed ≤ 1000000
  r : l.record ≤ 1000000
  a : l.refs.length ≤ 1000000
  b : l.recs.length ≤ 1000000

end Go.Proofs.YtipelpbkeiphmaaGreatDoor
namespace Go.Proofs.YtipelpbkeiphmaaGreatDoor
open Go.SL

theorem ris_len : ∀ (l : List Nat) (lo size : Nat), (∀ p ∈ l, lo ≤ p ∧ p < size) → l.Pairwise (· < ·) → l.length ≤ size - lo
  | [], _, _, _, _ => Nat.zero_le _
  | a :: l, lo, size, h, hp => by
    rw [List.pairwise_cons] at hp
    have h1 := ris_len l (a + 1) size (fun p hx => ⟨hp.1 p hx, (h p (List.mem_cons_of_mem _ hx)).2⟩) hp.2
    have h2 := h a (List.mem_cons_self ..)
    simp only [List.length_cons]
    omega
theorem RisL.len {l : List Nat} {n : Nat} (h : RisL l n) : l.length ≤ n := by
  have := ris_len l 0 n (fun p hp => ⟨Nat.zero_le _, h.1 p hp⟩) h.2
  omega
theorem RightL.small {l : Lay} (h : RightL l) : SmallL l := by
  obtain ⟨h1, h2, _, h4, h5⟩ := h
  have := h4.len
  have := h5.len
  exact ⟨by omega, by omega, by omega, by omega⟩

end Go.Proofs.YtipelpbkeiphmaaGreatDoor
namespace Go.Proofs.YtipelpbkeiphmaaGreatDoor
open Go.SL

end Go.Proofs.YtipelpbkeiphmaaGreatDoor
