/- The remset's walks: the set. No condition. -/
import Derived.Test.YtdpephigccnkdaaRemA
set_option linter.unusedVariables false
set_option linter.unusedSimpArgs false
set_option linter.unusedSectionVars false
namespace Go.Proofs.Ytdpephigccnkdaa
open Go.SL

@[reducible] def pp (b : Nat) : Value := .pointer (some ⟨b, 0, none⟩)

def RS (p : Nat) (m : List (Rf × Int)) : HProp := ex fun q : Nat × Nat × Nat =>
  star [pts p (row 52 [.map (some q.1), .map (some q.2.1), .map (some q.2.2)]), mp kp v1 q.1 m, GrR q.2.1 (fun k r => fnd m r = some k), GrR q.2.2 (fun k r => r.1 = k ∧ (fnd m r).isSome = true)]

theorem RS_out [Extra] {w : World} {p : Nat} {m : List (Rf × Int)} {l : List HProp} (H : Holds w (RS p m :: l)) :
    ∃ bt bo bf, Holds w (pts p (row 52 [.map (some bt), .map (some bo), .map (some bf)]) :: mp kp v1 bt m :: GrR bo (fun k r => fnd m r = some k) :: GrR bf (fun k r => r.1 = k ∧ (fnd m r).isSome = true) :: l) := by
  obtain ⟨⟨bt, bo, bf⟩, H⟩ := Holds.ex.1 H
  exact ⟨bt, bo, bf, Holds.star.1 H⟩

theorem RS_in [Extra] {w : World} {p : Nat} {m : List (Rf × Int)} {l : List HProp} {S T : Int → Rf → Prop} (bt bo bf : Nat) (hS : ∀ k r, S k r ↔ fnd m r = some k) (hT : ∀ k r, T k r ↔ (r.1 = k ∧ (fnd m r).isSome = true))
    (H : Holds w (pts p (row 52 [.map (some bt), .map (some bo), .map (some bf)]) :: mp kp v1 bt m :: GrR bo S :: GrR bf T :: l)) : Holds w (RS p m :: l) := by
  have e1 : S = fun k r => fnd m r = some k := by funext k r; exact propext (hS k r)
  have e2 : T = fun k r => r.1 = k ∧ (fnd m r).isSome = true := by funext k r; exact propext (hT k r)
  subst e1 e2
  exact Holds.ex.2 ⟨(bt, bo, bf), Holds.star.2 H⟩

theorem GrR_empty [Extra] {w : World} {bo : Nat} {l : List HProp} (H : Holds w (mp (ki .i64) vm bo [] :: l)) : Holds w (GrR bo (fun _ _ => False) :: l) :=
  GrR_in [] (by simp [mem]) (Holds.swap ((Holds.star (k := [])).2 H))

theorem New_spec [Extra] {w : World} {fr : List HProp} (H : Holds w fr) : Calls Try.prog 9 #[] w (ret fun v w' => ∃ p, v = pp p ∧ Holds w' (RS p [] :: fr)) := by
  refine calls_of Try.func9 rfl (by kernel_rfl) ?_
  repeat refine C_seq ?_
  refine C_region ?_
  first | refine Lp_pv rfl rfl ?_ | refine Lp_mv rfl rfl ?_
  refine Lp_nil ?_
  repeat refine C_seq ?_
  refine C_region ?_
  refine Lp_s rfl (St_makeMap v1 kp H rfl ?_); clear H; intro b1 w H
  refine Lp_s rfl (St_makeMap vm (ki .i64) H rfl ?_); clear H; intro b2 w H
  refine Lp_s rfl (St_makeMap vm (ki .i64) H rfl ?_); clear H; intro b3 w H
  refine Lp_s rfl (St_build rfl rfl ?_)
  first | (refine Lp_s rfl (St_boxN H rfl rfl ?_); clear H; intro b5 w H) | (refine Lp_s rfl (St_box1 H rfl rfl rfl ?_); clear H; intro b5 w H)
  first | refine Lp_pv rfl rfl ?_ | refine Lp_mv rfl rfl ?_
  refine Lp_nil ?_
  refine C_ret ?_
  replace H := GrR_empty (H.pull 1)
  replace H := GrR_empty (H.pull 2)
  replace H := Holds.sel [2, 2, 0, 0] 0 H; dsimp only [SL.sel, SL.pull, List.drop] at H
  exact fn_end0 _ (.inr rfl) H rfl (fun w' H' => ⟨b5, rfl, RS_in b1 b2 b3 (S := fun _ _ => False) (T := fun _ _ => False) (by simp [fnd]) (by simp [fnd]) H'⟩)

theorem To_none [Extra] (r : Rf) {w : World} {fr : List HProp} (H : Holds w fr) : Calls Try.prog 8 #[.pointer none, rf r] w (ret fun v w' => v = .tuple #[.int .i64 0, .bool false] ∧ Holds w' fr) := by
  obtain ⟨a, b⟩ := r
  refine calls_of Try.func8 rfl (by kernel_rfl) ?_
  repeat refine C_seq ?_
  refine C_region ?_
  first | (refine Lp_s rfl (St_boxN H rfl rfl ?_); clear H; intro b3 w H) | (refine Lp_s rfl (St_box1 H rfl rfl rfl ?_); clear H; intro b3 w H)
  first | refine Lp_pv rfl rfl ?_ | refine Lp_mv rfl rfl ?_
  first | refine Lp_pv rfl rfl ?_ | refine Lp_mv rfl rfl ?_
  refine Lp_nil ?_
  repeat refine C_seq ?_
  refine C_region ?_
  first | refine Lp_pv rfl rfl ?_ | refine Lp_mv rfl rfl ?_
  first | refine Lp_pv rfl rfl ?_ | refine Lp_s rfl (St_eqPtrNil rfl rfl (.inl rfl) rfl ?_) | refine Lp_s rfl (St_eqMapNil rfl rfl (.inl rfl) rfl ?_) | refine Lp_s rfl (St_eqPair rfl rfl (.inl rfl) rfl ?_) | refine Lp_s rfl (St_eqBool rfl rfl (.inl rfl) rfl ?_) | refine Lp_s rfl (St_eqStr rfl rfl (.inl rfl) rfl ?_)
  refine Lp_nil ?_
  repeat refine C_seq ?_
  refine C_true rfl ?_
  repeat refine C_seq ?_
  refine C_region ?_
  first | refine Lp_pv rfl rfl ?_ | refine Lp_mv rfl rfl ?_
  first | refine Lp_pv rfl rfl ?_ | refine Lp_mv rfl rfl ?_
  refine Lp_nil ?_
  refine C_ret (fn_end0 _ (.inr rfl) H.drop rfl fun w' H' => ⟨rfl, H'⟩)

theorem lookV_v1 (o : Option Int) : lookV (.int .i64 0) v1 o = .int .i64 (o.getD 0) := by cases o <;> rfl

theorem To_spec [Extra] (p : Nat) (m : List (Rf × Int)) (r : Rf) {w : World} {fr : List HProp} (H : Holds w (RS p m :: fr)) :
    Calls Try.prog 8 #[pp p, rf r] w (ret fun v w' => v = .tuple #[.int .i64 ((fnd m r).getD 0), .bool (fnd m r).isSome] ∧ Holds w' (RS p m :: fr)) := by
  obtain ⟨a, b⟩ := r
  refine calls_of Try.func8 rfl (by kernel_rfl) ?_
  obtain ⟨bt, bo, bf, H⟩ := RS_out H
  repeat refine C_seq ?_
  refine C_region ?_
  first | (refine Lp_s rfl (St_boxN H rfl rfl ?_); clear H; intro b3 w H) | (refine Lp_s rfl (St_box1 H rfl rfl rfl ?_); clear H; intro b3 w H)
  first | refine Lp_pv rfl rfl ?_ | refine Lp_mv rfl rfl ?_
  first | refine Lp_pv rfl rfl ?_ | refine Lp_mv rfl rfl ?_
  refine Lp_nil ?_
  repeat refine C_seq ?_
  refine C_region ?_
  first | refine Lp_pv rfl rfl ?_ | refine Lp_mv rfl rfl ?_
  first | refine Lp_pv rfl rfl ?_ | refine Lp_s rfl (St_eqPtrNil rfl rfl (.inl rfl) rfl ?_) | refine Lp_s rfl (St_eqMapNil rfl rfl (.inl rfl) rfl ?_) | refine Lp_s rfl (St_eqPair rfl rfl (.inl rfl) rfl ?_) | refine Lp_s rfl (St_eqBool rfl rfl (.inl rfl) rfl ?_) | refine Lp_s rfl (St_eqStr rfl rfl (.inl rfl) rfl ?_)
  refine Lp_nil ?_
  repeat refine C_seq ?_
  refine C_false rfl (C_skip ?_)
  repeat refine C_seq ?_
  refine C_drawH H mixed ?_
  clear H; intro w H
  refine A_pv 0 rfl (Wants.none rfl) rfl (by kernel_rfl) ?_
  refine A_pv 1 rfl (Wants.none rfl) rfl (by kernel_rfl) ?_
  refine A_fieldAddr 2 rfl (Wants.none rfl) rfl (by kernel_rfl) ?_
  first | refine A_load1 3 [] H rfl (Wants.none rfl) rfl rfl (by kernel_rfl) ?_ | refine A_loadN 3 [] H rfl (Wants.none rfl) rfl (by repeat (first | exact Reads.nil _ | apply Reads.cons rfl)) (by kernel_rfl) ?_
  first | refine A_load1 4 [] H rfl (Wants.none rfl) rfl rfl (by kernel_rfl) ?_ | refine A_loadN 4 [] H rfl (Wants.none rfl) rfl (by repeat (first | exact Reads.nil _ | apply Reads.cons rfl)) (by kernel_rfl) ?_
  refine A_lookup 5 [] (key := (a, b)) H rfl (Wants.none rfl) rfl rfl tkR (by kernel_rfl) ?_
  rw [lookV_v1]
  refine A_pv 6 rfl (Wants.none rfl) rfl (by kernel_rfl) ?_
  refine A_pv 7 rfl (Wants.none rfl) rfl (by kernel_rfl) ?_
  refine A_pv 8 rfl (Wants.none rfl) rfl (by kernel_rfl) ?_
  refine A_pv 9 rfl (Wants.none rfl) rfl (by kernel_rfl) ?_
  refine A_pv 10 rfl (Wants.none rfl) rfl (by kernel_rfl) ?_
  refine A_end (by kernel_rfl) (by repeat (first | exact InvL.nil | refine InvL.cons (.inr (Holds.at H)) ?_ | refine InvL.cons (.inr (Holds.mp H)) ?_ | refine InvL.cons (.inl (by kernel_rfl)) ?_)) ?_
  repeat refine C_seq ?_
  refine C_region ?_
  first | refine Lp_pv rfl rfl ?_ | refine Lp_mv rfl rfl ?_
  first | refine Lp_pv rfl rfl ?_ | refine Lp_mv rfl rfl ?_
  first | refine Lp_pv rfl rfl ?_ | refine Lp_mv rfl rfl ?_
  first | refine Lp_pv rfl rfl ?_ | refine Lp_mv rfl rfl ?_
  refine Lp_nil ?_
  refine C_ret (fn_end0 _ (.inr rfl) (RS_in bt bo bf (fun _ _ => Iff.rfl) (fun _ _ => Iff.rfl) H.drop) rfl fun w' H' => ⟨rfl, H'⟩)

theorem Cut_none [Extra] (r : Rf) {w : World} {fr : List HProp} (H : Holds w fr) : Calls Try.prog 12 #[.pointer none, rf r] w (ret fun v w' => v = .bool false ∧ Holds w' fr) := by
  obtain ⟨a, b⟩ := r
  refine calls_of Try.func12 rfl (by kernel_rfl) ?_
  repeat refine C_seq ?_
  refine C_region ?_
  first | (refine Lp_s rfl (St_boxN H rfl rfl ?_); clear H; intro b3 w H) | (refine Lp_s rfl (St_box1 H rfl rfl rfl ?_); clear H; intro b3 w H)
  first | refine Lp_pv rfl rfl ?_ | refine Lp_mv rfl rfl ?_
  refine Lp_nil ?_
  repeat refine C_seq ?_
  refine C_region ?_
  first | refine Lp_pv rfl rfl ?_ | refine Lp_mv rfl rfl ?_
  first | refine Lp_s rfl (St_load1 H rfl rfl rfl ?_) | refine Lp_s rfl (St_loadN H rfl (by repeat (first | exact Reads.nil _ | apply Reads.cons rfl)) rfl ?_)
  refine Lp_s rfl (St_call (a := []) (b := []) rfl rfl (call (To_none (a, b) H) ?_))
  clear H; rintro v w ⟨rfl, H⟩
  first | refine Lp_pv rfl rfl ?_ | refine Lp_mv rfl rfl ?_
  refine Lp_pv rfl rfl ?_
  refine Lp_pv rfl rfl ?_
  first | refine Lp_pv rfl rfl ?_ | refine Lp_mv rfl rfl ?_
  first | refine Lp_pv rfl rfl ?_ | refine Lp_mv rfl rfl ?_
  refine Lp_nil ?_
  repeat refine C_seq ?_
  refine C_region ?_
  first | refine Lp_pv rfl rfl ?_ | refine Lp_mv rfl rfl ?_
  refine Lp_pv rfl rfl ?_
  refine Lp_nil ?_
  repeat refine C_seq ?_
  refine C_true rfl ?_
  repeat refine C_seq ?_
  refine C_region ?_
  first | refine Lp_pv rfl rfl ?_ | refine Lp_mv rfl rfl ?_
  refine Lp_nil ?_
  refine C_ret (fn_end0 _ (.inr rfl) H.drop rfl fun w' H' => ⟨rfl, H'⟩)

theorem Cut_spec [Extra] (p : Nat) (m : List (Rf × Int)) (hm : (m.map (·.1)).Nodup) (r : Rf) {w : World} {fr : List HProp} (H : Holds w (RS p m :: fr)) :
    Calls Try.prog 12 #[pp p, rf r] w (ret fun v w' => v = .bool (fnd m r).isSome ∧ Holds w' (RS p (era m r) :: fr)) := by
  obtain ⟨a, b⟩ := r
  refine calls_of Try.func12 rfl (by kernel_rfl) ?_
  repeat refine C_seq ?_
  refine C_region ?_
  first | (refine Lp_s rfl (St_boxN H rfl rfl ?_); clear H; intro b3 w H) | (refine Lp_s rfl (St_box1 H rfl rfl rfl ?_); clear H; intro b3 w H)
  first | refine Lp_pv rfl rfl ?_ | refine Lp_mv rfl rfl ?_
  refine Lp_nil ?_
  repeat refine C_seq ?_
  refine C_region ?_
  first | refine Lp_pv rfl rfl ?_ | refine Lp_mv rfl rfl ?_
  first | refine Lp_s rfl (St_load1 H rfl rfl rfl ?_) | refine Lp_s rfl (St_loadN H rfl (by repeat (first | exact Reads.nil _ | apply Reads.cons rfl)) rfl ?_)
  refine Lp_s rfl (St_call (a := []) (b := []) rfl rfl (call (To_spec p m (a, b) H.swap) ?_))
  clear H; rintro v w ⟨rfl, H⟩
  first | refine Lp_pv rfl rfl ?_ | refine Lp_mv rfl rfl ?_
  refine Lp_pv rfl rfl ?_
  refine Lp_pv rfl rfl ?_
  first | refine Lp_pv rfl rfl ?_ | refine Lp_mv rfl rfl ?_
  first | refine Lp_pv rfl rfl ?_ | refine Lp_mv rfl rfl ?_
  refine Lp_nil ?_
  repeat refine C_seq ?_
  refine C_region ?_
  first | refine Lp_pv rfl rfl ?_ | refine Lp_mv rfl rfl ?_
  refine Lp_pv rfl rfl ?_
  refine Lp_nil ?_
  cases hf : fnd m (a, b) with
  | none =>
    repeat refine C_seq ?_
    refine C_true rfl ?_
    repeat refine C_seq ?_
    refine C_region ?_
    first | refine Lp_pv rfl rfl ?_ | refine Lp_mv rfl rfl ?_
    refine Lp_nil ?_
    rw [era_none (fnd_eq_none.1 hf)]
    refine C_ret (fn_end0 _ (.inr rfl) H.swap.drop rfl fun w' H' => ⟨rfl, H'⟩)
  | some t =>
    repeat refine C_seq ?_
    refine C_false rfl (C_skip ?_)
    obtain ⟨bt, bo, bf, H⟩ := RS_out H
    repeat refine C_seq ?_
    refine C_drawH H mixed ?_
    clear H; intro w H
    refine A_pv 0 rfl (Wants.none rfl) rfl (by kernel_rfl) ?_
    refine A_pv 1 rfl (Wants.none rfl) rfl (by kernel_rfl) ?_
    refine A_fieldAddr 2 rfl (Wants.none rfl) rfl (by kernel_rfl) ?_
    first | refine A_load1 3 [5] H rfl (Wants.none rfl) rfl rfl (by kernel_rfl) ?_ | refine A_loadN 3 [5] H rfl (Wants.none rfl) rfl (by repeat (first | exact Reads.nil _ | apply Reads.cons rfl)) (by kernel_rfl) ?_
    first | refine A_load1 4 [5] H rfl (Wants.none rfl) rfl rfl (by kernel_rfl) ?_ | refine A_loadN 4 [5] H rfl (Wants.none rfl) rfl (by repeat (first | exact Reads.nil _ | apply Reads.cons rfl)) (by kernel_rfl) ?_
    refine A_one 5 rfl (by kernel_rfl) (by repeat (first | exact InvL.nil | refine InvL.cons (.inr (Holds.at H)) ?_ | refine InvL.cons (.inr (Holds.mp H)) ?_ | refine InvL.cons (.inl (by kernel_rfl)) ?_)) (Wants.none rfl) (St_delete (key := (a, b)) H rfl rfl tkR rfl ?_); clear H; intro w H
    refine A_end (by kernel_rfl) (by repeat (first | exact InvL.nil | refine InvL.cons (.inr (Holds.at H)) ?_ | refine InvL.cons (.inr (Holds.mp H)) ?_ | refine InvL.cons (.inl (by kernel_rfl)) ?_)) ?_
    replace H := Holds.sel [2, 0, 0, 0, 0] 0 H; dsimp only [SL.sel, SL.pull, List.drop] at H
    repeat refine C_seq ?_
    refine C_drawH H mixed ?_
    clear H; intro w H
    refine A_pv 0 rfl (Wants.none rfl) rfl (by kernel_rfl) ?_
    refine A_pv 1 rfl (Wants.none rfl) rfl (by kernel_rfl) ?_
    refine A_fieldAddr 2 rfl (Wants.none rfl) rfl (by kernel_rfl) ?_
    first | refine A_load1 3 [6] H rfl (Wants.none rfl) rfl rfl (by kernel_rfl) ?_ | refine A_loadN 3 [6] H rfl (Wants.none rfl) rfl (by repeat (first | exact Reads.nil _ | apply Reads.cons rfl)) (by kernel_rfl) ?_
    refine A_pv 4 rfl (Wants.none rfl) rfl (by kernel_rfl) ?_
    first | refine A_load1 5 [6] H rfl (Wants.none rfl) rfl rfl (by kernel_rfl) ?_ | refine A_loadN 5 [6] H rfl (Wants.none rfl) rfl (by repeat (first | exact Reads.nil _ | apply Reads.cons rfl)) (by kernel_rfl) ?_
    refine A_one 6 rfl (by kernel_rfl) (by repeat (first | exact InvL.nil | refine InvL.cons (.inr (Holds.at H)) ?_ | refine InvL.cons (.inr (Holds.mp H)) ?_ | refine InvL.cons (.inl (by kernel_rfl)) ?_)) (Wants.none rfl) (St_call (a := []) (b := []) rfl rfl (call (lose_spec bo _ t (a, b) H) ?_))
    clear H; intro v w H
    refine A_end (by kernel_rfl) (by repeat (first | exact InvL.nil | refine InvL.cons (.inr (Holds.at H)) ?_ | refine InvL.cons (.inr (Holds.mp H)) ?_ | refine InvL.cons (.inl (by kernel_rfl)) ?_)) ?_
    replace H := Holds.sel [3, 0, 0, 0, 0] 0 H; dsimp only [SL.sel, SL.pull, List.drop] at H
    repeat refine C_seq ?_
    refine C_drawH H mixed ?_
    clear H; intro w H
    refine A_pv 0 rfl (Wants.none rfl) rfl (by kernel_rfl) ?_
    refine A_pv 1 rfl (Wants.none rfl) rfl (by kernel_rfl) ?_
    refine A_fieldAddr 2 rfl (Wants.none rfl) rfl (by kernel_rfl) ?_
    first | refine A_load1 3 [7] H rfl (Wants.none rfl) rfl rfl (by kernel_rfl) ?_ | refine A_loadN 3 [7] H rfl (Wants.none rfl) rfl (by repeat (first | exact Reads.nil _ | apply Reads.cons rfl)) (by kernel_rfl) ?_
    refine A_fieldAddr 4 rfl (Wants.none rfl) rfl (by kernel_rfl) ?_
    first | refine A_load1 5 [7] H rfl (Wants.none rfl) rfl rfl (by kernel_rfl) ?_ | refine A_loadN 5 [7] H rfl (Wants.none rfl) rfl (by repeat (first | exact Reads.nil _ | apply Reads.cons rfl)) (by kernel_rfl) ?_
    first | refine A_load1 6 [7] H rfl (Wants.none rfl) rfl rfl (by kernel_rfl) ?_ | refine A_loadN 6 [7] H rfl (Wants.none rfl) rfl (by repeat (first | exact Reads.nil _ | apply Reads.cons rfl)) (by kernel_rfl) ?_
    refine A_one 7 rfl (by kernel_rfl) (by repeat (first | exact InvL.nil | refine InvL.cons (.inr (Holds.at H)) ?_ | refine InvL.cons (.inr (Holds.mp H)) ?_ | refine InvL.cons (.inl (by kernel_rfl)) ?_)) (Wants.none rfl) (St_call (a := []) (b := []) rfl rfl (call (lose_spec bf _ a (a, b) H) ?_))
    clear H; intro v w H
    refine A_end (by kernel_rfl) (by repeat (first | exact InvL.nil | refine InvL.cons (.inr (Holds.at H)) ?_ | refine InvL.cons (.inr (Holds.mp H)) ?_ | refine InvL.cons (.inl (by kernel_rfl)) ?_)) ?_
    repeat refine C_seq ?_
    refine C_region ?_
    first | refine Lp_pv rfl rfl ?_ | refine Lp_mv rfl rfl ?_
    refine Lp_nil ?_
    replace H := Holds.sel [2, 2, 1, 0] 1 H; dsimp only [SL.sel, SL.pull, List.drop] at H
    refine C_ret (fn_end0 _ (.inr rfl) (RS_in bt bo bf (fun k r => ?_) (fun k r => ?_) H) rfl fun w' H' => ⟨rfl, H'⟩)
    · rw [fnd_era hm]
      split
      · rename_i e; subst e; rw [hf]; simp; rintro rfl; rfl
      · rename_i e; exact ⟨(·.1), fun h => ⟨h, fun e' => e e'.2.symm⟩⟩
    · rw [fnd_era hm]
      split
      · rename_i e; subst e; simp; rintro rfl _; rfl
      · rename_i e; exact ⟨(·.1), fun h => ⟨h, fun e' => e e'.2.symm⟩⟩

theorem Put_none [Extra] (r : Rf) (t : Int) {w : World} {fr : List HProp} (H : Holds w fr) : Calls Try.prog 11 #[.pointer none, rf r, .int .i64 t] w (ret fun v w' => v = .bool false ∧ Holds w' fr) := by
  obtain ⟨a, b⟩ := r
  refine calls_of Try.func11 rfl (by kernel_rfl) ?_
  repeat refine C_seq ?_
  refine C_region ?_
  first | (refine Lp_s rfl (St_boxN H rfl rfl ?_); clear H; intro b4 w H) | (refine Lp_s rfl (St_box1 H rfl rfl rfl ?_); clear H; intro b4 w H)
  first | refine Lp_pv rfl rfl ?_ | refine Lp_mv rfl rfl ?_
  refine Lp_nil ?_
  repeat refine C_seq ?_
  refine C_region ?_
  first | refine Lp_pv rfl rfl ?_ | refine Lp_mv rfl rfl ?_
  first | refine Lp_pv rfl rfl ?_ | refine Lp_s rfl (St_eqPtrNil rfl rfl (.inl rfl) rfl ?_) | refine Lp_s rfl (St_eqMapNil rfl rfl (.inl rfl) rfl ?_) | refine Lp_s rfl (St_eqPair rfl rfl (.inl rfl) rfl ?_) | refine Lp_s rfl (St_eqBool rfl rfl (.inl rfl) rfl ?_) | refine Lp_s rfl (St_eqStr rfl rfl (.inl rfl) rfl ?_)
  refine Lp_nil ?_
  repeat refine C_seq ?_
  refine C_true rfl ?_
  repeat refine C_seq ?_
  refine C_region ?_
  first | refine Lp_pv rfl rfl ?_ | refine Lp_mv rfl rfl ?_
  refine Lp_nil ?_
  refine C_ret (fn_end0 _ (.inr rfl) H.drop rfl fun w' H' => ⟨rfl, H'⟩)

theorem Put_spec [Extra] (p : Nat) (m : List (Rf × Int)) (hm : (m.map (·.1)).Nodup) (r : Rf) (t : Int) {w : World} {fr : List HProp} (H : Holds w (RS p m :: fr)) :
    Calls Try.prog 11 #[pp p, rf r, .int .i64 t] w (ret fun v w' => v = .bool (!(fnd m r).isSome) ∧ Holds w' (RS p (ins (era m r) r t) :: fr)) := by
  obtain ⟨a, b⟩ := r
  refine calls_of Try.func11 rfl (by kernel_rfl) ?_
  repeat refine C_seq ?_
  refine C_region ?_
  first | (refine Lp_s rfl (St_boxN H rfl rfl ?_); clear H; intro b4 w H) | (refine Lp_s rfl (St_box1 H rfl rfl rfl ?_); clear H; intro b4 w H)
  first | refine Lp_pv rfl rfl ?_ | refine Lp_mv rfl rfl ?_
  refine Lp_nil ?_
  repeat refine C_seq ?_
  refine C_region ?_
  first | refine Lp_pv rfl rfl ?_ | refine Lp_mv rfl rfl ?_
  first | refine Lp_pv rfl rfl ?_ | refine Lp_s rfl (St_eqPtrNil rfl rfl (.inl rfl) rfl ?_) | refine Lp_s rfl (St_eqMapNil rfl rfl (.inl rfl) rfl ?_) | refine Lp_s rfl (St_eqPair rfl rfl (.inl rfl) rfl ?_) | refine Lp_s rfl (St_eqBool rfl rfl (.inl rfl) rfl ?_) | refine Lp_s rfl (St_eqStr rfl rfl (.inl rfl) rfl ?_)
  refine Lp_nil ?_
  repeat refine C_seq ?_
  refine C_false rfl (C_skip ?_)
  repeat refine C_seq ?_
  refine C_region ?_
  first | refine Lp_pv rfl rfl ?_ | refine Lp_mv rfl rfl ?_
  first | refine Lp_s rfl (St_load1 H rfl rfl rfl ?_) | refine Lp_s rfl (St_loadN H rfl (by repeat (first | exact Reads.nil _ | apply Reads.cons rfl)) rfl ?_)
  refine Lp_s rfl (St_call (a := []) (b := []) rfl rfl (call (Cut_spec p m hm (a, b) H.swap) ?_))
  clear H; rintro v w ⟨rfl, H⟩
  first | refine Lp_pv rfl rfl ?_ | refine Lp_mv rfl rfl ?_
  refine Lp_nil ?_
  obtain ⟨bt, bo, bf, H⟩ := RS_out H
  repeat refine C_seq ?_
  refine C_drawH H mixed ?_
  clear H; intro w H
  refine A_pv 0 rfl (Wants.none rfl) rfl (by kernel_rfl) ?_
  refine A_pv 1 rfl (Wants.none rfl) rfl (by kernel_rfl) ?_
  refine A_fieldAddr 2 rfl (Wants.none rfl) rfl (by kernel_rfl) ?_
  first | refine A_load1 3 [6] H rfl (Wants.none rfl) rfl rfl (by kernel_rfl) ?_ | refine A_loadN 3 [6] H rfl (Wants.none rfl) rfl (by repeat (first | exact Reads.nil _ | apply Reads.cons rfl)) (by kernel_rfl) ?_
  first | refine A_load1 4 [6] H rfl (Wants.none rfl) rfl rfl (by kernel_rfl) ?_ | refine A_loadN 4 [6] H rfl (Wants.none rfl) rfl (by repeat (first | exact Reads.nil _ | apply Reads.cons rfl)) (by kernel_rfl) ?_
  refine A_pv 5 rfl (Wants.none rfl) rfl (by kernel_rfl) ?_
  refine A_one 6 rfl (by kernel_rfl) (by repeat (first | exact InvL.nil | refine InvL.cons (.inr (Holds.at H)) ?_ | refine InvL.cons (.inr (Holds.mp H)) ?_ | refine InvL.cons (.inl (by kernel_rfl)) ?_)) (Wants.none rfl) (St_mapUpdate (key := (a, b)) (v := t) H rfl rfl rfl tkR rfl ?_); clear H; intro w H
  refine A_end (by kernel_rfl) (by repeat (first | exact InvL.nil | refine InvL.cons (.inr (Holds.at H)) ?_ | refine InvL.cons (.inr (Holds.mp H)) ?_ | refine InvL.cons (.inl (by kernel_rfl)) ?_)) ?_
  replace H := Holds.sel [2, 0, 0, 0, 0] 0 H; dsimp only [SL.sel, SL.pull, List.drop] at H
  repeat refine C_seq ?_
  refine C_drawH H mixed ?_
  clear H; intro w H
  refine A_pv 0 rfl (Wants.none rfl) rfl (by kernel_rfl) ?_
  refine A_pv 1 rfl (Wants.none rfl) rfl (by kernel_rfl) ?_
  refine A_fieldAddr 2 rfl (Wants.none rfl) rfl (by kernel_rfl) ?_
  first | refine A_load1 3 [6] H rfl (Wants.none rfl) rfl rfl (by kernel_rfl) ?_ | refine A_loadN 3 [6] H rfl (Wants.none rfl) rfl (by repeat (first | exact Reads.nil _ | apply Reads.cons rfl)) (by kernel_rfl) ?_
  refine A_pv 4 rfl (Wants.none rfl) rfl (by kernel_rfl) ?_
  first | refine A_load1 5 [6] H rfl (Wants.none rfl) rfl rfl (by kernel_rfl) ?_ | refine A_loadN 5 [6] H rfl (Wants.none rfl) rfl (by repeat (first | exact Reads.nil _ | apply Reads.cons rfl)) (by kernel_rfl) ?_
  refine A_one 6 rfl (by kernel_rfl) (by repeat (first | exact InvL.nil | refine InvL.cons (.inr (Holds.at H)) ?_ | refine InvL.cons (.inr (Holds.mp H)) ?_ | refine InvL.cons (.inl (by kernel_rfl)) ?_)) (Wants.none rfl) (St_call (a := []) (b := []) rfl rfl (call (note_spec bo _ t (a, b) H) ?_))
  clear H; intro v w H
  refine A_end (by kernel_rfl) (by repeat (first | exact InvL.nil | refine InvL.cons (.inr (Holds.at H)) ?_ | refine InvL.cons (.inr (Holds.mp H)) ?_ | refine InvL.cons (.inl (by kernel_rfl)) ?_)) ?_
  replace H := Holds.sel [3, 0, 0, 0, 0] 0 H; dsimp only [SL.sel, SL.pull, List.drop] at H
  repeat refine C_seq ?_
  refine C_drawH H mixed ?_
  clear H; intro w H
  refine A_pv 0 rfl (Wants.none rfl) rfl (by kernel_rfl) ?_
  refine A_pv 1 rfl (Wants.none rfl) rfl (by kernel_rfl) ?_
  refine A_fieldAddr 2 rfl (Wants.none rfl) rfl (by kernel_rfl) ?_
  first | refine A_load1 3 [7] H rfl (Wants.none rfl) rfl rfl (by kernel_rfl) ?_ | refine A_loadN 3 [7] H rfl (Wants.none rfl) rfl (by repeat (first | exact Reads.nil _ | apply Reads.cons rfl)) (by kernel_rfl) ?_
  refine A_fieldAddr 4 rfl (Wants.none rfl) rfl (by kernel_rfl) ?_
  first | refine A_load1 5 [7] H rfl (Wants.none rfl) rfl rfl (by kernel_rfl) ?_ | refine A_loadN 5 [7] H rfl (Wants.none rfl) rfl (by repeat (first | exact Reads.nil _ | apply Reads.cons rfl)) (by kernel_rfl) ?_
  first | refine A_load1 6 [7] H rfl (Wants.none rfl) rfl rfl (by kernel_rfl) ?_ | refine A_loadN 6 [7] H rfl (Wants.none rfl) rfl (by repeat (first | exact Reads.nil _ | apply Reads.cons rfl)) (by kernel_rfl) ?_
  refine A_one 7 rfl (by kernel_rfl) (by repeat (first | exact InvL.nil | refine InvL.cons (.inr (Holds.at H)) ?_ | refine InvL.cons (.inr (Holds.mp H)) ?_ | refine InvL.cons (.inl (by kernel_rfl)) ?_)) (Wants.none rfl) (St_call (a := []) (b := []) rfl rfl (call (note_spec bf _ a (a, b) H) ?_))
  clear H; intro v w H
  refine A_end (by kernel_rfl) (by repeat (first | exact InvL.nil | refine InvL.cons (.inr (Holds.at H)) ?_ | refine InvL.cons (.inr (Holds.mp H)) ?_ | refine InvL.cons (.inl (by kernel_rfl)) ?_)) ?_
  repeat refine C_seq ?_
  refine C_region ?_
  first | refine Lp_pv rfl rfl ?_ | refine Lp_mv rfl rfl ?_
  refine Lp_pv rfl rfl ?_
  first | refine Lp_pv rfl rfl ?_ | refine Lp_mv rfl rfl ?_
  refine Lp_nil ?_
  replace H := Holds.sel [2, 2, 1, 0] 1 H; dsimp only [SL.sel, SL.pull, List.drop] at H
  have hn := fnd_era hm (x := (a, b)) (y := (a, b))
  rw [if_pos rfl] at hn
  refine C_ret (fn_end0 _ (.inr rfl) (RS_in bt bo bf (fun k r => ?_) (fun k r => ?_) H) rfl fun w' H' => ⟨rfl, H'⟩)
  · rw [fnd_ins]
    split
    · rename_i e; subst e; rw [hn]; simp; exact eq_comm
    · rename_i e; exact ⟨fun h => h.elim id fun e' => absurd e'.2.symm e, .inl⟩
  · rw [fnd_ins]
    split
    · rename_i e; subst e; rw [hn]; simp; exact eq_comm
    · rename_i e; exact ⟨fun h => h.elim id fun e' => absurd e'.2.symm e, .inl⟩

theorem Len_none [Extra] {w : World} {fr : List HProp} (H : Holds w fr) : Calls Try.prog 16 #[.pointer none] w (ret fun v w' => v = .int .i64 0 ∧ Holds w' fr) := by
  refine calls_of Try.func16 rfl (by kernel_rfl) ?_
  repeat refine C_seq ?_
  refine C_region ?_
  first | refine Lp_pv rfl rfl ?_ | refine Lp_mv rfl rfl ?_
  refine Lp_nil ?_
  repeat refine C_seq ?_
  refine C_region ?_
  first | refine Lp_pv rfl rfl ?_ | refine Lp_mv rfl rfl ?_
  first | refine Lp_pv rfl rfl ?_ | refine Lp_s rfl (St_eqPtrNil rfl rfl (.inl rfl) rfl ?_) | refine Lp_s rfl (St_eqMapNil rfl rfl (.inl rfl) rfl ?_) | refine Lp_s rfl (St_eqPair rfl rfl (.inl rfl) rfl ?_) | refine Lp_s rfl (St_eqBool rfl rfl (.inl rfl) rfl ?_) | refine Lp_s rfl (St_eqStr rfl rfl (.inl rfl) rfl ?_)
  refine Lp_nil ?_
  repeat refine C_seq ?_
  refine C_true rfl ?_
  repeat refine C_seq ?_
  refine C_region ?_
  first | refine Lp_pv rfl rfl ?_ | refine Lp_mv rfl rfl ?_
  refine Lp_nil ?_
  refine C_ret (fn_end0 _ (.inr rfl) H rfl fun w' H' => ⟨rfl, H'⟩)

theorem Len_spec [Extra] (p : Nat) (m : List (Rf × Int)) {w : World} {fr : List HProp} (H : Holds w (RS p m :: fr)) :
    Calls Try.prog 16 #[pp p] w (ret fun v w' => v = .int .i64 m.length ∧ Holds w' (RS p m :: fr)) := by
  refine calls_of Try.func16 rfl (by kernel_rfl) ?_
  obtain ⟨bt, bo, bf, H⟩ := RS_out H
  repeat refine C_seq ?_
  refine C_region ?_
  first | refine Lp_pv rfl rfl ?_ | refine Lp_mv rfl rfl ?_
  refine Lp_nil ?_
  repeat refine C_seq ?_
  refine C_region ?_
  first | refine Lp_pv rfl rfl ?_ | refine Lp_mv rfl rfl ?_
  first | refine Lp_pv rfl rfl ?_ | refine Lp_s rfl (St_eqPtrNil rfl rfl (.inl rfl) rfl ?_) | refine Lp_s rfl (St_eqMapNil rfl rfl (.inl rfl) rfl ?_) | refine Lp_s rfl (St_eqPair rfl rfl (.inl rfl) rfl ?_) | refine Lp_s rfl (St_eqBool rfl rfl (.inl rfl) rfl ?_) | refine Lp_s rfl (St_eqStr rfl rfl (.inl rfl) rfl ?_)
  refine Lp_nil ?_
  repeat refine C_seq ?_
  refine C_false rfl (C_skip ?_)
  repeat refine C_seq ?_
  refine C_region ?_
  first | refine Lp_pv rfl rfl ?_ | refine Lp_mv rfl rfl ?_
  refine Lp_pv rfl rfl ?_
  refine Lp_s rfl (St_fieldAddr rfl rfl ?_)
  first | refine Lp_s rfl (St_load1 H rfl rfl rfl ?_) | refine Lp_s rfl (St_loadN H rfl (by repeat (first | exact Reads.nil _ | apply Reads.cons rfl)) rfl ?_)
  refine Lp_s rfl (St_lenMap kp v1 H rfl rfl ?_)
  first | refine Lp_pv rfl rfl ?_ | refine Lp_mv rfl rfl ?_
  refine Lp_nil ?_
  refine C_ret (fn_end0 _ (.inr rfl) (RS_in bt bo bf (fun _ _ => Iff.rfl) (fun _ _ => Iff.rfl) H) rfl fun w' H' => ⟨rfl, H'⟩)
end Go.Proofs.Ytdpephigccnkdaa
