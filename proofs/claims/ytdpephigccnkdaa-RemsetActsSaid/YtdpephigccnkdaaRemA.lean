/- The remset's walks: note and lose. No condition. -/
import Derived.Test.YtdpephigccnkdaaIns
set_option linter.unusedVariables false
set_option linter.unusedSimpArgs false
set_option linter.unusedSectionVars false
namespace Go.Proofs.Ytdpephigccnkdaa
open Go.SL

abbrev Rf := Int × Int
theorem tkR : TKey Try.prog 24 kp := tkey_pair inferInstance
theorem tkI : TKey Try.prog 3 (ki .i64) := tkey_int inferInstance
@[reducible] def vm : Nat → Value := fun b => .map (some b)
@[reducible] def v1 : Int → Value := fun x => .int .i64 x
@[reducible] def rf (r : Rf) : Value := .agg #[.int .i64 r.1, .int .i64 r.2]

/-- A group: its number, its block, its references. -/
structure Gr where
  key : Int
  blk : Nat
  m : List (Rf × Int)

@[reducible] def inner (g : Gr) : HProp := mp kp v1 g.blk g.m
@[reducible] def gkb (g : Gr) : Int × Nat := (g.key, g.blk)
def mem (G : List Gr) (k : Int) (r : Rf) : Prop := ∃ g ∈ G, g.key = k ∧ r ∈ g.m.map (·.1)
def GrR (bo : Nat) (S : Int → Rf → Prop) : HProp := ex fun G => star [prop (∀ k r, mem G k r ↔ S k r), mp (ki .i64) vm bo (G.map gkb), star (G.map inner)]

theorem GrR_out [Extra] {w : World} {bo : Nat} {S : Int → Rf → Prop} {l : List HProp} (H : Holds w (GrR bo S :: l)) :
    ∃ G, (∀ k r, mem G k r ↔ S k r) ∧ Holds w (mp (ki .i64) vm bo (G.map gkb) :: star (G.map inner) :: l) := by
  obtain ⟨G, H⟩ := Holds.ex.1 H
  have H := Holds.star.1 H
  obtain ⟨h1, H⟩ := Holds.prop.1 H
  exact ⟨G, h1, H⟩

theorem GrR_in [Extra] {w : World} {bo : Nat} {S : Int → Rf → Prop} {l : List HProp} (G : List Gr) (h : ∀ k r, mem G k r ↔ S k r) (H : Holds w (mp (ki .i64) vm bo (G.map gkb) :: star (G.map inner) :: l)) : Holds w (GrR bo S :: l) :=
  Holds.ex.2 ⟨G, Holds.star.2 (Holds.prop.2 ⟨h, H⟩)⟩

theorem keys_nodup [Extra] {w : World} {K V : Type} {ek : K → Value} {vv : V → Value} (b : Nat) {m : List (K × V)} {l : List HProp} (H : Holds w l) [AtM ek vv b m l] : (m.map (·.1)).Nodup := by
  obtain ⟨es, c, _, h⟩ := Holds.mp H (ek := ek) (vv := vv) (b := b) (m := m)
  exact h.nodup

theorem gkb_keys (G : List Gr) : (G.map gkb).map (·.1) = G.map (·.key) := by simp [gkb, Function.comp_def]

theorem group_at {G : List Gr} {k : Int} {b : Nat} (h : fnd (G.map gkb) k = some b) : ∃ g g1 g2, G = g1 ++ g :: g2 ∧ g.key = k ∧ g.blk = b := by
  have h1 := fnd_mem h
  obtain ⟨g, hg, e⟩ := List.mem_map.1 h1
  obtain ⟨g1, g2, rfl⟩ := List.append_of_mem hg
  simp only [gkb, Prod.mk.injEq] at e
  exact ⟨g, g1, g2, rfl, e.1, e.2⟩

theorem era_mid {K V : Type} [DecidableEq K] {l1 l2 : List (K × V)} {p : K × V} (h : ((l1 ++ p :: l2).map (·.1)).Nodup) : era (l1 ++ p :: l2) p.1 = l1 ++ l2 := by
  induction l1 with
  | nil => simp [era]
  | cons q l1 ih =>
    simp only [List.cons_append, List.map_cons, List.nodup_cons] at h
    have hne : q.1 ≠ p.1 := fun e => h.1 (by rw [e]; simp)
    simp [era, hne, ih h.2]

theorem mem_mid {g1 g2 : List Gr} {g : Gr} {k : Int} {r : Rf} : mem (g1 ++ g :: g2) k r ↔ (g.key = k ∧ r ∈ g.m.map (·.1)) ∨ mem (g1 ++ g2) k r := by
  unfold mem
  simp only [List.mem_append, List.mem_cons]
  constructor
  · rintro ⟨x, hx | rfl | hx, h⟩
    · exact .inr ⟨x, .inl hx, h⟩
    · exact .inl h
    · exact .inr ⟨x, .inr hx, h⟩
  · rintro (h | ⟨x, hx | hx, h⟩)
    · exact ⟨g, .inr (.inl rfl), h⟩
    · exact ⟨x, .inl hx, h⟩
    · exact ⟨x, .inr (.inr hx), h⟩

theorem mem_key {G : List Gr} {k : Int} {r : Rf} (h : mem G k r) : k ∈ G.map (·.key) := by
  obtain ⟨g, hg, rfl, _⟩ := h
  exact List.mem_map_of_mem hg

theorem rest_key {g1 g2 : List Gr} {g : Gr} (h : ((g1 ++ g :: g2).map (·.key)).Nodup) : g.key ∉ (g1 ++ g2).map (·.key) := by
  rw [((List.perm_middle (a := g) (l₁ := g1) (l₂ := g2)).map (·.key)).nodup_iff] at h
  exact (List.nodup_cons.1 h).1

theorem mem_swap {g1 g2 : List Gr} {g g' : Gr} (hk : g'.key = g.key) (hn : ((g1 ++ g :: g2).map (·.key)).Nodup) {k : Int} {r : Rf} : mem (g1 ++ g' :: g2) k r ↔ if k = g.key then r ∈ g'.m.map (·.1) else mem (g1 ++ g :: g2) k r := by
  have hr := rest_key hn
  rw [mem_mid, mem_mid, hk]
  by_cases h : k = g.key
  · subst h
    simp only [if_true, true_and]
    exact ⟨fun h => h.elim id fun h => absurd (mem_key h) hr, .inl⟩
  · rw [if_neg h]
    constructor
    · rintro (⟨e, _⟩ | h')
      · exact absurd e.symm h
      · exact .inr h'
    · rintro (⟨e, _⟩ | h')
      · exact absurd e.symm h
      · exact .inr h'

theorem lose_spec [Extra] (bo : Nat) (S : Int → Rf → Prop) (k : Int) (r : Rf) {w : World} {fr : List HProp} (H : Holds w (GrR bo S :: fr)) :
    Calls Try.prog 26 #[.map (some bo), .int .i64 k, rf r] w (ret fun v w' => Holds w' (GrR bo (fun k' r' => S k' r' ∧ ¬ (k' = k ∧ r' = r)) :: fr)) := by
  obtain ⟨a, b⟩ := r
  refine calls_of Try.func26 rfl (by kernel_rfl) ?_
  obtain ⟨G, hG, H⟩ := GrR_out H
  repeat refine C_seq ?_
  refine C_region ?_
  first | (refine Lp_s rfl (St_boxN H rfl rfl ?_); clear H; intro b5 w H) | (refine Lp_s rfl (St_box1 H rfl rfl rfl ?_); clear H; intro b5 w H)
  refine Lp_nil ?_
  repeat refine C_seq ?_
  refine C_region ?_
  first | refine Lp_pv rfl rfl ?_ | refine Lp_mv rfl rfl ?_
  first | refine Lp_pv rfl rfl ?_ | refine Lp_mv rfl rfl ?_
  refine Lp_s rfl (St_lookup (key := k) H rfl rfl tkI rfl ?_)
  have hn0 := keys_nodup bo H
  have hn : (G.map (·.key)).Nodup := by rw [← gkb_keys]; exact hn0
  cases hf : fnd (G.map gkb) k with
  | none =>
    first | refine Lp_s rfl (St_load1 H rfl rfl rfl ?_) | refine Lp_s rfl (St_loadN H rfl (by repeat (first | exact Reads.nil _ | apply Reads.cons rfl)) rfl ?_)
    refine Lp_s rfl (St_delete_nil (key := (a, b)) rfl rfl tkR rfl ?_)
    refine Lp_nil ?_
    repeat refine C_seq ?_
    refine C_region ?_
    first | refine Lp_pv rfl rfl ?_ | refine Lp_mv rfl rfl ?_
    first | refine Lp_pv rfl rfl ?_ | refine Lp_mv rfl rfl ?_
    refine Lp_s rfl (St_lookup (key := k) H rfl rfl tkI rfl ?_)
    rw [hf]
    refine Lp_s rfl (St_lenMap_nil rfl rfl ?_)
    first | refine Lp_pv rfl rfl ?_ | refine Lp_s rfl (St_eqPtrNil rfl rfl (.inl rfl) rfl ?_) | refine Lp_s rfl (St_eqMapNil rfl rfl (.inl rfl) rfl ?_) | refine Lp_s rfl (St_eqPair rfl rfl (.inl rfl) rfl ?_) | refine Lp_s rfl (St_eqBool rfl rfl (.inl rfl) rfl ?_) | refine Lp_s rfl (St_eqStr rfl rfl (.inl rfl) rfl ?_)
    refine Lp_nil ?_
    refine C_true rfl ?_
    repeat refine C_seq ?_
    refine C_region ?_
    first | refine Lp_pv rfl rfl ?_ | refine Lp_mv rfl rfl ?_
    first | refine Lp_pv rfl rfl ?_ | refine Lp_mv rfl rfl ?_
    refine Lp_s rfl (St_delete (key := k) H rfl rfl tkI rfl ?_); clear H; intro w H
    refine Lp_nil ?_
    have hk := fnd_eq_none.1 hf
    rw [era_none hk] at H
    refine fn_end0 _ (.inl rfl) (GrR_in G (fun k' r' => ?_) H.drop) rfl (fun w' H' => H')
    rw [← hG k' r']
    exact ⟨fun h => ⟨h, fun e => hk (by rw [gkb_keys, ← e.1]; exact mem_key h)⟩, (·.1)⟩
  | some bi =>
    obtain ⟨g, g1, g2, rfl, rfl, rfl⟩ := group_at hf
    have H := (Holds.pick rfl).1 (H.pull 2)
    first | refine Lp_s rfl (St_load1 H rfl rfl rfl ?_) | refine Lp_s rfl (St_loadN H rfl (by repeat (first | exact Reads.nil _ | apply Reads.cons rfl)) rfl ?_)
    have hi := keys_nodup g.blk H
    refine Lp_s rfl (St_delete (key := (a, b)) H rfl rfl tkR rfl ?_); clear H; intro w H
    refine Lp_nil ?_
    repeat refine C_seq ?_
    refine C_region ?_
    first | refine Lp_pv rfl rfl ?_ | refine Lp_mv rfl rfl ?_
    first | refine Lp_pv rfl rfl ?_ | refine Lp_mv rfl rfl ?_
    refine Lp_s rfl (St_lookup (key := g.key) H rfl rfl tkI rfl ?_)
    rw [hf]
    refine Lp_s rfl (St_lenMap kp v1 H rfl rfl ?_)
    first | refine Lp_pv rfl rfl ?_ | refine Lp_s rfl (St_eqPtrNil rfl rfl (.inl rfl) rfl ?_) | refine Lp_s rfl (St_eqMapNil rfl rfl (.inl rfl) rfl ?_) | refine Lp_s rfl (St_eqPair rfl rfl (.inl rfl) rfl ?_) | refine Lp_s rfl (St_eqBool rfl rfl (.inl rfl) rfl ?_) | refine Lp_s rfl (St_eqStr rfl rfl (.inl rfl) rfl ?_)
    refine Lp_nil ?_
    refine C_cond rfl (fun ht => ?_) (fun ht => ?_)
    · repeat refine C_seq ?_
      refine C_region ?_
      first | refine Lp_pv rfl rfl ?_ | refine Lp_mv rfl rfl ?_
      first | refine Lp_pv rfl rfl ?_ | refine Lp_mv rfl rfl ?_
      refine Lp_s rfl (St_delete (key := g.key) H rfl rfl tkI rfl ?_); clear H; intro w H
      refine Lp_nil ?_
      have e : era ((g1 ++ g :: g2).map gkb) g.key = (g1 ++ g2).map gkb := by
        simp only [List.map_append, List.map_cons] at hn0 ⊢
        exact era_mid (p := gkb g) (by simpa using hn0)
      rw [e] at H
      refine fn_end0 _ (.inl rfl) (GrR_in (g1 ++ g2) (fun k' r' => ?_) (l := fr) ?_) rfl (fun w' H' => H')
      · have hr := rest_key hn
        have hz : era g.m (a, b) = [] := List.eq_nil_of_length_eq_zero (by simpa using ht)
        rw [← hG k' r', mem_mid]
        constructor
        · intro h
          exact ⟨.inr h, fun e => hr (by rw [← e.1]; exact mem_key h)⟩
        · rintro ⟨⟨rfl, h⟩ | h, h2⟩
          · have := (keys_era (m := g.m) (x := (a, b)) (y := r') hi).2 ⟨fun e => h2 ⟨rfl, e⟩, h⟩
            rw [hz] at this
            simp at this
          · exact h
      · replace H := Holds.sel [3, 1] 2 H; dsimp only [SL.sel, SL.pull, List.drop] at H
        exact H
    · refine C_skip ?_
      replace H := Holds.sel [0, 0, 1] 1 H; dsimp only [SL.sel, SL.pull, List.drop] at H
      refine fn_end0 _ (.inl rfl) (GrR_in (g1 ++ { g with m := era g.m (a, b) } :: g2) (fun k' r' => ?_) (l := fr) ?_) rfl (fun w' H' => H')
      · rw [mem_swap (g := g) (g' := { g with m := era g.m (a, b) }) rfl hn, ← hG k' r']
        split
        · rename_i e
          subst e
          rw [keys_era hi, mem_mid]
          have hr := rest_key hn
          constructor
          · rintro ⟨h1, h2⟩
            exact ⟨.inl ⟨rfl, h2⟩, fun e => h1 e.2⟩
          · rintro ⟨⟨_, h⟩ | h, h2⟩
            · exact ⟨fun e => h2 ⟨rfl, e⟩, h⟩
            · exact absurd (mem_key h) hr
        · rename_i e
          exact ⟨fun h => ⟨h, fun e' => e e'.1⟩, (·.1)⟩
      · have H := ((Holds.pick (R := inner) (gs := g1 ++ { g with m := era g.m (a, b) } :: g2) rfl).2 H).swap
        simpa only [List.map_append, List.map_cons, List.map_nil, gkb] using H

theorem note_spec [Extra] (bo : Nat) (S : Int → Rf → Prop) (k : Int) (r : Rf) {w : World} {fr : List HProp} (H : Holds w (GrR bo S :: fr)) :
    Calls Try.prog 25 #[.map (some bo), .int .i64 k, rf r] w (ret fun v w' => Holds w' (GrR bo (fun k' r' => S k' r' ∨ (k' = k ∧ r' = r)) :: fr)) := by
  obtain ⟨a, b⟩ := r
  refine calls_of Try.func25 rfl (by kernel_rfl) ?_
  obtain ⟨G, hG, H⟩ := GrR_out H
  repeat refine C_seq ?_
  refine C_region ?_
  first | (refine Lp_s rfl (St_boxN H rfl rfl ?_); clear H; intro b5 w H) | (refine Lp_s rfl (St_box1 H rfl rfl rfl ?_); clear H; intro b5 w H)
  refine Lp_nil ?_
  repeat refine C_seq ?_
  refine C_region ?_
  first | refine Lp_pv rfl rfl ?_ | refine Lp_mv rfl rfl ?_
  first | refine Lp_pv rfl rfl ?_ | refine Lp_mv rfl rfl ?_
  refine Lp_s rfl (St_lookup (key := k) H rfl rfl tkI rfl ?_)
  have hn0 := keys_nodup bo H
  have hn : (G.map (·.key)).Nodup := by rw [← gkb_keys]; exact hn0
  cases hf : fnd (G.map gkb) k with
  | none =>
    first | refine Lp_pv rfl rfl ?_ | refine Lp_s rfl (St_eqPtrNil rfl rfl (.inl rfl) rfl ?_) | refine Lp_s rfl (St_eqMapNil rfl rfl (.inl rfl) rfl ?_) | refine Lp_s rfl (St_eqPair rfl rfl (.inl rfl) rfl ?_) | refine Lp_s rfl (St_eqBool rfl rfl (.inl rfl) rfl ?_) | refine Lp_s rfl (St_eqStr rfl rfl (.inl rfl) rfl ?_)
    refine Lp_nil ?_
    refine C_true rfl ?_
    repeat refine C_seq ?_
    refine C_region ?_
    first | refine Lp_pv rfl rfl ?_ | refine Lp_mv rfl rfl ?_
    first | refine Lp_pv rfl rfl ?_ | refine Lp_mv rfl rfl ?_
    refine Lp_s rfl (St_makeMap v1 kp H rfl ?_); clear H; intro b12 w H
    refine Lp_s rfl (St_mapUpdate (key := k) (v := b12) H rfl rfl rfl tkI rfl ?_); clear H; intro w H
    refine Lp_nil ?_
    repeat refine C_seq ?_
    refine C_region ?_
    first | refine Lp_pv rfl rfl ?_ | refine Lp_mv rfl rfl ?_
    first | refine Lp_pv rfl rfl ?_ | refine Lp_mv rfl rfl ?_
    have hk := fnd_eq_none.1 hf
    refine Lp_s rfl (St_lookup (key := k) H rfl rfl tkI rfl ?_)
    have hf2 : fnd (ins (G.map gkb) k b12) k = some b12 := by rw [fnd_ins, if_pos rfl]
    rw [hf2]
    first | refine Lp_s rfl (St_load1 H rfl rfl rfl ?_) | refine Lp_s rfl (St_loadN H rfl (by repeat (first | exact Reads.nil _ | apply Reads.cons rfl)) rfl ?_)
    refine Lp_s rfl (St_mapUpdate (key := (a, b)) (v := 1) H rfl rfl rfl tkR rfl ?_); clear H; intro w H
    refine Lp_nil ?_
    rw [ins_none hk] at H
    replace H := Holds.sel [0, 2, 1] 1 H; dsimp only [SL.sel, SL.pull, List.drop] at H
    refine fn_end0 _ (.inl rfl) (GrR_in (G ++ { key := k, blk := b12, m := [((a, b), 1)] } :: []) (fun k' r' => ?_) (l := fr) ?_) rfl (fun w' H' => H')
    · rw [mem_mid, List.append_nil, hG k' r']
      constructor
      · rintro (⟨rfl, h⟩ | h)
        · exact .inr ⟨rfl, by simpa using h⟩
        · exact .inl h
      · rintro (h | ⟨rfl, rfl⟩)
        · exact .inr h
        · exact .inl ⟨rfl, by simp⟩
    · have H := ((Holds.pick (R := inner) (gs := G ++ { key := k, blk := b12, m := [((a, b), 1)] } :: []) rfl).2 (by rw [List.append_nil]; exact H)).swap
      simpa only [List.map_append, List.map_cons, List.map_nil, gkb] using H
  | some bi =>
    obtain ⟨g, g1, g2, rfl, rfl, rfl⟩ := group_at hf
    have H := (Holds.pick rfl).1 (H.pull 2)
    first | refine Lp_pv rfl rfl ?_ | refine Lp_s rfl (St_eqPtrNil rfl rfl (.inl rfl) rfl ?_) | refine Lp_s rfl (St_eqMapNil rfl rfl (.inl rfl) rfl ?_) | refine Lp_s rfl (St_eqPair rfl rfl (.inl rfl) rfl ?_) | refine Lp_s rfl (St_eqBool rfl rfl (.inl rfl) rfl ?_) | refine Lp_s rfl (St_eqStr rfl rfl (.inl rfl) rfl ?_)
    refine Lp_nil ?_
    refine C_false rfl (C_skip ?_)
    repeat refine C_seq ?_
    refine C_region ?_
    first | refine Lp_pv rfl rfl ?_ | refine Lp_mv rfl rfl ?_
    first | refine Lp_pv rfl rfl ?_ | refine Lp_mv rfl rfl ?_
    refine Lp_s rfl (St_lookup (key := g.key) H rfl rfl tkI rfl ?_)
    rw [hf]
    first | refine Lp_s rfl (St_load1 H rfl rfl rfl ?_) | refine Lp_s rfl (St_loadN H rfl (by repeat (first | exact Reads.nil _ | apply Reads.cons rfl)) rfl ?_)
    refine Lp_s rfl (St_mapUpdate (key := (a, b)) (v := 1) H rfl rfl rfl tkR rfl ?_); clear H; intro w H
    refine Lp_nil ?_
    replace H := Holds.sel [0, 0, 1] 1 H; dsimp only [SL.sel, SL.pull, List.drop] at H
    refine fn_end0 _ (.inl rfl) (GrR_in (g1 ++ { g with m := ins g.m (a, b) 1 } :: g2) (fun k' r' => ?_) (l := fr) ?_) rfl (fun w' H' => H')
    · rw [mem_swap (g := g) (g' := { g with m := ins g.m (a, b) 1 }) rfl hn, ← hG k' r']
      split
      · rename_i e
        subst e
        rw [keys_ins, mem_mid]
        have hr := rest_key hn
        constructor
        · rintro (h | h)
          · exact .inr ⟨rfl, h⟩
          · exact .inl (.inl ⟨rfl, h⟩)
        · rintro ((⟨_, h⟩ | h) | ⟨_, h⟩)
          · exact .inr h
          · exact absurd (mem_key h) hr
          · exact .inl h
      · rename_i e
        exact ⟨.inl, fun h => h.elim id fun e' => absurd e'.1 e⟩
    · have H := ((Holds.pick (R := inner) (gs := g1 ++ { g with m := ins g.m (a, b) 1 } :: g2) rfl).2 H).swap
      simpa only [List.map_append, List.map_cons, List.map_nil, gkb] using H
end Go.Proofs.Ytdpephigccnkdaa
