/- Cells: what is proved on the way: every input of the statement; no condition. Texts joined: LayD LayE RmB TreA CelP CelR BumA ImgA ImgB ImgC ImgD SrtI BagA RmC RmD RmE KidA TabA TabB TabC TabD CelA CelB CelC CelD CelE CelF CelG CelH AudA BmpC LnkA LnkB TabE. -/
import Derived.Test.YtipelpbkeiphmaaGreatDoorAad
set_option linter.unusedVariables false
set_option linter.unusedSimpArgs false
set_option linter.unusedSectionVars false
namespace Go.Proofs.YtipelpbkeiphmaaGreatDoor
open Go.SL

/-- A layout in the heap: its two slices, and what it is. -/
abbrev LyC := Value × Value × Lay
@[reducible] def bres (x : LyC) : HProp := star [NL x.1 x.2.2.refs, NL x.2.1 x.2.2.recs]
@[reducible] def bval (x : LyC) : List Value := [.int .i64 x.2.2.fixed, x.1, .int .i64 x.2.2.record, x.2.1]
def bcells (l : List LyC) : List Value := l.flatMap bval
def BOOK (p : Nat) (ls : List Lay) : HProp := ex fun q : Value × List LyC => star [prop (q.2.map (·.2.2) = ls ∧ ls.length ≤ 64 ∧ ∀ x ∈ ls, RightL x), pts p (row 354 [q.1]), sls 201 4 q.1 (bcells q.2), star (q.2.map bres)]
theorem BOOK_in [Extra] {w : World} {p : Nat} {ls : List Lay} {l : List HProp} {v : Value} {q : List LyC} (h : q.map (·.2.2) = ls ∧ ls.length ≤ 64 ∧ ∀ x ∈ ls, RightL x) (H : Holds w (pts p (row 354 [v]) :: sls 201 4 v (bcells q) :: star (q.map bres) :: l)) : Holds w (BOOK p ls :: l) :=
  Holds.ex.2 ⟨(v, q), Holds.star.2 (Holds.prop.2 ⟨h, H⟩)⟩

theorem NewBook_spec [Extra] {w : World} {fr : List HProp} (H : Holds w fr) : Calls Tryz.prog 188 #[] w (ret fun v w' => ∃ p, v = pp p ∧ Holds w' (BOOK p [] :: fr)) := by
  refine calls_of Tryz.func188 rfl (by kernel_rfl) ?_
  refine J20 H ?_
  refine J11 H ?_
  clear H; intro b2 w H
  refine J0 H ?_
  have H : Holds w (star (([] : List LyC).map bres) :: pts b2 (row 354 [.slice none 0 0]) :: fr) := Holds.star.2 H
  have H := sls_nil (E := 201) (k := 4) H
  replace H := Js [2,0,0] 0 H
  exact C_ret (Jy (BOOK_in (q := []) ⟨rfl, by simp, by simp⟩ H) rfl fun w' H' => ⟨_, rfl, H'⟩)

end Go.Proofs.YtipelpbkeiphmaaGreatDoor
namespace Go.Proofs.YtipelpbkeiphmaaGreatDoor
open Go.SL

end Go.Proofs.YtipelpbkeiphmaaGreatDoor
namespace Go.Proofs.YtipelpbkeiphmaaGreatDoor
open Go.SL



def RS (p : Nat) (m : List (Rf × Int)) : HProp := ex fun q : Nat × Nat × Nat =>
  star [pts p (row 220 [.map (some q.1), .map (some q.2.1), .map (some q.2.2)]), mp kp v1 q.1 m, GrR q.2.1 (fun k r => fnd m r = some k), GrR q.2.2 (fun k r => r.1 = k ∧ (fnd m r).isSome = true)]

theorem RS_in [Extra] {w : World} {p : Nat} {m : List (Rf × Int)} {l : List HProp} {S T : Int → Rf → Prop} (bt bo bf : Nat) (hS : ∀ k r, S k r ↔ fnd m r = some k) (hT : ∀ k r, T k r ↔ (r.1 = k ∧ (fnd m r).isSome = true))
    (H : Holds w (pts p (row 220 [.map (some bt), .map (some bo), .map (some bf)]) :: mp kp v1 bt m :: GrR bo S :: GrR bf T :: l)) : Holds w (RS p m :: l) := by
  have e1 : S = fun k r => fnd m r = some k := by funext k r; exact propext (hS k r)
  have e2 : T = fun k r => r.1 = k ∧ (fnd m r).isSome = true := by funext k r; exact propext (hT k r)
  subst e1 e2
  exact Holds.ex.2 ⟨(bt, bo, bf), Holds.star.2 H⟩

theorem GrR_empty [Extra] {w : World} {bo : Nat} {l : List HProp} (H : Holds w (mp (ki .i64) vm bo [] :: l)) : Holds w (GrR bo (fun _ _ => False) :: l) :=
  GrR_in [] (by simp [mem]) (Holds.swap ((Holds.star (k := [])).2 H))

theorem rNew_spec [Extra] {w : World} {fr : List HProp} (H : Holds w fr) : Calls Tryz.prog 191 #[] w (ret fun v w' => ∃ p, v = pp p ∧ Holds w' (RS p [] :: fr)) := by
  refine calls_of Tryz.func191 rfl (by kernel_rfl) ?_
  refine J20 H ?_
  refine Lp_s rfl (St_makeMap v1 kp H rfl ?_)
  clear H; intro b1 w H
  refine Lp_s rfl (St_makeMap vm (ki .i64) H rfl ?_)
  clear H; intro b2 w H
  refine Lp_s rfl (St_makeMap vm (ki .i64) H rfl ?_)
  clear H; intro b3 w H
  refine J11 H ?_
  clear H; intro b5 w H
  refine J0 H ?_
  refine C_ret ?_
  replace H := GrR_empty (H.pull 1)
  replace H := GrR_empty (H.pull 2)
  replace H := Js [2,2,0,0] 0 H
  exact Jy H rfl (fun w' H' => ⟨b5, rfl, RS_in b1 b2 b3 (S := fun _ _ => False) (T := fun _ _ => False) (by simp [fnd]) (by simp [fnd]) H'⟩)

end Go.Proofs.YtipelpbkeiphmaaGreatDoor
namespace Go.Proofs.YtipelpbkeiphmaaGreatDoor
open Go.SL

def TRE (p last : Nat) (par : List (Int × Int)) : HProp := ex fun b : Nat => star [pts p (row 207 [.map (some b), .int .i64 last]), mp (ki .i64) v1 b par]
theorem TRE_out [Extra] {w : World} {p last : Nat} {par : List (Int × Int)} {l : List HProp} (H : Holds w (TRE p last par :: l)) : ∃ b, Holds w (pts p (row 207 [.map (some b), .int .i64 last]) :: mp (ki .i64) v1 b par :: l) := by
  obtain ⟨b, H⟩ := Holds.ex.1 H
  exact ⟨b, Holds.star.1 H⟩
theorem TRE_in [Extra] {w : World} {p last b : Nat} {par : List (Int × Int)} {l : List HProp} (H : Holds w (pts p (row 207 [.map (some b), .int .i64 last]) :: mp (ki .i64) v1 b par :: l)) : Holds w (TRE p last par :: l) :=
  Holds.ex.2 ⟨b, Holds.star.2 H⟩
theorem trNew_spec [Extra] {w : World} {fr : List HProp} (H : Holds w fr) : Calls Tryz.prog 190 #[] w (ret fun v w' => ∃ p, v = pp p ∧ Holds w' (TRE p 0 [] :: fr)) := by
  refine calls_of Tryz.func190 rfl (by kernel_rfl) ?_
  refine J20 H ?_
  refine Lp_s rfl (St_makeMap v1 (ki .i64) H rfl ?_)
  clear H; intro b1 w H
  refine J11 H ?_
  clear H; intro b3 w H
  refine J0 H ?_
  exact C_ret (Jy H rfl fun w' H' => ⟨_, rfl, TRE_in H'⟩)

theorem trLen_spec [Extra] (p last : Nat) (par : List (Int × Int)) {w : World} {fr : List HProp} (H : Holds w (TRE p last par :: fr)) :
    Calls Tryz.prog 37 #[pp p] w (ret fun v w' => v = .int .i64 par.length ∧ Holds w' (TRE p last par :: fr)) := by
  obtain ⟨b, H⟩ := TRE_out H
  refine calls_of Tryz.func37 rfl (by kernel_rfl) ?_
  refine J31 H ?_
  refine Lp_s rfl (St_lenMap (ki .i64) v1 H rfl rfl ?_)
  refine J0 H ?_
  exact C_ret (Jy (TRE_in H) rfl fun w' H' => ⟨rfl, H'⟩)

end Go.Proofs.YtipelpbkeiphmaaGreatDoor
namespace Go.Proofs.YtipelpbkeiphmaaGreatDoor
/-! ### A table's slots -/

/-- What a used slot has: where its object is, its region, held, pinned; and what the object is: its layout, its count, its words. -/
structure Ent where
  addr : Nat
  region : Int
  held : Bool
  pinned : Bool
  lay : Nat
  count : Nat
  ws : List Nat
structure Slt where
  gen : Nat
  ent : Option Ent
/-! ### Chunks of an owner -/

structure Spc where
  parts : List (Nat × Nat)
  at' : Nat
  fin : Nat
def chunksOf (l : List (Nat × Nat)) : List Nat := l.flatMap fun p => (List.range p.2).map (p.1 + ·)

/-! ### All of it -/

structure CS where
  size : Nat
  own : List Nat
  lays : List Lay
  tab : List Slt
  last : Nat
  par : List (Int × Int)
  rem : List ((Int × Int) × Int)
  sps : List (Int × Nat × Spc)
  mns : List (Int × Nat × List Nat)

/-- An object's words, as they have to be. -/
structure ObjOK (lays : List Lay) (i : Nat) (e : Ent) : Prop where
  may : MayH e.lay e.count i
  lay : ∃ l, lays[e.lay - 1]? = some l ∧ RightL l ∧ sizeL l e.count = (e.ws.length, 0) ∧ ∀ p w, e.ws[p]? = some w → w < 18446744073709551616 ∧ (isRefL l p = true → ∃ k, okL k ∧ w = wordL k)

def endOf (e : Ent) : Nat := e.addr + 1 + e.ws.length
/-- The words lie in chunks of the object's region. -/
def Lies (size : Nat) (own : List Nat) (e : Ent) : Prop := endOf e ≤ own.length * size ∧ ∀ c, e.addr / size ≤ c → c ≤ (e.addr + e.ws.length) / size → ∃ r : Nat, own[c]? = some r ∧ (r : Int) = e.region ∧ 1 ≤ r

structure SpcOK (size : Nat) (own : List Nat) (r : Int) (S : Spc) : Prop where
  at1 : S.at' ≤ S.fin
  fin : S.fin ≠ 0 → ∃ c, S.fin = (c + 1) * size ∧ c * size < S.at' ∧ (c, 1) ∈ S.parts
  parts : ∀ p ∈ S.parts, 1 ≤ p.2 ∧ p.1 + p.2 ≤ own.length
  nodup : (chunksOf S.parts).Nodup
  owned : ∀ c, c ∈ chunksOf S.parts ↔ ∃ q : Nat, own[c]? = some q ∧ (q : Int) = r ∧ q ≠ 0

structure WF (s : CS) : Prop where
  size : 1 ≤ s.size ∧ s.size ≤ 1024
  own : 1 ≤ s.own.length ∧ s.own.length ≤ 63
  slots : 1 ≤ s.tab.length ∧ s.tab.length ≤ 63
  lays : s.lays.length ≤ 64 ∧ ∀ l ∈ s.lays, RightL l
  gen : ∀ (i : Nat) (t : Slt), s.tab[i]? = some t → t.gen ≤ 255 ∧ (t.ent.isSome = true → 1 ≤ t.gen)
  obj : ∀ (i g : Nat) (e : Ent), s.tab[i]? = some ⟨g, some e⟩ → ObjOK s.lays i e ∧ Lies s.size s.own e ∧ (∃ q, (e.region, q) ∈ s.par)
  apart : ∀ (i j g h : Nat) (e f : Ent), i ≠ j → s.tab[i]? = some ⟨g, some e⟩ → s.tab[j]? = some ⟨h, some f⟩ → endOf e ≤ f.addr ∨ endOf f ≤ e.addr
  par : s.par.length ≤ 64 ∧ s.last < 1000000 ∧ ∀ r q, (r, q) ∈ s.par → 1 ≤ r ∧ r ≤ s.last
  skeys : s.sps.map (·.1) = s.par.map (·.1)
  mkeys : s.mns.map (·.1) = s.par.map (·.1)
  spc : ∀ x ∈ s.sps, SpcOK s.size s.own x.1 x.2.2
  free : ∀ x ∈ s.sps, ∀ (i g : Nat) (e : Ent), s.tab[i]? = some ⟨g, some e⟩ → endOf e ≤ x.2.2.at' ∨ x.2.2.fin ≤ e.addr
  live : ∀ (c r : Nat), s.own[c]? = some r → r ≠ 0 → ∃ q, ((r : Int), q) ∈ s.par
  mine : ∀ x ∈ s.mns, x.2.2.Pairwise (· < ·) ∧ ∀ i, i ∈ x.2.2 ↔ ∃ g e, s.tab[i]? = some ⟨g, some e⟩ ∧ e.region = x.1
/-- What the words of a store are. -/
structure MemOK (s : CS) (mem : List Nat) : Prop where
  len : mem.length = s.own.length * s.size
  head : ∀ (i g : Nat) (e : Ent), s.tab[i]? = some ⟨g, some e⟩ → mem[e.addr]? = some (encH e.lay e.count i)
  words : ∀ (i g : Nat) (e : Ent), s.tab[i]? = some ⟨g, some e⟩ → ∀ (p w : Nat), e.ws[p]? = some w → mem[e.addr + 1 + p]? = some w
/-! ### Turns of the state -/

theorem tab_set {ts : List Slt} {i j : Nat} {t u : Slt} (h : (ts.set i t)[j]? = some u) : (j = i ∧ u = t ∧ i < ts.length) ∨ (j ≠ i ∧ ts[j]? = some u) := by
  rw [List.getElem?_set] at h
  by_cases hij : i = j
  · subst hij
    rw [if_pos rfl] at h
    split at h
    · rename_i hl
      injection h with h
      exact .inl ⟨rfl, h.symm, hl⟩
    · cases h
  · rw [if_neg hij] at h
    exact .inr ⟨fun e => hij e.symm, h⟩

/-- The same object, with other words, held or pinned otherwise. -/
structure Alike (e e' : Ent) : Prop where
  addr : e'.addr = e.addr
  region : e'.region = e.region
  lay : e'.lay = e.lay
  count : e'.count = e.count
  len : e'.ws.length = e.ws.length
theorem Alike.end {e e' : Ent} (h : Alike e e') : endOf e' = endOf e := by unfold endOf; rw [h.addr, h.len]
end Go.Proofs.YtipelpbkeiphmaaGreatDoor
namespace Go.Proofs.YtipelpbkeiphmaaGreatDoor
/-! ### An object more -/

theorem Lies.chunk {size : Nat} (h1 : 1 ≤ size) {own : List Nat} {e : Ent} (h : Lies size own e) (c : Nat) : (endOf e ≤ c * size ∨ (c + 1) * size ≤ e.addr) ∨ ∃ r : Nat, own[c]? = some r ∧ (r : Int) = e.region ∧ 1 ≤ r := by
  by_cases ha : c < e.addr / size
  · left; right
    have := (Nat.le_div_iff_mul_le (by omega)).1 (Nat.succ_le_of_lt ha)
    exact this
  · by_cases hb : (e.addr + e.ws.length) / size < c
    · left; left
      have := (Nat.div_lt_iff_lt_mul (by omega)).1 hb
      unfold endOf
      omega
    · right
      exact h.2 c (by omega) (by omega)

/-! ### A region more, a layout more -/

end Go.Proofs.YtipelpbkeiphmaaGreatDoor
namespace Go.Proofs.YtipelpbkeiphmaaGreatDoor
open Go.SL

@[reducible] def ptv (q : Nat × Nat) : List Value := [.int .i64 q.1, .int .i64 q.2]
def SPC (p sp owner : Nat) (S : Spc) : HProp := ex fun v : Value => star [pts p (row 269 [pp sp, .int .i64 owner, v, .int .i64 S.at', .int .i64 S.fin]), sls 271 2 v (S.parts.flatMap ptv)]
end Go.Proofs.YtipelpbkeiphmaaGreatDoor
namespace Go.Proofs.YtipelpbkeiphmaaGreatDoor
open Go.SL

@[reducible] def IMG (ip sp bp : Nat) : HProp := pts ip (row 262 [pp sp, pp bp])

theorem Owned.sub {size : Nat} {own : List Nat} {a n b m : Nat} (h : Owned size own a n) (h1 : a ≤ b) (h2 : b + m ≤ a + n) (h3 : 1 ≤ m) : Owned size own b m := fun c c1 c2 =>
  h c (Nat.le_trans (Nat.div_le_div_right h1) c1) (Nat.le_trans c2 (Nat.div_le_div_right (by omega)))

theorem iNew_spec [Extra] (sp bp : Nat) {w : World} {fr : List HProp} (H : Holds w fr) :
    Calls Tryz.prog 189 #[pp sp, pp bp] w (ret fun v w' => ∃ ip, v = .tuple #[pp ip, .int .i64 0] ∧ Holds w' (IMG ip sp bp :: fr)) := by
  refine calls_of Tryz.func189 rfl (by kernel_rfl) ?_
  refine J3 H ?_
  refine J13 H ?_
  refine Lp_s rfl (St_eqPtrNil rfl rfl (.inl rfl) rfl ?_)
  refine Lp_pv rfl rfl ?_
  refine J6 H ?_
  refine Lp_g rfl rfl rfl (St_eqPtrNil rfl rfl (.inl rfl) rfl ?_)
  refine J16 H ?_
  refine J5 H ?_
  refine J11 H ?_
  clear H; intro b15 w H
  refine J2 H ?_
  exact C_ret (Jy H rfl fun w' H' => ⟨_, rfl, H'⟩)

end Go.Proofs.YtipelpbkeiphmaaGreatDoor
namespace Go.Proofs.YtipelpbkeiphmaaGreatDoor
open Go.SL

end Go.Proofs.YtipelpbkeiphmaaGreatDoor
namespace Go.Proofs.YtipelpbkeiphmaaGreatDoor
open Go.SL

end Go.Proofs.YtipelpbkeiphmaaGreatDoor
namespace Go.Proofs.YtipelpbkeiphmaaGreatDoor
open Go.SL

end Go.Proofs.YtipelpbkeiphmaaGreatDoor
namespace Go.Proofs.YtipelpbkeiphmaaGreatDoor
open Go.SL

end Go.Proofs.YtipelpbkeiphmaaGreatDoor
namespace Go.Proofs.YtipelpbkeiphmaaGreatDoor
open Go.SL

def BAG (p : Nat) (l : List Nat) : HProp := ex fun v : Value => star [pts p (row 234 [v]), NL v l]
end Go.Proofs.YtipelpbkeiphmaaGreatDoor
namespace Go.Proofs.YtipelpbkeiphmaaGreatDoor
open Go.SL

end Go.Proofs.YtipelpbkeiphmaaGreatDoor
namespace Go.Proofs.YtipelpbkeiphmaaGreatDoor
open Go.SL

def ltR (x y : Rf) : Prop := x.1 < y.1 ∨ x.1 = y.1 ∧ x.2 < y.2
instance (x y : Rf) : Decidable (ltR x y) := by unfold ltR; exact inferInstance

end Go.Proofs.YtipelpbkeiphmaaGreatDoor
namespace Go.Proofs.YtipelpbkeiphmaaGreatDoor
open Go.SL

theorem mpv_some [Extra] {w : World} {K V : Type} {ek : K → Value} {vv : V → Value} {b : Nat} {m : List (K × V)} {l : List HProp} (H : Holds w (mpv ek vv (.map (some b)) m :: l)) : Holds w (mp ek vv b m :: l) := H.head fun h hm => by
  rcases hm with ⟨h, _⟩ | ⟨b', h, hm⟩
  · cases h
  · cases h; exact hm

end Go.Proofs.YtipelpbkeiphmaaGreatDoor
namespace Go.Proofs.YtipelpbkeiphmaaGreatDoor
open Go.SL

theorem ki_inj : ∀ a b : Int, ki .i64 a = ki .i64 b → a = b := fun a b h => by cases h; rfl
end Go.Proofs.YtipelpbkeiphmaaGreatDoor
namespace Go.Proofs.YtipelpbkeiphmaaGreatDoor
open Go.SL

@[reducible] def evl (e : Ent) : List Value := [.int .i64 e.addr, .int .i64 e.region, .bool e.held, .bool e.pinned]
def tval (t : Slt) : List Value := match t.ent with
  | none => [.int .i64 t.gen, .bool false, .int .i64 0, .int .i64 0, .bool false, .bool false]
  | some e => [.int .i64 t.gen, .bool true, .int .i64 e.addr, .int .i64 e.region, .bool e.held, .bool e.pinned]
theorem tval_len (t : Slt) : (tval t).length = 6 := by unfold tval; split <;> rfl
def busy (t : Slt) : Bool := t.ent.isSome || t.gen == 255
def goneT (ts : List Slt) : Nat := (ts.filter fun t => t.ent.isNone && t.gen == 255).length
def busyT (ts : List Slt) : Nat := (ts.filter busy).length

structure TabOk (ts : List Slt) (x : Nat) : Prop where
  bits : Bits ts.length x
  bit : ∀ (i : Nat) (t : Slt), ts[i]? = some t → x.testBit i = busy t
  gen : ∀ (i : Nat) (t : Slt), ts[i]? = some t → t.gen ≤ 255

theorem cnt_filter {α : Type} {ts : List α} {f : α → Bool} {x : Nat} (h : ∀ (i : Nat) (t : α), ts[i]? = some t → x.testBit i = f t) : cntB ts.length x = (ts.filter f).length := by
  unfold cntB
  have e2 : ∀ (l : List α) (k : Nat), (∀ (i : Nat) (t : α), l[i]? = some t → x.testBit (k + i) = f t) → ((List.range' k l.length).filter fun i => x.testBit i).length = (l.filter f).length := by
    intro l
    induction l with
    | nil => intro k _; rfl
    | cons a l ih =>
      intro k hk
      have h0 := hk 0 a rfl
      have hr := ih (k + 1) (fun i t ht => by rw [show k + 1 + i = k + (i + 1) by omega]; exact hk (i + 1) t (by simpa using ht))
      rw [List.length_cons, List.range'_succ, List.filter_cons, List.filter_cons]
      rw [Nat.add_zero] at h0
      rw [h0]
      split
      · simp [hr]
      · exact hr
  rw [List.range_eq_range']
  exact e2 ts 0 (fun i t ht => by rw [Nat.zero_add]; exact h i t ht)
theorem TabOk.cnt {ts : List Slt} {x : Nat} (h : TabOk ts x) : cntB ts.length x = busyT ts := cnt_filter h.bit

def TAB (p : Nat) (ts : List Slt) : HProp := ex fun q : Value × Nat × Nat => star [prop (TabOk ts q.2.2), pts p (row 216 [q.1, pp q.2.1, .int .i64 (goneT ts)]), sls 223 6 q.1 (ts.flatMap tval), BM1 q.2.1 ts.length q.2.2]
theorem TAB_out [Extra] {w : World} {p : Nat} {ts : List Slt} {l : List HProp} (H : Holds w (TAB p ts :: l)) : ∃ b c s u x, TabOk ts x ∧ ts.length ≤ c ∧
    Holds w (pts p (row 216 [.slice (some ⟨b, 0, none⟩) ts.length c, pp u, .int .i64 (goneT ts)]) :: pts b (row 223 (ts.flatMap tval ++ s)) :: BM1 u ts.length x :: l) ∧
    ∀ w' l' ts' x', ts'.length = ts.length → goneT ts' = goneT ts → TabOk ts' x' → Holds w' (pts p (row 216 [.slice (some ⟨b, 0, none⟩) ts.length c, pp u, .int .i64 (goneT ts)]) :: pts b (row 223 (ts'.flatMap tval ++ s)) :: BM1 u ts.length x' :: l') → Holds w' (TAB p ts' :: l') := by
  obtain ⟨⟨v, u, x⟩, H⟩ := Holds.ex.1 H
  have H := Holds.star.1 H
  obtain ⟨h, H⟩ := Holds.prop.1 H
  replace H : Holds w (pts p (row 216 [v, pp u, .int .i64 (goneT ts)]) :: sls 223 6 v (ts.flatMap tval) :: BM1 u ts.length x :: l) := H
  obtain ⟨a, c, rfl⟩ := sls_slice H.drop (flat_len tval_len ts) (by decide)
  obtain ⟨b, s, rfl, H, hcap, hsp, hclose⟩ := sls_open2 H.swap h.bits.pos
  refine ⟨b, c, s, u, x, h, hcap, H.swap, fun w' l' ts' x' e1 e2 h' H' => ?_⟩
  have H' := hclose w' _ (ts'.flatMap tval) (by rw [flat_len tval_len, flat_len tval_len, e1]) H'.swap
  refine Holds.ex.2 ⟨(.slice (some ⟨b, 0, none⟩) ts.length c, u, x'), Holds.star.2 (Holds.prop.2 ⟨h', ?_⟩)⟩
  show Holds w' (pts p (row 216 [_, pp u, .int .i64 (goneT ts')]) :: sls 223 6 _ _ :: BM1 u ts'.length x' :: l')
  rw [e1, e2]
  exact H'.swap
theorem tNew_spec [Extra] (n : Nat) (h1 : 1 ≤ n) (h2 : n ≤ 63) {w : World} {fr : List HProp} (H : Holds w fr) :
    Calls Tryz.prog 187 #[.int .i64 n] w (ret fun v w' => ∃ p, v = .tuple #[pp p, .int .i64 0] ∧ Holds w' (TAB p (List.replicate n ⟨0, none⟩) :: fr)) := by
  refine calls_of Tryz.func187 rfl (by kernel_rfl) ?_
  refine J3 H ?_
  refine J5 H ?_
  rw [show decide ((n : Int) < 1) = false from decide_eq_false (by omega)]
  refine J27 H ?_
  rw [show decide ((n : Int) > 4096) = false from decide_eq_false (by omega)]
  refine J16 H ?_
  refine J13 H ?_
  refine Jc rfl rfl (bNew_spec n (by omega) (by omega) H) ?_
  clear H; rintro v w ⟨u, rfl, H⟩
  refine J12 H ?_
  refine J21 H ?_
  refine Lp_s rfl (St_makeSlice H rfl rfl (by decide) (by omega) rfl ?_)
  clear H; intro b18 w H
  refine Lp_pv rfl rfl ?_
  refine J11 H ?_
  clear H; intro b21 w H
  refine J2 H ?_
  have hz : zeros (cellsL (.agg #[.int .i64 0, .bool false, .int .i64 0, .int .i64 0, .bool false, .bool false])) n = (List.replicate n (⟨0, none⟩ : Slt)).flatMap tval := by
    clear H
    clear h1 h2
    induction n with
    | zero => rfl
    | succ n ih => show _ ++ zeros _ n = _; rw [ih, List.replicate_succ, List.flatMap_cons]; rfl
  have hlen : (List.replicate n (⟨0, none⟩ : Slt)).length = n := by simp
  have hgone : goneT (List.replicate n (⟨0, none⟩ : Slt)) = 0 := by
    unfold goneT
    rw [List.filter_eq_nil_iff.2 (fun t ht => by rw [List.eq_of_mem_replicate ht]; simp)]
    rfl
  have hok : TabOk (List.replicate n (⟨0, none⟩ : Slt)) 0 := by
    refine ⟨by rw [hlen]; exact ⟨by omega, h2, Nat.two_pow_pos _⟩, fun i t ht => ?_, fun i t ht => ?_⟩
    · rw [List.eq_of_mem_replicate (List.mem_of_getElem? ht), Nat.zero_testBit]; rfl
    · rw [List.eq_of_mem_replicate (List.mem_of_getElem? ht)]; simp
  have hbm : BM u n (List.replicate ((n + 63) / 64) 0) 0 = BM1 u n 0 := by
    rw [show (n + 63) / 64 = 1 by omega]
    have : cntB n 0 = 0 := by
      unfold cntB
      rw [List.filter_eq_nil_iff.2 (fun i _ => by simp)]
      rfl
    show BM u n [0] 0 = BM u n [0] (cntB n 0)
    rw [this]
  rw [hz, hbm] at H
  refine C_ret (Jy H rfl fun w' H' => ⟨_, rfl, Holds.ex.2 ⟨(.slice (some ⟨b18, 0, none⟩) n n, u, 0), Holds.star.2 (Holds.prop.2 ⟨hok, ?_⟩)⟩⟩)
  show Holds w' (pts b21 (row 216 [_, pp u, .int .i64 (goneT (List.replicate n (⟨0, none⟩ : Slt)))]) :: sls 223 6 _ _ :: BM1 u (List.replicate n (⟨0, none⟩ : Slt)).length 0 :: fr)
  rw [hgone, hlen]
  exact H'

theorem Left_spec [Extra] (p : Nat) (ts : List Slt) {w : World} {fr : List HProp} (H : Holds w (TAB p ts :: fr)) :
    Calls Tryz.prog 65 #[pp p] w (ret fun v w' => v = .int .i64 ((ts.length - busyT ts : Nat) : Int) ∧ Holds w' (TAB p ts :: fr)) := by
  obtain ⟨b, c, s, u, x, hok, hc, H, hclose⟩ := TAB_out H
  have hb := hok.bits.le
  have hcnt := hok.cnt
  have hle := cntB_le ts.length x
  refine calls_of Tryz.func65 rfl (by kernel_rfl) ?_
  refine J44 H ?_
  refine J19 H ?_
  clear H; intro w H
  refine J18 H ?_
  refine J26 H ?_
  refine A_load1 3 [] H rfl (Wants.none rfl) rfl rfl (by kernel_rfl) ?_
  refine A_lenSlice 4 rfl (Wants.none rfl) rfl (by kernel_rfl) ?_
  refine J33 H ?_
  refine J35 H ?_
  refine A_load1 8 [9] H rfl (Wants.none rfl) rfl rfl (by kernel_rfl) ?_
  replace H := Js [2,0,0] 0 H
  refine Jo 9 H ?_
  refine Jk rfl rfl (Count_spec u _ _ _ H) ?_
  clear H; rintro v w ⟨rfl, H⟩
  refine J34 H ?_
  replace H := Js [1,1,0] 0 H
  refine C_ret (Jy (hclose _ _ ts x rfl rfl hok H) rfl fun w' H' => ⟨?_, H'⟩)
  show Value.int .i64 (IntKind.i64.wrap ((ts.length : Int) - (cntB ts.length x : Int))) = _
  rw [wrap64 (by omega) (by omega), ← hcnt]
  congr 1
  omega
end Go.Proofs.YtipelpbkeiphmaaGreatDoor
namespace Go.Proofs.YtipelpbkeiphmaaGreatDoor
open Go.SL

@[reducible] def tkI2 (i g : Int) : Value := .agg #[.int .i64 i, .int .i64 g]

end Go.Proofs.YtipelpbkeiphmaaGreatDoor
namespace Go.Proofs.YtipelpbkeiphmaaGreatDoor
open Go.SL

theorem TabOk.set {ts : List Slt} {x k : Nat} {t t' : Slt} (h : TabOk ts x) (hk : ts[k]? = some t) (hb : busy t' = busy t) (hg : t'.gen ≤ 255) : TabOk (ts.set k t') x := by
  refine ⟨by rw [List.length_set]; exact h.bits, fun i u hu => ?_, fun i u hu => ?_⟩
  · rcases tab_set hu with ⟨rfl, rfl, _⟩ | ⟨_, hu⟩
    · rw [hb]; exact h.bit _ _ hk
    · exact h.bit _ _ hu
  · rcases tab_set hu with ⟨rfl, rfl, _⟩ | ⟨_, hu⟩
    · exact hg
    · exact h.gen _ _ hu

theorem Used_spec [Extra] (p : Nat) (ts : List Slt) {w : World} {fr : List HProp} (H : Holds w (TAB p ts :: fr)) :
    Calls Tryz.prog 35 #[pp p] w (ret fun v w' => v = .int .i64 ((busyT ts - goneT ts : Nat) : Int) ∧ Holds w' (TAB p ts :: fr)) := by
  obtain ⟨b, c, s, u, x, hok, hc, H, hclose⟩ := TAB_out H
  have hb := hok.bits.le
  have hcnt := hok.cnt
  have hle := cntB_le ts.length x
  have hgb : goneT ts ≤ busyT ts := by
    unfold goneT busyT
    refine List.Sublist.length_le ?_
    have : ts.filter (fun t => t.ent.isNone && t.gen == 255) = (ts.filter busy).filter (fun t => t.ent.isNone && t.gen == 255) := by
      rw [List.filter_filter]
      apply List.filter_congr
      intro t _
      unfold busy
      cases t.ent <;> simp
    rw [this]
    exact List.filter_sublist
  refine calls_of Tryz.func35 rfl (by kernel_rfl) ?_
  refine J44 H ?_
  refine J19 H ?_
  clear H; intro w H
  refine J18 H ?_
  refine J26 H ?_
  refine A_load1 3 [4] H rfl (Wants.none rfl) rfl rfl (by kernel_rfl) ?_
  refine J33 H ?_
  refine J35 H ?_
  refine A_load1 8 [] H rfl (Wants.none rfl) rfl rfl (by kernel_rfl) ?_
  replace H := Js [2,0,0] 0 H
  refine Jo 4 H ?_
  refine Jk rfl rfl (Count_spec u _ _ _ H) ?_
  clear H; rintro v w ⟨rfl, H⟩
  refine A_pv 9 rfl (Wants.none rfl) rfl (by kernel_rfl) ?_
  refine A_pv 10 rfl (Wants.none rfl) rfl (by kernel_rfl) ?_
  refine J8 H ?_
  replace H := Js [1,1,0] 0 H
  refine C_ret (Jy (hclose _ _ ts x rfl rfl hok H) rfl fun w' H' => ⟨?_, H'⟩)
  show Value.int .i64 (IntKind.i64.wrap ((cntB ts.length x : Int) - (goneT ts : Int))) = _
  rw [wrap64 (by omega) (by omega), ← hcnt]
  congr 1
  omega
end Go.Proofs.YtipelpbkeiphmaaGreatDoor
namespace Go.Proofs.YtipelpbkeiphmaaGreatDoor
open Go.SL

end Go.Proofs.YtipelpbkeiphmaaGreatDoor
namespace Go.Proofs.YtipelpbkeiphmaaGreatDoor
open Go.SL

structure Ptr where
  sp : Nat
  bp : Nat
  ip : Nat
  tp : Nat
  trp : Nat
  rp : Nat
  sm : Nat
  mm : Nat
@[reducible] def ptrv : Nat → Value := fun b => pp b
@[reducible] def spkey (x : Int × Nat × Spc) : Int × Nat := (x.1, x.2.1)
@[reducible] def mnkey (x : Int × Nat × List Nat) : Int × Nat := (x.1, x.2.1)
@[reducible] def spres (sp : Nat) (x : Int × Nat × Spc) : HProp := SPC x.2.1 sp x.1.toNat x.2.2
@[reducible] def mnres (x : Int × Nat × List Nat) : HProp := BAG x.2.1 x.2.2
@[reducible] def CROW (p : Nat) (q : Ptr) : HProp := pts p (row 76 [pp q.sp, pp q.bp, pp q.ip, pp q.tp, pp q.trp, pp q.rp, .map (some q.sm), .map (some q.mm)])
def CELL (p : Nat) (s : CS) : HProp := ex fun x : Ptr × List Nat => star [prop (WF s ∧ MemOK s x.2), CROW p x.1, IMG x.1.ip x.1.sp x.1.bp, BOOK x.1.bp s.lays, ST x.1.sp s.size x.2 s.own, TAB x.1.tp s.tab, TRE x.1.trp s.last s.par, RS x.1.rp s.rem,
  mp (ki .i64) ptrv x.1.sm (s.sps.map spkey), star (s.sps.map (spres x.1.sp)), mp (ki .i64) ptrv x.1.mm (s.mns.map mnkey), star (s.mns.map mnres)]
theorem CELL_out [Extra] {w : World} {p : Nat} {s : CS} {fr : List HProp} (H : Holds w (CELL p s :: fr)) : ∃ (q : Ptr) (mem : List Nat), WF s ∧ MemOK s mem ∧
    Holds w (CROW p q :: IMG q.ip q.sp q.bp :: BOOK q.bp s.lays :: ST q.sp s.size mem s.own :: TAB q.tp s.tab :: TRE q.trp s.last s.par :: RS q.rp s.rem :: mp (ki .i64) ptrv q.sm (s.sps.map spkey) :: star (s.sps.map (spres q.sp)) :: mp (ki .i64) ptrv q.mm (s.mns.map mnkey) :: star (s.mns.map mnres) :: fr) := by
  obtain ⟨⟨q, mem⟩, H⟩ := Holds.ex.1 H
  have H := Holds.star.1 H
  obtain ⟨h, H⟩ := Holds.prop.1 H
  exact ⟨q, mem, h.1, h.2, H⟩
theorem CELL_in [Extra] {w : World} {p : Nat} {s : CS} {fr : List HProp} {q : Ptr} {mem : List Nat} (h : WF s) (hm : MemOK s mem)
    (H : Holds w (CROW p q :: IMG q.ip q.sp q.bp :: BOOK q.bp s.lays :: ST q.sp s.size mem s.own :: TAB q.tp s.tab :: TRE q.trp s.last s.par :: RS q.rp s.rem :: mp (ki .i64) ptrv q.sm (s.sps.map spkey) :: star (s.sps.map (spres q.sp)) :: mp (ki .i64) ptrv q.mm (s.mns.map mnkey) :: star (s.mns.map mnres) :: fr)) : Holds w (CELL p s :: fr) :=
  Holds.ex.2 ⟨(q, mem), Holds.star.2 (Holds.prop.2 ⟨⟨h, hm⟩, H⟩)⟩

end Go.Proofs.YtipelpbkeiphmaaGreatDoor
namespace Go.Proofs.YtipelpbkeiphmaaGreatDoor
open Go.SL

end Go.Proofs.YtipelpbkeiphmaaGreatDoor
namespace Go.Proofs.YtipelpbkeiphmaaGreatDoor
open Go.SL

end Go.Proofs.YtipelpbkeiphmaaGreatDoor
namespace Go.Proofs.YtipelpbkeiphmaaGreatDoor
open Go.SL

end Go.Proofs.YtipelpbkeiphmaaGreatDoor
namespace Go.Proofs.YtipelpbkeiphmaaGreatDoor
open Go.SL

end Go.Proofs.YtipelpbkeiphmaaGreatDoor
namespace Go.Proofs.YtipelpbkeiphmaaGreatDoor
open Go.SL

end Go.Proofs.YtipelpbkeiphmaaGreatDoor
namespace Go.Proofs.YtipelpbkeiphmaaGreatDoor
open Go.SL

end Go.Proofs.YtipelpbkeiphmaaGreatDoor
namespace Go.Proofs.YtipelpbkeiphmaaGreatDoor
open Go.SL

theorem cNew_spec [Extra] (n size slots : Nat) (h1 : 1 ≤ n) (h2 : n ≤ 63) (h3 : 1 ≤ size) (h4 : size ≤ 1024) (h5 : 1 ≤ slots) (h6 : slots ≤ 63) {w : World} {fr : List HProp} (H : Holds w fr) :
    Calls Tryz.prog 103 #[.int .i64 n, .int .i64 size, .int .i64 slots] w (ret fun v w' => ∃ p, v = .tuple #[pp p, .int .i64 0] ∧
      Holds w' (CELL p ⟨size, List.replicate n 0, [], List.replicate slots ⟨0, none⟩, 0, [], [], [], []⟩ :: fr)) := by
  refine calls_of Tryz.func103 rfl (by kernel_rfl) ?_
  refine J3 H ?_
  refine J5 H ?_
  refine Jc rfl rfl (sNew_spec n size h1 (by omega) h3 h4 H) ?_
  clear H; rintro v w ⟨sp, rfl, H⟩
  refine J12 H ?_
  refine J17 H ?_
  refine J10 H ?_
  refine J13 H ?_
  refine Jc rfl rfl (tNew_spec slots h5 h6 H) ?_
  clear H; rintro v w ⟨tp, rfl, H⟩
  refine J12 H ?_
  refine J17 H ?_
  refine J10 H ?_
  refine J1 H ?_
  refine Jc rfl rfl (NewBook_spec H) ?_
  clear H; rintro v w ⟨bp, rfl, H⟩
  refine J0 H ?_
  refine J5 H ?_
  refine Jc rfl rfl (iNew_spec sp bp H) ?_
  clear H; rintro v w ⟨ip, rfl, H⟩
  refine J12 H ?_
  refine J0 H ?_
  refine J32 H ?_
  refine Jc rfl rfl (trNew_spec H) ?_
  clear H; rintro v w ⟨trp, rfl, H⟩
  refine Jc rfl rfl (rNew_spec H) ?_
  clear H; rintro v w ⟨rp, rfl, H⟩
  refine Lp_s rfl (St_makeMap ptrv (ki .i64) H rfl ?_)
  clear H; intro sm w H
  refine Lp_s rfl (St_makeMap ptrv (ki .i64) H rfl ?_)
  clear H; intro mm w H
  refine J11 H ?_
  clear H; intro b47 w H
  refine J2 H ?_
  have hget : ∀ {i : Nat} {t : Slt}, (List.replicate slots (⟨0, none⟩ : Slt))[i]? = some t → t = ⟨0, none⟩ := fun h => List.eq_of_mem_replicate (List.mem_of_getElem? h)
  have hget0 : ∀ {i r : Nat}, (List.replicate n 0)[i]? = some r → r = 0 := fun h => List.eq_of_mem_replicate (List.mem_of_getElem? h)
  have hw : WF ⟨size, List.replicate n 0, [], List.replicate slots ⟨0, none⟩, 0, [], [], [], []⟩ := by
    refine ⟨⟨h3, h4⟩, by simp; omega, by simp; omega, by simp, fun i t h => ?_, fun i g e h => ?_, fun i j g h e f _ hi _ => ?_, by simp, rfl, rfl, by simp, by simp, fun c r h h0 => ?_, by simp⟩
    · have := hget h; subst this; simp
    · have := hget h; cases this
    · have := hget hi; cases this
    · exact absurd (hget0 h) h0
  have hm : MemOK ⟨size, List.replicate n 0, [], List.replicate slots ⟨0, none⟩, 0, [], [], [], []⟩ (List.replicate (n * size) 0) := by
    refine ⟨by simp, fun i g e h => ?_, fun i g e h => ?_⟩
    · have := hget h; cases this
    · have := hget h; cases this
  have H : Holds w (star (([] : List (Int × Nat × Spc)).map (spres sp)) :: _) := Holds.star.2 H
  have H : Holds w (star (([] : List (Int × Nat × List Nat)).map mnres) :: _) := Holds.star.2 H
  replace H := Js [2,6,6,7,6,5,4,3,1,1,0] 0 H
  have H := CELL_in (s := ⟨size, List.replicate n 0, [], List.replicate slots ⟨0, none⟩, 0, [], [], [], []⟩) (q := ⟨sp, bp, ip, tp, trp, rp, sm, mm⟩) hw hm H
  exact C_ret (Jy H rfl fun w' H' => ⟨_, rfl, H'⟩)
end Go.Proofs.YtipelpbkeiphmaaGreatDoor
namespace Go.Proofs.YtipelpbkeiphmaaGreatDoor
open Go.SL

theorem fIns_none [Extra] (f : FuncId) {w : World} {fr : List HProp} (H : Holds w fr) :
    Calls Tryz.prog 230 #[.slice none 0 0, .int .i64 0, .int .i64 0, .func (.func f) #[] #[]] w (ret fun v w' => v = .tuple #[] ∧ Holds w' fr) := by
  refine calls_of Tryz.func230 rfl (by kernel_rfl) ?_
  refine J5 H ?_
  refine J4 H ?_
  refine C_block ?_
  refine C_loop (fun ms σ w n => ms = [] ∧ n = 0 ∧ σ 2 = .int .i64 0 ∧ σ 8 = .int .i64 1 ∧ Holds w fr) (m := 0) ⟨rfl, rfl, rfl, rfl, H⟩ ?_
  clear H
  rintro ms σ w n ⟨rfl, rfl, g2, g8, H⟩
  rw [upd_self g2, upd_self g8]
  refine J5 H ?_
  refine J4 H ?_
  refine C_false rfl (C_exit ?_)
  exact fn_end0 _ (.inl rfl) H rfl fun w' H' => ⟨rfl, H'⟩

theorem fPdq_none [Extra] (f : FuncId) (lim : Int) {w : World} {fr : List HProp} (H : Holds w fr) :
    Calls Tryz.prog 161 #[.slice none 0 0, .int .i64 0, .int .i64 0, .int .i64 lim, .func (.func f) #[] #[]] w (ret fun v w' => v = .tuple #[] ∧ Holds w' fr) := by
  refine calls_of Tryz.func161 rfl (by kernel_rfl) ?_
  refine J20 H ?_
  refine J4 H ?_
  refine C_block ?_
  refine C_loop (fun ms σ w n => ms = [] ∧ n = 0 ∧ σ 0 = .slice none 0 0 ∧ σ 1 = .int .i64 0 ∧ σ 2 = .int .i64 0 ∧ σ 4 = .func (.func f) #[] #[] ∧ Holds w fr) (m := 0) ⟨rfl, rfl, rfl, rfl, rfl, rfl, H⟩ ?_
  clear H
  rintro ms σ w n ⟨rfl, rfl, g0, g1, g2, g4, H⟩
  rw [upd_self g0, upd_self g1, upd_self g2, upd_self g4]
  refine C_block ?_
  refine J5 H ?_
  refine J2 H ?_
  refine J3 H ?_
  repeat refine C_seq ?_
  refine C_true rfl ?_
  refine J32 H ?_
  refine Jc rfl rfl (fIns_none f H) ?_
  clear H; rintro v w ⟨rfl, H⟩
  refine Lp_nil ?_
  exact C_ret (Jy H rfl fun w' H' => ⟨rfl, H'⟩)

theorem bLen_zero [Extra] {w : World} {fr : List HProp} (H : Holds w fr) :
    Calls Tryz.prog 162 #[.int .u64 0] w (ret fun v w' => v = .int .i64 (Lib.bitLen 0) ∧ Holds w' fr) := by
  refine calls_of Tryz.func162 rfl (by kernel_rfl) ?_
  refine J1 H ?_
  refine J16 H ?_
  refine J13 H ?_
  refine Jc rfl rfl (Len64_spec 0 (by decide) H) ?_
  clear H; rintro v w ⟨rfl, H⟩
  refine J0 H ?_
  exact C_ret (Jy H rfl fun w' H' => ⟨rfl, H'⟩)

theorem fSort_none [Extra] (f : FuncId) {w : World} {fr : List HProp} (H : Holds w fr) :
    Calls Tryz.prog 75 #[.slice none 0 0, .func (.func f) #[] #[]] w (ret fun v w' => v = .tuple #[] ∧ Holds w' fr) := by
  refine calls_of Tryz.func75 rfl (by kernel_rfl) ?_
  refine J13 H ?_
  refine Lp_s rfl (St_lenSlice rfl rfl ?_)
  refine J36 H ?_
  refine Lp_s rfl (St_convI rfl rfl ?_)
  refine Jc rfl rfl (bLen_zero H) ?_
  clear H; rintro v w ⟨rfl, H⟩
  refine Lp_pv rfl rfl ?_
  refine Jc rfl rfl (fPdq_none f _ H) ?_
  clear H; rintro v w ⟨rfl, H⟩
  refine Lp_nil ?_
  exact fn_end0 _ (.inl rfl) H rfl fun w' H' => ⟨rfl, H'⟩

theorem fCompact_none [Extra] {w : World} {fr : List HProp} (H : Holds w fr) :
    Calls Tryz.prog 79 #[.slice none 0 0] w (ret fun v w' => v = .slice none 0 0 ∧ Holds w' fr) := by
  refine calls_of Tryz.func79 rfl (by kernel_rfl) ?_
  refine J1 H ?_
  refine J21 H ?_
  refine Lp_s rfl (St_lenSlice rfl rfl ?_)
  refine Lp_pv rfl rfl ?_
  refine Lp_nil ?_
  repeat refine C_seq ?_
  refine C_true rfl ?_
  refine J3 H ?_
  exact C_ret (Jy H rfl fun w' H' => ⟨rfl, H'⟩)

@[reducible] def HEAP (h c : Nat) : HProp := pts h (row 27 [pp c, .int .i64 0, .pointer none, .pointer none])
@[reducible] def sN (n size slots : Nat) : CS := ⟨size, List.replicate n 0, [], List.replicate slots ⟨0, none⟩, 0, [], [], [], []⟩
theorem eNew_spec [Extra] (n size slots : Nat) (h1 : 1 ≤ n) (h2 : n ≤ 63) (h3 : 1 ≤ size) (h4 : size ≤ 1024) (h5 : 1 ≤ slots) (h6 : slots ≤ 63) {w : World} {fr : List HProp} (H : Holds w fr) :
    Calls Tryz.prog 62 #[.int .i64 n, .int .i64 size, .int .i64 slots] w (ret fun v w' => ∃ h c, v = .tuple #[pp h, .int .i64 0] ∧ Holds w' (HEAP h c :: CELL c (sN n size slots) :: fr)) := by
  refine calls_of Tryz.func62 rfl (by kernel_rfl) ?_
  refine J3 H ?_
  refine J41 H ?_
  refine Jc rfl rfl (cNew_spec n size slots h1 h2 h3 h4 h5 h6 H) ?_
  clear H; rintro v w ⟨c, rfl, H⟩
  refine J12 H ?_
  refine J17 H ?_
  refine J10 H ?_
  refine J13 H ?_
  refine J11 H ?_
  clear H; intro b22 w H
  refine J2 H ?_
  exact C_ret (Jy H rfl fun w' H' => ⟨_, c, rfl, H'⟩)

theorem Retired_spec [Extra] (p : Nat) (ts : List Slt) {w : World} {fr : List HProp} (H : Holds w (TAB p ts :: fr)) :
    Calls Tryz.prog 64 #[pp p] w (ret fun v w' => v = .int .i64 (goneT ts : Nat) ∧ Holds w' (TAB p ts :: fr)) := by
  obtain ⟨b, c, s, u, x, hok, hc, H, hclose⟩ := TAB_out H
  refine calls_of Tryz.func64 rfl (by kernel_rfl) ?_
  refine J31 H ?_
  refine J0 H ?_
  exact C_ret (Jy (hclose _ _ ts x rfl rfl hok H) rfl fun w' H' => ⟨rfl, H'⟩)

/-- A heap that is none, or has no cells. -/
def NoH (a : Option Addr) (fr : List HProp) : Prop := a = none ∨ ∃ h, a = some ⟨h, 0, none⟩ ∧ At h (row 27 [.pointer none, .int .i64 0, .pointer none, .pointer none]) fr
theorem NoH.there {a : Option Addr} {fr : List HProp} {x : HProp} (h : NoH a fr) : NoH a (x :: fr) := by
  rcases h with h | ⟨b, h, hA⟩
  · exact .inl h
  · haveI := hA
    exact .inr ⟨b, h, inferInstance⟩
theorem none_no [Extra] (a : Option Addr) {w : World} {fr : List HProp} (hN : NoH a fr) (H : Holds w fr) :
    Calls Tryz.prog 63 #[.pointer a] w (ret fun v w' => v = .bool true ∧ Holds w' fr) := by
  rcases hN with rfl | ⟨h, rfl, hA⟩
  · refine calls_of Tryz.func63 rfl (by kernel_rfl) ?_
    refine J45 H ?_
    refine Lp_pv rfl rfl ?_
    refine J46 H ?_
    refine Lp_no rfl rfl rfl ?_
    refine J2 H ?_
    exact C_ret (Jy H rfl fun w' H' => ⟨rfl, H'⟩)
  · haveI := hA
    refine calls_of Tryz.func63 rfl (by kernel_rfl) ?_
    refine J45 H ?_
    refine J27 H ?_
    refine J22 H ?_
    refine Lp_g rfl rfl rfl (St_eqPtrNil rfl rfl (.inl rfl) rfl ?_)
    refine J2 H ?_
    exact C_ret (Jy H rfl fun w' H' => ⟨rfl, H'⟩)

theorem none_yes [Extra] (h c : Nat) {w : World} {fr : List HProp} (H : Holds w (HEAP h c :: fr)) :
    Calls Tryz.prog 63 #[pp h] w (ret fun v w' => v = .bool false ∧ Holds w' (HEAP h c :: fr)) := by
  refine calls_of Tryz.func63 rfl (by kernel_rfl) ?_
  refine J45 H ?_
  refine J27 H ?_
  refine J22 H ?_
  refine Lp_g rfl rfl rfl (St_eqPtrNil rfl rfl (.inl rfl) rfl ?_)
  refine J2 H ?_
  exact C_ret (Jy H rfl fun w' H' => ⟨rfl, H'⟩)

theorem Count_no [Extra] (a : Option Addr) {w : World} {fr : List HProp} (hN : NoH a fr) (H : Holds w fr) :
    Calls Tryz.prog 13 #[.pointer a] w (ret fun v w' => v = .tuple #[.agg #[.int .i64 0, .int .i64 0, .int .i64 0, .int .i64 0, .int .i64 0, .int .i64 0, .int .i64 0], .int .i64 1] ∧ Holds w' fr) := by
  refine calls_of Tryz.func13 rfl (by kernel_rfl) ?_
  refine J14 H ?_
  clear H; intro b1 w H
  refine Lp_s rfl (St_alloc H rfl ?_)
  clear H; intro b2 w H
  refine Lp_pv rfl rfl ?_
  refine Lp_nil ?_
  repeat refine C_seq ?_
  refine C_region ?_
  refine Lp_s rfl (St_load1 H rfl rfl rfl ?_)
  refine Jc rfl rfl (none_no a hN.there.there H) ?_
  clear H; rintro v w ⟨rfl, H⟩
  refine Lp_nil ?_
  repeat refine C_seq ?_
  refine C_true rfl ?_
  repeat refine C_seq ?_
  refine C_region ?_
  refine Lp_s rfl (St_build rfl rfl ?_)
  refine Lp_s rfl (St_storeN H rfl rfl inferInstance rfl rfl (Nat.le_of_ble_eq_true rfl) rfl ?_)
  clear H; intro w H
  refine J0 H ?_
  exact C_ret (Jz H (fun w' H' => .cellN H' rfl (by repeat (first | exact Reads.nil _ | apply Reads.cons rfl)) (.tmp .nil)) fun w' H' => ⟨rfl, H'.drop.drop⟩)

theorem Of_no [Extra] (a : Option Addr) (region : Int) {w : World} {fr : List HProp} (hN : NoH a fr) (H : Holds w fr) :
    Calls Tryz.prog 14 #[.pointer a, .int .i64 region] w (ret fun v w' => v = .tuple #[.agg #[.int .i64 0, .int .i64 0, .int .i64 0, .int .i64 0, .int .i64 0, .int .i64 0], .int .i64 1] ∧ Holds w' fr) := by
  refine calls_of Tryz.func14 rfl (by kernel_rfl) ?_
  refine J14 H ?_
  clear H; intro b2 w H
  refine Lp_s rfl (St_box1 H rfl rfl rfl ?_)
  clear H; intro b3 w H
  refine Lp_s rfl (St_alloc H rfl ?_)
  clear H; intro b4 w H
  refine J4 H ?_
  refine C_joinQ (fun ms σ w => False) ?_ ?_
  · refine C_block ?_
    refine J9 H ?_
    refine Jc rfl rfl (none_no a hN.there.there.there H) ?_
    clear H; rintro v w ⟨rfl, H⟩
    refine J37 H ?_
    clear H; intro w H
    refine J0 H ?_
    refine C_ret (.inr ⟨by simp, Jz H (fun w' H' => .cellN H' rfl (by repeat (first | exact Reads.nil _ | apply Reads.cons rfl)) (.tmp .nil)) fun w' H' => ⟨rfl, H'.drop.drop.drop⟩⟩)
  · rintro ms σ w h
    exact h.elim

theorem Check_no [Extra] (a : Option Addr) {w : World} {fr : List HProp} (hN : NoH a fr) (H : Holds w fr) :
    Calls Tryz.prog 15 #[.pointer a] w (ret fun v w' => v = .tuple #[.slice none 0 0, .int .i64 1] ∧ Holds w' fr) := by
  refine calls_of Tryz.func15 rfl (by kernel_rfl) ?_
  refine J14 H ?_
  clear H; intro b1 w H
  refine J2 H ?_
  refine J9 H ?_
  refine Jc rfl rfl (none_no a hN.there H) ?_
  clear H; rintro v w ⟨rfl, H⟩
  refine Lp_nil ?_
  repeat refine C_seq ?_
  refine C_true rfl ?_
  refine J3 H ?_
  exact C_ret (Jy H rfl fun w' H' => ⟨rfl, H'.drop⟩)

end Go.Proofs.YtipelpbkeiphmaaGreatDoor
namespace Go.Proofs.YtipelpbkeiphmaaGreatDoor
open Go.SL

def bitsL (n x : Nat) : List Nat := (List.range n).filter fun i => x.testBit i
theorem bitsL_to {x a e : Nat} (h : a ≤ e) (h0 : ∀ i, a ≤ i → i < e → x.testBit i = false) : bitsL e x = bitsL a x := by
  obtain ⟨d, rfl⟩ : ∃ d, e = a + d := ⟨e - a, by omega⟩
  unfold bitsL
  have h2 : ((List.range d).map (a + ·)).filter (fun i => x.testBit i) = [] := by
    refine List.filter_eq_nil_iff.2 fun i hi => ?_
    obtain ⟨j, hj, rfl⟩ := List.mem_map.1 hi
    have := List.mem_range.1 hj
    rw [h0 (a + j) (by omega) (by omega)]
    decide
  rw [List.range_add, List.filter_append, h2, List.append_nil]
theorem bitsL_on {x a : Nat} (h : x.testBit a = true) : bitsL (a + 1) x = bitsL a x ++ [a] := by
  unfold bitsL
  rw [List.range_succ, List.filter_append, List.filter_cons, if_pos h]
  rfl
theorem bitsL_pre {x a n : Nat} (h : a < n) (hx : x.testBit a = true) : ∃ t, bitsL n x = bitsL a x ++ a :: t := by
  obtain ⟨d, rfl⟩ : ∃ d, n = (a + 1) + d := ⟨n - (a + 1), by omega⟩
  refine ⟨((List.range d).map (a + 1 + ·)).filter fun i => x.testBit i, ?_⟩
  have h1 := bitsL_on hx
  unfold bitsL at h1 ⊢
  rw [List.range_add, List.filter_append, h1, List.append_assoc]
  rfl

theorem bAll_spec [Extra] (p : Nat) {w : World} {fr : List HProp} (H : Holds w fr) :
    Calls Tryz.prog 125 #[pp p] w (ret fun v w' => ∃ b1, v = .func (.func 210) #[] #[pp b1] ∧ Holds w' (pts b1 (row 211 [pp p]) :: fr)) := by
  refine calls_of Tryz.func125 rfl (by kernel_rfl) ?_
  refine J14 H ?_
  clear H; intro b1 w H
  refine J17 H ?_
  exact C_ret (Jy H rfl fun w' H' => ⟨_, rfl, H'⟩)

theorem AllIter [Extra] (yl b1 p n x m : Nat) (hb : Bits n x) (J : List Nat → HProp)
    {w : World} {fr : List HProp} [hT : HasTab 0 Lib.deBruijn64tab fr]
    (hy : ∀ (ks : List Nat) (i : Nat) (rest : List HProp) (w : World), i < n → x.testBit i = true → (∃ t, bitsL n x = ks ++ i :: t) → Holds w (J ks :: BM p n [x] m :: rest) → SL.Yields Tryz.prog yl #[.int .i64 i] w (fun v w' => v = .bool true ∧ Holds w' (J (ks ++ [i]) :: BM p n [x] m :: rest)))
    (H : Holds w (J [] :: pts b1 (row 211 [pp p]) :: BM p n [x] m :: fr)) :
    Calls Tryz.prog 210 #[.func (.yield yl) #[] #[], pp b1] w (ret fun _ w' => Holds w' (J (bitsL n x) :: pts b1 (row 211 [pp p]) :: BM p n [x] m :: fr)) := by
  have hle := hb.le
  refine calls_of Tryz.func210 rfl (by kernel_rfl) ?_
  refine J9 H ?_
  refine Lp_s rfl (St_eqPtrNil rfl rfl (.inl rfl) rfl ?_)
  refine J38 H ?_
  replace H := Js [2,1,0] 0 H
  refine J9 H ?_
  refine Jc rfl rfl (next_spec p n x 0 m hb (by omega) H) ?_
  clear H; rintro v w ⟨⟨a, rfl, _, ha, h0, h1⟩, H⟩
  refine J0 H ?_
  have e0 : J [] = J (bitsL a x) := by rw [bitsL_to (Nat.zero_le a) h0]; rfl
  rw [e0] at H
  clear e0 h0
  refine J25 H ?_
  refine C_loop (fun ms σ w z => ms = [] ∧ ∃ a : Nat, a ≤ n ∧ (a < n → x.testBit a = true) ∧ z = n - a ∧ σ 0 = .func (.yield yl) #[] #[] ∧ σ 1 = pp b1 ∧ σ 3 = .int .i64 a ∧ Holds w (BM p n [x] m :: pts b1 (row 211 [pp p]) :: J (bitsL a x) :: fr)) (m := n - a) ⟨rfl, a, ha, h1, rfl, rfl, rfl, rfl, H⟩ ?_
  clear H
  rintro ms σ w z ⟨rfl, a, ha, h1, rfl, g0, g1, g3, H⟩
  rw [upd_self g0, upd_self g1, upd_self g3]
  obtain ⟨v, H⟩ := BM_out H
  refine J13 H ?_
  refine Lp_s rfl (St_load1 H rfl rfl rfl ?_)
  refine J42 H ?_
  refine J0 H ?_
  replace H := BM_in H
  repeat refine C_seq ?_
  refine C_dec rfl (fun h => C_skip ?_) (fun h => C_exit ?_)
  · have hlt : a < n := by omega
    refine J25 H ?_
    refine J5 H ?_
    replace H := Js [2,0,0] 0 H
    refine Lp_s rfl (St_yield rfl rfl (SL.Yields.mono (hy (bitsL a x) a _ _ hlt (h1 hlt) (bitsL_pre hlt (h1 hlt)) H) ?_))
    clear H; rintro v w ⟨rfl, H⟩
    refine J16 H ?_
    rw [← bitsL_on (h1 hlt)] at H
    replace H := Js [1,1,0] 0 H
    refine J9 H ?_
    refine J7 H ?_
    rw [show IntKind.i64.wrap ((a : Int) + 1) = ((a + 1 : Nat) : Int) by rw [wrap64 (by omega) (by omega)]; omega]
    refine Jc rfl rfl (next_spec p n x (a + 1) m hb (by omega) H) ?_
    clear H; rintro v w ⟨⟨e, rfl, h2, h3, h4, h5⟩, H⟩
    refine J0 H ?_
    rw [← bitsL_to h2 h4] at H
    exact ⟨_, ⟨rfl, e, h3, h5, rfl, rfl, rfl, rfl, H⟩, by omega⟩
  · have hge : a = n := by omega
    subst hge
    replace H := Js [2,1,0] 0 H
    exact fn_end0 _ (.inl rfl) H rfl fun w' H' => H'
end Go.Proofs.YtipelpbkeiphmaaGreatDoor
namespace Go.Proofs.YtipelpbkeiphmaaGreatDoor
open Go.SL

end Go.Proofs.YtipelpbkeiphmaaGreatDoor
namespace Go.Proofs.YtipelpbkeiphmaaGreatDoor
open Go.SL

/-! ### A slot that is not used -/
def Used (ts : List Slt) (i : Int) : Prop := ∃ (k n : Nat) (e : Ent), i = k ∧ ts[k]? = some ⟨n, some e⟩
end Go.Proofs.YtipelpbkeiphmaaGreatDoor
namespace Go.Proofs.YtipelpbkeiphmaaGreatDoor
open Go.SL

structure TQ where
  b : Nat
  c : Nat
  s : List Value
  u : Nat
  x : Nat
/-- A table, its parts by name: they stay while it is gone through. -/
def TABX (p : Nat) (ts : List Slt) (q : TQ) : HProp := star [prop (TabOk ts q.x ∧ ts.length ≤ q.c), pts p (row 216 [.slice (some ⟨q.b, 0, none⟩) ts.length q.c, pp q.u, .int .i64 (goneT ts)]), pts q.b (row 223 (ts.flatMap tval ++ q.s)), BM1 q.u ts.length q.x]
theorem TABX_out [Extra] {w : World} {p : Nat} {ts : List Slt} {b c : Nat} {s : List Value} {u x : Nat} {l : List HProp} (H : Holds w (TABX p ts ⟨b, c, s, u, x⟩ :: l)) : TabOk ts x ∧ ts.length ≤ c ∧
    Holds w (pts p (row 216 [.slice (some ⟨b, 0, none⟩) ts.length c, pp u, .int .i64 (goneT ts)]) :: pts b (row 223 (ts.flatMap tval ++ s)) :: BM1 u ts.length x :: l) ∧
    ∀ w' l' ts' x', ts' = ts → x' = x → TabOk ts x → Holds w' (pts p (row 216 [.slice (some ⟨b, 0, none⟩) ts.length c, pp u, .int .i64 (goneT ts)]) :: pts b (row 223 (ts.flatMap tval ++ s)) :: BM1 u ts.length x :: l') → Holds w' (TABX p ts ⟨b, c, s, u, x⟩ :: l') := by
  have H := Holds.star.1 H
  obtain ⟨h, H⟩ := Holds.prop.1 H
  exact ⟨h.1, h.2, H, fun w' l' ts' x' _ _ _ H' => Holds.star.2 (Holds.prop.2 ⟨h, H'⟩)⟩
theorem TAB_X [Extra] {w : World} {p : Nat} {ts : List Slt} {l : List HProp} (H : Holds w (TAB p ts :: l)) : ∃ q, Holds w (TABX p ts q :: l) ∧ ∀ w' l', Holds w' (TABX p ts q :: l') → Holds w' (TAB p ts :: l') := by
  obtain ⟨b, c, s, u, x, hok, hc, H, hclose⟩ := TAB_out H
  refine ⟨⟨b, c, s, u, x⟩, Holds.star.2 (Holds.prop.2 ⟨⟨hok, hc⟩, H⟩), fun w' l' H' => ?_⟩
  obtain ⟨_, _, H', _⟩ := TABX_out H'
  exact hclose _ _ ts x rfl rfl hok H'

theorem tAt_specX [Extra] (p : Nat) (ts : List Slt) (q : TQ) (k n : Nat) (e : Ent) (hk : ts[k]? = some ⟨n, some e⟩) {w : World} {fr : List HProp} (H : Holds w (TABX p ts q :: fr)) :
    Calls Tryz.prog 73 #[pp p, .int .i64 k] w (ret fun v w' => v = .tuple #[tkn k n, .bool true] ∧ Holds w' (TABX p ts q :: fr)) := by
  obtain ⟨b, c, s, u, x⟩ := q
  obtain ⟨hok, hc, H, hclose⟩ := TABX_out H
  have hb := hok.bits.le
  have hkl : k < ts.length := (List.getElem?_eq_some_iff.1 hk).1
  have c1 : (ts.flatMap tval ++ s)[k * 6 + 1]? = some (.bool true) := flat_get tval_len hk rfl
  have c0 : (ts.flatMap tval ++ s)[k * 6 + 0]? = some (.int .i64 n) := flat_get tval_len hk rfl
  have ei : 0 + ((k : Nat) : Int).toNat * 6 = k * 6 := by simp
  refine calls_of Tryz.func73 rfl (by kernel_rfl) ?_
  refine J1 H ?_
  refine Lp_s rfl (St_alloc H rfl ?_)
  clear H; intro b4 w H
  refine J48 H ?_
  refine J27 H ?_
  rw [show decide ((k : Int) < 0) = false from decide_eq_false (by omega)]
  refine J23 H ?_
  refine J6 H ?_
  refine J22 H ?_
  refine J39 H ?_
  rw [show decide ((k : Int) ≥ (ts.length : Int)) = false from decide_eq_false (by omega)]
  refine J23 H ?_
  refine J22 H ?_
  refine J6 H ?_
  refine Lp_g rfl rfl rfl (St_indexAddr rfl rfl (by omega) (by omega) rfl ?_)
  rw [ei]
  refine Lp_g rfl rfl rfl (St_fieldAddr rfl rfl ?_)
  refine Lp_g rfl rfl rfl (St_load1 H rfl c1 rfl ?_)
  refine J6 H ?_
  refine J16 H ?_
  refine J5 H ?_
  refine J42 H ?_
  refine Lp_pv rfl rfl ?_
  refine Lp_s rfl (St_indexAddr rfl rfl (by omega) (by omega) rfl ?_)
  rw [ei]
  refine Lp_s rfl (St_fieldAddr rfl rfl ?_)
  refine Lp_s rfl (St_load1 H rfl c0 rfl ?_)
  refine Lp_s rfl (St_build rfl rfl ?_)
  refine Lp_s rfl (St_storeN H rfl rfl inferInstance rfl rfl (Nat.le_of_ble_eq_true rfl) rfl ?_)
  clear H; intro w H
  refine J0 H ?_
  exact C_ret (Jz H (fun w' H' => .cellN H' rfl (by repeat (first | exact Reads.nil _ | apply Reads.cons rfl)) (.tmp .nil)) fun w' H' => ⟨rfl, hclose _ _ ts x rfl rfl hok H'.drop⟩)
theorem tAt_noX [Extra] (p : Nat) (ts : List Slt) (q : TQ) (i : Int) (hno : ¬ Used ts i) {w : World} {fr : List HProp} (H : Holds w (TABX p ts q :: fr)) :
    Calls Tryz.prog 73 #[pp p, .int .i64 i] w (ret fun v w' => v = .tuple #[tkI2 0 0, .bool false] ∧ Holds w' (TABX p ts q :: fr)) := by
  obtain ⟨b, c, s, u, x⟩ := q
  obtain ⟨hok, hc, H, hclose⟩ := TABX_out H
  have hb := hok.bits.le
  refine calls_of Tryz.func73 rfl (by kernel_rfl) ?_
  refine J1 H ?_
  refine Lp_s rfl (St_alloc H rfl ?_)
  clear H; intro b4 w H
  refine J48 H ?_
  refine J27 H ?_
  by_cases h0 : i < 0
  · rw [show decide (i < 0) = true from decide_eq_true (by omega)]
    refine J40 H ?_
    refine Lp_no rfl rfl rfl ?_
    refine Lp_no rfl rfl rfl ?_
    refine Lp_no rfl rfl rfl ?_
    refine J40 H ?_
    refine J46 H ?_
    refine Lp_no rfl rfl rfl ?_
    refine J37 H ?_
    clear H; intro w H
    refine J0 H ?_
    exact C_ret (Jz H (fun w' H' => .cellN H' rfl (by repeat (first | exact Reads.nil _ | apply Reads.cons rfl)) (.tmp .nil)) fun w' H' => ⟨rfl, hclose _ _ ts x rfl rfl hok H'.drop⟩)
  · rw [show decide (i < 0) = false from decide_eq_false (by omega)]
    refine J23 H ?_
    refine J6 H ?_
    refine J22 H ?_
    refine J39 H ?_
    by_cases h1 : i ≥ (ts.length : Int)
    · rw [show decide (i ≥ (ts.length : Int)) = true from decide_eq_true (by omega)]
      refine J40 H ?_
      refine J46 H ?_
      refine Lp_no rfl rfl rfl ?_
      refine J37 H ?_
      clear H; intro w H
      refine J0 H ?_
      exact C_ret (Jz H (fun w' H' => .cellN H' rfl (by repeat (first | exact Reads.nil _ | apply Reads.cons rfl)) (.tmp .nil)) fun w' H' => ⟨rfl, hclose _ _ ts x rfl rfl hok H'.drop⟩)
    · rw [show decide (i ≥ (ts.length : Int)) = false from decide_eq_false (by omega)]
      obtain ⟨k, rfl⟩ : ∃ k : Nat, i = k := ⟨i.toNat, by omega⟩
      have hk := List.getElem?_eq_getElem (l := ts) (i := k) (by omega)
      generalize ts[k] = t at hk
      obtain ⟨g, e⟩ := t
      obtain rfl : e = none := by
        cases e with
        | none => rfl
        | some e => exact absurd ⟨k, g, e, rfl, hk⟩ hno
      have c1 : (ts.flatMap tval ++ s)[k * 6 + 1]? = some (.bool false) := flat_get tval_len hk rfl
      have ei : 0 + ((k : Nat) : Int).toNat * 6 = k * 6 := by simp
      refine J23 H ?_
      refine J22 H ?_
      refine J6 H ?_
      refine Lp_g rfl rfl rfl (St_indexAddr rfl rfl (by omega) (by omega) rfl ?_)
      rw [ei]
      refine Lp_g rfl rfl rfl (St_fieldAddr rfl rfl ?_)
      refine Lp_g rfl rfl rfl (St_load1 H rfl c1 rfl ?_)
      refine J6 H ?_
      refine J37 H ?_
      clear H; intro w H
      refine J0 H ?_
      exact C_ret (Jz H (fun w' H' => .cellN H' rfl (by repeat (first | exact Reads.nil _ | apply Reads.cons rfl)) (.tmp .nil)) fun w' H' => ⟨rfl, hclose _ _ ts x rfl rfl hok H'.drop⟩)

def isUsed (ts : List Slt) (i : Nat) : Bool := match ts[i]? with
  | some ⟨_, some _⟩ => true
  | _ => false
theorem isUsed_iff {ts : List Slt} {i : Nat} : isUsed ts i = true ↔ ∃ g e, ts[i]? = some ⟨g, some e⟩ := by
  unfold isUsed
  split
  · rename_i g e h
    exact ⟨fun _ => ⟨g, e, h⟩, fun _ => rfl⟩
  · rename_i h
    exact ⟨fun h => (by cases h), fun ⟨g, e, h'⟩ => absurd h' (h g e)⟩
def usedL (ts : List Slt) : List Nat := (List.range ts.length).filter (isUsed ts)
theorem usedL_bits {ts : List Slt} {x : Nat} (h : TabOk ts x) : (bitsL ts.length x).filter (isUsed ts) = usedL ts := by
  unfold bitsL usedL
  rw [List.filter_filter]
  refine List.filter_congr fun i hi => ?_
  have hi := List.mem_range.1 hi
  have ht := List.getElem?_eq_getElem hi
  cases hu : isUsed ts i with
  | false => rfl
  | true =>
    obtain ⟨g, e, h1⟩ := isUsed_iff.1 hu
    rw [h.bit i _ h1]
    rfl

theorem tAll_spec [Extra] (p : Nat) {w : World} {fr : List HProp} (H : Holds w fr) :
    Calls Tryz.prog 38 #[pp p] w (ret fun v w' => ∃ b1, v = .func (.func 124) #[] #[pp b1] ∧ Holds w' (pts b1 (row 70 [pp p]) :: fr)) := by
  refine calls_of Tryz.func38 rfl (by kernel_rfl) ?_
  refine J14 H ?_
  clear H; intro b1 w H
  refine J17 H ?_
  exact C_ret (Jy H rfl fun w' H' => ⟨_, rfl, H'⟩)

theorem TabIter [Extra] (yl b1 p : Nat) (ts : List Slt) (q : TQ) (J : List Nat → HProp)
    {w : World} {fr : List HProp} [hT : HasTab 0 Lib.deBruijn64tab fr]
    (hy : ∀ (ks : List Nat) (k g : Nat) (e : Ent) (rest : List HProp) (w : World), ts[k]? = some ⟨g, some e⟩ → (∃ t, usedL ts = ks ++ k :: t) → Holds w (J ks :: TABX p ts q :: rest) → SL.Yields Tryz.prog yl #[tkn k g, .agg (evl e).toArray] w (fun v w' => v = .bool true ∧ Holds w' (J (ks ++ [k]) :: TABX p ts q :: rest)))
    (H : Holds w (J [] :: pts b1 (row 70 [pp p]) :: TABX p ts q :: fr)) :
    Calls Tryz.prog 124 #[.func (.yield yl) #[] #[], pp b1] w (ret fun _ w' => Holds w' (J (usedL ts) :: pts b1 (row 70 [pp p]) :: TABX p ts q :: fr)) := by
  obtain ⟨b, c, s, u, x⟩ := q
  refine calls_of Tryz.func124 rfl (by kernel_rfl) ?_
  refine J14 H ?_
  clear H; intro b2 w H
  refine Lp_nil ?_
  refine J9 H ?_
  refine Lp_s rfl (St_eqPtrNil rfl rfl (.inl rfl) rfl ?_)
  refine J38 H ?_
  replace H := Js [3,2,1,0] 0 H
  obtain ⟨hok, hc, H, hclose⟩ := TABX_out H
  repeat refine C_seq ?_
  refine C_region ?_
  refine Lp_s rfl (St_load1 H rfl rfl rfl ?_)
  refine Lp_pv rfl rfl ?_
  refine Lp_s rfl (St_fieldAddr rfl rfl ?_)
  refine Lp_s rfl (St_load1 H rfl rfl rfl ?_)
  refine Jc rfl rfl (bAll_spec u H) ?_
  clear H; rintro v w ⟨bb, rfl, H⟩
  refine Lp_nil ?_
  repeat refine C_seq ?_
  refine C_block (C_rangeFunc (a := []) (b := [pp bb]) H rfl (fun yl2 D w H => ?_))
  generalize hL : LR _ yl2 _ _ _ _ D .ready = L at H ⊢
  obtain ⟨J2, hJ2⟩ : ∃ J2 : List Nat → HProp, J2 = fun ks => star [L, J (ks.filter (isUsed ts)), pts b1 (row 70 [pp p]), pts p (row 216 [.slice (some ⟨b, 0, none⟩) ts.length c, pp u, .int .i64 (goneT ts)]), pts b (row 223 (ts.flatMap tval ++ s)), pts b2 (row 221 [.func (.yield yl) #[] #[]])] := ⟨_, rfl⟩
  have hin : ∀ (ks : List Nat) (w : World) (l' : List HProp), Holds w (L :: J (ks.filter (isUsed ts)) :: pts b1 (row 70 [pp p]) :: pts p (row 216 [.slice (some ⟨b, 0, none⟩) ts.length c, pp u, .int .i64 (goneT ts)]) :: pts b (row 223 (ts.flatMap tval ++ s)) :: pts b2 (row 221 [.func (.yield yl) #[] #[]]) :: l') → Holds w (J2 ks :: l') := by
    intro ks w l' H
    rw [hJ2]
    exact Holds.star.2 H
  have hout : ∀ (ks : List Nat) (w : World) (l' : List HProp), Holds w (J2 ks :: l') → Holds w (L :: J (ks.filter (isUsed ts)) :: pts b1 (row 70 [pp p]) :: pts p (row 216 [.slice (some ⟨b, 0, none⟩) ts.length c, pp u, .int .i64 (goneT ts)]) :: pts b (row 223 (ts.flatMap tval ++ s)) :: pts b2 (row 221 [.func (.yield yl) #[] #[]]) :: l') := by
    intro ks w l' H
    rw [hJ2] at H
    exact Holds.star.1 H
  replace H := Js [0,6,5,2,2,3,1,1,0] 0 H
  replace H := hin [] _ _ H
  refine call (AllIter yl2 bb u ts.length x _ hok.bits J2 ?_ H) ?_
  · clear H
    intro ks i rest w hi hbit hpre H
    replace H := hout _ _ _ H
    obtain ⟨t, hpre⟩ := hpre
    have hu := usedL_bits hok
    rw [hpre, List.filter_append, List.filter_cons] at hu
    have hyy := fun (w : World) (rest : List HProp) (g : Nat) (e : Ent) => hy (ks.filter (isUsed ts)) i g e rest w
    subst hL
    refine Yields_of (args := [.int .i64 i]) H rfl rfl ?_
    refine J1 H ?_
    refine J0 H ?_
    refine ⟨rfl, _, H, fun w H => C_block ?_⟩
    replace H := Js [3,3,4,2,0,0,0] 0 H
    replace H := hclose _ _ ts x rfl rfl hok H
    have hti := List.getElem?_eq_getElem hi
    generalize ts[i] = ti at hti
    obtain ⟨g, en⟩ := ti
    refine J9 H ?_
    refine Lp_pv rfl rfl ?_
    cases en with
    | some e =>
      have hus : isUsed ts i = true := isUsed_iff.2 ⟨g, e, hti⟩
      rw [if_pos hus] at hu
      have hrd : Reads (ts.flatMap tval ++ s) (i * 6 + 2) 4 (evl e) := flat_reads (vs := evl e) tval_len hti (by repeat (first | exact Reads.nil _ | apply Reads.cons rfl))
      have ei : 0 + ((i : Nat) : Int).toNat * 6 = i * 6 := by simp
      refine Jc rfl rfl (tAt_specX p ts ⟨b, c, s, u, x⟩ i g e hti H) ?_
      clear H; rintro v w ⟨rfl, H⟩
      refine J28 H ?_
      clear H; intro b4 w H
      refine J24 H ?_
      clear H; intro w H
      refine J0 H ?_
      replace H := Js [1,0,0,0,0,0] 0 H
      obtain ⟨_, _, H, _⟩ := TABX_out H
      refine J19 H ?_
      clear H; intro w H
      refine J18 H ?_
      refine A_load1 2 [12] H rfl (Wants.of rfl rfl rfl) rfl rfl (by kernel_rfl) ?_
      refine A_loadN 3 [12] H rfl (Wants.of rfl rfl rfl) rfl (by repeat (first | exact Reads.nil _ | apply Reads.cons rfl)) (by kernel_rfl) ?_
      refine A_load1 4 [12] H rfl (Wants.of rfl rfl rfl) rfl rfl (by kernel_rfl) ?_
      refine A_pv 5 rfl (Wants.of rfl rfl rfl) rfl (by kernel_rfl) ?_
      refine A_fieldAddr 6 rfl (Wants.of rfl rfl rfl) rfl (by kernel_rfl) ?_
      refine A_load1 7 [12] H rfl (Wants.of rfl rfl rfl) rfl rfl (by kernel_rfl) ?_
      refine A_pv 8 rfl (Wants.of rfl rfl rfl) rfl (by kernel_rfl) ?_
      refine A_indexAddr 9 rfl (Wants.of rfl rfl rfl) rfl rfl (by omega) (by omega) (by kernel_rfl) ?_
      rw [ei]
      refine A_fieldAddr 10 rfl (Wants.of rfl rfl rfl) rfl (by kernel_rfl) ?_
      refine A_loadN 11 [12] H rfl (Wants.of rfl rfl rfl) rfl hrd (by kernel_rfl) ?_
      have Hc := hclose _ _ ts x rfl rfl hok H
      replace Hc := Js [4,0,0,0,0,0] 0 Hc
      refine Jo 12 H ?_
      refine St_yield rfl rfl (SL.Yields.mono (hyy _ _ g e hti ⟨_, hu.symm⟩ Hc) ?_)
      clear Hc
      clear H; rintro v w ⟨rfl, H⟩
      have he : (ks ++ [i]).filter (isUsed ts) = ks.filter (isUsed ts) ++ [i] := by rw [List.filter_append, List.filter_cons, if_pos hus]; rfl
      rw [← he] at H
      refine A_pv 13 rfl (Wants.of rfl rfl rfl) rfl (by kernel_rfl) ?_
      refine A_pv 14 rfl (Wants.none rfl) rfl (by kernel_rfl) ?_
      refine J8 H ?_
      refine J10 H ?_
      replace H := Js [1,0,0,0,0,0] 0 H
      obtain ⟨_, _, H, _⟩ := TABX_out H
      replace H := Js [6,3,4,0,0,2,0] 1 H
      exact ⟨rfl, _, H, fun w H => ⟨rfl, hin _ _ _ H⟩⟩
    | none =>
      have hus : isUsed ts i = false := by
        cases hu : isUsed ts i with
        | false => rfl
        | true =>
          obtain ⟨g', e', h1⟩ := isUsed_iff.1 hu
          rw [hti] at h1
          cases h1
      refine Lp_s rfl (St_call (a := []) (b := []) rfl rfl (call (tAt_noX p ts ⟨b, c, s, u, x⟩ i (by
              rintro ⟨k2, n2, e2, h1, h2⟩
              obtain rfl : i = k2 := by omega
              rw [hti] at h2
              cases h2) H) ?_))
      clear H; rintro v w ⟨rfl, H⟩
      refine J28 H ?_
      clear H; intro b4 w H
      refine J24 H ?_
      clear H; intro w H
      refine J4 H ?_
      refine C_drawH H mixed ?_
      clear H; intro w H
      refine J18 H ?_
      refine A_no 2 rfl (Wants.of rfl rfl rfl) (fun c e => by cases e) (by kernel_rfl) ?_
      refine A_no 3 rfl (Wants.of rfl rfl rfl) (fun c e => by cases e) (by kernel_rfl) ?_
      refine A_no 4 rfl (Wants.of rfl rfl rfl) (fun c e => by cases e) (by kernel_rfl) ?_
      refine A_no 5 rfl (Wants.of rfl rfl rfl) (fun c e => by cases e) (by kernel_rfl) ?_
      refine A_no 6 rfl (Wants.of rfl rfl rfl) (fun c e => by cases e) (by kernel_rfl) ?_
      refine A_no 7 rfl (Wants.of rfl rfl rfl) (fun c e => by cases e) (by kernel_rfl) ?_
      refine A_no 8 rfl (Wants.of rfl rfl rfl) (fun c e => by cases e) (by kernel_rfl) ?_
      refine A_no 9 rfl (Wants.of rfl rfl rfl) (fun c e => by cases e) (by kernel_rfl) ?_
      refine A_no 10 rfl (Wants.of rfl rfl rfl) (fun c e => by cases e) (by kernel_rfl) ?_
      refine A_no 11 rfl (Wants.of rfl rfl rfl) (fun c e => by cases e) (by kernel_rfl) ?_
      refine A_no 12 rfl (Wants.of rfl rfl rfl) (fun c e => by cases e) (by kernel_rfl) ?_
      have he : (ks ++ [i]).filter (isUsed ts) = ks.filter (isUsed ts) := by rw [List.filter_append, List.filter_cons, if_neg (by rw [hus]; decide)]; exact List.append_nil _
      rw [← he] at H
      refine A_no 13 rfl (Wants.of rfl rfl rfl) (fun c e => by cases e) (by kernel_rfl) ?_
      refine A_pv 14 rfl (Wants.none rfl) rfl (by kernel_rfl) ?_
      refine J8 H ?_
      refine J10 H ?_
      replace H := Js [1,0,0,0,0,0] 0 H
      obtain ⟨_, _, H, _⟩ := TABX_out H
      replace H := Js [5,5,4,0,0,2,0] 1 H
      exact ⟨rfl, _, H, fun w H => ⟨rfl, hin _ _ _ H⟩⟩
  · clear H
    rintro v w H
    replace H := hout _ _ _ H
    rw [usedL_bits hok] at H
    subst hL
    refine ⟨_, H, fun w H => ?_⟩
    replace H := Js [2,2,4,4,0,0,0,0] 0 H
    replace H := hclose _ _ ts x rfl rfl hok H
    replace H := Js [1,1,1,0] 2 H
    exact fn_end (ms := [D]) _ (.inl rfl) ((Holds.star (k := [pts D (.deferred (some []))])).2 H) rfl fun w' H' => H'
end Go.Proofs.YtipelpbkeiphmaaGreatDoor
