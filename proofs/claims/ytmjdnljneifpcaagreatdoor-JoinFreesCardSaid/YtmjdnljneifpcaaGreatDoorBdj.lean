/- Cells: what is proved on the way: every input of the statement; no condition. Texts joined: SrtJ CelI LawP LawQ LawR LawA LawB LawC LawD. -/
import Derived.Test.YtmjdnljneifpcaaGreatDoorBdd
import Derived.Test.YtmjdnljneifpcaaGreatDoorBdg
import Derived.Test.YtmjdnljneifpcaaGreatDoorBdi
import Derived.Test.YtmjdnljneifpcaaGreatDoorBdh
import Derived.Test.YtmjdnljneifpcaaGreatDoorBdc
set_option linter.unusedVariables false
set_option linter.unusedSimpArgs false
set_option linter.unusedSectionVars false
namespace Go.Proofs.YtmjdnljneifpcaaGreatDoor
open Go.SL Go.Lib
theorem CR [Q4] {E b:Nat} {post:List Value} {fr:List Q2}:∀ (new old pre:List Value) {w:World},old.length=new.length→Q0 w (pts b (row E (pre++old++post))::fr)→Q0 (w.setCells b pre.length new) (pts b (row E (pre++new++post))::fr)
 | [],old,pre,w,hl,H=>by
  obtain rfl:old=[]:=List.length_eq_zero_iff.1 hl;exact H
 | v::r,old,pre,w,hl,H=>by
  obtain⟨o,t,rfl⟩:∃ o t,old=o::t:=by
   cases old with
   | nil=>cases hl
   | cons o t=>exact⟨o,t,rfl⟩
  have hb:=H.pts
  have H1:Q0 (w.setCell ⟨b,pre.length,none⟩ v) (pts b (row E (pre++v::t++post))::fr):=by
   refine H.set ?_ ?_
   ·show (w.heap.modify b _)[b]? = _;rw[Array.getElem?_modify,if_pos rfl,hb];simp only[Option.map_some,row];congr 2;simp
   ·intro c hc;show (w.heap.modify b _)[c]? = _;rw[Array.getElem?_modify,if_neg (Ne.symm hc)]
  rw[show pre++v::t++post=(pre++[v])++t++post by simp] at H1;have h2:=CR r t (pre++[v]) (by simpa using hl) H1;rw[List.length_append] at h2;rw[show pre++v::r++post=(pre++[v])++r++post by simp];exact h2
theorem az [Q4] (v:Value) (l:List Nat) (x i:Nat) (hi:i < l.length) (hl:l.length≤100000) (b:Nat) {w:World} {fr:List Q2} (H:Q0 w (NL v l::pts b (row 3 [.int .i64 x])::fr)) :
  Calls Tryz.prog 154 #[v,.int .i64 i,.slice (some ⟨b,0,none⟩) 1 1] w (ret fun v w'=>Q0 w' (NL v (l.take i++x::l.drop i)::fr)):=by
 have hnl:(l.take i++x::l.drop i).length=l.length+1:=by simp;omega
 have hcl:(QK l).length=l.length:=by rw[QF];omega
 have h1c:∀ v∈QK l,v.oneCell'=true:=fun v hv=>by obtain⟨y,_,rfl⟩:=List.mem_map.1 hv;rfl
 have h1v:∀ v∈[Value.int .i64 (x:Int)],v.oneCell'=true:=fun v hv=>by rw[List.mem_singleton] at hv;subst hv;rfl
 rcases G8 H with ⟨_,h0,_⟩|⟨b',n,cap,s,rfl,e3,e4,e5,H2⟩
 ·rw[h0] at hcl;cases l with
  | nil=>cases hi
  | cons a t=>cases hcl
 obtain rfl:n=l.length:=by omega
 have hb:=H2.pts;have hx:=H2.swap.pts;have hne:b'≠b:=Q0.ne H2
 have hvs:∀ j v,[Value.int .i64 (x:Int)][j]? = some v→w.cell? ⟨b,0+j,none⟩=some v:=fun j v hj=>by
  rw[Nat.zero_add];exact Zf hx hj
 have hcs:∀ j v,(QK l)[j]? = some v→w.cell? ⟨b',0+j,none⟩=some v:=fun j v hj=>by
  rw[Nat.zero_add];refine Zf hb ?_;rw[List.getElem?_append_left (List.getElem?_eq_some_iff.1 hj).1];exact hj
 have hcat:∀ t:List Value,(QK l).take i++[Value.int .i64 (x:Int)]++((QK l).drop i++t)=QK (l.take i++x::l.drop i)++t:=by
  intro t;unfold QK;simp[List.map_take,List.map_drop]
 by_cases hroom:l.length+1≤cap
 ·obtain⟨s0,s',rfl⟩:∃ s0 s',s=s0::s':=by
   cases s with
   | nil=>simp at e5;omega
   | cons s0 s'=>exact⟨s0,s',rfl⟩
  refine(Any2.slices_Insert_int_shift Tryz.laysIns b' 0 l.length cap i b 0 1 1 (QK l) [.int .i64 x] w hi (by omega) hroom e4.2 (Ne.symm hne) hcl rfl hcs ?_ (fun j _=>Rl hb) hvs h1c h1v 3 3 1 (QK l++s0::s').length ?_ ?_ ?_ (Rl hx) (Rl hx)).mono ?_
  ·intro j hj;rw[Nat.zero_add,Zf hb (List.getElem?_eq_getElem (by simp;omega))];rfl
  ·simp[World.shape?,hx]
  ·simp[World.shape?,hb]
  ·simp
  ·rintro e w' ⟨rfl,rfl⟩
   have H3:Q0 w.drew (pts b' (row 3 ((QK l).take (i+1)++((QK l).drop (i+1)++[s0])++s'))::pts b (row 3 [.int .i64 x])::fr):=by
    rw[show (QK l).take (i+1)++((QK l).drop (i+1)++[s0])++s'=QK l++s0::s' by rw[← List.append_assoc,List.take_append_drop];simp];exact H2.heap rfl
   have H4:=CR ((QK l).drop i) _ _ (by simp;omega) H3;rw[show ((QK l).take (i+1)).length=0+(i+1) by rw[List.length_take];omega] at H4
   have hgi:(QK l).take (i+1)=(QK l).take i++[(QK l)[i]'(by omega)]:=by
    rw[List.take_add_one,List.getElem?_eq_getElem (by omega)];rfl
   rw[show (QK l).take (i+1)++(QK l).drop i++s'=(QK l).take i++[(QK l)[i]'(by omega)]++((QK l).drop i++s') by rw[hgi];simp] at H4;have H5:=CR [Value.int .i64 (x:Int)] [(QK l)[i]'(by omega)] ((QK l).take i) rfl H4;rw[show ((QK l).take i).length=0+i by rw[List.length_take];omega,hcat] at H5;refine Q0.drop (Q0.swap (Z9 (by rw[QF,hnl]) ⟨hroom,e4.2⟩ ?_ H5));simp at e5 ⊢;omega
 ·obtain rfl:cap=l.length:=by omega
  refine(Any2.slices_Insert_int_grow Tryz.laysIns b' 0 l.length l.length i b 0 1 1 (QK l) [.int .i64 x] w hi (by omega) (Nat.le_refl _) (by omega) (by omega) hcl rfl hcs hvs h1c h1v).mono ?_;rintro e w' ⟨rfl,rfl⟩;generalize hG:grownCap w (l.length+1) l.length _=G;have hG1:l.length+1≤G:=by rw[← hG];exact grownCap_ge w _ _ _
  have hG2:G≤9223372036854775807:=by rw[← hG];exact grownCap_le_maxLen w _ _ _ (by unfold maxLen;omega)
  have H3:=H2.new (.cells (((QK l).take i).toArray++Builtin.zeroCells (Value.int .i64 0).cells (l.length+1 - i)++Builtin.zeroCells (Value.int .i64 0).cells (G - (l.length+1))) 3 (0,0));have hzc:∀ k,(Builtin.zeroCells (Value.int .i64 0).cells k).toList.length=k:=fun k=>by rw[Array.length_toList,size_zeroCells];exact Nat.mul_one k
  obtain⟨z0,zt,hz⟩:∃ z0 zt,(Builtin.zeroCells (Value.int .i64 0).cells (l.length+1 - i)).toList=z0::zt:=by
   cases hh:(Builtin.zeroCells (Value.int .i64 0).cells (l.length+1 - i)).toList with
   | nil=>have:=hzc (l.length+1 - i);rw[hh] at this;simp at this;omega
   | cons z0 zt=>exact⟨z0,zt,rfl⟩
  have hzt:zt.length=l.length - i:=by
   have:=hzc (l.length+1 - i);rw[hz,List.length_cons] at this;omega
  have H4:Q0 (w.alloc (.cells (((QK l).take i).toArray++Builtin.zeroCells (Value.int .i64 0).cells (l.length+1 - i)++Builtin.zeroCells (Value.int .i64 0).cells (G - (l.length+1))) 3 (0,0))).drew (pts w.heap.size (row 3 ((QK l).take i++[z0]++(zt++(Builtin.zeroCells (Value.int .i64 0).cells (G - (l.length+1))).toList)))::fr):=by
   have h:=(Q0.swap H3).drop;have h:=(Q0.swap h).drop;refine(Q0.head h fun hh x=>?_).heap rfl
   have e:((QK l).take i).toArray++Builtin.zeroCells (Value.int .i64 0).cells (l.length+1 - i)++Builtin.zeroCells (Value.int .i64 0).cells (G - (l.length+1))=((QK l).take i++[z0]++(zt++(Builtin.zeroCells (Value.int .i64 0).cells (G - (l.length+1))).toList)).toArray:=by
    apply Array.ext';simp[hz]
   rw[e] at x;exact x
  have H5:=CR [Value.int .i64 (x:Int)] [z0] ((QK l).take i) rfl H4;rw[show ((QK l).take i).length=i by rw[List.length_take];omega] at H5
  have H6:Q0 ((w.alloc (.cells (((QK l).take i).toArray++Builtin.zeroCells (Value.int .i64 0).cells (l.length+1 - i)++Builtin.zeroCells (Value.int .i64 0).cells (G - (l.length+1))) 3 (0,0))).drew.setCells w.heap.size i [Value.int .i64 (x:Int)]).drew (pts w.heap.size (row 3 (((QK l).take i++[Value.int .i64 (x:Int)])++zt++(Builtin.zeroCells (Value.int .i64 0).cells (G - (l.length+1))).toList))::fr):=by
   rw[show ((QK l).take i++[Value.int .i64 (x:Int)])++zt++(Builtin.zeroCells (Value.int .i64 0).cells (G - (l.length+1))).toList=(QK l).take i++[Value.int .i64 (x:Int)]++(zt++(Builtin.zeroCells (Value.int .i64 0).cells (G - (l.length+1))).toList) by simp];exact H5.heap rfl
  have H7:=CR ((QK l).drop i) zt _ (by simp;omega) H6;rw[show ((QK l).take i++[Value.int .i64 (x:Int)]).length=i+1 by simp;omega,show (QK l).take i++[Value.int .i64 (x:Int)]++(QK l).drop i++(Builtin.zeroCells (Value.int .i64 0).cells (G - (l.length+1))).toList=(QK l).take i++[Value.int .i64 (x:Int)]++((QK l).drop i++(Builtin.zeroCells (Value.int .i64 0).cells (G - (l.length+1))).toList) by simp,hcat] at H7;exact Z9 (by rw[QF,hnl]) ⟨hG1,hG2⟩ (by rw[hzc];omega) H7
def YF (l:List Nat) (x:Nat):List Nat:=l.take (Yy l x)++x::l.drop (Yy l x)
theorem bQ (l:List Nat) (x:Nat):Yy l x≤l.length:=List.countP_le_length
theorem bV {l:List Nat} {x:Nat} (h:∀ a∈l,a < x):YF l x=l++[x]:=by
 unfold YF;rw[MT h,List.take_length,List.drop_length]
theorem Em {l:List Nat} {x y:Nat}:y∈YF l x↔y=x∨y∈l:=by
 unfold YF;rw[List.mem_append,List.mem_cons];have h:y∈l↔y∈l.take (Yy l x)∨y∈l.drop (Yy l x):=by rw[← List.mem_append,List.take_append_drop]
 rw[h];constructor
 ·rintro(h|h|h)
  ·exact .inr (.inl h)
  ·exact .inl h
  ·exact .inr (.inr h)
 ·rintro(h|h|h)
  ·exact .inr (.inl h)
  ·exact .inl h
  ·exact .inr (.inr h)
theorem bZ {a:Nat} {l:List Nat} {x:Nat} (h:a < x):YF (a::l) x=a::YF l x:=by
 unfold YF
 have:Yy (a::l) x=Yy l x+1:=by
  unfold Yy;rw[List.countP_cons_of_pos (by simpa using h)]
 rw[this,List.take_succ_cons,List.drop_succ_cons];rfl
theorem bG {a:Nat} {l:List Nat} {x:Nat} (hs:(a::l).Pairwise (· < ·)) (h:x < a):YF (a::l) x=x::a::l:=by
 unfold YF
 have:Yy (a::l) x=0:=by
  unfold Yy;rw[List.countP_eq_zero];intro y hy;rw[List.pairwise_cons] at hs
  rcases List.mem_cons.1 hy with rfl|hy
  ·simpa using Nat.le_of_lt h
  ·have:=hs.1 y hy;simp;omega
 rw[this];rfl
theorem En:∀ {l:List Nat} {x:Nat},l.Pairwise (· < ·)→x∉l→(YF l x).Pairwise (· < ·)
 | [],x,_,_=>by unfold YF;simp
 | a::l,x,hs,hx=>by
  rw[List.mem_cons,not_or] at hx;by_cases h:a < x
  ·rw[bZ h,List.pairwise_cons];rw[List.pairwise_cons] at hs;refine⟨fun y hy=>?_,En hs.2 hx.2⟩
   rcases Em.1 hy with rfl|hy
   ·exact h
   ·exact hs.1 y hy
  ·have h:x < a:=by omega
   rw[bG hs h,List.pairwise_cons];refine⟨fun y hy=>?_,hs⟩
   rcases List.mem_cons.1 hy with rfl|hy
   ·exact h
   ·rw[List.pairwise_cons] at hs;have:=hs.1 y hy;omega
theorem N3 [Q4] (p:Nat) (l:List Nat) (x:Nat) (hs:l.Pairwise (· < ·)) (hl:l.length < 100000) (hn:x∉l) {w:World} {fr:List Q2} (H:Q0 w (Qs p l::fr)) :
  Calls Tryz.prog 93 #[pp p,.int .i64 x] w (ret fun v w'=>v = .bool true∧Q0 w' (Qs p (YF l x)::fr)):=by
 by_cases he:Yy l x=l.length
 ·have hx:∀ a∈l,a < x:=by
   have:l.countP (· < x)=l.length:=he;rw[List.countP_eq_length] at this;intro a ha;simpa using this a ha
  rw[bV hx];exact TP p l x hs (by omega) hx H
 obtain⟨a,c,H⟩:=WU H;have hle:=bQ l x;refine QQ Tryz.func93 rfl (by kernel_rfl) ?_;refine W7 H ?_;obtain⟨D1,H,hD1,hC1⟩:=sls_rd H.swap (QF _) (by decide);refine Jc rfl rfl (AE _ l (by omega) hs x (hD1 _) H) ?_;clear H;rintro v w ⟨rfl,H⟩;replace H:=hC1 _ _ H;rw[decide_eq_false hn];refine X0 H ?_;refine J8 H ?_;refine Qn (fun ms σ w=>ms=[]∧σ 6 = .bool false∧Q0 w (Qs p (YF l x)::fr)) ?_ ?_
 ·refine Vg rfl ?_;refine Wu H ?_;refine YS H ?_;refine GG H ?_;clear H;intro b27 w H;replace H:=Js [1,0,0] 0 H;refine Jc rfl rfl (az _ l x (Yy l x) (by omega) (by omega) _ H) ?_;clear H;intro v w H;obtain⟨a28,m28,c28,rfl⟩:=Qq H;refine GU H ?_;clear H;intro w H;refine Q6 ?_;exact⟨rfl,rfl,rfl,KF H.swap⟩
 ·clear H;rintro ms σ w ⟨rfl,g6,H⟩;rw[Q1 g6];refine V8 H ?_;exact Q3 (Jy H rfl fun w' H'=>⟨rfl,H'⟩)
end Go.Proofs.YtmjdnljneifpcaaGreatDoor
namespace Go.Proofs.YtmjdnljneifpcaaGreatDoor
open Go.SL
def KN (s:CS) (id:Int):QJ:=(s.lays[id.toNat - 1]?).getD ⟨0,[],0,[]⟩
def ZI (s:CS) (region id count:Int):Nat:=if (QZ s.par region).isSome=false then 15 else if id < 1∨(s.lays.length:Int) < id then 6 else (V6 (KN s id) count).2
def YX (s:CS) (id count:Int):Nat:=(V6 (KN s id) count).1
theorem KO {α:Type} {V:Type} {l:List α} {f:α→Int} {g:α→V} {k:Int} {b:V} (h:QZ (l.map fun a=>(f a,g a)) k=some b):∃ x g1 g2,l=g1++x::g2∧f x=k∧g x=b:=by
 obtain⟨x,hx,h1⟩:=List.mem_map.1 (Ua h);injection h1 with h1 h2
 obtain⟨g1,g2,h3⟩:=List.append_of_mem hx;exact⟨x,g1,g2,h3,h1,h2⟩
theorem KP {α:Type} {V:Type} {l:List α} {f:α→Int} {g:α→V} {k:Int} (h:k∈l.map f):∃ b,QZ (l.map fun a=>(f a,g a)) k=some b:=by
 cases hf:QZ (l.map fun a=>(f a,g a)) k with
 | some b=>exact⟨b,rfl⟩
 | none=>
  refine absurd ?_ (Rn.1 hf);rw[List.map_map];exact h
theorem N4 {size:Nat} {own:List Nat} {r:Int} {S:QE} (h:GW size own r S):S.parts.length≤own.length:=by
 have h1:∀ l:List (Nat×Nat),(∀ p∈l,1≤p.2)→l.length≤(QX l).length:=by
  intro l
  induction l with
  | nil=>intro _;exact Nat.zero_le _
  | cons a l ih=>
   intro ha;have h1:=ih (fun p hp=>ha p (List.mem_cons_of_mem _ hp));have h2:=ha a (List.mem_cons_self ..);simp only[QX,List.flatMap_cons,List.length_append,List.length_map,List.length_range,List.length_cons] at h1 ⊢;omega
 have h2:=h1 S.parts (fun p hp=>(h.parts p hp).1)
 have h3:=GC h.nodup (l₂:=List.range own.length) (fun c hc=>by
  obtain⟨q,hq,_,_⟩:=(h.owned c).1 hc;exact List.mem_range.2 (List.getElem?_eq_some_iff.1 hq).1)
 rw[List.length_range] at h3;omega
theorem bX {size:Nat} {own:List Nat} {r:Int} {S:QE} (h:GW size own r S) (h1:own.length≤63) (h2:size≤1024):S.fin≤1048576:=by
 by_cases h0:S.fin=0
 ·omega
 ·obtain⟨c,e,_,hc⟩:=h.fin h0;have:=(h.parts _ hc).2;rw[e];exact Nat.le_trans (Nat.mul_le_mul (show c+1≤64 by omega) h2) (by omega)
theorem N5 {size:Nat} {own:List Nat} {e:Q9} (h:Zk size own e):Gh size own e.addr (e.ws.length+1):=by
 intro c c1 c2;obtain⟨r,hr,_,hr1⟩:=h.2 c c1 (by rw[show e.addr+(e.ws.length+1) - 1=e.addr+e.ws.length by omega] at c2;exact c2);rw[List.getD_eq_getElem?_getD,hr];show r≠0;omega
theorem N6 {size:Nat} {own mem own' mem':List Nat} {r n a:Nat} {S S':QE} (h:U1 size own mem r S n own' mem' S' a):own'.length=own.length:=by
 cases h with
 | room _=>rfl
 | one ha _ _=>exact Vq ha
 | run _ ha _ _ _=>exact Vq ha
def Eo (own own':List Nat) (k:Nat):Prop:=own'.length=own.length∧∃ a0 k0,k0≤k∧∀ i,own'.getD i 0≠0→own.getD i 0≠0∨(a0≤i∧i < a0+k0)
theorem bR {size:Nat} (hs:1≤size) {own mem own' mem':List Nat} {r n a:Nat} {S S':QE} (h:U1 size own mem r S (n+1) own' mem' S' a):Eo own own' (n / size+1):=by
 refine⟨N6 h,?_⟩;cases h with
 | room _=>exact⟨0,0,Nat.zero_le _,fun i hi => .inl hi⟩
 | @one b ha _ _=>
  refine⟨b,1,Nat.le_add_left 1 _,fun i hi=>?_⟩;rw[RU ha] at hi;split at hi
  ·right;assumption
  ·exact .inl hi
 | @run b k hk ha _ _ hn2=>
  refine⟨b,k,?_,fun i hi=>?_⟩
  ·have h2:k - 1≤n / size:=by
    rw[Nat.le_div_iff_mul_le (by omega)];omega
   omega
  ·rw[RU ha] at hi;split at hi
   ·right;assumption
   ·exact .inl hi
theorem bA [Q4] (p:Nat) (s:CS) (region id count:Int) {w:World} {fr:List Q2} [hT:YN 0 Lib.deBruijn64tab fr] (H:Q0 w (QR p s::fr)) :
  Calls Tryz.prog 31 #[pp p,.int .i64 region,.int .i64 id,.int .i64 count] w (ret fun v w'=>
   (ZI s region id count≠0∧v = .tuple #[X8 0 0,.int .i64 (ZI s region id count)]∧Q0 w' (QR p s::fr)) ∨
   (ZI s region id count=0∧(∀ t∈s.tab,busy t=true)∧v = .tuple #[X8 0 0,.int .i64 12]∧Q0 w' (QR p s::fr)) ∨
   (ZI s region id count=0∧(∀ a,a+(YX s id count / s.size+1)≤s.own.length→∃ i,a≤i∧i < a+(YX s id count / s.size+1)∧s.own.getD i 0≠0)∧v = .tuple #[X8 0 0,.int .i64 11]∧Q0 w' (QR p s::fr)) ∨
   (ZI s region id count = 0 ∧ ∃ k g0 addr s', s.tab[k]? = some ⟨g0, none⟩ ∧ g0 ≤ 254 ∧ (∀ j t, j < k → s.tab[j]? = some t → busy t = true) ∧ v = .tuple #[X8 k (g0 + 1), .int .i64 0] ∧
    s'.size=s.size∧s'.lays=s.lays∧s'.last=s.last∧s'.par=s.par∧s'.rem=s.rem∧s'.tab=s.tab.set k ⟨g0+1,some ⟨addr,region,true,false,id.toNat,count.toNat,List.replicate (YX s id count) 0⟩⟩∧Eo s.own s'.own (YX s id count / s.size+1)∧(Vt s→Vt s')∧Q0 w' (QR p s'::fr))):=by
 obtain⟨q,mem,hw,hm,H⟩:=Vs H;have hndp:=MB (H.pull 5);refine QQ Tryz.func31 rfl (by kernel_rfl) ?_;refine YO H ?_;clear H;intro b8 w H;refine J0 H ?_;replace H:=Js [6,0,0,0,0,0,0,0,0,0,0,0] 0 H;refine J8 H ?_
 refine Vy (fun ms σ w=>ms=[]∧(QZ s.par region).isSome=true∧σ 0=pp p∧σ 1 = .int .i64 region∧σ 2 = .int .i64 id∧σ 3 = .int .i64 count∧σ 8=pp b8 ∧
  Q0 w (Ql q.bp s.lays::pts b8 (row 69 [.int .i64 0,.int .i64 0])::V7 p q::Qw q.ip q.sp q.bp::ST q.sp s.size mem s.own::Qh q.tp s.tab::Qg q.trp s.last s.par::RS q.rp s.rem::mp (ki .i64) Qr q.sm (s.sps.map VJ)::star (s.sps.map (VT q.sp))::mp (ki .i64) Qr q.mm (s.mns.map Qz)::star (s.mns.map VY)::fr)) ?_ ?_
 ·refine Ku H ?_;refine J9 H ?_;refine Jc rfl rfl (EP q.trp s.last s.par region H) ?_;clear H;rintro v w ⟨rfl,H⟩;cases hf:(QZ s.par region).isSome with
  | false=>
   have he:ZI s region id count=15:=by unfold ZI;rw[if_pos hf]
   refine DP H ?_;clear H;intro w H;refine J0 H ?_;replace H:=Js [1,1,1,1,1,1,0,0,0,0,0,0] 0 H;refine Q3 (.inr ⟨by simp,Jz H (fun w' H' => .cellN H' rfl (by repeat first|exact .nil _|apply QY.cons rfl) (.tmp .nil)) fun w' H' => .inl ⟨by omega,by rw[he];rfl,VG hw hm H'.drop⟩⟩)
  | true=>
   refine W2 H ?_;replace H:=Js [4,1,1,1,1,1,0,0,0,0,0,0] 0 H;exact .inl ⟨rfl,rfl,rfl,rfl,rfl,rfl,rfl,rfl,H⟩
 clear H;rintro ms σ w ⟨rfl,hlive,g0,g1,g2,g3,g8,H⟩;rw[Q1 g0,Q1 g1,Q1 g2,Q1 g3,Q1 g8];clear g0 g1 g2 g3 g8;refine J9 H ?_;by_cases hid:id < 1∨(s.lays.length:Int) < id
 ·have he:ZI s region id count=6:=by unfold ZI;rw[hlive,if_neg (by simp),if_pos hid]
  refine Jc rfl rfl (T4 q.bp s.lays id hid H) ?_;clear H;rintro v w ⟨rfl,H⟩;refine Vi H ?_;clear H;intro b10 w H;refine J3 H ?_;clear H;intro w H;refine YD H ?_;refine E2 H ?_;clear H;intro w H;refine J0 H ?_;replace H:=Js [2,2,2,1,1,1,1,1,1,1,1,1] 1 H;exact Q3 (Jz H (fun w' H' => .cellN H' rfl (by repeat first|exact .nil _|apply QY.cons rfl) (.tmp .nil)) fun w' H' => .inl ⟨by omega,by rw[he];rfl,VG hw hm H'.drop⟩)
 obtain⟨i,rfl⟩:∃ i:Nat,id=i:=⟨id.toNat,by omega⟩;have hil:=List.getElem?_eq_getElem (l:=s.lays) (i:=i - 1) (by omega)
 have hlay:KN s (i:Int)=s.lays[i - 1]'(by omega):=by
  unfold KN;rw[Int.toNat_natCast,hil];rfl
 have hR:VO (KN s (i:Int)):=by rw[hlay];exact hw.lays.2 _ (List.getElem_mem _)
 rw[← hlay] at hil;have hE:ZI s region i count=(V6 (KN s i) count).2:=by unfold ZI;rw[hlive,if_neg (by simp),if_neg hid]
 have hN:YX s i count=(V6 (KN s i) count).1:=rfl;generalize KN s (i:Int)=l at hil hR hE hN;refine Jc rfl rfl (HP q.bp s.lays i (by omega) l hil H) ?_;clear H;rintro v w ⟨vr,vq,rfl,H⟩;obtain⟨ar,cr,rfl⟩:=QD H (QF _) (by decide);obtain⟨aq,cq,rfl⟩:=QD H.drop (QF _) (by decide);refine Vi H ?_;clear H;intro b10 w H;refine J3 H ?_;clear H;intro w H;refine Yi H ?_;refine A2 H ?_;replace H:=Js [1,1,0,0,0,0,0,0,0,0,0,0,0,0,0] 0 H;obtain⟨D1,H,hD1,hC1⟩:=sls_rd H (QF _) (by decide);obtain⟨D2,H,hD2,hC2⟩:=sls_rd H.swap (QF _) (by decide);refine Jc rfl rfl (Bu _ _ l hR count ⟨(hD1 _).there,hD2 _⟩ H) ?_;clear H;rintro v w ⟨rfl,H⟩;replace H:=hC1 _ _ (hC2 _ _ H).swap;replace H:=Js [8,3,3,3,3,3,3,3,3,3,3,3] 3 H;generalize hsz:V6 l count=z at hE hN H ⊢;obtain⟨n,er⟩:=z;refine Rz H ?_
 refine Vy (fun ms σ w=>ms=[]∧er=0∧¬ (∀ t∈s.tab,busy t=true)∧σ 0=pp p∧σ 1 = .int .i64 region∧σ 2 = .int .i64 i∧σ 3 = .int .i64 count∧σ 8=pp b8∧σ 12 = .int .i64 n ∧
  Q0 w (Qh q.tp s.tab::Ql q.bp s.lays::pts b8 (row 69 [.int .i64 0,.int .i64 0])::V7 p q::Qw q.ip q.sp q.bp::ST q.sp s.size mem s.own::Qg q.trp s.last s.par::RS q.rp s.rem::mp (ki .i64) Qr q.sm (s.sps.map VJ)::star (s.sps.map (VT q.sp))::mp (ki .i64) Qr q.mm (s.mns.map Qz)::star (s.mns.map VY)::fr)) ?_ ?_
 ·refine QS ?_;refine V8 H ?_;by_cases h0:er=0
  ·subst h0;refine Bb H ?_;refine Ya H ?_;refine Jc rfl rfl (Mp q.tp s.tab H) ?_;clear H;rintro v w ⟨rfl,H⟩;have hbt:Gk s.tab≤s.tab.length:=List.length_filter_le _ _;by_cases hb:∀ t∈s.tab,busy t=true
   ·have hbe:Gk s.tab=s.tab.length:=by unfold Gk;rw[List.filter_eq_self.2 hb]
    rw[show s.tab.length - Gk s.tab=0 by omega];refine DP H ?_;clear H;intro w H;refine J0 H ?_;replace H:=Js [2,2,2,1,1,0,0,0,0,0,0,0] 0 H;refine Q3 (.inr ⟨by simp,Jz H (fun w' H' => .cellN H' rfl (by repeat first|exact .nil _|apply QY.cons rfl) (.tmp .nil)) fun w' H' => .inr (.inl ⟨hE,hb,rfl,VG hw hm H'.drop⟩)⟩)
   ·have hbe:Gk s.tab≠s.tab.length:=by
     intro h;refine hb fun t ht=>?_;exact List.length_filter_eq_length_iff.1 h t ht
    refine J2 H ?_;rw[show (((s.tab.length - Gk s.tab:Nat):Int) == 0)=false by simp;omega];refine V5 H ?_;exact .inl ⟨rfl,rfl,rfl,hb,rfl,rfl,rfl,rfl,rfl,rfl,H⟩
  ·rw[show (((er:Nat):Int) != 0)=true by simpa using h0];refine E2 H ?_;clear H;intro w H;refine J0 H ?_;replace H:=Js [2,2,2,1,1,0,0,0,0,0,0,0] 0 H;refine Q3 (.inr ⟨by simp,Jz H (fun w' H' => .cellN H' rfl (by repeat first|exact .nil _|apply QY.cons rfl) (.tmp .nil)) fun w' H' => .inl ⟨by rw[hE];exact h0,by rw[hE];rfl,VG hw hm H'.drop⟩⟩)
 clear H;rintro ms σ w ⟨rfl,rfl,hfree,g0,g1,g2,g3,g8,g12,H⟩;rw[Q1 g0,Q1 g1,Q1 g2,Q1 g3,Q1 g8,Q1 g12];clear g0 g1 g2 g3 g8 g12;obtain⟨z1,z2,z3,z4,z5⟩:=HC hsz;obtain⟨c,rfl⟩:∃ c:Nat,count=c:=⟨count.toNat,by omega⟩;have hrk:region∈s.par.map (·.1):=WX hlive;obtain⟨b,hkS⟩:=KP (l:=s.sps) (f:=fun x=>x.1) (g:=fun x=>x.2.1) (k:=region) (by rw[hw.skeys];exact hrk);obtain⟨⟨r0,b0,S⟩,p1,p2,hsps,h01,h02⟩:=KO hkS;obtain rfl:r0=region:=h01;obtain rfl:b0=b:=h02;obtain⟨b2,hkM⟩:=KP (l:=s.mns) (f:=fun x=>x.1) (g:=fun x=>x.2.1) (k:=r0) (by rw[hw.mkeys];exact hrk);obtain⟨⟨r1,b1,L⟩,m1,m2,hmns,h11,h12⟩:=KO hkM;obtain rfl:r1=r0:=h11;obtain rfl:b1=b2:=h12
 have hr1:1≤r1:=by
  obtain⟨⟨ra,rx⟩,hx,rfl⟩:=List.mem_map.1 hrk;exact(hw.par.2.2 _ _ hx).1
 obtain⟨r,rfl⟩:∃ r:Nat,r1=r:=⟨r1.toNat,by omega⟩;have hS:GW s.size s.own r S:=hw.spc ((r:Int),b0,S) (by rw[hsps];simp);have hfin:=bX hS hw.own.2 hw.size.2;have hpl:=N4 hS;have hown:=hw.own.2;refine J9 H ?_;refine Q5 rfl (Zt (ek:=ki .i64) (vv:=Qr) (key:=(r:Int)) H rfl rfl VP rfl ?_);have hkS':QZ (s.sps.map VJ) (r:Int)=some b0:=hkS;have hkM':QZ (s.mns.map Qz) (r:Int)=some b1:=hkM;rw[hkS'];refine YS H ?_;rw[QT (x:=((n:Nat):Int)+1) (by omega) (by omega),show ((n:Nat):Int)+1=((n+1:Nat):Int) by omega];replace H:=Js [9,5,0,0,0,0,0,0,0,0,0,0] 0 H;replace H:Q0 w (Qi b0 q.sp r S::star ((p1++p2).map (VT q.sp))::_):=(Q0.pick (R:=VT q.sp) (x:=((r:Int),b0,S)) hsps).1 H;replace H:=Js [0,1,0,0,0,0,0,0,0,0,0,0,0] 0 H;refine Jc rfl rfl (MM b0 q.sp r s.size (n+1) S mem s.own (by omega) (by omega) (by omega) hS.at1 hfin hown hw.size.1 hw.size.2 (by omega) H) ?_;clear H;rintro v w (⟨a,own',mem',S',rfl,al,H⟩|⟨rfl,hno,H⟩)
 case inr=>
  refine X0 H ?_;refine E2 H ?_;clear H;intro w H;refine J0 H ?_;replace H:=Js [0,1,0,0,0,0,0,0,0,0,0,0,0] 0 H;have H:=(Q0.pick (R:=VT q.sp) (x:=((r:Int),b0,S)) hsps).2 H;replace H:=Js [5,5,3,1,1,2,2,2,0,1,1,0] 0 H;have H:=(VG hw hm H).swap;refine Q3 (Jz H (fun w' H' => .cellN H' rfl (by repeat first|exact .nil _|apply QY.cons rfl) (.tmp .nil)) fun w' H' => .inr (.inr (.inl ⟨hE,?_,rfl,H'.drop⟩)));rw[hN];intro a ha;rw[Nat.add_sub_cancel] at hno;exact hno a ha
 have hol:=N6 al;obtain⟨hml,hmo⟩:=ML hw hm.len al;refine Zu H ?_;refine GY H ?_;refine Gv H ?_;replace H:=Js [3,0,0,0,0,0,0,0,0,0,0,0,0] 0 H;refine Jc rfl rfl (aH q.tp s.tab ⟨a,r,true,false,i,c,List.replicate n 0⟩ H) ?_;clear H;rintro v w (⟨k,g0,hk,hg0,hbz,rfl,H⟩|⟨hb,_,_⟩)
 case inr=>exact absurd hb hfree
 have hkl:k < s.tab.length:=(List.getElem?_eq_some_iff.1 hk).1;have hsl:=hw.slots.2;refine Vi H ?_;clear H;intro b14 w H;refine J3 H ?_;clear H;intro w H;refine J0 H ?_;have hL:=hw.mine ((r:Int),b1,L) (by rw[hmns];simp)
 have hLk:k∉L:=by
  intro hj;obtain⟨g,f,hf,_⟩:=(hL.2 k).1 hj;rw[hk] at hf;cases hf
 have hLs:(YF L k).Pairwise (· < ·):=En hL.1 hLk;have hmay:Xh i c k:=⟨by omega,by have:=hw.lays.1;omega,by omega,by omega⟩
 have hobj:Ul s.lays k ⟨a,r,true,false,i,c,List.replicate n 0⟩:=by
  refine⟨hmay,l,hil,hR,by simpa using hsz,fun x w hx=>?_⟩;have hx:(List.replicate n 0)[x]? = some w:=hx;have:=List.eq_of_mem_replicate (List.mem_of_getElem? hx);subst this;exact⟨by omega,fun _=>⟨.none,trivial,rfl⟩⟩
 have al':U1 s.size s.own mem r S ((Q9.mk a r true false i c (List.replicate n 0)).ws.length+1) own' mem' S' (Q9.mk a r true false i c (List.replicate n 0)).addr:=by
  show U1 s.size s.own mem r S ((List.replicate n 0).length+1) own' mem' S' a;rw[List.length_replicate];exact al
 have hwf:=TW hw hk hg0 hsps hmns hndp (e:=⟨a,r,true,false,i,c,List.replicate n 0⟩) rfl hobj al' hLs (fun j=>Em);have htk:(s.tab.set k (⟨g0+1,some ⟨a,r,true,false,i,c,List.replicate n 0⟩⟩:QH))[k]? = some ⟨g0+1,some ⟨a,r,true,false,i,c,List.replicate n 0⟩⟩:=List.getElem?_set_self hkl;have hlies:Zk s.size own' ⟨a,r,true,false,i,c,List.replicate n 0⟩:=(hwf.obj k _ _ htk).2.1
 have hfit:a+1+n≤mem'.length:=by
  have h1:QM (Q9.mk a r true false i c (List.replicate n 0))≤own'.length*s.size:=hlies.1;unfold QM at h1;rw[hml,hm.len,← hol];simpa using h1
 have hod:Gh s.size own' a (n+1):=by
  have:=N5 hlies;simpa using this
 replace H:=Js [8,5,3,0,0,0,0,0,0,0,0,0,0,0] 0 H;refine J1 H ?_;clear H;intro w H;refine YT H ?_;refine Jl 3 [10] H ?_;refine DB H ?_;refine Jl 8 [10] H ?_;refine G9 9 rfl (Q8.none rfl) rfl (by kernel_rfl) ?_;refine Jo 10 H ?_;refine Jk rfl rfl (TJ q.ip q.sp q.bp s.size s.lays mem' own' a i c k n l hmay hil hR hsz hfit hod H) ?_;clear H;rintro v w ⟨rfl,H⟩;refine Jx H ?_;replace H:=Js [13,0,0,0,0,0,0,0,0,0,0,0,0,0] 0 H;replace H:Q0 w (Qs b1 L::star ((m1++m2).map VY)::_):=(Q0.pick (R:=VY) (x:=((r:Int),b1,L)) hmns).1 H
 have hL1:L.length≤63:=by
  have:=RK L 0 63 (fun x hx=>⟨Nat.zero_le _,by
   obtain⟨g,f,h3,_⟩:=(hL.2 x).1 hx;have h4:=(List.getElem?_eq_some_iff.1 h3).1;have:=hw.slots.2;omega⟩) hL.1
  omega
 refine J1 H ?_;clear H;intro w H;refine Bm H ?_;refine Ja 4 ?_;refine XL 5 [8] (key:=(r:Int)) H rfl (Q8.none rfl) rfl rfl VP (by kernel_rfl) ?_;rw[hkM'];refine Jf 6 ?_;refine Jl 7 [8] H ?_;refine Jo 8 H ?_;refine Jk rfl rfl (N3 b1 L k hL.1 (by omega) hLk H) ?_;clear H;rintro v w ⟨rfl,H⟩;refine Jx H ?_;refine K5 H ?_;clear H;intro w H;refine J0 H ?_
 have hap:∀ (j g:Nat) (f:Q9),s.tab[j]? = some ⟨g,some f⟩→QM f≤(Q9.mk a r true false i c (List.replicate n 0)).addr∨QM (Q9.mk a r true false i c (List.replicate n 0))≤f.addr:=by
  intro j g f hj;have hne:j≠k:=fun h=>by subst h;rw[hk] at hj;cases hj
  refine hwf.apart j k g (g0+1) f _ hne ?_ htk;show (s.tab.set k _)[j]? = _;rw[List.getElem?_set_ne (fun h=>hne h.symm)];exact hj
 have hsl2:(mem'.set a (Zw i c k)).length=mem'.length:=List.length_set
 have hmem:=TA hw hm hk (e:=⟨a,r,true,false,i,c,List.replicate n 0⟩) al' (mem2:=V3 (mem'.set a (Zw i c k)) (a+1) n 0) (by rw[Vq (by omega),hsl2]) hol
  (by
   show (V3 (mem'.set a (Zw i c k)) (a+1) n 0)[a]? = some (Zw i c k);rw[Zi (by omega),if_neg (by omega),List.getElem?_set_self (by omega)])
  (fun x w hx => by
   have hx:(List.replicate n 0)[x]? = some w:=hx;have h0:=List.eq_of_mem_replicate (List.mem_of_getElem? hx);have h1:=(List.getElem?_eq_some_iff.1 hx).1;rw[List.length_replicate] at h1;subst h0;show (V3 (mem'.set a (Zw i c k)) (a+1) n 0)[a+1+x]? = some 0;rw[Zi (by omega),if_pos (by omega)])
  (fun x hx => by
   have hx:x < a∨QM (Q9.mk a r true false i c (List.replicate n 0))≤x:=hx;unfold QM at hx;rw[List.length_replicate] at hx;have hx:x < a∨a+1+n≤x:=hx;rw[Zi (by omega),if_neg (by omega),List.getElem?_set_ne (by omega)])
  hap (s':={ s with own:=own',tab:=s.tab.set k ⟨g0+1,some ⟨a,r,true,false,i,c,List.replicate n 0⟩⟩,sps:=p1++((r:Int),b0,S')::p2,mns:=m1++((r:Int),b1,YF L k)::m2 }) rfl rfl rfl
 have hkeyS:s.sps.map VJ=(p1++((r:Int),b0,S')::p2).map VJ:=by rw[hsps];simp
 have hkeyM:s.mns.map Qz=(m1++((r:Int),b1,YF L k)::m2).map Qz:=by rw[hmns];simp
 rw[hkeyS,hkeyM] at H;have H:=(Q0.pick (R:=VY) (x:=((r:Int),b1,YF L k)) (g1:=m1) (g2:=m2) rfl).2 H;replace H:=Js [6,6,0,0,0,0,1,1,1,1,1,1,1] 1 H;have H:=(Q0.pick (R:=VT q.sp) (x:=((r:Int),b0,S')) (g1:=p1) (g2:=p2) rfl).2 H;replace H:=Js [7,2,2,2,2,3,3,3,0,2,0,0] 0 H;have H:=(VG hwf hmem H).swap;refine Q3 (Jz H (fun w' H' => .cellN H' rfl (by repeat first|exact .nil _|apply QY.cons rfl) (.tmp .nil)) fun w' H' => .inr (.inr (.inr ⟨hE,k,g0,a,{ s with own:=own',tab:=s.tab.set k ⟨g0+1,some ⟨a,r,true,false,i,c,List.replicate n 0⟩⟩,sps:=p1++((r:Int),b0,S')::p2,mns:=m1++((r:Int),b1,YF L k)::m2 },hk,hg0,hbz,rfl,rfl,rfl,rfl,rfl,rfl,?_,by rw[hN];exact bR hw.size.1 al,fun hP=>ay hP hsps (e:=⟨a,r,true,false,i,c,List.replicate n 0⟩) rfl hw.size.1 (hw.spc ((r:Int),b0,S) (by rw[hsps];simp)) al' rfl rfl rfl,H'.drop⟩)));show s.tab.set k _=s.tab.set k _;rw[hN];rfl
end Go.Proofs.YtmjdnljneifpcaaGreatDoor
namespace Go.Proofs.YtmjdnljneifpcaaGreatDoor
open Go.SL
def bB:Option (Nat×Nat)→Vw
 | some (k,g) => .obj k g
 | none => .none
def Z3 (told:List (Nat×Nat)) (kd t:Nat):Vw:=if kd=2 then bB told[t]? else if kd=1 then .grave else .none
def UM (ls:List QJ) (i:Nat):QJ:=(ls[i - 1]?).getD ⟨0,[],0,[]⟩
structure Gl (lays:List QJ) (told:List (Nat×Nat)) (e:Q9) (x:QI):Prop where
 region:e.region=x.region
 lay:e.lay=x.lay
 count:e.count=x.count
 held:e.held=x.held
 pinned:e.pinned=x.pinned
 len:e.ws.length=x.w.length
 ref:∀ p,p < x.w.length→VV (UM lays x.lay) p=true→ZZ (e.ws.getD p 0)=Z3 told (x.kind.getD p 0) (x.to.getD p 0)
 word:∀ p,p < x.w.length→VV (UM lays x.lay) p=false→e.ws.getD p 0=x.w.getD p 0
 kind:∀ p,p < x.w.length→x.kind.getD p 0≠0→VV (UM lays x.lay) p=true∧x.kind.getD p 0≤2
structure Rel (s:CS) (m:MS) (told:List (Nat×Nat)):Prop where
 len:told.length=m.objs.length
 lays:s.lays=m.lays
 tree:∀ (r q:Int),(r,q)∈s.par↔∃ k:Nat,r=k∧1≤k∧m.P[k]? = some q∧0≤q
 nd:(s.par.map (·.1)).Nodup
 last:s.last+1=m.P.length
 obj:∀ (o:Nat) (x:QI) (k g:Nat),m.objs[o]? = some x→told[o]? = some (k,g)→x.gone=false→∃ e,s.tab[k]? = some ⟨g,some e⟩∧Gl m.lays told e x
 gone:∀ (o:Nat) (x:QI) (k g:Nat),m.objs[o]? = some x→told[o]? = some (k,g)→x.gone=true→∀ e,s.tab[k]? ≠ some ⟨g,some e⟩
 used:∀ (k g:Nat) (e:Q9),s.tab[k]? = some ⟨g,some e⟩→∃ o:Nat,told[o]? = some (k,g)
 gens:∀ (o k g:Nat),told[o]? = some (k,g)→∃ t,s.tab[k]? = some t∧g≤t.gen
 nodup:told.Nodup
structure RP (s:CS) (m:MS) (told:List (Nat×Nat)):Prop where
 len:told.length=m.objs.length
 lays:s.lays=m.lays
 tree:∀ (r q:Int),(r,q)∈s.par↔∃ k:Nat,r=k∧1≤k∧m.P[k]? = some q∧0≤q
 nd:(s.par.map (·.1)).Nodup
 obj:∀ (o:Nat) (x:QI) (k g:Nat),m.objs[o]? = some x→told[o]? = some (k,g)→x.gone=false→∃ e,s.tab[k]? = some ⟨g,some e⟩∧Gl m.lays told e x
 gone:∀ (o:Nat) (x:QI) (k g:Nat),m.objs[o]? = some x→told[o]? = some (k,g)→x.gone=true→∀ e,s.tab[k]? ≠ some ⟨g,some e⟩
theorem Rel.w {s:CS} {m:MS} {told:List (Nat×Nat)} (R:Rel s m told):RP s m told:=⟨R.len,R.lays,R.tree,R.nd,R.obj,R.gone⟩
theorem CW {α:Type} {l:List α} (h:l.Nodup) {i j:Nat} {a:α} (hi:l[i]? = some a) (hj:l[j]? = some a):i=j:=by
 have h1:=(List.getElem?_eq_some_iff.1 hi);have h2:=(List.getElem?_eq_some_iff.1 hj);obtain⟨a1,b1⟩:=h1;obtain⟨a2,b2⟩:=h2;have h3:=List.pairwise_iff_getElem.1 h
 rcases Nat.lt_trichotomy i j with h4|h4|h4
 ·exact absurd (b1.trans b2.symm) (h3 i j a1 a2 h4)
 ·exact h4
 ·exact absurd (b2.trans b1.symm) (h3 j i a2 a1 h4)
theorem Ad {s:CS} {m:MS} {told:List (Nat×Nat)} (R:Rel s m told) {n k g:Nat} {e e':Q9} {x x':QI} (ht:told[n]? = some (k,g)) (hk:s.tab[k]? = some ⟨g,some e⟩) (hx:m.objs[n]? = some x) (hg:x.gone=false) (hg':x'.gone=false) (hl:Gl m.lays told e' x') (rem:List ((Int×Int)×Int)) :
  Rel { VF s k g e' with rem:=rem } (Yl m n x') told:=by
 have hnl:=(List.getElem?_eq_some_iff.1 hx).1;have hkl:=(List.getElem?_eq_some_iff.1 hk).1;refine⟨by show told.length=(m.objs.set n x').length;rw[List.length_set];exact R.len,R.lays,R.tree,R.nd,R.last,?_,?_,?_,?_,R.nodup⟩
 ·intro o x0 k0 g0 (hx0:(m.objs.set n x')[o]? = some x0) ht0 hg0;by_cases hon:n=o
  ·subst hon;rw[List.getElem?_set_self hnl] at hx0;injection hx0 with hx0
   subst hx0;rw[ht] at ht0;injection ht0 with h1
   injection h1 with h1 h2
   subst h1 h2;exact⟨e',by show (s.tab.set k _)[k]? = _;rw[List.getElem?_set_self hkl],hl⟩
  ·rw[List.getElem?_set_ne hon] at hx0;obtain⟨e0,h1,h2⟩:=R.obj o x0 k0 g0 hx0 ht0 hg0;refine⟨e0,?_,h2⟩;show (s.tab.set k _)[k0]? = _;by_cases hkk:k=k0
   ·subst hkk;rw[hk] at h1;injection h1 with h1
    injection h1 with h1 _
    subst h1;exact absurd (CW R.nodup ht ht0) hon
   ·rw[List.getElem?_set_ne hkk];exact h1
 ·intro o x0 k0 g0 (hx0:(m.objs.set n x')[o]? = some x0) ht0 hg0 e0 (h1:(s.tab.set k _)[k0]? = _);by_cases hon:n=o
  ·subst hon;rw[List.getElem?_set_self hnl] at hx0;injection hx0 with hx0
   subst hx0;rw[hg'] at hg0;cases hg0
  ·rw[List.getElem?_set_ne hon] at hx0
   rcases Qv h1 with ⟨rfl,h2,_⟩|⟨_,h2⟩
   ·injection h2 with h2 _
    subst h2;exact hon (CW R.nodup ht ht0)
   ·exact R.gone o x0 k0 g0 hx0 ht0 hg0 e0 h2
 ·intro k0 g0 e0 (h1:(s.tab.set k _)[k0]? = _)
  rcases Qv h1 with ⟨rfl,h2,_⟩|⟨_,h2⟩
  ·injection h2 with h2 _
   subst h2;exact⟨n,ht⟩
  ·exact R.used k0 g0 e0 h2
 ·intro o k0 g0 ht0;obtain⟨t,h1,h2⟩:=R.gens o k0 g0 ht0;show ∃ t,(s.tab.set k _)[k0]? = some t∧_;by_cases hkk:k=k0
  ·subst hkk;rw[hk] at h1;injection h1 with h1
   subst h1;exact⟨_,List.getElem?_set_self hkl,h2⟩
  ·exact⟨t,by rw[List.getElem?_set_ne hkk];exact h1,h2⟩
theorem bC {s:CS} {m:MS} {told:List (Nat×Nat)} (R:Rel s m told) {n:Nat} {x x':QI} (hx:m.objs[n]? = some x) (hg:x.gone=true) (hg':x'.gone=true):Rel s (Yl m n x') told:=by
 have hnl:=(List.getElem?_eq_some_iff.1 hx).1;refine⟨by show told.length=(m.objs.set n x').length;rw[List.length_set];exact R.len,R.lays,R.tree,R.nd,R.last,?_,?_,R.used,R.gens,R.nodup⟩
 ·intro o x0 k0 g0 (hx0:(m.objs.set n x')[o]? = some x0) ht0 hg0;by_cases hon:n=o
  ·subst hon;rw[List.getElem?_set_self hnl] at hx0;injection hx0 with hx0
   subst hx0;rw[hg'] at hg0;cases hg0
  ·rw[List.getElem?_set_ne hon] at hx0;exact R.obj o x0 k0 g0 hx0 ht0 hg0
 ·intro o x0 k0 g0 (hx0:(m.objs.set n x')[o]? = some x0) ht0 hg0;by_cases hon:n=o
  ·subst hon;exact R.gone n x k0 g0 hx ht0 hg
  ·rw[List.getElem?_set_ne hon] at hx0;exact R.gone o x0 k0 g0 hx0 ht0 hg0
def Gm (told:List (Nat×Nat)) (i g o:Int):Prop:=(∃ k gg n:Nat,i=k∧g=gg∧o=n∧told[n]? = some (k,gg))∨(o = -1∧∀ (k gg n:Nat),i=k→g=gg→told[n]? ≠ some (k,gg))
@[reducible] def Vd (s:CS) (m:MS) (told:List (Nat×Nat)) (i g o:Int):Prop:=(Qm s.tab i g=none∧Qy m o=none) ∨
  ∃ (k gg n:Nat) (e:Q9) (x:QI),i=k∧g=gg∧o=n∧told[n]? = some (k,gg)∧s.tab[k]? = some ⟨gg,some e⟩∧m.objs[n]? = some x∧x.gone=false∧Gl m.lays told e x∧Qm s.tab i g=some (k,e)∧Qy m o=some (n,x)
theorem bD {s:CS} {m:MS} {told:List (Nat×Nat)} (R:RP s m told) {k gg n:Nat} (ht:told[n]? = some (k,gg)):Vd s m told k gg n:=by
 have hnl:n < m.objs.length:=by rw[← R.len];exact(List.getElem?_eq_some_iff.1 ht).1
 have hx:=List.getElem?_eq_getElem hnl;generalize m.objs[n]=x at hx;cases hg:x.gone with
 | true=>
  left;constructor
  ·cases hv:Qm s.tab k gg with
   | none=>rfl
   | some q=>
    obtain⟨k',e⟩:=q;obtain⟨n',h1,h2,h3⟩:=Y5.1 (XQ.1 hv).1;obtain rfl:k=k':=by omega
    obtain rfl:gg=n':=by omega
    exact absurd h3 (R.gone n x k gg hx ht hg e)
  ·rw[C3,hx];simp[hg]
 | false=>
  obtain⟨e,he,hl⟩:=R.obj n x k gg hx ht hg;have hlk:Qk s.tab k gg=some (k,e):=Y5.2 ⟨gg,rfl,rfl,he⟩;cases hh:x.held with
  | true=>
   right;refine⟨k,gg,n,e,x,rfl,rfl,rfl,ht,he,hx,hg,hl,XQ.2 ⟨hlk,by rw[hl.held,hh]⟩,?_⟩;rw[C3,hx];simp[hg,hh]
  | false=>
   left;constructor
   ·cases hv:Qm s.tab k gg with
    | none=>rfl
    | some q=>
     obtain⟨k',e'⟩:=q;obtain⟨h1,h2⟩:=XQ.1 hv;rw[hlk] at h1;injection h1 with h1
     injection h1 with h1 h3
     subst h3;rw[hl.held,hh] at h2;cases h2
   ·rw[C3,hx];simp[hh]
theorem Xp {s:CS} {m:MS} {told:List (Nat×Nat)} (R:Rel s m told) {i g o:Int} (P:Gm told i g o):Vd s m told i g o:=by
 rcases P with ⟨k,gg,n,rfl,rfl,rfl,ht⟩|⟨rfl,hno⟩
 ·exact bD R.w ht
 ·left;refine⟨?_,rfl⟩;cases hv:Qm s.tab i g with
  | none=>rfl
  | some q=>
   obtain⟨k,e⟩:=q;obtain⟨n',h1,h2,h3⟩:=Y5.1 (XQ.1 hv).1;obtain⟨o,ho⟩:=R.used k n' e h3;exact absurd ho (hno k n' o h1 h2)
theorem KS {s:CS} {m:MS} {told:List (Nat×Nat)} (R:RP s m told) {e:Q9} {x:QI} (h:Gl m.lays told e x):QN s e=Vl m x:=by
 unfold QN Vl;rw[R.lays,h.lay]
theorem bE {s:CS} {m:MS} {told:List (Nat×Nat)} (R:RP s m told) {i g o:Int} (V:Vd s m told i g o) (place:Int) :
  (VR m o place false≠0∧U3 s i g place=(0,VR m o place false))∨(VR m o place false=0∧∃ (n j:Nat) (x:QI),o=n∧place=j∧m.objs[n]? = some x∧j < x.w.length∧U3 s i g place=(x.w.getD j 0,0)):=by
 rcases V with ⟨h1,h2⟩|⟨k,gg,n,e,x,rfl,rfl,rfl,ht,hk,hx,hg,hl,h1,h2⟩
 ·left;rw[XZ h2,Mv h1];exact⟨by omega,rfl⟩
 ·rw[UC h2,Hl h1,KS R hl,hl.len];by_cases h0:QL (Vl m x) x.w.length place false=0
  ·right;obtain⟨j,rfl,hj,hr⟩:=Za h0;refine⟨h0,n,j,x,rfl,rfl,hx,hj,?_⟩;rw[if_pos h0,Int.toNat_natCast,hl.word j hj hr]
  ·left;exact⟨h0,by rw[if_neg h0]⟩
theorem bF {s:CS} {m:MS} {told:List (Nat×Nat)} (R:Rel s m told) {i g o:Int} (P:Gm told i g o) (place:Int) :
  (VR m o place false≠0∧U3 s i g place=(0,VR m o place false))∨(VR m o place false=0∧∃ (n j:Nat) (x:QI),o=n∧place=j∧m.objs[n]? = some x∧j < x.w.length∧U3 s i g place=(x.w.getD j 0,0)):=bE R.w (Xp R P) place
end Go.Proofs.YtmjdnljneifpcaaGreatDoor
namespace Go.Proofs.YtmjdnljneifpcaaGreatDoor
open Go.SL
theorem RT {α:Type} {l:List α} {i j:Nat} {a d:α} (h:i < l.length):(l.set i a).getD j d=if i=j then a else l.getD j d:=by
 rw[List.getD_eq_getElem?_getD,List.getD_eq_getElem?_getD,List.getElem?_set];split
 ·rename_i hij;subst hij;simp[h]
 ·rfl
def KT (m:MS) (o place:Int) (X:Nat):MS:=
 match Qy m o with
 | none=>m
 | some (k,x)=>if QL (Vl m x) x.w.length place false=0 then Yl m k { x with w:=x.w.set place.toNat X } else m
theorem N7 {m:MS} {o place:Int} {X:Nat} (h:Qy m o=none):KT m o place X=m:=by unfold KT;rw[h]
theorem Hw {m:MS} {o place:Int} {X k:Nat} {x:QI} (h:Qy m o=some (k,x)):KT m o place X=if QL (Vl m x) x.w.length place false=0 then Yl m k { x with w:=x.w.set place.toNat X } else m:=by unfold KT;rw[h]
theorem bH {s:CS} {m:MS} {told:List (Nat×Nat)} (R:Rel s m told) {i g o:Int} (P:Gm told i g o) (place:Int) (X:Nat) :
  (UF s i g place X).2=VR m o place false∧Rel (UF s i g place X).1 (KT m o place X) told:=by
 rcases Xp R P with ⟨h1,h2⟩|⟨k,gg,n,e,x,rfl,rfl,rfl,ht,hk,hx,hg,hl,h1,h2⟩
 ·rw[XZ h2,C6 h1,N7 h2];exact⟨rfl,R⟩
 ·rw[UC h2,C7 h1,Hw h2,KS R.w hl,hl.len];by_cases h0:QL (Vl m x) x.w.length place false=0
  ·obtain⟨j,rfl,hj,hr⟩:=Za h0;rw[if_pos h0,if_pos h0,h0,Int.toNat_natCast,Int.toNat_natCast];refine⟨rfl,Ad R ht hk hx hg (by exact hg) ?_ s.rem⟩;refine⟨hl.region,hl.lay,hl.count,hl.held,hl.pinned,by simp[hl.len],?_,?_,?_⟩
   ·intro p hp hr';have hp':p < x.w.length:=by simpa using hp
    show ZZ ((e.ws.set j X).getD p 0)=_;rw[RT (by rw[hl.len];exact hj)];rw[if_neg (by rintro rfl;exact absurd (hr'.symm.trans hr) (by decide))];exact hl.ref p hp' hr'
   ·intro p hp hr';have hp':p < x.w.length:=by simpa using hp
    show (e.ws.set j X).getD p 0=(x.w.set j X).getD p 0;rw[RT (by rw[hl.len];exact hj),RT hj];split
    ·rfl
    ·exact hl.word p hp' hr'
   ·intro p hp hn;have hp':p < x.w.length:=by simpa using hp
    exact hl.kind p hp' hn
  ·rw[if_neg h0,if_neg h0];exact⟨rfl,R⟩
theorem N8 {ls:List QJ} {told:List (Nat×Nat)} {e:Q9} {x:QI} (h:Gl ls told e x) (b:Bool):Gl ls told { e with held:=b } { x with held:=b }:=⟨h.region,h.lay,h.count,rfl,h.pinned,h.len,h.ref,h.word,h.kind⟩
theorem bI {ls:List QJ} {told:List (Nat×Nat)} {e:Q9} {x:QI} (h:Gl ls told e x) (b:Bool):Gl ls told { e with pinned:=b } { x with pinned:=b }:=⟨h.region,h.lay,h.count,h.held,rfl,h.len,h.ref,h.word,h.kind⟩
theorem bJ {s:CS} {m:MS} {told:List (Nat×Nat)} (R:Rel s m told) {i g o:Int} (P:Gm told i g o) :
  (UH s i g).2=(GH m o).2∧Rel (UH s i g).1 (GH m o).1 told:=by
 rcases Xp R P with ⟨h1,h2⟩|⟨k,gg,n,e,x,rfl,rfl,rfl,ht,hk,hx,hg,hl,h1,h2⟩
 ·have:GH m o=(m,8):=by unfold GH;rw[h2]
  rw[this,C9 h1];exact⟨rfl,R⟩
 ·have:GH m n=(Yl m n { x with held:=false },0):=by unfold GH;rw[h2]
  rw[this,CQ h1,Int.toNat_natCast];exact⟨rfl,Ad R ht hk hx hg (by exact hg) (N8 hl false) s.rem⟩
theorem bM {s:CS} {m:MS} {told:List (Nat×Nat)} (R:Rel s m told) {i g o:Int} (P:Gm told i g o) (on:Bool) :
  (UI s i g on).2=(GI m o on).2∧Rel (UI s i g on).1 (GI m o on).1 told:=by
 rcases Xp R P with ⟨h1,h2⟩|⟨k,gg,n,e,x,rfl,rfl,rfl,ht,hk,hx,hg,hl,h1,h2⟩
 ·have:GI m o on=(m,8):=by unfold GI;rw[h2]
  rw[this,CV h1];exact⟨rfl,R⟩
 ·have:GI m n on=if x.pinned=on then (m,7) else (Yl m n { x with pinned:=on },0):=by unfold GI;rw[h2]
  rw[this,CY h1,Int.toNat_natCast,hl.pinned];by_cases hb:x.pinned=on
  ·rw[if_pos hb,if_pos hb];exact⟨rfl,R⟩
  ·rw[if_neg hb,if_neg hb];exact⟨rfl,Ad R ht hk hx hg (by exact hg) (bI hl on) s.rem⟩
theorem bN {s:CS} {m:MS} {told:List (Nat×Nat)} (R:RP s m told) {i g o:Int} (V:Vd s m told i g o) (place:Int) :
  (VR m o place true≠0∧Vz s i g place=(.none,VR m o place true))∨(VR m o place true=0∧∃ (n j:Nat) (x:QI),o=n∧place=j∧m.objs[n]? = some x∧Qy m o=some (n,x)∧j < x.w.length∧VV (UM m.lays x.lay) j=true∧x.kind.getD j 0≤2∧Vz s i g place=(Z3 told (x.kind.getD j 0) (x.to.getD j 0),0)):=by
 rcases V with ⟨h1,h2⟩|⟨k,gg,n,e,x,rfl,rfl,rfl,ht,hk,hx,hg,hl,h1,h2⟩
 ·left;rw[XZ h2,Ho h1];exact⟨by omega,rfl⟩
 ·rw[UC h2,C8 h1,KS R hl,hl.len];by_cases h0:QL (Vl m x) x.w.length place true=0
  ·right;obtain⟨j,rfl,hj,hr⟩:=Za h0;refine⟨h0,n,j,x,rfl,rfl,hx,h2,hj,hr,?_,?_⟩
   ·by_cases hz:x.kind.getD j 0=0
    ·omega
    ·exact(hl.kind j hj hz).2
   ·rw[if_pos h0,Int.toNat_natCast,hl.ref j hj hr]
  ·left;exact⟨h0,by rw[if_neg h0]⟩
theorem Hx {s:CS} {m:MS} {told:List (Nat×Nat)} (R:Rel s m told) {i g o:Int} (P:Gm told i g o) (place:Int) :
  (VR m o place true≠0∧Vz s i g place=(.none,VR m o place true))∨(VR m o place true=0∧∃ (n j:Nat) (x:QI),o=n∧place=j∧m.objs[n]? = some x∧Qy m o=some (n,x)∧j < x.w.length∧VV (UM m.lays x.lay) j=true∧x.kind.getD j 0≤2∧Vz s i g place=(Z3 told (x.kind.getD j 0) (x.to.getD j 0),0)):=bN R.w (Xp R P) place
theorem N9 {ls:List QJ} {told:List (Nat×Nat)} {e:Q9} {x:QI} {n:Nat} (h:Gl ls told e x) (hm:Gj ls n x) {j:Nat} (hj:j < x.w.length) (hr:VV (UM ls x.lay) j=true) (kd t:Nat) (hkd:kd≤2) (W:Nat) (hW:ZZ W=Z3 told kd t):Gl ls told { e with ws:=e.ws.set j W } { x with kind:=x.kind.set j kd,to:=x.to.set j t }:=by
 refine⟨h.region,h.lay,h.count,h.held,h.pinned,by simp[h.len],?_,?_,?_⟩
 ·intro p hp hr';show ZZ ((e.ws.set j W).getD p 0)=Z3 told ((x.kind.set j kd).getD p 0) ((x.to.set j t).getD p 0);rw[RT (by rw[h.len];exact hj),RT (by rw[hm.kind];exact hj),RT (by rw[hm.to];exact hj)];split
  ·exact hW
  ·exact h.ref p hp hr'
 ·intro p hp hr';show (e.ws.set j W).getD p 0=x.w.getD p 0;rw[RT (by rw[h.len];exact hj),if_neg (by rintro rfl;exact absurd (hr.symm.trans hr') (by decide))];exact h.word p hp hr'
 ·intro p hp (hn:(x.kind.set j kd).getD p 0≠0);show _∧(x.kind.set j kd).getD p 0≤2;rw[RT (by rw[hm.kind];exact hj)] at hn ⊢;by_cases hjp:j=p
  ·subst hjp;rw[if_pos rfl];exact⟨hr,hkd⟩
  ·rw[if_neg hjp] at hn ⊢;exact h.kind p hp hn
theorem bP {s:CS} {m:MS} {told:List (Nat×Nat)} (R:Rel s m told) (hm:V4 m) {i g o:Int} (P:Gm told i g o) (place:Int) :
  (GL s i g place .none).2=(UD m o place).2∧Rel (GL s i g place .none).1 (UD m o place).1 told:=by
 rcases Xp R P with ⟨h1,h2⟩|⟨k,gg,n,e,x,rfl,rfl,rfl,ht,hk,hx,hg,hl,h1,h2⟩
 ·rw[Mm h2,CG h1];exact⟨rfl,R⟩
 ·rw[Hf h2,WA h1,KS R.w hl,hl.len];by_cases h0:QL (Vl m x) x.w.length place true=0
  ·obtain⟨j,rfl,hj,hr⟩:=Za h0;rw[if_pos h0,if_pos h0,Int.toNat_natCast,Int.toNat_natCast];exact⟨rfl,Ad R ht hk hx hg (by exact hg) (N9 hl (hm.objs x (List.mem_of_getElem? hx)) hj hr 0 0 (by omega) _ rfl) _⟩
  ·rw[if_neg h0,if_neg h0];exact⟨rfl,R⟩
theorem NQ {s:CS} {m:MS} {told:List (Nat×Nat)} (R:Rel s m told) (hw:WF s) (hm:V4 m) {i g o u v q:Int} (P:Gm told i g o) (Q:Gm told u v q) (place:Int) :
  (Ym s i g place u v).2=(Yb m o place q).2∧Rel (Ym s i g place u v).1 (Yb m o place q).1 told:=by
 rcases Xp R P with ⟨h1,h2⟩|⟨k,gg,n,e,x,rfl,rfl,rfl,ht,hk,hx,hg,hl,h1,h2⟩
 ·have h3:Yb m o place q=(m,8):=by unfold Yb;rw[h2]
  have h4:Ym s i g place u v=(s,8):=by unfold Ym;rw[Ho h1];rw[if_pos (by decide)]
  rw[h3,h4];exact⟨rfl,R⟩
 ·by_cases h0:QL (Vl m x) x.w.length place true=0
  ·have hz:(Vz s k gg place).2=0:=by rw[C8 h1,KS R.w hl,hl.len,if_pos h0]
   rcases Xp R Q with ⟨h3,h4⟩|⟨k',gg',n',e',x',rfl,rfl,rfl,ht',hk',hx',hg',hl',h3,h4⟩
   ·have h5:Yb m n place q=(m,8):=by unfold Yb;rw[h2];show (if QL _ _ _ _=0 then _ else _)=_;rw[if_pos h0,h4]
    have h6:Ym s k gg place u v=(s,8):=by unfold Ym;rw[hz,if_neg (by decide),h3];rfl
    rw[h5,h6];exact⟨rfl,R⟩
   ·have h5:Yb m n place n'=(Yl m n { x with kind:=x.kind.set place.toNat 2,to:=x.to.set place.toNat n' },0):=by unfold Yb;rw[h2];show (if QL _ _ _ _=0 then _ else _)=_;rw[if_pos h0,h4]
    have h6:Ym s k gg place k' gg'=GL s k gg place (.obj k' gg'):=by unfold Ym;rw[hz,if_neg (by decide),h3];rfl
    rw[h5,h6,WA h1,KS R.w hl,hl.len,if_pos h0];obtain⟨j,rfl,hj,hr⟩:=Za h0;rw[Int.toNat_natCast,Int.toNat_natCast];have hok:=Ht hw hk';exact⟨rfl,Ad R ht hk hx hg (by exact hg) (N9 hl (hm.objs x (List.mem_of_getElem? hx)) hj hr 2 n' (by omega) _ (by rw[Mr hok.1];unfold Z3;rw[if_pos rfl,ht'];rfl)) _⟩
  ·have hz:Vz s k gg place=(.none,QL (Vl m x) x.w.length place true):=by rw[C8 h1,KS R.w hl,hl.len,if_neg h0]
   have h5:Yb m n place q=(m,QL (Vl m x) x.w.length place true):=by unfold Yb;rw[h2];show (if QL _ _ _ _=0 then _ else _)=_;rw[if_neg h0]
   have h6:Ym s k gg place u v=(s,QL (Vl m x) x.w.length place true):=by unfold Ym;rw[hz,if_pos h0]
   rw[h5,h6];exact⟨rfl,R⟩
theorem bc {s:CS} {m:MS} {told:List (Nat×Nat)} (R:Rel s m told) (hm:V4 m) {i g o:Int} (P:Gm told i g o) (place:Int) :
  (Vz s i g place).2=(YU m o place).2.2.2∧(Vz s i g place).1=Z3 told (YU m o place).2.1 (YU m o place).2.2.1∧(YU m o place).2.1≤2∧((YU m o place).2.1=2→(YU m o place).2.2.1 < told.length)∧Rel (ZH s i g place) (YU m o place).1 told:=by
 rcases Hx R P place with ⟨h0,h1⟩|⟨h0,n,j,x,rfl,rfl,hx,hv,hj,hr,hk2,h1⟩
 ·have h3:YU m o place=(m,0,0,VR m o place true):=by
   cases hv:Qy m o with
   | none=>unfold YU;rw[hv,XZ hv]
   | some kx=>
    obtain⟨k,x⟩:=kx;rw[UC hv] at h0 ⊢;unfold YU;rw[hv];show (if QL _ _ _ _=0 then _ else _)=_;rw[if_neg h0]
  have h4:ZH s i g place=s:=by unfold ZH;rw[h1]
  rw[h3,h4,h1];exact⟨rfl,rfl,by show 0≤2;omega,fun h=>(by cases h),R⟩
 ·rw[UC hv] at h0;have h3:YU m n j=(if x.kind.getD j 0=2 then Xo m (x.to.getD j 0) else m,x.kind.getD j 0,x.to.getD j 0,0):=by unfold YU;rw[hv];show (if QL _ _ _ _=0 then _ else _)=_;rw[if_pos h0,Int.toNat_natCast]
  have hmo:=hm.objs x (List.mem_of_getElem? hx);rw[h3,h1];by_cases hkd:x.kind.getD j 0=2
  ·have hjk:j < x.kind.length:=by rw[hmo.kind];exact hj
   have hjk2:=List.getElem?_eq_getElem hjk;have hgo:=hmo.goes j (by rw[hjk2];rw[List.getD_eq_getElem?_getD,hjk2] at hkd;exact congrArg some hkd);have hgt:x.to.getD j 0 < told.length:=by rw[R.len];exact hgo
   generalize htd:x.to.getD j 0=td at *;rw[hkd,if_pos rfl];have hy:=List.getElem?_eq_getElem hgo;generalize m.objs[td]=y at hy;have htt:=List.getElem?_eq_getElem hgt;generalize told[td]=ab at htt;obtain⟨a,b⟩:=ab;have hln:Z3 told 2 td = .obj a b:=by unfold Z3;rw[if_pos rfl,htt];rfl
   have h4:ZH s i g j=KM s a b:=by unfold ZH;rw[h1,hkd,hln];rfl
   have h5:Xo m td=Yl m td { y with held:=true }:=by unfold Xo;rw[hy]
   rw[h4,h5];refine⟨rfl,rfl,by show 2≤2;omega,fun _=>hgt,?_⟩;by_cases hyg:y.gone=true
   ·have h6:Qk s.tab a b=none:=by
     cases hlk:Qk s.tab a b with
     | none=>rfl
     | some q=>
      obtain⟨k',e'⟩:=q;obtain⟨n',h1,h2,h3⟩:=Y5.1 hlk;obtain rfl:a=k':=by omega
      obtain rfl:b=n':=by omega
      exact absurd h3 (R.gone td y a b hy htt hyg e')
    rw[CU h6];exact bC R hy hyg (by exact hyg)
   ·have hyg:y.gone=false:=by simpa using hyg
    obtain⟨e',he',hl'⟩:=R.obj td y a b hy htt hyg;have h6:Qk s.tab a b=some (a,e'):=Y5.2 ⟨b,rfl,rfl,he'⟩;rw[CX h6];exact Ad R htt he' hy hyg (by exact hyg) (N8 hl' true) s.rem
  ·have h4:ZH s i g j=s:=by
    unfold ZH;rw[h1]
    have:∀ a b,Z3 told (x.kind.getD j 0) (x.to.getD j 0) ≠ .obj a b:=by
     intro a b;unfold Z3;rw[if_neg hkd];split <;> intro h <;> cases h
    generalize Z3 told (x.kind.getD j 0) (x.to.getD j 0)=L at this;cases L with
    | none=>rfl
    | grave=>rfl
    | obj a b=>exact absurd rfl (this a b)
   rw[h4,if_neg hkd];exact⟨rfl,rfl,hk2,fun h=>absurd h hkd,R⟩
def NV:Option (Nat×QI)→Value
 | some (_,x) => .tuple #[.agg #[.int .i64 x.region,.int .i64 x.lay,.int .i64 x.count,.int .i64 x.w.length,.bool x.pinned],.int .i64 0]
 | none => .tuple #[.agg #[.int .i64 0,.int .i64 0,.int .i64 0,.int .i64 0,.bool false],.int .i64 8]
theorem bd {s:CS} {m:MS} {told:List (Nat×Nat)} (R:RP s m told) {i g o:Int} (V:Vd s m told i g o):Hr (Qm s.tab i g)=NV (Qy m o):=by
 rcases V with ⟨h1,h2⟩|⟨k,gg,n,e,x,rfl,rfl,rfl,ht,hk,hx,hg,hl,h1,h2⟩
 ·rw[h1,h2];rfl
 ·rw[h1,h2];show Value.tuple #[.agg (Mw e).toArray,.int .i64 0]=_;show Value.tuple #[.agg #[.int .i64 e.region,.int .i64 e.lay,.int .i64 e.count,.int .i64 e.ws.length,.bool e.pinned],.int .i64 0]=Value.tuple #[.agg #[.int .i64 x.region,.int .i64 x.lay,.int .i64 x.count,.int .i64 x.w.length,.bool x.pinned],.int .i64 0];rw[hl.region,hl.lay,hl.count,hl.len,hl.pinned]
end Go.Proofs.YtmjdnljneifpcaaGreatDoor
namespace Go.Proofs.YtmjdnljneifpcaaGreatDoor
open Go.SL
theorem WC {s:CS} {m:MS} {told:List (Nat×Nat)} (R:Rel s m told) (id:Int):(QZ s.par id).isSome=Vr m.P id:=by
 unfold Vr;cases hf:QZ s.par id with
 | some q=>
  obtain⟨k,rfl,h1,h2,h3⟩:=(R.tree id q).1 (Ua hf);have h4:=(List.getElem?_eq_some_iff.1 h2).1
  symm
  show decide _=true;rw[decide_eq_true];refine⟨by omega,by omega,?_⟩;rw[Int.toNat_natCast,List.getD_eq_getElem?_getD,h2];exact h3
 | none=>
  symm
  show decide _=false;rw[decide_eq_false];rintro⟨h1,h2,h3⟩;obtain⟨k,rfl⟩:∃ k:Nat,id=k:=⟨id.toNat,by omega⟩;have hk:k < m.P.length:=by omega
  have h4:=List.getElem?_eq_getElem hk;rw[Int.toNat_natCast,List.getD_eq_getElem?_getD,h4] at h3;have h5:=(R.tree k m.P[k]).2 ⟨k,rfl,by omega,h4,h3⟩;rw[(Yh R.nd).2 h5] at hf;cases hf
theorem NY {P:List Int} {k:Nat}:k∈ZC P↔∃ q,P[k]? = some q∧1≤k∧0≤q:=by
 unfold ZC;rw[Mi];constructor
 ·rintro⟨h1,h2,h3⟩;have h4:=List.getElem?_eq_getElem h1;rw[List.getD_eq_getElem?_getD,h4] at h3;exact⟨_,h4,h2,by simpa using h3⟩
 ·rintro⟨q,h1,h2,h3⟩;refine⟨(List.getElem?_eq_some_iff.1 h1).1,h2,?_⟩;rw[List.getD_eq_getElem?_getD,h1];simpa using h3
theorem be (P:List Int):(ZC P).Nodup:=(Ts P _ _).imp (fun h=>by omega)
theorem Ep {s:CS} {m:MS} {told:List (Nat×Nat)} (R:RP s m told):s.par.length=(ZC m.P).length:=by
 have h1:((ZC m.P).map fun k:Nat=>(k:Int)).Nodup:=by
  refine List.Pairwise.map _ ?_ (be m.P);intro a b hab;omega
 have h2:=GC R.nd (l₂:=(ZC m.P).map fun k:Nat=>(k:Int)) (by
  intro z hz;obtain⟨⟨r,q⟩,hq,rfl⟩:=List.mem_map.1 hz;obtain⟨k,rfl,a,b,c⟩:=(R.tree r q).1 hq;exact List.mem_map.2 ⟨k,NY.2 ⟨q,b,a,c⟩,rfl⟩)
 have h3:=GC h1 (l₂:=s.par.map (·.1)) (by
  intro z hz;obtain⟨k,hk,rfl⟩:=List.mem_map.1 hz;obtain⟨q,a,b,c⟩:=NY.1 hk;exact List.mem_map.2 ⟨((k:Int),q),(R.tree k q).2 ⟨k,rfl,b,a,c⟩,rfl⟩)
 rw[List.length_map,List.length_map] at h2 h3;omega
theorem bh {s:CS} {m:MS} {told:List (Nat×Nat)} (R:Rel s m told) (hw:WF s) (parent:Int):Yz s.par parent=Z1 m.P parent:=by
 unfold Yz Z1;rw[WC R,Ep R.w];have:=hw.par.1;rw[Ep R.w] at this;by_cases h:parent≠0∧Vr m.P parent=false
 ·rw[if_pos h,if_pos h]
 ·rw[if_neg h,if_neg h];by_cases h2:(ZC m.P).length=64
  ·rw[if_pos h2,if_pos (by omega)]
  ·rw[if_neg h2,if_neg (by omega)]
theorem Hy {s:CS} {m:MS} {told:List (Nat×Nat)} (R:Rel s m told) {parent:Int} (h:Z1 m.P parent=0) (b b2:Nat):Rel (WB s parent b b2) { m with P:=m.P++[parent] } told:=by
 have hp:0≤parent:=by
  unfold Z1 at h;split at h
  ·cases h
  ·rename_i hn;by_cases h0:parent=0
   ·omega
   ·have:Vr m.P parent=true:=by
     cases hl:Vr m.P parent with
     | true=>rfl
     | false=>exact absurd ⟨h0,hl⟩ hn
    unfold Vr at this;have:=of_decide_eq_true this;omega
 have hl:=R.last;refine⟨R.len,R.lays,?_,?_,?_,R.obj,R.gone,R.used,R.gens,R.nodup⟩
 ·intro r q;show (r,q)∈s.par++[(((s.last+1:Nat):Int),parent)]↔∃ k:Nat,r=k∧1≤k∧(m.P++[parent])[k]? = some q∧0≤q;rw[List.mem_append,R.tree r q];constructor
  ·rintro(⟨k,rfl,a,b,c⟩|h)
   ·exact⟨k,rfl,a,by rw[List.getElem?_append_left (List.getElem?_eq_some_iff.1 b).1];exact b,c⟩
   ·simp only[List.mem_singleton] at h;injection h with h1 h2
    subst h1 h2;exact⟨s.last+1,rfl,by omega,by rw[hl,List.getElem?_append_right (Nat.le_refl _),Nat.sub_self];rfl,hp⟩
  ·rintro⟨k,rfl,a,b,c⟩;by_cases hk:k < m.P.length
   ·rw[List.getElem?_append_left hk] at b;exact .inl ⟨k,rfl,a,b,c⟩
   ·right;have hk2:=(List.getElem?_eq_some_iff.1 b).1;simp at hk2;obtain rfl:k=m.P.length:=by omega
    rw[List.getElem?_append_right (Nat.le_refl _),Nat.sub_self] at b;injection b with b
    simp only[List.mem_singleton];rw[hl,← b]
 ·show ((s.par++[(((s.last+1:Nat):Int),parent)]).map (·.1)).Nodup;rw[List.map_append];refine List.nodup_append.2 ⟨R.nd,by simp,?_⟩;intro a ha b hb;simp only[List.map_cons,List.map_nil,List.mem_singleton] at hb;subst hb;obtain⟨⟨r,q⟩,hq,rfl⟩:=List.mem_map.1 ha;obtain⟨k,h1,_,h2,_⟩:=(R.tree r q).1 hq;have:=(List.getElem?_eq_some_iff.1 h2).1;intro h3;have h4:r=((s.last+1:Nat):Int):=h3;omega
 ·show s.last+1+1=(m.P++[parent]).length;simp;omega
theorem Hz {ls:List QJ} {l:QJ} {i:Nat} (h:i - 1 < ls.length):UM (ls++[l]) i=UM ls i:=by
 unfold UM;rw[List.getElem?_append_left h]
theorem bj {ls:List QJ} {told:List (Nat×Nat)} {e:Q9} {x:QI} (h:Gl ls told e x) {l:QJ} (hi:x.lay - 1 < ls.length):Gl (ls++[l]) told e x:=by
 refine⟨h.region,h.lay,h.count,h.held,h.pinned,h.len,?_,?_,?_⟩
 ·rw[Hz hi];exact h.ref
 ·rw[Hz hi];exact h.word
 ·rw[Hz hi];exact h.kind
theorem NZ {s:CS} {m:MS} {told:List (Nat×Nat)} (R:Rel s m told) (hm:V4 m) (ws:List Nat):(UJ s ws).2=(ZD m ws).2∧Rel (UJ s ws).1 (ZD m ws).1 told:=by
 cases hd:ZV ws with
 | none=>
  have h1:ZD m ws=(m,0,4):=by unfold ZD;rw[hd]
  rw[h1,CK hd];exact⟨rfl,R⟩
 | some l=>
  have h1:ZD m ws=if 64≤m.lays.length then (m,0,5) else ({ m with lays:=m.lays++[l] },m.lays.length+1,0):=by unfold ZD;rw[hd]
  rw[h1,Ab hd,R.lays];have:=hm.lays.1;by_cases h64:m.lays.length=64
  ·rw[if_pos h64,if_pos (by omega)];exact⟨rfl,R⟩
  ·rw[if_neg h64,if_neg (by omega)];refine⟨rfl,R.len,rfl,R.tree,R.nd,R.last,?_,R.gone,R.used,R.gens,R.nodup⟩;intro o x k g hx ht hg;obtain⟨e,h1,h2⟩:=R.obj o x k g hx ht hg;have hmo:=hm.objs x (List.mem_of_getElem? hx);obtain⟨l',h3,_⟩:=hmo.lay;exact⟨e,h1,bj h2 (List.getElem?_eq_some_iff.1 h3).1⟩
theorem I0 {s:CS} {m:MS} {told:List (Nat×Nat)} (R:Rel s m told) (region id count:Int):ZI s region id count=(Vj m region id count).2∧((Vj m region id count).2=0→YX s id count=(Vj m region id count).1):=by
 unfold ZI YX Vj KN;rw[WC R,R.lays];by_cases h1:Vr m.P region=false
 ·rw[if_pos h1,if_pos h1];exact⟨rfl,fun h=>by cases h⟩
 ·rw[if_neg h1,if_neg h1];by_cases h2:id < 1∨(m.lays.length:Int) < id
  ·rw[if_pos h2,if_pos h2];exact⟨rfl,fun h=>by cases h⟩
  ·rw[if_neg h2,if_neg h2];exact⟨rfl,fun _=>rfl⟩
theorem br {ls:List QJ} {told:List (Nat×Nat)} {e:Q9} {x:QI} (h:Gl ls told e x) {t:Nat×Nat} (hx:∀ p,x.kind[p]? = some 2→x.to.getD p 0 < told.length):Gl ls (told++[t]) e x:=by
 refine⟨h.region,h.lay,h.count,h.held,h.pinned,h.len,?_,h.word,h.kind⟩;intro p hp hr;rw[h.ref p hp hr];unfold Z3;by_cases h2:x.kind.getD p 0=2
 ·rw[if_pos h2,if_pos h2]
  have h3:x.kind[p]? = some 2:=by
   rw[List.getD_eq_getElem?_getD] at h2;cases hk:x.kind[p]? with
   | none=>rw[hk] at h2;cases h2
   | some q=>rw[hk] at h2;exact congrArg some h2
  rw[List.getElem?_append_left (hx p h3)]
 ·rw[if_neg h2,if_neg h2]
theorem I1 (n p:Nat):(List.replicate n 0).getD p 0=0:=by
 rw[List.getD_eq_getElem?_getD,List.getElem?_replicate];split <;> rfl
theorem NG {s s':CS} {m:MS} {told:List (Nat×Nat)} (R:Rel s m told) (hm:V4 m) {region id count:Int} (hmay:(Vj m region id count).2=0) {k g0 addr:Nat} (hk:s.tab[k]? = some ⟨g0,none⟩)
  (e1:s'.lays=s.lays) (e2:s'.last=s.last) (e3:s'.par=s.par) (e4:s'.tab=s.tab.set k ⟨g0+1,some ⟨addr,region,true,false,id.toNat,count.toNat,List.replicate (YX s id count) 0⟩⟩) :
  (∀ n:Nat,told[n]? ≠ some (k,g0+1))∧Rel s' (KJ m region id count) (told++[(k,g0+1)]):=by
 have hkl:=(List.getElem?_eq_some_iff.1 hk).1;have hn:YX s id count=(Vj m region id count).1:=(I0 R region id count).2 hmay;have hr:KJ m region id count={ m with objs:=m.objs++[G0 region id count (Vj m region id count).1] }:=rfl
 have hreg:region=(region.toNat:Int):=by
  obtain⟨r,la,c,l,rfl,_⟩:=Ei hmay;rfl
 have hnew:∀ n:Nat,told[n]? ≠ some (k,g0+1):=by
  intro n hn;obtain⟨t,h1,h2⟩:=R.gens n k (g0+1) hn;rw[hk] at h1;injection h1 with h1
  subst h1;have h2:g0+1≤g0:=h2;omega
 refine⟨hnew,?_⟩;rw[hr]
 have hne:∀ (o k0 g:Nat) (e:Q9),s.tab[k0]? = some ⟨g,some e⟩→k≠k0:=by
  rintro o k0 g e h rfl;rw[hk] at h;injection h with h
  injection h with _ h
  cases h
 refine⟨by show (told++[_]).length=(m.objs++[_]).length;rw[List.length_append,List.length_append,R.len];rfl,by rw[e1];exact R.lays,by rw[e3];exact R.tree,by rw[e3];exact R.nd,by rw[e2];exact R.last,?_,?_,?_,?_,?_⟩
 ·intro o x k0 g (hx:(m.objs++[G0 region id count (Vj m region id count).1])[o]? = some x) ht hg;by_cases ho:o < m.objs.length
  ·rw[List.getElem?_append_left ho] at hx;rw[List.getElem?_append_left (by rw[R.len];exact ho)] at ht;obtain⟨e,h1,h2⟩:=R.obj o x k0 g hx ht hg;refine⟨e,?_,br h2 (by rw[R.len];exact(hm.objs x (List.mem_of_getElem? hx)).goes)⟩;rw[e4,List.getElem?_set_ne (hne o k0 g e h1)];exact h1
  ·have hol:=(List.getElem?_eq_some_iff.1 hx).1;rw[List.length_append] at hol;obtain rfl:o=m.objs.length:=by simp at hol;omega
   rw[List.getElem?_append_right (Nat.le_refl _),Nat.sub_self] at hx;rw[← R.len,List.getElem?_append_right (Nat.le_refl _),Nat.sub_self] at ht;injection hx with hx
   injection ht with ht
   injection ht with h1 h2
   subst hx h1 h2;refine⟨_,by rw[e4,List.getElem?_set_self hkl],?_⟩;rw[hn];refine⟨hreg,rfl,rfl,rfl,rfl,rfl,?_,?_,?_⟩
   ·intro p hp _;show ZZ ((List.replicate _ 0).getD p 0)=Z3 _ ((List.replicate _ 0).getD p 0) ((List.replicate _ 0).getD p 0);rw[I1];rfl
   ·intro p hp _;rfl
   ·intro p hp (hk:(List.replicate _ 0).getD p 0≠0);exact absurd (I1 _ p) hk
 ·intro o x k0 g (hx:(m.objs++[G0 region id count (Vj m region id count).1])[o]? = some x) ht hg;by_cases ho:o < m.objs.length
  ·rw[List.getElem?_append_left ho] at hx;rw[List.getElem?_append_left (by rw[R.len];exact ho)] at ht;intro e h1;rw[e4] at h1
   rcases Qv h1 with ⟨rfl,h2,_⟩|⟨_,h2⟩
   ·injection h2 with h2 _
    subst h2;exact hnew o ht
   ·exact R.gone o x k0 g hx ht hg e h2
  ·have hol:=(List.getElem?_eq_some_iff.1 hx).1;rw[List.length_append] at hol;obtain rfl:o=m.objs.length:=by simp at hol;omega
   rw[List.getElem?_append_right (Nat.le_refl _),Nat.sub_self] at hx;injection hx with hx
   subst hx;cases hg
 ·intro k0 g e h1;rw[e4] at h1
  rcases Qv h1 with ⟨rfl,h2,_⟩|⟨_,h2⟩
  ·injection h2 with h2 _
   subst h2;exact⟨told.length,by rw[List.getElem?_append_right (Nat.le_refl _),Nat.sub_self];rfl⟩
  ·obtain⟨o,ho⟩:=R.used k0 g e h2;exact⟨o,by rw[List.getElem?_append_left (List.getElem?_eq_some_iff.1 ho).1];exact ho⟩
 ·intro o k0 g ht;rw[e4];by_cases ho:o < told.length
  ·rw[List.getElem?_append_left ho] at ht;obtain⟨t,h1,h2⟩:=R.gens o k0 g ht;by_cases hkk:k=k0
   ·subst hkk;rw[hk] at h1;injection h1 with h1
    subst h1;exact⟨_,List.getElem?_set_self hkl,by show g≤g0+1;have h2:g≤g0:=h2;omega⟩
   ·exact⟨t,by rw[List.getElem?_set_ne hkk];exact h1,h2⟩
  ·have hol:=(List.getElem?_eq_some_iff.1 ht).1;rw[List.length_append] at hol;obtain rfl:o=told.length:=by simp at hol;omega
   rw[List.getElem?_append_right (Nat.le_refl _),Nat.sub_self] at ht;injection ht with ht
   injection ht with h1 h2
   subst h1 h2;exact⟨_,List.getElem?_set_self hkl,Nat.le_refl _⟩
 ·refine List.nodup_append.2 ⟨R.nodup,by simp,?_⟩;intro a ha b hb;simp only[List.mem_singleton] at hb;subst hb;rintro rfl;obtain⟨n,h⟩:=List.mem_iff_getElem?.1 ha;exact hnew n h
end Go.Proofs.YtmjdnljneifpcaaGreatDoor
namespace Go.Proofs.YtmjdnljneifpcaaGreatDoor
open Go.SL
def ZU (l:List (Nat×Nat)):List Value:=l.flatMap fun t=>[.int .i64 (t.1:Nat),.int .i64 (t.2:Nat)]
theorem Ra (l:List (Nat×Nat)):(ZU l).length=l.length*2:=by
 induction l with
 | nil=>rfl
 | cons p L ih=>simp only[ZU,List.flatMap_cons,List.length_append,List.length_cons,List.length_nil] at ih ⊢;omega
theorem I2 (a b:List (Nat×Nat)):ZU (a++b)=ZU a++ZU b:=by simp[ZU]
theorem bw {L:List (Nat×Nat)} {i:Nat} {p:Nat×Nat} (h:L[i]? = some p):(ZU L)[i*2]? = some (.int .i64 (p.1:Nat))∧(ZU L)[i*2+1]? = some (.int .i64 (p.2:Nat)):=by
 induction L generalizing i with
 | nil=>simp at h
 | cons x L ih=>
  cases i with
  | zero=>
   simp at h;subst h;exact⟨rfl,rfl⟩
  | succ i=>
   have:=ih (i:=i) (by simpa using h);rw[show (i+1)*2=i*2+2 by omega];exact this
theorem bz {c:List Value} {o n:Nat} {L:List (Nat×Nat)} (h:QY c o n (ZU L)) {i:Nat} {p:Nat×Nat} (hp:L[i]? = some p):QY c (o+i*2) 2 [.int .i64 (p.1:Nat),.int .i64 (p.2:Nat)]:=by
 obtain⟨h1,h2⟩:=bw hp;refine h.part (es:=[.int .i64 (p.1:Nat),.int .i64 (p.2:Nat)]) fun j v hj=>?_
 match j,hj with
 | 0,hj=>rw[← hj];exact h1
 | 1,hj=>rw[← hj];exact h2
theorem Ka {L:List (Nat×Nat)} {spare:List Value} {i:Nat} {p:Nat×Nat} (h:L[i]? = some p):QY (ZU L++spare) (0+i*2) 2 [.int .i64 (p.1:Nat),.int .i64 (p.2:Nat)]:=by
 refine bz (L:=L) (n:=(ZU L).length) (QY.of_get fun j v hj=>?_) h;rw[Nat.zero_add,List.getElem?_append_left (List.getElem?_eq_some_iff.1 hj).1];exact hj
@[reducible] def VW (v:Value) (told:List (Nat×Nat)):Q2:=QC 69 2 v (ZU told)
@[reducible] def Y6 (p c mo:Nat) (v:Value):Q2:=pts p (row 48 [pp c,pp mo,v])
structure RQ where
 c:Nat
 mo:Nat
 v:Value
def UN (p:Nat) (s:CS) (m:MS) (told:List (Nat×Nat)):Q2:=ex fun q:RQ=>star [Y6 p q.c q.mo q.v,QR q.c s,Qo q.mo m,VW q.v told]
theorem Er [Q4] {w:World} {p:Nat} {s:CS} {m:MS} {told:List (Nat×Nat)} {l:List Q2} (H:Q0 w (UN p s m told::l)):∃ (c mo:Nat) (a:Option Addr) (cap:Nat),Q0 w (Y6 p c mo (.slice a told.length cap)::QR c s::Qo mo m::VW (.slice a told.length cap) told::l):=by
 obtain⟨⟨c,mo,v⟩,H⟩:=Q0.ex.1 H;have H:=Q0.star.1 H;obtain⟨a,cap,rfl⟩:=QD (H.drop.drop.drop) (Ra told) (by decide);exact⟨c,mo,a,cap,H⟩
theorem YK [Q4] {w:World} {p c mo:Nat} {v:Value} {s:CS} {m:MS} {told:List (Nat×Nat)} {l:List Q2} (H:Q0 w (Y6 p c mo v::QR c s::Qo mo m::VW v told::l)):Q0 w (UN p s m told::l):=
 Q0.ex.2 ⟨⟨c,mo,v⟩,Q0.star.2 H⟩
theorem NU [Q4] (p c mo:Nat) (a:Option Addr) (cap:Nat) (told:List (Nat×Nat)) (hlen:told.length≤1000000) (k i g:Int) (raw:Bool) {w:World} {fr:List Q2} (H:Q0 w (Y6 p c mo (.slice a told.length cap)::VW (.slice a told.length cap) told::fr)) :
  Calls Tryz.prog 160 #[pp p,.int .i64 k,.bool raw,ZE i g] w (ret fun v w'=>∃ i' g' o,v = .tuple #[ZE i' g',.int .i64 o]∧Gm told i' g' o∧(raw=false→told≠[]→o ≠ -1)∧(raw=true∨told=[]→i'=i∧g'=g)∧Q0 w' (Y6 p c mo (.slice a told.length cap)::VW (.slice a told.length cap) told::fr)):=by
 refine QQ Tryz.func160 rfl (by kernel_rfl) ?_;refine J6 H ?_;clear H;intro b7 w H;refine VZ H ?_;clear H;intro b8 w H;refine Y1 H ?_;refine Qn (fun ms σ w=>ms=[]∧(∃ q,σ 21 = .bool q∧(q=true↔raw=false∧told≠[]))∧σ 0=pp p∧σ 1 = .int .i64 k∧σ 7=pp b7∧σ 8=pp b8∧Q0 w (pts b7 (row 69 [.int .i64 i,.int .i64 g])::pts b8 (row 69 [.int .i64 0,.int .i64 0])::Y6 p c mo (.slice a told.length cap)::VW (.slice a told.length cap) told::fr)) ?_ ?_
 ·cases raw with
  | true=>
   refine Vh H ?_;refine Wz H ?_;refine Kw H ?_;refine J0 H ?_;exact⟨rfl,rfl,⟨false,rfl,by simp⟩,rfl,rfl,rfl,rfl,H.swap⟩
  | false=>
   refine W1 H ?_;refine Fk H ?_;refine J0 H ?_;refine⟨rfl,rfl,⟨_,rfl,?_⟩,rfl,rfl,rfl,rfl,H.swap⟩;cases told with
   | nil=>simp
   | cons x l=>
    refine⟨fun _=>⟨rfl,by simp⟩,fun _=>?_⟩;show decide ((((x::l).length:Nat):Int) > 0)=true;exact decide_eq_true (by rw[List.length_cons];omega)
 clear H;rintro ms σ w ⟨rfl,⟨q,g21,hq⟩,g0,g1,g7,g8,H⟩;rw[Q1 g21,Q1 g0,Q1 g1,Q1 g7,Q1 g8];refine J8 H ?_;refine Qn (fun ms σ w=>ms=[]∧σ 0=pp p∧σ 7=pp b7∧σ 8=pp b8∧∃ i' g':Int,(raw=false→told≠[]→∃ n x y:Nat,told[n]? = some (x,y)∧i'=x∧g'=y)∧(raw=true∨told=[]→i'=i∧g'=g)∧Q0 w (pts b7 (row 69 [.int .i64 i',.int .i64 g'])::pts b8 (row 69 [.int .i64 0,.int .i64 0])::Y6 p c mo (.slice a told.length cap)::VW (.slice a told.length cap) told::fr)) ?_ ?_
 ·cases q with
  | true=>
   obtain⟨hq1,hq2⟩:=hq.1 rfl;refine VD H ?_;refine J1 H ?_;clear H;intro w H;refine YT H ?_;refine Jl 3 [16] H ?_;refine Ja 4 ?_;refine Gt 5 rfl (Q8.none rfl) rfl (by kernel_rfl) ?_;refine AZ H ?_;refine Jl 9 [16] H ?_;refine Kk 10 rfl (Q8.none rfl) rfl (by kernel_rfl) ?_;refine Gt 11 rfl (Q8.none rfl) rfl (by kernel_rfl) ?_
   obtain⟨K,hK⟩:∃ K:Nat,IntKind.u64.wrap k=K:=⟨(IntKind.u64.wrap k).toNat,by
    have:0≤IntKind.u64.wrap k:=Int.emod_nonneg _ (by decide);omega⟩
   have hlp:0 < told.length:=List.length_pos_iff.2 hq2;have e1:IntKind.u64.wrap (told.length:Int)=(told.length:Int):=Int.emod_eq_of_lt (by omega) (by show (told.length:Int) < 18446744073709551616;omega);rw[hK,e1];have hmod:=Nat.mod_lt K hlp
   refine Gb (v := .int .u64 ((K % told.length:Nat):Int)) 12 rfl (Q8.none rfl) (by
    show (if IntKind.u64=IntKind.u64 then (if (told.length:Int)=0 then none else some (Value.int IntKind.u64 (Int.tmod (K:Int) (told.length:Int)))) else none)=_;rw[if_pos rfl,if_neg (by omega),Int.tmod_eq_emod_of_nonneg (by omega),Int.natCast_emod]) (by kernel_rfl) ?_
   refine Gt 13 rfl (Q8.none rfl) rfl (by kernel_rfl) ?_;rw[QT (x:=((K % told.length:Nat):Int)) (by omega) (by omega)];generalize K % told.length=n at hmod;have hn:=List.getElem?_eq_getElem hmod;generalize told[n]=xy at hn;obtain⟨x,y⟩:=xy;replace H:=Js [3,0,0,0] 0 H;obtain⟨bT,sT,rfl,H,hcl⟩:=Qx H hlp;refine Ji 14 ?_;refine VM 15 [16] H rfl (Q8.none rfl) rfl (Ka hn) (by kernel_rfl) ?_;refine Jo 16 H ?_;refine Gx H ?_;clear H;intro w H;replace H:=hcl _ _ H;refine Jx H ?_;replace H:=Js [1,1,1,0] 0 H;exact⟨rfl,rfl,rfl,rfl,rfl,x,y,fun _ _=>⟨n,x,y,hn,rfl,rfl⟩,fun h=>absurd h (by rintro(h|h);exact absurd (hq1.symm.trans h) (by decide);exact hq2 h),H⟩
  | false=>
   refine V5 H ?_;refine⟨rfl,rfl,rfl,rfl,rfl,i,g,?_,fun _=>⟨rfl,rfl⟩,H⟩;intro h1 h2;exact absurd (hq.2 ⟨h1,h2⟩) (by decide)
 clear H;rintro ms σ w ⟨rfl,g0,g7,g8,i',g',hin,hout,H⟩;rw[Q1 g0,Q1 g7,Q1 g8];refine Ya H ?_;refine KX H ?_;refine Qj (fun ms σ w q=>ms=[]∧∃ j:Nat,j≤told.length∧q=told.length - j∧(∀ (n x y:Nat),n < j→told[n]? = some (x,y)→¬(i'=x∧g'=y))∧σ 7=pp b7∧σ 8=pp b8∧σ 41 = .slice a told.length cap∧σ 42 = .int .i64 told.length∧σ 43 = .int .i64 j∧Q0 w (VW (.slice a told.length cap) told::pts b7 (row 69 [.int .i64 i',.int .i64 g'])::pts b8 (row 69 [.int .i64 0,.int .i64 0])::Y6 p c mo (.slice a told.length cap)::fr)) (m:=told.length) ⟨rfl,0,by omega,rfl,by omega,rfl,rfl,rfl,rfl,rfl,H.sel [3,0,0,0] 0⟩ ?_;clear H;rintro ms σ w q ⟨rfl,j,hj,rfl,hno,g7,g8,g41,g42,g43,H⟩;rw[Q1 g7,Q1 g8,Q1 g41,Q1 g42,Q1 g43];refine J7 H ?_;refine Qf rfl (fun h=>QW ?_) (fun h=>Qp ?_)
 ·have hlt:j < told.length:=by omega
  have hn:=List.getElem?_eq_getElem hlt;generalize told[j]=xy at hn;obtain⟨x,y⟩:=xy;obtain⟨bT,sT,rfl,H,hcl⟩:=Qx H (by omega);refine BV H ?_;refine Jd ?_;refine Q5 rfl (VH H rfl (Ka hn) rfl ?_);refine VZ H ?_;clear H;intro b11 w H;refine D8 H ?_;clear H;intro w H;refine E5 H ?_;refine Q6 ?_;replace H:=H.drop;refine Qf (p:=((x:Int),(y:Int))=(i',g')) rfl (fun he=>?_) (fun he=>QW ?_)
  ·injection he with h1 h2
   subst h1 h2;refine KU H ?_;clear H;intro w H;refine J0 H ?_;replace H:=hcl _ _ H;replace H:=Js [2,2,0] 1 H;refine Q3 (Jz H (fun w' H' => .cellN H' rfl (by repeat first|exact .nil _|apply QY.cons rfl) (.tmp .nil)) fun w' H'=>⟨x,y,j,rfl,.inl ⟨x,y,j,rfl,rfl,rfl,hn⟩,fun _ _=>by omega,hout,H'.drop⟩)
  ·replace H:=hcl _ _ H;refine J4 H ?_;refine⟨_,⟨rfl,j+1,hlt,rfl,?_,rfl,rfl,rfl,rfl,Qb (by omega),H⟩,by omega⟩;intro n x' y' hnj hn' hc;by_cases hnj':n=j
   ·subst hnj';rw[hn] at hn';injection hn' with hn'
    injection hn' with h1 h2
    subst h1 h2;exact he (by rw[hc.1,hc.2])
   ·exact hno n x' y' (by omega) hn' hc
 ·have hge:j=told.length:=by omega
  subst hge;refine K5 H ?_;clear H;intro w H;refine J0 H ?_;replace H:=Js [2,2,0] 1 H;refine Q3 (Jz H (fun w' H' => .cellN H' rfl (by repeat first|exact .nil _|apply QY.cons rfl) (.tmp .nil)) fun w' H'=>⟨i',g',-1,rfl,.inr ⟨rfl,?_⟩,?_,hout,H'.drop⟩)
  ·intro x y n h1 h2 hn;exact hno n x y (List.getElem?_eq_some_iff.1 hn).1 hn ⟨h1,h2⟩
  ·intro h1 h2 _;obtain⟨n,x,y,hn,h3,h4⟩:=hin h1 h2;exact hno n x y (List.getElem?_eq_some_iff.1 hn).1 hn ⟨h3,h4⟩
end Go.Proofs.YtmjdnljneifpcaaGreatDoor
namespace Go.Proofs.YtmjdnljneifpcaaGreatDoor
open Go.SL
theorem I3 (a b c:Int):veq [.int .i64 a,.int .i64 b,.int .i64 c] [.int .i64 a,.int .i64 b,.int .i64 c]=true:=by
 simp[veq]
theorem CA (xs ys:List Value):(if YV BinOp.eql=true then veq xs ys else !veq xs ys)=veq xs ys:=if_pos rfl
theorem NX [Q4] (p c mo:Nat) (a:Option Addr) (cap:Nat) (told:List (Nat×Nat)) (kd t:Nat) (hkd:kd≤2) (ht:kd=2→t < told.length) {w:World} {fr:List Q2} (H:Q0 w (Y6 p c mo (.slice a told.length cap)::VW (.slice a told.length cap) told::fr)) :
  Calls Tryz.prog 40 #[pp p,ZA (Z3 told kd t),.int .i64 kd,.int .i64 t] w (ret fun v w'=>v = .bool true∧Q0 w' (Y6 p c mo (.slice a told.length cap)::VW (.slice a told.length cap) told::fr)):=by
 by_cases h2:kd=2
 ·subst h2;have hlt:=ht rfl;have hn:=List.getElem?_eq_getElem hlt;generalize told[t]=xy at hn;obtain⟨x,y⟩:=xy;have hln:Z3 told 2 t = .obj x y:=by unfold Z3;rw[if_pos rfl,hn];rfl
  rw[hln];refine QQ Tryz.func40 rfl (by kernel_rfl) ?_;refine J6 H ?_;clear H;intro b5 w H;refine YD H ?_;refine VD H ?_;replace H:=Js [2,0,0] 0 H;obtain⟨bT,sT,rfl,H,hcl⟩:=Qx H (by omega);refine J1 H ?_;clear H;intro w H;refine W3 H ?_;refine Jl 4 [] H ?_;refine Kk 5 rfl (Q8.none rfl) rfl (by kernel_rfl) ?_;refine Ja 6 ?_;rw[show decide ((t:Int) < (told.length:Int))=true from decide_eq_true (by omega)];refine Ja 7 ?_;refine VM 8 [] H rfl (Q8.of rfl rfl rfl) rfl (by repeat first|exact .nil _|apply QY.cons rfl) (by kernel_rfl) ?_;refine BC H ?_;refine Jl 12 [] H ?_;refine Ja 13 ?_;refine Ji 14 ?_;refine VM 15 [] H rfl (Q8.of rfl rfl rfl) rfl (Ka hn) (by kernel_rfl) ?_;refine G9 16 rfl (Q8.of rfl rfl rfl) rfl (by kernel_rfl) ?_;refine Lc 17 rfl (Q8.of rfl rfl rfl) rfl rfl rfl rfl (.inl rfl) (by kernel_rfl) ?_;rw[CA,I3];refine Ja 18 ?_;refine Ja 19 ?_;refine Jx H ?_;replace H:=hcl _ _ H;replace H:=Js [2,0] 1 H;exact Q3 (Jy H rfl fun w' H'=>⟨rfl,H'⟩)
 ·have hln:ZA (Z3 told kd t) = .agg #[.int .i64 kd,.int .i64 0,.int .i64 0]:=by
   unfold Z3;rw[if_neg h2];by_cases h1:kd=1
   ·subst h1;rfl
   ·obtain rfl:kd=0:=by omega
    rfl
  rw[hln];refine QQ Tryz.func40 rfl (by kernel_rfl) ?_;refine J6 H ?_;clear H;intro b5 w H;refine YD H ?_;rw[show ((kd:Int) == 2)=false by simp;omega];refine V5 H ?_;refine A2 H ?_;refine Gv H ?_;refine Q5 rfl (B6 rfl rfl rfl rfl (.inl rfl) rfl ?_);refine J0 H ?_;have hv:=I3 kd 0 0;exact Q3 (Jy H.drop rfl fun w' H'=>⟨congrArg Value.bool ((CA _ _).trans hv),H'⟩)
end Go.Proofs.YtmjdnljneifpcaaGreatDoor
namespace Go.Proofs.YtmjdnljneifpcaaGreatDoor
open Go.SL
def cQ (own:List Nat) (n:Nat):Prop:=∃ a,a+n≤own.length∧∀ i,a≤i→i < a+n→own.getD i 0=0
theorem NK [Q4] (p c mo:Nat) (v:Value) (s:CS) {w:World} {fr:List Q2} (H:Q0 w (Y6 p c mo v::QR c s::fr)) :
  Calls Tryz.prog 230 #[pp p] w (ret fun x w'=>∃ b:Nat,x = .int .i64 b∧cQ s.own b∧Q0 w' (Y6 p c mo v::QR c s::fr)):=by
 obtain⟨q,mem,hw,hm,H⟩:=Vs H.swap;have hol:=hw.own.2;refine QQ Tryz.func230 rfl (by kernel_rfl) ?_;refine VC H ?_;refine J4 H ?_;replace H:=Js [3,0,0,0,0,0,0,0,0,0,0,0] 0 H;refine E6 H ?_;refine Jc rfl rfl (HR q.sp s.size mem s.own H) ?_;clear H;rintro v w ⟨rfl,H⟩;refine Y1 H ?_;refine QS ?_
 refine Qj (fun ms σ w n=>ms=[]∧∃ j row best:Nat,j≤s.own.length∧n=s.own.length - j∧row≤j∧best≤j∧(∀ i,j - row≤i→i < j→s.own.getD i 0=0)∧(∃ a,a+best≤j∧∀ i,a≤i→i < a+best→s.own.getD i 0=0)∧σ 0=pp p∧σ 3 = .int .i64 best∧σ 4 = .int .i64 row∧σ 13 = .int .i64 s.own.length∧σ 14 = .int .i64 j ∧
  Q0 w (ST q.sp s.size mem s.own::V7 c q::Qw q.ip q.sp q.bp::Ql q.bp s.lays::Qh q.tp s.tab::Qg q.trp s.last s.par::RS q.rp s.rem::mp (ki .i64) Qr q.sm (s.sps.map VJ)::star (s.sps.map (VT q.sp))::mp (ki .i64) Qr q.mm (s.mns.map Qz)::star (s.mns.map VY)::Y6 p c mo v::fr)) (m:=s.own.length) ⟨rfl,0,0,0,by omega,rfl,by omega,by omega,by omega,⟨0,by omega,by omega⟩,rfl,rfl,rfl,rfl,rfl,H⟩ ?_
 clear H;rintro ms σ w n ⟨rfl,j,row,best,hj,rfl,hrj,hbj,hrow,hbest,g0,g3,g4,g13,g14,H⟩;rw[Q1 g0,Q1 g3,Q1 g4,Q1 g13,Q1 g14];refine J7 H ?_;refine Qf rfl (fun h=>QW ?_) (fun h=>Qp ?_)
 ·have hlt:j < s.own.length:=by omega
  refine R4 H ?_;refine V8 H ?_;rw[Qb (by omega)];refine J9 H ?_;refine Bd H ?_;refine Jc rfl rfl (Sp q.sp s.size mem s.own j H hlt) ?_;clear H;rintro v w ⟨rfl,H⟩;refine J0 H ?_;by_cases h0:s.own.getD j 0=0
  ·rw[show (((s.own.getD j 0:Nat):Int) != 0)=false by rw[h0];rfl];refine A4 H ?_;refine Wt H ?_;rw[show (if ((row+1:Nat):Int) > ((best:Nat):Int) then ((row+1:Nat):Int) else ((best:Nat):Int))=((max best (row+1):Nat):Int) by split <;> omega];refine YD H ?_;rw[Qb (by omega)];refine⟨_,⟨rfl,j+1,row+1,max best (row+1),hlt,rfl,by omega,by omega,?_,?_,rfl,rfl,rfl,rfl,rfl,H⟩,by omega⟩
   ·intro i h1 h2;by_cases hij:i=j
    ·rw[hij];exact h0
    ·exact hrow i (by omega) (by omega)
   ·by_cases hb:row+1≤best
    ·obtain⟨a,h1,h2⟩:=hbest;rw[Nat.max_eq_left hb];exact⟨a,by omega,h2⟩
    ·rw[Nat.max_eq_right (by omega)];refine⟨j - row,by omega,fun i h1 h2=>?_⟩;by_cases hij:i=j
     ·rw[hij];exact h0
     ·exact hrow i (by omega) (by omega)
  ·rw[show (((s.own.getD j 0:Nat):Int) != 0)=true by rw[bne_iff_ne];omega];refine YG H ?_;refine J5 H ?_;refine Wt H ?_;rw[show (if (0:Int) > ((best:Nat):Int) then (0:Int) else ((best:Nat):Int))=((best:Nat):Int) by split <;> omega];refine YD H ?_;rw[Qb (by omega)];obtain⟨a,h1,h2⟩:=hbest;exact⟨_,⟨rfl,j+1,0,best,hlt,rfl,by omega,by omega,by omega,⟨a,by omega,h2⟩,rfl,rfl,rfl,rfl,rfl,H⟩,by omega⟩
 ·obtain⟨a,h1,h2⟩:=hbest;refine J4 H ?_;replace H:=Js [1,1,1,0,0,0,0,0,0,0,0,0] 0 H;exact Q3 (Jy ((VG hw hm H).swap) rfl fun w' H'=>⟨best,rfl,⟨a,by omega,h2⟩,H'⟩)
end Go.Proofs.YtmjdnljneifpcaaGreatDoor
namespace Go.Proofs.YtmjdnljneifpcaaGreatDoor
open Go.SL
theorem NR (a b c d:Int) (e:Bool):veq [.int .i64 a,.int .i64 b,.int .i64 c,.int .i64 d,.bool e] [.int .i64 a,.int .i64 b,.int .i64 c,.int .i64 d,.bool e]=true:=by
 simp[veq]
theorem cV [Q4] (p c mo:Nat) (v:Value) (s:CS) (m:MS) (told:List (Nat×Nat)) (R:RP s m told) (i g o:Int) (P:Vd s m told i g o) {w:World} {fr:List Q2} (H:Q0 w (Y6 p c mo v::QR c s::Qo mo m::fr)) :
  Calls Tryz.prog 37 #[pp p,ZE i g,.int .i64 o] w (ret fun x w'=>x = .bool true∧Q0 w' (Y6 p c mo v::QR c s::Qo mo m::fr)):=by
 have hT:=fun (w:World) (fr:List Q2) (H:Q0 w (QR c s::fr))=>ac c s i g H;rw[bd R P] at hT
 obtain⟨a1,a2,a3,a4,a5,a6,hsh⟩:∃ a1 a2 a3 a4 a5 a6,NV (Qy m o) = .tuple #[.agg #[.int .i64 a1,.int .i64 a2,.int .i64 a3,.int .i64 a4,.bool a5],.int .i64 a6]:=by
  cases Qy m o <;> exact⟨_,_,_,_,_,_,rfl⟩
 refine QQ Tryz.func37 rfl (by kernel_rfl) ?_;refine J6 H ?_;clear H;intro b4 w H;refine J0 H ?_;replace H:=Js [2,0,0,0] 0 H;refine J8 H ?_;refine Qn (fun ms σ w=>ms=[]∧∃ b7,σ 0=pp p∧σ 2 = .int .i64 o∧σ 7=pp b7∧σ 8 = .int .i64 a6∧Q0 w (pts b7 (row 71 [.int .i64 a1,.int .i64 a2,.int .i64 a3,.int .i64 a4,.bool a5])::Y6 p c mo v::QR c s::Qo mo m::fr)) ?_ ?_
 ·refine J1 H ?_;clear H;intro w H;refine R6 H ?_;refine Jw 5 9 H rfl rfl (V2 (a:=[]) (b:=[]) rfl rfl (call (hT _ _ H) ?_)) (Vu H rfl ?_)
  ·clear H;rintro v w ⟨rfl,H⟩;rw[hsh];refine R7 H ?_;clear H;intro b7 w H;refine R8 H ?_;clear H;intro w H;refine GX H ?_;replace H:=Js [0,2,0,1] 1 H;exact⟨rfl,rfl,b7,rfl,rfl,rfl,rfl,H⟩
  ·clear H;intro b7 w H;refine Jo 5 H ?_;refine Jk rfl rfl (hT _ _ H.swap) ?_;clear H;rintro v w ⟨rfl,H⟩;rw[hsh];refine R9 H ?_;clear H;intro w H;refine GX H ?_;replace H:=Js [1,2,0,1] 1 H;exact⟨rfl,rfl,b7,rfl,rfl,rfl,rfl,H⟩
 clear H;rintro ms σ w ⟨rfl,b7,g0,g2,g7,g8,H⟩;rw[Q1 g0,Q1 g2,Q1 g7,Q1 g8];replace H:=Js [3,0,0,0] 0 H;refine J9 H ?_;refine Jc rfl rfl (AO mo m o H) ?_;clear H;rintro v w ⟨rfl,H⟩
 cases hv:Qy m o with
 | none=>
  rw[hv] at hsh;cases hsh;refine X4 H ?_;refine Vh H ?_;refine Bn H ?_;refine Qe rfl rfl rfl (B6 rfl rfl rfl rfl (.inl rfl) rfl ?_);refine J2 H ?_;replace H:=Js [2,2,0] 1 H;exact Q3 (Jy H rfl fun w' H'=>⟨congrArg Value.bool ((CA _ _).trans (NR 0 0 0 0 false)),H'⟩)
 | some nx=>
  obtain⟨n,x⟩:=nx;rw[hv] at hsh;cases hsh;obtain⟨rfl,hx,hh,hg⟩:=Xn hv;have hol:=(List.getElem?_eq_some_iff.1 hx).1;obtain⟨t,lc,aL,cL,bO,cO,sO,ptrs,q,vw,vk,vt,rest,hm,h2,hp,H,hclose⟩:=GF H hx;have hm':=RJ hx hm;obtain⟨aw,cw,rfl⟩:=QD H.drop (Yw _) (by decide);refine Y0 H ?_;refine J9 H ?_;refine Bd H ?_;refine Jd ?_;refine Q5 rfl (QA H rfl hp rfl ?_);refine Y1 H ?_;refine Kn H mixed ?_;clear H;intro w H;refine Ja 0 ?_;refine Ja 1 ?_;refine Ja 2 ?_;refine VM 3 [] H rfl (Q8.of rfl rfl rfl) rfl (by repeat first|exact .nil _|apply QY.cons rfl) (by kernel_rfl) ?_;refine Di H ?_;refine Bo H ?_;refine Jl 11 [] H ?_;refine Xc H ?_;refine Jf 14 ?_;refine Jl 15 [] H ?_;refine Ja 16 ?_;refine Ja 17 ?_;refine Jf 18 ?_;refine Jl 19 [] H ?_;refine Kk 20 rfl (Q8.of rfl rfl rfl) rfl (by kernel_rfl) ?_;refine Ja 21 ?_;refine Ja 22 ?_;refine Jf 23 ?_;refine Jl 24 [] H ?_;refine G9 25 rfl (Q8.of rfl rfl rfl) rfl (by kernel_rfl) ?_;refine Lc 26 rfl (Q8.of rfl rfl rfl) rfl rfl rfl rfl (.inl rfl) (by kernel_rfl) ?_;rw[CA,NR];refine Ja 27 ?_;refine Ja 28 ?_;refine Jx H ?_;replace H:=U2 hx (hclose _ _ _ hm' H);replace H:=Js [2,2,0] 1 H;exact Q3 (Jy H rfl fun w' H'=>⟨rfl,H'⟩)
end Go.Proofs.YtmjdnljneifpcaaGreatDoor
