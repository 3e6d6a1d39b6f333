/- Cells: what is proved on the way: every input of the statement; no condition. Texts joined: SplT JoiE JoiF JoiG JoiH BumH StoE ImgE SplR. -/
import Derived.Test.YtmjdnljneifpcaaGreatDoorBco
import Derived.Test.YtmjdnljneifpcaaGreatDoorBce
import Derived.Test.YtmjdnljneifpcaaGreatDoorBcn
import Derived.Test.YtmjdnljneifpcaaGreatDoorBck
import Derived.Test.YtmjdnljneifpcaaGreatDoorBcm
import Derived.Test.YtmjdnljneifpcaaGreatDoorBcj
import Derived.Test.YtmjdnljneifpcaaGreatDoorBcf
import Derived.Test.YtmjdnljneifpcaaGreatDoorBch
import Derived.Test.YtmjdnljneifpcaaGreatDoorBcp
import Derived.Test.YtmjdnljneifpcaaGreatDoorBcd
set_option linter.unusedVariables false
set_option linter.unusedSimpArgs false
set_option linter.unusedSectionVars false
namespace Go.Proofs.YtmjdnljneifpcaaGreatDoor
open List
open Go.SL
theorem Pa:∀ {l:List (Nat×Nat)},(∀ p∈l,p.2=1)→QU l=l.map (·.1)
 | [],_=>rfl
 | (c,n)::l,h=>by
  have hn:n=1:=h (c,n) mem_cons_self;subst hn;rw[JQ,Pa fun p hp=>h p (mem_cons_of_mem _ hp)];rfl
theorem Pb:∀ own:List Nat,((List.range own.length).filter fun c=>own.getD c 0 == 0).length+(own.filter (· != 0)).length=own.length
 | []=>rfl
 | a::t=>by
  have ih:=Pb t;rw[length_cons,range_succ_eq_map,filter_cons,filter_map,filter_cons];have e1:((fun c=>(a::t).getD c 0 == 0)∘Nat.succ)=fun c=>t.getD c 0 == 0:=rfl;rw[e1];by_cases h:a=0
  ·subst h;rw[if_pos (by rfl),if_neg (by decide),length_cons,length_map];omega
  ·rw[if_neg (by simpa using h),if_pos (by simpa using h),length_cons,length_map];omega
theorem YT.bnd {s:CS} (hw:WF s) {r:Nat} {S T:QE} {Z:List Pl} {mem own' mem':List Nat} (h:YT s r S Z mem own' mem' T):T.parts.length≤63∧(QU T.parts).length=T.parts.length∧T.fin≤1000000∧∀ c∈QU T.parts,c < s.own.length∧s.own.getD c 0=0:=by
 have ho:=hw.own.2;have hone:QU T.parts=T.parts.map (·.1):=Pa fun p hp=>(h.parts p hp).1
 have hin:∀ c∈QU T.parts,c < s.own.length∧s.own.getD c 0=0:=fun c hc=>by
  rw[hone] at hc;obtain⟨p,h1,h2⟩:=mem_map.1 hc;have h3:=(h.parts p h1).2;rw[h2] at h3;exact⟨(List.getElem?_eq_some_iff.1 h3).1,by rw[getD_eq_getElem?_getD,h3];rfl⟩
 have h3:=ZS h.nd (l₂:=List.range s.own.length) (fun c hc=>mem_range.2 (hin c hc).1);rw[length_range] at h3;have h4:(QU T.parts).length=T.parts.length:=by rw[hone,length_map]
 refine⟨by omega,h4,?_,hin⟩;by_cases hf:T.fin=0
 ·omega
 ·obtain⟨c,h5,_,h6⟩:=h.fin hf;have h7:=(List.getElem?_eq_some_iff.1 (h.parts _ h6).2).1;have h7:c < s.own.length:=h7;have:=Nat.mul_le_mul (show c+1≤63 by omega) hw.size.2;omega
theorem iW {a b:List Nat} (h:a.length=b.length) (hg:∀ j,a.getD j 0=b.getD j 0):a=b:=by
 apply ext_getElem h;intro i h1 h2;have:=hg i;rw[getD_eq_getElem?_getD,getD_eq_getElem?_getD,getElem?_eq_getElem h1,getElem?_eq_getElem h2] at this;exact this
theorem YT.undo {s:CS} (hw:WF s) {r:Nat} {S T:QE} {Z:List Pl} {mem own' mem':List Nat} (h:YT s r S Z mem own' mem' T) {own2:List Nat} (h1:own2.length=own'.length) (h2:∀ j,own2.getD j 0=if j∈QU T.parts then 0 else own'.getD j 0):own2=s.own:=by
 obtain⟨_,_,_,hin⟩:=h.bnd hw;refine iW (h1.trans h.ol) fun j=>?_;rw[h2,h.og];by_cases hj:j∈QU T.parts
 ·rw[if_pos hj,(hin j hj).2]
 ·rw[if_neg hj,if_neg hj]
theorem YT.full {s:CS} (hw:WF s) {r:Nat} {S T:QE} {Z:List Pl} {mem own' mem':List Nat} (h:YT s r S Z mem own' mem' T) (hf:∀ a,a+1≤own'.length→own'.getD a 0≠0):s.own.length - (s.own.filter (· != 0)).length≤Z.length:=by
 obtain⟨_,hl,_,hin⟩:=h.bnd hw;have hz:=Pb s.own
 have h1:=ZS (l₁:=(List.range s.own.length).filter fun c=>s.own.getD c 0 == 0) (l₂:=QU T.parts) (List.Pairwise.filter _ nodup_range) (fun c hc=>by
  rw[mem_filter,mem_range] at hc;obtain⟨h2,h3⟩:=hc;have h3:s.own.getD c 0=0:=by simpa using h3
  have h4:=hf c (by rw[h.ol];omega);rw[h.og] at h4;by_cases h5:c∈QU T.parts
  ·exact h5
  ·rw[if_neg h5] at h4;exact absurd h3 h4)
 have:=h.few;omega
theorem YT.own0 {s:CS} (hw:WF s) {r:Nat} (hr:1≤r) {S T:QE} {Z:List Pl} {mem own' mem':List Nat} (h:YT s r S Z mem own' mem' T) {d:Nat} (hd:s.own.getD d 0≠0):own'.getD d 0≠0:=by
 rw[h.og];split
 ·omega
 ·exact hd
theorem YT.img {s:CS} (hw:WF s) {r:Nat} (hr:1≤r) {S T:QE} {Z:List Pl} {mem own' mem':List Nat} (h:YT s r S Z mem own' mem' T) (m:Va s mem) {k g:Nat} {e:Q7} (hk:s.tab[k]? = some ⟨g,some e⟩):XT s.lays s.size mem' own' e.addr e.lay e.count k e.ws.length (QN s e):=by
 obtain⟨a1,a2,a3,a4,a5,a6,a7⟩:=Xc hw m hk;refine⟨a1,a2,a3,a4,?_,by rw[h.ml];exact a6,fun d d1 d2=>h.own0 hw hr (a7 d d1 d2)⟩;obtain⟨x,x1,_,x3⟩:=(hw.obj k g e hk).2.1.2 (e.addr / s.size) (Nat.le_refl _) (Nat.div_le_div_right (by omega));rw[getD_eq_getElem?_getD,h.mg _ x x1 (by omega),← getD_eq_getElem?_getD];exact a5
theorem iA [Q4] (p:Nat) (q:Gj) (s:CS) (k n:Nat) (e:Q7) (hk:s.tab[k]? = some ⟨n,some e⟩) (place:Int) (l:Y4) {w:World} {fr:List Q2} (H:Q0 w (RS q.rp s.rem::Qi q.tp s.tab::Qv p q::fr)) :
  Calls Tryz.prog 156 #[pp p,.int .i64 k,.int .i64 place,Z5 l] w (ret fun v w'=>Q0 w' (RS q.rp (Yh s k e place l)::Qi q.tp s.tab::Qv p q::fr)):=by
 obtain⟨a1,a2,a3,hkv⟩:=Gy l;rw[hkv];have hnd:=B3 H;have hnd0:=hnd;refine Q9 Tryz.func156 rfl (by kernel_rfl) ?_;refine J8 H ?_;clear H;intro b7 w H;refine WL H ?_;refine XB H ?_;refine VZ H ?_;clear H;intro b8 w H;refine J4 H ?_;clear H;intro w H;refine J2 H ?_;replace H:=Js [2,0,0,0,0] 0 H;refine J1 H ?_;clear H;intro w H;refine E5 H ?_;refine Jk rfl rfl (CI q.rp s.rem hnd ((k:Int),place) H) ?_;clear H;rintro v w ⟨rfl,H⟩;refine Jx H ?_;replace H:=Js [0,2,2,0,0] 0 H;refine Ag H ?_
 have hcase:(a1≠2∧Yh s k e place l=QD s.rem ((k:Int),place))∨∃ a b:Nat,l = .obj a b∧a1=2∧a2=a∧a3=b:=by
  cases l with
  | none=>injection hkv with h;simp at h;exact .inl ⟨by omega,rfl⟩
  | grave=>injection hkv with h;simp at h;exact .inl ⟨by omega,rfl⟩
  | obj a b=>injection hkv with h;simp at h;exact .inr ⟨a,b,rfl,by omega,by omega,by omega⟩
 rcases hcase with ⟨h2,hn⟩|⟨a,b,rfl,rfl,rfl,rfl⟩
 ·rw[show (a1 != 2)=true by simpa using h2];refine VM H ?_;rw[hn];replace H:=Js [0,0,0] 2 H;exact Q3 (Jy H rfl fun w' H'=>H')
 ·refine AF H ?_;replace H:=Js [1,1,0] 0 H;refine Jc rfl rfl (Od p q s.tab k n e hk H) ?_;clear H;rintro v w ⟨rfl,H⟩;refine Vj H ?_;clear H;intro b9 w H;refine J4 H ?_;clear H;intro w H;refine J0 H ?_;obtain⟨e1,e2,h1,h2,e4,hsh⟩:=CT (Qd s.tab a b);refine J6 H ?_
  refine Qo (fun ms σ w=>ms=[]∧∃ b11,σ 0=pp p∧σ 7=pp b7∧σ 8=pp b8∧σ 9=pp b9∧σ 11=pp b11∧σ 12 = .int .i64 e4 ∧
    Q0 w (RS q.rp (QD s.rem ((k:Int),place))::Qi q.tp s.tab::Qv p q::pts b11 (row 113 [.int .i64 e1,.int .i64 e2,.bool h1,.bool h2])::pts b9 (row 113 (Vg e))::pts b8 (row 133 [.int .i64 k,.int .i64 place])::pts b7 (row 88 [.int .i64 2,.int .i64 a,.int .i64 b])::fr)) ?_ ?_
  ·replace H:=Js [1,0] 0 H;refine J1 H ?_;clear H;intro w H;refine Y3 H ?_;refine Ah H ?_;refine Jw 6 10 H rfl rfl (V1 (a:=[]) (b:=[]) rfl rfl (call (Zb q.tp s.tab a b H) ?_)) (Vo H rfl ?_)
   ·clear H;rintro v w ⟨rfl,H⟩;rw[hsh];refine WO H ?_;clear H;intro b11 w H;refine Ut H ?_;clear H;intro w H;refine Ux H ?_;replace H:=Js [4,1,2,0,0,0,0] 0 H;exact⟨rfl,rfl,b11,rfl,rfl,rfl,rfl,rfl,rfl,H⟩
   ·clear H;intro b11 w H;refine Jo 6 H ?_;refine Jk rfl rfl (Zb q.tp s.tab a b H.swap) ?_;clear H;rintro v w ⟨rfl,H⟩;rw[hsh];refine EG H ?_;clear H;intro w H;refine Ux H ?_;replace H:=Js [4,0,2,0,0,0,0] 0 H;exact⟨rfl,rfl,b11,rfl,rfl,rfl,rfl,rfl,rfl,H⟩
  ·clear H;rintro ms σ w ⟨rfl,b11,g0,g7,g8,g9,g11,g12,H⟩;rw[Q1 g0,Q1 g7,Q1 g8,Q1 g9,Q1 g11,Q1 g12];cases hL:Qd s.tab a b with
   | none=>
    have hn:Yh s k e place (.obj a b)=QD s.rem ((k:Int),place):=IS hL;rw[hL] at hsh;cases hsh;rw[hn];refine Vq H ?_;refine Bt H ?_;refine Y7 H ?_;replace H:=Js [0,0,0] 4 H;exact YV _ (.inl rfl) H rfl fun w' H'=>H'
   | some x=>
    obtain⟨kk,f⟩:=x;rw[hL] at hsh;cases hsh;refine Vq H ?_;refine HS H ?_;by_cases hr:f.region=e.region
    ·have hn:Yh s k e place (.obj a b)=QD s.rem ((k:Int),place):=by rw[Ch hL];exact if_neg (by simpa using hr)
     rw[hn,show (f.region != e.region)=false by simpa using hr];refine Y7 H ?_;replace H:=Js [0,0,0] 4 H;exact YV _ (.inl rfl) H rfl fun w' H'=>H'
    ·have hn:Yh s k e place (.obj a b)=Vy (QD s.rem ((k:Int),place)) ((k:Int),place) (a:Int):=by rw[Ch hL];exact if_pos hr
     rw[hn,show (f.region != e.region)=true by simpa using hr];refine XJ H ?_;have hnd:=B3 H;refine J1 H ?_;clear H;intro w H;refine Y3 H ?_;refine Jl 3 [8] H ?_;refine VP 4 [8] H rfl (Q8.none rfl) rfl (by repeat first|exact .nil _|apply QV.cons rfl) (by kernel_rfl) ?_;refine Jf 5 ?_;refine Jf 6 ?_;refine Jl 7 [8] H ?_;refine Jo 8 H ?_;refine Jk rfl rfl (N4 q.rp _ hnd ((k:Int),place) a H) ?_;clear H;rintro v w ⟨rfl,H⟩;refine Jx H ?_
     have he:QD (QD s.rem ((k:Int),place)) ((k:Int),place)=QD s.rem ((k:Int),place):=by
      refine BE ?_;intro hmem;exact absurd rfl ((BF hnd0).1 hmem).1
     rw[he] at H;replace H:=Js [0,0,0] 4 H;exact YV _ (.inl rfl) H rfl fun w' H'=>H'
set_option maxRecDepth 10000 in
theorem iB [Q4] (p:Nat) (s:CS) (R0 R:List (Rf×Int)) (D:List Rf) (hD:ZL s R0 D R) (k g:Nat) (e:Q7) (hk:s.tab[k]? = some ⟨g,some e⟩) {w:World} {fr:List Q2} (H:Q0 w (QA p { s with rem:=R }::fr)) :
  Calls Tryz.prog 141 #[pp p,.int .i64 k] w (ret fun v w'=>v = .tuple #[]∧∃ R',ZL s R0 (D++Wm s k e) R'∧Q0 w' (QA p { s with rem:=R' }::fr)):=by
 refine Q9 Tryz.func141 rfl (by kernel_rfl) ?_;refine Yw H ?_;clear H;intro b2 w H;refine Ke H ?_;clear H;intro b3 w H;refine J2 H ?_;replace H:=Js [2,0,0] 0 H;refine CU H ?_;refine Jc rfl rfl (Nd p { s with rem:=R } k g e hk H) ?_;clear H;rintro v w ⟨rfl,H⟩;refine Vj H ?_;clear H;intro b4 w H;refine J4 H ?_;clear H;intro w H;refine Yv H ?_;replace H:=Js [1,0] 0 H;obtain⟨q,mem,hw,hm,H⟩:=Vv H;dsimp only at H;have hws:WF s:=As hw s.rem;have hms:Va s mem:=F1 hm s.rem;refine J1 H ?_;clear H;intro w H;refine EL H ?_;refine Jf 4 ?_;refine Jl 5 [6] H ?_;refine Jo 6 H ?_;refine Jk rfl rfl (O1 q.ip e.addr H) ?_;clear H;rintro v w ⟨bm,ba,rfl,H⟩;refine Jx H ?_;refine J6 H ?_;refine QP (XA (a:=[]) (b:=[pp bm,pp ba]) H rfl (fun yl D2 w H=>?_));generalize hL:LR _ yl _ _ _ _ D2 .ready=L at H ⊢;obtain⟨J,hJ⟩:∃ J:List Nat→Q2,J=fun ks=>ex fun R1:List (Rf×Int)=>star [prop (ZL s R0 (D++ks.map fun x:Nat=>((k:Int),(x:Int))) R1),L,Qv p q,Qi q.tp s.tab,Qf q.trp s.last s.par,RS q.rp R1,mp (ki .i64) Qp q.sm (s.sps.map VE),star (s.sps.map (VJ q.sp)),mp (ki .i64) Qp q.mm (s.mns.map Qx),star (s.mns.map Qy),pts b2 (row 44 [pp p]),pts b3 (row 3 [.int .i64 k])]:=⟨_,rfl⟩
 have hin:∀ (ks:List Nat) (R1:List (Rf×Int)) (w:World) (l':List Q2),ZL s R0 (D++ks.map fun x:Nat=>((k:Int),(x:Int))) R1→Q0 w (L::Qv p q::Qi q.tp s.tab::Qf q.trp s.last s.par::RS q.rp R1::mp (ki .i64) Qp q.sm (s.sps.map VE)::star (s.sps.map (VJ q.sp))::mp (ki .i64) Qp q.mm (s.mns.map Qx)::star (s.mns.map Qy)::pts b2 (row 44 [pp p])::pts b3 (row 3 [.int .i64 k])::l')→Q0 w (J ks::l'):=by
  intro ks R1 w l' h H;rw[hJ];exact Q0.ex.2 ⟨R1,Q0.star.2 (Q0.prop.2 ⟨h,H⟩)⟩
 have hout:∀ (ks:List Nat) (w:World) (l':List Q2),Q0 w (J ks::l')→∃ R1,ZL s R0 (D++ks.map fun x:Nat=>((k:Int),(x:Int))) R1∧Q0 w (L::Qv p q::Qi q.tp s.tab::Qf q.trp s.last s.par::RS q.rp R1::mp (ki .i64) Qp q.sm (s.sps.map VE)::star (s.sps.map (VJ q.sp))::mp (ki .i64) Qp q.mm (s.mns.map Qx)::star (s.mns.map Qy)::pts b2 (row 44 [pp p])::pts b3 (row 3 [.int .i64 k])::l'):=by
  intro ks w l' H;rw[hJ] at H;obtain⟨R1,H⟩:=Q0.ex.1 H;exact⟨R1,Q0.prop.1 (Q0.star.1 H)⟩
 replace H:=Js [0,3,6,6,6,6,6,6,6,8,7,1,1,1,1,1,0] 1 H;replace H:=hin [] R _ _ (by rw[map_nil,append_nil];exact hD) H;refine call (O2 yl bm ba q.ip q.sp q.bp s.size s.lays s.own e.addr e.lay e.count k e.ws.length (QN s e) (Vb e) (Va s) (fun _ h=>O3 hws h hk) J ?_ hms H) ?_
 ·clear H;intro ks z mem' rest w hm' hpre H;obtain⟨R1,hD1,H⟩:=hout _ _ _ H;obtain⟨t,hpre⟩:=hpre;obtain⟨hz1,hz2⟩:=Io hpre;have hstep:=hD1.step hk hz1 hz2;rw[append_assoc,show [((k:Int),(z:Int))]=[z].map (fun x:Nat=>((k:Int),(x:Int))) from rfl,← map_append] at hstep;have hnote:=fun (w:World) (fr:List Q2) (H:Q0 w (RS q.rp R1::Qi q.tp s.tab::Qv p q::fr))=>iA p q { s with rem:=R1 } k g e hk (z:Int) (Vb e z) H;obtain⟨a1,a2,a3,hkv⟩:=Gy (Vb e z);rw[hkv] at hnote;rw[hkv];subst hL;refine UF (args:=[.int .i64 z,.agg #[.int .i64 a1,.int .i64 a2,.int .i64 a3]]) H rfl rfl ?_;refine VB H ?_;refine Vp H ?_;clear H;intro b7 w H;refine J4 H ?_;clear H;intro w H;refine J2 H ?_;replace H:=Js [1,0] 0 H;refine⟨rfl,_,H,fun w H=>QP ?_⟩;generalize hLB:LR _ yl _ _ _ _ D2 .busy=LB at H ⊢;replace H:=Js [5,3,2,0,0,0,0,0,0,0,0,0] 0 H;refine CU H ?_;refine Jv ?_;refine RL H ?_;refine Jc rfl rfl (hnote _ _ H) ?_;clear H;rintro v w H;refine J2 H ?_;subst hLB;replace H:=Js [3,2,1,2,0,1,1,1,1,1,1] 1 H;refine⟨rfl,_,H,fun w H=>⟨rfl,mem',hm',hin _ _ _ _ hstep H⟩⟩
 ·clear H;rintro v w ⟨mem',hm',H⟩;obtain⟨R1,hD1,H⟩:=hout _ _ _ H;subst hL;refine⟨_,H,fun w H=>?_⟩;replace H:=Js [15,0,11,11,11,0,0,0,0,0,0,0] 4 H;exact R5 (ms:=[D2]) _ (.inl rfl) ((Q0.star (k:=[pts D2 (.deferred (some []))])).2 H) rfl fun w' H'=>⟨rfl,R1,hD1,VR (s:={ s with rem:=R1 }) (As hws R1) (F1 hm' R1) H'⟩
theorem Pc [Q4] (p:Nat) (q:Gj) (ts:List QX) (mk:List (Int×Nat)) (k n:Nat) (e:Q7) (hk:ts[k]? = some ⟨n,some e⟩) (region:Int) (addr b1 b2:Nat) (M1 M2:List Nat) (h1:QY mk e.region=some b1) (h2:QY mk region=some b2)
  (hs1:M1.Pairwise (· < ·)) (hl1:M1.length≤1000) (hs2:M2.Pairwise (· < ·)) (hl2:M2.length≤1000) (hkM:k∉M2) {w:World} {fr:List Q2} (H:Q0 w (Qi q.tp ts::Qv p q::mp (ki .i64) Qp q.mm mk::Qu b1 M1::Qu b2 M2::fr)) :
  Calls Tryz.prog 75 #[pp p,.int .i64 k,.int .i64 region,.int .i64 addr] w (ret fun v w'=>v = .tuple #[]∧Q0 w' (Qi q.tp (ts.set k ⟨n,some { e with region:=region,addr:=addr }⟩)::Qv p q::mp (ki .i64) Qp q.mm mk::Qu b1 (M1.filter (·≠k))::Qu b2 (YS M2 k)::fr)):=by
 have hL:Qd ts k n=some (k,e):=Y8.2 ⟨n,rfl,rfl,hk⟩;refine Q9 Tryz.func75 rfl (by kernel_rfl) ?_;refine J9 H ?_;refine Jc rfl rfl (Iw p q ts k n e hk H) ?_;clear H;rintro v w ⟨rfl,H⟩;refine Vj H ?_;clear H;intro b8 w H;refine VZ H ?_;clear H;intro b9 w H;refine J4 H ?_;clear H;intro w H;refine J4 H ?_;clear H;intro w H;refine J2 H ?_;replace H:=Js [5,0,0,0,0,0,0] 0 H;refine J1 H ?_;clear H;intro w H;refine Y3 H ?_;refine Jl 3 [8] H ?_;refine Jf 4 ?_;refine Jl 5 [8] H ?_;refine Uq 6 [8] (key:=e.region) H rfl (Q8.none rfl) rfl rfl VC (by kernel_rfl) ?_;rw[h1];refine Ja 7 ?_;refine Jo 8 H ?_;refine Jk rfl rfl (Oe b1 M1 k hs1 (by omega) H) ?_;clear H;rintro v w ⟨rfl,H⟩;refine Jx H ?_;refine J9 H ?_;refine UY H ?_;clear H;intro w H;refine UY H ?_;clear H;intro w H;refine J2 H ?_;replace H:Q0 w (Qu b1 (M1.filter (·≠k))::pts b9 (row 113 (Vg { e with region:=region,addr:=addr }))::pts b8 (row 69 [.int .i64 k,.int .i64 n])::Qi q.tp ts::Qv p q::mp (ki .i64) Qp q.mm mk::Qu b2 M2::fr):=H;replace H:=Js [3,0,0,0,0,0,0] 0 H;refine J1 H ?_;clear H;intro w H;refine C3 H ?_;refine E7 H ?_;refine C4 H ?_;refine Jk rfl rfl (CP q.tp ts k n { e with region:=region,addr:=addr } H) ?_;clear H;intro v w hS
 obtain⟨rfl,H⟩:v = .int .i64 0∧Q0 w (Qi q.tp (ts.set k ⟨n,some { e with region:=region,addr:=addr }⟩)::Qu b1 (M1.filter (·≠k))::pts b9 (row 113 (Vg { e with region:=region,addr:=addr }))::pts b8 (row 69 [.int .i64 k,.int .i64 n])::Qv p q::mp (ki .i64) Qp q.mm mk::Qu b2 M2::fr):=by
  rcases hS with ⟨k2,e2,hL2,hv,H⟩|⟨hL2,_,_⟩
  ·rw[hL] at hL2;injection hL2 with hL2
   injection hL2 with hL2 _
   subst hL2;exact⟨hv,H⟩
  ·rw[hL] at hL2;cases hL2
 refine Jx H ?_;replace H:=Js [6,0,3,3,0,0,0] 0 H;refine VQ H ?_;refine Q5 rfl (ZR (key:=region) H rfl rfl VC rfl ?_);rw[h2];refine Jv ?_;refine Jc rfl rfl (Nj b2 M2 k hs2 (by omega) hkM H) ?_;clear H;rintro v w ⟨rfl,H⟩;refine J2 H ?_;replace H:=Js [1,1,1,1,0] 2 H;exact YV _ (.inl rfl) H rfl fun w' H'=>⟨rfl,H'⟩
theorem mk_nil [Q4] {w:World} {l:List Q2} (H:Q0 w l):Q0 w (mk []::l):=(Q0.star (k:=[])).2 H
theorem iC [Q4] {w:World} {D:Nat} {Ds:List Nat} {l:List Q2} (H:Q0 w (pts D (.deferred (some []))::mk Ds::l)):Q0 w (mk (D::Ds)::l):=
 (Q0.pick (R:=fun D=>pts D (.deferred (some []))) (x:=D) (gs:=D::Ds) (g1:=[]) (g2:=Ds) rfl).2 H
def Wt (s:CS) (k:Nat):List Rf:=match s.tab[k]? with
 | some ⟨_,some e⟩=>Wm s k e
 | _=>[]
theorem JS {s:CS} {k g:Nat} {e:Q7} (hk:s.tab[k]? = some ⟨g,some e⟩):Wt s k=Wm s k e:=by
 unfold Wt;rw[hk]
def BK (s:CS) (ids:List Int) (D:List Rf):Prop:=∀ r,r∈D↔∃ (k g:Nat) (e:Q7),s.tab[k]? = some ⟨g,some e⟩∧e.region∈ids∧r∈Wm s k e
theorem BK.step {s:CS} {ids:List Int} {D:List Rf} (h:BK s ids D) {x:Int} {M:List Nat} (hM:∀ i,i∈M↔∃ g e,s.tab[i]? = some ⟨g,some e⟩∧e.region=x):BK s (ids++[x]) (D++M.flatMap (Wt s)):=by
 intro r;rw[mem_append,h r,mem_flatMap];constructor
 ·rintro(⟨k,g,e,h1,h2,h3⟩|⟨k,h1,h2⟩)
  ·exact⟨k,g,e,h1,mem_append.2 (.inl h2),h3⟩
  ·obtain⟨g,e,h3,h4⟩:=(hM k).1 h1;rw[JS h3] at h2;exact⟨k,g,e,h3,mem_append.2 (.inr (mem_singleton.2 h4)),h2⟩
 ·rintro⟨k,g,e,h1,h2,h3⟩
  rcases mem_append.1 h2 with h2|h2
  ·exact .inl ⟨k,g,e,h1,h2,h3⟩
  ·rw[mem_singleton] at h2;exact .inr ⟨k,(hM k).2 ⟨g,e,h1,h2⟩,by rw[JS h1];exact h3⟩
set_option maxRecDepth 10000 in
theorem Pd [Q4] (p:Nat) (s:CS) (R0:List (Rf×Int)) (hR0:(R0.map (·.1)).Nodup) (v:Value) (ids:List Int) (hids:∀ x∈ids,x∈s.mns.map (·.1)) (hl:ids.length≤1000) {w:World} {fr:List Q2} (H:Q0 w (IL v ids::QA p { s with rem:=R0 }::fr)) :
  Calls Tryz.prog 76 #[pp p,v] w (ret fun x w'=>x = .tuple #[]∧∃ D R',BK s ids D∧ZL s R0 D R'∧Q0 w' (QA p { s with rem:=R' }::fr)):=by
 obtain⟨a,c,rfl⟩:=QF H (Vn ids) (by decide);refine Q9 Tryz.func76 rfl (by kernel_rfl) ?_;refine Yw H ?_;clear H;intro b2 w H;refine J2 H ?_;refine UV H ?_;replace H:=Js [1,1,0] 0 H;replace H:=mk_nil H;replace H:=Js [1,1,1,0] 0 H;refine Qo (fun ms σ w=>∃ D R',BK s ids D∧ZL s R0 D R'∧Q0 w (mk ms::QA p { s with rem:=R' }::fr)) ?_ ?_
 ·refine QP ?_;refine Ql (fun ms σ w z=>∃ (i:Nat) (D:List Rf) (R':List (Rf×Int)),i≤ids.length∧z=ids.length - i∧BK s (ids.take i) D∧ZL s R0 D R'∧σ 2=pp b2∧σ 7 = .slice a ids.length c∧σ 8 = .int .i64 ids.length∧σ 9 = .int .i64 i∧Q0 w (IL (.slice a ids.length c) ids::QA p { s with rem:=R' }::pts b2 (row 44 [pp p])::mk ms::fr)) (m:=ids.length) ⟨0,[],R0,by omega,by omega,(fun r=>⟨fun h=>(by cases h),fun ⟨k,g,e,_,h,_⟩=>(by cases h)⟩),ZL.start hR0,rfl,rfl,rfl,rfl,H⟩ ?_;clear H;rintro ms σ w z ⟨i,D,R',hi,rfl,hD,hN,g2,g7,g8,g9,H⟩;rw[Q1 g2,Q1 g7,Q1 g8,Q1 g9];refine J7 H ?_;refine Qk rfl (fun h=>QB ?_) (fun h=>Qq ?_)
  ·have hlt:i < ids.length:=by omega
   have hx:=getElem?_eq_getElem hlt;have htk:ids.take (i+1)=ids.take i++[ids[i]]:=by rw[take_add_one,hx];rfl
   have hxi:=hids _ (getElem_mem hlt);generalize ids[i]=x at hx htk hxi;obtain⟨bT,sT,rfl,H,hcl⟩:=V5 H (by omega);refine YW H ?_;refine Jd ?_;refine Q5 rfl (QR H rfl (by simpa using Uk hx) rfl ?_);refine J0 H ?_;replace H:=hcl _ _ H;replace H:=Js [1,0] 0 H;obtain⟨q,mem,hw,hm,H⟩:=Vv H;dsimp only at H;have hws:WF s:=As hw s.rem;obtain⟨b1,hkM⟩:=X8 (l:=s.mns) (f:=fun x=>x.1) (g:=fun x=>x.2.1) (k:=x) hxi;obtain⟨⟨r2,b1',M⟩,m1,m2,hmns,hs3,hs4⟩:=X7 hkM;obtain rfl:r2=x:=hs3;obtain rfl:b1'=b1:=hs4;have hkM':QY (s.mns.map Qx) r2=some b1':=hkM;have hMm:=hws.mine (r2,b1',M) (by rw[hmns];simp)
   have hMl:M.length≤64:=by
    have:=Kh M 0 64 (fun y hy=>⟨Nat.zero_le _,by
     obtain⟨g,f,h3,_⟩:=(hMm.2 y).1 hy;have h4:=(List.getElem?_eq_some_iff.1 h3).1;have:=hws.slots.2;omega⟩) hMm.1
    omega
   refine US H ?_;refine Q5 rfl (ZR (key:=r2) H rfl rfl VC rfl ?_);rw[hkM'];replace H:=Js [10,0,0,0,0,0,0,0,0,0,0] 0 H;replace H:Q0 w (Qu b1' M::star ((m1++m2).map Qy)::_):=(Q0.pick (R:=Qy) (x:=(r2,b1',M)) hmns).1 H;refine Jc rfl rfl (FI b1' M (by omega) H) ?_;clear H;rintro v w ⟨bv,av,cv,rfl,H⟩;replace H:=Js [2,2,0,0] 0 H;replace H:=(Q0.pick (R:=Qy) (x:=(r2,b1',M)) hmns).2 H;replace H:=Js [3,3,3,3,3,3,3,3,3,3,0,0,0] 0 H;replace H:=VR (s:={ s with rem:=R' }) hw hm H;refine J2 H ?_;replace H:=Js [0,3,0,0,0,0] 0 H;refine J6 H ?_;refine Qo (fun ms' σ w=>∃ (D2:Nat) (R2:List (Rf×Int)),ms'=D2::ms∧ZL s R0 (D++M.flatMap (Wt s)) R2∧σ 2=pp b2∧σ 7 = .slice (some ⟨bT,0,none⟩) ids.length c∧σ 8 = .int .i64 ids.length∧σ 9 = .int .i64 i∧Q0 w (QA p { s with rem:=R2 }::pts b2 (row 44 [pp p])::pts D2 (.deferred (some []))::IL (.slice (some ⟨bT,0,none⟩) ids.length c) ids::mk ms::fr)) ?_ ?_
   ·refine QP (XA (a:=[]) (b:=[pp bv]) H rfl (fun yl D2 w H=>?_));generalize hL:LR _ yl _ _ _ _ D2 .ready=LRR at H ⊢;obtain⟨J,hJ⟩:∃ J:List Nat→Q2,J=fun ks=>ex fun R1:List (Rf×Int)=>star [prop (ZL s R0 (D++ks.flatMap (Wt s)) R1),LRR,QA p { s with rem:=R1 },pts b2 (row 44 [pp p])]:=⟨_,rfl⟩
    have hin:∀ (ks:List Nat) (R1:List (Rf×Int)) (w:World) (l':List Q2),ZL s R0 (D++ks.flatMap (Wt s)) R1→Q0 w (LRR::QA p { s with rem:=R1 }::pts b2 (row 44 [pp p])::l')→Q0 w (J ks::l'):=by
     intro ks R1 w l' h H;rw[hJ];exact Q0.ex.2 ⟨R1,Q0.star.2 (Q0.prop.2 ⟨h,H⟩)⟩
    have hout:∀ (ks:List Nat) (w:World) (l':List Q2),Q0 w (J ks::l')→∃ R1,ZL s R0 (D++ks.flatMap (Wt s)) R1∧Q0 w (LRR::QA p { s with rem:=R1 }::pts b2 (row 44 [pp p])::l'):=by
     intro ks w l' H;rw[hJ] at H;obtain⟨R1,H⟩:=Q0.ex.1 H;exact⟨R1,Q0.prop.1 (Q0.star.1 H)⟩
    replace H:=Js [0,1,1,1,1,0,0,0] 0 H;replace H:=hin [] R' _ _ (by rw[flatMap_nil,append_nil];exact hN) H;refine call (FJ yl bv av cv M (by omega) J ?_ H) ?_
    ·clear H;intro ks k tt rest w hpre H;obtain⟨R1,hN1,H⟩:=hout _ _ _ H;obtain⟨g,e,hk,_⟩:=(hMm.2 k).1 (by rw[hpre];simp);subst hL;refine UF (args:=[.int .i64 k]) H rfl rfl ?_;refine VB H ?_;refine⟨rfl,_,H,fun w H=>QP ?_⟩;generalize hLB:LR _ yl _ _ _ _ D2 .busy=LB at H ⊢;replace H:=Js [1,0] 0 H;refine GS H ?_;refine Jc rfl rfl (iB p s R0 R1 _ hN1 k g e hk H) ?_;clear H;rintro v w ⟨rfl,R2,hN2,H⟩;refine J2 H ?_;subst hLB;replace H:=Js [1,0,0] 0 H;refine⟨rfl,_,H,fun w H=>⟨rfl,hin _ _ _ _ ?_ H⟩⟩;rw[flatMap_append,flatMap_cons,flatMap_nil,append_nil,JS hk,← append_assoc];exact hN2
    ·clear H;rintro v w H;obtain⟨R1,hN1,H⟩:=hout _ _ _ H;subst hL;refine⟨_,H,fun w H=>?_⟩;replace H:=Js [0,0,2,2,2] 2 H;exact⟨rfl,D2,R1,rfl,hN1,rfl,rfl,rfl,rfl,H⟩
   clear H;rintro ms' σ w ⟨D2,R2,rfl,hN2,g2,g7,g8,g9,H⟩;rw[Q1 g2,Q1 g7,Q1 g8,Q1 g9];refine J5 H ?_;replace H:=Js [2,3,2,0,0] 0 H;replace H:=iC H;replace H:=Js [1,1,1,0] 0 H;exact⟨_,⟨i+1,_,R2,hlt,rfl,by rw[htk];exact hD.step hMm.2,hN2,rfl,rfl,rfl,Qc (by omega),H⟩,by omega⟩
  ·have hge:i=ids.length:=by omega
   subst hge;rw[take_length] at hD;replace H:=Js [3,1] 2 H;exact⟨rfl,D,R',hD,hN,H⟩
 clear H;rintro ms σ w ⟨D,R',hD,hN,H⟩;exact R5 (ms:=ms) _ (.inl rfl) H rfl fun w' H'=>⟨rfl,D,R',hD,hN,H'⟩
theorem Pe {V:Type} {l:List (Int×Nat×V)} (hnd:(l.map fun z=>z.1).Nodup) {x y:Int} (hx:x∈l.map fun z=>z.1) (hy:y∈l.map fun z=>z.1) (hne:y≠x) :
  ∃ (bx:Nat) (X:V) (a1 a2:List (Int×Nat×V)) (bY:Nat) (Y:V) (c1 c2:List (Int×Nat×V)),l=a1++(x,bx,X)::a2∧a1++a2=c1++(y,bY,Y)::c2∧QY (l.map fun z=>(z.1,z.2.1)) x=some bx∧QY (l.map fun z=>(z.1,z.2.1)) y=some bY:=by
 obtain⟨⟨x',bx,X⟩,h1,h2⟩:=mem_map.1 hx;have h2:x'=x:=h2;subst h2;obtain⟨a1,a2,h3⟩:=append_of_mem h1;obtain⟨⟨y',bY,Y⟩,h4,h5⟩:=mem_map.1 hy;have h5:y'=y:=h5;subst h5
 have h6:(y',bY,Y)∈a1++a2:=by
  rw[h3] at h4
  rcases G9 h4 with h7|h7
  ·injection h7 with h7 _
   exact absurd h7 hne
  ·exact h7
 obtain⟨c1,c2,h7⟩:=append_of_mem h6;have hnd2:((l.map fun z=>(z.1,z.2.1)).map (·.1)).Nodup:=by rw[map_map];exact hnd
 exact⟨bx,X,a1,a2,bY,Y,c1,c2,h3,h7,(Yl hnd2).2 (mem_map.2 ⟨_,h1,rfl⟩),(Yl hnd2).2 (mem_map.2 ⟨_,h4,rfl⟩)⟩
def Uo (id q:Int) (ts:List QX) (ks:List Nat):List QX:=ts.mapIdx fun k t=>if k∈ks then Zz id q t else t
theorem D6 (id q:Int) (ts:List QX) (ks:List Nat) (k:Nat):(Uo id q ts ks)[k]? = (ts[k]?).map fun t=>if k∈ks then Zz id q t else t:=getElem?_mapIdx
theorem iD (id q:Int) (ts:List QX):Uo id q ts []=ts:=by
 apply ext_getElem?;intro i;rw[D6];cases ts[i]? <;> simp
theorem iE {id q:Int} {ts:List QX} {ks:List Nat} {k g:Nat} {e:Q7} (hk:ts[k]? = some ⟨g,some e⟩) (hr:e.region=id):(Uo id q ts ks).set k ⟨g,some { e with region:=q,addr:=e.addr }⟩=Uo id q ts (ks++[k]):=by
 have hkl:=(List.getElem?_eq_some_iff.1 hk).1;apply ext_getElem?;intro i;rw[getElem?_set,D6,D6];by_cases h:k=i
 ·subst h;rw[if_pos rfl,if_pos (by unfold Uo;rw[length_mapIdx];exact hkl),hk];simp only[Option.map_some];rw[if_pos (mem_append.2 (.inr (by simp)))];unfold Zz Yt;simp only[Option.map_some];rw[if_pos hr]
 ·rw[if_neg h];cases ts[i]? with
  | none=>rfl
  | some t=>
   have h2:i∈ks++[k]↔i∈ks:=by
    rw[mem_append,mem_singleton];exact⟨fun h4=>h4.elim (fun h=>h) fun h5=>absurd h5.symm h,.inl⟩
   simp only[Option.map_some,h2]
theorem iF {id q:Int} {ts:List QX} {M:List Nat} (hM:∀ i,i∈M↔∃ g e,ts[i]? = some ⟨g,some e⟩∧e.region=id):Uo id q ts M=ts.map (Zz id q):=by
 apply ext_getElem?;intro i;rw[D6,getElem?_map];cases ht:ts[i]? with
 | none=>rfl
 | some t=>
  simp only[Option.map_some];by_cases h:i∈M
  ·rw[if_pos h]
  ·rw[if_neg h];obtain⟨g,e0⟩:=t;cases e0 with
   | none=>rfl
   | some e=>
    have hne:e.region≠id:=fun h1=>h ((hM i).2 ⟨g,e,ht,h1⟩);unfold Zz Yt;simp only[Option.map_some];rw[if_neg hne]
set_option maxRecDepth 10000 in
theorem iH [Q4] (p:Nat) (s:CS) (region q:Int) (hid:QY s.par region=some q) (hT:Z0 s.par) {w:World} {fr:List Q2} (H:Q0 w (QA p s::fr)) :
  Calls Tryz.prog 27 #[pp p,.int .i64 region] w (ret fun v w'=>(q=0∧v = .tuple #[.int .i64 0,.int .i64 16]∧Q0 w' (QA p s::fr))∨(q≠0∧v = .tuple #[.int .i64 q,.int .i64 0]∧∃ s',BY s region q s'∧Q0 w' (QA p s'::fr))):=by
 obtain⟨u,mem,hw,hm,H⟩:=Vv H;obtain⟨hq1,hq2,hq3⟩:=hT.up _ _ hid;refine Q9 Tryz.func27 rfl (by kernel_rfl) ?_;refine Yw H ?_;clear H;intro b2 w H;refine J3 H ?_;replace H:=Js [6,1,0,0,0,0,0] 0 H;refine GS H ?_;refine Jc rfl rfl (Fb p u s.last s.par region H) ?_;clear H;rintro v w ⟨rfl,H⟩;rw[hid];refine Yv H ?_;refine US H ?_;refine Jc rfl rfl (fj u.trp s.last s.par region hT.nd (by have:=hw.par.1;omega) H) ?_;clear H;rintro v w (⟨h1,_,_⟩|⟨h1,rfl,H⟩|⟨q',par',h1,hq0,hP,rfl,H⟩)
 ·rw[hid] at h1;cases h1
 ·rw[hid] at h1;injection h1 with h1
  refine Vj H ?_;clear H;intro b7 w H;refine Kg H ?_;clear H;intro w H;refine Ai H ?_;replace H:=Js [2,3,3,3,3,1,2,2,2,2,2] 2 H;exact Q3 (Jy H rfl fun w' H' => .inl ⟨h1,rfl,VR hw hm H'⟩)
 rw[hid] at h1;injection h1 with h1
 subst h1;refine Vj H ?_;clear H;intro b7 w H;refine Kg H ?_;clear H;intro w H;refine Yv H ?_;replace H:Q0 w (pts b7 (row 3 [.int .i64 q])::_):=H;have hrk:region∈s.par.map (·.1):=Wf (by rw[hid];rfl);have hqk:q∈s.par.map (·.1):=Wf (hq3.resolve_left hq0);have hne:q≠region:=by omega
 obtain⟨bi,T,a1,a2,bq,S,c1,c2,hs1,hs2,hkS1,hkS2⟩:=Pe (l:=s.sps) (by rw[hw.skeys];exact hT.nd) (x:=region) (y:=q) (by rw[hw.skeys];exact hrk) (by rw[hw.skeys];exact hqk) hne;obtain⟨gi,M,d1,d2,gq,N,e1,e2,hm1,hm2,hkM1,hkM2⟩:=Pe (l:=s.mns) (by rw[hw.mkeys];exact hT.nd) (x:=region) (y:=q) (by rw[hw.mkeys];exact hrk) (by rw[hw.mkeys];exact hqk) hne;have hkS1':QY (s.sps.map VE) region=some bi:=hkS1;have hkS2':QY (s.sps.map VE) q=some bq:=hkS2;have hkM1':QY (s.mns.map Qx) region=some gi:=hkM1;have hkM2':QY (s.mns.map Qx) q=some gq:=hkM2
 have hSm:(q,bq,S)∈s.sps:=by
  have h1:(q,bq,S)∈a1++a2:=by rw[hs2];simp
  rw[hs1];exact X5 h1
 have hNm:(q,gq,N)∈s.mns:=by
  have h1:(q,gq,N)∈d1++d2:=by rw[hm2];simp
  rw[hm1];exact X5 h1
 obtain⟨t1,t2,t3,t4,t5,t6⟩:=BQ hw (x:=(region,bi,T)) (by rw[hs1];simp);obtain⟨s1,_,_,_,_,_⟩:=BQ hw hSm;have t1:T.parts.length≤63:=t1;have s1:S.parts.length≤63:=s1;have hMm:=hw.mine (region,gi,M) (by rw[hm1];simp);have hNn:=hw.mine _ hNm
 have hbl:∀ L:List Nat,L.Pairwise (· < ·)→(∀ y∈L,y < s.tab.length)→L.length≤64:=fun L h1 h2=>by
  have:=Kh L 0 64 (fun y hy=>⟨Nat.zero_le _,by have:=h2 y hy;have:=hw.slots.2;omega⟩) h1;omega
 have hMt:∀ y∈M,y < s.tab.length:=fun y hy=>by
  obtain⟨g,f,h3,_⟩:=(hMm.2 y).1 hy;exact(List.getElem?_eq_some_iff.1 h3).1
 have hNt:∀ y∈N,y < s.tab.length:=fun y hy=>by
  obtain⟨g,f,h3,_⟩:=(hNn.2 y).1 hy;exact(List.getElem?_eq_some_iff.1 h3).1
 replace H:=Js [10,6,0,1,1,1,1,1,1,1,1,1,0] 0 H;replace H:Q0 w (Qn bi u.sp region.toNat T::star ((a1++a2).map (VJ u.sp))::_):=(Q0.pick (R:=VJ u.sp) (x:=(region,bi,T)) hs1).1 H;replace H:=Js [1,0] 0 H;replace H:Q0 w (Qn bq u.sp q.toNat S::star ((c1++c2).map (VJ u.sp))::_):=(Q0.pick (R:=VJ u.sp) (x:=(q,bq,S)) hs2).1 H;replace H:=Js [0,1,1,0] 0 H;refine J1 H ?_;clear H;intro w H;refine Jl 0 [12] H ?_;refine XN H ?_;refine Jl 3 [12] H ?_;refine Jl 4 [12] H ?_;refine Uq 5 [12] (key:=q) H rfl (Q8.none rfl) rfl rfl VC (by kernel_rfl) ?_;rw[hkS2'];refine Jl 6 [12] H ?_;refine Ja 7 ?_;refine Jf 8 ?_;refine Jl 9 [12] H ?_;refine Ja 10 ?_;refine Uq 11 [12] (key:=region) H rfl (Q8.none rfl) rfl rfl VC (by kernel_rfl) ?_;rw[hkS1'];have hJ:=Ov bq bi u.sp q.toNat region.toNat S T s.size mem s.own (by omega) (by omega) (by omega) hw.own.2 t2 t5 H;refine Jo 12 H ?_;refine Jk rfl rfl (hJ) ?_;clear H hJ;rintro v w ⟨rfl,own',hol,hog,H⟩;refine Jx H ?_;replace H:=Js [13,0,0,0,0,0,0,0,0,0,0,0,0,0] 0 H;replace H:Q0 w (Qu gi M::star ((d1++d2).map Qy)::_):=(Q0.pick (R:=Qy) (x:=(region,gi,M)) hm1).1 H;replace H:=Js [1,0] 0 H;replace H:Q0 w (Qu gq N::star ((e1++e2).map Qy)::_):=(Q0.pick (R:=Qy) (x:=(q,gq,N)) hm2).1 H;replace H:=Js [2,0,0] 0 H;have hMlen:=hbl M hMm.1 hMt;refine US H ?_;refine Q5 rfl (ZR (key:=region) H rfl rfl VC rfl ?_);rw[hkM1'];refine Jc rfl rfl (FI gi M (by omega) H) ?_;clear H;rintro v w ⟨bv,av,cv,rfl,H⟩;refine RR H ?_
 refine Qo (fun ms σ w=>∃ (D2:Nat) (N':List Nat),ms=[D2]∧N'.Pairwise (· < ·)∧(∀ j,j∈N'↔j∈M∨j∈N)∧σ 1 = .int .i64 region∧σ 2=pp b2∧σ 7=pp b7 ∧
  Q0 w (Qi u.tp (Uo region q s.tab M)::Qv p u::mp (ki .i64) Qp u.mm (s.mns.map Qx)::Qu gq N'::pts b2 (row 44 [pp p])::pts b7 (row 3 [.int .i64 q])::star ((e1++e2).map Qy)::Qn bq u.sp q.toNat (ZG S T)::ST u.sp s.size mem own'::star ((c1++c2).map (VJ u.sp))::Qt u.ip u.sp u.bp::Qh u.bp s.lays::RS u.rp s.rem::mp (ki .i64) Qp u.sm (s.sps.map VE)::Qf u.trp s.last par'::pts D2 (.deferred (some []))::fr)) ?_ ?_
 ·refine QP (XA (a:=[]) (b:=[pp bv]) H rfl (fun yl D2 w H=>?_));generalize hL:LR _ yl _ _ _ _ D2 .ready=LRR at H ⊢;obtain⟨J,hJ⟩:∃ J:List Nat→Q2,J=fun ks=>ex fun y:List Nat×List Nat=>star [prop (y.1.Pairwise (· < ·)∧y.1.length≤1000∧y.2.Pairwise (· < ·)∧∀ j,j∈y.2↔j∈ks∨j∈N),LRR,Qi u.tp (Uo region q s.tab ks),Qv p u,mp (ki .i64) Qp u.mm (s.mns.map Qx),Qu gi y.1,Qu gq y.2,pts b2 (row 44 [pp p]),pts b7 (row 3 [.int .i64 q])]:=⟨_,rfl⟩
  have hin:∀ (ks M1 N1:List Nat) (w:World) (l':List Q2),(M1.Pairwise (· < ·)∧M1.length≤1000∧N1.Pairwise (· < ·)∧∀ j,j∈N1↔j∈ks∨j∈N)→Q0 w (LRR::Qi u.tp (Uo region q s.tab ks)::Qv p u::mp (ki .i64) Qp u.mm (s.mns.map Qx)::Qu gi M1::Qu gq N1::pts b2 (row 44 [pp p])::pts b7 (row 3 [.int .i64 q])::l')→Q0 w (J ks::l'):=by
   intro ks M1 N1 w l' h H;rw[hJ];exact Q0.ex.2 ⟨(M1,N1),Q0.star.2 (Q0.prop.2 ⟨h,H⟩)⟩
  have hout:∀ (ks:List Nat) (w:World) (l':List Q2),Q0 w (J ks::l')→∃ M1 N1,(M1.Pairwise (· < ·)∧M1.length≤1000∧N1.Pairwise (· < ·)∧∀ j,j∈N1↔j∈ks∨j∈N)∧Q0 w (LRR::Qi u.tp (Uo region q s.tab ks)::Qv p u::mp (ki .i64) Qp u.mm (s.mns.map Qx)::Qu gi M1::Qu gq N1::pts b2 (row 44 [pp p])::pts b7 (row 3 [.int .i64 q])::l'):=by
   intro ks w l' H;rw[hJ] at H;obtain⟨⟨M1,N1⟩,H⟩:=Q0.ex.1 H;exact⟨M1,N1,Q0.prop.1 (Q0.star.1 H)⟩
  replace H:=Js [0,15,11,16,3,3,9,8,1,1,1,1,1,1,1,1,1,1,1,1,0] 0 H;rw[← iD region q s.tab] at H;replace H:=hin [] M N _ _ ⟨hMm.1,by omega,hNn.1,fun j=>by simp⟩ H;refine call (FJ yl bv av cv M (by omega) J ?_ H) ?_
  ·clear H;intro ks k tt rest w hpre H;obtain⟨M1,N1,⟨hM1,hM2,hN1,hN2⟩,H⟩:=hout _ _ _ H;subst hL;have hkM:k∈M:=by rw[hpre];simp
   have hkn:k∉ks:=fun h=>by
    have h1:=hMm.1;rw[hpre,pairwise_append] at h1;have:=h1.2.2 k h k mem_cons_self;omega
   obtain⟨g,e,hk,her⟩:=(hMm.2 k).1 hkM;have her:e.region=region:=her
   have hk':(Uo region q s.tab ks)[k]? = some ⟨g,some e⟩:=by
    rw[D6,hk];simp only[Option.map_some];rw[if_neg hkn]
   have hkN:k∉N1:=fun h=>by
    rcases (hN2 k).1 h with h|h
    ·exact hkn h
    ·obtain⟨g',e',h1,h2⟩:=(hNn.2 k).1 h;rw[hk] at h1;injection h1 with h1
     injection h1 with _ h1
     injection h1 with h1
     subst h1;have h2:e.region=q:=h2;omega
   have hN1l:N1.length≤64:=hbl N1 hN1 fun y hy=>by
    rcases (hN2 y).1 hy with h|h
    ·exact hMt y (by rw[hpre];exact mem_append.2 (.inl h))
    ·exact hNt y h
   refine UF (args:=[.int .i64 k]) H rfl rfl ?_;refine VB H ?_;refine⟨rfl,_,H,fun w H=>QP ?_⟩;generalize hLB:LR _ yl _ _ _ _ D2 .busy=LB at H ⊢;replace H:=Js [1,1,0] 0 H;refine GS H ?_;refine Jc rfl rfl (Iw p u (Uo region q s.tab ks) k g e hk' H) ?_;clear H;rintro v w ⟨rfl,H⟩;refine Vj H ?_;clear H;intro b10 w H;refine VZ H ?_;clear H;intro b11 w H;refine J4 H ?_;clear H;intro w H;refine J4 H ?_;clear H;intro w H;refine J2 H ?_;refine GS H ?_;refine XC H ?_;refine ZB H ?_;replace H:=Js [2,2,3,3,3,2,2,2,0,0] 0 H;refine Jc rfl rfl (Pc p u (Uo region q s.tab ks) (s.mns.map Qx) k g e hk' q e.addr gi gq M1 N1 (by rw[her];exact hkM1') hkM2' hM1 hM2 hN1 (by omega) hkN H) ?_;clear H;rintro v w ⟨rfl,H⟩;rw[iE hk her] at H;refine J2 H ?_;subst hLB;replace H:=Js [5,0,0,0,0,0,0,0] 2 H;refine⟨rfl,_,H,fun w H=>⟨rfl,hin _ _ _ _ _ ⟨hM1.filter _,Nat.le_trans (length_filter_le _ _) hM2,FK hN1 hkN,fun j=>?_⟩ H⟩⟩;rw[FX,hN2,mem_append,mem_singleton];constructor
   ·rintro(h|h|h)
    ·exact .inl (.inr h)
    ·exact .inl (.inl h)
    ·exact .inr h
   ·rintro((h|h)|h)
    ·exact .inr (.inl h)
    ·exact .inl h
    ·exact .inr (.inr h)
  ·clear H;rintro v w H;obtain⟨M1,N1,⟨hM1,hM2,hN1,hN2⟩,H⟩:=hout _ _ _ H;subst hL;refine⟨_,H,fun w H=>?_⟩;replace H:=Js [0,0,0,1,1,1,3,3,4,4,4,4,4,4,4,4] 4 H;exact⟨rfl,D2,N1,rfl,hN1,hN2,rfl,rfl,rfl,H⟩
 clear H;rintro ms σ w ⟨D2,N',rfl,hN1,hN2,g1,g2,g7,H⟩;rw[Q1 g1,Q1 g2,Q1 g7];rw[iF hMm.2] at H;refine US H ?_;refine Q5 rfl (Xo (key:=region) H rfl rfl VC rfl ?_);clear H;intro w H;refine J2 H ?_;refine US H ?_;refine Q5 rfl (Xo (key:=region) H rfl rfl VC rfl ?_);clear H;intro w H;refine J2 H ?_
 have hkeyS:QD (s.sps.map VE) region=(c1++(q,bq,ZG S T)::c2).map VE:=by
  have h1:((s.sps.map VE).map (·.1)).Nodup:=by rw[map_map];show (s.sps.map fun z=>z.1).Nodup;rw[hw.skeys];exact hT.nd
  rw[hs1,map_append,map_cons] at h1 ⊢;rw[Wb (p:=(region,bi)) h1,← map_append,hs2,map_append,map_append,map_cons,map_cons]
 have hkeyM:QD (s.mns.map Qx) region=(e1++(q,gq,N')::e2).map Qx:=by
  have h1:((s.mns.map Qx).map (·.1)).Nodup:=by rw[map_map];show (s.mns.map fun z=>z.1).Nodup;rw[hw.mkeys];exact hT.nd
  rw[hm1,map_append,map_cons] at h1 ⊢;rw[Wb (p:=(region,gi)) h1,← map_append,hm2,map_append,map_append,map_cons,map_cons]
 rw[hkeyS,hkeyM] at H;replace H:=Js [7,8,0,0,0,0,0,0,0,0,0,0,0,0,0,0] 0 H;replace H:=(Q0.pick (R:=VJ u.sp) (x:=(q,bq,ZG S T)) (gs:=c1++(q,bq,ZG S T)::c2) (g1:=c1) (g2:=c2) rfl).2 H;replace H:=Js [4,6,0,0,0,0,0,0,0,0,0,0,0,0,0] 0 H;replace H:=(Q0.pick (R:=Qy) (x:=(q,gq,N')) (gs:=e1++(q,gq,N')::e2) (g1:=e1) (g2:=e2) rfl).2 H;have hwf:=fk hw hT.nd hne.symm hP hs1 hs2 hm1 hm2 hol hog hN1 hN2 s.rem;have hmem:Va { s with own:=own',tab:=s.tab.map (Zz region q),par:=par',rem:=s.rem,sps:=c1++(q,bq,ZG S T)::c2,mns:=e1++(q,gq,N')::e2 } mem:=fl hm hol rfl rfl;have hpart:Y1 s→Y1 { s with own:=own',tab:=s.tab.map (Zz region q),par:=par',rem:=s.rem,sps:=c1++(q,bq,ZG S T)::c2,mns:=e1++(q,gq,N')::e2 }:=fun h=>fm h (by rw[hw.skeys];exact hT.nd) hs1 hs2 rfl rfl rfl;have hnd:=B3 (H.pull 10);replace H:=Js [3,7,7,6,2,7,5,5,1,1,0,0,0,0] 0 H;replace H:=VR hwf hmem H;refine CU H ?_;refine GN H ?_;clear H;intro bS w H;replace H:Q0 w (pts bS (row 3 (Qg [q]++[]))::_):=H;replace H:=ZW (E:=3) (k:=1) (len:=1) (cap:=1) (c:=Qg [q]) (spare:=[]) rfl ⟨by decide,by decide⟩ (by decide) H;have hrec:=Pd p { s with own:=own',tab:=s.tab.map (Zz region q),par:=par',rem:=s.rem,sps:=c1++(q,bq,ZG S T)::c2,mns:=e1++(q,gq,N')::e2 } s.rem hnd _ [q] (fun x hx=>by rw[mem_singleton] at hx;subst hx;simp) (by simp) H;refine Jc rfl rfl (hrec) ?_;clear H hrec;rintro v w ⟨rfl,D,R',hD,hN,H⟩;refine J2 H ?_;refine Zl H ?_;refine J3 H ?_;replace H:=Js [3,0] 2 H;refine Q3 (R5 (ms:=[D2]) _ (.inr rfl) ((Q0.star (k:=[pts D2 (.deferred (some []))])).2 H) rfl fun w' H' => .inr ⟨hq0,rfl,{ s with own:=own',tab:=s.tab.map (Zz region q),par:=par',rem:=R',sps:=c1++(q,bq,ZG S T)::c2,mns:=e1++(q,gq,N')::e2 },⟨rfl,hol,rfl,rfl,hP,rfl,⟨D,fun r=>?_,⟨hN.nd,hN.on,hN.off⟩⟩,hpart⟩,H'⟩);rw[hD r];constructor
 ·rintro⟨k,g,e,h1,h2,h3⟩;exact⟨k,g,e,⟨g,e,h1,mem_singleton.1 h2⟩,h1,h3⟩
 ·rintro⟨k,g,e,⟨g',e',h1,h2⟩,h3,h4⟩;refine⟨k,g,e,h3,?_,h4⟩;have h1:=h1.symm.trans h3;injection h1 with h1
  injection h1 with _ h1
  injection h1 with h1
  rw[← h1,h2];exact mem_singleton.2 rfl
theorem iI [Q4] (p o sp owner owner2:Nat) (S T:QE) (size:Nat) (mem own:List Nat) {A B:List (Nat×Nat)} {c n:Nat} (hSp:S.parts=A++(c,n)::B) (hA:∀ y∈A,y.1≠c) (hn2:2≤n) (ho:1≤owner2) (hS:S.parts.length≤1000) (hT:T.parts.length≤1000) (h63:own.length≤63)
  (hcn:c+n≤own.length) (hown:∀ d,c≤d→d < c+n→own.getD d 0≠0) {w:World} {fr:List Q2} (H:Q0 w (Qn p sp owner S::Qn o sp owner2 T::ST sp size mem own::fr)) :
  Calls Tryz.prog 73 #[pp p,pp o,.int .i64 c] w (ret fun v w'=>v = .int .i64 0∧Q0 w' (Qn p sp owner { S with parts:=A++B }::Qn o sp owner2 { T with parts:=T.parts++[(c,n)] }::ST sp size mem (VV own c n owner2)::fr)):=by
 have hf:KQ S.parts c=some (c,n):=by
  unfold KQ;rw[hSp,find?_append,find?_eq_none.2 (fun y hy=>by simpa using hA y hy),find?_cons_of_pos (by simp)];rfl
 have hk:S.parts[A.length]? = some (c,n):=by rw[hSp,getElem?_append_right (Nat.le_refl _),Nat.sub_self];rfl
 have htk:S.parts.take A.length=A:=by rw[hSp,take_left'];rfl
 have hdr:S.parts.drop (A.length+1)=B:=by
  rw[hSp,show A++(c,n)::B=(A++[(c,n)])++B by simp,drop_left'];simp
 refine Q9 Tryz.func73 rfl (by kernel_rfl) ?_;refine Uy H ?_;refine Jc rfl rfl (Ou p o sp owner owner2 S T H) ?_;clear H;rintro v w ⟨rfl,H⟩;refine Yv H ?_;refine J9 H ?_;refine Jc rfl rfl (Iz p sp owner S c (by omega) H) ?_;clear H;rintro v w ⟨rfl,H⟩;rw[hf];refine Vj H ?_;clear H;intro b8 w H;refine J4 H ?_;clear H;intro w H;refine EY H ?_;refine UM H ?_;rw[show (((n:Nat):Int) == (1:Int))=false by rw[beq_eq_false_iff_ne];omega];refine Y7 H ?_;refine Gv H ?_;replace H:=Js [1,0] 0 H;refine Jc rfl rfl (Om p sp owner S A.length c n hk (by rw[htk];exact fun y hy h=>hA y hy (by rw[h])) (by omega) H) ?_;clear H;rintro v w ⟨rfl,H⟩;rw[htk,hdr] at H;refine J2 H ?_;refine Gv H ?_;replace H:=Js [2,2,0,0] 0 H;refine Jc rfl rfl (Ot o sp owner2 T size mem own c n ho (by omega) h63 (fun j hj=>⟨by omega,hown _ (by omega) (by omega)⟩) (by omega) (by omega) H) ?_;clear H;rintro v w ⟨rfl,H⟩;refine WW H ?_;replace H:=Js [2,0,0] 1 H;exact Q3 (Jy H rfl fun w' H'=>⟨rfl,H'⟩)
def D7 (S:QE) (d:Nat):Bool:=S.parts.any fun x=>decide (1 < x.2∧x.1≤d∧d < x.1+x.2)
theorem iJ [Q4] (p sp owner:Nat) (S:QE) (d:Nat) (hp:S.parts.length≤1000) (hb:∀ x∈S.parts,x.1+x.2≤1000) {w:World} {fr:List Q2} (H:Q0 w (Qn p sp owner S::fr)) :
  Calls Tryz.prog 69 #[pp p,.int .i64 d] w (ret fun v w'=>v = .bool (D7 S d)∧Q0 w' (Qn p sp owner S::fr)):=by
 obtain⟨a,c,H⟩:=GQ H;refine Q9 Tryz.func69 rfl (by kernel_rfl) ?_;refine Xt H ?_;refine Ka H ?_;replace H:=Js [1,0] 0 H;refine Ql (fun ms σ w z=>ms=[]∧∃ i:Nat,i≤S.parts.length∧z=S.parts.length - i∧(∀ y∈S.parts.take i,¬ (1 < y.2∧y.1≤d∧d < y.1+y.2))∧σ 1 = .int .i64 d∧σ 12 = .slice a S.parts.length c∧σ 13 = .int .i64 S.parts.length∧σ 14 = .int .i64 i∧Q0 w (QC 208 2 (.slice a S.parts.length c) (S.parts.flatMap Vk)::pts p (row 206 [pp sp,.int .i64 owner,.slice a S.parts.length c,.int .i64 S.at',.int .i64 S.fin])::fr)) (m:=S.parts.length) ⟨rfl,0,by omega,by omega,(fun y hy=>by simp at hy),rfl,rfl,rfl,rfl,H⟩ ?_;clear H;rintro ms σ w z ⟨rfl,i,hi,rfl,hno,g1,g12,g13,g14,H⟩;rw[Q1 g1,Q1 g12,Q1 g13,Q1 g14];refine J7 H ?_;refine Qk rfl (fun h=>QB ?_) (fun h=>Qq ?_)
 ·have hlt:i < S.parts.length:=by omega
  have hn:=getElem?_eq_getElem hlt;have htk:S.parts.take (i+1)=S.parts.take i++[S.parts[i]]:=by rw[take_add_one,hn];rfl
  have hmem:=getElem_mem hlt;generalize S.parts[i]=x at hn htk hmem;obtain⟨x1,x2⟩:=x;have hb0:x1+x2≤1000:=hb _ hmem;obtain⟨bT,sT,rfl,H,hcl⟩:=V5 H (by omega);have hrd:QV (S.parts.flatMap Vk++sT) (i*2+0) 2 (Vk (x1,x2)):=RU (vs:=Vk (x1,x2)) XS hn (by repeat first|exact .nil _|apply QV.cons rfl);have ei:0+((i:Nat):Int).toNat*2=i*2:=by simp
  refine YW H ?_;refine Jd ?_;rw[ei];refine Q5 rfl (VN H rfl hrd rfl ?_);refine VZ H ?_;clear H;intro b6 w H;refine J4 H ?_;clear H;intro w H;refine J2 H ?_;have hfin:∀ {w:World} {l:List Q2},Q0 w l→(1 < x2∧x1≤d∧d < x1+x2)→D7 S d=true:=fun _ h=>any_eq_true.2 ⟨_,hmem,decide_eq_true h⟩
  have hstep:¬ (1 < x2∧x1≤d∧d < x1+x2)→∀ y∈S.parts.take (i+1),¬ (1 < y.2∧y.1≤d∧d < y.1+y.2):=fun h y hy=>by
   rw[htk] at hy
   rcases mem_append.1 hy with hy|hy
   ·exact hno y hy
   ·rw[mem_singleton] at hy;subst hy;exact h
  replace H:=Js [1,0] 0 H;replace H:=hcl _ _ H;replace H:=Js [1,0] 0 H;refine Xq H ?_;by_cases h1:1 < x2
  ·rw[show decide (((x2:Nat):Int) > (1:Int))=true from decide_eq_true (by omega)];refine AQ H ?_;refine UM H ?_;by_cases h2:x1≤d
   ·rw[show decide (((d:Nat):Int)≥((x1:Nat):Int))=true from decide_eq_true (by omega)];refine Bd H ?_;refine HS H ?_;rw[Qb (x:=(x1:Int)+(x2:Int)) (by omega) (by omega)];refine Ym H ?_;by_cases h3:d < x1+x2
    ·rw[show decide (((d:Nat):Int) < (x1:Int)+(x2:Int))=true from decide_eq_true (by omega)];refine UO H ?_;rw[hfin H ⟨h1,h2,h3⟩];exact Q3 (Jy H rfl fun w' H'=>⟨rfl,ZQ H'.drop.swap⟩)
    ·rw[show decide (((d:Nat):Int) < (x1:Int)+(x2:Int))=false from decide_eq_false (by omega)];refine Rd H ?_;exact⟨_,⟨rfl,i+1,hlt,rfl,hstep (fun h=>h3 h.2.2),rfl,rfl,rfl,Qc (by omega),H.drop⟩,by omega⟩
   ·rw[show decide (((d:Nat):Int)≥((x1:Nat):Int))=false from decide_eq_false (by omega)];refine XI H ?_;refine KL H ?_;refine Rd H ?_;exact⟨_,⟨rfl,i+1,hlt,rfl,hstep (fun h=>h2 h.2.1),rfl,rfl,rfl,Qc (by omega),H.drop⟩,by omega⟩
  ·rw[show decide (((x2:Nat):Int) > (1:Int))=false from decide_eq_false (by omega)];refine E2 H ?_;refine XI H ?_;refine KL H ?_;refine Rd H ?_;exact⟨_,⟨rfl,i+1,hlt,rfl,hstep (fun h=>h1 h.1),rfl,rfl,rfl,Qc (by omega),H.drop⟩,by omega⟩
 ·have hge:i=S.parts.length:=by omega
  subst hge;rw[take_length] at hno;have hf:D7 S d=false:=any_eq_false.2 (fun y hy=>by simpa using hno y hy);rw[hf];refine VB H ?_;exact Q3 (Jy H rfl fun w' H'=>⟨rfl,ZQ H'.swap⟩)
end Go.Proofs.YtmjdnljneifpcaaGreatDoor
namespace Go.SL
open List
open Go.Op
section
variable {P:Program} {n:Nat} {r:Option Nat} {σ:QK} {w:World} {l:List Q2}
variable {t u:TypeId} {p:String} {af:Array Edge} {g:Option (Nat×Bool)} {d:Option Tmp} {x y z:Operand} {K:QK→World→Prop}
theorem iL [Q4] {e size bytes b o1 o2 m cap cap' E:Nat} {c vs:List Value} [hT:VH P t e size bytes] (H:Q0 w (pts b (row E c)::l)) (hx:ev σ x = .slice (some ⟨b,o1,none⟩) m cap) (hy:ev σ y = .slice (some ⟨b,o2,none⟩) m cap') (hrd:QV c o2 (m*size) vs) (hl:o1+m*size≤c.length) (h1:vs.all (·.oneCell')=true) (hd:Qj n d=true)
  (k:∀ w',Q0 w' (pts b (row E (wr c o1 vs))::l)→K (put σ d (.int .i64 m)) w'):St P n r ⟨d,.call { callee := .builtin .copy,args:=#[x,y],argTypes:=#[t,t] },u,p,af,g⟩ σ w K:=by
 have hs:(sizeOf e).run P w = .ok size w:=by
  obtain⟨k,hk,e2⟩:=Option.map_eq_some_iff.1 hT.info;simp only[Prod.mk.injEq] at e2;exact G3 (by rw[hk];simp[e2.1])
 have ev1:=hrd.len;have hbk:w.heap[b]? = some (.cells c.toArray E (0,0)):=H.pts
 have hfc:(Builtin.firstCells size m (.slice (some ⟨b,o2,none⟩) m cap')).run P w = .ok vs.toArray w:=by
  unfold Builtin.firstCells
  have:=run_loadCells_list (P:=P) (w:=w) ⟨b,o2,none⟩ vs (fun j v hj=>by
   rw[ZK];exact Zo hbk (hrd.get j v hj))
  rwa [ev1] at this
 obtain⟨w',hr,h2,h3,h4⟩:=BA (P:=P) vs w b o1 E c 0 H.pts (by omega) (all_eq_true.1 h1);rw[Nat.add_zero] at h2;have H':=H.set (o':=row E (wr c o1 vs)) h2 h3 h4;refine V9 (v := .int .i64 m) (w':=w') hd (fun c e=>by cases e) ?_ (k w' H');have hmin:Nat.min m m=m:=Nat.min_self m;simp[execOp,resolve,invoke,builtin,hx,hy,Builtin.copy_,Vs hT.und,Builtin.lenOf,hmin,hs,hfc,hr,goInt]
end
end Go.SL
namespace Go.Proofs.YtmjdnljneifpcaaGreatDoor
open List
open Go.SL
def XZ (l:List Nat) (a b n:Nat):List Nat:=l.take a++(l.drop b).take n++l.drop (a+n)
theorem Pf {l:List Nat} {a b n:Nat} (h1:a+n≤l.length) (h2:b+n≤l.length):(XZ l a b n).length=l.length:=by simp[XZ];omega
theorem iM {l:List Nat} {a b n:Nat} (h1:a+n≤l.length) (h2:b+n≤l.length) {i:Nat} (hi:i < n):(XZ l a b n)[a+i]? = l[b+i]?:=by
 unfold XZ;rw[append_assoc,getElem?_append_right (by simp;omega),getElem?_append_left (by simp;omega)];have e1:(l.take a).length=a:=by simp;omega
 rw[e1,Nat.add_sub_cancel_left,getElem?_take_of_lt hi,getElem?_drop]
theorem iN {l:List Nat} {a b n:Nat} (h1:a+n≤l.length) (h2:b+n≤l.length) {j:Nat} (hj:j < a∨a+n≤j):(XZ l a b n)[j]? = l[j]?:=by
 unfold XZ;rw[append_assoc]
 rcases hj with hj|hj
 ·rw[getElem?_append_left (by simp;omega),getElem?_take_of_lt hj]
 ·rw[getElem?_append_right (by simp;omega),getElem?_append_right (by simp;omega),getElem?_drop];congr 1;simp;omega
theorem iO [Q4] (p size:Nat) (mem own:List Nat) (a b n:Nat) (h1:1≤n) (h2:a+n≤mem.length) (h3:Gx size own a n) (h4:b+n≤mem.length) (h5:Gx size own b n) {w:World} {fr:List Q2} (H:Q0 w (ST p size mem own::fr)) :
  Calls Tryz.prog 139 #[pp p,.int .i64 a,.int .i64 b,.int .i64 n] w (ret fun v w'=>v = .int .i64 0∧Q0 w' (ST p size (XZ mem a b n) own::fr)):=by
 refine Q9 Tryz.func139 rfl (by kernel_rfl) ?_;refine MP H ?_;refine Vq H ?_;refine Jc rfl rfl (Am p size mem own a n h1 h2 h3 H) ?_;clear H;rintro v w ⟨rfl,H⟩;refine AA H ?_;refine Jc rfl rfl (Am p size mem own b n h1 h4 h5 H) ?_;clear H;rintro v w ⟨rfl,H⟩;refine KE H ?_;refine Y6 (fun ms σ w=>ms=[]∧σ 0=pp p∧σ 1 = .int .i64 a∧σ 2 = .int .i64 b∧σ 3 = .int .i64 n∧Q0 w (ST p size mem own::fr)) ?_ ?_
 ·refine QP ?_;refine WE H ?_;refine KF H ?_;refine WE H ?_;refine WH H ?_;exact .inl ⟨rfl,rfl,rfl,rfl,rfl,rfl,H⟩
 ·clear H;rintro ms σ w ⟨rfl,g0,g1,g2,g3,H⟩;rw[Q1 g0,Q1 g1,Q1 g2,Q1 g3];obtain⟨v,v2,u,ws,many,hok,H⟩:=UZ H;have H:=H.swap;have hmem:mem.length≤1048576:=by rw[hok.len];exact Nat.mul_le_mul hok.c2 hok.s2
  obtain⟨a1,c1,rfl⟩:=QF H (Z4 mem) (by decide)
  rcases GH H with ⟨h,_⟩|⟨bb,len,cap',s,h,e3,e4,e5,H⟩
  ·injection h with h4 h5 h6;omega
  injection h with h6 h7 h8
  subst h6 h7 h8;have hvl:(Qa ((mem.drop b).take n)).length=n:=by simp[Qa];omega
  have hrd:QV (Qa mem++s) (0+b*1) ((b+n - b)*1) (Qa ((mem.drop b).take n)):=by
   have e:(Qa ((mem.drop b).take n)).length=(b+n - b)*1:=by rw[hvl];omega
   rw[← e];refine QV.of_get fun j v hj=>?_;have hj':j < n:=by have:=(List.getElem?_eq_some_iff.1 hj).1;omega
   rw[getElem?_append_left (by simp[Qa];omega)];simp only[Qa,getElem?_map,getElem?_take_of_lt hj',getElem?_drop] at hj;simp only[Qa,getElem?_map,Nat.zero_add,Nat.mul_one];exact hj
  have hrd:QV (Qa mem++s) (0+b*1) ((a+n - a)*1) (Qa ((mem.drop b).take n)):=by
   rw[show a+n - a=b+n - b by omega];exact hrd
  have hs1:(Qa ((mem.drop b).take n)).all (·.oneCell')=true:=all_eq_true.2 fun v hv=>by
   simp only[Qa,mem_map] at hv;obtain⟨x,_,rfl⟩:=hv;rfl
  refine J1 H ?_;clear H;intro w H;refine Y3 H ?_;refine Jl 3 [18] H ?_;refine Us H ?_;refine Ja 6 ?_;refine Ja 7 ?_;rw[Qb (x:=(a:Int)+(n:Int)) (by omega) (by omega),show (a:Int)+(n:Int)=((a+n:Nat):Int) by omega];refine Ba 8 rfl (Q8.none rfl) rfl rfl rfl (by omega) (by omega) (by omega) (by kernel_rfl) ?_;refine Bo H ?_;refine Jl 12 [18] H ?_;refine Ja 13 ?_;refine Ja 14 ?_;refine Ja 15 ?_;refine Ja 16 ?_;rw[Qb (x:=(b:Int)+(n:Int)) (by omega) (by omega),show (b:Int)+(n:Int)=((b+n:Nat):Int) by omega];refine Ba 17 rfl (Q8.none rfl) rfl rfl rfl (by omega) (by omega) (by omega) (by kernel_rfl) ?_;rw[show b+n - b=a+n - a by omega];refine Jo 18 H ?_;refine iL H rfl rfl hrd (by simp only[length_append,Z4];omega) hs1 rfl ?_;clear H;intro w H;refine Bp H ?_;have hcl:(XZ mem a b n).length=mem.length:=Pf h2 h4
  have hwr:wr (Qa mem++s) (0+a*1) (Qa ((mem.drop b).take n))=Qa (XZ mem a b n)++s:=by
   rw[DN _ _ _ (by rw[hvl,length_append,Z4];omega),hvl];unfold XZ Qa;rw[Nat.zero_add,Nat.mul_one,take_append_of_le_length (by simp;omega),drop_append_of_le_length (by simp;omega)];simp[map_take,map_drop]
  rw[hwr] at H;exact Q3 (Jy (Gb (hok.mem hcl) (ZW (by rw[Z4,hcl]) e4 e5 H).swap) rfl fun w' H'=>⟨rfl,H'⟩)
theorem iP [Q4] (ip sp bp size:Nat) (ls:List QM) (mem own:List Nat) (to addr i c s n:Nat) (l:QM) (h:XT ls size mem own addr i c s n l) (hto:to+(n+1)≤mem.length) (ho:Gx size own to (n+1)) {w:World} {fr:List Q2} (H:Q0 w (Qt ip sp bp::Qh bp ls::ST sp size mem own::fr)) :
  Calls Tryz.prog 74 #[pp ip,.int .i64 to,.int .i64 addr] w (ret fun v w'=>v = .tuple #[.int .i64 ((n+1:Nat):Int),.int .i64 0]∧Q0 w' (Qt ip sp bp::Qh bp ls::ST sp size (XZ mem to addr (n+1)) own::fr)):=by
 have hf:=h.fit;refine Q9 Tryz.func74 rfl (by kernel_rfl) ?_;refine XL H ?_;refine Jc rfl rfl (We ip sp bp size ls mem own addr i c s n l h H) ?_;clear H;rintro v w ⟨rfl,H⟩;refine AJ H ?_;refine VZ H ?_;clear H;intro b8 w H;refine J4 H ?_;clear H;intro w H;refine C7 H ?_;refine Yd H ?_;refine AA H ?_;replace H:=Js [3,0,0,0] 0 H;refine Jc rfl rfl (iO sp size mem own to addr (n+1) (by omega) hto ho (by omega) h.owned H) ?_;clear H;rintro v w ⟨rfl,H⟩;refine Yv H ?_;refine VX H ?_;replace H:=Js [2,2,0] 1 H;exact Q3 (Jy H rfl fun w' H'=>⟨rfl,H'⟩)
theorem iS {T:QE} (h:T.at'≤T.fin):ZG ⟨[],0,0⟩ T=T:=by
 obtain⟨ps,x,y⟩:=T;have h:x≤y:=h;unfold ZG;by_cases h0:y=0
 ·subst h0;obtain rfl:x=0:=by omega
  rfl
 ·show QE.mk _ (if y=0 then 0 else x) (if y=0 then 0 else y)=_;rw[if_neg h0,if_neg h0];rfl
theorem D8:GD Tryz.prog 69 kp:=Lt inferInstance
set_option maxRecDepth 10000 in
theorem iT [Q4] (p:Nat) (s:CS) (r:Nat) (hid:(QY s.par (r:Int)).isSome=true) (hT:Z0 s.par) (hP:Y1 s) (hlast:s.last+1 < 1000000) (v:Value) (l:List (Nat×Nat)) (hl:l.length≤1000) {w:World} {fr:List Q2} [hTab:YX 0 Lib.deBruijn64tab fr] (H:Q0 w (QA p s::VW v l::fr)) :
  Calls Tryz.prog 20 #[pp p,.int .i64 r,v] w (ret fun x w'=>
   (Zg s r l≠0∧x = .tuple #[.int .i64 0,.int .i64 (Zg s r l:Nat)]∧Q0 w' (QA p s::VW v l::fr)) ∨
   (Zg s r l=0∧x = .tuple #[.int .i64 0,.int .i64 11]∧s.own.length - (s.own.filter (· != 0)).length < l.length∧Q0 w' (QA p s::VW v l::fr)) ∨
   (Zg s r l=0∧x = .tuple #[.int .i64 ((s.last+1:Nat):Int),.int .i64 0]∧∃ (Z:List Pl) (s':CS),Z.map (fun z=>(z.k,z.g))=l∧BZ s r Z s'∧Q0 w' (QA p s'::VW v l::fr))):=by
 obtain⟨a,c,rfl⟩:=QF H.drop (Rv l) (by decide);obtain⟨u,mem,hw,hm,H⟩:=Vv H;have hr1:=D0 hT hid;refine Q9 Tryz.func20 rfl (by kernel_rfl) ?_;refine J5 H ?_;replace H:=Js [5,0,0,0,0,0,0,0,0,0,0,0] 0 H;refine J9 H ?_;refine Jc rfl rfl (Fb p u s.last s.par r H) ?_;clear H;rintro v w ⟨rfl,H⟩;rw[if_pos hid];refine Yv H ?_;replace H:=Js [5,1,0,8,0,0,0,0,0,0,0,0] 0 H;refine Vq H ?_;refine Jc rfl rfl (iR p u s r (.slice a l.length c) l hl H) ?_;clear H;rintro v w ⟨rfl,H⟩;refine YA H ?_;by_cases hc:Zg s r l=0
 case neg=>
  rw[show (((Zg s r l:Nat):Int) != 0)=true by rw[bne_iff_ne];omega];refine EZ H ?_;replace H:=Js [1,3,3,3,0,0,1,1,1,1,1,0] 0 H;exact Q3 (Jy H rfl fun w' H' => .inl ⟨hc,rfl,VR hw hm H'⟩)
 rw[hc];refine V6 H ?_;have hrk:(r:Int)∈s.par.map (·.1):=Wf hid;obtain⟨b0,hkS⟩:=X8 (l:=s.sps) (f:=fun x=>x.1) (g:=fun x=>x.2.1) (k:=(r:Int)) (by rw[hw.skeys];exact hrk);obtain⟨⟨r1,b0',S⟩,p1,p2,hsps,hs1,hs2⟩:=X7 hkS;have hs1:r1=(r:Int):=hs1;have hs2:b0'=b0:=hs2;subst hs1 hs2;obtain⟨c0,hkM⟩:=X8 (l:=s.mns) (f:=fun x=>x.1) (g:=fun x=>x.2.1) (k:=(r:Int)) (by rw[hw.mkeys];exact hrk);obtain⟨⟨r2,c0',M⟩,m1,m2,hmns,hs3,hs4⟩:=X7 hkM;have hs3:r2=(r:Int):=hs3;have hs4:c0'=c0:=hs4;subst hs3 hs4;have hkS':QY (s.sps.map VE) (r:Int)=some b0':=hkS;have hkM':QY (s.mns.map Qx) (r:Int)=some c0':=hkM;have hSm:((r:Int),b0',S)∈s.sps:=by rw[hsps];simp
 obtain⟨t1,t2,t3,t4,t5,t6⟩:=BQ hw hSm;have t1:S.parts.length≤63:=t1;have t2:∀ x∈S.parts,1≤x.2∧x.1+x.2≤s.own.length:=t2;have ho:=hw.own.2;have hsz:=hw.size;refine VQ H ?_;refine Q5 rfl (ZR (key:=(r:Int)) H rfl rfl VC rfl ?_);rw[hkS'];refine J0 H ?_;refine VQ H ?_;refine Jc rfl rfl (IY u.sp r (by omega) H) ?_;clear H;rintro w0 w ⟨bt,rfl,H⟩;refine Zs H ?_;replace H:=Js [7,0,0,0,0,0,0,0,0,0,0,0,0] 0 H;refine Yd H ?_;refine Jc rfl rfl (CB u.sp s.size mem s.own H) ?_;clear H;rintro v w ⟨rfl,H⟩;refine J0 H ?_;refine G5 H ?_;refine Q5 rfl (KA v1 kp H rfl ?_);clear H;intro bat w H;refine Dx H ?_;replace H:=Js [11,0,0,0,0,0,0,0,0,0,0,0,0,0] 0 H;replace H:Q0 w (Qn b0' u.sp r S::star ((p1++p2).map (VJ u.sp))::_):=(Q0.pick (R:=VJ u.sp) (x:=((r:Int),b0',S)) hsps).1 H;replace H:=Js [8,5,5,0,3,2,3,3,1,1,1,1,0,0,0] 0 H
 have hchk:ZX s.tab r [] l=0:=by
  unfold Zg at hc;split at hc
  ·cases hc
  ·split at hc
   ·rename_i h1 h2;exact absurd hc h2
   ·rename_i h1 h2;exact Classical.not_not.1 h2
 obtain⟨hall,hnodl⟩:=Fa hchk;have hmml:=hm.len;refine J6 H ?_
 refine Y6 (fun ms σ w=>ms=[]∧∃ (Z:List Pl) (own' mem':List Nat) (T:QE) (at':List ((Int×Int)×Int)),Z.map (fun z=>(z.k,z.g))=l∧(∀ z∈Z,s.tab[z.k]? = some ⟨z.g,some z.e⟩∧z.e.region=(r:Int))∧YT s r S Z mem own' mem' T∧(∀ z∈Z,QY at' ((z.k:Int),(z.g:Int))=some (z.a:Int)) ∧
  σ 0=pp p∧σ 1 = .int .i64 r∧σ 2 = .slice a l.length c∧σ 10=pp b0'∧σ 11=pp bt∧σ 13 = .int .i64 s.size∧σ 14 = .map (some bat)∧Q0 w (VW (.slice a l.length c) l::Qi u.tp s.tab::Qv p u::Qn b0' u.sp r S::Qn bt u.sp r T::ST u.sp s.size mem' own'::Qt u.ip u.sp u.bp::Qh u.bp s.lays::mp kp v1 bat at'::Qf u.trp s.last s.par::RS u.rp s.rem::mp (ki .i64) Qp u.sm (s.sps.map VE)::star ((p1++p2).map (VJ u.sp))::mp (ki .i64) Qp u.mm (s.mns.map Qx)::star (s.mns.map Qy)::fr)) ?_ ?_
 ·refine QP ?_
  refine Ql (fun ms σ w z=>ms=[]∧∃ (i:Nat) (Z:List Pl) (own' mem':List Nat) (T:QE) (at':List ((Int×Int)×Int)),i≤l.length∧z=l.length - i∧Z.map (fun z=>(z.k,z.g))=l.take i∧(∀ z∈Z,s.tab[z.k]? = some ⟨z.g,some z.e⟩∧z.e.region=(r:Int))∧YT s r S Z mem own' mem' T∧(∀ z∈Z,QY at' ((z.k:Int),(z.g:Int))=some (z.a:Int)) ∧
   σ 0=pp p∧σ 1 = .int .i64 r∧σ 2 = .slice a l.length c∧σ 10=pp b0'∧σ 11=pp bt∧σ 13 = .int .i64 s.size∧σ 14 = .map (some bat)∧σ 66 = .slice a l.length c∧σ 67 = .int .i64 l.length∧σ 68 = .int .i64 i∧Q0 w (VW (.slice a l.length c) l::Qi u.tp s.tab::Qv p u::Qn b0' u.sp r S::Qn bt u.sp r T::ST u.sp s.size mem' own'::Qt u.ip u.sp u.bp::Qh u.bp s.lays::mp kp v1 bat at'::Qf u.trp s.last s.par::RS u.rp s.rem::mp (ki .i64) Qp u.sm (s.sps.map VE)::star ((p1++p2).map (VJ u.sp))::mp (ki .i64) Qp u.mm (s.mns.map Qx)::star (s.mns.map Qy)::fr)) (m:=l.length) ⟨rfl,0,[],s.own,mem,⟨[],0,0⟩,[],by omega,by omega,rfl,(fun z hz=>(by cases hz)),YT.start s r S mem,(fun z hz=>(by cases hz)),rfl,rfl,rfl,rfl,rfl,rfl,rfl,rfl,rfl,rfl,H⟩ ?_
  clear H;rintro ms σ w z ⟨rfl,i,Z,own',mem',T,at',hi,rfl,hZ,hents,hA,hat,g0,g1,g2,g10,g11,g13,g14,g66,g67,g68,H⟩;rw[Q1 g0,Q1 g1,Q1 g2,Q1 g10,Q1 g11,Q1 g13,Q1 g14,Q1 g66,Q1 g67,Q1 g68];refine J7 H ?_;refine Qk rfl (fun h=>QB ?_) (fun h=>Qq ?_)
  ·have hlt:i < l.length:=by omega
   have hx:=getElem?_eq_getElem hlt;have htk:l.take (i+1)=l.take i++[l[i]]:=by rw[take_add_one,hx];rfl
   have hmem:=getElem_mem hlt
   have hnt:l[i]∉l.take i:=fun hh=>by
    obtain⟨j,hj⟩:=getElem?_of_mem hh;rw[getElem?_take] at hj;split at hj
    ·rename_i hji;obtain⟨hj1,hj2⟩:=List.getElem?_eq_some_iff.1 hj;exact(pairwise_iff_getElem.1 hnodl) j i hj1 hlt hji hj2
    ·cases hj
   generalize l[i]=tt at hx htk hmem hnt;obtain⟨k,n⟩:=tt;obtain⟨⟨e,hk,hheld,hreg,hpin⟩,_⟩:=hall _ hmem;have hk:s.tab[k]? = some ⟨n,some e⟩:=hk;have hL:Qd s.tab k n=some (k,e):=BU hk;obtain⟨bT,sT,rfl,H,hcl⟩:=V5 H (by omega);refine YW H ?_;refine Jd ?_;refine Q5 rfl (VN H rfl (Ku hx) rfl ?_);refine VZ H ?_;clear H;intro b16 w H;refine J4 H ?_;clear H;intro w H;refine J2 H ?_;replace H:=Js [1,0] 0 H;replace H:=hcl _ _ H;replace H:Q0 w (VW (.slice (some ⟨bT,0,none⟩) l.length c) l::pts b16 (row 69 [.int .i64 k,.int .i64 n])::_):=H;replace H:=Js [2,1,0,0,0,0,0,0,0,0] 0 H;refine J6 H ?_;refine Qo (fun ms σ w=>ms=[]∧∃ b17,σ 0=pp p∧σ 1 = .int .i64 r∧σ 2 = .slice (some ⟨bT,0,none⟩) l.length c∧σ 10=pp b0'∧σ 11=pp bt∧σ 13 = .int .i64 s.size∧σ 14 = .map (some bat)∧σ 16=pp b16∧σ 17=pp b17∧σ 66 = .slice (some ⟨bT,0,none⟩) l.length c∧σ 67 = .int .i64 l.length∧σ 68 = .int .i64 i∧Q0 w (Qi u.tp s.tab::pts b17 (row 113 (Vg e))::pts b16 (row 69 [.int .i64 k,.int .i64 n])::VW (.slice (some ⟨bT,0,none⟩) l.length c) l::Qv p u::Qn b0' u.sp r S::Qn bt u.sp r T::ST u.sp s.size mem' own'::Qt u.ip u.sp u.bp::Qh u.bp s.lays::mp kp v1 bat at'::Qf u.trp s.last s.par::RS u.rp s.rem::mp (ki .i64) Qp u.sm (s.sps.map VE)::star ((p1++p2).map (VJ u.sp))::mp (ki .i64) Qp u.mm (s.mns.map Qx)::star (s.mns.map Qy)::fr)) ?_ ?_
   ·refine J1 H ?_;clear H;intro w H;refine RP H ?_;refine Jw 5 9 H rfl rfl (V1 (a:=[]) (b:=[]) rfl rfl (call (Zb u.tp s.tab k n H) ?_)) (Vo H rfl ?_)
    ·clear H;rintro v w ⟨rfl,H⟩;rw[hL];refine RT H ?_;clear H;intro b17 w H;refine Ra H ?_;clear H;intro w H;refine GP H ?_;replace H:=Js [1,0] 0 H;exact⟨rfl,rfl,b17,rfl,rfl,rfl,rfl,rfl,rfl,rfl,rfl,rfl,rfl,rfl,rfl,H⟩
    ·clear H;intro b17 w H;refine Jo 5 H ?_;refine Jk rfl rfl (Zb u.tp s.tab k n H.swap) ?_;clear H;rintro v w ⟨rfl,H⟩;rw[hL];refine Rb H ?_;clear H;intro w H;refine GP H ?_;exact⟨rfl,rfl,b17,rfl,rfl,rfl,rfl,rfl,rfl,rfl,rfl,rfl,rfl,rfl,rfl,H⟩
   clear H;rintro ms σ w ⟨rfl,b17,g0,g1,g2,g10,g11,g13,g14,g16,g17,g66,g67,g68,H⟩;rw[Q1 g0,Q1 g1,Q1 g2,Q1 g10,Q1 g11,Q1 g13,Q1 g14,Q1 g16,Q1 g17,Q1 g66,Q1 g67,Q1 g68];refine Gv H ?_;refine ZB H ?_;refine Q5 rfl (XW (ek:=kp) (vv:=v1) (v:=((e.addr:Nat):Int)) (key:=(((k:Nat):Int),((n:Nat):Int))) H rfl rfl rfl D8 rfl ?_);clear H;intro w H;refine J2 H ?_;replace H:=Js [5,0,0,0,0,0] 0 H
   have hfit:e.addr < 9223372036854775808:=by
    have h1:=(hw.obj k n e hk).2.1.1;have h2:=Nat.mul_le_mul ho hsz.2;unfold QJ at h1;omega
   refine YY H ?_;refine AL H ?_
   refine UD (v := .int .i64 ((e.addr / s.size:Nat):Int)) (by
    show (if IntKind.i64=IntKind.i64 then (if ((s.size:Nat):Int)=0 then none else some (Value.int IntKind.i64 (IntKind.i64.wrap (Int.tdiv ((e.addr:Nat):Int) ((s.size:Nat):Int))))) else none)=_;rw[if_pos rfl,if_neg (by omega),Ri hfit]) rfl ?_
   refine Jc rfl rfl (iJ b0' u.sp r S (e.addr / s.size) (by omega) (fun x hx=>by have:=(t2 x hx).2;omega) H) ?_;clear H;rintro v w ⟨rfl,H⟩;refine J2 H ?_
   have hins:∀ (v:Int) (z:Pl),z∈Z→QY (Vy at' (((k:Nat):Int),((n:Nat):Int)) v) ((z.k:Int),(z.g:Int))=QY at' ((z.k:Int),(z.g:Int)):=fun v z hz=>by
    rw[U5,if_neg];intro h1;injection h1 with h1 h2
    have h3:(z.k,z.g)∈l.take i:=by rw[← hZ];exact mem_map.2 ⟨z,hz,rfl⟩
    have h4:k=z.k:=by omega
    have h5:n=z.g:=by omega
    subst h4 h5;exact hnt h3
   cases hb:G0 S s.size e with
   | true=>
    have hb':D7 S (e.addr / s.size)=true:=hb;rw[hb'];refine VM H ?_;refine Qq ?_;replace H:=Js [4,1,3,0,2,2,2,2,2] 2 H;show C _ _ _ _ _ _ _ _;refine J5 H ?_;refine⟨_,⟨rfl,i+1,Z++[⟨k,n,e,e.addr⟩],own',mem',T,_,hlt,rfl,by rw[map_append,hZ,htk];rfl,(fun z hz=>?_),hA.big hb rfl,(fun z hz=>?_),rfl,rfl,rfl,rfl,rfl,rfl,rfl,rfl,rfl,Qc (by omega),H⟩,by omega⟩
    ·rcases mem_append.1 hz with hz|hz
     ·exact hents z hz
     ·rw[mem_singleton] at hz;subst hz;exact⟨hk,hreg⟩
    ·rcases mem_append.1 hz with hz|hz
     ·rw[hins _ z hz];exact hat z hz
     ·rw[mem_singleton] at hz;subst hz;rw[U5,if_pos rfl]
   | false=>
    have hb':D7 S (e.addr / s.size)=false:=hb;rw[hb'];refine V6 H ?_;have hImg:=hA.img hw (by omega) hm hk;have hlen1:e.ws.length+1≤s.size:=gZ hw hT.nd hP hk (by rw[hreg];exact hSm) hb;replace H:=Js [8,8,7,0,0,0,0,0,0,0,0] 0 H;refine J6 H ?_;refine Qo (fun ms σ w=>ms=[]∧σ 0=pp p∧σ 1 = .int .i64 r∧σ 2 = .slice (some ⟨bT,0,none⟩) l.length c∧σ 10=pp b0'∧σ 11=pp bt∧σ 13 = .int .i64 s.size∧σ 14 = .map (some bat)∧σ 16=pp b16∧σ 17=pp b17∧σ 20 = .int .i64 ((e.ws.length+1:Nat):Int)∧σ 66 = .slice (some ⟨bT,0,none⟩) l.length c∧σ 67 = .int .i64 l.length∧σ 68 = .int .i64 i∧Q0 w (Qt u.ip u.sp u.bp::Qh u.bp s.lays::ST u.sp s.size mem' own'::Qn b0' u.sp r S::Qi u.tp s.tab::pts b17 (row 113 (Vg e))::pts b16 (row 69 [.int .i64 k,.int .i64 n])::VW (.slice (some ⟨bT,0,none⟩) l.length c) l::Qv p u::Qn bt u.sp r T::mp kp v1 bat (Vy at' (((k:Nat):Int),((n:Nat):Int)) ((e.addr:Nat):Int))::Qf u.trp s.last s.par::RS u.rp s.rem::mp (ki .i64) Qp u.sm (s.sps.map VE)::star ((p1++p2).map (VJ u.sp))::mp (ki .i64) Qp u.mm (s.mns.map Qx)::star (s.mns.map Qy)::fr)) ?_ ?_
    ·refine J1 H ?_;clear H;intro w H;refine Y3 H ?_;refine Jl 3 [6,12] H ?_;refine Jf 4 ?_;refine Jl 5 [6,12] H ?_;refine Jw 6 11 H rfl rfl (V1 (a:=[]) (b:=[]) rfl rfl (call (We u.ip u.sp u.bp s.size s.lays mem' own' e.addr e.lay e.count k e.ws.length (QN s e) hImg H) ?_)) (Vo H rfl ?_)
     ·clear H;rintro v w ⟨rfl,H⟩;refine Ae H ?_;refine Af H ?_;clear H;intro b19 w H;refine Uz H ?_;clear H;intro w H;refine Kf H ?_;replace H:=Js [1,1,1] 1 H;exact⟨rfl,rfl,rfl,rfl,rfl,rfl,rfl,rfl,rfl,rfl,rfl,rfl,rfl,rfl,rfl,H⟩
     ·clear H;intro b19 w H;replace H:=Js [1,1,1,0] 0 H;refine Jo 6 H ?_;refine Jk rfl rfl (We u.ip u.sp u.bp s.size s.lays mem' own' e.addr e.lay e.count k e.ws.length (QN s e) hImg H) ?_;clear H;rintro v w ⟨rfl,H⟩;refine Ae H ?_;refine Uz H ?_;clear H;intro w H;refine Kf H ?_;replace H:=Js [0,0,0] 1 H;exact⟨rfl,rfl,rfl,rfl,rfl,rfl,rfl,rfl,rfl,rfl,rfl,rfl,rfl,rfl,rfl,H⟩
    clear H;rintro ms σ w ⟨rfl,g0,g1,g2,g10,g11,g13,g14,g16,g17,g20,g66,g67,g68,H⟩;rw[Q1 g0,Q1 g1,Q1 g2,Q1 g10,Q1 g11,Q1 g13,Q1 g14,Q1 g16,Q1 g17,Q1 g20,Q1 g66,Q1 g67,Q1 g68];obtain⟨v1',v2',v3',v4'⟩:=hA.bnd hw;replace H:=Js [9,2,0,0,0,0,0,0,0,0,0] 0 H;refine J9 H ?_;refine Jc rfl rfl (NV bt u.sp r s.size (e.ws.length+1) T mem' own' (by omega) (by omega) (by omega) hA.at1 (by omega) (by rw[hA.ol];exact ho) hsz.1 hsz.2 (by omega) H) ?_;clear H;rintro v w (⟨a2,own2,mem2,T2,rfl,al,H⟩|⟨rfl,hfull,H⟩)
    ·refine HJ H ?_;refine U8 H ?_;refine Gv H ?_;refine Jv ?_;refine Q5 rfl (XW (ek:=kp) (vv:=v1) (v:=((a2:Nat):Int)) (key:=(((k:Nat):Int),((n:Nat):Int))) H rfl rfl rfl D8 rfl ?_);clear H;intro w H;refine J2 H ?_;replace H:=Js [8,5,7,4,0,0,0,0,2] 2 H;refine J5 H ?_;refine⟨_,⟨rfl,i+1,Z++[⟨k,n,e,a2⟩],own2,mem2,T2,_,hlt,rfl,by rw[map_append,hZ,htk];rfl,(fun z hz=>?_),hA.small hw (by omega) hmml (z:=⟨k,n,e,a2⟩) hb hlen1 al,(fun z hz=>?_),rfl,rfl,rfl,rfl,rfl,rfl,rfl,rfl,rfl,Qc (by omega),H⟩,by omega⟩
     ·rcases mem_append.1 hz with hz|hz
      ·exact hents z hz
      ·rw[mem_singleton] at hz;subst hz;exact⟨hk,hreg⟩
     ·rcases mem_append.1 hz with hz|hz
      ·rw[U5,if_neg,hins _ z hz]
       ·exact hat z hz
       ·intro h1;injection h1 with h1 h2
        have h3:(z.k,z.g)∈l.take i:=by rw[← hZ];exact mem_map.2 ⟨z,hz,rfl⟩
        have h4:k=z.k:=by omega
        have h5:n=z.g:=by omega
        subst h4 h5;exact hnt h3
      ·rw[mem_singleton] at hz;subst hz;rw[U5,if_pos rfl]
    ·refine Br H ?_;refine VM H ?_;refine YY H ?_;refine Jc rfl rfl (Oo bt u.sp r T s.size mem' own' (fun x hx=>by obtain⟨y1,y2⟩:=hA.parts x hx;have:=(List.getElem?_eq_some_iff.1 y2).1;rw[hA.ol];omega) hA.nd (fun d hd=>by rw[hA.og,if_pos hd];omega) v1' (by omega) (by rw[hA.ol];exact ho) hsz.2 v3' H) ?_;clear H;rintro v w ⟨rfl,own3,ho3,hg3,H⟩;have hown3:=hA.undo hw ho3 hg3;subst hown3;refine WB H ?_;replace H:=Js [3,12,7,1,1,0,0,4,4,4,4,4,2] 3 H;replace H:=(Q0.pick (R:=VJ u.sp) (x:=((r:Int),b0',S)) hsps).2 H;replace H:=Js [1,1,1,1,1,1,1,1,0,0,0,0] 0 H;replace H:=VR hw (P9 hw hA hm rfl rfl rfl) H
     have hZl:Z.length=i:=by
      have:=congrArg List.length hZ;rw[length_map,length_take] at this;omega
     have hfree:s.own.length - (s.own.filter (· != 0)).length≤Z.length:=hA.full hw fun a ha=>by
      have hz:(e.ws.length+1 - 1) / s.size=0:=Nat.div_eq_of_lt (by omega);rw[hz] at hfull;obtain⟨j,j1,j2,j3⟩:=hfull a (by omega);have:j=a:=by omega
      rw[← this];exact j3
     exact Q3 (.inr ⟨by simp,Jy H rfl fun w' H' => .inr (.inl ⟨rfl,rfl,by omega,H'⟩)⟩)
  ·obtain rfl:i=l.length:=by omega
   rw[take_length] at hZ;exact .inl ⟨rfl,rfl,Z,own',mem',T,at',hZ,hents,hA,hat,rfl,rfl,rfl,rfl,rfl,rfl,rfl,H⟩
 clear H;rintro ms σ w ⟨rfl,Z,own',mem',T,at',hZ,hents,hA,hat,g0,g1,g2,g10,g11,g13,g14,H⟩;rw[Q1 g0,Q1 g1,Q1 g2,Q1 g10,Q1 g11,Q1 g13,Q1 g14]
 have hl64:s.par.length≠64:=by
  unfold Zg at hc;intro h;rw[if_neg (fun h1=>by rw[if_pos h1] at hc;cases hc),if_neg (fun h1=>h1 hchk),if_pos h] at hc;cases hc
 have hae:Z9 s.par r=0:=by
  unfold Z9;rw[if_neg (fun h=>by rw[hid] at h;cases h.2),if_neg hl64]
 obtain⟨v1',v2',v3',v4'⟩:=hA.bnd hw;replace H:=Js [9,0,0,0,0,0,0,0,0,0] 0 H;refine VQ H ?_;refine Jc rfl rfl (N5 u.trp s.last s.par r (by omega) (fun x q hx=>(hw.par.2.2 x q hx).2) H) ?_;clear H;rintro w0 w (⟨h1,_,_⟩|⟨_,rfl,H⟩)
 ·exact absurd hae h1
 refine Zs H ?_;refine VQ H ?_;refine Jc rfl rfl (IY u.sp (s.last+1) (by omega) H) ?_;clear H;rintro w0 w ⟨bs,rfl,H⟩;refine Zs H ?_
 have hup:((s.last+1:Nat):Int)∉s.par.map (·.1):=fun h=>by
  obtain⟨⟨x,q⟩,h1,h2⟩:=mem_map.1 h;have h2:x=((s.last+1:Nat):Int):=h2;have:=(hw.par.2.2 x q h1).2;omega
 have hkn1:((s.last+1:Nat):Int)∉(s.sps.map VE).map (·.1):=by rw[map_map];show _∉s.sps.map fun z=>z.1;rw[hw.skeys];exact hup
 have hkn2:((s.last+1:Nat):Int)∉(s.mns.map Qx).map (·.1):=by rw[map_map];show _∉s.mns.map fun z=>z.1;rw[hw.mkeys];exact hup
 replace H:=Js [12,0,0,0,0,0,0,0,0,0,0,0,0,0,0] 0 H;obtain⟨es1,ct1,hmo1,H⟩:=MI H;replace H:=Js [14,0,0,0,0,0,0,0,0,0,0,0,0,0,0] 0 H;obtain⟨es2,ct2,hmo2,H⟩:=MI H;refine J1 H ?_;clear H;intro w H;refine Y3 H ?_;refine Jl 3 [12,14,15,17] H ?_;refine Dp H ?_;refine Jl 8 [12,14,15,17] H ?_;refine Ja 9 ?_;refine Ja 10 ?_;refine Jo 11 H ?_;refine Jk rfl rfl (IU H) ?_;clear H;rintro w0 w ⟨bm,rfl,H⟩;replace H:=Js [2,0,0] 0 H;refine Jo 12 H ?_;refine ML (ek:=ki .i64) (vv:=Qp) (key:=((s.last+1:Nat):Int)) H hmo1 hkn1 rfl rfl VC rfl ?_;clear H;intro w H;refine Ja 13 ?_;refine Jo 14 H ?_;refine MM H hmo1.born rfl rfl rfl rfl ?_;clear H;intro w H;replace H:=MJ (hmo1.push hkn1 bs) H;replace H:=Js [2,0,0] 0 H;refine Jo 15 H ?_;refine ML (ek:=ki .i64) (vv:=Qp) (key:=((s.last+1:Nat):Int)) H hmo2 hkn2 rfl rfl VC rfl ?_;clear H;intro w H;refine Ja 16 ?_;refine Jo 17 H ?_;refine MM H hmo2.born rfl rfl rfl rfl ?_;clear H;intro w H;replace H:=MJ (hmo2.push hkn2 bm) H;refine Jx H ?_;replace H:=Js [3,8,8,0,0,0,0,0,0,0,0] 0 H;refine J9 H ?_
 have hTn:∀ x∈T.parts,1≤x.2∧x.1+x.2≤own'.length:=fun x hx=>by
  obtain⟨y1,y2⟩:=hA.parts x hx;have:=(List.getElem?_eq_some_iff.1 y2).1;rw[hA.ol];omega
 have hJ:=Ov bs bt u.sp (s.last+1) r ⟨[],0,0⟩ T s.size mem' own' (by omega) (by simp) (by omega) (by rw[hA.ol];exact ho) hTn (fun d hd=>by rw[hA.og,if_pos hd];omega) H;refine Jc rfl rfl (hJ) ?_;clear H hJ;rintro w0 w ⟨rfl,own2,hol2,hog2,H⟩;rw[iS hA.at1] at H;refine J2 H ?_;refine UV H ?_;obtain⟨s1,hs1e⟩:∃ x:CS,x={ s with own:=own2,last:=s.last+1,par:=s.par++[(((s.last+1:Nat):Int),(r:Int))],sps:=s.sps++[(((s.last+1:Nat):Int),bs,T)],mns:=s.mns++[(((s.last+1:Nat):Int),bm,[])] }:=⟨_,rfl⟩;have hol3:own2.length=s.own.length:=hol2.trans hA.ol;have hw1:WF s1:=by rw[hs1e];exact gU hw hA (by have:=hw.par.1;omega) hlast hol2 hog2 bs bm
 have hm1:Va s1 mem':=by rw[hs1e];exact P9 hw hA hm hol3 rfl rfl
 have hkeys:(Z.map Pl.k).Nodup:=by
  have h1:=gb hchk;rw[← hZ,map_map] at h1;exact h1
 have hB1:Um s r (s.last+1) [] Z s1 S T:=by rw[hs1e];exact gA hw hT.nd hP hSm hA hents hkeys hol3 (gW hA hol2 hog2) bs bm
 have hsp1:s1.sps=p1++((r:Int),b0',S)::(p2++[(((s.last+1:Nat):Int),bs,T)]):=by rw[hs1e];show s.sps++_=_;rw[hsps];simp
 have hmn1:s1.mns=m1++((r:Int),c0',M)::(m2++[(((s.last+1:Nat):Int),bm,[])]):=by rw[hs1e];show s.mns++_=_;rw[hmns];simp
 have hZl:Z.length=l.length:=by rw[← hZ,length_map]
 have hkMr:QY (s.mns.map Qx++[(((s.last+1:Nat):Int),bm)]) (r:Int)=some c0':=by
  rw[← Xl hkn2,U5,if_neg (fun h=>hup (by rw[h];exact hrk))];exact hkM'
 have hkMi:QY (s.mns.map Qx++[(((s.last+1:Nat):Int),bm)]) ((s.last+1:Nat):Int)=some bm:=by rw[← Xl hkn2,U5,if_pos rfl]
 have hown1:s1.own=own2:=by rw[hs1e]
 have htab1:s1.tab=s.tab:=by rw[hs1e]
 replace H:=Js [16,0,0,0,0,0,0,0,0,0,0,0,0,0,0,0,0] 0 H;replace H:Q0 w (Qu c0' M::star ((m1++m2).map Qy)::_):=(Q0.pick (R:=Qy) (x:=((r:Int),c0',M)) hmns).1 H;replace H:=Js [9,9,9,5,0,5,6,1,2,4,4,4,3,3,2,2,0,0] 0 H;replace H:=Js [0,0,0,0,0,0,0,0,0,0,0,0,0,0,0,0,0] 1 H;refine J6 H ?_;refine Qo (fun ms σ w=>ms=[]∧∃ (s':CS) (mem1:List Nat) (S1 T1:QE) (M1 N1:List Nat),(WF s'∧Va s' mem1∧Um s r (s.last+1) (Z) ([]) s' S1 T1∧s'.sps=p1++((r:Int),b0',S1)::(p2++[(((s.last+1:Nat):Int),bs,T1)])∧s'.mns=m1++((r:Int),c0',M1)::(m2++[(((s.last+1:Nat):Int),bm,N1)]))∧σ 0=pp p∧σ 1 = .int .i64 r∧σ 2 = .slice a l.length c∧σ 10=pp b0'∧σ 13 = .int .i64 s.size∧σ 14 = .map (some bat)∧σ 24 = .int .i64 ((s.last+1:Nat):Int)∧σ 26=pp bs∧Q0 w (VW (.slice a l.length c) l::Qi u.tp s'.tab::Qv p u::mp (ki .i64) Qp u.mm (s.mns.map Qx++[(((s.last+1:Nat):Int),bm)])::Qu c0' M1::Qu bm N1::Qn b0' u.sp r S1::Qn bs u.sp (s.last+1) T1::ST u.sp s.size mem1 s'.own::Qt u.ip u.sp u.bp::Qh u.bp s.lays::mp kp v1 bat at'::Qf u.trp (s.last+1) (s.par++[(((s.last+1:Nat):Int),(r:Int))])::RS u.rp s.rem::mp (ki .i64) Qp u.sm (s.sps.map VE++[(((s.last+1:Nat):Int),bs)])::star ((p1++p2).map (VJ u.sp))::star ((m1++m2).map Qy)::fr)) ?_ ?_
 ·refine QP ?_;refine Ql (fun ms σ w q=>ms=[]∧∃ (i:Nat) (s':CS) (mem1:List Nat) (S1 T1:QE) (M1 N1:List Nat),i≤l.length∧q=l.length - i∧(WF s'∧Va s' mem1∧Um s r (s.last+1) (Z.take i) (Z.drop i) s' S1 T1∧s'.sps=p1++((r:Int),b0',S1)::(p2++[(((s.last+1:Nat):Int),bs,T1)])∧s'.mns=m1++((r:Int),c0',M1)::(m2++[(((s.last+1:Nat):Int),bm,N1)]))∧σ 0=pp p∧σ 1 = .int .i64 r∧σ 2 = .slice a l.length c∧σ 10=pp b0'∧σ 13 = .int .i64 s.size∧σ 14 = .map (some bat)∧σ 24 = .int .i64 ((s.last+1:Nat):Int)∧σ 26=pp bs∧σ 154 = .slice a l.length c∧σ 155 = .int .i64 l.length∧σ 156 = .int .i64 i∧Q0 w (VW (.slice a l.length c) l::Qi u.tp s'.tab::Qv p u::mp (ki .i64) Qp u.mm (s.mns.map Qx++[(((s.last+1:Nat):Int),bm)])::Qu c0' M1::Qu bm N1::Qn b0' u.sp r S1::Qn bs u.sp (s.last+1) T1::ST u.sp s.size mem1 s'.own::Qt u.ip u.sp u.bp::Qh u.bp s.lays::mp kp v1 bat at'::Qf u.trp (s.last+1) (s.par++[(((s.last+1:Nat):Int),(r:Int))])::RS u.rp s.rem::mp (ki .i64) Qp u.sm (s.sps.map VE++[(((s.last+1:Nat):Int),bs)])::star ((p1++p2).map (VJ u.sp))::star ((m1++m2).map Qy)::fr)) (m:=l.length) ⟨rfl,0,s1,mem',S,T,M,[],by omega,by omega,⟨hw1,hm1,hB1,hsp1,hmn1⟩,rfl,rfl,rfl,rfl,rfl,rfl,rfl,rfl,rfl,rfl,rfl,by rw[hown1,htab1];exact H⟩ ?_;clear H;rintro ms σ w q ⟨rfl,i,s',mem1,S1,T1,M1,N1,hi,rfl,⟨hw',hm',hB,hsp,hmn⟩,g0,g1,g2,g10,g13,g14,g24,g26,g154,g155,g156,H⟩;rw[Q1 g0,Q1 g1,Q1 g2,Q1 g10,Q1 g13,Q1 g14,Q1 g24,Q1 g26,Q1 g154,Q1 g155,Q1 g156];refine J7 H ?_;refine Qk rfl (fun h=>QB ?_) (fun h=>Qq ?_)
  ·have hlt:i < l.length:=by omega
   have hiZ:i < Z.length:=by omega
   have hzi:=getElem?_eq_getElem hiZ;have htz:Z.take (i+1)=Z.take i++[Z[i]]:=by rw[take_add_one,hzi];rfl
   have hdz:=drop_eq_getElem_cons hiZ;have hzm:=getElem_mem hiZ;have hx:l[i]? = some (Z[i].k,Z[i].g):=by rw[← hZ,getElem?_map,hzi];rfl
   rw[hdz] at hB;generalize Z[i]=z at hzi htz hdz hzm hx hB;have hpend:=hB.pend z mem_cons_self;have hatz:=hat z hzm;obtain⟨zk,zg,ze,za⟩:=z;obtain⟨hk,hzr,hcase⟩:=hpend;have hk:s'.tab[zk]? = some ⟨zg,some ze⟩:=hk;have hzr:ze.region=(r:Int):=hzr;have hatz:QY at' ((zk:Int),(zg:Int))=some (za:Int):=hatz;have hx:l[i]? = some (zk,zg):=hx;have hL:Qd s'.tab zk zg=some (zk,ze):=BU hk
   have hndp':(s'.par.map (·.1)).Nodup:=by
    rw[hB.par,map_append,nodup_append];refine⟨hT.nd,by simp,fun x hx y hy hxy=>?_⟩;subst hxy;simp at hy;exact hup (by rw[← show x=((s.last+1:Nat):Int) by omega];exact hx)
   obtain⟨bT,sT,rfl,H,hcl⟩:=V5 H (by omega);refine YW H ?_;refine Jd ?_;refine Q5 rfl (VN H rfl (Ku hx) rfl ?_);refine VZ H ?_;clear H;intro b29 w H;refine J4 H ?_;clear H;intro w H;refine J2 H ?_;replace H:=Js [1,0] 0 H;replace H:=hcl _ _ H;replace H:Q0 w (VW (.slice (some ⟨bT,0,none⟩) l.length c) l::pts b29 (row 69 [.int .i64 zk,.int .i64 zg])::_):=H;replace H:=Js [2,1,0] 0 H;refine J6 H ?_;refine Qo (fun ms σ w=>ms=[]∧∃ b30,σ 0=pp p∧σ 1 = .int .i64 r∧σ 2 = .slice (some ⟨bT,0,none⟩) l.length c∧σ 10=pp b0'∧σ 13 = .int .i64 s.size∧σ 14 = .map (some bat)∧σ 24 = .int .i64 ((s.last+1:Nat):Int)∧σ 26=pp bs∧σ 154 = .slice (some ⟨bT,0,none⟩) l.length c∧σ 155 = .int .i64 l.length∧σ 156 = .int .i64 i∧σ 29=pp b29∧σ 30=pp b30∧Q0 w (Qi u.tp s'.tab::pts b30 (row 113 (Vg ze))::pts b29 (row 69 [.int .i64 zk,.int .i64 zg])::VW (.slice (some ⟨bT,0,none⟩) l.length c) l::Qv p u::mp (ki .i64) Qp u.mm (s.mns.map Qx++[(((s.last+1:Nat):Int),bm)])::Qu c0' M1::Qu bm N1::Qn b0' u.sp r S1::Qn bs u.sp (s.last+1) T1::ST u.sp s.size mem1 s'.own::Qt u.ip u.sp u.bp::Qh u.bp s.lays::mp kp v1 bat at'::Qf u.trp (s.last+1) (s.par++[(((s.last+1:Nat):Int),(r:Int))])::RS u.rp s.rem::mp (ki .i64) Qp u.sm (s.sps.map VE++[(((s.last+1:Nat):Int),bs)])::star ((p1++p2).map (VJ u.sp))::star ((m1++m2).map Qy)::fr)) ?_ ?_
   ·refine J1 H ?_;clear H;intro w H;refine RP H ?_;refine Jw 5 9 H rfl rfl (V1 (a:=[]) (b:=[]) rfl rfl (call (Zb u.tp s'.tab zk zg H) ?_)) (Vo H rfl ?_)
    ·clear H;rintro v w ⟨rfl,H⟩;rw[hL];refine RT H ?_;clear H;intro b30 w H;refine Ra H ?_;clear H;intro w H;refine GP H ?_;replace H:=Js [1,0] 0 H;exact⟨rfl,rfl,b30,rfl,rfl,rfl,rfl,rfl,rfl,rfl,rfl,rfl,rfl,rfl,rfl,rfl,H⟩
    ·clear H;intro b30 w H;refine Jo 5 H ?_;refine Jk rfl rfl (Zb u.tp s'.tab zk zg H.swap) ?_;clear H;rintro v w ⟨rfl,H⟩;rw[hL];refine Rb H ?_;clear H;intro w H;refine GP H ?_;exact⟨rfl,rfl,b30,rfl,rfl,rfl,rfl,rfl,rfl,rfl,rfl,rfl,rfl,rfl,rfl,rfl,H⟩
   clear H;rintro ms σ w ⟨rfl,b30,g0,g1,g2,g10,g13,g14,g24,g26,g154,g155,g156,g29,g30,H⟩;rw[Q1 g0,Q1 g1,Q1 g2,Q1 g10,Q1 g13,Q1 g14,Q1 g24,Q1 g26,Q1 g154,Q1 g155,Q1 g156,Q1 g29,Q1 g30];refine J1 H ?_;clear H;intro w H;refine Ja 0 ?_;refine VP 1 [] H rfl (Q8.none rfl) rfl (by repeat first|exact .nil _|apply QV.cons rfl) (by kernel_rfl) ?_;refine Uq 2 [] (key:=(((zk:Nat):Int),((zg:Nat):Int))) H rfl (Q8.none rfl) rfl rfl D8 (by kernel_rfl) ?_;rw[hatz];refine Jf 3 ?_;refine Jl 4 [] H ?_;refine Ja 5 ?_;refine Jx H ?_;have hSm1:((r:Int),b0',S1)∈s'.sps:=by rw[hsp];simp
   have hTm1:(((s.last+1:Nat):Int),bs,T1)∈s'.sps:=by rw[hsp];simp
   have hneI:((s.last+1:Nat):Int)≠(r:Int):=fun h=>hup (by rw[h];exact hrk);have hown63:s'.own.length≤63:=hw'.own.2;obtain⟨w1',w2',w3',w4',w5',w6'⟩:=BQ hw' hSm1;obtain⟨x1',_,_,_,_,_⟩:=BQ hw' hTm1;have w1':S1.parts.length≤63:=w1';have x1':T1.parts.length≤63:=x1';have w4':(QU S1.parts).Nodup:=w4'
   have hfitZ:ze.addr < 9223372036854775808:=by
    have h1:=(hw'.obj zk zg ze hk).2.1.1;have h2:=Nat.mul_le_mul hw'.own.2 hw'.size.2;unfold QJ at h1;omega
   refine J6 H ?_;refine Qo (fun ms σ w=>ms=[]∧∃ (s2:CS) (mem2:List Nat) (S2 T2:QE),(WF s2∧Va s2 mem2∧Um s r (s.last+1) (Z.take i++[⟨zk,zg,ze,za⟩]) (Z.drop (i+1)) s2 S2 T2∧s2.sps=p1++((r:Int),b0',S2)::(p2++[(((s.last+1:Nat):Int),bs,T2)])∧s2.mns=m1++((r:Int),c0',M1.filter (·≠zk))::(m2++[(((s.last+1:Nat):Int),bm,YS N1 zk)])∧s2.tab=s'.tab.set zk ⟨zg,some { ze with region:=((s.last+1:Nat):Int),addr:=za }⟩)∧σ 0=pp p∧σ 1 = .int .i64 r∧σ 2 = .slice (some ⟨bT,0,none⟩) l.length c∧σ 10=pp b0'∧σ 13 = .int .i64 s.size∧σ 14 = .map (some bat)∧σ 24 = .int .i64 ((s.last+1:Nat):Int)∧σ 26=pp bs∧σ 29=pp b29∧σ 154 = .slice (some ⟨bT,0,none⟩) l.length c∧σ 155 = .int .i64 l.length∧σ 156 = .int .i64 i∧Q0 w (Qi u.tp s'.tab::pts b29 (row 69 [.int .i64 zk,.int .i64 zg])::VW (.slice (some ⟨bT,0,none⟩) l.length c) l::Qv p u::mp (ki .i64) Qp u.mm (s.mns.map Qx++[(((s.last+1:Nat):Int),bm)])::Qu c0' M1::Qu bm N1::Qn b0' u.sp r S2::Qn bs u.sp (s.last+1) T2::ST u.sp s.size mem2 s2.own::Qt u.ip u.sp u.bp::Qh u.bp s.lays::mp kp v1 bat at'::Qf u.trp (s.last+1) (s.par++[(((s.last+1:Nat):Int),(r:Int))])::RS u.rp s.rem::mp (ki .i64) Qp u.sm (s.sps.map VE++[(((s.last+1:Nat):Int),bs)])::star ((p1++p2).map (VJ u.sp))::star ((m1++m2).map Qy)::fr)) ?_ ?_
   ·rcases hcase with ⟨hza,⟨cc,nn⟩,y1,y2,y3⟩|⟨hza,hsit,hbes⟩
    ·have hza:za=ze.addr:=hza;subst hza;have y2:2≤nn:=y2;obtain⟨A,B,hAB⟩:=append_of_mem y1;have hcap:=FP (by rw[← hAB];exact w4':(QU (A++(cc,nn)::B)).Nodup)
     have hfst:∀ y∈A,y.1≠cc:=fun y hy h=>by
      have hy1:=(w2' y (by show y∈S1.parts;rw[hAB];exact mem_append.2 (.inl hy))).1;exact hcap.2 cc (Nat.le_refl _) (by show cc < cc+nn;omega) (Kx (mem_append.2 (.inl hy)) (by omega) (by omega))
     have haddr:ze.addr / s.size=cc:=by
      rcases y3 with ⟨h1,_⟩|⟨_,h1,_⟩
      ·have h1:nn=1:=h1;omega
      ·have h1:ze.addr=cc*s'.size:=h1;rw[hB.size] at h1;rw[h1];exact Nat.mul_div_cancel _ (by omega)
     have hcn:cc+nn≤s'.own.length:=(w2' (cc,nn) y1).2;rw[show (((ze.addr:Nat):Int) == ((ze.addr:Nat):Int))=true from beq_self_eq_true _];refine Vh rfl ?_;replace H:=Js [8,8,8,0,0,0,0,0,0,0,0,0,0] 0 H;refine VQ H ?_
     refine UD (v := .int .i64 ((ze.addr / s.size:Nat):Int)) (by
      show (if IntKind.i64=IntKind.i64 then (if ((s.size:Nat):Int)=0 then none else some (Value.int IntKind.i64 (IntKind.i64.wrap (Int.tdiv ((ze.addr:Nat):Int) ((s.size:Nat):Int))))) else none)=_;rw[if_pos rfl,if_neg (by omega),Ri hfitZ]) rfl ?_
     rw[haddr];have hHand:=iI b0' bs u.sp r (s.last+1) S1 T1 s.size mem1 s'.own hAB hfst y2 (by omega) (by omega) (by omega) hown63 hcn (fun d h1 h2=>w5' d (Kx y1 h1 h2)) H;refine Jc rfl rfl (hHand) ?_;clear H hHand;rintro w0 w ⟨rfl,H⟩;refine J2 H ?_;replace H:=Js [3,4,4,4,4,4,4,0,0,0,1,1] 1 H;have hw2:=gQ (id:=s.last+1) hw' hB.part hk hzr hneI hndp' hsp hmn hAB y2 y3;refine⟨rfl,rfl,{ s' with own:=VV s'.own cc nn (s.last+1),tab:=s'.tab.set zk ⟨zg,some { ze with region:=((s.last+1:Nat):Int),addr:=ze.addr }⟩,sps:=p1++((r:Int),b0',{ S1 with parts:=A++B })::(p2++[(((s.last+1:Nat):Int),bs,{ T1 with parts:=T1.parts++[(cc,nn)] })]),mns:=m1++((r:Int),c0',M1.filter (·≠zk))::(m2++[(((s.last+1:Nat):Int),bm,YS N1 zk)]) },mem1,_,_,⟨hw2,?_,?_,rfl,rfl,rfl⟩,rfl,rfl,rfl,rfl,rfl,rfl,rfl,rfl,rfl,rfl,rfl,rfl,H⟩
     ·exact P6 (id:=((s.last+1:Nat):Int)) (a:=ze.addr) hw' hm' hk (fun j n f hj hjk=>by
       show QJ f≤ze.addr∨ze.addr+(ze.ws.length+1)≤f.addr
       rcases hw'.apart j zk n zg f ze hj hjk hk with h1|h1
       ·exact .inl h1
       ·have h1:ze.addr+1+ze.ws.length≤f.addr:=h1;right;omega) rfl (fun _ _=>rfl) (fun _ _=>rfl) (Vz hcn) rfl rfl
     ·exact hB.hand hw' hndp' rfl hsp hAB y2 y3 rfl (Vz hcn) rfl rfl rfl rfl rfl rfl
    ·have hza:za≠ze.addr:=hza;rw[show (((za:Nat):Int) == ((ze.addr:Nat):Int))=false by rw[beq_eq_false_iff_ne];omega];refine VF rfl ?_;have hfree:∀ (j n:Nat) (f:Q7),j≠zk→s'.tab[j]? = some ⟨n,some f⟩→QJ f≤za∨za+(ze.ws.length+1)≤f.addr:=fun j n f _ hj=>hbes j n f hj;have hw2:=ft hw' hk hzr hneI hndp' hsp hmn hsit hfree;have hkl:=(List.getElem?_eq_some_iff.1 hk).1;have hlies:Zv s'.size s'.own { ze with region:=((s.last+1:Nat):Int),addr:=za }:=(hw2.obj zk zg _ (getElem?_set_self hkl)).2.1;have hown:=Nk hlies;have hml1:=hm'.len
     have hto:za+(ze.ws.length+1)≤mem1.length:=by
      have h1:za+1+ze.ws.length≤s'.own.length*s'.size:=hlies.1;omega
     have hfr:ze.addr+(ze.ws.length+1)≤mem1.length:=by
      have h1:ze.addr+1+ze.ws.length≤s'.own.length*s'.size:=(hw'.obj zk zg ze hk).2.1.1;omega
     have hImg:=Xc hw' hm' hk;rw[hB.lays,hB.size] at hImg;rw[hB.size] at hown;replace H:=Js [11,11,10,0,0,0,0,0,0,0,0,0,0] 0 H;refine J1 H ?_;clear H;intro w H;refine E9 H ?_;refine Ja 4 ?_;refine VP 5 [9] H rfl (Q8.none rfl) rfl (by repeat first|exact .nil _|apply QV.cons rfl) (by kernel_rfl) ?_;refine Uq 6 [9] (key:=(((zk:Nat):Int),((zg:Nat):Int))) H rfl (Q8.none rfl) rfl rfl D8 (by kernel_rfl) ?_;rw[hatz];refine Jf 7 ?_;refine Jl 8 [9] H ?_;have hMove:=iP u.ip u.sp u.bp s.size s.lays mem1 s'.own za ze.addr ze.lay ze.count zk ze.ws.length (QN s' ze) hImg hto hown H;refine Jo 9 H ?_;refine Jk rfl rfl (hMove) ?_;clear H hMove;rintro w0 w ⟨rfl,H⟩;refine Jx H ?_;replace H:=Js [3,4,4,4,4,4,4,4,4,2,0,0] 1 H;refine⟨rfl,rfl,{ s' with tab:=s'.tab.set zk ⟨zg,some { ze with region:=((s.last+1:Nat):Int),addr:=za }⟩,mns:=m1++((r:Int),c0',M1.filter (·≠zk))::(m2++[(((s.last+1:Nat):Int),bm,YS N1 zk)]) },XZ mem1 za ze.addr (ze.ws.length+1),S1,T1,⟨hw2,?_,?_,hsp,rfl,rfl⟩,rfl,rfl,rfl,rfl,rfl,rfl,rfl,rfl,rfl,rfl,rfl,rfl,H⟩
     ·exact P6 (id:=((s.last+1:Nat):Int)) (a:=za) hw' hm' hk hfree (Pf hto hfr) (fun j hj=>iM hto hfr hj) (fun j hj=>iN hto hfr hj) rfl rfl rfl
     ·exact hB.shift hza hTm1 rfl rfl rfl rfl rfl rfl rfl rfl
   clear H;rintro ms σ w ⟨rfl,s2,mem2,S2,T2,⟨hw2,hm2,hB2,hsp2,hmn2,htab2⟩,g0,g1,g2,g10,g13,g14,g24,g26,g29,g154,g155,g156,H⟩;rw[Q1 g0,Q1 g1,Q1 g2,Q1 g10,Q1 g13,Q1 g14,Q1 g24,Q1 g26,Q1 g29,Q1 g154,Q1 g155,Q1 g156];have hMm':=hw'.mine ((r:Int),c0',M1) (by rw[hmn];simp);have hNm':=hw'.mine (((s.last+1:Nat):Int),bm,N1) (by rw[hmn];simp)
   have hbl:∀ L:List Nat,L.Pairwise (· < ·)→(∀ y∈L,y < s'.tab.length)→L.length≤64:=fun L h1 h2=>by
    have:=Kh L 0 64 (fun y hy=>⟨Nat.zero_le _,by have:=h2 y hy;have:=hw'.slots.2;omega⟩) h1;omega
   have hM64:M1.length≤64:=hbl M1 hMm'.1 fun y hy=>by
    obtain⟨g,f,h3,_⟩:=(hMm'.2 y).1 hy;exact(List.getElem?_eq_some_iff.1 h3).1
   have hN64:N1.length≤64:=hbl N1 hNm'.1 fun y hy=>by
    obtain⟨g,f,h3,_⟩:=(hNm'.2 y).1 hy;exact(List.getElem?_eq_some_iff.1 h3).1
   have hkN:zk∉N1:=fun h=>by
    obtain⟨g,f,h3,h4⟩:=(hNm'.2 zk).1 h;rw[hk] at h3;injection h3 with h3
    injection h3 with _ h3
    injection h3 with h3
    subst h3;exact hneI (h4.symm.trans hzr)
   replace H:=Js [0,2,2,2,2,0,0] 0 H;refine J1 H ?_;clear H;intro w H;refine Ja 0 ?_;refine Jf 1 ?_;refine Jl 2 [7] H ?_;refine Ja 3 ?_;refine Ja 4 ?_;refine HT H ?_;refine Uq 6 [7] (key:=(((zk:Nat):Int),((zg:Nat):Int))) H rfl (Q8.none rfl) rfl rfl D8 (by kernel_rfl) ?_;rw[hatz];have hHome:=Pc p u s'.tab (s.mns.map Qx++[(((s.last+1:Nat):Int),bm)]) zk zg ze hk ((s.last+1:Nat):Int) za c0' bm M1 N1 (by rw[hzr];exact hkMr) hkMi hMm'.1 (by omega) hNm'.1 (by omega) hkN H;refine Jo 7 H ?_;refine Jk rfl rfl (hHome) ?_;clear H hHome;rintro w0 w ⟨rfl,H⟩;rw[← htab2] at H;refine Jx H ?_;refine J5 H ?_;replace H:=Js [6,0,0,0,0,0,1,1,1,1,1] 1 H;exact⟨_,⟨rfl,i+1,s2,mem2,S2,T2,M1.filter (·≠zk),YS N1 zk,hlt,rfl,⟨hw2,hm2,by rw[htz];exact hB2,hsp2,hmn2⟩,rfl,rfl,rfl,rfl,rfl,rfl,rfl,rfl,rfl,rfl,Qc (by omega),H⟩,by omega⟩
  ·obtain rfl:i=l.length:=by omega
   rw[← hZl,take_length,drop_length] at hB;exact⟨rfl,rfl,s',mem1,S1,T1,M1,N1,⟨hw',hm',hB,hsp,hmn⟩,rfl,rfl,rfl,rfl,rfl,rfl,rfl,rfl,H⟩
 clear H;rintro ms σ w ⟨rfl,s',mem1,S1,T1,M1,N1,⟨hw',hm',hB,hsp,hmn⟩,g0,g1,g2,g10,g13,g14,g24,g26,H⟩;rw[Q1 g0,Q1 g1,Q1 g2,Q1 g10,Q1 g13,Q1 g14,Q1 g24,Q1 g26];replace H:=Js [5,15,4,5,12,4,0,0,0,0,0,0,0,1,1,1] 1 H;replace H:=(Q0.pick (R:=Qy) (x:=(((s.last+1:Nat):Int),bm,N1)) (gs:=m1++(m2++[(((s.last+1:Nat):Int),bm,N1)])) (g1:=m1++m2) (g2:=[]) (by simp)).2 (by rw[append_nil];exact H);replace H:=Js [1,0] 0 H;replace H:=(Q0.pick (R:=Qy) (x:=((r:Int),c0',M1)) hmn).2 H;replace H:=Js [1,1,1,0] 0 H;replace H:=(Q0.pick (R:=VJ u.sp) (x:=(((s.last+1:Nat):Int),bs,T1)) (gs:=p1++(p2++[(((s.last+1:Nat):Int),bs,T1)])) (g1:=p1++p2) (g2:=[]) (by simp)).2 (by rw[append_nil];exact H);replace H:=Js [1,0] 0 H;replace H:=(Q0.pick (R:=VJ u.sp) (x:=((r:Int),b0',S1)) hsp).2 H;have hk1:s.mns.map Qx++[(((s.last+1:Nat):Int),bm)]=s'.mns.map Qx:=by rw[hmn,hmns];simp
 have hk2:s.sps.map VE++[(((s.last+1:Nat):Int),bs)]=s'.sps.map VE:=by rw[hsp,hsps];simp
 rw[hk1,hk2,← hB.par,← hB.last,← hB.rem,← hB.lays,← hB.size] at H;have hnd:=B3 (H.pull 10);replace H:=Js [4,6,6,5,3,4,4,4,0,2,0,0] 0 H;replace H:=VR hw' hm' H;refine Vq H ?_;refine GN H ?_;clear H;intro bS w H;replace H:Q0 w (pts bS (row 3 (Qg [(r:Int),((s.last+1:Nat):Int)]++[]))::QA p { s' with rem:=s'.rem }::VW (.slice a l.length c) l::fr):=H;replace H:=ZW (E:=3) (k:=1) (len:=2) (cap:=2) (c:=Qg [(r:Int),((s.last+1:Nat):Int)]) (spare:=[]) rfl ⟨by decide,by decide⟩ (by decide) H
 have hrec:=Pd p s' s'.rem hnd _ [(r:Int),((s.last+1:Nat):Int)] (fun x hx=>by
  rw[hmn]
  rcases mem_cons.1 hx with rfl|hx
  ·simp
  ·rw[mem_singleton] at hx;subst hx;simp) (by simp) H
 refine Jc rfl rfl (hrec) ?_;clear H hrec;rintro w0 w ⟨rfl,D,R',hD,hN,H⟩;refine WB H ?_;refine Q3 (Jy H rfl fun w' H' => .inr (.inr ⟨rfl,rfl,Z,{ s' with rem:=R' },hZ,⟨hB.size,hB.own,hB.lays,hB.last,hB.par,hB.tabl,hB.tab,hents,hkeys,⟨D,fun x=>?_,⟨hN.nd,hN.on,fun x hx=>by rw[hN.off x hx,hB.rem]⟩⟩,hB.part,fun hZ0=>hB.zero (by rw[hZ0];rfl)⟩,H'⟩));rw[hD x];constructor
 ·rintro⟨k,g,e,h1,h2,h3⟩;refine⟨k,g,e,⟨g,e,h1,?_⟩,h1,h3⟩
  rcases mem_cons.1 h2 with h2|h2
  ·exact .inl h2
  ·exact .inr (mem_singleton.1 h2)
 ·rintro⟨k,g,e,⟨g',e',h1,h2⟩,h3,h4⟩;refine⟨k,g,e,h3,?_,h4⟩;have h1:=h1.symm.trans h3;injection h1 with h1
  injection h1 with _ h1
  injection h1 with h1
  rw[← h1]
  rcases h2 with h2|h2
  ·rw[h2];exact mem_cons_self
  ·rw[h2];exact mem_cons_of_mem _ (mem_singleton.2 rfl)
end Go.Proofs.YtmjdnljneifpcaaGreatDoor
