/- Cells: what is proved on the way: every input of the statement; no condition. Texts joined: SplT JoiE JoiF JoiG JoiH BumH StoE ImgE. -/
import Derived.Test.YtmjdnljneifpcaaGreatDoorBdo
import Derived.Test.YtmjdnljneifpcaaGreatDoorBdn
import Derived.Test.YtmjdnljneifpcaaGreatDoorBdd
import Derived.Test.YtmjdnljneifpcaaGreatDoorBdm
import Derived.Test.YtmjdnljneifpcaaGreatDoorBdk
import Derived.Test.YtmjdnljneifpcaaGreatDoorBdl
import Derived.Test.YtmjdnljneifpcaaGreatDoorBdj
import Derived.Test.YtmjdnljneifpcaaGreatDoorBde
import Derived.Test.YtmjdnljneifpcaaGreatDoorBdg
set_option linter.unusedVariables false
set_option linter.unusedSimpArgs false
set_option linter.unusedSectionVars false
namespace Go.Proofs.YtmjdnljneifpcaaGreatDoor
open Go.SL
theorem Ol:∀ {l:List (Nat×Nat)},(∀ p∈l,p.2=1)→QX l=l.map (·.1)
 | [],_=>rfl
 | (c,n)::l,h=>by
  have hn:n=1:=h (c,n) List.mem_cons_self;subst hn;rw[IX,Ol fun p hp=>h p (List.mem_cons_of_mem _ hp)];rfl
theorem Om:∀ own:List Nat,((List.range own.length).filter fun c=>own.getD c 0 == 0).length+(own.filter (· != 0)).length=own.length
 | []=>rfl
 | a::t=>by
  have ih:=Om t;rw[List.length_cons,List.range_succ_eq_map,List.filter_cons,List.filter_map,List.filter_cons];have e1:((fun c=>(a::t).getD c 0 == 0)∘Nat.succ)=fun c=>t.getD c 0 == 0:=rfl;rw[e1];by_cases h:a=0
  ·subst h;rw[if_pos (by rfl),if_neg (by decide),List.length_cons,List.length_map];omega
  ·rw[if_neg (by simpa using h),if_pos (by simpa using h),List.length_cons,List.length_map];omega
theorem YH.bnd {s:CS} (hw:WF s) {r:Nat} {S T:QE} {Z:List Pl} {mem own' mem':List Nat} (h:YH s r S Z mem own' mem' T):T.parts.length≤63∧(QX T.parts).length=T.parts.length∧T.fin≤1000000∧∀ c∈QX T.parts,c < s.own.length∧s.own.getD c 0=0:=by
 have ho:=hw.own.2;have hone:QX T.parts=T.parts.map (·.1):=Ol fun p hp=>(h.parts p hp).1
 have hin:∀ c∈QX T.parts,c < s.own.length∧s.own.getD c 0=0:=fun c hc=>by
  rw[hone] at hc;obtain⟨p,h1,h2⟩:=List.mem_map.1 hc;have h3:=(h.parts p h1).2;rw[h2] at h3;exact⟨(List.getElem?_eq_some_iff.1 h3).1,by rw[List.getD_eq_getElem?_getD,h3];rfl⟩
 have h3:=GC h.nd (l₂:=List.range s.own.length) (fun c hc=>List.mem_range.2 (hin c hc).1);rw[List.length_range] at h3;have h4:(QX T.parts).length=T.parts.length:=by rw[hone,List.length_map]
 refine⟨by omega,h4,?_,hin⟩;by_cases hf:T.fin=0
 ·omega
 ·obtain⟨c,h5,_,h6⟩:=h.fin hf;have h7:=(List.getElem?_eq_some_iff.1 (h.parts _ h6).2).1;have h7:c < s.own.length:=h7;have:=Nat.mul_le_mul (show c+1≤63 by omega) hw.size.2;omega
theorem fh {a b:List Nat} (h:a.length=b.length) (hg:∀ j,a.getD j 0=b.getD j 0):a=b:=by
 apply List.ext_getElem h;intro i h1 h2;have:=hg i;rw[List.getD_eq_getElem?_getD,List.getD_eq_getElem?_getD,List.getElem?_eq_getElem h1,List.getElem?_eq_getElem h2] at this;exact this
theorem YH.undo {s:CS} (hw:WF s) {r:Nat} {S T:QE} {Z:List Pl} {mem own' mem':List Nat} (h:YH s r S Z mem own' mem' T) {own2:List Nat} (h1:own2.length=own'.length) (h2:∀ j,own2.getD j 0=if j∈QX T.parts then 0 else own'.getD j 0):own2=s.own:=by
 obtain⟨_,_,_,hin⟩:=h.bnd hw;refine fh (h1.trans h.ol) fun j=>?_;rw[h2,h.og];by_cases hj:j∈QX T.parts
 ·rw[if_pos hj,(hin j hj).2]
 ·rw[if_neg hj,if_neg hj]
theorem YH.full {s:CS} (hw:WF s) {r:Nat} {S T:QE} {Z:List Pl} {mem own' mem':List Nat} (h:YH s r S Z mem own' mem' T) (hf:∀ a,a+1≤own'.length→own'.getD a 0≠0):s.own.length - (s.own.filter (· != 0)).length≤Z.length:=by
 obtain⟨_,hl,_,hin⟩:=h.bnd hw;have hz:=Om s.own
 have h1:=GC (l₁:=(List.range s.own.length).filter fun c=>s.own.getD c 0 == 0) (l₂:=QX T.parts) (List.Pairwise.filter _ List.nodup_range) (fun c hc=>by
  rw[List.mem_filter,List.mem_range] at hc;obtain⟨h2,h3⟩:=hc;have h3:s.own.getD c 0=0:=by simpa using h3
  have h4:=hf c (by rw[h.ol];omega);rw[h.og] at h4;by_cases h5:c∈QX T.parts
  ·exact h5
  ·rw[if_neg h5] at h4;exact absurd h3 h4)
 have:=h.few;omega
theorem YH.own0 {s:CS} (hw:WF s) {r:Nat} (hr:1≤r) {S T:QE} {Z:List Pl} {mem own' mem':List Nat} (h:YH s r S Z mem own' mem' T) {d:Nat} (hd:s.own.getD d 0≠0):own'.getD d 0≠0:=by
 rw[h.og];split
 ·omega
 ·exact hd
theorem YH.img {s:CS} (hw:WF s) {r:Nat} (hr:1≤r) {S T:QE} {Z:List Pl} {mem own' mem':List Nat} (h:YH s r S Z mem own' mem' T) (m:VI s mem) {k g:Nat} {e:Q9} (hk:s.tab[k]? = some ⟨g,some e⟩):XY s.lays s.size mem' own' e.addr e.lay e.count k e.ws.length (QN s e):=by
 obtain⟨a1,a2,a3,a4,a5,a6,a7⟩:=KL hw m hk;refine⟨a1,a2,a3,a4,?_,by rw[h.ml];exact a6,fun d d1 d2=>h.own0 hw hr (a7 d d1 d2)⟩;obtain⟨x,x1,_,x3⟩:=(hw.obj k g e hk).2.1.2 (e.addr / s.size) (Nat.le_refl _) (Nat.div_le_div_right (by omega));rw[List.getD_eq_getElem?_getD,h.mg _ x x1 (by omega),← List.getD_eq_getElem?_getD];exact a5
end Go.Proofs.YtmjdnljneifpcaaGreatDoor
namespace Go.Proofs.YtmjdnljneifpcaaGreatDoor
open Go.SL
theorem fj [Q4] (p:Nat) (q:GJ) (s:CS) (k n:Nat) (e:Q9) (hk:s.tab[k]? = some ⟨n,some e⟩) (place:Int) (l:Vw) {w:World} {fr:List Q2} (H:Q0 w (RS q.rp s.rem::Qh q.tp s.tab::V7 p q::fr)) :
  Calls Tryz.prog 156 #[pp p,.int .i64 k,.int .i64 place,ZA l] w (ret fun v w'=>Q0 w' (RS q.rp (Yc s k e place l)::Qh q.tp s.tab::V7 p q::fr)):=by
 obtain⟨a1,a2,a3,hkv⟩:=Gi l;rw[hkv];have hnd:=Aa H;have hnd0:=hnd;refine QQ Tryz.func156 rfl (by kernel_rfl) ?_;refine J6 H ?_;clear H;intro b7 w H;refine W5 H ?_;refine Gv H ?_;refine VZ H ?_;clear H;intro b8 w H;refine J3 H ?_;clear H;intro w H;refine Q6 ?_;replace H:=Js [2,0,0,0,0] 0 H;refine J1 H ?_;clear H;intro w H;refine Dc H ?_;refine Jk rfl rfl (Bz q.rp s.rem hnd ((k:Int),place) H) ?_;clear H;rintro v w ⟨rfl,H⟩;refine Jx H ?_;replace H:=Js [0,2,2,0,0] 0 H;refine AU H ?_
 have hcase:(a1≠2∧Yc s k e place l=QB s.rem ((k:Int),place))∨∃ a b:Nat,l = .obj a b∧a1=2∧a2=a∧a3=b:=by
  cases l with
  | none=>injection hkv with h;simp at h;exact .inl ⟨by omega,rfl⟩
  | grave=>injection hkv with h;simp at h;exact .inl ⟨by omega,rfl⟩
  | obj a b=>injection hkv with h;simp at h;exact .inr ⟨a,b,rfl,by omega,by omega,by omega⟩
 rcases hcase with ⟨h2,hn⟩|⟨a,b,rfl,rfl,rfl,rfl⟩
 ·rw[show (a1 != 2)=true by simpa using h2];refine VD H ?_;rw[hn];replace H:=Js [0,0,0] 2 H;exact Q3 (Jy H rfl fun w' H'=>H')
 ·refine A4 H ?_;replace H:=Js [1,1,0] 0 H;refine Jc rfl rfl (Ns p q s.tab k n e hk H) ?_;clear H;rintro v w ⟨rfl,H⟩;refine Vi H ?_;clear H;intro b9 w H;refine J3 H ?_;clear H;intro w H;refine J0 H ?_;obtain⟨e1,e2,h1,h2,e4,hsh⟩:=C5 (Qk s.tab a b);refine J8 H ?_
  refine Qn (fun ms σ w=>ms=[]∧∃ b11,σ 0=pp p∧σ 7=pp b7∧σ 8=pp b8∧σ 9=pp b9∧σ 11=pp b11∧σ 12 = .int .i64 e4 ∧
    Q0 w (RS q.rp (QB s.rem ((k:Int),place))::Qh q.tp s.tab::V7 p q::pts b11 (row 113 [.int .i64 e1,.int .i64 e2,.bool h1,.bool h2])::pts b9 (row 113 (YE e))::pts b8 (row 133 [.int .i64 k,.int .i64 place])::pts b7 (row 88 [.int .i64 2,.int .i64 a,.int .i64 b])::fr)) ?_ ?_
  ·replace H:=Js [1,0] 0 H;refine J1 H ?_;clear H;intro w H;refine Dn H ?_;refine Fq H ?_;refine Jw 6 10 H rfl rfl (V2 (a:=[]) (b:=[]) rfl rfl (call (ZF q.tp s.tab a b H) ?_)) (Vu H rfl ?_)
   ·clear H;rintro v w ⟨rfl,H⟩;rw[hsh];refine Dp H ?_;clear H;intro b11 w H;refine Ws H ?_;clear H;intro w H;refine Xb H ?_;replace H:=Js [4,1,2,0,0,0,0] 0 H;exact⟨rfl,rfl,b11,rfl,rfl,rfl,rfl,rfl,rfl,H⟩
   ·clear H;intro b11 w H;refine Jo 6 H ?_;refine Jk rfl rfl (ZF q.tp s.tab a b H.swap) ?_;clear H;rintro v w ⟨rfl,H⟩;rw[hsh];refine Dq H ?_;clear H;intro w H;refine Xb H ?_;replace H:=Js [4,0,2,0,0,0,0] 0 H;exact⟨rfl,rfl,b11,rfl,rfl,rfl,rfl,rfl,rfl,H⟩
  ·clear H;rintro ms σ w ⟨rfl,b11,g0,g7,g8,g9,g11,g12,H⟩;rw[Q1 g0,Q1 g7,Q1 g8,Q1 g9,Q1 g11,Q1 g12];cases hL:Qk s.tab a b with
   | none=>
    have hn:Yc s k e place (.obj a b)=QB s.rem ((k:Int),place):=Hs hL;rw[hL] at hsh;cases hsh;rw[hn];refine Vh H ?_;refine Wz H ?_;refine Qu rfl rfl rfl ?_;refine Y0 H ?_;replace H:=Js [0,0,0] 4 H;exact Y4 _ (.inl rfl) H rfl fun w' H'=>H'
   | some x=>
    obtain⟨kk,f⟩:=x;rw[hL] at hsh;cases hsh;refine Vh H ?_;refine Uf H ?_;refine Gw H ?_;by_cases hr:f.region=e.region
    ·have hn:Yc s k e place (.obj a b)=QB s.rem ((k:Int),place):=by rw[CZ hL];exact if_neg (by simpa using hr)
     rw[hn,show (f.region != e.region)=false by simpa using hr];refine Y0 H ?_;replace H:=Js [0,0,0] 4 H;exact Y4 _ (.inl rfl) H rfl fun w' H'=>H'
    ·have hn:Yc s k e place (.obj a b)=Vp (QB s.rem ((k:Int),place)) ((k:Int),place) (a:Int):=by rw[CZ hL];exact if_pos hr
     rw[hn,show (f.region != e.region)=true by simpa using hr];refine X4 H ?_;have hnd:=Aa H;refine J1 H ?_;clear H;intro w H;refine Bm H ?_;refine VM 4 [8] H rfl (Q8.none rfl) rfl (by repeat first|exact .nil _|apply QY.cons rfl) (by kernel_rfl) ?_;refine Jf 5 ?_;refine Jf 6 ?_;refine Jl 7 [8] H ?_;refine Jo 8 H ?_;refine Jk rfl rfl (MA q.rp _ hnd ((k:Int),place) a H) ?_;clear H;rintro v w ⟨rfl,H⟩;refine Jx H ?_
     have he:QB (QB s.rem ((k:Int),place)) ((k:Int),place)=QB s.rem ((k:Int),place):=by
      refine Ax ?_;intro hmem;exact absurd rfl ((Ay hnd0).1 hmem).1
     rw[he] at H;replace H:=Js [0,0,0] 4 H;exact Y4 _ (.inl rfl) H rfl fun w' H'=>H'
set_option maxRecDepth 10000 in
theorem fk [Q4] (p:Nat) (s:CS) (R0 R:List (Rf×Int)) (D:List Rf) (hD:ZK s R0 D R) (k g:Nat) (e:Q9) (hk:s.tab[k]? = some ⟨g,some e⟩) {w:World} {fr:List Q2} (H:Q0 w (QR p { s with rem:=R }::fr)) :
  Calls Tryz.prog 141 #[pp p,.int .i64 k] w (ret fun v w'=>v = .tuple #[]∧∃ R',ZK s R0 (D++WE s k e) R'∧Q0 w' (QR p { s with rem:=R' }::fr)):=by
 refine QQ Tryz.func141 rfl (by kernel_rfl) ?_;refine ZW H ?_;clear H;intro b2 w H;refine KA H ?_;clear H;intro b3 w H;refine Q6 ?_;replace H:=Js [2,0,0] 0 H;refine Bp H ?_;refine Jc rfl rfl (Mx p { s with rem:=R } k g e hk H) ?_;clear H;rintro v w ⟨rfl,H⟩;refine Vi H ?_;clear H;intro b4 w H;refine J3 H ?_;clear H;intro w H;refine Yi H ?_;replace H:=Js [1,0] 0 H;obtain⟨q,mem,hw,hm,H⟩:=Vs H;dsimp only at H;have hws:WF s:=AF hw s.rem;have hms:VI s mem:=ET hm s.rem;refine J1 H ?_;clear H;intro w H;refine Jl 0 [6] H ?_;refine X7 H ?_;refine Jl 3 [6] H ?_;refine Jf 4 ?_;refine Jl 5 [6] H ?_;refine Jo 6 H ?_;refine Jk rfl rfl (cG q.ip e.addr H) ?_;clear H;rintro v w ⟨bm,ba,rfl,H⟩;refine Jx H ?_;refine J8 H ?_;refine QS (Kp (a:=[]) (b:=[pp bm,pp ba]) H rfl (fun yl D2 w H=>?_));generalize hL:LR _ yl _ _ _ _ D2 .ready=L at H ⊢;obtain⟨J,hJ⟩:∃ J:List Nat→Q2,J=fun ks=>ex fun R1:List (Rf×Int)=>star [prop (ZK s R0 (D++ks.map fun x:Nat=>((k:Int),(x:Int))) R1),L,V7 p q,Qh q.tp s.tab,Qg q.trp s.last s.par,RS q.rp R1,mp (ki .i64) Qr q.sm (s.sps.map VJ),star (s.sps.map (VT q.sp)),mp (ki .i64) Qr q.mm (s.mns.map Qz),star (s.mns.map VY),pts b2 (row 44 [pp p]),pts b3 (row 3 [.int .i64 k])]:=⟨_,rfl⟩
 have hin:∀ (ks:List Nat) (R1:List (Rf×Int)) (w:World) (l':List Q2),ZK s R0 (D++ks.map fun x:Nat=>((k:Int),(x:Int))) R1→Q0 w (L::V7 p q::Qh q.tp s.tab::Qg q.trp s.last s.par::RS q.rp R1::mp (ki .i64) Qr q.sm (s.sps.map VJ)::star (s.sps.map (VT q.sp))::mp (ki .i64) Qr q.mm (s.mns.map Qz)::star (s.mns.map VY)::pts b2 (row 44 [pp p])::pts b3 (row 3 [.int .i64 k])::l')→Q0 w (J ks::l'):=by
  intro ks R1 w l' h H;rw[hJ];exact Q0.ex.2 ⟨R1,Q0.star.2 (Q0.prop.2 ⟨h,H⟩)⟩
 have hout:∀ (ks:List Nat) (w:World) (l':List Q2),Q0 w (J ks::l')→∃ R1,ZK s R0 (D++ks.map fun x:Nat=>((k:Int),(x:Int))) R1∧Q0 w (L::V7 p q::Qh q.tp s.tab::Qg q.trp s.last s.par::RS q.rp R1::mp (ki .i64) Qr q.sm (s.sps.map VJ)::star (s.sps.map (VT q.sp))::mp (ki .i64) Qr q.mm (s.mns.map Qz)::star (s.mns.map VY)::pts b2 (row 44 [pp p])::pts b3 (row 3 [.int .i64 k])::l'):=by
  intro ks w l' H;rw[hJ] at H;obtain⟨R1,H⟩:=Q0.ex.1 H;exact⟨R1,Q0.prop.1 (Q0.star.1 H)⟩
 replace H:=Js [0,3,6,6,6,6,6,6,6,8,7,1,1,1,1,1,0] 1 H;replace H:=hin [] R _ _ (by rw[List.map_nil,List.append_nil];exact hD) H;refine call (cX yl bm ba q.ip q.sp q.bp s.size s.lays s.own e.addr e.lay e.count k e.ws.length (QN s e) (Y9 e) (VI s) (fun _ h=>cK hws h hk) J ?_ hms H) ?_
 ·clear H;intro ks z mem' rest w hm' hpre H;obtain⟨R1,hD1,H⟩:=hout _ _ _ H;obtain⟨t,hpre⟩:=hpre;obtain⟨hz1,hz2⟩:=NC hpre;have hstep:=hD1.step hk hz1 hz2;rw[List.append_assoc,show [((k:Int),(z:Int))]=[z].map (fun x:Nat=>((k:Int),(x:Int))) from rfl,← List.map_append] at hstep;have hnote:=fun (w:World) (fr:List Q2) (H:Q0 w (RS q.rp R1::Qh q.tp s.tab::V7 p q::fr))=>fj p q { s with rem:=R1 } k g e hk (z:Int) (Y9 e z) H;obtain⟨a1,a2,a3,hkv⟩:=Gi (Y9 e z);rw[hkv] at hnote;rw[hkv];subst hL;refine Ko (args:=[.int .i64 z,.agg #[.int .i64 a1,.int .i64 a2,.int .i64 a3]]) H rfl rfl ?_;refine VC H ?_;refine YO H ?_;clear H;intro b7 w H;refine J3 H ?_;clear H;intro w H;refine Q6 ?_;replace H:=Js [1,0] 0 H;refine⟨rfl,_,H,fun w H=>QS ?_⟩;generalize hLB:LR _ yl _ _ _ _ D2 .busy=LB at H ⊢;replace H:=Js [5,3,2,0,0,0,0,0,0,0,0,0] 0 H;refine Bp H ?_;refine Jv ?_;refine Kz H ?_;refine Jc rfl rfl (hnote _ _ H) ?_;clear H;rintro v w H;refine Q6 ?_;subst hLB;replace H:=Js [3,2,1,2,0,1,1,1,1,1,1] 1 H;refine⟨rfl,_,H,fun w H=>⟨rfl,mem',hm',hin _ _ _ _ hstep H⟩⟩
 ·clear H;rintro v w ⟨mem',hm',H⟩;obtain⟨R1,hD1,H⟩:=hout _ _ _ H;subst hL;refine⟨_,H,fun w H=>?_⟩;replace H:=Js [15,0,11,11,11,0,0,0,0,0,0,0] 4 H;exact Rk (ms:=[D2]) _ (.inl rfl) ((Q0.star (k:=[pts D2 (.deferred (some []))])).2 H) rfl fun w' H'=>⟨rfl,R1,hD1,VG (s:={ s with rem:=R1 }) (AF hws R1) (ET hm' R1) H'⟩
end Go.Proofs.YtmjdnljneifpcaaGreatDoor
namespace Go.Proofs.YtmjdnljneifpcaaGreatDoor
open Go.SL
theorem On [Q4] (p:Nat) (q:GJ) (ts:List QH) (mk:List (Int×Nat)) (k n:Nat) (e:Q9) (hk:ts[k]? = some ⟨n,some e⟩) (region:Int) (addr b1 b2:Nat) (M1 M2:List Nat) (h1:QZ mk e.region=some b1) (h2:QZ mk region=some b2)
  (hs1:M1.Pairwise (· < ·)) (hl1:M1.length≤1000) (hs2:M2.Pairwise (· < ·)) (hl2:M2.length≤1000) (hkM:k∉M2) {w:World} {fr:List Q2} (H:Q0 w (Qh q.tp ts::V7 p q::mp (ki .i64) Qr q.mm mk::Qs b1 M1::Qs b2 M2::fr)) :
  Calls Tryz.prog 75 #[pp p,.int .i64 k,.int .i64 region,.int .i64 addr] w (ret fun v w'=>v = .tuple #[]∧Q0 w' (Qh q.tp (ts.set k ⟨n,some { e with region:=region,addr:=addr }⟩)::V7 p q::mp (ki .i64) Qr q.mm mk::Qs b1 (M1.filter (·≠k))::Qs b2 (YF M2 k)::fr)):=by
 have hL:Qk ts k n=some (k,e):=Y5.2 ⟨n,rfl,rfl,hk⟩;refine QQ Tryz.func75 rfl (by kernel_rfl) ?_;refine J5 H ?_;refine Jc rfl rfl (IV p q ts k n e hk H) ?_;clear H;rintro v w ⟨rfl,H⟩;refine Vi H ?_;clear H;intro b8 w H;refine VZ H ?_;clear H;intro b9 w H;refine J3 H ?_;clear H;intro w H;refine J3 H ?_;clear H;intro w H;refine Q6 ?_;replace H:=Js [5,0,0,0,0,0,0] 0 H;refine J1 H ?_;clear H;intro w H;refine Bm H ?_;refine Jf 4 ?_;refine Jl 5 [8] H ?_;refine XL 6 [8] (key:=e.region) H rfl (Q8.none rfl) rfl rfl VP (by kernel_rfl) ?_;rw[h1];refine Ja 7 ?_;refine Jo 8 H ?_;refine Jk rfl rfl (Nt b1 M1 k hs1 (by omega) H) ?_;clear H;rintro v w ⟨rfl,H⟩;refine Jx H ?_;refine J5 H ?_;refine Ui H ?_;clear H;intro w H;refine Ui H ?_;clear H;intro w H;refine Q6 ?_;replace H:Q0 w (Qs b1 (M1.filter (·≠k))::pts b9 (row 113 (YE { e with region:=region,addr:=addr }))::pts b8 (row 69 [.int .i64 k,.int .i64 n])::Qh q.tp ts::V7 p q::mp (ki .i64) Qr q.mm mk::Qs b2 M2::fr):=H;replace H:=Js [3,0,0,0,0,0,0] 0 H;refine J1 H ?_;clear H;intro w H;refine BT H ?_;refine De H ?_;refine Ba H ?_;refine Jk rfl rfl (C4 q.tp ts k n { e with region:=region,addr:=addr } H) ?_;clear H;intro v w hS
 obtain⟨rfl,H⟩:v = .int .i64 0∧Q0 w (Qh q.tp (ts.set k ⟨n,some { e with region:=region,addr:=addr }⟩)::Qs b1 (M1.filter (·≠k))::pts b9 (row 113 (YE { e with region:=region,addr:=addr }))::pts b8 (row 69 [.int .i64 k,.int .i64 n])::V7 p q::mp (ki .i64) Qr q.mm mk::Qs b2 M2::fr):=by
  rcases hS with ⟨k2,e2,hL2,hv,H⟩|⟨hL2,_,_⟩
  ·rw[hL] at hL2;injection hL2 with hL2
   injection hL2 with hL2 _
   subst hL2;exact⟨hv,H⟩
  ·rw[hL] at hL2;cases hL2
 refine Jx H ?_;replace H:=Js [6,0,3,3,0,0,0] 0 H;refine J9 H ?_;refine Q5 rfl (Zt (key:=region) H rfl rfl VP rfl ?_);rw[h2];refine Jv ?_;refine Jc rfl rfl (N3 b2 M2 k hs2 (by omega) hkM H) ?_;clear H;rintro v w ⟨rfl,H⟩;refine Q6 ?_;replace H:=Js [1,1,1,1,0] 2 H;exact Y4 _ (.inl rfl) H rfl fun w' H'=>⟨rfl,H'⟩
end Go.Proofs.YtmjdnljneifpcaaGreatDoor
namespace Go.Proofs.YtmjdnljneifpcaaGreatDoor
open Go.SL
theorem mk_nil [Q4] {w:World} {l:List Q2} (H:Q0 w l):Q0 w (mk []::l):=(Q0.star (k:=[])).2 H
theorem fl [Q4] {w:World} {D:Nat} {Ds:List Nat} {l:List Q2} (H:Q0 w (pts D (.deferred (some []))::mk Ds::l)):Q0 w (mk (D::Ds)::l):=
 (Q0.pick (R:=fun D=>pts D (.deferred (some []))) (x:=D) (gs:=D::Ds) (g1:=[]) (g2:=Ds) rfl).2 H
def WO (s:CS) (k:Nat):List Rf:=match s.tab[k]? with
 | some ⟨_,some e⟩=>WE s k e
 | _=>[]
theorem Ik {s:CS} {k g:Nat} {e:Q9} (hk:s.tab[k]? = some ⟨g,some e⟩):WO s k=WE s k e:=by
 unfold WO;rw[hk]
def Ap (s:CS) (ids:List Int) (D:List Rf):Prop:=∀ r,r∈D↔∃ (k g:Nat) (e:Q9),s.tab[k]? = some ⟨g,some e⟩∧e.region∈ids∧r∈WE s k e
theorem Ap.step {s:CS} {ids:List Int} {D:List Rf} (h:Ap s ids D) {x:Int} {M:List Nat} (hM:∀ i,i∈M↔∃ g e,s.tab[i]? = some ⟨g,some e⟩∧e.region=x):Ap s (ids++[x]) (D++M.flatMap (WO s)):=by
 intro r;rw[List.mem_append,h r,List.mem_flatMap];constructor
 ·rintro(⟨k,g,e,h1,h2,h3⟩|⟨k,h1,h2⟩)
  ·exact⟨k,g,e,h1,List.mem_append.2 (.inl h2),h3⟩
  ·obtain⟨g,e,h3,h4⟩:=(hM k).1 h1;rw[Ik h3] at h2;exact⟨k,g,e,h3,List.mem_append.2 (.inr (List.mem_singleton.2 h4)),h2⟩
 ·rintro⟨k,g,e,h1,h2,h3⟩
  rcases List.mem_append.1 h2 with h2|h2
  ·exact .inl ⟨k,g,e,h1,h2,h3⟩
  ·rw[List.mem_singleton] at h2;exact .inr ⟨k,(hM k).2 ⟨g,e,h1,h2⟩,by rw[Ik h1];exact h3⟩
set_option maxRecDepth 10000 in
theorem Oo [Q4] (p:Nat) (s:CS) (R0:List (Rf×Int)) (hR0:(R0.map (·.1)).Nodup) (v:Value) (ids:List Int) (hids:∀ x∈ids,x∈s.mns.map (·.1)) (hl:ids.length≤1000) {w:World} {fr:List Q2} (H:Q0 w (IL v ids::QR p { s with rem:=R0 }::fr)) :
  Calls Tryz.prog 76 #[pp p,v] w (ret fun x w'=>x = .tuple #[]∧∃ D R',Ap s ids D∧ZK s R0 D R'∧Q0 w' (QR p { s with rem:=R' }::fr)):=by
 obtain⟨a,c,rfl⟩:=QD H (Vc ids) (by decide);refine QQ Tryz.func76 rfl (by kernel_rfl) ?_;refine ZW H ?_;clear H;intro b2 w H;refine Q6 ?_;refine Gy H ?_;replace H:=Js [1,1,0] 0 H;replace H:=mk_nil H;replace H:=Js [1,1,1,0] 0 H;refine Qn (fun ms σ w=>∃ D R',Ap s ids D∧ZK s R0 D R'∧Q0 w (mk ms::QR p { s with rem:=R' }::fr)) ?_ ?_
 ·refine QS ?_;refine Qj (fun ms σ w z=>∃ (i:Nat) (D:List Rf) (R':List (Rf×Int)),i≤ids.length∧z=ids.length - i∧Ap s (ids.take i) D∧ZK s R0 D R'∧σ 2=pp b2∧σ 7 = .slice a ids.length c∧σ 8 = .int .i64 ids.length∧σ 9 = .int .i64 i∧Q0 w (IL (.slice a ids.length c) ids::QR p { s with rem:=R' }::pts b2 (row 44 [pp p])::mk ms::fr)) (m:=ids.length) ⟨0,[],R0,by omega,by omega,(fun r=>⟨fun h=>(by cases h),fun ⟨k,g,e,_,h,_⟩=>(by cases h)⟩),ZK.start hR0,rfl,rfl,rfl,rfl,H⟩ ?_;clear H;rintro ms σ w z ⟨i,D,R',hi,rfl,hD,hN,g2,g7,g8,g9,H⟩;rw[Q1 g2,Q1 g7,Q1 g8,Q1 g9];refine J7 H ?_;refine Qf rfl (fun h=>QW ?_) (fun h=>Qp ?_)
  ·have hlt:i < ids.length:=by omega
   have hx:=List.getElem?_eq_getElem hlt;have htk:ids.take (i+1)=ids.take i++[ids[i]]:=by rw[List.take_add_one,hx];rfl
   have hxi:=hids _ (List.getElem_mem hlt);generalize ids[i]=x at hx htk hxi;obtain⟨bT,sT,rfl,H,hcl⟩:=Qx H (by omega);refine YY H ?_;refine Jd ?_;refine Q5 rfl (QA H rfl (by simpa using U5 hx) rfl ?_);refine J0 H ?_;replace H:=hcl _ _ H;replace H:=Js [1,0] 0 H;obtain⟨q,mem,hw,hm,H⟩:=Vs H;dsimp only at H;have hws:WF s:=AF hw s.rem;obtain⟨b1,hkM⟩:=KP (l:=s.mns) (f:=fun x=>x.1) (g:=fun x=>x.2.1) (k:=x) hxi;obtain⟨⟨r2,b1',M⟩,m1,m2,hmns,hs3,hs4⟩:=KO hkM;obtain rfl:r2=x:=hs3;obtain rfl:b1'=b1:=hs4;have hkM':QZ (s.mns.map Qz) r2=some b1':=hkM;have hMm:=hws.mine (r2,b1',M) (by rw[hmns];simp)
   have hMl:M.length≤64:=by
    have:=RK M 0 64 (fun y hy=>⟨Nat.zero_le _,by
     obtain⟨g,f,h3,_⟩:=(hMm.2 y).1 hy;have h4:=(List.getElem?_eq_some_iff.1 h3).1;have:=hws.slots.2;omega⟩) hMm.1
    omega
   refine Xg H ?_;refine Q5 rfl (Zt (key:=r2) H rfl rfl VP rfl ?_);rw[hkM'];replace H:=Js [10,0,0,0,0,0,0,0,0,0,0] 0 H;replace H:Q0 w (Qs b1' M::star ((m1++m2).map VY)::_):=(Q0.pick (R:=VY) (x:=(r2,b1',M)) hmns).1 H;refine Jc rfl rfl (Ev b1' M (by omega) H) ?_;clear H;rintro v w ⟨bv,av,cv,rfl,H⟩;replace H:=Js [2,2,0,0] 0 H;replace H:=(Q0.pick (R:=VY) (x:=(r2,b1',M)) hmns).2 H;replace H:=Js [3,3,3,3,3,3,3,3,3,3,0,0,0] 0 H;replace H:=VG (s:={ s with rem:=R' }) hw hm H;refine Q6 ?_;replace H:=Js [0,3,0,0,0,0] 0 H;refine J8 H ?_;refine Qn (fun ms' σ w=>∃ (D2:Nat) (R2:List (Rf×Int)),ms'=D2::ms∧ZK s R0 (D++M.flatMap (WO s)) R2∧σ 2=pp b2∧σ 7 = .slice (some ⟨bT,0,none⟩) ids.length c∧σ 8 = .int .i64 ids.length∧σ 9 = .int .i64 i∧Q0 w (QR p { s with rem:=R2 }::pts b2 (row 44 [pp p])::pts D2 (.deferred (some []))::IL (.slice (some ⟨bT,0,none⟩) ids.length c) ids::mk ms::fr)) ?_ ?_
   ·refine QS (Kp (a:=[]) (b:=[pp bv]) H rfl (fun yl D2 w H=>?_));generalize hL:LR _ yl _ _ _ _ D2 .ready=LRR at H ⊢;obtain⟨J,hJ⟩:∃ J:List Nat→Q2,J=fun ks=>ex fun R1:List (Rf×Int)=>star [prop (ZK s R0 (D++ks.flatMap (WO s)) R1),LRR,QR p { s with rem:=R1 },pts b2 (row 44 [pp p])]:=⟨_,rfl⟩
    have hin:∀ (ks:List Nat) (R1:List (Rf×Int)) (w:World) (l':List Q2),ZK s R0 (D++ks.flatMap (WO s)) R1→Q0 w (LRR::QR p { s with rem:=R1 }::pts b2 (row 44 [pp p])::l')→Q0 w (J ks::l'):=by
     intro ks R1 w l' h H;rw[hJ];exact Q0.ex.2 ⟨R1,Q0.star.2 (Q0.prop.2 ⟨h,H⟩)⟩
    have hout:∀ (ks:List Nat) (w:World) (l':List Q2),Q0 w (J ks::l')→∃ R1,ZK s R0 (D++ks.flatMap (WO s)) R1∧Q0 w (LRR::QR p { s with rem:=R1 }::pts b2 (row 44 [pp p])::l'):=by
     intro ks w l' H;rw[hJ] at H;obtain⟨R1,H⟩:=Q0.ex.1 H;exact⟨R1,Q0.prop.1 (Q0.star.1 H)⟩
    replace H:=Js [0,1,1,1,1,0,0,0] 0 H;replace H:=hin [] R' _ _ (by rw[List.flatMap_nil,List.append_nil];exact hN) H;refine call (Ew yl bv av cv M (by omega) J ?_ H) ?_
    ·clear H;intro ks k tt rest w hpre H;obtain⟨R1,hN1,H⟩:=hout _ _ _ H;obtain⟨g,e,hk,_⟩:=(hMm.2 k).1 (by rw[hpre];simp);subst hL;refine Ko (args:=[.int .i64 k]) H rfl rfl ?_;refine VC H ?_;refine⟨rfl,_,H,fun w H=>QS ?_⟩;generalize hLB:LR _ yl _ _ _ _ D2 .busy=LB at H ⊢;replace H:=Js [1,0] 0 H;refine Xe H ?_;refine Jc rfl rfl (fk p s R0 R1 _ hN1 k g e hk H) ?_;clear H;rintro v w ⟨rfl,R2,hN2,H⟩;refine Q6 ?_;subst hLB;replace H:=Js [1,0,0] 0 H;refine⟨rfl,_,H,fun w H=>⟨rfl,hin _ _ _ _ ?_ H⟩⟩;rw[List.flatMap_append,List.flatMap_cons,List.flatMap_nil,List.append_nil,Ik hk,← List.append_assoc];exact hN2
    ·clear H;rintro v w H;obtain⟨R1,hN1,H⟩:=hout _ _ _ H;subst hL;refine⟨_,H,fun w H=>?_⟩;replace H:=Js [0,0,2,2,2] 2 H;exact⟨rfl,D2,R1,rfl,hN1,rfl,rfl,rfl,rfl,H⟩
   clear H;rintro ms' σ w ⟨D2,R2,rfl,hN2,g2,g7,g8,g9,H⟩;rw[Q1 g2,Q1 g7,Q1 g8,Q1 g9];refine J4 H ?_;replace H:=Js [2,3,2,0,0] 0 H;replace H:=fl H;replace H:=Js [1,1,1,0] 0 H;exact⟨_,⟨i+1,_,R2,hlt,rfl,by rw[htk];exact hD.step hMm.2,hN2,rfl,rfl,rfl,Qb (by omega),H⟩,by omega⟩
  ·have hge:i=ids.length:=by omega
   subst hge;rw[List.take_length] at hD;replace H:=Js [3,1] 2 H;exact⟨rfl,D,R',hD,hN,H⟩
 clear H;rintro ms σ w ⟨D,R',hD,hN,H⟩;exact Rk (ms:=ms) _ (.inl rfl) H rfl fun w' H'=>⟨rfl,D,R',hD,hN,H'⟩
end Go.Proofs.YtmjdnljneifpcaaGreatDoor
namespace Go.Proofs.YtmjdnljneifpcaaGreatDoor
open Go.SL
theorem Oq {V:Type} {l:List (Int×Nat×V)} (hnd:(l.map fun z=>z.1).Nodup) {x y:Int} (hx:x∈l.map fun z=>z.1) (hy:y∈l.map fun z=>z.1) (hne:y≠x) :
  ∃ (bx:Nat) (X:V) (a1 a2:List (Int×Nat×V)) (bY:Nat) (Y:V) (c1 c2:List (Int×Nat×V)),l=a1++(x,bx,X)::a2∧a1++a2=c1++(y,bY,Y)::c2∧QZ (l.map fun z=>(z.1,z.2.1)) x=some bx∧QZ (l.map fun z=>(z.1,z.2.1)) y=some bY:=by
 obtain⟨⟨x',bx,X⟩,h1,h2⟩:=List.mem_map.1 hx;have h2:x'=x:=h2;subst h2;obtain⟨a1,a2,h3⟩:=List.append_of_mem h1;obtain⟨⟨y',bY,Y⟩,h4,h5⟩:=List.mem_map.1 hy;have h5:y'=y:=h5;subst h5
 have h6:(y',bY,Y)∈a1++a2:=by
  rw[h3] at h4
  rcases Zx h4 with h7|h7
  ·injection h7 with h7 _
   exact absurd h7 hne
  ·exact h7
 obtain⟨c1,c2,h7⟩:=List.append_of_mem h6;have hnd2:((l.map fun z=>(z.1,z.2.1)).map (·.1)).Nodup:=by rw[List.map_map];exact hnd
 exact⟨bx,X,a1,a2,bY,Y,c1,c2,h3,h7,(Yh hnd2).2 (List.mem_map.2 ⟨_,h1,rfl⟩),(Yh hnd2).2 (List.mem_map.2 ⟨_,h4,rfl⟩)⟩
def UT (id q:Int) (ts:List QH) (ks:List Nat):List QH:=ts.mapIdx fun k t=>if k∈ks then Zn id q t else t
theorem Cc (id q:Int) (ts:List QH) (ks:List Nat) (k:Nat):(UT id q ts ks)[k]? = (ts[k]?).map fun t=>if k∈ks then Zn id q t else t:=List.getElem?_mapIdx
theorem fm (id q:Int) (ts:List QH):UT id q ts []=ts:=by
 apply List.ext_getElem?;intro i;rw[Cc];cases ts[i]? <;> simp
theorem fp {id q:Int} {ts:List QH} {ks:List Nat} {k g:Nat} {e:Q9} (hk:ts[k]? = some ⟨g,some e⟩) (hr:e.region=id):(UT id q ts ks).set k ⟨g,some { e with region:=q,addr:=e.addr }⟩=UT id q ts (ks++[k]):=by
 have hkl:=(List.getElem?_eq_some_iff.1 hk).1;apply List.ext_getElem?;intro i;rw[List.getElem?_set,Cc,Cc];by_cases h:k=i
 ·subst h;rw[if_pos rfl,if_pos (by unfold UT;rw[List.length_mapIdx];exact hkl),hk];simp only[Option.map_some];rw[if_pos (List.mem_append.2 (.inr (by simp)))];unfold Zn Yn;simp only[Option.map_some];rw[if_pos hr]
 ·rw[if_neg h];cases ts[i]? with
  | none=>rfl
  | some t=>
   have h2:i∈ks++[k]↔i∈ks:=by
    rw[List.mem_append,List.mem_singleton];exact⟨fun h4=>h4.elim (fun h=>h) fun h5=>absurd h5.symm h,.inl⟩
   simp only[Option.map_some,h2]
theorem fq {id q:Int} {ts:List QH} {M:List Nat} (hM:∀ i,i∈M↔∃ g e,ts[i]? = some ⟨g,some e⟩∧e.region=id):UT id q ts M=ts.map (Zn id q):=by
 apply List.ext_getElem?;intro i;rw[Cc,List.getElem?_map];cases ht:ts[i]? with
 | none=>rfl
 | some t=>
  simp only[Option.map_some];by_cases h:i∈M
  ·rw[if_pos h]
  ·rw[if_neg h];obtain⟨g,e0⟩:=t;cases e0 with
   | none=>rfl
   | some e=>
    have hne:e.region≠id:=fun h1=>h ((hM i).2 ⟨g,e,ht,h1⟩);unfold Zn Yn;simp only[Option.map_some];rw[if_neg hne]
set_option maxRecDepth 10000 in
theorem ft [Q4] (p:Nat) (s:CS) (region q:Int) (hid:QZ s.par region=some q) (hT:Yd s.par) {w:World} {fr:List Q2} (H:Q0 w (QR p s::fr)) :
  Calls Tryz.prog 27 #[pp p,.int .i64 region] w (ret fun v w'=>(q=0∧v = .tuple #[.int .i64 0,.int .i64 16]∧Q0 w' (QR p s::fr))∨(q≠0∧v = .tuple #[.int .i64 q,.int .i64 0]∧∃ s',Ai s region q s'∧Q0 w' (QR p s'::fr))):=by
 obtain⟨u,mem,hw,hm,H⟩:=Vs H;obtain⟨hq1,hq2,hq3⟩:=hT.up _ _ hid;refine QQ Tryz.func27 rfl (by kernel_rfl) ?_;refine ZW H ?_;clear H;intro b2 w H;refine J2 H ?_;replace H:=Js [6,1,0,0,0,0,0] 0 H;refine Xe H ?_;refine Jc rfl rfl (F3 p u s.last s.par region H) ?_;clear H;rintro v w ⟨rfl,H⟩;rw[hid];refine Yi H ?_;refine Xg H ?_;refine Jc rfl rfl (eX u.trp s.last s.par region hT.nd (by have:=hw.par.1;omega) H) ?_;clear H;rintro v w (⟨h1,_,_⟩|⟨h1,rfl,H⟩|⟨q',par',h1,hq0,hP,rfl,H⟩)
 ·rw[hid] at h1;cases h1
 ·rw[hid] at h1;injection h1 with h1
  refine Vi H ?_;clear H;intro b7 w H;refine Fu H ?_;clear H;intro w H;refine AX H ?_;replace H:=Js [2,3,3,3,3,1,2,2,2,2,2] 2 H;exact Q3 (Jy H rfl fun w' H' => .inl ⟨h1,rfl,VG hw hm H'⟩)
 rw[hid] at h1;injection h1 with h1
 subst h1;refine Vi H ?_;clear H;intro b7 w H;refine Fu H ?_;clear H;intro w H;refine Yi H ?_;replace H:Q0 w (pts b7 (row 3 [.int .i64 q])::_):=H;have hrk:region∈s.par.map (·.1):=WX (by rw[hid];rfl);have hqk:q∈s.par.map (·.1):=WX (hq3.resolve_left hq0);have hne:q≠region:=by omega
 obtain⟨bi,T,a1,a2,bq,S,c1,c2,hs1,hs2,hkS1,hkS2⟩:=Oq (l:=s.sps) (by rw[hw.skeys];exact hT.nd) (x:=region) (y:=q) (by rw[hw.skeys];exact hrk) (by rw[hw.skeys];exact hqk) hne;obtain⟨gi,M,d1,d2,gq,N,e1,e2,hm1,hm2,hkM1,hkM2⟩:=Oq (l:=s.mns) (by rw[hw.mkeys];exact hT.nd) (x:=region) (y:=q) (by rw[hw.mkeys];exact hrk) (by rw[hw.mkeys];exact hqk) hne;have hkS1':QZ (s.sps.map VJ) region=some bi:=hkS1;have hkS2':QZ (s.sps.map VJ) q=some bq:=hkS2;have hkM1':QZ (s.mns.map Qz) region=some gi:=hkM1;have hkM2':QZ (s.mns.map Qz) q=some gq:=hkM2
 have hSm:(q,bq,S)∈s.sps:=by
  have h1:(q,bq,S)∈a1++a2:=by rw[hs2];simp
  rw[hs1];exact Um h1
 have hNm:(q,gq,N)∈s.mns:=by
  have h1:(q,gq,N)∈d1++d2:=by rw[hm2];simp
  rw[hm1];exact Um h1
 obtain⟨t1,t2,t3,t4,t5,t6⟩:=Ag hw (x:=(region,bi,T)) (by rw[hs1];simp);obtain⟨s1,_,_,_,_,_⟩:=Ag hw hSm;have t1:T.parts.length≤63:=t1;have s1:S.parts.length≤63:=s1;have hMm:=hw.mine (region,gi,M) (by rw[hm1];simp);have hNn:=hw.mine _ hNm
 have hbl:∀ L:List Nat,L.Pairwise (· < ·)→(∀ y∈L,y < s.tab.length)→L.length≤64:=fun L h1 h2=>by
  have:=RK L 0 64 (fun y hy=>⟨Nat.zero_le _,by have:=h2 y hy;have:=hw.slots.2;omega⟩) h1;omega
 have hMt:∀ y∈M,y < s.tab.length:=fun y hy=>by
  obtain⟨g,f,h3,_⟩:=(hMm.2 y).1 hy;exact(List.getElem?_eq_some_iff.1 h3).1
 have hNt:∀ y∈N,y < s.tab.length:=fun y hy=>by
  obtain⟨g,f,h3,_⟩:=(hNn.2 y).1 hy;exact(List.getElem?_eq_some_iff.1 h3).1
 replace H:=Js [10,6,0,1,1,1,1,1,1,1,1,1,0] 0 H;replace H:Q0 w (Qi bi u.sp region.toNat T::star ((a1++a2).map (VT u.sp))::_):=(Q0.pick (R:=VT u.sp) (x:=(region,bi,T)) hs1).1 H;replace H:=Js [1,0] 0 H;replace H:Q0 w (Qi bq u.sp q.toNat S::star ((c1++c2).map (VT u.sp))::_):=(Q0.pick (R:=VT u.sp) (x:=(q,bq,S)) hs2).1 H;replace H:=Js [0,1,1,0] 0 H;refine J1 H ?_;clear H;intro w H;refine Jl 0 [12] H ?_;refine X7 H ?_;refine Jl 3 [12] H ?_;refine Jl 4 [12] H ?_;refine XL 5 [12] (key:=q) H rfl (Q8.none rfl) rfl rfl VP (by kernel_rfl) ?_;rw[hkS2'];refine Jl 6 [12] H ?_;refine Ja 7 ?_;refine Jf 8 ?_;refine Jl 9 [12] H ?_;refine Ja 10 ?_;refine XL 11 [12] (key:=region) H rfl (Q8.none rfl) rfl rfl VP (by kernel_rfl) ?_;rw[hkS1'];have hJ:=O4 bq bi u.sp q.toNat region.toNat S T s.size mem s.own (by omega) (by omega) (by omega) hw.own.2 t2 t5 H;refine Jo 12 H ?_;refine Jk rfl rfl (hJ) ?_;clear H hJ;rintro v w ⟨rfl,own',hol,hog,H⟩;refine Jx H ?_;replace H:=Js [13,0,0,0,0,0,0,0,0,0,0,0,0,0] 0 H;replace H:Q0 w (Qs gi M::star ((d1++d2).map VY)::_):=(Q0.pick (R:=VY) (x:=(region,gi,M)) hm1).1 H;replace H:=Js [1,0] 0 H;replace H:Q0 w (Qs gq N::star ((e1++e2).map VY)::_):=(Q0.pick (R:=VY) (x:=(q,gq,N)) hm2).1 H;replace H:=Js [2,0,0] 0 H;have hMlen:=hbl M hMm.1 hMt;refine Xg H ?_;refine Q5 rfl (Zt (key:=region) H rfl rfl VP rfl ?_);rw[hkM1'];refine Jc rfl rfl (Ev gi M (by omega) H) ?_;clear H;rintro v w ⟨bv,av,cv,rfl,H⟩;refine BW H ?_
 refine Qn (fun ms σ w=>∃ (D2:Nat) (N':List Nat),ms=[D2]∧N'.Pairwise (· < ·)∧(∀ j,j∈N'↔j∈M∨j∈N)∧σ 1 = .int .i64 region∧σ 2=pp b2∧σ 7=pp b7 ∧
  Q0 w (Qh u.tp (UT region q s.tab M)::V7 p u::mp (ki .i64) Qr u.mm (s.mns.map Qz)::Qs gq N'::pts b2 (row 44 [pp p])::pts b7 (row 3 [.int .i64 q])::star ((e1++e2).map VY)::Qi bq u.sp q.toNat (Z5 S T)::ST u.sp s.size mem own'::star ((c1++c2).map (VT u.sp))::Qw u.ip u.sp u.bp::Ql u.bp s.lays::RS u.rp s.rem::mp (ki .i64) Qr u.sm (s.sps.map VJ)::Qg u.trp s.last par'::pts D2 (.deferred (some []))::fr)) ?_ ?_
 ·refine QS (Kp (a:=[]) (b:=[pp bv]) H rfl (fun yl D2 w H=>?_));generalize hL:LR _ yl _ _ _ _ D2 .ready=LRR at H ⊢;obtain⟨J,hJ⟩:∃ J:List Nat→Q2,J=fun ks=>ex fun y:List Nat×List Nat=>star [prop (y.1.Pairwise (· < ·)∧y.1.length≤1000∧y.2.Pairwise (· < ·)∧∀ j,j∈y.2↔j∈ks∨j∈N),LRR,Qh u.tp (UT region q s.tab ks),V7 p u,mp (ki .i64) Qr u.mm (s.mns.map Qz),Qs gi y.1,Qs gq y.2,pts b2 (row 44 [pp p]),pts b7 (row 3 [.int .i64 q])]:=⟨_,rfl⟩
  have hin:∀ (ks M1 N1:List Nat) (w:World) (l':List Q2),(M1.Pairwise (· < ·)∧M1.length≤1000∧N1.Pairwise (· < ·)∧∀ j,j∈N1↔j∈ks∨j∈N)→Q0 w (LRR::Qh u.tp (UT region q s.tab ks)::V7 p u::mp (ki .i64) Qr u.mm (s.mns.map Qz)::Qs gi M1::Qs gq N1::pts b2 (row 44 [pp p])::pts b7 (row 3 [.int .i64 q])::l')→Q0 w (J ks::l'):=by
   intro ks M1 N1 w l' h H;rw[hJ];exact Q0.ex.2 ⟨(M1,N1),Q0.star.2 (Q0.prop.2 ⟨h,H⟩)⟩
  have hout:∀ (ks:List Nat) (w:World) (l':List Q2),Q0 w (J ks::l')→∃ M1 N1,(M1.Pairwise (· < ·)∧M1.length≤1000∧N1.Pairwise (· < ·)∧∀ j,j∈N1↔j∈ks∨j∈N)∧Q0 w (LRR::Qh u.tp (UT region q s.tab ks)::V7 p u::mp (ki .i64) Qr u.mm (s.mns.map Qz)::Qs gi M1::Qs gq N1::pts b2 (row 44 [pp p])::pts b7 (row 3 [.int .i64 q])::l'):=by
   intro ks w l' H;rw[hJ] at H;obtain⟨⟨M1,N1⟩,H⟩:=Q0.ex.1 H;exact⟨M1,N1,Q0.prop.1 (Q0.star.1 H)⟩
  replace H:=Js [0,15,11,16,3,3,9,8,1,1,1,1,1,1,1,1,1,1,1,1,0] 0 H;rw[← fm region q s.tab] at H;replace H:=hin [] M N _ _ ⟨hMm.1,by omega,hNn.1,fun j=>by simp⟩ H;refine call (Ew yl bv av cv M (by omega) J ?_ H) ?_
  ·clear H;intro ks k tt rest w hpre H;obtain⟨M1,N1,⟨hM1,hM2,hN1,hN2⟩,H⟩:=hout _ _ _ H;subst hL;have hkM:k∈M:=by rw[hpre];simp
   have hkn:k∉ks:=fun h=>by
    have h1:=hMm.1;rw[hpre,List.pairwise_append] at h1;have:=h1.2.2 k h k List.mem_cons_self;omega
   obtain⟨g,e,hk,her⟩:=(hMm.2 k).1 hkM;have her:e.region=region:=her
   have hk':(UT region q s.tab ks)[k]? = some ⟨g,some e⟩:=by
    rw[Cc,hk];simp only[Option.map_some];rw[if_neg hkn]
   have hkN:k∉N1:=fun h=>by
    rcases (hN2 k).1 h with h|h
    ·exact hkn h
    ·obtain⟨g',e',h1,h2⟩:=(hNn.2 k).1 h;rw[hk] at h1;injection h1 with h1
     injection h1 with _ h1
     injection h1 with h1
     subst h1;have h2:e.region=q:=h2;omega
   have hN1l:N1.length≤64:=hbl N1 hN1 fun y hy=>by
    rcases (hN2 y).1 hy with h|h
    ·exact hMt y (by rw[hpre];exact List.mem_append.2 (.inl h))
    ·exact hNt y h
   refine Ko (args:=[.int .i64 k]) H rfl rfl ?_;refine VC H ?_;refine⟨rfl,_,H,fun w H=>QS ?_⟩;generalize hLB:LR _ yl _ _ _ _ D2 .busy=LB at H ⊢;replace H:=Js [1,1,0] 0 H;refine Xe H ?_;refine Jc rfl rfl (IV p u (UT region q s.tab ks) k g e hk' H) ?_;clear H;rintro v w ⟨rfl,H⟩;refine Vi H ?_;clear H;intro b10 w H;refine VZ H ?_;clear H;intro b11 w H;refine J3 H ?_;clear H;intro w H;refine J3 H ?_;clear H;intro w H;refine Q6 ?_;refine Xe H ?_;refine K4 H ?_;refine Gf H ?_;replace H:=Js [2,2,3,3,3,2,2,2,0,0] 0 H;refine Jc rfl rfl (On p u (UT region q s.tab ks) (s.mns.map Qz) k g e hk' q e.addr gi gq M1 N1 (by rw[her];exact hkM1') hkM2' hM1 hM2 hN1 (by omega) hkN H) ?_;clear H;rintro v w ⟨rfl,H⟩;rw[fp hk her] at H;refine Q6 ?_;subst hLB;replace H:=Js [5,0,0,0,0,0,0,0] 2 H;refine⟨rfl,_,H,fun w H=>⟨rfl,hin _ _ _ _ _ ⟨hM1.filter _,Nat.le_trans (List.length_filter_le _ _) hM2,En hN1 hkN,fun j=>?_⟩ H⟩⟩;rw[Em,hN2,List.mem_append,List.mem_singleton];constructor
   ·rintro(h|h|h)
    ·exact .inl (.inr h)
    ·exact .inl (.inl h)
    ·exact .inr h
   ·rintro((h|h)|h)
    ·exact .inr (.inl h)
    ·exact .inl h
    ·exact .inr (.inr h)
  ·clear H;rintro v w H;obtain⟨M1,N1,⟨hM1,hM2,hN1,hN2⟩,H⟩:=hout _ _ _ H;subst hL;refine⟨_,H,fun w H=>?_⟩;replace H:=Js [0,0,0,1,1,1,3,3,4,4,4,4,4,4,4,4] 4 H;exact⟨rfl,D2,N1,rfl,hN1,hN2,rfl,rfl,rfl,H⟩
 clear H;rintro ms σ w ⟨D2,N',rfl,hN1,hN2,g1,g2,g7,H⟩;rw[Q1 g1,Q1 g2,Q1 g7];rw[fq hMm.2] at H;refine Xg H ?_;refine Q5 rfl (XJ (key:=region) H rfl rfl VP rfl ?_);clear H;intro w H;refine Q6 ?_;refine Xg H ?_;refine Q5 rfl (XJ (key:=region) H rfl rfl VP rfl ?_);clear H;intro w H;refine Q6 ?_
 have hkeyS:QB (s.sps.map VJ) region=(c1++(q,bq,Z5 S T)::c2).map VJ:=by
  have h1:((s.sps.map VJ).map (·.1)).Nodup:=by rw[List.map_map];show (s.sps.map fun z=>z.1).Nodup;rw[hw.skeys];exact hT.nd
  rw[hs1,List.map_append,List.map_cons] at h1 ⊢;rw[WY (p:=(region,bi)) h1,← List.map_append,hs2,List.map_append,List.map_append,List.map_cons,List.map_cons]
 have hkeyM:QB (s.mns.map Qz) region=(e1++(q,gq,N')::e2).map Qz:=by
  have h1:((s.mns.map Qz).map (·.1)).Nodup:=by rw[List.map_map];show (s.mns.map fun z=>z.1).Nodup;rw[hw.mkeys];exact hT.nd
  rw[hm1,List.map_append,List.map_cons] at h1 ⊢;rw[WY (p:=(region,gi)) h1,← List.map_append,hm2,List.map_append,List.map_append,List.map_cons,List.map_cons]
 rw[hkeyS,hkeyM] at H;replace H:=Js [7,8,0,0,0,0,0,0,0,0,0,0,0,0,0,0] 0 H;replace H:=(Q0.pick (R:=VT u.sp) (x:=(q,bq,Z5 S T)) (gs:=c1++(q,bq,Z5 S T)::c2) (g1:=c1) (g2:=c2) rfl).2 H;replace H:=Js [4,6,0,0,0,0,0,0,0,0,0,0,0,0,0] 0 H;replace H:=(Q0.pick (R:=VY) (x:=(q,gq,N')) (gs:=e1++(q,gq,N')::e2) (g1:=e1) (g2:=e2) rfl).2 H;have hwf:=eK hw hT.nd hne.symm hP hs1 hs2 hm1 hm2 hol hog hN1 hN2 s.rem;have hmem:VI { s with own:=own',tab:=s.tab.map (Zn region q),par:=par',rem:=s.rem,sps:=c1++(q,bq,Z5 S T)::c2,mns:=e1++(q,gq,N')::e2 } mem:=eR hm hol rfl rfl;have hpart:Vt s→Vt { s with own:=own',tab:=s.tab.map (Zn region q),par:=par',rem:=s.rem,sps:=c1++(q,bq,Z5 S T)::c2,mns:=e1++(q,gq,N')::e2 }:=fun h=>eW h (by rw[hw.skeys];exact hT.nd) hs1 hs2 rfl rfl rfl;have hnd:=Aa (H.pull 10);replace H:=Js [3,7,7,6,2,7,5,5,1,1,0,0,0,0] 0 H;replace H:=VG hwf hmem H;refine Bp H ?_;refine GG H ?_;clear H;intro bS w H;replace H:Q0 w (pts bS (row 3 (Qc [q]++[]))::_):=H;replace H:=Z9 (E:=3) (k:=1) (len:=1) (cap:=1) (c:=Qc [q]) (spare:=[]) rfl ⟨by decide,by decide⟩ (by decide) H;have hrec:=Oo p { s with own:=own',tab:=s.tab.map (Zn region q),par:=par',rem:=s.rem,sps:=c1++(q,bq,Z5 S T)::c2,mns:=e1++(q,gq,N')::e2 } s.rem hnd _ [q] (fun x hx=>by rw[List.mem_singleton] at hx;subst hx;simp) (by simp) H;refine Jc rfl rfl (hrec) ?_;clear H hrec;rintro v w ⟨rfl,D,R',hD,hN,H⟩;refine Q6 ?_;refine Gz H ?_;refine J2 H ?_;replace H:=Js [3,0] 2 H;refine Q3 (Rk (ms:=[D2]) _ (.inr rfl) ((Q0.star (k:=[pts D2 (.deferred (some []))])).2 H) rfl fun w' H' => .inr ⟨hq0,rfl,{ s with own:=own',tab:=s.tab.map (Zn region q),par:=par',rem:=R',sps:=c1++(q,bq,Z5 S T)::c2,mns:=e1++(q,gq,N')::e2 },⟨rfl,hol,rfl,rfl,hP,rfl,⟨D,fun r=>?_,⟨hN.nd,hN.on,hN.off⟩⟩,hpart⟩,H'⟩);rw[hD r];constructor
 ·rintro⟨k,g,e,h1,h2,h3⟩;exact⟨k,g,e,⟨g,e,h1,List.mem_singleton.1 h2⟩,h1,h3⟩
 ·rintro⟨k,g,e,⟨g',e',h1,h2⟩,h3,h4⟩;refine⟨k,g,e,h3,?_,h4⟩;have h1:=h1.symm.trans h3;injection h1 with h1
  injection h1 with _ h1
  injection h1 with h1
  rw[← h1,h2];exact List.mem_singleton.2 rfl
end Go.Proofs.YtmjdnljneifpcaaGreatDoor
namespace Go.Proofs.YtmjdnljneifpcaaGreatDoor
open Go.SL
theorem fu [Q4] (p o sp owner owner2:Nat) (S T:QE) (size:Nat) (mem own:List Nat) {A B:List (Nat×Nat)} {c n:Nat} (hSp:S.parts=A++(c,n)::B) (hA:∀ y∈A,y.1≠c) (hn2:2≤n) (ho:1≤owner2) (hS:S.parts.length≤1000) (hT:T.parts.length≤1000) (h63:own.length≤63)
  (hcn:c+n≤own.length) (hown:∀ d,c≤d→d < c+n→own.getD d 0≠0) {w:World} {fr:List Q2} (H:Q0 w (Qi p sp owner S::Qi o sp owner2 T::ST sp size mem own::fr)) :
  Calls Tryz.prog 73 #[pp p,pp o,.int .i64 c] w (ret fun v w'=>v = .int .i64 0∧Q0 w' (Qi p sp owner { S with parts:=A++B }::Qi o sp owner2 { T with parts:=T.parts++[(c,n)] }::ST sp size mem (V3 own c n owner2)::fr)):=by
 have hf:Xs S.parts c=some (c,n):=by
  unfold Xs;rw[hSp,List.find?_append,List.find?_eq_none.2 (fun y hy=>by simpa using hA y hy),List.find?_cons_of_pos (by simp)];rfl
 have hk:S.parts[A.length]? = some (c,n):=by rw[hSp,List.getElem?_append_right (Nat.le_refl _),Nat.sub_self];rfl
 have htk:S.parts.take A.length=A:=by rw[hSp,List.take_left'];rfl
 have hdr:S.parts.drop (A.length+1)=B:=by
  rw[hSp,show A++(c,n)::B=(A++[(c,n)])++B by simp,List.drop_left'];simp
 refine QQ Tryz.func73 rfl (by kernel_rfl) ?_;refine Uj H ?_;refine Jc rfl rfl (O3 p o sp owner owner2 S T H) ?_;clear H;rintro v w ⟨rfl,H⟩;refine Yi H ?_;refine J5 H ?_;refine Jc rfl rfl (IU p sp owner S c (by omega) H) ?_;clear H;rintro v w ⟨rfl,H⟩;rw[hf];refine Vi H ?_;clear H;intro b8 w H;refine J3 H ?_;clear H;intro w H;refine Dj H ?_;refine Gw H ?_;rw[show (((n:Nat):Int) == (1:Int))=false by rw[beq_eq_false_iff_ne];omega];refine Y0 H ?_;refine Ge H ?_;replace H:=Js [1,0] 0 H;refine Jc rfl rfl (Ny p sp owner S A.length c n hk (by rw[htk];exact fun y hy h=>hA y hy (by rw[h])) (by omega) H) ?_;clear H;rintro v w ⟨rfl,H⟩;rw[htk,hdr] at H;refine Q6 ?_;refine Ge H ?_;replace H:=Js [2,2,0,0] 0 H;refine Jc rfl rfl (O2 o sp owner2 T size mem own c n ho (by omega) h63 (fun j hj=>⟨by omega,hown _ (by omega) (by omega)⟩) (by omega) (by omega) H) ?_;clear H;rintro v w ⟨rfl,H⟩;refine Rw H ?_;replace H:=Js [2,0,0] 1 H;exact Q3 (Jy H rfl fun w' H'=>⟨rfl,H'⟩)
def Cd (S:QE) (d:Nat):Bool:=S.parts.any fun x=>decide (1 < x.2∧x.1≤d∧d < x.1+x.2)
theorem fw [Q4] (p sp owner:Nat) (S:QE) (d:Nat) (hp:S.parts.length≤1000) (hb:∀ x∈S.parts,x.1+x.2≤1000) {w:World} {fr:List Q2} (H:Q0 w (Qi p sp owner S::fr)) :
  Calls Tryz.prog 69 #[pp p,.int .i64 d] w (ret fun v w'=>v = .bool (Cd S d)∧Q0 w' (Qi p sp owner S::fr)):=by
 obtain⟨a,c,H⟩:=Zy H;refine QQ Tryz.func69 rfl (by kernel_rfl) ?_;refine K7 H ?_;refine KX H ?_;replace H:=Js [1,0] 0 H;refine Qj (fun ms σ w z=>ms=[]∧∃ i:Nat,i≤S.parts.length∧z=S.parts.length - i∧(∀ y∈S.parts.take i,¬ (1 < y.2∧y.1≤d∧d < y.1+y.2))∧σ 1 = .int .i64 d∧σ 12 = .slice a S.parts.length c∧σ 13 = .int .i64 S.parts.length∧σ 14 = .int .i64 i∧Q0 w (QC 208 2 (.slice a S.parts.length c) (S.parts.flatMap Vb)::pts p (row 206 [pp sp,.int .i64 owner,.slice a S.parts.length c,.int .i64 S.at',.int .i64 S.fin])::fr)) (m:=S.parts.length) ⟨rfl,0,by omega,by omega,(fun y hy=>by simp at hy),rfl,rfl,rfl,rfl,H⟩ ?_;clear H;rintro ms σ w z ⟨rfl,i,hi,rfl,hno,g1,g12,g13,g14,H⟩;rw[Q1 g1,Q1 g12,Q1 g13,Q1 g14];refine J7 H ?_;refine Qf rfl (fun h=>QW ?_) (fun h=>Qp ?_)
 ·have hlt:i < S.parts.length:=by omega
  have hn:=List.getElem?_eq_getElem hlt;have htk:S.parts.take (i+1)=S.parts.take i++[S.parts[i]]:=by rw[List.take_add_one,hn];rfl
  have hmem:=List.getElem_mem hlt;generalize S.parts[i]=x at hn htk hmem;obtain⟨x1,x2⟩:=x;have hb0:x1+x2≤1000:=hb _ hmem;obtain⟨bT,sT,rfl,H,hcl⟩:=Qx H (by omega);have hrd:QY (S.parts.flatMap Vb++sT) (i*2+0) 2 (Vb (x1,x2)):=Wk (vs:=Vb (x1,x2)) XV hn (by repeat first|exact .nil _|apply QY.cons rfl);have ei:0+((i:Nat):Int).toNat*2=i*2:=by simp
  refine YY H ?_;refine Jd ?_;rw[ei];refine Q5 rfl (VH H rfl hrd rfl ?_);refine VZ H ?_;clear H;intro b6 w H;refine J3 H ?_;clear H;intro w H;refine Q6 ?_;have hfin:∀ {w:World} {l:List Q2},Q0 w l→(1 < x2∧x1≤d∧d < x1+x2)→Cd S d=true:=fun _ h=>List.any_eq_true.2 ⟨_,hmem,decide_eq_true h⟩
  have hstep:¬ (1 < x2∧x1≤d∧d < x1+x2)→∀ y∈S.parts.take (i+1),¬ (1 < y.2∧y.1≤d∧d < y.1+y.2):=fun h y hy=>by
   rw[htk] at hy
   rcases List.mem_append.1 hy with hy|hy
   ·exact hno y hy
   ·rw[List.mem_singleton] at hy;subst hy;exact h
  replace H:=Js [1,0] 0 H;replace H:=hcl _ _ H;replace H:=Js [1,0] 0 H;refine Kr H ?_;by_cases h1:1 < x2
  ·rw[show decide (((x2:Nat):Int) > (1:Int))=true from decide_eq_true (by omega)];refine Wp H ?_;refine Gw H ?_;by_cases h2:x1≤d
   ·rw[show decide (((d:Nat):Int)≥((x1:Nat):Int))=true from decide_eq_true (by omega)];refine BQ H ?_;refine Uf H ?_;refine Gw H ?_;rw[QT (x:=(x1:Int)+(x2:Int)) (by omega) (by omega)];refine Yp H ?_;by_cases h3:d < x1+x2
    ·rw[show decide (((d:Nat):Int) < (x1:Int)+(x2:Int))=true from decide_eq_true (by omega)];refine UU H ?_;rw[hfin H ⟨h1,h2,h3⟩];exact Q3 (Jy H rfl fun w' H'=>⟨rfl,Z0 H'.drop.swap⟩)
    ·rw[show decide (((d:Nat):Int) < (x1:Int)+(x2:Int))=false from decide_eq_false (by omega)];refine KV H ?_;exact⟨_,⟨rfl,i+1,hlt,rfl,hstep (fun h=>h3 h.2.2),rfl,rfl,rfl,Qb (by omega),H.drop⟩,by omega⟩
   ·rw[show decide (((d:Nat):Int)≥((x1:Nat):Int))=false from decide_eq_false (by omega)];refine Uz H ?_;refine Kx H ?_;refine KV H ?_;exact⟨_,⟨rfl,i+1,hlt,rfl,hstep (fun h=>h2 h.2.1),rfl,rfl,rfl,Qb (by omega),H.drop⟩,by omega⟩
  ·rw[show decide (((x2:Nat):Int) > (1:Int))=false from decide_eq_false (by omega)];refine DT H ?_;refine Uz H ?_;refine Kx H ?_;refine KV H ?_;exact⟨_,⟨rfl,i+1,hlt,rfl,hstep (fun h=>h1 h.1),rfl,rfl,rfl,Qb (by omega),H.drop⟩,by omega⟩
 ·have hge:i=S.parts.length:=by omega
  subst hge;rw[List.take_length] at hno;have hf:Cd S d=false:=List.any_eq_false.2 (fun y hy=>by simpa using hno y hy);rw[hf];refine VC H ?_;exact Q3 (Jy H rfl fun w' H'=>⟨rfl,Z0 H'.swap⟩)
end Go.Proofs.YtmjdnljneifpcaaGreatDoor
namespace Go.SL
open Go.Op
section
variable {P:Program} {n:Nat} {r:Option Nat} {σ:QU} {w:World} {l:List Q2}
variable {t u:TypeId} {p:String} {af:Array Edge} {g:Option (Nat×Bool)} {d:Option Tmp} {x y z:Operand} {K:QU→World→Prop}
theorem gQ [Q4] {e size bytes b o1 o2 m cap cap' E:Nat} {c vs:List Value} [hT:VX P t e size bytes] (H:Q0 w (pts b (row E c)::l)) (hx:ev σ x = .slice (some ⟨b,o1,none⟩) m cap) (hy:ev σ y = .slice (some ⟨b,o2,none⟩) m cap') (hrd:QY c o2 (m*size) vs) (hl:o1+m*size≤c.length) (h1:vs.all (·.oneCell')=true) (hd:Qd n d=true)
  (k:∀ w',Q0 w' (pts b (row E (wr c o1 vs))::l)→K (put σ d (.int .i64 m)) w'):St P n r ⟨d,.call { callee := .builtin .copy,args:=#[x,y],argTypes:=#[t,t] },u,p,af,g⟩ σ w K:=by
 have hs:(sizeOf e).run P w = .ok size w:=by
  obtain⟨k,hk,e2⟩:=Option.map_eq_some_iff.1 hT.info;simp only[Prod.mk.injEq] at e2;exact Zs (by rw[hk];simp[e2.1])
 have ev1:=hrd.len;have hbk:w.heap[b]? = some (.cells c.toArray E (0,0)):=H.pts
 have hfc:(Builtin.firstCells size m (.slice (some ⟨b,o2,none⟩) m cap')).run P w = .ok vs.toArray w:=by
  unfold Builtin.firstCells
  have:=run_loadCells_list (P:=P) (w:=w) ⟨b,o2,none⟩ vs (fun j v hj=>by
   rw[Z8];exact Zf hbk (hrd.get j v hj))
  rwa [ev1] at this
 obtain⟨w',hr,h2,h3,h4⟩:=As (P:=P) vs w b o1 E c 0 H.pts (by omega) (List.all_eq_true.1 h1);rw[Nat.add_zero] at h2;have H':=H.set (o':=row E (wr c o1 vs)) h2 h3 h4;refine V1 (v := .int .i64 m) (w':=w') hd (fun c e=>by cases e) ?_ (k w' H');have hmin:Nat.min m m=m:=Nat.min_self m;simp[execOp,resolve,invoke,builtin,hx,hy,Builtin.copy_,Vk hT.und,Builtin.lenOf,hmin,hs,hfc,hr,goInt]
end
end Go.SL
namespace Go.Proofs.YtmjdnljneifpcaaGreatDoor
open Go.SL
def Uq (l:List Nat) (a b n:Nat):List Nat:=l.take a++(l.drop b).take n++l.drop (a+n)
theorem Ot {l:List Nat} {a b n:Nat} (h1:a+n≤l.length) (h2:b+n≤l.length):(Uq l a b n).length=l.length:=by simp[Uq];omega
theorem gV {l:List Nat} {a b n:Nat} (h1:a+n≤l.length) (h2:b+n≤l.length) {i:Nat} (hi:i < n):(Uq l a b n)[a+i]? = l[b+i]?:=by
 unfold Uq;rw[List.append_assoc,List.getElem?_append_right (by simp;omega),List.getElem?_append_left (by simp;omega)];have e1:(l.take a).length=a:=by simp;omega
 rw[e1,Nat.add_sub_cancel_left,List.getElem?_take_of_lt hi,List.getElem?_drop]
theorem gY {l:List Nat} {a b n:Nat} (h1:a+n≤l.length) (h2:b+n≤l.length) {j:Nat} (hj:j < a∨a+n≤j):(Uq l a b n)[j]? = l[j]?:=by
 unfold Uq;rw[List.append_assoc]
 rcases hj with hj|hj
 ·rw[List.getElem?_append_left (by simp;omega),List.getElem?_take_of_lt hj]
 ·rw[List.getElem?_append_right (by simp;omega),List.getElem?_append_right (by simp;omega),List.getElem?_drop];congr 1;simp;omega
theorem gZ [Q4] (p size:Nat) (mem own:List Nat) (a b n:Nat) (h1:1≤n) (h2:a+n≤mem.length) (h3:Gh size own a n) (h4:b+n≤mem.length) (h5:Gh size own b n) {w:World} {fr:List Q2} (H:Q0 w (ST p size mem own::fr)) :
  Calls Tryz.prog 139 #[pp p,.int .i64 a,.int .i64 b,.int .i64 n] w (ret fun v w'=>v = .int .i64 0∧Q0 w' (ST p size (Uq mem a b n) own::fr)):=by
 refine QQ Tryz.func139 rfl (by kernel_rfl) ?_;refine Ln H ?_;refine Vh H ?_;refine Jc rfl rfl (AA p size mem own a n h1 h2 h3 H) ?_;clear H;rintro v w ⟨rfl,H⟩;refine W0 H ?_;refine Jc rfl rfl (AA p size mem own b n h1 h4 h5 H) ?_;clear H;rintro v w ⟨rfl,H⟩;refine K2 H ?_;refine Vy (fun ms σ w=>ms=[]∧σ 0=pp p∧σ 1 = .int .i64 a∧σ 2 = .int .i64 b∧σ 3 = .int .i64 n∧Q0 w (ST p size mem own::fr)) ?_ ?_
 ·refine QS ?_;refine W1 H ?_;refine K3 H ?_;refine W1 H ?_;refine W2 H ?_;exact .inl ⟨rfl,rfl,rfl,rfl,rfl,rfl,H⟩
 ·clear H;rintro ms σ w ⟨rfl,g0,g1,g2,g3,H⟩;rw[Q1 g0,Q1 g1,Q1 g2,Q1 g3];obtain⟨v,v2,u,ws,many,hok,H⟩:=U0 H;have H:=H.swap;have hmem:mem.length≤1048576:=by rw[hok.len];exact Nat.mul_le_mul hok.c2 hok.s2
  obtain⟨a1,c1,rfl⟩:=QD H (Yw mem) (by decide)
  rcases G8 H with ⟨h,_⟩|⟨bb,len,cap',s,h,e3,e4,e5,H⟩
  ·injection h with h4 h5 h6;omega
  injection h with h6 h7 h8
  subst h6 h7 h8;have hvl:(QP ((mem.drop b).take n)).length=n:=by simp[QP];omega
  have hrd:QY (QP mem++s) (0+b*1) ((b+n - b)*1) (QP ((mem.drop b).take n)):=by
   have e:(QP ((mem.drop b).take n)).length=(b+n - b)*1:=by rw[hvl];omega
   rw[← e];refine QY.of_get fun j v hj=>?_;have hj':j < n:=by have:=(List.getElem?_eq_some_iff.1 hj).1;omega
   rw[List.getElem?_append_left (by simp[QP];omega)];simp only[QP,List.getElem?_map,List.getElem?_take_of_lt hj',List.getElem?_drop] at hj;simp only[QP,List.getElem?_map,Nat.zero_add,Nat.mul_one];exact hj
  have hrd:QY (QP mem++s) (0+b*1) ((a+n - a)*1) (QP ((mem.drop b).take n)):=by
   rw[show a+n - a=b+n - b by omega];exact hrd
  have hs1:(QP ((mem.drop b).take n)).all (·.oneCell')=true:=List.all_eq_true.2 fun v hv=>by
   simp only[QP,List.mem_map] at hv;obtain⟨x,_,rfl⟩:=hv;rfl
  refine J1 H ?_;clear H;intro w H;refine YT H ?_;refine Jl 3 [18] H ?_;refine Ug H ?_;refine Xa H ?_;rw[QT (x:=(a:Int)+(n:Int)) (by omega) (by omega),show (a:Int)+(n:Int)=((a+n:Nat):Int) by omega];refine B7 8 rfl (Q8.none rfl) rfl rfl rfl (by omega) (by omega) (by omega) (by kernel_rfl) ?_;refine BC H ?_;refine Jl 12 [18] H ?_;refine Ja 13 ?_;refine Ja 14 ?_;refine Ja 15 ?_;refine Ja 16 ?_;rw[QT (x:=(b:Int)+(n:Int)) (by omega) (by omega),show (b:Int)+(n:Int)=((b+n:Nat):Int) by omega];refine B7 17 rfl (Q8.none rfl) rfl rfl rfl (by omega) (by omega) (by omega) (by kernel_rfl) ?_;rw[show b+n - b=a+n - a by omega];refine Jo 18 H ?_;refine gQ H rfl rfl hrd (by simp only[List.length_append,Yw];omega) hs1 rfl ?_;clear H;intro w H;refine BD H ?_;have hcl:(Uq mem a b n).length=mem.length:=Ot h2 h4
  have hwr:wr (QP mem++s) (0+a*1) (QP ((mem.drop b).take n))=QP (Uq mem a b n)++s:=by
   rw[D0 _ _ _ (by rw[hvl,List.length_append,Yw];omega),hvl];unfold Uq QP;rw[Nat.zero_add,Nat.mul_one,List.take_append_of_le_length (by simp;omega),List.drop_append_of_le_length (by simp;omega)];simp[List.map_take,List.map_drop]
  rw[hwr] at H;exact Q3 (Jy (GR (hok.mem hcl) (Z9 (by rw[Yw,hcl]) e4 e5 H).swap) rfl fun w' H'=>⟨rfl,H'⟩)
end Go.Proofs.YtmjdnljneifpcaaGreatDoor
namespace Go.Proofs.YtmjdnljneifpcaaGreatDoor
open Go.SL
theorem gG [Q4] (ip sp bp size:Nat) (ls:List QJ) (mem own:List Nat) (to addr i c s n:Nat) (l:QJ) (h:XY ls size mem own addr i c s n l) (hto:to+(n+1)≤mem.length) (ho:Gh size own to (n+1)) {w:World} {fr:List Q2} (H:Q0 w (Qw ip sp bp::Ql bp ls::ST sp size mem own::fr)) :
  Calls Tryz.prog 74 #[pp ip,.int .i64 to,.int .i64 addr] w (ret fun v w'=>v = .tuple #[.int .i64 ((n+1:Nat):Int),.int .i64 0]∧Q0 w' (Qw ip sp bp::Ql bp ls::ST sp size (Uq mem to addr (n+1)) own::fr)):=by
 have hf:=h.fit;refine QQ Tryz.func74 rfl (by kernel_rfl) ?_;refine X5 H ?_;refine Jc rfl rfl (C1 ip sp bp size ls mem own addr i c s n l h H) ?_;clear H;rintro v w ⟨rfl,H⟩;refine A7 H ?_;refine VZ H ?_;clear H;intro b8 w H;refine J3 H ?_;clear H;intro w H;refine Bc H ?_;refine Ya H ?_;refine W0 H ?_;replace H:=Js [3,0,0,0] 0 H;refine Jc rfl rfl (gZ sp size mem own to addr (n+1) (by omega) hto ho (by omega) h.owned H) ?_;clear H;rintro v w ⟨rfl,H⟩;refine Yi H ?_;refine V8 H ?_;replace H:=Js [2,2,0] 1 H;exact Q3 (Jy H rfl fun w' H'=>⟨rfl,H'⟩)
end Go.Proofs.YtmjdnljneifpcaaGreatDoor
