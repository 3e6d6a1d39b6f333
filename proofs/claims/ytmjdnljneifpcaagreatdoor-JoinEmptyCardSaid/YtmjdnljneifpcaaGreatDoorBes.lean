/- Cells: what is proved on the way: every input of the statement; no condition. Texts joined: WhoA WhoB WhoC WhoE WhoD EmpW OpnC. -/
import Derived.Test.YtmjdnljneifpcaaGreatDoorBem
import Derived.Test.YtmjdnljneifpcaaGreatDoorBel
import Derived.Test.YtmjdnljneifpcaaGreatDoorBee
import Derived.Test.YtmjdnljneifpcaaGreatDoorBed
import Derived.Test.YtmjdnljneifpcaaGreatDoorBek
import Derived.Test.YtmjdnljneifpcaaGreatDoorBer
import Derived.Test.YtmjdnljneifpcaaGreatDoorRows
import Derived.Lib.SmallJoins
import Derived.Lib.LaidIn
import Derived.Stop.LaidErr
import Derived.Stop.Joined
import Derived.ChangeMaps5
import Derived.ChangeSlices
set_option linter.unusedVariables false
set_option linter.unusedSimpArgs false
set_option linter.unusedSectionVars false
namespace Go.Proofs.YtmjdnljneifpcaaGreatDoor
open List
open Go.SL
def AJ (s:CS) (e:Q8) (p:Nat):Bool:=match YQ e p with
 | .obj a b=>match Qk s.tab a b with
  | some (_,f)=>decide (f.region≠e.region)
  | none=>false
 | _=>false
theorem lw {s:CS} {e f:Q8} {p a b c:Nat} (h:YQ e p = .obj a b) (h2:Qk s.tab a b=some (c,f)):AJ s e p=decide (f.region≠e.region):=by
 unfold AJ;rw[h];show (match Qk s.tab a b with|some (_,f)=>decide (f.region≠e.region)|none=>false)=_;rw[h2]
theorem lz {s:CS} {e:Q8} {p:Nat} (h:∀ a b,YQ e p ≠ .obj a b):AJ s e p=false:=by
 unfold AJ;split
 ·rename_i a b h1;exact absurd h1 (h a b)
 ·rfl
def Gz (s:CS) (k:Nat) (e:Q8) (l:List Nat):List (Int×Int):=(l.filter (AJ s e)).map fun p:Nat=>((k:Int),(p:Int))
def GD (s:CS) (k:Nat):List (Int×Int):=match s.tab[k]? with
 | some ⟨_,some e⟩=>Gz s k e (Rl (Qd s e) e.ws.length)
 | _=>[]
theorem cY {s:CS} {k g:Nat} {e:Q8} (h:s.tab[k]? = some ⟨g,some e⟩):GD s k=Gz s k e (Rl (Qd s e) e.ws.length):=by
 unfold GD;rw[h]
theorem cZ {s:CS} {k:Nat} {r:Int×Int} (h:r∈GD s k):∃ (g:Nat) (e:Q8) (p:Nat),s.tab[k]? = some ⟨g,some e⟩∧r=((k:Int),(p:Int))∧p < e.ws.length∧Va (Qd s e) p=true∧AJ s e p=true:=by
 unfold GD at h;split at h
 ·rename_i g e hk;obtain⟨p,hp,rfl⟩:=mem_map.1 h;obtain⟨h1,h2⟩:=mem_filter.1 hp;obtain⟨h3,h4⟩:=mem_filter.1 h1;exact⟨g,e,p,hk,rfl,mem_range.1 h3,h4,h2⟩
 ·cases h
theorem P8 {s:CS} (hI:Inv s) {k g p:Nat} {e:Q8} (hk:s.tab[k]? = some ⟨g,some e⟩) (hp:p < e.ws.length) (hr:Va (Qd s e) p=true) (t:Int):QV s.rem ((k:Int),(p:Int))=some t↔∃ (a b:Nat) (f:Q8),YQ e p = .obj a b∧Qk s.tab a b=some (a,f)∧f.region≠e.region∧t=a:=by
 rw[hI.rem];constructor
 ·rintro⟨j,q,g1,e1,a,b,f,h0,h1,h2,h3,h4,h5,h6,rfl⟩;injection h0 with iV iY
  obtain rfl:k=j:=by omega
  obtain rfl:p=q:=by omega
  rw[hk] at h1;injection h1 with h1
  injection h1 with _ h1
  injection h1 with h1
  subst h1;exact⟨a,b,f,h4,h5,h6,rfl⟩
 ·rintro⟨a,b,f,h4,h5,h6,rfl⟩;exact⟨k,p,g,e,a,b,f,rfl,hk,hp,hr,h4,h5,h6,rfl⟩
theorem yi {s:CS} (hw:WF s) (hI:Inv s) {k g p:Nat} {e:Q8} (hk:s.tab[k]? = some ⟨g,some e⟩) (hp:p < e.ws.length) (hr:Va (Qd s e) p=true) :
  (∃ (a b:Nat) (f:Q8),YQ e p = .obj a b∧Qk s.tab a b=some (a,f)∧AJ s e p=decide (f.region≠e.region)∧QV s.rem ((k:Int),(p:Int))=if f.region≠e.region then some (a:Int) else none) ∨
  (∃ kd:Nat,kd < 2∧GN (YQ e p) = .agg #[.int .i64 kd,.int .i64 0,.int .i64 0]∧Qk s.tab 0 0=none∧AJ s e p=false∧QV s.rem ((k:Int),(p:Int))=none):=by
 have hz:Qk s.tab 0 0=none:=by
  cases h:Qk s.tab 0 0 with
  | none=>rfl
  | some z=>
   obtain⟨k,e⟩:=z;obtain⟨n,h1,h2,h3⟩:=Yz.1 h;have this:1≤n:=(hw.gen k _ h3).2 rfl;omega
 have VZ:(∀ a b,YQ e p ≠ .obj a b)→QV s.rem ((k:Int),(p:Int))=none:=fun hn=>by
  cases hf:QV s.rem ((k:Int),(p:Int)) with
  | none=>rfl
  | some t=>
   obtain⟨a,b,f,h1,_⟩:=(P8 hI hk hp hr t).1 hf;exact absurd h1 (hn a b)
 cases hl:YQ e p with
 | none=>
  have hn:∀ a b,YQ e p ≠ .obj a b:=fun a b h=>by rw[hl] at h;cases h
  exact .inr ⟨0,by omega,rfl,hz,lz hn,VZ hn⟩
 | grave=>
  have hn:∀ a b,YQ e p ≠ .obj a b:=fun a b h=>by rw[hl] at h;cases h
  exact .inr ⟨1,by omega,rfl,hz,lz hn,VZ hn⟩
 | obj a b=>
  obtain⟨f,hf⟩:=hI.link k g e p a b hk hp hr hl;refine .inl ⟨a,b,f,rfl,hf,lw hl hf,?_⟩;by_cases QB:f.region≠e.region
  ·rw[if_pos QB];exact(P8 hI hk hp hr a).2 ⟨a,b,f,hl,hf,QB,rfl⟩
  ·rw[if_neg QB];cases hq:QV s.rem ((k:Int),(p:Int)) with
   | none=>rfl
   | some t=>
    obtain⟨a',b',f',h1,h2,h3,_⟩:=(P8 hI hk hp hr t).1 hq;rw[hl] at h1;injection h1 with h1 Hi
    subst h1 Hi;rw[hf] at h2;injection h2 with h2
    injection h2 with _ h2
    subst h2;exact absurd h3 QB
theorem m3 {s:CS} (hI:Inv s):((Um s.tab).flatMap (GD s)).length=s.rem.length:=by
 have QP:((Um s.tab).flatMap (GD s)).Nodup:=by
  refine pairwise_flatMap.2 ⟨fun k hk=>?_,?_⟩
  ·unfold GD;split
   ·unfold Gz Rl;refine List.Pairwise.map _ (fun x y (h:x≠y)=>fun RI=>h ?_) ((nodup_range.filter _).filter _);injection RI with _ RI
    omega
   ·exact List.Pairwise.nil
  ·refine List.Pairwise.imp ?_ (nodup_range.filter _);intro k j (Xe:k≠j) x hx y hy RI;obtain⟨_,_,p,_,rfl,_⟩:=cZ hx;obtain⟨_,_,q,_,rfl,_⟩:=cZ hy;injection RI with h1 _
   omega
 have h1:=U5 QP (l₂:=s.rem.map (·.1)) (by
  intro r hr;obtain⟨k,hk,hr⟩:=mem_flatMap.1 hr;obtain⟨g,e,p,h1,rfl,h2,h3,h4⟩:=cZ hr;unfold AJ at h4;split at h4
  ·rename_i a b hl;obtain⟨f,hf⟩:=hI.link k g e p a b h1 h2 h3 hl;rw[hf] at h4;have h4:f.region≠e.region:=by simpa using h4
   have:=(P8 hI h1 h2 h3 a).2 ⟨a,b,f,hl,hf,h4,rfl⟩;exact mem_map.2 ⟨_,KK this,rfl⟩
  ·cases h4)
 have h2:=U5 hI.nd (l₂:=(Um s.tab).flatMap (GD s)) (by
  intro r hr;obtain⟨⟨r',t⟩,hm,rfl⟩:=mem_map.1 hr;obtain⟨k,p,g,e,a,b,f,rfl,h1,h2,h3,h4,h5,h6,_⟩:=(hI.rem r' t).1 ((YI hI.nd).2 hm);have VB:=(List.getElem?_eq_some_iff.1 h1).1;refine mem_flatMap.2 ⟨k,mem_filter.2 ⟨mem_range.2 VB,Fz.2 ⟨g,e,h1⟩⟩,?_⟩;rw[cY h1];exact mem_map.2 ⟨p,mem_filter.2 ⟨mem_filter.2 ⟨mem_range.2 h2,h3⟩,by rw[lw h4 h5];simpa using h6⟩,rfl⟩)
 rw[length_map] at h1 h2;omega
theorem m6 (s:CS) (k:Nat) (e:Q8) (a b:List Nat):Gz s k e (a++b)=Gz s k e a++Gz s k e b:=by
 unfold Gz;rw[filter_append,map_append]
theorem yj (s:CS) (k:Nat) (e:Q8) (a:List Nat) (p:Nat):(Gz s k e (a++[p])).length=(Gz s k e a).length+if AJ s e p=true then 1 else 0:=by
 rw[m6,length_append];unfold Gz;rw[filter_cons];split <;> rfl
theorem yk {s:CS} (hI:Inv s) {ks t:List Nat} {k g:Nat} {e:Q8} (hk:s.tab[k]? = some ⟨g,some e⟩) (h:Um s.tab=ks++k::t) {kp t2:List Nat} (h2:Rl (Qd s e) e.ws.length=kp++t2):(ks.flatMap (GD s)).length+(Gz s k e kp).length≤s.rem.length:=by
 rw[← m3 hI,h,flatMap_append,length_append,flatMap_cons,length_append,cY hk,h2,m6,length_append];omega
set_option maxRecDepth 10000 in
theorem ym [Q4] (p:Nat) (s:CS) (m:MS) (told:List (Nat×Nat)) (hI:Inv s) {w:World} {fr:List Q2} [hT:Z6 0 Lib.deBruijn64tab fr] (H:Q0 w (UO p s m told::fr)) :
  Calls Tryz.prog 51 #[pp p] w (ret fun v w'=>v = .bool true∧Q0 w' (UO p s m told::fr)):=by
 obtain⟨c,mo,a,cap,H⟩:=Dx H;obtain⟨q,mem,hw,hm,H⟩:=Y9 H.swap;replace H:=Js [4,0,9,4,0,0,0,0,0,0,0,0,0,0] 0 H;obtain⟨tq,H,cG⟩:=jW H;refine QQ Tryz.func51 rfl (by kernel_rfl) ?_;refine YM H ?_;clear H;intro b2 w H;refine J2 H ?_;refine G1 H ?_;refine VS H ?_;clear H;intro b3 w H;refine B1 H ?_;clear H;intro w H;refine J2 H ?_;refine YM H ?_;clear H;intro b4 w H;refine B1 H ?_;clear H;intro w H;refine J2 H ?_;refine XJ H ?_;refine Gm H ?_;refine Jc rfl rfl (jH q.tp H) ?_;clear H;rintro v w ⟨bt,rfl,H⟩;refine Bw H ?_;refine Qe (W0 (a:=[]) (b:=[pp bt]) H rfl (fun yl D w H=>?_));generalize hL:LR _ yl _ _ _ _ D .ready=L at H ⊢;obtain⟨J,hJ⟩:∃ J:List Nat→Q2,J=fun ks=>star [L,pts b4 (row 3 [.int .i64 ((ks.flatMap (GD s)).length:Nat)]),pts b3 (row 44 [pp c]),VY c q,RS q.rp s.rem,V6 q.ip q.sp q.bp,Qp q.bp s.lays,ST q.sp s.size mem s.own]:=⟨_,rfl⟩
 have V9:∀ (ks:List Nat) (w:World) (l':List Q2),Q0 w (L::pts b4 (row 3 [.int .i64 ((ks.flatMap (GD s)).length:Nat)])::pts b3 (row 44 [pp c])::VY c q::RS q.rp s.rem::V6 q.ip q.sp q.bp::Qp q.bp s.lays::ST q.sp s.size mem s.own::l')→Q0 w (J ks::l'):=by
  intro ks w l' H;rw[hJ];exact Q0.star.2 H
 have YW:∀ (ks:List Nat) (w:World) (l':List Q2),Q0 w (J ks::l')→Q0 w (L::pts b4 (row 3 [.int .i64 ((ks.flatMap (GD s)).length:Nat)])::pts b3 (row 44 [pp c])::VY c q::RS q.rp s.rem::V6 q.ip q.sp q.bp::Qp q.bp s.lays::ST q.sp s.size mem s.own::l'):=by
  intro ks w l' H;rw[hJ] at H;exact Q0.star.1 H
 replace H:=Js [0,2,2,4,5,5,5,5,1,2,0,0,0,0,0,0,0,0,0,0] 0 H;replace H:=V9 [] _ _ H;refine call (jI yl bt q.tp s.tab tq J ?_ H) ?_
 ·clear H;intro ks k g e rest w hk Yc H;obtain⟨t1,Yc⟩:=Yc;replace H:=YW _ _ _ H;subst hL;refine Kj (args:=[Xv k g,.agg (YX e).toArray]) H rfl rfl ?_;refine YM H ?_;clear H;intro b5 w H;refine J5 H ?_;clear H;intro w H;refine J2 H ?_;refine YM H ?_;clear H;intro b6 w H;refine J5 H ?_;clear H;intro w H;refine J2 H ?_;replace H:=Js [2,0,0,0,0,0,0,0,0,0,0] 0 H;refine⟨rfl,_,H,fun w H=>Qe ?_⟩;refine J1 H ?_;clear H;intro w H;refine NZ H ?_;refine Jf 4 ?_;refine Jl 5 [6] H ?_;refine Jo 6 H ?_;refine Jk rfl rfl (iS q.ip e.addr H) ?_;clear H;rintro v w ⟨bm,ba,rfl,H⟩;refine Jx H ?_;replace H:=Js [2,0,0,0,0,0,0,0,0,0,0,0,0] 0 H;refine J6 H ?_;refine Qe (oU (a:=[]) (b:=[pp bm,pp ba]) H rfl (fun yl2 w H=>?_));generalize US:LR _ yl2 _ _ _ _ D .ready=L2 at H ⊢;generalize hLB:LR _ yl _ _ _ _ D .busy=LB at H ⊢;obtain⟨J3,m7⟩:∃ J3:List Nat→Q2,J3=fun kp=>star [L2,LB,pts b6 (row 113 (YX e)),pts b5 (row 69 [.int .i64 k,.int .i64 g]),pts b4 (row 3 [.int .i64 (((ks.flatMap (GD s)).length+(Gz s k e kp).length:Nat):Int)]),pts b3 (row 44 [pp c]),VY c q,RS q.rp s.rem,Gx q.tp s.tab tq]:=⟨_,rfl⟩
  have ED:∀ (kp:List Nat) (w:World) (l':List Q2),Q0 w (L2::LB::pts b6 (row 113 (YX e))::pts b5 (row 69 [.int .i64 k,.int .i64 g])::pts b4 (row 3 [.int .i64 (((ks.flatMap (GD s)).length+(Gz s k e kp).length:Nat):Int)])::pts b3 (row 44 [pp c])::VY c q::RS q.rp s.rem::Gx q.tp s.tab tq::l')→Q0 w (J3 kp::l'):=by
   intro kp w l' H;rw[m7];exact Q0.star.2 H
  have m9:∀ (kp:List Nat) (w:World) (l':List Q2),Q0 w (J3 kp::l')→Q0 w (L2::LB::pts b6 (row 113 (YX e))::pts b5 (row 69 [.int .i64 k,.int .i64 g])::pts b4 (row 3 [.int .i64 (((ks.flatMap (GD s)).length+(Gz s k e kp).length:Nat):Int)])::pts b3 (row 44 [pp c])::VY c q::RS q.rp s.rem::Gx q.tp s.tab tq::l'):=by
   intro kp w l' H;rw[m7] at H;exact Q0.star.1 H
  replace H:=Js [0,0,2,2,2,2,2,2,5,0,0,0,0,0] 0 H;replace H:=ED [] _ _ H;refine call (iT yl2 bm ba q.ip q.sp q.bp s.size s.lays s.own e.addr e.lay e.count k e.ws.length (Qd s e) (YQ e) (fun x=>x=mem) (fun x hx=>by rw[hx];exact ia hw hm hk) J3 ?_ rfl H) ?_
  ·clear H;intro kp pl mem' rest2 w EE P9 H;have EE:mem'=mem:=EE;rw[EE] at H;obtain⟨t2,P9⟩:=P9;obtain⟨Uk,D0⟩:=Tf P9;replace H:=m9 _ _ _ H;have hb:=yk hI hk Yc P9;have D9:=OD hw hI.rk;have he:=yj s k e kp pl
   rcases yi hw hI hk Uk D0 with ⟨a1,b1,f,ZE,Q6,PQ,cX⟩|⟨kd,G5,Y4,Q6,PQ,cX⟩
   ·rw[show GN (YQ e pl) = .agg #[.int .i64 2,.int .i64 a1,.int .i64 b1] by rw[ZE]];subst US;refine Kj (args:=[.int .i64 pl,.agg #[.int .i64 2,.int .i64 a1,.int .i64 b1]]) H rfl rfl ?_;refine Vl H ?_;refine YM H ?_;clear H;intro b8 w H;refine J5 H ?_;clear H;intro w H;refine J2 H ?_;replace H:=Js [1,0,0,0,0,0,0,0,0,0,0,0,0] 0 H;refine⟨rfl,_,H,fun w H=>Qe ?_⟩;replace H:=Js [8,7,6,4,1,2,2,2,0,0,0,0,0] 0 H;refine J1 H ?_;clear H;intro w H;refine NY H ?_;refine Ja 6 ?_;refine Uc 7 rfl (Q9.none rfl) rfl (by kernel_rfl) ?_;refine Jo 8 H ?_;refine Jk rfl rfl (Sh q.rp s.rem ((k:Int),(pl:Int)) H) ?_;clear H;rintro v w ⟨rfl,H⟩;rw[cX];by_cases QB:f.region≠e.region
    ·rw[if_pos QB,Option.getD_some,Option.isSome_some];rw[PQ,decide_eq_true QB,if_pos rfl] at he;have AA:(ks.flatMap (GD s)).length+(Gz s k e kp).length+1=(ks.flatMap (GD s)).length+(Gz s k e (kp++[pl])).length:=by omega
     refine Mf H ?_;refine Jx H ?_;replace H:=Js [7,1,1,2,0,0,0,0,0,0,0,0,0] 0 H;refine J1 H ?_;clear H;intro w H;refine Jl 0 [6,11] H ?_;refine WZ H ?_;refine FW H ?_;refine Jw 6 10 H rfl rfl (V1 (a:=[]) (b:=[]) rfl rfl (call (Fy q.tp s.tab tq a1 b1 H) ?_)) (YH H rfl ?_)
     ·clear H;rintro v w ⟨rfl,H⟩;rw[Q6];refine C3 H ?_;clear H;intro b11 w H;refine Km H ?_;clear H;intro w H;refine NE H ?_;rw[show ((f.region:Int) != e.region)=true from bne_iff_ne.2 QB];refine ez H ?_;refine DL H ?_;refine En H ?_;refine Xu H ?_;rw[show (((a1:Nat):Int) != ((a1:Nat):Int))=false from bne_self_eq_false _];refine W2 H ?_;refine J7 H ?_;refine YY rfl ?_;refine XJ H ?_;refine B1 H ?_;clear H;intro w H;refine J2 H ?_;rw[Qh (by omega),AA] at H;replace H:=Js [9,9,7,6,6,3,2,3,1,2,2,2] 2 H;exact⟨rfl,_,H,fun w H=>⟨rfl,mem,rfl,ED _ _ _ H⟩⟩
     ·clear H;intro b11 w H;refine Jo 6 H ?_;refine Jk rfl rfl (Fy q.tp s.tab tq a1 b1 H.swap) ?_;clear H;rintro v w ⟨rfl,H⟩;rw[Q6];refine Ja 7 ?_;refine Ja 8 ?_;refine Ja 9 ?_;replace H:=H.swap;refine Km H ?_;clear H;intro w H;refine NE H ?_;rw[show ((f.region:Int) != e.region)=true from bne_iff_ne.2 QB];refine ez H ?_;refine DL H ?_;refine En H ?_;refine Xu H ?_;rw[show (((a1:Nat):Int) != ((a1:Nat):Int))=false from bne_self_eq_false _];refine W2 H ?_;refine J7 H ?_;refine YY rfl ?_;refine XJ H ?_;refine B1 H ?_;clear H;intro w H;refine J2 H ?_;rw[Qh (by omega),AA] at H;replace H:=Js [9,9,7,6,6,3,2,3,1,2,2,2] 2 H;exact⟨rfl,_,H,fun w H=>⟨rfl,mem,rfl,ED _ _ _ H⟩⟩
    ·rw[if_neg QB,Option.getD_none,Option.isSome_none];rw[PQ,decide_eq_false QB,if_neg (by decide)] at he;have mQ:f.region=e.region:=Classical.byContradiction QB;have AA:(ks.flatMap (GD s)).length+(Gz s k e kp).length=(ks.flatMap (GD s)).length+(Gz s k e (kp++[pl])).length:=by omega
     refine Mf H ?_;refine Jx H ?_;replace H:=Js [7,1,1,2,0,0,0,0,0,0,0,0,0] 0 H;refine J1 H ?_;clear H;intro w H;refine Jl 0 [6,11] H ?_;refine WZ H ?_;refine FW H ?_;refine Jw 6 10 H rfl rfl (V1 (a:=[]) (b:=[]) rfl rfl (call (Fy q.tp s.tab tq a1 b1 H) ?_)) (YH H rfl ?_)
     ·clear H;rintro v w ⟨rfl,H⟩;rw[Q6];refine C3 H ?_;clear H;intro b11 w H;refine Km H ?_;clear H;intro w H;refine NE H ?_;rw[show ((f.region:Int) != e.region)=false by rw[mQ];exact bne_self_eq_false _];refine NF H ?_;rw[AA] at H;replace H:=Js [9,9,7,6,6,3,2,3,1,2,2,2] 2 H;exact⟨rfl,_,H,fun w H=>⟨rfl,mem,rfl,ED _ _ _ H⟩⟩
     ·clear H;intro b11 w H;refine Jo 6 H ?_;refine Jk rfl rfl (Fy q.tp s.tab tq a1 b1 H.swap) ?_;clear H;rintro v w ⟨rfl,H⟩;rw[Q6];refine Ja 7 ?_;refine Ja 8 ?_;refine Ja 9 ?_;replace H:=H.swap;refine Km H ?_;clear H;intro w H;refine NE H ?_;rw[show ((f.region:Int) != e.region)=false by rw[mQ];exact bne_self_eq_false _];refine NF H ?_;rw[AA] at H;replace H:=Js [9,9,7,6,6,3,2,3,1,2,2,2] 2 H;exact⟨rfl,_,H,fun w H=>⟨rfl,mem,rfl,ED _ _ _ H⟩⟩
   ·rw[Y4];subst US;refine Kj (args:=[.int .i64 pl,.agg #[.int .i64 kd,.int .i64 0,.int .i64 0]]) H rfl rfl ?_;refine Vl H ?_;refine YM H ?_;clear H;intro b8 w H;refine J5 H ?_;clear H;intro w H;refine J2 H ?_;replace H:=Js [1,0,0,0,0,0,0,0,0,0,0,0,0] 0 H;refine⟨rfl,_,H,fun w H=>Qe ?_⟩;replace H:=Js [8,7,6,4,1,2,2,2,0,0,0,0,0] 0 H;refine J1 H ?_;clear H;intro w H;refine NY H ?_;refine Ja 6 ?_;refine Uc 7 rfl (Q9.none rfl) rfl (by kernel_rfl) ?_;refine Jo 8 H ?_;refine Jk rfl rfl (Sh q.rp s.rem ((k:Int),(pl:Int)) H) ?_;clear H;rintro v w ⟨rfl,H⟩;rw[cX];rw[Option.getD_none,Option.isSome_none];rw[PQ,if_neg (by decide)] at he;have AA:(ks.flatMap (GD s)).length+(Gz s k e kp).length=(ks.flatMap (GD s)).length+(Gz s k e (kp++[pl])).length:=by omega
    refine Mf H ?_;refine Jx H ?_;replace H:=Js [7,1,1,2,0,0,0,0,0,0,0,0,0] 0 H;refine J1 H ?_;clear H;intro w H;refine Jl 0 [6,11] H ?_;refine WZ H ?_;refine FW H ?_;refine Jw 6 10 H rfl rfl (V1 (a:=[]) (b:=[]) rfl rfl (call (Fy q.tp s.tab tq 0 0 H) ?_)) (YH H rfl ?_)
    ·clear H;rintro v w ⟨rfl,H⟩;rw[Q6];refine C3 H ?_;clear H;intro b11 w H;refine Km H ?_;clear H;intro w H;refine KH H ?_;refine Wo H ?_;rw[show (((kd:Nat):Int) == 2)=false by rw[beq_eq_false_iff_ne];omega];refine Mp H ?_;refine U3 H ?_;refine V5 rfl rfl rfl ?_;refine NF H ?_;rw[AA] at H;replace H:=Js [9,9,7,6,6,3,2,3,1,2,2,2] 2 H;exact⟨rfl,_,H,fun w H=>⟨rfl,mem,rfl,ED _ _ _ H⟩⟩
    ·clear H;intro b11 w H;refine Jo 6 H ?_;refine Jk rfl rfl (Fy q.tp s.tab tq 0 0 H.swap) ?_;clear H;rintro v w ⟨rfl,H⟩;rw[Q6];refine Ja 7 ?_;refine Ja 8 ?_;refine Ja 9 ?_;replace H:=H.swap;refine Km H ?_;clear H;intro w H;refine KH H ?_;refine Wo H ?_;rw[show (((kd:Nat):Int) == 2)=false by rw[beq_eq_false_iff_ne];omega];refine Mp H ?_;refine U3 H ?_;refine V5 rfl rfl rfl ?_;refine NF H ?_;rw[AA] at H;replace H:=Js [9,9,7,6,6,3,2,3,1,2,2,2] 2 H;exact⟨rfl,_,H,fun w H=>⟨rfl,mem,rfl,ED _ _ _ H⟩⟩
  ·clear H;rintro v w H;obtain⟨mem',EE,H⟩:=H;have EE:mem'=mem:=EE;rw[EE] at H;replace H:=m9 _ _ _ H;subst US;refine⟨_,H,fun w H=>?_⟩;subst hLB
   have hc:(ks.flatMap (GD s)).length+(Gz s k e (Rl (Qd s e) e.ws.length)).length=((ks++[k]).flatMap (GD s)).length:=by
    rw[flatMap_append,length_append,← cY hk];simp
   rw[hc] at H;replace H:=Js [0,2,2,2,2,5,5,5,2] 4 H;exact⟨rfl,_,H,fun w H=>⟨rfl,V9 _ _ _ H⟩⟩
 ·clear H;rintro v w H;replace H:=YW _ _ _ H;rw[m3 hI] at H;subst hL;refine⟨_,H,fun w H=>?_⟩;replace H:=Js [3,2,1,0,0,0,0,0,0,0,0,0,0,0,0,0,0,0,0] 0 H;refine J1 H ?_;clear H;intro w H;refine Jl 0 [4,7] H ?_;refine WZ H ?_;refine Jl 3 [4,7] H ?_;refine Jl 5 [7] H ?_;refine Jo 4 H ?_;refine Jk rfl rfl (pe q.rp s.rem H) ?_;clear H;rintro v w ⟨rfl,H⟩;refine Ja 6 ?_;rw[show ((s.rem.length:Int) == (s.rem.length:Int))=true from beq_self_eq_true _];refine Jo 7 H ?_;refine KE H ?_;clear H;intro w H;refine Jx H ?_;replace H:=Js [8,0,0,0,0,0,0,0,0,0,0,0,0,0,0,0,0,0,0] 0 H;replace H:=cG _ _ H;replace H:=Js [2,4,4,4,0,7,0,6,6,6,6,5,5,5,3,3] 3 H;replace H:=VJ hw hm H;replace H:=Js [1,0,0,0,0,0] 0 H;replace H:=Z1 H;replace H:=Js [1,1,0] 0 H;exact Q3 (Pv (ms:=[D]) _ (.inr rfl) ((Q0.star (k:=[pts D (.deferred (some []))])).2 H) (fun w' H' => .cell1 H' rfl rfl .nil) fun w' H'=>⟨rfl,H'.drop⟩)
theorem yn {ids:List Nat} (hn:ids.Nodup) {r:Nat} (h:r∈ids):(ids.map fun i=>if r=i then 1 else 0).sum=1:=by
 induction ids with
 | nil=>cases h
 | cons a l ih=>
  rw[nodup_cons] at hn;rw[map_cons,sum_cons];by_cases hr:r=a
  ·subst hr
   have h0:∀ l':List Nat,r∉l'→(l'.map fun i=>if r=i then 1 else 0).sum=0:=by
    intro l'
    induction l' with
    | nil=>intro _;rfl
    | cons b l' ih=>
     intro h;rw[mem_cons,not_or] at h;rw[map_cons,sum_cons,if_neg h.1,ih h.2]
   rw[if_pos rfl,h0 l hn.1]
  ·rw[if_neg hr,Nat.zero_add];rw[mem_cons] at h;exact ih hn.2 (h.resolve_left hr)
theorem yo (ids:List Nat) (f g:Nat→Nat):(ids.map fun i=>f i+g i).sum=(ids.map f).sum+(ids.map g).sum:=by
 induction ids with
 | nil=>rfl
 | cons a l ih=>rw[map_cons,sum_cons,ih,map_cons,sum_cons,map_cons,sum_cons];omega
theorem cR {α:Type} {ids:List Nat} (hn:ids.Nodup) (f:α→Nat):∀ {L:List α},(∀ a∈L,f a∈ids)→(ids.map fun i=>(L.filter fun a=>decide (f a=i)).length).sum=L.length
 | [],_=>by
  have:∀ l:List Nat,(l.map fun i=>(([]:List α).filter fun a=>decide (f a=i)).length).sum=0:=by
   intro l
   induction l with
   | nil=>rfl
   | cons b l ih=>rw[map_cons,sum_cons,ih];rfl
  exact this ids
 | a::L,h=>by
  have ih:=cR hn f (L:=L) fun b hb=>h b (mem_cons_of_mem _ hb);have h1:=yn hn (h a mem_cons_self)
  have e:(fun i=>((a::L).filter fun a=>decide (f a=i)).length)=fun i=>(if f a=i then 1 else 0)+(L.filter fun a=>decide (f a=i)).length:=by
   funext i
   rw[filter_cons];by_cases hi:f a=i
   ·rw[if_pos (by simpa using hi),if_pos hi,length_cons,Nat.add_comm]
   ·rw[if_neg (by simpa using hi),if_neg hi,Nat.zero_add]
  rw[e,yo,h1,ih,length_cons,Nat.add_comm]
def AL (ts:List QW) (i:Nat):Nat:=match ts[i]? with
 | some ⟨_,some e⟩=>e.region.toNat
 | _=>0
theorem yp {s:CS} (hw:WF s) {x:Int×Nat×List Nat} (hx:x∈s.mns):x.2.2=(Um s.tab).filter fun i=>decide (AL s.tab i=x.1.toNat):=by
 obtain⟨h1,h2⟩:=hw.mine x hx
 have UH:1≤x.1:=by
  have:x.1∈s.mns.map (·.1):=mem_map.2 ⟨x,hx,rfl⟩;rw[hw.mkeys] at this;obtain⟨⟨r,q⟩,hq,he⟩:=mem_map.1 this;have:=(hw.par.2.2 r q hq).1;have he:r=x.1:=he;omega
 refine Te h1 ((pairwise_lt_range.filter _).filter _) fun i=>?_;rw[h2,mem_filter];unfold Um;rw[mem_filter,mem_range,Fz];constructor
 ·rintro⟨g,e,h3,h4⟩;refine⟨⟨(List.getElem?_eq_some_iff.1 h3).1,g,e,h3⟩,?_⟩;have:AL s.tab i=e.region.toNat:=by unfold AL;rw[h3]
  rw[this,h4];simp
 ·rintro⟨⟨_,g,e,h3⟩,h4⟩;refine⟨g,e,h3,?_⟩;have:AL s.tab i=e.region.toNat:=by unfold AL;rw[h3]
  rw[this] at h4;have h4:e.region.toNat=x.1.toNat:=by simpa using h4
  obtain⟨_,_,q,hq⟩:=hw.obj i g e h3;have:=(hw.par.2.2 _ _ hq).1;omega
theorem mV {α:Type} {f:Nat→Bool} {g:α→Bool} {ts:List α} (h:∀ (i:Nat) (t:α),ts[i]? = some t→f i=g t):((List.range ts.length).filter f).length=(ts.filter g).length:=by
 have e2:∀ (l:List α) (k:Nat),(∀ (i:Nat) (t:α),l[i]? = some t→f (k+i)=g t)→((List.range' k l.length).filter f).length=(l.filter g).length:=by
  intro l
  induction l with
  | nil=>intro k _;rfl
  | cons a l ih=>
   intro k hk;have h0:=hk 0 a rfl;have hr:=ih (k+1) (fun i t ht=>by rw[show k+1+i=k+(i+1) by omega];exact hk (i+1) t (by simpa using ht));rw[length_cons,range'_succ,filter_cons,filter_cons];rw[Nat.add_zero] at h0;rw[h0];split
   ·simp[hr]
   ·exact hr
 rw[range_eq_range'];exact e2 ts 0 (fun i t ht=>by rw[Nat.zero_add];exact h i t ht)
theorem yq (ts:List QW):(Um ts).length=(ts.filter fun t=>t.ent.isSome).length:=by
 refine mV fun i t ht=>?_;unfold XY;rw[ht];obtain⟨g,e⟩:=t;cases e <;> rfl
theorem mY:∀ ts:List QW,U8 ts=(ts.filter fun t=>t.ent.isSome).length+ZV ts
 | []=>rfl
 | t::ts=>by
  have ih:=mY ts;unfold U8 ZV at *;obtain⟨g,e⟩:=t;cases e with
  | some e=>
   have a:(⟨g,some e⟩::ts:List QW).filter busy=⟨g,some e⟩::ts.filter busy:=filter_cons_of_pos rfl;have b:(⟨g,some e⟩::ts:List QW).filter (fun t=>t.ent.isNone && t.gen == 255)=ts.filter (fun t=>t.ent.isNone && t.gen == 255):=filter_cons_of_neg (by simp);have c:(⟨g,some e⟩::ts:List QW).filter (fun t=>t.ent.isSome)=⟨g,some e⟩::ts.filter (fun t=>t.ent.isSome):=filter_cons_of_pos rfl;rw[a,b,c,length_cons,length_cons];omega
  | none=>
   have c:(⟨g,none⟩::ts:List QW).filter (fun t=>t.ent.isSome)=ts.filter (fun t=>t.ent.isSome):=filter_cons_of_neg (by simp);by_cases hg:(g == 255)=true
   ·have a:(⟨g,none⟩::ts:List QW).filter busy=⟨g,none⟩::ts.filter busy:=filter_cons_of_pos hg;have b:(⟨g,none⟩::ts:List QW).filter (fun t=>t.ent.isNone && t.gen == 255)=⟨g,none⟩::ts.filter (fun t=>t.ent.isNone && t.gen == 255):=filter_cons_of_pos hg;rw[a,b,c,length_cons,length_cons];omega
   ·have a:(⟨g,none⟩::ts:List QW).filter busy=ts.filter busy:=filter_cons_of_neg hg;have b:(⟨g,none⟩::ts:List QW).filter (fun t=>t.ent.isNone && t.gen == 255)=ts.filter (fun t=>t.ent.isNone && t.gen == 255):=filter_cons_of_neg hg;rw[a,b,c];omega
theorem mZ (ts:List QW):U8 ts - ZV ts=(Um ts).length:=by
 rw[yq,mY];omega
def Bh (own:List Nat):List Nat:=(List.range own.length).filter fun c=>decide (own.getD c 0≠0)
theorem mG (own:List Nat):(Bh own).length=(own.filter (· != 0)).length:=by
 refine mV fun i t ht=>?_;rw[getD_eq_getElem?_getD,ht,Option.getD_some];by_cases h:t=0
 ·subst h;rfl
 ·rw[decide_eq_true h];exact(bne_iff_ne.2 h).symm
theorem mU {s:CS} (hw:WF s) {x:Int×Nat×QO} (hx:x∈s.sps):(QR x.2.2.parts).length=((Bh s.own).filter fun c=>decide (s.own.getD c 0=x.1.toNat)).length:=by
 have h:=hw.spc x hx
 have UH:1≤x.1:=by
  have:x.1∈s.sps.map (·.1):=mem_map.2 ⟨x,hx,rfl⟩;rw[hw.skeys] at this;obtain⟨⟨r,q⟩,hq,he⟩:=mem_map.1 this;have:=(hw.par.2.2 r q hq).1;have he:r=x.1:=he;omega
 have hm:∀ c,c∈QR x.2.2.parts↔c∈(Bh s.own).filter fun c=>decide (s.own.getD c 0=x.1.toNat):=by
  intro c;rw[h.owned];unfold Bh;rw[mem_filter,mem_filter,mem_range];constructor
  ·rintro⟨q,h1,h2,h3⟩;have h4:s.own.getD c 0=q:=by rw[getD_eq_getElem?_getD,h1,Option.getD_some]
   rw[h4];exact⟨⟨(List.getElem?_eq_some_iff.1 h1).1,by simpa using h3⟩,by rw[decide_eq_true];omega⟩
  ·rintro⟨⟨h1,h2⟩,h3⟩;have h4:=getElem?_eq_getElem h1;have h5:s.own.getD c 0=s.own[c]:=by rw[getD_eq_getElem?_getD,h4,Option.getD_some]
   rw[h5] at h2 h3;have h2:s.own[c]≠0:=by simpa using h2
   have h3:s.own[c]=x.1.toNat:=by simpa using h3
   exact⟨s.own[c],h4,by omega,h2⟩
 refine Nat.le_antisymm (U5 h.nodup fun z hz=>(hm z).1 hz) (U5 ((nodup_range.filter _).filter _) fun z hz=>(hm z).2 hz)
theorem mX (l:List Nat) (f:Nat→Nat) (i:Nat):((l.take i).map f).sum≤(l.map f).sum:=by
 conv=>rhs;rw[← take_append_drop i l]
 rw[map_append,sum_append];omega
theorem mK {l:List Nat} (f:Nat→Nat) {i x:Nat} (h:l[i]? = some x):((l.take (i+1)).map f).sum=((l.take i).map f).sum+f x:=by
 rw[take_add_one,h,map_append,sum_append];simp
theorem mR {s:CS} {m:MS} {told:List (Nat×Nat)} (R:Xi s m told) {r q:Int} (h:(r,q)∈s.par):∃ k:Nat,r=k∧k∈V4 m.P:=by
 obtain⟨k,h1,h2,h3,h4⟩:=(R.tree r q).1 h;exact⟨k,h1,L4.2 ⟨q,h3,h2,h4⟩⟩
theorem yr {s:CS} {m:MS} {told:List (Nat×Nat)} (hw:WF s) (R:Xi s m told):((V4 m.P).map fun r=>((Um s.tab).filter fun i=>decide (AL s.tab i=r)).length).sum=(Um s.tab).length:=by
 refine cR (TM m.P) (AL s.tab) fun i hi=>?_;obtain⟨g,e,hk⟩:=Fz.1 (mem_filter.1 hi).2;obtain⟨_,_,q,hq⟩:=hw.obj i g e hk;obtain⟨k,h1,h2⟩:=mR R hq;have:AL s.tab i=e.region.toNat:=by unfold AL;rw[hk]
 rw[this,h1];exact h2
theorem yu {s:CS} {m:MS} {told:List (Nat×Nat)} (hw:WF s) (R:Xi s m told):((V4 m.P).map fun r=>((Bh s.own).filter fun c=>decide (s.own.getD c 0=r)).length).sum=(Bh s.own).length:=by
 refine cR (TM m.P) (fun c=>s.own.getD c 0) fun c hc=>?_;obtain⟨h1,h2⟩:=mem_filter.1 hc;have QM:=mem_range.1 h1;have h3:=getElem?_eq_getElem QM;generalize s.own[c]=oc at h3;have h4:s.own.getD c 0=oc:=by rw[getD_eq_getElem?_getD,h3,Option.getD_some]
 have h2:s.own.getD c 0≠0:=by simpa using h2
 obtain⟨q,hq⟩:=hw.live c _ h3 (by rw[← h4];exact h2);obtain⟨k,h5,h6⟩:=mR R hq;rw[h4];have:oc=k:=by omega
 rw[this];exact h6
theorem yv (s:CS):(Um s.tab).length≤s.tab.length:=by
 unfold Um;exact Nat.le_trans (length_filter_le _ _) (by rw[length_range];exact Nat.le_refl _)
theorem mW (l:List Nat):(Bh l).length≤l.length:=by
 unfold Bh;exact Nat.le_trans (length_filter_le _ _) (by rw[length_range];exact Nat.le_refl _)
theorem yw {s:CS} (hw:WF s):(s.mns.map VU).length=(s.sps.map Vt).length:=by
 have h1:=congrArg List.length hw.mkeys;have h2:=congrArg List.length hw.skeys;rw[length_map,length_map] at h1 h2;rw[length_map,length_map];omega
theorem yx {s:CS} (hw:WF s) {x:Int×Nat×QO} (hx:x∈s.sps):x.2.2.parts.length≤63∧(∀ p∈x.2.2.parts,p.1+p.2≤63)∧(QR x.2.2.parts).length≤63∧∀ c∈QR x.2.2.parts,c < s.own.length∧(s.own.getD c 0:Int)=x.1:=by
 have h:=hw.spc x hx;have ho:=hw.own.2;refine⟨Nat.le_trans (TF h) ho,fun p hp=>Nat.le_trans (h.parts p hp).2 ho,?_,fun c hc=>?_⟩
 ·rw[mU hw hx];exact Nat.le_trans (length_filter_le _ _) (Nat.le_trans (mW _) ho)
 ·obtain⟨q,h1,h2,_⟩:=(h.owned c).1 hc;refine⟨(List.getElem?_eq_some_iff.1 h1).1,?_⟩;rw[getD_eq_getElem?_getD,h1,Option.getD_some];exact h2
def PY (s:CS) (S:List (Int×Int)) (ks:List Nat):Prop:=∀ r v,QV S r=some v→∃ k∈ks,∃ (g:Nat) (e:Q8),s.tab[k]? = some ⟨g,some e⟩∧(e.addr:Int)≤r∧r < (Qa e:Int)
def yy (s:CS) (S:List (Int×Int)) (ks:List Nat) (e:Q8) (j:Nat):Prop:=∀ r v,QV S r=some v→(∃ k∈ks,∃ (g:Nat) (e:Q8),s.tab[k]? = some ⟨g,some e⟩∧(e.addr:Int)≤r∧r < (Qa e:Int))∨((e.addr:Int)≤r∧r < (e.addr:Int)+j)
theorem yz [Q4] {w:World} {l:List Q2} (H:Q0 w l):∃ X,X=l∧Q0 w X:=⟨l,rfl,H⟩
set_option maxRecDepth 10000 in
theorem zQ [Q4] (p:Nat) (s:CS) (m:MS) (told:List (Nat×Nat)) (R:Xi s m told) (hI:Inv s) {w:World} {fr:List Q2} [hT:Z6 0 Lib.deBruijn64tab fr] (H:Q0 w (UO p s m told::fr)) :
  Calls Tryz.prog 12 #[pp p] w (ret fun v w'=>v = .bool true∧Q0 w' (UO p s m told::fr)):=by
 obtain⟨c,mo,a,cap,H⟩:=Dx H;obtain⟨q,mem,hw,hm,H⟩:=Y9 H.swap;replace H:=Js [4,0,9,4,0,0,0,0,0,0,0,0,0,0] 0 H;obtain⟨tq,H,cG⟩:=jW H;refine QQ Tryz.func12 rfl (by kernel_rfl) ?_;refine YM H ?_;clear H;intro b2 w H;refine J2 H ?_;refine G1 H ?_;refine VS H ?_;clear H;intro b3 w H;refine B1 H ?_;clear H;intro w H;refine J2 H ?_;refine Uv H ?_;refine Q5 rfl (AS v1 (ki .i64) H rfl ?_);clear H;intro bm w H;refine VS H ?_;clear H;intro b4 w H;refine B1 H ?_;clear H;intro w H;refine J2 H ?_;refine XJ H ?_;refine Gm H ?_;refine Jc rfl rfl (jH q.tp (H.sel [3,0,0,0] 0)) ?_;clear H;rintro v w ⟨bt,rfl,H⟩;dsimp only[SL.sel,SL.pull,List.drop] at H;refine Bw H ?_;refine Qt (fun ms σ w=>(∃ D,ms=[D]∧Q0 w (pts D (.deferred (some []))::YK p c mo (.slice a told.length cap)::QD c s::V0 mo m::VD (.slice a told.length cap) told::pts b2 (row 4 [.bool false])::pts b3 (row 44 [pp c])::fr))∧σ 0=pp p∧σ 2=pp b2∧σ 3=pp b3) ?_ ?_
 ·refine Qe (W0 (a:=[]) (b:=[pp bt]) H rfl (fun yl D w H=>?_));generalize hL:LR _ yl _ _ _ _ D .ready=L at H ⊢;obtain⟨J,hJ⟩:∃ J:List Nat→Q2,J=fun ks=>ex fun S:List (Int×Int)=>star [prop (PY s S ks),mp (ki .i64) v1 bm S,L,pts b4 (row 108 [.map (some bm)]),pts b3 (row 44 [pp c]),VY c q,Qo q.trp s.last s.par,mp (ki .i64) Qz q.mm (s.mns.map VU),star (s.mns.map VV),V6 q.ip q.sp q.bp,Qp q.bp s.lays,ST q.sp s.size mem s.own]:=⟨_,rfl⟩
  have V9:∀ (ks:List Nat) (S:List (Int×Int)) (w:World) (l':List Q2),PY s S ks→Q0 w (mp (ki .i64) v1 bm S::L::pts b4 (row 108 [.map (some bm)])::pts b3 (row 44 [pp c])::VY c q::Qo q.trp s.last s.par::mp (ki .i64) Qz q.mm (s.mns.map VU)::star (s.mns.map VV)::V6 q.ip q.sp q.bp::Qp q.bp s.lays::ST q.sp s.size mem s.own::l')→Q0 w (J ks::l'):=by
   intro ks S w l' h H;rw[hJ];exact Q0.ex.2 ⟨S,Q0.star.2 (Q0.prop.2 ⟨h,H⟩)⟩
  have YW:∀ (ks:List Nat) (w:World) (l':List Q2),Q0 w (J ks::l')→∃ S,PY s S ks∧Q0 w (mp (ki .i64) v1 bm S::L::pts b4 (row 108 [.map (some bm)])::pts b3 (row 44 [pp c])::VY c q::Qo q.trp s.last s.par::mp (ki .i64) Qz q.mm (s.mns.map VU)::star (s.mns.map VV)::V6 q.ip q.sp q.bp::Qp q.bp s.lays::ST q.sp s.size mem s.own::l'):=by
   intro ks w l' H;rw[hJ] at H;obtain⟨S,H⟩:=Q0.ex.1 H;exact⟨S,Q0.prop.1 (Q0.star.1 H)⟩
  replace H:=Js [5,0,3,3,4,9,11,11,6,6,6,1,2,0,0,0,0,0,0,0,0] 0 H;replace H:=V9 [] [] _ _ (fun r v h=>by cases h) H;refine call (jI yl bt q.tp s.tab tq J ?_ H) ?_
  ·clear H;intro ks k g e rest w hk Yc H;obtain⟨t1,Yc⟩:=Yc;obtain⟨S,hS,H⟩:=YW _ _ _ H;subst hL;replace H:=Js [1,0,0,0,0,0,0,0,0,0,0,0] 0 H;refine Kj (args:=[Xv k g,.agg (YX e).toArray]) H rfl rfl ?_;refine YM H ?_;clear H;intro b5 w H;refine J5 H ?_;clear H;intro w H;refine J2 H ?_;refine YM H ?_;clear H;intro b6 w H;refine J5 H ?_;clear H;intro w H;refine J2 H ?_;replace H:=Js [2,0,0,0,0,0,0,0,0,0,0,0,0,0] 0 H;refine⟨rfl,_,H,fun w H=>Qe ?_⟩;generalize hLB:LR _ yl _ _ _ _ D .busy=LB at H ⊢;replace H:=Js [10,10,10,6,5,1,1,0,0,0,0,0,0,0] 0 H;refine J6 H ?_;refine Qt (fun ms σ w=>ms=[]∧∃ b7,σ 3=pp b3∧σ 4=pp b4∧σ 5=pp b5∧σ 6=pp b6∧σ 7=pp b7∧σ 8 = .int .i64 ((e.ws.length+1:Nat):Int)∧σ 9 = .int .i64 0∧Q0 w (pts b7 (row 115 [.int .i64 e.lay,.int .i64 e.count,.int .i64 k])::V6 q.ip q.sp q.bp::Qp q.bp s.lays::ST q.sp s.size mem s.own::VY c q::pts b3 (row 44 [pp c])::pts b6 (row 113 (YX e))::pts b5 (row 69 [.int .i64 k,.int .i64 g])::LB::mp (ki .i64) v1 bm S::pts b4 (row 108 [.map (some bm)])::Qo q.trp s.last s.par::mp (ki .i64) Qz q.mm (s.mns.map VU)::star (s.mns.map VV)::Gx q.tp s.tab tq::rest)) ?_ ?_
   ·refine J1 H ?_;clear H;intro w H;refine Jl 0 [6,12] H ?_;refine WZ H ?_;refine Jl 3 [6,12] H ?_;refine Jf 4 ?_;refine Jl 5 [6,12] H ?_;refine Jw 6 11 H rfl rfl (V1 (a:=[]) (b:=[]) rfl rfl (call (Dg q.ip q.sp q.bp s.size s.lays mem s.own e.addr e.lay e.count k e.ws.length (Qd s e) (WJ hw hm hk) H) ?_)) (YH H rfl ?_)
    ·clear H;rintro v w ⟨rfl,H⟩;refine FX H ?_;refine FK H ?_;clear H;intro b7 w H;refine Rg H ?_;clear H;intro w H;refine B0 H ?_;exact⟨rfl,rfl,b7,rfl,rfl,rfl,rfl,rfl,rfl,rfl,H⟩
    ·clear H;intro b7 w H;refine Jo 6 H ?_;refine Jk rfl rfl (Dg q.ip q.sp q.bp s.size s.lays mem s.own e.addr e.lay e.count k e.ws.length (Qd s e) (WJ hw hm hk) (H.sel [1,1,1,0] 0)) ?_;clear H;rintro v w ⟨rfl,H⟩;dsimp only[SL.sel,SL.pull,List.drop] at H;refine FX H ?_;refine Rg H ?_;clear H;intro w H;refine B0 H ?_;replace H:=Js [3,0,0,0,0,0,0,0,0,0,0,0,0,0,0] 0 H;exact⟨rfl,rfl,b7,rfl,rfl,rfl,rfl,rfl,rfl,rfl,H⟩
   clear H;rintro ms σ w ⟨rfl,b7,g3,g4,g5,g6,g7,g8,g9,H⟩;rw[Q1 g3,Q1 g4,Q1 g5,Q1 g6,Q1 g7,Q1 g8,Q1 g9];have TH:=Si (H.pull 11);obtain⟨_,_,y,hy⟩:=hw.obj k g e hk;have X0:(QV s.par e.region).isSome=true:=by rw[(YI TH).2 hy];rfl
   have K6:e.region∈s.mns.map (·.1):=by rw[hw.mkeys];exact mem_map.2 ⟨(e.region,y),hy,rfl⟩
   obtain⟨b2',ZW⟩:=R8 (l:=s.mns) (f:=fun x=>x.1) (g:=fun x=>x.2.1) (k:=e.region) K6;obtain⟨⟨r1,b1,QL⟩,m1,m2,Vk,VC,YD⟩:=R7 ZW;have VC:r1=e.region:=VC;have YD:b1=b2':=YD;subst VC YD;have Xh:QV (s.mns.map VU) e.region=some b1:=ZW;have PZ:=hw.mine (e.region,b1,QL) (by rw[Vk];simp);have zV:k∈QL:=(PZ.2 k).2 ⟨g,e,hk,rfl⟩
   have UN:QL.length≤100000:=by
    have:=B6 QL 0 64 (fun x hx=>⟨Nat.zero_le _,by
     obtain⟨g,f,h3,_⟩:=(PZ.2 x).1 hx;have h4:=(List.getElem?_eq_some_iff.1 h3).1;have:=hw.slots.2;omega⟩) PZ.1
    omega
   replace H:=Js [11,0,0,0,0,0,0,0,0,0,0,0,0,0,0] 0 H;refine J1 H ?_;clear H;intro w H;refine C0 H ?_;refine Jl 4 [] H ?_;refine Jf 5 ?_;refine Jl 6 [] H ?_;refine Ja 7 ?_;rw[show ((k:Int) != (k:Int))=false from bne_self_eq_false _];refine Ja 8 ?_;refine Ja 9 ?_;refine Jl 10 [] H ?_;refine Ja 11 ?_;refine Jf 12 ?_;refine Jl 13 [] H ?_;refine Jf 14 ?_;refine Jl 15 [] H ?_;refine Jo 16 H ?_;refine Jk rfl rfl (Iw q.trp s.last s.par e.region H) ?_;clear H;rintro v w ⟨rfl,H⟩;rw[X0];refine Ja 17 ?_;refine Ja 18 ?_;refine Ja 19 ?_;refine Jl 20 [] H ?_;refine Ja 21 ?_;refine Jf 22 ?_;refine Jl 23 [] H ?_;refine Jf 24 ?_;refine Jl 25 [] H ?_;replace H:=Js [13,0,0,0,0,0,0,0,0,0,0,0,0,0,0] 0 H;replace H:Q0 w (VQ b1 QL::star ((m1++m2).map VV)::_):=(Q0.pick (R:=VV) (x:=(e.region,b1,QL)) Vk).1 H;refine RL 26 [] (key:=e.region) H rfl (Q9.of rfl rfl rfl) rfl rfl Vp (by kernel_rfl) ?_;rw[Xh];refine Jf 27 ?_;refine Jl 28 [] H ?_;refine Jo 29 H ?_;refine Jk rfl rfl (gG b1 QL k PZ.1 UN H) ?_;clear H;rintro v w ⟨rfl,H⟩;rw[decide_eq_true zV];replace H:=(Q0.pick (R:=VV) (x:=(e.region,b1,QL)) Vk).2 H;refine Ja 30 ?_;refine Ja 31 ?_;refine Jx H ?_;refine DF H ?_;have CT:=(hw.obj k g e hk).2.1;have Ve:=hw.size
   have Q1l:k < 64:=by
    have h1:=(List.getElem?_eq_some_iff.1 hk).1;have h2:=hw.slots.2;omega
   have Q1m:s.own.length*s.size≤63*1024:=Nat.mul_le_mul hw.own.2 hw.size.2
   have Sl:e.addr+1+e.ws.length≤64512:=by
    have:=CT.1;unfold Qa at this;omega
   have Gt:k∉ks:=by
    have QP:(Um s.tab).Nodup:=nodup_range.filter _;rw[Yc,nodup_append] at QP;exact fun h=>QP.2.2 k h k mem_cons_self rfl
   replace H:=Js [5,10,7,7,6,7,5,3,3,3,1,2,0,1] 1 H;refine J6 H ?_;refine Qe (Qq (fun ms σ w z=>ms=[]∧∃ (j:Nat) (S:List (Int×Int)),j≤e.ws.length+1∧z=e.ws.length+1 - j∧yy s S ks e j∧σ 3=pp b3∧σ 4=pp b4∧σ 5=pp b5∧σ 6=pp b6∧σ 73 = .int .i64 ((e.ws.length+1:Nat):Int)∧σ 74 = .int .i64 j∧Q0 w (ST q.sp s.size mem s.own::mp (ki .i64) v1 bm S::pts b6 (row 113 (YX e))::pts b5 (row 69 [.int .i64 k,.int .i64 g])::pts b3 (row 44 [pp c])::pts b4 (row 108 [.map (some bm)])::VY c q::V6 q.ip q.sp q.bp::Qp q.bp s.lays::LB::Qo q.trp s.last s.par::mp (ki .i64) Qz q.mm (s.mns.map VU)::star (s.mns.map VV)::Gx q.tp s.tab tq::rest)) (m:=e.ws.length+1) ⟨rfl,0,S,by omega,rfl,fun r v h => .inl (hS r v h),rfl,rfl,rfl,rfl,rfl,rfl,H⟩ ?_);clear H hS;rintro ms σ w z ⟨rfl,j,S,hj,rfl,hS,g3,g4,g5,g6,g73,g74,H⟩;rw[Q1 g3,Q1 g4,Q1 g5,Q1 g6,Q1 g73,Q1 g74];refine J7 H ?_;refine Qm rfl (fun h=>QF ?_) (fun h=>Qv ?_)
   ·have ZP:j < e.ws.length+1:=by omega
    have zY:QV S ((e.addr+j:Nat):Int)=none:=by
     cases hf:QV S ((e.addr+j:Nat):Int) with
     | none=>rfl
     | some v=>
      rcases hS _ _ hf with ⟨k2,VN,g2,e2,h1,h2,h3⟩|⟨_,h2⟩
      ·have:=hw.apart k2 k g2 g e2 e (fun h=>Gt (h▸VN)) h1 hk;unfold Qa at this h3;omega
      ·omega
    refine NC H ?_;clear H;intro w H;refine Jl 0 [20,21,23] H ?_;refine Jf 1 ?_;refine Jl 2 [20,21,23] H ?_;refine Ja 3 ?_;have cW:IntKind.i64.wrap ((e.addr:Int)+(j:Int))=((e.addr+j:Nat):Int):=by rw[Qg (by omega) (by omega)];omega
    have Kb:(if (1:Int) > ((s.size:Nat):Int) then (1:Int) else ((s.size:Nat):Int))=((s.size:Nat):Int):=by split <;> omega
    obtain⟨rr,ZK,KL,_⟩:=CT.2 ((e.addr+j) / s.size) (Nat.div_le_div_right (by omega)) (Nat.div_le_div_right (by omega));have QM:=(List.getElem?_eq_some_iff.1 ZK).1;have Z9:((s.own.getD ((e.addr+j) / s.size) 0:Nat):Int)=e.region:=by rw[getD_eq_getElem?_getD,ZK,Option.getD_some];exact KL
    refine Ja 4 ?_;rw[cW];refine RL 5 [] (key:=((e.addr+j:Nat):Int)) H rfl (Q9.none rfl) rfl rfl Vp (by kernel_rfl) ?_;rw[zY];refine Ja 6 ?_;refine Ja 7 ?_;refine Jl 8 [] H ?_;refine Ja 9 ?_;refine Jf 10 ?_;refine Jl 11 [] H ?_;refine Jf 12 ?_;refine Jl 13 [] H ?_;refine Ja 14 ?_;refine Ja 15 ?_;rw[cW];refine Jl 16 [] H ?_;refine Ja 17 ?_;refine Jf 18 ?_;refine Jl 19 [] H ?_;refine Jf 24 ?_;refine Jl 25 [] H ?_;refine Jo 20 H ?_;refine Jk rfl rfl (Io q.sp s.size mem s.own H) ?_;clear H;rintro v w ⟨rfl,H⟩;refine Jo 21 H ?_;refine MR rfl rfl rfl ?_;rw[Kb]
    refine XW (v := .int .i64 (((e.addr+j) / s.size:Nat):Int)) 22 rfl (Q9.of rfl rfl rfl) (by
     show (if IntKind.i64=IntKind.i64 then (if ((s.size:Nat):Int)=0 then none else some (Value.int IntKind.i64 (IntKind.i64.wrap (Int.tdiv ((e.addr+j:Nat):Int) ((s.size:Nat):Int))))) else none)=_;rw[if_pos rfl,if_neg (by omega),CK (by omega)]) (by kernel_rfl) ?_
    refine Jo 23 H ?_;refine Jk rfl rfl (SJ q.sp s.size mem s.own ((e.addr+j) / s.size) H QM) ?_;clear H;rintro v w ⟨rfl,H⟩;rw[Z9];refine Ja 26 ?_;rw[show (e.region != e.region)=false from bne_self_eq_false _];refine Ja 27 ?_;refine ME H ?_;refine UB H ?_;refine DJ H ?_;rw[cW];refine N0 H ?_;rw[show IntKind.i64.wrap (1+(k:Int))=((k+1:Nat):Int) by rw[Qg (by omega) (by omega)];omega];refine Q5 rfl (Ry (ek:=ki .i64) (vv:=v1) (v:=((k+1:Nat):Int)) (key:=((e.addr+j:Nat):Int)) H rfl rfl rfl Vp rfl ?_);clear H;intro w H;refine Rd H ?_
    exact⟨_,⟨rfl,j+1,_,ZP,rfl,(fun r v h=>by
     rw[KX] at h;split at h
     ·rename_i hr;exact .inr ⟨by omega,by omega⟩
     ·rcases hS r v h with h1|⟨h1,h2⟩
      ·exact .inl h1
      ·exact .inr ⟨h1,by omega⟩),rfl,rfl,rfl,rfl,rfl,Qh (by omega),H⟩,by omega⟩
   ·have V2:j=e.ws.length+1:=by omega
    subst V2
    have E0:PY s S (ks++[k]):=by
     intro r v h
     rcases hS r v h with ⟨k2,VN,h1⟩|⟨h1,h2⟩
     ·exact⟨k2,mem_append.2 (.inl VN),h1⟩
     ·exact⟨k,by simp,g,e,hk,h1,by unfold Qa;omega⟩
    subst hLB;replace H:=Js [9,1,4,3,3,5,5,5,3,3,0,2] 2 H;exact⟨rfl,_,H,fun w H=>⟨rfl,V9 _ _ _ _ E0 H.swap⟩⟩
  ·clear H;rintro v w H;obtain⟨S,hS,H⟩:=YW _ _ _ H;subst hL;replace H:=Js [1,11,3,6,6,6,3,9,9,9,3,3,6,6,6,4,4,2] 3 H;refine⟨_,H,fun w H=>?_⟩;replace H:=cG _ _ H;replace H:=Js [1,1,1,1,0,0,0,0,0,0,0,0,0,0,0,0,0] 0 H;replace H:=VJ hw hm H;replace H:=Js [4,1,0,0,0,0,0] 0 H;exact⟨rfl,⟨D,rfl,H⟩,rfl,rfl,rfl⟩
 ·clear H;rintro ms σ w ⟨⟨D,rfl,H⟩,g0,g2,g3⟩;rw[Q1 g0,Q1 g2,Q1 g3];refine J3 H ?_;replace H:=Js [3,1,1,0,0,0,0] 0 H;obtain⟨mt,lc,oc,aL,cL,aO,cO,Ul,Zo,LS,hm4,hm5,H⟩:=GA H;replace H:=Js [1,0,4,0,0,0,0,0,0,0,0,0] 0 H;refine Ib H ?_;refine Jc rfl rfl (JX mt m.P (by have:=Ul.P.2;omega) H) ?_;clear H;intro v w H;obtain⟨av,cv,rfl⟩:=QI H (QJ _) (by decide);refine W7 H ?_;replace H:=Js [8,0,0,0,0,0,0,0,0,0,0,0,0] 0 H;obtain⟨q2,mem2,_,zZ,H⟩:=Y9 H;obtain⟨fu,mA⟩:∃ fu:Nat→Nat,fu=fun r=>((Um s.tab).filter fun i=>decide (AL s.tab i=r)).length:=⟨_,rfl⟩;obtain⟨fc,Ec⟩:∃ fc:Nat→Nat,fc=fun r=>((Bh s.own).filter fun c=>decide (s.own.getD c 0=r)).length:=⟨_,rfl⟩;have hU:((V4 m.P).map fu).sum=U8 s.tab - ZV s.tab:=by rw[mA,mZ];exact yr hw R
  have mC:((V4 m.P).map fc).sum=(s.own.filter (· != 0)).length:=by rw[Ec,← mG];exact yu hw R
  have Q1p:((V4 m.P).map fu).sum≤63:=by rw[hU,mZ];exact Nat.le_trans (yv s) hw.slots.2
  have Q1q:((V4 m.P).map fc).sum≤63:=by rw[mC,← mG];exact Nat.le_trans (mW _) hw.own.2
  have Q1r:(s.own.filter (· != 0)).length≤s.own.length:=length_filter_le _ _;have hOw:=hw.own.2;have Hj:(V4 m.P).length≤64:=by rw[← Fu R];exact hw.par.1
  replace H:=Js [11,9,7,0,18,2,6,5,0,0,0,0,0,0,0,0,0,0,0,0,0,0,0] 0 H;refine J6 H ?_;refine Qt (fun ms σ w=>ms=[D]∧σ 0=pp p∧σ 2=pp b2∧σ 3=pp b3∧σ 11 = .int .i64 (((V4 m.P).map fu).sum:Nat)∧σ 12 = .int .i64 (((V4 m.P).map fc).sum:Nat)∧Q0 w (NL (.slice av (V4 m.P).length cv) (V4 m.P)::mp (ki .i64) Qz q2.mm (s.mns.map VU)::mp (ki .i64) Qz q2.sm (s.sps.map Vt)::VY c q2::pts b3 (row 44 [pp c])::ST q2.sp s.size mem2 s.own::star (s.mns.map VV)::star (s.sps.map (Vx q2.sp))::V6 q2.ip q2.sp q2.bp::Qp q2.bp s.lays::Qr q2.tp s.tab::Qo q2.trp s.last s.par::RS q2.rp s.rem::Vh mt m.P::pts mo (row 58 [pp mt,.slice aL m.lays.length cL,.slice aO m.objs.length cO])::YK p c mo (.slice a told.length cap)::QE 102 4 (.slice aL m.lays.length cL) (Vb lc)::star (lc.map Yp)::QE 77 1 (.slice aO m.objs.length cO) (oc.map fun x=>pp x.ptr)::star (oc.map Zk)::pts D (.deferred (some []))::VD (.slice a told.length cap) told::pts b2 (row 4 [.bool false])::fr)) ?_ ?_
  ·refine Qe ?_;refine Qq (fun ms σ w z=>ms=[D]∧∃ i:Nat,i≤(V4 m.P).length∧z=(V4 m.P).length - i∧σ 0=pp p∧σ 2=pp b2∧σ 3=pp b3∧σ 11 = .int .i64 ((((V4 m.P).take i).map fu).sum:Nat)∧σ 12 = .int .i64 ((((V4 m.P).take i).map fc).sum:Nat)∧σ 121 = .slice av (V4 m.P).length cv∧σ 122 = .int .i64 (V4 m.P).length∧σ 123 = .int .i64 i∧Q0 w (NL (.slice av (V4 m.P).length cv) (V4 m.P)::mp (ki .i64) Qz q2.mm (s.mns.map VU)::mp (ki .i64) Qz q2.sm (s.sps.map Vt)::VY c q2::pts b3 (row 44 [pp c])::ST q2.sp s.size mem2 s.own::star (s.mns.map VV)::star (s.sps.map (Vx q2.sp))::V6 q2.ip q2.sp q2.bp::Qp q2.bp s.lays::Qr q2.tp s.tab::Qo q2.trp s.last s.par::RS q2.rp s.rem::Vh mt m.P::pts mo (row 58 [pp mt,.slice aL m.lays.length cL,.slice aO m.objs.length cO])::YK p c mo (.slice a told.length cap)::QE 102 4 (.slice aL m.lays.length cL) (Vb lc)::star (lc.map Yp)::QE 77 1 (.slice aO m.objs.length cO) (oc.map fun x=>pp x.ptr)::star (oc.map Zk)::pts D (.deferred (some []))::VD (.slice a told.length cap) told::pts b2 (row 4 [.bool false])::fr)) (m:=(V4 m.P).length) ⟨rfl,0,by omega,rfl,rfl,rfl,rfl,rfl,rfl,rfl,rfl,rfl,H⟩ ?_;clear H;rintro ms σ w z ⟨rfl,i,hi,rfl,g0,g2,g3,g11,g12,g121,g122,g123,H⟩;rw[Q1 g0,Q1 g2,Q1 g3,Q1 g11,Q1 g12,Q1 g121,Q1 g122,Q1 g123];refine J7 H ?_;refine Qm rfl (fun h=>QF ?_) (fun h=>Qv ?_)
   ·have Q6:i < (V4 m.P).length:=by omega
    have hn:=getElem?_eq_getElem Q6;generalize (V4 m.P)[i]=x at hn;have hsu:=mK fu hn;have eX:=mK fc hn;obtain⟨y,GR,KN,Fc⟩:=L4.1 (mem_of_getElem? hn);have mD:=(R.tree (x:Int) y).2 ⟨x,rfl,KN,GR,Fc⟩;obtain⟨bT,sT,rfl,H,QM⟩:=VX H (by omega);refine Z7 H ?_;refine Jd ?_;refine Q5 rfl (QA H rfl (U4 hn) rfl ?_);refine J0 H ?_;replace H:=QM _ _ H;obtain⟨b2',ZW⟩:=R8 (l:=s.mns) (f:=fun x=>x.1) (g:=fun x=>x.2.1) (k:=(x:Int)) (by rw[hw.mkeys];exact mem_map.2 ⟨_,mD,rfl⟩);obtain⟨⟨r1,b1,QL⟩,m1,m2,Vk,VC,YD⟩:=R7 ZW;have VC:r1=(x:Int):=VC;have YD:b1=b2':=YD;subst VC YD;have Xh:QV (s.mns.map VU) (x:Int)=some b1:=ZW;obtain⟨b3',WL⟩:=R8 (l:=s.sps) (f:=fun x=>x.1) (g:=fun x=>x.2.1) (k:=(x:Int)) (by rw[hw.skeys];exact mem_map.2 ⟨_,mD,rfl⟩);obtain⟨⟨r2,b0,SP⟩,p1,p2,VL,KW,cB⟩:=R7 WL;have KW:r2=(x:Int):=KW;have cB:b0=b3':=cB;subst KW cB;have CP:QV (s.sps.map Vt) (x:Int)=some b0:=WL;have hQ:QL.length=fu x:=by rw[mA];exact congrArg List.length (yp hw (x:=((x:Int),b1,QL)) (by rw[Vk];simp))
    have hC:(QR SP.parts).length=fc x:=by rw[Ec];exact mU hw (x:=((x:Int),b0,SP)) (by rw[VL];simp)
    obtain⟨KO,GX,Dh,La⟩:=yx hw (x:=((x:Int),b0,SP)) (by rw[VL];simp);have KO:SP.parts.length≤63:=KO;have GX:∀ y∈SP.parts,y.1+y.2≤63:=GX;have Dh:(QR SP.parts).length≤63:=Dh;have La:∀ c∈QR SP.parts,c < s.own.length∧(s.own.getD c 0:Int)=(x:Int):=La;have hu1:=mX (V4 m.P) fu (i+1);have Q1v:=mX (V4 m.P) fc (i+1);refine Kp H ?_;refine Q5 rfl (GH (key:=(x:Int)) H rfl rfl Vp rfl ?_);rw[Xh];refine NX H ?_;refine Jv ?_;refine QS rfl rfl rfl (QA H rfl rfl rfl ?_);refine IY H ?_;refine QS rfl rfl rfl (GH (key:=(x:Int)) H rfl rfl Vp rfl ?_);rw[CP];refine ID H ?_;refine Z4 H ?_;refine W4 H ?_;refine FV H ?_;refine Q5 rfl (GH (key:=(x:Int)) H rfl rfl Vp rfl ?_);rw[Xh];replace H:=Js [6,0,0,0,0,0,0] 0 H;replace H:Q0 w (VQ b1 QL::star ((m1++m2).map VV)::_):=(Q0.pick (R:=VV) (x:=((x:Int),b1,QL)) Vk).1 H;refine Jc rfl rfl (gU b1 QL H) ?_;clear H;rintro v w ⟨rfl,H⟩;replace H:=(Q0.pick (R:=VV) (x:=((x:Int),b1,QL)) Vk).2 H;refine Jv ?_;rw[show IntKind.i64.wrap (((((V4 m.P).take i).map fu).sum:Nat)+(QL.length:Int))=(((((V4 m.P).take (i+1)).map fu).sum:Nat):Int) by rw[Qg (by omega) (by omega)];omega];refine J0 H ?_;refine Kp H ?_;refine Q5 rfl (GH (key:=(x:Int)) H rfl rfl Vp rfl ?_);rw[CP];replace H:=Js [7,0,0,0,0,0,0,0] 0 H;replace H:Q0 w (Qy b0 q2.sp x SP::star ((p1++p2).map (Vx q2.sp))::_):=(Q0.pick (R:=Vx q2.sp) (x:=((x:Int),b0,SP)) VL).1 H;refine Jc rfl rfl (jN b0 q2.sp x SP (by omega) (fun y hy=>by have:=GX y hy;omega) (by omega) H) ?_;clear H;rintro v w ⟨ac,cc,rfl,H⟩;refine J0 H ?_;replace H:=Js [1,1,0] 0 H;replace H:=(Q0.pick (R:=Vx q2.sp) (x:=((x:Int),b0,SP)) VL).2 H;replace H:=Js [1,7,0,0,0,0,0,0,0] 0 H;refine KF H ?_;obtain⟨X,hX,H⟩:=yz H;refine J6 H ?_;refine Qt (fun ms σ w=>ms=[D]∧σ 0=pp p∧σ 2=pp b2∧σ 3=pp b3∧σ 11 = .int .i64 ((((V4 m.P).take (i+1)).map fu).sum:Nat)∧σ 12 = .int .i64 ((((V4 m.P).take i).map fc).sum:Nat)∧σ 15 = .slice ac (QR SP.parts).length cc∧σ 121 = .slice (some ⟨bT,0,none⟩) (V4 m.P).length cv∧σ 122 = .int .i64 (V4 m.P).length∧σ 123 = .int .i64 i∧Q0 w X) ?_ ?_
    ·refine Qe ?_;refine Qq (fun ms σ w z=>ms=[D]∧∃ j:Nat,j≤(QR SP.parts).length∧z=(QR SP.parts).length - j∧σ 0=pp p∧σ 2=pp b2∧σ 3=pp b3∧σ 11 = .int .i64 ((((V4 m.P).take (i+1)).map fu).sum:Nat)∧σ 12 = .int .i64 ((((V4 m.P).take i).map fc).sum:Nat)∧σ 14 = .int .i64 x∧σ 15 = .slice ac (QR SP.parts).length cc∧σ 121 = .slice (some ⟨bT,0,none⟩) (V4 m.P).length cv∧σ 122 = .int .i64 (V4 m.P).length∧σ 123 = .int .i64 i∧σ 159 = .slice ac (QR SP.parts).length cc∧σ 160 = .int .i64 (QR SP.parts).length∧σ 161 = .int .i64 j∧Q0 w X) (m:=(QR SP.parts).length) ⟨rfl,0,by omega,rfl,rfl,rfl,rfl,rfl,rfl,rfl,rfl,rfl,rfl,rfl,rfl,rfl,rfl,H⟩ ?_;clear H;rintro ms σ w z ⟨rfl,j,hj,rfl,g0,g2,g3,g11,g12,g14,g15,g121,g122,g123,g159,g160,g161,H⟩;rw[Q1 g0,Q1 g2,Q1 g3,Q1 g11,Q1 g12,Q1 g14,Q1 g15,Q1 g121,Q1 g122,Q1 g123,Q1 g159,Q1 g160,Q1 g161];refine J7 H ?_;refine Qm rfl (fun h=>QF ?_) (fun h=>Qv ?_)
     ·have Fk:j < (QR SP.parts).length:=by omega
      have Gp:=getElem?_eq_getElem Fk;obtain⟨Zn,UC⟩:=La _ (getElem_mem Fk);generalize (QR SP.parts)[j]=ch at Gp Zn UC;rw[hX] at H;obtain⟨bC,sC,rfl,H,Db⟩:=VX H (by omega);refine Z7 H ?_;refine Jd ?_;refine Q5 rfl (QA H rfl (U4 Gp) rfl ?_);refine J0 H ?_;replace H:=Db _ _ H;refine Kp H ?_;refine Jc rfl rfl (SJ q2.sp s.size mem2 s.own ch H.swap Zn) ?_;clear H;rintro v w ⟨rfl,H⟩;have H:=H.swap;rw[UC];refine J4 H ?_;rw[show ((x:Int) != (x:Int))=false from bne_self_eq_false _];refine DF H ?_;exact⟨_,⟨rfl,j+1,Fk,rfl,rfl,rfl,rfl,rfl,rfl,rfl,rfl,rfl,rfl,rfl,rfl,rfl,Qh (by omega),by rw[hX];exact H⟩,by omega⟩
     ·exact⟨rfl,rfl,rfl,rfl,rfl,rfl,rfl,rfl,rfl,rfl,rfl,H⟩
    clear H;rintro ms σ w ⟨rfl,g0,g2,g3,g11,g12,g15,g121,g122,g123,H⟩;rw[Q1 g0,Q1 g2,Q1 g3,Q1 g11,Q1 g12,Q1 g15,Q1 g121,Q1 g122,Q1 g123];rw[hX] at H;refine J9 H ?_;refine Hx H ?_;rw[show IntKind.i64.wrap (((((V4 m.P).take i).map fc).sum:Nat)+((QR SP.parts).length:Int))=(((((V4 m.P).take (i+1)).map fc).sum:Nat):Int) by rw[Qg (by omega) (by omega)];omega];refine J0 H ?_;replace H:=Js [4,4,4,4,4,1,2,1] 1 H;refine J3 H ?_;exact⟨_,⟨rfl,i+1,Q6,rfl,rfl,rfl,rfl,rfl,rfl,rfl,rfl,Qh (by omega),H⟩,by omega⟩
   ·have V2:i=(V4 m.P).length:=by omega
    subst V2;rw[take_length];exact⟨rfl,rfl,rfl,rfl,rfl,rfl,rfl,H⟩
  clear H;rintro ms σ w ⟨rfl,g0,g2,g3,g11,g12,H⟩;rw[hU] at g11;rw[mC] at g12;rw[Q1 g0,Q1 g2,Q1 g3,Q1 g11,Q1 g12];replace H:=Js [10,5,1,1,1,1,1,1,1,1,1,1,1,1,1,1,1,1,1,1,1,1] 1 H;refine J1 H ?_;clear H;intro w H;refine Ja 0 ?_;refine Jl 1 [] H ?_;refine Ja 2 ?_;refine Jf 3 ?_;refine Jl 4 [5] H ?_;refine Jo 5 H ?_;refine Jk rfl rfl (T5 q2.tp s.tab H) ?_;clear H;rintro v w ⟨rfl,H⟩;generalize U8 s.tab - ZV s.tab=N;refine Ja 6 ?_;rw[show ((N:Int) == (N:Int))=true from beq_self_eq_true _];refine Ja 7 ?_;refine Ja 8 ?_;refine Jl 9 [] H ?_;refine Ja 10 ?_;refine Jf 11 ?_;refine Jl 12 [13] H ?_;refine Jl 14 [] H ?_;refine Ja 15 ?_;refine Jf 16 ?_;refine Jl 17 [18] H ?_;refine Jo 13 H ?_;refine Jk rfl rfl (SI q2.sp s.size mem2 s.own H.swap) ?_;clear H;rintro v w ⟨rfl,H⟩;refine Jo 18 H ?_;refine Jk rfl rfl (Ip q2.sp s.size mem2 s.own H) ?_;clear H;rintro v w ⟨rfl,H⟩;refine Ja 19 ?_;rw[show IntKind.i64.wrap ((s.own.length:Int) - ((s.own.length - (s.own.filter (· != 0)).length:Nat):Int))=(((s.own.filter (· != 0)).length:Nat):Int) by rw[Qg (by omega) (by omega)];omega];refine Ja 20 ?_;rw[show ((((s.own.filter (· != 0)).length:Nat):Int) == (((s.own.filter (· != 0)).length:Nat):Int))=true from beq_self_eq_true _];refine Ja 21 ?_;refine Ja 22 ?_;refine Jl 23 [] H ?_;refine Ja 24 ?_;refine Jf 25 ?_;refine Jl 26 [27] H ?_;refine Jl 28 [] H ?_;refine Ja 29 ?_;refine Jf 30 ?_;refine Jl 31 [32] H ?_;refine Jo 27 H ?_;refine EN (ki .i64) Qz H rfl rfl ?_;refine Jo 32 H ?_;refine EN (ki .i64) Qz H rfl rfl ?_;rw[yw hw];refine Ja 33 ?_;rw[show ((((s.sps.map Vt).length:Nat):Int) == (((s.sps.map Vt).length:Nat):Int))=true from beq_self_eq_true _];refine Ja 34 ?_;refine Ja 35 ?_;refine Ja 36 ?_;replace H:=Js [4,7,7,0,0,5,5,1,3,0,1,2,1,2,2,2,2,1,2,0,0,0] 0 H;replace H:=VJ hw zZ H;replace H:=Js [1,1,1,1,1,1,1,0,0,0,0,0] 0 H;replace H:=Zq Ul Zo LS H;replace H:=Js [1,1,0,0,0,0,0] 0 H;replace H:=Z1 H;refine Jo 37 H ?_;refine Jk rfl rfl (ym p s m told hI H) ?_;clear H;rintro v w ⟨rfl,H⟩;refine Ja 38 ?_;refine Jo 39 H ?_;refine KE H ?_;clear H;intro w H;refine Jx H ?_;replace H:=Js [2,2,0] 1 H;exact Q3 (Pv (ms:=[D]) _ (.inr rfl) (Q0.star.2 H) (fun w' H' => .cell1 H' rfl rfl .nil) fun w' H'=>⟨rfl,H'.drop⟩)
set_option maxRecDepth 10000 in
theorem zG [Q4] (z1 z2 z3:Int) (v:Value) (l:List ZN) (hl:l.length*128≤140737488351232) (r0:Int) {w:World} {fr:List Q2} [hT:Z6 0 Lib.deBruijn64tab fr] (hr:Ya fr v l.length 12 (AI l)) (QX:∀ x∈l,EB fr x) (H:Q0 w fr) :
  Calls Tryz.prog 6 #[.agg #[.int .i64 z1,.int .i64 z2,.int .i64 z3],v,.int .i64 r0] w (ret fun r w'=>r = .bool true∧Q0 w' fr):=by
 obtain⟨_,ad,cap,rfl,_⟩:=id hr;refine QQ Tryz.func6 rfl (by kernel_rfl) ?_;refine J8 H ?_;clear H;intro b3 w H;refine J0 H ?_;refine Uv H ?_;refine Jc rfl rfl (lj H) ?_;clear H;rintro v w ⟨rfl,H⟩;refine DZ H ?_;refine QS rfl rfl rfl (V1 (a:=[]) (b:=[]) rfl rfl (call (yN _ l hl hr.there (fun x hx=>(QX x hx).there) H) ?_));clear H;rintro r w ⟨b,rfl,hb,H⟩;cases b with
 | true=>
  refine WQ H ?_;refine Uv H ?_;refine Jc rfl rfl (lj H) ?_;clear H;rintro v w ⟨rfl,H⟩;refine J0 H ?_;exact Q3 (Jy H.drop rfl fun w' H'=>⟨rfl,H'⟩)
 | false=>
  obtain⟨j9,P5⟩:=hb rfl;refine YS H ?_;refine Ey H ?_;refine Jc rfl rfl (yd z1 z2 z3 _ l j9 P5 hr.there (fun x hx=>(QX x hx).there) H) ?_;clear H;rintro r w ⟨p,s,m,told,rfl,J,H⟩;refine UA H ?_;obtain⟨c,mo,a,capT,H⟩:=Dx H;obtain⟨q,mem,hw,hm,H⟩:=Y9 H.swap;have Uk:=hw.par.1;have hO:=J.O;have hQ:=J.Q;have Qw:=J.R.len;have UD:=J.R.last;replace H:=Js [3,3,0,0,0] 0 H;refine J1 H ?_;clear H;intro w H;refine YN H ?_;refine Jl 3 [7,15] H ?_;refine Ja 4 ?_;refine Jf 5 ?_;refine Jl 6 [7,15] H ?_;refine FE H ?_;refine Jl 11 [15] H ?_;refine Ja 12 ?_;refine Jf 13 ?_;refine Jl 14 [15] H ?_;refine Jo 7 H ?_;refine Jk rfl rfl (Ip q.sp s.size mem s.own H) ?_;clear H;rintro v w ⟨rfl,H⟩;refine Jo 15 H ?_;refine Jk rfl rfl (T5 q.tp s.tab H.swap) ?_;clear H;rintro v w ⟨rfl,H⟩;refine Ja 16 ?_;refine DS H ?_;replace H:=Js [2,2,2,1,0] 0 H;replace H:=VJ hw hm H;refine VM H ?_;cases hf:QV s.par r0 with
  | none=>
   have ZQ:Yb m.P r0=false:=by rw[← Cb J.R,hf];rfl
   refine Jc rfl rfl (lO c s r0 (.slice none 0 0) hf H) ?_;clear H;rintro v w ⟨rfl,H⟩;refine IS H ?_;replace H:=Js [2,0,0] 0 H;obtain⟨t,lc,oc,aL,cL,aO,cO,h1,h2,h3,h4,h5,H⟩:=GA H;replace H:=Js [1,0] 0 H;refine Ao H ?_;refine MN H ?_;refine Xu H ?_;refine QS rfl rfl rfl (V1 (a:=[]) (b:=[]) rfl rfl (call (CN t m.P r0 H) ?_));clear H;rintro v w ⟨rfl,H⟩;rw[ZQ];refine Wq H ?_;refine V5 rfl rfl rfl ?_;refine V5 rfl rfl rfl ?_;refine W5 H ?_;exact Q3 (Jy H.drop.drop.drop.drop.drop.drop.drop.drop.drop.drop rfl fun w' H'=>⟨rfl,H'⟩)
  | some q0=>
   obtain⟨r,rfl,ZK,yH,K9⟩:=(J.R.tree _ _).1 ((YI J.R.nd).1 hf);have Qx:(QV s.par (r:Int)).isSome=true:=by rw[hf];rfl
   replace H:=Zy (E:=69) (k:=2) H;refine Jc rfl rfl (lR c s r Qx J.T J.P (by omega) (.slice none 0 0) [] (by simp) H.swap) ?_;clear H;rintro v w (⟨hc,rfl,H⟩|⟨hc,rfl,RM,H⟩|⟨hc,rfl,Z,s',hZ,hS,H⟩)
   ·rw[lu] at hc
    have h5:Gi s r []=5:=by
     rw[lu];split
     ·rfl
     ·rename_i h;rw[if_neg h] at hc;exact absurd rfl hc
    rw[h5];rw[show (((5:Nat):Int))=5 from rfl];refine IS H ?_;refine Y7 H ?_;refine Wq H ?_;refine C2 H ?_;refine IK H ?_;refine GL H ?_;refine MO H ?_;exact Q3 (Jy H.drop.drop.drop.drop.drop.drop rfl fun w' H'=>⟨rfl,H'⟩)
   ·exact absurd RM (Nat.not_lt_zero _)
   ·obtain rfl:Z=[]:=List.map_eq_nil_iff.1 hZ;obtain⟨n1,n2,n3,n4,n5,n6⟩:=cQ hw J.T Qx hS;have Z9:s'.own=s.own:=hS.zero rfl;have PG:=bz hS;have AK:(r:Int)≤s.last:=(hw.par.2.2 _ _ ((YI J.T.nd).1 hf)).2;have HJ:=kQ hw AK hS J.I;replace H:=Js [0] 1 H;refine UA H ?_;obtain⟨q2,mem2,UK,Zo,H⟩:=Y9 H
    have Bd:((s.last+1:Nat):Int)∈s'.mns.map (·.1):=by
     rw[UK.mkeys];exact mem_map.2 ⟨(_,_),(YI n5.nd).1 n3,rfl⟩
    obtain⟨b1,ZW⟩:=R8 (l:=s'.mns) (f:=fun x=>x.1) (g:=fun x=>x.2.1) (k:=((s.last+1:Nat):Int)) Bd;obtain⟨⟨r1,b1',M⟩,m1,m2,Vk,Vn,Yo⟩:=R7 ZW;have Vn:r1=((s.last+1:Nat):Int):=Vn;have Yo:b1'=b1:=Yo;subst Vn Yo;have Xh:QV (s'.mns.map VU) ((s.last+1:Nat):Int)=some b1':=ZW;obtain rfl:M=[]:=yh hw UK J.T Qx hS (by rw[Vk];exact mem_append.2 (.inr mem_cons_self));replace H:=Js [5,0,0,0,0,0] 0 H;have cC:=jk q2.trp s'.last s'.par ((s.last+1:Nat):Int) H;rw[n3] at cC;refine Ic H ?_;refine Jc rfl rfl (cC) ?_;clear H cC;rintro v w ⟨rfl,H⟩;rw[show (some (r:Int)).getD 0=(r:Int) from rfl,show (if (some (r:Int)).isSome=true then (0:Int) else 6)=0 from rfl];refine U2 H ?_;replace H:=Js [9,9,0,0,0,0,0,0,0,0,0] 0 H;refine Y7 H ?_;refine Wq H ?_;rw[show ((r:Int) != (r:Int))=false from bne_self_eq_false _];refine Wu H ?_;refine Xu H ?_;refine QS rfl rfl rfl (GH (key:=((s.last+1:Nat):Int)) H rfl rfl Vp rfl ?_);rw[Xh];replace H:=Js [1,0] 0 H;replace H:Q0 w (VQ b1' []::star ((m1++m2).map VV)::_):=(Q0.pick (R:=VV) (x:=(((s.last+1:Nat):Int),b1',[])) Vk).1 H
    refine QS rfl rfl rfl (V1 (a:=[]) (b:=[]) rfl rfl (call (gU b1' [] H) ?_));clear H;rintro v w ⟨rfl,H⟩;replace H:=(Q0.pick (R:=VV) (x:=(((s.last+1:Nat):Int),b1',[])) Vk).2 H;replace H:=Js [6,0,0,0,0,0,0,0,0,0,0] 0 H;refine Zm H ?_;refine Wu H ?_;refine Ra H ?_;refine QS rfl rfl rfl (V1 (a:=[]) (b:=[]) rfl rfl (call (Ip q2.sp s'.size mem2 s'.own H) ?_));clear H;rintro v w ⟨rfl,H⟩;rw[Z9];refine GL H ?_;rw[show (((s.own.length - (s.own.filter (· != 0)).length:Nat):Int) != ((s.own.length - (s.own.filter (· != 0)).length:Nat):Int))=false from bne_self_eq_false _];refine YS H ?_;replace H:=Js [4,4,4,0,3,2,2,2,2,1,0] 0 H;replace H:=VJ UK Zo H;refine VM H ?_;refine Jc rfl rfl (aN c s' ((s.last+1:Nat):Int) n5 (by rw[n3];rfl) HJ (fun k g e hk=>by rw[PG] at hk;have:=J.G k _ hk;dsimp only at this;omega) H) ?_;clear H;rintro v w ⟨u,L,s2,rfl,UN,US,Cu,Ol,P3,H⟩;obtain⟨P4,hB⟩:=yg hw J.T Qx hS UN Cu P3
    have aT:Inv s2:=by
     obtain⟨G,D,t⟩:=P3.t;exact kT t HJ
    obtain⟨au,mu,cu,rfl⟩:=V8 H;refine U2 H ?_;refine Ao H ?_;refine QS rfl rfl rfl (Ad H rfl rfl rfl ?_);clear H;intro bS w H;replace H:Q0 w (pts bS (row 3 (Qn [((s.last+1:Nat):Int)]++[]))::_):=H;replace H:=GI (E:=3) (k:=1) (len:=1) (cap:=1) (c:=Qn [((s.last+1:Nat):Int)]) (spare:=[]) rfl ⟨by decide,by decide⟩ (by decide) H;refine QS rfl rfl rfl (V1 (a:=[]) (b:=[]) rfl rfl (call (JG _ _ L [((s.last+1:Nat):Int)] (by rw[P4];simp) H.swap) ?_));clear H;rintro v w ⟨rfl,H⟩;rw[decide_eq_true P4];replace H:=H.drop.drop;obtain⟨q3,mem3,Wc,LS,H⟩:=Y9 H;replace H:=Js [3,3,0,0,0] 0 H;refine Wu H ?_;refine Ra H ?_;refine QS rfl rfl rfl (V1 (a:=[]) (b:=[]) rfl rfl (call (Ip q3.sp s2.size mem3 s2.own H) ?_));clear H;rintro v w ⟨rfl,H⟩;rw[hB.own];refine GL H ?_;rw[show (((s.own.length - (s.own.filter (· != 0)).length:Nat):Int) == ((s.own.length - (s.own.filter (· != 0)).length:Nat):Int))=true from beq_self_eq_true _];refine Wu H ?_;refine Ra H ?_;refine QS rfl rfl rfl (V1 (a:=[]) (b:=[]) rfl rfl (call (T5 q3.tp s2.tab H.swap) ?_));clear H;rintro v w ⟨rfl,H⟩;rw[hB.tab];refine GL H ?_;rw[show (((U8 s.tab - ZV s.tab:Nat):Int) == ((U8 s.tab - ZV s.tab:Nat):Int))=true from beq_self_eq_true _];refine DZ H ?_;replace H:=Js [2,2,2,1,0] 0 H;replace H:=VJ Wc LS H;replace H:=Z1 H.swap;refine QS rfl rfl rfl (V1 (a:=[]) (b:=[]) rfl rfl (call (tX p s2 m told (hB.rel J.R.w) H) ?_));clear H;rintro v w ⟨rfl,H⟩;refine DZ H ?_;refine QS rfl rfl rfl (V1 (a:=[]) (b:=[]) rfl rfl (call (zQ p s2 m told (hB.rel J.R.w) aT H) ?_));clear H;rintro v w ⟨rfl,H⟩;refine J4 H ?_;exact Q3 (Jy H.drop.drop rfl fun w' H'=>⟨rfl,H'⟩)
end Go.Proofs.YtmjdnljneifpcaaGreatDoor
set_option linter.constructorNameAsVariable false
set_option maxRecDepth 100000
namespace Go.Proofs.YtmjdnljneifpcaaGreatDoor
open List
open Go.SL Go.ChangeShapes Go.WideShapes Go.ChangeAt Go.RowKit Go.Deep
def cD (W:World) (y:Ac):Prop:=y.X < 18446744073709551616∧(∀ z∈y.ws,z < 18446744073709551616)∧∃ (ad:Option Addr) (cap:Nat),y.vW = .slice ad y.ws.length cap∧(y.ws=[]∨∃ b o E fz c,ad=some ⟨b,o,none⟩∧W.heap[b]? = some (.cells (List.toArray c) E fz)∧QY c o (y.ws.length*1) (Qi y.ws))
def Ln (W:World) (y:ZN):Prop:=cD W y.a∧∃ (ad:Option Addr) (cap:Nat),y.vL = .slice ad y.L.length cap∧(y.L=[]∨∃ b o E fz c,ad=some ⟨b,o,none⟩∧W.heap[b]? = some (.cells (List.toArray c) E fz)∧QY c o (y.L.length*1) (Qn y.L))
section
variable {H:Type} {enc:TypeId×Value→H} {W:World} {n:Nat} {sp:Nat→Bool} {held:Bool} {base:Nat}
theorem cE {z:Int} (h:(Lit.int .u64 z).wf=true):∃ k:Nat,z=k∧k < 18446744073709551616:=by
 have h':(decide (IntKind.u64.min≤z) && decide (z≤IntKind.u64.max))=true:=h;rw[Bool.and_eq_true,decide_eq_true_eq,decide_eq_true_eq] at h';have h1:(0:Int)≤z:=h'.1;have h2:z≤18446744073709551615:=h'.2;exact⟨z.toNat,by omega,by omega⟩
theorem zU {v:Value} {x:DataW H×List MemPlace} (h:DataW.trod enc Tryz.prog W base sp held n 74 [v]=some x) :
  ∃ (ad:Option Addr) (cap:Nat) (ws:List Nat),v = .slice ad ws.length cap∧(∀ z∈ws,z < 18446744073709551616)∧(ws=[]∨∃ b o E fz c,ad=some ⟨b,o,none⟩∧W.heap[b]? = some (.cells (List.toArray c) E fz)∧QY c o (ws.length*1) (Qi ws)):=by
 rcases open_ints Tryz.underlying74 Tryz.underlying83 (by kernel_rfl) h with ⟨h1,_⟩|⟨a,len,cap,zs,h1,_,hl,_,Qw,_,hc,hw⟩
 ·injection h1 with h1 _
  exact⟨none,0,[],h1,by simp,.inl rfl⟩
 ·injection h1 with h1 _
  have VO:len≤zs.length:=by rw[Qw];split <;> omega
  refine⟨some a,cap,(zs.take len).map Int.toNat,?_,?_,?_⟩
  ·rw[h1];congr 1;simp;omega
  ·intro z hz;obtain⟨y,hy,rfl⟩:=mem_map.1 hz;obtain⟨k,rfl,hk⟩:=cE (hw y (mem_of_mem_take hy));exact hk
  ·rcases Nat.eq_zero_or_pos len with rfl|BU
   ·left;simp
   ·right;have UP:=hc 0 (by omega);obtain⟨b,o,s⟩:=a
    have hs:s=none∧∃ c E fz,W.heap[b]? = some (.cells c E fz):=by
     unfold World.cell? Addr.add at UP;simp only[Nat.add_zero,if_true] at UP;split at UP
     ·rename_i c E fz hh;refine⟨?_,c,E,fz,hh⟩;cases s with
      | none=>rfl
      | some s=>simp at UP
     ·cases UP
    obtain⟨rfl,c,E,fz,hh⟩:=hs;refine⟨b,o,E,fz,c.toList,rfl,by simpa using hh,?_⟩;have Lo:(Qi ((zs.take len).map Int.toNat)).length=((zs.take len).map Int.toNat).length*1:=GY _;rw[← Lo];refine QY.of_get fun j v hj=>?_
    have ZP:j < len:=by
     have:=(List.getElem?_eq_some_iff.1 hj).1;rw[Lo] at this;simp at this;omega
    have h2:=hc j (by omega);rw[Gj] at h2;unfold World.cell? at h2;simp only[hh] at h2;have hz:=getElem?_eq_getElem (l:=zs) (i:=j) (by omega);obtain⟨k,hk,_⟩:=cE (hw zs[j] (getElem_mem _))
    have hv:v = .int .u64 (zs.getD j 0):=by
     unfold Qi at hj;rw[getElem?_map,getElem?_map,getElem?_take_of_lt ZP,hz] at hj;simp only[Option.map_some] at hj;injection hj with hj
     rw[← hj,getD_eq_getElem?_getD,hz];show Value.int .u64 ((zs[j].toNat:Nat):Int) = .int .u64 zs[j];rw[hk];rfl
    rw[hv];simpa using h2
theorem zX {v:Value} {x:DataW H×List MemPlace} (h:DataW.trod enc Tryz.prog W base sp held n 31 [v]=some x) :
  ∃ (ad:Option Addr) (cap:Nat) (ws:List Int),v = .slice ad ws.length cap∧(ws=[]∨∃ b o E fz c,ad=some ⟨b,o,none⟩∧W.heap[b]? = some (.cells (List.toArray c) E fz)∧QY c o (ws.length*1) (Qn ws)):=by
 rcases open_ints Tryz.underlying31 Tryz.underlying3 (by kernel_rfl) h with ⟨h1,_⟩|⟨a,len,cap,zs,h1,_,hl,_,Qw,_,hc,hw⟩
 ·injection h1 with h1 _
  exact⟨none,0,[],h1,.inl rfl⟩
 ·injection h1 with h1 _
  have VO:len≤zs.length:=by rw[Qw];split <;> omega
  refine⟨some a,cap,zs.take len,?_,?_⟩
  ·rw[h1];congr 1;simp;omega
  ·rcases Nat.eq_zero_or_pos len with rfl|BU
   ·left;simp
   ·right;have UP:=hc 0 (by omega);obtain⟨b,o,s⟩:=a
    have hs:s=none∧∃ c E fz,W.heap[b]? = some (.cells c E fz):=by
     unfold World.cell? Addr.add at UP;simp only[Nat.add_zero,if_true] at UP;split at UP
     ·rename_i c E fz hh;refine⟨?_,c,E,fz,hh⟩;cases s with
      | none=>rfl
      | some s=>simp at UP
     ·cases UP
    obtain⟨rfl,c,E,fz,hh⟩:=hs;refine⟨b,o,E,fz,c.toList,rfl,by simpa using hh,?_⟩;have Lo:(Qn (zs.take len)).length=(zs.take len).length*1:=YC _;rw[← Lo];refine QY.of_get fun j v hj=>?_
    have ZP:j < len:=by
     have:=(List.getElem?_eq_some_iff.1 hj).1;rw[Lo] at this;simp at this;omega
    have h2:=hc j (by omega);rw[Gj] at h2;unfold World.cell? at h2;simp only[hh] at h2;have hz:=getElem?_eq_getElem (l:=zs) (i:=j) (by omega)
    have hv:v = .int .i64 (zs.getD j 0):=by
     unfold Qn at hj;rw[getElem?_map,getElem?_take_of_lt ZP,hz] at hj;simp only[Option.map_some] at hj;injection hj with hj
     rw[← hj,getD_eq_getElem?_getD,hz];rfl
    rw[hv];simpa using h2
theorem YV {α:Type} {l:List α} {n:Nat} (h:l.length=n+1):∃ a t,l=a::t∧t.length=n:=by
 cases l with
 | nil=>cases h
 | cons a t=>exact⟨a,t,rfl,by simpa using h⟩
theorem zK {cs:List Value} {x:DataW H×List MemPlace} (h:DataW.trod enc Tryz.prog W base sp held n 93 cs=some x):∃ r:Ac,cs=WN r∧cD W r:=by
 obtain⟨xs,k,rfl,hx,hl,Qw,hf⟩:=DataW.trod_struct Tryz.underlying93 h;have Y5:cs.length=9:=hl.trans (by kernel_rfl);obtain⟨c0,ct0,rfl,cF⟩:=YV Y5;obtain⟨c1,ct1,rfl,cH⟩:=YV cF;obtain⟨c2,ct2,rfl,cI⟩:=YV cH;obtain⟨c3,ct3,rfl,cJ⟩:=YV cI;obtain⟨c4,ct4,rfl,cM⟩:=YV cJ;obtain⟨c5,ct5,rfl,cN⟩:=YV cM;obtain⟨c6,ct6,rfl,cP⟩:=YV cN;obtain⟨c7,ct7,rfl,cT⟩:=YV cP;obtain⟨c8,ct8,rfl,cd⟩:=YV cT;obtain rfl:=length_eq_zero_iff.1 cd;obtain⟨y0,yt0,rfl,ce⟩:=YV Qw;obtain⟨y1,yt1,rfl,cj⟩:=YV ce;obtain⟨y2,yt2,rfl,cm⟩:=YV cj;obtain⟨y3,yt3,rfl,cn⟩:=YV cm;obtain⟨y4,yt4,rfl,zR⟩:=YV cn;obtain⟨y5,yt5,rfl,zW⟩:=YV zR;obtain⟨y6,yt6,rfl,zA⟩:=YV zW;obtain⟨y7,yt7,rfl,zB⟩:=YV zA;obtain rfl:=length_eq_zero_iff.1 zB;have h0:=hf 0 _ rfl;have h1:=hf 1 _ rfl;have h2:=hf 2 _ rfl;have h3:=hf 3 _ rfl;have h4:=hf 4 _ rfl;have h5:=hf 5 _ rfl;have h6:=hf 6 _ rfl;have h7:=hf 7 _ rfl;obtain⟨z0,e0,_⟩:=DataW.trod_int Tryz.underlying3 h0;obtain⟨z1,e1,_⟩:=DataW.trod_int Tryz.underlying3 h1;obtain⟨z2,e2,_⟩:=DataW.trod_int Tryz.underlying3 h2;obtain⟨z3,e3,_⟩:=DataW.trod_int Tryz.underlying3 h3;obtain⟨z4,e4,_,w4⟩:=DataW.trod_int Tryz.underlying83 h4;obtain⟨ad,cap,ws,e5,Yq,hr⟩:=zU (v:=c5) h5;obtain⟨z6,e6,_⟩:=DataW.trod_bool Tryz.underlying4 h6;obtain⟨xs7,k7,_,_,hl7,zC,mE⟩:=DataW.trod_struct Tryz.underlying69 h7;obtain⟨x70,xt70,rfl,zD⟩:=YV zC;obtain⟨x71,xt71,rfl,zE⟩:=YV zD;obtain rfl:=length_eq_zero_iff.1 zE;have zF:=mE 0 _ rfl;have zH:=mE 1 _ rfl;obtain⟨z7,e7,_⟩:=DataW.trod_int Tryz.underlying3 zF;obtain⟨z8,e8,_⟩:=DataW.trod_int Tryz.underlying3 zH;obtain⟨X,rfl,hX⟩:=cE w4;refine⟨⟨z0,z1,z2,z3,X,c5,ws,z6,z7,z8⟩,?_,hX,Yq,ad,cap,e5,hr⟩;have e0:[c0]=[.int .i64 z0]:=e0;have e1:[c1]=[.int .i64 z1]:=e1;have e2:[c2]=[.int .i64 z2]:=e2;have e3:[c3]=[.int .i64 z3]:=e3;have e4:[c4]=[.int .u64 X]:=e4;have e6:[c6]=[.bool z6]:=e6;have e7:[c7]=[.int .i64 z7]:=e7;have e8:[c8]=[.int .i64 z8]:=e8;simp only[List.cons.injEq,and_true] at e0 e1 e2 e3 e4 e6 e7 e8;rw[e0,e1,e2,e3,e4,e6,e7,e8];rfl
theorem zI {cs:List Value} {x:DataW H×List MemPlace} (h:DataW.trod enc Tryz.prog W base sp held n 95 cs=some x):∃ r:ZN,cs=UT r∧Ln W r:=by
 obtain⟨xs,k,rfl,hx,hl,Qw,hf⟩:=DataW.trod_struct Tryz.underlying95 h;have Y5:cs.length=12:=hl.trans (by kernel_rfl);obtain⟨c0,ct0,rfl,cF⟩:=YV Y5;obtain⟨c1,ct1,rfl,cH⟩:=YV cF;obtain⟨c2,ct2,rfl,cI⟩:=YV cH;obtain⟨c3,ct3,rfl,cJ⟩:=YV cI;obtain⟨c4,ct4,rfl,cM⟩:=YV cJ;obtain⟨c5,ct5,rfl,cN⟩:=YV cM;obtain⟨c6,ct6,rfl,cP⟩:=YV cN;obtain⟨c7,ct7,rfl,cT⟩:=YV cP;obtain⟨c8,ct8,rfl,cd⟩:=YV cT;obtain⟨c9,ct9,rfl,zJ⟩:=YV cd;obtain⟨c10,ct10,rfl,zL⟩:=YV zJ;obtain⟨c11,ct11,rfl,zM⟩:=YV zL;obtain rfl:=length_eq_zero_iff.1 zM;obtain⟨y0,yt0,rfl,ce⟩:=YV Qw;obtain⟨y1,yt1,rfl,cj⟩:=YV ce;obtain⟨y2,yt2,rfl,cm⟩:=YV cj;obtain⟨y3,yt3,rfl,cn⟩:=YV cm;obtain rfl:=length_eq_zero_iff.1 cn;have h0:=hf 0 _ rfl;have h1:=hf 1 _ rfl;have h2:=hf 2 _ rfl;have h3:=hf 3 _ rfl;obtain⟨z0,e0,_⟩:=DataW.trod_int Tryz.underlying3 h0;obtain⟨q,e1,hq⟩:=zK (cs:=[c1,c2,c3,c4,c5,c6,c7,c8,c9]) h1;obtain⟨z2,e2,_⟩:=DataW.trod_int Tryz.underlying3 h2;obtain⟨ad,cap,ws,e3,hr⟩:=zX (v:=c11) h3;refine⟨⟨z0,q,z2,c11,ws⟩,?_,hq,ad,cap,e3,hr⟩;have e0:[c0]=[.int .i64 z0]:=e0;have e2:[c10]=[.int .i64 z2]:=e2;simp only[List.cons.injEq,and_true] at e0 e2;rw[e0,e2];show Value.int .i64 z0::([c1,c2,c3,c4,c5,c6,c7,c8,c9]++[.int .i64 z2,c11])=_;rw[e1];rfl
instance:Inhabited ZN:=⟨⟨0,⟨0,0,0,0,0,.slice none 0 0,[],false,0,0⟩,0,.slice none 0 0,[]⟩⟩
theorem zN {v:Value} {d:DataW H} {ps:List MemPlace} {r:Reach} {b0:Nat} (hv:Value.okWide Tryz.prog W r b0 24 v) (h:DataW.Trod enc Tryz.prog W 0 (fun _=>true) true 24 v d ps) :
  ∃ (ad:Option Addr) (cap:Nat) (l:List ZN),v = .slice ad l.length cap∧l.length≤maxLen∧(∀ x∈l,Ln W x)∧(l=[]∨∃ el sp,d = .slice el sp∧el.length=l.length)∧(l=[]∨∃ b o E fz c,ad=some ⟨b,o,none⟩∧W.heap[b]? = some (.cells (List.toArray c) E fz)∧∀ (i:Nat) (a:ZN),l[i]? = some a→QY c (o+i*12) 12 (UT a)):=by
 obtain⟨a,len,cap,rfl⟩:=okWide_slice Tryz.underlying24 hv;obtain⟨fuel,hf⟩:=h
 rcases open_slice Tryz.underlying24 hf with ⟨h1,_⟩|⟨a',len',cap',m,n,D,Pl,h1,hb,hl,hm,UJ,hx,kV⟩
 ·have h1:[Value.slice a len cap]=[.slice none 0 0]:=h1;simp at h1;obtain⟨rfl,rfl,rfl⟩:=h1;exact⟨none,0,[],rfl,Nat.zero_le _,(fun x hx=>by cases hx),.inl rfl,.inl rfl⟩
 ·have h1:[Value.slice a len cap]=[.slice (some a') len' cap']:=h1;simp at h1;obtain⟨rfl,rfl,rfl⟩:=h1;have zO:Tryz.prog.cellsOf 95=12:=by kernel_rfl
  have each:∀ i,i < len→∃ q:ZN,Ln W q∧∀ (j:Nat) x,(UT q)[j]? = some x→W.cell? (a'.add (i*12+j))=some x:=by
   intro i hi;obtain⟨cs',h2,h3⟩:=kV i (by rw[UJ];simp;omega);obtain⟨q,rfl,hq⟩:=zI h3;rw[zO] at h2;obtain⟨_,Qw,B5⟩:=World.cells?_some h2;refine⟨q,hq,fun j x hj=>?_⟩;have:=B5 j (by have:=(List.getElem?_eq_some_iff.1 hj).1;exact this);rw[add_add] at this;rw[this,hj]
  obtain⟨q,hq⟩:=choose_lt each;have Ch:((List.range len).map q).length=len:=by simp
  have ZG:∀ x∈(List.range len).map q,Ln W x:=by
   intro x hx;obtain⟨i,hi,rfl⟩:=mem_map.1 hx;exact(hq i (mem_range.1 hi)).1
  rcases Nat.eq_zero_or_pos len with rfl|BU
  ·exact⟨some a',cap,[],rfl,Nat.zero_le _,(fun x hx=>by cases hx),.inl rfl,.inl rfl⟩
  ·have UP:=(hq 0 BU).2 0 _ rfl;obtain⟨b,o,s⟩:=a'
   have hs:s=none∧∃ c E fz,W.heap[b]? = some (.cells c E fz):=by
    unfold World.cell? Addr.add at UP;simp only[Nat.zero_mul,Nat.add_zero,if_true] at UP;split at UP
    ·rename_i c E fz hh;refine⟨?_,c,E,fz,hh⟩;cases s with
     | none=>rfl
     | some s=>simp at UP
    ·cases UP
   obtain⟨rfl,c,E,fz,hh⟩:=hs;refine⟨some ⟨b,o,none⟩,cap,(List.range len).map q,by rw[Ch],by rw[Ch];omega,ZG,.inr ⟨_,_,(Prod.mk.inj hx).1,by rw[Ch,length_map,length_range]⟩,.inr ⟨b,o,E,fz,c.toList,rfl,by simpa using hh,?_⟩⟩;intro i a mH;have hi:i < len:=by have:=(List.getElem?_eq_some_iff.1 mH).1;simpa using this
   have e:q i=a:=by simpa [hi] using mH
   subst e;refine QY.of_get (vs:=UT (q i)) fun j x hj=>?_;have:=(hq i hi).2 j x hj;rw[Gj] at this;unfold World.cell? at this;simp only[hh] at this;simpa [Nat.add_assoc] using this
theorem zP {cs:List Value} {x:DataW H×List MemPlace} (h:DataW.trod enc Tryz.prog W base sp held n 23 cs=some x):∃ z1 z2 z3:Int,cs=[.int .i64 z1,.int .i64 z2,.int .i64 z3]:=by
 obtain⟨xs,k,rfl,hx,hl,Qw,hf⟩:=DataW.trod_struct Tryz.underlying23 h;have Y5:cs.length=3:=hl.trans (by kernel_rfl);obtain⟨c0,ct0,rfl,g0⟩:=YV Y5;obtain⟨c1,ct1,rfl,g1⟩:=YV g0;obtain⟨c2,ct2,rfl,g2⟩:=YV g1;obtain rfl:=length_eq_zero_iff.1 g2;obtain⟨y0,yt0,rfl,k0⟩:=YV Qw;obtain⟨y1,yt1,rfl,k1⟩:=YV k0;obtain⟨y2,yt2,rfl,k2⟩:=YV k1;have h0:=hf 0 _ rfl;have h1:=hf 1 _ rfl;have h2:=hf 2 _ rfl;obtain⟨z0,e0,_⟩:=DataW.trod_int Tryz.underlying3 h0;obtain⟨z1,e1,_⟩:=DataW.trod_int Tryz.underlying3 h1;obtain⟨z2,e2,_⟩:=DataW.trod_int Tryz.underlying3 h2;refine⟨z0,z1,z2,?_⟩;have e0:[c0]=[.int .i64 z0]:=e0;have e1:[c1]=[.int .i64 z1]:=e1;have e2:[c2]=[.int .i64 z2]:=e2;simp only[List.cons.injEq,and_true] at e0 e1 e2;rw[e0,e1,e2]
theorem zS {v:Value} {d:DataW H} {ps:List MemPlace} {r:Reach} {b0:Nat} (hv:Value.okWide Tryz.prog W r b0 23 v) (h:DataW.Trod enc Tryz.prog W 0 (fun _=>true) true 23 v d ps):∃ z1 z2 z3:Int,v = .agg #[.int .i64 z1,.int .i64 z2,.int .i64 z3]:=by
 obtain⟨cs,rfl,Ve⟩:=okWide_struct Tryz.underlying23 hv;obtain⟨fuel,hf⟩:=h;obtain⟨z1,z2,z3,hx⟩:=zP hf;refine⟨z1,z2,z3,?_⟩;have:cs.toList=[.int .i64 z1,.int .i64 z2,.int .i64 z3]:=hx;rw[← Array.toArray_toList (xs:=cs),this]
end
theorem mI {c:List Value}:∀ {l:List ZN} {o:Nat},(∀ i a,l[i]? = some a→QY c (o+i*12) 12 (UT a))→QY c o (l.length*12) (AI l)
 | [],o,_ => .nil o
 | t::l,o,h=>by
  have h0:=h 0 t rfl
  have ih:=mI (l:=l) (o:=o+12) fun i u hu=>by
   have:=h (i+1) u (by simpa using hu);rw[show o+12+i*12=o+(i+1)*12 by omega];exact this
  rw[length_cons,Nat.succ_mul];show QY c o (l.length*12+12) (UT t++AI l);have h0:QY c o 12 (UT t):=by simpa using h0
  unfold UT at h0 ⊢;obtain _|⟨g0,h0⟩:=h0;obtain _|⟨g1,h0⟩:=h0;obtain _|⟨g2,h0⟩:=h0;obtain _|⟨g3,h0⟩:=h0;obtain _|⟨g4,h0⟩:=h0;obtain _|⟨g5,h0⟩:=h0;obtain _|⟨g6,h0⟩:=h0;obtain _|⟨g7,h0⟩:=h0;obtain _|⟨g8,h0⟩:=h0;obtain _|⟨g9,h0⟩:=h0;obtain _|⟨g10,h0⟩:=h0;obtain _|⟨g11,h0⟩:=h0;exact .cons g0 (.cons g1 (.cons g2 (.cons g3 (.cons g4 (.cons g5 (.cons g6 (.cons g7 (.cons g8 (.cons g9 (.cons g10 (.cons g11 ih)))))))))))
theorem zT {W:World} {ad:Option Addr} {cap:Nat} {l:List ZN} (h:l=[]∨∃ b o E fz c,ad=some ⟨b,o,none⟩∧W.heap[b]? = some (.cells (List.toArray c) E fz)∧∀ (i:Nat) (a:ZN),l[i]? = some a→QY c (o+i*12) 12 (UT a)) (fr:List Q2):Ya (old W::fr) (.slice ad l.length cap) l.length 12 (AI l):=by
 refine⟨yI l,ad,cap,rfl,?_⟩
 rcases h with rfl|⟨b,o,E,fz,c,rfl,hb,hr⟩
 ·exact .inl rfl
 ·haveI:Lx W b (.cells (List.toArray c) E fz):=⟨hb⟩;exact .inr ⟨b,o,E,fz,c,rfl,inferInstance,mI hr⟩
theorem zc {W:World} {x:Ac} (h:cD W x) (fr:List Q2):OK (old W::fr) x:=by
 obtain⟨h1,h2,ad,cap,h3,h4⟩:=h;refine⟨h1,h2,GY _,ad,cap,h3,?_⟩
 rcases h4 with h4|⟨b,o,E,fz,c,rfl,hb,hr⟩
 ·left;rw[h4];rfl
 ·haveI:Lx W b (.cells (List.toArray c) E fz):=⟨hb⟩;exact .inr ⟨b,o,E,fz,c,rfl,inferInstance,hr⟩
theorem zd {W:World} {x:ZN} (h:Ln W x) (fr:List Q2):EB (old W::fr) x:=by
 obtain⟨h1,ad,cap,h3,h4⟩:=h;refine⟨zc h1 fr,YC _,ad,cap,h3,?_⟩
 rcases h4 with h4|⟨b,o,E,fz,c,rfl,hb,hr⟩
 ·left;rw[h4];rfl
 ·haveI:Lx W b (.cells (List.toArray c) E fz):=⟨hb⟩;exact .inr ⟨b,o,E,fz,c,rfl,inferInstance,hr⟩
theorem own0:ownKnob Tryz.prog.godebug=none:=by kernel_rfl
theorem zf:laidOutB Tryz.prog=true:=by kernel_rfl
theorem zh {W:World} (h:laidMetH Tryz.prog Rows.joinActsRow.laid W):MW 0 Lib.deBruijn64tab W∧0 < W.heap.size:=by
 have h':laidMet Tryz.prog [("math/bits.deBruijn64tab",Lib.tabData .u8 (Lib.deBruijn64tab.map fun n:Nat=>(n:Int)))] W:=h;have ht:=Lib.tabIs_of_head (P:=Tryz.prog) (g:=0) (t:=329) (n:=64) (by kernel_rfl) (by kernel_rfl) Tryz.underlying329 (by kernel_rfl) (by kernel_rfl) (by kernel_rfl) h'
 have hc:MW 0 Lib.deBruijn64tab W:=by
  intro j hj;have:=ht.cell (g:=0) (by kernel_rfl) j (by simpa using hj);rw[this];congr 2;rw[getD_eq_getElem?_getD,getD_eq_getElem?_getD,getElem?_map];cases Lib.deBruijn64tab[j]? <;> rfl
 refine⟨hc,?_⟩;have h0:=hc 0 (by decide);unfold World.cell? at h0;refine Nat.pos_of_ne_zero fun hz=>?_;rw[Array.getElem?_eq_none (by omega)] at h0;cases h0
def zi:DataW Unit→List Value
 | .agg l=>l.map fun
  | .lit (.int k z)=>Value.int k z
  | _ => .nilFunc
 | _=>[]
def zj (w:World) (g:Nat) (d:DataW Unit):World:={ w with heap:=w.heap.modify g fun
  | .cells _ t frozen => .cells (zi d).toArray t frozen
  | o=>o }
noncomputable def mJ (os:Os):World:=zj (World.holding Tryz.prog os ⟨#[],#[],[]⟩) 0 Rows.laid_math_bits_deBruijn64tab
theorem zl (os:Os) (args:Array Value):laidMetH Tryz.prog Rows.joinActsRow.laid ((mJ os).forCall (fun _ _=>0) ⟨#[],args,[]⟩).memory:=by
 show laidMet Tryz.prog Rows.joinActsRow.laid _;exact(LaidIn.of_run [0] 8 (by kernel_rfl) (by kernel_rfl) (by kernel_rfl) (by kernel_rfl)).met
end Go.Proofs.YtmjdnljneifpcaaGreatDoor
