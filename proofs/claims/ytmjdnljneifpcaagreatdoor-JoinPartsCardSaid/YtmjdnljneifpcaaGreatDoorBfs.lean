/- Cells: what is proved on the way: every input of the statement; no condition. Texts joined: WhoA WhoB WhoC WhoE WhoD PrsQ PrsW OpnC. -/
import Derived.Test.YtmjdnljneifpcaaGreatDoorBfm
import Derived.Test.YtmjdnljneifpcaaGreatDoorBfl
import Derived.Test.YtmjdnljneifpcaaGreatDoorBfe
import Derived.Test.YtmjdnljneifpcaaGreatDoorBfd
import Derived.Test.YtmjdnljneifpcaaGreatDoorBfk
import Derived.Test.YtmjdnljneifpcaaGreatDoorBfr
import Derived.Test.YtmjdnljneifpcaaGreatDoorRows
import Derived.Lib.SmallJoins
import Derived.Lib.LaidIn
import Derived.Stop.LaidErr
import Derived.Stop.Joined
import Derived.ChangeMaps5
import Derived.ChangeSlices
set_option linter.unusedVariables false
set_option linter.unusedSimpArgs false
set_option linter.unusedSectionVars false
namespace Go.Proofs.YtmjdnljneifpcaaGreatDoor
open List
open Go.SL
def Ag (s:CS) (e:Q9) (p:Nat):Bool:=match YG e p with
 | .obj a b=>match Ql s.tab a b with
  | some (_,f)=>decide (f.region≠e.region)
  | none=>false
 | _=>false
theorem mA {s:CS} {e f:Q9} {p a b c:Nat} (h:YG e p = .obj a b) (h2:Ql s.tab a b=some (c,f)):Ag s e p=decide (f.region≠e.region):=by
 unfold Ag;rw[h];show (match Ql s.tab a b with|some (_,f)=>decide (f.region≠e.region)|none=>false)=_;rw[h2]
theorem mC {s:CS} {e:Q9} {p:Nat} (h:∀ a b,YG e p ≠ .obj a b):Ag s e p=false:=by
 unfold Ag;split
 ·rename_i a b h1;exact absurd h1 (h a b)
 ·rfl
def U7 (s:CS) (k:Nat) (e:Q9) (l:List Nat):List (Int×Int):=(l.filter (Ag s e)).map fun p:Nat=>((k:Int),(p:Int))
def GM (s:CS) (k:Nat):List (Int×Int):=match s.tab[k]? with
 | some ⟨_,some e⟩=>U7 s k e (Rw (Qc s e) e.ws.length)
 | _=>[]
theorem cJ {s:CS} {k g:Nat} {e:Q9} (h:s.tab[k]? = some ⟨g,some e⟩):GM s k=U7 s k e (Rw (Qc s e) e.ws.length):=by
 unfold GM;rw[h]
theorem cM {s:CS} {k:Nat} {r:Int×Int} (h:r∈GM s k):∃ (g:Nat) (e:Q9) (p:Nat),s.tab[k]? = some ⟨g,some e⟩∧r=((k:Int),(p:Int))∧p < e.ws.length∧Ve (Qc s e) p=true∧Ag s e p=true:=by
 unfold GM at h;split at h
 ·rename_i g e hk;obtain⟨p,hp,rfl⟩:=mem_map.1 h;obtain⟨h1,h2⟩:=mem_filter.1 hp;obtain⟨h3,h4⟩:=mem_filter.1 h1;exact⟨g,e,p,hk,rfl,mem_range.1 h3,h4,h2⟩
 ·cases h
theorem PR {s:CS} (hI:Inv s) {k g p:Nat} {e:Q9} (hk:s.tab[k]? = some ⟨g,some e⟩) (hp:p < e.ws.length) (hr:Ve (Qc s e) p=true) (t:Int):QV s.rem ((k:Int),(p:Int))=some t↔∃ (a b:Nat) (f:Q9),YG e p = .obj a b∧Ql s.tab a b=some (a,f)∧f.region≠e.region∧t=a:=by
 rw[hI.rem];constructor
 ·rintro⟨j,q,g1,e1,a,b,f,h0,h1,h2,h3,h4,h5,h6,rfl⟩;injection h0 with iI iJ
  obtain rfl:k=j:=by omega
  obtain rfl:p=q:=by omega
  rw[hk] at h1;injection h1 with h1
  injection h1 with _ h1
  injection h1 with h1
  subst h1;exact⟨a,b,f,h4,h5,h6,rfl⟩
 ·rintro⟨a,b,f,h4,h5,h6,rfl⟩;exact⟨k,p,g,e,a,b,f,rfl,hk,hp,hr,h4,h5,h6,rfl⟩
theorem zG {s:CS} (hw:WF s) (hI:Inv s) {k g p:Nat} {e:Q9} (hk:s.tab[k]? = some ⟨g,some e⟩) (hp:p < e.ws.length) (hr:Ve (Qc s e) p=true) :
  (∃ (a b:Nat) (f:Q9),YG e p = .obj a b∧Ql s.tab a b=some (a,f)∧Ag s e p=decide (f.region≠e.region)∧QV s.rem ((k:Int),(p:Int))=if f.region≠e.region then some (a:Int) else none) ∨
  (∃ kd:Nat,kd < 2∧GS (YG e p) = .agg #[.int .i64 kd,.int .i64 0,.int .i64 0]∧Ql s.tab 0 0=none∧Ag s e p=false∧QV s.rem ((k:Int),(p:Int))=none):=by
 have hz:Ql s.tab 0 0=none:=by
  cases h:Ql s.tab 0 0 with
  | none=>rfl
  | some z=>
   obtain⟨k,e⟩:=z;obtain⟨n,h1,h2,h3⟩:=Z1.1 h;have this:1≤n:=(hw.gen k _ h3).2 rfl;omega
 have VK:(∀ a b,YG e p ≠ .obj a b)→QV s.rem ((k:Int),(p:Int))=none:=fun hn=>by
  cases hf:QV s.rem ((k:Int),(p:Int)) with
  | none=>rfl
  | some t=>
   obtain⟨a,b,f,h1,_⟩:=(PR hI hk hp hr t).1 hf;exact absurd h1 (hn a b)
 cases hl:YG e p with
 | none=>
  have hn:∀ a b,YG e p ≠ .obj a b:=fun a b h=>by rw[hl] at h;cases h
  exact .inr ⟨0,by omega,rfl,hz,mC hn,VK hn⟩
 | grave=>
  have hn:∀ a b,YG e p ≠ .obj a b:=fun a b h=>by rw[hl] at h;cases h
  exact .inr ⟨1,by omega,rfl,hz,mC hn,VK hn⟩
 | obj a b=>
  obtain⟨f,hf⟩:=hI.link k g e p a b hk hp hr hl;refine .inl ⟨a,b,f,rfl,hf,mA hl hf,?_⟩;by_cases QA:f.region≠e.region
  ·rw[if_pos QA];exact(PR hI hk hp hr a).2 ⟨a,b,f,hl,hf,QA,rfl⟩
  ·rw[if_neg QA];cases hq:QV s.rem ((k:Int),(p:Int)) with
   | none=>rfl
   | some t=>
    obtain⟨a',b',f',h1,h2,h3,_⟩:=(PR hI hk hp hr t).1 hq;rw[hl] at h1;injection h1 with h1 I4
    subst h1 I4;rw[hf] at h2;injection h2 with h2
    injection h2 with _ h2
    subst h2;exact absurd h3 QA
theorem mD {s:CS} (hI:Inv s):((Ut s.tab).flatMap (GM s)).length=s.rem.length:=by
 have QN:((Ut s.tab).flatMap (GM s)).Nodup:=by
  refine pairwise_flatMap.2 ⟨fun k hk=>?_,?_⟩
  ·unfold GM;split
   ·unfold U7 Rw;refine List.Pairwise.map _ (fun x y (h:x≠y)=>fun Ra=>h ?_) ((nodup_range.filter _).filter _);injection Ra with _ Ra
    omega
   ·exact List.Pairwise.nil
  ·refine List.Pairwise.imp ?_ (nodup_range.filter _);intro k j (Xj:k≠j) x hx y hy Ra;obtain⟨_,_,p,_,rfl,_⟩:=cM hx;obtain⟨_,_,q,_,rfl,_⟩:=cM hy;injection Ra with h1 _
   omega
 have h1:=UQ QN (l₂:=s.rem.map (·.1)) (by
  intro r hr;obtain⟨k,hk,hr⟩:=mem_flatMap.1 hr;obtain⟨g,e,p,h1,rfl,h2,h3,h4⟩:=cM hr;unfold Ag at h4;split at h4
  ·rename_i a b hl;obtain⟨f,hf⟩:=hI.link k g e p a b h1 h2 h3 hl;rw[hf] at h4;have h4:f.region≠e.region:=by simpa using h4
   have:=(PR hI h1 h2 h3 a).2 ⟨a,b,f,hl,hf,h4,rfl⟩;exact mem_map.2 ⟨_,KE this,rfl⟩
  ·cases h4)
 have h2:=UQ hI.nd (l₂:=(Ut s.tab).flatMap (GM s)) (by
  intro r hr;obtain⟨⟨r',t⟩,hm,rfl⟩:=mem_map.1 hr;obtain⟨k,p,g,e,a,b,f,rfl,h1,h2,h3,h4,h5,h6,_⟩:=(hI.rem r' t).1 ((YP hI.nd).2 hm);have VC:=(List.getElem?_eq_some_iff.1 h1).1;refine mem_flatMap.2 ⟨k,mem_filter.2 ⟨mem_range.2 VC,HC.2 ⟨g,e,h1⟩⟩,?_⟩;rw[cJ h1];exact mem_map.2 ⟨p,mem_filter.2 ⟨mem_filter.2 ⟨mem_range.2 h2,h3⟩,by rw[mA h4 h5];simpa using h6⟩,rfl⟩)
 rw[length_map] at h1 h2;omega
theorem mE (s:CS) (k:Nat) (e:Q9) (a b:List Nat):U7 s k e (a++b)=U7 s k e a++U7 s k e b:=by
 unfold U7;rw[filter_append,map_append]
theorem zU (s:CS) (k:Nat) (e:Q9) (a:List Nat) (p:Nat):(U7 s k e (a++[p])).length=(U7 s k e a).length+if Ag s e p=true then 1 else 0:=by
 rw[mE,length_append];unfold U7;rw[filter_cons];split <;> rfl
theorem zX {s:CS} (hI:Inv s) {ks t:List Nat} {k g:Nat} {e:Q9} (hk:s.tab[k]? = some ⟨g,some e⟩) (h:Ut s.tab=ks++k::t) {kp t2:List Nat} (h2:Rw (Qc s e) e.ws.length=kp++t2):(ks.flatMap (GM s)).length+(U7 s k e kp).length≤s.rem.length:=by
 rw[← mD hI,h,flatMap_append,length_append,flatMap_cons,length_append,cJ hk,h2,mE,length_append];omega
set_option maxRecDepth 10000 in
theorem zK [Q4] (p:Nat) (s:CS) (m:MS) (told:List (Nat×Nat)) (hI:Inv s) {w:World} {fr:List Q2} [hT:Z5 0 Lib.deBruijn64tab fr] (H:Q0 w (Ua p s m told::fr)) :
  Calls Tryz.prog 51 #[pp p] w (ret fun v w'=>v = .bool true∧Q0 w' (Ua p s m told::fr)):=by
 obtain⟨c,mo,a,cap,H⟩:=E8 H;obtain⟨q,mem,hw,hm,H⟩:=YQ H.swap;replace H:=Js [4,0,9,4,0,0,0,0,0,0,0,0,0,0] 0 H;obtain⟨tq,H,cN⟩:=jf H;refine QQ Tryz.func51 rfl (by kernel_rfl) ?_;refine YN H ?_;intro b2 w H;refine J2 H ?_;refine G6 H ?_;refine VO H ?_;intro b3 w H;refine BY H ?_;intro w H;refine J2 H ?_;refine YN H ?_;intro b4 w H;refine BY H ?_;intro w H;refine J2 H ?_;refine XP H ?_;refine Gs H ?_;refine Jc rfl rfl (jh q.tp H) ?_;rintro v w ⟨bt,rfl,H⟩;refine CV H ?_;refine Qd (W9 (a:=[]) (b:=[pp bt]) H rfl (fun yl D w H=>?_));generalize hL:LR _ yl _ _ _ _ D .ready=L at H ⊢;obtain⟨J,hJ⟩:∃ J:List Nat→Q2,J=fun ks=>star [L,pts b4 (row 3 [.int .i64 ((ks.flatMap (GM s)).length:Nat)]),pts b3 (row 44 [pp c]),VU c q,RS q.rp s.rem,V6 q.ip q.sp q.bp,Qq q.bp s.lays,ST q.sp s.size mem s.own]:=⟨_,rfl⟩
 have VQ:∀ (ks:List Nat) (w:World) (l':List Q2),Q0 w (L::pts b4 (row 3 [.int .i64 ((ks.flatMap (GM s)).length:Nat)])::pts b3 (row 44 [pp c])::VU c q::RS q.rp s.rem::V6 q.ip q.sp q.bp::Qq q.bp s.lays::ST q.sp s.size mem s.own::l')→Q0 w (J ks::l'):=by
  intro ks w l' H;rw[hJ];exact Q0.star.2 H
 have YB:∀ (ks:List Nat) (w:World) (l':List Q2),Q0 w (J ks::l')→Q0 w (L::pts b4 (row 3 [.int .i64 ((ks.flatMap (GM s)).length:Nat)])::pts b3 (row 44 [pp c])::VU c q::RS q.rp s.rem::V6 q.ip q.sp q.bp::Qq q.bp s.lays::ST q.sp s.size mem s.own::l'):=by
  intro ks w l' H;rw[hJ] at H;exact Q0.star.1 H
 replace H:=Js [0,2,2,4,5,5,5,5,1,2,0,0,0,0,0,0,0,0,0,0] 0 H;replace H:=VQ [] _ _ H;refine call (ji yl bt q.tp s.tab tq J ?_ H) ?_
 ·intro ks k g e rest w hk Yd H;obtain⟨t1,Yd⟩:=Yd;replace H:=YB _ _ _ H;subst hL;refine Kp (args:=[Xz k g,.agg (YR e).toArray]) H rfl rfl ?_;refine YN H ?_;intro b5 w H;refine J5 H ?_;intro w H;refine J2 H ?_;refine YN H ?_;intro b6 w H;refine J5 H ?_;intro w H;refine J2 H ?_;replace H:=Js [2,0,0,0,0,0,0,0,0,0,0] 0 H;refine⟨rfl,_,H,fun w H=>Qd ?_⟩;refine J1 H ?_;intro w H;refine NF H ?_;refine Jf 4 ?_;refine Jl 5 [6] H ?_;refine Jo 6 H ?_;refine Jk rfl rfl (iv q.ip e.addr H) ?_;rintro v w ⟨bm,ba,rfl,H⟩;refine Jx H ?_;replace H:=Js [2,0,0,0,0,0,0,0,0,0,0,0,0] 0 H;refine J6 H ?_;refine Qd (oo (a:=[]) (b:=[pp bm,pp ba]) H rfl (fun yl2 w H=>?_));generalize Uy:LR _ yl2 _ _ _ _ D .ready=L2 at H ⊢;generalize hLB:LR _ yl _ _ _ _ D .busy=LB at H ⊢;obtain⟨J3,mH⟩:∃ J3:List Nat→Q2,J3=fun kp=>star [L2,LB,pts b6 (row 113 (YR e)),pts b5 (row 69 [.int .i64 k,.int .i64 g]),pts b4 (row 3 [.int .i64 (((ks.flatMap (GM s)).length+(U7 s k e kp).length:Nat):Int)]),pts b3 (row 44 [pp c]),VU c q,RS q.rp s.rem,U5 q.tp s.tab tq]:=⟨_,rfl⟩
  have Eb:∀ (kp:List Nat) (w:World) (l':List Q2),Q0 w (L2::LB::pts b6 (row 113 (YR e))::pts b5 (row 69 [.int .i64 k,.int .i64 g])::pts b4 (row 3 [.int .i64 (((ks.flatMap (GM s)).length+(U7 s k e kp).length:Nat):Int)])::pts b3 (row 44 [pp c])::VU c q::RS q.rp s.rem::U5 q.tp s.tab tq::l')→Q0 w (J3 kp::l'):=by
   intro kp w l' H;rw[mH];exact Q0.star.2 H
  have mI:∀ (kp:List Nat) (w:World) (l':List Q2),Q0 w (J3 kp::l')→Q0 w (L2::LB::pts b6 (row 113 (YR e))::pts b5 (row 69 [.int .i64 k,.int .i64 g])::pts b4 (row 3 [.int .i64 (((ks.flatMap (GM s)).length+(U7 s k e kp).length:Nat):Int)])::pts b3 (row 44 [pp c])::VU c q::RS q.rp s.rem::U5 q.tp s.tab tq::l'):=by
   intro kp w l' H;rw[mH] at H;exact Q0.star.1 H
  replace H:=Js [0,0,2,2,2,2,2,2,5,0,0,0,0,0] 0 H;replace H:=Eb [] _ _ H;refine call (iw yl2 bm ba q.ip q.sp q.bp s.size s.lays s.own e.addr e.lay e.count k e.ws.length (Qc s e) (YG e) (fun x=>x=mem) (fun x hx=>by rw[hx];exact iy hw hm hk) J3 ?_ rfl H) ?_
  ·intro kp pl mem' rest2 w Ec PW H;have Ec:mem'=mem:=Ec;rw[Ec] at H;obtain⟨t2,PW⟩:=PW;obtain⟨Us,D8⟩:=Tq PW;replace H:=mI _ _ _ H;have hb:=zX hI hk Yd PW;have DU:=Oc hw hI.rk;have he:=zU s k e kp pl
   rcases zG hw hI hk Us D8 with ⟨a1,b1,f,ZD,Q6,PA,cP⟩|⟨kd,GQ,Y7,Q6,PA,cP⟩
   ·rw[show GS (YG e pl) = .agg #[.int .i64 2,.int .i64 a1,.int .i64 b1] by rw[ZD]];subst Uy;refine Kp (args:=[.int .i64 pl,.agg #[.int .i64 2,.int .i64 a1,.int .i64 b1]]) H rfl rfl ?_;refine Vg H ?_;refine YN H ?_;intro b8 w H;refine J5 H ?_;intro w H;refine J2 H ?_;replace H:=Js [1,0,0,0,0,0,0,0,0,0,0,0,0] 0 H;refine⟨rfl,_,H,fun w H=>Qd ?_⟩;replace H:=Js [8,7,6,4,1,2,2,2,0,0,0,0,0] 0 H;refine J1 H ?_;intro w H;refine NE H ?_;refine Ja 6 ?_;refine Uf 7 rfl (Q8.none rfl) rfl (by kernel_rfl) ?_;refine Jo 8 H ?_;refine Jk rfl rfl (Sq q.rp s.rem ((k:Int),(pl:Int)) H) ?_;rintro v w ⟨rfl,H⟩;rw[cP];by_cases QA:f.region≠e.region
    ·rw[if_pos QA,Option.getD_some,Option.isSome_some];rw[PA,decide_eq_true QA,if_pos rfl] at he;have AM:(ks.flatMap (GM s)).length+(U7 s k e kp).length+1=(ks.flatMap (GM s)).length+(U7 s k e (kp++[pl])).length:=by omega
     refine CQ H ?_;refine Ff H ?_;refine Jx H ?_;replace H:=Js [7,1,1,2,0,0,0,0,0,0,0,0,0] 0 H;refine J1 H ?_;intro w H;refine Jl 0 [6,11] H ?_;refine WW H ?_;refine Fc H ?_;refine Jw 6 10 H rfl rfl (V3 (a:=[]) (b:=[]) rfl rfl (call (HB q.tp s.tab tq a1 b1 H) ?_)) (YW H rfl ?_)
     ·rintro v w ⟨rfl,H⟩;rw[Q6];refine CR H ?_;intro b11 w H;refine Kv H ?_;intro w H;refine Nc H ?_;rw[show ((f.region:Int) != e.region)=true from bne_iff_ne.2 QA];refine fD H ?_;refine DS H ?_;refine F3 H ?_;refine Ug H ?_;rw[show (((a1:Nat):Int) != ((a1:Nat):Int))=false from bne_self_eq_false _];refine WQ H ?_;refine J7 H ?_;refine YU rfl ?_;refine XP H ?_;refine BY H ?_;intro w H;refine J2 H ?_;rw[Qg (by omega),AM] at H;replace H:=Js [9,9,7,6,6,3,2,3,1,2,2,2] 2 H;exact⟨rfl,_,H,fun w H=>⟨rfl,mem,rfl,Eb _ _ _ H⟩⟩
     ·intro b11 w H;refine Jo 6 H ?_;refine Jk rfl rfl (HB q.tp s.tab tq a1 b1 H.swap) ?_;rintro v w ⟨rfl,H⟩;rw[Q6];refine Ja 7 ?_;refine Ja 8 ?_;refine Ja 9 ?_;replace H:=H.swap;refine Kv H ?_;intro w H;refine Nc H ?_;rw[show ((f.region:Int) != e.region)=true from bne_iff_ne.2 QA];refine fD H ?_;refine DS H ?_;refine F3 H ?_;refine Ug H ?_;rw[show (((a1:Nat):Int) != ((a1:Nat):Int))=false from bne_self_eq_false _];refine WQ H ?_;refine J7 H ?_;refine YU rfl ?_;refine XP H ?_;refine BY H ?_;intro w H;refine J2 H ?_;rw[Qg (by omega),AM] at H;replace H:=Js [9,9,7,6,6,3,2,3,1,2,2,2] 2 H;exact⟨rfl,_,H,fun w H=>⟨rfl,mem,rfl,Eb _ _ _ H⟩⟩
    ·rw[if_neg QA,Option.getD_none,Option.isSome_none];rw[PA,decide_eq_false QA,if_neg (by decide)] at he;have mJ:f.region=e.region:=Classical.byContradiction QA;have AM:(ks.flatMap (GM s)).length+(U7 s k e kp).length=(ks.flatMap (GM s)).length+(U7 s k e (kp++[pl])).length:=by omega
     refine CQ H ?_;refine Ff H ?_;refine Jx H ?_;replace H:=Js [7,1,1,2,0,0,0,0,0,0,0,0,0] 0 H;refine J1 H ?_;intro w H;refine Jl 0 [6,11] H ?_;refine WW H ?_;refine Fc H ?_;refine Jw 6 10 H rfl rfl (V3 (a:=[]) (b:=[]) rfl rfl (call (HB q.tp s.tab tq a1 b1 H) ?_)) (YW H rfl ?_)
     ·rintro v w ⟨rfl,H⟩;rw[Q6];refine CR H ?_;intro b11 w H;refine Kv H ?_;intro w H;refine Nc H ?_;rw[show ((f.region:Int) != e.region)=false by rw[mJ];exact bne_self_eq_false _];refine Nd H ?_;rw[AM] at H;replace H:=Js [9,9,7,6,6,3,2,3,1,2,2,2] 2 H;exact⟨rfl,_,H,fun w H=>⟨rfl,mem,rfl,Eb _ _ _ H⟩⟩
     ·intro b11 w H;refine Jo 6 H ?_;refine Jk rfl rfl (HB q.tp s.tab tq a1 b1 H.swap) ?_;rintro v w ⟨rfl,H⟩;rw[Q6];refine Ja 7 ?_;refine Ja 8 ?_;refine Ja 9 ?_;replace H:=H.swap;refine Kv H ?_;intro w H;refine Nc H ?_;rw[show ((f.region:Int) != e.region)=false by rw[mJ];exact bne_self_eq_false _];refine Nd H ?_;rw[AM] at H;replace H:=Js [9,9,7,6,6,3,2,3,1,2,2,2] 2 H;exact⟨rfl,_,H,fun w H=>⟨rfl,mem,rfl,Eb _ _ _ H⟩⟩
   ·rw[Y7];subst Uy;refine Kp (args:=[.int .i64 pl,.agg #[.int .i64 kd,.int .i64 0,.int .i64 0]]) H rfl rfl ?_;refine Vg H ?_;refine YN H ?_;intro b8 w H;refine J5 H ?_;intro w H;refine J2 H ?_;replace H:=Js [1,0,0,0,0,0,0,0,0,0,0,0,0] 0 H;refine⟨rfl,_,H,fun w H=>Qd ?_⟩;replace H:=Js [8,7,6,4,1,2,2,2,0,0,0,0,0] 0 H;refine J1 H ?_;intro w H;refine NE H ?_;refine Ja 6 ?_;refine Uf 7 rfl (Q8.none rfl) rfl (by kernel_rfl) ?_;refine Jo 8 H ?_;refine Jk rfl rfl (Sq q.rp s.rem ((k:Int),(pl:Int)) H) ?_;rintro v w ⟨rfl,H⟩;rw[cP];rw[Option.getD_none,Option.isSome_none];rw[PA,if_neg (by decide)] at he;have AM:(ks.flatMap (GM s)).length+(U7 s k e kp).length=(ks.flatMap (GM s)).length+(U7 s k e (kp++[pl])).length:=by omega
    refine CQ H ?_;refine Ff H ?_;refine Jx H ?_;replace H:=Js [7,1,1,2,0,0,0,0,0,0,0,0,0] 0 H;refine J1 H ?_;intro w H;refine Jl 0 [6,11] H ?_;refine WW H ?_;refine Fc H ?_;refine Jw 6 10 H rfl rfl (V3 (a:=[]) (b:=[]) rfl rfl (call (HB q.tp s.tab tq 0 0 H) ?_)) (YW H rfl ?_)
    ·rintro v w ⟨rfl,H⟩;rw[Q6];refine CR H ?_;intro b11 w H;refine Kv H ?_;intro w H;refine KN H ?_;refine Wy H ?_;rw[show (((kd:Nat):Int) == 2)=false by rw[beq_eq_false_iff_ne];omega];refine Jv ?_;refine Ig H ?_;refine Qz rfl rfl rfl ?_;refine Nd H ?_;rw[AM] at H;replace H:=Js [9,9,7,6,6,3,2,3,1,2,2,2] 2 H;exact⟨rfl,_,H,fun w H=>⟨rfl,mem,rfl,Eb _ _ _ H⟩⟩
    ·intro b11 w H;refine Jo 6 H ?_;refine Jk rfl rfl (HB q.tp s.tab tq 0 0 H.swap) ?_;rintro v w ⟨rfl,H⟩;rw[Q6];refine Ja 7 ?_;refine Ja 8 ?_;refine Ja 9 ?_;replace H:=H.swap;refine Kv H ?_;intro w H;refine KN H ?_;refine Wy H ?_;rw[show (((kd:Nat):Int) == 2)=false by rw[beq_eq_false_iff_ne];omega];refine Jv ?_;refine Ig H ?_;refine Qz rfl rfl rfl ?_;refine Nd H ?_;rw[AM] at H;replace H:=Js [9,9,7,6,6,3,2,3,1,2,2,2] 2 H;exact⟨rfl,_,H,fun w H=>⟨rfl,mem,rfl,Eb _ _ _ H⟩⟩
  ·rintro v w H;obtain⟨mem',Ec,H⟩:=H;have Ec:mem'=mem:=Ec;rw[Ec] at H;replace H:=mI _ _ _ H;subst Uy;refine⟨_,H,fun w H=>?_⟩;subst hLB
   have hc:(ks.flatMap (GM s)).length+(U7 s k e (Rw (Qc s e) e.ws.length)).length=((ks++[k]).flatMap (GM s)).length:=by
    rw[flatMap_append,length_append,← cJ hk];simp
   rw[hc] at H;replace H:=Js [0,2,2,2,2,5,5,5,2] 4 H;exact⟨rfl,_,H,fun w H=>⟨rfl,VQ _ _ _ H⟩⟩
 ·rintro v w H;replace H:=YB _ _ _ H;rw[mD hI] at H;subst hL;refine⟨_,H,fun w H=>?_⟩;replace H:=Js [3,2,1,0,0,0,0,0,0,0,0,0,0,0,0,0,0,0,0] 0 H;refine J1 H ?_;intro w H;refine Jl 0 [4,7] H ?_;refine WW H ?_;refine Jl 3 [4,7] H ?_;refine Jl 5 [7] H ?_;refine Jo 4 H ?_;refine Jk rfl rfl (qW q.rp s.rem H) ?_;rintro v w ⟨rfl,H⟩;refine Ja 6 ?_;rw[show ((s.rem.length:Int) == (s.rem.length:Int))=true from beq_self_eq_true _];refine Jo 7 H ?_;refine XM H ?_;intro w H;refine Jx H ?_;replace H:=Js [8,0,0,0,0,0,0,0,0,0,0,0,0,0,0,0,0,0,0] 0 H;replace H:=cN _ _ H;replace H:=Js [2,4,4,4,0,7,0,6,6,6,6,5,5,5,3,3] 3 H;replace H:=VM hw hm H;replace H:=Js [1,0,0,0,0,0] 0 H;replace H:=Yw H;replace H:=Js [1,1,0] 0 H;exact Q3 (S5 (ms:=[D]) _ (.inr rfl) ((Q0.star (k:=[pts D (.deferred (some []))])).2 H) (fun w' H' => .cell1 H' rfl rfl .nil) fun w' H'=>⟨rfl,H'.drop⟩)
theorem zR {ids:List Nat} (hn:ids.Nodup) {r:Nat} (h:r∈ids):(ids.map fun i=>if r=i then 1 else 0).sum=1:=by
 induction ids with
 | nil=>cases h
 | cons a l ih=>
  rw[nodup_cons] at hn;rw[map_cons,sum_cons];by_cases hr:r=a
  ·subst hr
   have h0:∀ l':List Nat,r∉l'→(l'.map fun i=>if r=i then 1 else 0).sum=0:=by
    intro l'
    induction l' with
    | nil=>intro _;rfl
    | cons b l' ih=>
     intro h;rw[mem_cons,not_or] at h;rw[map_cons,sum_cons,if_neg h.1,ih h.2]
   rw[if_pos rfl,h0 l hn.1]
  ·rw[if_neg hr,Nat.zero_add];rw[mem_cons] at h;exact ih hn.2 (h.resolve_left hr)
theorem zW (ids:List Nat) (f g:Nat→Nat):(ids.map fun i=>f i+g i).sum=(ids.map f).sum+(ids.map g).sum:=by
 induction ids with
 | nil=>rfl
 | cons a l ih=>rw[map_cons,sum_cons,ih,map_cons,sum_cons,map_cons,sum_cons];omega
theorem cT {α:Type} {ids:List Nat} (hn:ids.Nodup) (f:α→Nat):∀ {L:List α},(∀ a∈L,f a∈ids)→(ids.map fun i=>(L.filter fun a=>decide (f a=i)).length).sum=L.length
 | [],_=>by
  have:∀ l:List Nat,(l.map fun i=>(([]:List α).filter fun a=>decide (f a=i)).length).sum=0:=by
   intro l
   induction l with
   | nil=>rfl
   | cons b l ih=>rw[map_cons,sum_cons,ih];rfl
  exact this ids
 | a::L,h=>by
  have ih:=cT hn f (L:=L) fun b hb=>h b (mem_cons_of_mem _ hb);have h1:=zR hn (h a mem_cons_self)
  have e:(fun i=>((a::L).filter fun a=>decide (f a=i)).length)=fun i=>(if f a=i then 1 else 0)+(L.filter fun a=>decide (f a=i)).length:=by
   funext i
   rw[filter_cons];by_cases hi:f a=i
   ·rw[if_pos (by simpa using hi),if_pos hi,length_cons,Nat.add_comm]
   ·rw[if_neg (by simpa using hi),if_neg hi,Nat.zero_add]
  rw[e,zW,h1,ih,length_cons,Nat.add_comm]
def Ah (ts:List QW) (i:Nat):Nat:=match ts[i]? with
 | some ⟨_,some e⟩=>e.region.toNat
 | _=>0
theorem zA {s:CS} (hw:WF s) {x:Int×Nat×List Nat} (hx:x∈s.mns):x.2.2=(Ut s.tab).filter fun i=>decide (Ah s.tab i=x.1.toNat):=by
 obtain⟨h1,h2⟩:=hw.mine x hx
 have UO:1≤x.1:=by
  have:x.1∈s.mns.map (·.1):=mem_map.2 ⟨x,hx,rfl⟩;rw[hw.mkeys] at this;obtain⟨⟨r,q⟩,hq,he⟩:=mem_map.1 this;have:=(hw.par.2.2 r q hq).1;have he:r=x.1:=he;omega
 refine Tp h1 ((pairwise_lt_range.filter _).filter _) fun i=>?_;rw[h2,mem_filter];unfold Ut;rw[mem_filter,mem_range,HC];constructor
 ·rintro⟨g,e,h3,h4⟩;refine⟨⟨(List.getElem?_eq_some_iff.1 h3).1,g,e,h3⟩,?_⟩;have:Ah s.tab i=e.region.toNat:=by unfold Ah;rw[h3]
  rw[this,h4];simp
 ·rintro⟨⟨_,g,e,h3⟩,h4⟩;refine⟨g,e,h3,?_⟩;have:Ah s.tab i=e.region.toNat:=by unfold Ah;rw[h3]
  rw[this] at h4;have h4:e.region.toNat=x.1.toNat:=by simpa using h4
  obtain⟨_,_,q,hq⟩:=hw.obj i g e h3;have:=(hw.par.2.2 _ _ hq).1;omega
theorem mL {α:Type} {f:Nat→Bool} {g:α→Bool} {ts:List α} (h:∀ (i:Nat) (t:α),ts[i]? = some t→f i=g t):((List.range ts.length).filter f).length=(ts.filter g).length:=by
 have e2:∀ (l:List α) (k:Nat),(∀ (i:Nat) (t:α),l[i]? = some t→f (k+i)=g t)→((List.range' k l.length).filter f).length=(l.filter g).length:=by
  intro l
  induction l with
  | nil=>intro k _;rfl
  | cons a l ih=>
   intro k hk;have h0:=hk 0 a rfl;have hr:=ih (k+1) (fun i t ht=>by rw[show k+1+i=k+(i+1) by omega];exact hk (i+1) t (by simpa using ht));rw[length_cons,range'_succ,filter_cons,filter_cons];rw[Nat.add_zero] at h0;rw[h0];split
   ·simp[hr]
   ·exact hr
 rw[range_eq_range'];exact e2 ts 0 (fun i t ht=>by rw[Nat.zero_add];exact h i t ht)
theorem zB (ts:List QW):(Ut ts).length=(ts.filter fun t=>t.ent.isSome).length:=by
 refine mL fun i t ht=>?_;unfold XW;rw[ht];obtain⟨g,e⟩:=t;cases e <;> rfl
theorem mN:∀ ts:List QW,Ur ts=(ts.filter fun t=>t.ent.isSome).length+ZI ts
 | []=>rfl
 | t::ts=>by
  have ih:=mN ts;unfold Ur ZI at *;obtain⟨g,e⟩:=t;cases e with
  | some e=>
   have a:(⟨g,some e⟩::ts:List QW).filter busy=⟨g,some e⟩::ts.filter busy:=filter_cons_of_pos rfl;have b:(⟨g,some e⟩::ts:List QW).filter (fun t=>t.ent.isNone && t.gen == 255)=ts.filter (fun t=>t.ent.isNone && t.gen == 255):=filter_cons_of_neg (by simp);have c:(⟨g,some e⟩::ts:List QW).filter (fun t=>t.ent.isSome)=⟨g,some e⟩::ts.filter (fun t=>t.ent.isSome):=filter_cons_of_pos rfl;rw[a,b,c,length_cons,length_cons];omega
  | none=>
   have c:(⟨g,none⟩::ts:List QW).filter (fun t=>t.ent.isSome)=ts.filter (fun t=>t.ent.isSome):=filter_cons_of_neg (by simp);by_cases hg:(g == 255)=true
   ·have a:(⟨g,none⟩::ts:List QW).filter busy=⟨g,none⟩::ts.filter busy:=filter_cons_of_pos hg;have b:(⟨g,none⟩::ts:List QW).filter (fun t=>t.ent.isNone && t.gen == 255)=⟨g,none⟩::ts.filter (fun t=>t.ent.isNone && t.gen == 255):=filter_cons_of_pos hg;rw[a,b,c,length_cons,length_cons];omega
   ·have a:(⟨g,none⟩::ts:List QW).filter busy=ts.filter busy:=filter_cons_of_neg hg;have b:(⟨g,none⟩::ts:List QW).filter (fun t=>t.ent.isNone && t.gen == 255)=ts.filter (fun t=>t.ent.isNone && t.gen == 255):=filter_cons_of_neg hg;rw[a,b,c];omega
theorem mO (ts:List QW):Ur ts - ZI ts=(Ut ts).length:=by
 rw[zB,mN];omega
def Bv (own:List Nat):List Nat:=(List.range own.length).filter fun c=>decide (own.getD c 0≠0)
theorem mP (own:List Nat):(Bv own).length=(own.filter (· != 0)).length:=by
 refine mL fun i t ht=>?_;rw[getD_eq_getElem?_getD,ht,Option.getD_some];by_cases h:t=0
 ·subst h;rfl
 ·rw[decide_eq_true h];exact(bne_iff_ne.2 h).symm
theorem mS {s:CS} (hw:WF s) {x:Int×Nat×QP} (hx:x∈s.sps):(QR x.2.2.parts).length=((Bv s.own).filter fun c=>decide (s.own.getD c 0=x.1.toNat)).length:=by
 have h:=hw.spc x hx
 have UO:1≤x.1:=by
  have:x.1∈s.sps.map (·.1):=mem_map.2 ⟨x,hx,rfl⟩;rw[hw.skeys] at this;obtain⟨⟨r,q⟩,hq,he⟩:=mem_map.1 this;have:=(hw.par.2.2 r q hq).1;have he:r=x.1:=he;omega
 have hm:∀ c,c∈QR x.2.2.parts↔c∈(Bv s.own).filter fun c=>decide (s.own.getD c 0=x.1.toNat):=by
  intro c;rw[h.owned];unfold Bv;rw[mem_filter,mem_filter,mem_range];constructor
  ·rintro⟨q,h1,h2,h3⟩;have h4:s.own.getD c 0=q:=by rw[getD_eq_getElem?_getD,h1,Option.getD_some]
   rw[h4];exact⟨⟨(List.getElem?_eq_some_iff.1 h1).1,by simpa using h3⟩,by rw[decide_eq_true];omega⟩
  ·rintro⟨⟨h1,h2⟩,h3⟩;have h4:=getElem?_eq_getElem h1;have h5:s.own.getD c 0=s.own[c]:=by rw[getD_eq_getElem?_getD,h4,Option.getD_some]
   rw[h5] at h2 h3;have h2:s.own[c]≠0:=by simpa using h2
   have h3:s.own[c]=x.1.toNat:=by simpa using h3
   exact⟨s.own[c],h4,by omega,h2⟩
 refine Nat.le_antisymm (UQ h.nodup fun z hz=>(hm z).1 hz) (UQ ((nodup_range.filter _).filter _) fun z hz=>(hm z).2 hz)
theorem mc (l:List Nat) (f:Nat→Nat) (i:Nat):((l.take i).map f).sum≤(l.map f).sum:=by
 conv=>rhs;rw[← take_append_drop i l]
 rw[map_append,sum_append];omega
theorem md {l:List Nat} (f:Nat→Nat) {i x:Nat} (h:l[i]? = some x):((l.take (i+1)).map f).sum=((l.take i).map f).sum+f x:=by
 rw[take_add_one,h,map_append,sum_append];simp
theorem me {s:CS} {m:MS} {told:List (Nat×Nat)} (R:KG s m told) {r q:Int} (h:(r,q)∈s.par):∃ k:Nat,r=k∧k∈V5 m.P:=by
 obtain⟨k,h1,h2,h3,h4⟩:=(R.tree r q).1 h;exact⟨k,h1,LA.2 ⟨q,h3,h2,h4⟩⟩
theorem zC {s:CS} {m:MS} {told:List (Nat×Nat)} (hw:WF s) (R:KG s m told):((V5 m.P).map fun r=>((Ut s.tab).filter fun i=>decide (Ah s.tab i=r)).length).sum=(Ut s.tab).length:=by
 refine cT (Tf m.P) (Ah s.tab) fun i hi=>?_;obtain⟨g,e,hk⟩:=HC.1 (mem_filter.1 hi).2;obtain⟨_,_,q,hq⟩:=hw.obj i g e hk;obtain⟨k,h1,h2⟩:=me R hq;have:Ah s.tab i=e.region.toNat:=by unfold Ah;rw[hk]
 rw[this,h1];exact h2
theorem zD {s:CS} {m:MS} {told:List (Nat×Nat)} (hw:WF s) (R:KG s m told):((V5 m.P).map fun r=>((Bv s.own).filter fun c=>decide (s.own.getD c 0=r)).length).sum=(Bv s.own).length:=by
 refine cT (Tf m.P) (fun c=>s.own.getD c 0) fun c hc=>?_;obtain⟨h1,h2⟩:=mem_filter.1 hc;have QJ:=mem_range.1 h1;have h3:=getElem?_eq_getElem QJ;generalize s.own[c]=oc at h3;have h4:s.own.getD c 0=oc:=by rw[getD_eq_getElem?_getD,h3,Option.getD_some]
 have h2:s.own.getD c 0≠0:=by simpa using h2
 obtain⟨q,hq⟩:=hw.live c _ h3 (by rw[← h4];exact h2);obtain⟨k,h5,h6⟩:=me R hq;rw[h4];have:oc=k:=by omega
 rw[this];exact h6
theorem zE (s:CS):(Ut s.tab).length≤s.tab.length:=by
 unfold Ut;exact Nat.le_trans (length_filter_le _ _) (by rw[length_range];exact Nat.le_refl _)
theorem mf (l:List Nat):(Bv l).length≤l.length:=by
 unfold Bv;exact Nat.le_trans (length_filter_le _ _) (by rw[length_range];exact Nat.le_refl _)
theorem zF {s:CS} (hw:WF s):(s.mns.map VX).length=(s.sps.map Vv).length:=by
 have h1:=congrArg List.length hw.mkeys;have h2:=congrArg List.length hw.skeys;rw[length_map,length_map] at h1 h2;rw[length_map,length_map];omega
theorem zH {s:CS} (hw:WF s) {x:Int×Nat×QP} (hx:x∈s.sps):x.2.2.parts.length≤63∧(∀ p∈x.2.2.parts,p.1+p.2≤63)∧(QR x.2.2.parts).length≤63∧∀ c∈QR x.2.2.parts,c < s.own.length∧(s.own.getD c 0:Int)=x.1:=by
 have h:=hw.spc x hx;have ho:=hw.own.2;refine⟨Nat.le_trans (Tb h) ho,fun p hp=>Nat.le_trans (h.parts p hp).2 ho,?_,fun c hc=>?_⟩
 ·rw[mS hw hx];exact Nat.le_trans (length_filter_le _ _) (Nat.le_trans (mf _) ho)
 ·obtain⟨q,h1,h2,_⟩:=(h.owned c).1 hc;refine⟨(List.getElem?_eq_some_iff.1 h1).1,?_⟩;rw[getD_eq_getElem?_getD,h1,Option.getD_some];exact h2
def PB (s:CS) (S:List (Int×Int)) (ks:List Nat):Prop:=∀ r v,QV S r=some v→∃ k∈ks,∃ (g:Nat) (e:Q9),s.tab[k]? = some ⟨g,some e⟩∧(e.addr:Int)≤r∧r < (QT e:Int)
def zI (s:CS) (S:List (Int×Int)) (ks:List Nat) (e:Q9) (j:Nat):Prop:=∀ r v,QV S r=some v→(∃ k∈ks,∃ (g:Nat) (e:Q9),s.tab[k]? = some ⟨g,some e⟩∧(e.addr:Int)≤r∧r < (QT e:Int))∨((e.addr:Int)≤r∧r < (e.addr:Int)+j)
theorem zJ [Q4] {w:World} {l:List Q2} (H:Q0 w l):∃ X,X=l∧Q0 w X:=⟨l,rfl,H⟩
set_option maxRecDepth 10000 in
theorem mh [Q4] (p:Nat) (s:CS) (m:MS) (told:List (Nat×Nat)) (R:KG s m told) (hI:Inv s) {w:World} {fr:List Q2} [hT:Z5 0 Lib.deBruijn64tab fr] (H:Q0 w (Ua p s m told::fr)) :
  Calls Tryz.prog 12 #[pp p] w (ret fun v w'=>v = .bool true∧Q0 w' (Ua p s m told::fr)):=by
 obtain⟨c,mo,a,cap,H⟩:=E8 H;obtain⟨q,mem,hw,hm,H⟩:=YQ H.swap;replace H:=Js [4,0,9,4,0,0,0,0,0,0,0,0,0,0] 0 H;obtain⟨tq,H,cN⟩:=jf H;refine QQ Tryz.func12 rfl (by kernel_rfl) ?_;refine YN H ?_;intro b2 w H;refine J2 H ?_;refine G6 H ?_;refine VO H ?_;intro b3 w H;refine BY H ?_;intro w H;refine J2 H ?_;refine Ui H ?_;refine Q5 rfl (Ao v1 (ki .i64) H rfl ?_);intro bm w H;refine VO H ?_;intro b4 w H;refine BY H ?_;intro w H;refine J2 H ?_;refine XP H ?_;refine Gs H ?_;refine Jc rfl rfl (jh q.tp (H.sel [3,0,0,0] 0)) ?_;rintro v w ⟨bt,rfl,H⟩;dsimp only[SL.sel,SL.pull,List.drop] at H;refine CV H ?_;refine Qt (fun ms σ w=>(∃ D,ms=[D]∧Q0 w (pts D (.deferred (some []))::Y8 p c mo (.slice a told.length cap)::QD c s::Qy mo m::V8 (.slice a told.length cap) told::pts b2 (row 4 [.bool false])::pts b3 (row 44 [pp c])::fr))∧σ 0=pp p∧σ 2=pp b2∧σ 3=pp b3) ?_ ?_
 ·refine Qd (W9 (a:=[]) (b:=[pp bt]) H rfl (fun yl D w H=>?_));generalize hL:LR _ yl _ _ _ _ D .ready=L at H ⊢;obtain⟨J,hJ⟩:∃ J:List Nat→Q2,J=fun ks=>ex fun S:List (Int×Int)=>star [prop (PB s S ks),mp (ki .i64) v1 bm S,L,pts b4 (row 108 [.map (some bm)]),pts b3 (row 44 [pp c]),VU c q,Qo q.trp s.last s.par,mp (ki .i64) V2 q.mm (s.mns.map VX),star (s.mns.map VG),V6 q.ip q.sp q.bp,Qq q.bp s.lays,ST q.sp s.size mem s.own]:=⟨_,rfl⟩
  have VQ:∀ (ks:List Nat) (S:List (Int×Int)) (w:World) (l':List Q2),PB s S ks→Q0 w (mp (ki .i64) v1 bm S::L::pts b4 (row 108 [.map (some bm)])::pts b3 (row 44 [pp c])::VU c q::Qo q.trp s.last s.par::mp (ki .i64) V2 q.mm (s.mns.map VX)::star (s.mns.map VG)::V6 q.ip q.sp q.bp::Qq q.bp s.lays::ST q.sp s.size mem s.own::l')→Q0 w (J ks::l'):=by
   intro ks S w l' h H;rw[hJ];exact Q0.ex.2 ⟨S,Q0.star.2 (Q0.prop.2 ⟨h,H⟩)⟩
  have YB:∀ (ks:List Nat) (w:World) (l':List Q2),Q0 w (J ks::l')→∃ S,PB s S ks∧Q0 w (mp (ki .i64) v1 bm S::L::pts b4 (row 108 [.map (some bm)])::pts b3 (row 44 [pp c])::VU c q::Qo q.trp s.last s.par::mp (ki .i64) V2 q.mm (s.mns.map VX)::star (s.mns.map VG)::V6 q.ip q.sp q.bp::Qq q.bp s.lays::ST q.sp s.size mem s.own::l'):=by
   intro ks w l' H;rw[hJ] at H;obtain⟨S,H⟩:=Q0.ex.1 H;exact⟨S,Q0.prop.1 (Q0.star.1 H)⟩
  replace H:=Js [5,0,3,3,4,9,11,11,6,6,6,1,2,0,0,0,0,0,0,0,0] 0 H;replace H:=VQ [] [] _ _ (fun r v h=>by cases h) H;refine call (ji yl bt q.tp s.tab tq J ?_ H) ?_
  ·intro ks k g e rest w hk Yd H;obtain⟨t1,Yd⟩:=Yd;obtain⟨S,hS,H⟩:=YB _ _ _ H;subst hL;replace H:=Js [1,0,0,0,0,0,0,0,0,0,0,0] 0 H;refine Kp (args:=[Xz k g,.agg (YR e).toArray]) H rfl rfl ?_;refine YN H ?_;intro b5 w H;refine J5 H ?_;intro w H;refine J2 H ?_;refine YN H ?_;intro b6 w H;refine J5 H ?_;intro w H;refine J2 H ?_;replace H:=Js [2,0,0,0,0,0,0,0,0,0,0,0,0,0] 0 H;refine⟨rfl,_,H,fun w H=>Qd ?_⟩;generalize hLB:LR _ yl _ _ _ _ D .busy=LB at H ⊢;replace H:=Js [10,10,10,6,5,1,1,0,0,0,0,0,0,0] 0 H;refine J6 H ?_;refine Qt (fun ms σ w=>ms=[]∧∃ b7,σ 3=pp b3∧σ 4=pp b4∧σ 5=pp b5∧σ 6=pp b6∧σ 7=pp b7∧σ 8 = .int .i64 ((e.ws.length+1:Nat):Int)∧σ 9 = .int .i64 0∧Q0 w (pts b7 (row 115 [.int .i64 e.lay,.int .i64 e.count,.int .i64 k])::V6 q.ip q.sp q.bp::Qq q.bp s.lays::ST q.sp s.size mem s.own::VU c q::pts b3 (row 44 [pp c])::pts b6 (row 113 (YR e))::pts b5 (row 69 [.int .i64 k,.int .i64 g])::LB::mp (ki .i64) v1 bm S::pts b4 (row 108 [.map (some bm)])::Qo q.trp s.last s.par::mp (ki .i64) V2 q.mm (s.mns.map VX)::star (s.mns.map VG)::U5 q.tp s.tab tq::rest)) ?_ ?_
   ·refine J1 H ?_;intro w H;refine Jl 0 [6,12] H ?_;refine WW H ?_;refine Jl 3 [6,12] H ?_;refine Jf 4 ?_;refine Jl 5 [6,12] H ?_;refine Jw 6 11 H rfl rfl (V3 (a:=[]) (b:=[]) rfl rfl (call (Dr q.ip q.sp q.bp s.size s.lays mem s.own e.addr e.lay e.count k e.ws.length (Qc s e) (WS hw hm hk) H) ?_)) (YW H rfl ?_)
    ·rintro v w ⟨rfl,H⟩;refine Da H ?_;refine Fa H ?_;intro b7 w H;refine Ro H ?_;intro w H;refine Rl H ?_;exact⟨rfl,rfl,b7,rfl,rfl,rfl,rfl,rfl,rfl,rfl,H⟩
    ·intro b7 w H;refine Jo 6 H ?_;refine Jk rfl rfl (Dr q.ip q.sp q.bp s.size s.lays mem s.own e.addr e.lay e.count k e.ws.length (Qc s e) (WS hw hm hk) (H.sel [1,1,1,0] 0)) ?_;rintro v w ⟨rfl,H⟩;dsimp only[SL.sel,SL.pull,List.drop] at H;refine Da H ?_;refine Ro H ?_;intro w H;refine Rl H ?_;replace H:=Js [3,0,0,0,0,0,0,0,0,0,0,0,0,0,0] 0 H;exact⟨rfl,rfl,b7,rfl,rfl,rfl,rfl,rfl,rfl,rfl,H⟩
   rintro ms σ w ⟨rfl,b7,g3,g4,g5,g6,g7,g8,g9,H⟩;rw[Q1 g3,Q1 g4,Q1 g5,Q1 g6,Q1 g7,Q1 g8,Q1 g9];have Tc:=Sr (H.pull 11);obtain⟨_,_,y,hy⟩:=hw.obj k g e hk;have XV:(QV s.par e.region).isSome=true:=by rw[(YP Tc).2 hy];rfl
   have KY:e.region∈s.mns.map (·.1):=by rw[hw.mkeys];exact mem_map.2 ⟨(e.region,y),hy,rfl⟩
   obtain⟨b2',ZX⟩:=RK (l:=s.mns) (f:=fun x=>x.1) (g:=fun x=>x.2.1) (k:=e.region) KY;obtain⟨⟨r1,b1,QL⟩,m1,m2,Vl,VD,YE⟩:=RX ZX;have VD:r1=e.region:=VD;have YE:b1=b2':=YE;subst VD YE;have Xm:QV (s.mns.map VX) e.region=some b1:=ZX;have PC:=hw.mine (e.region,b1,QL) (by rw[Vl];simp);have zL:k∈QL:=(PC.2 k).2 ⟨g,e,hk,rfl⟩
   have Rv:QL.length≤100000:=by
    have:=BK QL 0 64 (fun x hx=>⟨Nat.zero_le _,by
     obtain⟨g,f,h3,_⟩:=(PC.2 x).1 hx;have h4:=(List.getElem?_eq_some_iff.1 h3).1;have:=hw.slots.2;omega⟩) PC.1
    omega
   replace H:=Js [11,0,0,0,0,0,0,0,0,0,0,0,0,0,0] 0 H;refine J1 H ?_;intro w H;refine CX H ?_;refine Jl 4 [] H ?_;refine Jf 5 ?_;refine Jl 6 [] H ?_;refine Ja 7 ?_;rw[show ((k:Int) != (k:Int))=false from bne_self_eq_false _];refine Ja 8 ?_;refine Ja 9 ?_;refine Jl 10 [] H ?_;refine Ja 11 ?_;refine Jf 12 ?_;refine Jl 13 [] H ?_;refine Jf 14 ?_;refine Jl 15 [] H ?_;refine Jo 16 H ?_;refine Jk rfl rfl (JC q.trp s.last s.par e.region H) ?_;rintro v w ⟨rfl,H⟩;rw[XV];refine Ja 17 ?_;refine Ja 18 ?_;refine Ja 19 ?_;refine Jl 20 [] H ?_;refine Ja 21 ?_;refine Jf 22 ?_;refine Jl 23 [] H ?_;refine Jf 24 ?_;refine Jl 25 [] H ?_;replace H:=Js [13,0,0,0,0,0,0,0,0,0,0,0,0,0,0] 0 H;replace H:Q0 w (VV b1 QL::star ((m1++m2).map VG)::_):=(Q0.pick (R:=VG) (x:=(e.region,b1,QL)) Vl).1 H;refine Rc 26 [] (key:=e.region) H rfl (Q8.of rfl rfl rfl) rfl rfl Vp (by kernel_rfl) ?_;rw[Xm];refine Jf 27 ?_;refine Jl 28 [] H ?_;refine Jo 29 H ?_;refine Jk rfl rfl (gN b1 QL k PC.1 Rv H) ?_;rintro v w ⟨rfl,H⟩;rw[decide_eq_true zL];replace H:=(Q0.pick (R:=VG) (x:=(e.region,b1,QL)) Vl).2 H;refine Ja 30 ?_;refine Ja 31 ?_;refine Ax H ?_;refine J3 H ?_;have Cj:=(hw.obj k g e hk).2.1;have Va:=hw.size
   have Q2n:k < 64:=by
    have h1:=(List.getElem?_eq_some_iff.1 hk).1;have h2:=hw.slots.2;omega
   have Q2o:s.own.length*s.size≤63*1024:=Nat.mul_le_mul hw.own.2 hw.size.2
   have Sv:e.addr+1+e.ws.length≤64512:=by
    have:=Cj.1;unfold QT at this;omega
   have U0:k∉ks:=by
    have QN:(Ut s.tab).Nodup:=nodup_range.filter _;rw[Yd,nodup_append] at QN;exact fun h=>QN.2.2 k h k mem_cons_self rfl
   replace H:=Js [5,10,7,7,6,7,5,3,3,3,1,2,0,1] 1 H;refine J6 H ?_;refine Qd (Qp (fun ms σ w z=>ms=[]∧∃ (j:Nat) (S:List (Int×Int)),j≤e.ws.length+1∧z=e.ws.length+1 - j∧zI s S ks e j∧σ 3=pp b3∧σ 4=pp b4∧σ 5=pp b5∧σ 6=pp b6∧σ 73 = .int .i64 ((e.ws.length+1:Nat):Int)∧σ 74 = .int .i64 j∧Q0 w (ST q.sp s.size mem s.own::mp (ki .i64) v1 bm S::pts b6 (row 113 (YR e))::pts b5 (row 69 [.int .i64 k,.int .i64 g])::pts b3 (row 44 [pp c])::pts b4 (row 108 [.map (some bm)])::VU c q::V6 q.ip q.sp q.bp::Qq q.bp s.lays::LB::Qo q.trp s.last s.par::mp (ki .i64) V2 q.mm (s.mns.map VX)::star (s.mns.map VG)::U5 q.tp s.tab tq::rest)) (m:=e.ws.length+1) ⟨rfl,0,S,by omega,rfl,fun r v h => .inl (hS r v h),rfl,rfl,rfl,rfl,rfl,rfl,H⟩ ?_);clear H hS;rintro ms σ w z ⟨rfl,j,S,hj,rfl,hS,g3,g4,g5,g6,g73,g74,H⟩;rw[Q1 g3,Q1 g4,Q1 g5,Q1 g6,Q1 g73,Q1 g74];refine J7 H ?_;refine Qk rfl (fun h=>QE ?_) (fun h=>Qu ?_)
   ·have ZS:j < e.ws.length+1:=by omega
    have zM:QV S ((e.addr+j:Nat):Int)=none:=by
     cases hf:QV S ((e.addr+j:Nat):Int) with
     | none=>rfl
     | some v=>
      rcases hS _ _ hf with ⟨k2,VP,g2,e2,h1,h2,h3⟩|⟨_,h2⟩
      ·have:=hw.apart k2 k g2 g e2 e (fun h=>U0 (h▸VP)) h1 hk;unfold QT at this h3;omega
      ·omega
    refine NT H ?_;intro w H;refine Jl 0 [20,21,23] H ?_;refine Jf 1 ?_;refine Jl 2 [20,21,23] H ?_;refine Ja 3 ?_;have cd:IntKind.i64.wrap ((e.addr:Int)+(j:Int))=((e.addr+j:Nat):Int):=by rw[Qh (by omega) (by omega)];omega
    have Kg:(if (1:Int) > ((s.size:Nat):Int) then (1:Int) else ((s.size:Nat):Int))=((s.size:Nat):Int):=by split <;> omega
    obtain⟨rr,ZG,KS,_⟩:=Cj.2 ((e.addr+j) / s.size) (Nat.div_le_div_right (by omega)) (Nat.div_le_div_right (by omega));have QJ:=(List.getElem?_eq_some_iff.1 ZG).1;have ZC:((s.own.getD ((e.addr+j) / s.size) 0:Nat):Int)=e.region:=by rw[getD_eq_getElem?_getD,ZG,Option.getD_some];exact KS
    refine Ja 4 ?_;rw[cd];refine Rc 5 [] (key:=((e.addr+j:Nat):Int)) H rfl (Q8.none rfl) rfl rfl Vp (by kernel_rfl) ?_;rw[zM];refine Ja 6 ?_;refine Ja 7 ?_;refine Jl 8 [] H ?_;refine Ja 9 ?_;refine Jf 10 ?_;refine Jl 11 [] H ?_;refine Jf 12 ?_;refine Jl 13 [] H ?_;refine Ja 14 ?_;refine Ja 15 ?_;rw[cd];refine Jl 16 [] H ?_;refine Ja 17 ?_;refine Jf 18 ?_;refine Jl 19 [] H ?_;refine Jf 24 ?_;refine Jl 25 [] H ?_;refine Jo 20 H ?_;refine Jk rfl rfl (JU q.sp s.size mem s.own H) ?_;rintro v w ⟨rfl,H⟩;refine Jo 21 H ?_;refine MP rfl rfl rfl ?_;rw[Kg]
    refine XF (v := .int .i64 (((e.addr+j) / s.size:Nat):Int)) 22 rfl (Q8.of rfl rfl rfl) (by
     show (if IntKind.i64=IntKind.i64 then (if ((s.size:Nat):Int)=0 then none else some (Value.int IntKind.i64 (IntKind.i64.wrap (Int.tdiv ((e.addr+j:Nat):Int) ((s.size:Nat):Int))))) else none)=_;rw[if_pos rfl,if_neg (by omega),CM (by omega)]) (by kernel_rfl) ?_
    refine Jo 23 H ?_;refine Jk rfl rfl (Se q.sp s.size mem s.own ((e.addr+j) / s.size) H QJ) ?_;rintro v w ⟨rfl,H⟩;rw[ZC];refine Ja 26 ?_;rw[show (e.region != e.region)=false from bne_self_eq_false _];refine Ja 27 ?_;refine Ax H ?_;refine UJ H ?_;refine DO H ?_;rw[cd];refine NY H ?_;rw[show IntKind.i64.wrap (1+(k:Int))=((k+1:Nat):Int) by rw[Qh (by omega) (by omega)];omega];refine Q5 rfl (W7 (ek:=ki .i64) (vv:=v1) (v:=((k+1:Nat):Int)) (key:=((e.addr+j:Nat):Int)) H rfl rfl rfl Vp rfl ?_);intro w H;refine Ri H ?_
    exact⟨_,⟨rfl,j+1,_,ZS,rfl,(fun r v h=>by
     rw[KD] at h;split at h
     ·rename_i hr;exact .inr ⟨by omega,by omega⟩
     ·rcases hS r v h with h1|⟨h1,h2⟩
      ·exact .inl h1
      ·exact .inr ⟨h1,by omega⟩),rfl,rfl,rfl,rfl,rfl,Qg (by omega),H⟩,by omega⟩
   ·have V0:j=e.ws.length+1:=by omega
    subst V0
    have EV:PB s S (ks++[k]):=by
     intro r v h
     rcases hS r v h with ⟨k2,VP,h1⟩|⟨h1,h2⟩
     ·exact⟨k2,mem_append.2 (.inl VP),h1⟩
     ·exact⟨k,by simp,g,e,hk,h1,by unfold QT;omega⟩
    subst hLB;replace H:=Js [9,1,4,3,3,5,5,5,3,3,0,2] 2 H;exact⟨rfl,_,H,fun w H=>⟨rfl,VQ _ _ _ _ EV H.swap⟩⟩
  ·rintro v w H;obtain⟨S,hS,H⟩:=YB _ _ _ H;subst hL;replace H:=Js [1,11,3,6,6,6,3,9,9,9,3,3,6,6,6,4,4,2] 3 H;refine⟨_,H,fun w H=>?_⟩;replace H:=cN _ _ H;replace H:=Js [1,1,1,1,0,0,0,0,0,0,0,0,0,0,0,0,0] 0 H;replace H:=VM hw hm H;replace H:=Js [4,1,0,0,0,0,0] 0 H;exact⟨rfl,⟨D,rfl,H⟩,rfl,rfl,rfl⟩
 ·rintro ms σ w ⟨⟨D,rfl,H⟩,g0,g2,g3⟩;rw[Q1 g0,Q1 g2,Q1 g3];refine J3 H ?_;replace H:=Js [3,1,1,0,0,0,0] 0 H;obtain⟨mt,lc,oc,aL,cL,aO,cO,U4,Zu,bR,hm4,hm5,H⟩:=GI H;replace H:=Js [1,0,4,0,0,0,0,0,0,0,0,0] 0 H;refine Fg H ?_;refine Jc rfl rfl (JO mt m.P (by have:=U4.P.2;omega) H) ?_;intro v w H;obtain⟨av,cv,rfl⟩:=QI H (QM _) (by decide);refine WU H ?_;replace H:=Js [8,0,0,0,0,0,0,0,0,0,0,0,0] 0 H;obtain⟨q2,mem2,_,zN,H⟩:=YQ H;obtain⟨fu,mj⟩:∃ fu:Nat→Nat,fu=fun r=>((Ut s.tab).filter fun i=>decide (Ah s.tab i=r)).length:=⟨_,rfl⟩;obtain⟨fc,Es⟩:∃ fc:Nat→Nat,fc=fun r=>((Bv s.own).filter fun c=>decide (s.own.getD c 0=r)).length:=⟨_,rfl⟩;have hU:((V5 m.P).map fu).sum=Ur s.tab - ZI s.tab:=by rw[mj,mO];exact zC hw R
  have mn:((V5 m.P).map fc).sum=(s.own.filter (· != 0)).length:=by rw[Es,← mP];exact zD hw R
  have Q2r:((V5 m.P).map fu).sum≤63:=by rw[hU,mO];exact Nat.le_trans (zE s) hw.slots.2
  have Q2s:((V5 m.P).map fc).sum≤63:=by rw[mn,← mP];exact Nat.le_trans (mf _) hw.own.2
  have Q2t:(s.own.filter (· != 0)).length≤s.own.length:=length_filter_le _ _;have hOw:=hw.own.2;have I5:(V5 m.P).length≤64:=by rw[← HK R];exact hw.par.1
  replace H:=Js [11,9,7,0,18,2,6,5,0,0,0,0,0,0,0,0,0,0,0,0,0,0,0] 0 H;refine J6 H ?_;refine Qt (fun ms σ w=>ms=[D]∧σ 0=pp p∧σ 2=pp b2∧σ 3=pp b3∧σ 11 = .int .i64 (((V5 m.P).map fu).sum:Nat)∧σ 12 = .int .i64 (((V5 m.P).map fc).sum:Nat)∧Q0 w (NL (.slice av (V5 m.P).length cv) (V5 m.P)::mp (ki .i64) V2 q2.mm (s.mns.map VX)::mp (ki .i64) V2 q2.sm (s.sps.map Vv)::VU c q2::pts b3 (row 44 [pp c])::ST q2.sp s.size mem2 s.own::star (s.mns.map VG)::star (s.sps.map (Y0 q2.sp))::V6 q2.ip q2.sp q2.bp::Qq q2.bp s.lays::Qr q2.tp s.tab::Qo q2.trp s.last s.par::RS q2.rp s.rem::Vi mt m.P::pts mo (row 58 [pp mt,.slice aL m.lays.length cL,.slice aO m.objs.length cO])::Y8 p c mo (.slice a told.length cap)::QF 102 4 (.slice aL m.lays.length cL) (Vf lc)::star (lc.map Yq)::QF 77 1 (.slice aO m.objs.length cO) (oc.map fun x=>pp x.ptr)::star (oc.map Zm)::pts D (.deferred (some []))::V8 (.slice a told.length cap) told::pts b2 (row 4 [.bool false])::fr)) ?_ ?_
  ·refine Qd ?_;refine Qp (fun ms σ w z=>ms=[D]∧∃ i:Nat,i≤(V5 m.P).length∧z=(V5 m.P).length - i∧σ 0=pp p∧σ 2=pp b2∧σ 3=pp b3∧σ 11 = .int .i64 ((((V5 m.P).take i).map fu).sum:Nat)∧σ 12 = .int .i64 ((((V5 m.P).take i).map fc).sum:Nat)∧σ 121 = .slice av (V5 m.P).length cv∧σ 122 = .int .i64 (V5 m.P).length∧σ 123 = .int .i64 i∧Q0 w (NL (.slice av (V5 m.P).length cv) (V5 m.P)::mp (ki .i64) V2 q2.mm (s.mns.map VX)::mp (ki .i64) V2 q2.sm (s.sps.map Vv)::VU c q2::pts b3 (row 44 [pp c])::ST q2.sp s.size mem2 s.own::star (s.mns.map VG)::star (s.sps.map (Y0 q2.sp))::V6 q2.ip q2.sp q2.bp::Qq q2.bp s.lays::Qr q2.tp s.tab::Qo q2.trp s.last s.par::RS q2.rp s.rem::Vi mt m.P::pts mo (row 58 [pp mt,.slice aL m.lays.length cL,.slice aO m.objs.length cO])::Y8 p c mo (.slice a told.length cap)::QF 102 4 (.slice aL m.lays.length cL) (Vf lc)::star (lc.map Yq)::QF 77 1 (.slice aO m.objs.length cO) (oc.map fun x=>pp x.ptr)::star (oc.map Zm)::pts D (.deferred (some []))::V8 (.slice a told.length cap) told::pts b2 (row 4 [.bool false])::fr)) (m:=(V5 m.P).length) ⟨rfl,0,by omega,rfl,rfl,rfl,rfl,rfl,rfl,rfl,rfl,rfl,H⟩ ?_;rintro ms σ w z ⟨rfl,i,hi,rfl,g0,g2,g3,g11,g12,g121,g122,g123,H⟩;rw[Q1 g0,Q1 g2,Q1 g3,Q1 g11,Q1 g12,Q1 g121,Q1 g122,Q1 g123];refine J7 H ?_;refine Qk rfl (fun h=>QE ?_) (fun h=>Qu ?_)
   ·have Q6:i < (V5 m.P).length:=by omega
    have hn:=getElem?_eq_getElem Q6;generalize (V5 m.P)[i]=x at hn;have hsu:=md fu hn;have eP:=md fc hn;obtain⟨y,GH,Ka,Fv⟩:=LA.1 (mem_of_getElem? hn);have mq:=(R.tree (x:Int) y).2 ⟨x,rfl,Ka,GH,Fv⟩;obtain⟨bT,sT,rfl,H,QJ⟩:=VY H (by omega);refine Z8 H ?_;refine Jd ?_;refine Q5 rfl (QC H rfl (Gb hn) rfl ?_);refine J0 H ?_;replace H:=QJ _ _ H;obtain⟨b2',ZX⟩:=RK (l:=s.mns) (f:=fun x=>x.1) (g:=fun x=>x.2.1) (k:=(x:Int)) (by rw[hw.mkeys];exact mem_map.2 ⟨_,mq,rfl⟩);obtain⟨⟨r1,b1,QL⟩,m1,m2,Vl,VD,YE⟩:=RX ZX;have VD:r1=(x:Int):=VD;have YE:b1=b2':=YE;subst VD YE;have Xm:QV (s.mns.map VX) (x:Int)=some b1:=ZX;obtain⟨b3',WT⟩:=RK (l:=s.sps) (f:=fun x=>x.1) (g:=fun x=>x.2.1) (k:=(x:Int)) (by rw[hw.skeys];exact mem_map.2 ⟨_,mq,rfl⟩);obtain⟨⟨r2,b0,SP⟩,p1,p2,VN,KH,ce⟩:=RX WT;have KH:r2=(x:Int):=KH;have ce:b0=b3':=ce;subst KH ce;have Ci:QV (s.sps.map Vv) (x:Int)=some b0:=WT;have hQ:QL.length=fu x:=by rw[mj];exact congrArg List.length (zA hw (x:=((x:Int),b1,QL)) (by rw[Vl];simp))
    have hC:(QR SP.parts).length=fc x:=by rw[Es];exact mS hw (x:=((x:Int),b0,SP)) (by rw[VN];simp)
    obtain⟨Kb,GF,Dt,Lo⟩:=zH hw (x:=((x:Int),b0,SP)) (by rw[VN];simp);have Kb:SP.parts.length≤63:=Kb;have GF:∀ y∈SP.parts,y.1+y.2≤63:=GF;have Dt:(QR SP.parts).length≤63:=Dt;have Lo:∀ c∈QR SP.parts,c < s.own.length∧(s.own.getD c 0:Int)=(x:Int):=Lo;have hu1:=mc (V5 m.P) fu (i+1);have Q2x:=mc (V5 m.P) fc (i+1);refine Ky H ?_;refine Q5 rfl (GO (key:=(x:Int)) H rfl rfl Vp rfl ?_);rw[Xm];refine NJ H ?_;refine Jv ?_;refine Qe rfl rfl rfl (QC H rfl rfl rfl ?_);refine Ia H ?_;refine Qe rfl rfl rfl (GO (key:=(x:Int)) H rfl rfl Vp rfl ?_);rw[Ci];refine Ik H ?_;refine Z6 H ?_;refine WY H ?_;refine FN H ?_;refine Q5 rfl (GO (key:=(x:Int)) H rfl rfl Vp rfl ?_);rw[Xm];replace H:=Js [6,0,0,0,0,0,0] 0 H;replace H:Q0 w (VV b1 QL::star ((m1++m2).map VG)::_):=(Q0.pick (R:=VG) (x:=((x:Int),b1,QL)) Vl).1 H;refine Jc rfl rfl (gO b1 QL H) ?_;rintro v w ⟨rfl,H⟩;replace H:=(Q0.pick (R:=VG) (x:=((x:Int),b1,QL)) Vl).2 H;refine Jv ?_;rw[show IntKind.i64.wrap (((((V5 m.P).take i).map fu).sum:Nat)+(QL.length:Int))=(((((V5 m.P).take (i+1)).map fu).sum:Nat):Int) by rw[Qh (by omega) (by omega)];omega];refine J0 H ?_;refine Ky H ?_;refine Q5 rfl (GO (key:=(x:Int)) H rfl rfl Vp rfl ?_);rw[Ci];replace H:=Js [7,0,0,0,0,0,0,0] 0 H;replace H:Q0 w (V1 b0 q2.sp x SP::star ((p1++p2).map (Y0 q2.sp))::_):=(Q0.pick (R:=Y0 q2.sp) (x:=((x:Int),b0,SP)) VN).1 H;refine Jc rfl rfl (jm b0 q2.sp x SP (by omega) (fun y hy=>by have:=GF y hy;omega) (by omega) H) ?_;rintro v w ⟨ac,cc,rfl,H⟩;refine J0 H ?_;replace H:=Js [1,1,0] 0 H;replace H:=(Q0.pick (R:=Y0 q2.sp) (x:=((x:Int),b0,SP)) VN).2 H;replace H:=Js [1,7,0,0,0,0,0,0,0] 0 H;refine XN H ?_;obtain⟨X,hX,H⟩:=zJ H;refine J6 H ?_;refine Qt (fun ms σ w=>ms=[D]∧σ 0=pp p∧σ 2=pp b2∧σ 3=pp b3∧σ 11 = .int .i64 ((((V5 m.P).take (i+1)).map fu).sum:Nat)∧σ 12 = .int .i64 ((((V5 m.P).take i).map fc).sum:Nat)∧σ 15 = .slice ac (QR SP.parts).length cc∧σ 121 = .slice (some ⟨bT,0,none⟩) (V5 m.P).length cv∧σ 122 = .int .i64 (V5 m.P).length∧σ 123 = .int .i64 i∧Q0 w X) ?_ ?_
    ·refine Qd ?_;refine Qp (fun ms σ w z=>ms=[D]∧∃ j:Nat,j≤(QR SP.parts).length∧z=(QR SP.parts).length - j∧σ 0=pp p∧σ 2=pp b2∧σ 3=pp b3∧σ 11 = .int .i64 ((((V5 m.P).take (i+1)).map fu).sum:Nat)∧σ 12 = .int .i64 ((((V5 m.P).take i).map fc).sum:Nat)∧σ 14 = .int .i64 x∧σ 15 = .slice ac (QR SP.parts).length cc∧σ 121 = .slice (some ⟨bT,0,none⟩) (V5 m.P).length cv∧σ 122 = .int .i64 (V5 m.P).length∧σ 123 = .int .i64 i∧σ 159 = .slice ac (QR SP.parts).length cc∧σ 160 = .int .i64 (QR SP.parts).length∧σ 161 = .int .i64 j∧Q0 w X) (m:=(QR SP.parts).length) ⟨rfl,0,by omega,rfl,rfl,rfl,rfl,rfl,rfl,rfl,rfl,rfl,rfl,rfl,rfl,rfl,rfl,H⟩ ?_;rintro ms σ w z ⟨rfl,j,hj,rfl,g0,g2,g3,g11,g12,g14,g15,g121,g122,g123,g159,g160,g161,H⟩;rw[Q1 g0,Q1 g2,Q1 g3,Q1 g11,Q1 g12,Q1 g14,Q1 g15,Q1 g121,Q1 g122,Q1 g123,Q1 g159,Q1 g160,Q1 g161];refine J7 H ?_;refine Qk rfl (fun h=>QE ?_) (fun h=>Qu ?_)
     ·have H9:j < (QR SP.parts).length:=by omega
      have Gv:=getElem?_eq_getElem H9;obtain⟨Zs,UM⟩:=Lo _ (getElem_mem H9);generalize (QR SP.parts)[j]=ch at Gv Zs UM;rw[hX] at H;obtain⟨bC,sC,rfl,H,WB⟩:=VY H (by omega);refine Z8 H ?_;refine Jd ?_;refine Q5 rfl (QC H rfl (Gb Gv) rfl ?_);refine J0 H ?_;replace H:=WB _ _ H;refine Ky H ?_;refine Jc rfl rfl (Se q2.sp s.size mem2 s.own ch H.swap Zs) ?_;rintro v w ⟨rfl,H⟩;have H:=H.swap;rw[UM];refine J4 H ?_;rw[show ((x:Int) != (x:Int))=false from bne_self_eq_false _];refine FQ H ?_;exact⟨_,⟨rfl,j+1,H9,rfl,rfl,rfl,rfl,rfl,rfl,rfl,rfl,rfl,rfl,rfl,rfl,rfl,Qg (by omega),by rw[hX];exact H⟩,by omega⟩
     ·exact⟨rfl,rfl,rfl,rfl,rfl,rfl,rfl,rfl,rfl,rfl,rfl,H⟩
    rintro ms σ w ⟨rfl,g0,g2,g3,g11,g12,g15,g121,g122,g123,H⟩;rw[Q1 g0,Q1 g2,Q1 g3,Q1 g11,Q1 g12,Q1 g15,Q1 g121,Q1 g122,Q1 g123];rw[hX] at H;refine J9 H ?_;refine IK H ?_;rw[show IntKind.i64.wrap (((((V5 m.P).take i).map fc).sum:Nat)+((QR SP.parts).length:Int))=(((((V5 m.P).take (i+1)).map fc).sum:Nat):Int) by rw[Qh (by omega) (by omega)];omega];refine J0 H ?_;replace H:=Js [4,4,4,4,4,1,2,1] 1 H;refine J3 H ?_;exact⟨_,⟨rfl,i+1,Q6,rfl,rfl,rfl,rfl,rfl,rfl,rfl,rfl,Qg (by omega),H⟩,by omega⟩
   ·have V0:i=(V5 m.P).length:=by omega
    subst V0;rw[take_length];exact⟨rfl,rfl,rfl,rfl,rfl,rfl,rfl,H⟩
  rintro ms σ w ⟨rfl,g0,g2,g3,g11,g12,H⟩;rw[hU] at g11;rw[mn] at g12;rw[Q1 g0,Q1 g2,Q1 g3,Q1 g11,Q1 g12];replace H:=Js [10,5,1,1,1,1,1,1,1,1,1,1,1,1,1,1,1,1,1,1,1,1] 1 H;refine J1 H ?_;intro w H;refine Ja 0 ?_;refine Jl 1 [] H ?_;refine Ja 2 ?_;refine Jf 3 ?_;refine Jl 4 [5] H ?_;refine Jo 5 H ?_;refine Jk rfl rfl (rE q2.tp s.tab H) ?_;rintro v w ⟨rfl,H⟩;generalize Ur s.tab - ZI s.tab=N;refine Ja 6 ?_;rw[show ((N:Int) == (N:Int))=true from beq_self_eq_true _];refine Df H ?_;refine Jl 9 [] H ?_;refine Ja 10 ?_;refine Jf 11 ?_;refine Jl 12 [13] H ?_;refine Jl 14 [] H ?_;refine Ja 15 ?_;refine Jf 16 ?_;refine Jl 17 [18] H ?_;refine Jo 13 H ?_;refine Jk rfl rfl (Sd q2.sp s.size mem2 s.own H.swap) ?_;rintro v w ⟨rfl,H⟩;refine Jo 18 H ?_;refine Jk rfl rfl (fh q2.sp s.size mem2 s.own H) ?_;rintro v w ⟨rfl,H⟩;refine Ja 19 ?_;rw[show IntKind.i64.wrap ((s.own.length:Int) - ((s.own.length - (s.own.filter (· != 0)).length:Nat):Int))=(((s.own.filter (· != 0)).length:Nat):Int) by rw[Qh (by omega) (by omega)];omega];refine Ja 20 ?_;rw[show ((((s.own.filter (· != 0)).length:Nat):Int) == (((s.own.filter (· != 0)).length:Nat):Int))=true from beq_self_eq_true _];refine Ja 21 ?_;refine Ja 22 ?_;refine Jl 23 [] H ?_;refine Ja 24 ?_;refine Jf 25 ?_;refine Jl 26 [27] H ?_;refine Jl 28 [] H ?_;refine Ja 29 ?_;refine Jf 30 ?_;refine Jl 31 [32] H ?_;refine Jo 27 H ?_;refine Ek (ki .i64) V2 H rfl rfl ?_;refine Jo 32 H ?_;refine Ek (ki .i64) V2 H rfl rfl ?_;rw[zF hw];refine Ja 33 ?_;rw[show ((((s.sps.map Vv).length:Nat):Int) == (((s.sps.map Vv).length:Nat):Int))=true from beq_self_eq_true _];refine Ja 34 ?_;refine Ja 35 ?_;refine Ja 36 ?_;replace H:=Js [4,7,7,0,0,5,5,1,3,0,1,2,1,2,2,2,2,1,2,0,0,0] 0 H;replace H:=VM hw zN H;replace H:=Js [1,1,1,1,1,1,1,0,0,0,0,0] 0 H;replace H:=Zv U4 Zu bR H;replace H:=Js [1,1,0,0,0,0,0] 0 H;replace H:=Yw H;refine Jo 37 H ?_;refine Jk rfl rfl (zK p s m told hI H) ?_;rintro v w ⟨rfl,H⟩;refine Ja 38 ?_;refine Jo 39 H ?_;refine XM H ?_;intro w H;refine Jx H ?_;replace H:=Js [2,2,0] 1 H;exact Q3 (S5 (ms:=[D]) _ (.inr rfl) (Q0.star.2 H) (fun w' H' => .cell1 H' rfl rfl .nil) fun w' H'=>⟨rfl,H'.drop⟩)
theorem zO [Q4] (c:Nat) (s:CS) (rg:Int) (hT:ZK s.par) (hP:Yc s) (Gc:s.last+1 < 1000000) (v:Value) (l:List (Nat×Nat)) (hl:l.length≤1000) {w:World} {fr:List Q2} [hTab:Z5 0 Lib.deBruijn64tab fr] (H:Q0 w (QD c s::V8 v l::fr)) :
  Calls Tryz.prog 20 #[pp c,.int .i64 rg,v] w (ret fun x w'=>
   (∃ E:Int,E≠0∧x = .tuple #[.int .i64 0,.int .i64 E]∧Q0 w' (QD c s::V8 v l::fr)) ∨
   (∃ r:Nat,rg=r∧1≤r∧(QV s.par (r:Int)).isSome=true∧Zz s.tab r [] l=0∧x = .tuple #[.int .i64 ((s.last+1:Nat):Int),.int .i64 0]∧∃ (Z:List Pl) (s':CS),Z.map (fun z=>(z.k,z.g))=l∧Wj s r Z s'∧Q0 w' (QD c s'::V8 v l::fr))):=by
 cases hf:QV s.par rg with
 | none=>
  refine(lz c s rg v hf H).mono ?_;intro e w' h;cases e with
  | panicked c=>exact h.elim
  | outgrown=>exact h.elim
  | returned x=>
   obtain⟨rfl,h⟩:=h;exact .inl ⟨15,by decide,rfl,h⟩
 | some q=>
  obtain⟨h1,h2,_⟩:=hT.up _ _ hf;obtain⟨r,rfl⟩:∃ r:Nat,rg=r:=⟨rg.toNat,by omega⟩;have Qx:(QV s.par (r:Int)).isSome=true:=by rw[hf];rfl
  refine(lf c s r Qx hT hP Gc v l hl H).mono ?_;intro e w' h;cases e with
  | panicked c=>exact h.elim
  | outgrown=>exact h.elim
  | returned x=>
   rcases h with ⟨hc,rfl,h⟩|⟨hc,rfl,_,h⟩|⟨hc,rfl,Z,s',h3,h4,h⟩
   ·exact .inl ⟨_,by omega,rfl,h⟩
   ·exact .inl ⟨11,by decide,rfl,h⟩
   ·exact .inr ⟨r,rfl,by omega,Qx,(m6 hc).2,rfl,Z,s',h3,h4,h⟩
theorem cj {m:MS} (h:VF m) (os:List Nat) (v:Nat):VF (ZO m os v):=by
 refine az h (.inl rfl) rfl (length_mapIdx) fun o x' V9=>?_;rw[cH] at V9;cases hx:m.objs[o]? with
 | none=>rw[hx] at V9;cases V9
 | some x=>
  rw[hx] at V9;injection V9 with V9
  refine⟨x,rfl,?_⟩;rw[← V9];split <;> rfl
theorem mr (m:MS) (v:Nat):ZO m [] v=m:=by
 show ({ m with objs:=Gk v [] m.objs }:MS)=m;rw[lZ]
theorem zP {s s':CS} (hw:WF s) (VB:WF s') (hT:ZK s.par) {r:Int} (hr:(QV s.par r).isSome=true) {Z:List Pl} (h:Wj s r Z s') {b:Nat} {M:List Nat} (hM:(((s.last+1:Nat):Int),b,M)∈s'.mns):M.length=Z.length:=by
 obtain⟨n1,_⟩:=mW hw hT hr h;obtain⟨h1,h2⟩:=VB.mine _ hM;have h1:M.Pairwise (· < ·):=h1;have QN:M.Nodup:=h1.imp fun h=>Nat.ne_of_lt h
 have hp:M.Perm (Z.map Pl.k):=(perm_ext_iff_of_nodup QN h.keys).2 fun k=>by
  rw[h2];constructor
  ·rintro⟨g,e',h3,h4⟩;obtain⟨e,h5,rfl⟩:=h.mv.from h3;refine Classical.byContradiction fun hk=>?_;rw[HM hk] at h4;obtain⟨_,_,q,hq⟩:=hw.obj k g e h5;have h4:e.region=((s.last+1:Nat):Int):=h4;rw[h4] at hq;rw[(YP hT.nd).2 hq] at n1;cases n1
  ·intro hk;obtain⟨z,z1,rfl⟩:=mem_map.1 hk;obtain⟨z3,_⟩:=h.ents z z1;exact⟨z.g,_,h.mv.at z3,by rw[Li h.keys z1]⟩
 rw[hp.length_eq,length_map]
theorem zS {s:CS} {r:Int} {Z:List Pl} {s':CS} (h:Wj s r Z s') {z:Pl} (hz:z∈Z):∃ e',s'.tab[z.k]? = some ⟨z.g,some e'⟩∧e'.region=((s.last+1:Nat):Int)∧e'.held=z.e.held:=by
 obtain⟨h1,_⟩:=h.ents z hz;exact⟨_,h.mv.at h1,by rw[Li h.keys hz],(ae _ Z z.k z.e).2.2.2.1⟩
set_option maxRecDepth 10000 in
theorem zT [Q4] (z1 z2 z3:Int) (v:Value) (l:List ZN) (hl:l.length*128≤140737488351232) (R0 K0:Int) (vW:Value) (Wh:List Int) {w:World} {fr:List Q2} [hT:Z5 0 Lib.deBruijn64tab fr] (hr:YM fr v l.length 12 (Af l)) (QK:∀ x∈l,ET fr x) (XR:YM fr vW Wh.length 1 (Qm Wh)) (H:Q0 w fr) :
  Calls Tryz.prog 7 #[.agg #[.int .i64 z1,.int .i64 z2,.int .i64 z3],v,.agg #[.int .i64 R0,.int .i64 K0,vW]] w (ret fun r w'=>r = .bool true∧Q0 w' fr):=by
 obtain⟨_,ad,cap,rfl,_⟩:=id hr;obtain⟨_,adW,capW,rfl,_⟩:=id XR;refine QQ Tryz.func7 rfl (by kernel_rfl) ?_;refine J8 H ?_;intro b3 w H;refine Rj H ?_;intro b5 w H;refine Yn H ?_;refine Wu H mixed ?_;intro w H;refine Jf 0 ?_;refine Jl 1 [] H ?_;refine Jf 2 ?_;refine Jl 3 [] H ?_;refine Ku H ?_;refine Jx H ?_;refine Ui H ?_;refine Jc rfl rfl (cE H) ?_;rintro v w ⟨rfl,H⟩;refine Wz H ?_;refine Qe rfl rfl rfl (V3 (a:=[]) (b:=[]) rfl rfl (call (yq _ l hl hr.there.there (fun x hx=>(QK x hx).there.there) H) ?_));rintro r w ⟨b,rfl,hb,H⟩;cases b with
 | true=>
  refine IT H ?_;refine Rm H ?_;refine Ui H ?_;refine Jc rfl rfl (cE H) ?_;rintro v w ⟨rfl,H⟩;refine J0 H ?_;exact Q3 (Jy H.drop.drop rfl fun w' H'=>⟨rfl,H'⟩)
 | false=>
 obtain⟨jM,PU⟩:=hb rfl;refine Wz H ?_;refine SX H ?_;by_cases h40:(Wh.length:Int) > 40
 ·rw[show decide ((Wh.length:Int) > 40)=true from decide_eq_true (by omega)];refine Rm H ?_;refine Ui H ?_;refine Jc rfl rfl (cE H) ?_;rintro v w ⟨rfl,H⟩;refine J0 H ?_;exact Q3 (Jy H.drop.drop rfl fun w' H'=>⟨rfl,H'⟩)
 rw[show decide ((Wh.length:Int) > 40)=false from decide_eq_false (by omega)];refine YT H ?_;refine FU H ?_;refine Jc rfl rfl (yz z1 z2 z3 _ l jM PU hr.there.there (fun x hx=>(QK x hx).there.there) H) ?_;rintro r w ⟨p,s,m,told,rfl,J,H⟩;refine UI H ?_;obtain⟨c,mo,a,capT,H⟩:=E8 H;obtain⟨_,_,hw,_,_⟩:=YQ H.swap;obtain⟨_,_,_,_,_,_,_,U4,_⟩:=GI (H.sel [2,0,0] 0);have Us:=hw.par.1;have hO:=J.O;have hQ:=J.Q;have Qw:=J.R.len;have Gc:=J.R.last;replace H:=Js [0,2,0,0] 0 H;refine J9 H ?_;refine Jc rfl rfl (lH p c mo a capT told (by omega) _ Wh (by omega) XR.there.there.there.there H) ?_;rintro v w ⟨ys,vt,vo,rfl,Lt,YV,H⟩;generalize hTL:ys.map (·.1)=TL at H;generalize Ae:ys.map (·.2)=OL at H;obtain⟨at',ct,rfl⟩:=QI (m:=TL.length) H (Bf _) (by decide);obtain⟨ao,co,rfl⟩:=QI (m:=OL.length) H.drop (YZ _) (by decide);have Ys:TL.length=ys.length:=by rw[← hTL,length_map]
 have Vu:OL.length=ys.length:=by rw[← Ae,length_map]
 refine Gt H ?_;replace H:=Js [4,0,0,0,0] 0 H;obtain⟨q,mem,hw,hm,H⟩:=YQ H;replace H:=Js [5,0,0,0,0,0] 0 H;refine Fg H ?_;refine Jc rfl rfl (JD q.trp s.last s.par H) ?_;rintro v w ⟨rfl,H⟩;refine J0 H ?_;replace H:=Js [1,1,1,1,1,0] 0 H;replace H:=VM hw hm H;refine X6 H ?_;refine Jc rfl rfl (zO c s R0 J.T J.P (by omega) (.slice at' TL.length ct) TL (by omega) H) ?_;rintro v w (⟨E,hE,rfl,H⟩|⟨r,rfl,ZG,Qx,Hi,rfl,Z,s',hZ,hS,H⟩)
 ·refine FY H ?_;rw[show (E != 0)=true by rw[bne_iff_ne];exact hE];refine Vt H ?_;obtain⟨q,mem,hw,hm,H⟩:=YQ H;replace H:=Js [5,0,0,0,0,0] 0 H;refine CY H ?_;refine Ug H ?_;refine Kt H ?_;refine Qe rfl rfl rfl (V3 (a:=[]) (b:=[]) rfl rfl (call (JD q.trp s.last s.par H) ?_));rintro v w ⟨rfl,H⟩;refine Gq H ?_;rw[show (((s.par.length:Nat):Int) == ((s.par.length:Nat):Int))=true from beq_self_eq_true _];replace H:=Js [1,1,1,1,1,0] 0 H;replace H:=VM hw hm H;replace H:=Js [3,0,3,2] 2 H;replace H:=Yw H;refine Wz H ?_;refine Qe rfl rfl rfl (V3 (a:=[]) (b:=[]) rfl rfl (call (jT p s m told J.R.w H) ?_));rintro v w ⟨rfl,H⟩;refine Wz H ?_;refine Qe rfl rfl rfl (V3 (a:=[]) (b:=[]) rfl rfl (call (mh p s m told J.R.w J.I H) ?_));rintro v w ⟨rfl,H⟩;refine J4 H ?_;exact Q3 (Jy H.drop.drop.drop rfl fun w' H'=>⟨rfl,H'⟩)
 obtain⟨n1,n2,n3,n4,n5,n6⟩:=mW hw J.T Qx hS;have mw:Zz s.tab r [] (ys.map (·.1))=0:=by rw[hTL];exact Hi
 have mx:Z.map (fun z=>(z.k,z.g))=ys.map (·.1):=by rw[hTL];exact hZ
 have GZ:=zV J.R YV mw mx hS.ents;obtain⟨Ct,Hl,_⟩:=cW J.R YV mw mx;have Z3:=(HT Hi).1;have VH:(ys.map fun y=>y.2.toNat).length=ys.length:=length_map _;rw[Ae] at Hl;generalize (ys.map fun y=>y.2.toNat)=os at Ct Hl GZ VH;have my:OL.length=os.length:=by omega
 have PY:Z.length=TL.length:=by rw[← hZ,length_map]
 have Q2y:TL.length≤40:=by omega
 have zc:s'.par.length=s.par.length+1:=by rw[hS.par,length_append];rfl
 rw[my,Hl,← Hg] at H;rw[my];refine UI H ?_;refine XN H ?_;have e00:ZO m (os.take 0) (s.last+1)=m:=by rw[take_zero,mr]
 replace H:=Js [1,1,0,2,0,0] 2 H;refine Uh H ?_;refine Qp (fun ms σ w n=>ms=[]∧∃ (i:Nat),i≤TL.length∧n=TL.length - i∧σ 7 = .int .i64 r∧σ 9=pp p∧σ 11 = .slice at' TL.length ct∧σ 12 = .slice ao os.length co∧σ 13 = .int .i64 s.par.length∧σ 14 = .int .i64 ((s.last+1:Nat):Int)∧σ 97 = .slice at' TL.length ct∧σ 98 = .int .i64 TL.length∧σ 99 = .int .i64 i∧Q0 w (V8 (.slice at' TL.length ct) TL::NL (.slice ao os.length co) os::QD c s'::Qy mo (ZO m (os.take i) (s.last+1))::Y8 p c mo (.slice a told.length capT)::V8 (.slice a told.length capT) told::fr)) (m:=TL.length) ⟨rfl,0,by omega,rfl,rfl,rfl,rfl,rfl,rfl,rfl,rfl,rfl,rfl,by rw[e00];exact H⟩ ?_;rintro ms σ w n' ⟨rfl,i,hi,rfl,g7,g9,g11,g12,g13,g14,g97,g98,g99,H⟩;rw[Q1 g7,Q1 g9,Q1 g11,Q1 g12,Q1 g13,Q1 g14,Q1 g97,Q1 g98,Q1 g99];refine J7 H ?_;refine Qk rfl (fun h=>QE ?_) (fun h=>Qu ?_)
 ·have Q6:i < TL.length:=by omega
  have hx:=getElem?_eq_getElem Q6;have KR:i < Z.length:=by omega
  have EP:=getElem?_eq_getElem KR;generalize Z[i]=z at EP;have M0:=mem_of_getElem? EP;have mz:TL[i]? = some (z.k,z.g):=by rw[← hZ,getElem?_map,EP];rfl
  have VR:=mem_of_getElem? mz;obtain⟨⟨e0,Ai,lg,_⟩,_⟩:=Z3 _ VR;obtain⟨zd,_⟩:=hS.ents z M0;obtain⟨e',Yb,Gx,zf⟩:=zS hS M0;have Ai:s.tab[z.k]? = some ⟨z.g,some e0⟩:=Ai
  have hV:V4 s'.tab (z.k:Int) (z.g:Int)=some (z.k,e'):=Rq.2 ⟨EF Yb,by
   rw[zf];rw[zd] at Ai;injection Ai with Ai
   injection Ai with _ Ai
   injection Ai with Ai
   rw[Ai];exact lg⟩
  have hy:=getElem?_eq_getElem (show i < os.length by omega);have EI:=Ct _ (mem_of_getElem? hy);have Qi:os.take (i+1)=os.take i++[os[i]]:=by rw[take_add_one,hy];rfl
  generalize os[i]=o at hy Qi EI;obtain⟨bT,sT,rfl,H,QJ⟩:=VY H (by omega);refine DD H ?_;refine Jd ?_;refine Q5 rfl (Vy H rfl (Wa mz) rfl ?_);refine VO H ?_;intro b17 w H;refine F0 H ?_;intro w H;refine J2 H ?_;replace H:=Js [1,0] 0 H;replace H:=QJ _ _ H;replace H:Q0 w (V8 (.slice (some ⟨bT,0,none⟩) TL.length ct) TL::pts b17 (row 69 [.int .i64 z.k,.int .i64 z.g])::_):=H;replace H:=Js [3,1,0,0] 0 H;refine J6 H ?_;refine Qt (fun ms σ w=>ms=[]∧∃ b18,σ 7 = .int .i64 r∧σ 9=pp p∧σ 11 = .slice (some ⟨bT,0,none⟩) TL.length ct∧σ 12 = .slice ao os.length co∧σ 13 = .int .i64 s.par.length∧σ 14 = .int .i64 ((s.last+1:Nat):Int)∧σ 16 = .int .i64 i∧σ 18=pp b18∧σ 19 = .int .i64 0∧σ 97 = .slice (some ⟨bT,0,none⟩) TL.length ct∧σ 98 = .int .i64 TL.length∧σ 99 = .int .i64 i∧Q0 w (pts b18 (row 71 (TE e'))::QD c s'::V8 (.slice (some ⟨bT,0,none⟩) TL.length ct) TL::NL (.slice ao os.length co) os::Qy mo (ZO m (os.take i) (s.last+1))::Y8 p c mo (.slice a told.length capT)::V8 (.slice a told.length capT) told::fr)) ?_ ?_
  ·refine J1 H ?_;intro w H;refine B8 H ?_;refine Jw 5 9 H rfl rfl (V3 (a:=[]) (b:=[]) rfl rfl (call (TH c s' (z.k:Int) (z.g:Int) H) ?_)) (YW H rfl ?_)
   ·rintro v w ⟨rfl,H⟩;rw[hV];refine B9 H ?_;intro b18 w H;refine A7 H ?_;intro w H;refine Uj H ?_;replace H:=Js [0,0,1] 1 H;exact⟨rfl,rfl,b18,rfl,rfl,rfl,rfl,rfl,rfl,rfl,rfl,rfl,rfl,rfl,rfl,H⟩
   ·intro b18 w H;refine Jo 5 H ?_;refine Jk rfl rfl (TH c s' (z.k:Int) (z.g:Int) H.swap) ?_;rintro v w ⟨rfl,H⟩;rw[hV];refine DP H ?_;replace H:=Js [1,0,1] 1 H;refine A7 H ?_;intro w H;refine Uj H ?_;exact⟨rfl,rfl,b18,rfl,rfl,rfl,rfl,rfl,rfl,rfl,rfl,rfl,rfl,rfl,rfl,H⟩
  rintro ms σ w ⟨rfl,b18,g7,g9,g11,g12,g13,g14,g16,g18,g19,g97,g98,g99,H⟩;rw[Q1 g7,Q1 g9,Q1 g11,Q1 g12,Q1 g13,Q1 g14,Q1 g16,Q1 g18,Q1 g19,Q1 g97,Q1 g98,Q1 g99];replace H:=Js [3,3,0,0,0] 0 H;obtain⟨bl,sl,rfl,H,WB⟩:=VY H (by omega);have Zb:=bN (s.last+1) (os.take i) m.objs;have Ed:=getElem?_eq_getElem (show o < (Gk (s.last+1) (os.take i) m.objs).length by omega);generalize (Gk (s.last+1) (os.take i) m.objs)[o]=x at Ed;have Zo:=bP Ed;rw[← Qi] at Zo;have Xt:(ZO m (os.take i) (s.last+1)).objs[o]? = some x:=Ed;obtain⟨t,lc,aL,cL,bO,cO,sO,ptrs,qq,vw,vk,vt,rest,Gy,h2,hp,H,QU⟩:=UT H.swap Xt;have cm:(ZO m (os.take i) (s.last+1)).objs.length=m.objs.length:=Zb;rw[cm] at H QU
  have VB:VF { ZO m (os.take i) (s.last+1) with objs:=(ZO m (os.take i) (s.last+1)).objs.set o { x with region:=s.last+1 } }:=by
   have h:=cj U4 (os.take (i+1)) (s.last+1);unfold ZO at h;rw[show (m.objs.mapIdx fun o x=>if o∈os.take (i+1) then { x with region:=s.last+1 } else x)=Gk (s.last+1) (os.take (i+1)) m.objs from rfl,← Zo] at h;exact h
  refine J1 H ?_;intro w H;refine YI H ?_;refine Jl 3 [16] H ?_;refine Ja 4 ?_;refine Jf 5 ?_;refine Jl 6 [16] H ?_;refine Df H ?_;refine Ji 9 ?_;refine Y2 10 [16] H rfl (Q8.none rfl) rfl (by simpa using Gb hy) (by kernel_rfl) ?_;refine Ji 11 ?_;refine Y2 12 [16] H rfl (Q8.none rfl) rfl (by simpa using hp) (by kernel_rfl) ?_;refine Mq H ?_;refine Jo 16 H ?_;refine XM H ?_;intro w H;refine Jx H ?_;replace H:Q0 w (pts qq (K7 vw vk vt { x with region:=s.last+1 })::_):=H;replace H:=QU _ _ _ VB H;replace H:Q0 w (Qy mo { m with objs:=(Gk (s.last+1) (os.take i) m.objs).set o { x with region:=s.last+1 } }::_):=H;rw[Zo] at H;replace H:=WB _ _ H.swap;refine YJ H ?_;refine Kt H ?_;refine Gq H ?_;rw[show (e'.region != ((s.last+1:Nat):Int))=false by rw[Gx];exact bne_self_eq_false _];refine BV H ?_;replace H:=Js [4,0,2,0] 1 H;exact⟨_,⟨rfl,i+1,Q6,rfl,rfl,rfl,rfl,rfl,rfl,rfl,rfl,rfl,Qg (by omega),H⟩,by omega⟩
 ·have V0:i=TL.length:=by omega
  subst V0;have X5:os.take TL.length=os:=take_of_length_le (by omega);rw[X5] at H;replace H:=Js [2,0,0] 0 H;obtain⟨q2,mem2,UE,Zu,H⟩:=YQ H
  have Br:((s.last+1:Nat):Int)∈s'.mns.map (·.1):=by
   rw[UE.mkeys];exact mem_map.2 ⟨(_,_),(YP n5.nd).1 n3,rfl⟩
  obtain⟨b1,ZX⟩:=RK (l:=s'.mns) (f:=fun x=>x.1) (g:=fun x=>x.2.1) (k:=((s.last+1:Nat):Int)) Br;obtain⟨⟨r1,b1',M⟩,m1,m2,Vl,Vn,Yp⟩:=RX ZX;have Vn:r1=((s.last+1:Nat):Int):=Vn;have Yp:b1'=b1:=Yp;subst Vn Yp;have Xm:QV (s'.mns.map VX) ((s.last+1:Nat):Int)=some b1':=ZX;have zh:M.length=TL.length:=(zP hw UE J.T Qx hS (by rw[Vl];exact mem_append.2 (.inr mem_cons_self))).trans PY;replace H:=Js [5,0,0,0,0,0] 0 H;have cn:=kQ q2.trp s'.last s'.par ((s.last+1:Nat):Int) H;rw[n3] at cn;refine Iu H ?_;refine Jc rfl rfl (cn) ?_;clear H cn;rintro v w ⟨rfl,H⟩;rw[show (some (r:Int)).getD 0=(r:Int) from rfl,show (if (some (r:Int)).isSome=true then (0:Int) else 6)=0 from rfl];refine Gt H ?_;refine Na H ?_;rw[show ((r:Int) != (r:Int))=false from bne_self_eq_false _];refine CW H ?_;refine Kt H ?_;refine Qe rfl rfl rfl (V3 (a:=[]) (b:=[]) rfl rfl (call (JD q2.trp s'.last s'.par H) ?_));rintro v w ⟨rfl,H⟩;rw[zc];refine Gq H ?_;rw[show IntKind.i64.wrap (((s.par.length:Nat):Int)+1)=((s.par.length+1:Nat):Int) by rw[Qh (by omega) (by omega)];omega];refine Zq H ?_;rw[show (((s.par.length+1:Nat):Int) != ((s.par.length+1:Nat):Int))=false from bne_self_eq_false _];replace H:=Js [9,9,0,0,0,0,0,0,0,0,0] 0 H;refine CW H ?_;refine Ug H ?_;refine Qe rfl rfl rfl (GO (key:=((s.last+1:Nat):Int)) H rfl rfl Vp rfl ?_);rw[Xm];replace H:=Js [1,0] 0 H;replace H:Q0 w (VV b1' M::star ((m1++m2).map VG)::_):=(Q0.pick (R:=VG) (x:=(((s.last+1:Nat):Int),b1',M)) Vl).1 H
  refine Qe rfl rfl rfl (V3 (a:=[]) (b:=[]) rfl rfl (call (gO b1' M H) ?_));rintro v w ⟨rfl,H⟩;rw[zh];replace H:=(Q0.pick (R:=VG) (x:=(((s.last+1:Nat):Int),b1',M)) Vl).2 H;refine Zq H ?_;refine SX H ?_;rw[show (((TL.length:Nat):Int) != ((TL.length:Nat):Int))=false from bne_self_eq_false _];refine YT H ?_;replace H:=Js [3,3,3,3,3,2,2,2,2,1,0] 0 H;replace H:=VM UE Zu H;refine Vb H ?_;refine Jc rfl rfl (lP c s' ((s.last+1:Nat):Int) (r:Int) n3 n5 H) ?_;rintro v w (⟨hz,_,_⟩|⟨_,rfl,s2,hM,H⟩)
  ·omega
  obtain⟨RW,I2⟩:=zY hw J.R J.I J.T Qx hS GZ hM;refine Gt H ?_;refine XN H ?_;have e01:ZO (ZO m os (s.last+1)) (os.take 0) r=ZO m os (s.last+1):=by rw[take_zero,mr]
  replace H:=Js [2,2,0] 1 H;refine Uh H ?_;have n7:=cj U4 os (s.last+1);refine Qp (fun ms σ w n=>ms=[]∧∃ (i:Nat),i≤TL.length∧n=TL.length - i∧σ 7 = .int .i64 r∧σ 9=pp p∧σ 11 = .slice at' TL.length ct∧σ 12 = .slice ao os.length co∧σ 22 = .int .i64 r∧σ 23 = .int .i64 0∧σ 194 = .slice at' TL.length ct∧σ 195 = .int .i64 TL.length∧σ 196 = .int .i64 i∧Q0 w (NL (.slice ao os.length co) os::Qy mo (ZO (ZO m os (s.last+1)) (os.take i) r)::QD c s2::Y8 p c mo (.slice a told.length capT)::V8 (.slice a told.length capT) told::fr)) (m:=TL.length) ⟨rfl,0,by omega,rfl,rfl,rfl,rfl,rfl,rfl,rfl,rfl,rfl,rfl,by rw[e01];exact H⟩ ?_;rintro ms σ w n' ⟨rfl,i,hi,rfl,g7,g9,g11,g12,g22,g23,g194,g195,g196,H⟩;rw[Q1 g7,Q1 g9,Q1 g11,Q1 g12,Q1 g22,Q1 g23,Q1 g194,Q1 g195,Q1 g196];refine J7 H ?_;refine Qk rfl (fun h=>QE ?_) (fun h=>Qu ?_)
  ·have Q6:i < TL.length:=by omega
   have hy:=getElem?_eq_getElem (show i < os.length by omega);have EI:=Ct _ (mem_of_getElem? hy);have Qi:os.take (i+1)=os.take i++[os[i]]:=by rw[take_add_one,hy];rfl
   generalize os[i]=o at hy Qi EI;refine Dd H ?_;obtain⟨bl,sl,rfl,H,WB⟩:=VY H (by omega);generalize hmM:ZO m os (s.last+1)=mM at H n7;have HU:mM.objs.length=m.objs.length:=by rw[← hmM];exact length_mapIdx
   have Zb:=bN r (os.take i) mM.objs;have Ed:=getElem?_eq_getElem (show o < (Gk r (os.take i) mM.objs).length by omega);generalize (Gk r (os.take i) mM.objs)[o]=x at Ed;have Zo:=bP Ed;rw[← Qi] at Zo;have Xt:(ZO mM (os.take i) r).objs[o]? = some x:=Ed;obtain⟨t,lc,aL,cL,bO,cO,sO,ptrs,qq,vw,vk,vt,rest,Gy,h2,hp,H,QU⟩:=UT H.swap Xt;have cm:(ZO mM (os.take i) r).objs.length=mM.objs.length:=Zb;rw[cm] at H QU
   have VB:VF { ZO mM (os.take i) r with objs:=(ZO mM (os.take i) r).objs.set o { x with region:=r } }:=by
    have h:=cj n7 (os.take (i+1)) r;unfold ZO at h;rw[show (mM.objs.mapIdx fun o x=>if o∈os.take (i+1) then { x with region:=r } else x)=Gk r (os.take (i+1)) mM.objs from rfl,← Zo] at h;exact h
   refine J1 H ?_;intro w H;refine YI H ?_;refine Jl 3 [16] H ?_;refine Ja 4 ?_;refine Jf 5 ?_;refine Jl 6 [16] H ?_;refine Df H ?_;refine Ji 9 ?_;refine Y2 10 [16] H rfl (Q8.none rfl) rfl (by simpa using Gb hy) (by kernel_rfl) ?_;refine Ji 11 ?_;refine Y2 12 [16] H rfl (Q8.none rfl) rfl (by simpa using hp) (by kernel_rfl) ?_;refine Mq H ?_;refine Jo 16 H ?_;refine XM H ?_;intro w H;refine Jx H ?_;replace H:Q0 w (pts qq (K7 vw vk vt { x with region:=r })::_):=H;replace H:=QU _ _ _ VB H;replace H:Q0 w (Qy mo { mM with objs:=(Gk r (os.take i) mM.objs).set o { x with region:=r } }::_):=H;rw[Zo] at H;replace H:=WB _ _ H.swap;refine J3 H ?_;subst hmM;exact⟨_,⟨rfl,i+1,Q6,rfl,rfl,rfl,rfl,rfl,rfl,rfl,rfl,rfl,Qg (by omega),H⟩,by omega⟩
  ·have V0:i=TL.length:=by omega
   subst V0;rw[X5,zQ GZ] at H;replace H:=Js [3,2,1,1] 1 H;replace H:=Yw H;refine Na H ?_;rw[show ((r:Int) == (r:Int))=true from beq_self_eq_true _];refine Wz H ?_;refine Qe rfl rfl rfl (V3 (a:=[]) (b:=[]) rfl rfl (call (jT p s2 m told RW H) ?_));rintro v w ⟨rfl,H⟩;refine Wz H ?_;refine Qe rfl rfl rfl (V3 (a:=[]) (b:=[]) rfl rfl (call (mh p s2 m told RW I2 H) ?_));rintro v w ⟨rfl,H⟩;refine J4 H ?_;exact Q3 (Jy H.drop rfl fun w' H'=>⟨rfl,H'⟩)
end Go.Proofs.YtmjdnljneifpcaaGreatDoor
set_option linter.constructorNameAsVariable false
set_option maxRecDepth 100000
namespace Go.Proofs.YtmjdnljneifpcaaGreatDoor
open List
open Go.SL Go.ChangeShapes Go.WideShapes Go.ChangeAt Go.RowKit Go.Deep
def cp (W:World) (y:Ac):Prop:=y.X < 18446744073709551616∧(∀ z∈y.ws,z < 18446744073709551616)∧∃ (ad:Option Addr) (cap:Nat),y.vW = .slice ad y.ws.length cap∧(y.ws=[]∨∃ b o E fz c,ad=some ⟨b,o,none⟩∧W.heap[b]? = some (.cells (List.toArray c) E fz)∧QY c o (y.ws.length*1) (Qj y.ws))
def M5 (W:World) (y:ZN):Prop:=cp W y.a∧∃ (ad:Option Addr) (cap:Nat),y.vL = .slice ad y.L.length cap∧(y.L=[]∨∃ b o E fz c,ad=some ⟨b,o,none⟩∧W.heap[b]? = some (.cells (List.toArray c) E fz)∧QY c o (y.L.length*1) (Qm y.L))
section
variable {H:Type} {enc:TypeId×Value→H} {W:World} {n:Nat} {sp:Nat→Bool} {held:Bool} {base:Nat}
theorem cz {z:Int} (h:(Lit.int .u64 z).wf=true):∃ k:Nat,z=k∧k < 18446744073709551616:=by
 have h':(decide (IntKind.u64.min≤z) && decide (z≤IntKind.u64.max))=true:=h;rw[Bool.and_eq_true,decide_eq_true_eq,decide_eq_true_eq] at h';have h1:(0:Int)≤z:=h'.1;have h2:z≤18446744073709551615:=h'.2;exact⟨z.toNat,by omega,by omega⟩
theorem zi {v:Value} {x:DataW H×List MemPlace} (h:DataW.trod enc Tryz.prog W base sp held n 74 [v]=some x) :
  ∃ (ad:Option Addr) (cap:Nat) (ws:List Nat),v = .slice ad ws.length cap∧(∀ z∈ws,z < 18446744073709551616)∧(ws=[]∨∃ b o E fz c,ad=some ⟨b,o,none⟩∧W.heap[b]? = some (.cells (List.toArray c) E fz)∧QY c o (ws.length*1) (Qj ws)):=by
 rcases open_ints Tryz.underlying74 Tryz.underlying83 (by kernel_rfl) h with ⟨h1,_⟩|⟨a,len,cap,zs,h1,_,hl,_,Qw,_,hc,hw⟩
 ·injection h1 with h1 _
  exact⟨none,0,[],h1,by simp,.inl rfl⟩
 ·injection h1 with h1 _
  have VS:len≤zs.length:=by rw[Qw];split <;> omega
  refine⟨some a,cap,(zs.take len).map Int.toNat,?_,?_,?_⟩
  ·rw[h1];congr 1;simp;omega
  ·intro z hz;obtain⟨y,hy,rfl⟩:=mem_map.1 hz;obtain⟨k,rfl,hk⟩:=cz (hw y (mem_of_mem_take hy));exact hk
  ·rcases Nat.eq_zero_or_pos len with rfl|BH
   ·left;simp
   ·right;have Ub:=hc 0 (by omega);obtain⟨b,o,s⟩:=a
    have hs:s=none∧∃ c E fz,W.heap[b]? = some (.cells c E fz):=by
     unfold World.cell? Addr.add at Ub;simp only[Nat.add_zero,if_true] at Ub;split at Ub
     ·rename_i c E fz hh;refine⟨?_,c,E,fz,hh⟩;cases s with
      | none=>rfl
      | some s=>simp at Ub
     ·cases Ub
    obtain⟨rfl,c,E,fz,hh⟩:=hs;refine⟨b,o,E,fz,c.toList,rfl,by simpa using hh,?_⟩;have M6:(Qj ((zs.take len).map Int.toNat)).length=((zs.take len).map Int.toNat).length*1:=GA _;rw[← M6];refine QY.of_get fun j v hj=>?_
    have ZS:j < len:=by
     have:=(List.getElem?_eq_some_iff.1 hj).1;rw[M6] at this;simp at this;omega
    have h2:=hc j (by omega);rw[Gl] at h2;unfold World.cell? at h2;simp only[hh] at h2;have hz:=getElem?_eq_getElem (l:=zs) (i:=j) (by omega);obtain⟨k,hk,_⟩:=cz (hw zs[j] (getElem_mem _))
    have hv:v = .int .u64 (zs.getD j 0):=by
     unfold Qj at hj;rw[getElem?_map,getElem?_map,getElem?_take_of_lt ZS,hz] at hj;simp only[Option.map_some] at hj;injection hj with hj
     rw[← hj,getD_eq_getElem?_getD,hz];show Value.int .u64 ((zs[j].toNat:Nat):Int) = .int .u64 zs[j];rw[hk];rfl
    rw[hv];simpa using h2
theorem n8 {v:Value} {x:DataW H×List MemPlace} (h:DataW.trod enc Tryz.prog W base sp held n 31 [v]=some x) :
  ∃ (ad:Option Addr) (cap:Nat) (ws:List Int),v = .slice ad ws.length cap∧(ws=[]∨∃ b o E fz c,ad=some ⟨b,o,none⟩∧W.heap[b]? = some (.cells (List.toArray c) E fz)∧QY c o (ws.length*1) (Qm ws)):=by
 rcases open_ints Tryz.underlying31 Tryz.underlying3 (by kernel_rfl) h with ⟨h1,_⟩|⟨a,len,cap,zs,h1,_,hl,_,Qw,_,hc,hw⟩
 ·injection h1 with h1 _
  exact⟨none,0,[],h1,.inl rfl⟩
 ·injection h1 with h1 _
  have VS:len≤zs.length:=by rw[Qw];split <;> omega
  refine⟨some a,cap,zs.take len,?_,?_⟩
  ·rw[h1];congr 1;simp;omega
  ·rcases Nat.eq_zero_or_pos len with rfl|BH
   ·left;simp
   ·right;have Ub:=hc 0 (by omega);obtain⟨b,o,s⟩:=a
    have hs:s=none∧∃ c E fz,W.heap[b]? = some (.cells c E fz):=by
     unfold World.cell? Addr.add at Ub;simp only[Nat.add_zero,if_true] at Ub;split at Ub
     ·rename_i c E fz hh;refine⟨?_,c,E,fz,hh⟩;cases s with
      | none=>rfl
      | some s=>simp at Ub
     ·cases Ub
    obtain⟨rfl,c,E,fz,hh⟩:=hs;refine⟨b,o,E,fz,c.toList,rfl,by simpa using hh,?_⟩;have M6:(Qm (zs.take len)).length=(zs.take len).length*1:=YZ _;rw[← M6];refine QY.of_get fun j v hj=>?_
    have ZS:j < len:=by
     have:=(List.getElem?_eq_some_iff.1 hj).1;rw[M6] at this;simp at this;omega
    have h2:=hc j (by omega);rw[Gl] at h2;unfold World.cell? at h2;simp only[hh] at h2;have hz:=getElem?_eq_getElem (l:=zs) (i:=j) (by omega)
    have hv:v = .int .i64 (zs.getD j 0):=by
     unfold Qm at hj;rw[getElem?_map,getElem?_take_of_lt ZS,hz] at hj;simp only[Option.map_some] at hj;injection hj with hj
     rw[← hj,getD_eq_getElem?_getD,hz];rfl
    rw[hv];simpa using h2
theorem Vs {α:Type} {l:List α} {n:Nat} (h:l.length=n+1):∃ a t,l=a::t∧t.length=n:=by
 cases l with
 | nil=>cases h
 | cons a t=>exact⟨a,t,rfl,by simpa using h⟩
theorem zj {cs:List Value} {x:DataW H×List MemPlace} (h:DataW.trod enc Tryz.prog W base sp held n 93 cs=some x):∃ r:Ac,cs=Wc r∧cp W r:=by
 obtain⟨xs,k,rfl,hx,hl,Qw,hf⟩:=DataW.trod_struct Tryz.underlying93 h;have Vu:cs.length=9:=hl.trans (by kernel_rfl);obtain⟨c0,ct0,rfl,d5⟩:=Vs Vu;obtain⟨c1,ct1,rfl,d6⟩:=Vs d5;obtain⟨c2,ct2,rfl,d7⟩:=Vs d6;obtain⟨c3,ct3,rfl,d8⟩:=Vs d7;obtain⟨c4,ct4,rfl,d9⟩:=Vs d8;obtain⟨c5,ct5,rfl,dQ⟩:=Vs d9;obtain⟨c6,ct6,rfl,dV⟩:=Vs dQ;obtain⟨c7,ct7,rfl,dY⟩:=Vs dV;obtain⟨c8,ct8,rfl,dZ⟩:=Vs dY;obtain rfl:=length_eq_zero_iff.1 dZ;obtain⟨y0,yt0,rfl,dG⟩:=Vs Qw;obtain⟨y1,yt1,rfl,dU⟩:=Vs dG;obtain⟨y2,yt2,rfl,dX⟩:=Vs dU;obtain⟨y3,yt3,rfl,dK⟩:=Vs dX;obtain⟨y4,yt4,rfl,zl⟩:=Vs dK;obtain⟨y5,yt5,rfl,zm⟩:=Vs zl;obtain⟨y6,yt6,rfl,zn⟩:=Vs zm;obtain⟨y7,yt7,rfl,zo⟩:=Vs zn;obtain rfl:=length_eq_zero_iff.1 zo;have h0:=hf 0 _ rfl;have h1:=hf 1 _ rfl;have h2:=hf 2 _ rfl;have h3:=hf 3 _ rfl;have h4:=hf 4 _ rfl;have h5:=hf 5 _ rfl;have h6:=hf 6 _ rfl;have h7:=hf 7 _ rfl;obtain⟨z0,e0,_⟩:=DataW.trod_int Tryz.underlying3 h0;obtain⟨z1,e1,_⟩:=DataW.trod_int Tryz.underlying3 h1;obtain⟨z2,e2,_⟩:=DataW.trod_int Tryz.underlying3 h2;obtain⟨z3,e3,_⟩:=DataW.trod_int Tryz.underlying3 h3;obtain⟨z4,e4,_,w4⟩:=DataW.trod_int Tryz.underlying83 h4;obtain⟨ad,cap,ws,e5,Yr,hr⟩:=zi (v:=c5) h5;obtain⟨z6,e6,_⟩:=DataW.trod_bool Tryz.underlying4 h6;obtain⟨xs7,k7,_,_,hl7,zp,n9⟩:=DataW.trod_struct Tryz.underlying69 h7;obtain⟨x70,xt70,rfl,zq⟩:=Vs zp;obtain⟨x71,xt71,rfl,zr⟩:=Vs zq;obtain rfl:=length_eq_zero_iff.1 zr;have zu:=n9 0 _ rfl;have zw:=n9 1 _ rfl;obtain⟨z7,e7,_⟩:=DataW.trod_int Tryz.underlying3 zu;obtain⟨z8,e8,_⟩:=DataW.trod_int Tryz.underlying3 zw;obtain⟨X,rfl,hX⟩:=cz w4;refine⟨⟨z0,z1,z2,z3,X,c5,ws,z6,z7,z8⟩,?_,hX,Yr,ad,cap,e5,hr⟩;have e0:[c0]=[.int .i64 z0]:=e0;have e1:[c1]=[.int .i64 z1]:=e1;have e2:[c2]=[.int .i64 z2]:=e2;have e3:[c3]=[.int .i64 z3]:=e3;have e4:[c4]=[.int .u64 X]:=e4;have e6:[c6]=[.bool z6]:=e6;have e7:[c7]=[.int .i64 z7]:=e7;have e8:[c8]=[.int .i64 z8]:=e8;simp only[List.cons.injEq,and_true] at e0 e1 e2 e3 e4 e6 e7 e8;rw[e0,e1,e2,e3,e4,e6,e7,e8];rfl
theorem zx {cs:List Value} {x:DataW H×List MemPlace} (h:DataW.trod enc Tryz.prog W base sp held n 95 cs=some x):∃ r:ZN,cs=Uc r∧M5 W r:=by
 obtain⟨xs,k,rfl,hx,hl,Qw,hf⟩:=DataW.trod_struct Tryz.underlying95 h;have Vu:cs.length=12:=hl.trans (by kernel_rfl);obtain⟨c0,ct0,rfl,d5⟩:=Vs Vu;obtain⟨c1,ct1,rfl,d6⟩:=Vs d5;obtain⟨c2,ct2,rfl,d7⟩:=Vs d6;obtain⟨c3,ct3,rfl,d8⟩:=Vs d7;obtain⟨c4,ct4,rfl,d9⟩:=Vs d8;obtain⟨c5,ct5,rfl,dQ⟩:=Vs d9;obtain⟨c6,ct6,rfl,dV⟩:=Vs dQ;obtain⟨c7,ct7,rfl,dY⟩:=Vs dV;obtain⟨c8,ct8,rfl,dZ⟩:=Vs dY;obtain⟨c9,ct9,rfl,zy⟩:=Vs dZ;obtain⟨c10,ct10,rfl,zz⟩:=Vs zy;obtain⟨c11,ct11,rfl,Q0a⟩:=Vs zz;obtain rfl:=length_eq_zero_iff.1 Q0a;obtain⟨y0,yt0,rfl,dG⟩:=Vs Qw;obtain⟨y1,yt1,rfl,dU⟩:=Vs dG;obtain⟨y2,yt2,rfl,dX⟩:=Vs dU;obtain⟨y3,yt3,rfl,dK⟩:=Vs dX;obtain rfl:=length_eq_zero_iff.1 dK;have h0:=hf 0 _ rfl;have h1:=hf 1 _ rfl;have h2:=hf 2 _ rfl;have h3:=hf 3 _ rfl;obtain⟨z0,e0,_⟩:=DataW.trod_int Tryz.underlying3 h0;obtain⟨q,e1,hq⟩:=zj (cs:=[c1,c2,c3,c4,c5,c6,c7,c8,c9]) h1;obtain⟨z2,e2,_⟩:=DataW.trod_int Tryz.underlying3 h2;obtain⟨ad,cap,ws,e3,hr⟩:=n8 (v:=c11) h3;refine⟨⟨z0,q,z2,c11,ws⟩,?_,hq,ad,cap,e3,hr⟩;have e0:[c0]=[.int .i64 z0]:=e0;have e2:[c10]=[.int .i64 z2]:=e2;simp only[List.cons.injEq,and_true] at e0 e2;rw[e0,e2];show Value.int .i64 z0::([c1,c2,c3,c4,c5,c6,c7,c8,c9]++[.int .i64 z2,c11])=_;rw[e1];rfl
instance:Inhabited ZN:=⟨⟨0,⟨0,0,0,0,0,.slice none 0 0,[],false,0,0⟩,0,.slice none 0 0,[]⟩⟩
theorem Q0b {v:Value} {d:DataW H} {ps:List MemPlace} {r:Reach} {b0:Nat} (hv:Value.okWide Tryz.prog W r b0 24 v) (h:DataW.Trod enc Tryz.prog W 0 (fun _=>true) true 24 v d ps) :
  ∃ (ad:Option Addr) (cap:Nat) (l:List ZN),v = .slice ad l.length cap∧l.length≤maxLen∧(∀ x∈l,M5 W x)∧(l=[]∨∃ el sp,d = .slice el sp∧el.length=l.length)∧(l=[]∨∃ b o E fz c,ad=some ⟨b,o,none⟩∧W.heap[b]? = some (.cells (List.toArray c) E fz)∧∀ (i:Nat) (a:ZN),l[i]? = some a→QY c (o+i*12) 12 (Uc a)):=by
 obtain⟨a,len,cap,rfl⟩:=okWide_slice Tryz.underlying24 hv;obtain⟨fuel,hf⟩:=h
 rcases open_slice Tryz.underlying24 hf with ⟨h1,_⟩|⟨a',len',cap',m,n,D,Pl,h1,hb,hl,hm,Gy,hx,kJ⟩
 ·have h1:[Value.slice a len cap]=[.slice none 0 0]:=h1;simp at h1;obtain⟨rfl,rfl,rfl⟩:=h1;exact⟨none,0,[],rfl,Nat.zero_le _,(fun x hx=>by cases hx),.inl rfl,.inl rfl⟩
 ·have h1:[Value.slice a len cap]=[.slice (some a') len' cap']:=h1;simp at h1;obtain⟨rfl,rfl,rfl⟩:=h1;have hce:Tryz.prog.cellsOf 95=12:=by kernel_rfl
  have each:∀ i,i < len→∃ q:ZN,M5 W q∧∀ (j:Nat) x,(Uc q)[j]? = some x→W.cell? (a'.add (i*12+j))=some x:=by
   intro i hi;obtain⟨cs',h2,h3⟩:=kJ i (by rw[Gy];simp;omega);obtain⟨q,rfl,hq⟩:=zx h3;rw[hce] at h2;obtain⟨_,Qw,BX⟩:=World.cells?_some h2;refine⟨q,hq,fun j x hj=>?_⟩;have:=BX j (by have:=(List.getElem?_eq_some_iff.1 hj).1;exact this);rw[add_add] at this;rw[this,hj]
  obtain⟨q,hq⟩:=choose_lt each;have Cp:((List.range len).map q).length=len:=by simp
  have Z3:∀ x∈(List.range len).map q,M5 W x:=by
   intro x hx;obtain⟨i,hi,rfl⟩:=mem_map.1 hx;exact(hq i (mem_range.1 hi)).1
  rcases Nat.eq_zero_or_pos len with rfl|BH
  ·exact⟨some a',cap,[],rfl,Nat.zero_le _,(fun x hx=>by cases hx),.inl rfl,.inl rfl⟩
  ·have Ub:=(hq 0 BH).2 0 _ rfl;obtain⟨b,o,s⟩:=a'
   have hs:s=none∧∃ c E fz,W.heap[b]? = some (.cells c E fz):=by
    unfold World.cell? Addr.add at Ub;simp only[Nat.zero_mul,Nat.add_zero,if_true] at Ub;split at Ub
    ·rename_i c E fz hh;refine⟨?_,c,E,fz,hh⟩;cases s with
     | none=>rfl
     | some s=>simp at Ub
    ·cases Ub
   obtain⟨rfl,c,E,fz,hh⟩:=hs;refine⟨some ⟨b,o,none⟩,cap,(List.range len).map q,by rw[Cp],by rw[Cp];omega,Z3,.inr ⟨_,_,(Prod.mk.inj hx).1,by rw[Cp,length_map,length_range]⟩,.inr ⟨b,o,E,fz,c.toList,rfl,by simpa using hh,?_⟩⟩;intro i a nQ;have hi:i < len:=by have:=(List.getElem?_eq_some_iff.1 nQ).1;simpa using this
   have e:q i=a:=by simpa [hi] using nQ
   subst e;refine QY.of_get (vs:=Uc (q i)) fun j x hj=>?_;have:=(hq i hi).2 j x hj;rw[Gl] at this;unfold World.cell? at this;simp only[hh] at this;simpa [Nat.add_assoc] using this
theorem Q0d {cs:List Value} {x:DataW H×List MemPlace} (h:DataW.trod enc Tryz.prog W base sp held n 23 cs=some x):∃ z1 z2 z3:Int,cs=[.int .i64 z1,.int .i64 z2,.int .i64 z3]:=by
 obtain⟨xs,k,rfl,hx,hl,Qw,hf⟩:=DataW.trod_struct Tryz.underlying23 h;have Vu:cs.length=3:=hl.trans (by kernel_rfl);obtain⟨c0,ct0,rfl,g0⟩:=Vs Vu;obtain⟨c1,ct1,rfl,g1⟩:=Vs g0;obtain⟨c2,ct2,rfl,g2⟩:=Vs g1;obtain rfl:=length_eq_zero_iff.1 g2;obtain⟨y0,yt0,rfl,k0⟩:=Vs Qw;obtain⟨y1,yt1,rfl,k1⟩:=Vs k0;obtain⟨y2,yt2,rfl,k2⟩:=Vs k1;have h0:=hf 0 _ rfl;have h1:=hf 1 _ rfl;have h2:=hf 2 _ rfl;obtain⟨z0,e0,_⟩:=DataW.trod_int Tryz.underlying3 h0;obtain⟨z1,e1,_⟩:=DataW.trod_int Tryz.underlying3 h1;obtain⟨z2,e2,_⟩:=DataW.trod_int Tryz.underlying3 h2;refine⟨z0,z1,z2,?_⟩;have e0:[c0]=[.int .i64 z0]:=e0;have e1:[c1]=[.int .i64 z1]:=e1;have e2:[c2]=[.int .i64 z2]:=e2;simp only[List.cons.injEq,and_true] at e0 e1 e2;rw[e0,e1,e2]
theorem Q0e {v:Value} {d:DataW H} {ps:List MemPlace} {r:Reach} {b0:Nat} (hv:Value.okWide Tryz.prog W r b0 23 v) (h:DataW.Trod enc Tryz.prog W 0 (fun _=>true) true 23 v d ps):∃ z1 z2 z3:Int,v = .agg #[.int .i64 z1,.int .i64 z2,.int .i64 z3]:=by
 obtain⟨cs,rfl,Va⟩:=okWide_struct Tryz.underlying23 hv;obtain⟨fuel,hf⟩:=h;obtain⟨z1,z2,z3,hx⟩:=Q0d hf;refine⟨z1,z2,z3,?_⟩;have:cs.toList=[.int .i64 z1,.int .i64 z2,.int .i64 z3]:=hx;rw[← Array.toArray_toList (xs:=cs),this]
end
theorem nV {c:List Value}:∀ {l:List ZN} {o:Nat},(∀ i a,l[i]? = some a→QY c (o+i*12) 12 (Uc a))→QY c o (l.length*12) (Af l)
 | [],o,_ => .nil o
 | t::l,o,h=>by
  have h0:=h 0 t rfl
  have ih:=nV (l:=l) (o:=o+12) fun i u hu=>by
   have:=h (i+1) u (by simpa using hu);rw[show o+12+i*12=o+(i+1)*12 by omega];exact this
  rw[length_cons,Nat.succ_mul];show QY c o (l.length*12+12) (Uc t++Af l);have h0:QY c o 12 (Uc t):=by simpa using h0
  unfold Uc at h0 ⊢;obtain _|⟨g0,h0⟩:=h0;obtain _|⟨g1,h0⟩:=h0;obtain _|⟨g2,h0⟩:=h0;obtain _|⟨g3,h0⟩:=h0;obtain _|⟨g4,h0⟩:=h0;obtain _|⟨g5,h0⟩:=h0;obtain _|⟨g6,h0⟩:=h0;obtain _|⟨g7,h0⟩:=h0;obtain _|⟨g8,h0⟩:=h0;obtain _|⟨g9,h0⟩:=h0;obtain _|⟨g10,h0⟩:=h0;obtain _|⟨g11,h0⟩:=h0;exact .cons g0 (.cons g1 (.cons g2 (.cons g3 (.cons g4 (.cons g5 (.cons g6 (.cons g7 (.cons g8 (.cons g9 (.cons g10 (.cons g11 ih)))))))))))
theorem Q0f {W:World} {ad:Option Addr} {cap:Nat} {l:List ZN} (h:l=[]∨∃ b o E fz c,ad=some ⟨b,o,none⟩∧W.heap[b]? = some (.cells (List.toArray c) E fz)∧∀ (i:Nat) (a:ZN),l[i]? = some a→QY c (o+i*12) 12 (Uc a)) (fr:List Q2):YM (old W::fr) (.slice ad l.length cap) l.length 12 (Af l):=by
 refine⟨yk l,ad,cap,rfl,?_⟩
 rcases h with rfl|⟨b,o,E,fz,c,rfl,hb,hr⟩
 ·exact .inl rfl
 ·haveI:Hq W b (.cells (List.toArray c) E fz):=⟨hb⟩;exact .inr ⟨b,o,E,fz,c,rfl,inferInstance,nV hr⟩
theorem Q0g {W:World} {x:Ac} (h:cp W x) (fr:List Q2):OP (old W::fr) x:=by
 obtain⟨h1,h2,ad,cap,h3,h4⟩:=h;refine⟨h1,h2,GA _,ad,cap,h3,?_⟩
 rcases h4 with h4|⟨b,o,E,fz,c,rfl,hb,hr⟩
 ·left;rw[h4];rfl
 ·haveI:Hq W b (.cells (List.toArray c) E fz):=⟨hb⟩;exact .inr ⟨b,o,E,fz,c,rfl,inferInstance,hr⟩
theorem Q0h {W:World} {x:ZN} (h:M5 W x) (fr:List Q2):ET (old W::fr) x:=by
 obtain⟨h1,ad,cap,h3,h4⟩:=h;refine⟨Q0g h1 fr,YZ _,ad,cap,h3,?_⟩
 rcases h4 with h4|⟨b,o,E,fz,c,rfl,hb,hr⟩
 ·left;rw[h4];rfl
 ·haveI:Hq W b (.cells (List.toArray c) E fz):=⟨hb⟩;exact .inr ⟨b,o,E,fz,c,rfl,inferInstance,hr⟩
theorem own0:ownKnob Tryz.prog.godebug=none:=by kernel_rfl
theorem Q0i:laidOutB Tryz.prog=true:=by kernel_rfl
theorem Q0j {W:World} (h:laidMetH Tryz.prog Rows.joinActsRow.laid W):MT 0 Lib.deBruijn64tab W∧0 < W.heap.size:=by
 have h':laidMet Tryz.prog [("math/bits.deBruijn64tab",Lib.tabData .u8 (Lib.deBruijn64tab.map fun n:Nat=>(n:Int)))] W:=h;have ht:=Lib.tabIs_of_head (P:=Tryz.prog) (g:=0) (t:=329) (n:=64) (by kernel_rfl) (by kernel_rfl) Tryz.underlying329 (by kernel_rfl) (by kernel_rfl) (by kernel_rfl) h'
 have hc:MT 0 Lib.deBruijn64tab W:=by
  intro j hj;have:=ht.cell (g:=0) (by kernel_rfl) j (by simpa using hj);rw[this];congr 2;rw[getD_eq_getElem?_getD,getD_eq_getElem?_getD,getElem?_map];cases Lib.deBruijn64tab[j]? <;> rfl
 refine⟨hc,?_⟩;have h0:=hc 0 (by decide);unfold World.cell? at h0;refine Nat.pos_of_ne_zero fun hz=>?_;rw[Array.getElem?_eq_none (by omega)] at h0;cases h0
def Q0k:DataW Unit→List Value
 | .agg l=>l.map fun
  | .lit (.int k z)=>Value.int k z
  | _ => .nilFunc
 | _=>[]
def Q0l (w:World) (g:Nat) (d:DataW Unit):World:={ w with heap:=w.heap.modify g fun
  | .cells _ t frozen => .cells (Q0k d).toArray t frozen
  | o=>o }
noncomputable def nY (os:Os):World:=Q0l (World.holding Tryz.prog os ⟨#[],#[],[]⟩) 0 Rows.laid_math_bits_deBruijn64tab
theorem Q0m (os:Os) (args:Array Value):laidMetH Tryz.prog Rows.joinActsRow.laid ((nY os).forCall (fun _ _=>0) ⟨#[],args,[]⟩).memory:=by
 show laidMet Tryz.prog Rows.joinActsRow.laid _;exact(LaidIn.of_run [0] 8 (by kernel_rfl) (by kernel_rfl) (by kernel_rfl) (by kernel_rfl)).met
end Go.Proofs.YtmjdnljneifpcaaGreatDoor
