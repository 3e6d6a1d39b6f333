/- Cells: what is proved on the way: every input of the statement; no condition. Texts joined: WhoD WhoJ OpnC. -/
import Derived.Test.YtmjdnljneifpcaaGreatDoorBce
import Derived.Test.YtmjdnljneifpcaaGreatDoorBcr
import Derived.Test.YtmjdnljneifpcaaGreatDoorBcl
import Derived.Test.YtmjdnljneifpcaaGreatDoorBcd
import Derived.Test.YtmjdnljneifpcaaGreatDoorRows
import Derived.Lib.SmallJoins
import Derived.Lib.LaidIn
import Derived.Stop.LaidErr
import Derived.Stop.Joined
import Derived.ChangeMaps5
import Derived.ChangeSlices
set_option linter.unusedVariables false
set_option linter.unusedSimpArgs false
set_option linter.unusedSectionVars false
namespace Go.Proofs.YtmjdnljneifpcaaGreatDoor
open List
open Go.SL
def Fm (s:CS) (S:List (Int×Int)) (ks:List Nat):Prop:=∀ r v,QY S r=some v→∃ k∈ks,∃ (g:Nat) (e:Q7),s.tab[k]? = some ⟨g,some e⟩∧(e.addr:Int)≤r∧r < (QJ e:Int)
def jW (s:CS) (S:List (Int×Int)) (ks:List Nat) (e:Q7) (j:Nat):Prop:=∀ r v,QY S r=some v→(∃ k∈ks,∃ (g:Nat) (e:Q7),s.tab[k]? = some ⟨g,some e⟩∧(e.addr:Int)≤r∧r < (QJ e:Int))∨((e.addr:Int)≤r∧r < (e.addr:Int)+j)
theorem jA [Q4] {w:World} {l:List Q2} (H:Q0 w l):∃ X,X=l∧Q0 w X:=⟨l,rfl,H⟩
set_option maxRecDepth 10000 in
theorem jH [Q4] (p:Nat) (s:CS) (m:MS) (told:List (Nat×Nat)) (R:X9 s m told) (hI:Inv s) {w:World} {fr:List Q2} [hT:YX 0 Lib.deBruijn64tab fr] (H:Q0 w (GU p s m told::fr)) :
  Calls Tryz.prog 12 #[pp p] w (ret fun v w'=>v = .bool true∧Q0 w' (GU p s m told::fr)):=by
 obtain⟨c,mo,a,cap,H⟩:=Co H;obtain⟨q,mem,hw,hm,H⟩:=Vv H.swap;replace H:=Js [4,0,9,4,0,0,0,0,0,0,0,0,0,0] 0 H;obtain⟨tq,H,hTAB⟩:=OT H;refine Q9 Tryz.func12 rfl (by kernel_rfl) ?_;refine Vp H ?_;clear H;intro b2 w H;refine J2 H ?_;refine Yd H ?_;refine VZ H ?_;clear H;intro b3 w H;refine Kg H ?_;clear H;intro w H;refine J2 H ?_;refine G5 H ?_;refine Q5 rfl (KA v1 (ki .i64) H rfl ?_);clear H;intro bm w H;refine VZ H ?_;clear H;intro b4 w H;refine Kg H ?_;clear H;intro w H;refine J2 H ?_;refine GS H ?_;refine ZB H ?_;refine Jc rfl rfl (Ob q.tp (H.sel [3,0,0,0] 0)) ?_;clear H;rintro v w ⟨bt,rfl,H⟩;dsimp only[SL.sel,SL.pull,List.drop] at H;refine RR H ?_;refine Qo (fun ms σ w=>(∃ D,ms=[D]∧Q0 w (pts D (.deferred (some []))::YQ p c mo (.slice a told.length cap)::QA c s::Qs mo m::VW (.slice a told.length cap) told::pts b2 (row 4 [.bool false])::pts b3 (row 44 [pp c])::fr))∧σ 0=pp p∧σ 2=pp b2∧σ 3=pp b3) ?_ ?_
 ·refine QP (XA (a:=[]) (b:=[pp bt]) H rfl (fun yl D w H=>?_));generalize hL:LR _ yl _ _ _ _ D .ready=L at H ⊢;obtain⟨J,hJ⟩:∃ J:List Nat→Q2,J=fun ks=>ex fun S:List (Int×Int)=>star [prop (Fm s S ks),mp (ki .i64) v1 bm S,L,pts b4 (row 108 [.map (some bm)]),pts b3 (row 44 [pp c]),Qv c q,Qf q.trp s.last s.par,mp (ki .i64) Qp q.mm (s.mns.map Qx),star (s.mns.map Qy),Qt q.ip q.sp q.bp,Qh q.bp s.lays,ST q.sp s.size mem s.own]:=⟨_,rfl⟩
  have hin:∀ (ks:List Nat) (S:List (Int×Int)) (w:World) (l':List Q2),Fm s S ks→Q0 w (mp (ki .i64) v1 bm S::L::pts b4 (row 108 [.map (some bm)])::pts b3 (row 44 [pp c])::Qv c q::Qf q.trp s.last s.par::mp (ki .i64) Qp q.mm (s.mns.map Qx)::star (s.mns.map Qy)::Qt q.ip q.sp q.bp::Qh q.bp s.lays::ST q.sp s.size mem s.own::l')→Q0 w (J ks::l'):=by
   intro ks S w l' h H;rw[hJ];exact Q0.ex.2 ⟨S,Q0.star.2 (Q0.prop.2 ⟨h,H⟩)⟩
  have hout:∀ (ks:List Nat) (w:World) (l':List Q2),Q0 w (J ks::l')→∃ S,Fm s S ks∧Q0 w (mp (ki .i64) v1 bm S::L::pts b4 (row 108 [.map (some bm)])::pts b3 (row 44 [pp c])::Qv c q::Qf q.trp s.last s.par::mp (ki .i64) Qp q.mm (s.mns.map Qx)::star (s.mns.map Qy)::Qt q.ip q.sp q.bp::Qh q.bp s.lays::ST q.sp s.size mem s.own::l'):=by
   intro ks w l' H;rw[hJ] at H;obtain⟨S,H⟩:=Q0.ex.1 H;exact⟨S,Q0.prop.1 (Q0.star.1 H)⟩
  replace H:=Js [5,0,3,3,4,9,11,11,6,6,6,1,2,0,0,0,0,0,0,0,0] 0 H;replace H:=hin [] [] _ _ (fun r v h=>by cases h) H;refine call (Oc yl bt q.tp s.tab tq J ?_ H) ?_
  ·clear H;intro ks k g e rest w hk hpre H;obtain⟨t1,hpre⟩:=hpre;obtain⟨S,hS,H⟩:=hout _ _ _ H;subst hL;replace H:=Js [1,0,0,0,0,0,0,0,0,0,0,0] 0 H;refine UF (args:=[Gw k g,.agg (Vg e).toArray]) H rfl rfl ?_;refine Vp H ?_;clear H;intro b5 w H;refine J4 H ?_;clear H;intro w H;refine J2 H ?_;refine Vp H ?_;clear H;intro b6 w H;refine J4 H ?_;clear H;intro w H;refine J2 H ?_;replace H:=Js [2,0,0,0,0,0,0,0,0,0,0,0,0,0] 0 H;refine⟨rfl,_,H,fun w H=>QP ?_⟩;generalize hLB:LR _ yl _ _ _ _ D .busy=LB at H ⊢;replace H:=Js [10,10,10,6,5,1,1,0,0,0,0,0,0,0] 0 H;refine J6 H ?_;refine Qo (fun ms σ w=>ms=[]∧∃ b7,σ 3=pp b3∧σ 4=pp b4∧σ 5=pp b5∧σ 6=pp b6∧σ 7=pp b7∧σ 8 = .int .i64 ((e.ws.length+1:Nat):Int)∧σ 9 = .int .i64 0∧Q0 w (pts b7 (row 115 [.int .i64 e.lay,.int .i64 e.count,.int .i64 k])::Qt q.ip q.sp q.bp::Qh q.bp s.lays::ST q.sp s.size mem s.own::Qv c q::pts b3 (row 44 [pp c])::pts b6 (row 113 (Vg e))::pts b5 (row 69 [.int .i64 k,.int .i64 g])::LB::mp (ki .i64) v1 bm S::pts b4 (row 108 [.map (some bm)])::Qf q.trp s.last s.par::mp (ki .i64) Qp q.mm (s.mns.map Qx)::star (s.mns.map Qy)::ZJ q.tp s.tab tq::rest)) ?_ ?_
   ·refine J1 H ?_;clear H;intro w H;refine Jl 0 [6,12] H ?_;refine XN H ?_;refine Jl 3 [6,12] H ?_;refine Jf 4 ?_;refine Jl 5 [6,12] H ?_;refine Jw 6 11 H rfl rfl (V1 (a:=[]) (b:=[]) rfl rfl (call (We q.ip q.sp q.bp s.size s.lays mem s.own e.addr e.lay e.count k e.ws.length (QN s e) (Xc hw hm hk) H) ?_)) (Vo H rfl ?_)
    ·clear H;rintro v w ⟨rfl,H⟩;refine Ae H ?_;refine Af H ?_;clear H;intro b7 w H;refine Uz H ?_;clear H;intro w H;refine Kf H ?_;exact⟨rfl,rfl,b7,rfl,rfl,rfl,rfl,rfl,rfl,rfl,H⟩
    ·clear H;intro b7 w H;refine Jo 6 H ?_;refine Jk rfl rfl (We q.ip q.sp q.bp s.size s.lays mem s.own e.addr e.lay e.count k e.ws.length (QN s e) (Xc hw hm hk) (H.sel [1,1,1,0] 0)) ?_;clear H;rintro v w ⟨rfl,H⟩;dsimp only[SL.sel,SL.pull,List.drop] at H;refine Ae H ?_;refine Uz H ?_;clear H;intro w H;refine Kf H ?_;replace H:=Js [3,0,0,0,0,0,0,0,0,0,0,0,0,0,0] 0 H;exact⟨rfl,rfl,b7,rfl,rfl,rfl,rfl,rfl,rfl,rfl,H⟩
   clear H;rintro ms σ w ⟨rfl,b7,g3,g4,g5,g6,g7,g8,g9,H⟩;rw[Q1 g3,Q1 g4,Q1 g5,Q1 g6,Q1 g7,Q1 g8,Q1 g9];have hndp:=I7 (H.pull 11);obtain⟨_,_,y,hy⟩:=hw.obj k g e hk;have hlive:(QY s.par e.region).isSome=true:=by rw[(Yl hndp).2 hy];rfl
   have hrk:e.region∈s.mns.map (·.1):=by rw[hw.mkeys];exact mem_map.2 ⟨(e.region,y),hy,rfl⟩
   obtain⟨b2',hkM⟩:=X8 (l:=s.mns) (f:=fun x=>x.1) (g:=fun x=>x.2.1) (k:=e.region) hrk;obtain⟨⟨r1,b1,QL⟩,m1,m2,hmns,h11,h12⟩:=X7 hkM;have h11:r1=e.region:=h11;have h12:b1=b2':=h12;subst h11 h12;have hkM':QY (s.mns.map Qx) e.region=some b1:=hkM;have hmL:=hw.mine (e.region,b1,QL) (by rw[hmns];simp);have hkL:k∈QL:=(hmL.2 k).2 ⟨g,e,hk,rfl⟩
   have hL1:QL.length≤100000:=by
    have:=Kh QL 0 64 (fun x hx=>⟨Nat.zero_le _,by
     obtain⟨g,f,h3,_⟩:=(hmL.2 x).1 hx;have h4:=(List.getElem?_eq_some_iff.1 h3).1;have:=hw.slots.2;omega⟩) hmL.1
    omega
   replace H:=Js [11,0,0,0,0,0,0,0,0,0,0,0,0,0,0] 0 H;refine J1 H ?_;clear H;intro w H;refine RJ H ?_;refine Jl 4 [] H ?_;refine Jf 5 ?_;refine Jl 6 [] H ?_;refine Ja 7 ?_;rw[show ((k:Int) != (k:Int))=false from bne_self_eq_false _];refine Ja 8 ?_;refine Ja 9 ?_;refine Jl 10 [] H ?_;refine Ja 11 ?_;refine Jf 12 ?_;refine Jl 13 [] H ?_;refine Jf 14 ?_;refine Jl 15 [] H ?_;refine Jo 16 H ?_;refine Jk rfl rfl (CL q.trp s.last s.par e.region H) ?_;clear H;rintro v w ⟨rfl,H⟩;rw[hlive];refine Ja 17 ?_;refine Ja 18 ?_;refine Ja 19 ?_;refine Jl 20 [] H ?_;refine Ja 21 ?_;refine Jf 22 ?_;refine Jl 23 [] H ?_;refine Jf 24 ?_;refine Jl 25 [] H ?_;replace H:=Js [13,0,0,0,0,0,0,0,0,0,0,0,0,0,0] 0 H;replace H:Q0 w (Qu b1 QL::star ((m1++m2).map Qy)::_):=(Q0.pick (R:=Qy) (x:=(e.region,b1,QL)) hmns).1 H;refine Uq 26 [] (key:=e.region) H rfl (Q8.of rfl rfl rfl) rfl rfl VC (by kernel_rfl) ?_;rw[hkM'];refine Jf 27 ?_;refine Jl 28 [] H ?_;refine Jo 29 H ?_;refine Jk rfl rfl (NX b1 QL k hmL.1 hL1 H) ?_;clear H;rintro v w ⟨rfl,H⟩;rw[decide_eq_true hkL];replace H:=(Q0.pick (R:=Qy) (x:=(e.region,b1,QL)) hmns).2 H;refine Ja 30 ?_;refine Ja 31 ?_;refine Jx H ?_;refine WD H ?_;have hlies:=(hw.obj k g e hk).2.1;have hsz:=hw.size
   have hkl63:k < 64:=by
    have h1:=(List.getElem?_eq_some_iff.1 hk).1;have h2:=hw.slots.2;omega
   have hmemlen:s.own.length*s.size≤63*1024:=Nat.mul_le_mul hw.own.2 hw.size.2
   have hend:e.addr+1+e.ws.length≤64512:=by
    have:=hlies.1;unfold QJ at this;omega
   have hkn:k∉ks:=by
    have hnd:(Zy s.tab).Nodup:=nodup_range.filter _;rw[hpre,nodup_append] at hnd;exact fun h=>hnd.2.2 k h k mem_cons_self rfl
   replace H:=Js [5,10,7,7,6,7,5,3,3,3,1,2,0,1] 1 H;refine J6 H ?_;refine QP (Ql (fun ms σ w z=>ms=[]∧∃ (j:Nat) (S:List (Int×Int)),j≤e.ws.length+1∧z=e.ws.length+1 - j∧jW s S ks e j∧σ 3=pp b3∧σ 4=pp b4∧σ 5=pp b5∧σ 6=pp b6∧σ 73 = .int .i64 ((e.ws.length+1:Nat):Int)∧σ 74 = .int .i64 j∧Q0 w (ST q.sp s.size mem s.own::mp (ki .i64) v1 bm S::pts b6 (row 113 (Vg e))::pts b5 (row 69 [.int .i64 k,.int .i64 g])::pts b3 (row 44 [pp c])::pts b4 (row 108 [.map (some bm)])::Qv c q::Qt q.ip q.sp q.bp::Qh q.bp s.lays::LB::Qf q.trp s.last s.par::mp (ki .i64) Qp q.mm (s.mns.map Qx)::star (s.mns.map Qy)::ZJ q.tp s.tab tq::rest)) (m:=e.ws.length+1) ⟨rfl,0,S,by omega,rfl,fun r v h => .inl (hS r v h),rfl,rfl,rfl,rfl,rfl,rfl,H⟩ ?_);clear H hS;rintro ms σ w z ⟨rfl,j,S,hj,rfl,hS,g3,g4,g5,g6,g73,g74,H⟩;rw[Q1 g3,Q1 g4,Q1 g5,Q1 g6,Q1 g73,Q1 g74];refine J7 H ?_;refine Qk rfl (fun h=>QB ?_) (fun h=>Qq ?_)
   ·have hjl:j < e.ws.length+1:=by omega
    have hnone:QY S ((e.addr+j:Nat):Int)=none:=by
     cases hf:QY S ((e.addr+j:Nat):Int) with
     | none=>rfl
     | some v=>
      rcases hS _ _ hf with ⟨k2,hk2,g2,e2,h1,h2,h3⟩|⟨_,h2⟩
      ·have:=hw.apart k2 k g2 g e2 e (fun h=>hkn (h▸hk2)) h1 hk;unfold QJ at this h3;omega
      ·omega
    refine KT H ?_;refine J1 H ?_;clear H;intro w H;refine Jl 0 [20,21,23] H ?_;refine Jf 1 ?_;refine Jl 2 [20,21,23] H ?_;refine Ja 3 ?_;have hw64:IntKind.i64.wrap ((e.addr:Int)+(j:Int))=((e.addr+j:Nat):Int):=by rw[Qb (by omega) (by omega)];omega
    have hmx:(if (1:Int) > ((s.size:Nat):Int) then (1:Int) else ((s.size:Nat):Int))=((s.size:Nat):Int):=by split <;> omega
    obtain⟨rr,hr1,hr2,_⟩:=hlies.2 ((e.addr+j) / s.size) (Nat.div_le_div_right (by omega)) (Nat.div_le_div_right (by omega));have hcl:=(List.getElem?_eq_some_iff.1 hr1).1;have hown:((s.own.getD ((e.addr+j) / s.size) 0:Nat):Int)=e.region:=by rw[getD_eq_getElem?_getD,hr1,Option.getD_some];exact hr2
    refine Ja 4 ?_;rw[hw64];refine Uq 5 [] (key:=((e.addr+j:Nat):Int)) H rfl (Q8.none rfl) rfl rfl VC (by kernel_rfl) ?_;rw[hnone];refine Ja 6 ?_;refine Ja 7 ?_;refine Jl 8 [] H ?_;refine Ja 9 ?_;refine Jf 10 ?_;refine Jl 11 [] H ?_;refine Jf 12 ?_;refine Jl 13 [] H ?_;refine Ja 14 ?_;refine Ja 15 ?_;rw[hw64];refine Jl 16 [] H ?_;refine Ja 17 ?_;refine Jf 18 ?_;refine Jl 19 [] H ?_;refine Jf 24 ?_;refine Jl 25 [] H ?_;refine Jo 20 H ?_;refine Jk rfl rfl (CB q.sp s.size mem s.own H) ?_;clear H;rintro v w ⟨rfl,H⟩;refine Jo 21 H ?_;refine DO rfl rfl rfl ?_;rw[hmx]
    refine GC (v := .int .i64 (((e.addr+j) / s.size:Nat):Int)) 22 rfl (Q8.of rfl rfl rfl) (by
     show (if IntKind.i64=IntKind.i64 then (if ((s.size:Nat):Int)=0 then none else some (Value.int IntKind.i64 (IntKind.i64.wrap (Int.tdiv ((e.addr+j:Nat):Int) ((s.size:Nat):Int))))) else none)=_;rw[if_pos rfl,if_neg (by omega),Ri (by omega)]) (by kernel_rfl) ?_
    refine Jo 23 H ?_;refine Jk rfl rfl (Hy q.sp s.size mem s.own ((e.addr+j) / s.size) H hcl) ?_;clear H;rintro v w ⟨rfl,H⟩;rw[hown];refine Ja 26 ?_;rw[show (e.region != e.region)=false from bne_self_eq_false _];refine Ja 27 ?_;refine Jx H ?_;refine V6 H ?_;refine Zl H ?_;refine WI H ?_;rw[hw64];refine AL H ?_;rw[show IntKind.i64.wrap (1+(k:Int))=((k+1:Nat):Int) by rw[Qb (by omega) (by omega)];omega];refine Q5 rfl (XW (ek:=ki .i64) (vv:=v1) (v:=((k+1:Nat):Int)) (key:=((e.addr+j:Nat):Int)) H rfl rfl rfl VC rfl ?_);clear H;intro w H;refine Uv H ?_
    exact⟨_,⟨rfl,j+1,_,hjl,rfl,(fun r v h=>by
     rw[U5] at h;split at h
     ·rename_i hr;exact .inr ⟨by omega,by omega⟩
     ·rcases hS r v h with h1|⟨h1,h2⟩
      ·exact .inl h1
      ·exact .inr ⟨h1,by omega⟩),rfl,rfl,rfl,rfl,rfl,Qc (by omega),H⟩,by omega⟩
   ·have hge:j=e.ws.length+1:=by omega
    subst hge
    have hS':Fm s S (ks++[k]):=by
     intro r v h
     rcases hS r v h with ⟨k2,hk2,h1⟩|⟨h1,h2⟩
     ·exact⟨k2,mem_append.2 (.inl hk2),h1⟩
     ·exact⟨k,by simp,g,e,hk,h1,by unfold QJ;omega⟩
    subst hLB;replace H:=Js [9,1,4,3,3,5,5,5,3,3,0,2] 2 H;exact⟨rfl,_,H,fun w H=>⟨rfl,hin _ _ _ _ hS' H.swap⟩⟩
  ·clear H;rintro v w H;obtain⟨S,hS,H⟩:=hout _ _ _ H;subst hL;replace H:=Js [1,11,3,6,6,6,3,9,9,9,3,3,6,6,6,4,4,2] 3 H;refine⟨_,H,fun w H=>?_⟩;replace H:=hTAB _ _ H;replace H:=Js [1,1,1,1,0,0,0,0,0,0,0,0,0,0,0,0,0] 0 H;replace H:=VR hw hm H;replace H:=Js [4,1,0,0,0,0,0] 0 H;exact⟨rfl,⟨D,rfl,H⟩,rfl,rfl,rfl⟩
 ·clear H;rintro ms σ w ⟨⟨D,rfl,H⟩,g0,g2,g3⟩;rw[Q1 g0,Q1 g2,Q1 g3];refine J5 H ?_;replace H:=Js [3,1,1,0,0,0,0] 0 H;obtain⟨mt,lc,oc,aL,cL,aO,cO,hmw,hm2,hm3,hm4,hm5,H⟩:=ZT H;replace H:=Js [1,0,4,0,0,0,0,0,0,0,0,0] 0 H;refine EN H ?_;refine Jc rfl rfl (IW mt m.P (by have:=hmw.P.2;omega) H) ?_;clear H;intro v w H;obtain⟨av,cv,rfl⟩:=QF H (QH _) (by decide);refine UN H ?_;replace H:=Js [8,0,0,0,0,0,0,0,0,0,0,0,0] 0 H;obtain⟨q2,mem2,_,hm2',H⟩:=Vv H;obtain⟨fu,hfu⟩:∃ fu:Nat→Nat,fu=fun r=>((Zy s.tab).filter fun i=>decide (KU s.tab i=r)).length:=⟨_,rfl⟩;obtain⟨fc,hfc⟩:∃ fc:Nat→Nat,fc=fun r=>((R3 s.own).filter fun c=>decide (s.own.getD c 0=r)).length:=⟨_,rfl⟩;have hU:((V0 m.P).map fu).sum=Zx s.tab - YH s.tab:=by rw[hfu,Pv];exact jG hw R
  have hCn:((V0 m.P).map fc).sum=(s.own.filter (· != 0)).length:=by rw[hfc,← Pw];exact jU hw R
  have hU63:((V0 m.P).map fu).sum≤63:=by rw[hU,Pv];exact Nat.le_trans (jX s) hw.slots.2
  have hC63:((V0 m.P).map fc).sum≤63:=by rw[hCn,← Pw];exact Nat.le_trans (S3 _) hw.own.2
  have hO63:(s.own.filter (· != 0)).length≤s.own.length:=length_filter_le _ _;have hOw:=hw.own.2;have hal:(V0 m.P).length≤64:=by rw[← Cn R];exact hw.par.1
  replace H:=Js [11,9,7,0,18,2,6,5,0,0,0,0,0,0,0,0,0,0,0,0,0,0,0] 0 H;refine J6 H ?_;refine Qo (fun ms σ w=>ms=[D]∧σ 0=pp p∧σ 2=pp b2∧σ 3=pp b3∧σ 11 = .int .i64 (((V0 m.P).map fu).sum:Nat)∧σ 12 = .int .i64 (((V0 m.P).map fc).sum:Nat)∧Q0 w (NL (.slice av (V0 m.P).length cv) (V0 m.P)::mp (ki .i64) Qp q2.mm (s.mns.map Qx)::mp (ki .i64) Qp q2.sm (s.sps.map VE)::Qv c q2::pts b3 (row 44 [pp c])::ST q2.sp s.size mem2 s.own::star (s.mns.map Qy)::star (s.sps.map (VJ q2.sp))::Qt q2.ip q2.sp q2.bp::Qh q2.bp s.lays::Qi q2.tp s.tab::Qf q2.trp s.last s.par::RS q2.rp s.rem::VS mt m.P::pts mo (row 58 [pp mt,.slice aL m.lays.length cL,.slice aO m.objs.length cO])::YQ p c mo (.slice a told.length cap)::QC 102 4 (.slice aL m.lays.length cL) (VD lc)::star (lc.map YG)::QC 77 1 (.slice aO m.objs.length cO) (oc.map fun x=>pp x.ptr)::star (oc.map Yp)::pts D (.deferred (some []))::VW (.slice a told.length cap) told::pts b2 (row 4 [.bool false])::fr)) ?_ ?_
  ·refine QP ?_;refine Ql (fun ms σ w z=>ms=[D]∧∃ i:Nat,i≤(V0 m.P).length∧z=(V0 m.P).length - i∧σ 0=pp p∧σ 2=pp b2∧σ 3=pp b3∧σ 11 = .int .i64 ((((V0 m.P).take i).map fu).sum:Nat)∧σ 12 = .int .i64 ((((V0 m.P).take i).map fc).sum:Nat)∧σ 121 = .slice av (V0 m.P).length cv∧σ 122 = .int .i64 (V0 m.P).length∧σ 123 = .int .i64 i∧Q0 w (NL (.slice av (V0 m.P).length cv) (V0 m.P)::mp (ki .i64) Qp q2.mm (s.mns.map Qx)::mp (ki .i64) Qp q2.sm (s.sps.map VE)::Qv c q2::pts b3 (row 44 [pp c])::ST q2.sp s.size mem2 s.own::star (s.mns.map Qy)::star (s.sps.map (VJ q2.sp))::Qt q2.ip q2.sp q2.bp::Qh q2.bp s.lays::Qi q2.tp s.tab::Qf q2.trp s.last s.par::RS q2.rp s.rem::VS mt m.P::pts mo (row 58 [pp mt,.slice aL m.lays.length cL,.slice aO m.objs.length cO])::YQ p c mo (.slice a told.length cap)::QC 102 4 (.slice aL m.lays.length cL) (VD lc)::star (lc.map YG)::QC 77 1 (.slice aO m.objs.length cO) (oc.map fun x=>pp x.ptr)::star (oc.map Yp)::pts D (.deferred (some []))::VW (.slice a told.length cap) told::pts b2 (row 4 [.bool false])::fr)) (m:=(V0 m.P).length) ⟨rfl,0,by omega,rfl,rfl,rfl,rfl,rfl,rfl,rfl,rfl,rfl,H⟩ ?_;clear H;rintro ms σ w z ⟨rfl,i,hi,rfl,g0,g2,g3,g11,g12,g121,g122,g123,H⟩;rw[Q1 g0,Q1 g2,Q1 g3,Q1 g11,Q1 g12,Q1 g121,Q1 g122,Q1 g123];refine J7 H ?_;refine Qk rfl (fun h=>QB ?_) (fun h=>Qq ?_)
   ·have hlt:i < (V0 m.P).length:=by omega
    have hn:=getElem?_eq_getElem hlt;generalize (V0 m.P)[i]=x at hn;have hsu:=Pz fu hn;have hsc:=Pz fc hn;obtain⟨y,hy1,hy2,hy3⟩:=FA.1 (mem_of_getElem? hn);have hpar:=(R.tree (x:Int) y).2 ⟨x,rfl,hy2,hy1,hy3⟩;obtain⟨bT,sT,rfl,H,hcl⟩:=V5 H (by omega);refine YW H ?_;refine Jd ?_;refine Q5 rfl (QR H rfl (G8 hn) rfl ?_);refine J0 H ?_;replace H:=hcl _ _ H;obtain⟨b2',hkM⟩:=X8 (l:=s.mns) (f:=fun x=>x.1) (g:=fun x=>x.2.1) (k:=(x:Int)) (by rw[hw.mkeys];exact mem_map.2 ⟨_,hpar,rfl⟩);obtain⟨⟨r1,b1,QL⟩,m1,m2,hmns,h11,h12⟩:=X7 hkM;have h11:r1=(x:Int):=h11;have h12:b1=b2':=h12;subst h11 h12;have hkM':QY (s.mns.map Qx) (x:Int)=some b1:=hkM;obtain⟨b3',hkS⟩:=X8 (l:=s.sps) (f:=fun x=>x.1) (g:=fun x=>x.2.1) (k:=(x:Int)) (by rw[hw.skeys];exact mem_map.2 ⟨_,hpar,rfl⟩);obtain⟨⟨r2,b0,SP⟩,p1,p2,hsps,h13,h14⟩:=X7 hkS;have h13:r2=(x:Int):=h13;have h14:b0=b3':=h14;subst h13 h14;have hkS':QY (s.sps.map VE) (x:Int)=some b0:=hkS;have hQ:QL.length=fu x:=by rw[hfu];exact congrArg List.length (jY hw (x:=((x:Int),b1,QL)) (by rw[hmns];simp))
    have hC:(QU SP.parts).length=fc x:=by rw[hfc];exact Px hw (x:=((x:Int),b0,SP)) (by rw[hsps];simp)
    obtain⟨hp1,hp2,hp3,hp4⟩:=jR hw (x:=((x:Int),b0,SP)) (by rw[hsps];simp);have hp1:SP.parts.length≤63:=hp1;have hp2:∀ y∈SP.parts,y.1+y.2≤63:=hp2;have hp3:(QU SP.parts).length≤63:=hp3;have hp4:∀ c∈QU SP.parts,c < s.own.length∧(s.own.getD c 0:Int)=(x:Int):=hp4;have hu1:=Py (V0 m.P) fu (i+1);have hc1':=Py (V0 m.P) fc (i+1);refine US H ?_;refine Q5 rfl (ZR (key:=(x:Int)) H rfl rfl VC rfl ?_);rw[hkM'];refine ES H ?_;refine Jv ?_;refine QT rfl rfl rfl (QR H rfl rfl rfl ?_);refine Bv H ?_;refine QT rfl rfl rfl (ZR (key:=(x:Int)) H rfl rfl VC rfl ?_);rw[hkS'];refine C6 H ?_;refine YY H ?_;refine XC H ?_;refine AP H ?_;refine Q5 rfl (ZR (key:=(x:Int)) H rfl rfl VC rfl ?_);rw[hkM'];replace H:=Js [6,0,0,0,0,0,0] 0 H;replace H:Q0 w (Qu b1 QL::star ((m1++m2).map Qy)::_):=(Q0.pick (R:=Qy) (x:=((x:Int),b1,QL)) hmns).1 H;refine Jc rfl rfl (bG b1 QL H) ?_;clear H;rintro v w ⟨rfl,H⟩;replace H:=(Q0.pick (R:=Qy) (x:=((x:Int),b1,QL)) hmns).2 H;refine Jv ?_;rw[show IntKind.i64.wrap (((((V0 m.P).take i).map fu).sum:Nat)+(QL.length:Int))=(((((V0 m.P).take (i+1)).map fu).sum:Nat):Int) by rw[Qb (by omega) (by omega)];omega];refine J0 H ?_;refine US H ?_;refine Q5 rfl (ZR (key:=(x:Int)) H rfl rfl VC rfl ?_);rw[hkS'];replace H:=Js [7,0,0,0,0,0,0,0] 0 H;replace H:Q0 w (Qn b0 q2.sp x SP::star ((p1++p2).map (VJ q2.sp))::_):=(Q0.pick (R:=VJ q2.sp) (x:=((x:Int),b0,SP)) hsps).1 H;refine Jc rfl rfl (Oh b0 q2.sp x SP (by omega) (fun y hy=>by have:=hp2 y hy;omega) (by omega) H) ?_;clear H;rintro v w ⟨ac,cc,rfl,H⟩;refine J0 H ?_;replace H:=Js [1,1,0] 0 H;replace H:=(Q0.pick (R:=VJ q2.sp) (x:=((x:Int),b0,SP)) hsps).2 H;replace H:=Js [1,7,0,0,0,0,0,0,0] 0 H;refine UV H ?_;obtain⟨X,hX,H⟩:=jA H;refine J6 H ?_;refine Qo (fun ms σ w=>ms=[D]∧σ 0=pp p∧σ 2=pp b2∧σ 3=pp b3∧σ 11 = .int .i64 ((((V0 m.P).take (i+1)).map fu).sum:Nat)∧σ 12 = .int .i64 ((((V0 m.P).take i).map fc).sum:Nat)∧σ 15 = .slice ac (QU SP.parts).length cc∧σ 121 = .slice (some ⟨bT,0,none⟩) (V0 m.P).length cv∧σ 122 = .int .i64 (V0 m.P).length∧σ 123 = .int .i64 i∧Q0 w X) ?_ ?_
    ·refine QP ?_;refine Ql (fun ms σ w z=>ms=[D]∧∃ j:Nat,j≤(QU SP.parts).length∧z=(QU SP.parts).length - j∧σ 0=pp p∧σ 2=pp b2∧σ 3=pp b3∧σ 11 = .int .i64 ((((V0 m.P).take (i+1)).map fu).sum:Nat)∧σ 12 = .int .i64 ((((V0 m.P).take i).map fc).sum:Nat)∧σ 14 = .int .i64 x∧σ 15 = .slice ac (QU SP.parts).length cc∧σ 121 = .slice (some ⟨bT,0,none⟩) (V0 m.P).length cv∧σ 122 = .int .i64 (V0 m.P).length∧σ 123 = .int .i64 i∧σ 159 = .slice ac (QU SP.parts).length cc∧σ 160 = .int .i64 (QU SP.parts).length∧σ 161 = .int .i64 j∧Q0 w X) (m:=(QU SP.parts).length) ⟨rfl,0,by omega,rfl,rfl,rfl,rfl,rfl,rfl,rfl,rfl,rfl,rfl,rfl,rfl,rfl,rfl,H⟩ ?_;clear H;rintro ms σ w z ⟨rfl,j,hj,rfl,g0,g2,g3,g11,g12,g14,g15,g121,g122,g123,g159,g160,g161,H⟩;rw[Q1 g0,Q1 g2,Q1 g3,Q1 g11,Q1 g12,Q1 g14,Q1 g15,Q1 g121,Q1 g122,Q1 g123,Q1 g159,Q1 g160,Q1 g161];refine J7 H ?_;refine Qk rfl (fun h=>QB ?_) (fun h=>Qq ?_)
     ·have hlt2:j < (QU SP.parts).length:=by omega
      have hn2:=getElem?_eq_getElem hlt2;obtain⟨hc1,hc2⟩:=hp4 _ (getElem_mem hlt2);generalize (QU SP.parts)[j]=ch at hn2 hc1 hc2;rw[hX] at H;obtain⟨bC,sC,rfl,H,hcl2⟩:=V5 H (by omega);refine YW H ?_;refine Jd ?_;refine Q5 rfl (QR H rfl (G8 hn2) rfl ?_);refine J0 H ?_;replace H:=hcl2 _ _ H;refine US H ?_;refine Jc rfl rfl (Hy q2.sp s.size mem2 s.own ch H.swap hc1) ?_;clear H;rintro v w ⟨rfl,H⟩;have H:=H.swap;rw[hc2];refine J3 H ?_;rw[show ((x:Int) != (x:Int))=false from bne_self_eq_false _];refine WD H ?_;exact⟨_,⟨rfl,j+1,hlt2,rfl,rfl,rfl,rfl,rfl,rfl,rfl,rfl,rfl,rfl,rfl,rfl,rfl,Qc (by omega),by rw[hX];exact H⟩,by omega⟩
     ·exact⟨rfl,rfl,rfl,rfl,rfl,rfl,rfl,rfl,rfl,rfl,rfl,H⟩
    clear H;rintro ms σ w ⟨rfl,g0,g2,g3,g11,g12,g15,g121,g122,g123,H⟩;rw[Q1 g0,Q1 g2,Q1 g3,Q1 g11,Q1 g12,Q1 g15,Q1 g121,Q1 g122,Q1 g123];rw[hX] at H;refine J9 H ?_;refine Be H ?_;rw[show IntKind.i64.wrap (((((V0 m.P).take i).map fc).sum:Nat)+((QU SP.parts).length:Int))=(((((V0 m.P).take (i+1)).map fc).sum:Nat):Int) by rw[Qb (by omega) (by omega)];omega];refine J0 H ?_;replace H:=Js [4,4,4,4,4,1,2,1] 1 H;refine J5 H ?_;exact⟨_,⟨rfl,i+1,hlt,rfl,rfl,rfl,rfl,rfl,rfl,rfl,rfl,Qc (by omega),H⟩,by omega⟩
   ·have hge:i=(V0 m.P).length:=by omega
    subst hge;rw[take_length];exact⟨rfl,rfl,rfl,rfl,rfl,rfl,rfl,H⟩
  clear H;rintro ms σ w ⟨rfl,g0,g2,g3,g11,g12,H⟩;rw[hU] at g11;rw[hCn] at g12;rw[Q1 g0,Q1 g2,Q1 g3,Q1 g11,Q1 g12];replace H:=Js [10,5,1,1,1,1,1,1,1,1,1,1,1,1,1,1,1,1,1,1,1,1] 1 H;refine J1 H ?_;clear H;intro w H;refine Ja 0 ?_;refine Jl 1 [] H ?_;refine Ja 2 ?_;refine Jf 3 ?_;refine Jl 4 [5] H ?_;refine Jo 5 H ?_;refine Jk rfl rfl (cN q2.tp s.tab H) ?_;clear H;rintro v w ⟨rfl,H⟩;generalize Zx s.tab - YH s.tab=N;refine Ja 6 ?_;rw[show ((N:Int) == (N:Int))=true from beq_self_eq_true _];refine Ja 7 ?_;refine Ja 8 ?_;refine Jl 9 [] H ?_;refine Ja 10 ?_;refine Jf 11 ?_;refine Jl 12 [13] H ?_;refine Jl 14 [] H ?_;refine Ja 15 ?_;refine Jf 16 ?_;refine Jl 17 [18] H ?_;refine Jo 13 H ?_;refine Jk rfl rfl (Hx q2.sp s.size mem2 s.own H.swap) ?_;clear H;rintro v w ⟨rfl,H⟩;refine Jo 18 H ?_;refine Jk rfl rfl (Mp q2.sp s.size mem2 s.own H) ?_;clear H;rintro v w ⟨rfl,H⟩;refine Ja 19 ?_;rw[show IntKind.i64.wrap ((s.own.length:Int) - ((s.own.length - (s.own.filter (· != 0)).length:Nat):Int))=(((s.own.filter (· != 0)).length:Nat):Int) by rw[Qb (by omega) (by omega)];omega];refine Ja 20 ?_;rw[show ((((s.own.filter (· != 0)).length:Nat):Int) == (((s.own.filter (· != 0)).length:Nat):Int))=true from beq_self_eq_true _];refine Ja 21 ?_;refine Ja 22 ?_;refine Jl 23 [] H ?_;refine Ja 24 ?_;refine Jf 25 ?_;refine Jl 26 [27] H ?_;refine Jl 28 [] H ?_;refine Ja 29 ?_;refine Jf 30 ?_;refine Jl 31 [32] H ?_;refine Jo 27 H ?_;refine A1 (ki .i64) Qp H rfl rfl ?_;refine Jo 32 H ?_;refine A1 (ki .i64) Qp H rfl rfl ?_;rw[jK hw];refine Ja 33 ?_;rw[show ((((s.sps.map VE).length:Nat):Int) == (((s.sps.map VE).length:Nat):Int))=true from beq_self_eq_true _];refine Ja 34 ?_;refine Ja 35 ?_;refine Ja 36 ?_;replace H:=Js [4,7,7,0,0,5,5,1,3,0,1,2,1,2,2,2,2,1,2,0,0,0] 0 H;replace H:=VR hw hm2' H;replace H:=Js [1,1,1,1,1,1,1,0,0,0,0,0] 0 H;replace H:=Yq hmw hm2 hm3 H;replace H:=Js [1,1,0,0,0,0,0] 0 H;replace H:=YK H;refine Jo 37 H ?_;refine Jk rfl rfl (j9 p s m told hI H) ?_;clear H;rintro v w ⟨rfl,H⟩;refine Ja 38 ?_;refine Jo 39 H ?_;refine UQ H ?_;clear H;intro w H;refine Jx H ?_;replace H:=Js [2,2,0] 1 H;exact Q3 (HI (ms:=[D]) _ (.inr rfl) (Q0.star.2 H) (fun w' H' => .cell1 H' rfl rfl .nil) fun w' H'=>⟨rfl,H'.drop⟩)
theorem jI [Q4] (z1 z2 z3:Int) (v:Value) (l:List YM) (hl:l.length*128≤140737488351232) {w:World} {fr:List Q2} [hT:YX 0 Lib.deBruijn64tab fr] (hr:Vu fr v l.length 12 (KZ l)) (hok:∀ x∈l,Wu fr x) (H:Q0 w fr) :
  Calls Tryz.prog 4 #[.agg #[.int .i64 z1,.int .i64 z2,.int .i64 z3],v] w (ret fun r w'=>r = .bool true∧Q0 w' fr):=by
 obtain⟨_,ad,cap,rfl,_⟩:=id hr;refine Q9 Tryz.func4 rfl (by kernel_rfl) ?_;refine J8 H ?_;clear H;intro b2 w H;refine J0 H ?_;refine G5 H ?_;refine Jc rfl rfl (Po H) ?_;clear H;rintro v w ⟨rfl,H⟩;refine Bd H ?_;refine QT rfl rfl rfl (V1 (a:=[]) (b:=[]) rfl rfl (call (iw _ l hl hr.there (fun x hx=>(hok x hx).there) H) ?_));clear H;rintro r w ⟨b,rfl,hb,H⟩;cases b with
 | true=>
  refine XJ H ?_;refine G5 H ?_;refine Jc rfl rfl (Po H) ?_;clear H;rintro v w ⟨rfl,H⟩;refine J0 H ?_;exact Q3 (Jy H.drop rfl fun w' H'=>⟨rfl,H'⟩)
 | false=>
  obtain⟨h60,h80⟩:=hb rfl;refine Y7 H ?_;refine AD H ?_;refine Jc rfl rfl (j5 z1 z2 z3 _ l h60 h80 hr.there (fun x hx=>(hok x hx).there) H) ?_;clear H;rintro r w ⟨p,s,m,told,rfl,J,H⟩;refine Zs H ?_;refine J9 H ?_;refine Ym H ?_;refine QT rfl rfl rfl (V1 (a:=[]) (b:=[]) rfl rfl (call (jH p s m told J.R.w J.I H) ?_));clear H;rintro v w ⟨rfl,H⟩;refine J3 H ?_;exact Q3 (Jy H.drop.drop rfl fun w' H'=>⟨rfl,H'⟩)
end Go.Proofs.YtmjdnljneifpcaaGreatDoor
set_option linter.constructorNameAsVariable false
set_option maxRecDepth 100000
namespace Go.Proofs.YtmjdnljneifpcaaGreatDoor
open List
open Go.SL Go.ChangeShapes Go.WideShapes Go.ChangeAt Go.RowKit Go.Deep
def L6 (W:World) (y:Ac):Prop:=y.X < 18446744073709551616∧(∀ z∈y.ws,z < 18446744073709551616)∧∃ (ad:Option Addr) (cap:Nat),y.vW = .slice ad y.ws.length cap∧(y.ws=[]∨∃ b o E fz c,ad=some ⟨b,o,none⟩∧W.heap[b]? = some (.cells (List.toArray c) E fz)∧QV c o (y.ws.length*1) (Qa y.ws))
def D9 (W:World) (y:YM):Prop:=L6 W y.a∧∃ (ad:Option Addr) (cap:Nat),y.vL = .slice ad y.L.length cap∧(y.L=[]∨∃ b o E fz c,ad=some ⟨b,o,none⟩∧W.heap[b]? = some (.cells (List.toArray c) E fz)∧QV c o (y.L.length*1) (Qg y.L))
section
variable {H:Type} {enc:TypeId×Value→H} {W:World} {n:Nat} {sp:Nat→Bool} {held:Bool} {base:Nat}
theorem L7 {z:Int} (h:(Lit.int .u64 z).wf=true):∃ k:Nat,z=k∧k < 18446744073709551616:=by
 have h':(decide (IntKind.u64.min≤z) && decide (z≤IntKind.u64.max))=true:=h;rw[Bool.and_eq_true,decide_eq_true_eq,decide_eq_true_eq] at h';have h1:(0:Int)≤z:=h'.1;have h2:z≤18446744073709551615:=h'.2;exact⟨z.toNat,by omega,by omega⟩
theorem jJ {v:Value} {x:DataW H×List MemPlace} (h:DataW.trod enc Tryz.prog W base sp held n 74 [v]=some x) :
  ∃ (ad:Option Addr) (cap:Nat) (ws:List Nat),v = .slice ad ws.length cap∧(∀ z∈ws,z < 18446744073709551616)∧(ws=[]∨∃ b o E fz c,ad=some ⟨b,o,none⟩∧W.heap[b]? = some (.cells (List.toArray c) E fz)∧QV c o (ws.length*1) (Qa ws)):=by
 rcases open_ints Tryz.underlying74 Tryz.underlying83 (by kernel_rfl) h with ⟨h1,_⟩|⟨a,len,cap,zs,h1,_,hl,_,hlen,_,hc,hw⟩
 ·injection h1 with h1 _
  exact⟨none,0,[],h1,by simp,.inl rfl⟩
 ·injection h1 with h1 _
  have hle:len≤zs.length:=by rw[hlen];split <;> omega
  refine⟨some a,cap,(zs.take len).map Int.toNat,?_,?_,?_⟩
  ·rw[h1];congr 1;simp;omega
  ·intro z hz;obtain⟨y,hy,rfl⟩:=mem_map.1 hz;obtain⟨k,rfl,hk⟩:=L7 (hw y (mem_of_mem_take hy));exact hk
  ·rcases Nat.eq_zero_or_pos len with rfl|hpos
   ·left;simp
   ·right;have h00:=hc 0 (by omega);obtain⟨b,o,s⟩:=a
    have hs:s=none∧∃ c E fz,W.heap[b]? = some (.cells c E fz):=by
     unfold World.cell? Addr.add at h00;simp only[Nat.add_zero,if_true] at h00;split at h00
     ·rename_i c E fz hh;refine⟨?_,c,E,fz,hh⟩;cases s with
      | none=>rfl
      | some s=>simp at h00
     ·cases h00
    obtain⟨rfl,c,E,fz,hh⟩:=hs;refine⟨b,o,E,fz,c.toList,rfl,by simpa using hh,?_⟩;have hul:(Qa ((zs.take len).map Int.toNat)).length=((zs.take len).map Int.toNat).length*1:=Z4 _;rw[← hul];refine QV.of_get fun j v hj=>?_
    have hjl:j < len:=by
     have:=(List.getElem?_eq_some_iff.1 hj).1;rw[hul] at this;simp at this;omega
    have h2:=hc j (by omega);rw[ZK] at h2;unfold World.cell? at h2;simp only[hh] at h2;have hz:=getElem?_eq_getElem (l:=zs) (i:=j) (by omega);obtain⟨k,hk,_⟩:=L7 (hw zs[j] (getElem_mem _))
    have hv:v = .int .u64 (zs.getD j 0):=by
     unfold Qa at hj;rw[getElem?_map,getElem?_map,getElem?_take_of_lt hjl,hz] at hj;simp only[Option.map_some] at hj;injection hj with hj
     rw[← hj,getD_eq_getElem?_getD,hz];show Value.int .u64 ((zs[j].toNat:Nat):Int) = .int .u64 zs[j];rw[hk];rfl
    rw[hv];simpa using h2
theorem jL {v:Value} {x:DataW H×List MemPlace} (h:DataW.trod enc Tryz.prog W base sp held n 31 [v]=some x) :
  ∃ (ad:Option Addr) (cap:Nat) (ws:List Int),v = .slice ad ws.length cap∧(ws=[]∨∃ b o E fz c,ad=some ⟨b,o,none⟩∧W.heap[b]? = some (.cells (List.toArray c) E fz)∧QV c o (ws.length*1) (Qg ws)):=by
 rcases open_ints Tryz.underlying31 Tryz.underlying3 (by kernel_rfl) h with ⟨h1,_⟩|⟨a,len,cap,zs,h1,_,hl,_,hlen,_,hc,hw⟩
 ·injection h1 with h1 _
  exact⟨none,0,[],h1,.inl rfl⟩
 ·injection h1 with h1 _
  have hle:len≤zs.length:=by rw[hlen];split <;> omega
  refine⟨some a,cap,zs.take len,?_,?_⟩
  ·rw[h1];congr 1;simp;omega
  ·rcases Nat.eq_zero_or_pos len with rfl|hpos
   ·left;simp
   ·right;have h00:=hc 0 (by omega);obtain⟨b,o,s⟩:=a
    have hs:s=none∧∃ c E fz,W.heap[b]? = some (.cells c E fz):=by
     unfold World.cell? Addr.add at h00;simp only[Nat.add_zero,if_true] at h00;split at h00
     ·rename_i c E fz hh;refine⟨?_,c,E,fz,hh⟩;cases s with
      | none=>rfl
      | some s=>simp at h00
     ·cases h00
    obtain⟨rfl,c,E,fz,hh⟩:=hs;refine⟨b,o,E,fz,c.toList,rfl,by simpa using hh,?_⟩;have hul:(Qg (zs.take len)).length=(zs.take len).length*1:=Vn _;rw[← hul];refine QV.of_get fun j v hj=>?_
    have hjl:j < len:=by
     have:=(List.getElem?_eq_some_iff.1 hj).1;rw[hul] at this;simp at this;omega
    have h2:=hc j (by omega);rw[ZK] at h2;unfold World.cell? at h2;simp only[hh] at h2;have hz:=getElem?_eq_getElem (l:=zs) (i:=j) (by omega)
    have hv:v = .int .i64 (zs.getD j 0):=by
     unfold Qg at hj;rw[getElem?_map,getElem?_take_of_lt hjl,hz] at hj;simp only[Option.map_some] at hj;injection hj with hj
     rw[← hj,getD_eq_getElem?_getD,hz];rfl
    rw[hv];simpa using h2
theorem Vc {α:Type} {l:List α} {n:Nat} (h:l.length=n+1):∃ a t,l=a::t∧t.length=n:=by
 cases l with
 | nil=>cases h
 | cons a t=>exact⟨a,t,rfl,by simpa using h⟩
theorem jM {cs:List Value} {x:DataW H×List MemPlace} (h:DataW.trod enc Tryz.prog W base sp held n 93 cs=some x):∃ r:Ac,cs=Xd r∧L6 W r:=by
 obtain⟨xs,k,rfl,hx,hl,hlen,hf⟩:=DataW.trod_struct Tryz.underlying93 h;have hl2:cs.length=9:=hl.trans (by kernel_rfl);obtain⟨c0,ct0,rfl,hct0⟩:=Vc hl2;obtain⟨c1,ct1,rfl,hct1⟩:=Vc hct0;obtain⟨c2,ct2,rfl,hct2⟩:=Vc hct1;obtain⟨c3,ct3,rfl,hct3⟩:=Vc hct2;obtain⟨c4,ct4,rfl,hct4⟩:=Vc hct3;obtain⟨c5,ct5,rfl,hct5⟩:=Vc hct4;obtain⟨c6,ct6,rfl,hct6⟩:=Vc hct5;obtain⟨c7,ct7,rfl,hct7⟩:=Vc hct6;obtain⟨c8,ct8,rfl,hct8⟩:=Vc hct7;obtain rfl:=length_eq_zero_iff.1 hct8;obtain⟨y0,yt0,rfl,hyt0⟩:=Vc hlen;obtain⟨y1,yt1,rfl,hyt1⟩:=Vc hyt0;obtain⟨y2,yt2,rfl,hyt2⟩:=Vc hyt1;obtain⟨y3,yt3,rfl,hyt3⟩:=Vc hyt2;obtain⟨y4,yt4,rfl,hyt4⟩:=Vc hyt3;obtain⟨y5,yt5,rfl,hyt5⟩:=Vc hyt4;obtain⟨y6,yt6,rfl,hyt6⟩:=Vc hyt5;obtain⟨y7,yt7,rfl,hyt7⟩:=Vc hyt6;obtain rfl:=length_eq_zero_iff.1 hyt7;have h0:=hf 0 _ rfl;have h1:=hf 1 _ rfl;have h2:=hf 2 _ rfl;have h3:=hf 3 _ rfl;have h4:=hf 4 _ rfl;have h5:=hf 5 _ rfl;have h6:=hf 6 _ rfl;have h7:=hf 7 _ rfl;obtain⟨z0,e0,_⟩:=DataW.trod_int Tryz.underlying3 h0;obtain⟨z1,e1,_⟩:=DataW.trod_int Tryz.underlying3 h1;obtain⟨z2,e2,_⟩:=DataW.trod_int Tryz.underlying3 h2;obtain⟨z3,e3,_⟩:=DataW.trod_int Tryz.underlying3 h3;obtain⟨z4,e4,_,w4⟩:=DataW.trod_int Tryz.underlying83 h4;obtain⟨ad,cap,ws,e5,hws,hr⟩:=jJ (v:=c5) h5;obtain⟨z6,e6,_⟩:=DataW.trod_bool Tryz.underlying4 h6;obtain⟨xs7,k7,_,_,hl7,hlen7,hf7⟩:=DataW.trod_struct Tryz.underlying69 h7;obtain⟨x70,xt70,rfl,hxt70⟩:=Vc hlen7;obtain⟨x71,xt71,rfl,hxt71⟩:=Vc hxt70;obtain rfl:=length_eq_zero_iff.1 hxt71;have h70:=hf7 0 _ rfl;have h71:=hf7 1 _ rfl;obtain⟨z7,e7,_⟩:=DataW.trod_int Tryz.underlying3 h70;obtain⟨z8,e8,_⟩:=DataW.trod_int Tryz.underlying3 h71;obtain⟨X,rfl,hX⟩:=L7 w4;refine⟨⟨z0,z1,z2,z3,X,c5,ws,z6,z7,z8⟩,?_,hX,hws,ad,cap,e5,hr⟩;have e0:[c0]=[.int .i64 z0]:=e0;have e1:[c1]=[.int .i64 z1]:=e1;have e2:[c2]=[.int .i64 z2]:=e2;have e3:[c3]=[.int .i64 z3]:=e3;have e4:[c4]=[.int .u64 X]:=e4;have e6:[c6]=[.bool z6]:=e6;have e7:[c7]=[.int .i64 z7]:=e7;have e8:[c8]=[.int .i64 z8]:=e8;simp only[List.cons.injEq,and_true] at e0 e1 e2 e3 e4 e6 e7 e8;rw[e0,e1,e2,e3,e4,e6,e7,e8];rfl
theorem jN {cs:List Value} {x:DataW H×List MemPlace} (h:DataW.trod enc Tryz.prog W base sp held n 95 cs=some x):∃ r:YM,cs=Zn r∧D9 W r:=by
 obtain⟨xs,k,rfl,hx,hl,hlen,hf⟩:=DataW.trod_struct Tryz.underlying95 h;have hl2:cs.length=12:=hl.trans (by kernel_rfl);obtain⟨c0,ct0,rfl,hct0⟩:=Vc hl2;obtain⟨c1,ct1,rfl,hct1⟩:=Vc hct0;obtain⟨c2,ct2,rfl,hct2⟩:=Vc hct1;obtain⟨c3,ct3,rfl,hct3⟩:=Vc hct2;obtain⟨c4,ct4,rfl,hct4⟩:=Vc hct3;obtain⟨c5,ct5,rfl,hct5⟩:=Vc hct4;obtain⟨c6,ct6,rfl,hct6⟩:=Vc hct5;obtain⟨c7,ct7,rfl,hct7⟩:=Vc hct6;obtain⟨c8,ct8,rfl,hct8⟩:=Vc hct7;obtain⟨c9,ct9,rfl,hct9⟩:=Vc hct8;obtain⟨c10,ct10,rfl,hct10⟩:=Vc hct9;obtain⟨c11,ct11,rfl,hct11⟩:=Vc hct10;obtain rfl:=length_eq_zero_iff.1 hct11;obtain⟨y0,yt0,rfl,hyt0⟩:=Vc hlen;obtain⟨y1,yt1,rfl,hyt1⟩:=Vc hyt0;obtain⟨y2,yt2,rfl,hyt2⟩:=Vc hyt1;obtain⟨y3,yt3,rfl,hyt3⟩:=Vc hyt2;obtain rfl:=length_eq_zero_iff.1 hyt3;have h0:=hf 0 _ rfl;have h1:=hf 1 _ rfl;have h2:=hf 2 _ rfl;have h3:=hf 3 _ rfl;obtain⟨z0,e0,_⟩:=DataW.trod_int Tryz.underlying3 h0;obtain⟨q,e1,hq⟩:=jM (cs:=[c1,c2,c3,c4,c5,c6,c7,c8,c9]) h1;obtain⟨z2,e2,_⟩:=DataW.trod_int Tryz.underlying3 h2;obtain⟨ad,cap,ws,e3,hr⟩:=jL (v:=c11) h3;refine⟨⟨z0,q,z2,c11,ws⟩,?_,hq,ad,cap,e3,hr⟩;have e0:[c0]=[.int .i64 z0]:=e0;have e2:[c10]=[.int .i64 z2]:=e2;simp only[List.cons.injEq,and_true] at e0 e2;rw[e0,e2];show Value.int .i64 z0::([c1,c2,c3,c4,c5,c6,c7,c8,c9]++[.int .i64 z2,c11])=_;rw[e1];rfl
instance:Inhabited YM:=⟨⟨0,⟨0,0,0,0,0,.slice none 0 0,[],false,0,0⟩,0,.slice none 0 0,[]⟩⟩
theorem jO {v:Value} {d:DataW H} {ps:List MemPlace} {r:Reach} {b0:Nat} (hv:Value.okWide Tryz.prog W r b0 24 v) (h:DataW.Trod enc Tryz.prog W 0 (fun _=>true) true 24 v d ps) :
  ∃ (ad:Option Addr) (cap:Nat) (l:List YM),v = .slice ad l.length cap∧l.length≤maxLen∧(∀ x∈l,D9 W x)∧(l=[]∨∃ el sp,d = .slice el sp∧el.length=l.length)∧(l=[]∨∃ b o E fz c,ad=some ⟨b,o,none⟩∧W.heap[b]? = some (.cells (List.toArray c) E fz)∧∀ (i:Nat) (a:YM),l[i]? = some a→QV c (o+i*12) 12 (Zn a)):=by
 obtain⟨a,len,cap,rfl⟩:=okWide_slice Tryz.underlying24 hv;obtain⟨fuel,hf⟩:=h
 rcases open_slice Tryz.underlying24 hf with ⟨h1,_⟩|⟨a',len',cap',m,n,D,Pl,h1,hb,hl,hm,hmm,hx,hel⟩
 ·have h1:[Value.slice a len cap]=[.slice none 0 0]:=h1;simp at h1;obtain⟨rfl,rfl,rfl⟩:=h1;exact⟨none,0,[],rfl,Nat.zero_le _,(fun x hx=>by cases hx),.inl rfl,.inl rfl⟩
 ·have h1:[Value.slice a len cap]=[.slice (some a') len' cap']:=h1;simp at h1;obtain⟨rfl,rfl,rfl⟩:=h1;have hce:Tryz.prog.cellsOf 95=12:=by kernel_rfl
  have each:∀ i,i < len→∃ q:YM,D9 W q∧∀ (j:Nat) x,(Zn q)[j]? = some x→W.cell? (a'.add (i*12+j))=some x:=by
   intro i hi;obtain⟨cs',h2,h3⟩:=hel i (by rw[hmm];simp;omega);obtain⟨q,rfl,hq⟩:=jN h3;rw[hce] at h2;obtain⟨_,hlen,hcell⟩:=World.cells?_some h2;refine⟨q,hq,fun j x hj=>?_⟩;have:=hcell j (by have:=(List.getElem?_eq_some_iff.1 hj).1;exact this);rw[add_add] at this;rw[this,hj]
  obtain⟨q,hq⟩:=choose_lt each;have hll:((List.range len).map q).length=len:=by simp
  have hall:∀ x∈(List.range len).map q,D9 W x:=by
   intro x hx;obtain⟨i,hi,rfl⟩:=mem_map.1 hx;exact(hq i (mem_range.1 hi)).1
  rcases Nat.eq_zero_or_pos len with rfl|hpos
  ·exact⟨some a',cap,[],rfl,Nat.zero_le _,(fun x hx=>by cases hx),.inl rfl,.inl rfl⟩
  ·have h00:=(hq 0 hpos).2 0 _ rfl;obtain⟨b,o,s⟩:=a'
   have hs:s=none∧∃ c E fz,W.heap[b]? = some (.cells c E fz):=by
    unfold World.cell? Addr.add at h00;simp only[Nat.zero_mul,Nat.add_zero,if_true] at h00;split at h00
    ·rename_i c E fz hh;refine⟨?_,c,E,fz,hh⟩;cases s with
     | none=>rfl
     | some s=>simp at h00
    ·cases h00
   obtain⟨rfl,c,E,fz,hh⟩:=hs;refine⟨some ⟨b,o,none⟩,cap,(List.range len).map q,by rw[hll],by rw[hll];omega,hall,.inr ⟨_,_,(Prod.mk.inj hx).1,by rw[hll,length_map,length_range]⟩,.inr ⟨b,o,E,fz,c.toList,rfl,by simpa using hh,?_⟩⟩;intro i a hia;have hi:i < len:=by have:=(List.getElem?_eq_some_iff.1 hia).1;simpa using this
   have e:q i=a:=by simpa [hi] using hia
   subst e;refine QV.of_get (vs:=Zn (q i)) fun j x hj=>?_;have:=(hq i hi).2 j x hj;rw[ZK] at this;unfold World.cell? at this;simp only[hh] at this;simpa [Nat.add_assoc] using this
theorem jP {cs:List Value} {x:DataW H×List MemPlace} (h:DataW.trod enc Tryz.prog W base sp held n 23 cs=some x):∃ z1 z2 z3:Int,cs=[.int .i64 z1,.int .i64 z2,.int .i64 z3]:=by
 obtain⟨xs,k,rfl,hx,hl,hlen,hf⟩:=DataW.trod_struct Tryz.underlying23 h;have hl2:cs.length=3:=hl.trans (by kernel_rfl);obtain⟨c0,ct0,rfl,g0⟩:=Vc hl2;obtain⟨c1,ct1,rfl,g1⟩:=Vc g0;obtain⟨c2,ct2,rfl,g2⟩:=Vc g1;obtain rfl:=length_eq_zero_iff.1 g2;obtain⟨y0,yt0,rfl,k0⟩:=Vc hlen;obtain⟨y1,yt1,rfl,k1⟩:=Vc k0;obtain⟨y2,yt2,rfl,k2⟩:=Vc k1;have h0:=hf 0 _ rfl;have h1:=hf 1 _ rfl;have h2:=hf 2 _ rfl;obtain⟨z0,e0,_⟩:=DataW.trod_int Tryz.underlying3 h0;obtain⟨z1,e1,_⟩:=DataW.trod_int Tryz.underlying3 h1;obtain⟨z2,e2,_⟩:=DataW.trod_int Tryz.underlying3 h2;refine⟨z0,z1,z2,?_⟩;have e0:[c0]=[.int .i64 z0]:=e0;have e1:[c1]=[.int .i64 z1]:=e1;have e2:[c2]=[.int .i64 z2]:=e2;simp only[List.cons.injEq,and_true] at e0 e1 e2;rw[e0,e1,e2]
theorem jS {v:Value} {d:DataW H} {ps:List MemPlace} {r:Reach} {b0:Nat} (hv:Value.okWide Tryz.prog W r b0 23 v) (h:DataW.Trod enc Tryz.prog W 0 (fun _=>true) true 23 v d ps):∃ z1 z2 z3:Int,v = .agg #[.int .i64 z1,.int .i64 z2,.int .i64 z3]:=by
 obtain⟨cs,rfl,hsz⟩:=okWide_struct Tryz.underlying23 hv;obtain⟨fuel,hf⟩:=h;obtain⟨z1,z2,z3,hx⟩:=jP hf;refine⟨z1,z2,z3,?_⟩;have:cs.toList=[.int .i64 z1,.int .i64 z2,.int .i64 z3]:=hx;rw[← Array.toArray_toList (xs:=cs),this]
end
theorem S4 {c:List Value}:∀ {l:List YM} {o:Nat},(∀ i a,l[i]? = some a→QV c (o+i*12) 12 (Zn a))→QV c o (l.length*12) (KZ l)
 | [],o,_ => .nil o
 | t::l,o,h=>by
  have h0:=h 0 t rfl
  have ih:=S4 (l:=l) (o:=o+12) fun i u hu=>by
   have:=h (i+1) u (by simpa using hu);rw[show o+12+i*12=o+(i+1)*12 by omega];exact this
  rw[length_cons,Nat.succ_mul];show QV c o (l.length*12+12) (Zn t++KZ l);have h0:QV c o 12 (Zn t):=by simpa using h0
  unfold Zn at h0 ⊢;obtain _|⟨g0,h0⟩:=h0;obtain _|⟨g1,h0⟩:=h0;obtain _|⟨g2,h0⟩:=h0;obtain _|⟨g3,h0⟩:=h0;obtain _|⟨g4,h0⟩:=h0;obtain _|⟨g5,h0⟩:=h0;obtain _|⟨g6,h0⟩:=h0;obtain _|⟨g7,h0⟩:=h0;obtain _|⟨g8,h0⟩:=h0;obtain _|⟨g9,h0⟩:=h0;obtain _|⟨g10,h0⟩:=h0;obtain _|⟨g11,h0⟩:=h0;exact .cons g0 (.cons g1 (.cons g2 (.cons g3 (.cons g4 (.cons g5 (.cons g6 (.cons g7 (.cons g8 (.cons g9 (.cons g10 (.cons g11 ih)))))))))))
theorem jT {W:World} {ad:Option Addr} {cap:Nat} {l:List YM} (h:l=[]∨∃ b o E fz c,ad=some ⟨b,o,none⟩∧W.heap[b]? = some (.cells (List.toArray c) E fz)∧∀ (i:Nat) (a:YM),l[i]? = some a→QV c (o+i*12) 12 (Zn a)) (fr:List Q2):Vu (old W::fr) (.slice ad l.length cap) l.length 12 (KZ l):=by
 refine⟨iq l,ad,cap,rfl,?_⟩
 rcases h with rfl|⟨b,o,E,fz,c,rfl,hb,hr⟩
 ·exact .inl rfl
 ·haveI:DX W b (.cells (List.toArray c) E fz):=⟨hb⟩;exact .inr ⟨b,o,E,fz,c,rfl,inferInstance,S4 hr⟩
theorem ja {W:World} {x:Ac} (h:L6 W x) (fr:List Q2):FH (old W::fr) x:=by
 obtain⟨h1,h2,ad,cap,h3,h4⟩:=h;refine⟨h1,h2,Z4 _,ad,cap,h3,?_⟩
 rcases h4 with h4|⟨b,o,E,fz,c,rfl,hb,hr⟩
 ·left;rw[h4];rfl
 ·haveI:DX W b (.cells (List.toArray c) E fz):=⟨hb⟩;exact .inr ⟨b,o,E,fz,c,rfl,inferInstance,hr⟩
theorem jb {W:World} {x:YM} (h:D9 W x) (fr:List Q2):Wu (old W::fr) x:=by
 obtain⟨h1,ad,cap,h3,h4⟩:=h;refine⟨ja h1 fr,Vn _,ad,cap,h3,?_⟩
 rcases h4 with h4|⟨b,o,E,fz,c,rfl,hb,hr⟩
 ·left;rw[h4];rfl
 ·haveI:DX W b (.cells (List.toArray c) E fz):=⟨hb⟩;exact .inr ⟨b,o,E,fz,c,rfl,inferInstance,hr⟩
theorem own0:ownKnob Tryz.prog.godebug=none:=by kernel_rfl
theorem jc:laidOutB Tryz.prog=true:=by kernel_rfl
theorem jd {W:World} (h:laidMetH Tryz.prog Rows.joinActsRow.laid W):DP 0 Lib.deBruijn64tab W∧0 < W.heap.size:=by
 have h':laidMet Tryz.prog [("math/bits.deBruijn64tab",Lib.tabData .u8 (Lib.deBruijn64tab.map fun n:Nat=>(n:Int)))] W:=h;have ht:=Lib.tabIs_of_head (P:=Tryz.prog) (g:=0) (t:=329) (n:=64) (by kernel_rfl) (by kernel_rfl) Tryz.underlying329 (by kernel_rfl) (by kernel_rfl) (by kernel_rfl) h'
 have hc:DP 0 Lib.deBruijn64tab W:=by
  intro j hj;have:=ht.cell (g:=0) (by kernel_rfl) j (by simpa using hj);rw[this];congr 2;rw[getD_eq_getElem?_getD,getD_eq_getElem?_getD,getElem?_map];cases Lib.deBruijn64tab[j]? <;> rfl
 refine⟨hc,?_⟩;have h0:=hc 0 (by decide);unfold World.cell? at h0;refine Nat.pos_of_ne_zero fun hz=>?_;rw[Array.getElem?_eq_none (by omega)] at h0;cases h0
def je:DataW Unit→List Value
 | .agg l=>l.map fun
  | .lit (.int k z)=>Value.int k z
  | _ => .nilFunc
 | _=>[]
def jf (w:World) (g:Nat) (d:DataW Unit):World:={ w with heap:=w.heap.modify g fun
  | .cells _ t frozen => .cells (je d).toArray t frozen
  | o=>o }
noncomputable def S5 (os:Os):World:=jf (World.holding Tryz.prog os ⟨#[],#[],[]⟩) 0 Rows.laid_math_bits_deBruijn64tab
theorem jg (os:Os) (args:Array Value):laidMetH Tryz.prog Rows.joinActsRow.laid ((S5 os).forCall (fun _ _=>0) ⟨#[],args,[]⟩).memory:=by
 show laidMet Tryz.prog Rows.joinActsRow.laid _;exact(LaidIn.of_run [0] 8 (by kernel_rfl) (by kernel_rfl) (by kernel_rfl) (by kernel_rfl)).met
end Go.Proofs.YtmjdnljneifpcaaGreatDoor
