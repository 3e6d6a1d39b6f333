/- Cells: what is proved on the way: every input of the statement; no condition. Texts joined: FreW OpnC. -/
import Derived.Test.YtmjdnljneifpcaaGreatDoorBdd
import Derived.Test.YtmjdnljneifpcaaGreatDoorBdq
import Derived.Test.YtmjdnljneifpcaaGreatDoorRows
import Derived.Lib.SmallJoins
import Derived.Lib.LaidIn
import Derived.Stop.LaidErr
import Derived.Stop.Joined
import Derived.ChangeMaps5
import Derived.ChangeSlices
set_option linter.unusedVariables false
set_option linter.unusedSimpArgs false
set_option linter.unusedSectionVars false
namespace Go.Proofs.YtmjdnljneifpcaaGreatDoor
open Go.SL
theorem gd [Q4] (p:Nat) (m:List (Rf×Int)) {w:World} {fr:List Q2} (H:Q0 w (RS p m::fr)) :
  Calls Tryz.prog 18 #[pp p] w (ret fun v w'=>v = .int .i64 m.length∧Q0 w' (RS p m::fr)):=by
 refine QQ Tryz.func18 rfl (by kernel_rfl) ?_;obtain⟨bt,bo,bf,H⟩:=WG H;refine K7 H ?_;refine Q5 rfl (Wf kp v1 H rfl rfl ?_);refine J0 H ?_;exact Q3 (Jy (KC bt bo bf (fun _ _=>Iff.rfl) (fun _ _=>Iff.rfl) H) rfl fun w' H'=>⟨rfl,H'⟩)
set_option maxRecDepth 10000 in
theorem gf [Q4] (z1 z2 z3:Int) (v:Value) (l:List YA) (hl:l.length*128≤140737488351232) {w:World} {fr:List Q2} [hT:YN 0 Lib.deBruijn64tab fr] (hr:Vm fr v l.length 12 (Xv l)) (hok:∀ x∈l,WP fr x) (H:Q0 w fr) :
  Calls Tryz.prog 5 #[.agg #[.int .i64 z1,.int .i64 z2,.int .i64 z3],v] w (ret fun r w'=>r = .bool true∧Q0 w' fr):=by
 obtain⟨_,ad,cap,rfl,_⟩:=id hr;refine QQ Tryz.func5 rfl (by kernel_rfl) ?_;refine J6 H ?_;clear H;intro b2 w H;refine J0 H ?_;refine GZ H ?_;refine Jc rfl rfl (P2 H) ?_;clear H;rintro v w ⟨rfl,H⟩;refine BQ H ?_;refine Qe rfl rfl rfl (V2 (a:=[]) (b:=[]) rfl rfl (call (gO _ l hl hr.there (fun x hx=>(hok x hx).there) H) ?_));clear H;rintro r w ⟨b,rfl,hb,H⟩;cases b with
 | true=>
  refine X4 H ?_;refine GZ H ?_;refine Jc rfl rfl (P2 H) ?_;clear H;rintro v w ⟨rfl,H⟩;refine J0 H ?_;exact Q3 (Jy H.drop rfl fun w' H'=>⟨rfl,H'⟩)
 | false=>
  obtain⟨h60,h80⟩:=hb rfl;refine Y0 H ?_;refine A2 H ?_;refine Jc rfl rfl (gb z1 z2 z3 _ l h60 h80 hr.there (fun x hx=>(hok x hx).there) H) ?_;clear H;rintro r w ⟨p,s,m,told,rfl,J,H⟩;refine Zh H ?_
  repeat refine Q7 ?_
  refine QG ?_;refine Jv ?_;refine Q5 rfl (Gc rfl rfl (.inl rfl) rfl ?_);refine Q6 ?_
  repeat refine Q7 ?_
  refine VU rfl (QW ?_);obtain⟨c,mo,a,capT,H⟩:=Er H;obtain⟨q,mem,hw,hm,H⟩:=Vs H.swap;have hpl:=hw.par.1;have hO:=J.O;have hlen:=J.R.len;replace H:=Js [5,0,0,0,0,0] 0 H;refine E6 H ?_;refine Jc rfl rfl (Mh q.trp s.last s.par 0 (.inl rfl) (by omega) H) ?_;clear H;rintro v w ⟨u,K,rfl,hK,_,H⟩;obtain⟨au,cu,rfl⟩:=QD H (Vc K) (by decide);refine Zu H ?_;replace H:=Js [2,2,2,2,2,1,1,1,1,1,1,0] 0 H;replace H:=VG hw hm H;replace H:=Js [1,1,0] 3 H;refine Gy H ?_;have hF0:=XB.start J (by omega) hK;have hKn:=XB.nd J.T.nd hK
  have hKl:K.length≤64:=by
   have h1:=hK.length_eq;have h2:=List.length_filter_le (Zm s.par 0) (s.par.map (·.1));rw[List.length_map] at h2;omega
  refine GV H ?_;refine Qj (fun ms σ w n=>ms=[]∧∃ (i:Nat) (s':CS),i≤K.length∧n=K.length - i∧XB K i s'∧σ 5=pp p∧σ 42 = .slice au K.length cu∧σ 43 = .int .i64 K.length∧σ 44 = .int .i64 i∧Q0 w (IL (.slice au K.length cu) K::Y6 p c mo (.slice a told.length capT)::QR c s'::fr)) (m:=K.length) ⟨rfl,0,s,by omega,rfl,hF0,rfl,rfl,rfl,rfl,H⟩ ?_;clear H;rintro ms σ w n' ⟨rfl,i,s2,hi,rfl,hF,g5,g42,g43,g44,H⟩;rw[Q1 g5,Q1 g42,Q1 g43,Q1 g44];refine J7 H ?_;refine Qf rfl (fun h=>QW ?_) (fun h=>Qp ?_)
  ·have hlt:i < K.length:=by omega
   have hx:=List.getElem?_eq_getElem hlt;generalize K[i]=x at hx;have hlive:=hF.yet i x (Nat.le_refl _) hx;obtain⟨bT,sT,rfl,H,hcl⟩:=Qx H (by omega);refine YY H ?_;refine Jd ?_;refine Q5 rfl (QA H rfl (by simpa using U5 hx) rfl ?_);refine J0 H ?_;replace H:=hcl _ _ H;replace H:=Js [2,0,0] 0 H;refine J9 H ?_;refine Jc rfl rfl (IS c s2 x hF.T (by rw[hlive];rfl) hF.I hF.G H) ?_;clear H;rintro v w ⟨u2,L,s3,rfl,hL1,hL2,hL3,hL4,hS,H⟩;refine W0 H ?_;refine Uc rfl rfl ?_;refine Yi H ?_;refine J4 H ?_;replace H:=Js [2,2,1] 1 H;exact⟨_,⟨rfl,i+1,s3,hlt,rfl,hF.step hKn hx hL3 hS,rfl,rfl,rfl,Qb (by omega),H⟩,by omega⟩
  ·have hge:i=K.length:=by omega
   subst hge;have hp:=hF.nil;replace H:=Js [2,1] 1 H;obtain⟨q2,mem2,hw2,hm2,H⟩:=Vs H;obtain⟨l1,l2,l3,l4,l5⟩:=gc hw2 hF.I hp;have hfree:s2.own.length - (s2.own.filter (· != 0)).length=s2.own.length:=by rw[l2];rfl
   replace H:=Js [3,3,4,3,3,4,0,0,0,0,0,0] 0 H;refine Ya H ?_;refine Y1 H ?_;refine Kn H mixed ?_;clear H;intro w H;refine YT H ?_;refine Jl 3 [4] H ?_;refine Ww H ?_;refine Jl 8 [9] H ?_;refine Jo 4 H ?_;refine Jk rfl rfl (M5 q2.sp s2.size mem2 s2.own H) ?_;clear H;rintro v w ⟨rfl,H⟩;rw[hfree];refine Jo 9 H ?_;refine Jk rfl rfl (HR q2.sp s2.size mem2 s2.own H) ?_;clear H;rintro v w ⟨rfl,H⟩;refine Ja 10 ?_;rw[show (((s2.own.length:Nat):Int) == ((s2.own.length:Nat):Int))=true from beq_self_eq_true _];refine Ja 11 ?_;replace H:=Js [1,0,0,0,0,0,0,0,0,0,0,0] 0 H;refine Xc H ?_;refine Jf 14 ?_;refine Jl 15 [16] H ?_;refine Jo 16 H ?_;refine Jk rfl rfl (aF q2.tp s2.tab H) ?_;clear H;rintro v w ⟨rfl,H⟩;rw[l1];refine Ja 17 ?_;rw[show (((0:Nat):Int) == 0)=true from rfl];refine Ja 18 ?_;refine Ja 19 ?_;replace H:=Js [2,0,0,0,0,0,0,0,0,0,0,0] 0 H;refine Ja 20 ?_;refine Ja 21 ?_;refine Jf 22 ?_;refine Jl 23 [24] H ?_;refine Jo 24 H ?_;refine Jk rfl rfl (gd q2.rp s2.rem H) ?_;clear H;rintro v w ⟨rfl,H⟩;rw[l3,List.length_nil];refine Ja 25 ?_;rw[show (((0:Nat):Int) == 0)=true from rfl];refine Ja 26 ?_;refine Ja 27 ?_;replace H:=Js [3,0,0,0,0,0,0,0,0,0,0,0] 0 H;refine Ja 28 ?_;refine Ja 29 ?_;refine Jf 30 ?_;refine Jl 31 [32] H ?_;refine Jo 32 H ?_;refine Jk rfl rfl (MC q2.trp s2.last s2.par H) ?_;clear H;rintro v w ⟨rfl,H⟩;rw[hp,List.length_nil];refine Ja 33 ?_;rw[show (((0:Nat):Int) == 0)=true from rfl];refine Ja 34 ?_;refine Ja 35 ?_;replace H:=Js [4,0,0,0,0,0,0,0,0,0,0,0] 0 H;refine Ja 36 ?_;refine Ja 37 ?_;refine Jf 38 ?_;refine Jl 39 [40] H ?_;refine Jo 40 H ?_;refine Wf (ki .i64) Qr H rfl rfl ?_;rw[l4,List.length_nil];refine Ja 41 ?_;rw[show (((0:Nat):Int) == 0)=true from rfl];refine Ja 42 ?_;refine Ja 43 ?_;replace H:=Js [5,0,0,0,0,0,0,0,0,0,0,0] 0 H;refine Ja 44 ?_;refine Ja 45 ?_;refine Jf 46 ?_;refine Jl 47 [48] H ?_;refine Jo 48 H ?_;refine Wf (ki .i64) Qr H rfl rfl ?_;rw[l5,List.length_nil];refine Ja 49 ?_;rw[show (((0:Nat):Int) == 0)=true from rfl];refine Ja 50 ?_;refine Ja 51 ?_;refine Jx H ?_;exact Q3 (Jy H.drop.drop.drop.drop.drop.drop.drop.drop.drop.drop.drop.drop rfl fun w' H'=>⟨rfl,H'⟩)
end Go.Proofs.YtmjdnljneifpcaaGreatDoor
set_option linter.constructorNameAsVariable false
set_option maxRecDepth 100000
namespace Go.Proofs.YtmjdnljneifpcaaGreatDoor
open Go.SL Go.ChangeShapes Go.WideShapes Go.ChangeAt Go.RowKit Go.Deep
def Io (W:World) (y:Ac):Prop:=y.X < 18446744073709551616∧(∀ z∈y.ws,z < 18446744073709551616)∧∃ (ad:Option Addr) (cap:Nat),y.vW = .slice ad y.ws.length cap∧(y.ws=[]∨∃ b o E fz c,ad=some ⟨b,o,none⟩∧W.heap[b]? = some (.cells (List.toArray c) E fz)∧QY c o (y.ws.length*1) (QP y.ws))
def Cf (W:World) (y:YA):Prop:=Io W y.a∧∃ (ad:Option Addr) (cap:Nat),y.vL = .slice ad y.L.length cap∧(y.L=[]∨∃ b o E fz c,ad=some ⟨b,o,none⟩∧W.heap[b]? = some (.cells (List.toArray c) E fz)∧QY c o (y.L.length*1) (Qc y.L))
section
variable {H:Type} {enc:TypeId×Value→H} {W:World} {n:Nat} {sp:Nat→Bool} {held:Bool} {base:Nat}
theorem Ip {z:Int} (h:(Lit.int .u64 z).wf=true):∃ k:Nat,z=k∧k < 18446744073709551616:=by
 have h':(decide (IntKind.u64.min≤z) && decide (z≤IntKind.u64.max))=true:=h;rw[Bool.and_eq_true,decide_eq_true_eq,decide_eq_true_eq] at h';have h1:(0:Int)≤z:=h'.1;have h2:z≤18446744073709551615:=h'.2;exact⟨z.toNat,by omega,by omega⟩
theorem gh {v:Value} {x:DataW H×List MemPlace} (h:DataW.trod enc Tryz.prog W base sp held n 74 [v]=some x) :
  ∃ (ad:Option Addr) (cap:Nat) (ws:List Nat),v = .slice ad ws.length cap∧(∀ z∈ws,z < 18446744073709551616)∧(ws=[]∨∃ b o E fz c,ad=some ⟨b,o,none⟩∧W.heap[b]? = some (.cells (List.toArray c) E fz)∧QY c o (ws.length*1) (QP ws)):=by
 rcases open_ints Tryz.underlying74 Tryz.underlying83 (by kernel_rfl) h with ⟨h1,_⟩|⟨a,len,cap,zs,h1,_,hl,_,hlen,_,hc,hw⟩
 ·injection h1 with h1 _
  exact⟨none,0,[],h1,by simp,.inl rfl⟩
 ·injection h1 with h1 _
  have hle:len≤zs.length:=by rw[hlen];split <;> omega
  refine⟨some a,cap,(zs.take len).map Int.toNat,?_,?_,?_⟩
  ·rw[h1];congr 1;simp;omega
  ·intro z hz;obtain⟨y,hy,rfl⟩:=List.mem_map.1 hz;obtain⟨k,rfl,hk⟩:=Ip (hw y (List.mem_of_mem_take hy));exact hk
  ·rcases Nat.eq_zero_or_pos len with rfl|hpos
   ·left;simp
   ·right;have h00:=hc 0 (by omega);obtain⟨b,o,s⟩:=a
    have hs:s=none∧∃ c E fz,W.heap[b]? = some (.cells c E fz):=by
     unfold World.cell? Addr.add at h00;simp only[Nat.add_zero,if_true] at h00;split at h00
     ·rename_i c E fz hh;refine⟨?_,c,E,fz,hh⟩;cases s with
      | none=>rfl
      | some s=>simp at h00
     ·cases h00
    obtain⟨rfl,c,E,fz,hh⟩:=hs;refine⟨b,o,E,fz,c.toList,rfl,by simpa using hh,?_⟩;have hul:(QP ((zs.take len).map Int.toNat)).length=((zs.take len).map Int.toNat).length*1:=Yw _;rw[← hul];refine QY.of_get fun j v hj=>?_
    have hjl:j < len:=by
     have:=(List.getElem?_eq_some_iff.1 hj).1;rw[hul] at this;simp at this;omega
    have h2:=hc j (by omega);rw[Z8] at h2;unfold World.cell? at h2;simp only[hh] at h2;have hz:=List.getElem?_eq_getElem (l:=zs) (i:=j) (by omega);obtain⟨k,hk,_⟩:=Ip (hw zs[j] (List.getElem_mem _))
    have hv:v = .int .u64 (zs.getD j 0):=by
     unfold QP at hj;rw[List.getElem?_map,List.getElem?_map,List.getElem?_take_of_lt hjl,hz] at hj;simp only[Option.map_some] at hj;injection hj with hj
     rw[← hj,List.getD_eq_getElem?_getD,hz];show Value.int .u64 ((zs[j].toNat:Nat):Int) = .int .u64 zs[j];rw[hk];rfl
    rw[hv];simpa using h2
theorem gj {v:Value} {x:DataW H×List MemPlace} (h:DataW.trod enc Tryz.prog W base sp held n 31 [v]=some x) :
  ∃ (ad:Option Addr) (cap:Nat) (ws:List Int),v = .slice ad ws.length cap∧(ws=[]∨∃ b o E fz c,ad=some ⟨b,o,none⟩∧W.heap[b]? = some (.cells (List.toArray c) E fz)∧QY c o (ws.length*1) (Qc ws)):=by
 rcases open_ints Tryz.underlying31 Tryz.underlying3 (by kernel_rfl) h with ⟨h1,_⟩|⟨a,len,cap,zs,h1,_,hl,_,hlen,_,hc,hw⟩
 ·injection h1 with h1 _
  exact⟨none,0,[],h1,.inl rfl⟩
 ·injection h1 with h1 _
  have hle:len≤zs.length:=by rw[hlen];split <;> omega
  refine⟨some a,cap,zs.take len,?_,?_⟩
  ·rw[h1];congr 1;simp;omega
  ·rcases Nat.eq_zero_or_pos len with rfl|hpos
   ·left;simp
   ·right;have h00:=hc 0 (by omega);obtain⟨b,o,s⟩:=a
    have hs:s=none∧∃ c E fz,W.heap[b]? = some (.cells c E fz):=by
     unfold World.cell? Addr.add at h00;simp only[Nat.add_zero,if_true] at h00;split at h00
     ·rename_i c E fz hh;refine⟨?_,c,E,fz,hh⟩;cases s with
      | none=>rfl
      | some s=>simp at h00
     ·cases h00
    obtain⟨rfl,c,E,fz,hh⟩:=hs;refine⟨b,o,E,fz,c.toList,rfl,by simpa using hh,?_⟩;have hul:(Qc (zs.take len)).length=(zs.take len).length*1:=Vc _;rw[← hul];refine QY.of_get fun j v hj=>?_
    have hjl:j < len:=by
     have:=(List.getElem?_eq_some_iff.1 hj).1;rw[hul] at this;simp at this;omega
    have h2:=hc j (by omega);rw[Z8] at h2;unfold World.cell? at h2;simp only[hh] at h2;have hz:=List.getElem?_eq_getElem (l:=zs) (i:=j) (by omega)
    have hv:v = .int .i64 (zs.getD j 0):=by
     unfold Qc at hj;rw[List.getElem?_map,List.getElem?_take_of_lt hjl,hz] at hj;simp only[Option.map_some] at hj;injection hj with hj
     rw[← hj,List.getD_eq_getElem?_getD,hz];rfl
    rw[hv];simpa using h2
theorem VL {α:Type} {l:List α} {n:Nat} (h:l.length=n+1):∃ a t,l=a::t∧t.length=n:=by
 cases l with
 | nil=>cases h
 | cons a t=>exact⟨a,t,rfl,by simpa using h⟩
theorem gk {cs:List Value} {x:DataW H×List MemPlace} (h:DataW.trod enc Tryz.prog W base sp held n 93 cs=some x):∃ r:Ac,cs=XU r∧Io W r:=by
 obtain⟨xs,k,rfl,hx,hl,hlen,hf⟩:=DataW.trod_struct Tryz.underlying93 h;have hl2:cs.length=9:=hl.trans (by kernel_rfl);obtain⟨c0,ct0,rfl,hct0⟩:=VL hl2;obtain⟨c1,ct1,rfl,hct1⟩:=VL hct0;obtain⟨c2,ct2,rfl,hct2⟩:=VL hct1;obtain⟨c3,ct3,rfl,hct3⟩:=VL hct2;obtain⟨c4,ct4,rfl,hct4⟩:=VL hct3;obtain⟨c5,ct5,rfl,hct5⟩:=VL hct4;obtain⟨c6,ct6,rfl,hct6⟩:=VL hct5;obtain⟨c7,ct7,rfl,hct7⟩:=VL hct6;obtain⟨c8,ct8,rfl,hct8⟩:=VL hct7;obtain rfl:=List.length_eq_zero_iff.1 hct8;obtain⟨y0,yt0,rfl,hyt0⟩:=VL hlen;obtain⟨y1,yt1,rfl,hyt1⟩:=VL hyt0;obtain⟨y2,yt2,rfl,hyt2⟩:=VL hyt1;obtain⟨y3,yt3,rfl,hyt3⟩:=VL hyt2;obtain⟨y4,yt4,rfl,hyt4⟩:=VL hyt3;obtain⟨y5,yt5,rfl,hyt5⟩:=VL hyt4;obtain⟨y6,yt6,rfl,hyt6⟩:=VL hyt5;obtain⟨y7,yt7,rfl,hyt7⟩:=VL hyt6;obtain rfl:=List.length_eq_zero_iff.1 hyt7;have h0:=hf 0 _ rfl;have h1:=hf 1 _ rfl;have h2:=hf 2 _ rfl;have h3:=hf 3 _ rfl;have h4:=hf 4 _ rfl;have h5:=hf 5 _ rfl;have h6:=hf 6 _ rfl;have h7:=hf 7 _ rfl;obtain⟨z0,e0,_⟩:=DataW.trod_int Tryz.underlying3 h0;obtain⟨z1,e1,_⟩:=DataW.trod_int Tryz.underlying3 h1;obtain⟨z2,e2,_⟩:=DataW.trod_int Tryz.underlying3 h2;obtain⟨z3,e3,_⟩:=DataW.trod_int Tryz.underlying3 h3;obtain⟨z4,e4,_,w4⟩:=DataW.trod_int Tryz.underlying83 h4;obtain⟨ad,cap,ws,e5,hws,hr⟩:=gh (v:=c5) h5;obtain⟨z6,e6,_⟩:=DataW.trod_bool Tryz.underlying4 h6;obtain⟨xs7,k7,_,_,hl7,hlen7,hf7⟩:=DataW.trod_struct Tryz.underlying69 h7;obtain⟨x70,xt70,rfl,hxt70⟩:=VL hlen7;obtain⟨x71,xt71,rfl,hxt71⟩:=VL hxt70;obtain rfl:=List.length_eq_zero_iff.1 hxt71;have h70:=hf7 0 _ rfl;have h71:=hf7 1 _ rfl;obtain⟨z7,e7,_⟩:=DataW.trod_int Tryz.underlying3 h70;obtain⟨z8,e8,_⟩:=DataW.trod_int Tryz.underlying3 h71;obtain⟨X,rfl,hX⟩:=Ip w4;refine⟨⟨z0,z1,z2,z3,X,c5,ws,z6,z7,z8⟩,?_,hX,hws,ad,cap,e5,hr⟩;have e0:[c0]=[.int .i64 z0]:=e0;have e1:[c1]=[.int .i64 z1]:=e1;have e2:[c2]=[.int .i64 z2]:=e2;have e3:[c3]=[.int .i64 z3]:=e3;have e4:[c4]=[.int .u64 X]:=e4;have e6:[c6]=[.bool z6]:=e6;have e7:[c7]=[.int .i64 z7]:=e7;have e8:[c8]=[.int .i64 z8]:=e8;simp only[List.cons.injEq,and_true] at e0 e1 e2 e3 e4 e6 e7 e8;rw[e0,e1,e2,e3,e4,e6,e7,e8];rfl
theorem gl {cs:List Value} {x:DataW H×List MemPlace} (h:DataW.trod enc Tryz.prog W base sp held n 95 cs=some x):∃ r:YA,cs=Ze r∧Cf W r:=by
 obtain⟨xs,k,rfl,hx,hl,hlen,hf⟩:=DataW.trod_struct Tryz.underlying95 h;have hl2:cs.length=12:=hl.trans (by kernel_rfl);obtain⟨c0,ct0,rfl,hct0⟩:=VL hl2;obtain⟨c1,ct1,rfl,hct1⟩:=VL hct0;obtain⟨c2,ct2,rfl,hct2⟩:=VL hct1;obtain⟨c3,ct3,rfl,hct3⟩:=VL hct2;obtain⟨c4,ct4,rfl,hct4⟩:=VL hct3;obtain⟨c5,ct5,rfl,hct5⟩:=VL hct4;obtain⟨c6,ct6,rfl,hct6⟩:=VL hct5;obtain⟨c7,ct7,rfl,hct7⟩:=VL hct6;obtain⟨c8,ct8,rfl,hct8⟩:=VL hct7;obtain⟨c9,ct9,rfl,hct9⟩:=VL hct8;obtain⟨c10,ct10,rfl,hct10⟩:=VL hct9;obtain⟨c11,ct11,rfl,hct11⟩:=VL hct10;obtain rfl:=List.length_eq_zero_iff.1 hct11;obtain⟨y0,yt0,rfl,hyt0⟩:=VL hlen;obtain⟨y1,yt1,rfl,hyt1⟩:=VL hyt0;obtain⟨y2,yt2,rfl,hyt2⟩:=VL hyt1;obtain⟨y3,yt3,rfl,hyt3⟩:=VL hyt2;obtain rfl:=List.length_eq_zero_iff.1 hyt3;have h0:=hf 0 _ rfl;have h1:=hf 1 _ rfl;have h2:=hf 2 _ rfl;have h3:=hf 3 _ rfl;obtain⟨z0,e0,_⟩:=DataW.trod_int Tryz.underlying3 h0;obtain⟨q,e1,hq⟩:=gk (cs:=[c1,c2,c3,c4,c5,c6,c7,c8,c9]) h1;obtain⟨z2,e2,_⟩:=DataW.trod_int Tryz.underlying3 h2;obtain⟨ad,cap,ws,e3,hr⟩:=gj (v:=c11) h3;refine⟨⟨z0,q,z2,c11,ws⟩,?_,hq,ad,cap,e3,hr⟩;have e0:[c0]=[.int .i64 z0]:=e0;have e2:[c10]=[.int .i64 z2]:=e2;simp only[List.cons.injEq,and_true] at e0 e2;rw[e0,e2];show Value.int .i64 z0::([c1,c2,c3,c4,c5,c6,c7,c8,c9]++[.int .i64 z2,c11])=_;rw[e1];rfl
instance:Inhabited YA:=⟨⟨0,⟨0,0,0,0,0,.slice none 0 0,[],false,0,0⟩,0,.slice none 0 0,[]⟩⟩
theorem gm {v:Value} {d:DataW H} {ps:List MemPlace} {r:Reach} {b0:Nat} (hv:Value.okWide Tryz.prog W r b0 24 v) (h:DataW.Trod enc Tryz.prog W 0 (fun _=>true) true 24 v d ps) :
  ∃ (ad:Option Addr) (cap:Nat) (l:List YA),v = .slice ad l.length cap∧l.length≤maxLen∧(∀ x∈l,Cf W x)∧(l=[]∨∃ el sp,d = .slice el sp∧el.length=l.length)∧(l=[]∨∃ b o E fz c,ad=some ⟨b,o,none⟩∧W.heap[b]? = some (.cells (List.toArray c) E fz)∧∀ (i:Nat) (a:YA),l[i]? = some a→QY c (o+i*12) 12 (Ze a)):=by
 obtain⟨a,len,cap,rfl⟩:=okWide_slice Tryz.underlying24 hv;obtain⟨fuel,hf⟩:=h
 rcases open_slice Tryz.underlying24 hf with ⟨h1,_⟩|⟨a',len',cap',m,n,D,Pl,h1,hb,hl,hm,hmm,hx,hel⟩
 ·have h1:[Value.slice a len cap]=[.slice none 0 0]:=h1;simp at h1;obtain⟨rfl,rfl,rfl⟩:=h1;exact⟨none,0,[],rfl,Nat.zero_le _,(fun x hx=>by cases hx),.inl rfl,.inl rfl⟩
 ·have h1:[Value.slice a len cap]=[.slice (some a') len' cap']:=h1;simp at h1;obtain⟨rfl,rfl,rfl⟩:=h1;have hce:Tryz.prog.cellsOf 95=12:=by kernel_rfl
  have each:∀ i,i < len→∃ q:YA,Cf W q∧∀ (j:Nat) x,(Ze q)[j]? = some x→W.cell? (a'.add (i*12+j))=some x:=by
   intro i hi;obtain⟨cs',h2,h3⟩:=hel i (by rw[hmm];simp;omega);obtain⟨q,rfl,hq⟩:=gl h3;rw[hce] at h2;obtain⟨_,hlen,hcell⟩:=World.cells?_some h2;refine⟨q,hq,fun j x hj=>?_⟩;have:=hcell j (by have:=(List.getElem?_eq_some_iff.1 hj).1;exact this);rw[add_add] at this;rw[this,hj]
  obtain⟨q,hq⟩:=choose_lt each;have hll:((List.range len).map q).length=len:=by simp
  have hall:∀ x∈(List.range len).map q,Cf W x:=by
   intro x hx;obtain⟨i,hi,rfl⟩:=List.mem_map.1 hx;exact(hq i (List.mem_range.1 hi)).1
  rcases Nat.eq_zero_or_pos len with rfl|hpos
  ·exact⟨some a',cap,[],rfl,Nat.zero_le _,(fun x hx=>by cases hx),.inl rfl,.inl rfl⟩
  ·have h00:=(hq 0 hpos).2 0 _ rfl;obtain⟨b,o,s⟩:=a'
   have hs:s=none∧∃ c E fz,W.heap[b]? = some (.cells c E fz):=by
    unfold World.cell? Addr.add at h00;simp only[Nat.zero_mul,Nat.add_zero,if_true] at h00;split at h00
    ·rename_i c E fz hh;refine⟨?_,c,E,fz,hh⟩;cases s with
     | none=>rfl
     | some s=>simp at h00
    ·cases h00
   obtain⟨rfl,c,E,fz,hh⟩:=hs;refine⟨some ⟨b,o,none⟩,cap,(List.range len).map q,by rw[hll],by rw[hll];omega,hall,.inr ⟨_,_,(Prod.mk.inj hx).1,by rw[hll,List.length_map,List.length_range]⟩,.inr ⟨b,o,E,fz,c.toList,rfl,by simpa using hh,?_⟩⟩;intro i a hia;have hi:i < len:=by have:=(List.getElem?_eq_some_iff.1 hia).1;simpa using this
   have e:q i=a:=by simpa [hi] using hia
   subst e;refine QY.of_get (vs:=Ze (q i)) fun j x hj=>?_;have:=(hq i hi).2 j x hj;rw[Z8] at this;unfold World.cell? at this;simp only[hh] at this;simpa [Nat.add_assoc] using this
theorem gn {cs:List Value} {x:DataW H×List MemPlace} (h:DataW.trod enc Tryz.prog W base sp held n 23 cs=some x):∃ z1 z2 z3:Int,cs=[.int .i64 z1,.int .i64 z2,.int .i64 z3]:=by
 obtain⟨xs,k,rfl,hx,hl,hlen,hf⟩:=DataW.trod_struct Tryz.underlying23 h;have hl2:cs.length=3:=hl.trans (by kernel_rfl);obtain⟨c0,ct0,rfl,g0⟩:=VL hl2;obtain⟨c1,ct1,rfl,g1⟩:=VL g0;obtain⟨c2,ct2,rfl,g2⟩:=VL g1;obtain rfl:=List.length_eq_zero_iff.1 g2;obtain⟨y0,yt0,rfl,k0⟩:=VL hlen;obtain⟨y1,yt1,rfl,k1⟩:=VL k0;obtain⟨y2,yt2,rfl,k2⟩:=VL k1;have h0:=hf 0 _ rfl;have h1:=hf 1 _ rfl;have h2:=hf 2 _ rfl;obtain⟨z0,e0,_⟩:=DataW.trod_int Tryz.underlying3 h0;obtain⟨z1,e1,_⟩:=DataW.trod_int Tryz.underlying3 h1;obtain⟨z2,e2,_⟩:=DataW.trod_int Tryz.underlying3 h2;refine⟨z0,z1,z2,?_⟩;have e0:[c0]=[.int .i64 z0]:=e0;have e1:[c1]=[.int .i64 z1]:=e1;have e2:[c2]=[.int .i64 z2]:=e2;simp only[List.cons.injEq,and_true] at e0 e1 e2;rw[e0,e1,e2]
theorem gp {v:Value} {d:DataW H} {ps:List MemPlace} {r:Reach} {b0:Nat} (hv:Value.okWide Tryz.prog W r b0 23 v) (h:DataW.Trod enc Tryz.prog W 0 (fun _=>true) true 23 v d ps):∃ z1 z2 z3:Int,v = .agg #[.int .i64 z1,.int .i64 z2,.int .i64 z3]:=by
 obtain⟨cs,rfl,hsz⟩:=okWide_struct Tryz.underlying23 hv;obtain⟨fuel,hf⟩:=h;obtain⟨z1,z2,z3,hx⟩:=gn hf;refine⟨z1,z2,z3,?_⟩;have:cs.toList=[.int .i64 z1,.int .i64 z2,.int .i64 z3]:=hx;rw[← Array.toArray_toList (xs:=cs),this]
end
theorem P4 {c:List Value}:∀ {l:List YA} {o:Nat},(∀ i a,l[i]? = some a→QY c (o+i*12) 12 (Ze a))→QY c o (l.length*12) (Xv l)
 | [],o,_ => .nil o
 | t::l,o,h=>by
  have h0:=h 0 t rfl
  have ih:=P4 (l:=l) (o:=o+12) fun i u hu=>by
   have:=h (i+1) u (by simpa using hu);rw[show o+12+i*12=o+(i+1)*12 by omega];exact this
  rw[List.length_cons,Nat.succ_mul];show QY c o (l.length*12+12) (Ze t++Xv l);have h0:QY c o 12 (Ze t):=by simpa using h0
  unfold Ze at h0 ⊢;obtain _|⟨g0,h0⟩:=h0;obtain _|⟨g1,h0⟩:=h0;obtain _|⟨g2,h0⟩:=h0;obtain _|⟨g3,h0⟩:=h0;obtain _|⟨g4,h0⟩:=h0;obtain _|⟨g5,h0⟩:=h0;obtain _|⟨g6,h0⟩:=h0;obtain _|⟨g7,h0⟩:=h0;obtain _|⟨g8,h0⟩:=h0;obtain _|⟨g9,h0⟩:=h0;obtain _|⟨g10,h0⟩:=h0;obtain _|⟨g11,h0⟩:=h0;exact .cons g0 (.cons g1 (.cons g2 (.cons g3 (.cons g4 (.cons g5 (.cons g6 (.cons g7 (.cons g8 (.cons g9 (.cons g10 (.cons g11 ih)))))))))))
theorem gr {W:World} {ad:Option Addr} {cap:Nat} {l:List YA} (h:l=[]∨∃ b o E fz c,ad=some ⟨b,o,none⟩∧W.heap[b]? = some (.cells (List.toArray c) E fz)∧∀ (i:Nat) (a:YA),l[i]? = some a→QY c (o+i*12) 12 (Ze a)) (fr:List Q2):Vm (old W::fr) (.slice ad l.length cap) l.length 12 (Xv l):=by
 refine⟨gJ l,ad,cap,rfl,?_⟩
 rcases h with rfl|⟨b,o,E,fz,c,rfl,hb,hr⟩
 ·exact .inl rfl
 ·haveI:Cm W b (.cells (List.toArray c) E fz):=⟨hb⟩;exact .inr ⟨b,o,E,fz,c,rfl,inferInstance,P4 hr⟩
theorem gu {W:World} {x:Ac} (h:Io W x) (fr:List Q2):Eu (old W::fr) x:=by
 obtain⟨h1,h2,ad,cap,h3,h4⟩:=h;refine⟨h1,h2,Yw _,ad,cap,h3,?_⟩
 rcases h4 with h4|⟨b,o,E,fz,c,rfl,hb,hr⟩
 ·left;rw[h4];rfl
 ·haveI:Cm W b (.cells (List.toArray c) E fz):=⟨hb⟩;exact .inr ⟨b,o,E,fz,c,rfl,inferInstance,hr⟩
theorem gw {W:World} {x:YA} (h:Cf W x) (fr:List Q2):WP (old W::fr) x:=by
 obtain⟨h1,ad,cap,h3,h4⟩:=h;refine⟨gu h1 fr,Vc _,ad,cap,h3,?_⟩
 rcases h4 with h4|⟨b,o,E,fz,c,rfl,hb,hr⟩
 ·left;rw[h4];rfl
 ·haveI:Cm W b (.cells (List.toArray c) E fz):=⟨hb⟩;exact .inr ⟨b,o,E,fz,c,rfl,inferInstance,hr⟩
theorem own0:ownKnob Tryz.prog.godebug=none:=by kernel_rfl
theorem gz:laidOutB Tryz.prog=true:=by kernel_rfl
theorem hY {W:World} (h:laidMetH Tryz.prog Rows.joinActsRow.laid W):D3 0 Lib.deBruijn64tab W∧0 < W.heap.size:=by
 have h':laidMet Tryz.prog [("math/bits.deBruijn64tab",Lib.tabData .u8 (Lib.deBruijn64tab.map fun n:Nat=>(n:Int)))] W:=h;have ht:=Lib.tabIs_of_head (P:=Tryz.prog) (g:=0) (t:=329) (n:=64) (by kernel_rfl) (by kernel_rfl) Tryz.underlying329 (by kernel_rfl) (by kernel_rfl) (by kernel_rfl) h'
 have hc:D3 0 Lib.deBruijn64tab W:=by
  intro j hj;have:=ht.cell (g:=0) (by kernel_rfl) j (by simpa using hj);rw[this];congr 2;rw[List.getD_eq_getElem?_getD,List.getD_eq_getElem?_getD,List.getElem?_map];cases Lib.deBruijn64tab[j]? <;> rfl
 refine⟨hc,?_⟩;have h0:=hc 0 (by decide);unfold World.cell? at h0;refine Nat.pos_of_ne_zero fun hz=>?_;rw[Array.getElem?_eq_none (by omega)] at h0;cases h0
def hU:DataW Unit→List Value
 | .agg l=>l.map fun
  | .lit (.int k z)=>Value.int k z
  | _ => .nilFunc
 | _=>[]
def i6 (w:World) (g:Nat) (d:DataW Unit):World:={ w with heap:=w.heap.modify g fun
  | .cells _ t frozen => .cells (hU d).toArray t frozen
  | o=>o }
noncomputable def P5 (os:Os):World:=i6 (World.holding Tryz.prog os ⟨#[],#[],[]⟩) 0 Rows.laid_math_bits_deBruijn64tab
theorem i7 (os:Os) (args:Array Value):laidMetH Tryz.prog Rows.joinActsRow.laid ((P5 os).forCall (fun _ _=>0) ⟨#[],args,[]⟩).memory:=by
 show laidMet Tryz.prog Rows.joinActsRow.laid _;exact(LaidIn.of_run [0] 8 (by kernel_rfl) (by kernel_rfl) (by kernel_rfl) (by kernel_rfl)).met
end Go.Proofs.YtmjdnljneifpcaaGreatDoor
