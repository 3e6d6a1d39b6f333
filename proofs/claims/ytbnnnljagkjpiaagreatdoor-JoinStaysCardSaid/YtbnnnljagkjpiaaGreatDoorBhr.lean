/- Cells: what is proved on the way: every input of the statement; no condition. Texts joined: OpnC OpnD. -/
import Derived.Test.YtbnnnljagkjpiaaGreatDoorBhq
import Derived.Test.YtbnnnljagkjpiaaGreatDoorBhd
import Derived.Test.YtbnnnljagkjpiaaGreatDoorRows
import Derived.Lib.SmallJoins
import Derived.Lib.LaidIn
import Derived.Stop.LaidErr
import Derived.Stop.Joined
import Derived.ChangeMaps5
import Derived.ChangeSlices
set_option linter.unusedVariables false
set_option linter.unusedSimpArgs false
set_option linter.constructorNameAsVariable false
set_option maxRecDepth 100000
namespace Go.Proofs.YtbnnnljagkjpiaaGreatDoor
open List
open Go.SL Go.ChangeShapes Go.WideShapes Go.ChangeAt Go.RowKit Go.Deep
def JW (W:World) (y:Ac):Prop:=y.X < 18446744073709551616∧(∀ z∈y.ws,z < 18446744073709551616)∧∃ (ad:Option Addr) (cap:Nat),y.vW = .slice ad y.ws.length cap∧(y.ws=[]∨∃ b o E fz c,ad=some ⟨b,o,none⟩∧W.heap[b]? = some (.cells (List.toArray c) E fz)∧QZ c o (y.ws.length*1) (QP y.ws))
def Cw (W:World) (y:YE):Prop:=JW W y.a∧∃ (ad:Option Addr) (cap:Nat),y.vL = .slice ad y.L.length cap∧(y.L=[]∨∃ b o E fz c,ad=some ⟨b,o,none⟩∧W.heap[b]? = some (.cells (List.toArray c) E fz)∧QZ c o (y.L.length*1) (Qc y.L))
section
variable {H:Type} {enc:TypeId×Value→H} {W:World} {n:Nat} {sp:Nat→Bool} {held:Bool} {base:Nat}
theorem JA {z:Int} (h:(Lit.int .u64 z).wf=true):∃ k:Nat,z=k∧k < 18446744073709551616:=by
 have h':(decide (IntKind.u64.min≤z) && decide (z≤IntKind.u64.max))=true:=h;rw[Bool.and_eq_true,decide_eq_true_eq,decide_eq_true_eq] at h';have h1:(0:Int)≤z:=h'.1;have h2:z≤18446744073709551615:=h'.2;exact⟨z.toNat,by omega,by omega⟩
theorem iE {v:Value} {x:DataW H×List MemPlace} (h:DataW.trod enc Tryz.prog W base sp held n 95 [v]=some x) :
  ∃ (ad:Option Addr) (cap:Nat) (ws:List Nat),v = .slice ad ws.length cap∧(∀ z∈ws,z < 18446744073709551616)∧(ws=[]∨∃ b o E fz c,ad=some ⟨b,o,none⟩∧W.heap[b]? = some (.cells (List.toArray c) E fz)∧QZ c o (ws.length*1) (QP ws)):=by
 rcases open_ints Tryz.underlying95 Tryz.underlying94 (by kernel_rfl) h with ⟨h1,_⟩|⟨a,len,cap,zs,h1,_,hl,_,hlen,_,hc,hw⟩
 ·injection h1 with h1 _
  exact⟨none,0,[],h1,by simp,.inl rfl⟩
 ·injection h1 with h1 _
  have hle:len≤zs.length:=by rw[hlen];split <;> omega
  refine⟨some a,cap,(zs.take len).map Int.toNat,?_,?_,?_⟩
  ·rw[h1];congr 1;simp;omega
  ·intro z hz;obtain⟨y,hy,rfl⟩:=mem_map.1 hz;obtain⟨k,rfl,hk⟩:=JA (hw y (mem_of_mem_take hy));exact hk
  ·rcases Nat.eq_zero_or_pos len with rfl|hpos
   ·left;simp
   ·right;have h00:=hc 0 (by omega);obtain⟨b,o,s⟩:=a
    have hs:s=none∧∃ c E fz,W.heap[b]? = some (.cells c E fz):=by
     unfold World.cell? Addr.add at h00;simp only[Nat.add_zero,if_true] at h00;split at h00
     ·rename_i c E fz hh;refine⟨?_,c,E,fz,hh⟩;cases s with
      | none=>rfl
      | some s=>simp at h00
     ·cases h00
    obtain⟨rfl,c,E,fz,hh⟩:=hs;refine⟨b,o,E,fz,c.toList,rfl,by simpa using hh,?_⟩;have hul:(QP ((zs.take len).map Int.toNat)).length=((zs.take len).map Int.toNat).length*1:=Yz _;rw[← hul];refine QZ.of_get fun j v hj=>?_
    have hjl:j < len:=by
     have:=(List.getElem?_eq_some_iff.1 hj).1;rw[hul] at this;simp at this;omega
    have h2:=hc j (by omega);rw[ZV] at h2;unfold World.cell? at h2;simp only[hh] at h2;have hz:=getElem?_eq_getElem (l:=zs) (i:=j) (by omega);obtain⟨k,hk,_⟩:=JA (hw zs[j] (getElem_mem _))
    have hv:v = .int .u64 (zs.getD j 0):=by
     unfold QP at hj;rw[getElem?_map,getElem?_map,getElem?_take_of_lt hjl,hz] at hj;simp only[Option.map_some] at hj;injection hj with hj
     rw[← hj,getD_eq_getElem?_getD,hz];show Value.int .u64 ((zs[j].toNat:Nat):Int) = .int .u64 zs[j];rw[hk];rfl
    rw[hv];simpa using h2
theorem PF {v:Value} {x:DataW H×List MemPlace} (h:DataW.trod enc Tryz.prog W base sp held n 25 [v]=some x) :
  ∃ (ad:Option Addr) (cap:Nat) (ws:List Int),v = .slice ad ws.length cap∧(ws=[]∨∃ b o E fz c,ad=some ⟨b,o,none⟩∧W.heap[b]? = some (.cells (List.toArray c) E fz)∧QZ c o (ws.length*1) (Qc ws)):=by
 rcases open_ints Tryz.underlying25 Tryz.underlying3 (by kernel_rfl) h with ⟨h1,_⟩|⟨a,len,cap,zs,h1,_,hl,_,hlen,_,hc,hw⟩
 ·injection h1 with h1 _
  exact⟨none,0,[],h1,.inl rfl⟩
 ·injection h1 with h1 _
  have hle:len≤zs.length:=by rw[hlen];split <;> omega
  refine⟨some a,cap,zs.take len,?_,?_⟩
  ·rw[h1];congr 1;simp;omega
  ·rcases Nat.eq_zero_or_pos len with rfl|hpos
   ·left;simp
   ·right;have h00:=hc 0 (by omega);obtain⟨b,o,s⟩:=a
    have hs:s=none∧∃ c E fz,W.heap[b]? = some (.cells c E fz):=by
     unfold World.cell? Addr.add at h00;simp only[Nat.add_zero,if_true] at h00;split at h00
     ·rename_i c E fz hh;refine⟨?_,c,E,fz,hh⟩;cases s with
      | none=>rfl
      | some s=>simp at h00
     ·cases h00
    obtain⟨rfl,c,E,fz,hh⟩:=hs;refine⟨b,o,E,fz,c.toList,rfl,by simpa using hh,?_⟩;have hul:(Qc (zs.take len)).length=(zs.take len).length*1:=Va _;rw[← hul];refine QZ.of_get fun j v hj=>?_
    have hjl:j < len:=by
     have:=(List.getElem?_eq_some_iff.1 hj).1;rw[hul] at this;simp at this;omega
    have h2:=hc j (by omega);rw[ZV] at h2;unfold World.cell? at h2;simp only[hh] at h2;have hz:=getElem?_eq_getElem (l:=zs) (i:=j) (by omega)
    have hv:v = .int .i64 (zs.getD j 0):=by
     unfold Qc at hj;rw[getElem?_map,getElem?_take_of_lt hjl,hz] at hj;simp only[Option.map_some] at hj;injection hj with hj
     rw[← hj,getD_eq_getElem?_getD,hz];rfl
    rw[hv];simpa using h2
theorem VA {α:Type} {l:List α} {n:Nat} (h:l.length=n+1):∃ a t,l=a::t∧t.length=n:=by
 cases l with
 | nil=>cases h
 | cons a t=>exact⟨a,t,rfl,by simpa using h⟩
theorem iF {cs:List Value} {x:DataW H×List MemPlace} (h:DataW.trod enc Tryz.prog W base sp held n 103 cs=some x):∃ r:Ac,cs=XB r∧JW W r:=by
 obtain⟨xs,k,rfl,hx,hl,hlen,hf⟩:=DataW.trod_struct Tryz.underlying103 h;have hl2:cs.length=9:=hl.trans (by kernel_rfl);obtain⟨c0,ct0,rfl,hct0⟩:=VA hl2;obtain⟨c1,ct1,rfl,hct1⟩:=VA hct0;obtain⟨c2,ct2,rfl,hct2⟩:=VA hct1;obtain⟨c3,ct3,rfl,hct3⟩:=VA hct2;obtain⟨c4,ct4,rfl,hct4⟩:=VA hct3;obtain⟨c5,ct5,rfl,hct5⟩:=VA hct4;obtain⟨c6,ct6,rfl,hct6⟩:=VA hct5;obtain⟨c7,ct7,rfl,hct7⟩:=VA hct6;obtain⟨c8,ct8,rfl,hct8⟩:=VA hct7;obtain rfl:=length_eq_zero_iff.1 hct8;obtain⟨y0,yt0,rfl,hyt0⟩:=VA hlen;obtain⟨y1,yt1,rfl,hyt1⟩:=VA hyt0;obtain⟨y2,yt2,rfl,hyt2⟩:=VA hyt1;obtain⟨y3,yt3,rfl,hyt3⟩:=VA hyt2;obtain⟨y4,yt4,rfl,hyt4⟩:=VA hyt3;obtain⟨y5,yt5,rfl,hyt5⟩:=VA hyt4;obtain⟨y6,yt6,rfl,hyt6⟩:=VA hyt5;obtain⟨y7,yt7,rfl,hyt7⟩:=VA hyt6;obtain rfl:=length_eq_zero_iff.1 hyt7;have h0:=hf 0 _ rfl;have h1:=hf 1 _ rfl;have h2:=hf 2 _ rfl;have h3:=hf 3 _ rfl;have h4:=hf 4 _ rfl;have h5:=hf 5 _ rfl;have h6:=hf 6 _ rfl;have h7:=hf 7 _ rfl;obtain⟨z0,e0,_⟩:=DataW.trod_int Tryz.underlying3 h0;obtain⟨z1,e1,_⟩:=DataW.trod_int Tryz.underlying3 h1;obtain⟨z2,e2,_⟩:=DataW.trod_int Tryz.underlying3 h2;obtain⟨z3,e3,_⟩:=DataW.trod_int Tryz.underlying3 h3;obtain⟨z4,e4,_,w4⟩:=DataW.trod_int Tryz.underlying94 h4;obtain⟨ad,cap,ws,e5,hws,hr⟩:=iE (v:=c5) h5;obtain⟨z6,e6,_⟩:=DataW.trod_bool Tryz.underlying4 h6;obtain⟨xs7,k7,_,_,hl7,hlen7,hf7⟩:=DataW.trod_struct Tryz.underlying62 h7;obtain⟨x70,xt70,rfl,hxt70⟩:=VA hlen7;obtain⟨x71,xt71,rfl,hxt71⟩:=VA hxt70;obtain rfl:=length_eq_zero_iff.1 hxt71;have h70:=hf7 0 _ rfl;have h71:=hf7 1 _ rfl;obtain⟨z7,e7,_⟩:=DataW.trod_int Tryz.underlying3 h70;obtain⟨z8,e8,_⟩:=DataW.trod_int Tryz.underlying3 h71;obtain⟨X,rfl,hX⟩:=JA w4;refine⟨⟨z0,z1,z2,z3,X,c5,ws,z6,z7,z8⟩,?_,hX,hws,ad,cap,e5,hr⟩;have e0:[c0]=[.int .i64 z0]:=e0;have e1:[c1]=[.int .i64 z1]:=e1;have e2:[c2]=[.int .i64 z2]:=e2;have e3:[c3]=[.int .i64 z3]:=e3;have e4:[c4]=[.int .u64 X]:=e4;have e6:[c6]=[.bool z6]:=e6;have e7:[c7]=[.int .i64 z7]:=e7;have e8:[c8]=[.int .i64 z8]:=e8;simp only[List.cons.injEq,and_true] at e0 e1 e2 e3 e4 e6 e7 e8;rw[e0,e1,e2,e3,e4,e6,e7,e8];rfl
theorem iH {cs:List Value} {x:DataW H×List MemPlace} (h:DataW.trod enc Tryz.prog W base sp held n 105 cs=some x):∃ r:YE,cs=Zi r∧Cw W r:=by
 obtain⟨xs,k,rfl,hx,hl,hlen,hf⟩:=DataW.trod_struct Tryz.underlying105 h;have hl2:cs.length=12:=hl.trans (by kernel_rfl);obtain⟨c0,ct0,rfl,hct0⟩:=VA hl2;obtain⟨c1,ct1,rfl,hct1⟩:=VA hct0;obtain⟨c2,ct2,rfl,hct2⟩:=VA hct1;obtain⟨c3,ct3,rfl,hct3⟩:=VA hct2;obtain⟨c4,ct4,rfl,hct4⟩:=VA hct3;obtain⟨c5,ct5,rfl,hct5⟩:=VA hct4;obtain⟨c6,ct6,rfl,hct6⟩:=VA hct5;obtain⟨c7,ct7,rfl,hct7⟩:=VA hct6;obtain⟨c8,ct8,rfl,hct8⟩:=VA hct7;obtain⟨c9,ct9,rfl,hct9⟩:=VA hct8;obtain⟨c10,ct10,rfl,hct10⟩:=VA hct9;obtain⟨c11,ct11,rfl,hct11⟩:=VA hct10;obtain rfl:=length_eq_zero_iff.1 hct11;obtain⟨y0,yt0,rfl,hyt0⟩:=VA hlen;obtain⟨y1,yt1,rfl,hyt1⟩:=VA hyt0;obtain⟨y2,yt2,rfl,hyt2⟩:=VA hyt1;obtain⟨y3,yt3,rfl,hyt3⟩:=VA hyt2;obtain rfl:=length_eq_zero_iff.1 hyt3;have h0:=hf 0 _ rfl;have h1:=hf 1 _ rfl;have h2:=hf 2 _ rfl;have h3:=hf 3 _ rfl;obtain⟨z0,e0,_⟩:=DataW.trod_int Tryz.underlying3 h0;obtain⟨q,e1,hq⟩:=iF (cs:=[c1,c2,c3,c4,c5,c6,c7,c8,c9]) h1;obtain⟨z2,e2,_⟩:=DataW.trod_int Tryz.underlying3 h2;obtain⟨ad,cap,ws,e3,hr⟩:=PF (v:=c11) h3;refine⟨⟨z0,q,z2,c11,ws⟩,?_,hq,ad,cap,e3,hr⟩;have e0:[c0]=[.int .i64 z0]:=e0;have e2:[c10]=[.int .i64 z2]:=e2;simp only[List.cons.injEq,and_true] at e0 e2;rw[e0,e2];show Value.int .i64 z0::([c1,c2,c3,c4,c5,c6,c7,c8,c9]++[.int .i64 z2,c11])=_;rw[e1];rfl
instance:Inhabited YE:=⟨⟨0,⟨0,0,0,0,0,.slice none 0 0,[],false,0,0⟩,0,.slice none 0 0,[]⟩⟩
theorem iI {v:Value} {d:DataW H} {ps:List MemPlace} {r:Reach} {b0:Nat} (hv:Value.okWide Tryz.prog W r b0 24 v) (h:DataW.Trod enc Tryz.prog W 0 (fun _=>true) true 24 v d ps) :
  ∃ (ad:Option Addr) (cap:Nat) (l:List YE),v = .slice ad l.length cap∧l.length≤maxLen∧(∀ x∈l,Cw W x)∧(l=[]∨∃ el sp,d = .slice el sp∧el.length=l.length)∧(l=[]∨∃ b o E fz c,ad=some ⟨b,o,none⟩∧W.heap[b]? = some (.cells (List.toArray c) E fz)∧∀ (i:Nat) (a:YE),l[i]? = some a→QZ c (o+i*12) 12 (Zi a)):=by
 obtain⟨a,len,cap,rfl⟩:=okWide_slice Tryz.underlying24 hv;obtain⟨fuel,hf⟩:=h
 rcases open_slice Tryz.underlying24 hf with ⟨h1,_⟩|⟨a',len',cap',m,n,D,Pl,h1,hb,hl,hm,hmm,hx,hel⟩
 ·have h1:[Value.slice a len cap]=[.slice none 0 0]:=h1;simp at h1;obtain⟨rfl,rfl,rfl⟩:=h1;exact⟨none,0,[],rfl,Nat.zero_le _,(fun x hx=>by cases hx),.inl rfl,.inl rfl⟩
 ·have h1:[Value.slice a len cap]=[.slice (some a') len' cap']:=h1;simp at h1;obtain⟨rfl,rfl,rfl⟩:=h1;have hce:Tryz.prog.cellsOf 105=12:=by kernel_rfl
  have each:∀ i,i < len→∃ q:YE,Cw W q∧∀ (j:Nat) x,(Zi q)[j]? = some x→W.cell? (a'.add (i*12+j))=some x:=by
   intro i hi;obtain⟨cs',h2,h3⟩:=hel i (by rw[hmm];simp;omega);obtain⟨q,rfl,hq⟩:=iH h3;rw[hce] at h2;obtain⟨_,hlen,hcell⟩:=World.cells?_some h2;refine⟨q,hq,fun j x hj=>?_⟩;have:=hcell j (by have:=(List.getElem?_eq_some_iff.1 hj).1;exact this);rw[add_add] at this;rw[this,hj]
  obtain⟨q,hq⟩:=choose_lt each;have hll:((List.range len).map q).length=len:=by simp
  have hall:∀ x∈(List.range len).map q,Cw W x:=by
   intro x hx;obtain⟨i,hi,rfl⟩:=mem_map.1 hx;exact(hq i (mem_range.1 hi)).1
  rcases Nat.eq_zero_or_pos len with rfl|hpos
  ·exact⟨some a',cap,[],rfl,Nat.zero_le _,(fun x hx=>by cases hx),.inl rfl,.inl rfl⟩
  ·have h00:=(hq 0 hpos).2 0 _ rfl;obtain⟨b,o,s⟩:=a'
   have hs:s=none∧∃ c E fz,W.heap[b]? = some (.cells c E fz):=by
    unfold World.cell? Addr.add at h00;simp only[Nat.zero_mul,Nat.add_zero,if_true] at h00;split at h00
    ·rename_i c E fz hh;refine⟨?_,c,E,fz,hh⟩;cases s with
     | none=>rfl
     | some s=>simp at h00
    ·cases h00
   obtain⟨rfl,c,E,fz,hh⟩:=hs;refine⟨some ⟨b,o,none⟩,cap,(List.range len).map q,by rw[hll],by rw[hll];omega,hall,.inr ⟨_,_,(Prod.mk.inj hx).1,by rw[hll,length_map,length_range]⟩,.inr ⟨b,o,E,fz,c.toList,rfl,by simpa using hh,?_⟩⟩;intro i a hia;have hi:i < len:=by have:=(List.getElem?_eq_some_iff.1 hia).1;simpa using this
   have e:q i=a:=by simpa [hi] using hia
   subst e;refine QZ.of_get (vs:=Zi (q i)) fun j x hj=>?_;have:=(hq i hi).2 j x hj;rw[ZV] at this;unfold World.cell? at this;simp only[hh] at this;simpa [Nat.add_assoc] using this
theorem iJ {cs:List Value} {x:DataW H×List MemPlace} (h:DataW.trod enc Tryz.prog W base sp held n 23 cs=some x):∃ z1 z2 z3:Int,cs=[.int .i64 z1,.int .i64 z2,.int .i64 z3]:=by
 obtain⟨xs,k,rfl,hx,hl,hlen,hf⟩:=DataW.trod_struct Tryz.underlying23 h;have hl2:cs.length=3:=hl.trans (by kernel_rfl);obtain⟨c0,ct0,rfl,g0⟩:=VA hl2;obtain⟨c1,ct1,rfl,g1⟩:=VA g0;obtain⟨c2,ct2,rfl,g2⟩:=VA g1;obtain rfl:=length_eq_zero_iff.1 g2;obtain⟨y0,yt0,rfl,k0⟩:=VA hlen;obtain⟨y1,yt1,rfl,k1⟩:=VA k0;obtain⟨y2,yt2,rfl,k2⟩:=VA k1;have h0:=hf 0 _ rfl;have h1:=hf 1 _ rfl;have h2:=hf 2 _ rfl;obtain⟨z0,e0,_⟩:=DataW.trod_int Tryz.underlying3 h0;obtain⟨z1,e1,_⟩:=DataW.trod_int Tryz.underlying3 h1;obtain⟨z2,e2,_⟩:=DataW.trod_int Tryz.underlying3 h2;refine⟨z0,z1,z2,?_⟩;have e0:[c0]=[.int .i64 z0]:=e0;have e1:[c1]=[.int .i64 z1]:=e1;have e2:[c2]=[.int .i64 z2]:=e2;simp only[List.cons.injEq,and_true] at e0 e1 e2;rw[e0,e1,e2]
theorem iL {v:Value} {d:DataW H} {ps:List MemPlace} {r:Reach} {b0:Nat} (hv:Value.okWide Tryz.prog W r b0 23 v) (h:DataW.Trod enc Tryz.prog W 0 (fun _=>true) true 23 v d ps):∃ z1 z2 z3:Int,v = .agg #[.int .i64 z1,.int .i64 z2,.int .i64 z3]:=by
 obtain⟨cs,rfl,hsz⟩:=okWide_struct Tryz.underlying23 hv;obtain⟨fuel,hf⟩:=h;obtain⟨z1,z2,z3,hx⟩:=iJ hf;refine⟨z1,z2,z3,?_⟩;have:cs.toList=[.int .i64 z1,.int .i64 z2,.int .i64 z3]:=hx;rw[← Array.toArray_toList (xs:=cs),this]
end
theorem PH {c:List Value}:∀ {l:List YE} {o:Nat},(∀ i a,l[i]? = some a→QZ c (o+i*12) 12 (Zi a))→QZ c o (l.length*12) (K1 l)
 | [],o,_ => .nil o
 | t::l,o,h=>by
  have h0:=h 0 t rfl
  have ih:=PH (l:=l) (o:=o+12) fun i u hu=>by
   have:=h (i+1) u (by simpa using hu);rw[show o+12+i*12=o+(i+1)*12 by omega];exact this
  rw[length_cons,Nat.succ_mul];show QZ c o (l.length*12+12) (Zi t++K1 l);have h0:QZ c o 12 (Zi t):=by simpa using h0
  unfold Zi at h0 ⊢;obtain _|⟨g0,h0⟩:=h0;obtain _|⟨g1,h0⟩:=h0;obtain _|⟨g2,h0⟩:=h0;obtain _|⟨g3,h0⟩:=h0;obtain _|⟨g4,h0⟩:=h0;obtain _|⟨g5,h0⟩:=h0;obtain _|⟨g6,h0⟩:=h0;obtain _|⟨g7,h0⟩:=h0;obtain _|⟨g8,h0⟩:=h0;obtain _|⟨g9,h0⟩:=h0;obtain _|⟨g10,h0⟩:=h0;obtain _|⟨g11,h0⟩:=h0;exact .cons g0 (.cons g1 (.cons g2 (.cons g3 (.cons g4 (.cons g5 (.cons g6 (.cons g7 (.cons g8 (.cons g9 (.cons g10 (.cons g11 ih)))))))))))
theorem iM {W:World} {ad:Option Addr} {cap:Nat} {l:List YE} (h:l=[]∨∃ b o E fz c,ad=some ⟨b,o,none⟩∧W.heap[b]? = some (.cells (List.toArray c) E fz)∧∀ (i:Nat) (a:YE),l[i]? = some a→QZ c (o+i*12) 12 (Zi a)) (fr:List Q2):Vh (old W::fr) (.slice ad l.length cap) l.length 12 (K1 l):=by
 refine⟨i7 l,ad,cap,rfl,?_⟩
 rcases h with rfl|⟨b,o,E,fz,c,rfl,hb,hr⟩
 ·exact .inl rfl
 ·haveI:B2 W b (.cells (List.toArray c) E fz):=⟨hb⟩;exact .inr ⟨b,o,E,fz,c,rfl,inferInstance,PH hr⟩
theorem iN {W:World} {x:Ac} (h:JW W x) (fr:List Q2):FJ (old W::fr) x:=by
 obtain⟨h1,h2,ad,cap,h3,h4⟩:=h;refine⟨h1,h2,Yz _,ad,cap,h3,?_⟩
 rcases h4 with h4|⟨b,o,E,fz,c,rfl,hb,hr⟩
 ·left;rw[h4];rfl
 ·haveI:B2 W b (.cells (List.toArray c) E fz):=⟨hb⟩;exact .inr ⟨b,o,E,fz,c,rfl,inferInstance,hr⟩
theorem iO {W:World} {x:YE} (h:Cw W x) (fr:List Q2):Wg (old W::fr) x:=by
 obtain⟨h1,ad,cap,h3,h4⟩:=h;refine⟨iN h1 fr,Va _,ad,cap,h3,?_⟩
 rcases h4 with h4|⟨b,o,E,fz,c,rfl,hb,hr⟩
 ·left;rw[h4];rfl
 ·haveI:B2 W b (.cells (List.toArray c) E fz):=⟨hb⟩;exact .inr ⟨b,o,E,fz,c,rfl,inferInstance,hr⟩
theorem own0:ownKnob Tryz.prog.godebug=none:=by kernel_rfl
theorem iP:laidOutB Tryz.prog=true:=by kernel_rfl
theorem iS {W:World} (h:laidMetH Tryz.prog Rows.joinStaysRow.laid W):DA 0 Lib.deBruijn64tab W∧0 < W.heap.size:=by
 have h':laidMet Tryz.prog [("math/bits.deBruijn64tab",Lib.tabData .u8 (Lib.deBruijn64tab.map fun n:Nat=>(n:Int)))] W:=h;have ht:=Lib.tabIs_of_head (P:=Tryz.prog) (g:=0) (t:=329) (n:=64) (by kernel_rfl) (by kernel_rfl) Tryz.underlying329 (by kernel_rfl) (by kernel_rfl) (by kernel_rfl) h'
 have hc:DA 0 Lib.deBruijn64tab W:=by
  intro j hj;have:=ht.cell (g:=0) (by kernel_rfl) j (by simpa using hj);rw[this];congr 2;rw[getD_eq_getElem?_getD,getD_eq_getElem?_getD,getElem?_map];cases Lib.deBruijn64tab[j]? <;> rfl
 refine⟨hc,?_⟩;have h0:=hc 0 (by decide);unfold World.cell? at h0;refine Nat.pos_of_ne_zero fun hz=>?_;rw[Array.getElem?_eq_none (by omega)] at h0;cases h0
def iT:DataW Unit→List Value
 | .agg l=>l.map fun
  | .lit (.int k z)=>Value.int k z
  | _ => .nilFunc
 | _=>[]
def ia (w:World) (g:Nat) (d:DataW Unit):World:={ w with heap:=w.heap.modify g fun
  | .cells _ t frozen => .cells (iT d).toArray t frozen
  | o=>o }
noncomputable def PI (os:Os):World:=ia (World.holding Tryz.prog os ⟨#[],#[],[]⟩) 0 Rows.laid_math_bits_deBruijn64tab
theorem ib (os:Os) (args:Array Value):laidMetH Tryz.prog Rows.joinStaysRow.laid ((PI os).forCall (fun _ _=>0) ⟨#[],args,[]⟩).memory:=by
 show laidMet Tryz.prog Rows.joinStaysRow.laid _;exact(LaidIn.of_run [0] 8 (by kernel_rfl) (by kernel_rfl) (by kernel_rfl) (by kernel_rfl)).met
end Go.Proofs.YtbnnnljagkjpiaaGreatDoor
set_option maxRecDepth 100000
namespace Go.Proofs.YtbnnnljagkjpiaaGreatDoor
open List
open Go.SL Go.ChangeShapes Go.WideShapes Go.ChangeAt Go.RowKit Go.Deep
def JB (W:World) (vW:Value) (ws:List Int):Prop:=∃ (ad:Option Addr) (cap:Nat),vW = .slice ad ws.length cap∧(ws=[]∨∃ b o E fz c,ad=some ⟨b,o,none⟩∧W.heap[b]? = some (.cells (List.toArray c) E fz)∧QZ c o (ws.length*1) (Qc ws))
section
variable {H:Type} {enc:TypeId×Value→H} {W:World} {n:Nat} {sp:Nat→Bool} {held:Bool} {base:Nat}
theorem ic {cs:List Value} {x:DataW H×List MemPlace} (h:DataW.trod enc Tryz.prog W base sp held n 27 cs=some x):∃ (z1 z2:Int) (vW:Value) (ws:List Int),cs=[.int .i64 z1,.int .i64 z2,vW]∧JB W vW ws:=by
 obtain⟨xs,k,rfl,hx,hl,hlen,hf⟩:=DataW.trod_struct Tryz.underlying27 h;have hl2:cs.length=3:=hl.trans (by kernel_rfl);obtain⟨c0,ct0,rfl,g0⟩:=VA hl2;obtain⟨c1,ct1,rfl,g1⟩:=VA g0;obtain⟨c2,ct2,rfl,g2⟩:=VA g1;obtain rfl:=length_eq_zero_iff.1 g2;obtain⟨y0,yt0,rfl,k0⟩:=VA hlen;obtain⟨y1,yt1,rfl,k1⟩:=VA k0;obtain⟨y2,yt2,rfl,k2⟩:=VA k1;have h0:=hf 0 _ rfl;have h1:=hf 1 _ rfl;have h2:=hf 2 _ rfl;obtain⟨z0,e0,_⟩:=DataW.trod_int Tryz.underlying3 h0;obtain⟨z1,e1,_⟩:=DataW.trod_int Tryz.underlying3 h1;obtain⟨ad,cap,ws,e2,hr⟩:=PF (v:=c2) h2;refine⟨z0,z1,c2,ws,?_,ad,cap,e2,hr⟩;have e0:[c0]=[.int .i64 z0]:=e0;have e1:[c1]=[.int .i64 z1]:=e1;simp only[List.cons.injEq,and_true] at e0 e1;rw[e0,e1]
theorem ie {v:Value} {d:DataW H} {ps:List MemPlace} {r:Reach} {b0:Nat} (hv:Value.okWide Tryz.prog W r b0 27 v) (h:DataW.Trod enc Tryz.prog W 0 (fun _=>true) true 27 v d ps):∃ (z1 z2:Int) (vW:Value) (ws:List Int),v = .agg #[.int .i64 z1,.int .i64 z2,vW]∧JB W vW ws:=by
 obtain⟨cs,rfl,hsz⟩:=okWide_struct Tryz.underlying27 hv;obtain⟨fuel,hf⟩:=h;obtain⟨z1,z2,vW,ws,hx,hc⟩:=ic hf;refine⟨z1,z2,vW,ws,?_,hc⟩;have:cs.toList=[.int .i64 z1,.int .i64 z2,vW]:=hx;rw[← Array.toArray_toList (xs:=cs),this]
end
theorem ig {W:World} {vW:Value} {ws:List Int} (h:JB W vW ws) (fr:List Q2):Vh (old W::fr) vW ws.length 1 (Qc ws):=by
 obtain⟨ad,cap,h3,h4⟩:=h;refine⟨Va _,ad,cap,h3,?_⟩
 rcases h4 with h4|⟨b,o,E,fz,c,rfl,hb,hr⟩
 ·left;rw[h4];rfl
 ·haveI:B2 W b (.cells (List.toArray c) E fz):=⟨hb⟩;exact .inr ⟨b,o,E,fz,c,rfl,inferInstance,hr⟩
end Go.Proofs.YtbnnnljagkjpiaaGreatDoor
