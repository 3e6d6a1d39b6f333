/- Cells: what is proved on the way: every input of the statement; no condition. Texts joined: CelG CelH PrtP SrtJ CelI LnkC InvP. -/
import Derived.Test.YtbnnnljagkjpiaaGreatDoorBgf
import Derived.Test.YtbnnnljagkjpiaaGreatDoorBgl
import Derived.Test.YtbnnnljagkjpiaaGreatDoorBgj
import Derived.Test.YtbnnnljagkjpiaaGreatDoorBgk
set_option linter.unusedVariables false
set_option linter.unusedSimpArgs false
set_option linter.unusedSectionVars false
namespace Go.Proofs.YtbnnnljagkjpiaaGreatDoor
open Go.SL
def Kg (s:CS) (a b:Nat):CS:=
 match QS s.tab a b with
 | some (k,e)=>VO s k b { e with held:=true }
 | none=>s
theorem Ce {s:CS} {a b:Nat} (h:QS s.tab a b=none):Kg s a b=s:=by unfold Kg;rw[h]
theorem Cf {s:CS} {a b k:Nat} {e:Q8} (h:QS s.tab a b=some (k,e)):Kg s a b=VO s k b { e with held:=true }:=by unfold Kg;rw[h]
def ZM (s:CS) (i g place:Int):CS:=
 match Y5 s i g place with
 | (.obj a b,0)=>Kg s a b
 | _=>s
theorem bd [Q4] (p:Nat) (s:CS) (i g place:Int) {w:World} {fr:List Q2} (H:Q0 w (QW p s::fr)) :
  Calls Tryz.prog 154 #[pp p,Yy i g,.int .i64 place] w (ret fun v w'=>v = .tuple #[ZA (Y5 s i g place).1,.int .i64 ((Y5 s i g place).2:Nat)]∧Q0 w' (QW p (ZM s i g place)::fr)):=by
 obtain⟨a1,a2,a3,hkv⟩:=U1 (Y5 s i g place).1;rw[hkv];refine QQ Tryz.func154 rfl (by kernel_rfl) ?_;refine J7 H ?_;clear H;intro b4 w H;refine VZ H ?_;clear H;intro b6 w H;refine KM H ?_;refine Jv ?_;replace H:=Js [2,0,0] 0 H;refine Jc rfl rfl (FQ p s i g place H) ?_;clear H;rintro v w ⟨rfl,H⟩;rw[hkv];refine Ve H ?_;clear H;intro b8 w H;refine J5 H ?_;clear H;intro w H;refine J0 H ?_;replace H:=Js [1,0,0] 1 H;have fin:∀ (σ:QU) (w:World),σ 6=pp b6→σ 8=pp b8→σ 9 = .int .i64 ((Y5 s i g place).2:Nat)→Q0 w (QW p (ZM s i g place)::pts b8 (row 85 [.int .i64 a1,.int .i64 a2,.int .i64 a3])::pts b6 (row 85 [.int .i64 0,.int .i64 0,.int .i64 0])::fr)→True:=fun _ _ _ _ _ _=>trivial;clear fin;generalize hq:Y5 s i g place=r at hkv H ⊢;obtain⟨k,er⟩:=r
 have hcase:(¬ (er=0∧a1=2)∧ZM s i g place=s)∨∃ a b:Nat,k = .obj a b∧er=0∧a1=2∧a2=a∧a3=b∧ZM s i g place=Kg s a b:=by
  have hr:ZM s i g place=(match (k,er) with|(.obj a b,0)=>Kg s a b|_=>s):=by unfold ZM;rw[hq]
  cases k with
  | none=>injection hkv with h;simp at h;exact .inl ⟨by omega,hr⟩
  | grave=>injection hkv with h;simp at h;exact .inl ⟨by omega,hr⟩
  | obj a b=>
   injection hkv with h
   simp at h;cases er with
   | zero=>exact .inr ⟨a,b,rfl,rfl,by omega,by omega,by omega,hr⟩
   | succ er=>exact .inl ⟨by omega,hr⟩
 rcases hcase with ⟨hno,hr⟩|⟨a,b,rfl,rfl,rfl,rfl,rfl,hr⟩
 ·rw[hr];refine J9 H ?_;by_cases h0:er=0
  ·subst h0;rw[show (((0:Nat):Int) == 0)=true from rfl];refine A4 H ?_;rw[show (a1 == 2)=false by simp;intro h;exact hno ⟨rfl,h⟩];refine Vx H ?_;refine KN H ?_;clear H;intro w H;refine J0 H ?_;replace H:=Js [2,0] 1 H;exact Q3 (Jz H (fun w' H' => .cellN H' rfl (by repeat first|exact .nil _|apply Q9.cons rfl) (.tmp .nil)) fun w' H'=>⟨rfl,H'.drop⟩)
  ·rw[show (((er:Nat):Int) == 0)=false by simpa using h0];refine Dk H ?_;refine Vx H ?_;refine KN H ?_;clear H;intro w H;refine J0 H ?_;replace H:=Js [2,0] 1 H;exact Q3 (Jz H (fun w' H' => .cellN H' rfl (by repeat first|exact .nil _|apply Q9.cons rfl) (.tmp .nil)) fun w' H'=>⟨rfl,H'.drop⟩)
 ·rw[hr];refine Vc H ?_;refine U9 H ?_;refine J0 H ?_;obtain⟨e1,e2,h1,h2,e4,hsh⟩:=CL (QS s.tab a b);refine J6 H ?_;refine Qk (fun ms σ w=>ms=[]∧σ 6=pp b6∧σ 8=pp b8∧σ 9 = .int .i64 0∧Q0 w (QW p (Kg s a b)::pts b8 (row 85 [.int .i64 2,.int .i64 a,.int .i64 b])::pts b6 (row 85 [.int .i64 0,.int .i64 0,.int .i64 0])::fr)) ?_ ?_
  ·refine VH H ?_;obtain⟨q,mem,hw,hm,H⟩:=Vz H;refine J6 H ?_
   refine Qk (fun ms σ w=>ms=[]∧∃ b10,σ 0=pp p∧σ 6=pp b6∧σ 8=pp b8∧σ 9 = .int .i64 0∧σ 10=pp b10 ∧
     Q0 w (pts b10 (row 78 [.int .i64 e1,.int .i64 e2,.bool h1,.bool h2])::QW p s::pts b8 (row 85 [.int .i64 2,.int .i64 a,.int .i64 b])::pts b6 (row 85 [.int .i64 0,.int .i64 0,.int .i64 0])::fr)) ?_ ?_
   ·replace H:=Js [4,0,0,0,0,0,0,0,0,0,0,0,0] 0 H;refine J1 H ?_;clear H;intro w H;refine E9 H ?_;refine HD H ?_;refine Jw 6 10 H rfl rfl (Qy (a:=[]) (b:=[]) rfl rfl (call (Ya q.tp s.tab a b H) ?_)) (VN H rfl ?_)
    ·clear H;rintro v w ⟨rfl,H⟩;rw[hsh];refine EQ H ?_;clear H;intro b10 w H;refine AQ H ?_;clear H;intro w H;refine Xv H ?_;replace H:=Js [2,2,2,2,1,1,1,1,1,1,1,0,0,0] 0 H;have H:=VY hw hm H;exact⟨rfl,rfl,b10,rfl,rfl,rfl,rfl,rfl,H.swap⟩
    ·clear H;intro b10 w H;refine Jo 6 H ?_;refine Jk rfl rfl (Ya q.tp s.tab a b H.swap) ?_;clear H;rintro v w ⟨rfl,H⟩;rw[hsh];refine EV H ?_;clear H;intro w H;refine Xv H ?_;replace H:=Js [2,2,2,2,0,1,1,1,1,1,1,0,0,0] 0 H;have H:=VY hw hm H;exact⟨rfl,rfl,b10,rfl,rfl,rfl,rfl,rfl,H.swap⟩
   ·clear H;rintro ms σ w ⟨rfl,b10,g0,g6,g8,g9,g10,H⟩;rw[Q1 g0,Q1 g6,Q1 g8,Q1 g9,Q1 g10];refine Zn H ?_;refine Uu H ?_;clear H;intro w H;refine J2 H ?_;obtain⟨q,mem,hw,hm,H⟩:=Vz H.swap;cases hL:QS s.tab a b with
    | none=>
     rw[hL] at hsh;cases hsh;rw[Ce hL];replace H:=Js [4,0,0,0,0,0,0,0,0,0,0,0,0,0] 0 H;refine J1 H ?_;clear H;intro w H;refine Ja 0 ?_;refine Ja 1 ?_;refine Jf 2 ?_;refine Jl 3 [7] H ?_;refine Jf 4 ?_;refine HE H ?_;refine Dz H ?_;refine Jk rfl rfl (CH q.tp s.tab a b ⟨0,0,true,false,0,0,[]⟩ H) ?_;clear H;rintro v w (⟨k',e',hL',rfl,H⟩|⟨_,rfl,H⟩)
     ·rw[hL] at hL';cases hL'
     ·refine Jx H ?_;replace H:=Js [1,1,1,1,0,0,0,0,0,0,0,1,1] 1 H;have H:=VY hw hm H;exact⟨rfl,rfl,rfl,rfl,rfl,H⟩
    | some x=>
     obtain⟨kk,f⟩:=x;rw[hL] at hsh;cases hsh;rw[Cf hL];obtain⟨n,hkk,hbn,hk⟩:=Y9.1 hL;obtain rfl:a=kk:=by omega
     obtain rfl:b=n:=by omega
     replace H:=Js [4,0,0,0,0,0,0,0,0,0,0,0,0,0] 0 H;refine J1 H ?_;clear H;intro w H;refine Ja 0 ?_;refine Ja 1 ?_;refine Jf 2 ?_;refine Jl 3 [7] H ?_;refine Jf 4 ?_;refine HE H ?_;refine Dz H ?_;refine Jk rfl rfl (CH q.tp s.tab a b { f with held:=true } H) ?_;clear H;rintro v w (⟨k',e',hL',rfl,H⟩|⟨hL',rfl,H⟩)
     ·rw[hL] at hL';cases hL';refine Jx H ?_;replace H:=Js [1,1,1,1,0,0,0,0,0,0,0,1,1] 1 H;have H:=IQ (e':={ f with held:=true }) hw hm hk ⟨rfl,rfl,rfl,rfl,rfl⟩ rfl H;exact⟨rfl,rfl,rfl,rfl,rfl,H⟩
     ·rw[hL] at hL';cases hL'
  ·clear H;rintro ms σ w ⟨rfl,g6,g8,g9,H⟩;rw[Q1 g6,Q1 g8,Q1 g9];refine KN H ?_;clear H;intro w H;refine J0 H ?_;replace H:=Js [2,0] 1 H;exact Q3 (Jz H (fun w' H' => .cellN H' rfl (by repeat first|exact .nil _|apply Q9.cons rfl) (.tmp .nil)) fun w' H'=>⟨rfl,H'.drop⟩)
open List
def Ud (s:CS) (ws:List Nat):CS×Nat×Nat:=
 match ZC ws with
 | none=>(s,0,4)
 | some l=>if s.lays.length=64 then (s,0,5) else ({ s with lays:=s.lays++[l] },s.lays.length+1,0)
theorem Cg {s:CS} {ws:List Nat} (h:ZC ws=none):Ud s ws=(s,0,4):=by unfold Ud;rw[h]
theorem Av {s:CS} {ws:List Nat} {l:QL} (h:ZC ws=some l):Ud s ws=if s.lays.length=64 then (s,0,5) else ({ s with lays:=s.lays++[l] },s.lays.length+1,0):=by unfold Ud;rw[h]
theorem be {ws:List Nat} (h:ws.length≠3):ZC ws=none:=by
 match ws with
 | []=>rfl
 | [_]=>rfl
 | [_,_]=>rfl
 | [_,_,_]=>exact absurd rfl h
 | _::_::_::_::_=>rfl
theorem bh [Q4] (v:Value) (ws:List Nat) (hws:∀ x∈ws,x < 18446744073709551616) {w:World} {fr:List Q2} [hT:YW 0 Lib.deBruijn64tab fr] (hr:Vt fr v ws.length 1 (Qa ws)) (H:Q0 w fr) :
  Calls Tryz.prog 75 #[v] w (ret fun r w'=>(ZC ws=none∧r = .tuple #[Yx 0 (.slice none 0 0) 0 (.slice none 0 0),.int .i64 4]∧Q0 w' fr) ∨
   ∃ l vr vq,ZC ws=some l∧r = .tuple #[Yx l.fixed vr l.record vq,.int .i64 0]∧Q0 w' (NL vr l.refs::NL vq l.recs::fr)):=by
 by_cases h3:ws.length=3
 ·obtain⟨x,y,z,rfl⟩:∃ x y z,ws=[x,y,z]:=by
   match ws,h3 with
   | [x,y,z],_=>exact⟨x,y,z,rfl⟩
  exact Tk v x y z (hws x (by simp)) (hws y (by simp)) (hws z (by simp)) hr H
 ·obtain⟨_,a,c,rfl,_⟩:=id hr;exact call (Tj _ ws.length h3 ⟨a,c,rfl⟩ H) fun r w h => .inl ⟨be h3,h.1,h.2⟩
theorem NH [Q4] (p:Nat) (s:CS) (v:Value) (ws:List Nat) (hws:∀ x∈ws,x < 18446744073709551616) {w:World} {fr:List Q2} [hT:YW 0 Lib.deBruijn64tab fr] (hr:Vt fr v ws.length 1 (Qa ws)) (H:Q0 w (QW p s::fr)) :
  Calls Tryz.prog 21 #[pp p,v] w (ret fun x w'=>x = .tuple #[.int .i64 ((Ud s ws).2.1:Nat),.int .i64 ((Ud s ws).2.2:Nat)]∧Q0 w' (QW p (Ud s ws).1::fr)):=by
 obtain⟨_,av,cv,rfl,_⟩:=id hr;refine QQ Tryz.func21 rfl (by kernel_rfl) ?_;refine Dh H ?_;refine YZ H ?_;refine Jc rfl rfl (bh _ ws hws hr.there H) ?_;clear H;rintro v w (⟨hd,rfl,H⟩|⟨l,vr,vq,hd,rfl,H⟩)
 ·rw[Cg hd];refine Ve H ?_;clear H;intro b6 w H;refine J5 H ?_;clear H;intro w H;refine AN H ?_;replace H:=Js [1] 1 H;exact Q3 (Jy H rfl fun w' H'=>⟨rfl,H'⟩)
 ·obtain⟨aa,ma,rfl⟩:=QE H (QH _) (by decide);obtain⟨ab,mb,rfl⟩:=QE H.drop (QH _) (by decide);rw[Av hd];refine Ve H ?_;clear H;intro b6 w H;refine J5 H ?_;clear H;intro w H;refine Yl H ?_;replace H:=Js [3,0,0,0] 0 H;obtain⟨q,mem,hw,hm,H⟩:=Vz H;have hR:=Tg hd;replace H:=Js [12,12,2,0,0,0,0,0,0,0,0,0,0,0] 0 H;obtain⟨D1,H,hD1,hC1⟩:=sls_rd H (QH _) (by decide);obtain⟨D2,H,hD2,hC2⟩:=sls_rd H.swap (QH _) (by decide);refine J1 H ?_;clear H;intro w H;refine Ja 0 ?_;refine Ja 1 ?_;refine Jf 2 ?_;refine Jl 3 [5] H ?_;refine VB 4 [5] H rfl (Q7.none rfl) rfl (by repeat first|exact .nil _|apply Q9.cons rfl) (by kernel_rfl) ?_;replace H:=Js [2,1,0] 0 H;refine Jo 5 H ?_;refine Jk rfl rfl (Tn q.bp s.lays _ _ l hR ⟨hD1 _,(hD2 _).there⟩ H) ?_;clear H;rintro v w (⟨h64,rfl,H⟩|⟨h64,rfl,H⟩)
  ·rw[if_pos h64];refine Bo H ?_;refine Jx H ?_;replace H:=Js [3,3,0,2,2,2,2,2,2,2,2] 3 H;have H:=VY hw hm H;exact Q3 (Jy H rfl fun w' H'=>⟨rfl,H'⟩)
  ·rw[if_neg (by omega)];refine Bo H ?_;refine Jx H ?_;replace H:=Js [3,3,0,2,2,2,2,2,2,2,2] 3 H;have H:=VY (s:={ s with lays:=s.lays++[l] }) (aK hw hR h64) ⟨hm.len,hm.head,hm.words⟩ H;exact Q3 (Jy H rfl fun w' H'=>⟨rfl,H'⟩)
@[reducible] def Wf (s:CS) (parent:Int) (b b2:Nat):CS:=
 { s with last:=s.last+1,par:=s.par++[(((s.last+1:Nat):Int),parent)],sps:=s.sps++[(((s.last+1:Nat):Int),b,⟨[],0,0⟩)],mns:=s.mns++[(((s.last+1:Nat):Int),b2,[])] }
theorem IU [Q4] (p:Nat) (s:CS) (parent:Int) (hlast:s.last+1 < 1000000) {w:World} {fr:List Q2} (H:Q0 w (QW p s::fr)) :
  Calls Tryz.prog 22 #[pp p,.int .i64 parent] w (ret fun x w'=>(Z7 s.par parent≠0∧x = .tuple #[.int .i64 0,.int .i64 (Z7 s.par parent)]∧Q0 w' (QW p s::fr)) ∨
   (Z7 s.par parent=0∧∃ b b2,x = .tuple #[.int .i64 ((s.last+1:Nat):Int),.int .i64 0]∧Q0 w' (QW p (Wf s parent b b2)::fr))):=by
 obtain⟨q,mem,hw,hm,H⟩:=Vz H;refine QQ Tryz.func22 rfl (by kernel_rfl) ?_;refine Dh H ?_;refine V2 H ?_;replace H:=Js [5,0,0,0,0,0,0,0,0,0,0] 0 H;refine Jc rfl rfl (Mr q.trp s.last s.par parent (by omega) (fun r x hx=>(hw.par.2.2 r x hx).2) H) ?_;clear H;rintro v w (⟨he,rfl,H⟩|⟨he,rfl,H⟩)
 ·refine Bl H ?_;rw[show (((Z7 s.par parent:Nat):Int) != 0)=true by simpa using he];refine E7 H ?_;replace H:=Js [1,1,1,1,1,0,0,0,0,0,0] 0 H;have H:=VY hw hm H;exact Q3 (Jy H rfl fun w' H' => .inl ⟨he,rfl,H'⟩)
 ·have hl64:s.par.length < 64:=by
   unfold Z7 at he;split at he
   ·omega
   ·split at he
    ·omega
    ·have:=hw.par.1;omega
  have hfr:∀ {α:Type} (l:List (Int×α)),l.map (·.1)=s.par.map (·.1)→((s.last+1:Nat):Int)∉l.map (·.1):=by
   intro α l hl hmem;rw[hl] at hmem;obtain⟨⟨r,x⟩,hx,h1⟩:=mem_map.1 hmem;have h1:r=((s.last+1:Nat):Int):=h1;have:=(hw.par.2.2 r x hx).2;omega
  have hf1:((s.last+1:Nat):Int)∉(s.sps.map VJ).map (·.1):=hfr _ (by rw[map_map];exact hw.skeys);have hf2:((s.last+1:Nat):Int)∉(s.mns.map V0).map (·.1):=hfr _ (by rw[map_map];exact hw.mkeys);refine G2 H ?_;refine J1 H ?_;clear H;intro w H;refine Yu H ?_;refine Jl 3 [14] H ?_;refine Dj H ?_;refine Jl 8 [10,14] H ?_;refine Ja 9 ?_;refine Jo 10 H ?_;refine Jk rfl rfl (Hz q.sp (s.last+1) (by omega) H) ?_;clear H;rintro v w ⟨b,rfl,H⟩;refine C5 H ?_;refine Jo 14 H ?_;refine Xj (ek:=ki .i64) (vv:=Qo) (v:=b) (key:=((s.last+1:Nat):Int)) H rfl rfl rfl Vf rfl ?_;clear H;intro w H;rw[Xg hf1,show s.sps.map VJ++[(((s.last+1:Nat):Int),b)]=(s.sps++[(((s.last+1:Nat):Int),b,(⟨[],0,0⟩:QF))]).map VJ by simp] at H;refine Jx H ?_;refine J1 H ?_;clear H;intro w H;refine Bt H ?_;refine Ja 4 ?_;refine Jo 5 H ?_;refine Jk rfl rfl (I2 H) ?_;clear H;rintro v w ⟨b2,rfl,H⟩
  refine Jo 6 H ?_;refine Xj (ek:=ki .i64) (vv:=Qo) (v:=b2) (key:=((s.last+1:Nat):Int)) H rfl rfl rfl Vf rfl ?_;clear H;intro w H;rw[Xg hf2,show s.mns.map V0++[(((s.last+1:Nat):Int),b2)]=(s.mns++[(((s.last+1:Nat):Int),b2,([]:List Nat))]).map V0 by simp] at H;refine Jx H ?_;refine VX H ?_;replace H:=Js [1,9,2,2,2,2,2,1,1,1,1,1,0] 0 H;have H:=(Q0.pick (R:=VL q.sp) (x:=(((s.last+1:Nat):Int),b,(⟨[],0,0⟩:QF))) (g1:=s.sps) (g2:=[]) rfl).2 (by rw[append_nil];exact H);replace H:=Js [11,10,0,0,0,0,0,0,0,0,0,0] 0 H;have H:=(Q0.pick (R:=V8) (x:=(((s.last+1:Nat):Int),b2,([]:List Nat))) (g1:=s.mns) (g2:=[]) rfl).2 (by rw[append_nil];exact H);replace H:=Js [2,2,2,2,2,2,2,2,1,1,0] 0 H;have H:=VY (s:=Wf s parent b b2) (aG hw hl64 hlast) ⟨hm.len,hm.head,hm.words⟩ H;exact Q3 (Jy H rfl fun w' H' => .inr ⟨he,b,b2,rfl,H'⟩)
theorem NI [Q4] (n size slots:Nat) (h1:1≤n) (h2:n≤63) (h3:1≤size) (h4:size≤1024) (h5:1≤slots) (h6:slots≤63) {w:World} {fr:List Q2} (H:Q0 w fr) :
  Calls Tryz.prog 20 #[.int .i64 n,.int .i64 size,.int .i64 slots] w (ret fun v w'=>∃ p,v = .tuple #[pp p,.int .i64 0] ∧
   Q0 w' (QW p ⟨size,List.replicate n 0,[],List.replicate slots ⟨0,none⟩,0,[],[],[],[]⟩::fr)):=by
 refine QQ Tryz.func20 rfl (by kernel_rfl) ?_;refine XF H ?_;refine Jc rfl rfl (TT n size h1 (by omega) h3 h4 H) ?_;clear H;rintro v w ⟨sp,rfl,H⟩;refine G2 H ?_;refine YZ H ?_;refine Jc rfl rfl (bA slots h5 h6 H) ?_;clear H;rintro v w ⟨tp,rfl,H⟩;refine G2 H ?_;refine Zn H ?_;refine Jc rfl rfl (Tl H) ?_;clear H;rintro v w ⟨bp,rfl,H⟩;refine J0 H ?_;refine J9 H ?_;refine Jc rfl rfl (aW sp bp H) ?_;clear H;rintro v w ⟨ip,rfl,H⟩;refine G3 H ?_;refine Xq H ?_;refine Jc rfl rfl (Tx H) ?_;clear H;rintro v w ⟨trp,rfl,H⟩;refine Jc rfl rfl (Tu H) ?_;clear H;rintro v w ⟨rp,rfl,H⟩;refine Q5 rfl (R3 Qo (ki .i64) H rfl ?_);clear H;intro sm w H;refine Q5 rfl (R3 Qo (ki .i64) H rfl ?_);clear H;intro mm w H;refine XW H ?_;clear H;intro b47 w H;refine J3 H ?_;have hget:∀ {i:Nat} {t:QK},(List.replicate slots (⟨0,none⟩:QK))[i]? = some t→t=⟨0,none⟩:=fun h=>eq_of_mem_replicate (mem_of_getElem? h);have hget0:∀ {i r:Nat},(List.replicate n 0)[i]? = some r→r=0:=fun h=>eq_of_mem_replicate (mem_of_getElem? h)
 have hw:WF ⟨size,List.replicate n 0,[],List.replicate slots ⟨0,none⟩,0,[],[],[],[]⟩:=by
  refine⟨⟨h3,h4⟩,by simp;omega,by simp;omega,by simp,fun i t h=>?_,fun i g e h=>?_,fun i j g h e f _ hi _=>?_,by simp,rfl,rfl,by simp,by simp,fun c r h h0=>?_,by simp⟩
  ·have:=hget h;subst this;simp
  ·have:=hget h;cases this
  ·have:=hget hi;cases this
  ·exact absurd (hget0 h) h0
 have hm:VT ⟨size,List.replicate n 0,[],List.replicate slots ⟨0,none⟩,0,[],[],[],[]⟩ (List.replicate (n*size) 0):=by
  refine⟨by simp,fun i g e h=>?_,fun i g e h=>?_⟩
  ·have:=hget h;cases this
  ·have:=hget h;cases this
 have H:Q0 w (star (([]:List (Int×Nat×QF)).map (VL sp))::_):=Q0.star.2 H;have H:Q0 w (star (([]:List (Int×Nat×List Nat)).map V8)::_):=Q0.star.2 H;replace H:=Js [2,6,6,7,6,5,4,3,1,1,0] 0 H;have H:=VY (s:=⟨size,List.replicate n 0,[],List.replicate slots ⟨0,none⟩,0,[],[],[],[]⟩) (q:=⟨sp,bp,ip,tp,trp,rp,sm,mm⟩) hw hm H;exact Q3 (Jy H rfl fun w' H'=>⟨_,rfl,H'⟩)
def GV (size:Nat) (x:Nat×Nat) (e:Q8):Prop:=(x.2=1∧x.1*size≤e.addr∧QN e≤(x.1+1)*size)∨(2≤x.2∧e.addr=x.1*size∧x.2=e.ws.length / size+1)
def Y0 (s:CS):Prop:=∀ (k g:Nat) (e:Q8),s.tab[k]? = some ⟨g,some e⟩→∃ x∈s.sps,x.1=e.region∧∃ y∈x.2.2.parts,GV s.size y e
theorem GV.alike {size:Nat} {x:Nat×Nat} {e e':Q8} (h:GV size x e) (h1:e'.addr=e.addr) (h2:e'.ws.length=e.ws.length):GV size x e':=by
 unfold GV QN at *;rw[h1,h2];exact h
theorem bj {size:Nat} (hs:1≤size) {x:Nat×Nat} {e:Q8} (h:GV size x e):x.1*size≤e.addr∧QN e≤(x.1+x.2)*size:=by
 rcases h with ⟨h1,h2,h3⟩|⟨h1,h2,h3⟩
 ·rw[h1];exact⟨h2,h3⟩
 ·refine⟨by omega,?_⟩;have h4:e.ws.length < (e.ws.length / size+1)*size:=Nat.lt_mul_of_div_lt (Nat.lt_succ_self _) (by omega);rw[Nat.add_mul,h3];unfold QN;omega
theorem br {s:CS} (hP:Y0 s) {i g0 r q:Nat} {S S':QF} {p1 p2:List (Int×Nat×QF)} (hs:s.sps=p1++((r:Int),q,S)::p2) {e:Q8} (hreg:e.region=r) {own' mem mem':List Nat} (hsz:1≤s.size) (hS:GO s.size s.own r S)
  (al:UG s.size s.own mem r S (e.ws.length+1) own' mem' S' e.addr) {s':CS} (h1:s'.size=s.size) (h2:s'.tab=s.tab.set i ⟨g0+1,some e⟩) (h3:s'.sps=p1++((r:Int),q,S')::p2):Y0 s':=by
 have hsub:(∀ y∈S.parts,y∈S'.parts)∧∃ y∈S'.parts,GV s.size y e:=by
  generalize hea:e.addr=ad at al;cases al with
  | room hn=>
   have hfin:S.fin≠0:=by omega
   obtain⟨c,hc1,hc2,hc3⟩:=hS.fin hfin;refine⟨fun y hy=>hy,(c,1),hc3,.inl ⟨rfl,?_,?_⟩⟩
   ·show c*s.size≤e.addr;omega
   ·show QN e≤(c+1)*s.size;unfold QN;omega
  | @one a ha hf hn=>
   refine⟨fun y hy=>mem_append.2 (.inl hy),(a,1),by simp,.inl ⟨rfl,?_,?_⟩⟩
   ·show a*s.size≤e.addr;omega
   ·show QN e≤(a+1)*s.size;have:(a+1)*s.size=a*s.size+s.size:=Nat.succ_mul _ _;unfold QN;omega
  | @run a k hk ha hf hn hn2=>
   refine⟨fun y hy=>mem_append.2 (.inl hy),(a,k),by simp,.inr ⟨hk,hea,?_⟩⟩;show k=e.ws.length / s.size+1;have h4:(k - 1)*s.size≤e.ws.length:=by omega
   have h5:k - 1≤e.ws.length / s.size:=(Nat.le_div_iff_mul_le (by omega)).2 h4;have h6:e.ws.length / s.size < k:=(Nat.div_lt_iff_lt_mul (by omega)).2 (by omega);omega
 intro j n f hj;rw[h2] at hj;rw[h1,h3]
 rcases Qz hj with ⟨rfl,u1,_⟩|⟨h0,hj⟩
 ·injection u1 with _ u1
  injection u1 with u1
  subst u1;obtain⟨y,y1,y2⟩:=hsub.2;exact⟨((r:Int),q,S'),by simp,hreg.symm,y,y1,y2⟩
 ·obtain⟨x,x1,x2,y,y1,y2⟩:=hP j n f hj;rw[hs] at x1
  rcases G8 x1 with rfl|x1
  ·exact⟨((r:Int),q,S'),by simp,x2,y,hsub.1 y y1,y2⟩
  ·exact⟨x,X5 x1,x2,y,y1,y2⟩
structure Y3 (s s':CS):Prop where
 par:s'.par=s.par
 sps:s'.sps=s.sps
 size:s'.size=s.size
 tab:∀ (k g:Nat) (e':Q8),s'.tab[k]? = some ⟨g,some e'⟩→∃ e,s.tab[k]? = some ⟨g,some e⟩∧e'.region=e.region∧e'.addr=e.addr∧e'.ws.length=e.ws.length
theorem Y3.refl (s:CS):Y3 s s:=⟨rfl,rfl,rfl,fun k g e h=>⟨e,h,rfl,rfl,rfl⟩⟩
theorem Y3.part {s s':CS} (h:Y3 s s') (hP:Y0 s):Y0 s':=by
 intro k g e' hk;obtain⟨e,h1,h2,h3,h4⟩:=h.tab k g e' hk;obtain⟨x,x1,x2,y,y1,y2⟩:=hP k g e h1;rw[h.sps,h.size,h2];exact⟨x,x1,x2,y,y1,y2.alike h3 h4⟩
theorem Y3.set {s:CS} {k g:Nat} {e e':Q8} (hk:s.tab[k]? = some ⟨g,some e⟩) (a:e'.region=e.region∧e'.addr=e.addr∧e'.ws.length=e.ws.length) (R:List ((Int×Int)×Int)):Y3 s { VO s k g e' with rem:=R }:=by
 refine⟨rfl,rfl,rfl,fun j n f hj=>?_⟩;have hj:(s.tab.set k ⟨g,some e'⟩)[j]? = some ⟨n,some f⟩:=hj
 rcases Qz hj with ⟨rfl,h1,_⟩|⟨_,h1⟩
 ·injection h1 with h1 h2
  injection h2 with h2
  subst h1 h2;exact⟨e,hk,a⟩
 ·exact⟨f,h1,rfl,rfl,rfl⟩
open Go.SL Go.Lib
theorem Ch [Q4] {E b:Nat} {post:List Value} {fr:List Q2}:∀ (new old pre:List Value) {w:World},old.length=new.length→Q0 w (pts b (row E (pre++old++post))::fr)→Q0 (w.setCells b pre.length new) (pts b (row E (pre++new++post))::fr)
 | [],old,pre,w,hl,H=>by
  obtain rfl:old=[]:=length_eq_zero_iff.1 hl;exact H
 | v::r,old,pre,w,hl,H=>by
  obtain⟨o,t,rfl⟩:∃ o t,old=o::t:=by
   cases old with
   | nil=>cases hl
   | cons o t=>exact⟨o,t,rfl⟩
  have hb:=H.pts
  have H1:Q0 (w.setCell ⟨b,pre.length,none⟩ v) (pts b (row E (pre++v::t++post))::fr):=by
   refine H.set ?_ ?_
   ·show (w.heap.modify b _)[b]? = _;rw[Array.getElem?_modify,if_pos rfl,hb];simp only[Option.map_some,row];congr 2;simp
   ·intro c hc;show (w.heap.modify b _)[c]? = _;rw[Array.getElem?_modify,if_neg (Ne.symm hc)]
  rw[show pre++v::t++post=(pre++[v])++t++post by simp] at H1;have h2:=Ch r t (pre++[v]) (by simpa using hl) H1;rw[length_append] at h2;rw[show pre++v::r++post=(pre++[v])++r++post by simp];exact h2
theorem bw [Q4] (v:Value) (l:List Nat) (x i:Nat) (hi:i < l.length) (hl:l.length≤100000) (b:Nat) {w:World} {fr:List Q2} (H:Q0 w (NL v l::pts b (row 3 [.int .i64 x])::fr)) :
  Calls Tryz.prog 143 #[v,.int .i64 i,.slice (some ⟨b,0,none⟩) 1 1] w (ret fun v w'=>Q0 w' (NL v (l.take i++x::l.drop i)::fr)):=by
 have hnl:(l.take i++x::l.drop i).length=l.length+1:=by simp;omega
 have hcl:(QA l).length=l.length:=by rw[QH];omega
 have h1c:∀ v∈QA l,v.oneCell'=true:=fun v hv=>by obtain⟨y,_,rfl⟩:=mem_map.1 hv;rfl
 have h1v:∀ v∈[Value.int .i64 (x:Int)],v.oneCell'=true:=fun v hv=>by rw[mem_singleton] at hv;subst hv;rfl
 rcases GD H with ⟨_,h0,_⟩|⟨b',n,cap,s,rfl,e3,e4,e5,H2⟩
 ·rw[h0] at hcl;cases l with
  | nil=>cases hi
  | cons a t=>cases hcl
 obtain rfl:n=l.length:=by omega
 have hb:=H2.pts;have hx:=H2.swap.pts;have hne:b'≠b:=Q0.ne H2
 have hvs:∀ j v,[Value.int .i64 (x:Int)][j]? = some v→w.cell? ⟨b,0+j,none⟩=some v:=fun j v hj=>by
  rw[Nat.zero_add];exact Zl hx hj
 have hcs:∀ j v,(QA l)[j]? = some v→w.cell? ⟨b',0+j,none⟩=some v:=fun j v hj=>by
  rw[Nat.zero_add];refine Zl hb ?_;rw[getElem?_append_left (List.getElem?_eq_some_iff.1 hj).1];exact hj
 have hcat:∀ t:List Value,(QA l).take i++[Value.int .i64 (x:Int)]++((QA l).drop i++t)=QA (l.take i++x::l.drop i)++t:=by
  intro t;unfold QA;simp[map_take,map_drop]
 by_cases hroom:l.length+1≤cap
 ·obtain⟨s0,s',rfl⟩:∃ s0 s',s=s0::s':=by
   cases s with
   | nil=>simp at e5;omega
   | cons s0 s'=>exact⟨s0,s',rfl⟩
  refine(Any2.slices_Insert_int_shift Tryz.laysIns b' 0 l.length cap i b 0 1 1 (QA l) [.int .i64 x] w hi (by omega) hroom e4.2 (Ne.symm hne) hcl rfl hcs ?_ (fun j _=>W4 hb) hvs h1c h1v 3 3 1 (QA l++s0::s').length ?_ ?_ ?_ (W4 hx) (W4 hx)).mono ?_
  ·intro j hj;rw[Nat.zero_add,Zl hb (getElem?_eq_getElem (by simp;omega))];rfl
  ·simp[World.shape?,hx]
  ·simp[World.shape?,hb]
  ·simp
  ·rintro e w' ⟨rfl,rfl⟩
   have H3:Q0 w.drew (pts b' (row 3 ((QA l).take (i+1)++((QA l).drop (i+1)++[s0])++s'))::pts b (row 3 [.int .i64 x])::fr):=by
    rw[show (QA l).take (i+1)++((QA l).drop (i+1)++[s0])++s'=QA l++s0::s' by rw[← append_assoc,take_append_drop];simp];exact H2.heap rfl
   have H4:=Ch ((QA l).drop i) _ _ (by simp;omega) H3;rw[show ((QA l).take (i+1)).length=0+(i+1) by rw[length_take];omega] at H4
   have hgi:(QA l).take (i+1)=(QA l).take i++[(QA l)[i]'(by omega)]:=by
    rw[take_add_one,getElem?_eq_getElem (by omega)];rfl
   rw[show (QA l).take (i+1)++(QA l).drop i++s'=(QA l).take i++[(QA l)[i]'(by omega)]++((QA l).drop i++s') by rw[hgi];simp] at H4;have H5:=Ch [Value.int .i64 (x:Int)] [(QA l)[i]'(by omega)] ((QA l).take i) rfl H4;rw[show ((QA l).take i).length=0+i by rw[length_take];omega,hcat] at H5;refine Q0.drop (Q0.swap (ZK (by rw[QH,hnl]) ⟨hroom,e4.2⟩ ?_ H5));simp at e5 ⊢;omega
 ·obtain rfl:cap=l.length:=by omega
  refine(Any2.slices_Insert_int_grow Tryz.laysIns b' 0 l.length l.length i b 0 1 1 (QA l) [.int .i64 x] w hi (by omega) (Nat.le_refl _) (by omega) (by omega) hcl rfl hcs hvs h1c h1v).mono ?_;rintro e w' ⟨rfl,rfl⟩;generalize hG:grownCap w (l.length+1) l.length _=G;have hG1:l.length+1≤G:=by rw[← hG];exact grownCap_ge w _ _ _
  have hG2:G≤9223372036854775807:=by rw[← hG];exact grownCap_le_maxLen w _ _ _ (by unfold maxLen;omega)
  have H3:=H2.new (.cells (((QA l).take i).toArray++Builtin.zeroCells (Value.int .i64 0).cells (l.length+1 - i)++Builtin.zeroCells (Value.int .i64 0).cells (G - (l.length+1))) 3 (0,0));have hzc:∀ k,(Builtin.zeroCells (Value.int .i64 0).cells k).toList.length=k:=fun k=>by rw[Array.length_toList,size_zeroCells];exact Nat.mul_one k
  obtain⟨z0,zt,hz⟩:∃ z0 zt,(Builtin.zeroCells (Value.int .i64 0).cells (l.length+1 - i)).toList=z0::zt:=by
   cases hh:(Builtin.zeroCells (Value.int .i64 0).cells (l.length+1 - i)).toList with
   | nil=>have:=hzc (l.length+1 - i);rw[hh] at this;simp at this;omega
   | cons z0 zt=>exact⟨z0,zt,rfl⟩
  have hzt:zt.length=l.length - i:=by
   have:=hzc (l.length+1 - i);rw[hz,length_cons] at this;omega
  have H4:Q0 (w.alloc (.cells (((QA l).take i).toArray++Builtin.zeroCells (Value.int .i64 0).cells (l.length+1 - i)++Builtin.zeroCells (Value.int .i64 0).cells (G - (l.length+1))) 3 (0,0))).drew (pts w.heap.size (row 3 ((QA l).take i++[z0]++(zt++(Builtin.zeroCells (Value.int .i64 0).cells (G - (l.length+1))).toList)))::fr):=by
   have h:=(Q0.swap H3).drop;have h:=(Q0.swap h).drop;refine(Q0.head h fun hh x=>?_).heap rfl
   have e:((QA l).take i).toArray++Builtin.zeroCells (Value.int .i64 0).cells (l.length+1 - i)++Builtin.zeroCells (Value.int .i64 0).cells (G - (l.length+1))=((QA l).take i++[z0]++(zt++(Builtin.zeroCells (Value.int .i64 0).cells (G - (l.length+1))).toList)).toArray:=by
    apply Array.ext';simp[hz]
   rw[e] at x;exact x
  have H5:=Ch [Value.int .i64 (x:Int)] [z0] ((QA l).take i) rfl H4;rw[show ((QA l).take i).length=i by rw[length_take];omega] at H5
  have H6:Q0 ((w.alloc (.cells (((QA l).take i).toArray++Builtin.zeroCells (Value.int .i64 0).cells (l.length+1 - i)++Builtin.zeroCells (Value.int .i64 0).cells (G - (l.length+1))) 3 (0,0))).drew.setCells w.heap.size i [Value.int .i64 (x:Int)]).drew (pts w.heap.size (row 3 (((QA l).take i++[Value.int .i64 (x:Int)])++zt++(Builtin.zeroCells (Value.int .i64 0).cells (G - (l.length+1))).toList))::fr):=by
   rw[show ((QA l).take i++[Value.int .i64 (x:Int)])++zt++(Builtin.zeroCells (Value.int .i64 0).cells (G - (l.length+1))).toList=(QA l).take i++[Value.int .i64 (x:Int)]++(zt++(Builtin.zeroCells (Value.int .i64 0).cells (G - (l.length+1))).toList) by simp];exact H5.heap rfl
  have H7:=Ch ((QA l).drop i) zt _ (by simp;omega) H6;rw[show ((QA l).take i++[Value.int .i64 (x:Int)]).length=i+1 by simp;omega,show (QA l).take i++[Value.int .i64 (x:Int)]++(QA l).drop i++(Builtin.zeroCells (Value.int .i64 0).cells (G - (l.length+1))).toList=(QA l).take i++[Value.int .i64 (x:Int)]++((QA l).drop i++(Builtin.zeroCells (Value.int .i64 0).cells (G - (l.length+1))).toList) by simp,hcat] at H7;exact ZK (by rw[QH,hnl]) ⟨hG1,hG2⟩ (by rw[hzc];omega) H7
def YO (l:List Nat) (x:Nat):List Nat:=l.take (Z6 l x)++x::l.drop (Z6 l x)
theorem bz (l:List Nat) (x:Nat):Z6 l x≤l.length:=countP_le_length
theorem cQ {l:List Nat} {x:Nat} (h:∀ a∈l,a < x):YO l x=l++[x]:=by
 unfold YO;rw[N4 h,take_length,drop_length]
theorem FV {l:List Nat} {x y:Nat}:y∈YO l x↔y=x∨y∈l:=by
 unfold YO;rw[mem_append,mem_cons];have h:y∈l↔y∈l.take (Z6 l x)∨y∈l.drop (Z6 l x):=by rw[← mem_append,take_append_drop]
 rw[h];constructor
 ·rintro(h|h|h)
  ·exact .inr (.inl h)
  ·exact .inl h
  ·exact .inr (.inr h)
 ·rintro(h|h|h)
  ·exact .inr (.inl h)
  ·exact .inl h
  ·exact .inr (.inr h)
theorem cV {a:Nat} {l:List Nat} {x:Nat} (h:a < x):YO (a::l) x=a::YO l x:=by
 unfold YO
 have:Z6 (a::l) x=Z6 l x+1:=by
  unfold Z6;rw[countP_cons_of_pos (by simpa using h)]
 rw[this,take_succ_cons,drop_succ_cons];rfl
theorem cY {a:Nat} {l:List Nat} {x:Nat} (hs:(a::l).Pairwise (· < ·)) (h:x < a):YO (a::l) x=x::a::l:=by
 unfold YO
 have:Z6 (a::l) x=0:=by
  unfold Z6;rw[countP_eq_zero];intro y hy;rw[pairwise_cons] at hs
  rcases mem_cons.1 hy with rfl|hy
  ·simpa using Nat.le_of_lt h
  ·have:=hs.1 y hy;simp;omega
 rw[this];rfl
theorem FY:∀ {l:List Nat} {x:Nat},l.Pairwise (· < ·)→x∉l→(YO l x).Pairwise (· < ·)
 | [],x,_,_=>by unfold YO;simp
 | a::l,x,hs,hx=>by
  rw[mem_cons,not_or] at hx;by_cases h:a < x
  ·rw[cV h,pairwise_cons];rw[pairwise_cons] at hs;refine⟨fun y hy=>?_,FY hs.2 hx.2⟩
   rcases FV.1 hy with rfl|hy
   ·exact h
   ·exact hs.1 y hy
  ·have h:x < a:=by omega
   rw[cY hs h,pairwise_cons];refine⟨fun y hy=>?_,hs⟩
   rcases mem_cons.1 hy with rfl|hy
   ·exact h
   ·rw[pairwise_cons] at hs;have:=hs.1 y hy;omega
theorem NJ [Q4] (p:Nat) (l:List Nat) (x:Nat) (hs:l.Pairwise (· < ·)) (hl:l.length < 100000) (hn:x∉l) {w:World} {fr:List Q2} (H:Q0 w (Qu p l::fr)) :
  Calls Tryz.prog 83 #[pp p,.int .i64 x] w (ret fun v w'=>v = .bool true∧Q0 w' (Qu p (YO l x)::fr)):=by
 by_cases he:Z6 l x=l.length
 ·have hx:∀ a∈l,a < x:=by
   have:l.countP (· < x)=l.length:=he;rw[countP_eq_length] at this;intro a ha;simpa using this a ha
  rw[cQ hx];exact aJ p l x hs (by omega) hx H
 obtain⟨a,c,H⟩:=Wb H;have hle:=bz l x;refine QQ Tryz.func83 rfl (by kernel_rfl) ?_;refine WL H ?_;obtain⟨D1,H,hD1,hC1⟩:=sls_rd H.swap (QH _) (by decide);refine Jc rfl rfl (Ak _ l (by omega) hs x (hD1 _) H) ?_;clear H;rintro v w ⟨rfl,H⟩;replace H:=hC1 _ _ H;rw[decide_eq_false hn];refine UV H ?_;refine J6 H ?_;refine Qk (fun ms σ w=>ms=[]∧σ 6 = .bool false∧Q0 w (Qu p (YO l x)::fr)) ?_ ?_
 ·refine Vp rfl ?_;refine AG H ?_;refine YA H ?_;refine GJ H ?_;clear H;intro b27 w H;replace H:=Js [1,0,0] 0 H;refine Jc rfl rfl (bw _ l x (Z6 l x) (by omega) (by omega) _ H) ?_;clear H;intro v w H;obtain⟨a28,m28,c28,rfl⟩:=Qs H;refine GL H ?_;clear H;intro w H;refine J2 H ?_;exact⟨rfl,rfl,rfl,Ke H.swap⟩
 ·clear H;rintro ms σ w ⟨rfl,g6,H⟩;rw[Q1 g6];refine VX H ?_;exact Q3 (Jy H rfl fun w' H'=>⟨rfl,H'⟩)
def Kh (s:CS) (id:Int):QL:=(s.lays[id.toNat - 1]?).getD ⟨0,[],0,[]⟩
def ZN (s:CS) (region id count:Int):Nat:=if (QY s.par region).isSome=false then 15 else if id < 1∨(s.lays.length:Int) < id then 6 else (VQ (Kh s id) count).2
def YE (s:CS) (id count:Int):Nat:=(VQ (Kh s id) count).1
theorem Ki {α:Type} {V:Type} {l:List α} {f:α→Int} {g:α→V} {k:Int} {b:V} (h:QY (l.map fun a=>(f a,g a)) k=some b):∃ x g1 g2,l=g1++x::g2∧f x=k∧g x=b:=by
 obtain⟨x,hx,h1⟩:=mem_map.1 (Un h);injection h1 with h1 h2
 obtain⟨g1,g2,h3⟩:=append_of_mem hx;exact⟨x,g1,g2,h3,h1,h2⟩
theorem Kj {α:Type} {V:Type} {l:List α} {f:α→Int} {g:α→V} {k:Int} (h:k∈l.map f):∃ b,QY (l.map fun a=>(f a,g a)) k=some b:=by
 cases hf:QY (l.map fun a=>(f a,g a)) k with
 | some b=>exact⟨b,rfl⟩
 | none=>
  refine absurd ?_ (W6.1 hf);rw[map_map];exact h
theorem NM {size:Nat} {own:List Nat} {r:Int} {S:QF} (h:GO size own r S):S.parts.length≤own.length:=by
 have h1:∀ l:List (Nat×Nat),(∀ p∈l,1≤p.2)→l.length≤(QR l).length:=by
  intro l
  induction l with
  | nil=>intro _;exact Nat.zero_le _
  | cons a l ih=>
   intro ha;have h1:=ih (fun p hp=>ha p (mem_cons_of_mem _ hp));have h2:=ha a (mem_cons_self ..);simp only[QR,flatMap_cons,length_append,length_map,length_range,length_cons] at h1 ⊢;omega
 have h2:=h1 S.parts (fun p hp=>(h.parts p hp).1)
 have h3:=Ga h.nodup (l₂:=List.range own.length) (fun c hc=>by
  obtain⟨q,hq,_,_⟩:=(h.owned c).1 hc;exact mem_range.2 (List.getElem?_eq_some_iff.1 hq).1)
 rw[length_range] at h3;omega
theorem cZ {size:Nat} {own:List Nat} {r:Int} {S:QF} (h:GO size own r S) (h1:own.length≤63) (h2:size≤1024):S.fin≤1048576:=by
 by_cases h0:S.fin=0
 ·omega
 ·obtain⟨c,e,_,hc⟩:=h.fin h0;have:=(h.parts _ hc).2;rw[e];exact Nat.le_trans (Nat.mul_le_mul (show c+1≤64 by omega) h2) (by omega)
theorem NN {size:Nat} {own:List Nat} {e:Q8} (h:Zr size own e):U0 size own e.addr (e.ws.length+1):=by
 intro c c1 c2;obtain⟨r,hr,_,hr1⟩:=h.2 c c1 (by rw[show e.addr+(e.ws.length+1) - 1=e.addr+e.ws.length by omega] at c2;exact c2);rw[getD_eq_getElem?_getD,hr];show r≠0;omega
theorem NO {size:Nat} {own mem own' mem':List Nat} {r n a:Nat} {S S':QF} (h:UG size own mem r S n own' mem' S' a):own'.length=own.length:=by
 cases h with
 | room _=>rfl
 | one ha _ _=>exact Vy ha
 | run _ ha _ _ _=>exact Vy ha
def FZ (own own':List Nat) (k:Nat):Prop:=own'.length=own.length∧∃ a0 k0,k0≤k∧∀ i,own'.getD i 0≠0→own.getD i 0≠0∨(a0≤i∧i < a0+k0)
theorem cG {size:Nat} (hs:1≤size) {own mem own' mem':List Nat} {r n a:Nat} {S S':QF} (h:UG size own mem r S (n+1) own' mem' S' a):FZ own own' (n / size+1):=by
 refine⟨NO h,?_⟩;cases h with
 | room _=>exact⟨0,0,Nat.zero_le _,fun i hi => .inl hi⟩
 | @one b ha _ _=>
  refine⟨b,1,Nat.le_add_left 1 _,fun i hi=>?_⟩;rw[Rk ha] at hi;split at hi
  ·right;assumption
  ·exact .inl hi
 | @run b k hk ha _ _ hn2=>
  refine⟨b,k,?_,fun i hi=>?_⟩
  ·have h2:k - 1≤n / size:=by
    rw[Nat.le_div_iff_mul_le (by omega)];omega
   omega
  ·rw[Rk ha] at hi;split at hi
   ·right;assumption
   ·exact .inl hi
theorem cX [Q4] (p:Nat) (s:CS) (region id count:Int) {w:World} {fr:List Q2} [hT:YW 0 Lib.deBruijn64tab fr] (H:Q0 w (QW p s::fr)) :
  Calls Tryz.prog 23 #[pp p,.int .i64 region,.int .i64 id,.int .i64 count] w (ret fun v w'=>
   (ZN s region id count≠0∧v = .tuple #[UY 0 0,.int .i64 (ZN s region id count)]∧Q0 w' (QW p s::fr)) ∨
   (ZN s region id count=0∧(∀ t∈s.tab,busy t=true)∧v = .tuple #[UY 0 0,.int .i64 12]∧Q0 w' (QW p s::fr)) ∨
   (ZN s region id count=0∧(∀ a,a+(YE s id count / s.size+1)≤s.own.length→∃ i,a≤i∧i < a+(YE s id count / s.size+1)∧s.own.getD i 0≠0)∧v = .tuple #[UY 0 0,.int .i64 11]∧Q0 w' (QW p s::fr)) ∨
   (ZN s region id count = 0 ∧ ∃ k g0 addr s', s.tab[k]? = some ⟨g0, none⟩ ∧ g0 ≤ 254 ∧ (∀ j t, j < k → s.tab[j]? = some t → busy t = true) ∧ v = .tuple #[UY k (g0 + 1), .int .i64 0] ∧
    s'.size=s.size∧s'.lays=s.lays∧s'.last=s.last∧s'.par=s.par∧s'.rem=s.rem∧s'.tab=s.tab.set k ⟨g0+1,some ⟨addr,region,true,false,id.toNat,count.toNat,List.replicate (YE s id count) 0⟩⟩∧FZ s.own s'.own (YE s id count / s.size+1)∧(Y0 s→Y0 s')∧Q0 w' (QW p s'::fr))):=by
 obtain⟨q,mem,hw,hm,H⟩:=Vz H;have hndp:=Mq (H.pull 5);refine QQ Tryz.func23 rfl (by kernel_rfl) ?_;refine Y7 H ?_;clear H;intro b8 w H;refine J0 H ?_;replace H:=Js [6,0,0,0,0,0,0,0,0,0,0,0] 0 H;refine J6 H ?_
 refine Y4 (fun ms σ w=>ms=[]∧(QY s.par region).isSome=true∧σ 0=pp p∧σ 1 = .int .i64 region∧σ 2 = .int .i64 id∧σ 3 = .int .i64 count∧σ 8=pp b8 ∧
  Q0 w (Qi q.bp s.lays::pts b8 (row 62 [.int .i64 0,.int .i64 0])::Qt p q::Qr q.ip q.sp q.bp::ST q.sp s.size mem s.own::Qg q.tp s.tab::Qf q.trp s.last s.par::RS q.rp s.rem::mp (ki .i64) Qo q.sm (s.sps.map VJ)::star (s.sps.map (VL q.sp))::mp (ki .i64) Qo q.mm (s.mns.map V0)::star (s.mns.map V8)::fr)) ?_ ?_
 ·refine RK H ?_;refine V2 H ?_;refine Jc rfl rfl (Ev q.trp s.last s.par region H) ?_;clear H;rintro v w ⟨rfl,H⟩;cases hf:(QY s.par region).isSome with
  | false=>
   have he:ZN s region id count=15:=by unfold ZN;rw[if_pos hf]
   refine Dw H ?_;clear H;intro w H;refine J0 H ?_;replace H:=Js [1,1,1,1,1,1,0,0,0,0,0,0] 0 H;refine Q3 (.inr ⟨by simp,Jz H (fun w' H' => .cellN H' rfl (by repeat first|exact .nil _|apply Q9.cons rfl) (.tmp .nil)) fun w' H' => .inl ⟨by omega,by rw[he];rfl,VY hw hm H'.drop⟩⟩)
  | true=>
   refine WE H ?_;replace H:=Js [4,1,1,1,1,1,0,0,0,0,0,0] 0 H;exact .inl ⟨rfl,rfl,rfl,rfl,rfl,rfl,rfl,rfl,H⟩
 clear H;rintro ms σ w ⟨rfl,hlive,g0,g1,g2,g3,g8,H⟩;rw[Q1 g0,Q1 g1,Q1 g2,Q1 g3,Q1 g8];clear g0 g1 g2 g3 g8;refine V2 H ?_;by_cases hid:id < 1∨(s.lays.length:Int) < id
 ·have he:ZN s region id count=6:=by unfold ZN;rw[hlive,if_neg (by simp),if_pos hid]
  refine Jc rfl rfl (To q.bp s.lays id hid H) ?_;clear H;rintro v w ⟨rfl,H⟩;refine Ve H ?_;clear H;intro b10 w H;refine J5 H ?_;clear H;intro w H;refine YY H ?_;refine C0 H ?_;clear H;intro w H;refine J0 H ?_;replace H:=Js [2,2,2,1,1,1,1,1,1,1,1,1] 1 H;exact Q3 (Jz H (fun w' H' => .cellN H' rfl (by repeat first|exact .nil _|apply Q9.cons rfl) (.tmp .nil)) fun w' H' => .inl ⟨by omega,by rw[he];rfl,VY hw hm H'.drop⟩)
 obtain⟨i,rfl⟩:∃ i:Nat,id=i:=⟨id.toNat,by omega⟩;have hil:=getElem?_eq_getElem (l:=s.lays) (i:=i - 1) (by omega)
 have hlay:Kh s (i:Int)=s.lays[i - 1]'(by omega):=by
  unfold Kh;rw[Int.toNat_natCast,hil];rfl
 have hR:Vh (Kh s (i:Int)):=by rw[hlay];exact hw.lays.2 _ (getElem_mem _)
 rw[← hlay] at hil;have hE:ZN s region i count=(VQ (Kh s i) count).2:=by unfold ZN;rw[hlive,if_neg (by simp),if_neg hid]
 have hN:YE s i count=(VQ (Kh s i) count).1:=rfl;generalize Kh s (i:Int)=l at hil hR hE hN;refine Jc rfl rfl (I0 q.bp s.lays i (by omega) l hil H) ?_;clear H;rintro v w ⟨vr,vq,rfl,H⟩;obtain⟨ar,cr,rfl⟩:=QE H (QH _) (by decide);obtain⟨aq,cq,rfl⟩:=QE H.drop (QH _) (by decide);refine Ve H ?_;clear H;intro b10 w H;refine J5 H ?_;clear H;intro w H;refine Yl H ?_;refine AA H ?_;replace H:=Js [1,1,0,0,0,0,0,0,0,0,0,0,0,0,0] 0 H;obtain⟨D1,H,hD1,hC1⟩:=sls_rd H (QH _) (by decide);obtain⟨D2,H,hD2,hC2⟩:=sls_rd H.swap (QH _) (by decide);refine Jc rfl rfl (CW _ _ l hR count ⟨(hD1 _).there,hD2 _⟩ H) ?_;clear H;rintro v w ⟨rfl,H⟩;replace H:=hC1 _ _ (hC2 _ _ H).swap;replace H:=Js [8,3,3,3,3,3,3,3,3,3,3,3] 3 H;generalize hsz:VQ l count=z at hE hN H ⊢;obtain⟨n,er⟩:=z;refine WB H ?_
 refine Y4 (fun ms σ w=>ms=[]∧er=0∧¬ (∀ t∈s.tab,busy t=true)∧σ 0=pp p∧σ 1 = .int .i64 region∧σ 2 = .int .i64 i∧σ 3 = .int .i64 count∧σ 8=pp b8∧σ 12 = .int .i64 n ∧
  Q0 w (Qg q.tp s.tab::Qi q.bp s.lays::pts b8 (row 62 [.int .i64 0,.int .i64 0])::Qt p q::Qr q.ip q.sp q.bp::ST q.sp s.size mem s.own::Qf q.trp s.last s.par::RS q.rp s.rem::mp (ki .i64) Qo q.sm (s.sps.map VJ)::star (s.sps.map (VL q.sp))::mp (ki .i64) Qo q.mm (s.mns.map V0)::star (s.mns.map V8)::fr)) ?_ ?_
 ·refine QP ?_;refine VX H ?_;by_cases h0:er=0
  ·subst h0;refine Bv H ?_;refine Yk H ?_;refine Jc rfl rfl (NY q.tp s.tab H) ?_;clear H;rintro v w ⟨rfl,H⟩;have hbt:K4 s.tab≤s.tab.length:=length_filter_le _ _;by_cases hb:∀ t∈s.tab,busy t=true
   ·have hbe:K4 s.tab=s.tab.length:=by unfold K4;rw[filter_eq_self.2 hb]
    rw[show s.tab.length - K4 s.tab=0 by omega];refine Dw H ?_;clear H;intro w H;refine J0 H ?_;replace H:=Js [2,2,2,1,1,0,0,0,0,0,0,0] 0 H;refine Q3 (.inr ⟨by simp,Jz H (fun w' H' => .cellN H' rfl (by repeat first|exact .nil _|apply Q9.cons rfl) (.tmp .nil)) fun w' H' => .inr (.inl ⟨hE,hb,rfl,VY hw hm H'.drop⟩)⟩)
   ·have hbe:K4 s.tab≠s.tab.length:=by
     intro h;refine hb fun t ht=>?_;exact length_filter_eq_length_iff.1 h t ht
    refine J3 H ?_;rw[show (((s.tab.length - K4 s.tab:Nat):Int) == 0)=false by simp;omega];refine V4 H ?_;exact .inl ⟨rfl,rfl,rfl,hb,rfl,rfl,rfl,rfl,rfl,rfl,H⟩
  ·rw[show (((er:Nat):Int) != 0)=true by simpa using h0];refine C0 H ?_;clear H;intro w H;refine J0 H ?_;replace H:=Js [2,2,2,1,1,0,0,0,0,0,0,0] 0 H;refine Q3 (.inr ⟨by simp,Jz H (fun w' H' => .cellN H' rfl (by repeat first|exact .nil _|apply Q9.cons rfl) (.tmp .nil)) fun w' H' => .inl ⟨by rw[hE];exact h0,by rw[hE];rfl,VY hw hm H'.drop⟩⟩)
 clear H;rintro ms σ w ⟨rfl,rfl,hfree,g0,g1,g2,g3,g8,g12,H⟩;rw[Q1 g0,Q1 g1,Q1 g2,Q1 g3,Q1 g8,Q1 g12];clear g0 g1 g2 g3 g8 g12;obtain⟨z1,z2,z3,z4,z5⟩:=Hq hsz;obtain⟨c,rfl⟩:∃ c:Nat,count=c:=⟨count.toNat,by omega⟩;have hrk:region∈s.par.map (·.1):=Wc hlive;obtain⟨b,hkS⟩:=Kj (l:=s.sps) (f:=fun x=>x.1) (g:=fun x=>x.2.1) (k:=region) (by rw[hw.skeys];exact hrk);obtain⟨⟨r0,b0,S⟩,p1,p2,hsps,h01,h02⟩:=Ki hkS;obtain rfl:r0=region:=h01;obtain rfl:b0=b:=h02;obtain⟨b2,hkM⟩:=Kj (l:=s.mns) (f:=fun x=>x.1) (g:=fun x=>x.2.1) (k:=r0) (by rw[hw.mkeys];exact hrk);obtain⟨⟨r1,b1,L⟩,m1,m2,hmns,h11,h12⟩:=Ki hkM;obtain rfl:r1=r0:=h11;obtain rfl:b1=b2:=h12
 have hr1:1≤r1:=by
  obtain⟨⟨ra,rx⟩,hx,rfl⟩:=mem_map.1 hrk;exact(hw.par.2.2 _ _ hx).1
 obtain⟨r,rfl⟩:∃ r:Nat,r1=r:=⟨r1.toNat,by omega⟩;have hS:GO s.size s.own r S:=hw.spc ((r:Int),b0,S) (by rw[hsps];simp);have hfin:=cZ hS hw.own.2 hw.size.2;have hpl:=NM hS;have hown:=hw.own.2;refine V2 H ?_;refine Q5 rfl (G0 (ek:=ki .i64) (vv:=Qo) (key:=(r:Int)) H rfl rfl Vf rfl ?_);have hkS':QY (s.sps.map VJ) (r:Int)=some b0:=hkS;have hkM':QY (s.mns.map V0) (r:Int)=some b1:=hkM;rw[hkS'];refine YA H ?_;rw[Qb (x:=((n:Nat):Int)+1) (by omega) (by omega),show ((n:Nat):Int)+1=((n+1:Nat):Int) by omega];replace H:=Js [9,5,0,0,0,0,0,0,0,0,0,0] 0 H;replace H:Q0 w (Qm b0 q.sp r S::star ((p1++p2).map (VL q.sp))::_):=(Q0.pick (R:=VL q.sp) (x:=((r:Int),b0,S)) hsps).1 H;replace H:=Js [0,1,0,0,0,0,0,0,0,0,0,0,0] 0 H;refine Jc rfl rfl (Mx b0 q.sp r s.size (n+1) S mem s.own (by omega) (by omega) (by omega) hS.at1 hfin hown hw.size.1 hw.size.2 (by omega) H) ?_;clear H;rintro v w (⟨a,own',mem',S',rfl,al,H⟩|⟨rfl,hno,H⟩)
 case inr=>
  refine UV H ?_;refine C0 H ?_;clear H;intro w H;refine J0 H ?_;replace H:=Js [0,1,0,0,0,0,0,0,0,0,0,0,0] 0 H;have H:=(Q0.pick (R:=VL q.sp) (x:=((r:Int),b0,S)) hsps).2 H;replace H:=Js [5,5,3,1,1,2,2,2,0,1,1,0] 0 H;have H:=(VY hw hm H).swap;refine Q3 (Jz H (fun w' H' => .cellN H' rfl (by repeat first|exact .nil _|apply Q9.cons rfl) (.tmp .nil)) fun w' H' => .inr (.inr (.inl ⟨hE,?_,rfl,H'.drop⟩)));rw[hN];intro a ha;rw[Nat.add_sub_cancel] at hno;exact hno a ha
 have hol:=NO al;obtain⟨hml,hmo⟩:=Mw hw hm.len al;refine G2 H ?_;refine GI H ?_;refine XK H ?_;replace H:=Js [3,0,0,0,0,0,0,0,0,0,0,0,0] 0 H;refine Jc rfl rfl (bD q.tp s.tab ⟨a,r,true,false,i,c,List.replicate n 0⟩ H) ?_;clear H;rintro v w (⟨k,g0,hk,hg0,hbz,rfl,H⟩|⟨hb,_,_⟩)
 case inr=>exact absurd hb hfree
 have hkl:k < s.tab.length:=(List.getElem?_eq_some_iff.1 hk).1;have hsl:=hw.slots.2;refine Ve H ?_;clear H;intro b14 w H;refine J5 H ?_;clear H;intro w H;refine J0 H ?_;have hL:=hw.mine ((r:Int),b1,L) (by rw[hmns];simp)
 have hLk:k∉L:=by
  intro hj;obtain⟨g,f,hf,_⟩:=(hL.2 k).1 hj;rw[hk] at hf;cases hf
 have hLs:(YO L k).Pairwise (· < ·):=FY hL.1 hLk;have hmay:Xz i c k:=⟨by omega,by have:=hw.lays.1;omega,by omega,by omega⟩
 have hobj:X4 s.lays k ⟨a,r,true,false,i,c,List.replicate n 0⟩:=by
  refine⟨hmay,l,hil,hR,by simpa using hsz,fun x w hx=>?_⟩;have hx:(List.replicate n 0)[x]? = some w:=hx;have:=eq_of_mem_replicate (mem_of_getElem? hx);subst this;exact⟨by omega,fun _=>⟨.none,trivial,rfl⟩⟩
 have al':UG s.size s.own mem r S ((Q8.mk a r true false i c (List.replicate n 0)).ws.length+1) own' mem' S' (Q8.mk a r true false i c (List.replicate n 0)).addr:=by
  show UG s.size s.own mem r S ((List.replicate n 0).length+1) own' mem' S' a;rw[length_replicate];exact al
 have hwf:=aY hw hk hg0 hsps hmns hndp (e:=⟨a,r,true,false,i,c,List.replicate n 0⟩) rfl hobj al' hLs (fun j=>FV);have htk:(s.tab.set k (⟨g0+1,some ⟨a,r,true,false,i,c,List.replicate n 0⟩⟩:QK))[k]? = some ⟨g0+1,some ⟨a,r,true,false,i,c,List.replicate n 0⟩⟩:=getElem?_set_self hkl;have hlies:Zr s.size own' ⟨a,r,true,false,i,c,List.replicate n 0⟩:=(hwf.obj k _ _ htk).2.1
 have hfit:a+1+n≤mem'.length:=by
  have h1:QN (Q8.mk a r true false i c (List.replicate n 0))≤own'.length*s.size:=hlies.1;unfold QN at h1;rw[hml,hm.len,← hol];simpa using h1
 have hod:U0 s.size own' a (n+1):=by
  have:=NN hlies;simpa using this
 replace H:=Js [8,5,3,0,0,0,0,0,0,0,0,0,0,0] 0 H;refine J1 H ?_;clear H;intro w H;refine Yu H ?_;refine Jl 3 [10] H ?_;refine Dj H ?_;refine Jl 8 [10] H ?_;refine GF 9 rfl (Q7.none rfl) rfl (by kernel_rfl) ?_;refine Jo 10 H ?_;refine Jk rfl rfl (aD q.ip q.sp q.bp s.size s.lays mem' own' a i c k n l hmay hil hR hsz hfit hod H) ?_;clear H;rintro v w ⟨rfl,H⟩;refine Jx H ?_;replace H:=Js [13,0,0,0,0,0,0,0,0,0,0,0,0,0] 0 H;replace H:Q0 w (Qu b1 L::star ((m1++m2).map V8)::_):=(Q0.pick (R:=V8) (x:=((r:Int),b1,L)) hmns).1 H
 have hL1:L.length≤63:=by
  have:=Rm L 0 63 (fun x hx=>⟨Nat.zero_le _,by
   obtain⟨g,f,h3,_⟩:=(hL.2 x).1 hx;have h4:=(List.getElem?_eq_some_iff.1 h3).1;have:=hw.slots.2;omega⟩) hL.1
  omega
 refine J1 H ?_;clear H;intro w H;refine C3 H ?_;refine Ja 4 ?_;refine Xl 5 [8] (key:=(r:Int)) H rfl (Q7.none rfl) rfl rfl Vf (by kernel_rfl) ?_;rw[hkM'];refine Jf 6 ?_;refine Jl 7 [8] H ?_;refine Jo 8 H ?_;refine Jk rfl rfl (NJ b1 L k hL.1 (by omega) hLk H) ?_;clear H;rintro v w ⟨rfl,H⟩;refine Jx H ?_;refine KD H ?_;clear H;intro w H;refine J0 H ?_
 have hap:∀ (j g:Nat) (f:Q8),s.tab[j]? = some ⟨g,some f⟩→QN f≤(Q8.mk a r true false i c (List.replicate n 0)).addr∨QN (Q8.mk a r true false i c (List.replicate n 0))≤f.addr:=by
  intro j g f hj;have hne:j≠k:=fun h=>by subst h;rw[hk] at hj;cases hj
  refine hwf.apart j k g (g0+1) f _ hne ?_ htk;show (s.tab.set k _)[j]? = _;rw[getElem?_set_ne (fun h=>hne h.symm)];exact hj
 have hsl2:(mem'.set a (G6 i c k)).length=mem'.length:=length_set
 have hmem:=aZ hw hm hk (e:=⟨a,r,true,false,i,c,List.replicate n 0⟩) al' (mem2:=V7 (mem'.set a (G6 i c k)) (a+1) n 0) (by rw[Vy (by omega),hsl2]) hol
  (by
   show (V7 (mem'.set a (G6 i c k)) (a+1) n 0)[a]? = some (G6 i c k);rw[Zq (by omega),if_neg (by omega),getElem?_set_self (by omega)])
  (fun x w hx => by
   have hx:(List.replicate n 0)[x]? = some w:=hx;have h0:=eq_of_mem_replicate (mem_of_getElem? hx);have h1:=(List.getElem?_eq_some_iff.1 hx).1;rw[length_replicate] at h1;subst h0;show (V7 (mem'.set a (G6 i c k)) (a+1) n 0)[a+1+x]? = some 0;rw[Zq (by omega),if_pos (by omega)])
  (fun x hx => by
   have hx:x < a∨QN (Q8.mk a r true false i c (List.replicate n 0))≤x:=hx;unfold QN at hx;rw[length_replicate] at hx;have hx:x < a∨a+1+n≤x:=hx;rw[Zq (by omega),if_neg (by omega),getElem?_set_ne (by omega)])
  hap (s':={ s with own:=own',tab:=s.tab.set k ⟨g0+1,some ⟨a,r,true,false,i,c,List.replicate n 0⟩⟩,sps:=p1++((r:Int),b0,S')::p2,mns:=m1++((r:Int),b1,YO L k)::m2 }) rfl rfl rfl
 have hkeyS:s.sps.map VJ=(p1++((r:Int),b0,S')::p2).map VJ:=by rw[hsps];simp
 have hkeyM:s.mns.map V0=(m1++((r:Int),b1,YO L k)::m2).map V0:=by rw[hmns];simp
 rw[hkeyS,hkeyM] at H;have H:=(Q0.pick (R:=V8) (x:=((r:Int),b1,YO L k)) (g1:=m1) (g2:=m2) rfl).2 H;replace H:=Js [6,6,0,0,0,0,1,1,1,1,1,1,1] 1 H;have H:=(Q0.pick (R:=VL q.sp) (x:=((r:Int),b0,S')) (g1:=p1) (g2:=p2) rfl).2 H;replace H:=Js [7,2,2,2,2,3,3,3,0,2,0,0] 0 H;have H:=(VY hwf hmem H).swap;refine Q3 (Jz H (fun w' H' => .cellN H' rfl (by repeat first|exact .nil _|apply Q9.cons rfl) (.tmp .nil)) fun w' H' => .inr (.inr (.inr ⟨hE,k,g0,a,{ s with own:=own',tab:=s.tab.set k ⟨g0+1,some ⟨a,r,true,false,i,c,List.replicate n 0⟩⟩,sps:=p1++((r:Int),b0,S')::p2,mns:=m1++((r:Int),b1,YO L k)::m2 },hk,hg0,hbz,rfl,rfl,rfl,rfl,rfl,rfl,?_,by rw[hN];exact cG hw.size.1 al,fun hP=>br hP hsps (e:=⟨a,r,true,false,i,c,List.replicate n 0⟩) rfl hw.size.1 (hw.spc ((r:Int),b0,S) (by rw[hsps];simp)) al' rfl rfl rfl,H'.drop⟩)));show s.tab.set k _=s.tab.set k _;rw[hN];rfl
def Qx (e:Q8) (p:Nat):VP:=ZE (e.ws.getD p 0)
theorem IX {s:CS} (h:WF s) {mem:List Nat} (m:VT s mem) {k g:Nat} {e:Q8} (hk:s.tab[k]? = some ⟨g,some e⟩):NB s.lays s.size s.own e.addr e.lay e.count k e.ws.length (QJ s e) (Qx e) mem:=
 ⟨XN h m hk, fun p hp hr => by
  have h1:=NX h hk hp hr;exact⟨h1.1,by rw[I5 h m hk hp];exact h1.2⟩⟩
def Ci (s:CS) (r:Int×Int) (t:Int):Prop:=∃ (k p g:Nat) (e:Q8) (a b:Nat) (f:Q8),r=((k:Int),(p:Int))∧s.tab[k]? = some ⟨g,some e⟩∧p < e.ws.length∧VV (QJ s e) p=true∧Qx e p = .obj a b∧QS s.tab a b=some (a,f)∧f.region≠e.region∧t=a
structure Inv (s:CS):Prop where
 nd:(s.rem.map (·.1)).Nodup
 rem:∀ r t,QY s.rem r=some t↔Ci s r t
 link:∀ (k g:Nat) (e:Q8) (p a b:Nat),s.tab[k]? = some ⟨g,some e⟩→p < e.ws.length→VV (QJ s e) p=true→Qx e p = .obj a b→∃ f,QS s.tab a b=some (a,f)
theorem Zt {ts:List QK} {a b c:Nat} {f:Q8} (h:QS ts a b=some (c,f)):c=a∧ts[a]? = some ⟨b,some f⟩:=by
 obtain⟨n,h1,h2,h3⟩:=Y9.1 h;obtain rfl:c=a:=by omega
 obtain rfl:n=b:=by omega
 exact⟨rfl,h3⟩
structure Cj (s:CS) (k g:Nat) (e e':Q8):Prop where
 at':s.tab[k]? = some ⟨g,some e⟩
 region:e'.region=e.region
 lay:e'.lay=e.lay
 len:e'.ws.length=e.ws.length
theorem NP {s:CS} {k g:Nat} {e e':Q8} (h:s.tab[k]? = some ⟨g,some e⟩) (a b:Nat):QS (VO s k g e').tab a b=(QS s.tab a b).map fun q=>if q.1=k then (k,e') else q:=by
 have hkl:=(List.getElem?_eq_some_iff.1 h).1;cases hl:QS s.tab a b with
 | some q=>
  obtain⟨c,f⟩:=q;obtain⟨rfl,hc⟩:=Zt hl;by_cases hk:c=k
  ·subst hk;rw[h] at hc;injection hc with hc
   injection hc with h1 h2
   subst h1;show _=some (if c=c then (c,e') else _);rw[if_pos rfl];exact Y9.2 ⟨g,rfl,rfl,getElem?_set_self hkl⟩
  ·show _=some (if c=k then (k,e') else (c,f));rw[if_neg hk];exact Y9.2 ⟨b,rfl,rfl,by show (s.tab.set k _)[c]? = _;rw[getElem?_set_ne (Ne.symm hk)];exact hc⟩
 | none=>
  show _=none;cases hl2:QS (VO s k g e').tab a b with
  | none=>rfl
  | some q=>
   obtain⟨c,f⟩:=q;obtain⟨rfl,hc⟩:=Zt hl2;have hc:(s.tab.set k ⟨g,some e'⟩)[c]? = some ⟨b,some f⟩:=hc
   rcases Qz hc with ⟨rfl,h2,_⟩|⟨_,h2⟩
   ·injection h2 with h2 _
    subst h2;rw[Y9.2 ⟨b,rfl,rfl,h⟩] at hl;cases hl
   ·rw[Y9.2 ⟨b,rfl,rfl,h2⟩] at hl;cases hl
theorem NS {s:CS} {k g:Nat} {e e':Q8} (h:Cj s k g e e') {a b:Nat}:(∃ f,QS (VO s k g e').tab a b=some (a,f))↔∃ f,QS s.tab a b=some (a,f):=by
 rw[NP h.at'];constructor
 ·rintro⟨f,hf⟩;rw[Option.map_eq_some_iff] at hf;obtain⟨⟨c,f'⟩,h1,_⟩:=hf;obtain⟨rfl,_⟩:=Zt h1;exact⟨f',h1⟩
 ·rintro⟨f,hf⟩;rw[hf];by_cases hk:a=k
  ·exact⟨e',by show some (if a=k then (k,e') else (a,f))=_;rw[if_pos hk,hk]⟩
  ·exact⟨f,by show some (if a=k then (k,e') else (a,f))=_;rw[if_neg hk]⟩
theorem FG {s:CS} {k g:Nat} {e e':Q8} (h:Cj s k g e e') {a b:Nat} {P:Int→Prop}:(∃ f,QS (VO s k g e').tab a b=some (a,f)∧P f.region)↔∃ f,QS s.tab a b=some (a,f)∧P f.region:=by
 rw[NP h.at'];constructor
 ·rintro⟨f,hf,hp⟩;rw[Option.map_eq_some_iff] at hf;obtain⟨⟨c,f'⟩,h1,h2⟩:=hf;obtain⟨rfl,h3⟩:=Zt h1;refine⟨f',h1,?_⟩;by_cases hk:c=k
  ·subst hk;rw[if_pos rfl] at h2;injection h2 with _ h2
   subst h2;rw[h.at'] at h3;injection h3 with h3
   injection h3 with _ h3
   injection h3 with h3
   subst h3;rw[h.region] at hp;exact hp
  ·rw[if_neg hk] at h2;injection h2 with _ h2
   subst h2;exact hp
 ·rintro⟨f,hf,hp⟩;rw[hf];by_cases hk:a=k
  ·subst hk;obtain⟨_,h3⟩:=Zt hf;rw[h.at'] at h3;injection h3 with h3
   injection h3 with _ h3
   injection h3 with h3
   subst h3;exact⟨e',by show some (if a=a then (a,e') else (a,e))=_;rw[if_pos rfl],by rw[h.region];exact hp⟩
  ·exact⟨f,by show some (if a=k then (k,e') else (a,f))=_;rw[if_neg hk],hp⟩
theorem NT {s:CS} (hI:Inv s) {k g:Nat} {e e':Q8} (h:Cj s k g e e') (hl:∀ p,p < e.ws.length→VV (QJ s e) p=true→Qx e' p=Qx e p):Inv (VO s k g e'):=by
 have hkl:=(List.getElem?_eq_some_iff.1 h.at').1;have hlay:∀ f,QJ (VO s k g e') f=QJ s f:=fun _=>rfl;have hle:QJ s e'=QJ s e:=by unfold QJ;rw[h.lay]
 refine⟨hI.nd,fun r t=>?_,?_⟩
 ·show QY s.rem r=some t↔_;rw[hI.rem];constructor
  ·rintro⟨j,p,g1,e1,a,b,f,rfl,h1,h2,h3,h4,h5,h6,rfl⟩;obtain⟨f',h5',h6'⟩:=(FG (P:=fun r=>r≠e1.region) h).2 ⟨f,h5,h6⟩;by_cases hj:j=k
   ·subst hj;rw[h.at'] at h1;injection h1 with h1
    injection h1 with h0 h1
    injection h1 with h1
    subst h0 h1;exact⟨j,p,g,e',a,b,f',rfl,getElem?_set_self hkl,by rw[h.len];exact h2,by rw[hlay,hle];exact h3,by rw[hl p h2 h3];exact h4,h5',by rw[h.region];exact h6',rfl⟩
   ·exact⟨j,p,g1,e1,a,b,f',rfl,by show (s.tab.set k _)[j]? = _;rw[getElem?_set_ne (Ne.symm hj)];exact h1,h2,h3,h4,h5',h6',rfl⟩
  ·rintro⟨j,p,g1,e1,a,b,f,rfl,h1,h2,h3,h4,h5,h6,rfl⟩;have h1:(s.tab.set k ⟨g,some e'⟩)[j]? = some ⟨g1,some e1⟩:=h1;obtain⟨f',h5',h6'⟩:=(FG (P:=fun r=>r≠e1.region) h).1 ⟨f,h5,h6⟩
   rcases Qz h1 with ⟨rfl,h7,_⟩|⟨_,h7⟩
   ·injection h7 with h0 h7
    injection h7 with h7
    subst h0 h7;rw[hlay,hle] at h3;rw[h.len] at h2;rw[hl p h2 h3] at h4;rw[h.region] at h6';exact⟨j,p,g1,e,a,b,f',rfl,h.at',h2,h3,h4,h5',h6',rfl⟩
   ·exact⟨j,p,g1,e1,a,b,f',rfl,h7,h2,h3,h4,h5',h6',rfl⟩
 ·intro j g1 e1 p a b h1 h2 h3 h4;have h1:(s.tab.set k ⟨g,some e'⟩)[j]? = some ⟨g1,some e1⟩:=h1;rw[NS h]
  rcases Qz h1 with ⟨rfl,h7,_⟩|⟨_,h7⟩
  ·injection h7 with h0 h7
   injection h7 with h7
   subst h0 h7;rw[hlay,hle] at h3;rw[h.len] at h2;rw[hl p h2 h3] at h4;exact hI.link j g1 e p a b h.at' h2 h3 h4
  ·exact hI.link j g1 e1 p a b h7 h2 h3 h4
end Go.Proofs.YtbnnnljagkjpiaaGreatDoor
