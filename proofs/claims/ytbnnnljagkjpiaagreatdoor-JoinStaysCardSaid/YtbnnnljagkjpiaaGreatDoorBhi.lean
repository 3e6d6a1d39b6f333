/- Cells: what is proved on the way: every input of the statement; no condition. Texts joined: CelG CelH PrtP SrtJ CelI LnkC InvP InvQ TreP TreB BagC BagD BmpC TabE. -/
import Derived.Test.YtbnnnljagkjpiaaGreatDoorBhd
import Derived.Test.YtbnnnljagkjpiaaGreatDoorBhh
import Derived.Test.YtbnnnljagkjpiaaGreatDoorBhg
import Derived.Test.YtbnnnljagkjpiaaGreatDoorBhe
set_option linter.unusedVariables false
set_option linter.unusedSimpArgs false
set_option linter.unusedSectionVars false
namespace Go.Proofs.YtbnnnljagkjpiaaGreatDoor
open Go.SL
def KO (s:CS) (a b:Nat):CS:=
 match Qn s.tab a b with
 | some (k,e)=>VI s k b { e with held:=true }
 | none=>s
theorem CT {s:CS} {a b:Nat} (h:Qn s.tab a b=none):KO s a b=s:=by unfold KO;rw[h]
theorem Ca {s:CS} {a b k:Nat} {e:QQ} (h:Qn s.tab a b=some (k,e)):KO s a b=VI s k b { e with held:=true }:=by unfold KO;rw[h]
def ZN (s:CS) (i g place:Int):CS:=
 match Y2 s i g place with
 | (.obj a b,0)=>KO s a b
 | _=>s
theorem bG [Q4] (p:Nat) (s:CS) (i g place:Int) {w:World} {fr:List Q2} (H:Q0 w (QU p s::fr)) :
  Calls Tryz.prog 154 #[pp p,ZL i g,.int .i64 place] w (ret fun v w'=>v = .tuple #[ZI (Y2 s i g place).1,.int .i64 ((Y2 s i g place).2:Nat)]∧Q0 w' (QU p (ZN s i g place)::fr)):=by
 obtain⟨a1,a2,a3,hkv⟩:=Gi (Y2 s i g place).1;rw[hkv];refine QV Tryz.func154 rfl (by kernel_rfl) ?_;refine J8 H ?_;clear H;intro b4 w H;refine VQ H ?_;clear H;intro b6 w H;refine R5 H ?_;refine Jv ?_;replace H:=Js [2,0,0] 0 H;refine Jc rfl rfl (F2 p s i g place H) ?_;clear H;rintro v w ⟨rfl,H⟩;rw[hkv];refine Vj H ?_;clear H;intro b8 w H;refine J4 H ?_;clear H;intro w H;refine J0 H ?_;replace H:=Js [1,0,0] 1 H;have fin:∀ (σ:QX) (w:World),σ 6=pp b6→σ 8=pp b8→σ 9 = .int .i64 ((Y2 s i g place).2:Nat)→Q0 w (QU p (ZN s i g place)::pts b8 (row 85 [.int .i64 a1,.int .i64 a2,.int .i64 a3])::pts b6 (row 85 [.int .i64 0,.int .i64 0,.int .i64 0])::fr)→True:=fun _ _ _ _ _ _=>trivial;clear fin;generalize hq:Y2 s i g place=r at hkv H ⊢;obtain⟨k,er⟩:=r
 have hcase:(¬ (er=0∧a1=2)∧ZN s i g place=s)∨∃ a b:Nat,k = .obj a b∧er=0∧a1=2∧a2=a∧a3=b∧ZN s i g place=KO s a b:=by
  have hr:ZN s i g place=(match (k,er) with|(.obj a b,0)=>KO s a b|_=>s):=by unfold ZN;rw[hq]
  cases k with
  | none=>injection hkv with h;simp at h;exact .inl ⟨by omega,hr⟩
  | grave=>injection hkv with h;simp at h;exact .inl ⟨by omega,hr⟩
  | obj a b=>
   injection hkv with h
   simp at h;cases er with
   | zero=>exact .inr ⟨a,b,rfl,rfl,by omega,by omega,by omega,hr⟩
   | succ er=>exact .inl ⟨by omega,hr⟩
 rcases hcase with ⟨hno,hr⟩|⟨a,b,rfl,rfl,rfl,rfl,rfl,hr⟩
 ·rw[hr];refine J5 H ?_;by_cases h0:er=0
  ·subst h0;rw[show (((0:Nat):Int) == 0)=true from rfl];refine Wy H ?_;rw[show (a1 == 2)=false by simp;intro h;exact hno ⟨rfl,h⟩];refine Vo H ?_;refine KW H ?_;clear H;intro w H;refine J0 H ?_;replace H:=Js [2,0] 1 H;exact Q3 (Jz H (fun w' H' => .cellN H' rfl (by repeat first|exact .nil _|apply QZ.cons rfl) (.tmp .nil)) fun w' H'=>⟨rfl,H'.drop⟩)
  ·rw[show (((er:Nat):Int) == 0)=false by simpa using h0];refine Dd H ?_;refine Vo H ?_;refine KW H ?_;clear H;intro w H;refine J0 H ?_;replace H:=Js [2,0] 1 H;exact Q3 (Jz H (fun w' H' => .cellN H' rfl (by repeat first|exact .nil _|apply QZ.cons rfl) (.tmp .nil)) fun w' H'=>⟨rfl,H'.drop⟩)
 ·rw[hr];refine Vi H ?_;refine XO H ?_;refine J0 H ?_;obtain⟨e1,e2,h1,h2,e4,hsh⟩:=CC (Qn s.tab a b);refine J7 H ?_;refine Qm (fun ms σ w=>ms=[]∧σ 6=pp b6∧σ 8=pp b8∧σ 9 = .int .i64 0∧Q0 w (QU p (KO s a b)::pts b8 (row 85 [.int .i64 2,.int .i64 a,.int .i64 b])::pts b6 (row 85 [.int .i64 0,.int .i64 0,.int .i64 0])::fr)) ?_ ?_
  ·refine VR H ?_;obtain⟨q,mem,hw,hm,H⟩:=Vv H;refine J7 H ?_
   refine Qm (fun ms σ w=>ms=[]∧∃ b10,σ 0=pp p∧σ 6=pp b6∧σ 8=pp b8∧σ 9 = .int .i64 0∧σ 10=pp b10 ∧
     Q0 w (pts b10 (row 78 [.int .i64 e1,.int .i64 e2,.bool h1,.bool h2])::QU p s::pts b8 (row 85 [.int .i64 2,.int .i64 a,.int .i64 b])::pts b6 (row 85 [.int .i64 0,.int .i64 0,.int .i64 0])::fr)) ?_ ?_
   ·replace H:=Js [4,0,0,0,0,0,0,0,0,0,0,0,0] 0 H;refine J1 H ?_;clear H;intro w H;refine Dz H ?_;refine HX H ?_;refine Jw 6 10 H rfl rfl (V0 (a:=[]) (b:=[]) rfl rfl (call (ZM q.tp s.tab a b H) ?_)) (Vr H rfl ?_)
    ·clear H;rintro v w ⟨rfl,H⟩;rw[hsh];refine E0 H ?_;clear H;intro b10 w H;refine A2 H ?_;clear H;intro w H;refine Xb H ?_;replace H:=Js [2,2,2,2,1,1,1,1,1,1,1,0,0,0] 0 H;have H:=VV hw hm H;exact⟨rfl,rfl,b10,rfl,rfl,rfl,rfl,rfl,H.swap⟩
    ·clear H;intro b10 w H;refine Jo 6 H ?_;refine Jk rfl rfl (ZM q.tp s.tab a b H.swap) ?_;clear H;rintro v w ⟨rfl,H⟩;rw[hsh];refine E1 H ?_;clear H;intro w H;refine Xb H ?_;replace H:=Js [2,2,2,2,0,1,1,1,1,1,1,0,0,0] 0 H;have H:=VV hw hm H;exact⟨rfl,rfl,b10,rfl,rfl,rfl,rfl,rfl,H.swap⟩
   ·clear H;rintro ms σ w ⟨rfl,b10,g0,g6,g8,g9,g10,H⟩;rw[Q1 g0,Q1 g6,Q1 g8,Q1 g9,Q1 g10];refine Yq H ?_;refine Uk H ?_;clear H;intro w H;refine Q6 ?_;obtain⟨q,mem,hw,hm,H⟩:=Vv H.swap;cases hL:Qn s.tab a b with
    | none=>
     rw[hL] at hsh;cases hsh;rw[CT hL];replace H:=Js [4,0,0,0,0,0,0,0,0,0,0,0,0,0] 0 H;refine J1 H ?_;clear H;intro w H;refine Ja 0 ?_;refine Ja 1 ?_;refine Jf 2 ?_;refine Jl 3 [7] H ?_;refine Jf 4 ?_;refine HK H ?_;refine Dp H ?_;refine Jk rfl rfl (CB q.tp s.tab a b ⟨0,0,true,false,0,0,[]⟩ H) ?_;clear H;rintro v w (⟨k',e',hL',rfl,H⟩|⟨_,rfl,H⟩)
     ·rw[hL] at hL';cases hL'
     ·refine Jx H ?_;replace H:=Js [1,1,1,1,0,0,0,0,0,0,0,1,1] 1 H;have H:=VV hw hm H;exact⟨rfl,rfl,rfl,rfl,rfl,H⟩
    | some x=>
     obtain⟨kk,f⟩:=x;rw[hL] at hsh;cases hsh;rw[Ca hL];obtain⟨n,hkk,hbn,hk⟩:=Vz.1 hL;obtain rfl:a=kk:=by omega
     obtain rfl:b=n:=by omega
     replace H:=Js [4,0,0,0,0,0,0,0,0,0,0,0,0,0] 0 H;refine J1 H ?_;clear H;intro w H;refine Ja 0 ?_;refine Ja 1 ?_;refine Jf 2 ?_;refine Jl 3 [7] H ?_;refine Jf 4 ?_;refine HK H ?_;refine Dp H ?_;refine Jk rfl rfl (CB q.tp s.tab a b { f with held:=true } H) ?_;clear H;rintro v w (⟨k',e',hL',rfl,H⟩|⟨hL',rfl,H⟩)
     ·rw[hL] at hL';cases hL';refine Jx H ?_;replace H:=Js [1,1,1,1,0,0,0,0,0,0,0,1,1] 1 H;have H:=I4 (e':={ f with held:=true }) hw hm hk ⟨rfl,rfl,rfl,rfl,rfl⟩ rfl H;exact⟨rfl,rfl,rfl,rfl,rfl,H⟩
     ·rw[hL] at hL';cases hL'
  ·clear H;rintro ms σ w ⟨rfl,g6,g8,g9,H⟩;rw[Q1 g6,Q1 g8,Q1 g9];refine KW H ?_;clear H;intro w H;refine J0 H ?_;replace H:=Js [2,0] 1 H;exact Q3 (Jz H (fun w' H' => .cellN H' rfl (by repeat first|exact .nil _|apply QZ.cons rfl) (.tmp .nil)) fun w' H'=>⟨rfl,H'.drop⟩)
open List
def UJ (s:CS) (ws:List Nat):CS×Nat×Nat:=
 match ZX ws with
 | none=>(s,0,4)
 | some l=>if s.lays.length=64 then (s,0,5) else ({ s with lays:=s.lays++[l] },s.lays.length+1,0)
theorem Cb {s:CS} {ws:List Nat} (h:ZX ws=none):UJ s ws=(s,0,4):=by unfold UJ;rw[h]
theorem Ai {s:CS} {ws:List Nat} {l:QJ} (h:ZX ws=some l):UJ s ws=if s.lays.length=64 then (s,0,5) else ({ s with lays:=s.lays++[l] },s.lays.length+1,0):=by unfold UJ;rw[h]
theorem bX {ws:List Nat} (h:ws.length≠3):ZX ws=none:=by
 match ws with
 | []=>rfl
 | [_]=>rfl
 | [_,_]=>rfl
 | [_,_,_]=>exact absurd rfl h
 | _::_::_::_::_=>rfl
theorem bR [Q4] (v:Value) (ws:List Nat) (hws:∀ x∈ws,x < 18446744073709551616) {w:World} {fr:List Q2} [hT:YX 0 Lib.deBruijn64tab fr] (hr:Vh fr v ws.length 1 (QP ws)) (H:Q0 w fr) :
  Calls Tryz.prog 75 #[v] w (ret fun r w'=>(ZX ws=none∧r = .tuple #[Ys 0 (.slice none 0 0) 0 (.slice none 0 0),.int .i64 4]∧Q0 w' fr) ∨
   ∃ l vr vq,ZX ws=some l∧r = .tuple #[Ys l.fixed vr l.record vq,.int .i64 0]∧Q0 w' (NL vr l.refs::NL vq l.recs::fr)):=by
 by_cases h3:ws.length=3
 ·obtain⟨x,y,z,rfl⟩:∃ x y z,ws=[x,y,z]:=by
   match ws,h3 with
   | [x,y,z],_=>exact⟨x,y,z,rfl⟩
  exact TH v x y z (hws x (by simp)) (hws y (by simp)) (hws z (by simp)) hr H
 ·obtain⟨_,a,c,rfl,_⟩:=id hr;exact call (TF _ ws.length h3 ⟨a,c,rfl⟩ H) fun r w h => .inl ⟨bX h3,h.1,h.2⟩
theorem NZ [Q4] (p:Nat) (s:CS) (v:Value) (ws:List Nat) (hws:∀ x∈ws,x < 18446744073709551616) {w:World} {fr:List Q2} [hT:YX 0 Lib.deBruijn64tab fr] (hr:Vh fr v ws.length 1 (QP ws)) (H:Q0 w (QU p s::fr)) :
  Calls Tryz.prog 21 #[pp p,v] w (ret fun x w'=>x = .tuple #[.int .i64 ((UJ s ws).2.1:Nat),.int .i64 ((UJ s ws).2.2:Nat)]∧Q0 w' (QU p (UJ s ws).1::fr)):=by
 obtain⟨_,av,cv,rfl,_⟩:=id hr;refine QV Tryz.func21 rfl (by kernel_rfl) ?_;refine Da H ?_;refine YQ H ?_;refine Jc rfl rfl (bR _ ws hws hr.there H) ?_;clear H;rintro v w (⟨hd,rfl,H⟩|⟨l,vr,vq,hd,rfl,H⟩)
 ·rw[Cb hd];refine Vj H ?_;clear H;intro b6 w H;refine J4 H ?_;clear H;intro w H;refine WG H ?_;replace H:=Js [1] 1 H;exact Q3 (Jy H rfl fun w' H'=>⟨rfl,H'⟩)
 ·obtain⟨aa,ma,rfl⟩:=QD H (QE _) (by decide);obtain⟨ab,mb,rfl⟩:=QD H.drop (QE _) (by decide);rw[Ai hd];refine Vj H ?_;clear H;intro b6 w H;refine J4 H ?_;clear H;intro w H;refine Yp H ?_;replace H:=Js [3,0,0,0] 0 H;obtain⟨q,mem,hw,hm,H⟩:=Vv H;have hR:=TC hd;replace H:=Js [12,12,2,0,0,0,0,0,0,0,0,0,0,0] 0 H;obtain⟨D1,H,hD1,hC1⟩:=sls_rd H (QE _) (by decide);obtain⟨D2,H,hD2,hC2⟩:=sls_rd H.swap (QE _) (by decide);refine J1 H ?_;clear H;intro w H;refine Ja 0 ?_;refine Ja 1 ?_;refine Jf 2 ?_;refine Jl 3 [5] H ?_;refine VP 4 [5] H rfl (Q9.none rfl) rfl (by repeat first|exact .nil _|apply QZ.cons rfl) (by kernel_rfl) ?_;replace H:=Js [2,1,0] 0 H;refine Jo 5 H ?_;refine Jk rfl rfl (TJ q.bp s.lays _ _ l hR ⟨hD1 _,(hD2 _).there⟩ H) ?_;clear H;rintro v w (⟨h64,rfl,H⟩|⟨h64,rfl,H⟩)
  ·rw[if_pos h64];refine W7 H ?_;refine Ja 9 ?_;refine Jx H ?_;replace H:=Js [3,3,0,2,2,2,2,2,2,2,2] 3 H;have H:=VV hw hm H;exact Q3 (Jy H rfl fun w' H'=>⟨rfl,H'⟩)
  ·rw[if_neg (by omega)];refine W7 H ?_;refine Ja 9 ?_;refine Jx H ?_;replace H:=Js [3,3,0,2,2,2,2,2,2,2,2] 3 H;have H:=VV (s:={ s with lays:=s.lays++[l] }) (Tn hw hR h64) ⟨hm.len,hm.head,hm.words⟩ H;exact Q3 (Jy H rfl fun w' H'=>⟨rfl,H'⟩)
@[reducible] def WJ (s:CS) (parent:Int) (b b2:Nat):CS:=
 { s with last:=s.last+1,par:=s.par++[(((s.last+1:Nat):Int),parent)],sps:=s.sps++[(((s.last+1:Nat):Int),b,⟨[],0,0⟩)],mns:=s.mns++[(((s.last+1:Nat):Int),b2,[])] }
theorem I7 [Q4] (p:Nat) (s:CS) (parent:Int) (hlast:s.last+1 < 1000000) {w:World} {fr:List Q2} (H:Q0 w (QU p s::fr)) :
  Calls Tryz.prog 22 #[pp p,.int .i64 parent] w (ret fun x w'=>(Z2 s.par parent≠0∧x = .tuple #[.int .i64 0,.int .i64 (Z2 s.par parent)]∧Q0 w' (QU p s::fr)) ∨
   (Z2 s.par parent=0∧∃ b b2,x = .tuple #[.int .i64 ((s.last+1:Nat):Int),.int .i64 0]∧Q0 w' (QU p (WJ s parent b b2)::fr))):=by
 obtain⟨q,mem,hw,hm,H⟩:=Vv H;refine QV Tryz.func22 rfl (by kernel_rfl) ?_;refine Da H ?_;refine J9 H ?_;replace H:=Js [5,0,0,0,0,0,0,0,0,0,0] 0 H;refine Jc rfl rfl (Mh q.trp s.last s.par parent (by omega) (fun r x hx=>(hw.par.2.2 r x hx).2) H) ?_;clear H;rintro v w (⟨he,rfl,H⟩|⟨he,rfl,H⟩)
 ·refine Bf H ?_;rw[show (((Z2 s.par parent:Nat):Int) != 0)=true by simpa using he];refine Dx H ?_;replace H:=Js [1,1,1,1,1,0,0,0,0,0,0] 0 H;have H:=VV hw hm H;exact Q3 (Jy H rfl fun w' H' => .inl ⟨he,rfl,H'⟩)
 ·have hl64:s.par.length < 64:=by
   unfold Z2 at he;split at he
   ·omega
   ·split at he
    ·omega
    ·have:=hw.par.1;omega
  have hfr:∀ {α:Type} (l:List (Int×α)),l.map (·.1)=s.par.map (·.1)→((s.last+1:Nat):Int)∉l.map (·.1):=by
   intro α l hl hmem;rw[hl] at hmem;obtain⟨⟨r,x⟩,hx,h1⟩:=mem_map.1 hmem;have h1:r=((s.last+1:Nat):Int):=h1;have:=(hw.par.2.2 r x hx).2;omega
  have hf1:((s.last+1:Nat):Int)∉(s.sps.map VN).map (·.1):=hfr _ (by rw[map_map];exact hw.skeys);have hf2:((s.last+1:Nat):Int)∉(s.mns.map V2).map (·.1):=hfr _ (by rw[map_map];exact hw.mkeys);refine Zw H ?_;refine J1 H ?_;clear H;intro w H;refine Yo H ?_;refine Jl 3 [14] H ?_;refine Dc H ?_;refine Jl 8 [10,14] H ?_;refine Ja 9 ?_;refine Jo 10 H ?_;refine Jk rfl rfl (Hr q.sp (s.last+1) (by omega) H) ?_;clear H;rintro v w ⟨b,rfl,H⟩;refine Ja 11 ?_;refine KC H ?_;refine Jo 14 H ?_;refine Uf (ek:=ki .i64) (vv:=Qr) (v:=b) (key:=((s.last+1:Nat):Int)) H rfl rfl rfl VL rfl ?_;clear H;intro w H;rw[XF hf1,show s.sps.map VN++[(((s.last+1:Nat):Int),b)]=(s.sps++[(((s.last+1:Nat):Int),b,(⟨[],0,0⟩:QH))]).map VN by simp] at H;refine Jx H ?_;refine J1 H ?_;clear H;intro w H;refine Bm H ?_;refine Ja 4 ?_;refine Jo 5 H ?_;refine Jk rfl rfl (Hu H) ?_;clear H;rintro v w ⟨b2,rfl,H⟩
  refine Jo 6 H ?_;refine Uf (ek:=ki .i64) (vv:=Qr) (v:=b2) (key:=((s.last+1:Nat):Int)) H rfl rfl rfl VL rfl ?_;clear H;intro w H;rw[XF hf2,show s.mns.map V2++[(((s.last+1:Nat):Int),b2)]=(s.mns++[(((s.last+1:Nat):Int),b2,([]:List Nat))]).map V2 by simp] at H;refine Jx H ?_;refine VG H ?_;replace H:=Js [1,9,2,2,2,2,2,1,1,1,1,1,0] 0 H;have H:=(Q0.pick (R:=VO q.sp) (x:=(((s.last+1:Nat):Int),b,(⟨[],0,0⟩:QH))) (g1:=s.sps) (g2:=[]) rfl).2 (by rw[append_nil];exact H);replace H:=Js [11,10,0,0,0,0,0,0,0,0,0,0] 0 H;have H:=(Q0.pick (R:=VX) (x:=(((s.last+1:Nat):Int),b2,([]:List Nat))) (g1:=s.mns) (g2:=[]) rfl).2 (by rw[append_nil];exact H);replace H:=Js [2,2,2,2,2,2,2,2,1,1,0] 0 H;have H:=VV (s:=WJ s parent b b2) (Tk hw hl64 hlast) ⟨hm.len,hm.head,hm.words⟩ H;exact Q3 (Jy H rfl fun w' H' => .inr ⟨he,b,b2,rfl,H'⟩)
theorem NG [Q4] (n size slots:Nat) (h1:1≤n) (h2:n≤63) (h3:1≤size) (h4:size≤1024) (h5:1≤slots) (h6:slots≤63) {w:World} {fr:List Q2} (H:Q0 w fr) :
  Calls Tryz.prog 20 #[.int .i64 n,.int .i64 size,.int .i64 slots] w (ret fun v w'=>∃ p,v = .tuple #[pp p,.int .i64 0] ∧
   Q0 w' (QU p ⟨size,List.replicate n 0,[],List.replicate slots ⟨0,none⟩,0,[],[],[],[]⟩::fr)):=by
 refine QV Tryz.func20 rfl (by kernel_rfl) ?_;refine Uo H ?_;refine Jc rfl rfl (TG n size h1 (by omega) h3 h4 H) ?_;clear H;rintro v w ⟨sp,rfl,H⟩;refine Zw H ?_;refine YQ H ?_;refine Jc rfl rfl (aP slots h5 h6 H) ?_;clear H;rintro v w ⟨tp,rfl,H⟩;refine Zw H ?_;refine Yq H ?_;refine Jc rfl rfl (TI H) ?_;clear H;rintro v w ⟨bp,rfl,H⟩;refine Br H ?_;refine Jc rfl rfl (Tp sp bp H) ?_;clear H;rintro v w ⟨ip,rfl,H⟩;refine ZE H ?_;refine X5 H ?_;refine Jc rfl rfl (Te H) ?_;clear H;rintro v w ⟨trp,rfl,H⟩;refine Jc rfl rfl (Tb H) ?_;clear H;rintro v w ⟨rp,rfl,H⟩;refine Q5 rfl (XJ Qr (ki .i64) H rfl ?_);clear H;intro sm w H;refine Q5 rfl (XJ Qr (ki .i64) H rfl ?_);clear H;intro mm w H;refine X6 H ?_;clear H;intro b47 w H;refine J2 H ?_;have hget:∀ {i:Nat} {t:QF},(List.replicate slots (⟨0,none⟩:QF))[i]? = some t→t=⟨0,none⟩:=fun h=>eq_of_mem_replicate (mem_of_getElem? h);have hget0:∀ {i r:Nat},(List.replicate n 0)[i]? = some r→r=0:=fun h=>eq_of_mem_replicate (mem_of_getElem? h)
 have hw:WF ⟨size,List.replicate n 0,[],List.replicate slots ⟨0,none⟩,0,[],[],[],[]⟩:=by
  refine⟨⟨h3,h4⟩,by simp;omega,by simp;omega,by simp,fun i t h=>?_,fun i g e h=>?_,fun i j g h e f _ hi _=>?_,by simp,rfl,rfl,by simp,by simp,fun c r h h0=>?_,by simp⟩
  ·have:=hget h;subst this;simp
  ·have:=hget h;cases this
  ·have:=hget hi;cases this
  ·exact absurd (hget0 h) h0
 have hm:VM ⟨size,List.replicate n 0,[],List.replicate slots ⟨0,none⟩,0,[],[],[],[]⟩ (List.replicate (n*size) 0):=by
  refine⟨by simp,fun i g e h=>?_,fun i g e h=>?_⟩
  ·have:=hget h;cases this
  ·have:=hget h;cases this
 have H:Q0 w (star (([]:List (Int×Nat×QH)).map (VO sp))::_):=Q0.star.2 H;have H:Q0 w (star (([]:List (Int×Nat×List Nat)).map VX)::_):=Q0.star.2 H;replace H:=Js [2,6,6,7,6,5,4,3,1,1,0] 0 H;have H:=VV (s:=⟨size,List.replicate n 0,[],List.replicate slots ⟨0,none⟩,0,[],[],[],[]⟩) (q:=⟨sp,bp,ip,tp,trp,rp,sm,mm⟩) hw hm H;exact Q3 (Jy H rfl fun w' H'=>⟨_,rfl,H'⟩)
def G2 (size:Nat) (x:Nat×Nat) (e:QQ):Prop:=(x.2=1∧x.1*size≤e.addr∧QN e≤(x.1+1)*size)∨(2≤x.2∧e.addr=x.1*size∧x.2=e.ws.length / size+1)
def Vp (s:CS):Prop:=∀ (k g:Nat) (e:QQ),s.tab[k]? = some ⟨g,some e⟩→∃ x∈s.sps,x.1=e.region∧∃ y∈x.2.2.parts,G2 s.size y e
theorem G2.alike {size:Nat} {x:Nat×Nat} {e e':QQ} (h:G2 size x e) (h1:e'.addr=e.addr) (h2:e'.ws.length=e.ws.length):G2 size x e':=by
 unfold G2 QN at *;rw[h1,h2];exact h
theorem bA {size:Nat} (hs:1≤size) {x:Nat×Nat} {e:QQ} (h:G2 size x e):x.1*size≤e.addr∧QN e≤(x.1+x.2)*size:=by
 rcases h with ⟨h1,h2,h3⟩|⟨h1,h2,h3⟩
 ·rw[h1];exact⟨h2,h3⟩
 ·refine⟨by omega,?_⟩;have h4:e.ws.length < (e.ws.length / size+1)*size:=Nat.lt_mul_of_div_lt (Nat.lt_succ_self _) (by omega);rw[Nat.add_mul,h3];unfold QN;omega
theorem bB {s:CS} (hP:Vp s) {i g0 r q:Nat} {S S':QH} {p1 p2:List (Int×Nat×QH)} (hs:s.sps=p1++((r:Int),q,S)::p2) {e:QQ} (hreg:e.region=r) {own' mem mem':List Nat} (hsz:1≤s.size) (hS:GB s.size s.own r S)
  (al:U1 s.size s.own mem r S (e.ws.length+1) own' mem' S' e.addr) {s':CS} (h1:s'.size=s.size) (h2:s'.tab=s.tab.set i ⟨g0+1,some e⟩) (h3:s'.sps=p1++((r:Int),q,S')::p2):Vp s':=by
 have hsub:(∀ y∈S.parts,y∈S'.parts)∧∃ y∈S'.parts,G2 s.size y e:=by
  generalize hea:e.addr=ad at al;cases al with
  | room hn=>
   have hfin:S.fin≠0:=by omega
   obtain⟨c,hc1,hc2,hc3⟩:=hS.fin hfin;refine⟨fun y hy=>hy,(c,1),hc3,.inl ⟨rfl,?_,?_⟩⟩
   ·show c*s.size≤e.addr;omega
   ·show QN e≤(c+1)*s.size;unfold QN;omega
  | @one a ha hf hn=>
   refine⟨fun y hy=>mem_append.2 (.inl hy),(a,1),by simp,.inl ⟨rfl,?_,?_⟩⟩
   ·show a*s.size≤e.addr;omega
   ·show QN e≤(a+1)*s.size;have:(a+1)*s.size=a*s.size+s.size:=Nat.succ_mul _ _;unfold QN;omega
  | @run a k hk ha hf hn hn2=>
   refine⟨fun y hy=>mem_append.2 (.inl hy),(a,k),by simp,.inr ⟨hk,hea,?_⟩⟩;show k=e.ws.length / s.size+1;have h4:(k - 1)*s.size≤e.ws.length:=by omega
   have h5:k - 1≤e.ws.length / s.size:=(Nat.le_div_iff_mul_le (by omega)).2 h4;have h6:e.ws.length / s.size < k:=(Nat.div_lt_iff_lt_mul (by omega)).2 (by omega);omega
 intro j n f hj;rw[h2] at hj;rw[h1,h3]
 rcases Qx hj with ⟨rfl,u1,_⟩|⟨h0,hj⟩
 ·injection u1 with _ u1
  injection u1 with u1
  subst u1;obtain⟨y,y1,y2⟩:=hsub.2;exact⟨((r:Int),q,S'),by simp,hreg.symm,y,y1,y2⟩
 ·obtain⟨x,x1,x2,y,y1,y2⟩:=hP j n f hj;rw[hs] at x1
  rcases Zz x1 with rfl|x1
  ·exact⟨((r:Int),q,S'),by simp,x2,y,hsub.1 y y1,y2⟩
  ·exact⟨x,Us x1,x2,y,y1,y2⟩
structure Y0 (s s':CS):Prop where
 par:s'.par=s.par
 sps:s'.sps=s.sps
 size:s'.size=s.size
 tab:∀ (k g:Nat) (e':QQ),s'.tab[k]? = some ⟨g,some e'⟩→∃ e,s.tab[k]? = some ⟨g,some e⟩∧e'.region=e.region∧e'.addr=e.addr∧e'.ws.length=e.ws.length
theorem Y0.refl (s:CS):Y0 s s:=⟨rfl,rfl,rfl,fun k g e h=>⟨e,h,rfl,rfl,rfl⟩⟩
theorem Y0.part {s s':CS} (h:Y0 s s') (hP:Vp s):Vp s':=by
 intro k g e' hk;obtain⟨e,h1,h2,h3,h4⟩:=h.tab k g e' hk;obtain⟨x,x1,x2,y,y1,y2⟩:=hP k g e h1;rw[h.sps,h.size,h2];exact⟨x,x1,x2,y,y1,y2.alike h3 h4⟩
theorem Y0.set {s:CS} {k g:Nat} {e e':QQ} (hk:s.tab[k]? = some ⟨g,some e⟩) (a:e'.region=e.region∧e'.addr=e.addr∧e'.ws.length=e.ws.length) (R:List ((Int×Int)×Int)):Y0 s { VI s k g e' with rem:=R }:=by
 refine⟨rfl,rfl,rfl,fun j n f hj=>?_⟩;have hj:(s.tab.set k ⟨g,some e'⟩)[j]? = some ⟨n,some f⟩:=hj
 rcases Qx hj with ⟨rfl,h1,_⟩|⟨_,h1⟩
 ·injection h1 with h1 h2
  injection h2 with h2
  subst h1 h2;exact⟨e,hk,a⟩
 ·exact⟨f,h1,rfl,rfl,rfl⟩
open Go.SL Go.Lib
theorem Cc [Q4] {E b:Nat} {post:List Value} {fr:List Q2}:∀ (new old pre:List Value) {w:World},old.length=new.length→Q0 w (pts b (row E (pre++old++post))::fr)→Q0 (w.setCells b pre.length new) (pts b (row E (pre++new++post))::fr)
 | [],old,pre,w,hl,H=>by
  obtain rfl:old=[]:=length_eq_zero_iff.1 hl;exact H
 | v::r,old,pre,w,hl,H=>by
  obtain⟨o,t,rfl⟩:∃ o t,old=o::t:=by
   cases old with
   | nil=>cases hl
   | cons o t=>exact⟨o,t,rfl⟩
  have hb:=H.pts
  have H1:Q0 (w.setCell ⟨b,pre.length,none⟩ v) (pts b (row E (pre++v::t++post))::fr):=by
   refine H.set ?_ ?_
   ·show (w.heap.modify b _)[b]? = _;rw[Array.getElem?_modify,if_pos rfl,hb];simp only[Option.map_some,row];congr 2;simp
   ·intro c hc;show (w.heap.modify b _)[c]? = _;rw[Array.getElem?_modify,if_neg (Ne.symm hc)]
  rw[show pre++v::t++post=(pre++[v])++t++post by simp] at H1;have h2:=Cc r t (pre++[v]) (by simpa using hl) H1;rw[length_append] at h2;rw[show pre++v::r++post=(pre++[v])++r++post by simp];exact h2
theorem bC [Q4] (v:Value) (l:List Nat) (x i:Nat) (hi:i < l.length) (hl:l.length≤100000) (b:Nat) {w:World} {fr:List Q2} (H:Q0 w (NL v l::pts b (row 3 [.int .i64 x])::fr)) :
  Calls Tryz.prog 143 #[v,.int .i64 i,.slice (some ⟨b,0,none⟩) 1 1] w (ret fun v w'=>Q0 w' (NL v (l.take i++x::l.drop i)::fr)):=by
 have hnl:(l.take i++x::l.drop i).length=l.length+1:=by simp;omega
 have hcl:(QA l).length=l.length:=by rw[QE];omega
 have h1c:∀ v∈QA l,v.oneCell'=true:=fun v hv=>by obtain⟨y,_,rfl⟩:=mem_map.1 hv;rfl
 have h1v:∀ v∈[Value.int .i64 (x:Int)],v.oneCell'=true:=fun v hv=>by rw[mem_singleton] at hv;subst hv;rfl
 rcases GV H with ⟨_,h0,_⟩|⟨b',n,cap,s,rfl,e3,e4,e5,H2⟩
 ·rw[h0] at hcl;cases l with
  | nil=>cases hi
  | cons a t=>cases hcl
 obtain rfl:n=l.length:=by omega
 have hb:=H2.pts;have hx:=H2.swap.pts;have hne:b'≠b:=Q0.ne H2
 have hvs:∀ j v,[Value.int .i64 (x:Int)][j]? = some v→w.cell? ⟨b,0+j,none⟩=some v:=fun j v hj=>by
  rw[Nat.zero_add];exact Zj hx hj
 have hcs:∀ j v,(QA l)[j]? = some v→w.cell? ⟨b',0+j,none⟩=some v:=fun j v hj=>by
  rw[Nat.zero_add];refine Zj hb ?_;rw[getElem?_append_left (List.getElem?_eq_some_iff.1 hj).1];exact hj
 have hcat:∀ t:List Value,(QA l).take i++[Value.int .i64 (x:Int)]++((QA l).drop i++t)=QA (l.take i++x::l.drop i)++t:=by
  intro t;unfold QA;simp[map_take,map_drop]
 by_cases hroom:l.length+1≤cap
 ·obtain⟨s0,s',rfl⟩:∃ s0 s',s=s0::s':=by
   cases s with
   | nil=>simp at e5;omega
   | cons s0 s'=>exact⟨s0,s',rfl⟩
  refine(Any2.slices_Insert_int_shift Tryz.laysIns b' 0 l.length cap i b 0 1 1 (QA l) [.int .i64 x] w hi (by omega) hroom e4.2 (Ne.symm hne) hcl rfl hcs ?_ (fun j _=>Rk hb) hvs h1c h1v 3 3 1 (QA l++s0::s').length ?_ ?_ ?_ (Rk hx) (Rk hx)).mono ?_
  ·intro j hj;rw[Nat.zero_add,Zj hb (getElem?_eq_getElem (by simp;omega))];rfl
  ·simp[World.shape?,hx]
  ·simp[World.shape?,hb]
  ·simp
  ·rintro e w' ⟨rfl,rfl⟩
   have H3:Q0 w.drew (pts b' (row 3 ((QA l).take (i+1)++((QA l).drop (i+1)++[s0])++s'))::pts b (row 3 [.int .i64 x])::fr):=by
    rw[show (QA l).take (i+1)++((QA l).drop (i+1)++[s0])++s'=QA l++s0::s' by rw[← append_assoc,take_append_drop];simp];exact H2.heap rfl
   have H4:=Cc ((QA l).drop i) _ _ (by simp;omega) H3;rw[show ((QA l).take (i+1)).length=0+(i+1) by rw[length_take];omega] at H4
   have hgi:(QA l).take (i+1)=(QA l).take i++[(QA l)[i]'(by omega)]:=by
    rw[take_add_one,getElem?_eq_getElem (by omega)];rfl
   rw[show (QA l).take (i+1)++(QA l).drop i++s'=(QA l).take i++[(QA l)[i]'(by omega)]++((QA l).drop i++s') by rw[hgi];simp] at H4;have H5:=Cc [Value.int .i64 (x:Int)] [(QA l)[i]'(by omega)] ((QA l).take i) rfl H4;rw[show ((QA l).take i).length=0+i by rw[length_take];omega,hcat] at H5;refine Q0.drop (Q0.swap (ZZ (by rw[QE,hnl]) ⟨hroom,e4.2⟩ ?_ H5));simp at e5 ⊢;omega
 ·obtain rfl:cap=l.length:=by omega
  refine(Any2.slices_Insert_int_grow Tryz.laysIns b' 0 l.length l.length i b 0 1 1 (QA l) [.int .i64 x] w hi (by omega) (Nat.le_refl _) (by omega) (by omega) hcl rfl hcs hvs h1c h1v).mono ?_;rintro e w' ⟨rfl,rfl⟩;generalize hG:grownCap w (l.length+1) l.length _=G;have hG1:l.length+1≤G:=by rw[← hG];exact grownCap_ge w _ _ _
  have hG2:G≤9223372036854775807:=by rw[← hG];exact grownCap_le_maxLen w _ _ _ (by unfold maxLen;omega)
  have H3:=H2.new (.cells (((QA l).take i).toArray++Builtin.zeroCells (Value.int .i64 0).cells (l.length+1 - i)++Builtin.zeroCells (Value.int .i64 0).cells (G - (l.length+1))) 3 (0,0));have hzc:∀ k,(Builtin.zeroCells (Value.int .i64 0).cells k).toList.length=k:=fun k=>by rw[Array.length_toList,size_zeroCells];exact Nat.mul_one k
  obtain⟨z0,zt,hz⟩:∃ z0 zt,(Builtin.zeroCells (Value.int .i64 0).cells (l.length+1 - i)).toList=z0::zt:=by
   cases hh:(Builtin.zeroCells (Value.int .i64 0).cells (l.length+1 - i)).toList with
   | nil=>have:=hzc (l.length+1 - i);rw[hh] at this;simp at this;omega
   | cons z0 zt=>exact⟨z0,zt,rfl⟩
  have hzt:zt.length=l.length - i:=by
   have:=hzc (l.length+1 - i);rw[hz,length_cons] at this;omega
  have H4:Q0 (w.alloc (.cells (((QA l).take i).toArray++Builtin.zeroCells (Value.int .i64 0).cells (l.length+1 - i)++Builtin.zeroCells (Value.int .i64 0).cells (G - (l.length+1))) 3 (0,0))).drew (pts w.heap.size (row 3 ((QA l).take i++[z0]++(zt++(Builtin.zeroCells (Value.int .i64 0).cells (G - (l.length+1))).toList)))::fr):=by
   have h:=(Q0.swap H3).drop;have h:=(Q0.swap h).drop;refine(Q0.head h fun hh x=>?_).heap rfl
   have e:((QA l).take i).toArray++Builtin.zeroCells (Value.int .i64 0).cells (l.length+1 - i)++Builtin.zeroCells (Value.int .i64 0).cells (G - (l.length+1))=((QA l).take i++[z0]++(zt++(Builtin.zeroCells (Value.int .i64 0).cells (G - (l.length+1))).toList)).toArray:=by
    apply Array.ext';simp[hz]
   rw[e] at x;exact x
  have H5:=Cc [Value.int .i64 (x:Int)] [z0] ((QA l).take i) rfl H4;rw[show ((QA l).take i).length=i by rw[length_take];omega] at H5
  have H6:Q0 ((w.alloc (.cells (((QA l).take i).toArray++Builtin.zeroCells (Value.int .i64 0).cells (l.length+1 - i)++Builtin.zeroCells (Value.int .i64 0).cells (G - (l.length+1))) 3 (0,0))).drew.setCells w.heap.size i [Value.int .i64 (x:Int)]).drew (pts w.heap.size (row 3 (((QA l).take i++[Value.int .i64 (x:Int)])++zt++(Builtin.zeroCells (Value.int .i64 0).cells (G - (l.length+1))).toList))::fr):=by
   rw[show ((QA l).take i++[Value.int .i64 (x:Int)])++zt++(Builtin.zeroCells (Value.int .i64 0).cells (G - (l.length+1))).toList=(QA l).take i++[Value.int .i64 (x:Int)]++(zt++(Builtin.zeroCells (Value.int .i64 0).cells (G - (l.length+1))).toList) by simp];exact H5.heap rfl
  have H7:=Cc ((QA l).drop i) zt _ (by simp;omega) H6;rw[show ((QA l).take i++[Value.int .i64 (x:Int)]).length=i+1 by simp;omega,show (QA l).take i++[Value.int .i64 (x:Int)]++(QA l).drop i++(Builtin.zeroCells (Value.int .i64 0).cells (G - (l.length+1))).toList=(QA l).take i++[Value.int .i64 (x:Int)]++((QA l).drop i++(Builtin.zeroCells (Value.int .i64 0).cells (G - (l.length+1))).toList) by simp,hcat] at H7;exact ZZ (by rw[QE,hnl]) ⟨hG1,hG2⟩ (by rw[hzc];omega) H7
def YL (l:List Nat) (x:Nat):List Nat:=l.take (Z1 l x)++x::l.drop (Z1 l x)
theorem bD (l:List Nat) (x:Nat):Z1 l x≤l.length:=countP_le_length
theorem bE {l:List Nat} {x:Nat} (h:∀ a∈l,a < x):YL l x=l++[x]:=by
 unfold YL;rw[Mu h,take_length,drop_length]
theorem F4 {l:List Nat} {x y:Nat}:y∈YL l x↔y=x∨y∈l:=by
 unfold YL;rw[mem_append,mem_cons];have h:y∈l↔y∈l.take (Z1 l x)∨y∈l.drop (Z1 l x):=by rw[← mem_append,take_append_drop]
 rw[h];constructor
 ·rintro(h|h|h)
  ·exact .inr (.inl h)
  ·exact .inl h
  ·exact .inr (.inr h)
 ·rintro(h|h|h)
  ·exact .inr (.inl h)
  ·exact .inl h
  ·exact .inr (.inr h)
theorem bF {a:Nat} {l:List Nat} {x:Nat} (h:a < x):YL (a::l) x=a::YL l x:=by
 unfold YL
 have:Z1 (a::l) x=Z1 l x+1:=by
  unfold Z1;rw[countP_cons_of_pos (by simpa using h)]
 rw[this,take_succ_cons,drop_succ_cons];rfl
theorem bH {a:Nat} {l:List Nat} {x:Nat} (hs:(a::l).Pairwise (· < ·)) (h:x < a):YL (a::l) x=x::a::l:=by
 unfold YL
 have:Z1 (a::l) x=0:=by
  unfold Z1;rw[countP_eq_zero];intro y hy;rw[pairwise_cons] at hs
  rcases mem_cons.1 hy with rfl|hy
  ·simpa using Nat.le_of_lt h
  ·have:=hs.1 y hy;simp;omega
 rw[this];rfl
theorem F5:∀ {l:List Nat} {x:Nat},l.Pairwise (· < ·)→x∉l→(YL l x).Pairwise (· < ·)
 | [],x,_,_=>by unfold YL;simp
 | a::l,x,hs,hx=>by
  rw[mem_cons,not_or] at hx;by_cases h:a < x
  ·rw[bF h,pairwise_cons];rw[pairwise_cons] at hs;refine⟨fun y hy=>?_,F5 hs.2 hx.2⟩
   rcases F4.1 hy with rfl|hy
   ·exact h
   ·exact hs.1 y hy
  ·have h:x < a:=by omega
   rw[bH hs h,pairwise_cons];refine⟨fun y hy=>?_,hs⟩
   rcases mem_cons.1 hy with rfl|hy
   ·exact h
   ·rw[pairwise_cons] at hs;have:=hs.1 y hy;omega
theorem NU [Q4] (p:Nat) (l:List Nat) (x:Nat) (hs:l.Pairwise (· < ·)) (hl:l.length < 100000) (hn:x∉l) {w:World} {fr:List Q2} (H:Q0 w (Qs p l::fr)) :
  Calls Tryz.prog 83 #[pp p,.int .i64 x] w (ret fun v w'=>v = .bool true∧Q0 w' (Qs p (YL l x)::fr)):=by
 by_cases he:Z1 l x=l.length
 ·have hx:∀ a∈l,a < x:=by
   have:l.countP (· < x)=l.length:=he;rw[countP_eq_length] at this;intro a ha;simpa using this a ha
  rw[bE hx];exact Tx p l x hs (by omega) hx H
 obtain⟨a,c,H⟩:=WB H;have hle:=bD l x;refine QV Tryz.func83 rfl (by kernel_rfl) ?_;refine WQ H ?_;obtain⟨D1,H,hD1,hC1⟩:=sls_rd H.swap (QE _) (by decide);refine Jc rfl rfl (AP _ l (by omega) hs x (hD1 _) H) ?_;clear H;rintro v w ⟨rfl,H⟩;replace H:=hC1 _ _ H;rw[decide_eq_false hn];refine X8 H ?_;refine J7 H ?_;refine Qm (fun ms σ w=>ms=[]∧σ 6 = .bool false∧Q0 w (Qs p (YL l x)::fr)) ?_ ?_
 ·refine VE rfl ?_;refine A4 H ?_;refine YP H ?_;refine GX H ?_;clear H;intro b27 w H;replace H:=Js [1,0,0] 0 H;refine Jc rfl rfl (bC _ l x (Z1 l x) (by omega) (by omega) _ H) ?_;clear H;intro v w H;obtain⟨a28,m28,c28,rfl⟩:=Qq H;refine GK H ?_;clear H;intro w H;refine Q6 ?_;exact⟨rfl,rfl,rfl,KJ H.swap⟩
 ·clear H;rintro ms σ w ⟨rfl,g6,H⟩;rw[Q1 g6];refine VG H ?_;exact Q3 (Jy H rfl fun w' H'=>⟨rfl,H'⟩)
def KP (s:CS) (id:Int):QJ:=(s.lays[id.toNat - 1]?).getD ⟨0,[],0,[]⟩
def ZO (s:CS) (region id count:Int):Nat:=if (Q8 s.par region).isSome=false then 15 else if id < 1∨(s.lays.length:Int) < id then 6 else (V9 (KP s id) count).2
def YW (s:CS) (id count:Int):Nat:=(V9 (KP s id) count).1
theorem KS {α:Type} {V:Type} {l:List α} {f:α→Int} {g:α→V} {k:Int} {b:V} (h:Q8 (l.map fun a=>(f a,g a)) k=some b):∃ x g1 g2,l=g1++x::g2∧f x=k∧g x=b:=by
 obtain⟨x,hx,h1⟩:=mem_map.1 (Ud h);injection h1 with h1 h2
 obtain⟨g1,g2,h3⟩:=append_of_mem hx;exact⟨x,g1,g2,h3,h1,h2⟩
theorem KT {α:Type} {V:Type} {l:List α} {f:α→Int} {g:α→V} {k:Int} (h:k∈l.map f):∃ b,Q8 (l.map fun a=>(f a,g a)) k=some b:=by
 cases hf:Q8 (l.map fun a=>(f a,g a)) k with
 | some b=>exact⟨b,rfl⟩
 | none=>
  refine absurd ?_ (Rm.1 hf);rw[map_map];exact h
theorem NX {size:Nat} {own:List Nat} {r:Int} {S:QH} (h:GB size own r S):S.parts.length≤own.length:=by
 have h1:∀ l:List (Nat×Nat),(∀ p∈l,1≤p.2)→l.length≤(QK l).length:=by
  intro l
  induction l with
  | nil=>intro _;exact Nat.zero_le _
  | cons a l ih=>
   intro ha;have h1:=ih (fun p hp=>ha p (mem_cons_of_mem _ hp));have h2:=ha a (mem_cons_self ..);simp only[QK,flatMap_cons,length_append,length_map,length_range,length_cons] at h1 ⊢;omega
 have h2:=h1 S.parts (fun p hp=>(h.parts p hp).1)
 have h3:=G1 h.nodup (l₂:=List.range own.length) (fun c hc=>by
  obtain⟨q,hq,_,_⟩:=(h.owned c).1 hc;exact mem_range.2 (List.getElem?_eq_some_iff.1 hq).1)
 rw[length_range] at h3;omega
theorem bI {size:Nat} {own:List Nat} {r:Int} {S:QH} (h:GB size own r S) (h1:own.length≤63) (h2:size≤1024):S.fin≤1048576:=by
 by_cases h0:S.fin=0
 ·omega
 ·obtain⟨c,e,_,hc⟩:=h.fin h0;have:=(h.parts _ hc).2;rw[e];exact Nat.le_trans (Nat.mul_le_mul (show c+1≤64 by omega) h2) (by omega)
theorem NK {size:Nat} {own:List Nat} {e:QQ} (h:Zn size own e):Gh size own e.addr (e.ws.length+1):=by
 intro c c1 c2;obtain⟨r,hr,_,hr1⟩:=h.2 c c1 (by rw[show e.addr+(e.ws.length+1) - 1=e.addr+e.ws.length by omega] at c2;exact c2);rw[getD_eq_getElem?_getD,hr];show r≠0;omega
theorem NR {size:Nat} {own mem own' mem':List Nat} {r n a:Nat} {S S':QH} (h:U1 size own mem r S n own' mem' S' a):own'.length=own.length:=by
 cases h with
 | room _=>rfl
 | one ha _ _=>exact Vu ha
 | run _ ha _ _ _=>exact Vu ha
def F6 (own own':List Nat) (k:Nat):Prop:=own'.length=own.length∧∃ a0 k0,k0≤k∧∀ i,own'.getD i 0≠0→own.getD i 0≠0∨(a0≤i∧i < a0+k0)
theorem bJ {size:Nat} (hs:1≤size) {own mem own' mem':List Nat} {r n a:Nat} {S S':QH} (h:U1 size own mem r S (n+1) own' mem' S' a):F6 own own' (n / size+1):=by
 refine⟨NR h,?_⟩;cases h with
 | room _=>exact⟨0,0,Nat.zero_le _,fun i hi => .inl hi⟩
 | @one b ha _ _=>
  refine⟨b,1,Nat.le_add_left 1 _,fun i hi=>?_⟩;rw[RR ha] at hi;split at hi
  ·right;assumption
  ·exact .inl hi
 | @run b k hk ha _ _ hn2=>
  refine⟨b,k,?_,fun i hi=>?_⟩
  ·have h2:k - 1≤n / size:=by
    rw[Nat.le_div_iff_mul_le (by omega)];omega
   omega
  ·rw[RR ha] at hi;split at hi
   ·right;assumption
   ·exact .inl hi
theorem bM [Q4] (p:Nat) (s:CS) (region id count:Int) {w:World} {fr:List Q2} [hT:YX 0 Lib.deBruijn64tab fr] (H:Q0 w (QU p s::fr)) :
  Calls Tryz.prog 23 #[pp p,.int .i64 region,.int .i64 id,.int .i64 count] w (ret fun v w'=>
   (ZO s region id count≠0∧v = .tuple #[XV 0 0,.int .i64 (ZO s region id count)]∧Q0 w' (QU p s::fr)) ∨
   (ZO s region id count=0∧(∀ t∈s.tab,busy t=true)∧v = .tuple #[XV 0 0,.int .i64 12]∧Q0 w' (QU p s::fr)) ∨
   (ZO s region id count=0∧(∀ a,a+(YW s id count / s.size+1)≤s.own.length→∃ i,a≤i∧i < a+(YW s id count / s.size+1)∧s.own.getD i 0≠0)∧v = .tuple #[XV 0 0,.int .i64 11]∧Q0 w' (QU p s::fr)) ∨
   (ZO s region id count = 0 ∧ ∃ k g0 addr s', s.tab[k]? = some ⟨g0, none⟩ ∧ g0 ≤ 254 ∧ (∀ j t, j < k → s.tab[j]? = some t → busy t = true) ∧ v = .tuple #[XV k (g0 + 1), .int .i64 0] ∧
    s'.size=s.size∧s'.lays=s.lays∧s'.last=s.last∧s'.par=s.par∧s'.rem=s.rem∧s'.tab=s.tab.set k ⟨g0+1,some ⟨addr,region,true,false,id.toNat,count.toNat,List.replicate (YW s id count) 0⟩⟩∧F6 s.own s'.own (YW s id count / s.size+1)∧(Vp s→Vp s')∧Q0 w' (QU p s'::fr))):=by
 obtain⟨q,mem,hw,hm,H⟩:=Vv H;have hndp:=Mg (H.pull 5);refine QV Tryz.func23 rfl (by kernel_rfl) ?_;refine YS H ?_;clear H;intro b8 w H;refine J0 H ?_;replace H:=Js [6,0,0,0,0,0,0,0,0,0,0,0] 0 H;refine J7 H ?_
 refine Y1 (fun ms σ w=>ms=[]∧(Q8 s.par region).isSome=true∧σ 0=pp p∧σ 1 = .int .i64 region∧σ 2 = .int .i64 id∧σ 3 = .int .i64 count∧σ 8=pp b8 ∧
  Q0 w (Qo q.bp s.lays::pts b8 (row 62 [.int .i64 0,.int .i64 0])::V5 p q::Qv q.ip q.sp q.bp::ST q.sp s.size mem s.own::Qk q.tp s.tab::Qe q.trp s.last s.par::RS q.rp s.rem::mp (ki .i64) Qr q.sm (s.sps.map VN)::star (s.sps.map (VO q.sp))::mp (ki .i64) Qr q.mm (s.mns.map V2)::star (s.mns.map VX)::fr)) ?_ ?_
 ·refine Kz H ?_;refine J9 H ?_;refine Jc rfl rfl (Ek q.trp s.last s.par region H) ?_;clear H;rintro v w ⟨rfl,H⟩;cases hf:(Q8 s.par region).isSome with
  | false=>
   have he:ZO s region id count=15:=by unfold ZO;rw[if_pos hf]
   refine Dk H ?_;clear H;intro w H;refine J0 H ?_;replace H:=Js [1,1,1,1,1,1,0,0,0,0,0,0] 0 H;refine Q3 (.inr ⟨by simp,Jz H (fun w' H' => .cellN H' rfl (by repeat first|exact .nil _|apply QZ.cons rfl) (.tmp .nil)) fun w' H' => .inl ⟨by omega,by rw[he];rfl,VV hw hm H'.drop⟩⟩)
  | true=>
   refine W3 H ?_;replace H:=Js [4,1,1,1,1,1,0,0,0,0,0,0] 0 H;exact .inl ⟨rfl,rfl,rfl,rfl,rfl,rfl,rfl,rfl,H⟩
 clear H;rintro ms σ w ⟨rfl,hlive,g0,g1,g2,g3,g8,H⟩;rw[Q1 g0,Q1 g1,Q1 g2,Q1 g3,Q1 g8];clear g0 g1 g2 g3 g8;refine J9 H ?_;by_cases hid:id < 1∨(s.lays.length:Int) < id
 ·have he:ZO s region id count=6:=by unfold ZO;rw[hlive,if_neg (by simp),if_pos hid]
  refine Jc rfl rfl (TM q.bp s.lays id hid H) ?_;clear H;rintro v w ⟨rfl,H⟩;refine Vj H ?_;clear H;intro b10 w H;refine J4 H ?_;clear H;intro w H;refine YI H ?_;refine E9 H ?_;clear H;intro w H;refine J0 H ?_;replace H:=Js [2,2,2,1,1,1,1,1,1,1,1,1] 1 H;exact Q3 (Jz H (fun w' H' => .cellN H' rfl (by repeat first|exact .nil _|apply QZ.cons rfl) (.tmp .nil)) fun w' H' => .inl ⟨by omega,by rw[he];rfl,VV hw hm H'.drop⟩)
 obtain⟨i,rfl⟩:∃ i:Nat,id=i:=⟨id.toNat,by omega⟩;have hil:=getElem?_eq_getElem (l:=s.lays) (i:=i - 1) (by omega)
 have hlay:KP s (i:Int)=s.lays[i - 1]'(by omega):=by
  unfold KP;rw[Int.toNat_natCast,hil];rfl
 have hR:VT (KP s (i:Int)):=by rw[hlay];exact hw.lays.2 _ (getElem_mem _)
 rw[← hlay] at hil;have hE:ZO s region i count=(V9 (KP s i) count).2:=by unfold ZO;rw[hlive,if_neg (by simp),if_neg hid]
 have hN:YW s i count=(V9 (KP s i) count).1:=rfl;generalize KP s (i:Int)=l at hil hR hE hN;refine Jc rfl rfl (Hs q.bp s.lays i (by omega) l hil H) ?_;clear H;rintro v w ⟨vr,vq,rfl,H⟩;obtain⟨ar,cr,rfl⟩:=QD H (QE _) (by decide);obtain⟨aq,cq,rfl⟩:=QD H.drop (QE _) (by decide);refine Vj H ?_;clear H;intro b10 w H;refine J4 H ?_;clear H;intro w H;refine Yp H ?_;refine AY H ?_;replace H:=Js [1,1,0,0,0,0,0,0,0,0,0,0,0,0,0] 0 H;obtain⟨D1,H,hD1,hC1⟩:=sls_rd H (QE _) (by decide);obtain⟨D2,H,hD2,hC2⟩:=sls_rd H.swap (QE _) (by decide);refine Jc rfl rfl (CG _ _ l hR count ⟨(hD1 _).there,hD2 _⟩ H) ?_;clear H;rintro v w ⟨rfl,H⟩;replace H:=hC1 _ _ (hC2 _ _ H).swap;replace H:=Js [8,3,3,3,3,3,3,3,3,3,3,3] 3 H;generalize hsz:V9 l count=z at hE hN H ⊢;obtain⟨n,er⟩:=z;refine W0 H ?_
 refine Y1 (fun ms σ w=>ms=[]∧er=0∧¬ (∀ t∈s.tab,busy t=true)∧σ 0=pp p∧σ 1 = .int .i64 region∧σ 2 = .int .i64 i∧σ 3 = .int .i64 count∧σ 8=pp b8∧σ 12 = .int .i64 n ∧
  Q0 w (Qk q.tp s.tab::Qo q.bp s.lays::pts b8 (row 62 [.int .i64 0,.int .i64 0])::V5 p q::Qv q.ip q.sp q.bp::ST q.sp s.size mem s.own::Qe q.trp s.last s.par::RS q.rp s.rem::mp (ki .i64) Qr q.sm (s.sps.map VN)::star (s.sps.map (VO q.sp))::mp (ki .i64) Qr q.mm (s.mns.map V2)::star (s.mns.map VX)::fr)) ?_ ?_
 ·refine QS ?_;refine VG H ?_;by_cases h0:er=0
  ·subst h0;refine AX H ?_;refine ZU H ?_;refine Jc rfl rfl (N0 q.tp s.tab H) ?_;clear H;rintro v w ⟨rfl,H⟩;have hbt:Xq s.tab≤s.tab.length:=length_filter_le _ _;by_cases hb:∀ t∈s.tab,busy t=true
   ·have hbe:Xq s.tab=s.tab.length:=by unfold Xq;rw[filter_eq_self.2 hb]
    rw[show s.tab.length - Xq s.tab=0 by omega];refine Dk H ?_;clear H;intro w H;refine J0 H ?_;replace H:=Js [2,2,2,1,1,0,0,0,0,0,0,0] 0 H;refine Q3 (.inr ⟨by simp,Jz H (fun w' H' => .cellN H' rfl (by repeat first|exact .nil _|apply QZ.cons rfl) (.tmp .nil)) fun w' H' => .inr (.inl ⟨hE,hb,rfl,VV hw hm H'.drop⟩)⟩)
   ·have hbe:Xq s.tab≠s.tab.length:=by
     intro h;refine hb fun t ht=>?_;exact length_filter_eq_length_iff.1 h t ht
    refine J2 H ?_;rw[show (((s.tab.length - Xq s.tab:Nat):Int) == 0)=false by simp;omega];refine V8 H ?_;exact .inl ⟨rfl,rfl,rfl,hb,rfl,rfl,rfl,rfl,rfl,rfl,H⟩
  ·rw[show (((er:Nat):Int) != 0)=true by simpa using h0];refine E9 H ?_;clear H;intro w H;refine J0 H ?_;replace H:=Js [2,2,2,1,1,0,0,0,0,0,0,0] 0 H;refine Q3 (.inr ⟨by simp,Jz H (fun w' H' => .cellN H' rfl (by repeat first|exact .nil _|apply QZ.cons rfl) (.tmp .nil)) fun w' H' => .inl ⟨by rw[hE];exact h0,by rw[hE];rfl,VV hw hm H'.drop⟩⟩)
 clear H;rintro ms σ w ⟨rfl,rfl,hfree,g0,g1,g2,g3,g8,g12,H⟩;rw[Q1 g0,Q1 g1,Q1 g2,Q1 g3,Q1 g8,Q1 g12];clear g0 g1 g2 g3 g8 g12;obtain⟨z1,z2,z3,z4,z5⟩:=Hj hsz;obtain⟨c,rfl⟩:∃ c:Nat,count=c:=⟨count.toNat,by omega⟩;have hrk:region∈s.par.map (·.1):=WC hlive;obtain⟨b,hkS⟩:=KT (l:=s.sps) (f:=fun x=>x.1) (g:=fun x=>x.2.1) (k:=region) (by rw[hw.skeys];exact hrk);obtain⟨⟨r0,b0,S⟩,p1,p2,hsps,h01,h02⟩:=KS hkS;obtain rfl:r0=region:=h01;obtain rfl:b0=b:=h02;obtain⟨b2,hkM⟩:=KT (l:=s.mns) (f:=fun x=>x.1) (g:=fun x=>x.2.1) (k:=r0) (by rw[hw.mkeys];exact hrk);obtain⟨⟨r1,b1,L⟩,m1,m2,hmns,h11,h12⟩:=KS hkM;obtain rfl:r1=r0:=h11;obtain rfl:b1=b2:=h12
 have hr1:1≤r1:=by
  obtain⟨⟨ra,rx⟩,hx,rfl⟩:=mem_map.1 hrk;exact(hw.par.2.2 _ _ hx).1
 obtain⟨r,rfl⟩:∃ r:Nat,r1=r:=⟨r1.toNat,by omega⟩;have hS:GB s.size s.own r S:=hw.spc ((r:Int),b0,S) (by rw[hsps];simp);have hfin:=bI hS hw.own.2 hw.size.2;have hpl:=NX hS;have hown:=hw.own.2;refine J9 H ?_;refine Q5 rfl (Zv (ek:=ki .i64) (vv:=Qr) (key:=(r:Int)) H rfl rfl VL rfl ?_);have hkS':Q8 (s.sps.map VN) (r:Int)=some b0:=hkS;have hkM':Q8 (s.mns.map V2) (r:Int)=some b1:=hkM;rw[hkS'];refine YP H ?_;rw[Qb (x:=((n:Nat):Int)+1) (by omega) (by omega),show ((n:Nat):Int)+1=((n+1:Nat):Int) by omega];replace H:=Js [9,5,0,0,0,0,0,0,0,0,0,0] 0 H;replace H:Q0 w (Ql b0 q.sp r S::star ((p1++p2).map (VO q.sp))::_):=(Q0.pick (R:=VO q.sp) (x:=((r:Int),b0,S)) hsps).1 H;replace H:=Js [0,1,0,0,0,0,0,0,0,0,0,0,0] 0 H;refine Jc rfl rfl (Mn b0 q.sp r s.size (n+1) S mem s.own (by omega) (by omega) (by omega) hS.at1 hfin hown hw.size.1 hw.size.2 (by omega) H) ?_;clear H;rintro v w (⟨a,own',mem',S',rfl,al,H⟩|⟨rfl,hno,H⟩)
 case inr=>
  refine X8 H ?_;refine E9 H ?_;clear H;intro w H;refine J0 H ?_;replace H:=Js [0,1,0,0,0,0,0,0,0,0,0,0,0] 0 H;have H:=(Q0.pick (R:=VO q.sp) (x:=((r:Int),b0,S)) hsps).2 H;replace H:=Js [5,5,3,1,1,2,2,2,0,1,1,0] 0 H;have H:=(VV hw hm H).swap;refine Q3 (Jz H (fun w' H' => .cellN H' rfl (by repeat first|exact .nil _|apply QZ.cons rfl) (.tmp .nil)) fun w' H' => .inr (.inr (.inl ⟨hE,?_,rfl,H'.drop⟩)));rw[hN];intro a ha;rw[Nat.add_sub_cancel] at hno;exact hno a ha
 have hol:=NR al;obtain⟨hml,hmo⟩:=Mm hw hm.len al;refine Zw H ?_;refine GU H ?_;refine Gu H ?_;replace H:=Js [3,0,0,0,0,0,0,0,0,0,0,0,0] 0 H;refine Jc rfl rfl (ae q.tp s.tab ⟨a,r,true,false,i,c,List.replicate n 0⟩ H) ?_;clear H;rintro v w (⟨k,g0,hk,hg0,hbz,rfl,H⟩|⟨hb,_,_⟩)
 case inr=>exact absurd hb hfree
 have hkl:k < s.tab.length:=(List.getElem?_eq_some_iff.1 hk).1;have hsl:=hw.slots.2;refine Vj H ?_;clear H;intro b14 w H;refine J4 H ?_;clear H;intro w H;refine J0 H ?_;have hL:=hw.mine ((r:Int),b1,L) (by rw[hmns];simp)
 have hLk:k∉L:=by
  intro hj;obtain⟨g,f,hf,_⟩:=(hL.2 k).1 hj;rw[hk] at hf;cases hf
 have hLs:(YL L k).Pairwise (· < ·):=F5 hL.1 hLk;have hmay:Xl i c k:=⟨by omega,by have:=hw.lays.1;omega,by omega,by omega⟩
 have hobj:Ur s.lays k ⟨a,r,true,false,i,c,List.replicate n 0⟩:=by
  refine⟨hmay,l,hil,hR,by simpa using hsz,fun x w hx=>?_⟩;have hx:(List.replicate n 0)[x]? = some w:=hx;have:=eq_of_mem_replicate (mem_of_getElem? hx);subst this;exact⟨by omega,fun _=>⟨.none,trivial,rfl⟩⟩
 have al':U1 s.size s.own mem r S ((QQ.mk a r true false i c (List.replicate n 0)).ws.length+1) own' mem' S' (QQ.mk a r true false i c (List.replicate n 0)).addr:=by
  show U1 s.size s.own mem r S ((List.replicate n 0).length+1) own' mem' S' a;rw[length_replicate];exact al
 have hwf:=Ti hw hk hg0 hsps hmns hndp (e:=⟨a,r,true,false,i,c,List.replicate n 0⟩) rfl hobj al' hLs (fun j=>F4);have htk:(s.tab.set k (⟨g0+1,some ⟨a,r,true,false,i,c,List.replicate n 0⟩⟩:QF))[k]? = some ⟨g0+1,some ⟨a,r,true,false,i,c,List.replicate n 0⟩⟩:=getElem?_set_self hkl;have hlies:Zn s.size own' ⟨a,r,true,false,i,c,List.replicate n 0⟩:=(hwf.obj k _ _ htk).2.1
 have hfit:a+1+n≤mem'.length:=by
  have h1:QN (QQ.mk a r true false i c (List.replicate n 0))≤own'.length*s.size:=hlies.1;unfold QN at h1;rw[hml,hm.len,← hol];simpa using h1
 have hod:Gh s.size own' a (n+1):=by
  have:=NK hlies;simpa using this
 replace H:=Js [8,5,3,0,0,0,0,0,0,0,0,0,0,0] 0 H;refine J1 H ?_;clear H;intro w H;refine Yo H ?_;refine Jl 3 [10] H ?_;refine Dc H ?_;refine Jl 8 [10] H ?_;refine GY 9 rfl (Q9.none rfl) rfl (by kernel_rfl) ?_;refine Jo 10 H ?_;refine Jk rfl rfl (Ts q.ip q.sp q.bp s.size s.lays mem' own' a i c k n l hmay hil hR hsz hfit hod H) ?_;clear H;rintro v w ⟨rfl,H⟩;refine Jx H ?_;replace H:=Js [13,0,0,0,0,0,0,0,0,0,0,0,0,0] 0 H;replace H:Q0 w (Qs b1 L::star ((m1++m2).map VX)::_):=(Q0.pick (R:=VX) (x:=((r:Int),b1,L)) hmns).1 H
 have hL1:L.length≤63:=by
  have:=RH L 0 63 (fun x hx=>⟨Nat.zero_le _,by
   obtain⟨g,f,h3,_⟩:=(hL.2 x).1 hx;have h4:=(List.getElem?_eq_some_iff.1 h3).1;have:=hw.slots.2;omega⟩) hL.1
  omega
 refine J1 H ?_;clear H;intro w H;refine Bz H ?_;refine Ja 4 ?_;refine XM 5 [8] (key:=(r:Int)) H rfl (Q9.none rfl) rfl rfl VL (by kernel_rfl) ?_;rw[hkM'];refine Jf 6 ?_;refine Jl 7 [8] H ?_;refine Jo 8 H ?_;refine Jk rfl rfl (NU b1 L k hL.1 (by omega) hLk H) ?_;clear H;rintro v w ⟨rfl,H⟩;refine Jx H ?_;refine KZ H ?_;clear H;intro w H;refine J0 H ?_
 have hap:∀ (j g:Nat) (f:QQ),s.tab[j]? = some ⟨g,some f⟩→QN f≤(QQ.mk a r true false i c (List.replicate n 0)).addr∨QN (QQ.mk a r true false i c (List.replicate n 0))≤f.addr:=by
  intro j g f hj;have hne:j≠k:=fun h=>by subst h;rw[hk] at hj;cases hj
  refine hwf.apart j k g (g0+1) f _ hne ?_ htk;show (s.tab.set k _)[j]? = _;rw[getElem?_set_ne (fun h=>hne h.symm)];exact hj
 have hsl2:(mem'.set a (Zy i c k)).length=mem'.length:=length_set
 have hmem:=Tj hw hm hk (e:=⟨a,r,true,false,i,c,List.replicate n 0⟩) al' (mem2:=V4 (mem'.set a (Zy i c k)) (a+1) n 0) (by rw[Vu (by omega),hsl2]) hol
  (by
   show (V4 (mem'.set a (Zy i c k)) (a+1) n 0)[a]? = some (Zy i c k);rw[Zm (by omega),if_neg (by omega),getElem?_set_self (by omega)])
  (fun x w hx => by
   have hx:(List.replicate n 0)[x]? = some w:=hx;have h0:=eq_of_mem_replicate (mem_of_getElem? hx);have h1:=(List.getElem?_eq_some_iff.1 hx).1;rw[length_replicate] at h1;subst h0;show (V4 (mem'.set a (Zy i c k)) (a+1) n 0)[a+1+x]? = some 0;rw[Zm (by omega),if_pos (by omega)])
  (fun x hx => by
   have hx:x < a∨QN (QQ.mk a r true false i c (List.replicate n 0))≤x:=hx;unfold QN at hx;rw[length_replicate] at hx;have hx:x < a∨a+1+n≤x:=hx;rw[Zm (by omega),if_neg (by omega),getElem?_set_ne (by omega)])
  hap (s':={ s with own:=own',tab:=s.tab.set k ⟨g0+1,some ⟨a,r,true,false,i,c,List.replicate n 0⟩⟩,sps:=p1++((r:Int),b0,S')::p2,mns:=m1++((r:Int),b1,YL L k)::m2 }) rfl rfl rfl
 have hkeyS:s.sps.map VN=(p1++((r:Int),b0,S')::p2).map VN:=by rw[hsps];simp
 have hkeyM:s.mns.map V2=(m1++((r:Int),b1,YL L k)::m2).map V2:=by rw[hmns];simp
 rw[hkeyS,hkeyM] at H;have H:=(Q0.pick (R:=VX) (x:=((r:Int),b1,YL L k)) (g1:=m1) (g2:=m2) rfl).2 H;replace H:=Js [6,6,0,0,0,0,1,1,1,1,1,1,1] 1 H;have H:=(Q0.pick (R:=VO q.sp) (x:=((r:Int),b0,S')) (g1:=p1) (g2:=p2) rfl).2 H;replace H:=Js [7,2,2,2,2,3,3,3,0,2,0,0] 0 H;have H:=(VV hwf hmem H).swap;refine Q3 (Jz H (fun w' H' => .cellN H' rfl (by repeat first|exact .nil _|apply QZ.cons rfl) (.tmp .nil)) fun w' H' => .inr (.inr (.inr ⟨hE,k,g0,a,{ s with own:=own',tab:=s.tab.set k ⟨g0+1,some ⟨a,r,true,false,i,c,List.replicate n 0⟩⟩,sps:=p1++((r:Int),b0,S')::p2,mns:=m1++((r:Int),b1,YL L k)::m2 },hk,hg0,hbz,rfl,rfl,rfl,rfl,rfl,rfl,?_,by rw[hN];exact bJ hw.size.1 al,fun hP=>bB hP hsps (e:=⟨a,r,true,false,i,c,List.replicate n 0⟩) rfl hw.size.1 (hw.spc ((r:Int),b0,S) (by rw[hsps];simp)) al' rfl rfl rfl,H'.drop⟩)));show s.tab.set k _=s.tab.set k _;rw[hN];rfl
def YZ (e:QQ) (p:Nat):Vy:=ZR (e.ws.getD p 0)
theorem bN {s:CS} (h:WF s) {mem:List Nat} (m:VM s mem) {k g:Nat} {e:QQ} (hk:s.tab[k]? = some ⟨g,some e⟩):NQ s.lays s.size s.own e.addr e.lay e.count k e.ws.length (QO s e) (YZ e) mem:=
 ⟨KM h m hk, fun p hp hr => by
  have h1:=N5 h hk hp hr;exact⟨h1.1,by rw[Hy h m hk hp];exact h1.2⟩⟩
def Cd (s:CS) (r:Int×Int) (t:Int):Prop:=∃ (k p g:Nat) (e:QQ) (a b:Nat) (f:QQ),r=((k:Int),(p:Int))∧s.tab[k]? = some ⟨g,some e⟩∧p < e.ws.length∧VW (QO s e) p=true∧YZ e p = .obj a b∧Qn s.tab a b=some (a,f)∧f.region≠e.region∧t=a
structure Inv (s:CS):Prop where
 nd:(s.rem.map (·.1)).Nodup
 rem:∀ r t,Q8 s.rem r=some t↔Cd s r t
 link:∀ (k g:Nat) (e:QQ) (p a b:Nat),s.tab[k]? = some ⟨g,some e⟩→p < e.ws.length→VW (QO s e) p=true→YZ e p = .obj a b→∃ f,Qn s.tab a b=some (a,f)
theorem GI {ts:List QF} {a b c:Nat} {f:QQ} (h:Qn ts a b=some (c,f)):c=a∧ts[a]? = some ⟨b,some f⟩:=by
 obtain⟨n,h1,h2,h3⟩:=Vz.1 h;obtain rfl:c=a:=by omega
 obtain rfl:n=b:=by omega
 exact⟨rfl,h3⟩
structure Ce (s:CS) (k g:Nat) (e e':QQ):Prop where
 at':s.tab[k]? = some ⟨g,some e⟩
 region:e'.region=e.region
 lay:e'.lay=e.lay
 len:e'.ws.length=e.ws.length
theorem NW {s:CS} {k g:Nat} {e e':QQ} (h:s.tab[k]? = some ⟨g,some e⟩) (a b:Nat):Qn (VI s k g e').tab a b=(Qn s.tab a b).map fun q=>if q.1=k then (k,e') else q:=by
 have hkl:=(List.getElem?_eq_some_iff.1 h).1;cases hl:Qn s.tab a b with
 | some q=>
  obtain⟨c,f⟩:=q;obtain⟨rfl,hc⟩:=GI hl;by_cases hk:c=k
  ·subst hk;rw[h] at hc;injection hc with hc
   injection hc with h1 h2
   subst h1;show _=some (if c=c then (c,e') else _);rw[if_pos rfl];exact Vz.2 ⟨g,rfl,rfl,getElem?_set_self hkl⟩
  ·show _=some (if c=k then (k,e') else (c,f));rw[if_neg hk];exact Vz.2 ⟨b,rfl,rfl,by show (s.tab.set k _)[c]? = _;rw[getElem?_set_ne (Ne.symm hk)];exact hc⟩
 | none=>
  show _=none;cases hl2:Qn (VI s k g e').tab a b with
  | none=>rfl
  | some q=>
   obtain⟨c,f⟩:=q;obtain⟨rfl,hc⟩:=GI hl2;have hc:(s.tab.set k ⟨g,some e'⟩)[c]? = some ⟨b,some f⟩:=hc
   rcases Qx hc with ⟨rfl,h2,_⟩|⟨_,h2⟩
   ·injection h2 with h2 _
    subst h2;rw[Vz.2 ⟨b,rfl,rfl,h⟩] at hl;cases hl
   ·rw[Vz.2 ⟨b,rfl,rfl,h2⟩] at hl;cases hl
theorem NA {s:CS} {k g:Nat} {e e':QQ} (h:Ce s k g e e') {a b:Nat}:(∃ f,Qn (VI s k g e').tab a b=some (a,f))↔∃ f,Qn s.tab a b=some (a,f):=by
 rw[NW h.at'];constructor
 ·rintro⟨f,hf⟩;rw[Option.map_eq_some_iff] at hf;obtain⟨⟨c,f'⟩,h1,_⟩:=hf;obtain⟨rfl,_⟩:=GI h1;exact⟨f',h1⟩
 ·rintro⟨f,hf⟩;rw[hf];by_cases hk:a=k
  ·exact⟨e',by show some (if a=k then (k,e') else (a,f))=_;rw[if_pos hk,hk]⟩
  ·exact⟨f,by show some (if a=k then (k,e') else (a,f))=_;rw[if_neg hk]⟩
theorem F7 {s:CS} {k g:Nat} {e e':QQ} (h:Ce s k g e e') {a b:Nat} {P:Int→Prop}:(∃ f,Qn (VI s k g e').tab a b=some (a,f)∧P f.region)↔∃ f,Qn s.tab a b=some (a,f)∧P f.region:=by
 rw[NW h.at'];constructor
 ·rintro⟨f,hf,hp⟩;rw[Option.map_eq_some_iff] at hf;obtain⟨⟨c,f'⟩,h1,h2⟩:=hf;obtain⟨rfl,h3⟩:=GI h1;refine⟨f',h1,?_⟩;by_cases hk:c=k
  ·subst hk;rw[if_pos rfl] at h2;injection h2 with _ h2
   subst h2;rw[h.at'] at h3;injection h3 with h3
   injection h3 with _ h3
   injection h3 with h3
   subst h3;rw[h.region] at hp;exact hp
  ·rw[if_neg hk] at h2;injection h2 with _ h2
   subst h2;exact hp
 ·rintro⟨f,hf,hp⟩;rw[hf];by_cases hk:a=k
  ·subst hk;obtain⟨_,h3⟩:=GI hf;rw[h.at'] at h3;injection h3 with h3
   injection h3 with _ h3
   injection h3 with h3
   subst h3;exact⟨e',by show some (if a=a then (a,e') else (a,e))=_;rw[if_pos rfl],by rw[h.region];exact hp⟩
  ·exact⟨f,by show some (if a=k then (k,e') else (a,f))=_;rw[if_neg hk],hp⟩
theorem NB {s:CS} (hI:Inv s) {k g:Nat} {e e':QQ} (h:Ce s k g e e') (hl:∀ p,p < e.ws.length→VW (QO s e) p=true→YZ e' p=YZ e p):Inv (VI s k g e'):=by
 have hkl:=(List.getElem?_eq_some_iff.1 h.at').1;have hlay:∀ f,QO (VI s k g e') f=QO s f:=fun _=>rfl;have hle:QO s e'=QO s e:=by unfold QO;rw[h.lay]
 refine⟨hI.nd,fun r t=>?_,?_⟩
 ·show Q8 s.rem r=some t↔_;rw[hI.rem];constructor
  ·rintro⟨j,p,g1,e1,a,b,f,rfl,h1,h2,h3,h4,h5,h6,rfl⟩;obtain⟨f',h5',h6'⟩:=(F7 (P:=fun r=>r≠e1.region) h).2 ⟨f,h5,h6⟩;by_cases hj:j=k
   ·subst hj;rw[h.at'] at h1;injection h1 with h1
    injection h1 with h0 h1
    injection h1 with h1
    subst h0 h1;exact⟨j,p,g,e',a,b,f',rfl,getElem?_set_self hkl,by rw[h.len];exact h2,by rw[hlay,hle];exact h3,by rw[hl p h2 h3];exact h4,h5',by rw[h.region];exact h6',rfl⟩
   ·exact⟨j,p,g1,e1,a,b,f',rfl,by show (s.tab.set k _)[j]? = _;rw[getElem?_set_ne (Ne.symm hj)];exact h1,h2,h3,h4,h5',h6',rfl⟩
  ·rintro⟨j,p,g1,e1,a,b,f,rfl,h1,h2,h3,h4,h5,h6,rfl⟩;have h1:(s.tab.set k ⟨g,some e'⟩)[j]? = some ⟨g1,some e1⟩:=h1;obtain⟨f',h5',h6'⟩:=(F7 (P:=fun r=>r≠e1.region) h).1 ⟨f,h5,h6⟩
   rcases Qx h1 with ⟨rfl,h7,_⟩|⟨_,h7⟩
   ·injection h7 with h0 h7
    injection h7 with h7
    subst h0 h7;rw[hlay,hle] at h3;rw[h.len] at h2;rw[hl p h2 h3] at h4;rw[h.region] at h6';exact⟨j,p,g1,e,a,b,f',rfl,h.at',h2,h3,h4,h5',h6',rfl⟩
   ·exact⟨j,p,g1,e1,a,b,f',rfl,h7,h2,h3,h4,h5',h6',rfl⟩
 ·intro j g1 e1 p a b h1 h2 h3 h4;have h1:(s.tab.set k ⟨g,some e'⟩)[j]? = some ⟨g1,some e1⟩:=h1;rw[NA h]
  rcases Qx h1 with ⟨rfl,h7,_⟩|⟨_,h7⟩
  ·injection h7 with h0 h7
   injection h7 with h7
   subst h0 h7;rw[hlay,hle] at h3;rw[h.len] at h2;rw[hl p h2 h3] at h4;exact hI.link j g1 e p a b h.at' h2 h3 h4
  ·exact hI.link j g1 e1 p a b h7 h2 h3 h4
theorem bP {s:CS} {k g:Nat} {e e':QQ} (h:Ce s k g e e') {r:Int×Int} {t:Int} (hl:∀ p:Nat,r=((k:Int),(p:Int))→YZ e' p=YZ e p):Cd (VI s k g e') r t↔Cd s r t:=by
 have hkl:=(List.getElem?_eq_some_iff.1 h.at').1;have hlay:∀ f,QO (VI s k g e') f=QO s f:=fun _=>rfl;have hle:QO s e'=QO s e:=by unfold QO;rw[h.lay]
 constructor
 ·rintro⟨j,p,g1,e1,a,b,f,rfl,h1,h2,h3,h4,h5,h6,rfl⟩;have h1:(s.tab.set k ⟨g,some e'⟩)[j]? = some ⟨g1,some e1⟩:=h1;obtain⟨f',h5',h6'⟩:=(F7 (P:=fun r=>r≠e1.region) h).1 ⟨f,h5,h6⟩
  rcases Qx h1 with ⟨rfl,h7,_⟩|⟨_,h7⟩
  ·injection h7 with h0 h7
   injection h7 with h7
   subst h0 h7;rw[hlay,hle] at h3;rw[h.len] at h2;rw[hl p rfl] at h4;rw[h.region] at h6';exact⟨j,p,g1,e,a,b,f',rfl,h.at',h2,h3,h4,h5',h6',rfl⟩
  ·exact⟨j,p,g1,e1,a,b,f',rfl,h7,h2,h3,h4,h5',h6',rfl⟩
 ·rintro⟨j,p,g1,e1,a,b,f,rfl,h1,h2,h3,h4,h5,h6,rfl⟩;obtain⟨f',h5',h6'⟩:=(F7 (P:=fun r=>r≠e1.region) h).2 ⟨f,h5,h6⟩;by_cases hj:j=k
  ·subst hj;rw[h.at'] at h1;injection h1 with h1
   injection h1 with h0 h1
   injection h1 with h1
   subst h0 h1;exact⟨j,p,g,e',a,b,f',rfl,getElem?_set_self hkl,by rw[h.len];exact h2,by rw[hlay,hle];exact h3,by rw[hl p rfl];exact h4,h5',by rw[h.region];exact h6',rfl⟩
  ·exact⟨j,p,g1,e1,a,b,f',rfl,by show (s.tab.set k _)[j]? = _;rw[getElem?_set_ne (Ne.symm hj)];exact h1,h2,h3,h4,h5',h6',rfl⟩
theorem I8 {e:QQ} {p q x:Nat} (h:q≠p):YZ { e with ws:=e.ws.set p x } q=YZ e q:=by
 unfold YZ;show ZR ((e.ws.set p x).getD q 0)=_;rw[getD_eq_getElem?_getD,getElem?_set_ne (Ne.symm h),getD_eq_getElem?_getD]
theorem I9 {e:QQ} {p:Nat} {l:Vy} (hl:GR l) (hp:p < e.ws.length):YZ { e with ws:=e.ws.set p (VU l) } p=l:=by
 unfold YZ;show ZR ((e.ws.set p (VU l)).getD p 0)=_;rw[getD_eq_getElem?_getD,getElem?_set_self hp,Option.getD_some,N4 hl]
theorem bc {s:CS} (hI:Inv s) {k g p x:Nat} {e:QQ} (hk:s.tab[k]? = some ⟨g,some e⟩) (hr:VW (QO s e) p=false):Inv (VI s k g { e with ws:=e.ws.set p x }):=
 NB (e':={ e with ws:=e.ws.set p x }) hI ⟨hk,rfl,rfl,by show (e.ws.set p x).length=_;rw[length_set]⟩ fun q hq hrq=>I8 (by rintro rfl;rw[hr] at hrq;cases hrq)
theorem IQ {s:CS} (hI:Inv s) {k g:Nat} {e e':QQ} (hk:s.tab[k]? = some ⟨g,some e⟩) (h1:e'.region=e.region) (h2:e'.lay=e.lay) (h3:e'.ws=e.ws):Inv (VI s k g e'):=
 NB hI ⟨hk,h1,h2,by rw[h3]⟩ fun q _ _=>by unfold YZ;rw[h3]
theorem NC {s:CS} (h:(s.rem.map (·.1)).Nodup) (k:Nat) (e:QQ) (p:Int) (l:Vy):((Ye s k e p l).map (·.1)).Nodup:=by
 unfold Ye
 repeat' split
 ·exact D9 (X0 h)
 ·exact X0 h
 ·exact X0 h
 ·exact X0 h
theorem IV {s:CS} (h:(s.rem.map (·.1)).Nodup) {k:Nat} {e:QQ} {p:Int} {l:Vy} {r:Int×Int} (hr:r≠((k:Int),p)):Q8 (Ye s k e p l) r=Q8 s.rem r:=by
 have h1:Q8 (QB s.rem ((k:Int),p)) r=Q8 s.rem r:=by rw[XH h,if_neg (Ne.symm hr)]
 unfold Ye
 repeat' split
 ·rw[Gd,if_neg (Ne.symm hr),h1]
 ·exact h1
 ·exact h1
 ·exact h1
theorem ND {s:CS} (h:(s.rem.map (·.1)).Nodup) {k:Nat} {e:QQ} {p:Int} {l:Vy} {t:Int}:Q8 (Ye s k e p l) ((k:Int),p)=some t↔∃ (a b:Nat) (f:QQ),l = .obj a b∧Qn s.tab a b=some (a,f)∧f.region≠e.region∧t=a:=by
 have h1:Q8 (QB s.rem ((k:Int),p)) ((k:Int),p)=none:=by rw[XH h,if_pos rfl]
 cases l with
 | none=>rw[show Ye s k e p .none=QB s.rem ((k:Int),p) from rfl,h1];exact⟨fun h=>(by cases h),fun ⟨_,_,_,h,_⟩=>(by cases h)⟩
 | grave=>rw[show Ye s k e p .grave=QB s.rem ((k:Int),p) from rfl,h1];exact⟨fun h=>(by cases h),fun ⟨_,_,_,h,_⟩=>(by cases h)⟩
 | obj a b=>
  cases hl:Qn s.tab a b with
  | none=>
   rw[I5 hl,h1];refine⟨fun h=>(by cases h),?_⟩;rintro⟨a',b',f,h2,h3,_⟩;injection h2 with h2 h2'
   subst h2 h2';rw[hl] at h3;cases h3
  | some q=>
   obtain⟨c,f⟩:=q;obtain⟨rfl,_⟩:=GI hl;rw[CO hl];split
   ·rename_i hne;rw[Gd,if_pos rfl];constructor
    ·intro h2;injection h2 with h2
     exact⟨c,b,f,rfl,hl,hne,h2.symm⟩
    ·rintro⟨a',b',f',h2,h3,h4,rfl⟩;injection h2 with h2 h2'
     rw[h2]
   ·rename_i hne;rw[h1];refine⟨fun h=>(by cases h),?_⟩;rintro⟨a',b',f',h2,h3,h4,rfl⟩;injection h2 with h2 h2'
    subst h2 h2';rw[hl] at h3;injection h3 with h3
    injection h3 with _ h3
    subst h3;exact absurd h4 hne
theorem bd {s:CS} (hI:Inv s) {k g p:Nat} {e:QQ} {l:Vy} (hk:s.tab[k]? = some ⟨g,some e⟩) (hp:p < e.ws.length) (hr:VW (QO s e) p=true) (hl:GR l) (ht:∀ a b,l = .obj a b→∃ f,Qn s.tab a b=some (a,f)) :
  Inv { VI s k g { e with ws:=e.ws.set p (VU l) } with rem:=Ye (VI s k g { e with ws:=e.ws.set p (VU l) }) k { e with ws:=e.ws.set p (VU l) } p l }:=by
 have hlen:({ e with ws:=e.ws.set p (VU l) }:QQ).ws.length=e.ws.length:=by show (e.ws.set p _).length=_;rw[length_set]
 have hS:Ce s k g e { e with ws:=e.ws.set p (VU l) }:=⟨hk,rfl,rfl,hlen⟩;have hkl:=(List.getElem?_eq_some_iff.1 hk).1;have hle:QO s { e with ws:=e.ws.set p (VU l) }=QO s e:=rfl;refine⟨NC (s:=VI s k g _) hI.nd _ _ _ _,fun r t=>?_,?_⟩
 ·show Q8 (Ye _ k _ p l) r=some t↔Cd (VI s k g _) r t;by_cases hrp:r=((k:Int),(p:Int))
  ·subst hrp;rw[ND (s:=VI s k g _) hI.nd];constructor
   ·rintro⟨a,b,f,rfl,h1,h2,rfl⟩;exact⟨k,p,g,_,a,b,f,rfl,getElem?_set_self hkl,by rw[hlen];exact hp,hr,I9 hl hp,h1,h2,rfl⟩
   ·rintro⟨j,q,g1,e1,a,b,f,hq,h1,h2,h3,h4,h5,h6,rfl⟩;injection hq with hq1 hq2
    obtain rfl:k=j:=by omega
    obtain rfl:p=q:=by omega
    replace h1:(s.tab.set k _)[k]? = some ⟨g1,some e1⟩:=h1;rw[getElem?_set_self hkl] at h1;injection h1 with h1
    injection h1 with h0 h1
    injection h1 with h1
    subst h0 h1;rw[I9 hl hp] at h4;exact⟨a,b,f,h4,h5,h6,rfl⟩
  ·rw[IV (s:=VI s k g _) hI.nd hrp,bP hS fun q hq=>I8 (by rintro rfl;exact hrp hq)];exact hI.rem r t
 ·intro j g1 e1 q a b h1 h2 h3 h4;have h1:(s.tab.set k _)[j]? = some ⟨g1,some e1⟩:=h1;show ∃ f,Qn (VI s k g _).tab a b=_;rw[NA hS]
  rcases Qx h1 with ⟨rfl,h7,_⟩|⟨_,h7⟩
  ·injection h7 with h0 h7
   injection h7 with h7
   subst h0 h7;by_cases hq:q=p
   ·subst hq;rw[I9 hl hp] at h4;exact ht a b h4
   ·rw[I8 hq] at h4;exact hI.link j g1 e q a b hk (by rw[← hlen];exact h2) h3 h4
  ·exact hI.link j g1 e1 q a b h7 h2 h3 h4
theorem NE {s:CS} (hI:Inv s) (i g p:Int) (x:Nat):Inv (UF s i g p x).1:=by
 cases hv:Qg s.tab i g with
 | none=>rw[CD hv];exact hI
 | some q=>
  obtain⟨k,e⟩:=q;obtain⟨n,rfl,rfl,hk,_⟩:=ZW hv;rw[CE hv];split
  ·rename_i h0;obtain⟨j,rfl,hj,hr⟩:=Zh h0;exact bc hI hk hr
  ·exact hI
theorem be {s:CS} (hI:Inv s) (i g:Int):Inv (UH s i g).1:=by
 cases hv:Qg s.tab i g with
 | none=>rw[CH hv];exact hI
 | some q=>
  obtain⟨k,e⟩:=q;obtain⟨n,rfl,rfl,hk,_⟩:=ZW hv;rw[CI hv,Int.toNat_natCast];exact IQ hI hk rfl rfl rfl
theorem bh {s:CS} (hI:Inv s) (i g:Int) (on:Bool):Inv (UI s i g on).1:=by
 cases hv:Qg s.tab i g with
 | none=>rw[CL hv];exact hI
 | some q=>
  obtain⟨k,e⟩:=q;obtain⟨n,rfl,rfl,hk,_⟩:=ZW hv;rw[CM hv];split
  ·exact hI
  ·rw[Int.toNat_natCast];exact IQ hI hk rfl rfl rfl
theorem NF {s:CS} (hI:Inv s) (i g p:Int) {l:Vy} (hl:GR l) (ht:∀ a b,l = .obj a b→∃ f,Qn s.tab a b=some (a,f)):Inv (GH s i g p l).1:=by
 cases hv:Qg s.tab i g with
 | none=>rw[CP hv];exact hI
 | some q=>
  obtain⟨k,e⟩:=q;obtain⟨n,rfl,rfl,hk,_⟩:=ZW hv;rw[WI hv];split
  ·rename_i h0;obtain⟨j,rfl,hj,hr⟩:=Zh h0;exact bd hI hk hj hr hl ht
  ·exact hI
theorem NH {s:CS} (hw:WF s) (hI:Inv s) (i g p u v:Int):Inv (Yk s i g p u v).1:=by
 unfold Yk;split
 ·exact hI
 ·split
  ·exact hI
  ·rename_i _ hn;cases hv:Qg s.tab u v with
   | none=>rw[hv] at hn;exact absurd rfl hn
   | some q=>
    obtain⟨k,e⟩:=q;obtain⟨n,rfl,rfl,hk,_⟩:=ZW hv;refine NF hI i g p (I6 hw hk) fun a b hab=>?_;injection hab with h1 h2
    rw[Int.toNat_natCast] at h1 h2;subst h1 h2;exact⟨e,Vz.2 ⟨n,rfl,rfl,hk⟩⟩
theorem br {s:CS} (hI:Inv s) (i g p:Int):Inv (ZN s i g p):=by
 unfold ZN;split
 ·rename_i a b _;cases hl:Qn s.tab a b with
  | none=>rw[CT hl];exact hI
  | some q=>
   obtain⟨k,e⟩:=q;obtain⟨n,h1,h2,hk⟩:=Vz.1 hl;obtain rfl:b=n:=by omega
   rw[Ca hl];exact IQ hI hk rfl rfl rfl
 ·exact hI
theorem bz {s:CS} (hw:WF s) (hI:Inv s) (x:QJ):Inv { s with lays:=s.lays++[x] }:=by
 have hle:∀ (k g:Nat) (e:QQ),s.tab[k]? = some ⟨g,some e⟩→QO { s with lays:=s.lays++[x] } e=QO s e:=by
  intro k g e hk;obtain⟨⟨_,l,h1,_⟩,_⟩:=hw.obj k g e hk;show ((s.lays++[x])[e.lay - 1]?).getD _=_;unfold QO;rw[getElem?_append_left (List.getElem?_eq_some_iff.1 h1).1]
 refine⟨hI.nd,fun r t=>?_,fun j g1 e1 q a b h1 h2 h3 h4=>hI.link j g1 e1 q a b h1 h2 (by rw[hle _ _ _ h1] at h3;exact h3) h4⟩;show Q8 s.rem r=some t↔_;rw[hI.rem];constructor
 ·rintro⟨j,p,g1,e1,a,b,f,rfl,h1,h2,h3,h4⟩;exact⟨j,p,g1,e1,a,b,f,rfl,h1,h2,by rw[hle _ _ _ h1];exact h3,h4⟩
 ·rintro⟨j,p,g1,e1,a,b,f,rfl,h1,h2,h3,h4⟩;rw[hle _ _ _ h1] at h3;exact⟨j,p,g1,e1,a,b,f,rfl,h1,h2,h3,h4⟩
theorem cQ {s:CS} (hw:WF s) (hI:Inv s) (ws:List Nat):Inv (UJ s ws).1:=by
 cases hd:ZX ws with
 | none=>rw[Cb hd];exact hI
 | some l=>
  rw[Ai hd];split
  ·exact hI
  ·exact bz hw hI l
theorem cV {s:CS} (hI:Inv s) (q:Int) (b b2:Nat):Inv (WJ s q b b2):=⟨hI.nd,hI.rem,hI.link⟩
theorem NI {s s':CS} (hI:Inv s) {k g0 n:Nat} {e0:QQ} (hk:s.tab[k]? = some ⟨g0,none⟩) (h1:s'.lays=s.lays) (h2:s'.rem=s.rem) (h3:s'.tab=s.tab.set k ⟨g0+1,some e0⟩) (h0:e0.ws=List.replicate n 0):Inv s':=by
 have hkl:=(List.getElem?_eq_some_iff.1 hk).1;have hle:∀ e,QO s' e=QO s e:=fun e=>by unfold QO;rw[h1]
 have hz:∀ p,YZ e0 p = .none:=fun p=>by
  unfold YZ;rw[h0,getD_eq_getElem?_getD,getElem?_replicate];split <;> rfl
 have hup:∀ {a b:Nat} {f:QQ},Qn s.tab a b=some (a,f)→Qn s'.tab a b=some (a,f):=fun {a b f} hf=>by
  obtain⟨_,hf'⟩:=GI hf;refine Vz.2 ⟨b,rfl,rfl,?_⟩;rw[h3,getElem?_set_ne (by rintro rfl;rw[hk] at hf';cases hf')];exact hf'
 have hat:∀ {j g1:Nat} {e1:QQ},s.tab[j]? = some ⟨g1,some e1⟩→s'.tab[j]? = some ⟨g1,some e1⟩:=fun {j g1 e1} hj=>by
  rw[h3,getElem?_set_ne (by rintro rfl;rw[hk] at hj;cases hj)];exact hj
 refine⟨by rw[h2];exact hI.nd,fun r t=>?_,?_⟩
 ·rw[h2,hI.rem];constructor
  ·rintro⟨j,p,g1,e1,a,b,f,rfl,q1,q2,q3,q4,q5,q6,rfl⟩;exact⟨j,p,g1,e1,a,b,f,rfl,hat q1,q2,by rw[hle];exact q3,q4,hup q5,q6,rfl⟩
  ·rintro⟨j,p,g1,e1,a,b,f,rfl,q1,q2,q3,q4,q5,q6,rfl⟩;rw[h3] at q1
   rcases Qx q1 with ⟨rfl,q7,_⟩|⟨_,q7⟩
   ·injection q7 with _ q7
    injection q7 with q7
    subst q7;rw[hz] at q4;cases q4
   ·rw[hle] at q3;obtain⟨f',hf'⟩:=hI.link j g1 e1 p a b q7 q2 q3 q4;have h5:=hup hf';rw[q5] at h5;injection h5 with h5
    injection h5 with _ h5
    subst h5;exact⟨j,p,g1,e1,a,b,f,rfl,q7,q2,q3,q4,hf',q6,rfl⟩
 ·intro j g1 e1 p a b q1 q2 q3 q4;rw[h3] at q1
  rcases Qx q1 with ⟨rfl,q7,_⟩|⟨_,q7⟩
  ·injection q7 with _ q7
   injection q7 with q7
   subst q7;rw[hz] at q4;cases q4
  ·rw[hle] at q3;obtain⟨f',hf'⟩:=hI.link j g1 e1 p a b q7 q2 q3 q4;exact⟨f',hup hf'⟩
theorem NJ {s:CS} (h1:s.rem=[]) (h2:∀ (k g:Nat) (e:QQ),s.tab[k]? ≠ some ⟨g,some e⟩):Inv s:=
 ⟨by rw[h1];exact nodup_nil,fun r t=>⟨fun h=>(by rw[h1] at h;cases h),fun ⟨k,p,g,e,_,_,_,_,h,_⟩=>absurd h (h2 k g e)⟩,fun k g e _ _ _ h=>absurd h (h2 k g e)⟩
theorem NM {n:Nat} (k g:Nat) (e:QQ):(List.replicate n (⟨0,none⟩:QF))[k]? ≠ some ⟨g,some e⟩:=by
 intro h;rw[getElem?_replicate] at h;split at h
 ·injection h with h
  injection h with _ h
  cases h
 ·cases h
structure Y3 (par:List (Int×Int)):Prop where
 nd:(par.map (·.1)).Nodup
 up:∀ r q,Q8 par r=some q→0≤q∧q < r∧(q=0∨(Q8 par q).isSome=true)
inductive Z5 (par:List (Int×Int)) (id:Int):Int→Prop
 | self:Z5 par id id
 | kid {c k:Int}:Z5 par id k→Q8 par c=some k→Z5 par id c
theorem Z5.ge {par:List (Int×Int)} (h:Y3 par) {id c:Int} (d:Z5 par id c):id≤c:=by
 induction d with
 | self=>exact Int.le_refl _
 | kid _ hf ih=>have:=(h.up _ _ hf).2.1;omega
theorem Z5.live {par:List (Int×Int)} {id c:Int} (hid:(Q8 par id).isSome=true) (d:Z5 par id c):(Q8 par c).isSome=true:=by
 cases d with
 | self=>exact hid
 | kid _ hf=>rw[hf];rfl
theorem Z5.inv {par:List (Int×Int)} {id c:Int} (d:Z5 par id c):c=id∨∃ k,Q8 par c=some k∧Z5 par id k:=by
 cases d with
 | self=>exact .inl rfl
 | kid hk hf=>exact .inr ⟨_,hf,hk⟩
structure Ut (par:List (Int×Int)) (id:Int) (l:List Int) (i:Nat):Prop where
 nd:l.Nodup
 le:i≤l.length
 desc:∀ c∈l,Z5 par id c
 mem:∀ c,c∈l↔c=id∨∃ k∈l.take i,Q8 par c=some k
theorem Ut.start (par:List (Int×Int)) (id:Int):Ut par id [id] 0:=
 ⟨by simp,by simp,fun c hc=>by rw[mem_singleton] at hc;subst hc;exact .self,fun c=>by simp⟩
theorem Ut.step {par:List (Int×Int)} (h:Y3 par) {id:Int} {l K:List Int} {i:Nat} (b:Ut par id l i) {x:Int} (hx:l[i]? = some x) (hK:K.Nodup) (hm:∀ c,c∈K↔Q8 par c=some x):Ut par id (l++K) (i+1):=by
 have hil:=(List.getElem?_eq_some_iff.1 hx).1
 have htk:(l++K).take (i+1)=l.take i++[x]:=by
  rw[take_append_of_le_length (by omega),take_add_one,hx];rfl
 have hxl:=mem_of_getElem? hx
 have hnt:x∉l.take i:=fun hh=>by
  obtain⟨j,hj⟩:=getElem?_of_mem hh;rw[getElem?_take] at hj;split at hj
  ·rename_i hji;obtain⟨hj1,hj2⟩:=List.getElem?_eq_some_iff.1 hj;obtain⟨_,hx2⟩:=List.getElem?_eq_some_iff.1 hx;exact(pairwise_iff_getElem.1 b.nd) j i hj1 hil hji (hj2.trans hx2.symm)
  ·cases hj
 refine⟨?_,by rw[length_append];omega,fun c hc=>?_,fun c=>?_⟩
 ·rw[nodup_append];refine⟨b.nd,hK,fun a ha c hc hac=>?_⟩;subst hac;have hf:=(hm a).1 hc
  rcases (b.mem a).1 ha with rfl|⟨k,hk,hk2⟩
  ·have:=(b.desc x hxl).ge h;have:=(h.up _ _ hf).2.1;omega
  ·rw[hf] at hk2;injection hk2 with hk2
   subst hk2;exact hnt hk
 ·rcases mem_append.1 hc with hc|hc
  ·exact b.desc c hc
  ·exact .kid (b.desc x hxl) ((hm c).1 hc)
 ·rw[htk,mem_append,b.mem,hm];constructor
  ·rintro((h1|⟨k,hk,h1⟩)|h1)
   ·exact .inl h1
   ·exact .inr ⟨k,mem_append.2 (.inl hk),h1⟩
   ·exact .inr ⟨x,by simp,h1⟩
  ·rintro(h1|⟨k,hk,h1⟩)
   ·exact .inl (.inl h1)
   ·rcases mem_append.1 hk with hk|hk
    ·exact .inl (.inr ⟨k,hk,h1⟩)
    ·rw[mem_singleton] at hk;subst hk;exact .inr h1
theorem Ut.ends {par:List (Int×Int)} {id:Int} {l:List Int} (b:Ut par id l l.length) (c:Int):c∈l↔Z5 par id c:=by
 refine⟨b.desc c,fun d=>?_⟩
 induction d with
 | self=>exact(b.mem _).2 (.inl rfl)
 | kid _ hf ih=>exact(b.mem _).2 (.inr ⟨_,by rw[take_length];exact ih,hf⟩)
theorem Ut.len {par:List (Int×Int)} {id:Int} (hid:(Q8 par id).isSome=true) {l:List Int} {i:Nat} (b:Ut par id l i):l.length≤par.length:=by
 have:=G1 b.nd (l₂:=par.map (·.1)) (fun c hc=>by
  have h1:=(b.desc c hc).live hid;cases hf:Q8 par c with
  | none=>rw[hf] at h1;cases h1
  | some q=>exact mem_map.2 ⟨(c,q),Ud hf,rfl⟩)
 rwa [length_map] at this
theorem U4 {l:List Int} {s:List Value} {i:Nat} {x:Int} (h:l[i]? = some x):(Qc l++s)[0+i*1]? = some (.int .i64 x):=by
 have hi:=(List.getElem?_eq_some_iff.1 h).1;rw[Nat.zero_add,Nat.mul_one,getElem?_append_left (by rw[Va];omega)];unfold Qc;rw[getElem?_map,h];rfl
theorem cY (l:List Int):(Qc l).all (·.oneCell')=true:=by simp[Qc,all_eq_true,Value.oneCell']
theorem cZ [Q4] (p last:Nat) (par:List (Int×Int)) (id:Int) (hid:Q8 par id=none) {w:World} {fr:List Q2} (H:Q0 w (Qe p last par::fr)) :
  Calls Tryz.prog 8 #[pp p,.int .i64 id] w (ret fun v w'=>v = .tuple #[.slice none 0 0,.int .i64 6]∧Q0 w' (Qe p last par::fr)):=by
 refine QV Tryz.func8 rfl (by kernel_rfl) ?_;refine Uo H ?_;refine Jc rfl rfl (El p last par id H) ?_;clear H;rintro v w ⟨rfl,H⟩;rw[hid];refine WG H ?_;exact Q3 (Jy H rfl fun w' H'=>⟨rfl,H'⟩)
theorem NN [Q4] (p last:Nat) (par:List (Int×Int)) (id:Int) (hT:Y3 par) (hid:(Q8 par id).isSome=true) (hl:par.length≤1000) {w:World} {fr:List Q2} (H:Q0 w (Qe p last par::fr)) :
  Calls Tryz.prog 8 #[pp p,.int .i64 id] w (ret fun v w'=>∃ u L,v = .tuple #[u,.int .i64 0]∧L.Nodup∧L.Pairwise (·≤·)∧(∀ c,c∈L↔Z5 par id c)∧L.length≤par.length∧Q0 w' (IL u L::Qe p last par::fr)):=by
 refine QV Tryz.func8 rfl (by kernel_rfl) ?_;refine Uo H ?_;refine Jc rfl rfl (El p last par id H) ?_;clear H;rintro v w ⟨rfl,H⟩;rw[if_pos hid];refine Yp H ?_;refine YQ H ?_;refine GX H ?_;clear H;intro b18 w H;refine J0 H ?_;replace H:Q0 w (IL _ [id]::_):=Uh (c:=Qc [id]) rfl H;refine J6 H ?_;refine Qm (fun ms σ w=>ms=[]∧∃ (l:List Int) (a:Option Addr) (c:Nat),Ut par id l l.length∧σ 7 = .slice a l.length c∧Q0 w (IL (.slice a l.length c) l::Qe p last par::fr)) ?_ ?_
 ·refine QS ?_;refine Qi (fun ms σ w n=>ms=[]∧∃ (i:Nat) (l:List Int) (a:Option Addr) (c:Nat),Ut par id l i∧n=par.length - i∧σ 0=pp p∧σ 7 = .slice a l.length c∧σ 8 = .int .i64 i∧Q0 w (IL (.slice a l.length c) l::Qe p last par::fr)) (m:=par.length) ⟨rfl,0,[id],_,_,Ut.start par id,rfl,rfl,rfl,rfl,H⟩ ?_;clear H;rintro ms σ w n ⟨rfl,i,l,a,c,hB,rfl,g0,g7,g8,H⟩;rw[Q1 g0,Q1 g7,Q1 g8];have hll:=hB.len hid;have hil:=hB.le;refine KE H ?_;refine Qh rfl (fun h=>QR ?_) (fun h=>Qj ?_)
  ·have hlt:i < l.length:=by omega
   have hx:=getElem?_eq_getElem hlt;have hxd:=hB.desc _ (getElem_mem hlt);generalize l[i]=x at hx hxd;obtain⟨bT,sT,rfl,H,hcl⟩:=Qw H (by omega);refine Ry H ?_;refine Jd ?_;refine Q5 rfl (QW H rfl (by simpa using U4 hx) rfl ?_);replace H:=hcl _ _ H;refine Jc rfl rfl (aH p last par x (.inr (hxd.live hid)) hl H.swap) ?_;clear H;rintro v w ⟨u,K,rfl,hK,hKs,H⟩;obtain⟨au,mu,cu,rfl⟩:=Qq H;refine ZE H ?_
   have hKm:∀ c,c∈K↔Q8 par c=some x:=fun c=>by
    rw[hK.mem_iff,mem_filter];unfold U2;constructor
    ·rintro⟨_,h1⟩;simpa using h1
    ·intro h1;exact⟨mem_map.2 ⟨(c,x),Ud h1,rfl⟩,by simpa using h1⟩
   have hKn:K.Nodup:=hK.nodup_iff.2 (hT.nd.filter _);have hB2:=hB.step hT hx hKn hKm;have hl2:=hB2.len hid;rw[length_append] at hl2;refine J5 H ?_;replace H:=Js [0,1,0] 0 H;obtain⟨DK,H,hDK,hCK⟩:=sls_rd H (Va K) (by decide);replace H:=Js [1,0] 0 H;refine Q5 rfl (Fy H rfl rfl (hDK _) (cY K) (by rw[Va,Va];omega) rfl rfl ?_);clear H;intro v36 w H;rw[← Ab] at H;obtain⟨a36,c36,rfl⟩:=QD H (Va _) (by decide);refine C1 H ?_;replace H:=Js [0,1] 1 H;exact⟨_,⟨rfl,i+1,l++K,a36,c36,hB2,rfl,rfl,rfl,Qa (by omega),H⟩,by omega⟩
  ·have hge:i=l.length:=by omega
   subst hge;exact⟨rfl,rfl,l,a,c,hB,rfl,H⟩
 clear H;rintro ms σ w ⟨rfl,l,a,c,hB,g7,H⟩;rw[Q1 g7];have hll:=hB.len hid;refine YQ H ?_;refine Jc rfl rfl (Es _ l (by omega) H) ?_;clear H;rintro v w ⟨rfl,H⟩;refine Rz H ?_;have hp:(l.mergeSort fun x y=>decide (x≤y)).Perm l:=mergeSort_perm l _;refine Q3 (Jy H rfl fun w' H'=>⟨_,l.mergeSort fun x y=>decide (x≤y),rfl,hp.nodup_iff.2 hB.nd,?_,fun c=>?_,?_,H'⟩)
 ·have:=pairwise_mergeSort (le:=fun x y:Int=>decide (x≤y)) (fun a b c h1 h2=>by simp at *;omega) (fun a b=>by simp;omega) l;exact this.imp fun h=>by simpa using h
 ·rw[hp.mem_iff];exact hB.ends c
 ·rw[hp.length_eq];exact hll
theorem cG [Q4] (p last:Nat) (par:List (Int×Int)) (id:Int) (hT:Y3 par) (hid:(Q8 par id).isSome=true) (hl:par.length≤1000) {w:World} {fr:List Q2} (H:Q0 w (Qe p last par::fr)) :
  Calls Tryz.prog 37 #[pp p,.int .i64 id] w (ret fun v w'=>∃ u L,v = .tuple #[u,.int .i64 0]∧L.Nodup∧L.Pairwise (·≤·)∧(∀ c,c∈L↔Z5 par id c)∧L.length≤par.length∧Q0 w' (IL u L::Qe p last (L.foldl QB par)::fr)):=by
 refine QV Tryz.func37 rfl (by kernel_rfl) ?_;refine Uo H ?_;refine Jc rfl rfl (NN p last par id hT hid hl H) ?_;clear H;rintro v w ⟨u,L,rfl,h1,h2,h3,h4,H⟩;obtain⟨a,c,rfl⟩:=QD H (Va _) (by decide);refine ZE H ?_;refine YQ H ?_;refine Bs H ?_;refine Qm (fun ms σ w=>ms=[]∧σ 6 = .slice a L.length c∧σ 7 = .int .i64 0∧Q0 w (IL (.slice a L.length c) L::Qe p last (L.foldl QB par)::fr)) ?_ ?_
 ·refine QS ?_;refine Qi (fun ms σ w n=>ms=[]∧∃ i:Nat,i≤L.length∧n=L.length - i∧σ 0=pp p∧σ 6 = .slice a L.length c∧σ 7 = .int .i64 0∧σ 16 = .slice a L.length c∧σ 17 = .int .i64 L.length∧σ 18 = .int .i64 i∧Q0 w (IL (.slice a L.length c) L::Qe p last ((L.take i).foldl QB par)::fr)) (m:=L.length) ⟨rfl,0,by omega,rfl,rfl,rfl,rfl,rfl,rfl,rfl,H⟩ ?_;clear H;rintro ms σ w n ⟨rfl,i,hi,rfl,g0,g6,g7,g16,g17,g18,H⟩;rw[Q1 g0,Q1 g6,Q1 g7,Q1 g16,Q1 g17,Q1 g18];refine J6 H ?_;refine Qh rfl (fun h=>QR ?_) (fun h=>Qj ?_)
  ·have hlt:i < L.length:=by omega
   have hx:=getElem?_eq_getElem hlt;generalize L[i]=x at hx;have htk:L.take (i+1)=L.take i++[x]:=by rw[take_add_one,hx];rfl
   obtain⟨bT,sT,rfl,H,hcl⟩:=Qw H (by omega);refine Y9 H ?_;refine Jd ?_;refine Q5 rfl (QW H rfl (by simpa using U4 hx) rfl ?_);refine J0 H ?_;replace H:=(hcl _ _ H).swap;obtain⟨bm,H⟩:=KH H;refine J9 H ?_;refine Q5 rfl (XL (key:=x) H.swap rfl rfl VL rfl ?_);clear H;intro w H;refine Q6 ?_;replace H:=Xn H.swap;refine J3 H ?_;exact⟨_,⟨rfl,i+1,hlt,rfl,rfl,rfl,rfl,rfl,rfl,Qa (by omega),by rw[htk,foldl_append];exact H.swap⟩,by omega⟩
  ·have hge:i=L.length:=by omega
   subst hge;rw[take_length] at H;exact⟨rfl,rfl,rfl,rfl,H⟩
 clear H;rintro ms σ w ⟨rfl,g6,g7,H⟩;rw[Q1 g6,Q1 g7];refine W9 H ?_;exact Q3 (Jy H rfl fun w' H'=>⟨_,L,rfl,h1,h2,h3,h4,H'⟩)
theorem cX [Q4] (v:Value) (l:List Int) (hs:l.Pairwise (· < ·)) (hl:l.length≤1000000) {w:World} {fr:List Q2} (H:Q0 w (IL v l::fr)) :
  Calls Tryz.prog 98 #[v] w (ret fun x w'=>x=v∧Q0 w' (IL v l::fr)):=by
 obtain⟨a,c,rfl⟩:=QD H (Va l) (by decide);refine QV Tryz.func98 rfl (by kernel_rfl) ?_;refine E4 H ?_;by_cases h2:l.length < 2
 ·rw[show decide ((l.length:Int) < 2)=true from decide_eq_true (by omega)];refine Yi H ?_;exact Q3 (Jy H rfl fun w' H'=>⟨rfl,H'⟩)
 rw[show decide ((l.length:Int) < 2)=false from decide_eq_false (by omega)];refine V8 H ?_;refine J6 H ?_;refine Qm (fun ms σ w=>ms=[]∧σ 0 = .slice a l.length c∧Q0 w (IL (.slice a l.length c) l::fr)) ?_ ?_
 ·refine QS ?_;refine Qi (fun ms σ w n=>ms=[]∧∃ k:Nat,1≤k∧k≤l.length∧n=l.length - k∧σ 0 = .slice a l.length c∧σ 3 = .int .i64 k∧Q0 w (IL (.slice a l.length c) l::fr)) (m:=l.length - 1) ⟨rfl,1,by omega,by omega,rfl,rfl,rfl,H⟩ ?_;clear H;rintro ms σ w n ⟨rfl,k,hk1,hk,rfl,g0,g3,H⟩;rw[Q1 g0,Q1 g3];refine KE H ?_;refine Qh rfl (fun h=>QR ?_) (fun h=>Qj ?_)
  ·have hlt:k < l.length:=by omega
   have hx:=getElem?_eq_getElem hlt;have hy:=getElem?_eq_getElem (show k - 1 < l.length by omega);have hxy:=(pairwise_iff_getElem.1 hs) (k - 1) k (by omega) hlt (by omega);generalize l[k]=x at hx hxy;generalize l[k - 1]=y at hy hxy;obtain⟨bT,sT,rfl,H,hcl⟩:=Qw H (by omega);have ek:IntKind.i64.wrap ((k:Int) - 1)=((k - 1:Nat):Int):=by rw[Qb (by omega) (by omega)];omega
   refine C2 H ?_;clear H;intro w H;refine Ja 0 ?_;refine Ja 1 ?_;refine Ji 2 ?_;refine Vg 3 [] H rfl (Q9.none rfl) rfl (by simpa using U4 hx) (by kernel_rfl) ?_;refine Ui H ?_;refine Ja 6 ?_;rw[ek];refine Ji 7 ?_;refine Vg 8 [] H rfl (Q9.none rfl) rfl (by simpa using U4 hy) (by kernel_rfl) ?_;refine Ja 9 ?_;rw[show (x == y)=false from by rw[beq_eq_false_iff_ne];omega];refine Jx H ?_;replace H:=hcl _ _ H;refine A9 H ?_;exact⟨_,⟨rfl,k+1,by omega,hlt,rfl,rfl,Qa (by omega),H⟩,by omega⟩
  ·exact⟨rfl,rfl,rfl,H⟩
 clear H;rintro ms σ w ⟨rfl,g0,H⟩;rw[Q1 g0];refine J3 H ?_;exact Q3 (Jy H rfl fun w' H'=>⟨rfl,H'⟩)
theorem cK [Q4] {w:World} {v:Value} {l:List Nat} {fr:List Q2} (H:Q0 w (IL v (l.map fun x:Nat=>(x:Int))::fr)):Q0 w (NL v l::fr):=by
 show Q0 w (QC 3 1 v (QA l)::fr);rw[Er];exact H
def U5 (l m:List Nat):List Nat:=(l++m).mergeSort fun x y=>decide (x≤y)
theorem cR {l m:List Nat} {x:Nat}:x∈U5 l m↔x∈l∨x∈m:=by
 unfold U5;rw[mem_mergeSort,mem_append]
theorem cW (l m:List Nat):(U5 l m).length=l.length+m.length:=by
 unfold U5;rw[length_mergeSort,length_append]
theorem NO {l m:List Nat} (hl:l.Pairwise (· < ·)) (hm:m.Pairwise (· < ·)) (hd:∀ x∈l,x∉m):(U5 l m).Pairwise (· < ·):=by
 have h1:(U5 l m).Pairwise (fun x y=>decide (x≤y)=true):=pairwise_mergeSort (fun a b c h1 h2=>by simp at *;omega) (fun a b=>by simp;omega) _
 have h2:(U5 l m).Nodup:=by
  unfold U5;rw[(mergeSort_perm _ _).nodup_iff,nodup_append];exact⟨hl.imp fun h=>by omega,hm.imp fun h=>by omega,fun a ha b hb hab=>hd a ha (hab▸hb)⟩
 refine(h1.and h2).imp fun h=>?_;have:=h.1;have h3:_≠_:=h.2;simp at this;omega
theorem cB (l m:List Nat):(U5 l m).map (fun x:Nat=>(x:Int))=(((l++m).map fun x:Nat=>(x:Int)).mergeSort fun x y=>decide (x≤y)):=by
 unfold U5;rw[map_mergeSort];intro a _ b _;simp
theorem cC [Q4] (p q:Nat) (l m:List Nat) (hl:l.Pairwise (· < ·)) (hm:m.Pairwise (· < ·)) (hd:∀ x∈l,x∉m) (hll:l.length≤100000) (hml:m.length≤100000) {w:World} {fr:List Q2} (H:Q0 w (Qs p l::Qs q m::fr)) :
  Calls Tryz.prog 39 #[pp p,pp q] w (ret fun v w'=>v = .tuple #[]∧Q0 w' (Qs p (U5 l m)::Qs q m::fr)):=by
 obtain⟨a,c,H⟩:=WB H;replace H:=Js [2,0,0] 0 H;obtain⟨a',c',H⟩:=WB H;refine QV Tryz.func39 rfl (by kernel_rfl) ?_;refine DN H ?_;refine BB H ?_;refine Dy H ?_;replace H:=Js [3,2,0,0] 0 H;obtain⟨D1,H,hD1,hC1⟩:=sls_rd H (QE l) (by decide);replace H:=Js [3,1,1,0] 0 H;obtain⟨D2,H,hD2,hC2⟩:=sls_rd H (QE m) (by decide);refine J1 H ?_;clear H;intro w H;refine X7 H ?_;refine DS H ?_;refine Jl 8 [] H ?_;replace H:=Js [3,0,0,0] 0 H;refine Jo 4 H ?_;refine Jk rfl rfl (CU _ l (by omega) (hD1 _) H) ?_;clear H;intro v15 w H;obtain⟨a15,c15,rfl⟩:=QD H (QE l) (by decide);refine Jo 9 H ?_;refine Fy H rfl rfl ((hD2 _).there) (by simp[QA,all_eq_true,Value.oneCell']) (by rw[QE,QE];omega) rfl rfl ?_;clear H;intro v20 w H;rw[← WW,Er] at H;obtain⟨a20,c20,rfl⟩:=QD (m:=l.length+m.length) H (by rw[Va,length_map,length_append]) (by decide);refine Ja 10 ?_;refine Jx H ?_;refine YQ H ?_;refine Jc rfl rfl (Es (.slice a20 (l.length+m.length) c20) ((l++m).map fun x:Nat=>(x:Int)) (by rw[length_map,length_append];omega) H) ?_;clear H;rintro v w ⟨rfl,H⟩;refine Q6 ?_;rw[← cB] at H;have hjs:=NO hl hm hd;have hjl:=cW l m;refine J5 H ?_;refine Jc rfl rfl (cX (.slice a20 (l.length+m.length) c20) ((U5 l m).map fun x:Nat=>(x:Int)) (List.Pairwise.map _ (fun a b h=>by omega) hjs) (by rw[length_map];omega) H) ?_;clear H;rintro v w ⟨rfl,H⟩;refine GK H ?_;clear H;intro w H;refine Q6 ?_;replace H:=cK H;replace H:=Js [2,3,2,0] 1 H;replace H:=hC2 _ _ H;replace H:=Js [2,2,1,0] 0 H;replace H:=KJ H;replace H:=KJ (Q0.sel [1,1,0] 0 H);exact Y7 _ (.inl rfl) H.swap rfl fun w' H'=>⟨rfl,H'⟩
theorem cD [Q4] (a:Option Addr) (n c:Nat) {w:World} {fr:List Q2} (H:Q0 w fr) :
  Calls Tryz.prog 100 #[.slice a n c] w (ret fun v w'=>∃ b1,v = .func (.func 182) #[] #[pp b1]∧Q0 w' (pts b1 (row 25 [.slice a n c])::fr)):=by
 refine QV Tryz.func100 rfl (by kernel_rfl) ?_;refine ZF H ?_;clear H;intro b1 w H;refine YI H ?_;exact Q3 (Jy H rfl fun w' H'=>⟨_,rfl,H'⟩)
theorem F8 [Q4] (p:Nat) (l:List Nat) (hl:l.length≤1000000) {w:World} {fr:List Q2} (H:Q0 w (Qs p l::fr)) :
  Calls Tryz.prog 40 #[pp p] w (ret fun v w'=>∃ (b1:Nat) (a:Option Addr) (c:Nat),v = .func (.func 182) #[] #[pp b1]∧Q0 w' (pts b1 (row 25 [.slice a l.length c])::NL (.slice a l.length c) l::Qs p l::fr)):=by
 obtain⟨a,c,H⟩:=WB H;refine QV Tryz.func40 rfl (by kernel_rfl) ?_;refine Ky H ?_;obtain⟨D1,H,hD1,hC1⟩:=sls_rd H.swap (QE l) (by decide);refine Jc rfl rfl (CU _ l hl (hD1 _) H) ?_;clear H;intro v w H;obtain⟨a9,c9,rfl⟩:=QD H (QE l) (by decide);refine Jc rfl rfl (cD a9 l.length c9 H) ?_;clear H;rintro v w ⟨b1,rfl,H⟩;refine J0 H ?_;replace H:=Js [2,0,0,0] 0 H;replace H:=hC1 _ _ H;replace H:=Js [3,0,0,0] 0 H;replace H:=KJ H;replace H:=Js [1,1,0] 0 H;exact Q3 (Jy H rfl fun w' H'=>⟨_,a9,c9,rfl,H'⟩)
theorem F9 [Q4] (yl b1:Nat) (a:Option Addr) (c:Nat) (l:List Nat) (hl:l.length≤1000000) (J:List Nat→Q2) {w:World} {fr:List Q2}
  (hy:∀ (ks:List Nat) (k:Nat) (t:List Nat) (rest:List Q2) (w:World),l=ks++k::t→Q0 w (J ks::rest)→SL.Yields Tryz.prog yl #[.int .i64 k] w (fun v w'=>v = .bool true∧Q0 w' (J (ks++[k])::rest)))
  (H:Q0 w (J []::pts b1 (row 25 [.slice a l.length c])::NL (.slice a l.length c) l::fr)) :
  Calls Tryz.prog 182 #[.func (.yield yl) #[] #[],pp b1] w (ret fun _ w'=>Q0 w' (J l::pts b1 (row 25 [.slice a l.length c])::NL (.slice a l.length c) l::fr)):=by
 refine QV Tryz.func182 rfl (by kernel_rfl) ?_;refine Gx H ?_;refine AR H ?_;refine Qi (fun ms σ w n=>ms=[]∧∃ i:Nat,i≤l.length∧n=l.length - i∧σ 0 = .func (.yield yl) #[] #[]∧σ 5 = .slice a l.length c∧σ 6 = .int .i64 l.length∧σ 7 = .int .i64 i∧Q0 w (J (l.take i)::pts b1 (row 25 [.slice a l.length c])::NL (.slice a l.length c) l::fr)) (m:=l.length) ⟨rfl,0,by omega,rfl,rfl,rfl,rfl,rfl,H⟩ ?_;clear H;rintro ms σ w n ⟨rfl,i,hi,rfl,g0,g5,g6,g7,H⟩;rw[Q1 g0,Q1 g5,Q1 g6,Q1 g7];refine J6 H ?_;refine Qh rfl (fun h=>QR ?_) (fun h=>Qj ?_)
 ·have hlt:i < l.length:=by omega
  have hx:=getElem?_eq_getElem hlt;have hsp:l=l.take i++l[i]::l.drop (i+1):=by rw[getElem_cons_drop,take_append_drop]
  have htk:l.take (i+1)=l.take i++[l[i]]:=by rw[take_add_one,hx];rfl
  generalize l[i]=x at hx hsp htk;replace H:=Js [2,0,0] 0 H;obtain⟨bT,sT,rfl,H,hcl⟩:=Qw H (by omega);refine Y9 H ?_;refine Jd ?_;refine Q5 rfl (QW H rfl (GW hx) rfl ?_);refine J0 H ?_;replace H:=hcl _ _ H;refine J5 H ?_;replace H:=Js [1,1,0] 0 H;refine Q5 rfl (Wl rfl rfl (SL.Yields.mono (hy _ x _ _ _ hsp H) ?_));clear H;rintro v w ⟨rfl,H⟩;rw[← htk] at H;refine KK H ?_;exact⟨_,⟨rfl,i+1,hlt,rfl,rfl,rfl,rfl,Qa (by omega),H⟩,by omega⟩
 ·have hge:i=l.length:=by omega
  subst hge;rw[take_length] at H;exact Y7 _ (.inl rfl) H rfl fun w' H'=>H'
end Go.Proofs.YtbnnnljagkjpiaaGreatDoor
namespace Go.Proofs.YtbnnnljagkjpiaaGreatDoor
open Go.SL
end Go.Proofs.YtbnnnljagkjpiaaGreatDoor
