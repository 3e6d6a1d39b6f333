/- Cells: what is proved on the way: every input of the statement; no condition. Texts joined: TabC TabD CelA CelB CelC CelD CelE CelF CelG CelH PrtP SrtJ. -/
import Derived.Test.YtmjdnljneifpcaaGreatDoorBee
import Derived.Test.YtmjdnljneifpcaaGreatDoorBei
import Derived.Test.YtmjdnljneifpcaaGreatDoorBeh
set_option linter.unusedVariables false
set_option linter.unusedSimpArgs false
set_option linter.unusedSectionVars false
namespace Go.Proofs.YtmjdnljneifpcaaGreatDoor
open List
open Go.SL
theorem O5 {ts:List QW} {k:Nat} {t t':QW} (hk:ts[k]? = some t) (hb:(t'.ent.isNone && t'.gen == 255)=(t.ent.isNone && t.gen == 255)):ZV (ts.set k t')=ZV ts:=by
 unfold ZV;rw[set_split hk]
 conv=>rhs;rw[split_at hk]
 rw[filter_append,filter_append,filter_cons,filter_cons,hb];split <;> simp
theorem X8.set {ts:List QW} {x k:Nat} {t t':QW} (h:X8 ts x) (hk:ts[k]? = some t) (hb:busy t'=busy t) (hg:t'.gen≤255):X8 (ts.set k t') x:=by
 refine⟨by rw[length_set];exact h.bits,fun i u hu=>?_,fun i u hu=>?_⟩
 ·rcases VE hu with ⟨rfl,rfl,_⟩|⟨_,hu⟩
  ·rw[hb];exact h.bit _ _ hk
  ·exact h.bit _ _ hu
 ·rcases VE hu with ⟨rfl,rfl,_⟩|⟨_,hu⟩
  ·exact hg
  ·exact h.gen _ _ hu
theorem qt [Q4] (p:Nat) (ts:List QW) (i g:Int) {w:World} {fr:List Q2} (H:Q0 w (Qr p ts::fr)) :
  Calls Tryz.prog 68 #[pp p,GB i g] w (ret fun v w'=>v=(match Qk ts i g with|some (_,e) => .tuple #[.agg (YX e).toArray,.int .i64 0]|none => .tuple #[.agg #[.int .i64 0,.int .i64 0,.bool false,.bool false],.int .i64 8])∧Q0 w' (Qr p ts::fr)):=by
 obtain⟨b,c,s,u,x,QX,hc,H,QK⟩:=BB H;refine QQ Tryz.func68 rfl (by kernel_rfl) ?_;refine J8 H ?_;clear H;intro b3 w H;refine VS H ?_;clear H;intro b4 w H;refine Au H ?_;replace H:=Js [2,2,0,0,0] 0 H;refine Jc rfl rfl (O4 p b c u _ rfl ts s QX.bits.le i g H) ?_;clear H;rintro v w ⟨rfl,H⟩;cases hL:Qk ts i g with
 | some q=>
  obtain⟨k,e⟩:=q;obtain⟨n,rfl,rfl,hk⟩:=Yz.1 hL;have Qu:QY (ts.flatMap Y6++s) (k*6+2) 4 (YX e):=Bs (vs:=YX e) ZH hk (by repeat first|exact .nil _|apply QY.cons rfl);refine UA H ?_;refine N9 H ?_;refine Q5 rfl (Vz H rfl Qu rfl ?_);refine J5 H ?_;clear H;intro w H;refine J0 H ?_;replace H:=Js [2,0,0,1] 1 H;exact Q3 (Jz H (fun w' H' => .cellN H' rfl (by repeat first|exact .nil _|apply QY.cons rfl) (.tmp .nil)) fun w' H'=>⟨rfl,QK _ _ ts x rfl rfl QX H'.drop⟩)
 | none=>
  refine IS H ?_;refine IT H ?_;clear H;intro w H;refine J0 H ?_;replace H:=Js [2,0,0,1] 1 H;exact Q3 (Jz H (fun w' H' => .cellN H' rfl (by repeat first|exact .nil _|apply QY.cons rfl) (.tmp .nil)) fun w' H'=>⟨rfl,QK _ _ ts x rfl rfl QX H'.drop⟩)
theorem JR [Q4] (p:Nat) (ts:List QW) (i g:Int) (e':Q8) {w:World} {fr:List Q2} (H:Q0 w (Qr p ts::fr)) :
  Calls Tryz.prog 140 #[pp p,GB i g,.agg (YX e').toArray] w (ret fun v w'=>(∃ k e,Qk ts i g=some (k,e)∧v = .int .i64 0∧Q0 w' (Qr p (ts.set k ⟨g.toNat,some e'⟩)::fr))∨(Qk ts i g=none∧v = .int .i64 8∧Q0 w' (Qr p ts::fr))):=by
 obtain⟨b,c,s,u,x,QX,hc,H,QK⟩:=BB H;refine QQ Tryz.func140 rfl (by kernel_rfl) ?_;refine J8 H ?_;clear H;intro b4 w H;refine W9 H ?_;clear H;intro b5 w H;refine Au H ?_;replace H:=Js [2,2,0,0,0] 0 H;refine Jc rfl rfl (O4 p b c u _ rfl ts s QX.bits.le i g H) ?_;clear H;rintro v w ⟨rfl,H⟩;cases hL:Qk ts i g with
 | some q=>
  obtain⟨k,e⟩:=q;obtain⟨n,rfl,rfl,hk⟩:=Yz.1 hL;refine Av H ?_;refine J6 H ?_;refine Qt (fun ms σ w=>ms=[]∧σ 8 = .int .i64 0∧Q0 w (Qr p (ts.set k ⟨n,some e'⟩)::fr)) ?_ ?_
  ·refine YY rfl ?_;refine Ia H ?_;refine DP H ?_;replace H:=Js [1,0,0,0,0] 0 H;have Qw:=Xs ZH ts;have VB:k < ts.length:=(List.getElem?_eq_some_iff.1 hk).1;refine Q5 rfl (U0 (vs:=YX e') H rfl rfl inferInstance rfl rfl (by rw[length_append,Qw];omega) rfl ?_);clear H;intro w H;rw[MA (x':=⟨n,some e'⟩) ZH hk (by simp) rfl] at H;refine J2 H ?_;replace H:=Js [1,0,2] 2 H;exact⟨rfl,rfl,rfl,QK _ _ (ts.set k ⟨n,some e'⟩) x (by simp) (O5 hk rfl) (QX.set hk rfl (by have:=QX.gen _ _ hk;exact this)) H⟩
  ·clear H;rintro ms σ w ⟨rfl,g8,H⟩;rw[Q1 g8];refine J3 H ?_;exact Q3 (Jy H rfl fun w' H' => .inl ⟨k,e,rfl,rfl,H'⟩)
 | none=>
  refine UA H ?_;refine J3 H ?_;replace H:=Js [0,0,2] 2 H;exact Q3 (Jy H rfl fun w' H' => .inr ⟨rfl,rfl,QK _ _ ts x rfl rfl QX H'⟩)
theorem T5 [Q4] (p:Nat) (ts:List QW) {w:World} {fr:List Q2} (H:Q0 w (Qr p ts::fr)) :
  Calls Tryz.prog 17 #[pp p] w (ret fun v w'=>v = .int .i64 ((U8 ts - ZV ts:Nat):Int)∧Q0 w' (Qr p ts::fr)):=by
 obtain⟨b,c,s,u,x,QX,hc,H,QK⟩:=BB H;have hb:=QX.bits.le;have T4:=QX.cnt;have VO:=Na ts.length x
 have gT:ZV ts≤U8 ts:=by
  unfold ZV U8;refine List.Sublist.length_le ?_
  have:ts.filter (fun t=>t.ent.isNone && t.gen == 255)=(ts.filter busy).filter (fun t=>t.ent.isNone && t.gen == 255):=by
   rw[filter_filter];apply filter_congr;intro t _;unfold busy;cases t.ent <;> simp
  rw[this];exact filter_sublist
 refine QQ Tryz.func17 rfl (by kernel_rfl) ?_;refine MT H ?_;clear H;intro w H;refine YN H ?_;refine Jl 3 [4] H ?_;refine Eu H ?_;refine Jl 8 [] H ?_;replace H:=Js [2,0,0] 0 H;refine Jo 4 H ?_;refine Jk rfl rfl (SR u _ _ _ H) ?_;clear H;rintro v w ⟨rfl,H⟩;refine Ja 9 ?_;refine DR H ?_;replace H:=Js [1,1,0] 0 H;refine Q3 (Jy (QK _ _ ts x rfl rfl QX H) rfl fun w' H'=>⟨?_,H'⟩);show Value.int .i64 (IntKind.i64.wrap ((Zi ts.length x:Int) - (ZV ts:Int)))=_;rw[Qg (by omega) (by omega),← T4];congr 1;omega
theorem O6 [Q4] (p:Nat) (ts:List QW) (k n:Nat) (e:Q8) (hk:ts[k]? = some ⟨n,some e⟩) {w:World} {fr:List Q2} (H:Q0 w (Qr p ts::fr)) :
  Calls Tryz.prog 110 #[pp p,.int .i64 k] w (ret fun v w'=>v = .tuple #[Xv k n,.bool true]∧Q0 w' (Qr p ts::fr)):=by
 obtain⟨b,c,s,u,x,QX,hc,H,QK⟩:=BB H;have hb:=QX.bits.le;have VB:k < ts.length:=(List.getElem?_eq_some_iff.1 hk).1;have c1:(ts.flatMap Y6++s)[k*6+1]? = some (.bool true):=Kl ZH hk rfl;have c0:(ts.flatMap Y6++s)[k*6+0]? = some (.int .i64 n):=Kl ZH hk rfl;have ei:0+((k:Nat):Int).toNat*6=k*6:=by simp
 refine QQ Tryz.func110 rfl (by kernel_rfl) ?_;refine YM H ?_;clear H;intro b4 w H;refine J0 H ?_;refine Ep H ?_;refine Rb H ?_;rw[show decide ((k:Int) < 0)=false from decide_eq_false (by omega)];refine ZS H ?_;refine Mb H ?_;rw[show decide ((k:Int)≥(ts.length:Int))=false from decide_eq_false (by omega)];refine Wu H ?_;refine QS rfl rfl rfl (Ut rfl rfl (by omega) (by omega) rfl ?_);rw[ei];refine En H ?_;refine QS rfl rfl rfl (QA H rfl c1 rfl ?_);refine W2 H ?_;refine F7 H ?_;refine Jd ?_;rw[ei];refine DP H ?_;refine Q5 rfl (QA H rfl c0 rfl ?_);refine NQ H ?_;clear H;intro w H;refine J0 H ?_;exact Q3 (Jz H (fun w' H' => .cellN H' rfl (by repeat first|exact .nil _|apply QY.cons rfl) (.tmp .nil)) fun w' H'=>⟨rfl,QK _ _ ts x rfl rfl QX H'.drop⟩)
theorem qu [Q4] (p:Nat) (ts:List QW) (e:Q8) {w:World} {fr:List Q2} [hT:Z6 0 Lib.deBruijn64tab fr] (H:Q0 w (Qr p ts::fr)) :
  Calls Tryz.prog 91 #[pp p,.agg (YX e).toArray] w (ret fun v w'=>(∃ k n,ts[k]? = some ⟨n,none⟩∧n≤254∧(∀ j t,j < k→ts[j]? = some t→busy t=true)∧v = .tuple #[Xv k (n+1),.int .i64 0]∧Q0 w' (Qr p (ts.set k ⟨n+1,some e⟩)::fr)) ∨
   ((∀ t∈ts,busy t=true)∧v = .tuple #[Xv 0 0,.int .i64 12]∧Q0 w' (Qr p ts::fr))):=by
 obtain⟨b,c,s,u,x,QX,hc,H,QK⟩:=BB H;have hb:=QX.bits.le;refine QQ Tryz.func91 rfl (by kernel_rfl) ?_;refine J8 H ?_;clear H;intro b3 w H;refine VS H ?_;clear H;intro b4 w H;refine F4 H ?_;refine G1 H ?_;replace H:=Js [4,0,0,0,0] 0 H;refine Jc rfl rfl (SF u ts.length x 0 _ QX.bits (by omega) H) ?_;clear H;rintro v w ⟨hF,H⟩
 rcases hF with ⟨k,rfl,_,hk,BZ,ZG⟩|⟨rfl,ZG⟩
 ·have ht:=getElem?_eq_getElem hk;have T6:∀ j t,j < k→ts[j]? = some t→busy t=true:=fun j t hj qv=>by rw[← QX.bit j t qv];exact ZG j (Nat.zero_le _) hj
  generalize ts[k]=t at ht;have GQ:=QX.bit k t ht;have hg:=QX.gen k t ht;rw[BZ] at GQ;obtain⟨n,en⟩:=t
  have qw:en=none∧n≤254:=by
   unfold busy at GQ;cases en with
   | none=>simp at GQ hg;exact⟨rfl,by omega⟩
   | some y=>simp at GQ
  obtain⟨rfl,hn⟩:=qw;have ei:0+((k:Nat):Int).toNat*6=k*6:=by simp
  have Qw:=Xs ZH ts;refine UA H ?_;refine VM H ?_;refine Jc rfl rfl (SC u _ x k true QX.bits hk H) ?_;clear H;rintro v w ⟨rfl,H⟩;refine N4 H ?_;refine Jd ?_;rw[ei];refine J0 H ?_;have c0:(ts.flatMap Y6++s)[k*6+0]? = some (.int .i64 n):=Kl ZH ht rfl;replace H:=Js [4,0,0,0,0] 0 H;refine N9 H ?_;refine Q5 rfl (QA H rfl c0 rfl ?_);refine ZS H ?_;refine DP H ?_;rw[Qg (x:=((n:Nat):Int)+1) (by omega) (by omega),show ((n:Nat):Int)+1=((n+1:Nat):Int) by omega];refine Q5 rfl (Zv H rfl rfl inferInstance rfl (by rw[length_append,Qw];omega) rfl ?_);clear H;intro w H;rw[eN (x':=⟨n+1,none⟩) ZH ht (by omega) rfl] at H;refine J2 H ?_;have Nj:(ts.set k ⟨n+1,none⟩)[k]? = some (⟨n+1,none⟩:QW):=getElem?_set_self hk;have O7:=Xs ZH (ts.set k ⟨n+1,none⟩);rw[length_set] at O7;refine J1 H ?_;clear H;intro w H;refine DU H ?_;refine Vw 2 [8] H rfl (Q9.none rfl) rfl (by repeat first|exact .nil _|apply QY.cons rfl) (by kernel_rfl) ?_;refine Ja 3 ?_;refine Jf 4 ?_;refine Jo 5 H ?_;refine Zv H rfl rfl inferInstance rfl (by rw[length_append,O7];omega) rfl ?_;clear H;intro w H;rw[eN (x':=⟨n+1,some ⟨0,0,false,false,0,0,[]⟩⟩) ZH Nj (by omega) rfl,set_set] at H;have FN:(ts.set k ⟨n+1,some ⟨0,0,false,false,0,0,[]⟩⟩)[k]? = some (⟨n+1,some ⟨0,0,false,false,0,0,[]⟩⟩:QW):=getElem?_set_self hk;have ga:=Xs ZH (ts.set k ⟨n+1,some ⟨0,0,false,false,0,0,[]⟩⟩);rw[length_set] at ga;refine Ja 6 ?_;refine Jf 7 ?_;refine Jo 8 H ?_;refine U0 (vs:=YX e) H rfl rfl inferInstance rfl rfl (by rw[length_append,ga];omega) rfl ?_;clear H;intro w H;rw[MA (x':=⟨n+1,some e⟩) ZH FN (by simp) rfl,set_set] at H;refine Jx H ?_;have FO:(ts.set k ⟨n+1,some e⟩)[k]? = some (⟨n+1,some e⟩:QW):=getElem?_set_self hk;have c3:((ts.set k ⟨n+1,some e⟩).flatMap Y6++s)[k*6+0]? = some (.int .i64 ((n+1:Nat):Int)):=Kl ZH FO rfl;refine Y7 H ?_;refine DP H ?_;refine Q5 rfl (QA H rfl c3 rfl ?_);refine NQ H ?_;clear H;intro w H;refine J0 H ?_;replace H:=Js [2,3,0,0] 1 H;have qx:(n == 255)=false:=by simp;omega
  have SM:X8 (ts.set k ⟨n+1,some e⟩) (G3 x k true):=by
   refine⟨by rw[length_set];exact QX.bits.set hk,fun i v hv=>?_,fun i v hv=>?_⟩
   ·rw[Da]
    rcases VE hv with ⟨rfl,rfl,_⟩|⟨QB,hv⟩
    ·rw[if_pos rfl];rfl
    ·rw[if_neg QB];exact QX.bit _ _ hv
   ·rcases VE hv with ⟨rfl,rfl,_⟩|⟨_,hv⟩
    ·show n+1≤255;omega
    ·exact QX.gen _ _ hv
  exact Q3 (Jz H (fun w' H' => .cellN H' rfl (by repeat first|exact .nil _|apply QY.cons rfl) (.tmp .nil)) fun w' H' => .inl ⟨k,n,ht,hn,T6,rfl,QK _ _ (ts.set k ⟨n+1,some e⟩) (G3 x k true) (by simp) (O5 ht (by simp[qx])) SM H'.drop⟩)
 ·refine I9 H ?_;refine I4 H ?_;clear H;intro w H;refine J0 H ?_;replace H:=Js [1,2,2,0] 1 H;refine Q3 (Jz H (fun w' H' => .cellN H' rfl (by repeat first|exact .nil _|apply QY.cons rfl) (.tmp .nil)) fun w' H' => .inr ⟨fun t ht=>?_,rfl,QK _ _ ts x rfl rfl QX H'.drop⟩);obtain⟨j,hj⟩:=getElem?_of_mem ht;rw[← QX.bit j t hj];exact ZG j (Nat.zero_le _) (List.getElem?_eq_some_iff.1 hj).1
structure Xf where
 sp:Nat
 bp:Nat
 ip:Nat
 tp:Nat
 trp:Nat
 rp:Nat
 sm:Nat
 mm:Nat
@[reducible] def Qz:Nat→Value:=fun b=>pp b
@[reducible] def Vt (x:Int×Nat×QO):Int×Nat:=(x.1,x.2.1)
@[reducible] def VU (x:Int×Nat×List Nat):Int×Nat:=(x.1,x.2.1)
@[reducible] def Vx (sp:Nat) (x:Int×Nat×QO):Q2:=Qy x.2.1 sp x.1.toNat x.2.2
@[reducible] def VV (x:Int×Nat×List Nat):Q2:=VQ x.2.1 x.2.2
@[reducible] def VY (p:Nat) (q:Xf):Q2:=pts p (row 43 [pp q.sp,pp q.bp,pp q.ip,pp q.tp,pp q.trp,pp q.rp,.map (some q.sm),.map (some q.mm)])
def QD (p:Nat) (s:CS):Q2:=ex fun x:Xf×List Nat=>star [prop (WF s∧Y8 s x.2),VY p x.1,V6 x.1.ip x.1.sp x.1.bp,Qp x.1.bp s.lays,ST x.1.sp s.size x.2 s.own,Qr x.1.tp s.tab,Qo x.1.trp s.last s.par,RS x.1.rp s.rem,
 mp (ki .i64) Qz x.1.sm (s.sps.map Vt),star (s.sps.map (Vx x.1.sp)),mp (ki .i64) Qz x.1.mm (s.mns.map VU),star (s.mns.map VV)]
theorem Y9 [Q4] {w:World} {p:Nat} {s:CS} {fr:List Q2} (H:Q0 w (QD p s::fr)):∃ (q:Xf) (mem:List Nat),WF s∧Y8 s mem ∧
  Q0 w (VY p q::V6 q.ip q.sp q.bp::Qp q.bp s.lays::ST q.sp s.size mem s.own::Qr q.tp s.tab::Qo q.trp s.last s.par::RS q.rp s.rem::mp (ki .i64) Qz q.sm (s.sps.map Vt)::star (s.sps.map (Vx q.sp))::mp (ki .i64) Qz q.mm (s.mns.map VU)::star (s.mns.map VV)::fr):=by
 obtain⟨⟨q,mem⟩,H⟩:=Q0.ex.1 H;have H:=Q0.star.1 H;obtain⟨h,H⟩:=Q0.prop.1 H;exact⟨q,mem,h.1,h.2,H⟩
theorem VJ [Q4] {w:World} {p:Nat} {s:CS} {fr:List Q2} {q:Xf} {mem:List Nat} (h:WF s) (hm:Y8 s mem)
  (H:Q0 w (VY p q::V6 q.ip q.sp q.bp::Qp q.bp s.lays::ST q.sp s.size mem s.own::Qr q.tp s.tab::Qo q.trp s.last s.par::RS q.rp s.rem::mp (ki .i64) Qz q.sm (s.sps.map Vt)::star (s.sps.map (Vx q.sp))::mp (ki .i64) Qz q.mm (s.mns.map VU)::star (s.mns.map VV)::fr)):Q0 w (QD p s::fr):=
 Q0.ex.2 ⟨(q,mem),Q0.star.2 (Q0.prop.2 ⟨⟨h,hm⟩,H⟩)⟩
def Qd (s:CS) (e:Q8):Qb:=(s.lays[e.lay - 1]?).getD ⟨0,[],0,[]⟩
def Gu (w:Nat):Yn:=if w=0 then .none else if w=1 then .grave else .obj (w % 4294967296 - 2) (w / 4294967296)
theorem qy {x:Nat} (h0:x≠0) (h1:x≠1):Gu x = .obj (x % 4294967296 - 2) (x / 4294967296):=by
 unfold Gu;rw[if_neg h0,if_neg h1]
theorem gb {i g:Nat} (h:i < 4096):(i+2+g*4294967296) % 4294967296 - 2=i∧(i+2+g*4294967296) / 4294967296=g:=by omega
theorem gc {i g:Nat} (h1:i < 4096):Gu (Vm (.obj i g)) = .obj i g:=by
 rw[NP,qy (by omega) (by omega),(gb h1).1,(gb h1).2]
theorem gd {k:Yn} (h:XL k):Gu (Vm k)=k:=by
 cases k with
 | none=>rfl
 | grave=>rfl
 | obj i g=>exact gc h.1
theorem WJ {s:CS} (h:WF s) {mem:List Nat} (m:Y8 s mem) {k g:Nat} {e:Q8} (hk:s.tab[k]? = some ⟨g,some e⟩):WA s.lays s.size mem s.own e.addr e.lay e.count k e.ws.length (Qd s e):=by
 obtain⟨⟨hm,l,h1,h2,h3,h4⟩,hl,_⟩:=h.obj k g e hk;have VO:Qd s e=l:=by unfold Qd;rw[h1];rfl
 rw[VO];refine⟨hm,h1,h2,h3,?_,?_,?_⟩
 ·rw[getD_eq_getElem?_getD,m.head _ _ _ hk,Option.getD_some]
 ·have:=hl.1;unfold Qa at this;rw[m.len];exact this
 ·intro c c1 c2;obtain⟨r,hr,_,ZK⟩:=hl.2 c c1 (by rw[show e.addr+(e.ws.length+1) - 1=e.addr+e.ws.length by omega] at c2;exact c2);rw[getD_eq_getElem?_getD,hr];show r≠0;omega
theorem T7 {s:CS} (h:WF s) {mem:List Nat} (m:Y8 s mem) {k g:Nat} {e:Q8} (hk:s.tab[k]? = some ⟨g,some e⟩) {p:Nat} (hp:p < e.ws.length):mem.getD (e.addr+1+p) 0=e.ws.getD p 0:=by
 have hx:=getElem?_eq_getElem hp;rw[getD_eq_getElem?_getD,getD_eq_getElem?_getD,m.words _ _ _ hk p _ hx,hx]
theorem gf {s:CS} (h:WF s) {k g:Nat} {e:Q8} (hk:s.tab[k]? = some ⟨g,some e⟩) {p:Nat} (hp:p < e.ws.length) (hr:Va (Qd s e) p=true):XL (Gu (e.ws.getD p 0))∧e.ws.getD p 0=Vm (Gu (e.ws.getD p 0)):=by
 obtain⟨⟨hm,l,h1,h2,h3,h4⟩,hl,_⟩:=h.obj k g e hk;have VO:Qd s e=l:=by unfold Qd;rw[h1];rfl
 rw[VO] at hr;have hx:=getElem?_eq_getElem hp;obtain⟨q,hq,hw⟩:=(h4 p _ hx).2 hr;have hd:e.ws.getD p 0=Vm q:=by rw[getD_eq_getElem?_getD,hx,Option.getD_some];exact hw
 rw[hd,gd hq];exact⟨hq,rfl⟩
def O8:Option (Nat×Q8)→Value
 | some (_,e) => .tuple #[.agg (YX e).toArray,.int .i64 0]
 | none => .tuple #[.agg #[.int .i64 0,.int .i64 0,.bool false,.bool false],.int .i64 8]
theorem JW (o:Option (Nat×Q8)):∃ e1 e2 h1 h2 e4,O8 o = .tuple #[.agg #[.int .i64 e1,.int .i64 e2,.bool h1,.bool h2],.int .i64 e4]:=by
 cases o <;> exact⟨_,_,_,_,_,rfl⟩
theorem U9 [Q4] (p:Nat) (ts:List QW) (i g:Int) {w:World} {fr:List Q2} (H:Q0 w (Qr p ts::fr)) :
  Calls Tryz.prog 68 #[pp p,GB i g] w (ret fun v w'=>v=O8 (Qk ts i g)∧Q0 w' (Qr p ts::fr)):=
 call (qt p ts i g H) fun v w h=>⟨by rw[h.1];cases Qk ts i g <;> rfl,h.2⟩
theorem gh [Q4] (p:Nat) (s:CS) (i g:Int) {w:World} {fr:List Q2} (H:Q0 w (QD p s::fr)) :
  Calls Tryz.prog 94 #[pp p,GB i g] w (ret fun v w'=>v=O8 (V3 s.tab i g)∧Q0 w' (QD p s::fr)):=by
 obtain⟨q,mem,hw,hm,H⟩:=Y9 H;refine QQ Tryz.func94 rfl (by kernel_rfl) ?_;refine J8 H ?_;clear H;intro b3 w H;refine VS H ?_;clear H;intro b4 w H;refine F4 H ?_;obtain⟨e1,e2,h1,h2,e4,Y1⟩:=JW (Qk s.tab i g);refine J6 H ?_
 refine Qt (fun ms σ w=>ms=[]∧∃ b6,σ 4=pp b4∧σ 6=pp b6∧σ 7 = .int .i64 e4 ∧
  Q0 w (pts b4 (row 113 [.int .i64 0,.int .i64 0,.bool false,.bool false])::pts b6 (row 113 [.int .i64 e1,.int .i64 e2,.bool h1,.bool h2])::QD p s::fr)) ?_ ?_
 ·replace H:=Js [6,0,0,0,0,0,0,0,0,0,0,0,0] 0 H;refine J1 H ?_;clear H;intro w H;refine C6 H ?_;refine Jw 5 9 H rfl rfl (V1 (a:=[]) (b:=[]) rfl rfl (call (U9 q.tp s.tab i g H) ?_)) (YH H rfl ?_)
  ·clear H;rintro v w ⟨rfl,H⟩;rw[Y1];refine C7 H ?_;clear H;intro b6 w H;refine C8 H ?_;clear H;intro w H;refine XI H ?_;replace H:=Js [4,4,4,4,1,3,3,3,3,3,3,1,0] 1 H;refine⟨rfl,rfl,b6,rfl,rfl,rfl,?_⟩;replace H:=VJ hw hm H;replace H:=Js [1,1,0] 0 H;exact H
  ·clear H;intro b6 w H;refine Jo 5 H ?_;refine Jk rfl rfl (U9 q.tp s.tab i g H.swap) ?_;clear H;rintro v w ⟨rfl,H⟩;rw[Y1];refine C9 H ?_;clear H;intro w H;refine XI H ?_;replace H:=Js [4,4,4,4,0,3,3,3,3,3,3,1,0] 1 H;refine⟨rfl,rfl,b6,rfl,rfl,rfl,?_⟩;replace H:=VJ hw hm H;replace H:=Js [1,1,0] 0 H;exact H
 ·clear H;rintro ms σ w ⟨rfl,b6,g4,g6,g7,H⟩;rw[Q1 g4,Q1 g6,Q1 g7];have hv:V3 s.tab i g=(match Qk s.tab i g with|some (k,e)=>if e.held then some (k,e) else none|none=>none):=rfl;cases hL:Qk s.tab i g with
  | none=>
   rw[hL] at Y1 hv;have hv:V3 s.tab i g=none:=hv;rw[hv];cases Y1;refine Y7 H ?_;refine Ap H ?_;refine Aq H ?_;clear H;intro w H;refine J0 H ?_;exact Q3 (Jz H (fun w' H' => .cellN H' rfl (by repeat first|exact .nil _|apply QY.cons rfl) (.tmp .nil)) fun w' H'=>⟨rfl,H'.drop.drop⟩)
  | some x=>
   obtain⟨k,e⟩:=x;obtain⟨ea,er,eh,ep,el,ec,ew⟩:=e;rw[hL] at Y1 hv;cases Y1;cases eh with
   | true=>
    have hv:V3 s.tab i g=some (k,⟨ea,er,true,ep,el,ec,ew⟩):=hv;rw[hv];refine Y7 H ?_;refine Xu H ?_;refine YS H ?_;refine Ak H ?_;clear H;intro w H;refine J0 H ?_;exact Q3 (Jz H (fun w' H' => .cellN H' rfl (by repeat first|exact .nil _|apply QY.cons rfl) (.tmp .nil)) fun w' H'=>⟨rfl,H'.drop.drop⟩)
   | false=>
    have hv:V3 s.tab i g=none:=hv;rw[hv];refine Y7 H ?_;refine Xu H ?_;refine Aq H ?_;clear H;intro w H;refine J0 H ?_;exact Q3 (Jz H (fun w' H' => .cellN H' rfl (by repeat first|exact .nil _|apply QY.cons rfl) (.tmp .nil)) fun w' H'=>⟨rfl,H'.drop.drop⟩)
theorem Dn [Q4] (p:Nat) (s:CS) (i g:Int) (f:FuncId) (cs:List Value) [QZ Tryz.prog f] (R:Value→World→Prop) (fr:List Q2)
  (VZ:V3 s.tab i g=none→∀ w,Q0 w (QD p s::fr)→R (.int .i64 8) w)
  (qz:∀ k e,V3 s.tab i g=some (k,e)→∀ w,Q0 w (QD p s::fr)→Calls Tryz.prog f (.agg (YX e).toArray::cs).toArray w (ret R)) {w:World} (H:Q0 w (QD p s::fr)) :
  Calls Tryz.prog 77 #[pp p,GB i g,.func (.func f) #[] cs.toArray] w (ret R):=by
 refine QQ Tryz.func77 rfl (by kernel_rfl) ?_;refine J8 H ?_;clear H;intro b4 w H;refine Au H ?_;refine Jc rfl rfl (gh p s i g H.swap) ?_;clear H;rintro v w ⟨rfl,H⟩;cases hv:V3 s.tab i g with
 | none=>
  refine YA H ?_;clear H;intro b7 w H;refine J5 H ?_;clear H;intro w H;refine IP H ?_;replace H:=Js [1] 2 H;exact Q3 (Jy H rfl fun w' H'=>VZ hv w' H')
 | some x=>
  obtain⟨k,e⟩:=x;refine YA H ?_;clear H;intro b7 w H;refine J5 H ?_;clear H;intro w H;refine ZT H ?_;refine Xt H ?_;replace H:=Js [1] 2 H;refine Q5 rfl (V1 (a:=[]) (b:=cs) rfl rfl (call (qz k e hv w H) ?_));clear H;intro v w hr;refine Rx rfl rfl ?_;refine QU ?_;exact Q3 (AN (.inr rfl) rfl hr)
def K5 (s:CS) (i g place:Int):Nat×Nat:=
 match V3 s.tab i g with
 | none=>(0,8)
 | some (_,e)=>if Qc (Qd s e) e.ws.length place false=0 then (e.ws.getD place.toNat 0,0) else (0,Qc (Qd s e) e.ws.length place false)
theorem gj {s:CS} {i g place:Int} (h:V3 s.tab i g=none):K5 s i g place=(0,8):=by unfold K5;rw[h]
theorem T8 {s:CS} {i g place:Int} {k:Nat} {e:Q8} (h:V3 s.tab i g=some (k,e)):K5 s i g place=if Qc (Qd s e) e.ws.length place false=0 then (e.ws.getD place.toNat 0,0) else (0,Qc (Qd s e) e.ws.length place false):=by unfold K5;rw[h]
theorem Gv {s:CS} {i g:Int} {k:Nat} {e:Q8} (h:V3 s.tab i g=some (k,e)):∃ n:Nat,i=k∧g=n∧s.tab[k]? = some ⟨n,some e⟩∧e.held=true:=by
 obtain⟨h1,h2⟩:=WK.1 h;obtain⟨n,a,b,c⟩:=Yz.1 h1;exact⟨n,a,b,c,h2⟩
theorem gk [Q4] (p:Nat) (s:CS) (i g place:Int) {w:World} {fr:List Q2} (H:Q0 w (QD p s::fr)) :
  Calls Tryz.prog 41 #[pp p,GB i g,.int .i64 place] w (ret fun v w'=>v = .tuple #[.int .u64 ((K5 s i g place).1:Nat),.int .i64 ((K5 s i g place).2:Nat)]∧Q0 w' (QD p s::fr)):=by
 refine QQ Tryz.func41 rfl (by kernel_rfl) ?_;refine GV H ?_;clear H;intro b3 w H;refine W9 H ?_;clear H;intro b4 w H;refine Az H ?_;clear H;intro b5 w H;refine J4 H ?_;refine YM H ?_;clear H;intro b8 w H;refine J2 H ?_;refine S3 H ?_;replace H:=Js [4,0,0,0,0] 0 H;refine Jc rfl rfl (Dn p s i g 106 [pp b3,pp b5,pp b8] (fun v w'=>v = .int .i64 ((K5 s i g place).2:Nat)∧Q0 w' (pts b8 (row 83 [.int .u64 ((K5 s i g place).1:Nat)])::QD p s::fr)) _ ?_ ?_ H) ?_
 ·intro hv w H;rw[gj hv];replace H:=Js [1,0] 3 H;exact⟨rfl,H⟩
 ·intro k e hv w H;obtain⟨n,rfl,rfl,hk,hh⟩:=Gv hv;obtain⟨q,mem,hw,hm,H⟩:=Y9 H;have hI:=WJ hw hm hk;refine QQ Tryz.func106 rfl (by kernel_rfl) ?_;refine J8 H ?_;clear H;intro b4 w H;refine J0 H ?_;replace H:=Js [2,2,2,0,0,0,0,0,0,0,0,0,0,0,1] 1 H
  have Fp:(if Qc (Qd s e) e.ws.length place false=0 then mem.getD (e.addr+1+place.toNat) 0 else 0)=(K5 s k n place).1:=by
   rw[T8 hv];split
   ·rename_i h0;obtain⟨x,rfl,hx,_⟩:=UI h0;exact T7 hw hm hk hx
   ·rfl
  have T9:Qc (Qd s e) e.ws.length place false=(K5 s k n place).2:=by
   rw[T8 hv];split
   ·assumption
   ·rfl
  refine J1 H ?_;clear H;intro w H;refine Jl 0 [7,11] H ?_;refine WZ H ?_;refine Jl 3 [7,11] H ?_;refine Jf 4 ?_;refine Jl 5 [7,11] H ?_;refine Jl 6 [7,11] H ?_;refine Jo 7 H ?_;refine Jk rfl rfl (pz q.ip q.sp q.bp s.size s.lays mem s.own e.addr e.lay e.count k e.ws.length (Qd s e) hI place H) ?_;clear H;rintro v w ⟨rfl,H⟩;rw[Fp,T9];refine CQ H ?_;refine Jo 11 H ?_;refine KE H ?_;clear H;intro w H;refine KH H ?_;refine J3 H ?_;replace H:=Js [4,0,0,0,1,1,1,1,1,1,1,1] 3 H;replace H:=VJ hw hm H;exact Q3 (Jy H.swap rfl fun w' H'=>⟨rfl,H'⟩)
 ·clear H;rintro v w ⟨rfl,H⟩;refine J0 H ?_;refine UB H ?_;refine ZS H ?_;refine J0 H ?_;exact Q3 (Jy H rfl fun w' H'=>⟨rfl,H'.drop⟩)
theorem TV {s:CS} (h:WF s) {k g:Nat} {e:Q8} (hk:s.tab[k]? = some ⟨g,some e⟩):s.lays[e.lay - 1]? = some (Qd s e):=by
 obtain⟨⟨hm,l,h1,h2,h3,h4⟩,hl,_⟩:=h.obj k g e hk;rw[h1];unfold Qd;rw[h1];rfl
theorem r4 {ts:List QW} {k:Nat} {t t':QW} (hk:ts[k]? = some t) (h:Y6 t'=Y6 t):(ts.set k t').flatMap Y6=ts.flatMap Y6:=by
 rw[set_split hk]
 conv=>rhs;rw[split_at hk]
 simp[h]
theorem TY [Q4] {w:World} {p:Nat} {ts:List QW} {l:List Q2} {k g:Nat} {e e':Q8} (hk:ts[k]? = some ⟨g,some e⟩) (he:YX e'=YX e) (H:Q0 w (Qr p ts::l)):Q0 w (Qr p (ts.set k ⟨g,some e'⟩)::l):=by
 obtain⟨b,c,s,u,x,QX,hc,H,QK⟩:=BB H
 have hv:Y6 ⟨g,some e'⟩=Y6 ⟨g,some e⟩:=by
  show Value.int .i64 g :: .bool true::YX e' = .int .i64 g :: .bool true::YX e;rw[he]
 refine QK _ _ (ts.set k ⟨g,some e'⟩) x (by simp) (O5 hk rfl) (QX.set hk rfl (by have:=QX.gen _ _ hk;exact this)) ?_;rw[r4 hk hv];exact H
def Kz (s:CS) (i g place:Int) (x:Nat):CS×Nat:=
 match V3 s.tab i g with
 | none=>(s,8)
 | some (k,e)=>if Qc (Qd s e) e.ws.length place false=0 then (Y3 s k g.toNat { e with ws:=e.ws.set place.toNat x },0) else (s,Qc (Qd s e) e.ws.length place false)
theorem JA {s:CS} {i g place:Int} {x:Nat} (h:V3 s.tab i g=none):Kz s i g place x=(s,8):=by unfold Kz;rw[h]
theorem JB {s:CS} {i g place:Int} {x k:Nat} {e:Q8} (h:V3 s.tab i g=some (k,e)):Kz s i g place x=if Qc (Qd s e) e.ws.length place false=0 then (Y3 s k g.toNat { e with ws:=e.ws.set place.toNat x },0) else (s,Qc (Qd s e) e.ws.length place false):=by unfold Kz;rw[h]
theorem r5 [Q4] (p:Nat) (s:CS) (i g place:Int) (x:Nat) (hx:x < 18446744073709551616) {w:World} {fr:List Q2} (H:Q0 w (QD p s::fr)) :
  Calls Tryz.prog 165 #[pp p,GB i g,.int .i64 place,.int .u64 x] w (ret fun v w'=>v = .int .i64 ((Kz s i g place x).2:Nat)∧Q0 w' (QD p (Kz s i g place x).1::fr)):=by
 refine QQ Tryz.func165 rfl (by kernel_rfl) ?_;refine GV H ?_;clear H;intro b4 w H;refine W9 H ?_;clear H;intro b5 w H;refine Az H ?_;clear H;intro b6 w H;refine Az H ?_;clear H;intro b7 w H;refine NV H ?_;replace H:=Js [4,0,0,0,0] 0 H;refine Jc rfl rfl (Dn p s i g 232 [pp b4,pp b6,pp b7] (fun v w'=>v = .int .i64 ((Kz s i g place x).2:Nat)∧Q0 w' (QD p (Kz s i g place x).1::fr)) _ ?_ ?_ H) ?_
 ·intro hv w H;rw[JA hv];replace H:=Js [0] 4 H;exact⟨rfl,H⟩
 ·intro k e hv w H;obtain⟨n,rfl,rfl,hk,hh⟩:=Gv hv;obtain⟨q,mem,hw,hm,H⟩:=Y9 H;have hI:=WJ hw hm hk;refine QQ Tryz.func232 rfl (by kernel_rfl) ?_;refine J8 H ?_;clear H;intro b4 w H;refine J0 H ?_;replace H:=Js [2,2,2,0,0,0,0,0,0,0,0,0,0,0,1] 1 H;refine J1 H ?_;clear H;intro w H;refine NY H ?_;refine Jl 6 [8] H ?_;refine Jl 7 [8] H ?_;refine Jo 8 H ?_;refine Jk rfl rfl (q9 q.ip q.sp q.bp s.size s.lays mem s.own e.addr e.lay e.count k e.ws.length (Qd s e) hI place x H) ?_;clear H;rintro v w ⟨rfl,H⟩;refine Ja 9 ?_;refine Jx H ?_;replace H:=Js [4,0,0,0,1,1,1,1,1,1,1] 4 H;rw[JB hv];by_cases h0:Qc (Qd s e) e.ws.length place false=0
  ·obtain⟨y,rfl,hy,hr⟩:=UI h0;rw[if_pos h0] at H;rw[if_pos h0,h0];have VI:=Np (e':={ e with ws:=e.ws.set y x }) hw hk ⟨rfl,rfl,rfl,rfl,by show (e.ws.set y x).length=_;simp⟩ (Sm (hw.obj _ _ _ hk).1 (TV hw hk) hx (fun h=>by rw[hr] at h;cases h));have V7:=Sk hw hm hk hy (x:=x);replace H:=Js [4,0,0,0,0,0,0,0,0,0,0] 0 H;replace H:=TY (e':={ e with ws:=e.ws.set y x }) hk rfl H;replace H:=Js [1,1,1,1,0,0,0,0,0,0,0] 0 H;replace H:=VJ VI V7 H;exact Q3 (Jy H rfl fun w' H'=>⟨rfl,H'⟩)
  ·rw[if_neg h0] at H;rw[if_neg h0];replace H:=VJ hw hm H;exact Q3 (Jy H rfl fun w' H'=>⟨rfl,H'⟩)
 ·clear H;rintro v w ⟨rfl,H⟩;refine J0 H ?_;exact Q3 (Jy H rfl fun w' H'=>⟨rfl,H'⟩)
def Ys (s:CS) (i g place:Int):Yn×Nat:=
 match V3 s.tab i g with
 | none=>(.none,8)
 | some (_,e)=>if Qc (Qd s e) e.ws.length place true=0 then (Gu (e.ws.getD place.toNat 0),0) else (.none,Qc (Qd s e) e.ws.length place true)
theorem TZ {s:CS} {i g place:Int} (h:V3 s.tab i g=none):Ys s i g place=(.none,8):=by unfold Ys;rw[h]
theorem JC {s:CS} {i g place:Int} {k:Nat} {e:Q8} (h:V3 s.tab i g=some (k,e)):Ys s i g place=if Qc (Qd s e) e.ws.length place true=0 then (Gu (e.ws.getD place.toNat 0),0) else (.none,Qc (Qd s e) e.ws.length place true):=by unfold Ys;rw[h]
theorem JD [Q4] (p:Nat) (s:CS) (i g place:Int) {w:World} {fr:List Q2} (H:Q0 w (QD p s::fr)) :
  Calls Tryz.prog 33 #[pp p,GB i g,.int .i64 place] w (ret fun v w'=>v = .tuple #[GN (Ys s i g place).1,.int .i64 ((Ys s i g place).2:Nat)]∧Q0 w' (QD p s::fr)):=by
 obtain⟨a1,a2,a3,Y4⟩:=Xa (Ys s i g place).1;rw[Y4];refine QQ Tryz.func33 rfl (by kernel_rfl) ?_;refine GV H ?_;clear H;intro b3 w H;refine W9 H ?_;clear H;intro b4 w H;refine Az H ?_;clear H;intro b5 w H;refine VS H ?_;clear H;intro b6 w H;refine J0 H ?_;refine YM H ?_;clear H;intro b8 w H;refine J2 H ?_;refine S3 H ?_;replace H:=Js [5,0,0,0,0,0] 0 H;refine Jc rfl rfl (Dn p s i g 96 [pp b3,pp b5,pp b8] (fun v w'=>v = .int .i64 ((Ys s i g place).2:Nat)∧Q0 w' (pts b8 (row 88 [.int .i64 a1,.int .i64 a2,.int .i64 a3])::pts b6 (row 88 [.int .i64 0,.int .i64 0,.int .i64 0])::QD p s::fr)) _ ?_ ?_ H) ?_
 ·intro hv w H;rw[TZ hv] at Y4 ⊢;cases Y4;replace H:=Js [1,1,0] 3 H;exact⟨rfl,H⟩
 ·intro k e hv w H;obtain⟨n,rfl,rfl,hk,hh⟩:=Gv hv;obtain⟨q,mem,hw,hm,H⟩:=Y9 H;have hI:=WJ hw hm hk;refine QQ Tryz.func96 rfl (by kernel_rfl) ?_;refine J8 H ?_;clear H;intro b4 w H;refine J0 H ?_;replace H:=Js [2,2,2,0,0,0,0,0,0,0,0,0,0,0,0,1] 1 H
  have ZE:GN (Ys s k n place).1=GN (if Qc (Qd s e) e.ws.length place true=0 then Gu (e.ws.getD place.toNat 0) else .none):=by
   rw[JC hv];split <;> rfl
  have T9:Qc (Qd s e) e.ws.length place true=(Ys s k n place).2:=by
   rw[JC hv];split
   ·assumption
   ·rfl
  have r6:Qc (Qd s e) e.ws.length place true=0→XL (if Qc (Qd s e) e.ws.length place true=0 then Gu (e.ws.getD place.toNat 0) else .none)∧mem.getD (e.addr+1+place.toNat) 0=Vm (if Qc (Qd s e) e.ws.length place true=0 then Gu (e.ws.getD place.toNat 0) else .none):=fun h0=>by
   obtain⟨y,r7,hy,hr⟩:=UI h0;rw[if_pos h0,r7,Int.toNat_natCast,T7 hw hm hk hy];exact gf hw hk hy hr
  have hF:=fun (w:World) (fr:List Q2) (H:Q0 w (V6 q.ip q.sp q.bp::Qp q.bp s.lays::ST q.sp s.size mem s.own::fr))=>gV q.ip q.sp q.bp s.size s.lays mem s.own e.addr e.lay e.count k e.ws.length (Qd s e) hI place (if Qc (Qd s e) e.ws.length place true=0 then Gu (e.ws.getD place.toNat 0) else .none) r6 (fun h0=>if_neg h0) H;rw[← ZE,Y4] at hF;refine J1 H ?_;clear H;intro w H;refine Jl 0 [7,11] H ?_;refine WZ H ?_;refine Jl 3 [7,11] H ?_;refine Jf 4 ?_;refine Jl 5 [7,11] H ?_;refine Jl 6 [7,11] H ?_;refine Jo 7 H ?_;refine Jk rfl rfl (hF _ _ H) ?_;clear H;rintro v w ⟨rfl,H⟩;rw[T9];refine CQ H ?_;refine Km H ?_;clear H;intro w H;refine KH H ?_;refine J3 H ?_;replace H:=Js [4,0,0,0,1,1,1,1,1,1,1,1,1] 3 H;replace H:=VJ hw hm H;replace H:=Js [1,1,0] 0 H;exact Q3 (Jy H rfl fun w' H'=>⟨rfl,H'⟩)
 ·clear H;rintro v w ⟨rfl,H⟩;refine J0 H ?_;refine Aw H ?_;clear H;intro w H;refine J0 H ?_;replace H:=Js [1,1] 1 H;exact Q3 (Jz H (fun w' H' => .cellN H' rfl (by repeat first|exact .nil _|apply QY.cons rfl) (.tmp .nil)) fun w' H'=>⟨rfl,H'.drop⟩)
def R3 (s:CS) (i g:Int):CS×Nat:=
 match V3 s.tab i g with
 | none=>(s,8)
 | some (k,e)=>(Y3 s k g.toNat { e with held:=false },0)
theorem JE {s:CS} {i g:Int} (h:V3 s.tab i g=none):R3 s i g=(s,8):=by unfold R3;rw[h]
theorem JF {s:CS} {i g:Int} {k:Nat} {e:Q8} (h:V3 s.tab i g=some (k,e)):R3 s i g=(Y3 s k g.toNat { e with held:=false },0):=by unfold R3;rw[h]
def R4 (s:CS) (i g:Int) (on:Bool):CS×Nat:=
 match V3 s.tab i g with
 | none=>(s,8)
 | some (k,e)=>if e.pinned=on then (s,7) else (Y3 s k g.toNat { e with pinned:=on },0)
theorem JH {s:CS} {i g:Int} {on:Bool} (h:V3 s.tab i g=none):R4 s i g on=(s,8):=by unfold R4;rw[h]
theorem JI {s:CS} {i g:Int} {on:Bool} {k:Nat} {e:Q8} (h:V3 s.tab i g=some (k,e)):R4 s i g on=if e.pinned=on then (s,7) else (Y3 s k g.toNat { e with pinned:=on },0):=by unfold R4;rw[h]
theorem TG [Q4] {w:World} {p:Nat} {s:CS} {fr:List Q2} {q:Xf} {mem:List Nat} (hw:WF s) (hm:Y8 s mem) {k n:Nat} {e e':Q8} (hk:s.tab[k]? = some ⟨n,some e⟩) (a:BY e e') (Yq:e'.ws=e.ws)
  (H:Q0 w (VY p q::V6 q.ip q.sp q.bp::Qp q.bp s.lays::ST q.sp s.size mem s.own::Qr q.tp (s.tab.set k ⟨n,some e'⟩)::Qo q.trp s.last s.par::RS q.rp s.rem::mp (ki .i64) Qz q.sm (s.sps.map Vt)::star (s.sps.map (Vx q.sp))::mp (ki .i64) Qz q.mm (s.mns.map VU)::star (s.mns.map VV)::fr)) :
  Q0 w (QD p (Y3 s k n e')::fr):=
 VJ (s:=Y3 s k n e') (Np hw hk a (ph (hw.obj _ _ _ hk).1 a Yq)) (pg hw hm hk a Yq) H
theorem r8 [Q4] (p:Nat) (s:CS) (i g:Int) {w:World} {fr:List Q2} (H:Q0 w (QD p s::fr)) :
  Calls Tryz.prog 171 #[pp p,GB i g] w (ret fun v w'=>v = .int .i64 ((R3 s i g).2:Nat)∧Q0 w' (QD p (R3 s i g).1::fr)):=by
 refine QQ Tryz.func171 rfl (by kernel_rfl) ?_;refine GV H ?_;clear H;intro b2 w H;refine W9 H ?_;clear H;intro b3 w H;refine NV H ?_;replace H:=Js [2,0,0] 0 H;refine Jc rfl rfl (Dn p s i g 234 [pp b2,pp b3] (fun v w'=>v = .int .i64 ((R3 s i g).2:Nat)∧Q0 w' (QD p (R3 s i g).1::fr)) _ ?_ ?_ H) ?_
 ·intro hv w H;rw[JE hv];replace H:=Js [0] 2 H;exact⟨rfl,H⟩
 ·intro k e hv w H;obtain⟨n,rfl,rfl,hk,hh⟩:=Gv hv;obtain⟨q,mem,hw,hm,H⟩:=Y9 H;refine QQ Tryz.func234 rfl (by kernel_rfl) ?_;refine J8 H ?_;clear H;intro b3 w H;refine J0 H ?_;refine Uv H ?_;refine Rc H ?_;clear H;intro w H;refine J2 H ?_;replace H:=Js [5,0,0,0,0,0,0,0,0,0,0,0,0,0] 0 H;refine J1 H ?_;clear H;intro w H;refine NZ H ?_;refine IC H ?_;refine IB H ?_;refine Jk rfl rfl (JR q.tp s.tab k n { e with held:=false } H) ?_;clear H;rintro v w (⟨k',e',hL,rfl,H⟩|⟨hL,rfl,H⟩)
  ·have UQ:=(WK.1 hv).1;rw[UQ] at hL;cases hL;refine Ja 7 ?_;refine Jx H ?_;replace H:=Js [2,2,2,2,0,1,1,1,1,1,1] 3 H;rw[JF hv];replace H:=TG (e':={ e with held:=false }) hw hm hk ⟨rfl,rfl,rfl,rfl,rfl⟩ rfl H;exact Q3 (Jy H rfl fun w' H'=>⟨rfl,H'⟩)
  ·rw[(WK.1 hv).1] at hL;cases hL
 ·clear H;rintro v w ⟨rfl,H⟩;refine J0 H ?_;exact Q3 (Jy H rfl fun w' H'=>⟨rfl,H'⟩)
theorem r9 [Q4] (p:Nat) (s:CS) (i g:Int) (on:Bool) {w:World} {fr:List Q2} (H:Q0 w (QD p s::fr)) :
  Calls Tryz.prog 173 #[pp p,GB i g,.bool on] w (ret fun v w'=>v = .int .i64 ((R4 s i g on).2:Nat)∧Q0 w' (QD p (R4 s i g on).1::fr)):=by
 refine QQ Tryz.func173 rfl (by kernel_rfl) ?_;refine GV H ?_;clear H;intro b3 w H;refine W9 H ?_;clear H;intro b4 w H;refine Az H ?_;clear H;intro b5 w H;refine NV H ?_;replace H:=Js [3,0,0,0] 0 H;refine Jc rfl rfl (Dn p s i g 235 [pp b5,pp b3,pp b4] (fun v w'=>v = .int .i64 ((R4 s i g on).2:Nat)∧Q0 w' (QD p (R4 s i g on).1::fr)) _ ?_ ?_ H) ?_
 ·intro hv w H;rw[JH hv];replace H:=Js [0] 3 H;exact⟨rfl,H⟩
 ·intro k e hv w H;obtain⟨n,rfl,rfl,hk,hh⟩:=Gv hv;obtain⟨q,mem,hw,hm,H⟩:=Y9 H;refine QQ Tryz.func235 rfl (by kernel_rfl) ?_;refine J8 H ?_;clear H;intro b4 w H;refine DW H ?_;refine W4 H ?_;refine Q5 rfl (D6 rfl rfl (.inl rfl) rfl ?_);refine J2 H ?_;rw[JI hv];by_cases hp:e.pinned=on
  ·rw[show (e.pinned == on)=true by simp[hp],if_pos hp];refine ZD H ?_;replace H:=Js [1,1,1,1,1,1,1,1,1,1,1] 4 H;replace H:=VJ hw hm H;exact Q3 (Jy H rfl fun w' H'=>⟨rfl,H'⟩)
  ·rw[show (e.pinned == on)=false by simp[hp],if_neg hp];refine Vf H ?_;refine UB H ?_;refine Rc H ?_;clear H;intro w H;refine J2 H ?_;replace H:=Js [5,0,0,0,0,0,0,0,0,0,0,0,0,0,0] 0 H;refine J1 H ?_;clear H;intro w H;refine NZ H ?_;refine IC H ?_;refine IB H ?_;refine Jk rfl rfl (JR q.tp s.tab k n { e with pinned:=on } H) ?_;clear H;rintro v w (⟨k',e',hL,rfl,H⟩|⟨hL,rfl,H⟩)
   ·have UQ:=(WK.1 hv).1;rw[UQ] at hL;cases hL;refine Ja 7 ?_;refine Jx H ?_;replace H:=Js [2,2,2,2,0,1,1,1,1,1,1] 4 H;replace H:=TG (e':={ e with pinned:=on }) hw hm hk ⟨rfl,rfl,rfl,rfl,rfl⟩ rfl H;exact Q3 (Jy H rfl fun w' H'=>⟨rfl,H'⟩)
   ·rw[(WK.1 hv).1] at hL;cases hL
 ·clear H;rintro v w ⟨rfl,H⟩;refine J0 H ?_;exact Q3 (Jy H rfl fun w' H'=>⟨rfl,H'⟩)
@[reducible] def gl (e:Q8):List Value:=[.int .i64 e.region,.int .i64 e.lay,.int .i64 e.count,.int .i64 e.ws.length,.bool e.pinned]
def TU:Option (Nat×Q8)→Value
 | some (_,e) => .tuple #[.agg (gl e).toArray,.int .i64 0]
 | none => .tuple #[.agg #[.int .i64 0,.int .i64 0,.int .i64 0,.int .i64 0,.bool false],.int .i64 8]
theorem rQ [Q4] (p:Nat) (s:CS) (i g:Int) {w:World} {fr:List Q2} (H:Q0 w (QD p s::fr)) :
  Calls Tryz.prog 26 #[pp p,GB i g] w (ret fun v w'=>v=TU (V3 s.tab i g)∧Q0 w' (QD p s::fr)):=by
 obtain⟨a1,a2,a3,a4,a5,a6,JJ⟩:∃ a1 a2 a3 a4 a5 a6,TU (V3 s.tab i g) = .tuple #[.agg #[.int .i64 a1,.int .i64 a2,.int .i64 a3,.int .i64 a4,.bool a5],.int .i64 a6]:=by
  cases V3 s.tab i g <;> exact⟨_,_,_,_,_,_,rfl⟩
 rw[JJ];refine QQ Tryz.func26 rfl (by kernel_rfl) ?_;refine GV H ?_;clear H;intro b2 w H;refine W9 H ?_;clear H;intro b3 w H;refine VS H ?_;clear H;intro b4 w H;refine J0 H ?_;refine YM H ?_;clear H;intro b6 w H;refine J2 H ?_;refine S3 H ?_;replace H:=Js [4,0,0,0,0] 0 H;refine Jc rfl rfl (Dn p s i g 78 [pp b2,pp b6] (fun v w'=>v = .int .i64 a6∧Q0 w' (pts b6 (row 71 [.int .i64 a1,.int .i64 a2,.int .i64 a3,.int .i64 a4,.bool a5])::pts b4 (row 71 [.int .i64 0,.int .i64 0,.int .i64 0,.int .i64 0,.bool false])::QD p s::fr)) _ ?_ ?_ H) ?_
 ·intro hv w H;rw[hv] at JJ;cases JJ;replace H:=Js [1,1,0] 2 H;exact⟨rfl,H⟩
 ·intro k e hv w H;rw[hv] at JJ;cases JJ;obtain⟨n,rfl,rfl,hk,hh⟩:=Gv hv;obtain⟨q,mem,hw,hm,H⟩:=Y9 H;have hI:=WJ hw hm hk;have GW:=Nr (H.pull 3);have O9:=hI.fit;refine QQ Tryz.func78 rfl (by kernel_rfl) ?_;refine J8 H ?_;clear H;intro b3 w H;refine Yy H ?_
  refine Qt (fun ms σ w=>ms=[]∧∃ b5,σ 2=pp b6∧σ 3=pp b3∧σ 5=pp b5∧σ 6 = .int .i64 ((e.ws.length+1:Nat):Int)∧σ 7 = .int .i64 0 ∧
   Q0 w (pts b3 (row 113 (YX e))::pts b5 (row 115 [.int .i64 e.lay,.int .i64 e.count,.int .i64 k])::pts b6 (row 71 [.int .i64 0,.int .i64 0,.int .i64 0,.int .i64 0,.bool false])::pts b4 (row 71 [.int .i64 0,.int .i64 0,.int .i64 0,.int .i64 0,.bool false])::QD p s::fr)) ?_ ?_
  ·replace H:=Js [2,2,2,0,0,0,0,0,0,0,0,0,0,0,1] 1 H;refine J1 H ?_;clear H;intro w H;refine Jl 0 [6,12] H ?_;refine WZ H ?_;refine Jl 3 [6,12] H ?_;refine Jf 4 ?_;refine Jl 5 [6,12] H ?_;refine Jw 6 11 H rfl rfl (V1 (a:=[]) (b:=[]) rfl rfl (call (Dg q.ip q.sp q.bp s.size s.lays mem s.own e.addr e.lay e.count k e.ws.length (Qd s e) hI H) ?_)) (YH H rfl ?_)
   ·clear H;rintro v w ⟨rfl,H⟩;refine FX H ?_;refine FK H ?_;clear H;intro b5 w H;refine Rg H ?_;clear H;intro w H;refine B0 H ?_;replace H:=Js [5,1,1,1,2,2,2,2,2,2,2,1,0,0,0] 1 H;replace H:=VJ hw hm H;replace H:=Js [1,1,1,1,0] 0 H;exact⟨rfl,rfl,b5,rfl,rfl,rfl,rfl,rfl,H⟩
   ·clear H;intro b5 w H;replace H:=Js [1,1,1,0] 0 H;refine Jo 6 H ?_;refine Jk rfl rfl (Dg q.ip q.sp q.bp s.size s.lays mem s.own e.addr e.lay e.count k e.ws.length (Qd s e) hI H) ?_;clear H;rintro v w ⟨rfl,H⟩;refine FX H ?_;refine Rg H ?_;clear H;intro w H;refine B0 H ?_;replace H:=Js [5,0,0,0,2,2,2,2,2,2,2,1,0,0,0] 1 H;replace H:=VJ hw hm H;replace H:=Js [1,1,1,1,0] 0 H;exact⟨rfl,rfl,b5,rfl,rfl,rfl,rfl,rfl,H⟩
  ·clear H;rintro ms σ w ⟨rfl,b5,g2,g3,g5,g6,g7,H⟩;rw[Q1 g2,Q1 g3,Q1 g5,Q1 g6,Q1 g7];refine Mi H ?_;refine DJ H ?_;rw[Qg (x:=((e.ws.length+1:Nat):Int) - 1) (by omega) (by omega),show ((e.ws.length+1:Nat):Int) - 1=(e.ws.length:Int) by omega];refine Gm H ?_;refine NQ H ?_;clear H;intro w H;refine Rd H ?_;replace H:=Js [2,2,2] 2 H;exact Q3 (Jy H rfl fun w' H'=>⟨rfl,H'⟩)
 ·clear H;rintro v w ⟨rfl,H⟩;refine J0 H ?_;refine Aw H ?_;clear H;intro w H;refine J0 H ?_;replace H:=Js [1,1] 1 H;exact Q3 (Jz H (fun w' H' => .cellN H' rfl (by repeat first|exact .nil _|apply QY.cons rfl) (.tmp .nil)) fun w' H'=>⟨rfl,H'.drop⟩)
theorem Fq [Q4] {w:World} {p:Nat} {m:List (Rf×Int)} {l:List Q2} (H:Q0 w (RS p m::l)):(m.map (·.1)).Nodup:=by
 obtain⟨bt,bo,bf,H⟩:=Df H;exact B8 bt H
theorem gm [Q4] (p:Nat) (s:CS) (k n:Nat) (e:Q8) (hk:s.tab[k]? = some ⟨n,some e⟩) {w:World} {fr:List Q2} (H:Q0 w (QD p s::fr)) :
  Calls Tryz.prog 127 #[pp p,.int .i64 k] w (ret fun v w'=>v = .tuple #[.agg (YX e).toArray,.bool true]∧Q0 w' (QD p s::fr)):=by
 obtain⟨q,mem,hw,hm,H⟩:=Y9 H;have hL:Qk s.tab k n=some (k,e):=Yz.2 ⟨n,rfl,rfl,hk⟩;refine QQ Tryz.func127 rfl (by kernel_rfl) ?_;refine YM H ?_;clear H;intro b4 w H;refine F4 H ?_;refine VM H ?_;replace H:=Js [5,0,0,0,0,0,0,0,0,0,0,0] 0 H;refine Jc rfl rfl (O6 q.tp s.tab k n e hk H) ?_;clear H;rintro v w ⟨rfl,H⟩;refine YA H ?_;clear H;intro b6 w H;refine J5 H ?_;clear H;intro w H;refine Yy H ?_
 refine Qt (fun ms σ w=>ms=[]∧∃ b8,σ 4=pp b4∧σ 7 = .bool true∧σ 8=pp b8 ∧
   Q0 w (pts b4 (row 113 [.int .i64 0,.int .i64 0,.bool false,.bool false])::pts b8 (row 113 (YX e))::QD p s::fr)) ?_ ?_
 ·replace H:=Js [1,0,0,0,0,0,0,0,0,0,0,0,0] 0 H;refine J1 H ?_;clear H;intro w H;refine C6 H ?_;refine Jw 5 9 H rfl rfl (V1 (a:=[]) (b:=[]) rfl rfl (call (U9 q.tp s.tab k n H) ?_)) (YH H rfl ?_)
  ·clear H;rintro v w ⟨rfl,H⟩;rw[hL];refine C7 H ?_;clear H;intro b8 w H;refine C8 H ?_;clear H;intro w H;refine XI H ?_;replace H:=Js [4,4,4,4,1,3,3,3,3,3,3,2,0] 1 H;replace H:=VJ hw hm H;replace H:=Js [1,1,0] 0 H;exact⟨rfl,rfl,b8,rfl,rfl,rfl,H⟩
  ·clear H;intro b8 w H;refine Jo 5 H ?_;refine Jk rfl rfl (U9 q.tp s.tab k n H.swap) ?_;clear H;rintro v w ⟨rfl,H⟩;rw[hL];refine C9 H ?_;clear H;intro w H;refine XI H ?_;replace H:=Js [4,4,4,4,0,3,3,3,3,3,3,2,0] 1 H;replace H:=VJ hw hm H;replace H:=Js [1,1,0] 0 H;exact⟨rfl,rfl,b8,rfl,rfl,rfl,H⟩
 ·clear H;rintro ms σ w ⟨rfl,b8,g4,g7,g8,H⟩;rw[Q1 g4,Q1 g7,Q1 g8];refine Aw H ?_;clear H;intro w H;refine J0 H ?_;exact Q3 (Jz H (fun w' H' => .cellN H' rfl (by repeat first|exact .nil _|apply QY.cons rfl) (.tmp .nil)) fun w' H'=>⟨rfl,H'.drop.drop⟩)
def Zs (s:CS) (k:Nat) (e:Q8) (place:Int) (l:Yn):List (Rf×Int):=
 match l with
 | .obj a b=>match Qk s.tab a b with
  | some (_,f)=>if f.region≠e.region then Yg (QN s.rem ((k:Int),place)) ((k:Int),place) (a:Int) else QN s.rem ((k:Int),place)
  | none=>QN s.rem ((k:Int),place)
 | _=>QN s.rem ((k:Int),place)
theorem TX {s:CS} {k a b:Nat} {e:Q8} {place:Int} (h:Qk s.tab a b=none):Zs s k e place (.obj a b)=QN s.rem ((k:Int),place):=by
 show (match Qk s.tab a b with|some (_,f)=>if f.region≠e.region then Yg (QN s.rem ((k:Int),place)) ((k:Int),place) (a:Int) else QN s.rem ((k:Int),place)|none=>QN s.rem ((k:Int),place))=_;rw[h]
theorem JL {s:CS} {k a b kk:Nat} {e f:Q8} {place:Int} (h:Qk s.tab a b=some (kk,f)):Zs s k e place (.obj a b)=if f.region≠e.region then Yg (QN s.rem ((k:Int),place)) ((k:Int),place) (a:Int) else QN s.rem ((k:Int),place):=by
 show (match Qk s.tab a b with|some (_,f)=>if f.region≠e.region then Yg (QN s.rem ((k:Int),place)) ((k:Int),place) (a:Int) else QN s.rem ((k:Int),place)|none=>QN s.rem ((k:Int),place))=_;rw[h]
theorem rV [Q4] (p:Nat) (s:CS) (k n:Nat) (e:Q8) (hk:s.tab[k]? = some ⟨n,some e⟩) (place:Int) (l:Yn) {w:World} {fr:List Q2} (H:Q0 w (QD p s::fr)) :
  Calls Tryz.prog 156 #[pp p,.int .i64 k,.int .i64 place,GN l] w (ret fun v w'=>Q0 w' (QD p { s with rem:=Zs s k e place l }::fr)):=by
 obtain⟨a1,a2,a3,Y4⟩:=Xa l;rw[Y4];obtain⟨q,mem,hw,hm,H⟩:=Y9 H;have QP:=Fq (H.pull 6);have TR:=QP;refine QQ Tryz.func156 rfl (by kernel_rfl) ?_;refine J8 H ?_;clear H;intro b7 w H;refine DM H ?_;refine W3 H ?_;refine VS H ?_;clear H;intro b8 w H;refine J5 H ?_;clear H;intro w H;refine J2 H ?_;replace H:=Js [8,0,0,0,0,0,0,0,0,0,0,0,0] 0 H;refine J1 H ?_;clear H;intro w H;refine Mr H ?_;refine Jk rfl rfl (Iv q.rp s.rem QP ((k:Int),place) H) ?_;clear H;rintro v w ⟨rfl,H⟩;refine Jx H ?_;replace H:=Js [3,3,3,3,3,3,0,2,2,2,2,0,0] 0 H;have H:=VJ (s:={ s with rem:=QN s.rem ((k:Int),place) }) (Fe hw _) (Nq hm _) H;clear hw hm;refine FR H ?_
 have Dp:(a1≠2∧Zs s k e place l=QN s.rem ((k:Int),place))∨∃ a b:Nat,l = .obj a b∧a1=2∧a2=a∧a3=b:=by
  cases l with
  | none=>injection Y4 with h;simp at h;exact .inl ⟨by omega,rfl⟩
  | grave=>injection Y4 with h;simp at h;exact .inl ⟨by omega,rfl⟩
  | obj a b=>injection Y4 with h;simp at h;exact .inr ⟨a,b,rfl,by omega,by omega,by omega⟩
 rcases Dp with ⟨h2,hn⟩|⟨a,b,rfl,rfl,rfl,rfl⟩
 ·rw[show (a1 != 2)=true by simpa using h2];refine Vr H ?_;rw[hn];replace H:=Js [0] 2 H;exact Q3 (Jy H rfl fun w' H'=>H')
 ·refine F0 H ?_;refine Jc rfl rfl (gm p { s with rem:=QN s.rem ((k:Int),place) } k n e hk H) ?_;clear H;rintro v w ⟨rfl,H⟩;refine YA H ?_;clear H;intro b9 w H;refine J5 H ?_;clear H;intro w H;refine J0 H ?_;replace H:=Js [1,0,0,0] 0 H;obtain⟨q,mem,hw,hm,H⟩:=Y9 H;dsimp only at H;obtain⟨e1,e2,h1,h2,e4,Y1⟩:=JW (Qk s.tab a b);refine J6 H ?_
  refine Qt (fun ms σ w=>ms=[]∧∃ b11,σ 0=pp p∧σ 7=pp b7∧σ 8=pp b8∧σ 9=pp b9∧σ 11=pp b11∧σ 12 = .int .i64 e4 ∧
    Q0 w (QD p { s with rem:=QN s.rem ((k:Int),place) }::pts b11 (row 113 [.int .i64 e1,.int .i64 e2,.bool h1,.bool h2])::pts b9 (row 113 (YX e))::pts b8 (row 133 [.int .i64 k,.int .i64 place])::pts b7 (row 88 [.int .i64 2,.int .i64 a,.int .i64 b])::fr)) ?_ ?_
  ·replace H:=Js [4,0,0,0,0,0,0,0,0,0,0,0,0,0] 0 H;refine J1 H ?_;clear H;intro w H;refine YN H ?_;refine FW H ?_;refine Jw 6 10 H rfl rfl (V1 (a:=[]) (b:=[]) rfl rfl (call (U9 q.tp s.tab a b H) ?_)) (YH H rfl ?_)
   ·clear H;rintro v w ⟨rfl,H⟩;rw[Y1];refine C3 H ?_;clear H;intro b11 w H;refine Km H ?_;clear H;intro w H;refine KH H ?_;replace H:=Js [2,2,2,2,1,1,1,1,1,1,1,0,0,0,0] 0 H;have H:=VJ (s:={ s with rem:=QN s.rem ((k:Int),place) }) hw hm H;exact⟨rfl,rfl,b11,rfl,rfl,rfl,rfl,rfl,rfl,H⟩
   ·clear H;intro b11 w H;refine Jo 6 H ?_;refine Jk rfl rfl (U9 q.tp s.tab a b H.swap) ?_;clear H;rintro v w ⟨rfl,H⟩;rw[Y1];refine IF H ?_;clear H;intro w H;refine KH H ?_;replace H:=Js [2,2,2,2,0,1,1,1,1,1,1,0,0,0,0] 0 H;have H:=VJ (s:={ s with rem:=QN s.rem ((k:Int),place) }) hw hm H;exact⟨rfl,rfl,b11,rfl,rfl,rfl,rfl,rfl,rfl,H⟩
  ·clear H;rintro ms σ w ⟨rfl,b11,g0,g7,g8,g9,g11,g12,H⟩;rw[Q1 g0,Q1 g7,Q1 g8,Q1 g9,Q1 g11,Q1 g12];cases hL:Qk s.tab a b with
   | none=>
    have hn:Zs s k e place (.obj a b)=QN s.rem ((k:Int),place):=TX hL;rw[hL] at Y1;cases Y1;rw[hn];refine Y7 H ?_;refine IV H ?_;refine YS H ?_;replace H:=Js [0] 4 H;exact Z2 _ (.inl rfl) H rfl fun w' H'=>H'
   | some x=>
    obtain⟨kk,f⟩:=x;rw[hL] at Y1;cases Y1;refine Y7 H ?_;refine S4 H ?_;by_cases hr:f.region=e.region
    ·have hn:Zs s k e place (.obj a b)=QN s.rem ((k:Int),place):=by rw[JL hL];exact if_neg (by simpa using hr)
     rw[hn,show (f.region != e.region)=false by simpa using hr];refine YS H ?_;replace H:=Js [0] 4 H;exact Z2 _ (.inl rfl) H rfl fun w' H'=>H'
    ·have hn:Zs s k e place (.obj a b)=Yg (QN s.rem ((k:Int),place)) ((k:Int),place) (a:Int):=by rw[JL hL];exact if_pos hr
     rw[hn,show (f.region != e.region)=true by simpa using hr];refine WQ H ?_;obtain⟨q,mem,hw,hm,H⟩:=Y9 H;dsimp only at H;replace H:=Js [6,0,0,0,0,0,0,0,0,0,0,0,0,0,0] 0 H;have QP:=Fq H;refine J1 H ?_;clear H;intro w H;refine YN H ?_;refine Jl 3 [8] H ?_;refine Vw 4 [8] H rfl (Q9.none rfl) rfl (by repeat first|exact .nil _|apply QY.cons rfl) (by kernel_rfl) ?_;refine Jf 5 ?_;refine Jf 6 ?_;refine Jl 7 [8] H ?_;refine Jo 8 H ?_;refine Jk rfl rfl (fh q.rp _ QP ((k:Int),place) a H) ?_;clear H;rintro v w ⟨rfl,H⟩;refine Jx H ?_
     have he:QN (QN s.rem ((k:Int),place)) ((k:Int),place)=QN s.rem ((k:Int),place):=by
      refine HT ?_;intro VR;exact absurd rfl ((Ha TR).1 VR).1
     rw[he] at H;replace H:=Js [1,1,1,1,1,1,0,0,0,0,0] 4 H;have H:=VJ (s:={ s with rem:=Yg (QN s.rem ((k:Int),place)) ((k:Int),place) (a:Int) }) (Fe hw _) (Nq hm _) H;exact Z2 _ (.inl rfl) H rfl fun w' H'=>H'
def Xg (s:CS) (i g place:Int) (l:Yn):CS×Nat:=
 match V3 s.tab i g with
 | none=>(s,8)
 | some (k,e)=>if Qc (Qd s e) e.ws.length place true=0 then ({ Y3 s k g.toNat { e with ws:=e.ws.set place.toNat (Vm l) } with rem:=Zs (Y3 s k g.toNat { e with ws:=e.ws.set place.toNat (Vm l) }) k { e with ws:=e.ws.set place.toNat (Vm l) } place l },0) else (s,Qc (Qd s e) e.ws.length place true)
theorem JM {s:CS} {i g place:Int} {l:Yn} (h:V3 s.tab i g=none):Xg s i g place l=(s,8):=by unfold Xg;rw[h]
theorem Dq {s:CS} {i g place:Int} {l:Yn} {k:Nat} {e:Q8} (h:V3 s.tab i g=some (k,e)):Xg s i g place l=if Qc (Qd s e) e.ws.length place true=0 then ({ Y3 s k g.toNat { e with ws:=e.ws.set place.toNat (Vm l) } with rem:=Zs (Y3 s k g.toNat { e with ws:=e.ws.set place.toNat (Vm l) }) k { e with ws:=e.ws.set place.toNat (Vm l) } place l },0) else (s,Qc (Qd s e) e.ws.length place true):=by unfold Xg;rw[h]
theorem gn [Q4] (p:Nat) (s:CS) (i g place:Int) (l:Yn) (hl:XL l) {w:World} {fr:List Q2} (H:Q0 w (QD p s::fr)) :
  Calls Tryz.prog 95 #[pp p,GB i g,.int .i64 place,GN l] w (ret fun v w'=>v = .int .i64 ((Xg s i g place l).2:Nat)∧Q0 w' (QD p (Xg s i g place l).1::fr)):=by
 obtain⟨a1,a2,a3,Y4⟩:=Xa l;rw[Y4];refine QQ Tryz.func95 rfl (by kernel_rfl) ?_;refine GV H ?_;clear H;intro b4 w H;refine W9 H ?_;clear H;intro b5 w H;refine Az H ?_;clear H;intro b6 w H;refine W9 H ?_;clear H;intro b7 w H;refine NV H ?_;replace H:=Js [4,0,0,0,0] 0 H
 refine Q5 rfl (V1 (a:=[]) (b:=[]) rfl rfl (call (Dn p s i g 155 [pp b4,pp b6,pp b7] (fun v w'=>
   (V3 s.tab i g=none∧v = .int .i64 8∧Q0 w' (QD p s::fr)) ∨
   (∃ k n e, V3 s.tab i g = some (k, e) ∧ g = (n : Nat) ∧ i = (k : Nat) ∧ s.tab[k]? = some ⟨n, some e⟩ ∧ ((Qc (Qd s e) e.ws.length place true ≠ 0 ∧ v = .int .i64 (Qc (Qd s e) e.ws.length place true) ∧ Q0 w' (QD p s :: fr)) ∨
    (Qc (Qd s e) e.ws.length place true=0∧v = .int .i64 0∧Q0 w' (pts b4 (row 44 [pp p])::pts b5 (row 69 [.int .i64 i,.int .i64 g])::pts b6 (row 3 [.int .i64 place])::pts b7 (row 88 [.int .i64 a1,.int .i64 a2,.int .i64 a3])::QD p (Y3 s k n { e with ws:=e.ws.set place.toNat (Vm l) })::fr))))) _ ?_ ?_ H) ?_))
 ·intro hv w H;replace H:=Js [0] 4 H;exact .inl ⟨hv,rfl,H⟩
 ·intro k e hv w H;obtain⟨n,rfl,rfl,hk,hh⟩:=Gv hv;obtain⟨q,mem,hw,hm,H⟩:=Y9 H;have hI:=WJ hw hm hk;have hT:=fun (w:World) (fr:List Q2) (H:Q0 w (V6 q.ip q.sp q.bp::Qp q.bp s.lays::ST q.sp s.size mem s.own::fr))=>gY q.ip q.sp q.bp s.size s.lays mem s.own e.addr e.lay e.count k e.ws.length (Qd s e) hI place l hl H;rw[Y4] at hT;refine QQ Tryz.func155 rfl (by kernel_rfl) ?_;refine J8 H ?_;clear H;intro b4 w H;refine J0 H ?_;replace H:=Js [2,2,2,0,0,0,0,0,0,0,0,0,0,0,0,0] 0 H;refine J1 H ?_;clear H;intro w H;refine NY H ?_;refine Jl 6 [8] H ?_;refine Vw 7 [8] H rfl (Q9.none rfl) rfl (by repeat first|exact .nil _|apply QY.cons rfl) (by kernel_rfl) ?_;refine Jo 8 H ?_;refine Jk rfl rfl (hT _ _ H) ?_;clear H;rintro v w ⟨rfl,H⟩;refine Ja 9 ?_;refine Jx H ?_;by_cases h0:Qc (Qd s e) e.ws.length place true=0
  ·obtain⟨y,rfl,hy,hr⟩:=UI h0;rw[if_pos h0] at H;rw[h0];have rY:Vm l < 18446744073709551616:=fX hl;have VI:=Np (e':={ e with ws:=e.ws.set y (Vm l) }) hw hk ⟨rfl,rfl,rfl,rfl,by show (e.ws.set y (Vm l)).length=_;simp⟩ (Sm (hw.obj _ _ _ hk).1 (TV hw hk) rY (fun _=>⟨l,hl,rfl⟩));have V7:=Sk hw hm hk hy (x:=Vm l);replace H:=Js [5,4,0,0,0,1,1,1,1,1,1,4,3,2,1] 1 H;replace H:=TY (e':={ e with ws:=e.ws.set y (Vm l) }) hk rfl H;replace H:=Js [1,1,1,1,0,0,0,0,0,0,0,0,0,0,0] 0 H;replace H:=VJ VI V7 H;replace H:=Js [1,1,1,1,0] 0 H;exact Q3 (Jy H rfl fun w' H' => .inr ⟨k,n,e,hv,rfl,rfl,hk,.inr ⟨h0,rfl,H'⟩⟩)
  ·rw[if_neg h0] at H;replace H:=Js [4,0,0,0,1,1,1,1,1,1,1] 5 H;replace H:=VJ hw hm H;exact Q3 (Jy H rfl fun w' H' => .inr ⟨k,n,e,hv,rfl,rfl,hk,.inl ⟨h0,rfl,H'⟩⟩)
 ·clear H;rintro v w (⟨hv,rfl,H⟩|⟨k,n,e,hv,rfl,rfl,hk,(⟨h0,rfl,H⟩|⟨h0,rfl,H⟩)⟩)
  ·rw[JM hv];refine ZT H ?_;refine J3 H ?_;exact Q3 (Jy H rfl fun w' H'=>⟨rfl,H'⟩)
  ·rw[Dq hv,if_neg h0];refine ZX H ?_;rw[show (((Qc (Qd s e) e.ws.length place true:Nat):Int) == 0)=false by simpa using h0];refine DF H ?_;exact Q3 (Jy H rfl fun w' H'=>⟨rfl,H'⟩)
  ·rw[Dq hv,if_pos h0,Int.toNat_natCast];have hN:=fun (w:World) (fr:List Q2) (H:Q0 w (QD p (Y3 s k n { e with ws:=e.ws.set place.toNat (Vm l) })::fr))=>rV p (Y3 s k n { e with ws:=e.ws.set place.toNat (Vm l) }) k n { e with ws:=e.ws.set place.toNat (Vm l) } (by show (s.tab.set k _)[k]? = _;simp[(List.getElem?_eq_some_iff.1 hk).1]) place l H;rw[Y4] at hN;refine ZX H ?_;refine J6 H ?_;refine Qt (fun ms σ w=>ms=[]∧σ 9 = .int .i64 0∧Q0 w (QD p { Y3 s k n { e with ws:=e.ws.set place.toNat (Vm l) } with rem:=Zs (Y3 s k n { e with ws:=e.ws.set place.toNat (Vm l) }) k { e with ws:=e.ws.set place.toNat (Vm l) } place l }::fr)) ?_ ?_
   ·refine YY rfl ?_;refine UB H ?_;refine Gm H ?_;refine W4 H ?_;refine C1 H ?_;replace H:=Js [4,0,0,0,0] 0 H;refine Jc rfl rfl (hN _ _ H) ?_;clear H;intro v w H;refine J2 H ?_;replace H:=Js [0] 4 H;exact⟨rfl,rfl,rfl,H⟩
   ·clear H;rintro ms σ w ⟨rfl,g9,H⟩;rw[Q1 g9];refine J3 H ?_;exact Q3 (Jy H rfl fun w' H'=>⟨rfl,H'⟩)
def G6 (s:CS) (i g place u v:Int):CS×Nat:=
 if (Ys s i g place).2≠0 then (s,(Ys s i g place).2)
 else if (V3 s.tab u v).isNone then (s,8) else Xg s i g place (.obj u.toNat v.toNat)
theorem TW {s:CS} (h:WF s) {k g:Nat} {e:Q8} (hk:s.tab[k]? = some ⟨g,some e⟩):Ik k g:=by
 have h1:=(List.getElem?_eq_some_iff.1 hk).1;have h2:=h.slots.2;have h3:=h.gen _ _ hk;exact⟨by omega,h3.2 rfl,h3.1⟩
theorem gp [Q4] (p:Nat) (s:CS) (i g place u v:Int) {w:World} {fr:List Q2} (H:Q0 w (QD p s::fr)) :
  Calls Tryz.prog 32 #[pp p,GB i g,.int .i64 place,GB u v] w (ret fun x w'=>x = .int .i64 ((G6 s i g place u v).2:Nat)∧Q0 w' (QD p (G6 s i g place u v).1::fr)):=by
 obtain⟨a1,a2,a3,Y4⟩:=Xa (Ys s i g place).1;refine QQ Tryz.func32 rfl (by kernel_rfl) ?_;refine J8 H ?_;clear H;intro b5 w H;refine W9 H ?_;clear H;intro b7 w H;refine Au H ?_;refine Jv ?_;replace H:=Js [2,0,0] 0 H;refine Jc rfl rfl (JD p s i g place H) ?_;clear H;rintro v w ⟨rfl,H⟩;rw[Y4];refine YA H ?_;clear H;intro b9 w H;refine J5 H ?_;clear H;intro w H;refine ZX H ?_;by_cases h0:(Ys s i g place).2=0
 ·have hT:G6 s i g place u v=if (V3 s.tab u v).isNone then (s,8) else Xg s i g place (.obj u.toNat v.toNat):=by unfold G6;rw[if_neg (by simpa using h0)]
  rw[hT,h0];refine Vf H ?_;refine Xt H ?_;replace H:=Js [1,0,0,0] 0 H;refine Jc rfl rfl (gh p s u v H) ?_;clear H;rintro v w ⟨rfl,H⟩;cases hv:V3 s.tab u v with
  | none=>
   refine YA H ?_;clear H;intro b11 w H;refine J5 H ?_;clear H;intro w H;refine IP H ?_;replace H:=Js [1] 4 H;exact Q3 (Jy H rfl fun w' H'=>⟨rfl,H'⟩)
  | some x=>
   obtain⟨k,f⟩:=x;obtain⟨n,rfl,rfl,hk,hh⟩:=Gv hv
   have QX:Ik k n:=by
    obtain⟨q,mem,hw,hm,_⟩:=Y9 (H.pull 0);exact TW hw hk
   refine YA H ?_;clear H;intro b11 w H;refine J5 H ?_;clear H;intro w H;refine ZT H ?_;refine Ia H ?_;refine C1 H ?_;refine W3 H ?_;replace H:=Js [1,0,0,0,0] 0 H;refine Jc rfl rfl (gn p s i g place (.obj k n) QX H) ?_;clear H;rintro v w ⟨rfl,H⟩;refine J0 H ?_;replace H:=Js [0] 4 H;exact Q3 (Jy H rfl fun w' H'=>⟨rfl,H'⟩)
 ·have hT:G6 s i g place u v=(s,(Ys s i g place).2):=by unfold G6;rw[if_pos h0]
  rw[hT];rw[show ((((Ys s i g place).2:Nat):Int) != 0)=true by simpa using h0];refine G2 H ?_;replace H:=Js [1] 3 H;exact Q3 (Jy H rfl fun w' H'=>⟨rfl,H'⟩)
theorem rZ [Q4] (p:Nat) (s:CS) (i g place:Int) {w:World} {fr:List Q2} (H:Q0 w (QD p s::fr)) :
  Calls Tryz.prog 169 #[pp p,GB i g,.int .i64 place] w (ret fun x w'=>x = .int .i64 ((Xg s i g place .none).2:Nat)∧Q0 w' (QD p (Xg s i g place .none).1::fr)):=by
 refine QQ Tryz.func169 rfl (by kernel_rfl) ?_;refine J8 H ?_;clear H;intro b4 w H;refine Au H ?_;refine Jv ?_;refine W3 H ?_;refine Jc rfl rfl (gn p s i g place .none trivial H.swap) ?_;clear H;rintro v w ⟨rfl,H⟩;refine J0 H ?_;replace H:=Js [0] 1 H;exact Q3 (Jy H rfl fun w' H'=>⟨rfl,H'⟩)
def BC (s:CS) (a b:Nat):CS:=
 match Qk s.tab a b with
 | some (k,e)=>Y3 s k b { e with held:=true }
 | none=>s
theorem JN {s:CS} {a b:Nat} (h:Qk s.tab a b=none):BC s a b=s:=by unfold BC;rw[h]
theorem JO {s:CS} {a b k:Nat} {e:Q8} (h:Qk s.tab a b=some (k,e)):BC s a b=Y3 s k b { e with held:=true }:=by unfold BC;rw[h]
def UV (s:CS) (i g place:Int):CS:=
 match Ys s i g place with
 | (.obj a b,0)=>BC s a b
 | _=>s
theorem rG [Q4] (p:Nat) (s:CS) (i g place:Int) {w:World} {fr:List Q2} (H:Q0 w (QD p s::fr)) :
  Calls Tryz.prog 166 #[pp p,GB i g,.int .i64 place] w (ret fun v w'=>v = .tuple #[GN (Ys s i g place).1,.int .i64 ((Ys s i g place).2:Nat)]∧Q0 w' (QD p (UV s i g place)::fr)):=by
 obtain⟨a1,a2,a3,Y4⟩:=Xa (Ys s i g place).1;rw[Y4];refine QQ Tryz.func166 rfl (by kernel_rfl) ?_;refine J8 H ?_;clear H;intro b4 w H;refine VS H ?_;clear H;intro b6 w H;refine Au H ?_;refine Jv ?_;replace H:=Js [2,0,0] 0 H;refine Jc rfl rfl (JD p s i g place H) ?_;clear H;rintro v w ⟨rfl,H⟩;rw[Y4];refine YA H ?_;clear H;intro b8 w H;refine J5 H ?_;clear H;intro w H;refine J0 H ?_;replace H:=Js [1,0,0] 1 H;have fin:∀ (σ:QC) (w:World),σ 6=pp b6→σ 8=pp b8→σ 9 = .int .i64 ((Ys s i g place).2:Nat)→Q0 w (QD p (UV s i g place)::pts b8 (row 88 [.int .i64 a1,.int .i64 a2,.int .i64 a3])::pts b6 (row 88 [.int .i64 0,.int .i64 0,.int .i64 0])::fr)→True:=fun _ _ _ _ _ _=>trivial;clear fin;generalize hq:Ys s i g place=r at Y4 H ⊢;obtain⟨k,er⟩:=r
 have Dp:(¬ (er=0∧a1=2)∧UV s i g place=s)∨∃ a b:Nat,k = .obj a b∧er=0∧a1=2∧a2=a∧a3=b∧UV s i g place=BC s a b:=by
  have hr:UV s i g place=(match (k,er) with|(.obj a b,0)=>BC s a b|_=>s):=by unfold UV;rw[hq]
  cases k with
  | none=>injection Y4 with h;simp at h;exact .inl ⟨by omega,hr⟩
  | grave=>injection Y4 with h;simp at h;exact .inl ⟨by omega,hr⟩
  | obj a b=>
   injection Y4 with h
   simp at h;cases er with
   | zero=>exact .inr ⟨a,b,rfl,rfl,by omega,by omega,by omega,hr⟩
   | succ er=>exact .inl ⟨by omega,hr⟩
 rcases Dp with ⟨VZ,hr⟩|⟨a,b,rfl,rfl,rfl,rfl,rfl,hr⟩
 ·rw[hr];refine J9 H ?_;by_cases h0:er=0
  ·subst h0;rw[show (((0:Nat):Int) == 0)=true from rfl];refine Eh H ?_;rw[show (a1 == 2)=false by simp;intro h;exact VZ ⟨rfl,h⟩];refine YS H ?_;refine Aw H ?_;clear H;intro w H;refine J0 H ?_;replace H:=Js [2,0] 1 H;exact Q3 (Jz H (fun w' H' => .cellN H' rfl (by repeat first|exact .nil _|apply QY.cons rfl) (.tmp .nil)) fun w' H'=>⟨rfl,H'.drop⟩)
  ·rw[show (((er:Nat):Int) == 0)=false by simpa using h0];refine Mg H ?_;refine YS H ?_;refine Aw H ?_;clear H;intro w H;refine J0 H ?_;replace H:=Js [2,0] 1 H;exact Q3 (Jz H (fun w' H' => .cellN H' rfl (by repeat first|exact .nil _|apply QY.cons rfl) (.tmp .nil)) fun w' H'=>⟨rfl,H'.drop⟩)
 ·rw[hr];refine Y7 H ?_;refine Xu H ?_;refine J0 H ?_;obtain⟨e1,e2,h1,h2,e4,Y1⟩:=JW (Qk s.tab a b);refine J6 H ?_;refine Qt (fun ms σ w=>ms=[]∧σ 6=pp b6∧σ 8=pp b8∧σ 9 = .int .i64 0∧Q0 w (QD p (BC s a b)::pts b8 (row 88 [.int .i64 2,.int .i64 a,.int .i64 b])::pts b6 (row 88 [.int .i64 0,.int .i64 0,.int .i64 0])::fr)) ?_ ?_
  ·refine Vr H ?_;obtain⟨q,mem,hw,hm,H⟩:=Y9 H;refine J6 H ?_
   refine Qt (fun ms σ w=>ms=[]∧∃ b10,σ 0=pp p∧σ 6=pp b6∧σ 8=pp b8∧σ 9 = .int .i64 0∧σ 10=pp b10 ∧
     Q0 w (pts b10 (row 113 [.int .i64 e1,.int .i64 e2,.bool h1,.bool h2])::QD p s::pts b8 (row 88 [.int .i64 2,.int .i64 a,.int .i64 b])::pts b6 (row 88 [.int .i64 0,.int .i64 0,.int .i64 0])::fr)) ?_ ?_
   ·replace H:=Js [4,0,0,0,0,0,0,0,0,0,0,0,0] 0 H;refine J1 H ?_;clear H;intro w H;refine YN H ?_;refine FW H ?_;refine Jw 6 10 H rfl rfl (V1 (a:=[]) (b:=[]) rfl rfl (call (U9 q.tp s.tab a b H) ?_)) (YH H rfl ?_)
    ·clear H;rintro v w ⟨rfl,H⟩;rw[Y1];refine C3 H ?_;clear H;intro b10 w H;refine Km H ?_;clear H;intro w H;refine KH H ?_;replace H:=Js [2,2,2,2,1,1,1,1,1,1,1,0,0,0] 0 H;have H:=VJ hw hm H;exact⟨rfl,rfl,b10,rfl,rfl,rfl,rfl,rfl,H.swap⟩
    ·clear H;intro b10 w H;refine Jo 6 H ?_;refine Jk rfl rfl (U9 q.tp s.tab a b H.swap) ?_;clear H;rintro v w ⟨rfl,H⟩;rw[Y1];refine IF H ?_;clear H;intro w H;refine KH H ?_;replace H:=Js [2,2,2,2,0,1,1,1,1,1,1,0,0,0] 0 H;have H:=VJ hw hm H;exact⟨rfl,rfl,b10,rfl,rfl,rfl,rfl,rfl,H.swap⟩
   ·clear H;rintro ms σ w ⟨rfl,b10,g0,g6,g8,g9,g10,H⟩;rw[Q1 g0,Q1 g6,Q1 g8,Q1 g9,Q1 g10];refine Uv H ?_;refine Rc H ?_;clear H;intro w H;refine J2 H ?_;obtain⟨q,mem,hw,hm,H⟩:=Y9 H.swap;cases hL:Qk s.tab a b with
    | none=>
     rw[hL] at Y1;cases Y1;rw[JN hL];replace H:=Js [4,0,0,0,0,0,0,0,0,0,0,0,0,0] 0 H;refine J1 H ?_;clear H;intro w H;refine Ja 0 ?_;refine Ja 1 ?_;refine Jf 2 ?_;refine Jl 3 [7] H ?_;refine Jf 4 ?_;refine S5 H ?_;refine Ms H ?_;refine Jk rfl rfl (JR q.tp s.tab a b ⟨0,0,true,false,0,0,[]⟩ H) ?_;clear H;rintro v w (⟨k',e',A5,rfl,H⟩|⟨_,rfl,H⟩)
     ·rw[hL] at A5;cases A5
     ·refine Jx H ?_;replace H:=Js [1,1,1,1,0,0,0,0,0,0,0,1,1] 1 H;have H:=VJ hw hm H;exact⟨rfl,rfl,rfl,rfl,rfl,H⟩
    | some x=>
     obtain⟨kk,f⟩:=x;rw[hL] at Y1;cases Y1;rw[JO hL];obtain⟨n,Kv,oD,hk⟩:=Yz.1 hL;obtain rfl:a=kk:=by omega
     obtain rfl:b=n:=by omega
     replace H:=Js [4,0,0,0,0,0,0,0,0,0,0,0,0,0] 0 H;refine J1 H ?_;clear H;intro w H;refine Ja 0 ?_;refine Ja 1 ?_;refine Jf 2 ?_;refine Jl 3 [7] H ?_;refine Jf 4 ?_;refine S5 H ?_;refine Ms H ?_;refine Jk rfl rfl (JR q.tp s.tab a b { f with held:=true } H) ?_;clear H;rintro v w (⟨k',e',A5,rfl,H⟩|⟨A5,rfl,H⟩)
     ·rw[hL] at A5;cases A5;refine Jx H ?_;replace H:=Js [1,1,1,1,0,0,0,0,0,0,0,1,1] 1 H;have H:=TG (e':={ f with held:=true }) hw hm hk ⟨rfl,rfl,rfl,rfl,rfl⟩ rfl H;exact⟨rfl,rfl,rfl,rfl,rfl,H⟩
     ·rw[hL] at A5;cases A5
  ·clear H;rintro ms σ w ⟨rfl,g6,g8,g9,H⟩;rw[Q1 g6,Q1 g8,Q1 g9];refine Aw H ?_;clear H;intro w H;refine J0 H ?_;replace H:=Js [2,0] 1 H;exact Q3 (Jz H (fun w' H' => .cellN H' rfl (by repeat first|exact .nil _|apply QY.cons rfl) (.tmp .nil)) fun w' H'=>⟨rfl,H'.drop⟩)
def R5 (s:CS) (ws:List Nat):CS×Nat×Nat:=
 match Gq ws with
 | none=>(s,0,4)
 | some l=>if s.lays.length=64 then (s,0,5) else ({ s with lays:=s.lays++[l] },s.lays.length+1,0)
theorem JP {s:CS} {ws:List Nat} (h:Gq ws=none):R5 s ws=(s,0,4):=by unfold R5;rw[h]
theorem Fr {s:CS} {ws:List Nat} {l:Qb} (h:Gq ws=some l):R5 s ws=if s.lays.length=64 then (s,0,5) else ({ s with lays:=s.lays++[l] },s.lays.length+1,0):=by unfold R5;rw[h]
theorem rU {ws:List Nat} (h:ws.length≠3):Gq ws=none:=by
 match ws with
 | []=>rfl
 | [_]=>rfl
 | [_,_]=>rfl
 | [_,_,_]=>exact absurd rfl h
 | _::_::_::_::_=>rfl
theorem rX [Q4] (v:Value) (ws:List Nat) (Yq:∀ x∈ws,x < 18446744073709551616) {w:World} {fr:List Q2} [hT:Z6 0 Lib.deBruijn64tab fr] (hr:Ya fr v ws.length 1 (Qi ws)) (H:Q0 w fr) :
  Calls Tryz.prog 86 #[v] w (ret fun r w'=>(Gq ws=none∧r = .tuple #[GU 0 (.slice none 0 0) 0 (.slice none 0 0),.int .i64 4]∧Q0 w' fr) ∨
   ∃ l vr vq,Gq ws=some l∧r = .tuple #[GU l.fixed vr l.record vq,.int .i64 0]∧Q0 w' (NL vr l.refs::NL vq l.recs::fr)):=by
 by_cases h3:ws.length=3
 ·obtain⟨x,y,z,rfl⟩:∃ x y z,ws=[x,y,z]:=by
   match ws,h3 with
   | [x,y,z],_=>exact⟨x,y,z,rfl⟩
  exact pD v x y z (Yq x (by simp)) (Yq y (by simp)) (Yq z (by simp)) hr H
 ·obtain⟨_,a,c,rfl,_⟩:=id hr;exact call (pC _ ws.length h3 ⟨a,c,rfl⟩ H) fun r w h => .inl ⟨rU h3,h.1,h.2⟩
theorem gr [Q4] (p:Nat) (s:CS) (v:Value) (ws:List Nat) (Yq:∀ x∈ws,x < 18446744073709551616) {w:World} {fr:List Q2} [hT:Z6 0 Lib.deBruijn64tab fr] (hr:Ya fr v ws.length 1 (Qi ws)) (H:Q0 w (QD p s::fr)) :
  Calls Tryz.prog 29 #[pp p,v] w (ret fun x w'=>x = .tuple #[.int .i64 ((R5 s ws).2.1:Nat),.int .i64 ((R5 s ws).2.2:Nat)]∧Q0 w' (QD p (R5 s ws).1::fr)):=by
 obtain⟨_,av,cv,rfl,_⟩:=id hr;refine QQ Tryz.func29 rfl (by kernel_rfl) ?_;refine Mc H ?_;refine Z4 H ?_;refine Jc rfl rfl (rX _ ws Yq hr.there H) ?_;clear H;rintro v w (⟨hd,rfl,H⟩|⟨l,vr,vq,hd,rfl,H⟩)
 ·rw[JP hd];refine YA H ?_;clear H;intro b6 w H;refine J5 H ?_;clear H;intro w H;refine FA H ?_;replace H:=Js [1] 1 H;exact Q3 (Jy H rfl fun w' H'=>⟨rfl,H'⟩)
 ·obtain⟨aa,ma,rfl⟩:=QI H (QJ _) (by decide);obtain⟨ab,mb,rfl⟩:=QI H.drop (QJ _) (by decide);rw[Fr hd];refine YA H ?_;clear H;intro b6 w H;refine J5 H ?_;clear H;intro w H;refine ZT H ?_;replace H:=Js [3,0,0,0] 0 H;obtain⟨q,mem,hw,hm,H⟩:=Y9 H;have hR:=pG hd;replace H:=Js [12,12,2,0,0,0,0,0,0,0,0,0,0,0] 0 H;obtain⟨D1,H,Y2,Vo⟩:=sls_rd H (QJ _) (by decide);obtain⟨D2,H,Zj,ZR⟩:=sls_rd H.swap (QJ _) (by decide);refine J1 H ?_;clear H;intro w H;refine Ja 0 ?_;refine Ja 1 ?_;refine Jf 2 ?_;refine Jl 3 [5] H ?_;refine Vw 4 [5] H rfl (Q9.none rfl) rfl (by repeat first|exact .nil _|apply QY.cons rfl) (by kernel_rfl) ?_;replace H:=Js [2,1,0] 0 H;refine Jo 5 H ?_;refine Jk rfl rfl (pH q.bp s.lays _ _ l hR ⟨Y2 _,(Zj _).there⟩ H) ?_;clear H;rintro v w (⟨Y0,rfl,H⟩|⟨Y0,rfl,H⟩)
  ·rw[if_pos Y0];refine IZ H ?_;refine Jx H ?_;replace H:=Js [3,3,0,2,2,2,2,2,2,2,2] 3 H;have H:=VJ hw hm H;exact Q3 (Jy H rfl fun w' H'=>⟨rfl,H'⟩)
  ·rw[if_neg (by omega)];refine IZ H ?_;refine Jx H ?_;replace H:=Js [3,3,0,2,2,2,2,2,2,2,2] 3 H;have H:=VJ (s:={ s with lays:=s.lays++[l] }) (pt hw hR Y0) ⟨hm.len,hm.head,hm.words⟩ H;exact Q3 (Jy H rfl fun w' H'=>⟨rfl,H'⟩)
@[reducible] def Dr (s:CS) (parent:Int) (b b2:Nat):CS:=
 { s with last:=s.last+1,par:=s.par++[(((s.last+1:Nat):Int),parent)],sps:=s.sps++[(((s.last+1:Nat):Int),b,⟨[],0,0⟩)],mns:=s.mns++[(((s.last+1:Nat):Int),b2,[])] }
theorem TA [Q4] (p:Nat) (s:CS) (parent:Int) (UD:s.last+1 < 1000000) {w:World} {fr:List Q2} (H:Q0 w (QD p s::fr)) :
  Calls Tryz.prog 30 #[pp p,.int .i64 parent] w (ret fun x w'=>(Ga s.par parent≠0∧x = .tuple #[.int .i64 0,.int .i64 (Ga s.par parent)]∧Q0 w' (QD p s::fr)) ∨
   (Ga s.par parent=0∧∃ b b2,x = .tuple #[.int .i64 ((s.last+1:Nat):Int),.int .i64 0]∧Q0 w' (QD p (Dr s parent b b2)::fr))):=by
 obtain⟨q,mem,hw,hm,H⟩:=Y9 H;refine QQ Tryz.func30 rfl (by kernel_rfl) ?_;refine Mc H ?_;refine VM H ?_;replace H:=Js [5,0,0,0,0,0,0,0,0,0,0] 0 H;refine Jc rfl rfl (fk q.trp s.last s.par parent (by omega) (fun r x hx=>(hw.par.2.2 r x hx).2) H) ?_;clear H;rintro v w (⟨he,rfl,H⟩|⟨he,rfl,H⟩)
 ·refine I9 H ?_;rw[show (((Ga s.par parent:Nat):Int) != 0)=true by simpa using he];refine My H ?_;replace H:=Js [1,1,1,1,1,0,0,0,0,0,0] 0 H;have H:=VJ hw hm H;exact Q3 (Jy H rfl fun w' H' => .inl ⟨he,rfl,H'⟩)
 ·have TB:s.par.length < 64:=by
   unfold Ga at he;split at he
   ·omega
   ·split at he
    ·omega
    ·have:=hw.par.1;omega
  have AY:∀ {α:Type} (l:List (Int×α)),l.map (·.1)=s.par.map (·.1)→((s.last+1:Nat):Int)∉l.map (·.1):=by
   intro α l hl VR;rw[hl] at VR;obtain⟨⟨r,x⟩,hx,h1⟩:=mem_map.1 VR;have h1:r=((s.last+1:Nat):Int):=h1;have:=(hw.par.2.2 r x hx).2;omega
  have SV:((s.last+1:Nat):Int)∉(s.sps.map Vt).map (·.1):=AY _ (by rw[map_map];exact hw.skeys);have Sg:((s.last+1:Nat):Int)∉(s.mns.map VU).map (·.1):=AY _ (by rw[map_map];exact hw.mkeys);refine UA H ?_;refine J1 H ?_;clear H;intro w H;refine YN H ?_;refine Jl 3 [14] H ?_;refine Me H ?_;refine Jl 8 [10,14] H ?_;refine Ja 9 ?_;refine Jo 10 H ?_;refine Jk rfl rfl (Sq q.sp (s.last+1) (by omega) H) ?_;clear H;rintro v w ⟨b,rfl,H⟩;refine Ja 11 ?_;refine Ww H ?_;refine Jo 14 H ?_;refine Ry (ek:=ki .i64) (vv:=Qz) (v:=b) (key:=((s.last+1:Nat):Int)) H rfl rfl rfl Vp rfl ?_;clear H;intro w H;rw[Wh SV,show s.sps.map Vt++[(((s.last+1:Nat):Int),b)]=(s.sps++[(((s.last+1:Nat):Int),b,(⟨[],0,0⟩:QO))]).map Vt by simp] at H;refine Jx H ?_;refine J1 H ?_;clear H;intro w H;refine F3 H ?_;refine Ja 4 ?_;refine Jo 5 H ?_;refine Jk rfl rfl (Su H) ?_;clear H;rintro v w ⟨b2,rfl,H⟩
  refine Jo 6 H ?_;refine Ry (ek:=ki .i64) (vv:=Qz) (v:=b2) (key:=((s.last+1:Nat):Int)) H rfl rfl rfl Vp rfl ?_;clear H;intro w H;rw[Wh Sg,show s.mns.map VU++[(((s.last+1:Nat):Int),b2)]=(s.mns++[(((s.last+1:Nat):Int),b2,([]:List Nat))]).map VU by simp] at H;refine Jx H ?_;refine Vj H ?_;replace H:=Js [1,9,2,2,2,2,2,1,1,1,1,1,0] 0 H;have H:=(Q0.pick (R:=Vx q.sp) (x:=(((s.last+1:Nat):Int),b,(⟨[],0,0⟩:QO))) (g1:=s.sps) (g2:=[]) rfl).2 (by rw[append_nil];exact H);replace H:=Js [11,10,0,0,0,0,0,0,0,0,0,0] 0 H;have H:=(Q0.pick (R:=VV) (x:=(((s.last+1:Nat):Int),b2,([]:List Nat))) (g1:=s.mns) (g2:=[]) rfl).2 (by rw[append_nil];exact H);replace H:=Js [2,2,2,2,2,2,2,2,1,1,0] 0 H;have H:=VJ (s:=Dr s parent b b2) (pq hw TB UD) ⟨hm.len,hm.head,hm.words⟩ H;exact Q3 (Jy H rfl fun w' H' => .inr ⟨he,b,b2,rfl,H'⟩)
theorem gu [Q4] (n size slots:Nat) (h1:1≤n) (h2:n≤63) (h3:1≤size) (h4:size≤1024) (h5:1≤slots) (h6:slots≤63) {w:World} {fr:List Q2} (H:Q0 w fr) :
  Calls Tryz.prog 28 #[.int .i64 n,.int .i64 size,.int .i64 slots] w (ret fun v w'=>∃ p,v = .tuple #[pp p,.int .i64 0] ∧
   Q0 w' (QD p ⟨size,List.replicate n 0,[],List.replicate slots ⟨0,none⟩,0,[],[],[],[]⟩::fr)):=by
 refine QQ Tryz.func28 rfl (by kernel_rfl) ?_;refine WV H ?_;refine Jc rfl rfl (p7 n size h1 (by omega) h3 h4 H) ?_;clear H;rintro v w ⟨sp,rfl,H⟩;refine UA H ?_;refine Z4 H ?_;refine Jc rfl rfl (qo slots h5 h6 H) ?_;clear H;rintro v w ⟨tp,rfl,H⟩;refine UA H ?_;refine Uv H ?_;refine Jc rfl rfl (pF H) ?_;clear H;rintro v w ⟨bp,rfl,H⟩;refine J0 H ?_;refine J9 H ?_;refine Jc rfl rfl (pw sp bp H) ?_;clear H;rintro v w ⟨ip,rfl,H⟩;refine U2 H ?_;refine Wr H ?_;refine Jc rfl rfl (pf H) ?_;clear H;rintro v w ⟨trp,rfl,H⟩;refine Jc rfl rfl (pc H) ?_;clear H;rintro v w ⟨rp,rfl,H⟩;refine Q5 rfl (AS Qz (ki .i64) H rfl ?_);clear H;intro sm w H;refine Q5 rfl (AS Qz (ki .i64) H rfl ?_);clear H;intro mm w H;refine W6 H ?_;clear H;intro b47 w H;refine J4 H ?_;have R6:∀ {i:Nat} {t:QW},(List.replicate slots (⟨0,none⟩:QW))[i]? = some t→t=⟨0,none⟩:=fun h=>eq_of_mem_replicate (mem_of_getElem? h);have rK:∀ {i r:Nat},(List.replicate n 0)[i]? = some r→r=0:=fun h=>eq_of_mem_replicate (mem_of_getElem? h)
 have hw:WF ⟨size,List.replicate n 0,[],List.replicate slots ⟨0,none⟩,0,[],[],[],[]⟩:=by
  refine⟨⟨h3,h4⟩,by simp;omega,by simp;omega,by simp,fun i t h=>?_,fun i g e h=>?_,fun i j g h e f _ hi _=>?_,by simp,rfl,rfl,by simp,by simp,fun c r h h0=>?_,by simp⟩
  ·have:=R6 h;subst this;simp
  ·have:=R6 h;cases this
  ·have:=R6 hi;cases this
  ·exact absurd (rK h) h0
 have hm:Y8 ⟨size,List.replicate n 0,[],List.replicate slots ⟨0,none⟩,0,[],[],[],[]⟩ (List.replicate (n*size) 0):=by
  refine⟨by simp,fun i g e h=>?_,fun i g e h=>?_⟩
  ·have:=R6 h;cases this
  ·have:=R6 h;cases this
 have H:Q0 w (star (([]:List (Int×Nat×QO)).map (Vx sp))::_):=Q0.star.2 H;have H:Q0 w (star (([]:List (Int×Nat×List Nat)).map VV)::_):=Q0.star.2 H;replace H:=Js [2,6,6,7,6,5,4,3,1,1,0] 0 H;have H:=VJ (s:=⟨size,List.replicate n 0,[],List.replicate slots ⟨0,none⟩,0,[],[],[],[]⟩) (q:=⟨sp,bp,ip,tp,trp,rp,sm,mm⟩) hw hm H;exact Q3 (Jy H rfl fun w' H'=>⟨_,rfl,H'⟩)
def X9 (size:Nat) (x:Nat×Nat) (e:Q8):Prop:=(x.2=1∧x.1*size≤e.addr∧Qa e≤(x.1+1)*size)∨(2≤x.2∧e.addr=x.1*size∧x.2=e.ws.length / size+1)
def Yi (s:CS):Prop:=∀ (k g:Nat) (e:Q8),s.tab[k]? = some ⟨g,some e⟩→∃ x∈s.sps,x.1=e.region∧∃ y∈x.2.2.parts,X9 s.size y e
theorem X9.alike {size:Nat} {x:Nat×Nat} {e e':Q8} (h:X9 size x e) (h1:e'.addr=e.addr) (h2:e'.ws.length=e.ws.length):X9 size x e':=by
 unfold X9 Qa at *;rw[h1,h2];exact h
theorem rR {size:Nat} (hs:1≤size) {x:Nat×Nat} {e:Q8} (h:X9 size x e):x.1*size≤e.addr∧Qa e≤(x.1+x.2)*size:=by
 rcases h with ⟨h1,h2,h3⟩|⟨h1,h2,h3⟩
 ·rw[h1];exact⟨h2,h3⟩
 ·refine⟨by omega,?_⟩;have h4:e.ws.length < (e.ws.length / size+1)*size:=Nat.lt_mul_of_div_lt (Nat.lt_succ_self _) (by omega);rw[Nat.add_mul,h3];unfold Qa;omega
theorem rW {s:CS} (hP:Yi s) {i g0 r q:Nat} {S S':QO} {p1 p2:List (Int×Nat×QO)} (hs:s.sps=p1++((r:Int),q,S)::p2) {e:Q8} (UF:e.region=r) {own' mem mem':List Nat} (Ve:1≤s.size) (hS:XO s.size s.own r S)
  (al:KM s.size s.own mem r S (e.ws.length+1) own' mem' S' e.addr) {s':CS} (h1:s'.size=s.size) (h2:s'.tab=s.tab.set i ⟨g0+1,some e⟩) (h3:s'.sps=p1++((r:Int),q,S')::p2):Yi s':=by
 have Xr:(∀ y∈S.parts,y∈S'.parts)∧∃ y∈S'.parts,X9 s.size y e:=by
  generalize hea:e.addr=ad at al;cases al with
  | room hn=>
   have A7:S.fin≠0:=by omega
   obtain⟨c,Zn,UC,Ku⟩:=hS.fin A7;refine⟨fun y hy=>hy,(c,1),Ku,.inl ⟨rfl,?_,?_⟩⟩
   ·show c*s.size≤e.addr;omega
   ·show Qa e≤(c+1)*s.size;unfold Qa;omega
  | @one a ha hf hn=>
   refine⟨fun y hy=>mem_append.2 (.inl hy),(a,1),by simp,.inl ⟨rfl,?_,?_⟩⟩
   ·show a*s.size≤e.addr;omega
   ·show Qa e≤(a+1)*s.size;have:(a+1)*s.size=a*s.size+s.size:=Nat.succ_mul _ _;unfold Qa;omega
  | @run a k hk ha hf hn Gp=>
   refine⟨fun y hy=>mem_append.2 (.inl hy),(a,k),by simp,.inr ⟨hk,hea,?_⟩⟩;show k=e.ws.length / s.size+1;have h4:(k - 1)*s.size≤e.ws.length:=by omega
   have h5:k - 1≤e.ws.length / s.size:=(Nat.le_div_iff_mul_le (by omega)).2 h4;have h6:e.ws.length / s.size < k:=(Nat.div_lt_iff_lt_mul (by omega)).2 (by omega);omega
 intro j n f hj;rw[h2] at hj;rw[h1,h3]
 rcases VE hj with ⟨rfl,u1,_⟩|⟨h0,hj⟩
 ·injection u1 with _ u1
  injection u1 with u1
  subst u1;obtain⟨y,y1,y2⟩:=Xr.2;exact⟨((r:Int),q,S'),by simp,UF.symm,y,y1,y2⟩
 ·obtain⟨x,x1,x2,y,y1,y2⟩:=hP j n f hj;rw[hs] at x1
  rcases Uz x1 with rfl|x1
  ·exact⟨((r:Int),q,S'),by simp,x2,y,Xr.1 y y1,y2⟩
  ·exact⟨x,Rj x1,x2,y,y1,y2⟩
structure Yt (s s':CS):Prop where
 par:s'.par=s.par
 sps:s'.sps=s.sps
 size:s'.size=s.size
 tab:∀ (k g:Nat) (e':Q8),s'.tab[k]? = some ⟨g,some e'⟩→∃ e,s.tab[k]? = some ⟨g,some e⟩∧e'.region=e.region∧e'.addr=e.addr∧e'.ws.length=e.ws.length
theorem Yt.refl (s:CS):Yt s s:=⟨rfl,rfl,rfl,fun k g e h=>⟨e,h,rfl,rfl,rfl⟩⟩
theorem Yt.part {s s':CS} (h:Yt s s') (hP:Yi s):Yi s':=by
 intro k g e' hk;obtain⟨e,h1,h2,h3,h4⟩:=h.tab k g e' hk;obtain⟨x,x1,x2,y,y1,y2⟩:=hP k g e h1;rw[h.sps,h.size,h2];exact⟨x,x1,x2,y,y1,y2.alike h3 h4⟩
theorem Yt.set {s:CS} {k g:Nat} {e e':Q8} (hk:s.tab[k]? = some ⟨g,some e⟩) (a:e'.region=e.region∧e'.addr=e.addr∧e'.ws.length=e.ws.length) (R:List ((Int×Int)×Int)):Yt s { Y3 s k g e' with rem:=R }:=by
 refine⟨rfl,rfl,rfl,fun j n f hj=>?_⟩;have hj:(s.tab.set k ⟨g,some e'⟩)[j]? = some ⟨n,some f⟩:=hj
 rcases VE hj with ⟨rfl,h1,_⟩|⟨_,h1⟩
 ·injection h1 with h1 h2
  injection h2 with h2
  subst h1 h2;exact⟨e,hk,a⟩
 ·exact⟨f,h1,rfl,rfl,rfl⟩
open Go.SL Go.Lib
theorem JS [Q4] {E b:Nat} {post:List Value} {fr:List Q2}:∀ (new old pre:List Value) {w:World},old.length=new.length→Q0 w (pts b (row E (pre++old++post))::fr)→Q0 (w.setCells b pre.length new) (pts b (row E (pre++new++post))::fr)
 | [],old,pre,w,hl,H=>by
  obtain rfl:old=[]:=length_eq_zero_iff.1 hl;exact H
 | v::r,old,pre,w,hl,H=>by
  obtain⟨o,t,rfl⟩:∃ o t,old=o::t:=by
   cases old with
   | nil=>cases hl
   | cons o t=>exact⟨o,t,rfl⟩
  have hb:=H.pts
  have H1:Q0 (w.setCell ⟨b,pre.length,none⟩ v) (pts b (row E (pre++v::t++post))::fr):=by
   refine H.set ?_ ?_
   ·show (w.heap.modify b _)[b]? = _;rw[Array.getElem?_modify,if_pos rfl,hb];simp only[Option.map_some,row];congr 2;simp
   ·intro c hc;show (w.heap.modify b _)[c]? = _;rw[Array.getElem?_modify,if_neg (Ne.symm hc)]
  rw[show pre++v::t++post=(pre++[v])++t++post by simp] at H1;have h2:=JS r t (pre++[v]) (by simpa using hl) H1;rw[length_append] at h2;rw[show pre++v::r++post=(pre++[v])++r++post by simp];exact h2
theorem rA [Q4] (v:Value) (l:List Nat) (x i:Nat) (hi:i < l.length) (hl:l.length≤100000) (b:Nat) {w:World} {fr:List Q2} (H:Q0 w (NL v l::pts b (row 3 [.int .i64 x])::fr)) :
  Calls Tryz.prog 154 #[v,.int .i64 i,.slice (some ⟨b,0,none⟩) 1 1] w (ret fun v w'=>Q0 w' (NL v (l.take i++x::l.drop i)::fr)):=by
 have Z3:(l.take i++x::l.drop i).length=l.length+1:=by simp;omega
 have QM:(QH l).length=l.length:=by rw[QJ];omega
 have gw:∀ v∈QH l,v.oneCell'=true:=fun v hv=>by obtain⟨y,_,rfl⟩:=mem_map.1 hv;rfl
 have gz:∀ v∈[Value.int .i64 (x:Int)],v.oneCell'=true:=fun v hv=>by rw[mem_singleton] at hv;subst hv;rfl
 rcases XB H with ⟨_,h0,_⟩|⟨b',n,cap,s,rfl,e3,e4,e5,H2⟩
 ·rw[h0] at QM;cases l with
  | nil=>cases hi
  | cons a t=>cases QM
 obtain rfl:n=l.length:=by omega
 have hb:=H2.pts;have hx:=H2.swap.pts;have QB:b'≠b:=Q0.ne H2
 have hY:∀ j v,[Value.int .i64 (x:Int)][j]? = some v→w.cell? ⟨b,0+j,none⟩=some v:=fun j v hj=>by
  rw[Nat.zero_add];exact Ua hx hj
 have TC:∀ j v,(QH l)[j]? = some v→w.cell? ⟨b',0+j,none⟩=some v:=fun j v hj=>by
  rw[Nat.zero_add];refine Ua hb ?_;rw[getElem?_append_left (List.getElem?_eq_some_iff.1 hj).1];exact hj
 have i6:∀ t:List Value,(QH l).take i++[Value.int .i64 (x:Int)]++((QH l).drop i++t)=QH (l.take i++x::l.drop i)++t:=by
  intro t;unfold QH;simp[map_take,map_drop]
 by_cases RM:l.length+1≤cap
 ·obtain⟨s0,s',rfl⟩:∃ s0 s',s=s0::s':=by
   cases s with
   | nil=>simp at e5;omega
   | cons s0 s'=>exact⟨s0,s',rfl⟩
  refine(Any2.slices_Insert_int_shift Tryz.laysIns b' 0 l.length cap i b 0 1 1 (QH l) [.int .i64 x] w hi (by omega) RM e4.2 (Ne.symm QB) QM rfl TC ?_ (fun j _=>Cx hb) hY gw gz 3 3 1 (QH l++s0::s').length ?_ ?_ ?_ (Cx hx) (Cx hx)).mono ?_
  ·intro j hj;rw[Nat.zero_add,Ua hb (getElem?_eq_getElem (by simp;omega))];rfl
  ·simp[World.shape?,hx]
  ·simp[World.shape?,hb]
  ·simp
  ·rintro e w' ⟨rfl,rfl⟩
   have H3:Q0 w.drew (pts b' (row 3 ((QH l).take (i+1)++((QH l).drop (i+1)++[s0])++s'))::pts b (row 3 [.int .i64 x])::fr):=by
    rw[show (QH l).take (i+1)++((QH l).drop (i+1)++[s0])++s'=QH l++s0::s' by rw[← append_assoc,take_append_drop];simp];exact H2.heap rfl
   have H4:=JS ((QH l).drop i) _ _ (by simp;omega) H3;rw[show ((QH l).take (i+1)).length=0+(i+1) by rw[length_take];omega] at H4
   have TD:(QH l).take (i+1)=(QH l).take i++[(QH l)[i]'(by omega)]:=by
    rw[take_add_one,getElem?_eq_getElem (by omega)];rfl
   rw[show (QH l).take (i+1)++(QH l).drop i++s'=(QH l).take i++[(QH l)[i]'(by omega)]++((QH l).drop i++s') by rw[TD];simp] at H4;have H5:=JS [Value.int .i64 (x:Int)] [(QH l)[i]'(by omega)] ((QH l).take i) rfl H4;rw[show ((QH l).take i).length=0+i by rw[length_take];omega,i6] at H5;refine Q0.drop (Q0.swap (GI (by rw[QJ,Z3]) ⟨RM,e4.2⟩ ?_ H5));simp at e5 ⊢;omega
 ·obtain rfl:cap=l.length:=by omega
  refine(Any2.slices_Insert_int_grow Tryz.laysIns b' 0 l.length l.length i b 0 1 1 (QH l) [.int .i64 x] w hi (by omega) (Nat.le_refl _) (by omega) (by omega) QM rfl TC hY gw gz).mono ?_;rintro e w' ⟨rfl,rfl⟩;generalize hG:grownCap w (l.length+1) l.length _=G;have rB:l.length+1≤G:=by rw[← hG];exact grownCap_ge w _ _ _
  have TE:G≤9223372036854775807:=by rw[← hG];exact grownCap_le_maxLen w _ _ _ (by unfold maxLen;omega)
  have H3:=H2.new (.cells (((QH l).take i).toArray++Builtin.zeroCells (Value.int .i64 0).cells (l.length+1 - i)++Builtin.zeroCells (Value.int .i64 0).cells (G - (l.length+1))) 3 (0,0));have Rz:∀ k,(Builtin.zeroCells (Value.int .i64 0).cells k).toList.length=k:=fun k=>by rw[Array.length_toList,size_zeroCells];exact Nat.mul_one k
  obtain⟨z0,zt,hz⟩:∃ z0 zt,(Builtin.zeroCells (Value.int .i64 0).cells (l.length+1 - i)).toList=z0::zt:=by
   cases hh:(Builtin.zeroCells (Value.int .i64 0).cells (l.length+1 - i)).toList with
   | nil=>have:=Rz (l.length+1 - i);rw[hh] at this;simp at this;omega
   | cons z0 zt=>exact⟨z0,zt,rfl⟩
  have hzt:zt.length=l.length - i:=by
   have:=Rz (l.length+1 - i);rw[hz,length_cons] at this;omega
  have H4:Q0 (w.alloc (.cells (((QH l).take i).toArray++Builtin.zeroCells (Value.int .i64 0).cells (l.length+1 - i)++Builtin.zeroCells (Value.int .i64 0).cells (G - (l.length+1))) 3 (0,0))).drew (pts w.heap.size (row 3 ((QH l).take i++[z0]++(zt++(Builtin.zeroCells (Value.int .i64 0).cells (G - (l.length+1))).toList)))::fr):=by
   have h:=(Q0.swap H3).drop;have h:=(Q0.swap h).drop;refine(Q0.head h fun hh x=>?_).heap rfl
   have e:((QH l).take i).toArray++Builtin.zeroCells (Value.int .i64 0).cells (l.length+1 - i)++Builtin.zeroCells (Value.int .i64 0).cells (G - (l.length+1))=((QH l).take i++[z0]++(zt++(Builtin.zeroCells (Value.int .i64 0).cells (G - (l.length+1))).toList)).toArray:=by
    apply Array.ext';simp[hz]
   rw[e] at x;exact x
  have H5:=JS [Value.int .i64 (x:Int)] [z0] ((QH l).take i) rfl H4;rw[show ((QH l).take i).length=i by rw[length_take];omega] at H5
  have H6:Q0 ((w.alloc (.cells (((QH l).take i).toArray++Builtin.zeroCells (Value.int .i64 0).cells (l.length+1 - i)++Builtin.zeroCells (Value.int .i64 0).cells (G - (l.length+1))) 3 (0,0))).drew.setCells w.heap.size i [Value.int .i64 (x:Int)]).drew (pts w.heap.size (row 3 (((QH l).take i++[Value.int .i64 (x:Int)])++zt++(Builtin.zeroCells (Value.int .i64 0).cells (G - (l.length+1))).toList))::fr):=by
   rw[show ((QH l).take i++[Value.int .i64 (x:Int)])++zt++(Builtin.zeroCells (Value.int .i64 0).cells (G - (l.length+1))).toList=(QH l).take i++[Value.int .i64 (x:Int)]++(zt++(Builtin.zeroCells (Value.int .i64 0).cells (G - (l.length+1))).toList) by simp];exact H5.heap rfl
  have H7:=JS ((QH l).drop i) zt _ (by simp;omega) H6;rw[show ((QH l).take i++[Value.int .i64 (x:Int)]).length=i+1 by simp;omega,show (QH l).take i++[Value.int .i64 (x:Int)]++(QH l).drop i++(Builtin.zeroCells (Value.int .i64 0).cells (G - (l.length+1))).toList=(QH l).take i++[Value.int .i64 (x:Int)]++((QH l).drop i++(Builtin.zeroCells (Value.int .i64 0).cells (G - (l.length+1))).toList) by simp,i6] at H7;exact GI (by rw[QJ,Z3]) ⟨rB,TE⟩ (by rw[Rz];omega) H7
def Za (l:List Nat) (x:Nat):List Nat:=l.take (GS l x)++x::l.drop (GS l x)
theorem rC (l:List Nat) (x:Nat):GS l x≤l.length:=countP_le_length
theorem rD {l:List Nat} {x:Nat} (h:∀ a∈l,a < x):Za l x=l++[x]:=by
 unfold Za;rw[gZ h,take_length,drop_length]
theorem OQ {l:List Nat} {x y:Nat}:y∈Za l x↔y=x∨y∈l:=by
 unfold Za;rw[mem_append,mem_cons];have h:y∈l↔y∈l.take (GS l x)∨y∈l.drop (GS l x):=by rw[← mem_append,take_append_drop]
 rw[h];constructor
 ·rintro(h|h|h)
  ·exact .inr (.inl h)
  ·exact .inl h
  ·exact .inr (.inr h)
 ·rintro(h|h|h)
  ·exact .inr (.inl h)
  ·exact .inl h
  ·exact .inr (.inr h)
theorem rE {a:Nat} {l:List Nat} {x:Nat} (h:a < x):Za (a::l) x=a::Za l x:=by
 unfold Za
 have:GS (a::l) x=GS l x+1:=by
  unfold GS;rw[countP_cons_of_pos (by simpa using h)]
 rw[this,take_succ_cons,drop_succ_cons];rfl
theorem rF {a:Nat} {l:List Nat} {x:Nat} (hs:(a::l).Pairwise (· < ·)) (h:x < a):Za (a::l) x=x::a::l:=by
 unfold Za
 have:GS (a::l) x=0:=by
  unfold GS;rw[countP_eq_zero];intro y hy;rw[pairwise_cons] at hs
  rcases mem_cons.1 hy with rfl|hy
  ·simpa using Nat.le_of_lt h
  ·have:=hs.1 y hy;simp;omega
 rw[this];rfl
theorem OV:∀ {l:List Nat} {x:Nat},l.Pairwise (· < ·)→x∉l→(Za l x).Pairwise (· < ·)
 | [],x,_,_=>by unfold Za;simp
 | a::l,x,hs,hx=>by
  rw[mem_cons,not_or] at hx;by_cases h:a < x
  ·rw[rE h,pairwise_cons];rw[pairwise_cons] at hs;refine⟨fun y hy=>?_,OV hs.2 hx.2⟩
   rcases OQ.1 hy with rfl|hy
   ·exact h
   ·exact hs.1 y hy
  ·have h:x < a:=by omega
   rw[rF hs h,pairwise_cons];refine⟨fun y hy=>?_,hs⟩
   rcases mem_cons.1 hy with rfl|hy
   ·exact h
   ·rw[pairwise_cons] at hs;have:=hs.1 y hy;omega
theorem i7 [Q4] (p:Nat) (l:List Nat) (x:Nat) (hs:l.Pairwise (· < ·)) (hl:l.length < 100000) (hn:x∉l) {w:World} {fr:List Q2} (H:Q0 w (VQ p l::fr)) :
  Calls Tryz.prog 93 #[pp p,.int .i64 x] w (ret fun v w'=>v = .bool true∧Q0 w' (VQ p (Za l x)::fr)):=by
 by_cases he:GS l x=l.length
 ·have hx:∀ a∈l,a < x:=by
   have:l.countP (· < x)=l.length:=he;rw[countP_eq_length] at this;intro a ha;simpa using this a ha
  rw[rD hx];exact qZ p l x hs (by omega) hx H
 obtain⟨a,c,H⟩:=CL H;have VO:=rC l x;refine QQ Tryz.func93 rfl (by kernel_rfl) ?_;refine DO H ?_;obtain⟨D1,H,Y2,Vo⟩:=sls_rd H.swap (QJ _) (by decide);refine Jc rfl rfl (Fa _ l (by omega) hs x (Y2 _) H) ?_;clear H;rintro v w ⟨rfl,H⟩;replace H:=Vo _ _ H;rw[decide_eq_false hn];refine Av H ?_;refine J6 H ?_;refine Qt (fun ms σ w=>ms=[]∧σ 6 = .bool false∧Q0 w (VQ p (Za l x)::fr)) ?_ ?_
 ·refine YY rfl ?_;refine Es H ?_;refine ZS H ?_;refine Uw H ?_;clear H;intro b27 w H;replace H:=Js [1,0,0] 0 H;refine Jc rfl rfl (rA _ l x (GS l x) (by omega) (by omega) _ H) ?_;clear H;intro v w H;obtain⟨a28,m28,c28,rfl⟩:=V8 H;refine XH H ?_;clear H;intro w H;refine J2 H ?_;exact⟨rfl,rfl,rfl,A8 H.swap⟩
 ·clear H;rintro ms σ w ⟨rfl,g6,H⟩;rw[Q1 g6];refine Vj H ?_;exact Q3 (Jy H rfl fun w' H'=>⟨rfl,H'⟩)
end Go.Proofs.YtmjdnljneifpcaaGreatDoor
