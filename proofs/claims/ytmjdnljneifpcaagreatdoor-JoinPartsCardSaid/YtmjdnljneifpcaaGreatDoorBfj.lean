/- Cells: what is proved on the way: every input of the statement; no condition. Texts joined: TabD CelA CelB CelC CelD CelE CelF CelG CelH PrtP SrtJ. -/
import Derived.Test.YtmjdnljneifpcaaGreatDoorBfe
import Derived.Test.YtmjdnljneifpcaaGreatDoorBfi
import Derived.Test.YtmjdnljneifpcaaGreatDoorBfh
set_option linter.unusedVariables false
set_option linter.unusedSimpArgs false
set_option linter.unusedSectionVars false
namespace Go.Proofs.YtmjdnljneifpcaaGreatDoor
open List
open Go.SL
theorem OA [Q4] (p:Nat) (ts:List QW) (k n:Nat) (e:Q9) (hk:ts[k]? = some ⟨n,some e⟩) {w:World} {fr:List Q2} (H:Q0 w (Qr p ts::fr)) :
  Calls Tryz.prog 110 #[pp p,.int .i64 k] w (ret fun v w'=>v = .tuple #[Xz k n,.bool true]∧Q0 w' (Qr p ts::fr)):=by
 obtain⟨b,c,s,u,x,QK,hc,H,QU⟩:=BP H;have hb:=QK.bits.le;have VC:k < ts.length:=(List.getElem?_eq_some_iff.1 hk).1;have c1:(ts.flatMap Y9++s)[k*6+1]? = some (.bool true):=Ks ZH hk rfl;have c0:(ts.flatMap Y9++s)[k*6+0]? = some (.int .i64 n):=Ks ZH hk rfl;have ei:0+((k:Nat):Int).toNat*6=k*6:=by simp
 refine QQ Tryz.func110 rfl (by kernel_rfl) ?_;refine YN H ?_;intro b4 w H;refine J0 H ?_;refine F5 H ?_;refine KO H ?_;rw[show decide ((k:Int) < 0)=false from decide_eq_false (by omega)];refine ZT H ?_;refine Mm H ?_;rw[show decide ((k:Int)≥(ts.length:Int))=false from decide_eq_false (by omega)];refine CW H ?_;refine Qe rfl rfl rfl (X4 rfl rfl (by omega) (by omega) rfl ?_);rw[ei];refine F3 H ?_;refine Qe rfl rfl rfl (QC H rfl c1 rfl ?_);refine WQ H ?_;refine FI H ?_;refine Jd ?_;rw[ei];refine Dh H ?_;refine Q5 rfl (QC H rfl c0 rfl ?_);refine NC H ?_;intro w H;refine J0 H ?_;exact Q3 (Jz H (fun w' H' => .cellN H' rfl (by repeat first|exact .nil _|apply QY.cons rfl) (.tmp .nil)) fun w' H'=>⟨rfl,QU _ _ ts x rfl rfl QK H'.drop⟩)
theorem rF [Q4] (p:Nat) (ts:List QW) (e:Q9) {w:World} {fr:List Q2} [hT:Z5 0 Lib.deBruijn64tab fr] (H:Q0 w (Qr p ts::fr)) :
  Calls Tryz.prog 91 #[pp p,.agg (YR e).toArray] w (ret fun v w'=>(∃ k n,ts[k]? = some ⟨n,none⟩∧n≤254∧(∀ j t,j < k→ts[j]? = some t→busy t=true)∧v = .tuple #[Xz k (n+1),.int .i64 0]∧Q0 w' (Qr p (ts.set k ⟨n+1,some e⟩)::fr)) ∨
   ((∀ t∈ts,busy t=true)∧v = .tuple #[Xz 0 0,.int .i64 12]∧Q0 w' (Qr p ts::fr))):=by
 obtain⟨b,c,s,u,x,QK,hc,H,QU⟩:=BP H;have hb:=QK.bits.le;refine QQ Tryz.func91 rfl (by kernel_rfl) ?_;refine J8 H ?_;intro b3 w H;refine VO H ?_;intro b4 w H;refine FE H ?_;refine G6 H ?_;replace H:=Js [4,0,0,0,0] 0 H;refine Jc rfl rfl (Sb u ts.length x 0 _ QK.bits (by omega) H) ?_;rintro v w ⟨hF,H⟩
 rcases hF with ⟨k,rfl,_,hk,BE,Z3⟩|⟨rfl,Z3⟩
 ·have ht:=getElem?_eq_getElem hk;have TU:∀ j t,j < k→ts[j]? = some t→busy t=true:=fun j t hj rH=>by rw[← QK.bit j t rH];exact Z3 j (Nat.zero_le _) hj
  generalize ts[k]=t at ht;have GR:=QK.bit k t ht;have hg:=QK.gen k t ht;rw[BE] at GR;obtain⟨n,en⟩:=t
  have rI:en=none∧n≤254:=by
   unfold busy at GR;cases en with
   | none=>simp at GR hg;exact⟨rfl,by omega⟩
   | some y=>simp at GR
  obtain⟨rfl,hn⟩:=rI;have ei:0+((k:Nat):Int).toNat*6=k*6:=by simp
  have Qw:=Xx ZH ts;refine UI H ?_;refine Vb H ?_;refine Jc rfl rfl (SO u _ x k true QK.bits hk H) ?_;rintro v w ⟨rfl,H⟩;refine NX H ?_;refine Jd ?_;rw[ei];refine J0 H ?_;have c0:(ts.flatMap Y9++s)[k*6+0]? = some (.int .i64 n):=Ks ZH ht rfl;replace H:=Js [4,0,0,0,0] 0 H;refine NB H ?_;refine Q5 rfl (QC H rfl c0 rfl ?_);refine ZT H ?_;refine Dh H ?_;rw[Qh (x:=((n:Nat):Int)+1) (by omega) (by omega),show ((n:Nat):Int)+1=((n+1:Nat):Int) by omega];refine Q5 rfl (G1 H rfl rfl inferInstance rfl (by rw[length_append,Qw];omega) rfl ?_);intro w H;rw[fY (x':=⟨n+1,none⟩) ZH ht (by omega) rfl] at H;refine J2 H ?_;have Nx:(ts.set k ⟨n+1,none⟩)[k]? = some (⟨n+1,none⟩:QW):=getElem?_set_self hk;have OB:=Xx ZH (ts.set k ⟨n+1,none⟩);rw[length_set] at OB;refine J1 H ?_;intro w H;refine DB H ?_;refine Vz 2 [8] H rfl (Q8.none rfl) rfl (by repeat first|exact .nil _|apply QY.cons rfl) (by kernel_rfl) ?_;refine Ja 3 ?_;refine Jf 4 ?_;refine Jo 5 H ?_;refine G1 H rfl rfl inferInstance rfl (by rw[length_append,OB];omega) rfl ?_;intro w H;rw[fY (x':=⟨n+1,some ⟨0,0,false,false,0,0,[]⟩⟩) ZH Nx (by omega) rfl,set_set] at H;have Fo:(ts.set k ⟨n+1,some ⟨0,0,false,false,0,0,[]⟩⟩)[k]? = some (⟨n+1,some ⟨0,0,false,false,0,0,[]⟩⟩:QW):=getElem?_set_self hk;have i6:=Xx ZH (ts.set k ⟨n+1,some ⟨0,0,false,false,0,0,[]⟩⟩);rw[length_set] at i6;refine Ja 6 ?_;refine Jf 7 ?_;refine Jo 8 H ?_;refine U8 (vs:=YR e) H rfl rfl inferInstance rfl rfl (by rw[length_append,i6];omega) rfl ?_;intro w H;rw[Ma (x':=⟨n+1,some e⟩) ZH Fo (by simp) rfl,set_set] at H;refine Jx H ?_;have Fp:(ts.set k ⟨n+1,some e⟩)[k]? = some (⟨n+1,some e⟩:QW):=getElem?_set_self hk;have c3:((ts.set k ⟨n+1,some e⟩).flatMap Y9++s)[k*6+0]? = some (.int .i64 ((n+1:Nat):Int)):=Ks ZH Fp rfl;refine YJ H ?_;refine Dh H ?_;refine Q5 rfl (QC H rfl c3 rfl ?_);refine NC H ?_;intro w H;refine J0 H ?_;replace H:=Js [2,3,0,0] 1 H;have rJ:(n == 255)=false:=by simp;omega
  have Sf:XU (ts.set k ⟨n+1,some e⟩) (G8 x k true):=by
   refine⟨by rw[length_set];exact QK.bits.set hk,fun i v hv=>?_,fun i v hv=>?_⟩
   ·rw[Dj]
    rcases VE hv with ⟨rfl,rfl,_⟩|⟨QA,hv⟩
    ·rw[if_pos rfl];rfl
    ·rw[if_neg QA];exact QK.bit _ _ hv
   ·rcases VE hv with ⟨rfl,rfl,_⟩|⟨_,hv⟩
    ·show n+1≤255;omega
    ·exact QK.gen _ _ hv
  exact Q3 (Jz H (fun w' H' => .cellN H' rfl (by repeat first|exact .nil _|apply QY.cons rfl) (.tmp .nil)) fun w' H' => .inl ⟨k,n,ht,hn,TU,rfl,QU _ _ (ts.set k ⟨n+1,some e⟩) (G8 x k true) (by simp) (OW ht (by simp[rJ])) Sf H'.drop⟩)
 ·refine FY H ?_;refine ID H ?_;intro w H;refine J0 H ?_;replace H:=Js [1,2,2,0] 1 H;refine Q3 (Jz H (fun w' H' => .cellN H' rfl (by repeat first|exact .nil _|apply QY.cons rfl) (.tmp .nil)) fun w' H' => .inr ⟨fun t ht=>?_,rfl,QU _ _ ts x rfl rfl QK H'.drop⟩);obtain⟨j,hj⟩:=getElem?_of_mem ht;rw[← QK.bit j t hj];exact Z3 j (Nat.zero_le _) (List.getElem?_eq_some_iff.1 hj).1
structure Xk where
 sp:Nat
 bp:Nat
 ip:Nat
 tp:Nat
 trp:Nat
 rp:Nat
 sm:Nat
 mm:Nat
@[reducible] def V2:Nat→Value:=fun b=>pp b
@[reducible] def Vv (x:Int×Nat×QP):Int×Nat:=(x.1,x.2.1)
@[reducible] def VX (x:Int×Nat×List Nat):Int×Nat:=(x.1,x.2.1)
@[reducible] def Y0 (sp:Nat) (x:Int×Nat×QP):Q2:=V1 x.2.1 sp x.1.toNat x.2.2
@[reducible] def VG (x:Int×Nat×List Nat):Q2:=VV x.2.1 x.2.2
@[reducible] def VU (p:Nat) (q:Xk):Q2:=pts p (row 43 [pp q.sp,pp q.bp,pp q.ip,pp q.tp,pp q.trp,pp q.rp,.map (some q.sm),.map (some q.mm)])
def QD (p:Nat) (s:CS):Q2:=ex fun x:Xk×List Nat=>star [prop (WF s∧YY s x.2),VU p x.1,V6 x.1.ip x.1.sp x.1.bp,Qq x.1.bp s.lays,ST x.1.sp s.size x.2 s.own,Qr x.1.tp s.tab,Qo x.1.trp s.last s.par,RS x.1.rp s.rem,
 mp (ki .i64) V2 x.1.sm (s.sps.map Vv),star (s.sps.map (Y0 x.1.sp)),mp (ki .i64) V2 x.1.mm (s.mns.map VX),star (s.mns.map VG)]
theorem YQ [Q4] {w:World} {p:Nat} {s:CS} {fr:List Q2} (H:Q0 w (QD p s::fr)):∃ (q:Xk) (mem:List Nat),WF s∧YY s mem ∧
  Q0 w (VU p q::V6 q.ip q.sp q.bp::Qq q.bp s.lays::ST q.sp s.size mem s.own::Qr q.tp s.tab::Qo q.trp s.last s.par::RS q.rp s.rem::mp (ki .i64) V2 q.sm (s.sps.map Vv)::star (s.sps.map (Y0 q.sp))::mp (ki .i64) V2 q.mm (s.mns.map VX)::star (s.mns.map VG)::fr):=by
 obtain⟨⟨q,mem⟩,H⟩:=Q0.ex.1 H;have H:=Q0.star.1 H;obtain⟨h,H⟩:=Q0.prop.1 H;exact⟨q,mem,h.1,h.2,H⟩
theorem VM [Q4] {w:World} {p:Nat} {s:CS} {fr:List Q2} {q:Xk} {mem:List Nat} (h:WF s) (hm:YY s mem)
  (H:Q0 w (VU p q::V6 q.ip q.sp q.bp::Qq q.bp s.lays::ST q.sp s.size mem s.own::Qr q.tp s.tab::Qo q.trp s.last s.par::RS q.rp s.rem::mp (ki .i64) V2 q.sm (s.sps.map Vv)::star (s.sps.map (Y0 q.sp))::mp (ki .i64) V2 q.mm (s.mns.map VX)::star (s.mns.map VG)::fr)):Q0 w (QD p s::fr):=
 Q0.ex.2 ⟨(q,mem),Q0.star.2 (Q0.prop.2 ⟨⟨h,hm⟩,H⟩)⟩
def Qc (s:CS) (e:Q9):Qa:=(s.lays[e.lay - 1]?).getD ⟨0,[],0,[]⟩
def U1 (w:Nat):Yo:=if w=0 then .none else if w=1 then .grave else .obj (w % 4294967296 - 2) (w / 4294967296)
theorem rL {x:Nat} (h0:x≠0) (h1:x≠1):U1 x = .obj (x % 4294967296 - 2) (x / 4294967296):=by
 unfold U1;rw[if_neg h0,if_neg h1]
theorem i7 {i g:Nat} (h:i < 4096):(i+2+g*4294967296) % 4294967296 - 2=i∧(i+2+g*4294967296) / 4294967296=g:=by omega
theorem i8 {i g:Nat} (h1:i < 4096):U1 (Vm (.obj i g)) = .obj i g:=by
 rw[Nl,rL (by omega) (by omega),(i7 h1).1,(i7 h1).2]
theorem i9 {k:Yo} (h:XS k):U1 (Vm k)=k:=by
 cases k with
 | none=>rfl
 | grave=>rfl
 | obj i g=>exact i8 h.1
theorem WS {s:CS} (h:WF s) {mem:List Nat} (m:YY s mem) {k g:Nat} {e:Q9} (hk:s.tab[k]? = some ⟨g,some e⟩):WI s.lays s.size mem s.own e.addr e.lay e.count k e.ws.length (Qc s e):=by
 obtain⟨⟨hm,l,h1,h2,h3,h4⟩,hl,_⟩:=h.obj k g e hk;have VS:Qc s e=l:=by unfold Qc;rw[h1];rfl
 rw[VS];refine⟨hm,h1,h2,h3,?_,?_,?_⟩
 ·rw[getD_eq_getElem?_getD,m.head _ _ _ hk,Option.getD_some]
 ·have:=hl.1;unfold QT at this;rw[m.len];exact this
 ·intro c c1 c2;obtain⟨r,hr,_,ZG⟩:=hl.2 c c1 (by rw[show e.addr+(e.ws.length+1) - 1=e.addr+e.ws.length by omega] at c2;exact c2);rw[getD_eq_getElem?_getD,hr];show r≠0;omega
theorem TX {s:CS} (h:WF s) {mem:List Nat} (m:YY s mem) {k g:Nat} {e:Q9} (hk:s.tab[k]? = some ⟨g,some e⟩) {p:Nat} (hp:p < e.ws.length):mem.getD (e.addr+1+p) 0=e.ws.getD p 0:=by
 have hx:=getElem?_eq_getElem hp;rw[getD_eq_getElem?_getD,getD_eq_getElem?_getD,m.words _ _ _ hk p _ hx,hx]
theorem iQ {s:CS} (h:WF s) {k g:Nat} {e:Q9} (hk:s.tab[k]? = some ⟨g,some e⟩) {p:Nat} (hp:p < e.ws.length) (hr:Ve (Qc s e) p=true):XS (U1 (e.ws.getD p 0))∧e.ws.getD p 0=Vm (U1 (e.ws.getD p 0)):=by
 obtain⟨⟨hm,l,h1,h2,h3,h4⟩,hl,_⟩:=h.obj k g e hk;have VS:Qc s e=l:=by unfold Qc;rw[h1];rfl
 rw[VS] at hr;have hx:=getElem?_eq_getElem hp;obtain⟨q,hq,hw⟩:=(h4 p _ hx).2 hr;have hd:e.ws.getD p 0=Vm q:=by rw[getD_eq_getElem?_getD,hx,Option.getD_some];exact hw
 rw[hd,i9 hq];exact⟨hq,rfl⟩
def OD:Option (Nat×Q9)→Value
 | some (_,e) => .tuple #[.agg (YR e).toArray,.int .i64 0]
 | none => .tuple #[.agg #[.int .i64 0,.int .i64 0,.bool false,.bool false],.int .i64 8]
theorem JT (o:Option (Nat×Q9)):∃ e1 e2 h1 h2 e4,OD o = .tuple #[.agg #[.int .i64 e1,.int .i64 e2,.bool h1,.bool h2],.int .i64 e4]:=by
 cases o <;> exact⟨_,_,_,_,_,rfl⟩
theorem UZ [Q4] (p:Nat) (ts:List QW) (i g:Int) {w:World} {fr:List Q2} (H:Q0 w (Qr p ts::fr)) :
  Calls Tryz.prog 68 #[pp p,GJ i g] w (ret fun v w'=>v=OD (Ql ts i g)∧Q0 w' (Qr p ts::fr)):=
 call (rD p ts i g H) fun v w h=>⟨by rw[h.1];cases Ql ts i g <;> rfl,h.2⟩
theorem iV [Q4] (p:Nat) (s:CS) (i g:Int) {w:World} {fr:List Q2} (H:Q0 w (QD p s::fr)) :
  Calls Tryz.prog 94 #[pp p,GJ i g] w (ret fun v w'=>v=OD (V4 s.tab i g)∧Q0 w' (QD p s::fr)):=by
 obtain⟨q,mem,hw,hm,H⟩:=YQ H;refine QQ Tryz.func94 rfl (by kernel_rfl) ?_;refine J8 H ?_;intro b3 w H;refine VO H ?_;intro b4 w H;refine FE H ?_;obtain⟨e1,e2,h1,h2,e4,Y4⟩:=JT (Ql s.tab i g);refine J6 H ?_
 refine Qt (fun ms σ w=>ms=[]∧∃ b6,σ 4=pp b4∧σ 6=pp b6∧σ 7 = .int .i64 e4 ∧
  Q0 w (pts b4 (row 113 [.int .i64 0,.int .i64 0,.bool false,.bool false])::pts b6 (row 113 [.int .i64 e1,.int .i64 e2,.bool h1,.bool h2])::QD p s::fr)) ?_ ?_
 ·replace H:=Js [6,0,0,0,0,0,0,0,0,0,0,0,0] 0 H;refine J1 H ?_;intro w H;refine B8 H ?_;refine Jw 5 9 H rfl rfl (V3 (a:=[]) (b:=[]) rfl rfl (call (UZ q.tp s.tab i g H) ?_)) (YW H rfl ?_)
  ·rintro v w ⟨rfl,H⟩;rw[Y4];refine B9 H ?_;intro b6 w H;refine A7 H ?_;intro w H;refine Uj H ?_;replace H:=Js [4,4,4,4,1,3,3,3,3,3,3,1,0] 1 H;refine⟨rfl,rfl,b6,rfl,rfl,rfl,?_⟩;replace H:=VM hw hm H;replace H:=Js [1,1,0] 0 H;exact H
  ·intro b6 w H;refine Jo 5 H ?_;refine Jk rfl rfl (UZ q.tp s.tab i g H.swap) ?_;rintro v w ⟨rfl,H⟩;rw[Y4];refine CC H ?_;intro w H;refine Uj H ?_;replace H:=Js [4,4,4,4,0,3,3,3,3,3,3,1,0] 1 H;refine⟨rfl,rfl,b6,rfl,rfl,rfl,?_⟩;replace H:=VM hw hm H;replace H:=Js [1,1,0] 0 H;exact H
 ·rintro ms σ w ⟨rfl,b6,g4,g6,g7,H⟩;rw[Q1 g4,Q1 g6,Q1 g7];have hv:V4 s.tab i g=(match Ql s.tab i g with|some (k,e)=>if e.held then some (k,e) else none|none=>none):=rfl;cases hL:Ql s.tab i g with
  | none=>
   rw[hL] at Y4 hv;have hv:V4 s.tab i g=none:=hv;rw[hv];cases Y4;refine YJ H ?_;refine B1 H ?_;refine B2 H ?_;intro w H;refine J0 H ?_;exact Q3 (Jz H (fun w' H' => .cellN H' rfl (by repeat first|exact .nil _|apply QY.cons rfl) (.tmp .nil)) fun w' H'=>⟨rfl,H'.drop.drop⟩)
  | some x=>
   obtain⟨k,e⟩:=x;obtain⟨ea,er,eh,ep,el,ec,ew⟩:=e;rw[hL] at Y4 hv;cases Y4;cases eh with
   | true=>
    have hv:V4 s.tab i g=some (k,⟨ea,er,true,ep,el,ec,ew⟩):=hv;rw[hv];refine YJ H ?_;refine Ug H ?_;refine YT H ?_;refine Ay H ?_;intro w H;refine J0 H ?_;exact Q3 (Jz H (fun w' H' => .cellN H' rfl (by repeat first|exact .nil _|apply QY.cons rfl) (.tmp .nil)) fun w' H'=>⟨rfl,H'.drop.drop⟩)
   | false=>
    have hv:V4 s.tab i g=none:=hv;rw[hv];refine YJ H ?_;refine Ug H ?_;refine B2 H ?_;intro w H;refine J0 H ?_;exact Q3 (Jz H (fun w' H' => .cellN H' rfl (by repeat first|exact .nil _|apply QY.cons rfl) (.tmp .nil)) fun w' H'=>⟨rfl,H'.drop.drop⟩)
theorem Dz [Q4] (p:Nat) (s:CS) (i g:Int) (f:FuncId) (cs:List Value) [QZ Tryz.prog f] (R:Value→World→Prop) (fr:List Q2)
  (VK:V4 s.tab i g=none→∀ w,Q0 w (QD p s::fr)→R (.int .i64 8) w)
  (rM:∀ k e,V4 s.tab i g=some (k,e)→∀ w,Q0 w (QD p s::fr)→Calls Tryz.prog f (.agg (YR e).toArray::cs).toArray w (ret R)) {w:World} (H:Q0 w (QD p s::fr)) :
  Calls Tryz.prog 77 #[pp p,GJ i g,.func (.func f) #[] cs.toArray] w (ret R):=by
 refine QQ Tryz.func77 rfl (by kernel_rfl) ?_;refine J8 H ?_;intro b4 w H;refine B5 H ?_;refine Jc rfl rfl (iV p s i g H.swap) ?_;rintro v w ⟨rfl,H⟩;cases hv:V4 s.tab i g with
 | none=>
  refine YC H ?_;intro b7 w H;refine J5 H ?_;intro w H;refine Ir H ?_;replace H:=Js [1] 2 H;exact Q3 (Jy H rfl fun w' H'=>VK hv w' H')
 | some x=>
  obtain⟨k,e⟩:=x;refine YC H ?_;intro b7 w H;refine J5 H ?_;intro w H;refine Za H ?_;refine Xy H ?_;replace H:=Js [1] 2 H;refine Q5 rfl (V3 (a:=[]) (b:=cs) rfl rfl (call (rM k e hv w H) ?_));clear H;intro v w hr;refine W6 rfl rfl ?_;refine QX ?_;exact Q3 (Ak (.inr rfl) rfl hr)
def KV (s:CS) (i g place:Int):Nat×Nat:=
 match V4 s.tab i g with
 | none=>(0,8)
 | some (_,e)=>if Qb (Qc s e) e.ws.length place false=0 then (e.ws.getD place.toNat 0,0) else (0,Qb (Qc s e) e.ws.length place false)
theorem iY {s:CS} {i g place:Int} (h:V4 s.tab i g=none):KV s i g place=(0,8):=by unfold KV;rw[h]
theorem TR {s:CS} {i g place:Int} {k:Nat} {e:Q9} (h:V4 s.tab i g=some (k,e)):KV s i g place=if Qb (Qc s e) e.ws.length place false=0 then (e.ws.getD place.toNat 0,0) else (0,Qb (Qc s e) e.ws.length place false):=by unfold KV;rw[h]
theorem U2 {s:CS} {i g:Int} {k:Nat} {e:Q9} (h:V4 s.tab i g=some (k,e)):∃ n:Nat,i=k∧g=n∧s.tab[k]? = some ⟨n,some e⟩∧e.held=true:=by
 obtain⟨h1,h2⟩:=Rq.1 h;obtain⟨n,a,b,c⟩:=Z1.1 h1;exact⟨n,a,b,c,h2⟩
theorem iZ [Q4] (p:Nat) (s:CS) (i g place:Int) {w:World} {fr:List Q2} (H:Q0 w (QD p s::fr)) :
  Calls Tryz.prog 41 #[pp p,GJ i g,.int .i64 place] w (ret fun v w'=>v = .tuple #[.int .u64 ((KV s i g place).1:Nat),.int .i64 ((KV s i g place).2:Nat)]∧Q0 w' (QD p s::fr)):=by
 refine QQ Tryz.func41 rfl (by kernel_rfl) ?_;refine GW H ?_;intro b3 w H;refine Rj H ?_;intro b4 w H;refine BQ H ?_;intro b5 w H;refine J4 H ?_;refine YN H ?_;intro b8 w H;refine J2 H ?_;refine SQ H ?_;replace H:=Js [4,0,0,0,0] 0 H;refine Jc rfl rfl (Dz p s i g 106 [pp b3,pp b5,pp b8] (fun v w'=>v = .int .i64 ((KV s i g place).2:Nat)∧Q0 w' (pts b8 (row 83 [.int .u64 ((KV s i g place).1:Nat)])::QD p s::fr)) _ ?_ ?_ H) ?_
 ·intro hv w H;rw[iY hv];replace H:=Js [1,0] 3 H;exact⟨rfl,H⟩
 ·intro k e hv w H;obtain⟨n,rfl,rfl,hk,hh⟩:=U2 hv;obtain⟨q,mem,hw,hm,H⟩:=YQ H;have hI:=WS hw hm hk;refine QQ Tryz.func106 rfl (by kernel_rfl) ?_;refine J8 H ?_;intro b4 w H;refine J0 H ?_;replace H:=Js [2,2,2,0,0,0,0,0,0,0,0,0,0,0,1] 1 H
  have HY:(if Qb (Qc s e) e.ws.length place false=0 then mem.getD (e.addr+1+place.toNat) 0 else 0)=(KV s k n place).1:=by
   rw[TR hv];split
   ·rename_i h0;obtain⟨x,rfl,hx,_⟩:=UP h0;exact TX hw hm hk hx
   ·rfl
  have TW:Qb (Qc s e) e.ws.length place false=(KV s k n place).2:=by
   rw[TR hv];split
   ·assumption
   ·rfl
  refine J1 H ?_;intro w H;refine Jl 0 [7,11] H ?_;refine WW H ?_;refine Jl 3 [7,11] H ?_;refine Jf 4 ?_;refine Jl 5 [7,11] H ?_;refine Jl 6 [7,11] H ?_;refine Jo 7 H ?_;refine Jk rfl rfl (qS q.ip q.sp q.bp s.size s.lays mem s.own e.addr e.lay e.count k e.ws.length (Qc s e) hI place H) ?_;rintro v w ⟨rfl,H⟩;rw[HY,TW];refine CD H ?_;refine Jo 11 H ?_;refine XM H ?_;intro w H;refine KN H ?_;refine J3 H ?_;replace H:=Js [4,0,0,0,1,1,1,1,1,1,1,1] 3 H;replace H:=VM hw hm H;exact Q3 (Jy H.swap rfl fun w' H'=>⟨rfl,H'⟩)
 ·rintro v w ⟨rfl,H⟩;refine J0 H ?_;refine UJ H ?_;refine ZT H ?_;refine J0 H ?_;exact Q3 (Jy H rfl fun w' H'=>⟨rfl,H'.drop⟩)
theorem TA {s:CS} (h:WF s) {k g:Nat} {e:Q9} (hk:s.tab[k]? = some ⟨g,some e⟩):s.lays[e.lay - 1]? = some (Qc s e):=by
 obtain⟨⟨hm,l,h1,h2,h3,h4⟩,hl,_⟩:=h.obj k g e hk;rw[h1];unfold Qc;rw[h1];rfl
theorem rN {ts:List QW} {k:Nat} {t t':QW} (hk:ts[k]? = some t) (h:Y9 t'=Y9 t):(ts.set k t').flatMap Y9=ts.flatMap Y9:=by
 rw[set_split hk]
 conv=>rhs;rw[split_at hk]
 simp[h]
theorem TB [Q4] {w:World} {p:Nat} {ts:List QW} {l:List Q2} {k g:Nat} {e e':Q9} (hk:ts[k]? = some ⟨g,some e⟩) (he:YR e'=YR e) (H:Q0 w (Qr p ts::l)):Q0 w (Qr p (ts.set k ⟨g,some e'⟩)::l):=by
 obtain⟨b,c,s,u,x,QK,hc,H,QU⟩:=BP H
 have hv:Y9 ⟨g,some e'⟩=Y9 ⟨g,some e⟩:=by
  show Value.int .i64 g :: .bool true::YR e' = .int .i64 g :: .bool true::YR e;rw[he]
 refine QU _ _ (ts.set k ⟨g,some e'⟩) x (by simp) (OW hk rfl) (QK.set hk rfl (by have:=QK.gen _ _ hk;exact this)) ?_;rw[rN hk hv];exact H
def RV (s:CS) (i g place:Int) (x:Nat):CS×Nat:=
 match V4 s.tab i g with
 | none=>(s,8)
 | some (k,e)=>if Qb (Qc s e) e.ws.length place false=0 then (Y6 s k g.toNat { e with ws:=e.ws.set place.toNat x },0) else (s,Qb (Qc s e) e.ws.length place false)
theorem L1 {s:CS} {i g place:Int} {x:Nat} (h:V4 s.tab i g=none):RV s i g place x=(s,8):=by unfold RV;rw[h]
theorem L3 {s:CS} {i g place:Int} {x k:Nat} {e:Q9} (h:V4 s.tab i g=some (k,e)):RV s i g place x=if Qb (Qc s e) e.ws.length place false=0 then (Y6 s k g.toNat { e with ws:=e.ws.set place.toNat x },0) else (s,Qb (Qc s e) e.ws.length place false):=by unfold RV;rw[h]
theorem rO [Q4] (p:Nat) (s:CS) (i g place:Int) (x:Nat) (hx:x < 18446744073709551616) {w:World} {fr:List Q2} (H:Q0 w (QD p s::fr)) :
  Calls Tryz.prog 165 #[pp p,GJ i g,.int .i64 place,.int .u64 x] w (ret fun v w'=>v = .int .i64 ((RV s i g place x).2:Nat)∧Q0 w' (QD p (RV s i g place x).1::fr)):=by
 refine QQ Tryz.func165 rfl (by kernel_rfl) ?_;refine GW H ?_;intro b4 w H;refine Rj H ?_;intro b5 w H;refine BQ H ?_;intro b6 w H;refine BQ H ?_;intro b7 w H;refine ND H ?_;replace H:=Js [4,0,0,0,0] 0 H;refine Jc rfl rfl (Dz p s i g 232 [pp b4,pp b6,pp b7] (fun v w'=>v = .int .i64 ((RV s i g place x).2:Nat)∧Q0 w' (QD p (RV s i g place x).1::fr)) _ ?_ ?_ H) ?_
 ·intro hv w H;rw[L1 hv];replace H:=Js [0] 4 H;exact⟨rfl,H⟩
 ·intro k e hv w H;obtain⟨n,rfl,rfl,hk,hh⟩:=U2 hv;obtain⟨q,mem,hw,hm,H⟩:=YQ H;have hI:=WS hw hm hk;refine QQ Tryz.func232 rfl (by kernel_rfl) ?_;refine J8 H ?_;intro b4 w H;refine J0 H ?_;replace H:=Js [2,2,2,0,0,0,0,0,0,0,0,0,0,0,1] 1 H;refine J1 H ?_;intro w H;refine NE H ?_;refine Jl 6 [8] H ?_;refine Jl 7 [8] H ?_;refine Jo 8 H ?_;refine Jk rfl rfl (qT q.ip q.sp q.bp s.size s.lays mem s.own e.addr e.lay e.count k e.ws.length (Qc s e) hI place x H) ?_;rintro v w ⟨rfl,H⟩;refine Ja 9 ?_;refine Jx H ?_;replace H:=Js [4,0,0,0,1,1,1,1,1,1,1] 4 H;rw[L3 hv];by_cases h0:Qb (Qc s e) e.ws.length place false=0
  ·obtain⟨y,rfl,hy,hr⟩:=UP h0;rw[if_pos h0] at H;rw[if_pos h0,h0];have VB:=O2 (e':={ e with ws:=e.ws.set y x }) hw hk ⟨rfl,rfl,rfl,rfl,by show (e.ws.set y x).length=_;simp⟩ (Sw (hw.obj _ _ _ hk).1 (TA hw hk) hx (fun h=>by rw[hr] at h;cases h));have V7:=Su hw hm hk hy (x:=x);replace H:=Js [4,0,0,0,0,0,0,0,0,0,0] 0 H;replace H:=TB (e':={ e with ws:=e.ws.set y x }) hk rfl H;replace H:=Js [1,1,1,1,0,0,0,0,0,0,0] 0 H;replace H:=VM VB V7 H;exact Q3 (Jy H rfl fun w' H'=>⟨rfl,H'⟩)
  ·rw[if_neg h0] at H;rw[if_neg h0];replace H:=VM hw hm H;exact Q3 (Jy H rfl fun w' H'=>⟨rfl,H'⟩)
 ·rintro v w ⟨rfl,H⟩;refine J0 H ?_;exact Q3 (Jy H rfl fun w' H'=>⟨rfl,H'⟩)
def Yu (s:CS) (i g place:Int):Yo×Nat:=
 match V4 s.tab i g with
 | none=>(.none,8)
 | some (_,e)=>if Qb (Qc s e) e.ws.length place true=0 then (U1 (e.ws.getD place.toNat 0),0) else (.none,Qb (Qc s e) e.ws.length place true)
theorem TC {s:CS} {i g place:Int} (h:V4 s.tab i g=none):Yu s i g place=(.none,8):=by unfold Yu;rw[h]
theorem L4 {s:CS} {i g place:Int} {k:Nat} {e:Q9} (h:V4 s.tab i g=some (k,e)):Yu s i g place=if Qb (Qc s e) e.ws.length place true=0 then (U1 (e.ws.getD place.toNat 0),0) else (.none,Qb (Qc s e) e.ws.length place true):=by unfold Yu;rw[h]
theorem L5 [Q4] (p:Nat) (s:CS) (i g place:Int) {w:World} {fr:List Q2} (H:Q0 w (QD p s::fr)) :
  Calls Tryz.prog 33 #[pp p,GJ i g,.int .i64 place] w (ret fun v w'=>v = .tuple #[GS (Yu s i g place).1,.int .i64 ((Yu s i g place).2:Nat)]∧Q0 w' (QD p s::fr)):=by
 obtain⟨a1,a2,a3,Y7⟩:=Xf (Yu s i g place).1;rw[Y7];refine QQ Tryz.func33 rfl (by kernel_rfl) ?_;refine GW H ?_;intro b3 w H;refine Rj H ?_;intro b4 w H;refine BQ H ?_;intro b5 w H;refine VO H ?_;intro b6 w H;refine J0 H ?_;refine YN H ?_;intro b8 w H;refine J2 H ?_;refine SQ H ?_;replace H:=Js [5,0,0,0,0,0] 0 H;refine Jc rfl rfl (Dz p s i g 96 [pp b3,pp b5,pp b8] (fun v w'=>v = .int .i64 ((Yu s i g place).2:Nat)∧Q0 w' (pts b8 (row 88 [.int .i64 a1,.int .i64 a2,.int .i64 a3])::pts b6 (row 88 [.int .i64 0,.int .i64 0,.int .i64 0])::QD p s::fr)) _ ?_ ?_ H) ?_
 ·intro hv w H;rw[TC hv] at Y7 ⊢;cases Y7;replace H:=Js [1,1,0] 3 H;exact⟨rfl,H⟩
 ·intro k e hv w H;obtain⟨n,rfl,rfl,hk,hh⟩:=U2 hv;obtain⟨q,mem,hw,hm,H⟩:=YQ H;have hI:=WS hw hm hk;refine QQ Tryz.func96 rfl (by kernel_rfl) ?_;refine J8 H ?_;intro b4 w H;refine J0 H ?_;replace H:=Js [2,2,2,0,0,0,0,0,0,0,0,0,0,0,0,1] 1 H
  have ZD:GS (Yu s k n place).1=GS (if Qb (Qc s e) e.ws.length place true=0 then U1 (e.ws.getD place.toNat 0) else .none):=by
   rw[L4 hv];split <;> rfl
  have TW:Qb (Qc s e) e.ws.length place true=(Yu s k n place).2:=by
   rw[L4 hv];split
   ·assumption
   ·rfl
  have rP:Qb (Qc s e) e.ws.length place true=0→XS (if Qb (Qc s e) e.ws.length place true=0 then U1 (e.ws.getD place.toNat 0) else .none)∧mem.getD (e.addr+1+place.toNat) 0=Vm (if Qb (Qc s e) e.ws.length place true=0 then U1 (e.ws.getD place.toNat 0) else .none):=fun h0=>by
   obtain⟨y,rS,hy,hr⟩:=UP h0;rw[if_pos h0,rS,Int.toNat_natCast,TX hw hm hk hy];exact iQ hw hk hy hr
  have hF:=fun (w:World) (fr:List Q2) (H:Q0 w (V6 q.ip q.sp q.bp::Qq q.bp s.lays::ST q.sp s.size mem s.own::fr))=>gJ q.ip q.sp q.bp s.size s.lays mem s.own e.addr e.lay e.count k e.ws.length (Qc s e) hI place (if Qb (Qc s e) e.ws.length place true=0 then U1 (e.ws.getD place.toNat 0) else .none) rP (fun h0=>if_neg h0) H;rw[← ZD,Y7] at hF;refine J1 H ?_;intro w H;refine Jl 0 [7,11] H ?_;refine WW H ?_;refine Jl 3 [7,11] H ?_;refine Jf 4 ?_;refine Jl 5 [7,11] H ?_;refine Jl 6 [7,11] H ?_;refine Jo 7 H ?_;refine Jk rfl rfl (hF _ _ H) ?_;rintro v w ⟨rfl,H⟩;rw[TW];refine CD H ?_;refine Kv H ?_;intro w H;refine KN H ?_;refine J3 H ?_;replace H:=Js [4,0,0,0,1,1,1,1,1,1,1,1,1] 3 H;replace H:=VM hw hm H;replace H:=Js [1,1,0] 0 H;exact Q3 (Jy H rfl fun w' H'=>⟨rfl,H'⟩)
 ·rintro v w ⟨rfl,H⟩;refine J0 H ?_;refine B6 H ?_;intro w H;refine J0 H ?_;replace H:=Js [1,1] 1 H;exact Q3 (Jz H (fun w' H' => .cellN H' rfl (by repeat first|exact .nil _|apply QY.cons rfl) (.tmp .nil)) fun w' H'=>⟨rfl,H'.drop⟩)
def RY (s:CS) (i g:Int):CS×Nat:=
 match V4 s.tab i g with
 | none=>(s,8)
 | some (k,e)=>(Y6 s k g.toNat { e with held:=false },0)
theorem L6 {s:CS} {i g:Int} (h:V4 s.tab i g=none):RY s i g=(s,8):=by unfold RY;rw[h]
theorem L7 {s:CS} {i g:Int} {k:Nat} {e:Q9} (h:V4 s.tab i g=some (k,e)):RY s i g=(Y6 s k g.toNat { e with held:=false },0):=by unfold RY;rw[h]
def RZ (s:CS) (i g:Int) (on:Bool):CS×Nat:=
 match V4 s.tab i g with
 | none=>(s,8)
 | some (k,e)=>if e.pinned=on then (s,7) else (Y6 s k g.toNat { e with pinned:=on },0)
theorem L8 {s:CS} {i g:Int} {on:Bool} (h:V4 s.tab i g=none):RZ s i g on=(s,8):=by unfold RZ;rw[h]
theorem L9 {s:CS} {i g:Int} {on:Bool} {k:Nat} {e:Q9} (h:V4 s.tab i g=some (k,e)):RZ s i g on=if e.pinned=on then (s,7) else (Y6 s k g.toNat { e with pinned:=on },0):=by unfold RZ;rw[h]
theorem TD [Q4] {w:World} {p:Nat} {s:CS} {fr:List Q2} {q:Xk} {mem:List Nat} (hw:WF s) (hm:YY s mem) {k n:Nat} {e e':Q9} (hk:s.tab[k]? = some ⟨n,some e⟩) (a:BD e e') (Yr:e'.ws=e.ws)
  (H:Q0 w (VU p q::V6 q.ip q.sp q.bp::Qq q.bp s.lays::ST q.sp s.size mem s.own::Qr q.tp (s.tab.set k ⟨n,some e'⟩)::Qo q.trp s.last s.par::RS q.rp s.rem::mp (ki .i64) V2 q.sm (s.sps.map Vv)::star (s.sps.map (Y0 q.sp))::mp (ki .i64) V2 q.mm (s.mns.map VX)::star (s.mns.map VG)::fr)) :
  Q0 w (QD p (Y6 s k n e')::fr):=
 VM (s:=Y6 s k n e') (O2 hw hk a (qC (hw.obj _ _ _ hk).1 a Yr)) (qB hw hm hk a Yr) H
theorem rT [Q4] (p:Nat) (s:CS) (i g:Int) {w:World} {fr:List Q2} (H:Q0 w (QD p s::fr)) :
  Calls Tryz.prog 171 #[pp p,GJ i g] w (ret fun v w'=>v = .int .i64 ((RY s i g).2:Nat)∧Q0 w' (QD p (RY s i g).1::fr)):=by
 refine QQ Tryz.func171 rfl (by kernel_rfl) ?_;refine GW H ?_;intro b2 w H;refine Rj H ?_;intro b3 w H;refine ND H ?_;replace H:=Js [2,0,0] 0 H;refine Jc rfl rfl (Dz p s i g 234 [pp b2,pp b3] (fun v w'=>v = .int .i64 ((RY s i g).2:Nat)∧Q0 w' (QD p (RY s i g).1::fr)) _ ?_ ?_ H) ?_
 ·intro hv w H;rw[L6 hv];replace H:=Js [0] 2 H;exact⟨rfl,H⟩
 ·intro k e hv w H;obtain⟨n,rfl,rfl,hk,hh⟩:=U2 hv;obtain⟨q,mem,hw,hm,H⟩:=YQ H;refine QQ Tryz.func234 rfl (by kernel_rfl) ?_;refine J8 H ?_;intro b3 w H;refine J0 H ?_;refine Ui H ?_;refine Rh H ?_;intro w H;refine J2 H ?_;replace H:=Js [5,0,0,0,0,0,0,0,0,0,0,0,0,0] 0 H;refine J1 H ?_;intro w H;refine NF H ?_;refine Ij H ?_;refine Ii H ?_;refine Jk rfl rfl (JS q.tp s.tab k n { e with held:=false } H) ?_;rintro v w (⟨k',e',hL,rfl,H⟩|⟨hL,rfl,H⟩)
  ·have UG:=(Rq.1 hv).1;rw[UG] at hL;cases hL;refine Ja 7 ?_;refine Jx H ?_;replace H:=Js [2,2,2,2,0,1,1,1,1,1,1] 3 H;rw[L7 hv];replace H:=TD (e':={ e with held:=false }) hw hm hk ⟨rfl,rfl,rfl,rfl,rfl⟩ rfl H;exact Q3 (Jy H rfl fun w' H'=>⟨rfl,H'⟩)
  ·rw[(Rq.1 hv).1] at hL;cases hL
 ·rintro v w ⟨rfl,H⟩;refine J0 H ?_;exact Q3 (Jy H rfl fun w' H'=>⟨rfl,H'⟩)
theorem rc [Q4] (p:Nat) (s:CS) (i g:Int) (on:Bool) {w:World} {fr:List Q2} (H:Q0 w (QD p s::fr)) :
  Calls Tryz.prog 173 #[pp p,GJ i g,.bool on] w (ret fun v w'=>v = .int .i64 ((RZ s i g on).2:Nat)∧Q0 w' (QD p (RZ s i g on).1::fr)):=by
 refine QQ Tryz.func173 rfl (by kernel_rfl) ?_;refine GW H ?_;intro b3 w H;refine Rj H ?_;intro b4 w H;refine BQ H ?_;intro b5 w H;refine ND H ?_;replace H:=Js [3,0,0,0] 0 H;refine Jc rfl rfl (Dz p s i g 235 [pp b5,pp b3,pp b4] (fun v w'=>v = .int .i64 ((RZ s i g on).2:Nat)∧Q0 w' (QD p (RZ s i g on).1::fr)) _ ?_ ?_ H) ?_
 ·intro hv w H;rw[L8 hv];replace H:=Js [0] 3 H;exact⟨rfl,H⟩
 ·intro k e hv w H;obtain⟨n,rfl,rfl,hk,hh⟩:=U2 hv;obtain⟨q,mem,hw,hm,H⟩:=YQ H;refine QQ Tryz.func235 rfl (by kernel_rfl) ?_;refine J8 H ?_;intro b4 w H;refine DE H ?_;refine WY H ?_;refine Q5 rfl (DY rfl rfl (.inl rfl) rfl ?_);refine J2 H ?_;rw[L9 hv];by_cases hp:e.pinned=on
  ·rw[show (e.pinned == on)=true by simp[hp],if_pos hp];refine ZB H ?_;replace H:=Js [1,1,1,1,1,1,1,1,1,1,1] 4 H;replace H:=VM hw hm H;exact Q3 (Jy H rfl fun w' H'=>⟨rfl,H'⟩)
  ·rw[show (e.pinned == on)=false by simp[hp],if_neg hp];refine Vk H ?_;refine UJ H ?_;refine Rh H ?_;intro w H;refine J2 H ?_;replace H:=Js [5,0,0,0,0,0,0,0,0,0,0,0,0,0,0] 0 H;refine J1 H ?_;intro w H;refine NF H ?_;refine Ij H ?_;refine Ii H ?_;refine Jk rfl rfl (JS q.tp s.tab k n { e with pinned:=on } H) ?_;rintro v w (⟨k',e',hL,rfl,H⟩|⟨hL,rfl,H⟩)
   ·have UG:=(Rq.1 hv).1;rw[UG] at hL;cases hL;refine Ja 7 ?_;refine Jx H ?_;replace H:=Js [2,2,2,2,0,1,1,1,1,1,1] 4 H;replace H:=TD (e':={ e with pinned:=on }) hw hm hk ⟨rfl,rfl,rfl,rfl,rfl⟩ rfl H;exact Q3 (Jy H rfl fun w' H'=>⟨rfl,H'⟩)
   ·rw[(Rq.1 hv).1] at hL;cases hL
 ·rintro v w ⟨rfl,H⟩;refine J0 H ?_;exact Q3 (Jy H rfl fun w' H'=>⟨rfl,H'⟩)
@[reducible] def TE (e:Q9):List Value:=[.int .i64 e.region,.int .i64 e.lay,.int .i64 e.count,.int .i64 e.ws.length,.bool e.pinned]
def TF:Option (Nat×Q9)→Value
 | some (_,e) => .tuple #[.agg (TE e).toArray,.int .i64 0]
 | none => .tuple #[.agg #[.int .i64 0,.int .i64 0,.int .i64 0,.int .i64 0,.bool false],.int .i64 8]
theorem TH [Q4] (p:Nat) (s:CS) (i g:Int) {w:World} {fr:List Q2} (H:Q0 w (QD p s::fr)) :
  Calls Tryz.prog 26 #[pp p,GJ i g] w (ret fun v w'=>v=TF (V4 s.tab i g)∧Q0 w' (QD p s::fr)):=by
 obtain⟨a1,a2,a3,a4,a5,a6,LQ⟩:∃ a1 a2 a3 a4 a5 a6,TF (V4 s.tab i g) = .tuple #[.agg #[.int .i64 a1,.int .i64 a2,.int .i64 a3,.int .i64 a4,.bool a5],.int .i64 a6]:=by
  cases V4 s.tab i g <;> exact⟨_,_,_,_,_,_,rfl⟩
 rw[LQ];refine QQ Tryz.func26 rfl (by kernel_rfl) ?_;refine GW H ?_;intro b2 w H;refine Rj H ?_;intro b3 w H;refine VO H ?_;intro b4 w H;refine J0 H ?_;refine YN H ?_;intro b6 w H;refine J2 H ?_;refine SQ H ?_;replace H:=Js [4,0,0,0,0] 0 H;refine Jc rfl rfl (Dz p s i g 78 [pp b2,pp b6] (fun v w'=>v = .int .i64 a6∧Q0 w' (pts b6 (row 71 [.int .i64 a1,.int .i64 a2,.int .i64 a3,.int .i64 a4,.bool a5])::pts b4 (row 71 [.int .i64 0,.int .i64 0,.int .i64 0,.int .i64 0,.bool false])::QD p s::fr)) _ ?_ ?_ H) ?_
 ·intro hv w H;rw[hv] at LQ;cases LQ;replace H:=Js [1,1,0] 2 H;exact⟨rfl,H⟩
 ·intro k e hv w H;rw[hv] at LQ;cases LQ;obtain⟨n,rfl,rfl,hk,hh⟩:=U2 hv;obtain⟨q,mem,hw,hm,H⟩:=YQ H;have hI:=WS hw hm hk;have Zb:=O4 (H.pull 3);have OE:=hI.fit;refine QQ Tryz.func78 rfl (by kernel_rfl) ?_;refine J8 H ?_;intro b3 w H;refine Yn H ?_
  refine Qt (fun ms σ w=>ms=[]∧∃ b5,σ 2=pp b6∧σ 3=pp b3∧σ 5=pp b5∧σ 6 = .int .i64 ((e.ws.length+1:Nat):Int)∧σ 7 = .int .i64 0 ∧
   Q0 w (pts b3 (row 113 (YR e))::pts b5 (row 115 [.int .i64 e.lay,.int .i64 e.count,.int .i64 k])::pts b6 (row 71 [.int .i64 0,.int .i64 0,.int .i64 0,.int .i64 0,.bool false])::pts b4 (row 71 [.int .i64 0,.int .i64 0,.int .i64 0,.int .i64 0,.bool false])::QD p s::fr)) ?_ ?_
  ·replace H:=Js [2,2,2,0,0,0,0,0,0,0,0,0,0,0,1] 1 H;refine J1 H ?_;intro w H;refine Jl 0 [6,12] H ?_;refine WW H ?_;refine Jl 3 [6,12] H ?_;refine Jf 4 ?_;refine Jl 5 [6,12] H ?_;refine Jw 6 11 H rfl rfl (V3 (a:=[]) (b:=[]) rfl rfl (call (Dr q.ip q.sp q.bp s.size s.lays mem s.own e.addr e.lay e.count k e.ws.length (Qc s e) hI H) ?_)) (YW H rfl ?_)
   ·rintro v w ⟨rfl,H⟩;refine Da H ?_;refine Fa H ?_;intro b5 w H;refine Ro H ?_;intro w H;refine Rl H ?_;replace H:=Js [5,1,1,1,2,2,2,2,2,2,2,1,0,0,0] 1 H;replace H:=VM hw hm H;replace H:=Js [1,1,1,1,0] 0 H;exact⟨rfl,rfl,b5,rfl,rfl,rfl,rfl,rfl,H⟩
   ·intro b5 w H;replace H:=Js [1,1,1,0] 0 H;refine Jo 6 H ?_;refine Jk rfl rfl (Dr q.ip q.sp q.bp s.size s.lays mem s.own e.addr e.lay e.count k e.ws.length (Qc s e) hI H) ?_;rintro v w ⟨rfl,H⟩;refine Da H ?_;refine Ro H ?_;intro w H;refine Rl H ?_;replace H:=Js [5,0,0,0,2,2,2,2,2,2,2,1,0,0,0] 1 H;replace H:=VM hw hm H;replace H:=Js [1,1,1,1,0] 0 H;exact⟨rfl,rfl,b5,rfl,rfl,rfl,rfl,rfl,H⟩
  ·rintro ms σ w ⟨rfl,b5,g2,g3,g5,g6,g7,H⟩;rw[Q1 g2,Q1 g3,Q1 g5,Q1 g6,Q1 g7];refine Mt H ?_;refine DO H ?_;rw[Qh (x:=((e.ws.length+1:Nat):Int) - 1) (by omega) (by omega),show ((e.ws.length+1:Nat):Int) - 1=(e.ws.length:Int) by omega];refine Gs H ?_;refine NC H ?_;intro w H;refine Ri H ?_;replace H:=Js [2,2,2] 2 H;exact Q3 (Jy H rfl fun w' H'=>⟨rfl,H'⟩)
 ·rintro v w ⟨rfl,H⟩;refine J0 H ?_;refine B6 H ?_;intro w H;refine J0 H ?_;replace H:=Js [1,1] 1 H;exact Q3 (Jz H (fun w' H' => .cellN H' rfl (by repeat first|exact .nil _|apply QY.cons rfl) (.tmp .nil)) fun w' H'=>⟨rfl,H'.drop⟩)
theorem HZ [Q4] {w:World} {p:Nat} {m:List (Rf×Int)} {l:List Q2} (H:Q0 w (RS p m::l)):(m.map (·.1)).Nodup:=by
 obtain⟨bt,bo,bf,H⟩:=Dq H;exact BW bt H
theorem iG [Q4] (p:Nat) (s:CS) (k n:Nat) (e:Q9) (hk:s.tab[k]? = some ⟨n,some e⟩) {w:World} {fr:List Q2} (H:Q0 w (QD p s::fr)) :
  Calls Tryz.prog 127 #[pp p,.int .i64 k] w (ret fun v w'=>v = .tuple #[.agg (YR e).toArray,.bool true]∧Q0 w' (QD p s::fr)):=by
 obtain⟨q,mem,hw,hm,H⟩:=YQ H;have hL:Ql s.tab k n=some (k,e):=Z1.2 ⟨n,rfl,rfl,hk⟩;refine QQ Tryz.func127 rfl (by kernel_rfl) ?_;refine YN H ?_;intro b4 w H;refine FE H ?_;refine Vb H ?_;replace H:=Js [5,0,0,0,0,0,0,0,0,0,0,0] 0 H;refine Jc rfl rfl (OA q.tp s.tab k n e hk H) ?_;rintro v w ⟨rfl,H⟩;refine YC H ?_;intro b6 w H;refine J5 H ?_;intro w H;refine Yn H ?_
 refine Qt (fun ms σ w=>ms=[]∧∃ b8,σ 4=pp b4∧σ 7 = .bool true∧σ 8=pp b8 ∧
   Q0 w (pts b4 (row 113 [.int .i64 0,.int .i64 0,.bool false,.bool false])::pts b8 (row 113 (YR e))::QD p s::fr)) ?_ ?_
 ·replace H:=Js [1,0,0,0,0,0,0,0,0,0,0,0,0] 0 H;refine J1 H ?_;intro w H;refine B8 H ?_;refine Jw 5 9 H rfl rfl (V3 (a:=[]) (b:=[]) rfl rfl (call (UZ q.tp s.tab k n H) ?_)) (YW H rfl ?_)
  ·rintro v w ⟨rfl,H⟩;rw[hL];refine B9 H ?_;intro b8 w H;refine A7 H ?_;intro w H;refine Uj H ?_;replace H:=Js [4,4,4,4,1,3,3,3,3,3,3,2,0] 1 H;replace H:=VM hw hm H;replace H:=Js [1,1,0] 0 H;exact⟨rfl,rfl,b8,rfl,rfl,rfl,H⟩
  ·intro b8 w H;refine Jo 5 H ?_;refine Jk rfl rfl (UZ q.tp s.tab k n H.swap) ?_;rintro v w ⟨rfl,H⟩;rw[hL];refine CC H ?_;intro w H;refine Uj H ?_;replace H:=Js [4,4,4,4,0,3,3,3,3,3,3,2,0] 1 H;replace H:=VM hw hm H;replace H:=Js [1,1,0] 0 H;exact⟨rfl,rfl,b8,rfl,rfl,rfl,H⟩
 ·rintro ms σ w ⟨rfl,b8,g4,g7,g8,H⟩;rw[Q1 g4,Q1 g7,Q1 g8];refine B6 H ?_;intro w H;refine J0 H ?_;exact Q3 (Jz H (fun w' H' => .cellN H' rfl (by repeat first|exact .nil _|apply QY.cons rfl) (.tmp .nil)) fun w' H'=>⟨rfl,H'.drop.drop⟩)
def Zx (s:CS) (k:Nat) (e:Q9) (place:Int) (l:Yo):List (Rf×Int):=
 match l with
 | .obj a b=>match Ql s.tab a b with
  | some (_,f)=>if f.region≠e.region then Yh (QO s.rem ((k:Int),place)) ((k:Int),place) (a:Int) else QO s.rem ((k:Int),place)
  | none=>QO s.rem ((k:Int),place)
 | _=>QO s.rem ((k:Int),place)
theorem TI {s:CS} {k a b:Nat} {e:Q9} {place:Int} (h:Ql s.tab a b=none):Zx s k e place (.obj a b)=QO s.rem ((k:Int),place):=by
 show (match Ql s.tab a b with|some (_,f)=>if f.region≠e.region then Yh (QO s.rem ((k:Int),place)) ((k:Int),place) (a:Int) else QO s.rem ((k:Int),place)|none=>QO s.rem ((k:Int),place))=_;rw[h]
theorem LV {s:CS} {k a b kk:Nat} {e f:Q9} {place:Int} (h:Ql s.tab a b=some (kk,f)):Zx s k e place (.obj a b)=if f.region≠e.region then Yh (QO s.rem ((k:Int),place)) ((k:Int),place) (a:Int) else QO s.rem ((k:Int),place):=by
 show (match Ql s.tab a b with|some (_,f)=>if f.region≠e.region then Yh (QO s.rem ((k:Int),place)) ((k:Int),place) (a:Int) else QO s.rem ((k:Int),place)|none=>QO s.rem ((k:Int),place))=_;rw[h]
theorem re [Q4] (p:Nat) (s:CS) (k n:Nat) (e:Q9) (hk:s.tab[k]? = some ⟨n,some e⟩) (place:Int) (l:Yo) {w:World} {fr:List Q2} (H:Q0 w (QD p s::fr)) :
  Calls Tryz.prog 156 #[pp p,.int .i64 k,.int .i64 place,GS l] w (ret fun v w'=>Q0 w' (QD p { s with rem:=Zx s k e place l }::fr)):=by
 obtain⟨a1,a2,a3,Y7⟩:=Xf l;rw[Y7];obtain⟨q,mem,hw,hm,H⟩:=YQ H;have QN:=HZ (H.pull 6);have TJ:=QN;refine QQ Tryz.func156 rfl (by kernel_rfl) ?_;refine J8 H ?_;intro b7 w H;refine DT H ?_;refine WV H ?_;refine VO H ?_;intro b8 w H;refine J5 H ?_;intro w H;refine J2 H ?_;replace H:=Js [8,0,0,0,0,0,0,0,0,0,0,0,0] 0 H;refine J1 H ?_;intro w H;refine N3 H ?_;refine Jk rfl rfl (JB q.rp s.rem QN ((k:Int),place) H) ?_;rintro v w ⟨rfl,H⟩;refine Jx H ?_;replace H:=Js [3,3,3,3,3,3,0,2,2,2,2,0,0] 0 H;have H:=VM (s:={ s with rem:=QO s.rem ((k:Int),place) }) (Fw hw _) (O3 hm _) H;clear hw hm;refine Fb H ?_
 have E0:(a1≠2∧Zx s k e place l=QO s.rem ((k:Int),place))∨∃ a b:Nat,l = .obj a b∧a1=2∧a2=a∧a3=b:=by
  cases l with
  | none=>injection Y7 with h;simp at h;exact .inl ⟨by omega,rfl⟩
  | grave=>injection Y7 with h;simp at h;exact .inl ⟨by omega,rfl⟩
  | obj a b=>injection Y7 with h;simp at h;exact .inr ⟨a,b,rfl,by omega,by omega,by omega⟩
 rcases E0 with ⟨h2,hn⟩|⟨a,b,rfl,rfl,rfl,rfl⟩
 ·rw[show (a1 != 2)=true by simpa using h2];refine Vt H ?_;rw[hn];replace H:=Js [0] 2 H;exact Q3 (Jy H rfl fun w' H'=>H')
 ·refine FK H ?_;refine Jc rfl rfl (iG p { s with rem:=QO s.rem ((k:Int),place) } k n e hk H) ?_;rintro v w ⟨rfl,H⟩;refine YC H ?_;intro b9 w H;refine J5 H ?_;intro w H;refine J0 H ?_;replace H:=Js [1,0,0,0] 0 H;obtain⟨q,mem,hw,hm,H⟩:=YQ H;dsimp only at H;obtain⟨e1,e2,h1,h2,e4,Y4⟩:=JT (Ql s.tab a b);refine J6 H ?_
  refine Qt (fun ms σ w=>ms=[]∧∃ b11,σ 0=pp p∧σ 7=pp b7∧σ 8=pp b8∧σ 9=pp b9∧σ 11=pp b11∧σ 12 = .int .i64 e4 ∧
    Q0 w (QD p { s with rem:=QO s.rem ((k:Int),place) }::pts b11 (row 113 [.int .i64 e1,.int .i64 e2,.bool h1,.bool h2])::pts b9 (row 113 (YR e))::pts b8 (row 133 [.int .i64 k,.int .i64 place])::pts b7 (row 88 [.int .i64 2,.int .i64 a,.int .i64 b])::fr)) ?_ ?_
  ·replace H:=Js [4,0,0,0,0,0,0,0,0,0,0,0,0,0] 0 H;refine J1 H ?_;intro w H;refine YI H ?_;refine Fc H ?_;refine Jw 6 10 H rfl rfl (V3 (a:=[]) (b:=[]) rfl rfl (call (UZ q.tp s.tab a b H) ?_)) (YW H rfl ?_)
   ·rintro v w ⟨rfl,H⟩;rw[Y4];refine CR H ?_;intro b11 w H;refine Kv H ?_;intro w H;refine KN H ?_;replace H:=Js [2,2,2,2,1,1,1,1,1,1,1,0,0,0,0] 0 H;have H:=VM (s:={ s with rem:=QO s.rem ((k:Int),place) }) hw hm H;exact⟨rfl,rfl,b11,rfl,rfl,rfl,rfl,rfl,rfl,H⟩
   ·intro b11 w H;refine Jo 6 H ?_;refine Jk rfl rfl (UZ q.tp s.tab a b H.swap) ?_;rintro v w ⟨rfl,H⟩;rw[Y4];refine Il H ?_;intro w H;refine KN H ?_;replace H:=Js [2,2,2,2,0,1,1,1,1,1,1,0,0,0,0] 0 H;have H:=VM (s:={ s with rem:=QO s.rem ((k:Int),place) }) hw hm H;exact⟨rfl,rfl,b11,rfl,rfl,rfl,rfl,rfl,rfl,H⟩
  ·rintro ms σ w ⟨rfl,b11,g0,g7,g8,g9,g11,g12,H⟩;rw[Q1 g0,Q1 g7,Q1 g8,Q1 g9,Q1 g11,Q1 g12];cases hL:Ql s.tab a b with
   | none=>
    have hn:Zx s k e place (.obj a b)=QO s.rem ((k:Int),place):=TI hL;rw[hL] at Y4;cases Y4;rw[hn];refine YJ H ?_;refine IP H ?_;refine YT H ?_;replace H:=Js [0] 4 H;exact Z2 _ (.inl rfl) H rfl fun w' H'=>H'
   | some x=>
    obtain⟨kk,f⟩:=x;rw[hL] at Y4;cases Y4;refine YJ H ?_;refine SV H ?_;by_cases hr:f.region=e.region
    ·have hn:Zx s k e place (.obj a b)=QO s.rem ((k:Int),place):=by rw[LV hL];exact if_neg (by simpa using hr)
     rw[hn,show (f.region != e.region)=false by simpa using hr];refine YT H ?_;replace H:=Js [0] 4 H;exact Z2 _ (.inl rfl) H rfl fun w' H'=>H'
    ·have hn:Zx s k e place (.obj a b)=Yh (QO s.rem ((k:Int),place)) ((k:Int),place) (a:Int):=by rw[LV hL];exact if_pos hr
     rw[hn,show (f.region != e.region)=true by simpa using hr];refine Rm H ?_;obtain⟨q,mem,hw,hm,H⟩:=YQ H;dsimp only at H;replace H:=Js [6,0,0,0,0,0,0,0,0,0,0,0,0,0,0] 0 H;have QN:=HZ H;refine J1 H ?_;intro w H;refine YI H ?_;refine Jl 3 [8] H ?_;refine Vz 4 [8] H rfl (Q8.none rfl) rfl (by repeat first|exact .nil _|apply QY.cons rfl) (by kernel_rfl) ?_;refine Jf 5 ?_;refine Jf 6 ?_;refine Jl 7 [8] H ?_;refine Jo 8 H ?_;refine Jk rfl rfl (gW q.rp _ QN ((k:Int),place) a H) ?_;rintro v w ⟨rfl,H⟩;refine Jx H ?_
     have he:QO (QO s.rem ((k:Int),place)) ((k:Int),place)=QO s.rem ((k:Int),place):=by
      refine Hw ?_;intro VR;exact absurd rfl ((Hx TJ).1 VR).1
     rw[he] at H;replace H:=Js [1,1,1,1,1,1,0,0,0,0,0] 4 H;have H:=VM (s:={ s with rem:=Yh (QO s.rem ((k:Int),place)) ((k:Int),place) (a:Int) }) (Fw hw _) (O3 hm _) H;exact Z2 _ (.inl rfl) H rfl fun w' H'=>H'
def Xl (s:CS) (i g place:Int) (l:Yo):CS×Nat:=
 match V4 s.tab i g with
 | none=>(s,8)
 | some (k,e)=>if Qb (Qc s e) e.ws.length place true=0 then ({ Y6 s k g.toNat { e with ws:=e.ws.set place.toNat (Vm l) } with rem:=Zx (Y6 s k g.toNat { e with ws:=e.ws.set place.toNat (Vm l) }) k { e with ws:=e.ws.set place.toNat (Vm l) } place l },0) else (s,Qb (Qc s e) e.ws.length place true)
theorem LY {s:CS} {i g place:Int} {l:Yo} (h:V4 s.tab i g=none):Xl s i g place l=(s,8):=by unfold Xl;rw[h]
theorem E1 {s:CS} {i g place:Int} {l:Yo} {k:Nat} {e:Q9} (h:V4 s.tab i g=some (k,e)):Xl s i g place l=if Qb (Qc s e) e.ws.length place true=0 then ({ Y6 s k g.toNat { e with ws:=e.ws.set place.toNat (Vm l) } with rem:=Zx (Y6 s k g.toNat { e with ws:=e.ws.set place.toNat (Vm l) }) k { e with ws:=e.ws.set place.toNat (Vm l) } place l },0) else (s,Qb (Qc s e) e.ws.length place true):=by unfold Xl;rw[h]
theorem iU [Q4] (p:Nat) (s:CS) (i g place:Int) (l:Yo) (hl:XS l) {w:World} {fr:List Q2} (H:Q0 w (QD p s::fr)) :
  Calls Tryz.prog 95 #[pp p,GJ i g,.int .i64 place,GS l] w (ret fun v w'=>v = .int .i64 ((Xl s i g place l).2:Nat)∧Q0 w' (QD p (Xl s i g place l).1::fr)):=by
 obtain⟨a1,a2,a3,Y7⟩:=Xf l;rw[Y7];refine QQ Tryz.func95 rfl (by kernel_rfl) ?_;refine GW H ?_;intro b4 w H;refine Rj H ?_;intro b5 w H;refine BQ H ?_;intro b6 w H;refine Rj H ?_;intro b7 w H;refine ND H ?_;replace H:=Js [4,0,0,0,0] 0 H
 refine Q5 rfl (V3 (a:=[]) (b:=[]) rfl rfl (call (Dz p s i g 155 [pp b4,pp b6,pp b7] (fun v w'=>
   (V4 s.tab i g=none∧v = .int .i64 8∧Q0 w' (QD p s::fr)) ∨
   (∃ k n e, V4 s.tab i g = some (k, e) ∧ g = (n : Nat) ∧ i = (k : Nat) ∧ s.tab[k]? = some ⟨n, some e⟩ ∧ ((Qb (Qc s e) e.ws.length place true ≠ 0 ∧ v = .int .i64 (Qb (Qc s e) e.ws.length place true) ∧ Q0 w' (QD p s :: fr)) ∨
    (Qb (Qc s e) e.ws.length place true=0∧v = .int .i64 0∧Q0 w' (pts b4 (row 44 [pp p])::pts b5 (row 69 [.int .i64 i,.int .i64 g])::pts b6 (row 3 [.int .i64 place])::pts b7 (row 88 [.int .i64 a1,.int .i64 a2,.int .i64 a3])::QD p (Y6 s k n { e with ws:=e.ws.set place.toNat (Vm l) })::fr))))) _ ?_ ?_ H) ?_))
 ·intro hv w H;replace H:=Js [0] 4 H;exact .inl ⟨hv,rfl,H⟩
 ·intro k e hv w H;obtain⟨n,rfl,rfl,hk,hh⟩:=U2 hv;obtain⟨q,mem,hw,hm,H⟩:=YQ H;have hI:=WS hw hm hk;have hT:=fun (w:World) (fr:List Q2) (H:Q0 w (V6 q.ip q.sp q.bp::Qq q.bp s.lays::ST q.sp s.size mem s.own::fr))=>gL q.ip q.sp q.bp s.size s.lays mem s.own e.addr e.lay e.count k e.ws.length (Qc s e) hI place l hl H;rw[Y7] at hT;refine QQ Tryz.func155 rfl (by kernel_rfl) ?_;refine J8 H ?_;intro b4 w H;refine J0 H ?_;replace H:=Js [2,2,2,0,0,0,0,0,0,0,0,0,0,0,0,0] 0 H;refine J1 H ?_;intro w H;refine NE H ?_;refine Jl 6 [8] H ?_;refine Vz 7 [8] H rfl (Q8.none rfl) rfl (by repeat first|exact .nil _|apply QY.cons rfl) (by kernel_rfl) ?_;refine Jo 8 H ?_;refine Jk rfl rfl (hT _ _ H) ?_;rintro v w ⟨rfl,H⟩;refine Ja 9 ?_;refine Jx H ?_;by_cases h0:Qb (Qc s e) e.ws.length place true=0
  ·obtain⟨y,rfl,hy,hr⟩:=UP h0;rw[if_pos h0] at H;rw[h0];have rh:Vm l < 18446744073709551616:=fP hl;have VB:=O2 (e':={ e with ws:=e.ws.set y (Vm l) }) hw hk ⟨rfl,rfl,rfl,rfl,by show (e.ws.set y (Vm l)).length=_;simp⟩ (Sw (hw.obj _ _ _ hk).1 (TA hw hk) rh (fun _=>⟨l,hl,rfl⟩));have V7:=Su hw hm hk hy (x:=Vm l);replace H:=Js [5,4,0,0,0,1,1,1,1,1,1,4,3,2,1] 1 H;replace H:=TB (e':={ e with ws:=e.ws.set y (Vm l) }) hk rfl H;replace H:=Js [1,1,1,1,0,0,0,0,0,0,0,0,0,0,0] 0 H;replace H:=VM VB V7 H;replace H:=Js [1,1,1,1,0] 0 H;exact Q3 (Jy H rfl fun w' H' => .inr ⟨k,n,e,hv,rfl,rfl,hk,.inr ⟨h0,rfl,H'⟩⟩)
  ·rw[if_neg h0] at H;replace H:=Js [4,0,0,0,1,1,1,1,1,1,1] 5 H;replace H:=VM hw hm H;exact Q3 (Jy H rfl fun w' H' => .inr ⟨k,n,e,hv,rfl,rfl,hk,.inl ⟨h0,rfl,H'⟩⟩)
 ·rintro v w (⟨hv,rfl,H⟩|⟨k,n,e,hv,rfl,rfl,hk,(⟨h0,rfl,H⟩|⟨h0,rfl,H⟩)⟩)
  ·rw[LY hv];refine Za H ?_;refine J3 H ?_;exact Q3 (Jy H rfl fun w' H'=>⟨rfl,H'⟩)
  ·rw[E1 hv,if_neg h0];refine ZZ H ?_;rw[show (((Qb (Qc s e) e.ws.length place true:Nat):Int) == 0)=false by simpa using h0];refine FQ H ?_;exact Q3 (Jy H rfl fun w' H'=>⟨rfl,H'⟩)
  ·rw[E1 hv,if_pos h0,Int.toNat_natCast];have hN:=fun (w:World) (fr:List Q2) (H:Q0 w (QD p (Y6 s k n { e with ws:=e.ws.set place.toNat (Vm l) })::fr))=>re p (Y6 s k n { e with ws:=e.ws.set place.toNat (Vm l) }) k n { e with ws:=e.ws.set place.toNat (Vm l) } (by show (s.tab.set k _)[k]? = _;simp[(List.getElem?_eq_some_iff.1 hk).1]) place l H;rw[Y7] at hN;refine ZZ H ?_;refine J6 H ?_;refine Qt (fun ms σ w=>ms=[]∧σ 9 = .int .i64 0∧Q0 w (QD p { Y6 s k n { e with ws:=e.ws.set place.toNat (Vm l) } with rem:=Zx (Y6 s k n { e with ws:=e.ws.set place.toNat (Vm l) }) k { e with ws:=e.ws.set place.toNat (Vm l) } place l }::fr)) ?_ ?_
   ·refine YU rfl ?_;refine UJ H ?_;refine Gs H ?_;refine WY H ?_;refine CK H ?_;replace H:=Js [4,0,0,0,0] 0 H;refine Jc rfl rfl (hN _ _ H) ?_;intro v w H;refine J2 H ?_;replace H:=Js [0] 4 H;exact⟨rfl,rfl,rfl,H⟩
   ·rintro ms σ w ⟨rfl,g9,H⟩;rw[Q1 g9];refine J3 H ?_;exact Q3 (Jy H rfl fun w' H'=>⟨rfl,H'⟩)
def GV (s:CS) (i g place u v:Int):CS×Nat:=
 if (Yu s i g place).2≠0 then (s,(Yu s i g place).2)
 else if (V4 s.tab u v).isNone then (s,8) else Xl s i g place (.obj u.toNat v.toNat)
theorem TM {s:CS} (h:WF s) {k g:Nat} {e:Q9} (hk:s.tab[k]? = some ⟨g,some e⟩):JY k g:=by
 have h1:=(List.getElem?_eq_some_iff.1 hk).1;have h2:=h.slots.2;have h3:=h.gen _ _ hk;exact⟨by omega,h3.2 rfl,h3.1⟩
theorem iX [Q4] (p:Nat) (s:CS) (i g place u v:Int) {w:World} {fr:List Q2} (H:Q0 w (QD p s::fr)) :
  Calls Tryz.prog 32 #[pp p,GJ i g,.int .i64 place,GJ u v] w (ret fun x w'=>x = .int .i64 ((GV s i g place u v).2:Nat)∧Q0 w' (QD p (GV s i g place u v).1::fr)):=by
 obtain⟨a1,a2,a3,Y7⟩:=Xf (Yu s i g place).1;refine QQ Tryz.func32 rfl (by kernel_rfl) ?_;refine J8 H ?_;intro b5 w H;refine Rj H ?_;intro b7 w H;refine B5 H ?_;refine Jv ?_;replace H:=Js [2,0,0] 0 H;refine Jc rfl rfl (L5 p s i g place H) ?_;rintro v w ⟨rfl,H⟩;rw[Y7];refine YC H ?_;intro b9 w H;refine J5 H ?_;intro w H;refine ZZ H ?_;by_cases h0:(Yu s i g place).2=0
 ·have hT:GV s i g place u v=if (V4 s.tab u v).isNone then (s,8) else Xl s i g place (.obj u.toNat v.toNat):=by unfold GV;rw[if_neg (by simpa using h0)]
  rw[hT,h0];refine Vk H ?_;refine Xy H ?_;replace H:=Js [1,0,0,0] 0 H;refine Jc rfl rfl (iV p s u v H) ?_;rintro v w ⟨rfl,H⟩;cases hv:V4 s.tab u v with
  | none=>
   refine YC H ?_;intro b11 w H;refine J5 H ?_;intro w H;refine Ir H ?_;replace H:=Js [1] 4 H;exact Q3 (Jy H rfl fun w' H'=>⟨rfl,H'⟩)
  | some x=>
   obtain⟨k,f⟩:=x;obtain⟨n,rfl,rfl,hk,hh⟩:=U2 hv
   have QK:JY k n:=by
    obtain⟨q,mem,hw,hm,_⟩:=YQ (H.pull 0);exact TM hw hk
   refine YC H ?_;intro b11 w H;refine J5 H ?_;intro w H;refine Za H ?_;refine It H ?_;refine CK H ?_;refine WV H ?_;replace H:=Js [1,0,0,0,0] 0 H;refine Jc rfl rfl (iU p s i g place (.obj k n) QK H) ?_;rintro v w ⟨rfl,H⟩;refine J0 H ?_;replace H:=Js [0] 4 H;exact Q3 (Jy H rfl fun w' H'=>⟨rfl,H'⟩)
 ·have hT:GV s i g place u v=(s,(Yu s i g place).2):=by unfold GV;rw[if_pos h0]
  rw[hT];rw[show ((((Yu s i g place).2:Nat):Int) != 0)=true by simpa using h0];refine G7 H ?_;replace H:=Js [1] 3 H;exact Q3 (Jy H rfl fun w' H'=>⟨rfl,H'⟩)
theorem ri [Q4] (p:Nat) (s:CS) (i g place:Int) {w:World} {fr:List Q2} (H:Q0 w (QD p s::fr)) :
  Calls Tryz.prog 169 #[pp p,GJ i g,.int .i64 place] w (ret fun x w'=>x = .int .i64 ((Xl s i g place .none).2:Nat)∧Q0 w' (QD p (Xl s i g place .none).1::fr)):=by
 refine QQ Tryz.func169 rfl (by kernel_rfl) ?_;refine J8 H ?_;intro b4 w H;refine B5 H ?_;refine Jv ?_;refine WV H ?_;refine Jc rfl rfl (iU p s i g place .none trivial H.swap) ?_;rintro v w ⟨rfl,H⟩;refine J0 H ?_;replace H:=Js [0] 1 H;exact Q3 (Jy H rfl fun w' H'=>⟨rfl,H'⟩)
def BS (s:CS) (a b:Nat):CS:=
 match Ql s.tab a b with
 | some (k,e)=>Y6 s k b { e with held:=true }
 | none=>s
theorem LZ {s:CS} {a b:Nat} (h:Ql s.tab a b=none):BS s a b=s:=by unfold BS;rw[h]
theorem LG {s:CS} {a b k:Nat} {e:Q9} (h:Ql s.tab a b=some (k,e)):BS s a b=Y6 s k b { e with held:=true }:=by unfold BS;rw[h]
def UU (s:CS) (i g place:Int):CS:=
 match Yu s i g place with
 | (.obj a b,0)=>BS s a b
 | _=>s
theorem rj [Q4] (p:Nat) (s:CS) (i g place:Int) {w:World} {fr:List Q2} (H:Q0 w (QD p s::fr)) :
  Calls Tryz.prog 166 #[pp p,GJ i g,.int .i64 place] w (ret fun v w'=>v = .tuple #[GS (Yu s i g place).1,.int .i64 ((Yu s i g place).2:Nat)]∧Q0 w' (QD p (UU s i g place)::fr)):=by
 obtain⟨a1,a2,a3,Y7⟩:=Xf (Yu s i g place).1;rw[Y7];refine QQ Tryz.func166 rfl (by kernel_rfl) ?_;refine J8 H ?_;intro b4 w H;refine VO H ?_;intro b6 w H;refine B5 H ?_;refine Jv ?_;replace H:=Js [2,0,0] 0 H;refine Jc rfl rfl (L5 p s i g place H) ?_;rintro v w ⟨rfl,H⟩;rw[Y7];refine YC H ?_;intro b8 w H;refine J5 H ?_;intro w H;refine J0 H ?_;replace H:=Js [1,0,0] 1 H;have fin:∀ (σ:QB) (w:World),σ 6=pp b6→σ 8=pp b8→σ 9 = .int .i64 ((Yu s i g place).2:Nat)→Q0 w (QD p (UU s i g place)::pts b8 (row 88 [.int .i64 a1,.int .i64 a2,.int .i64 a3])::pts b6 (row 88 [.int .i64 0,.int .i64 0,.int .i64 0])::fr)→True:=fun _ _ _ _ _ _=>trivial;clear fin;generalize hq:Yu s i g place=r at Y7 H ⊢;obtain⟨k,er⟩:=r
 have E0:(¬ (er=0∧a1=2)∧UU s i g place=s)∨∃ a b:Nat,k = .obj a b∧er=0∧a1=2∧a2=a∧a3=b∧UU s i g place=BS s a b:=by
  have hr:UU s i g place=(match (k,er) with|(.obj a b,0)=>BS s a b|_=>s):=by unfold UU;rw[hq]
  cases k with
  | none=>injection Y7 with h;simp at h;exact .inl ⟨by omega,hr⟩
  | grave=>injection Y7 with h;simp at h;exact .inl ⟨by omega,hr⟩
  | obj a b=>
   injection Y7 with h
   simp at h;cases er with
   | zero=>exact .inr ⟨a,b,rfl,rfl,by omega,by omega,by omega,hr⟩
   | succ er=>exact .inl ⟨by omega,hr⟩
 rcases E0 with ⟨VK,hr⟩|⟨a,b,rfl,rfl,rfl,rfl,rfl,hr⟩
 ·rw[hr];refine J9 H ?_;by_cases h0:er=0
  ·subst h0;rw[show (((0:Nat):Int) == 0)=true from rfl];refine Ex H ?_;rw[show (a1 == 2)=false by simp;intro h;exact VK ⟨rfl,h⟩];refine YT H ?_;refine B6 H ?_;intro w H;refine J0 H ?_;replace H:=Js [2,0] 1 H;exact Q3 (Jz H (fun w' H' => .cellN H' rfl (by repeat first|exact .nil _|apply QY.cons rfl) (.tmp .nil)) fun w' H'=>⟨rfl,H'.drop⟩)
  ·rw[show (((er:Nat):Int) == 0)=false by simpa using h0];refine Mr H ?_;refine YT H ?_;refine B6 H ?_;intro w H;refine J0 H ?_;replace H:=Js [2,0] 1 H;exact Q3 (Jz H (fun w' H' => .cellN H' rfl (by repeat first|exact .nil _|apply QY.cons rfl) (.tmp .nil)) fun w' H'=>⟨rfl,H'.drop⟩)
 ·rw[hr];refine YJ H ?_;refine Ug H ?_;refine J0 H ?_;obtain⟨e1,e2,h1,h2,e4,Y4⟩:=JT (Ql s.tab a b);refine J6 H ?_;refine Qt (fun ms σ w=>ms=[]∧σ 6=pp b6∧σ 8=pp b8∧σ 9 = .int .i64 0∧Q0 w (QD p (BS s a b)::pts b8 (row 88 [.int .i64 2,.int .i64 a,.int .i64 b])::pts b6 (row 88 [.int .i64 0,.int .i64 0,.int .i64 0])::fr)) ?_ ?_
  ·refine Vt H ?_;obtain⟨q,mem,hw,hm,H⟩:=YQ H;refine J6 H ?_
   refine Qt (fun ms σ w=>ms=[]∧∃ b10,σ 0=pp p∧σ 6=pp b6∧σ 8=pp b8∧σ 9 = .int .i64 0∧σ 10=pp b10 ∧
     Q0 w (pts b10 (row 113 [.int .i64 e1,.int .i64 e2,.bool h1,.bool h2])::QD p s::pts b8 (row 88 [.int .i64 2,.int .i64 a,.int .i64 b])::pts b6 (row 88 [.int .i64 0,.int .i64 0,.int .i64 0])::fr)) ?_ ?_
   ·replace H:=Js [4,0,0,0,0,0,0,0,0,0,0,0,0] 0 H;refine J1 H ?_;intro w H;refine YI H ?_;refine Fc H ?_;refine Jw 6 10 H rfl rfl (V3 (a:=[]) (b:=[]) rfl rfl (call (UZ q.tp s.tab a b H) ?_)) (YW H rfl ?_)
    ·rintro v w ⟨rfl,H⟩;rw[Y4];refine CR H ?_;intro b10 w H;refine Kv H ?_;intro w H;refine KN H ?_;replace H:=Js [2,2,2,2,1,1,1,1,1,1,1,0,0,0] 0 H;have H:=VM hw hm H;exact⟨rfl,rfl,b10,rfl,rfl,rfl,rfl,rfl,H.swap⟩
    ·intro b10 w H;refine Jo 6 H ?_;refine Jk rfl rfl (UZ q.tp s.tab a b H.swap) ?_;rintro v w ⟨rfl,H⟩;rw[Y4];refine Il H ?_;intro w H;refine KN H ?_;replace H:=Js [2,2,2,2,0,1,1,1,1,1,1,0,0,0] 0 H;have H:=VM hw hm H;exact⟨rfl,rfl,b10,rfl,rfl,rfl,rfl,rfl,H.swap⟩
   ·rintro ms σ w ⟨rfl,b10,g0,g6,g8,g9,g10,H⟩;rw[Q1 g0,Q1 g6,Q1 g8,Q1 g9,Q1 g10];refine Ui H ?_;refine Rh H ?_;intro w H;refine J2 H ?_;obtain⟨q,mem,hw,hm,H⟩:=YQ H.swap;cases hL:Ql s.tab a b with
    | none=>
     rw[hL] at Y4;cases Y4;rw[LZ hL];replace H:=Js [4,0,0,0,0,0,0,0,0,0,0,0,0,0] 0 H;refine J1 H ?_;intro w H;refine Ja 0 ?_;refine Ja 1 ?_;refine Jf 2 ?_;refine Jl 3 [7] H ?_;refine Jf 4 ?_;refine SY H ?_;refine N4 H ?_;refine Jk rfl rfl (JS q.tp s.tab a b ⟨0,0,true,false,0,0,[]⟩ H) ?_;rintro v w (⟨k',e',AX,rfl,H⟩|⟨_,rfl,H⟩)
     ·rw[hL] at AX;cases AX
     ·refine Jx H ?_;replace H:=Js [1,1,1,1,0,0,0,0,0,0,0,1,1] 1 H;have H:=VM hw hm H;exact⟨rfl,rfl,rfl,rfl,rfl,H⟩
    | some x=>
     obtain⟨kk,f⟩:=x;rw[hL] at Y4;cases Y4;rw[LG hL];obtain⟨n,R7,oz,hk⟩:=Z1.1 hL;obtain rfl:a=kk:=by omega
     obtain rfl:b=n:=by omega
     replace H:=Js [4,0,0,0,0,0,0,0,0,0,0,0,0,0] 0 H;refine J1 H ?_;intro w H;refine Ja 0 ?_;refine Ja 1 ?_;refine Jf 2 ?_;refine Jl 3 [7] H ?_;refine Jf 4 ?_;refine SY H ?_;refine N4 H ?_;refine Jk rfl rfl (JS q.tp s.tab a b { f with held:=true } H) ?_;rintro v w (⟨k',e',AX,rfl,H⟩|⟨AX,rfl,H⟩)
     ·rw[hL] at AX;cases AX;refine Jx H ?_;replace H:=Js [1,1,1,1,0,0,0,0,0,0,0,1,1] 1 H;have H:=TD (e':={ f with held:=true }) hw hm hk ⟨rfl,rfl,rfl,rfl,rfl⟩ rfl H;exact⟨rfl,rfl,rfl,rfl,rfl,H⟩
     ·rw[hL] at AX;cases AX
  ·rintro ms σ w ⟨rfl,g6,g8,g9,H⟩;rw[Q1 g6,Q1 g8,Q1 g9];refine B6 H ?_;intro w H;refine J0 H ?_;replace H:=Js [2,0] 1 H;exact Q3 (Jz H (fun w' H' => .cellN H' rfl (by repeat first|exact .nil _|apply QY.cons rfl) (.tmp .nil)) fun w' H'=>⟨rfl,H'.drop⟩)
def RG (s:CS) (ws:List Nat):CS×Nat×Nat:=
 match Gw ws with
 | none=>(s,0,4)
 | some l=>if s.lays.length=64 then (s,0,5) else ({ s with lays:=s.lays++[l] },s.lays.length+1,0)
theorem LU {s:CS} {ws:List Nat} (h:Gw ws=none):RG s ws=(s,0,4):=by unfold RG;rw[h]
theorem HG {s:CS} {ws:List Nat} {l:Qa} (h:Gw ws=some l):RG s ws=if s.lays.length=64 then (s,0,5) else ({ s with lays:=s.lays++[l] },s.lays.length+1,0):=by unfold RG;rw[h]
theorem rl {ws:List Nat} (h:ws.length≠3):Gw ws=none:=by
 match ws with
 | []=>rfl
 | [_]=>rfl
 | [_,_]=>rfl
 | [_,_,_]=>exact absurd rfl h
 | _::_::_::_::_=>rfl
theorem rm [Q4] (v:Value) (ws:List Nat) (Yr:∀ x∈ws,x < 18446744073709551616) {w:World} {fr:List Q2} [hT:Z5 0 Lib.deBruijn64tab fr] (hr:YM fr v ws.length 1 (Qj ws)) (H:Q0 w fr) :
  Calls Tryz.prog 86 #[v] w (ret fun r w'=>(Gw ws=none∧r = .tuple #[GD 0 (.slice none 0 0) 0 (.slice none 0 0),.int .i64 4]∧Q0 w' fr) ∨
   ∃ l vr vq,Gw ws=some l∧r = .tuple #[GD l.fixed vr l.record vq,.int .i64 0]∧Q0 w' (NL vr l.refs::NL vq l.recs::fr)):=by
 by_cases h3:ws.length=3
 ·obtain⟨x,y,z,rfl⟩:∃ x y z,ws=[x,y,z]:=by
   match ws,h3 with
   | [x,y,z],_=>exact⟨x,y,z,rfl⟩
  exact po v x y z (Yr x (by simp)) (Yr y (by simp)) (Yr z (by simp)) hr H
 ·obtain⟨_,a,c,rfl,_⟩:=id hr;exact call (pn _ ws.length h3 ⟨a,c,rfl⟩ H) fun r w h => .inl ⟨rl h3,h.1,h.2⟩
theorem iK [Q4] (p:Nat) (s:CS) (v:Value) (ws:List Nat) (Yr:∀ x∈ws,x < 18446744073709551616) {w:World} {fr:List Q2} [hT:Z5 0 Lib.deBruijn64tab fr] (hr:YM fr v ws.length 1 (Qj ws)) (H:Q0 w (QD p s::fr)) :
  Calls Tryz.prog 29 #[pp p,v] w (ret fun x w'=>x = .tuple #[.int .i64 ((RG s ws).2.1:Nat),.int .i64 ((RG s ws).2.2:Nat)]∧Q0 w' (QD p (RG s ws).1::fr)):=by
 obtain⟨_,av,cv,rfl,_⟩:=id hr;refine QQ Tryz.func29 rfl (by kernel_rfl) ?_;refine Mn H ?_;refine Z6 H ?_;refine Jc rfl rfl (rm _ ws Yr hr.there H) ?_;rintro v w (⟨hd,rfl,H⟩|⟨l,vr,vq,hd,rfl,H⟩)
 ·rw[LU hd];refine YC H ?_;intro b6 w H;refine J5 H ?_;intro w H;refine Fe H ?_;replace H:=Js [1] 1 H;exact Q3 (Jy H rfl fun w' H'=>⟨rfl,H'⟩)
 ·obtain⟨aa,ma,rfl⟩:=QI H (QM _) (by decide);obtain⟨ab,mb,rfl⟩:=QI H.drop (QM _) (by decide);rw[HG hd];refine YC H ?_;intro b6 w H;refine J5 H ?_;intro w H;refine Za H ?_;replace H:=Js [3,0,0,0] 0 H;obtain⟨q,mem,hw,hm,H⟩:=YQ H;have hR:=pe hd;replace H:=Js [12,12,2,0,0,0,0,0,0,0,0,0,0,0] 0 H;obtain⟨D1,H,Y5,Vo⟩:=sls_rd H (QM _) (by decide);obtain⟨D2,H,Zl,ZU⟩:=sls_rd H.swap (QM _) (by decide);refine J1 H ?_;intro w H;refine Ja 0 ?_;refine Ja 1 ?_;refine Jf 2 ?_;refine Jl 3 [5] H ?_;refine Vz 4 [5] H rfl (Q8.none rfl) rfl (by repeat first|exact .nil _|apply QY.cons rfl) (by kernel_rfl) ?_;replace H:=Js [2,1,0] 0 H;refine Jo 5 H ?_;refine Jk rfl rfl (pt q.bp s.lays _ _ l hR ⟨Y5 _,(Zl _).there⟩ H) ?_;rintro v w (⟨Y3,rfl,H⟩|⟨Y3,rfl,H⟩)
  ·rw[if_pos Y3];refine DP H ?_;refine Ja 9 ?_;refine Jx H ?_;replace H:=Js [3,3,0,2,2,2,2,2,2,2,2] 3 H;have H:=VM hw hm H;exact Q3 (Jy H rfl fun w' H'=>⟨rfl,H'⟩)
  ·rw[if_neg (by omega)];refine DP H ?_;refine Ja 9 ?_;refine Jx H ?_;replace H:=Js [3,3,0,2,2,2,2,2,2,2,2] 3 H;have H:=VM (s:={ s with lays:=s.lays++[l] }) (qN hw hR Y3) ⟨hm.len,hm.head,hm.words⟩ H;exact Q3 (Jy H rfl fun w' H'=>⟨rfl,H'⟩)
@[reducible] def E2 (s:CS) (parent:Int) (b b2:Nat):CS:=
 { s with last:=s.last+1,par:=s.par++[(((s.last+1:Nat):Int),parent)],sps:=s.sps++[(((s.last+1:Nat):Int),b,⟨[],0,0⟩)],mns:=s.mns++[(((s.last+1:Nat):Int),b2,[])] }
theorem TO [Q4] (p:Nat) (s:CS) (parent:Int) (Gc:s.last+1 < 1000000) {w:World} {fr:List Q2} (H:Q0 w (QD p s::fr)) :
  Calls Tryz.prog 30 #[pp p,.int .i64 parent] w (ret fun x w'=>(Gf s.par parent≠0∧x = .tuple #[.int .i64 0,.int .i64 (Gf s.par parent)]∧Q0 w' (QD p s::fr)) ∨
   (Gf s.par parent=0∧∃ b b2,x = .tuple #[.int .i64 ((s.last+1:Nat):Int),.int .i64 0]∧Q0 w' (QD p (E2 s parent b b2)::fr))):=by
 obtain⟨q,mem,hw,hm,H⟩:=YQ H;refine QQ Tryz.func30 rfl (by kernel_rfl) ?_;refine Mn H ?_;refine Vb H ?_;replace H:=Js [5,0,0,0,0,0,0,0,0,0,0] 0 H;refine Jc rfl rfl (gA q.trp s.last s.par parent (by omega) (fun r x hx=>(hw.par.2.2 r x hx).2) H) ?_;rintro v w (⟨he,rfl,H⟩|⟨he,rfl,H⟩)
 ·refine FY H ?_;rw[show (((Gf s.par parent:Nat):Int) != 0)=true by simpa using he];refine NQ H ?_;replace H:=Js [1,1,1,1,1,0,0,0,0,0,0] 0 H;have H:=VM hw hm H;exact Q3 (Jy H rfl fun w' H' => .inl ⟨he,rfl,H'⟩)
 ·have TP:s.par.length < 64:=by
   unfold Gf at he;split at he
   ·omega
   ·split at he
    ·omega
    ·have:=hw.par.1;omega
  have AD:∀ {α:Type} (l:List (Int×α)),l.map (·.1)=s.par.map (·.1)→((s.last+1:Nat):Int)∉l.map (·.1):=by
   intro α l hl VR;rw[hl] at VR;obtain⟨⟨r,x⟩,hx,h1⟩:=mem_map.1 VR;have h1:r=((s.last+1:Nat):Int):=h1;have:=(hw.par.2.2 r x hx).2;omega
  have SC:((s.last+1:Nat):Int)∉(s.sps.map Vv).map (·.1):=AD _ (by rw[map_map];exact hw.skeys);have Sp:((s.last+1:Nat):Int)∉(s.mns.map VX).map (·.1):=AD _ (by rw[map_map];exact hw.mkeys);refine UI H ?_;refine J1 H ?_;intro w H;refine YI H ?_;refine Jl 3 [14] H ?_;refine Mp H ?_;refine Jl 8 [10,14] H ?_;refine Ja 9 ?_;refine Jo 10 H ?_;refine Jk rfl rfl (T0 q.sp (s.last+1) (by omega) H) ?_;rintro v w ⟨b,rfl,H⟩;refine Ff H ?_;refine Jo 14 H ?_;refine W7 (ek:=ki .i64) (vv:=V2) (v:=b) (key:=((s.last+1:Nat):Int)) H rfl rfl rfl Vp rfl ?_;intro w H;rw[Wp SC,show s.sps.map Vv++[(((s.last+1:Nat):Int),b)]=(s.sps++[(((s.last+1:Nat):Int),b,(⟨[],0,0⟩:QP))]).map Vv by simp] at H;refine Jx H ?_;refine J1 H ?_;intro w H;refine FA H ?_;refine Ja 4 ?_;refine Jo 5 H ?_;refine Jk rfl rfl (T5 H) ?_;rintro v w ⟨b2,rfl,H⟩
  refine Jo 6 H ?_;refine W7 (ek:=ki .i64) (vv:=V2) (v:=b2) (key:=((s.last+1:Nat):Int)) H rfl rfl rfl Vp rfl ?_;intro w H;rw[Wp Sp,show s.mns.map VX++[(((s.last+1:Nat):Int),b2)]=(s.mns++[(((s.last+1:Nat):Int),b2,([]:List Nat))]).map VX by simp] at H;refine Jx H ?_;refine Vj H ?_;replace H:=Js [1,9,2,2,2,2,2,1,1,1,1,1,0] 0 H;have H:=(Q0.pick (R:=Y0 q.sp) (x:=(((s.last+1:Nat):Int),b,(⟨[],0,0⟩:QP))) (g1:=s.sps) (g2:=[]) rfl).2 (by rw[append_nil];exact H);replace H:=Js [11,10,0,0,0,0,0,0,0,0,0,0] 0 H;have H:=(Q0.pick (R:=VG) (x:=(((s.last+1:Nat):Int),b2,([]:List Nat))) (g1:=s.mns) (g2:=[]) rfl).2 (by rw[append_nil];exact H);replace H:=Js [2,2,2,2,2,2,2,2,1,1,0] 0 H;have H:=VM (s:=E2 s parent b b2) (qL hw TP Gc) ⟨hm.len,hm.head,hm.words⟩ H;exact Q3 (Jy H rfl fun w' H' => .inr ⟨he,b,b2,rfl,H'⟩)
theorem iR [Q4] (n size slots:Nat) (h1:1≤n) (h2:n≤63) (h3:1≤size) (h4:size≤1024) (h5:1≤slots) (h6:slots≤63) {w:World} {fr:List Q2} (H:Q0 w fr) :
  Calls Tryz.prog 28 #[.int .i64 n,.int .i64 size,.int .i64 slots] w (ret fun v w'=>∃ p,v = .tuple #[pp p,.int .i64 0] ∧
   Q0 w' (QD p ⟨size,List.replicate n 0,[],List.replicate slots ⟨0,none⟩,0,[],[],[],[]⟩::fr)):=by
 refine QQ Tryz.func28 rfl (by kernel_rfl) ?_;refine WR H ?_;refine Jc rfl rfl (pP n size h1 (by omega) h3 h4 H) ?_;rintro v w ⟨sp,rfl,H⟩;refine UI H ?_;refine Z6 H ?_;refine Jc rfl rfl (rW slots h5 h6 H) ?_;rintro v w ⟨tp,rfl,H⟩;refine UI H ?_;refine Ui H ?_;refine Jc rfl rfl (pr H) ?_;rintro v w ⟨bp,rfl,H⟩;refine J0 H ?_;refine J9 H ?_;refine Jc rfl rfl (qP sp bp H) ?_;rintro v w ⟨ip,rfl,H⟩;refine Gt H ?_;refine A2 H ?_;refine Jc rfl rfl (qA H) ?_;rintro v w ⟨trp,rfl,H⟩;refine Jc rfl rfl (qK H) ?_;rintro v w ⟨rp,rfl,H⟩;refine Q5 rfl (Ao V2 (ki .i64) H rfl ?_);intro sm w H;refine Q5 rfl (Ao V2 (ki .i64) H rfl ?_);intro mm w H;refine WG H ?_;intro b47 w H;refine J4 H ?_;have RU:∀ {i:Nat} {t:QW},(List.replicate slots (⟨0,none⟩:QW))[i]? = some t→t=⟨0,none⟩:=fun h=>eq_of_mem_replicate (mem_of_getElem? h);have rn:∀ {i r:Nat},(List.replicate n 0)[i]? = some r→r=0:=fun h=>eq_of_mem_replicate (mem_of_getElem? h)
 have hw:WF ⟨size,List.replicate n 0,[],List.replicate slots ⟨0,none⟩,0,[],[],[],[]⟩:=by
  refine⟨⟨h3,h4⟩,by simp;omega,by simp;omega,by simp,fun i t h=>?_,fun i g e h=>?_,fun i j g h e f _ hi _=>?_,by simp,rfl,rfl,by simp,by simp,fun c r h h0=>?_,by simp⟩
  ·have:=RU h;subst this;simp
  ·have:=RU h;cases this
  ·have:=RU hi;cases this
  ·exact absurd (rn h) h0
 have hm:YY ⟨size,List.replicate n 0,[],List.replicate slots ⟨0,none⟩,0,[],[],[],[]⟩ (List.replicate (n*size) 0):=by
  refine⟨by simp,fun i g e h=>?_,fun i g e h=>?_⟩
  ·have:=RU h;cases this
  ·have:=RU h;cases this
 have H:Q0 w (star (([]:List (Int×Nat×QP)).map (Y0 sp))::_):=Q0.star.2 H;have H:Q0 w (star (([]:List (Int×Nat×List Nat)).map VG)::_):=Q0.star.2 H;replace H:=Js [2,6,6,7,6,5,4,3,1,1,0] 0 H;have H:=VM (s:=⟨size,List.replicate n 0,[],List.replicate slots ⟨0,none⟩,0,[],[],[],[]⟩) (q:=⟨sp,bp,ip,tp,trp,rp,sm,mm⟩) hw hm H;exact Q3 (Jy H rfl fun w' H'=>⟨_,rfl,H'⟩)
def XX (size:Nat) (x:Nat×Nat) (e:Q9):Prop:=(x.2=1∧x.1*size≤e.addr∧QT e≤(x.1+1)*size)∨(2≤x.2∧e.addr=x.1*size∧x.2=e.ws.length / size+1)
def Yc (s:CS):Prop:=∀ (k g:Nat) (e:Q9),s.tab[k]? = some ⟨g,some e⟩→∃ x∈s.sps,x.1=e.region∧∃ y∈x.2.2.parts,XX s.size y e
theorem XX.alike {size:Nat} {x:Nat×Nat} {e e':Q9} (h:XX size x e) (h1:e'.addr=e.addr) (h2:e'.ws.length=e.ws.length):XX size x e':=by
 unfold XX QT at *;rw[h1,h2];exact h
theorem ro {size:Nat} (hs:1≤size) {x:Nat×Nat} {e:Q9} (h:XX size x e):x.1*size≤e.addr∧QT e≤(x.1+x.2)*size:=by
 rcases h with ⟨h1,h2,h3⟩|⟨h1,h2,h3⟩
 ·rw[h1];exact⟨h2,h3⟩
 ·refine⟨by omega,?_⟩;have h4:e.ws.length < (e.ws.length / size+1)*size:=Nat.lt_mul_of_div_lt (Nat.lt_succ_self _) (by omega);rw[Nat.add_mul,h3];unfold QT;omega
theorem rq {s:CS} (hP:Yc s) {i g0 r q:Nat} {S S':QP} {p1 p2:List (Int×Nat×QP)} (hs:s.sps=p1++((r:Int),q,S)::p2) {e:Q9} (Gx:e.region=r) {own' mem mem':List Nat} (Va:1≤s.size) (hS:Xb s.size s.own r S)
  (al:KT s.size s.own mem r S (e.ws.length+1) own' mem' S' e.addr) {s':CS} (h1:s'.size=s.size) (h2:s'.tab=s.tab.set i ⟨g0+1,some e⟩) (h3:s'.sps=p1++((r:Int),q,S')::p2):Yc s':=by
 have Xw:(∀ y∈S.parts,y∈S'.parts)∧∃ y∈S'.parts,XX s.size y e:=by
  generalize hea:e.addr=ad at al;cases al with
  | room hn=>
   have AR:S.fin≠0:=by omega
   obtain⟨c,Zs,UM,R6⟩:=hS.fin AR;refine⟨fun y hy=>hy,(c,1),R6,.inl ⟨rfl,?_,?_⟩⟩
   ·show c*s.size≤e.addr;omega
   ·show QT e≤(c+1)*s.size;unfold QT;omega
  | @one a ha hf hn=>
   refine⟨fun y hy=>mem_append.2 (.inl hy),(a,1),by simp,.inl ⟨rfl,?_,?_⟩⟩
   ·show a*s.size≤e.addr;omega
   ·show QT e≤(a+1)*s.size;have:(a+1)*s.size=a*s.size+s.size:=Nat.succ_mul _ _;unfold QT;omega
  | @run a k hk ha hf hn Gv=>
   refine⟨fun y hy=>mem_append.2 (.inl hy),(a,k),by simp,.inr ⟨hk,hea,?_⟩⟩;show k=e.ws.length / s.size+1;have h4:(k - 1)*s.size≤e.ws.length:=by omega
   have h5:k - 1≤e.ws.length / s.size:=(Nat.le_div_iff_mul_le (by omega)).2 h4;have h6:e.ws.length / s.size < k:=(Nat.div_lt_iff_lt_mul (by omega)).2 (by omega);omega
 intro j n f hj;rw[h2] at hj;rw[h1,h3]
 rcases VE hj with ⟨rfl,u1,_⟩|⟨h0,hj⟩
 ·injection u1 with _ u1
  injection u1 with u1
  subst u1;obtain⟨y,y1,y2⟩:=Xw.2;exact⟨((r:Int),q,S'),by simp,Gx.symm,y,y1,y2⟩
 ·obtain⟨x,x1,x2,y,y1,y2⟩:=hP j n f hj;rw[hs] at x1
  rcases XQ x1 with rfl|x1
  ·exact⟨((r:Int),q,S'),by simp,x2,y,Xw.1 y y1,y2⟩
  ·exact⟨x,Rt x1,x2,y,y1,y2⟩
structure Yv (s s':CS):Prop where
 par:s'.par=s.par
 sps:s'.sps=s.sps
 size:s'.size=s.size
 tab:∀ (k g:Nat) (e':Q9),s'.tab[k]? = some ⟨g,some e'⟩→∃ e,s.tab[k]? = some ⟨g,some e⟩∧e'.region=e.region∧e'.addr=e.addr∧e'.ws.length=e.ws.length
theorem Yv.refl (s:CS):Yv s s:=⟨rfl,rfl,rfl,fun k g e h=>⟨e,h,rfl,rfl,rfl⟩⟩
theorem Yv.part {s s':CS} (h:Yv s s') (hP:Yc s):Yc s':=by
 intro k g e' hk;obtain⟨e,h1,h2,h3,h4⟩:=h.tab k g e' hk;obtain⟨x,x1,x2,y,y1,y2⟩:=hP k g e h1;rw[h.sps,h.size,h2];exact⟨x,x1,x2,y,y1,y2.alike h3 h4⟩
theorem Yv.set {s:CS} {k g:Nat} {e e':Q9} (hk:s.tab[k]? = some ⟨g,some e⟩) (a:e'.region=e.region∧e'.addr=e.addr∧e'.ws.length=e.ws.length) (R:List ((Int×Int)×Int)):Yv s { Y6 s k g e' with rem:=R }:=by
 refine⟨rfl,rfl,rfl,fun j n f hj=>?_⟩;have hj:(s.tab.set k ⟨g,some e'⟩)[j]? = some ⟨n,some f⟩:=hj
 rcases VE hj with ⟨rfl,h1,_⟩|⟨_,h1⟩
 ·injection h1 with h1 h2
  injection h2 with h2
  subst h1 h2;exact⟨e,hk,a⟩
 ·exact⟨f,h1,rfl,rfl,rfl⟩
open Go.SL Go.Lib
theorem LX [Q4] {E b:Nat} {post:List Value} {fr:List Q2}:∀ (new old pre:List Value) {w:World},old.length=new.length→Q0 w (pts b (row E (pre++old++post))::fr)→Q0 (w.setCells b pre.length new) (pts b (row E (pre++new++post))::fr)
 | [],old,pre,w,hl,H=>by
  obtain rfl:old=[]:=length_eq_zero_iff.1 hl;exact H
 | v::r,old,pre,w,hl,H=>by
  obtain⟨o,t,rfl⟩:∃ o t,old=o::t:=by
   cases old with
   | nil=>cases hl
   | cons o t=>exact⟨o,t,rfl⟩
  have hb:=H.pts
  have H1:Q0 (w.setCell ⟨b,pre.length,none⟩ v) (pts b (row E (pre++v::t++post))::fr):=by
   refine H.set ?_ ?_
   ·show (w.heap.modify b _)[b]? = _;rw[Array.getElem?_modify,if_pos rfl,hb];simp only[Option.map_some,row];congr 2;simp
   ·intro c hc;show (w.heap.modify b _)[c]? = _;rw[Array.getElem?_modify,if_neg (Ne.symm hc)]
  rw[show pre++v::t++post=(pre++[v])++t++post by simp] at H1;have h2:=LX r t (pre++[v]) (by simpa using hl) H1;rw[length_append] at h2;rw[show pre++v::r++post=(pre++[v])++r++post by simp];exact h2
theorem rt [Q4] (v:Value) (l:List Nat) (x i:Nat) (hi:i < l.length) (hl:l.length≤100000) (b:Nat) {w:World} {fr:List Q2} (H:Q0 w (NL v l::pts b (row 3 [.int .i64 x])::fr)) :
  Calls Tryz.prog 154 #[v,.int .i64 i,.slice (some ⟨b,0,none⟩) 1 1] w (ret fun v w'=>Q0 w' (NL v (l.take i++x::l.drop i)::fr)):=by
 have Z4:(l.take i++x::l.drop i).length=l.length+1:=by simp;omega
 have QJ:(QH l).length=l.length:=by rw[QM];omega
 have iW:∀ v∈QH l,v.oneCell'=true:=fun v hv=>by obtain⟨y,_,rfl⟩:=mem_map.1 hv;rfl
 have iA:∀ v∈[Value.int .i64 (x:Int)],v.oneCell'=true:=fun v hv=>by rw[mem_singleton] at hv;subst hv;rfl
 rcases XI H with ⟨_,h0,_⟩|⟨b',n,cap,s,rfl,e3,e4,e5,H2⟩
 ·rw[h0] at QJ;cases l with
  | nil=>cases hi
  | cons a t=>cases QJ
 obtain rfl:n=l.length:=by omega
 have hb:=H2.pts;have hx:=H2.swap.pts;have QA:b'≠b:=Q0.ne H2
 have iB:∀ j v,[Value.int .i64 (x:Int)][j]? = some v→w.cell? ⟨b,0+j,none⟩=some v:=fun j v hj=>by
  rw[Nat.zero_add];exact Ud hx hj
 have TS:∀ j v,(QH l)[j]? = some v→w.cell? ⟨b',0+j,none⟩=some v:=fun j v hj=>by
  rw[Nat.zero_add];refine Ud hb ?_;rw[getElem?_append_left (List.getElem?_eq_some_iff.1 hj).1];exact hj
 have iC:∀ t:List Value,(QH l).take i++[Value.int .i64 (x:Int)]++((QH l).drop i++t)=QH (l.take i++x::l.drop i)++t:=by
  intro t;unfold QH;simp[map_take,map_drop]
 by_cases Wt:l.length+1≤cap
 ·obtain⟨s0,s',rfl⟩:∃ s0 s',s=s0::s':=by
   cases s with
   | nil=>simp at e5;omega
   | cons s0 s'=>exact⟨s0,s',rfl⟩
  refine(Any2.slices_Insert_int_shift Tryz.laysIns b' 0 l.length cap i b 0 1 1 (QH l) [.int .i64 x] w hi (by omega) Wt e4.2 (Ne.symm QA) QJ rfl TS ?_ (fun j _=>D5 hb) iB iW iA 3 3 1 (QH l++s0::s').length ?_ ?_ ?_ (D5 hx) (D5 hx)).mono ?_
  ·intro j hj;rw[Nat.zero_add,Ud hb (getElem?_eq_getElem (by simp;omega))];rfl
  ·simp[World.shape?,hx]
  ·simp[World.shape?,hb]
  ·simp
  ·rintro e w' ⟨rfl,rfl⟩
   have H3:Q0 w.drew (pts b' (row 3 ((QH l).take (i+1)++((QH l).drop (i+1)++[s0])++s'))::pts b (row 3 [.int .i64 x])::fr):=by
    rw[show (QH l).take (i+1)++((QH l).drop (i+1)++[s0])++s'=QH l++s0::s' by rw[← append_assoc,take_append_drop];simp];exact H2.heap rfl
   have H4:=LX ((QH l).drop i) _ _ (by simp;omega) H3;rw[show ((QH l).take (i+1)).length=0+(i+1) by rw[length_take];omega] at H4
   have TT:(QH l).take (i+1)=(QH l).take i++[(QH l)[i]'(by omega)]:=by
    rw[take_add_one,getElem?_eq_getElem (by omega)];rfl
   rw[show (QH l).take (i+1)++(QH l).drop i++s'=(QH l).take i++[(QH l)[i]'(by omega)]++((QH l).drop i++s') by rw[TT];simp] at H4;have H5:=LX [Value.int .i64 (x:Int)] [(QH l)[i]'(by omega)] ((QH l).take i) rfl H4;rw[show ((QH l).take i).length=0+i by rw[length_take];omega,iC] at H5;refine Q0.drop (Q0.swap (Gn (by rw[QM,Z4]) ⟨Wt,e4.2⟩ ?_ H5));simp at e5 ⊢;omega
 ·obtain rfl:cap=l.length:=by omega
  refine(Any2.slices_Insert_int_grow Tryz.laysIns b' 0 l.length l.length i b 0 1 1 (QH l) [.int .i64 x] w hi (by omega) (Nat.le_refl _) (by omega) (by omega) QJ rfl TS iB iW iA).mono ?_;rintro e w' ⟨rfl,rfl⟩;generalize hG:grownCap w (l.length+1) l.length _=G;have ru:l.length+1≤G:=by rw[← hG];exact grownCap_ge w _ _ _
  have Ta:G≤9223372036854775807:=by rw[← hG];exact grownCap_le_maxLen w _ _ _ (by unfold maxLen;omega)
  have H3:=H2.new (.cells (((QH l).take i).toArray++Builtin.zeroCells (Value.int .i64 0).cells (l.length+1 - i)++Builtin.zeroCells (Value.int .i64 0).cells (G - (l.length+1))) 3 (0,0));have W8:∀ k,(Builtin.zeroCells (Value.int .i64 0).cells k).toList.length=k:=fun k=>by rw[Array.length_toList,size_zeroCells];exact Nat.mul_one k
  obtain⟨z0,zt,hz⟩:∃ z0 zt,(Builtin.zeroCells (Value.int .i64 0).cells (l.length+1 - i)).toList=z0::zt:=by
   cases hh:(Builtin.zeroCells (Value.int .i64 0).cells (l.length+1 - i)).toList with
   | nil=>have:=W8 (l.length+1 - i);rw[hh] at this;simp at this;omega
   | cons z0 zt=>exact⟨z0,zt,rfl⟩
  have hzt:zt.length=l.length - i:=by
   have:=W8 (l.length+1 - i);rw[hz,length_cons] at this;omega
  have H4:Q0 (w.alloc (.cells (((QH l).take i).toArray++Builtin.zeroCells (Value.int .i64 0).cells (l.length+1 - i)++Builtin.zeroCells (Value.int .i64 0).cells (G - (l.length+1))) 3 (0,0))).drew (pts w.heap.size (row 3 ((QH l).take i++[z0]++(zt++(Builtin.zeroCells (Value.int .i64 0).cells (G - (l.length+1))).toList)))::fr):=by
   have h:=(Q0.swap H3).drop;have h:=(Q0.swap h).drop;refine(Q0.head h fun hh x=>?_).heap rfl
   have e:((QH l).take i).toArray++Builtin.zeroCells (Value.int .i64 0).cells (l.length+1 - i)++Builtin.zeroCells (Value.int .i64 0).cells (G - (l.length+1))=((QH l).take i++[z0]++(zt++(Builtin.zeroCells (Value.int .i64 0).cells (G - (l.length+1))).toList)).toArray:=by
    apply Array.ext';simp[hz]
   rw[e] at x;exact x
  have H5:=LX [Value.int .i64 (x:Int)] [z0] ((QH l).take i) rfl H4;rw[show ((QH l).take i).length=i by rw[length_take];omega] at H5
  have H6:Q0 ((w.alloc (.cells (((QH l).take i).toArray++Builtin.zeroCells (Value.int .i64 0).cells (l.length+1 - i)++Builtin.zeroCells (Value.int .i64 0).cells (G - (l.length+1))) 3 (0,0))).drew.setCells w.heap.size i [Value.int .i64 (x:Int)]).drew (pts w.heap.size (row 3 (((QH l).take i++[Value.int .i64 (x:Int)])++zt++(Builtin.zeroCells (Value.int .i64 0).cells (G - (l.length+1))).toList))::fr):=by
   rw[show ((QH l).take i++[Value.int .i64 (x:Int)])++zt++(Builtin.zeroCells (Value.int .i64 0).cells (G - (l.length+1))).toList=(QH l).take i++[Value.int .i64 (x:Int)]++(zt++(Builtin.zeroCells (Value.int .i64 0).cells (G - (l.length+1))).toList) by simp];exact H5.heap rfl
  have H7:=LX ((QH l).drop i) zt _ (by simp;omega) H6;rw[show ((QH l).take i++[Value.int .i64 (x:Int)]).length=i+1 by simp;omega,show (QH l).take i++[Value.int .i64 (x:Int)]++(QH l).drop i++(Builtin.zeroCells (Value.int .i64 0).cells (G - (l.length+1))).toList=(QH l).take i++[Value.int .i64 (x:Int)]++((QH l).drop i++(Builtin.zeroCells (Value.int .i64 0).cells (G - (l.length+1))).toList) by simp,iC] at H7;exact Gn (by rw[QM,Z4]) ⟨ru,Ta⟩ (by rw[W8];omega) H7
def Zc (l:List Nat) (x:Nat):List Nat:=l.take (Ge l x)++x::l.drop (Ge l x)
theorem rv (l:List Nat) (x:Nat):Ge l x≤l.length:=countP_le_length
theorem rz {l:List Nat} {x:Nat} (h:∀ a∈l,a < x):Zc l x=l++[x]:=by
 unfold Zc;rw[gM h,take_length,drop_length]
theorem OF {l:List Nat} {x y:Nat}:y∈Zc l x↔y=x∨y∈l:=by
 unfold Zc;rw[mem_append,mem_cons];have h:y∈l↔y∈l.take (Ge l x)∨y∈l.drop (Ge l x):=by rw[← mem_append,take_append_drop]
 rw[h];constructor
 ·rintro(h|h|h)
  ·exact .inr (.inl h)
  ·exact .inl h
  ·exact .inr (.inr h)
 ·rintro(h|h|h)
  ·exact .inr (.inl h)
  ·exact .inl h
  ·exact .inr (.inr h)
theorem s9 {a:Nat} {l:List Nat} {x:Nat} (h:a < x):Zc (a::l) x=a::Zc l x:=by
 unfold Zc
 have:Ge (a::l) x=Ge l x+1:=by
  unfold Ge;rw[countP_cons_of_pos (by simpa using h)]
 rw[this,take_succ_cons,drop_succ_cons];rfl
theorem sQ {a:Nat} {l:List Nat} {x:Nat} (hs:(a::l).Pairwise (· < ·)) (h:x < a):Zc (a::l) x=x::a::l:=by
 unfold Zc
 have:Ge (a::l) x=0:=by
  unfold Ge;rw[countP_eq_zero];intro y hy;rw[pairwise_cons] at hs
  rcases mem_cons.1 hy with rfl|hy
  ·simpa using Nat.le_of_lt h
  ·have:=hs.1 y hy;simp;omega
 rw[this];rfl
theorem OH:∀ {l:List Nat} {x:Nat},l.Pairwise (· < ·)→x∉l→(Zc l x).Pairwise (· < ·)
 | [],x,_,_=>by unfold Zc;simp
 | a::l,x,hs,hx=>by
  rw[mem_cons,not_or] at hx;by_cases h:a < x
  ·rw[s9 h,pairwise_cons];rw[pairwise_cons] at hs;refine⟨fun y hy=>?_,OH hs.2 hx.2⟩
   rcases OF.1 hy with rfl|hy
   ·exact h
   ·exact hs.1 y hy
  ·have h:x < a:=by omega
   rw[sQ hs h,pairwise_cons];refine⟨fun y hy=>?_,hs⟩
   rcases mem_cons.1 hy with rfl|hy
   ·exact h
   ·rw[pairwise_cons] at hs;have:=hs.1 y hy;omega
theorem iD [Q4] (p:Nat) (l:List Nat) (x:Nat) (hs:l.Pairwise (· < ·)) (hl:l.length < 100000) (hn:x∉l) {w:World} {fr:List Q2} (H:Q0 w (VV p l::fr)) :
  Calls Tryz.prog 93 #[pp p,.int .i64 x] w (ret fun v w'=>v = .bool true∧Q0 w' (VV p (Zc l x)::fr)):=by
 by_cases he:Ge l x=l.length
 ·have hx:∀ a∈l,a < x:=by
   have:l.countP (· < x)=l.length:=he;rw[countP_eq_length] at this;intro a ha;simpa using this a ha
  rw[rz hx];exact qd p l x hs (by omega) hx H
 obtain⟨a,c,H⟩:=Cf H;have VS:=rv l x;refine QQ Tryz.func93 rfl (by kernel_rfl) ?_;refine Dc H ?_;obtain⟨D1,H,Y5,Vo⟩:=sls_rd H.swap (QM _) (by decide);refine Jc rfl rfl (Ft _ l (by omega) hs x (Y5 _) H) ?_;rintro v w ⟨rfl,H⟩;replace H:=Vo _ _ H;rw[decide_eq_false hn];refine Rk H ?_;refine J6 H ?_;refine Qt (fun ms σ w=>ms=[]∧σ 6 = .bool false∧Q0 w (VV p (Zc l x)::fr)) ?_ ?_
 ·refine YU rfl ?_;refine F7 H ?_;refine ZT H ?_;refine X7 H ?_;intro b27 w H;replace H:=Js [1,0,0] 0 H;refine Jc rfl rfl (rt _ l x (Ge l x) (by omega) (by omega) _ H) ?_;intro v w H;obtain⟨a28,m28,c28,rfl⟩:=VZ H;refine XO H ?_;intro w H;refine J2 H ?_;exact⟨rfl,rfl,rfl,AW H.swap⟩
 ·rintro ms σ w ⟨rfl,g6,H⟩;rw[Q1 g6];refine Vj H ?_;exact Q3 (Jy H rfl fun w' H'=>⟨rfl,H'⟩)
end Go.Proofs.YtmjdnljneifpcaaGreatDoor
