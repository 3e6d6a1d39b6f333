/- Cells: what is proved on the way: every input of the statement; no condition. Texts joined: TabD CelA CelB CelC CelD CelE CelF CelG CelH PrtP SrtJ. -/
import Derived.Test.YtmjdnljneifpcaaGreatDoorBce
import Derived.Test.YtmjdnljneifpcaaGreatDoorBci
import Derived.Test.YtmjdnljneifpcaaGreatDoorBch
set_option linter.unusedVariables false
set_option linter.unusedSimpArgs false
set_option linter.unusedSectionVars false
namespace Go.Proofs.YtmjdnljneifpcaaGreatDoor
open List
open Go.SL
theorem FZ [Q4] (p:Nat) (ts:List QX) (k n:Nat) (e:Q7) (hk:ts[k]? = some ⟨n,some e⟩) {w:World} {fr:List Q2} (H:Q0 w (Qi p ts::fr)) :
  Calls Tryz.prog 110 #[pp p,.int .i64 k] w (ret fun v w'=>v = .tuple #[Gw k n,.bool true]∧Q0 w' (Qi p ts::fr)):=by
 obtain⟨b,c,s,u,x,hok,hc,H,hclose⟩:=Kp H;have hb:=hok.bits.le;have hkl:k < ts.length:=(List.getElem?_eq_some_iff.1 hk).1;have c1:(ts.flatMap VT++s)[k*6+1]? = some (.bool true):=UI YF hk rfl;have c0:(ts.flatMap VT++s)[k*6+0]? = some (.int .i64 n):=UI YF hk rfl;have ei:0+((k:Nat):Int).toNat*6=k*6:=by simp
 refine Q9 Tryz.func110 rfl (by kernel_rfl) ?_;refine Vp H ?_;clear H;intro b4 w H;refine J0 H ?_;refine AU H ?_;refine Uu H ?_;rw[show decide ((k:Int) < 0)=false from decide_eq_false (by omega)];refine YP H ?_;refine Dk H ?_;rw[show decide ((k:Int)≥(ts.length:Int))=false from decide_eq_false (by omega)];refine AN H ?_;refine QT rfl rfl rfl (GF rfl rfl (by omega) (by omega) rfl ?_);rw[ei];refine AZ H ?_;refine QT rfl rfl rfl (QR H rfl c1 rfl ?_);refine Xr H ?_;refine AM H ?_;refine Jd ?_;rw[ei];refine WP H ?_;refine Q5 rfl (QR H rfl c0 rfl ?_);refine EH H ?_;clear H;intro w H;refine J0 H ?_;exact Q3 (Jz H (fun w' H' => .cellN H' rfl (by repeat first|exact .nil _|apply QV.cons rfl) (.tmp .nil)) fun w' H'=>⟨rfl,hclose _ _ ts x rfl rfl hok H'.drop⟩)
theorem cP [Q4] (p:Nat) (ts:List QX) (e:Q7) {w:World} {fr:List Q2} [hT:YX 0 Lib.deBruijn64tab fr] (H:Q0 w (Qi p ts::fr)) :
  Calls Tryz.prog 91 #[pp p,.agg (Vg e).toArray] w (ret fun v w'=>(∃ k n,ts[k]? = some ⟨n,none⟩∧n≤254∧(∀ j t,j < k→ts[j]? = some t→busy t=true)∧v = .tuple #[Gw k (n+1),.int .i64 0]∧Q0 w' (Qi p (ts.set k ⟨n+1,some e⟩)::fr)) ∨
   ((∀ t∈ts,busy t=true)∧v = .tuple #[Gw 0 0,.int .i64 12]∧Q0 w' (Qi p ts::fr))):=by
 obtain⟨b,c,s,u,x,hok,hc,H,hclose⟩:=Kp H;have hb:=hok.bits.le;refine Q9 Tryz.func91 rfl (by kernel_rfl) ?_;refine J8 H ?_;clear H;intro b3 w H;refine VZ H ?_;clear H;intro b4 w H;refine AI H ?_;refine Yd H ?_;replace H:=Js [4,0,0,0,0] 0 H;refine Jc rfl rfl (Hu u ts.length x 0 _ hok.bits (by omega) H) ?_;clear H;rintro v w ⟨hF,H⟩
 rcases hF with ⟨k,rfl,_,hk,hoff,hall⟩|⟨rfl,hall⟩
 ·have ht:=getElem?_eq_getElem hk;have hbz:∀ j t,j < k→ts[j]? = some t→busy t=true:=fun j t hj hjt=>by rw[← hok.bit j t hjt];exact hall j (Nat.zero_le _) hj
  generalize ts[k]=t at ht;have hbk:=hok.bit k t ht;have hg:=hok.gen k t ht;rw[hoff] at hbk;obtain⟨n,en⟩:=t
  have hen:en=none∧n≤254:=by
   unfold busy at hbk;cases en with
   | none=>simp at hbk hg;exact⟨rfl,by omega⟩
   | some y=>simp at hbk
  obtain⟨rfl,hn⟩:=hen;have ei:0+((k:Nat):Int).toNat*6=k*6:=by simp
  have hlen:=Gu YF ts;refine G4 H ?_;refine VQ H ?_;refine Jc rfl rfl (Hr u _ x k true hok.bits hk H) ?_;clear H;rintro v w ⟨rfl,H⟩;refine EB H ?_;refine Jd ?_;rw[ei];refine J0 H ?_;have c0:(ts.flatMap VT++s)[k*6+0]? = some (.int .i64 n):=UI YF ht rfl;replace H:=Js [4,0,0,0,0] 0 H;refine EF H ?_;refine Q5 rfl (QR H rfl c0 rfl ?_);refine YP H ?_;refine WP H ?_;rw[Qb (x:=((n:Nat):Int)+1) (by omega) (by omega),show ((n:Nat):Int)+1=((n+1:Nat):Int) by omega];refine Q5 rfl (Yj H rfl rfl inferInstance rfl (by rw[length_append,hlen];omega) rfl ?_);clear H;intro w H;rw[MF (x':=⟨n+1,none⟩) YF ht (by omega) rfl] at H;refine J2 H ?_;have ht1:(ts.set k ⟨n+1,none⟩)[k]? = some (⟨n+1,none⟩:QX):=getElem?_set_self hk;have hlen1:=Gu YF (ts.set k ⟨n+1,none⟩);rw[length_set] at hlen1;refine J1 H ?_;clear H;intro w H;refine WG H ?_;refine VP 2 [8] H rfl (Q8.none rfl) rfl (by repeat first|exact .nil _|apply QV.cons rfl) (by kernel_rfl) ?_;refine Ja 3 ?_;refine Jf 4 ?_;refine Jo 5 H ?_;refine Yj H rfl rfl inferInstance rfl (by rw[length_append,hlen1];omega) rfl ?_;clear H;intro w H;rw[MF (x':=⟨n+1,some ⟨0,0,false,false,0,0,[]⟩⟩) YF ht1 (by omega) rfl,set_set] at H;have ht2:(ts.set k ⟨n+1,some ⟨0,0,false,false,0,0,[]⟩⟩)[k]? = some (⟨n+1,some ⟨0,0,false,false,0,0,[]⟩⟩:QX):=getElem?_set_self hk;have hlen2:=Gu YF (ts.set k ⟨n+1,some ⟨0,0,false,false,0,0,[]⟩⟩);rw[length_set] at hlen2;refine Ja 6 ?_;refine Jf 7 ?_;refine Jo 8 H ?_;refine ZN (vs:=Vg e) H rfl rfl inferInstance rfl rfl (by rw[length_append,hlen2];omega) rfl ?_;clear H;intro w H;rw[DS (x':=⟨n+1,some e⟩) YF ht2 (by simp) rfl,set_set] at H;refine Jx H ?_;have ht3:(ts.set k ⟨n+1,some e⟩)[k]? = some (⟨n+1,some e⟩:QX):=getElem?_set_self hk;have c3:((ts.set k ⟨n+1,some e⟩).flatMap VT++s)[k*6+0]? = some (.int .i64 ((n+1:Nat):Int)):=UI YF ht3 rfl;refine Vq H ?_;refine WP H ?_;refine Q5 rfl (QR H rfl c3 rfl ?_);refine EH H ?_;clear H;intro w H;refine J0 H ?_;replace H:=Js [2,3,0,0] 1 H;have hn255:(n == 255)=false:=by simp;omega
  have hok':GZ (ts.set k ⟨n+1,some e⟩) (Yo x k true):=by
   refine⟨by rw[length_set];exact hok.bits.set hk,fun i v hv=>?_,fun i v hv=>?_⟩
   ·rw[WS]
    rcases V3 hv with ⟨rfl,rfl,_⟩|⟨hne,hv⟩
    ·rw[if_pos rfl];rfl
    ·rw[if_neg hne];exact hok.bit _ _ hv
   ·rcases V3 hv with ⟨rfl,rfl,_⟩|⟨_,hv⟩
    ·show n+1≤255;omega
    ·exact hok.gen _ _ hv
  exact Q3 (Jz H (fun w' H' => .cellN H' rfl (by repeat first|exact .nil _|apply QV.cons rfl) (.tmp .nil)) fun w' H' => .inl ⟨k,n,ht,hn,hbz,rfl,hclose _ _ (ts.set k ⟨n+1,some e⟩) (Yo x k true) (by simp) (FY ht (by simp[hn255])) hok' H'.drop⟩)
 ·refine Br H ?_;refine Bl H ?_;clear H;intro w H;refine J0 H ?_;replace H:=Js [1,2,2,0] 1 H;refine Q3 (Jz H (fun w' H' => .cellN H' rfl (by repeat first|exact .nil _|apply QV.cons rfl) (.tmp .nil)) fun w' H' => .inr ⟨fun t ht=>?_,rfl,hclose _ _ ts x rfl rfl hok H'.drop⟩);obtain⟨j,hj⟩:=getElem?_of_mem ht;rw[← hok.bit j t hj];exact hall j (Nat.zero_le _) (List.getElem?_eq_some_iff.1 hj).1
structure Gj where
 sp:Nat
 bp:Nat
 ip:Nat
 tp:Nat
 trp:Nat
 rp:Nat
 sm:Nat
 mm:Nat
@[reducible] def Qp:Nat→Value:=fun b=>pp b
@[reducible] def VE (x:Int×Nat×QE):Int×Nat:=(x.1,x.2.1)
@[reducible] def Qx (x:Int×Nat×List Nat):Int×Nat:=(x.1,x.2.1)
@[reducible] def VJ (sp:Nat) (x:Int×Nat×QE):Q2:=Qn x.2.1 sp x.1.toNat x.2.2
@[reducible] def Qy (x:Int×Nat×List Nat):Q2:=Qu x.2.1 x.2.2
@[reducible] def Qv (p:Nat) (q:Gj):Q2:=pts p (row 43 [pp q.sp,pp q.bp,pp q.ip,pp q.tp,pp q.trp,pp q.rp,.map (some q.sm),.map (some q.mm)])
def QA (p:Nat) (s:CS):Q2:=ex fun x:Gj×List Nat=>star [prop (WF s∧Va s x.2),Qv p x.1,Qt x.1.ip x.1.sp x.1.bp,Qh x.1.bp s.lays,ST x.1.sp s.size x.2 s.own,Qi x.1.tp s.tab,Qf x.1.trp s.last s.par,RS x.1.rp s.rem,
 mp (ki .i64) Qp x.1.sm (s.sps.map VE),star (s.sps.map (VJ x.1.sp)),mp (ki .i64) Qp x.1.mm (s.mns.map Qx),star (s.mns.map Qy)]
theorem Vv [Q4] {w:World} {p:Nat} {s:CS} {fr:List Q2} (H:Q0 w (QA p s::fr)):∃ (q:Gj) (mem:List Nat),WF s∧Va s mem ∧
  Q0 w (Qv p q::Qt q.ip q.sp q.bp::Qh q.bp s.lays::ST q.sp s.size mem s.own::Qi q.tp s.tab::Qf q.trp s.last s.par::RS q.rp s.rem::mp (ki .i64) Qp q.sm (s.sps.map VE)::star (s.sps.map (VJ q.sp))::mp (ki .i64) Qp q.mm (s.mns.map Qx)::star (s.mns.map Qy)::fr):=by
 obtain⟨⟨q,mem⟩,H⟩:=Q0.ex.1 H;have H:=Q0.star.1 H;obtain⟨h,H⟩:=Q0.prop.1 H;exact⟨q,mem,h.1,h.2,H⟩
theorem VR [Q4] {w:World} {p:Nat} {s:CS} {fr:List Q2} {q:Gj} {mem:List Nat} (h:WF s) (hm:Va s mem)
  (H:Q0 w (Qv p q::Qt q.ip q.sp q.bp::Qh q.bp s.lays::ST q.sp s.size mem s.own::Qi q.tp s.tab::Qf q.trp s.last s.par::RS q.rp s.rem::mp (ki .i64) Qp q.sm (s.sps.map VE)::star (s.sps.map (VJ q.sp))::mp (ki .i64) Qp q.mm (s.mns.map Qx)::star (s.mns.map Qy)::fr)):Q0 w (QA p s::fr):=
 Q0.ex.2 ⟨(q,mem),Q0.star.2 (Q0.prop.2 ⟨⟨h,hm⟩,H⟩)⟩
def QN (s:CS) (e:Q7):QM:=(s.lays[e.lay - 1]?).getD ⟨0,[],0,[]⟩
def ZF (w:Nat):Y4:=if w=0 then .none else if w=1 then .grave else .obj (w % 4294967296 - 2) (w / 4294967296)
theorem cT {x:Nat} (h0:x≠0) (h1:x≠1):ZF x = .obj (x % 4294967296 - 2) (x / 4294967296):=by
 unfold ZF;rw[if_neg h0,if_neg h1]
theorem NO {i g:Nat} (h:i < 4096):(i+2+g*4294967296) % 4294967296 - 2=i∧(i+2+g*4294967296) / 4294967296=g:=by omega
theorem NP {i g:Nat} (h1:i < 4096):ZF (VK (.obj i g)) = .obj i g:=by
 rw[Em,cT (by omega) (by omega),(NO h1).1,(NO h1).2]
theorem NS {k:Y4} (h:Ga k):ZF (VK k)=k:=by
 cases k with
 | none=>rfl
 | grave=>rfl
 | obj i g=>exact NP h.1
theorem Xc {s:CS} (h:WF s) {mem:List Nat} (m:Va s mem) {k g:Nat} {e:Q7} (hk:s.tab[k]? = some ⟨g,some e⟩):XT s.lays s.size mem s.own e.addr e.lay e.count k e.ws.length (QN s e):=by
 obtain⟨⟨hm,l,h1,h2,h3,h4⟩,hl,_⟩:=h.obj k g e hk;have hle:QN s e=l:=by unfold QN;rw[h1];rfl
 rw[hle];refine⟨hm,h1,h2,h3,?_,?_,?_⟩
 ·rw[getD_eq_getElem?_getD,m.head _ _ _ hk,Option.getD_some]
 ·have:=hl.1;unfold QJ at this;rw[m.len];exact this
 ·intro c c1 c2;obtain⟨r,hr,_,hr1⟩:=hl.2 c c1 (by rw[show e.addr+(e.ws.length+1) - 1=e.addr+e.ws.length by omega] at c2;exact c2);rw[getD_eq_getElem?_getD,hr];show r≠0;omega
theorem ID {s:CS} (h:WF s) {mem:List Nat} (m:Va s mem) {k g:Nat} {e:Q7} (hk:s.tab[k]? = some ⟨g,some e⟩) {p:Nat} (hp:p < e.ws.length):mem.getD (e.addr+1+p) 0=e.ws.getD p 0:=by
 have hx:=getElem?_eq_getElem hp;rw[getD_eq_getElem?_getD,getD_eq_getElem?_getD,m.words _ _ _ hk p _ hx,hx]
theorem NT {s:CS} (h:WF s) {k g:Nat} {e:Q7} (hk:s.tab[k]? = some ⟨g,some e⟩) {p:Nat} (hp:p < e.ws.length) (hr:VU (QN s e) p=true):Ga (ZF (e.ws.getD p 0))∧e.ws.getD p 0=VK (ZF (e.ws.getD p 0)):=by
 obtain⟨⟨hm,l,h1,h2,h3,h4⟩,hl,_⟩:=h.obj k g e hk;have hle:QN s e=l:=by unfold QN;rw[h1];rfl
 rw[hle] at hr;have hx:=getElem?_eq_getElem hp;obtain⟨q,hq,hw⟩:=(h4 p _ hx).2 hr;have hd:e.ws.getD p 0=VK q:=by rw[getD_eq_getElem?_getD,hx,Option.getD_some];exact hw
 rw[hd,NS hq];exact⟨hq,rfl⟩
def FG:Option (Nat×Q7)→Value
 | some (_,e) => .tuple #[.agg (Vg e).toArray,.int .i64 0]
 | none => .tuple #[.agg #[.int .i64 0,.int .i64 0,.bool false,.bool false],.int .i64 8]
theorem CT (o:Option (Nat×Q7)):∃ e1 e2 h1 h2 e4,FG o = .tuple #[.agg #[.int .i64 e1,.int .i64 e2,.bool h1,.bool h2],.int .i64 e4]:=by
 cases o <;> exact⟨_,_,_,_,_,rfl⟩
theorem Zb [Q4] (p:Nat) (ts:List QX) (i g:Int) {w:World} {fr:List Q2} (H:Q0 w (Qi p ts::fr)) :
  Calls Tryz.prog 68 #[pp p,Yz i g] w (ret fun v w'=>v=FG (Qd ts i g)∧Q0 w' (Qi p ts::fr)):=
 call (cM p ts i g H) fun v w h=>⟨by rw[h.1];cases Qd ts i g <;> rfl,h.2⟩
theorem Na [Q4] (p:Nat) (s:CS) (i g:Int) {w:World} {fr:List Q2} (H:Q0 w (QA p s::fr)) :
  Calls Tryz.prog 94 #[pp p,Yz i g] w (ret fun v w'=>v=FG (Qr s.tab i g)∧Q0 w' (QA p s::fr)):=by
 obtain⟨q,mem,hw,hm,H⟩:=Vv H;refine Q9 Tryz.func94 rfl (by kernel_rfl) ?_;refine J8 H ?_;clear H;intro b3 w H;refine VZ H ?_;clear H;intro b4 w H;refine AI H ?_;obtain⟨e1,e2,h1,h2,e4,hsh⟩:=CT (Qd s.tab i g);refine J6 H ?_
 refine Qo (fun ms σ w=>ms=[]∧∃ b6,σ 4=pp b4∧σ 6=pp b6∧σ 7 = .int .i64 e4 ∧
  Q0 w (pts b4 (row 113 [.int .i64 0,.int .i64 0,.bool false,.bool false])::pts b6 (row 113 [.int .i64 e1,.int .i64 e2,.bool h1,.bool h2])::QA p s::fr)) ?_ ?_
 ·replace H:=Js [6,0,0,0,0,0,0,0,0,0,0,0,0] 0 H;refine J1 H ?_;clear H;intro w H;refine RP H ?_;refine Jw 5 9 H rfl rfl (V1 (a:=[]) (b:=[]) rfl rfl (call (Zb q.tp s.tab i g H) ?_)) (Vo H rfl ?_)
  ·clear H;rintro v w ⟨rfl,H⟩;rw[hsh];refine RT H ?_;clear H;intro b6 w H;refine Ra H ?_;clear H;intro w H;refine GP H ?_;replace H:=Js [4,4,4,4,1,3,3,3,3,3,3,1,0] 1 H;refine⟨rfl,rfl,b6,rfl,rfl,rfl,?_⟩;replace H:=VR hw hm H;replace H:=Js [1,1,0] 0 H;exact H
  ·clear H;intro b6 w H;refine Jo 5 H ?_;refine Jk rfl rfl (Zb q.tp s.tab i g H.swap) ?_;clear H;rintro v w ⟨rfl,H⟩;rw[hsh];refine Rb H ?_;clear H;intro w H;refine GP H ?_;replace H:=Js [4,4,4,4,0,3,3,3,3,3,3,1,0] 1 H;refine⟨rfl,rfl,b6,rfl,rfl,rfl,?_⟩;replace H:=VR hw hm H;replace H:=Js [1,1,0] 0 H;exact H
 ·clear H;rintro ms σ w ⟨rfl,b6,g4,g6,g7,H⟩;rw[Q1 g4,Q1 g6,Q1 g7];have hv:Qr s.tab i g=(match Qd s.tab i g with|some (k,e)=>if e.held then some (k,e) else none|none=>none):=rfl;cases hL:Qd s.tab i g with
  | none=>
   rw[hL] at hsh hv;have hv:Qr s.tab i g=none:=hv;rw[hv];cases hsh;refine Vq H ?_;refine KL H ?_;refine KM H ?_;clear H;intro w H;refine J0 H ?_;exact Q3 (Jz H (fun w' H' => .cellN H' rfl (by repeat first|exact .nil _|apply QV.cons rfl) (.tmp .nil)) fun w' H'=>⟨rfl,H'.drop.drop⟩)
  | some x=>
   obtain⟨k,e⟩:=x;obtain⟨ea,er,eh,ep,el,ec,ew⟩:=e;rw[hL] at hsh hv;cases hsh;cases eh with
   | true=>
    have hv:Qr s.tab i g=some (k,⟨ea,er,true,ep,el,ec,ew⟩):=hv;rw[hv];refine Vq H ?_;refine UM H ?_;refine Y7 H ?_;refine KH H ?_;clear H;intro w H;refine J0 H ?_;exact Q3 (Jz H (fun w' H' => .cellN H' rfl (by repeat first|exact .nil _|apply QV.cons rfl) (.tmp .nil)) fun w' H'=>⟨rfl,H'.drop.drop⟩)
   | false=>
    have hv:Qr s.tab i g=none:=hv;rw[hv];refine Vq H ?_;refine UM H ?_;refine KM H ?_;clear H;intro w H;refine J0 H ?_;exact Q3 (Jz H (fun w' H' => .cellN H' rfl (by repeat first|exact .nil _|apply QV.cons rfl) (.tmp .nil)) fun w' H'=>⟨rfl,H'.drop.drop⟩)
theorem Wi [Q4] (p:Nat) (s:CS) (i g:Int) (f:FuncId) (cs:List Value) [QQ Tryz.prog f] (R:Value→World→Prop) (fr:List Q2)
  (hno:Qr s.tab i g=none→∀ w,Q0 w (QA p s::fr)→R (.int .i64 8) w)
  (hyes:∀ k e,Qr s.tab i g=some (k,e)→∀ w,Q0 w (QA p s::fr)→Calls Tryz.prog f (.agg (Vg e).toArray::cs).toArray w (ret R)) {w:World} (H:Q0 w (QA p s::fr)) :
  Calls Tryz.prog 77 #[pp p,Yz i g,.func (.func f) #[] cs.toArray] w (ret R):=by
 refine Q9 Tryz.func77 rfl (by kernel_rfl) ?_;refine J8 H ?_;clear H;intro b4 w H;refine KP H ?_;refine Jc rfl rfl (Na p s i g H.swap) ?_;clear H;rintro v w ⟨rfl,H⟩;cases hv:Qr s.tab i g with
 | none=>
  refine Vj H ?_;clear H;intro b7 w H;refine J4 H ?_;clear H;intro w H;refine CY H ?_;replace H:=Js [1] 2 H;exact Q3 (Jy H rfl fun w' H'=>hno hv w' H')
 | some x=>
  obtain⟨k,e⟩:=x;refine Vj H ?_;clear H;intro b7 w H;refine J4 H ?_;clear H;intro w H;refine EK H ?_;replace H:=Js [1] 2 H;refine Q5 rfl (V1 (a:=[]) (b:=cs) rfl rfl (call (hyes k e hv w H) ?_));clear H;intro v w hr;refine XR rfl rfl ?_;refine QG ?_;exact Q3 (KK (.inr rfl) rfl hr)
def UK (s:CS) (i g place:Int):Nat×Nat:=
 match Qr s.tab i g with
 | none=>(0,8)
 | some (_,e)=>if QO (QN s e) e.ws.length place false=0 then (e.ws.getD place.toNat 0,0) else (0,QO (QN s e) e.ws.length place false)
theorem Nb {s:CS} {i g place:Int} (h:Qr s.tab i g=none):UK s i g place=(0,8):=by unfold UK;rw[h]
theorem IF {s:CS} {i g place:Int} {k:Nat} {e:Q7} (h:Qr s.tab i g=some (k,e)):UK s i g place=if QO (QN s e) e.ws.length place false=0 then (e.ws.getD place.toNat 0,0) else (0,QO (QN s e) e.ws.length place false):=by unfold UK;rw[h]
theorem ZH {s:CS} {i g:Int} {k:Nat} {e:Q7} (h:Qr s.tab i g=some (k,e)):∃ n:Nat,i=k∧g=n∧s.tab[k]? = some ⟨n,some e⟩∧e.held=true:=by
 obtain⟨h1,h2⟩:=XP.1 h;obtain⟨n,a,b,c⟩:=Y8.1 h1;exact⟨n,a,b,c,h2⟩
theorem cd [Q4] (p:Nat) (s:CS) (i g place:Int) {w:World} {fr:List Q2} (H:Q0 w (QA p s::fr)) :
  Calls Tryz.prog 41 #[pp p,Yz i g,.int .i64 place] w (ret fun v w'=>v = .tuple #[.int .u64 ((UK s i g place).1:Nat),.int .i64 ((UK s i g place).2:Nat)]∧Q0 w' (QA p s::fr)):=by
 refine Q9 Tryz.func41 rfl (by kernel_rfl) ?_;refine Yw H ?_;clear H;intro b3 w H;refine XH H ?_;clear H;intro b4 w H;refine Ke H ?_;clear H;intro b5 w H;refine J3 H ?_;refine Vp H ?_;clear H;intro b8 w H;refine J2 H ?_;refine HP H ?_;replace H:=Js [4,0,0,0,0] 0 H;refine Jc rfl rfl (Wi p s i g 106 [pp b3,pp b5,pp b8] (fun v w'=>v = .int .i64 ((UK s i g place).2:Nat)∧Q0 w' (pts b8 (row 83 [.int .u64 ((UK s i g place).1:Nat)])::QA p s::fr)) _ ?_ ?_ H) ?_
 ·intro hv w H;rw[Nb hv];replace H:=Js [1,0] 3 H;exact⟨rfl,H⟩
 ·intro k e hv w H;obtain⟨n,rfl,rfl,hk,hh⟩:=ZH hv;obtain⟨q,mem,hw,hm,H⟩:=Vv H;have hI:=Xc hw hm hk;refine Q9 Tryz.func106 rfl (by kernel_rfl) ?_;refine J8 H ?_;clear H;intro b4 w H;refine J0 H ?_;replace H:=Js [2,2,2,0,0,0,0,0,0,0,0,0,0,0,1] 1 H
  have hval:(if QO (QN s e) e.ws.length place false=0 then mem.getD (e.addr+1+place.toNat) 0 else 0)=(UK s k n place).1:=by
   rw[IF hv];split
   ·rename_i h0;obtain⟨x,rfl,hx,_⟩:=Zm h0;exact ID hw hm hk hx
   ·rfl
  have herr:QO (QN s e) e.ws.length place false=(UK s k n place).2:=by
   rw[IF hv];split
   ·assumption
   ·rfl
  refine J1 H ?_;clear H;intro w H;refine Jl 0 [7,11] H ?_;refine XN H ?_;refine Jl 3 [7,11] H ?_;refine Jf 4 ?_;refine Jl 5 [7,11] H ?_;refine Jl 6 [7,11] H ?_;refine Jo 7 H ?_;refine Jk rfl rfl (ax q.ip q.sp q.bp s.size s.lays mem s.own e.addr e.lay e.count k e.ws.length (QN s e) hI place H) ?_;clear H;rintro v w ⟨rfl,H⟩;rw[hval,herr];refine Rc H ?_;refine Jo 11 H ?_;refine UQ H ?_;clear H;intro w H;refine Ux H ?_;refine J5 H ?_;replace H:=Js [4,0,0,0,1,1,1,1,1,1,1,1] 3 H;replace H:=VR hw hm H;exact Q3 (Jy H.swap rfl fun w' H'=>⟨rfl,H'⟩)
 ·clear H;rintro v w ⟨rfl,H⟩;refine J0 H ?_;refine Zl H ?_;refine YP H ?_;refine J0 H ?_;exact Q3 (Jy H rfl fun w' H'=>⟨rfl,H'.drop⟩)
theorem IH {s:CS} (h:WF s) {k g:Nat} {e:Q7} (hk:s.tab[k]? = some ⟨g,some e⟩):s.lays[e.lay - 1]? = some (QN s e):=by
 obtain⟨⟨hm,l,h1,h2,h3,h4⟩,hl,_⟩:=h.obj k g e hk;rw[h1];unfold QN;rw[h1];rfl
theorem ce {ts:List QX} {k:Nat} {t t':QX} (hk:ts[k]? = some t) (h:VT t'=VT t):(ts.set k t').flatMap VT=ts.flatMap VT:=by
 rw[set_split hk]
 conv=>rhs;rw[split_at hk]
 simp[h]
theorem II [Q4] {w:World} {p:Nat} {ts:List QX} {l:List Q2} {k g:Nat} {e e':Q7} (hk:ts[k]? = some ⟨g,some e⟩) (he:Vg e'=Vg e) (H:Q0 w (Qi p ts::l)):Q0 w (Qi p (ts.set k ⟨g,some e'⟩)::l):=by
 obtain⟨b,c,s,u,x,hok,hc,H,hclose⟩:=Kp H
 have hv:VT ⟨g,some e'⟩=VT ⟨g,some e⟩:=by
  show Value.int .i64 g :: .bool true::Vg e' = .int .i64 g :: .bool true::Vg e;rw[he]
 refine hclose _ _ (ts.set k ⟨g,some e'⟩) x (by simp) (FY hk rfl) (hok.set hk rfl (by have:=hok.gen _ _ hk;exact this)) ?_;rw[ce hk hv];exact H
def Uf (s:CS) (i g place:Int) (x:Nat):CS×Nat:=
 match Qr s.tab i g with
 | none=>(s,8)
 | some (k,e)=>if QO (QN s e) e.ws.length place false=0 then (VO s k g.toNat { e with ws:=e.ws.set place.toNat x },0) else (s,QO (QN s e) e.ws.length place false)
theorem Ca {s:CS} {i g place:Int} {x:Nat} (h:Qr s.tab i g=none):Uf s i g place x=(s,8):=by unfold Uf;rw[h]
theorem Cb {s:CS} {i g place:Int} {x k:Nat} {e:Q7} (h:Qr s.tab i g=some (k,e)):Uf s i g place x=if QO (QN s e) e.ws.length place false=0 then (VO s k g.toNat { e with ws:=e.ws.set place.toNat x },0) else (s,QO (QN s e) e.ws.length place false):=by unfold Uf;rw[h]
theorem cj [Q4] (p:Nat) (s:CS) (i g place:Int) (x:Nat) (hx:x < 18446744073709551616) {w:World} {fr:List Q2} (H:Q0 w (QA p s::fr)) :
  Calls Tryz.prog 165 #[pp p,Yz i g,.int .i64 place,.int .u64 x] w (ret fun v w'=>v = .int .i64 ((Uf s i g place x).2:Nat)∧Q0 w' (QA p (Uf s i g place x).1::fr)):=by
 refine Q9 Tryz.func165 rfl (by kernel_rfl) ?_;refine Yw H ?_;clear H;intro b4 w H;refine XH H ?_;clear H;intro b5 w H;refine Ke H ?_;clear H;intro b6 w H;refine Ke H ?_;clear H;intro b7 w H;refine EI H ?_;replace H:=Js [4,0,0,0,0] 0 H;refine Jc rfl rfl (Wi p s i g 232 [pp b4,pp b6,pp b7] (fun v w'=>v = .int .i64 ((Uf s i g place x).2:Nat)∧Q0 w' (QA p (Uf s i g place x).1::fr)) _ ?_ ?_ H) ?_
 ·intro hv w H;rw[Ca hv];replace H:=Js [0] 4 H;exact⟨rfl,H⟩
 ·intro k e hv w H;obtain⟨n,rfl,rfl,hk,hh⟩:=ZH hv;obtain⟨q,mem,hw,hm,H⟩:=Vv H;have hI:=Xc hw hm hk;refine Q9 Tryz.func232 rfl (by kernel_rfl) ?_;refine J8 H ?_;clear H;intro b4 w H;refine J0 H ?_;replace H:=Js [2,2,2,0,0,0,0,0,0,0,0,0,0,0,1] 1 H;refine J1 H ?_;clear H;intro w H;refine EJ H ?_;refine Jl 6 [8] H ?_;refine Jl 7 [8] H ?_;refine Jo 8 H ?_;refine Jk rfl rfl (ay q.ip q.sp q.bp s.size s.lays mem s.own e.addr e.lay e.count k e.ws.length (QN s e) hI place x H) ?_;clear H;rintro v w ⟨rfl,H⟩;refine Ja 9 ?_;refine Jx H ?_;replace H:=Js [4,0,0,0,1,1,1,1,1,1,1] 4 H;rw[Cb hv];by_cases h0:QO (QN s e) e.ws.length place false=0
  ·obtain⟨y,rfl,hy,hr⟩:=Zm h0;rw[if_pos h0] at H;rw[if_pos h0,h0];have hw':=F0 (e':={ e with ws:=e.ws.set y x }) hw hk ⟨rfl,rfl,rfl,rfl,by show (e.ws.set y x).length=_;simp⟩ (IQ (hw.obj _ _ _ hk).1 (IH hw hk) hx (fun h=>by rw[hr] at h;cases h));have hm':=I9 hw hm hk hy (x:=x);replace H:=Js [4,0,0,0,0,0,0,0,0,0,0] 0 H;replace H:=II (e':={ e with ws:=e.ws.set y x }) hk rfl H;replace H:=Js [1,1,1,1,0,0,0,0,0,0,0] 0 H;replace H:=VR hw' hm' H;exact Q3 (Jy H rfl fun w' H'=>⟨rfl,H'⟩)
  ·rw[if_neg h0] at H;rw[if_neg h0];replace H:=VR hw hm H;exact Q3 (Jy H rfl fun w' H'=>⟨rfl,H'⟩)
 ·clear H;rintro v w ⟨rfl,H⟩;refine J0 H ?_;exact Q3 (Jy H rfl fun w' H'=>⟨rfl,H'⟩)
def Y9 (s:CS) (i g place:Int):Y4×Nat:=
 match Qr s.tab i g with
 | none=>(.none,8)
 | some (_,e)=>if QO (QN s e) e.ws.length place true=0 then (ZF (e.ws.getD place.toNat 0),0) else (.none,QO (QN s e) e.ws.length place true)
theorem IJ {s:CS} {i g place:Int} (h:Qr s.tab i g=none):Y9 s i g place=(.none,8):=by unfold Y9;rw[h]
theorem Cc {s:CS} {i g place:Int} {k:Nat} {e:Q7} (h:Qr s.tab i g=some (k,e)):Y9 s i g place=if QO (QN s e) e.ws.length place true=0 then (ZF (e.ws.getD place.toNat 0),0) else (.none,QO (QN s e) e.ws.length place true):=by unfold Y9;rw[h]
theorem FU [Q4] (p:Nat) (s:CS) (i g place:Int) {w:World} {fr:List Q2} (H:Q0 w (QA p s::fr)) :
  Calls Tryz.prog 33 #[pp p,Yz i g,.int .i64 place] w (ret fun v w'=>v = .tuple #[Z5 (Y9 s i g place).1,.int .i64 ((Y9 s i g place).2:Nat)]∧Q0 w' (QA p s::fr)):=by
 obtain⟨a1,a2,a3,hkv⟩:=Gy (Y9 s i g place).1;rw[hkv];refine Q9 Tryz.func33 rfl (by kernel_rfl) ?_;refine Yw H ?_;clear H;intro b3 w H;refine XH H ?_;clear H;intro b4 w H;refine Ke H ?_;clear H;intro b5 w H;refine VZ H ?_;clear H;intro b6 w H;refine J0 H ?_;refine Vp H ?_;clear H;intro b8 w H;refine J2 H ?_;refine HP H ?_;replace H:=Js [5,0,0,0,0,0] 0 H;refine Jc rfl rfl (Wi p s i g 96 [pp b3,pp b5,pp b8] (fun v w'=>v = .int .i64 ((Y9 s i g place).2:Nat)∧Q0 w' (pts b8 (row 88 [.int .i64 a1,.int .i64 a2,.int .i64 a3])::pts b6 (row 88 [.int .i64 0,.int .i64 0,.int .i64 0])::QA p s::fr)) _ ?_ ?_ H) ?_
 ·intro hv w H;rw[IJ hv] at hkv ⊢;cases hkv;replace H:=Js [1,1,0] 3 H;exact⟨rfl,H⟩
 ·intro k e hv w H;obtain⟨n,rfl,rfl,hk,hh⟩:=ZH hv;obtain⟨q,mem,hw,hm,H⟩:=Vv H;have hI:=Xc hw hm hk;refine Q9 Tryz.func96 rfl (by kernel_rfl) ?_;refine J8 H ?_;clear H;intro b4 w H;refine J0 H ?_;replace H:=Js [2,2,2,0,0,0,0,0,0,0,0,0,0,0,0,1] 1 H
  have hlk:Z5 (Y9 s k n place).1=Z5 (if QO (QN s e) e.ws.length place true=0 then ZF (e.ws.getD place.toNat 0) else .none):=by
   rw[Cc hv];split <;> rfl
  have herr:QO (QN s e) e.ws.length place true=(Y9 s k n place).2:=by
   rw[Cc hv];split
   ·assumption
   ·rfl
  have hlf:QO (QN s e) e.ws.length place true=0→Ga (if QO (QN s e) e.ws.length place true=0 then ZF (e.ws.getD place.toNat 0) else .none)∧mem.getD (e.addr+1+place.toNat) 0=VK (if QO (QN s e) e.ws.length place true=0 then ZF (e.ws.getD place.toNat 0) else .none):=fun h0=>by
   obtain⟨y,hpy,hy,hr⟩:=Zm h0;rw[if_pos h0,hpy,Int.toNat_natCast,ID hw hm hk hy];exact NT hw hk hy hr
  have hF:=fun (w:World) (fr:List Q2) (H:Q0 w (Qt q.ip q.sp q.bp::Qh q.bp s.lays::ST q.sp s.size mem s.own::fr))=>NZ q.ip q.sp q.bp s.size s.lays mem s.own e.addr e.lay e.count k e.ws.length (QN s e) hI place (if QO (QN s e) e.ws.length place true=0 then ZF (e.ws.getD place.toNat 0) else .none) hlf (fun h0=>if_neg h0) H;rw[← hlk,hkv] at hF;refine J1 H ?_;clear H;intro w H;refine Jl 0 [7,11] H ?_;refine XN H ?_;refine Jl 3 [7,11] H ?_;refine Jf 4 ?_;refine Jl 5 [7,11] H ?_;refine Jl 6 [7,11] H ?_;refine Jo 7 H ?_;refine Jk rfl rfl (hF _ _ H) ?_;clear H;rintro v w ⟨rfl,H⟩;rw[herr];refine Rc H ?_;refine Ut H ?_;clear H;intro w H;refine Ux H ?_;refine J5 H ?_;replace H:=Js [4,0,0,0,1,1,1,1,1,1,1,1,1] 3 H;replace H:=VR hw hm H;replace H:=Js [1,1,0] 0 H;exact Q3 (Jy H rfl fun w' H'=>⟨rfl,H'⟩)
 ·clear H;rintro v w ⟨rfl,H⟩;refine J0 H ?_;refine KS H ?_;clear H;intro w H;refine J0 H ?_;replace H:=Js [1,1] 1 H;exact Q3 (Jz H (fun w' H' => .cellN H' rfl (by repeat first|exact .nil _|apply QV.cons rfl) (.tmp .nil)) fun w' H'=>⟨rfl,H'.drop⟩)
def Ug (s:CS) (i g:Int):CS×Nat:=
 match Qr s.tab i g with
 | none=>(s,8)
 | some (k,e)=>(VO s k g.toNat { e with held:=false },0)
theorem Cd {s:CS} {i g:Int} (h:Qr s.tab i g=none):Ug s i g=(s,8):=by unfold Ug;rw[h]
theorem Ce {s:CS} {i g:Int} {k:Nat} {e:Q7} (h:Qr s.tab i g=some (k,e)):Ug s i g=(VO s k g.toNat { e with held:=false },0):=by unfold Ug;rw[h]
def Uh (s:CS) (i g:Int) (on:Bool):CS×Nat:=
 match Qr s.tab i g with
 | none=>(s,8)
 | some (k,e)=>if e.pinned=on then (s,7) else (VO s k g.toNat { e with pinned:=on },0)
theorem Cf {s:CS} {i g:Int} {on:Bool} (h:Qr s.tab i g=none):Uh s i g on=(s,8):=by unfold Uh;rw[h]
theorem Cg {s:CS} {i g:Int} {on:Bool} {k:Nat} {e:Q7} (h:Qr s.tab i g=some (k,e)):Uh s i g on=if e.pinned=on then (s,7) else (VO s k g.toNat { e with pinned:=on },0):=by unfold Uh;rw[h]
theorem IM [Q4] {w:World} {p:Nat} {s:CS} {fr:List Q2} {q:Gj} {mem:List Nat} (hw:WF s) (hm:Va s mem) {k n:Nat} {e e':Q7} (hk:s.tab[k]? = some ⟨n,some e⟩) (a:Kl e e') (hws:e'.ws=e.ws)
  (H:Q0 w (Qv p q::Qt q.ip q.sp q.bp::Qh q.bp s.lays::ST q.sp s.size mem s.own::Qi q.tp (s.tab.set k ⟨n,some e'⟩)::Qf q.trp s.last s.par::RS q.rp s.rem::mp (ki .i64) Qp q.sm (s.sps.map VE)::star (s.sps.map (VJ q.sp))::mp (ki .i64) Qp q.mm (s.mns.map Qx)::star (s.mns.map Qy)::fr)) :
  Q0 w (QA p (VO s k n e')::fr):=
 VR (s:=VO s k n e') (F0 hw hk a (aN (hw.obj _ _ _ hk).1 a hws)) (aM hw hm hk a hws) H
theorem cm [Q4] (p:Nat) (s:CS) (i g:Int) {w:World} {fr:List Q2} (H:Q0 w (QA p s::fr)) :
  Calls Tryz.prog 171 #[pp p,Yz i g] w (ret fun v w'=>v = .int .i64 ((Ug s i g).2:Nat)∧Q0 w' (QA p (Ug s i g).1::fr)):=by
 refine Q9 Tryz.func171 rfl (by kernel_rfl) ?_;refine Yw H ?_;clear H;intro b2 w H;refine XH H ?_;clear H;intro b3 w H;refine EI H ?_;replace H:=Js [2,0,0] 0 H;refine Jc rfl rfl (Wi p s i g 234 [pp b2,pp b3] (fun v w'=>v = .int .i64 ((Ug s i g).2:Nat)∧Q0 w' (QA p (Ug s i g).1::fr)) _ ?_ ?_ H) ?_
 ·intro hv w H;rw[Cd hv];replace H:=Js [0] 2 H;exact⟨rfl,H⟩
 ·intro k e hv w H;obtain⟨n,rfl,rfl,hk,hh⟩:=ZH hv;obtain⟨q,mem,hw,hm,H⟩:=Vv H;refine Q9 Tryz.func234 rfl (by kernel_rfl) ?_;refine J8 H ?_;clear H;intro b3 w H;refine J0 H ?_;refine G5 H ?_;refine UY H ?_;clear H;intro w H;refine J2 H ?_;replace H:=Js [5,0,0,0,0,0,0,0,0,0,0,0,0,0] 0 H;refine J1 H ?_;clear H;intro w H;refine EL H ?_;refine E7 H ?_;refine C4 H ?_;refine Jk rfl rfl (CP q.tp s.tab k n { e with held:=false } H) ?_;clear H;rintro v w (⟨k',e',hL,rfl,H⟩|⟨hL,rfl,H⟩)
  ·have hLk:=(XP.1 hv).1;rw[hLk] at hL;cases hL;refine Ja 7 ?_;refine Jx H ?_;replace H:=Js [2,2,2,2,0,1,1,1,1,1,1] 3 H;rw[Ce hv];replace H:=IM (e':={ e with held:=false }) hw hm hk ⟨rfl,rfl,rfl,rfl,rfl⟩ rfl H;exact Q3 (Jy H rfl fun w' H'=>⟨rfl,H'⟩)
  ·rw[(XP.1 hv).1] at hL;cases hL
 ·clear H;rintro v w ⟨rfl,H⟩;refine J0 H ?_;exact Q3 (Jy H rfl fun w' H'=>⟨rfl,H'⟩)
theorem cn [Q4] (p:Nat) (s:CS) (i g:Int) (on:Bool) {w:World} {fr:List Q2} (H:Q0 w (QA p s::fr)) :
  Calls Tryz.prog 173 #[pp p,Yz i g,.bool on] w (ret fun v w'=>v = .int .i64 ((Uh s i g on).2:Nat)∧Q0 w' (QA p (Uh s i g on).1::fr)):=by
 refine Q9 Tryz.func173 rfl (by kernel_rfl) ?_;refine Yw H ?_;clear H;intro b3 w H;refine XH H ?_;clear H;intro b4 w H;refine Ke H ?_;clear H;intro b5 w H;refine EI H ?_;replace H:=Js [3,0,0,0] 0 H;refine Jc rfl rfl (Wi p s i g 235 [pp b5,pp b3,pp b4] (fun v w'=>v = .int .i64 ((Uh s i g on).2:Nat)∧Q0 w' (QA p (Uh s i g on).1::fr)) _ ?_ ?_ H) ?_
 ·intro hv w H;rw[Cf hv];replace H:=Js [0] 3 H;exact⟨rfl,H⟩
 ·intro k e hv w H;obtain⟨n,rfl,rfl,hk,hh⟩:=ZH hv;obtain⟨q,mem,hw,hm,H⟩:=Vv H;refine Q9 Tryz.func235 rfl (by kernel_rfl) ?_;refine J8 H ?_;clear H;intro b4 w H;refine WK H ?_;refine XC H ?_;refine Q5 rfl (WQ rfl rfl (.inl rfl) rfl ?_);refine J2 H ?_;rw[Cg hv];by_cases hp:e.pinned=on
  ·rw[show (e.pinned == on)=true by simp[hp],if_pos hp];refine YD H ?_;replace H:=Js [1,1,1,1,1,1,1,1,1,1,1] 4 H;replace H:=VR hw hm H;exact Q3 (Jy H rfl fun w' H'=>⟨rfl,H'⟩)
  ·rw[show (e.pinned == on)=false by simp[hp],if_neg hp];refine V6 H ?_;refine Zl H ?_;refine UY H ?_;clear H;intro w H;refine J2 H ?_;replace H:=Js [5,0,0,0,0,0,0,0,0,0,0,0,0,0,0] 0 H;refine J1 H ?_;clear H;intro w H;refine EL H ?_;refine E7 H ?_;refine C4 H ?_;refine Jk rfl rfl (CP q.tp s.tab k n { e with pinned:=on } H) ?_;clear H;rintro v w (⟨k',e',hL,rfl,H⟩|⟨hL,rfl,H⟩)
   ·have hLk:=(XP.1 hv).1;rw[hLk] at hL;cases hL;refine Ja 7 ?_;refine Jx H ?_;replace H:=Js [2,2,2,2,0,1,1,1,1,1,1] 4 H;replace H:=IM (e':={ e with pinned:=on }) hw hm hk ⟨rfl,rfl,rfl,rfl,rfl⟩ rfl H;exact Q3 (Jy H rfl fun w' H'=>⟨rfl,H'⟩)
   ·rw[(XP.1 hv).1] at hL;cases hL
 ·clear H;rintro v w ⟨rfl,H⟩;refine J0 H ?_;exact Q3 (Jy H rfl fun w' H'=>⟨rfl,H'⟩)
@[reducible] def Nc (e:Q7):List Value:=[.int .i64 e.region,.int .i64 e.lay,.int .i64 e.count,.int .i64 e.ws.length,.bool e.pinned]
def IP:Option (Nat×Q7)→Value
 | some (_,e) => .tuple #[.agg (Nc e).toArray,.int .i64 0]
 | none => .tuple #[.agg #[.int .i64 0,.int .i64 0,.int .i64 0,.int .i64 0,.bool false],.int .i64 8]
theorem cp [Q4] (p:Nat) (s:CS) (i g:Int) {w:World} {fr:List Q2} (H:Q0 w (QA p s::fr)) :
  Calls Tryz.prog 26 #[pp p,Yz i g] w (ret fun v w'=>v=IP (Qr s.tab i g)∧Q0 w' (QA p s::fr)):=by
 obtain⟨a1,a2,a3,a4,a5,a6,htv⟩:∃ a1 a2 a3 a4 a5 a6,IP (Qr s.tab i g) = .tuple #[.agg #[.int .i64 a1,.int .i64 a2,.int .i64 a3,.int .i64 a4,.bool a5],.int .i64 a6]:=by
  cases Qr s.tab i g <;> exact⟨_,_,_,_,_,_,rfl⟩
 rw[htv];refine Q9 Tryz.func26 rfl (by kernel_rfl) ?_;refine Yw H ?_;clear H;intro b2 w H;refine XH H ?_;clear H;intro b3 w H;refine VZ H ?_;clear H;intro b4 w H;refine J0 H ?_;refine Vp H ?_;clear H;intro b6 w H;refine J2 H ?_;refine HP H ?_;replace H:=Js [4,0,0,0,0] 0 H;refine Jc rfl rfl (Wi p s i g 78 [pp b2,pp b6] (fun v w'=>v = .int .i64 a6∧Q0 w' (pts b6 (row 71 [.int .i64 a1,.int .i64 a2,.int .i64 a3,.int .i64 a4,.bool a5])::pts b4 (row 71 [.int .i64 0,.int .i64 0,.int .i64 0,.int .i64 0,.bool false])::QA p s::fr)) _ ?_ ?_ H) ?_
 ·intro hv w H;rw[hv] at htv;cases htv;replace H:=Js [1,1,0] 2 H;exact⟨rfl,H⟩
 ·intro k e hv w H;rw[hv] at htv;cases htv;obtain⟨n,rfl,rfl,hk,hh⟩:=ZH hv;obtain⟨q,mem,hw,hm,H⟩:=Vv H;have hI:=Xc hw hm hk;have hml:=F2 (H.pull 3);have hfit:=hI.fit;refine Q9 Tryz.func78 rfl (by kernel_rfl) ?_;refine J8 H ?_;clear H;intro b3 w H;refine YZ H ?_
  refine Qo (fun ms σ w=>ms=[]∧∃ b5,σ 2=pp b6∧σ 3=pp b3∧σ 5=pp b5∧σ 6 = .int .i64 ((e.ws.length+1:Nat):Int)∧σ 7 = .int .i64 0 ∧
   Q0 w (pts b3 (row 113 (Vg e))::pts b5 (row 115 [.int .i64 e.lay,.int .i64 e.count,.int .i64 k])::pts b6 (row 71 [.int .i64 0,.int .i64 0,.int .i64 0,.int .i64 0,.bool false])::pts b4 (row 71 [.int .i64 0,.int .i64 0,.int .i64 0,.int .i64 0,.bool false])::QA p s::fr)) ?_ ?_
  ·replace H:=Js [2,2,2,0,0,0,0,0,0,0,0,0,0,0,1] 1 H;refine J1 H ?_;clear H;intro w H;refine Jl 0 [6,12] H ?_;refine XN H ?_;refine Jl 3 [6,12] H ?_;refine Jf 4 ?_;refine Jl 5 [6,12] H ?_;refine Jw 6 11 H rfl rfl (V1 (a:=[]) (b:=[]) rfl rfl (call (We q.ip q.sp q.bp s.size s.lays mem s.own e.addr e.lay e.count k e.ws.length (QN s e) hI H) ?_)) (Vo H rfl ?_)
   ·clear H;rintro v w ⟨rfl,H⟩;refine Ae H ?_;refine Af H ?_;clear H;intro b5 w H;refine Uz H ?_;clear H;intro w H;refine Kf H ?_;replace H:=Js [5,1,1,1,2,2,2,2,2,2,2,1,0,0,0] 1 H;replace H:=VR hw hm H;replace H:=Js [1,1,1,1,0] 0 H;exact⟨rfl,rfl,b5,rfl,rfl,rfl,rfl,rfl,H⟩
   ·clear H;intro b5 w H;replace H:=Js [1,1,1,0] 0 H;refine Jo 6 H ?_;refine Jk rfl rfl (We q.ip q.sp q.bp s.size s.lays mem s.own e.addr e.lay e.count k e.ws.length (QN s e) hI H) ?_;clear H;rintro v w ⟨rfl,H⟩;refine Ae H ?_;refine Uz H ?_;clear H;intro w H;refine Kf H ?_;replace H:=Js [5,0,0,0,2,2,2,2,2,2,2,1,0,0,0] 1 H;replace H:=VR hw hm H;replace H:=Js [1,1,1,1,0] 0 H;exact⟨rfl,rfl,b5,rfl,rfl,rfl,rfl,rfl,H⟩
  ·clear H;rintro ms σ w ⟨rfl,b5,g2,g3,g5,g6,g7,H⟩;rw[Q1 g2,Q1 g3,Q1 g5,Q1 g6,Q1 g7];refine Du H ?_;refine WI H ?_;rw[Qb (x:=((e.ws.length+1:Nat):Int) - 1) (by omega) (by omega),show ((e.ws.length+1:Nat):Int) - 1=(e.ws.length:Int) by omega];refine ZB H ?_;refine EH H ?_;clear H;intro w H;refine Uv H ?_;replace H:=Js [2,2,2] 2 H;exact Q3 (Jy H rfl fun w' H'=>⟨rfl,H'⟩)
 ·clear H;rintro v w ⟨rfl,H⟩;refine J0 H ?_;refine KS H ?_;clear H;intro w H;refine J0 H ?_;replace H:=Js [1,1] 1 H;exact Q3 (Jz H (fun w' H' => .cellN H' rfl (by repeat first|exact .nil _|apply QV.cons rfl) (.tmp .nil)) fun w' H'=>⟨rfl,H'.drop⟩)
theorem B3 [Q4] {w:World} {p:Nat} {m:List (Rf×Int)} {l:List Q2} (H:Q0 w (RS p m::l)):(m.map (·.1)).Nodup:=by
 obtain⟨bt,bo,bf,H⟩:=Wd H;exact Ki bt H
theorem Nd [Q4] (p:Nat) (s:CS) (k n:Nat) (e:Q7) (hk:s.tab[k]? = some ⟨n,some e⟩) {w:World} {fr:List Q2} (H:Q0 w (QA p s::fr)) :
  Calls Tryz.prog 127 #[pp p,.int .i64 k] w (ret fun v w'=>v = .tuple #[.agg (Vg e).toArray,.bool true]∧Q0 w' (QA p s::fr)):=by
 obtain⟨q,mem,hw,hm,H⟩:=Vv H;have hL:Qd s.tab k n=some (k,e):=Y8.2 ⟨n,rfl,rfl,hk⟩;refine Q9 Tryz.func127 rfl (by kernel_rfl) ?_;refine Vp H ?_;clear H;intro b4 w H;refine AI H ?_;refine VQ H ?_;replace H:=Js [5,0,0,0,0,0,0,0,0,0,0,0] 0 H;refine Jc rfl rfl (FZ q.tp s.tab k n e hk H) ?_;clear H;rintro v w ⟨rfl,H⟩;refine Vj H ?_;clear H;intro b6 w H;refine J4 H ?_;clear H;intro w H;refine YZ H ?_
 refine Qo (fun ms σ w=>ms=[]∧∃ b8,σ 4=pp b4∧σ 7 = .bool true∧σ 8=pp b8 ∧
   Q0 w (pts b4 (row 113 [.int .i64 0,.int .i64 0,.bool false,.bool false])::pts b8 (row 113 (Vg e))::QA p s::fr)) ?_ ?_
 ·replace H:=Js [1,0,0,0,0,0,0,0,0,0,0,0,0] 0 H;refine J1 H ?_;clear H;intro w H;refine RP H ?_;refine Jw 5 9 H rfl rfl (V1 (a:=[]) (b:=[]) rfl rfl (call (Zb q.tp s.tab k n H) ?_)) (Vo H rfl ?_)
  ·clear H;rintro v w ⟨rfl,H⟩;rw[hL];refine RT H ?_;clear H;intro b8 w H;refine Ra H ?_;clear H;intro w H;refine GP H ?_;replace H:=Js [4,4,4,4,1,3,3,3,3,3,3,2,0] 1 H;replace H:=VR hw hm H;replace H:=Js [1,1,0] 0 H;exact⟨rfl,rfl,b8,rfl,rfl,rfl,H⟩
  ·clear H;intro b8 w H;refine Jo 5 H ?_;refine Jk rfl rfl (Zb q.tp s.tab k n H.swap) ?_;clear H;rintro v w ⟨rfl,H⟩;rw[hL];refine Rb H ?_;clear H;intro w H;refine GP H ?_;replace H:=Js [4,4,4,4,0,3,3,3,3,3,3,2,0] 1 H;replace H:=VR hw hm H;replace H:=Js [1,1,0] 0 H;exact⟨rfl,rfl,b8,rfl,rfl,rfl,H⟩
 ·clear H;rintro ms σ w ⟨rfl,b8,g4,g7,g8,H⟩;rw[Q1 g4,Q1 g7,Q1 g8];refine KS H ?_;clear H;intro w H;refine J0 H ?_;exact Q3 (Jz H (fun w' H' => .cellN H' rfl (by repeat first|exact .nil _|apply QV.cons rfl) (.tmp .nil)) fun w' H'=>⟨rfl,H'.drop.drop⟩)
def Yh (s:CS) (k:Nat) (e:Q7) (place:Int) (l:Y4):List (Rf×Int):=
 match l with
 | .obj a b=>match Qd s.tab a b with
  | some (_,f)=>if f.region≠e.region then Vy (QD s.rem ((k:Int),place)) ((k:Int),place) (a:Int) else QD s.rem ((k:Int),place)
  | none=>QD s.rem ((k:Int),place)
 | _=>QD s.rem ((k:Int),place)
theorem IS {s:CS} {k a b:Nat} {e:Q7} {place:Int} (h:Qd s.tab a b=none):Yh s k e place (.obj a b)=QD s.rem ((k:Int),place):=by
 show (match Qd s.tab a b with|some (_,f)=>if f.region≠e.region then Vy (QD s.rem ((k:Int),place)) ((k:Int),place) (a:Int) else QD s.rem ((k:Int),place)|none=>QD s.rem ((k:Int),place))=_;rw[h]
theorem Ch {s:CS} {k a b kk:Nat} {e f:Q7} {place:Int} (h:Qd s.tab a b=some (kk,f)):Yh s k e place (.obj a b)=if f.region≠e.region then Vy (QD s.rem ((k:Int),place)) ((k:Int),place) (a:Int) else QD s.rem ((k:Int),place):=by
 show (match Qd s.tab a b with|some (_,f)=>if f.region≠e.region then Vy (QD s.rem ((k:Int),place)) ((k:Int),place) (a:Int) else QD s.rem ((k:Int),place)|none=>QD s.rem ((k:Int),place))=_;rw[h]
theorem cz [Q4] (p:Nat) (s:CS) (k n:Nat) (e:Q7) (hk:s.tab[k]? = some ⟨n,some e⟩) (place:Int) (l:Y4) {w:World} {fr:List Q2} (H:Q0 w (QA p s::fr)) :
  Calls Tryz.prog 156 #[pp p,.int .i64 k,.int .i64 place,Z5 l] w (ret fun v w'=>Q0 w' (QA p { s with rem:=Yh s k e place l }::fr)):=by
 obtain⟨a1,a2,a3,hkv⟩:=Gy l;rw[hkv];obtain⟨q,mem,hw,hm,H⟩:=Vv H;have hnd:=B3 (H.pull 6);have hnd0:=hnd;refine Q9 Tryz.func156 rfl (by kernel_rfl) ?_;refine J8 H ?_;clear H;intro b7 w H;refine WL H ?_;refine XB H ?_;refine VZ H ?_;clear H;intro b8 w H;refine J4 H ?_;clear H;intro w H;refine J2 H ?_;replace H:=Js [8,0,0,0,0,0,0,0,0,0,0,0,0] 0 H;refine J1 H ?_;clear H;intro w H;refine E5 H ?_;refine Jk rfl rfl (CI q.rp s.rem hnd ((k:Int),place) H) ?_;clear H;rintro v w ⟨rfl,H⟩;refine Jx H ?_;replace H:=Js [3,3,3,3,3,3,0,2,2,2,2,0,0] 0 H;have H:=VR (s:={ s with rem:=QD s.rem ((k:Int),place) }) (As hw _) (F1 hm _) H;clear hw hm;refine Ag H ?_
 have hcase:(a1≠2∧Yh s k e place l=QD s.rem ((k:Int),place))∨∃ a b:Nat,l = .obj a b∧a1=2∧a2=a∧a3=b:=by
  cases l with
  | none=>injection hkv with h;simp at h;exact .inl ⟨by omega,rfl⟩
  | grave=>injection hkv with h;simp at h;exact .inl ⟨by omega,rfl⟩
  | obj a b=>injection hkv with h;simp at h;exact .inr ⟨a,b,rfl,by omega,by omega,by omega⟩
 rcases hcase with ⟨h2,hn⟩|⟨a,b,rfl,rfl,rfl,rfl⟩
 ·rw[show (a1 != 2)=true by simpa using h2];refine VM H ?_;rw[hn];replace H:=Js [0] 2 H;exact Q3 (Jy H rfl fun w' H'=>H')
 ·refine AF H ?_;refine Jc rfl rfl (Nd p { s with rem:=QD s.rem ((k:Int),place) } k n e hk H) ?_;clear H;rintro v w ⟨rfl,H⟩;refine Vj H ?_;clear H;intro b9 w H;refine J4 H ?_;clear H;intro w H;refine J0 H ?_;replace H:=Js [1,0,0,0] 0 H;obtain⟨q,mem,hw,hm,H⟩:=Vv H;dsimp only at H;obtain⟨e1,e2,h1,h2,e4,hsh⟩:=CT (Qd s.tab a b);refine J6 H ?_
  refine Qo (fun ms σ w=>ms=[]∧∃ b11,σ 0=pp p∧σ 7=pp b7∧σ 8=pp b8∧σ 9=pp b9∧σ 11=pp b11∧σ 12 = .int .i64 e4 ∧
    Q0 w (QA p { s with rem:=QD s.rem ((k:Int),place) }::pts b11 (row 113 [.int .i64 e1,.int .i64 e2,.bool h1,.bool h2])::pts b9 (row 113 (Vg e))::pts b8 (row 133 [.int .i64 k,.int .i64 place])::pts b7 (row 88 [.int .i64 2,.int .i64 a,.int .i64 b])::fr)) ?_ ?_
  ·replace H:=Js [4,0,0,0,0,0,0,0,0,0,0,0,0,0] 0 H;refine J1 H ?_;clear H;intro w H;refine Y3 H ?_;refine Ah H ?_;refine Jw 6 10 H rfl rfl (V1 (a:=[]) (b:=[]) rfl rfl (call (Zb q.tp s.tab a b H) ?_)) (Vo H rfl ?_)
   ·clear H;rintro v w ⟨rfl,H⟩;rw[hsh];refine WO H ?_;clear H;intro b11 w H;refine Ut H ?_;clear H;intro w H;refine Ux H ?_;replace H:=Js [2,2,2,2,1,1,1,1,1,1,1,0,0,0,0] 0 H;have H:=VR (s:={ s with rem:=QD s.rem ((k:Int),place) }) hw hm H;exact⟨rfl,rfl,b11,rfl,rfl,rfl,rfl,rfl,rfl,H⟩
   ·clear H;intro b11 w H;refine Jo 6 H ?_;refine Jk rfl rfl (Zb q.tp s.tab a b H.swap) ?_;clear H;rintro v w ⟨rfl,H⟩;rw[hsh];refine EG H ?_;clear H;intro w H;refine Ux H ?_;replace H:=Js [2,2,2,2,0,1,1,1,1,1,1,0,0,0,0] 0 H;have H:=VR (s:={ s with rem:=QD s.rem ((k:Int),place) }) hw hm H;exact⟨rfl,rfl,b11,rfl,rfl,rfl,rfl,rfl,rfl,H⟩
  ·clear H;rintro ms σ w ⟨rfl,b11,g0,g7,g8,g9,g11,g12,H⟩;rw[Q1 g0,Q1 g7,Q1 g8,Q1 g9,Q1 g11,Q1 g12];cases hL:Qd s.tab a b with
   | none=>
    have hn:Yh s k e place (.obj a b)=QD s.rem ((k:Int),place):=IS hL;rw[hL] at hsh;cases hsh;rw[hn];refine Vq H ?_;refine Bt H ?_;refine Y7 H ?_;replace H:=Js [0] 4 H;exact YV _ (.inl rfl) H rfl fun w' H'=>H'
   | some x=>
    obtain⟨kk,f⟩:=x;rw[hL] at hsh;cases hsh;refine Vq H ?_;refine HS H ?_;by_cases hr:f.region=e.region
    ·have hn:Yh s k e place (.obj a b)=QD s.rem ((k:Int),place):=by rw[Ch hL];exact if_neg (by simpa using hr)
     rw[hn,show (f.region != e.region)=false by simpa using hr];refine Y7 H ?_;replace H:=Js [0] 4 H;exact YV _ (.inl rfl) H rfl fun w' H'=>H'
    ·have hn:Yh s k e place (.obj a b)=Vy (QD s.rem ((k:Int),place)) ((k:Int),place) (a:Int):=by rw[Ch hL];exact if_pos hr
     rw[hn,show (f.region != e.region)=true by simpa using hr];refine XJ H ?_;obtain⟨q,mem,hw,hm,H⟩:=Vv H;dsimp only at H;replace H:=Js [6,0,0,0,0,0,0,0,0,0,0,0,0,0,0] 0 H;have hnd:=B3 H;refine J1 H ?_;clear H;intro w H;refine Y3 H ?_;refine Jl 3 [8] H ?_;refine VP 4 [8] H rfl (Q8.none rfl) rfl (by repeat first|exact .nil _|apply QV.cons rfl) (by kernel_rfl) ?_;refine Jf 5 ?_;refine Jf 6 ?_;refine Jl 7 [8] H ?_;refine Jo 8 H ?_;refine Jk rfl rfl (N4 q.rp _ hnd ((k:Int),place) a H) ?_;clear H;rintro v w ⟨rfl,H⟩;refine Jx H ?_
     have he:QD (QD s.rem ((k:Int),place)) ((k:Int),place)=QD s.rem ((k:Int),place):=by
      refine BE ?_;intro hmem;exact absurd rfl ((BF hnd0).1 hmem).1
     rw[he] at H;replace H:=Js [1,1,1,1,1,1,0,0,0,0,0] 4 H;have H:=VR (s:={ s with rem:=Vy (QD s.rem ((k:Int),place)) ((k:Int),place) (a:Int) }) (As hw _) (F1 hm _) H;exact YV _ (.inl rfl) H rfl fun w' H'=>H'
def Gk (s:CS) (i g place:Int) (l:Y4):CS×Nat:=
 match Qr s.tab i g with
 | none=>(s,8)
 | some (k,e)=>if QO (QN s e) e.ws.length place true=0 then ({ VO s k g.toNat { e with ws:=e.ws.set place.toNat (VK l) } with rem:=Yh (VO s k g.toNat { e with ws:=e.ws.set place.toNat (VK l) }) k { e with ws:=e.ws.set place.toNat (VK l) } place l },0) else (s,QO (QN s e) e.ws.length place true)
theorem Ci {s:CS} {i g place:Int} {l:Y4} (h:Qr s.tab i g=none):Gk s i g place l=(s,8):=by unfold Gk;rw[h]
theorem Wj {s:CS} {i g place:Int} {l:Y4} {k:Nat} {e:Q7} (h:Qr s.tab i g=some (k,e)):Gk s i g place l=if QO (QN s e) e.ws.length place true=0 then ({ VO s k g.toNat { e with ws:=e.ws.set place.toNat (VK l) } with rem:=Yh (VO s k g.toNat { e with ws:=e.ws.set place.toNat (VK l) }) k { e with ws:=e.ws.set place.toNat (VK l) } place l },0) else (s,QO (QN s e) e.ws.length place true):=by unfold Gk;rw[h]
theorem Nf [Q4] (p:Nat) (s:CS) (i g place:Int) (l:Y4) (hl:Ga l) {w:World} {fr:List Q2} (H:Q0 w (QA p s::fr)) :
  Calls Tryz.prog 95 #[pp p,Yz i g,.int .i64 place,Z5 l] w (ret fun v w'=>v = .int .i64 ((Gk s i g place l).2:Nat)∧Q0 w' (QA p (Gk s i g place l).1::fr)):=by
 obtain⟨a1,a2,a3,hkv⟩:=Gy l;rw[hkv];refine Q9 Tryz.func95 rfl (by kernel_rfl) ?_;refine Yw H ?_;clear H;intro b4 w H;refine XH H ?_;clear H;intro b5 w H;refine Ke H ?_;clear H;intro b6 w H;refine XH H ?_;clear H;intro b7 w H;refine EI H ?_;replace H:=Js [4,0,0,0,0] 0 H
 refine Q5 rfl (V1 (a:=[]) (b:=[]) rfl rfl (call (Wi p s i g 155 [pp b4,pp b6,pp b7] (fun v w'=>
   (Qr s.tab i g=none∧v = .int .i64 8∧Q0 w' (QA p s::fr)) ∨
   (∃ k n e, Qr s.tab i g = some (k, e) ∧ g = (n : Nat) ∧ i = (k : Nat) ∧ s.tab[k]? = some ⟨n, some e⟩ ∧ ((QO (QN s e) e.ws.length place true ≠ 0 ∧ v = .int .i64 (QO (QN s e) e.ws.length place true) ∧ Q0 w' (QA p s :: fr)) ∨
    (QO (QN s e) e.ws.length place true=0∧v = .int .i64 0∧Q0 w' (pts b4 (row 44 [pp p])::pts b5 (row 69 [.int .i64 i,.int .i64 g])::pts b6 (row 3 [.int .i64 place])::pts b7 (row 88 [.int .i64 a1,.int .i64 a2,.int .i64 a3])::QA p (VO s k n { e with ws:=e.ws.set place.toNat (VK l) })::fr))))) _ ?_ ?_ H) ?_))
 ·intro hv w H;replace H:=Js [0] 4 H;exact .inl ⟨hv,rfl,H⟩
 ·intro k e hv w H;obtain⟨n,rfl,rfl,hk,hh⟩:=ZH hv;obtain⟨q,mem,hw,hm,H⟩:=Vv H;have hI:=Xc hw hm hk;have hT:=fun (w:World) (fr:List Q2) (H:Q0 w (Qt q.ip q.sp q.bp::Qh q.bp s.lays::ST q.sp s.size mem s.own::fr))=>NG q.ip q.sp q.bp s.size s.lays mem s.own e.addr e.lay e.count k e.ws.length (QN s e) hI place l hl H;rw[hkv] at hT;refine Q9 Tryz.func155 rfl (by kernel_rfl) ?_;refine J8 H ?_;clear H;intro b4 w H;refine J0 H ?_;replace H:=Js [2,2,2,0,0,0,0,0,0,0,0,0,0,0,0,0] 0 H;refine J1 H ?_;clear H;intro w H;refine EJ H ?_;refine Jl 6 [8] H ?_;refine VP 7 [8] H rfl (Q8.none rfl) rfl (by repeat first|exact .nil _|apply QV.cons rfl) (by kernel_rfl) ?_;refine Jo 8 H ?_;refine Jk rfl rfl (hT _ _ H) ?_;clear H;rintro v w ⟨rfl,H⟩;refine Ja 9 ?_;refine Jx H ?_;by_cases h0:QO (QN s e) e.ws.length place true=0
  ·obtain⟨y,rfl,hy,hr⟩:=Zm h0;rw[if_pos h0] at H;rw[h0];have hwl:VK l < 18446744073709551616:=Mi hl;have hw':=F0 (e':={ e with ws:=e.ws.set y (VK l) }) hw hk ⟨rfl,rfl,rfl,rfl,by show (e.ws.set y (VK l)).length=_;simp⟩ (IQ (hw.obj _ _ _ hk).1 (IH hw hk) hwl (fun _=>⟨l,hl,rfl⟩));have hm':=I9 hw hm hk hy (x:=VK l);replace H:=Js [5,4,0,0,0,1,1,1,1,1,1,4,3,2,1] 1 H;replace H:=II (e':={ e with ws:=e.ws.set y (VK l) }) hk rfl H;replace H:=Js [1,1,1,1,0,0,0,0,0,0,0,0,0,0,0] 0 H;replace H:=VR hw' hm' H;replace H:=Js [1,1,1,1,0] 0 H;exact Q3 (Jy H rfl fun w' H' => .inr ⟨k,n,e,hv,rfl,rfl,hk,.inr ⟨h0,rfl,H'⟩⟩)
  ·rw[if_neg h0] at H;replace H:=Js [4,0,0,0,1,1,1,1,1,1,1] 5 H;replace H:=VR hw hm H;exact Q3 (Jy H rfl fun w' H' => .inr ⟨k,n,e,hv,rfl,rfl,hk,.inl ⟨h0,rfl,H'⟩⟩)
 ·clear H;rintro v w (⟨hv,rfl,H⟩|⟨k,n,e,hv,rfl,rfl,hk,(⟨h0,rfl,H⟩|⟨h0,rfl,H⟩)⟩)
  ·rw[Ci hv];refine Yv H ?_;refine J5 H ?_;exact Q3 (Jy H rfl fun w' H'=>⟨rfl,H'⟩)
  ·rw[Wj hv,if_neg h0];refine YA H ?_;rw[show (((QO (QN s e) e.ws.length place true:Nat):Int) == 0)=false by simpa using h0];refine WD H ?_;exact Q3 (Jy H rfl fun w' H'=>⟨rfl,H'⟩)
  ·rw[Wj hv,if_pos h0,Int.toNat_natCast];have hN:=fun (w:World) (fr:List Q2) (H:Q0 w (QA p (VO s k n { e with ws:=e.ws.set place.toNat (VK l) })::fr))=>cz p (VO s k n { e with ws:=e.ws.set place.toNat (VK l) }) k n { e with ws:=e.ws.set place.toNat (VK l) } (by show (s.tab.set k _)[k]? = _;simp[(List.getElem?_eq_some_iff.1 hk).1]) place l H;rw[hkv] at hN;refine YA H ?_;refine J6 H ?_;refine Qo (fun ms σ w=>ms=[]∧σ 9 = .int .i64 0∧Q0 w (QA p { VO s k n { e with ws:=e.ws.set place.toNat (VK l) } with rem:=Yh (VO s k n { e with ws:=e.ws.set place.toNat (VK l) }) k { e with ws:=e.ws.set place.toNat (VK l) } place l }::fr)) ?_ ?_
   ·refine Vh rfl ?_;refine Zl H ?_;refine ZB H ?_;refine XC H ?_;refine RL H ?_;replace H:=Js [4,0,0,0,0] 0 H;refine Jc rfl rfl (hN _ _ H) ?_;clear H;intro v w H;refine J2 H ?_;replace H:=Js [0] 4 H;exact⟨rfl,rfl,rfl,H⟩
   ·clear H;rintro ms σ w ⟨rfl,g9,H⟩;rw[Q1 g9];refine J5 H ?_;exact Q3 (Jy H rfl fun w' H'=>⟨rfl,H'⟩)
def Ys (s:CS) (i g place u v:Int):CS×Nat:=
 if (Y9 s i g place).2≠0 then (s,(Y9 s i g place).2)
 else if (Qr s.tab u v).isNone then (s,8) else Gk s i g place (.obj u.toNat v.toNat)
theorem IT {s:CS} (h:WF s) {k g:Nat} {e:Q7} (hk:s.tab[k]? = some ⟨g,some e⟩):CR k g:=by
 have h1:=(List.getElem?_eq_some_iff.1 hk).1;have h2:=h.slots.2;have h3:=h.gen _ _ hk;exact⟨by omega,h3.2 rfl,h3.1⟩
theorem Ng [Q4] (p:Nat) (s:CS) (i g place u v:Int) {w:World} {fr:List Q2} (H:Q0 w (QA p s::fr)) :
  Calls Tryz.prog 32 #[pp p,Yz i g,.int .i64 place,Yz u v] w (ret fun x w'=>x = .int .i64 ((Ys s i g place u v).2:Nat)∧Q0 w' (QA p (Ys s i g place u v).1::fr)):=by
 obtain⟨a1,a2,a3,hkv⟩:=Gy (Y9 s i g place).1;refine Q9 Tryz.func32 rfl (by kernel_rfl) ?_;refine J8 H ?_;clear H;intro b5 w H;refine XH H ?_;clear H;intro b7 w H;refine KP H ?_;refine Jv ?_;replace H:=Js [2,0,0] 0 H;refine Jc rfl rfl (FU p s i g place H) ?_;clear H;rintro v w ⟨rfl,H⟩;rw[hkv];refine Vj H ?_;clear H;intro b9 w H;refine J4 H ?_;clear H;intro w H;refine YA H ?_;by_cases h0:(Y9 s i g place).2=0
 ·have hT:Ys s i g place u v=if (Qr s.tab u v).isNone then (s,8) else Gk s i g place (.obj u.toNat v.toNat):=by unfold Ys;rw[if_neg (by simpa using h0)]
  rw[hT,h0];refine V6 H ?_;refine Gv H ?_;replace H:=Js [1,0,0,0] 0 H;refine Jc rfl rfl (Na p s u v H) ?_;clear H;rintro v w ⟨rfl,H⟩;cases hv:Qr s.tab u v with
  | none=>
   refine Vj H ?_;clear H;intro b11 w H;refine J4 H ?_;clear H;intro w H;refine CY H ?_;replace H:=Js [1] 4 H;exact Q3 (Jy H rfl fun w' H'=>⟨rfl,H'⟩)
  | some x=>
   obtain⟨k,f⟩:=x;obtain⟨n,rfl,rfl,hk,hh⟩:=ZH hv
   have hok:CR k n:=by
    obtain⟨q,mem,hw,hm,_⟩:=Vv (H.pull 0);exact IT hw hk
   refine Vj H ?_;clear H;intro b11 w H;refine J4 H ?_;clear H;intro w H;refine EK H ?_;refine Jv ?_;refine RL H ?_;refine XB H ?_;replace H:=Js [1,0,0,0,0] 0 H;refine Jc rfl rfl (Nf p s i g place (.obj k n) hok H) ?_;clear H;rintro v w ⟨rfl,H⟩;refine J0 H ?_;replace H:=Js [0] 4 H;exact Q3 (Jy H rfl fun w' H'=>⟨rfl,H'⟩)
 ·have hT:Ys s i g place u v=(s,(Y9 s i g place).2):=by unfold Ys;rw[if_pos h0]
  rw[hT];rw[show ((((Y9 s i g place).2:Nat):Int) != 0)=true by simpa using h0];refine Yn H ?_;replace H:=Js [1] 3 H;exact Q3 (Jy H rfl fun w' H'=>⟨rfl,H'⟩)
theorem d5 [Q4] (p:Nat) (s:CS) (i g place:Int) {w:World} {fr:List Q2} (H:Q0 w (QA p s::fr)) :
  Calls Tryz.prog 169 #[pp p,Yz i g,.int .i64 place] w (ret fun x w'=>x = .int .i64 ((Gk s i g place .none).2:Nat)∧Q0 w' (QA p (Gk s i g place .none).1::fr)):=by
 refine Q9 Tryz.func169 rfl (by kernel_rfl) ?_;refine J8 H ?_;clear H;intro b4 w H;refine KP H ?_;refine Jv ?_;refine XB H ?_;refine Jc rfl rfl (Nf p s i g place .none trivial H.swap) ?_;clear H;rintro v w ⟨rfl,H⟩;refine J0 H ?_;replace H:=Js [0] 1 H;exact Q3 (Jy H rfl fun w' H'=>⟨rfl,H'⟩)
def Kq (s:CS) (a b:Nat):CS:=
 match Qd s.tab a b with
 | some (k,e)=>VO s k b { e with held:=true }
 | none=>s
theorem Cj {s:CS} {a b:Nat} (h:Qd s.tab a b=none):Kq s a b=s:=by unfold Kq;rw[h]
theorem Ck {s:CS} {a b k:Nat} {e:Q7} (h:Qd s.tab a b=some (k,e)):Kq s a b=VO s k b { e with held:=true }:=by unfold Kq;rw[h]
def Zc (s:CS) (i g place:Int):CS:=
 match Y9 s i g place with
 | (.obj a b,0)=>Kq s a b
 | _=>s
theorem d6 [Q4] (p:Nat) (s:CS) (i g place:Int) {w:World} {fr:List Q2} (H:Q0 w (QA p s::fr)) :
  Calls Tryz.prog 166 #[pp p,Yz i g,.int .i64 place] w (ret fun v w'=>v = .tuple #[Z5 (Y9 s i g place).1,.int .i64 ((Y9 s i g place).2:Nat)]∧Q0 w' (QA p (Zc s i g place)::fr)):=by
 obtain⟨a1,a2,a3,hkv⟩:=Gy (Y9 s i g place).1;rw[hkv];refine Q9 Tryz.func166 rfl (by kernel_rfl) ?_;refine J8 H ?_;clear H;intro b4 w H;refine VZ H ?_;clear H;intro b6 w H;refine KP H ?_;refine Jv ?_;replace H:=Js [2,0,0] 0 H;refine Jc rfl rfl (FU p s i g place H) ?_;clear H;rintro v w ⟨rfl,H⟩;rw[hkv];refine Vj H ?_;clear H;intro b8 w H;refine J4 H ?_;clear H;intro w H;refine J0 H ?_;replace H:=Js [1,0,0] 1 H;have fin:∀ (σ:QK) (w:World),σ 6=pp b6→σ 8=pp b8→σ 9 = .int .i64 ((Y9 s i g place).2:Nat)→Q0 w (QA p (Zc s i g place)::pts b8 (row 88 [.int .i64 a1,.int .i64 a2,.int .i64 a3])::pts b6 (row 88 [.int .i64 0,.int .i64 0,.int .i64 0])::fr)→True:=fun _ _ _ _ _ _=>trivial;clear fin;generalize hq:Y9 s i g place=r at hkv H ⊢;obtain⟨k,er⟩:=r
 have hcase:(¬ (er=0∧a1=2)∧Zc s i g place=s)∨∃ a b:Nat,k = .obj a b∧er=0∧a1=2∧a2=a∧a3=b∧Zc s i g place=Kq s a b:=by
  have hr:Zc s i g place=(match (k,er) with|(.obj a b,0)=>Kq s a b|_=>s):=by unfold Zc;rw[hq]
  cases k with
  | none=>injection hkv with h;simp at h;exact .inl ⟨by omega,hr⟩
  | grave=>injection hkv with h;simp at h;exact .inl ⟨by omega,hr⟩
  | obj a b=>
   injection hkv with h
   simp at h;cases er with
   | zero=>exact .inr ⟨a,b,rfl,rfl,by omega,by omega,by omega,hr⟩
   | succ er=>exact .inl ⟨by omega,hr⟩
 rcases hcase with ⟨hno,hr⟩|⟨a,b,rfl,rfl,rfl,rfl,rfl,hr⟩
 ·rw[hr];refine J9 H ?_;by_cases h0:er=0
  ·subst h0;rw[show (((0:Nat):Int) == 0)=true from rfl];refine A8 H ?_;rw[show (a1 == 2)=false by simp;intro h;exact hno ⟨rfl,h⟩];refine Y7 H ?_;refine KS H ?_;clear H;intro w H;refine J0 H ?_;replace H:=Js [2,0] 1 H;exact Q3 (Jz H (fun w' H' => .cellN H' rfl (by repeat first|exact .nil _|apply QV.cons rfl) (.tmp .nil)) fun w' H'=>⟨rfl,H'.drop⟩)
  ·rw[show (((er:Nat):Int) == 0)=false by simpa using h0];refine Dr H ?_;refine Y7 H ?_;refine KS H ?_;clear H;intro w H;refine J0 H ?_;replace H:=Js [2,0] 1 H;exact Q3 (Jz H (fun w' H' => .cellN H' rfl (by repeat first|exact .nil _|apply QV.cons rfl) (.tmp .nil)) fun w' H'=>⟨rfl,H'.drop⟩)
 ·rw[hr];refine Vq H ?_;refine UM H ?_;refine J0 H ?_;obtain⟨e1,e2,h1,h2,e4,hsh⟩:=CT (Qd s.tab a b);refine J6 H ?_;refine Qo (fun ms σ w=>ms=[]∧σ 6=pp b6∧σ 8=pp b8∧σ 9 = .int .i64 0∧Q0 w (QA p (Kq s a b)::pts b8 (row 88 [.int .i64 2,.int .i64 a,.int .i64 b])::pts b6 (row 88 [.int .i64 0,.int .i64 0,.int .i64 0])::fr)) ?_ ?_
  ·refine VM H ?_;obtain⟨q,mem,hw,hm,H⟩:=Vv H;refine J6 H ?_
   refine Qo (fun ms σ w=>ms=[]∧∃ b10,σ 0=pp p∧σ 6=pp b6∧σ 8=pp b8∧σ 9 = .int .i64 0∧σ 10=pp b10 ∧
     Q0 w (pts b10 (row 113 [.int .i64 e1,.int .i64 e2,.bool h1,.bool h2])::QA p s::pts b8 (row 88 [.int .i64 2,.int .i64 a,.int .i64 b])::pts b6 (row 88 [.int .i64 0,.int .i64 0,.int .i64 0])::fr)) ?_ ?_
   ·replace H:=Js [4,0,0,0,0,0,0,0,0,0,0,0,0] 0 H;refine J1 H ?_;clear H;intro w H;refine Y3 H ?_;refine Ah H ?_;refine Jw 6 10 H rfl rfl (V1 (a:=[]) (b:=[]) rfl rfl (call (Zb q.tp s.tab a b H) ?_)) (Vo H rfl ?_)
    ·clear H;rintro v w ⟨rfl,H⟩;rw[hsh];refine WO H ?_;clear H;intro b10 w H;refine Ut H ?_;clear H;intro w H;refine Ux H ?_;replace H:=Js [2,2,2,2,1,1,1,1,1,1,1,0,0,0] 0 H;have H:=VR hw hm H;exact⟨rfl,rfl,b10,rfl,rfl,rfl,rfl,rfl,H.swap⟩
    ·clear H;intro b10 w H;refine Jo 6 H ?_;refine Jk rfl rfl (Zb q.tp s.tab a b H.swap) ?_;clear H;rintro v w ⟨rfl,H⟩;rw[hsh];refine EG H ?_;clear H;intro w H;refine Ux H ?_;replace H:=Js [2,2,2,2,0,1,1,1,1,1,1,0,0,0] 0 H;have H:=VR hw hm H;exact⟨rfl,rfl,b10,rfl,rfl,rfl,rfl,rfl,H.swap⟩
   ·clear H;rintro ms σ w ⟨rfl,b10,g0,g6,g8,g9,g10,H⟩;rw[Q1 g0,Q1 g6,Q1 g8,Q1 g9,Q1 g10];refine G5 H ?_;refine UY H ?_;clear H;intro w H;refine J2 H ?_;obtain⟨q,mem,hw,hm,H⟩:=Vv H.swap;cases hL:Qd s.tab a b with
    | none=>
     rw[hL] at hsh;cases hsh;rw[Cj hL];replace H:=Js [4,0,0,0,0,0,0,0,0,0,0,0,0,0] 0 H;refine J1 H ?_;clear H;intro w H;refine Ja 0 ?_;refine Ja 1 ?_;refine Jf 2 ?_;refine Jl 3 [7] H ?_;refine Jf 4 ?_;refine HT H ?_;refine E6 H ?_;refine Jk rfl rfl (CP q.tp s.tab a b ⟨0,0,true,false,0,0,[]⟩ H) ?_;clear H;rintro v w (⟨k',e',hL',rfl,H⟩|⟨_,rfl,H⟩)
     ·rw[hL] at hL';cases hL'
     ·refine Jx H ?_;replace H:=Js [1,1,1,1,0,0,0,0,0,0,0,1,1] 1 H;have H:=VR hw hm H;exact⟨rfl,rfl,rfl,rfl,rfl,H⟩
    | some x=>
     obtain⟨kk,f⟩:=x;rw[hL] at hsh;cases hsh;rw[Ck hL];obtain⟨n,hkk,hbn,hk⟩:=Y8.1 hL;obtain rfl:a=kk:=by omega
     obtain rfl:b=n:=by omega
     replace H:=Js [4,0,0,0,0,0,0,0,0,0,0,0,0,0] 0 H;refine J1 H ?_;clear H;intro w H;refine Ja 0 ?_;refine Ja 1 ?_;refine Jf 2 ?_;refine Jl 3 [7] H ?_;refine Jf 4 ?_;refine HT H ?_;refine E6 H ?_;refine Jk rfl rfl (CP q.tp s.tab a b { f with held:=true } H) ?_;clear H;rintro v w (⟨k',e',hL',rfl,H⟩|⟨hL',rfl,H⟩)
     ·rw[hL] at hL';cases hL';refine Jx H ?_;replace H:=Js [1,1,1,1,0,0,0,0,0,0,0,1,1] 1 H;have H:=IM (e':={ f with held:=true }) hw hm hk ⟨rfl,rfl,rfl,rfl,rfl⟩ rfl H;exact⟨rfl,rfl,rfl,rfl,rfl,H⟩
     ·rw[hL] at hL';cases hL'
  ·clear H;rintro ms σ w ⟨rfl,g6,g8,g9,H⟩;rw[Q1 g6,Q1 g8,Q1 g9];refine KS H ?_;clear H;intro w H;refine J0 H ?_;replace H:=Js [2,0] 1 H;exact Q3 (Jz H (fun w' H' => .cellN H' rfl (by repeat first|exact .nil _|apply QV.cons rfl) (.tmp .nil)) fun w' H'=>⟨rfl,H'.drop⟩)
def Ui (s:CS) (ws:List Nat):CS×Nat×Nat:=
 match ZD ws with
 | none=>(s,0,4)
 | some l=>if s.lays.length=64 then (s,0,5) else ({ s with lays:=s.lays++[l] },s.lays.length+1,0)
theorem Cl {s:CS} {ws:List Nat} (h:ZD ws=none):Ui s ws=(s,0,4):=by unfold Ui;rw[h]
theorem B4 {s:CS} {ws:List Nat} {l:QM} (h:ZD ws=some l):Ui s ws=if s.lays.length=64 then (s,0,5) else ({ s with lays:=s.lays++[l] },s.lays.length+1,0):=by unfold Ui;rw[h]
theorem d7 {ws:List Nat} (h:ws.length≠3):ZD ws=none:=by
 match ws with
 | []=>rfl
 | [_]=>rfl
 | [_,_]=>rfl
 | [_,_,_]=>exact absurd rfl h
 | _::_::_::_::_=>rfl
theorem d8 [Q4] (v:Value) (ws:List Nat) (hws:∀ x∈ws,x < 18446744073709551616) {w:World} {fr:List Q2} [hT:YX 0 Lib.deBruijn64tab fr] (hr:Vu fr v ws.length 1 (Qa ws)) (H:Q0 w fr) :
  Calls Tryz.prog 86 #[v] w (ret fun r w'=>(ZD ws=none∧r = .tuple #[Yy 0 (.slice none 0 0) 0 (.slice none 0 0),.int .i64 4]∧Q0 w' fr) ∨
   ∃ l vr vq,ZD ws=some l∧r = .tuple #[Yy l.fixed vr l.record vq,.int .i64 0]∧Q0 w' (NL vr l.refs::NL vq l.recs::fr)):=by
 by_cases h3:ws.length=3
 ·obtain⟨x,y,z,rfl⟩:∃ x y z,ws=[x,y,z]:=by
   match ws,h3 with
   | [x,y,z],_=>exact⟨x,y,z,rfl⟩
  exact aV v x y z (hws x (by simp)) (hws y (by simp)) (hws z (by simp)) hr H
 ·obtain⟨_,a,c,rfl,_⟩:=id hr;exact call (aQ _ ws.length h3 ⟨a,c,rfl⟩ H) fun r w h => .inl ⟨d7 h3,h.1,h.2⟩
theorem Nh [Q4] (p:Nat) (s:CS) (v:Value) (ws:List Nat) (hws:∀ x∈ws,x < 18446744073709551616) {w:World} {fr:List Q2} [hT:YX 0 Lib.deBruijn64tab fr] (hr:Vu fr v ws.length 1 (Qa ws)) (H:Q0 w (QA p s::fr)) :
  Calls Tryz.prog 29 #[pp p,v] w (ret fun x w'=>x = .tuple #[.int .i64 ((Ui s ws).2.1:Nat),.int .i64 ((Ui s ws).2.2:Nat)]∧Q0 w' (QA p (Ui s ws).1::fr)):=by
 obtain⟨_,av,cv,rfl,_⟩:=id hr;refine Q9 Tryz.func29 rfl (by kernel_rfl) ?_;refine Dm H ?_;refine YY H ?_;refine Jc rfl rfl (d8 _ ws hws hr.there H) ?_;clear H;rintro v w (⟨hd,rfl,H⟩|⟨l,vr,vq,hd,rfl,H⟩)
 ·rw[Cl hd];refine Vj H ?_;clear H;intro b6 w H;refine J4 H ?_;clear H;intro w H;refine Ai H ?_;replace H:=Js [1] 1 H;exact Q3 (Jy H rfl fun w' H'=>⟨rfl,H'⟩)
 ·obtain⟨aa,ma,rfl⟩:=QF H (QH _) (by decide);obtain⟨ab,mb,rfl⟩:=QF H.drop (QH _) (by decide);rw[B4 hd];refine Vj H ?_;clear H;intro b6 w H;refine J4 H ?_;clear H;intro w H;refine Yv H ?_;replace H:=Js [3,0,0,0] 0 H;obtain⟨q,mem,hw,hm,H⟩:=Vv H;have hR:=Tw hd;replace H:=Js [12,12,2,0,0,0,0,0,0,0,0,0,0,0] 0 H;obtain⟨D1,H,hD1,hC1⟩:=sls_rd H (QH _) (by decide);obtain⟨D2,H,hD2,hC2⟩:=sls_rd H.swap (QH _) (by decide);refine J1 H ?_;clear H;intro w H;refine Ja 0 ?_;refine Ja 1 ?_;refine Jf 2 ?_;refine Jl 3 [5] H ?_;refine VP 4 [5] H rfl (Q8.none rfl) rfl (by repeat first|exact .nil _|apply QV.cons rfl) (by kernel_rfl) ?_;replace H:=Js [2,1,0] 0 H;refine Jo 5 H ?_;refine Jk rfl rfl (aZ q.bp s.lays _ _ l hR ⟨hD1 _,(hD2 _).there⟩ H) ?_;clear H;rintro v w (⟨h64,rfl,H⟩|⟨h64,rfl,H⟩)
  ·rw[if_pos h64];refine Bw H ?_;refine Jx H ?_;replace H:=Js [3,3,0,2,2,2,2,2,2,2,2] 3 H;have H:=VR hw hm H;exact Q3 (Jy H rfl fun w' H'=>⟨rfl,H'⟩)
  ·rw[if_neg (by omega)];refine Bw H ?_;refine Jx H ?_;replace H:=Js [3,3,0,2,2,2,2,2,2,2,2] 3 H;have H:=VR (s:={ s with lays:=s.lays++[l] }) (aj hw hR h64) ⟨hm.len,hm.head,hm.words⟩ H;exact Q3 (Jy H rfl fun w' H'=>⟨rfl,H'⟩)
@[reducible] def Wk (s:CS) (parent:Int) (b b2:Nat):CS:=
 { s with last:=s.last+1,par:=s.par++[(((s.last+1:Nat):Int),parent)],sps:=s.sps++[(((s.last+1:Nat):Int),b,⟨[],0,0⟩)],mns:=s.mns++[(((s.last+1:Nat):Int),b2,[])] }
theorem Ia [Q4] (p:Nat) (s:CS) (parent:Int) (hlast:s.last+1 < 1000000) {w:World} {fr:List Q2} (H:Q0 w (QA p s::fr)) :
  Calls Tryz.prog 30 #[pp p,.int .i64 parent] w (ret fun x w'=>(Z9 s.par parent≠0∧x = .tuple #[.int .i64 0,.int .i64 (Z9 s.par parent)]∧Q0 w' (QA p s::fr)) ∨
   (Z9 s.par parent=0∧∃ b b2,x = .tuple #[.int .i64 ((s.last+1:Nat):Int),.int .i64 0]∧Q0 w' (QA p (Wk s parent b b2)::fr))):=by
 obtain⟨q,mem,hw,hm,H⟩:=Vv H;refine Q9 Tryz.func30 rfl (by kernel_rfl) ?_;refine Dm H ?_;refine VQ H ?_;replace H:=Js [5,0,0,0,0,0,0,0,0,0,0] 0 H;refine Jc rfl rfl (N5 q.trp s.last s.par parent (by omega) (fun r x hx=>(hw.par.2.2 r x hx).2) H) ?_;clear H;rintro v w (⟨he,rfl,H⟩|⟨he,rfl,H⟩)
 ·refine Br H ?_;rw[show (((Z9 s.par parent:Nat):Int) != 0)=true by simpa using he];refine EZ H ?_;replace H:=Js [1,1,1,1,1,0,0,0,0,0,0] 0 H;have H:=VR hw hm H;exact Q3 (Jy H rfl fun w' H' => .inl ⟨he,rfl,H'⟩)
 ·have hl64:s.par.length < 64:=by
   unfold Z9 at he;split at he
   ·omega
   ·split at he
    ·omega
    ·have:=hw.par.1;omega
  have hfr:∀ {α:Type} (l:List (Int×α)),l.map (·.1)=s.par.map (·.1)→((s.last+1:Nat):Int)∉l.map (·.1):=by
   intro α l hl hmem;rw[hl] at hmem;obtain⟨⟨r,x⟩,hx,h1⟩:=mem_map.1 hmem;have h1:r=((s.last+1:Nat):Int):=h1;have:=(hw.par.2.2 r x hx).2;omega
  have hf1:((s.last+1:Nat):Int)∉(s.sps.map VE).map (·.1):=hfr _ (by rw[map_map];exact hw.skeys);have hf2:((s.last+1:Nat):Int)∉(s.mns.map Qx).map (·.1):=hfr _ (by rw[map_map];exact hw.mkeys);refine G4 H ?_;refine J1 H ?_;clear H;intro w H;refine Y3 H ?_;refine Jl 3 [14] H ?_;refine Dp H ?_;refine Jl 8 [10,14] H ?_;refine Ja 9 ?_;refine Jo 10 H ?_;refine Jk rfl rfl (IY q.sp (s.last+1) (by omega) H) ?_;clear H;rintro v w ⟨b,rfl,H⟩;refine Ja 11 ?_;refine Kd H ?_;refine Jo 14 H ?_;refine XW (ek:=ki .i64) (vv:=Qp) (v:=b) (key:=((s.last+1:Nat):Int)) H rfl rfl rfl VC rfl ?_;clear H;intro w H;rw[Xl hf1,show s.sps.map VE++[(((s.last+1:Nat):Int),b)]=(s.sps++[(((s.last+1:Nat):Int),b,(⟨[],0,0⟩:QE))]).map VE by simp] at H;refine Jx H ?_;refine J1 H ?_;clear H;intro w H;refine C3 H ?_;refine Ja 4 ?_;refine Jo 5 H ?_;refine Jk rfl rfl (IU H) ?_;clear H;rintro v w ⟨b2,rfl,H⟩
  refine Jo 6 H ?_;refine XW (ek:=ki .i64) (vv:=Qp) (v:=b2) (key:=((s.last+1:Nat):Int)) H rfl rfl rfl VC rfl ?_;clear H;intro w H;rw[Xl hf2,show s.mns.map Qx++[(((s.last+1:Nat):Int),b2)]=(s.mns++[(((s.last+1:Nat):Int),b2,([]:List Nat))]).map Qx by simp] at H;refine Jx H ?_;refine VX H ?_;replace H:=Js [1,9,2,2,2,2,2,1,1,1,1,1,0] 0 H;have H:=(Q0.pick (R:=VJ q.sp) (x:=(((s.last+1:Nat):Int),b,(⟨[],0,0⟩:QE))) (g1:=s.sps) (g2:=[]) rfl).2 (by rw[append_nil];exact H);replace H:=Js [11,10,0,0,0,0,0,0,0,0,0,0] 0 H;have H:=(Q0.pick (R:=Qy) (x:=(((s.last+1:Nat):Int),b2,([]:List Nat))) (g1:=s.mns) (g2:=[]) rfl).2 (by rw[append_nil];exact H);replace H:=Js [2,2,2,2,2,2,2,2,1,1,0] 0 H;have H:=VR (s:=Wk s parent b b2) (ae hw hl64 hlast) ⟨hm.len,hm.head,hm.words⟩ H;exact Q3 (Jy H rfl fun w' H' => .inr ⟨he,b,b2,rfl,H'⟩)
theorem Ni [Q4] (n size slots:Nat) (h1:1≤n) (h2:n≤63) (h3:1≤size) (h4:size≤1024) (h5:1≤slots) (h6:slots≤63) {w:World} {fr:List Q2} (H:Q0 w fr) :
  Calls Tryz.prog 28 #[.int .i64 n,.int .i64 size,.int .i64 slots] w (ret fun v w'=>∃ p,v = .tuple #[pp p,.int .i64 0] ∧
   Q0 w' (QA p ⟨size,List.replicate n 0,[],List.replicate slots ⟨0,none⟩,0,[],[],[],[]⟩::fr)):=by
 refine Q9 Tryz.func28 rfl (by kernel_rfl) ?_;refine XL H ?_;refine Jc rfl rfl (Tr n size h1 (by omega) h3 h4 H) ?_;clear H;rintro v w ⟨sp,rfl,H⟩;refine G4 H ?_;refine YY H ?_;refine Jc rfl rfl (cI slots h5 h6 H) ?_;clear H;rintro v w ⟨tp,rfl,H⟩;refine G4 H ?_;refine G5 H ?_;refine Jc rfl rfl (aY H) ?_;clear H;rintro v w ⟨bp,rfl,H⟩;refine J0 H ?_;refine J9 H ?_;refine Jc rfl rfl (ap sp bp H) ?_;clear H;rintro v w ⟨ip,rfl,H⟩;refine Zs H ?_;refine Xu H ?_;refine Jc rfl rfl (aI H) ?_;clear H;rintro v w ⟨trp,rfl,H⟩;refine Jc rfl rfl (aE H) ?_;clear H;rintro v w ⟨rp,rfl,H⟩;refine Q5 rfl (KA Qp (ki .i64) H rfl ?_);clear H;intro sm w H;refine Q5 rfl (KA Qp (ki .i64) H rfl ?_);clear H;intro mm w H;refine XE H ?_;clear H;intro b47 w H;refine J3 H ?_;have hget:∀ {i:Nat} {t:QX},(List.replicate slots (⟨0,none⟩:QX))[i]? = some t→t=⟨0,none⟩:=fun h=>eq_of_mem_replicate (mem_of_getElem? h);have hget0:∀ {i r:Nat},(List.replicate n 0)[i]? = some r→r=0:=fun h=>eq_of_mem_replicate (mem_of_getElem? h)
 have hw:WF ⟨size,List.replicate n 0,[],List.replicate slots ⟨0,none⟩,0,[],[],[],[]⟩:=by
  refine⟨⟨h3,h4⟩,by simp;omega,by simp;omega,by simp,fun i t h=>?_,fun i g e h=>?_,fun i j g h e f _ hi _=>?_,by simp,rfl,rfl,by simp,by simp,fun c r h h0=>?_,by simp⟩
  ·have:=hget h;subst this;simp
  ·have:=hget h;cases this
  ·have:=hget hi;cases this
  ·exact absurd (hget0 h) h0
 have hm:Va ⟨size,List.replicate n 0,[],List.replicate slots ⟨0,none⟩,0,[],[],[],[]⟩ (List.replicate (n*size) 0):=by
  refine⟨by simp,fun i g e h=>?_,fun i g e h=>?_⟩
  ·have:=hget h;cases this
  ·have:=hget h;cases this
 have H:Q0 w (star (([]:List (Int×Nat×QE)).map (VJ sp))::_):=Q0.star.2 H;have H:Q0 w (star (([]:List (Int×Nat×List Nat)).map Qy)::_):=Q0.star.2 H;replace H:=Js [2,6,6,7,6,5,4,3,1,1,0] 0 H;have H:=VR (s:=⟨size,List.replicate n 0,[],List.replicate slots ⟨0,none⟩,0,[],[],[],[]⟩) (q:=⟨sp,bp,ip,tp,trp,rp,sm,mm⟩) hw hm H;exact Q3 (Jy H rfl fun w' H'=>⟨_,rfl,H'⟩)
def GG (size:Nat) (x:Nat×Nat) (e:Q7):Prop:=(x.2=1∧x.1*size≤e.addr∧QJ e≤(x.1+1)*size)∨(2≤x.2∧e.addr=x.1*size∧x.2=e.ws.length / size+1)
def Y1 (s:CS):Prop:=∀ (k g:Nat) (e:Q7),s.tab[k]? = some ⟨g,some e⟩→∃ x∈s.sps,x.1=e.region∧∃ y∈x.2.2.parts,GG s.size y e
theorem GG.alike {size:Nat} {x:Nat×Nat} {e e':Q7} (h:GG size x e) (h1:e'.addr=e.addr) (h2:e'.ws.length=e.ws.length):GG size x e':=by
 unfold GG QJ at *;rw[h1,h2];exact h
theorem d9 {size:Nat} (hs:1≤size) {x:Nat×Nat} {e:Q7} (h:GG size x e):x.1*size≤e.addr∧QJ e≤(x.1+x.2)*size:=by
 rcases h with ⟨h1,h2,h3⟩|⟨h1,h2,h3⟩
 ·rw[h1];exact⟨h2,h3⟩
 ·refine⟨by omega,?_⟩;have h4:e.ws.length < (e.ws.length / size+1)*size:=Nat.lt_mul_of_div_lt (Nat.lt_succ_self _) (by omega);rw[Nat.add_mul,h3];unfold QJ;omega
theorem dQ {s:CS} (hP:Y1 s) {i g0 r q:Nat} {S S':QE} {p1 p2:List (Int×Nat×QE)} (hs:s.sps=p1++((r:Int),q,S)::p2) {e:Q7} (hreg:e.region=r) {own' mem mem':List Nat} (hsz:1≤s.size) (hS:Gc s.size s.own r S)
  (al:UG s.size s.own mem r S (e.ws.length+1) own' mem' S' e.addr) {s':CS} (h1:s'.size=s.size) (h2:s'.tab=s.tab.set i ⟨g0+1,some e⟩) (h3:s'.sps=p1++((r:Int),q,S')::p2):Y1 s':=by
 have hsub:(∀ y∈S.parts,y∈S'.parts)∧∃ y∈S'.parts,GG s.size y e:=by
  generalize hea:e.addr=ad at al;cases al with
  | room hn=>
   have hfin:S.fin≠0:=by omega
   obtain⟨c,hc1,hc2,hc3⟩:=hS.fin hfin;refine⟨fun y hy=>hy,(c,1),hc3,.inl ⟨rfl,?_,?_⟩⟩
   ·show c*s.size≤e.addr;omega
   ·show QJ e≤(c+1)*s.size;unfold QJ;omega
  | @one a ha hf hn=>
   refine⟨fun y hy=>mem_append.2 (.inl hy),(a,1),by simp,.inl ⟨rfl,?_,?_⟩⟩
   ·show a*s.size≤e.addr;omega
   ·show QJ e≤(a+1)*s.size;have:(a+1)*s.size=a*s.size+s.size:=Nat.succ_mul _ _;unfold QJ;omega
  | @run a k hk ha hf hn hn2=>
   refine⟨fun y hy=>mem_append.2 (.inl hy),(a,k),by simp,.inr ⟨hk,hea,?_⟩⟩;show k=e.ws.length / s.size+1;have h4:(k - 1)*s.size≤e.ws.length:=by omega
   have h5:k - 1≤e.ws.length / s.size:=(Nat.le_div_iff_mul_le (by omega)).2 h4;have h6:e.ws.length / s.size < k:=(Nat.div_lt_iff_lt_mul (by omega)).2 (by omega);omega
 intro j n f hj;rw[h2] at hj;rw[h1,h3]
 rcases V3 hj with ⟨rfl,u1,_⟩|⟨h0,hj⟩
 ·injection u1 with _ u1
  injection u1 with u1
  subst u1;obtain⟨y,y1,y2⟩:=hsub.2;exact⟨((r:Int),q,S'),by simp,hreg.symm,y,y1,y2⟩
 ·obtain⟨x,x1,x2,y,y1,y2⟩:=hP j n f hj;rw[hs] at x1
  rcases G9 x1 with rfl|x1
  ·exact⟨((r:Int),q,S'),by simp,x2,y,hsub.1 y y1,y2⟩
  ·exact⟨x,X5 x1,x2,y,y1,y2⟩
structure Y5 (s s':CS):Prop where
 par:s'.par=s.par
 sps:s'.sps=s.sps
 size:s'.size=s.size
 tab:∀ (k g:Nat) (e':Q7),s'.tab[k]? = some ⟨g,some e'⟩→∃ e,s.tab[k]? = some ⟨g,some e⟩∧e'.region=e.region∧e'.addr=e.addr∧e'.ws.length=e.ws.length
theorem Y5.refl (s:CS):Y5 s s:=⟨rfl,rfl,rfl,fun k g e h=>⟨e,h,rfl,rfl,rfl⟩⟩
theorem Y5.part {s s':CS} (h:Y5 s s') (hP:Y1 s):Y1 s':=by
 intro k g e' hk;obtain⟨e,h1,h2,h3,h4⟩:=h.tab k g e' hk;obtain⟨x,x1,x2,y,y1,y2⟩:=hP k g e h1;rw[h.sps,h.size,h2];exact⟨x,x1,x2,y,y1,y2.alike h3 h4⟩
theorem Y5.set {s:CS} {k g:Nat} {e e':Q7} (hk:s.tab[k]? = some ⟨g,some e⟩) (a:e'.region=e.region∧e'.addr=e.addr∧e'.ws.length=e.ws.length) (R:List ((Int×Int)×Int)):Y5 s { VO s k g e' with rem:=R }:=by
 refine⟨rfl,rfl,rfl,fun j n f hj=>?_⟩;have hj:(s.tab.set k ⟨g,some e'⟩)[j]? = some ⟨n,some f⟩:=hj
 rcases V3 hj with ⟨rfl,h1,_⟩|⟨_,h1⟩
 ·injection h1 with h1 h2
  injection h2 with h2
  subst h1 h2;exact⟨e,hk,a⟩
 ·exact⟨f,h1,rfl,rfl,rfl⟩
open Go.SL Go.Lib
theorem Cm [Q4] {E b:Nat} {post:List Value} {fr:List Q2}:∀ (new old pre:List Value) {w:World},old.length=new.length→Q0 w (pts b (row E (pre++old++post))::fr)→Q0 (w.setCells b pre.length new) (pts b (row E (pre++new++post))::fr)
 | [],old,pre,w,hl,H=>by
  obtain rfl:old=[]:=length_eq_zero_iff.1 hl;exact H
 | v::r,old,pre,w,hl,H=>by
  obtain⟨o,t,rfl⟩:∃ o t,old=o::t:=by
   cases old with
   | nil=>cases hl
   | cons o t=>exact⟨o,t,rfl⟩
  have hb:=H.pts
  have H1:Q0 (w.setCell ⟨b,pre.length,none⟩ v) (pts b (row E (pre++v::t++post))::fr):=by
   refine H.set ?_ ?_
   ·show (w.heap.modify b _)[b]? = _;rw[Array.getElem?_modify,if_pos rfl,hb];simp only[Option.map_some,row];congr 2;simp
   ·intro c hc;show (w.heap.modify b _)[c]? = _;rw[Array.getElem?_modify,if_neg (Ne.symm hc)]
  rw[show pre++v::t++post=(pre++[v])++t++post by simp] at H1;have h2:=Cm r t (pre++[v]) (by simpa using hl) H1;rw[length_append] at h2;rw[show pre++v::r++post=(pre++[v])++r++post by simp];exact h2
theorem dV [Q4] (v:Value) (l:List Nat) (x i:Nat) (hi:i < l.length) (hl:l.length≤100000) (b:Nat) {w:World} {fr:List Q2} (H:Q0 w (NL v l::pts b (row 3 [.int .i64 x])::fr)) :
  Calls Tryz.prog 154 #[v,.int .i64 i,.slice (some ⟨b,0,none⟩) 1 1] w (ret fun v w'=>Q0 w' (NL v (l.take i++x::l.drop i)::fr)):=by
 have hnl:(l.take i++x::l.drop i).length=l.length+1:=by simp;omega
 have hcl:(QW l).length=l.length:=by rw[QH];omega
 have h1c:∀ v∈QW l,v.oneCell'=true:=fun v hv=>by obtain⟨y,_,rfl⟩:=mem_map.1 hv;rfl
 have h1v:∀ v∈[Value.int .i64 (x:Int)],v.oneCell'=true:=fun v hv=>by rw[mem_singleton] at hv;subst hv;rfl
 rcases GH H with ⟨_,h0,_⟩|⟨b',n,cap,s,rfl,e3,e4,e5,H2⟩
 ·rw[h0] at hcl;cases l with
  | nil=>cases hi
  | cons a t=>cases hcl
 obtain rfl:n=l.length:=by omega
 have hb:=H2.pts;have hx:=H2.swap.pts;have hne:b'≠b:=Q0.ne H2
 have hvs:∀ j v,[Value.int .i64 (x:Int)][j]? = some v→w.cell? ⟨b,0+j,none⟩=some v:=fun j v hj=>by
  rw[Nat.zero_add];exact Zo hx hj
 have hcs:∀ j v,(QW l)[j]? = some v→w.cell? ⟨b',0+j,none⟩=some v:=fun j v hj=>by
  rw[Nat.zero_add];refine Zo hb ?_;rw[getElem?_append_left (List.getElem?_eq_some_iff.1 hj).1];exact hj
 have hcat:∀ t:List Value,(QW l).take i++[Value.int .i64 (x:Int)]++((QW l).drop i++t)=QW (l.take i++x::l.drop i)++t:=by
  intro t;unfold QW;simp[map_take,map_drop]
 by_cases hroom:l.length+1≤cap
 ·obtain⟨s0,s',rfl⟩:∃ s0 s',s=s0::s':=by
   cases s with
   | nil=>simp at e5;omega
   | cons s0 s'=>exact⟨s0,s',rfl⟩
  refine(Any2.slices_Insert_int_shift Tryz.laysIns b' 0 l.length cap i b 0 1 1 (QW l) [.int .i64 x] w hi (by omega) hroom e4.2 (Ne.symm hne) hcl rfl hcs ?_ (fun j _=>W5 hb) hvs h1c h1v 3 3 1 (QW l++s0::s').length ?_ ?_ ?_ (W5 hx) (W5 hx)).mono ?_
  ·intro j hj;rw[Nat.zero_add,Zo hb (getElem?_eq_getElem (by simp;omega))];rfl
  ·simp[World.shape?,hx]
  ·simp[World.shape?,hb]
  ·simp
  ·rintro e w' ⟨rfl,rfl⟩
   have H3:Q0 w.drew (pts b' (row 3 ((QW l).take (i+1)++((QW l).drop (i+1)++[s0])++s'))::pts b (row 3 [.int .i64 x])::fr):=by
    rw[show (QW l).take (i+1)++((QW l).drop (i+1)++[s0])++s'=QW l++s0::s' by rw[← append_assoc,take_append_drop];simp];exact H2.heap rfl
   have H4:=Cm ((QW l).drop i) _ _ (by simp;omega) H3;rw[show ((QW l).take (i+1)).length=0+(i+1) by rw[length_take];omega] at H4
   have hgi:(QW l).take (i+1)=(QW l).take i++[(QW l)[i]'(by omega)]:=by
    rw[take_add_one,getElem?_eq_getElem (by omega)];rfl
   rw[show (QW l).take (i+1)++(QW l).drop i++s'=(QW l).take i++[(QW l)[i]'(by omega)]++((QW l).drop i++s') by rw[hgi];simp] at H4;have H5:=Cm [Value.int .i64 (x:Int)] [(QW l)[i]'(by omega)] ((QW l).take i) rfl H4;rw[show ((QW l).take i).length=0+i by rw[length_take];omega,hcat] at H5;refine Q0.drop (Q0.swap (ZW (by rw[QH,hnl]) ⟨hroom,e4.2⟩ ?_ H5));simp at e5 ⊢;omega
 ·obtain rfl:cap=l.length:=by omega
  refine(Any2.slices_Insert_int_grow Tryz.laysIns b' 0 l.length l.length i b 0 1 1 (QW l) [.int .i64 x] w hi (by omega) (Nat.le_refl _) (by omega) (by omega) hcl rfl hcs hvs h1c h1v).mono ?_;rintro e w' ⟨rfl,rfl⟩;generalize hG:grownCap w (l.length+1) l.length _=G;have hG1:l.length+1≤G:=by rw[← hG];exact grownCap_ge w _ _ _
  have hG2:G≤9223372036854775807:=by rw[← hG];exact grownCap_le_maxLen w _ _ _ (by unfold maxLen;omega)
  have H3:=H2.new (.cells (((QW l).take i).toArray++Builtin.zeroCells (Value.int .i64 0).cells (l.length+1 - i)++Builtin.zeroCells (Value.int .i64 0).cells (G - (l.length+1))) 3 (0,0));have hzc:∀ k,(Builtin.zeroCells (Value.int .i64 0).cells k).toList.length=k:=fun k=>by rw[Array.length_toList,size_zeroCells];exact Nat.mul_one k
  obtain⟨z0,zt,hz⟩:∃ z0 zt,(Builtin.zeroCells (Value.int .i64 0).cells (l.length+1 - i)).toList=z0::zt:=by
   cases hh:(Builtin.zeroCells (Value.int .i64 0).cells (l.length+1 - i)).toList with
   | nil=>have:=hzc (l.length+1 - i);rw[hh] at this;simp at this;omega
   | cons z0 zt=>exact⟨z0,zt,rfl⟩
  have hzt:zt.length=l.length - i:=by
   have:=hzc (l.length+1 - i);rw[hz,length_cons] at this;omega
  have H4:Q0 (w.alloc (.cells (((QW l).take i).toArray++Builtin.zeroCells (Value.int .i64 0).cells (l.length+1 - i)++Builtin.zeroCells (Value.int .i64 0).cells (G - (l.length+1))) 3 (0,0))).drew (pts w.heap.size (row 3 ((QW l).take i++[z0]++(zt++(Builtin.zeroCells (Value.int .i64 0).cells (G - (l.length+1))).toList)))::fr):=by
   have h:=(Q0.swap H3).drop;have h:=(Q0.swap h).drop;refine(Q0.head h fun hh x=>?_).heap rfl
   have e:((QW l).take i).toArray++Builtin.zeroCells (Value.int .i64 0).cells (l.length+1 - i)++Builtin.zeroCells (Value.int .i64 0).cells (G - (l.length+1))=((QW l).take i++[z0]++(zt++(Builtin.zeroCells (Value.int .i64 0).cells (G - (l.length+1))).toList)).toArray:=by
    apply Array.ext';simp[hz]
   rw[e] at x;exact x
  have H5:=Cm [Value.int .i64 (x:Int)] [z0] ((QW l).take i) rfl H4;rw[show ((QW l).take i).length=i by rw[length_take];omega] at H5
  have H6:Q0 ((w.alloc (.cells (((QW l).take i).toArray++Builtin.zeroCells (Value.int .i64 0).cells (l.length+1 - i)++Builtin.zeroCells (Value.int .i64 0).cells (G - (l.length+1))) 3 (0,0))).drew.setCells w.heap.size i [Value.int .i64 (x:Int)]).drew (pts w.heap.size (row 3 (((QW l).take i++[Value.int .i64 (x:Int)])++zt++(Builtin.zeroCells (Value.int .i64 0).cells (G - (l.length+1))).toList))::fr):=by
   rw[show ((QW l).take i++[Value.int .i64 (x:Int)])++zt++(Builtin.zeroCells (Value.int .i64 0).cells (G - (l.length+1))).toList=(QW l).take i++[Value.int .i64 (x:Int)]++(zt++(Builtin.zeroCells (Value.int .i64 0).cells (G - (l.length+1))).toList) by simp];exact H5.heap rfl
  have H7:=Cm ((QW l).drop i) zt _ (by simp;omega) H6;rw[show ((QW l).take i++[Value.int .i64 (x:Int)]).length=i+1 by simp;omega,show (QW l).take i++[Value.int .i64 (x:Int)]++(QW l).drop i++(Builtin.zeroCells (Value.int .i64 0).cells (G - (l.length+1))).toList=(QW l).take i++[Value.int .i64 (x:Int)]++((QW l).drop i++(Builtin.zeroCells (Value.int .i64 0).cells (G - (l.length+1))).toList) by simp,hcat] at H7;exact ZW (by rw[QH,hnl]) ⟨hG1,hG2⟩ (by rw[hzc];omega) H7
def YS (l:List Nat) (x:Nat):List Nat:=l.take (Z8 l x)++x::l.drop (Z8 l x)
theorem dY (l:List Nat) (x:Nat):Z8 l x≤l.length:=countP_le_length
theorem dZ {l:List Nat} {x:Nat} (h:∀ a∈l,a < x):YS l x=l++[x]:=by
 unfold YS;rw[NU h,take_length,drop_length]
theorem FX {l:List Nat} {x y:Nat}:y∈YS l x↔y=x∨y∈l:=by
 unfold YS;rw[mem_append,mem_cons];have h:y∈l↔y∈l.take (Z8 l x)∨y∈l.drop (Z8 l x):=by rw[← mem_append,take_append_drop]
 rw[h];constructor
 ·rintro(h|h|h)
  ·exact .inr (.inl h)
  ·exact .inl h
  ·exact .inr (.inr h)
 ·rintro(h|h|h)
  ·exact .inr (.inl h)
  ·exact .inl h
  ·exact .inr (.inr h)
theorem dG {a:Nat} {l:List Nat} {x:Nat} (h:a < x):YS (a::l) x=a::YS l x:=by
 unfold YS
 have:Z8 (a::l) x=Z8 l x+1:=by
  unfold Z8;rw[countP_cons_of_pos (by simpa using h)]
 rw[this,take_succ_cons,drop_succ_cons];rfl
theorem dU {a:Nat} {l:List Nat} {x:Nat} (hs:(a::l).Pairwise (· < ·)) (h:x < a):YS (a::l) x=x::a::l:=by
 unfold YS
 have:Z8 (a::l) x=0:=by
  unfold Z8;rw[countP_eq_zero];intro y hy;rw[pairwise_cons] at hs
  rcases mem_cons.1 hy with rfl|hy
  ·simpa using Nat.le_of_lt h
  ·have:=hs.1 y hy;simp;omega
 rw[this];rfl
theorem FK:∀ {l:List Nat} {x:Nat},l.Pairwise (· < ·)→x∉l→(YS l x).Pairwise (· < ·)
 | [],x,_,_=>by unfold YS;simp
 | a::l,x,hs,hx=>by
  rw[mem_cons,not_or] at hx;by_cases h:a < x
  ·rw[dG h,pairwise_cons];rw[pairwise_cons] at hs;refine⟨fun y hy=>?_,FK hs.2 hx.2⟩
   rcases FX.1 hy with rfl|hy
   ·exact h
   ·exact hs.1 y hy
  ·have h:x < a:=by omega
   rw[dU hs h,pairwise_cons];refine⟨fun y hy=>?_,hs⟩
   rcases mem_cons.1 hy with rfl|hy
   ·exact h
   ·rw[pairwise_cons] at hs;have:=hs.1 y hy;omega
theorem Nj [Q4] (p:Nat) (l:List Nat) (x:Nat) (hs:l.Pairwise (· < ·)) (hl:l.length < 100000) (hn:x∉l) {w:World} {fr:List Q2} (H:Q0 w (Qu p l::fr)) :
  Calls Tryz.prog 93 #[pp p,.int .i64 x] w (ret fun v w'=>v = .bool true∧Q0 w' (Qu p (YS l x)::fr)):=by
 by_cases he:Z8 l x=l.length
 ·have hx:∀ a∈l,a < x:=by
   have:l.countP (· < x)=l.length:=he;rw[countP_eq_length] at this;intro a ha;simpa using this a ha
  rw[dZ hx];exact bZ p l x hs (by omega) hx H
 obtain⟨a,c,H⟩:=Rq H;have hle:=dY l x;refine Q9 Tryz.func93 rfl (by kernel_rfl) ?_;refine WN H ?_;obtain⟨D1,H,hD1,hC1⟩:=sls_rd H.swap (QH _) (by decide);refine Jc rfl rfl (Ar _ l (by omega) hs x (hD1 _) H) ?_;clear H;rintro v w ⟨rfl,H⟩;replace H:=hC1 _ _ H;rw[decide_eq_false hn];refine Uw H ?_;refine J6 H ?_;refine Qo (fun ms σ w=>ms=[]∧σ 6 = .bool false∧Q0 w (Qu p (YS l x)::fr)) ?_ ?_
 ·refine Vh rfl ?_;refine AK H ?_;refine YP H ?_;refine GN H ?_;clear H;intro b27 w H;replace H:=Js [1,0,0] 0 H;refine Jc rfl rfl (dV _ l x (Z8 l x) (by omega) (by omega) _ H) ?_;clear H;intro v w H;obtain⟨a28,m28,c28,rfl⟩:=Qw H;refine GO H ?_;clear H;intro w H;refine J2 H ?_;exact⟨rfl,rfl,rfl,K3 H.swap⟩
 ·clear H;rintro ms σ w ⟨rfl,g6,H⟩;rw[Q1 g6];refine VX H ?_;exact Q3 (Jy H rfl fun w' H'=>⟨rfl,H'⟩)
end Go.Proofs.YtmjdnljneifpcaaGreatDoor
