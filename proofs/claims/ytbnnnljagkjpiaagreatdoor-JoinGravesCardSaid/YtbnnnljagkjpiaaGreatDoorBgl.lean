/- Cells: what is proved on the way: every input of the statement; no condition. Texts joined: TabC TabD CelA CelB CelC CelD CelE LnkB CelF. -/
import Derived.Test.YtbnnnljagkjpiaaGreatDoorBgf
import Derived.Test.YtbnnnljagkjpiaaGreatDoorBgk
set_option linter.unusedVariables false
set_option linter.unusedSimpArgs false
set_option linter.unusedSectionVars false
namespace Go.Proofs.YtbnnnljagkjpiaaGreatDoor
open List
open Go.SL
theorem F8 {ts:List QK} {k:Nat} {t t':QK} (hk:ts[k]? = some t) (hb:(t'.ent.isNone && t'.gen == 255)=(t.ent.isNone && t.gen == 255)):Zi (ts.set k t')=Zi ts:=by
 unfold Zi;rw[set_split hk]
 conv=>rhs;rw[split_at hk]
 rw[filter_append,filter_append,filter_cons,filter_cons,hb];split <;> simp
theorem GQ.set {ts:List QK} {x k:Nat} {t t':QK} (h:GQ ts x) (hk:ts[k]? = some t) (hb:busy t'=busy t) (hg:t'.gen≤255):GQ (ts.set k t') x:=by
 refine⟨by rw[length_set];exact h.bits,fun i u hu=>?_,fun i u hu=>?_⟩
 ·rcases Qz hu with ⟨rfl,rfl,_⟩|⟨_,hu⟩
  ·rw[hb];exact h.bit _ _ hk
  ·exact h.bit _ _ hu
 ·rcases Qz hu with ⟨rfl,rfl,_⟩|⟨_,hu⟩
  ·exact hg
  ·exact h.gen _ _ hu
theorem bC [Q4] (p:Nat) (ts:List QK) (i g:Int) {w:World} {fr:List Q2} (H:Q0 w (Qg p ts::fr)) :
  Calls Tryz.prog 17 #[pp p,Yy i g] w (ret fun v w'=>v=(match QS ts i g with|some (_,e) => .tuple #[.agg (Vl e).toArray,.int .i64 0]|none => .tuple #[.agg #[.int .i64 0,.int .i64 0,.bool false,.bool false],.int .i64 8])∧Q0 w' (Qg p ts::fr)):=by
 obtain⟨b,c,s,u,x,hok,hc,H,hclose⟩:=Rp H;refine QQ Tryz.func17 rfl (by kernel_rfl) ?_;refine J7 H ?_;clear H;intro b3 w H;refine VZ H ?_;clear H;intro b4 w H;refine KM H ?_;replace H:=Js [2,2,0,0,0] 0 H;refine Jc rfl rfl (F7 p b c u _ rfl ts s hok.bits.le i g H) ?_;clear H;rintro v w ⟨rfl,H⟩;cases hL:QS ts i g with
 | some q=>
  obtain⟨k,e⟩:=q;obtain⟨n,rfl,rfl,hk⟩:=Y9.1 hL;have hrd:Q9 (ts.flatMap VS++s) (k*6+2) 4 (Vl e):=RV (vs:=Vl e) YD hk (by repeat first|exact .nil _|apply Q9.cons rfl);refine G2 H ?_;refine EW H ?_;refine Q5 rfl (VA H rfl hrd rfl ?_);refine J5 H ?_;clear H;intro w H;refine J0 H ?_;replace H:=Js [2,0,0,1] 1 H;exact Q3 (Jz H (fun w' H' => .cellN H' rfl (by repeat first|exact .nil _|apply Q9.cons rfl) (.tmp .nil)) fun w' H'=>⟨rfl,hclose _ _ ts x rfl rfl hok H'.drop⟩)
 | none=>
  refine UV H ?_;refine C0 H ?_;clear H;intro w H;refine J0 H ?_;replace H:=Js [2,0,0,1] 1 H;exact Q3 (Jz H (fun w' H' => .cellN H' rfl (by repeat first|exact .nil _|apply Q9.cons rfl) (.tmp .nil)) fun w' H'=>⟨rfl,hclose _ _ ts x rfl rfl hok H'.drop⟩)
theorem CH [Q4] (p:Nat) (ts:List QK) (i g:Int) (e':Q8) {w:World} {fr:List Q2} (H:Q0 w (Qg p ts::fr)) :
  Calls Tryz.prog 118 #[pp p,Yy i g,.agg (Vl e').toArray] w (ret fun v w'=>(∃ k e,QS ts i g=some (k,e)∧v = .int .i64 0∧Q0 w' (Qg p (ts.set k ⟨g.toNat,some e'⟩)::fr))∨(QS ts i g=none∧v = .int .i64 8∧Q0 w' (Qg p ts::fr))):=by
 obtain⟨b,c,s,u,x,hok,hc,H,hclose⟩:=Rp H;refine QQ Tryz.func118 rfl (by kernel_rfl) ?_;refine J7 H ?_;clear H;intro b4 w H;refine XD H ?_;clear H;intro b5 w H;refine KM H ?_;replace H:=Js [2,2,0,0,0] 0 H;refine Jc rfl rfl (F7 p b c u _ rfl ts s hok.bits.le i g H) ?_;clear H;rintro v w ⟨rfl,H⟩;cases hL:QS ts i g with
 | some q=>
  obtain⟨k,e⟩:=q;obtain⟨n,rfl,rfl,hk⟩:=Y9.1 hL;refine UV H ?_;refine J6 H ?_;refine Qk (fun ms σ w=>ms=[]∧σ 8 = .int .i64 0∧Q0 w (Qg p (ts.set k ⟨n,some e'⟩)::fr)) ?_ ?_
  ·refine Vp rfl ?_;refine Gv H ?_;refine Jv ?_;refine RI H ?_;replace H:=Js [1,0,0,0,0] 0 H;have hlen:=Gu YD ts;have hkl:k < ts.length:=(List.getElem?_eq_some_iff.1 hk).1;refine Q5 rfl (Z0 (vs:=Vl e') H rfl rfl inferInstance rfl rfl (by rw[length_append,hlen];omega) rfl ?_);clear H;intro w H;rw[DM (x':=⟨n,some e'⟩) YD hk (by simp) rfl] at H;refine J2 H ?_;replace H:=Js [1,0,2] 2 H;exact⟨rfl,rfl,rfl,hclose _ _ (ts.set k ⟨n,some e'⟩) x (by simp) (F8 hk rfl) (hok.set hk rfl (by have:=hok.gen _ _ hk;exact this)) H⟩
  ·clear H;rintro ms σ w ⟨rfl,g8,H⟩;rw[Q1 g8];refine J4 H ?_;exact Q3 (Jy H rfl fun w' H' => .inl ⟨k,e,rfl,rfl,H'⟩)
 | none=>
  refine G2 H ?_;refine J4 H ?_;replace H:=Js [0,0,2] 2 H;exact Q3 (Jy H rfl fun w' H' => .inr ⟨rfl,rfl,hclose _ _ ts x rfl rfl hok H'⟩)
theorem F9 [Q4] (p:Nat) (ts:List QK) (k n:Nat) (e:Q8) (hk:ts[k]? = some ⟨n,some e⟩) {w:World} {fr:List Q2} (H:Q0 w (Qg p ts::fr)) :
  Calls Tryz.prog 62 #[pp p,.int .i64 k] w (ret fun v w'=>v = .tuple #[UY k n,.bool true]∧Q0 w' (Qg p ts::fr)):=by
 obtain⟨b,c,s,u,x,hok,hc,H,hclose⟩:=Rp H;have hb:=hok.bits.le;have hkl:k < ts.length:=(List.getElem?_eq_some_iff.1 hk).1;have c1:(ts.flatMap VS++s)[k*6+1]? = some (.bool true):=UI YD hk rfl;have c0:(ts.flatMap VS++s)[k*6+0]? = some (.int .i64 n):=UI YD hk rfl;have ei:0+((k:Nat):Int).toNat*6=k*6:=by simp
 refine QQ Tryz.func62 rfl (by kernel_rfl) ?_;refine Y7 H ?_;clear H;intro b4 w H;refine J0 H ?_;refine AY H ?_;refine UQ H ?_;rw[show decide ((k:Int) < 0)=false from decide_eq_false (by omega)];refine YA H ?_;refine Dg H ?_;rw[show decide ((k:Int)≥(ts.length:Int))=false from decide_eq_false (by omega)];refine AL H ?_;refine QT rfl rfl rfl (GC rfl rfl (by omega) (by omega) rfl ?_);rw[ei];refine QT rfl rfl rfl (VR rfl rfl ?_);refine QT rfl rfl rfl (QB H rfl c1 rfl ?_);refine WZ H ?_;refine AH H ?_;refine Jd ?_;rw[ei];refine RI H ?_;refine Q5 rfl (QB H rfl c0 rfl ?_);refine EA H ?_;clear H;intro w H;refine J0 H ?_;exact Q3 (Jz H (fun w' H' => .cellN H' rfl (by repeat first|exact .nil _|apply Q9.cons rfl) (.tmp .nil)) fun w' H'=>⟨rfl,hclose _ _ ts x rfl rfl hok H'.drop⟩)
theorem bD [Q4] (p:Nat) (ts:List QK) (e:Q8) {w:World} {fr:List Q2} [hT:YW 0 Lib.deBruijn64tab fr] (H:Q0 w (Qg p ts::fr)) :
  Calls Tryz.prog 81 #[pp p,.agg (Vl e).toArray] w (ret fun v w'=>(∃ k n,ts[k]? = some ⟨n,none⟩∧n≤254∧(∀ j t,j < k→ts[j]? = some t→busy t=true)∧v = .tuple #[UY k (n+1),.int .i64 0]∧Q0 w' (Qg p (ts.set k ⟨n+1,some e⟩)::fr)) ∨
   ((∀ t∈ts,busy t=true)∧v = .tuple #[UY 0 0,.int .i64 12]∧Q0 w' (Qg p ts::fr))):=by
 obtain⟨b,c,s,u,x,hok,hc,H,hclose⟩:=Rp H;have hb:=hok.bits.le;refine QQ Tryz.func81 rfl (by kernel_rfl) ?_;refine J7 H ?_;clear H;intro b3 w H;refine VZ H ?_;clear H;intro b4 w H;refine AD H ?_;refine Yk H ?_;replace H:=Js [4,0,0,0,0] 0 H;refine Jc rfl rfl (Hk u ts.length x 0 _ hok.bits (by omega) H) ?_;clear H;rintro v w ⟨hF,H⟩
 rcases hF with ⟨k,rfl,_,hk,hoff,hall⟩|⟨rfl,hall⟩
 ·have ht:=getElem?_eq_getElem hk;have hbz:∀ j t,j < k→ts[j]? = some t→busy t=true:=fun j t hj hjt=>by rw[← hok.bit j t hjt];exact hall j (Nat.zero_le _) hj
  generalize ts[k]=t at ht;have hbk:=hok.bit k t ht;have hg:=hok.gen k t ht;rw[hoff] at hbk;obtain⟨n,en⟩:=t
  have hen:en=none∧n≤254:=by
   unfold busy at hbk;cases en with
   | none=>simp at hbk hg;exact⟨rfl,by omega⟩
   | some y=>simp at hbk
  obtain⟨rfl,hn⟩:=hen;have ei:0+((k:Nat):Int).toNat*6=k*6:=by simp
  have hlen:=Gu YD ts;refine G2 H ?_;refine V2 H ?_;refine Jc rfl rfl (Hh u _ x k true hok.bits hk H) ?_;clear H;rintro v w ⟨rfl,H⟩;refine EB H ?_;refine Jd ?_;rw[ei];refine J0 H ?_;have c0:(ts.flatMap VS++s)[k*6+0]? = some (.int .i64 n):=UI YD ht rfl;replace H:=Js [4,0,0,0,0] 0 H;refine EW H ?_;refine Q5 rfl (QB H rfl c0 rfl ?_);refine YA H ?_;refine RI H ?_;rw[Qb (x:=((n:Nat):Int)+1) (by omega) (by omega),show ((n:Nat):Int)+1=((n+1:Nat):Int) by omega];refine Q5 rfl (Yh H rfl rfl inferInstance rfl (by rw[length_append,hlen];omega) rfl ?_);clear H;intro w H;rw[MZ (x':=⟨n+1,none⟩) YD ht (by omega) rfl] at H;refine J2 H ?_;have ht1:(ts.set k ⟨n+1,none⟩)[k]? = some (⟨n+1,none⟩:QK):=getElem?_set_self hk;have hlen1:=Gu YD (ts.set k ⟨n+1,none⟩);rw[length_set] at hlen1;refine J1 H ?_;clear H;intro w H;refine WG H ?_;refine VB 2 [8] H rfl (Q7.none rfl) rfl (by repeat first|exact .nil _|apply Q9.cons rfl) (by kernel_rfl) ?_;refine Ja 3 ?_;refine Jf 4 ?_;refine Jo 5 H ?_;refine Yh H rfl rfl inferInstance rfl (by rw[length_append,hlen1];omega) rfl ?_;clear H;intro w H;rw[MZ (x':=⟨n+1,some ⟨0,0,false,false,0,0,[]⟩⟩) YD ht1 (by omega) rfl,set_set] at H;have ht2:(ts.set k ⟨n+1,some ⟨0,0,false,false,0,0,[]⟩⟩)[k]? = some (⟨n+1,some ⟨0,0,false,false,0,0,[]⟩⟩:QK):=getElem?_set_self hk;have hlen2:=Gu YD (ts.set k ⟨n+1,some ⟨0,0,false,false,0,0,[]⟩⟩);rw[length_set] at hlen2;refine Ja 6 ?_;refine Jf 7 ?_;refine Jo 8 H ?_;refine Z0 (vs:=Vl e) H rfl rfl inferInstance rfl rfl (by rw[length_append,hlen2];omega) rfl ?_;clear H;intro w H;rw[DM (x':=⟨n+1,some e⟩) YD ht2 (by simp) rfl,set_set] at H;refine Jx H ?_;have ht3:(ts.set k ⟨n+1,some e⟩)[k]? = some (⟨n+1,some e⟩:QK):=getElem?_set_self hk;have c3:((ts.set k ⟨n+1,some e⟩).flatMap VS++s)[k*6+0]? = some (.int .i64 ((n+1:Nat):Int)):=UI YD ht3 rfl;refine Vc H ?_;refine RI H ?_;refine Q5 rfl (QB H rfl c3 rfl ?_);refine EA H ?_;clear H;intro w H;refine J0 H ?_;replace H:=Js [2,3,0,0] 1 H;have hn255:(n == 255)=false:=by simp;omega
  have hok':GQ (ts.set k ⟨n+1,some e⟩) (Ym x k true):=by
   refine⟨by rw[length_set];exact hok.bits.set hk,fun i v hv=>?_,fun i v hv=>?_⟩
   ·rw[WS]
    rcases Qz hv with ⟨rfl,rfl,_⟩|⟨hne,hv⟩
    ·rw[if_pos rfl];rfl
    ·rw[if_neg hne];exact hok.bit _ _ hv
   ·rcases Qz hv with ⟨rfl,rfl,_⟩|⟨_,hv⟩
    ·show n+1≤255;omega
    ·exact hok.gen _ _ hv
  exact Q3 (Jz H (fun w' H' => .cellN H' rfl (by repeat first|exact .nil _|apply Q9.cons rfl) (.tmp .nil)) fun w' H' => .inl ⟨k,n,ht,hn,hbz,rfl,hclose _ _ (ts.set k ⟨n+1,some e⟩) (Ym x k true) (by simp) (F8 ht (by simp[hn255])) hok' H'.drop⟩)
 ·refine Bl H ?_;refine Bd H ?_;clear H;intro w H;refine J0 H ?_;replace H:=Js [1,2,2,0] 1 H;refine Q3 (Jz H (fun w' H' => .cellN H' rfl (by repeat first|exact .nil _|apply Q9.cons rfl) (.tmp .nil)) fun w' H' => .inr ⟨fun t ht=>?_,rfl,hclose _ _ ts x rfl rfl hok H'.drop⟩);obtain⟨j,hj⟩:=getElem?_of_mem ht;rw[← hok.bit j t hj];exact hall j (Nat.zero_le _) (List.getElem?_eq_some_iff.1 hj).1
structure Gb where
 sp:Nat
 bp:Nat
 ip:Nat
 tp:Nat
 trp:Nat
 rp:Nat
 sm:Nat
 mm:Nat
@[reducible] def Qo:Nat→Value:=fun b=>pp b
@[reducible] def VJ (x:Int×Nat×QF):Int×Nat:=(x.1,x.2.1)
@[reducible] def V0 (x:Int×Nat×List Nat):Int×Nat:=(x.1,x.2.1)
@[reducible] def VL (sp:Nat) (x:Int×Nat×QF):Q2:=Qm x.2.1 sp x.1.toNat x.2.2
@[reducible] def V8 (x:Int×Nat×List Nat):Q2:=Qu x.2.1 x.2.2
@[reducible] def Qt (p:Nat) (q:Gb):Q2:=pts p (row 44 [pp q.sp,pp q.bp,pp q.ip,pp q.tp,pp q.trp,pp q.rp,.map (some q.sm),.map (some q.mm)])
def QW (p:Nat) (s:CS):Q2:=ex fun x:Gb×List Nat=>star [prop (WF s∧VT s x.2),Qt p x.1,Qr x.1.ip x.1.sp x.1.bp,Qi x.1.bp s.lays,ST x.1.sp s.size x.2 s.own,Qg x.1.tp s.tab,Qf x.1.trp s.last s.par,RS x.1.rp s.rem,
 mp (ki .i64) Qo x.1.sm (s.sps.map VJ),star (s.sps.map (VL x.1.sp)),mp (ki .i64) Qo x.1.mm (s.mns.map V0),star (s.mns.map V8)]
theorem Vz [Q4] {w:World} {p:Nat} {s:CS} {fr:List Q2} (H:Q0 w (QW p s::fr)):∃ (q:Gb) (mem:List Nat),WF s∧VT s mem ∧
  Q0 w (Qt p q::Qr q.ip q.sp q.bp::Qi q.bp s.lays::ST q.sp s.size mem s.own::Qg q.tp s.tab::Qf q.trp s.last s.par::RS q.rp s.rem::mp (ki .i64) Qo q.sm (s.sps.map VJ)::star (s.sps.map (VL q.sp))::mp (ki .i64) Qo q.mm (s.mns.map V0)::star (s.mns.map V8)::fr):=by
 obtain⟨⟨q,mem⟩,H⟩:=Q0.ex.1 H;have H:=Q0.star.1 H;obtain⟨h,H⟩:=Q0.prop.1 H;exact⟨q,mem,h.1,h.2,H⟩
theorem VY [Q4] {w:World} {p:Nat} {s:CS} {fr:List Q2} {q:Gb} {mem:List Nat} (h:WF s) (hm:VT s mem)
  (H:Q0 w (Qt p q::Qr q.ip q.sp q.bp::Qi q.bp s.lays::ST q.sp s.size mem s.own::Qg q.tp s.tab::Qf q.trp s.last s.par::RS q.rp s.rem::mp (ki .i64) Qo q.sm (s.sps.map VJ)::star (s.sps.map (VL q.sp))::mp (ki .i64) Qo q.mm (s.mns.map V0)::star (s.mns.map V8)::fr)):Q0 w (QW p s::fr):=
 Q0.ex.2 ⟨(q,mem),Q0.star.2 (Q0.prop.2 ⟨⟨h,hm⟩,H⟩)⟩
def QJ (s:CS) (e:Q8):QL:=(s.lays[e.lay - 1]?).getD ⟨0,[],0,[]⟩
def ZE (w:Nat):VP:=if w=0 then .none else if w=1 then .grave else .obj (w % 4294967296 - 2) (w / 4294967296)
theorem bE {x:Nat} (h0:x≠0) (h1:x≠1):ZE x = .obj (x % 4294967296 - 2) (x / 4294967296):=by
 unfold ZE;rw[if_neg h0,if_neg h1]
theorem NZ {i g:Nat} (h:i < 4096):(i+2+g*4294967296) % 4294967296 - 2=i∧(i+2+g*4294967296) / 4294967296=g:=by omega
theorem NG {i g:Nat} (h1:i < 4096):ZE (VG (.obj i g)) = .obj i g:=by
 rw[Ej,bE (by omega) (by omega),(NZ h1).1,(NZ h1).2]
theorem NU {k:VP} (h:G7 k):ZE (VG k)=k:=by
 cases k with
 | none=>rfl
 | grave=>rfl
 | obj i g=>exact NG h.1
theorem XN {s:CS} (h:WF s) {mem:List Nat} (m:VT s mem) {k g:Nat} {e:Q8} (hk:s.tab[k]? = some ⟨g,some e⟩):XM s.lays s.size mem s.own e.addr e.lay e.count k e.ws.length (QJ s e):=by
 obtain⟨⟨hm,l,h1,h2,h3,h4⟩,hl,_⟩:=h.obj k g e hk;have hle:QJ s e=l:=by unfold QJ;rw[h1];rfl
 rw[hle];refine⟨hm,h1,h2,h3,?_,?_,?_⟩
 ·rw[getD_eq_getElem?_getD,m.head _ _ _ hk,Option.getD_some]
 ·have:=hl.1;unfold QN at this;rw[m.len];exact this
 ·intro c c1 c2;obtain⟨r,hr,_,hr1⟩:=hl.2 c c1 (by rw[show e.addr+(e.ws.length+1) - 1=e.addr+e.ws.length by omega] at c2;exact c2);rw[getD_eq_getElem?_getD,hr];show r≠0;omega
theorem I5 {s:CS} (h:WF s) {mem:List Nat} (m:VT s mem) {k g:Nat} {e:Q8} (hk:s.tab[k]? = some ⟨g,some e⟩) {p:Nat} (hp:p < e.ws.length):mem.getD (e.addr+1+p) 0=e.ws.getD p 0:=by
 have hx:=getElem?_eq_getElem hp;rw[getD_eq_getElem?_getD,getD_eq_getElem?_getD,m.words _ _ _ hk p _ hx,hx]
theorem NX {s:CS} (h:WF s) {k g:Nat} {e:Q8} (hk:s.tab[k]? = some ⟨g,some e⟩) {p:Nat} (hp:p < e.ws.length) (hr:VV (QJ s e) p=true):G7 (ZE (e.ws.getD p 0))∧e.ws.getD p 0=VG (ZE (e.ws.getD p 0)):=by
 obtain⟨⟨hm,l,h1,h2,h3,h4⟩,hl,_⟩:=h.obj k g e hk;have hle:QJ s e=l:=by unfold QJ;rw[h1];rfl
 rw[hle] at hr;have hx:=getElem?_eq_getElem hp;obtain⟨q,hq,hw⟩:=(h4 p _ hx).2 hr;have hd:e.ws.getD p 0=VG q:=by rw[getD_eq_getElem?_getD,hx,Option.getD_some];exact hw
 rw[hd,NU hq];exact⟨hq,rfl⟩
def CI:Option (Nat×Q8)→Value
 | some (_,e) => .tuple #[.agg (Vl e).toArray,.int .i64 0]
 | none => .tuple #[.agg #[.int .i64 0,.int .i64 0,.bool false,.bool false],.int .i64 8]
theorem CL (o:Option (Nat×Q8)):∃ e1 e2 h1 h2 e4,CI o = .tuple #[.agg #[.int .i64 e1,.int .i64 e2,.bool h1,.bool h2],.int .i64 e4]:=by
 cases o <;> exact⟨_,_,_,_,_,rfl⟩
theorem Ya [Q4] (p:Nat) (ts:List QK) (i g:Int) {w:World} {fr:List Q2} (H:Q0 w (Qg p ts::fr)) :
  Calls Tryz.prog 17 #[pp p,Yy i g] w (ret fun v w'=>v=CI (QS ts i g)∧Q0 w' (Qg p ts::fr)):=
 call (bC p ts i g H) fun v w h=>⟨by rw[h.1];cases QS ts i g <;> rfl,h.2⟩
theorem NK [Q4] (p:Nat) (s:CS) (i g:Int) {w:World} {fr:List Q2} (H:Q0 w (QW p s::fr)) :
  Calls Tryz.prog 84 #[pp p,Yy i g] w (ret fun v w'=>v=CI (Qn s.tab i g)∧Q0 w' (QW p s::fr)):=by
 obtain⟨q,mem,hw,hm,H⟩:=Vz H;refine QQ Tryz.func84 rfl (by kernel_rfl) ?_;refine J7 H ?_;clear H;intro b3 w H;refine VZ H ?_;clear H;intro b4 w H;refine AD H ?_;obtain⟨e1,e2,h1,h2,e4,hsh⟩:=CL (QS s.tab i g);refine J6 H ?_
 refine Qk (fun ms σ w=>ms=[]∧∃ b6,σ 4=pp b4∧σ 6=pp b6∧σ 7 = .int .i64 e4 ∧
  Q0 w (pts b4 (row 78 [.int .i64 0,.int .i64 0,.bool false,.bool false])::pts b6 (row 78 [.int .i64 e1,.int .i64 e2,.bool h1,.bool h2])::QW p s::fr)) ?_ ?_
 ·replace H:=Js [6,0,0,0,0,0,0,0,0,0,0,0,0] 0 H;refine J1 H ?_;clear H;intro w H;refine RJ H ?_;refine Jw 5 9 H rfl rfl (Qy (a:=[]) (b:=[]) rfl rfl (call (Ya q.tp s.tab i g H) ?_)) (VN H rfl ?_)
  ·clear H;rintro v w ⟨rfl,H⟩;rw[hsh];refine RL H ?_;clear H;intro b6 w H;refine RM H ?_;clear H;intro w H;refine GM H ?_;replace H:=Js [4,4,4,4,1,3,3,3,3,3,3,1,0] 1 H;refine⟨rfl,rfl,b6,rfl,rfl,rfl,?_⟩;replace H:=VY hw hm H;replace H:=Js [1,1,0] 0 H;exact H
  ·clear H;intro b6 w H;refine Jo 5 H ?_;refine Jk rfl rfl (Ya q.tp s.tab i g H.swap) ?_;clear H;rintro v w ⟨rfl,H⟩;rw[hsh];refine RN H ?_;clear H;intro w H;refine GM H ?_;replace H:=Js [4,4,4,4,0,3,3,3,3,3,3,1,0] 1 H;refine⟨rfl,rfl,b6,rfl,rfl,rfl,?_⟩;replace H:=VY hw hm H;replace H:=Js [1,1,0] 0 H;exact H
 ·clear H;rintro ms σ w ⟨rfl,b6,g4,g6,g7,H⟩;rw[Q1 g4,Q1 g6,Q1 g7];have hv:Qn s.tab i g=(match QS s.tab i g with|some (k,e)=>if e.held then some (k,e) else none|none=>none):=rfl;cases hL:QS s.tab i g with
  | none=>
   rw[hL] at hsh hv;have hv:Qn s.tab i g=none:=hv;rw[hv];cases hsh;refine Vc H ?_;refine KJ H ?_;refine Xt H ?_;clear H;intro w H;refine J0 H ?_;exact Q3 (Jz H (fun w' H' => .cellN H' rfl (by repeat first|exact .nil _|apply Q9.cons rfl) (.tmp .nil)) fun w' H'=>⟨rfl,H'.drop.drop⟩)
  | some x=>
   obtain⟨k,e⟩:=x;obtain⟨ea,er,eh,ep,el,ec,ew⟩:=e;rw[hL] at hsh hv;cases hsh;cases eh with
   | true=>
    have hv:Qn s.tab i g=some (k,⟨ea,er,true,ep,el,ec,ew⟩):=hv;rw[hv];refine Vc H ?_;refine U9 H ?_;refine Vx H ?_;refine KD H ?_;clear H;intro w H;refine J0 H ?_;exact Q3 (Jz H (fun w' H' => .cellN H' rfl (by repeat first|exact .nil _|apply Q9.cons rfl) (.tmp .nil)) fun w' H'=>⟨rfl,H'.drop.drop⟩)
   | false=>
    have hv:Qn s.tab i g=none:=hv;rw[hv];refine Vc H ?_;refine U9 H ?_;refine Xt H ?_;clear H;intro w H;refine J0 H ?_;exact Q3 (Jz H (fun w' H' => .cellN H' rfl (by repeat first|exact .nil _|apply Q9.cons rfl) (.tmp .nil)) fun w' H'=>⟨rfl,H'.drop.drop⟩)
theorem Wd [Q4] (p:Nat) (s:CS) (i g:Int) (f:FuncId) (cs:List Value) [QV Tryz.prog f] (R:Value→World→Prop) (fr:List Q2)
  (hno:Qn s.tab i g=none→∀ w,Q0 w (QW p s::fr)→R (.int .i64 8) w)
  (hyes:∀ k e,Qn s.tab i g=some (k,e)→∀ w,Q0 w (QW p s::fr)→Calls Tryz.prog f (.agg (Vl e).toArray::cs).toArray w (ret R)) {w:World} (H:Q0 w (QW p s::fr)) :
  Calls Tryz.prog 33 #[pp p,Yy i g,.func (.func f) #[] cs.toArray] w (ret R):=by
 refine QQ Tryz.func33 rfl (by kernel_rfl) ?_;refine J7 H ?_;clear H;intro b4 w H;refine KM H ?_;refine Jc rfl rfl (NK p s i g H.swap) ?_;clear H;rintro v w ⟨rfl,H⟩;cases hv:Qn s.tab i g with
 | none=>
  refine Ve H ?_;clear H;intro b7 w H;refine J5 H ?_;clear H;intro w H;refine C1 H ?_;replace H:=Js [1] 2 H;exact Q3 (Jy H rfl fun w' H'=>hno hv w' H')
 | some x=>
  obtain⟨k,e⟩:=x;refine Ve H ?_;clear H;intro b7 w H;refine J5 H ?_;clear H;intro w H;refine EZ H ?_;replace H:=Js [1] 2 H;refine Q5 rfl (Qy (a:=[]) (b:=cs) rfl rfl (call (hyes k e hv w H) ?_));clear H;intro v w hr;refine Up rfl rfl ?_;refine QG ?_;exact Q3 (KU (.inr rfl) rfl hr)
def UX (s:CS) (i g place:Int):Nat×Nat:=
 match Qn s.tab i g with
 | none=>(0,8)
 | some (_,e)=>if QM (QJ s e) e.ws.length place false=0 then (e.ws.getD place.toNat 0,0) else (0,QM (QJ s e) e.ws.length place false)
theorem NR {s:CS} {i g place:Int} (h:Qn s.tab i g=none):UX s i g place=(0,8):=by unfold UX;rw[h]
theorem I6 {s:CS} {i g place:Int} {k:Nat} {e:Q8} (h:Qn s.tab i g=some (k,e)):UX s i g place=if QM (QJ s e) e.ws.length place false=0 then (e.ws.getD place.toNat 0,0) else (0,QM (QJ s e) e.ws.length place false):=by unfold UX;rw[h]
theorem ZF {s:CS} {i g:Int} {k:Nat} {e:Q8} (h:Qn s.tab i g=some (k,e)):∃ n:Nat,i=k∧g=n∧s.tab[k]? = some ⟨n,some e⟩∧e.held=true:=by
 obtain⟨h1,h2⟩:=XJ.1 h;obtain⟨n,a,b,c⟩:=Y9.1 h1;exact⟨n,a,b,c,h2⟩
theorem bF [Q4] (p:Nat) (s:CS) (i g place:Int) {w:World} {fr:List Q2} (H:Q0 w (QW p s::fr)) :
  Calls Tryz.prog 151 #[pp p,Yy i g,.int .i64 place] w (ret fun v w'=>v = .tuple #[.int .u64 ((UX s i g place).1:Nat),.int .i64 ((UX s i g place).2:Nat)]∧Q0 w' (QW p s::fr)):=by
 refine QQ Tryz.func151 rfl (by kernel_rfl) ?_;refine Yv H ?_;clear H;intro b3 w H;refine XD H ?_;clear H;intro b4 w H;refine KO H ?_;clear H;intro b5 w H;refine J3 H ?_;refine Y7 H ?_;clear H;intro b8 w H;refine J2 H ?_;refine EC H ?_;replace H:=Js [4,0,0,0,0] 0 H;refine Jc rfl rfl (Wd p s i g 216 [pp b3,pp b5,pp b8] (fun v w'=>v = .int .i64 ((UX s i g place).2:Nat)∧Q0 w' (pts b8 (row 94 [.int .u64 ((UX s i g place).1:Nat)])::QW p s::fr)) _ ?_ ?_ H) ?_
 ·intro hv w H;rw[NR hv];replace H:=Js [1,0] 3 H;exact⟨rfl,H⟩
 ·intro k e hv w H;obtain⟨n,rfl,rfl,hk,hh⟩:=ZF hv;obtain⟨q,mem,hw,hm,H⟩:=Vz H;have hI:=XN hw hm hk;refine QQ Tryz.func216 rfl (by kernel_rfl) ?_;refine J7 H ?_;clear H;intro b4 w H;refine J0 H ?_;replace H:=Js [2,2,2,0,0,0,0,0,0,0,0,0,0,0,1] 1 H
  have hval:(if QM (QJ s e) e.ws.length place false=0 then mem.getD (e.addr+1+place.toNat) 0 else 0)=(UX s k n place).1:=by
   rw[I6 hv];split
   ·rename_i h0;obtain⟨x,rfl,hx,_⟩:=Zh h0;exact I5 hw hm hk hx
   ·rfl
  have herr:QM (QJ s e) e.ws.length place false=(UX s k n place).2:=by
   rw[I6 hv];split
   ·assumption
   ·rfl
  refine J1 H ?_;clear H;intro w H;refine Jl 0 [7,11] H ?_;refine G4 H ?_;refine Jl 3 [7,11] H ?_;refine Jf 4 ?_;refine Jl 5 [7,11] H ?_;refine Jl 6 [7,11] H ?_;refine Jo 7 H ?_;refine Jk rfl rfl (aB q.ip q.sp q.bp s.size s.lays mem s.own e.addr e.lay e.count k e.ws.length (QJ s e) hI place H) ?_;clear H;rintro v w ⟨rfl,H⟩;rw[hval,herr];refine RP H ?_;refine Jo 11 H ?_;refine Ut H ?_;clear H;intro w H;refine Xv H ?_;refine J4 H ?_;replace H:=Js [4,0,0,0,1,1,1,1,1,1,1,1] 3 H;replace H:=VY hw hm H;exact Q3 (Jy H.swap rfl fun w' H'=>⟨rfl,H'⟩)
 ·clear H;rintro v w ⟨rfl,H⟩;refine J0 H ?_;refine Zg H ?_;refine AK H ?_;exact Q3 (Jy H rfl fun w' H'=>⟨rfl,H'.drop⟩)
theorem I7 {s:CS} (h:WF s) {k g:Nat} {e:Q8} (hk:s.tab[k]? = some ⟨g,some e⟩):s.lays[e.lay - 1]? = some (QJ s e):=by
 obtain⟨⟨hm,l,h1,h2,h3,h4⟩,hl,_⟩:=h.obj k g e hk;rw[h1];unfold QJ;rw[h1];rfl
theorem bH {ts:List QK} {k:Nat} {t t':QK} (hk:ts[k]? = some t) (h:VS t'=VS t):(ts.set k t').flatMap VS=ts.flatMap VS:=by
 rw[set_split hk]
 conv=>rhs;rw[split_at hk]
 simp[h]
theorem I8 [Q4] {w:World} {p:Nat} {ts:List QK} {l:List Q2} {k g:Nat} {e e':Q8} (hk:ts[k]? = some ⟨g,some e⟩) (he:Vl e'=Vl e) (H:Q0 w (Qg p ts::l)):Q0 w (Qg p (ts.set k ⟨g,some e'⟩)::l):=by
 obtain⟨b,c,s,u,x,hok,hc,H,hclose⟩:=Rp H
 have hv:VS ⟨g,some e'⟩=VS ⟨g,some e⟩:=by
  show Value.int .i64 g :: .bool true::Vl e' = .int .i64 g :: .bool true::Vl e;rw[he]
 refine hclose _ _ (ts.set k ⟨g,some e'⟩) x (by simp) (F8 hk rfl) (hok.set hk rfl (by have:=hok.gen _ _ hk;exact this)) ?_;rw[bH hk hv];exact H
def Ua (s:CS) (i g place:Int) (x:Nat):CS×Nat:=
 match Qn s.tab i g with
 | none=>(s,8)
 | some (k,e)=>if QM (QJ s e) e.ws.length place false=0 then (VO s k g.toNat { e with ws:=e.ws.set place.toNat x },0) else (s,QM (QJ s e) e.ws.length place false)
theorem CM {s:CS} {i g place:Int} {x:Nat} (h:Qn s.tab i g=none):Ua s i g place x=(s,8):=by unfold Ua;rw[h]
theorem CN {s:CS} {i g place:Int} {x k:Nat} {e:Q8} (h:Qn s.tab i g=some (k,e)):Ua s i g place x=if QM (QJ s e) e.ws.length place false=0 then (VO s k g.toNat { e with ws:=e.ws.set place.toNat x },0) else (s,QM (QJ s e) e.ws.length place false):=by unfold Ua;rw[h]
theorem bI [Q4] (p:Nat) (s:CS) (i g place:Int) (x:Nat) (hx:x < 18446744073709551616) {w:World} {fr:List Q2} (H:Q0 w (QW p s::fr)) :
  Calls Tryz.prog 153 #[pp p,Yy i g,.int .i64 place,.int .u64 x] w (ret fun v w'=>v = .int .i64 ((Ua s i g place x).2:Nat)∧Q0 w' (QW p (Ua s i g place x).1::fr)):=by
 refine QQ Tryz.func153 rfl (by kernel_rfl) ?_;refine Yv H ?_;clear H;intro b4 w H;refine XD H ?_;clear H;intro b5 w H;refine KO H ?_;clear H;intro b6 w H;refine KO H ?_;clear H;intro b7 w H;refine ED H ?_;replace H:=Js [4,0,0,0,0] 0 H;refine Jc rfl rfl (Wd p s i g 219 [pp b4,pp b6,pp b7] (fun v w'=>v = .int .i64 ((Ua s i g place x).2:Nat)∧Q0 w' (QW p (Ua s i g place x).1::fr)) _ ?_ ?_ H) ?_
 ·intro hv w H;rw[CM hv];replace H:=Js [0] 4 H;exact⟨rfl,H⟩
 ·intro k e hv w H;obtain⟨n,rfl,rfl,hk,hh⟩:=ZF hv;obtain⟨q,mem,hw,hm,H⟩:=Vz H;have hI:=XN hw hm hk;refine QQ Tryz.func219 rfl (by kernel_rfl) ?_;refine J7 H ?_;clear H;intro b4 w H;refine J0 H ?_;replace H:=Js [2,2,2,0,0,0,0,0,0,0,0,0,0,0,1] 1 H;refine J1 H ?_;clear H;intro w H;refine Jl 0 [8] H ?_;refine G4 H ?_;refine Jl 3 [8] H ?_;refine Jf 4 ?_;refine Jl 5 [8] H ?_;refine Jl 6 [8] H ?_;refine Jl 7 [8] H ?_;refine Jo 8 H ?_;refine Jk rfl rfl (aC q.ip q.sp q.bp s.size s.lays mem s.own e.addr e.lay e.count k e.ws.length (QJ s e) hI place x H) ?_;clear H;rintro v w ⟨rfl,H⟩;refine Ja 9 ?_;refine Jx H ?_;replace H:=Js [4,0,0,0,1,1,1,1,1,1,1] 4 H;rw[CN hv];by_cases h0:QM (QJ s e) e.ws.length place false=0
  ·obtain⟨y,rfl,hy,hr⟩:=Zh h0;rw[if_pos h0] at H;rw[if_pos h0,h0];have hw':=Ew (e':={ e with ws:=e.ws.set y x }) hw hk ⟨rfl,rfl,rfl,rfl,by show (e.ws.set y x).length=_;simp⟩ (Hx (hw.obj _ _ _ hk).1 (I7 hw hk) hx (fun h=>by rw[hr] at h;cases h));have hm':=Hw hw hm hk hy (x:=x);replace H:=Js [4,0,0,0,0,0,0,0,0,0,0] 0 H;replace H:=I8 (e':={ e with ws:=e.ws.set y x }) hk rfl H;replace H:=Js [1,1,1,1,0,0,0,0,0,0,0] 0 H;replace H:=VY hw' hm' H;exact Q3 (Jy H rfl fun w' H'=>⟨rfl,H'⟩)
  ·rw[if_neg h0] at H;rw[if_neg h0];replace H:=VY hw hm H;exact Q3 (Jy H rfl fun w' H'=>⟨rfl,H'⟩)
 ·clear H;rintro v w ⟨rfl,H⟩;refine J0 H ?_;exact Q3 (Jy H rfl fun w' H'=>⟨rfl,H'⟩)
def Y5 (s:CS) (i g place:Int):VP×Nat:=
 match Qn s.tab i g with
 | none=>(.none,8)
 | some (_,e)=>if QM (QJ s e) e.ws.length place true=0 then (ZE (e.ws.getD place.toNat 0),0) else (.none,QM (QJ s e) e.ws.length place true)
theorem I9 {s:CS} {i g place:Int} (h:Qn s.tab i g=none):Y5 s i g place=(.none,8):=by unfold Y5;rw[h]
theorem CO {s:CS} {i g place:Int} {k:Nat} {e:Q8} (h:Qn s.tab i g=some (k,e)):Y5 s i g place=if QM (QJ s e) e.ws.length place true=0 then (ZE (e.ws.getD place.toNat 0),0) else (.none,QM (QJ s e) e.ws.length place true):=by unfold Y5;rw[h]
theorem FQ [Q4] (p:Nat) (s:CS) (i g place:Int) {w:World} {fr:List Q2} (H:Q0 w (QW p s::fr)) :
  Calls Tryz.prog 25 #[pp p,Yy i g,.int .i64 place] w (ret fun v w'=>v = .tuple #[ZA (Y5 s i g place).1,.int .i64 ((Y5 s i g place).2:Nat)]∧Q0 w' (QW p s::fr)):=by
 obtain⟨a1,a2,a3,hkv⟩:=U1 (Y5 s i g place).1;rw[hkv];refine QQ Tryz.func25 rfl (by kernel_rfl) ?_;refine Yv H ?_;clear H;intro b3 w H;refine XD H ?_;clear H;intro b4 w H;refine KO H ?_;clear H;intro b5 w H;refine VZ H ?_;clear H;intro b6 w H;refine J0 H ?_;refine Y7 H ?_;clear H;intro b8 w H;refine J2 H ?_;refine EC H ?_;replace H:=Js [5,0,0,0,0,0] 0 H;refine Jc rfl rfl (Wd p s i g 86 [pp b3,pp b5,pp b8] (fun v w'=>v = .int .i64 ((Y5 s i g place).2:Nat)∧Q0 w' (pts b8 (row 85 [.int .i64 a1,.int .i64 a2,.int .i64 a3])::pts b6 (row 85 [.int .i64 0,.int .i64 0,.int .i64 0])::QW p s::fr)) _ ?_ ?_ H) ?_
 ·intro hv w H;rw[I9 hv] at hkv ⊢;cases hkv;replace H:=Js [1,1,0] 3 H;exact⟨rfl,H⟩
 ·intro k e hv w H;obtain⟨n,rfl,rfl,hk,hh⟩:=ZF hv;obtain⟨q,mem,hw,hm,H⟩:=Vz H;have hI:=XN hw hm hk;refine QQ Tryz.func86 rfl (by kernel_rfl) ?_;refine J7 H ?_;clear H;intro b4 w H;refine J0 H ?_;replace H:=Js [2,2,2,0,0,0,0,0,0,0,0,0,0,0,0,1] 1 H
  have hlk:ZA (Y5 s k n place).1=ZA (if QM (QJ s e) e.ws.length place true=0 then ZE (e.ws.getD place.toNat 0) else .none):=by
   rw[CO hv];split <;> rfl
  have herr:QM (QJ s e) e.ws.length place true=(Y5 s k n place).2:=by
   rw[CO hv];split
   ·assumption
   ·rfl
  have hlf:QM (QJ s e) e.ws.length place true=0→G7 (if QM (QJ s e) e.ws.length place true=0 then ZE (e.ws.getD place.toNat 0) else .none)∧mem.getD (e.addr+1+place.toNat) 0=VG (if QM (QJ s e) e.ws.length place true=0 then ZE (e.ws.getD place.toNat 0) else .none):=fun h0=>by
   obtain⟨y,hpy,hy,hr⟩:=Zh h0;rw[if_pos h0,hpy,Int.toNat_natCast,I5 hw hm hk hy];exact NX hw hk hy hr
  have hF:=fun (w:World) (fr:List Q2) (H:Q0 w (Qr q.ip q.sp q.bp::Qi q.bp s.lays::ST q.sp s.size mem s.own::fr))=>F0 q.ip q.sp q.bp s.size s.lays mem s.own e.addr e.lay e.count k e.ws.length (QJ s e) hI place (if QM (QJ s e) e.ws.length place true=0 then ZE (e.ws.getD place.toNat 0) else .none) hlf (fun h0=>if_neg h0) H;rw[← hlk,hkv] at hF;refine J1 H ?_;clear H;intro w H;refine Jl 0 [7,11] H ?_;refine G4 H ?_;refine Jl 3 [7,11] H ?_;refine Jf 4 ?_;refine Jl 5 [7,11] H ?_;refine Jl 6 [7,11] H ?_;refine Jo 7 H ?_;refine Jk rfl rfl (hF _ _ H) ?_;clear H;rintro v w ⟨rfl,H⟩;rw[herr];refine RP H ?_;refine AQ H ?_;clear H;intro w H;refine Xv H ?_;refine J4 H ?_;replace H:=Js [4,0,0,0,1,1,1,1,1,1,1,1,1] 3 H;replace H:=VY hw hm H;replace H:=Js [1,1,0] 0 H;exact Q3 (Jy H rfl fun w' H'=>⟨rfl,H'⟩)
 ·clear H;rintro v w ⟨rfl,H⟩;refine J0 H ?_;refine KN H ?_;clear H;intro w H;refine J0 H ?_;replace H:=Js [1,1] 1 H;exact Q3 (Jz H (fun w' H' => .cellN H' rfl (by repeat first|exact .nil _|apply Q9.cons rfl) (.tmp .nil)) fun w' H'=>⟨rfl,H'.drop⟩)
def Ub (s:CS) (i g:Int):CS×Nat:=
 match Qn s.tab i g with
 | none=>(s,8)
 | some (k,e)=>(VO s k g.toNat { e with held:=false },0)
theorem CP {s:CS} {i g:Int} (h:Qn s.tab i g=none):Ub s i g=(s,8):=by unfold Ub;rw[h]
theorem CT {s:CS} {i g:Int} {k:Nat} {e:Q8} (h:Qn s.tab i g=some (k,e)):Ub s i g=(VO s k g.toNat { e with held:=false },0):=by unfold Ub;rw[h]
def Uc (s:CS) (i g:Int) (on:Bool):CS×Nat:=
 match Qn s.tab i g with
 | none=>(s,8)
 | some (k,e)=>if e.pinned=on then (s,7) else (VO s k g.toNat { e with pinned:=on },0)
theorem Ca {s:CS} {i g:Int} {on:Bool} (h:Qn s.tab i g=none):Uc s i g on=(s,8):=by unfold Uc;rw[h]
theorem Cb {s:CS} {i g:Int} {on:Bool} {k:Nat} {e:Q8} (h:Qn s.tab i g=some (k,e)):Uc s i g on=if e.pinned=on then (s,7) else (VO s k g.toNat { e with pinned:=on },0):=by unfold Uc;rw[h]
theorem IQ [Q4] {w:World} {p:Nat} {s:CS} {fr:List Q2} {q:Gb} {mem:List Nat} (hw:WF s) (hm:VT s mem) {k n:Nat} {e e':Q8} (hk:s.tab[k]? = some ⟨n,some e⟩) (a:Kd e e') (hws:e'.ws=e.ws)
  (H:Q0 w (Qt p q::Qr q.ip q.sp q.bp::Qi q.bp s.lays::ST q.sp s.size mem s.own::Qg q.tp (s.tab.set k ⟨n,some e'⟩)::Qf q.trp s.last s.par::RS q.rp s.rem::mp (ki .i64) Qo q.sm (s.sps.map VJ)::star (s.sps.map (VL q.sp))::mp (ki .i64) Qo q.mm (s.mns.map V0)::star (s.mns.map V8)::fr)) :
  Q0 w (QW p (VO s k n e')::fr):=
 VY (s:=VO s k n e') (Ew hw hk a (aV (hw.obj _ _ _ hk).1 a hws)) (aQ hw hm hk a hws) H
theorem bJ [Q4] (p:Nat) (s:CS) (i g:Int) {w:World} {fr:List Q2} (H:Q0 w (QW p s::fr)) :
  Calls Tryz.prog 160 #[pp p,Yy i g] w (ret fun v w'=>v = .int .i64 ((Ub s i g).2:Nat)∧Q0 w' (QW p (Ub s i g).1::fr)):=by
 refine QQ Tryz.func160 rfl (by kernel_rfl) ?_;refine Yv H ?_;clear H;intro b2 w H;refine XD H ?_;clear H;intro b3 w H;refine ED H ?_;replace H:=Js [2,0,0] 0 H;refine Jc rfl rfl (Wd p s i g 221 [pp b2,pp b3] (fun v w'=>v = .int .i64 ((Ub s i g).2:Nat)∧Q0 w' (QW p (Ub s i g).1::fr)) _ ?_ ?_ H) ?_
 ·intro hv w H;rw[CP hv];replace H:=Js [0] 2 H;exact⟨rfl,H⟩
 ·intro k e hv w H;obtain⟨n,rfl,rfl,hk,hh⟩:=ZF hv;obtain⟨q,mem,hw,hm,H⟩:=Vz H;refine QQ Tryz.func221 rfl (by kernel_rfl) ?_;refine J7 H ?_;clear H;intro b3 w H;refine J0 H ?_;refine Zn H ?_;refine Uu H ?_;clear H;intro w H;refine J2 H ?_;replace H:=Js [5,0,0,0,0,0,0,0,0,0,0,0,0,0] 0 H;refine J1 H ?_;clear H;intro w H;refine Jl 0 [6] H ?_;refine G4 H ?_;refine Jl 3 [6] H ?_;refine E0 H ?_;refine Bu H ?_;refine Jk rfl rfl (CH q.tp s.tab k n { e with held:=false } H) ?_;clear H;rintro v w (⟨k',e',hL,rfl,H⟩|⟨hL,rfl,H⟩)
  ·have hLk:=(XJ.1 hv).1;rw[hLk] at hL;cases hL;refine Ja 7 ?_;refine Jx H ?_;replace H:=Js [2,2,2,2,0,1,1,1,1,1,1] 3 H;rw[CT hv];replace H:=IQ (e':={ e with held:=false }) hw hm hk ⟨rfl,rfl,rfl,rfl,rfl⟩ rfl H;exact Q3 (Jy H rfl fun w' H'=>⟨rfl,H'⟩)
  ·rw[(XJ.1 hv).1] at hL;cases hL
 ·clear H;rintro v w ⟨rfl,H⟩;refine J0 H ?_;exact Q3 (Jy H rfl fun w' H'=>⟨rfl,H'⟩)
theorem bM [Q4] (p:Nat) (s:CS) (i g:Int) (on:Bool) {w:World} {fr:List Q2} (H:Q0 w (QW p s::fr)) :
  Calls Tryz.prog 162 #[pp p,Yy i g,.bool on] w (ret fun v w'=>v = .int .i64 ((Uc s i g on).2:Nat)∧Q0 w' (QW p (Uc s i g on).1::fr)):=by
 refine QQ Tryz.func162 rfl (by kernel_rfl) ?_;refine Yv H ?_;clear H;intro b3 w H;refine XD H ?_;clear H;intro b4 w H;refine KO H ?_;clear H;intro b5 w H;refine ED H ?_;replace H:=Js [3,0,0,0] 0 H;refine Jc rfl rfl (Wd p s i g 222 [pp b5,pp b3,pp b4] (fun v w'=>v = .int .i64 ((Uc s i g on).2:Nat)∧Q0 w' (QW p (Uc s i g on).1::fr)) _ ?_ ?_ H) ?_
 ·intro hv w H;rw[Ca hv];replace H:=Js [0] 3 H;exact⟨rfl,H⟩
 ·intro k e hv w H;obtain⟨n,rfl,rfl,hk,hh⟩:=ZF hv;obtain⟨q,mem,hw,hm,H⟩:=Vz H;refine QQ Tryz.func222 rfl (by kernel_rfl) ?_;refine J7 H ?_;clear H;intro b4 w H;refine WX H ?_;refine Xo H ?_;refine Q5 rfl (BR rfl rfl (.inl rfl) rfl ?_);refine J2 H ?_;rw[Cb hv];by_cases hp:e.pinned=on
  ·rw[show (e.pinned == on)=true by simp[hp],if_pos hp];refine YC H ?_;replace H:=Js [1,1,1,1,1,1,1,1,1,1,1] 4 H;replace H:=VY hw hm H;exact Q3 (Jy H rfl fun w' H'=>⟨rfl,H'⟩)
  ·rw[show (e.pinned == on)=false by simp[hp],if_neg hp];refine V4 H ?_;refine Zg H ?_;refine Uu H ?_;clear H;intro w H;refine J2 H ?_;replace H:=Js [5,0,0,0,0,0,0,0,0,0,0,0,0,0,0] 0 H;refine J1 H ?_;clear H;intro w H;refine Jl 0 [6] H ?_;refine G4 H ?_;refine Jl 3 [6] H ?_;refine E0 H ?_;refine Bu H ?_;refine Jk rfl rfl (CH q.tp s.tab k n { e with pinned:=on } H) ?_;clear H;rintro v w (⟨k',e',hL,rfl,H⟩|⟨hL,rfl,H⟩)
   ·have hLk:=(XJ.1 hv).1;rw[hLk] at hL;cases hL;refine Ja 7 ?_;refine Jx H ?_;replace H:=Js [2,2,2,2,0,1,1,1,1,1,1] 4 H;replace H:=IQ (e':={ e with pinned:=on }) hw hm hk ⟨rfl,rfl,rfl,rfl,rfl⟩ rfl H;exact Q3 (Jy H rfl fun w' H'=>⟨rfl,H'⟩)
   ·rw[(XJ.1 hv).1] at hL;cases hL
 ·clear H;rintro v w ⟨rfl,H⟩;refine J0 H ?_;exact Q3 (Jy H rfl fun w' H'=>⟨rfl,H'⟩)
@[reducible] def NW (e:Q8):List Value:=[.int .i64 e.region,.int .i64 e.lay,.int .i64 e.count,.int .i64 e.ws.length,.bool e.pinned]
def IV:Option (Nat×Q8)→Value
 | some (_,e) => .tuple #[.agg (NW e).toArray,.int .i64 0]
 | none => .tuple #[.agg #[.int .i64 0,.int .i64 0,.int .i64 0,.int .i64 0,.bool false],.int .i64 8]
theorem bN [Q4] (p:Nat) (s:CS) (i g:Int) {w:World} {fr:List Q2} (H:Q0 w (QW p s::fr)) :
  Calls Tryz.prog 11 #[pp p,Yy i g] w (ret fun v w'=>v=IV (Qn s.tab i g)∧Q0 w' (QW p s::fr)):=by
 obtain⟨a1,a2,a3,a4,a5,a6,htv⟩:∃ a1 a2 a3 a4 a5 a6,IV (Qn s.tab i g) = .tuple #[.agg #[.int .i64 a1,.int .i64 a2,.int .i64 a3,.int .i64 a4,.bool a5],.int .i64 a6]:=by
  cases Qn s.tab i g <;> exact⟨_,_,_,_,_,_,rfl⟩
 rw[htv];refine QQ Tryz.func11 rfl (by kernel_rfl) ?_;refine Yv H ?_;clear H;intro b2 w H;refine XD H ?_;clear H;intro b3 w H;refine VZ H ?_;clear H;intro b4 w H;refine J0 H ?_;refine Y7 H ?_;clear H;intro b6 w H;refine J2 H ?_;refine EC H ?_;replace H:=Js [4,0,0,0,0] 0 H;refine Jc rfl rfl (Wd p s i g 34 [pp b2,pp b6] (fun v w'=>v = .int .i64 a6∧Q0 w' (pts b6 (row 64 [.int .i64 a1,.int .i64 a2,.int .i64 a3,.int .i64 a4,.bool a5])::pts b4 (row 64 [.int .i64 0,.int .i64 0,.int .i64 0,.int .i64 0,.bool false])::QW p s::fr)) _ ?_ ?_ H) ?_
 ·intro hv w H;rw[hv] at htv;cases htv;replace H:=Js [1,1,0] 2 H;exact⟨rfl,H⟩
 ·intro k e hv w H;rw[hv] at htv;cases htv;obtain⟨n,rfl,rfl,hk,hh⟩:=ZF hv;obtain⟨q,mem,hw,hm,H⟩:=Vz H;have hI:=XN hw hm hk;have hml:=Ey (H.pull 3);have hfit:=hI.fit;refine QQ Tryz.func34 rfl (by kernel_rfl) ?_;refine J7 H ?_;clear H;intro b3 w H;refine Y8 H ?_
  refine Qk (fun ms σ w=>ms=[]∧∃ b5,σ 2=pp b6∧σ 3=pp b3∧σ 5=pp b5∧σ 6 = .int .i64 ((e.ws.length+1:Nat):Int)∧σ 7 = .int .i64 0 ∧
   Q0 w (pts b3 (row 78 (Vl e))::pts b5 (row 117 [.int .i64 e.lay,.int .i64 e.count,.int .i64 k])::pts b6 (row 64 [.int .i64 0,.int .i64 0,.int .i64 0,.int .i64 0,.bool false])::pts b4 (row 64 [.int .i64 0,.int .i64 0,.int .i64 0,.int .i64 0,.bool false])::QW p s::fr)) ?_ ?_
  ·replace H:=Js [2,2,2,0,0,0,0,0,0,0,0,0,0,0,1] 1 H;refine J1 H ?_;clear H;intro w H;refine Jl 0 [6,12] H ?_;refine G4 H ?_;refine Jl 3 [6,12] H ?_;refine Jf 4 ?_;refine Jl 5 [6,12] H ?_;refine Jw 6 11 H rfl rfl (Qy (a:=[]) (b:=[]) rfl rfl (call (CE q.ip q.sp q.bp s.size s.lays mem s.own e.addr e.lay e.count k e.ws.length (QJ s e) hI H) ?_)) (VN H rfl ?_)
   ·clear H;rintro v w ⟨rfl,H⟩;refine EE H ?_;refine C2 H ?_;clear H;intro b5 w H;refine Xw H ?_;clear H;intro w H;refine WM H ?_;replace H:=Js [5,1,1,1,2,2,2,2,2,2,2,1,0,0,0] 1 H;replace H:=VY hw hm H;replace H:=Js [1,1,1,1,0] 0 H;exact⟨rfl,rfl,b5,rfl,rfl,rfl,rfl,rfl,H⟩
   ·clear H;intro b5 w H;replace H:=Js [1,1,1,0] 0 H;refine Jo 6 H ?_;refine Jk rfl rfl (CE q.ip q.sp q.bp s.size s.lays mem s.own e.addr e.lay e.count k e.ws.length (QJ s e) hI H) ?_;clear H;rintro v w ⟨rfl,H⟩;refine EE H ?_;refine Xw H ?_;clear H;intro w H;refine WM H ?_;replace H:=Js [5,0,0,0,2,2,2,2,2,2,2,1,0,0,0] 1 H;replace H:=VY hw hm H;replace H:=Js [1,1,1,1,0] 0 H;exact⟨rfl,rfl,b5,rfl,rfl,rfl,rfl,rfl,H⟩
  ·clear H;rintro ms σ w ⟨rfl,b5,g2,g3,g5,g6,g7,H⟩;rw[Q1 g2,Q1 g3,Q1 g5,Q1 g6,Q1 g7];refine Bn H ?_;refine Dr H ?_;rw[Qb (x:=((e.ws.length+1:Nat):Int) - 1) (by omega) (by omega),show ((e.ws.length+1:Nat):Int) - 1=(e.ws.length:Int) by omega];refine ZW H ?_;refine EA H ?_;clear H;intro w H;refine XB H ?_;replace H:=Js [2,2,2] 2 H;exact Q3 (Jy H rfl fun w' H'=>⟨rfl,H'⟩)
 ·clear H;rintro v w ⟨rfl,H⟩;refine J0 H ?_;refine KN H ?_;clear H;intro w H;refine J0 H ?_;replace H:=Js [1,1] 1 H;exact Q3 (Jz H (fun w' H' => .cellN H' rfl (by repeat first|exact .nil _|apply Q9.cons rfl) (.tmp .nil)) fun w' H'=>⟨rfl,H'.drop⟩)
theorem Au [Q4] {w:World} {p:Nat} {m:List (Rf×Int)} {l:List Q2} (H:Q0 w (RS p m::l)):(m.map (·.1)).Nodup:=by
 obtain⟨bt,bo,bf,H⟩:=Al H;exact Kb bt H
theorem NA [Q4] (p:Nat) (s:CS) (k n:Nat) (e:Q8) (hk:s.tab[k]? = some ⟨n,some e⟩) {w:World} {fr:List Q2} (H:Q0 w (QW p s::fr)) :
  Calls Tryz.prog 108 #[pp p,.int .i64 k] w (ret fun v w'=>v = .tuple #[.agg (Vl e).toArray,.bool true]∧Q0 w' (QW p s::fr)):=by
 obtain⟨q,mem,hw,hm,H⟩:=Vz H;have hL:QS s.tab k n=some (k,e):=Y9.2 ⟨n,rfl,rfl,hk⟩;refine QQ Tryz.func108 rfl (by kernel_rfl) ?_;refine Y7 H ?_;clear H;intro b4 w H;refine AD H ?_;refine V2 H ?_;replace H:=Js [5,0,0,0,0,0,0,0,0,0,0,0] 0 H;refine Jc rfl rfl (F9 q.tp s.tab k n e hk H) ?_;clear H;rintro v w ⟨rfl,H⟩;refine Ve H ?_;clear H;intro b6 w H;refine J5 H ?_;clear H;intro w H;refine Y8 H ?_
 refine Qk (fun ms σ w=>ms=[]∧∃ b8,σ 4=pp b4∧σ 7 = .bool true∧σ 8=pp b8 ∧
   Q0 w (pts b4 (row 78 [.int .i64 0,.int .i64 0,.bool false,.bool false])::pts b8 (row 78 (Vl e))::QW p s::fr)) ?_ ?_
 ·replace H:=Js [1,0,0,0,0,0,0,0,0,0,0,0,0] 0 H;refine J1 H ?_;clear H;intro w H;refine RJ H ?_;refine Jw 5 9 H rfl rfl (Qy (a:=[]) (b:=[]) rfl rfl (call (Ya q.tp s.tab k n H) ?_)) (VN H rfl ?_)
  ·clear H;rintro v w ⟨rfl,H⟩;rw[hL];refine RL H ?_;clear H;intro b8 w H;refine RM H ?_;clear H;intro w H;refine GM H ?_;replace H:=Js [4,4,4,4,1,3,3,3,3,3,3,2,0] 1 H;replace H:=VY hw hm H;replace H:=Js [1,1,0] 0 H;exact⟨rfl,rfl,b8,rfl,rfl,rfl,H⟩
  ·clear H;intro b8 w H;refine Jo 5 H ?_;refine Jk rfl rfl (Ya q.tp s.tab k n H.swap) ?_;clear H;rintro v w ⟨rfl,H⟩;rw[hL];refine RN H ?_;clear H;intro w H;refine GM H ?_;replace H:=Js [4,4,4,4,0,3,3,3,3,3,3,2,0] 1 H;replace H:=VY hw hm H;replace H:=Js [1,1,0] 0 H;exact⟨rfl,rfl,b8,rfl,rfl,rfl,H⟩
 ·clear H;rintro ms σ w ⟨rfl,b8,g4,g7,g8,H⟩;rw[Q1 g4,Q1 g7,Q1 g8];refine KN H ?_;clear H;intro w H;refine J0 H ?_;exact Q3 (Jz H (fun w' H' => .cellN H' rfl (by repeat first|exact .nil _|apply Q9.cons rfl) (.tmp .nil)) fun w' H'=>⟨rfl,H'.drop.drop⟩)
def Ye (s:CS) (k:Nat) (e:Q8) (place:Int) (l:VP):List (Rf×Int):=
 match l with
 | .obj a b=>match QS s.tab a b with
  | some (_,f)=>if f.region≠e.region then Vw (QC s.rem ((k:Int),place)) ((k:Int),place) (a:Int) else QC s.rem ((k:Int),place)
  | none=>QC s.rem ((k:Int),place)
 | _=>QC s.rem ((k:Int),place)
theorem IY {s:CS} {k a b:Nat} {e:Q8} {place:Int} (h:QS s.tab a b=none):Ye s k e place (.obj a b)=QC s.rem ((k:Int),place):=by
 show (match QS s.tab a b with|some (_,f)=>if f.region≠e.region then Vw (QC s.rem ((k:Int),place)) ((k:Int),place) (a:Int) else QC s.rem ((k:Int),place)|none=>QC s.rem ((k:Int),place))=_;rw[h]
theorem Cc {s:CS} {k a b kk:Nat} {e f:Q8} {place:Int} (h:QS s.tab a b=some (kk,f)):Ye s k e place (.obj a b)=if f.region≠e.region then Vw (QC s.rem ((k:Int),place)) ((k:Int),place) (a:Int) else QC s.rem ((k:Int),place):=by
 show (match QS s.tab a b with|some (_,f)=>if f.region≠e.region then Vw (QC s.rem ((k:Int),place)) ((k:Int),place) (a:Int) else QC s.rem ((k:Int),place)|none=>QC s.rem ((k:Int),place))=_;rw[h]
theorem bP [Q4] (p:Nat) (s:CS) (k n:Nat) (e:Q8) (hk:s.tab[k]? = some ⟨n,some e⟩) (place:Int) (l:VP) {w:World} {fr:List Q2} (H:Q0 w (QW p s::fr)) :
  Calls Tryz.prog 145 #[pp p,.int .i64 k,.int .i64 place,ZA l] w (ret fun v w'=>Q0 w' (QW p { s with rem:=Ye s k e place l }::fr)):=by
 obtain⟨a1,a2,a3,hkv⟩:=U1 l;rw[hkv];obtain⟨q,mem,hw,hm,H⟩:=Vz H;have hnd:=Au (H.pull 6);have hnd0:=hnd;refine QQ Tryz.func145 rfl (by kernel_rfl) ?_;refine J7 H ?_;clear H;intro b7 w H;refine WY H ?_;refine XK H ?_;refine VZ H ?_;clear H;intro b8 w H;refine J5 H ?_;clear H;intro w H;refine J2 H ?_;replace H:=Js [8,0,0,0,0,0,0,0,0,0,0,0,0] 0 H;refine J1 H ?_;clear H;intro w H;refine Dy H ?_;refine Jk rfl rfl (CC q.rp s.rem hnd ((k:Int),place) H) ?_;clear H;rintro v w ⟨rfl,H⟩;refine Jx H ?_;replace H:=Js [3,3,3,3,3,3,0,2,2,2,2,0,0] 0 H;have H:=VY (s:={ s with rem:=QC s.rem ((k:Int),place) }) (Am hw _) (Ex hm _) H;clear hw hm;refine AM H ?_
 have hcase:(a1≠2∧Ye s k e place l=QC s.rem ((k:Int),place))∨∃ a b:Nat,l = .obj a b∧a1=2∧a2=a∧a3=b:=by
  cases l with
  | none=>injection hkv with h;simp at h;exact .inl ⟨by omega,rfl⟩
  | grave=>injection hkv with h;simp at h;exact .inl ⟨by omega,rfl⟩
  | obj a b=>injection hkv with h;simp at h;exact .inr ⟨a,b,rfl,by omega,by omega,by omega⟩
 rcases hcase with ⟨h2,hn⟩|⟨a,b,rfl,rfl,rfl,rfl⟩
 ·rw[show (a1 != 2)=true by simpa using h2];refine VH H ?_;rw[hn];replace H:=Js [0] 2 H;exact Q3 (Jy H rfl fun w' H'=>H')
 ·refine AC H ?_;refine Jc rfl rfl (NA p { s with rem:=QC s.rem ((k:Int),place) } k n e hk H) ?_;clear H;rintro v w ⟨rfl,H⟩;refine Ve H ?_;clear H;intro b9 w H;refine J5 H ?_;clear H;intro w H;refine J0 H ?_;replace H:=Js [1,0,0,0] 0 H;obtain⟨q,mem,hw,hm,H⟩:=Vz H;dsimp only at H;obtain⟨e1,e2,h1,h2,e4,hsh⟩:=CL (QS s.tab a b);refine J6 H ?_
  refine Qk (fun ms σ w=>ms=[]∧∃ b11,σ 0=pp p∧σ 7=pp b7∧σ 8=pp b8∧σ 9=pp b9∧σ 11=pp b11∧σ 12 = .int .i64 e4 ∧
    Q0 w (QW p { s with rem:=QC s.rem ((k:Int),place) }::pts b11 (row 78 [.int .i64 e1,.int .i64 e2,.bool h1,.bool h2])::pts b9 (row 78 (Vl e))::pts b8 (row 132 [.int .i64 k,.int .i64 place])::pts b7 (row 85 [.int .i64 2,.int .i64 a,.int .i64 b])::fr)) ?_ ?_
  ·replace H:=Js [4,0,0,0,0,0,0,0,0,0,0,0,0,0] 0 H;refine J1 H ?_;clear H;intro w H;refine E9 H ?_;refine HD H ?_;refine Jw 6 10 H rfl rfl (Qy (a:=[]) (b:=[]) rfl rfl (call (Ya q.tp s.tab a b H) ?_)) (VN H rfl ?_)
   ·clear H;rintro v w ⟨rfl,H⟩;rw[hsh];refine EQ H ?_;clear H;intro b11 w H;refine AQ H ?_;clear H;intro w H;refine Xv H ?_;replace H:=Js [2,2,2,2,1,1,1,1,1,1,1,0,0,0,0] 0 H;have H:=VY (s:={ s with rem:=QC s.rem ((k:Int),place) }) hw hm H;exact⟨rfl,rfl,b11,rfl,rfl,rfl,rfl,rfl,rfl,H⟩
   ·clear H;intro b11 w H;refine Jo 6 H ?_;refine Jk rfl rfl (Ya q.tp s.tab a b H.swap) ?_;clear H;rintro v w ⟨rfl,H⟩;rw[hsh];refine EV H ?_;clear H;intro w H;refine Xv H ?_;replace H:=Js [2,2,2,2,0,1,1,1,1,1,1,0,0,0,0] 0 H;have H:=VY (s:={ s with rem:=QC s.rem ((k:Int),place) }) hw hm H;exact⟨rfl,rfl,b11,rfl,rfl,rfl,rfl,rfl,rfl,H⟩
  ·clear H;rintro ms σ w ⟨rfl,b11,g0,g7,g8,g9,g11,g12,H⟩;rw[Q1 g0,Q1 g7,Q1 g8,Q1 g9,Q1 g11,Q1 g12];cases hL:QS s.tab a b with
   | none=>
    have hn:Ye s k e place (.obj a b)=QC s.rem ((k:Int),place):=IY hL;rw[hL] at hsh;cases hsh;rw[hn];refine Vc H ?_;refine AR H ?_;refine Qw rfl rfl rfl ?_;refine Vx H ?_;replace H:=Js [0] 4 H;exact Y6 _ (.inl rfl) H rfl fun w' H'=>H'
   | some x=>
    obtain⟨kk,f⟩:=x;rw[hL] at hsh;cases hsh;refine Vc H ?_;refine Ur H ?_;refine U9 H ?_;by_cases hr:f.region=e.region
    ·have hn:Ye s k e place (.obj a b)=QC s.rem ((k:Int),place):=by rw[Cc hL];exact if_neg (by simpa using hr)
     rw[hn,show (f.region != e.region)=false by simpa using hr];refine Vx H ?_;replace H:=Js [0] 4 H;exact Y6 _ (.inl rfl) H rfl fun w' H'=>H'
    ·have hn:Ye s k e place (.obj a b)=Vw (QC s.rem ((k:Int),place)) ((k:Int),place) (a:Int):=by rw[Cc hL];exact if_pos hr
     rw[hn,show (f.region != e.region)=true by simpa using hr];refine XE H ?_;obtain⟨q,mem,hw,hm,H⟩:=Vz H;dsimp only at H;replace H:=Js [6,0,0,0,0,0,0,0,0,0,0,0,0,0,0] 0 H;have hnd:=Au H;refine J1 H ?_;clear H;intro w H;refine C3 H ?_;refine VB 4 [8] H rfl (Q7.none rfl) rfl (by repeat first|exact .nil _|apply Q9.cons rfl) (by kernel_rfl) ?_;refine Jf 5 ?_;refine Jf 6 ?_;refine Jl 7 [8] H ?_;refine Jo 8 H ?_;refine Jk rfl rfl (Mp q.rp _ hnd ((k:Int),place) a H) ?_;clear H;rintro v w ⟨rfl,H⟩;refine Jx H ?_
     have he:QC (QC s.rem ((k:Int),place)) ((k:Int),place)=QC s.rem ((k:Int),place):=by
      refine BX ?_;intro hmem;exact absurd rfl ((BK hnd0).1 hmem).1
     rw[he] at H;replace H:=Js [1,1,1,1,1,1,0,0,0,0,0] 4 H;have H:=VY (s:={ s with rem:=Vw (QC s.rem ((k:Int),place)) ((k:Int),place) (a:Int) }) (Am hw _) (Ex hm _) H;exact Y6 _ (.inl rfl) H rfl fun w' H'=>H'
def X6 (l:QL) (n:Nat):List Nat:=(List.range n).filter (VV l)
theorem IZ {l:QL} {n p:Nat} {a t:List Nat} (h:X6 l n=a++p::t):p < n∧VV l p=true:=by
 have:p∈X6 l n:=by rw[h];simp
 unfold X6 at this;rw[mem_filter,mem_range] at this;exact this
structure NB (ls:List QL) (size:Nat) (own:List Nat) (addr i c s n:Nat) (l:QL) (lk:Nat→VP) (mem:List Nat):Prop where
 img:XM ls size mem own addr i c s n l
 link:∀ p,p < n→VV l p=true→G7 (lk p)∧mem.getD (addr+1+p) 0=VG (lk p)
theorem NC [Q4] (ip:Nat) (addr:Nat) {w:World} {fr:List Q2} (H:Q0 w fr) :
  Calls Tryz.prog 18 #[pp ip,.int .i64 addr] w (ret fun v w'=>∃ b1 b2,v = .func (.func 64) #[] #[pp b1,pp b2]∧Q0 w' (pts b1 (row 37 [pp ip])::pts b2 (row 3 [.int .i64 addr])::fr)):=by
 refine QQ Tryz.func18 rfl (by kernel_rfl) ?_;refine Yv H ?_;clear H;intro b2 w H;refine KO H ?_;clear H;intro b3 w H;refine YY H ?_;exact Q3 (Jy H.swap rfl fun w' H'=>⟨b2,b3,rfl,H'⟩)
theorem ND [Q4] (yl bm ba ip sp bp size:Nat) (ls:List QL) (own:List Nat) (addr i c s n:Nat) (l:QL) (lk:Nat→VP) (F:List Nat→Prop) (hF:∀ mem,F mem→NB ls size own addr i c s n l lk mem) (J:List Nat→Q2)
  (hy : ∀ (ks : List Nat) (p : Nat) (mem : List Nat) (rest : List Q2) (w : World), F mem → (∃ t, X6 l n = ks ++ p :: t) → Q0 w (J ks :: Qr ip sp bp :: Qi bp ls :: ST sp size mem own :: rest) →
   SL.Yields Tryz.prog yl #[.int .i64 p,ZA (lk p)] w (fun v w'=>v = .bool true∧∃ mem',F mem'∧Q0 w' (J (ks++[p])::Qr ip sp bp::Qi bp ls::ST sp size mem' own::rest)))
  {mem:List Nat} (hm:F mem) {w:World} {fr:List Q2} (H:Q0 w (J []::pts bm (row 37 [pp ip])::pts ba (row 3 [.int .i64 addr])::Qr ip sp bp::Qi bp ls::ST sp size mem own::fr)) :
  Calls Tryz.prog 64 #[.func (.yield yl) #[] #[],pp bm,pp ba] w (ret fun _ w'=>∃ mem',F mem'∧Q0 w' (J (X6 l n)::pts bm (row 37 [pp ip])::pts ba (row 3 [.int .i64 addr])::Qr ip sp bp::Qi bp ls::ST sp size mem' own::fr)):=by
 have hR:=(hF _ hm).img.right;have hz:=(hF _ hm).img.siz;refine QQ Tryz.func64 rfl (by kernel_rfl) ?_;refine Yv H ?_;clear H;intro b3 w H;refine J2 H ?_;refine Zg H ?_;refine Q5 rfl (Gt rfl rfl (.inl rfl) rfl ?_);refine RT H ?_;replace H:=Js [4,4,4,0,0,0,0] 0 H;refine C4 H ?_;refine Jc rfl rfl (I1 ip sp bp size ls mem own addr i c s n l (hF _ hm).img H) ?_;clear H;rintro v w ⟨vr,vq,rfl,H⟩;obtain⟨ar,cr,rfl⟩:=QE H (QH _) (by decide);obtain⟨aq,cq,rfl⟩:=QE H.drop (QH _) (by decide);refine Bh H ?_;refine VZ H ?_;clear H;intro b4 w H;refine VZ H ?_;clear H;intro b5 w H;refine J5 H ?_;clear H;intro w H;refine J5 H ?_;clear H;intro w H;refine Bw H ?_;refine GH H ?_;refine ZW H ?_;refine Jc rfl rfl (aE _ _ l c rfl rfl H) ?_;clear H;rintro v w ⟨b1,b2,rfl,H⟩;refine AV H ?_;refine QP (Xn (a:=[]) (b:=[pp b1,pp b2]) H rfl (fun yl2 D w H=>?_));generalize hL:LR _ yl2 _ _ _ _ D .ready=L at H ⊢;obtain⟨J2,hJ2⟩:∃ J2:List Nat→Q2,J2=fun ks=>ex fun mem':List Nat=>star [prop (F mem'),L,J ks,pts bm (row 37 [pp ip]),pts ba (row 3 [.int .i64 addr]),pts b3 (row 162 [.func (.yield yl) #[] #[]]),Qr ip sp bp,Qi bp ls,ST sp size mem' own]:=⟨_,rfl⟩
 have hin:∀ (ks:List Nat) (mem':List Nat) (w:World) (l':List Q2),F mem'→Q0 w (L::J ks::pts bm (row 37 [pp ip])::pts ba (row 3 [.int .i64 addr])::pts b3 (row 162 [.func (.yield yl) #[] #[]])::Qr ip sp bp::Qi bp ls::ST sp size mem' own::l')→Q0 w (J2 ks::l'):=by
  intro ks mem' w l' h H;rw[hJ2];exact Q0.ex.2 ⟨mem',Q0.star.2 (Q0.prop.2 ⟨h,H⟩)⟩
 have hout:∀ (ks:List Nat) (w:World) (l':List Q2),Q0 w (J2 ks::l')→∃ mem',F mem'∧Q0 w (L::J ks::pts bm (row 37 [pp ip])::pts ba (row 3 [.int .i64 addr])::pts b3 (row 162 [.func (.yield yl) #[] #[]])::Qr ip sp bp::Qi bp ls::ST sp size mem' own::l'):=by
  intro ks w l' H;rw[hJ2] at H;obtain⟨mem',H⟩:=Q0.ex.1 H;exact⟨mem',Q0.prop.1 (Q0.star.1 H)⟩
 replace H:=Js [0,11,11,11,10,7,7,7,1,1,3,3,0] 2 H;replace H:=hin [] mem _ _ hm H;refine call (aF yl2 b1 b2 _ _ l hR c hz J2 ?_ H) ?_
 ·clear H;intro ks p rest w hpre H;obtain⟨mem',hm',H⟩:=hout _ _ _ H;obtain⟨t,hpre⟩:=hpre;obtain⟨hpn,hpr⟩:=IZ hpre
  have hpl:QM l n (p:Int) true=0:=by
   unfold QM;rw[if_neg (by omega),Int.toNat_natCast,if_neg (by rw[hpr];decide)]
  have hyy:=fun (w:World) (rest:List Q2)=>hy ks p mem' rest w hm' ⟨t,hpre⟩;obtain⟨a1,a2,a3,hkv⟩:=U1 (lk p);rw[hkv] at hyy;subst hL;refine XX (args:=[.int .i64 p]) H rfl rfl ?_;refine VF H ?_;refine⟨rfl,_,H,fun w H=>QP ?_⟩;replace H:=Js [5,5,5,0,0,0,0,0] 0 H;refine C4 H ?_;refine Jv ?_;refine Jc rfl rfl (F0 ip sp bp size ls mem' own addr i c s n l (hF _ hm').img p (lk p) (fun _=>by rw[Int.toNat_natCast];exact(hF _ hm').link p hpn hpr) (fun h=>absurd hpl h) H) ?_;clear H;rintro v w ⟨rfl,H⟩;rw[hpl,hkv];refine Ve H ?_;clear H;intro b9 w H;refine J5 H ?_;clear H;intro w H;refine J0 H ?_;replace H:=Js [5,1,1,1,1,1,1,1,0] 0 H;refine Ux H ?_;refine KA H ?_;refine Q5 rfl (Ky rfl rfl (SL.Yields.mono (hyy _ _ H) ?_));clear H;rintro v w ⟨rfl,mem'',hm'',H⟩;refine Vx H ?_;replace H:=Js [4,0,3,3,3,0,0,0] 1 H;exact⟨rfl,_,H,fun w H=>⟨rfl,hin _ _ _ _ hm'' H⟩⟩
 ·clear H;rintro v w H;obtain⟨mem',hm',H⟩:=hout _ _ _ H;subst hL;refine⟨_,H,fun w H=>?_⟩;replace H:=Js [11,0,0,0,1,1,1] 5 H;exact Kx (ms:=[D]) _ (.inl rfl) ((Q0.star (k:=[pts D (.deferred (some []))])).2 H) rfl fun w' H'=>⟨mem',hm',H'⟩
def Used (ts:List QK) (i:Int):Prop:=∃ (k n:Nat) (e:Q8),i=k∧ts[k]? = some ⟨n,some e⟩
def Gc (s:CS) (i g place:Int) (l:VP):CS×Nat:=
 match Qn s.tab i g with
 | none=>(s,8)
 | some (k,e)=>if QM (QJ s e) e.ws.length place true=0 then ({ VO s k g.toNat { e with ws:=e.ws.set place.toNat (VG l) } with rem:=Ye (VO s k g.toNat { e with ws:=e.ws.set place.toNat (VG l) }) k { e with ws:=e.ws.set place.toNat (VG l) } place l },0) else (s,QM (QJ s e) e.ws.length place true)
theorem Cd {s:CS} {i g place:Int} {l:VP} (h:Qn s.tab i g=none):Gc s i g place l=(s,8):=by unfold Gc;rw[h]
theorem We {s:CS} {i g place:Int} {l:VP} {k:Nat} {e:Q8} (h:Qn s.tab i g=some (k,e)):Gc s i g place l=if QM (QJ s e) e.ws.length place true=0 then ({ VO s k g.toNat { e with ws:=e.ws.set place.toNat (VG l) } with rem:=Ye (VO s k g.toNat { e with ws:=e.ws.set place.toNat (VG l) }) k { e with ws:=e.ws.set place.toNat (VG l) } place l },0) else (s,QM (QJ s e) e.ws.length place true):=by unfold Gc;rw[h]
theorem NE [Q4] (p:Nat) (s:CS) (i g place:Int) (l:VP) (hl:G7 l) {w:World} {fr:List Q2} (H:Q0 w (QW p s::fr)) :
  Calls Tryz.prog 85 #[pp p,Yy i g,.int .i64 place,ZA l] w (ret fun v w'=>v = .int .i64 ((Gc s i g place l).2:Nat)∧Q0 w' (QW p (Gc s i g place l).1::fr)):=by
 obtain⟨a1,a2,a3,hkv⟩:=U1 l;rw[hkv];refine QQ Tryz.func85 rfl (by kernel_rfl) ?_;refine Yv H ?_;clear H;intro b4 w H;refine XD H ?_;clear H;intro b5 w H;refine KO H ?_;clear H;intro b6 w H;refine XD H ?_;clear H;intro b7 w H;refine ED H ?_;replace H:=Js [4,0,0,0,0] 0 H
 refine Q5 rfl (Qy (a:=[]) (b:=[]) rfl rfl (call (Wd p s i g 144 [pp b4,pp b6,pp b7] (fun v w'=>
   (Qn s.tab i g=none∧v = .int .i64 8∧Q0 w' (QW p s::fr)) ∨
   (∃ k n e, Qn s.tab i g = some (k, e) ∧ g = (n : Nat) ∧ i = (k : Nat) ∧ s.tab[k]? = some ⟨n, some e⟩ ∧ ((QM (QJ s e) e.ws.length place true ≠ 0 ∧ v = .int .i64 (QM (QJ s e) e.ws.length place true) ∧ Q0 w' (QW p s :: fr)) ∨
    (QM (QJ s e) e.ws.length place true=0∧v = .int .i64 0∧Q0 w' (pts b4 (row 45 [pp p])::pts b5 (row 62 [.int .i64 i,.int .i64 g])::pts b6 (row 3 [.int .i64 place])::pts b7 (row 85 [.int .i64 a1,.int .i64 a2,.int .i64 a3])::QW p (VO s k n { e with ws:=e.ws.set place.toNat (VG l) })::fr))))) _ ?_ ?_ H) ?_))
 ·intro hv w H;replace H:=Js [0] 4 H;exact .inl ⟨hv,rfl,H⟩
 ·intro k e hv w H;obtain⟨n,rfl,rfl,hk,hh⟩:=ZF hv;obtain⟨q,mem,hw,hm,H⟩:=Vz H;have hI:=XN hw hm hk;have hT:=fun (w:World) (fr:List Q2) (H:Q0 w (Qr q.ip q.sp q.bp::Qi q.bp s.lays::ST q.sp s.size mem s.own::fr))=>Mz q.ip q.sp q.bp s.size s.lays mem s.own e.addr e.lay e.count k e.ws.length (QJ s e) hI place l hl H;rw[hkv] at hT;refine QQ Tryz.func144 rfl (by kernel_rfl) ?_;refine J7 H ?_;clear H;intro b4 w H;refine J0 H ?_;replace H:=Js [2,2,2,0,0,0,0,0,0,0,0,0,0,0,0,0] 0 H;refine J1 H ?_;clear H;intro w H;refine Jl 0 [8] H ?_;refine G4 H ?_;refine Jl 3 [8] H ?_;refine Jf 4 ?_;refine Jl 5 [8] H ?_;refine Jl 6 [8] H ?_;refine VB 7 [8] H rfl (Q7.none rfl) rfl (by repeat first|exact .nil _|apply Q9.cons rfl) (by kernel_rfl) ?_;refine Jo 8 H ?_;refine Jk rfl rfl (hT _ _ H) ?_;clear H;rintro v w ⟨rfl,H⟩;refine Ja 9 ?_;refine Jx H ?_;by_cases h0:QM (QJ s e) e.ws.length place true=0
  ·obtain⟨y,rfl,hy,hr⟩:=Zh h0;rw[if_pos h0] at H;rw[h0];have hwl:VG l < 18446744073709551616:=MT hl;have hw':=Ew (e':={ e with ws:=e.ws.set y (VG l) }) hw hk ⟨rfl,rfl,rfl,rfl,by show (e.ws.set y (VG l)).length=_;simp⟩ (Hx (hw.obj _ _ _ hk).1 (I7 hw hk) hwl (fun _=>⟨l,hl,rfl⟩));have hm':=Hw hw hm hk hy (x:=VG l);replace H:=Js [5,4,0,0,0,1,1,1,1,1,1,4,3,2,1] 1 H;replace H:=I8 (e':={ e with ws:=e.ws.set y (VG l) }) hk rfl H;replace H:=Js [1,1,1,1,0,0,0,0,0,0,0,0,0,0,0] 0 H;replace H:=VY hw' hm' H;replace H:=Js [1,1,1,1,0] 0 H;exact Q3 (Jy H rfl fun w' H' => .inr ⟨k,n,e,hv,rfl,rfl,hk,.inr ⟨h0,rfl,H'⟩⟩)
  ·rw[if_neg h0] at H;replace H:=Js [4,0,0,0,1,1,1,1,1,1,1] 5 H;replace H:=VY hw hm H;exact Q3 (Jy H rfl fun w' H' => .inr ⟨k,n,e,hv,rfl,rfl,hk,.inl ⟨h0,rfl,H'⟩⟩)
 ·clear H;rintro v w (⟨hv,rfl,H⟩|⟨k,n,e,hv,rfl,rfl,hk,(⟨h0,rfl,H⟩|⟨h0,rfl,H⟩)⟩)
  ·rw[Cd hv];refine Yl H ?_;refine J4 H ?_;exact Q3 (Jy H rfl fun w' H'=>⟨rfl,H'⟩)
  ·rw[We hv,if_neg h0];refine YY H ?_;rw[show (((QM (QJ s e) e.ws.length place true:Nat):Int) == 0)=false by simpa using h0];refine Bg H ?_;exact Q3 (Jy H rfl fun w' H'=>⟨rfl,H'⟩)
  ·rw[We hv,if_pos h0,Int.toNat_natCast];have hN:=fun (w:World) (fr:List Q2) (H:Q0 w (QW p (VO s k n { e with ws:=e.ws.set place.toNat (VG l) })::fr))=>bP p (VO s k n { e with ws:=e.ws.set place.toNat (VG l) }) k n { e with ws:=e.ws.set place.toNat (VG l) } (by show (s.tab.set k _)[k]? = _;simp[(List.getElem?_eq_some_iff.1 hk).1]) place l H;rw[hkv] at hN;refine YY H ?_;refine J6 H ?_;refine Qk (fun ms σ w=>ms=[]∧σ 9 = .int .i64 0∧Q0 w (QW p { VO s k n { e with ws:=e.ws.set place.toNat (VG l) } with rem:=Ye (VO s k n { e with ws:=e.ws.set place.toNat (VG l) }) k { e with ws:=e.ws.set place.toNat (VG l) } place l }::fr)) ?_ ?_
   ·refine Vp rfl ?_;refine Zg H ?_;refine ZW H ?_;refine Xo H ?_;refine KA H ?_;replace H:=Js [4,0,0,0,0] 0 H;refine Jc rfl rfl (hN _ _ H) ?_;clear H;intro v w H;refine J2 H ?_;replace H:=Js [0] 4 H;exact⟨rfl,rfl,rfl,H⟩
   ·clear H;rintro ms σ w ⟨rfl,g9,H⟩;rw[Q1 g9];refine J4 H ?_;exact Q3 (Jy H rfl fun w' H'=>⟨rfl,H'⟩)
def Yn (s:CS) (i g place u v:Int):CS×Nat:=
 if (Y5 s i g place).2≠0 then (s,(Y5 s i g place).2)
 else if (Qn s.tab u v).isNone then (s,8) else Gc s i g place (.obj u.toNat v.toNat)
theorem IG {s:CS} (h:WF s) {k g:Nat} {e:Q8} (hk:s.tab[k]? = some ⟨g,some e⟩):CX k g:=by
 have h1:=(List.getElem?_eq_some_iff.1 hk).1;have h2:=h.slots.2;have h3:=h.gen _ _ hk;exact⟨by omega,h3.2 rfl,h3.1⟩
theorem NF [Q4] (p:Nat) (s:CS) (i g place u v:Int) {w:World} {fr:List Q2} (H:Q0 w (QW p s::fr)) :
  Calls Tryz.prog 24 #[pp p,Yy i g,.int .i64 place,Yy u v] w (ret fun x w'=>x = .int .i64 ((Yn s i g place u v).2:Nat)∧Q0 w' (QW p (Yn s i g place u v).1::fr)):=by
 obtain⟨a1,a2,a3,hkv⟩:=U1 (Y5 s i g place).1;refine QQ Tryz.func24 rfl (by kernel_rfl) ?_;refine J7 H ?_;clear H;intro b5 w H;refine XD H ?_;clear H;intro b7 w H;refine KM H ?_;refine Jv ?_;replace H:=Js [2,0,0] 0 H;refine Jc rfl rfl (FQ p s i g place H) ?_;clear H;rintro v w ⟨rfl,H⟩;rw[hkv];refine Ve H ?_;clear H;intro b9 w H;refine J5 H ?_;clear H;intro w H;refine YY H ?_;by_cases h0:(Y5 s i g place).2=0
 ·have hT:Yn s i g place u v=if (Qn s.tab u v).isNone then (s,8) else Gc s i g place (.obj u.toNat v.toNat):=by unfold Yn;rw[if_neg (by simpa using h0)]
  rw[hT,h0];refine V4 H ?_;refine Gv H ?_;replace H:=Js [1,0,0,0] 0 H;refine Jc rfl rfl (NK p s u v H) ?_;clear H;rintro v w ⟨rfl,H⟩;cases hv:Qn s.tab u v with
  | none=>
   refine Ve H ?_;clear H;intro b11 w H;refine J5 H ?_;clear H;intro w H;refine C1 H ?_;replace H:=Js [1] 4 H;exact Q3 (Jy H rfl fun w' H'=>⟨rfl,H'⟩)
  | some x=>
   obtain⟨k,f⟩:=x;obtain⟨n,rfl,rfl,hk,hh⟩:=ZF hv
   have hok:CX k n:=by
    obtain⟨q,mem,hw,hm,_⟩:=Vz (H.pull 0);exact IG hw hk
   refine Ve H ?_;clear H;intro b11 w H;refine J5 H ?_;clear H;intro w H;refine EZ H ?_;refine Jv ?_;refine KA H ?_;refine XK H ?_;replace H:=Js [1,0,0,0,0] 0 H;refine Jc rfl rfl (NE p s i g place (.obj k n) hok H) ?_;clear H;rintro v w ⟨rfl,H⟩;refine J0 H ?_;replace H:=Js [0] 4 H;exact Q3 (Jy H rfl fun w' H'=>⟨rfl,H'⟩)
 ·have hT:Yn s i g place u v=(s,(Y5 s i g place).2):=by unfold Yn;rw[if_pos h0]
  rw[hT];rw[show ((((Y5 s i g place).2:Nat):Int) != 0)=true by simpa using h0];refine Yc H ?_;replace H:=Js [1] 3 H;exact Q3 (Jy H rfl fun w' H'=>⟨rfl,H'⟩)
theorem bc [Q4] (p:Nat) (s:CS) (i g place:Int) {w:World} {fr:List Q2} (H:Q0 w (QW p s::fr)) :
  Calls Tryz.prog 158 #[pp p,Yy i g,.int .i64 place] w (ret fun x w'=>x = .int .i64 ((Gc s i g place .none).2:Nat)∧Q0 w' (QW p (Gc s i g place .none).1::fr)):=by
 refine QQ Tryz.func158 rfl (by kernel_rfl) ?_;refine J7 H ?_;clear H;intro b4 w H;refine KM H ?_;refine Jv ?_;refine XK H ?_;refine Jc rfl rfl (NE p s i g place .none trivial H.swap) ?_;clear H;rintro v w ⟨rfl,H⟩;refine J0 H ?_;replace H:=Js [0] 1 H;exact Q3 (Jy H rfl fun w' H'=>⟨rfl,H'⟩)
end Go.Proofs.YtbnnnljagkjpiaaGreatDoor
