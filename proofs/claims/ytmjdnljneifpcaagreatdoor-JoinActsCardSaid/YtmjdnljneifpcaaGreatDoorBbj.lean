/- Cells: what is proved on the way: every input of the statement; no condition. Texts joined: TabB TabC TabD CelA CelB CelC CelD CelE CelF CelG CelH PrtP. -/
import Derived.Test.YtmjdnljneifpcaaGreatDoorBbe
import Derived.Test.YtmjdnljneifpcaaGreatDoorBbi
import Derived.Test.YtmjdnljneifpcaaGreatDoorBbh
set_option linter.unusedVariables false
set_option linter.unusedSimpArgs false
set_option linter.unusedSectionVars false
namespace Go.Proofs.YtmjdnljneifpcaaGreatDoor
open Go.SL
@[reducible] def Y2y (i g:Int):Value := .agg #[.int .i64 i,.int .i64 g]
theorem Z7k {ts:List Slt} {i g:Int} (h:Q2o ts i g=none):i < 0∨(ts.length:Int)≤i∨∃ (k:Nat) (t:Slt),i=k∧ts[k]? = some t∧(t.ent=none∨(t.ent.isSome=true∧(t.gen:Int)≠g)):=by
 by_cases h0:i < 0
 ·exact .inl h0
 by_cases h1:(ts.length:Int)≤i
 ·exact .inr (.inl h1)
 refine .inr (.inr ?_);obtain⟨k,rfl⟩:∃ k:Nat,i=k:=⟨i.toNat,by omega⟩;have hk:=List.getElem?_eq_getElem (l:=ts) (i:=k) (by omega);generalize ts[k]'(by omega)=t at hk;refine⟨k,t,rfl,hk,?_⟩;obtain⟨n,e⟩:=t;cases e with
 | none=>exact .inl rfl
 | some e=>
  refine .inr ⟨rfl,fun hg=>?_⟩;rw[(Q1k (k:=k) (e:=e)).2 ⟨n,rfl,hg.symm,hk⟩] at h;cases h
theorem V9r [Q0i] (p b c u:Nat) (go:Value) (hgo:go.oneCell'=true) (ts:List Slt) (s:List Value) (hlen:ts.length≤63) (i g:Int) {w:World} {fr:List Q0e} (H:Q0a w (pts p (row 144 [.slice (some ⟨b,0,none⟩) ts.length c,pp u,go])::pts b (row 199 (ts.flatMap V2x++s))::fr)) :
  Calls Tryz.prog 132 #[pp p,Y2y i g] w (ret fun v w'=>v=(match Q2o ts i g with|some (k,_) => .tuple #[.pointer (some ⟨b,k*6,none⟩),.int .i64 0]|none => .tuple #[.pointer none,.int .i64 8]) ∧
   Q0a w' (pts p (row 144 [.slice (some ⟨b,0,none⟩) ts.length c,pp u,go])::pts b (row 199 (ts.flatMap V2x++s))::fr)):=by
 refine Q0c Tryz.func132 rfl (by kernel_rfl) ?_;refine J8 H ?_;clear H;intro b3 w H;refine U7i H ?_;cases hL:Q2o ts i g with
 | some q=>
  obtain⟨k,e⟩:=q;obtain⟨n,rfl,rfl,hk⟩:=Q1k.1 hL;have hkl:k < ts.length:=(List.getElem?_eq_some_iff.1 hk).1;have c1:(ts.flatMap V2x++s)[k*6+1]? = some (.bool true):=Q7l Q3c hk rfl;have c0:(ts.flatMap V2x++s)[k*6+0]? = some (.int .i64 n):=Q7l Q3c hk rfl;have ei:0+((k:Nat):Int).toNat*6=k*6:=by simp
  refine J1 H ?_;clear H;intro w H;refine G8d H ?_;rw[show decide ((k:Int) < 0)=false from decide_eq_false (by omega)];refine Ja 3 ?_;refine G8e H ?_;refine U2t H ?_;refine Jl 9 [] H ?_;refine Q5g 10 rfl (Q0n.of rfl rfl rfl) rfl (by kernel_rfl) ?_;refine Ja 11 ?_;rw[show decide ((k:Int)≥(ts.length:Int))=false from decide_eq_false (by omega)];refine Ja 12 ?_;refine Ja 13 ?_;refine Ja 14 ?_;refine Ja 15 ?_;refine Jf 16 ?_;refine Jl 17 [] H ?_;refine Jf 18 ?_;refine Jl 19 [] H ?_;refine Ji 20 ?_;rw[ei];refine Jf 21 ?_;refine Q2b 22 [] H rfl (Q0n.of rfl rfl rfl) rfl c1 (by kernel_rfl) ?_;refine Ja 23 ?_;refine Ja 24 ?_;refine Ja 25 ?_;refine Ja 26 ?_;refine Ja 27 ?_;refine Jf 28 ?_;refine Jl 29 [] H ?_;refine Jf 30 ?_;refine Jl 31 [] H ?_;refine Ji 32 ?_;rw[ei];refine Jf 33 ?_;refine Q2b 34 [] H rfl (Q0n.of rfl rfl rfl) rfl c0 (by kernel_rfl) ?_;refine Jf 35 ?_;refine Jl 36 [] H ?_;refine Ja 37 ?_;rw[show (((n:Nat):Int) != (n:Int))=false by simp];refine Ja 38 ?_;refine Jx H ?_;refine U4l H ?_;clear H;intro w H;refine J61 H ?_;refine G8e H ?_;refine Ji 6 ?_;rw[ei];refine Ja 7 ?_;refine J69 H ?_;exact Q0g (Jy H.drop rfl fun w' H'=>⟨rfl,H'⟩)
 | none=>
  rcases Z7k hL with h0|h1|⟨k,t,rfl,hk,ht⟩
  ·refine J1 H ?_;clear H;intro w H;refine G8d H ?_;rw[show decide (i < 0)=true from decide_eq_true (by omega)];refine Ja 3 ?_;refine Jn 4 ?_;refine Jn 5 ?_;refine Jn 6 ?_;refine Jn 7 ?_;refine Jn 8 ?_;refine U8a H ?_;refine J79 H ?_;refine U8b H ?_;refine U8c H ?_;exact Q0g (Jy H.drop rfl fun w' H'=>⟨rfl,H'⟩)
  ·by_cases h0:i < 0
   ·refine J1 H ?_;clear H;intro w H;refine G8d H ?_;rw[show decide (i < 0)=true from decide_eq_true (by omega)];refine Ja 3 ?_;refine Jn 4 ?_;refine Jn 5 ?_;refine Jn 6 ?_;refine Jn 7 ?_;refine Jn 8 ?_;refine U8a H ?_;refine J79 H ?_;refine U8b H ?_;refine U8c H ?_;exact Q0g (Jy H.drop rfl fun w' H'=>⟨rfl,H'⟩)
   ·refine J1 H ?_;clear H;intro w H;refine G8d H ?_;rw[show decide (i < 0)=false from decide_eq_false (by omega)];refine Ja 3 ?_;refine G8e H ?_;refine U2t H ?_;refine Jl 9 [] H ?_;refine Q5g 10 rfl (Q0n.of rfl rfl rfl) rfl (by kernel_rfl) ?_;refine Ja 11 ?_;rw[show decide (i≥(ts.length:Int))=true from decide_eq_true (by omega)];refine J79 H ?_;refine U8b H ?_;refine U8c H ?_;exact Q0g (Jy H.drop rfl fun w' H'=>⟨rfl,H'⟩)
  ·have hkl:k < ts.length:=(List.getElem?_eq_some_iff.1 hk).1;have c1:(ts.flatMap V2x++s)[k*6+1]? = some (.bool t.ent.isSome):=Q7l Q3c hk (G1l t);have c0:(ts.flatMap V2x++s)[k*6+0]? = some (.int .i64 t.gen):=Q7l Q3c hk (G5w t);have ei:0+((k:Nat):Int).toNat*6=k*6:=by simp
   refine J1 H ?_;clear H;intro w H;refine G8d H ?_;rw[show decide ((k:Int) < 0)=false from decide_eq_false (by omega)];refine Ja 3 ?_;refine G8e H ?_;refine U2t H ?_;refine Jl 9 [] H ?_;refine Q5g 10 rfl (Q0n.of rfl rfl rfl) rfl (by kernel_rfl) ?_;refine Ja 11 ?_;rw[show decide ((k:Int)≥(ts.length:Int))=false from decide_eq_false (by omega)];refine Ja 12 ?_;refine Ja 13 ?_;refine Ja 14 ?_;refine Ja 15 ?_;refine Jf 16 ?_;refine Jl 17 [] H ?_;refine Jf 18 ?_;refine Jl 19 [] H ?_;refine Ji 20 ?_;rw[ei];refine Jf 21 ?_;refine Q2b 22 [] H rfl (Q0n.of rfl rfl rfl) rfl c1 (by kernel_rfl) ?_
   rcases ht with ht|⟨ht,hne⟩
   ·rw[ht];refine Ja 23 ?_;refine U8c H ?_;exact Q0g (Jy H.drop rfl fun w' H'=>⟨rfl,H'⟩)
   ·rw[ht];refine Ja 23 ?_;refine Ja 24 ?_;refine Ja 25 ?_;refine Ja 26 ?_;refine Ja 27 ?_;refine Jf 28 ?_;refine Jl 29 [] H ?_;refine Jf 30 ?_;refine Jl 31 [] H ?_;refine Ji 32 ?_;rw[ei];refine Jf 33 ?_;refine Q2b 34 [] H rfl (Q0n.of rfl rfl rfl) rfl c0 (by kernel_rfl) ?_;refine Jf 35 ?_;refine Jl 36 [] H ?_;refine Ja 37 ?_;rw[show (((t.gen:Nat):Int) != g)=true by simpa using hne];refine Ja 38 ?_;refine Jx H ?_
    repeat refine Q0m ?_
    refine Q3g rfl ?_
    repeat refine Q0m ?_
    refine Q0f ?_;refine Jv ?_;refine Jv ?_;refine Q0h ?_;exact Q0g (Jy H.drop rfl fun w' H'=>⟨rfl,H'⟩)
end Go.Proofs.YtmjdnljneifpcaaGreatDoor
namespace Go.Proofs.YtmjdnljneifpcaaGreatDoor
open Go.SL
theorem V4p {ts:List Slt} {k:Nat} {t t':Slt} (hk:ts[k]? = some t) (hb:(t'.ent.isNone && t'.gen == 255)=(t.ent.isNone && t.gen == 255)):V5v (ts.set k t')=V5v ts:=by
 unfold V5v;rw[set_split hk]
 conv=>rhs;rw[split_at hk]
 rw[List.filter_append,List.filter_append,List.filter_cons,List.filter_cons,hb];split <;> simp
theorem V5w.set {ts:List Slt} {x k:Nat} {t t':Slt} (h:V5w ts x) (hk:ts[k]? = some t) (hb:busy t'=busy t) (hg:t'.gen≤255):V5w (ts.set k t') x:=by
 refine⟨by rw[List.length_set];exact h.bits,fun i u hu=>?_,fun i u hu=>?_⟩
 ·rcases Q1i hu with ⟨rfl,rfl,_⟩|⟨_,hu⟩
  ·rw[hb];exact h.bit _ _ hk
  ·exact h.bit _ _ hu
 ·rcases Q1i hu with ⟨rfl,rfl,_⟩|⟨_,hu⟩
  ·exact hg
  ·exact h.gen _ _ hu
theorem G1n [Q0i] (p:Nat) (ts:List Slt) (i g:Int) {w:World} {fr:List Q0e} (H:Q0a w (TAB p ts::fr)) :
  Calls Tryz.prog 68 #[pp p,Y2y i g] w (ret fun v w'=>v=(match Q2o ts i g with|some (_,e) => .tuple #[.agg (evl e).toArray,.int .i64 0]|none => .tuple #[.agg #[.int .i64 0,.int .i64 0,.bool false,.bool false],.int .i64 8])∧Q0a w' (TAB p ts::fr)):=by
 obtain⟨b,c,s,u,x,hok,hc,H,hclose⟩:=V2y H;refine Q0c Tryz.func68 rfl (by kernel_rfl) ?_;refine J8 H ?_;clear H;intro b3 w H;refine J12 H ?_;clear H;intro b4 w H;refine G8l H ?_;replace H:=Js [2,2,0,0,0] 0 H;refine Jc rfl rfl (V9r p b c u _ rfl ts s hok.bits.le i g H) ?_;clear H;rintro v w ⟨rfl,H⟩;cases hL:Q2o ts i g with
 | some q=>
  obtain⟨k,e⟩:=q;obtain⟨n,rfl,rfl,hk⟩:=Q1k.1 hL;have hrd:Q0o (ts.flatMap V2x++s) (k*6+2) 4 (evl e):=Q8h (vs:=evl e) Q3c hk (by repeat first|exact .nil _|apply Q0o.cons rfl);refine J38 H ?_;refine J6 H ?_;refine J99 H ?_;refine Q0s rfl (Q1j H rfl hrd rfl ?_);refine J4 H ?_;clear H;intro w H;refine J0 H ?_;replace H:=Js [2,0,0,1] 1 H;exact Q0g (Jz H (fun w' H' => .cellN H' rfl (by repeat first|exact .nil _|apply Q0o.cons rfl) (.tmp .nil)) fun w' H'=>⟨rfl,hclose _ _ ts x rfl rfl hok H'.drop⟩)
 | none=>
  refine J66 H ?_;refine U8d H ?_;clear H;intro w H;refine J0 H ?_;replace H:=Js [2,0,0,1] 1 H;exact Q0g (Jz H (fun w' H' => .cellN H' rfl (by repeat first|exact .nil _|apply Q0o.cons rfl) (.tmp .nil)) fun w' H'=>⟨rfl,hclose _ _ ts x rfl rfl hok H'.drop⟩)
theorem V1e [Q0i] (p:Nat) (ts:List Slt) (i g:Int) (e':Ent) {w:World} {fr:List Q0e} (H:Q0a w (TAB p ts::fr)) :
  Calls Tryz.prog 140 #[pp p,Y2y i g,.agg (evl e').toArray] w (ret fun v w'=>(∃ k e,Q2o ts i g=some (k,e)∧v = .int .i64 0∧Q0a w' (TAB p (ts.set k ⟨g.toNat,some e'⟩)::fr))∨(Q2o ts i g=none∧v = .int .i64 8∧Q0a w' (TAB p ts::fr))):=by
 obtain⟨b,c,s,u,x,hok,hc,H,hclose⟩:=V2y H;refine Q0c Tryz.func140 rfl (by kernel_rfl) ?_;refine J8 H ?_;clear H;intro b4 w H;refine J64 H ?_;clear H;intro b5 w H;refine G8l H ?_;replace H:=Js [2,2,0,0,0] 0 H;refine Jc rfl rfl (V9r p b c u _ rfl ts s hok.bits.le i g H) ?_;clear H;rintro v w ⟨rfl,H⟩;cases hL:Q2o ts i g with
 | some q=>
  obtain⟨k,e⟩:=q;obtain⟨n,rfl,rfl,hk⟩:=Q1k.1 hL;refine J66 H ?_;refine J7 H ?_;refine Q1m (fun ms σ w=>ms=[]∧σ 8 = .int .i64 0∧Q0a w (TAB p (ts.set k ⟨n,some e'⟩)::fr)) ?_ ?_
  ·refine Q3g rfl ?_;refine U4y H ?_;refine J99 H ?_;replace H:=Js [1,0,0,0,0] 0 H;have hlen:=Q4v Q3c ts;have hkl:k < ts.length:=(List.getElem?_eq_some_iff.1 hk).1;refine Q0s rfl (Q3a (vs:=evl e') H rfl rfl inferInstance rfl rfl (by rw[List.length_append,hlen];omega) rfl ?_);clear H;intro w H;rw[Y4s (x':=⟨n,some e'⟩) Q3c hk (by simp) rfl] at H;refine Q0h ?_;replace H:=Js [1,0,2] 2 H;exact⟨rfl,rfl,rfl,hclose _ _ (ts.set k ⟨n,some e'⟩) x (by simp) (V4p hk rfl) (hok.set hk rfl (by have:=hok.gen _ _ hk;exact this)) H⟩
  ·clear H;rintro ms σ w ⟨rfl,g8,H⟩;rw[Q0b g8];refine J3 H ?_;exact Q0g (Jy H rfl fun w' H' => .inl ⟨k,e,rfl,rfl,H'⟩)
 | none=>
  refine J38 H ?_;refine J3 H ?_;replace H:=Js [0,0,2] 2 H;exact Q0g (Jy H rfl fun w' H' => .inr ⟨rfl,rfl,hclose _ _ ts x rfl rfl hok H'⟩)
end Go.Proofs.YtmjdnljneifpcaaGreatDoor
namespace Go.Proofs.YtmjdnljneifpcaaGreatDoor
open Go.SL
theorem V8a [Q0i] (p:Nat) (ts:List Slt) (k n:Nat) (e:Ent) (hk:ts[k]? = some ⟨n,some e⟩) {w:World} {fr:List Q0e} (H:Q0a w (TAB p ts::fr)) :
  Calls Tryz.prog 110 #[pp p,.int .i64 k] w (ret fun v w'=>v = .tuple #[tkn k n,.bool true]∧Q0a w' (TAB p ts::fr)):=by
 obtain⟨b,c,s,u,x,hok,hc,H,hclose⟩:=V2y H;have hb:=hok.bits.le;have hkl:k < ts.length:=(List.getElem?_eq_some_iff.1 hk).1;have c1:(ts.flatMap V2x++s)[k*6+1]? = some (.bool true):=Q7l Q3c hk rfl;have c0:(ts.flatMap V2x++s)[k*6+0]? = some (.int .i64 n):=Q7l Q3c hk rfl;have ei:0+((k:Nat):Int).toNat*6=k*6:=by simp
 refine Q0c Tryz.func110 rfl (by kernel_rfl) ?_;refine J24 H ?_;clear H;intro b4 w H;refine J0 H ?_;refine U6o H ?_;refine J72 H ?_;rw[show decide ((k:Int) < 0)=false from decide_eq_false (by omega)];refine J26 H ?_;refine J44 H ?_;refine U8x H ?_;rw[show decide ((k:Int)≥(ts.length:Int))=false from decide_eq_false (by omega)];refine U7u H ?_;refine Q4u rfl rfl rfl (Q2k rfl rfl (by omega) (by omega) rfl ?_);rw[ei];refine Q4u rfl rfl rfl (Q0q rfl rfl ?_);refine Q4u rfl rfl rfl (Q0l H rfl c1 rfl ?_);refine U1r H ?_;refine U4s H ?_;refine Jd ?_;rw[ei];refine J99 H ?_;refine Q0s rfl (Q0l H rfl c0 rfl ?_);refine J48 H ?_;refine J4 H ?_;clear H;intro w H;refine J0 H ?_;exact Q0g (Jz H (fun w' H' => .cellN H' rfl (by repeat first|exact .nil _|apply Q0o.cons rfl) (.tmp .nil)) fun w' H'=>⟨rfl,hclose _ _ ts x rfl rfl hok H'.drop⟩)
theorem G1o [Q0i] (p:Nat) (ts:List Slt) (e:Ent) {w:World} {fr:List Q0e} [hT:Q4t 0 Lib.deBruijn64tab fr] (H:Q0a w (TAB p ts::fr)) :
  Calls Tryz.prog 91 #[pp p,.agg (evl e).toArray] w (ret fun v w'=>(∃ k n,ts[k]? = some ⟨n,none⟩∧n≤254∧(∀ j t,j < k→ts[j]? = some t→busy t=true)∧v = .tuple #[tkn k (n+1),.int .i64 0]∧Q0a w' (TAB p (ts.set k ⟨n+1,some e⟩)::fr)) ∨
   ((∀ t∈ts,busy t=true)∧v = .tuple #[tkn 0 0,.int .i64 12]∧Q0a w' (TAB p ts::fr))):=by
 obtain⟨b,c,s,u,x,hok,hc,H,hclose⟩:=V2y H;have hb:=hok.bits.le;refine Q0c Tryz.func91 rfl (by kernel_rfl) ?_;refine J8 H ?_;clear H;intro b3 w H;refine J12 H ?_;clear H;intro b4 w H;refine U2k H ?_;refine J29 H ?_;replace H:=Js [4,0,0,0,0] 0 H;refine Jc rfl rfl (V5l u ts.length x 0 _ hok.bits (by omega) H) ?_;clear H;rintro v w ⟨hF,H⟩
 rcases hF with ⟨k,rfl,_,hk,hoff,hall⟩|⟨rfl,hall⟩
 ·have ht:=List.getElem?_eq_getElem hk;have hbz:∀ j t,j < k→ts[j]? = some t→busy t=true:=fun j t hj hjt=>by rw[← hok.bit j t hjt];exact hall j (Nat.zero_le _) hj
  generalize ts[k]=t at ht;have hbk:=hok.bit k t ht;have hg:=hok.gen k t ht;rw[hoff] at hbk;obtain⟨n,en⟩:=t
  have hen:en=none∧n≤254:=by
   unfold busy at hbk;cases en with
   | none=>simp at hbk hg;exact⟨rfl,by omega⟩
   | some y=>simp at hbk
  obtain⟨rfl,hn⟩:=hen;have ei:0+((k:Nat):Int).toNat*6=k*6:=by simp
  have hlen:=Q4v Q3c ts;refine J38 H ?_;refine J10 H ?_;refine Jc rfl rfl (V8y u _ x k true hok.bits hk H) ?_;clear H;rintro v w ⟨rfl,H⟩;refine U7y H ?_;refine Jd ?_;rw[ei];refine J0 H ?_;have c0:(ts.flatMap V2x++s)[k*6+0]? = some (.int .i64 n):=Q7l Q3c ht rfl;replace H:=Js [4,0,0,0,0] 0 H;refine J6 H ?_;refine J99 H ?_;refine Q0s rfl (Q0l H rfl c0 rfl ?_);refine J26 H ?_;refine J99 H ?_;rw[Q1e (x:=((n:Nat):Int)+1) (by omega) (by omega),show ((n:Nat):Int)+1=((n+1:Nat):Int) by omega];refine Q0s rfl (Q2e H rfl rfl inferInstance rfl (by rw[List.length_append,hlen];omega) rfl ?_);clear H;intro w H;rw[Z4i (x':=⟨n+1,none⟩) Q3c ht (by omega) rfl] at H;refine Q0h ?_;have ht1:(ts.set k ⟨n+1,none⟩)[k]? = some (⟨n+1,none⟩:Slt):=List.getElem?_set_self hk;have hlen1:=Q4v Q3c (ts.set k ⟨n+1,none⟩);rw[List.length_set] at hlen1;refine J1 H ?_;clear H;intro w H;refine Ja 0 ?_;refine Ja 1 ?_;refine Q1w 2 [8] H rfl (Q0n.none rfl) rfl (by repeat first|exact .nil _|apply Q0o.cons rfl) (by kernel_rfl) ?_;refine Ja 3 ?_;refine Jf 4 ?_;refine Jo 5 H ?_;refine Q2e H rfl rfl inferInstance rfl (by rw[List.length_append,hlen1];omega) rfl ?_;clear H;intro w H;rw[Z4i (x':=⟨n+1,some ⟨0,0,false,false,0,0,[]⟩⟩) Q3c ht1 (by omega) rfl,List.set_set] at H;have ht2:(ts.set k ⟨n+1,some ⟨0,0,false,false,0,0,[]⟩⟩)[k]? = some (⟨n+1,some ⟨0,0,false,false,0,0,[]⟩⟩:Slt):=List.getElem?_set_self hk;have hlen2:=Q4v Q3c (ts.set k ⟨n+1,some ⟨0,0,false,false,0,0,[]⟩⟩);rw[List.length_set] at hlen2;refine Ja 6 ?_;refine Jf 7 ?_;refine Jo 8 H ?_;refine Q3a (vs:=evl e) H rfl rfl inferInstance rfl rfl (by rw[List.length_append,hlen2];omega) rfl ?_;clear H;intro w H;rw[Y4s (x':=⟨n+1,some e⟩) Q3c ht2 (by simp) rfl,List.set_set] at H;refine Jx H ?_;have ht3:(ts.set k ⟨n+1,some e⟩)[k]? = some (⟨n+1,some e⟩:Slt):=List.getElem?_set_self hk;have c3:((ts.set k ⟨n+1,some e⟩).flatMap V2x++s)[k*6+0]? = some (.int .i64 ((n+1:Nat):Int)):=Q7l Q3c ht3 rfl;refine J15 H ?_;refine J99 H ?_;refine Q0s rfl (Q0l H rfl c3 rfl ?_);refine J48 H ?_;refine J4 H ?_;clear H;intro w H;refine J0 H ?_;replace H:=Js [2,3,0,0] 1 H;have hn255:(n == 255)=false:=by simp;omega
  have hok':V5w (ts.set k ⟨n+1,some e⟩) (V7v x k true):=by
   refine⟨by rw[List.length_set];exact hok.bits.set hk,fun i v hv=>?_,fun i v hv=>?_⟩
   ·rw[V0a]
    rcases Q1i hv with ⟨rfl,rfl,_⟩|⟨hne,hv⟩
    ·rw[if_pos rfl];rfl
    ·rw[if_neg hne];exact hok.bit _ _ hv
   ·rcases Q1i hv with ⟨rfl,rfl,_⟩|⟨_,hv⟩
    ·show n+1≤255;omega
    ·exact hok.gen _ _ hv
  exact Q0g (Jz H (fun w' H' => .cellN H' rfl (by repeat first|exact .nil _|apply Q0o.cons rfl) (.tmp .nil)) fun w' H' => .inl ⟨k,n,ht,hn,hbz,rfl,hclose _ _ (ts.set k ⟨n+1,some e⟩) (V7v x k true) (by simp) (V4p ht (by simp[hn255])) hok' H'.drop⟩)
 ·refine U4d H ?_;refine U3t H ?_;clear H;intro w H;refine J0 H ?_;replace H:=Js [1,2,2,0] 1 H;refine Q0g (Jz H (fun w' H' => .cellN H' rfl (by repeat first|exact .nil _|apply Q0o.cons rfl) (.tmp .nil)) fun w' H' => .inr ⟨fun t ht=>?_,rfl,hclose _ _ ts x rfl rfl hok H'.drop⟩);obtain⟨j,hj⟩:=List.getElem?_of_mem ht;rw[← hok.bit j t hj];exact hall j (Nat.zero_le _) (List.getElem?_eq_some_iff.1 hj).1
end Go.Proofs.YtmjdnljneifpcaaGreatDoor
namespace Go.Proofs.YtmjdnljneifpcaaGreatDoor
open Go.SL
structure Ptr where
 sp:Nat
 bp:Nat
 ip:Nat
 tp:Nat
 trp:Nat
 rp:Nat
 sm:Nat
 mm:Nat
@[reducible] def Q6v:Nat→Value:=fun b=>pp b
@[reducible] def Q4q (x:Int×Nat×Spc):Int×Nat:=(x.1,x.2.1)
@[reducible] def Q3p (x:Int×Nat×List Nat):Int×Nat:=(x.1,x.2.1)
@[reducible] def Q4r (sp:Nat) (x:Int×Nat×Spc):Q0e:=SPC x.2.1 sp x.1.toNat x.2.2
@[reducible] def Q4a (x:Int×Nat×List Nat):Q0e:=BAG x.2.1 x.2.2
@[reducible] def Q7x (p:Nat) (q:Ptr):Q0e:=pts p (row 43 [pp q.sp,pp q.bp,pp q.ip,pp q.tp,pp q.trp,pp q.rp,.map (some q.sm),.map (some q.mm)])
def Q2z (p:Nat) (s:CS):Q0e:=ex fun x:Ptr×List Nat=>star [prop (WF s∧Q4p s x.2),Q7x p x.1,IMG x.1.ip x.1.sp x.1.bp,Q5v x.1.bp s.lays,ST x.1.sp s.size x.2 s.own,TAB x.1.tp s.tab,TRE x.1.trp s.last s.par,RS x.1.rp s.rem,
 mp (ki .i64) Q6v x.1.sm (s.sps.map Q4q),star (s.sps.map (Q4r x.1.sp)),mp (ki .i64) Q6v x.1.mm (s.mns.map Q3p),star (s.mns.map Q4a)]
theorem Q1u [Q0i] {w:World} {p:Nat} {s:CS} {fr:List Q0e} (H:Q0a w (Q2z p s::fr)):∃ (q:Ptr) (mem:List Nat),WF s∧Q4p s mem ∧
  Q0a w (Q7x p q::IMG q.ip q.sp q.bp::Q5v q.bp s.lays::ST q.sp s.size mem s.own::TAB q.tp s.tab::TRE q.trp s.last s.par::RS q.rp s.rem::mp (ki .i64) Q6v q.sm (s.sps.map Q4q)::star (s.sps.map (Q4r q.sp))::mp (ki .i64) Q6v q.mm (s.mns.map Q3p)::star (s.mns.map Q4a)::fr):=by
 obtain⟨⟨q,mem⟩,H⟩:=Q0a.ex.1 H;have H:=Q0a.star.1 H;obtain⟨h,H⟩:=Q0a.prop.1 H;exact⟨q,mem,h.1,h.2,H⟩
theorem Q1s [Q0i] {w:World} {p:Nat} {s:CS} {fr:List Q0e} {q:Ptr} {mem:List Nat} (h:WF s) (hm:Q4p s mem)
  (H:Q0a w (Q7x p q::IMG q.ip q.sp q.bp::Q5v q.bp s.lays::ST q.sp s.size mem s.own::TAB q.tp s.tab::TRE q.trp s.last s.par::RS q.rp s.rem::mp (ki .i64) Q6v q.sm (s.sps.map Q4q)::star (s.sps.map (Q4r q.sp))::mp (ki .i64) Q6v q.mm (s.mns.map Q3p)::star (s.mns.map Q4a)::fr)):Q0a w (Q2z p s::fr):=
 Q0a.ex.2 ⟨(q,mem),Q0a.star.2 (Q0a.prop.2 ⟨⟨h,hm⟩,H⟩)⟩
def Q4d (s:CS) (e:Ent):Lay:=(s.lays[e.lay - 1]?).getD ⟨0,[],0,[]⟩
def Q9d (w:Nat):Lnk:=if w=0 then .none else if w=1 then .grave else .obj (w % 4294967296 - 2) (w / 4294967296)
theorem G1p {x:Nat} (h0:x≠0) (h1:x≠1):Q9d x = .obj (x % 4294967296 - 2) (x / 4294967296):=by
 unfold Q9d;rw[if_neg h0,if_neg h1]
theorem Y8d {i g:Nat} (h:i < 4096):(i+2+g*4294967296) % 4294967296 - 2=i∧(i+2+g*4294967296) / 4294967296=g:=by omega
theorem Y8e {i g:Nat} (h1:i < 4096):Q9d (Q3v (.obj i g)) = .obj i g:=by
 rw[V3z,G1p (by omega) (by omega),(Y8d h1).1,(Y8d h1).2]
theorem Y2z {k:Lnk} (h:okL k):Q9d (Q3v k)=k:=by
 cases k with
 | none=>rfl
 | grave=>rfl
 | obj i g=>exact Y8e h.1
theorem V4q {s:CS} (h:WF s) {mem:List Nat} (m:Q4p s mem) {k g:Nat} {e:Ent} (hk:s.tab[k]? = some ⟨g,some e⟩):V9i s.lays s.size mem s.own e.addr e.lay e.count k e.ws.length (Q4d s e):=by
 obtain⟨⟨hm,l,h1,h2,h3,h4⟩,hl,_⟩:=h.obj k g e hk;have hle:Q4d s e=l:=by unfold Q4d;rw[h1];rfl
 rw[hle];refine⟨hm,h1,h2,h3,?_,?_,?_⟩
 ·rw[List.getD_eq_getElem?_getD,m.head _ _ _ hk,Option.getD_some]
 ·have:=hl.1;unfold Q1q at this;rw[m.len];exact this
 ·intro c c1 c2;obtain⟨r,hr,_,hr1⟩:=hl.2 c c1 (by rw[show e.addr+(e.ws.length+1) - 1=e.addr+e.ws.length by omega] at c2;exact c2);rw[List.getD_eq_getElem?_getD,hr];show r≠0;omega
theorem Z1u {s:CS} (h:WF s) {mem:List Nat} (m:Q4p s mem) {k g:Nat} {e:Ent} (hk:s.tab[k]? = some ⟨g,some e⟩) {p:Nat} (hp:p < e.ws.length):mem.getD (e.addr+1+p) 0=e.ws.getD p 0:=by
 have hx:=List.getElem?_eq_getElem hp;rw[List.getD_eq_getElem?_getD,List.getD_eq_getElem?_getD,m.words _ _ _ hk p _ hx,hx]
theorem G1q {s:CS} (h:WF s) {k g:Nat} {e:Ent} (hk:s.tab[k]? = some ⟨g,some e⟩) {p:Nat} (hp:p < e.ws.length) (hr:Q2h (Q4d s e) p=true):okL (Q9d (e.ws.getD p 0))∧e.ws.getD p 0=Q3v (Q9d (e.ws.getD p 0)):=by
 obtain⟨⟨hm,l,h1,h2,h3,h4⟩,hl,_⟩:=h.obj k g e hk;have hle:Q4d s e=l:=by unfold Q4d;rw[h1];rfl
 rw[hle] at hr;have hx:=List.getElem?_eq_getElem hp;obtain⟨q,hq,hw⟩:=(h4 p _ hx).2 hr;have hd:e.ws.getD p 0=Q3v q:=by rw[List.getD_eq_getElem?_getD,hx,Option.getD_some];exact hw
 rw[hd,Y2z hq];exact⟨hq,rfl⟩
def U9i:Option (Nat×Ent)→Value
 | some (_,e) => .tuple #[.agg (evl e).toArray,.int .i64 0]
 | none => .tuple #[.agg #[.int .i64 0,.int .i64 0,.bool false,.bool false],.int .i64 8]
theorem V1f (o:Option (Nat×Ent)):∃ e1 e2 h1 h2 e4,U9i o = .tuple #[.agg #[.int .i64 e1,.int .i64 e2,.bool h1,.bool h2],.int .i64 e4]:=by
 cases o <;> exact⟨_,_,_,_,_,rfl⟩
theorem Q2i [Q0i] (p:Nat) (ts:List Slt) (i g:Int) {w:World} {fr:List Q0e} (H:Q0a w (TAB p ts::fr)) :
  Calls Tryz.prog 68 #[pp p,Y2y i g] w (ret fun v w'=>v=U9i (Q2o ts i g)∧Q0a w' (TAB p ts::fr)):=
 call (G1n p ts i g H) fun v w h=>⟨by rw[h.1];cases Q2o ts i g <;> rfl,h.2⟩
theorem Y3a [Q0i] (p:Nat) (s:CS) (i g:Int) {w:World} {fr:List Q0e} (H:Q0a w (Q2z p s::fr)) :
  Calls Tryz.prog 94 #[pp p,Y2y i g] w (ret fun v w'=>v=U9i (Q1p s.tab i g)∧Q0a w' (Q2z p s::fr)):=by
 obtain⟨q,mem,hw,hm,H⟩:=Q1u H;refine Q0c Tryz.func94 rfl (by kernel_rfl) ?_;refine J8 H ?_;clear H;intro b3 w H;refine J12 H ?_;clear H;intro b4 w H;refine U2k H ?_;obtain⟨e1,e2,h1,h2,e4,hsh⟩:=V1f (Q2o s.tab i g);refine J7 H ?_
 refine Q1m (fun ms σ w=>ms=[]∧∃ b6,σ 4=pp b4∧σ 6=pp b6∧σ 7 = .int .i64 e4 ∧
  Q0a w (pts b4 (row 113 [.int .i64 0,.int .i64 0,.bool false,.bool false])::pts b6 (row 113 [.int .i64 e1,.int .i64 e2,.bool h1,.bool h2])::Q2z p s::fr)) ?_ ?_
 ·replace H:=Js [6,0,0,0,0,0,0,0,0,0,0,0,0] 0 H;refine J1 H ?_;clear H;intro w H;refine G8n H ?_;refine Jw 5 9 H rfl rfl (Q1h (a:=[]) (b:=[]) rfl rfl (call (Q2i q.tp s.tab i g H) ?_)) (Q1x H rfl ?_)
  ·clear H;rintro v w ⟨rfl,H⟩;rw[hsh];refine G8o H ?_;clear H;intro b6 w H;refine G8p H ?_;clear H;intro w H;refine J41 H ?_;replace H:=Js [4,4,4,4,1,3,3,3,3,3,3,1,0] 1 H;refine⟨rfl,rfl,b6,rfl,rfl,rfl,?_⟩;replace H:=Q1s hw hm H;replace H:=Js [1,1,0] 0 H;exact H
  ·clear H;intro b6 w H;refine Jo 5 H ?_;refine Jk rfl rfl (Q2i q.tp s.tab i g H.swap) ?_;clear H;rintro v w ⟨rfl,H⟩;rw[hsh];refine G8q H ?_;clear H;intro w H;refine J41 H ?_;replace H:=Js [4,4,4,4,0,3,3,3,3,3,3,1,0] 1 H;refine⟨rfl,rfl,b6,rfl,rfl,rfl,?_⟩;replace H:=Q1s hw hm H;replace H:=Js [1,1,0] 0 H;exact H
 ·clear H;rintro ms σ w ⟨rfl,b6,g4,g6,g7,H⟩;rw[Q0b g4,Q0b g6,Q0b g7];have hv:Q1p s.tab i g=(match Q2o s.tab i g with|some (k,e)=>if e.held then some (k,e) else none|none=>none):=rfl;cases hL:Q2o s.tab i g with
  | none=>
   rw[hL] at hsh hv;have hv:Q1p s.tab i g=none:=hv;rw[hv];cases hsh;refine J15 H ?_;refine G8j H ?_;refine U2d H ?_;clear H;intro w H;refine J0 H ?_;exact Q0g (Jz H (fun w' H' => .cellN H' rfl (by repeat first|exact .nil _|apply Q0o.cons rfl) (.tmp .nil)) fun w' H'=>⟨rfl,H'.drop.drop⟩)
  | some x=>
   obtain⟨k,e⟩:=x;obtain⟨ea,er,eh,ep,el,ec,ew⟩:=e;rw[hL] at hsh hv;cases hsh;cases eh with
   | true=>
    have hv:Q1p s.tab i g=some (k,⟨ea,er,true,ep,el,ec,ew⟩):=hv;rw[hv];refine J15 H ?_;refine J34 H ?_;refine J17 H ?_;refine J87 H ?_;clear H;intro w H;refine J0 H ?_;exact Q0g (Jz H (fun w' H' => .cellN H' rfl (by repeat first|exact .nil _|apply Q0o.cons rfl) (.tmp .nil)) fun w' H'=>⟨rfl,H'.drop.drop⟩)
   | false=>
    have hv:Q1p s.tab i g=none:=hv;rw[hv];refine J15 H ?_;refine J34 H ?_;refine U2d H ?_;clear H;intro w H;refine J0 H ?_;exact Q0g (Jz H (fun w' H' => .cellN H' rfl (by repeat first|exact .nil _|apply Q0o.cons rfl) (.tmp .nil)) fun w' H'=>⟨rfl,H'.drop.drop⟩)
end Go.Proofs.YtmjdnljneifpcaaGreatDoor
namespace Go.Proofs.YtmjdnljneifpcaaGreatDoor
open Go.SL
theorem Q8q [Q0i] (p:Nat) (s:CS) (i g:Int) (f:FuncId) (cs:List Value) [Q0p Tryz.prog f] (R:Value→World→Prop) (fr:List Q0e)
  (hno:Q1p s.tab i g=none→∀ w,Q0a w (Q2z p s::fr)→R (.int .i64 8) w)
  (hyes:∀ k e,Q1p s.tab i g=some (k,e)→∀ w,Q0a w (Q2z p s::fr)→Calls Tryz.prog f (.agg (evl e).toArray::cs).toArray w (ret R)) {w:World} (H:Q0a w (Q2z p s::fr)) :
  Calls Tryz.prog 77 #[pp p,Y2y i g,.func (.func f) #[] cs.toArray] w (ret R):=by
 refine Q0c Tryz.func77 rfl (by kernel_rfl) ?_;refine J8 H ?_;clear H;intro b4 w H;refine G8l H ?_;refine Jc rfl rfl (Y3a p s i g H.swap) ?_;clear H;rintro v w ⟨rfl,H⟩;cases hv:Q1p s.tab i g with
 | none=>
  refine J16 H ?_;clear H;intro b7 w H;refine J4 H ?_;clear H;intro w H;refine U4x H ?_;replace H:=Js [1] 2 H;exact Q0g (Jy H rfl fun w' H'=>hno hv w' H')
 | some x=>
  obtain⟨k,e⟩:=x;refine J16 H ?_;clear H;intro b7 w H;refine J4 H ?_;clear H;intro w H;refine J23 H ?_;refine J42 H ?_;replace H:=Js [1] 2 H;refine Q0s rfl (Q1h (a:=[]) (b:=cs) rfl rfl (call (hyes k e hv w H) ?_));clear H;intro v w hr;refine V8p rfl rfl ?_;refine Q0h ?_;exact Q0g (Q9w (.inr rfl) rfl hr)
def Z1v (s:CS) (i g place:Int):Nat×Nat:=
 match Q1p s.tab i g with
 | none=>(0,8)
 | some (_,e)=>if Q0x (Q4d s e) e.ws.length place false=0 then (e.ws.getD place.toNat 0,0) else (0,Q0x (Q4d s e) e.ws.length place false)
theorem Y8f {s:CS} {i g place:Int} (h:Q1p s.tab i g=none):Z1v s i g place=(0,8):=by unfold Z1v;rw[h]
theorem V9s {s:CS} {i g place:Int} {k:Nat} {e:Ent} (h:Q1p s.tab i g=some (k,e)):Z1v s i g place=if Q0x (Q4d s e) e.ws.length place false=0 then (e.ws.getD place.toNat 0,0) else (0,Q0x (Q4d s e) e.ws.length place false):=by unfold Z1v;rw[h]
theorem Q3l {s:CS} {i g:Int} {k:Nat} {e:Ent} (h:Q1p s.tab i g=some (k,e)):∃ n:Nat,i=k∧g=n∧s.tab[k]? = some ⟨n,some e⟩∧e.held=true:=by
 obtain⟨h1,h2⟩:=Q3y.1 h;obtain⟨n,a,b,c⟩:=Q1k.1 h1;exact⟨n,a,b,c,h2⟩
theorem Z4x [Q0i] (p:Nat) (s:CS) (i g place:Int) {w:World} {fr:List Q0e} (H:Q0a w (Q2z p s::fr)) :
  Calls Tryz.prog 41 #[pp p,Y2y i g,.int .i64 place] w (ret fun v w'=>v = .tuple #[.int .u64 ((Z1v s i g place).1:Nat),.int .i64 ((Z1v s i g place).2:Nat)]∧Q0a w' (Q2z p s::fr)):=by
 refine Q0c Tryz.func41 rfl (by kernel_rfl) ?_;refine J30 H ?_;clear H;intro b3 w H;refine J64 H ?_;clear H;intro b4 w H;refine G5j H ?_;clear H;intro b5 w H;refine J2 H ?_;refine J24 H ?_;clear H;intro b8 w H;refine Q0h ?_;refine U9b H ?_;replace H:=Js [4,0,0,0,0] 0 H;refine Jc rfl rfl (Q8q p s i g 106 [pp b3,pp b5,pp b8] (fun v w'=>v = .int .i64 ((Z1v s i g place).2:Nat)∧Q0a w' (pts b8 (row 83 [.int .u64 ((Z1v s i g place).1:Nat)])::Q2z p s::fr)) _ ?_ ?_ H) ?_
 ·intro hv w H;rw[Y8f hv];replace H:=Js [1,0] 3 H;exact⟨rfl,H⟩
 ·intro k e hv w H;obtain⟨n,rfl,rfl,hk,hh⟩:=Q3l hv;obtain⟨q,mem,hw,hm,H⟩:=Q1u H;have hI:=V4q hw hm hk;refine Q0c Tryz.func106 rfl (by kernel_rfl) ?_;refine J8 H ?_;clear H;intro b4 w H;refine J0 H ?_;replace H:=Js [2,2,2,0,0,0,0,0,0,0,0,0,0,0,1] 1 H
  have hval:(if Q0x (Q4d s e) e.ws.length place false=0 then mem.getD (e.addr+1+place.toNat) 0 else 0)=(Z1v s k n place).1:=by
   rw[V9s hv];split
   ·rename_i h0;obtain⟨x,rfl,hx,_⟩:=Q3b h0;exact Z1u hw hm hk hx
   ·rfl
  have herr:Q0x (Q4d s e) e.ws.length place false=(Z1v s k n place).2:=by
   rw[V9s hv];split
   ·assumption
   ·rfl
  refine J1 H ?_;clear H;intro w H;refine Jl 0 [7,11] H ?_;refine J70 H ?_;refine Jl 3 [7,11] H ?_;refine Jf 4 ?_;refine Jl 5 [7,11] H ?_;refine Jl 6 [7,11] H ?_;refine Jo 7 H ?_;refine Jk rfl rfl (G1e q.ip q.sp q.bp s.size s.lays mem s.own e.addr e.lay e.count k e.ws.length (Q4d s e) hI place H) ?_;clear H;rintro v w ⟨rfl,H⟩;rw[hval,herr];refine J94 H ?_;refine Jo 11 H ?_;refine J55 H ?_;clear H;intro w H;refine J58 H ?_;refine J3 H ?_;replace H:=Js [4,0,0,0,1,1,1,1,1,1,1,1] 3 H;replace H:=Q1s hw hm H;exact Q0g (Jy H.swap rfl fun w' H'=>⟨rfl,H'⟩)
 ·clear H;rintro v w ⟨rfl,H⟩;refine J0 H ?_;refine J50 H ?_;refine U2a H ?_;exact Q0g (Jy H rfl fun w' H'=>⟨rfl,H'.drop⟩)
end Go.Proofs.YtmjdnljneifpcaaGreatDoor
namespace Go.Proofs.YtmjdnljneifpcaaGreatDoor
open Go.SL
theorem G1r {s:CS} (h:WF s) {k g:Nat} {e:Ent} (hk:s.tab[k]? = some ⟨g,some e⟩):s.lays[e.lay - 1]? = some (Q4d s e):=by
 obtain⟨⟨hm,l,h1,h2,h3,h4⟩,hl,_⟩:=h.obj k g e hk;rw[h1];unfold Q4d;rw[h1];rfl
theorem G1s {ts:List Slt} {k:Nat} {t t':Slt} (hk:ts[k]? = some t) (h:V2x t'=V2x t):(ts.set k t').flatMap V2x=ts.flatMap V2x:=by
 rw[set_split hk]
 conv=>rhs;rw[split_at hk]
 simp[h]
theorem V9t [Q0i] {w:World} {p:Nat} {ts:List Slt} {l:List Q0e} {k g:Nat} {e e':Ent} (hk:ts[k]? = some ⟨g,some e⟩) (he:evl e'=evl e) (H:Q0a w (TAB p ts::l)):Q0a w (TAB p (ts.set k ⟨g,some e'⟩)::l):=by
 obtain⟨b,c,s,u,x,hok,hc,H,hclose⟩:=V2y H
 have hv:V2x ⟨g,some e'⟩=V2x ⟨g,some e⟩:=by
  show Value.int .i64 g :: .bool true::evl e' = .int .i64 g :: .bool true::evl e;rw[he]
 refine hclose _ _ (ts.set k ⟨g,some e'⟩) x (by simp) (V4p hk rfl) (hok.set hk rfl (by have:=hok.gen _ _ hk;exact this)) ?_;rw[G1s hk hv];exact H
def V5x (s:CS) (i g place:Int) (x:Nat):CS×Nat:=
 match Q1p s.tab i g with
 | none=>(s,8)
 | some (k,e)=>if Q0x (Q4d s e) e.ws.length place false=0 then (Q9b s k g.toNat { e with ws:=e.ws.set place.toNat x },0) else (s,Q0x (Q4d s e) e.ws.length place false)
theorem Q9h {s:CS} {i g place:Int} {x:Nat} (h:Q1p s.tab i g=none):V5x s i g place x=(s,8):=by unfold V5x;rw[h]
theorem Q9i {s:CS} {i g place:Int} {x k:Nat} {e:Ent} (h:Q1p s.tab i g=some (k,e)):V5x s i g place x=if Q0x (Q4d s e) e.ws.length place false=0 then (Q9b s k g.toNat { e with ws:=e.ws.set place.toNat x },0) else (s,Q0x (Q4d s e) e.ws.length place false):=by unfold V5x;rw[h]
theorem G5x [Q0i] (p:Nat) (s:CS) (i g place:Int) (x:Nat) (hx:x < 18446744073709551616) {w:World} {fr:List Q0e} (H:Q0a w (Q2z p s::fr)) :
  Calls Tryz.prog 165 #[pp p,Y2y i g,.int .i64 place,.int .u64 x] w (ret fun v w'=>v = .int .i64 ((V5x s i g place x).2:Nat)∧Q0a w' (Q2z p (V5x s i g place x).1::fr)):=by
 refine Q0c Tryz.func165 rfl (by kernel_rfl) ?_;refine J30 H ?_;clear H;intro b4 w H;refine J64 H ?_;clear H;intro b5 w H;refine G5j H ?_;clear H;intro b6 w H;refine G5j H ?_;clear H;intro b7 w H;refine U8e H ?_;replace H:=Js [4,0,0,0,0] 0 H;refine Jc rfl rfl (Q8q p s i g 232 [pp b4,pp b6,pp b7] (fun v w'=>v = .int .i64 ((V5x s i g place x).2:Nat)∧Q0a w' (Q2z p (V5x s i g place x).1::fr)) _ ?_ ?_ H) ?_
 ·intro hv w H;rw[Q9h hv];replace H:=Js [0] 4 H;exact⟨rfl,H⟩
 ·intro k e hv w H;obtain⟨n,rfl,rfl,hk,hh⟩:=Q3l hv;obtain⟨q,mem,hw,hm,H⟩:=Q1u H;have hI:=V4q hw hm hk;refine Q0c Tryz.func232 rfl (by kernel_rfl) ?_;refine J8 H ?_;clear H;intro b4 w H;refine J0 H ?_;replace H:=Js [2,2,2,0,0,0,0,0,0,0,0,0,0,0,1] 1 H;refine J1 H ?_;clear H;intro w H;refine Jl 0 [8] H ?_;refine J70 H ?_;refine Jl 3 [8] H ?_;refine Jf 4 ?_;refine Jl 5 [8] H ?_;refine Jl 6 [8] H ?_;refine Jl 7 [8] H ?_;refine Jo 8 H ?_;refine Jk rfl rfl (G1f q.ip q.sp q.bp s.size s.lays mem s.own e.addr e.lay e.count k e.ws.length (Q4d s e) hI place x H) ?_;clear H;rintro v w ⟨rfl,H⟩;refine Ja 9 ?_;refine Jx H ?_;replace H:=Js [4,0,0,0,1,1,1,1,1,1,1] 4 H;rw[Q9i hv];by_cases h0:Q0x (Q4d s e) e.ws.length place false=0
  ·obtain⟨y,rfl,hy,hr⟩:=Q3b h0;rw[if_pos h0] at H;rw[if_pos h0,h0];have hw':=Y5f (e':={ e with ws:=e.ws.set y x }) hw hk ⟨rfl,rfl,rfl,rfl,by show (e.ws.set y x).length=_;simp⟩ (V5q (hw.obj _ _ _ hk).1 (G1r hw hk) hx (fun h=>by rw[hr] at h;cases h));have hm':=V5p hw hm hk hy (x:=x);replace H:=Js [4,0,0,0,0,0,0,0,0,0,0] 0 H;replace H:=V9t (e':={ e with ws:=e.ws.set y x }) hk rfl H;replace H:=Js [1,1,1,1,0,0,0,0,0,0,0] 0 H;replace H:=Q1s hw' hm' H;exact Q0g (Jy H rfl fun w' H'=>⟨rfl,H'⟩)
  ·rw[if_neg h0] at H;rw[if_neg h0];replace H:=Q1s hw hm H;exact Q0g (Jy H rfl fun w' H'=>⟨rfl,H'⟩)
 ·clear H;rintro v w ⟨rfl,H⟩;refine J0 H ?_;exact Q0g (Jy H rfl fun w' H'=>⟨rfl,H'⟩)
def Q5u (s:CS) (i g place:Int):Lnk×Nat:=
 match Q1p s.tab i g with
 | none=>(.none,8)
 | some (_,e)=>if Q0x (Q4d s e) e.ws.length place true=0 then (Q9d (e.ws.getD place.toNat 0),0) else (.none,Q0x (Q4d s e) e.ws.length place true)
theorem V5y {s:CS} {i g place:Int} (h:Q1p s.tab i g=none):Q5u s i g place=(.none,8):=by unfold Q5u;rw[h]
theorem Q9j {s:CS} {i g place:Int} {k:Nat} {e:Ent} (h:Q1p s.tab i g=some (k,e)):Q5u s i g place=if Q0x (Q4d s e) e.ws.length place true=0 then (Q9d (e.ws.getD place.toNat 0),0) else (.none,Q0x (Q4d s e) e.ws.length place true):=by unfold Q5u;rw[h]
theorem V1g [Q0i] (p:Nat) (s:CS) (i g place:Int) {w:World} {fr:List Q0e} (H:Q0a w (Q2z p s::fr)) :
  Calls Tryz.prog 33 #[pp p,Y2y i g,.int .i64 place] w (ret fun v w'=>v = .tuple #[lkv (Q5u s i g place).1,.int .i64 ((Q5u s i g place).2:Nat)]∧Q0a w' (Q2z p s::fr)):=by
 obtain⟨a1,a2,a3,hkv⟩:=Q5t (Q5u s i g place).1;rw[hkv];refine Q0c Tryz.func33 rfl (by kernel_rfl) ?_;refine J30 H ?_;clear H;intro b3 w H;refine J64 H ?_;clear H;intro b4 w H;refine G5j H ?_;clear H;intro b5 w H;refine J12 H ?_;clear H;intro b6 w H;refine J0 H ?_;refine J24 H ?_;clear H;intro b8 w H;refine Q0h ?_;refine U9b H ?_;replace H:=Js [5,0,0,0,0,0] 0 H;refine Jc rfl rfl (Q8q p s i g 96 [pp b3,pp b5,pp b8] (fun v w'=>v = .int .i64 ((Q5u s i g place).2:Nat)∧Q0a w' (pts b8 (row 88 [.int .i64 a1,.int .i64 a2,.int .i64 a3])::pts b6 (row 88 [.int .i64 0,.int .i64 0,.int .i64 0])::Q2z p s::fr)) _ ?_ ?_ H) ?_
 ·intro hv w H;rw[V5y hv] at hkv ⊢;cases hkv;replace H:=Js [1,1,0] 3 H;exact⟨rfl,H⟩
 ·intro k e hv w H;obtain⟨n,rfl,rfl,hk,hh⟩:=Q3l hv;obtain⟨q,mem,hw,hm,H⟩:=Q1u H;have hI:=V4q hw hm hk;refine Q0c Tryz.func96 rfl (by kernel_rfl) ?_;refine J8 H ?_;clear H;intro b4 w H;refine J0 H ?_;replace H:=Js [2,2,2,0,0,0,0,0,0,0,0,0,0,0,0,1] 1 H
  have hlk:lkv (Q5u s k n place).1=lkv (if Q0x (Q4d s e) e.ws.length place true=0 then Q9d (e.ws.getD place.toNat 0) else .none):=by
   rw[Q9j hv];split <;> rfl
  have herr:Q0x (Q4d s e) e.ws.length place true=(Q5u s k n place).2:=by
   rw[Q9j hv];split
   ·assumption
   ·rfl
  have hlf:Q0x (Q4d s e) e.ws.length place true=0→okL (if Q0x (Q4d s e) e.ws.length place true=0 then Q9d (e.ws.getD place.toNat 0) else .none)∧mem.getD (e.addr+1+place.toNat) 0=Q3v (if Q0x (Q4d s e) e.ws.length place true=0 then Q9d (e.ws.getD place.toNat 0) else .none):=fun h0=>by
   obtain⟨y,hpy,hy,hr⟩:=Q3b h0;rw[if_pos h0,hpy,Int.toNat_natCast,Z1u hw hm hk hy];exact G1q hw hk hy hr
  have hF:=fun (w:World) (fr:List Q0e) (H:Q0a w (IMG q.ip q.sp q.bp::Q5v q.bp s.lays::ST q.sp s.size mem s.own::fr))=>V9j q.ip q.sp q.bp s.size s.lays mem s.own e.addr e.lay e.count k e.ws.length (Q4d s e) hI place (if Q0x (Q4d s e) e.ws.length place true=0 then Q9d (e.ws.getD place.toNat 0) else .none) hlf (fun h0=>if_neg h0) H;rw[← hlk,hkv] at hF;refine J1 H ?_;clear H;intro w H;refine Jl 0 [7,11] H ?_;refine J70 H ?_;refine Jl 3 [7,11] H ?_;refine Jf 4 ?_;refine Jl 5 [7,11] H ?_;refine Jl 6 [7,11] H ?_;refine Jo 7 H ?_;refine Jk rfl rfl (hF _ _ H) ?_;clear H;rintro v w ⟨rfl,H⟩;rw[herr];refine J94 H ?_;refine G9t H ?_;clear H;intro w H;refine J58 H ?_;refine J3 H ?_;replace H:=Js [4,0,0,0,1,1,1,1,1,1,1,1,1] 3 H;replace H:=Q1s hw hm H;replace H:=Js [1,1,0] 0 H;exact Q0g (Jy H rfl fun w' H'=>⟨rfl,H'⟩)
 ·clear H;rintro v w ⟨rfl,H⟩;refine J0 H ?_;refine J95 H ?_;clear H;intro w H;refine J0 H ?_;replace H:=Js [1,1] 1 H;exact Q0g (Jz H (fun w' H' => .cellN H' rfl (by repeat first|exact .nil _|apply Q0o.cons rfl) (.tmp .nil)) fun w' H'=>⟨rfl,H'.drop⟩)
end Go.Proofs.YtmjdnljneifpcaaGreatDoor
namespace Go.Proofs.YtmjdnljneifpcaaGreatDoor
open Go.SL
def V5z (s:CS) (i g:Int):CS×Nat:=
 match Q1p s.tab i g with
 | none=>(s,8)
 | some (k,e)=>(Q9b s k g.toNat { e with held:=false },0)
theorem Q9k {s:CS} {i g:Int} (h:Q1p s.tab i g=none):V5z s i g=(s,8):=by unfold V5z;rw[h]
theorem Q9l {s:CS} {i g:Int} {k:Nat} {e:Ent} (h:Q1p s.tab i g=some (k,e)):V5z s i g=(Q9b s k g.toNat { e with held:=false },0):=by unfold V5z;rw[h]
def Z7l (s:CS) (i g:Int) (on:Bool):CS×Nat:=
 match Q1p s.tab i g with
 | none=>(s,8)
 | some (k,e)=>if e.pinned=on then (s,7) else (Q9b s k g.toNat { e with pinned:=on },0)
theorem V1h {s:CS} {i g:Int} {on:Bool} (h:Q1p s.tab i g=none):Z7l s i g on=(s,8):=by unfold Z7l;rw[h]
theorem V1i {s:CS} {i g:Int} {on:Bool} {k:Nat} {e:Ent} (h:Q1p s.tab i g=some (k,e)):Z7l s i g on=if e.pinned=on then (s,7) else (Q9b s k g.toNat { e with pinned:=on },0):=by unfold Z7l;rw[h]
theorem V6a [Q0i] {w:World} {p:Nat} {s:CS} {fr:List Q0e} {q:Ptr} {mem:List Nat} (hw:WF s) (hm:Q4p s mem) {k n:Nat} {e e':Ent} (hk:s.tab[k]? = some ⟨n,some e⟩) (a:Y5e e e') (hws:e'.ws=e.ws)
  (H:Q0a w (Q7x p q::IMG q.ip q.sp q.bp::Q5v q.bp s.lays::ST q.sp s.size mem s.own::TAB q.tp (s.tab.set k ⟨n,some e'⟩)::TRE q.trp s.last s.par::RS q.rp s.rem::mp (ki .i64) Q6v q.sm (s.sps.map Q4q)::star (s.sps.map (Q4r q.sp))::mp (ki .i64) Q6v q.mm (s.mns.map Q3p)::star (s.mns.map Q4a)::fr)) :
  Q0a w (Q2z p (Q9b s k n e')::fr):=
 Q1s (s:=Q9b s k n e') (Y5f hw hk a (Z1p (hw.obj _ _ _ hk).1 a hws)) (Z1o hw hm hk a hws) H
theorem G1t [Q0i] (p:Nat) (s:CS) (i g:Int) {w:World} {fr:List Q0e} (H:Q0a w (Q2z p s::fr)) :
  Calls Tryz.prog 171 #[pp p,Y2y i g] w (ret fun v w'=>v = .int .i64 ((V5z s i g).2:Nat)∧Q0a w' (Q2z p (V5z s i g).1::fr)):=by
 refine Q0c Tryz.func171 rfl (by kernel_rfl) ?_;refine J30 H ?_;clear H;intro b2 w H;refine J64 H ?_;clear H;intro b3 w H;refine U8e H ?_;replace H:=Js [2,0,0] 0 H;refine Jc rfl rfl (Q8q p s i g 234 [pp b2,pp b3] (fun v w'=>v = .int .i64 ((V5z s i g).2:Nat)∧Q0a w' (Q2z p (V5z s i g).1::fr)) _ ?_ ?_ H) ?_
 ·intro hv w H;rw[Q9k hv];replace H:=Js [0] 2 H;exact⟨rfl,H⟩
 ·intro k e hv w H;obtain⟨n,rfl,rfl,hk,hh⟩:=Q3l hv;obtain⟨q,mem,hw,hm,H⟩:=Q1u H;refine Q0c Tryz.func234 rfl (by kernel_rfl) ?_;refine J8 H ?_;clear H;intro b3 w H;refine J0 H ?_;refine J39 H ?_;refine J56 H ?_;clear H;intro w H;refine Q0h ?_;replace H:=Js [5,0,0,0,0,0,0,0,0,0,0,0,0,0] 0 H;refine J1 H ?_;clear H;intro w H;refine Jl 0 [6] H ?_;refine J70 H ?_;refine Jl 3 [6] H ?_;refine U4o H ?_;refine U4n H ?_;refine Jk rfl rfl (V1e q.tp s.tab k n { e with held:=false } H) ?_;clear H;rintro v w (⟨k',e',hL,rfl,H⟩|⟨hL,rfl,H⟩)
  ·have hLk:=(Q3y.1 hv).1;rw[hLk] at hL;cases hL;refine Ja 7 ?_;refine Jx H ?_;replace H:=Js [2,2,2,2,0,1,1,1,1,1,1] 3 H;rw[Q9l hv];replace H:=V6a (e':={ e with held:=false }) hw hm hk ⟨rfl,rfl,rfl,rfl,rfl⟩ rfl H;exact Q0g (Jy H rfl fun w' H'=>⟨rfl,H'⟩)
  ·rw[(Q3y.1 hv).1] at hL;cases hL
 ·clear H;rintro v w ⟨rfl,H⟩;refine J0 H ?_;exact Q0g (Jy H rfl fun w' H'=>⟨rfl,H'⟩)
theorem G5y [Q0i] (p:Nat) (s:CS) (i g:Int) (on:Bool) {w:World} {fr:List Q0e} (H:Q0a w (Q2z p s::fr)) :
  Calls Tryz.prog 173 #[pp p,Y2y i g,.bool on] w (ret fun v w'=>v = .int .i64 ((Z7l s i g on).2:Nat)∧Q0a w' (Q2z p (Z7l s i g on).1::fr)):=by
 refine Q0c Tryz.func173 rfl (by kernel_rfl) ?_;refine J30 H ?_;clear H;intro b3 w H;refine J64 H ?_;clear H;intro b4 w H;refine G5j H ?_;clear H;intro b5 w H;refine U8e H ?_;replace H:=Js [3,0,0,0] 0 H;refine Jc rfl rfl (Q8q p s i g 235 [pp b5,pp b3,pp b4] (fun v w'=>v = .int .i64 ((Z7l s i g on).2:Nat)∧Q0a w' (Q2z p (Z7l s i g on).1::fr)) _ ?_ ?_ H) ?_
 ·intro hv w H;rw[V1h hv];replace H:=Js [0] 3 H;exact⟨rfl,H⟩
 ·intro k e hv w H;obtain⟨n,rfl,rfl,hk,hh⟩:=Q3l hv;obtain⟨q,mem,hw,hm,H⟩:=Q1u H;refine Q0c Tryz.func235 rfl (by kernel_rfl) ?_;refine J8 H ?_;clear H;intro b4 w H;refine G9s H ?_;refine J86 H ?_;refine Q0s rfl (V0t rfl rfl (.inl rfl) rfl ?_);refine Q0h ?_;rw[V1i hv];by_cases hp:e.pinned=on
  ·rw[show (e.pinned == on)=true by simp[hp],if_pos hp];refine J21 H ?_;replace H:=Js [1,1,1,1,1,1,1,1,1,1,1] 4 H;replace H:=Q1s hw hm H;exact Q0g (Jy H rfl fun w' H'=>⟨rfl,H'⟩)
  ·rw[show (e.pinned == on)=false by simp[hp],if_neg hp];refine J9 H ?_;refine J50 H ?_;refine J56 H ?_;clear H;intro w H;refine Q0h ?_;replace H:=Js [5,0,0,0,0,0,0,0,0,0,0,0,0,0,0] 0 H;refine J1 H ?_;clear H;intro w H;refine Jl 0 [6] H ?_;refine J70 H ?_;refine Jl 3 [6] H ?_;refine U4o H ?_;refine U4n H ?_;refine Jk rfl rfl (V1e q.tp s.tab k n { e with pinned:=on } H) ?_;clear H;rintro v w (⟨k',e',hL,rfl,H⟩|⟨hL,rfl,H⟩)
   ·have hLk:=(Q3y.1 hv).1;rw[hLk] at hL;cases hL;refine Ja 7 ?_;refine Jx H ?_;replace H:=Js [2,2,2,2,0,1,1,1,1,1,1] 4 H;replace H:=V6a (e':={ e with pinned:=on }) hw hm hk ⟨rfl,rfl,rfl,rfl,rfl⟩ rfl H;exact Q0g (Jy H rfl fun w' H'=>⟨rfl,H'⟩)
   ·rw[(Q3y.1 hv).1] at hL;cases hL
 ·clear H;rintro v w ⟨rfl,H⟩;refine J0 H ?_;exact Q0g (Jy H rfl fun w' H'=>⟨rfl,H'⟩)
@[reducible] def U9r (e:Ent):List Value:=[.int .i64 e.region,.int .i64 e.lay,.int .i64 e.count,.int .i64 e.ws.length,.bool e.pinned]
def U0o:Option (Nat×Ent)→Value
 | some (_,e) => .tuple #[.agg (U9r e).toArray,.int .i64 0]
 | none => .tuple #[.agg #[.int .i64 0,.int .i64 0,.int .i64 0,.int .i64 0,.bool false],.int .i64 8]
theorem G1u [Q0i] (p:Nat) (s:CS) (i g:Int) {w:World} {fr:List Q0e} (H:Q0a w (Q2z p s::fr)) :
  Calls Tryz.prog 26 #[pp p,Y2y i g] w (ret fun v w'=>v=U0o (Q1p s.tab i g)∧Q0a w' (Q2z p s::fr)):=by
 obtain⟨a1,a2,a3,a4,a5,a6,htv⟩:∃ a1 a2 a3 a4 a5 a6,U0o (Q1p s.tab i g) = .tuple #[.agg #[.int .i64 a1,.int .i64 a2,.int .i64 a3,.int .i64 a4,.bool a5],.int .i64 a6]:=by
  cases Q1p s.tab i g <;> exact⟨_,_,_,_,_,_,rfl⟩
 rw[htv];refine Q0c Tryz.func26 rfl (by kernel_rfl) ?_;refine J30 H ?_;clear H;intro b2 w H;refine J64 H ?_;clear H;intro b3 w H;refine J12 H ?_;clear H;intro b4 w H;refine J0 H ?_;refine J24 H ?_;clear H;intro b6 w H;refine Q0h ?_;refine U9b H ?_;replace H:=Js [4,0,0,0,0] 0 H;refine Jc rfl rfl (Q8q p s i g 78 [pp b2,pp b6] (fun v w'=>v = .int .i64 a6∧Q0a w' (pts b6 (row 71 [.int .i64 a1,.int .i64 a2,.int .i64 a3,.int .i64 a4,.bool a5])::pts b4 (row 71 [.int .i64 0,.int .i64 0,.int .i64 0,.int .i64 0,.bool false])::Q2z p s::fr)) _ ?_ ?_ H) ?_
 ·intro hv w H;rw[hv] at htv;cases htv;replace H:=Js [1,1,0] 2 H;exact⟨rfl,H⟩
 ·intro k e hv w H;rw[hv] at htv;cases htv;obtain⟨n,rfl,rfl,hk,hh⟩:=Q3l hv;obtain⟨q,mem,hw,hm,H⟩:=Q1u H;have hI:=V4q hw hm hk;have hml:=Z4u (H.pull 3);have hfit:=hI.fit;refine Q0c Tryz.func78 rfl (by kernel_rfl) ?_;refine J8 H ?_;clear H;intro b3 w H;refine J18 H ?_
  refine Q1m (fun ms σ w=>ms=[]∧∃ b5,σ 2=pp b6∧σ 3=pp b3∧σ 5=pp b5∧σ 6 = .int .i64 ((e.ws.length+1:Nat):Int)∧σ 7 = .int .i64 0 ∧
   Q0a w (pts b3 (row 113 (evl e))::pts b5 (row 115 [.int .i64 e.lay,.int .i64 e.count,.int .i64 k])::pts b6 (row 71 [.int .i64 0,.int .i64 0,.int .i64 0,.int .i64 0,.bool false])::pts b4 (row 71 [.int .i64 0,.int .i64 0,.int .i64 0,.int .i64 0,.bool false])::Q2z p s::fr)) ?_ ?_
  ·replace H:=Js [2,2,2,0,0,0,0,0,0,0,0,0,0,0,1] 1 H;refine J1 H ?_;clear H;intro w H;refine Jl 0 [6,12] H ?_;refine J70 H ?_;refine Jl 3 [6,12] H ?_;refine Jf 4 ?_;refine Jl 5 [6,12] H ?_;refine Jw 6 11 H rfl rfl (Q1h (a:=[]) (b:=[]) rfl rfl (call (V4h q.ip q.sp q.bp s.size s.lays mem s.own e.addr e.lay e.count k e.ws.length (Q4d s e) hI H) ?_)) (Q1x H rfl ?_)
   ·clear H;rintro v w ⟨rfl,H⟩;refine U8f H ?_;refine U4z H ?_;clear H;intro b5 w H;refine J80 H ?_;clear H;intro w H;refine U2u H ?_;replace H:=Js [5,1,1,1,2,2,2,2,2,2,2,1,0,0,0] 1 H;replace H:=Q1s hw hm H;replace H:=Js [1,1,1,1,0] 0 H;exact⟨rfl,rfl,b5,rfl,rfl,rfl,rfl,rfl,H⟩
   ·clear H;intro b5 w H;replace H:=Js [1,1,1,0] 0 H;refine Jo 6 H ?_;refine Jk rfl rfl (V4h q.ip q.sp q.bp s.size s.lays mem s.own e.addr e.lay e.count k e.ws.length (Q4d s e) hI H) ?_;clear H;rintro v w ⟨rfl,H⟩;refine U8f H ?_;refine J80 H ?_;clear H;intro w H;refine U2u H ?_;replace H:=Js [5,0,0,0,2,2,2,2,2,2,2,1,0,0,0] 1 H;replace H:=Q1s hw hm H;replace H:=Js [1,1,1,1,0] 0 H;exact⟨rfl,rfl,b5,rfl,rfl,rfl,rfl,rfl,H⟩
  ·clear H;rintro ms σ w ⟨rfl,b5,g2,g3,g5,g6,g7,H⟩;rw[Q0b g2,Q0b g3,Q0b g5,Q0b g6,Q0b g7];refine U4f H ?_;refine U7b H ?_;rw[Q1e (x:=((e.ws.length+1:Nat):Int) - 1) (by omega) (by omega),show ((e.ws.length+1:Nat):Int) - 1=(e.ws.length:Int) by omega];refine J45 H ?_;refine J48 H ?_;refine J4 H ?_;clear H;intro w H;refine J62 H ?_;replace H:=Js [2,2,2] 2 H;exact Q0g (Jy H rfl fun w' H'=>⟨rfl,H'⟩)
 ·clear H;rintro v w ⟨rfl,H⟩;refine J0 H ?_;refine J95 H ?_;clear H;intro w H;refine J0 H ?_;replace H:=Js [1,1] 1 H;exact Q0g (Jz H (fun w' H' => .cellN H' rfl (by repeat first|exact .nil _|apply Q0o.cons rfl) (.tmp .nil)) fun w' H'=>⟨rfl,H'.drop⟩)
end Go.Proofs.YtmjdnljneifpcaaGreatDoor
namespace Go.Proofs.YtmjdnljneifpcaaGreatDoor
open Go.SL
theorem V6b [Q0i] {w:World} {p:Nat} {m:List (Rf×Int)} {l:List Q0e} (H:Q0a w (RS p m::l)):(m.map (·.1)).Nodup:=by
 obtain⟨bt,bo,bf,H⟩:=Y2o H;exact Q5h bt H
theorem U5i [Q0i] (p:Nat) (s:CS) (k n:Nat) (e:Ent) (hk:s.tab[k]? = some ⟨n,some e⟩) {w:World} {fr:List Q0e} (H:Q0a w (Q2z p s::fr)) :
  Calls Tryz.prog 127 #[pp p,.int .i64 k] w (ret fun v w'=>v = .tuple #[.agg (evl e).toArray,.bool true]∧Q0a w' (Q2z p s::fr)):=by
 obtain⟨q,mem,hw,hm,H⟩:=Q1u H;have hL:Q2o s.tab k n=some (k,e):=Q1k.2 ⟨n,rfl,rfl,hk⟩;refine Q0c Tryz.func127 rfl (by kernel_rfl) ?_;refine J24 H ?_;clear H;intro b4 w H;refine U2k H ?_;refine J10 H ?_;replace H:=Js [5,0,0,0,0,0,0,0,0,0,0,0] 0 H;refine Jc rfl rfl (V8a q.tp s.tab k n e hk H) ?_;clear H;rintro v w ⟨rfl,H⟩;refine J16 H ?_;clear H;intro b6 w H;refine J4 H ?_;clear H;intro w H;refine J18 H ?_
 refine Q1m (fun ms σ w=>ms=[]∧∃ b8,σ 4=pp b4∧σ 7 = .bool true∧σ 8=pp b8 ∧
   Q0a w (pts b4 (row 113 [.int .i64 0,.int .i64 0,.bool false,.bool false])::pts b8 (row 113 (evl e))::Q2z p s::fr)) ?_ ?_
 ·replace H:=Js [1,0,0,0,0,0,0,0,0,0,0,0,0] 0 H;refine J1 H ?_;clear H;intro w H;refine G8n H ?_;refine Jw 5 9 H rfl rfl (Q1h (a:=[]) (b:=[]) rfl rfl (call (Q2i q.tp s.tab k n H) ?_)) (Q1x H rfl ?_)
  ·clear H;rintro v w ⟨rfl,H⟩;rw[hL];refine G8o H ?_;clear H;intro b8 w H;refine G8p H ?_;clear H;intro w H;refine J41 H ?_;replace H:=Js [4,4,4,4,1,3,3,3,3,3,3,2,0] 1 H;replace H:=Q1s hw hm H;replace H:=Js [1,1,0] 0 H;exact⟨rfl,rfl,b8,rfl,rfl,rfl,H⟩
  ·clear H;intro b8 w H;refine Jo 5 H ?_;refine Jk rfl rfl (Q2i q.tp s.tab k n H.swap) ?_;clear H;rintro v w ⟨rfl,H⟩;rw[hL];refine G8q H ?_;clear H;intro w H;refine J41 H ?_;replace H:=Js [4,4,4,4,0,3,3,3,3,3,3,2,0] 1 H;replace H:=Q1s hw hm H;replace H:=Js [1,1,0] 0 H;exact⟨rfl,rfl,b8,rfl,rfl,rfl,H⟩
 ·clear H;rintro ms σ w ⟨rfl,b8,g4,g7,g8,H⟩;rw[Q0b g4,Q0b g7,Q0b g8];refine J95 H ?_;clear H;intro w H;refine J0 H ?_;exact Q0g (Jz H (fun w' H' => .cellN H' rfl (by repeat first|exact .nil _|apply Q0o.cons rfl) (.tmp .nil)) fun w' H'=>⟨rfl,H'.drop.drop⟩)
def Q7w (s:CS) (k:Nat) (e:Ent) (place:Int) (l:Lnk):List (Rf×Int):=
 match l with
 | .obj a b=>match Q2o s.tab a b with
  | some (_,f)=>if f.region≠e.region then ins (era s.rem ((k:Int),place)) ((k:Int),place) (a:Int) else era s.rem ((k:Int),place)
  | none=>era s.rem ((k:Int),place)
 | _=>era s.rem ((k:Int),place)
theorem V2z {s:CS} {k a b:Nat} {e:Ent} {place:Int} (h:Q2o s.tab a b=none):Q7w s k e place (.obj a b)=era s.rem ((k:Int),place):=by
 show (match Q2o s.tab a b with|some (_,f)=>if f.region≠e.region then ins (era s.rem ((k:Int),place)) ((k:Int),place) (a:Int) else era s.rem ((k:Int),place)|none=>era s.rem ((k:Int),place))=_;rw[h]
theorem Q9m {s:CS} {k a b kk:Nat} {e f:Ent} {place:Int} (h:Q2o s.tab a b=some (kk,f)):Q7w s k e place (.obj a b)=if f.region≠e.region then ins (era s.rem ((k:Int),place)) ((k:Int),place) (a:Int) else era s.rem ((k:Int),place):=by
 show (match Q2o s.tab a b with|some (_,f)=>if f.region≠e.region then ins (era s.rem ((k:Int),place)) ((k:Int),place) (a:Int) else era s.rem ((k:Int),place)|none=>era s.rem ((k:Int),place))=_;rw[h]
theorem Z7m [Q0i] (p:Nat) (s:CS) (k n:Nat) (e:Ent) (hk:s.tab[k]? = some ⟨n,some e⟩) (place:Int) (l:Lnk) {w:World} {fr:List Q0e} (H:Q0a w (Q2z p s::fr)) :
  Calls Tryz.prog 156 #[pp p,.int .i64 k,.int .i64 place,lkv l] w (ret fun v w'=>Q0a w' (Q2z p { s with rem:=Q7w s k e place l }::fr)):=by
 obtain⟨a1,a2,a3,hkv⟩:=Q5t l;rw[hkv];obtain⟨q,mem,hw,hm,H⟩:=Q1u H;have hnd:=V6b (H.pull 6);have hnd0:=hnd;refine Q0c Tryz.func156 rfl (by kernel_rfl) ?_;refine J8 H ?_;clear H;intro b7 w H;refine U0e H ?_;refine J48 H ?_;refine J12 H ?_;clear H;intro b8 w H;refine J4 H ?_;clear H;intro w H;refine Q0h ?_;replace H:=Js [8,0,0,0,0,0,0,0,0,0,0,0,0] 0 H;refine J1 H ?_;clear H;intro w H;refine U7j H ?_;refine Jk rfl rfl (V1c q.rp s.rem hnd ((k:Int),place) H) ?_;clear H;rintro v w ⟨rfl,H⟩;refine Jx H ?_;replace H:=Js [3,3,3,3,3,3,0,2,2,2,2,0,0] 0 H;have H:=Q1s (s:={ s with rem:=era s.rem ((k:Int),place) }) (Y2s hw _) (V4f hm _) H;clear hw hm;refine U2v H ?_
 have hcase:(a1≠2∧Q7w s k e place l=era s.rem ((k:Int),place))∨∃ a b:Nat,l = .obj a b∧a1=2∧a2=a∧a3=b:=by
  cases l with
  | none=>injection hkv with h;simp at h;exact .inl ⟨by omega,rfl⟩
  | grave=>injection hkv with h;simp at h;exact .inl ⟨by omega,rfl⟩
  | obj a b=>injection hkv with h;simp at h;exact .inr ⟨a,b,rfl,by omega,by omega,by omega⟩
 rcases hcase with ⟨h2,hn⟩|⟨a,b,rfl,rfl,rfl,rfl⟩
 ·rw[show (a1 != 2)=true by simpa using h2];refine J13 H ?_;rw[hn];replace H:=Js [0] 2 H;exact Q0g (Jy H rfl fun w' H'=>H')
 ·refine U2g H ?_;refine Jc rfl rfl (U5i p { s with rem:=era s.rem ((k:Int),place) } k n e hk H) ?_;clear H;rintro v w ⟨rfl,H⟩;refine J16 H ?_;clear H;intro b9 w H;refine J4 H ?_;clear H;intro w H;refine J0 H ?_;replace H:=Js [1,0,0,0] 0 H;obtain⟨q,mem,hw,hm,H⟩:=Q1u H;dsimp only at H;obtain⟨e1,e2,h1,h2,e4,hsh⟩:=V1f (Q2o s.tab a b);refine J7 H ?_
  refine Q1m (fun ms σ w=>ms=[]∧∃ b11,σ 0=pp p∧σ 7=pp b7∧σ 8=pp b8∧σ 9=pp b9∧σ 11=pp b11∧σ 12 = .int .i64 e4 ∧
    Q0a w (Q2z p { s with rem:=era s.rem ((k:Int),place) }::pts b11 (row 113 [.int .i64 e1,.int .i64 e2,.bool h1,.bool h2])::pts b9 (row 113 (evl e))::pts b8 (row 133 [.int .i64 k,.int .i64 place])::pts b7 (row 88 [.int .i64 2,.int .i64 a,.int .i64 b])::fr)) ?_ ?_
  ·replace H:=Js [4,0,0,0,0,0,0,0,0,0,0,0,0,0] 0 H;refine J1 H ?_;clear H;intro w H;refine U7s H ?_;refine U9c H ?_;refine Jw 6 10 H rfl rfl (Q1h (a:=[]) (b:=[]) rfl rfl (call (Q2i q.tp s.tab a b H) ?_)) (Q1x H rfl ?_)
   ·clear H;rintro v w ⟨rfl,H⟩;rw[hsh];refine U4p H ?_;clear H;intro b11 w H;refine G9t H ?_;clear H;intro w H;refine J58 H ?_;replace H:=Js [2,2,2,2,1,1,1,1,1,1,1,0,0,0,0] 0 H;have H:=Q1s (s:={ s with rem:=era s.rem ((k:Int),place) }) hw hm H;exact⟨rfl,rfl,b11,rfl,rfl,rfl,rfl,rfl,rfl,H⟩
   ·clear H;intro b11 w H;refine Jo 6 H ?_;refine Jk rfl rfl (Q2i q.tp s.tab a b H.swap) ?_;clear H;rintro v w ⟨rfl,H⟩;rw[hsh];refine U4q H ?_;clear H;intro w H;refine J58 H ?_;replace H:=Js [2,2,2,2,0,1,1,1,1,1,1,0,0,0,0] 0 H;have H:=Q1s (s:={ s with rem:=era s.rem ((k:Int),place) }) hw hm H;exact⟨rfl,rfl,b11,rfl,rfl,rfl,rfl,rfl,rfl,H⟩
  ·clear H;rintro ms σ w ⟨rfl,b11,g0,g7,g8,g9,g11,g12,H⟩;rw[Q0b g0,Q0b g7,Q0b g8,Q0b g9,Q0b g11,Q0b g12];cases hL:Q2o s.tab a b with
   | none=>
    have hn:Q7w s k e place (.obj a b)=era s.rem ((k:Int),place):=V2z hL;rw[hL] at hsh;cases hsh;rw[hn];refine J15 H ?_;refine U2b H ?_;refine Q3h rfl rfl rfl ?_;refine J17 H ?_;replace H:=Js [0] 4 H;exact Q2w _ (.inl rfl) H rfl fun w' H'=>H'
   | some x=>
    obtain⟨kk,f⟩:=x;rw[hL] at hsh;cases hsh;refine J15 H ?_;refine J53 H ?_;refine J34 H ?_;by_cases hr:f.region=e.region
    ·have hn:Q7w s k e place (.obj a b)=era s.rem ((k:Int),place):=by rw[Q9m hL];exact if_neg (by simpa using hr)
     rw[hn,show (f.region != e.region)=false by simpa using hr];refine J17 H ?_;replace H:=Js [0] 4 H;exact Q2w _ (.inl rfl) H rfl fun w' H'=>H'
    ·have hn:Q7w s k e place (.obj a b)=ins (era s.rem ((k:Int),place)) ((k:Int),place) (a:Int):=by rw[Q9m hL];exact if_pos hr
     rw[hn,show (f.region != e.region)=true by simpa using hr];refine J67 H ?_;obtain⟨q,mem,hw,hm,H⟩:=Q1u H;dsimp only at H;replace H:=Js [6,0,0,0,0,0,0,0,0,0,0,0,0,0,0] 0 H;have hnd:=V6b H;refine J1 H ?_;clear H;intro w H;refine U5a H ?_;refine Q1w 4 [8] H rfl (Q0n.none rfl) rfl (by repeat first|exact .nil _|apply Q0o.cons rfl) (by kernel_rfl) ?_;refine Jf 5 ?_;refine Jf 6 ?_;refine Jl 7 [8] H ?_;refine Jo 8 H ?_;refine Jk rfl rfl (Y7p q.rp _ hnd ((k:Int),place) a H) ?_;clear H;rintro v w ⟨rfl,H⟩;refine Jx H ?_
     have he:era (era s.rem ((k:Int),place)) ((k:Int),place)=era s.rem ((k:Int),place):=by
      refine V3l ?_;intro hmem;exact absurd rfl ((V3n hnd0).1 hmem).1
     rw[he] at H;replace H:=Js [1,1,1,1,1,1,0,0,0,0,0] 4 H;have H:=Q1s (s:={ s with rem:=ins (era s.rem ((k:Int),place)) ((k:Int),place) (a:Int) }) (Y2s hw _) (V4f hm _) H;exact Q2w _ (.inl rfl) H rfl fun w' H'=>H'
end Go.Proofs.YtmjdnljneifpcaaGreatDoor
namespace Go.Proofs.YtmjdnljneifpcaaGreatDoor
open Go.SL
def Z0p (s:CS) (i g place:Int) (l:Lnk):CS×Nat:=
 match Q1p s.tab i g with
 | none=>(s,8)
 | some (k,e)=>if Q0x (Q4d s e) e.ws.length place true=0 then ({ Q9b s k g.toNat { e with ws:=e.ws.set place.toNat (Q3v l) } with rem:=Q7w (Q9b s k g.toNat { e with ws:=e.ws.set place.toNat (Q3v l) }) k { e with ws:=e.ws.set place.toNat (Q3v l) } place l },0) else (s,Q0x (Q4d s e) e.ws.length place true)
theorem V1j {s:CS} {i g place:Int} {l:Lnk} (h:Q1p s.tab i g=none):Z0p s i g place l=(s,8):=by unfold Z0p;rw[h]
theorem Q8r {s:CS} {i g place:Int} {l:Lnk} {k:Nat} {e:Ent} (h:Q1p s.tab i g=some (k,e)):Z0p s i g place l=if Q0x (Q4d s e) e.ws.length place true=0 then ({ Q9b s k g.toNat { e with ws:=e.ws.set place.toNat (Q3v l) } with rem:=Q7w (Q9b s k g.toNat { e with ws:=e.ws.set place.toNat (Q3v l) }) k { e with ws:=e.ws.set place.toNat (Q3v l) } place l },0) else (s,Q0x (Q4d s e) e.ws.length place true):=by unfold Z0p;rw[h]
theorem Z4y [Q0i] (p:Nat) (s:CS) (i g place:Int) (l:Lnk) (hl:okL l) {w:World} {fr:List Q0e} (H:Q0a w (Q2z p s::fr)) :
  Calls Tryz.prog 95 #[pp p,Y2y i g,.int .i64 place,lkv l] w (ret fun v w'=>v = .int .i64 ((Z0p s i g place l).2:Nat)∧Q0a w' (Q2z p (Z0p s i g place l).1::fr)):=by
 obtain⟨a1,a2,a3,hkv⟩:=Q5t l;rw[hkv];refine Q0c Tryz.func95 rfl (by kernel_rfl) ?_;refine J30 H ?_;clear H;intro b4 w H;refine J64 H ?_;clear H;intro b5 w H;refine G5j H ?_;clear H;intro b6 w H;refine J64 H ?_;clear H;intro b7 w H;refine U8e H ?_;replace H:=Js [4,0,0,0,0] 0 H
 refine Q0s rfl (Q1h (a:=[]) (b:=[]) rfl rfl (call (Q8q p s i g 155 [pp b4,pp b6,pp b7] (fun v w'=>
   (Q1p s.tab i g=none∧v = .int .i64 8∧Q0a w' (Q2z p s::fr)) ∨
   (∃ k n e, Q1p s.tab i g = some (k, e) ∧ g = (n : Nat) ∧ i = (k : Nat) ∧ s.tab[k]? = some ⟨n, some e⟩ ∧ ((Q0x (Q4d s e) e.ws.length place true ≠ 0 ∧ v = .int .i64 (Q0x (Q4d s e) e.ws.length place true) ∧ Q0a w' (Q2z p s :: fr)) ∨
    (Q0x (Q4d s e) e.ws.length place true=0∧v = .int .i64 0∧Q0a w' (pts b4 (row 44 [pp p])::pts b5 (row 69 [.int .i64 i,.int .i64 g])::pts b6 (row 3 [.int .i64 place])::pts b7 (row 88 [.int .i64 a1,.int .i64 a2,.int .i64 a3])::Q2z p (Q9b s k n { e with ws:=e.ws.set place.toNat (Q3v l) })::fr))))) _ ?_ ?_ H) ?_))
 ·intro hv w H;replace H:=Js [0] 4 H;exact .inl ⟨hv,rfl,H⟩
 ·intro k e hv w H;obtain⟨n,rfl,rfl,hk,hh⟩:=Q3l hv;obtain⟨q,mem,hw,hm,H⟩:=Q1u H;have hI:=V4q hw hm hk;have hT:=fun (w:World) (fr:List Q0e) (H:Q0a w (IMG q.ip q.sp q.bp::Q5v q.bp s.lays::ST q.sp s.size mem s.own::fr))=>Y7r q.ip q.sp q.bp s.size s.lays mem s.own e.addr e.lay e.count k e.ws.length (Q4d s e) hI place l hl H;rw[hkv] at hT;refine Q0c Tryz.func155 rfl (by kernel_rfl) ?_;refine J8 H ?_;clear H;intro b4 w H;refine J0 H ?_;replace H:=Js [2,2,2,0,0,0,0,0,0,0,0,0,0,0,0,0] 0 H;refine J1 H ?_;clear H;intro w H;refine Jl 0 [8] H ?_;refine J70 H ?_;refine Jl 3 [8] H ?_;refine Jf 4 ?_;refine Jl 5 [8] H ?_;refine Jl 6 [8] H ?_;refine Q1w 7 [8] H rfl (Q0n.none rfl) rfl (by repeat first|exact .nil _|apply Q0o.cons rfl) (by kernel_rfl) ?_;refine Jo 8 H ?_;refine Jk rfl rfl (hT _ _ H) ?_;clear H;rintro v w ⟨rfl,H⟩;refine Ja 9 ?_;refine Jx H ?_;by_cases h0:Q0x (Q4d s e) e.ws.length place true=0
  ·obtain⟨y,rfl,hy,hr⟩:=Q3b h0;rw[if_pos h0] at H;rw[h0];have hwl:Q3v l < 18446744073709551616:=Z4l hl;have hw':=Y5f (e':={ e with ws:=e.ws.set y (Q3v l) }) hw hk ⟨rfl,rfl,rfl,rfl,by show (e.ws.set y (Q3v l)).length=_;simp⟩ (V5q (hw.obj _ _ _ hk).1 (G1r hw hk) hwl (fun _=>⟨l,hl,rfl⟩));have hm':=V5p hw hm hk hy (x:=Q3v l);replace H:=Js [5,4,0,0,0,1,1,1,1,1,1,4,3,2,1] 1 H;replace H:=V9t (e':={ e with ws:=e.ws.set y (Q3v l) }) hk rfl H;replace H:=Js [1,1,1,1,0,0,0,0,0,0,0,0,0,0,0] 0 H;replace H:=Q1s hw' hm' H;replace H:=Js [1,1,1,1,0] 0 H;exact Q0g (Jy H rfl fun w' H' => .inr ⟨k,n,e,hv,rfl,rfl,hk,.inr ⟨h0,rfl,H'⟩⟩)
  ·rw[if_neg h0] at H;replace H:=Js [4,0,0,0,1,1,1,1,1,1,1] 5 H;replace H:=Q1s hw hm H;exact Q0g (Jy H rfl fun w' H' => .inr ⟨k,n,e,hv,rfl,rfl,hk,.inl ⟨h0,rfl,H'⟩⟩)
 ·clear H;rintro v w (⟨hv,rfl,H⟩|⟨k,n,e,hv,rfl,rfl,hk,(⟨h0,rfl,H⟩|⟨h0,rfl,H⟩)⟩)
  ·rw[V1j hv];refine J23 H ?_;refine J3 H ?_;exact Q0g (Jy H rfl fun w' H'=>⟨rfl,H'⟩)
  ·rw[Q8r hv,if_neg h0];refine J22 H ?_;rw[show (((Q0x (Q4d s e) e.ws.length place true:Nat):Int) == 0)=false by simpa using h0];refine U3y H ?_;exact Q0g (Jy H rfl fun w' H'=>⟨rfl,H'⟩)
  ·rw[Q8r hv,if_pos h0,Int.toNat_natCast];have hN:=fun (w:World) (fr:List Q0e) (H:Q0a w (Q2z p (Q9b s k n { e with ws:=e.ws.set place.toNat (Q3v l) })::fr))=>Z7m p (Q9b s k n { e with ws:=e.ws.set place.toNat (Q3v l) }) k n { e with ws:=e.ws.set place.toNat (Q3v l) } (by show (s.tab.set k _)[k]? = _;simp[(List.getElem?_eq_some_iff.1 hk).1]) place l H;rw[hkv] at hN;refine J22 H ?_;refine J7 H ?_;refine Q1m (fun ms σ w=>ms=[]∧σ 9 = .int .i64 0∧Q0a w (Q2z p { Q9b s k n { e with ws:=e.ws.set place.toNat (Q3v l) } with rem:=Q7w (Q9b s k n { e with ws:=e.ws.set place.toNat (Q3v l) }) k { e with ws:=e.ws.set place.toNat (Q3v l) } place l }::fr)) ?_ ?_
   ·refine Q3g rfl ?_;refine J50 H ?_;refine J45 H ?_;refine J86 H ?_;refine G8k H ?_;replace H:=Js [4,0,0,0,0] 0 H;refine Jc rfl rfl (hN _ _ H) ?_;clear H;intro v w H;refine Q0h ?_;replace H:=Js [0] 4 H;exact⟨rfl,rfl,rfl,H⟩
   ·clear H;rintro ms σ w ⟨rfl,g9,H⟩;rw[Q0b g9];refine J3 H ?_;exact Q0g (Jy H rfl fun w' H'=>⟨rfl,H'⟩)
def V8b (s:CS) (i g place u v:Int):CS×Nat:=
 if (Q5u s i g place).2≠0 then (s,(Q5u s i g place).2)
 else if (Q1p s.tab u v).isNone then (s,8) else Z0p s i g place (.obj u.toNat v.toNat)
theorem G1v {s:CS} (h:WF s) {k g:Nat} {e:Ent} (hk:s.tab[k]? = some ⟨g,some e⟩):okT k g:=by
 have h1:=(List.getElem?_eq_some_iff.1 hk).1;have h2:=h.slots.2;have h3:=h.gen _ _ hk;exact⟨by omega,h3.2 rfl,h3.1⟩
theorem Y8g [Q0i] (p:Nat) (s:CS) (i g place u v:Int) {w:World} {fr:List Q0e} (H:Q0a w (Q2z p s::fr)) :
  Calls Tryz.prog 32 #[pp p,Y2y i g,.int .i64 place,Y2y u v] w (ret fun x w'=>x = .int .i64 ((V8b s i g place u v).2:Nat)∧Q0a w' (Q2z p (V8b s i g place u v).1::fr)):=by
 obtain⟨a1,a2,a3,hkv⟩:=Q5t (Q5u s i g place).1;refine Q0c Tryz.func32 rfl (by kernel_rfl) ?_;refine J8 H ?_;clear H;intro b5 w H;refine J64 H ?_;clear H;intro b7 w H;refine G8l H ?_;refine Jv ?_;replace H:=Js [2,0,0] 0 H;refine Jc rfl rfl (V1g p s i g place H) ?_;clear H;rintro v w ⟨rfl,H⟩;rw[hkv];refine J16 H ?_;clear H;intro b9 w H;refine J4 H ?_;clear H;intro w H;refine J22 H ?_;by_cases h0:(Q5u s i g place).2=0
 ·have hT:V8b s i g place u v=if (Q1p s.tab u v).isNone then (s,8) else Z0p s i g place (.obj u.toNat v.toNat):=by unfold V8b;rw[if_neg (by simpa using h0)]
  rw[hT,h0];refine J9 H ?_;refine J42 H ?_;replace H:=Js [1,0,0,0] 0 H;refine Jc rfl rfl (Y3a p s u v H) ?_;clear H;rintro v w ⟨rfl,H⟩;cases hv:Q1p s.tab u v with
  | none=>
   refine J16 H ?_;clear H;intro b11 w H;refine J4 H ?_;clear H;intro w H;refine U4x H ?_;replace H:=Js [1] 4 H;exact Q0g (Jy H rfl fun w' H'=>⟨rfl,H'⟩)
  | some x=>
   obtain⟨k,f⟩:=x;obtain⟨n,rfl,rfl,hk,hh⟩:=Q3l hv
   have hok:okT k n:=by
    obtain⟨q,mem,hw,hm,_⟩:=Q1u (H.pull 0);exact G1v hw hk
   refine J16 H ?_;clear H;intro b11 w H;refine J4 H ?_;clear H;intro w H;refine J23 H ?_;refine U4y H ?_;refine G8k H ?_;refine J48 H ?_;replace H:=Js [1,0,0,0,0] 0 H;refine Jc rfl rfl (Z4y p s i g place (.obj k n) hok H) ?_;clear H;rintro v w ⟨rfl,H⟩;refine J0 H ?_;replace H:=Js [0] 4 H;exact Q0g (Jy H rfl fun w' H'=>⟨rfl,H'⟩)
 ·have hT:V8b s i g place u v=(s,(Q5u s i g place).2):=by unfold V8b;rw[if_pos h0]
  rw[hT];rw[show ((((Q5u s i g place).2:Nat):Int) != 0)=true by simpa using h0];refine J28 H ?_;replace H:=Js [1] 3 H;exact Q0g (Jy H rfl fun w' H'=>⟨rfl,H'⟩)
theorem G1w [Q0i] (p:Nat) (s:CS) (i g place:Int) {w:World} {fr:List Q0e} (H:Q0a w (Q2z p s::fr)) :
  Calls Tryz.prog 169 #[pp p,Y2y i g,.int .i64 place] w (ret fun x w'=>x = .int .i64 ((Z0p s i g place .none).2:Nat)∧Q0a w' (Q2z p (Z0p s i g place .none).1::fr)):=by
 refine Q0c Tryz.func169 rfl (by kernel_rfl) ?_;refine J8 H ?_;clear H;intro b4 w H;refine G8l H ?_;refine Jv ?_;refine J48 H ?_;refine Jc rfl rfl (Z4y p s i g place .none trivial H.swap) ?_;clear H;rintro v w ⟨rfl,H⟩;refine J0 H ?_;replace H:=Js [0] 1 H;exact Q0g (Jy H rfl fun w' H'=>⟨rfl,H'⟩)
end Go.Proofs.YtmjdnljneifpcaaGreatDoor
namespace Go.Proofs.YtmjdnljneifpcaaGreatDoor
open Go.SL
def Y5n (s:CS) (a b:Nat):CS:=
 match Q2o s.tab a b with
 | some (k,e)=>Q9b s k b { e with held:=true }
 | none=>s
theorem Q9n {s:CS} {a b:Nat} (h:Q2o s.tab a b=none):Y5n s a b=s:=by unfold Y5n;rw[h]
theorem Q9o {s:CS} {a b k:Nat} {e:Ent} (h:Q2o s.tab a b=some (k,e)):Y5n s a b=Q9b s k b { e with held:=true }:=by unfold Y5n;rw[h]
def Y3b (s:CS) (i g place:Int):CS:=
 match Q5u s i g place with
 | (.obj a b,0)=>Y5n s a b
 | _=>s
theorem G5z [Q0i] (p:Nat) (s:CS) (i g place:Int) {w:World} {fr:List Q0e} (H:Q0a w (Q2z p s::fr)) :
  Calls Tryz.prog 166 #[pp p,Y2y i g,.int .i64 place] w (ret fun v w'=>v = .tuple #[lkv (Q5u s i g place).1,.int .i64 ((Q5u s i g place).2:Nat)]∧Q0a w' (Q2z p (Y3b s i g place)::fr)):=by
 obtain⟨a1,a2,a3,hkv⟩:=Q5t (Q5u s i g place).1;rw[hkv];refine Q0c Tryz.func166 rfl (by kernel_rfl) ?_;refine J8 H ?_;clear H;intro b4 w H;refine J12 H ?_;clear H;intro b6 w H;refine G8l H ?_;refine Jv ?_;replace H:=Js [2,0,0] 0 H;refine Jc rfl rfl (V1g p s i g place H) ?_;clear H;rintro v w ⟨rfl,H⟩;rw[hkv];refine J16 H ?_;clear H;intro b8 w H;refine J4 H ?_;clear H;intro w H;refine J0 H ?_;replace H:=Js [1,0,0] 1 H;have fin:∀ (σ:Env) (w:World),σ 6=pp b6→σ 8=pp b8→σ 9 = .int .i64 ((Q5u s i g place).2:Nat)→Q0a w (Q2z p (Y3b s i g place)::pts b8 (row 88 [.int .i64 a1,.int .i64 a2,.int .i64 a3])::pts b6 (row 88 [.int .i64 0,.int .i64 0,.int .i64 0])::fr)→True:=fun _ _ _ _ _ _=>trivial;clear fin;generalize hq:Q5u s i g place=r at hkv H ⊢;obtain⟨k,er⟩:=r
 have hcase:(¬ (er=0∧a1=2)∧Y3b s i g place=s)∨∃ a b:Nat,k = .obj a b∧er=0∧a1=2∧a2=a∧a3=b∧Y3b s i g place=Y5n s a b:=by
  have hr:Y3b s i g place=(match (k,er) with|(.obj a b,0)=>Y5n s a b|_=>s):=by unfold Y3b;rw[hq]
  cases k with
  | none=>injection hkv with h;simp at h;exact .inl ⟨by omega,hr⟩
  | grave=>injection hkv with h;simp at h;exact .inl ⟨by omega,hr⟩
  | obj a b=>
   injection hkv with h
   simp at h;cases er with
   | zero=>exact .inr ⟨a,b,rfl,rfl,by omega,by omega,by omega,hr⟩
   | succ er=>exact .inl ⟨by omega,hr⟩
 rcases hcase with ⟨hno,hr⟩|⟨a,b,rfl,rfl,rfl,rfl,rfl,hr⟩
 ·rw[hr];refine J6 H ?_;by_cases h0:er=0
  ·subst h0;rw[show (((0:Nat):Int) == 0)=true from rfl];refine U1p H ?_;rw[show (a1 == 2)=false by simp;intro h;exact hno ⟨rfl,h⟩];refine J17 H ?_;refine J95 H ?_;clear H;intro w H;refine J0 H ?_;replace H:=Js [2,0] 1 H;exact Q0g (Jz H (fun w' H' => .cellN H' rfl (by repeat first|exact .nil _|apply Q0o.cons rfl) (.tmp .nil)) fun w' H'=>⟨rfl,H'.drop⟩)
  ·rw[show (((er:Nat):Int) == 0)=false by simpa using h0];refine U6w H ?_;refine J17 H ?_;refine J95 H ?_;clear H;intro w H;refine J0 H ?_;replace H:=Js [2,0] 1 H;exact Q0g (Jz H (fun w' H' => .cellN H' rfl (by repeat first|exact .nil _|apply Q0o.cons rfl) (.tmp .nil)) fun w' H'=>⟨rfl,H'.drop⟩)
 ·rw[hr];refine J15 H ?_;refine J34 H ?_;refine J0 H ?_;obtain⟨e1,e2,h1,h2,e4,hsh⟩:=V1f (Q2o s.tab a b);refine J7 H ?_;refine Q1m (fun ms σ w=>ms=[]∧σ 6=pp b6∧σ 8=pp b8∧σ 9 = .int .i64 0∧Q0a w (Q2z p (Y5n s a b)::pts b8 (row 88 [.int .i64 2,.int .i64 a,.int .i64 b])::pts b6 (row 88 [.int .i64 0,.int .i64 0,.int .i64 0])::fr)) ?_ ?_
  ·refine J13 H ?_;obtain⟨q,mem,hw,hm,H⟩:=Q1u H;refine J7 H ?_
   refine Q1m (fun ms σ w=>ms=[]∧∃ b10,σ 0=pp p∧σ 6=pp b6∧σ 8=pp b8∧σ 9 = .int .i64 0∧σ 10=pp b10 ∧
     Q0a w (pts b10 (row 113 [.int .i64 e1,.int .i64 e2,.bool h1,.bool h2])::Q2z p s::pts b8 (row 88 [.int .i64 2,.int .i64 a,.int .i64 b])::pts b6 (row 88 [.int .i64 0,.int .i64 0,.int .i64 0])::fr)) ?_ ?_
   ·replace H:=Js [4,0,0,0,0,0,0,0,0,0,0,0,0] 0 H;refine J1 H ?_;clear H;intro w H;refine U7s H ?_;refine U9c H ?_;refine Jw 6 10 H rfl rfl (Q1h (a:=[]) (b:=[]) rfl rfl (call (Q2i q.tp s.tab a b H) ?_)) (Q1x H rfl ?_)
    ·clear H;rintro v w ⟨rfl,H⟩;rw[hsh];refine U4p H ?_;clear H;intro b10 w H;refine G9t H ?_;clear H;intro w H;refine J58 H ?_;replace H:=Js [2,2,2,2,1,1,1,1,1,1,1,0,0,0] 0 H;have H:=Q1s hw hm H;exact⟨rfl,rfl,b10,rfl,rfl,rfl,rfl,rfl,H.swap⟩
    ·clear H;intro b10 w H;refine Jo 6 H ?_;refine Jk rfl rfl (Q2i q.tp s.tab a b H.swap) ?_;clear H;rintro v w ⟨rfl,H⟩;rw[hsh];refine U4q H ?_;clear H;intro w H;refine J58 H ?_;replace H:=Js [2,2,2,2,0,1,1,1,1,1,1,0,0,0] 0 H;have H:=Q1s hw hm H;exact⟨rfl,rfl,b10,rfl,rfl,rfl,rfl,rfl,H.swap⟩
   ·clear H;rintro ms σ w ⟨rfl,b10,g0,g6,g8,g9,g10,H⟩;rw[Q0b g0,Q0b g6,Q0b g8,Q0b g9,Q0b g10];refine J39 H ?_;refine J56 H ?_;clear H;intro w H;refine Q0h ?_;obtain⟨q,mem,hw,hm,H⟩:=Q1u H.swap;cases hL:Q2o s.tab a b with
    | none=>
     rw[hL] at hsh;cases hsh;rw[Q9n hL];replace H:=Js [4,0,0,0,0,0,0,0,0,0,0,0,0,0] 0 H;refine J1 H ?_;clear H;intro w H;refine Ja 0 ?_;refine Ja 1 ?_;refine Jf 2 ?_;refine Jl 3 [7] H ?_;refine Jf 4 ?_;refine U9d H ?_;refine U7k H ?_;refine Jk rfl rfl (V1e q.tp s.tab a b ⟨0,0,true,false,0,0,[]⟩ H) ?_;clear H;rintro v w (⟨k',e',hL',rfl,H⟩|⟨_,rfl,H⟩)
     ·rw[hL] at hL';cases hL'
     ·refine Jx H ?_;replace H:=Js [1,1,1,1,0,0,0,0,0,0,0,1,1] 1 H;have H:=Q1s hw hm H;exact⟨rfl,rfl,rfl,rfl,rfl,H⟩
    | some x=>
     obtain⟨kk,f⟩:=x;rw[hL] at hsh;cases hsh;rw[Q9o hL];obtain⟨n,hkk,hbn,hk⟩:=Q1k.1 hL;obtain rfl:a=kk:=by omega
     obtain rfl:b=n:=by omega
     replace H:=Js [4,0,0,0,0,0,0,0,0,0,0,0,0,0] 0 H;refine J1 H ?_;clear H;intro w H;refine Ja 0 ?_;refine Ja 1 ?_;refine Jf 2 ?_;refine Jl 3 [7] H ?_;refine Jf 4 ?_;refine U9d H ?_;refine U7k H ?_;refine Jk rfl rfl (V1e q.tp s.tab a b { f with held:=true } H) ?_;clear H;rintro v w (⟨k',e',hL',rfl,H⟩|⟨hL',rfl,H⟩)
     ·rw[hL] at hL';cases hL';refine Jx H ?_;replace H:=Js [1,1,1,1,0,0,0,0,0,0,0,1,1] 1 H;have H:=V6a (e':={ f with held:=true }) hw hm hk ⟨rfl,rfl,rfl,rfl,rfl⟩ rfl H;exact⟨rfl,rfl,rfl,rfl,rfl,H⟩
     ·rw[hL] at hL';cases hL'
  ·clear H;rintro ms σ w ⟨rfl,g6,g8,g9,H⟩;rw[Q0b g6,Q0b g8,Q0b g9];refine J95 H ?_;clear H;intro w H;refine J0 H ?_;replace H:=Js [2,0] 1 H;exact Q0g (Jz H (fun w' H' => .cellN H' rfl (by repeat first|exact .nil _|apply Q0o.cons rfl) (.tmp .nil)) fun w' H'=>⟨rfl,H'.drop⟩)
end Go.Proofs.YtmjdnljneifpcaaGreatDoor
namespace Go.Proofs.YtmjdnljneifpcaaGreatDoor
open Go.SL
def Z7n (s:CS) (ws:List Nat):CS×Nat×Nat:=
 match Q4k ws with
 | none=>(s,0,4)
 | some l=>if s.lays.length=64 then (s,0,5) else ({ s with lays:=s.lays++[l] },s.lays.length+1,0)
theorem V1k {s:CS} {ws:List Nat} (h:Q4k ws=none):Z7n s ws=(s,0,4):=by unfold Z7n;rw[h]
theorem Q9p {s:CS} {ws:List Nat} {l:Lay} (h:Q4k ws=some l):Z7n s ws=if s.lays.length=64 then (s,0,5) else ({ s with lays:=s.lays++[l] },s.lays.length+1,0):=by unfold Z7n;rw[h]
theorem Z1w {ws:List Nat} (h:ws.length≠3):Q4k ws=none:=by
 match ws with
 | []=>rfl
 | [_]=>rfl
 | [_,_]=>rfl
 | [_,_,_]=>exact absurd rfl h
 | _::_::_::_::_=>rfl
theorem Z7o [Q0i] (v:Value) (ws:List Nat) (hws:∀ x∈ws,x < 18446744073709551616) {w:World} {fr:List Q0e} [hT:Q4t 0 Lib.deBruijn64tab fr] (hr:RdS fr v ws.length 1 (Q1b ws)) (H:Q0a w fr) :
  Calls Tryz.prog 86 #[v] w (ret fun r w'=>(Q4k ws=none∧r = .tuple #[V9c 0 (.slice none 0 0) 0 (.slice none 0 0),.int .i64 4]∧Q0a w' fr) ∨
   ∃ l vr vq,Q4k ws=some l∧r = .tuple #[V9c l.fixed vr l.record vq,.int .i64 0]∧Q0a w' (NL vr l.refs::NL vq l.recs::fr)):=by
 by_cases h3:ws.length=3
 ·obtain⟨x,y,z,rfl⟩:∃ x y z,ws=[x,y,z]:=by
   match ws,h3 with
   | [x,y,z],_=>exact⟨x,y,z,rfl⟩
  exact Y7g v x y z (hws x (by simp)) (hws y (by simp)) (hws z (by simp)) hr H
 ·obtain⟨_,a,c,rfl,_⟩:=id hr;exact call (Z6p _ ws.length h3 ⟨a,c,rfl⟩ H) fun r w h => .inl ⟨Z1w h3,h.1,h.2⟩
theorem V9u [Q0i] (p:Nat) (s:CS) (v:Value) (ws:List Nat) (hws:∀ x∈ws,x < 18446744073709551616) {w:World} {fr:List Q0e} [hT:Q4t 0 Lib.deBruijn64tab fr] (hr:RdS fr v ws.length 1 (Q1b ws)) (H:Q0a w (Q2z p s::fr)) :
  Calls Tryz.prog 29 #[pp p,v] w (ret fun x w'=>x = .tuple #[.int .i64 ((Z7n s ws).2.1:Nat),.int .i64 ((Z7n s ws).2.2:Nat)]∧Q0a w' (Q2z p (Z7n s ws).1::fr)):=by
 obtain⟨_,av,cv,rfl,_⟩:=id hr;refine Q0c Tryz.func29 rfl (by kernel_rfl) ?_;refine U6s H ?_;refine J20 H ?_;refine Jc rfl rfl (Z7o _ ws hws hr.there H) ?_;clear H;rintro v w (⟨hd,rfl,H⟩|⟨l,vr,vq,hd,rfl,H⟩)
 ·rw[V1k hd];refine J16 H ?_;clear H;intro b6 w H;refine J4 H ?_;clear H;intro w H;refine U2w H ?_;replace H:=Js [1] 1 H;exact Q0g (Jy H rfl fun w' H'=>⟨rfl,H'⟩)
 ·obtain⟨aa,ma,rfl⟩:=Q0j H (Q0d _) (by decide);obtain⟨ab,mb,rfl⟩:=Q0j H.drop (Q0d _) (by decide);rw[Q9p hd];refine J16 H ?_;clear H;intro b6 w H;refine J4 H ?_;clear H;intro w H;refine J23 H ?_;replace H:=Js [3,0,0,0] 0 H;obtain⟨q,mem,hw,hm,H⟩:=Q1u H;have hR:=Y5a hd;replace H:=Js [12,12,2,0,0,0,0,0,0,0,0,0,0,0] 0 H;obtain⟨D1,H,hD1,hC1⟩:=sls_rd H (Q0d _) (by decide);obtain⟨D2,H,hD2,hC2⟩:=sls_rd H.swap (Q0d _) (by decide);refine J1 H ?_;clear H;intro w H;refine Ja 0 ?_;refine Ja 1 ?_;refine Jf 2 ?_;refine Jl 3 [5] H ?_;refine Q1w 4 [5] H rfl (Q0n.none rfl) rfl (by repeat first|exact .nil _|apply Q0o.cons rfl) (by kernel_rfl) ?_;replace H:=Js [2,1,0] 0 H;refine Jo 5 H ?_;refine Jk rfl rfl (G0w q.bp s.lays _ _ l hR ⟨hD1 _,(hD2 _).there⟩ H) ?_;clear H;rintro v w (⟨h64,rfl,H⟩|⟨h64,rfl,H⟩)
  ·rw[if_pos h64];refine J75 H ?_;refine U7d H ?_;replace H:=Js [3,3,0,2,2,2,2,2,2,2,2] 3 H;have H:=Q1s hw hm H;exact Q0g (Jy H rfl fun w' H'=>⟨rfl,H'⟩)
  ·rw[if_neg (by omega)];refine J75 H ?_;refine U7d H ?_;replace H:=Js [3,3,0,2,2,2,2,2,2,2,2] 3 H;have H:=Q1s (s:={ s with lays:=s.lays++[l] }) (G1b hw hR h64) ⟨hm.len,hm.head,hm.words⟩ H;exact Q0g (Jy H rfl fun w' H'=>⟨rfl,H'⟩)
@[reducible] def Z1x (s:CS) (parent:Int) (b b2:Nat):CS:=
 { s with last:=s.last+1,par:=s.par++[(((s.last+1:Nat):Int),parent)],sps:=s.sps++[(((s.last+1:Nat):Int),b,⟨[],0,0⟩)],mns:=s.mns++[(((s.last+1:Nat):Int),b2,[])] }
theorem V9v [Q0i] (p:Nat) (s:CS) (parent:Int) (hlast:s.last+1 < 1000000) {w:World} {fr:List Q0e} (H:Q0a w (Q2z p s::fr)) :
  Calls Tryz.prog 30 #[pp p,.int .i64 parent] w (ret fun x w'=>(Q5l s.par parent≠0∧x = .tuple #[.int .i64 0,.int .i64 (Q5l s.par parent)]∧Q0a w' (Q2z p s::fr)) ∨
   (Q5l s.par parent=0∧∃ b b2,x = .tuple #[.int .i64 ((s.last+1:Nat):Int),.int .i64 0]∧Q0a w' (Q2z p (Z1x s parent b b2)::fr))):=by
 obtain⟨q,mem,hw,hm,H⟩:=Q1u H;refine Q0c Tryz.func30 rfl (by kernel_rfl) ?_;refine U6s H ?_;refine J10 H ?_;replace H:=Js [5,0,0,0,0,0,0,0,0,0,0] 0 H;refine Jc rfl rfl (Y2q q.trp s.last s.par parent (by omega) (fun r x hx=>(hw.par.2.2 r x hx).2) H) ?_;clear H;rintro v w (⟨he,rfl,H⟩|⟨he,rfl,H⟩)
 ·refine U4d H ?_;rw[show (((Q5l s.par parent:Nat):Int) != 0)=true by simpa using he];refine U7q H ?_;replace H:=Js [1,1,1,1,1,0,0,0,0,0,0] 0 H;have H:=Q1s hw hm H;exact Q0g (Jy H rfl fun w' H' => .inl ⟨he,rfl,H'⟩)
 ·have hl64:s.par.length < 64:=by
   unfold Q5l at he;split at he
   ·omega
   ·split at he
    ·omega
    ·have:=hw.par.1;omega
  have hfr:∀ {α:Type} (l:List (Int×α)),l.map (·.1)=s.par.map (·.1)→((s.last+1:Nat):Int)∉l.map (·.1):=by
   intro α l hl hmem;rw[hl] at hmem;obtain⟨⟨r,x⟩,hx,h1⟩:=List.mem_map.1 hmem;have h1:r=((s.last+1:Nat):Int):=h1;have:=(hw.par.2.2 r x hx).2;omega
  have hf1:((s.last+1:Nat):Int)∉(s.sps.map Q4q).map (·.1):=hfr _ (by rw[List.map_map];exact hw.skeys);have hf2:((s.last+1:Nat):Int)∉(s.mns.map Q3p).map (·.1):=hfr _ (by rw[List.map_map];exact hw.mkeys);refine J38 H ?_;refine J1 H ?_;clear H;intro w H;refine J27 H ?_;refine Jl 3 [14] H ?_;refine U6u H ?_;refine Jl 8 [10,14] H ?_;refine Ja 9 ?_;refine Jo 10 H ?_;refine Jk rfl rfl (V9h q.sp (s.last+1) (by omega) H) ?_;clear H;rintro v w ⟨b,rfl,H⟩;refine Ja 11 ?_;refine J79 H ?_;refine Jo 14 H ?_;refine Q3t (ek:=ki .i64) (vv:=Q6v) (v:=b) (key:=((s.last+1:Nat):Int)) H rfl rfl rfl tkI rfl ?_;clear H;intro w H;rw[Q7j hf1,show s.sps.map Q4q++[(((s.last+1:Nat):Int),b)]=(s.sps++[(((s.last+1:Nat):Int),b,(⟨[],0,0⟩:Spc))]).map Q4q by simp] at H;refine Jx H ?_;refine J1 H ?_;clear H;intro w H;refine U2j H ?_;refine Ja 4 ?_;refine Jo 5 H ?_;refine Jk rfl rfl (V9k H) ?_;clear H;rintro v w ⟨b2,rfl,H⟩
  refine Jo 6 H ?_;refine Q3t (ek:=ki .i64) (vv:=Q6v) (v:=b2) (key:=((s.last+1:Nat):Int)) H rfl rfl rfl tkI rfl ?_;clear H;intro w H;rw[Q7j hf2,show s.mns.map Q3p++[(((s.last+1:Nat):Int),b2)]=(s.mns++[(((s.last+1:Nat):Int),b2,([]:List Nat))]).map Q3p by simp] at H;refine Jx H ?_;refine J11 H ?_;replace H:=Js [1,9,2,2,2,2,2,1,1,1,1,1,0] 0 H;have H:=(Q0a.pick (R:=Q4r q.sp) (x:=(((s.last+1:Nat):Int),b,(⟨[],0,0⟩:Spc))) (g1:=s.sps) (g2:=[]) rfl).2 (by rw[List.append_nil];exact H);replace H:=Js [11,10,0,0,0,0,0,0,0,0,0,0] 0 H;have H:=(Q0a.pick (R:=Q4a) (x:=(((s.last+1:Nat):Int),b2,([]:List Nat))) (g1:=s.mns) (g2:=[]) rfl).2 (by rw[List.append_nil];exact H);replace H:=Js [2,2,2,2,2,2,2,2,1,1,0] 0 H;have H:=Q1s (s:=Z1x s parent b b2) (U0m hw hl64 hlast) ⟨hm.len,hm.head,hm.words⟩ H;exact Q0g (Jy H rfl fun w' H' => .inr ⟨he,b,b2,rfl,H'⟩)
theorem Y8h [Q0i] (n size slots:Nat) (h1:1≤n) (h2:n≤63) (h3:1≤size) (h4:size≤1024) (h5:1≤slots) (h6:slots≤63) {w:World} {fr:List Q0e} (H:Q0a w fr) :
  Calls Tryz.prog 28 #[.int .i64 n,.int .i64 size,.int .i64 slots] w (ret fun v w'=>∃ p,v = .tuple #[pp p,.int .i64 0] ∧
   Q0a w' (Q2z p ⟨size,List.replicate n 0,[],List.replicate slots ⟨0,none⟩,0,[],[],[],[]⟩::fr)):=by
 refine Q0c Tryz.func28 rfl (by kernel_rfl) ?_;refine J68 H ?_;refine Jc rfl rfl (G0t n size h1 (by omega) h3 h4 H) ?_;clear H;rintro v w ⟨sp,rfl,H⟩;refine J38 H ?_;refine J20 H ?_;refine Jc rfl rfl (G1m slots h5 h6 H) ?_;clear H;rintro v w ⟨tp,rfl,H⟩;refine J38 H ?_;refine J39 H ?_;refine Jc rfl rfl (Y7h H) ?_;clear H;rintro v w ⟨bp,rfl,H⟩;refine J0 H ?_;refine J6 H ?_;refine Jc rfl rfl (G1d sp bp H) ?_;clear H;rintro v w ⟨ip,rfl,H⟩;refine J32 H ?_;refine J73 H ?_;refine Jc rfl rfl (Z6s H) ?_;clear H;rintro v w ⟨trp,rfl,H⟩;refine Jc rfl rfl (G0z H) ?_;clear H;rintro v w ⟨rp,rfl,H⟩;refine Q0s rfl (Q6h Q6v (ki .i64) H rfl ?_);clear H;intro sm w H;refine Q0s rfl (Q6h Q6v (ki .i64) H rfl ?_);clear H;intro mm w H;refine J60 H ?_;clear H;intro b47 w H;refine J2 H ?_;have hget:∀ {i:Nat} {t:Slt},(List.replicate slots (⟨0,none⟩:Slt))[i]? = some t→t=⟨0,none⟩:=fun h=>List.eq_of_mem_replicate (List.mem_of_getElem? h);have hget0:∀ {i r:Nat},(List.replicate n 0)[i]? = some r→r=0:=fun h=>List.eq_of_mem_replicate (List.mem_of_getElem? h)
 have hw:WF ⟨size,List.replicate n 0,[],List.replicate slots ⟨0,none⟩,0,[],[],[],[]⟩:=by
  refine⟨⟨h3,h4⟩,by simp;omega,by simp;omega,by simp,fun i t h=>?_,fun i g e h=>?_,fun i j g h e f _ hi _=>?_,by simp,rfl,rfl,by simp,by simp,fun c r h h0=>?_,by simp⟩
  ·have:=hget h;subst this;simp
  ·have:=hget h;cases this
  ·have:=hget hi;cases this
  ·exact absurd (hget0 h) h0
 have hm:Q4p ⟨size,List.replicate n 0,[],List.replicate slots ⟨0,none⟩,0,[],[],[],[]⟩ (List.replicate (n*size) 0):=by
  refine⟨by simp,fun i g e h=>?_,fun i g e h=>?_⟩
  ·have:=hget h;cases this
  ·have:=hget h;cases this
 have H:Q0a w (star (([]:List (Int×Nat×Spc)).map (Q4r sp))::_):=Q0a.star.2 H;have H:Q0a w (star (([]:List (Int×Nat×List Nat)).map Q4a)::_):=Q0a.star.2 H;replace H:=Js [2,6,6,7,6,5,4,3,1,1,0] 0 H;have H:=Q1s (s:=⟨size,List.replicate n 0,[],List.replicate slots ⟨0,none⟩,0,[],[],[],[]⟩) (q:=⟨sp,bp,ip,tp,trp,rp,sm,mm⟩) hw hm H;exact Q0g (Jy H rfl fun w' H'=>⟨_,rfl,H'⟩)
end Go.Proofs.YtmjdnljneifpcaaGreatDoor
namespace Go.Proofs.YtmjdnljneifpcaaGreatDoor
open Go.SL
def Y8i (size:Nat) (x:Nat×Nat) (e:Ent):Prop:=(x.2=1∧x.1*size≤e.addr∧Q1q e≤(x.1+1)*size)∨(2≤x.2∧e.addr=x.1*size∧x.2=e.ws.length / size+1)
def Q3n (s:CS):Prop:=∀ (k g:Nat) (e:Ent),s.tab[k]? = some ⟨g,some e⟩→∃ x∈s.sps,x.1=e.region∧∃ y∈x.2.2.parts,Y8i s.size y e
theorem Y8i.alike {size:Nat} {x:Nat×Nat} {e e':Ent} (h:Y8i size x e) (h1:e'.addr=e.addr) (h2:e'.ws.length=e.ws.length):Y8i size x e':=by
 unfold Y8i Q1q at *;rw[h1,h2];exact h
theorem U0p {size:Nat} (hs:1≤size) {x:Nat×Nat} {e:Ent} (h:Y8i size x e):x.1*size≤e.addr∧Q1q e≤(x.1+x.2)*size:=by
 rcases h with ⟨h1,h2,h3⟩|⟨h1,h2,h3⟩
 ·rw[h1];exact⟨h2,h3⟩
 ·refine⟨by omega,?_⟩;have h4:e.ws.length < (e.ws.length / size+1)*size:=Nat.lt_mul_of_div_lt (Nat.lt_succ_self _) (by omega);rw[Nat.add_mul,h3];unfold Q1q;omega
theorem Z1y {s:CS} (hP:Q3n s) {i g0 r q:Nat} {S S':Spc} {p1 p2:List (Int×Nat×Spc)} (hs:s.sps=p1++((r:Int),q,S)::p2) {e:Ent} (hreg:e.region=r) {own' mem mem':List Nat} (hsz:1≤s.size) (hS:V1z s.size s.own r S)
  (al:Q6p s.size s.own mem r S (e.ws.length+1) own' mem' S' e.addr) {s':CS} (h1:s'.size=s.size) (h2:s'.tab=s.tab.set i ⟨g0+1,some e⟩) (h3:s'.sps=p1++((r:Int),q,S')::p2):Q3n s':=by
 have hsub:(∀ y∈S.parts,y∈S'.parts)∧∃ y∈S'.parts,Y8i s.size y e:=by
  generalize hea:e.addr=ad at al;cases al with
  | room hn=>
   have hfin:S.fin≠0:=by omega
   obtain⟨c,hc1,hc2,hc3⟩:=hS.fin hfin;refine⟨fun y hy=>hy,(c,1),hc3,.inl ⟨rfl,?_,?_⟩⟩
   ·show c*s.size≤e.addr;omega
   ·show Q1q e≤(c+1)*s.size;unfold Q1q;omega
  | @one a ha hf hn=>
   refine⟨fun y hy=>List.mem_append.2 (.inl hy),(a,1),by simp,.inl ⟨rfl,?_,?_⟩⟩
   ·show a*s.size≤e.addr;omega
   ·show Q1q e≤(a+1)*s.size;have:(a+1)*s.size=a*s.size+s.size:=Nat.succ_mul _ _;unfold Q1q;omega
  | @run a k hk ha hf hn hn2=>
   refine⟨fun y hy=>List.mem_append.2 (.inl hy),(a,k),by simp,.inr ⟨hk,hea,?_⟩⟩;show k=e.ws.length / s.size+1;have h4:(k - 1)*s.size≤e.ws.length:=by omega
   have h5:k - 1≤e.ws.length / s.size:=(Nat.le_div_iff_mul_le (by omega)).2 h4;have h6:e.ws.length / s.size < k:=(Nat.div_lt_iff_lt_mul (by omega)).2 (by omega);omega
 intro j n f hj;rw[h2] at hj;rw[h1,h3]
 rcases Q1i hj with ⟨rfl,u1,_⟩|⟨h0,hj⟩
 ·injection u1 with _ u1
  injection u1 with u1
  subst u1;obtain⟨y,y1,y2⟩:=hsub.2;exact⟨((r:Int),q,S'),by simp,hreg.symm,y,y1,y2⟩
 ·obtain⟨x,x1,x2,y,y1,y2⟩:=hP j n f hj;rw[hs] at x1
  rcases Q7s x1 with rfl|x1
  ·exact⟨((r:Int),q,S'),by simp,x2,y,hsub.1 y y1,y2⟩
  ·exact⟨x,V0o x1,x2,y,y1,y2⟩
structure V2b (s s':CS):Prop where
 par:s'.par=s.par
 sps:s'.sps=s.sps
 size:s'.size=s.size
 tab:∀ (k g:Nat) (e':Ent),s'.tab[k]? = some ⟨g,some e'⟩→∃ e,s.tab[k]? = some ⟨g,some e⟩∧e'.region=e.region∧e'.addr=e.addr∧e'.ws.length=e.ws.length
theorem V2b.refl (s:CS):V2b s s:=⟨rfl,rfl,rfl,fun k g e h=>⟨e,h,rfl,rfl,rfl⟩⟩
theorem V2b.part {s s':CS} (h:V2b s s') (hP:Q3n s):Q3n s':=by
 intro k g e' hk;obtain⟨e,h1,h2,h3,h4⟩:=h.tab k g e' hk;obtain⟨x,x1,x2,y,y1,y2⟩:=hP k g e h1;rw[h.sps,h.size,h2];exact⟨x,x1,x2,y,y1,y2.alike h3 h4⟩
theorem V2b.set {s:CS} {k g:Nat} {e e':Ent} (hk:s.tab[k]? = some ⟨g,some e⟩) (a:e'.region=e.region∧e'.addr=e.addr∧e'.ws.length=e.ws.length) (R:List ((Int×Int)×Int)):V2b s { Q9b s k g e' with rem:=R }:=by
 refine⟨rfl,rfl,rfl,fun j n f hj=>?_⟩;have hj:(s.tab.set k ⟨g,some e'⟩)[j]? = some ⟨n,some f⟩:=hj
 rcases Q1i hj with ⟨rfl,h1,_⟩|⟨_,h1⟩
 ·injection h1 with h1 h2
  injection h2 with h2
  subst h1 h2;exact⟨e,hk,a⟩
 ·exact⟨f,h1,rfl,rfl,rfl⟩
end Go.Proofs.YtmjdnljneifpcaaGreatDoor
