/- Cells: what is proved on the way: every input of the statement; no condition. Texts joined: KidA RefC RefD ModA ModB ModC ModD ModE TabA. -/
import Derived.Test.YtmjdnljneifpcaaGreatDoorBbe
import Derived.Test.YtmjdnljneifpcaaGreatDoorBbh
import Derived.Test.YtmjdnljneifpcaaGreatDoorBbg
set_option linter.unusedVariables false
set_option linter.unusedSimpArgs false
set_option linter.unusedSectionVars false
namespace Go.Proofs.YtmjdnljneifpcaaGreatDoor
open Go.SL
theorem G8v:∀ a b:Int,ki .i64 a=ki .i64 b→a=b:=fun a b h=>by cases h;rfl
def Z0n (par:List (Int×Int)) (id k:Int):Bool:=decide (fnd par k=some id)
theorem Y7u [Q0i] (p last:Nat) (par:List (Int×Int)) (id:Int) (h0:id=0∨(fnd par id).isSome=true) (hl:par.length≤1000) {w:World} {fr:List Q0e} (H:Q0a w (TRE p last par::fr)) :
  Calls Tryz.prog 13 #[pp p,.int .i64 id] w (ret fun v w'=>∃ u K,v = .tuple #[u,.int .i64 0]∧K.Perm ((par.map (·.1)).filter (Z0n par id))∧K.Pairwise (·≤·)∧Q0a w' (IL u K::TRE p last par::fr)):=by
 have hnd:=Z4r H;refine Q0c Tryz.func13 rfl (by kernel_rfl) ?_;refine J68 H ?_;refine Jc rfl rfl (V9f p last par id H) ?_;clear H;rintro v w ⟨rfl,H⟩;refine J18 H ?_;refine Q1m (fun ms σ w=>ms=[]∧σ 22 = .bool false∧σ 0=pp p∧σ 1 = .int .i64 id∧Q0a w (TRE p last par::fr)) ?_ ?_
 ·cases hf:(fnd par id).isSome with
  | true=>
   refine J15 H ?_;refine G8j H ?_;refine G8h H ?_;refine Q3h rfl rfl rfl ?_;refine J0 H ?_;exact⟨rfl,rfl,rfl,rfl,rfl,H⟩
  | false=>
   obtain rfl:id=0:=by
    rcases h0 with h|h
    ·exact h
    ·rw[hf] at h;cases h
   refine J15 H ?_;refine J25 H ?_;refine Q4u rfl rfl rfl (Q3i rfl rfl (.inl rfl) rfl ?_);refine J33 H ?_;refine J33 H ?_;refine J0 H ?_;exact⟨rfl,rfl,rfl,rfl,rfl,H⟩
 clear H;rintro ms σ w ⟨rfl,g22,g0,g1,H⟩;rw[Q0b g22,Q0b g0,Q0b g1];refine J98 H ?_;obtain⟨b,H⟩:=V0d H;refine J29 H ?_;replace H:=Z4e H.swap;refine Q0s rfl (Y4k (ki .i64) v1 H rfl rfl ?_);clear H;intro bi w H;refine U3v H ?_;refine Q2s (fun ms σ w=>ms=[]∧∃ (u:Value) (K:List Int),σ 7=u∧K.Perm ((par.map (·.1)).filter (Z0n par id))∧Q0a w (IL u K::TRE p last par::fr)) ?_ ?_
 ·refine Q0t ?_;refine Q1l (fun ms σ w n=>ms=[]∧∃ (ks:List Int) (u:Value),ks.length≤par.length∧n=par.length - ks.length∧σ 1 = .int .i64 id∧σ 7=u∧σ 28=pp bi∧Q0a w (IL u (ks.filter (Z0n par id))::mit (ki .i64) v1 (.map (some b)) par bi ks::pts p (row 122 [.map (some b),.int .i64 last])::fr)) (m:=par.length) ⟨rfl,[],_,by simp,rfl,rfl,rfl,rfl,Q3x H⟩ ?_;clear H;rintro ms σ w n ⟨rfl,ks,u,hkl,rfl,g1,g7,g28,H⟩;obtain⟨au,mu,cu,rfl⟩:=Q1d H;rw[Q0b g1,Q0b g7,Q0b g28];refine J39 H ?_;refine Q0s rfl (Z1b H.swap G8v rfl rfl (fun hp w H=>?_) (fun q hq hn hnd2 hsub w H=>?_))
  ·refine J18 H ?_;refine J91 H ?_;replace H:=Y5i (Z1a H);replace H:=Js [1,1,0] 0 H;have H2:Q0a w (TRE p last par::IL (.slice au mu cu) (ks.filter (Z0n par id))::fr):=V2g (by replace H:=Q0a.sel [1,1,0] 0 H;dsimp only[SL.sel,SL.pull,List.drop] at H;exact H);exact .inl ⟨rfl,rfl,_,_,rfl,hp.filter _,H2.swap⟩
  ·have hlt:ks.length < par.length:=by
    have h1:(ks++[q.1]).Nodup:=by
     rw[List.nodup_append];exact⟨hnd2,by simp,fun c hc c' hc' e0=>by simp at hc';subst hc';subst e0;exact hn hc⟩
    have h2:=Q3e h1 (l₂:=par.map (·.1)) (fun z hz=>by
     rcases List.mem_append.1 hz with hz|hz
     ·exact hsub z hz
     ·simp at hz;subst hz;exact List.mem_map.2 ⟨q,hq,rfl⟩)
    simp at h2;omega
   have hfq:fnd par q.1=some q.2:=(Q3r hnd).2 hq;refine J18 H ?_;refine J74 H ?_;refine Q0t ?_;refine J39 H ?_;refine Q0s rfl (Y4l H G8v hq rfl rfl ?_);refine U2i H ?_;obtain⟨k,t⟩:=q;refine J11 H ?_;by_cases ht:t=id
   ·have hk:Z0n par id k=true:=by unfold Z0n;rw[hfq,ht];simp
    rw[show (t == id)=true by simpa using ht];refine J13 H ?_;refine U4k H ?_;clear H;intro b39 w H;replace H:=Js [2,0,0,0] 0 H;have hle:=List.length_filter_le (Z0n par id) ks;refine Q0s rfl (Q1t H rfl rfl (by repeat first|exact .nil _|apply Q0o.cons rfl) rfl (by decide) (by rw[Q0r];simp only[List.length_cons,List.length_nil];omega) rfl rfl ?_);clear H;intro v40 w H;obtain⟨a40,m40,c40,rfl⟩:=Q1d H;refine J0 H ?_;replace H:=Js [0,1,1] 1 H;refine⟨_,⟨rfl,ks++[k],_,by simp;omega,rfl,rfl,rfl,rfl,?_⟩,by simp;omega⟩;rw[List.filter_append,show [k].filter (Z0n par id)=[k] by simp[hk]];show Q0a w (sls _ 1 _ (Q1g (ks.filter (Z0n par id)++[k]))::_);rw[Q5i];exact H
   ·have hk:Z0n par id k=false:=by unfold Z0n;rw[hfq];simp;exact ht
    rw[show (t == id)=false by simpa using ht];refine J9 H ?_;refine⟨_,⟨rfl,ks++[k],.slice au mu cu,by simp;omega,rfl,rfl,rfl,rfl,?_⟩,by simp;omega⟩;rw[List.filter_append,show [k].filter (Z0n par id)=[] by simp[hk],List.append_nil];replace H:=Js [1,0,0] 0 H;exact H
 ·clear H;rintro ms σ w ⟨rfl,u,K,g7,hK,H⟩
  have hKl:K.length≤1000:=by
   have h1:=hK.length_eq;have h2:=List.length_filter_le (Z0n par id) (par.map (·.1));simp at h2;omega
  obtain⟨au,cu,rfl⟩:=Q0j H (Q0r K) (by decide);rw[Q0b g7];refine J20 H ?_;refine Jc rfl rfl (V4i _ K (by omega) H) ?_;clear H;rintro v w ⟨rfl,H⟩;refine G9x H ?_;refine Q0g (Jy H rfl fun w' H'=>⟨_,_,rfl,(List.mergeSort_perm K _).trans hK,?_,H'⟩);have:=List.pairwise_mergeSort (le:=fun x y:Int=>decide (x≤y)) (fun a b c h1 h2=>by simp at *;omega) (fun a b=>by simp;omega) K;exact this.imp (fun h=>by simpa using h)
end Go.Proofs.YtmjdnljneifpcaaGreatDoor
namespace Go.Proofs.YtmjdnljneifpcaaGreatDoor
open Go.SL
theorem V4m [Q0i] (va vb:Value) (a b:List Int) (hl:a.length≤1000000) {w:World} {fr:List Q0e} (H:Q0a w (IL va a::IL vb b::fr)) :
  Calls Tryz.prog 24 #[va,vb] w (ret fun v w'=>v = .bool (decide (a=b))∧Q0a w' (IL va a::IL vb b::fr)):=by
 obtain⟨aa,ca,rfl⟩:=Q0j H (Q0r a) (by decide);obtain⟨ab,cb,rfl⟩:=Q0j H.drop (Q0r b) (by decide);refine Q0c Tryz.func24 rfl (by kernel_rfl) ?_;refine J63 H ?_;refine U6j H ?_;refine J57 H ?_;by_cases hlen:a.length=b.length
 ·rw[show ((a.length:Int) != (b.length:Int))=false by simp;omega];refine J9 H ?_;refine U1v H ?_;refine Q1l (fun ms σ w q=>ms=[]∧∃ i:Nat,i≤a.length∧q=a.length - i∧a.take i=b.take i∧σ 0 = .slice aa a.length ca∧σ 1 = .slice ab b.length cb∧σ 5 = .int .i64 i∧Q0a w (IL (.slice aa a.length ca) a::IL (.slice ab b.length cb) b::fr)) (m:=a.length) ⟨rfl,0,by omega,rfl,by simp,rfl,rfl,rfl,H⟩ ?_;clear H;rintro ms σ w q ⟨rfl,i,hi,rfl,heq,g0,g1,g5,H⟩;rw[Q0b g0,Q0b g1,Q0b g5];refine J93 H ?_;refine Q2d rfl (fun h=>Q0w ?_) (fun h=>Q1n ?_)
  ·have hlt:i < a.length:=by omega
   have hlt2:i < b.length:=by omega
   have hx:=List.getElem?_eq_getElem hlt;have hy:=List.getElem?_eq_getElem hlt2;generalize a[i]=x at hx;generalize b[i]=y at hy;obtain⟨ba,sa,rfl,H,hca⟩:=Q0y H (by omega);obtain⟨bb,sb,rfl,H,hcb⟩:=Q0y H.swap (by omega)
   have c1:(Q1g a++sa)[0+i*1]? = some (.int .i64 x):=by
    rw[Nat.zero_add,Nat.mul_one,List.getElem?_append_left (by simpa [Q1g] using hlt)];simp[Q1g,hx]
   have c2:(Q1g b++sb)[0+i*1]? = some (.int .i64 y):=by
    rw[Nat.zero_add,Nat.mul_one,List.getElem?_append_left (by simpa [Q1g] using hlt2)];simp[Q1g,hy]
   refine U4u H ?_;clear H;intro w H;refine Ja 0 ?_;refine Ja 1 ?_;refine Ji 2 ?_;refine Q2b 3 [] H rfl (Q0n.none rfl) rfl c1 (by kernel_rfl) ?_;refine J54 H ?_;refine Ji 6 ?_;refine Q2b 7 [] H rfl (Q0n.none rfl) rfl c2 (by kernel_rfl) ?_;refine J69 H ?_;replace H:=hcb _ _ H;replace H:=hca _ _ H.swap;by_cases hxy:x=y
   ·rw[show (x != y)=false by simpa using hxy];refine U2c H ?_;refine⟨_,⟨rfl,i+1,hlt,rfl,?_,rfl,rfl,Q2a (by omega),H⟩,by omega⟩;rw[List.take_add_one,List.take_add_one,hx,hy,heq,hxy]
   ·rw[show (x != y)=true by simpa using hxy];refine J21 H ?_;refine Q0g (Jy H rfl fun w' H'=>⟨?_,H'⟩)
    have hne:a≠b:=by
     rintro rfl;rw[hx] at hy;injection hy with hy
     exact hxy hy
    rw[decide_eq_false hne];rfl
  ·have hge:i=a.length:=by omega
   subst hge;rw[List.take_length,hlen,List.take_length] at heq;refine J14 H ?_;exact Q0g (Jy H rfl fun w' H'=>⟨by rw[decide_eq_true heq];rfl,H'⟩)
 ·rw[show ((a.length:Int) != (b.length:Int))=true by simp;omega];refine J21 H ?_;refine Q0g (Jy H rfl fun w' H'=>⟨?_,H'⟩);have hne:a≠b:=by rintro rfl;exact hlen rfl
  rw[decide_eq_false hne];rfl
theorem Y7v [Q0i] (v:Value) (ws:List Nat) (hws:∀ x∈ws,x < 18446744073709551616) {w:World} {fr:List Q0e} (hr:RdS fr v ws.length 1 (Q1b ws)) (H:Q0a w fr) :
  Calls Tryz.prog 228 #[v] w (ret fun r w'=>(Q4k ws=none∧r = .tuple #[V9c 0 (.slice none 0 0) 0 (.slice none 0 0),.bool false]∧Q0a w' fr) ∨
   ∃ l vr vq,Q4k ws=some l∧r = .tuple #[V9c l.fixed vr l.record vq,.bool true]∧Q0a w' (NL vr l.refs::NL vq l.recs::fr)):=by
 obtain⟨_,ad,cap,rfl,hr'⟩:=id hr;refine Q0c Tryz.func228 rfl (by kernel_rfl) ?_;refine J24 H ?_;clear H;intro b2 w H;refine U6m H ?_;refine U6j H ?_;by_cases h3:ws.length=3
 ·obtain⟨x,y,z,rfl⟩:∃ x y z,ws=[x,y,z]:=by
   match ws,h3 with
   | [x,y,z],_=>exact⟨x,y,z,rfl⟩
  have hx:=hws x (by simp);have hy:=hws y (by simp);have hz:=hws z (by simp)
  rcases hr' with h|⟨b,o,E,fz,c,rfl,hA,hrd⟩
  ·cases h
  haveI:=hA;have c0:c[o+0*1]? = some (.int .u64 x):=by have:=hrd.get 0 (.int .u64 x) (by simp[Q1b]);simpa using this
  have c1:c[o+1*1]? = some (.int .u64 y):=by have:=hrd.get 1 (.int .u64 y) (by simp[Q1b]);simpa using this
  have c2:c[o+2*1]? = some (.int .u64 z):=by have:=hrd.get 2 (.int .u64 z) (by simp[Q1b]);simpa using this
  rw[show ((([x,y,z]:List Nat).length:Int) != 3)=false from rfl];refine U1s H ?_;refine Q4u rfl rfl rfl (Q2k rfl rfl (by omega) (by show (0:Int) < (3:Nat);omega) rfl ?_);refine Q4u rfl rfl rfl (Q0l H rfl c0 rfl ?_);refine J25 H ?_;by_cases hb:x < 65536
  ·rw[show decide ((x:Int)≥65536)=false from decide_eq_false (by omega)];refine J17 H ?_;have m8:Int.tmod (x:Int) 256=((x % 256:Nat):Int):=by rw[Int.tmod_eq_emod_of_nonneg (by omega)];omega
   have q8:IntKind.u64.wrap (Int.tdiv (x:Int) 256)=((x / 256:Nat):Int):=by
    rw[Int.tdiv_eq_ediv_of_nonneg (by omega),show (x:Int) / 256=((x / 256:Nat):Int) by omega,Q4o (by omega)]
   have w8:IntKind.i64.wrap ((x % 256:Nat):Int)=((x % 256:Nat):Int):=Q6o (by omega);have v8:IntKind.i64.wrap ((x / 256:Nat):Int)=((x / 256:Nat):Int):=Q6o (by omega);refine J7 H ?_
   refine Q2s (fun ms σ w=>ms=[]∧∃ b4 va vb,σ 2=pp b2∧σ 4=pp b4 ∧
    Q0a w (pts b4 (row 102 [.int .i64 ((x % 256:Nat):Int),va,.int .i64 ((x / 256:Nat):Int),vb])::NL va (Q2x y 64)::NL vb (Q2x z 64)::pts b2 (row 102 [.int .i64 0,.slice none 0 0,.int .i64 0,.slice none 0 0])::fr)) ?_ ?_
   ·refine J1 H ?_;clear H;intro w H;refine Ja 0 ?_;refine Q4z 1 rfl (Q0n.none rfl) rfl rfl (by omega) (by show (0:Int) < (3:Nat);omega) (by kernel_rfl) ?_;refine Q2b 2 [20] H rfl (Q0n.none rfl) rfl c0 (by kernel_rfl) ?_;refine Ja 3 ?_;refine Q6n 4 rfl (Q0n.none rfl) rfl (by kernel_rfl) ?_;refine Ja 5 ?_;refine Q4z 6 rfl (Q0n.none rfl) rfl rfl (by omega) (by show (1:Int) < (3:Nat);omega) (by kernel_rfl) ?_;refine Q2b 7 [8] H rfl (Q0n.none rfl) rfl c1 (by kernel_rfl) ?_;refine Ja 9 ?_;refine Q4z 10 rfl (Q0n.none rfl) rfl rfl (by omega) (by show (0:Int) < (3:Nat);omega) (by kernel_rfl) ?_;refine Q2b 11 [20] H rfl (Q0n.none rfl) rfl c0 (by kernel_rfl) ?_;refine Ja 12 ?_;refine Q6n 13 rfl (Q0n.none rfl) rfl (by kernel_rfl) ?_;refine Ja 14 ?_;refine Q4z 15 rfl (Q0n.none rfl) rfl rfl (by omega) (by show (2:Int) < (3:Nat);omega) (by kernel_rfl) ?_;refine Q2b 16 [17] H rfl (Q0n.none rfl) rfl c2 (by kernel_rfl) ?_;rw[m8,q8,w8,v8];refine Jw 8 19 H rfl rfl (Q1h (a:=[]) (b:=[]) rfl rfl (call (Q8n y hy H) ?_)) (Q1x H rfl ?_)
    ·clear H;intro va w H;obtain⟨aa,ma,ca,rfl⟩:=Q1d H;refine Jw 17 19 H rfl rfl (Q1h (a:=[]) (b:=[]) rfl rfl (call (Q8n z hz H) ?_)) (Q1x H rfl ?_)
     ·clear H;intro vb w H;obtain⟨ab,mb,cb,rfl⟩:=Q1d H;refine Q5r 18 rfl (Q0n.none rfl) rfl (by kernel_rfl) ?_;refine Jo 19 H ?_;refine Q1x H rfl ?_;clear H;intro b4 w H;refine Jo 20 H ?_;refine J49 H ?_;clear H;intro w H;refine Jx H ?_;replace H:=Js [0,1,0,0] 0 H;exact .inl ⟨rfl,rfl,b4,_,_,rfl,rfl,H⟩
     ·clear H;intro b4 w H;refine Jo 17 H ?_;refine Jk rfl rfl (Q8n z hz H) ?_;clear H;intro vb w H;obtain⟨ab,mb,cb,rfl⟩:=Q1d H;refine Q5r 18 rfl (Q0n.none rfl) rfl (by kernel_rfl) ?_;refine Jo 20 H ?_;refine J49 H ?_;clear H;intro w H;refine Jx H ?_;replace H:=Js [1,1,0,0] 0 H;exact .inl ⟨rfl,rfl,b4,_,_,rfl,rfl,H⟩
    ·clear H;intro b4 w H;refine Jo 8 H ?_;refine Jk rfl rfl (Q8n y hy H) ?_;clear H;intro va w H;obtain⟨aa,ma,ca,rfl⟩:=Q1d H;refine Jo 17 H ?_;refine Jk rfl rfl (Q8n z hz H) ?_;clear H;intro vb w H;obtain⟨ab,mb,cb,rfl⟩:=Q1d H;refine Q5r 18 rfl (Q0n.none rfl) rfl (by kernel_rfl) ?_;refine Jo 20 H ?_;refine J49 H ?_;clear H;intro w H;refine Jx H ?_;replace H:=Js [2,1,0,0] 0 H;exact .inl ⟨rfl,rfl,b4,_,_,rfl,rfl,H⟩
   ·clear H;rintro ms σ w ⟨rfl,b4,va,vb,g2,g4,H⟩;rw[Q0b g2,Q0b g4];have hla:=Q8i y 64;have hlb:=Q8i z 64;obtain⟨aa,ca,rfl⟩:=Q0j (H.drop) (Q0d (Q2x y 64)) (by decide);obtain⟨ab,cb,rfl⟩:=Q0j (H.drop.drop) (Q0d (Q2x z 64)) (by decide);refine J36 H ?_;replace H:=Js [1,1,0,0] 0 H;obtain⟨D1,H,hD1,hC1⟩:=sls_rd H (Q0d (Q2x y 64)) (by decide);obtain⟨D2,H,hD2,hC2⟩:=sls_rd H.swap (Q0d (Q2x z 64)) (by decide);refine Jc rfl rfl (V9d _ _ (Y7f x y z) ⟨by show x % 256≤_;omega,by show x / 256≤_;omega,by show (Q2x y 64).length≤_;omega,by show (Q2x z 64).length≤_;omega⟩ ⟨(hD1 _).there,hD2 _⟩ H) ?_;clear H;rintro v w ⟨⟨q,rfl,hq⟩,H⟩;have H:=(hC1 _ _ (hC2 _ _ H).swap);refine J0 H ?_;cases q with
    | true=>
     refine J47 H ?_;refine J87 H ?_;clear H;intro w H;refine J0 H ?_;replace H:=Js [3,0,0] 1 H;refine Q0g (Jz H (fun w' H' => .cellN H' rfl (by repeat first|exact .nil _|apply Q0o.cons rfl) (.tmp .nil)) fun w' H' => .inr ⟨Y7f x y z,_,_,?_,rfl,H'.drop⟩);rw[V1s,if_pos ⟨hb,hq.1 rfl⟩]
    | false=>
     refine J3 H ?_;refine U3t H ?_;clear H;intro w H;refine J0 H ?_;replace H:=Js [3] 3 H;refine Q0g (Jz H (fun w' H' => .cellN H' rfl (by repeat first|exact .nil _|apply Q0o.cons rfl) (.tmp .nil)) fun w' H' => .inl ⟨?_,rfl,H'.drop⟩);rw[V1s,if_neg];rintro⟨_,h2⟩;have:=hq.2 h2;cases this
  ·rw[show decide ((x:Int)≥65536)=true from decide_eq_true (by omega)];refine U2d H ?_;clear H;intro w H;refine J0 H ?_;refine Q0g (Jz H (fun w' H' => .cellN H' rfl (by repeat first|exact .nil _|apply Q0o.cons rfl) (.tmp .nil)) fun w' H' => .inl ⟨?_,rfl,H'.drop⟩);rw[V1s,if_neg];rintro⟨h1,_⟩;exact hb h1
 ·have hd:Q4k ws=none:=by
   match ws with
   | []=>rfl
   | [_]=>rfl
   | [_,_]=>rfl
   | [_,_,_]=>exact absurd rfl h3
   | _::_::_::_::_=>rfl
  rw[show ((ws.length:Int) != 3)=true by simp;omega];refine U7h H ?_;refine U2d H ?_;clear H;intro w H;refine J0 H ?_;exact Q0g (Jz H (fun w' H' => .cellN H' rfl (by repeat first|exact .nil _|apply Q0o.cons rfl) (.tmp .nil)) fun w' H' => .inl ⟨hd,rfl,H'.drop⟩)
end Go.Proofs.YtmjdnljneifpcaaGreatDoor
namespace Go.Proofs.YtmjdnljneifpcaaGreatDoor
open Go.SL
def Q5k (P:List Int) (id:Int):Bool:=decide (0 < id∧id < P.length∧0≤P.getD id.toNat 0)
def V2u (P:List Int) (f:Int→Bool) (k:Nat):List Nat:=(List.range k).filter fun i=>decide (1≤i) && f (P.getD i 0)
def V4y (P:List Int):List Nat:=V2u P (fun q=>decide (0≤q)) P.length
def Y7w (P:List Int) (id:Int):List Nat:=V2u P (fun q=>q == id) P.length
theorem Y2v (P:List Int) (f:Int→Bool) (k:Nat) (hk:1≤k):V2u P f (k+1)=V2u P f k++if f (P.getD k 0) then [k] else []:=by
 unfold V2u;rw[List.range_succ,List.filter_append];congr 1;simp only[List.filter_cons,List.filter_nil,decide_eq_true hk,Bool.true_and]
theorem Y7x (P:List Int) (f:Int→Bool):V2u P f 1=[]:=rfl
theorem V4n (P:List Int) (f:Int→Bool) (k:Nat):(V2u P f k).length≤k:=by
 have:=List.length_filter_le (fun i=>decide (1≤i) && f (P.getD i 0)) (List.range k);simpa [V2u] using this
theorem V1d {P:List Int} {f:Int→Bool} {k i:Nat}:i∈V2u P f k↔i < k∧1≤i∧f (P.getD i 0)=true:=by
 unfold V2u;simp[List.mem_filter]
theorem V6z (P:List Int) (f:Int→Bool) (k:Nat):(V2u P f k).Pairwise (· < ·):=List.Pairwise.filter _ List.pairwise_lt_range
def RTR (p:Nat) (P:List Int):Q0e:=ex fun v:Value=>star [pts p (row 161 [v]),IL v P]
theorem Q9c [Q0i] {w:World} {p:Nat} {P:List Int} {l:List Q0e} (H:Q0a w (RTR p P::l)):∃ a c,Q0a w (pts p (row 161 [.slice a P.length c])::IL (.slice a P.length c) P::l):=by
 obtain⟨v,H⟩:=Q0a.ex.1 H;have H:=Q0a.star.1 H;obtain⟨a,c,rfl⟩:=Q0j H.drop (Q0r P) (by decide);exact⟨a,c,H⟩
theorem Q6y [Q0i] {w:World} {p:Nat} {P:List Int} {v:Value} {l:List Q0e} (H:Q0a w (pts p (row 161 [v])::IL v P::l)):Q0a w (RTR p P::l):=
 Q0a.ex.2 ⟨v,Q0a.star.2 H⟩
theorem G1k [Q0i] {w:World} {fr:List Q0e} (H:Q0a w fr):Calls Tryz.prog 159 #[] w (ret fun v w'=>∃ p,v=pp p∧Q0a w' (RTR p [-1]::fr)):=by
 refine Q0c Tryz.func159 rfl (by kernel_rfl) ?_;refine U4m H ?_;refine J35 H ?_;clear H;intro b1 w H;refine J60 H ?_;clear H;intro b3 w H;refine J0 H ?_;have H:=Q7u (len:=1) (k:=1) (by rfl) H.swap;exact Q0g (Jy H.swap rfl fun w' H'=>⟨_,rfl,Q6y (P:=[-1]) H'⟩)
theorem V0f {P:List Int} {s:List Value} {i:Nat} (h:i < P.length):(Q1g P++s)[0+i*1]? = some (.int .i64 (P.getD i 0)):=by
 rw[Nat.zero_add,Nat.mul_one,List.getElem?_append_left (by simpa [Q1g] using h)];simp[Q1g,h]
theorem Q7f [Q0i] (p:Nat) (P:List Int) (id:Int) {w:World} {fr:List Q0e} (H:Q0a w (RTR p P::fr)) :
  Calls Tryz.prog 21 #[pp p,.int .i64 id] w (ret fun v w'=>v = .bool (Q5k P id)∧Q0a w' (RTR p P::fr)):=by
 obtain⟨a,c,H⟩:=Q9c H;refine Q0c Tryz.func21 rfl (by kernel_rfl) ?_;refine J59 H ?_;by_cases h1:id > 0
 ·rw[show decide (id > 0)=true from decide_eq_true (by omega)];refine J92 H ?_;by_cases h2:id < (P.length:Int)
  ·rw[show decide (id < (P.length:Int))=true from decide_eq_true (by omega)];obtain⟨k,rfl⟩:∃ k:Nat,id=k:=⟨id.toNat,by omega⟩;obtain⟨b,s,rfl,H,hclose⟩:=Q0y H.swap (by omega);have hc:=V0f (P:=P) (s:=s) (i:=k) (by omega);refine U7u H ?_;refine Q4u rfl rfl rfl (Q2k rfl rfl (by omega) (by omega) rfl ?_);refine Q4u rfl rfl rfl (Q0l H rfl hc rfl ?_);refine J71 H ?_;replace H:=(hclose _ _ H).swap;refine Q0g (Jy (Q6y H) rfl fun w' H'=>⟨?_,H'⟩);show Value.bool (decide (P.getD k 0≥0))=_;unfold Q5k;congr 1;rw[decide_eq_decide,Int.toNat_natCast];exact⟨fun h=>⟨h1,h2,h⟩,fun h=>h.2.2⟩
  ·rw[show decide (id < (P.length:Int))=false from decide_eq_false (by omega)];refine U7v H ?_;refine J2 H ?_;refine Q0g (Jy (Q6y H) rfl fun w' H'=>⟨?_,H'⟩);show Value.bool false=_;unfold Q5k;rw[decide_eq_false (fun h=>h2 h.2.1)]
 ·rw[show decide (id > 0)=false from decide_eq_false (by omega)];refine U4g H ?_;refine U7v H ?_;refine J2 H ?_;refine Q0g (Jy (Q6y H) rfl fun w' H'=>⟨?_,H'⟩);show Value.bool false=_;unfold Q5k;rw[decide_eq_false (fun h=>h1 h.1)]
theorem V7y [Q0i] (p:Nat) (P:List Int) (hl:P.length≤1000000) {w:World} {fr:List Q0e} (H:Q0a w (RTR p P::fr)) :
  Calls Tryz.prog 42 #[pp p] w (ret fun v w'=>Q0a w' (NL v (V4y P)::RTR p P::fr)):=by
 refine Q0c Tryz.func42 rfl (by kernel_rfl) ?_;refine U4j H ?_;refine Q1l (fun ms σ w n=>ms=[]∧∃ (i:Nat) (g:Value),1≤i∧(i≤P.length∨i=1)∧n=P.length - i∧σ 0=pp p∧σ 3=g∧σ 4 = .int .i64 i∧Q0a w (NL g (V2u P (fun q=>decide (0≤q)) i)::RTR p P::fr)) (m:=P.length - 1) ⟨rfl,1,_,by omega,.inr rfl,rfl,rfl,rfl,rfl,Q3x H⟩ ?_;clear H;rintro ms σ w n ⟨rfl,i,g,hi1,hi2,rfl,g0,g3,g4,H⟩;obtain⟨ag,mg,cg,rfl⟩:=Q1d H;obtain⟨a,c,H⟩:=Q9c H.swap;rw[Q0b g0,Q0b g3,Q0b g4];refine J78 H ?_;refine Q2d rfl (fun h=>Q0w ?_) (fun h=>Q1n ?_)
 ·have hlt:i < P.length:=by omega
  obtain⟨b,s,rfl,H,hclose⟩:=Q0y H.swap (by omega);have hc:=V0f (P:=P) (s:=s) (i:=i) (by omega);have hnx:=Y2v P (fun q=>decide (0≤q)) i hi1;generalize P.getD i 0=y at hc hnx;refine G9z H ?_;refine Jd ?_;refine Q0s rfl (Q0l H rfl hc rfl ?_);refine J0 H ?_;replace H:=Q6y (hclose _ _ H).swap;refine J7 H ?_;refine Q2d rfl (fun h=>?_) (fun h=>Q0w ?_)
  ·rw[if_pos (by simpa using h)] at hnx;refine U4k H ?_;clear H;intro b24 w H;replace H:=Js [2,0,0] 0 H;refine Q0s rfl (Q1t H rfl rfl (by repeat first|exact .nil _|apply Q0o.cons rfl) rfl (by decide) (by rw[Q0d];have:=V4n P (fun q=>decide (0≤q)) i;simp only[List.length_cons,List.length_nil];omega) rfl rfl ?_);clear H;intro v25 w H;obtain⟨a25,m25,c25,rfl⟩:=Q1d H;refine U2h H ?_;replace H:=Js [0,1] 1 H;refine⟨_,⟨rfl,i+1,_,by omega,.inl hlt,rfl,rfl,rfl,Q2a (by omega),?_⟩,by omega⟩;rw[hnx];show Q0a w (sls _ 1 _ (Q0u (_++[i]))::_);rw[Q3s];exact H
  ·rw[if_neg (by simpa using h),List.append_nil] at hnx;refine J11 H ?_;exact⟨_,⟨rfl,i+1,_,by omega,.inl hlt,rfl,rfl,rfl,Q2a (by omega),by rw[hnx];exact H.swap⟩,by omega⟩
 ·have he:V2u P (fun q=>decide (0≤q)) i=V4y P:=by
   unfold V4y
   rcases hi2 with h1|rfl
   ·rw[show i=P.length by omega]
   ·rw[Y7x]
    symm
    rw[List.eq_nil_iff_forall_not_mem];intro x hx;have:=V1d.1 hx;omega
  rw[he] at H;refine J3 H ?_;have H:=(Q6y H).swap;exact Q0g (Jy H rfl fun w' H'=>H')
theorem Z7a [Q0i] (p:Nat) (P:List Int) (id:Int) (hl:P.length≤1000000) {w:World} {fr:List Q0e} (H:Q0a w (RTR p P::fr)) :
  Calls Tryz.prog 43 #[pp p,.int .i64 id] w (ret fun v w'=>Q0a w' (NL v (Y7w P id)::RTR p P::fr)):=by
 refine Q0c Tryz.func43 rfl (by kernel_rfl) ?_;refine U4j H ?_;refine Q1l (fun ms σ w n=>ms=[]∧∃ (i:Nat) (g:Value),1≤i∧(i≤P.length∨i=1)∧n=P.length - i∧σ 0=pp p∧σ 1 = .int .i64 id∧σ 5=g∧σ 6 = .int .i64 i∧Q0a w (NL g (V2u P (fun q=>q == id) i)::RTR p P::fr)) (m:=P.length - 1) ⟨rfl,1,_,by omega,.inr rfl,rfl,rfl,rfl,rfl,rfl,Q3x H⟩ ?_;clear H;rintro ms σ w n ⟨rfl,i,g,hi1,hi2,rfl,g0,g1,g3,g4,H⟩;obtain⟨ag,mg,cg,rfl⟩:=Q1d H;obtain⟨a,c,H⟩:=Q9c H.swap;rw[Q0b g0,Q0b g1,Q0b g3,Q0b g4];refine J78 H ?_;refine Q2d rfl (fun h=>Q0w ?_) (fun h=>Q1n ?_)
 ·have hlt:i < P.length:=by omega
  obtain⟨b,s,rfl,H,hclose⟩:=Q0y H.swap (by omega);have hc:=V0f (P:=P) (s:=s) (i:=i) (by omega);have hnx:=Y2v P (fun q=>q == id) i hi1;generalize P.getD i 0=y at hc hnx;refine G9z H ?_;refine Jd ?_;refine Q0s rfl (Q0l H rfl hc rfl ?_);refine J2 H ?_;replace H:=Q6y (hclose _ _ H).swap;refine J7 H ?_;refine Q2d rfl (fun h=>?_) (fun h=>Q0w ?_)
  ·rw[if_pos (by simpa using h)] at hnx;refine U4k H ?_;clear H;intro b27 w H;replace H:=Js [2,0,0] 0 H;refine Q0s rfl (Q1t H rfl rfl (by repeat first|exact .nil _|apply Q0o.cons rfl) rfl (by decide) (by rw[Q0d];have:=V4n P (fun q=>q == id) i;simp only[List.length_cons,List.length_nil];omega) rfl rfl ?_);clear H;intro v25 w H;obtain⟨a25,m25,c25,rfl⟩:=Q1d H;refine U2h H ?_;replace H:=Js [0,1] 1 H;refine⟨_,⟨rfl,i+1,_,by omega,.inl hlt,rfl,rfl,rfl,rfl,Q2a (by omega),?_⟩,by omega⟩;rw[hnx];show Q0a w (sls _ 1 _ (Q0u (_++[i]))::_);rw[Q3s];exact H
  ·rw[if_neg (by simpa using h),List.append_nil] at hnx;refine J11 H ?_;exact⟨_,⟨rfl,i+1,_,by omega,.inl hlt,rfl,rfl,rfl,rfl,Q2a (by omega),by rw[hnx];exact H.swap⟩,by omega⟩
 ·have he:V2u P (fun q=>q == id) i=Y7w P id:=by
   unfold Y7w
   rcases hi2 with h1|rfl
   ·rw[show i=P.length by omega]
   ·rw[Y7x]
    symm
    rw[List.eq_nil_iff_forall_not_mem];intro x hx;have:=V1d.1 hx;omega
  rw[he] at H;refine J3 H ?_;have H:=(Q6y H).swap;exact Q0g (Jy H rfl fun w' H'=>H')
def Y1e (P:List Int) (parent:Int):Nat:=if parent≠0∧Q5k P parent=false then 6 else if 64≤(V4y P).length then 5 else 0
theorem Y7y [Q0i] (p:Nat) (P:List Int) (parent:Int) (hl:P.length≤100000) (h1:1≤P.length) {w:World} {fr:List Q0e} (H:Q0a w (RTR p P::fr)) :
  Calls Tryz.prog 178 #[pp p,.int .i64 parent] w (ret fun v w'=>(Y1e P parent≠0∧v = .tuple #[.int .i64 0,.int .i64 (Y1e P parent)]∧Q0a w' (RTR p P::fr)) ∨
   (Y1e P parent=0∧v = .tuple #[.int .i64 P.length,.int .i64 0]∧Q0a w' (RTR p (P++[parent])::fr))):=by
 refine Q0c Tryz.func178 rfl (by kernel_rfl) ?_;refine J68 H ?_;refine Jc rfl rfl (Q7f p P parent H) ?_;clear H;rintro v w ⟨rfl,H⟩;generalize hlv:Q5k P parent=lv;refine J18 H ?_;refine Q1m (fun ms σ w=>ms=[]∧(∃ q,σ 16 = .bool q∧(q=true↔parent≠0∧Q5k P parent=false))∧σ 0=pp p∧σ 1 = .int .i64 parent∧Q0a w (RTR p P::fr)) ?_ ?_
 ·refine J6 H ?_;by_cases h0:parent=0
  ·rw[show (parent != 0)=false by simpa using h0];refine Jv ?_;refine G8i H ?_;refine J0 H ?_;exact⟨rfl,rfl,⟨false,rfl,by simp[h0]⟩,rfl,rfl,H⟩
  ·rw[show (parent != 0)=true by simpa using h0];refine J72 H ?_;refine J0 H ?_;exact⟨rfl,rfl,⟨!lv,rfl,by simp[h0,hlv]⟩,rfl,rfl,H⟩
 clear H;rintro ms σ w ⟨rfl,⟨q,g16,hq⟩,g0,g1,H⟩;rw[Q0b g16,Q0b g0,Q0b g1];cases q with
 | true=>
  have he:Y1e P parent=6:=by unfold Y1e;rw[if_pos (hq.1 rfl)]
  refine J28 H ?_;exact Q0g (Jy H rfl fun w' H' => .inl ⟨by omega,by rw[he];rfl,H'⟩)
 | false=>
  have hq':¬ (parent≠0∧Q5k P parent=false):=fun h=>by have:=hq.2 h;cases this
  refine U1y H ?_;refine Jc rfl rfl (V7y p P (by omega) H) ?_;clear H;intro v w H;obtain⟨aa,ca,rfl⟩:=Q0j H (Q0d _) (by decide);refine U7c H ?_;by_cases h64:64≤(V4y P).length
  ·have he:Y1e P parent=5:=by unfold Y1e;rw[if_neg hq',if_pos h64]
   rw[show decide (((V4y P).length:Int)≥64)=true from decide_eq_true (by omega)];refine J28 H ?_;exact Q0g (Jy H.drop rfl fun w' H' => .inl ⟨by omega,by rw[he];rfl,H'⟩)
  ·have he:Y1e P parent=0:=by unfold Y1e;rw[if_neg hq',if_neg h64]
   rw[show decide (((V4y P).length:Int)≥64)=false from decide_eq_false (by omega)];refine J9 H ?_;replace H:=H.drop;obtain⟨a,c,H⟩:=Q9c H;refine U4s H ?_;refine J35 H ?_;clear H;intro b28 w H;replace H:=Js [2,0,0] 0 H;refine Q0s rfl (Q1t H rfl rfl (by repeat first|exact .nil _|apply Q0o.cons rfl) rfl (by decide) (by rw[Q0r];simp only[List.length_cons,List.length_nil];omega) rfl rfl ?_);clear H;intro v29 w H;have e1:Q1g P++[.int .i64 parent]=Q1g (P++[parent]):=by rw[Q5i];rfl
   rw[e1] at H;obtain⟨a29,c29,rfl⟩:=Q0j H (Q0r _) (by decide);refine J40 H ?_;clear H;intro w H;refine Q0h ?_;refine U7e H ?_;refine U2a H ?_;replace H:=Js [2,0] 1 H;refine Q0g (Jy (Q6y H) rfl fun w' H' => .inr ⟨he,?_,H'⟩);show Value.tuple #[.int .i64 (IntKind.i64.wrap (((P++[parent]).length:Int) - 1)),_]=_;rw[show (P++[parent]).length=P.length+1 by simp,Q1e (by omega) (by omega),show (((P.length+1:Nat):Int)) - 1=(P.length:Int) by omega];rfl
end Go.Proofs.YtmjdnljneifpcaaGreatDoor
namespace Go.Proofs.YtmjdnljneifpcaaGreatDoor
open Go.SL
structure Mob where
 region:Nat
 lay:Nat
 count:Nat
 w:List Nat
 kind:List Nat
 to:List Nat
 held:Bool
 pinned:Bool
 gone:Bool
structure MS where
 P:List Int
 lays:List Lay
 objs:List Mob
structure V2v (lays:List Lay) (n:Nat) (x:Mob):Prop where
 lay:∃ l,lays[x.lay - 1]? = some l∧Q2y l∧Q3q l x.count=(x.w.length,0)
 lay1:1≤x.lay
 kind:x.kind.length=x.w.length
 to:x.to.length=x.w.length
 goes:∀ p,x.kind[p]? = some 2→x.to.getD p 0 < n
structure MWF (m:MS):Prop where
 P:1≤m.P.length∧m.P.length≤100000
 lays:m.lays.length≤64∧∀ l∈m.lays,Q2y l
 objs:∀ x∈m.objs,V2v m.lays m.objs.length x
 few:m.objs.length≤100000
def V0g (m:MS) (x:Mob):Lay:=(m.lays[x.lay - 1]?).getD ⟨0,[],0,[]⟩
theorem U0n {lays:List Lay} {P:List Int} {os:List Mob} {n:Nat} {x:Mob} (h:V2v lays n x):lays[x.lay - 1]? = some (V0g ⟨P,lays,os⟩ x)∧Q2y (V0g ⟨P,lays,os⟩ x)∧Q3q (V0g ⟨P,lays,os⟩ x) x.count=(x.w.length,0):=by
 obtain⟨l,h1,h2,h3⟩:=h.lay;have:V0g ⟨P,lays,os⟩ x=l:=by unfold V0g;rw[h1];rfl
 rw[this];exact⟨h1,h2,h3⟩
structure OC where
 ptr:Nat
 vw:Value
 vk:Value
 vt:Value
 ob:Mob
@[reducible] def Z7b (vw vk vt:Value) (x:Mob):Obj:=row 76 [.int .i64 x.region,.int .i64 x.lay,.int .i64 x.count,vw,vk,vt,.bool x.held,.bool x.pinned,.bool x.gone]
@[reducible] def ocr (x:OC):Q0e:=star [pts x.ptr (Z7b x.vw x.vk x.vt x.ob),UL x.vw x.ob.w,NL x.vk x.ob.kind,NL x.vt x.ob.to]
structure MQ where
 t:Nat
 vL:Value
 lc:List LyC
 vO:Value
 oc:List OC
def Q2p (p:Nat) (m:MS):Q0e:=ex fun q:MQ=>star [prop (MWF m∧q.lc.map (·.2.2)=m.lays∧q.oc.map (·.ob)=m.objs),pts p (row 58 [pp q.t,q.vL,q.vO]),RTR q.t m.P,sls 102 4 q.vL (Q2f q.lc),star (q.lc.map V2q),sls 77 1 q.vO (q.oc.map fun x=>pp x.ptr),star (q.oc.map ocr)]
theorem Q2t [Q0i] {w:World} {p:Nat} {m:MS} {l:List Q0e} (H:Q0a w (Q2p p m::l)):∃ (t:Nat) (lc:List LyC) (oc:List OC) (aL:Option Addr) (cL:Nat) (aO:Option Addr) (cO:Nat),MWF m∧lc.map (·.2.2)=m.lays∧oc.map (·.ob)=m.objs∧lc.length=m.lays.length∧oc.length=m.objs.length ∧
  Q0a w (pts p (row 58 [pp t,.slice aL m.lays.length cL,.slice aO m.objs.length cO])::RTR t m.P::sls 102 4 (.slice aL m.lays.length cL) (Q2f lc)::star (lc.map V2q)::sls 77 1 (.slice aO m.objs.length cO) (oc.map fun x=>pp x.ptr)::star (oc.map ocr)::l):=by
 obtain⟨⟨t,vL,lc,vO,oc⟩,H⟩:=Q0a.ex.1 H;have H:=Q0a.star.1 H;obtain⟨⟨h1,h2,h3⟩,H⟩:=Q0a.prop.1 H;have hl1:lc.length=m.lays.length:=by rw[← h2,List.length_map]
 have hl2:oc.length=m.objs.length:=by rw[← h3,List.length_map]
 obtain⟨aL,cL,rfl⟩:=Q0j (H.drop.drop) (Q4h lc) (by decide);obtain⟨aO,cO,rfl⟩:=Q0j (m:=oc.length) (H.drop.drop.drop.drop) (by simp) (by decide);refine⟨t,lc,oc,aL,cL,aO,cO,h1,h2,h3,hl1,hl2,?_⟩;rw[← hl1,← hl2];exact H
theorem Q2v [Q0i] {w:World} {p t:Nat} {m:MS} {l:List Q0e} {lc:List LyC} {oc:List OC} {vL vO:Value} (h1:MWF m) (h2:lc.map (·.2.2)=m.lays) (h3:oc.map (·.ob)=m.objs)
  (H:Q0a w (pts p (row 58 [pp t,vL,vO])::RTR t m.P::sls 102 4 vL (Q2f lc)::star (lc.map V2q)::sls 77 1 vO (oc.map fun x=>pp x.ptr)::star (oc.map ocr)::l)):Q0a w (Q2p p m::l):=
 Q0a.ex.2 ⟨⟨t,vL,lc,vO,oc⟩,Q0a.star.2 (Q0a.prop.2 ⟨⟨h1,h2,h3⟩,H⟩)⟩
theorem Q4i [Q0i] {w:World} {p:Nat} {m:MS} {l:List Q0e} (H:Q0a w (Q2p p m::l)) {o:Nat} {x:Mob} (ho:m.objs[o]? = some x):∃ (t:Nat) (lc:List LyC) (aL:Option Addr) (cL bO cO:Nat) (s ptrs:List Value) (q:Nat) (vw vk vt:Value) (rest:List Q0e),MWF m∧lc.map (·.2.2)=m.lays∧(ptrs++s)[0+o*1]? = some (pp q) ∧
  Q0a w (pts q (Z7b vw vk vt x)::UL vw x.w::NL vk x.kind::NL vt x.to::pts bO (row 77 (ptrs++s))::pts p (row 58 [pp t,.slice aL m.lays.length cL,.slice (some ⟨bO,0,none⟩) m.objs.length cO])::sls 102 4 (.slice aL m.lays.length cL) (Q2f lc)::star (lc.map V2q)::RTR t m.P::star rest::l) ∧
  ∀ (w':World) (l':List Q0e) (x':Mob),MWF { m with objs:=m.objs.set o x' }→Q0a w' (pts q (Z7b vw vk vt x')::UL vw x'.w::NL vk x'.kind::NL vt x'.to::pts bO (row 77 (ptrs++s))::pts p (row 58 [pp t,.slice aL m.lays.length cL,.slice (some ⟨bO,0,none⟩) m.objs.length cO])::sls 102 4 (.slice aL m.lays.length cL) (Q2f lc)::star (lc.map V2q)::RTR t m.P::star rest::l')→Q0a w' (Q2p p { m with objs:=m.objs.set o x' }::l'):=by
 obtain⟨t,lc,oc,aL,cL,aO,cO,h1,h2,h3,hl1,hl2,H⟩:=Q2t H;have hol:o < m.objs.length:=(List.getElem?_eq_some_iff.1 ho).1
 obtain⟨y,hy,hyx⟩:∃ y,oc[o]? = some y∧y.ob=x:=by
  rw[← h3,List.getElem?_map,Option.map_eq_some_iff] at ho;exact ho
 obtain⟨q,vw,vk,vt,x1⟩:=y;obtain rfl:x1=x:=hyx;have hpk:=SL.split_at hy;replace H:=Js [4,4,0,0,0,0] 0 H;obtain⟨bO,s,rfl,H,hclose⟩:=Q0y H (by omega);replace H:=Js [1,0,0,0,0,0] 0 H;have H:=Q0a.star.1 ((Q0a.pick (R:=ocr) hpk).1 H);replace H:Q0a w (pts q (Z7b vw vk vt x1)::UL vw x1.w::NL vk x1.kind::NL vt x1.to::star ((oc.take o++oc.drop (o+1)).map ocr)::pts bO (row 77 ((oc.map fun x=>pp x.ptr)++s))::pts p (row 58 [pp t,.slice aL m.lays.length cL,.slice (some ⟨bO,0,none⟩) m.objs.length cO])::RTR t m.P::sls 102 4 (.slice aL m.lays.length cL) (Q2f lc)::star (lc.map V2q)::l):=H;refine⟨t,lc,aL,cL,bO,cO,s,oc.map fun x=>pp x.ptr,q,vw,vk,vt,(oc.take o++oc.drop (o+1)).map ocr,h1,h2,?_,?_,?_⟩
 ·rw[Nat.zero_add,Nat.mul_one,List.getElem?_append_left (by simp;omega),List.getElem?_map,hy];rfl
 ·replace H:=Js [0,0,0,0,1,1,2,2,1,0] 0 H;exact H
 ·intro w' l' x' hm' H;replace H:=Js [0,0,0,0,5,0,0,2,0,0] 0 H;have H:=(Q0a.pick (R:=ocr) (x:=⟨q,vw,vk,vt,x'⟩) (g1:=oc.take o) (g2:=oc.drop (o+1)) rfl).2 (Q0a.star.2 H);rw[← SL.set_split hy] at H;replace H:=Js [1,0,0,0,0,0] 0 H;have H:=hclose _ _ H
  have hp:(oc.map fun x=>pp x.ptr)=((oc.set o ⟨q,vw,vk,vt,x'⟩).map fun x=>pp x.ptr):=by
   rw[List.map_set]
   symm
   apply List.ext_getElem?;intro i;rw[List.getElem?_set];split
   ·rename_i hi;subst hi;rw[List.getElem?_map,hy];simp;omega
   ·rfl
  rw[hp] at H;replace H:=Js [2,2,2,2,0,0] 0 H;have hs:({ m with objs:=m.objs.set o x' }:MS).objs=m.objs.set o x':=rfl;exact Q2v (m:={ m with objs:=m.objs.set o x' }) hm' h2 (by rw[List.map_set,h3]) H
def Q7m (m:MS) (o:Int):Option (Nat×Mob):=
 if 0≤o then
  match m.objs[o.toNat]? with
  | some x=>if x.held && !x.gone then some (o.toNat,x) else none
  | none=>none
 else none
theorem V4o (m:MS) (o:Nat):Q7m m o=match m.objs[o]? with|some x=>if x.held && !x.gone then some (o,x) else none|none=>none:=by
 unfold Q7m;rw[if_pos (by omega),Int.toNat_natCast]
def Q2l (m:MS) (o place:Int) (ref:Bool):Nat:=
 match Q7m m o with
 | none=>8
 | some (_,x)=>Q0x (V0g m x) x.w.length place ref
theorem Q3j [Q0i] {w:World} {p:Nat} {m:MS} {l:List Q0e} {o:Nat} {x:Mob} (ho:m.objs[o]? = some x) (H:Q0a w (Q2p p { m with objs:=m.objs.set o x }::l)):Q0a w (Q2p p m::l):=by
 have:m.objs.set o x=m.objs:=by
  apply List.ext_getElem?;intro i;rw[List.getElem?_set];split
  ·rename_i hi;subst hi;rw[ho];have:=(List.getElem?_eq_some_iff.1 ho).1;simp[this]
  ·rfl
 rw[this] at H;exact H
theorem Q8b {m:MS} {o:Nat} {x:Mob} (ho:m.objs[o]? = some x) (h:MWF m):MWF { m with objs:=m.objs.set o x }:=by
 have:m.objs.set o x=m.objs:=by
  apply List.ext_getElem?;intro i;rw[List.getElem?_set];split
  ·rename_i hi;subst hi;rw[ho];have:=(List.getElem?_eq_some_iff.1 ho).1;simp[this]
  ·rfl
 rw[this];exact h
theorem Q7g [Q0i] (p:Nat) (m:MS) (o:Int) {w:World} {fr:List Q0e} (H:Q0a w (Q2p p m::fr)) :
  Calls Tryz.prog 38 #[pp p,.int .i64 o] w (ret fun v w'=>v = .bool (Q7m m o).isSome∧Q0a w' (Q2p p m::fr)):=by
 by_cases h0:o≥0
 ·obtain⟨k,rfl⟩:∃ k:Nat,o=k:=⟨o.toNat,by omega⟩;by_cases h1:k < m.objs.length
  ·have hx:=List.getElem?_eq_getElem h1;generalize m.objs[k]=x at hx;have hv:Q7m m k=if x.held && !x.gone then some (k,x) else none:=by rw[V4o,hx]
   obtain⟨t,lc,aL,cL,bO,cO,s,ptrs,q,vw,vk,vt,rest,hm,h2,hp,H,hclose⟩:=Q4i H hx;have hm':=Q8b hx hm;obtain⟨xr,xl,xc,xw,xk,xt,xh,xp,xg⟩:=x;refine Q0c Tryz.func38 rfl (by kernel_rfl) ?_;refine J59 H ?_;rw[show decide ((k:Int)≥0)=true from decide_eq_true (by omega)];refine J92 H ?_;rw[show decide ((k:Int) < (m.objs.length:Int))=true from decide_eq_true (by omega)];refine U7u H ?_;refine Q4u rfl rfl rfl (Q2k rfl rfl (by omega) (by omega) rfl ?_);refine Q4u rfl rfl rfl (Q0l H rfl hp rfl ?_);cases xh with
   | true=>
    refine J25 H ?_;refine J53 H ?_;refine U7u H ?_;refine Q4u rfl rfl rfl (Q2k rfl rfl (by omega) (by omega) rfl ?_);refine Q4u rfl rfl rfl (Q0l H rfl hp rfl ?_);refine U7a H ?_;refine J2 H ?_;refine Q0g (Jy (Q3j hx (hclose _ _ _ hm' H)) rfl fun w' H'=>⟨?_,H'⟩);rw[hv];cases xg <;> rfl
   | false=>
    refine J25 H ?_;refine J53 H ?_;refine J65 H ?_;refine U4e H ?_;refine J2 H ?_;refine Q0g (Jy (Q3j hx (hclose _ _ _ hm' H)) rfl fun w' H'=>⟨?_,H'⟩);rw[hv];rfl
  ·have hv:Q7m m k=none:=by rw[V4o,List.getElem?_eq_none (by omega)]
   obtain⟨t,lc,oc,aL,cL,aO,cO,a1,a2,a3,a4,a5,H⟩:=Q2t H;refine Q0c Tryz.func38 rfl (by kernel_rfl) ?_;refine J59 H ?_;rw[show decide ((k:Int)≥0)=true from decide_eq_true (by omega)];refine J92 H ?_;rw[show decide ((k:Int) < (m.objs.length:Int))=false from decide_eq_false (by omega)];refine U7v H ?_;refine G8i H ?_;refine J65 H ?_;refine U4e H ?_;refine J2 H ?_;refine Q0g (Jy (Q2v a1 a2 a3 H) rfl fun w' H'=>⟨?_,H'⟩);rw[hv];rfl
 ·have hv:Q7m m o=none:=by unfold Q7m;rw[if_neg (by omega)]
  refine Q0c Tryz.func38 rfl (by kernel_rfl) ?_;refine J59 H ?_;rw[show decide (o≥0)=false from decide_eq_false (by omega)];refine U4g H ?_;refine U7v H ?_;refine G8i H ?_;refine J65 H ?_;refine U4e H ?_;refine J2 H ?_;refine Q0g (Jy H rfl fun w' H'=>⟨?_,H'⟩);rw[hv];rfl
end Go.Proofs.YtmjdnljneifpcaaGreatDoor
namespace Go.Proofs.YtmjdnljneifpcaaGreatDoor
open Go.SL
theorem Z1r [Q0i] {w:World} {aL:Option Addr} {n cL:Nat} {lc:List LyC} {l:List Q0e} (hn:lc.length=n) (H:Q0a w (sls 102 4 (.slice aL n cL) (Q2f lc)::star (lc.map V2q)::l)) {i:Nat} {y:LyC} (hy:lc[i]? = some y) :
  ∃ (bL:Nat) (s:List Value) (D1 D2 R:Q0e),aL=some ⟨bL,0,none⟩∧Q0a w (pts bL (row 102 (Q2f lc++s))::D1::D2::R::l)∧(∀ l',RdL (D1::D2::l') y.1 y.2.1 y.2.2) ∧
   ∀ (w':World) (l':List Q0e),Q0a w' (pts bL (row 102 (Q2f lc++s))::D1::D2::R::l')→Q0a w' (sls 102 4 (.slice aL n cL) (Q2f lc)::star (lc.map V2q)::l'):=by
 have hi:i < lc.length:=(List.getElem?_eq_some_iff.1 hy).1;have hpk:=SL.split_at hy;obtain⟨vr,vq,l'⟩:=y;obtain⟨bL,s,rfl,H,hclose⟩:=Q0y H (by omega);have H:=Q0a.star.1 ((Q0a.pick (R:=V2q) hpk).1 H.swap);replace H:Q0a w (NL vr l'.refs::NL vq l'.recs::star ((lc.take i++lc.drop (i+1)).map V2q)::pts bL (row 102 (Q2f lc++s))::l):=H;obtain⟨D1,H,hD1,hC1⟩:=sls_rd H (Q0d _) (by decide);obtain⟨D2,H,hD2,hC2⟩:=sls_rd H.swap (Q0d _) (by decide);replace H:=Js [3,0,0,0] 0 H;refine⟨bL,s,D2,D1,star ((lc.take i++lc.drop (i+1)).map V2q),rfl,H,fun l'=>⟨(hD1 _).there,hD2 _⟩,?_⟩;intro w' l2 H;replace H:=Js [1,1,1,0] 0 H;have H:=hC1 _ _ (hC2 _ _ H).swap;replace H:=Js [0,0,0,0] 0 H;have H:=(Q0a.pick (R:=V2q) hpk).2 (Q0a.star.2 H);exact hclose _ _ H.swap
theorem Q4w {m:MS} {w:MWF m} {x:Mob} {o:Nat} (h:m.objs[o]? = some x):x.w.length < 8192:=by
 obtain⟨l,_,_,h⟩:=(w.objs x (List.mem_of_getElem? h)).lay;unfold Q3q at h;split at h
 ·injection h with h1 h2;cases h2
 ·split at h
  ·injection h with h1 h2;cases h2
  ·injection h with h1 h2;omega
theorem Q5c {m:MS} {o:Int} {k:Nat} {x:Mob} (h:Q7m m o=some (k,x)):o=k∧m.objs[k]? = some x∧x.held=true∧x.gone=false:=by
 unfold Q7m at h;split at h
 ·split at h
  ·rename_i y hy;split at h
   ·rename_i hh;injection h with h
    injection h with h1 h2
    subst h1 h2;have hh':=Bool.and_eq_true_iff.1 hh;exact⟨by omega,hy,hh'.1,by simpa using hh'.2⟩
   ·cases h
  ·cases h
 ·cases h
theorem G8w {m:MS} (h:MWF m) {lc:List LyC} (hl:lc.map (·.2.2)=m.lays) {x:Mob} {o:Nat} (hx:m.objs[o]? = some x):∃ y:LyC,lc[x.lay - 1]? = some y∧y.2.2=V0g m x∧1≤x.lay∧x.lay≤lc.length∧Q2y (V0g m x)∧Q3q (V0g m x) x.count=(x.w.length,0):=by
 have hm:=h.objs x (List.mem_of_getElem? hx);obtain⟨h1,h2,h3⟩:=U0n (P:=m.P) (os:=m.objs) hm;have h1':m.lays[x.lay - 1]? = some (V0g m x):=h1;have h3':(lc.map (·.2.2))[x.lay - 1]? = some (V0g m x):=by rw[hl];exact h1'
 rw[List.getElem?_map,Option.map_eq_some_iff] at h3';obtain⟨y,hy,e⟩:=h3';have:=(List.getElem?_eq_some_iff.1 hy).1;have:=hm.lay1;exact⟨y,hy,e,hm.lay1,by omega,h2,h3⟩
theorem Y7z {l:Lay} {c:Nat} {n p:Nat} (h:Q3q l c=(n,0)) (hp:p < n):l.record≠0∨p < l.fixed:=by
 unfold Q3q at h;split at h
 ·injection h with h1 h2;cases h2
 ·split at h
  ·injection h with h1 h2;cases h2
  ·injection h with h1 h2
   by_cases h0:l.record=0
   ·rw[h0] at h1;right;omega
   ·left;exact h0
theorem Q6j [Q0i] (p:Nat) (m:MS) (o place:Int) (ref:Bool) {w:World} {fr:List Q0e} (H:Q0a w (Q2p p m::fr)) :
  Calls Tryz.prog 164 #[pp p,.int .i64 o,.int .i64 place,.bool ref] w (ret fun v w'=>v = .int .i64 (Q2l m o place ref:Nat)∧Q0a w' (Q2p p m::fr)):=by
 refine Q0c Tryz.func164 rfl (by kernel_rfl) ?_;refine J59 H ?_;refine Jc rfl rfl (Q7g p m o H) ?_;clear H;rintro v w ⟨rfl,H⟩;refine J0 H ?_;cases hv:Q7m m o with
 | none=>
  have hr:Q2l m o place ref=8:=by unfold Q2l;rw[hv]
  refine U2o H ?_;refine Q0g (Jy H rfl fun w' H'=>⟨by rw[hr];rfl,H'⟩)
 | some kx=>
  obtain⟨k,x⟩:=kx;obtain⟨rfl,hx,hh,hg⟩:=Q5c hv;have hr:Q2l m k place ref=Q0x (V0g m x) x.w.length place ref:=by unfold Q2l;rw[hv]
  have hkl:=(List.getElem?_eq_some_iff.1 hx).1;obtain⟨t,lc,aL,cL,bO,cO,s,ptrs,q,vw,vk,vt,rest,hm,h2,hp,H,hclose⟩:=Q4i H hx;have hm':=Q8b hx hm;obtain⟨y,hy,hyl,hl1,hl2,hR,hsz⟩:=G8w hm h2 hx;obtain⟨aw,cw,rfl⟩:=Q0j H.drop (Q1f _) (by decide);refine J47 H ?_;refine J10 H ?_;refine Jd ?_;refine Q0s rfl (Q0l H rfl hp rfl ?_);refine J0 H ?_;refine J6 H ?_;by_cases h1:place < 0∨(x.w.length:Int)≤place
  ·have hr':Q2l m k place ref=3:=by rw[hr];unfold Q0x;rw[if_pos h1]
   by_cases h0:place < 0
   ·rw[show decide (place < 0)=true from decide_eq_true (by omega)];refine U4g H ?_;refine J51 H ?_;refine Q0g (Jy (Q3j hx (hclose _ _ _ hm' H)) rfl fun w' H'=>⟨by rw[hr'];rfl,H'⟩)
   ·rw[show decide (place < 0)=false from decide_eq_false (by omega)];refine J92 H ?_;rw[show decide (place≥(x.w.length:Int))=true from decide_eq_true (by omega)];refine J51 H ?_;refine Q0g (Jy (Q3j hx (hclose _ _ _ hm' H)) rfl fun w' H'=>⟨by rw[hr'];rfl,H'⟩)
  ·obtain⟨j,rfl⟩:∃ j:Nat,place=j:=⟨place.toNat,by omega⟩;have hsm:=Q4w (w:=hm) hx;rw[show decide ((j:Int) < 0)=false from decide_eq_false (by omega)];refine J92 H ?_;rw[show decide ((j:Int)≥(x.w.length:Int))=false from decide_eq_false (by omega)];refine J17 H ?_;replace H:=Js [6,6,0,0,0,0,0,0,0,0] 0 H;obtain⟨bL,sL,D1,D2,R,rfl,H,hD,hcl⟩:=Z1r (by rw[← h2,List.length_map]) H hy;obtain⟨vr,vq,ly⟩:=y;obtain rfl:ly=V0g m x:=hyl;refine J1 H ?_;clear H;intro w H;refine J27 H ?_;refine Jl 3 [12] H ?_;refine U7n H ?_;refine Jl 7 [12] H ?_;refine Ja 8 ?_;rw[show IntKind.i64.wrap ((x.lay:Int) - 1)=((x.lay - 1:Nat):Int) by rw[Q1e (by omega) (by have:=hm.lays.1;rw[← h2,List.length_map] at this;omega)];omega];refine Q4z 9 rfl (Q0n.none rfl) rfl rfl (by omega) (by rw[← h2,List.length_map];omega) (by kernel_rfl) ?_;refine Q1w 10 [12] H rfl (Q0n.none rfl) rfl (Q8u hy) (by kernel_rfl) ?_;refine Ja 11 ?_;refine Jo 12 H ?_;refine Jk rfl rfl (V9e vr vq (V0g m x) hR j (Y7z hsz (by omega)) (by omega) ((hD _).there) H) ?_;clear H;rintro v w ⟨rfl,H⟩;refine G8m H ?_;replace H:=hcl _ _ H;replace H:=Js [2,2,2,2,2,2,0,0,0,0] 0 H;replace H:=Q3j hx (hclose _ _ _ hm' H);generalize hbb:Q2h (V0g m x) j=bb;cases bb with
   | true=>
    cases ref with
    | true=>
     refine U7w H ?_;have hr':Q2l m k j true=0:=by rw[hr];unfold Q0x;rw[if_neg h1,Int.toNat_natCast,if_neg (by rw[hbb];decide)]
     refine J98 H ?_;refine Q0g (Jy H rfl fun w' H'=>⟨by rw[hr'];rfl,H'⟩)
    | false=>
     refine U7w H ?_;have hr':Q2l m k j false=9:=by rw[hr];unfold Q0x;rw[if_neg h1,Int.toNat_natCast,if_pos (by rw[hbb];decide)]
     refine J21 H ?_;refine Q0g (Jy H rfl fun w' H'=>⟨by rw[hr'];rfl,H'⟩)
   | false=>
    cases ref with
    | true=>
     refine U7w H ?_;have hr':Q2l m k j true=9:=by rw[hr];unfold Q0x;rw[if_neg h1,Int.toNat_natCast,if_pos (by rw[hbb];decide)]
     refine J21 H ?_;refine Q0g (Jy H rfl fun w' H'=>⟨by rw[hr'];rfl,H'⟩)
    | false=>
     refine U7w H ?_;have hr':Q2l m k j false=0:=by rw[hr];unfold Q0x;rw[if_neg h1,Int.toNat_natCast,if_neg (by rw[hbb];decide)]
     refine J98 H ?_;refine Q0g (Jy H rfl fun w' H'=>⟨by rw[hr'];rfl,H'⟩)
@[reducible] def V7z (m:MS) (k:Nat) (x:Mob):MS:={ m with objs:=m.objs.set k x }
theorem V2w {m:MS} (h:MWF m) {o:Nat} {x:Mob} (hx:V2v m.lays m.objs.length x):MWF (V7z m o x):=by
 refine⟨h.P,h.lays,fun y hy=>?_,by show (m.objs.set o x).length≤_;rw[List.length_set];exact h.few⟩;have hl:(m.objs.set o x).length=m.objs.length:=List.length_set;show V2v m.lays (m.objs.set o x).length y;rw[hl]
 rcases List.mem_or_eq_of_mem_set hy with hy|rfl
 ·exact h.objs y hy
 ·exact hx
def V2a (m:MS) (o:Int):MS×Nat:=
 match Q7m m o with
 | none=>(m,8)
 | some (k,x)=>(V7z m k { x with held:=false },0)
theorem Z1s [Q0i] (p:Nat) (m:MS) (o:Int) {w:World} {fr:List Q0e} (H:Q0a w (Q2p p m::fr)) :
  Calls Tryz.prog 172 #[pp p,.int .i64 o] w (ret fun v w'=>v = .int .i64 ((V2a m o).2:Nat)∧Q0a w' (Q2p p (V2a m o).1::fr)):=by
 refine Q0c Tryz.func172 rfl (by kernel_rfl) ?_;refine J59 H ?_;refine Jc rfl rfl (Q7g p m o H) ?_;clear H;rintro v w ⟨rfl,H⟩;refine J0 H ?_;cases hv:Q7m m o with
 | none=>
  have hr:V2a m o=(m,8):=by unfold V2a;rw[hv]
  rw[hr];refine U2o H ?_;refine Q0g (Jy H rfl fun w' H'=>⟨rfl,H'⟩)
 | some kx=>
  obtain⟨k,x⟩:=kx;have hr:V2a m o=(V7z m k { x with held:=false },0):=by unfold V2a;rw[hv]
  rw[hr];obtain⟨rfl,hx,hh,hg⟩:=Q5c hv;have hkl:=(List.getElem?_eq_some_iff.1 hx).1;obtain⟨t,lc,aL,cL,bO,cO,s,ptrs,q,vw,vk,vt,rest,hm,h2,hp,H,hclose⟩:=Q4i H hx;have hm':MWF (V7z m k { x with held:=false }):=V2w hm (by obtain⟨a,b,c,d,e⟩:=hm.objs x (List.mem_of_getElem? hx);exact⟨a,b,c,d,e⟩);refine J47 H ?_;refine J10 H ?_;refine Jd ?_;refine Q0s rfl (Q0l H rfl hp rfl ?_);refine J40 H ?_;clear H;intro w H;refine G9v H ?_;refine Q0g (Jy (hclose _ _ _ hm' H) rfl fun w' H'=>⟨rfl,H'⟩)
def Z0o (m:MS) (o:Int) (on:Bool):MS×Nat:=
 match Q7m m o with
 | none=>(m,8)
 | some (k,x)=>if x.pinned=on then (m,7) else (V7z m k { x with pinned:=on },0)
theorem Z7c [Q0i] (p:Nat) (m:MS) (o:Int) (on:Bool) {w:World} {fr:List Q0e} (H:Q0a w (Q2p p m::fr)) :
  Calls Tryz.prog 174 #[pp p,.int .i64 o,.bool on] w (ret fun v w'=>v = .int .i64 ((Z0o m o on).2:Nat)∧Q0a w' (Q2p p (Z0o m o on).1::fr)):=by
 refine Q0c Tryz.func174 rfl (by kernel_rfl) ?_;refine J59 H ?_;refine Jc rfl rfl (Q7g p m o H) ?_;clear H;rintro v w ⟨rfl,H⟩;refine J0 H ?_;cases hv:Q7m m o with
 | none=>
  have hr:Z0o m o on=(m,8):=by unfold Z0o;rw[hv]
  rw[hr];refine U2o H ?_;refine Q0g (Jy H rfl fun w' H'=>⟨rfl,H'⟩)
 | some kx=>
  obtain⟨k,x⟩:=kx;have hr:Z0o m o on=if x.pinned=on then (m,7) else (V7z m k { x with pinned:=on },0):=by unfold Z0o;rw[hv]
  rw[hr];obtain⟨rfl,hx,hh,hg⟩:=Q5c hv;have hkl:=(List.getElem?_eq_some_iff.1 hx).1;obtain⟨t,lc,aL,cL,bO,cO,s,ptrs,q,vw,vk,vt,rest,hm,h2,hp,H,hclose⟩:=Q4i H hx;have hm0:=Q8b hx hm;have hm':MWF (V7z m k { x with pinned:=on }):=V2w hm (by obtain⟨a,b,c,d,e⟩:=hm.objs x (List.mem_of_getElem? hx);exact⟨a,b,c,d,e⟩);refine J47 H ?_;obtain⟨xr,xl,xc,xw,xk,xt,xh,xp,xg⟩:=x;refine J10 H ?_;refine Jd ?_;refine Q0s rfl (Q0l H rfl hp rfl ?_);cases xp with
  | true=>
   cases on with
   | true=>
    refine U7x H ?_;refine Q0h ?_;refine J21 H ?_;refine Q0g (Jy (Q3j hx (hclose _ _ _ hm0 H)) rfl fun w' H'=>⟨rfl,H'⟩)
   | false=>
    refine U7x H ?_;refine U2p H ?_;refine J10 H ?_;refine Jd ?_;refine Q0s rfl (Q0l H rfl hp rfl ?_);refine J26 H ?_;refine J56 H ?_;clear H;intro w H;refine G9v H ?_;refine Q0g (Jy (hclose _ _ _ hm' H) rfl fun w' H'=>⟨rfl,H'⟩)
  | false=>
   cases on with
   | true=>
    refine U7x H ?_;refine U2p H ?_;refine J10 H ?_;refine Jd ?_;refine Q0s rfl (Q0l H rfl hp rfl ?_);refine J26 H ?_;refine J56 H ?_;clear H;intro w H;refine G9v H ?_;refine Q0g (Jy (hclose _ _ _ hm' H) rfl fun w' H'=>⟨rfl,H'⟩)
   | false=>
    refine U7x H ?_;refine Q0h ?_;refine J21 H ?_;refine Q0g (Jy (Q3j hx (hclose _ _ _ hm0 H)) rfl fun w' H'=>⟨rfl,H'⟩)
end Go.Proofs.YtmjdnljneifpcaaGreatDoor
namespace Go.Proofs.YtmjdnljneifpcaaGreatDoor
open Go.SL
theorem Q7h {l:List Nat} {spare:List Value} {i x:Nat} {v:Int} (h:i < l.length) (hv:v=(x:Nat)):(Q0u l++spare).set (0+i*1) (.int .i64 v)=Q0u (l.set i x)++spare:=by subst hv;exact V1p h
theorem Q2u {m:MS} {o place:Int} {ref:Bool} {k:Nat} {x:Mob} (h:Q7m m o=some (k,x)):Q2l m o place ref=Q0x (V0g m x) x.w.length place ref:=by unfold Q2l;rw[h]
theorem Q3z {m:MS} {o place:Int} {ref:Bool} (h:Q7m m o=none):Q2l m o place ref=8:=by unfold Q2l;rw[h]
def Z7d (m:MS) (o place:Int):MS×Nat:=
 match Q7m m o with
 | none=>(m,8)
 | some (k,x)=>if Q0x (V0g m x) x.w.length place true=0 then (V7z m k { x with kind:=x.kind.set place.toNat 0,to:=x.to.set place.toNat 0 },0) else (m,Q0x (V0g m x) x.w.length place true)
theorem Y8a {m:MS} {o place:Int} (h:Q7m m o=none):Z7d m o place=(m,8):=by unfold Z7d;rw[h]
theorem V9n {m:MS} {o place:Int} {k:Nat} {x:Mob} (h:Q7m m o=some (k,x)):Z7d m o place=if Q0x (V0g m x) x.w.length place true=0 then (V7z m k { x with kind:=x.kind.set place.toNat 0,to:=x.to.set place.toNat 0 },0) else (m,Q0x (V0g m x) x.w.length place true):=by unfold Z7d;rw[h]
theorem V9o {ls:List Lay} {n:Nat} {x:Mob} (h:V2v ls n x) (j kd t:Nat) (hk:kd=2→t < n):V2v ls n { x with kind:=x.kind.set j kd,to:=x.to.set j t }:=by
 obtain⟨a,b,c,d,e⟩:=h;refine⟨a,b,by show (x.kind.set j kd).length=_;rw[List.length_set];exact c,by show (x.to.set j t).length=_;rw[List.length_set];exact d,?_⟩;intro i (hi:(x.kind.set j kd)[i]? = some 2);show (x.to.set j t).getD i 0 < n;by_cases hji:j=i
 ·subst hji
  have hl:j < x.kind.length:=by
   have:=(List.getElem?_eq_some_iff.1 hi).1;simpa using this
  rw[List.getElem?_set_self hl] at hi;injection hi with hi
  rw[List.getD_eq_getElem?_getD,List.getElem?_set_self (by omega)];exact hk hi
 ·rw[List.getElem?_set_ne hji] at hi;have:=e i hi;rw[List.getD_eq_getElem?_getD,List.getElem?_set_ne hji,← List.getD_eq_getElem?_getD];exact this
theorem Z7e [Q0i] (p:Nat) (m:MS) (o place:Int) {w:World} {fr:List Q0e} (H:Q0a w (Q2p p m::fr)) :
  Calls Tryz.prog 170 #[pp p,.int .i64 o,.int .i64 place] w (ret fun v w'=>v = .int .i64 ((Z7d m o place).2:Nat)∧Q0a w' (Q2p p (Z7d m o place).1::fr)):=by
 refine Q0c Tryz.func170 rfl (by kernel_rfl) ?_;refine G9u H ?_;refine Jc rfl rfl (Q6j p m o place true H) ?_;clear H;rintro v w ⟨rfl,H⟩;refine J22 H ?_;by_cases h0:Q2l m o place true=0
 ·obtain⟨k,x,hv⟩:∃ k x,Q7m m o=some (k,x):=by
   cases hv:Q7m m o with
   | none=>rw[Q3z hv] at h0;cases h0
   | some kx=>exact⟨kx.1,kx.2,rfl⟩
  rw[Q2u hv] at h0 ⊢;rw[V9n hv,if_pos h0,h0];obtain⟨rfl,hx,hh,hg⟩:=Q5c hv;have hkl:=(List.getElem?_eq_some_iff.1 hx).1;obtain⟨j,rfl,hj,hr⟩:=Q3b h0;rw[Int.toNat_natCast];obtain⟨t,lc,aL,cL,bO,cO,s,ptrs,q,vw,vk,vt,rest,hm,h2,hp,H,hclose⟩:=Q4i H hx;have hob:=hm.objs x (List.mem_of_getElem? hx);have hkn:=hob.kind;have htn:=hob.to;have hsm:=Q4w (w:=hm) hx;obtain⟨ak,ck,rfl⟩:=Q0j H.drop.drop (Q0d _) (by decide);obtain⟨at',ct,rfl⟩:=Q0j H.drop.drop.drop (Q0d _) (by decide);replace H:=Js [2,0,0,0] 0 H;obtain⟨bk,sk,rfl,H,_,_,hck⟩:=Q2n H (by omega);replace H:=Js [3,0,0,0] 0 H;obtain⟨bt,st,rfl,H,_,_,hct⟩:=Q2n H (by omega);refine J13 H ?_;refine J10 H ?_;refine Jd ?_;refine Q0s rfl (Q0l H rfl hp rfl ?_);refine U4v H ?_;refine Jd ?_;refine Q0s rfl (Q2e H rfl rfl inferInstance rfl (by simp only[List.length_append,Q0d];omega) rfl ?_);clear H;intro w H;rw[Int.toNat_natCast,Q7h (v:=0) (x:=0) (by omega) rfl] at H;refine U7y H ?_;refine Jd ?_;refine Q0s rfl (Q0l H rfl hp rfl ?_);refine U4v H ?_;refine Jd ?_;refine Q0s rfl (Q2e H rfl rfl inferInstance rfl (by simp only[List.length_append,Q0d];omega) rfl ?_);clear H;intro w H;rw[Int.toNat_natCast,Q7h (v:=0) (x:=0) (by omega) rfl] at H;refine Q0h ?_;replace H:=Js [1,0,0,0] 0 H;replace H:=hck _ _ (Q0u (x.kind.set j 0)) (by simp[Q0u]) H;replace H:=Js [1,0,0,0] 0 H;replace H:=hct _ _ (Q0u (x.to.set j 0)) (by simp[Q0u]) H;replace H:=Js [2,2,1,0] 0 H;replace H:=hclose _ _ { x with kind:=x.kind.set j 0,to:=x.to.set j 0 } (V2w hm (V9o hob j 0 0 (by omega))) H;refine J3 H ?_;exact Q0g (Jy H rfl fun w' H'=>⟨rfl,H'⟩)
 ·have hc:Z7d m o place=(m,Q2l m o place true):=by
   cases hv:Q7m m o with
   | none=>rw[Y8a hv,Q3z hv]
   | some kx=>
    obtain⟨k,x⟩:=kx;rw[Q2u hv] at h0 ⊢;rw[V9n hv,if_neg h0]
  rw[hc,show (((Q2l m o place true:Nat):Int) == 0)=false by simpa using h0];refine U3y H ?_;exact Q0g (Jy H rfl fun w' H'=>⟨rfl,H'⟩)
def V7m (m:MS) (o place u:Int):MS×Nat:=
 match Q7m m o with
 | none=>(m,8)
 | some (k,x)=>if Q0x (V0g m x) x.w.length place true=0 then match Q7m m u with
  | none=>(m,8)
  | some (ku,_)=>(V7z m k { x with kind:=x.kind.set place.toNat 2,to:=x.to.set place.toNat ku },0)
  else (m,Q0x (V0g m x) x.w.length place true)
theorem Z7f [Q0i] (p:Nat) (m:MS) (o place u:Int) {w:World} {fr:List Q0e} (H:Q0a w (Q2p p m::fr)) :
  Calls Tryz.prog 168 #[pp p,.int .i64 o,.int .i64 place,.int .i64 u] w (ret fun v w'=>v = .int .i64 ((V7m m o place u).2:Nat)∧Q0a w' (Q2p p (V7m m o place u).1::fr)):=by
 refine Q0c Tryz.func168 rfl (by kernel_rfl) ?_;refine G9u H ?_;refine Jc rfl rfl (Q6j p m o place true H) ?_;clear H;rintro v w ⟨rfl,H⟩;refine J22 H ?_;by_cases h0:Q2l m o place true=0
 ·obtain⟨k,x,hv⟩:∃ k x,Q7m m o=some (k,x):=by
   cases hv:Q7m m o with
   | none=>rw[Q3z hv] at h0;cases h0
   | some kx=>exact⟨kx.1,kx.2,rfl⟩
  rw[Q2u hv] at h0 ⊢;rw[h0];refine U2g H ?_;refine Jc rfl rfl (Q7g p m u H) ?_;clear H;rintro v w ⟨rfl,H⟩;refine J0 H ?_;cases hu:Q7m m u with
  | none=>
   have hr:V7m m o place u=(m,8):=by unfold V7m;rw[hv];show (if Q0x _ _ _ _=0 then _ else _)=_;rw[if_pos h0,hu]
   rw[hr];refine U2o H ?_;exact Q0g (Jy H rfl fun w' H'=>⟨rfl,H'⟩)
  | some kx=>
  obtain⟨ku,xu⟩:=kx;have hr:V7m m o place u=(V7z m k { x with kind:=x.kind.set place.toNat 2,to:=x.to.set place.toNat ku },0):=by unfold V7m;rw[hv];show (if Q0x _ _ _ _=0 then _ else _)=_;rw[if_pos h0,hu]
  rw[hr];obtain⟨rfl,hx,hh,hg⟩:=Q5c hv;obtain⟨rfl,hxu,_,_⟩:=Q5c hu;have hkl:=(List.getElem?_eq_some_iff.1 hx).1;have hkul:=(List.getElem?_eq_some_iff.1 hxu).1;obtain⟨j,rfl,hj,hr⟩:=Q3b h0;rw[Int.toNat_natCast];refine J47 H ?_;obtain⟨t,lc,aL,cL,bO,cO,s,ptrs,q,vw,vk,vt,rest,hm,h2,hp,H,hclose⟩:=Q4i H hx;have hob:=hm.objs x (List.mem_of_getElem? hx);have hkn:=hob.kind;have htn:=hob.to;have hsm:=Q4w (w:=hm) hx;obtain⟨ak,ck,rfl⟩:=Q0j H.drop.drop (Q0d _) (by decide);obtain⟨at',ct,rfl⟩:=Q0j H.drop.drop.drop (Q0d _) (by decide);replace H:=Js [2,0,0,0] 0 H;obtain⟨bk,sk,rfl,H,_,_,hck⟩:=Q2n H (by omega);replace H:=Js [3,0,0,0] 0 H;obtain⟨bt,st,rfl,H,_,_,hct⟩:=Q2n H (by omega);refine J10 H ?_;refine Jd ?_;refine Q0s rfl (Q0l H rfl hp rfl ?_);refine U4v H ?_;refine Jd ?_;refine Q0s rfl (Q2e H rfl rfl inferInstance rfl (by simp only[List.length_append,Q0d];omega) rfl ?_);clear H;intro w H;rw[Int.toNat_natCast,Q7h (v:=2) (x:=2) (by omega) rfl] at H;refine U7y H ?_;refine Jd ?_;refine Q0s rfl (Q0l H rfl hp rfl ?_);refine Jv ?_;refine U7b H ?_;refine Jd ?_;refine Q0s rfl (Q2e H rfl rfl inferInstance rfl (by simp only[List.length_append,Q0d];omega) rfl ?_);clear H;intro w H;rw[Int.toNat_natCast,Q7h (v:=ku) (x:=ku) (by omega) rfl] at H;refine Q0h ?_;replace H:=Js [1,0,0,0] 0 H;replace H:=hck _ _ (Q0u (x.kind.set j 2)) (by simp[Q0u]) H;replace H:=Js [1,0,0,0] 0 H;replace H:=hct _ _ (Q0u (x.to.set j ku)) (by simp[Q0u]) H;replace H:=Js [2,2,1,0] 0 H;replace H:=hclose _ _ { x with kind:=x.kind.set j 2,to:=x.to.set j ku } (V2w hm (V9o hob j 2 ku (fun _=>hkul))) H;refine J14 H ?_;exact Q0g (Jy H rfl fun w' H'=>⟨rfl,H'⟩)
 ·have hc:V7m m o place u=(m,Q2l m o place true):=by
   cases hv:Q7m m o with
   | none=>unfold V7m;rw[hv,Q3z hv]
   | some kx=>
    obtain⟨k,x⟩:=kx;rw[Q2u hv] at h0 ⊢;unfold V7m;rw[hv];show (if Q0x _ _ _ _=0 then _ else _)=_;rw[if_neg h0]
  rw[hc,show (((Q2l m o place true:Nat):Int) != 0)=true by simpa using h0];refine J28 H ?_;exact Q0g (Jy H rfl fun w' H'=>⟨rfl,H'⟩)
def Y1p (m:MS) (t:Nat):MS:=match m.objs[t]? with|some y=>V7z m t { y with held:=true }|none=>m
def V4z (m:MS) (o place:Int):MS×Nat×Nat×Nat:=
 match Q7m m o with
 | none=>(m,0,0,8)
 | some (_,x)=>if Q0x (V0g m x) x.w.length place true=0 then (if x.kind.getD place.toNat 0=2 then Y1p m (x.to.getD place.toNat 0) else m,x.kind.getD place.toNat 0,x.to.getD place.toNat 0,0) else (m,0,0,Q0x (V0g m x) x.w.length place true)
theorem Z7g [Q0i] (p:Nat) (m:MS) (o place:Int) {w:World} {fr:List Q0e} (H:Q0a w (Q2p p m::fr)) :
  Calls Tryz.prog 167 #[pp p,.int .i64 o,.int .i64 place] w (ret fun v w'=>v = .tuple #[.int .i64 ((V4z m o place).2.1:Nat),.int .i64 ((V4z m o place).2.2.1:Nat),.int .i64 ((V4z m o place).2.2.2:Nat)]∧Q0a w' (Q2p p (V4z m o place).1::fr)):=by
 refine Q0c Tryz.func167 rfl (by kernel_rfl) ?_;refine J11 H ?_;refine J15 H ?_;refine Jc rfl rfl (Q6j p m o place true H) ?_;clear H;rintro v w ⟨rfl,H⟩;refine J22 H ?_;by_cases h0:Q2l m o place true=0
 ·obtain⟨k,x,hv⟩:∃ k x,Q7m m o=some (k,x):=by
   cases hv:Q7m m o with
   | none=>rw[Q3z hv] at h0;cases h0
   | some kx=>exact⟨kx.1,kx.2,rfl⟩
  rw[Q2u hv] at h0 ⊢;have hrm:V4z m o place=(if x.kind.getD place.toNat 0=2 then Y1p m (x.to.getD place.toNat 0) else m,x.kind.getD place.toNat 0,x.to.getD place.toNat 0,0):=by unfold V4z;rw[hv];show (if Q0x _ _ _ _=0 then _ else _)=_;rw[if_pos h0]
  rw[hrm,h0];refine J9 H ?_;obtain⟨rfl,hx,hh,hg⟩:=Q5c hv;have hkl:=(List.getElem?_eq_some_iff.1 hx).1;obtain⟨j,rfl,hj,hr⟩:=Q3b h0;rw[Int.toNat_natCast];obtain⟨t,lc,aL,cL,bO,cO,s,ptrs,q,vw,vk,vt,rest,hm,h2,hp,H,hclose⟩:=Q4i H hx;have hob:=hm.objs x (List.mem_of_getElem? hx);have hkn:=hob.kind;have htn:=hob.to;have hsm:=Q4w (w:=hm) hx;obtain⟨ak,ck,rfl⟩:=Q0j H.drop.drop (Q0d _) (by decide);obtain⟨at',ct,rfl⟩:=Q0j H.drop.drop.drop (Q0d _) (by decide);replace H:=Js [2,0,0,0] 0 H;obtain⟨bk,sk,rfl,H,_,_,hck⟩:=Q2n H (by omega);replace H:=Js [3,0,0,0] 0 H;obtain⟨bt,st,rfl,H,_,_,hct⟩:=Q2n H (by omega);have hkj:=List.getElem?_eq_getElem (l:=x.kind) (i:=j) (by omega);have htj:=List.getElem?_eq_getElem (l:=x.to) (i:=j) (by omega);have hkd:x.kind.getD j 0=x.kind[j]:=by rw[List.getD_eq_getElem?_getD,hkj];rfl
  have htd:x.to.getD j 0=x.to[j]:=by rw[List.getD_eq_getElem?_getD,htj];rfl
  have hgo:=hob.goes j;rw[htd] at hgo;rw[hkd,htd];generalize x.kind[j]=kd at *;generalize x.to[j]=td at *;refine J10 H ?_;refine Jd ?_;refine Q0s rfl (Q0l H rfl hp rfl ?_);refine U4v H ?_;refine Jd ?_;refine Q0s rfl (Q0l H rfl (Q2r hkj) rfl ?_);refine J0 H ?_;refine J10 H ?_;refine Jd ?_;refine Q0s rfl (Q0l H rfl hp rfl ?_);refine U4v H ?_;refine Jd ?_;refine Q0s rfl (Q0l H rfl (Q2r htj) rfl ?_);refine J0 H ?_;replace H:=Js [1,0,0,0] 0 H;replace H:=hck _ _ (Q0u x.kind) rfl H;replace H:=Js [1,0,0,0] 0 H;replace H:=hct _ _ (Q0u x.to) rfl H;replace H:=Js [2,2,1,0] 0 H;replace H:=Q3j hx (hclose _ _ x (Q8b hx hm) H);clear hck hct hclose;refine J3 H ?_;by_cases h2':kd=2
  ·subst h2';rw[if_pos rfl];have htl:=hgo hkj;have hy:=List.getElem?_eq_getElem htl;generalize m.objs[td]=y at hy;have hh':Y1p m td=V7z m td { y with held:=true }:=by unfold Y1p;rw[hy]
   rw[hh'];refine J13 H ?_;obtain⟨t',lc',aL',cL',bO',cO',s',ptrs',q',vw',vk',vt',rest',hm',h2',hp',H,hclose⟩:=Q4i H hy;refine J10 H ?_;refine Jd ?_;refine Q0s rfl (Q0l H rfl hp' rfl ?_);refine J40 H ?_;clear H;intro w H;refine Q0h ?_;refine J89 H ?_;refine Q0g (Jy (hclose _ _ { y with held:=true } (V2w hm (by obtain⟨a,b,c,d,e⟩:=hm.objs y (List.mem_of_getElem? hy);exact⟨a,b,c,d,e⟩)) H) rfl fun w' H'=>⟨rfl,H'⟩)
  ·rw[if_neg h2',show ((kd:Int) == 2)=false by simp;omega];refine J9 H ?_;refine J89 H ?_;exact Q0g (Jy H rfl fun w' H'=>⟨rfl,H'⟩)
 ·have hc:V4z m o place=(m,0,0,Q2l m o place true):=by
   cases hv:Q7m m o with
   | none=>unfold V4z;rw[hv,Q3z hv]
   | some kx=>
    obtain⟨k,x⟩:=kx;rw[Q2u hv] at h0 ⊢;unfold V4z;rw[hv];show (if Q0x _ _ _ _=0 then _ else _)=_;rw[if_neg h0]
  rw[hc,show (((Q2l m o place true:Nat):Int) != 0)=true by simpa using h0];refine J13 H ?_;refine U0f H ?_;exact Q0g (Jy H rfl fun w' H'=>⟨rfl,H'⟩)
end Go.Proofs.YtmjdnljneifpcaaGreatDoor
namespace Go.Proofs.YtmjdnljneifpcaaGreatDoor
open Go.SL
def ms0:MS:=⟨[-1],[],[]⟩
theorem Z7h [Q0i] {w:World} {fr:List Q0e} (H:Q0a w fr):Calls Tryz.prog 99 #[] w (ret fun v w'=>∃ p,v=pp p∧Q0a w' (Q2p p ms0::fr)):=by
 refine Q0c Tryz.func99 rfl (by kernel_rfl) ?_;refine U4m H ?_;refine Jc rfl rfl (G1k H) ?_;clear H;rintro v w ⟨t,rfl,H⟩;refine J60 H ?_;clear H;intro b3 w H;refine J0 H ?_;have H:Q0a w (star (([]:List OC).map ocr)::pts b3 (row 58 [pp t,.slice none 0 0,.slice none 0 0])::RTR t [-1]::fr):=Q0a.star.2 H;have H:=Q3x (E:=77) (k:=1) H;have H:Q0a w (star (([]:List LyC).map V2q)::_):=Q0a.star.2 H;have H:=Q3x (E:=102) (k:=4) H;replace H:=Js [4,4,0,0,0,0] 0 H;have hm:MWF ms0:=⟨⟨by simp[ms0],by simp[ms0]⟩,⟨by simp[ms0],fun l h=>by cases h⟩,(fun l h=>by cases h),by simp[ms0]⟩;exact Q0g (Jy (Q2v (m:=ms0) hm (lc:=[]) (oc:=[]) rfl rfl H) rfl fun w' H'=>⟨_,rfl,H'⟩)
def V9p (m:MS) (parent:Int):MS×Nat×Nat:=if Y1e m.P parent=0 then ({ m with P:=m.P++[parent] },m.P.length,0) else (m,0,Y1e m.P parent)
theorem V9q [Q0i] (p:Nat) (m:MS) (parent:Int) (hP:m.P.length < 100000) {w:World} {fr:List Q0e} (H:Q0a w (Q2p p m::fr)) :
  Calls Tryz.prog 162 #[pp p,.int .i64 parent] w (ret fun v w'=>v = .tuple #[.int .i64 ((V9p m parent).2.1:Nat),.int .i64 ((V9p m parent).2.2:Nat)]∧Q0a w' (Q2p p (V9p m parent).1::fr)):=by
 obtain⟨t,lc,oc,aL,cL,aO,cO,hm,h2,h3,hl1,hl2,H⟩:=Q2t H;refine Q0c Tryz.func162 rfl (by kernel_rfl) ?_;refine U4w H ?_;replace H:=Js [1,0] 0 H;refine Jc rfl rfl (Y7y t m.P parent (by omega) hm.P.1 H) ?_;clear H;rintro v w (⟨he,rfl,H⟩|⟨he,rfl,H⟩)
 ·have hr:V9p m parent=(m,0,Y1e m.P parent):=by unfold V9p;rw[if_neg he]
  rw[hr];refine U2i H ?_;exact Q0g (Jy (Q2v hm h2 h3 H.swap) rfl fun w' H'=>⟨rfl,H'⟩)
 ·have hr:V9p m parent=({ m with P:=m.P++[parent] },m.P.length,0):=by unfold V9p;rw[if_pos he]
  rw[hr];have hm':MWF { m with P:=m.P++[parent] }:=⟨⟨by simp,by simp;omega⟩,hm.lays,hm.objs,hm.few⟩;refine U2i H ?_;exact Q0g (Jy (Q2v (m:={ m with P:=m.P++[parent] }) hm' h2 h3 H.swap) rfl fun w' H'=>⟨rfl,H'⟩)
def Y2w (m:MS) (ws:List Nat):MS×Nat×Nat:=
 match Q4k ws with
 | none=>(m,0,4)
 | some l=>if 64≤m.lays.length then (m,0,5) else ({ m with lays:=m.lays++[l] },m.lays.length+1,0)
theorem Z7i {ls:List Lay} {l:Lay} {n:Nat} {x:Mob} (h:V2v ls n x):V2v (ls++[l]) n x:=by
 obtain⟨⟨l',a,a2⟩,b,c,d,e⟩:=h;exact⟨⟨l',by rw[List.getElem?_append_left (List.getElem?_eq_some_iff.1 a).1];exact a,a2⟩,b,c,d,e⟩
theorem Y5j [Q0i] (p:Nat) (m:MS) (v:Value) (ws:List Nat) (hws:∀ x∈ws,x < 18446744073709551616) {w:World} {fr:List Q0e} (hr:RdS fr v ws.length 1 (Q1b ws)) (H:Q0a w (Q2p p m::fr)) :
  Calls Tryz.prog 161 #[pp p,v] w (ret fun r w'=>r = .tuple #[.int .i64 ((Y2w m ws).2.1:Nat),.int .i64 ((Y2w m ws).2.2:Nat)]∧Q0a w' (Q2p p (Y2w m ws).1::fr)):=by
 obtain⟨_,ad,cap,rfl,hr'⟩:=id hr;refine Q0c Tryz.func161 rfl (by kernel_rfl) ?_;refine U6h H ?_;refine Jc rfl rfl (Y7v _ ws hws hr.there H) ?_;clear H;rintro r w (⟨hd,rfl,H⟩|⟨l,vr,vq,hd,rfl,H⟩)
 ·have hdr:Y2w m ws=(m,0,4):=by unfold Y2w;rw[hd]
  rw[hdr];refine J16 H ?_;clear H;intro b6 w H;refine J4 H ?_;clear H;intro w H;refine U4x H ?_;exact Q0g (Jy H.drop rfl fun w' H'=>⟨rfl,H'⟩)
 ·obtain⟨a1,m1,c1,rfl⟩:=Q1d H;obtain⟨a2,m2,c2,rfl⟩:=Q1d H.swap;replace H:=Js [2,0,0] 0 H;obtain⟨t,lc,oc,aL,cL,aO,cO,hm,h2,h3,hl1,hl2,H⟩:=Q2t H;refine J16 H ?_;clear H;intro b6 w H;refine J4 H ?_;clear H;intro w H;refine J23 H ?_;refine U7z H ?_;by_cases h64:64≤m.lays.length
  ·have hdr:Y2w m ws=(m,0,5):=by unfold Y2w;rw[hd];show (if _ then _ else _)=_;rw[if_pos h64]
   rw[hdr];rw[show decide ((m.lays.length:Int)≥64)=true from decide_eq_true (by omega)];refine J28 H ?_;have H:=Q2v hm h2 h3 H.drop;replace H:=Js [0] 2 H;exact Q0g (Jy H rfl fun w' H'=>⟨rfl,H'⟩)
  ·have hdr:Y2w m ws=({ m with lays:=m.lays++[l] },m.lays.length+1,0):=by unfold Y2w;rw[hd];show (if _ then _ else _)=_;rw[if_neg h64]
   rw[hdr]
   have hR:Q2y l:=by
    unfold Q4k at hd;split at hd
    ·split at hd
     ·injection hd with hd;rename_i hx;rw[← hd];exact hx.2
     ·cases hd
    ·cases hd
   have hm':MWF { m with lays:=m.lays++[l] }:=⟨hm.P,⟨by show (m.lays++[l]).length≤64;simp;omega,fun x hx=>by
    rcases List.mem_append.1 hx with hx|hx
    ·exact hm.lays.2 x hx
    ·simp at hx;subst hx;exact hR⟩,fun x hx=>Z7i (hm.objs x hx),hm.few⟩
   rw[show decide ((m.lays.length:Int)≥64)=false from decide_eq_false (by omega)];refine U4l H ?_;clear H;intro w H;refine U0c H ?_;refine Jl 4 [7,10] H ?_;refine U9a H ?_;refine Jo 6 H ?_;refine G9r H ?_;clear H;intro b27 w H;replace H:=Js [4,0,0,0,0] 0 H;refine Jo 7 H ?_;refine Q1t H rfl rfl (by repeat first|exact .nil _|apply Q0o.cons rfl) rfl (by decide) (by rw[Q4h];simp only[List.length_cons,List.length_nil];omega) rfl rfl ?_;clear H;intro v28 w H
   have e1:Q2f lc++[.int .i64 l.fixed,.slice a1 m1 c1,.int .i64 l.record,.slice a2 m2 c2]=Q2f (lc++[(.slice a1 m1 c1,.slice a2 m2 c2,l)]):=by
    rw[V4b];rfl
   rw[e1] at H;have hql':(lc++[((.slice a1 m1 c1:Value),(.slice a2 m2 c2:Value),l)]).length=m.lays.length+1:=by simp[hl1]
   obtain⟨a28,c28,rfl⟩:=Q0j H (m:=m.lays.length+1) (by rw[Q4h,hql']) (by decide);refine Ja 8 ?_;refine Jf 9 ?_;refine Jo 10 H ?_;refine J55 H ?_;clear H;intro w H;refine Jx H ?_;refine U7e H ?_;refine J2 H ?_;replace H:=Js [8,8,5,3,3,0,2,2] 2 H
   have H1:Q0a w (star ((lc++[((.slice a1 m1 c1:Value),(.slice a2 m2 c2:Value),l)]).map V2q)::pts p (row 58 [pp t,.slice a28 (m.lays.length+1) c28,.slice aO m.objs.length cO])::RTR t m.P::sls 102 4 (.slice a28 (m.lays.length+1) c28) (Q2f (lc++[(.slice a1 m1 c1,.slice a2 m2 c2,l)]))::sls 77 1 (.slice aO m.objs.length cO) (oc.map fun x=>pp x.ptr)::star (oc.map ocr)::fr):=by
    refine(Q0a.pick (x:=((.slice a1 m1 c1:Value),(.slice a2 m2 c2:Value),l)) (g1:=lc) (g2:=[]) rfl).2 ?_;rw[List.append_nil];refine Q0a.star.2 ?_;exact H
   replace H1:=Js [1,1,1,0,0,0] 0 H1;have H2:=Q2v (m:={ m with lays:=m.lays++[l] }) hm' (lc:=lc++[((.slice a1 m1 c1:Value),(.slice a2 m2 c2:Value),l)]) (by rw[List.map_append,h2];rfl) h3 H1;exact Q0g (Jy H2 rfl fun w' H'=>⟨rfl,H'⟩)
def V0p (m:MS) (region lay count:Int):Nat×Nat:=
 if Q5k m.P region=false then (0,15) else if lay < 1∨(m.lays.length:Int) < lay then (0,6) else Q3q ((m.lays[lay.toNat - 1]?).getD ⟨0,[],0,[]⟩) count
theorem Y2x [Q0i] (p:Nat) (m:MS) (region lay count:Int) {w:World} {fr:List Q0e} (H:Q0a w (Q2p p m::fr)) :
  Calls Tryz.prog 229 #[pp p,.int .i64 region,.int .i64 lay,.int .i64 count] w (ret fun v w'=>v = .tuple #[.int .i64 ((V0p m region lay count).1:Nat),.int .i64 ((V0p m region lay count).2:Nat)]∧Q0a w' (Q2p p m::fr)):=by
 obtain⟨t,lc,oc,aL,cL,aO,cO,hm,h2,h3,hl1,hl2,H⟩:=Q2t H;refine Q0c Tryz.func229 rfl (by kernel_rfl) ?_;refine U4w H ?_;replace H:=Js [1,0] 0 H;refine Jc rfl rfl (Q7f t m.P region H) ?_;clear H;rintro v w ⟨rfl,H⟩;generalize hlv:Q5k m.P region=lv;have hlays:=hm.lays.1;cases lv with
 | false=>
  have hr:V0p m region lay count=(0,15):=by unfold V0p;rw[if_pos hlv]
  rw[hr];refine U4x H ?_;exact Q0g (Jy (Q2v hm h2 h3 H.swap) rfl fun w' H'=>⟨rfl,H'⟩)
 | true=>
  replace H:=Js [1,0] 0 H;refine J23 H ?_;by_cases h1:lay < 1
  ·have hr:V0p m region lay count=(0,6):=by unfold V0p;rw[if_neg (by rw[hlv];decide),if_pos (.inl h1)]
   rw[hr];refine J6 H ?_;rw[show decide (lay < 1)=true from decide_eq_true (by omega)];refine U4g H ?_;refine U3r H ?_;exact Q0g (Jy (Q2v hm h2 h3 H) rfl fun w' H'=>⟨rfl,H'⟩)
  ·refine J6 H ?_;rw[show decide (lay < 1)=false from decide_eq_false (by omega)];refine J92 H ?_;by_cases h2':(m.lays.length:Int) < lay
   ·have hr:V0p m region lay count=(0,6):=by unfold V0p;rw[if_neg (by rw[hlv];decide),if_pos (.inr h2')]
    rw[hr];rw[show decide (lay > (m.lays.length:Int))=true from decide_eq_true (by omega)];refine U3r H ?_;exact Q0g (Jy (Q2v hm h2 h3 H) rfl fun w' H'=>⟨rfl,H'⟩)
   ·obtain⟨la,rfl⟩:∃ la:Nat,lay=((la+1:Nat):Int):=⟨lay.toNat - 1,by omega⟩;have hla:la < lc.length:=by omega
    have hy:=List.getElem?_eq_getElem hla;generalize lc[la]=y at hy;have hyl:m.lays[la]? = some y.2.2:=by rw[← h2,List.getElem?_map,hy];rfl
    have hr:V0p m region ((la+1:Nat):Int) count=Q3q y.2.2 count:=by
     unfold V0p;rw[if_neg (by rw[hlv];decide),if_neg (by omega),Int.toNat_natCast,Nat.add_sub_cancel,hyl];rfl
    rw[hr];have hR:=hm.lays.2 _ (List.mem_of_getElem? hyl);rw[show decide (((la+1:Nat):Int) > (m.lays.length:Int))=false from decide_eq_false (by omega)];refine J17 H ?_;replace H:=Js [2,2,0,0,0,0] 0 H;obtain⟨bL,sL,D1,D2,R,rfl,H,hD,hcl⟩:=Z1r hl1 H hy;obtain⟨vr,vq,l⟩:=y;refine J37 H ?_;rw[show IntKind.i64.wrap (((la+1:Nat):Int) - 1)=(la:Int) by rw[Q1e (by omega) (by omega)];omega];refine Jd ?_;refine Q0s rfl (Q1j H rfl (Q8u hy) rfl ?_);refine Jv ?_;refine Jc rfl rfl (Z6r vr vq l hR count ((hD _).there) H) ?_;clear H;rintro v w ⟨rfl,H⟩;refine U2i H ?_;replace H:=hcl _ _ H;replace H:=Js [2,2,0,0,0,0] 0 H;exact Q0g (Jy (Q2v hm h2 h3 H) rfl fun w' H'=>⟨rfl,H'⟩)
end Go.Proofs.YtmjdnljneifpcaaGreatDoor
namespace Go.Proofs.YtmjdnljneifpcaaGreatDoor
open Go.SL
def Y8b (region lay count:Int) (n:Nat):Mob:=⟨region.toNat,lay.toNat,count.toNat,List.replicate n 0,List.replicate n 0,List.replicate n 0,true,false,false⟩
def Y5k (m:MS) (region lay count:Int):MS:={ m with objs:=m.objs++[Y8b region lay count (V0p m region lay count).1] }
theorem Y5l {m:MS} {region lay count:Int} (h:(V0p m region lay count).2=0):∃ (r la c:Nat) (l:Lay),region=r∧lay=(la+1:Nat)∧count=c∧Q5k m.P region=true∧m.lays[la]? = some l∧V0p m region lay count=Q3q l c∧Q3q l c=(l.fixed+c*l.record,0)∧l.fixed+c*l.record < 8192:=by
 unfold V0p at h ⊢;by_cases h1:Q5k m.P region=false
 ·rw[if_pos h1] at h;cases h
 ·rw[if_neg h1] at h ⊢;by_cases h2:lay < 1∨(m.lays.length:Int) < lay
  ·rw[if_pos h2] at h;cases h
  ·rw[if_neg h2] at h ⊢;have h3:Q5k m.P region=true:=by simpa using h1
   have h4:0 < region:=by
    unfold Q5k at h3;exact(of_decide_eq_true h3).1
   obtain⟨la,rfl⟩:∃ la:Nat,lay=((la+1:Nat):Int):=⟨lay.toNat - 1,by omega⟩;have hla:la < m.lays.length:=by omega
   have hl:=List.getElem?_eq_getElem hla;generalize m.lays[la]=l at hl;rw[Int.toNat_natCast,Nat.add_sub_cancel,hl] at h ⊢;replace h:(Q3q l count).2=0:=h;unfold Q3q at h;split at h
   ·cases h
   ·rename_i hc;split at h
    ·cases h
    ·rename_i hs;obtain⟨c,rfl⟩:∃ c:Nat,count=c:=⟨count.toNat,by omega⟩;rw[Int.toNat_natCast] at hs;refine⟨region.toNat,la,c,l,by omega,rfl,rfl,h3,hl,rfl,?_,by omega⟩;unfold Q3q;rw[if_neg hc,Int.toNat_natCast,if_neg hs]
theorem Y5m {m:MS} {region lay count:Int} (h:(V0p m region lay count).2=0) (hm:MWF m) (hf:m.objs.length < 100000):MWF (Y5k m region lay count):=by
 obtain⟨r,la,c,l,rfl,rfl,rfl,hl,hla,hmay,hsz,hlt⟩:=Y5l h;have hlen:(m.objs++[Y8b r ((la+1:Nat):Int) c (V0p m r ((la+1:Nat):Int) c).1]).length=m.objs.length+1:=by simp
 refine⟨hm.P,hm.lays,fun x hx=>?_,by show (m.objs++[_]).length≤_;rw[hlen];omega⟩;show V2v m.lays (m.objs++[_]).length x;rw[hlen]
 rcases List.mem_append.1 hx with hx|hx
 ·obtain⟨a,b,c,d,e⟩:=hm.objs x hx;exact⟨a,b,c,d,fun p hp=>by have:=e p hp;omega⟩
 ·simp only[List.mem_singleton] at hx;subst hx;rw[hmay,hsz];refine⟨⟨l,?_,hm.lays.2 l (List.mem_of_getElem? hla),?_⟩,?_,rfl,rfl,?_⟩
  ·show m.lays[(((la+1:Nat):Int).toNat) - 1]? = _;rw[Int.toNat_natCast];exact hla
  ·show Q3q l ((((c:Nat):Int).toNat:Nat):Int)=((List.replicate (l.fixed+c*l.record) 0).length,0);rw[Int.toNat_natCast,hsz,List.length_replicate]
  ·show 1≤((la+1:Nat):Int).toNat;omega
  ·intro p hp;have:(List.replicate (l.fixed+c*l.record) 0)[p]? = some 2:=hp;rw[List.getElem?_replicate] at this;split at this <;> cases this
theorem V5u [Q0i] {w:World} {p t bO bW bK bT n rr la c:Nat} {m:MS} {lc:List LyC} {oc:List OC} {aL aS:Option Addr} {cL cS:Nat} {fr:List Q0e} (hm':MWF { m with objs:=m.objs++[Y8b (rr:Int) ((la+1:Nat):Int) (c:Int) n] }) (h2:lc.map (·.2.2)=m.lays) (h3:oc.map (·.ob)=m.objs) (hl1:lc.length=m.lays.length)
  (H : Q0a w (pts bO (row 76 [.int .i64 rr, .int .i64 ((la + 1 : Nat) : Int), .int .i64 c, .slice (some ⟨bW, 0, none⟩) n n, .slice (some ⟨bK, 0, none⟩) n n, .slice (some ⟨bT, 0, none⟩) n n, .bool true, .bool false, .bool false]) :: UL (.slice (some ⟨bW, 0, none⟩) n n) (List.replicate n 0) :: NL (.slice (some ⟨bK, 0, none⟩) n n) (List.replicate n 0) :: NL (.slice (some ⟨bT, 0, none⟩) n n) (List.replicate n 0) :: star (oc.map ocr) ::
   pts p (row 58 [pp t,.slice aL m.lays.length cL,.slice aS (m.objs.length+1) cS])::RTR t m.P::sls 102 4 (.slice aL m.lays.length cL) (Q2f lc)::star (lc.map V2q)::sls 77 1 (.slice aS (m.objs.length+1) cS) ((oc.map fun x=>pp x.ptr)++[pp bO])::fr)) :
  Q0a w (Q2p p { m with objs:=m.objs++[Y8b (rr:Int) ((la+1:Nat):Int) (c:Int) n] }::fr):=by
 have H1:Q0a w (star ((oc++[(⟨bO,.slice (some ⟨bW,0,none⟩) n n,.slice (some ⟨bK,0,none⟩) n n,.slice (some ⟨bT,0,none⟩) n n,Y8b (rr:Int) ((la+1:Nat):Int) (c:Int) n⟩:OC)]).map ocr)::pts p (row 58 [pp t,.slice aL m.lays.length cL,.slice aS (m.objs.length+1) cS])::RTR t m.P::sls 102 4 (.slice aL m.lays.length cL) (Q2f lc)::star (lc.map V2q)::sls 77 1 (.slice aS (m.objs.length+1) cS) ((oc.map fun x=>pp x.ptr)++[pp bO])::fr):=by
  refine(Q0a.pick (g1:=oc) (g2:=[]) rfl).2 ?_;rw[List.append_nil];exact Q0a.star.2 H
 replace H1:=Js [1,1,1,1,1,0] 0 H1;exact Q2v (m:={ m with objs:=m.objs++[Y8b (rr:Int) ((la+1:Nat):Int) (c:Int) n] }) (oc:=oc++[(⟨bO,.slice (some ⟨bW,0,none⟩) n n,.slice (some ⟨bK,0,none⟩) n n,.slice (some ⟨bT,0,none⟩) n n,Y8b (rr:Int) ((la+1:Nat):Int) (c:Int) n⟩:OC)]) hm' h2 (by rw[List.map_append,h3];rfl) (by rw[List.map_append];exact H1)
theorem Z1t [Q0i] (p:Nat) (m:MS) (region lay count:Int) (hmay:(V0p m region lay count).2=0) (hf:m.objs.length < 100000) {w:World} {fr:List Q0e} (H:Q0a w (Q2p p m::fr)) :
  Calls Tryz.prog 231 #[pp p,.int .i64 region,.int .i64 lay,.int .i64 count] w (ret fun v w'=>v = .tuple #[]∧Q0a w' (Q2p p (Y5k m region lay count)::fr)):=by
 refine Q0c Tryz.func231 rfl (by kernel_rfl) ?_;refine J73 H ?_;refine Jc rfl rfl (Y2x p m region lay count H) ?_;clear H;rintro v w ⟨rfl,H⟩;have hr:Y5k m region lay count={ m with objs:=m.objs++[Y8b region lay count (V0p m region lay count).1] }:=rfl;rw[hr];obtain⟨t,lc,oc,aL,cL,aO,cO,hm,h2,h3,hl1,hl2,H⟩:=Q2t H;have hm':MWF _:=Y5m hmay hm hf;rw[hr] at hm';obtain⟨rr,la,c,l,rfl,rfl,rfl,hlv,hla,hmm,hsz,hlt⟩:=Y5l hmay;have hn1:(V0p m (rr:Int) ((la+1:Nat):Int) (c:Int)).1=l.fixed+c*l.record:=by rw[hmm,hsz]
 rw[hmm,hsz] at hm' ⊢;generalize l.fixed+c*l.record=n at *
 have z1:Q5q (Q1v (.int .u64 0)) n=Q1b (List.replicate n 0):=by
  rw[show Q1v (.int .u64 0)=[.int .u64 0] from rfl,V8t];simp[Q1b]
 have z2:Q5q (Q1v (.int .i64 0)) n=Q0u (List.replicate n 0):=by
  rw[show Q1v (.int .i64 0)=[.int .i64 0] from rfl,V8t];simp[Q0u]
 refine U6n H ?_;clear H;intro w H;refine U0c H ?_;refine Jl 4 [17,20] H ?_;refine Ja 5 ?_;refine Ja 6 ?_;refine Ja 7 ?_;refine Ja 8 ?_;refine Ja 10 ?_;refine Ja 12 ?_;refine G9k 9 11 13 rfl rfl rfl (by kernel_rfl) (by repeat first|exact .nil|refine .cons (.inr H.at) ?_|refine .cons (.inr H.mp) ?_|refine .cons (.inl (by kernel_rfl)) ?_) (Q0n.none rfl) (Q0n.none rfl) (Q0n.none rfl) (Q1r H rfl rfl (by decide) (by omega) rfl ?_) (Q1r H rfl rfl (by decide) (by omega) rfl ?_) (Q1r H rfl rfl (by decide) (by omega) rfl ?_)
 ·clear H;intro bW w H;rw[z1] at H;refine Jw 11 13 H rfl rfl (Q1r H rfl rfl (by decide) (by omega) rfl ?_) (Q1r H rfl rfl (by decide) (by omega) rfl ?_)
  ·clear H;intro bK w H;rw[z2] at H;refine Jo 13 H ?_;refine Q1r H rfl rfl (by decide) (by omega) rfl ?_;clear H;intro bT w H;rw[z2] at H;replace H:=Js [2,1,0] 0 H;refine U2q H ?_;clear H;intro bO w H
   refine U2r H ?_;clear H;intro bS w H;replace H:=Js [9,0,0,0,0,0,0,0,0,0,0] 0 H;refine Jo 17 H ?_;refine Q1t H rfl rfl (by repeat first|exact .nil _|apply Q0o.cons rfl) rfl (by decide) (by simp;omega) rfl rfl ?_;clear H;intro vS w H;obtain⟨aS,cS,rfl⟩:=Q0j H (m:=m.objs.length+1) (by simp[hl2]) (by decide);refine U2s H ?_;clear H;intro w H;refine Jx H ?_;replace H:=Js [2,2,2,2,6,2,2,2,2,0] 1 H;exact Q2w _ (.inl rfl) (V5u hm' h2 h3 hl1 H) rfl fun w' H'=>⟨rfl,H'⟩
  ·clear H;intro bT w H;rw[z2] at H;refine Jo 11 H ?_;refine Q1r H rfl rfl (by decide) (by omega) rfl ?_;clear H;intro bK w H;rw[z2] at H;replace H:=Js [2,0,0] 0 H;refine U2q H ?_;clear H;intro bO w H
   refine U2r H ?_;clear H;intro bS w H;replace H:=Js [9,0,0,0,0,0,0,0,0,0,0] 0 H;refine Jo 17 H ?_;refine Q1t H rfl rfl (by repeat first|exact .nil _|apply Q0o.cons rfl) rfl (by decide) (by simp;omega) rfl rfl ?_;clear H;intro vS w H;obtain⟨aS,cS,rfl⟩:=Q0j H (m:=m.objs.length+1) (by simp[hl2]) (by decide);refine U2s H ?_;clear H;intro w H;refine Jx H ?_;replace H:=Js [2,2,2,2,6,2,2,2,2,0] 1 H;exact Q2w _ (.inl rfl) (V5u hm' h2 h3 hl1 H) rfl fun w' H'=>⟨rfl,H'⟩
 ·clear H;intro bK w H;rw[z2] at H;refine Jw 9 13 H rfl rfl (Q1r H rfl rfl (by decide) (by omega) rfl ?_) (Q1r H rfl rfl (by decide) (by omega) rfl ?_)
  ·clear H;intro bW w H;rw[z1] at H;refine Jo 13 H ?_;refine Q1r H rfl rfl (by decide) (by omega) rfl ?_;clear H;intro bT w H;rw[z2] at H;replace H:=Js [1,1,0] 0 H;refine U2q H ?_;clear H;intro bO w H
   refine U2r H ?_;clear H;intro bS w H;replace H:=Js [9,0,0,0,0,0,0,0,0,0,0] 0 H;refine Jo 17 H ?_;refine Q1t H rfl rfl (by repeat first|exact .nil _|apply Q0o.cons rfl) rfl (by decide) (by simp;omega) rfl rfl ?_;clear H;intro vS w H;obtain⟨aS,cS,rfl⟩:=Q0j H (m:=m.objs.length+1) (by simp[hl2]) (by decide);refine U2s H ?_;clear H;intro w H;refine Jx H ?_;replace H:=Js [2,2,2,2,6,2,2,2,2,0] 1 H;exact Q2w _ (.inl rfl) (V5u hm' h2 h3 hl1 H) rfl fun w' H'=>⟨rfl,H'⟩
  ·clear H;intro bT w H;rw[z2] at H;refine Jo 9 H ?_;refine Q1r H rfl rfl (by decide) (by omega) rfl ?_;clear H;intro bW w H;rw[z1] at H;replace H:=Js [0,1,0] 0 H;refine U2q H ?_;clear H;intro bO w H
   refine U2r H ?_;clear H;intro bS w H;replace H:=Js [9,0,0,0,0,0,0,0,0,0,0] 0 H;refine Jo 17 H ?_;refine Q1t H rfl rfl (by repeat first|exact .nil _|apply Q0o.cons rfl) rfl (by decide) (by simp;omega) rfl rfl ?_;clear H;intro vS w H;obtain⟨aS,cS,rfl⟩:=Q0j H (m:=m.objs.length+1) (by simp[hl2]) (by decide);refine U2s H ?_;clear H;intro w H;refine Jx H ?_;replace H:=Js [2,2,2,2,6,2,2,2,2,0] 1 H;exact Q2w _ (.inl rfl) (V5u hm' h2 h3 hl1 H) rfl fun w' H'=>⟨rfl,H'⟩
 ·clear H;intro bT w H;rw[z2] at H;refine Jw 9 11 H rfl rfl (Q1r H rfl rfl (by decide) (by omega) rfl ?_) (Q1r H rfl rfl (by decide) (by omega) rfl ?_)
  ·clear H;intro bW w H;rw[z1] at H;refine Jo 11 H ?_;refine Q1r H rfl rfl (by decide) (by omega) rfl ?_;clear H;intro bK w H;rw[z2] at H;replace H:=Js [1,0,0] 0 H;refine U2q H ?_;clear H;intro bO w H
   refine U2r H ?_;clear H;intro bS w H;replace H:=Js [9,0,0,0,0,0,0,0,0,0,0] 0 H;refine Jo 17 H ?_;refine Q1t H rfl rfl (by repeat first|exact .nil _|apply Q0o.cons rfl) rfl (by decide) (by simp;omega) rfl rfl ?_;clear H;intro vS w H;obtain⟨aS,cS,rfl⟩:=Q0j H (m:=m.objs.length+1) (by simp[hl2]) (by decide);refine U2s H ?_;clear H;intro w H;refine Jx H ?_;replace H:=Js [2,2,2,2,6,2,2,2,2,0] 1 H;exact Q2w _ (.inl rfl) (V5u hm' h2 h3 hl1 H) rfl fun w' H'=>⟨rfl,H'⟩
  ·clear H;intro bK w H;rw[z2] at H;refine Jo 9 H ?_;refine Q1r H rfl rfl (by decide) (by omega) rfl ?_;clear H;intro bW w H;rw[z1] at H;replace H:=Js [0,0,0] 0 H;refine U2q H ?_;clear H;intro bO w H
   refine U2r H ?_;clear H;intro bS w H;replace H:=Js [9,0,0,0,0,0,0,0,0,0,0] 0 H;refine Jo 17 H ?_;refine Q1t H rfl rfl (by repeat first|exact .nil _|apply Q0o.cons rfl) rfl (by decide) (by simp;omega) rfl rfl ?_;clear H;intro vS w H;obtain⟨aS,cS,rfl⟩:=Q0j H (m:=m.objs.length+1) (by simp[hl2]) (by decide);refine U2s H ?_;clear H;intro w H;refine Jx H ?_;replace H:=Js [2,2,2,2,6,2,2,2,2,0] 1 H;exact Q2w _ (.inl rfl) (V5u hm' h2 h3 hl1 H) rfl fun w' H'=>⟨rfl,H'⟩
end Go.Proofs.YtmjdnljneifpcaaGreatDoor
namespace Go.Proofs.YtmjdnljneifpcaaGreatDoor
open Go.SL
@[reducible] def evl (e:Ent):List Value:=[.int .i64 e.addr,.int .i64 e.region,.bool e.held,.bool e.pinned]
def V2x (t:Slt):List Value:=match t.ent with
 | none=>[.int .i64 t.gen,.bool false,.int .i64 0,.int .i64 0,.bool false,.bool false]
 | some e=>[.int .i64 t.gen,.bool true,.int .i64 e.addr,.int .i64 e.region,.bool e.held,.bool e.pinned]
theorem Q3c (t:Slt):(V2x t).length=6:=by unfold V2x;split <;> rfl
theorem G5w (t:Slt):(V2x t)[0]? = some (.int .i64 t.gen):=by unfold V2x;split <;> rfl
theorem G1l (t:Slt):(V2x t)[1]? = some (.bool t.ent.isSome):=by
 unfold V2x;split
 ·rename_i h;rw[h];rfl
 ·rename_i h;rw[h];rfl
def busy (t:Slt):Bool:=t.ent.isSome || t.gen == 255
def V5v (ts:List Slt):Nat:=(ts.filter fun t=>t.ent.isNone && t.gen == 255).length
def Y1q (ts:List Slt):Nat:=(ts.filter busy).length
structure V5w (ts:List Slt) (x:Nat):Prop where
 bits:Y2j ts.length x
 bit:∀ (i:Nat) (t:Slt),ts[i]? = some t→x.testBit i=busy t
 gen:∀ (i:Nat) (t:Slt),ts[i]? = some t→t.gen≤255
theorem Z7j {α:Type} {ts:List α} {f:α→Bool} {x:Nat} (h:∀ (i:Nat) (t:α),ts[i]? = some t→x.testBit i=f t):V7j ts.length x=(ts.filter f).length:=by
 unfold V7j
 have e2:∀ (l:List α) (k:Nat),(∀ (i:Nat) (t:α),l[i]? = some t→x.testBit (k+i)=f t)→((List.range' k l.length).filter fun i=>x.testBit i).length=(l.filter f).length:=by
  intro l
  induction l with
  | nil=>intro k _;rfl
  | cons a l ih=>
   intro k hk;have h0:=hk 0 a rfl;have hr:=ih (k+1) (fun i t ht=>by rw[show k+1+i=k+(i+1) by omega];exact hk (i+1) t (by simpa using ht));rw[List.length_cons,List.range'_succ,List.filter_cons,List.filter_cons];rw[Nat.add_zero] at h0;rw[h0];split
   ·simp[hr]
   ·exact hr
 rw[List.range_eq_range'];exact e2 ts 0 (fun i t ht=>by rw[Nat.zero_add];exact h i t ht)
theorem V5w.cnt {ts:List Slt} {x:Nat} (h:V5w ts x):V7j ts.length x=Y1q ts:=Z7j h.bit
def TAB (p:Nat) (ts:List Slt):Q0e:=ex fun q:Value×Nat×Nat=>star [prop (V5w ts q.2.2),pts p (row 144 [q.1,pp q.2.1,.int .i64 (V5v ts)]),sls 199 6 q.1 (ts.flatMap V2x),BM1 q.2.1 ts.length q.2.2]
theorem V2y [Q0i] {w:World} {p:Nat} {ts:List Slt} {l:List Q0e} (H:Q0a w (TAB p ts::l)):∃ b c s u x,V5w ts x∧ts.length≤c ∧
  Q0a w (pts p (row 144 [.slice (some ⟨b,0,none⟩) ts.length c,pp u,.int .i64 (V5v ts)])::pts b (row 199 (ts.flatMap V2x++s))::BM1 u ts.length x::l) ∧
  ∀ w' l' ts' x',ts'.length=ts.length→V5v ts'=V5v ts→V5w ts' x'→Q0a w' (pts p (row 144 [.slice (some ⟨b,0,none⟩) ts.length c,pp u,.int .i64 (V5v ts)])::pts b (row 199 (ts'.flatMap V2x++s))::BM1 u ts.length x'::l')→Q0a w' (TAB p ts'::l'):=by
 obtain⟨⟨v,u,x⟩,H⟩:=Q0a.ex.1 H;have H:=Q0a.star.1 H;obtain⟨h,H⟩:=Q0a.prop.1 H;replace H:Q0a w (pts p (row 144 [v,pp u,.int .i64 (V5v ts)])::sls 199 6 v (ts.flatMap V2x)::BM1 u ts.length x::l):=H;obtain⟨a,c,rfl⟩:=Q0j H.drop (Q4v Q3c ts) (by decide);obtain⟨b,s,rfl,H,hcap,hsp,hclose⟩:=Q2n H.swap h.bits.pos;refine⟨b,c,s,u,x,h,hcap,H.swap,fun w' l' ts' x' e1 e2 h' H'=>?_⟩;have H':=hclose w' _ (ts'.flatMap V2x) (by rw[Q4v Q3c,Q4v Q3c,e1]) H'.swap;refine Q0a.ex.2 ⟨(.slice (some ⟨b,0,none⟩) ts.length c,u,x'),Q0a.star.2 (Q0a.prop.2 ⟨h',?_⟩)⟩;show Q0a w' (pts p (row 144 [_,pp u,.int .i64 (V5v ts')])::sls 199 6 _ _::BM1 u ts'.length x'::l');rw[e1,e2];exact H'.swap
theorem G1m [Q0i] (n:Nat) (h1:1≤n) (h2:n≤63) {w:World} {fr:List Q0e} (H:Q0a w fr) :
  Calls Tryz.prog 81 #[.int .i64 n] w (ret fun v w'=>∃ p,v = .tuple #[pp p,.int .i64 0]∧Q0a w' (TAB p (List.replicate n ⟨0,none⟩)::fr)):=by
 refine Q0c Tryz.func81 rfl (by kernel_rfl) ?_;refine J68 H ?_;rw[show decide ((n:Int) < 1)=false from decide_eq_false (by omega)];refine J72 H ?_;rw[show decide ((n:Int) > 4096)=false from decide_eq_false (by omega)];refine J17 H ?_;refine J20 H ?_;refine Jc rfl rfl (Y7c n (by omega) (by omega) H) ?_;clear H;rintro v w ⟨u,rfl,H⟩;refine J32 H ?_;refine J20 H ?_;refine Q0s rfl (Q1r H rfl rfl (by decide) (by omega) rfl ?_);clear H;intro b18 w H;refine Jv ?_;refine J60 H ?_;clear H;intro b21 w H;refine J2 H ?_
 have hz:Q5q (Q1v (.agg #[.int .i64 0,.bool false,.int .i64 0,.int .i64 0,.bool false,.bool false])) n=(List.replicate n (⟨0,none⟩:Slt)).flatMap V2x:=by
  clear H;clear h1 h2
  induction n with
  | zero=>rfl
  | succ n ih=>show _++Q5q _ n=_;rw[ih,List.replicate_succ,List.flatMap_cons];rfl
 have hlen:(List.replicate n (⟨0,none⟩:Slt)).length=n:=by simp
 have hgone:V5v (List.replicate n (⟨0,none⟩:Slt))=0:=by
  unfold V5v;rw[List.filter_eq_nil_iff.2 (fun t ht=>by rw[List.eq_of_mem_replicate ht];simp)];rfl
 have hok:V5w (List.replicate n (⟨0,none⟩:Slt)) 0:=by
  refine⟨by rw[hlen];exact⟨by omega,h2,Nat.two_pow_pos _⟩,fun i t ht=>?_,fun i t ht=>?_⟩
  ·rw[List.eq_of_mem_replicate (List.mem_of_getElem? ht),Nat.zero_testBit];rfl
  ·rw[List.eq_of_mem_replicate (List.mem_of_getElem? ht)];simp
 have hbm:BM u n (List.replicate ((n+63) / 64) 0) 0=BM1 u n 0:=by
  rw[show (n+63) / 64=1 by omega]
  have:V7j n 0=0:=by
   unfold V7j;rw[List.filter_eq_nil_iff.2 (fun i _=>by simp)];rfl
  show BM u n [0] 0=BM u n [0] (V7j n 0);rw[this]
 rw[hz,hbm] at H;refine Q0g (Jy H rfl fun w' H'=>⟨_,rfl,Q0a.ex.2 ⟨(.slice (some ⟨b18,0,none⟩) n n,u,0),Q0a.star.2 (Q0a.prop.2 ⟨hok,?_⟩)⟩⟩);show Q0a w' (pts b21 (row 144 [_,pp u,.int .i64 (V5v (List.replicate n (⟨0,none⟩:Slt)))])::sls 199 6 _ _::BM1 u (List.replicate n (⟨0,none⟩:Slt)).length 0::fr);rw[hgone,hlen];exact H'
theorem Y8c [Q0i] (p:Nat) (ts:List Slt) {w:World} {fr:List Q0e} (H:Q0a w (TAB p ts::fr)) :
  Calls Tryz.prog 90 #[pp p] w (ret fun v w'=>v = .int .i64 ((ts.length - Y1q ts:Nat):Int)∧Q0a w' (TAB p ts::fr)):=by
 obtain⟨b,c,s,u,x,hok,hc,H,hclose⟩:=V2y H;have hb:=hok.bits.le;have hcnt:=hok.cnt;have hle:=Z1m ts.length x;refine Q0c Tryz.func90 rfl (by kernel_rfl) ?_;refine U3w H ?_;refine J1 H ?_;clear H;intro w H;refine J61 H ?_;refine Q5g 4 rfl (Q0n.none rfl) rfl (by kernel_rfl) ?_;refine U3x H ?_;refine Jl 8 [9] H ?_;replace H:=Js [2,0,0] 0 H;refine Jo 9 H ?_;refine Jk rfl rfl (Y2k u _ _ _ H) ?_;clear H;rintro v w ⟨rfl,H⟩;refine U6q H ?_;replace H:=Js [1,1,0] 0 H;refine Q0g (Jy (hclose _ _ ts x rfl rfl hok H) rfl fun w' H'=>⟨?_,H'⟩);show Value.int .i64 (IntKind.i64.wrap ((ts.length:Int) - (V7j ts.length x:Int)))=_;rw[Q1e (by omega) (by omega),← hcnt];congr 1;omega
end Go.Proofs.YtmjdnljneifpcaaGreatDoor
