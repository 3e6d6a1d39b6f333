/- Cells: what is proved on the way: every input of the statement; no condition. Texts joined: CelP CelR BumA ImgA ImgB ImgC ImgD SrtI BagA RmC RmD. -/
import Derived.Test.YtmjdnljneifpcaaGreatDoorBdf
import Derived.Test.YtmjdnljneifpcaaGreatDoorBdd
import Derived.Test.YtmjdnljneifpcaaGreatDoorBdc
set_option linter.unusedVariables false
set_option linter.unusedSimpArgs false
namespace Go.Proofs.YtmjdnljneifpcaaGreatDoor
structure Q9 where
 addr:Nat
 region:Int
 held:Bool
 pinned:Bool
 lay:Nat
 count:Nat
 ws:List Nat
structure QH where
 gen:Nat
 ent:Option Q9
def Qk (ts:List QH) (i g:Int):Option (Nat×Q9):=
 if 0≤i then
  match ts[i.toNat]? with
  | some ⟨n,some e⟩=>if (n:Int)=g then some (i.toNat,e) else none
  | _=>none
 else none
theorem Y5 {ts:List QH} {i g:Int} {k:Nat} {e:Q9}:Qk ts i g=some (k,e)↔∃ n:Nat,i=k∧g=n∧ts[k]? = some ⟨n,some e⟩:=by
 unfold Qk;constructor
 ·intro h;split at h
  ·rename_i h0;split at h
   ·rename_i n e' he;split at h
    ·rename_i hn;injection h with h
     injection h with h1 h2
     subst h1 h2;exact⟨n,by omega,hn.symm,he⟩
    ·cases h
   ·cases h
  ·cases h
 ·rintro⟨n,rfl,rfl,h⟩;rw[if_pos (by omega)];simp only[Int.toNat_natCast,h];rw[if_pos trivial]
def Qm (ts:List QH) (i g:Int):Option (Nat×Q9):=
 match Qk ts i g with
 | some (k,e)=>if e.held then some (k,e) else none
 | none=>none
theorem XQ {ts:List QH} {i g:Int} {k:Nat} {e:Q9}:Qm ts i g=some (k,e)↔Qk ts i g=some (k,e)∧e.held=true:=by
 unfold Qm;cases h:Qk ts i g with
 | none=>simp
 | some q=>
  obtain⟨k',e'⟩:=q;simp only;split
  ·rename_i hh;constructor
   ·intro h1;cases h1;exact⟨rfl,hh⟩
   ·rintro⟨h1,_⟩;exact h1
  ·rename_i hh;constructor
   ·intro h1;cases h1
   ·rintro⟨h1,h2⟩;cases h1;exact absurd h2 hh
structure QE where
 parts:List (Nat×Nat)
 at':Nat
 fin:Nat
def QX (l:List (Nat×Nat)):List Nat:=l.flatMap fun p=>(List.range p.2).map (p.1+·)
structure CS where
 size:Nat
 own:List Nat
 lays:List QJ
 tab:List QH
 last:Nat
 par:List (Int×Int)
 rem:List ((Int×Int)×Int)
 sps:List (Int×Nat×QE)
 mns:List (Int×Nat×List Nat)
structure Ul (lays:List QJ) (i:Nat) (e:Q9):Prop where
 may:Xh e.lay e.count i
 lay:∃ l,lays[e.lay - 1]? = some l∧VO l∧V6 l e.count=(e.ws.length,0)∧∀ p w,e.ws[p]? = some w→w < 18446744073709551616∧(VV l p=true→∃ k,GK k∧w=V9 k)
def QM (e:Q9):Nat:=e.addr+1+e.ws.length
def Zk (size:Nat) (own:List Nat) (e:Q9):Prop:=QM e≤own.length*size∧∀ c,e.addr / size≤c→c≤(e.addr+e.ws.length) / size→∃ r:Nat,own[c]? = some r∧(r:Int)=e.region∧1≤r
structure GW (size:Nat) (own:List Nat) (r:Int) (S:QE):Prop where
 at1:S.at'≤S.fin
 fin:S.fin≠0→∃ c,S.fin=(c+1)*size∧c*size < S.at'∧(c,1)∈S.parts
 parts:∀ p∈S.parts,1≤p.2∧p.1+p.2≤own.length
 nodup:(QX S.parts).Nodup
 owned:∀ c,c∈QX S.parts↔∃ q:Nat,own[c]? = some q∧(q:Int)=r∧q≠0
structure WF (s:CS):Prop where
 size:1≤s.size∧s.size≤1024
 own:1≤s.own.length∧s.own.length≤63
 slots:1≤s.tab.length∧s.tab.length≤63
 lays:s.lays.length≤64∧∀ l∈s.lays,VO l
 gen:∀ (i:Nat) (t:QH),s.tab[i]? = some t→t.gen≤255∧(t.ent.isSome=true→1≤t.gen)
 obj:∀ (i g:Nat) (e:Q9),s.tab[i]? = some ⟨g,some e⟩→Ul s.lays i e∧Zk s.size s.own e∧(∃ q,(e.region,q)∈s.par)
 apart:∀ (i j g h:Nat) (e f:Q9),i≠j→s.tab[i]? = some ⟨g,some e⟩→s.tab[j]? = some ⟨h,some f⟩→QM e≤f.addr∨QM f≤e.addr
 par:s.par.length≤64∧s.last < 1000000∧∀ r q,(r,q)∈s.par→1≤r∧r≤s.last
 skeys:s.sps.map (·.1)=s.par.map (·.1)
 mkeys:s.mns.map (·.1)=s.par.map (·.1)
 spc:∀ x∈s.sps,GW s.size s.own x.1 x.2.2
 free:∀ x∈s.sps,∀ (i g:Nat) (e:Q9),s.tab[i]? = some ⟨g,some e⟩→QM e≤x.2.2.at'∨x.2.2.fin≤e.addr
 live:∀ (c r:Nat),s.own[c]? = some r→r≠0→∃ q,((r:Int),q)∈s.par
 mine:∀ x∈s.mns,x.2.2.Pairwise (· < ·)∧∀ i,i∈x.2.2↔∃ g e,s.tab[i]? = some ⟨g,some e⟩∧e.region=x.1
structure VI (s:CS) (mem:List Nat):Prop where
 len:mem.length=s.own.length*s.size
 head:∀ (i g:Nat) (e:Q9),s.tab[i]? = some ⟨g,some e⟩→mem[e.addr]? = some (Zw e.lay e.count i)
 words:∀ (i g:Nat) (e:Q9),s.tab[i]? = some ⟨g,some e⟩→∀ (p w:Nat),e.ws[p]? = some w→mem[e.addr+1+p]? = some w
theorem Qv {ts:List QH} {i j:Nat} {t u:QH} (h:(ts.set i t)[j]? = some u):(j=i∧u=t∧i < ts.length)∨(j≠i∧ts[j]? = some u):=by
 rw[List.getElem?_set] at h;by_cases hij:i=j
 ·subst hij;rw[if_pos rfl] at h;split at h
  ·rename_i hl;injection h with h
   exact .inl ⟨rfl,h.symm,hl⟩
  ·cases h
 ·rw[if_neg hij] at h;exact .inr ⟨fun e=>hij e.symm,h⟩
structure KE (e e':Q9):Prop where
 addr:e'.addr=e.addr
 region:e'.region=e.region
 lay:e'.lay=e.lay
 count:e'.count=e.count
 len:e'.ws.length=e.ws.length
theorem KE.end {e e':Q9} (h:KE e e'):QM e'=QM e:=by unfold QM;rw[h.addr,h.len]
theorem KE.lies {e e':Q9} (h:KE e e') {size:Nat} {own:List Nat} (l:Zk size own e):Zk size own e':=by
 unfold Zk at *;rw[h.end,h.addr,h.len,h.region];exact l
def VF (s:CS) (i g:Nat) (e:Q9):CS:={ s with tab:=s.tab.set i ⟨g,some e⟩ }
theorem ES {s:CS} (h:WF s) {i g:Nat} {e e':Q9} (hi:s.tab[i]? = some ⟨g,some e⟩) (a:KE e e') (ok:Ul s.lays i e'):WF (VF s i g e'):=by
 have ho:=h.obj i g e hi;refine⟨h.size,h.own,by show 1≤(s.tab.set _ _).length∧(s.tab.set _ _).length≤63;rw[List.length_set];exact h.slots,h.lays,?_,?_,?_,h.par,h.skeys,h.mkeys,h.spc,?_,h.live,?_⟩
 ·intro j t hj
  rcases Qv hj with ⟨rfl,rfl,_⟩|⟨_,hj⟩
  ·exact⟨(h.gen _ _ hi).1,fun _=>(h.gen _ _ hi).2 rfl⟩
  ·exact h.gen _ _ hj
 ·intro j k f hj
  rcases Qv hj with ⟨rfl,ht,_⟩|⟨_,hj⟩
  ·injection ht with h1 h2
   injection h2 with h2
   subst h1 h2;exact⟨ok,a.lies ho.2.1,by rw[a.region];exact ho.2.2⟩
  ·exact h.obj _ _ _ hj
 ·intro j k m n f f' hne hj hk
  rcases Qv hj with ⟨rfl,ht,_⟩|⟨hji,hj'⟩ <;> rcases Qv hk with ⟨rfl,hu,_⟩|⟨hki,hk'⟩
  ·exact absurd rfl hne
  ·injection ht with h1 h2
   injection h2 with h2
   subst h1 h2;rw[a.end,a.addr];exact h.apart _ _ _ n _ _ hne hi hk'
  ·injection hu with h1 h2
   injection h2 with h2
   subst h1 h2;rw[a.end,a.addr];exact h.apart _ _ m _ _ _ hne hj' hi
  ·exact h.apart _ _ _ _ _ _ hne hj' hk'
 ·intro x hx j k f hj
  rcases Qv hj with ⟨rfl,ht,_⟩|⟨_,hj⟩
  ·injection ht with h1 h2
   injection h2 with h2
   subst h1 h2;rw[a.end,a.addr];exact h.free x hx _ _ _ hi
  ·exact h.free x hx _ _ _ hj
 ·intro x hx;obtain⟨h1,h2⟩:=h.mine x hx;refine⟨h1,fun j=>?_⟩;rw[h2];have hil:i < s.tab.length:=(List.getElem?_eq_some_iff.1 hi).1;constructor
  ·rintro⟨m,f,hj,hf⟩;by_cases hij:j=i
   ·subst hij;rw[hi] at hj;cases hj;exact⟨g,e',by show (s.tab.set _ _)[_]? = _;simp[hil],by rw[a.region];exact hf⟩
   ·exact⟨m,f,by show (s.tab.set _ _)[_]? = _;rw[List.getElem?_set_ne (fun q=>hij q.symm)];exact hj,hf⟩
  ·rintro⟨m,f,hj,hf⟩
   rcases Qv hj with ⟨rfl,ht,_⟩|⟨_,hj⟩
   ·injection ht with h1 h2
    injection h2 with h2
    subst h1 h2;exact⟨_,_,hi,by rw[← a.region];exact hf⟩
   ·exact⟨m,f,hj,hf⟩
theorem MF {s:CS} (h:WF s) {mem:List Nat} (m:VI s mem) {i g:Nat} {e e':Q9} (hi:s.tab[i]? = some ⟨g,some e⟩) (a:KE e e') {mem':List Nat} (hl:mem'.length=mem.length)
  (hin:∀ (p w:Nat),e'.ws[p]? = some w→mem'[e.addr+1+p]? = some w) (hh:mem'[e.addr]? = mem[e.addr]?) (hout:∀ k,k < e.addr∨QM e≤k→mem'[k]? = mem[k]?):VI (VF s i g e') mem':=by
 refine⟨by rw[hl];exact m.len,?_,?_⟩
 ·intro j k f hj
  rcases Qv hj with ⟨rfl,ht,_⟩|⟨hji,hj⟩
  ·injection ht with h1 h2
   injection h2 with h2
   subst h1 h2;rw[a.addr,a.lay,a.count,hh];exact m.head _ _ _ hi
  ·have:=h.apart _ _ _ _ _ _ hji hj hi;rw[hout _ (by unfold QM at this ⊢;omega)];exact m.head _ _ _ hj
 ·intro j k f hj p w hw
  rcases Qv hj with ⟨rfl,ht,_⟩|⟨hji,hj⟩
  ·injection ht with h1 h2
   injection h2 with h2
   subst h1 h2;rw[a.addr];exact hin p w hw
  ·have:=h.apart _ _ _ _ _ _ hji hj hi;have hp:=(List.getElem?_eq_some_iff.1 hw).1;rw[hout _ (by unfold QM at this ⊢;omega)];exact m.words _ _ _ hj p w hw
theorem HJ {s:CS} (h:WF s) {mem:List Nat} (m:VI s mem) {i g:Nat} {e:Q9} (hi:s.tab[i]? = some ⟨g,some e⟩) {p x:Nat} (hp:p < e.ws.length):VI (VF s i g { e with ws:=e.ws.set p x }) (mem.set (e.addr+1+p) x):=by
 have hend:QM e≤mem.length:=by rw[m.len];exact(h.obj i g e hi).2.1.1
 refine MF (e':={ e with ws:=e.ws.set p x }) h m hi ⟨rfl,rfl,rfl,rfl,by show (e.ws.set p x).length=_;simp⟩ (by simp) ?_ ?_ ?_
 ·intro q w hw;have hw:(e.ws.set p x)[q]? = some w:=hw;rw[List.getElem?_set] at hw;by_cases hpq:p=q
  ·subst hpq;rw[if_pos rfl,if_pos hp] at hw;injection hw with hw
   subst hw;rw[List.getElem?_set_self (by unfold QM at hend;omega)]
  ·rw[if_neg hpq] at hw;rw[List.getElem?_set_ne (by omega)];exact m.words _ _ _ hi q w hw
 ·rw[List.getElem?_set_ne (by omega)]
 ·intro k hk;rw[List.getElem?_set_ne (by unfold QM at hk;omega)]
theorem TX {s:CS} (h:WF s) {mem:List Nat} (m:VI s mem) {i g:Nat} {e e':Q9} (hi:s.tab[i]? = some ⟨g,some e⟩) (a:KE e e') (hw:e'.ws=e.ws):VI (VF s i g e') mem:=
 MF h m hi a rfl (fun p w hp=>m.words _ _ _ hi p w (by rw[← hw];exact hp)) rfl (fun _ _=>rfl)
theorem TR {lays:List QJ} {i:Nat} {e e':Q9} (h:Ul lays i e) (a:KE e e') (hw:e'.ws=e.ws):Ul lays i e':=by
 obtain⟨m,l,h1,h2,h3,h4⟩:=h;exact⟨by rw[a.lay,a.count];exact m,l,by rw[a.lay];exact h1,h2,by rw[a.count,hw];exact h3,by rw[hw];exact h4⟩
theorem HL {lays:List QJ} {i:Nat} {e:Q9} (h:Ul lays i e) {l:QJ} (hl:lays[e.lay - 1]? = some l) {p x:Nat} (hx:x < 18446744073709551616) (hr:VV l p=true→∃ k,GK k∧x=V9 k):Ul lays i { e with ws:=e.ws.set p x }:=by
 obtain⟨m,l',h1,h2,h3,h4⟩:=h;rw[hl] at h1;cases h1;refine⟨m,l,hl,h2,by simpa using h3,fun q w hw=>?_⟩;have hw:(e.ws.set p x)[q]? = some w:=hw;rw[List.getElem?_set] at hw;by_cases hpq:p=q
 ·subst hpq;rw[if_pos rfl] at hw;split at hw
  ·injection hw with hw
   subst hw;exact⟨hx,hr⟩
  ·cases hw
 ·rw[if_neg hpq] at hw;exact h4 q w hw
end Go.Proofs.YtmjdnljneifpcaaGreatDoor
namespace Go.Proofs.YtmjdnljneifpcaaGreatDoor
theorem Zk.chunk {size:Nat} (h1:1≤size) {own:List Nat} {e:Q9} (h:Zk size own e) (c:Nat):(QM e≤c*size∨(c+1)*size≤e.addr)∨∃ r:Nat,own[c]? = some r∧(r:Int)=e.region∧1≤r:=by
 by_cases ha:c < e.addr / size
 ·left;right;have:=(Nat.le_div_iff_mul_le (by omega)).1 (Nat.succ_le_of_lt ha);exact this
 ·by_cases hb:(e.addr+e.ws.length) / size < c
  ·left;left;have:=(Nat.div_lt_iff_lt_mul (by omega)).1 hb;unfold QM;omega
  ·right;exact h.2 c (by omega) (by omega)
inductive U1 (size:Nat) (own mem:List Nat) (r:Nat) (S:QE) (n:Nat):List Nat→List Nat→QE→Nat→Prop where
 | room (h:n≤S.fin - S.at'):U1 size own mem r S n own mem { S with at':=S.at'+n } S.at'
 | one {a:Nat} (ha:a+1≤own.length) (hf:own[a]? = some 0) (hn:n≤size):U1 size own mem r S n (V3 own a 1 r) (V3 mem (a*size) (1*size) 0) ⟨S.parts++[(a,1)],a*size+n,(a+1)*size⟩ (a*size)
 | run {a k:Nat} (hk:2≤k) (ha:a+k≤own.length) (hf:∀ c,a≤c→c < a+k→own[c]? = some 0) (hn:n≤k*size) (hn2:(k - 1)*size < n):U1 size own mem r S n (V3 own a k r) (V3 mem (a*size) (k*size) 0) ⟨S.parts++[(a,k)],S.at',S.fin⟩ (a*size)
theorem GA (a b:List (Nat×Nat)):QX (a++b)=QX a++QX b:=by simp[QX]
theorem Xl (a k:Nat):QX [(a,k)]=(List.range k).map (a+·):=by simp[QX]
theorem GB {a k c:Nat}:c∈(List.range k).map (a+·)↔a≤c∧c < a+k:=by
 simp only[List.mem_map,List.mem_range];constructor
 ·rintro⟨i,h,rfl⟩;omega
 ·rintro⟨h1,h2⟩;exact⟨c - a,by omega,by omega⟩
theorem HM (a k:Nat):((List.range k).map (a+·)).Nodup:=by
 refine List.Pairwise.map _ (fun x y h=>?_) List.nodup_range;omega
theorem MH {size:Nat} {own:List Nat} {a k r:Nat} (ha:a+k≤own.length) (hf:∀ c,a≤c→c < a+k→own[c]? = some 0) {e:Q9} (h:Zk size own e):Zk size (V3 own a k r) e:=by
 refine⟨by rw[Vq ha];exact h.1,fun c h1 h2=>?_⟩;obtain⟨q,hq,hr,h1⟩:=h.2 c h1 h2;rw[Zi ha,if_neg]
 ·exact⟨q,hq,hr,h1⟩
 ·rintro⟨h2,h3⟩;rw[hf c h2 h3] at hq;cases hq;omega
theorem MI {size:Nat} {own:List Nat} {a k r:Nat} (ha:a+k≤own.length) (hf:∀ c,a≤c→c < a+k→own[c]? = some 0) {q:Int} {S:QE} (hq:q≠r) (h:GW size own q S):GW size (V3 own a k r) q S:=by
 refine⟨h.at1,h.fin,by rw[Vq ha];exact h.parts,h.nodup,fun c=>?_⟩;rw[h.owned,Zi ha];by_cases hc:a≤c∧c < a+k
 ·rw[if_pos hc,hf c hc.1 hc.2];constructor
  ·rintro⟨x,h1,_,h3⟩;cases h1;omega
  ·rintro⟨x,h1,h2,_⟩;cases h1;omega
 ·rw[if_neg hc]
theorem MJ {size:Nat} {own:List Nat} {a k r:Nat} (ha:a+k≤own.length) (hf:∀ c,a≤c→c < a+k→own[c]? = some 0) (hk:1≤k) (hr:1≤r) {S:QE} (h:GW size own r S) {x y:Nat}
  (h1:x≤y) (h2:y≠0→∃ c,y=(c+1)*size∧c*size < x∧(c,1)∈S.parts++[(a,k)]):GW size (V3 own a k r) r ⟨S.parts++[(a,k)],x,y⟩:=by
 refine⟨h1,h2,?_,?_,fun c=>?_⟩
 ·intro p hp;rw[Vq ha]
  rcases List.mem_append.1 hp with hp|hp
  ·exact h.parts p hp
  ·simp at hp;subst hp;exact⟨hk,ha⟩
 ·show (QX (S.parts++[(a,k)])).Nodup;rw[GA,Xl,List.nodup_append];refine⟨h.nodup,HM a k,fun c hc d hd=>?_⟩;rintro rfl;obtain⟨q,h1,_,h3⟩:=(h.owned c).1 hc;have h4:=GB.1 hd;rw[hf c h4.1 h4.2] at h1;cases h1;omega
 ·show c∈QX (S.parts++[(a,k)])↔_;rw[GA,Xl,List.mem_append,GB,h.owned,Zi ha];by_cases hc:a≤c∧c < a+k
  ·rw[if_pos hc];constructor
   ·intro _;exact⟨r,rfl,rfl,by omega⟩
   ·intro _;exact .inr hc
  ·rw[if_neg hc];constructor
   ·rintro(h|h)
    ·exact h
    ·exact absurd h hc
   ·intro h;exact .inl h
theorem Um {α:Type} {a b:List α} {x y:α} (h:x∈a++b):x∈a++y::b:=by
 rcases List.mem_append.1 h with h|h
 ·exact List.mem_append.2 (.inl h)
 ·exact List.mem_append.2 (.inr (List.mem_cons_of_mem _ h))
theorem Zx {α:Type} {a b:List α} {x y:α} (h:x∈a++y::b):x=y∨x∈a++b:=by
 rcases List.mem_append.1 h with h|h
 ·exact .inr (List.mem_append.2 (.inl h))
 ·rcases List.mem_cons.1 h with h|h
  ·exact .inl h
  ·exact .inr (List.mem_append.2 (.inr h))
theorem C0 {K V:Type} {g1 g2:List (K×V)} {x x':K×V} (h:x'.1=x.1):(g1++x'::g2).map (·.1)=(g1++x::g2).map (·.1):=by simp[h]
theorem TW {s:CS} (h:WF s) {i g0:Nat} (hi:s.tab[i]? = some ⟨g0,none⟩) (hg:g0≤254) {r:Nat} {q q2:Nat} {S:QE} {L:List Nat} {p1 p2:List (Int×Nat×QE)} {m1 m2:List (Int×Nat×List Nat)}
  (hs:s.sps=p1++((r:Int),q,S)::p2) (hm:s.mns=m1++((r:Int),q2,L)::m2) (hnd:(s.par.map (·.1)).Nodup) {e:Q9} (hreg:e.region=r) (ok:Ul s.lays i e) {own' mem mem':List Nat} {S':QE}
  (al:U1 s.size s.own mem r S (e.ws.length+1) own' mem' S' e.addr) {L':List Nat} (hL:L'.Pairwise (· < ·)) (hL':∀ j,j∈L'↔j=i∨j∈L) :
  WF { s with own:=own',tab:=s.tab.set i ⟨g0+1,some e⟩,sps:=p1++((r:Int),q,S')::p2,mns:=m1++((r:Int),q2,L')::m2 }:=by
 have hs1:=h.size.1;have hil:i < s.tab.length:=(List.getElem?_eq_some_iff.1 hi).1;have hS:GW s.size s.own r S:=h.spc ((r:Int),q,S) (by rw[hs];simp)
 have hlive:∃ y,((r:Int),y)∈s.par:=by
  have:(r:Int)∈s.par.map (·.1):=by rw[← h.skeys,hs];simp
  obtain⟨⟨a,b⟩,hab,rfl⟩:=List.mem_map.1 this;exact⟨b,hab⟩
 have hr1:1≤r:=by obtain⟨y,hy⟩:=hlive;have:=(h.par.2.2 _ _ hy).1;omega
 have hnk:((p1++((r:Int),q,S)::p2).map (·.1)).Nodup:=by rw[← hs,h.skeys];exact hnd
 have hother:∀ x∈p1++p2,x∈s.sps∧x.1≠(r:Int):=by
  intro x hx;refine⟨by rw[hs];exact Um hx,fun hx1=>?_⟩;rw[List.map_append,List.map_cons,List.nodup_append] at hnk;obtain⟨_,h2,h3⟩:=hnk
  rcases List.mem_append.1 hx with hx|hx
  ·exact h3 x.1 (List.mem_map.2 ⟨x,hx,rfl⟩) (r:Int) (by simp) hx1
  ·rw[List.nodup_cons] at h2;exact h2.1 (List.mem_map.2 ⟨x,hx,hx1⟩)
 have hmem:∀ x,x∈p1++((r:Int),q,S')::p2→x=((r:Int),q,S')∨x∈p1++p2:=by
  exact fun x hx=>Zx hx
 have key:own'.length=s.own.length∧Zk s.size own' e∧(∀ f,Zk s.size s.own f→Zk s.size own' f)∧GW s.size own' r S'∧(∀ x∈p1++p2,GW s.size own' x.1 x.2.2) ∧
   (∀ (j g:Nat) (f:Q9),s.tab[j]? = some ⟨g,some f⟩→(QM f≤e.addr∨QM e≤f.addr)∧(QM f≤S'.at'∨S'.fin≤f.addr))∧(QM e≤S'.at'∨S'.fin≤e.addr)∧(∀ (c x:Nat),own'[c]? = some x→x≠0→x=r∨s.own[c]? = some x):=by
  generalize hea:e.addr=ad at al;cases al with
  | room hn=>
   have hfin:S.fin≠0:=by omega
   obtain⟨c,hc1,hc2,hc3⟩:=hS.fin hfin
   have hcm:c∈QX S.parts:=by
    unfold QX;rw[List.mem_flatMap];exact⟨(c,1),hc3,by simp⟩
   obtain⟨y,hy1,hy2,hy3⟩:=(hS.owned c).1 hcm;have hat:=hS.at1;have e1:e.addr / s.size=c:=by rw[hea];exact Nat.div_eq_of_lt_le (by omega) (by rw[← hc1];omega)
   have e2:(e.addr+e.ws.length) / s.size=c:=by rw[hea];exact Nat.div_eq_of_lt_le (by omega) (by rw[← hc1];omega)
   have hcl:c < s.own.length:=(List.getElem?_eq_some_iff.1 hy1).1;have hle:(c+1)*s.size≤s.own.length*s.size:=Nat.mul_le_mul_right _ hcl;refine⟨rfl,⟨by unfold QM;omega,fun d h1 h2=>?_⟩,fun _ hf=>hf,⟨by show S.at'+_≤S.fin;omega,fun _=>⟨c,hc1,by show c*s.size < S.at'+_;omega,hc3⟩,hS.parts,hS.nodup,hS.owned⟩,fun x hx=>h.spc x (hother x hx).1,fun j g f hj=>?_,.inl ?_,fun _ _ h1 _ => .inr h1⟩
   ·have:d=c:=by omega
    subst this;exact⟨y,hy1,by rw[hy2,hreg],by omega⟩
   ·have:QM f≤S.at'∨S.fin≤f.addr:=h.free ((r:Int),q,S) (by rw[hs];simp) _ _ _ hj;have hee:QM e=S.at'+(e.ws.length+1):=by unfold QM;omega
    rw[hee];constructor
    ·rcases this with h1|h1
     ·left;exact h1
     ·right;show S.at'+_≤f.addr;omega
    ·rcases this with h1|h1
     ·left;show QM f≤S.at'+_;omega
     ·right;exact h1
   ·show QM e≤S.at'+_;unfold QM;omega
  | @one a ha hf hn=>
   have hf':∀ c,a≤c→c < a+1→s.own[c]? = some 0:=fun c h1 h2=>by rw[show c=a by omega];exact hf
   have hsz:(a+1)*s.size=a*s.size+s.size:=Nat.succ_mul _ _;have hle:(a+1)*s.size≤s.own.length*s.size:=Nat.mul_le_mul_right _ ha;have e1:e.addr / s.size=a:=by rw[hea];exact Nat.mul_div_cancel _ (by omega)
   have e2:(e.addr+e.ws.length) / s.size=a:=by rw[hea];exact Nat.div_eq_of_lt_le (by omega) (by omega)
   have hoff:∀ (j g:Nat) (f:Q9),s.tab[j]? = some ⟨g,some f⟩→QM f≤a*s.size∨(a+1)*s.size≤f.addr:=fun j g f hj=>by
    rcases (h.obj _ _ _ hj).2.1.chunk hs1 a with h1|⟨x,h1,_,h3⟩
    ·exact h1
    ·rw[hf] at h1;cases h1;omega
   refine⟨Vq ha,⟨by rw[Vq ha];unfold QM;omega,fun d h1 h2=>?_⟩,fun f hl=>MH ha hf' hl,?_,fun x hx=>MI ha hf' (hother x hx).2 (h.spc x (hother x hx).1),fun j g f hj=>?_,.inl ?_,fun c x h1 h2=>?_⟩
   ·have:d=a:=by omega
    subst this;rw[Zi ha,if_pos (by omega)];exact⟨r,rfl,hreg.symm,hr1⟩
   ·exact MJ ha hf' (by omega) hr1 hS (by omega) (fun _=>⟨a,rfl,by omega,by simp⟩)
   ·have:=hoff j g f hj;have hee:QM e=a*s.size+(e.ws.length+1):=by unfold QM;omega
    rw[hee];constructor
    ·rcases this with h1|h1
     ·left;exact h1
     ·right;omega
    ·rcases this with h1|h1
     ·left;show QM f≤a*s.size+_;omega
     ·right;exact h1
   ·show QM e≤a*s.size+_;unfold QM;omega
   ·rw[Zi ha] at h1;split at h1
    ·cases h1;exact .inl rfl
    ·exact .inr h1
  | @run a k hk ha hf hn hn2=>
   have hsz:(a+k)*s.size=a*s.size+k*s.size:=Nat.add_mul _ _ _;have hsz2:(k - 1+1)*s.size=(k - 1)*s.size+s.size:=Nat.succ_mul _ _;rw[show k - 1+1=k by omega] at hsz2;have hle:(a+k)*s.size≤s.own.length*s.size:=Nat.mul_le_mul_right _ ha;have e1:e.addr / s.size=a:=by rw[hea];exact Nat.mul_div_cancel _ (by omega)
   have e2:(e.addr+e.ws.length) / s.size < a+k:=by rw[hea,Nat.div_lt_iff_lt_mul (by omega)];omega
   have hoff:∀ c,a≤c→c < a+k→∀ (j g:Nat) (f:Q9),s.tab[j]? = some ⟨g,some f⟩→QM f≤c*s.size∨(c+1)*s.size≤f.addr:=fun c hc1 hc2 j g f hj=>by
    rcases (h.obj _ _ _ hj).2.1.chunk hs1 c with h1|⟨x,h1,_,h3⟩
    ·exact h1
    ·rw[hf c hc1 hc2] at h1;cases h1;omega
   have hoff2:∀ (j g:Nat) (f:Q9),s.tab[j]? = some ⟨g,some f⟩→QM f≤a*s.size∨(a+k)*s.size≤f.addr:=fun j g f hj=>by
    have hend:f.addr+1≤QM f:=by unfold QM;omega
    by_cases h0:QM f≤a*s.size
    ·exact .inl h0
    ·refine .inr ?_
     have:∀ m,m < k→(a+m+1)*s.size≤f.addr:=by
      intro m
      induction m with
      | zero=>
       intro _
       rcases hoff a (by omega) (by omega) j g f hj with h1|h1
       ·exact absurd h1 h0
       ·exact h1
      | succ m ih=>
       intro hm;have h2:=ih (by omega)
       rcases hoff (a+(m+1)) (by omega) (by omega) j g f hj with h1|h1
       ·rw[show a+(m+1)=a+m+1 by omega] at h1;omega
       ·exact h1
     have:=this (k - 1) (by omega);rw[show a+(k - 1)+1=a+k by omega] at this;exact this
   refine⟨Vq ha,⟨by rw[Vq ha];unfold QM;omega,fun d h1 h2=>?_⟩,fun f hl=>MH ha hf hl,?_,fun x hx=>MI ha hf (hother x hx).2 (h.spc x (hother x hx).1),fun j g f hj=>?_,?_,fun c x h1 h2=>?_⟩
   ·rw[Zi ha,if_pos (by omega)];exact⟨r,rfl,hreg.symm,hr1⟩
   ·refine MJ ha hf (by omega) hr1 hS hS.at1 (fun h0=>?_);obtain⟨c,h1,h2,h3⟩:=hS.fin h0;exact⟨c,h1,h2,by simp[h3]⟩
   ·have:=hoff2 j g f hj;have hee:QM e=a*s.size+(e.ws.length+1):=by unfold QM;omega
    rw[hee];refine⟨?_,h.free ((r:Int),q,S) (by rw[hs];simp) _ _ _ hj⟩
    rcases this with h1|h1
    ·left;exact h1
    ·right;omega
   ·show QM e≤S.at'∨S.fin≤a*s.size;by_cases h0:S.fin=0
    ·right;omega
    obtain⟨c,hc1,hc2,hc3⟩:=hS.fin h0
    have hcm:c∈QX S.parts:=by
     unfold QX;rw[List.mem_flatMap];exact⟨(c,1),hc3,by simp⟩
    obtain⟨y,hy1,hy2,hy3⟩:=(hS.owned c).1 hcm;by_cases hca:c < a
    ·right;have:(c+1)*s.size≤a*s.size:=Nat.mul_le_mul_right _ hca;omega
    ·by_cases hcb:c < a+k
     ·rw[hf c (by omega) hcb] at hy1;cases hy1;omega
     ·left;have:(a+k)*s.size≤c*s.size:=Nat.mul_le_mul_right _ (by omega);unfold QM;omega
   ·rw[Zi ha] at h1;split at h1
    ·cases h1;exact .inl rfl
    ·exact .inr h1
 obtain⟨k1,k2,k3,k4,k5,k6,k7,k8⟩:=key;have hsk:(p1++((r:Int),q,S')::p2).map (·.1)=s.par.map (·.1):=by rw[← h.skeys,hs];exact C0 rfl
 have hmk:(m1++((r:Int),q2,L')::m2).map (·.1)=s.par.map (·.1):=by rw[← h.mkeys,hm];exact C0 rfl
 have hnm:((m1++((r:Int),q2,L)::m2).map (·.1)).Nodup:=by rw[← hm,h.mkeys];exact hnd
 refine⟨h.size,by show 1≤own'.length∧own'.length≤63;rw[k1];exact h.own,by show 1≤(s.tab.set _ _).length∧(s.tab.set _ _).length≤63;rw[List.length_set];exact h.slots,h.lays,?_,?_,?_,h.par,hsk,hmk,?_,?_,?_,?_⟩
 ·intro j t hj
  rcases Qv hj with ⟨rfl,rfl,_⟩|⟨_,hj⟩
  ·exact⟨by show g0+1≤255;omega,fun _=>by show 1≤g0+1;omega⟩
  ·exact h.gen _ _ hj
 ·intro j g f hj
  rcases Qv hj with ⟨rfl,ht,_⟩|⟨_,hj⟩
  ·injection ht with h1 h2
   injection h2 with h2
   subst h2;exact⟨ok,k2,by rw[hreg];exact hlive⟩
  ·obtain⟨o1,o2,o3⟩:=h.obj _ _ _ hj;exact⟨o1,k3 _ o2,o3⟩
 ·intro j k m n f f' hne hj hk
  rcases Qv hj with ⟨rfl,ht,_⟩|⟨hji,hj'⟩ <;> rcases Qv hk with ⟨rfl,hu,_⟩|⟨hki,hk'⟩
  ·exact absurd rfl hne
  ·injection ht with h1 h2
   injection h2 with h2
   subst h2;exact(k6 _ _ _ hk').1.symm
  ·injection hu with h1 h2
   injection h2 with h2
   subst h2;exact(k6 _ _ _ hj').1
  ·exact h.apart _ _ _ _ _ _ hne hj' hk'
 ·intro x hx
  rcases hmem x hx with rfl|hx
  ·exact k4
  ·exact k5 x hx
 ·intro x hx j g f hj
  rcases Qv hj with ⟨rfl,ht,_⟩|⟨_,hj⟩
  ·injection ht with h1 h2
   injection h2 with h2
   subst h2
   rcases hmem x hx with rfl|hx
   ·exact k7
   ·have hok:=k5 x hx;by_cases h0:x.2.2.fin=0
    ·right;omega
    obtain⟨c,hc1,hc2,hc3⟩:=hok.fin h0
    have hcm:c∈QX x.2.2.parts:=by
     unfold QX;rw[List.mem_flatMap];exact⟨(c,1),hc3,by simp⟩
    obtain⟨y,hy1,hy2,hy3⟩:=(hok.owned c).1 hcm;have hat:=hok.at1
    rcases k2.chunk hs1 c with (h1|h1)|⟨z,hz1,hz2,hz3⟩
    ·left;omega
    ·right;omega
    ·exact absurd (show x.1=(r:Int) by rw[hy1] at hz1;cases hz1;rw[← hy2,hz2,hreg]) (hother x hx).2
  ·rcases hmem x hx with rfl|hx
   ·exact(k6 _ _ _ hj).2
   ·exact h.free x (hother x hx).1 _ _ _ hj
 ·intro c x hc h0
  rcases k8 c x hc h0 with rfl|h1
  ·exact hlive
  ·exact h.live c x h1 h0
 ·intro x hx
  have hx':x=((r:Int),q2,L')∨(x∈s.mns∧x.1≠(r:Int)):=by
   have hx0:x=((r:Int),q2,L')∨x∈m1++m2:=by
    exact Zx hx
   rcases hx0 with h1|h1
   ·exact .inl h1
   ·refine .inr ⟨by rw[hm];exact Um h1,fun hx1=>?_⟩;rw[List.map_append,List.map_cons,List.nodup_append] at hnm;obtain⟨_,h2,h3⟩:=hnm
    rcases List.mem_append.1 h1 with hx|hx
    ·exact h3 x.1 (List.mem_map.2 ⟨x,hx,rfl⟩) (r:Int) (by simp) hx1
    ·rw[List.nodup_cons] at h2;exact h2.1 (List.mem_map.2 ⟨x,hx,hx1⟩)
  rcases hx' with rfl|⟨hx,hne⟩
  ·refine⟨hL,fun j=>?_⟩;show j∈L'↔_;rw[hL',(h.mine ((r:Int),q2,L) (by rw[hm];simp)).2];constructor
   ·rintro(rfl|⟨g,f,h1,h2⟩)
    ·exact⟨g0+1,e,by show (s.tab.set _ _)[_]? = _;simp[hil],hreg⟩
    ·by_cases hji:j=i
     ·subst hji;rw[hi] at h1;cases h1
     ·exact⟨g,f,by show (s.tab.set _ _)[_]? = _;rw[List.getElem?_set_ne (fun q=>hji q.symm)];exact h1,h2⟩
   ·rintro⟨g,f,h1,h2⟩
    rcases Qv h1 with ⟨rfl,_,_⟩|⟨_,h1⟩
    ·exact .inl rfl
    ·exact .inr ⟨g,f,h1,h2⟩
  ·obtain⟨h1,h2⟩:=h.mine x hx;refine⟨h1,fun j=>?_⟩;rw[h2];constructor
   ·rintro⟨g,f,h3,h4⟩;by_cases hji:j=i
    ·subst hji;rw[hi] at h3;cases h3
    ·exact⟨g,f,by show (s.tab.set _ _)[_]? = _;rw[List.getElem?_set_ne (fun q=>hji q.symm)];exact h3,h4⟩
   ·rintro⟨g,f,h3,h4⟩
    rcases Qv h3 with ⟨rfl,ht,_⟩|⟨_,h3⟩
    ·injection ht with _ h5
     injection h5 with h5
     subst h5;exact absurd (h4.symm.trans hreg) hne
    ·exact⟨g,f,h3,h4⟩
theorem ML {s:CS} (h:WF s) {mem mem' own':List Nat} (hm:mem.length=s.own.length*s.size) {r n ad:Nat} {S S':QE} (al:U1 s.size s.own mem r S n own' mem' S' ad) :
  mem'.length=mem.length∧∀ (j g:Nat) (f:Q9),s.tab[j]? = some ⟨g,some f⟩→∀ k,f.addr≤k→k < QM f→mem'[k]? = mem[k]?:=by
 have hs1:=h.size.1
 have off:∀ (a K:Nat),a+K≤s.own.length→(∀ c,a≤c→c < a+K→s.own[c]? = some 0)→(V3 mem (a*s.size) (K*s.size) 0).length=mem.length ∧
   ∀ (j g:Nat) (f:Q9),s.tab[j]? = some ⟨g,some f⟩→∀ k,f.addr≤k→k < QM f→(V3 mem (a*s.size) (K*s.size) 0)[k]? = mem[k]?:=by
  intro a K ha hf;have hsz:(a+K)*s.size=a*s.size+K*s.size:=Nat.add_mul _ _ _;have hle:(a+K)*s.size≤s.own.length*s.size:=Nat.mul_le_mul_right _ ha;refine⟨Vq (by omega),fun j g f hj k h1 h2=>?_⟩;rw[Zi (by omega),if_neg];rintro⟨h3,h4⟩;unfold QM at h2;have c1:f.addr / s.size≤k / s.size:=Nat.div_le_div_right h1;have c2:k / s.size≤(f.addr+f.ws.length) / s.size:=Nat.div_le_div_right (by omega);obtain⟨q,hq,_,hq1⟩:=(h.obj _ _ _ hj).2.1.2 _ c1 c2;have c3:a≤k / s.size:=(Nat.le_div_iff_mul_le (by omega)).2 h3;have c4:k / s.size < a+K:=(Nat.div_lt_iff_lt_mul (by omega)).2 (by omega);rw[hf _ c3 c4] at hq;cases hq;omega
 cases al with
 | room _=>exact⟨rfl,fun _ _ _ _ _ _ _=>rfl⟩
 | @one a ha hf _=>exact off a 1 ha (fun c h1 h2=>by rw[show c=a by omega];exact hf)
 | @run a k _ ha hf _ _=>exact off a k ha hf
theorem TA {s:CS} (h:WF s) {mem mem1 mem2 own':List Nat} (m:VI s mem) {r i g0:Nat} (hi:s.tab[i]? = some ⟨g0,none⟩) {S S':QE} {e:Q9} (al:U1 s.size s.own mem r S (e.ws.length+1) own' mem1 S' e.addr)
  (hl:mem2.length=mem1.length) (hown:own'.length=s.own.length) (hh:mem2[e.addr]? = some (Zw e.lay e.count i)) (hw:∀ (p w:Nat),e.ws[p]? = some w→mem2[e.addr+1+p]? = some w) (hout:∀ k,k < e.addr∨QM e≤k→mem2[k]? = mem1[k]?)
  (hap:∀ (j g:Nat) (f:Q9),s.tab[j]? = some ⟨g,some f⟩→QM f≤e.addr∨QM e≤f.addr) {s':CS} (h1:s'.own=own') (h2:s'.size=s.size) (h3:s'.tab=s.tab.set i ⟨g0+1,some e⟩):VI s' mem2:=by
 obtain⟨a1,a2⟩:=ML h m.len al
 have old:∀ (j g:Nat) (f:Q9),s.tab[j]? = some ⟨g,some f⟩→∀ k,f.addr≤k→k < QM f→mem2[k]? = mem[k]? := fun j g f hj k k1 k2=>by
  rw[← a2 j g f hj k k1 k2];refine hout k ?_
  rcases hap j g f hj with h|h
  ·left;omega
  ·right;omega
 refine⟨by rw[hl,a1,h1,h2,hown];exact m.len,?_,?_⟩
 ·intro j g f hj;rw[h3] at hj
  rcases Qv hj with ⟨rfl,ht,_⟩|⟨_,hj⟩
  ·injection ht with _ h5
   injection h5 with h5
   subst h5;exact hh
  ·rw[old j g f hj f.addr (Nat.le_refl _) (by unfold QM;omega)];exact m.head _ _ _ hj
 ·intro j g f hj p w hp;rw[h3] at hj
  rcases Qv hj with ⟨rfl,ht,_⟩|⟨_,hj⟩
  ·injection ht with _ h5
   injection h5 with h5
   subst h5;exact hw p w hp
  ·have hp1:=(List.getElem?_eq_some_iff.1 hp).1;rw[old j g f hj _ (by omega) (by unfold QM;omega)];exact m.words _ _ _ hj p w hp
theorem TB {s:CS} (h:WF s) {parent:Int} {q q2:Nat} (hl:s.par.length < 64) (hlast:s.last+1 < 1000000) :
  WF { s with last:=s.last+1,par:=s.par++[(((s.last+1:Nat):Int),parent)],sps:=s.sps++[(((s.last+1:Nat):Int),q,⟨[],0,0⟩)],mns:=s.mns++[(((s.last+1:Nat):Int),q2,[])] }:=by
 have hup:∀ r x,(r,x)∈s.par→r≠((s.last+1:Nat):Int):=fun r x hx=>by
  have:=(h.par.2.2 r x hx).2;omega
 refine⟨h.size,h.own,h.slots,h.lays,h.gen,fun i g e hi=>?_,h.apart,⟨by show (s.par++[_]).length≤64;simp;omega,hlast,?_⟩,?_,?_,?_,?_,fun c r hc h0=>?_,?_⟩
 ·obtain⟨a,b,y,hy⟩:=h.obj i g e hi;exact⟨a,b,y,List.mem_append.2 (.inl hy)⟩
 ·intro r x hx;have hx:(r,x)∈s.par++[_]:=hx;show 1≤r∧r≤((s.last+1:Nat):Int)
  rcases List.mem_append.1 hx with hx|hx
  ·have:=h.par.2.2 r x hx;omega
  ·simp at hx;omega
 ·have:=h.skeys;simp[this]
 ·have:=h.mkeys;simp[this]
 ·intro x hx
  rcases List.mem_append.1 (show x∈s.sps++[_] from hx) with hx|hx
  ·exact h.spc x hx
  ·simp at hx;subst hx;refine⟨Nat.le_refl _,fun h0=>absurd rfl h0,fun p hp=>(by cases hp),by simp[QX],fun c=>⟨fun hc=>by simp[QX] at hc,?_⟩⟩;rintro⟨y,h1,h2,h3⟩;obtain⟨z,hz⟩:=h.live c y h1 h3;exact absurd h2 (hup _ _ hz)
 ·intro x hx i g e hi
  rcases List.mem_append.1 (show x∈s.sps++[_] from hx) with hx|hx
  ·exact h.free x hx i g e hi
  ·simp at hx;subst hx;exact .inr (Nat.zero_le _)
 ·obtain⟨y,hy⟩:=h.live c r hc h0;exact⟨y,List.mem_append.2 (.inl hy)⟩
 ·intro x hx
  rcases List.mem_append.1 (show x∈s.mns++[_] from hx) with hx|hx
  ·exact h.mine x hx
  ·simp at hx;subst hx;refine⟨by simp,fun i=>⟨fun hc=>by simp at hc,?_⟩⟩;rintro⟨g,e,h1,h2⟩;obtain⟨_,_,y,hy⟩:=h.obj _ _ _ h1;exact absurd h2 (hup _ _ hy)
theorem TC {lays:List QJ} {i:Nat} {e:Q9} (h:Ul lays i e) (x:QJ):Ul (lays++[x]) i e:=by
 obtain⟨m,l,h1,h2⟩:=h;exact⟨m,l,by rw[List.getElem?_append_left (List.getElem?_eq_some_iff.1 h1).1];exact h1,h2⟩
theorem TD {s:CS} (h:WF s) {l:QJ} (hr:VO l) (hl:s.lays.length < 64):WF { s with lays:=s.lays++[l] }:=by
 refine⟨h.size,h.own,h.slots,⟨by show (s.lays++[l]).length≤64;simp;omega,fun x hx=>?_⟩,h.gen,fun i g e hi=>?_,h.apart,h.par,h.skeys,h.mkeys,h.spc,h.free,h.live,h.mine⟩
 ·rcases List.mem_append.1 hx with hx|hx
  ·exact h.lays.2 x hx
  ·simp at hx;subst hx;exact hr
 ·obtain⟨a,b⟩:=h.obj i g e hi;exact⟨TC a l,b⟩
theorem AF {s:CS} (h:WF s) (m:List ((Int×Int)×Int)):WF { s with rem:=m }:=⟨h.size,h.own,h.slots,h.lays,h.gen,h.obj,h.apart,h.par,h.skeys,h.mkeys,h.spc,h.free,h.live,h.mine⟩
theorem ET {s:CS} {mem:List Nat} (h:VI s mem) (m:List ((Int×Int)×Int)):VI { s with rem:=m } mem:=⟨h.len,h.head,h.words⟩
end Go.Proofs.YtmjdnljneifpcaaGreatDoor
set_option linter.unusedSectionVars false
namespace Go.Proofs.YtmjdnljneifpcaaGreatDoor
open Go.SL
@[reducible] def Vb (q:Nat×Nat):List Value:=[.int .i64 q.1,.int .i64 q.2]
theorem XV (q:Nat×Nat):(Vb q).length=2:=rfl
def Qi (p sp owner:Nat) (S:QE):Q2:=ex fun v:Value=>star [pts p (row 206 [pp sp,.int .i64 owner,v,.int .i64 S.at',.int .i64 S.fin]),QC 208 2 v (S.parts.flatMap Vb)]
theorem Zy [Q4] {w:World} {p sp owner:Nat} {S:QE} {l:List Q2} (H:Q0 w (Qi p sp owner S::l)):∃ a c,Q0 w (pts p (row 206 [pp sp,.int .i64 owner,.slice a S.parts.length c,.int .i64 S.at',.int .i64 S.fin])::QC 208 2 (.slice a S.parts.length c) (S.parts.flatMap Vb)::l):=by
 obtain⟨v,H⟩:=Q0.ex.1 H;have H:=Q0.star.1 H;obtain⟨a,c,rfl⟩:=QD H.drop (Gd XV _) (by decide);exact⟨a,c,H⟩
theorem Z0 [Q4] {w:World} {p sp owner:Nat} {S:QE} {l:List Q2} {v:Value} (H:Q0 w (pts p (row 206 [pp sp,.int .i64 owner,v,.int .i64 S.at',.int .i64 S.fin])::QC 208 2 v (S.parts.flatMap Vb)::l)):Q0 w (Qi p sp owner S::l):=
 Q0.ex.2 ⟨v,Q0.star.2 H⟩
theorem HN [Q4] (sp owner:Nat) (ho:1≤owner) {w:World} {fr:List Q2} (H:Q0 w fr) :
  Calls Tryz.prog 67 #[pp sp,.int .i64 owner] w (ret fun v w'=>∃ p,v = .tuple #[pp p,.int .i64 0]∧Q0 w' (Qi p sp owner ⟨[],0,0⟩::fr)):=by
 refine QQ Tryz.func67 rfl (by kernel_rfl) ?_;refine BE H ?_;refine Vy (fun ms σ w=>ms=[]∧σ 0=pp sp∧σ 1 = .int .i64 owner∧Q0 w fr) ?_ ?_
 ·refine Ku H ?_;refine V8 H ?_;rw[show decide ((owner:Int) < 1)=false from decide_eq_false (by omega)];refine V5 H ?_;exact .inl ⟨rfl,rfl,rfl,rfl,H⟩
 ·clear H;rintro ms σ w ⟨rfl,g0,g1,H⟩;rw[Q1 g0,Q1 g1];refine J5 H ?_;refine Uv H ?_;clear H;intro b15 w H;refine J2 H ?_;have H:=(Yu (E:=208) (k:=2) H).swap;exact Q3 (Jy H rfl fun w' H'=>⟨_,rfl,Z0 (S:=⟨[],0,0⟩) H'⟩)
theorem TE [Q4] (p sp owner:Nat) (S:QE) (h1:S.at'≤S.fin) (h2:S.fin≤1048576) {w:World} {fr:List Q2} (H:Q0 w (Qi p sp owner S::fr)) :
  Calls Tryz.prog 133 #[pp p] w (ret fun v w'=>v = .int .i64 ((S.fin - S.at':Nat):Int)∧Q0 w' (Qi p sp owner S::fr)):=by
 obtain⟨a,c,H⟩:=Zy H;refine QQ Tryz.func133 rfl (by kernel_rfl) ?_;refine DX H ?_;clear H;intro w H;refine Uw H ?_;refine Di H ?_;refine DM H ?_;refine Q3 (Jy (Z0 H) rfl fun w' H'=>⟨?_,H'⟩);show Value.int .i64 (IntKind.i64.wrap ((S.fin:Int) - (S.at':Int)))=_;rw[QT (by omega) (by omega)];congr 1;omega
theorem MM [Q4] (p sp owner size n:Nat) (S:QE) (mem own:List Nat) (ho:1≤owner) (hn1:1≤n) (hn2:n≤100000) (h1:S.at'≤S.fin) (h2:S.fin≤1048576) (h63:own.length≤63) (hs1:1≤size) (hs2:size≤1024) (hp:S.parts.length≤1000) {w:World} {fr:List Q2} [hT:YN 0 Lib.deBruijn64tab fr]
  (H:Q0 w (Qi p sp owner S::ST sp size mem own::fr)) :
  Calls Tryz.prog 70 #[pp p,.int .i64 n] w (ret fun v w'=>(∃ a own' mem' S',v = .tuple #[.int .i64 ((a:Nat):Int),.int .i64 0]∧U1 size own mem owner S n own' mem' S' a∧Q0 w' (Qi p sp owner S'::ST sp size mem' own'::fr)) ∨
   (v = .tuple #[.int .i64 0,.int .i64 11]∧(∀ a,a+((n - 1) / size+1)≤own.length→∃ i,a≤i∧i < a+((n - 1) / size+1)∧own.getD i 0≠0)∧Q0 w' (Qi p sp owner S::ST sp size mem own::fr))):=by
 refine QQ Tryz.func70 rfl (by kernel_rfl) ?_;refine BE H ?_;refine Vy (fun ms σ w=>ms=[]∧σ 0=pp p∧σ 1 = .int .i64 n∧Q0 w (Qi p sp owner S::ST sp size mem own::fr)) ?_ ?_
 ·refine Ku H ?_;refine V8 H ?_;rw[show decide ((n:Int) < 1)=false from decide_eq_false (by omega)];refine Bb H ?_;refine J5 H ?_;refine Jc rfl rfl (TE p sp owner S h1 h2 H) ?_;clear H;rintro v w ⟨rfl,H⟩;refine J2 H ?_;by_cases hr:n≤S.fin - S.at'
  ·rw[show decide ((n:Int)≤((S.fin - S.at':Nat):Int))=true from decide_eq_true (by omega)];refine VD H ?_;obtain⟨a,c,H⟩:=Zy H;refine GY H ?_;rw[QT (x:=(S.at':Int)+(n:Int)) (by omega) (by omega),show (S.at':Int)+(n:Int)=((S.at'+n:Nat):Int) by omega];refine GU H ?_;clear H;intro w H;refine Q6 ?_;refine GY H ?_;refine J2 H ?_;refine Q3 (.inr ⟨by simp,Jy (Z0 (S:={ S with at':=S.at'+n }) H) rfl fun w' H' => .inl ⟨S.at',own,mem,_,?_,.room hr,H'⟩⟩);show Value.tuple #[.int .i64 (IntKind.i64.wrap (((S.at'+n:Nat):Int) - (n:Int))),_]=_;rw[QT (by omega) (by omega),show ((S.at'+n:Nat):Int) - (n:Int)=(S.at':Int) by omega];rfl
  ·rw[show decide ((n:Int)≤((S.fin - S.at':Nat):Int))=false from decide_eq_false (by omega)];refine V5 H ?_;exact .inl ⟨rfl,rfl,rfl,rfl,H⟩
 ·clear H;rintro ms σ w ⟨rfl,g0,g1,H⟩;rw[Q1 g0,Q1 g1];obtain⟨a,c,H⟩:=Zy H;have hk:(n - 1) / size+1≤n:=by have:=Nat.div_le_self (n - 1) size;omega
  have hk1:(n - 1) / size*size≤n - 1:=Nat.div_mul_le_self _ _
  have hk2:n≤((n - 1) / size+1)*size:=by
   have:=Nat.lt_div_mul_add (a:=n - 1) (b:=size) (by omega);rw[Nat.succ_mul];omega
  refine Ya H ?_;replace H:=Js [2,0,0] 0 H;refine Jc rfl rfl (EF sp size mem own H) ?_;clear H;rintro v w ⟨rfl,H⟩;refine Dj H ?_;rw[QT (x:=(n:Int) - 1) (by omega) (by omega),show (n:Int) - 1=((n - 1:Nat):Int) by omega]
  refine UQ (v := .int .i64 (((n - 1) / size:Nat):Int)) (by
   show (if IntKind.i64=IntKind.i64 then (if (size:Int)=0 then none else some _) else none)=_;rw[if_pos rfl,if_neg (by omega),WQ (by omega)]) rfl ?_
  refine J2 H ?_;generalize hkk:(n - 1) / size=q at hk hk1 hk2;rw[QT (x:=((q:Nat):Int)+1) (by omega) (by omega),show ((q:Nat):Int)+1=((q+1:Nat):Int) by omega];refine J1 H ?_;clear H;intro w H;refine Dg H ?_;refine Dh H ?_;refine Jl 7 [9] H ?_;refine Ja 8 ?_;refine Jo 9 H ?_;refine Jk rfl rfl (Sr sp size mem own owner (q+1) h63 ho (by omega) (by omega) H) ?_;clear H;rintro v w (⟨b,rfl,hb,hfree,H⟩|⟨rfl,hno,H⟩)
  ·have hf:∀ c,b≤c→c < b+(q+1)→own[c]? = some 0:=fun c e1 e2=>by
    have:=hfree c e1 e2;rw[List.getD_eq_getElem?_getD,List.getElem?_eq_getElem (by omega)] at this;rw[List.getElem?_eq_getElem (by omega)];simpa using this
   have hbs:(b+(q+1))*size≤63*1024:=Nat.mul_le_mul (by omega) hs2;have hbs2:(b+(q+1))*size=b*size+(q+1)*size:=Nat.add_mul _ _ _;have hbs3:(b+1)*size=b*size+size:=Nat.succ_mul _ _;have hsq:size≤(q+1)*size:=Nat.le_mul_of_pos_left _ (by omega);refine Ja 10 ?_;refine Ja 11 ?_;refine DC H ?_;refine Jx H ?_;refine Gu H ?_;refine Wu H ?_;refine YS H ?_;refine BY H ?_;clear H;intro b69 w H;replace H:=Js [3,0,1,0] 0 H;refine Q5 rfl (YC H rfl rfl (by repeat first|exact .nil _|apply QY.cons rfl) rfl (by decide) (by rw[Gd XV];simp only[List.length_cons,List.length_nil];omega) rfl rfl ?_);clear H;intro v70 w H;obtain⟨a70,m70,c70,rfl⟩:=Qq H;have e1:S.parts.flatMap Vb++[.int .i64 b,.int .i64 ((q+1:Nat):Int)]=(S.parts++[(b,q+1)]).flatMap Vb:=by simp
   rw[e1] at H;refine GU H ?_;clear H;intro w H;refine Ux H ?_;by_cases hq:q=0
   ·subst hq;rw[show (((0+1:Nat):Int) == 1)=true from rfl];refine J8 H ?_;refine Qn (fun ms σ w=>ms=[]∧σ 6 = .int .i64 size∧σ 8 = .int .i64 b∧Q0 w (Qi p sp owner ⟨S.parts++[(b,1)],b*size+n,(b+1)*size⟩::ST sp size (V3 mem (b*size) (1*size) 0) (V3 own b 1 owner)::fr)) ?_ ?_
    ·refine Vg rfl ?_;have m1:(b:Int)*(size:Int)=((b*size:Nat):Int):=(Int.natCast_mul _ _).symm;have m2:((b:Int)+1)*(size:Int)=(((b+1)*size:Nat):Int):=by rw[Int.natCast_mul,Int.natCast_add];rfl
     refine J5 H ?_;refine A7 H ?_;refine BB H ?_;rw[QT (x:=(b:Int)+1) (by omega) (by omega),m1,m2,QT (x:=((b*size:Nat):Int)) (by omega) (by omega),QT (x:=(((b+1)*size:Nat):Int)) (by omega) (by omega),QT (x:=((b*size:Nat):Int)+(n:Int)) (by omega) (by omega),show ((b*size:Nat):Int)+(n:Int)=((b*size+n:Nat):Int) by omega];refine GU H ?_;clear H;intro w H;refine GU H ?_;clear H;intro w H;refine Q6 ?_;replace H:=Js [2,0,1] 1 H;exact⟨rfl,rfl,rfl,rfl,Z0 (S:=⟨S.parts++[(b,1)],b*size+n,(b+1)*size⟩) H⟩
    ·clear H;rintro ms σ w ⟨rfl,g6,g8,H⟩;rw[Q1 g6,Q1 g8];refine K8 H ?_;refine Q3 (Jy H rfl fun w' H' => .inl ⟨b*size,_,_,_,?_,.one (by omega) (hf b (by omega) (by omega)) (by omega),H'⟩);show Value.tuple #[.int .i64 (IntKind.i64.wrap ((b:Int)*(size:Int))),_]=_;rw[← Int.natCast_mul,QT (by omega) (by omega)];rfl
   ·rw[show (((q+1:Nat):Int) == 1)=false by simp;omega];refine V5 H ?_;refine K8 H ?_;replace H:=Js [2,0,1] 1 H;refine Q3 (Jy (Z0 (S:=⟨S.parts++[(b,q+1)],S.at',S.fin⟩) H) rfl fun w' H' => .inl ⟨b*size,_,_,_,?_,.run (k:=q+1) (by omega) hb hf hk2 (by rw[Nat.add_sub_cancel];omega),H'⟩);show Value.tuple #[.int .i64 (IntKind.i64.wrap ((b:Int)*(size:Int))),_]=_;rw[← Int.natCast_mul,QT (by omega) (by omega)];rfl
  ·refine Ja 10 ?_;refine Ja 11 ?_;refine DC H ?_;refine D6 H ?_;refine Dk H ?_;replace H:=Js [1,1,0] 0 H;exact Q3 (Jy (Z0 H) rfl fun w' H' => .inr ⟨rfl,hno,H'⟩)
end Go.Proofs.YtmjdnljneifpcaaGreatDoor
namespace Go.Proofs.YtmjdnljneifpcaaGreatDoor
open Go.SL
@[reducible] def Qw (ip sp bp:Nat):Q2:=pts ip (row 222 [pp sp,pp bp])
structure XY (ls:List QJ) (size:Nat) (mem own:List Nat) (addr i c s n:Nat) (l:QJ):Prop where
 may:Xh i c s
 lay:ls[i - 1]? = some l
 right:VO l
 siz:V6 l c=(n,0)
 head:mem.getD addr 0=Zw i c s
 fit:addr+1+n≤mem.length
 owned:Gh size own addr (n+1)
theorem Gh.sub {size:Nat} {own:List Nat} {a n b m:Nat} (h:Gh size own a n) (h1:a≤b) (h2:b+m≤a+n) (h3:1≤m):Gh size own b m:=fun c c1 c2=>
 h c (Nat.le_trans (Nat.div_le_div_right h1) c1) (Nat.le_trans c2 (Nat.div_le_div_right (by omega)))
theorem TF [Q4] (sp bp:Nat) {w:World} {fr:List Q2} (H:Q0 w fr) :
  Calls Tryz.prog 83 #[pp sp,pp bp] w (ret fun v w'=>∃ ip,v = .tuple #[pp ip,.int .i64 0]∧Q0 w' (Qw ip sp bp::fr)):=by
 refine QQ Tryz.func83 rfl (by kernel_rfl) ?_;refine J4 H ?_;refine DZ H ?_;refine Wp H ?_;refine Dm H ?_;refine J5 H ?_;refine Uv H ?_;clear H;intro b15 w H;refine J2 H ?_;exact Q3 (Jy H rfl fun w' H'=>⟨_,rfl,H'⟩)
theorem HP [Q4] (p:Nat) (ls:List QJ) (i:Nat) (h1:1≤i) (l:QJ) (hk:ls[i - 1]? = some l) {w:World} {fr:List Q2} (H:Q0 w (Ql p ls::fr)) :
  Calls Tryz.prog 88 #[pp p,.int .i64 i] w (ret fun x w'=>∃ vr vq,x = .tuple #[Yr l.fixed vr l.record vq,.int .i64 0]∧Q0 w' (NL vr l.refs::NL vq l.recs::Ql p ls::fr)):=by
 obtain⟨k,rfl⟩:∃ k,i=k+1:=⟨i - 1,by omega⟩;rw[Nat.add_sub_cancel] at hk;rw[show (((k+1:Nat):Int))=(k:Int)+1 by omega];exact T5 p ls k l hk H
theorem MN [Q4] (ip sp bp:Nat) (ls:List QJ) (i c s n:Nat) (l:QJ) (hm:Xh i c s) (hl:ls[i - 1]? = some l) (hR:VO l) (hz:V6 l c=(n,0)) {w:World} {fr:List Q2} (H:Q0 w (Qw ip sp bp::Ql bp ls::fr)) :
  Calls Tryz.prog 153 #[pp ip,RZ i c s] w (ret fun v w'=>∃ vr vq,v = .tuple #[Yr l.fixed vr l.record vq,.int .i64 n,.int .i64 0]∧Q0 w' (NL vr l.refs::NL vq l.recs::Qw ip sp bp::Ql bp ls::fr)):=by
 have hi:=hm.1;refine QQ Tryz.func153 rfl (by kernel_rfl) ?_;refine J6 H ?_;clear H;intro b3 w H;refine VZ H ?_;clear H;intro b4 w H;refine K2 H ?_
 refine Qn (fun ms σ w=>ms=[]∧∃ b7 vr vq,σ 3=pp b3∧σ 4=pp b4∧σ 7=pp b7∧σ 8 = .int .i64 0 ∧
  Q0 w (pts b7 (row 102 [.int .i64 l.fixed,vr,.int .i64 l.record,vq])::NL vr l.refs::NL vq l.recs::pts b4 (row 102 [.int .i64 0,.slice none 0 0,.int .i64 0,.slice none 0 0])::pts b3 (row 115 [.int .i64 i,.int .i64 c,.int .i64 s])::Qw ip sp bp::Ql bp ls::fr)) ?_ ?_
 ·replace H:=Js [3,0,0,0] 0 H;refine J1 H ?_;clear H;intro w H;refine Dn H ?_;refine Jl 5 [6,11] H ?_;refine Jw 6 10 H rfl rfl (V2 (a:=[]) (b:=[]) rfl rfl (call (HP bp ls i hi l hl H) ?_)) (Vu H rfl ?_)
  ·clear H;rintro v w ⟨vr,vq,rfl,H⟩;obtain⟨aa,ma,ca,rfl⟩:=Qq H;obtain⟨ab,mb,cb,rfl⟩:=Qq H.drop;refine Dp H ?_;clear H;intro b7 w H;refine Ws H ?_;clear H;intro w H;refine Xb H ?_;replace H:=Js [0,0,0,1,1,1,0] 0 H;exact⟨rfl,rfl,b7,_,_,rfl,rfl,rfl,rfl,H⟩
  ·clear H;intro b7 w H;refine Jo 6 H ?_;refine Jk rfl rfl (HP bp ls i hi l hl H.swap) ?_;clear H;rintro v w ⟨vr,vq,rfl,H⟩;obtain⟨aa,ma,ca,rfl⟩:=Qq H;obtain⟨ab,mb,cb,rfl⟩:=Qq H.drop;refine Dq H ?_;clear H;intro w H;refine Xb H ?_;replace H:=Js [3,0,0,1,1,1,0] 0 H;exact⟨rfl,rfl,b7,_,_,rfl,rfl,rfl,rfl,H⟩
 ·clear H;rintro ms σ w ⟨rfl,b7,vr,vq,g3,g4,g7,g8,H⟩;rw[Q1 g3,Q1 g4,Q1 g7,Q1 g8];obtain⟨aa,ma,rfl⟩:=QD H.drop (QF _) (by decide);obtain⟨ab,mb,rfl⟩:=QD H.drop.drop (QF _) (by decide);refine Gu H ?_;refine GQ H ?_;refine Gf H ?_;replace H:=Js [1,1,0,0,0,0,0] 0 H;obtain⟨D1,H,hD1,hC1⟩:=sls_rd H (QF _) (by decide);obtain⟨D2,H,hD2,hC2⟩:=sls_rd H.swap (QF _) (by decide);refine Jc rfl rfl (Bu _ _ l hR c ⟨(hD1 _).there,hD2 _⟩ H) ?_;clear H;rintro v w ⟨rfl,H⟩;rw[hz];replace H:=hC1 _ _ (hC2 _ _ H).swap;refine Zh H ?_;refine GQ H ?_;refine Dr H ?_;clear H;intro w H;refine J2 H ?_;replace H:=Js [3,0,0,2,2] 2 H;exact Q3 (Jz H (fun w' H' => .cellN H' rfl (by repeat first|exact .nil _|apply QY.cons rfl) (.tmp (.tmp .nil))) fun w' H'=>⟨_,_,rfl,H'.drop⟩)
theorem HS [Q4] (ip sp bp size:Nat) (ls:List QJ) (mem own:List Nat) (addr i c s n:Nat) (l:QJ) (h:XY ls size mem own addr i c s n l) {w:World} {fr:List Q2} (H:Q0 w (Qw ip sp bp::Ql bp ls::ST sp size mem own::fr)) :
  Calls Tryz.prog 111 #[pp ip,.int .i64 addr] w (ret fun v w'=>∃ vr vq,v = .tuple #[RZ i c s,Yr l.fixed vr l.record vq,.int .i64 n,.int .i64 0]∧Q0 w' (NL vr l.refs::NL vq l.recs::Qw ip sp bp::Ql bp ls::ST sp size mem own::fr)):=by
 obtain⟨hm,hl,hR,hz,hh,hf,ho⟩:=h;refine QQ Tryz.func111 rfl (by kernel_rfl) ?_;refine YO H ?_;clear H;intro b4 w H;refine VZ H ?_;clear H;intro b5 w H;refine J2 H ?_;refine J9 H ?_;replace H:=Js [4,0,0,0,0] 0 H;refine Jc rfl rfl (HW sp size mem own addr (by omega) (ho.sub (Nat.le_refl _) (by omega) (by omega)) H) ?_;clear H;rintro v w ⟨rfl,H⟩;rw[hh];refine Zu H ?_;refine YZ H ?_;refine Jc rfl rfl (Sa i c s hm H) ?_;clear H;rintro v w ⟨rfl,H⟩;refine Vi H ?_;clear H;intro b10 w H;refine J3 H ?_;clear H;intro w H;refine Dt H ?_;replace H:=Js [4,4,1,1,1,0] 0 H;refine Jc rfl rfl (MN ip sp bp ls i c s n l hm hl hR hz H) ?_;clear H;rintro v w ⟨vr,vq,rfl,H⟩;obtain⟨aa,ma,ca,rfl⟩:=Qq H;obtain⟨ab,mb,cb,rfl⟩:=Qq H.drop;refine A7 H ?_;refine VZ H ?_;clear H;intro b11 w H;refine J3 H ?_;clear H;intro w H;refine J2 H ?_;refine J1 H ?_;clear H;intro w H;refine VM 0 [4,5] H rfl (Q8.none rfl) rfl (by repeat first|exact .nil _|apply QY.cons rfl) (by kernel_rfl) ?_;refine VM 1 [5] H rfl (Q8.none rfl) rfl (by repeat first|exact .nil _|apply QY.cons rfl) (by kernel_rfl) ?_;refine Ja 2 ?_;refine Ja 3 ?_;refine Jo 4 H ?_;refine Gx H ?_;clear H;intro w H;refine Jo 5 H ?_;refine Gx H ?_;clear H;intro w H;refine Xa H ?_;refine Jx H ?_;replace H:=Js [7,6,1,1,1,1,1] 2 H;exact Q3 (Jz H (fun w' H' => .cellN H' rfl (by repeat first|exact .nil _|apply QY.cons rfl) (.cellN H' rfl (by repeat first|exact .nil _|apply QY.cons rfl) (.tmp (.tmp .nil)))) fun w' H'=>⟨_,_,rfl,H'.drop.drop⟩)
end Go.Proofs.YtmjdnljneifpcaaGreatDoor
namespace Go.Proofs.YtmjdnljneifpcaaGreatDoor
open Go.SL
def QL (l:QJ) (n:Nat) (place:Int) (ref:Bool):Nat:=if place < 0∨(n:Int)≤place then 3 else if VV l place.toNat≠ref then 9 else 0
theorem Za {l:QJ} {n:Nat} {place:Int} {ref:Bool} (h:QL l n place ref=0):∃ p:Nat,place=p∧p < n∧VV l p=ref:=by
 unfold QL at h;split at h
 ·omega
 ·split at h
  ·omega
  ·rename_i h1 h2;exact⟨place.toNat,by omega,by omega,by simpa using h2⟩
theorem Ea [Q4] {w:World} {p size:Nat} {mem own:List Nat} {l:List Q2} (H:Q0 w (ST p size mem own::l)):mem.length≤1048576:=by
 obtain⟨v,v2,u,ws,many,hok,_⟩:=U0 H;rw[hok.len];exact Nat.mul_le_mul hok.c2 hok.s2
theorem Eb [Q4] (ip sp bp size:Nat) (ls:List QJ) (mem own:List Nat) (addr i c s n:Nat) (l:QJ) (h:XY ls size mem own addr i c s n l) (place:Int) (ref:Bool) {w:World} {fr:List Q2} (H:Q0 w (Qw ip sp bp::Ql bp ls::ST sp size mem own::fr)) :
  Calls Tryz.prog 123 #[pp ip,.int .i64 addr,.int .i64 place,.bool ref] w (ret fun v w'=>v = .tuple #[.int .i64 ((if QL l n place ref=0 then addr+1+place.toNat else 0:Nat):Int),.int .i64 (QL l n place ref)]∧Q0 w' (Qw ip sp bp::Ql bp ls::ST sp size mem own::fr)):=by
 have hml:=Ea (H.pull 2);have h':=h;obtain⟨hm,hl,hR,hz,hh,hf,ho⟩:=h';refine QQ Tryz.func123 rfl (by kernel_rfl) ?_;refine DW H ?_;refine J5 H ?_;refine Jc rfl rfl (HS ip sp bp size ls mem own addr i c s n l h H) ?_;clear H;rintro v w ⟨vr,vq,rfl,H⟩;obtain⟨aa,ca,rfl⟩:=QD H (QF _) (by decide);obtain⟨ab,cb,rfl⟩:=QD H.drop (QF _) (by decide);refine BB H ?_;refine VZ H ?_;clear H;intro b10 w H;refine VZ H ?_;clear H;intro b11 w H;refine J3 H ?_;clear H;intro w H;refine J3 H ?_;clear H;intro w H;refine Bc H ?_;refine GQ H ?_;refine Bd H ?_;replace H:=Js [2,2,0,0,0,0,0] 0 H;obtain⟨D1,H,hD1,hC1⟩:=sls_rd H (QF _) (by decide);obtain⟨D2,H,hD2,hC2⟩:=sls_rd H.swap (QF _) (by decide);by_cases hp:place < 0∨(n:Int)≤place
 ·have he:QL l n place ref=3:=by unfold QL;rw[if_pos hp]
  rw[he];refine Jc rfl rfl (T8 _ _ l hR c place hz hp ⟨(hD1 _).there,hD2 _⟩ H) ?_;clear H;rintro v w ⟨rfl,H⟩;replace H:=hC1 _ _ (hC2 _ _ H).swap;refine Rz H ?_;refine QS ?_;refine J5 H ?_;refine X4 H ?_;refine V8 H ?_;replace H:=Js [4,4,4] 4 H;exact Q3 (Jy H rfl fun w' H'=>⟨rfl,H'⟩)
 ·obtain⟨p,rfl⟩:∃ p:Nat,place=p:=⟨place.toNat,by omega⟩;refine Jc rfl rfl (T9 _ _ l hR c p hz (by omega) ⟨(hD1 _).there,hD2 _⟩ H) ?_;clear H;rintro v w ⟨rfl,H⟩;replace H:=hC1 _ _ (hC2 _ _ H).swap;refine Rz H ?_;refine Vy (fun ms σ w=>ms=[]∧VV l p=ref∧σ 1 = .int .i64 addr∧σ 2 = .int .i64 p∧Q0 w (Qw ip sp bp::Ql bp ls::ST sp size mem own::fr)) ?_ ?_
  ·refine QS ?_;refine A3 H ?_;refine Q5 rfl (Az rfl rfl (.inr rfl) rfl ?_);refine J0 H ?_;by_cases hr:VV l p=ref
   ·rw[show (!(VV l p == ref))=false by simp[hr]];refine V5 H ?_;replace H:=Js [4,4,4] 4 H;exact .inl ⟨rfl,rfl,hr,rfl,rfl,H⟩
   ·have he:QL l n (p:Int) ref=9:=by unfold QL;rw[if_neg hp,if_pos (by simpa using hr)]
    rw[show (!(VV l p == ref))=true by simpa using hr];refine Yj H ?_;replace H:=Js [4,4,4] 4 H;exact Q3 (.inr ⟨by simp,Jy H rfl fun w' H'=>⟨by rw[he];rfl,H'⟩⟩)
  ·clear H;rintro ms σ w ⟨rfl,hr,g1,g2,H⟩;have he:QL l n (p:Int) ref=0:=by unfold QL;rw[if_neg hp,if_neg (by simpa using hr)]
   rw[he,Q1 g1,Q1 g2];refine XS H ?_;refine J2 H ?_;rw[QT (x:=(addr:Int)+1) (by omega) (by omega),QT (x:=(addr:Int)+1+(p:Int)) (by omega) (by omega)];refine Q3 (Jy H rfl fun w' H'=>⟨?_,H'⟩);show Value.tuple #[.int .i64 ((addr:Int)+1+(p:Int)),_]=_;rw[if_pos rfl,show (addr:Int)+1+(p:Int)=((addr+1+(p:Int).toNat:Nat):Int) by simp];rfl
end Go.Proofs.YtmjdnljneifpcaaGreatDoor
namespace Go.Proofs.YtmjdnljneifpcaaGreatDoor
open Go.SL
theorem TH [Q4] (ip sp bp size:Nat) (ls:List QJ) (mem own:List Nat) (addr i c s n:Nat) (l:QJ) (h:XY ls size mem own addr i c s n l) (place:Int) {w:World} {fr:List Q2} (H:Q0 w (Qw ip sp bp::Ql bp ls::ST sp size mem own::fr)) :
  Calls Tryz.prog 107 #[pp ip,.int .i64 addr,.int .i64 place] w (ret fun v w'=>v = .tuple #[.int .u64 ((if QL l n place false=0 then mem.getD (addr+1+place.toNat) 0 else 0:Nat):Int),.int .i64 (QL l n place false)]∧Q0 w' (Qw ip sp bp::Ql bp ls::ST sp size mem own::fr)):=by
 have hrd:Calls Tryz.prog 179 #[pp ip,.int .i64 addr,.int .i64 place,.bool false,.func (.func 180) #[] #[]] w (ret fun v w'=>v = .tuple #[.int .u64 ((if QL l n place false=0 then mem.getD (addr+1+place.toNat) 0 else 0:Nat):Int),.int .i64 (QL l n place false)]∧Q0 w' (Qw ip sp bp::Ql bp ls::ST sp size mem own::fr)):=by
  refine QQ Tryz.func179 rfl (by kernel_rfl) ?_;refine J4 H ?_;refine VC H ?_;refine XS H ?_;refine Jc rfl rfl (Eb ip sp bp size ls mem own addr i c s n l h place false H) ?_;clear H;rintro v w ⟨rfl,H⟩;refine X0 H ?_;by_cases he:QL l n place false=0
  ·obtain⟨p,rfl,hp,hr⟩:=Za he;rw[he];refine V5 H ?_;refine Be H ?_;replace H:=Js [2,0,0] 0 H;refine Jc rfl rfl (HW sp size mem own (addr+1+p) (by have:=h.fit;omega) (h.owned.sub (by omega) (by omega) (by omega)) H) ?_;clear H;rintro v w ⟨rfl,H⟩;refine Zu H ?_;refine V8 H ?_;replace H:=Js [1,1,0] 0 H;exact Q3 (Jy H rfl fun w' H'=>⟨rfl,H'⟩)
  ·rw[if_neg he,if_neg he];rw[show (((QL l n place false:Nat):Int) != 0)=true by simpa using he];refine VD H ?_;refine W6 H ?_;exact Q3 (Jy H rfl fun w' H'=>⟨rfl,H'⟩)
 refine QQ Tryz.func107 rfl (by kernel_rfl) ?_;refine J4 H ?_;refine Vh H ?_;refine Jc rfl rfl (hrd) ?_;clear H;rintro v w ⟨rfl,H⟩;refine A5 H ?_;exact Q3 (Jy H rfl fun w' H'=>⟨rfl,H'⟩)
theorem Gi (k:Vw):∃ a b d:Int,ZA k = .agg #[.int .i64 a,.int .i64 b,.int .i64 d]:=by cases k <;> exact⟨_,_,_,rfl⟩
theorem MO [Q4] (ip sp bp size:Nat) (ls:List QJ) (mem own:List Nat) (addr i c s n:Nat) (l:QJ) (h:XY ls size mem own addr i c s n l) (place:Int) (k:Vw) (hk:QL l n place true=0→GK k∧mem.getD (addr+1+place.toNat) 0=V9 k) (hk2:QL l n place true≠0→k = .none) {w:World} {fr:List Q2} (H:Q0 w (Qw ip sp bp::Ql bp ls::ST sp size mem own::fr)) :
  Calls Tryz.prog 97 #[pp ip,.int .i64 addr,.int .i64 place] w (ret fun v w'=>v = .tuple #[ZA k,.int .i64 (QL l n place true)]∧Q0 w' (Qw ip sp bp::Ql bp ls::ST sp size mem own::fr)):=by
 have hlk:∀ (q:Nat) (k:Vw) (w:World) (fr:List Q2),q < mem.length→Gh size own q 1→GK k→mem.getD q 0=V9 k→Q0 w (ST sp size mem own::fr) →
   Calls Tryz.prog 158 #[pp sp,.int .i64 q] w (ret fun v w'=>v = .tuple #[ZA k,.int .i64 0]∧Q0 w' (ST sp size mem own::fr)):=by
  intro q k w fr h1 h2 h3 h4 H;refine QQ Tryz.func158 rfl (by kernel_rfl) ?_;refine YO H ?_;clear H;intro b4 w H;refine J0 H ?_;refine J5 H ?_;refine Jc rfl rfl (HW sp size mem own q h1 h2 H.swap) ?_;clear H;rintro v w ⟨rfl,H⟩;rw[h4];refine Zu H ?_;refine YZ H ?_;refine Jc rfl rfl (Sd k h3 H) ?_;clear H;rintro v w ⟨rfl,H⟩;obtain⟨a,b,d,hkv⟩:=Gi k;rw[hkv];refine Dr H ?_;clear H;intro w H;refine J0 H ?_;exact Q3 (Jz H.swap (fun w' H' => .cellN H' rfl (by repeat first|exact .nil _|apply QY.cons rfl) (.tmp .nil)) fun w' H'=>⟨rfl,H'.drop⟩)
 have hrd:∀ (w:World) (fr:List Q2),Q0 w (Qw ip sp bp::Ql bp ls::ST sp size mem own::fr)→Calls Tryz.prog 157 #[pp ip,.int .i64 addr,.int .i64 place,.bool true,.func (.func 158) #[] #[]] w (ret fun v w'=>v = .tuple #[ZA k,.int .i64 (QL l n place true)]∧Q0 w' (Qw ip sp bp::Ql bp ls::ST sp size mem own::fr)):=by
  intro w fr H;refine QQ Tryz.func157 rfl (by kernel_rfl) ?_;refine YO H ?_;clear H;intro b10 w H;refine J0 H ?_;refine YO H ?_;clear H;intro b12 w H;refine Q6 ?_;refine XS H ?_;replace H:=Js [2,2,2,0,0] 0 H;refine Jc rfl rfl (Eb ip sp bp size ls mem own addr i c s n l h place true H) ?_;clear H;rintro v w ⟨rfl,H⟩;refine X0 H ?_;by_cases he:QL l n place true=0
  ·obtain⟨hk3,hk4⟩:=hk he;obtain⟨p,rfl,hp,hr⟩:=Za he;rw[he];refine V5 H ?_;refine Be H ?_;replace H:=Js [2,0,0,0,0] 0 H;refine Jc rfl rfl (hlk (addr+1+p) k _ _ (by have:=h.fit;omega) (h.owned.sub (by omega) (by omega) (by omega)) hk3 hk4 H) ?_;clear H;rintro v w ⟨rfl,H⟩;obtain⟨a,b,d,hkv⟩:=Gi k;rw[hkv];refine Vi H ?_;clear H;intro b15 w H;refine J3 H ?_;clear H;intro w H;refine Yi H ?_;refine K5 H ?_;clear H;intro w H;refine J0 H ?_;replace H:=Js [5,2,2,1] 2 H;exact Q3 (Jz H (fun w' H' => .cellN H' rfl (by repeat first|exact .nil _|apply QY.cons rfl) (.tmp .nil)) fun w' H'=>⟨rfl,H'.drop⟩)
  ·obtain rfl:=hk2 he;rw[if_neg he];rw[show (((QL l n place true:Nat):Int) != 0)=true by simpa using he];refine VD H ?_;refine KU H ?_;clear H;intro w H;refine J0 H ?_;replace H:=Js [4,0,0,0] 1 H;exact Q3 (Jz H (fun w' H' => .cellN H' rfl (by repeat first|exact .nil _|apply QY.cons rfl) (.tmp .nil)) fun w' H'=>⟨rfl,H'.drop⟩)
 refine QQ Tryz.func97 rfl (by kernel_rfl) ?_;refine YO H ?_;clear H;intro b6 w H;refine Dj H ?_;replace H:=Js [1,1,1,0] 0 H;refine Jc rfl rfl (hrd _ _ H) ?_;clear H;rintro v w ⟨rfl,H⟩;obtain⟨a,b,d,hkv⟩:=Gi k;rw[hkv];refine Dr H ?_;clear H;intro w H;refine J0 H ?_;replace H:=Js [3,0,0,0] 0 H;exact Q3 (Jz H (fun w' H' => .cellN H' rfl (by repeat first|exact .nil _|apply QY.cons rfl) (.tmp .nil)) fun w' H'=>⟨rfl,H'.drop⟩)
theorem TI [Q4] (ip sp bp size:Nat) (ls:List QJ) (mem own:List Nat) (addr i c s n:Nat) (l:QJ) (h:XY ls size mem own addr i c s n l) (place:Int) (x:Nat) {w:World} {fr:List Q2} (H:Q0 w (Qw ip sp bp::Ql bp ls::ST sp size mem own::fr)) :
  Calls Tryz.prog 233 #[pp ip,.int .i64 addr,.int .i64 place,.int .u64 x] w (ret fun v w'=>v = .int .i64 (QL l n place false)∧Q0 w' (Qw ip sp bp::Ql bp ls::ST sp size (if QL l n place false=0 then mem.set (addr+1+place.toNat) x else mem) own::fr)):=by
 refine QQ Tryz.func233 rfl (by kernel_rfl) ?_;refine Rv H ?_;refine Jc rfl rfl (Eb ip sp bp size ls mem own addr i c s n l h place false H) ?_;clear H;rintro v w ⟨rfl,H⟩;refine X0 H ?_;by_cases he:QL l n place false=0
 ·obtain⟨p,rfl,hp,hr⟩:=Za he;rw[he];refine V5 H ?_;refine Ya H ?_;refine J2 H ?_;replace H:=Js [2,0,0] 0 H;refine Vh H ?_;refine Q5 rfl (V2 (a:=[pp sp]) (b:=[]) rfl rfl (call (EH sp size mem own (addr+1+p) x (by have:=h.fit;omega) (h.owned.sub (by omega) (by omega) (by omega)) H) ?_));clear H;rintro v w ⟨rfl,H⟩;refine J0 H ?_;replace H:=Js [1,1,0] 0 H;exact Q3 (Jy H rfl fun w' H'=>⟨rfl,H'⟩)
 ·rw[if_neg he,if_neg he];rw[show (((QL l n place false:Nat):Int) != 0)=true by simpa using he];refine Yj H ?_;exact Q3 (Jy H rfl fun w' H'=>⟨rfl,H'⟩)
theorem MP [Q4] (ip sp bp size:Nat) (ls:List QJ) (mem own:List Nat) (addr i c s n:Nat) (l:QJ) (h:XY ls size mem own addr i c s n l) (place:Int) (k:Vw) (hk:GK k) {w:World} {fr:List Q2} (H:Q0 w (Qw ip sp bp::Ql bp ls::ST sp size mem own::fr)) :
  Calls Tryz.prog 61 #[pp ip,.int .i64 addr,.int .i64 place,ZA k] w (ret fun v w'=>v = .int .i64 (QL l n place true)∧Q0 w' (Qw ip sp bp::Ql bp ls::ST sp size (if QL l n place true=0 then mem.set (addr+1+place.toNat) (V9 k) else mem) own::fr)):=by
 obtain⟨a,b,d,hkv⟩:=Gi k;have hW:=fun (w:World) (fr:List Q2) (H:Q0 w fr)=>Sb k hk H;rw[hkv] at hW ⊢;refine QQ Tryz.func61 rfl (by kernel_rfl) ?_;refine J6 H ?_;clear H;intro b7 w H;refine J0 H ?_;replace H:=Js [1,1,1,0] 0 H;refine Vh H ?_;refine Jc rfl rfl (Eb ip sp bp size ls mem own addr i c s n l h place true H) ?_;clear H;rintro v w ⟨rfl,H⟩;refine X0 H ?_;by_cases he:QL l n place true=0
 ·obtain⟨p,rfl,hp,hr⟩:=Za he;rw[he];refine V5 H ?_;refine GQ H ?_;refine Jc rfl rfl (hW _ _ H) ?_;clear H;rintro v w ⟨rfl,H⟩;refine Zu H ?_;refine Ya H ?_;refine J2 H ?_;replace H:=Js [2,0,0] 1 H;refine Vh H ?_;refine Q5 rfl (V2 (a:=[pp sp]) (b:=[]) rfl rfl (call (EH sp size mem own (addr+1+p) (V9 k) (by have:=h.fit;omega) (h.owned.sub (by omega) (by omega) (by omega)) H) ?_));clear H;rintro v w ⟨rfl,H⟩;refine J0 H ?_;replace H:=Js [1,1,0] 0 H;exact Q3 (Jy H rfl fun w' H'=>⟨rfl,H'⟩)
 ·rw[if_neg he,if_neg he];rw[show (((QL l n place true:Nat):Int) != 0)=true by simpa using he];refine Yj H ?_;replace H:=Js [0,0,0] 1 H;exact Q3 (Jy H rfl fun w' H'=>⟨rfl,H'⟩)
theorem C1 [Q4] (ip sp bp size:Nat) (ls:List QJ) (mem own:List Nat) (addr i c s n:Nat) (l:QJ) (h:XY ls size mem own addr i c s n l) {w:World} {fr:List Q2} (H:Q0 w (Qw ip sp bp::Ql bp ls::ST sp size mem own::fr)) :
  Calls Tryz.prog 45 #[pp ip,.int .i64 addr] w (ret fun v w'=>v = .tuple #[RZ i c s,.int .i64 ((n+1:Nat):Int),.int .i64 0]∧Q0 w' (Qw ip sp bp::Ql bp ls::ST sp size mem own::fr)):=by
 have hml:=Ea (H.pull 2);have hf:=h.fit;refine QQ Tryz.func45 rfl (by kernel_rfl) ?_;refine YO H ?_;clear H;intro b4 w H;refine Db H ?_;refine J5 H ?_;replace H:=Js [1,1,1,0] 0 H;refine Jc rfl rfl (HS ip sp bp size ls mem own addr i c s n l h H) ?_;clear H;rintro v w ⟨vr,vq,rfl,H⟩;obtain⟨aa,ma,ca,rfl⟩:=Qq H;obtain⟨ab,mb,cb,rfl⟩:=Qq H.drop;refine BB H ?_;refine VZ H ?_;clear H;intro b7 w H;refine VZ H ?_;clear H;intro b8 w H;refine J3 H ?_;clear H;intro w H;refine J3 H ?_;clear H;intro w H;refine Bc H ?_;refine GQ H ?_;refine Dr H ?_;clear H;intro w H;refine J2 H ?_;rw[QT (x:=((n:Nat):Int)+1) (by omega) (by omega),show ((n:Nat):Int)+1=((n+1:Nat):Int) by omega];replace H:=Js [7,4,4,4] 4 H;exact Q3 (Jz H (fun w' H' => .cellN H' rfl (by repeat first|exact .nil _|apply QY.cons rfl) (.tmp (.tmp .nil))) fun w' H'=>⟨rfl,H'.drop⟩)
end Go.Proofs.YtmjdnljneifpcaaGreatDoor
namespace Go.Proofs.YtmjdnljneifpcaaGreatDoor
open Go.SL
theorem TJ [Q4] (ip sp bp size:Nat) (ls:List QJ) (mem own:List Nat) (addr i c s n:Nat) (l:QJ) (hm:Xh i c s) (hl:ls[i - 1]? = some l) (hR:VO l) (hz:V6 l c=(n,0)) (hf:addr+1+n≤mem.length) (ho:Gh size own addr (n+1)) {w:World} {fr:List Q2} (H:Q0 w (Qw ip sp bp::Ql bp ls::ST sp size mem own::fr)) :
  Calls Tryz.prog 92 #[pp ip,.int .i64 addr,RZ i c s] w (ret fun v w'=>v = .tuple #[.int .i64 ((n+1:Nat):Int),.int .i64 0]∧Q0 w' (Qw ip sp bp::Ql bp ls::ST sp size (V3 (mem.set addr (Zw i c s)) (addr+1) n 0) own::fr)):=by
 have hml:=Ea (H.pull 2);refine QQ Tryz.func92 rfl (by kernel_rfl) ?_;refine J6 H ?_;clear H;intro b5 w H;refine Db H ?_;refine GQ H ?_;refine Jc rfl rfl (SO i c s hm H) ?_;clear H;rintro v w ⟨rfl,H⟩;refine Zu H ?_;refine Ge H ?_;replace H:=Js [1,1,1,0] 0 H;refine Jc rfl rfl (MN ip sp bp ls i c s n l hm hl hR hz H) ?_;clear H;rintro v w ⟨vr,vq,rfl,H⟩;obtain⟨aa,ma,ca,rfl⟩:=Qq H;obtain⟨ab,mb,cb,rfl⟩:=Qq H.drop;refine A7 H ?_;refine VZ H ?_;clear H;intro b10 w H;refine J3 H ?_;clear H;intro w H;refine Bc H ?_;refine Ya H ?_;refine A7 H ?_;replace H:=Js [5,3,3] 4 H;rw[QT (x:=((n:Nat):Int)+1) (by omega) (by omega),show ((n:Nat):Int)+1=((n+1:Nat):Int) by omega];refine Jc rfl rfl (Sq sp size mem own addr (n+1) (by omega) (by omega) ho H) ?_;clear H;rintro v w ⟨rfl,H⟩;refine Yi H ?_;refine GY H ?_;refine Jc rfl rfl (EH sp size mem own addr (Zw i c s) (by omega) (ho.sub (Nat.le_refl _) (by omega) (by omega)) H) ?_;clear H;rintro v w ⟨rfl,H⟩;refine Ux H ?_;generalize hmm:mem.set addr (Zw i c s)=m2 at H;have hm2:m2.length=mem.length:=by rw[← hmm,List.length_set]
 refine GV H ?_;refine Qj (fun ms σ w q=>ms=[]∧∃ j:Nat,j≤n∧q=n - j∧σ 0=pp ip∧σ 1 = .int .i64 addr∧σ 11 = .int .i64 n∧σ 53 = .int .i64 n∧σ 54 = .int .i64 j∧Q0 w (ST sp size (V3 m2 (addr+1) j 0) own::Qw ip sp bp::Ql bp ls::fr)) (m:=n) ⟨rfl,0,by omega,rfl,rfl,rfl,rfl,rfl,rfl,by rw[EI];exact H⟩ ?_;clear H;rintro ms σ w q ⟨rfl,j,hj,rfl,g0,g1,g11,g53,g54,H⟩;rw[Q1 g0,Q1 g1,Q1 g11,Q1 g53,Q1 g54];refine J7 H ?_;refine Qf rfl (fun h=>QW ?_) (fun h=>Qp ?_)
 ·have hlt:j < n:=by omega
  refine R4 H ?_;refine Ya H ?_;refine A7 H ?_;rw[QT (x:=(addr:Int)+1) (by omega) (by omega),QT (x:=(addr:Int)+1+(j:Int)) (by omega) (by omega),show (addr:Int)+1+(j:Int)=((addr+1+j:Nat):Int) by omega];refine Jc rfl rfl (EH sp size _ own (addr+1+j) 0 (by rw[Vq (by omega)];omega) (ho.sub (by omega) (by omega) (by omega)) H) ?_;clear H;rintro v w ⟨rfl,H⟩;rw[M6 (by omega)] at H;refine Ux H ?_;exact⟨_,⟨rfl,j+1,hlt,rfl,rfl,rfl,rfl,rfl,Qb (by omega),H⟩,by omega⟩
 ·have hge:j=n:=by omega
  subst hge;refine W6 H ?_;rw[QT (x:=((j:Nat):Int)+1) (by omega) (by omega),show ((j:Nat):Int)+1=((j+1:Nat):Int) by omega];replace H:=Js [1,1,0] 0 H;exact Q3 (Jy H rfl fun w' H'=>⟨rfl,H'⟩)
end Go.Proofs.YtmjdnljneifpcaaGreatDoor
namespace Go.Proofs.YtmjdnljneifpcaaGreatDoor
open Go.SL
def Qc (l:List Int):List Value:=l.map fun x=>Value.int .i64 x
theorem Vc (l:List Int):(Qc l).length=l.length*1:=by simp[Qc]
theorem AH (a b:List Int):Qc (a++b)=Qc a++Qc b:=by simp[Qc]
theorem Ec (l:List Nat):QK l=Qc (l.map fun x:Nat=>(x:Int)):=by simp[QK,Qc]
@[reducible] def IL (v:Value) (l:List Int):Q2:=QC 3 1 v (Qc l)
theorem Ed [Q4] (v:Value) (l:List Int) (hl:l.length≤1000000) {w:World} {fr:List Q2} (H:Q0 w (IL v l::fr)) :
  Calls Tryz.prog 53 #[v] w (ret fun x w'=>x = .tuple #[]∧Q0 w' (IL v (l.mergeSort fun x y=>decide (x≤y))::fr)):=by
 obtain⟨a,c,rfl⟩:=QD H (Vc l) (by decide);have hlen:(l.mergeSort fun x y=>decide (x≤y)).length=l.length:=List.length_mergeSort l;by_cases h0:l=[]
 ·subst h0;refine(Any.slices_Sort_int_none Tryz.laysSort a c w).mono ?_;rintro e w' ⟨rfl,rfl⟩;rw[List.mergeSort_nil];exact⟨rfl,H⟩
 ·have hpos:0 < l.length:=List.length_pos_iff.2 h0;obtain⟨b,s,rfl,H,h1,h2,hclose⟩:=Yv H hpos;have hb:=H.pts;refine(Any.slices_Sort_int Tryz.laysSort b 0 c l w (fun j hj=>⟨?_,Rl hb⟩) H.fresh (by omega)).mono ?_
  ·refine Zf hb ?_;have hj':j < l.length:=by simpa using hj
   rw[Nat.zero_add,List.getElem?_append_left (by simpa [Qc] using hj')];simp[Qc,hj']
  ·rintro e w' ⟨rfl,m,os,rfl⟩;refine⟨rfl,hclose _ _ (Qc (l.mergeSort fun x y=>decide (x≤y))) (by rw[Vc,Vc,hlen]) ?_⟩;have e1:(Go.Sort.putRow (Value.int .i64) (Go.Sort.ahead w m) b 0 (l.mergeSort fun x y=>decide (x≤y)).toArray).heap=w.heap.modify b (Go.Sort.onCells (Go.Sort.putCells (Value.int .i64) 0 (l.mergeSort fun x y=>decide (x≤y)).toArray)):=rfl
   have H1:Q0 (Go.Sort.putRow (Value.int .i64) (Go.Sort.ahead w m) b 0 (l.mergeSort fun x y=>decide (x≤y)).toArray) (pts b (row 3 (Qc (l.mergeSort fun x y=>decide (x≤y))++s))::fr):=by
    refine H.set ?_ ?_
    ·rw[e1,Array.getElem?_modify,if_pos rfl,hb];simp only[Option.map_some,row,Go.Sort.onCells];congr 2;apply Array.ext';apply List.ext_getElem?;intro t;simp only[Go.Sort.putCells,Array.getElem?_toList,Array.getElem?_mapIdx,List.getElem?_toArray,Nat.zero_le,true_and,Nat.zero_add,Nat.sub_zero,List.size_toArray];have l1:(Qc l).length=l.length:=by simp[Qc]
     have l2:(Qc (l.mergeSort fun x y=>decide (x≤y))).length=l.length:=by simp[Qc]
     by_cases ht:t < l.length
     ·rw[List.getElem?_append_left (by omega),List.getElem?_append_left (by omega)];have ht':t < (l.mergeSort fun x y=>decide (x≤y)).length:=by omega
      simp only[Qc,List.getElem?_map,List.getElem?_eq_getElem ht,List.getElem?_eq_getElem ht',Option.map_some,if_pos ht'];rw[getElem!_pos _ t (by simpa using ht')];simp
     ·rw[List.getElem?_append_right (by omega),List.getElem?_append_right (by omega),l1,l2];have ht':¬ t < (l.mergeSort fun x y=>decide (x≤y)).length:=by omega
      cases s[t - l.length]? with
      | none=>rfl
      | some y=>simp;intro h;omega
    ·intro c hc;rw[e1,Array.getElem?_modify,if_neg (Ne.symm hc)]
   refine H1.up (fun c o hc=>?_) ⟨rfl,rfl⟩;show ((Go.Sort.putRow (Value.int .i64) (Go.Sort.ahead w m) b 0 (l.mergeSort fun x y=>decide (x≤y)).toArray).heap++os)[c]? = some o;have:=(Array.getElem?_eq_some_iff.1 hc).1;rw[Array.getElem?_append_left this];exact hc
theorem TM [Q4] (a:Option Addr) (n c:Nat) (hn:n < 2) {w:World} {fr:List Q2} (H:Q0 w fr) :
  Calls Tryz.prog 119 #[.slice a n c] w (ret fun x w'=>x = .slice a n c∧Q0 w' fr):=by
 refine QQ Tryz.func119 rfl (by kernel_rfl) ?_;refine VC H ?_;refine Gy H ?_;rw[show decide ((n:Int) < 2)=true from decide_eq_true (by omega)];refine Yj H ?_;exact Q3 (Jy H rfl fun w' H'=>⟨rfl,H'⟩)
theorem TO [Q4] (v:Value) (l:List Nat) (x:Nat) (hl:l.length≤1000000) (b:Nat) {w:World} {fr:List Q2} (H:Q0 w (NL v l::pts b (row 3 [.int .i64 x])::fr)) :
  Calls Tryz.prog 154 #[v,.int .i64 l.length,.slice (some ⟨b,0,none⟩) 1 1] w (ret fun v w'=>Q0 w' (NL v (l++[x])::fr)):=by
 obtain⟨a,c,rfl⟩:=QD H (QF l) (by decide);refine QQ Tryz.func154 rfl (by kernel_rfl) ?_;refine Uj H ?_;refine Q5 rfl (S7 rfl rfl (Nat.le_refl _) rfl fun v12=>?_);refine Bf H ?_;refine Q5 rfl (ZO rfl rfl ?_);refine Yi H ?_;refine Gy H ?_;refine V8 H ?_;rw[show (((l.length:Nat):Int) == (l.length:Int))=true by simp];refine VD H ?_;refine J5 H ?_;refine Q5 rfl (YC H rfl rfl (by repeat first|exact .nil _|apply QY.cons rfl) rfl (by decide) (by rw[QF];simp only[List.length_cons,List.length_nil];omega) rfl rfl ?_);clear H;intro v25 w H;obtain⟨a25,m25,c25,rfl⟩:=Qq H;refine J0 H ?_;have e1:QK l++[.int .i64 x]=QK (l++[x]):=by rw[W9];rfl
 rw[e1] at H;exact Q3 (Jy (Q0.drop H.swap) rfl fun w' H'=>H')
end Go.Proofs.YtmjdnljneifpcaaGreatDoor
namespace Go.Proofs.YtmjdnljneifpcaaGreatDoor
open Go.SL
def Qs (p:Nat) (l:List Nat):Q2:=ex fun v:Value=>star [pts p (row 163 [v]),NL v l]
theorem WU [Q4] {w:World} {p:Nat} {l:List Nat} {fr:List Q2} (H:Q0 w (Qs p l::fr)):∃ a c,Q0 w (pts p (row 163 [.slice a l.length c])::NL (.slice a l.length c) l::fr):=by
 obtain⟨v,H⟩:=Q0.ex.1 H;have H:=Q0.star.1 H;obtain⟨a,c,rfl⟩:=QD H.drop (QF l) (by decide);exact⟨a,c,H⟩
theorem KF [Q4] {w:World} {p:Nat} {l:List Nat} {v:Value} {fr:List Q2} (H:Q0 w (pts p (row 163 [v])::NL v l::fr)):Q0 w (Qs p l::fr):=
 Q0.ex.2 ⟨v,Q0.star.2 H⟩
theorem HT [Q4] {w:World} {fr:List Q2} (H:Q0 w fr):Calls Tryz.prog 56 #[.slice none 0 0] w (ret fun v w'=>∃ p,v=pp p∧Q0 w' (Qs p []::fr)):=by
 refine QQ Tryz.func56 rfl (by kernel_rfl) ?_;refine Ky H ?_;refine Jc rfl rfl (Bv (.slice none 0 0) [] (by simp) ⟨rfl,none,0,rfl,.inl rfl⟩ H) ?_;clear H;rintro v w H;obtain⟨a,c,rfl⟩:=QD H (QF []) (by decide);refine DV H ?_;refine Jc rfl rfl (Ed _ [] (by simp) H) ?_;clear H;rintro v w ⟨rfl,H⟩;rw[List.mergeSort_nil] at H;refine Bf H ?_;refine Jc rfl rfl (TM a 0 c (by omega) H) ?_;clear H;rintro v w ⟨rfl,H⟩;refine Uv H ?_;clear H;intro b10 w H;refine J0 H ?_;exact Q3 (Jy H rfl fun w' H'=>⟨_,rfl,KF (l:=[]) H'⟩)
theorem MT {l:List Nat} {x:Nat} (h:∀ a∈l,a < x):Yy l x=l.length:=by
 unfold Yy;rw[List.countP_eq_length];intro a ha;simpa using h a ha
theorem TP [Q4] (p:Nat) (l:List Nat) (x:Nat) (hs:l.Pairwise (· < ·)) (hl:l.length≤100000) (hx:∀ a∈l,a < x) {w:World} {fr:List Q2} (H:Q0 w (Qs p l::fr)) :
  Calls Tryz.prog 93 #[pp p,.int .i64 x] w (ret fun v w'=>v = .bool true∧Q0 w' (Qs p (l++[x])::fr)):=by
 obtain⟨a,c,H⟩:=WU H;have hn:x∉l:=fun h=>by have:=hx x h;omega
 refine QQ Tryz.func93 rfl (by kernel_rfl) ?_;refine W7 H ?_;obtain⟨D1,H,hD1,hC1⟩:=sls_rd H.swap (QF _) (by decide);refine Jc rfl rfl (AE _ l (by omega) hs x (hD1 _) H) ?_;clear H;rintro v w ⟨rfl,H⟩;replace H:=hC1 _ _ H;rw[MT hx,decide_eq_false hn];refine X0 H ?_;refine J8 H ?_;refine Qn (fun ms σ w=>ms=[]∧σ 6 = .bool false∧Q0 w (Qs p (l++[x])::fr)) ?_ ?_
 ·refine Vg rfl ?_;refine Wu H ?_;refine YS H ?_;refine GG H ?_;clear H;intro b27 w H;replace H:=Js [1,0,0] 0 H;refine Jc rfl rfl (TO _ l x (by omega) _ H) ?_;clear H;intro v w H;obtain⟨a28,m28,c28,rfl⟩:=Qq H;refine GU H ?_;clear H;intro w H;refine Q6 ?_;exact⟨rfl,rfl,rfl,KF H.swap⟩
 ·clear H;rintro ms σ w ⟨rfl,g6,H⟩;rw[Q1 g6];refine V8 H ?_;exact Q3 (Jy H rfl fun w' H'=>⟨rfl,H'⟩)
theorem TS [Q4] (p:Nat) (l:List Nat) (x:Nat) (hs:l.Pairwise (· < ·)) (hl:l.length≤100000) {w:World} {fr:List Q2} (H:Q0 w (Qs p l::fr)) :
  Calls Tryz.prog 47 #[pp p,.int .i64 x] w (ret fun v w'=>v = .bool (decide (x∈l))∧Q0 w' (Qs p l::fr)):=by
 obtain⟨a,c,H⟩:=WU H;refine QQ Tryz.func47 rfl (by kernel_rfl) ?_;refine W7 H ?_;obtain⟨D1,H,hD1,hC1⟩:=sls_rd H.swap (QF _) (by decide);refine Jc rfl rfl (AE _ l (by omega) hs x (hD1 _) H) ?_;clear H;rintro v w ⟨rfl,H⟩;replace H:=hC1 _ _ H;refine X0 H ?_;exact Q3 (Jy (KF H.swap) rfl fun w' H'=>⟨rfl,H'⟩)
end Go.Proofs.YtmjdnljneifpcaaGreatDoor
namespace Go.Proofs.YtmjdnljneifpcaaGreatDoor
open Go.SL
theorem Ma:∀ a b:Rf,kp a=kp b→a=b:=RW.inj
def ZY (l:List Rf):List Value:=l.flatMap fun r=>[.int .i64 r.1,.int .i64 r.2]
theorem AI (l:List Rf):(ZY l).length=l.length*2:=by
 induction l with
 | nil=>rfl
 | cons r l ih=>simp only[ZY,List.flatMap_cons,List.length_append,List.length_cons,List.length_nil] at ih ⊢;omega
theorem TT (a b:List Rf):ZY (a++b)=ZY a++ZY b:=by simp[ZY]
theorem Ta [Q4] (x:Option Nat) (m:List (Rf×Int)) {w:World} {fr:List Q2} (H:Q0 w (YL kp v1 (.map x) m::fr)) :
  Calls Tryz.prog 200 #[.map x] w
   (ret fun v w'=>∃ b,v = .func (.func 246) #[] #[pp b]∧Q0 w' (pts b (row 145 [.map x])::YL kp v1 (.map x) m::fr)):=by
 refine QQ Tryz.func200 rfl (by kernel_rfl) ?_;refine ZW H ?_;clear H;intro b1 w H;refine YD H ?_;refine Q3 (Jy H rfl fun w' H'=>⟨b1,rfl,H'⟩)
theorem GC {α:Type}:∀ {l₁ l₂:List α},l₁.Nodup→(∀ z∈l₁,z∈l₂)→l₁.length≤l₂.length
 | [],_,_,_=>Nat.zero_le _
 | c::l,l₂,hn,hs=>by
  obtain⟨s,t,rfl⟩:=List.append_of_mem (hs c (by simp));have h:=List.nodup_cons.1 hn
  have:=GC (l₂:=s++t) h.2 (fun z hz=>by
   have h1:=hs z (by simp[hz]);have h2:z≠c:=fun e=>h.1 (e▸hz);simp[h2] at h1;simpa using h1)
  simp at this ⊢;omega
theorem Tb [Q4] (yl b:Nat) (x:Option Nat) (m:List (Rf×Int)) (J:List Rf→Q2)
  (hy:∀ ks r rest w,ks.length < m.length→Q0 w (J ks::rest)→SL.Yields Tryz.prog yl #[rf r] w (fun v w'=>v = .bool true∧Q0 w' (J (ks++[r])::rest)))
  {w:World} {fr:List Q2} (H:Q0 w (J []::pts b (row 145 [.map x])::YL kp v1 (.map x) m::fr)) :
  Calls Tryz.prog 246 #[.func (.yield yl) #[] #[],pp b] w
   (ret fun _ w'=>∃ ks,ks.Perm (m.map (·.1))∧Q0 w' (J ks::YL kp v1 (.map x) m::fr)):=by
 refine QQ Tryz.func246 rfl (by kernel_rfl) ?_;refine Gz H ?_;replace H:=Js [2,0,0] 0 H;refine Q5 rfl (FN kp v1 H rfl rfl ?_);clear H;intro bi w H;refine Q6 ?_;refine QS ?_;refine Qj (fun ms σ w n=>ms=[]∧∃ ks:List Rf,σ 0 = .func (.yield yl) #[] #[]∧σ 5=pp bi∧n=m.length - ks.length∧Q0 w (K0 kp v1 (.map x) m bi ks::J ks::pts b (row 145 [.map x])::fr)) (m:=m.length) ⟨rfl,[],rfl,rfl,rfl,H⟩ ?_;clear H w;rintro ms σ w n ⟨rfl,ks,h0,h5,rfl,H⟩;rw[Q1 h0,Q1 h5];refine GZ H ?_;refine Q5 rfl (FO H Ma rfl rfl (fun hp w H=>?_) (fun q hq hn hnd hsub w H=>?_))
 ·refine Y1 H ?_;refine KQ H ?_;replace H:=FM H;replace H:=Js [1,0] 1 H;exact Y4 _ (.inl rfl) H rfl fun w' H'=>⟨ks,hp,H'⟩
 ·have hlt:ks.length < m.length:=by
   have h1:(ks++[q.1]).Nodup:=by
    rw[List.nodup_append];exact⟨hnd,by simp,fun c hc c' hc' e0=>by simp at hc';subst hc';subst e0;exact hn hc⟩
   have h2:=GC h1 (l₂:=m.map (·.1)) (fun z hz=>by
    rcases List.mem_append.1 hz with hz|hz
    ·exact hsub z hz
    ·simp at hz;subst hz;exact List.mem_map_of_mem hq)
   simp at h2;omega
  refine Y1 H ?_;refine XT H ?_;refine QS ?_;refine GZ H ?_;refine Q5 rfl (FP H Ma hq rfl rfl ?_);refine Jv ?_;refine VZ H ?_;clear H;intro b3 w H;refine J3 H ?_;clear H;intro w H;refine Q6 ?_;refine Ge H ?_;replace H:=Js [2,0,0,0] 0 H;refine Q5 rfl (Wb rfl rfl (SL.Yields.mono (hy ks q.1 _ _ hlt H) ?_));clear H;rintro v w ⟨rfl,H⟩;refine Y0 H ?_;replace H:=Js [2,0,1] 1 H;exact⟨_,⟨rfl,ks++[q.1],rfl,rfl,rfl,H⟩,by simp;omega⟩
def CJ (L:Q2) (b2:Nat) (ks:List Rf):Q2:=ex fun v:Value=>star [QC 133 2 v (ZY ks),L,pts b2 (row 130 [v])]
theorem Mb [Q4] {w:World} {L:Q2} {b2:Nat} {ks:List Rf} {l:List Q2} (H:Q0 w (CJ L b2 ks::l)):∃ v,Q0 w (QC 133 2 v (ZY ks)::L::pts b2 (row 130 [v])::l):=by
 obtain⟨v,H⟩:=Q0.ex.1 H;exact⟨v,Q0.star.1 H⟩
theorem Mc [Q4] {w:World} {L:Q2} {b2:Nat} {ks:List Rf} {l:List Q2} {v:Value} (H:Q0 w (QC 133 2 v (ZY ks)::L::pts b2 (row 130 [v])::l)):Q0 w (CJ L b2 ks::l):=
 Q0.ex.2 ⟨v,Q0.star.2 H⟩
theorem AJ [Q4] {w:World} {E k:Nat} {v:Value} {c:List Value} {l:List Q2} (H:Q0 w (QC E k v c::l)):v.oneCell'=true:=by
 rcases G8 H with ⟨rfl,_⟩|⟨_,_,_,_,rfl,_⟩ <;> rfl
theorem Tc [Q4] (b:Nat) (x:Option Nat) (m:List (Rf×Int)) (hm:m.length≤1000000) {w:World} {fr:List Q2} (H:Q0 w (pts b (row 145 [.map x])::YL kp v1 (.map x) m::fr)) :
  Calls Tryz.prog 258 #[.slice none 0 0,.func (.func 246) #[] #[pp b]] w
   (ret fun v w'=>∃ ks,ks.Perm (m.map (·.1))∧Q0 w' (QC 133 2 v (ZY ks)::YL kp v1 (.map x) m::fr)):=by
 refine QQ Tryz.func258 rfl (by kernel_rfl) ?_;refine ZW H ?_;clear H;intro b2 w H;refine BR H ?_;refine QS (Kp (a:=[]) (b:=[pp b]) H rfl (fun yl D w H=>?_));generalize hL:LR _ yl _ _ _ _ D .ready=L at H ⊢;replace H:=Yu (E:=133) (k:=2) H;replace H:=Js [0,0,1,1,1,0] 0 H;refine call (Tb yl b x m (CJ L b2) ?_ (Mc (ks:=[]) H)) ?_
 ·intro ks r rest w hlt H;obtain⟨a,c⟩:=r;obtain⟨v,H⟩:=Mb H;have h1:=AJ H;subst hL;replace H:=Js [1,0,0] 0 H;refine Ko (args:=[rf (a,c)]) H rfl rfl ?_;refine YO H ?_;clear H;intro b5 w H;refine J3 H ?_;clear H;intro w H;refine Q6 ?_;replace H:=Js [1,1,0,0] 0 H;refine⟨rfl,_,H,fun w H=>QS ?_⟩
  repeat refine Q7 ?_
  refine QG ?_;refine Q5 rfl (QA H rfl rfl rfl ?_);refine Q5 rfl (VH H rfl (by repeat first|exact .nil _|apply QY.cons rfl) rfl ?_);refine GG H ?_;clear H;intro b10 w H;replace H:=Js [2,0,0,0,0] 0 H;refine Q5 rfl (YC H rfl rfl (by repeat first|exact .nil _|apply QY.cons rfl) rfl (by decide) (by simp only[AI,List.length_cons,List.length_nil];omega) rfl rfl ?_);clear H;intro v11 w H;obtain⟨a11,c11,rfl⟩:=QD (m:=ks.length+1) H (by simp[AI];omega) (by decide);refine Q5 rfl (Yf H rfl rfl inferInstance (AJ H) (Nat.le_of_ble_eq_true rfl) rfl ?_);clear H;intro w H;refine Q6 ?_;replace H:=Js [2,0,2] 2 H;refine⟨rfl,_,H,fun w H=>⟨rfl,Mc (v := .slice a11 (ks.length+1) c11) ?_⟩⟩;replace H:=Js [1,0,0] 0 H;rw[TT];exact H
 ·rintro v w' ⟨ks,hp,H⟩;obtain⟨v2,H⟩:=Mb H;have h1:=AJ H;subst hL;replace H:=Js [1,0,0,0,0] 0 H;refine⟨_,H,fun w H=>?_⟩;refine Gz H ?_;refine UX H ?_;replace H:=Js [3,0,1] 1 H;exact Q3 (Rk (ms:=[D]) _ (.inr rfl) ((Q0.star (k:=[pts D (.deferred (some []))])).2 H) rfl fun w' H'=>⟨ks,hp,H'⟩)
theorem Td [Q4] (b:Nat) (x:Option Nat) (m:List (Rf×Int)) (hm:m.length≤1000000) {w:World} {fr:List Q2} (H:Q0 w (pts b (row 145 [.map x])::YL kp v1 (.map x) m::fr)) :
  Calls Tryz.prog 244 #[.func (.func 246) #[] #[pp b]] w
   (ret fun v w'=>∃ ks,ks.Perm (m.map (·.1))∧Q0 w' (QC 133 2 v (ZY ks)::YL kp v1 (.map x) m::fr)):=by
 refine QQ Tryz.func244 rfl (by kernel_rfl) ?_;refine Ky H ?_;refine Jc rfl rfl (Tc b x m hm H) ?_;rintro v w ⟨ks,hp,H⟩;refine UX H ?_;exact Q3 (Jy H rfl fun w' H'=>⟨ks,hp,H'⟩)
end Go.Proofs.YtmjdnljneifpcaaGreatDoor
namespace Go.Proofs.YtmjdnljneifpcaaGreatDoor
open Go.SL
theorem Md [Q4] (a:Int) (w:World):Calls Tryz.prog 237 #[.int .i64 a] w (ret fun v w'=>v = .bool false∧w'=w):=by
 refine QQ Tryz.func237 rfl (by kernel_rfl) ?_
 repeat refine Q7 ?_
 refine QG ?_;refine Jv ?_;refine Q6 ?_
 repeat refine Q7 ?_
 refine QG ?_;refine Jv ?_;refine Jv ?_;refine Jv ?_;refine Jv ?_;refine Q6 ?_;exact Q3 (Xx (.inr rfl) rfl ⟨by show Value.bool (a != a)=_;simp,rfl⟩)
def KH (a b:Int):Int:=if a < b then -1 else if b < a then 1 else 0
theorem Me [Q4] (a b:Int) (w:World):Calls Tryz.prog 203 #[.int .i64 a,.int .i64 b] w (ret fun v w'=>v = .int .i64 (KH a b)∧w'=w):=by
 refine QQ Tryz.func203 rfl (by kernel_rfl) ?_
 repeat refine Q7 ?_
 refine QG ?_;refine Jv ?_;refine Q6 ?_
 repeat refine Q7 ?_
 refine QG ?_;refine Jv ?_;refine Jc rfl rfl (Md a _) ?_;rintro v w' ⟨rfl,rfl⟩;refine Jv ?_;refine Q6 ?_
 repeat refine Q7 ?_
 refine QG ?_;refine Jv ?_;refine Jc rfl rfl (Md b _) ?_;rintro v w' ⟨rfl,rfl⟩;refine Jv ?_;refine Q6 ?_
 repeat refine Q7 ?_
 refine QG ?_;refine Jv ?_;refine Q6 ?_
 repeat refine Q7 ?_
 refine VU rfl (QW ?_)
 repeat refine Q7 ?_
 refine QG ?_;refine Jv ?_;refine Q6 ?_
 repeat refine Q7 ?_
 refine VU rfl (QW ?_)
 repeat refine Q7 ?_
 refine QG ?_;refine Jv ?_;refine Jv ?_;refine Jv ?_;refine Q6 ?_
 repeat refine Q7 ?_
 refine Qf rfl (fun h=>?_) (fun h=>QW ?_)
 ·repeat refine Q7 ?_
  refine QG ?_;refine Jv ?_;refine Q6 ?_;exact Q3 (Xx (.inr rfl) rfl ⟨by show Value.int .i64 (-1)=_;simp[KH,h],rfl⟩)
 ·repeat refine Q7 ?_
  refine QG ?_;refine Jv ?_;refine Jv ?_;refine Jv ?_;refine Q6 ?_
  repeat refine Q7 ?_
  refine Qf rfl (fun h2=>?_) (fun h2=>QW ?_)
  ·repeat refine Q7 ?_
   refine QG ?_;refine Jv ?_;refine Q6 ?_;exact Q3 (Xx (.inr rfl) rfl ⟨by have:b < a:=h2;show Value.int .i64 1=_;simp[KH,h,this],rfl⟩)
  ·repeat refine Q7 ?_
   refine QG ?_;refine Jv ?_;refine Q6 ?_;exact Q3 (Xx (.inr rfl) rfl ⟨by have:¬ b < a:=h2;show Value.int .i64 0=_;simp[KH,h,this],rfl⟩)
def AL (x y:Int):Int:=if x=0 then y else x
theorem Te [Q4] (b:Nat) (x y:Int) {w:World} {fr:List Q2} (H:Q0 w (pts b (row 3 [.int .i64 x,.int .i64 y])::fr)) :
  Calls Tryz.prog 202 #[.slice (some ⟨b,0,none⟩) 2 2] w (ret fun v w'=>v = .int .i64 (AL x y)∧w'=w):=by
 refine QQ Tryz.func202 rfl (by kernel_rfl) ?_;refine VC H ?_;refine Ky H ?_;refine Bg H ?_;refine GV H ?_;refine Qj (fun ms σ w' n=>ms=[]∧w'=w∧∃ i:Nat,i≤2∧n=2 - i∧σ 6 = .slice (some ⟨b,0,none⟩) 2 2∧σ 7 = .int .i64 2∧σ 8 = .int .i64 i∧σ 3 = .int .i64 0∧(1≤i→x=0)∧(2≤i→y=0)) (m:=2) ⟨rfl,rfl,0,by omega,rfl,rfl,rfl,rfl,rfl,by omega,by omega⟩ ?_;rintro ms σ w' n ⟨rfl,rfl,i,hi,rfl,h6,h7,h8,h3,hx,hy⟩;rw[Q1 h6,Q1 h7,Q1 h8,Q1 h3];have h012:i=0∨i=1∨i=2:=by omega
 rcases h012 with rfl|rfl|rfl
 ·refine J7 H ?_;refine XT H ?_;refine YY H ?_;refine Q5 rfl (Gs rfl rfl (by decide) (by decide) rfl ?_);refine K4 H ?_;refine J0 H ?_;refine BL H ?_;refine Rj rfl (fun ht=>?_) (fun ht=>QW ?_)
  ·have hx0:x≠0:=by simpa using ht
   refine J4 H ?_;exact Q3 (Xx (.inr rfl) rfl ⟨by show Value.int .i64 x=_;simp[AL,hx0],rfl⟩)
  ·have hx0:x=0:=by simpa using ht
   refine J4 H ?_;exact⟨_,⟨rfl,rfl,1,by omega,rfl,rfl,rfl,rfl,rfl,by omega,by omega⟩,by omega⟩
 ·refine J7 H ?_;refine XT H ?_;refine YY H ?_;refine Q5 rfl (Gs rfl rfl (by decide) (by decide) rfl ?_);refine K4 H ?_;refine J0 H ?_;refine BL H ?_;refine Rj rfl (fun ht=>?_) (fun ht=>QW ?_)
  ·have hx0:y≠0:=by simpa using ht
   refine J4 H ?_;exact Q3 (Xx (.inr rfl) rfl ⟨by show Value.int .i64 y=_;simp[AL,hx (by omega)],rfl⟩)
  ·have hx0:y=0:=by simpa using ht
   refine J4 H ?_;exact⟨_,⟨rfl,rfl,2,by omega,rfl,rfl,rfl,rfl,rfl,by omega,by omega⟩,by omega⟩
 ·refine J7 H ?_;refine KQ H ?_;refine J4 H ?_;exact Q3 (Xx (.inr rfl) rfl ⟨by show Value.int .i64 0=_;simp[AL,hx (by omega),hy (by omega)],rfl⟩)
def AM (x y:Rf):Int:=AL (KH x.1 y.1) (KH x.2 y.2)
open Go.Sort in
theorem Tf (x y:Rf) (w:World):Calls Tryz.prog 201 #[rf x,rf y] w (ret fun v w'=>v = .int .i64 (AM x y)∧∃ q os',w'=grow (w.drewN q) os'):=by
 obtain⟨a,b⟩:=x;obtain⟨c,d⟩:=y;letI:Q4:=⟨w.os,w.output⟩;have H:Q0 w []:=Q0.nil w ⟨rfl,rfl⟩;refine QQ Tryz.func201 rfl (by kernel_rfl) ?_
 repeat refine Q7 ?_
 refine QG ?_;refine Q5 rfl (LD H rfl rfl ?_);clear H;intro b2 w1 e1 H;refine Q5 rfl (LD H rfl rfl ?_);clear H;intro b3 w2 e2 H;refine Jv ?_;refine Q6 ?_
 repeat refine Q7 ?_
 refine Pf H mixed ?_;clear H;intro w3 e3 H;refine Jf 0 ?_;refine Jl 1 [4,9,10,11] H ?_;refine Jf 2 ?_;refine Jl 3 [4,9,10,11] H ?_;refine Jf 5 ?_;refine Jl 6 [9,10,11] H ?_;refine Jf 7 ?_;refine Jl 8 [9,10,11] H ?_;refine Jo 4 H ?_;refine Jk rfl rfl (Me a c _) ?_;rintro v w' ⟨rfl,rfl⟩;refine Jo 9 H ?_;refine Jk rfl rfl (Me b d _) ?_;rintro v w' ⟨rfl,rfl⟩;refine Jo 10 H ?_;refine Pe H rfl rfl rfl ?_;clear H;intro b15 w5 e5 H;refine Jo 11 H ?_;refine Jk rfl rfl (Te b15 (KH a c) (KH b d) H) ?_;rintro v w' ⟨rfl,rfl⟩;refine Ja 12 ?_;refine Jx H ?_
 have key:∃ q os',w'=grow (w.drewN q) os':=by
  rw[e5,e3,e2,e1];simp only[alloc_eq_grow]
  exact⟨1,_,by
   show grow (grow (grow (w.drewN 1) _) _) _=_;rw[grow_grow,grow_grow]⟩
 exact Q3 (Xx (.inr rfl) rfl ⟨rfl,key⟩)
def Zl (x y:Rf):Prop:=x.1 < y.1∨x.1=y.1∧x.2 < y.2
instance (x y:Rf):Decidable (Zl x y):=by unfold Zl;exact inferInstance
theorem Tg (x y:Rf):AM x y < 0↔Zl x y:=by
 unfold AM AL KH Zl;constructor
 ·intro h
  repeat' split at h
  all_goals omega
 ·intro h
  repeat' split
  all_goals omega
open Go.Sort in
theorem Ee (x y:Rf):ltOf AM x y=decide (Zl x y):=by
 unfold ltOf;rw[Bool.eq_iff_iff];simp[Tg]
open Go.Sort in
theorem Th:SWO (ltOf AM) where
 irrefl x:=by rw[Ee];simp[Zl]
 trans x y z h1 h2:=by
  rw[Ee] at h1 h2 ⊢;have h1:Zl x y:=of_decide_eq_true h1;have h2:Zl y z:=of_decide_eq_true h2;have h3:Zl x z:=by unfold Zl at *;omega
  exact decide_eq_true h3
 ntrans x y z h1 h2:=by
  rw[Ee] at h1 h2 ⊢;have h1:¬ Zl x y:=of_decide_eq_false h1;have h2:¬ Zl y z:=of_decide_eq_false h2;have h3:¬ Zl x z:=by unfold Zl at *;omega
  exact decide_eq_false h3
def Ef (r:Rf):List Value:=[.int .i64 r.1,.int .i64 r.2]
theorem Ti (l:List Rf):ZY l=l.flatMap Ef:=rfl
def C2 (l:List Rf):Prop:=l.Pairwise Zl
theorem Tj [Q4] (b:Nat) (x:Option Nat) (m:List (Rf×Int)) (hm:m.length≤1000000) (hn:(m.map (·.1)).Nodup) {w:World} {fr:List Q2} (H:Q0 w (pts b (row 145 [.map x])::YL kp v1 (.map x) m::fr)) :
  Calls Tryz.prog 199 #[.func (.func 246) #[] #[pp b],.func (.func 201) #[] #[]] w
   (ret fun v w'=>∃ ks,ks.Perm (m.map (·.1))∧C2 ks∧Q0 w' (QC 133 2 v (ZY ks)::YL kp v1 (.map x) m::fr)):=by
 refine QQ Tryz.func199 rfl (by kernel_rfl) ?_;refine Ky H ?_;refine Jc rfl rfl (Td b x m hm H) ?_;rintro v w ⟨ks,hp,H⟩;refine UX H ?_;refine GZ H ?_;refine Uc rfl rfl ?_;refine Jv ?_
 have hs:=SQ (k:=2) (enc:=Ef) Tryz.sortRef (t:=133) rfl inferInstance (by decide) (fun _=>rfl) (fun x v hv=>by simp[Ef] at hv;rcases hv with rfl|rfl <;> rfl) AM Th (g:=201) inferInstance (fun x y W=>(Tf x y W).mono fun e w' h=>by
  cases e with
  | returned v=>exact⟨by rw[h.1],h.2⟩
  | panicked c=>exact h.elim
  | outgrown=>exact h.elim) H (by have:=hp.length_eq;simp at this;omega)
 refine Jc rfl rfl (hs) ?_;rintro v2 w ⟨ks2,hp2,hs2,H⟩;refine Q6 ?_;refine GZ H ?_;refine Uc rfl rfl ?_;refine UX H ?_;have hp3:=hp2.trans hp;refine Q3 (Jy H rfl fun w' H'=>⟨ks2,hp3,?_,H'⟩);have hnd:ks2.Nodup:=hp3.nodup_iff.2 hn;refine(hs2.and hnd).imp ?_;rintro a b ⟨h1,h2⟩;rw[Ee] at h1;have h3:¬ Zl b a:=of_decide_eq_false h1;unfold Zl at h3 ⊢;have h4:¬ (a.1=b.1∧a.2=b.2):=fun e=>h2 (Prod.ext e.1 e.2);omega
theorem Eg [Q4] (x:Option Nat) (m:List (Rf×Int)) (hm:m.length≤1000000) (hn:(m.map (·.1)).Nodup) {w:World} {fr:List Q2} (H:Q0 w (YL kp v1 (.map x) m::fr)) :
  Calls Tryz.prog 122 #[.map x] w
   (ret fun v w'=>∃ ks,ks.Perm (m.map (·.1))∧C2 ks∧Q0 w' (QC 133 2 v (ZY ks)::YL kp v1 (.map x) m::fr)):=by
 refine QQ Tryz.func122 rfl (by kernel_rfl) ?_;refine Ky H ?_;refine Jc rfl rfl (Ta x m H) ?_;rintro v w ⟨b,rfl,H⟩
 refine Jc rfl rfl (Tj b x m hm hn H) ?_;rintro v w ⟨ks,hp,hs,H⟩;refine UX H ?_;exact Q3 (Jy H rfl fun w' H'=>⟨ks,hp,hs,H'⟩)
end Go.Proofs.YtmjdnljneifpcaaGreatDoor
