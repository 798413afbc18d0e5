/- Part of a proof. -/
import Derived.OpenShut
import Derived.ChangeOld
import Derived.Test.YthemnhjojaehhaaGreatDoorA8
set_option linter.all false
namespace Go.Ad
open Go.RowKit
def BV(E:List (Nat×AV))(l:List Oper)(val:Nat→AV)(L:Nat→Bool)(k:Nat):Nat→List (Nat×AV)
 |0=>E
 |c+1=>match (if L (k+c)then(l[k+c]?).bind (·.dst)else none)with
  |some d=>(d,val (k+c))::BV E l val L k c
  |none=>BV E l val L k c
def SO(P:Program)(n B:Nat)(w0:AT)(ops:Array Oper)(o:Oper)(K:St→Prop)(st:St):Prop:=
 ∀(a:Act) (w:World) (ρ:Nat→Option Value) (I:Nat→Prop),B3 n B w0 st a w ρ I→ ∀(next:Act→World→Prop) (Q:Exit→Act→World→Prop),(∀st' a' w',K st'→G n B w0 st' a' w'→next a' w')→
  if Region.wanted o (yielded ops a.tmps)then o.wpIn (fo w0) 0 P a w next Q else(∀f,o.about P w a.eval=some f→(fo w0).fn f)∧next (a.put o.dst undef) w
section
variable{E:List (Nat×AV)}{l:List Oper}{val:Nat→AV}{L M:Nat→Bool}{k:Nat}
theorem KE(t:Nat): ∀c,(∀i,k≤i→i<k+c→(l[i]?).bind (·.dst)=some t→L i=M i)→lk (BV E l val L k c) t=lk (BV E l val M k c) t
 |0,_=>rfl
 |c+1,h=>by
  have ih:=KE t c (fun i h1 h2=>h i h1 Zo);simp only[BV];cases hd:(l[k+c]?).bind (·.dst)with
  |none=>simp only[ite_self];exact ih
  |some d=>
   by_cases qE:d=t
   ·subst qE;have:=h (k+c) Zo Zo hd;rw[this];cases M (k+c)
    ·simpa using ih
    ·simp[lk]
   ·have aux: ∀(X:Bool) (R:List (Nat×AV)),lk (match (if X=true then some d else none)with|some d=>(d,val (k+c))::R|none=>R) t=lk R t:=fun X R=>by
     cases X
     ·rfl
     ·simp only[if_true,lk];rw[if_neg qE]
    rw[aux,aux];exact ih
theorem GI(σ:Nat→St)(j:Nat)(hE:E=(σ k).env)(hq: ∀i o,k≤i→i<j→l[i]? =some o→(σ (i+1)).env=((σ i).put o.dst (val i)).env)(hl:j≤l.length)(hL: ∀i,k≤i→i<j→L i=true): ∀c,k+c≤j→BV E l val L k c=(σ (k+c)).env
 |0,_=>hE
 |c+1,h=>by
  have ih:=GI σ j hE hq hl hL c Zo;have Ak:k+c<l.length:=Zo
  have ho:l[k+c]? =some l[k+c]:=Zeg Ak;have h1:=hq (k+c) _ Zo Zo ho;simp only[BV,hL (k+c) Zo Zo,if_true,ho,Option.bind_some];rw[ih,show k+(c+1)=k+c+1 from rfl,h1];cases hd:(l[k+c]).dst<;>simp[St.put]
theorem Dx(c0:Nat)(hL: ∀i,k+c0≤i→L i=false): ∀c,c0≤c→BV E l val L k c=BV E l val L k c0
 |0,h=>by
   have:c0=0:=Zo
   subst this;rfl
 |c+1,h=>by
  by_cases e:c0=c+1
  ·rw[e]
  ·have ih:=Dx c0 hL c Zo;simp only[BV,hL (k+c) Zo];exact ih
theorem NK(j d:Nat)(ec:k≤j)(NB:(l[j]?).bind (·.dst)=some d)(VI:L j=false)(hM: ∀i,M i=(L i||i==j))(fT: ∀i,j<i→L i=true→(l[i]?).bind (·.dst)≠some d)(s:Nat): ∀c,lk (BV E l val M k c) s=if j<k+c∧d=s then val j else lk (BV E l val L k c) s
 |0=>by simp only[BV];rw[if_neg Zo]
 |c+1=>by
  have ih:=NK j d ec NB VI hM fT s c;simp only[BV];by_cases e:k+c=j
  ·rw[e,hM j,VI,NB];simp only[beq_self_eq_true,Bool.or_true,if_true,lk,Bool.false_eq_true,if_false];by_cases hs:d=s
   ·rw[if_pos hs,if_pos ⟨Zo,hs⟩]
   ·rw[if_neg hs,if_neg Zo,ih,if_neg Zo]
  ·have zM:M (k+c)=L (k+c):=by rw[hM];simp[e]
   rw[zM];cases hLc:L (k+c)
   ·simp only[Bool.false_eq_true,if_false];rw[ih];by_cases hs:d=s
    ·by_cases hj:j<k+c
     ·rw[if_pos ⟨hj,hs⟩,if_pos ⟨Zo,hs⟩]
     ·rw[if_neg Zo,if_neg Zo]
    ·rw[if_neg Zo,if_neg Zo]
   ·simp only[if_true];cases hd:(l[k+c]?).bind (·.dst)with
    |none=>
     simp only;rw[ih];by_cases hs:d=s
     ·by_cases hj:j<k+c
      ·rw[if_pos ⟨hj,hs⟩,if_pos ⟨Zo,hs⟩]
      ·rw[if_neg Zo,if_neg Zo]
     ·rw[if_neg Zo,if_neg Zo]
    |some d'=>
     simp only[lk];by_cases N4:d'=s
     ·rw[if_pos N4,if_pos N4];by_cases hj:j<k+c
      ·have:=fT (k+c) hj hLc;rw[hd]at this;have CD:d≠s:=fun e=>this (by rw[N4,e]);rw[if_neg (fun hh=>CD hh.2)]
      ·rw[if_neg Zo]
     ·rw[if_neg N4,if_neg N4,ih];by_cases hs:d=s
      ·by_cases hj:j<k+c
       ·rw[if_pos ⟨hj,hs⟩,if_pos ⟨Zo,hs⟩]
       ·rw[if_neg Zo,if_neg Zo]
      ·rw[if_neg Zo,if_neg Zo]
theorem Le(j:Nat)(NB:(l[j]?).bind (·.dst)=none)(hM: ∀i,M i=(L i||i==j)): ∀c,BV E l val M k c=BV E l val L k c
 |0=>rfl
 |c+1=>by
  have ih:=Le j NB hM c;simp only[BV];by_cases e:k+c=j
  ·rw[e,NB];simp only[ite_self];exact ih
  ·have zM:M (k+c)=L (k+c):=by rw[hM];simp[e]
   rw[zM,ih]
end
theorem G.congr{n B:Nat}{w0:AT}{st st':St}{a:Act}{w:World}(hG:G n B w0 st a w)(hE: ∀s,lk st'.env s=lk st.env s)(hH:st'.heap=st.heap):G n B w0 st' a w:=by
 obtain⟨ρ,I,h⟩:=hG;exact⟨ρ,I,h.defers,h.size,fun s=>by rw[hE];exact h.env s,by rw[hH];exact h.hw,h.below,h.base,h.BQ⟩
section
variable{P:Program}{T:BT}(hT:T.ok P){n B:Nat}{w0:AT}{l:List Oper}{ms:List Nat}(hD:Xz l ms)
include hD
theorem KF{L:Nat→Bool}(XV: ∀j o,l[j]? =some o→L j=true→ ∀e∈o.after,Region.binds .any e=true→L e.on=true):
  ∀(m j:Nat),j<m→ ∀o,l[j]? =some o→(∀e∈o.after,Region.binds .any e=true→L e.on=true)→ ∀i,(ms.getD j 0).testBit i=true→L i=true
 |0,j,hm=>by omega
 |m+1,j,hm=>by
  intro o ho U0 i hi;obtain⟨e,he,hb,h⟩:=hD.sub j o ho i hi;have Ak:=hD.lt j o ho e he hb;have wZ:=U0 e he hb;rcases h with h|h
  ·rw[←h];exact wZ
  ·have N5:=(List.getElem?_eq_some_iff.1 ho).1;have H3:l[e.on]? =some l[e.on]:=Zeg Zo;exact KF XV m e.on Zo _ H3 (XV _ _ H3 wZ) i h
include hT in
theorem Zp{Q:Exit→Act→World→Prop}(N:Nat)(hN:N≤l.length∧l.length≤N+1)(σ:Nat→St)(val:Nat→AV)(hσ: ∀i o,i<N→l[i]? =some o→BR P T n l.toArray o (fun s=>s=σ (i+1)) (σ i))
  (F2: ∀i o,i<N→l[i]? =some o→BB o.op=true→σ (i+1)=(σ i).put o.dst (val i)∧ ∀st':St,st'.heap=(σ i).heap→(∀t∈o.looksAt l.toArray,lk st'.env t=lk (σ i).env t)→BR P T n l.toArray o (fun s=>s=st'.put o.dst (val i)) st')
  (hQ:(N=l.length∧ ∀a w,G n B w0 (σ N) a w→Q .normal a w)∨(l.length=N+1∧ ∃oN,l[N]? =some oN∧(∀i,i<N→(ms.getD N 0).testBit i=true)∧SO P n B w0 l.toArray oN (fun s=> ∀a w,G n B w0 s a w→Q .normal a w) (σ N))):
  ∀(fuel:Nat) (listed:Array Bool) (a:Act) (w:World),listed.size=l.length→
   (∀j o,l[j]? =some o→listed.getD j false=true→ ∀e∈o.after,Region.binds .any e=true→listed.getD e.on false=true)→
   (List.range l.length).countP (fun i=> !listed.getD i false)≤fuel→
   (∃k,k≤N∧listed.getD N false=false∧(∀i,i<k→listed.getD i false=true)∧(∀i,k≤i→listed.getD i false=true→ ∀m o,k≤m→m≤i→l[m]? =some o→BB o.op=true)∧
    G n B w0 ⟨BV (σ k).env l val (fun i=>listed.getD i false) k (l.length - k),(σ k).heap⟩ a w)→
   wpAnyIn (fo w0) 0 P .any l.toArray Q fuel listed a w:=by
 intro fuel
 have seg: ∀k j,k≤j→(∀m o,k≤m→m<j→l[m]? =some o→BB o.op=true)→j≤N→(σ j).heap=(σ k).heap:=by
  intro k j ec hq N5;induction j with
  |zero=>
    have:k=0:=Zo
    subst this;rfl
  |succ j ih=>
   by_cases e:k=j+1
   ·rw[e]
   ·have hj:j<l.length:=Zo
    have ho:l[j]? =some l[j]:=Zeg hj;rw[(F2 j _ Zo ho (hq j _ Zo Zo ho)).1];have:=ih Zo (fun m o h1 h2=>hq m o h1 Zo) Zo;rw[←this];cases (l[j]).dst<;>rfl
 have segE: ∀k j,j≤N→(∀m o,k≤m→m<j→l[m]? =some o→BB o.op=true)→ ∀i o,k≤i→i<j→l[i]? =some o→(σ (i+1)).env=((σ i).put o.dst (val i)).env:=fun k j zN hq i o h1 h2 ho=>by
  rw[(F2 i o Zo ho (hq i o h1 h2 ho)).1]
 have done: ∀(listed:Array Bool) (a:Act) (w:World),(∀i,i<l.length→listed.getD i false=true)→(∃k,k≤N∧listed.getD N false=false∧(∀i,i<k→listed.getD i false=true)∧(∀i,k≤i→listed.getD i false=true→ ∀m o,k≤m→m≤i→l[m]? =some o→BB o.op=true)∧
    G n B w0 ⟨BV (σ k).env l val (fun i=>listed.getD i false) k (l.length - k),(σ k).heap⟩ a w)→Q .normal a w:=by
  rintro listed a w uT ⟨k,hk,wa,_,hq,hG⟩;rcases hQ with ⟨e,hQ⟩|⟨e,_⟩
  ·have M8: ∀m o,k≤m→m<N→l[m]? =some o→BB o.op=true:=fun m o h1 h2 ho=>hq m h1 (uT m Zo) m o h1 (Nat.le_refl _) ho;have hE:=GI (l:=l) (val:=val) (L:=fun i=>listed.getD i false) (k:=k) σ N rfl (segE k N (Nat.le_refl _) M8) Zo (fun i _ h2=>uT i Zo) (l.length - k) Zo;refine hQ a w (hG.congr (fun s=>?_) ?_)
   ·show lk (σ N).env s=lk (BV _ _ _ _ _ _) s;rw[hE,show k+(l.length - k)=N from by omega]
   ·exact seg k N hk M8 (Nat.le_refl _)
  ·have:=uT N Zo;rw[wa]at this;cases this
 have noready: ∀(listed:Array Bool),listed.size=l.length→(∀i,i<l.length→listed.getD i false=true)→Region.ready .any l.toArray listed= []:=by
  intro listed hs BU;apply List.eq_nil_iff_forall_not_mem.2;intro i hi;simp only[Region.ready,List.mem_filter,List.mem_range,Zba]at hi;have MA:i<l.length:=by simpa using hi.1
  have:=hi.2.1;have h1:i<listed.size:=Zo
  have h2:=BU i MA;simp[h1]at this h2;rw[this]at h2;cases h2
 have getD_true: ∀(listed:Array Bool) (j:Nat),listed.size=l.length→j<l.length→listed.getD j true=listed.getD j false:=fun listed j hs hj=>by
  have:j<listed.size:=Zo
  simp[this]
 have notready: ∀(listed:Array Bool),listed.size=l.length→Region.ready .any l.toArray listed= []→ ∀i,i<l.length→listed.getD i false=true:=by
  intro listed hs hr
  have key: ∀m i,i<m→i<l.length→listed.getD i false=true:=by
   intro m;induction m with
   |zero=>intro i h;omega
   |succ m ih=>
    intro i hm hi;cases hL:listed.getD i false with
    |true=>rfl
    |false=>
     exfalso;have ho:l[i]? =some l[i]:=Zeg hi
     have:i∈Region.ready .any l.toArray listed:=by
      simp only[Region.ready,List.mem_filter,List.mem_range,Zba];refine⟨by simpa using hi,by rw[getD_true listed i hs hi,hL];rfl,?_⟩;simp only[List.getElem?_toArray,ho,Option.map_some,Option.getD_some];rw[Array.all_eq_true_iff_forall_mem];intro e he;cases hb:Region.binds .any e with
      |false=>rfl
      |true=>
       have Ak:=hD.lt i _ ho e he hb;rw[ih e.on Zo Zo];rfl
     rw[hr]at this;cases this
  exact fun i hi=>key (i+1) i Zo hi
 induction fuel with
 |zero=>
  intro listed a w hs XV tP hinv
  have BU: ∀i,i<l.length→listed.getD i false=true:=by
   intro i hi;have h0:(List.range l.length).countP (fun i=> !listed.getD i false)=0:=Zo
   rw[List.countP_eq_zero]at h0;have:=h0 i (by simpa using hi);simpa using this
  refine⟨?_,done listed a w BU hinv⟩;apply List.eq_nil_iff_forall_not_mem.2;intro i hi;simp only[Region.ready,List.mem_filter,List.mem_range,Zba]at hi;have MA:i<l.length:=by simpa using hi.1
  have:=hi.2.1;rw[getD_true listed i hs MA,BU i MA]at this;cases this
 |succ fuel ih=>
  intro listed a w hs XV tP hinv;refine⟨fun hr=>done listed a w (notready listed hs hr) hinv,fun j hj=>?_⟩;simp only[Region.ready,List.mem_filter,List.mem_range,Zba]at hj;obtain⟨N5,wc,NB⟩:=hj;have N5:j<l.length:=by simpa using N5
  have VI:listed.getD j false=false:=by rw[getD_true listed j hs N5]at wc;simpa using wc
  have ho:l[j]? =some l[j]:=Zeg N5
  have U0: ∀e∈(l[j]).after,Region.binds .any e=true→listed.getD e.on false=true:=by
   simp only[List.getElem?_toArray,ho,Option.map_some,Option.getD_some]at NB;rw[Array.all_eq_true_iff_forall_mem]at NB;intro e he hb;have:=NB e he;simpa[hb]using this
  have HR:=KF hD XV (j+1) j Zo _ ho U0
  have MB: ∀i oi,j<i→l[i]? =some oi→LH l.toArray l[j] oi=true→listed.getD i false=false:=by
   intro i oi tQ D8 hc;cases hL:listed.getD i false with
   |false=>rfl
   |true=>
    have:=KF hD XV (i+1) i Zo _ D8 (XV i oi D8 hL) j (hD.LH j i _ _ tQ ho D8 hc);rw[VI]at this;cases this
  have K9: ∀i oi,i<j→l[i]? =some oi→LH l.toArray oi l[j]=true→listed.getD i false=true:=fun i oi eZ D8 hc=>HR i (hD.LH i j _ _ eZ D8 ho hc);obtain⟨k,hk,wa,SC,Zz7,hG⟩:=hinv
  have ec:k≤j:=by
   rcases Nat.lt_or_ge j k with h|h
   ·rw[SC j h]at VI;cases VI
   ·exact h
  have hM: ∀i,(listed.setIfInBounds j true).getD i false=(listed.getD i false||i==j):=by
   intro i;by_cases e:j=i
   ·subst e;have:j<listed.size:=Zo
    simp[this]
   ·have:(i==j)=false:=by simp;omega
    rw[this,Bool.or_false];simp[Zag,Array.getElem?_setIfInBounds_ne e]
  have uU:(listed.setIfInBounds j true).size=l.length:=by simp[hs]
  have kl: ∀i o,l[i]? =some o→(listed.setIfInBounds j true).getD i false=true→ ∀e∈o.after,Region.binds .any e=true→(listed.setIfInBounds j true).getD e.on false=true:=by
   intro i o D8 hL e he hb;rw[hM]at hL ⊢;rcases Bool.or_eq_true_iff.1 hL with hL|hL
   ·rw[XV i o D8 hL e he hb];rfl
   ·have:i=j:=by simpa using hL
    subst this;rw[ho]at D8;injection D8 with D8;subst D8
    rw[U0 e he hb];rfl
  have XW:(List.range l.length).countP (fun i=> !(listed.setIfInBounds j true).getD i false)≤fuel:=by
   have:(List.range l.length).countP (fun i=> !(listed.setIfInBounds j true).getD i false)<(List.range l.length).countP (fun i=> !listed.getD i false):=by
    refine NJ (fun i _ h=>?_) ⟨j,by simpa using N5,by rw[VI];rfl,by rw[hM];simp⟩;rw[hM]at h;cases h1:listed.getD i false<;>simp_all
   omega
  have wh: ∀(st:St) (K:St→Prop),G n B w0 st a w→BR P T n l.toArray l[j] K st→(∀st' a' w',K st'→G n B w0 st' a' w'→wpAnyIn (fo w0) 0 P .any l.toArray Q fuel (listed.setIfInBounds j true) a' w')→wpOpIn (fo w0) 0 P l.toArray Q j (wpAnyIn (fo w0) 0 P .any l.toArray Q fuel (listed.setIfInBounds j true)) a w:=by
   rintro st K ⟨ρ,I,hg⟩ BE XX;have:=VV hT hg BE (wpAnyIn (fo w0) 0 P .any l.toArray Q fuel (listed.setIfInBounds j true)) Q XX;unfold wpOpIn;simp only[List.getElem?_toArray,ho];exact qZ (fun _=>VW BE) this
  by_cases zN:j=N
  ·rcases hQ with ⟨e,_⟩|⟨e,oN,yJ,BU,hQ⟩
   ·omega
   ·have hb: ∀i,i<j→listed.getD i false=true:=fun i hi=>HR i (by rw[zN];exact BU i Zo)
    have ha: ∀i,j<i→listed.getD i false=false:=fun i hi=>by
     simp[Zag,Array.getElem?_eq_none (show listed.size≤i by omega)]
    have M9: ∀m o,k≤m→m<j→l[m]? =some o→BB o.op=true:=fun m o h1 h2 ee=>Zz7 m h1 (hb m h2) m o h1 (Nat.le_refl _) ee;have RN:(σ j).heap=(σ k).heap:=seg k j ec M9 Zo
    have e2:=Dx (E:=(σ k).env) (l:=l) (val:=val) (L:=fun i=>listed.getD i false) (k:=k) (j - k) (fun i hi=>by
     rcases Nat.lt_or_ge j i with h|h
     ·exact ha i h
     ·have:i=j:=Zo
      subst this;exact VI) (l.length - k) Zo
    have e3:=GI (l:=l) (val:=val) (L:=fun i=>listed.getD i false) (k:=k) σ j rfl (segE k j Zo M9) Zo (fun i _ h2=>hb i h2) (j - k) Zo
    have zO:G n B w0 (σ j) a w:=hG.congr (fun s=>by
     show lk (σ j).env s=lk (BV _ _ _ _ _ _) s;rw[e2,e3,show k+(j - k)=j from by omega]) RN
    subst zN;rw[ho]at yJ;injection yJ with yJ;subst yJ
    obtain⟨ρ,I,hg⟩:=zO;have hs:=hQ a w ρ I hg (wpAnyIn (fo w0) 0 P .any l.toArray Q fuel (listed.setIfInBounds j true)) Q (fun st' a' w' hK Cj=>?_)
    ·unfold wpOpIn;simp only[List.getElem?_toArray,ho];exact hs
    ·have hr:=noready (listed.setIfInBounds j true) uU (fun i hi=>by
      rw[hM];rcases Nat.lt_or_ge i j with h|h
      ·rw[hb i h];rfl
      ·have:i=j:=Zo
       subst this;simp)
     cases fuel with
     |zero=>exact⟨hr,hK a' w' Cj⟩
     |succ fuel=>exact⟨fun _=>hK a' w' Cj,fun m hm=>by rw[hr]at hm;cases hm⟩
  by_cases hq:BB (l[j]).op=true
  ·
   have M9: ∀m o,k≤m→m≤j→l[m]? =some o→BB o.op=true:=by
    intro m o h1 h2 ee;by_cases e:m=j
    ·subst e;rw[ho]at ee;injection ee with ee;subst ee;exact hq
    ·cases hqm:BB o.op with
     |true=>rfl
     |false=>
      have hL:=K9 m o Zo ee (by simp[LH,hqm]);have:=Zz7 m h1 hL m o h1 (Nat.le_refl _) ee;rw[hqm]at this;cases this
   obtain⟨_,MD⟩:=F2 j _ Zo ho hq;have RN:(σ j).heap=(σ k).heap:=seg k j ec (fun m o h1 h2=>M9 m o h1 Zo) Zo
   have bN: ∀t∈(l[j]).looksAt l.toArray,lk (BV (σ k).env l val (fun i=>listed.getD i false) k (l.length - k)) t=lk (σ j).env t:=by
    intro t ht
    have e1:=KE (E:=(σ k).env) (l:=l) (val:=val) (L:=fun i=>listed.getD i false) (M:=fun i=>decide (i<j)) (k:=k) t (l.length - k) (fun i h1 h2 hd=>by
     have MA:i<l.length:=Zo
     have D8:l[i]? =some l[i]:=Zeg MA;rw[D8]at hd;simp only[Option.bind_some]at hd;rcases Nat.lt_trichotomy i j with h|h|h
     ·rw[K9 i _ h D8 (by simp[LH,hd,ht])];simp[h]
     ·subst h;rw[VI];simp
     ·rw[MB i _ h D8 (by simp[LH,hd,ht])];simp;omega)
    rw[e1];have e2:=Dx (E:=(σ k).env) (l:=l) (val:=val) (L:=fun i=>decide (i<j)) (k:=k) (j - k) (fun i hi=>by simp;omega) (l.length - k) Zo;have e3:=GI (l:=l) (val:=val) (L:=fun i=>decide (i<j)) (k:=k) σ j rfl (segE k j Zo (fun m o h1 h2=>M9 m o h1 Zo)) Zo (fun i _ h2=>by simp[h2]) (j - k) Zo;rw[e2,e3,show k+(j - k)=j from by omega]
   have BE:=MD ⟨BV (σ k).env l val (fun i=>listed.getD i false) k (l.length - k),(σ k).heap⟩ RN.symm bN;refine wh _ _ hG BE ?_;rintro st' a' w' rfl Cj;refine ih _ a' w' uU kl XW ⟨k,hk,by rw[hM,wa];simp;omega,fun i hi=>by rw[hM,SC i hi];rfl,fun i hi hL m o h1 h2 ee=>?_,?_⟩
   ·rw[hM]at hL;rcases Bool.or_eq_true_iff.1 hL with hL|hL
    ·exact Zz7 i hi hL m o h1 h2 ee
    ·have:i=j:=by simpa using hL
     subst this;exact M9 m o h1 h2 ee
   ·refine Cj.congr (fun s=>?_) (by cases (l[j]).dst<;>rfl);cases hd:(l[j]).dst with
    |none=>
     have e:=Le (E:=(σ k).env) (l:=l) (val:=val) (L:=fun i=>listed.getD i false) (M:=fun i=>(listed.setIfInBounds j true).getD i false) (k:=k) j (by rw[ho];exact hd) hM (l.length - k);show lk (BV _ _ _ _ _ _) s=lk (BV _ _ _ _ _ _) s;rw[e]
    |some d=>
     have e:=NK (E:=(σ k).env) (l:=l) (val:=val) (L:=fun i=>listed.getD i false) (M:=fun i=>(listed.setIfInBounds j true).getD i false) (k:=k) j d ec (by rw[ho];exact hd) VI hM (fun i tQ hL ME=>by
      have MA:i<l.length:=by
       rcases Nat.lt_or_ge i l.length with h|h
       ·exact h
       ·rw[List.getElem?_eq_none h]at ME;cases ME
      have D8:l[i]? =some l[i]:=Zeg MA;rw[D8]at ME;simp only[Option.bind_some]at ME;have:=MB i _ tQ D8 (by simp[LH,hd,ME]);rw[this]at hL;cases hL) s (l.length - k)
     show lk (BV _ _ _ _ _ _) s=lk ((d,val j)::BV _ _ _ _ _ _) s;rw[e];simp only[lk];by_cases N4:d=s
     ·rw[if_pos ⟨Zo,N4⟩,if_pos N4]
     ·rw[if_neg (fun hh=>N4 hh.2),if_neg N4]
  ·
   have M8:BB (l[j]).op=false:=by simpa using hq
   have hb: ∀i,i<j→listed.getD i false=true:=fun i hi=>K9 i _ hi (Zeg Zo) (by simp[LH,M8])
   have ha: ∀i,j<i→listed.getD i false=false:=fun i hi=>by
    rcases Nat.lt_or_ge i l.length with h|h
    ·exact MB i _ hi (Zeg h) (by simp[LH,M8])
    ·simp[Zag,Array.getElem?_eq_none (show listed.size≤i by omega)]
   have M9: ∀m o,k≤m→m<j→l[m]? =some o→BB o.op=true:=fun m o h1 h2 ee=>Zz7 m h1 (hb m h2) m o h1 (Nat.le_refl _) ee;have RN:(σ j).heap=(σ k).heap:=seg k j ec M9 Zo
   have e2:=Dx (E:=(σ k).env) (l:=l) (val:=val) (L:=fun i=>listed.getD i false) (k:=k) (j - k) (fun i hi=>by
    rcases Nat.lt_or_ge j i with h|h
    ·exact ha i h
    ·have:i=j:=Zo
     subst this;exact VI) (l.length - k) Zo
   have e3:=GI (l:=l) (val:=val) (L:=fun i=>listed.getD i false) (k:=k) σ j rfl (segE k j Zo M9) Zo (fun i _ h2=>hb i h2) (j - k) Zo
   have zO:G n B w0 (σ j) a w:=hG.congr (fun s=>by
    show lk (σ j).env s=lk (BV _ _ _ _ _ _) s;rw[e2,e3,show k+(j - k)=j from by omega]) RN
   refine wh _ _ zO (hσ j _ Zo ho) ?_;rintro st' a' w' rfl Cj
   have RM: ∀i,j+1≤i→(listed.setIfInBounds j true).getD i false=false:=fun i hi=>by
    rw[hM,ha i Zo];simp;omega
   refine ih _ a' w' uU kl XW ⟨j+1,Zo,RM N Zo,fun i hi=>?_,(fun i hi hL=>by rw[RM i hi]at hL;cases hL),Cj.congr (fun s=>?_) rfl⟩
   ·rw[hM];rcases Nat.lt_or_ge i j with h|h
    ·rw[hb i h];rfl
    ·have:i=j:=Zo
     subst this;simp
   ·have e4:=Dx (E:=(σ (j+1)).env) (l:=l) (val:=val) (L:=fun i=>(listed.setIfInBounds j true).getD i false) (k:=j+1) 0 (fun i hi=>RM i Zo) (l.length - (j+1)) (Nat.zero_le _);show lk (BV _ _ _ _ _ _) s=_;rw[e4];rfl
end
theorem VZ{P:Program}{T:BT}(hT:T.ok P){n B:Nat}{w0:AT}{Q:Exit→St→Prop}{st:St}{id:Nat}{l:List Oper}(hm:P.follows .mixedOrders=true)(hD:Ii l (Region.before l.toArray).toList=true)
  (h:A8 P T n l.toArray (fun st'=>Q .normal st') l st):BY P n B w0 (.region id l.toArray true) Q st:=by
 intro a w hG;have ZS:=N9 hD;obtain⟨σ,s0,sN,sS⟩:=Py l st h
 have F2: ∃val:Nat→AV,∀i o,l[i]? =some o→BB o.op=true→σ (i+1)=(σ i).put o.dst (val i)∧ ∀st':St,st'.heap=(σ i).heap→(∀t∈o.looksAt l.toArray,lk st'.env t=lk (σ i).env t)→BR P T n l.toArray o (fun s=>s=st'.put o.dst (val i)) st':=by
  have hex: ∀i,∃v,∀o,l[i]? =some o→BB o.op=true→σ (i+1)=(σ i).put o.dst v∧ ∀st':St,st'.heap=(σ i).heap→(∀t∈o.looksAt l.toArray,lk st'.env t=lk (σ i).env t)→BR P T n l.toArray o (fun s=>s=st'.put o.dst v) st':=by
   intro i;cases ho:l[i]? with
   |none=>exact⟨.top,fun o h=>by cases h⟩
   |some o=>
    by_cases hq:BB o.op=true
    ·obtain⟨r,h1,h2⟩:=JW hq (sS i o ho);exact⟨r,fun o' h' _=>by injection h' with h';subst h';exact⟨h1.symm,h2⟩⟩
    ·exact⟨.top,fun o' h' M8=>by injection h' with h';subst h';exact absurd M8 hq⟩
  exact⟨fun i=>Classical.choose (hex i),fun i=>Classical.choose_spec (hex i)⟩
 obtain⟨val,hv⟩:=F2;refine wpIn_region_any hm ?_
 have Cj:G n B w0 st a {w with drawn:=w.drawn+1}:=by
  obtain⟨ρ,I,hg⟩:=hG;exact⟨ρ,I,hg.quiet ⟨⟨rfl,rfl,rfl,Nat.le_refl _,fun _ _=>rfl⟩,fun _ h=>h,fun _ h h'=>absurd h h',hg.hw.lt⟩⟩
 have GP: ∀i,(Array.replicate l.toArray.size false).getD i false=false:=fun i=>by
  by_cases hi:i<l.length<;>simp[Zag,hi]
 refine Zp hT ZS l.length ⟨Nat.le_refl _,Zo⟩ σ val (fun i o _ ho=>sS i o ho) (fun i o _ ho=>hv i o ho) (.inl ⟨rfl,fun a w hg=>⟨_,sN,hg⟩⟩) _ _ a _ (by simp) (fun j o _ hL=>by rw[GP]at hL;cases hL) ?_ ⟨0,Nat.zero_le _,GP _,(fun i hi=>by omega),(fun i _ hL=>by rw[GP]at hL;cases hL),?_⟩
 ·have:=List.countP_le_length (p:=fun i=> !(Array.replicate l.toArray.size false).getD i false) (l:=List.range l.length);simpa using this
 ·refine Cj.congr (fun s=>?_) (by rw[s0]);have e:=Dx (E:=(σ 0).env) (l:=l) (val:=val) (L:=fun i=>(Array.replicate l.toArray.size false).getD i false) (k:=0) 0 (fun i _=>GP i) (l.length - 0) (Nat.zero_le _);show lk (BV _ _ _ _ _ _) s=_;rw[e];show lk (σ 0).env s=_;rw[s0]
theorem gM{P:Program}{T:BT}(hT:T.ok P)(hm:P.follows .mixedOrders=true){n B:Nat}{w0:AT}{Q:Exit→St→Prop}{st:St}{id:Nat}{l:List Oper}{y:Code}(hD:Ii l (Region.before l.toArray).toList=true)
  (h: ∀K:St→Prop,(∀s,BY P n B w0 y Q s→K s)→A8 P T n l.toArray K l st):BY P n B w0 (.seq (.region id l.toArray true) y) Q st:=
 CR (VZ hT hm hD (h _ fun _ h=>h))
theorem uw{P:Program}{T:BT}(hT:T.ok P)(hm:P.follows .mixedOrders=true){n B:Nat}{w0:AT}{Q:Exit→St→Prop}{st:St}{id:Nat}{l:List Oper}(hD:Ii l (Region.before l.toArray).toList=true)
  (h: ∀K:St→Prop,(∀s,Q .normal s→K s)→A8 P T n l.toArray K l st):BY P n B w0 (.region id l.toArray true) Q st:=VZ hT hm hD (h _ fun _ h=>h)
theorem wrap64{n:Int}(h1: -9223372036854775808≤n)(h2:n≤9223372036854775807):IntKind.i64.wrap n=n:=by rw[IntKind.wrap_i64];omega
theorem l7(b x:Bool):(bif b then x else false)=(b&&x):=by cases b<;>rfl
theorem qc(b x:Bool):(bif b then true else x)=(b||x):=by cases b<;>rfl
theorem gN(b x:Bool):(bif b then false else x)=(!b&&x):=by cases b<;>rfl
theorem G.Th{n B:Nat}{w0:AT}{st:St}{a:Act}{w:World}(hG:G n B w0 st a w)(s d:Nat)(hs:lk st.env s=.v (.slice none 0 0))(km:s<n)(e:TypeId)(sz:Nat)(c:AH)(hc:c.len=0)(fU:d<n:=by decide):
  G n B w0 ⟨(s,.s d)::CM d st.env,(d,.row e sz c)::AJ d st.heap⟩ a w:=by
 obtain⟨ρ,I,hg⟩:=hG
 have hv:a.tmps.getD s undef=.slice none 0 0:=by
  have:=hg.env s;rw[hs]at this;exact this.Ao
 have h1:=hg.new (Below.refl _ w) d (.slice none 0 0) (.row e sz c) ⟨0,[],World.ownsRow_nil w B e sz,by simp[hc],fun j u hu=>by simp at hu⟩ (fun b hb=>by simp[Ab]at hb) (hg.BQ.JQ d fU);have h2:=h1.put (d:=some s) (x:=.s d) (u:=.slice none 0 0) (fun k hk=>by injection hk with hk;omega) (.s d _ (B4 _ _ _) rfl);refine⟨_,I,h2.defers,h1.size,fun t=>?_,h2.hw,h2.below,h2.base,h2.BQ⟩;have h3:=h2.env t
 have:(a.put (some s) (.slice none 0 0)).tmps.getD t undef=a.tmps.getD t undef:=by
  simp only[Act.put];by_cases e:s=t
  ·subst e;rw[hv];have:s<a.tmps.size:=by rw[hg.size];exact km
   simp[Zag,this]
  ·simp[Zag,Array.getElem?_setIfInBounds_ne e]
 rw[this]at h3;exact h3
def Sub(x y:AV):Prop:= ∀(B:Nat) (I:Nat→Prop) (w:World) (u:Value),AL B I w DW x u→AL B I w DW y u
theorem Sub.refl(x:AV):Sub x x:=fun _ _ _ _ h=>h
def bo:List AV→List AV→Prop
 | [],[]=>True
 |x::r,y::s=>Sub x y∧bo r s
 |_,_=>False
theorem bo.spec: ∀ {xs ys:List AV},bo xs ys→ys.length=xs.length∧ ∀j,Sub (xs.getD j .top) (ys.getD j .top)
 | [],[],_=>⟨rfl,fun _=>Sub.refl _⟩
 |x::r,y::s,h=>by
  obtain⟨h1,h2⟩:=bo.spec h.2;refine⟨by simp[h1],fun j=>?_⟩;cases j with
  |zero=>simpa using h.1
  |succ j=>simpa using h2 j
 | [],_::_,h=>h.elim
 |_::_,[],h=>h.elim
theorem Pure.sub{P:Program}{f:FuncId}{xs ys:List AV}{r:AV}(h:Pure P f ys r)(hs:bo xs ys):Pure P f xs r:=by
 obtain⟨h1,h2⟩:=hs.spec;exact⟨h.1,fun w I vs wY hI hc=>h.2 w I vs wY hI ⟨by rw[hc.1,h1],fun j hj=>h2 j _ _ _ _ (hc.2 j (by rw[←h1];exact hj))⟩⟩
abbrev AE(n:Int):AV:=.v (.int .i64 n)
abbrev BL(b:Bool):AV:=.v (.bool b)
abbrev ints(l:List Int):AV:=.i false (fun e _=>.v (.int .i64 (l.getD e 0))) 1 0 l.length
theorem bp{fr:Bool}{c c':Nat→Nat→AV}{sz off off' len len':Nat}(hl:len=len')(h: ∀e j,e<len→j<sz→c (off+e) j=c' (off'+e) j):Sub (.i fr c sz off len) (.i fr c' sz off' len'):=by
 subst hl;intro B I w u hu;cases hu with
 |i _ _ _ _ _ cap A uu BW hA hc=>exact .i _ _ _ _ _ cap A uu BW hA (fun e j he hj=>by rw[←h e j he hj];exact hc e j he hj)
end Go.Ad
namespace Go.Ad
end Go.Ad
namespace Go.Ad
open Go.RowKit
theorem yl{n:Int}(h:(Lit.int .i64 n).wf=true): -9223372036854775808≤n∧n≤9223372036854775807:=by
 simp only[Lit.wf,Zba,Zdt]at h;have h1:IntKind.i64.min= -9223372036854775808:=Zd
 have h2:IntKind.i64.max=9223372036854775807:=Zd
 omega
theorem At.cons{B:Nat}{I:Nat→Prop}{w:World}{ρ:Nat→Option Value}{x:AV}{u:Value}{cs:List AV}{us:List Value}(h:AL B I w ρ x u)(hl:At B I w ρ cs us):At B I w ρ (x::cs) (u::us):=by
 refine⟨by simp[hl.1],fun j hj=>?_⟩;cases j with
 |zero=>simpa using h
 |succ j=>simpa using hl.2 j (by simpa using hj)
theorem At.nil{B:Nat}{I:Nat→Prop}{w:World}{ρ:Nat→Option Value}:At B I w ρ [] []:=⟨rfl,fun j hj=>by simp at hj⟩
theorem Pure.walk{P:Program}{f:FuncId}{args:List AV}{b:Value}(h:Pure P f args (.v b)){vs:Array Value}{w:World}(hg:Xt (G4 w) w)(hc:At w.heap.size (G4 w) w DW args vs.toList):
  Calls P f vs w fun e w'=>e=.returned b∧Below w.heap.size w w':=
 (h.2 w (G4 w) vs hg (fun _ h=>h) hc).mono fun e w' ⟨v,he,hb,hv⟩=>⟨by rw[he,hv.Ao],hb⟩
attribute [push_cast] A8 BR As EG AV.ly pv HZ Cu IE Oq Km Zi lr Tc GQ LP Zj Zz2 Kn Ot Zl Ou Zg Zh GF AV.strip AV.cond qb A6 EX MJ al lk Af St.ev HX St.put TK.agg CC AN.cont AH.at AH.len AH.lQ AH.Rb AH.SK cellsOf AV.one LB Ih AV.F5 AV.Dp CM AJ AV.kill AV.CV AN.kill AH.kill Dh Iz SM KD J9 setFrom Lc EZ AV.fresh AV.Ie Nat.mul_one Nat.one_mul Nat.div_one Nat.zero_add Nat.add_zero Nat.mul_zero Nat.zero_mul Nat.sub_zero true_and and_true and_self if_true if_false Bool.false_eq_true List.map_cons List.map_nil List.getElem?_toArray List.getElem?_cons_succ List.getElem?_cons_zero List.getD_cons_zero List.getD_cons_succ Option.bind_some Option.map_some Option.map_none List.length_cons List.length_nil List.size_toArray cond_true cond_false ne_eq Nat.zero_lt_one Nat.lt_add_one implies_true false_implies true_implies Bool.and_true Bool.true_and Bool.true_or Bool.or_true Bool.false_or Bool.or_false Bool.not_true Bool.not_false Bool.and_self List.cons_append List.nil_append List.set_cons_zero List.set_cons_succ Value.cells forall_const Nat.lt_irrefl not_true_eq_false not_false_eq_true List.append_nil List.drop_zero eq_self Bool.and_false Bool.false_and and_false false_and l7 qc gN AE BL ints
section
variable(fl:Bool)(H:List (Nat×AN))(n:Nat)
theorem uz(y:Value):AV.IA fl H (n+1) (.v y)=.v y:=rfl
theorem u4(id:Nat):AV.IA fl H (n+1) (.s id)=(match Af H id with
   |some (.row _ sz (.ints k l))=>if sz=1 then .i fl (fun e _=>.v (.int k (l.getD e 0))) 1 0 l.length else .top
   |some (.row _ sz (.BJ l))=>if 0<sz then .i fl (fun e j=>.v (l.getD (e*sz+j) undef)) sz 0 (l.length / sz)else .top
   |some (.row _ sz (.AF l))=>if 0<sz then .i fl (fun e j=>AV.IA fl H n (l.getD (e*sz+j) .top)) sz 0 (l.length / sz)else .top
   |some (.FD _ c)=>.i fl (fun e _=>AV.IA fl H n (c.at e)) 1 0 c.len
   |_=>.top):=rfl
theorem u6(id off len:Nat):AV.IA fl H (n+1) (.w id off len)=(match Af H id with
   |some (.row _ sz (.ints k l))=>if sz=1∧off+len≤l.length then .i fl (fun e _=>.v (.int k (l.getD e 0))) 1 off len else .top
   |_=>.top):=rfl
theorem u7(id off:Nat):AV.IA fl H (n+1) (.p id off)=(match Af H id with
   |some blk=>.q fl (fun _ j=>AV.IA fl H n (blk.cont.at j)) blk.cont.len 0 off
   |none=>.top):=rfl
theorem vA(fr:Bool)(c:Nat→Nat→AV)(sz off len:Nat):AV.IA fl H (n+1) (.i fr c sz off len)=.i (fr&&fl) (cu fl c) sz off len:=rfl
theorem vB(fr:Bool)(c:Nat→Nat→AV)(sz e j:Nat):AV.IA fl H (n+1) (.q fr c sz e j)=.q (fr&&fl) (cu fl c) sz e j:=rfl
theorem vC(cs:List AV):AV.IA fl H (n+1) (.a cs)=.a (cs.map (AV.IA fl H n)):=rfl
theorem vD(cs:List AV):AV.IA fl H (n+1) (.t cs)=.t (cs.map (AV.IA fl H n)):=rfl
theorem vE(fn:Fn)(cs:List AV):AV.IA fl H (n+1) (.f fn cs)=.f fn (cs.map (AV.IA fl H n)):=rfl
theorem vF(b:Bool)(y:AV):AV.IA fl H (n+1) (.g b y)=.g b (AV.IA fl H n y):=rfl
theorem l8:AV.IA fl H (n+1) .top=.top:=rfl
theorem gO(l:List AV)(j:Nat):AV.IA fl H (n+1) (l.getD j .top)=(l.map (AV.IA fl H (n+1))).getD j .top:=by
 by_cases h:j<l.length
 ·rw[CQ _ _ _ _ _ h]
 ·have e1:l.getD j .top=.top:=by simp[Zlg,List.getElem?_eq_none (show l.length≤j by omega)]
  have e2:(l.map (AV.IA fl H (n+1))).getD j .top=.top:=by simp[Zlg,List.getElem?_eq_none (show l.length≤j by omega)]
  rw[e1,e2];rfl
theorem ym(c:Nat→Nat→AV):cu true c=c:=rfl
theorem yn(c:Nat→Nat→AV):cu false c=fun e j=>(c e j).un:=rfl
theorem gP(x:AV)(l:List AV)(j:Nat):((x::l).getD j .top).un=(AV.un x::AV.VB l).getD j .top:=(GZ (x::l) j).symm
end
attribute [push_cast] AV.un AV.VB ym yn gP
attribute [push_cast] lq uz u4 u6 u7 vA vB vC vD vE vF l8 gO
def Rd(ops:Array Oper):Option (Nat×Bool)→Option (Option (Nat×Bool))
 |none=>some none
 |some (j,want)=>match (ops[j]?).bind (·.dst)with
  |some d=>some (some (d,want))
  |none=>none
def Ha(st:St):Option (Nat×Bool)→Option (Option Bool)
 |none=>some none
 |some (d,want)=>match (lk st.env d).strip with
  | .v (.bool y)=>some (some ((lk st.env d).ly&&(bif want then y else !y)))
  |_=>none
theorem I2{st:St}{ops:Array Oper}{g:Option (Nat×Bool)}{g':Option (Nat×Bool)}(h:Rd ops g=some g'):EG st ops g=Ha st g':=by
 cases g with
 |none=>simp[Rd]at h;subst h;rfl
 |some p=>
  obtain⟨j,want⟩:=p;simp only[Rd]at h;simp only[EG];cases hd:(ops[j]?).bind (·.dst)with
  |none=>rw[hd]at h;cases h
  |some d=>rw[hd]at h;injection h with h;subst h;rfl
def I4(P:Program)(T:BT)(n:Nat)(dst:Option Nat)(op:Op)(g:Option (Nat×Bool))(K:St→Prop)(st:St):Prop:=
 As n dst∧
 match Ha st g with
 |none=>False
 |some none=>
  match pv T st.heap st.ev op with
  |some (φ,r)=>φ∧K (st.put dst r)
  |none=>
   match qb T st.ev op with
   |some (φ,r)=>φ∧K (st.put dst r)
   |none=>
    match A6 st.ev op with
    |some (ψ,k,args)=>(ψ∧EX args)∧ ∃r,(Pure P k (MJ st.heap args) r∧uq args r)∧K (st.put dst r)
    |none=>al T st ⟨dst,op,0,"",#[],none⟩ K
 |some (some b)=>
  match pv T st.heap st.ev op with
  |some (φ,r)=>(b=true→φ)∧K (st.put dst (.g b r))
  |none=>
   match qb T st.ev op with
   |some (φ,r)=>(b=true→φ)∧K (st.put dst (.g b r))
   |none=>
    match A6 st.ev op with
    |some (ψ,k,args)=> ∃r,(b=true→(ψ∧EX args)∧Pure P k (MJ st.heap args) r∧uq args r)∧K (st.put dst (.g b r))
    |none=>False
theorem Fl{P:Program}{T:BT}{n:Nat}{ops:Array Oper}{o:Oper}{g:Option (Nat×Bool)}(hg:Rd ops o.guard=some g){K:St→Prop}{st:St}(h:I4 P T n o.dst o.op g K st):BR P T n ops o K st:=by
 unfold BR;rw[I2 hg];exact h
theorem Bk{P:Program}{T:BT}{n:Nat}{ops:Array Oper}{K:St→Prop}{st:St}(h:K st):A8 P T n ops K [] st:=h
theorem SP{P:Program}{T:BT}{n:Nat}{ops:Array Oper}{K:St→Prop}{o:Oper}{rest:List Oper}{st:St}{g:Option (Nat×Bool)}(hg:Rd ops o.guard=some g)(h: ∀K':St→Prop,(∀s,A8 P T n ops K rest s→K' s)→I4 P T n o.dst o.op g K' st):A8 P T n ops K (o::rest) st:=
 Fl hg (h _ fun _ h=>h)
attribute [push_cast] I4 Ha beq_self_eq_true bne_self_eq_false List.replicate_zero
end Go.Ad
