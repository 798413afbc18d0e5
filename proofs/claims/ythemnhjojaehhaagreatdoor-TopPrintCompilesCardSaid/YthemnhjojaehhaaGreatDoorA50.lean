/- Part of a proof. -/
import Derived.Test.YthemnhjojaehhaaGreatDoorA24
import Derived.Test.YthemnhjojaehhaaGreatDoorA35
set_option linter.all false
namespace Go.Proofs.YthemnhjojaehhaaGreatDoor
open Go.Ad Go.Proofs Go.Tp
attribute [local irreducible] A8 AK BY Go.Ad.Pure BS
theorem bE(s:ByteArray)(h3:s.size=3)(Pf: ∀i,i<3→lS (DC s i)=true):Pure Tryz.prog 101 [An s] (BL true):=by
 refine PO 23 [.tmp 2] hT Tryz.func101 Tryz.ntmps101 fun B w0=>?_;have c1:((s.size:Int) != 3)=false:=by rw[h3];rfl
 repeat'(first|exact tT|refine WA tT c1 ?_ ?_|(refine PE ?_;clear hK K)|refine WR fun K hK=>?_|refine PT ?_|refine WC (fun h=>?_) fun h=>?_|exact ff|fail)
 refine AM (α:=Nat) (fun k=>⟨[(0,An s),(8,AE s.size),(9,AE k)],[]⟩) (fun k=>k≤s.size) (fun k=>s.size - k) 0 (Nat.zero_le _) (by exact G.wk ⟨rfl,rfl,rfl,trivial⟩ trivial) fun k hk=>?_;by_cases Ak:k<s.size
 ·have c2:=DT ((k:Int)<(s.size:Int));have hb:DC s k=(s.data.getD k 0).toNat:=rfl;have hu:=O8.1 (Pf k Zo);obtain⟨b,Ol⟩: ∃b,b=DC s k:=⟨_,rfl⟩;rw[←Ol]at hb hu;have d1:=DF ((b:Int)<65);have d2:=DF ((90:Int)<(b:Int));repeat'(first|exact tT|refine WA tT (Y4 c2 hb.symm d1 d2) ?_ ?_|(refine PE ?_;clear hK K)|refine WR fun K hK=>?_|refine PT ?_|refine WC (fun h=>?_) fun h=>?_|exact ff|fail)
  all_goals exact⟨k+1,⟨Zo,Zo⟩,G.wk ⟨rfl,rfl,rfl,trivial⟩ trivial⟩
 ·obtain rfl:k=s.size:=Zo
  have c2:=DF ((s.size:Int)<(s.size:Int));repeat'(first|exact tT|refine WA tT c2 ?_ ?_|(refine PE ?_;clear hK K)|refine WR fun K hK=>?_|refine PT ?_|refine WC (fun h=>?_) fun h=>?_|exact ff|fail)
  all_goals done
def v8(s:ByteArray):Prop:=s=Aa∨s=BH∨(s.size=3∧ ∀i,i<3→lS (DC s i)=true)
theorem RC(s:ByteArray)(h:v8 s):Pure Tryz.prog 68 [An s] (BL true):=by
 refine PO 17 [.tmp 2] hT Tryz.func68 Tryz.ntmps68 fun B w0=>?_;by_cases h1:s=⟨#[116,114,117,116,104]⟩
 ·have d1:decide (s=⟨#[116,114,117,116,104]⟩)=true:=Zde h1;repeat'(first|exact tT|refine WA tT d1 ?_ ?_|(refine PE ?_;clear hK K)|refine WR fun K hK=>?_|refine PT ?_|refine WC (fun h=>?_) fun h=>?_|exact ff|fail)
  all_goals done
 have d1:decide (s=⟨#[116,114,117,116,104]⟩)=false:=Zdf h1;by_cases h2:s=⟨#[110,117,109,98,101,114]⟩
 ·have d2:decide (s=⟨#[110,117,109,98,101,114]⟩)=true:=Zde h2;repeat'(first|exact tT|refine WA tT (Y2 d1 d2) ?_ ?_|(refine PE ?_;clear hK K)|refine WR fun K hK=>?_|refine PT ?_|refine WC (fun h=>?_) fun h=>?_|exact ff|fail)
  all_goals done
 have d2:decide (s=⟨#[110,117,109,98,101,114]⟩)=false:=Zdf h2;by_cases h3:s=⟨#[109,105,110,117,116,101,115]⟩
 ·have d3:decide (s=⟨#[109,105,110,117,116,101,115]⟩)=true:=Zde h3;repeat'(first|exact tT|refine WA tT (Y3 d1 d2 d3) ?_ ?_|(refine PE ?_;clear hK K)|refine WR fun K hK=>?_|refine PT ?_|refine WC (fun h=>?_) fun h=>?_|exact ff|fail)
  all_goals done
 have d3:decide (s=⟨#[109,105,110,117,116,101,115]⟩)=false:=Zdf h3
 have hc:Pure Tryz.prog 101 [An s] (BL true):=by
  rcases h with h|h|h
  ·exact absurd h h1
  ·exact absurd h h3
  ·exact bE s h.1 h.2
 repeat'(first|exact tT|refine WA hc (Y3 d1 d2 d3) ?_ ?_|(refine PE ?_;clear hK K)|refine WR fun K hK=>?_|refine PT ?_|refine WC (fun h=>?_) fun h=>?_|exact ff|fail)
 all_goals done
theorem XI(l:List De)(d:De)(hl:l.length=1)(h0:l.getD 0 default=d)(hs:d.name.size≤9223372036854775807)(hn:Pure Tryz.prog 67 [An d.name] (BL true))(hu:Pure Tryz.prog 68 [An d.u] (BL true))(lo hi:Int)(h1:lo≤d.role)(h2:d.role≤hi):Pure Tryz.prog 33 [Im l,AE lo,AE hi] (BL true):=by
 refine PO 49 [.tmp 6] hT Tryz.func33 Tryz.ntmps33 fun B w0=>?_;have c1:=DF (d.role<lo);have c2:=DF (hi<d.role);repeat'(first|exact tT|refine WA tT tT ?_ ?_|refine WM tT ?_ ?_|(refine PE ?_;clear hK K)|refine WR fun K hK=>?_|refine PT ?_|refine WC (fun h=>?_) fun h=>?_|exact ff|fail)
 refine AM (α:=Nat) (fun k=>⟨[(13,AE k),(12,AE l.length),(11,Im l),(7,.s 10),(1,AE lo),(2,AE hi)],[(10,.mp (.LO false (if k=0 then []else [(.s d.name,true)])))]⟩) (fun k=>k≤l.length) (fun k=>l.length - k) 0 (Nat.zero_le _) (G.wk Ai Ai) fun k hk=>?_;by_cases Ak:k<l.length
 ·obtain rfl:k=0:=Zo
  have c3:=DT (((0:Nat):Int)<(l.length:Int));have c4:=DT ((0:Int)<(l.length:Int));have c5:A0 [] (Key.s d.name) false=false:=rfl;repeat'(first|exact tT|refine WA (Y2 hn hu) (Y6 c1 c2 c3 c4 h0 c5) ?_ ?_|refine WM (Y6 c1 c2 c3 c4 h0 c5) ?_ ?_|(refine PE ?_;clear hK K)|refine WR fun K hK=>?_|refine PT ?_|refine WC (fun h=>?_) fun h=>?_|exact ff|fail)
  all_goals exact⟨1,⟨Zo,Zo⟩,G.wk Ai Ai⟩
 ·obtain rfl:k=l.length:=Zo
  have c3:=DF ((l.length:Int)<(l.length:Int));repeat'(first|exact tT|refine WA tT c3 ?_ ?_|refine WM c3 ?_ ?_|(refine PE ?_;clear hK K)|refine WR fun K hK=>?_|refine PT ?_|refine WC (fun h=>?_) fun h=>?_|exact ff|fail)
  all_goals done
abbrev MG(c:Cd)(k:Int):List (Nat×AN):= [(1000,.box 86 (.AF [Im c.facts,Im c.lines,Ty c.BX,.s 1002,AE k])),(1002,.mp (.ints true .i64 [(.i 1,0)]))]
theorem XJ(c:Cd)(e:Ex)(k:Int)(ho:e.op=1)(hn:e.n=0∨e.n=1500)(hu:(e.u==⟨#[116,114,117,116,104]⟩)=false):BS Tryz.prog T 125 [.p 1000 0,.a (DO e)] (MG c k) (BL true) (MG c k):=by
 have q1:(e.op==1)=true:=by rw[ho];rfl
 have d1:=DT ((0:Int)≤e.n);have d2:=DT (e.n≤999999999999);have d3:decide (e.u=⟨#[116,114,117,116,104]⟩)=false:=Zdf fun h=>by rw[h]at hu;revert hu;decide
 have d4:(e.u != ⟨#[116,114,117,116,104]⟩)=true:=by unfold bne;rw[hu];rfl
 refine FO 100 [.tmp 4] Tryz.func125 Tryz.ntmps125 fun B w0 Y R Am Az hY AQ AW Aj hR=>?_;have AB:=FI AW AQ 3
 repeat'(first|exact tT|refine WA tT (Y6 q1 d1 d2 d3 d4 AB) ?_ ?_|(refine HE ?_;clear hK K)|refine WR fun K hK=>?_|refine HT ?_|refine WC (fun h=>?_) fun h=>?_|exact ff|fail)
 all_goals exact⟨Aj,hR _ IB⟩
theorem kR(c:Cd)(e:Ex)(d:De)(k:Int)(ho:e.op=2)(hn:e.n=0)(hl:c.facts.length=1)(h0:c.facts.getD 0 default=d)(hu:d.u=e.u):BS Tryz.prog T 125 [.p 1000 0,.a (DO e)] (MG c k) (BL true) (MG c k):=by
 have q1:(e.op==1)=false∧(e.op==2)=true:=by rw[ho];decide
 have d1:=DT ((0:Int)<(c.facts.length:Int));have C0:(0:Int)<(c.facts.length:Int):=Zo
 refine FO 100 [.tmp 4] Tryz.func125 Tryz.ntmps125 fun B w0 Y R Am Az hY AQ AW Aj hR=>?_;have AB:=FI AW AQ 3
 repeat'(first|exact tT|refine WA tT (Y6 q1 hn d1 h0 hu AB) ?_ ?_|(refine HE ?_;clear hK K)|refine WR fun K hK=>?_|refine HT ?_|refine WC (fun h=>?_) fun h=>?_|exact ff|fail)
 all_goals exact⟨Aj,hR _ IB⟩
def R8(c:Cd)(e:Ex)(d:Int)(n:Int):Prop:= ∀k:Int,0≤k→k+n≤400→BS Tryz.prog T 102 [.p 1000 0,.a (DO e),AE d] (MG c k) (BL true) (MG c (k+n))
set_option maxHeartbeats 4000000 in
theorem RD(c:Cd)(e:Ex)(d:Int)(hd:d≤40)(hk:e.kids.length=0)(Xp:e.ps.length=0)(U4:e.den=0)(ho:e.op=1∨e.op=2)(hu:Pure Tryz.prog 68 [An e.u] (BL true))(hl: ∀k,BS Tryz.prog T 125 [.p 1000 0,.a (DO e)] (MG c k) (BL true) (MG c k)):R8 c e d 1:=by
 intro k OT FM;have hl:=hl (k+1);have d1:=DF (400<k+1);have d2:=DF (40<d);have d3:(e.op==18)=false:=by rcases ho with h|h<;>rw[h]<;>rfl
 have d4:=DT (1≤e.op);have d5:=DT (e.op≤4);have d6:(e.den != 0)=false:=by rw[U4];rfl
 have d7:=DF ((0:Int)<(e.ps.length:Int));have d8:((e.kids.length:Int)==0)=true:=by rw[hk];rfl
 have d9:=DF ((0:Int)<(e.kids.length:Int));refine FO 118 [.tmp 6] Tryz.func102 Tryz.ntmps102 fun B w0 Y R Am Az hY AQ AW Aj hR=>?_;have AB:=NA AW AQ 4 8
 repeat'(first|exact tT|refine WA hu (Y3 d1 d2 AB) ?_ ?_|(refine HE ?_;clear hK K)|refine WR fun K hK=>?_|refine HT ?_|refine WC (fun h=>?_) fun h=>?_|exact ff|fail)
 refine AM (α:=Nat) (fun j=>⟨[(34,AE 0),(33,AE e.kids.length),(4,.p 4 0),(0,.p 1000 0)],(4,.box 80 (.AF (DO e)))::(MG c (k+1)++Y)⟩) (fun j=>True) (fun j=>0) 0 trivial (by exact G.Al (AA Ai) Au) fun j hj=>?_;repeat'(first|exact tT|refine WA tT (Y8 d9 d3 d4 d5 d6 d7 d8 AB) ?_ ?_|refine EA hl (Y8 d9 d3 d4 d5 d6 d7 d8 AB) ?_|(refine HE ?_;clear hK K)|refine WR fun K hK=>?_|refine HT ?_|refine WC (fun h=>?_) fun h=>?_|exact ff|fail)
 all_goals exact⟨Aj,hR _ IB⟩
theorem kT(ks:List Ex)(a b:Ex)(hl:ks.length=2)(h0:ks.getD 0 default=a)(h1:ks.getD 1 default=b):Pure Tryz.prog 141 [Dq ks] (BL (decide (b.u=a.u))):=by
 have k0:=DH (ks:=ks) (k:=0) Zo;have k1:=DH (ks:=ks) (k:=1) Zo;rw[h0]at k0;rw[h1]at k1;refine PO 19 [.tmp 2] hT Tryz.func141 Tryz.ntmps141 fun B w0=>?_;repeat'(first|exact tT|refine WA tT tT ?_ ?_|(refine PE ?_;clear hK K)|refine WR fun K hK=>?_|refine PT ?_|refine WC (fun h=>?_) fun h=>?_|exact ff|fail)
 refine AM (α:=Nat) (fun k=>⟨[(0,Dq ks),(5,Dq ks),(6,AE ks.length),(7,AE k)],[]⟩) (fun k=>k≤2∧(k=2→b.u=a.u)) (fun k=>2 - k) 0 ⟨Zo,Zo⟩ (G.wk Ai trivial) fun k hk=>?_;obtain⟨FM,El⟩:=hk;have d0:=DT ((0:Int)<(ks.length:Int));have SE:(ks.length:Int)=2:=Zo
 by_cases e0:k=0
 ·subst e0;repeat'(first|exact tT|refine WA tT (Y2 d0 k0) ?_ ?_|(refine PE ?_;clear hK K)|refine WR fun K hK=>?_|refine PT ?_|refine WC (fun h=>?_) fun h=>?_|exact ff|fail)
  all_goals exact⟨1,⟨⟨Zo,Zo⟩,Zo⟩,G.wk Ai trivial⟩
 by_cases e1:k=1
 ·subst e1;have d2:=DT ((1:Int)<(ks.length:Int));by_cases bJ:b.u=a.u
  ·have e4:decide (b.u=a.u)=true:=Zde bJ;repeat'(first|exact tT|refine WA tT (Y5 d0 d2 k0 k1 e4) ?_ ?_|(refine PE ?_;clear hK K)|refine WR fun K hK=>?_|refine PT ?_|refine WC (fun h=>?_) fun h=>?_|exact ff|fail)
   all_goals exact⟨2,⟨⟨Zo,fun _=>bJ⟩,Zo⟩,G.wk Ai trivial⟩
  ·have e4:decide (b.u=a.u)=false:=Zdf bJ;rw[e4];repeat'(first|exact tT|refine WA tT (Y5 d0 d2 k0 k1 e4) ?_ ?_|(refine PE ?_;clear hK K)|refine WR fun K hK=>?_|refine PT ?_|refine WC (fun h=>?_) fun h=>?_|exact ff|fail)
   all_goals done
 ·obtain rfl:k=2:=Zo
  rw[Zde (El rfl)];have d2:=DF ((2:Int)<(ks.length:Int));repeat'(first|exact tT|refine WA tT d2 ?_ ?_|(refine PE ?_;clear hK K)|refine WR fun K hK=>?_|refine PT ?_|refine WC (fun h=>?_) fun h=>?_|exact ff|fail)
  all_goals done
def wA(E:List (Nat×AV)):List (Nat×AV)→Prop
 | []=>True
 |(s,v)::r=>(v=.top∨lk E s=v)∧wA E r
theorem RE{E:List (Nat×AV)}: ∀ {E':List (Nat×AV)},wA E E'→ ∀s,lk E' s=.top∨lk E' s=lk E s
 | [],_,s=>.inl rfl
 |(k,v)::r,h,s=>by
  simp only[lk];split
  ·rename_i e;subst e;rcases h.1 with h1|h1
   ·exact .inl h1
   ·exact .inr h1.symm
  ·exact RE h.2 s
def Nz:Code→Option Code
 | .region id l true=>some (.region id l true)
 | .seq x y=>(Nz x).orElse fun h=>Nz y
 | .scope x=>Nz x
 | .block i x=>Nz x
 |_=>none
abbrev kF(ks:List Ex):Nat→Nat→AV:=fun e j=>((ks.map Rj).getD e []).getD j .top
abbrev zX:List AV:= [AE 0,AE 0,An ⟨#[]⟩,AE 0,.v (.slice none 0 0),.v (.slice none 0 0)]
def yG(e a b:Ex)(b12 b13 b14 b15:Bool):List (Nat×AN):=(bif b12 then [(3,.box 80 (.AF (bif b14 then DO a else zX)))]else [])++((bif b13 then [(4,.box 80 (.AF (bif b15 then DO b else zX)))]else [])++ [(1,.box 80 (.AF (DO e)))])
def Mm(e a b:Ex):List Bool→St
 | [b0,b1,b2,b3,b4,b5,b6,b7,b8,b9,b10,b11,b12,b13,b14,b15]=>⟨[(8,tb b0 (.p 1 5)),(9,tb b1 (Dq e.kids)),(10,tb b2 (.q false (kF e.kids) 6 0 0)),(11,tb b3 (.a (DO a))),(12,tb b4 (.p 1 5)),(13,tb b5 (Dq e.kids)),(14,tb b6 (.p 1 5)),(15,tb b7 (Dq e.kids)),(16,tb b8 (AE 2)),(17,tb b9 (AE 1)),(18,tb b10 (.q false (kF e.kids) 6 1 0)),(19,tb b11 (.a (DO b))),(3,tb b12 (.p 3 0)),(4,tb b13 (.p 4 0)),(2,BL false),(1,.p 1 0)],yG e a b b12 b13 b14 b15⟩
 |_=>⟨[],[]⟩
def y8:List Bool→Prop
 | [_,_,_,_,_,_,_,_,_,_,_,_,b12,b13,b14,b15]=>(b14=true→b12=true)∧(b15=true→b13=true)
 |_=>False
theorem wB{L:List Bool}(h:L.length=16): ∃b0 b1 b2 b3 b4 b5 b6 b7 b8 b9 b10 b11 b12 b13 b14 b15,L= [b0,b1,b2,b3,b4,b5,b6,b7,b8,b9,b10,b11,b12,b13,b14,b15]:=by
 match L,h with
 | [b0,b1,b2,b3,b4,b5,b6,b7,b8,b9,b10,b11,b12,b13,b14,b15],_=>exact⟨_,_,_,_,_,_,_,_,_,_,_,_,_,_,_,_,rfl⟩
set_option maxHeartbeats 40000000 in
theorem tC{B:Nat}{w0:AT}(e a b:Ex)(hk:e.kids.length=2)(k0:(e.kids.map Rj).getD 0 []=DO a)(k1:(e.kids.map Rj).getD 1 []=DO b)(reg:Code)(lP:Nz (Tryz.f126.body.getD .skip)=some reg){Q:Exit→St→Prop}(hQ:Q .normal (Mm e a b (List.replicate 16 true))):BY Tryz.prog 206 B w0 reg Q ⟨[(2,BL false),(1,.p 1 0)],[(1,.box 80 (.AF (DO e)))]⟩:=by
 conv at lP=>lhs;whnf
 injection lP with h;subst h
 refine A7 (Mm e a b (List.replicate 16 false)) (G.Al (RE (by repeat(first|exact trivial|refine⟨.inl rfl,?_⟩|refine⟨.inr rfl,?_⟩))) (fun s b h=>h)) ?_;have SE:(e.kids.length:Int)=2:=Zo
 have fA: ∀j,kF e.kids 0 j=(DO a).getD j .top:=fun j=>by show((List.map Rj e.kids).getD 0 []).getD j AV.top=_;rw[k0]
 have fB: ∀j,kF e.kids 1 j=(DO b).getD j .top:=fun j=>by show((List.map Rj e.kids).getD 1 []).getD j AV.top=_;rw[k1]
 refine XK hm (Mm e a b) y8 rfl ⟨fun h=>h,fun h=>h⟩ hQ ZD ?_;intro L i o hL hI ho hf ha;obtain⟨b0,b1,b2,b3,b4,b5,b6,b7,b8,b9,b10,b11,b12,b13,b14,b15,rfl⟩:=wB hL;rcases i with _|_|_|_|_|_|_|_|_|_|_|_|_|_|_|_|i
 rotate_right 1
 ·exact absurd ho (by simp)
 all_goals (injection ho with ho;subst ho;simp[Region.binds]at ha hf)
 all_goals (cases b12<;>cases b13<;>cases b14<;>cases b15<;>(first|(exfalso;simp[y8]at hI;done)|skip))
 all_goals (first|(exfalso;simp at ha;done)|(exfalso;simp at hf;done)|skip)
 all_goals (refine⟨by simp[y8],fun K Kj=>?_⟩;simp only[Mm,yG,cond_true,cond_false,List.nil_append,List.cons_append])
 all_goals (repeat' (first|exact tT|refine WA tT (Y4 ha SE fA fB) ?_ ?_|(refine A9 (Kj _ ?_);simp only[ha,Nat.zero_add,Nat.reduceAdd,List.set_cons_zero,List.set_cons_succ,Mm,yG,cond_true,cond_false,List.nil_append,List.cons_append];exact G.wk Ai Ai)|fail))
set_option maxHeartbeats 8000000 in
theorem p9(e a b:Ex)(hk:e.kids.length=2)(h0:e.kids.getD 0 default=a)(h1:e.kids.getD 1 default=b)
  (h:(e.op=9∧e.u=⟨#[116,114,117,116,104]⟩∧b.u=a.u∧ ¬a.u=⟨#[116,114,117,116,104]⟩)∨(e.op=15∧a.u=⟨#[109,105,110,117,116,101,115]⟩∧ ¬b.u=a.u∧e.u=b.u∧ ¬e.u=⟨#[116,114,117,116,104]⟩∧Pure Tryz.prog 101 [An b.u] (BL true))):Pure Tryz.prog 126 [.a (DO e)] (BL true):=by
 have k0:=DH (ks:=e.kids) (k:=0) Zo;have k1:=DH (ks:=e.kids) (k:=1) Zo;rw[h0]at k0;rw[h1]at k1;have hs:=kT e.kids a b hk h0 h1;have SE:(e.kids.length:Int)=2:=Zo
 refine PO 206 [.tmp 2] hT Tryz.func126 Tryz.ntmps126 fun B w0=>?_;repeat'(first|exact tT|refine WA tT tT ?_ ?_|(refine PE ?_;clear hK K)|refine WR fun K hK=>?_|refine PT ?_|refine WC (fun h=>?_) fun h=>?_|exact ff|fail)
 refine BG ⟨[(3,.p 3 0),(4,.p 4 0),(2,BL false),(1,.p 1 0)],[(3,.box 80 (.AF (DO a))),(4,.box 80 (.AF (DO b))),(1,.box 80 (.AF (DO e)))]⟩ ?_ ?_
 ·show BY _ _ _ _ _ _ _;rcases h with ⟨ho,hu,bJ,hna⟩|⟨ho,hu,bJ,hub,hut,hc⟩
  ·rw[Zde bJ]at hs;have q:(e.op==5)=false∧(e.op==6)=false∧(e.op==7)=false∧(e.op==8)=false∧(e.op==9)=true:=by rw[ho];decide
   have d1:decide (a.u=⟨#[116,114,117,116,104]⟩)=false:=Zdf hna;have d2:decide (e.u=⟨#[116,114,117,116,104]⟩)=true:=Zde hu;repeat'(first|exact tT|refine WA hs (Y4 q d1 d2 SE) ?_ ?_|(refine PE ?_;clear hK K)|refine WR fun K hK=>?_|refine PT ?_|refine WC (fun h=>?_) fun h=>?_|exact ff|fail)
   all_goals done
  ·rw[Zdf bJ]at hs;have q:(e.op==5)=false∧(e.op==6)=false∧(e.op==7)=false∧(e.op==8)=false∧(e.op==9)=false∧(e.op==10)=false∧(e.op==11)=false∧(e.op==12)=false∧(e.op==16)=false∧(e.op==17)=false∧(e.op==13)=false∧(e.op==14)=false∧(e.op==15)=true:=by rw[ho];decide
   have d1:decide (a.u=⟨#[109,105,110,117,116,101,115]⟩)=true:=Zde hu;have d2:decide (e.u=⟨#[116,114,117,116,104]⟩)=false:=Zdf hut;have d3:decide (e.u=b.u)=true:=Zde hub;repeat'(first|exact tT|refine WA (Y2 hs hc) (Y5 q d1 d2 d3 SE) ?_ ?_|(refine PE ?_;clear hK K)|refine WR fun K hK=>?_|refine PT ?_|refine WC (fun h=>?_) fun h=>?_|exact ff|fail)
   all_goals done
 ·refine A7 ⟨[(2,BL false),(1,.p 1 0)],[(1,.box 80 (.AF (DO e)))]⟩ (G.wk Ai Ai) ?_;refine tC e a b hk k0 k1 _ rfl ⟨rfl,?_⟩;simp only[Mm,yG,List.replicate,cond_true,List.nil_append,List.cons_append];exact G.wk Ai Ai
set_option maxHeartbeats 8000000 in
theorem XL(c:Cd)(e a b:Ex)(d:Int)(hd:0≤d∧d≤30)(hk:e.kids.length=2)(h0:e.kids.getD 0 default=a)(h1:e.kids.getD 1 default=b)(ha:R8 c a (d+1) 1)(hb:R8 c b (d+1) 1)(Xp:e.ps.length=0)(U4:e.den=0)(hn:e.n=0)(ho:e.op=9∨e.op=15)(hu:Pure Tryz.prog 68 [An e.u] (BL true))(E4:Pure Tryz.prog 126 [.a (DO e)] (BL true)):R8 c e d 3:=by
 intro k OT FM;have k0:=DH (ks:=e.kids) (k:=0) Zo;have k1:=DH (ks:=e.kids) (k:=1) Zo;rw[h0]at k0;rw[h1]at k1;have ha:=ha (k+1) Zo Zo;have hb:=hb (k+1+1) Zo Zo;have d1:=DF (400<k+1);have d2:=DF (40<d);have d3:(e.op==18)=false:=by rcases ho with h|h<;>rw[h]<;>rfl
 have d4:=DT (1≤e.op);have d5:=DF (e.op≤4);have d6:(e.den != 0)=false:=by rw[U4];rfl
 have d7:=DF ((0:Int)<(e.ps.length:Int));have d8:(e.n==0)=true:=by rw[hn];rfl
 have d9:=DT ((0:Int)<(e.kids.length:Int));have d10:=DT ((1:Int)<(e.kids.length:Int));have d11:=DF ((2:Int)<(e.kids.length:Int));have e3:k+3=k+1+1+1:=Zo
 rw[e3];refine FO 118 [.tmp 6] Tryz.func102 Tryz.ntmps102 fun B w0 Y R Am Az hY AQ AW Aj hR=>?_;have AB:=NA AW AQ 4 8
 repeat'(first|exact tT|refine WA hu (Y3 d1 d2 AB) ?_ ?_|(refine HE ?_;clear hK K)|refine WR fun K hK=>?_|refine HT ?_|refine WC (fun h=>?_) fun h=>?_|exact ff|fail)
 refine AM (α:=Nat) (fun j=>⟨[(34,AE j),(33,AE e.kids.length),(32,Dq e.kids),(4,.p 4 0),(2,AE d),(0,.p 1000 0)],(4,.box 80 (.AF (DO e)))::(MG c (if j=0 then k+1 else if j=1 then k+1+1 else k+1+1+1)++Y)⟩) (fun j=>j≤2) (fun j=>2 - j) 0 Zo (by exact G.Al (AA Ai) Au) fun j hj=>?_;by_cases e0:j=0
 ·subst e0;repeat'(first|exact tT|refine WA tT (Y3 d9 k0 AB) ?_ ?_|refine EA ha (Y3 d9 k0 AB) ?_|(refine HE ?_;clear hK K)|refine WR fun K hK=>?_|refine HT ?_|refine WC (fun h=>?_) fun h=>?_|exact ff|fail)
  all_goals exact⟨1,⟨Zo,Zo⟩,G.Al (AA Ai) Au⟩
 by_cases e1:j=1
 ·subst e1;repeat'(first|exact tT|refine WA tT (Y3 d10 k1 AB) ?_ ?_|refine EA hb (Y3 d10 k1 AB) ?_|(refine HE ?_;clear hK K)|refine WR fun K hK=>?_|refine HT ?_|refine WC (fun h=>?_) fun h=>?_|exact ff|fail)
  all_goals exact⟨2,⟨Zo,Zo⟩,G.Al (AA Ai) Au⟩
 ·obtain rfl:j=2:=Zo
  repeat'(first|exact tT|refine WA E4 (Y9 d11 d3 d4 d5 d6 d7 d8 d9 AB) ?_ ?_|(refine HE ?_;clear hK K)|refine WR fun K hK=>?_|refine HT ?_|refine WC (fun h=>?_) fun h=>?_|exact ff|fail)
  all_goals exact⟨Aj,hR _ IB⟩
theorem XM(c:Cd)(e:Ex)(u:ByteArray)(n k0:Int)(hu:e.u=u)(h0:0≤n)(hn:n≤400)(hf:R8 c e 1 n):BS Tryz.prog T 69 [.p 1000 0,.a (DO e),An u] (MG c k0) (BL true) (MG c n):=by
 have hf:=hf 0 Zo Zo;rw[Int.zero_add]at hf;have d1:decide (e.u=u)=true:=Zde hu;refine FO 19 [.tmp 6] Tryz.func69 Tryz.ntmps69 fun B w0 Y R Am Az hY AQ AW Aj hR=>?_;have AB:=FI AW AQ 4
 repeat'(first|exact tT|refine WA tT (Y2 d1 AB) ?_ ?_|refine EA hf (Y2 d1 AB) ?_|(refine HE ?_;clear hK K)|refine WR fun K hK=>?_|refine HT ?_|refine WC (fun h=>?_) fun h=>?_|exact ff|fail)
 all_goals exact⟨Aj,hR _ IB⟩
abbrev dF(ds:List De):Nat→Nat→AV:=fun e j=>(Vn (ds.getD e default)).getD j .top
def uQ(c:Cd)(a:Ar)(l:De)(Y:List (Nat×AN)):List Bool→St
 | [b0,b1,b2,b3,b4,b5,b6,b7,b8,b9,b10,b11,b12,b13,b14]=>⟨[(75,tb b0 (.p 1000 0)),(76,tb b1 (.p 3 8)),(77,tb b2 (.a (DO a.GU))),(78,tb b3 (.p 1000 0)),(79,tb b4 (.p 1000 0)),(80,tb b5 (.p 1000 0)),(81,tb b6 (.p 1000 1)),(82,tb b7 (Im c.lines)),(83,tb b8 (.p 3 1)),(84,tb b9 (AE 0)),(85,tb b10 (.q false (dF c.lines) 3 0 0)),(86,tb b11 (.q false (dF c.lines) 3 0 1)),(87,tb b12 (An l.u)),(88,tb b13 (BL true)),(4,tb b14 (BL true)),(3,.p 3 0),(0,.p 1000 0)],(3,.box 82 (.AF (DX a)))::(MG c 3++Y)⟩
 |_=>⟨[],[]⟩
theorem wC{L:List Bool}(h:L.length=15): ∃b0 b1 b2 b3 b4 b5 b6 b7 b8 b9 b10 b11 b12 b13 b14,L= [b0,b1,b2,b3,b4,b5,b6,b7,b8,b9,b10,b11,b12,b13,b14]:=by
 match L,h with
 | [b0,b1,b2,b3,b4,b5,b6,b7,b8,b9,b10,b11,b12,b13,b14],_=>exact⟨_,_,_,_,_,_,_,_,_,_,_,_,_,_,_,rfl⟩
theorem kU(a:Ar):DX a= [AE a.num,AE a.line,AE a.Ri,AE a.fr,AE a.to,AE a.known,Dq a.FU,ints a.G9,AE a.GU.op,AE a.GU.n,An a.GU.u,AE a.GU.den,C2 Et 3 a.GU.ps,Dq a.GU.kids]:=rfl
set_option maxHeartbeats 40000000 in
theorem og{B:Nat}{w0:AT}(Am:CW w0.gh)(Y:List (Nat×AN))(hY:Dy 2000 Y)(c:Cd)(a:Ar)(l:De)(hl:c.lines.length=1)(bM:c.lines.getD 0 default=l)(OW:a.line=0)(qK:BS Tryz.prog T 69 [.p 1000 0,.a (DO a.GU),An l.u] (MG c 3) (BL true) (MG c 3))(reg:Code)(lP:Nz (Tryz.f34.body.getD .skip)=some reg){Q:Exit→St→Prop}(hQ:Q .normal (uQ c a l Y (List.replicate 15 true))):BY Tryz.prog 89 B w0 reg Q ⟨[(3,.p 3 0),(0,.p 1000 0)],(3,.box 82 (.AF (DX a)))::(MG c 3++Y)⟩:=by
 conv at lP=>lhs;whnf
 injection lP with h;subst h
 refine A7 (uQ c a l Y (List.replicate 15 false)) (G.Al (RE (by repeat(first|exact trivial|refine⟨.inl rfl,?_⟩|refine⟨.inr rfl,?_⟩))) (fun s b h=>h)) ?_;have SE:(0:Int)<(c.lines.length:Int):=Zo
 have hA:=kU a;have hD: ∀j,dF c.lines 0 j=(Vn l).getD j .top:=fun j=>by show(Vn (c.lines.getD 0 default)).getD j AV.top=_;rw[bM]
 refine XK hm (uQ c a l Y) (fun L=>True) rfl trivial hQ ZD ?_;intro L i o hL hI ho hf ha;obtain⟨b0,b1,b2,b3,b4,b5,b6,b7,b8,b9,b10,b11,b12,b13,b14,rfl⟩:=wC hL;rcases i with _|_|_|_|_|_|_|_|_|_|_|_|_|_|_|i
 rotate_right 1
 ·exact absurd ho (by simp)
 all_goals (injection ho with ho;subst ho;simp[Region.binds]at ha hf)
 all_goals (refine⟨trivial,fun K Kj=>?_⟩;simp only[uQ,List.nil_append,List.cons_append])
 all_goals (repeat' (first|exact tT|refine WA tT (Y6 ha SE hA OW bM hD) ?_ ?_|refine EA qK (Y6 ha SE hA OW bM hD) ?_|(refine A9 (Kj _ ?_);simp only[ha,hA,OW,Nat.zero_add,Nat.reduceAdd,List.set_cons_zero,List.set_cons_succ,uQ,List.nil_append,List.cons_append];first|exact G.Al (AA Ai) (fun s b h=>h)|exact G.Al (AA Ai) Au|fail)|fail))
set_option maxHeartbeats 8000000 in
theorem tD(c:Cd)(a:Ar)(w:Ex)(l:De)(k0:Int)(hl:c.lines.length=1)(bM:c.lines.getD 0 default=l)(OW:a.line=0)(AB9:0≤a.Ri∧a.Ri≤1000000)(N1:0≤a.fr)(fX:a.fr<a.to)(AD8:a.to≤36525)(RZ:0≤a.known∧a.known≤36524)
  (hun:a.G9.length=0) (hw:a.FU.length=1) (hw0:a.FU.getD 0 default=w) (hfw: ∀k,BS Tryz.prog T 69 [.p 1000 0,.a (DO w),An ⟨#[116,114,117,116,104]⟩] (MG c k) (BL true) (MG c 3)) (qK: ∀k,BS Tryz.prog T 69 [.p 1000 0,.a (DO a.GU),An l.u] (MG c k) (BL true) (MG c 3)):BS Tryz.prog T 34 [.p 1000 0,.a (DX a)] (MG c k0) (BL true) (MG c 3):=by
 have hfw:=hfw k0;have qK:=qK 3;have kid:=DH (ks:=a.FU) (k:=0) Zo;rw[hw0]at kid;have d1:=DF (a.Ri<0);have d2:=DF (1000000<a.Ri);have d3:=DF (a.fr<0);have d4:=DF (a.to≤a.fr);have d5:=DF (36525<a.to);have d6:=DF (a.known<0);have d7:=DF (36524<a.known);have d8:=DF ((0:Int)<(a.G9.length:Int));have d9:=DT ((0:Int)<(a.FU.length:Int));have d10:=DF ((1:Int)<(a.FU.length:Int));have d11:=DT ((0:Int)<(c.lines.length:Int));have hA:DX a= [AE a.num,AE a.line,AE a.Ri,AE a.fr,AE a.to,AE a.known,Dq a.FU,ints a.G9,AE a.GU.op,AE a.GU.n,An a.GU.u,AE a.GU.den,C2 Et 3 a.GU.ps,Dq a.GU.kids]:=rfl;refine FO 89 [.tmp 4] Tryz.func34 Tryz.ntmps34 fun B w0 Y R Am Az hY AQ AW Aj hR=>?_;have AB:=NA AW AQ 3 10
 repeat'(first|exact tT|refine WA tT (Y9 hA d1 d2 d3 d4 d5 d6 d7 AB) ?_ ?_|refine WM (Y9 hA d1 d2 d3 d4 d5 d6 d7 AB) ?_ ?_|(refine HE ?_;clear hK K)|refine WN fun K hK=>?_|refine HT ?_|refine WC (fun h=>?_) fun h=>?_|exact ff|fail)
 refine AM (α:=Nat) (fun j=>⟨[(47,AE 0),(46,AE a.G9.length),(3,.p 3 0),(0,.p 1000 0)],(3,.box 82 (.AF (DX a)))::(MG c k0++Y)⟩) (fun j=>True) (fun j=>0) 0 trivial (by rw[hA];exact G.Al (AA Ai) Au) fun j hj=>?_;repeat'(first|exact tT|refine WA tT (Y3 hA d8 AB) ?_ ?_|refine WM (Y3 hA d8 AB) ?_ ?_|(refine HE ?_;clear hK K)|refine WN fun K hK=>?_|refine HT ?_|refine WC (fun h=>?_) fun h=>?_|exact ff|fail)
 refine AM (α:=Nat) (fun j=>⟨[(66,AE j),(65,AE a.FU.length),(64,Dq a.FU),(3,.p 3 0),(0,.p 1000 0)],(3,.box 82 (.AF (DX a)))::(MG c (if j=0 then k0 else 3)++Y)⟩) (fun j=>j≤1) (fun j=>1 - j) 0 Zo (by rw[hA];exact G.Al (AA Ai) Au) fun j hj=>?_;by_cases e0:j=0
 ·subst e0;repeat'(first|exact tT|refine WA tT (Y4 hA d9 kid AB) ?_ ?_|refine WM (Y4 hA d9 kid AB) ?_ ?_|refine EA hfw (Y4 hA d9 kid AB) ?_|(refine HE ?_;clear hK K)|refine WN fun K hK=>?_|refine HT ?_|refine WC (fun h=>?_) fun h=>?_|exact ff|fail)
  all_goals (rw[hA];exact⟨1,⟨Zo,Zo⟩,G.Al (AA Ai) Au⟩)
 ·obtain rfl:j=1:=Zo
  repeat'(first|exact tT|refine WA tT (Y3 hA d10 AB) ?_ ?_|refine WM (Y3 hA d10 AB) ?_ ?_|(refine HE ?_;clear hK K)|refine WN fun K hK=>?_|refine HT ?_|refine WC (fun h=>?_) fun h=>?_|exact ff|fail)
  refine A7 ⟨[(3,.p 3 0),(0,.p 1000 0)],(3,.box 82 (.AF (DX a)))::(MG c 3++Y)⟩ (by rw[hA];exact G.Al (AA Ai) Au) ?_;refine og Am Y hY c a l hl bM OW qK _ rfl ?_;simp only[uQ,List.replicate];repeat'(first|exact tT|refine WA tT (Y2 hA AB) ?_ ?_|refine WM (Y2 hA AB) ?_ ?_|(refine HE ?_;clear hK K)|refine WN fun K hK=>?_|refine HT ?_|refine WC (fun h=>?_) fun h=>?_|exact ff|fail)
  all_goals exact⟨Aj,hR _ IB⟩
set_option maxHeartbeats 8000000 in
theorem eR(c:Cd)(a:Ar)(hf:c.facts.length=1)(hl:c.lines.length=1)(ha:c.BX.length=1)(x4:c.BX.getD 0 default=a)(AA4:Pure Tryz.prog 33 [Im c.facts,AE 0,AE 0] (BL true))(AA5:Pure Tryz.prog 33 [Im c.lines,AE 1,AE 4] (BL true))(LN:a.num=1)(OW:a.line=0)
  (h34: ∀k,BS Tryz.prog T 34 [.p 1000 0,.a (DX a)] (MG c k) (BL true) (MG c 3)):Pure Tryz.prog 12 [.a (Rk c)] (BL true):=by
 have d1:=DF ((32:Int)<(c.facts.length:Int));have d2:=DF ((32:Int)<(c.lines.length:Int));have d3:=DF ((60:Int)<(c.BX.length:Int));have d4:=DT ((0:Int)<(c.BX.length:Int));have d5:=DF ((1:Int)<(c.BX.length:Int));have d6:=DF ((c.lines.length:Int)≤0);have hA:=kU a;refine Ea (n:=100) (res:= [.tmp 2]) hT Tryz.func12 rfl rfl rfl Tryz.ntmps12 (Nat.le_of_ble_eq_true rfl) fun B w0 F8 Az=>?_;have Am:=CW.none F8;have AB:True:=trivial;repeat'(first|exact tT|refine WA (Y2 AA4 AA5) (Y3 d1 d2 d3) ?_ ?_|refine WM (Y3 d1 d2 d3) ?_ ?_|(refine PE ?_;clear hK K)|refine WR fun K hK=>?_|refine PT ?_|refine WC (fun h=>?_) fun h=>?_|exact ff|fail)
 refine AM (α:=Nat) (fun k=>⟨[(41,AE k),(40,AE c.BX.length),(39,Ty c.BX),(3,.s 37),(1,.p 1 0)],[(37,.mp (.ints true .i64 (if k=0 then []else [(.i 1,0)]))),(1,.box 39 (.AF (Rk c)))]⟩) (fun k=>k≤1) (fun k=>1 - k) 0 Zo (G.wk Ai Ai) fun k hk=>?_;by_cases e0:k=0
 ·subst e0;have m1:A0 ([]:List (Key×Int)) (.i 1) 0=0:=rfl;repeat'(first|exact tT|refine WA tT (Y7 d4 x4 hA LN OW d6 m1) ?_ ?_|refine WM (Y7 d4 x4 hA LN OW d6 m1) ?_ ?_|(refine PE ?_;clear hK K)|refine WR fun K hK=>?_|refine PT ?_|refine WC (fun h=>?_) fun h=>?_|exact ff|fail)
  all_goals first|(exfalso;simp at h;done)|exact⟨1,⟨Zo,Zo⟩,G.wk Ai Ai⟩
 obtain rfl:k=1:=Zo
 repeat'(first|exact tT|refine WA tT d5 ?_ ?_|refine WM d5 ?_ ?_|(refine PE ?_;clear hK K)|refine WR fun K hK=>?_|refine PT ?_|refine WC (fun h=>?_) fun h=>?_|exact ff|fail)
 refine A7 ⟨[(92,AE 0),(91,AE c.BX.length),(90,Ty c.BX),(8,.p 8 0)],[(8,.box 86 (.AF [Im c.facts,Im c.lines,Ty c.BX,.s 37,AE 0])),(37,.mp (.ints true .i64 [(.i 1,0)]))]⟩ (G.wk Ai Ai) ?_;refine A7 _ (fun a w h=>h.rn 8 1000 (by simp[Bg,AV.ids,AV.Av,C2]) (by simp[Bz,AN.ids,AV.ids,AV.Av,C2]) (F8 1000)) ?_;push_cast;refine A7 _ (fun a w h=>h.rn 37 1002 (by simp[Bg,AV.ids,AV.Av,C2]) (by simp[Bz,AN.ids,AV.ids,AV.Av,C2]) (F8 1002)) ?_;push_cast;refine AM (α:=Nat) (fun k=>⟨[(92,AE k),(91,AE c.BX.length),(90,Ty c.BX),(8,.p 1000 0)],MG c (if k=0 then 0 else 3)⟩) (fun k=>k≤1) (fun k=>1 - k) 0 Zo (G.wk Ai Ai) fun k hk=>?_;by_cases e0:k=0
 ·subst e0;have h34:=h34 0;repeat'(first|exact tT|refine WA tT (Y3 d4 x4 AB) ?_ ?_|refine WM (Y3 d4 x4 AB) ?_ ?_|refine EA h34 (Y3 d4 x4 AB) ?_|(refine HE ?_;clear hK K)|refine WR fun K hK=>?_|refine HT ?_|refine WC (fun h=>?_) fun h=>?_|exact ff|fail)
  all_goals first|(exfalso;simp at h;done)|exact⟨1,⟨Zo,Zo⟩,G.wk Ai Ai⟩
 obtain rfl:k=1:=Zo
 repeat'(first|exact tT|refine WA tT d5 ?_ ?_|refine WM d5 ?_ ?_|(refine PE ?_;clear hK K)|refine WR fun K hK=>?_|refine PT ?_|refine WC (fun h=>?_) fun h=>?_|exact ff|fail)
 all_goals done
end Go.Proofs.YthemnhjojaehhaaGreatDoor
