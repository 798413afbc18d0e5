/- Part of a proof. -/
import Derived.Test.YthemnhjojaehhaaGreatDoorA20
set_option linter.all false
namespace Go.Proofs.YthemnhjojaehhaaGreatDoor
open Go.Ad Go.Proofs Go.Tp
attribute [local irreducible] A8 AK BY Go.Ad.Pure BS
theorem vQ{x:Int}(h:x=11):(x==11)=true∧(x==12)=false∧(x==13)=false∧(x==14)=false∧(x==15)=false∧(x==16)=false∧(x==17)=false∧(x==18)=false:=by subst h;decide
theorem vR{x:Int}(h:x=12):(x==11)=false∧(x==12)=true∧(x==13)=false∧(x==14)=false∧(x==15)=false∧(x==16)=false∧(x==17)=false∧(x==18)=false:=by subst h;decide
theorem vT{x:Int}(h:x=13):(x==11)=false∧(x==12)=false∧(x==13)=true∧(x==14)=false∧(x==15)=false∧(x==16)=false∧(x==17)=false∧(x==18)=false:=by subst h;decide
theorem vU{x:Int}(h:x=14):(x==11)=false∧(x==12)=false∧(x==13)=false∧(x==14)=true∧(x==15)=false∧(x==16)=false∧(x==17)=false∧(x==18)=false:=by subst h;decide
theorem vV{x:Int}(h:x=15):(x==11)=false∧(x==12)=false∧(x==13)=false∧(x==14)=false∧(x==15)=true∧(x==16)=false∧(x==17)=false∧(x==18)=false:=by subst h;decide
theorem vW{x:Int}(h:x=16):(x==11)=false∧(x==12)=false∧(x==13)=false∧(x==14)=false∧(x==15)=false∧(x==16)=true∧(x==17)=false∧(x==18)=false:=by subst h;decide
theorem vX{x:Int}(h:x=17):(x==11)=false∧(x==12)=false∧(x==13)=false∧(x==14)=false∧(x==15)=false∧(x==16)=false∧(x==17)=true∧(x==18)=false:=by subst h;decide
theorem vY{x:Int}(h:x=18):(x==11)=false∧(x==12)=false∧(x==13)=false∧(x==14)=false∧(x==15)=false∧(x==16)=false∧(x==17)=false∧(x==18)=true:=by subst h;decide
theorem kqn{x:Int}(h: ∀j:Int,11≤j→j≤18→x≠j):(x==11)=false∧(x==12)=false∧(x==13)=false∧(x==14)=false∧(x==15)=false∧(x==16)=false∧(x==17)=false∧(x==18)=false:=⟨beq_false_of_ne (h 11 Zd Zd),beq_false_of_ne (h 12 Zd Zd),beq_false_of_ne (h 13 Zd Zd),beq_false_of_ne (h 14 Zd Zd),beq_false_of_ne (h 15 Zd Zd),beq_false_of_ne (h 16 Zd Zd),beq_false_of_ne (h 17 Zd Zd),beq_false_of_ne (h 18 Zd Zd)⟩
theorem iE(n:Nat):((n:Int)==1)=decide (n=1):=by
 by_cases h:n=1
 ·rw[Zde h,h];rfl
 ·rw[Zdf h];exact beq_false_of_ne Zo
theorem Jc{e:Nd}{k d:Int}(hk:k+1≤2000)(hd:d≤40)(h:BC e=true→e.kids.length=0):BM BC e k d=BC e:=by
 unfold BM;cases hh:BC e with
 |false=>rfl
 |true=>
  have h0:=List.eq_nil_of_length_eq_zero (h hh);have h1:=Nd.size_eq e;have h2:=Nd.Ck e;rw[h0]at h1 h2;simp only[Nd.AP,Nd.A2]at h1 h2;rw[Zde Zo,Zde Zo];rfl
theorem Sj{e:Nd}{k d:Int}(h:BC e=BC (e.kids.getD 0 default))(hl:e.kids.length=1):BM BC e k d=BM BC (e.kids.getD 0 default) (k+1) (d+1):=by
 match hk:e.kids,hl with
 | [x],_=>
  have h1:=Nd.size_eq e;have h2:=Nd.Ck e;rw[hk]at h1 h2 h;simp only[Nd.AP,Nd.A2]at h1 h2;simp only[List.getD_cons_zero]at h ⊢;unfold BM;rw[h]
  congr 2
  ·exact decide_eq_decide.2 Zo
  ·exact decide_eq_decide.2 Zo
theorem Gg{e:Nd}{k d:Int}(h:BC e=false):BM BC e k d=false:=by unfold BM;rw[h];rfl
theorem QV{e:Nd}(hl:e.kids.length=1):e.size=1+(e.kids.getD 0 default).size:=by
 match hk:e.kids,hl with
 | [x],_=>have h1:=Nd.size_eq e;rw[hk]at h1;simp only[Nd.AP]at h1;simp only[List.getD_cons_zero];omega
theorem YP{e:Nd}{k d:Int}(hl:0<e.kids.length)(h:BC e=e.kids.all BC):BM BC e k d=Gx BC e.kids (k+1) (d+1):=by
 have h1:=Nd.size_eq e;have h2:=Nd.Ck e;have hn:e.kids≠ []:=fun h=>by rw[h]at hl;simp at hl
 unfold BM Gx;rw[h]
 congr 2
 ·exact decide_eq_decide.2 Zo
 ·exact decide_eq_decide.2 ⟨fun h=>.inr Zo,fun h=>by rcases h with h|h;exact absurd h hn;omega⟩
theorem Sk(e:Nd)(Ae:Cz e)(h:mb 15 BC e):mb 72 (fun x=>BC x&&Oc x) e:=by
 intro k d hk hd;obtain⟨k',F7,hc⟩:=h k d hk hd
 have e1:BM (fun x=>BC x&&Oc x) e k d=(BM BC e k d&&(e.kind==11)&&decide (e.u=AZ)&&BI e.n):=by
  unfold BM Oc;have:(e.kind==11)=decide (e.kind=11):=by by_cases h:e.kind=11<;>simp[h]
  rw[this];rw[Bool.eq_iff_iff];simp only[Zba];exact⟨fun⟨⟨o,⟨a,b⟩,c⟩,s,d⟩=>⟨⟨⟨⟨o,s,d⟩,a⟩,b⟩,c⟩,fun⟨⟨⟨⟨o,s,d⟩,a⟩,b⟩,c⟩=>⟨⟨o,⟨a,b⟩,c⟩,s,d⟩⟩
 refine⟨k',fun hh=>F7 (by rw[e1]at hh;simp only[Zba]at hh;exact hh.1.1.1),?_⟩;rw[e1];have hr:=HA e.n;refine FO 26 [.tmp 6] Tryz.func72 Tryz.ntmps72 fun B w0 Y R Am Az hY AQ AW Aj hR=>?_;have AB:=FI AW AQ 4
 repeat'(first|exact tT|refine WA hr AB ?_ ?_|refine EA hc AB ?_|(refine HE ?_;clear hK K)|refine WR fun K hK=>?_|refine HT ?_|refine WC (fun h=>?_) fun h=>?_|exact ff|fail)
 all_goals exact⟨Aj,hR _ CK⟩
def Mg(e:Nd):Bool:=decide (e.kids.length=2)&&BC (e.kids.getD 0 default)&&(if e.name=QU then BC (e.kids.getD 1 default)&&Oc (e.kids.getD 1 default)else IQ e.name&&BC (e.kids.getD 1 default))
def Ju(e:Nd)(k d:Int):Bool:=Mg e&&(decide (k+(Nd.AP e.kids:Int)≤2000)&&decide (d+1+(Nd.A2 e.kids:Int)≤41))
theorem OE{e:Nd}{k d:Int}(h:Mg e=false):Ju e k d=false:=by unfold Ju;rw[h];rfl
set_option maxHeartbeats 4000000 in
theorem cO(e:Nd)(Ae:Cz e)(h: ∀x∈e.kids,mb 15 BC x)(k d:Int)(hk:0≤k∧k≤2000)(hd:0≤d∧d≤50):
  ∃k':Int,(Ju e k d=true→k'=k+Nd.AP e.kids)∧BS Tryz.prog T 40 [.p 1000 0,.a (A1 e),AE d] (lT k) (BL (Ju e k d)) (lT k'):=by
 have Ci:=Ae.spec.kids;have E5:=Ci.2;by_cases h2: ¬e.kids.length=2
 ·have c1:((e.kids.length:Int) != 2)=true:=bne_iff_ne.2 Zo;rw[OE (by unfold Mg;rw[Zdf h2];rfl)];refine⟨k,fun h=>(by cases h),?_⟩;refine FO 53 [.tmp 6] Tryz.func40 Tryz.ntmps40 fun B w0 Y R Am Az hY AQ AW Aj hR=>?_;have AB:=FI AW AQ 4
  repeat'(first|exact tT|refine WA tT (Y2 c1 AB) ?_ ?_|(refine HE ?_;clear hK K)|refine WR fun K hK=>?_|refine HT ?_|refine WC (fun h=>?_) fun h=>?_|exact ff|fail)
  all_goals exact⟨Aj,hR _ CK⟩
 have h2:=Classical.not_not.1 h2;have c1:((e.kids.length:Int) != 2)=false:=by rw[h2];rfl
 have i0:0<e.kids.length:=Zo
 have i1:1<e.kids.length:=Zo
 have c2:=DT ((0:Int)<(e.kids.length:Int));have c3:=DT ((1:Int)<(e.kids.length:Int));have kid0:=Aw i0;have kid1:=Aw i1
 have ACv:Nd.AP e.kids=(e.kids.getD 0 default).size+(e.kids.getD 1 default).size:=by
  match hk:e.kids,h2 with
  | [x,y],_=>simp[Nd.AP]
 have ACw:Nd.A2 e.kids=max (e.kids.getD 0 default).depth (e.kids.getD 1 default).depth:=by
  match hk:e.kids,h2 with
  | [x,y],_=>simp[Nd.A2]
 have LM:Mg e=(decide (e.kids.length=2)&&BC (e.kids.getD 0 default)&&(if e.name=QU then BC (e.kids.getD 1 default)&&Oc (e.kids.getD 1 default)else IQ e.name&&BC (e.kids.getD 1 default))):=rfl;obtain⟨k0,OT,HS⟩:=h _ (Ap i0) k (d+1) hk Zo;generalize e.kids.getD 0 default=x at*;by_cases hx:BM BC x k (d+1)=false
 ·rw[hx]at HS
  have:Ju e k d=false:=GV fun hh=>by
   have hq:BM BC x k (d+1)=true:=by
    unfold Ju at hh;simp only[Zba,Zdt]at hh;rw[Bm];refine⟨?_,Zo,Zo⟩;have hb:=hh.1;rw[LM]at hb;simp only[Zba]at hb;exact hb.1.2
   rw[hq]at hx;cases hx
  rw[this];refine⟨k0,fun h=>(by cases h),?_⟩;refine FO 53 [.tmp 6] Tryz.func40 Tryz.ntmps40 fun B w0 Y R Am Az hY AQ AW Aj hR=>?_;have AB:=FI AW AQ 4
  repeat'(first|exact tT|refine WA tT (Y4 c1 c2 kid0 AB) ?_ ?_|refine EA HS (Y4 c1 c2 kid0 AB) ?_|(refine HE ?_;clear hK K)|refine WR fun K hK=>?_|refine HT ?_|refine WC (fun h=>?_) fun h=>?_|exact ff|fail)
  all_goals exact⟨Aj,hR _ CK⟩
 have hx:BM BC x k (d+1)=true:=by cases hh:BM BC x k (d+1)<;>simp_all
 rw[hx]at HS;have OU:=Bm.1 hx;have ek0:=OT hx;by_cases hdiv:e.name=QU
 ·obtain⟨k1,FM,J5⟩:=Sk _ (Ci.nth i1) (h _ (Ap i1)) k0 (d+1) Zo Zo;generalize e.kids.getD 1 default=y at*
  have eq1:Ju e k d=BM (fun x=>BC x&&Oc x) y k0 (d+1):=by
   unfold Ju BM;rw[LM,if_pos hdiv,Zde h2,OU.1,Bool.true_and,Bool.true_and]
   congr 2
   ·exact decide_eq_decide.2 Zo
   ·exact decide_eq_decide.2 Zo
  refine⟨k1,fun h=>by rw[FM (by rw[←eq1];exact h)];omega,?_⟩;rw[eq1];have d1:decide (e.name=⟨#[47]⟩)=true:=Zde hdiv;refine FO 53 [.tmp 6] Tryz.func40 Tryz.ntmps40 fun B w0 Y R Am Az hY AQ AW Aj hR=>?_;have AB:=FI AW AQ 4
  repeat'(first|exact tT|refine WA tT (Y7 c1 c2 c3 kid0 kid1 d1 AB) ?_ ?_|refine EA HS (Y7 c1 c2 c3 kid0 kid1 d1 AB) ?_|refine EA J5 (Y7 c1 c2 c3 kid0 kid1 d1 AB) ?_|(refine HE ?_;clear hK K)|refine WR fun K hK=>?_|refine HT ?_|refine WC (fun h=>?_) fun h=>?_|exact ff|fail)
  all_goals exact⟨Aj,hR _ CK⟩
 ·have d1:decide (e.name=⟨#[47]⟩)=false:=Zdf hdiv;by_cases E4:IQ e.name=true
  ·obtain⟨k1,FM,J5⟩:=h _ (Ap i1) k0 (d+1) Zo Zo;generalize e.kids.getD 1 default=y at*
   have eq1:Ju e k d=BM BC y k0 (d+1):=by
    unfold Ju BM;rw[LM,if_neg hdiv,Zde h2,OU.1,E4,Bool.true_and,Bool.true_and,Bool.true_and]
    congr 2
    ·exact decide_eq_decide.2 Zo
    ·exact decide_eq_decide.2 Zo
   refine⟨k1,fun h=>by rw[FM (by rw[←eq1];exact h)];omega,?_⟩;rw[eq1];unfold IQ at E4;simp only[Bool.or_eq_true,Zdt]at E4;refine FO 53 [.tmp 6] Tryz.func40 Tryz.ntmps40 fun B w0 Y R Am Az hY AQ AW Aj hR=>?_;have AB:=FI AW AQ 4
   repeat'(first|exact tT|refine WA tT (Y7 c1 c2 c3 kid0 kid1 d1 AB) ?_ ?_|refine EA HS (Y7 c1 c2 c3 kid0 kid1 d1 AB) ?_|refine EA J5 (Y7 c1 c2 c3 kid0 kid1 d1 AB) ?_|(refine HE ?_;clear hK K)|refine WR fun K hK=>?_|refine HT ?_|refine WC (fun h=>?_) fun h=>?_|exact ff|fail)
   all_goals (first|exact⟨Aj,hR _ CK⟩|contradiction|(exfalso;simp_all))
  ·have E4:=GV E4;rw[OE (by rw[LM,if_neg hdiv,E4];simp)];refine⟨k0,fun h=>(by cases h),?_⟩;unfold IQ at E4;simp only[Bool.or_eq_false_iff,decide_eq_false_iff_not]at E4;refine FO 53 [.tmp 6] Tryz.func40 Tryz.ntmps40 fun B w0 Y R Am Az hY AQ AW Aj hR=>?_;have AB:=FI AW AQ 4
   repeat'(first|exact tT|refine WA tT (Y8 c1 c2 c3 kid0 kid1 d1 E4 AB) ?_ ?_|refine EA HS (Y8 c1 c2 c3 kid0 kid1 d1 E4 AB) ?_|(refine HE ?_;clear hK K)|refine WR fun K hK=>?_|refine HT ?_|refine WC (fun h=>?_) fun h=>?_|exact ff|fail)
   all_goals (first|exact⟨Aj,hR _ CK⟩|contradiction|(exfalso;simp_all))
def GB(e:Nd):Bool:=(decide (e.kind=5)&&decide (0≤e.n)&&decide (e.n≤1000000)&&decide (e.kids.length=0))&&((Fs e.fr&&decide (e.fr<e.to)&&decide (e.to≤36525)&&Fs e.known)&&Jt e ⟨#[]⟩ ⟨#[]⟩ e.n e.fr e.to e.known 0 [])
abbrev iF(x:Nd):Bool:=BC x&&Oc x
def Da(e:Nd):Bool:=Ff e ⟨#[]⟩ ⟨#[]⟩ 0&&(if e.kind=7 then decide (0<e.kids.length)&&e.kids.all iF else decide (e.kids.length=1)&&BC (e.kids.getD 0 default))
theorem Lm{Q:Nd→Bool}{e:Nd}{k d:Int}(hk:k+1≤2000)(hd:d≤40)(h:Q e=true→e.kids.length=0):BM Q e k d=Q e:=by
 unfold BM;cases hh:Q e with
 |false=>rfl
 |true=>
  have h0:=List.eq_nil_of_length_eq_zero (h hh);have h1:=Nd.size_eq e;have h2:=Nd.Ck e;rw[h0]at h1 h2;simp only[Nd.AP,Nd.A2]at h1 h2;rw[Zde Zo,Zde Zo];rfl
theorem Fg{Q:Nd→Bool}{e:Nd}{k d:Int}(h:Q e=false):BM Q e k d=false:=by unfold BM;rw[h];rfl
set_option maxHeartbeats 4000000 in
theorem mc(e:Nd)(Ae:Cz e):mb 43 GB e:=by
 intro k d hk hd;have BN:=Mf e k d Zo Zo;have Bh:=Nd.size_eq e;have pE:=Nd.Ck e;have hz:GB e=true→e.kids.length=0:=fun h=>by unfold GB at h;simp only[Zba,Zdt]at h;exact h.1.2
 by_cases hn: ¬(k+1≤2000∧d≤40)
 ·refine⟨k+1,fun h=>by rw[Bm]at h;omega,?_⟩;rw[show BM GB e k d=false from GV fun h=>by rw[Bm]at h;omega];rw[show(decide (k+1≤2000)&&decide (d≤40))=false from GV fun h=>by simp at h;omega]at BN;refine FO 66 [.tmp 6] Tryz.func43 Tryz.ntmps43 fun B w0 Y R Am Az hY AQ AW Aj hR=>?_;have AB:=FI AW AQ 4
  repeat'(first|exact tT|refine WA tT AB ?_ ?_|refine EA BN AB ?_|(refine HE ?_;clear hK K)|refine WR fun K hK=>?_|refine HT ?_|refine WC (fun h=>?_) fun h=>?_|exact ff|fail)
  all_goals exact⟨Aj,hR _ CK⟩
 obtain⟨RI,LK⟩:=Classical.not_not.1 hn;rw[Zde RI,Zde LK]at BN;rw[Lm RI LK hz];refine⟨k+1,fun h=>by rw[List.eq_nil_of_length_eq_zero (hz h)]at Bh;simp only[Nd.AP]at Bh;omega,?_⟩;have hb:=Ev e ⟨#[]⟩ ⟨#[]⟩ e.n e.fr e.to e.known 0 Ae;have qI:=QT e.fr;have Gp:=QT e.known;by_cases h1:(decide (e.kind=5)&&decide (0≤e.n)&&decide (e.n≤1000000)&&decide (e.kids.length=0))=true
 ·by_cases h2:(Fs e.fr&&decide (e.fr<e.to)&&decide (e.to≤36525)&&Fs e.known)=true
  ·have e1:GB e=Jt e ⟨#[]⟩ ⟨#[]⟩ e.n e.fr e.to e.known 0 []:=by unfold GB;rw[h1,h2];rfl
   rw[e1];simp only[Zba,Zdt]at h1 h2;have c1:(e.kind != 5)=false:=by rw[h1.1.1.1];rfl
   have c2:=DF (e.n<0);have c3:=DF (1000000<e.n);have c4:=DF ((0:Int)<(e.kids.length:Int));have c5:=DF (e.to≤e.fr);have c6:=DF (36525<e.to);have c7:=h2.1.1.1;have c8:=h2.2;refine FO 66 [.tmp 6] Tryz.func43 Tryz.ntmps43 fun B w0 Y R Am Az hY AQ AW Aj hR=>?_;have AB:=FI AW AQ 4
   repeat'(first|exact tT|refine WA (Y3 hb qI Gp) (Y9 c1 c2 c3 c4 c5 c6 c7 c8 AB) ?_ ?_|refine EA BN (Y9 c1 c2 c3 c4 c5 c6 c7 c8 AB) ?_|(refine HE ?_;clear hK K)|refine WR fun K hK=>?_|refine HT ?_|refine WC (fun h=>?_) fun h=>?_|exact ff|fail)
   all_goals (first|exact⟨Aj,hR _ CK⟩|skip)
  ·have h2:=GV h2;have e1:GB e=false:=by unfold GB;rw[h2];simp
   rw[e1];simp only[Zba,Zdt]at h1;have c1:(e.kind != 5)=false:=by rw[h1.1.1.1];rfl
   have c2:=DF (e.n<0);have c3:=DF (1000000<e.n);have c4:=DF ((0:Int)<(e.kids.length:Int))
   have c5:(!Fs e.fr||decide (e.to≤e.fr)||decide (36525<e.to)|| !Fs e.known)=true:=by
    have x1:decide (e.to≤e.fr)= !decide (e.fr<e.to):=by by_cases h:e.fr<e.to<;>simp[h];omega
    have x2:decide (36525<e.to)= !decide (e.to≤36525):=by by_cases h:e.to≤36525<;>simp[h];omega
    rw[x1,x2,←Bool.not_and,←Bool.not_and,←Bool.not_and,h2];rfl
   refine FO 66 [.tmp 6] Tryz.func43 Tryz.ntmps43 fun B w0 Y R Am Az hY AQ AW Aj hR=>?_;have AB:=FI AW AQ 4
   repeat'(first|exact tT|refine WA (Y3 hb qI Gp) (Y6 c1 c2 c3 c4 c5 AB) ?_ ?_|refine EA BN (Y6 c1 c2 c3 c4 c5 AB) ?_|(refine HE ?_;clear hK K)|refine WR fun K hK=>?_|refine HT ?_|refine WC (fun h=>?_) fun h=>?_|exact ff|fail)
   all_goals (first|exact⟨Aj,hR _ CK⟩|skip)
 ·have h1:=GV h1;have e1:GB e=false:=by unfold GB;rw[h1];simp
  rw[e1]
  have c1:((e.kind != 5)||decide (e.n<0)||decide (1000000<e.n)||decide ((0:Int)<(e.kids.length:Int)))=true:=by
   have x0:(e.kind != 5)= !decide (e.kind=5):=by by_cases h:e.kind=5<;>simp[h]
   have x1:decide (e.n<0)= !decide (0≤e.n):=by by_cases h:0≤e.n<;>simp[h];omega
   have x2:decide (1000000<e.n)= !decide (e.n≤1000000):=by by_cases h:e.n≤1000000<;>simp[h];omega
   have x3:decide ((0:Int)<(e.kids.length:Int))= !decide (e.kids.length=0):=by by_cases h:e.kids.length=0<;>simp[h];omega
   rw[x0,x1,x2,x3,←Bool.not_and,←Bool.not_and,←Bool.not_and,h1];rfl
  refine FO 66 [.tmp 6] Tryz.func43 Tryz.ntmps43 fun B w0 Y R Am Az hY AQ AW Aj hR=>?_;have AB:=FI AW AQ 4
  repeat'(first|exact tT|refine WA (Y3 hb qI Gp) (Y2 c1 AB) ?_ ?_|refine EA BN (Y2 c1 AB) ?_|(refine HE ?_;clear hK K)|refine WR fun K hK=>?_|refine HT ?_|refine WC (fun h=>?_) fun h=>?_|exact ff|fail)
  all_goals (first|exact⟨Aj,hR _ CK⟩|skip)
set_option maxHeartbeats 8000000 in
theorem T5(e:Nd):Cz e→mb 15 BC e:=by
 induction e using Nd.ind with
 |h e ih=>
 intro Ae k d hk hd;have Ci:=Ae.spec.kids;have E5:=Ci.2;have BN:=Mf e k d Zo Zo;have Bh:=Nd.size_eq e;have pE:=Nd.Ck e;by_cases hn: ¬(k+1≤2000∧d≤40)
 ·refine⟨k+1,fun h=>by rw[Bm]at h;omega,?_⟩;rw[show BM BC e k d=false from GV fun h=>by rw[Bm]at h;omega];rw[show(decide (k+1≤2000)&&decide (d≤40))=false from GV fun h=>by simp at h;omega]at BN;refine FO 202 [.tmp 6] Tryz.func15 Tryz.ntmps15 fun B w0 Y R Am Az hY AQ AW Aj hR=>?_;have AB:=FI AW AQ 4
  repeat'(first|exact tT|refine WA tT AB ?_ ?_|refine EA BN AB ?_|(refine HE ?_;clear hK K)|refine WR fun K hK=>?_|refine HT ?_|refine WC (fun h=>?_) fun h=>?_|exact ff|fail)
  all_goals exact⟨Aj,hR _ CK⟩
 obtain⟨RI,LK⟩:=Classical.not_not.1 hn;rw[Zde RI,Zde LK]at BN;have FN:=EJ e;unfold FA at FN;by_cases k11:e.kind=11
 ·have q:=vQ k11;rw[if_pos k11]at FN;have hb:=Ev e ⟨#[]⟩ e.u e.n 0 0 0 0 Ae;have hu:=OC e.u Ae.spec.u;have hz:BC e=true→e.kids.length=0:=fun h=>by rw[FN]at h;simp only[Zba,Zdt]at h;exact h.2.1
  rw[Jc RI LK hz];refine⟨k+1,fun h=>by rw[List.eq_nil_of_length_eq_zero (hz h)]at Bh;simp only[Nd.AP]at Bh;omega,?_⟩;have cl:((e.kids.length:Int)==0)=decide (e.kids.length=0):=by by_cases h:e.kids.length=0<;>simp[h]
  rw[FN];by_cases hp:(B0 e.u&&decide (0≤e.n)&&decide (e.n≤999999999999)&&(!decide (e.u=Aa)||decide (e.n≤1)))=true
  ·rw[hp,Bool.true_and]
   have ct:(!B0 e.u||decide (e.n<0)||decide (999999999999<e.n)||decide (e.u=⟨#[116,114,117,116,104]⟩)&&decide (1<e.n))=false:=GV fun h=>by
    simp only[Zba,Bool.or_eq_true,Bool.not_eq_true',Zdt,decide_eq_false_iff_not]at hp h;rcases h with ((h|h)|h)|h
    ·rw[hp.1.1.1]at h;cases h
    ·omega
    ·omega
    ·rcases hp.2 with h'|h'
     ·exact h' h.1
     ·omega
   by_cases h0:e.kids.length=0
   ·have c0:=Zde h0;rw[c0,Bool.true_and];refine FO 202 [.tmp 6] Tryz.func15 Tryz.ntmps15 fun B w0 Y R Am Az hY AQ AW Aj hR=>?_;have AB:=FI AW AQ 4
    repeat'(first|exact tT|refine WA (Y2 hb hu) (Y5 cl q ct c0 AB) ?_ ?_|refine EA BN (Y5 cl q ct c0 AB) ?_|(refine HE ?_;clear hK K)|refine WR fun K hK=>?_|refine HT ?_|refine WC (fun h=>?_) fun h=>?_|exact ff|fail)
    all_goals (first|exact⟨Aj,hR _ CK⟩|skip)
   ·have c0:=Zdf h0;rw[c0,Bool.false_and];refine FO 202 [.tmp 6] Tryz.func15 Tryz.ntmps15 fun B w0 Y R Am Az hY AQ AW Aj hR=>?_;have AB:=FI AW AQ 4
    repeat'(first|exact tT|refine WA (Y2 hb hu) (Y5 cl q ct c0 AB) ?_ ?_|refine EA BN (Y5 cl q ct c0 AB) ?_|(refine HE ?_;clear hK K)|refine WR fun K hK=>?_|refine HT ?_|refine WC (fun h=>?_) fun h=>?_|exact ff|fail)
    all_goals (first|exact⟨Aj,hR _ CK⟩|skip)
  ·have ct:(!B0 e.u||decide (e.n<0)||decide (999999999999<e.n)||decide (e.u=⟨#[116,114,117,116,104]⟩)&&decide (1<e.n))=true:=by
    cases hh:(!B0 e.u||decide (e.n<0)||decide (999999999999<e.n)||decide (e.u=⟨#[116,114,117,116,104]⟩)&&decide (1<e.n))with
    |true=>rfl
    |false=>
     simp only[Bool.or_eq_false_iff,Bool.and_eq_false_iff,Bool.not_eq_false',decide_eq_false_iff_not]at hh;refine absurd ?_ hp;simp only[Zba,Bool.or_eq_true,Bool.not_eq_true',Zdt,decide_eq_false_iff_not];refine⟨⟨⟨hh.1.1.1,Zo⟩,Zo⟩,?_⟩;rcases hh.2 with h|h
     ·exact .inl h
     ·exact .inr Zo
   have hp:=GV hp;rw[hp,Bool.false_and];refine FO 202 [.tmp 6] Tryz.func15 Tryz.ntmps15 fun B w0 Y R Am Az hY AQ AW Aj hR=>?_;have AB:=FI AW AQ 4
   repeat'(first|exact tT|refine WA (Y2 hb hu) (Y4 cl q ct AB) ?_ ?_|refine EA BN (Y4 cl q ct AB) ?_|(refine HE ?_;clear hK K)|refine WR fun K hK=>?_|refine HT ?_|refine WC (fun h=>?_) fun h=>?_|exact ff|fail)
   all_goals (first|exact⟨Aj,hR _ CK⟩|skip)
 by_cases k12:e.kind=12
 ·have q:=vR k12;rw[if_neg Zo,if_pos k12]at FN;have hb:=Ev e e.name ⟨#[]⟩ 0 0 0 0 0 Ae;have hu:=OD e.name Ae.spec.name;have hz:BC e=true→e.kids.length=0:=fun h=>by rw[FN]at h;simp only[Zba,Zdt]at h;exact h.1.2
  rw[Jc RI LK hz];refine⟨k+1,fun h=>by rw[List.eq_nil_of_length_eq_zero (hz h)]at Bh;simp only[Nd.AP]at Bh;omega,?_⟩;have cl:((e.kids.length:Int)==0)=decide (e.kids.length=0):=by by_cases h:e.kids.length=0<;>simp[h]
  rw[FN];by_cases hp:(BK e.name&&decide (e.kids.length=0))=true
  ·rw[hp,Bool.true_and];refine FO 202 [.tmp 6] Tryz.func15 Tryz.ntmps15 fun B w0 Y R Am Az hY AQ AW Aj hR=>?_;have AB:=FI AW AQ 4
   repeat'(first|exact tT|refine WA (Y2 hb hu) (Y4 cl q hp AB) ?_ ?_|refine EA BN (Y4 cl q hp AB) ?_|(refine HE ?_;clear hK K)|refine WR fun K hK=>?_|refine HT ?_|refine WC (fun h=>?_) fun h=>?_|exact ff|fail)
   all_goals (first|exact⟨Aj,hR _ CK⟩|skip)
  ·have hp:=GV hp;rw[hp,Bool.false_and];refine FO 202 [.tmp 6] Tryz.func15 Tryz.ntmps15 fun B w0 Y R Am Az hY AQ AW Aj hR=>?_;have AB:=FI AW AQ 4
   repeat'(first|exact tT|refine WA (Y2 hb hu) (Y4 cl q hp AB) ?_ ?_|refine EA BN (Y4 cl q hp AB) ?_|(refine HE ?_;clear hK K)|refine WR fun K hK=>?_|refine HT ?_|refine WC (fun h=>?_) fun h=>?_|exact ff|fail)
   all_goals (first|exact⟨Aj,hR _ CK⟩|skip)
 by_cases k13:e.kind=13
 ·have q:=vT k13;rw[if_neg Zo,if_neg Zo,if_pos k13]at FN;have hb:=Ev e ⟨#[]⟩ ⟨#[]⟩ e.n 0 0 0 0 Ae;have hu:=HA e.n;have hz:BC e=true→e.kids.length=0:=fun h=>by rw[FN]at h;simp only[Zba,Zdt]at h;exact h.1.2
  rw[Jc RI LK hz];refine⟨k+1,fun h=>by rw[List.eq_nil_of_length_eq_zero (hz h)]at Bh;simp only[Nd.AP]at Bh;omega,?_⟩;have cl:((e.kids.length:Int)==0)=decide (e.kids.length=0):=by by_cases h:e.kids.length=0<;>simp[h]
  rw[FN];by_cases hp:(BI e.n&&decide (e.kids.length=0))=true
  ·rw[hp,Bool.true_and];refine FO 202 [.tmp 6] Tryz.func15 Tryz.ntmps15 fun B w0 Y R Am Az hY AQ AW Aj hR=>?_;have AB:=FI AW AQ 4
   repeat'(first|exact tT|refine WA (Y2 hb hu) (Y4 cl q hp AB) ?_ ?_|refine EA BN (Y4 cl q hp AB) ?_|(refine HE ?_;clear hK K)|refine WR fun K hK=>?_|refine HT ?_|refine WC (fun h=>?_) fun h=>?_|exact ff|fail)
   all_goals (first|exact⟨Aj,hR _ CK⟩|skip)
  ·have hp:=GV hp;rw[hp,Bool.false_and];refine FO 202 [.tmp 6] Tryz.func15 Tryz.ntmps15 fun B w0 Y R Am Az hY AQ AW Aj hR=>?_;have AB:=FI AW AQ 4
   repeat'(first|exact tT|refine WA (Y2 hb hu) (Y4 cl q hp AB) ?_ ?_|refine EA BN (Y4 cl q hp AB) ?_|(refine HE ?_;clear hK K)|refine WR fun K hK=>?_|refine HT ?_|refine WC (fun h=>?_) fun h=>?_|exact ff|fail)
   all_goals (first|exact⟨Aj,hR _ CK⟩|skip)
 by_cases k14:e.kind=14
 ·have q:=vU k14;rw[if_neg Zo,if_neg Zo,if_neg Zo,if_pos k14]at FN;have hb:=Ev e e.name ⟨#[]⟩ 0 0 0 0 0 Ae;have hu:=Vv e.name;have hz:BC e=true→e.kids.length=0:=fun h=>by rw[FN]at h;simp only[Zba,Zdt]at h;exact h.1.2
  rw[Jc RI LK hz];refine⟨k+1,fun h=>by rw[List.eq_nil_of_length_eq_zero (hz h)]at Bh;simp only[Nd.AP]at Bh;omega,?_⟩;have cl:((e.kids.length:Int)==0)=decide (e.kids.length=0):=by by_cases h:e.kids.length=0<;>simp[h]
  rw[FN];by_cases hp:(Eu e.name&&decide (e.kids.length=0))=true
  ·rw[hp,Bool.true_and];refine FO 202 [.tmp 6] Tryz.func15 Tryz.ntmps15 fun B w0 Y R Am Az hY AQ AW Aj hR=>?_;have AB:=FI AW AQ 4
   repeat'(first|exact tT|refine WA (Y2 hb hu) (Y4 cl q hp AB) ?_ ?_|refine EA BN (Y4 cl q hp AB) ?_|(refine HE ?_;clear hK K)|refine WR fun K hK=>?_|refine HT ?_|refine WC (fun h=>?_) fun h=>?_|exact ff|fail)
   all_goals (first|exact⟨Aj,hR _ CK⟩|skip)
  ·have hp:=GV hp;rw[hp,Bool.false_and];refine FO 202 [.tmp 6] Tryz.func15 Tryz.ntmps15 fun B w0 Y R Am Az hY AQ AW Aj hR=>?_;have AB:=FI AW AQ 4
   repeat'(first|exact tT|refine WA (Y2 hb hu) (Y4 cl q hp AB) ?_ ?_|refine EA BN (Y4 cl q hp AB) ?_|(refine HE ?_;clear hK K)|refine WR fun K hK=>?_|refine HT ?_|refine WC (fun h=>?_) fun h=>?_|exact ff|fail)
   all_goals (first|exact⟨Aj,hR _ CK⟩|skip)
 by_cases k15:e.kind=15
 ·have q:=vV k15;rw[if_neg Zo,if_neg Zo,if_neg Zo,if_neg Zo,if_pos k15]at FN;have hb:=Ev e ⟨#[]⟩ ⟨#[]⟩ 0 0 0 0 0 Ae;by_cases h1:(decide (e.kids.length=1)&&Ff e ⟨#[]⟩ ⟨#[]⟩ 0)=true
  ·have Iv:e.kids.length=1:=by(simp only[Zba,Zdt]at h1;first|exact h1.1|exact h1.2)
   have h0:0<e.kids.length:=Zo
   rw[h1,O9 h0,Bool.true_and]at FN;have Om:=Sj (k:=k) (d:=d) FN Iv;obtain⟨k',F7,hc⟩:=ih _ (Ap h0) (Ci.nth h0) (k+1) (d+1) Zo Zo;have kid:=Aw h0;refine⟨k',fun h=>by rw[F7 (by rw[←Om];exact h),QV Iv];omega,?_⟩;rw[Om];generalize BM BC (e.kids.getD 0 default) (k+1) (d+1)=r at*;have c1:((e.kids.length:Int)==1)=true:=by rw[Iv];rfl
   rw[Zde Iv,Bool.true_and]at h1;have c2:=DT ((0:Int)<(e.kids.length:Int));refine FO 202 [.tmp 6] Tryz.func15 Tryz.ntmps15 fun B w0 Y R Am Az hY AQ AW Aj hR=>?_;have AB:=FI AW AQ 4
   repeat'(first|exact tT|refine WA hb (Y6 c1 c2 h1 kid q AB) ?_ ?_|refine EA BN (Y6 c1 c2 h1 kid q AB) ?_|refine EA hc (Y6 c1 c2 h1 kid q AB) ?_|(refine HE ?_;clear hK K)|refine WR fun K hK=>?_|refine HT ?_|refine WC (fun h=>?_) fun h=>?_|exact ff|fail)
   all_goals (first|exact⟨Aj,hR _ CK⟩|skip)
  ·have h1:=GV h1;rw[h1,Bool.false_and]at FN;rw[Gg FN];refine⟨k+1,fun h=>(by cases h),?_⟩;by_cases Iv:e.kids.length=1
   ·rw[Zde Iv,Bool.true_and]at h1;have c1:((e.kids.length:Int)==1)=true:=by rw[Iv];rfl
    refine FO 202 [.tmp 6] Tryz.func15 Tryz.ntmps15 fun B w0 Y R Am Az hY AQ AW Aj hR=>?_;have AB:=FI AW AQ 4
    repeat'(first|exact tT|refine WA hb (Y4 c1 h1 q AB) ?_ ?_|refine EA BN (Y4 c1 h1 q AB) ?_|(refine HE ?_;clear hK K)|refine WR fun K hK=>?_|refine HT ?_|refine WC (fun h=>?_) fun h=>?_|exact ff|fail)
    all_goals (first|exact⟨Aj,hR _ CK⟩|skip)
   ·have c1:((e.kids.length:Int)==1)=false:=beq_false_of_ne Zo;refine FO 202 [.tmp 6] Tryz.func15 Tryz.ntmps15 fun B w0 Y R Am Az hY AQ AW Aj hR=>?_;have AB:=FI AW AQ 4
    repeat'(first|exact tT|refine WA hb (Y3 c1 q AB) ?_ ?_|refine EA BN (Y3 c1 q AB) ?_|(refine HE ?_;clear hK K)|refine WR fun K hK=>?_|refine HT ?_|refine WC (fun h=>?_) fun h=>?_|exact ff|fail)
    all_goals (first|exact⟨Aj,hR _ CK⟩|skip)
 by_cases k16:e.kind=16
 ·have q:=vW k16;rw[if_neg Zo,if_neg Zo,if_neg Zo,if_neg Zo,if_neg Zo,if_pos k16]at FN;have hb:=Ev e e.name ⟨#[]⟩ 0 0 0 0 0 Ae
  have zg:BC e=(Ff e e.name ⟨#[]⟩ 0&&Mg e):=by
   rw[FN];unfold Mg
   by_cases h2:e.kids.length=2
   ·rw[O9 Zo,O9 Zo]
   ·rw[Zdf h2];simp
  obtain⟨k',F7,hc⟩:=cO e Ae (fun x hx=>ih x hx (Ci.1 x hx)) (k+1) d Zo Zo
  have Om:BM BC e k d=(Ff e e.name ⟨#[]⟩ 0&&Ju e (k+1) d):=by
   unfold BM Ju;rw[zg,Bool.and_assoc]
   congr 3
   ·exact decide_eq_decide.2 Zo
   ·exact decide_eq_decide.2 Zo
  by_cases h1:Ff e e.name ⟨#[]⟩ 0=true
  ·rw[h1,Bool.true_and]at Om;refine⟨k',fun h=>by rw[F7 (by rw[←Om];exact h)];omega,?_⟩;rw[Om];refine FO 202 [.tmp 6] Tryz.func15 Tryz.ntmps15 fun B w0 Y R Am Az hY AQ AW Aj hR=>?_;have AB:=FI AW AQ 4
   repeat'(first|exact tT|refine WA hb (Y3 h1 q AB) ?_ ?_|refine EA BN (Y3 h1 q AB) ?_|refine EA hc (Y3 h1 q AB) ?_|(refine HE ?_;clear hK K)|refine WR fun K hK=>?_|refine HT ?_|refine WC (fun h=>?_) fun h=>?_|exact ff|fail)
   all_goals (first|exact⟨Aj,hR _ CK⟩|skip)
  ·have h1:=GV h1;rw[h1,Bool.false_and]at Om;rw[Om];refine⟨k+1,fun h=>(by cases h),?_⟩;refine FO 202 [.tmp 6] Tryz.func15 Tryz.ntmps15 fun B w0 Y R Am Az hY AQ AW Aj hR=>?_;have AB:=FI AW AQ 4
   repeat'(first|exact tT|refine WA hb (Y3 h1 q AB) ?_ ?_|refine EA BN (Y3 h1 q AB) ?_|(refine HE ?_;clear hK K)|refine WR fun K hK=>?_|refine HT ?_|refine WC (fun h=>?_) fun h=>?_|exact ff|fail)
   all_goals (first|exact⟨Aj,hR _ CK⟩|skip)
 by_cases k17:e.kind=17
 ·have q:=vX k17;rw[if_neg Zo,if_neg Zo,if_neg Zo,if_neg Zo,if_neg Zo,if_neg Zo,if_pos k17]at FN;have hb:=Ev e e.name ⟨#[]⟩ 0 0 0 0 0 Ae;have ea:(e.kids.map BC).all id=e.kids.all BC:=by rw[List.all_map];rfl
  rw[ea]at FN;have c1:decide ((2:Int)≤(e.kids.length:Int))=decide (2≤e.kids.length):=decide_eq_decide.2 Zo;have yQ:(decide (e.name=Ft)||decide (e.name=Bd))=(decide (e.name=⟨#[108,101,97,115,116]⟩)||decide (e.name=⟨#[103,114,101,97,116,101,115,116]⟩)):=rfl;by_cases hA:(decide (e.name=⟨#[108,101,97,115,116]⟩)||decide (e.name=⟨#[103,114,101,97,116,101,115,116]⟩))=true
  ·rw[yQ,hA,Bool.true_and]at FN;by_cases h1:(Ff e e.name ⟨#[]⟩ 0&&decide (2≤e.kids.length))=true
   ·have C0:2≤e.kids.length:=by simp only[Zba,Zdt]at h1;exact h1.2
    rw[h1,Bool.true_and]at FN;have Om:=YP (k:=k) (d:=d) Zo FN;obtain⟨k',F7,hc⟩:=YO 15 BC e.kids Ci (fun x hx=>ih x hx (Ci.1 x hx)) (k+1) (d+1) Zo Zo;refine⟨k',fun h=>by rw[F7 (by rw[←Om];exact h)];omega,?_⟩;rw[Om];refine FO 202 [.tmp 6] Tryz.func15 Tryz.ntmps15 fun B w0 Y R Am Az hY AQ AW Aj hR=>?_;have AB:=FI AW AQ 4
    repeat'(first|exact tT|refine WA hb (Y5 c1 hA h1 q AB) ?_ ?_|refine EA BN (Y5 c1 hA h1 q AB) ?_|refine EA hc (Y5 c1 hA h1 q AB) ?_|(refine HE ?_;clear hK K)|refine WR fun K hK=>?_|refine HT ?_|refine WC (fun h=>?_) fun h=>?_|exact ff|fail)
    all_goals (first|exact⟨Aj,hR _ CK⟩|skip)
   ·have h1:=GV h1;rw[h1,Bool.false_and]at FN;rw[Gg FN];refine⟨k+1,fun h=>(by cases h),?_⟩;refine FO 202 [.tmp 6] Tryz.func15 Tryz.ntmps15 fun B w0 Y R Am Az hY AQ AW Aj hR=>?_;have AB:=FI AW AQ 4
    repeat'(first|exact tT|refine WA hb (Y5 c1 hA h1 q AB) ?_ ?_|refine EA BN (Y5 c1 hA h1 q AB) ?_|(refine HE ?_;clear hK K)|refine WR fun K hK=>?_|refine HT ?_|refine WC (fun h=>?_) fun h=>?_|exact ff|fail)
    all_goals (first|exact⟨Aj,hR _ CK⟩|skip)
  ·have hA:=GV hA;rw[yQ,hA,Bool.false_and,Bool.false_and,Bool.false_and]at FN;rw[Gg FN];refine⟨k+1,fun h=>(by cases h),?_⟩;refine FO 202 [.tmp 6] Tryz.func15 Tryz.ntmps15 fun B w0 Y R Am Az hY AQ AW Aj hR=>?_;have AB:=FI AW AQ 4
   repeat'(first|exact tT|refine WA hb (Y4 c1 hA q AB) ?_ ?_|refine EA BN (Y4 c1 hA q AB) ?_|(refine HE ?_;clear hK K)|refine WR fun K hK=>?_|refine HT ?_|refine WC (fun h=>?_) fun h=>?_|exact ff|fail)
   all_goals (first|exact⟨Aj,hR _ CK⟩|skip)
 by_cases k18:e.kind=18
 ·have q:=vY k18;rw[if_neg Zo,if_neg Zo,if_neg Zo,if_neg Zo,if_neg Zo,if_neg Zo,if_neg Zo,if_pos k18]at FN;have hb:=iB e ⟨#[]⟩ ⟨#[]⟩ 0 0 0 0 e.den Ae e.ps Ae.spec.ps.2;have ht:=T4 e.den e.ps Ae.spec.ps;by_cases h1:(Jt e ⟨#[]⟩ ⟨#[]⟩ 0 0 0 0 e.den e.ps&&Bo e.den e.ps&&decide (e.kids.length=1))=true
  ·have Iv:e.kids.length=1:=by(simp only[Zba,Zdt]at h1;first|exact h1.1|exact h1.2)
   have h0:0<e.kids.length:=Zo
   rw[h1,O9 h0,Bool.true_and]at FN;have Om:=Sj (k:=k) (d:=d) FN Iv;obtain⟨k',F7,hc⟩:=ih _ (Ap h0) (Ci.nth h0) (k+1) (d+1) Zo Zo;have kid:=Aw h0;refine⟨k',fun h=>by rw[F7 (by rw[←Om];exact h),QV Iv];omega,?_⟩;rw[Om];generalize BM BC (e.kids.getD 0 default) (k+1) (d+1)=r at*;have c1:((e.kids.length:Int)==1)=decide (e.kids.length=1):=iE _;have c2:=DT ((0:Int)<(e.kids.length:Int));refine FO 202 [.tmp 6] Tryz.func15 Tryz.ntmps15 fun B w0 Y R Am Az hY AQ AW Aj hR=>?_;have AB:=FI AW AQ 4
   repeat'(first|exact tT|refine WA (Y2 hb ht) (Y6 c1 c2 h1 kid q AB) ?_ ?_|refine EA BN (Y6 c1 c2 h1 kid q AB) ?_|refine EA hc (Y6 c1 c2 h1 kid q AB) ?_|(refine HE ?_;clear hK K)|refine WR fun K hK=>?_|refine HT ?_|refine WC (fun h=>?_) fun h=>?_|exact ff|fail)
   all_goals (first|exact⟨Aj,hR _ CK⟩|skip)
  ·have h1:=GV h1;rw[h1,Bool.false_and]at FN;rw[Gg FN];refine⟨k+1,fun h=>(by cases h),?_⟩;have c1:((e.kids.length:Int)==1)=decide (e.kids.length=1):=iE _;refine FO 202 [.tmp 6] Tryz.func15 Tryz.ntmps15 fun B w0 Y R Am Az hY AQ AW Aj hR=>?_;have AB:=FI AW AQ 4
   repeat'(first|exact tT|refine WA (Y2 hb ht) (Y4 c1 h1 q AB) ?_ ?_|refine EA BN (Y4 c1 h1 q AB) ?_|(refine HE ?_;clear hK K)|refine WR fun K hK=>?_|refine HT ?_|refine WC (fun h=>?_) fun h=>?_|exact ff|fail)
   all_goals (first|exact⟨Aj,hR _ CK⟩|skip)
 have q:=kqn (x:=e.kind) (by intro j h1 h2;omega);rw[if_neg k11,if_neg k12,if_neg k13,if_neg k14,if_neg k15,if_neg k16,if_neg k17,if_neg k18]at FN;rw[Gg FN];refine⟨k+1,fun h=>(by cases h),?_⟩;refine FO 202 [.tmp 6] Tryz.func15 Tryz.ntmps15 fun B w0 Y R Am Az hY AQ AW Aj hR=>?_;have AB:=FI AW AQ 4
 repeat'(first|exact tT|refine WA tT (Y2 q AB) ?_ ?_|refine EA BN (Y2 q AB) ?_|(refine HE ?_;clear hK K)|refine WR fun K hK=>?_|refine HT ?_|refine WC (fun h=>?_) fun h=>?_|exact ff|fail)
 all_goals (first|exact⟨Aj,hR _ CK⟩|skip)
end Go.Proofs.YthemnhjojaehhaaGreatDoor
