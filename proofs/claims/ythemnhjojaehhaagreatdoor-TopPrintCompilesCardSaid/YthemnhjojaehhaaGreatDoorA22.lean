/- Part of a proof. -/
import Derived.Test.YthemnhjojaehhaaGreatDoorA21
set_option linter.all false
namespace Go.Proofs.YthemnhjojaehhaaGreatDoor
open Go.Ad Go.Proofs Go.Tp
attribute [local irreducible] A8 AK BY Go.Ad.Pure BS
theorem YQ{Q R:Nd→Bool}{e:Nd}{k d:Int}(hl:0<e.kids.length)(h:Q e=e.kids.all R):BM Q e k d=Gx R e.kids (k+1) (d+1):=by
 have h1:=Nd.size_eq e;have h2:=Nd.Ck e;have hn:e.kids≠ []:=fun h=>by rw[h]at hl;simp at hl
 unfold BM Gx;rw[h]
 congr 2
 ·exact decide_eq_decide.2 Zo
 ·exact decide_eq_decide.2 ⟨fun h=>.inr Zo,fun h=>by rcases h with h|h;exact absurd h hn;omega⟩
theorem cP{Q R:Nd→Bool}{e:Nd}{k d:Int}(h:Q e=R (e.kids.getD 0 default))(hl:e.kids.length=1):BM Q e k d=BM R (e.kids.getD 0 default) (k+1) (d+1):=by
 match hk:e.kids,hl with
 | [x],_=>
  have h1:=Nd.size_eq e;have h2:=Nd.Ck e;rw[hk]at h1 h2 h;simp only[Nd.AP,Nd.A2]at h1 h2;simp only[List.getD_cons_zero]at h ⊢;unfold BM;rw[h]
  congr 2
  ·exact decide_eq_decide.2 Zo
  ·exact decide_eq_decide.2 Zo
set_option maxHeartbeats 4000000 in
theorem cQ(e:Nd)(Ae:Cz e):mb 44 Da e:=by
 intro k d hk hd;have Ci:=Ae.spec.kids;have BN:=Mf e k d Zo Zo;have Bh:=Nd.size_eq e;have pE:=Nd.Ck e;have hb:=Ev e ⟨#[]⟩ ⟨#[]⟩ 0 0 0 0 0 Ae;by_cases hn: ¬(k+1≤2000∧d≤40)
 ·refine⟨k+1,fun h=>by rw[Bm]at h;omega,?_⟩;rw[show BM Da e k d=false from GV fun h=>by rw[Bm]at h;omega];rw[show(decide (k+1≤2000)&&decide (d≤40))=false from GV fun h=>by simp at h;omega]at BN;refine FO 49 [.tmp 6] Tryz.func44 Tryz.ntmps44 fun B w0 Y R Am Az hY AQ AW Aj hR=>?_;have AB:=FI AW AQ 4
  repeat'(first|exact tT|refine WA tT AB ?_ ?_|refine EA BN AB ?_|(refine HE ?_;clear hK K)|refine WR fun K hK=>?_|refine HT ?_|refine WC (fun h=>?_) fun h=>?_|exact ff|fail)
  all_goals exact⟨Aj,hR _ CK⟩
 obtain⟨RI,LK⟩:=Classical.not_not.1 hn;rw[Zde RI,Zde LK]at BN;have FN:Da e=(Ff e ⟨#[]⟩ ⟨#[]⟩ 0&&(if e.kind=7 then decide (0<e.kids.length)&&e.kids.all iF else decide (e.kids.length=1)&&BC (e.kids.getD 0 default))):=rfl;by_cases h1:Ff e ⟨#[]⟩ ⟨#[]⟩ 0=true
 ·rw[h1,Bool.true_and]at FN;by_cases k7:e.kind=7
  ·have q:(e.kind==7)=true:=by rw[k7];rfl
   rw[if_pos k7]at FN;by_cases hl:0<e.kids.length
   ·have c1:=DT ((0:Int)<(e.kids.length:Int));rw[Zde hl,Bool.true_and]at FN;have Om:=YQ (k:=k) (d:=d) hl FN;obtain⟨k',F7,hc⟩:=YO 72 iF e.kids Ci (fun x hx=>Sk x (Ci.1 x hx) (T5 x (Ci.1 x hx))) (k+1) (d+1) Zo Zo;refine⟨k',fun h=>by rw[F7 (by rw[←Om];exact h)];omega,?_⟩;rw[Om];refine FO 49 [.tmp 6] Tryz.func44 Tryz.ntmps44 fun B w0 Y R Am Az hY AQ AW Aj hR=>?_;have AB:=FI AW AQ 4
    repeat'(first|exact tT|refine WA hb (Y4 h1 q c1 AB) ?_ ?_|refine EA BN (Y4 h1 q c1 AB) ?_|refine EA hc (Y4 h1 q c1 AB) ?_|(refine HE ?_;clear hK K)|refine WR fun K hK=>?_|refine HT ?_|refine WC (fun h=>?_) fun h=>?_|exact ff|fail)
    all_goals (first|exact⟨Aj,hR _ CK⟩|skip)
   ·have c1:=DF ((0:Int)<(e.kids.length:Int));rw[Zdf hl,Bool.false_and]at FN;rw[Fg FN];refine⟨k+1,fun h=>(by cases h),?_⟩;refine FO 49 [.tmp 6] Tryz.func44 Tryz.ntmps44 fun B w0 Y R Am Az hY AQ AW Aj hR=>?_;have AB:=FI AW AQ 4
    repeat'(first|exact tT|refine WA hb (Y4 h1 q c1 AB) ?_ ?_|refine EA BN (Y4 h1 q c1 AB) ?_|(refine HE ?_;clear hK K)|refine WR fun K hK=>?_|refine HT ?_|refine WC (fun h=>?_) fun h=>?_|exact ff|fail)
    all_goals (first|exact⟨Aj,hR _ CK⟩|skip)
  ·have q:(e.kind==7)=false:=beq_false_of_ne k7;rw[if_neg k7]at FN;by_cases Iv:e.kids.length=1
   ·have h0:0<e.kids.length:=Zo
    have c1:((e.kids.length:Int)==1)=true:=by rw[Iv];rfl
    have c2:=DT ((0:Int)<(e.kids.length:Int));have kid:=Aw h0;rw[Zde Iv,Bool.true_and]at FN;have Om:=cP (k:=k) (d:=d) FN Iv;obtain⟨k',F7,hc⟩:=T5 _ (Ci.nth h0) (k+1) (d+1) Zo Zo;refine⟨k',fun h=>by rw[F7 (by rw[←Om];exact h),QV Iv];omega,?_⟩;rw[Om];refine FO 49 [.tmp 6] Tryz.func44 Tryz.ntmps44 fun B w0 Y R Am Az hY AQ AW Aj hR=>?_;have AB:=FI AW AQ 4
    repeat'(first|exact tT|refine WA hb (Y6 h1 q c1 c2 kid AB) ?_ ?_|refine EA BN (Y6 h1 q c1 c2 kid AB) ?_|refine EA hc (Y6 h1 q c1 c2 kid AB) ?_|(refine HE ?_;clear hK K)|refine WR fun K hK=>?_|refine HT ?_|refine WC (fun h=>?_) fun h=>?_|exact ff|fail)
    all_goals (first|exact⟨Aj,hR _ CK⟩|skip)
   ·have c1:((e.kids.length:Int)==1)=false:=beq_false_of_ne Zo;rw[Zdf Iv,Bool.false_and]at FN;rw[Fg FN];refine⟨k+1,fun h=>(by cases h),?_⟩;refine FO 49 [.tmp 6] Tryz.func44 Tryz.ntmps44 fun B w0 Y R Am Az hY AQ AW Aj hR=>?_;have AB:=FI AW AQ 4
    repeat'(first|exact tT|refine WA hb (Y4 h1 q c1 AB) ?_ ?_|refine EA BN (Y4 h1 q c1 AB) ?_|(refine HE ?_;clear hK K)|refine WR fun K hK=>?_|refine HT ?_|refine WC (fun h=>?_) fun h=>?_|exact ff|fail)
    all_goals (first|exact⟨Aj,hR _ CK⟩|skip)
 ·have h1:=GV h1;rw[h1,Bool.false_and]at FN;rw[Fg FN];refine⟨k+1,fun h=>(by cases h),?_⟩;refine FO 49 [.tmp 6] Tryz.func44 Tryz.ntmps44 fun B w0 Y R Am Az hY AQ AW Aj hR=>?_;have AB:=FI AW AQ 4
  repeat'(first|exact tT|refine WA hb (Y2 h1 AB) ?_ ?_|refine EA BN (Y2 h1 AB) ?_|(refine HE ?_;clear hK K)|refine WR fun K hK=>?_|refine HT ?_|refine WC (fun h=>?_) fun h=>?_|exact ff|fail)
  all_goals (first|exact⟨Aj,hR _ CK⟩|skip)
def Bb(l:List Nd)(c:Int)(j:Nat):Nat:=(l.take j).countP fun x=>decide (x.kind=c)
theorem BA{l:List Nd}{c:Int}{j:Nat}(h:j<l.length):Bb l c (j+1)=Bb l c j+if(l.getD j default).kind=c then 1 else 0:=by
 unfold Bb;rw[List.take_succ_eq_append_getElem h,List.countP_append];have:l.getD j default=l[j]:=by simp[Zlg,h]
 rw[this];simp[List.countP_cons]
theorem HB{l:List Nd}{c:Int}{j:Nat}:Bb l c j≤j:=by
 unfold Bb;have:=List.countP_le_length (p:=fun x:Nd=>decide (x.kind=c)) (l:=l.take j);have h2:(l.take j).length≤j:=by simp;omega
 omega
def B8(x:Nd):Bool:=decide (6≤x.kind)&&decide (x.kind≤8)
def cR(e:Nd):Bool:=BI e.n&&BK e.name&&Ff e e.name ⟨#[]⟩ e.n&&decide (0<e.kids.length)
def iG(e:Nd):Bool:=(e.kids.drop 1).all B8&&(decide (Bb (e.kids.drop 1) 8 (e.kids.length - 1)=1)&&decide (Bb (e.kids.drop 1) 7 (e.kids.length - 1)≤1))
def cS(e:Nd):Bool:=cR e&&iG e&&(GB (e.kids.getD 0 default)&&(e.kids.drop 1).all Da)
def DJ(e:Nd):Bool:=
 if e.kind=2 then BK e.name&&B0 e.u&&decide (e.kids.length=0)&&Ff e e.name e.u 0
 else if e.kind=3 then BK e.name&&B0 e.u&&decide (1≤e.n)&&decide (e.n≤4)&&decide (e.kids.length=0)&&Ff e e.name e.u e.n
 else if e.kind=4 then cS e
 else false
theorem iq2{x:Int}(h:x=2):(x==2)=true:=by subst h;rfl
theorem iq3{x:Int}(h:x=3):(x==2)=false∧(x==3)=true:=by subst h;decide
theorem iq4{x:Int}(h:x=4):(x==2)=false∧(x==3)=false∧(x==4)=true:=by subst h;decide
theorem CX{x:Nd}:B8 x=true↔x.kind=6∨x.kind=7∨x.kind=8:=by
 simp only[B8,Zba,Zdt];omega
abbrev fH(l:List Nd)(j:Nat):AN:=.box 94 (.AF [AE 0,AE 0,AE 0,AE 0,AE 0,AE 0,AE (Bb l 6 j),AE (Bb l 7 j),AE (Bb l 8 j)])
set_option maxHeartbeats 16000000 in
theorem Zz5(e:Nd)(Ae:Cz e):mb 19 DJ e:=by
 intro k d hk hd;have Ci:=Ae.spec.kids;have E5:=Ci.2;have BN:=Mf e k d Zo Zo;have Bh:=Nd.size_eq e;have pE:=Nd.Ck e;by_cases hn: ¬(k+1≤2000∧d≤40)
 ·refine⟨k+1,fun h=>by rw[Bm]at h;omega,?_⟩;rw[show BM DJ e k d=false from GV fun h=>by rw[Bm]at h;omega];rw[show(decide (k+1≤2000)&&decide (d≤40))=false from GV fun h=>by simp at h;omega]at BN;refine FO 158 [.tmp 6] Tryz.func19 Tryz.ntmps19 fun B w0 Y R Am Az hY AQ AW Aj hR=>?_;have AB:=Il AW AQ 4 7 9
  repeat'(first|exact tT|refine WA tT AB ?_ ?_|refine EA BN AB ?_|(refine HE ?_;clear hK K)|refine WR fun K hK=>?_|refine HT ?_|refine WC (fun h=>?_) fun h=>?_|exact ff|fail)
  all_goals exact⟨Aj,hR _ CK⟩
 obtain⟨RI,LK⟩:=Classical.not_not.1 hn;rw[Zde RI,Zde LK]at BN;have FN:DJ e=DJ e:=rfl;conv at FN=>rhs;unfold DJ
 have cl:((e.kids.length:Int)==0)=decide (e.kids.length=0):=by by_cases h:e.kids.length=0<;>simp[h]
 have hu:=OC e.u Ae.spec.u;have Ph:=OD e.name Ae.spec.name;by_cases k2:e.kind=2
 ·have q:=iq2 k2;rw[if_pos k2]at FN;have hz:DJ e=true→e.kids.length=0:=fun h=>by rw[FN]at h;simp only[Zba,Zdt]at h;exact h.1.2
  rw[Lm RI LK hz];refine⟨k+1,fun h=>by rw[List.eq_nil_of_length_eq_zero (hz h)]at Bh;simp only[Nd.AP]at Bh;omega,?_⟩;have hb:=Ev e e.name e.u 0 0 0 0 0 Ae;rw[FN];by_cases hp:(BK e.name&&B0 e.u&&decide (e.kids.length=0))=true
  ·rw[hp,Bool.true_and];refine FO 158 [.tmp 6] Tryz.func19 Tryz.ntmps19 fun B w0 Y R Am Az hY AQ AW Aj hR=>?_;have AB:=Il AW AQ 4 7 9
   repeat'(first|exact tT|refine WA (Y3 hb hu Ph) (Y4 cl q hp AB) ?_ ?_|refine EA BN (Y4 cl q hp AB) ?_|(refine HE ?_;clear hK K)|refine WR fun K hK=>?_|refine HT ?_|refine WC (fun h=>?_) fun h=>?_|exact ff|fail)
   all_goals (first|exact⟨Aj,hR _ CK⟩|skip)
  ·have hp:=GV hp;rw[hp,Bool.false_and];refine FO 158 [.tmp 6] Tryz.func19 Tryz.ntmps19 fun B w0 Y R Am Az hY AQ AW Aj hR=>?_;have AB:=Il AW AQ 4 7 9
   repeat'(first|exact tT|refine WA (Y3 hb hu Ph) (Y4 cl q hp AB) ?_ ?_|refine EA BN (Y4 cl q hp AB) ?_|(refine HE ?_;clear hK K)|refine WR fun K hK=>?_|refine HT ?_|refine WC (fun h=>?_) fun h=>?_|exact ff|fail)
   all_goals (first|exact⟨Aj,hR _ CK⟩|skip)
 by_cases k3:e.kind=3
 ·have q:=iq3 k3;rw[if_neg k2,if_pos k3]at FN;have hz:DJ e=true→e.kids.length=0:=fun h=>by rw[FN]at h;simp only[Zba,Zdt]at h;exact h.1.2
  rw[Lm RI LK hz];refine⟨k+1,fun h=>by rw[List.eq_nil_of_length_eq_zero (hz h)]at Bh;simp only[Nd.AP]at Bh;omega,?_⟩;have hb:=Ev e e.name e.u e.n 0 0 0 0 Ae;rw[FN];by_cases hp:(BK e.name&&B0 e.u&&decide (1≤e.n)&&decide (e.n≤4)&&decide (e.kids.length=0))=true
  ·rw[hp,Bool.true_and];refine FO 158 [.tmp 6] Tryz.func19 Tryz.ntmps19 fun B w0 Y R Am Az hY AQ AW Aj hR=>?_;have AB:=Il AW AQ 4 7 9
   repeat'(first|exact tT|refine WA (Y3 hb hu Ph) (Y4 cl q hp AB) ?_ ?_|refine EA BN (Y4 cl q hp AB) ?_|(refine HE ?_;clear hK K)|refine WR fun K hK=>?_|refine HT ?_|refine WC (fun h=>?_) fun h=>?_|exact ff|fail)
   all_goals (first|exact⟨Aj,hR _ CK⟩|skip)
  ·have hp:=GV hp;rw[hp,Bool.false_and];refine FO 158 [.tmp 6] Tryz.func19 Tryz.ntmps19 fun B w0 Y R Am Az hY AQ AW Aj hR=>?_;have AB:=Il AW AQ 4 7 9
   repeat'(first|exact tT|refine WA (Y3 hb hu Ph) (Y4 cl q hp AB) ?_ ?_|refine EA BN (Y4 cl q hp AB) ?_|(refine HE ?_;clear hK K)|refine WR fun K hK=>?_|refine HT ?_|refine WC (fun h=>?_) fun h=>?_|exact ff|fail)
   all_goals (first|exact⟨Aj,hR _ CK⟩|skip)
 by_cases k4:e.kind=4
 ·have q:=iq4 k4;rw[if_neg k2,if_neg k3,if_pos k4]at FN;have hb:=Ev e e.name ⟨#[]⟩ e.n 0 0 0 0 Ae;have hr:=HA e.n;by_cases hA:cR e=true
  ·have zh:=hA;unfold cR at zh;simp only[Zba,Zdt]at zh;obtain⟨⟨⟨a1,a2⟩,a3⟩,a4⟩:=zh;have cz:((e.kids.length:Int)==0)=false:=beq_false_of_ne Zo;have i0:=DT ((0:Int)<(e.kids.length:Int));have i1:=DT ((1:Int)≤(e.kids.length:Int));have kid0:=Aw a4;obtain⟨l,hl⟩: ∃l,l=e.kids.drop 1:=⟨_,rfl⟩;have SE:l.length=e.kids.length - 1:=by rw[hl,List.length_drop]
   have kidW: ∀j,j<l.length→(e.kids.map Dj).getD (1+j) []=A1 (l.getD j default):=fun j hj=>by rw[hl,C7];exact Aw Zo
   have szk:e.size=1+(e.kids.getD 0 default).size+Nd.AP l:=by
    rw[hl]
    match hk:e.kids,a4 with
    |x::r,_=>rw[hk]at Bh;simp only[Nd.AP]at Bh;simp only[List.getD_cons_zero,List.drop_succ_cons,List.drop_zero];omega
   have dpk:e.depth=1+max (e.kids.getD 0 default).depth (Nd.A2 l):=by
    rw[hl]
    match hk:e.kids,a4 with
    |x::r,_=>rw[hk]at pE;simp only[Nd.A2]at pE;simp only[List.getD_cons_zero,List.drop_succ_cons,List.drop_zero];omega
   have zi:iG e=(l.all B8&&(decide (Bb l 8 (e.kids.length - 1)=1)&&decide (Bb l 7 (e.kids.length - 1)≤1))):=by rw[hl];rfl
   obtain⟨N,hN⟩: ∃N,N=e.kids.length - 1:=⟨_,rfl⟩;rw[←hN]at SE zi;by_cases hB:iG e=true
   ·have zj:=hB;rw[zi]at zj;simp only[Zba,Zdt]at zj;obtain⟨b1,b2,b3⟩:=zj;have Lb:DJ e=(GB (e.kids.getD 0 default)&&l.all Da):=by rw[FN];unfold cS;rw[hA,hB,hl];rfl
    obtain⟨k1,FM,J5⟩:=mc _ (Ci.nth a4) (k+1) (d+1) Zo Zo;by_cases VF:BM GB (e.kids.getD 0 default) (k+1) (d+1)=true
    ·have ek1:=FM VF;have g1:=Bm.1 VF;rw[VF]at J5;obtain⟨k2,El,Ok⟩:=Z6 44 Da e.kids 1 N Zo Ci l hl.symm (fun x hx=>cQ x (Ci.1 x (by rw[hl]at hx;exact List.mem_of_mem_drop hx))) k1 (d+1) Zo Zo
     have Om:BM DJ e k d=Gx Da l k1 (d+1):=by
      unfold BM Gx;rw[Lb,g1.1,Bool.true_and]
      congr 2
      ·exact decide_eq_decide.2 Zo
      ·exact decide_eq_decide.2 ⟨fun h=>.inr Zo,fun h=>by
        rcases h with h|h
        ·rw[h]at dpk;simp only[Nd.A2]at dpk;omega
        ·omega⟩
     refine⟨k2,fun h=>by rw[El (by rw[←Om];exact h)];omega,?_⟩;rw[Om];refine FO 158 [.tmp 6] Tryz.func19 Tryz.ntmps19 fun B w0 Y R Am Az hY AQ AW Aj hR=>?_;have AB:=Il AW AQ 4 7 9
     repeat'(first|exact tT|refine WA (Y3 hb hr Ph) (Y8 cl q cz i1 a1 a2 a3 AB) ?_ ?_|refine EA BN (Y8 cl q cz i1 a1 a2 a3 AB) ?_|(refine HE ?_;clear hK K)|refine WR fun K hK=>?_|refine HT ?_|refine WC (fun h=>?_) fun h=>?_|exact ff|fail)
     refine AM (α:=Nat) (fun j=>⟨[(0,.p 1000 0),(2,AE d),(4,.p 4 0),(7,.p 7 0),(110,J0 e.kids 1 N),(111,AE N),(112,AE j)],(4,.box 27 (.AF (A1 e)))::(7,fH l j)::(1000,.box 48 (.AF [AE (k+1)]))::Y⟩) (fun j=>j≤N∧ ∀i,i<j→B8 (l.getD i default)=true) (fun j=>N - j) 0 ⟨Nat.zero_le _,fun i h=>by omega⟩ (by rw[hN];exact G.Al (AA Ai) Au) fun j hj=>?_;obtain⟨hj,BU⟩:=hj;have b6:= @HB l 6 j;have b7:= @HB l 7 j;have b8:= @HB l 8 j;by_cases Ak:j<N
     ·have c1:=DT ((j:Int)<(N:Int));have kid:=kidW j Zo;by_cases J1:(l.getD j default).kind=6
      ·skip
       have e6:((Bb l 6 (j+1):Nat):Int)=Bb l 6 j+1:=by rw[BA Zo,if_pos J1];omega
       have e7:Bb l 7 (j+1)=Bb l 7 j:=by rw[BA Zo,if_neg Zo];omega
       have e8:Bb l 8 (j+1)=Bb l 8 j:=by rw[BA Zo,if_neg Zo];omega
       repeat'(first|exact tT|refine WA tT (Y4 c1 kid J1 AB) ?_ ?_|(refine HE ?_;clear hK K)|refine WR fun K hK=>?_|refine HT ?_|refine WC (fun h=>?_) fun h=>?_|exact ff|fail)
       all_goals first|(rcases h with h|h<;>exact h.elim)|(refine⟨j+1,⟨⟨Zo,Cg (p:=fun i=>B8 (l.getD i default)=true) BU (CX.2 Zo)⟩,Zo⟩,?_⟩;simp only[fH,e6,e7,e8];exact G.Al (AA Ai) Au)
      by_cases J1:(l.getD j default).kind=7
      ·skip
       have e7:((Bb l 7 (j+1):Nat):Int)=Bb l 7 j+1:=by rw[BA Zo,if_pos J1];omega
       have e6:Bb l 6 (j+1)=Bb l 6 j:=by rw[BA Zo,if_neg Zo];omega
       have e8:Bb l 8 (j+1)=Bb l 8 j:=by rw[BA Zo,if_neg Zo];omega
       repeat'(first|exact tT|refine WA tT (Y4 c1 kid J1 AB) ?_ ?_|(refine HE ?_;clear hK K)|refine WR fun K hK=>?_|refine HT ?_|refine WC (fun h=>?_) fun h=>?_|exact ff|fail)
       all_goals first|(rcases h with h|h<;>exact h.elim)|(refine⟨j+1,⟨⟨Zo,Cg (p:=fun i=>B8 (l.getD i default)=true) BU (CX.2 Zo)⟩,Zo⟩,?_⟩;simp only[fH,e6,e7,e8];exact G.Al (AA Ai) Au)
      by_cases J1:(l.getD j default).kind=8
      ·skip
       have e8:((Bb l 8 (j+1):Nat):Int)=Bb l 8 j+1:=by rw[BA Zo,if_pos J1];omega
       have e6:Bb l 6 (j+1)=Bb l 6 j:=by rw[BA Zo,if_neg Zo];omega
       have e7:Bb l 7 (j+1)=Bb l 7 j:=by rw[BA Zo,if_neg Zo];omega
       repeat'(first|exact tT|refine WA tT (Y4 c1 kid J1 AB) ?_ ?_|(refine HE ?_;clear hK K)|refine WR fun K hK=>?_|refine HT ?_|refine WC (fun h=>?_) fun h=>?_|exact ff|fail)
       all_goals first|(rcases h with h|h<;>exact h.elim)|(refine⟨j+1,⟨⟨Zo,Cg (p:=fun i=>B8 (l.getD i default)=true) BU (CX.2 Zo)⟩,Zo⟩,?_⟩;simp only[fH,e6,e7,e8];exact G.Al (AA Ai) Au)
      exact absurd (List.all_eq_true.1 b1 _ (Ap (i:=j) Zo)) (fun h=>by rw[CX]at h;omega)
     ·obtain rfl:j=N:=Zo
      have c1:=DF ((j:Int)<(j:Int))
      have kx:l.all B8=true:=by
       rw[List.all_eq_true];intro x hx;obtain⟨i,hi,rfl⟩:=Kt hx;exact BU i Zo
      have c8:((Bb l 8 j:Int) != 1)=false:=by rw[b2];rfl
      have c7:=DF ((1:Int)<(Bb l 7 j:Int));repeat'(first|exact tT|refine WA tT (Y8 c1 c8 c7 i0 i1 kid0 hN.symm AB) ?_ ?_|refine EA J5 (Y8 c1 c8 c7 i0 i1 kid0 hN.symm AB) ?_|refine EA Ok (Y8 c1 c8 c7 i0 i1 kid0 hN.symm AB) ?_|(refine HE ?_;clear hK K)|refine WR fun K hK=>?_|refine HT ?_|refine WC (fun h=>?_) fun h=>?_|exact ff|fail)
      all_goals (first|exact⟨Aj,hR _ CK⟩|skip)
    ·have VF:=GV VF;rw[VF]at J5
     have Om:BM DJ e k d=false:=GV fun h=>by
      rw[Bm,Lb,Zba]at h;have:BM GB (e.kids.getD 0 default) (k+1) (d+1)=true:=Bm.2 ⟨h.1.1,Zo,Zo⟩;rw[VF]at this;cases this
     rw[Om];refine⟨k1,fun h=>(by cases h),?_⟩;refine FO 158 [.tmp 6] Tryz.func19 Tryz.ntmps19 fun B w0 Y R Am Az hY AQ AW Aj hR=>?_;have AB:=Il AW AQ 4 7 9
     repeat'(first|exact tT|refine WA (Y3 hb hr Ph) (Y8 cl q cz i1 a1 a2 a3 AB) ?_ ?_|refine EA BN (Y8 cl q cz i1 a1 a2 a3 AB) ?_|(refine HE ?_;clear hK K)|refine WR fun K hK=>?_|refine HT ?_|refine WC (fun h=>?_) fun h=>?_|exact ff|fail)
     refine AM (α:=Nat) (fun j=>⟨[(0,.p 1000 0),(2,AE d),(4,.p 4 0),(7,.p 7 0),(110,J0 e.kids 1 N),(111,AE N),(112,AE j)],(4,.box 27 (.AF (A1 e)))::(7,fH l j)::(1000,.box 48 (.AF [AE (k+1)]))::Y⟩) (fun j=>j≤N∧ ∀i,i<j→B8 (l.getD i default)=true) (fun j=>N - j) 0 ⟨Nat.zero_le _,fun i h=>by omega⟩ (by rw[hN];exact G.Al (AA Ai) Au) fun j hj=>?_;obtain⟨hj,BU⟩:=hj;have b6:= @HB l 6 j;have b7:= @HB l 7 j;have b8:= @HB l 8 j;by_cases Ak:j<N
     ·have c1:=DT ((j:Int)<(N:Int));have kid:=kidW j Zo;by_cases J1:(l.getD j default).kind=6
      ·skip
       have e6:((Bb l 6 (j+1):Nat):Int)=Bb l 6 j+1:=by rw[BA Zo,if_pos J1];omega
       have e7:Bb l 7 (j+1)=Bb l 7 j:=by rw[BA Zo,if_neg Zo];omega
       have e8:Bb l 8 (j+1)=Bb l 8 j:=by rw[BA Zo,if_neg Zo];omega
       repeat'(first|exact tT|refine WA tT (Y4 c1 kid J1 AB) ?_ ?_|(refine HE ?_;clear hK K)|refine WR fun K hK=>?_|refine HT ?_|refine WC (fun h=>?_) fun h=>?_|exact ff|fail)
       all_goals first|(rcases h with h|h<;>exact h.elim)|(refine⟨j+1,⟨⟨Zo,Cg (p:=fun i=>B8 (l.getD i default)=true) BU (CX.2 Zo)⟩,Zo⟩,?_⟩;simp only[fH,e6,e7,e8];exact G.Al (AA Ai) Au)
      by_cases J1:(l.getD j default).kind=7
      ·skip
       have e7:((Bb l 7 (j+1):Nat):Int)=Bb l 7 j+1:=by rw[BA Zo,if_pos J1];omega
       have e6:Bb l 6 (j+1)=Bb l 6 j:=by rw[BA Zo,if_neg Zo];omega
       have e8:Bb l 8 (j+1)=Bb l 8 j:=by rw[BA Zo,if_neg Zo];omega
       repeat'(first|exact tT|refine WA tT (Y4 c1 kid J1 AB) ?_ ?_|(refine HE ?_;clear hK K)|refine WR fun K hK=>?_|refine HT ?_|refine WC (fun h=>?_) fun h=>?_|exact ff|fail)
       all_goals first|(rcases h with h|h<;>exact h.elim)|(refine⟨j+1,⟨⟨Zo,Cg (p:=fun i=>B8 (l.getD i default)=true) BU (CX.2 Zo)⟩,Zo⟩,?_⟩;simp only[fH,e6,e7,e8];exact G.Al (AA Ai) Au)
      by_cases J1:(l.getD j default).kind=8
      ·skip
       have e8:((Bb l 8 (j+1):Nat):Int)=Bb l 8 j+1:=by rw[BA Zo,if_pos J1];omega
       have e6:Bb l 6 (j+1)=Bb l 6 j:=by rw[BA Zo,if_neg Zo];omega
       have e7:Bb l 7 (j+1)=Bb l 7 j:=by rw[BA Zo,if_neg Zo];omega
       repeat'(first|exact tT|refine WA tT (Y4 c1 kid J1 AB) ?_ ?_|(refine HE ?_;clear hK K)|refine WR fun K hK=>?_|refine HT ?_|refine WC (fun h=>?_) fun h=>?_|exact ff|fail)
       all_goals first|(rcases h with h|h<;>exact h.elim)|(refine⟨j+1,⟨⟨Zo,Cg (p:=fun i=>B8 (l.getD i default)=true) BU (CX.2 Zo)⟩,Zo⟩,?_⟩;simp only[fH,e6,e7,e8];exact G.Al (AA Ai) Au)
      exact absurd (List.all_eq_true.1 b1 _ (Ap (i:=j) Zo)) (fun h=>by rw[CX]at h;omega)
     ·obtain rfl:j=N:=Zo
      have c1:=DF ((j:Int)<(j:Int))
      have kx:l.all B8=true:=by
       rw[List.all_eq_true];intro x hx;obtain⟨i,hi,rfl⟩:=Kt hx;exact BU i Zo
      have c8:((Bb l 8 j:Int) != 1)=false:=by rw[b2];rfl
      have c7:=DF ((1:Int)<(Bb l 7 j:Int));repeat'(first|exact tT|refine WA tT (Y8 c1 c8 c7 i0 i1 kid0 hN.symm AB) ?_ ?_|refine EA J5 (Y8 c1 c8 c7 i0 i1 kid0 hN.symm AB) ?_|(refine HE ?_;clear hK K)|refine WR fun K hK=>?_|refine HT ?_|refine WC (fun h=>?_) fun h=>?_|exact ff|fail)
      all_goals (first|exact⟨Aj,hR _ CK⟩|skip)
   ·have hB:=GV hB;rw[Fg (by rw[FN];unfold cS;rw[hB];simp)];refine⟨k+1,fun h=>(by cases h),?_⟩;refine FO 158 [.tmp 6] Tryz.func19 Tryz.ntmps19 fun B w0 Y R Am Az hY AQ AW Aj hR=>?_;have AB:=Il AW AQ 4 7 9
    repeat'(first|exact tT|refine WA (Y3 hb hr Ph) (Y8 cl q cz i1 a1 a2 a3 AB) ?_ ?_|refine EA BN (Y8 cl q cz i1 a1 a2 a3 AB) ?_|(refine HE ?_;clear hK K)|refine WR fun K hK=>?_|refine HT ?_|refine WC (fun h=>?_) fun h=>?_|exact ff|fail)
    refine AM (α:=Nat) (fun j=>⟨[(0,.p 1000 0),(2,AE d),(4,.p 4 0),(7,.p 7 0),(110,J0 e.kids 1 N),(111,AE N),(112,AE j)],(4,.box 27 (.AF (A1 e)))::(7,fH l j)::(1000,.box 48 (.AF [AE (k+1)]))::Y⟩) (fun j=>j≤N∧ ∀i,i<j→B8 (l.getD i default)=true) (fun j=>N - j) 0 ⟨Nat.zero_le _,fun i h=>by omega⟩ (by rw[hN];exact G.Al (AA Ai) Au) fun j hj=>?_;obtain⟨hj,BU⟩:=hj;have b6:= @HB l 6 j;have b7:= @HB l 7 j;have b8:= @HB l 8 j;by_cases Ak:j<N
    ·have c1:=DT ((j:Int)<(N:Int));have kid:=kidW j Zo;by_cases J1:(l.getD j default).kind=6
     ·skip
      have e6:((Bb l 6 (j+1):Nat):Int)=Bb l 6 j+1:=by rw[BA Zo,if_pos J1];omega
      have e7:Bb l 7 (j+1)=Bb l 7 j:=by rw[BA Zo,if_neg Zo];omega
      have e8:Bb l 8 (j+1)=Bb l 8 j:=by rw[BA Zo,if_neg Zo];omega
      repeat'(first|exact tT|refine WA tT (Y4 c1 kid J1 AB) ?_ ?_|(refine HE ?_;clear hK K)|refine WR fun K hK=>?_|refine HT ?_|refine WC (fun h=>?_) fun h=>?_|exact ff|fail)
      all_goals first|(rcases h with h|h<;>exact h.elim)|(refine⟨j+1,⟨⟨Zo,Cg (p:=fun i=>B8 (l.getD i default)=true) BU (CX.2 Zo)⟩,Zo⟩,?_⟩;simp only[fH,e6,e7,e8];exact G.Al (AA Ai) Au)
     by_cases J1:(l.getD j default).kind=7
     ·skip
      have e7:((Bb l 7 (j+1):Nat):Int)=Bb l 7 j+1:=by rw[BA Zo,if_pos J1];omega
      have e6:Bb l 6 (j+1)=Bb l 6 j:=by rw[BA Zo,if_neg Zo];omega
      have e8:Bb l 8 (j+1)=Bb l 8 j:=by rw[BA Zo,if_neg Zo];omega
      repeat'(first|exact tT|refine WA tT (Y4 c1 kid J1 AB) ?_ ?_|(refine HE ?_;clear hK K)|refine WR fun K hK=>?_|refine HT ?_|refine WC (fun h=>?_) fun h=>?_|exact ff|fail)
      all_goals first|(rcases h with h|h<;>exact h.elim)|(refine⟨j+1,⟨⟨Zo,Cg (p:=fun i=>B8 (l.getD i default)=true) BU (CX.2 Zo)⟩,Zo⟩,?_⟩;simp only[fH,e6,e7,e8];exact G.Al (AA Ai) Au)
     by_cases J1:(l.getD j default).kind=8
     ·skip
      have e8:((Bb l 8 (j+1):Nat):Int)=Bb l 8 j+1:=by rw[BA Zo,if_pos J1];omega
      have e6:Bb l 6 (j+1)=Bb l 6 j:=by rw[BA Zo,if_neg Zo];omega
      have e7:Bb l 7 (j+1)=Bb l 7 j:=by rw[BA Zo,if_neg Zo];omega
      repeat'(first|exact tT|refine WA tT (Y4 c1 kid J1 AB) ?_ ?_|(refine HE ?_;clear hK K)|refine WR fun K hK=>?_|refine HT ?_|refine WC (fun h=>?_) fun h=>?_|exact ff|fail)
      all_goals first|(rcases h with h|h<;>exact h.elim)|(refine⟨j+1,⟨⟨Zo,Cg (p:=fun i=>B8 (l.getD i default)=true) BU (CX.2 Zo)⟩,Zo⟩,?_⟩;simp only[fH,e6,e7,e8];exact G.Al (AA Ai) Au)
     have cb:(decide ((l.getD j default).kind<6)||decide (8<(l.getD j default).kind))=true:=by
      simp only[Bool.or_eq_true,Zdt];omega
     repeat'(first|exact tT|refine WA tT (Y4 c1 kid cb AB) ?_ ?_|(refine HE ?_;clear hK K)|refine WR fun K hK=>?_|refine HT ?_|refine WC (fun h=>?_) fun h=>?_|exact ff|fail)
     all_goals (first|exact⟨Aj,hR _ CK⟩|skip)
    ·obtain rfl:j=N:=Zo
     have c1:=DF ((j:Int)<(j:Int))
     have kx:l.all B8=true:=by
      rw[List.all_eq_true];intro x hx;obtain⟨i,hi,rfl⟩:=Kt hx;exact BU i Zo
     have cc:((Bb l 8 j:Int) != 1||decide ((1:Int)<(Bb l 7 j:Int)))=true:=by
      rw[zi,kx,Bool.true_and]at hB;simp only[Bool.and_eq_false_iff,decide_eq_false_iff_not]at hB;simp only[Bool.or_eq_true,bne_iff_ne,Zdt];omega
     repeat'(first|exact tT|refine WA tT (Y3 c1 cc AB) ?_ ?_|(refine HE ?_;clear hK K)|refine WR fun K hK=>?_|refine HT ?_|refine WC (fun h=>?_) fun h=>?_|exact ff|fail)
     all_goals (first|exact⟨Aj,hR _ CK⟩|skip)
  ·have hA:=GV hA;rw[Fg (by rw[FN];unfold cS;rw[hA];simp)];refine⟨k+1,fun h=>(by cases h),?_⟩;unfold cR at hA
   have ct:(!BI e.n|| !BK e.name|| !Jt e e.name ⟨#[]⟩ e.n 0 0 0 0 []||decide (e.kids.length=0))=true:=by
    have x3:decide (e.kids.length=0)= !decide (0<e.kids.length):=by
     by_cases h:0<e.kids.length
     ·rw[Zde h,Zdf Zo];rfl
     ·rw[Zdf h,Zde Zo];rfl
    rw[x3,←Bool.not_and,←Bool.not_and,←Bool.not_and,hA];rfl
   by_cases hp:(!BI e.n|| !BK e.name)=true
   ·refine FO 158 [.tmp 6] Tryz.func19 Tryz.ntmps19 fun B w0 Y R Am Az hY AQ AW Aj hR=>?_;have AB:=Il AW AQ 4 7 9
    repeat'(first|exact tT|refine WA (Y3 hb hr Ph) (Y4 cl q hp AB) ?_ ?_|refine EA BN (Y4 cl q hp AB) ?_|(refine HE ?_;clear hK K)|refine WR fun K hK=>?_|refine HT ?_|refine WC (fun h=>?_) fun h=>?_|exact ff|fail)
    all_goals (first|exact⟨Aj,hR _ CK⟩|skip)
   ·have hp:=GV hp;rw[hp,Bool.false_or]at ct;refine FO 158 [.tmp 6] Tryz.func19 Tryz.ntmps19 fun B w0 Y R Am Az hY AQ AW Aj hR=>?_;have AB:=Il AW AQ 4 7 9
    repeat'(first|exact tT|refine WA (Y3 hb hr Ph) (Y5 cl q hp ct AB) ?_ ?_|refine EA BN (Y5 cl q hp ct AB) ?_|(refine HE ?_;clear hK K)|refine WR fun K hK=>?_|refine HT ?_|refine WC (fun h=>?_) fun h=>?_|exact ff|fail)
    all_goals (first|exact⟨Aj,hR _ CK⟩|skip)
 have q:(e.kind==2)=false∧(e.kind==3)=false∧(e.kind==4)=false:=⟨beq_false_of_ne k2,beq_false_of_ne k3,beq_false_of_ne k4⟩;rw[if_neg k2,if_neg k3,if_neg k4]at FN;rw[Fg FN];refine⟨k+1,fun h=>(by cases h),?_⟩;refine FO 158 [.tmp 6] Tryz.func19 Tryz.ntmps19 fun B w0 Y R Am Az hY AQ AW Aj hR=>?_;have AB:=Il AW AQ 4 7 9
 repeat'(first|exact tT|refine WA tT (Y2 q AB) ?_ ?_|refine EA BN (Y2 q AB) ?_|(refine HE ?_;clear hK K)|refine WR fun K hK=>?_|refine HT ?_|refine WC (fun h=>?_) fun h=>?_|exact ff|fail)
 all_goals (first|exact⟨Aj,hR _ CK⟩|skip)
def FW(e:Nd):Bool:=if e.kind=1 then Ff e ⟨#[]⟩ ⟨#[]⟩ 0&&Gx DJ e.kids 1 2 else BM BC e 0 1
set_option maxHeartbeats 4000000 in
theorem KQ(e:Nd)(Ae:Cz e):Pure Tryz.prog 6 [.a (A1 e)] (BL (FW e)):=by
 have Ci:=Ae.spec.kids;have BN:=Mf e 0 1 Zo Zo;rw[show(decide ((0:Int)+1≤2000)&&decide ((1:Int)≤40))=true from rfl]at BN;have hb:=Ev e ⟨#[]⟩ ⟨#[]⟩ 0 0 0 0 0 Ae;unfold FW;by_cases k1:e.kind=1
 ·rw[if_pos k1];have q:(e.kind != 1)=false:=by rw[k1];rfl
  by_cases h1:Ff e ⟨#[]⟩ ⟨#[]⟩ 0=true
  ·rw[h1,Bool.true_and];obtain⟨k',_,hc⟩:=YO 19 DJ e.kids Ci (fun x hx=>Zz5 x (Ci.1 x hx)) 1 2 Zo Zo;refine Ea (n:=28) (res:= [.tmp 2]) hT Tryz.func6 rfl rfl rfl Tryz.ntmps6 (Nat.le_of_ble_eq_true rfl) fun B w0 F8 Az=>?_;have Am:=CW.none F8;have AB:True:=trivial;repeat'(first|exact tT|refine WA tT q ?_ ?_|(refine PE ?_;clear hK K)|refine WR fun K hK=>?_|refine PT ?_|refine WC (fun h=>?_) fun h=>?_|exact ff|fail)
   refine Eg _ (fun a w h=>h.rn 5 1000 (by push_cast[Bg,AV.ids]) (by push_cast) (F8 1000)) ?_;push_cast;repeat'(first|exact tT|refine WA hb (Y3 q h1 AB) ?_ ?_|refine EA BN (Y3 q h1 AB) ?_|refine EA hc (Y3 q h1 AB) ?_|(refine HE ?_;clear hK K)|refine WR fun K hK=>?_|refine HT ?_|refine WC (fun h=>?_) fun h=>?_|exact ff|fail)
   all_goals done
  ·have h1:=GV h1;rw[h1,Bool.false_and];refine Ea (n:=28) (res:= [.tmp 2]) hT Tryz.func6 rfl rfl rfl Tryz.ntmps6 (Nat.le_of_ble_eq_true rfl) fun B w0 F8 Az=>?_;have Am:=CW.none F8;have AB:True:=trivial;repeat'(first|exact tT|refine WA tT q ?_ ?_|(refine PE ?_;clear hK K)|refine WR fun K hK=>?_|refine PT ?_|refine WC (fun h=>?_) fun h=>?_|exact ff|fail)
   refine Eg _ (fun a w h=>h.rn 5 1000 (by push_cast[Bg,AV.ids]) (by push_cast) (F8 1000)) ?_;push_cast;repeat'(first|exact tT|refine WA hb (Y3 q h1 AB) ?_ ?_|refine EA BN (Y3 q h1 AB) ?_|(refine HE ?_;clear hK K)|refine WR fun K hK=>?_|refine HT ?_|refine WC (fun h=>?_) fun h=>?_|exact ff|fail)
   all_goals done
 ·rw[if_neg k1];have q:(e.kind != 1)=true:=bne_iff_ne.2 k1;obtain⟨k',_,hc⟩:=T5 e Ae 0 1 Zo Zo;generalize BM BC e 0 1=r at*;refine Ea (n:=28) (res:= [.tmp 2]) hT Tryz.func6 rfl rfl rfl Tryz.ntmps6 (Nat.le_of_ble_eq_true rfl) fun B w0 F8 Az=>?_;have Am:=CW.none F8;have AB:True:=trivial;repeat'(first|exact tT|refine WA tT q ?_ ?_|(refine PE ?_;clear hK K)|refine WR fun K hK=>?_|refine PT ?_|refine WC (fun h=>?_) fun h=>?_|exact ff|fail)
  refine Eg _ (fun a w h=>h.rn 5 1000 (by push_cast[Bg,AV.ids]) (by push_cast) (F8 1000)) ?_;push_cast;repeat'(first|exact tT|refine WA tT (Y2 q AB) ?_ ?_|refine EA hc (Y2 q AB) ?_|(refine HE ?_;clear hK K)|refine WR fun K hK=>?_|refine HT ?_|refine WC (fun h=>?_) fun h=>?_|exact ff|fail)
  all_goals done
end Go.Proofs.YthemnhjojaehhaaGreatDoor
namespace Go.Tp
def rp(d:List Dg)(e:Int):List Dg:=if d.length<20 then d++ [⟨e⟩]else d
def KR(s:ByteArray):Bool:= !(decide (s=⟨#[]⟩)||decide (s=Aa)||decide (s=AZ)||decide (s=BH))
def BZ(us:List ByteArray)(i:Nat):ByteArray:=us.getD i ⟨#[]⟩
def CE(us:List ByteArray):Bool:=us.all fun x=>decide (x=BZ us 0)
def Aq(op:ByteArray)(us:List ByteArray):ByteArray:=
 let a:=BZ us 0
 let b:=BZ us (us.length - 1)
 if op=⟨#[111,114]⟩∨op=⟨#[97,110,100]⟩then(if a=Aa∧CE us=true then Aa else⟨#[]⟩)
 else if op=⟨#[61,61]⟩∨op=⟨#[33,61]⟩then(if CE us=true then Aa else⟨#[]⟩)
 else if op=⟨#[60]⟩∨op=⟨#[60,61]⟩then(if CE us=true∧a≠Aa then Aa else⟨#[]⟩)
 else if op=⟨#[43]⟩∨op=⟨#[45]⟩then(if CE us=true∧a≠Aa then a else⟨#[]⟩)
 else if op=⟨#[42]⟩then(if a=AZ then(if b=Aa then⟨#[]⟩else b)else if b=AZ then(if a=Aa then⟨#[]⟩else a)else⟨#[]⟩)
 else if op=⟨#[47]⟩then(if a=Aa then⟨#[]⟩else a)
 else if op=⟨#[97,116]⟩then(if a=BH∧KR b=true then b else⟨#[]⟩)
 else⟨#[]⟩
structure Sc where
 facts:List (ByteArray×ByteArray)
 lines:List (ByteArray×ByteArray)
 BX:List (Int×ByteArray)
 deriving Inhabited
def Fh(l:List (ByteArray×ByteArray))(x:ByteArray):ByteArray:=((l.find? fun p=>decide (p.1=x)).map (·.2)).getD ⟨#[]⟩
def IS(l:List (Int×ByteArray))(x:Int):ByteArray:=((l.find? fun p=>decide (p.1=x)).map (·.2)).getD ⟨#[]⟩
def T6(l:List (ByteArray×ByteArray))(x:ByteArray):Bool:=l.any fun p=>decide (p.1=x)
def Od(l:List (Int×ByteArray))(x:Int):Bool:=l.any fun p=>decide (p.1=x)
def CY(sc:Sc)(e:Nd)(us:List ByteArray):ByteArray×Int:=
 if e.kind=11 then(e.u,11)
 else if e.kind=12 then(Fh sc.facts e.name,91)
 else if e.kind=13 then(Fh sc.lines (IS sc.BX e.n),91)
 else if e.kind=14 then(AZ,11)
 else if e.kind=15 then(Aq ⟨#[97,110,100]⟩ us,11)
 else if e.kind=16 then(Aq e.name us,11)
 else if e.kind=17 then(Aq ⟨#[43]⟩ us,11)
 else if e.kind=18 then((if KR (BZ us 0)=true then BZ us 0 else⟨#[]⟩),11)
 else(⟨#[]⟩,11)
def I7(sc:Sc)(e:Nd)(us:List ByteArray)(d:List Dg):ByteArray×List Dg:=
 if(us.all fun x=> !decide (x=⟨#[]⟩))=true then((CY sc e us).1,if(CY sc e us).1=⟨#[]⟩then rp d (CY sc e us).2 else d)else(⟨#[]⟩,d)
mutual
def BO(sc:Sc):Nd→List Dg→ByteArray×List Dg
 | .mk k nm u n f t kn dn ps ks,d=>I7 sc (.mk k nm u n f t kn dn ps ks) (Bx sc ks d).1 (Bx sc ks d).2
def Bx(sc:Sc):List Nd→List Dg→List ByteArray×List Dg
 | [],d=>([],d)
 |k::r,d=>((BO sc k d).1::(Bx sc r (BO sc k d).2).1,(Bx sc r (BO sc k d).2).2)
end
theorem NX(sc:Sc)(e:Nd)(d:List Dg):BO sc e d=I7 sc e (Bx sc e.kids d).1 (Bx sc e.kids d).2:=by
 cases e with
 |mk k nm u n f t kn dn ps ks=>rw[BO];rfl
theorem Vx(sc:Sc)(l:List Nd)(k:Nd)(d:List Dg):Bx sc (l++ [k]) d=((Bx sc l d).1++ [(BO sc k (Bx sc l d).2).1],(BO sc k (Bx sc l d).2).2):=by
 induction l generalizing d with
 |nil=>simp[Bx]
 |cons x r ih=>simp only[List.cons_append,Bx,ih]
theorem YR(sc:Sc)(l:List Nd)(d:List Dg):(Bx sc l d).1.length=l.length:=by
 induction l generalizing d with
 |nil=>simp[Bx]
 |cons x r ih=>simp only[Bx,List.length_cons,ih]
theorem OF{d:List Dg}{e:Int}(h:d.length≤20):(rp d e).length≤20:=by
 unfold rp;split
 ·simp;omega
 ·exact h
theorem Kv(sc:Sc)(e:Nd): ∀d:List Dg,d.length≤20→(BO sc e d).2.length≤20:=by
 induction e using Nd.ind with
 |h e ih=>
  intro d hd
  have key: ∀(l:List Nd),(∀k∈l,k∈e.kids)→ ∀d:List Dg,d.length≤20→(Bx sc l d).2.length≤20:=by
   intro l;induction l with
   |nil=>intro _ d hd;simpa[Bx]using hd
   |cons x r ihr=>
    intro hm d hd;simp only[Bx];exact ihr (fun k hk=>hm k (by simp[hk])) _ (ih x (hm x (by simp)) d hd)
  rw[NX];unfold I7;have h1:=key e.kids (fun _ h=>h) d hd;split
  ·show(if _ then _ else _:List Dg).length≤20;split
   ·exact OF h1
   ·exact h1
  ·exact h1
theorem cT(sc:Sc)(l:List Nd)(d:List Dg)(hd:d.length≤20):(Bx sc l d).2.length≤20:=by
 induction l generalizing d with
 |nil=>simpa[Bx]using hd
 |cons x r ih=>simp only[Bx];exact ih _ (Kv sc x d hd)
end Go.Tp
