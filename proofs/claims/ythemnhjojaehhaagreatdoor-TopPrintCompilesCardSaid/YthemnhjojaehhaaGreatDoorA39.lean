/- Part of a proof. -/
import Derived.Test.YthemnhjojaehhaaGreatDoorA38
import Derived.Test.YthemnhjojaehhaaGreatDoorA35
set_option linter.all false
namespace Go.Proofs.YthemnhjojaehhaaGreatDoor
open Go.Ad Go.Proofs Go.Tp
attribute [local irreducible] A8 AK BY Go.Ad.Pure BS
theorem Gs(d:List Dg)(hd:d.length≤20)(er:Int):BS Tryz.prog T 92 [AE er,.o,.p 1000 0] (Oe d) (.t []) (Oe (rp d er)):=Sm d hd er
set_option maxHeartbeats 16000000 in
theorem Q2(sc:Sc)(a c:Nd)(hoa:Cz a)(hoc:Cz c)(Bh:c.size≤100000)(hv:c.kind=7∨(1≤c.kids.length∧BC (CN c)=true))(d:List Dg)(hd:d.length≤20):BS Tryz.prog T 61 [yF,.a (A1 a),.a (A1 c),eI] (ZG sc++Oe d) (.t []) (ZG sc++Oe (UA sc a c d)):=by
 have Ci:=hoc.spec.kids;have hl:=Ci.2;by_cases k7:c.kind=7
 ·have q7:(c.kind==7)=true:=by rw[k7];rfl
  have Ki:UA sc a c d=fI sc a.n c.kids d:=by unfold UA;rw[if_pos k7]
  rw[Ki];refine FO 80 [] Tryz.func61 Tryz.ntmps61 fun B w0 Y R Am Az hY AQ AW Aj hR=>?_;have AB:=fF AW AQ 4 5 6 9 13
  repeat'(first|exact tT|refine WA tT (Y2 q7 AB) ?_ ?_|(refine HE ?_;clear hK K)|refine WR fun K hK=>?_|refine HT ?_|refine WC (fun h=>?_) fun h=>?_|exact ff|fail)
  refine AM (α:=Nat) (fun j=>⟨[(21,AE j),(20,AE c.kids.length),(19,CS c.kids),(3,eI),(4,.p 4 0),(5,.p 5 0)],(4,.box 123 (.AF [.s 1002,.s 1004,.s 1006]))::(5,.box 27 (.AF (A1 a)))::(ZG sc++Oe (fI sc a.n (c.kids.take j) d)++Y)⟩) (fun j=>j≤c.kids.length) (fun j=>c.kids.length - j) 0 (Nat.zero_le _) (by exact G.Al (AA Ai) Au) fun j hj=>?_;have Gu:=iL sc a.n (c.kids.take j) d hd;by_cases Ak:j<c.kids.length
  ·have c1:=DT ((j:Int)<(c.kids.length:Int));have kid:=Aw Ak;have BE:=iM sc a.n c.kids d j Ak;generalize fI sc a.n (c.kids.take j) d=dj at*;generalize c.kids.getD j default=x at*;have fin: ∀d2:List Dg,(if x.n=a.n then rp dj 101 else if Od sc.BX x.n=true then dj else rp dj 91)=d2→fI sc a.n (c.kids.take (j+1)) d=d2:=fun d2 h=>BE.trans h;by_cases hn:x.n=a.n
   ·have hs:=fin (rp dj 101) (if_pos hn);have q1:(x.n==a.n)=true:=beq_iff_eq.2 hn;have hr:=Gs dj Gu 101;repeat'(first|exact tT|refine WA tT (Y4 c1 kid q1 AB) ?_ ?_|refine EO hr (Y4 c1 kid q1 AB) ?_|(refine HE ?_;clear hK K)|refine WR fun K hK=>?_|refine HT ?_|refine WC (fun h=>?_) fun h=>?_|exact ff|fail)
    all_goals (refine⟨j+1,⟨Zo,Zo⟩,?_⟩;simp only[hs];exact G.Al (AA Ai) Au)
   ·have q1:(x.n==a.n)=false:=beq_false_of_ne hn;by_cases hh:Od sc.BX x.n=true
    ·have hs:=fin dj (by rw[if_neg hn,if_pos hh]);repeat'(first|exact tT|refine WA tT (Y5 c1 kid q1 hh AB) ?_ ?_|(refine HE ?_;clear hK K)|refine WR fun K hK=>?_|refine HT ?_|refine WC (fun h=>?_) fun h=>?_|exact ff|fail)
     all_goals (refine⟨j+1,⟨Zo,Zo⟩,?_⟩;simp only[hs];exact G.Al (AA Ai) Au)
    ·have hs:=fin (rp dj 91) (by rw[if_neg hn,if_neg hh]);have hh:=GV hh;have hr:=Gs dj Gu 91;repeat'(first|exact tT|refine WA tT (Y5 c1 kid q1 hh AB) ?_ ?_|refine EO hr (Y5 c1 kid q1 hh AB) ?_|(refine HE ?_;clear hK K)|refine WR fun K hK=>?_|refine HT ?_|refine WC (fun h=>?_) fun h=>?_|exact ff|fail)
     all_goals (refine⟨j+1,⟨Zo,Zo⟩,?_⟩;simp only[hs];exact G.Al (AA Ai) Au)
  ·obtain rfl:j=c.kids.length:=Zo
   have c1:=DF ((c.kids.length:Int)<(c.kids.length:Int));rw[List.take_length];repeat'(first|exact tT|refine WA tT (Y2 c1 AB) ?_ ?_|(refine HE ?_;clear hK K)|refine WR fun K hK=>?_|refine HT ?_|refine WC (fun h=>?_) fun h=>?_|exact ff|fail)
   all_goals exact⟨Aj,hR _ IB⟩
 ·have q7:(c.kind==7)=false:=beq_false_of_ne k7;obtain⟨Iv,hex⟩:=hv.resolve_left k7;have c2:=DT ((0:Int)<(c.kids.length:Int));have kid:=Aw (ks:=c.kids) (k:=0) Zo;have hc:=j3 sc (CN c) (Ci.nth Zo) (by have:=Fz (l:=c.kids) (j:=0) Zo;have:=Nd.size_eq c;show(c.kids.getD 0 default).size≤100000;omega) hex d hd;have Ki:UA sc a c d=(if(BO sc (CN c) d).1≠⟨#[]⟩∧pZ sc a c≠⟨#[]⟩∧(BO sc (CN c) d).1≠pZ sc a c then rp (BO sc (CN c) d).2 11 else(BO sc (CN c) d).2):=by unfold UA;rw[if_neg k7]
  have Gu:=Kv sc (CN c) d hd;unfold CN at hc Ki Gu;generalize BO sc (c.kids.getD 0 default) d=q at*;obtain⟨u,dk⟩:=q;simp only at hc Ki Gu;have hr:=Gs dk Gu 11;by_cases k6:c.kind=6
  ·have q6:(c.kind==6)=true:=by rw[k6];rfl
   have hw:pZ sc a c=Aa:=by unfold pZ;rw[if_pos k6]
   rw[hw]at Ki;have e3:decide ((⟨#[116,114,117,116,104]⟩:ByteArray)=⟨#[]⟩)=false:=Zd
   by_cases hu:u=⟨#[]⟩
   ·have Ki:UA sc a c d=dk:=by rw[Ki,if_neg (fun h=>h.1 hu)]
    rw[Ki];have hu:=Zde hu;refine FO 80 [] Tryz.func61 Tryz.ntmps61 fun B w0 Y R Am Az hY AQ AW Aj hR=>?_;have AB:=fF AW AQ 4 5 6 9 13
    repeat'(first|exact tT|refine WA tT (Y7 q7 q6 c2 kid hu e3 AB) ?_ ?_|refine EO hc (Y7 q7 q6 c2 kid hu e3 AB) ?_|refine EO hr (Y7 q7 q6 c2 kid hu e3 AB) ?_|(refine HE ?_;clear hK K)|refine WR fun K hK=>?_|refine HT ?_|refine WC (fun h=>?_) fun h=>?_|exact ff|fail)
    all_goals exact⟨Aj,hR _ IB⟩
   ·by_cases MD:u=Aa
    ·have Ki:UA sc a c d=dk:=by rw[Ki,if_neg (fun h=>h.2.2 MD)]
     rw[Ki];have hu:=Zdf hu;have MD:decide (u=(⟨#[116,114,117,116,104]⟩:ByteArray))=true:=Zde MD;refine FO 80 [] Tryz.func61 Tryz.ntmps61 fun B w0 Y R Am Az hY AQ AW Aj hR=>?_;have AB:=fF AW AQ 4 5 6 9 13
     repeat'(first|exact tT|refine WA tT (Y8 q7 q6 c2 kid hu MD e3 AB) ?_ ?_|refine EO hc (Y8 q7 q6 c2 kid hu MD e3 AB) ?_|refine EO hr (Y8 q7 q6 c2 kid hu MD e3 AB) ?_|(refine HE ?_;clear hK K)|refine WR fun K hK=>?_|refine HT ?_|refine WC (fun h=>?_) fun h=>?_|exact ff|fail)
     all_goals exact⟨Aj,hR _ IB⟩
    ·have Ki:UA sc a c d=rp dk 11:=by rw[Ki,if_pos ⟨hu,Zd,MD⟩]
     rw[Ki];have hu:=Zdf hu;have MD:decide (u=(⟨#[116,114,117,116,104]⟩:ByteArray))=false:=Zdf MD;refine FO 80 [] Tryz.func61 Tryz.ntmps61 fun B w0 Y R Am Az hY AQ AW Aj hR=>?_;have AB:=fF AW AQ 4 5 6 9 13
     repeat'(first|exact tT|refine WA tT (Y8 q7 q6 c2 kid hu MD e3 AB) ?_ ?_|refine EO hc (Y8 q7 q6 c2 kid hu MD e3 AB) ?_|refine EO hr (Y8 q7 q6 c2 kid hu MD e3 AB) ?_|(refine HE ?_;clear hK K)|refine WR fun K hK=>?_|refine HT ?_|refine WC (fun h=>?_) fun h=>?_|exact ff|fail)
     all_goals exact⟨Aj,hR _ IB⟩
  ·have q6:(c.kind==6)=false:=beq_false_of_ne k6;have hw:pZ sc a c=Fh sc.lines a.name:=by unfold pZ;rw[if_neg k6]
   rw[hw]at Ki;by_cases hu:u=⟨#[]⟩
   ·have Ki:UA sc a c d=dk:=by rw[Ki,if_neg (fun h=>h.1 hu)]
    rw[Ki];have hu:=Zde hu;refine FO 80 [] Tryz.func61 Tryz.ntmps61 fun B w0 Y R Am Az hY AQ AW Aj hR=>?_;have AB:=fF AW AQ 4 5 6 9 13
    repeat'(first|exact tT|refine WA tT (Y6 q7 q6 c2 kid hu AB) ?_ ?_|refine EO hc (Y6 q7 q6 c2 kid hu AB) ?_|refine EO hr (Y6 q7 q6 c2 kid hu AB) ?_|(refine HE ?_;clear hK K)|refine WR fun K hK=>?_|refine HT ?_|refine WC (fun h=>?_) fun h=>?_|exact ff|fail)
    all_goals exact⟨Aj,hR _ IB⟩
   ·by_cases h3:Fh sc.lines a.name=⟨#[]⟩
    ·have Ki:UA sc a c d=dk:=by rw[Ki,if_neg (fun h=>h.2.1 h3)]
     rw[Ki];have hu:=Zdf hu;have h3:=Zde h3;refine FO 80 [] Tryz.func61 Tryz.ntmps61 fun B w0 Y R Am Az hY AQ AW Aj hR=>?_;have AB:=fF AW AQ 4 5 6 9 13
     repeat'(first|exact tT|refine WA tT (Y7 q7 q6 c2 kid hu h3 AB) ?_ ?_|refine EO hc (Y7 q7 q6 c2 kid hu h3 AB) ?_|refine EO hr (Y7 q7 q6 c2 kid hu h3 AB) ?_|(refine HE ?_;clear hK K)|refine WR fun K hK=>?_|refine HT ?_|refine WC (fun h=>?_) fun h=>?_|exact ff|fail)
     all_goals exact⟨Aj,hR _ IB⟩
    ·by_cases MD:u=Fh sc.lines a.name
     ·have Ki:UA sc a c d=dk:=by rw[Ki,if_neg (fun h=>h.2.2 MD)]
      rw[Ki];have hu:=Zdf hu;have h3:=Zdf h3;have MD:=Zde MD;refine FO 80 [] Tryz.func61 Tryz.ntmps61 fun B w0 Y R Am Az hY AQ AW Aj hR=>?_;have AB:=fF AW AQ 4 5 6 9 13
      repeat'(first|exact tT|refine WA tT (Y8 q7 q6 c2 kid hu MD h3 AB) ?_ ?_|refine EO hc (Y8 q7 q6 c2 kid hu MD h3 AB) ?_|refine EO hr (Y8 q7 q6 c2 kid hu MD h3 AB) ?_|(refine HE ?_;clear hK K)|refine WR fun K hK=>?_|refine HT ?_|refine WC (fun h=>?_) fun h=>?_|exact ff|fail)
      all_goals exact⟨Aj,hR _ IB⟩
     ·have Ki:UA sc a c d=rp dk 11:=by rw[Ki,if_pos ⟨hu,h3,MD⟩]
      rw[Ki];have hu:=Zdf hu;have h3:=Zdf h3;have MD:=Zdf MD;refine FO 80 [] Tryz.func61 Tryz.ntmps61 fun B w0 Y R Am Az hY AQ AW Aj hR=>?_;have AB:=fF AW AQ 4 5 6 9 13
      repeat'(first|exact tT|refine WA tT (Y8 q7 q6 c2 kid hu MD h3 AB) ?_ ?_|refine EO hc (Y8 q7 q6 c2 kid hu MD h3 AB) ?_|refine EO hr (Y8 q7 q6 c2 kid hu MD h3 AB) ?_|(refine HE ?_;clear hK K)|refine WR fun K hK=>?_|refine HT ?_|refine WC (fun h=>?_) fun h=>?_|exact ff|fail)
      all_goals exact⟨Aj,hR _ IB⟩
theorem PX{x y z:AV}:LD [Key.i 2,Key.i 3] (.i 2) (.AF [x,y]) z=x:=PS
theorem PY{x y z:AV}:LD [Key.i 2,Key.i 3] (.i 3) (.AF [x,y]) z=y:=by rw[Um Zd];exact PS
theorem uk2:Jr [] (.i 2)= [Key.i 2]:=rfl
theorem uk3:Jr [Key.i 2] (.i 3)= [Key.i 2,Key.i 3]:=rfl
theorem uv2(x:AV):Eb [] [] (.i 2) x= [x]:=rfl
theorem uv3(x y:AV):Eb [Key.i 2] [y] (.i 3) x= [y,x]:=rfl
theorem PZ:((2:Int)==4)=false∧((3:Int)==4)=false∧((2:Int)==3)=false∧((3:Int)==3)=true:=Zd
set_option maxHeartbeats 16000000 in
theorem Un(e:Nd)(Ae:Cz e)(J1: ∀x∈e.kids,x.kind=2∨x.kind=3∨x.kind=4)(Bh:e.size≤100000)(d:List Dg)(hd:d.length≤20):BS Tryz.prog T 60 [.a (A1 e),eI] (Oe d) (.t []) (Oe (Z9 e.kids d).d):=by
 have Ci:=Ae.spec.kids;have hl:=Ci.2;have E5:=PU e;refine FO 83 [] Tryz.func60 Tryz.ntmps60 fun B w0 Y R Am Az hY AQ AW Aj hR=>?_;have AB:=KK6 AW AQ 2 7 9 10 11 12
 repeat'(first|exact tT|refine WA tT (Y5 @uk2 @uk3 @uv2 @uv3 AB) ?_ ?_|refine WM (Y5 @uk2 @uk3 @uv2 @uv3 AB) ?_ ?_|(refine HE ?_;clear hK K)|refine WR fun K hK=>?_|refine HT ?_|refine WC (fun h=>?_) fun h=>?_|exact ff|fail)
 refine AM (α:=Nat) (fun j=>⟨[(17,AE j),(16,AE e.kids.length),(15,CS e.kids),(1,eI),(4,.s 9),(5,.s 10)],(9,.mp (.ints true .i64 (Z9 (e.kids.take j) d).cm))::(10,.DN true [.i 2,.i 3] (.AF [.s 11,.s 12]))::(11,.mp (.LO false (Z9 (e.kids.take j) d).sf))::(12,.mp (.LO false (Z9 (e.kids.take j) d).sl))::(Oe (Z9 (e.kids.take j) d).d++Y)⟩) (fun j=>j≤e.kids.length) (fun j=>e.kids.length - j) 0 (Nat.zero_le _) (by exact G.Al (AA Ai) Au) fun j hj=>?_;have F3:=T9 (e.kids.take j) d hd;rw[List.length_take,Nat.min_eq_left hj]at F3;by_cases Ak:j<e.kids.length
 ·have c1:=DT ((j:Int)<(e.kids.length:Int));have kid:=Aw Ak;have BE:=iJ e.kids d j Ak;have EF:=J1 _ (Ap Ak);have RZ:=(Ci.nth Ak).spec.name;generalize Z9 (e.kids.take j) d=s at*;generalize e.kids.getD j default=x at*;obtain⟨cm,sf,sl,dj⟩:=s;obtain⟨pC,HR,BF,SE,Gu⟩:=F3;simp only at pC HR BF SE Gu ⊢;have fin: ∀s2:Dc,Hk ⟨cm,sf,sl,dj⟩ x=s2→Z9 (e.kids.take (j+1)) d=s2:=fun d2 h=>BE.trans h;by_cases k4:x.kind=4
  ·have q4:(x.kind==4)=true:=by rw[k4];rfl
   have hs:=fin ⟨cm,sf,sl,dj⟩ (by unfold Hk;rw[if_pos k4]);repeat'(first|exact tT|refine WA tT (Y4 c1 kid q4 AB) ?_ ?_|refine WM (Y4 c1 kid q4 AB) ?_ ?_|(refine HE ?_;clear hK K)|refine WR fun K hK=>?_|refine HT ?_|refine WC (fun h=>?_) fun h=>?_|exact ff|fail)
   all_goals (refine⟨j+1,⟨Zo,Zo⟩,?_⟩;simp only[hs];exact G.Al (AA Ai) Au)
  by_cases k2:x.kind=2
  ·have HS:=pC (.i 2);have Ix:Hk ⟨cm,sf,sl,dj⟩ x=⟨A5 cm (.i 2) (A0 cm (.i 2) 0+1),A5 sf (.s x.name) true,sl,mf ⟨cm,sf,sl,dj⟩ x⟩:=by unfold Hk IT;rw[if_neg k4,k2];rfl
   have XY:mf ⟨cm,sf,sl,dj⟩ x=(if A0 sf (.s x.name) false=true then rp dj 5 else if 32<A0 cm (.i 2) 0+1 then rp dj 2 else if I9 x=true then rp dj 11 else dj):=by unfold mf YT IT;rw[k2];rfl
   by_cases h1:A0 sf (.s x.name) false=true
   ·have hr:=Gs dj Gu 5;have hs:=fin ⟨A5 cm (.i 2) (A0 cm (.i 2) 0+1),A5 sf (.s x.name) true,sl,rp dj 5⟩ (by rw[Ix,XY,if_pos h1]);repeat'(first|exact tT|refine WA tT (Y9 c1 kid k2 @PZ @PX @PY @Ag h1 AB) ?_ ?_|refine WM (Y9 c1 kid k2 @PZ @PX @PY @Ag h1 AB) ?_ ?_|refine EO hr (Y9 c1 kid k2 @PZ @PX @PY @Ag h1 AB) ?_|(refine HE ?_;clear hK K)|refine WR fun K hK=>?_|refine HT ?_|refine WC (fun h=>?_) fun h=>?_|exact ff|fail)
    all_goals (first|omega|(refine⟨j+1,⟨Zo,Zo⟩,?_⟩;simp only[hs];exact G.Al (AA Ai) Au))
   ·have qT:=h1;have h1:=GV h1;by_cases h2:32<A0 cm (.i 2) 0+1
    ·have c3:=Zde h2;have hr:=Gs dj Gu 2;have hs:=fin ⟨A5 cm (.i 2) (A0 cm (.i 2) 0+1),A5 sf (.s x.name) true,sl,rp dj 2⟩ (by rw[Ix,XY,if_neg qT,if_pos h2]);repeat'(first|exact tT|refine WA tT (Y9 c1 kid k2 @PZ @PX @PY @Ag h1 (Y2 c3 AB)) ?_ ?_|refine WM (Y9 c1 kid k2 @PZ @PX @PY @Ag h1 (Y2 c3 AB)) ?_ ?_|refine EO hr (Y9 c1 kid k2 @PZ @PX @PY @Ag h1 (Y2 c3 AB)) ?_|(refine HE ?_;clear hK K)|refine WR fun K hK=>?_|refine HT ?_|refine WC (fun h=>?_) fun h=>?_|exact ff|fail)
     all_goals (first|omega|(refine⟨j+1,⟨Zo,Zo⟩,?_⟩;simp only[hs];exact G.Al (AA Ai) Au))
    ·have c3:=Zdf h2;have hb: ¬I9 x=true:=by unfold I9;rw[k2];simp
     have hs:=fin ⟨A5 cm (.i 2) (A0 cm (.i 2) 0+1),A5 sf (.s x.name) true,sl,dj⟩ (by rw[Ix,XY,if_neg qT,if_neg h2,if_neg hb]);repeat'(first|exact tT|refine WA tT (Y9 c1 kid k2 @PZ @PX @PY @Ag h1 (Y2 c3 AB)) ?_ ?_|refine WM (Y9 c1 kid k2 @PZ @PX @PY @Ag h1 (Y2 c3 AB)) ?_ ?_|(refine HE ?_;clear hK K)|refine WR fun K hK=>?_|refine HT ?_|refine WC (fun h=>?_) fun h=>?_|exact ff|fail)
     all_goals (first|omega|(refine⟨j+1,⟨Zo,Zo⟩,?_⟩;simp only[hs];exact G.Al (AA Ai) Au))
  ·have k3:x.kind=3:=by rcases EF with h|h|h;exact absurd h k2;exact h;exact absurd h k4
   have HS:=pC (.i 3);have Ix:Hk ⟨cm,sf,sl,dj⟩ x=⟨A5 cm (.i 3) (A0 cm (.i 3) 0+1),sf,A5 sl (.s x.name) true,mf ⟨cm,sf,sl,dj⟩ x⟩:=by unfold Hk IT;rw[if_neg k4,k3];rfl
   have XY:mf ⟨cm,sf,sl,dj⟩ x=(if A0 sl (.s x.name) false=true then rp dj 5 else if 32<A0 cm (.i 3) 0+1 then rp dj 2 else if I9 x=true then rp dj 11 else dj):=by unfold mf YT IT;rw[k3];rfl
   by_cases h1:A0 sl (.s x.name) false=true
   ·have hr:=Gs dj Gu 5;have hs:=fin ⟨A5 cm (.i 3) (A0 cm (.i 3) 0+1),sf,A5 sl (.s x.name) true,rp dj 5⟩ (by rw[Ix,XY,if_pos h1]);repeat'(first|exact tT|refine WA tT (Y9 c1 kid k3 @PZ @PX @PY @Ag h1 AB) ?_ ?_|refine WM (Y9 c1 kid k3 @PZ @PX @PY @Ag h1 AB) ?_ ?_|refine EO hr (Y9 c1 kid k3 @PZ @PX @PY @Ag h1 AB) ?_|(refine HE ?_;clear hK K)|refine WR fun K hK=>?_|refine HT ?_|refine WC (fun h=>?_) fun h=>?_|exact ff|fail)
    all_goals (first|omega|(refine⟨j+1,⟨Zo,Zo⟩,?_⟩;simp only[hs];exact G.Al (AA Ai) Au))
   ·have qT:=h1;have h1:=GV h1;by_cases h2:32<A0 cm (.i 3) 0+1
    ·have c3:=Zde h2;have hr:=Gs dj Gu 2;have hs:=fin ⟨A5 cm (.i 3) (A0 cm (.i 3) 0+1),sf,A5 sl (.s x.name) true,rp dj 2⟩ (by rw[Ix,XY,if_neg qT,if_pos h2]);repeat'(first|exact tT|refine WA tT (Y9 c1 kid k3 @PZ @PX @PY @Ag h1 (Y2 c3 AB)) ?_ ?_|refine WM (Y9 c1 kid k3 @PZ @PX @PY @Ag h1 (Y2 c3 AB)) ?_ ?_|refine EO hr (Y9 c1 kid k3 @PZ @PX @PY @Ag h1 (Y2 c3 AB)) ?_|(refine HE ?_;clear hK K)|refine WR fun K hK=>?_|refine HT ?_|refine WC (fun h=>?_) fun h=>?_|exact ff|fail)
     all_goals (first|omega|(refine⟨j+1,⟨Zo,Zo⟩,?_⟩;simp only[hs];exact G.Al (AA Ai) Au))
    ·have c3:=Zdf h2;by_cases hu:x.u=Aa
     ·have hb:I9 x=true:=by unfold I9;rw[k3,hu];rfl
      have cu:decide (x.u=(⟨#[116,114,117,116,104]⟩:ByteArray))=true:=Zde hu;have hr:=Gs dj Gu 11;have hs:=fin ⟨A5 cm (.i 3) (A0 cm (.i 3) 0+1),sf,A5 sl (.s x.name) true,rp dj 11⟩ (by rw[Ix,XY,if_neg qT,if_neg h2,if_pos hb]);repeat'(first|exact tT|refine WA tT (Y9 c1 kid k3 @PZ @PX @PY @Ag h1 (Y3 c3 cu AB)) ?_ ?_|refine WM (Y9 c1 kid k3 @PZ @PX @PY @Ag h1 (Y3 c3 cu AB)) ?_ ?_|refine EO hr (Y9 c1 kid k3 @PZ @PX @PY @Ag h1 (Y3 c3 cu AB)) ?_|(refine HE ?_;clear hK K)|refine WR fun K hK=>?_|refine HT ?_|refine WC (fun h=>?_) fun h=>?_|exact ff|fail)
      all_goals (first|omega|(refine⟨j+1,⟨Zo,Zo⟩,?_⟩;simp only[hs];exact G.Al (AA Ai) Au))
     ·have cu:decide (x.u=(⟨#[116,114,117,116,104]⟩:ByteArray))=false:=Zdf hu;by_cases hn:x.n=4
      ·have hb: ¬I9 x=true:=by unfold I9;rw[k3,hn];simp[hu]
       have cn:(x.n != 4)=false:=by rw[hn];rfl
       have hs:=fin ⟨A5 cm (.i 3) (A0 cm (.i 3) 0+1),sf,A5 sl (.s x.name) true,dj⟩ (by rw[Ix,XY,if_neg qT,if_neg h2,if_neg hb]);repeat'(first|exact tT|refine WA tT (Y9 c1 kid k3 @PZ @PX @PY @Ag h1 (Y4 c3 cu cn AB)) ?_ ?_|refine WM (Y9 c1 kid k3 @PZ @PX @PY @Ag h1 (Y4 c3 cu cn AB)) ?_ ?_|(refine HE ?_;clear hK K)|refine WR fun K hK=>?_|refine HT ?_|refine WC (fun h=>?_) fun h=>?_|exact ff|fail)
       all_goals (first|omega|(refine⟨j+1,⟨Zo,Zo⟩,?_⟩;simp only[hs];exact G.Al (AA Ai) Au))
      ·have cn:(x.n != 4)=true:=bne_iff_ne.2 hn;have pO:=Dk x.u;by_cases VM:KR x.u=true
       ·have hb: ¬I9 x=true:=by unfold I9;simp[hu,hn,VM]
        rw[VM]at pO;have hs:=fin ⟨A5 cm (.i 3) (A0 cm (.i 3) 0+1),sf,A5 sl (.s x.name) true,dj⟩ (by rw[Ix,XY,if_neg qT,if_neg h2,if_neg hb]);repeat'(first|exact tT|refine WA pO (Y9 c1 kid k3 @PZ @PX @PY @Ag h1 (Y4 c3 cu cn AB)) ?_ ?_|refine WM (Y9 c1 kid k3 @PZ @PX @PY @Ag h1 (Y4 c3 cu cn AB)) ?_ ?_|(refine HE ?_;clear hK K)|refine WR fun K hK=>?_|refine HT ?_|refine WC (fun h=>?_) fun h=>?_|exact ff|fail)
        all_goals (first|omega|(refine⟨j+1,⟨Zo,Zo⟩,?_⟩;simp only[hs];exact G.Al (AA Ai) Au))
       ·have VM:=GV VM;have hb:I9 x=true:=by unfold I9;simp[k3,hu,hn,VM]
        rw[VM]at pO;have hr:=Gs dj Gu 11;have hs:=fin ⟨A5 cm (.i 3) (A0 cm (.i 3) 0+1),sf,A5 sl (.s x.name) true,rp dj 11⟩ (by rw[Ix,XY,if_neg qT,if_neg h2,if_pos hb]);repeat'(first|exact tT|refine WA pO (Y9 c1 kid k3 @PZ @PX @PY @Ag h1 (Y4 c3 cu cn AB)) ?_ ?_|refine WM (Y9 c1 kid k3 @PZ @PX @PY @Ag h1 (Y4 c3 cu cn AB)) ?_ ?_|refine EO hr (Y9 c1 kid k3 @PZ @PX @PY @Ag h1 (Y4 c3 cu cn AB)) ?_|(refine HE ?_;clear hK K)|refine WR fun K hK=>?_|refine HT ?_|refine WC (fun h=>?_) fun h=>?_|exact ff|fail)
        all_goals (first|omega|(refine⟨j+1,⟨Zo,Zo⟩,?_⟩;simp only[hs];exact G.Al (AA Ai) Au))
 ·obtain rfl:j=e.kids.length:=Zo
  have c1:=DF ((e.kids.length:Int)<(e.kids.length:Int));rw[List.take_length];repeat'(first|exact tT|refine WA tT (Y2 c1 AB) ?_ ?_|refine WM (Y2 c1 AB) ?_ ?_|(refine HE ?_;clear hK K)|refine WR fun K hK=>?_|refine HT ?_|refine WC (fun h=>?_) fun h=>?_|exact ff|fail)
  all_goals exact⟨Aj,hR _ IB⟩
theorem Nv{e:Nd}(h:FW e=true)(k1:e.kind=1):e.size≤2000∧ ∀x∈e.kids,DJ x=true:=by
 unfold FW at h;rw[if_pos k1,Zba,I6]at h;have:=Nd.size_eq e;exact⟨Zo,h.2.1⟩
theorem Q3{x:Nd}(h:DJ x=true):(x.kind=2∨x.kind=3∨x.kind=4)∧(x.kind=4→0<x.kids.length∧(∀c∈x.kids.drop 1,Da c=true∧B8 c=true)∧GB (x.kids.getD 0 default)=true):=by
 unfold DJ at h;split at h
 ·exact⟨.inl ‹_›,fun h4=>by omega⟩
 split at h
 ·exact⟨.inr (.inl ‹_›),fun h4=>by omega⟩
 split at h
 ·refine⟨.inr (.inr ‹_›),fun _=>?_⟩;unfold cS cR iG at h;simp only[Zba,Zdt,List.all_eq_true]at h;exact⟨h.1.1.2,fun c hc=>⟨h.2.2 c hc,h.1.2.1 c hc⟩,h.2.1⟩
 ·cases h
theorem Q4{c:Nd}(h:Da c=true):c.kind=7∨(1≤c.kids.length∧BC (CN c)=true):=by
 unfold Da at h;simp only[Zba]at h;by_cases k7:c.kind=7
 ·exact .inl k7
 ·have h2:=h.2;rw[if_neg k7]at h2;simp only[Zba,Zdt]at h2;exact .inr ⟨Zo,h2.2⟩
theorem FJ{l:List Nd}:(l.drop 1).length=l.length - 1:=by simp
theorem Uo:BS Tryz.prog T 58 [] [] (.t [.p 1003 0,.f (.func 92) [.p 1003 0]]) [(1003,.box 33 (.AF [.s 1001])),(1001,.row 59 2 (.AF []))]:=by
 refine FO 4 [.tmp 0,.tmp 1] Tryz.func58 Tryz.ntmps58 fun B w0 Y R Am Az hY AQ AW Aj hR=>?_;have AB:=FI AW AQ 2
 refine AI ⟨[(0,.p 1003 0),(1,.f (.func 92) [.p 1003 0])],(1003,.box 33 (.AF [.s 1001]))::(1001,.row 59 2 (.AF []))::Y⟩ (by push_cast[List.cons_append,List.nil_append,AB];exact⟨Aj,hR _ (by repeat(first|exact Ce|refine O6 hY Zd ?_|refine Cf rfl ?_))⟩) ?_;repeat'(first|exact tT|refine WA tT AB ?_ ?_|(refine HE ?_;clear hK K)|refine WR fun K hK=>?_|refine HT ?_|refine WC (fun h=>?_) fun h=>?_|exact ff|fail)
 refine fun a w hG=>?_;have h0:G 4 B w0 ⟨[(0,.p 2 0),(1,.f (.func 92) [.p 2 0])],(2,.box 33 (.AF [.v (.slice none 0 0)]))::Y⟩ a w:=G.Al (AA Ai) Au a w hG;have h1:=h0.qk 2 1001 33 59 2 (.AF []) rfl Zd rfl (Am.2 1001 Zd Zd);push_cast[hY.kill (show 1001<2000 by decide)]at h1;have h2:=QX (st:=⟨[(0,.p 2 0),(1,.f (.func 92) [.p 2 0])],[(2,.box 33 (.AF [.s 1001])),(1001,.row 59 2 (.AF []))]++Y⟩) (E:= [(0,.p 2 0),(1,.f (.func 92) [.p 2 0])]) (pre:= [(2,.box 33 (.AF [.s 1001])),(1001,.row 59 2 (.AF []))]) hY 2 1003 Zd Zd (fun _ _ h=>h) (by simp[Bg,AV.ids,AV.Av]) (by simp[Bz,AN.ids,AV.Av,AV.ids]) (Am.2 1003 Zd Zd) a w (G.Al (AA Ai) Au a w h1);push_cast[IL,Gd]at h2;exact G.Al (AA Ai) Au a w h2
theorem oE(b:Bool)(H:List (Nat×AN))(n:Nat)(l:List Dg):(J3 l).map (AV.IA b H (n+1))=J3 l:=by
 induction l with
 |nil=>rfl
 |cons x r ih=>
  simp only[J3,List.map_cons,ih];rfl
abbrev dgR(d:List Dg):AV:=.i true (fun e j=>(J3 d).getD (e*2+j) .top) 2 0 d.length
set_option maxHeartbeats 16000000 in
theorem j4(e:Nd)(Ae:Cz e)(k1:e.kind=1)(hv:FW e=true):Pure Tryz.prog 28 [.a (A1 e)] (dgR (Io e)):=by
 have Ci:=Ae.spec.kids;have hl:=Ci.2;have E5:=PU e;obtain⟨Bh,hit⟩:=Nv hv k1;have F2:=KQ e Ae;rw[hv]at F2;have q:(e.kind != 1)=false:=by rw[k1];rfl
 have AAq:=Uo;have AAr:=W2 e Ae;have xq:=Un e Ae (fun x hx=>(Q3 (hit x hx)).1) Zo [] (by simp);have xr:=(T9 e.kids [] (by simp)).d;unfold Io;generalize Z9 e.kids []=dc0 at*;obtain⟨_,_,_,d0⟩:=dc0;simp only at xq xr ⊢;generalize C5 e.kids=sc at*;refine Ea (n:=97) (res:= [.tmp 2]) hT Tryz.func28 rfl rfl rfl Tryz.ntmps28 (Nat.le_of_ble_eq_true rfl) fun B w0 F8 Az=>?_;have Am:=CW.none F8;have AB:True:=trivial;repeat'(first|exact tT|refine WA F2 q ?_ ?_|(refine PE ?_;clear hK K)|refine WR fun K hK=>?_|refine PT ?_|refine WC (fun h=>?_) fun h=>?_|exact ff|fail)
 repeat'(first|exact tT|refine WA tT (Y2 q AB) ?_ ?_|refine EN AAq (Y2 q AB) ?_|(refine HE ?_;clear hK K)|refine WR fun K hK=>?_|refine HT ?_|refine WC (fun h=>?_) fun h=>?_|exact ff|fail)
 refine Eg _ (fun a w h=>h.rn 1003 1000 (by push_cast[Bg,AV.ids]) (by push_cast) (F8 1000)) ?_;push_cast;repeat'(first|exact tT|refine WA tT (Y2 q AB) ?_ ?_|refine EN AAr (Y2 q AB) ?_|(refine HE ?_;clear hK K)|refine WR fun K hK=>?_|refine HT ?_|refine WC (fun h=>?_) fun h=>?_|exact ff|fail)
 refine Eg _ (fun a w h=>h.rn 1003 1002 (by push_cast[Bg,AV.ids]) (by push_cast[PV,PW]) (F8 1002)) ?_;push_cast;refine Eg _ (fun a w h=>h.rn 1005 1004 (by push_cast[Bg,AV.ids]) (by push_cast[PV,PW]) (F8 1004)) ?_;push_cast;refine Eg _ (fun a w h=>h.rn 1007 1006 (by push_cast[Bg,AV.ids]) (by push_cast[PV,PW]) (F8 1006)) ?_;push_cast;repeat'(first|exact tT|refine WA tT (Y2 q AB) ?_ ?_|refine EO xq (Y2 q AB) ?_|(refine HE ?_;clear hK K)|refine WR fun K hK=>?_|refine HT ?_|refine WC (fun h=>?_) fun h=>?_|exact ff|fail)
 refine AM (α:=Nat) (fun j=>⟨[(35,AE j),(34,AE e.kids.length),(33,CS e.kids),(3,.p 1000 0),(4,eI),(5,.p 5 0),(6,AE (fJ sc (e.kids.take j) d0).1)],(5,.box 123 (.AF [.s 1002,.s 1004,.s 1006]))::(ZG sc++Oe (fJ sc (e.kids.take j) d0).2)⟩) (fun j=>j≤e.kids.length) (fun j=>e.kids.length - j) 0 (Nat.zero_le _) (by exact G.Al (AA Ai) IN) fun j hj=>?_;have yg:=YU sc (e.kids.take j) d0 xr;rw[List.length_take,Nat.min_eq_left hj]at yg;by_cases Ak:j<e.kids.length
 ·have c1:=DT ((j:Int)<(e.kids.length:Int));have kid:=Aw Ak;have BE:=iP sc e.kids d0 j Ak;have OU:=Q3 (hit _ (Ap Ak));have yh:=Ci.nth Ak;have VK:=Fz Ak;have hes:=Nd.size_eq e;generalize fJ sc (e.kids.take j) d0=s at*;generalize e.kids.getD j default=x at*;obtain⟨RT,dj⟩:=s;simp only at yg ⊢;obtain⟨HS,hcj,Gu⟩:=yg;have fin: ∀s2:Int×List Dg,EH sc (RT,dj) x=s2→fJ sc (e.kids.take (j+1)) d0=s2:=fun d2 h=>BE.trans h;by_cases k4:x.kind=4
  ·have q4:(x.kind != 4)=false:=by rw[k4];rfl
   obtain⟨Xl,HR,-⟩:=OU.2 k4;have hs:=fin (RT+1,aA sc x (x.kids.drop 1) (Xg sc (RT+1) x dj)) (by unfold EH;rw[if_pos k4]);have xp:=yh.spec.kids;have ADn:=xp.2;have hxz:=Nd.size_eq x;have c4:=DT ((1:Int)≤(x.kids.length:Int))
   have key: ∀d1:List Dg,Xg sc (RT+1) x dj=d1→d1.length≤20→ ∀i,i<x.kids.length - 1→BS Tryz.prog T 61 [yF,.a (A1 x),.a (A1 ((x.kids.drop 1).getD i default)),eI] (ZG sc++Oe (aA sc x ((x.kids.drop 1).take i) d1)) (.t []) (ZG sc++Oe (aA sc x ((x.kids.drop 1).take (i+1)) d1)):=fun d1 _ LL i hi=>by
    have HH:i<(x.kids.drop 1).length:=by rw[FJ];exact hi
    rw[iO sc x _ d1 i HH];have Xn:(x.kids.drop 1).getD i default=x.kids.getD (1+i) default:=C7;have xt:=xp.nth (k:=1+i) Zo;have AAs:=Fz (l:=x.kids) (j:=1+i) Zo;rw[←Xn]at xt AAs;exact Q2 sc x _ yh xt Zo (Q4 (HR _ (Ap HH)).1) _ (iN _ _ _ _ LL)
   by_cases h1:60<RT+1
   ·have c3:=Zde h1;have LL:Xg sc (RT+1) x dj=rp dj 2:=by unfold Xg;rw[if_pos h1]
    rw[LL]at hs;have Za:(rp dj 2).length≤20:=OF Gu;have key:=key _ LL Za;have hr:=Gs dj Gu 2;clear LL;generalize rp dj 2=d1 at*;repeat'(first|exact tT|refine WA tT (Y6 c1 kid q4 c4 c3 AB) ?_ ?_|refine EO hr (Y6 c1 kid q4 c4 c3 AB) ?_|(refine HE ?_;clear hK K)|refine WR fun K hK=>?_|refine HT ?_|refine WC (fun h=>?_) fun h=>?_|exact ff|fail)
    all_goals first|omega|skip
    refine AM (α:=Nat) (fun i=>⟨[(83,AE i),(82,AE (x.kids.length - 1:Nat)),(81,J0 x.kids 1 (x.kids.length - 1)),(8,.p 8 0),(35,AE j),(34,AE e.kids.length),(33,CS e.kids),(3,.p 1000 0),(4,eI),(5,.p 5 0),(6,AE (RT+1))],(8,.box 27 (.AF (A1 x)))::(5,.box 123 (.AF [.s 1002,.s 1004,.s 1006]))::(ZG sc++Oe (aA sc x ((x.kids.drop 1).take i) d1))⟩) (fun i=>i≤x.kids.length - 1) (fun i=>x.kids.length - i) 0 (Nat.zero_le _) (by exact G.Al (AA Ai) IN) fun i hi=>?_;by_cases SG:i<x.kids.length - 1
    ·have c5:=DT ((i:Int)<((x.kids.length - 1:Nat):Int));have kid2:(x.kids.map Dj).getD (1+i) []=A1 ((x.kids.drop 1).getD i default):=by rw[C7];exact Aw Zo
     have hk:=key i SG;repeat'(first|exact tT|refine WA tT (Y3 c5 kid2 AB) ?_ ?_|refine EO hk (Y3 c5 kid2 AB) ?_|(refine HE ?_;clear hK K)|refine WR fun K hK=>?_|refine HT ?_|refine WC (fun h=>?_) fun h=>?_|exact ff|fail)
     all_goals (refine⟨i+1,⟨Zo,Zo⟩,G.Al (AA Ai) IN⟩)
    ·obtain rfl:i=x.kids.length - 1:=Zo
     have c5:=DF (((x.kids.length - 1:Nat):Int)<((x.kids.length - 1:Nat):Int));rw[show(x.kids.drop 1).take (x.kids.length - 1)=x.kids.drop 1 from List.take_of_length_le (by simp)];repeat'(first|exact tT|refine WA tT (Y2 c5 AB) ?_ ?_|(refine HE ?_;clear hK K)|refine WR fun K hK=>?_|refine HT ?_|refine WC (fun h=>?_) fun h=>?_|exact ff|fail)
     all_goals (refine⟨j+1,⟨Zo,Zo⟩,?_⟩;simp only[hs];exact G.Al (AA Ai) IN)
   ·have c3:=Zdf h1;by_cases h2:T6 sc.lines x.name=true
    ·by_cases h3:IS sc.BX x.n=x.name
     ·have c6:decide (IS sc.BX x.n=x.name)=true:=Zde h3;have LL:Xg sc (RT+1) x dj=dj:=by unfold Xg;rw[if_neg h1,if_pos h2,if_pos h3]
      rw[LL]at hs;have Za:(dj).length≤20:=Gu;have key:=key _ LL Za;clear LL;repeat'(first|exact tT|refine WA tT (Y8 c1 kid q4 c4 c3 h2 c6 AB) ?_ ?_|(refine HE ?_;clear hK K)|refine WR fun K hK=>?_|refine HT ?_|refine WC (fun h=>?_) fun h=>?_|exact ff|fail)
      all_goals first|omega|skip
      refine AM (α:=Nat) (fun i=>⟨[(83,AE i),(82,AE (x.kids.length - 1:Nat)),(81,J0 x.kids 1 (x.kids.length - 1)),(8,.p 8 0),(35,AE j),(34,AE e.kids.length),(33,CS e.kids),(3,.p 1000 0),(4,eI),(5,.p 5 0),(6,AE (RT+1))],(8,.box 27 (.AF (A1 x)))::(5,.box 123 (.AF [.s 1002,.s 1004,.s 1006]))::(ZG sc++Oe (aA sc x ((x.kids.drop 1).take i) dj))⟩) (fun i=>i≤x.kids.length - 1) (fun i=>x.kids.length - i) 0 (Nat.zero_le _) (by exact G.Al (AA Ai) IN) fun i hi=>?_;by_cases SG:i<x.kids.length - 1
      ·have c5:=DT ((i:Int)<((x.kids.length - 1:Nat):Int));have kid2:(x.kids.map Dj).getD (1+i) []=A1 ((x.kids.drop 1).getD i default):=by rw[C7];exact Aw Zo
       have hk:=key i SG;repeat'(first|exact tT|refine WA tT (Y3 c5 kid2 AB) ?_ ?_|refine EO hk (Y3 c5 kid2 AB) ?_|(refine HE ?_;clear hK K)|refine WR fun K hK=>?_|refine HT ?_|refine WC (fun h=>?_) fun h=>?_|exact ff|fail)
       all_goals (refine⟨i+1,⟨Zo,Zo⟩,G.Al (AA Ai) IN⟩)
      ·obtain rfl:i=x.kids.length - 1:=Zo
       have c5:=DF (((x.kids.length - 1:Nat):Int)<((x.kids.length - 1:Nat):Int));rw[show(x.kids.drop 1).take (x.kids.length - 1)=x.kids.drop 1 from List.take_of_length_le (by simp)];repeat'(first|exact tT|refine WA tT (Y2 c5 AB) ?_ ?_|(refine HE ?_;clear hK K)|refine WR fun K hK=>?_|refine HT ?_|refine WC (fun h=>?_) fun h=>?_|exact ff|fail)
       all_goals (refine⟨j+1,⟨Zo,Zo⟩,?_⟩;simp only[hs];exact G.Al (AA Ai) IN)
     ·have c6:decide (IS sc.BX x.n=x.name)=false:=Zdf h3;have LL:Xg sc (RT+1) x dj=rp dj 101:=by unfold Xg;rw[if_neg h1,if_pos h2,if_neg h3]
      rw[LL]at hs;have Za:(rp dj 101).length≤20:=OF Gu;have key:=key _ LL Za;have hr:=Gs dj Gu 101;clear LL;generalize rp dj 101=d1 at*;repeat'(first|exact tT|refine WA tT (Y8 c1 kid q4 c4 c3 h2 c6 AB) ?_ ?_|refine EO hr (Y8 c1 kid q4 c4 c3 h2 c6 AB) ?_|(refine HE ?_;clear hK K)|refine WR fun K hK=>?_|refine HT ?_|refine WC (fun h=>?_) fun h=>?_|exact ff|fail)
      all_goals first|omega|skip
      refine AM (α:=Nat) (fun i=>⟨[(83,AE i),(82,AE (x.kids.length - 1:Nat)),(81,J0 x.kids 1 (x.kids.length - 1)),(8,.p 8 0),(35,AE j),(34,AE e.kids.length),(33,CS e.kids),(3,.p 1000 0),(4,eI),(5,.p 5 0),(6,AE (RT+1))],(8,.box 27 (.AF (A1 x)))::(5,.box 123 (.AF [.s 1002,.s 1004,.s 1006]))::(ZG sc++Oe (aA sc x ((x.kids.drop 1).take i) d1))⟩) (fun i=>i≤x.kids.length - 1) (fun i=>x.kids.length - i) 0 (Nat.zero_le _) (by exact G.Al (AA Ai) IN) fun i hi=>?_;by_cases SG:i<x.kids.length - 1
      ·have c5:=DT ((i:Int)<((x.kids.length - 1:Nat):Int));have kid2:(x.kids.map Dj).getD (1+i) []=A1 ((x.kids.drop 1).getD i default):=by rw[C7];exact Aw Zo
       have hk:=key i SG;repeat'(first|exact tT|refine WA tT (Y3 c5 kid2 AB) ?_ ?_|refine EO hk (Y3 c5 kid2 AB) ?_|(refine HE ?_;clear hK K)|refine WR fun K hK=>?_|refine HT ?_|refine WC (fun h=>?_) fun h=>?_|exact ff|fail)
       all_goals (refine⟨i+1,⟨Zo,Zo⟩,G.Al (AA Ai) IN⟩)
      ·obtain rfl:i=x.kids.length - 1:=Zo
       have c5:=DF (((x.kids.length - 1:Nat):Int)<((x.kids.length - 1:Nat):Int));rw[show(x.kids.drop 1).take (x.kids.length - 1)=x.kids.drop 1 from List.take_of_length_le (by simp)];repeat'(first|exact tT|refine WA tT (Y2 c5 AB) ?_ ?_|(refine HE ?_;clear hK K)|refine WR fun K hK=>?_|refine HT ?_|refine WC (fun h=>?_) fun h=>?_|exact ff|fail)
       all_goals (refine⟨j+1,⟨Zo,Zo⟩,?_⟩;simp only[hs];exact G.Al (AA Ai) IN)
    ·have h2n:=h2;have h2:=GV h2;have LL:Xg sc (RT+1) x dj=rp dj 91:=by unfold Xg;rw[if_neg h1,if_neg h2n]
     rw[LL]at hs;have Za:(rp dj 91).length≤20:=OF Gu;have key:=key _ LL Za;have hr:=Gs dj Gu 91;clear LL;generalize rp dj 91=d1 at*;repeat'(first|exact tT|refine WA tT (Y7 c1 kid q4 c4 c3 h2 AB) ?_ ?_|refine EO hr (Y7 c1 kid q4 c4 c3 h2 AB) ?_|(refine HE ?_;clear hK K)|refine WR fun K hK=>?_|refine HT ?_|refine WC (fun h=>?_) fun h=>?_|exact ff|fail)
     all_goals first|omega|skip
     refine AM (α:=Nat) (fun i=>⟨[(83,AE i),(82,AE (x.kids.length - 1:Nat)),(81,J0 x.kids 1 (x.kids.length - 1)),(8,.p 8 0),(35,AE j),(34,AE e.kids.length),(33,CS e.kids),(3,.p 1000 0),(4,eI),(5,.p 5 0),(6,AE (RT+1))],(8,.box 27 (.AF (A1 x)))::(5,.box 123 (.AF [.s 1002,.s 1004,.s 1006]))::(ZG sc++Oe (aA sc x ((x.kids.drop 1).take i) d1))⟩) (fun i=>i≤x.kids.length - 1) (fun i=>x.kids.length - i) 0 (Nat.zero_le _) (by exact G.Al (AA Ai) IN) fun i hi=>?_;by_cases SG:i<x.kids.length - 1
     ·have c5:=DT ((i:Int)<((x.kids.length - 1:Nat):Int));have kid2:(x.kids.map Dj).getD (1+i) []=A1 ((x.kids.drop 1).getD i default):=by rw[C7];exact Aw Zo
      have hk:=key i SG;repeat'(first|exact tT|refine WA tT (Y3 c5 kid2 AB) ?_ ?_|refine EO hk (Y3 c5 kid2 AB) ?_|(refine HE ?_;clear hK K)|refine WR fun K hK=>?_|refine HT ?_|refine WC (fun h=>?_) fun h=>?_|exact ff|fail)
      all_goals (refine⟨i+1,⟨Zo,Zo⟩,G.Al (AA Ai) IN⟩)
     ·obtain rfl:i=x.kids.length - 1:=Zo
      have c5:=DF (((x.kids.length - 1:Nat):Int)<((x.kids.length - 1:Nat):Int));rw[show(x.kids.drop 1).take (x.kids.length - 1)=x.kids.drop 1 from List.take_of_length_le (by simp)];repeat'(first|exact tT|refine WA tT (Y2 c5 AB) ?_ ?_|(refine HE ?_;clear hK K)|refine WR fun K hK=>?_|refine HT ?_|refine WC (fun h=>?_) fun h=>?_|exact ff|fail)
      all_goals (refine⟨j+1,⟨Zo,Zo⟩,?_⟩;simp only[hs];exact G.Al (AA Ai) IN)
  ·have q4:(x.kind != 4)=true:=bne_iff_ne.2 k4;have hs:=fin (RT,dj) (by unfold EH;rw[if_neg k4]);repeat'(first|exact tT|refine WA tT (Y4 c1 kid q4 AB) ?_ ?_|(refine HE ?_;clear hK K)|refine WR fun K hK=>?_|refine HT ?_|refine WC (fun h=>?_) fun h=>?_|exact ff|fail)
   all_goals (refine⟨j+1,⟨Zo,Zo⟩,?_⟩;simp only[hs];exact G.Al (AA Ai) IN)
 ·obtain rfl:j=e.kids.length:=Zo
  have c1:=DF ((e.kids.length:Int)<(e.kids.length:Int));rw[List.take_length]at yg ⊢;generalize fJ sc e.kids d0=s at*;obtain⟨RT,dk⟩:=s;simp only;have hdg:=Jd dk;repeat'(first|exact tT|refine WA tT (Y2 c1 AB) ?_ ?_|(refine HE ?_;clear hK K)|refine WR fun K hK=>?_|refine HT ?_|refine WC (fun h=>?_) fun h=>?_|exact ff|fail)
  rw[oE,hdg,show 2*dk.length / 2=dk.length by omega]
end Go.Proofs.YthemnhjojaehhaaGreatDoor
namespace Go.Tp
open Go.Ad Go.Proofs.YthemnhjojaehhaaGreatDoor
theorem Q9{α:Type}[Inhabited α]{l:List α}{i:Nat}(h: ¬i<l.length):l.getD i default=default:=by rw[Zlg,List.getElem?_eq_none Zo];rfl
abbrev MX:Nat:=9223372036854775807
theorem XE:Aa.size≤MX∧AZ.size≤MX:=Zd
theorem Uu:DA 0:=by unfold DA;omega
theorem GY{n:Int}(h: -1000≤n∧n≤1000000):DA n:=by unfold DA;omega
theorem RA:Rl []:=⟨fun p hp=>(by cases hp),by simp⟩
theorem ZL{ks:List Ex}(h:Ob ks)(i:Nat):(Ro ks i).size≤MX:=by
 unfold Ro;by_cases hi:i<ks.length
 ·exact(h.nth hi).spec.2.2.1
 ·have:ks.getD i default=default:=Q9 hi;rw[this];decide
theorem oX{a b:ByteArray}(ha:a.size≤MX)(hb:b.size≤MX):(Sn a b).size≤MX:=by unfold Sn;split<;>assumption
theorem kM(s:ByteArray):DA (Gy s):=by
 unfold Gy;refine GY ?_;split
 ·decide
 split
 ·decide
 split
 ·decide
 split<;>decide
theorem Js.mk'{o:Int}{u:ByteArray}{ks:List Ex}(h1: -1000≤o∧o≤1000000)(h3:u.size≤MX)(h6:Ob ks):Js (.mk o 0 u 0 [] ks):=Js.mk (GY h1) Uu h3 Uu RA h6
theorem kN{op:ByteArray}{ks:List Ex}(h:Ob ks):Js (Mg op ks):=by
 have hu:=ZL h;unfold Mg;repeat' split
 all_goals first|exact Js.mk' Zd XE.1 h|exact Js.mk' Zd (hu _) h|exact Js.mk' Zd (oX (hu _) (hu _)) h|exact Js.mk' Zd XE.1 ⟨fun x hx=>by rw[List.mem_singleton.1 hx];exact Js.mk' Zd XE.1 h,by simp⟩
structure kO (t:Tr):Prop where
 f: ∀d∈t.facts,mV d
 l: ∀d∈t.lines,mV d
theorem v7{l:List De}(h: ∀d∈l,mV d)(i:Nat):(l.getD i default).u.size≤MX:=by
 by_cases hi:i<l.length
 ·exact(h _ (Ap hi)).2.1
 ·have:l.getD i default=default:=Q9 hi;rw[this];decide
theorem oY(t:Tr)(m:Nat)(ht:QY t m)(hm:m≤1000000)(hi:kO t)(e:Nd):Cz e→Js (Fk t e):=by
 induction e using Nd.ind with
 |h e ih=>
  intro Ae;have hs:=Ae.spec;have Ci:Ob (e.kids.map (Fk t)):=⟨fun x hx=>by obtain⟨k,hk,rfl⟩:=List.mem_map.1 hx;exact ih k hk (hs.kids.1 k hk),by rw[List.length_map];exact hs.kids.2⟩;have JN:Ob []:=⟨fun p hp=>(by cases hp),by simp⟩;rw[Lp];unfold UD;split
  ·exact Js.mk' Zd XE.1 Ci
  split
  ·exact kN Ci
  split
  ·split<;>exact Js.mk' Zd (ZL Ci 0) Ci
  split
  ·exact Js.mk (GY Zd) Uu (ZL Ci 0) hs.den hs.ps Ci
  unfold V1;split
  ·exact Js.mk (GY Zd) hs.n hs.u Uu RA JN
  split
  ·have h1:=ht.f (.s e.name);have h2:=ht.fl;exact Js.mk (GY Zd) (GY Zo) (v7 hi.f _) Uu RA JN
  split
  ·exact Js.mk (GY Zd) hs.n (v7 hi.l _) Uu RA JN
  ·exact Js.mk (GY Zd) (kM _) XE.2 Uu RA JN
theorem oZ(l:List Nd)(h: ∀x∈l,Cz x):kO (Fu l):=by
 suffices hh: ∀(l:List Nd) (t:Tr),(∀x∈l,Cz x)→kO t→kO (l.foldl D0 t) by
  have:=hh l ⟨[],[],[],[],[]⟩ h ⟨fun d hd=>(by cases hd),fun d hd=>(by cases hd)⟩;exact⟨this.f,this.l⟩
 intro l;induction l with
 |nil=>exact fun t _ ht=>ht
 |cons x r ih=>
  intro t hx ht;have VK:=(hx x (by simp)).spec;refine ih _ (fun y hy=>hx y (List.mem_cons_of_mem _ hy)) ?_;unfold D0;split
  ·refine⟨fun d hd=>?_,ht.l⟩;rcases List.mem_append.1 hd with hd|hd
   ·exact ht.f d hd
   ·rw[List.mem_singleton.1 hd];exact⟨VK.name,VK.u,Uu⟩
  split
  ·refine⟨ht.f,fun d hd=>?_⟩;rcases List.mem_append.1 hd with hd|hd
   ·exact ht.l d hd
   ·rw[List.mem_singleton.1 hd];exact⟨VK.name,VK.u,VK.n⟩
  ·exact ht
structure s5 (s:Ac):Prop where
 w: ∀x∈s.FU,Js x
 u: ∀n∈s.G9,DA n
 a:Js s.GU
theorem s6:Js vw:=Js.mk' Zd Zd ⟨fun p hp=>(by cases hp),by simp⟩
theorem XF:Cz default:=by
 have:(default:Nd)=.mk 0 ⟨#[]⟩ ⟨#[]⟩ 0 0 0 0 0 [] []:=rfl;rw[this];exact uK.ok ⟨Uu,Zd,Zd,Uu,Uu,Uu,Uu,Uu,RA,⟨fun p hp=>(by cases hp),by simp[Nd.kids]⟩⟩
theorem XG{l:List Nd}(h: ∀x∈l,Cz x)(i:Nat):Cz (l.getD i default):=by
 by_cases hi:i<l.length
 ·exact h _ (Ap hi)
 ·have:l.getD i default=default:=Q9 hi;rw[this];exact XF
theorem oa(t:Tr)(m:Nat)(ht:QY t m)(hm:m≤1000000)(hi:kO t)(l:List Nd)(h: ∀x∈l,Cz x):s5 (RU t l):=by
 suffices hh: ∀(l:List Nd) (s:Ac),(∀x∈l,Cz x)→s5 s→s5 (l.foldl (FC t) s)from
  hh l ⟨[],[],vw,[]⟩ h ⟨fun d hd=>(by cases hd),fun d hd=>(by cases hd),s6⟩
 intro l;induction l with
 |nil=>exact fun s _ hs=>hs
 |cons c r ih=>
  intro s hx hs;have hc:=hx c (by simp);have fQ:Js (Fk t (CN c)):=oY t m ht hm hi _ (XG hc.spec.kids.1 0);refine ih _ (fun y hy=>hx y (List.mem_cons_of_mem _ hy)) ?_;unfold FC;split
  ·refine⟨hs.w,fun n hn=>?_,hs.a⟩;rcases List.mem_append.1 hn with hn|hn
   ·exact hs.u n hn
   ·obtain⟨k,hk,rfl⟩:=List.mem_map.1 hn;exact(hc.spec.kids.1 k hk).spec.n
  ·refine⟨?_,hs.u,?_⟩
   ·show∀x∈(if c.kind=6 then s.FU++ [Fk t (CN c)]else s.FU),Js x;split
    ·intro x hx;rcases List.mem_append.1 hx with hx|hx
     ·exact hs.w x hx
     ·rw[List.mem_singleton.1 hx];exact fQ
    ·exact hs.w
   ·show Js (if c.kind=6 then s.GU else Fk t (CN c));split
    ·exact hs.a
    ·exact fQ
theorem oc(e:Nd)(Ae:Cz e)(Bh:e.size≤2000):rL (FY e).1∧(FY e).2.length≤20:=by
 have Ci:=Ae.spec.kids;have pD:=Nd.size_eq e;have E5:=EE e.kids;have hz:rL oI:=⟨⟨fun p hp=>(by cases hp),by simp[oI]⟩,⟨fun p hp=>(by cases hp),by simp[oI]⟩,⟨fun p hp=>(by cases hp),by simp[oI]⟩⟩;have xz:(Io e).length≤20:=(YU _ _ _ (T9 e.kids [] (by simp)).d).2.2;unfold FY;split
 ·exact⟨hz,xz⟩
 split
 ·exact⟨hz,by rw[List.length_take];omega⟩
 have ht:=UC e.kids;have hi:=oZ e.kids Ci.1;have hm:e.kids.length≤1000000:=Zo
 refine⟨⟨⟨hi.f,by have:=ht.fl;show(Fu e.kids).facts.length≤_;omega⟩,⟨hi.l,by have:=ht.ll;show(Fu e.kids).lines.length≤_;omega⟩,?_,?_⟩,by simp⟩
 ·suffices hh: ∀(l:List Nd) (s:List Ar×List Dg),(∀x∈l,Cz x∧x.size≤2000)→(∀a∈s.1,gw a)→ ∀a∈(l.foldl (F0 (Fu e.kids)) s).1,gw a from
   hh e.kids ([],[]) (fun x hx=>⟨Ci.1 x hx,by obtain⟨i,hi,rfl⟩:=Kt hx;have:=Fz hi;omega⟩) (fun a ha=>(by cases ha))
  intro l;induction l with
  |nil=>exact fun s _ hs=>hs
  |cons x r ih=>
   intro s hx hs;obtain⟨RV,RO⟩:=hx x (by simp);refine ih _ (fun y hy=>hx y (List.mem_cons_of_mem _ hy)) ?_;unfold F0;split
   ·intro a ha;rcases List.mem_append.1 ha with ha|ha
    ·exact hs a ha
    ·rw[List.mem_singleton.1 ha];have hh:=(XG RV.spec.kids.1 0).spec;have xw:=oa (Fu e.kids) _ ht hm hi (x.kids.drop 1) fun y hy=>RV.spec.kids.1 y (List.mem_of_mem_drop hy);have bJ:=M1 (Fu e.kids) (x.kids.drop 1);have VK:=Nd.size_eq x;have xp:=EE x.kids;have hsd:Nd.AP (x.kids.drop 1)≤Nd.AP x.kids:=by cases x.kids with|nil=>simp|cons k r=>simp[Nd.AP]
     have qH:(x.kids.drop 1).length≤x.kids.length:=by rw[List.length_drop];omega
     have hl:=ht.l (.s x.name);have SE:=ht.ll;exact⟨RV.spec.n,GY (by show -1000≤A0 (Fu e.kids).lm (.s x.name) 0∧A0 (Fu e.kids).lm (.s x.name) 0≤1000000;omega),hh.n,hh.fr,hh.to,hh.known,⟨xw.w,by have:=bJ.1;show(RU _ _).FU.length≤_;omega⟩,⟨xw.u,by have:=bJ.2.1;show(RU _ _).G9.length≤_;omega⟩,xw.a⟩
   ·exact hs
 ·have:=(W6 (Fu e.kids) e.kids).1;show(W5 (Fu e.kids) e.kids).1.length≤_;omega
end Go.Tp
