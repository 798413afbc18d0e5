/- Part of a proof. -/
import Derived.Test.YthemnhjojaehhaaGreatDoorA31
set_option linter.all false
namespace Go.Proofs.YthemnhjojaehhaaGreatDoor
open Go.Ad Go.Proofs Go.Tp
attribute [local irreducible] A8 AK BY Go.Ad.Pure BS
section
variable(full:List Tk)(en:Int)(BF:full.length≤2000)
include BF
theorem Kd{ts r:List Tk}{e:Nd}(h:F6 139 full en [AE 0] ts e r):F6 119 full en [] ts e r:=by
 intro k E5 hk;obtain⟨d1,Ak,hF⟩:=h k E5 hk;refine⟨d1,Ak,?_⟩;generalize full.length - r.length=m at*;refine FO 5 [.cell 2 27] Tryz.func119 Tryz.ntmps119 fun B w0 Y R Am Az hY AQ AW Aj hR=>?_;have AB:=FI AW AQ 2
 refine AI ⟨[(2,.p 2 0)],(2,.box 27 (.AF (A1 e)))::(CO full m en++Y)⟩ ER ?_;repeat'(first|exact tT|refine WA tT AB ?_ ?_|(refine EA hF AB ?_;clear hF)|(refine HE ?_;clear hK K)|refine WR fun K hK=>?_|refine HT ?_|refine WC (fun h=>?_) fun h=>?_|exact ff|fail)
 all_goals first|omega|(exact LV)
set_option maxHeartbeats 8000000 in
theorem jb{t:Tk}{r:List Tk}{n:Int}(ht:Jv t=some n)(hm:A4 Og r=false):F6 151 full en [] (t::r) (mkNum AZ n) r:=by
 intro k E5 hk;obtain⟨FM,_,d1⟩:=AG hk;refine E2 hk d1 Zo ?_;have c13:(t.kind==3)=true:=by rw[(No ht).1];rfl
 have e1:=Cq full k en _ _ hk;have e2:=Ym full k en _ _ n hk BF ht;have e3:=EM full _ en Og _ d1;rw[hm]at e3;refine FO 68 [.cell 2 27] Tryz.func151 Tryz.ntmps151 fun B w0 Y R Am Az hY AQ AW Aj hR=>?_;have AB:=MF AW AQ 2 3 6 7
 refine AI ⟨[(2,.p 2 0)],(2,.box 27 (.AF (A1 (mkNum AZ n))))::(CO full (k+1) en++Y)⟩ ER ?_;repeat'(first|exact tT|refine WA tT (Y2 c13 AB) ?_ ?_|(refine EA e1 (Y2 c13 AB) ?_;clear e1)|(refine EA e2 (Y2 c13 AB) ?_;clear e2)|(refine EA e3 (Y2 c13 AB) ?_;clear e3)|(refine HE ?_;clear hK K)|refine WR fun K hK=>?_|refine HT ?_|refine WC (fun h=>?_) fun h=>?_|exact ff|fail)
 all_goals first|omega|(exact LV)
set_option maxHeartbeats 8000000 in
theorem jc{t u:Tk}{r:List Tk}{n:Int}(ht:Jv t=some n)(hm:u.text=Og):F6 151 full en [] (t::u::r) (mkNum BH n) r:=by
 intro k E5 hk;obtain⟨FM,_,d1⟩:=AG hk;obtain⟨El,_,d2⟩:=AG d1;refine E2 hk d2 Zo ?_;have c13:(t.kind==3)=true:=by rw[(No ht).1];rfl
 have e1:=Cq full k en _ _ hk;have e2:=Ym full k en _ _ n hk BF ht;have e3:=EM full _ en Og _ d1;rw[show A4 Og (u::r)=true from by unfold A4;exact Zde hm]at e3;refine FO 68 [.cell 2 27] Tryz.func151 Tryz.ntmps151 fun B w0 Y R Am Az hY AQ AW Aj hR=>?_;have AB:=MF AW AQ 2 3 6 7
 refine AI ⟨[(2,.p 2 0)],(2,.box 27 (.AF (A1 (mkNum BH n))))::(CO full (k+1+1) en++Y)⟩ ER ?_;repeat'(first|exact tT|refine WA tT (Y2 c13 AB) ?_ ?_|(refine EA e1 (Y2 c13 AB) ?_;clear e1)|(refine EA e2 (Y2 c13 AB) ?_;clear e2)|(refine EA e3 (Y2 c13 AB) ?_;clear e3)|(refine HE ?_;clear hK K)|refine WR fun K hK=>?_|refine HT ?_|refine WC (fun h=>?_) fun h=>?_|exact ff|fail)
 all_goals first|omega|(exact LV)
set_option maxHeartbeats 8000000 in
theorem jd{t u:Tk}{r:List Tk}{n:Int}(ht:t.kind=2)(hu:Fw u=some n):F6 151 full en [] (t::u::r) (mkNum t.text n) r:=by
 intro k E5 hk;obtain⟨FM,_,d1⟩:=AG hk;obtain⟨El,_,d2⟩:=AG d1;refine E2 hk d2 Zo ?_;obtain⟨h4,Bh,ha⟩:=Kc hu;have c13:(t.kind==3)=false:=by rw[ht];rfl
 have c34:(t.kind==2)=true:=by rw[ht];rfl
 have hf:=jO u;rw[h4]at hf;have e1:=Cq full k en _ _ hk;have e2:=Fy full _ en _ _ d1 BF 162 hf;have hc:=Wj u n Bh ha;refine FO 68 [.cell 2 27] Tryz.func151 Tryz.ntmps151 fun B w0 Y R Am Az hY AQ AW Aj hR=>?_;have AB:=MF AW AQ 2 3 6 7
 refine AI ⟨[(2,.p 2 0)],(2,.box 27 (.AF (A1 (mkNum t.text n))))::(CO full (k+1+1) en++Y)⟩ ER ?_;repeat'(first|exact tT|refine WA hc (Y3 c13 c34 AB) ?_ ?_|(refine EA e1 (Y3 c13 c34 AB) ?_;clear e1)|(refine EA e2 (Y3 c13 c34 AB) ?_;clear e2)|(refine HE ?_;clear hK K)|refine WR fun K hK=>?_|refine HT ?_|refine WC (fun h=>?_) fun h=>?_|exact ff|fail)
 all_goals first|omega|(exact LV)
set_option maxHeartbeats 8000000 in
theorem dM{t:Tk}{r:List Tk}(ht:D2 t=true):F6 151 full en [] (t::r) (mkRef t.text) r:=by
 intro k E5 hk;obtain⟨FM,_,d1⟩:=AG hk;refine E2 hk d1 Zo ?_
 have h1:t.kind=1:=by
  unfold D2 at ht;simp only[Zba,Zdt]at ht;exact ht.1
 have c13:(t.kind==3)=false:=by rw[h1];rfl
 have c34:(t.kind==2)=false:=by rw[h1];rfl
 have hf:=JH t;rw[ht]at hf;have e1:=Cq full k en _ _ hk;refine FO 68 [.cell 2 27] Tryz.func151 Tryz.ntmps151 fun B w0 Y R Am Az hY AQ AW Aj hR=>?_;have AB:=MF AW AQ 2 3 6 7
 refine AI ⟨[(2,.p 2 0)],(2,.box 27 (.AF (A1 (mkRef t.text))))::(CO full (k+1) en++Y)⟩ ER ?_;repeat'(first|exact tT|refine WA hf (Y3 c13 c34 AB) ?_ ?_|(refine EA e1 (Y3 c13 c34 AB) ?_;clear e1)|(refine HE ?_;clear hK K)|refine WR fun K hK=>?_|refine HT ?_|refine WC (fun h=>?_) fun h=>?_|exact ff|fail)
 all_goals first|omega|(exact LV)
set_option maxHeartbeats 8000000 in
theorem Dn{t:Tk}{ts r:List Tk}{e:Nd}(h3:t.kind≠3)(h2:t.kind≠2)(hn:D2 t=false)(h:F6 164 full en [.a (ET t)] (t::ts) e r):F6 151 full en [] (t::ts) e r:=by
 intro k E5 hk;obtain⟨d1,Ak,hF⟩:=h k E5 hk;refine⟨d1,Ak,?_⟩;generalize full.length - r.length=m at*;have c13:(t.kind==3)=false:=beq_eq_false_iff_ne.2 h3;have c34:(t.kind==2)=false:=beq_eq_false_iff_ne.2 h2;have hf:=JH t;rw[hn]at hf;have e1:=Cq full k en _ _ hk;refine FO 68 [.cell 2 27] Tryz.func151 Tryz.ntmps151 fun B w0 Y R Am Az hY AQ AW Aj hR=>?_;have AB:=MF AW AQ 2 3 6 7
 refine AI ⟨[(2,.p 2 0)],(2,.box 27 (.AF (A1 e)))::(CO full m en++Y)⟩ ER ?_;repeat'(first|exact tT|refine WA hf (Y3 c13 c34 AB) ?_ ?_|(refine EA e1 (Y3 c13 c34 AB) ?_;clear e1)|(refine EA hF (Y3 c13 c34 AB) ?_;clear hF)|(refine HE ?_;clear hK K)|refine WR fun K hK=>?_|refine HT ?_|refine WC (fun h=>?_) fun h=>?_|exact ff|fail)
 all_goals first|omega|(exact LV)
end
section
variable(full:List Tk)(en:Int)(BF:full.length≤2000)
include BF
set_option maxHeartbeats 16000000 in
theorem dN{r:List Tk}:F6 164 full en [.a (ET ⟨1,Qi⟩)] (⟨1,Qi⟩::r) (mkNum Aa 1) r:=by
 intro k E5 hk;obtain⟨FM,_,d1⟩:=AG hk;refine E2 hk d1 Zo ?_;have q0:decide (Qi=⟨#[116,114,117,101]⟩)=true:=Zd
 have p0:decide (Qi=⟨#[116,114,117,101]⟩)=true:=Zd
 refine FO 92 [.cell 4 27] Tryz.func164 Tryz.ntmps164 fun B w0 Y R Am Az hY AQ AW Aj hR=>?_;have AB:=MF AW AQ 3 4 5 8
 refine AI ⟨[(4,.p 4 0)],(4,.box 27 (.AF (A1 (mkNum Aa 1))))::(CO full (k+1) en++Y)⟩ ER ?_;repeat'(first|exact tT|refine WA tT (Y3 q0 p0 AB) ?_ ?_|(refine HE ?_;clear hK K)|refine WR fun K hK=>?_|refine HT ?_|refine WC (fun h=>?_) fun h=>?_|exact ff|fail)
 all_goals first|omega|(exact LV)
set_option maxHeartbeats 16000000 in
theorem Yq{r:List Tk}:F6 164 full en [.a (ET ⟨1,KT⟩)] (⟨1,KT⟩::r) (mkNum Aa 0) r:=by
 intro k E5 hk;obtain⟨FM,_,d1⟩:=AG hk;refine E2 hk d1 Zo ?_;have q0:decide (KT=⟨#[116,114,117,101]⟩)=false:=Zd
 have q1:decide (KT=⟨#[102,97,108,115,101]⟩)=true:=Zd
 have p0:decide (KT=⟨#[116,114,117,101]⟩)=false:=Zd
 refine FO 92 [.cell 4 27] Tryz.func164 Tryz.ntmps164 fun B w0 Y R Am Az hY AQ AW Aj hR=>?_;have AB:=MF AW AQ 3 4 5 8
 refine AI ⟨[(4,.p 4 0)],(4,.box 27 (.AF (A1 (mkNum Aa 0))))::(CO full (k+1) en++Y)⟩ ER ?_;repeat'(first|exact tT|refine WA tT (Y4 q0 q1 p0 AB) ?_ ?_|(refine HE ?_;clear hK K)|refine WR fun K hK=>?_|refine HT ?_|refine WC (fun h=>?_) fun h=>?_|exact ff|fail)
 all_goals first|omega|(exact LV)
set_option maxHeartbeats 16000000 in
theorem je{t:Tk}{r:List Tk}{n:Int}(ht:DU 1 t=some n):F6 164 full en [.a (ET ⟨1,Yb⟩)] (⟨1,Yb⟩::t::r) (aG n) r:=by
 intro k E5 hk;obtain⟨FM,_,d1⟩:=AG hk;obtain⟨El,_,d2⟩:=AG d1;refine E2 hk d2 Zo ?_;have e1:=Dm full _ en _ _ 1 n d1 BF ht;have q0:decide (Yb=⟨#[116,114,117,101]⟩)=false:=Zd
 have q1:decide (Yb=⟨#[102,97,108,115,101]⟩)=false:=Zd
 have q2:decide (Yb=⟨#[97,114,116]⟩)=true:=Zd
 refine FO 92 [.cell 4 27] Tryz.func164 Tryz.ntmps164 fun B w0 Y R Am Az hY AQ AW Aj hR=>?_;have AB:=MF AW AQ 3 4 5 8
 refine AI ⟨[(4,.p 4 0)],(4,.box 27 (.AF (A1 (aG n))))::(CO full (k+1+1) en++Y)⟩ ER ?_;repeat'(first|exact tT|refine WA tT (Y4 q0 q1 q2 AB) ?_ ?_|(refine EA e1 (Y4 q0 q1 q2 AB) ?_;clear e1)|(refine HE ?_;clear hK K)|refine WR fun K hK=>?_|refine HT ?_|refine WC (fun h=>?_) fun h=>?_|exact ff|fail)
 all_goals first|omega|(exact LV)
set_option maxHeartbeats 16000000 in
theorem Ub{r:List Tk}:F6 164 full en [.a (ET ⟨1,(bA [119,101,101,107,100,97,121])⟩)] (⟨1,(bA [119,101,101,107,100,97,121])⟩::r) (Ir (bA [119,101,101,107,100,97,121])) r:=by
 intro k E5 hk;obtain⟨FM,_,d1⟩:=AG hk;refine E2 hk d1 Zo ?_;have q0:decide ((bA [119,101,101,107,100,97,121])=⟨#[116,114,117,101]⟩)=false:=Zd
 have q1:decide ((bA [119,101,101,107,100,97,121])=⟨#[102,97,108,115,101]⟩)=false:=Zd
 have q2:decide ((bA [119,101,101,107,100,97,121])=⟨#[97,114,116]⟩)=false:=Zd
 have q3:decide ((bA [119,101,101,107,100,97,121])=⟨#[119,101,101,107,100,97,121]⟩)=true:=Zd
 refine FO 92 [.cell 4 27] Tryz.func164 Tryz.ntmps164 fun B w0 Y R Am Az hY AQ AW Aj hR=>?_;have AB:=MF AW AQ 3 4 5 8
 refine AI ⟨[(4,.p 4 0)],(4,.box 27 (.AF (A1 (Ir (bA [119,101,101,107,100,97,121])))))::(CO full (k+1) en++Y)⟩ ER ?_;repeat'(first|exact tT|refine WA tT (Y5 q0 q1 q2 q3 AB) ?_ ?_|(refine HE ?_;clear hK K)|refine WR fun K hK=>?_|refine HT ?_|refine WC (fun h=>?_) fun h=>?_|exact ff|fail)
 all_goals first|omega|(exact LV)
set_option maxHeartbeats 16000000 in
theorem jf{r:List Tk}:F6 164 full en [.a (ET ⟨1,(bA [100,97,121])⟩)] (⟨1,(bA [100,97,121])⟩::r) (Ir (bA [100,97,121])) r:=by
 intro k E5 hk;obtain⟨FM,_,d1⟩:=AG hk;refine E2 hk d1 Zo ?_;have q0:decide ((bA [100,97,121])=⟨#[116,114,117,101]⟩)=false:=Zd
 have q1:decide ((bA [100,97,121])=⟨#[102,97,108,115,101]⟩)=false:=Zd
 have q2:decide ((bA [100,97,121])=⟨#[97,114,116]⟩)=false:=Zd
 have q3:decide ((bA [100,97,121])=⟨#[119,101,101,107,100,97,121]⟩)=false:=Zd
 have q4:decide ((bA [100,97,121])=⟨#[100,97,121]⟩)=true:=Zd
 refine FO 92 [.cell 4 27] Tryz.func164 Tryz.ntmps164 fun B w0 Y R Am Az hY AQ AW Aj hR=>?_;have AB:=MF AW AQ 3 4 5 8
 refine AI ⟨[(4,.p 4 0)],(4,.box 27 (.AF (A1 (Ir (bA [100,97,121])))))::(CO full (k+1) en++Y)⟩ ER ?_;repeat'(first|exact tT|refine WA tT (Y6 q0 q1 q2 q3 q4 AB) ?_ ?_|(refine HE ?_;clear hK K)|refine WR fun K hK=>?_|refine HT ?_|refine WC (fun h=>?_) fun h=>?_|exact ff|fail)
 all_goals first|omega|(exact LV)
set_option maxHeartbeats 16000000 in
theorem Yr{r:List Tk}:F6 164 full en [.a (ET ⟨1,(bA [109,111,110,116,104])⟩)] (⟨1,(bA [109,111,110,116,104])⟩::r) (Ir (bA [109,111,110,116,104])) r:=by
 intro k E5 hk;obtain⟨FM,_,d1⟩:=AG hk;refine E2 hk d1 Zo ?_;have q0:decide ((bA [109,111,110,116,104])=⟨#[116,114,117,101]⟩)=false:=Zd
 have q1:decide ((bA [109,111,110,116,104])=⟨#[102,97,108,115,101]⟩)=false:=Zd
 have q2:decide ((bA [109,111,110,116,104])=⟨#[97,114,116]⟩)=false:=Zd
 have q3:decide ((bA [109,111,110,116,104])=⟨#[119,101,101,107,100,97,121]⟩)=false:=Zd
 have q4:decide ((bA [109,111,110,116,104])=⟨#[100,97,121]⟩)=false:=Zd
 have q5:decide ((bA [109,111,110,116,104])=⟨#[109,111,110,116,104]⟩)=true:=Zd
 refine FO 92 [.cell 4 27] Tryz.func164 Tryz.ntmps164 fun B w0 Y R Am Az hY AQ AW Aj hR=>?_;have AB:=MF AW AQ 3 4 5 8
 refine AI ⟨[(4,.p 4 0)],(4,.box 27 (.AF (A1 (Ir (bA [109,111,110,116,104])))))::(CO full (k+1) en++Y)⟩ ER ?_;repeat'(first|exact tT|refine WA tT (Y7 q0 q1 q2 q3 q4 q5 AB) ?_ ?_|(refine HE ?_;clear hK K)|refine WR fun K hK=>?_|refine HT ?_|refine WC (fun h=>?_) fun h=>?_|exact ff|fail)
 all_goals first|omega|(exact LV)
set_option maxHeartbeats 16000000 in
theorem dO{r:List Tk}:F6 164 full en [.a (ET ⟨1,(bA [121,101,97,114])⟩)] (⟨1,(bA [121,101,97,114])⟩::r) (Ir (bA [121,101,97,114])) r:=by
 intro k E5 hk;obtain⟨FM,_,d1⟩:=AG hk;refine E2 hk d1 Zo ?_;have q0:decide ((bA [121,101,97,114])=⟨#[116,114,117,101]⟩)=false:=Zd
 have q1:decide ((bA [121,101,97,114])=⟨#[102,97,108,115,101]⟩)=false:=Zd
 have q2:decide ((bA [121,101,97,114])=⟨#[97,114,116]⟩)=false:=Zd
 have q3:decide ((bA [121,101,97,114])=⟨#[119,101,101,107,100,97,121]⟩)=false:=Zd
 have q4:decide ((bA [121,101,97,114])=⟨#[100,97,121]⟩)=false:=Zd
 have q5:decide ((bA [121,101,97,114])=⟨#[109,111,110,116,104]⟩)=false:=Zd
 have q6:decide ((bA [121,101,97,114])=⟨#[121,101,97,114]⟩)=true:=Zd
 refine FO 92 [.cell 4 27] Tryz.func164 Tryz.ntmps164 fun B w0 Y R Am Az hY AQ AW Aj hR=>?_;have AB:=MF AW AQ 3 4 5 8
 refine AI ⟨[(4,.p 4 0)],(4,.box 27 (.AF (A1 (Ir (bA [121,101,97,114])))))::(CO full (k+1) en++Y)⟩ ER ?_;repeat'(first|exact tT|refine WA tT (Y8 q0 q1 q2 q3 q4 q5 q6 AB) ?_ ?_|(refine HE ?_;clear hK K)|refine WR fun K hK=>?_|refine HT ?_|refine WC (fun h=>?_) fun h=>?_|exact ff|fail)
 all_goals first|omega|(exact LV)
set_option maxHeartbeats 16000000 in
theorem Ys{ts r:List Tk}{t:Tk}{e:Nd}(h:F6 119 full en [] ts e (t::r))(ht:t.text=D3):F6 164 full en [.a (ET ⟨6,E0⟩)] (⟨6,E0⟩::ts) (e) r:=by
 intro k E5 hk;obtain⟨FM,_,d1⟩:=AG hk;obtain⟨d2,Ak,hF⟩:=h _ Zo d1;have SF:full.length - (t::r).length≤full.length:=Nat.sub_le _ _;have hmk:k+1<full.length - (t::r).length:=by have:=IZ d1 Zo;have:=congrArg List.length d2;rw[List.length_drop]at this;omega
 generalize full.length - (t::r).length=m at*;obtain⟨El,_,d3⟩:=AG d2;refine E2 hk d3 Zo ?_;have e1:=Ax full _ en _ _ d2 BF _ ht;have q0:decide (E0=⟨#[116,114,117,101]⟩)=false:=Zd
 have q1:decide (E0=⟨#[102,97,108,115,101]⟩)=false:=Zd
 have q2:decide (E0=⟨#[97,114,116]⟩)=false:=Zd
 have q3:decide (E0=⟨#[119,101,101,107,100,97,121]⟩)=false:=Zd
 have q4:decide (E0=⟨#[100,97,121]⟩)=false:=Zd
 have q5:decide (E0=⟨#[109,111,110,116,104]⟩)=false:=Zd
 have q6:decide (E0=⟨#[121,101,97,114]⟩)=false:=Zd
 have q7:decide (E0=⟨#[108,101,97,115,116]⟩)=false:=Zd
 have q8:decide (E0=⟨#[103,114,101,97,116,101,115,116]⟩)=false:=Zd
 have q9:decide (E0=⟨#[116,97,98,108,101]⟩)=false:=Zd
 have q10:decide (E0=⟨#[40]⟩)=true:=Zd
 refine FO 92 [.cell 4 27] Tryz.func164 Tryz.ntmps164 fun B w0 Y R Am Az hY AQ AW Aj hR=>?_;have AB:=MF AW AQ 3 4 5 8
 refine AI ⟨[(4,.p 4 0)],(4,.box 27 (.AF (A1 (e))))::(CO full (m+1) en++Y)⟩ ER ?_;repeat'(first|exact tT|refine WA tT (Y9 q0 q1 q2 q3 q4 q5 q6 q7 (Y4 q8 q9 q10 AB)) ?_ ?_|(refine EA hF (Y9 q0 q1 q2 q3 q4 q5 q6 q7 (Y4 q8 q9 q10 AB)) ?_;clear hF)|(refine EA e1 (Y9 q0 q1 q2 q3 q4 q5 q6 q7 (Y4 q8 q9 q10 AB)) ?_;clear e1)|(refine HE ?_;clear hK K)|refine WR fun K hK=>?_|refine HT ?_|refine WC (fun h=>?_) fun h=>?_|exact ff|fail)
 all_goals first|omega|(exact LV)
set_option maxHeartbeats 16000000 in
theorem Yt{ts r:List Tk}{e:Nd}(h:F6 170 full en [] (⟨1,Ft⟩::ts) e r):F6 164 full en [.a (ET ⟨1,Ft⟩)] (⟨1,Ft⟩::ts) (e) r:=by
 intro k E5 hk;obtain⟨d2,Ak,hF⟩:=h _ E5 hk;refine⟨d2,Ak,?_⟩;generalize full.length - r.length=m at*;have q0:decide (Ft=⟨#[116,114,117,101]⟩)=false:=Zd
 have q1:decide (Ft=⟨#[102,97,108,115,101]⟩)=false:=Zd
 have q2:decide (Ft=⟨#[97,114,116]⟩)=false:=Zd
 have q3:decide (Ft=⟨#[119,101,101,107,100,97,121]⟩)=false:=Zd
 have q4:decide (Ft=⟨#[100,97,121]⟩)=false:=Zd
 have q5:decide (Ft=⟨#[109,111,110,116,104]⟩)=false:=Zd
 have q6:decide (Ft=⟨#[121,101,97,114]⟩)=false:=Zd
 have q7:decide (Ft=⟨#[108,101,97,115,116]⟩)=true:=Zd
 refine FO 92 [.cell 4 27] Tryz.func164 Tryz.ntmps164 fun B w0 Y R Am Az hY AQ AW Aj hR=>?_;have AB:=MF AW AQ 3 4 5 8
 refine AI ⟨[(4,.p 4 0)],(4,.box 27 (.AF (A1 (e))))::(CO full (m) en++Y)⟩ ER ?_;repeat'(first|exact tT|refine WA tT (Y9 q0 q1 q2 q3 q4 q5 q6 q7 AB) ?_ ?_|(refine EA hF (Y9 q0 q1 q2 q3 q4 q5 q6 q7 AB) ?_;clear hF)|(refine HE ?_;clear hK K)|refine WR fun K hK=>?_|refine HT ?_|refine WC (fun h=>?_) fun h=>?_|exact ff|fail)
 all_goals first|omega|(exact LV)
set_option maxHeartbeats 16000000 in
theorem R0{ts r:List Tk}{e:Nd}(h:F6 170 full en [] (⟨1,Bd⟩::ts) e r):F6 164 full en [.a (ET ⟨1,Bd⟩)] (⟨1,Bd⟩::ts) (e) r:=by
 intro k E5 hk;obtain⟨d2,Ak,hF⟩:=h _ E5 hk;refine⟨d2,Ak,?_⟩;generalize full.length - r.length=m at*;have q0:decide (Bd=⟨#[116,114,117,101]⟩)=false:=Zd
 have q1:decide (Bd=⟨#[102,97,108,115,101]⟩)=false:=Zd
 have q2:decide (Bd=⟨#[97,114,116]⟩)=false:=Zd
 have q3:decide (Bd=⟨#[119,101,101,107,100,97,121]⟩)=false:=Zd
 have q4:decide (Bd=⟨#[100,97,121]⟩)=false:=Zd
 have q5:decide (Bd=⟨#[109,111,110,116,104]⟩)=false:=Zd
 have q6:decide (Bd=⟨#[121,101,97,114]⟩)=false:=Zd
 have q7:decide (Bd=⟨#[108,101,97,115,116]⟩)=false:=Zd
 have q8:decide (Bd=⟨#[103,114,101,97,116,101,115,116]⟩)=true:=Zd
 refine FO 92 [.cell 4 27] Tryz.func164 Tryz.ntmps164 fun B w0 Y R Am Az hY AQ AW Aj hR=>?_;have AB:=MF AW AQ 3 4 5 8
 refine AI ⟨[(4,.p 4 0)],(4,.box 27 (.AF (A1 (e))))::(CO full (m) en++Y)⟩ ER ?_;repeat'(first|exact tT|refine WA tT (Y9 q0 q1 q2 q3 q4 q5 q6 q7 (Y2 q8 AB)) ?_ ?_|(refine EA hF (Y9 q0 q1 q2 q3 q4 q5 q6 q7 (Y2 q8 AB)) ?_;clear hF)|(refine HE ?_;clear hK K)|refine WR fun K hK=>?_|refine HT ?_|refine WC (fun h=>?_) fun h=>?_|exact ff|fail)
 all_goals first|omega|(exact LV)
set_option maxHeartbeats 16000000 in
theorem Yu{ts r:List Tk}{e:Nd}(h:F6 171 full en [] (⟨1,FB⟩::ts) e r):F6 164 full en [.a (ET ⟨1,FB⟩)] (⟨1,FB⟩::ts) (e) r:=by
 intro k E5 hk;obtain⟨d2,Ak,hF⟩:=h _ E5 hk;refine⟨d2,Ak,?_⟩;generalize full.length - r.length=m at*;have q0:decide (FB=⟨#[116,114,117,101]⟩)=false:=Zd
 have q1:decide (FB=⟨#[102,97,108,115,101]⟩)=false:=Zd
 have q2:decide (FB=⟨#[97,114,116]⟩)=false:=Zd
 have q3:decide (FB=⟨#[119,101,101,107,100,97,121]⟩)=false:=Zd
 have q4:decide (FB=⟨#[100,97,121]⟩)=false:=Zd
 have q5:decide (FB=⟨#[109,111,110,116,104]⟩)=false:=Zd
 have q6:decide (FB=⟨#[121,101,97,114]⟩)=false:=Zd
 have q7:decide (FB=⟨#[108,101,97,115,116]⟩)=false:=Zd
 have q8:decide (FB=⟨#[103,114,101,97,116,101,115,116]⟩)=false:=Zd
 have q9:decide (FB=⟨#[116,97,98,108,101]⟩)=true:=Zd
 refine FO 92 [.cell 4 27] Tryz.func164 Tryz.ntmps164 fun B w0 Y R Am Az hY AQ AW Aj hR=>?_;have AB:=MF AW AQ 3 4 5 8
 refine AI ⟨[(4,.p 4 0)],(4,.box 27 (.AF (A1 (e))))::(CO full (m) en++Y)⟩ ER ?_;repeat'(first|exact tT|refine WA tT (Y9 q0 q1 q2 q3 q4 q5 q6 q7 (Y3 q8 q9 AB)) ?_ ?_|(refine EA hF (Y9 q0 q1 q2 q3 q4 q5 q6 q7 (Y3 q8 q9 AB)) ?_;clear hF)|(refine HE ?_;clear hK K)|refine WR fun K hK=>?_|refine HT ?_|refine WC (fun h=>?_) fun h=>?_|exact ff|fail)
 all_goals first|omega|(exact LV)
end
theorem PM(l:List Nd):AV.Dp (Gn l)=true:=by
 induction l with
 |nil=>rfl
 |cons p r ih=>
  show AV.Dp (_::_::_::_::_::_::_::_::_::_::_::Gn r)=true;simp only[AV.Dp,ih];rfl
theorem Yv{α:Type}(x:Nat→α)(i:Nat):(List.range (i+1)).map x=(List.range i).map x++ [x i]:=by
 rw[List.range_succ,List.map_append];rfl
section
variable(full:List Tk)(en:Int)(BF:full.length≤2000)
include BF
set_option maxHeartbeats 8000000 in
theorem aa(f:Nat){ts r:List Tk}{e:Nd}{n:Nat}{at_:Nat→List Tk}{x:Nat→Nd}(h0:F6 f full en [] ts e (at_ 0))(hc: ∀i,i<n→A4 Cp (at_ i)=true)(hx: ∀i,i<n→F6 f full en [] (at_ i).tail (x i) (at_ (i+1)))(CB:A4 Cp (at_ n)=false)
  (k:Nat) (E5:k≤full.length) (hk:full.drop k=ts):(full.drop (full.length - (at_ n).length)=at_ n∧(at_ n).length<ts.length∧n≤2000)∧BS Tryz.prog T 117 [.p 1000 0,.f (.yield f) [.p 1000 0]] (CO full k en) (CS (e::(List.range n).map x)) (CO full (full.length - (at_ n).length) en):=by
 obtain⟨d0,z8,bW⟩:=h0 k E5 hk
 have TX: ∀i,i<n→ ∃t tl,at_ i=t::tl:=fun i hi=>by
  cases ha:at_ i with
  |nil=>have:=hc i hi;rw[ha]at this;cases this
  |cons t r=>exact⟨t,r,rfl⟩
 have hd: ∀i,i≤n→full.drop (full.length - (at_ i).length)=at_ i∧(at_ i).length+i≤(at_ 0).length:=fun i=>by
  induction i with
  |zero=>exact fun _=>⟨d0,Zo⟩
  |succ i ih=>
   intro hi;obtain⟨h1,h2⟩:=ih Zo;obtain⟨t,tl,ht⟩:=TX i Zo;have OU:=hx i Zo;rw[ht]at h1 h2 OU;obtain⟨h3,_,h4⟩:=AG h1;obtain⟨h5,h6,_⟩:=OU _ Zo h4;simp only[List.tail_cons,List.length_cons]at h2 h6;exact⟨h5,Zo⟩
 have ZV:ts.length≤2000:=by rw[←hk,List.length_drop];omega
 have LK:n≤2000:=by have:=(hd n (Nat.le_refl _)).2;omega
 refine⟨⟨(hd n (Nat.le_refl _)).1,by have:=(hd n (Nat.le_refl _)).2;omega,LK⟩,?_⟩;generalize xP:e::(List.range n).map x=L0;refine FO 24 [.tmp 4] Tryz.func117 Tryz.ntmps117 fun B w0 Y R Am Az hY AQ AW Aj hR=>?_;have AB:=Il AW AQ 8 21 22
 refine AI ⟨[(4,CS L0)],CO full (full.length - (at_ n).length) en++Y⟩ ER ?_;repeat' (first|((first|refine SY hT 8 rfl rfl Zd fun K' AX=>?_|refine sC hT fun K' AX=>?_|refine oC fun K' AX=>?_);push_cast[AB];(try simp (disch:=omega) only[wrap64,Int.toNat_natCast]);(repeat refine AS ?_ ?_);(first|refine AX _ ?_|refine⟨.v (.int .i64 0),AX _ ?_⟩);clear AX K')|((first|refine fE hT Am fun K' AX=>?_|refine fG hT Am fun K' AX=>?_);push_cast[AB];(repeat refine AS ?_ ?_);(first|(refine⟨_,_,_,bW,(by first|rfl|(simp[Oa,AN.C9,AV.DB,AV.C9,Es,Af];done)),Zk,(by repeat(first|exact trivial|refine⟨rfl,?_⟩)),?_⟩;clear bW));push_cast[AB,List.cons_append,List.nil_append];refine AX _ ?_;clear AX K')|(refine sK hT ?_;simp only[St.put])|((first|refine A9 (hK _ ?_)|refine Bk (hK _ ?_));clear hK K;push_cast[AB])|((first|apply Bs|apply B5|apply CG|apply Cl);push_cast[AB])|refine CH fun K hK=>?_|refine Fm fun K hK=>?_|refine dQ hT hm fun K hK=>?_|refine dL hT hm fun K hK=>?_|apply Bq|apply Br|apply CR|(refine B6 _ rfl (fun h=>?_) (fun h=>?_)<;>simp only[VC,reduceCtorEq]at h))
 all_goals try exact ff
 all_goals first|omega|skip
 have fb:Dh 22 Y=Y:=hY.del Zd;have H9:AJ 22 Y=Y:=AQ 22 Zd;have hrY:Gd 8 22 Y=Y:=hY.rn Zd
 refine AM (α:=Nat) (fun i=>⟨[(5,.s 22),(0,.p 1000 0),(1,.f (.yield f) [.p 1000 0])],(22,.row 27 11 (.AF (Gn (e::(List.range i).map x))))::(CO full (full.length - (at_ i).length) en++Y)⟩) (fun i=>i≤n) (fun i=>n - i) 0 (Nat.zero_le _) (fun a w hG=>by
  obtain⟨ρ,I,hg⟩:=hG;have hn:=hg.BQ.JQ;have hG:G 24 B w0 _ a w:=⟨ρ,I,hg⟩;have h0:G 24 B w0 ⟨[(5,.s 8),(0,.p 1000 0),(1,.f (.yield f) [.p 1000 0])],(8,.row 27 11 (.AF (A1 e)))::(CO full (full.length - (at_ 0).length) en++Y)⟩ a w:=(G.Al (AA Ai) Au) a w hG;have h1:=h0.rn 8 22 NI NI (hn 22 Zd);push_cast[IL,Gd,hrY,List.cons_append,List.nil_append]at h1;have h2:Gn (e::(List.range 0).map x)=A1 e:=Ia e;rw[h2];exact(G.Al (AA Ai) Au) a w h1) fun i hi=>?_
 obtain⟨h1,h2⟩:=hd i hi;have hs:=EM full _ en Cp _ h1;have lb:(e::(List.range i).map x).length=i+1:=by simp
 have VH:=Jk (e::(List.range i).map x);rw[lb]at VH;by_cases Ak:i<n
 ·rw[hc i Ak]at hs;obtain⟨t,tl,ht⟩:=TX i Ak;have OU:=hx i Ak;rw[ht]at h1 OU;obtain⟨h3,_,h4⟩:=AG h1;obtain⟨h5,h6,hF⟩:=OU _ Zo h4;rw[show full.length - (t::tl).length=full.length - (at_ i).length by rw[ht]]at hF h3;have BE:Gn (e::(List.range (i+1)).map x)=Gn (e::(List.range i).map x)++A1 (x i):=by rw[Yv,←List.cons_append,Ua,Ia]
  generalize Gn (e::(List.range i).map x)=L at*;generalize full.length - (at_ i).length=m at*;generalize bK:full.length - (at_ (i+1)).length=m2 at*;generalize x i=xi at*;have Gv:L.length / 11=i+1:=Zo
  repeat'(first|exact tT|refine WA tT (Y4 fb H9 Gv AB) ?_ ?_|(refine WQ (Y4 fb H9 Gv AB) fun K' AX=>?_;(repeat refine AS ?_ ?_);(first|refine⟨A1 xi,⟨rfl,(fun el j h1 h2=>rfl),rfl,Zo,Zo⟩,?_⟩);refine AX _ ?_;clear AX K')|(refine EA hs (Y4 fb H9 Gv AB) ?_;clear hs)|(refine EA hF (Y4 fb H9 Gv AB) ?_;clear hF)|(refine HE ?_;clear hK K)|refine WR fun K hK=>?_|refine HT ?_|refine WC (fun h=>?_) fun h=>?_|exact ff|fail)
  all_goals first|omega|(refine⟨i+1,⟨Zo,Zo⟩,?_⟩;simp only[BE,bK];exact G.Al (AA Ai) Au)
 ·obtain rfl:i=n:=Zo
  rw[CB]at hs;rw[xP]at lb VH ⊢;have HJ:=PM L0;have Ct:=Ib true L0;rw[lb]at Ct;generalize full.length - (at_ i).length=m at*;repeat'(first|exact tT|refine WA tT AB ?_ ?_|(refine EA hs AB ?_;clear hs)|(refine HE ?_;clear hK K)|refine WR fun K hK=>?_|refine HT ?_|refine WC (fun h=>?_) fun h=>?_|exact ff|fail)
  have Gv:(Gn L0).length / 11=i+1:=Zo
  refine fun a w hG=>?_;have h0:G 24 B w0 ⟨[(4,.s 22)],(22,.row 27 11 (.AF (Gn L0)))::(CO full m en++Y)⟩ a w:=(G.Al (AA Ai) Au) a w hG;have h1:=h0.GR 22 _ rfl HJ;push_cast[KH,Ec,Fo,Ge,Ik,Ij,KG,Ez,hY.ml (d:=22) (.row 27 11 (.AF (Gn L0))) Zd,Gv,List.cons_append,List.nil_append]at h1;exact h1.E8 ⟨Ct,trivial⟩ (by simp only[List.cons_append,List.nil_append];exact Lk)
end
theorem jg(l:List Nd):Ih (Gn l)=true:=by
 induction l with
 |nil=>rfl
 |cons p r ih=>
  show Ih (_::_::_::_::_::_::_::_::_::_::_::Gn r)=true;simp only[Ih,ih];rfl
section
variable(full:List Tk)(en:Int)(BF:full.length≤2000)
include BF
set_option maxHeartbeats 8000000 in
theorem Ov{s:ByteArray}{ts r:List Tk}{e:Nd}{n:Nat}{at_:Nat→List Tk}{x:Nat→Nd}{t:Tk}(h0:F6 119 full en [] ts e (at_ 0))(hn:0<n)(hc: ∀i,i<n→A4 Cp (at_ i)=true)
  (hx: ∀i,i<n→F6 119 full en [] (at_ i).tail (x i) (at_ (i+1))) (CB:at_ n=t::r) (ht:t.text=D3):F6 170 full en [] (⟨1,s⟩::⟨6,E0⟩::ts) (Nf s (e::(List.range n).map x)) r:=by
 intro k E5 hk;obtain⟨FM,_,d1⟩:=AG hk;obtain⟨El,_,d2⟩:=AG d1;obtain⟨d3,pI,bW⟩:=h0 _ Zo d2
 obtain⟨u,tl,hu⟩: ∃u tl,at_ 0=u::tl:=by
  cases ha:at_ 0 with
  |nil=>have:=hc 0 hn;rw[ha]at this;cases this
  |cons t r=>exact⟨t,r,rfl⟩
 have hut:u.text=Cp:=by have:=hc 0 hn;rw[hu]at this;exact of_decide_eq_true this
 have uX:=hx 0 hn;rw[hu]at d3 bW pI uX;have hp3:=IZ d2 Zo;obtain⟨tu,_,d4⟩:=AG d3
 have tv:A4 Cp (at_ (n - 1+1))=false:=by
  rw[show n - 1+1=n by omega,CB];unfold A4;show decide (t.text=Cp)=false;rw[ht];decide
 obtain⟨⟨d5,pJ,LK⟩,hL⟩:=aa (r:= []) full en BF 119 (at_:=fun i=>at_ (i+1)) (x:=fun i=>x (i+1)) (n:=n - 1) uX (fun i hi=>hc (i+1) Zo) (fun i hi=>hx (i+1) Zo) tv _ Zo d4
 have F4:x 0::(List.range (n - 1)).map (fun i=>x (i+1))=(List.range n).map x:=by
  obtain⟨m,rfl⟩: ∃m,n=m+1:=⟨n - 1,Zo⟩;rw[Nat.add_sub_cancel,List.range_succ_eq_map,List.map_cons,List.map_map];rfl
 rw[F4]at hL;have SE:((List.range n).map x).length=n:=by simp
 rw[show n - 1+1=n by omega,CB]at d5 pJ hL;obtain⟨hm5,_,d6⟩:=AG d5;simp only[List.length_cons]at pI pJ;have e1:=Cq full k en _ _ hk;have e2:=Ax full _ en _ _ d1 BF _ rfl;have e3:=Ax full _ en _ _ d3 BF _ hut;have e4:=Ax full _ en _ _ d5 BF _ ht;have lC:tl.length=full.length - (full.length - (u::tl).length+1):=by have:=congrArg List.length d4;rw[List.length_drop]at this;omega
 refine E2 hk d6 ⟨?_,Zo⟩ ?_
 ·have h1:=congrArg List.length hk;have h2:=congrArg List.length d6;rw[List.length_drop]at h1 h2;have l1:(t::r).length=r.length+1:=rfl;have l2:(u::tl).length=tl.length+1:=rfl;have l3:(u::tl).tail.length=tl.length:=rfl;simp only[List.length_cons]at h1 h2;omega
 generalize (List.range n).map x=xs at*;generalize full.length - (u::tl).length=m at*;generalize full.length - (t::r).length=m2 at*;have Ct:=Ib true (e::xs);have HJ:=PM (e::xs);have VH:=Jk (e::xs);have AAB:=jg xs;have AAC:=Jk xs;have hca:=fun el j (h1:el<xs.length) (h2:j<11)=>(ja xs el j h1 h2).symm;have Xb:A1 e++Gn xs=Gn (e::xs):=rfl;refine FO 41 [.cell 2 27] Tryz.func170 Tryz.ntmps170 fun B w0 Y R Am Az hY AQ AW Aj hR=>?_;have AB:=KK6 AW AQ 2 3 4 25 26 36
 refine AI ⟨[(2,.p 2 0)],(2,.box 27 (.AF (A1 (Nf s (e::xs)))))::(CO full (m2+1) en++Y)⟩ ER ?_;repeat'(first|exact tT|refine WA tT AB ?_ ?_|(refine EA e1 AB ?_;clear e1)|(refine EA e2 AB ?_;clear e2)|(refine HE ?_;clear hK K)|refine WN fun K hK=>?_|refine HT ?_|refine WC (fun h=>?_) fun h=>?_|exact ff|fail)
 have H9:AJ 26 Y=Y∧AJ 36 Y=Y∧AJ 25 Y=Y∧Dh 26 Y=Y∧Dh 36 Y=Y:=⟨AQ _ Zd,AQ _ Zd,AQ _ Zd,hY.del Zd,hY.del Zd⟩
 refine A7 ⟨[(0,.p 1000 0),(2,.p 2 0),(3,.p 3 0),(4,.p 4 0)],[(2,.box 27 (.AF [AE 0,An ⟨#[]⟩,An ⟨#[]⟩,AE 0,AE 0,AE 0,AE 0,AE 0,.v (.slice none 0 0),.v (.slice none 0 0),AE 0])),(4,.box 27 (.AF [AE 17,An s,An ⟨#[]⟩,AE 0,AE 0,AE 0,AE 0,AE 0,.v (.slice none 0 0),.s 36,.o])),(36,.row 27 11 (.AF []))]++(CO full (k+1+1) en++Y)⟩ (fun a w hG=>by
  obtain⟨ρ,I,hg⟩:=hG;have hn:=hg.BQ.JQ;have hG:G 41 B w0 _ a w:=⟨ρ,I,hg⟩;have h0:G 41 B w0 ⟨[(0,.p 1000 0),(2,.p 2 0),(3,.p 3 0),(4,.p 4 0)],[(2,.box 27 (.AF [AE 0,An ⟨#[]⟩,An ⟨#[]⟩,AE 0,AE 0,AE 0,AE 0,AE 0,.v (.slice none 0 0),.v (.slice none 0 0),AE 0])),(4,.box 27 (.AF [AE 17,An s,An ⟨#[]⟩,AE 0,AE 0,AE 0,AE 0,AE 0,.v (.slice none 0 0),.v (.slice none 0 0),.o]))]++(CO full (k+1+1) en++Y)⟩ a w:=(G.Al (AA Ai) Au) a w hG;have h1:=h0.KS 4 36 9 27 27 11 (.AF []) rfl rfl Zd rfl (hn 36 Zd);push_cast[H9,List.cons_append,List.nil_append]at h1;exact(G.Al (AA Ai) Au) a w h1) ?_
 simp only[List.cons_append,List.nil_append]
 (apply JY hm [([oF,oF,oF,oF,oF,oF,oF,oF],_),([oT,oF,oF,oF,oF,oF,oF,oF],_),([oF,oF,oT,oF,oF,oF,oF,oF],_),([oT,oT,oF,oF,oF,oF,oF,oF],_),([oT,oF,oT,oF,oF,oF,oF,oF],_),([oF,oF,oT,oT,oF,oF,oF,oF],_),([oT,oT,oT,oF,oF,oF,oF,oF],_),([oT,oF,oT,oT,oF,oF,oF,oF],_),([oF,oF,oT,oT,oT,oF,oF,oF],_),([oT,oT,oT,oT,oF,oF,oF,oF],_),([oT,oF,oT,oT,oT,oF,oF,oF],_),([oT,oT,oT,oT,oT,oF,oF,oF],_),([oT,oT,oT,oT,oT,oT,oF,oF],_),([oT,oT,oT,oT,oT,oT,oT,oF],_),([oT,oT,oT,oT,oT,oT,oT,oT],_)] rfl;intro K Jz;repeat' (first|(refine Hb ZD ?_;refine Jz _ ?_;clear Jz K;push_cast)|refine AD 0 [2] ZD ?_ ?_|refine AD 0 [3] ZD ?_ ?_|refine AD 0 [4] ZD ?_ ?_|refine AD 0 [] ZD ?_ ?_|refine AD 1 [2] ZD ?_ ?_|refine AD 1 [3] ZD ?_ ?_|refine AD 1 [4] ZD ?_ ?_|refine AD 1 [] ZD ?_ ?_|refine AD 2 [] ZD ?_ ?_|refine AD 3 [] ZD ?_ ?_|refine AD 4 [] ZD ?_ ?_|refine AD 5 [] ZD ?_ ?_|refine AD 6 [] ZD ?_ ?_|refine AD 7 [] ZD ?_ ?_|exact Hc|refine GL rfl (fun K3 Kj=>?_) ?_|(refine A9 ?_;first|exact Kj _ _ rfl (fun _ _ h=>h)|exact Kj _ _ rfl (G.ql (by(repeat' (first|exact trivial|exact .inr rfl|exact .inl rfl|refine⟨?_,?_⟩))) rfl)|exact Kj _ _ rfl (G.uM (by(repeat' (first|exact trivial|exact .inr rfl|exact .inl rfl|refine⟨?_,?_⟩))) (by(repeat' (first|exact trivial|exact .inr rfl|exact .inl rfl|refine⟨?_,?_⟩)))))|exact tT|refine WA tT (Y2 H9 AB) ?_ ?_|(refine WQ (Y2 H9 AB) fun K' AX=>?_;(repeat refine AS ?_ ?_);(first|refine⟨A1 e,⟨rfl,(fun el j h1 h2=>rfl),rfl,Zo,Zo⟩,?_⟩|refine⟨A1 e,⟨rfl,(fun el j h1 h2=>rfl),rfl⟩,?_⟩);refine AX _ ?_;clear AX K')|refine EA bW (Y2 H9 AB) ?_|fail))
 all_goals try exact ff
 repeat'(first|exact tT|refine WA tT (Y2 H9 AB) ?_ ?_|(refine EA e3 (Y2 H9 AB) ?_;clear e3)|(refine HE ?_;clear hK K)|refine WN fun K hK=>?_|refine HT ?_|refine WC (fun h=>?_) fun h=>?_|exact ff|fail)
 (apply JY hm [([oF,oF,oF,oF,oF,oF,oF,oF,oF],_),([oT,oF,oF,oF,oF,oF,oF,oF,oF],_),([oF,oF,oT,oF,oF,oF,oF,oF,oF],_),([oF,oF,oF,oT,oF,oF,oF,oF,oF],_),([oT,oT,oF,oF,oF,oF,oF,oF,oF],_),([oT,oF,oT,oF,oF,oF,oF,oF,oF],_),([oT,oF,oF,oT,oF,oF,oF,oF,oF],_),([oF,oF,oT,oT,oF,oF,oF,oF,oF],_),([oF,oF,oF,oT,oT,oF,oF,oF,oF],_),([oT,oT,oT,oF,oF,oF,oF,oF,oF],_),([oT,oT,oF,oT,oF,oF,oF,oF,oF],_),([oT,oF,oT,oT,oF,oF,oF,oF,oF],_),([oT,oF,oF,oT,oT,oF,oF,oF,oF],_),([oF,oF,oT,oT,oT,oF,oF,oF,oF],_),([oT,oT,oT,oT,oF,oF,oF,oF,oF],_),([oT,oT,oF,oT,oT,oF,oF,oF,oF],_),([oT,oF,oT,oT,oT,oF,oF,oF,oF],_),([oF,oF,oT,oT,oT,oT,oF,oF,oF],_),([oT,oT,oT,oT,oT,oF,oF,oF,oF],_),([oT,oF,oT,oT,oT,oT,oF,oF,oF],_),([oT,oT,oT,oT,oT,oT,oF,oF,oF],_),([oT,oT,oT,oT,oT,oT,oT,oF,oF],_),([oT,oT,oT,oT,oT,oT,oT,oT,oF],_),([oT,oT,oT,oT,oT,oT,oT,oT,oT],_)] rfl;intro K Jz;repeat' (first|(refine Hb ZD ?_;refine Jz _ ?_;clear Jz K;push_cast)|refine AD 0 [2,3] ZD ?_ ?_|refine AD 0 [2,4] ZD ?_ ?_|refine AD 0 [2] ZD ?_ ?_|refine AD 0 [3] ZD ?_ ?_|refine AD 0 [4] ZD ?_ ?_|refine AD 0 [5] ZD ?_ ?_|refine AD 0 [] ZD ?_ ?_|refine AD 1 [2,3] ZD ?_ ?_|refine AD 1 [2,4] ZD ?_ ?_|refine AD 1 [2] ZD ?_ ?_|refine AD 1 [3] ZD ?_ ?_|refine AD 1 [4] ZD ?_ ?_|refine AD 1 [5] ZD ?_ ?_|refine AD 1 [] ZD ?_ ?_|refine AD 2 [3] ZD ?_ ?_|refine AD 2 [4] ZD ?_ ?_|refine AD 2 [] ZD ?_ ?_|refine AD 3 [] ZD ?_ ?_|refine AD 4 [] ZD ?_ ?_|refine AD 5 [] ZD ?_ ?_|refine AD 6 [] ZD ?_ ?_|refine AD 7 [] ZD ?_ ?_|refine AD 8 [] ZD ?_ ?_|exact Hc|refine GL rfl (fun K3 Kj=>?_) ?_|(refine A9 ?_;first|exact Kj _ _ rfl (fun _ _ h=>h)|exact Kj _ _ rfl (G.ql (by(repeat' (first|exact trivial|exact .inr rfl|exact .inl rfl|refine⟨?_,?_⟩))) rfl)|exact Kj _ _ rfl (G.uM (by(repeat' (first|exact trivial|exact .inr rfl|exact .inl rfl|refine⟨?_,?_⟩))) (by(repeat' (first|exact trivial|exact .inr rfl|exact .inl rfl|refine⟨?_,?_⟩)))))|exact tT|refine WA tT (Y2 H9 AB) ?_ ?_|(refine WQ (Y2 H9 AB) fun K' AX=>?_;(repeat refine AS ?_ ?_);(first|refine⟨Gn xs,⟨AAC,hca,AAB,Zo,Zo⟩,?_⟩);refine AX _ ?_;clear AX K')|refine EA hL (Y2 H9 AB) ?_|fail))
 all_goals try exact ff
 have Gv:(Gn (e::xs)).length / 11=(e::xs).length:=Zo
 refine A7 ⟨[(0,.p 1000 0),(2,.p 2 0),(4,.p 4 0)],[(4,.box 27 (.AF [AE 17,An s,An ⟨#[]⟩,AE 0,AE 0,AE 0,AE 0,AE 0,.v (.slice none 0 0),.i true (fun e' j=>(Gn (e::xs)).getD (e'*11+j) .top) 11 0 (e::xs).length,.o])),(2,.box 27 (.AF [AE 0,An ⟨#[]⟩,An ⟨#[]⟩,AE 0,AE 0,AE 0,AE 0,AE 0,.v (.slice none 0 0),.v (.slice none 0 0),AE 0]))]++(CO full m2 en++Y)⟩ (fun a w hG=>by
  have h0:G 41 B w0 ⟨[(0,.p 1000 0),(2,.p 2 0),(4,.p 4 0)],[(4,.box 27 (.AF [AE 17,An s,An ⟨#[]⟩,AE 0,AE 0,AE 0,AE 0,AE 0,.v (.slice none 0 0),.s 36,.o])),(36,.row 27 11 (.AF (Gn (e::xs)))),(2,.box 27 (.AF [AE 0,An ⟨#[]⟩,An ⟨#[]⟩,AE 0,AE 0,AE 0,AE 0,AE 0,.v (.slice none 0 0),.v (.slice none 0 0),AE 0]))]++(CO full m2 en++Y)⟩ a w:=(G.Al (AA Ai) Au) a w hG;have h1:=h0.GR 36 _ rfl HJ;push_cast[KH,Ec,Fo,Ge,Ik,Ij,KG,Ez,hY.ml (d:=36) (.row 27 11 (.AF (Gn (e::xs)))) Zd,Gv,List.cons_append,List.nil_append]at h1;exact(G.Al (AA Ai) Au) a w h1) ?_
 simp only[List.cons_append,List.nil_append];repeat'(first|exact tT|refine WA tT (Y2 H9 AB) ?_ ?_|(refine EA e4 (Y2 H9 AB) ?_;clear e4)|(refine HE ?_;clear hK K)|refine WN fun K hK=>?_|refine HT ?_|refine WC (fun h=>?_) fun h=>?_|exact ff|fail)
 exact LV
end
end Go.Proofs.YthemnhjojaehhaaGreatDoor
