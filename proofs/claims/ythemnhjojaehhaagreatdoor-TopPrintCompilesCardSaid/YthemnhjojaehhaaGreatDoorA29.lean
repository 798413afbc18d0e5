/- Part of a proof. -/
import Derived.Lib.Replace
import Derived.Test.YthemnhjojaehhaaGreatDoorA28
set_option linter.all false
namespace Go.Proofs.YthemnhjojaehhaaGreatDoor
open Go.Ad Go.Proofs Go.Tp
attribute [local irreducible] A8 AK BY Go.Ad.Pure BS
theorem QM{α:Type}[Inhabited α]{P:Nat→Prop}{f:α→List AV}{n:Nat}{l:List α}:AV.ids P (C2 f n l):=trivial
theorem LW{P:Nat→Prop}{l:List Nd}:AV.ids P (CS l):=trivial
theorem AG{full:List Tk}{k:Nat}{t:Tk}{r:List Tk}(h:full.drop k=t::r):k<full.length∧full.getD k default=t∧full.drop (k+1)=r:=by
 have hk:k<full.length:=by
  have:=congrArg List.length h;rw[List.length_drop,List.length_cons]at this;omega
 rw[List.drop_eq_getElem_cons hk]at h;injection h with h1 h2;exact⟨hk,by rw[Zlg,Zeg hk];exact h1,h2⟩
theorem r9{full:List Tk}{k:Nat}(h:full.drop k= []):full.length≤k:=by
 have:=congrArg List.length h;rw[List.length_drop,List.length_nil]at this;omega
abbrev CO(full:List Tk)(k:Nat)(en:Int):List (Nat×AN):= [(1000,.box 62 (.AF [KO full,AE (k:Int),AE en]))]
theorem Cq(full:List Tk)(k:Nat)(en:Int)(t:Tk)(r:List Tk)(h:full.drop k=t::r):BS Tryz.prog T 53 [.p 1000 0] (CO full k en) (.a (ET t)) (CO full k en):=by
 obtain⟨hk,ht,_⟩:=AG h;have c12:=DF ((full.length:Int)≤(k:Int));refine FO 29 [.cell 2 111] Tryz.func53 Tryz.ntmps53 fun B w0 Y R Am Az hY AQ AW Aj hR=>?_;have AB:=FI AW AQ 2
 repeat'(first|exact tT|refine WA tT (Y3 c12 ht AB) ?_ ?_|(refine HE ?_;clear hK K)|refine WR fun K hK=>?_|refine HT ?_|refine WC (fun h=>?_) fun h=>?_|exact ff|fail)
 all_goals first|(exact⟨Aj,hR _ IB⟩)|omega
theorem EM(full:List Tk)(k:Nat)(en:Int)(s:ByteArray)(ts:List Tk)(h:full.drop k=ts):BS Tryz.prog T 26 [.p 1000 0,An s] (CO full k en) (BL (A4 s ts)) (CO full k en):=by
 cases ts with
 |nil=>
  have hk:=r9 h;have c14:=DF ((k:Int)<(full.length:Int));refine FO 30 [.tmp 4] Tryz.func26 Tryz.ntmps26 fun B w0 Y R Am Az hY AQ AW Aj hR=>?_;have AB:=AW
  repeat'(first|exact tT|refine WA tT (Y2 c14 AB) ?_ ?_|(refine HE ?_;clear hK K)|refine WR fun K hK=>?_|refine HT ?_|refine WC (fun h=>?_) fun h=>?_|exact ff|fail)
  all_goals first|(exact⟨Aj,hR _ IB⟩)|omega
 |cons t r=>
  obtain⟨hk,ht,_⟩:=AG h;have c14:=DT ((k:Int)<(full.length:Int));refine FO 30 [.tmp 4] Tryz.func26 Tryz.ntmps26 fun B w0 Y R Am Az hY AQ AW Aj hR=>?_;have AB:=AW
  repeat'(first|exact tT|refine WA tT (Y3 c14 ht AB) ?_ ?_|(refine HE ?_;clear hK K)|refine WR fun K hK=>?_|refine HT ?_|refine WC (fun h=>?_) fun h=>?_|exact ff|fail)
  all_goals first|(exact⟨Aj,hR _ IB⟩)|omega
theorem Yl(t:Tk)(s:ByteArray):BS Tryz.prog T 114 [.a (ET t),.p 1002 0] [(1002,.box 9 (.AF [An s]))] (BL (decide (t.text=s))) [(1002,.box 9 (.AF [An s]))]:=by
 refine FO 8 [.tmp 3] Tryz.func114 Tryz.ntmps114 fun B w0 Y R Am Az hY AQ AW Aj hR=>?_;have AB:=FI AW AQ 2
 repeat'(first|exact tT|refine WA tT AB ?_ ?_|(refine HE ?_;clear hK K)|refine WR fun K hK=>?_|refine HT ?_|refine WC (fun h=>?_) fun h=>?_|exact ff|fail)
 all_goals first|(exact⟨Aj,hR _ IB⟩)|omega
set_option maxHeartbeats 2000000 in
theorem JH(t:Tk):Pure Tryz.prog 84 [.a (ET t)] (BL (D2 t)):=by
 have hk:=Vu t.text;unfold D2;have c:decide (t.kind=1)=(t.kind==1):=by by_cases h:t.kind=1<;>simp[h]
 rw[c];generalize Hj t.text=b at*;cases hh:(t.kind==1)
 all_goals (
  refine PO 12 [.tmp 2] hT Tryz.func84 Tryz.ntmps84 fun B w0=>?_;repeat'(first|exact tT|refine WA hk hh ?_ ?_|(refine PE ?_;clear hK K)|refine WR fun K hK=>?_|refine PT ?_|refine WC (fun h=>?_) fun h=>?_|exact ff|fail)
  all_goals first|rfl|skip)
set_option maxHeartbeats 2000000 in
theorem S8(t:Tk):Pure Tryz.prog 86 [.a (ET t)] (BL (IW t)):=by
 unfold IW;have c:decide (t.kind=2)=(t.kind==2):=by by_cases h:t.kind=2<;>simp[h]
 rw[c];refine PO 12 [.tmp 2] hT Tryz.func86 Tryz.ntmps86 fun B w0=>?_;repeat'(first|exact tT|refine WA tT tT ?_ ?_|(refine PE ?_;clear hK K)|refine WR fun K hK=>?_|refine PT ?_|refine WC (fun h=>?_) fun h=>?_|exact ff|fail)
 all_goals (first|contradiction|rfl|(simp[*,Aa,AZ,BH,bA];done))
theorem jM(t:Tk):Pure Tryz.prog 135 [.a (ET t)] (BL (t.kind==3)):=by
 refine PO 6 [.tmp 2] hT Tryz.func135 Tryz.ntmps135 fun B w0=>?_;repeat'(first|exact tT|refine WA tT tT ?_ ?_|(refine PE ?_;clear hK K)|refine WR fun K hK=>?_|refine PT ?_|refine WC (fun h=>?_) fun h=>?_|exact ff|fail)
 all_goals first|rfl|skip
theorem jN(t:Tk):Pure Tryz.prog 137 [.a (ET t)] (BL (t.kind==5)):=by
 refine PO 6 [.tmp 2] hT Tryz.func137 Tryz.ntmps137 fun B w0=>?_;repeat'(first|exact tT|refine WA tT tT ?_ ?_|(refine PE ?_;clear hK K)|refine WR fun K hK=>?_|refine PT ?_|refine WC (fun h=>?_) fun h=>?_|exact ff|fail)
 all_goals first|rfl|skip
theorem jO(t:Tk):Pure Tryz.prog 162 [.a (ET t)] (BL (t.kind==4)):=by
 refine PO 6 [.tmp 2] hT Tryz.func162 Tryz.ntmps162 fun B w0=>?_;repeat'(first|exact tT|refine WA tT tT ?_ ?_|(refine PE ?_;clear hK K)|refine WR fun K hK=>?_|refine PT ?_|refine WC (fun h=>?_) fun h=>?_|exact ff|fail)
 all_goals first|rfl|skip
theorem Fy(full:List Tk)(k:Nat)(en:Int)(t:Tk)(r:List Tk)(h:full.drop k=t::r)(BF:full.length≤2000)(f:Nat)(hf:Pure Tryz.prog f [.a (ET t)] (BL true)):BS Tryz.prog T 83 [.p 1000 0,.v (.func (.func f) #[] #[])] (CO full k en) (.a (ET t)) (CO full (k+1) en):=by
 obtain⟨hk,ht,_⟩:=AG h;have hp:=Cq full k en t r h;refine FO 24 [.cell 4 111] Tryz.func83 Tryz.ntmps83 fun B w0 Y R Am Az hY AQ AW Aj hR=>?_;have AB:=NA AW AQ 4 5
 refine AI ⟨[(4,.p 4 0)],(4,.box 111 (.AF (ET t)))::(CO full (k+1) en++Y)⟩ ER ?_;repeat'(first|exact tT|refine WA hf AB ?_ ?_|refine EA hp AB ?_|(refine HE ?_;clear hK K)|refine WR fun K hK=>?_|refine HT ?_|refine WC (fun h=>?_) fun h=>?_|exact ff|fail)
 all_goals first|omega|exact G.Al (AA Ai) Au
theorem jP(full:List Tk)(k:Nat)(en:Int)(t:Tk)(r:List Tk)(h:full.drop k=t::r)(BF:full.length≤2000):BS Tryz.prog T 83 [.p 1000 0,.f (.func 114) [.p 1002 0]] (CO full k en++ [(1002,.box 9 (.AF [An t.text]))]) (.a (ET t)) (CO full (k+1) en++ [(1002,.box 9 (.AF [An t.text]))]):=by
 obtain⟨hk,ht,_⟩:=AG h;have hp:=Cq full k en t r h;have hx:=Yl t t.text;rw[Zde rfl]at hx;refine FO 24 [.cell 4 111] Tryz.func83 Tryz.ntmps83 fun B w0 Y R Am Az hY AQ AW Aj hR=>?_;have AB:=NA AW AQ 4 5
 repeat'(first|exact tT|refine WA tT AB ?_ ?_|refine EA hp AB ?_|refine EA hx AB ?_|(refine HE ?_;clear hK K)|refine WR fun K hK=>?_|refine HT ?_|refine WC (fun h=>?_) fun h=>?_|exact ff|fail)
 all_goals first|(exact⟨Aj,hR _ IB⟩)|omega
theorem Ax(full:List Tk)(k:Nat)(en:Int)(t:Tk)(r:List Tk)(h:full.drop k=t::r)(BF:full.length≤2000)(s:ByteArray)(hs:t.text=s):BS Tryz.prog T 85 [.p 1000 0,An s] (CO full k en) (.a (ET t)) (CO full (k+1) en):=by
 subst hs;have ht:=jP full k en t r h BF;refine FO 8 [.cell 4 111] Tryz.func85 Tryz.ntmps85 fun B w0 Y R Am Az hY AQ AW Aj hR=>?_;have AB:=NA AW AQ 3 4
 refine Yk 1002 ⟨[(4,.p 4 0)],(4,.box 111 (.AF (ET t)))::(CO full (k+1) en++Y)⟩ NI NI ER fun w1 FM qI AC6=>?_;have Am:=qI Am;repeat'(first|exact tT|refine WA tT AB ?_ ?_|(refine HE ?_;clear hK K)|refine WR fun K hK=>?_|refine HT ?_|refine WC (fun h=>?_) fun h=>?_|exact ff|fail)
 refine Eg _ (fun a w h=>h.rn 3 1002 NI NI FM) ?_;have pG:Gd 3 1002 Y=Y:=hY.rn Zd;push_cast[IL,Gd,pG]
 repeat'(first|exact tT|refine WA tT AB ?_ ?_|refine EA ht AB ?_|(refine HE ?_;clear hK K)|refine WR fun K hK=>?_|refine HT ?_|refine WC (fun h=>?_) fun h=>?_|exact ff|fail)
 all_goals first|omega|exact⟨rfl,G.Al (AA Ai) Au⟩|exact G.Al (AA Ai) Au
end Go.Proofs.YthemnhjojaehhaaGreatDoor
namespace Go.Tp
open Go.Lib
theorem S9(c:UInt8): ∀(l:List UInt8),c∈l→ ∃i:Nat,index l [c]=i∧l.take i++l.drop (i+1)=l.erase c
 | [],h=>by simp at h
 |b::r,h=>by
  by_cases hb:b=c
  ·subst hb;refine⟨0,?_,by simp⟩;rw[index_one];simp[indexByte]
  ·have hr:c∈r:=by
    rcases List.mem_cons.1 h with h|h
    ·exact absurd h.symm hb
    ·exact h
   obtain⟨i,h1,h2⟩:=S9 c r hr;refine⟨i+1,?_,?_⟩
   ·rw[index_one]at h1 ⊢;simp[indexByte,hb,h1]
   ·rw[List.take_succ_cons,List.drop_succ_cons,List.cons_append,h2,List.erase_cons_tail (by simpa using hb)]
theorem Rz(c:UInt8)(l:List UInt8):replace l [c] [] 1=l.erase c:=by
 unfold replace;rw[if_neg (by simp)];unfold replaceNum;have hc:=count_one c l;by_cases h:c∈l
 ·have h1:0<l.count c:=List.count_pos_iff.2 h;rw[if_neg Zo];obtain⟨i,h2,h3⟩:=S9 c l h;show replaceK [c] [] 1 l=_;rw[replaceK_hit _ _ 0 l i h2];simp[replaceK,←h3]
 ·have h1:l.count c=0:=List.count_eq_zero.2 h;rw[if_pos Zo,hc,h1];rw[List.erase_of_not_mem h];rfl
end Go.Tp
namespace Go.Proofs.YthemnhjojaehhaaGreatDoor
open Go.Ad Go.Proofs Go.Tp
attribute [local irreducible] A8 AK BY Go.Ad.Pure BS
theorem NV(n:Int):AR (AE n) .o:=fun _ _ _ _ u hu=>by rw[hu.Ao];exact .o _ rfl
theorem No{t:Tk}{n:Int}(h:Jv t=some n):t.kind=3∧t.text.size≤18∧Lib.atoi (bl t.text)=some n:=by
 unfold Jv at h;split at h
 ·rename_i hc;exact⟨hc.1,hc.2,h⟩
 ·cases h
theorem TA{least:Int}{t:Tk}{n:Int}(h:DU least t=some n):Jv t=some n∧least≤n∧n≤1000000:=by
 unfold DU at h;cases hn:Jv t with
 |none=>rw[hn]at h;cases h
 |some m=>
  rw[hn]at h;simp only at h;split at h
  ·rename_i hc;injection h with h;subst h;exact⟨rfl,hc⟩
  ·cases h
theorem Kc{t:Tk}{n:Int}(h:Fw t=some n):t.kind=4∧t.text.size≤18∧Lib.atoi ((bl t.text).erase 46)=some n:=by
 unfold Fw at h;split at h
 ·rename_i hc;exact⟨hc.1,hc.2,h⟩
 ·cases h
theorem Ym(full:List Tk)(k:Nat)(en:Int)(t:Tk)(r:List Tk)(n:Int)(h:full.drop k=t::r)(BF:full.length≤2000)(hn:Jv t=some n):BS Tryz.prog T 115 [.p 1000 0] (CO full k en) (.t [AE n,.o]) (CO full (k+1) en):=by
 obtain⟨h3,Bh,ha⟩:=No hn;have hf:=jM t;rw[h3]at hf;have N2:=Fy full k en t r h BF 135 hf;have N3:=aF t.text n Bh ha;refine FO 18 [.tmp 2,.tmp 3] Tryz.func115 Tryz.ntmps115 fun B w0 Y R Am Az hY AQ AW Aj hR=>?_;have AB:=FI AW AQ 4
 repeat'(first|exact tT|refine WA N3 AB ?_ ?_|refine EA N2 AB ?_|(refine HE ?_;clear hK K)|refine WR fun K hK=>?_|refine HT ?_|refine WC (fun h=>?_) fun h=>?_|exact ff|fail)
 all_goals first|(exact⟨Aj,hR _ IB⟩)|omega
theorem Dm(full:List Tk)(k:Nat)(en:Int)(t:Tk)(r:List Tk)(least n:Int)(h:full.drop k=t::r)(BF:full.length≤2000)(hn:DU least t=some n):BS Tryz.prog T 89 [.p 1000 0,AE least] (CO full k en) (.t [AE n,.o]) (CO full (k+1) en):=by
 obtain⟨h1,h2,h3⟩:=TA hn;have Ph:=Ym full k en t r n h BF h1;have c1:=DF (n<least);have c2:=DF ((1000000:Int)<n);refine FO 25 [.tmp 4,.tmp 5] Tryz.func89 Tryz.ntmps89 fun B w0 Y R Am Az hY AQ AW Aj hR=>?_;have AB:=AW
 repeat'(first|exact tT|refine WA tT (Y3 c1 c2 AB) ?_ ?_|refine EA Ph (Y3 c1 c2 AB) ?_|(refine HE ?_;clear hK K)|refine WR fun K hK=>?_|refine HT ?_|refine WC (fun h=>?_) fun h=>?_|exact ff|fail)
 all_goals first|(exact⟨Aj,hR _ IB⟩)|omega
theorem L1(full:List Tk)(k:Nat)(en:Int)(t:Tk)(r:List Tk)(n:Int)(h:full.drop k=t::r)(BF:full.length≤2000)(hn:DU 1 t=some n):BS Tryz.prog T 118 [.p 1000 0] (CO full k en) (.a (A1 (mkNum AZ n))) (CO full (k+1) en):=by
 have hr:=Dm full k en t r 1 n h BF hn;refine FO 13 [.cell 2 27] Tryz.func118 Tryz.ntmps118 fun B w0 Y R Am Az hY AQ AW Aj hR=>?_;have AB:=FI AW AQ 2
 refine AI ⟨[(2,.p 2 0)],(2,.box 27 (.AF (A1 (mkNum AZ n))))::(CO full (k+1) en++Y)⟩ ER ?_;repeat'(first|exact tT|refine WA tT AB ?_ ?_|refine EA hr AB ?_|(refine HE ?_;clear hK K)|refine WR fun K hK=>?_|refine HT ?_|refine WC (fun h=>?_) fun h=>?_|exact ff|fail)
 exact LV
theorem Wj(t:Tk)(n:Int)(Bh:t.text.size≤18)(hn:Lib.atoi ((bl t.text).erase 46)=some n):Pure Tryz.prog 163 [.a (ET t)] (AE n):=by
 have hr:=YZ t.text Zo;rw[Rz]at hr
 have N3:=aF ⟨((bl t.text).erase 46).toArray⟩ n (by
  show(((bl t.text).erase 46).toArray).size≤18;have:=List.length_erase_le (a:=46) (l:=bl t.text);have h2:(bl t.text).length=t.text.size:=rfl;simp only[List.size_toArray];omega) hn
 refine PO 13 [.tmp 2] hT Tryz.func163 Tryz.ntmps163 fun B w0=>?_;repeat'(first|exact tT|refine WA (Y2 hr N3) tT ?_ ?_|(refine PE ?_;clear hK K)|refine WR fun K hK=>?_|refine PT ?_|refine WC (fun h=>?_) fun h=>?_|exact ff|fail)
 all_goals first|rfl|omega
theorem jQ(t:Tk):Pure Tryz.prog 192 [.a (ET t)] (BL ((t.kind==4)||(t.kind==3))):=by
 cases h4:(t.kind==4)
 all_goals (
  refine PO 11 [.tmp 2] hT Tryz.func192 Tryz.ntmps192 fun B w0=>?_;repeat'(first|exact tT|refine WA tT h4 ?_ ?_|(refine PE ?_;clear hK K)|refine WR fun K hK=>?_|refine PT ?_|refine WC (fun h=>?_) fun h=>?_|exact ff|fail)
  all_goals first|rfl)
theorem Gk(full:List Tk)(k:Nat)(en:Int)(t:Tk)(r:List Tk)(n:Int)(h:full.drop k=t::r)(BF:full.length≤2000)(hn:Fw t=some n):BS Tryz.prog T 184 [.p 1000 0] (CO full k en) (.t [AE n,.o]) (CO full (k+1) en):=by
 obtain⟨h4,Bh,ha⟩:=Kc hn;have hf:=jQ t;rw[h4]at hf;have N2:=Fy full k en t r h BF 192 hf;have hc:=Wj t n Bh ha;have c3:(t.kind==3)=false:=by rw[h4];rfl
 refine FO 24 [.tmp 2,.tmp 3] Tryz.func184 Tryz.ntmps184 fun B w0 Y R Am Az hY AQ AW Aj hR=>?_;have AB:=FI AW AQ 4
 repeat'(first|exact tT|refine WA hc (Y2 c3 AB) ?_ ?_|refine EA N2 (Y2 c3 AB) ?_|(refine HE ?_;clear hK K)|refine WR fun K hK=>?_|refine HT ?_|refine WC (fun h=>?_) fun h=>?_|exact ff|fail)
 all_goals first|(exact⟨Aj,hR _ IB⟩)|omega
theorem dH(t:Tk)(h:t.text=Sw∨t.text=EI):Pure Tryz.prog 193 [.a (ET t)] (BL true):=by
 rcases h with h|h
 all_goals (
  refine PO 11 [.tmp 2] hT Tryz.func193 Tryz.ntmps193 fun B w0=>?_;repeat'(first|exact tT|refine WA tT h ?_ ?_|(refine PE ?_;clear hK K)|refine WR fun K hK=>?_|refine PT ?_|refine WC (fun h=>?_) fun h=>?_|exact ff|fail)
  all_goals first|rfl)
theorem PL(full:List Tk)(k:Nat)(en:Int)(t:Tk)(r:List Tk)(n:Int)(h:full.drop k=t::r)(BF:full.length≤2000)(hn:(t.text=Sw∧n=1)∨(t.text=EI∧n= -1)):BS Tryz.prog T 185 [.p 1000 0] (CO full k en) (AE n) (CO full (k+1) en):=by
 have hf:=dH t (by rcases hn with h|h;exact .inl h.1;exact .inr h.1);have N2:=Fy full k en t r h BF 193 hf;rcases hn with ⟨h1,rfl⟩|⟨h1,rfl⟩
 ·have c:decide (t.text=⟨#[45]⟩)=false:=by rw[h1];decide
  refine FO 9 [.tmp 2] Tryz.func185 Tryz.ntmps185 fun B w0 Y R Am Az hY AQ AW Aj hR=>?_;have AB:=FI AW AQ 3
  repeat'(first|exact tT|refine WA tT (Y2 c AB) ?_ ?_|refine EA N2 (Y2 c AB) ?_|(refine HE ?_;clear hK K)|refine WR fun K hK=>?_|refine HT ?_|refine WC (fun h=>?_) fun h=>?_|exact ff|fail)
  all_goals first|(exact⟨Aj,hR _ IB⟩)|omega
 ·have c:decide (t.text=⟨#[45]⟩)=true:=by rw[h1];decide
  refine FO 9 [.tmp 2] Tryz.func185 Tryz.ntmps185 fun B w0 Y R Am Az hY AQ AW Aj hR=>?_;have AB:=FI AW AQ 3
  repeat'(first|exact tT|refine WA tT (Y2 c AB) ?_ ?_|refine EA N2 (Y2 c AB) ?_|(refine HE ?_;clear hK K)|refine WR fun K hK=>?_|refine HT ?_|refine WC (fun h=>?_) fun h=>?_|exact ff|fail)
  all_goals first|(exact⟨Aj,hR _ IB⟩)|omega
end Go.Proofs.YthemnhjojaehhaaGreatDoor
namespace Go.Ad
open Go
structure Hd (p:Prop):Prop where
 h:p
theorem y4{C F m s c:Prop}(zc:C)(zf:F)(zm:m)(zs:s)(H:C→F→Hd m→Hd s→c:=by(intro zc zf zm zs;(first|refine sC hT fun K' AX=>?_|refine oC fun K' AX=>?_);push_cast[zf];(try simp (disch:=omega) only[wrap64,Int.toNat_natCast]);(first|refine pW zs.h ?_|refine pX zs.h ?_|refine mH zs.h ?_|refine mG zs.h ?_);(first|exact AX _ zm.h|((first|apply OY|(apply OZ;exact gd)|apply QL);(try intro hb);(first|exact zc|exact zc.1|exact zc.2|exact zc.2.1|exact zc.2.2|exact zc.2.2.1|exact zc.2.2.2|exact zc.2.2.2.1|exact zc.2.2.2.2|exact zc.2.2.2.2.1|exact zc.2.2.2.2.2|exact zc.2.2.2.2.2.1|exact zc.2.2.2.2.2.2|exact zc.2.2.2.2.2.2.1|exact zc.2.2.2.2.2.2.2|exact zc.2.2.2.2.2.2.2.1|exact zc.2.2.2.2.2.2.2.2);exact fC;exact AX _ zm.h)|exact⟨.v (.int .i64 0),AX _ zm.h⟩))):c:=H zc zf ⟨zm⟩ ⟨zs⟩
theorem Wk{F m c:Prop}(zf:F)(zm:m)(H:F→Hd m→c:=by(intro zf zm;refine Nn hT rfl rfl (by simp only[As,Nat.reduceLT]) rfl rfl rfl rfl rfl trivial rfl trivial rfl Zo ?_;simp only[St.put,Int.toNat_natCast,zf];exact zm.h)):c:=H zf ⟨zm⟩
end Go.Ad
namespace Go.Ad
section
variable{P:Program}{T:BT}(hT:T.ok P){n B:Nat}{w0:AT}{l:List Oper}{ms:List Nat}(hD:Xz l ms)
include hD
include hT in
end
theorem TB{P:Program}{T:BT}(hT:T.ok P){n B:Nat}{w0:AT}{Q:Exit→St→Prop}{st:St}{id:Nat}{l0:List Oper}{o1:Oper}{l:List Oper}(hl:l=l0++ [o1])(Xq:(List.range l0.length).all (fun i=>((Region.before l.toArray).toList.getD l0.length 0).testBit i)=true)(hm:P.follows .mixedOrders=true)(hD:Ii l (Region.before l.toArray).toList=true)
  (h:A8 P T n l.toArray (fun s=>SO P n B w0 l.toArray o1 (fun st'=>Q .normal st') s) l0 st):BY P n B w0 (.region id l.toArray true) Q st:=by
 intro a w hG;have ZS:=N9 hD;obtain⟨σ,s0,sN,sS0⟩:=Py l0 st h;have hlen:l.length=l0.length+1:=by rw[hl];simp
 have sS: ∀i o,i<l0.length→l[i]? =some o→BR P T n l.toArray o (fun s=>s=σ (i+1)) (σ i):=fun i o hi ho=>sS0 i o (by rw[hl,List.getElem?_append_left hi]at ho;exact ho);have ue:l[l0.length]? =some o1:=by rw[hl];simp
 have F2: ∃val:Nat→AV,∀i o,i<l0.length→l[i]? =some o→BB o.op=true→σ (i+1)=(σ i).put o.dst (val i)∧ ∀st':St,st'.heap=(σ i).heap→(∀t∈o.looksAt l.toArray,lk st'.env t=lk (σ i).env t)→BR P T n l.toArray o (fun s=>s=st'.put o.dst (val i)) st':=by
  have hex: ∀i,∃v,∀o,i<l0.length→l[i]? =some o→BB o.op=true→σ (i+1)=(σ i).put o.dst v∧ ∀st':St,st'.heap=(σ i).heap→(∀t∈o.looksAt l.toArray,lk st'.env t=lk (σ i).env t)→BR P T n l.toArray o (fun s=>s=st'.put o.dst v) st':=by
   intro i;cases ho:l[i]? with
   |none=>exact⟨.top,fun o _ h=>by cases h⟩
   |some o=>
    by_cases hq:BB o.op=true∧i<l0.length
    ·have hi:i<l0.length:=hq.2;obtain⟨r,h1,h2⟩:=JW hq.1 (sS i o hi ho);exact⟨r,fun o' _ h' _=>by injection h' with h';subst h';exact⟨h1.symm,h2⟩⟩
    ·exact⟨.top,fun o' yU h' M8=>by injection h' with h';subst h';exact absurd ⟨M8,yU⟩ hq⟩
  exact⟨fun i=>Classical.choose (hex i),fun i o hi ho hq=>Classical.choose_spec (hex i) o hi ho hq⟩
 obtain⟨val,hv⟩:=F2;refine wpIn_region_any hm ?_
 have Cj:G n B w0 st a {w with drawn:=w.drawn+1}:=by
  obtain⟨ρ,I,hg⟩:=hG;exact⟨ρ,I,hg.quiet ⟨⟨rfl,rfl,rfl,Nat.le_refl _,fun _ _=>rfl⟩,fun _ h=>h,fun _ h h'=>absurd h h',hg.hw.lt⟩⟩
 have GP: ∀i,(Array.replicate l.toArray.size false).getD i false=false:=fun i=>by
  by_cases hi:i<l.length<;>simp[Zag,hi]
 refine Zp hT ZS l0.length ⟨Zo,Zo⟩ σ val sS hv (.inr ⟨hlen,o1,ue,fun i hi=>List.all_eq_true.1 Xq i (by simpa using hi),YA sN fun s hs a w hg=>⟨s,hs,hg⟩⟩) _ _ a _ (by simp) (fun j o _ hL=>by rw[GP]at hL;cases hL) ?_ ⟨0,Nat.zero_le _,GP _,(fun i hi=>by omega),(fun i _ hL=>by rw[GP]at hL;cases hL),?_⟩
 ·have:=List.countP_le_length (p:=fun i=> !(Array.replicate l.toArray.size false).getD i false) (l:=List.range l.length);simpa using this
 ·refine Cj.congr (fun s=>?_) (by rw[s0]);have e:=Dx (E:=(σ 0).env) (l:=l) (val:=val) (L:=fun i=>(Array.replicate l.toArray.size false).getD i false) (k:=0) 0 (fun i _=>GP i) (l.length - 0) (Nat.zero_le _);show lk (BV _ _ _ _ _ _) s=_;rw[e];show lk (σ 0).env s=_;rw[s0]
section
variable{P:Program}{T:BT}(hT:T.ok P){n B:Nat}{w0:AT}{Q:Exit→St→Prop}{st:St}{id:Nat}{l:List Oper}{y:Code}
include hT
theorem x9(hm:P.follows .mixedOrders=true)(o1:Oper)(hl:l=l.dropLast++ [o1])(Xq:(List.range l.dropLast.length).all (fun i=>((Region.before l.toArray).toList.getD l.dropLast.length 0).testBit i)=true)(h: ∀K:St→Prop,(∀s,BY P n B w0 y Q s→K s)→A8 P T n l.toArray (fun s=>AK P n B w0 l.toArray K [o1] s) l.dropLast st)(hD:Ii l (Region.before l.toArray).toList=true):BY P n B w0 (.seq (.region id l.toArray true) y) Q st:=
 CR (TB hT hl Xq hm hD (h _ fun _ h=>h))
theorem yA(hm:P.follows .mixedOrders=true)(o1:Oper)(hl:l=l.dropLast++ [o1])(Xq:(List.range l.dropLast.length).all (fun i=>((Region.before l.toArray).toList.getD l.dropLast.length 0).testBit i)=true)(h: ∀K:St→Prop,(∀s,Q .normal s→K s)→A8 P T n l.toArray (fun s=>AK P n B w0 l.toArray K [o1] s) l.dropLast st)(hD:Ii l (Region.before l.toArray).toList=true):BY P n B w0 (.region id l.toArray true) Q st:=
 TB hT hl Xq hm hD (h _ fun _ h=>h)
end
end Go.Ad
namespace Go.Proofs.YthemnhjojaehhaaGreatDoor
open Go.Ad Go.Proofs Go.Tp
attribute [local irreducible] A8 AK BY Go.Ad.Pure BS
theorem K4(m:Nat)(h:m<13):0≤Dw.getD m 0∧Dw.getD m 0≤365:=by
 have: ∀m,m<13→0≤Dw.getD m 0∧Dw.getD m 0≤365:=Zd
 exact this m h
theorem po(d:Int)(h:0≤d∧d≤36524):Pure Tryz.prog 76 [AE d] (BL true):=by
 have q1:decide (0≤d)=true:=Zde h.1;have q2:decide (d≤36524)=true:=Zde h.2;refine PO 9 [.tmp 2] hT Tryz.func76 Tryz.ntmps76 fun B w0=>?_;repeat'(first|exact tT|refine WA tT (Y2 q1 q2) ?_ ?_|(refine PE ?_;clear hK K)|refine WN fun K hK=>?_|refine WD fun K hK=>?_|refine WR fun K hK=>?_|refine PT ?_|refine WC (fun h=>?_) fun h=>?_|exact ff|fail)
 all_goals rfl
theorem jR(n:Int)(h0:0≤n)(h1:n≤99):Pure Tryz.prog 78 [AE n] (An ⟨(Rr n).toArray⟩):=by
 have hi:=D6 n h0 Zo;have Gu:=Bn (k:=20) (n:=n.toNat) Zo Zo;unfold Rr;generalize CL n.toNat=t at*;by_cases h:n<10
 ·have q:decide (n<10)=true:=Zde h;rw[if_pos h];refine PO 10 [.tmp 2] hT Tryz.func78 Tryz.ntmps78 fun B w0=>?_;repeat' (first|((first|refine sC hT fun K' AX=>?_|refine oC fun K' AX=>?_);push_cast[q,GW,DS,List.length_append,List.length_cons,List.length_nil,List.cons_append,List.nil_append];(try simp (disch:=omega) only[wrap64,Int.toNat_natCast]);(repeat refine AS ?_ ?_);(first|refine AX _ ?_|((first|apply OY|(apply OZ;exact gd)|apply QL);(try intro hb);(first|exact hi);exact fC;refine AX _ ?_)|refine⟨.v (.int .i64 0),AX _ ?_⟩);clear AX K')|(refine sK hT ?_;simp only[St.put])|((first|refine A9 (hK _ ?_)|refine Bk (hK _ ?_));clear hK K;push_cast)|((first|apply Bs|apply B5|apply CG|apply Cl);push_cast)|refine CH fun K hK=>?_|refine Fm fun K hK=>?_|refine x9 hT hm _ rfl ZD (fun K hK=>?_) ZD|refine yA hT hm _ rfl ZD (fun K hK=>?_) ZD|(refine Bk ?_;show AK _ _ _ _ _ _ _ _)|refine dQ hT hm fun K hK=>?_|refine dL hT hm fun K hK=>?_|apply Bq|apply Br|apply CR|(refine B6 _ rfl (fun h=>?_) (fun h=>?_)<;>simp only[VC,reduceCtorEq]at h))
  all_goals try exact ff
  all_goals first|omega|rfl
 ·have q:decide (n<10)=false:=Zdf h;rw[if_neg h];refine PO 10 [.tmp 2] hT Tryz.func78 Tryz.ntmps78 fun B w0=>?_;repeat'(first|exact tT|refine WA hi q ?_ ?_|(refine PE ?_;clear hK K)|refine WN fun K hK=>?_|refine WD fun K hK=>?_|refine WR fun K hK=>?_|refine PT ?_|refine WC (fun h=>?_) fun h=>?_|exact ff|fail)
  all_goals rfl
theorem aX(y:Int)(m:Nat)(hmx:m<12)(hy:0≤y∧y≤100000):Pure Tryz.prog 105 [AE y,AE (m:Int)] (AE (IC y m)):=by
 have b1:=K4 m Zo;have b2:=K4 (m+1) Zo;have em:((m:Int)+1).toNat=m+1:=Zo
 have hl:IC y m=Dw.getD (m+1) 0 - Dw.getD m 0+(if m=1∧y%4=0 then 1 else 0):=rfl;have ey:y.tmod 4=y%4:=Int.tmod_eq_emod_of_nonneg hy.1;rw[hl];by_cases h1:m=1
 ·have q1:((m:Int)==1)=true:=by rw[h1];rfl
  by_cases h2:y%4=0
  ·have q2:(y.tmod 4==0)=true:=by rw[ey,h2];rfl
   rw[if_pos ⟨h1,h2⟩];refine PO 24 [.tmp 4] hT Tryz.func105 Tryz.ntmps105 fun B w0=>?_;repeat'(first|exact tT|refine WA tT (Y3 q1 q2 em) ?_ ?_|(refine PE ?_;clear hK K)|refine WN fun K hK=>?_|refine WD fun K hK=>?_|refine WR fun K hK=>?_|refine PT ?_|refine WC (fun h=>?_) fun h=>?_|exact ff|fail)
   all_goals first|trivial|exact⟨trivial,Zo,Zo⟩|(show _<13;omega)
  ·have q2:(y.tmod 4==0)=false:=by rw[ey];exact beq_eq_false_iff_ne.2 h2
   rw[if_neg (fun h=>h2 h.2),Int.add_zero];refine PO 24 [.tmp 4] hT Tryz.func105 Tryz.ntmps105 fun B w0=>?_;repeat'(first|exact tT|refine WA tT (Y3 q1 q2 em) ?_ ?_|(refine PE ?_;clear hK K)|refine WN fun K hK=>?_|refine WD fun K hK=>?_|refine WR fun K hK=>?_|refine PT ?_|refine WC (fun h=>?_) fun h=>?_|exact ff|fail)
   all_goals first|trivial|exact⟨trivial,Zo,Zo⟩|(show _<13;omega)
 ·have q1:((m:Int)==1)=false:=beq_eq_false_iff_ne.2 Zo;rw[if_neg (fun h=>h1 h.1),Int.add_zero];refine PO 24 [.tmp 4] hT Tryz.func105 Tryz.ntmps105 fun B w0=>?_;repeat'(first|exact tT|refine WA tT (Y2 q1 em) ?_ ?_|(refine PE ?_;clear hK K)|refine WN fun K hK=>?_|refine WD fun K hK=>?_|refine WR fun K hK=>?_|refine PT ?_|refine WC (fun h=>?_) fun h=>?_|exact ff|fail)
  all_goals first|trivial|exact⟨trivial,Zo,Zo⟩|(show _<13;omega)
theorem TC{y0:Int}{f k:Nat}{r:Int}(h:(Cn y0 f k r).1≤y0+3)(hk:f+k=48)(EF:k≤48):0<f:=by
 rcases Nat.eq_zero_or_pos f with h0|h0
 ·subst h0;have:k=48:=Zo
  subst this;simp only[Cn]at h;omega
 ·exact h0
theorem dI(d:Int)(h:0≤d∧d≤36524):(Cn (2000+d / 1461*4) 48 0 (d%1461)).1≤2000+d / 1461*4+3:=by
 obtain⟨q,hq⟩: ∃q,q=d / 1461:=⟨_,rfl⟩;obtain⟨r,hr⟩: ∃r:Nat,r=(d%1461).toNat:=⟨_,rfl⟩;have hc:=aJ;rw[List.all_eq_true]at hc;have hc:=hc r (List.mem_range.2 Zo);unfold rj at hc;simp only[Zba,Zdt]at hc;rw[show 2000+d / 1461*4=2000+4*q by omega,show d%1461=(r:Int) by omega,Jh q 48 0 2000 r];have:=hc.1.1.1.2;show(Cn 2000 48 0 (r:Int)).1+4*q≤_;omega
set_option maxHeartbeats 4000000 in
theorem nS(d:Int)(h:0≤d∧d≤36524):Pure Tryz.prog 77 [AE d] (.t [AE (B9 d).1,AE (B9 d).2.1,AE (B9 d).2.2]):=by
 have hv:=po d h;have e1:d.tdiv 1461=d / 1461:=Int.tdiv_eq_ediv_of_nonneg h.1;have e2:d.tmod 1461=d%1461:=Int.tmod_eq_emod_of_nonneg h.1;have hyr:=dI d h;have hd:B9 d=((Cn (2000+d / 1461*4) 48 0 (d%1461)).1,((Cn (2000+d / 1461*4) 48 0 (d%1461)).2.1:Int)+1,(Cn (2000+d / 1461*4) 48 0 (d%1461)).2.2+1):=rfl;have hy0:2000≤2000+d / 1461*4∧2000+d / 1461*4≤2100:=Zo
 have lZ:0≤d%1461∧d%1461≤1461:=Zo
 rw[hd];clear hd;generalize hX:Cn (2000+d / 1461*4) 48 0 (d%1461)=X at*;generalize d / 1461=Q at*;generalize hr:d%1461=r0 at*;refine PO 40 [.tmp 2,.tmp 3,.tmp 4] hT Tryz.func77 Tryz.ntmps77 fun B w0=>?_;repeat'(first|exact tT|refine WA hv (Y2 e1 e2) ?_ ?_|(refine PE ?_;clear hK K)|refine WN fun K hK=>?_|refine WD fun K hK=>?_|refine WR fun K hK=>?_|refine PT ?_|refine WC (fun h=>?_) fun h=>?_|exact ff|fail)
 refine AM (α:=Nat×Int) (fun s=>⟨[(7,AE 0),(6,AE s.2),(5,AE (2000+Q*4+(s.1:Int))),(0,AE d)],[]⟩) (fun s=>s.1≤4∧Cn (2000+Q*4) (48 - 12*s.1) (12*s.1) s.2=X∧0≤s.2∧s.2≤1461) (fun s=>5 - s.1) (0,r0) ⟨Zo,hX,lZ⟩ (by
  rw[show(2000+Q*4+(((0,r0):Nat×Int).1:Int))=2000+Q*4 by simp];exact G.Al (AA Ai) Au) fun s hs=>?_
 obtain⟨i,r⟩:=s;obtain⟨fY,uf,VL,hrb⟩:=hs;simp only at fY uf VL hrb
 have Pe:i<4:=by
  have:=TC (y0:=2000+Q*4) (f:=48 - 12*i) (k:=12*i) (r:=r) (by rw[uf];exact hyr) Zo Zo;omega
 repeat'(first|exact tT|refine WA hv (Y2 e1 e2) ?_ ?_|(refine PE ?_;clear hK K)|refine WN fun K hK=>?_|refine WD fun K hK=>?_|refine WR fun K hK=>?_|refine PT ?_|refine WC (fun h=>?_) fun h=>?_|exact ff|fail)
 refine AM (α:=Nat×Int) (fun s=>⟨[(19,AE s.1),(7,AE 0),(6,AE s.2),(5,AE (2000+Q*4+(i:Int))),(0,AE d)],[]⟩) (fun s=>s.1≤12∧Cn (2000+Q*4) (48 - (12*i+s.1)) (12*i+s.1) s.2=X∧0≤s.2∧s.2≤1461) (fun s=>13 - s.1) (0,r) ⟨Zo,uf,VL,hrb⟩ (by exact G.Al (AA Ai) Au) fun s hs=>?_;obtain⟨m,r1⟩:=s;obtain⟨w4,Xa,w5,w6⟩:=hs;simp only at w4 Xa w5 w6;by_cases Ak:m<12
 ·have c1:=DT ((m:Int)<12);have hf:=TC (y0:=2000+Q*4) (f:=48 - (12*i+m)) (k:=12*i+m) (r:=r1) (by rw[Xa];exact hyr) Zo Zo;have RY:=aX (2000+Q*4+(i:Int)) m Ak Zo;have SE:=IX (2000+Q*4+(i:Int)) m Ak;have ey:2000+Q*4+(((12*i+m) / 12:Nat):Int)=2000+Q*4+(i:Int):=Zo
  have em:(12*i+m)%12=m:=Zo
  rw[show 48 - (12*i+m)=(48 - (12*i+(m+1)))+1 by omega,Cn,ey,em]at Xa;by_cases hl:r1<IC (2000+Q*4+(i:Int)) m
  ·have c2:decide (r1<IC (2000+Q*4+(i:Int)) m)=true:=Zde hl;rw[if_pos hl]at Xa;rw[←Xa];generalize IC (2000+Q*4+(i:Int)) m=L at*;repeat'(first|exact tT|refine WA RY (Y2 c1 c2) ?_ ?_|(refine PE ?_;clear hK K)|refine WN fun K hK=>?_|refine WD fun K hK=>?_|refine WR fun K hK=>?_|refine PT ?_|refine WC (fun h=>?_) fun h=>?_|exact ff|fail)
   all_goals first|omega|skip
  ·have c2:decide (r1<IC (2000+Q*4+(i:Int)) m)=false:=Zdf hl;rw[if_neg hl]at Xa;generalize IC (2000+Q*4+(i:Int)) m=L at*;repeat'(first|exact tT|refine WA RY (Y2 c1 c2) ?_ ?_|(refine PE ?_;clear hK K)|refine WN fun K hK=>?_|refine WD fun K hK=>?_|refine WR fun K hK=>?_|refine PT ?_|refine WC (fun h=>?_) fun h=>?_|exact ff|fail)
   all_goals first|omega|skip
   all_goals (refine⟨(m+1,r1 - L),⟨⟨Zo,Xa,by simp only;omega,by simp only;omega⟩,by simp only;omega⟩,?_⟩;exact G.Al (AA Ai) Au)
 ·obtain rfl:m=12:=Zo
  have c1:decide (((12:Nat):Int)<12)=false:=Zd
  repeat'(first|exact tT|refine WA tT c1 ?_ ?_|(refine PE ?_;clear hK K)|refine WN fun K hK=>?_|refine WD fun K hK=>?_|refine WR fun K hK=>?_|refine PT ?_|refine WC (fun h=>?_) fun h=>?_|exact ff|fail)
  all_goals first|omega|skip
  refine⟨(i+1,r1),⟨⟨by simp only;omega,?_,w5,w6⟩,by simp only;omega⟩,?_⟩
  ·show Cn _ (48 - 12*(i+1)) (12*(i+1)) r1=X;rw[show 12*(i+1)=12*i+12 by omega];exact Xa
  ·rw[show(2000+Q*4+(((i+1,r1):Nat×Int).1:Int))=2000+Q*4+i+1 by simp only;omega];exact G.Al (AA Ai) Au
end Go.Proofs.YthemnhjojaehhaaGreatDoor
