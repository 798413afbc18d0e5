/- Part of a proof. -/
import Derived.Test.YthemnhjojaehhaaGreatDoorA30
set_option linter.all false
namespace Go.Proofs.YthemnhjojaehhaaGreatDoor
open Go.Ad Go.Proofs Go.Tp
attribute [local irreducible] A8 AK BY Go.Ad.Pure BS
def F6(f:Nat)(full:List Tk)(en:Int)(args:List AV)(ts:List Tk)(e:Nd)(r:List Tk):Prop:=
 ∀k,k≤full.length→full.drop k=ts→full.drop (full.length - r.length)=r∧r.length<ts.length∧BS Tryz.prog T f (.p 1000 0::args) (CO full k en) (.a (A1 e)) (CO full (full.length - r.length) en)
theorem IZ{full:List Tk}{k:Nat}{r:List Tk}(hd:full.drop k=r)(hl:k≤full.length):full.length - r.length=k:=by
 rw[←hd,List.length_drop];omega
theorem E2{f:Nat}{full:List Tk}{en:Int}{args:List AV}{e:Nd}{ts r:List Tk}{k k':Nat}(hk:full.drop k=ts)(hd:full.drop k'=r)(hl:k<k'∧k'≤full.length)(h:BS Tryz.prog T f (.p 1000 0::args) (CO full k en) (.a (A1 e)) (CO full k' en)):
  full.drop (full.length - r.length)=r∧r.length<ts.length∧BS Tryz.prog T f (.p 1000 0::args) (CO full k en) (.a (A1 e)) (CO full (full.length - r.length) en):=by
 rw[IZ hd hl.2];refine⟨hd,?_,h⟩;rw[←hk,←hd,List.length_drop,List.length_drop];omega
theorem Qu{least:Int}{t:Tk}{d:Int}(h:Hs least t=some d):t.kind=5∧KZ (bl t.text)=some d∧least≤d:=by
 unfold Hs at h;split at h
 ·rename_i h5;cases hp:KZ (bl t.text)with
  |none=>rw[hp]at h;cases h
  |some m=>
   rw[hp]at h;simp only at h;split at h
   ·rename_i hc;injection h with h;subst h;exact⟨h5,rfl,hc⟩
   ·cases h
 ·cases h
theorem TF{least:Int}{t:Tk}{d:Int}(h:Hs least t=some d):0≤d∧d≤200000:=by
 obtain⟨_,hp,_⟩:=Qu h;unfold KZ at hp;split at hp
 ·rename_i hc;injection hp with hp;obtain⟨_,hy,hm,LL,VG⟩:=hc;have hlm:=IX (ON (bl t.text)) (Wh (bl t.text) - 1).toNat Zo;have hfb:=TD ((ON (bl t.text) - 2000)*12+Wh (bl t.text) - 1) Zo;rw[←hp];unfold cr;omega
 ·cases hp
theorem Hu(full:List Tk)(k:Nat)(en:Int)(t:Tk)(r:List Tk)(least d:Int)(h:full.drop k=t::r)(BF:full.length≤2000)(hd:Hs least t=some d):BS Tryz.prog T 116 [.p 1000 0,AE least] (CO full k en) (AE d) (CO full (k+1) en):=by
 obtain⟨h5,hp,hle⟩:=Qu hd;have hf:=jN t;rw[h5]at hf;have N2:=Fy full k en t r h BF 137 hf;have bU:=jV t.text d hp;have c21:=DF (d<least);refine FO 28 [.tmp 4] Tryz.func116 Tryz.ntmps116 fun B w0 Y R Am Az hY AQ AW Aj hR=>?_;have AB:=FI AW AQ 5
 repeat'(first|exact tT|refine WA bU (Y2 c21 AB) ?_ ?_|refine Wk (Y2 c21 AB) ?_|refine EA N2 (Y2 c21 AB) ?_|(refine HE ?_;clear hK K)|refine WR fun K hK=>?_|refine HT ?_|refine WC (fun h=>?_) fun h=>?_|exact ff|fail)
 all_goals first|(exact⟨Aj,hR _ IB⟩)|omega
abbrev vf:List AV:= [.v ((GC.strs 5 Dd).at 0),.v ((GC.strs 5 Dd).at 1),.v ((GC.strs 5 Dd).at 2),.v ((GC.strs 5 Dd).at 3),.v ((GC.strs 5 Dd).at 4)]
theorem nV(j:Nat)(h:j<5):vf.getD j .top=An (Dd.getD j default):=by
 match j,h with
 |0,_=>rfl
 |1,_=>rfl
 |2,_=>rfl
 |3,_=>rfl
 |4,_=>rfl
 |n+5,h=>omega
theorem jW{s:ByteArray}(h:0<D4 s): ∃j0:Nat,(1≤j0∧j0≤4)∧s=Dd.getD j0 default∧D4 s=j0:=by
 unfold D4 at h ⊢;split at h
 ·rename_i e;subst e;exact⟨1,Zd,rfl,rfl⟩
 split at h
 ·rename_i e;subst e;exact⟨2,Zd,rfl,rfl⟩
 split at h
 ·rename_i e;subst e;exact⟨3,Zd,rfl,rfl⟩
 split at h
 ·rename_i e;subst e;exact⟨4,Zd,rfl,rfl⟩
 ·omega
theorem TG(s:ByteArray)(hv:0<D4 s):Pure Tryz.prog 87 [An s] (AE (D4 s)):=by
 obtain⟨j0,⟨h1,h4⟩,hs,hr⟩:=jW hv;rw[hr]
 have CD: ∀j,j<j0→decide (Dd.getD j default=s)=false:=fun j hj=>by
  have: ∀b,b<5→ ∀a,a<b→decide (Dd.getD a default=Dd.getD b default)=false:=Zd
  rw[hs];exact this j0 Zo j hj
 have heq:decide (Dd.getD j0 default=s)=true:=Zde hs.symm;refine PO 19 [.tmp 2] hT Tryz.func87 Tryz.ntmps87 fun B w0=>?_;repeat'(first|exact tT|refine WA tT tT ?_ ?_|refine Wk tT ?_|(refine PE ?_;clear hK K)|refine WR fun K hK=>?_|refine PT ?_|refine WC (fun h=>?_) fun h=>?_|exact ff|fail)
 all_goals first|exact⟨trivial,Zd⟩|skip
 refine AM (α:=Nat) (fun j=>⟨[(6,AE (j:Int)),(5,.a vf),(0,An s)],[]⟩) (fun j=>j≤j0) (fun j=>6 - j) 0 Zo (by exact G.Al (AA Ai) Au) fun j hj=>?_;have c1:=DT ((j:Int)<5);have VL:=nV j Zo;by_cases Ak:j<j0
 ·have hn:=CD j Ak;by_cases h0:j=0
  ·have c11:=DF ((0:Int)<(j:Int));generalize Dd.getD j default=sy at*;repeat'(first|exact tT|refine WA tT (Y3 c1 VL c11) ?_ ?_|refine Wk (Y3 c1 VL c11) ?_|(refine PE ?_;clear hK K)|refine WR fun K hK=>?_|refine PT ?_|refine WC (fun h=>?_) fun h=>?_|exact ff|fail)
   all_goals first|omega|(refine⟨j+1,⟨Zo,Zo⟩,?_⟩;exact G.Al (AA Ai) Au)
  ·have c11:=DT ((0:Int)<(j:Int));generalize Dd.getD j default=sy at*;repeat'(first|exact tT|refine WA tT (Y4 c1 VL c11 hn) ?_ ?_|refine Wk (Y4 c1 VL c11 hn) ?_|(refine PE ?_;clear hK K)|refine WR fun K hK=>?_|refine PT ?_|refine WC (fun h=>?_) fun h=>?_|exact ff|fail)
   all_goals first|omega|(refine⟨j+1,⟨Zo,Zo⟩,?_⟩;exact G.Al (AA Ai) Au)
 ·obtain rfl:j=j0:=Zo
  have c11:=DT ((0:Int)<(j:Int));generalize Dd.getD j default=sy at*;repeat'(first|exact tT|refine WA tT (Y4 c1 VL c11 heq) ?_ ?_|refine Wk (Y4 c1 VL c11 heq) ?_|(refine PE ?_;clear hK K)|refine WR fun K hK=>?_|refine PT ?_|refine WC (fun h=>?_) fun h=>?_|exact ff|fail)
  all_goals first|omega|rfl
theorem dK(t:Tk)(hv:0<D4 t.text):Pure Tryz.prog 88 [.a (ET t)] (BL true):=by
 have hr:=TG t.text hv;have c:decide (0<D4 t.text)=true:=Zde hv;generalize D4 t.text=x at*;refine PO 7 [.tmp 2] hT Tryz.func88 Tryz.ntmps88 fun B w0=>?_;repeat'(first|exact tT|refine WA hr c ?_ ?_|refine Wk c ?_|(refine PE ?_;clear hK K)|refine WR fun K hK=>?_|refine PT ?_|refine WC (fun h=>?_) fun h=>?_|exact ff|fail)
 all_goals first|omega|rfl
set_option maxHeartbeats 8000000 in
theorem jX(full:List Tk)(en:Int)(BF:full.length≤2000){ts r:List Tk}{h:Nd}(hh:OO ts h r):F6 90 full en [] ts h r:=by
 intro k E5 hk;cases hh with
 | @to k1 k2 k3 k4 a b c d n fr to kn r ha hb hc hd=>
  obtain⟨_,_,d1⟩:=AG hk;obtain⟨_,_,d2⟩:=AG d1;obtain⟨_,_,d3⟩:=AG d2;obtain⟨_,_,d4⟩:=AG d3;obtain⟨_,_,d5⟩:=AG d4;obtain⟨_,_,d6⟩:=AG d5;obtain⟨_,_,d7⟩:=AG d6;obtain⟨_,_,d8⟩:=AG d7;refine E2 hk d8 (by have:=(AG d7).1;omega) ?_;have e1:=Ax full k en _ _ hk BF _ rfl;have e2:=Dm full _ en _ _ 0 n d1 BF ha;have e3:=Ax full _ en _ _ d2 BF _ rfl;have e4:=Hu full _ en _ _ 0 fr d3 BF hb;have e5:=EM full _ en r7 _ d4;have e6:=Hu full _ en _ _ (fr+1) to d5 BF hc;have e7:=Ax full _ en _ _ d6 BF _ rfl;have e8:=Hu full _ en _ _ 0 kn d7 BF hd;rw[show A4 r7 (⟨k3,r7⟩::c::⟨k4,Qs⟩::d::r)=true from by unfold A4;exact Zde rfl]at e5;have RW:=TF hb;refine FO 40 [.cell 2 27] Tryz.func90 Tryz.ntmps90 fun B w0 Y R Am Az hY AQ AW Aj hR=>?_;have AB:=NA AW AQ 2 3
  refine AI ⟨[(2,.p 2 0)],(2,.box 27 (.AF (A1 (Lw n fr to kn))))::(CO full (k+1+1+1+1+1+1+1+1) en++Y)⟩ ER ?_;repeat'(first|exact tT|refine WA tT AB ?_ ?_|refine Wk AB ?_|(refine EA e1 AB ?_;clear e1)|(refine EA e2 AB ?_;clear e2)|(refine EA e3 AB ?_;clear e3)|(refine EA e4 AB ?_;clear e4)|(refine EA e5 AB ?_;clear e5)|(refine EA e6 AB ?_;clear e6)|(refine EA e7 AB ?_;clear e7)|(refine EA e8 AB ?_;clear e8)|(refine HE ?_;clear hK K)|refine WR fun K hK=>?_|refine HT ?_|refine WC (fun h=>?_) fun h=>?_|exact ff|fail)
  all_goals first|omega|(exact LV)
 | @open_ k1 k2 k4 a b d n fr kn r ha hb hd=>
  obtain⟨_,_,d1⟩:=AG hk;obtain⟨_,_,d2⟩:=AG d1;obtain⟨_,_,d3⟩:=AG d2;obtain⟨_,_,d4⟩:=AG d3;obtain⟨_,_,d5⟩:=AG d4;obtain⟨_,_,d6⟩:=AG d5;refine E2 hk d6 (by have:=(AG d5).1;omega) ?_;have e1:=Ax full k en _ _ hk BF _ rfl;have e2:=Dm full _ en _ _ 0 n d1 BF ha;have e3:=Ax full _ en _ _ d2 BF _ rfl;have e4:=Hu full _ en _ _ 0 fr d3 BF hb;have e5:=EM full _ en r7 _ d4;have e7:=Ax full _ en _ _ d4 BF _ rfl;have e8:=Hu full _ en _ _ 0 kn d5 BF hd;rw[show A4 r7 (⟨k4,Qs⟩::d::r)=false from by unfold A4;show decide (Qs=r7)=false;decide]at e5;have RW:=TF hb;refine FO 40 [.cell 2 27] Tryz.func90 Tryz.ntmps90 fun B w0 Y R Am Az hY AQ AW Aj hR=>?_;have AB:=NA AW AQ 2 3
  refine AI ⟨[(2,.p 2 0)],(2,.box 27 (.AF (A1 (Lw n fr 36525 kn))))::(CO full (k+1+1+1+1+1+1) en++Y)⟩ ER ?_;repeat'(first|exact tT|refine WA tT AB ?_ ?_|refine Wk AB ?_|(refine EA e1 AB ?_;clear e1)|(refine EA e2 AB ?_;clear e2)|(refine EA e3 AB ?_;clear e3)|(refine EA e4 AB ?_;clear e4)|(refine EA e5 AB ?_;clear e5)|(refine EA e7 AB ?_;clear e7)|(refine EA e8 AB ?_;clear e8)|(refine HE ?_;clear hK K)|refine WR fun K hK=>?_|refine HT ?_|refine WC (fun h=>?_) fun h=>?_|exact ff|fail)
  all_goals first|omega|(exact LV)
set_option maxHeartbeats 8000000 in
theorem nW(full:List Tk)(en:Int)(BF:full.length≤2000){k1 k2 k3:Int}{t u:Tk}{r:List Tk}(ht:D2 t=true)(hu:IW u=true):F6 54 full en [] (⟨k1,S6⟩::t::⟨k2,Lt⟩::u::⟨k3,Gi⟩::r) (Gr 2 t.text u.text 0) r:=by
 intro k E5 hk;obtain⟨_,_,d1⟩:=AG hk;obtain⟨_,_,d2⟩:=AG d1;obtain⟨_,_,d3⟩:=AG d2;obtain⟨_,_,d4⟩:=AG d3;obtain⟨_,_,d5⟩:=AG d4;refine E2 hk d5 (by have:=(AG d4).1;omega) ?_;have hf:=JH t;rw[ht]at hf;have hg:=S8 u;rw[hu]at hg;have e1:=Cq full k en _ _ hk;have e2:=Fy full _ en _ _ d1 BF 84 hf;have e3:=Ax full _ en _ _ d2 BF _ rfl;have e4:=Fy full _ en _ _ d3 BF 86 hg;have e5:=Ax full _ en _ _ d4 BF _ rfl;have zx:k<full.length:=(AG hk).1;have c29:decide (S6=⟨#[108,105,110,101]⟩)=false:=Zd
 refine FO 39 [.cell 2 27] Tryz.func54 Tryz.ntmps54 fun B w0 Y R Am Az hY AQ AW Aj hR=>?_;have AB:=Il AW AQ 2 3 4
 refine AI ⟨[(2,.p 2 0)],(2,.box 27 (.AF (A1 (Gr 2 t.text u.text 0))))::(CO full (k+1+1+1+1+1) en++Y)⟩ ER ?_;repeat'(first|exact tT|refine WA tT (Y2 c29 AB) ?_ ?_|refine Wk (Y2 c29 AB) ?_|(refine EA e1 (Y2 c29 AB) ?_;clear e1)|(refine EA e2 (Y2 c29 AB) ?_;clear e2)|(refine EA e3 (Y2 c29 AB) ?_;clear e3)|(refine EA e4 (Y2 c29 AB) ?_;clear e4)|(refine EA e5 (Y2 c29 AB) ?_;clear e5)|(refine HE ?_;clear hK K)|refine WR fun K hK=>?_|refine HT ?_|refine WC (fun h=>?_) fun h=>?_|exact ff|fail)
 all_goals first|omega|(exact LV)
set_option maxHeartbeats 8000000 in
theorem nX(full:List Tk)(en:Int)(BF:full.length≤2000){k1 k2 k3:Int}{t u v:Tk}{r:List Tk}(ht:D2 t=true)(hu:IW u=true)(hv:0<D4 v.text):F6 54 full en [] (⟨k1,Qr⟩::t::⟨k2,Lt⟩::u::v::⟨k3,Gi⟩::r) (Gr 3 t.text u.text (D4 v.text)) r:=by
 intro k E5 hk;obtain⟨_,_,d1⟩:=AG hk;obtain⟨_,_,d2⟩:=AG d1;obtain⟨_,_,d3⟩:=AG d2;obtain⟨_,_,d4⟩:=AG d3;obtain⟨_,_,d5⟩:=AG d4;obtain⟨_,_,d6⟩:=AG d5;refine E2 hk d6 (by have:=(AG d5).1;omega) ?_;have hf:=JH t;rw[ht]at hf;have hg:=S8 u;rw[hu]at hg;have e1:=Cq full k en _ _ hk;have e2:=Fy full _ en _ _ d1 BF 84 hf;have e3:=Ax full _ en _ _ d2 BF _ rfl;have e4:=Fy full _ en _ _ d3 BF 86 hg;have e5:=Fy full _ en _ _ d4 BF 88 (dK v hv);have e6:=Ax full _ en _ _ d5 BF _ rfl;have zL:=TG v.text hv;have zx:k<full.length:=(AG hk).1;have c29:decide (Qr=⟨#[108,105,110,101]⟩)=true:=Zd
 generalize D4 v.text=ro at*;refine FO 39 [.cell 2 27] Tryz.func54 Tryz.ntmps54 fun B w0 Y R Am Az hY AQ AW Aj hR=>?_;have AB:=Il AW AQ 2 3 4
 refine AI ⟨[(2,.p 2 0)],(2,.box 27 (.AF (A1 (Gr 3 t.text u.text ro))))::(CO full (k+1+1+1+1+1+1) en++Y)⟩ ER ?_;repeat'(first|exact tT|refine WA zL (Y2 c29 AB) ?_ ?_|refine Wk (Y2 c29 AB) ?_|(refine EA e1 (Y2 c29 AB) ?_;clear e1)|(refine EA e2 (Y2 c29 AB) ?_;clear e2)|(refine EA e3 (Y2 c29 AB) ?_;clear e3)|(refine EA e4 (Y2 c29 AB) ?_;clear e4)|(refine EA e5 (Y2 c29 AB) ?_;clear e5)|(refine EA e6 (Y2 c29 AB) ?_;clear e6)|(refine HE ?_;clear hK K)|refine WR fun K hK=>?_|refine HT ?_|refine WC (fun h=>?_) fun h=>?_|exact ff|fail)
 all_goals first|omega|(exact LV)
theorem UZ(s p:ByteArray)(n:Nat)(hs:s.size≤1000000)(hp:p.size≤1000000):Pure Tryz.prog 111 [An (s.extract n s.size),An p] (BL (Gz (bl p) ((bl s).drop n))):=by
 have h:=jU (s.extract n s.size) p (by rw[ByteArray.size_extract];omega) hp;have On:(bl s).length=s.size:=rfl;rw[UY,←On,List.take_length]at h;rw[←On];exact h
set_option maxRecDepth 100000 in
set_option maxHeartbeats 4000000 in
theorem Yp(s:ByteArray)(i:Nat)(hs:s.size≤1000000)(hi:i<s.size)(k:Int)(e:Nat)(hf:UN ((bl s).drop i)=some (k,e)):Pure Tryz.prog 113 [An s,AE (i:Int)] (.t [AE k,AE ((i+e:Nat):Int)]):=by
 have On:(bl s).length=s.size:=rfl;have hr:=Np s i 8 hs Zo Zo;have hd:=dJ s i hs Zo;have fZ:=Jg 8 ((bl s).drop i);rw[List.length_drop,On]at fZ;unfold UN at hf;cases ha:Rv ((bl s).drop i)with
 |none=>rw[ha]at hf;cases hf
 |some ke=>
  obtain⟨k',e'⟩:=ke;rw[ha]at hf;simp only at hf;split at hf
  ·cases hf
  rename_i Du;injection hf with hf;injection hf with tm tn
  subst tm;subst tn
  have qJ:Fi 30 (((bl s).drop i).drop e')=false:=by
   cases hh:Fi 30 (((bl s).drop i).drop e')with
   |false=>rfl
   |true=>exact absurd (.inl hh) Du
  have pF:Gz [46] (((bl s).drop i).drop e')=false:=by
   cases hh:Gz [46] (((bl s).drop i).drop e')with
   |false=>rfl
   |true=>exact absurd (.inr hh) Du
  rw[List.drop_drop]at qJ pF;have qM:=UZ s ⟨#[46]⟩ (i+e') hs Zd;rw[show Gz (bl ⟨#[46]⟩) ((bl s).drop (i+e'))=false from pF]at qM;unfold Rv at ha;cases qE:DK ((bl s).drop i)with
  |true=>
   rw[qE]at ha hd;rw[if_pos rfl]at ha;injection ha with ha;injection ha with xC xF
   subst xC;subst xF
   have Bh:i+10≤s.size:=by
    unfold DK at qE;rw[Zba,Zdt,List.length_drop,On]at qE;omega
   have tp:=JJ s (i+10) 30 hs Zo Zo;rw[qJ]at tp;rw[show(((i+10:Nat)):Int)=(i:Int)+10 by omega]at tp ⊢;have hx:((i:Int)+10).toNat=i+10:=Zo
   have hle:(i:Int)+10≤(s.size:Int):=Zo
   generalize i+Cy 8 ((bl s).drop i)=r at*;refine PO 69 [.tmp 4,.tmp 5] hT Tryz.func113 Tryz.ntmps113 fun B w0=>?_;repeat'(first|exact tT|refine WA (Y4 hr hd tp qM) hx ?_ ?_|(refine PE ?_;clear hK K)|refine WR fun K hK=>?_|refine PT ?_|refine WC (fun h=>?_) fun h=>?_|exact ff|fail)
   all_goals first|omega|rfl
  |false=>
   rw[qE]at ha hd;rw[if_neg Zd]at ha;split at ha
   ·cases ha
   rename_i h48
   have zy:((bl s).drop i).headD 0=s.data.getD i 0:=by
    have:=Qo s i 0;rw[Nat.add_zero]at this;rw[←this];cases (bl s).drop i<;>rfl
   rw[zy]at h48;generalize lA:Cy 8 ((bl s).drop i)=rl at*;rw[List.drop_drop]at ha;have bV:=UZ s ⟨#[46]⟩ (i+rl) hs Zd;have OU:((i:Int)).toNat=i:=Zo
   have zz:(i:Int)<(s.size:Int):=Zo
   have xH:(((s.data.getD i 0).toNat:Int)==48)=true→ ¬1<rl:=fun h h1=>h48 ⟨UInt8.toNat_inj.1 (by show(s.data.getD i 0).toNat=48;have:=beq_iff_eq.1 h;omega),h1⟩;generalize RW:s.data.getD i 0=b at*;generalize hn:i+rl=n at*;have Ct:((n:Int)) - (i:Int)=(rl:Int):=Zo
   have ug:((n:Int)).toNat=n:=Zo
   have VH:(n:Int)≤(s.size:Int):=Zo
   cases pH:Gz [46] ((bl s).drop n)with
   |true=>
    rw[pH,if_pos rfl]at ha;split at ha
    ·cases ha
    rename_i hc;injection ha with ha;injection ha with xC xF
    subst xC;subst xF
    rw[show Gz (bl ⟨#[46]⟩) ((bl s).drop n)=true from pH]at bV;rw[List.drop_drop,List.drop_drop]at hc;have c10: ¬10<rl:=fun h=>hc (.inl h)
    have d1:Fi 8 ((bl s).drop (i+(rl+1)))=true:=by
     cases hh:Fi 8 ((bl s).drop (i+(rl+1)))with
     |true=>rfl
     |false=>exact absurd (.inr (.inl hh)) hc
    have d2:Fi 8 ((bl s).drop (i+(rl+2)))=true:=by
     cases hh:Fi 8 ((bl s).drop (i+(rl+2)))with
     |true=>rfl
     |false=>exact absurd (.inr (.inr hh)) hc
    rw[show i+(rl+1)=n+1 by omega]at d1;rw[show i+(rl+2)=n+2 by omega]at d2;rw[show i+(rl+3)=n+3 by omega]at qJ qM ⊢
    have tL:n+3≤s.size:=by
     have:=(TE (m:=8) (t:=bl s) (k:=n+2)).1 d2;omega
    have h1:=JJ s (n+1) 8 hs Zo Zo;have h2:=JJ s (n+2) 8 hs Zo Zo;have h3:=JJ s (n+3) 30 hs Zo Zo;rw[d1,show(((n+1:Nat)):Int)=(n:Int)+1 by omega]at h1;rw[d2,show(((n+2:Nat)):Int)=(n:Int)+2 by omega]at h2;rw[qJ,show(((n+3:Nat)):Int)=(n:Int)+3 by omega]at h3;rw[show(((n+3:Nat)):Int)=(n:Int)+3 by omega];have fW:((n:Int)+3).toNat=n+3:=Zo
    have Oo:(n:Int)+3≤(s.size:Int):=Zo
    have c12:=DF ((10:Int)<(rl:Int));by_cases hq:((b.toNat:Int)==48)=true
    ·have c1:decide ((1:Int)<(rl:Int))=false:=Zdf (by have:=xH hq;omega);refine PO 69 [.tmp 4,.tmp 5] hT Tryz.func113 Tryz.ntmps113 fun B w0=>?_;repeat'(first|exact tT|refine y4 (Y7 hr hd qM bV h1 h2 h3) (Y8 OU ug fW RW Ct hq c1 c12) ?_ ?_|(refine PE ?_;clear hK K)|refine WR fun K hK=>?_|refine PT ?_|refine WC (fun h=>?_) fun h=>?_|exact ff|fail)
     all_goals first|omega|rfl
    ·have hq:((b.toNat:Int)==48)=false:=by simpa using hq
     refine PO 69 [.tmp 4,.tmp 5] hT Tryz.func113 Tryz.ntmps113 fun B w0=>?_;repeat'(first|exact tT|refine y4 (Y7 hr hd qM bV h1 h2 h3) (Y7 OU ug fW RW Ct hq c12) ?_ ?_|(refine PE ?_;clear hK K)|refine WR fun K hK=>?_|refine PT ?_|refine WC (fun h=>?_) fun h=>?_|exact ff|fail)
     all_goals first|omega|rfl
   |false=>
    rw[pH,if_neg Zd]at ha;split at ha
    ·cases ha
    rename_i hc;injection ha with ha;injection ha with xC xF
    subst xC;subst xF
    rw[show Gz (bl ⟨#[46]⟩) ((bl s).drop n)=false from pH]at bV;rw[hn]at qJ qM ⊢;have tp:=JJ s n 30 hs Zo Zo;rw[qJ]at tp;have c12:=DF ((12:Int)<(rl:Int));by_cases hq:((b.toNat:Int)==48)=true
    ·have c1:decide ((1:Int)<(rl:Int))=false:=Zdf (by have:=xH hq;omega);refine PO 69 [.tmp 4,.tmp 5] hT Tryz.func113 Tryz.ntmps113 fun B w0=>?_;repeat'(first|exact tT|refine WA (Y5 hr hd tp qM bV) (Y7 OU ug RW Ct hq c1 c12) ?_ ?_|(refine PE ?_;clear hK K)|refine WR fun K hK=>?_|refine PT ?_|refine WC (fun h=>?_) fun h=>?_|exact ff|fail)
     all_goals first|omega|rfl
    ·have hq:((b.toNat:Int)==48)=false:=by simpa using hq
     refine PO 69 [.tmp 4,.tmp 5] hT Tryz.func113 Tryz.ntmps113 fun B w0=>?_;repeat'(first|exact tT|refine WA (Y5 hr hd tp qM bV) (Y6 OU ug RW Ct hq c12) ?_ ?_|(refine PE ?_;clear hK K)|refine WR fun K hK=>?_|refine PT ?_|refine WC (fun h=>?_) fun h=>?_|exact ff|fail)
     all_goals first|omega|rfl
set_option maxRecDepth 100000 in
set_option maxHeartbeats 4000000 in
theorem L3(s:ByteArray)(i:Nat)(hs:s.size≤1000000)(hi:i<s.size)(k:Int)(e:Nat)(hf:EL ((bl s).drop i)=some (k,e))(hc:Fi 2 ((bl s).drop i)=true∨Fi 4 ((bl s).drop i)=true∨Fi 8 ((bl s).drop i)=true):Pure Tryz.prog 82 [An s,AE (i:Int)] (.t [AE k,AE ((i+e:Nat):Int)]):=by
 have On:(bl s).length=s.size:=rfl;have lB:=Np s i 30 hs Zo Zo;have xK:=Np s i 26 hs Zo Zo;have hr4:=Np s i 4 hs Zo Zo;have HH:=JJ s i 2 hs Zo Zo;have fY:=JJ s i 4 hs Zo Zo;have xL:=JJ s i 8 hs Zo Zo;have z6:=Yp s i hs hi k e;have fZ:=Jg 30 ((bl s).drop i);rw[List.length_drop,On]at fZ;unfold EL at hf;cases h2:Fi 2 ((bl s).drop i)with
 |true=>
  rw[h2]at hf HH;rw[if_pos rfl]at hf;split at hf
  ·rename_i hh;injection hf with hf;injection hf with tm tn
   subst tm;subst tn
   rw[hh.2]at xK;have Xm:=hh.1;generalize Cy 30 ((bl s).drop i)=rl at*;generalize hn:i+rl=n at*;have Ct:((n:Int)) - (i:Int)=(rl:Int):=Zo
   have c1:=DT ((rl:Int)≤16);refine PO 67 [.tmp 4,.tmp 5] hT Tryz.func82 Tryz.ntmps82 fun B w0=>?_;repeat'(first|exact tT|refine WA (Y3 lB xK HH) (Y2 Ct c1) ?_ ?_|(refine PE ?_;clear hK K)|refine WR fun K hK=>?_|refine PT ?_|refine WC (fun h=>?_) fun h=>?_|exact ff|fail)
   all_goals first|omega|rfl
  ·cases hf
 |false=>
  rw[h2]at hf HH hc;rw[if_neg Zd]at hf;cases h4:Fi 4 ((bl s).drop i)with
  |true=>
   rw[h4]at hf fY;rw[if_pos rfl]at hf;split at hf
   ·rename_i hh;injection hf with hf;injection hf with tm tn
    subst tm;subst tn
    rw[hh.2]at hr4;have h3:=hh.1;generalize Cy 30 ((bl s).drop i)=rl at*;subst h3;generalize hn:i+3=n at*;have Ct:((n:Int)) - (i:Int)=3:=Zo
    refine PO 67 [.tmp 4,.tmp 5] hT Tryz.func82 Tryz.ntmps82 fun B w0=>?_;repeat'(first|exact tT|refine WA (Y4 lB hr4 HH fY) Ct ?_ ?_|(refine PE ?_;clear hK K)|refine WR fun K hK=>?_|refine PT ?_|refine WC (fun h=>?_) fun h=>?_|exact ff|fail)
    all_goals first|omega|rfl
   ·cases hf
  |false=>
   rw[h4]at hf fY hc;rw[if_neg Zd]at hf;have h8:Fi 8 ((bl s).drop i)=true:=by simpa using hc
   rw[h8]at hf xL;rw[if_pos rfl]at hf;have z6:=z6 hf;refine PO 67 [.tmp 4,.tmp 5] hT Tryz.func82 Tryz.ntmps82 fun B w0=>?_;repeat'(first|exact tT|refine WA (Y5 lB HH fY xL z6) tT ?_ ?_|(refine PE ?_;clear hK K)|refine WR fun K hK=>?_|refine PT ?_|refine WC (fun h=>?_) fun h=>?_|exact ff|fail)
   all_goals first|omega|rfl
theorem L4{α:Type}{p:α→Bool}{d:α}: ∀ {l:List α} {x:α},l.find? p=some x→ ∃j,j<l.length∧l.getD j d=x∧p x=true∧ ∀k,k<j→p (l.getD k d)=false
 | [],x,h=>by simp at h
 |a::r,x,h=>by
  rw[List.find?_cons]at h;cases ha:p a with
  |true=>
   rw[ha]at h;injection h with h;subst h;exact⟨0,by simp,rfl,ha,fun k hk=>by omega⟩
  |false=>
   rw[ha]at h;obtain⟨j,h1,h2,h3,h4⟩:=L4 (d:=d) h;refine⟨j+1,by simp;omega,h2,h3,fun k hk=>?_⟩;cases k with
   |zero=>exact ha
   |succ k=>exact h4 k Zo
abbrev vg:List AV:= [.v ((GC.strs 17 Bi).at 0),.v ((GC.strs 17 Bi).at 1),.v ((GC.strs 17 Bi).at 2),.v ((GC.strs 17 Bi).at 3),.v ((GC.strs 17 Bi).at 4),.v ((GC.strs 17 Bi).at 5),.v ((GC.strs 17 Bi).at 6),.v ((GC.strs 17 Bi).at 7),.v ((GC.strs 17 Bi).at 8),.v ((GC.strs 17 Bi).at 9),.v ((GC.strs 17 Bi).at 10),.v ((GC.strs 17 Bi).at 11),.v ((GC.strs 17 Bi).at 12),.v ((GC.strs 17 Bi).at 13),.v ((GC.strs 17 Bi).at 14),.v ((GC.strs 17 Bi).at 15),.v ((GC.strs 17 Bi).at 16)]
theorem sa(j:Nat)(h:j<17):vg.getD j .top=An ⟨(E1.getD j []).toArray⟩:=by
 match j,h with
 |0,_=>rfl
 |1,_=>rfl
 |2,_=>rfl
 |3,_=>rfl
 |4,_=>rfl
 |5,_=>rfl
 |6,_=>rfl
 |7,_=>rfl
 |8,_=>rfl
 |9,_=>rfl
 |10,_=>rfl
 |11,_=>rfl
 |12,_=>rfl
 |13,_=>rfl
 |14,_=>rfl
 |15,_=>rfl
 |16,_=>rfl
 |n+17,h=>omega
theorem nY(j:Nat):(E1.getD j []).length≤2:=by
 have: ∀t∈E1,t.length≤2:=Zd
 rcases Nat.lt_or_ge j E1.length with h|h
 ·rw[Zlg,Zeg h];exact this _ (List.getElem_mem h)
 ·rw[Zlg,List.getElem?_eq_none h];simp
set_option maxRecDepth 100000 in
set_option maxHeartbeats 4000000 in
theorem jY(s:ByteArray)(i:Nat)(hs:s.size≤1000000)(hi:i<s.size)(k:Int)(e:Nat)(hf:EL ((bl s).drop i)=some (k,e))(c2:Fi 2 ((bl s).drop i)=false)(c4:Fi 4 ((bl s).drop i)=false)(c8:Fi 8 ((bl s).drop i)=false):Pure Tryz.prog 82 [An s,AE (i:Int)] (.t [AE k,AE ((i+e:Nat):Int)]):=by
 have On:(bl s).length=s.size:=rfl;have lB:=Np s i 30 hs Zo Zo;have HH:=JJ s i 2 hs Zo Zo;have fY:=JJ s i 4 hs Zo Zo;have xL:=JJ s i 8 hs Zo Zo;rw[c2]at HH;rw[c4]at fY;rw[c8]at xL;unfold EL at hf;rw[c2,c4,c8,if_neg Zd,if_neg Zd,if_neg Zd]at hf;cases z7:E1.find? (fun x=>Gz x ((bl s).drop i))with
 |none=>rw[z7]at hf;cases hf
 |some x=>
  rw[z7]at hf;injection hf with hf;injection hf with tm tn
  subst tm;subst tn
  obtain⟨j0,kg,hx,hpx,tq⟩:=L4 (d:= []) z7;have ADD:j0<17:=kg;generalize lA:i+Cy 30 ((bl s).drop i)=rr at*;refine PO 67 [.tmp 4,.tmp 5] hT Tryz.func82 Tryz.ntmps82 fun B w0=>?_;repeat'(first|exact tT|refine WA (Y4 lB HH fY xL) tT ?_ ?_|refine Wk tT ?_|(refine PE ?_;clear hK K)|refine WR fun K hK=>?_|refine PT ?_|refine WC (fun h=>?_) fun h=>?_|exact ff|fail)
  all_goals first|exact⟨trivial,Zd⟩|skip
  refine AM (α:=Nat) (fun j=>⟨[(54,AE (j:Int)),(53,.a vg),(0,An s),(1,AE (i:Int))],[]⟩) (fun j=>j≤j0) (fun j=>18 - j) 0 Zo (by exact G.Al (AA Ai) Au) fun j hj=>?_;have c1:=DT ((j:Int)<17);have xO:=sa j Zo;have hlen:=nY j;have hp:=UZ s ⟨(E1.getD j []).toArray⟩ i hs (by rw[DS];omega);rw[GA]at hp;have MA:(i:Int)≤(s.size:Int):=Zo
  by_cases Ak:j<j0
  ·rw[tq j Ak]at hp;generalize E1.getD j []=sy at*;repeat' (first|((first|refine sC hT fun K' AX=>?_|refine oC fun K' AX=>?_);push_cast[c1,xO,DS];(try simp (disch:=omega) only[wrap64,Int.toNat_natCast]);(repeat refine AS ?_ ?_);(first|refine AX _ ?_|((first|apply OY|(apply OZ;exact gd)|apply QL);(try intro hb);(first|exact hp);exact fC;refine AX _ ?_)|refine⟨.v (.int .i64 0),AX _ ?_⟩);clear AX K')|(refine Nn hT rfl rfl (by simp only[As,Nat.reduceLT]) rfl rfl rfl rfl rfl trivial rfl trivial rfl Zo ?_;simp only[St.put,Int.toNat_natCast,c1,xO,DS])|(refine sK hT ?_;simp only[St.put])|((first|refine A9 (hK _ ?_)|refine Bk (hK _ ?_));clear hK K;push_cast)|((first|apply Bs|apply B5|apply CG|apply Cl);push_cast)|refine CH fun K hK=>?_|refine Fm fun K hK=>?_|refine dQ hT hm fun K hK=>?_|refine dL hT hm fun K hK=>?_|apply Bq|apply Br|apply CR|(refine B6 _ rfl (fun h=>?_) (fun h=>?_)<;>simp only[VC,reduceCtorEq]at h))
   all_goals try exact ff
   all_goals first|omega|skip
   all_goals (refine⟨j+1,⟨Zo,Zo⟩,?_⟩;exact G.Al (AA Ai) Au)
  ·obtain rfl:j=j0:=Zo
   rw[hx,hpx]at hp;rw[hx]at xO hlen;repeat' (first|((first|refine sC hT fun K' AX=>?_|refine oC fun K' AX=>?_);push_cast[c1,xO,DS];(try simp (disch:=omega) only[wrap64,Int.toNat_natCast]);(repeat refine AS ?_ ?_);(first|refine AX _ ?_|((first|apply OY|(apply OZ;exact gd)|apply QL);(try intro hb);(first|exact hp);exact fC;refine AX _ ?_)|refine⟨.v (.int .i64 0),AX _ ?_⟩);clear AX K')|(refine Nn hT rfl rfl (by simp only[As,Nat.reduceLT]) rfl rfl rfl rfl rfl trivial rfl trivial rfl Zo ?_;simp only[St.put,Int.toNat_natCast,c1,xO,DS])|(refine sK hT ?_;simp only[St.put])|((first|refine A9 (hK _ ?_)|refine Bk (hK _ ?_));clear hK K;push_cast)|((first|apply Bs|apply B5|apply CG|apply Cl);push_cast)|refine CH fun K hK=>?_|refine Fm fun K hK=>?_|refine dQ hT hm fun K hK=>?_|refine dL hT hm fun K hK=>?_|apply Bq|apply Br|apply CR|(refine B6 _ rfl (fun h=>?_) (fun h=>?_)<;>simp only[VC,reduceCtorEq]at h))
   all_goals try exact ff
   all_goals first|omega|rfl
theorem jZ(s:ByteArray)(i:Nat)(hs:s.size≤1000000)(hi:i<s.size)(k:Int)(e:Nat)(hf:EL ((bl s).drop i)=some (k,e)):Pure Tryz.prog 82 [An s,AE (i:Int)] (.t [AE k,AE ((i+e:Nat):Int)]):=by
 cases h2:Fi 2 ((bl s).drop i)with
 |true=>exact L3 s i hs hi k e hf (.inl h2)
 |false=>
  cases h4:Fi 4 ((bl s).drop i)with
  |true=>exact L3 s i hs hi k e hf (.inr (.inl h4))
  |false=>
   cases h8:Fi 8 ((bl s).drop i)with
   |true=>exact L3 s i hs hi k e hf (.inr (.inr h8))
   |false=>exact jY s i hs hi k e hf h2 h4 h8
abbrev vh(l:Nat):List AV:= [.v ((GC.strs 36 Bw).at (l*6)),.v ((GC.strs 36 Bw).at (l*6+1)),.v ((GC.strs 36 Bw).at (l*6+2)),.v ((GC.strs 36 Bw).at (l*6+3)),.v ((GC.strs 36 Bw).at (l*6+4)),.v ((GC.strs 36 Bw).at (l*6+5))]
def VD(l:Nat):List ByteArray:=(Bw.drop (l*6)).take 6
theorem sB(l j:Nat)(h:j<6):(VD l).getD j default=Bw.getD (l*6+j) default:=by
 simp[VD,Zlg,List.getElem?_take,h]
theorem nZ(l j:Nat)(h:j<6):(vh l).getD j .top=An ((VD l).getD j default):=by
 rw[sB l j h]
 match j,h with
 |0,_=>rfl
 |1,_=>rfl
 |2,_=>rfl
 |3,_=>rfl
 |4,_=>rfl
 |5,_=>rfl
 |n+6,h=>omega
theorem na(l:Nat)(h:l<6):(VD l).length=6:=by
 have: ∀l,l<6→(VD l).length=6:=Zd
 exact this l h
theorem nb(l:Nat)(hl:l<6)(ts:List Tk): ∃J,J≤6∧(∀j,j<J→(!decide ((VD l).getD j default=⟨#[]⟩)&&A4 ((VD l).getD j default) ts)=false)∧((J=6∧Nc l ts=none)∨(J<6∧Nc l ts=some ((VD l).getD J default)∧(!decide ((VD l).getD J default=⟨#[]⟩)&&A4 ((VD l).getD J default) ts)=true)):=by
 have hlen:=na l hl;cases ho:Nc l ts with
 |none=>
  refine⟨6,Nat.le_refl _,fun j hj=>?_,.inl ⟨rfl,rfl⟩⟩;unfold Nc at ho;have:=List.find?_eq_none.1 ho ((VD l).getD j default) (Ap (l:=VD l) Zo);simpa using this
 |some o=>
  unfold Nc at ho;obtain⟨J,h1,h2,h3,h4⟩:=L4 (d:=default) ho;have h1:J<(VD l).length:=h1;refine⟨J,Zo,fun j hj=>h4 j hj,.inr ⟨Zo,?_,?_⟩⟩
  ·rw[show(VD l).getD J default=o from h2]
  ·rw[show(VD l).getD J default=o from h2];exact h3
set_option maxHeartbeats 4000000 in
theorem OP(full:List Tk)(k:Nat)(en:Int)(ts:List Tk)(h:full.drop k=ts)(l:Nat)(hl:l<6):BS Tryz.prog T 152 [.p 1000 0,AE (l:Int)] (CO full k en) (match Nc l ts with|some o=>.t [An o,BL true]|none=>.t [An ⟨#[]⟩,BL false]) (CO full k en):=by
 obtain⟨J,hJ,tq,CB⟩:=nb l hl ts;generalize lA:(match Nc l ts with|some o=>AV.t [An o,BL true]|none=>AV.t [An ⟨#[]⟩,BL false])=rr;refine FO 23 [.tmp 4,.tmp 5] Tryz.func152 Tryz.ntmps152 fun B w0 Y R Am Az hY AQ AW Aj hR=>?_;have AB:=AW
 repeat'(first|exact tT|refine WA tT AB ?_ ?_|refine Wk AB ?_|(refine HE ?_;clear hK K)|refine WR fun K hK=>?_|refine HT ?_|refine WC (fun h=>?_) fun h=>?_|exact ff|fail)
 all_goals first|(show _≤36;omega)|exact⟨trivial,Zo,Zo⟩|skip
 refine AM (α:=Nat) (fun j=>⟨[(11,AE (j:Int)),(10,.a (vh l)),(5,BL false),(4,An ⟨#[]⟩),(0,.p 1000 0),(1,AE (l:Int))],CO full k en++Y⟩) (fun j=>j≤J) (fun j=>7 - j) 0 (Nat.zero_le _) (by exact G.Al (AA Ai) Au) fun j hj=>?_;by_cases hj6:j<6
 ·have c1:=DT ((j:Int)<6);have VL:=nZ l j hj6;have hs:=EM full k en ((VD l).getD j default) ts h;by_cases Ak:j<J
  ·have hb:=tq j Ak;generalize (VD l).getD j default=sy at*;by_cases hem:sy=⟨#[]⟩
   ·have c15:decide (sy=⟨#[]⟩)=true:=Zde hem;repeat'(first|exact tT|refine WA tT (Y4 c1 VL c15 AB) ?_ ?_|refine Wk (Y4 c1 VL c15 AB) ?_|(refine HE ?_;clear hK K)|refine WR fun K hK=>?_|refine HT ?_|refine WC (fun h=>?_) fun h=>?_|exact ff|fail)
    all_goals first|omega|(refine⟨j+1,⟨Zo,Zo⟩,?_⟩;exact G.Al (AA Ai) Au)
   ·have c15:decide (sy=⟨#[]⟩)=false:=Zdf hem;rw[c15,Bool.not_false,Bool.true_and]at hb;rw[hb]at hs;repeat'(first|exact tT|refine WA tT (Y4 c1 VL c15 AB) ?_ ?_|refine Wk (Y4 c1 VL c15 AB) ?_|refine EA hs (Y4 c1 VL c15 AB) ?_|(refine HE ?_;clear hK K)|refine WR fun K hK=>?_|refine HT ?_|refine WC (fun h=>?_) fun h=>?_|exact ff|fail)
    all_goals first|omega|(refine⟨j+1,⟨Zo,Zo⟩,?_⟩;exact G.Al (AA Ai) Au)
  ·obtain rfl:j=J:=Zo
   rcases CB with ⟨h6,_⟩|⟨_,ho,hb⟩
   ·omega
   rw[ho]at lA;generalize (VD l).getD j default=sy at*;subst lA;simp only[Zba,Bool.not_eq_true']at hb;have c15:=hb.1;rw[hb.2]at hs;repeat'(first|exact tT|refine WA tT (Y4 c1 VL c15 AB) ?_ ?_|refine Wk (Y4 c1 VL c15 AB) ?_|refine EA hs (Y4 c1 VL c15 AB) ?_|(refine HE ?_;clear hK K)|refine WR fun K hK=>?_|refine HT ?_|refine WC (fun h=>?_) fun h=>?_|exact ff|fail)
   all_goals first|omega|(exact⟨Aj,hR _ IB⟩)
 ·have c1:=DF ((j:Int)<6);rcases CB with ⟨h6,ho⟩|⟨h6,_⟩
  ·rw[ho]at lA;subst lA;repeat'(first|exact tT|refine WA tT (Y2 c1 AB) ?_ ?_|refine Wk (Y2 c1 AB) ?_|(refine HE ?_;clear hK K)|refine WR fun K hK=>?_|refine HT ?_|refine WC (fun h=>?_) fun h=>?_|exact ff|fail)
   all_goals first|omega|(exact⟨Aj,hR _ IB⟩)
  ·omega
def Gn:List Nd→List AV
 | []=> []
 |e::r=>A1 e++Gn r
theorem Jk(l:List Nd):(Gn l).length=l.length*11:=by
 induction l with
 |nil=>rfl
 |cons p r ih=>simp only[Gn,List.length_append,List.length_cons,ih];simp[A1];omega
theorem Ua(l m:List Nd):Gn (l++m)=Gn l++Gn m:=by
 induction l with
 |nil=>rfl
 |cons p r ih=>simp only[Gn,List.cons_append,ih,List.append_assoc]
theorem Ia(e:Nd):Gn [e]=A1 e:=by simp[Gn]
theorem ja(l:List Nd)(e j:Nat)(he:e<l.length)(hj:j<11):(Gn l).getD (e*11+j) .top=((l.map Dj).getD e []).getD j .top:=by
 induction l generalizing e with
 |nil=>simp at he
 |cons p r ih=>
  have hlen:(A1 p).length=11:=rfl;cases e with
  |zero=>
   show(A1 p++Gn r).getD (0*11+j) .top=(Dj p).getD j .top;rw[Jb,Nat.zero_mul,Nat.zero_add,Zlg,List.getElem?_append_left Zo,←Zlg]
  |succ e=>
   have:=ih e (by simpa using he);show(A1 p++Gn r).getD ((e+1)*11+j) .top=((r.map Dj).getD e []).getD j .top;rw[←this,Zlg,List.getElem?_append_right Zo,Zlg]
   congr 2
   omega
theorem Ib(fr:Bool)(l:List Nd):AR (.i fr (fun e j=>(Gn l).getD (e*11+j) .top) 11 0 l.length) (CS l):=AR.slice rfl fun e j he hj=>by rw[Nat.zero_add,ja l e j he hj]
theorem aZ(o:ByteArray)(a b:Nd)(h1:o≠rZ)(h2:o≠rb):Pure Tryz.prog 153 [An o,.a (A1 a),.a (A1 b)] (.a (A1 (mkBin o a b))):=by
 have c1:decide (o=⟨#[62]⟩)=false:=Zdf h1;have c2:decide (o=⟨#[62,61]⟩)=false:=Zdf h2;refine Pure.res (r:=.a [AE 16,An o,An ⟨#[]⟩,AE 0,AE 0,AE 0,AE 0,AE 0,.v (.slice none 0 0),.i true (fun e j=>(A1 a++A1 b).getD (e*11+j) .top) 11 0 2,.o]) ?_ ?_
 ·refine PO 26 [.cell 6 27] hT Tryz.func153 Tryz.ntmps153 fun B w0=>?_;repeat'(first|exact tT|refine WA tT (Y2 c1 c2) ?_ ?_|refine Wk (Y2 c1 c2) ?_|(refine PE ?_;clear hK K)|refine WR fun K hK=>?_|refine PT ?_|refine WC (fun h=>?_) fun h=>?_|exact ff|fail)
 ·refine AR.sub (AR.agg ⟨AR.refl _,AR.refl _,AR.refl _,AR.refl _,AR.refl _,AR.refl _,AR.refl _,AR.refl _,AR.nil,?_,AR.refl _,trivial⟩);have:=Ib true [a,b];rw[show Gn [a,b]=A1 a++A1 b by simp[Gn]]at this;exact this
end Go.Proofs.YthemnhjojaehhaaGreatDoor
