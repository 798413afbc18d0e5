/- Part of a proof. -/
import Derived.Test.YthemnhjojaehhaaGreatDoorA33
set_option linter.all false
namespace Go.Proofs.YthemnhjojaehhaaGreatDoor
open Go.Ad Go.Proofs Go.Tp
attribute [local irreducible] A8 AK BY Go.Ad.Pure BS
section
variable(full:List Tk)(en:Int)(BF:full.length≤2000)
include BF
set_option maxHeartbeats 8000000 in
theorem C6{ts r:List Tk}{e:Nd}(h:F6 151 full en [] ts e r):F6 139 full en [AE 6] ts e r:=by
 intro k E5 hk;obtain⟨d1,Ak,hF⟩:=h k E5 hk;refine⟨d1,Ak,?_⟩;generalize full.length - r.length=m at*;refine FO 64 [.cell 4 27] Tryz.func139 Tryz.ntmps139 fun B w0 Y R Am Az hY AQ AW Aj hR=>?_;have AB:=fF AW AQ 4 5 6 9 22
 refine AI ⟨[(4,.p 4 0)],(4,.box 27 (.AF (A1 e)))::(CO full m en++Y)⟩ ER ?_;repeat'(first|exact tT|refine WA tT AB ?_ ?_|(refine EA hF AB ?_;clear hF)|(refine HE ?_;clear hK K)|refine WR fun K hK=>?_|refine HT ?_|refine WC (fun h=>?_) fun h=>?_|exact ff|fail)
 all_goals first|omega|(exact LV)
set_option maxHeartbeats 8000000 in
theorem nk{kd:Int}{ts r:List Tk}{e:Nd}(h:F6 139 full en [AE 2] ts e r):F6 139 full en [AE 2] (⟨kd,Ho⟩::ts) (mkNot e) r:=by
 intro k E5 hk;obtain⟨FM,_,d1⟩:=AG hk;obtain⟨d2,Ak,hF⟩:=h _ Zo d1;refine⟨d2,by simp only[List.length_cons];omega,?_⟩;generalize full.length - r.length=m at*;have e1:=EM full k en Ho _ hk;rw[show A4 Ho (⟨kd,Ho⟩::ts)=true from by unfold A4;exact Zde rfl]at e1;have e2:=Ax full k en _ _ hk BF _ rfl;have Ct:=Ib true [e];rw[Ia]at Ct;refine FO 64 [.cell 4 27] Tryz.func139 Tryz.ntmps139 fun B w0 Y R Am Az hY AQ AW Aj hR=>?_;have AB:=fF AW AQ 4 5 6 9 22
 refine AI ⟨[(4,.p 4 0)],(4,.box 27 (.AF (A1 (mkNot e))))::(CO full m en++Y)⟩ ER ?_;repeat'(first|exact tT|refine WA tT AB ?_ ?_|(refine EA e1 AB ?_;clear e1)|(refine EA e2 AB ?_;clear e2)|(refine EA hF AB ?_;clear hF)|(refine HE ?_;clear hK K)|refine WR fun K hK=>?_|refine HT ?_|refine WC (fun h=>?_) fun h=>?_|exact ff|fail)
 all_goals first|omega|(exact LV)
set_option maxHeartbeats 16000000 in
theorem sF{l n:Nat}{ts:List Tk}{e:Nd}{at_:Nat→List Tk}{o:Nat→ByteArray}{x:Nat→Nd}(hl:l<6)(hn:l=2→A4 Ho ts=false)(h0:F6 139 full en [AE ((l+1:Nat):Int)] ts e (at_ 0))(h3:l=3→n≤1)
  (E4: ∀i,i<n→Nc l (at_ i)=some (o i)∧o i≠rZ∧o i≠rb∧(o i=LJ→ ∃t m,(at_ i).tail=t::at_ (i+1)∧DU 1 t=some m∧x i=mkNum AZ m))
  (hx: ∀i,i<n→o i≠LJ→F6 139 full en [AE ((l+1:Nat):Int)] (at_ i).tail (x i) (at_ (i+1)))
  (CB:(l=3∧n=1)∨Nc l (at_ n)=none):F6 139 full en [AE (l:Int)] ts (Dl o x e n) (at_ n):=by
 intro k E5 hk;obtain⟨d0,z8,bW⟩:=h0 k E5 hk
 have TX: ∀i,i<n→ ∃t tl,at_ i=t::tl:=fun i hi=>by
  cases ha:at_ i with
  |nil=>
   have:=(E4 i hi).1;rw[ha]at this;unfold Nc at this;have:=List.find?_some this;simp[A4]at this
  |cons t r=>exact⟨t,r,rfl⟩
 have TZ: ∀i,i<n→full.drop (full.length - (at_ i).length)=at_ i→full.drop (full.length - (at_ (i+1)).length)=at_ (i+1)∧(at_ (i+1)).length<(at_ i).length:=fun i hi h1=>by
  obtain⟨t,tl,ht⟩:=TX i hi;have OU:=hx i hi;obtain⟨_,_,_,la⟩:=E4 i hi;rw[ht]at h1 OU la ⊢;obtain⟨h3,_,h4⟩:=AG h1;by_cases hd:o i=LJ
  ·obtain⟨t2,m2,h5,h6,_⟩:=la hd;rw[List.tail_cons]at h5;rw[h5]at h4;obtain⟨h7,_,h8⟩:=AG h4;rw[IZ h8 Zo];exact⟨h8,by rw[h5];simp only[List.length_cons];omega⟩
  ·obtain⟨h5,h6,_⟩:=OU hd _ Zo h4;exact⟨h5,by simp only[List.tail_cons,List.length_cons]at h6 ⊢;omega⟩
 have hd: ∀i,i≤n→full.drop (full.length - (at_ i).length)=at_ i∧(at_ i).length≤(at_ 0).length:=fun i=>by
  induction i with
  |zero=>exact fun _=>⟨d0,Nat.le_refl _⟩
  |succ i ih=>
   intro hi;obtain⟨h1,h2⟩:=ih Zo;obtain⟨h5,h6⟩:=TZ i Zo h1;exact⟨h5,Zo⟩
 refine⟨(hd n (Nat.le_refl _)).1,by have:=(hd n (Nat.le_refl _)).2;omega,?_⟩;have c26:((l:Int)==6)=false:=beq_eq_false_iff_ne.2 Zo;have e1:=EM full k en Ho _ hk;by_cases C0:l=2
 ·rw[hn C0]at e1;have c11:((l:Int)==2)=true:=by rw[C0];rfl
  refine FO 64 [.cell 4 27] Tryz.func139 Tryz.ntmps139 fun B w0 Y R Am Az hY AQ AW Aj hR=>?_;have AB:=fF AW AQ 4 5 6 9 22
  refine AI ⟨[(4,.p 4 0)],(4,.box 27 (.AF (A1 (Dl o x e n))))::(CO full (full.length - (at_ n).length) en++Y)⟩ ER ?_;repeat'(first|exact tT|refine WA tT (Y3 c11 c26 AB) ?_ ?_|(refine EA e1 (Y3 c11 c26 AB) ?_;clear e1)|(refine EA bW (Y3 c11 c26 AB) ?_;clear bW)|(refine HE ?_;clear hK K)|refine WR fun K hK=>?_|refine HT ?_|refine WC (fun h=>?_) fun h=>?_|exact ff|fail)
  all_goals first|omega|skip
  refine AM (α:=Nat) (fun i=>⟨[(0,.p 1000 0),(1,AE (l:Int)),(4,.p 4 0),(6,.p 6 0)],[(6,.box 27 (.AF (A1 (Dl o x e i)))),(4,zB)]++(CO full (full.length - (at_ i).length) en++Y)⟩) (fun i=>i≤n∧(i=n→Nc l (at_ n)=none)) (fun i=>n - i) 0 ⟨Nat.zero_le _,fun h=>by rcases CB with ⟨_,h1⟩|h1;omega;exact h1⟩ (G.Al (AA Ai) Au) fun i hi=>?_;obtain⟨Hz,HH⟩:=hi;obtain⟨LL,VG⟩:=hd i Hz;have Gw:=OP full _ en _ LL l hl;by_cases Ak:i<n
  ·obtain⟨ue,ho2,ho3,la⟩:=E4 i Ak;obtain⟨TU,hs2⟩:=TZ i Ak LL;rw[ue]at Gw;obtain⟨t,tl,ht⟩:=TX i Ak;have OU:=hx i Ak;have hlen:(at_ i).length=tl.length+1:=by rw[ht];rfl
   have oo:(at_ i).tail=tl:=by rw[ht];rfl
   have lF:=LL;rw[ht]at lF;obtain⟨th,_,h4⟩:=AG lF;rw[show(t::tl).length=(at_ i).length by rw[ht]]at th h4;rw[oo]at la OU;have LM:=aZ (o i) (Dl o x e i) (x i) ho2 ho3;have Kh:mkBin (o i) (Dl o x e i) (x i)=Dl o x e (i+1):=rfl;rw[Kh]at LM;have Pe:l=3→i+1=n:=fun h=>by have:=h3 h;omega
   have FZ:l≠3→i+1=n→Nc l (at_ n)=none:=fun h1 _=>by rcases CB with ⟨h2,_⟩|h2;exact absurd h2 h1;exact h2
   generalize U7:Dl o x e (i+1)=b1 at*;generalize Dl o x e i=b0 at*;generalize yb:full.length - (at_ i).length=m at*;generalize Kl:full.length - (at_ (i+1)).length=m1 at*;by_cases hdiv:o i=LJ
   ·obtain⟨t2,v,h5,h6,h7⟩:=la hdiv;rw[h5]at h4;have LN:=L1 full _ en _ _ v h4 BF h6;rw[←h7]at LN
    have bK:m+1+1=m1:=by
     obtain⟨h8,_,h9⟩:=AG h4;have:=IZ h9 Zo;omega
    rw[bK]at LN;have c50:decide (o i=⟨#[47]⟩)=true:=Zde hdiv;generalize o i=oi at*;generalize x i=xi at*;by_cases Oo:l=3
    ·have c62:((l:Int)==3)=true:=by rw[Oo];rfl
     repeat'(first|exact tT|refine WA LM (Y3 c50 c62 AB) ?_ ?_|(refine EA Gw (Y3 c50 c62 AB) ?_;clear Gw)|(refine EA LN (Y3 c50 c62 AB) ?_;clear LN)|(refine HE ?_;clear hK K)|refine WR fun K hK=>?_|refine HT ?_|refine WC (fun h=>?_) fun h=>?_|exact ff|fail)
     all_goals first|omega|(have JO:=Pe Oo;subst JO;rw[U7,Kl];exact G.Al (AA Ai) Au)
    ·have c62:((l:Int)==3)=false:=beq_eq_false_iff_ne.2 Zo;repeat'(first|exact tT|refine WA LM (Y3 c50 c62 AB) ?_ ?_|(refine EA Gw (Y3 c50 c62 AB) ?_;clear Gw)|(refine EA LN (Y3 c50 c62 AB) ?_;clear LN)|(refine HE ?_;clear hK K)|refine WR fun K hK=>?_|refine HT ?_|refine WC (fun h=>?_) fun h=>?_|exact ff|fail)
     all_goals first|omega|(refine⟨i+1,⟨⟨Zo,fun h=>FZ Oo h⟩,Zo⟩,?_⟩;rw[U7,Kl];exact G.Al (AA Ai) Au)
   ·obtain⟨h5,h6,hF⟩:=OU hdiv _ Zo h4;rw[Kl]at hF;have c50:decide (o i=⟨#[47]⟩)=false:=Zdf hdiv;generalize o i=oi at*;generalize x i=xi at*;by_cases Oo:l=3
    ·have c62:((l:Int)==3)=true:=by rw[Oo];rfl
     repeat'(first|exact tT|refine WA LM (Y3 c50 c62 AB) ?_ ?_|(refine EA Gw (Y3 c50 c62 AB) ?_;clear Gw)|(refine EA hF (Y3 c50 c62 AB) ?_;clear hF)|(refine HE ?_;clear hK K)|refine WR fun K hK=>?_|refine HT ?_|refine WC (fun h=>?_) fun h=>?_|exact ff|fail)
     all_goals first|omega|(have JO:=Pe Oo;subst JO;rw[U7,Kl];exact G.Al (AA Ai) Au)
    ·have c62:((l:Int)==3)=false:=beq_eq_false_iff_ne.2 Zo;repeat'(first|exact tT|refine WA LM (Y3 c50 c62 AB) ?_ ?_|(refine EA Gw (Y3 c50 c62 AB) ?_;clear Gw)|(refine EA hF (Y3 c50 c62 AB) ?_;clear hF)|(refine HE ?_;clear hK K)|refine WR fun K hK=>?_|refine HT ?_|refine WC (fun h=>?_) fun h=>?_|exact ff|fail)
     all_goals first|omega|(refine⟨i+1,⟨⟨Zo,fun h=>FZ Oo h⟩,Zo⟩,?_⟩;rw[U7,Kl];exact G.Al (AA Ai) Au)
  ·have JO:i=n:=Zo
   subst JO;rw[HH rfl]at Gw;generalize Dl o x e i=b0 at*;generalize full.length - (at_ i).length=m at*;repeat'(first|exact tT|refine WA tT AB ?_ ?_|(refine EA Gw AB ?_;clear Gw)|(refine HE ?_;clear hK K)|refine WR fun K hK=>?_|refine HT ?_|refine WC (fun h=>?_) fun h=>?_|exact ff|fail)
   all_goals first|omega|exact G.Al (AA Ai) Au
 ·have c11:((l:Int)==2)=false:=beq_eq_false_iff_ne.2 Zo;refine FO 64 [.cell 4 27] Tryz.func139 Tryz.ntmps139 fun B w0 Y R Am Az hY AQ AW Aj hR=>?_;have AB:=fF AW AQ 4 5 6 9 22
  refine AI ⟨[(4,.p 4 0)],(4,.box 27 (.AF (A1 (Dl o x e n))))::(CO full (full.length - (at_ n).length) en++Y)⟩ ER ?_;repeat'(first|exact tT|refine WA tT (Y3 c11 c26 AB) ?_ ?_|(refine EA bW (Y3 c11 c26 AB) ?_;clear bW)|(refine HE ?_;clear hK K)|refine WR fun K hK=>?_|refine HT ?_|refine WC (fun h=>?_) fun h=>?_|exact ff|fail)
  all_goals first|omega|skip
  refine AM (α:=Nat) (fun i=>⟨[(0,.p 1000 0),(1,AE (l:Int)),(4,.p 4 0),(6,.p 6 0)],[(6,.box 27 (.AF (A1 (Dl o x e i)))),(4,zB)]++(CO full (full.length - (at_ i).length) en++Y)⟩) (fun i=>i≤n∧(i=n→Nc l (at_ n)=none)) (fun i=>n - i) 0 ⟨Nat.zero_le _,fun h=>by rcases CB with ⟨_,h1⟩|h1;omega;exact h1⟩ (G.Al (AA Ai) Au) fun i hi=>?_;obtain⟨Hz,HH⟩:=hi;obtain⟨LL,VG⟩:=hd i Hz;have Gw:=OP full _ en _ LL l hl;by_cases Ak:i<n
  ·obtain⟨ue,ho2,ho3,la⟩:=E4 i Ak;obtain⟨TU,hs2⟩:=TZ i Ak LL;rw[ue]at Gw;obtain⟨t,tl,ht⟩:=TX i Ak;have OU:=hx i Ak;have hlen:(at_ i).length=tl.length+1:=by rw[ht];rfl
   have oo:(at_ i).tail=tl:=by rw[ht];rfl
   have lF:=LL;rw[ht]at lF;obtain⟨th,_,h4⟩:=AG lF;rw[show(t::tl).length=(at_ i).length by rw[ht]]at th h4;rw[oo]at la OU;have LM:=aZ (o i) (Dl o x e i) (x i) ho2 ho3;have Kh:mkBin (o i) (Dl o x e i) (x i)=Dl o x e (i+1):=rfl;rw[Kh]at LM;have Pe:l=3→i+1=n:=fun h=>by have:=h3 h;omega
   have FZ:l≠3→i+1=n→Nc l (at_ n)=none:=fun h1 _=>by rcases CB with ⟨h2,_⟩|h2;exact absurd h2 h1;exact h2
   generalize U7:Dl o x e (i+1)=b1 at*;generalize Dl o x e i=b0 at*;generalize yb:full.length - (at_ i).length=m at*;generalize Kl:full.length - (at_ (i+1)).length=m1 at*;by_cases hdiv:o i=LJ
   ·obtain⟨t2,v,h5,h6,h7⟩:=la hdiv;rw[h5]at h4;have LN:=L1 full _ en _ _ v h4 BF h6;rw[←h7]at LN
    have bK:m+1+1=m1:=by
     obtain⟨h8,_,h9⟩:=AG h4;have:=IZ h9 Zo;omega
    rw[bK]at LN;have c50:decide (o i=⟨#[47]⟩)=true:=Zde hdiv;generalize o i=oi at*;generalize x i=xi at*;by_cases Oo:l=3
    ·have c62:((l:Int)==3)=true:=by rw[Oo];rfl
     repeat'(first|exact tT|refine WA LM (Y3 c50 c62 AB) ?_ ?_|(refine EA Gw (Y3 c50 c62 AB) ?_;clear Gw)|(refine EA LN (Y3 c50 c62 AB) ?_;clear LN)|(refine HE ?_;clear hK K)|refine WR fun K hK=>?_|refine HT ?_|refine WC (fun h=>?_) fun h=>?_|exact ff|fail)
     all_goals first|omega|(have JO:=Pe Oo;subst JO;rw[U7,Kl];exact G.Al (AA Ai) Au)
    ·have c62:((l:Int)==3)=false:=beq_eq_false_iff_ne.2 Zo;repeat'(first|exact tT|refine WA LM (Y3 c50 c62 AB) ?_ ?_|(refine EA Gw (Y3 c50 c62 AB) ?_;clear Gw)|(refine EA LN (Y3 c50 c62 AB) ?_;clear LN)|(refine HE ?_;clear hK K)|refine WR fun K hK=>?_|refine HT ?_|refine WC (fun h=>?_) fun h=>?_|exact ff|fail)
     all_goals first|omega|(refine⟨i+1,⟨⟨Zo,fun h=>FZ Oo h⟩,Zo⟩,?_⟩;rw[U7,Kl];exact G.Al (AA Ai) Au)
   ·obtain⟨h5,h6,hF⟩:=OU hdiv _ Zo h4;rw[Kl]at hF;have c50:decide (o i=⟨#[47]⟩)=false:=Zdf hdiv;generalize o i=oi at*;generalize x i=xi at*;by_cases Oo:l=3
    ·have c62:((l:Int)==3)=true:=by rw[Oo];rfl
     repeat'(first|exact tT|refine WA LM (Y3 c50 c62 AB) ?_ ?_|(refine EA Gw (Y3 c50 c62 AB) ?_;clear Gw)|(refine EA hF (Y3 c50 c62 AB) ?_;clear hF)|(refine HE ?_;clear hK K)|refine WR fun K hK=>?_|refine HT ?_|refine WC (fun h=>?_) fun h=>?_|exact ff|fail)
     all_goals first|omega|(have JO:=Pe Oo;subst JO;rw[U7,Kl];exact G.Al (AA Ai) Au)
    ·have c62:((l:Int)==3)=false:=beq_eq_false_iff_ne.2 Zo;repeat'(first|exact tT|refine WA LM (Y3 c50 c62 AB) ?_ ?_|(refine EA Gw (Y3 c50 c62 AB) ?_;clear Gw)|(refine EA hF (Y3 c50 c62 AB) ?_;clear hF)|(refine HE ?_;clear hK K)|refine WR fun K hK=>?_|refine HT ?_|refine WC (fun h=>?_) fun h=>?_|exact ff|fail)
     all_goals first|omega|(refine⟨i+1,⟨⟨Zo,fun h=>FZ Oo h⟩,Zo⟩,?_⟩;rw[U7,Kl];exact G.Al (AA Ai) Au)
  ·have JO:i=n:=Zo
   subst JO;rw[HH rfl]at Gw;generalize Dl o x e i=b0 at*;generalize full.length - (at_ i).length=m at*;repeat'(first|exact tT|refine WA tT AB ?_ ?_|(refine EA Gw AB ?_;clear Gw)|(refine HE ?_;clear hK K)|refine WR fun K hK=>?_|refine HT ?_|refine WC (fun h=>?_) fun h=>?_|exact ff|fail)
   all_goals first|omega|exact G.Al (AA Ai) Au
end
theorem Wo{o:Nat→ByteArray}{x:Nat→Nd}{e:Nd}: ∀ {n:Nat},Cz (Dl o x e n)→Cz e∧ ∀i,i<n→Cz (x i)
 |0,h=>⟨h,fun i hi=>absurd hi Zo⟩
 |n+1,h=>by
  have hk:=h.spec.kids;have h1:Cz (Dl o x e n):=hk.nth (k:=0) (by show 0<2;decide);have h2:Cz (x n):=hk.nth (k:=1) (by show 1<2;decide);obtain⟨h3,h4⟩:=Wo h1;refine⟨h3,fun i hi=>?_⟩;by_cases e:i=n
  ·rw[e];exact h2
  ·exact h4 i Zo
theorem Qw{s:ByteArray}(h:Eu s=true):s=bA [119,101,101,107,100,97,121]∨s=bA [100,97,121]∨s=bA [109,111,110,116,104]∨s=bA [121,101,97,114]:=by
 unfold Eu at h;simp only[Bool.or_eq_true,Zdt]at h;rcases h with ((h|h)|h)|h
 ·exact .inl h
 ·exact .inr (.inl h)
 ·exact .inr (.inr (.inl h))
 ·exact .inr (.inr (.inr h))
section
variable(full:List Tk)(en:Int)(BF:full.length≤2000)
include BF
theorem sG{l:Nat}{ts r:List Tk}{e:Nd}(h:CU l ts e r):Cz e→F6 139 full en [AE (l:Int)] ts e r:=by
 induction h with
 |not h ih=>exact fun Ae=>nk full en BF (ih (Ae.spec.kids.nth (k:=0) (by show 0<1;decide)))
 |yy hl hn h0 h3 E4 hx CB ih0 ihx=>
  intro Ae;obtain⟨h1,h2⟩:=Wo Ae;exact sF full en BF hl hn (ih0 h1) h3 E4 (fun i hi hd=>ihx i hi hd (h2 i hi)) CB
 |num ht hm=>exact fun _=>C6 full en BF (jb full en BF ht hm)
 |min ht hm=>exact fun _=>C6 full en BF (jc full en BF ht hm)
 |cur ht hu=>exact fun _=>C6 full en BF (jd full en BF ht hu)
 |name ht=>exact fun _=>C6 full en BF (dM full en BF ht)
 | @pc b r=>
  intro _;cases b with
  |true=>exact C6 full en BF (Dn full en BF Zd Zd Zd (dN full en BF))
  |false=>exact C6 full en BF (Dn full en BF Zd Zd Zd (Yq full en BF))
 |va ht=>exact fun _=>C6 full en BF (Dn full en BF Zd Zd Zd (je full en BF ht))
 |date hs=>
  intro _;rcases Qw hs with rfl|rfl|rfl|rfl
  ·exact C6 full en BF (Dn full en BF Zd Zd Zd (Ub full en BF))
  ·exact C6 full en BF (Dn full en BF Zd Zd Zd (jf full en BF))
  ·exact C6 full en BF (Dn full en BF Zd Zd Zd (Yr full en BF))
  ·exact C6 full en BF (Dn full en BF Zd Zd Zd (dO full en BF))
 |paren h ht ih=>exact fun Ae=>C6 full en BF (Dn full en BF Zd Zd Zd (Ys full en BF (Kd full en BF (ih Ae)) ht))
 | @call s ts r e n at_ x t hs h0 hn hc hx CB ht ih0 ihx=>
  intro Ae;have hk:=Ae.spec.kids;have hlen:(Nf s (e::(List.range n).map x)).kids.length=n+1:=by show(e::(List.range n).map x).length=n+1;simp
  have h1:Cz e:=hk.nth (k:=0) (by rw[hlen];omega)
  have h2: ∀i,i<n→Cz (x i):=fun i hi=>by
   have:=hk.nth (k:=i+1) (by rw[hlen];omega)
   have e2:(Nf s (e::(List.range n).map x)).kids.getD (i+1) default=x i:=by
    show(e::(List.range n).map x).getD (i+1) default=x i;simp[Zlg,hi]
   rw[e2]at this;exact this
  have XN:=Ov full en BF (s:=s) (Kd full en BF (ih0 h1)) hn hc (fun i hi=>Kd full en BF (ihx i hi (h2 i hi))) CB ht;rcases hs with rfl|rfl
  ·exact C6 full en BF (Dn full en BF Zd Zd Zd (Yt full en BF XN))
  ·exact C6 full en BF (Dn full en BF Zd Zd Zd (R0 full en BF XN))
 |table h ht hp hu hd hs ih=>
  intro Ae;exact C6 full en BF (Dn full en BF Zd Zd Zd (Yu full en BF (dR full en BF (Kd full en BF (ih (Ae.spec.kids.nth (k:=0) (by show 0<1;decide)))) ht hp hu hd hs Ae.spec.ps.1)))
theorem vi{ts r:List Tk}{e:Nd}(h:CU 0 ts e r)(Ae:Cz e):F6 119 full en [] ts e r:=Kd full en BF (sG full en BF h Ae)
set_option maxHeartbeats 8000000 in
theorem vj{kd k1:Int}{ts r:List Tk}{e:Nd}{t:Tk}(J1:kd=6∨kd=8)(h:F6 119 full en [] ts e (t::r))(ht:t.text=Gi)(s:ByteArray):F6 91 full en [AE kd] (⟨k1,s⟩::ts) (Qt kd [e]) r:=by
 intro k E5 hk;obtain⟨FM,_,d1⟩:=AG hk;obtain⟨d2,Ak,hF⟩:=h _ Zo d1;have hmk:k+1<full.length - (t::r).length:=by have:=IZ d1 Zo;have h2:=congrArg List.length d2;rw[List.length_drop]at h2;simp only[List.length_cons]at Ak h2 ⊢;omega
 obtain⟨El,_,d3⟩:=AG d2;refine E2 hk d3 Zo ?_;have e1:=Cq full k en _ _ hk;have e2:=Ax full _ en _ _ d2 BF _ ht;have c19:(kd==7)=false:=beq_eq_false_iff_ne.2 Zo;have Ct:=Ib true [e];rw[Ia]at Ct;generalize full.length - (t::r).length=m at*;refine FO 32 [.cell 4 27] Tryz.func91 Tryz.ntmps91 fun B w0 Y R Am Az hY AQ AW Aj hR=>?_;have AB:=Il AW AQ 4 5 27
 refine AI ⟨[(4,.p 4 0)],(4,.box 27 (.AF (A1 (Qt kd [e]))))::(CO full (m+1) en++Y)⟩ ER ?_;repeat'(first|exact tT|refine WA tT (Y2 c19 AB) ?_ ?_|(refine EA e1 (Y2 c19 AB) ?_;clear e1)|(refine EA hF (Y2 c19 AB) ?_;clear hF)|(refine EA e2 (Y2 c19 AB) ?_;clear e2)|(refine HE ?_;clear hK K)|refine WR fun K hK=>?_|refine HT ?_|refine WC (fun h=>?_) fun h=>?_|exact ff|fail)
 all_goals first|omega|(exact LV)
theorem ae{t:Tk}{r:List Tk}{n:Int}(ht:DU 1 t=some n):F6 118 full en [] (t::r) (mkNum AZ n) r:=by
 intro k E5 hk;obtain⟨FM,_,d1⟩:=AG hk;exact E2 hk d1 Zo (L1 full k en t r n hk BF ht)
set_option maxHeartbeats 8000000 in
theorem vk{k1:Int}{n:Nat}{at_:Nat→List Tk}{x:Nat→Int}{t u:Tk}{m0:Int}{r:List Tk}(s:ByteArray)(h0:DU 1 t=some m0)(hc: ∀i,i<n→A4 Cp (at_ i)=true∧ ∃v,(at_ i).tail=v::at_ (i+1)∧DU 1 v=some (x i))(CB:at_ n=u::r)(hu:u.text=Gi):
  F6 91 full en [AE 7] (⟨k1,s⟩::t::at_ 0) (Qt 7 (mkNum AZ m0::(List.range n).map fun i=>mkNum AZ (x i))) r:=by
 intro k E5 hk;obtain⟨FM,_,d1⟩:=AG hk;have tv:A4 Cp (at_ n)=false:=by rw[CB];unfold A4;show decide (u.text=Cp)=false;rw[hu];decide
 obtain⟨⟨d2,Ak,LK⟩,hL⟩:=aa (r:= []) full en BF 118 (ts:=t::at_ 0) (e:=mkNum AZ m0) (at_:=at_) (x:=fun i=>mkNum AZ (x i)) (n:=n) (ae full en BF h0) (fun i hi=>(hc i hi).1) (fun i hi=>by obtain⟨_,v,h1,h2⟩:=hc i hi;rw[h1];exact ae full en BF h2) tv _ Zo d1;rw[CB]at d2 Ak hL;obtain⟨El,_,d3⟩:=AG d2;have hmk:k+1<full.length - (u::r).length:=by have h2:=congrArg List.length d2;have h3:=congrArg List.length d1;rw[List.length_drop]at h2 h3;omega
 refine E2 hk d3 Zo ?_;have e1:=Cq full k en _ _ hk;have e2:=Ax full _ en _ _ d2 BF _ hu;have Ct:=AR.refl (CS (mkNum AZ m0::(List.range n).map fun i=>mkNum AZ (x i)));generalize (mkNum AZ m0::(List.range n).map fun i=>mkNum AZ (x i))=L at*;generalize full.length - (u::r).length=m at*;refine FO 32 [.cell 4 27] Tryz.func91 Tryz.ntmps91 fun B w0 Y R Am Az hY AQ AW Aj hR=>?_;have AB:=Il AW AQ 4 5 27
 refine AI ⟨[(4,.p 4 0)],(4,.box 27 (.AF (A1 (Qt 7 L))))::(CO full (m+1) en++Y)⟩ ER ?_;repeat'(first|exact tT|refine WA tT AB ?_ ?_|(refine EA e1 AB ?_;clear e1)|(refine EA hL AB ?_;clear hL)|(refine EA e2 AB ?_;clear e2)|(refine HE ?_;clear hK K)|refine WR fun K hK=>?_|refine HT ?_|refine WC (fun h=>?_) fun h=>?_|exact ff|fail)
 all_goals first|omega|(exact LV)
theorem Yw{ts r:List Tk}{c:Nd}(h:IY ts c r)(Ae:Cz c): ∃(k1:Int) (tl:List Tk),ts=⟨k1,Wi c.kind⟩::tl∧F6 91 full en [AE c.kind] ts c r:=by
 cases h with
 | @ex k ts r e kd t hk h ht=>exact⟨k,ts,rfl,vj full en BF hk (vi full en BF h (Ae.spec.kids.nth (k:=0) (by show 0<1;decide))) ht _⟩
 | @un k n at_ x t u m r h0 hc CB hu=>exact⟨k,t::at_ 0,rfl,vk full en BF _ h0 hc CB hu⟩
end
end Go.Proofs.YthemnhjojaehhaaGreatDoor
