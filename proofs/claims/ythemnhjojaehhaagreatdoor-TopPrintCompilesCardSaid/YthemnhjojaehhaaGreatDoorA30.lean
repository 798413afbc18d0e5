/- Part of a proof. -/
import Derived.Test.YthemnhjojaehhaaGreatDoorA29
set_option linter.all false
namespace Go.Proofs.YthemnhjojaehhaaGreatDoor
open Go.Ad Go.Proofs Go.Tp
attribute [local irreducible] A8 AK BY Go.Ad.Pure BS
theorem GA(a:List UInt8):bl ⟨a.toArray⟩=a:=rfl
theorem Eh(s t:ByteArray):s++t=⟨(bl s++bl t).toArray⟩:=by
 rw[←GW]
set_option maxRecDepth 100000 in
set_option maxHeartbeats 4000000 in
theorem Yn(l:List Int)(e:Nd)(Ae:Cz e)(h0:0≤e.n)(h1:e.n≤999999999999)(hn:l.length+(WG e).length≤1000000):BS Tryz.prog T 106 [.p 1000 0,.a (A1 e)] (FL l) (.t []) (FL (l++zl (WG e))):=by
 have Ph:=Ae.spec.u;unfold WG at hn ⊢;by_cases u1:e.u=Aa
 ·have q1:decide (e.u=⟨#[116,114,117,116,104]⟩)=true:=Zde u1;rw[if_pos u1]at hn ⊢
  have hb:Sv (e.n==1)=if e.n=1 then [116,114,117,101]else [102,97,108,115,101]:=by
   unfold Sv;simp
  rw[←hb]at hn ⊢;have hf:=rW (e.n==1);have hw:=Ah l (Sv (e.n==1)) hn;refine FO 46 [] Tryz.func106 Tryz.ntmps106 fun B w0 Y R Am Az hY AQ AW Aj hR=>?_;have AB:=FI AW AQ 3
  refine BG ⟨[],FL (l++zl (Sv (e.n==1)))++Y⟩ ES ?_;repeat'(first|exact tT|refine WA hf (Y2 q1 AB) ?_ ?_|refine WB (Y2 q1 AB) ?_ ?_|refine EO hw (Y2 q1 AB) ?_|(refine HE ?_;clear hK K)|refine WN fun K hK=>?_|refine WD fun K hK=>?_|refine WR fun K hK=>?_|refine HT ?_|refine WC (fun h=>?_) fun h=>?_|exact ff|fail)
  all_goals exact G.Al (AA Ai) Au
 have q1:decide (e.u=⟨#[116,114,117,116,104]⟩)=false:=Zdf u1;rw[if_neg u1]at hn ⊢;have hi:=D6 e.n h0 Zo;have Gu:=Bn (k:=20) (n:=e.n.toNat) Zo Zo;by_cases u2:e.u=AZ
 ·have q2:decide (e.u=⟨#[110,117,109,98,101,114]⟩)=true:=Zde u2;rw[if_pos u2]at hn ⊢;have hw:=Ah l (CL e.n.toNat) hn;refine FO 46 [] Tryz.func106 Tryz.ntmps106 fun B w0 Y R Am Az hY AQ AW Aj hR=>?_;have AB:=FI AW AQ 3
  refine BG ⟨[],FL (l++zl (CL e.n.toNat))++Y⟩ ES ?_;repeat'(first|exact tT|refine WA hi (Y3 q1 q2 AB) ?_ ?_|refine WB (Y3 q1 q2 AB) ?_ ?_|refine EO hw (Y3 q1 q2 AB) ?_|(refine HE ?_;clear hK K)|refine WN fun K hK=>?_|refine WD fun K hK=>?_|refine WR fun K hK=>?_|refine HT ?_|refine WC (fun h=>?_) fun h=>?_|exact ff|fail)
  all_goals exact G.Al (AA Ai) Au
 have q2:decide (e.u=⟨#[110,117,109,98,101,114]⟩)=false:=Zdf u2;rw[if_neg u2]at hn ⊢;by_cases u3:e.u=BH
 ·have q3:decide (e.u=⟨#[109,105,110,117,116,101,115]⟩)=true:=Zde u3;rw[if_pos u3]at hn ⊢;have hw:=Ah l (CL e.n.toNat++ [32,109,105,110]) hn;generalize CL e.n.toNat=t at*;refine FO 46 [] Tryz.func106 Tryz.ntmps106 fun B w0 Y R Am Az hY AQ AW Aj hR=>?_;have AB:=FI AW AQ 3
  refine BG ⟨[],FL (l++zl (t++ [32,109,105,110]))++Y⟩ ES ?_;repeat' (first|((first|refine sC hT fun K' AX=>?_|refine oC fun K' AX=>?_);push_cast[q1,q2,q3,Eh,GA,DS,List.length_append,List.length_cons,List.length_nil,List.cons_append,List.nil_append,AB];(try simp (disch:=omega) only[wrap64,Int.toNat_natCast]);(repeat refine AS ?_ ?_);(first|refine AX _ ?_|((first|apply OY|(apply OZ;exact gd)|apply QL);(try intro hb);(first|exact hi);exact fC;refine AX _ ?_)|refine⟨.v (.int .i64 0),AX _ ?_⟩);clear AX K')|(refine FT hT rfl (by simp only[As,Nat.reduceLT]) fun K' AX=>?_;push_cast[q1,q2,q3,Eh,GA,DS,List.length_append,List.length_cons,List.length_nil,List.cons_append,List.nil_append,AB];(try simp (disch:=omega) only[wrap64,Int.toNat_natCast]);(repeat refine AS ?_ ?_);refine AX _ ?_;clear AX K')|((first|refine fO hT Am fun K' AX=>?_|refine yp hT Am fun K' AX=>?_);push_cast[q1,q2,q3,Eh,GA,DS,List.length_append,List.length_cons,List.length_nil,List.cons_append,List.nil_append,AB];(repeat refine AS ?_ ?_);refine⟨_,_,_,(by first|exact hw),(by first|rfl|(simp[Oa,AN.C9,AV.DB,AV.C9,Es,Af];done)),Zk,(by repeat(first|exact Mc|exact KM hY Zk|refine KN (by first|(simp[AN.C9,AV.DB,AV.C9,Es,LU,Af];done)|rfl) ?_)),(by repeat(first|exact trivial|refine⟨rfl,?_⟩)),?_⟩;push_cast[q1,q2,q3,Eh,GA,DS,List.length_append,List.length_cons,List.length_nil,List.cons_append,List.nil_append,AB,List.cons_append,List.nil_append];refine AX _ ?_;clear AX K')|(refine sK hT ?_;simp only[St.put])|((first|refine A9 (hK _ ?_)|refine Bk (hK _ ?_));clear hK K;push_cast[AB])|((first|apply Bs|apply B5|apply CG|apply Cl);push_cast[AB])|refine CH fun K hK=>?_|refine Fm fun K hK=>?_|refine x9 hT hm _ rfl ZD (fun K hK=>?_) ZD|refine yA hT hm _ rfl ZD (fun K hK=>?_) ZD|(refine Bk ?_;show AK _ _ _ _ _ _ _ _)|refine dQ hT hm fun K hK=>?_|refine dL hT hm fun K hK=>?_|apply Bq|apply Br|apply CR|(refine B6 _ rfl (fun h=>?_) (fun h=>?_)<;>simp only[VC,reduceCtorEq]at h))
  all_goals try exact ff
  all_goals first|omega|skip
  all_goals exact G.Al (AA Ai) Au
 ·have q3:decide (e.u=⟨#[109,105,110,117,116,101,115]⟩)=false:=Zdf u3;rw[if_neg u3]at hn ⊢;have hd:=Ya e.n Zo Zo;have hw:=Ah l (bl e.u++32::Tp.Gf e.n) hn;have On:(bl e.u).length=e.u.size:=rfl;simp only[List.length_append,List.length_cons]at hn;generalize Tp.Gf e.n=t at*;refine FO 46 [] Tryz.func106 Tryz.ntmps106 fun B w0 Y R Am Az hY AQ AW Aj hR=>?_;have AB:=FI AW AQ 3
  refine BG ⟨[],FL (l++zl (bl e.u++32::t))++Y⟩ ES ?_;repeat' (first|((first|refine sC hT fun K' AX=>?_|refine oC fun K' AX=>?_);push_cast[q1,q2,q3,Eh,GA,DS,List.length_append,List.length_cons,List.length_nil,List.cons_append,List.nil_append,List.append_assoc,AB];(try simp (disch:=omega) only[wrap64,Int.toNat_natCast]);(repeat refine AS ?_ ?_);(first|refine AX _ ?_|((first|apply OY|(apply OZ;exact gd)|apply QL);(try intro hb);(first|exact hd);exact fC;refine AX _ ?_)|refine⟨.v (.int .i64 0),AX _ ?_⟩);clear AX K')|(refine FT hT rfl (by simp only[As,Nat.reduceLT]) fun K' AX=>?_;push_cast[q1,q2,q3,Eh,GA,DS,List.length_append,List.length_cons,List.length_nil,List.cons_append,List.nil_append,List.append_assoc,AB];(try simp (disch:=omega) only[wrap64,Int.toNat_natCast]);(repeat refine AS ?_ ?_);refine AX _ ?_;clear AX K')|((first|refine fO hT Am fun K' AX=>?_|refine yp hT Am fun K' AX=>?_);push_cast[q1,q2,q3,Eh,GA,DS,List.length_append,List.length_cons,List.length_nil,List.cons_append,List.nil_append,List.append_assoc,AB];(repeat refine AS ?_ ?_);refine⟨_,_,_,(by first|exact hw),(by first|rfl|(simp[Oa,AN.C9,AV.DB,AV.C9,Es,Af];done)),Zk,(by repeat(first|exact Mc|exact KM hY Zk|refine KN (by first|(simp[AN.C9,AV.DB,AV.C9,Es,LU,Af];done)|rfl) ?_)),(by repeat(first|exact trivial|refine⟨rfl,?_⟩)),?_⟩;push_cast[q1,q2,q3,Eh,GA,DS,List.length_append,List.length_cons,List.length_nil,List.cons_append,List.nil_append,List.append_assoc,AB,List.cons_append,List.nil_append];refine AX _ ?_;clear AX K')|(refine sK hT ?_;simp only[St.put])|((first|refine A9 (hK _ ?_)|refine Bk (hK _ ?_));clear hK K;push_cast[AB])|((first|apply Bs|apply B5|apply CG|apply Cl);push_cast[AB])|refine CH fun K hK=>?_|refine Fm fun K hK=>?_|refine x9 hT hm _ rfl ZD (fun K hK=>?_) ZD|refine yA hT hm _ rfl ZD (fun K hK=>?_) ZD|(refine Bk ?_;show AK _ _ _ _ _ _ _ _)|refine dQ hT hm fun K hK=>?_|refine dL hT hm fun K hK=>?_|apply Bq|apply Br|apply CR|(refine B6 _ rfl (fun h=>?_) (fun h=>?_)<;>simp only[VC,reduceCtorEq]at h))
  all_goals try exact ff
  all_goals first|omega|skip
  all_goals exact G.Al (AA Ai) Au
theorem Mv{n:Int}(h0:0≤n)(h1:n≤99):(Rr n).length≤21:=by
 have:=Bn (k:=20) (n:=n.toNat) Zo Zo;unfold Rr;split
 ·simp;omega
 ·omega
theorem JI{d:Int}(h:0≤d∧d≤36524):(DY d).length≤70:=by
 obtain⟨⟨h1,h2,h3,h4⟩,_⟩:=KV h.1 h.2;have hl:=IX (B9 d).1 ((B9 d).2.1 - 1).toNat Zo;have a:=Mv (n:=(B9 d).2.1) Zo Zo;have b:=Mv (n:=(B9 d).2.2) Zo Zo;have c:=Bn (k:=20) (n:=(B9 d).1.toNat) Zo Zo;unfold DY;simp only[List.length_append,List.length_cons];omega
theorem K5(d:Int)(h:0≤d∧d≤36524):Pure Tryz.prog 48 [AE d] (An ⟨(DY d).toArray⟩):=by
 have hv:=po d h;have hd:=nS d h;obtain⟨⟨h1,h2,h3,h4⟩,_⟩:=KV h.1 h.2;have hl:=IX (B9 d).1 ((B9 d).2.1 - 1).toNat Zo;unfold DY;generalize (B9 d).1=y at*;generalize (B9 d).2.1=m at*;generalize (B9 d).2.2=n at*;have hi:=D6 y Zo Zo;have bK:=jR m Zo Zo;have LK:=jR n Zo Zo;have a:=Mv (n:=m) Zo Zo;have b:=Mv (n:=n) Zo Zo;have c:=Bn (k:=20) (n:=y.toNat) Zo Zo;generalize CL y.toNat=t1 at*;generalize Rr m=t2 at*;generalize Rr n=t3 at*;rw[show t1++45::t2++45::t3=t1++45::(t2++45::t3) by simp];refine PO 25 [.tmp 2] hT Tryz.func48 Tryz.ntmps48 fun B w0=>?_;repeat'(first|exact tT|refine WS (Y5 hv hd hi bK LK) tT ?_ ?_|(refine PE ?_;clear hK K)|refine WN fun K hK=>?_|refine WD fun K hK=>?_|refine WR fun K hK=>?_|refine PT ?_|refine WC (fun h=>?_) fun h=>?_|exact ff|fail)
 all_goals first|omega|rfl
theorem UX(q:Int)(h:0≤q∧q≤1000):Pure Tryz.prog 169 [AE (2000+q)] (AE (q*365+(q+3) / 4)):=by
 have e1:(2000+q) - 2000=q:=Zo
 have e2:(q+3).tdiv 4=(q+3) / 4:=Int.tdiv_eq_ediv_of_nonneg Zo;refine PO 12 [.tmp 2] hT Tryz.func169 Tryz.ntmps169 fun B w0=>?_;repeat'(first|exact tT|refine WA tT (Y2 e1 e2) ?_ ?_|(refine PE ?_;clear hK K)|refine WN fun K hK=>?_|refine WD fun K hK=>?_|refine WR fun K hK=>?_|refine PT ?_|refine WC (fun h=>?_) fun h=>?_|exact ff|fail)
 all_goals first|omega|rfl
set_option maxRecDepth 100000 in
theorem jS(mo:Int)(h:0≤mo∧mo≤1199):Pure Tryz.prog 161 [AE mo] (AE (Hp mo)):=by
 have q1:=DF (mo<0);have q2:=DF ((1199:Int)<mo);have e1:mo.tdiv 12=mo / 12:=Int.tdiv_eq_ediv_of_nonneg h.1;have e2:mo.tmod 12=mo%12:=Int.tmod_eq_emod_of_nonneg h.1;have hy:=UX (mo / 12) Zo;have b1:=K4 (mo%12).toNat Zo;have w4:0≤mo%12∧mo%12<13:=Zo
 have e3:(2000+mo / 12).tmod 4=(2000+mo / 12)%4:=Int.tmod_eq_emod_of_nonneg Zo;have hyb:0≤mo / 12∧mo / 12≤100:=Zo
 unfold Hp;generalize mo / 12=y at*;generalize mo%12=m at*;by_cases h1:1<m
 ·have c1:decide ((1:Int)<m)=true:=Zde h1;by_cases h2:(2000+y)%4=0
  ·have c2:((2000+y)%4==0)=true:=by rw[h2];rfl
   rw[if_pos ⟨h1,h2⟩];refine PO 32 [.tmp 2] hT Tryz.func161 Tryz.ntmps161 fun B w0=>?_;repeat'(first|exact tT|refine WA hy (Y7 q1 q2 e1 e2 e3 c1 c2) ?_ ?_|(refine PE ?_;clear hK K)|refine WN fun K hK=>?_|refine WD fun K hK=>?_|refine WR fun K hK=>?_|refine PT ?_|refine WC (fun h=>?_) fun h=>?_|exact ff|fail)
   all_goals first|trivial|exact⟨trivial,Zo,Zo⟩|(show _<13;omega)|omega|rfl
  ·have c2:((2000+y)%4==0)=false:=beq_eq_false_iff_ne.2 h2;rw[if_neg (fun h=>h2 h.2),Int.add_zero];refine PO 32 [.tmp 2] hT Tryz.func161 Tryz.ntmps161 fun B w0=>?_;repeat'(first|exact tT|refine WA hy (Y7 q1 q2 e1 e2 e3 c1 c2) ?_ ?_|(refine PE ?_;clear hK K)|refine WN fun K hK=>?_|refine WD fun K hK=>?_|refine WR fun K hK=>?_|refine PT ?_|refine WC (fun h=>?_) fun h=>?_|exact ff|fail)
   all_goals first|trivial|exact⟨trivial,Zo,Zo⟩|(show _<13;omega)|omega|rfl
 ·have c1:decide ((1:Int)<m)=false:=Zdf h1;rw[if_neg (fun h=>h1 h.1),Int.add_zero];refine PO 32 [.tmp 2] hT Tryz.func161 Tryz.ntmps161 fun B w0=>?_;repeat'(first|exact tT|refine WA hy (Y6 q1 q2 e1 e2 e3 c1) ?_ ?_|(refine PE ?_;clear hK K)|refine WN fun K hK=>?_|refine WD fun K hK=>?_|refine WR fun K hK=>?_|refine PT ?_|refine WC (fun h=>?_) fun h=>?_|exact ff|fail)
  all_goals first|trivial|exact⟨trivial,Zo,Zo⟩|(show _<13;omega)|omega|rfl
theorem TD(mo:Int)(h:0≤mo∧mo≤1199):0≤Hp mo∧Hp mo≤100000:=by
 have b1:=K4 (mo%12).toNat Zo;unfold Hp;split<;>omega
set_option maxRecDepth 100000 in
theorem sA(y m d:Int)(h:Qm y m d):Pure Tryz.prog 150 [AE y,AE m,AE d] (.t [AE (cr y m d),AE 0]):=by
 obtain⟨hy,hmm,LL,VG⟩:=h;have hlm:=IX y (m - 1).toNat Zo;have hl:=aX y (m - 1).toNat Zo Zo;rw[show(((m - 1).toNat:Nat):Int)=m - 1 by omega]at hl;have hf:=jS ((y - 2000)*12+m - 1) Zo;have hfb:=TD ((y - 2000)*12+m - 1) Zo;have a1:=DF (y<2000);have a2:=DF ((2099:Int)<y);have a3:=DF (m<1);have a4:=DF ((12:Int)<m);have a5:=DF (d<1);have a6:=DF (IC y (m - 1).toNat<d);unfold cr;generalize Hp ((y - 2000)*12+m - 1)=F at*;generalize IC y (m - 1).toNat=L at*;refine PO 42 [.tmp 6,.tmp 7] hT Tryz.func150 Tryz.ntmps150 fun B w0=>?_;repeat'(first|exact tT|refine WA (Y2 hl hf) (Y6 a1 a2 a3 a4 a5 a6) ?_ ?_|(refine PE ?_;clear hK K)|refine WN fun K hK=>?_|refine WD fun K hK=>?_|refine WR fun K hK=>?_|refine PT ?_|refine WC (fun h=>?_) fun h=>?_|exact ff|fail)
 all_goals first|omega|rfl
abbrev U8(m:Int):AV:=.v (.int .u8 m)
theorem Wl{m:Int}{t:List UInt8}{i:Nat}(h:i<t.length):Fi m (t.drop i)=BP m (t.getD i 0):=by
 rw[List.drop_eq_getElem_cons h];simp[Fi,Zlg,h]
set_option maxRecDepth 100000 in
theorem JJ(s:ByteArray)(i:Nat)(m:Int)(hs:s.size≤1000000)(hi:i≤2000000)(hm0:0≤m∧m≤255):Pure Tryz.prog 112 [An s,AE (i:Int),U8 m] (BL (Fi m ((bl s).drop i))):=by
 have On:(bl s).length=s.size:=rfl;by_cases h1:i<s.size
 ·have c1:=DT ((i:Int)<(s.size:Int))
  have hb:(bl s).getD i 0=s.data.getD i 0:=by
   simp[bl,Zlg,Zag]
  rw[Wl Zo,hb];unfold BP;generalize RW:s.data.getD i 0=b at*;by_cases h2:b.toNat<128
  ·have c2:=DT ((b.toNat:Int)<128);have c3:decide (b.toNat<128)=true:=Zde h2;rw[c3];refine PO 27 [.tmp 6] hT Tryz.func112 Tryz.ntmps112 fun B w0=>?_;repeat'(first|exact tT|refine WA tT (Y3 c1 RW c2) ?_ ?_|(refine PE ?_;clear hK K)|refine WR fun K hK=>?_|refine PT ?_|refine WC (fun h=>?_) fun h=>?_|exact ff|fail)
   all_goals first|trivial|exact⟨trivial,Zo,Zo⟩|(show _<128;omega)|rfl
  ·have c2:=DF ((b.toNat:Int)<128);have c3:decide (b.toNat<128)=false:=Zdf h2;rw[c3];refine PO 27 [.tmp 6] hT Tryz.func112 Tryz.ntmps112 fun B w0=>?_;repeat'(first|exact tT|refine WA tT (Y3 c1 RW c2) ?_ ?_|(refine PE ?_;clear hK K)|refine WR fun K hK=>?_|refine PT ?_|refine WC (fun h=>?_) fun h=>?_|exact ff|fail)
   all_goals first|rfl
 ·have c1:=DF ((i:Int)<(s.size:Int));rw[List.drop_eq_nil_of_le Zo];refine PO 27 [.tmp 6] hT Tryz.func112 Tryz.ntmps112 fun B w0=>?_;repeat'(first|exact tT|refine WA tT c1 ?_ ?_|(refine PE ?_;clear hK K)|refine WR fun K hK=>?_|refine PT ?_|refine WC (fun h=>?_) fun h=>?_|exact ff|fail)
  all_goals rfl
theorem TE{m:Int}{t:List UInt8}{k:Nat}:(Fi m (t.drop k)=true→k<t.length∧Cy m (t.drop k)=1+Cy m (t.drop (k+1)))∧(Fi m (t.drop k)=false→Cy m (t.drop k)=0):=by
 rcases Nat.lt_or_ge k t.length with h|h
 ·rw[List.drop_eq_getElem_cons h];refine⟨fun hc=>⟨h,?_⟩,fun hc=>?_⟩
  ·simp only[Fi]at hc;unfold Cy;rw[List.takeWhile_cons,if_pos hc,List.length_cons];omega
  ·simp only[Fi]at hc;unfold Cy;rw[List.takeWhile_cons,if_neg (by rw[hc];decide)];rfl
 ·rw[List.drop_eq_nil_of_le h];exact⟨fun hc=>by simp[Fi]at hc,fun _=>rfl⟩
set_option maxRecDepth 100000 in
theorem Np(s:ByteArray)(i:Nat)(m:Int)(hs:s.size≤1000000)(hi:i≤s.size)(hm0:0≤m∧m≤255):Pure Tryz.prog 110 [An s,AE (i:Int),U8 m] (AE ((i+Cy m ((bl s).drop i):Nat):Int)):=by
 have On:(bl s).length=s.size:=rfl;generalize hr:i+Cy m ((bl s).drop i)=r at*;refine PO 14 [.tmp 6] hT Tryz.func110 Tryz.ntmps110 fun B w0=>?_;repeat'(first|exact tT|refine WA tT tT ?_ ?_|(refine PE ?_;clear hK K)|refine WR fun K hK=>?_|refine PT ?_|refine WC (fun h=>?_) fun h=>?_|exact ff|fail)
 refine AM (α:=Nat) (fun k=>⟨[(0,An s),(1,AE (k:Int)),(2,U8 m)],[]⟩) (fun k=>k≤s.size∧k+Cy m ((bl s).drop k)=r) (fun k=>s.size+1 - k) i ⟨hi,hr⟩ (by exact G.Al (AA Ai) Au) fun k hk=>?_;obtain⟨FM,El⟩:=hk;have ZW:=JJ s k m hs Zo hm0;have BE:=TE (m:=m) (t:=bl s) (k:=k);by_cases hc:Fi m ((bl s).drop k)=true
 ·obtain⟨h1,h2⟩:=BE.1 hc;rw[hc]at ZW;repeat'(first|exact tT|refine WA ZW tT ?_ ?_|(refine PE ?_;clear hK K)|refine WR fun K hK=>?_|refine PT ?_|refine WC (fun h=>?_) fun h=>?_|exact ff|fail)
  all_goals first|omega|skip
  all_goals (refine⟨k+1,⟨⟨Zo,Zo⟩,Zo⟩,?_⟩;exact G.Al (AA Ai) Au)
 ·have hc:Fi m ((bl s).drop k)=false:=by simpa using hc
  have h2:=BE.2 hc;rw[hc]at ZW;obtain rfl:k=r:=Zo
  repeat'(first|exact tT|refine WA ZW tT ?_ ?_|(refine PE ?_;clear hK K)|refine WR fun K hK=>?_|refine PT ?_|refine WC (fun h=>?_) fun h=>?_|exact ff|fail)
  all_goals first|rfl
theorem UY(s:ByteArray)(a b:Nat):bl (s.extract a b)=((bl s).take b).drop a:=by
 show(s.extract a b).data.toList=_;rw[ByteArray.data_extract,Array.toList_extract,List.extract_eq_take_drop,List.drop_take]
theorem jT{s t:ByteArray}:(s=t)↔bl s=bl t:=by
 constructor
 ·rintro rfl;rfl
 ·intro h;apply ByteArray.ext;exact Array.toList_inj.1 h
set_option maxRecDepth 100000 in
theorem nT(s p:ByteArray)(hs:s.size≤1000000)(hp:p.size≤1000000):Pure Tryz.prog 133 [An s,An p] (BL (Gz (bl p) (bl s))):=by
 have On:(bl s).length=s.size:=rfl;have zw:(bl p).length=p.size:=rfl;by_cases h1:p.size≤s.size
 ·have c1:=DT ((p.size:Int)≤(s.size:Int))
  have e1:Gz (bl p) (bl s)=decide (s.extract 0 p.size=p):=by
   unfold Gz;refine decide_eq_decide.2 ?_;rw[jT (s:=s.extract 0 p.size),UY,List.drop_zero,zw]
  rw[e1];refine PO 18 [.tmp 4] hT Tryz.func133 Tryz.ntmps133 fun B w0=>?_;repeat'(first|exact tT|refine WA tT c1 ?_ ?_|(refine PE ?_;clear hK K)|refine WR fun K hK=>?_|refine PT ?_|refine WC (fun h=>?_) fun h=>?_|exact ff|fail)
  all_goals first|rfl
 ·have c1:=DF ((p.size:Int)≤(s.size:Int))
  have e1:Gz (bl p) (bl s)=false:=by
   unfold Gz;refine Zdf fun h=>?_;have:=congrArg List.length h;simp at this;omega
  rw[e1];refine PO 18 [.tmp 4] hT Tryz.func133 Tryz.ntmps133 fun B w0=>?_;repeat'(first|exact tT|refine WA tT c1 ?_ ?_|(refine PE ?_;clear hK K)|refine WR fun K hK=>?_|refine PT ?_|refine WC (fun h=>?_) fun h=>?_|exact ff|fail)
  all_goals first|rfl
theorem jU(s p:ByteArray)(hs:s.size≤1000000)(hp:p.size≤1000000):Pure Tryz.prog 111 [An s,An p] (BL (Gz (bl p) (bl s))):=by
 have h:=nT s p hs hp;refine PO 8 [.tmp 4] hT Tryz.func111 Tryz.ntmps111 fun B w0=>?_;repeat'(first|exact tT|refine WA h tT ?_ ?_|(refine PE ?_;clear hK K)|refine WR fun K hK=>?_|refine PT ?_|refine WC (fun h=>?_) fun h=>?_|exact ff|fail)
 all_goals first|rfl
set_option maxRecDepth 100000 in
theorem aY(s:ByteArray)(i:Nat)(hs:s.size≤1000000)(hi:i≤s.size)(hc:Gz [47,47] (EK ((bl s).drop i))=false):Pure Tryz.prog 81 [An s,AE (i:Int)] (AE ((i+Cy 1 ((bl s).drop i):Nat):Int)):=by
 have hr:=Np s i 1 hs hi Zo;have On:(bl s).length=s.size:=rfl;have hle:=Jg 1 ((bl s).drop i);rw[List.length_drop,On]at hle;unfold EK at hc;rw[List.drop_drop]at hc;have AC8:i+Cy 1 ((bl s).drop i)≤s.size:=Zo
 generalize i+Cy 1 ((bl s).drop i)=r at*;have hp:=jU (s.extract r s.size) ⟨#[47,47]⟩ (by rw[ByteArray.size_extract];omega) Zd
 have e:Gz (bl ⟨#[47,47]⟩) (bl (s.extract r s.size))=false:=by
  rw[UY,←On,List.take_length];exact hc
 rw[e]at hp;have hrs:(r:Int)≤(s.size:Int):=Zo
 refine PO 25 [.tmp 4] hT Tryz.func81 Tryz.ntmps81 fun B w0=>?_;repeat'(first|exact tT|refine WA tT tT ?_ ?_|(refine PE ?_;clear hK K)|refine WR fun K hK=>?_|refine PT ?_|refine WC (fun h=>?_) fun h=>?_|exact ff|fail)
 refine AM (α:=Nat) (fun k=>⟨[(0,An s),(1,AE (i:Int))],[]⟩) (fun _=>True) (fun _=>1) 0 trivial (by exact G.Al (AA Ai) Au) fun k _=>?_;repeat'(first|exact tT|refine WA (Y2 hr hp) tT ?_ ?_|(refine PE ?_;clear hK K)|refine WR fun K hK=>?_|refine PT ?_|refine WC (fun h=>?_) fun h=>?_|exact ff|fail)
 all_goals first|omega|rfl
theorem Qo(s:ByteArray)(i j:Nat):((bl s).drop i).getD j 0=s.data.getD (i+j) 0:=by
 simp[bl,Zlg,Zag,List.getElem?_drop]
theorem Wm{l:List UInt8}{j:Nat}(hj:j<10)(h:Fj l j=false):DK l=false:=by
 unfold DK;rw[Bool.and_eq_false_iff];right;rw[List.all_eq_false];exact⟨j,List.mem_range.2 hj,by simp[h]⟩
set_option maxRecDepth 100000 in
set_option maxHeartbeats 4000000 in
theorem dJ(s:ByteArray)(i:Nat)(hs:s.size≤1000000)(hi:i≤s.size):Pure Tryz.prog 134 [An s,AE (i:Int)] (BL (DK ((bl s).drop i))):=by
 have On:(bl s).length=s.size:=rfl;by_cases h1:s.size - i<10
 ·have c1:=DT ((s.size:Int) - (i:Int)<10)
  have e:DK ((bl s).drop i)=false:=by
   unfold DK;rw[List.length_drop,On,Zdf Zo];rfl
  rw[e];refine PO 33 [.tmp 4] hT Tryz.func134 Tryz.ntmps134 fun B w0=>?_;repeat'(first|exact tT|refine WA tT c1 ?_ ?_|(refine PE ?_;clear hK K)|refine WR fun K hK=>?_|refine PT ?_|refine WC (fun h=>?_) fun h=>?_|exact ff|fail)
  all_goals first|omega|rfl
 have c1:=DF ((s.size:Int) - (i:Int)<10);have hD: ∀j,j<10→Fj ((bl s).drop i) j=false→DK ((bl s).drop i)=false:=fun j hj h=>Wm hj h
 have hTr:(∀j,j<10→Fj ((bl s).drop i) j=true)→DK ((bl s).drop i)=true:=fun h=>by
  unfold DK;rw[List.length_drop,On,Zde Zo,Bool.true_and,List.all_eq_true];exact fun j hj=>h j (List.mem_range.1 hj)
 generalize DK ((bl s).drop i)=R at*;refine PO 33 [.tmp 4] hT Tryz.func134 Tryz.ntmps134 fun B w0=>?_;repeat'(first|exact tT|refine WA tT c1 ?_ ?_|(refine PE ?_;clear hK K)|refine WR fun K hK=>?_|refine PT ?_|refine WC (fun h=>?_) fun h=>?_|exact ff|fail)
 all_goals first|omega|skip
 refine AM (α:=Nat) (fun j=>⟨[(11,AE (j:Int)),(0,An s),(1,AE (i:Int))],[]⟩) (fun j=>j≤10∧ ∀k,k<j→Fj ((bl s).drop i) k=true) (fun j=>11 - j) 0 ⟨Zo,fun k hk=>by omega⟩ (by exact G.Al (AA Ai) Au) fun j hj=>?_;obtain⟨hj1,ov⟩:=hj;by_cases Ak:j<10
 ·have c2:=DT ((j:Int)<10);have ZW:=JJ s (i+j) 8 hs Zo Zo;rw[Wl Zo,show(bl s).getD (i+j) 0=s.data.getD (i+j) 0 by have:=Qo s 0 (i+j);simpa using this]at ZW;rw[show(((i+j:Nat)):Int)=(i:Int)+(j:Int) by omega]at ZW;have N3:=Qo s i j;have hx:((i:Int)+(j:Int)).toNat=i+j:=Zo
  have yV:((i:Int)+4).toNat=i+4:=Zo
  have yW:((i:Int)+7).toNat=i+7:=Zo
  have nx: ∀k,k<j+1→Fj ((bl s).drop i) k=true∨k=j:=fun k hk=>by
   rcases Nat.lt_or_ge k j with h|h
   ·exact .inl (ov k h)
   ·exact .inr Zo
  generalize RW:s.data.getD (i+j) 0=b at*;by_cases h4:j=4∨j=7
  ·have ky:Fj ((bl s).drop i) j=decide (b=45):=by unfold Fj;rw[if_pos h4,N3]
   by_cases hb:b=45
   ·have c3:((b.toNat:Int) != 45)=false:=by rw[hb];rfl
    have LL:Fj ((bl s).drop i) j=true:=by rw[ky];exact Zde hb
    rcases h4 with rfl|rfl
    ·repeat'(first|exact tT|refine WA tT (Y6 c2 hx yV yW RW c3) ?_ ?_|(refine PE ?_;clear hK K)|refine WR fun K hK=>?_|refine PT ?_|refine WC (fun h=>?_) fun h=>?_|exact ff|fail)
     all_goals first|omega|skip
     all_goals (refine⟨5,⟨⟨Zo,fun k hk=>(nx k hk).elim id (fun e=>by rw[e];exact LL)⟩,Zo⟩,?_⟩;exact G.Al (AA Ai) Au)
    ·repeat'(first|exact tT|refine WA tT (Y6 c2 hx yV yW RW c3) ?_ ?_|(refine PE ?_;clear hK K)|refine WR fun K hK=>?_|refine PT ?_|refine WC (fun h=>?_) fun h=>?_|exact ff|fail)
     all_goals first|omega|skip
     all_goals (refine⟨8,⟨⟨Zo,fun k hk=>(nx k hk).elim id (fun e=>by rw[e];exact LL)⟩,Zo⟩,?_⟩;exact G.Al (AA Ai) Au)
   ·have c3:((b.toNat:Int) != 45)=true:=bne_iff_ne.2 fun h=>hb (UInt8.toNat_inj.1 (by show b.toNat=45;omega));have hR:=hD j Ak (by rw[ky];exact Zdf hb);rcases h4 with rfl|rfl
    ·rw[hR];repeat'(first|exact tT|refine WA tT (Y6 c2 hx yV yW RW c3) ?_ ?_|(refine PE ?_;clear hK K)|refine WR fun K hK=>?_|refine PT ?_|refine WC (fun h=>?_) fun h=>?_|exact ff|fail)
     all_goals first|omega|rfl
    ·rw[hR];repeat'(first|exact tT|refine WA tT (Y6 c2 hx yV yW RW c3) ?_ ?_|(refine PE ?_;clear hK K)|refine WR fun K hK=>?_|refine PT ?_|refine WC (fun h=>?_) fun h=>?_|exact ff|fail)
     all_goals first|omega|rfl
  ·have ky:Fj ((bl s).drop i) j=BP 8 b:=by unfold Fj;rw[if_neg h4,N3]
   have q4:((j:Int)==4)=false:=beq_eq_false_iff_ne.2 Zo;have q7:((j:Int)==7)=false:=beq_eq_false_iff_ne.2 Zo;by_cases hc:BP 8 b=true
   ·rw[hc]at ZW ky;repeat'(first|exact tT|refine WA ZW (Y3 c2 q4 q7) ?_ ?_|(refine PE ?_;clear hK K)|refine WR fun K hK=>?_|refine PT ?_|refine WC (fun h=>?_) fun h=>?_|exact ff|fail)
    all_goals first|omega|skip
    all_goals (refine⟨j+1,⟨⟨Zo,fun k hk=>(nx k hk).elim id (fun e=>by rw[e];exact ky)⟩,Zo⟩,?_⟩;exact G.Al (AA Ai) Au)
   ·have hc:BP 8 b=false:=by simpa using hc
    rw[hc]at ZW ky;have hR:=hD j Ak ky;rw[hR];repeat'(first|exact tT|refine WA ZW (Y3 c2 q4 q7) ?_ ?_|(refine PE ?_;clear hK K)|refine WR fun K hK=>?_|refine PT ?_|refine WC (fun h=>?_) fun h=>?_|exact ff|fail)
    all_goals first|omega|rfl
 ·obtain rfl:j=10:=Zo
  have hR:=hTr ov;rw[hR];repeat'(first|exact tT|refine WA tT tT ?_ ?_|(refine PE ?_;clear hK K)|refine WR fun K hK=>?_|refine PT ?_|refine WC (fun h=>?_) fun h=>?_|exact ff|fail)
  all_goals first|omega|rfl
def FX(l:List UInt8)(a:Nat):Nat→Int
 |0=>0
 |n+1=>FX l a n*10+dv l (a+n)
theorem nU{l:List UInt8}{a:Nat}: ∀n:Nat,(∀i,i<n→0≤dv l (a+i)∧dv l (a+i)≤9)→n≤4→0≤FX l a n∧FX l a n≤10000
 |0,_,_=>by simp[FX]
 |1,h,_=>by have:=h 0 Zo;simp only[FX];omega
 |2,h,_=>by have:=h 0 Zo;have:=h 1 Zo;simp only[FX];omega
 |3,h,_=>by have:=h 0 Zo;have:=h 1 Zo;have:=h 2 Zo;simp only[FX];omega
 |4,h,_=>by have:=h 0 Zo;have:=h 1 Zo;have:=h 2 Zo;have:=h 3 Zo;simp only[FX];omega
 |n+5,_,h=>by omega
def Yo(j:Nat):Nat:=if j≤4 then 0 else if j≤7 then 1 else 2
theorem jV(s:ByteArray)(v:Int)(hp:KZ (bl s)=some v):Pure Tryz.prog 138 [An s] (.t [AE v,AE 0]):=by
 unfold KZ at hp;split at hp
 ·rename_i hc;injection hp with hp;obtain⟨⟨hl,hd⟩,Ae⟩:=hc;have Bh:s.size=10:=hl;unfold DK at hd;simp only[Zba,List.all_eq_true,List.mem_range]at hd;have hd:=hd.2;have hb: ∀i,(bl s).getD i 0=s.data.getD i 0:=fun i=>by simp[bl,Zlg,Zag]
  have w7: ∀i,i=4∨i=7→(s.data.getD i 0).toNat=45:=fun i hi=>by
   have:=hd i Zo;unfold Fj at this;rw[if_pos hi,hb]at this;rw[of_decide_eq_true this];rfl
  have w8: ∀i,i<10→ ¬(i=4∨i=7)→(48≤(s.data.getD i 0).toNat∧(s.data.getD i 0).toNat≤57)∧dv (bl s) i=((s.data.getD i 0).toNat:Int) - 48:=fun i h1 h2=>by
   have:=hd i h1;unfold Fj at this;rw[if_neg h2,hb,Wb]at this;exact⟨of_decide_eq_true this,by unfold dv;rw[hb]⟩
  have hY:ON (bl s)=FX (bl s) 0 4:=by simp[FX,ON]
  have hM:Wh (bl s)=FX (bl s) 5 2:=by simp[FX,Wh]
  have hD:dD (bl s)=FX (bl s) 8 2:=by simp[FX,dD]
  have w9:=sA _ _ _ Ae;rw[hp,hY,hM,hD]at w9;have hle: ∀a n,(∀i,i<n→a+i<10∧ ¬(a+i=4∨a+i=7))→n≤4→0≤FX (bl s) a n∧FX (bl s) a n≤10000:=fun a n h1 h2=>nU n (fun i hi=>by have:=w8 (a+i) (h1 i hi).1 (h1 i hi).2;omega) h2;have c10:((s.size:Int) != 10)=false:=by rw[Bh];rfl
  refine PO 58 [.tmp 2,.tmp 3] hT Tryz.func138 Tryz.ntmps138 fun B w0=>?_;repeat'(first|exact tT|refine WA tT c10 ?_ ?_|(refine PE ?_;clear hK K)|refine WR fun K hK=>?_|refine PT ?_|refine WC (fun h=>?_) fun h=>?_|exact ff|fail)
  refine gV 4 197 _ (.AF [AE 0,AE 0,AE 0]) rfl rfl (fun j hj=>.inl (by match j,hj with|0,_=>rfl|1,_=>rfl|2,_=>rfl)) ?_;refine AM (α:=Nat) (fun j=>⟨[(0,An s),(4,.p 4 0),(5,AE (Yo j:Int)),(12,An s),(13,AE (s.size:Int)),(14,AE (j:Int))],[(4,.box 197 (.AF [AE (FX (bl s) 0 (min j 4)),AE (FX (bl s) 5 (min (j - 5) 2)),AE (FX (bl s) 8 (min (j - 8) 2))]))]⟩) (fun j=>j≤10) (fun j=>10 - j) 0 (Nat.zero_le _) (G.Al (AA Ai) IN) fun j hj=>?_;by_cases Ak:j<10
  ·have c15:=DT ((j:Int)<(s.size:Int));by_cases ub:j=4∨j=7
   ·have RW:=w7 j ub;generalize U6:s.data.getD j 0=b at*;have c38:((b.toNat:Int) != 45)=false:=by rw[RW];rfl
    rcases ub with qL|qL
    ·have c32:((j:Int)==4)=true:=by rw[qL];rfl
     have e1:Yo j=0:=by rw[qL];rfl
     simp only[e1];repeat'(first|exact tT|refine WA tT (Y4 c15 U6 c38 c32) ?_ ?_|(refine PE ?_;clear hK K)|refine WR fun K hK=>?_|refine PT ?_|refine WC (fun h=>?_) fun h=>?_|exact ff|fail)
     all_goals (first|omega|(subst qL;exact⟨5,⟨Zd,Zd⟩,G.Al (AA Ai) IN⟩))
    ·have c32:((j:Int)==4)=false:=by rw[qL];rfl
     have c35:((j:Int)==7)=true:=by rw[qL];rfl
     have e1:Yo j=1:=by rw[qL];rfl
     simp only[e1];repeat'(first|exact tT|refine WA tT (Y5 c15 U6 c38 c32 c35) ?_ ?_|(refine PE ?_;clear hK K)|refine WR fun K hK=>?_|refine PT ?_|refine WC (fun h=>?_) fun h=>?_|exact ff|fail)
     all_goals (first|omega|(subst qL;exact⟨8,⟨Zd,Zd⟩,G.Al (AA Ai) IN⟩))
   ·obtain⟨Jy,J4⟩:=w8 j Ak ub;generalize U6:s.data.getD j 0=b at*;have c32:((j:Int)==4)=false:=beq_eq_false_iff_ne.2 Zo;have c35:((j:Int)==7)=false:=beq_eq_false_iff_ne.2 Zo;have c43:=DF ((b.toNat:Int)<48);have c46:=DF ((57:Int)<(b.toNat:Int));have ew1:IntKind.u8.wrap ((b.toNat:Int) - 48)=(b.toNat:Int) - 48:=by unfold IntKind.wrap;simp[IntKind.signed,IntKind.bits];omega
    have ew2:IntKind.i64.wrap ((b.toNat:Int) - 48)=(b.toNat:Int) - 48:=wrap64 Zo Zo;by_cases hj1:j<4
    ·have e1:Yo j=0:=by unfold Yo;rw[if_pos Zo]
     have e2:Yo (j+1)=0:=by unfold Yo;rw[if_pos Zo]
     have e3:min j 4=j:=Zo
     have e4:min (j+1) 4=j+1:=Zo
     have e5:j - 5=0:=Zo
     have e6:j+1 - 5=0:=Zo
     have e7:j - 8=0:=Zo
     have e8:j+1 - 8=0:=Zo
     have hn:=hle 0 j Zo Zo;have BE:FX (bl s) 0 (j+1)=FX (bl s) 0 j*10+((b.toNat:Int) - 48):=by rw[FX,Nat.zero_add,J4]
     simp only[e1,e3,e5,e7];generalize FX (bl s) 0 j=A at*;have ew3:IntKind.i64.wrap (A*10+((b.toNat:Int) - 48))=A*10+((b.toNat:Int) - 48):=wrap64 Zo Zo;repeat'(first|exact tT|refine WA tT (Y9 c15 U6 c32 c35 c43 c46 ew1 ew2 ew3) ?_ ?_|(refine PE ?_;clear hK K)|refine WR fun K hK=>?_|refine PT ?_|refine WC (fun h=>?_) fun h=>?_|exact ff|fail)
     all_goals (first|omega|(refine⟨j+1,⟨Zo,Zo⟩,?_⟩;simp only[e2,e4,e6,e8,BE];exact G.Al (AA Ai) IN))
    by_cases ov:j<7
    ·have e1:Yo j=1:=by unfold Yo;rw[if_neg Zo,if_pos Zo]
     have e2:Yo (j+1)=1:=by unfold Yo;rw[if_neg Zo,if_pos Zo]
     have e3:min j 4=4:=Zo
     have e4:min (j+1) 4=4:=Zo
     have e5:min (j - 5) 2=j - 5:=Zo
     have e6:min (j+1 - 5) 2=j - 5+1:=Zo
     have e7:j - 8=0:=Zo
     have e8:j+1 - 8=0:=Zo
     have hn:=hle 5 (j - 5) Zo Zo;have BE:FX (bl s) 5 (j - 5+1)=FX (bl s) 5 (j - 5)*10+((b.toNat:Int) - 48):=by rw[FX,show 5+(j - 5)=j by omega,J4]
     simp only[e1,e3,e5,e7];generalize FX (bl s) 5 (j - 5)=A at*;have ew3:IntKind.i64.wrap (A*10+((b.toNat:Int) - 48))=A*10+((b.toNat:Int) - 48):=wrap64 Zo Zo;repeat'(first|exact tT|refine WA tT (Y9 c15 U6 c32 c35 c43 c46 ew1 ew2 ew3) ?_ ?_|(refine PE ?_;clear hK K)|refine WR fun K hK=>?_|refine PT ?_|refine WC (fun h=>?_) fun h=>?_|exact ff|fail)
     all_goals (first|omega|(refine⟨j+1,⟨Zo,Zo⟩,?_⟩;simp only[e2,e4,e6,e8,BE];exact G.Al (AA Ai) IN))
    ·have e1:Yo j=2:=by unfold Yo;rw[if_neg Zo,if_neg Zo]
     have e2:Yo (j+1)=2:=by unfold Yo;rw[if_neg Zo,if_neg Zo]
     have e3:min j 4=4:=Zo
     have e4:min (j+1) 4=4:=Zo
     have e5:min (j - 5) 2=2:=Zo
     have e6:min (j+1 - 5) 2=2:=Zo
     have e7:min (j - 8) 2=j - 8:=Zo
     have e8:min (j+1 - 8) 2=j - 8+1:=Zo
     have hn:=hle 8 (j - 8) Zo Zo;have BE:FX (bl s) 8 (j - 8+1)=FX (bl s) 8 (j - 8)*10+((b.toNat:Int) - 48):=by rw[FX,show 8+(j - 8)=j by omega,J4]
     simp only[e1,e3,e5,e7];generalize FX (bl s) 8 (j - 8)=A at*;have ew3:IntKind.i64.wrap (A*10+((b.toNat:Int) - 48))=A*10+((b.toNat:Int) - 48):=wrap64 Zo Zo;repeat'(first|exact tT|refine WA tT (Y9 c15 U6 c32 c35 c43 c46 ew1 ew2 ew3) ?_ ?_|(refine PE ?_;clear hK K)|refine WR fun K hK=>?_|refine PT ?_|refine WC (fun h=>?_) fun h=>?_|exact ff|fail)
     all_goals (first|omega|(refine⟨j+1,⟨Zo,Zo⟩,?_⟩;simp only[e2,e4,e6,e8,BE];exact G.Al (AA Ai) IN))
  ·have ADB:j=10:=Zo
   have c15:=DF ((j:Int)<(s.size:Int));have e3:min j 4=4:=Zo
   have e4:min (j - 5) 2=2:=Zo
   have e5:min (j - 8) 2=2:=Zo
   simp only[e3,e4,e5];repeat'(first|exact tT|refine WA w9 c15 ?_ ?_|(refine PE ?_;clear hK K)|refine WR fun K hK=>?_|refine PT ?_|refine WC (fun h=>?_) fun h=>?_|exact ff|fail)
 ·cases hp
end Go.Proofs.YthemnhjojaehhaaGreatDoor
