/- Part of a proof. -/
import Derived.Test.YthemnhjojaehhaaGreatDoorA40
set_option linter.all false
namespace Go.Proofs.YthemnhjojaehhaaGreatDoor
open Go.Ad Go.Proofs Go.Tp
attribute [local irreducible] A8 AK BY Go.Ad.Pure BS
theorem kq2{x:Int}:(x=15→(x==15)=true)∧(x≠15→(x==15)=false)∧(x=16→(x==16)=true)∧(x≠16→(x==16)=false)∧(x=17→(x==17)=true)∧(x≠17→(x==17)=false)∧(x=18→(x==18)=true)∧(x≠18→(x==18)=false):=
 ⟨fun h=>by rw[h];rfl,fun h=>beq_eq_false_iff_ne.2 h,fun h=>by rw[h];rfl,fun h=>beq_eq_false_iff_ne.2 h,fun h=>by rw[h];rfl,fun h=>beq_eq_false_iff_ne.2 h,fun h=>by rw[h];rfl,fun h=>beq_eq_false_iff_ne.2 h⟩
set_option maxHeartbeats 16000000 in
theorem eL(t:Tr)(ac:List AV)(e:Nd)(Ae:Cz e)(XZ:e.kind=15→R6 96 t ac e)(Xm:e.kind=16→R6 97 t ac e)(h17:e.kind=17→R6 98 t ac e)(h18:e.kind=18→R6 99 t ac e)(h0: ¬(e.kind=15∨e.kind=16∨e.kind=17∨e.kind=18)→R6 95 t ac e):R6 62 t ac e:=by
 obtain⟨q15,n15,q16,n16,q17,n17,q18,n18⟩:=kq2 (x:=e.kind);unfold R6 at*;by_cases k15:e.kind=15
 ·have hc:=XZ k15;have c15:=q15 k15;generalize Fk t e=r at*;refine FO 29 [.cell 4 80] Tryz.func62 Tryz.ntmps62 fun B w0 Y R Am Az hY AQ AW Aj hR=>?_;have AB:=NA AW AQ 3 4
  refine AI ⟨[(4,.p 4 0)],(4,.box 80 (.AF (DO r)))::(Gt t ac++Y)⟩ ER ?_;repeat'(first|exact tT|refine WA tT (Y2 c15 AB) ?_ ?_|refine EO hc (Y2 c15 AB) ?_|(refine HE ?_;clear hK K)|refine WR fun K hK=>?_|refine HT ?_|refine WC (fun h=>?_) fun h=>?_|exact ff|fail)
  exact G.Al (AA Ai) Au
 have c15:=n15 k15;by_cases k16:e.kind=16
 ·have hc:=Xm k16;have c16:=q16 k16;generalize Fk t e=r at*;refine FO 29 [.cell 4 80] Tryz.func62 Tryz.ntmps62 fun B w0 Y R Am Az hY AQ AW Aj hR=>?_;have AB:=NA AW AQ 3 4
  refine AI ⟨[(4,.p 4 0)],(4,.box 80 (.AF (DO r)))::(Gt t ac++Y)⟩ ER ?_;repeat'(first|exact tT|refine WA tT (Y3 c15 c16 AB) ?_ ?_|refine EO hc (Y3 c15 c16 AB) ?_|(refine HE ?_;clear hK K)|refine WR fun K hK=>?_|refine HT ?_|refine WC (fun h=>?_) fun h=>?_|exact ff|fail)
  exact G.Al (AA Ai) Au
 have c16:=n16 k16;by_cases k17:e.kind=17
 ·have hc:=h17 k17;have c17:=q17 k17;generalize Fk t e=r at*;refine FO 29 [.cell 4 80] Tryz.func62 Tryz.ntmps62 fun B w0 Y R Am Az hY AQ AW Aj hR=>?_;have AB:=NA AW AQ 3 4
  refine AI ⟨[(4,.p 4 0)],(4,.box 80 (.AF (DO r)))::(Gt t ac++Y)⟩ ER ?_;repeat'(first|exact tT|refine WA tT (Y4 c15 c16 c17 AB) ?_ ?_|refine EO hc (Y4 c15 c16 c17 AB) ?_|(refine HE ?_;clear hK K)|refine WR fun K hK=>?_|refine HT ?_|refine WC (fun h=>?_) fun h=>?_|exact ff|fail)
  exact G.Al (AA Ai) Au
 have c17:=n17 k17;by_cases k18:e.kind=18
 ·have hc:=h18 k18;have c18:=q18 k18;generalize Fk t e=r at*;refine FO 29 [.cell 4 80] Tryz.func62 Tryz.ntmps62 fun B w0 Y R Am Az hY AQ AW Aj hR=>?_;have AB:=NA AW AQ 3 4
  refine AI ⟨[(4,.p 4 0)],(4,.box 80 (.AF (DO r)))::(Gt t ac++Y)⟩ ER ?_;repeat'(first|exact tT|refine WA tT (Y5 c15 c16 c17 c18 AB) ?_ ?_|refine EO hc (Y5 c15 c16 c17 c18 AB) ?_|(refine HE ?_;clear hK K)|refine WR fun K hK=>?_|refine HT ?_|refine WC (fun h=>?_) fun h=>?_|exact ff|fail)
  exact G.Al (AA Ai) Au
 have c18:=n18 k18;have hc:=h0 Zo;generalize Fk t e=r at*;refine FO 29 [.cell 4 80] Tryz.func62 Tryz.ntmps62 fun B w0 Y R Am Az hY AQ AW Aj hR=>?_;have AB:=NA AW AQ 3 4
 refine AI ⟨[(4,.p 4 0)],(4,.box 80 (.AF (DO r)))::(Gt t ac++Y)⟩ ER ?_;repeat'(first|exact tT|refine WA tT (Y5 c15 c16 c17 c18 AB) ?_ ?_|refine EO hc (Y5 c15 c16 c17 c18 AB) ?_|(refine HE ?_;clear hK K)|refine WR fun K hK=>?_|refine HT ?_|refine WC (fun h=>?_) fun h=>?_|exact ff|fail)
 exact G.Al (AA Ai) Au
theorem j7{l:List Nd}{k:Nd}(h:k∈l):k.size≤Nd.AP l:=by
 obtain⟨i,hi,rfl⟩:=Kt h;exact Fz hi
theorem su{e:Nd}(h:BC e=true)(k18:e.kind=18):1≤e.ps.length∧e.ps.length≤64:=by
 rw[EJ]at h;unfold FA at h;rw[if_neg Zo,if_neg Zo,if_neg Zo,if_neg Zo,if_neg Zo,if_neg Zo,if_neg Zo,if_pos k18]at h;simp only[Zba]at h;have:=h.1.1.2;unfold Bo at this;simp only[Zba,Zdt]at this;exact⟨this.1.1.1.2,this.1.1.2⟩
theorem j8(t:Tr)(m:Nat)(ht:QY t m)(yi:m≤100000)(ac:List AV)(e:Nd)(Ae:Cz e)(hex:BC e=true)(Bh:e.size≤100000)(ez:JB e=true→0<t.facts.length)(xu:0<t.lines.length):R6 62 t ac e:=by
 induction e using Nd.ind with
 |h e ih=>
  obtain⟨hk,F4,XZ,Xm⟩:=JA hex;have Ci:=Ae.spec.kids;have pD:=Nd.size_eq e
  have AAu: ∀k∈e.kids,R6 62 t ac k:=fun k hk=>by
   refine ih k hk (Ci.1 k hk) (F4 k hk) ?_ fun h=>ez ?_
   ·have:=j7 hk;omega
   ·rw[Qb,Bool.or_eq_true];exact .inr (List.any_eq_true.2 ⟨k,hk,h⟩)
  have EF:=oH t ac e Ae Bh AAu;refine eL t ac e Ae (fun k=>so t ac e k EF) (fun k=>ZH t ac e Ae k (Xm k) EF) (fun k=>j5 t ac e Ae k (XZ Zo) EF) (fun k=>?_) fun k=>j6 t m ht yi ac e Ae k (fun h=>ez ?_) fun _=>xu
  ·have ZU:=su hex k;exact eJ t ac e Ae k (XZ Zo) ZU EF
  ·rw[Qb,Bool.or_eq_true];exact .inl (Zde h)
end Go.Proofs.YthemnhjojaehhaaGreatDoor
namespace Go.Proofs.YthemnhjojaehhaaGreatDoor
open Go.Ad Go.Proofs Go.Tp
attribute [local irreducible] A8 AK BY Go.Ad.Pure BS V5.AO
abbrev arB(e hd:Nd)(ln:Int)(a u:AV)(x:Ex):AN:=.box 82 (.AF [AE e.n,AE ln,AE hd.n,AE hd.fr,AE hd.to,AE hd.known,a,u,AE x.op,AE x.n,An x.u,AE x.den,C2 Et 3 x.ps,Dq x.kids])
abbrev kC(e:Nd)(j:Nat):List (Nat×AV):= [(41,AE j),(40,AE (e.kids.length - 1:Nat)),(39,J0 e.kids 1 (e.kids.length - 1)),(0,.p 1000 0),(7,.s 85),(6,.p 6 0)]
abbrev oJ(t:Tr)(ac:List AV)(e hd:Nd)(s:Ac)(Y:List (Nat×AN)):List (Nat×AN):=(6,arB e hd (A0 t.lm (.s e.name) 0) (.s 93) (.s 60) s.GU)::(93,.row 80 6 (.AF (Nw s.FU)))::(60,.row 3 1 (.ints .i64 s.G9))::(85,.row 59 2 (.AF (J3 s.d)))::(Gt t ac++Y)
theorem ZI(l:List Nd):Nd.AP (l.drop 1)≤Nd.AP l:=by
 cases l with
 |nil=>exact Nat.le_refl _
 |cons a r=>simp[Nd.AP]
theorem ax(l:List Dg):AV.Dp (J3 l)=true:=by
 induction l with
 |nil=>rfl
 |cons p r ih=>
  show AV.Dp (_::_::J3 r)=true;simp only[AV.Dp,ih];rfl
theorem Ur(l:List Dg)(e j:Nat)(he:e<l.length)(hj:j<2):(J3 l).getD (e*2+j) .top=(rJ (l.getD e default)).getD j .top:=by
 induction l generalizing e with
 |nil=>simp at he
 |cons p r ih=>
  cases e with
  |zero=>rw[Nat.zero_mul,Nat.zero_add];match j,hj with|0,_=>rfl|1,_=>rfl
  |succ e=>
   have:=ih e (by simpa using he);rw[show(e+1)*2+j=(e*2+j)+2 by omega];simpa[J3]using this
theorem W7(a:Ar):(DX a).length=14:=rfl
set_option maxHeartbeats 16000000 in
theorem W8(t:Tr)(m:Nat)(ht:QY t m)(yi:m≤100000)(ac:List AV)(xw:ac.length≤1000000)(e:Nd)(Ae:Cz e)(k4:e.kind=4)(hl:0<e.kids.length)(Bh:e.size≤2000)(HR: ∀c∈e.kids.drop 1,c.kind=7∨(1≤c.kids.length∧BC (CN c)=true))
  (ez: ∀c∈e.kids.drop 1,c.kind≠7→JB (CN c)=true→0<t.facts.length) (xu:0<t.lines.length):
  BS Tryz.prog T 30 [.p 1000 0,.a (A1 e)] (Gt t ac) (KP (RU t (e.kids.drop 1)).d) (Gt t (ac++DX (p6 t e))):=by
 have Ci:=Ae.spec.kids;have E5:=Ci.2;have pD:=Nd.size_eq e;have yZ:=EE e.kids;have kid0:(e.kids.map Dj).getD 0 []=A1 (e.kids.getD 0 default):=Aw hl;have Ph:=Ae.spec.name;generalize zy:e.kids.getD 0 default=hd at*;refine FO 111 [.tmp 4] Tryz.func30 Tryz.ntmps30 fun B w0 Y R Am Az hY AQ AW Aj hR=>?_;have AB:=yr AW AQ 3 5 6 9 11 12 59 60 84 85 92 93 105 106
 refine AI ⟨[(4,KP (RU t (e.kids.drop 1)).d)],Gt t (ac++DX (p6 t e))++Y⟩ ER ?_;repeat'(first|exact tT|refine WA tT (Y2 kid0 AB) ?_ ?_|(refine HE ?_;clear hK K)|refine WR fun K hK=>?_|refine HT ?_|refine WC (fun h=>?_) fun h=>?_|exact ff|fail)
 (refine V5.TO hT [(3,.box 27 (.AF (A1 e))),(5,.box 27 (.AF (A1 hd))),(1000,.box 74 (.AF [.s 1002,.s 1004,.s 1007,.s 1008,.s 1010,.s 1012])),(1010,.mp (.ints false .i64 t.lm))] [6] [(5,[6]),(5,[6]),(5,[6]),(5,[6]),(5,[6]),(5,[6]),(5,[6]),(5,[6]),(5,[6]),(5,[6]),(5,[6]),(5,[6]),(5,[6]),(5,[6]),(5,[6]),(5,[6]),(5,[6]),(5,[6]),(0,[]),(0,[])] hm ZD (by push_cast[AB,List.cons_append,List.nil_append,kid0]) (by repeat(first|exact Ce|refine Cf rfl ?_|exact E7)) fun K Jz=>?_;push_cast[AB,List.cons_append,List.nil_append,kid0];repeat' (first
  |(refine V5.GN (by rfl) rfl (by simp only[As,Nat.reduceLT]) fun K' AX=>?_;push_cast[AB,List.cons_append,List.nil_append,kid0];(try simp (disch:=omega) only[wrap64,Int.toNat_natCast]);(repeat refine AS ?_ ?_);refine AX _ (fun _=>by push_cast[AB,List.cons_append,List.nil_append,kid0]) ?_;simp only[St.put];clear AX K')
  |((first|refine V5.Dv rfl (by rfl) fun K' AX=>?_|refine V5.Ed rfl (by rfl) fun K' AX=>?_);push_cast[AB,List.cons_append,List.nil_append,kid0];(try simp (disch:=omega) only[wrap64,Int.toNat_natCast]);(repeat refine AS ?_ ?_);(first|refine AX _ (by push_cast[AB,List.cons_append,List.nil_append,kid0]) ?_);clear AX K')
  |((first|refine V5.GO rfl (by rfl) fun K' AX=>?_|refine V5.Fe rfl rfl Zd fun K' AX=>?_);push_cast[AB,List.cons_append,List.nil_append,kid0];(try simp (disch:=omega) only[wrap64,Int.toNat_natCast]);(repeat refine AS ?_ ?_);(first|refine AX _ (by repeat(first|exact Ce|refine Cf rfl ?_|exact E7)) ?_);clear AX K')
  |(refine V5.HQ ?_;refine Jz _ ?_;clear Jz K;push_cast)))
 all_goals try omega
 repeat'(first|exact tT|refine WA tT (Y2 kid0 AB) ?_ ?_|(refine HE ?_;clear hK K)|refine WR fun K hK=>?_|refine HT ?_|refine WC (fun h=>?_) fun h=>?_|exact ff|fail)
 have H7:(AJ 60 Y=Y∧AJ 93 Y=Y∧AJ 85 Y=Y)∧(Dh 60 Y=Y∧Dh 93 Y=Y∧Dh 85 Y=Y):=⟨⟨AQ _ Zd,AQ _ Zd,AQ _ Zd⟩,hY.del Zd,hY.del Zd,hY.del Zd⟩
 refine A7 ⟨kC e 0,oJ t ac e hd ⟨[],[],vw,[]⟩ Y⟩ (fun a w hG=>by
  obtain⟨ρ,I,hg⟩:=hG;have hn:=hg.BQ.JQ;have hG:G 111 B w0 _ a w:=⟨ρ,I,hg⟩;have h0:G 111 B w0 ⟨[(41,AE (0:Nat)),(40,AE (e.kids.length - 1:Nat)),(39,J0 e.kids 1 (e.kids.length - 1)),(0,.p 1000 0),(7,.v (.slice none 0 0)),(6,.p 6 0)],(6,.box 82 (.AF [AE e.n,AE (A0 t.lm (.s e.name) 0),AE hd.n,AE hd.fr,AE hd.to,AE hd.known,.v (.slice none 0 0),.v (.slice none 0 0),AE 0,AE 0,An ⟨#[]⟩,AE 0,.v (.slice none 0 0),.v (.slice none 0 0)]))::(Gt t ac++Y)⟩ a w:=G.Al (AA Ai) Au a w hG;have h1:=h0.Th 7 85 rfl Zd 59 2 (.AF []) rfl;push_cast[AB,H7,List.cons_append,List.nil_append]at h1;have h2:=h1.KS 6 93 6 82 80 6 (.AF []) rfl rfl Zd rfl (hn 93 Zd);push_cast[AB,H7,List.cons_append,List.nil_append]at h2;have h3:=h2.KS 6 60 7 82 3 1 (.ints .i64 []) rfl rfl Zd rfl (hn 60 Zd);push_cast[AB,H7,List.cons_append,List.nil_append]at h3;exact h3.E8 ⟨AR.refl _,AR.refl _,AR.refl _,AR.refl _,AR.refl _,AR.refl _,trivial⟩ (B7 rfl ⟨AR.refl _,AR.refl _,AR.refl _,AR.refl _,AR.refl _,AR.refl _,AR.refl _,AR.refl _,AR.refl _,AR.refl _,AR.refl _,AR.refl _,AR.nil,AR.nil,trivial⟩ Lk)) ?_
 refine AM (α:=Nat) (fun j=>⟨kC e j,oJ t ac e hd (RU t ((e.kids.drop 1).take j)) Y⟩) (fun j=>j≤e.kids.length - 1) (fun j=>e.kids.length - j) 0 (Nat.zero_le _) (by exact G.Al (AA Ai) Au) fun j hj=>?_;have Ol:=M1 t ((e.kids.drop 1).take j);have Gu:(e.kids.drop 1).length=e.kids.length - 1:=by simp
 rw[List.length_take,Nat.min_eq_left Zo]at Ol;have G3:=DP (e.kids.drop 1) j;have hsd:Nd.AP (e.kids.drop 1)≤Nd.AP e.kids:=ZI _;by_cases Ak:j<e.kids.length - 1
 ·have c1:=DT ((j:Int)<((e.kids.length - 1:Nat):Int));have NB:j<(e.kids.drop 1).length:=Zo
  have kid1:(e.kids.map Dj).getD (1+j) []=A1 ((e.kids.drop 1).getD j default):=by rw[C7];exact Aw Zo
  have BE:=j9 t (e.kids.drop 1) j NB;have pP:=Ap NB;have FE:=HR _ pP;have AAv:=ez _ pP;have VA:Cz ((e.kids.drop 1).getD j default):=by rw[C7];exact Ci.nth Zo
  have OR:((e.kids.drop 1).getD j default).size≤Nd.AP e.kids:=by rw[C7];exact Fz Zo
  generalize RU t ((e.kids.drop 1).take j)=s at*;generalize (e.kids.drop 1).getD j default=c at*;obtain⟨FU,G9,GU,d⟩:=s;simp only at Ol;have fin: ∀s2:Ac,FC t ⟨FU,G9,GU,d⟩ c=s2→RU t ((e.kids.drop 1).take (j+1))=s2:=fun d2 h=>BE.trans h;have xy:=VA.spec.kids;have AAw:=xy.2;have hcz:=Nd.size_eq c;have ADt:=EE c.kids;by_cases k7:c.kind=7
  ·have q7:(c.kind==7)=true:=by rw[k7];rfl
   have hs:=fin ⟨FU,G9++c.kids.map Nd.n,GU,d⟩ (by unfold FC;rw[if_pos k7]);repeat'(first|exact tT|refine WA tT (Y4 c1 kid1 q7 AB) ?_ ?_|(refine HE ?_;clear hK K)|refine WR fun K hK=>?_|refine HT ?_|refine WC (fun h=>?_) fun h=>?_|exact ff|fail)
   refine AM (α:=Nat) (fun i=>⟨(51,AE i)::(50,AE c.kids.length)::(49,CS c.kids)::kC e j,oJ t ac e hd ⟨FU,G9++(c.kids.take i).map Nd.n,GU,d⟩ Y⟩) (fun i=>i≤c.kids.length) (fun i=>c.kids.length - i) 0 (Nat.zero_le _) (by simp only[List.take_zero,List.map_nil,List.append_nil];exact G.Al (AA Ai) Au) fun i hi=>?_;by_cases hit:i<c.kids.length
   ·have c5:=DT ((i:Int)<(c.kids.length:Int));have kid2:=Aw hit;have RG:(G9++(c.kids.take i).map Nd.n).length≤1000000:=by simp;omega
    have km:G9++(c.kids.take (i+1)).map Nd.n=G9++(c.kids.take i).map Nd.n++ [(c.kids.getD i default).n]:=by rw[Cx hit];simp
    generalize G9++(c.kids.take i).map Nd.n=ul at*;generalize c.kids.getD i default=y at*;repeat'(first|exact tT|refine WA tT (Y4 c5 kid2 H7 AB) ?_ ?_|(refine WQ (Y4 c5 kid2 H7 AB) fun K' AX=>?_;(repeat refine AS ?_ ?_);(first|refine⟨[_],⟨rfl,(fun j hj=>rfl),(by first|omega|(simp only[List.length_take,List.length_drop,List.length_append,List.length_map,List.length_cons,List.length_nil,List.length_replicate,List.length_set];omega)),(by first|omega|(simp only[List.length_take,List.length_drop,List.length_append,List.length_map,List.length_cons,List.length_nil,List.length_replicate,List.length_set];omega))⟩,?_⟩);refine AX _ ?_;clear AX K')|(refine HE ?_;clear hK K)|refine WR fun K hK=>?_|refine HT ?_|refine WC (fun h=>?_) fun h=>?_|exact ff|fail)
    all_goals (refine⟨i+1,⟨Zo,Zo⟩,?_⟩;simp only[km];exact G.Al (AA Ai) Au)
   ·obtain rfl:i=c.kids.length:=Zo
    have c5:=DF ((c.kids.length:Int)<(c.kids.length:Int));rw[List.take_length];repeat'(first|exact tT|refine WA tT (Y2 c5 AB) ?_ ?_|(refine HE ?_;clear hK K)|refine WR fun K hK=>?_|refine HT ?_|refine WC (fun h=>?_) fun h=>?_|exact ff|fail)
    all_goals (refine⟨j+1,⟨Zo,Zo⟩,?_⟩;simp only[hs];exact G.Al (AA Ai) Au)
  have HS:=FE.resolve_left k7;have q7:(c.kind==7)=false:=beq_eq_false_iff_ne.2 k7;have kidc:(c.kids.map Dj).getD 0 []=A1 (CN c):=Aw HS.1;have VK:(CN c).size≤Nd.AP c.kids:=Fz HS.1;have fQ:=j8 t m ht yi ac (CN c) (xy.nth HS.1) HS.2 Zo (AAv k7) xu;have hxz:=iU t (CN c);have Ix:FC t ⟨FU,G9,GU,d⟩ c=⟨if c.kind=6 then FU++ [Fk t (CN c)]else FU,G9,if c.kind=6 then GU else Fk t (CN c),if Uq (Fk t (CN c))=true then d++ [⟨2⟩]else d⟩:=by unfold FC;rw[if_neg k7]
  unfold R6 at fQ;generalize Fk t (CN c)=x at*;have uo:=YW x Zo;have uI:=Pa FU;have hlb:=Jd d;have TY:(Nw FU).length / 6=FU.length:=Zo
  have C0:(J3 d).length / 2=d.length:=Zo
  have Xb:Nw FU++DO x=Nw (FU++ [x]):=by rw[aq];simp[Nw]
  simp only[DO,C2,Dq]at Xb;have bY:J3 d++ [AE 2,.o]=J3 (d++ [⟨2⟩]):=by rw[T8];rfl
  by_cases b1:400<x.size
  ·have e1:=DT ((400:Int)<(x.size:Int));have hb:Uq x=true:=by unfold Uq;simp[b1]
   by_cases k6:c.kind=6
   ·have q6:(c.kind==6)=true:=by rw[k6];rfl
    have hs:=fin ⟨FU++ [x],G9,GU,d++ [⟨2⟩]⟩ (by rw[Ix];simp[hb,k6]);repeat'(first|exact tT|refine WA uo (Y9 c1 kid1 q7 kidc H7 TY C0 e1 (Y2 q6 AB)) ?_ ?_|(refine WQ (Y9 c1 kid1 q7 kidc H7 TY C0 e1 (Y2 q6 AB)) fun K' AX=>?_;(repeat refine AS ?_ ?_);(first|refine⟨DO x,⟨rfl,(fun el j h1 h2=>rfl),rfl,Zo,Zo⟩,?_⟩|refine⟨[AE 2,.o],⟨rfl,(fun el j h1 h2=>rfl),rfl,Zo,Zo⟩,?_⟩);refine AX _ ?_;clear AX K')|refine EO fQ (Y9 c1 kid1 q7 kidc H7 TY C0 e1 (Y2 q6 AB)) ?_|(refine HE ?_;clear hK K)|refine WR fun K hK=>?_|refine HT ?_|refine WC (fun h=>?_) fun h=>?_|exact ff|fail)
    all_goals (refine⟨j+1,⟨Zo,Zo⟩,?_⟩;simp only[hs,oJ];rw[←Xb,←bY];exact G.Al (AA Ai) Au)
   ·have q6:(c.kind==6)=false:=beq_eq_false_iff_ne.2 k6;have hs:=fin ⟨FU,G9,x,d++ [⟨2⟩]⟩ (by rw[Ix];simp[hb,k6]);repeat'(first|exact tT|refine WA uo (Y9 c1 kid1 q7 kidc H7 TY C0 e1 (Y2 q6 AB)) ?_ ?_|(refine WQ (Y9 c1 kid1 q7 kidc H7 TY C0 e1 (Y2 q6 AB)) fun K' AX=>?_;(repeat refine AS ?_ ?_);(first|refine⟨DO x,⟨rfl,(fun el j h1 h2=>rfl),rfl,Zo,Zo⟩,?_⟩|refine⟨[AE 2,.o],⟨rfl,(fun el j h1 h2=>rfl),rfl,Zo,Zo⟩,?_⟩);refine AX _ ?_;clear AX K')|refine EO fQ (Y9 c1 kid1 q7 kidc H7 TY C0 e1 (Y2 q6 AB)) ?_|(refine HE ?_;clear hK K)|refine WR fun K hK=>?_|refine HT ?_|refine WC (fun h=>?_) fun h=>?_|exact ff|fail)
    all_goals (refine⟨j+1,⟨Zo,Zo⟩,?_⟩;simp only[hs,oJ];rw[←bY];exact G.Al (AA Ai) Au)
  have e1:=DF ((400:Int)<(x.size:Int));by_cases b2:40<x.depth
  ·have e2:=DT ((40:Int)<(x.depth:Int));have hb:Uq x=true:=by unfold Uq;simp[b2]
   by_cases k6:c.kind=6
   ·have q6:(c.kind==6)=true:=by rw[k6];rfl
    have hs:=fin ⟨FU++ [x],G9,GU,d++ [⟨2⟩]⟩ (by rw[Ix];simp[hb,k6]);repeat'(first|exact tT|refine WA uo (Y9 c1 kid1 q7 kidc H7 TY C0 e1 (Y3 e2 q6 AB)) ?_ ?_|(refine WQ (Y9 c1 kid1 q7 kidc H7 TY C0 e1 (Y3 e2 q6 AB)) fun K' AX=>?_;(repeat refine AS ?_ ?_);(first|refine⟨DO x,⟨rfl,(fun el j h1 h2=>rfl),rfl,Zo,Zo⟩,?_⟩|refine⟨[AE 2,.o],⟨rfl,(fun el j h1 h2=>rfl),rfl,Zo,Zo⟩,?_⟩);refine AX _ ?_;clear AX K')|refine EO fQ (Y9 c1 kid1 q7 kidc H7 TY C0 e1 (Y3 e2 q6 AB)) ?_|(refine HE ?_;clear hK K)|refine WR fun K hK=>?_|refine HT ?_|refine WC (fun h=>?_) fun h=>?_|exact ff|fail)
    all_goals (refine⟨j+1,⟨Zo,Zo⟩,?_⟩;simp only[hs,oJ];rw[←Xb,←bY];exact G.Al (AA Ai) Au)
   ·have q6:(c.kind==6)=false:=beq_eq_false_iff_ne.2 k6;have hs:=fin ⟨FU,G9,x,d++ [⟨2⟩]⟩ (by rw[Ix];simp[hb,k6]);repeat'(first|exact tT|refine WA uo (Y9 c1 kid1 q7 kidc H7 TY C0 e1 (Y3 e2 q6 AB)) ?_ ?_|(refine WQ (Y9 c1 kid1 q7 kidc H7 TY C0 e1 (Y3 e2 q6 AB)) fun K' AX=>?_;(repeat refine AS ?_ ?_);(first|refine⟨DO x,⟨rfl,(fun el j h1 h2=>rfl),rfl,Zo,Zo⟩,?_⟩|refine⟨[AE 2,.o],⟨rfl,(fun el j h1 h2=>rfl),rfl,Zo,Zo⟩,?_⟩);refine AX _ ?_;clear AX K')|refine EO fQ (Y9 c1 kid1 q7 kidc H7 TY C0 e1 (Y3 e2 q6 AB)) ?_|(refine HE ?_;clear hK K)|refine WR fun K hK=>?_|refine HT ?_|refine WC (fun h=>?_) fun h=>?_|exact ff|fail)
    all_goals (refine⟨j+1,⟨Zo,Zo⟩,?_⟩;simp only[hs,oJ];rw[←bY];exact G.Al (AA Ai) Au)
  have e2:=DF ((40:Int)<(x.depth:Int));have hb:Uq x=false:=by unfold Uq;simp[b1,b2]
  by_cases k6:c.kind=6
  ·have q6:(c.kind==6)=true:=by rw[k6];rfl
   have hs:=fin ⟨FU++ [x],G9,GU,d⟩ (by rw[Ix];simp[hb,k6]);repeat'(first|exact tT|refine WA uo (Y9 c1 kid1 q7 kidc H7 TY C0 e1 (Y3 e2 q6 AB)) ?_ ?_|(refine WQ (Y9 c1 kid1 q7 kidc H7 TY C0 e1 (Y3 e2 q6 AB)) fun K' AX=>?_;(repeat refine AS ?_ ?_);(first|refine⟨DO x,⟨rfl,(fun el j h1 h2=>rfl),rfl,Zo,Zo⟩,?_⟩|refine⟨[AE 2,.o],⟨rfl,(fun el j h1 h2=>rfl),rfl,Zo,Zo⟩,?_⟩);refine AX _ ?_;clear AX K')|refine EO fQ (Y9 c1 kid1 q7 kidc H7 TY C0 e1 (Y3 e2 q6 AB)) ?_|(refine HE ?_;clear hK K)|refine WR fun K hK=>?_|refine HT ?_|refine WC (fun h=>?_) fun h=>?_|exact ff|fail)
   all_goals (refine⟨j+1,⟨Zo,Zo⟩,?_⟩;simp only[hs,oJ];rw[←Xb];exact G.Al (AA Ai) Au)
  ·have q6:(c.kind==6)=false:=beq_eq_false_iff_ne.2 k6;have hs:=fin ⟨FU,G9,x,d⟩ (by rw[Ix];simp[hb,k6]);repeat'(first|exact tT|refine WA uo (Y9 c1 kid1 q7 kidc H7 TY C0 e1 (Y3 e2 q6 AB)) ?_ ?_|(refine WQ (Y9 c1 kid1 q7 kidc H7 TY C0 e1 (Y3 e2 q6 AB)) fun K' AX=>?_;(repeat refine AS ?_ ?_);(first|refine⟨DO x,⟨rfl,(fun el j h1 h2=>rfl),rfl,Zo,Zo⟩,?_⟩|refine⟨[AE 2,.o],⟨rfl,(fun el j h1 h2=>rfl),rfl,Zo,Zo⟩,?_⟩);refine AX _ ?_;clear AX K')|refine EO fQ (Y9 c1 kid1 q7 kidc H7 TY C0 e1 (Y3 e2 q6 AB)) ?_|(refine HE ?_;clear hK K)|refine WR fun K hK=>?_|refine HT ?_|refine WC (fun h=>?_) fun h=>?_|exact ff|fail)
   all_goals (refine⟨j+1,⟨Zo,Zo⟩,?_⟩;simp only[hs];exact G.Al (AA Ai) Au)
 ·obtain rfl:j=e.kids.length - 1:=Zo
  have c1:=DF (((e.kids.length - 1:Nat):Int)<((e.kids.length - 1:Nat):Int));rw[show(e.kids.drop 1).take (e.kids.length - 1)=e.kids.drop 1 from List.take_of_length_le (by simp)]at*;have har:p6 t e=⟨e.n,A0 t.lm (.s e.name) 0,hd.n,hd.fr,hd.to,hd.known,(RU t (e.kids.drop 1)).FU,(RU t (e.kids.drop 1)).G9,(RU t (e.kids.drop 1)).GU⟩:=by unfold p6;rw[zy]
  rw[har];generalize RU t (e.kids.drop 1)=s at*;obtain⟨FU,G9,GU,d⟩:=s;simp only at Ol ⊢;repeat'(first|exact tT|refine WA tT (Y2 c1 AB) ?_ ?_|(refine HE ?_;clear hK K)|refine WR fun K hK=>?_|refine HT ?_|refine WC (fun h=>?_) fun h=>?_|exact ff|fail)
  have HJ:=au FU;have RY:=Pa FU;have Ct:=aw FU;have fU:=Jd d
  refine A7 ⟨[(0,.p 1000 0),(7,.s 85),(6,.p 6 0)],(6,arB e hd (A0 t.lm (.s e.name) 0) (Dq FU) (ints G9) GU)::(85,.row 59 2 (.AF (J3 d)))::(Gt t ac++Y)⟩ (fun a w hG=>by
   have h0:G 111 B w0 ⟨[(0,.p 1000 0),(7,.s 85),(6,.p 6 0)],oJ t ac e hd ⟨FU,G9,GU,d⟩ Y⟩ a w:=G.Al (AA Ai) Au a w hG;have h1:=h0.GR 93 _ rfl HJ;push_cast[KH,Ec,Fo,Ge,Ik,Ij,KG,Ez,hY.ml (d:=93) (.row 80 6 (.AF (Nw FU))) Zd,List.cons_append,List.nil_append]at h1;have h2:=h1.GR 60 _ rfl trivial;push_cast[KH,Ec,Fo,Ge,Ik,Ij,KG,Ez,hY.ml (d:=60) (.row 3 1 (.ints .i64 G9)) Zd,List.cons_append,List.nil_append]at h2;rw[show(Nw FU).length / 6=FU.length by omega]at h2;refine h2.E8 ⟨AR.refl _,AR.refl _,AR.refl _,trivial⟩ (B7 rfl ⟨AR.refl _,AR.refl _,AR.refl _,AR.refl _,AR.refl _,AR.refl _,Ct,AR.slice (by simp) (fun e j he hj=>?_),AR.refl _,AR.refl _,AR.refl _,AR.refl _,AR.refl _,AR.refl _,trivial⟩ Lk);obtain rfl:j=0:=Zo
   simp) ?_
  have OV:(AJ 106 Y=Y∧AJ 1007 Y=Y)∧Dh 106 Y=Y∧Dh 1007 Y=Y:=⟨⟨AQ _ Zd,hY.kill Zd⟩,hY.del Zd,hY.del Zd⟩;have uW:=W7 ⟨e.n,A0 t.lm (.s e.name) 0,hd.n,hd.fr,hd.to,hd.known,FU,G9,GU⟩
  (refine V5.TO hT [] [106] [(1,[106]),(0,[106]),(0,[106]),(0,[106]),(0,[106]),(0,[106]),(0,[106]),(0,[106]),(0,[]),(0,[]),(0,[]),(0,[]),(0,[])] hm ZD (by push_cast[AB,List.cons_append,List.nil_append,AB,OV,List.cons_append,List.nil_append]) (by repeat(first|exact Ce|refine Cf rfl ?_|exact E7)) fun K Jz=>?_;push_cast[AB,List.cons_append,List.nil_append,AB,OV,List.cons_append,List.nil_append];repeat' (first
  |(refine V5.GN (by rfl) rfl (by simp only[As,Nat.reduceLT]) fun K' AX=>?_;push_cast[AB,List.cons_append,List.nil_append,AB,OV,List.cons_append,List.nil_append];(try simp (disch:=omega) only[wrap64,Int.toNat_natCast]);(repeat refine AS ?_ ?_);refine AX _ (fun _=>by push_cast[AB,List.cons_append,List.nil_append,AB,OV,List.cons_append,List.nil_append]) ?_;simp only[St.put];clear AX K')
  |((first|refine V5.Dv rfl (by rfl) fun K' AX=>?_|refine V5.Ed rfl (by rfl) fun K' AX=>?_);push_cast[AB,List.cons_append,List.nil_append,AB,OV,List.cons_append,List.nil_append];(try simp (disch:=omega) only[wrap64,Int.toNat_natCast]);(repeat refine AS ?_ ?_);(first|refine AX _ (by push_cast[AB,List.cons_append,List.nil_append,AB,OV,List.cons_append,List.nil_append]) ?_|((first|refine⟨DX ⟨e.n,A0 t.lm (.s e.name) 0,hd.n,hd.fr,hd.to,hd.known,FU,G9,GU⟩,⟨rfl,(fun el j h1 h2=>rfl),rfl,Zo,Zo⟩,?_⟩);refine AX _ (by push_cast[AB,List.cons_append,List.nil_append,AB,OV,List.cons_append,List.nil_append]) ?_));clear AX K')
  |((first|refine V5.GO rfl (by rfl) fun K' AX=>?_|refine V5.Fe rfl rfl Zd fun K' AX=>?_);push_cast[AB,List.cons_append,List.nil_append,AB,OV,List.cons_append,List.nil_append];(try simp (disch:=omega) only[wrap64,Int.toNat_natCast]);(repeat refine AS ?_ ?_);(first|refine AX _ (by repeat(first|exact Ce|refine Cf rfl ?_|exact E7)) ?_|((first|refine⟨DX ⟨e.n,A0 t.lm (.s e.name) 0,hd.n,hd.fr,hd.to,hd.known,FU,G9,GU⟩,⟨rfl,(fun el j h1 h2=>rfl),rfl,Zo,Zo⟩,?_⟩);refine AX _ (by repeat(first|exact Ce|refine Cf rfl ?_|exact E7)) ?_));clear AX K')
  |(refine V5.HQ ?_;refine Jz _ ?_;clear Jz K;push_cast)))
  all_goals try omega
  generalize ADw:DX ⟨e.n,A0 t.lm (.s e.name) 0,hd.n,hd.fr,hd.to,hd.known,FU,G9,GU⟩=ar at*;repeat'(first|exact tT|refine WA tT (Y2 c1 AB) ?_ ?_|(refine HE ?_;clear hK K)|refine WR fun K hK=>?_|refine HT ?_|refine WC (fun h=>?_) fun h=>?_|exact ff|fail)
  have bI:=ax d;refine fun a w hG=>?_;have h0:G 111 B w0 ⟨[(4,.s 85)],(1000,.box 74 (.AF [.s 1002,.s 1004,.s 106,.s 1008,.s 1010,.s 1012]))::(106,.row 82 14 (.AF (ac++ar)))::(1002,.row 129 3 (.AF (E3 t.facts)))::(1004,.row 129 3 (.AF (E3 t.lines)))::(1008,.mp (.ints false .i64 t.fm))::(1010,.mp (.ints false .i64 t.lm))::(1012,.mp (.ints true .i64 t.am))::(85,.row 59 2 (.AF (J3 d)))::Y⟩ a w:=G.Al (AA Ai) Au a w hG;have h1:=h0.GR 85 _ rfl bI;push_cast[KH,Ec,Fo,Ge,Ik,Ij,KG,Ez,hY.ml (d:=85) (.row 59 2 (.AF (J3 d))) Zd]at h1;rw[show(J3 d).length / 2=d.length by omega]at h1;have h2:=QX (st:=⟨[(4,.i true (fun e j=>(J3 d).getD (e*2+j) .top) 2 0 d.length)],[(1000,.box 74 (.AF [.s 1002,.s 1004,.s 106,.s 1008,.s 1010,.s 1012])),(106,.row 82 14 (.AF (ac++ar))),(1002,.row 129 3 (.AF (E3 t.facts))),(1004,.row 129 3 (.AF (E3 t.lines))),(1008,.mp (.ints false .i64 t.fm)),(1010,.mp (.ints false .i64 t.lm)),(1012,.mp (.ints true .i64 t.am))]++Y⟩) (E:= [(4,.i true (fun e j=>(J3 d).getD (e*2+j) .top) 2 0 d.length)]) (pre:= [(1000,.box 74 (.AF [.s 1002,.s 1004,.s 106,.s 1008,.s 1010,.s 1012])),(106,.row 82 14 (.AF (ac++ar))),(1002,.row 129 3 (.AF (E3 t.facts))),(1004,.row 129 3 (.AF (E3 t.lines))),(1008,.mp (.ints false .i64 t.fm)),(1010,.mp (.ints false .i64 t.lm)),(1012,.mp (.ints true .i64 t.am))]) hY 106 1007 Zd Zd (fun _ _ h=>h) (by simp[Bg,AV.ids,AV.Av]) (by simp[Bz,AN.ids,AV.Av,AV.ids]) (Am.2 1007 Zd Zd) a w (G.Al (AA Ai) Au a w h1);push_cast[IL,Gd,List.cons_append,List.nil_append]at h2;exact h2.E8 ⟨AR.slice rfl (fun e j he hj=>by rw[Nat.zero_add,Ur d e j he hj];rfl),trivial⟩ Lk
end Go.Proofs.YthemnhjojaehhaaGreatDoor
