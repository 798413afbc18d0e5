/- Part of a proof. -/
import Derived.Test.YthemnhjojaehhaaGreatDoorA34
set_option linter.all false
namespace Go.Proofs.YthemnhjojaehhaaGreatDoor
open Go.Ad Go.Proofs Go.Tp
attribute [local irreducible] A8 AK BY Go.Ad.Pure BS
def sn(cs:List Nd)(k:Int)(i:Nat):Bool:=decide (0<Lx (cs.take i) k)
theorem Wp{cs:List Nd}{k:Int}{i:Nat}(h:i<cs.length):Lx (cs.take (i+1)) k=Lx (cs.take i) k+if(cs.getD i default).kind=k then 1 else 0:=by
 unfold Lx;rw[List.take_add_one,Zeg h,List.countP_append];have:cs.getD i default=cs[i]:=by simp[Zlg,h]
 rw[this];by_cases hk:cs[i].kind=k<;>simp[hk]
theorem jj{cs:List Nd}{k:Int}{i:Nat}:Lx (cs.take i) k≤Lx cs k:=by
 unfold Lx;exact(List.take_sublist i cs).countP_le
theorem Ug{l:List Nd}{i:Nat}(h:i<l.length):l.take (i+1)=l.take i++ [l.getD i default]:=by
 rw[List.take_add_one,Zlg,Zeg h];rfl
abbrev aB(s:ByteArray)(n:Int)(ks:AV):AN:=.box 27 (.AF [AE 4,An s,An ⟨#[]⟩,AE n,AE 0,AE 0,AE 0,AE 0,L5,ks,.o])
abbrev bB(b:Bool):AN:=.box 4 (.AF [BL b])
section
variable(full:List Tk)(en:Int)(BF:full.length≤2000)
include BF
set_option maxHeartbeats 32000000 in
theorem Yx{k0 k2 k3 k4:Int}{a t:Tk}{n:Int}{ts r:List Tk}{h:Nd}{cs:List Nd}{at_:Nat→List Tk}(ha:DU 1 a=some n)(ht:D2 t=true)(hh:OO ts h (⟨k3,Ka⟩::at_ 0))(hc: ∀i,i<cs.length→IY (at_ i) (cs.getD i default) (at_ (i+1)))
   (CB:at_ cs.length=⟨k4,Nk⟩::r) (h7:Lx cs 7≤1) (h8:Lx cs 8=1) (Ae:Cz (Ew n t.text h cs)):F6 55 full en [] (⟨k0,Gj⟩::a::⟨k2,r6⟩::t::ts) (Ew n t.text h cs) r:=by
 intro k E5 hk;obtain⟨FM,_,d1⟩:=AG hk;obtain⟨El,_,d2⟩:=AG d1;obtain⟨U3,_,d3⟩:=AG d2;obtain⟨Xo,_,d4⟩:=AG d3;obtain⟨d5,pJ,hF⟩:=jX full en BF hh _ Zo d4;obtain⟨ZT,_,d6⟩:=AG d5;have F4:=Ae.spec.kids
 have Pd: ∀i,i<cs.length→ ∃(k1:Int) (tl:List Tk),at_ i=⟨k1,Wi (cs.getD i default).kind⟩::tl∧F6 91 full en [AE (cs.getD i default).kind] (at_ i) (cs.getD i default) (at_ (i+1)):=fun i hi=>
  Yw full en BF (hc i hi) (by
   have:=F4.nth (k:=i+1) (by show i+1<(h::cs).length;simp;omega);have e2:(Ew n t.text h cs).kids.getD (i+1) default=cs.getD i default:=by show(h::cs).getD (i+1) default=_;rw[List.getD_cons_succ]
   rw[e2]at this;exact this)
 have J1: ∀i,i<cs.length→(cs.getD i default).kind=6∨(cs.getD i default).kind=7∨(cs.getD i default).kind=8:=fun i hi=>by
  have h1:=hc i hi;revert h1;generalize cs.getD i default=c;generalize at_ i=X;generalize at_ (i+1)=Z;intro h1;cases h1 with
  |ex hk _ _=>rcases hk with h|h;exact .inl h;exact .inr (.inr h)
  |un _ _ _ _=>exact .inr (.inl rfl)
 have hp5:k+1+1+1+1<full.length - (⟨k3,Ka⟩::at_ 0).length:=by
  have h1:=congrArg List.length d4;have h2:=congrArg List.length d5;rw[List.length_drop]at h1 h2;simp only[List.length_cons]at h1 h2 pJ ⊢;omega
 have qN:full.length - (⟨k3,Ka⟩::at_ 0).length+1=full.length - (at_ 0).length:=(IZ d6 Zo).symm
 have kk: ∀i,i≤cs.length→full.drop (full.length - (at_ i).length)=at_ i∧(at_ i).length+i≤(at_ 0).length:=fun i=>by
  induction i with
  |zero=>exact fun _=>⟨by rw[←qN];exact d6,Nat.le_refl _⟩
  |succ i ih=>
   intro hi;obtain⟨h1,h2⟩:=ih Zo;obtain⟨k1,tl,h3,h4⟩:=Pd i Zo;obtain⟨h5,h6,_⟩:=h4 _ (Nat.sub_le _ _) h1;exact⟨h5,Zo⟩
 have ABv:(at_ 0).length≤2000:=by have:=congrArg List.length d6;rw[List.length_drop]at this;omega
 have OR:cs.length≤2000:=by have:=(kk cs.length (Nat.le_refl _)).2;omega
 obtain⟨dz,ya⟩:=kk cs.length (Nat.le_refl _);rw[CB]at dz ya;obtain⟨yZ,_,dz2⟩:=AG dz;have e1:=Ax full k en _ _ hk BF _ rfl;have e2:=Dm full _ en _ _ 1 n d1 BF ha;have e3:=Ax full _ en _ _ d2 BF _ rfl;have hf:=JH t;rw[ht]at hf;have e4:=Fy full _ en _ _ d3 BF 84 hf;have e5:=Ax full _ en _ _ d5 BF _ rfl;refine E2 hk dz2 ⟨?_,Zo⟩ ?_
 ·have h1:=congrArg List.length d6;have h2:=congrArg List.length dz;rw[List.length_drop]at h1 h2;omega
 have HJ:=PM (h::cs);have Ct:=Ib true (h::cs);have VH:=Jk (h::cs);rw[List.length_cons]at VH;generalize full.length - (⟨k3,Ka⟩::at_ 0).length=m at*;refine FO 89 [.cell 2 27] Tryz.func55 Tryz.ntmps55 fun B w0 Y R Am Az hY AQ AW Aj hR=>?_;have AB:=vL AW AQ 2 3 4 5 6 29 30 44 45 67 68
 refine AI ⟨[(2,.p 2 0)],(2,.box 27 (.AF (A1 (Ew n t.text h cs))))::(CO full (full.length - (⟨k4,Nk⟩::r).length+1) en++Y)⟩ ER ?_;have H9:(AJ 30 Y=Y∧AJ 29 Y=Y∧AJ 45 Y=Y∧AJ 44 Y=Y∧AJ 67 Y=Y∧AJ 68 Y=Y∧AJ 6 Y=Y∧AJ 88 Y=Y)∧(Dh 30 Y=Y∧Dh 88 Y=Y)∧Gd 45 30 Y=Y∧Gd 68 30 Y=Y:=⟨⟨AQ _ Zd,AQ _ Zd,AQ _ Zd,AQ _ Zd,AQ _ Zd,AQ _ Zd,AQ _ Zd,AQ _ Zd⟩,⟨hY.del Zd,hY.del Zd⟩,hY.rn Zd,hY.rn Zd⟩;repeat'(first|exact tT|refine WA tT AB ?_ ?_|(refine EA e1 AB ?_;clear e1)|(refine EA e2 AB ?_;clear e2)|(refine EA e3 AB ?_;clear e3)|(refine EA e4 AB ?_;clear e4)|(refine HE ?_;clear hK K)|refine WN fun K hK=>?_|refine HT ?_|refine WC (fun h=>?_) fun h=>?_|exact ff|fail)
 refine A7 ⟨[(0,.p 1000 0),(2,.p 2 0),(3,.p 3 0)],[(3,aB t.text n (.s 88)),(88,.row 27 11 (.AF [])),(2,zB)]++(CO full (k+1+1+1+1) en++Y)⟩ (fun a' w hG=>by
  obtain⟨ρ,I,hg⟩:=hG;have hn:=hg.BQ.JQ;have hG:G 89 B w0 _ a' w:=⟨ρ,I,hg⟩;have h0:G 89 B w0 ⟨[(0,.p 1000 0),(2,.p 2 0),(3,.p 3 0)],[(3,aB t.text n L5),(2,zB)]++(CO full (k+1+1+1+1) en++Y)⟩ a' w:=(G.Al (AA Ai) Au) a' w hG;have h1:=h0.KS 3 88 9 27 27 11 (.AF []) rfl rfl Zd rfl (hn 88 Zd);push_cast[H9,List.cons_append,List.nil_append]at h1;exact(G.Al (AA Ai) Au) a' w h1) ?_
 simp only[List.cons_append,List.nil_append]
 (apply JY hm [([oF,oF,oF,oF,oF,oF,oF,oF],_),([oT,oF,oF,oF,oF,oF,oF,oF],_),([oF,oF,oT,oF,oF,oF,oF,oF],_),([oT,oT,oF,oF,oF,oF,oF,oF],_),([oT,oF,oT,oF,oF,oF,oF,oF],_),([oF,oF,oT,oT,oF,oF,oF,oF],_),([oT,oT,oT,oF,oF,oF,oF,oF],_),([oT,oF,oT,oT,oF,oF,oF,oF],_),([oF,oF,oT,oT,oT,oF,oF,oF],_),([oT,oT,oT,oT,oF,oF,oF,oF],_),([oT,oF,oT,oT,oT,oF,oF,oF],_),([oT,oT,oT,oT,oT,oF,oF,oF],_),([oT,oT,oT,oT,oT,oT,oF,oF],_),([oT,oT,oT,oT,oT,oT,oT,oF],_),([oT,oT,oT,oT,oT,oT,oT,oT],_)] rfl;intro K Jz;repeat' (first|(refine Hb ZD ?_;refine Jz _ ?_;clear Jz K;push_cast)|refine AD 0 [2] ZD ?_ ?_|refine AD 0 [3] ZD ?_ ?_|refine AD 0 [4] ZD ?_ ?_|refine AD 0 [] ZD ?_ ?_|refine AD 1 [2] ZD ?_ ?_|refine AD 1 [3] ZD ?_ ?_|refine AD 1 [4] ZD ?_ ?_|refine AD 1 [] ZD ?_ ?_|refine AD 2 [] ZD ?_ ?_|refine AD 3 [] ZD ?_ ?_|refine AD 4 [] ZD ?_ ?_|refine AD 5 [] ZD ?_ ?_|refine AD 6 [] ZD ?_ ?_|refine AD 7 [] ZD ?_ ?_|exact Hc|refine GL rfl (fun K3 Kj=>?_) ?_|(refine A9 ?_;first|exact Kj _ _ rfl (fun _ _ h=>h)|exact Kj _ _ rfl (G.ql (by(repeat' (first|exact trivial|exact .inr rfl|exact .inl rfl|refine⟨?_,?_⟩))) rfl)|exact Kj _ _ rfl (G.uM (by(repeat' (first|exact trivial|exact .inr rfl|exact .inl rfl|refine⟨?_,?_⟩))) (by(repeat' (first|exact trivial|exact .inr rfl|exact .inl rfl|refine⟨?_,?_⟩)))))|exact tT|refine WA tT (Y2 H9 AB) ?_ ?_|(refine WQ (Y2 H9 AB) fun K' AX=>?_;(repeat refine AS ?_ ?_);(first|refine⟨A1 h,⟨rfl,(fun el j h1 h2=>rfl),rfl,Zo,Zo⟩,?_⟩|refine⟨A1 h,⟨rfl,(fun el j h1 h2=>rfl),rfl⟩,?_⟩);refine AX _ ?_;clear AX K')|refine EA hF (Y2 H9 AB) ?_|fail))
 all_goals try exact ff
 repeat'(first|exact tT|refine WA tT (Y2 H9 AB) ?_ ?_|(refine EA e5 (Y2 H9 AB) ?_;clear e5)|(refine HE ?_;clear hK K)|refine WN fun K hK=>?_|refine HT ?_|refine WC (fun h=>?_) fun h=>?_|exact ff|fail)
 refine AM (α:=Nat) (fun i=>⟨[(0,.p 1000 0),(2,.p 2 0),(3,.p 3 0),(4,.p 4 0),(5,.p 5 0)],[(3,aB t.text n (.s 30)),(30,.row 27 11 (.AF (Gn (h::cs.take i)))),(4,bB (sn cs 7 i)),(5,bB (sn cs 8 i)),(2,zB)]++(CO full (full.length - (at_ i).length) en++Y)⟩) (fun i=>i≤cs.length) (fun i=>cs.length - i) 0 (Nat.zero_le _) (by
  rw[←qN,show Gn (h::cs.take 0)=A1 h from Ia h];exact G.Al (AA Ai) Au) fun i hi=>?_
 obtain⟨h1,h2⟩:=kk i hi;have lb:=Jk (h::cs.take i);rw[List.length_cons,List.length_take,Nat.min_eq_left hi]at lb;have Gv:(Gn (h::cs.take i)).length / 11=i+1:=Zo
 by_cases Ak:i<cs.length
 ·obtain⟨k1,tl,h3,h4⟩:=Pd i Ak;obtain⟨_,_,hF⟩:=h4 _ (Nat.sub_le _ _) h1;have RQ:=J1 i Ak;have BE:Gn (h::cs.take (i+1))=Gn (h::cs.take i)++A1 (cs.getD i default):=by rw[Ug Ak,←List.cons_append,Ua,Ia]
  have ct7:=Wp (k:=7) Ak;have ct8:=Wp (k:=8) Ak;have cl7:= @jj cs 7 (i+1);have cl8:= @jj cs 8 (i+1);have AAL:(cs.getD i default).kind=7→sn cs 7 (i+1)=true:=fun hk=>by rw[if_pos hk]at ct7;unfold sn;exact Zde Zo
  have AAM:(cs.getD i default).kind=8→sn cs 8 (i+1)=true:=fun hk=>by rw[if_pos hk]at ct8;unfold sn;exact Zde Zo
  have xS:(cs.getD i default).kind≠7→sn cs 7 (i+1)=sn cs 7 i:=fun hk=>by rw[if_neg hk]at ct7;unfold sn;rw[ct7];rfl
  have xT:(cs.getD i default).kind≠8→sn cs 8 (i+1)=sn cs 8 i:=fun hk=>by rw[if_neg hk]at ct8;unfold sn;rw[ct8];rfl
  have AAN:(cs.getD i default).kind=7→sn cs 7 i=false:=fun hk=>by rw[if_pos hk]at ct7;unfold sn;exact Zdf Zo
  have AAO:(cs.getD i default).kind=8→sn cs 8 i=false:=fun hk=>by rw[if_pos hk]at ct8;unfold sn;exact Zdf Zo
  clear J1 Pd kk ct7 ct8 cl7 cl8 h4;generalize cs.getD i default=c at*;rcases RQ with RQ|RQ|RQ
  ·have RZ:c.kind=6:=RQ;rw[RZ]at hF h3;rw[show Wi 6=aU from rfl]at h3;have q0:decide (aU=⟨#[119,104,101,110]⟩)=true:=Zd
   have xU:sn cs 7 (i+1)=sn cs 7 i:=xS Zo;have eo:sn cs 8 (i+1)=sn cs 8 i:=xT Zo;rw[h3]at h1;have e6:=Cq full _ en _ _ h1;generalize sn cs 7 i=s7 at*;generalize sn cs 8 i=s8 at*;rw[show full.length - (⟨k1,aU⟩::tl).length=full.length - (at_ i).length by rw[h3]]at e6;generalize yb:full.length - (at_ i).length=mi at*;generalize Kl:full.length - (at_ (i+1)).length=mi1 at*;generalize Gn (h::cs.take i)=L at*;repeat'(first|exact tT|refine WA tT (Y3 H9 q0 AB) ?_ ?_|(refine EA e6 (Y3 H9 q0 AB) ?_;clear e6)|(refine HE ?_;clear hK K)|refine WN fun K hK=>?_|refine HT ?_|refine WC (fun h=>?_) fun h=>?_|exact ff|fail)
   all_goals first|omega|skip
   (apply JY hm [([oF,oF,oF,oF,oF,oF,oF,oF],_),([oT,oF,oF,oF,oF,oF,oF,oF],_),([oF,oF,oT,oF,oF,oF,oF,oF],_),([oT,oT,oF,oF,oF,oF,oF,oF],_),([oT,oF,oT,oF,oF,oF,oF,oF],_),([oF,oF,oT,oT,oF,oF,oF,oF],_),([oT,oT,oT,oF,oF,oF,oF,oF],_),([oT,oF,oT,oT,oF,oF,oF,oF],_),([oF,oF,oT,oT,oT,oF,oF,oF],_),([oT,oT,oT,oT,oF,oF,oF,oF],_),([oT,oF,oT,oT,oT,oF,oF,oF],_),([oT,oT,oT,oT,oT,oF,oF,oF],_),([oT,oT,oT,oT,oT,oT,oF,oF],_),([oT,oT,oT,oT,oT,oT,oT,oF],_),([oT,oT,oT,oT,oT,oT,oT,oT],_)] rfl;intro K Jz;repeat' (first|(refine Hb ZD ?_;refine Jz _ ?_;clear Jz K;push_cast)|refine AD 0 [2] ZD ?_ ?_|refine AD 0 [3] ZD ?_ ?_|refine AD 0 [4] ZD ?_ ?_|refine AD 0 [] ZD ?_ ?_|refine AD 1 [2] ZD ?_ ?_|refine AD 1 [3] ZD ?_ ?_|refine AD 1 [4] ZD ?_ ?_|refine AD 1 [] ZD ?_ ?_|refine AD 2 [] ZD ?_ ?_|refine AD 3 [] ZD ?_ ?_|refine AD 4 [] ZD ?_ ?_|refine AD 5 [] ZD ?_ ?_|refine AD 6 [] ZD ?_ ?_|refine AD 7 [] ZD ?_ ?_|exact Hc|refine GL rfl (fun K3 Kj=>?_) ?_|(refine A9 ?_;first|exact Kj _ _ rfl (fun _ _ h=>h)|exact Kj _ _ rfl (G.ql (by(repeat' (first|exact trivial|exact .inr rfl|exact .inl rfl|refine⟨?_,?_⟩))) rfl)|exact Kj _ _ rfl (G.uM (by(repeat' (first|exact trivial|exact .inr rfl|exact .inl rfl|refine⟨?_,?_⟩))) (by(repeat' (first|exact trivial|exact .inr rfl|exact .inl rfl|refine⟨?_,?_⟩)))))|exact tT|refine WA tT (Y3 H9 Gv AB) ?_ ?_|(refine WQ (Y3 H9 Gv AB) fun K' AX=>?_;(repeat refine AS ?_ ?_);(first|refine⟨A1 c,⟨rfl,(fun el j h1 h2=>rfl),rfl,Zo,Zo⟩,?_⟩);refine AX _ ?_;clear AX K')|refine EA hF (Y3 H9 Gv AB) ?_|fail))
   all_goals first|omega|skip
   repeat'(first|exact tT|refine WA tT (Y2 H9 AB) ?_ ?_|(refine HE ?_;clear hK K)|refine WN fun K hK=>?_|refine HT ?_|refine WC (fun h=>?_) fun h=>?_|fail)
   all_goals first|omega|skip
   refine⟨i+1,⟨Zo,Zo⟩,fun a' w hG=>?_⟩;obtain⟨ρ,I,hg⟩:=hG;have hn:=hg.BQ.JQ;have hG:G 89 B w0 _ a' w:=⟨ρ,I,hg⟩;have h0:G 89 B w0 ⟨[(0,.p 1000 0),(2,.p 2 0),(3,.p 3 0),(4,.p 4 0),(5,.p 5 0)],[(3,aB t.text n (.s 45)),(45,.row 27 11 (.AF (L++A1 c))),(4,bB s7),(5,bB s8),(2,zB)]++(CO full mi1 en++Y)⟩ a' w:=(G.Al (AA Ai) Au) a' w hG;have h1:=h0.rn 45 30 NI NI (hn 30 Zd);push_cast[IL,Gd,H9,List.cons_append,List.nil_append]at h1;simp only[BE,xU,eo,Kl];exact(G.Al (AA Ai) Au) a' w h1
  ·have RZ:c.kind=7:=RQ;rw[RZ]at hF h3;rw[show Wi 7=Jj from rfl]at h3;have q0:decide (Jj=⟨#[119,104,101,110]⟩)=false:=Zd
   have q1:decide (Jj=⟨#[117,110,108,101,115,115]⟩)=true:=Zd
   have q2:decide (Jj=⟨#[97,109,111,117,110,116]⟩)=false:=Zd
   have xU:sn cs 7 (i+1)=true:=AAL RZ;have eo:sn cs 8 (i+1)=sn cs 8 i:=xT Zo;have hz7:sn cs 7 i=false:=AAN RZ;rw[hz7];rw[h3]at h1;have e6:=Cq full _ en _ _ h1;generalize sn cs 7 i=s7 at*;generalize sn cs 8 i=s8 at*;rw[show full.length - (⟨k1,Jj⟩::tl).length=full.length - (at_ i).length by rw[h3]]at e6;generalize yb:full.length - (at_ i).length=mi at*;generalize Kl:full.length - (at_ (i+1)).length=mi1 at*;generalize Gn (h::cs.take i)=L at*;repeat'(first|exact tT|refine WA tT (Y5 H9 q0 q1 q2 AB) ?_ ?_|(refine EA e6 (Y5 H9 q0 q1 q2 AB) ?_;clear e6)|(refine HE ?_;clear hK K)|refine WN fun K hK=>?_|refine HT ?_|refine WC (fun h=>?_) fun h=>?_|exact ff|fail)
   all_goals first|omega|skip
   (apply JY hm [([oF,oF,oF,oF,oF,oF,oF,oF,oF],_),([oT,oF,oF,oF,oF,oF,oF,oF,oF],_),([oF,oF,oT,oF,oF,oF,oF,oF,oF],_),([oF,oF,oF,oT,oF,oF,oF,oF,oF],_),([oT,oT,oF,oF,oF,oF,oF,oF,oF],_),([oT,oF,oT,oF,oF,oF,oF,oF,oF],_),([oT,oF,oF,oT,oF,oF,oF,oF,oF],_),([oF,oF,oT,oT,oF,oF,oF,oF,oF],_),([oT,oT,oT,oF,oF,oF,oF,oF,oF],_),([oT,oT,oF,oT,oF,oF,oF,oF,oF],_),([oT,oF,oT,oT,oF,oF,oF,oF,oF],_),([oF,oF,oT,oT,oT,oF,oF,oF,oF],_),([oT,oT,oT,oT,oF,oF,oF,oF,oF],_),([oT,oF,oT,oT,oT,oF,oF,oF,oF],_),([oF,oF,oT,oT,oT,oT,oF,oF,oF],_),([oT,oT,oT,oT,oT,oF,oF,oF,oF],_),([oT,oF,oT,oT,oT,oT,oF,oF,oF],_),([oT,oT,oT,oT,oT,oT,oF,oF,oF],_),([oT,oT,oT,oT,oT,oT,oT,oF,oF],_),([oT,oT,oT,oT,oT,oT,oT,oT,oF],_),([oT,oT,oT,oT,oT,oT,oT,oT,oT],_)] rfl;intro K Jz;repeat' (first|(refine Hb ZD ?_;refine Jz _ ?_;clear Jz K;push_cast)|refine AD 0 [2,3] ZD ?_ ?_|refine AD 0 [2] ZD ?_ ?_|refine AD 0 [3] ZD ?_ ?_|refine AD 0 [4] ZD ?_ ?_|refine AD 0 [5] ZD ?_ ?_|refine AD 0 [] ZD ?_ ?_|refine AD 1 [2,3] ZD ?_ ?_|refine AD 1 [2] ZD ?_ ?_|refine AD 1 [3] ZD ?_ ?_|refine AD 1 [4] ZD ?_ ?_|refine AD 1 [5] ZD ?_ ?_|refine AD 1 [] ZD ?_ ?_|refine AD 2 [3] ZD ?_ ?_|refine AD 2 [] ZD ?_ ?_|refine AD 3 [] ZD ?_ ?_|refine AD 4 [] ZD ?_ ?_|refine AD 5 [] ZD ?_ ?_|refine AD 6 [] ZD ?_ ?_|refine AD 7 [] ZD ?_ ?_|refine AD 8 [] ZD ?_ ?_|exact Hc|refine GL rfl (fun K3 Kj=>?_) ?_|(refine A9 ?_;first|exact Kj _ _ rfl (fun _ _ h=>h)|exact Kj _ _ rfl (G.ql (by(repeat' (first|exact trivial|exact .inr rfl|exact .inl rfl|refine⟨?_,?_⟩))) rfl)|exact Kj _ _ rfl (G.uM (by(repeat' (first|exact trivial|exact .inr rfl|exact .inl rfl|refine⟨?_,?_⟩))) (by(repeat' (first|exact trivial|exact .inr rfl|exact .inl rfl|refine⟨?_,?_⟩)))))|exact tT|refine WA tT (Y3 H9 Gv AB) ?_ ?_|(refine WQ (Y3 H9 Gv AB) fun K' AX=>?_;(repeat refine AS ?_ ?_);(first|refine⟨A1 c,⟨rfl,(fun el j h1 h2=>rfl),rfl,Zo,Zo⟩,?_⟩);refine AX _ ?_;clear AX K')|refine EA hF (Y3 H9 Gv AB) ?_|fail))
   all_goals first|omega|skip
   repeat'(first|exact tT|refine WA tT (Y2 H9 AB) ?_ ?_|(refine HE ?_;clear hK K)|refine WN fun K hK=>?_|refine HT ?_|refine WC (fun h=>?_) fun h=>?_|fail)
   all_goals first|omega|skip
   refine⟨i+1,⟨Zo,Zo⟩,fun a' w hG=>?_⟩;obtain⟨ρ,I,hg⟩:=hG;have hn:=hg.BQ.JQ;have hG:G 89 B w0 _ a' w:=⟨ρ,I,hg⟩;have h0:G 89 B w0 ⟨[(0,.p 1000 0),(2,.p 2 0),(3,.p 3 0),(4,.p 4 0),(5,.p 5 0)],[(3,aB t.text n (.s 68)),(68,.row 27 11 (.AF (L++A1 c))),(4,bB true),(5,bB s8),(2,zB)]++(CO full mi1 en++Y)⟩ a' w:=(G.Al (AA Ai) Au) a' w hG;have h1:=h0.rn 68 30 NI NI (hn 30 Zd);push_cast[IL,Gd,H9,List.cons_append,List.nil_append]at h1;simp only[BE,xU,eo,Kl];exact(G.Al (AA Ai) Au) a' w h1
  ·have RZ:c.kind=8:=RQ;rw[RZ]at hF h3;rw[show Wi 8=K0 from rfl]at h3;have q0:decide (K0=⟨#[119,104,101,110]⟩)=false:=Zd
   have q1:decide (K0=⟨#[117,110,108,101,115,115]⟩)=false:=Zd
   have q2:decide (K0=⟨#[97,109,111,117,110,116]⟩)=true:=Zd
   have xU:sn cs 7 (i+1)=sn cs 7 i:=xS Zo;have eo:sn cs 8 (i+1)=true:=AAM RZ;have hz8:sn cs 8 i=false:=AAO RZ;rw[hz8];rw[h3]at h1;have e6:=Cq full _ en _ _ h1;generalize sn cs 7 i=s7 at*;generalize sn cs 8 i=s8 at*;rw[show full.length - (⟨k1,K0⟩::tl).length=full.length - (at_ i).length by rw[h3]]at e6;generalize yb:full.length - (at_ i).length=mi at*;generalize Kl:full.length - (at_ (i+1)).length=mi1 at*;generalize Gn (h::cs.take i)=L at*;repeat'(first|exact tT|refine WA tT (Y5 H9 q0 q1 q2 AB) ?_ ?_|(refine EA e6 (Y5 H9 q0 q1 q2 AB) ?_;clear e6)|(refine HE ?_;clear hK K)|refine WN fun K hK=>?_|refine HT ?_|refine WC (fun h=>?_) fun h=>?_|exact ff|fail)
   all_goals first|omega|skip
   (apply JY hm [([oF,oF,oF,oF,oF,oF,oF,oF,oF],_),([oT,oF,oF,oF,oF,oF,oF,oF,oF],_),([oF,oF,oT,oF,oF,oF,oF,oF,oF],_),([oF,oF,oF,oT,oF,oF,oF,oF,oF],_),([oT,oT,oF,oF,oF,oF,oF,oF,oF],_),([oT,oF,oT,oF,oF,oF,oF,oF,oF],_),([oT,oF,oF,oT,oF,oF,oF,oF,oF],_),([oF,oF,oT,oT,oF,oF,oF,oF,oF],_),([oT,oT,oT,oF,oF,oF,oF,oF,oF],_),([oT,oT,oF,oT,oF,oF,oF,oF,oF],_),([oT,oF,oT,oT,oF,oF,oF,oF,oF],_),([oF,oF,oT,oT,oT,oF,oF,oF,oF],_),([oT,oT,oT,oT,oF,oF,oF,oF,oF],_),([oT,oF,oT,oT,oT,oF,oF,oF,oF],_),([oF,oF,oT,oT,oT,oT,oF,oF,oF],_),([oT,oT,oT,oT,oT,oF,oF,oF,oF],_),([oT,oF,oT,oT,oT,oT,oF,oF,oF],_),([oT,oT,oT,oT,oT,oT,oF,oF,oF],_),([oT,oT,oT,oT,oT,oT,oT,oF,oF],_),([oT,oT,oT,oT,oT,oT,oT,oT,oF],_),([oT,oT,oT,oT,oT,oT,oT,oT,oT],_)] rfl;intro K Jz;repeat' (first|(refine Hb ZD ?_;refine Jz _ ?_;clear Jz K;push_cast)|refine AD 0 [2,3] ZD ?_ ?_|refine AD 0 [2] ZD ?_ ?_|refine AD 0 [3] ZD ?_ ?_|refine AD 0 [4] ZD ?_ ?_|refine AD 0 [5] ZD ?_ ?_|refine AD 0 [] ZD ?_ ?_|refine AD 1 [2,3] ZD ?_ ?_|refine AD 1 [2] ZD ?_ ?_|refine AD 1 [3] ZD ?_ ?_|refine AD 1 [4] ZD ?_ ?_|refine AD 1 [5] ZD ?_ ?_|refine AD 1 [] ZD ?_ ?_|refine AD 2 [3] ZD ?_ ?_|refine AD 2 [] ZD ?_ ?_|refine AD 3 [] ZD ?_ ?_|refine AD 4 [] ZD ?_ ?_|refine AD 5 [] ZD ?_ ?_|refine AD 6 [] ZD ?_ ?_|refine AD 7 [] ZD ?_ ?_|refine AD 8 [] ZD ?_ ?_|exact Hc|refine GL rfl (fun K3 Kj=>?_) ?_|(refine A9 ?_;first|exact Kj _ _ rfl (fun _ _ h=>h)|exact Kj _ _ rfl (G.ql (by(repeat' (first|exact trivial|exact .inr rfl|exact .inl rfl|refine⟨?_,?_⟩))) rfl)|exact Kj _ _ rfl (G.uM (by(repeat' (first|exact trivial|exact .inr rfl|exact .inl rfl|refine⟨?_,?_⟩))) (by(repeat' (first|exact trivial|exact .inr rfl|exact .inl rfl|refine⟨?_,?_⟩)))))|exact tT|refine WA tT (Y3 H9 Gv AB) ?_ ?_|(refine WQ (Y3 H9 Gv AB) fun K' AX=>?_;(repeat refine AS ?_ ?_);(first|refine⟨A1 c,⟨rfl,(fun el j h1 h2=>rfl),rfl,Zo,Zo⟩,?_⟩);refine AX _ ?_;clear AX K')|refine EA hF (Y3 H9 Gv AB) ?_|fail))
   all_goals first|omega|skip
   repeat'(first|exact tT|refine WA tT (Y2 H9 AB) ?_ ?_|(refine HE ?_;clear hK K)|refine WN fun K hK=>?_|refine HT ?_|refine WC (fun h=>?_) fun h=>?_|fail)
   all_goals first|omega|skip
   refine⟨i+1,⟨Zo,Zo⟩,fun a' w hG=>?_⟩;obtain⟨ρ,I,hg⟩:=hG;have hn:=hg.BQ.JQ;have hG:G 89 B w0 _ a' w:=⟨ρ,I,hg⟩;have h0:G 89 B w0 ⟨[(0,.p 1000 0),(2,.p 2 0),(3,.p 3 0),(4,.p 4 0),(5,.p 5 0)],[(3,aB t.text n (.s 68)),(68,.row 27 11 (.AF (L++A1 c))),(4,bB s7),(5,bB true),(2,zB)]++(CO full mi1 en++Y)⟩ a' w:=(G.Al (AA Ai) Au) a' w hG;have h1:=h0.rn 68 30 NI NI (hn 30 Zd);push_cast[IL,Gd,H9,List.cons_append,List.nil_append]at h1;simp only[BE,xU,eo,Kl];exact(G.Al (AA Ai) Au) a' w h1
 ·have JO:i=cs.length:=Zo
  have eo:sn cs 8 i=true:=by unfold sn;rw[JO,List.take_length];exact Zde Zo
  have N2:h::cs.take i=h::cs:=by rw[JO,List.take_length]
  rw[N2]at Gv ⊢;rw[eo];rw[JO,CB]at h1;have xV:full.length - (at_ i).length=full.length - (⟨k4,Nk⟩::r).length:=by rw[JO,CB]
  rw[xV];have e6:=Cq full _ en _ _ h1;have q0:decide (Nk=⟨#[119,104,101,110]⟩)=false:=Zd
  have q1:decide (Nk=⟨#[117,110,108,101,115,115]⟩)=false:=Zd
  have q2:decide (Nk=⟨#[97,109,111,117,110,116]⟩)=false:=Zd
  have q3:decide (Nk=⟨#[125]⟩)=true:=Zd
  have AAP:(Gn (h::cs)).length / 11=(h::cs).length:=by rw[VH,List.length_cons];omega
  generalize sn cs 7 i=s7 at*;generalize full.length - (⟨k4,Nk⟩::r).length=mz at*
  refine A7 ⟨[(0,.p 1000 0),(2,.p 2 0),(3,.p 3 0),(4,.p 4 0),(5,.p 5 0)],[(3,aB t.text n (.i true (fun e' j=>(Gn (h::cs)).getD (e'*11+j) .top) 11 0 (h::cs).length)),(4,bB s7),(5,bB true),(2,zB)]++(CO full mz en++Y)⟩ (fun a' w hG=>by
   have h0:G 89 B w0 ⟨[(0,.p 1000 0),(2,.p 2 0),(3,.p 3 0),(4,.p 4 0),(5,.p 5 0)],[(3,aB t.text n (.s 30)),(30,.row 27 11 (.AF (Gn (h::cs)))),(4,bB s7),(5,bB true),(2,zB)]++(CO full mz en++Y)⟩ a' w:=(G.Al (AA Ai) Au) a' w hG;have h1:=h0.GR 30 _ rfl HJ;push_cast[KH,Ec,Fo,Ge,Ik,Ij,KG,Ez,hY.ml (d:=30) (.row 27 11 (.AF (Gn (h::cs)))) Zd,AAP,List.cons_append,List.nil_append]at h1;exact(G.Al (AA Ai) Au) a' w h1) ?_
  simp only[List.cons_append,List.nil_append];repeat'(first|exact tT|refine WA tT (Y6 H9 q0 q1 q2 q3 AB) ?_ ?_|(refine EA e6 (Y6 H9 q0 q1 q2 q3 AB) ?_;clear e6)|(refine HE ?_;clear hK K)|refine WN fun K hK=>?_|refine HT ?_|refine WC (fun h=>?_) fun h=>?_|exact ff|fail)
  all_goals first|omega|skip
  exact LV
end
end Go.Proofs.YthemnhjojaehhaaGreatDoor
