/- Part of a proof. -/
import Derived.Test.YthemnhjojaehhaaGreatDoorA39
import Derived.Test.YthemnhjojaehhaaGreatDoorA24
set_option linter.all false
namespace Go.Proofs.YthemnhjojaehhaaGreatDoor
open Go.Ad Go.Proofs Go.Tp
attribute [local irreducible] A8 AK BY Go.Ad.Pure BS
def E3:List De→List AV
 | []=> []
 |p::r=>An p.name::An p.u::AE p.role::E3 r
theorem K7(l:List De):(E3 l).length=l.length*3:=by
 induction l with
 |nil=>rfl
 |cons p r ih=>simp only[E3,List.length_cons,ih];omega
theorem Up(l:List De)(e j:Nat)(he:e<l.length)(hj:j<3):(E3 l).getD (e*3+j) .top=(Vn (l.getD e default)).getD j .top:=by
 induction l generalizing e with
 |nil=>simp at he
 |cons p r ih=>
  cases e with
  |zero=>rw[Nat.zero_mul,Nat.zero_add];match j,hj with|0,_=>rfl|1,_=>rfl|2,_=>rfl
  |succ e=>
   have:=ih e (by simpa using he);rw[show(e+1)*3+j=(e*3+j)+3 by omega];simpa[E3]using this
theorem oG(a b:List De):E3 (a++b)=E3 a++E3 b:=by
 induction a with
 |nil=>rfl
 |cons x r ih=>simp only[List.cons_append,E3,ih]
def Nw:List Ex→List AV
 | []=> []
 |x::r=>DO x++Nw r
theorem Pa(l:List Ex):(Nw l).length=l.length*6:=by
 induction l with
 |nil=>rfl
 |cons p r ih=>simp only[Nw,List.length_append,List.length_cons,ih,DO,List.length_nil];omega
theorem aq(a b:List Ex):Nw (a++b)=Nw a++Nw b:=by
 induction a with
 |nil=>rfl
 |cons x r ih=>simp only[List.cons_append,Nw,ih,List.append_assoc]
theorem sk(l:List Ex)(e j:Nat)(he:e<l.length)(hj:j<6):(Nw l).getD (e*6+j) .top=(DO (l.getD e default)).getD j .top:=by
 induction l generalizing e with
 |nil=>simp at he
 |cons p r ih=>
  cases e with
  |zero=>rw[Nat.zero_mul,Nat.zero_add];match j,hj with|0,_=>rfl|1,_=>rfl|2,_=>rfl|3,_=>rfl|4,_=>rfl|5,_=>rfl
  |succ e=>
   have:=ih e (by simpa using he);rw[show(e+1)*6+j=(e*6+j)+6 by omega];simpa[Nw,DO]using this
theorem au(l:List Ex):AV.Dp (Nw l)=true:=by
 induction l with
 |nil=>rfl
 |cons p r ih=>
  show AV.Dp (_::_::_::_::_::_::Nw r)=true;simp only[AV.Dp,ih];rfl
theorem aw(l:List Ex):AR (.i true (fun e j=>(Nw l).getD (e*6+j) .top) 6 0 l.length) (Dq l):=AR.slice rfl fun e j he hj=>by
 rw[Nat.zero_add,sk l e j he hj,DH he]
abbrev Gt(t:Tr)(ac:List AV):List (Nat×AN):= [(1000,.box 74 (.AF [.s 1002,.s 1004,.s 1007,.s 1008,.s 1010,.s 1012])),(1002,.row 129 3 (.AF (E3 t.facts))),(1004,.row 129 3 (.AF (E3 t.lines))),(1007,.row 82 14 (.AF ac)),(1008,.mp (.ints false .i64 t.fm)),(1010,.mp (.ints false .i64 t.lm)),(1012,.mp (.ints true .i64 t.am))]
def R6(f:Nat)(t:Tr)(ac:List AV)(e:Nd):Prop:=BS Tryz.prog T f [.p 1000 0,.a (A1 e)] (Gt t ac) (.a (DO (Fk t e))) (Gt t ac)
set_option maxHeartbeats 4000000 in
theorem oH(t:Tr)(ac:List AV)(e:Nd)(Ae:Cz e)(Bh:e.size≤100000)(ih: ∀k∈e.kids,R6 62 t ac k):BS Tryz.prog T 121 [.p 1000 0,.a (A1 e)] (Gt t ac) (Dq (e.kids.map (Fk t))) (Gt t ac):=by
 have Ci:=Ae.spec.kids;have hl:=Ci.2;have E5:=PU e;have ihk: ∀j,j<e.kids.length→BS Tryz.prog T 62 [.p 1000 0,.a (A1 (e.kids.getD j default))] (Gt t ac) (.a (DO (Fk t (e.kids.getD j default)))) (Gt t ac):=fun j hj=>ih _ (Ap hj);refine FO 23 [.tmp 4] Tryz.func121 Tryz.ntmps121 fun B w0 Y R Am Az hY AQ AW Aj hR=>?_;have AB:=MF AW AQ 3 7 19 20
 refine AI ⟨[(4,Dq (e.kids.map (Fk t)))],Gt t ac++Y⟩ ER ?_;repeat'(first|exact tT|refine WA tT AB ?_ ?_|(refine HE ?_;clear hK K)|refine WR fun K hK=>?_|refine HT ?_|refine WC (fun h=>?_) fun h=>?_|exact ff|fail)
 refine A7 ⟨[(11,AE 0),(10,AE e.kids.length),(9,CS e.kids),(5,.s 20),(0,.p 1000 0)],(20,.row 80 6 (.AF []))::(Gt t ac++Y)⟩ (fun a w hG=>by
  have h:=hG.Th 5 20 rfl Zd 80 6 (.AF []) rfl;push_cast[AQ 20 Zd]at h;exact G.Al (AA Ai) Au a w h) ?_
 refine AM (α:=Nat) (fun j=>⟨[(11,AE j),(10,AE e.kids.length),(9,CS e.kids),(5,.s 20),(0,.p 1000 0)],(20,.row 80 6 (.AF (Nw ((e.kids.take j).map (Fk t)))))::(Gt t ac++Y)⟩) (fun j=>j≤e.kids.length) (fun j=>e.kids.length - j) 0 (Nat.zero_le _) (by exact G.Al (AA Ai) Au) fun j hj=>?_;by_cases Ak:j<e.kids.length
 ·have c1:=DT ((j:Int)<(e.kids.length:Int));have kid:=Aw Ak;have hc:=ihk j Ak;have km:(e.kids.take (j+1)).map (Fk t)=(e.kids.take j).map (Fk t)++ [Fk t (e.kids.getD j default)]:=by rw[Cx Ak];simp
  have RY:=Pa ((e.kids.take j).map (Fk t));rw[List.length_map,List.length_take,Nat.min_eq_left hj]at RY;generalize (e.kids.take j).map (Fk t)=us at*;generalize Fk t (e.kids.getD j default)=x at*;have uI:(Nw us).length / 6=j:=Zo
  have Xb:Nw us++DO x=Nw (us++ [x]):=by rw[aq];simp[Nw]
  simp only[DO,C2,Dq]at Xb;have uJ:Dh 20 Y=Y∧AJ 20 Y=Y:=⟨hY.del Zd,AQ 20 Zd⟩;repeat'(first|exact tT|refine WA tT (Y5 c1 kid uI uJ AB) ?_ ?_|(refine WQ (Y5 c1 kid uI uJ AB) fun K' AX=>?_;(repeat refine AS ?_ ?_);(first|refine⟨DO x,⟨rfl,(fun el j h1 h2=>rfl),rfl,Zo,Zo⟩,?_⟩);refine AX _ ?_;clear AX K')|refine EO hc (Y5 c1 kid uI uJ AB) ?_|(refine HE ?_;clear hK K)|refine WR fun K hK=>?_|refine HT ?_|refine WC (fun h=>?_) fun h=>?_|exact ff|fail)
  all_goals (refine⟨j+1,⟨Zo,Zo⟩,?_⟩;simp only[km];rw[←Xb];exact G.Al (AA Ai) Au)
 ·obtain rfl:j=e.kids.length:=Zo
  have c1:=DF ((e.kids.length:Int)<(e.kids.length:Int));rw[List.take_length];have RY:=Pa (e.kids.map (Fk t));have HJ:=au (e.kids.map (Fk t));have Ct:=aw (e.kids.map (Fk t));generalize e.kids.map (Fk t)=us at*;repeat'(first|exact tT|refine WA tT (Y2 c1 AB) ?_ ?_|(refine HE ?_;clear hK K)|refine WR fun K hK=>?_|refine HT ?_|refine WC (fun h=>?_) fun h=>?_|exact ff|fail)
  refine fun a w hG=>?_;have h0:G 23 B w0 ⟨[(4,.s 20)],(20,.row 80 6 (.AF (Nw us)))::(Gt t ac++Y)⟩ a w:=G.Al (AA Ai) Au a w hG;have h1:=h0.GR 20 _ rfl HJ;push_cast[KH,Ec,Fo,Ge,Ik,Ij,KG,Ez,hY.ml (d:=20) (.row 80 6 (.AF (Nw us))) Zd]at h1;rw[show(Nw us).length / 6=us.length by omega]at h1;exact h1.E8 ⟨Ct,trivial⟩ Lk
def p5(t:Tr)(ac:List AV)(e:Nd):Prop:=BS Tryz.prog T 121 [.p 1000 0,.a (A1 e)] (Gt t ac) (Dq (e.kids.map (Fk t))) (Gt t ac)
set_option maxHeartbeats 4000000 in
theorem so(t:Tr)(ac:List AV)(e:Nd)(k15:e.kind=15)(EF:p5 t ac e):R6 96 t ac e:=by
 have hx:Fk t e=.mk 5 0 Aa 0 [] (e.kids.map (Fk t)):=by rw[Lp];unfold UD;rw[if_pos k15]
 unfold R6;unfold p5 at EF;rw[hx];generalize e.kids.map (Fk t)=us at*;refine FO 9 [.cell 4 80] Tryz.func96 Tryz.ntmps96 fun B w0 Y R Am Az hY AQ AW Aj hR=>?_;have AB:=NA AW AQ 3 4
 refine AI ⟨[(4,.p 4 0)],(4,.box 80 (.AF (DO (.mk 5 0 Aa 0 [] us))))::(Gt t ac++Y)⟩ ER ?_;repeat'(first|exact tT|refine WA tT AB ?_ ?_|refine EO EF AB ?_|(refine HE ?_;clear hK K)|refine WR fun K hK=>?_|refine HT ?_|refine WC (fun h=>?_) fun h=>?_|exact ff|fail)
 exact fun a w hG=>hG.E8 ⟨AR.refl _,trivial⟩ (B7 rfl ⟨AR.refl _,AR.refl _,AR.refl _,AR.refl _,AR.nil,AR.refl _,trivial⟩ Lk)
set_option maxHeartbeats 4000000 in
theorem j5(t:Tr)(ac:List AV)(e:Nd)(Ae:Cz e)(k17:e.kind=17)(hl:1≤e.kids.length)(EF:p5 t ac e):R6 98 t ac e:=by
 have hx:Fk t e=.mk (if e.name=Bd then 17 else 16) 0 (Ro (e.kids.map (Fk t)) 0) 0 [] (e.kids.map (Fk t)):=by rw[Lp];unfold UD;rw[if_neg Zo,if_neg Zo,if_pos k17]
 unfold R6;unfold p5 at EF;rw[hx];have RG:(e.kids.map (Fk t)).length=e.kids.length:=by simp
 generalize e.kids.map (Fk t)=us at*;have kid0:=DH (ks:=us) (k:=0) Zo;by_cases hg:e.name=Bd
 ·have c:=Zde hg;unfold Bd at c;rw[if_pos hg];refine FO 21 [.cell 4 80] Tryz.func98 Tryz.ntmps98 fun B w0 Y R Am Az hY AQ AW Aj hR=>?_;have AB:=Il AW AQ 3 4 6
  refine AI ⟨[(4,.p 4 0)],(4,.box 80 (.AF (DO (.mk 17 0 (Ro us 0) 0 [] us))))::(Gt t ac++Y)⟩ ER ?_;repeat'(first|exact tT|refine WA tT (Y3 c kid0 AB) ?_ ?_|refine EO EF (Y3 c kid0 AB) ?_|(refine HE ?_;clear hK K)|refine WR fun K hK=>?_|refine HT ?_|refine WC (fun h=>?_) fun h=>?_|exact ff|fail)
  exact fun a w hG=>hG.E8 ⟨AR.refl _,trivial⟩ (B7 rfl ⟨AR.refl _,AR.refl _,AR.refl _,AR.refl _,AR.nil,AR.refl _,trivial⟩ Lk)
 ·have c:=Zdf hg;unfold Bd at c;rw[if_neg hg];refine FO 21 [.cell 4 80] Tryz.func98 Tryz.ntmps98 fun B w0 Y R Am Az hY AQ AW Aj hR=>?_;have AB:=Il AW AQ 3 4 6
  refine AI ⟨[(4,.p 4 0)],(4,.box 80 (.AF (DO (.mk 16 0 (Ro us 0) 0 [] us))))::(Gt t ac++Y)⟩ ER ?_;repeat'(first|exact tT|refine WA tT (Y3 c kid0 AB) ?_ ?_|refine EO EF (Y3 c kid0 AB) ?_|(refine HE ?_;clear hK K)|refine WR fun K hK=>?_|refine HT ?_|refine WC (fun h=>?_) fun h=>?_|exact ff|fail)
  exact fun a w hG=>hG.E8 ⟨AR.refl _,trivial⟩ (B7 rfl ⟨AR.refl _,AR.refl _,AR.refl _,AR.refl _,AR.nil,AR.refl _,trivial⟩ Lk)
set_option maxHeartbeats 4000000 in
theorem eJ(t:Tr)(ac:List AV)(e:Nd)(Ae:Cz e)(k18:e.kind=18)(hl:1≤e.kids.length)(hp:1≤e.ps.length∧e.ps.length≤64)(EF:p5 t ac e):R6 99 t ac e:=by
 have hx:Fk t e=.mk 18 0 (Ro (e.kids.map (Fk t)) 0) e.den e.ps (e.kids.map (Fk t)):=by rw[Lp];unfold UD;rw[if_neg Zo,if_neg Zo,if_neg Zo,if_pos k18]
 unfold R6;unfold p5 at EF;rw[hx];have RG:(e.kids.map (Fk t)).length=e.kids.length:=by simp
 generalize e.kids.map (Fk t)=us at*;have kid0:=DH (ks:=us) (k:=0) Zo;have HR:=iZ e.ps hp.1 hp.2;refine FO 25 [.cell 4 80] Tryz.func99 Tryz.ntmps99 fun B w0 Y R Am Az hY AQ AW Aj hR=>?_;have AB:=Il AW AQ 3 4 6
 refine AI ⟨[(4,.p 4 0)],(4,.box 80 (.AF (DO (.mk 18 0 (Ro us 0) e.den e.ps us))))::(Gt t ac++Y)⟩ ER ?_;repeat'(first|exact tT|refine WA HR (Y2 kid0 AB) ?_ ?_|refine EO EF (Y2 kid0 AB) ?_|(refine HE ?_;clear hK K)|refine WR fun K hK=>?_|refine HT ?_|refine WC (fun h=>?_) fun h=>?_|exact ff|fail)
 (apply JY hm [([oF,oF,oF,oF,oF,oF,oF,oF,oF,oF],_),([oT,oF,oF,oF,oF,oF,oF,oF,oF,oF],_),([oF,oF,oF,oT,oF,oF,oF,oF,oF,oF],_),([oF,oF,oF,oF,oF,oF,oF,oF,oT,oF],_),([oT,oT,oF,oF,oF,oF,oF,oF,oF,oF],_),([oT,oF,oF,oT,oF,oF,oF,oF,oF,oF],_),([oT,oF,oF,oF,oF,oF,oF,oF,oT,oF],_),([oF,oF,oF,oT,oT,oF,oF,oF,oF,oF],_),([oF,oF,oF,oT,oF,oF,oF,oF,oT,oF],_),([oT,oT,oT,oF,oF,oF,oF,oF,oF,oF],_),([oT,oT,oF,oT,oF,oF,oF,oF,oF,oF],_),([oT,oT,oF,oF,oF,oF,oF,oF,oT,oF],_),([oT,oF,oF,oT,oT,oF,oF,oF,oF,oF],_),([oT,oF,oF,oT,oF,oF,oF,oF,oT,oF],_),([oF,oF,oF,oT,oT,oT,oF,oF,oF,oF],_),([oF,oF,oF,oT,oT,oF,oF,oF,oT,oF],_),([oT,oT,oT,oT,oF,oF,oF,oF,oF,oF],_),([oT,oT,oT,oF,oF,oF,oF,oF,oT,oF],_),([oT,oT,oF,oT,oT,oF,oF,oF,oF,oF],_),([oT,oT,oF,oT,oF,oF,oF,oF,oT,oF],_),([oT,oF,oF,oT,oT,oT,oF,oF,oF,oF],_),([oT,oF,oF,oT,oT,oF,oF,oF,oT,oF],_),([oF,oF,oF,oT,oT,oT,oT,oF,oF,oF],_),([oF,oF,oF,oT,oT,oT,oF,oF,oT,oF],_),([oT,oT,oT,oT,oT,oF,oF,oF,oF,oF],_),([oT,oT,oT,oT,oF,oF,oF,oF,oT,oF],_),([oT,oT,oF,oT,oT,oT,oF,oF,oF,oF],_),([oT,oT,oF,oT,oT,oF,oF,oF,oT,oF],_),([oT,oF,oF,oT,oT,oT,oT,oF,oF,oF],_),([oT,oF,oF,oT,oT,oT,oF,oF,oT,oF],_),([oF,oF,oF,oT,oT,oT,oT,oF,oT,oF],_),([oT,oT,oT,oT,oT,oT,oF,oF,oF,oF],_),([oT,oT,oT,oT,oT,oF,oF,oF,oT,oF],_),([oT,oT,oF,oT,oT,oT,oT,oF,oF,oF],_),([oT,oT,oF,oT,oT,oT,oF,oF,oT,oF],_),([oT,oF,oF,oT,oT,oT,oT,oF,oT,oF],_),([oT,oT,oT,oT,oT,oT,oT,oF,oF,oF],_),([oT,oT,oT,oT,oT,oT,oF,oF,oT,oF],_),([oT,oT,oF,oT,oT,oT,oT,oF,oT,oF],_),([oT,oT,oT,oT,oT,oT,oT,oT,oF,oF],_),([oT,oT,oT,oT,oT,oT,oT,oF,oT,oF],_),([oT,oT,oT,oT,oT,oT,oT,oT,oT,oF],_),([oT,oT,oT,oT,oT,oT,oT,oT,oT,oT],_)] rfl;intro K Jz;repeat' (first|(refine Hb ZD ?_;refine Jz _ ?_;clear Jz K;push_cast)|refine AD 0 [3,8] ZD ?_ ?_|refine AD 0 [3] ZD ?_ ?_|refine AD 0 [4,8] ZD ?_ ?_|refine AD 0 [4] ZD ?_ ?_|refine AD 0 [5,8] ZD ?_ ?_|refine AD 0 [5] ZD ?_ ?_|refine AD 0 [6,8] ZD ?_ ?_|refine AD 0 [6] ZD ?_ ?_|refine AD 0 [8] ZD ?_ ?_|refine AD 0 [] ZD ?_ ?_|refine AD 1 [3,8] ZD ?_ ?_|refine AD 1 [3] ZD ?_ ?_|refine AD 1 [4,8] ZD ?_ ?_|refine AD 1 [4] ZD ?_ ?_|refine AD 1 [5,8] ZD ?_ ?_|refine AD 1 [5] ZD ?_ ?_|refine AD 1 [6,8] ZD ?_ ?_|refine AD 1 [6] ZD ?_ ?_|refine AD 1 [8] ZD ?_ ?_|refine AD 1 [] ZD ?_ ?_|refine AD 2 [3,8] ZD ?_ ?_|refine AD 2 [3] ZD ?_ ?_|refine AD 2 [4,8] ZD ?_ ?_|refine AD 2 [4] ZD ?_ ?_|refine AD 2 [5,8] ZD ?_ ?_|refine AD 2 [5] ZD ?_ ?_|refine AD 2 [6,8] ZD ?_ ?_|refine AD 2 [6] ZD ?_ ?_|refine AD 2 [8] ZD ?_ ?_|refine AD 2 [] ZD ?_ ?_|refine AD 3 [8] ZD ?_ ?_|refine AD 3 [] ZD ?_ ?_|refine AD 4 [8] ZD ?_ ?_|refine AD 4 [] ZD ?_ ?_|refine AD 5 [8] ZD ?_ ?_|refine AD 5 [] ZD ?_ ?_|refine AD 6 [8] ZD ?_ ?_|refine AD 6 [] ZD ?_ ?_|refine AD 7 [8] ZD ?_ ?_|refine AD 7 [] ZD ?_ ?_|refine AD 8 [] ZD ?_ ?_|refine AD 9 [] ZD ?_ ?_|exact Hc|refine GL rfl (fun K3 Kj=>?_) ?_|(refine A9 ?_;first|exact Kj _ _ rfl (fun _ _ h=>h)|exact Kj _ _ rfl (G.ql (by(repeat' (first|exact trivial|exact .inr rfl|exact .inl rfl|refine⟨?_,?_⟩))) rfl)|exact Kj _ _ rfl (G.uM (by(repeat' (first|exact trivial|exact .inr rfl|exact .inl rfl|refine⟨?_,?_⟩))) (by(repeat' (first|exact trivial|exact .inr rfl|exact .inl rfl|refine⟨?_,?_⟩)))))|((first|refine P6 hT (by rfl) fun K' AX=>?_|refine SP (by rfl) fun K' AX=>?_);push_cast[kid0,AB,List.cons_append,List.nil_append];(try simp (disch:=omega) only[wrap64,Int.toNat_natCast]);(repeat refine AS ?_ ?_);(first|refine AX _ ?_|((first|refine⟨_,⟨(by first|exact HR),(by first|exact .inr rfl|exact .inl (by simp[AV.fresh,AV.Ie]))⟩,?_⟩|refine⟨_,fun hb=>⟨(by first|exact HR),(by first|exact .inr rfl|exact .inl (by simp[AV.fresh,AV.Ie]))⟩,?_⟩|refine⟨_,fun hb=>⟨(by first|exact hb|exact⟨hb,hb⟩|exact⟨hb,hb,hb⟩|exact⟨hb,hb,hb,hb⟩|(simp only[hb,true_and,and_true,Bool.and_true,Bool.true_and];done)),(by first|exact HR),(by first|exact .inr rfl|exact .inl (by simp[AV.fresh,AV.Ie]))⟩,?_⟩);push_cast[kid0,AB,List.cons_append,List.nil_append];(try simp (disch:=omega) only[wrap64,Int.toNat_natCast]);(repeat refine AS ?_ ?_);refine AX _ ?_)|(refine⟨.v (.int .i64 0),?_⟩;refine AX _ ?_));clear AX K')|(refine HK hT rfl fun K' AX=>?_;push_cast[kid0,AB,List.cons_append,List.nil_append];(try simp (disch:=omega) only[wrap64,Int.toNat_natCast]);(repeat refine AS ?_ ?_);refine AX _ ?_;clear AX K')|(refine HL T rfl (by simp only[As,Nat.reduceLT]) fun K' AX=>?_;push_cast[kid0,AB,List.cons_append,List.nil_append];refine AX _ ?_;clear AX K')|(refine GK hT rfl fun K' AX=>?_;push_cast[kid0,AB,List.cons_append,List.nil_append];(try simp (disch:=omega) only[wrap64,Int.toNat_natCast]);(repeat refine AS ?_ ?_);refine AX _ ?_;clear AX K')|(refine P7 hT (by rfl) (by rfl) (by simp only[As,Nat.reduceLT]) ?_;simp only[St.put])|fail))
 all_goals try exact ff
 repeat'(first|exact tT|refine WA HR (Y2 kid0 AB) ?_ ?_|refine EO EF (Y2 kid0 AB) ?_|(refine HE ?_;clear hK K)|refine WR fun K hK=>?_|refine HT ?_|refine WC (fun h=>?_) fun h=>?_|exact ff|fail)
 exact G.Al (AA Ai) Au
theorem W4(s:ByteArray):(s=⟨#[119,101,101,107,100,97,121]⟩∧Gy s=1)∨(s≠⟨#[119,101,101,107,100,97,121]⟩∧s=⟨#[100,97,121]⟩∧Gy s=2)∨(s≠⟨#[119,101,101,107,100,97,121]⟩∧s≠⟨#[100,97,121]⟩∧s=⟨#[109,111,110,116,104]⟩∧Gy s=3)∨
  (s≠⟨#[119,101,101,107,100,97,121]⟩∧s≠⟨#[100,97,121]⟩∧s≠⟨#[109,111,110,116,104]⟩∧s=⟨#[121,101,97,114]⟩∧Gy s=4)∨(s≠⟨#[119,101,101,107,100,97,121]⟩∧s≠⟨#[100,97,121]⟩∧s≠⟨#[109,111,110,116,104]⟩∧s≠⟨#[121,101,97,114]⟩∧Gy s=0):=by
 unfold Gy;by_cases h1:s=⟨#[119,101,101,107,100,97,121]⟩
 ·exact .inl ⟨h1,by rw[if_pos h1]⟩
 by_cases h2:s=⟨#[100,97,121]⟩
 ·exact .inr (.inl ⟨h1,h2,by rw[if_neg h1,if_pos h2]⟩)
 by_cases h3:s=⟨#[109,111,110,116,104]⟩
 ·exact .inr (.inr (.inl ⟨h1,h2,h3,by rw[if_neg h1,if_neg h2,if_pos h3]⟩))
 by_cases h4:s=⟨#[121,101,97,114]⟩
 ·exact .inr (.inr (.inr (.inl ⟨h1,h2,h3,h4,by rw[if_neg h1,if_neg h2,if_neg h3,if_pos h4]⟩)))
 ·exact .inr (.inr (.inr (.inr ⟨h1,h2,h3,h4,by rw[if_neg h1,if_neg h2,if_neg h3,if_neg h4]⟩)))
theorem Pb{o n:Int}{u:ByteArray}:JC [AE o,AE n,An u,AE 0,.v (.slice none 0 0),.v (.slice none 0 0)] (DO (.mk o n u 0 [] [])):=⟨AR.refl _,AR.refl _,AR.refl _,AR.refl _,AR.nil,AR.nil,trivial⟩
theorem kq{x:Int}:(x=11→(x==11)=true)∧(x≠11→(x==11)=false)∧(x=12→(x==12)=true)∧(x≠12→(x==12)=false)∧(x=13→(x==13)=true)∧(x≠13→(x==13)=false):=
 ⟨fun h=>by rw[h];rfl,fun h=>beq_eq_false_iff_ne.2 h,fun h=>by rw[h];rfl,fun h=>beq_eq_false_iff_ne.2 h,fun h=>by rw[h];rfl,fun h=>beq_eq_false_iff_ne.2 h⟩
set_option maxHeartbeats 16000000 in
theorem j6(t:Tr)(m:Nat)(ht:QY t m)(yi:m≤100000)(ac:List AV)(e:Nd)(Ae:Cz e)(hk: ¬(e.kind=15∨e.kind=16∨e.kind=17∨e.kind=18))(ez:e.kind=12→0<t.facts.length)(xu:e.kind=13→0<t.lines.length):R6 95 t ac e:=by
 have hx:Fk t e=V1 t e:=by rw[Lp];unfold UD;rw[if_neg Zo,if_neg Zo,if_neg Zo,if_neg Zo]
 unfold R6;rw[hx];unfold V1;obtain⟨q11,n11,q12,n12,q13,n13⟩:=kq (x:=e.kind);by_cases k11:e.kind=11
 ·rw[if_pos k11];have c:=q11 k11;refine FO 72 [.cell 4 80] Tryz.func95 Tryz.ntmps95 fun B w0 Y R Am Az hY AQ AW Aj hR=>?_;have AB:=Il AW AQ 3 4 6
  refine AI ⟨[(4,.p 4 0)],(4,.box 80 (.AF (DO (.mk 1 e.n e.u 0 [] []))))::(Gt t ac++Y)⟩ ER ?_;repeat'(first|exact tT|refine WA tT (Y2 c AB) ?_ ?_|(refine HE ?_;clear hK K)|refine WR fun K hK=>?_|refine HT ?_|refine WC (fun h=>?_) fun h=>?_|exact ff|fail)
  exact fun a w hG=>hG.E8 ⟨AR.refl _,trivial⟩ (B7 rfl Pb Lk)
 rw[if_neg k11];have c1:=n11 k11;have BF:=K7 t.facts;have SE:=K7 t.lines;by_cases k12:e.kind=12
 ·rw[if_pos k12];have c2:=q12 k12;have F1:=ez k12;have hr:=ht.f (.s e.name);obtain⟨i,hi⟩: ∃i:Nat,A0 t.fm (.s e.name) 0=(i:Int):=⟨(A0 t.fm (.s e.name) 0).toNat,Zo⟩;rw[hi]at hr ⊢;have MA:i<t.facts.length:=Zo
  have hd:=Up t.facts i 1 MA Zd;have hd3:(E3 t.facts).length / 3=t.facts.length:=Zo
  have Ph:=Ae.spec.name;rw[Int.toNat_natCast];simp only[Vn,List.getD_cons_succ,List.getD_cons_zero]at hd;generalize t.facts.getD i default=d at*;refine FO 72 [.cell 4 80] Tryz.func95 Tryz.ntmps95 fun B w0 Y R Am Az hY AQ AW Aj hR=>?_;have AB:=Il AW AQ 3 4 6
  refine AI ⟨[(4,.p 4 0)],(4,.box 80 (.AF (DO (.mk 2 i d.u 0 [] []))))::(Gt t ac++Y)⟩ ER ?_;repeat'(first|exact tT|refine WA tT (Y6 c1 c2 hi hd hd3 AB) ?_ ?_|(refine HE ?_;clear hK K)|refine WR fun K hK=>?_|refine HT ?_|refine WC (fun h=>?_) fun h=>?_|exact ff|fail)
  all_goals skip
  exact fun a w hG=>hG.E8 ⟨AR.refl _,trivial⟩ (B7 rfl Pb Lk)
 rw[if_neg k12];have c2:=n12 k12;by_cases k13:e.kind=13
 ·rw[if_pos k13];have c3:=q13 k13;have F1:=xu k13;have hr:=ht.a (.i e.n);obtain⟨i,hi⟩: ∃i:Nat,A0 t.am (.i e.n) 0=(i:Int):=⟨(A0 t.am (.i e.n) 0).toNat,Zo⟩;rw[hi]at hr ⊢;have MA:i<t.lines.length:=Zo
  have hd:=Up t.lines i 1 MA Zd;have hd3:(E3 t.lines).length / 3=t.lines.length:=Zo
  have Ph:=Ae.spec.n;rw[Int.toNat_natCast];simp only[Vn,List.getD_cons_succ,List.getD_cons_zero]at hd;generalize t.lines.getD i default=d at*;refine FO 72 [.cell 4 80] Tryz.func95 Tryz.ntmps95 fun B w0 Y R Am Az hY AQ AW Aj hR=>?_;have AB:=Il AW AQ 3 4 6
  refine AI ⟨[(4,.p 4 0)],(4,.box 80 (.AF (DO (.mk 3 e.n d.u 0 [] []))))::(Gt t ac++Y)⟩ ER ?_;repeat'(first|exact tT|refine WA tT (Y7 c1 c2 c3 hi hd hd3 AB) ?_ ?_|(refine HE ?_;clear hK K)|refine WR fun K hK=>?_|refine HT ?_|refine WC (fun h=>?_) fun h=>?_|exact ff|fail)
  exact fun a w hG=>hG.E8 ⟨AR.refl _,trivial⟩ (B7 rfl Pb Lk)
 rw[if_neg k13];have c3:=n13 k13;have key: ∀n:Int,Gy e.name=n→JC [AE 4,AE n,An AZ,AE 0,.v (.slice none 0 0),.v (.slice none 0 0)] (DO (.mk 4 (Gy e.name) AZ 0 [] [])):=fun n h=>by rw[h];exact Pb
 rcases W4 e.name with ⟨h1,hd⟩|⟨h1,h2,hd⟩|⟨h1,h2,h3,hd⟩|⟨h1,h2,h3,h4,hd⟩|⟨h1,h2,h3,h4,hd⟩
 ·have d1:=Zde h1;refine FO 72 [.cell 4 80] Tryz.func95 Tryz.ntmps95 fun B w0 Y R Am Az hY AQ AW Aj hR=>?_;have AB:=Il AW AQ 3 4 6
  refine AI ⟨[(4,.p 4 0)],(4,.box 80 (.AF (DO (.mk 4 (Gy e.name) AZ 0 [] []))))::(Gt t ac++Y)⟩ ER ?_;repeat'(first|exact tT|refine WA tT (Y5 c1 c2 c3 d1 AB) ?_ ?_|(refine HE ?_;clear hK K)|refine WR fun K hK=>?_|refine HT ?_|refine WC (fun h=>?_) fun h=>?_|exact ff|fail)
  exact fun a w hG=>hG.E8 ⟨AR.refl _,trivial⟩ (B7 rfl (key _ hd) Lk)
 ·have d1:=Zdf h1;have d2:=Zde h2;refine FO 72 [.cell 4 80] Tryz.func95 Tryz.ntmps95 fun B w0 Y R Am Az hY AQ AW Aj hR=>?_;have AB:=Il AW AQ 3 4 6
  refine AI ⟨[(4,.p 4 0)],(4,.box 80 (.AF (DO (.mk 4 (Gy e.name) AZ 0 [] []))))::(Gt t ac++Y)⟩ ER ?_;repeat'(first|exact tT|refine WA tT (Y6 c1 c2 c3 d1 d2 AB) ?_ ?_|(refine HE ?_;clear hK K)|refine WR fun K hK=>?_|refine HT ?_|refine WC (fun h=>?_) fun h=>?_|exact ff|fail)
  exact fun a w hG=>hG.E8 ⟨AR.refl _,trivial⟩ (B7 rfl (key _ hd) Lk)
 ·have d1:=Zdf h1;have d2:=Zdf h2;have d3:=Zde h3;refine FO 72 [.cell 4 80] Tryz.func95 Tryz.ntmps95 fun B w0 Y R Am Az hY AQ AW Aj hR=>?_;have AB:=Il AW AQ 3 4 6
  refine AI ⟨[(4,.p 4 0)],(4,.box 80 (.AF (DO (.mk 4 (Gy e.name) AZ 0 [] []))))::(Gt t ac++Y)⟩ ER ?_;repeat'(first|exact tT|refine WA tT (Y7 c1 c2 c3 d1 d2 d3 AB) ?_ ?_|(refine HE ?_;clear hK K)|refine WR fun K hK=>?_|refine HT ?_|refine WC (fun h=>?_) fun h=>?_|exact ff|fail)
  exact fun a w hG=>hG.E8 ⟨AR.refl _,trivial⟩ (B7 rfl (key _ hd) Lk)
 ·have d1:=Zdf h1;have d2:=Zdf h2;have d3:=Zdf h3;have d4:=Zde h4;refine FO 72 [.cell 4 80] Tryz.func95 Tryz.ntmps95 fun B w0 Y R Am Az hY AQ AW Aj hR=>?_;have AB:=Il AW AQ 3 4 6
  refine AI ⟨[(4,.p 4 0)],(4,.box 80 (.AF (DO (.mk 4 (Gy e.name) AZ 0 [] []))))::(Gt t ac++Y)⟩ ER ?_;repeat'(first|exact tT|refine WA tT (Y8 c1 c2 c3 d1 d2 d3 d4 AB) ?_ ?_|(refine HE ?_;clear hK K)|refine WR fun K hK=>?_|refine HT ?_|refine WC (fun h=>?_) fun h=>?_|exact ff|fail)
  exact fun a w hG=>hG.E8 ⟨AR.refl _,trivial⟩ (B7 rfl (key _ hd) Lk)
 ·have d1:=Zdf h1;have d2:=Zdf h2;have d3:=Zdf h3;have d4:=Zdf h4;refine FO 72 [.cell 4 80] Tryz.func95 Tryz.ntmps95 fun B w0 Y R Am Az hY AQ AW Aj hR=>?_;have AB:=Il AW AQ 3 4 6
  refine AI ⟨[(4,.p 4 0)],(4,.box 80 (.AF (DO (.mk 4 (Gy e.name) AZ 0 [] []))))::(Gt t ac++Y)⟩ ER ?_;repeat'(first|exact tT|refine WA tT (Y8 c1 c2 c3 d1 d2 d3 d4 AB) ?_ ?_|(refine HE ?_;clear hK K)|refine WR fun K hK=>?_|refine HT ?_|refine WC (fun h=>?_) fun h=>?_|exact ff|fail)
  exact fun a w hG=>hG.E8 ⟨AR.refl _,trivial⟩ (B7 rfl (key _ hd) Lk)
theorem Hy{o:Int}{u:ByteArray}{us:List Ex}:JC [AE o,AE 0,An u,AE 0,.v (.slice none 0 0),Dq us] (DO (.mk o 0 u 0 [] us)):=⟨AR.refl _,AR.refl _,AR.refl _,AR.refl _,AR.nil,AR.refl _,trivial⟩
theorem sr{us:List Ex}{u:ByteArray}{c:Nat→Nat→AV}(hc: ∀j,j<6→Sub (c 0 j) ((DO (.mk 8 0 u 0 [] us)).getD j .top)):JC [AE 5,AE 0,An u,AE 0,.v (.slice none 0 0),.i true c 6 0 1] (DO (.mk 5 0 u 0 [] [.mk 8 0 u 0 [] us])):=
 ⟨AR.refl _,AR.refl _,AR.refl _,AR.refl _,AR.nil,AR.iX rfl (fun e j he hj=>by
  obtain rfl:e=0:=Zo
  have:=hc j hj;rw[←QN]at this;exact this),trivial⟩
set_option maxHeartbeats 32000000 in
theorem ZH(t:Tr)(ac:List AV)(e:Nd)(Ae:Cz e)(k16:e.kind=16)(hl:e.kids.length=2)(EF:p5 t ac e):R6 97 t ac e:=by
 have hx:Fk t e=Go.Tp.Mg e.name (e.kids.map (Fk t)):=by rw[Lp];unfold UD;rw[if_neg Zo,if_pos k16]
 unfold R6;unfold p5 at EF;rw[hx];have RG:(e.kids.map (Fk t)).length=e.kids.length:=by simp
 generalize e.kids.map (Fk t)=us at*;have kid0:=DH (ks:=us) (k:=0) Zo;have kid1:=DH (ks:=us) (k:=1) Zo;have bU:=YV (us.getD 0 default).u (us.getD 1 default).u;unfold Go.Tp.Mg;by_cases o0:e.name=⟨#[97,110,100]⟩
 ·rw[if_pos o0];have d0:=Zde o0;have RS:us.length=2:=RG.trans hl;refine FO 73 [.cell 4 80] Tryz.func97 Tryz.ntmps97 fun B w0 Y R Am Az hY AQ AW Aj hR=>?_;have AB:=MF AW AQ 3 4 8 37
  refine AI ⟨[(4,.p 4 0)],(4,.box 80 (.AF (DO (.mk 6 0 Aa 0 [] us))))::(Gt t ac++Y)⟩ ER ?_;repeat'(first|exact tT|refine WA bU (Y4 kid0 kid1 d0 AB) ?_ ?_|refine EO EF (Y4 kid0 kid1 d0 AB) ?_|(refine HE ?_;clear hK K)|refine WR fun K hK=>?_|refine HT ?_|refine WC (fun h=>?_) fun h=>?_|exact ff|fail)
  exact fun a w hG=>hG.E8 ⟨AR.refl _,trivial⟩ (B7 rfl Hy Lk)
 rw[if_neg o0];have d0:=Zdf o0;by_cases o1:e.name=⟨#[111,114]⟩
 ·rw[if_pos o1];have d1:=Zde o1;have RS:us.length=2:=RG.trans hl;refine FO 73 [.cell 4 80] Tryz.func97 Tryz.ntmps97 fun B w0 Y R Am Az hY AQ AW Aj hR=>?_;have AB:=MF AW AQ 3 4 8 37
  refine AI ⟨[(4,.p 4 0)],(4,.box 80 (.AF (DO (.mk 7 0 Aa 0 [] us))))::(Gt t ac++Y)⟩ ER ?_;repeat'(first|exact tT|refine WA bU (Y5 kid0 kid1 d0 d1 AB) ?_ ?_|refine EO EF (Y5 kid0 kid1 d0 d1 AB) ?_|(refine HE ?_;clear hK K)|refine WR fun K hK=>?_|refine HT ?_|refine WC (fun h=>?_) fun h=>?_|exact ff|fail)
  exact fun a w hG=>hG.E8 ⟨AR.refl _,trivial⟩ (B7 rfl Hy Lk)
 rw[if_neg o1];have d1:=Zdf o1;by_cases o2:e.name=⟨#[61,61]⟩
 ·rw[if_pos o2];have d2:=Zde o2;have RS:us.length=2:=RG.trans hl;refine FO 73 [.cell 4 80] Tryz.func97 Tryz.ntmps97 fun B w0 Y R Am Az hY AQ AW Aj hR=>?_;have AB:=MF AW AQ 3 4 8 37
  refine AI ⟨[(4,.p 4 0)],(4,.box 80 (.AF (DO (.mk 8 0 Aa 0 [] us))))::(Gt t ac++Y)⟩ ER ?_;repeat'(first|exact tT|refine WA bU (Y6 kid0 kid1 d0 d1 d2 AB) ?_ ?_|refine EO EF (Y6 kid0 kid1 d0 d1 d2 AB) ?_|(refine HE ?_;clear hK K)|refine WR fun K hK=>?_|refine HT ?_|refine WC (fun h=>?_) fun h=>?_|exact ff|fail)
  exact fun a w hG=>hG.E8 ⟨AR.refl _,trivial⟩ (B7 rfl Hy Lk)
 rw[if_neg o2];have d2:=Zdf o2;by_cases o3:e.name=⟨#[33,61]⟩
 ·rw[if_pos o3];have d3:=Zde o3;have RS:us.length=2:=RG.trans hl;refine FO 73 [.cell 4 80] Tryz.func97 Tryz.ntmps97 fun B w0 Y R Am Az hY AQ AW Aj hR=>?_;have AB:=MF AW AQ 3 4 8 37
  refine AI ⟨[(4,.p 4 0)],(4,.box 80 (.AF (DO (.mk 5 0 Aa 0 [] [.mk 8 0 Aa 0 [] us]))))::(Gt t ac++Y)⟩ ER ?_;repeat'(first|exact tT|refine WA bU (Y7 kid0 kid1 d0 d1 d2 d3 AB) ?_ ?_|refine EO EF (Y7 kid0 kid1 d0 d1 d2 d3 AB) ?_|(refine HE ?_;clear hK K)|refine WR fun K hK=>?_|refine HT ?_|refine WC (fun h=>?_) fun h=>?_|exact ff|fail)
  exact fun a w hG=>hG.E8 ⟨AR.refl _,trivial⟩ (B7 rfl (sr fun j hj=>by match j,hj with|0,_=>exact Sub.refl _|1,_=>exact Sub.refl _|2,_=>exact Sub.refl _|3,_=>exact Sub.refl _|4,_=>exact AR.nil.sub|5,_=>exact Sub.refl _) Lk)
 rw[if_neg o3];have d3:=Zdf o3;by_cases o4:e.name=⟨#[60]⟩
 ·rw[if_pos o4];have d4:=Zde o4;have RS:us.length=2:=RG.trans hl;refine FO 73 [.cell 4 80] Tryz.func97 Tryz.ntmps97 fun B w0 Y R Am Az hY AQ AW Aj hR=>?_;have AB:=MF AW AQ 3 4 8 37
  refine AI ⟨[(4,.p 4 0)],(4,.box 80 (.AF (DO (.mk 9 0 Aa 0 [] us))))::(Gt t ac++Y)⟩ ER ?_;repeat'(first|exact tT|refine WA bU (Y8 kid0 kid1 d0 d1 d2 d3 d4 AB) ?_ ?_|refine EO EF (Y8 kid0 kid1 d0 d1 d2 d3 d4 AB) ?_|(refine HE ?_;clear hK K)|refine WR fun K hK=>?_|refine HT ?_|refine WC (fun h=>?_) fun h=>?_|exact ff|fail)
  exact fun a w hG=>hG.E8 ⟨AR.refl _,trivial⟩ (B7 rfl Hy Lk)
 rw[if_neg o4];have d4:=Zdf o4;by_cases o5:e.name=⟨#[60,61]⟩
 ·rw[if_pos o5];have d5:=Zde o5;have RS:us.length=2:=RG.trans hl;refine FO 73 [.cell 4 80] Tryz.func97 Tryz.ntmps97 fun B w0 Y R Am Az hY AQ AW Aj hR=>?_;have AB:=MF AW AQ 3 4 8 37
  refine AI ⟨[(4,.p 4 0)],(4,.box 80 (.AF (DO (.mk 10 0 Aa 0 [] us))))::(Gt t ac++Y)⟩ ER ?_;repeat'(first|exact tT|refine WA bU (Y9 kid0 kid1 d0 d1 d2 d3 d4 d5 AB) ?_ ?_|refine EO EF (Y9 kid0 kid1 d0 d1 d2 d3 d4 d5 AB) ?_|(refine HE ?_;clear hK K)|refine WR fun K hK=>?_|refine HT ?_|refine WC (fun h=>?_) fun h=>?_|exact ff|fail)
  exact fun a w hG=>hG.E8 ⟨AR.refl _,trivial⟩ (B7 rfl Hy Lk)
 rw[if_neg o5];have d5:=Zdf o5;by_cases o6:e.name=⟨#[43]⟩
 ·rw[if_pos o6];have d6:=Zde o6;have RS:us.length=2:=RG.trans hl;refine FO 73 [.cell 4 80] Tryz.func97 Tryz.ntmps97 fun B w0 Y R Am Az hY AQ AW Aj hR=>?_;have AB:=MF AW AQ 3 4 8 37
  refine AI ⟨[(4,.p 4 0)],(4,.box 80 (.AF (DO (.mk 11 0 (Ro us 0) 0 [] us))))::(Gt t ac++Y)⟩ ER ?_;repeat'(first|exact tT|refine WA bU (Y9 kid0 kid1 d0 d1 d2 d3 d4 d5 (Y2 d6 AB)) ?_ ?_|refine EO EF (Y9 kid0 kid1 d0 d1 d2 d3 d4 d5 (Y2 d6 AB)) ?_|(refine HE ?_;clear hK K)|refine WR fun K hK=>?_|refine HT ?_|refine WC (fun h=>?_) fun h=>?_|exact ff|fail)
  exact fun a w hG=>hG.E8 ⟨AR.refl _,trivial⟩ (B7 rfl Hy Lk)
 rw[if_neg o6];have d6:=Zdf o6;by_cases o7:e.name=⟨#[45]⟩
 ·rw[if_pos o7];have d7:=Zde o7;have RS:us.length=2:=RG.trans hl;refine FO 73 [.cell 4 80] Tryz.func97 Tryz.ntmps97 fun B w0 Y R Am Az hY AQ AW Aj hR=>?_;have AB:=MF AW AQ 3 4 8 37
  refine AI ⟨[(4,.p 4 0)],(4,.box 80 (.AF (DO (.mk 12 0 (Ro us 0) 0 [] us))))::(Gt t ac++Y)⟩ ER ?_;repeat'(first|exact tT|refine WA bU (Y9 kid0 kid1 d0 d1 d2 d3 d4 d5 (Y3 d6 d7 AB)) ?_ ?_|refine EO EF (Y9 kid0 kid1 d0 d1 d2 d3 d4 d5 (Y3 d6 d7 AB)) ?_|(refine HE ?_;clear hK K)|refine WR fun K hK=>?_|refine HT ?_|refine WC (fun h=>?_) fun h=>?_|exact ff|fail)
  exact fun a w hG=>hG.E8 ⟨AR.refl _,trivial⟩ (B7 rfl Hy Lk)
 rw[if_neg o7];have d7:=Zdf o7;by_cases o8:e.name=⟨#[47]⟩
 ·rw[if_pos o8];have d8:=Zde o8;have RS:us.length=2:=RG.trans hl;refine FO 73 [.cell 4 80] Tryz.func97 Tryz.ntmps97 fun B w0 Y R Am Az hY AQ AW Aj hR=>?_;have AB:=MF AW AQ 3 4 8 37
  refine AI ⟨[(4,.p 4 0)],(4,.box 80 (.AF (DO (.mk 14 0 (Ro us 0) 0 [] us))))::(Gt t ac++Y)⟩ ER ?_;repeat'(first|exact tT|refine WA bU (Y9 kid0 kid1 d0 d1 d2 d3 d4 d5 (Y4 d6 d7 d8 AB)) ?_ ?_|refine EO EF (Y9 kid0 kid1 d0 d1 d2 d3 d4 d5 (Y4 d6 d7 d8 AB)) ?_|(refine HE ?_;clear hK K)|refine WR fun K hK=>?_|refine HT ?_|refine WC (fun h=>?_) fun h=>?_|exact ff|fail)
  exact fun a w hG=>hG.E8 ⟨AR.refl _,trivial⟩ (B7 rfl Hy Lk)
 rw[if_neg o8];have d8:=Zdf o8;by_cases o9:e.name=⟨#[42]⟩
 ·rw[if_pos o9];have d9:=Zde o9;have RS:us.length=2:=RG.trans hl;refine FO 73 [.cell 4 80] Tryz.func97 Tryz.ntmps97 fun B w0 Y R Am Az hY AQ AW Aj hR=>?_;have AB:=MF AW AQ 3 4 8 37
  refine AI ⟨[(4,.p 4 0)],(4,.box 80 (.AF (DO (.mk 13 0 (Sn (Ro us 0) (Ro us 1)) 0 [] us))))::(Gt t ac++Y)⟩ ER ?_;repeat'(first|exact tT|refine WA bU (Y9 kid0 kid1 d0 d1 d2 d3 d4 d5 (Y5 d6 d7 d8 d9 AB)) ?_ ?_|refine EO EF (Y9 kid0 kid1 d0 d1 d2 d3 d4 d5 (Y5 d6 d7 d8 d9 AB)) ?_|(refine HE ?_;clear hK K)|refine WR fun K hK=>?_|refine HT ?_|refine WC (fun h=>?_) fun h=>?_|exact ff|fail)
  exact fun a w hG=>hG.E8 ⟨AR.refl _,trivial⟩ (B7 rfl Hy Lk)
 rw[if_neg o9];have d9:=Zdf o9;by_cases o10:e.name=⟨#[97,116]⟩
 ·rw[if_pos o10];have d10:=Zde o10;have RS:us.length=2:=RG.trans hl;refine FO 73 [.cell 4 80] Tryz.func97 Tryz.ntmps97 fun B w0 Y R Am Az hY AQ AW Aj hR=>?_;have AB:=MF AW AQ 3 4 8 37
  refine AI ⟨[(4,.p 4 0)],(4,.box 80 (.AF (DO (.mk 15 0 (Ro us 1) 0 [] us))))::(Gt t ac++Y)⟩ ER ?_;repeat'(first|exact tT|refine WA bU (Y9 kid0 kid1 d0 d1 d2 d3 d4 d5 (Y6 d6 d7 d8 d9 d10 AB)) ?_ ?_|refine EO EF (Y9 kid0 kid1 d0 d1 d2 d3 d4 d5 (Y6 d6 d7 d8 d9 d10 AB)) ?_|(refine HE ?_;clear hK K)|refine WR fun K hK=>?_|refine HT ?_|refine WC (fun h=>?_) fun h=>?_|exact ff|fail)
  exact fun a w hG=>hG.E8 ⟨AR.refl _,trivial⟩ (B7 rfl Hy Lk)
 rw[if_neg o10];have d10:=Zdf o10;have RS:us.length=2:=RG.trans hl;refine FO 73 [.cell 4 80] Tryz.func97 Tryz.ntmps97 fun B w0 Y R Am Az hY AQ AW Aj hR=>?_;have AB:=MF AW AQ 3 4 8 37
 refine AI ⟨[(4,.p 4 0)],(4,.box 80 (.AF (DO (.mk 0 0 Aa 0 [] us))))::(Gt t ac++Y)⟩ ER ?_;repeat'(first|exact tT|refine WA bU (Y9 kid0 kid1 d0 d1 d2 d3 d4 d5 (Y6 d6 d7 d8 d9 d10 AB)) ?_ ?_|refine EO EF (Y9 kid0 kid1 d0 d1 d2 d3 d4 d5 (Y6 d6 d7 d8 d9 d10 AB)) ?_|(refine HE ?_;clear hK K)|refine WR fun K hK=>?_|refine HT ?_|refine WC (fun h=>?_) fun h=>?_|exact ff|fail)
 exact fun a w hG=>hG.E8 ⟨AR.refl _,trivial⟩ (B7 rfl Hy Lk)
end Go.Proofs.YthemnhjojaehhaaGreatDoor
