/- Part of a proof. -/
import Derived.Test.YthemnhjojaehhaaGreatDoorA31
import Derived.Test.YthemnhjojaehhaaGreatDoorA36
import Derived.Test.YthemnhjojaehhaaGreatDoorA35
set_option linter.all false
namespace Go.Proofs.YthemnhjojaehhaaGreatDoor
open Go.Ad Go.Proofs Go.Tp
attribute [local irreducible] A8 AK BY Go.Ad.Pure BS Kf Hw
set_option maxRecDepth 100000 in
theorem dc(s:ByteArray):BS Tryz.prog T 51 [An s] [] (.f (.func 80) [.p 1001 0]) [(1001,.box 9 (.AF [An s]))]:=by
 refine FO 4 [.tmp 2] Tryz.func51 Tryz.ntmps51 fun B w0 Y R Am Az hY AQ AW Aj hR=>?_;have AB:=FI AW AQ 1
 refine AI ⟨[(2,.f (.func 80) [.p 1001 0])],[(1001,.box 9 (.AF [An s]))]++Y⟩ ER ?_;repeat'(first|exact tT|refine WA tT AB ?_ ?_|(refine HE ?_;clear hK K)|refine WR fun K hK=>?_|refine HT ?_|refine WC (fun h=>?_) fun h=>?_|exact ff|fail)
 refine fun a w hG=>?_;have r0:=QX (st:=⟨[(2,.f (.func 80) [.p 1 0])],[(1,.box 9 (.AF [An s]))]++Y⟩) (E:= [(2,.f (.func 80) [.p 1 0])]) (pre:= [(1,.box 9 (.AF [An s]))]) hY 1 1001 Zd Zd (fun _ _ h=>h) (by simp[Bg,AV.ids,AV.Av]) (by simp[Bz,AN.ids,AV.Av,AV.ids,A1]) (Am.2 1001 Zd Zd) a w (G.Al (AA Ai) Au a w hG);push_cast[IL,Gd,List.cons_append,List.nil_append]at r0;exact G.Al (AA Ai) Au a w r0
theorem ny(s:ByteArray)(hs:6000<s.size):Pure Tryz.prog 23 [An s] (.t [.v (.slice none 0 0),AE 2,AE 0]):=by
 have c6:=DT ((6000:Int)<(s.size:Int));refine PO 28 [.cell 2 55,.cell 3 30,.cell 4 3] hT Tryz.func23 Tryz.ntmps23 fun B w0=>?_;repeat'(first|exact tT|refine WA tT c6 ?_ ?_|(refine PE ?_;clear hK K)|refine WR fun K hK=>?_|refine PT ?_|refine WC (fun h=>?_) fun h=>?_|exact ff|fail)
def Xi:List Tk→List AV
 | []=> []
 |t::r=>AE t.kind::An t.text::.o::Xi r
theorem ai(l:List Tk):(Xi l).length=l.length*3:=by
 induction l with
 |nil=>rfl
 |cons p r ih=>simp only[Xi,List.length_cons,ih];omega
theorem nz(l:List Tk)(t:Tk):Xi (l++ [t])=Xi l++ [AE t.kind,An t.text,.o]:=by
 induction l with
 |nil=>rfl
 |cons p r ih=>simp only[Xi,List.cons_append,ih]
theorem n5(l:List Tk):AV.Dp (Xi l)=true:=by
 induction l with
 |nil=>rfl
 |cons p r ih=>
  show AV.Dp (_::_::_::Xi r)=true;simp only[AV.Dp,ih];rfl
theorem n6(fr:Bool)(H:List (Nat×AN))(n:Nat)(l:List Tk):(Xi l).map (AV.IA fr H (n+1))=Xi l:=by
 induction l with
 |nil=>rfl
 |cons x r ih=>
  show _::_::_::(Xi r).map _=_;rw[ih];rfl
theorem sQ(l:List Tk)(e j:Nat)(he:e<l.length)(hj:j<3):(Xi l).getD (e*3+j) .top=(ET (l.getD e default)).getD j .top:=by
 induction l generalizing e with
 |nil=>simp at he
 |cons p r ih=>
  cases e with
  |zero=>rw[Nat.zero_mul,Nat.zero_add];match j,hj with|0,_=>rfl|1,_=>rfl|2,_=>rfl
  |succ e=>
   have:=ih e (by simpa using he);rw[show(e+1)*3+j=(e*3+j)+3 by omega];simpa[Xi]using this
theorem n7{l:List Tk}{i:Nat}(h:i<l.length):l.take (i+1)=l.take i++ [l.getD i default]:=by
 rw[List.take_add_one,Zlg,Zeg h];rfl
abbrev uO(l:List Tk)(e:Int)(x:AV):List (Nat×AN):= [(1002,.box 55 (.AF [.v (.slice none 0 0)])),(1003,.box 30 (.AF [AE e])),(1004,.box 3 (.AF [x])),(1005,.box 55 (.AF [.s 6026])),(6026,.row 111 3 (.AF (Xi l)))]
abbrev lxE(s:ByteArray):List (Nat×AV):= [(0,An s),(2,.p 1002 0),(3,.p 1003 0),(4,.p 1004 0),(5,.p 1005 0),(11,.f (.func 80) [.p 2001 0])]
set_option maxHeartbeats 4000000 in
set_option maxRecDepth 100000 in
theorem jq(s:ByteArray)(ts:List Tk)(p e:Nat→Nat)(hs:s.size≤6000)(hP:vl (bl s) ts p e)(qO:p 0=Cy 1 (bl s))(HS:Gz [47,47] (EK (bl s))=false)(r:AV)(VF:ts.length≤2000→r=.t [.i true (fun e j=>(Xi ts).getD (e*3+j) .top) 3 0 ts.length,AE 0,AE 0])(oq: ¬ts.length≤2000→r=.t [.v (.slice none 0 0),AE 2,AE (p 2000)]):Pure Tryz.prog 23 [An s] r:=by
 have c6:=DF ((6000:Int)<(s.size:Int));have uE:=dc s;refine Ea (n:=28) (res:= [.cell 2 55,.cell 3 30,.cell 4 3]) hT Tryz.func23 rfl rfl rfl Tryz.ntmps23 (Nat.le_of_ble_eq_true rfl) fun B w0 F8 Az=>?_;have Am:=CW.none F8;have AB:True:=trivial;repeat'(first|exact tT|refine WA tT c6 ?_ ?_|(refine PE ?_;clear hK K)|refine WR fun K hK=>?_|refine PT ?_|refine WC (fun h=>?_) fun h=>?_|exact ff|fail)
 repeat'(first|exact tT|refine WA tT AB ?_ ?_|refine EN uE AB ?_|(refine HE ?_;clear hK K)|refine WR fun K hK=>?_|refine HT ?_|refine WC (fun h=>?_) fun h=>?_|exact ff|fail)
 refine A7 ⟨lxE s,uO [] 0 (AE 0)++ [(2001,.box 9 (.AF [An s]))]⟩ (fun a w hG=>by
  have h0:G 28 B w0 ⟨[(0,An s),(2,.p 2 0),(3,.p 3 0),(4,.p 4 0),(5,.p 5 0),(11,.f (.func 80) [.p 1001 0])],[(2,.box 55 (.AF [.v (.slice none 0 0)])),(3,.box 30 (.AF [AE 0])),(4,.box 3 (.AF [AE 0])),(5,.box 55 (.AF [.v (.slice none 0 0)])),(1001,.box 9 (.AF [An s]))]⟩ a w:=G.Al (AA Ai) IN a w hG;have h1:=h0.KS 5 26 0 55 111 3 (.AF []) rfl rfl Zd rfl (F8 26);push_cast at h1;have h2:=h1.rn 2 1002 (by push_cast[Bg,AV.ids]) (by push_cast) (F8 _);push_cast at h2;have h3:=h2.rn 3 1003 (by push_cast[Bg,AV.ids]) (by push_cast) (F8 _);push_cast at h3;have h4:=h3.rn 4 1004 (by push_cast[Bg,AV.ids]) (by push_cast) (F8 _);push_cast at h4;have h5:=h4.rn 5 1005 (by push_cast[Bg,AV.ids]) (by push_cast) (F8 _);push_cast at h5;have h6:=h5.rn 26 6026 (by push_cast[Bg,AV.ids]) (by push_cast) (F8 _);push_cast at h6;have h7:=h6.rn 1001 2001 (by push_cast[Bg,AV.ids]) (by push_cast) (F8 _);push_cast at h7;exact G.Al (AA Ai) IN a w h7) ?_
 refine nt 1000 3000 (fn:=Tryz.f80) (cg:=_) (ng:=37) Az rfl Tryz.func80 rfl rfl rfl Tryz.ntmps80 (Nat.le_of_ble_eq_true rfl) Zd Zd (by push_cast[EX]) (by simp) (by push_cast[Bg,AV.ids,AV.Av];done) (fun id _=>F8 id) fun y wg wd hgg qD hY=>?_;push_cast;refine sO hY (α:=Nat) (fun i=>i<ts.length∧i≤2000) (fun i=>i<2000) (fun i=>i=2000) (fun i=> [.a [AE (ts.getD i default).kind,An (ts.getD i default).text,AE (p i)]]) (fun i=>uO (ts.take i) 0 (AE 0)) (fun i=>uO (ts.take (i+1)) 0 (AE 0)) (fun i=>uO (ts.take i) 2 (AE (p i))) 5000 2000 Zd Zd (fun i=>by push_cast) (fun i=>⟨rfl,by push_cast⟩) (fun i hi Y bX R R' hR hR' wb hwb=>?_) (fun use=>?_)
 ·obtain⟨Hz,HH⟩:=hi;have eh:AJ 6 Y=Y:=MV Zd bX;have AAd:AJ 25 Y=Y:=MV Zd bX;have AAe:AJ 26 Y=Y:=MV Zd bX;have RZ:BD 1000 Y=Y:=QC Zd bX;have hgY:P4 1000 Y:=YF 1000 bX;have AB:BD 1000 Y=Y∧AJ 6 Y=Y∧AJ 25 Y=Y∧AJ 26 Y=Y:=⟨RZ,eh,AAd,AAe⟩;have hlen:=ai (ts.take i);rw[List.length_take,Nat.min_eq_left Zo]at hlen;have OT:=TJ (hP.at_ i Hz).2.1;have ht:=n7 Hz;simp only[uO,ht,nz,List.cons_append,List.nil_append]at hR hR' ⊢;generalize Xi (ts.take i)=L at*;generalize ts.getD i default=t at*;have zU:Dy 2000 Y:=Qy (fun _ h _=>h) bX;have xm:Dh 6026 Y=Y:=Zy Zd bX;have CD:Bz (fun id=>id≠6026) Y:=Qy (fun d _ h=>by omega) bX;have Oo:L.length / 3=i:=Zo
  have c20:(t.kind==0)=false:=beq_eq_false_iff_ne.2 Zo;by_cases Pe:i<2000
  ·have c15:((i:Int)==2000)=false:=beq_eq_false_iff_ne.2 Zo;refine A7 ⟨[(12,.a [AE t.kind,An t.text,.o]),(0,An s),(2,.p 1002 0),(3,.p 1003 0),(4,.p 1004 0),(5,.p 1005 0)],[(1002,.box 55 (.AF [.v (.slice none 0 0)])),(1003,.box 30 (.AF [AE 0])),(1004,.box 3 (.AF [AE 0])),(1005,.box 55 (.AF [.s 6026])),(6026,.row 111 3 (.AF L))]++Y⟩ (fun a w hG=>?_) ?_
   ·refine hG.E8 ⟨AR.agg ⟨AR.refl _,AR.refl _,NV _,trivial⟩,AR.refl _,AR.refl _,AR.refl _,AR.refl _,AR.refl _,trivial⟩ ?_;simp only[List.cons_append,List.nil_append];exact Tw
   push_cast[List.cons_append,List.nil_append];repeat'(first|exact tT|refine WA tT AB ?_ ?_|(refine HE ?_;clear hK K)|refine WR fun K hK=>?_|refine HT ?_|refine WC (fun h=>?_) fun h=>?_|exact ff|fail)
   intro wb2 xn;refine BG ⟨[],[(1002,.box 55 (.AF [.v (.slice none 0 0)])),(1003,.box 30 (.AF [AE 0])),(1004,.box 3 (.AF [AE 0])),(1005,.box 55 (.AF [.s 6026])),(6026,.row 111 3 (.AF (L++ [AE t.kind,An t.text,.o])))]++Y⟩ ?_ ?_
   ·push_cast[List.cons_append,List.nil_append,AB];exact⟨hgY,hR Pe⟩
   repeat'(first|exact tT|refine WA tT (Y5 AB Oo c15 c20 xm) ?_ ?_|(refine WQ (Y5 AB Oo c15 c20 xm) fun K' AX=>?_;(repeat refine AS ?_ ?_);(first|refine⟨[AE t.kind,An t.text,.o],⟨rfl,(fun el j h1 h2=>rfl),rfl,Zo,Zo⟩,?_⟩);refine AX _ ?_;clear AX K')|(refine HE ?_;clear hK K)|refine WR fun K hK=>?_|refine HT ?_|refine WC (fun h=>?_) fun h=>?_|exact ff|fail)
   refine gj 26 6026 (st1:=⟨[],[(1002,.box 55 (.AF [.v (.slice none 0 0)])),(1003,.box 30 (.AF [AE 0])),(1004,.box 3 (.AF [AE 0])),(1005,.box 55 (.AF [.s 26])),(26,.row 111 3 (.AF (L++ [AE t.kind,An t.text,.o])))]++Y⟩) (G.wkT (lo:=2000) (hi:=5000) [_,_,_,_,_,_,_,_] [_,_,_,_,_] Y rfl rfl trivial (YG bX) rfl ⟨.inr rfl,.inr rfl,.inr rfl,.inr rfl,.inr rfl,trivial⟩) trivial (QW (by simp[Bz,AN.ids,AV.Av,AV.ids]) CD) (xn _ (.inr Zd)) ?_;simp only[IL,T7,zU.rn (show 26<2000 by decide)];push_cast[IL,Gd,List.cons_append,List.nil_append];exact fun _ _ h=>h
  ·have fY:i=2000:=Zo
   have c15:((i:Int)==2000)=true:=by rw[fY];rfl
   push_cast[List.cons_append,List.nil_append];repeat'(first|exact tT|refine WA tT AB ?_ ?_|(refine HE ?_;clear hK K)|refine WR fun K hK=>?_|refine HT ?_|refine WC (fun h=>?_) fun h=>?_|exact ff|fail)
   intro wb2 xn;refine AI ⟨[],[(1002,.box 55 (.AF [.v (.slice none 0 0)])),(1003,.box 30 (.AF [AE 2])),(1004,.box 3 (.AF [AE (p i)])),(1005,.box 55 (.AF [.s 6026])),(6026,.row 111 3 (.AF L))]++Y⟩ ?_ ?_
   ·push_cast[List.cons_append,List.nil_append,AB];exact⟨hgY,hR' fY⟩
   repeat'(first|exact tT|refine WA tT (Y4 AB Oo c15 c20) ?_ ?_|(refine HE ?_;clear hK K)|refine WR fun K hK=>?_|refine HT ?_|refine WC (fun h=>?_) fun h=>?_|exact ff|fail)
   (refine V5.TO hT [(6,.box 111 (.AF [AE t.kind,An t.text,AE (p i)]))] [] [(5,[]),(5,[]),(0,[]),(0,[]),(0,[])] hm ZD (by push_cast[AB,List.cons_append,List.nil_append]) (by repeat(first|exact Ce|refine Cf rfl ?_|exact E7)) fun K Jz=>?_;push_cast[AB,List.cons_append,List.nil_append];repeat' (first
  |(refine V5.GN (by rfl) rfl (by simp only[As,Nat.reduceLT]) fun K' AX=>?_;push_cast[AB,List.cons_append,List.nil_append];(try simp (disch:=omega) only[wrap64,Int.toNat_natCast]);(repeat refine AS ?_ ?_);refine AX _ (fun _=>by push_cast[AB,List.cons_append,List.nil_append]) ?_;simp only[St.put];clear AX K')
  |((first|refine V5.Dv rfl (by rfl) fun K' AX=>?_|refine V5.Ed rfl (by rfl) fun K' AX=>?_);push_cast[AB,List.cons_append,List.nil_append];(try simp (disch:=omega) only[wrap64,Int.toNat_natCast]);(repeat refine AS ?_ ?_);(first|refine AX _ (by push_cast[AB,List.cons_append,List.nil_append]) ?_);clear AX K')
  |((first|refine V5.GO rfl (by rfl) fun K' AX=>?_|refine V5.Fe rfl rfl Zd fun K' AX=>?_);push_cast[AB,List.cons_append,List.nil_append];(try simp (disch:=omega) only[wrap64,Int.toNat_natCast]);(repeat refine AS ?_ ?_);(first|refine AX _ (by repeat(first|exact Ce|refine Cf rfl ?_|exact E7)) ?_);clear AX K')
  |(refine V5.HQ ?_;refine Jz _ ?_;clear Jz K;push_cast)))
   repeat'(first|exact tT|refine WA tT AB ?_ ?_|(refine HE ?_;clear hK K)|refine WR fun K hK=>?_|refine HT ?_|refine WC (fun h=>?_) fun h=>?_|exact ff|fail)
   exact G.wkT (lo:=2000) (hi:=5000) [_,_,_,_,_,_,_,_,_,_] [_,_,_,_,_] Y rfl rfl trivial (YG bX) rfl ⟨.inr rfl,.inr rfl,.inr rfl,.inr rfl,.inr rfl,trivial⟩
 ·have On:(bl s).length=s.size:=rfl;have xo:=aY s 0 Zo Zo (by simpa using HS);rw[show((0+Cy 1 ((bl s).drop 0):Nat):Int)=(p 0:Int) by rw[qO];simp]at xo;push_cast[List.cons_append,List.nil_append];refine Hv (Ic ?_);repeat'(first|exact tT|refine WA xo tT ?_ ?_|(refine PE ?_;clear hK K)|refine WR fun K hK=>?_|refine PT ?_|refine WC (fun h=>?_) fun h=>?_|exact ff|fail)
  push_cast;refine Qx (dY (α:=Nat) (fun i=>⟨[(0,.v (.func (.yield y) #[] #[])),(1,.p 2001 0),(3,AE (p i:Int))],uO (ts.take i) 0 (AE 0)++ [(2001,.box 9 (.AF [An s]))]⟩) (fun i=>i≤ts.length∧i≤2000) (fun i=>ts.length - i) 0 ⟨Nat.zero_le _,Nat.zero_le _⟩ (G.Al (AA Ai) IN) fun i hi=>?_);obtain⟨Hz,HH⟩:=hi;by_cases Ak:i<ts.length
  ·obtain⟨a1,a2,a3,a4,a5,a6⟩:=hP.at_ i Ak;rw[On]at a1 a4;have c11:=DT ((p i:Int)<(s.size:Int));have xR:=jZ s (p i) Zo a1 _ _ a2;have OT:=TJ a2;have c19:((ts.getD i default).kind==0)=false:=beq_eq_false_iff_ne.2 Zo;have ua:=aY s (p i+e i) Zo a4 a5;rw[←a6]at ua
   have htx:s.extract (p i) (p i+e i)=(ts.getD i default).text:=by
    rw[a3,jT,UY,OM,List.drop_take,Nat.add_sub_cancel_left]
   have AAg:s.extract (p i) ((p i:Int)+(e i:Int)).toNat=(ts.getD i default).text:=by rw[←htx];congr 1
   push_cast at ua;refine Hv (Ic ?_);push_cast[List.cons_append,List.nil_append];repeat'(first|exact tT|refine WA tT c11 ?_ ?_|(refine PE ?_;clear hK K)|refine WR fun K hK=>?_|refine PT ?_|refine WC (fun h=>?_) fun h=>?_|exact ff|fail)
   push_cast;refine Qx (Hv (Ic ?_));repeat'(first|exact tT|refine WA xR tT ?_ ?_|(refine PE ?_;clear hK K)|refine WR fun K hK=>?_|refine PT ?_|refine WC (fun h=>?_) fun h=>?_|exact ff|fail)
   push_cast;refine Hv (Ic ?_);repeat'(first|exact tT|refine WA tT c19 ?_ ?_|(refine PE ?_;clear hK K)|refine WR fun K hK=>?_|refine PT ?_|refine WC (fun h=>?_) fun h=>?_|exact ff|fail)
   push_cast;refine Hv (Hv (sM (L7 (l1:= [_,_,_,_,_,_,_,_]) (l2:= [_,_]) fun K hK=>?_)));repeat'(first|exact tT|refine WA tT AAg ?_ ?_|(refine PE ?_;clear hK K)|refine WR fun K hK=>?_|refine PT ?_|refine WC (fun h=>?_) fun h=>?_|fail)
   all_goals first|omega|rfl|decide|skip
   refine use i ⟨Ak,HH⟩ [(2001,.box 9 (.AF [An s]))] rfl _ _ _ _ _ _ _ _ none rfl rfl (.inl rfl) (by simp only[As,Nat.reduceLT]) ⟨by push_cast,by push_cast⟩ rfl (by push_cast[EX]) (by push_cast) (by push_cast[Bg,AV.ids,AV.Av];done) (fun hE=>?_) (fun hD=>?_)
   ·push_cast[List.cons_append,List.nil_append];refine L7 (l1:= [_]) (l2:= []) fun K hK=>?_;repeat'(first|exact tT|refine WA tT tT ?_ ?_|(refine PE ?_;clear hK K)|refine WR fun K hK=>?_|refine PT ?_|refine WC (fun h=>?_) fun h=>?_|fail)
    refine TN ?_;push_cast;refine TL false rfl (fun h=>by cases h) fun _=>?_;refine dX ?_;push_cast;refine Ic ?_;repeat'(first|exact tT|refine WA ua tT ?_ ?_|(refine PE ?_;clear hK K)|refine WR fun K hK=>?_|refine PT ?_|refine WC (fun h=>?_) fun h=>?_|exact ff|fail)
    push_cast;exact⟨rfl,i+1,⟨⟨Zo,Zo⟩,Zo⟩,G.Al (AA Ai) IN⟩
   ·push_cast[List.cons_append,List.nil_append];refine L7 (l1:= [_]) (l2:= []) fun K hK=>?_;repeat'(first|exact tT|refine WA tT tT ?_ ?_|(refine PE ?_;clear hK K)|refine WR fun K hK=>?_|refine PT ?_|refine WC (fun h=>?_) fun h=>?_|fail)
    refine TN ?_;push_cast;refine TL true rfl (fun _=>?_) fun h=>by cases h
    refine jn ?_;push_cast;refine⟨by push_cast,.inr ⟨rfl,?_⟩⟩;push_cast;rw[oq Zo,hD]
  ·have MA:i=ts.length:=Zo
   have c11:decide ((p i:Int)<(s.size:Int))=false:=Zdf (by have:=hP.fin;rw[On,←MA]at this;omega);refine Hv (Ic ?_);push_cast[List.cons_append,List.nil_append];repeat'(first|exact tT|refine WA tT c11 ?_ ?_|(refine PE ?_;clear hK K)|refine WR fun K hK=>?_|refine PT ?_|refine WC (fun h=>?_) fun h=>?_|exact ff|fail)
   push_cast;refine⟨by push_cast,.inl ⟨rfl,?_⟩⟩;push_cast;rw[VF Zo,MA,List.take_length];have HJ:=n5 ts;have hlen:=ai ts;repeat'(first|exact tT|refine WA tT tT ?_ ?_|(refine PE ?_;clear hK K)|refine WR fun K hK=>?_|refine PT ?_|refine WC (fun h=>?_) fun h=>?_|exact ff|fail)
   rw[n6,hlen,Nat.mul_div_cancel _ Zd]
theorem aj(s:ByteArray)(ts:List Tk)(hs:s.size≤6000)(hA:Mp (EK (bl s)) ts)(HS:Gz [47,47] (EK (bl s))=false)(hn:ts.length≤2000):Pure Tryz.prog 23 [An s] (.t [KO ts,AE 0,AE 0]):=by
 have hle:=Jg 1 (bl s);obtain⟨p,e,qO,hP⟩:=vm (full:=bl s) hA (Cy 1 (bl s)) hle rfl;exact Pure.res (jq s ts p e hs hP qO HS _ (fun _=>rfl) (fun h=>absurd hn h)) (AR.sub (AR.uL ⟨AR.slice rfl (fun e j he hj=>by rw[Nat.zero_add,sQ _ e j he hj]),AR.refl _,AR.refl _,trivial⟩))
theorem n9(s:ByteArray)(ts:List Tk)(hA:Mp (EK (bl s)) ts)(HS:Gz [47,47] (EK (bl s))=false)(hn:6000<s.size∨2000<ts.length):Pure Tryz.prog 23 [An s] (.t [.v (.slice none 0 0),AE 2,.o]):=by
 by_cases hs:6000<s.size
 ·exact Pure.res (ny s hs) (AR.sub (AR.uL ⟨AR.refl _,AR.refl _,NV _,trivial⟩))
 have hle:=Jg 1 (bl s);obtain⟨p,e,qO,hP⟩:=vm (full:=bl s) hA (Cy 1 (bl s)) hle rfl;exact Pure.res (jq s ts p e Zo hP qO HS _ (fun h=>absurd h Zo) (fun _=>rfl)) (AR.sub (AR.uL ⟨AR.refl _,AR.refl _,NV _,trivial⟩))
end Go.Proofs.YthemnhjojaehhaaGreatDoor
