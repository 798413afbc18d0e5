/- Part of a proof. -/
import Derived.Lib.ItoaNum
import Derived.Lib.ItoaMem
import Derived.Lib.Atoi
import Derived.Test.YthemnhjojaehhaaGreatDoorA23
set_option linter.all false
namespace Go.Ad
open Go.RowKit
def AR(x y:AV):Prop:= ∀(B:Nat) (I:Nat→Prop) (w:World) (ρ:Nat→Option Value) (u:Value),AL B I w ρ x u→AL B I w ρ y u
theorem AR.refl(x:AV):AR x x:=fun _ _ _ _ _ h=>h
theorem AR.top(x:AV):AR x .top:=fun _ _ _ _ u _=>.top u
theorem AR.sub{x y:AV}(h:AR x y):Sub x y:=fun B I w u hu=>h B I w DW u hu
theorem AR.iX{fr:Bool}{c c':Nat→Nat→AV}{sz off off' len len':Nat}(hl:len=len')(h: ∀e j,e<len→j<sz→Sub (c (off+e) j) (c' (off'+e) j)):AR (.i fr c sz off len) (.i false c' sz off' len'):=by
 subst hl;intro B I w ρ u hu;cases hu with
 |i _ _ _ _ _ cap A uu BW hA hc=>
  refine .i _ _ _ _ _ cap A uu BW (fun hl=>?_) (fun e j he hj=>h e j he hj _ _ _ _ (hc e j he hj));obtain⟨ad,h1,h2,h3,h4⟩:=hA hl;exact⟨ad,h1,h2,(fun hh=>by cases hh),h4⟩
theorem AR.slice{fr:Bool}{c c':Nat→Nat→AV}{sz off off' len len':Nat}(hl:len=len')(h: ∀e j,e<len→j<sz→c (off+e) j=c' (off'+e) j):AR (.i fr c sz off len) (.i false c' sz off' len'):=
 AR.iX hl fun e j he hj=>by rw[h e j he hj];exact Sub.refl _
theorem AR.nil{c:Nat→Nat→AV}{sz off:Nat}:AR (.v (.slice none 0 0)) (.i false c sz off 0):=fun B I w ρ u hu=>by
 obtain rfl:=hu.Ao;exact .i _ _ _ _ _ _ _ (fun _ _=>undef) (by simp) (fun h=>by simp at h) (fun e j he=>by simp at he)
def JC:List AV→List AV→Prop
 | [],[]=>True
 |x::r,y::s=>AR x y∧JC r s
 |_,_=>False
theorem JC.spec: ∀ {xs ys:List AV},JC xs ys→ys.length=xs.length∧ ∀j,AR (xs.getD j .top) (ys.getD j .top)
 | [],[],_=>⟨rfl,fun _=>AR.refl _⟩
 |x::r,y::s,h=>by
  obtain⟨h1,h2⟩:=JC.spec h.2;refine⟨by simp[h1],fun j=>?_⟩;cases j with
  |zero=>simpa using h.1
  |succ j=>simpa using h2 j
 | [],_::_,h=>h.elim
 |_::_,[],h=>h.elim
theorem AR.agg{xs ys:List AV}(h:JC xs ys):AR (.a xs) (.a ys):=fun B I w ρ u hu=>by
 obtain⟨h1,h2⟩:=h.spec;cases hu with
 |a _ us hl hc=>exact .a _ us (by rw[h1];exact hl) fun j hj=>h2 j _ _ _ _ _ (hc j (by rw[←h1];exact hj))
theorem AR.uL{xs ys:List AV}(h:JC xs ys):AR (.t xs) (.t ys):=fun B I w ρ u hu=>by
 obtain⟨h1,h2⟩:=h.spec;cases hu with
 |t _ us hl hc=>exact .t _ us (by rw[h1];exact hl) fun j hj=>h2 j _ _ _ _ _ (hc j (by rw[←h1];exact hj))
def yx(b b':AN):Prop:=b=b'∨ ∃t l l',b=.box t (.AF l)∧b'=.box t (.AF l')∧JC l l'
def mj(E:List (Nat×AV)):List (Nat×AV)→Prop
 | []=>True
 |(k,x)::r=>AR (lk E k) x∧mj E r
theorem aC{E:List (Nat×AV)}: ∀ {E':List (Nat×AV)},mj E E'→ ∀s,lk E' s=.top∨AR (lk E s) (lk E' s)
 | [],_,s=>.inl rfl
 |(k,x)::r,h,s=>by
  simp only[lk];split
  ·rename_i e;subst e;exact .inr h.1
  ·exact aC h.2 s
def LX(H H':List (Nat×AN)):Prop:= ∀s b',Af H' s=some b'→ ∃b,Af H s=some b∧yx b b'
theorem Tw{H:List (Nat×AN)}:LX H H:=fun s b h=>⟨b,h,.inl rfl⟩
theorem qs{H:List (Nat×AN)}:LX H []:=fun s b h=>by cases h
theorem Z3{H R:List (Nat×AN)}{k:Nat}{b0:AN}(h0:Af H k=some b0)(h:LX H R):LX H ((k,b0)::R):=fun s b hs=>by
 simp only[Af]at hs;split at hs
 ·rename_i e;subst e;injection hs with hs;subst hs;exact⟨_,h0,.inl rfl⟩
 ·exact h s b hs
theorem B7{H R:List (Nat×AN)}{k:Nat}{t:TypeId}{l l':List AV}(h0:Af H k=some (.box t (.AF l)))(hl:JC l l')(h:LX H R):LX H ((k,.box t (.AF l'))::R):=fun s b hs=>by
 simp only[Af]at hs;split at hs
 ·rename_i e;subst e;injection hs with hs;subst hs;exact⟨_,h0,.inr ⟨_,_,_,rfl,rfl,hl⟩⟩
 ·exact h s b hs
theorem mJ{Y H:List (Nat×AN)}{k:Nat}{b0:AN}(hY:Dy 2000 Y)(hk:k<2000)(h:LX H Y):LX ((k,b0)::H) Y:=fun s b hs=>by
 have:=Dy.in hY hs;simp only[Af];rw[if_neg Zo];exact h s b hs
theorem G.sub{n B:Nat}{w0:AT}{st st':St}{a:Act}{w:World}(hE:mj st.env st'.env)(hH:LX st.heap st'.heap)(hG:G n B w0 st a w):G n B w0 st' a w:=by
 obtain⟨ρ,I,h⟩:=hG;refine⟨ρ,I,h.defers,h.size,fun s=>?_,⟨fun id blk hk=>?_,fun i1 i2 b1 b2 x x' b CD k1 k2=>?_,fun i1 b1 x b k1=>?_,h.hw.lt⟩,h.below,h.base,h.BQ⟩
 ·rcases aC hE s with e|e
  ·rw[e];exact .top _
  ·exact e _ _ _ _ _ (h.env s)
 ·obtain⟨b0,h1,h2⟩:=hH id blk hk;obtain⟨x,hx,Ae⟩:=h.hw.ok id b0 h1;refine⟨x,hx,?_⟩;rcases h2 with rfl|⟨t,l,l',rfl,rfl,hl⟩
  ·exact Ae
  ·obtain⟨e1,e2⟩:=hl.spec;obtain⟨b,us,rfl,hB,hh,hle,hc⟩:=Ae;exact⟨b,us,rfl,hB,hh,by rw[hle];exact e1.symm,fun j u hu=>e2 j _ _ _ _ _ (hc j u hu)⟩
 ·obtain⟨c1,h1,_⟩:=hH i1 b1 k1;obtain⟨c2,h2,_⟩:=hH i2 b2 k2;exact h.hw.apart i1 i2 c1 c2 x x' b CD h1 h2
 ·obtain⟨c1,h1,_⟩:=hH i1 b1 k1;exact h.hw.J2 i1 c1 x b h1
theorem G.E8{n B:Nat}{w0:AT}{st st':St}{a:Act}{w:World}(hG:G n B w0 st a w)(hE:mj st.env st'.env)(hH:LX st.heap st'.heap):G n B w0 st' a w:=G.sub hE hH hG
theorem G.KS{n B:Nat}{w0:AT}{st:St}{a:Act}{w:World}(hG:G n B w0 st a w)(id d i:Nat)(t e:TypeId)(sz:Nat)(c:AH){l:List AV}(hk:Af st.heap id=some (.box t (.AF l)))(hi:l.getD i .top=.v (.slice none 0 0))(CD:id≠d)(hc:c.len=0)(qD:w0.gh d=none):
  G n B w0 ⟨CM d st.env,(id,.box t (.AF ((AV.CV d l).set i (.s d))))::(d,.row e sz c)::AJ d st.heap⟩ a w:=by
 obtain⟨ρ,I,hg⟩:=hG;have h1:=hg.new (Below.refl _ w) d (.slice none 0 0) (.row e sz c) ⟨0,[],World.ownsRow_nil w B e sz,by simp[hc],fun j u hu=>by simp at hu⟩ (fun b hb=>by simp[Ab]at hb) qD
 have El:Af ((d,.row e sz c)::AJ d st.heap) id=some (.box t (.AF (AV.CV d l))):=by
  simp only[Af];rw[if_neg (fun e=>CD e.symm),NF,if_neg CD,hk];rfl
 refine⟨_,I,h1.defers,h1.size,h1.env,⟨fun id' blk F7=>?_,fun i1 i2 b1 b2 x x' b tW k1 k2=>?_,fun i1 b1 x b k1=>?_,h1.hw.lt⟩,h1.below,h1.base,h1.BQ⟩
 ·simp only[Af]at F7;by_cases e1:id=id'
  ·rw[if_pos e1]at F7;injection F7 with F7;subst F7;subst e1
   obtain⟨x,hx,b,us,rfl,hB,hh,hl,FE⟩:=h1.hw.ok _ _ El;refine⟨_,hx,b,us,rfl,hB,hh,by rw[hl];simp[AH.len],fun j u hu=>?_⟩;have h2:=FE j u hu;simp only[AH.at]at h2 ⊢;by_cases ej:i=j
   ·subst ej;rw[EV,hi,AV.kill]at h2
    have hj:i<(AV.CV d l).length:=by
     have:=(Array.getElem?_eq_some_iff.1 hu).1;rw[hl]at this;simpa[AH.len]using this
    rw[D9 _ _ _ _ hj,h2.Ao];exact .s d _ (B4 _ _ _) rfl
   ·rw[getD_set_ne _ _ _ _ _ ej];exact h2
  ·rw[if_neg e1]at F7;exact h1.hw.ok id' blk F7
 ·have conv: ∀ {i1 b1},Af ((id,.box t (.AF ((AV.CV d l).set i (.s d))))::(d,.row e sz c)::AJ d st.heap) i1=some b1→ ∃b2,Af ((d,.row e sz c)::AJ d st.heap) i1=some b2:=fun{i1 b1} h=>by
   simp only[Af]at h;by_cases e1:id=i1
   ·subst e1;exact⟨_,El⟩
   ·rw[if_neg e1]at h;exact⟨b1,h⟩
  obtain⟨c1,q1⟩:=conv k1
  obtain⟨c2,q2⟩:=conv k2
  exact h1.hw.apart i1 i2 c1 c2 x x' b tW q1 q2
 ·have: ∃b2,Af ((d,.row e sz c)::AJ d st.heap) i1=some b2:=by
   simp only[Af]at k1;by_cases e1:id=i1
   ·subst e1;exact⟨_,El⟩
   ·rw[if_neg e1]at k1;exact⟨b1,k1⟩
  obtain⟨c1,q1⟩:=this;exact h1.hw.J2 i1 c1 x b q1
mutual
theorem rT{N d:Nat}(blk:AN)(hd:d<N): ∀(x:AV),x.ge N→Ec d blk x=x
 | .v _,_=>by rw[Ec,AV.kill]<;>simp
 | .s id,h=>by rw[AV.ge]at h;unfold Ec;simp only;rw[if_neg Zo]
 | .w id _ _,h=>by rw[Ec];exact Go.Ad.Er hd _ h;all_goals simp
 | .p id _,h=>by rw[AV.ge]at h;rw[Ec,if_neg Zo]
 | .i _ _ _ _ _,h=>by rw[Ec];exact Go.Ad.Er hd _ h;all_goals simp
 | .q _ _ _ _ _,h=>by rw[Ec];exact Go.Ad.Er hd _ h;all_goals simp
 | .a cs,h=>by rw[Ec];exact Go.Ad.Er hd _ h;all_goals simp
 | .t cs,h=>by rw[Ec];exact Go.Ad.Er hd _ h;all_goals simp
 | .f fn cs,h=>by rw[AV.ge]at h;rw[Ec,V7 blk hd cs h]
 | .g b x,h=>by rw[Ec];exact Go.Ad.Er hd _ h;all_goals simp
 | .o,h=>by rw[Ec];exact Go.Ad.Er hd _ h;all_goals simp
 | .top,h=>by rw[Ec];exact Go.Ad.Er hd _ h;all_goals simp
theorem V7{N d:Nat}(blk:AN)(hd:d<N): ∀(l:List AV),AV.Lh N l→Ez d blk l=l
 | [],_=>by rw[Ez]
 |x::r,h=>by
  rw[AV.Lh]at h;rw[Ez,V7 blk hd r h.2]
  congr 1
  cases x with
  |p id off=>rw[AV.ge]at h;rw[KG,if_neg Zo]
  |_=>exact Go.Ad.Er hd _ h.1
end
theorem PA{N d:Nat}(blk:AN)(hd:d<N): ∀(l:List AV),AV.Lh N l→Ij d blk l=l
 | [],_=>by rw[Ij]
 |x::r,h=>by
  rw[AV.Lh]at h;rw[Ij,rT blk hd x h.1,PA blk hd r h.2]
theorem Dy.ml{N d:Nat}(blk:AN)(hd:d<N): ∀ {Y:List (Nat×AN)},Dy N Y→Fo d blk Y=Y
 | [],_=>rfl
 |(k,b)::r,h=>by
  have hk:N≤k:=h.1;rw[Fo,if_neg Zo,Dy.ml blk hd h.2.2]
  congr 2
  have hb:=h.2.1;cases b with
  |box t c=>cases c with
   |AF l=>simp only[Ge,Ik];rw[PA blk hd l (DZ l hb)]
   |_=>rfl
  |FD t c=>cases c with
   |AF l=>simp only[Ge,Ik];rw[PA blk hd l (DZ l hb)]
   |_=>rfl
  |DN kd ks c=>cases c with
   |AF l=>simp only[Ge,Ik];rw[PA blk hd l (DZ l hb)]
   |_=>rfl
  |row e sz c=>rfl
  |mp c=>rfl
end Go.Ad
namespace Go.Proofs.YthemnhjojaehhaaGreatDoor
open Go.Ad Go.Proofs Go.Tp
attribute [local irreducible] A8 AK BY Go.Ad.Pure BS
theorem YV(a b:ByteArray):Pure Tryz.prog 122 [An a,An b] (An (Sn a b)):=by
 unfold Sn;by_cases h:a=AZ
 ·rw[if_pos h];have c:decide (a=(⟨#[110,117,109,98,101,114]⟩:ByteArray))=true:=Zde h;refine PO 9 [.tmp 4] hT Tryz.func122 Tryz.ntmps122 fun B w0=>?_;repeat'(first|exact tT|refine WA tT c ?_ ?_|(refine PE ?_;clear hK K)|refine WR fun K hK=>?_|refine PT ?_|refine WC (fun h=>?_) fun h=>?_|exact ff|fail)
  all_goals done
 ·rw[if_neg h];have c:decide (a=(⟨#[110,117,109,98,101,114]⟩:ByteArray))=false:=Zdf h;refine PO 9 [.tmp 4] hT Tryz.func122 Tryz.ntmps122 fun B w0=>?_;repeat'(first|exact tT|refine WA tT c ?_ ?_|(refine PE ?_;clear hK K)|refine WR fun K hK=>?_|refine PT ?_|refine WC (fun h=>?_) fun h=>?_|exact ff|fail)
  all_goals done
theorem UF(l:List Ex)(j:Nat)(hj:j<l.length):Ex.AP (l.take (j+1))=Ex.AP (l.take j)+(l.getD j default).size:=by
 induction l generalizing j with
 |nil=>simp at hj
 |cons a r ih=>
  cases j with
  |zero=>simp[Ex.AP]
  |succ j=>have:=ih j (by simpa using hj);simp only[List.take_succ_cons,Ex.AP,List.getD_cons_succ,this];omega
theorem Rp(l:List Ex)(j:Nat)(hj:j<l.length):Ex.A2 (l.take (j+1))=max (Ex.A2 (l.take j)) (l.getD j default).depth:=by
 induction l generalizing j with
 |nil=>simp at hj
 |cons a r ih=>
  cases j with
  |zero=>simp[Ex.A2]
  |succ j=>have:=ih j (by simpa using hj);simp only[List.take_succ_cons,Ex.A2,List.getD_cons_succ,this];omega
theorem Qc(l:List Ex)(j:Nat):Ex.AP (l.take j)≤Ex.AP l:=by
 induction l generalizing j with
 |nil=>simp[Ex.AP]
 |cons a r ih=>
  cases j with
  |zero=>simp[Ex.AP]
  |succ j=>have:=ih j;simp only[List.take_succ_cons,Ex.AP];omega
mutual
theorem Mj: ∀e:Ex,e.depth≤e.size
 | .mk _ _ _ _ _ ks=>by have:=Ip ks;rw[Ex.depth,Ex.size];omega
theorem Ip: ∀l:List Ex,Ex.A2 l≤Ex.AP l
 | []=>Nat.le_refl _
 |k::r=>by have:=Ip r;have:=Mj k;rw[Ex.A2,Ex.AP];omega
end
theorem So: ∀l:List Ex,l.length≤Ex.AP l
 | []=>Nat.le_refl _
 |k::r=>by have:=So r;have:=Ex.size_eq k;simp only[List.length_cons,Ex.AP];omega
set_option maxHeartbeats 4000000 in
theorem YW(e:Ex):e.size≤1000000→Pure Tryz.prog 63 [.a (DO e)] (.t [AE e.size,AE e.depth]):=by
 induction e using Ex.ind with
 |h e ih=>
  intro Bh;have he:=Ex.size_eq e;have hd:=Ex.Ck e;have E5:=So e.kids;refine PO 32 [.tmp 2,.tmp 3] hT Tryz.func63 Tryz.ntmps63 fun B w0=>?_;repeat'(first|exact tT|refine WA tT tT ?_ ?_|(refine PE ?_;clear hK K)|refine WR fun K hK=>?_|refine PT ?_|refine WC (fun h=>?_) fun h=>?_|exact ff|fail)
  refine AM (α:=Nat) (fun j=>⟨[(13,AE j),(12,AE e.kids.length),(11,Dq e.kids),(4,AE (1+(Ex.AP (e.kids.take j):Int))),(5,AE (Ex.A2 (e.kids.take j)))],[]⟩) (fun j=>j≤e.kids.length) (fun j=>e.kids.length - j) 0 (Nat.zero_le _) (by exact G.Al (AA Ai) IN) fun j hj=>?_;have G3:=Qc e.kids j;have Gu:=Ip (e.kids.take j);by_cases Ak:j<e.kids.length
  ·have c1:=DT ((j:Int)<(e.kids.length:Int));have kid:=DH Ak;have h1:=UF e.kids j Ak;have h2:=Rp e.kids j Ak;have h3:=Qc e.kids (j+1);have hc:=ih _ (Ap Ak) Zo;have h4:=Mj (e.kids.getD j default);generalize e.kids.getD j default=x at*;have e1:1+(Ex.AP (e.kids.take (j+1)):Int)=1+(Ex.AP (e.kids.take j):Int)+(x.size:Int):=Zo
   have e2:((Ex.A2 (e.kids.take (j+1)):Nat):Int)=max ((Ex.A2 (e.kids.take j):Nat):Int) (x.depth:Int):=Zo
   repeat'(first|exact tT|refine WA hc (Y2 c1 kid) ?_ ?_|(refine PE ?_;clear hK K)|refine WR fun K hK=>?_|refine PT ?_|refine WC (fun h=>?_) fun h=>?_|exact ff|fail)
   all_goals (refine⟨j+1,⟨Zo,Zo⟩,?_⟩;simp only[e1,e2];exact G.Al (AA Ai) IN)
  ·obtain rfl:j=e.kids.length:=Zo
   have c1:=DF ((e.kids.length:Int)<(e.kids.length:Int));rw[List.take_length]at*;repeat'(first|exact tT|refine WA tT c1 ?_ ?_|(refine PE ?_;clear hK K)|refine WR fun K hK=>?_|refine PT ?_|refine WC (fun h=>?_) fun h=>?_|exact ff|fail)
   rw[show(1:Int)+(Ex.AP e.kids:Int)=(e.size:Int) by omega,show(Ex.A2 e.kids:Int)+1=(e.depth:Int) by omega]
def fK:List Pc→List AV
 | []=> []
 |p::r=>AE p.fr::AE p.pa::AE p.sl::fK r
theorem mm(l:List Pc):(fK l).length=l.length*3:=by
 induction l with
 |nil=>rfl
 |cons p r ih=>simp only[fK,List.length_cons,ih];omega
theorem iY(l:List Pc)(e j:Nat)(he:e<l.length)(hj:j<3):(fK l).getD (e*3+j) .top=(Et (l.getD e default)).getD j .top:=by
 induction l generalizing e with
 |nil=>simp at he
 |cons p r ih=>
  cases e with
  |zero=>rw[Nat.zero_mul,Nat.zero_add];match j,hj with|0,_=>rfl|1,_=>rfl|2,_=>rfl
  |succ e=>
   have:=ih e (by simpa using he);rw[show(e+1)*3+j=(e*3+j)+3 by omega];simpa[fK]using this
theorem mn(l:List Pc):Ih (fK l)=true:=by
 induction l with
 |nil=>rfl
 |cons p r ih=>simp only[fK,Ih,ih];rfl
theorem mq(b:Bool)(H:List (Nat×AN))(n:Nat)(l:List Pc):(fK l).map (AV.IA b H (n+1))=fK l:=by
 induction l with
 |nil=>rfl
 |cons x r ih=>
  simp only[fK,List.map_cons,ih];rfl
set_option maxHeartbeats 4000000 in
theorem iZ(ps:List Pc)(h1:1≤ps.length)(h2:ps.length≤64):Pure Tryz.prog 123 [C2 Et 3 ps] (C2 Et 3 ps):=by
 have hlen:=mm ps;have R9:=mn ps;refine Pure.res (r:=.i true (fun e j=>(fK ps).getD (e*3+j) .top) 3 0 ps.length) ?_ (AR.slice rfl fun e j he hj=>by rw[Nat.zero_add,iY ps e j he hj]).sub;refine PO 8 [.tmp 2] hT Tryz.func123 Tryz.ntmps123 fun B w0=>?_;repeat' (first|((first|refine SY hT 5 rfl rfl Zd fun K' AX=>?_|refine sC hT fun K' AX=>?_|refine oC fun K' AX=>?_);push_cast[hlen,R9];(try simp (disch:=omega) only[wrap64,Int.toNat_natCast]);(repeat refine AS ?_ ?_);(first|refine AX _ ?_|((first|refine⟨fK ps,⟨hlen,(fun el j h1 h2=>(iY ps el j h1 h2).symm),R9,Zo,Zo⟩,?_⟩);refine AX _ ?_)|refine⟨.v (.int .i64 0),AX _ ?_⟩);clear AX K')|(refine sK hT ?_;simp only[St.put])|((first|refine A9 (hK _ ?_)|refine Bk (hK _ ?_));clear hK K;push_cast)|((first|apply Bs|apply B5|apply CG|apply Cl);push_cast)|refine CH fun K hK=>?_|refine Fm fun K hK=>?_|refine dQ hT hm fun K hK=>?_|refine dL hT hm fun K hK=>?_|apply Bq|apply Br|apply CR|(refine B6 _ rfl (fun h=>?_) (fun h=>?_)<;>simp only[VC,reduceCtorEq]at h))
 all_goals try exact ff
 rw[mq,hlen,Nat.mul_div_cancel _ Zd]
end Go.Proofs.YthemnhjojaehhaaGreatDoor
namespace Go.Tp
def Gh:Nat→Nat→List UInt8
 |0,_=> []
 |f+1,n=>if n<10 then [UInt8.ofNat (48+n)]else Gh f (n / 10)++ [UInt8.ofNat (48+n%10)]
def CL(n:Nat):List UInt8:=Gh 20 n
theorem ic: ∀(f n:Nat),n<10^f→0<f→Gh f n=Lib.decDigits n
 |0,n,_,h=>by omega
 |f+1,n,hn,_=>by
  unfold Gh;rw[Lib.decDigits];by_cases h:n<10
  ·rw[if_pos h,dif_pos h]
  ·rw[if_neg h,dif_neg h]
   have hf:0<f:=by
    rcases Nat.eq_zero_or_pos f with h0|h0
    ·subst h0;simp at hn;omega
    ·exact h0
   have:n / 10<10^f:=by rw[Nat.pow_succ]at hn;exact Nat.div_lt_of_lt_mul Zo
   rw[ic f (n / 10) this hf]
theorem ie{n:Nat}(h:n<10^20):Lib.itoa (n:Int)=CL n:=by
 rw[Lib.itoa_nonneg,CL,ic 20 n h Zd]
def aD(b:UInt8):Prop:=48≤b.toNat∧b.toNat≤57
theorem toNat_ofNat{n:Nat}(h:n<10):(UInt8.ofNat (48+n)).toNat=48+n:=by
 rw[UInt8.toNat_ofNat'];exact Nat.mod_eq_of_lt Zo
theorem ig: ∀(f n:Nat),∀b∈Gh f n,aD b
 |0,n,b,h=>by simp[Gh]at h
 |f+1,n,b,h=>by
  unfold Gh at h;split at h
  ·rename_i h1;obtain rfl:=List.mem_singleton.1 h;unfold aD;rw[toNat_ofNat h1];omega
  ·rw[List.mem_append]at h;rcases h with h|h
   ·exact ig f _ b h
   ·obtain rfl:=List.mem_singleton.1 h;unfold aD;rw[toNat_ofNat (Nat.mod_lt _ Zd)];omega
theorem Sq(n:Nat): ∀b∈CL n,aD b:=ig 20 n
theorem UG(f n:Nat):Gh (f+1) n≠ []:=by
 unfold Gh;split<;>simp
theorem Lq(n:Nat):CL n≠ []:=UG 19 n
theorem V8: ∀(f k n:Nat),n<10^k→0<k→(Gh f n).length≤k
 |0,k,n,_,h=>by simp[Gh]
 |f+1,k,n,hn,hk=>by
  unfold Gh;split
  ·simp;omega
  ·rename_i VJ
   have FM:0<k - 1:=by
    rcases Nat.lt_or_ge 1 k with h|h
    ·omega
    ·have:k=1:=Zo
     subst this;omega
   have:n / 10<10^(k - 1):=by
    have h2:10^k=10*10^(k - 1):=by rw[show k=(k - 1)+1 by omega,Nat.pow_succ,Nat.mul_comm,Nat.add_sub_cancel]
    rw[h2]at hn;exact Nat.div_lt_of_lt_mul hn
   have:=V8 f (k - 1) (n / 10) this FM;simp;omega
theorem Bn{k n:Nat}(h:n<10^k)(hk:0<k):(CL n).length≤k:=V8 20 k n h hk
theorem Sr: ∀(f n:Nat),n<10^f→1<(Gh f n).length→ ∀b r,Gh f n=b::r→b.toNat≠48
 |0,n,_,h,_,_,_=>by simp[Gh]at h
 |f+1,n,hn,h,b,r,he=>by
  unfold Gh at h he;split at h
  ·simp at h
  ·rename_i VJ;rw[if_neg VJ]at he;have hf:n / 10<10^f:=by rw[Nat.pow_succ]at hn;exact Nat.div_lt_of_lt_mul Zo
   rcases hc:Gh f (n / 10)with _|⟨c,cs⟩
   ·have:f=0:=by
     rcases f with _|f
     ·rfl
     ·exact absurd hc (UG f _)
    subst this;simp at hf;omega
   ·rw[hc]at he;simp at he;obtain⟨rfl,he⟩:=he;by_cases hl:1<(Gh f (n / 10)).length
    ·exact Sr f _ hf hl c cs hc
    ·rcases f with _|f
     ·simp[Gh]at hc
     ·rw[hc]at hl
      have OR:cs= []:=by
       rcases cs with _|⟨d,ds⟩
       ·rfl
       ·simp at hl
      subst OR;unfold Gh at hc;split at hc
      ·rename_i h2;injection hc with hc _;rw[←hc,toNat_ofNat h2];omega
      ·have:=congrArg List.length hc;rename_i h2
       have h3:Gh f (n / 10 / 10)≠ []:=by
        rcases f with _|f
        ·simp at hf;omega
        ·exact UG f _
       simp at this;exact absurd this h3
theorem ij{n:Nat}(hn:n<10^20){b:UInt8}{r:List UInt8}(h:CL n=b::r)(hr:r≠ []):b.toNat≠48:=
 Sr 20 n hn (by
  have:=congrArg List.length h;unfold CL at this;rw[this];rcases r with _|⟨c,cs⟩
  ·exact absurd rfl hr
  ·simp) b r h
theorem Fv: ∀(a b:List UInt8) (x y:Nat),Lib.decFrom x a=some y→Lib.decFrom x (a++b)=Lib.decFrom y b
 | [],b,x,y,h=>by simp[Lib.decFrom]at h;subst h;rfl
 |c::r,b,x,y,h=>by
  simp only[Lib.decFrom,List.cons_append]at h ⊢;cases hc:Lib.digitVal c with
  |none=>rw[hc]at h;cases h
  |some d=>rw[hc]at h;exact Fv r b _ y h
theorem V9{n:Nat}(h:n<10):Lib.digitVal (UInt8.ofNat (48+n))=some n:=by
 unfold Lib.digitVal;rw[toNat_ofNat h,if_pos Zo]
 congr 1;omega
theorem IU{x n:Nat}(h:n<10):Lib.decFrom x [UInt8.ofNat (48+n)]=some (x*10+n):=by
 simp only[Lib.decFrom,V9 h]
theorem Mk: ∀(f n:Nat),n<10^f→Lib.decFrom 0 (Gh f n)=some n
 |0,n,h=>by simp at h;subst h;rfl
 |f+1,n,h=>by
  unfold Gh;split
  ·rw[IU ‹_›];simp
  ·have:n / 10<10^f:=by rw[Nat.pow_succ]at h;exact Nat.div_lt_of_lt_mul Zo
   rw[Fv _ _ _ _ (Mk f _ this),IU Zo]
   congr 1;omega
theorem OG{n:Nat}(h:n<10^20):Lib.decFrom 0 (CL n)=some n:=Mk 20 n h
theorem WE{l:List UInt8}{n:Nat}(CD:l≠ [])(hd: ∀b∈l,aD b)(h:Lib.decFrom 0 l=some n):Lib.atoi l=some (n:Int):=by
 rcases l with _|⟨b,r⟩
 ·exact absurd rfl CD
 ·have hb:=hd b (by simp);unfold aD at hb
  have e1:(b==45)=false:=by
   cases h1:b==45 with
   |false=>rfl
   |true=>rw[eq_of_beq h1]at hb;exact absurd hb.1 Zd
  have e2:(b==43)=false:=by
   cases h1:b==43 with
   |false=>rfl
   |true=>rw[eq_of_beq h1]at hb;exact absurd hb.1 Zd
  unfold Lib.atoi Lib.decNat;simp only[e1,e2,List.isEmpty_cons,h];rfl
def NY(n:Nat):List UInt8:=if n<10 then 48::CL n else CL n
theorem Hm{n:Nat}(h:n<100):NY n= [UInt8.ofNat (48+n / 10),UInt8.ofNat (48+n%10)]:=by
 unfold NY CL;by_cases h1:n<10
 ·rw[if_pos h1];simp only[Gh,if_pos h1];rw[show n / 10=0 by omega,show n%10=n by omega];rfl
 ·rw[if_neg h1];simp only[Gh,if_neg h1,if_pos (show n / 10<10 by omega)];rfl
def CZ(n:Nat):List UInt8:=CL (n / 100)++46::NY (n%100)
def Gf(n:Int):List UInt8:=if n<0 then 45::CZ n.natAbs else CZ n.natAbs
theorem ik{n:Nat}(h:n<100): ∀b∈NY n,aD b:=by
 rw[Hm h];intro b hb;unfold aD;rcases List.mem_cons.1 hb with rfl|hb
 ·rw[toNat_ofNat Zo];omega
 ·obtain rfl:=List.mem_singleton.1 hb;rw[toNat_ofNat Zo];omega
theorem Rq{n:Nat}(h:n<10^20):Lib.decFrom 0 (CL (n / 100)++NY (n%100))=some n:=by
 have h1:n / 100<10^20:=Zo
 rw[Fv _ _ _ _ (OG h1),Hm Zo]
 have: ∀(x a b:Nat),a<10→b<10→Lib.decFrom x [UInt8.ofNat (48+a),UInt8.ofNat (48+b)]=some ((x*10+a)*10+b):=fun x a b ha hb=>by
  have h2:=Fv [UInt8.ofNat (48+a)] [UInt8.ofNat (48+b)] x _ (IU ha);rw[List.singleton_append]at h2;rw[h2,IU hb]
 rw[this _ _ _ Zo Zo]
 congr 1;omega
theorem il{n:Nat}(h:n<10^20):Lib.atoi (CL n)=some (n:Int):=WE (Lq n) (Sq n) (OG h)
theorem YX{n:Nat}(h:n<10^20):Lib.atoi (CL (n / 100)++NY (n%100))=some (n:Int):=by
 refine WE (by simp[Lq]) (fun b hb=>?_) (Rq h);rw[List.mem_append]at hb;rcases hb with hb|hb
 ·exact Sq _ b hb
 ·exact ik Zo b hb
end Go.Tp
namespace Go.Tp
open Go.Ad
abbrev bl(s:ByteArray):List UInt8:=s.data.toList
def Bp:List (Key×Int):= [(.s (bA [111,114]),0),(.s (bA [97,110,100]),1),(.s (bA [61,61]),3),(.s (bA [33,61]),3),(.s (bA [60]),3),(.s (bA [60,61]),3),(.s (bA [43]),4),(.s (bA [45]),4),(.s (bA [42]),5),(.s (bA [47]),5),(.s (bA [97,116]),5)]
def OH(s:ByteArray):Int:=A0 Bp (.s s) 0
def D1(e:Nd):Int:=if e.kind=16 then OH e.name else if e.kind=15 then 2 else 6
def rU(l:Int):Int:=ID.getD (l.toNat*2) 0
def rV(l:Int):Int:=ID.getD (l.toNat*2+1) 0
def fL(k:Nd)(t:List UInt8)(least:Int):List UInt8:=if least≤D1 k then t else 40::t++ [41]
def WG(e:Nd):List UInt8:=
 if e.u=Aa then(if e.n=1 then [116,114,117,101]else [102,97,108,115,101])
 else if e.u=AZ then CL e.n.toNat
 else if e.u=BH then CL e.n.toNat++ [32,109,105,110]
 else bl e.u++32::Gf e.n
def Bc(sep:List UInt8):List (List UInt8)→List UInt8
 | []=> []
 |t::r=>sep++t++Bc [44,32] r
def Lr(p:Pc):List UInt8:=if p.sl<0 then [32,45,32]++CL (-p.sl).toNat else [32,43,32]++CL p.sl.toNat
def lV(den:Int)(p:Pc):List UInt8:=Gf p.fr++ [32,58,32]++Gf (p.pa.tdiv den)++Lr p++47::CL den.toNat
def EU(sep:List UInt8)(den:Int):List Pc→List UInt8
 | []=> []
 |p::r=>sep++lV den p++EU [44,32] den r
def Iq:List UInt8:= [116,97,98,108,101]
def UH(e:Nd)(ts:List (List UInt8)):List UInt8:=
 if e.kind=11 then WG e
 else if e.kind=12∨e.kind=14 then bl e.name
 else if e.kind=13 then [97,114,116,32]++CL e.n.toNat
 else if e.kind=15 then [110,111,116,32]++fL (e.kids.getD 0 default) (ts.getD 0 []) 2
 else if e.kind=16 then fL (e.kids.getD 0 default) (ts.getD 0 []) (rU (D1 e))++32::bl e.name++32::fL (e.kids.getD 1 default) (ts.getD 1 []) (rV (D1 e))
 else if e.kind=17 then Bc (bl e.name++ [40]) ts++ [41]
 else if e.kind=18 then Iq++40::ts.getD 0 []++EU [59,32] e.den e.ps++ [41]
 else []
mutual
def Ca:Nd→List UInt8
 | .mk k nm u n f t kn d ps ks=>UH (.mk k nm u n f t kn d ps ks) (mr ks)
def mr:List Nd→List (List UInt8)
 | []=> []
 |k::r=>Ca k::mr r
end
theorem WH: ∀ks:List Nd,mr ks=ks.map Ca
 | []=>rfl
 |k::r=>by rw[mr,WH r];rfl
theorem Ls(e:Nd):Ca e=UH e (e.kids.map Ca):=by
 cases e with
 |mk k nm u n f t kn d ps ks=>rw[Ca,WH];rfl
def IC(year:Int)(m:Nat):Int:=Dw.getD (m+1) 0 - Dw.getD m 0+(if m=1∧year%4=0 then 1 else 0)
def Cn(y0:Int):Nat→Nat→Int→Int×Nat×Int
 |0,k,r=>(y0+(k / 12:Nat),k%12,r)
 |f+1,k,r=>if r<IC (y0+(k / 12:Nat)) (k%12)then(y0+(k / 12:Nat),k%12,r)else Cn y0 f (k+1) (r - IC (y0+(k / 12:Nat)) (k%12))
def B9(d:Int):Int×Int×Int:=
 let x:=Cn (2000+d / 1461*4) 48 0 (d%1461)
 (x.1,(x.2.1:Int)+1,x.2.2+1)
def Rr(n:Int):List UInt8:=if n<10 then 48::CL n.toNat else CL n.toNat
def DY(d:Int):List UInt8:=CL (B9 d).1.toNat++45::Rr (B9 d).2.1++45::Rr (B9 d).2.2
def Hn(n:Int):List UInt8:=if n=1 then [101,97,114,110]else if n=2 then [100,101,100,117,99,116]else if n=3 then [102,108,111,111,114]else [105,110,102,111]
def Je(k:Int):List UInt8:=if k=7 then [32,32,117,110,108,101,115,115,32]else if k=8 then [32,32,97,109,111,117,110,116,32]else [32,32,119,104,101,110,32]
def AU(c:Nd):List UInt8:=Bc (Je c.kind) (c.kids.map Ca)++ [59,10]
def Ml(n:Int):List UInt8:=CL n.toNat
def Ss(e:Nd):List UInt8:=
 let h:=e.kids.getD 0 default
 [97,114,116,105,99,108,101,32]++Ml e.n++ [32,102,111,114,32]++bl e.name++ [32,114,97,110,107,32]++Ml h.n++ [32,102,114,111,109,32]++DY h.fr++
  (if h.to≤36524 then [32,116,111,32]++DY h.to else [])++ [32,107,110,111,119,110,32]++DY h.known++ [32,123,10]
def Cb(e:Nd):List UInt8:=
 if e.kind=2 then [102,97,99,116,32]++bl e.name++ [32,58,32]++bl e.u++ [59,10]
 else if e.kind=3 then [108,105,110,101,32]++bl e.name++ [32,58,32]++bl e.u++ [32]++Hn e.n++ [59,10]
 else if e.kind=4 then Ss e++((e.kids.drop 1).map AU).flatten++ [125,10]
 else []
def Gq(e:Nd):List UInt8:=(e.kids.map Cb).flatten
structure Sp where
 ws:List UInt8
 kd:Int
 tx:List UInt8
 deriving DecidableEq,Inhabited
def Sp.tk(p:Sp):Tk:=⟨p.kd,bA p.tx⟩
def render:List Sp→List UInt8
 | []=> []
 |p::r=>p.ws++p.tx++render r
theorem Ba(a b:List Sp):render (a++b)=render a++render b:=by
 induction a with
 |nil=>rfl
 |cons p r ih=>simp[render,ih]
def WJ(w:List UInt8):List Sp→List Sp
 | []=> []
 |p::r=> {p with ws:=w++p.ws}::r
theorem Ej{w:List UInt8}{l:List Sp}(h:l≠ []):render (WJ w l)=w++render l:=by
 cases l with
 |nil=>exact absurd rfl h
 |cons p r=>simp[WJ,render]
theorem NZ(w:List UInt8)(l:List Sp):(WJ w l).map Sp.tk=l.map Sp.tk:=by
 cases l<;>rfl
abbrev sy(t:List UInt8):Sp:=⟨[],6,t⟩
abbrev mu(t:List UInt8):Sp:=⟨[32],6,t⟩
abbrev wd(t:List UInt8):Sp:=⟨[],1,t⟩
abbrev YY(t:List UInt8):Sp:=⟨[32],1,t⟩
def Mm(k:Nd)(t:List Sp)(least:Int):List Sp:=if least≤D1 k then t else sy [40]::t++ [sy [41]]
def Na(e:Nd):List Sp:=
 if e.u=Aa then [wd (if e.n=1 then [116,114,117,101]else [102,97,108,115,101])]
 else if e.u=AZ then [⟨[],3,CL e.n.toNat⟩]
 else if e.u=BH then [⟨[],3,CL e.n.toNat⟩,YY [109,105,110]]
 else [⟨[],2,bl e.u⟩,⟨[32],4,CZ e.n.natAbs⟩]
def JD:List (List Sp)→List Sp
 | []=> []
 | [t]=>t
 |t::s::r=>t++sy [44]::WJ [32] (JD (s::r))
def Of(w:List UInt8)(n:Int):List Sp:=if n<0 then [⟨w,6,[45]⟩,⟨[],4,CZ n.natAbs⟩]else [⟨w,4,CZ n.natAbs⟩]
def Jf(p:Pc):List Sp:=if p.sl<0 then [mu [45],⟨[32],3,CL (-p.sl).toNat⟩]else [mu [43],⟨[32],3,CL p.sl.toNat⟩]
def aE(den:Int)(p:Pc):List Sp:=Of [32] p.fr++mu [58]::Of [32] (p.pa.tdiv den)++Jf p++ [sy [47],⟨[],3,CL den.toNat⟩]
def Qd(sep:List UInt8)(den:Int):List Pc→List Sp
 | []=> []
 |p::r=>sy sep::aE den p++Qd [44] den r
def mw(s:ByteArray):Int:=if s=bA [111,114]∨s=bA [97,110,100]∨s=bA [97,116]then 1 else 6
def LI(e:Nd)(ts:List (List Sp)):List Sp:=
 if e.kind=11 then Na e
 else if e.kind=12∨e.kind=14 then [wd (bl e.name)]
 else if e.kind=13 then [wd [97,114,116],⟨[32],3,CL e.n.toNat⟩]
 else if e.kind=15 then wd [110,111,116]::WJ [32] (Mm (e.kids.getD 0 default) (ts.getD 0 []) 2)
 else if e.kind=16 then Mm (e.kids.getD 0 default) (ts.getD 0 []) (rU (D1 e))++⟨[32],mw e.name,bl e.name⟩::WJ [32] (Mm (e.kids.getD 1 default) (ts.getD 1 []) (rV (D1 e)))
 else if e.kind=17 then wd (bl e.name)::sy [40]::JD ts++ [sy [41]]
 else if e.kind=18 then wd Iq::sy [40]::ts.getD 0 []++Qd [59] e.den e.ps++ [sy [41]]
 else []
mutual
def HM:Nd→List Sp
 | .mk k nm u n f t kn d ps ks=>LI (.mk k nm u n f t kn d ps ks) (Zz6 ks)
def Zz6:List Nd→List (List Sp)
 | []=> []
 |k::r=>HM k::Zz6 r
end
theorem WK: ∀ks:List Nd,Zz6 ks=ks.map HM
 | []=>rfl
 |k::r=>by rw[Zz6,WK r];rfl
theorem Qe(e:Nd):HM e=LI e (e.kids.map HM):=by
 cases e with
 |mk k nm u n f t kn d ps ks=>rw[HM,WK];rfl
def Co(c:Nd):List Sp:=(if c.kind=7 then⟨[32,32],1,[117,110,108,101,115,115]⟩else if c.kind=8 then⟨[32,32],1,[97,109,111,117,110,116]⟩else⟨[32,32],1,[119,104,101,110]⟩)::WJ [32] (JD (c.kids.map HM))++ [sy [59]]
def nl(l:List Sp):List Sp:=WJ [10] l
def Mn(e:Nd):List Sp:=
 let h:=e.kids.getD 0 default
 [wd [97,114,116,105,99,108,101],⟨[32],3,Ml e.n⟩,YY [102,111,114],YY (bl e.name),YY [114,97,110,107],⟨[32],3,Ml h.n⟩,YY [102,114,111,109],⟨[32],5,DY h.fr⟩]++
  (if h.to≤36524 then [YY [116,111],⟨[32],5,DY h.to⟩]else [])++ [YY [107,110,111,119,110],⟨[32],5,DY h.known⟩,mu [123]]
def Su(s:ByteArray):Int:=if s=Aa∨s=AZ∨s=BH then 1 else 2
def IV(e:Nd):List Sp:=
 if e.kind=2 then [wd [102,97,99,116],YY (bl e.name),mu [58],⟨[32],Su e.u,bl e.u⟩,sy [59]]
 else if e.kind=3 then [wd [108,105,110,101],YY (bl e.name),mu [58],⟨[32],Su e.u,bl e.u⟩,YY (Hn e.n),sy [59]]
 else if e.kind=4 then Mn e++((e.kids.drop 1).map fun c=>nl (Co c)).flatten++ [⟨[10],6,[125]⟩]
 else []
def DQ:List Nd→List Sp
 | []=> []
 |e::r=>IV e++nl (DQ r)
end Go.Tp
namespace Go.Proofs.YthemnhjojaehhaaGreatDoor
open Go.Ad Go.Proofs Go.Tp
attribute [local irreducible] A8 AK BY Go.Ad.Pure BS
abbrev Xh(a:AV)(l:List Int):List (Nat×AN):= [(1000,.box 100 (.AF [a,.s 1001,.s 1004])),(1001,.row 5 1 (.ints .u8 l)),(1004,.mp (.ints false .i64 Bp))]
abbrev Qf:AV:=.v (.pointer none)
abbrev cZ:AV:=.p 1000 0
abbrev FL(l:List Int):List (Nat×AN):=Xh cZ l
theorem qo:Tryz.prog.underlying 95=some (.pointer 98):=(hT 95 _ rfl).kind
theorem pY:Tryz.prog.underlying 154=some .unsafePointer:=Zk
set_option maxRecDepth 100000 in
theorem Rs(l:List Int):BS Tryz.prog T 74 [.p 1000 0] (Xh Qf l) (.t []) (FL l):=by
 obtain⟨j98,pA,tg,_⟩:=(hT 98 _ rfl).info;have wo:j98.size≠0:=by rw[tg];decide
 refine FO 20 [] Tryz.func74 Tryz.ntmps74 fun B w0 Y R Am Az hY AQ AW Aj hR=>?_;have AB:=AW
 refine BG ⟨[],FL l++Y⟩ ES ?_;repeat'(first|exact tT|refine WA tT AB ?_ ?_|refine WB AB ?_ ?_|refine WU ?_|(refine HE ?_;clear hK K)|refine WR fun K hK=>?_|refine HT ?_|refine WC (fun h=>?_) fun h=>?_|exact ff|fail)
 all_goals exact G.Al (AA Ai) Au
theorem Ru(l:List Int):BS Tryz.prog T 74 [.p 1000 0] (FL l) (.t []) (FL l):=by
 obtain⟨j98,pA,tg,_⟩:=(hT 98 _ rfl).info;have wo:j98.size≠0:=by rw[tg];decide
 refine FO 20 [] Tryz.func74 Tryz.ntmps74 fun B w0 Y R Am Az hY AQ AW Aj hR=>?_;have AB:=AW
 refine BG ⟨[],FL l++Y⟩ ES ?_;repeat'(first|exact tT|refine WA tT AB ?_ ?_|refine WB AB ?_ ?_|refine WU ?_|(refine HE ?_;clear hK K)|refine WR fun K hK=>?_|refine HT ?_|refine WC (fun h=>?_) fun h=>?_|exact ff|fail)
 all_goals exact G.Al (AA Ai) Au
abbrev nA(s:ByteArray):AV:=.t [AE s.size,.v .nilIface]
set_option maxRecDepth 100000 in
theorem cf(l:List Int)(s:ByteArray)(hs:l.length+s.size≤1000000):BS Tryz.prog T 45 [.p 1000 0,An s] (Xh Qf l) (nA s) (FL (l++bZ s)):=by
 have zk:=Rs l;refine FO 19 [.tmp 4,.tmp 5] Tryz.func45 Tryz.ntmps45 fun B w0 Y R Am Az hY AQ AW Aj hR=>?_;have AB:=FI AW AQ 14
 have Gu:Dh 1001 Y=Y:=hY.del Zd;refine AI ⟨[(4,AE s.size),(5,.v .nilIface)],FL (l++bZ s)++Y⟩ ER ?_;repeat'(first|exact tT|refine WA tT (Y2 Gu AB) ?_ ?_|refine WB (Y2 Gu AB) ?_ ?_|refine EO zk (Y2 Gu AB) ?_|(refine HE ?_;clear hK K)|refine WR fun K hK=>?_|refine HT ?_|refine WC (fun h=>?_) fun h=>?_|exact ff|fail)
 all_goals first|omega|skip
 exact QX (E:= [(4,AE s.size),(5,.v .nilIface)]) (pre:= [(1000,.box 100 (.AF [cZ,.s 14,.s 1004])),(14,.row 5 1 (.ints .u8 (l++bZ s))),(1004,.mp (.ints false .i64 Bp))]) hY 14 1001 Zd Zd (G.Al (AA Ai) Au) (by simp[Bg,AV.ids,AV.Av]) (by simp[Bz,AN.ids,AV.Av,AV.ids]) (Am.2 1001 Zd Zd)
set_option maxRecDepth 100000 in
theorem Nb(l:List Int)(s:ByteArray)(hs:l.length+s.size≤1000000):BS Tryz.prog T 45 [.p 1000 0,An s] (FL l) (nA s) (FL (l++bZ s)):=by
 have zk:=Ru l;refine FO 19 [.tmp 4,.tmp 5] Tryz.func45 Tryz.ntmps45 fun B w0 Y R Am Az hY AQ AW Aj hR=>?_;have AB:=FI AW AQ 14
 have Gu:Dh 1001 Y=Y:=hY.del Zd;refine AI ⟨[(4,AE s.size),(5,.v .nilIface)],FL (l++bZ s)++Y⟩ ER ?_;repeat'(first|exact tT|refine WA tT (Y2 Gu AB) ?_ ?_|refine WB (Y2 Gu AB) ?_ ?_|refine EO zk (Y2 Gu AB) ?_|(refine HE ?_;clear hK K)|refine WR fun K hK=>?_|refine HT ?_|refine WC (fun h=>?_) fun h=>?_|exact ff|fail)
 all_goals first|omega|skip
 exact QX (E:= [(4,AE s.size),(5,.v .nilIface)]) (pre:= [(1000,.box 100 (.AF [cZ,.s 14,.s 1004])),(14,.row 5 1 (.ints .u8 (l++bZ s))),(1004,.mp (.ints false .i64 Bp))]) hY 14 1001 Zd Zd (G.Al (AA Ai) Au) (by simp[Bg,AV.ids,AV.Av]) (by simp[Bz,AN.ids,AV.Av,AV.ids]) (Am.2 1001 Zd Zd)
end Go.Proofs.YthemnhjojaehhaaGreatDoor
