/- Part of a proof. -/
import Derived.Test.YthemnhjojaehhaaGreatDoorA37
set_option linter.all false
namespace Go.Proofs.YthemnhjojaehhaaGreatDoor
open Go.Ad Go.Proofs Go.Tp
attribute [local irreducible] A8 AK BY Go.Ad.Pure BS
def kS(l:List (ByteArray×ByteArray)):List Key:=l.map fun p=>Key.s p.1
def vS(l:List (ByteArray×ByteArray)):List AV:=l.map fun p=>An p.2
def kI(l:List (Int×ByteArray)):List Key:=l.map fun p=>Key.i p.1
def vI(l:List (Int×ByteArray)):List AV:=l.map fun p=>An p.2
theorem Um{a k:Key}{ks:List Key}{x:AV}{vs:List AV}{z:AV}(h:a≠k):LD (a::ks) k (.AF (x::vs)) z=LD ks k (.AF vs) z:=by
 unfold LD;have:List.findIdx (fun y=>decide (y=k)) (a::ks)=List.findIdx (fun y=>decide (y=k)) ks+1:=by simp[List.findIdx_cons,h]
 rw[this];simp[AH.at]
theorem PS{a:Key}{ks:List Key}{x:AV}{vs:List AV}{z:AV}:LD (a::ks) a (.AF (x::vs)) z=x:=by
 unfold LD;have:List.findIdx (fun y=>decide (y=a)) (a::ks)=0:=by simp[List.findIdx_cons]
 rw[this];simp[AH.at]
theorem sb(l:List (ByteArray×ByteArray))(x:ByteArray):LD (kS l) (.s x) (.AF (vS l)) (.v (.string ⟨#[]⟩))=.v (.string (Fh l x)):=by
 induction l with
 |nil=>rfl
 |cons a r ih=>
  show LD (Key.s a.1::kS r) (.s x) (.AF (An a.2::vS r)) _=_;by_cases h:a.1=x
  ·subst h;rw[PS];simp[Fh]
  ·have e1:Fh (a::r) x=Fh r x:=by simp[Fh,h]
   rw[e1,←ih,Um (by simpa using h)]
theorem sd(l:List (Int×ByteArray))(x:Int):LD (kI l) (.i x) (.AF (vI l)) (.v (.string ⟨#[]⟩))=.v (.string (IS l x)):=by
 induction l with
 |nil=>rfl
 |cons a r ih=>
  show LD (Key.i a.1::kI r) (.i x) (.AF (An a.2::vI r)) _=_;by_cases h:a.1=x
  ·subst h;rw[PS];simp[IS]
  ·have e1:IS (a::r) x=IS r x:=by simp[IS,h]
   rw[e1,←ih,Um (by simpa using h)]
theorem vo(l:List (ByteArray×ByteArray))(x:ByteArray):((kS l).any fun y=>decide (y=Key.s x))=T6 l x:=by
 unfold kS T6;rw[List.any_map];congr 1;funext p;simp
theorem vp(l:List (Int×ByteArray))(x:Int):((kI l).any fun y=>decide (y=Key.i x))=Od l x:=by
 unfold kI Od;rw[List.any_map];congr 1;funext p;simp
theorem jx(p:Nat→Bool)(l:List (ByteArray×ByteArray)):AV.DB p (vS l)=true:=by
 induction l with
 |nil=>rfl
 |cons a r ih=>show AV.DB p (An a.2::vS r)=true;rw[AV.DB,ih];rfl
theorem jy(p:Nat→Bool)(l:List (Int×ByteArray)):AV.DB p (vI l)=true:=by
 induction l with
 |nil=>rfl
 |cons a r ih=>show AV.DB p (An a.2::vI r)=true;rw[AV.DB,ih];rfl
theorem oB(d:Nat)(l:List (ByteArray×ByteArray)):AV.CV d (vS l)=vS l:=by
 induction l with
 |nil=>rfl
 |cons a r ih=>show AV.CV d (An a.2::vS r)=_;rw[AV.CV,ih];rfl
theorem se(N:Nat)(l:List (ByteArray×ByteArray)):AV.Lh N (vS l)=True:=eq_true (by
 induction l with
 |nil=>show AV.Lh N [];rw[AV.Lh];trivial
 |cons a r ih=>show AV.Lh N (An a.2::vS r);rw[AV.Lh,AV.ge];exact⟨trivial,ih⟩)
theorem sg(N:Nat)(l:List (Int×ByteArray)):AV.Lh N (vI l)=True:=eq_true (by
 induction l with
 |nil=>show AV.Lh N [];rw[AV.Lh];trivial
 |cons a r ih=>show AV.Lh N (An a.2::vI r);rw[AV.Lh,AV.ge];exact⟨trivial,ih⟩)
theorem oD(d:Nat)(l:List (Int×ByteArray)):AV.CV d (vI l)=vI l:=by
 induction l with
 |nil=>rfl
 |cons a r ih=>show AV.CV d (An a.2::vI r)=_;rw[AV.CV,ih];rfl
attribute [push_cast] sb sd vo vp oB oD se sg
attribute [simp] jx jy
abbrev yF:AV:=.a [.s 1002,.s 1004,.s 1006]
abbrev ZG(sc:Sc):List (Nat×AN):= [(1002,.DN false (kS sc.facts) (.AF (vS sc.facts))),(1004,.DN false (kS sc.lines) (.AF (vS sc.lines))),(1006,.DN true (kI sc.BX) (.AF (vI sc.BX)))]
abbrev eI:AV:=.f (.func 92) [.p 1000 0]
theorem Fz{l:List Nd}{j:Nat}(h:j<l.length):(l.getD j default).size≤Nd.AP l:=by
 induction l generalizing j with
 |nil=>simp at h
 |cons a r ih=>
  cases j with
  |zero=>simp[Nd.AP]
  |succ j=>have:=ih (j:=j) (by simpa using h);simp only[List.getD_cons_succ,Nd.AP];omega
theorem Wy: ∀l:List Nd,l.length≤Nd.AP l
 | []=>Nat.le_refl _
 |k::r=>by have:=Wy r;have:=Nd.size_eq k;simp only[List.length_cons,Nd.AP];omega
theorem PU(e:Nd):e.kids.length<e.size:=by have:=Nd.size_eq e;have:=Wy e.kids;omega
def Oh(us:List ByteArray)(n:Nat):List Value:=us.map Value.string++List.replicate (n - us.length) (.string ⟨#[]⟩)
theorem Wz{us:List ByteArray}{n:Nat}(h:us.length≤n):(Oh us n).length=n:=by simp[Oh];omega
theorem jz{us:List ByteArray}{n j:Nat}(x:ByteArray)(hj:us.length=j)(h:j<n):(Oh us n).set j (.string x)=Oh (us++ [x]) n:=by
 subst hj;obtain⟨m,hm⟩: ∃m,n - us.length=m+1:=⟨n - us.length - 1,Zo⟩;have h2:n - (us.length+1)=m:=Zo
 simp[Oh,hm,h2,List.replicate_succ,List.set_append]
theorem j1{us:List ByteArray}{n j:Nat}(x:ByteArray)(hj:us.length=j):(Oh (us++ [x]) n).getD j undef=.string x:=by
 subst hj;simp[Oh,Zlg]
theorem j2(n:Nat):List.replicate n (#[Value.string ⟨#[]⟩].getD 0 undef)=Oh [] n:=by simp[Oh]
def Nu(us:List ByteArray):Bool:=us.all fun x=> !decide (x=⟨#[]⟩)
theorem W0(us:List ByteArray)(x:ByteArray):Nu (us++ [x])=(Nu us&& !decide (x=⟨#[]⟩)):=by simp[Nu]
set_option maxHeartbeats 16000000 in
theorem j3(sc:Sc)(e:Nd):Cz e→e.size≤100000→BC e=true→ ∀d:List Dg,d.length≤20→BS Tryz.prog T 94 [yF,.a (A1 e),eI] (ZG sc++Oe d) (An (BO sc e d).1) (ZG sc++Oe (BO sc e d).2):=by
 induction e using Nd.ind with
 |h e ih=>
  intro Ae Bh hex d hd;obtain⟨⟨ADj,ADk⟩,xp,RV,-⟩:=JA hex;have E5:=PU e;have Ci:=Ae.spec.kids;have ihk: ∀j,j<e.kids.length→ ∀d:List Dg,d.length≤20→BS Tryz.prog T 94 [yF,.a (A1 (e.kids.getD j default)),eI] (ZG sc++Oe d) (An (BO sc (e.kids.getD j default) d).1) (ZG sc++Oe (BO sc (e.kids.getD j default) d).2):=fun j hj d hd=>ih _ (Ap hj) (Ci.nth hj) (by have:=Fz (show j<e.kids.length from hj);have:=Nd.size_eq e;omega) (xp _ (Ap hj)) d hd;have hl:=Ci.2;refine FO 99 [.tmp 6] Tryz.func94 Tryz.ntmps94 fun B w0 Y R Am Az hY AQ AW Aj hR=>?_;have AB:=MF AW AQ 3 4 10 16
  repeat'(first|exact tT|refine WA tT AB ?_ ?_|(refine HE ?_;clear hK K)|refine WR fun K hK=>?_|refine HT ?_|refine WC (fun h=>?_) fun h=>?_|exact ff|fail)
  rw[j2];refine AM (α:=Nat) (fun j=>⟨[(20,AE j),(19,AE e.kids.length),(18,CS e.kids),(8,BL (Nu (Bx sc (e.kids.take j) d).1)),(7,.s 16),(6,An ⟨#[]⟩),(4,.p 4 0),(3,.p 3 0),(2,eI)],(16,.row 9 1 (.BJ (Oh (Bx sc (e.kids.take j) d).1 e.kids.length)))::(4,.box 27 (.AF (A1 e)))::(3,.box 123 (.AF [.s 1002,.s 1004,.s 1006]))::(ZG sc++Oe (Bx sc (e.kids.take j) d).2++Y)⟩) (fun j=>j≤e.kids.length) (fun j=>e.kids.length - j) 0 (Nat.zero_le _) (by exact G.Al (AA Ai) Au) fun j hj=>?_;have RY:=YR sc (e.kids.take j) d;rw[List.length_take,Nat.min_eq_left hj]at RY;have Gu:=cT sc (e.kids.take j) d hd;by_cases Ak:j<e.kids.length
  ·have c1:=DT ((j:Int)<(e.kids.length:Int));have kid:=Aw Ak;have hc:=ihk j Ak _ Gu;have km:=Vx sc (e.kids.take j) (e.kids.getD j default) d;rw[←Cx Ak]at km;generalize Bx sc (e.kids.take j) d=q at*;obtain⟨uj,dj⟩:=q;simp only at RY Gu hc km ⊢;generalize BO sc (e.kids.getD j default) dj=r at*;obtain⟨x,dx⟩:=r;simp only at hc km ⊢;have fZ:=Wz (us:=uj) (n:=e.kids.length) Zo;have pM:=jz (us:=uj) (n:=e.kids.length) x RY Ak;have N6:=j1 (us:=uj) (n:=e.kids.length) x RY;have ADl:uj.length<e.kids.length:=Zo
   have pN:=Wz (us:=uj++ [x]) (n:=e.kids.length) (by simp;omega);have ye:=W0 uj x;have e1:(j:Int).toNat=j:=rfl;by_cases hw:Nu uj=true
   ·rw[hw,Bool.true_and]at ye;repeat'(first|exact tT|refine WA tT (Y9 c1 kid fZ pM N6 pN hw e1 AB) ?_ ?_|refine EO hc (Y9 c1 kid fZ pM N6 pN hw e1 AB) ?_|(refine HE ?_;clear hK K)|refine WR fun K hK=>?_|refine HT ?_|refine WC (fun h=>?_) fun h=>?_|exact ff|fail)
    all_goals (refine⟨j+1,⟨Zo,Zo⟩,?_⟩;simp only[km,ye];exact G.Al (AA Ai) Au)
   ·have hw:=GV hw;rw[hw,Bool.false_and]at ye;repeat'(first|exact tT|refine WA tT (Y9 c1 kid fZ pM N6 pN hw e1 AB) ?_ ?_|refine EO hc (Y9 c1 kid fZ pM N6 pN hw e1 AB) ?_|(refine HE ?_;clear hK K)|refine WR fun K hK=>?_|refine HT ?_|refine WC (fun h=>?_) fun h=>?_|exact ff|fail)
    all_goals (refine⟨j+1,⟨Zo,Zo⟩,?_⟩;simp only[km,ye];exact G.Al (AA Ai) Au)
  ·obtain rfl:j=e.kids.length:=Zo
   have c1:=DF ((e.kids.length:Int)<(e.kids.length:Int));have bW:=NX sc e d;rw[List.take_length]at RY Gu ⊢;generalize Bx sc e.kids d=q at*;obtain⟨us,dk⟩:=q;simp only at RY Gu bW ⊢;have yf:Oh us e.kids.length=us.map Value.string:=by unfold Oh;rw[RY];simp
   by_cases hw:Nu us=true
   ·have J7:BO sc e d=((CY sc e us).1,if(CY sc e us).1=⟨#[]⟩then rp dk (CY sc e us).2 else dk):=by rw[bW];unfold I7;exact if_pos hw
    have E4: ∀op:ByteArray,1≤us.length→Pure Tryz.prog 120 [An op,.i false (fun a b=>.v ((us.map Value.string).getD (a+b) undef)) 1 0 us.length] (An (Aq op us)):=fun op h1=>(ZF op us Zo h1).sub ⟨Sub.refl _,bp rfl (fun a b ha hb=>by
     obtain rfl:b=0:=Zo
     show AV.v ((us.map Value.string).getD (0+a+0) undef)=An (BZ us (0+a));have ha:a<us.length:=ha;simp[BZ,Zlg,ha]),trivial⟩
    have Xe: ∀er:Int,BS Tryz.prog T 92 [AE er,.o,.p 1000 0] (Oe dk) (.t []) (Oe (rp dk er)):=fun er=>Sm dk Gu er;have RG:us.length=e.kids.length:=RY;by_cases hk:e.kind=11
    ·have kq:=vQ hk;have hU:CY sc e us=(e.u,11):=by simp[CY,hk]
     rw[hU]at J7;simp only at J7;by_cases he:e.u=⟨#[]⟩
     ·have J6:BO sc e d=(e.u,rp dk 11):=by rw[J7,if_pos he]
      rw[J6]at hR;have he:=Zde he;have ZZ:=Xe 11;repeat'(first|exact tT|refine WA tT (Y5 c1 @kq hw he AB) ?_ ?_|refine EO ZZ (Y5 c1 @kq hw he AB) ?_|(refine HE ?_;clear hK K)|refine WR fun K hK=>?_|refine HT ?_|refine WC (fun h=>?_) fun h=>?_|exact ff|fail)
      all_goals exact⟨Aj,hR _ IB⟩
     ·have J6:BO sc e d=(e.u,dk):=by rw[J7,if_neg he]
      rw[J6]at hR;have he:=Zdf he;repeat'(first|exact tT|refine WA tT (Y5 c1 @kq hw he AB) ?_ ?_|(refine HE ?_;clear hK K)|refine WR fun K hK=>?_|refine HT ?_|refine WC (fun h=>?_) fun h=>?_|exact ff|fail)
      all_goals exact⟨Aj,hR _ IB⟩
    by_cases hk:e.kind=12
    ·have kq:=vR hk;have hU:CY sc e us=(Fh sc.facts e.name,91):=by simp[CY,hk]
     rw[hU]at J7;simp only at J7;by_cases he:Fh sc.facts e.name=⟨#[]⟩
     ·have J6:BO sc e d=(Fh sc.facts e.name,rp dk 91):=by rw[J7,if_pos he]
      rw[J6]at hR;have he:=Zde he;have ZZ:=Xe 91;repeat'(first|exact tT|refine WA tT (Y5 c1 @kq hw he AB) ?_ ?_|refine EO ZZ (Y5 c1 @kq hw he AB) ?_|(refine HE ?_;clear hK K)|refine WR fun K hK=>?_|refine HT ?_|refine WC (fun h=>?_) fun h=>?_|exact ff|fail)
      all_goals exact⟨Aj,hR _ IB⟩
     ·have J6:BO sc e d=(Fh sc.facts e.name,dk):=by rw[J7,if_neg he]
      rw[J6]at hR;have he:=Zdf he;repeat'(first|exact tT|refine WA tT (Y5 c1 @kq hw he AB) ?_ ?_|(refine HE ?_;clear hK K)|refine WR fun K hK=>?_|refine HT ?_|refine WC (fun h=>?_) fun h=>?_|exact ff|fail)
      all_goals exact⟨Aj,hR _ IB⟩
    by_cases hk:e.kind=13
    ·have kq:=vT hk;have hU:CY sc e us=(Fh sc.lines (IS sc.BX e.n),91):=by simp[CY,hk]
     rw[hU]at J7;simp only at J7;by_cases he:Fh sc.lines (IS sc.BX e.n)=⟨#[]⟩
     ·have J6:BO sc e d=(Fh sc.lines (IS sc.BX e.n),rp dk 91):=by rw[J7,if_pos he]
      rw[J6]at hR;have he:=Zde he;have ZZ:=Xe 91;repeat'(first|exact tT|refine WA tT (Y5 c1 @kq hw he AB) ?_ ?_|refine EO ZZ (Y5 c1 @kq hw he AB) ?_|(refine HE ?_;clear hK K)|refine WR fun K hK=>?_|refine HT ?_|refine WC (fun h=>?_) fun h=>?_|exact ff|fail)
      all_goals exact⟨Aj,hR _ IB⟩
     ·have J6:BO sc e d=(Fh sc.lines (IS sc.BX e.n),dk):=by rw[J7,if_neg he]
      rw[J6]at hR;have he:=Zdf he;repeat'(first|exact tT|refine WA tT (Y5 c1 @kq hw he AB) ?_ ?_|(refine HE ?_;clear hK K)|refine WR fun K hK=>?_|refine HT ?_|refine WC (fun h=>?_) fun h=>?_|exact ff|fail)
      all_goals exact⟨Aj,hR _ IB⟩
    by_cases hk:e.kind=14
    ·have kq:=vU hk;have hU:CY sc e us=(AZ,11):=by simp[CY,hk]
     rw[hU]at J7;simp only at J7;have J6:BO sc e d=(AZ,dk):=by rw[J7,if_neg Zd]
     rw[J6]at hR;have he:decide ((⟨#[110,117,109,98,101,114]⟩:ByteArray)=⟨#[]⟩)=false:=Zd
     repeat' (first|((first|refine sC hT fun K' AX=>?_|refine oC fun K' AX=>?_);push_cast[c1,kq,hw,he,AZ,AB];(try simp (disch:=omega) only[wrap64,Int.toNat_natCast]);(repeat refine AS ?_ ?_);(first|refine AX _ ?_|refine⟨.v (.int .i64 0),AX _ ?_⟩);clear AX K')|(refine sK hT ?_;simp only[St.put])|((first|refine A9 (hK _ ?_)|refine Bk (hK _ ?_));clear hK K;push_cast[AB])|((first|apply Bs|apply B5|apply CG|apply Cl);push_cast[AB])|refine CH fun K hK=>?_|refine Fm fun K hK=>?_|refine dQ hT hm fun K hK=>?_|refine dL hT hm fun K hK=>?_|apply Bq|apply Br|apply CR|(refine B6 _ rfl (fun h=>?_) (fun h=>?_)<;>simp only[VC,reduceCtorEq]at h))
     all_goals try exact ff
     all_goals exact⟨Aj,hR _ IB⟩
    by_cases hk:e.kind=15
    ·have kq:=vV hk;have h1:1≤us.length:=by have:=RV Zo;omega
     have J5:=E4 ⟨#[97,110,100]⟩ h1;rw[yf];have SF:(us.map Value.string).length=us.length:=List.length_map _;have hU:CY sc e us=(Aq ⟨#[97,110,100]⟩ us,11):=by simp[CY,hk]
     rw[hU]at J7;simp only at J7;by_cases he:Aq ⟨#[97,110,100]⟩ us=⟨#[]⟩
     ·have J6:BO sc e d=(Aq ⟨#[97,110,100]⟩ us,rp dk 11):=by rw[J7,if_pos he]
      rw[J6]at hR;have he:=Zde he;have ZZ:=Xe 11;repeat'(first|exact tT|refine WA J5 (Y6 c1 @kq hw he SF AB) ?_ ?_|refine EO ZZ (Y6 c1 @kq hw he SF AB) ?_|(refine HE ?_;clear hK K)|refine WR fun K hK=>?_|refine HT ?_|refine WC (fun h=>?_) fun h=>?_|exact ff|fail)
      all_goals exact⟨Aj,hR _ IB⟩
     ·have J6:BO sc e d=(Aq ⟨#[97,110,100]⟩ us,dk):=by rw[J7,if_neg he]
      rw[J6]at hR;have he:=Zdf he;repeat'(first|exact tT|refine WA J5 (Y6 c1 @kq hw he SF AB) ?_ ?_|(refine HE ?_;clear hK K)|refine WR fun K hK=>?_|refine HT ?_|refine WC (fun h=>?_) fun h=>?_|exact ff|fail)
      all_goals exact⟨Aj,hR _ IB⟩
    by_cases hk:e.kind=16
    ·have kq:=vW hk;have h1:1≤us.length:=by have:=RV Zo;omega
     have J5:=E4 e.name h1;rw[yf];have SF:(us.map Value.string).length=us.length:=List.length_map _;have hU:CY sc e us=(Aq e.name us,11):=by simp[CY,hk]
     rw[hU]at J7;simp only at J7;by_cases he:Aq e.name us=⟨#[]⟩
     ·have J6:BO sc e d=(Aq e.name us,rp dk 11):=by rw[J7,if_pos he]
      rw[J6]at hR;have he:=Zde he;have ZZ:=Xe 11;repeat'(first|exact tT|refine WA J5 (Y6 c1 @kq hw he SF AB) ?_ ?_|refine EO ZZ (Y6 c1 @kq hw he SF AB) ?_|(refine HE ?_;clear hK K)|refine WR fun K hK=>?_|refine HT ?_|refine WC (fun h=>?_) fun h=>?_|exact ff|fail)
      all_goals exact⟨Aj,hR _ IB⟩
     ·have J6:BO sc e d=(Aq e.name us,dk):=by rw[J7,if_neg he]
      rw[J6]at hR;have he:=Zdf he;repeat'(first|exact tT|refine WA J5 (Y6 c1 @kq hw he SF AB) ?_ ?_|(refine HE ?_;clear hK K)|refine WR fun K hK=>?_|refine HT ?_|refine WC (fun h=>?_) fun h=>?_|exact ff|fail)
      all_goals exact⟨Aj,hR _ IB⟩
    by_cases hk:e.kind=17
    ·have kq:=vX hk;have h1:1≤us.length:=by have:=RV Zo;omega
     have J5:=E4 ⟨#[43]⟩ h1;rw[yf];have SF:(us.map Value.string).length=us.length:=List.length_map _;have hU:CY sc e us=(Aq ⟨#[43]⟩ us,11):=by simp[CY,hk]
     rw[hU]at J7;simp only at J7;by_cases he:Aq ⟨#[43]⟩ us=⟨#[]⟩
     ·have J6:BO sc e d=(Aq ⟨#[43]⟩ us,rp dk 11):=by rw[J7,if_pos he]
      rw[J6]at hR;have he:=Zde he;have ZZ:=Xe 11;repeat'(first|exact tT|refine WA J5 (Y6 c1 @kq hw he SF AB) ?_ ?_|refine EO ZZ (Y6 c1 @kq hw he SF AB) ?_|(refine HE ?_;clear hK K)|refine WR fun K hK=>?_|refine HT ?_|refine WC (fun h=>?_) fun h=>?_|exact ff|fail)
      all_goals exact⟨Aj,hR _ IB⟩
     ·have J6:BO sc e d=(Aq ⟨#[43]⟩ us,dk):=by rw[J7,if_neg he]
      rw[J6]at hR;have he:=Zdf he;repeat'(first|exact tT|refine WA J5 (Y6 c1 @kq hw he SF AB) ?_ ?_|(refine HE ?_;clear hK K)|refine WR fun K hK=>?_|refine HT ?_|refine WC (fun h=>?_) fun h=>?_|exact ff|fail)
      all_goals exact⟨Aj,hR _ IB⟩
    ·have hk:e.kind=18:=Zo
     have kq:=vY hk;have h1:1≤us.length:=by have:=RV Zo;omega
     have J5:=Dk (BZ us 0);have g0:(us.map Value.string).getD 0 undef=.string (BZ us 0):=by simp[BZ,Zlg,show 0<us.length by omega]
     have c3:=DT ((0:Int)<(us.length:Int));rw[yf];have SF:(us.map Value.string).length=us.length:=List.length_map _;by_cases VM:KR (BZ us 0)=true
     ·rw[VM]at J5;have hU:CY sc e us=(BZ us 0,11):=by simp[CY,hk,VM]
      rw[hU]at J7;simp only at J7;by_cases he:BZ us 0=⟨#[]⟩
      ·have J6:BO sc e d=(BZ us 0,rp dk 11):=by rw[J7,if_pos he]
       rw[J6]at hR;have he:=Zde he;have ZZ:=Xe 11;repeat'(first|exact tT|refine WA J5 (Y9 c1 @kq hw he SF g0 VM c3 AB) ?_ ?_|refine EO ZZ (Y9 c1 @kq hw he SF g0 VM c3 AB) ?_|(refine HE ?_;clear hK K)|refine WR fun K hK=>?_|refine HT ?_|refine WC (fun h=>?_) fun h=>?_|exact ff|fail)
       all_goals exact⟨Aj,hR _ IB⟩
      ·have J6:BO sc e d=(BZ us 0,dk):=by rw[J7,if_neg he]
       rw[J6]at hR;have he:=Zdf he;repeat'(first|exact tT|refine WA J5 (Y9 c1 @kq hw he SF g0 VM c3 AB) ?_ ?_|(refine HE ?_;clear hK K)|refine WR fun K hK=>?_|refine HT ?_|refine WC (fun h=>?_) fun h=>?_|exact ff|fail)
       all_goals exact⟨Aj,hR _ IB⟩
     ·have VM:=GV VM;rw[VM]at J5;have hU:CY sc e us=(⟨#[]⟩,11):=by simp[CY,hk,VM]
      rw[hU]at J7;simp only at J7;have J6:BO sc e d=(⟨#[]⟩,rp dk 11):=by rw[J7,if_pos trivial]
      rw[J6]at hR;have ZZ:=Xe 11;repeat'(first|exact tT|refine WA J5 (Y8 c1 @kq hw SF g0 VM c3 AB) ?_ ?_|refine EO ZZ (Y8 c1 @kq hw SF g0 VM c3 AB) ?_|(refine HE ?_;clear hK K)|refine WR fun K hK=>?_|refine HT ?_|refine WC (fun h=>?_) fun h=>?_|exact ff|fail)
      all_goals exact⟨Aj,hR _ IB⟩
   ·have J7:BO sc e d=(⟨#[]⟩,dk):=by rw[bW];unfold I7;exact if_neg hw
    have hw:=GV hw;rw[J7]at hR;repeat'(first|exact tT|refine WA tT (Y3 c1 hw AB) ?_ ?_|(refine HE ?_;clear hK K)|refine WR fun K hK=>?_|refine HT ?_|refine WC (fun h=>?_) fun h=>?_|exact ff|fail)
    all_goals exact⟨Aj,hR _ IB⟩
theorem p4(l:List (ByteArray×ByteArray))(x u:ByteArray)(h:T6 l x=false):Jr (kS l) (.s x)=kS (l++ [(x,u)])∧Eb (kS l) (vS l) (.s x) (.v (.string u))=vS (l++ [(x,u)]):=by
 have hn: ∀y∈kS l,y≠Key.s x:=fun y hy e=>by
  rw[T6,List.any_eq_false]at h;obtain⟨p,hp,rfl⟩:=List.mem_map.1 hy;injection e with e;exact h p hp (by simpa using e)
 obtain⟨h1,h2⟩:=Pz hn;exact⟨by rw[h1];simp[kS],by rw[h2 _ _ (by simp[kS,vS])];simp[vS]⟩
theorem vq(l:List (Int×ByteArray))(x:Int)(u:ByteArray)(h:Od l x=false):Jr (kI l) (.i x)=kI (l++ [(x,u)])∧Eb (kI l) (vI l) (.i x) (.v (.string u))=vI (l++ [(x,u)]):=by
 have hn: ∀y∈kI l,y≠Key.i x:=fun y hy e=>by
  rw[Od,List.any_eq_false]at h;obtain⟨p,hp,rfl⟩:=List.mem_map.1 hy;injection e with e;exact h p hp (by simpa using e)
 obtain⟨h1,h2⟩:=Pz hn;exact⟨by rw[h1];simp[kI],by rw[h2 _ _ (by simp[kI,vI])];simp[vI]⟩
theorem vr(N k:Nat)(l:List (ByteArray×ByteArray)):AV.rn.Rh N k (vS l)=vS l:=by
 induction l with
 |nil=>rfl
 |cons a r ih=>show AV.rn.Rh N k (An a.2::vS r)=_;rw[AV.rn.Rh,ih];rfl
theorem vt(N k:Nat)(l:List (Int×ByteArray)):AV.rn.Rh N k (vI l)=vI l:=by
 induction l with
 |nil=>rfl
 |cons a r ih=>show AV.rn.Rh N k (An a.2::vI r)=_;rw[AV.rn.Rh,ih];rfl
theorem PV(p:Nat→Prop)(l:List (ByteArray×ByteArray)):AV.Av p (vS l)=True:=eq_true (by
 induction l with
 |nil=>show AV.Av p [];rw[AV.Av];trivial
 |cons a r ih=>show AV.Av p (An a.2::vS r);rw[AV.Av,AV.ids];exact⟨trivial,ih⟩)
theorem PW(p:Nat→Prop)(l:List (Int×ByteArray)):AV.Av p (vI l)=True:=eq_true (by
 induction l with
 |nil=>show AV.Av p [];rw[AV.Av];trivial
 |cons a r ih=>show AV.Av p (An a.2::vI r);rw[AV.Av,AV.ids];exact⟨trivial,ih⟩)
attribute [push_cast] vr vt
attribute [simp] PV PW
theorem sh(l:List (ByteArray×ByteArray)):(kS l).length=l.length:=by simp[kS]
theorem sj(l:List (Int×ByteArray)):(kI l).length=l.length:=by simp[kI]
attribute [push_cast] sh sj
abbrev scO:AV:=.a [.s 1003,.s 1005,.s 1007]
abbrev vu(sc:Sc):List (Nat×AN):= [(1003,.DN false (kS sc.facts) (.AF (vS sc.facts))),(1005,.DN false (kS sc.lines) (.AF (vS sc.lines))),(1007,.DN true (kI sc.BX) (.AF (vI sc.BX)))]
set_option maxHeartbeats 4000000 in
theorem W2(e:Nd)(Ae:Cz e):BS Tryz.prog T 59 [.a (A1 e)] [] scO (vu (C5 e.kids)):=by
 have Ci:=Ae.spec.kids;have hl:=Ci.2;refine FO 81 [.cell 2 123] Tryz.func59 Tryz.ntmps59 fun B w0 Y R Am Az hY AQ AW Aj hR=>?_;have AB:=KK7 AW AQ 1 2 3 5 12 13 14
 refine AI ⟨[(2,.p 2 0)],(2,.box 123 (.AF [.s 1003,.s 1005,.s 1007]))::(vu (C5 e.kids)++Y)⟩ (by push_cast[List.cons_append,List.nil_append,AB];exact⟨Aj,hR _ (by repeat(first|exact Ce|refine O6 hY Zd ?_|refine Cf rfl ?_))⟩) ?_;repeat'(first|exact tT|refine WA tT AB ?_ ?_|refine WM AB ?_ ?_|(refine HE ?_;clear hK K)|refine WR fun K hK=>?_|refine HT ?_|refine WC (fun h=>?_) fun h=>?_|exact ff|fail)
 refine AM (α:=Nat) (fun j=>⟨[(19,AE j),(18,AE e.kids.length),(17,CS e.kids),(2,.p 2 0),(3,.p 3 0)],(12,.DN false (kS (C5 (e.kids.take j)).facts) (.AF (vS (C5 (e.kids.take j)).facts)))::(13,.DN false (kS (C5 (e.kids.take j)).lines) (.AF (vS (C5 (e.kids.take j)).lines)))::(14,.DN true (kI (C5 (e.kids.take j)).BX) (.AF (vI (C5 (e.kids.take j)).BX)))::(3,.box 123 (.AF [.s 12,.s 13,.s 14]))::(2,.box 123 (.AF [.v (.map none),.v (.map none),.v (.map none)]))::Y⟩) (fun j=>j≤e.kids.length) (fun j=>e.kids.length - j) 0 (Nat.zero_le _) (by exact G.Al (AA Ai) Au) fun j hj=>?_;have RY:=YS (e.kids.take j);rw[List.length_take,Nat.min_eq_left hj]at RY;by_cases Ak:j<e.kids.length
 ·have c1:=DT ((j:Int)<(e.kids.length:Int));have kid:=Aw Ak;have BE:=Vz e.kids j Ak;have hko:=(Ci.nth Ak).spec;have RZ:=hko.name;have hki:=hko.n;unfold DA at hki;generalize C5 (e.kids.take j)=sc at*;generalize e.kids.getD j default=x at*;have fin: ∀sc2:Sc,C4 sc x=sc2→C5 (e.kids.take (j+1))=sc2:=fun sc2 h=>BE.trans h;by_cases k2:x.kind=2
  ·have kq:(x.kind==2)=true:=by rw[k2];rfl
   by_cases hh:T6 sc.facts x.name=true
   ·have hs:=fin sc (by unfold C4;rw[if_pos k2];unfold Rn;rw[if_pos hh]);repeat'(first|exact tT|refine WA tT (Y5 c1 kid @kq hh AB) ?_ ?_|refine WM (Y5 c1 kid @kq hh AB) ?_ ?_|(refine HE ?_;clear hK K)|refine WR fun K hK=>?_|refine HT ?_|refine WC (fun h=>?_) fun h=>?_|exact ff|fail)
    all_goals (refine⟨j+1,⟨Zo,Zo⟩,?_⟩;simp only[hs];exact G.Al (AA Ai) Au)
   ·have hs:=fin {sc with facts:=sc.facts++ [(x.name,x.u)]} (by unfold C4;rw[if_pos k2];unfold Rn;rw[if_neg hh]);have hh:=GV hh;have hu:=p4 sc.facts x.name x.u hh;repeat'(first|exact tT|refine WA tT (Y6 c1 kid @kq hh hu AB) ?_ ?_|refine WM (Y6 c1 kid @kq hh hu AB) ?_ ?_|(refine HE ?_;clear hK K)|refine WR fun K hK=>?_|refine HT ?_|refine WC (fun h=>?_) fun h=>?_|exact ff|fail)
    all_goals (first|omega|(refine⟨j+1,⟨Zo,Zo⟩,?_⟩;simp only[hs];exact G.Al (AA Ai) Au))
  by_cases k3:x.kind=3
  ·have kq:(x.kind==2)=false∧(x.kind==3)=true:=by rw[k3];decide
   by_cases hh:T6 sc.lines x.name=true
   ·have hs:=fin sc (by unfold C4;rw[if_neg k2,if_pos k3];unfold Rn;rw[if_pos hh]);repeat'(first|exact tT|refine WA tT (Y5 c1 kid @kq hh AB) ?_ ?_|refine WM (Y5 c1 kid @kq hh AB) ?_ ?_|(refine HE ?_;clear hK K)|refine WR fun K hK=>?_|refine HT ?_|refine WC (fun h=>?_) fun h=>?_|exact ff|fail)
    all_goals (refine⟨j+1,⟨Zo,Zo⟩,?_⟩;simp only[hs];exact G.Al (AA Ai) Au)
   ·have hs:=fin {sc with lines:=sc.lines++ [(x.name,x.u)]} (by unfold C4;rw[if_neg k2,if_pos k3];unfold Rn;rw[if_neg hh]);have hh:=GV hh;have hu:=p4 sc.lines x.name x.u hh;repeat'(first|exact tT|refine WA tT (Y6 c1 kid @kq hh hu AB) ?_ ?_|refine WM (Y6 c1 kid @kq hh hu AB) ?_ ?_|(refine HE ?_;clear hK K)|refine WR fun K hK=>?_|refine HT ?_|refine WC (fun h=>?_) fun h=>?_|exact ff|fail)
    all_goals (first|omega|(refine⟨j+1,⟨Zo,Zo⟩,?_⟩;simp only[hs];exact G.Al (AA Ai) Au))
  by_cases k4:x.kind=4
  ·have kq:(x.kind==2)=false∧(x.kind==3)=false∧(x.kind==4)=true:=by rw[k4];decide
   by_cases hh:Od sc.BX x.n=true
   ·have hs:=fin sc (by unfold C4;rw[if_neg k2,if_neg k3,if_pos k4];unfold cU;rw[if_pos hh]);repeat'(first|exact tT|refine WA tT (Y5 c1 kid @kq hh AB) ?_ ?_|refine WM (Y5 c1 kid @kq hh AB) ?_ ?_|(refine HE ?_;clear hK K)|refine WR fun K hK=>?_|refine HT ?_|refine WC (fun h=>?_) fun h=>?_|exact ff|fail)
    all_goals (refine⟨j+1,⟨Zo,Zo⟩,?_⟩;simp only[hs];exact G.Al (AA Ai) Au)
   ·have hs:=fin {sc with BX:=sc.BX++ [(x.n,x.name)]} (by unfold C4;rw[if_neg k2,if_neg k3,if_pos k4];unfold cU;rw[if_neg hh]);have hh:=GV hh;have hu:=vq sc.BX x.n x.name hh;repeat'(first|exact tT|refine WA tT (Y6 c1 kid @kq hh hu AB) ?_ ?_|refine WM (Y6 c1 kid @kq hh hu AB) ?_ ?_|(refine HE ?_;clear hK K)|refine WR fun K hK=>?_|refine HT ?_|refine WC (fun h=>?_) fun h=>?_|exact ff|fail)
    all_goals (first|omega|(refine⟨j+1,⟨Zo,Zo⟩,?_⟩;simp only[hs];exact G.Al (AA Ai) Au))
  have kq:(x.kind==2)=false∧(x.kind==3)=false∧(x.kind==4)=false:=⟨beq_false_of_ne k2,beq_false_of_ne k3,beq_false_of_ne k4⟩;have hs:=fin sc (by unfold C4;rw[if_neg k2,if_neg k3,if_neg k4]);repeat'(first|exact tT|refine WA tT (Y4 c1 kid @kq AB) ?_ ?_|refine WM (Y4 c1 kid @kq AB) ?_ ?_|(refine HE ?_;clear hK K)|refine WR fun K hK=>?_|refine HT ?_|refine WC (fun h=>?_) fun h=>?_|exact ff|fail)
  all_goals (refine⟨j+1,⟨Zo,Zo⟩,?_⟩;simp only[hs];exact G.Al (AA Ai) Au)
 ·obtain rfl:j=e.kids.length:=Zo
  have c1:=DF ((e.kids.length:Int)<(e.kids.length:Int));rw[List.take_length]at RY ⊢;generalize C5 e.kids=sc at*;repeat'(first|exact tT|refine WA tT (Y2 c1 AB) ?_ ?_|refine WM (Y2 c1 AB) ?_ ?_|(refine HE ?_;clear hK K)|refine WR fun K hK=>?_|refine HT ?_|refine WC (fun h=>?_) fun h=>?_|exact ff|fail)
  refine fun a w hG=>?_;have h0:G 81 B w0 ⟨[(2,.p 2 0)],[(12,.DN false (kS sc.facts) (.AF (vS sc.facts))),(13,.DN false (kS sc.lines) (.AF (vS sc.lines))),(14,.DN true (kI sc.BX) (.AF (vI sc.BX))),(2,.box 123 (.AF [.s 12,.s 13,.s 14]))]++Y⟩ a w:=G.Al (AA Ai) Au a w hG;have h1:=QX (st:=⟨[(2,.p 2 0)],[(12,.DN false (kS sc.facts) (.AF (vS sc.facts))),(13,.DN false (kS sc.lines) (.AF (vS sc.lines))),(14,.DN true (kI sc.BX) (.AF (vI sc.BX))),(2,.box 123 (.AF [.s 12,.s 13,.s 14]))]++Y⟩) (E:= [(2,.p 2 0)]) (pre:= [(12,.DN false (kS sc.facts) (.AF (vS sc.facts))),(13,.DN false (kS sc.lines) (.AF (vS sc.lines))),(14,.DN true (kI sc.BX) (.AF (vI sc.BX))),(2,.box 123 (.AF [.s 12,.s 13,.s 14]))]) hY 12 1003 Zd Zd (fun _ _ h=>h) (by simp[Bg,AV.ids]) (by simp[Bz,AN.ids,AV.Av,AV.ids]) (Am.2 1003 Zd Zd) a w h0;push_cast[IL,Gd]at h1;have h2:=QX (st:=⟨[(2,.p 2 0)],[(1003,.DN false (kS sc.facts) (.AF (vS sc.facts))),(13,.DN false (kS sc.lines) (.AF (vS sc.lines))),(14,.DN true (kI sc.BX) (.AF (vI sc.BX))),(2,.box 123 (.AF [.s 1003,.s 13,.s 14]))]++Y⟩) (E:= [(2,.p 2 0)]) (pre:= [(1003,.DN false (kS sc.facts) (.AF (vS sc.facts))),(13,.DN false (kS sc.lines) (.AF (vS sc.lines))),(14,.DN true (kI sc.BX) (.AF (vI sc.BX))),(2,.box 123 (.AF [.s 1003,.s 13,.s 14]))]) hY 13 1005 Zd Zd (fun _ _ h=>h) (by simp[Bg,AV.ids]) (by simp[Bz,AN.ids,AV.Av,AV.ids]) (Am.2 1005 Zd Zd) a w h1;push_cast[IL,Gd]at h2;have h3:=QX (st:=⟨[(2,.p 2 0)],[(1003,.DN false (kS sc.facts) (.AF (vS sc.facts))),(1005,.DN false (kS sc.lines) (.AF (vS sc.lines))),(14,.DN true (kI sc.BX) (.AF (vI sc.BX))),(2,.box 123 (.AF [.s 1003,.s 1005,.s 14]))]++Y⟩) (E:= [(2,.p 2 0)]) (pre:= [(1003,.DN false (kS sc.facts) (.AF (vS sc.facts))),(1005,.DN false (kS sc.lines) (.AF (vS sc.lines))),(14,.DN true (kI sc.BX) (.AF (vI sc.BX))),(2,.box 123 (.AF [.s 1003,.s 1005,.s 14]))]) hY 14 1007 Zd Zd (fun _ _ h=>h) (by simp[Bg,AV.ids]) (by simp[Bz,AN.ids,AV.Av,AV.ids]) (Am.2 1007 Zd Zd) a w h2;push_cast[IL,Gd]at h3;exact G.Al (AA Ai) Au a w h3
end Go.Proofs.YthemnhjojaehhaaGreatDoor
