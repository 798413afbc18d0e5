/- Part of a proof. -/
import Derived.Test.YthemnhjojaehhaaGreatDoorA16
set_option linter.all false
namespace Go.Ad
open Go
theorem mG{q:Prop}(z:True)(h:q):q:=h
theorem mH{p q:Prop}(z:p)(h:q):p∧q:=⟨z,h⟩
abbrev oT:Bool:=true
abbrev oF:Bool:=false
theorem tT:True:=trivial
theorem vK{i:Decidable False}: @decide False i=false:=Zdf fun h=>h
theorem Gf{i:Decidable True}: @decide True i=true:=Zde trivial
theorem pU{P:Program}{n B:Nat}{w0:AT}{Q:Exit→St→Prop}{st:St}{c:Operand}{x y:Code}{b:Bool}(hc:st.ev c=.v (.bool b))(hb:b=true)(h:BY P n B w0 x Q st):BY P n B w0 (.cond c x y) Q st:=B6 b hc (fun _=>h) fun hf=>by rw[hb]at hf;cases hf
theorem pV{P:Program}{n B:Nat}{w0:AT}{Q:Exit→St→Prop}{st:St}{c:Operand}{x y:Code}{b:Bool}(hc:st.ev c=.v (.bool b))(hb:b=false)(h:BY P n B w0 y Q st):BY P n B w0 (.cond c x y) Q st:=B6 b hc (fun ht=>by rw[hb]at ht;cases ht) fun _=>h
theorem Y2{A B:Prop}(xA:A)(xB:B):A∧B:=⟨xA,xB⟩
theorem Y3{A B D:Prop}(xA:A)(xB:B)(xD:D):A∧B∧D:=⟨xA,xB,xD⟩
theorem Y4{A B D E:Prop}(xA:A)(xB:B)(xD:D)(xE:E):A∧B∧D∧E:=⟨xA,xB,xD,xE⟩
theorem Y5{A B D E G:Prop}(xA:A)(xB:B)(xD:D)(xE:E)(xG:G):A∧B∧D∧E∧G:=⟨xA,xB,xD,xE,xG⟩
theorem Y6{A B D E G I:Prop}(xA:A)(xB:B)(xD:D)(xE:E)(xG:G)(xI:I):A∧B∧D∧E∧G∧I:=⟨xA,xB,xD,xE,xG,xI⟩
theorem Y7{A B D E G I J:Prop}(xA:A)(xB:B)(xD:D)(xE:E)(xG:G)(xI:I)(xJ:J):A∧B∧D∧E∧G∧I∧J:=⟨xA,xB,xD,xE,xG,xI,xJ⟩
theorem Y8{A B D E G I J M:Prop}(xA:A)(xB:B)(xD:D)(xE:E)(xG:G)(xI:I)(xJ:J)(xM:M):A∧B∧D∧E∧G∧I∧J∧M:=⟨xA,xB,xD,xE,xG,xI,xJ,xM⟩
theorem Y9{A B D E G I J M N:Prop}(xA:A)(xB:B)(xD:D)(xE:E)(xG:G)(xI:I)(xJ:J)(xM:M)(xN:N):A∧B∧D∧E∧G∧I∧J∧M∧N:=⟨xA,xB,xD,xE,xG,xI,xJ,xM,xN⟩
theorem WA{C F m s c:Prop}(zc:C)(zf:F)(zm:m)(zs:s)(H:C→F→m→s→c:=by(intro zc zf zm zs;(first|refine sC hT fun K' AX=>?_|refine oC fun K' AX=>?_);push_cast[zf];(try simp (disch:=omega) only[wrap64,Int.toNat_natCast]);(first|refine pW zs ?_|refine pX zs ?_|refine mH zs ?_|refine mG zs ?_);(first|exact AX _ zm|((first|apply OY|(apply OZ;exact gd)|apply QL);(try intro hb);(first|exact zc|exact zc.1|exact zc.2|exact zc.2.1|exact zc.2.2|exact zc.2.2.1|exact zc.2.2.2|exact zc.2.2.2.1|exact zc.2.2.2.2|exact zc.2.2.2.2.1|exact zc.2.2.2.2.2);exact fC;exact AX _ zm)|exact⟨.v (.int .i64 0),AX _ zm⟩))):c:=H zc zf zm zs
theorem WS{C F m s c:Prop}(zc:C)(zf:F)(zm:m)(zs:s)(H:C→F→m→s→c:=by(intro zc zf zm zs;(first|refine sC hT fun K' AX=>?_|refine oC fun K' AX=>?_);push_cast[zf,Eh,GA,DS,List.length_append,List.length_cons,List.length_nil,List.cons_append,List.nil_append,List.append_assoc];(try simp (disch:=omega) only[wrap64,Int.toNat_natCast]);(first|refine pW zs ?_|refine pX zs ?_|refine mH zs ?_|refine mG zs ?_);(first|exact AX _ zm|((first|apply OY|(apply OZ;exact gd)|apply QL);(try intro hb);(first|exact zc|exact zc.1|exact zc.2|exact zc.2.1|exact zc.2.2|exact zc.2.2.1|exact zc.2.2.2|exact zc.2.2.2.1|exact zc.2.2.2.2|exact zc.2.2.2.2.1|exact zc.2.2.2.2.2);exact fC;exact AX _ zm)|exact⟨.v (.int .i64 0),AX _ zm⟩))):c:=H zc zf zm zs
theorem WM{F m s c:Prop}(zf:F)(zm:m)(zs:s)(H:F→m→s→c:=by(intro zf zm zs;first|(refine HK hT rfl fun K' AX=>?_;push_cast[zf];(try simp (disch:=omega) only[wrap64,Int.toNat_natCast]);(first|refine pW zs ?_|refine pX zs ?_|refine mH zs ?_|refine mG zs ?_);exact AX _ zm)|(refine HL T rfl (by simp only[As,Nat.reduceLT]) fun K' AX=>?_;push_cast[zf];(first|refine pW zs ?_|refine pX zs ?_|refine mH zs ?_|refine mG zs ?_);exact AX _ zm)|(refine GK hT rfl fun K' AX=>?_;push_cast[zf];(try simp (disch:=omega) only[wrap64,Int.toNat_natCast]);(first|refine pW zs ?_|refine pX zs ?_|refine mH zs ?_|refine mG zs ?_);exact AX _ zm)|(refine Hi hT rfl rfl fun K' AX=>?_;push_cast[zf];(try simp (disch:=omega) only[wrap64,Int.toNat_natCast]);(first|refine pW zs ?_|refine pX zs ?_|refine mH zs ?_|refine mG zs ?_);exact AX _ zm))):c:=H zf zm zs
theorem WI{F m s c:Prop}(zf:F)(zm:m)(zs:s)(H:F→m→s→c:=by(intro zf zm zs;first|(refine cG hT rfl rfl fun K' AX=>?_;push_cast[zf];(try simp (disch:=omega) only[wrap64,Int.toNat_natCast]);(first|refine pW zs ?_|refine pX zs ?_|refine mH zs ?_|refine mG zs ?_);exact AX _ zm))):c:=H zf zm zs
theorem WB{F m s c:Prop}(zf:F)(zm:m)(zs:s)(H:F→m→s→c:=by(intro zf zm zs;first|(refine FT hT rfl (by simp only[As,Nat.reduceLT]) fun K' AX=>?_;push_cast[zf];(try simp (disch:=omega) only[wrap64,Int.toNat_natCast]);(first|refine pW zs ?_|refine pX zs ?_|refine mH zs ?_|refine mG zs ?_);exact AX _ zm))):c:=H zf zm zs
theorem WQ{F c:Prop}{R:St→Prop}{X:(St→Prop)→Prop}(zf:F)(z: ∀K,(∀s,R s→K s)→X K)(H:F→(∀K,(∀s,R s→K s)→X K)→c:=by(intro zf z;(first|refine sC hT fun K' AX=>?_|refine oC fun K' AX=>?_);push_cast[zf];(try simp (disch:=omega) only[wrap64,Int.toNat_natCast]);exact z K' AX)):c:=H zf z
theorem WU{m c:Prop}(zm:m)(H:m→c:=by(intro zm;first|(refine cH rfl rfl (by simp only[As,Nat.reduceLT]) qo pY pA wo rfl trivial rfl Zd ?_;simp only[St.put];exact zm)|(refine Vk rfl rfl (by simp only[As,Nat.reduceLT]) pY qo pA rfl trivial rfl ZD ?_;simp only[St.put];exact zm)|(refine Vl rfl rfl (by simp only[As,Nat.reduceLT]) Tryz.func103 Zk Zk Zk Zk rfl trivial rfl ?_;simp only[St.put];exact zm)|(refine qp rfl rfl (by simp only[As,Nat.reduceLT]) qo pA rfl trivial rfl trivial rfl ?_;simp only[St.put];exact zm))):c:=H zm
theorem EA{C F m c:Prop}(zc:C)(zf:F)(zm:m)(H:C→F→m→c:=by(intro zc zf zm;(first|refine fE hT Am fun K' AX=>?_|refine fG hT Am fun K' AX=>?_);push_cast[zf];refine⟨_,_,_,zc,(by first|rfl|(simp[Oa,AN.C9,AV.DB,AV.C9,Es,Af];done)),Zk,(by repeat(first|exact trivial|refine⟨rfl,?_⟩)),?_⟩;push_cast[zf,List.cons_append,List.nil_append];exact AX _ zm)):c:=H zc zf zm
theorem EO{C F m c:Prop}(zc:C)(zf:F)(zm:m)(H:C→F→m→c:=by(intro zc zf zm;(first|refine fO hT Am fun K' AX=>?_|refine yp hT Am fun K' AX=>?_);push_cast[zf];refine⟨_,_,_,zc,(by first|rfl|(simp[Oa,AN.C9,AV.DB,AV.C9,Es,Af];done)),Zk,(by repeat(first|exact Mc|exact KM hY Zk|refine KN (by first|(simp[AN.C9,AV.DB,AV.C9,Es,LU,Af];done)|rfl) ?_)),(by repeat(first|exact trivial|refine⟨rfl,?_⟩)),?_⟩;push_cast[zf,List.cons_append,List.nil_append];exact AX _ zm)):c:=H zc zf zm
theorem Md{C F m c:Prop}(zc:C)(zf:F)(zm:m)(H:C→F→m→c:=by(intro zc zf zm;(first|refine fO hT Am fun K' AX=>?_|refine yp hT Am fun K' AX=>?_);push_cast[zf,Eh,GA,DS,List.length_append,List.length_cons,List.length_nil,List.cons_append,List.nil_append,List.append_assoc];refine⟨_,_,_,zc,(by first|rfl|(simp[Oa,AN.C9,AV.DB,AV.C9,Es,Af];done)),Zk,(by repeat(first|exact Mc|exact KM hY Zk|refine KN (by first|(simp[AN.C9,AV.DB,AV.C9,Es,LU,Af];done)|rfl) ?_)),(by repeat(first|exact trivial|refine⟨rfl,?_⟩)),?_⟩;push_cast[zf,Eh,GA,DS,List.length_append,List.length_cons,List.length_nil,List.cons_append,List.nil_append,List.append_assoc,List.cons_append,List.nil_append];exact AX _ zm)):c:=H zc zf zm
theorem EN{C F m c:Prop}(zc:C)(zf:F)(zm:m)(H:C→F→m→c:=by(intro zc zf zm;refine fN hT Am fun K' AX=>?_;push_cast[zf];refine⟨_,_,_,zc,(by first|rfl|(simp[mI,AN.C9,AV.DB,AV.C9,Es,Af];done)),(by repeat(first|exact gn|refine cI (by first|exact .inl rfl|exact .inr rfl) ?_)),Zk,(by repeat(first|exact Mc|exact KM hY Zk|refine KN (by first|(simp[AN.C9,AV.DB,AV.C9,Es,LU,Af];done)|rfl) ?_)),(by repeat(first|exact trivial|refine⟨rfl,?_⟩)),?_⟩;push_cast[zf,List.cons_append,List.nil_append];exact AX _ zm)):c:=H zc zf zm
theorem ED{C F m c:Prop}(zc:C)(zf:F)(zm:m)(H:C→F→m→c:=by(intro zc zf zm;refine fDE hT Am fun K' AX=>?_;push_cast[zf];refine⟨_,_,_,zc,(by first|rfl|(simp[Oa,AN.C9,AV.DB,AV.C9,Es,Af];done)),Zk,(by repeat(first|exact trivial|refine⟨rfl,?_⟩)),?_⟩;push_cast[zf,List.cons_append,List.nil_append];exact AX _ zm)):c:=H zc zf zm
theorem WR{c:Prop}{R:St→Prop}{X:(St→Prop)→Prop}(z: ∀K,(∀s,R s→K s)→X K)(H:(∀K,(∀s,R s→K s)→X K)→c:=by(intro z;first|exact CH z|exact Fm z|exact dQ hT hm z|exact dL hT hm z)):c:=H z
theorem WD{c:Prop}{R:St→Prop}{X:(St→Prop)→Prop}(z: ∀K,(∀s,R s→K s)→X K)(H:(∀K,(∀s,R s→K s)→X K)→c:=by(intro z;first|exact x9 hT hm _ rfl ZD z ZD|exact yA hT hm _ rfl ZD z ZD|fail)):c:=H z
theorem WN{c:Prop}{R:St→Prop}{X:(St→Prop)→Prop}(z: ∀K,(∀s,R s→K s)→X K)(H:(∀K,(∀s,R s→K s)→X K)→c:=by(intro z;first|exact CH z|exact Fm z)):c:=H z
theorem PE{m c:Prop}(zm:m)(H:m→c:=by(intro zm;(first|refine A9 (hK _ ?_)|refine Bk (hK _ ?_));(first|(push_cast;exact zm)|(have zt:True:=zm;push_cast;done)))):c:=H zm
theorem PT{m c:Prop}(zm:m)(H:m→c:=by(intro zm;first|(refine sK hT ?_;simp only[St.put];exact zm)|((first|apply Bs|apply B5|apply CG|apply Cl);(first|(push_cast;exact zm)|(have zt:True:=zm;push_cast;done)))|(refine Bk ?_;show AK _ _ _ _ _ _ _ _;exact zm)|exact Bq zm|exact Br zm|exact CR zm|exact pU rfl (by first|with_reducible rfl|with_reducible exact Gf|fail) zm|exact pV rfl (by first|with_reducible rfl|with_reducible exact vK|fail) zm|fail)):c:=H zm
theorem HE{m c:Prop}(zm:m)(H:m→c:=by(intro zm;(first|refine A9 (hK _ ?_)|refine Bk (hK _ ?_));(first|(push_cast[AB];exact zm)|(have zt:True:=zm;push_cast[AB];done)))):c:=H zm
theorem HT{m c:Prop}(zm:m)(H:m→c:=by(intro zm;first|(refine sK hT ?_;simp only[St.put];exact zm)|((first|apply Bs|apply B5|apply CG|apply Cl);(first|(push_cast[AB];exact zm)|(have zt:True:=zm;push_cast[AB];done)))|(refine Bk ?_;show AK _ _ _ _ _ _ _ _;exact zm)|exact Bq zm|exact Br zm|exact CR zm|exact pU rfl (by first|with_reducible rfl|with_reducible exact Gf|fail) zm|exact pV rfl (by first|with_reducible rfl|with_reducible exact vK|fail) zm|fail)):c:=H zm
theorem WC{p q X Y c:Prop}(z1:p→X)(z2:q→Y)(H:(p→X)→(q→Y)→c:=by(intro z1 z2;refine B6 _ rfl (fun h=>?_) (fun h=>?_);(simp only[VC,reduceCtorEq]at h;exact z1 h);(simp only[VC,reduceCtorEq]at h;exact z2 h))):c:=H z1 z2
theorem Au{p:Prop}(h:p:=by(repeat(first|exact Ce|refine O6 hY Zd ?_|refine Cf rfl ?_))):p:=h
theorem IN{p:Prop}(h:p:=by(repeat(first|exact Ce|refine Cf rfl ?_|exact E7))):p:=h
theorem Ai{p:Prop}(h:p:=by(repeat(first|exact trivial|refine⟨rfl,?_⟩))):p:=h
theorem Lk{p:Prop}(h:p:=by(repeat(first|exact Tw|refine mJ hY Zd ?_|refine Z3 rfl ?_))):p:=h
theorem HSZ{p:Prop}(h:p:=by(repeat(first|exact Tw|exact qs|refine Z3 rfl ?_))):p:=h
theorem IB{p:Prop}(h:p:=by((try simp only[List.cons_append,List.nil_append]);repeat(first|exact Ce|refine O6 hY Zd ?_|refine Cf rfl ?_))):p:=h
theorem ER{p:Prop}(h:p:=by(push_cast[List.cons_append,List.nil_append,AB];exact⟨Aj,hR _ Au⟩)):p:=h
theorem ES{p:Prop}(h:p:=by(push_cast[List.cons_append,List.nil_append,AB];exact⟨Aj,hR _ CK⟩)):p:=h
theorem NS{p:Prop}(h:p:=by(repeat(first|exact trivial|refine⟨AR.refl _,?_⟩|refine⟨AR.nil,?_⟩|refine⟨NV _,?_⟩|refine⟨Ct,?_⟩|refine⟨wq,?_⟩))):p:=h
theorem LV{p:Prop}(h:p:=by(exact fun a w hG=>G.E8 hG ⟨AR.refl _,trivial⟩ (B7 rfl NS Lk))):p:=h
theorem NI{p:Prop}(h:p:=by(first|(simp[Bg,AV.ids,AV.Av,ET,A1,KO,QM,LW];done)|(simp only[Bz,List.cons_append,List.nil_append];repeat(first|exact hY.ne Zd|refine⟨Zd,by simp[AN.ids,AV.ids,AV.Av,ET,A1,KO,QM,LW],?_⟩)))):p:=h
theorem FI{Y:List (Nat×AN)}(h:BD 1000 Y=Y)(g: ∀d,d<1000→AJ d Y=Y)(k0:Nat)(OT:k0<1000:=by decide):BD 1000 Y=Y∧AJ k0 Y=Y:=⟨h,g k0 OT⟩
theorem NA{Y:List (Nat×AN)}(h:BD 1000 Y=Y)(g: ∀d,d<1000→AJ d Y=Y)(k0 k1:Nat)(OT:k0<1000:=by decide)(FM:k1<1000:=by decide):BD 1000 Y=Y∧AJ k0 Y=Y∧AJ k1 Y=Y:=⟨h,g k0 OT,g k1 FM⟩
theorem Il{Y:List (Nat×AN)}(h:BD 1000 Y=Y)(g: ∀d,d<1000→AJ d Y=Y)(k0 k1 k2:Nat)(OT:k0<1000:=by decide)(FM:k1<1000:=by decide)(El:k2<1000:=by decide):BD 1000 Y=Y∧AJ k0 Y=Y∧AJ k1 Y=Y∧AJ k2 Y=Y:=⟨h,g k0 OT,g k1 FM,g k2 El⟩
theorem MF{Y:List (Nat×AN)}(h:BD 1000 Y=Y)(g: ∀d,d<1000→AJ d Y=Y)(k0 k1 k2 k3:Nat)(OT:k0<1000:=by decide)(FM:k1<1000:=by decide)(El:k2<1000:=by decide)(U3:k3<1000:=by decide):BD 1000 Y=Y∧AJ k0 Y=Y∧AJ k1 Y=Y∧AJ k2 Y=Y∧AJ k3 Y=Y:=⟨h,g k0 OT,g k1 FM,g k2 El,g k3 U3⟩
theorem fF{Y:List (Nat×AN)}(h:BD 1000 Y=Y)(g: ∀d,d<1000→AJ d Y=Y)(k0 k1 k2 k3 k4:Nat)(OT:k0<1000:=by decide)(FM:k1<1000:=by decide)(El:k2<1000:=by decide)(U3:k3<1000:=by decide)(Xo:k4<1000:=by decide):BD 1000 Y=Y∧AJ k0 Y=Y∧AJ k1 Y=Y∧AJ k2 Y=Y∧AJ k3 Y=Y∧AJ k4 Y=Y:=⟨h,g k0 OT,g k1 FM,g k2 El,g k3 U3,g k4 Xo⟩
theorem KK6{Y:List (Nat×AN)}(h:BD 1000 Y=Y)(g: ∀d,d<1000→AJ d Y=Y)(k0 k1 k2 k3 k4 k5:Nat)(OT:k0<1000:=by decide)(FM:k1<1000:=by decide)(El:k2<1000:=by decide)(U3:k3<1000:=by decide)(Xo:k4<1000:=by decide)(ZT:k5<1000:=by decide):BD 1000 Y=Y∧AJ k0 Y=Y∧AJ k1 Y=Y∧AJ k2 Y=Y∧AJ k3 Y=Y∧AJ k4 Y=Y∧AJ k5 Y=Y:=⟨h,g k0 OT,g k1 FM,g k2 El,g k3 U3,g k4 Xo,g k5 ZT⟩
theorem KK7{Y:List (Nat×AN)}(h:BD 1000 Y=Y)(g: ∀d,d<1000→AJ d Y=Y)(k0 k1 k2 k3 k4 k5 k6:Nat)(OT:k0<1000:=by decide)(FM:k1<1000:=by decide)(El:k2<1000:=by decide)(U3:k3<1000:=by decide)(Xo:k4<1000:=by decide)(ZT:k5<1000:=by decide)(eh:k6<1000:=by decide):BD 1000 Y=Y∧AJ k0 Y=Y∧AJ k1 Y=Y∧AJ k2 Y=Y∧AJ k3 Y=Y∧AJ k4 Y=Y∧AJ k5 Y=Y∧AJ k6 Y=Y:=⟨h,g k0 OT,g k1 FM,g k2 El,g k3 U3,g k4 Xo,g k5 ZT,g k6 eh⟩
theorem yq{Y:List (Nat×AN)}(h:BD 1000 Y=Y)(g: ∀d,d<1000→AJ d Y=Y)(k0 k1 k2 k3 k4 k5 k6 k7 k8 k9:Nat)(OT:k0<1000:=by decide)(FM:k1<1000:=by decide)(El:k2<1000:=by decide)(U3:k3<1000:=by decide)(Xo:k4<1000:=by decide)(ZT:k5<1000:=by decide)(eh:k6<1000:=by decide)(pB:k7<1000:=by decide)(tZ:k8<1000:=by decide)(wu:k9<1000:=by decide):BD 1000 Y=Y∧AJ k0 Y=Y∧AJ k1 Y=Y∧AJ k2 Y=Y∧AJ k3 Y=Y∧AJ k4 Y=Y∧AJ k5 Y=Y∧AJ k6 Y=Y∧AJ k7 Y=Y∧AJ k8 Y=Y∧AJ k9 Y=Y:=⟨h,g k0 OT,g k1 FM,g k2 El,g k3 U3,g k4 Xo,g k5 ZT,g k6 eh,g k7 pB,g k8 tZ,g k9 wu⟩
theorem vL{Y:List (Nat×AN)}(h:BD 1000 Y=Y)(g: ∀d,d<1000→AJ d Y=Y)(k0 k1 k2 k3 k4 k5 k6 k7 k8 k9 k10:Nat)(OT:k0<1000:=by decide)(FM:k1<1000:=by decide)(El:k2<1000:=by decide)(U3:k3<1000:=by decide)(Xo:k4<1000:=by decide)(ZT:k5<1000:=by decide)(eh:k6<1000:=by decide)(pB:k7<1000:=by decide)(tZ:k8<1000:=by decide)(wu:k9<1000:=by decide)(ta:k10<1000:=by decide):BD 1000 Y=Y∧AJ k0 Y=Y∧AJ k1 Y=Y∧AJ k2 Y=Y∧AJ k3 Y=Y∧AJ k4 Y=Y∧AJ k5 Y=Y∧AJ k6 Y=Y∧AJ k7 Y=Y∧AJ k8 Y=Y∧AJ k9 Y=Y∧AJ k10 Y=Y:=⟨h,g k0 OT,g k1 FM,g k2 El,g k3 U3,g k4 Xo,g k5 ZT,g k6 eh,g k7 pB,g k8 tZ,g k9 wu,g k10 ta⟩
theorem yr{Y:List (Nat×AN)}(h:BD 1000 Y=Y)(g: ∀d,d<1000→AJ d Y=Y)(k0 k1 k2 k3 k4 k5 k6 k7 k8 k9 k10 k11 k12 k13:Nat)(OT:k0<1000:=by decide)(FM:k1<1000:=by decide)(El:k2<1000:=by decide)(U3:k3<1000:=by decide)(Xo:k4<1000:=by decide)(ZT:k5<1000:=by decide)(eh:k6<1000:=by decide)(pB:k7<1000:=by decide)(tZ:k8<1000:=by decide)(wu:k9<1000:=by decide)(ta:k10<1000:=by decide)(zW:k11<1000:=by decide)(zY:k12<1000:=by decide)(zZ:k13<1000:=by decide):BD 1000 Y=Y∧AJ k0 Y=Y∧AJ k1 Y=Y∧AJ k2 Y=Y∧AJ k3 Y=Y∧AJ k4 Y=Y∧AJ k5 Y=Y∧AJ k6 Y=Y∧AJ k7 Y=Y∧AJ k8 Y=Y∧AJ k9 Y=Y∧AJ k10 Y=Y∧AJ k11 Y=Y∧AJ k12 Y=Y∧AJ k13 Y=Y:=⟨h,g k0 OT,g k1 FM,g k2 El,g k3 U3,g k4 Xo,g k5 ZT,g k6 eh,g k7 pB,g k8 tZ,g k9 wu,g k10 ta,g k11 zW,g k12 zY,g k13 zZ⟩
theorem FO{P:Program}{T:BT}{f:FuncId}{fn:Func}{c:Code}{args:List AV}{H:List (Nat×AN)}{r:AV}{H':List (Nat×AN)}(n:Nat)(res:List ResultVar)(hf:P.funcs[f]? =some fn)(hn:fn.ntmps=n)
  (h: ∀(B:Nat) (w0:AT) (Y:List (Nat×AN)) (R:AV→List (Nat×AN)→Prop),CW w0.gh→w0.rd=none→Dy 2000 Y→(∀d,d<1000→AJ d Y=Y)→BD 1000 Y=Y→P4 1000 Y→(∀Hx,(∀id b,Af (H'++Y) id=some b→Af Hx id=some b)→R r Hx)→
   BY P n B w0 c (P5 T 1000 res R) ⟨EZ 0 args,H++Y⟩) (hb:fn.body=some c:=by exact rfl) (Em:(fn.name== "runtime.NumGoroutine")=false:=by exact rfl) (M7:fn.results.toList=res:=by exact rfl) (hle:args.length≤n:=by exact Nat.le_of_ble_eq_true rfl) (hN:n≤1000:=by exact Nat.le_of_ble_eq_true rfl):BS P T f args H r H':=qm hf hb Em M7 hn hle hN h
theorem PO{P:Program}{T:BT}{f:FuncId}{fn:Func}{c:Code}{args:List AV}{r:AV}(n:Nat)(res:List ResultVar)(hT:T.ok P)(hf:P.funcs[f]? =some fn)(hn:fn.ntmps=n)(h: ∀B w0,BY P n B w0 c (Zz3 T res r) ⟨EZ 0 args,[]⟩)(hb:fn.body=some c:=by exact rfl)(Em:(fn.name== "runtime.NumGoroutine")=false:=by exact rfl)(M7:fn.results.toList=res:=by exact rfl)(hle:args.length≤n:=by exact Nat.le_of_ble_eq_true rfl):Pure P f args r:=l4 (res:=res) hT hf hb Em M7 hn hle h
theorem DT(p:Prop)[Decidable p](h:p:=by omega):decide p=true:=Zde h
theorem DF(p:Prop)[Decidable p](h: ¬p:=by omega):decide p=false:=Zdf h
end Go.Ad
namespace Go.Tp
structure Pc where
 fr:Int
 pa:Int
 sl:Int
 deriving DecidableEq,Inhabited
inductive Ex where
 |mk (op n:Int) (u:ByteArray) (den:Int) (ps:List Pc) (kids:List Ex)
instance:Inhabited Ex:=⟨.mk 0 0 ⟨#[]⟩ 0 [] []⟩
namespace Ex
def op:Ex→Int| .mk o _ _ _ _ _=>o
def n:Ex→Int| .mk _ n _ _ _ _=>n
def u:Ex→ByteArray| .mk _ _ u _ _ _=>u
def den:Ex→Int| .mk _ _ _ d _ _=>d
def ps:Ex→List Pc| .mk _ _ _ _ p _=>p
def kids:Ex→List Ex| .mk _ _ _ _ _ k=>k
end Ex
theorem Ex.sz(e k:Ex)(h:k∈e.kids):SizeOf.sizeOf k<SizeOf.sizeOf e:=by
 cases e with
 |mk o n u d p ks=>
  have h:k∈ks:=h;have:=List.sizeOf_lt_of_mem h;simp only[Ex.mk.sizeOf_spec];omega
theorem Ex.ind{P:Ex→Prop}(h: ∀e,(∀k∈e.kids,P k)→P e)(e:Ex):P e:=by
 suffices h2: ∀m (e:Ex),SizeOf.sizeOf e≤m→P e from h2 _ e (Nat.le_refl _)
 intro m;induction m with
 |zero=>intro e he;cases e;simp only[Ex.mk.sizeOf_spec]at he;omega
 |succ m ih=>exact fun e he=>h e fun k hk=>ih k (by have:=e.sz k hk;omega)
mutual
def Ex.size:Ex→Nat
 | .mk _ _ _ _ _ ks=>1+Ex.AP ks
def Ex.AP:List Ex→Nat
 | []=>0
 |k::r=>k.size+Ex.AP r
end
structure De where
 name:ByteArray
 u:ByteArray
 role:Int
 deriving Inhabited
structure Ar where
 num:Int
 line:Int
 Ri:Int
 fr:Int
 to:Int
 known:Int
 FU:List Ex
 G9:List Int
 GU:Ex
 deriving Inhabited
structure Cd where
 facts:List De
 lines:List De
 BX:List Ar
 deriving Inhabited
inductive Nd where
 |mk (kind:Int) (name u:ByteArray) (n fr to known den:Int) (ps:List Pc) (kids:List Nd)
instance:Inhabited Nd:=⟨.mk 0 ⟨#[]⟩ ⟨#[]⟩ 0 0 0 0 0 [] []⟩
namespace Nd
def kind:Nd→Int| .mk k _ _ _ _ _ _ _ _ _=>k
def name:Nd→ByteArray| .mk _ x _ _ _ _ _ _ _ _=>x
def u:Nd→ByteArray| .mk _ _ x _ _ _ _ _ _ _=>x
def n:Nd→Int| .mk _ _ _ x _ _ _ _ _ _=>x
def fr:Nd→Int| .mk _ _ _ _ x _ _ _ _ _=>x
def to:Nd→Int| .mk _ _ _ _ _ x _ _ _ _=>x
def known:Nd→Int| .mk _ _ _ _ _ _ x _ _ _=>x
def den:Nd→Int| .mk _ _ _ _ _ _ _ x _ _=>x
def ps:Nd→List Pc| .mk _ _ _ _ _ _ _ _ x _=>x
def kids:Nd→List Nd| .mk _ _ _ _ _ _ _ _ _ x=>x
theorem eta(e:Nd):.mk e.kind e.name e.u e.n e.fr e.to e.known e.den e.ps e.kids=e:=by cases e;rfl
end Nd
theorem Nd.sz(e k:Nd)(h:k∈e.kids):SizeOf.sizeOf k<SizeOf.sizeOf e:=by
 cases e with
 |mk a b c d e f g h1 i ks=>
  have h:k∈ks:=h;have:=List.sizeOf_lt_of_mem h;simp only[Nd.mk.sizeOf_spec];omega
theorem Nd.ind{P:Nd→Prop}(h: ∀e,(∀k∈e.kids,P k)→P e)(e:Nd):P e:=by
 suffices h2: ∀m (e:Nd),SizeOf.sizeOf e≤m→P e from h2 _ e (Nat.le_refl _)
 intro m;induction m with
 |zero=>intro e he;cases e;simp only[Nd.mk.sizeOf_spec]at he;omega
 |succ m ih=>exact fun e he=>h e fun k hk=>ih k (by have:=e.sz k hk;omega)
mutual
def Nd.size:Nd→Nat
 | .mk _ _ _ _ _ _ _ _ _ ks=>1+Nd.AP ks
def Nd.AP:List Nd→Nat
 | []=>0
 |k::r=>k.size+Nd.AP r
end
mutual
def Nd.depth:Nd→Nat
 | .mk _ _ _ _ _ _ _ _ _ ks=>1+Nd.A2 ks
def Nd.A2:List Nd→Nat
 | []=>0
 |k::r=>max k.depth (Nd.A2 r)
end
theorem Nd.size_eq(e:Nd):e.size=1+Nd.AP e.kids:=by cases e;rw[Nd.size];rfl
theorem Nd.Ck(e:Nd):e.depth=1+Nd.A2 e.kids:=by cases e;rw[Nd.depth];rfl
structure Tk where
 kind:Int
 text:ByteArray
 deriving Inhabited,DecidableEq
structure Dg where
 err:Int
 deriving Inhabited,DecidableEq
end Go.Tp
