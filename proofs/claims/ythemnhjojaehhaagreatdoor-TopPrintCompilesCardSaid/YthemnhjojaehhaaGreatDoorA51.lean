/- Part of a proof. -/
import Derived.Test.YthemnhjojaehhaaGreatDoorA49
import Derived.Test.YthemnhjojaehhaaGreatDoorA50
set_option linter.all false
namespace Go.Proofs.YthemnhjojaehhaaGreatDoor
open Go.Ad Go.Proofs Go.Tp
attribute [local irreducible] A8 AK BY Go.Ad.Pure BS pq Uh
theorem Nx{e:Nd}(h:FW e=true)(k1:e.kind=1):OQ e.kids=e∧e.size≤2000∧e.depth≤40∧ ∀x∈e.kids,DJ x=true:=by
 unfold FW at h;rw[if_pos k1,Zba,I6]at h;have hs:=Nd.size_eq e;have hd:=Nd.Ck e;refine⟨?_,Zo,?_,h.2.1⟩
 ·have:=C8 h.1;rw[k1]at this;exact this.symm
 ·rcases h.2.2.2 with h0|h0
  ·rw[h0]at hd;simp only[Nd.A2]at hd;omega
  ·omega
abbrev sT(e:Nd):ByteArray:=⟨(Gq e).toArray⟩
abbrev lW(e:Nd):List Tk:=(DQ e.kids).map Sp.tk
theorem Uv{e:Nd}(h: ∀x∈e.kids,DJ x=true):Mp (EK (Gq e)) (lW e)∧Gz [47,47] (EK (Gq e))=false:=by
 obtain⟨h1,h2,h3⟩:=nL fun x hx=>aW (h x hx);rw[h3];exact⟨h1,h2⟩
theorem XH(e:Nd)(Ae:Cz e)(k1:e.kind=1)(hv:FW e=true)(Bh:e.size≤300)(hs:(Gq e).length≤6000∧(lW e).length≤2000):Pure Tryz.prog 7 [.a (A1 e)] (.t [An (sT e),AE 0]):=by
 obtain⟨_,_,_,hit⟩:=Nx hv k1;obtain⟨h1,h2⟩:=Uv hit;exact TR e Ae k1 hv (bD hit Bh) (sT e) 0 fun a ha=>W9 a ha (Gq e) (lW e) h1 h2 hs.1 hs.2
theorem kP(e:Nd)(Ae:Cz e)(k1:e.kind=1)(hv:FW e=true)(Bh:e.size≤300)(hs: ¬((Gq e).length≤6000∧(lW e).length≤2000)):Pure Tryz.prog 7 [.a (A1 e)] (.t [An ⟨#[]⟩,AE 2]):=by
 obtain⟨_,_,_,hit⟩:=Nx hv k1;obtain⟨h1,h2⟩:=Uv hit;exact TR e Ae k1 hv (bD hit Bh) ⟨#[]⟩ 2 fun a ha=>ZJ a ha (Gq e) (lW e) h1 h2 Zo
theorem TS(e:Nd)(Ae:Cz e)(k1:e.kind=1)(hv:FW e=true)(hs:(Gq e).length≤6000∧(lW e).length≤2000):Pure Tryz.prog 8 [An (sT e)] (.t [.a (A1 e),L5]):=by
 obtain⟨he,Bh,pE,hit⟩:=Nx hv k1;obtain⟨h1,h2⟩:=Uv hit;have:=sR (sT e) (lW e) (by rw[DS];exact hs.1) (by rw[GA];exact h1) (by rw[GA];exact h2) hs.2 e.kids (r8 hit) Ae.spec.kids.1 (by rw[he];exact Bh) (by rw[he];exact pE);rw[he]at this;exact this
set_option maxHeartbeats 16000000 in
theorem s9(Pf:Pure Tryz.prog 4 [] (BL true))(e:Nd)(Ae:Cz e):Pure Tryz.prog 3 [.a (A1 e)] (BL true):=by
 have Zb:=cM e Ae;have F2:=KQ e Ae;by_cases hf:(decide ((e.size:Int)≤300)&&decide ((e.depth:Int)≤100))=true
 ·rw[hf]at Zb;by_cases hv:FW e=true
  ·rw[hv]at F2;by_cases k1:e.kind=1
   ·have q:(e.kind != 1)=false:=by rw[k1];rfl
    have Bh:e.size≤300:=by simp only[Zba,Zdt]at hf;omega
    by_cases hs:(Gq e).length≤6000∧(lW e).length≤2000
    ·have h7:=XH e Ae k1 hv Bh hs;have h8:=TS e Ae k1 hv hs;have h9:=XA e Ae k1 hv;obtain⟨Ki,Gu⟩:=oc e Ae Zo;have VJ:=T2 _ Ki;have h11:=cN (FY e).2 (FY e).2 rfl (fun i _=>rfl) Zo;generalize (FY e).1=c at*;generalize (FY e).2=d at*;generalize sT e=s at*;clear Ki hv hs;refine PO 72 [.tmp 2] hT Tryz.func3 Tryz.ntmps3 fun B w0=>?_;repeat'(first|exact tT|refine y4 (Y8 Pf Zb F2 h7 h8 h9 VJ h11) q ?_ ?_|(refine PE ?_;clear hK K)|refine WR fun K hK=>?_|refine PT ?_|refine WC (fun h=>?_) fun h=>?_|exact ff|fail)
     all_goals first|omega|rfl
    ·have h7:=kP e Ae k1 hv Bh hs;refine PO 72 [.tmp 2] hT Tryz.func3 Tryz.ntmps3 fun B w0=>?_;repeat'(first|exact tT|refine WA (Y4 Pf Zb F2 h7) q ?_ ?_|(refine PE ?_;clear hK K)|refine WR fun K hK=>?_|refine PT ?_|refine WC (fun h=>?_) fun h=>?_|exact ff|fail)
     all_goals first|omega|rfl
   ·have q:(e.kind != 1)=true:=by simpa using k1
    refine PO 72 [.tmp 2] hT Tryz.func3 Tryz.ntmps3 fun B w0=>?_;repeat'(first|exact tT|refine WA (Y3 Pf Zb F2) q ?_ ?_|(refine PE ?_;clear hK K)|refine WR fun K hK=>?_|refine PT ?_|refine WC (fun h=>?_) fun h=>?_|exact ff|fail)
    all_goals first|omega|rfl
  ·rw[GV hv]at F2;refine PO 72 [.tmp 2] hT Tryz.func3 Tryz.ntmps3 fun B w0=>?_;repeat'(first|exact tT|refine WA (Y3 Pf Zb F2) tT ?_ ?_|(refine PE ?_;clear hK K)|refine WR fun K hK=>?_|refine PT ?_|refine WC (fun h=>?_) fun h=>?_|exact ff|fail)
   all_goals first|omega|rfl
 ·rw[GV hf]at Zb;refine PO 72 [.tmp 2] hT Tryz.func3 Tryz.ntmps3 fun B w0=>?_;repeat'(first|exact tT|refine WA (Y2 Pf Zb) tT ?_ ?_|(refine PE ?_;clear hK K)|refine WR fun K hK=>?_|refine PT ?_|refine WC (fun h=>?_) fun h=>?_|exact ff|fail)
  all_goals first|omega|rfl
end Go.Proofs.YthemnhjojaehhaaGreatDoor
namespace Go.Proofs.YthemnhjojaehhaaGreatDoor
open Go.Ad Go.Proofs Go.Tp
abbrev L9:ByteArray:=bA [104,111,117,114,115]
abbrev Ny:ByteArray:=bA [98,97,115,105,99]
abbrev M5:ByteArray:=bA [69,85,82]
abbrev Oi:ByteArray:=bA [109,105,110,117,116,101,115]
def n0:Nd:=OQ [Gr 2 L9 Oi 0,Gr 3 Ny M5 1,
 Ew 1 Ny (Lw 1 8766 36525 8766) [Qt 6 [mkBin (bA [60]) (mkNum Oi 0) (mkRef L9)],Qt 8 [mkBin (bA [97,116]) (mkRef L9) (mkNum M5 1500)]]]
theorem RB:FW n0=true:=by decide+kernel
theorem kQ:FY n0=(⟨[⟨L9,Oi,0⟩],[⟨Ny,M5,1⟩],[⟨1,0,1,8766,36525,8766,[.mk 9 0 Aa 0 [] [.mk 1 0 Oi 0 [] [],.mk 2 0 Oi 0 [] []]],[],.mk 15 0 M5 0 [] [.mk 2 0 Oi 0 [] [],.mk 1 1500 M5 0 [] []]⟩]⟩,[]):=by rfl
theorem tA:(lW n0).length≤2000:=by decide+kernel
end Go.Proofs.YthemnhjojaehhaaGreatDoor
namespace Go.Proofs.YthemnhjojaehhaaGreatDoor
open Go.Ad Go.Proofs Go.Tp
attribute [local irreducible] A8 AK BY Go.Ad.Pure BS
theorem Pure.arg{P:Program}{f:FuncId}{xs ys:List AV}{r:AV}(h:Go.Ad.Pure P f xs r)(hs:JC ys xs):Go.Ad.Pure P f ys r:=by
 unfold Go.Ad.Pure at h ⊢;obtain⟨h1,h2⟩:=hs.spec;exact⟨h.1,fun w I vs hg hb hc=>h.2 w I vs hg hb ⟨by rw[hc.1,←h1],fun j hj=>h2 j _ _ _ _ _ (hc.2 j (by rw[←h1];exact hj))⟩⟩
abbrev nmN(s:ByteArray):Nd:=.mk 12 s ⟨#[]⟩ 0 0 0 0 0 [] []
theorem bG(s:ByteArray)(hs:s.size≤9223372036854775807)(hv:FW (nmN s)=true):Pure Tryz.prog 67 [An s] (BL true):=by
 have h6:=KQ (nmN s) (uK.ok ⟨GY (n:=12) Zd,hs,Nat.zero_le _,Uu,Uu,Uu,Uu,Uu,RA,⟨fun p hp=>(by cases hp),by simp[Nd.kids]⟩⟩);rw[hv]at h6;have h6:=Pure.arg (ys:= [.a [AE 12,An s,An ⟨#[]⟩,AE 0,AE 0,AE 0,AE 0,AE 0,.v (.slice none 0 0),.v (.slice none 0 0),AE 0]]) h6 ⟨AR.agg ⟨.refl _,.refl _,.refl _,.refl _,.refl _,.refl _,.refl _,.refl _,AR.nil,AR.nil,NV _,trivial⟩,trivial⟩;refine PO 6 [.tmp 2] hT Tryz.func67 Tryz.ntmps67 fun B w0=>?_;repeat'(first|exact tT|refine WA h6 tT ?_ ?_|(refine PE ?_;clear hK K)|refine WR fun K hK=>?_|refine PT ?_|refine WC (fun h=>?_) fun h=>?_|exact ff|fail)
 all_goals done
theorem kV:Cz n0:=by
 simp[n0,OQ,Gr,Ew,Lw,Qt,mkBin,mkNum,mkRef,Cz,cJ,DA,Rl];decide
def eH:Ex:=.mk 2 0 Oi 0 [] []
def eK:Ex:=.mk 1 0 Oi 0 [] []
def eE:Ex:=.mk 1 1500 M5 0 [] []
def eW:Ex:=.mk 9 0 Aa 0 [] [eK,eH]
def eA:Ex:=.mk 15 0 M5 0 [] [eH,eE]
def a0:Ar:=⟨1,0,1,8766,36525,8766,[eW],[],eA⟩
def c0:Cd:=⟨[⟨L9,Oi,0⟩],[⟨Ny,M5,1⟩],[a0]⟩
theorem kW:FY n0=(c0,[]):=kQ
theorem ZM:M5.size=3∧ ∀i,i<3→lS (DC M5 i)=true:=Zd
theorem kX:Pure Tryz.prog 68 [An Oi] (BL true):=RC _ (.inr (.inl rfl))
theorem kY:Pure Tryz.prog 68 [An M5] (BL true):=RC _ (.inr (.inr ZM))
theorem wD:Pure Tryz.prog 68 [An Aa] (BL true):=RC _ (.inl rfl)
theorem qA:R8 c0 eH 2 1:=RD c0 eH 2 Zd rfl rfl rfl (.inr rfl) kX fun k=>kR c0 eH ⟨L9,Oi,0⟩ k rfl rfl rfl rfl rfl
theorem wE:R8 c0 eK 2 1:=RD c0 eK 2 Zd rfl rfl rfl (.inl rfl) kX fun k=>XJ c0 eK k rfl (.inl rfl) Zd
theorem wF:R8 c0 eE 2 1:=RD c0 eE 2 Zd rfl rfl rfl (.inl rfl) kY fun k=>XJ c0 eE k rfl (.inr rfl) Zd
theorem wG:R8 c0 eW 1 3:=XL c0 eW eK eH 1 Zd rfl rfl rfl wE qA rfl rfl rfl (.inl rfl) wD (p9 eW eK eH rfl rfl rfl (.inl ⟨rfl,rfl,rfl,Zd⟩))
theorem wH:R8 c0 eA 1 3:=XL c0 eA eH eE 1 Zd rfl rfl rfl qA wF rfl rfl rfl (.inr rfl) kY (p9 eA eH eE rfl rfl rfl (.inr ⟨rfl,rfl,Zd,rfl,Zd,bE _ ZM.1 ZM.2⟩))
theorem wI(k:Int):BS Tryz.prog T 34 [.p 1000 0,.a (DX a0)] (MG c0 k) (BL true) (MG c0 3):=
 tD c0 a0 eW ⟨Ny,M5,1⟩ k rfl rfl rfl Zd Zd Zd Zd Zd rfl rfl rfl
  (fun k=>XM c0 eW Aa 3 k rfl Zd Zd wG) (fun k=>XM c0 eA M5 3 k rfl Zd Zd wH)
theorem wJ:Pure Tryz.prog 12 [.a (Rk c0)] (BL true):=
 eR c0 a0 rfl rfl rfl rfl
  (XI _ ⟨L9,Oi,0⟩ rfl rfl Zd (bG _ Zd ZD) kX 0 0 Zd Zd)
  (XI _ ⟨Ny,M5,1⟩ rfl rfl Zd (bG _ Zd ZD) kY 1 4 Zd Zd) rfl rfl wI
def y9:ByteArray:=⟨#[102,97,99,116,32,104,111,117,114,115,32,58,32,109,105,110,117,116,101,115,59,10,108,105,110,101,32,98,97,115,105,99,32,58,32,69,85,82,32,101,97,114,110,59,10,97,114,116,105,99,108,101,32,49,32,102,111,114,32,98,97,115,105,99,32,114,97,110,107,32,49,32,102,114,111,109,32,50,48,50,52,45,48,49,45,48,49,32,107,110,111,119,110,32,50,48,50,52,45,48,49,45,48,49,32,123,10,32,32,119,104,101,110,32,48,32,109,105,110,32,60,32,104,111,117,114,115,59,10,32,32,97,109,111,117,110,116,32,104,111,117,114,115,32,97,116,32,69,85,82,32,49,53,46,48,48,59,10,125,10]⟩
theorem oh:sT n0=y9:=by
 show(⟨(Gq n0).toArray⟩:ByteArray)=_;have:Gq n0=y9.data.toList:=by decide+kernel
 rw[this]
set_option maxHeartbeats 8000000 in
theorem wK:Pure Tryz.prog 4 [] (BL true):=by
 have Bh:n0.size≤300:=by decide+kernel
 have RY:(Gq n0).length≤6000∧(lW n0).length≤2000:=⟨by decide+kernel,tA⟩;have h7:=XH n0 kV rfl RB Bh RY;have h8:=TS n0 kV rfl RB RY;have h9:=XA n0 kV rfl RB;have ez:=wJ;rw[kW]at h9;rw[oh]at h7 h8;have uI:(c0.BX.length:Int)=1:=rfl;generalize c0=c at*;generalize n0=n at*;have hw:y9=⟨#[102,97,99,116,32,104,111,117,114,115,32,58,32,109,105,110,117,116,101,115,59,10,108,105,110,101,32,98,97,115,105,99,32,58,32,69,85,82,32,101,97,114,110,59,10,97,114,116,105,99,108,101,32,49,32,102,111,114,32,98,97,115,105,99,32,114,97,110,107,32,49,32,102,114,111,109,32,50,48,50,52,45,48,49,45,48,49,32,107,110,111,119,110,32,50,48,50,52,45,48,49,45,48,49,32,123,10,32,32,119,104,101,110,32,48,32,109,105,110,32,60,32,104,111,117,114,115,59,10,32,32,97,109,111,117,110,116,32,104,111,117,114,115,32,97,116,32,69,85,82,32,49,53,46,48,48,59,10,125,10]⟩:=rfl;rw[hw]at h7 h8;refine PO 47 [.tmp 0] hT Tryz.func4 Tryz.ntmps4 fun B w0=>?_;repeat'(first|exact tT|refine WA (Y4 h7 h8 h9 ez) uI ?_ ?_|(refine PE ?_;clear hK K)|refine WR fun K hK=>?_|refine PT ?_|refine WC (fun h=>?_) fun h=>?_|fail)
 all_goals first|exact fun h=>h|exact congrArg (fun b=>AV.v (.bool b)) (Zde rfl)
end Go.Proofs.YthemnhjojaehhaaGreatDoor
