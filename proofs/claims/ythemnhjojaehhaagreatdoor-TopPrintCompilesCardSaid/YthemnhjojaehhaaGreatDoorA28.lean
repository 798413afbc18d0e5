/- Part of a proof. -/
import Derived.Test.YthemnhjojaehhaaGreatDoorA27
set_option linter.all false
namespace Go.Tp
open Go.Ad
theorem GX{t:Tk}{r:List Tk}{s:ByteArray}(h:t.text≠s):A4 s (t::r)=false:=Zdf h
theorem nO{s k:ByteArray}(h:Hj s=false)(hk:Hj k=true):s≠k:=fun e=>by rw[e,hk]at h;cases h
theorem jL{l:List UInt8}{k:List UInt8}(h:l.head?≠k.head?):bA l≠bA k:=fun e=>h (by
 have:=congrArg bl e;rw[OM,OM]at this;rw[this])
theorem dA(n:Nat): ∃b r,CL n=b::r∧aD b:=by
 cases h:CL n with
 |nil=>exact absurd h (Lq n)
 |cons b r=>exact⟨b,r,rfl,Sq n b (by rw[h];simp)⟩
theorem aS(n:Nat){k:List UInt8}(hk: ∀c∈k.head?,¬aD c):bA (CL n)≠bA k:=by
 obtain⟨b,r,h,hb⟩:=dA n;refine jL fun e=>?_;rw[h]at e;exact hk b (by rw[←e];rfl) hb
theorem n110: ∀c∈([110,111,116]:List UInt8).head?,¬aD c:=fun c hc=>by
 simp at hc;subst hc;unfold aD;decide
theorem Yj{e:Nd}(h1:e.kind≠16)(h2:e.kind≠15):D1 e=6:=by unfold D1;rw[if_neg h1,if_neg h2]
theorem PJ{e:Nd}{l:List Sp}(h:HM e=l):Dr e=l.map Sp.tk:=by unfold Dr;rw[h]
theorem HG(e:Nd):Dr e=(LI e (e.kids.map HM)).map Sp.tk:=by rw[Dr,Qe]
theorem dC{s:ByteArray}(h:C3 s=true): ∃b r,bl s=b::r∧65≤b.toNat∧b.toNat≤90:=by
 have:=Yf h;unfold Wd at this;simp only[Zba,Zdt]at this;cases hb:bl s with
 |nil=>rw[hb]at this;simp at this
 |cons b r=>
  rw[hb]at this;simp only[List.all_cons,Zba,Yd,Zdt]at this;exact⟨b,r,rfl,this.2.1⟩
theorem aT{s:ByteArray}(h:C3 s=true):s≠Aa∧s≠AZ∧s≠BH∧s≠Ho:=by
 obtain⟨b,r,hb,h1⟩:=dC h
 have key: ∀k:ByteArray,(∀c∈(bl k).head?,97≤c.toNat)→s≠k:=fun k hk e=>by
  subst e;have:=hk b (by rw[hb];rfl);omega
 exact⟨key _ Zd,key _ Zd,key _ Zd,key _ Zd⟩
theorem rv{e:Nd}(h:BC e=true)(k11:e.kind=11):Rt e:=by
 rw[EJ]at h;unfold FA at h;rw[if_pos k11]at h;simp only[Zba,Zdt,Bool.or_eq_true,Bool.not_eq_true',decide_eq_false_iff_not]at h;obtain⟨⟨⟨⟨hu,wa⟩,RI⟩,ht1⟩,hk,hb⟩:=h
 have he:e=mkNum e.u e.n:=by
  have:=C8 hb;rw[k11,Fx hk]at this;exact this
 have U5:HM e=Na e:=by rw[Qe];unfold LI;rw[if_pos k11]
 have hl:=Yj (e:=e) Zo Zo;by_cases h1:e.u=Aa
 ·have ht:Dr e= [⟨1,if decide (e.n=1)then Qi else KT⟩]:=by
   rw[PJ U5];unfold Na;rw[if_pos h1];by_cases hn:e.n=1<;>simp[hn,Sp.tk,Qi,KT]
  refine HF hl (fun r _=>?_) fun r=>?_
  ·rw[ht];have:=CU.pc (b:=decide (e.n=1)) (r:=r)
   have hv:(if decide (e.n=1)=true then(1:Int)else 0)=e.n:=by
    by_cases hn:e.n=1
    ·rw[if_pos (Zde hn),hn]
    ·have h0:e.n=0:=by rcases ht1 with h|h;exact absurd h1 h;omega
     rw[if_neg (by simpa using hn),h0]
   have e2:mkNum Aa (if decide (e.n=1)=true then 1 else 0)=e:=by rw[hv,←h1,←he]
   rw[e2]at this;exact this
  ·rw[ht];refine GX ?_;simp only;split<;>decide+kernel
 by_cases h2:e.u=AZ
 ·have ht:Dr e= [⟨3,bA (CL e.n.toNat)⟩]:=by
   rw[PJ U5];unfold Na;rw[if_neg h1,if_pos h2];rfl
  refine HF hl (fun r hr=>?_) fun r=>?_
  ·rw[ht];have:=CU.num (t:=⟨3,bA (CL e.n.toNat)⟩) (n:=e.n) (by rw[Nj Zo];congr 1;omega) hr;rw[←h2,←he]at this;exact this
  ·rw[ht];exact GX (aS _ n110)
 by_cases h3:e.u=BH
 ·have ht:Dr e= [⟨3,bA (CL e.n.toNat)⟩,⟨1,Og⟩]:=by
   rw[PJ U5];unfold Na;rw[if_neg h1,if_neg h2,if_pos h3];rfl
  refine HF hl (fun r hr=>?_) fun r=>?_
  ·rw[ht];have:=CU.min (t:=⟨3,bA (CL e.n.toNat)⟩) (u:=⟨1,Og⟩) (r:=r) (n:=e.n) (by rw[Nj Zo];congr 1;omega) rfl;rw[←h3,←he]at this;exact this
  ·rw[ht];exact GX (aS _ n110)
 ·have hc:C3 e.u=true:=by rcases Hr hu with h|h|h|h;exact absurd h h1;exact absurd h h2;exact absurd h h3;exact h
  have ht:Dr e= [⟨2,e.u⟩,⟨4,bA (CZ e.n.natAbs)⟩]:=by
   rw[PJ U5];unfold Na;rw[if_neg h1,if_neg h2,if_neg h3]
   simp[Sp.tk,Jx]
  refine HF hl (fun r hr=>?_) fun r=>?_
  ·rw[ht];have:=CU.cur (t:=⟨2,e.u⟩) (u:=⟨4,bA (CZ e.n.natAbs)⟩) (r:=r) (n:=e.n) rfl (by rw[Kz Zo];congr 1;omega);rw[←he]at this;exact this
  ·rw[ht];exact GX (aT hc).2.2.2
theorem ry{k:Nd}(hk:Rt k){l:Nat}(hl:3≤l)(r:List Tk):A4 Ho ((Mm k (HM k) l).map Sp.tk++r)=false:=by
 unfold Mm;by_cases h:(l:Int)≤D1 k
 ·rw[if_pos h];exact hk.c Zo r
 ·rw[if_neg h];exact GX ZD
theorem rz(e:Nd)(h:BC e=true):Rt e:=by
 induction e using Nd.ind with
 |h e ih=>
  obtain⟨hk,F4,XZ,Xm⟩:=JA h;by_cases k11:e.kind=11
  ·exact rv h k11
  have h0:=h;rw[EJ]at h;unfold FA at h;rw[if_neg k11]at h;by_cases k12:e.kind=12
  ·rw[if_pos k12]at h;simp only[Zba,Zdt]at h
   have he:e=mkRef e.name:=by
    have:=C8 h.2;rw[k12,Fx h.1.2]at this;exact this
   have ht:Dr e= [⟨1,e.name⟩]:=by
    rw[HG];unfold LI;rw[if_neg k11,if_pos (.inl k12)]
    simp[Sp.tk,Jx]
   have Dt:=(Mr h.1.1).2;refine HF (Yj Zo Zo) (fun r hr=>?_) fun r=>?_
   ·rw[ht];have:=CU.name (t:=⟨1,e.name⟩) (r:=r) (by unfold D2;simp[Dt]);rw[←he]at this;exact this
   ·rw[ht];exact GX (nO Dt ZD)
  rw[if_neg k12]at h;by_cases k13:e.kind=13
  ·rw[if_pos k13]at h;unfold BI at h;simp only[Zba,Zdt]at h
   have he:e=aG e.n:=by
    have:=C8 h.2;rw[k13,Fx h.1.2]at this;exact this
   have ht:Dr e= [⟨1,Yb⟩,⟨3,bA (CL e.n.toNat)⟩]:=by
    rw[HG];unfold LI;rw[if_neg k11,if_neg Zo,if_pos k13]
    rfl
   refine HF (Yj Zo Zo) (fun r hr=>?_) fun r=>?_
   ·rw[ht];have:=CU.va (t:=⟨3,bA (CL e.n.toNat)⟩) (r:=r) (n:=e.n) (by rw[GM Zo Zo];congr 1;omega);rw[←he]at this;exact this
   ·rw[ht];exact GX ZD
  rw[if_neg k13]at h;by_cases k14:e.kind=14
  ·rw[if_pos k14]at h;simp only[Zba,Zdt]at h
   have he:e=Ir e.name:=by
    have:=C8 h.2;rw[k14,Fx h.1.2]at this;exact this
   have ht:Dr e= [⟨1,e.name⟩]:=by
    rw[HG];unfold LI;rw[if_neg k11,if_pos (.inr k14)]
    simp[Sp.tk,Jx]
   have hd:=h.1.1;refine HF (Yj Zo Zo) (fun r hr=>?_) fun r=>?_
   ·rw[ht];have:=CU.date (s:=e.name) (r:=r) hd;rw[←he]at this;exact this
   ·rw[ht];refine GX ?_;unfold Eu at hd;simp only[Bool.or_eq_true,Zdt]at hd;rcases hd with ((hd|hd)|hd)|hd<;>rw[hd]<;>decide+kernel
  rw[if_neg k14]at h
  have kid: ∀i,i<e.kids.length→Rt (e.kids.getD i default)∧(e.kids.map HM).getD i []=HM (e.kids.getD i default):=fun i hi=>by
   have hm:e.kids.getD i default∈e.kids:=by simp[Zlg,hi]
   exact⟨ih _ hm (F4 _ hm),by simp[Zlg,hi]⟩
  by_cases k15:e.kind=15
  ·rw[if_pos k15]at h;simp only[Zba,Zdt]at h;obtain⟨lZ,zr⟩:=kid 0 Zo
   have he:e=mkNot (e.kids.getD 0 default):=by
    have:=C8 h.1.2
    match EF:e.kids,h.1.1 with
    | [x],_=>rw[k15,EF]at this;exact this
   have ht:Dr e=⟨1,Ho⟩::(Mm (e.kids.getD 0 default) (HM (e.kids.getD 0 default)) (2:Nat)).map Sp.tk:=by
    rw[HG];unfold LI;rw[if_neg k11,if_neg Zo,if_neg k13,if_pos k15]
    rw[List.map_cons,NZ,zr];rfl
   have hl:D1 e=2:=by unfold D1;rw[if_neg Zo,if_pos k15]
   have ha: ∀r,Ek 2 r→CU 2 (Dr e++r) e r:=fun r hr=>by
    rw[ht];have:=CU.not (k:=1) (aQ lZ (l:=2) Zo hr).1;rw[←he]at this;exact this
   have haa: ∀l:Nat,l≤2→ ∀r,Ek l r→CU l (Dr e++r) e r:=fun l C0 r hr=>
    Ms C0 Zo (fun _ h=>by omega) (ha r (hr.le C0)) hr
   exact⟨fun l _ h2 r hr=>haa l Zo r hr,fun l h5 LK h2 r hr=>⟨0,KY Zo (fun h=>absurd h LK) (haa (l+1) Zo r hr),fun _=>rfl⟩,fun h=>by omega⟩
  rw[if_neg k15]at h;by_cases k16:e.kind=16
  ·rw[if_pos k16]at h;simp only[Zba,Zdt]at h;obtain⟨hb,⟨C0,_⟩,ep⟩:=h
   have E4:IQ e.name=true∨e.name=QU:=by
    split at ep
    ·exact .inr ‹_›
    ·simp only[Zba]at ep;exact .inl ep.1
   obtain⟨L,oL,⟨oL5,oL2⟩,⟨ogt,oge⟩,⟨opl,opr⟩,ohd,odiv⟩:=vd E4;obtain⟨lZ,zr⟩:=kid 0 Zo;obtain⟨VF,TU⟩:=kid 1 Zo
   have he:e=mkBin e.name (e.kids.getD 0 default) (e.kids.getD 1 default):=by
    have:=C8 hb
    match EF:e.kids,C0 with
    | [x,y],_=>rw[k16,EF]at this;exact this
   have hlv:D1 e=L:=by unfold D1;rw[if_pos k16,oL]
   have ht: ∀r,Dr e++r=(Mm (e.kids.getD 0 default) (HM (e.kids.getD 0 default)) (if L=3 then 4 else L:Nat)).map Sp.tk++(⟨mw e.name,e.name⟩::((Mm (e.kids.getD 1 default) (HM (e.kids.getD 1 default)) (L+1:Nat)).map Sp.tk++r)):=fun r=>by
    rw[HG];unfold LI;rw[if_neg k11,if_neg Zo,if_neg k13,if_neg k15,if_pos k16]
    rw[List.map_append,List.map_cons,NZ,zr,TU,hlv,opl,opr];simp[Sp.tk,Jx]
   have fT:3≤L→ ∀r,A4 Ho (Dr e++r)=false:=fun h3 r=>by
    rw[ht r];exact ry lZ (l:=if L=3 then 4 else L) (by split<;>omega) _
   have SC: ∀r,Ek (L+1) r→ ∃n,Yi L n (Dr e++r) e r:=fun r hr=>by
    rw[ht r];generalize tj:(⟨mw e.name,e.name⟩::((Mm (e.kids.getD 1 default) (HM (e.kids.getD 1 default)) (L+1:Nat)).map Sp.tk++r):List Tk)=r0;obtain⟨o1,o2⟩:Nc L r0=some e.name∧Ek (L+1) r0:=by rw[←tj];exact ohd _
    have left: ∃n,Yi L n ((Mm (e.kids.getD 0 default) (HM (e.kids.getD 0 default)) (if L=3 then 4 else L:Nat)).map Sp.tk++r0) (e.kids.getD 0 default) r0∧(L=3→n=0):=by
     by_cases zu:L=3
     ·subst zu;exact⟨0,KY Zo (fun h=>by omega) (aQ lZ (l:=4) Zo o2).1,fun _=>rfl⟩
     ·rw[if_neg zu];by_cases hle:((L:Nat):Int)≤D1 (e.kids.getD 0 default)
      ·obtain⟨n,h1,_⟩:=lZ.b L oL5 oL2 hle r0 o2;refine⟨n,?_,fun h=>absurd h zu⟩;unfold Mm;rw[if_pos hle];exact h1
      ·refine⟨0,KY Zo (fun h=>absurd h oL2) ?_,fun _=>rfl⟩;have:=(aQ lZ (l:=L+1) Zo o2).1;unfold Mm at this ⊢;rw[if_neg hle];rw[if_neg (by push_cast;omega)]at this;exact this
    obtain⟨n,hl,hn⟩:=left;rw[←tj]at hl o1;refine⟨n+1,?_⟩;rw[←tj];conv=>arg 4;rw[he]
    refine nN hl o1 ogt oge hn (fun hd=>?_) fun hd=>(aQ VF Zo hr).1;have hL:=odiv hd;have la:e.name=QU:=hd;rw[if_pos la]at ep;simp only[Zba]at ep;have zv:=ep.2;unfold Oc BI at zv;simp only[Zba,Zdt]at zv;obtain⟨⟨q1,q2⟩,q3,q4⟩:=zv;generalize hx:e.kids.getD 1 default=x at*
    have eu:BC x=true:=F4 x (by
     have:e.kids.getD 1 default∈e.kids:=by simp[Zlg,C0]
     rw[hx]at this;exact this)
    have hxx:x=mkNum AZ x.n:=by
     rw[EJ]at eu;unfold FA at eu;rw[if_pos q1]at eu;simp only[Zba,Zdt]at eu;have:=C8 eu.2.2;rw[q1,q2,Fx eu.2.1]at this;exact this
    have hsx:HM x= [⟨[],3,CL x.n.toNat⟩]:=by
     rw[Qe];unfold LI Na;rw[if_pos q1,if_neg (by rw[q2];decide+kernel),if_pos q2]
    have hlx:D1 x=6:=Yj Zo Zo;refine⟨⟨3,bA (CL x.n.toNat)⟩,x.n,?_,?_,hxx⟩
    ·rw[hsx];unfold Mm;rw[if_pos (by rw[hlx];push_cast;omega)];rfl
    ·rw[GM Zo Zo];congr 1;omega
   have haL: ∀r,Ek L r→CU L (Dr e++r) e r:=fun r hr=>by
    obtain⟨n,hp⟩:=SC r (hr.le Zo);exact nM hp (.inr (hr.2 L (Nat.le_refl _) Zo))
   have ha: ∀l:Nat,l≤L→ ∀r,Ek l r→CU l (Dr e++r) e r:=fun l hl r hr=>
    Ms hl Zo (fun _ h=>fT Zo r) (haL r (hr.le hl)) hr
   refine⟨fun l _ h2 r hr=>ha l Zo r hr,fun l h5 LK h2 r hr=>?_,fun h=>fT Zo⟩;by_cases hlL:l=L
   ·subst hlL;obtain⟨n,hp⟩:=SC r hr;exact⟨n,hp,fun h=>by omega⟩
   ·exact⟨0,KY Zo (fun h=>absurd h LK) (ha (l+1) Zo r hr),fun _=>rfl⟩
  rw[if_neg k16]at h;by_cases k17:e.kind=17
  ·rw[if_pos k17]at h;simp only[Zba,Zdt,Bool.or_eq_true]at h;obtain⟨⟨⟨Ph,hb⟩,C0⟩,_⟩:=h
   match EF:e.kids,C0 with
   |x::xs,C0=>
   have he:e=Nf e.name (x::xs):=by
    have:=C8 hb;rw[k17,EF]at this;exact this
   have ht: ∀r,Dr e++r=⟨1,e.name⟩::⟨6,E0⟩::(Dr x++(Mt xs++(⟨6,D3⟩::r))):=fun r=>by
    rw[HG];unfold LI;rw[if_neg k11,if_neg Zo,if_neg k13,if_neg k15,if_neg k16,if_pos k17,EF]
    have:=UT x xs;rw[List.map_append,List.map_cons,List.map_cons,this];simp[Sp.tk,Jx]
   have Ae: ∀i r,Ek 0 (Mt (xs.drop i)++(⟨6,D3⟩::r)):=fun i r=>by
    by_cases hi:i<xs.length
    ·rw[PI hi];exact PH (.inr (.inl rfl))
    ·rw[List.drop_eq_nil_of_le Zo];exact PH (.inl rfl)
   have VK: ∀y,y∈e.kids→Rt y:=fun y hy=>ih y hy (F4 y hy);refine HF (Yj Zo Zo) (fun r hr=>?_) fun r=>?_
   ·rw[ht r]
    have:=CU.call (s:=e.name) (ts:=Dr x++(Mt xs++(⟨6,D3⟩::r))) (r:=r) (e:=x) (n:=xs.length) (at_:=fun i=>Mt (xs.drop i)++(⟨6,D3⟩::r)) (x:=fun i=>xs.getD i default) (t:=⟨6,D3⟩) Ph
     ((VK x (by rw[EF];simp)).a 0 Zo (JG x).1 _ (Ae 0 r)) (by simp at C0;omega) (fun i hi=>by simp only[PI hi];rfl)
     (fun i hi=>by
      simp only[PI hi]
      have hm:xs.getD i default∈e.kids:=by
       rw[EF];refine List.mem_cons_of_mem _ ?_;simp[Zlg,hi]
      have:=(VK _ hm).a 0 Zo (JG _).1 _ (Ae (i+1) r);rw[List.cons_append,List.tail_cons,List.append_assoc];exact this) (by simp[Mt]) rfl
    rw[S5,←he]at this;exact this
   ·rw[ht r];refine GX ?_;rcases Ph with h|h<;>rw[h]<;>decide+kernel
  rw[if_neg k17]at h;have k18:e.kind=18:=Zo
  rw[if_pos k18]at h;simp only[Zba,Zdt]at h;obtain⟨⟨⟨hb,ZU⟩,Iv⟩,_⟩:=h
  match EF:e.kids,Iv with
  | [x],_=>
  have he:e=PC e.den e.ps x:=by
   have:=C8 hb;rw[k18,EF]at this;exact this
  have hx:=ih x (by rw[EF];simp) (F4 x (by rw[EF];simp));refine HF (Yj Zo Zo) (fun r hr=>?_) fun r=>?_
  ·obtain⟨p0,pr,Xp,ud⟩:=ru ZU ⟨6,D3⟩ r rfl
   have ht:Dr e++r=⟨1,FB⟩::⟨6,E0⟩::(Dr x++(⟨6,Gi⟩::((aE e.den p0).map Sp.tk++(Rx e.den pr++⟨6,D3⟩::r)))):=by
    rw[HG];unfold LI;rw[if_neg k11,if_neg Zo,if_neg k13,if_neg k15,if_neg k16,if_neg k17,if_pos k18,EF,Xp]
    simp only[Qd,List.map_append,List.map_cons,List.cons_append,aR];simp[Sp.tk,Dr]
   rw[ht];obtain⟨hd,_⟩:=Ky ZU;have:=CU.table (t:=⟨6,Gi⟩) (hx.a 0 Zo (JG x).1 _ (PH (.inr (.inr rfl)))) rfl ud rfl hd fun p hp=>(PG ZU p hp).2.2;rw[←he]at this;exact this
  ·rw[HG];unfold LI;rw[if_neg k11,if_neg Zo,if_neg k13,if_neg k15,if_neg k16,if_neg k17,if_pos k18]
   exact GX ZD
end Go.Tp
namespace Go.Tp
open Go.Ad Go.Proofs.YthemnhjojaehhaaGreatDoor
def dv(l:List UInt8)(i:Nat):Int:=((l.getD i 0).toNat:Int) - 48
instance (y m d:Int):Decidable (Qm y m d):=by unfold Qm;exact inferInstance
def ON(l:List UInt8):Int:=((dv l 0*10+dv l 1)*10+dv l 2)*10+dv l 3
def Wh(l:List UInt8):Int:=dv l 5*10+dv l 6
def dD(l:List UInt8):Int:=dv l 8*10+dv l 9
def KZ(l:List UInt8):Option Int:=if(l.length=10∧DK l=true)∧Qm (ON l) (Wh l) (dD l)then some (cr (ON l) (Wh l) (dD l))else none
def Hs(least:Int)(t:Tk):Option Int:=if t.kind=5 then(match KZ (bl t.text)with
 |some d=>if least≤d then some d else none
 |none=>none)else none
def D4(s:ByteArray):Int:=if s=bA [101,97,114,110]then 1 else if s=bA [100,101,100,117,99,116]then 2 else if s=bA [102,108,111,111,114]then 3 else if s=bA [105,110,102,111]then 4 else 0
abbrev S6:ByteArray:=bA [102,97,99,116]
abbrev Qr:ByteArray:=bA [108,105,110,101]
abbrev Gj:ByteArray:=bA [97,114,116,105,99,108,101]
abbrev r6:ByteArray:=bA [102,111,114]
abbrev ph:ByteArray:=bA [114,97,110,107]
abbrev pj:ByteArray:=bA [102,114,111,109]
abbrev r7:ByteArray:=bA [116,111]
abbrev Qs:ByteArray:=bA [107,110,111,119,110]
abbrev aU:ByteArray:=bA [119,104,101,110]
abbrev Jj:ByteArray:=bA [117,110,108,101,115,115]
abbrev K0:ByteArray:=bA [97,109,111,117,110,116]
abbrev Ka:ByteArray:=bA [123]
abbrev Nk:ByteArray:=bA [125]
def Gr(k:Int)(s u:ByteArray)(n:Int):Nd:=.mk k s u n 0 0 0 0 [] []
def Lw(n fr to known:Int):Nd:=.mk 5 ⟨#[]⟩ ⟨#[]⟩ n fr to known 0 [] []
def Qt(k:Int)(es:List Nd):Nd:=.mk k ⟨#[]⟩ ⟨#[]⟩ 0 0 0 0 0 [] es
def Ew(n:Int)(s:ByteArray)(h:Nd)(cs:List Nd):Nd:=.mk 4 s ⟨#[]⟩ n 0 0 0 0 [] (h::cs)
def Wi(k:Int):ByteArray:=if k=7 then Jj else if k=8 then K0 else aU
inductive IY:List Tk→Nd→List Tk→Prop
 |ex {k:Int} {ts r:List Tk} {e:Nd} {kd:Int} {t:Tk} (hk:kd=6∨kd=8) (h:CU 0 ts e (t::r)) (ht:t.text=Gi):IY (⟨k,Wi kd⟩::ts) (Qt kd [e]) r
 |un {k:Int} {n:Nat} {at_:Nat→List Tk} {x:Nat→Int} {t u:Tk} {m:Int} {r:List Tk} (h0:DU 1 t=some m) (hc: ∀i,i<n→A4 Cp (at_ i)=true∧ ∃v,(at_ i).tail=v::at_ (i+1)∧DU 1 v=some (x i)) (CB:at_ n=u::r) (hu:u.text=Gi):
   IY (⟨k,Jj⟩::t::at_ 0) (Qt 7 (mkNum AZ m::(List.range n).map fun i=>mkNum AZ (x i))) r
inductive OO:List Tk→Nd→List Tk→Prop
 |to {k1 k2 k3 k4:Int} {a b c d:Tk} {n fr to kn:Int} {r:List Tk} (ha:DU 0 a=some n) (hb:Hs 0 b=some fr) (hc:Hs (fr+1) c=some to) (hd:Hs 0 d=some kn):OO (⟨k1,ph⟩::a::⟨k2,pj⟩::b::⟨k3,r7⟩::c::⟨k4,Qs⟩::d::r) (Lw n fr to kn) r
 |open_ {k1 k2 k4:Int} {a b d:Tk} {n fr kn:Int} {r:List Tk} (ha:DU 0 a=some n) (hb:Hs 0 b=some fr) (hd:Hs 0 d=some kn):OO (⟨k1,ph⟩::a::⟨k2,pj⟩::b::⟨k4,Qs⟩::d::r) (Lw n fr 36525 kn) r
def Lx(l:List Nd)(k:Int):Nat:=l.countP fun x=>decide (x.kind=k)
inductive LY:List Tk→Nd→List Tk→Prop
 |fact {k k2 k3:Int} {t u:Tk} {r:List Tk} (ht:D2 t=true) (hu:IW u=true):LY (⟨k,S6⟩::t::⟨k2,Lt⟩::u::⟨k3,Gi⟩::r) (Gr 2 t.text u.text 0) r
 |line {k k2 k3:Int} {t u v:Tk} {r:List Tk} (ht:D2 t=true) (hu:IW u=true) (hv:0<D4 v.text):LY (⟨k,Qr⟩::t::⟨k2,Lt⟩::u::v::⟨k3,Gi⟩::r) (Gr 3 t.text u.text (D4 v.text)) r
 |va {k k2 k3 k4:Int} {a t:Tk} {n:Int} {ts r:List Tk} {h:Nd} {cs:List Nd} {at_:Nat→List Tk} (ha:DU 1 a=some n) (ht:D2 t=true) (hh:OO ts h (⟨k3,Ka⟩::at_ 0)) (hc: ∀i,i<cs.length→IY (at_ i) (cs.getD i default) (at_ (i+1)))
   (CB:at_ cs.length=⟨k4,Nk⟩::r) (h7:Lx cs 7≤1) (h8:Lx cs 8=1):LY (⟨k,Gj⟩::a::⟨k2,r6⟩::t::ts) (Ew n t.text h cs) r
def ve(ts:List Tk)(xs:List Nd):Prop:= ∃at_:Nat→List Tk,at_ 0=ts∧(∀i,i<xs.length→at_ i≠ []∧LY (at_ i) (xs.getD i default) (at_ (i+1)))∧at_ xs.length= []
theorem dE{d:Int}(h0:0≤d)(h1:d≤36524):KZ (DY d)=some d:=by
 obtain⟨Ae,hv⟩:=KV h0 h1;obtain⟨⟨a1,a2⟩,⟨b1,b2⟩,c1,c2⟩:=Ae;have hle:=(IX (B9 d).1 ((B9 d).2.1 - 1).toNat Zo).2;have hd:=S0 h0 h1
 have hy:ON (DY d)=(B9 d).1∧Wh (DY d)=(B9 d).2.1∧dD (DY d)=(B9 d).2.2:=by
  rw[UQ h0 h1];generalize (B9 d).1=y at*;generalize (B9 d).2.1=m at*;generalize (B9 d).2.2=dd at*;have e: ∀(n:Nat),n<10→((dB n).toNat:Int) - 48=n:=fun n hn=>by rw[toNat_ofNat hn];omega
  have d0:dv (Hq y.toNat m.toNat dd.toNat) 0=((y.toNat / 1000:Nat):Int):=e _ Zo;have d1:dv (Hq y.toNat m.toNat dd.toNat) 1=((y.toNat / 100%10:Nat):Int):=e _ Zo;have d2:dv (Hq y.toNat m.toNat dd.toNat) 2=((y.toNat / 10%10:Nat):Int):=e _ Zo;have d3:dv (Hq y.toNat m.toNat dd.toNat) 3=((y.toNat%10:Nat):Int):=e _ Zo;have d5:dv (Hq y.toNat m.toNat dd.toNat) 5=((m.toNat / 10:Nat):Int):=e _ Zo;have d6:dv (Hq y.toNat m.toNat dd.toNat) 6=((m.toNat%10:Nat):Int):=e _ Zo;have d8:dv (Hq y.toNat m.toNat dd.toNat) 8=((dd.toNat / 10:Nat):Int):=e _ Zo;have d9:dv (Hq y.toNat m.toNat dd.toNat) 9=((dd.toNat%10:Nat):Int):=e _ Zo;unfold ON Wh dD;rw[d0,d1,d2,d3,d5,d6,d8,d9];refine⟨Zo,Zo,Zo⟩
 unfold KZ;rw[hy.1,hy.2.1,hy.2.2,if_pos ⟨hd,⟨a1,a2⟩,⟨b1,b2⟩,c1,c2⟩,hv]
theorem Ht{d least:Int}(h0:0≤d)(h1:d≤36524)(hl:least≤d):Hs least ⟨5,bA (DY d)⟩=some d:=by
 unfold Hs;rw[if_pos rfl,OM,dE h0 h1];simp only;rw[if_pos hl]
theorem nP{n:Int}(h:1≤n∧n≤4):D4 (bA (Hn n))=n:=by
 have:n=1∨n=2∨n=3∨n=4:=Zo
 rcases this with rfl|rfl|rfl|rfl<;>decide+kernel
theorem UU{s:ByteArray}(h:BK s=true):D2 ⟨1,bA (bl s)⟩=true:=by
 unfold D2;rw[Jx];simp[(Mr h).2]
theorem aV{s:ByteArray}(h:B0 s=true):IW ⟨Su s,bA (bl s)⟩=true:=by
 unfold IW Su;rw[Jx];rcases Hr h with h|h|h|h
 ·simp[h]
 ·simp[h]
 ·simp[h]
 ·obtain⟨h1,h2,h3,_⟩:=aT h;simp[h1,h2,h3]
theorem num_inv{x:Nd}(h:BC x=true)(hq:Oc x=true):x=mkNum AZ x.n∧Dr x= [⟨3,bA (CL x.n.toNat)⟩]∧DU 1 ⟨3,bA (CL x.n.toNat)⟩=some x.n:=by
 unfold Oc BI at hq;simp only[Zba,Zdt]at hq;obtain⟨⟨q1,q2⟩,q3,q4⟩:=hq;refine⟨?_,?_,?_⟩
 ·rw[EJ]at h;unfold FA at h;rw[if_pos q1]at h;simp only[Zba,Zdt]at h;have:=C8 h.2.2;rw[q1,q2,Fx h.2.1]at this;exact this
 ·rw[HG];unfold LI Na;rw[if_pos q1,if_neg (by rw[q2];decide+kernel),if_pos q2];rfl
 ·rw[GM Zo Zo];congr 1;omega
theorem dG{c:Nd}(h:Da c=true)(hk:B8 c=true)(r:List Tk):IY ((Co c).map Sp.tk++r) c r:=by
 unfold Da at h;unfold B8 at hk;simp only[Zba,Zdt]at h hk;obtain⟨hb,h⟩:=h
 have wz:(Co c).map Sp.tk++r=⟨1,Wi c.kind⟩::((JD (c.kids.map HM)).map Sp.tk++(⟨6,Gi⟩::r)):=by
  unfold Co Wi;rw[List.map_append,List.map_cons,NZ];by_cases h7:c.kind=7
  ·rw[if_pos h7,if_pos h7];simp[Sp.tk]
  rw[if_neg h7,if_neg h7];by_cases h8:c.kind=8
  ·rw[if_pos h8,if_pos h8];simp[Sp.tk]
  ·rw[if_neg h8,if_neg h8];simp[Sp.tk]
 rw[wz];by_cases k7:c.kind=7
 ·rw[if_pos k7]at h;simp only[Zba,Zdt,List.all_eq_true]at h
  match EF:c.kids,h.1 with
  |x::xs,_=>
  have BU: ∀y∈x::xs,BC y=true∧Oc y=true:=fun y hy=>h.2 y (by rw[EF];exact hy)
  have hc:c=Qt 7 (x::xs):=by
   have:=C8 hb;rw[k7,EF]at this;exact this
  obtain⟨RV,RO,fW⟩:=num_inv (BU x (by simp)).1 (BU x (by simp)).2;rw[UT,RO,k7]
  have VK: ∀i,i<xs.length→xs.getD i default=mkNum AZ (xs.getD i default).n∧Dr (xs.getD i default)= [⟨3,bA (CL (xs.getD i default).n.toNat)⟩]∧DU 1 ⟨3,bA (CL (xs.getD i default).n.toNat)⟩=some (xs.getD i default).n:=fun i hi=>by
   have hm:xs.getD i default∈x::xs:=List.mem_cons_of_mem _ (by simp[Zlg,hi]);exact num_inv (BU _ hm).1 (BU _ hm).2
  have:=IY.un (k:=1) (n:=xs.length) (at_:=fun i=>Mt (xs.drop i)++(⟨6,Gi⟩::r)) (x:=fun i=>(xs.getD i default).n) (t:=⟨3,bA (CL x.n.toNat)⟩) (u:=⟨6,Gi⟩) (m:=x.n) (r:=r) fW
   (fun i hi=>by
    simp only[PI hi];refine⟨rfl,⟨3,bA (CL (xs.getD i default).n.toNat)⟩,?_,(VK i hi).2.2⟩;rw[(VK i hi).2.1];rfl) (by simp[Mt]) rfl
  have e2:(List.range xs.length).map (fun i=>mkNum AZ (xs.getD i default).n)=xs:=by
   have:(List.range xs.length).map (fun i=>mkNum AZ (xs.getD i default).n)=(List.range xs.length).map (fun i=>xs.getD i default):=List.map_congr_left fun i hi=>((VK i (List.mem_range.1 hi)).1).symm;rw[this,S5]
  rw[e2,←RV,←hc]at this;exact this
 ·rw[if_neg k7]at h;simp only[Zba,Zdt]at h
  match EF:c.kids,h.1 with
  | [x],_=>
  have hx:BC x=true:=by have:=h.2;rw[EF]at this;exact this
  have hc:c=Qt c.kind [x]:=by
   have:=C8 hb;rw[EF]at this;exact this
  have:=IY.ex (k:=1) (kd:=c.kind) (t:=⟨6,Gi⟩) (r:=r) Zo ((rz x hx).a 0 Zo (JG x).1 _ (PH (.inr (.inr rfl)))) rfl;rw[←hc]at this;exact this
def Ry(l:List Nd):List Tk:=(l.map fun c=>(Co c).map Sp.tk).flatten
theorem nQ(l:List Nd):((l.map fun c=>nl (Co c)).flatten).map Sp.tk=Ry l:=by
 unfold Ry;induction l with
 |nil=>rfl
 |cons c r ih=>
  simp only[List.map_cons,List.flatten_cons,List.map_append,ih];rw[show nl (Co c)=WJ [10] (Co c)from rfl,NZ]
theorem Mu{h:Nd}(hh:GB h=true):(0≤h.n∧h.n≤1000000)∧(0≤h.fr∧h.fr≤36524)∧(h.fr<h.to∧h.to≤36525)∧(0≤h.known∧h.known≤36524)∧h=Lw h.n h.fr h.to h.known:=by
 unfold GB Fs at hh;simp only[Zba,Zdt]at hh;obtain⟨⟨⟨⟨h1,h2⟩,h3⟩,h4⟩,⟨⟨⟨⟨h5,h6⟩,h7⟩,h8⟩,h9,VJ⟩,hb⟩:=hh;refine⟨⟨h2,h3⟩,⟨h5,h6⟩,⟨h7,h8⟩,⟨h9,VJ⟩,?_⟩;have:=C8 hb;rw[h1,Fx h4]at this;exact this
theorem PK{e:Nd}(h:DJ e=true)(k4:e.kind=4):(1≤e.n∧e.n≤1000000)∧BK e.name=true∧(∃hd cs,e.kids=hd::cs∧GB hd=true∧(∀c∈cs,Da c=true∧B8 c=true)∧Lx cs 8=1∧Lx cs 7≤1∧e=Ew e.n e.name hd cs):=by
 unfold DJ at h;rw[if_neg Zo,if_neg Zo,if_pos k4]at h;unfold cS cR iG BI at h;simp only[Zba,Zdt,List.all_eq_true]at h;obtain⟨⟨⟨⟨⟨h1,h2⟩,h3⟩,h4⟩,h5,h6,h7⟩,h8,h9⟩:=h;refine⟨h1,h2,?_⟩
 match hk:e.kids,h4 with
 |hd::cs,_=>
 rw[hk]at h5 h6 h7 h8 h9
 have hc: ∀c,Bb ((hd::cs).drop 1) c ((hd::cs).length - 1)=Lx cs c:=fun c=>by
  unfold Bb Lx;rw[show(hd::cs).drop 1=cs from rfl,show(hd::cs).length - 1=cs.length by simp,List.take_length]
 rw[hc]at h6 h7;refine⟨hd,cs,rfl,h8,fun c hc=>⟨h9 c hc,h5 c hc⟩,h6,h7,?_⟩;have:=C8 h3;rw[k4,hk]at this;exact this
theorem Kb{e:Nd}(h:DJ e=true)(hk:e.kind=2∨e.kind=3):BK e.name=true∧B0 e.u=true∧e=Gr e.kind e.name e.u e.n∧(e.kind=3→1≤e.n∧e.n≤4)∧(e.kind=2→e.n=0):=by
 unfold DJ at h;rcases hk with hk|hk
 ·rw[if_pos hk]at h;simp only[Zba,Zdt]at h;obtain⟨⟨⟨h1,h2⟩,h3⟩,h4⟩:=h;have hn:e.n=0:=congrArg Nd.n (C8 h4);have:=C8 h4;rw[Fx h3]at this;refine⟨h1,h2,?_,fun h=>by omega,fun _=>hn⟩;rw[hn];exact this
 ·rw[if_neg Zo,if_pos hk]at h;simp only[Zba,Zdt]at h;obtain⟨⟨⟨⟨⟨h1,h2⟩,h3⟩,h4⟩,h5⟩,h6⟩:=h;have:=C8 h6;rw[Fx h5]at this;exact⟨h1,h2,this,fun _=>⟨h3,h4⟩,fun h=>by omega⟩
theorem K1{e:Nd}(h:DJ e=true):e.kind=2∨e.kind=3∨e.kind=4:=by
 unfold DJ at h;split at h
 ·exact .inl ‹_›
 split at h
 ·exact .inr (.inl ‹_›)
 split at h
 ·exact .inr (.inr ‹_›)
 ·cases h
theorem Nl{c:Nd}(h:Da c=true):c.kids≠ []∧ ∀k∈c.kids,BC k=true:=by
 unfold Da at h;simp only[Zba]at h;have h:=h.2;split at h
 ·simp only[Zba,Zdt,List.all_eq_true]at h;exact⟨fun h0=>by rw[h0]at h;simp at h,fun k hk=>(h.2 k hk).1⟩
 ·simp only[Zba,Zdt]at h
  match hk:c.kids,h.1 with
  | [x],_=>
   refine⟨by simp,fun k El=>?_⟩;rw[List.mem_singleton]at El;subst El;have:=h.2;rw[hk]at this;exact this
theorem aW{e:Nd}(h:DJ e=true):yD e:=by
 have hk:=K1 h;by_cases k4:e.kind=4
 ·obtain⟨h1,h2,hd,cs,EF,hh,hc,_,_,_⟩:=PK h k4;obtain⟨g1,g2,g3,g4,_⟩:=Mu hh;have e0:e.kids.getD 0 default=hd:=by rw[EF];rfl
  refine⟨⟨hk,fun _ c Ok=>?_⟩,(Mr h2).1,fun h=>absurd k4 h,fun _=>?_⟩
  ·rw[EF]at Ok;exact Nl (hc c Ok).1
  ·rw[e0];exact⟨⟨Zo,h1.2⟩,g1,g2,Zo,g4⟩
 ·obtain⟨h1,h2,_⟩:=Kb h Zo;exact⟨⟨hk,fun h=>absurd h k4⟩,(Mr h1).1,fun _=>h2,fun h=>absurd h k4⟩
theorem nR{e:Nd}(h:DJ e=true)(r:List Tk):LY ((IV e).map Sp.tk++r) e r:=by
 have hk:=K1 h;unfold IV;by_cases k2:e.kind=2
 ·rw[if_pos k2];obtain⟨h1,h2,h3,_,h5⟩:=Kb h (.inl k2);have:=LY.fact (k:=1) (k2:=6) (k3:=6) (r:=r) (UU h1) (aV h2);have e2:Gr 2 (bA (bl e.name)) (bA (bl e.u)) 0=e:=by rw[Jx,Jx];rw[k2,h5 k2]at h3;exact h3.symm
  rw[e2]at this;exact this
 rw[if_neg k2];by_cases k3:e.kind=3
 ·rw[if_pos k3];obtain⟨h1,h2,h3,h4,_⟩:=Kb h (.inr k3);have hr:=nP (h4 k3);have:=LY.line (k:=1) (k2:=6) (k3:=6) (v:=⟨1,bA (Hn e.n)⟩) (r:=r) (UU h1) (aV h2) (by rw[hr];have:=h4 k3;omega);have e2:Gr 3 (bA (bl e.name)) (bA (bl e.u)) (D4 (bA (Hn e.n)))=e:=by rw[Jx,Jx,hr];rw[k3]at h3;exact h3.symm
  rw[e2]at this;exact this
 have k4:e.kind=4:=Zo
 rw[if_neg k3,if_pos k4];obtain⟨h1,h2,hd,cs,EF,hh,hc,c8,c7,he⟩:=PK h k4;obtain⟨g1,g2,g3,g4,XY⟩:=Mu hh;have ed:e.kids.drop 1=cs:=by rw[EF];rfl
 have e0:e.kids.getD 0 default=hd:=by rw[EF];rfl
 rw[List.map_append,List.map_append,ed,nQ]
 have ra: ∀(least n:Int),least≤n→0≤n→n≤1000000→DU least ⟨3,bA (Ml n)⟩=some n:=fun least n h1 h2 h3=>by
  unfold Ml;rw[GM Zo Zo];congr 1;omega
 have key: ∀ts,OO ts hd (⟨6,Ka⟩::(Ry cs++(⟨6,Nk⟩::r)))→LY (⟨1,Gj⟩::⟨3,bA (Ml e.n)⟩::⟨1,r6⟩::⟨1,bA (bl e.name)⟩::ts) e r:=fun ts ZV=>by
  have:=LY.va (k:=1) (k2:=1) (k3:=6) (k4:=6) (a:=⟨3,bA (Ml e.n)⟩) (n:=e.n) (r:=r) (h:=hd) (cs:=cs) (at_:=fun i=>Ry (cs.drop i)++(⟨6,Nk⟩::r)) (ra 1 e.n h1.1 Zo h1.2) (UU h2) ZV
   (fun i hi=>by
    have e3:Ry (cs.drop i)=(Co (cs.getD i default)).map Sp.tk++Ry (cs.drop (i+1)):=by
     unfold Ry;rw[List.drop_eq_getElem_cons hi,List.map_cons,List.flatten_cons,Zlg,Zeg hi];rfl
    have hm:cs.getD i default∈cs:=by simp[Zlg,hi]
    simp only[e3,List.append_assoc];exact dG (hc _ hm).1 (hc _ hm).2 _) (by simp[Ry]) c7 c8
  have e2:Ew e.n (bA (bl e.name)) hd cs=e:=by rw[Jx];exact he.symm
  rw[e2]at this;exact this
 unfold Mn;simp only[e0];by_cases fX:hd.to≤36524
 ·rw[if_pos fX];have:=OO.to (k1:=1) (k2:=1) (k3:=1) (k4:=1) (a:=⟨3,bA (Ml hd.n)⟩) (b:=⟨5,bA (DY hd.fr)⟩) (c:=⟨5,bA (DY hd.to)⟩) (d:=⟨5,bA (DY hd.known)⟩) (r:=⟨6,Ka⟩::(Ry cs++(⟨6,Nk⟩::r))) (ra 0 hd.n g1.1 g1.1 g1.2) (Ht g2.1 g2.2 g2.1) (Ht Zo fX Zo) (Ht g4.1 g4.2 g4.1);rw[←XY]at this;have:=key _ this;simp[Sp.tk]at this ⊢;exact this
 ·rw[if_neg fX];have h36:hd.to=36525:=Zo
  have:=OO.open_ (k1:=1) (k2:=1) (k4:=1) (a:=⟨3,bA (Ml hd.n)⟩) (b:=⟨5,bA (DY hd.fr)⟩) (d:=⟨5,bA (DY hd.known)⟩) (r:=⟨6,Ka⟩::(Ry cs++(⟨6,Nk⟩::r))) (ra 0 hd.n g1.1 g1.1 g1.2) (Ht g2.1 g2.2 g2.1) (Ht g4.1 g4.2 g4.1);rw[←h36,←XY]at this;have:=key _ this;simp[Sp.tk]at this ⊢;exact this
def Ly:List Nd→List Tk
 | []=> []
 |e::r=>(IV e).map Sp.tk++Ly r
theorem S7: ∀l:List Nd,(DQ l).map Sp.tk=Ly l
 | []=>rfl
 |e::r=>by
  have:=S7 r;rw[DQ,List.map_append,show nl (DQ r)=WJ [10] (DQ r)from rfl,NZ,this];rfl
theorem r8{l:List Nd}(h: ∀x∈l,DJ x=true):ve ((DQ l).map Sp.tk) l:=by
 refine⟨fun i=>Ly (l.drop i),by rw[S7];rfl,fun i hi=>?_,by simp[Ly]⟩;have hm:l.getD i default∈l:=by simp[Zlg,hi]
 have e3:Ly (l.drop i)=(IV (l.getD i default)).map Sp.tk++Ly (l.drop (i+1)):=by
  rw[List.drop_eq_getElem_cons hi];simp[Ly,Zlg,hi]
 simp only[e3];refine⟨?_,nR (h _ hm) _⟩;have:=(UM (aW (h _ hm)).1).2;cases hs:IV (l.getD i default)with
 |nil=>exact absurd hs this
 |cons p ps=>simp
end Go.Tp
namespace Go.Ad
theorem Nn{P:Program}{T:BT}(hT:T.ok P){n B:Nat}{w0:AT}{ops:Array Oper}{K:St→Prop}{o:Oper}{rest:List Oper}{st:St}{t e:TypeId}{x i:Operand}{len s1 b1:Nat}{z1:Value}{te:TI}{cs:List AV}{j:Int}(E4:o.op=.index t x i)(hg:o.guard=none)(hd:As n o.dst)(ht:T t=some ⟨.arr len e,s1,b1,z1⟩)(EP:T e=some te)(h1:te.sz=1)(Oj:te.k.agg=false)(hx:(st.ev x).strip=.a cs)(cx:(st.ev x).cond)(hi:(st.ev i).strip=.v (.int .i64 j))(ci:(st.ev i).cond)(OR:cs.length=len)(hj:0≤j∧j<len)
  (h:AK P n B w0 ops K rest (st.put o.dst (cs.getD j.toNat .top))):AK P n B w0 ops K (o::rest) st:=by
 intro a w ρ I hG next Q FZ
 rw[CI hg hG];refine LF (fun c' HU=>by rw[E4]at HU;cases HU) (T0 hG hd (cs.getD j.toNat .top) ?_ (K:=fun s=>AK P n B w0 ops K rest s) h next Q FZ);have hu:P.underlying t=some (.array len e):=(hT _ _ ht).kind;have Bh:=(hT _ _ EP).size w;have ha:=(hT _ _ EP).agg w;have hv:=(hG.ev x).strip cx;have hiv:=(hG.ev i).strip ci;rw[hx]at hv;rw[hi]at hiv;have ei:=hiv.Ao;generalize uW:a.eval x=av at hv;cases hv with
 |a _ us hl hc=>
  have Ak:j.toNat<us.size:=Zo
  refine⟨us.getD j.toNat undef,?_,hc j.toNat Zo⟩;simp[execOp,E4,uW,ei,Instr.index,asIntOf,run_underlying hu,hj.1,hj.2,Bh,h1,part,ha,Oj,asAgg,Ak,Zag,Result.andThen]
end Go.Ad
namespace Go.Ad
open Go.RowKit
def AT.free(w0:AT)(k:Nat):AT:=⟨w0.w,w0.I,fun id=>if id=k then none else w0.gh id,w0.ds,w0.rd,w0.gl⟩
theorem AT.UW(w0:AT)(k:Nat):(w0.free k).gh k=none:=if_pos rfl
theorem AT.Lz{w0:AT}{k:Nat}(h:CW w0.gh):CW (w0.free k).gh:=by
 obtain⟨⟨M,h1⟩,h2⟩:=h;refine⟨⟨M,fun id hid=>?_⟩,fun id h3 h4=>?_⟩
 ·show(if id=k then none else w0.gh id)=none;split
  ·rfl
  ·exact h1 id hid
 ·show(if id=k then none else w0.gh id)=none;split
  ·rfl
  ·exact h2 id h3 h4
theorem B3.pn{n B:Nat}{w0:AT}{k:Nat}{st:St}{a:Act}{w:World}{ρ:Nat→Option Value}{I:Nat→Prop}(h:B3 n B w0 st a w ρ I):B3 n B (w0.free k) st a w ρ I:=
 ⟨h.defers,h.size,h.env,h.hw,h.below,h.base,⟨h.BQ.up,fun id x hx=>by
  have hx:(if id=k then none else w0.gh id)=some x:=hx;split at hx
  ·cases hx
  ·exact h.BQ.gh id x hx,fun d hd=>by
  show(if d=k then none else w0.gh d)=none;split
  ·rfl
  ·exact h.BQ.JQ d hd,h.BQ.B2⟩⟩
theorem B3.fM{n B:Nat}{w0:AT}{k:Nat}{st:St}{a:Act}{w:World}{ρ:Nat→Option Value}{I:Nat→Prop}(hn: ∀d,d<n→w0.gh d=none)(hE:Bg (fun id=>id≠k) st.env)(hH:Bz (fun id=>id≠k) st.heap)(h:B3 n B (w0.free k) st a w ρ I):G n B w0 st a w:=by
 obtain⟨x0,uX⟩: ∃x0:Option Value,∀x,w0.gh k=some x→x0=x:=by
  cases hk:w0.gh k with
  |none=>exact⟨none,fun x hx=>by cases hx⟩
  |some y=>exact⟨y,fun x hx=>by injection hx⟩
 have hρ: ∀id,id≠k→(fun j=>if j=k then x0 else ρ j) id=ρ id:=fun id hid=>if_neg hid;have CD: ∀ {id:Nat} {b:AN},Af st.heap id=some b→id≠k:=fun hk=>(Ep hH hk).1;refine⟨fun j=>if j=k then x0 else ρ j,I,h.defers,h.size,fun s=>(h.env s).ids (MP hE s) _ hρ,⟨fun id blk hk=>?_,fun i1 i2 b1 b2 x x' b hn k1 k2 hx CP hb=>?_,fun id blk x b hk hx hb=>?_,h.hw.lt⟩,h.below,h.base,⟨h.BQ.up,fun id x hx=>?_,hn,h.BQ.B2⟩⟩
 ·obtain⟨x,hx,Ae⟩:=h.hw.ok id blk hk;refine⟨x,by show(if id=k then x0 else ρ id)=_;rw[if_neg (CD hk)];exact hx,?_⟩;cases blk with
  |box t c=>
   obtain⟨b,us,rfl,hB,hh,hl,hc⟩:=Ae;exact⟨b,us,rfl,hB,hh,hl,fun j u hu=>(hc j u hu).ids (AH.QB (Ep hH hk).2 j) _ hρ⟩
  |row e sz c=>exact Ae
  |mp c=>exact Ae
  |DN kd ks c=>
   obtain⟨b,BJ,rfl,hB,hm,hl,C0,hc⟩:=Ae;exact⟨b,BJ,rfl,hB,hm,hl,C0,fun j u hu=>(hc j u hu).ids (AH.MU (Ep hH hk).2 j) _ hρ⟩
  |FD e c=>
   obtain⟨m,xs,ho,hl,hc⟩:=Ae;exact⟨m,xs,ho,hl,fun j u hu=>(hc j u hu).ids (AH.MT (Ep hH hk).2 j) _ hρ⟩
 ·have e1:(if i1=k then x0 else ρ i1)=some x:=hx;have e2:(if i2=k then x0 else ρ i2)=some x':=CP;rw[if_neg (CD k1)]at e1;rw[if_neg (CD k2)]at e2;exact h.hw.apart i1 i2 b1 b2 x x' b hn k1 k2 e1 e2 hb
 ·have e1:(if id=k then x0 else ρ id)=some x:=hx;rw[if_neg (CD hk)]at e1;exact h.hw.J2 id blk x b hk e1 hb
 ·show(if id=k then x0 else ρ id)=x;split
  ·rename_i e;subst e;exact uX x hx
  ·rename_i e;exact h.BQ.gh id x (by show(if id=k then none else w0.gh id)=some x;rw[if_neg e];exact hx)
theorem Yk{P:Program}{n B:Nat}{w0:AT}{c:Code}{Q:Exit→St→Prop}{st:St}(k:Nat)(S:St)(hE:Bg (fun id=>id≠k) S.env)(hH:Bz (fun id=>id≠k) S.heap)(h2:Q .ret S)
  (h1: ∀w1:AT,w1.gh k=none→(CW w0.gh→CW w1.gh)→w1.rd=w0.rd→BY P n B w1 c (fun e s=>e=.ret∧ ∀a w,G n B w1 s a w→G n B w1 S a w) st):BY P n B w0 c Q st:=fun a w hG=>by
 obtain⟨ρ,I,hg⟩:=hG;have hn:=hg.BQ.JQ;have:=h1 (w0.free k) (w0.UW k) AT.Lz rfl a w ⟨ρ,I,hg.pn⟩;have Xj:fo (w0.free k)=fo w0:=rfl;rw[Xj]at this;refine wpIn_mono this fun e a' w' ⟨s,⟨he,hs⟩,Cj⟩=>?_;subst he;obtain⟨ρ',I',ko⟩:=hs _ _ Cj;exact⟨S,h2,ko.fM hn hE hH⟩
end Go.Ad
