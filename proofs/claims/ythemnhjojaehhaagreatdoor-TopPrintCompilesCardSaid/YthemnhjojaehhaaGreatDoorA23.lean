/- Part of a proof. -/
import Derived.Test.YthemnhjojaehhaaGreatDoorA22
set_option linter.all false
namespace Go.Ad
open Go.RowKit
def Sl(H F:List (Nat×AN)):Prop:= ∀id b,Af H id=none→Af F id=some b→b.ids (Dz H)
def iH(P:Program)(T:BT)(gf:Bool)(dst:Option Nat)(op:Op)(K:St→Prop)(st:St):Prop:=
 match A6 st.ev op with
 |some (ψ,k,args)=>(ψ∧EX args)∧ ∃H r H',BS P T k (Bu args) H r H'∧Oa H H' (Bu args) r=true∧Vj (LU H) st.env=true∧Sl H st.heap∧Sd st.heap H∧K (St.put ⟨st.env,H'++st.heap⟩ dst (LS gf r))
 |none=>False
theorem iH.step{P:Program}{T:BT}{gf:Bool}{dst:Option Nat}{op:Op}{K:St→Prop}{st:St}(h:iH P T gf dst op K st):IM P T gf dst op K st:=by
 unfold iH at h;unfold IM;cases hc:A6 st.ev op with
 |none=>rw[hc]at h;exact h
 |some x=>
  obtain⟨ψ,k,args⟩:=x;rw[hc]at h;obtain⟨h1,H,r,H',h2,h3,h4,h5,h6,h7⟩:=h;exact⟨h1,H,r,H',h2,Tv h3,fun id b=>KL h6,QI (fun id=>QJ) h4,h5,h7⟩
theorem Mc{H:List (Nat×AN)}:Sl H []:=fun _ _ _ h=>by cases h
theorem KM{H Y:List (Nat×AN)}(hY:Dy 2000 Y)(hH:(H.all fun p=>decide (p.1<2000))=true):Sl H Y:=fun id b _ h=>gm hY hH h
theorem KN{H R:List (Nat×AN)}{k:Nat}{c:AN}(h0:(Es H k||c.C9 (LU H))=true)(h:Sl H R):Sl H ((k,c)::R):=fun id b hn hb=>by
 simp only[Af]at hb;split at hb
 ·rename_i e;subst e;injection hb with hb;subst hb
  have:Es H k=false:=by unfold Es;rw[hn];rfl
  rw[this,Bool.false_or]at h0;exact AN.Fp (fun id=>QJ) h0
 ·exact h id b hn hb
section
variable{P:Program}{T:BT}(hT:T.ok P){n B:Nat}{w0:AT}(Am:CW w0.gh){ops:Array Oper}{K:St→Prop}{o:Oper}{rest:List Oper}{st:St}
include hT Am
theorem fO(h: ∀K':St→Prop,(∀s,AK P n B w0 ops K rest s→K' s)→iH P T false o.dst o.op K' st)(hg:o.guard=none:=by rfl)(hd:As n o.dst:=by simp only[As,Nat.reduceLT]):AK P n B w0 ops K (o::rest) st:=QK hT Am hg hd fun K' AX=>(h K' AX).step
end
attribute [push_cast] iH
theorem Dy.del{N d:Nat}(hd:d<N): ∀ {Y:List (Nat×AN)},Dy N Y→Dh d Y=Y
 | [],_=>rfl
 |(k,b)::r,h=>by
  have hk:N≤k:=h.1;rw[Dh,if_neg Zo,Dy.del hd h.2.2]
mutual
theorem Z8{N d k:Nat}(hd:d<N): ∀(x:AV),x.ge N→x.rn d k=x
 | .v _,_=>by rw[AV.rn]
 | .s id,h=>by rw[AV.ge]at h;rw[AV.rn,cD,if_neg Zo]
 | .w id _ _,h=>by rw[AV.ge]at h;rw[AV.rn,cD,if_neg Zo]
 | .p id _,h=>by rw[AV.ge]at h;rw[AV.rn,cD,if_neg Zo]
 | .i _ _ _ _ _,_=>by rw[AV.rn]
 | .q _ _ _ _ _,_=>by rw[AV.rn]
 | .a cs,h=>by rw[AV.ge]at h;rw[AV.rn,Lo hd cs h]
 | .t cs,h=>by rw[AV.ge]at h;rw[AV.rn,Lo hd cs h]
 | .f _ cs,h=>by rw[AV.ge]at h;rw[AV.rn,Lo hd cs h]
 | .g _ x,h=>by rw[AV.ge]at h;rw[AV.rn,Z8 hd x h]
 | .o,_=>by rw[AV.rn]
 | .top,_=>by rw[AV.rn]
theorem Lo{N d k:Nat}(hd:d<N): ∀(l:List AV),AV.Lh N l→AV.rn.Rh d k l=l
 | [],_=>by rw[AV.rn.Rh]
 |x::r,h=>by
  rw[AV.Lh]at h;rw[AV.rn.Rh,Z8 hd x h.1,Lo hd r h.2]
end
theorem AN.Z8{N d k:Nat}(hd:d<N){b:AN}(h:b.ids (N≤ ·)):b.rn d k=b:=by
 cases b with
 |box t c=>cases c with
  |AF l=>simp only[AN.rn,AH.rn];rw[Lo hd l (DZ l h)]
  |_=>rfl
 |FD t c=>cases c with
  |AF l=>simp only[AN.rn,AH.rn];rw[Lo hd l (DZ l h)]
  |_=>rfl
 |DN kd ks c=>cases c with
  |AF l=>simp only[AN.rn,AH.rn];rw[Lo hd l (DZ l h)]
  |_=>rfl
 |row e sz c=>rfl
 |mp c=>rfl
theorem Dy.rn{N d k:Nat}(hd:d<N): ∀ {Y:List (Nat×AN)},Dy N Y→Gd d k Y=Y
 | [],_=>rfl
 |(j,b)::r,h=>by
  have hk:N≤j:=h.1;rw[Gd,cD,if_neg Zo,AN.Z8 hd h.2.1,Dy.rn hd h.2.2]
theorem Dy.ne{N k:Nat}(hk:k<N): ∀ {Y:List (Nat×AN)},Dy N Y→Bz (fun id=>id≠k) Y
 | [],_=>trivial
 |(j,b)::r,h=>by
  have hj:N≤j:=h.1;exact⟨(by show j≠k;omega),Ma (fun id hid=>by have:N≤id:=hid;omega) h.2.1,Dy.ne hk h.2.2⟩
theorem QW{p:Nat→Prop}: ∀ {A C:List (Nat×AN)},Bz p A→Bz p C→Bz p (A++C)
 | [],_,_,h=>h
 |(k,b)::r,C,h,h2=>⟨h.1,h.2.1,QW h.2.2 h2⟩
theorem T7{N k:Nat}: ∀(A C:List (Nat×AN)),Gd N k (A++C)=Gd N k A++Gd N k C
 | [],_=>rfl
 |(j,b)::r,C=>by rw[List.cons_append,Gd,T7 r C];rfl
theorem QX{n B:Nat}{w0:AT}{st:St}{E:List (Nat×AV)}{pre Y:List (Nat×AN)}(hY:Dy 2000 Y)(N k:Nat)(hN:N<2000)(hk:k<2000)(h1: ∀a w,G n B w0 st a w→G n B w0 ⟨E,pre++Y⟩ a w)(hE:Bg (fun id=>id≠k) E)(hH:Bz (fun id=>id≠k) pre)(F8:w0.gh k=none): ∀a w,G n B w0 st a w→G n B w0 ⟨IL N k E,Gd N k pre++Y⟩ a w:=
 gj N k h1 hE (QW hH (hY.ne hk)) F8 (by
  show∀a w,G n B w0 ⟨IL N k E,Gd N k (pre++Y)⟩ a w→_;rw[T7,hY.rn hN];exact fun _ _ h=>h)
end Go.Ad
namespace Go.Proofs.YthemnhjojaehhaaGreatDoor
open Go.Ad Go.Proofs Go.Tp
attribute [local irreducible] A8 AK BY Go.Ad.Pure BS
theorem Dk(s:ByteArray):Pure Tryz.prog 93 [An s] (BL (KR s)):=by
 refine PO 9 [.tmp 2] hT Tryz.func93 Tryz.ntmps93 fun B w0=>?_;repeat'(first|exact tT|refine WA tT tT ?_ ?_|(refine PE ?_;clear hK K)|refine WR fun K hK=>?_|refine PT ?_|refine WC (fun h=>?_) fun h=>?_|exact ff|fail)
 all_goals (first|contradiction|(refine congrArg (fun b=>AV.v (.bool b)) (Eq.symm ?_);simp only[KR,Aa,AZ,BH, *,decide_false,decide_true,Bool.or_false,Bool.or_true,Bool.true_or,Bool.not_true,Bool.not_false];done)|(rename_i h;subst h;exact congrArg (fun b=>AV.v (.bool b)) ZD))
abbrev Xf(us:List ByteArray):AV:=.i false (fun e j=>An (BZ us e)) 1 0 us.length
theorem Ei(us:List ByteArray)(hl:us.length≤9223372036854775807):Pure Tryz.prog 140 [Xf us] (BL (CE us)):=by
 refine PO 17 [.tmp 2] hT Tryz.func140 Tryz.ntmps140 fun B w0=>?_;repeat'(first|exact tT|refine WA tT tT ?_ ?_|(refine PE ?_;clear hK K)|refine WR fun K hK=>?_|refine PT ?_|refine WC (fun h=>?_) fun h=>?_|exact ff|fail)
 refine AM (α:=Nat) (fun k=>⟨[(0,Xf us),(5,Xf us),(6,AE us.length),(7,AE k)],[]⟩) (fun k=>k≤us.length∧ ∀i,i<k→BZ us i=BZ us 0) (fun k=>us.length - k) 0 ⟨Nat.zero_le _,fun i h=>by omega⟩ (by exact G.Al (AA Ai) IN) fun k hk=>?_;obtain⟨hk,BU⟩:=hk;by_cases Ak:k<us.length
 ·have d2:=DT ((k:Int)<(us.length:Int));have d3:=DT ((0:Int)<(us.length:Int));repeat'(first|exact tT|refine WA tT (Y2 d2 d3) ?_ ?_|(refine PE ?_;clear hK K)|refine WR fun K hK=>?_|refine PT ?_|refine WC (fun h=>?_) fun h=>?_|exact ff|fail)
  ·have:CE us=false:=GV fun hh=>by
    unfold CE at hh;rw[List.all_eq_true]at hh;have h2:=hh (us[k]) (List.getElem_mem Ak);have h3:us[k]=BZ us k:=by unfold BZ;simp[Zlg,Ak]
    rw[h3]at h2;exact h (of_decide_eq_true h2)
   rw[this]
  ·exact⟨k+1,⟨⟨Zo,Cg (p:=fun i=>BZ us i=BZ us 0) BU h⟩,Zo⟩,G.Al (AA Ai) IN⟩
 ·obtain rfl:k=us.length:=Zo
  have d2:=DF ((us.length:Int)<(us.length:Int))
  have:CE us=true:=by
   unfold CE;rw[List.all_eq_true];intro x hx;obtain⟨i,hi,rfl⟩:=List.getElem_of_mem hx;have:=BU i hi;unfold BZ at this;rw[Zlg,Zeg hi]at this;exact Zde this
  rw[this];repeat'(first|exact tT|refine WA tT d2 ?_ ?_|(refine PE ?_;clear hK K)|refine WR fun K hK=>?_|refine PT ?_|refine WC (fun h=>?_) fun h=>?_|exact ff|fail)
  all_goals done
def J3:List Dg→List AV
 | []=> []
 |d::r=>AE d.err::.o::J3 r
theorem T8(a b:List Dg):J3 (a++b)=J3 a++J3 b:=by
 induction a with
 |nil=>rfl
 |cons x r ih=>simp only[List.cons_append,J3,ih]
theorem Jd(a:List Dg):(J3 a).length=2*a.length:=by
 induction a with
 |nil=>rfl
 |cons x r ih=>simp only[J3,List.length_cons,ih];omega
abbrev Oe(d:List Dg):List (Nat×AN):= [(1000,.box 33 (.AF [.s 1001])),(1001,.row 59 2 (.AF (J3 d)))]
theorem Sm(d:List Dg)(hd:d.length≤20)(e:Int):BS Tryz.prog T 92 [AE e,.o,.p 1000 0] (Oe d) (.t []) (Oe (rp d e)):=by
 have hlen:=Jd d;have VG:(2*d.length) / 2=d.length:=Zo
 unfold rp;by_cases h20:d.length<20
 ·rw[if_pos h20];have c1:=DT ((d.length:Int)<20);refine FO 14 [] Tryz.func92 Tryz.ntmps92 fun B w0 Y R Am Az hY AQ AW Aj hR=>?_;have AB:=NA AW AQ 12 13
  have Gu:Dh 1001 Y=Y:=hY.del Zd;refine BG ⟨[],Oe (d++ [⟨e⟩])++Y⟩ (by push_cast[List.cons_append,List.nil_append,AB];exact⟨Aj,hR _ CK⟩) ?_;repeat'(first|exact tT|refine WA tT (Y5 hlen VG c1 Gu AB) ?_ ?_|(refine WQ (Y5 hlen VG c1 Gu AB) fun K' AX=>?_;(repeat refine AS ?_ ?_);(first|refine⟨[AE e,.o],⟨rfl,(fun el j h1 h2=>rfl),rfl,Zo,Zo⟩,?_⟩);refine AX _ ?_;clear AX K')|(refine HE ?_;clear hK K)|refine WR fun K hK=>?_|refine HT ?_|refine WC (fun h=>?_) fun h=>?_|exact ff|fail)
  rw[T8];exact QX (E:= []) (pre:= [(1000,.box 33 (.AF [.s 13])),(13,.row 59 2 (.AF (J3 d++ [AE e,.o])))]) hY 13 1001 Zd Zd (G.Al (AA Ai) Au) trivial (by simp[Bz,AN.ids,AV.Av,AV.ids]) (Am.2 1001 Zd Zd)
 ·rw[if_neg h20];have c1:=DF ((d.length:Int)<20);refine FO 14 [] Tryz.func92 Tryz.ntmps92 fun B w0 Y R Am Az hY AQ AW Aj hR=>?_;have AB:=NA AW AQ 12 13
  repeat'(first|exact tT|refine WA tT (Y4 hlen VG c1 AB) ?_ ?_|(refine HE ?_;clear hK K)|refine WR fun K hK=>?_|refine HT ?_|refine WC (fun h=>?_) fun h=>?_|exact ff|fail)
  all_goals exact⟨Aj,hR _ CK⟩
end Go.Proofs.YthemnhjojaehhaaGreatDoor
namespace Go.Tp
def Rn(l:List (ByteArray×ByteArray))(x u:ByteArray):List (ByteArray×ByteArray):=if T6 l x=true then l else l++ [(x,u)]
def cU(l:List (Int×ByteArray))(x:Int)(u:ByteArray):List (Int×ByteArray):=if Od l x=true then l else l++ [(x,u)]
def C4(sc:Sc)(x:Nd):Sc:=
 if x.kind=2 then{sc with facts:=Rn sc.facts x.name x.u}
 else if x.kind=3 then{sc with lines:=Rn sc.lines x.name x.u}
 else if x.kind=4 then{sc with BX:=cU sc.BX x.n x.name}
 else sc
def C5(l:List Nd):Sc:=l.foldl C4 ⟨[],[],[]⟩
theorem Vy(l:List Nd)(x:Nd):C5 (l++ [x])=C4 (C5 l) x:=by simp[C5]
theorem Vz(l:List Nd)(j:Nat)(hj:j<l.length):C5 (l.take (j+1))=C4 (C5 (l.take j)) (l.getD j default):=by
 rw[←Vy]
 congr 1
 rw[List.take_succ_eq_append_getElem hj]
 congr 2
 simp[Zlg,hj]
theorem V0(l:List (ByteArray×ByteArray))(x u:ByteArray):(Rn l x u).length≤l.length+1:=by unfold Rn;split<;>simp
theorem iI(l:List (Int×ByteArray))(x:Int)(u:ByteArray):(cU l x u).length≤l.length+1:=by unfold cU;split<;>simp
theorem YS(l:List Nd):(C5 l).facts.length≤l.length∧(C5 l).lines.length≤l.length∧(C5 l).BX.length≤l.length:=by
 suffices h: ∀(l:List Nd) (sc:Sc) (m:Nat),sc.facts.length≤m∧sc.lines.length≤m∧sc.BX.length≤m→(l.foldl C4 sc).facts.length≤m+l.length∧(l.foldl C4 sc).lines.length≤m+l.length∧(l.foldl C4 sc).BX.length≤m+l.length by
  have:=h l ⟨[],[],[]⟩ 0 ⟨Nat.le_refl _,Nat.le_refl _,Nat.le_refl _⟩;unfold C5;omega
 intro l;induction l with
 |nil=>intro sc m h;exact h
 |cons x r ih=>
  intro sc m h
  have h2:(C4 sc x).facts.length≤m+1∧(C4 sc x).lines.length≤m+1∧(C4 sc x).BX.length≤m+1:=by
   have e1:=V0 sc.facts x.name x.u;have e2:=V0 sc.lines x.name x.u;have e3:=iI sc.BX x.n x.name;unfold C4;split
   ·exact⟨by show(Rn sc.facts x.name x.u).length≤_;omega,by show sc.lines.length≤_;omega,by show sc.BX.length≤_;omega⟩
   ·split
    ·exact⟨by show sc.facts.length≤_;omega,by show(Rn sc.lines x.name x.u).length≤_;omega,by show sc.BX.length≤_;omega⟩
    ·split
     ·exact⟨by show sc.facts.length≤_;omega,by show sc.lines.length≤_;omega,by show(cU sc.BX x.n x.name).length≤_;omega⟩
     ·omega
  have:=ih (C4 sc x) (m+1) h2;rw[List.foldl_cons,List.length_cons];omega
end Go.Tp
namespace Go.Tp
open Go.Ad
structure Dc where
 cm:List (Key×Int)
 sf:List (Key×Bool)
 sl:List (Key×Bool)
 d:List Dg
theorem Ag{α:Type}(m:List (Key×α))(k:Key)(v d:α):A0 (A5 m k v) k d=v:=by
 induction m with
 |nil=>simp[A0,A5]
 |cons p r ih=>
  by_cases e:p.1=k
  ·simp[A0,A5,e]
  ·have:A0 (A5 (p::r) k v) k d=A0 (A5 r k v) k d:=by simp[A0,A5,e]
   rw[this,ih]
theorem Mh{α:Type}(m:List (Key×α))(k j:Key)(v d:α)(hj:j≠k):A0 (A5 m k v) j d=A0 m j d:=by
 induction m with
 |nil=>simp[A0,A5,hj.symm]
 |cons p r ih=>
  by_cases e:p.1=k
  ·have e1:A0 (A5 (p::r) k v) j d=A0 r j d:=by simp[A0,A5,e,hj.symm]
   have e2:A0 (p::r) j d=A0 r j d:=by simp[A0,e,hj.symm]
   rw[e1,e2]
  ·by_cases e2:p.1=j
   ·simp[A0,A5,e,e2,hj]
   ·have e1:A0 (A5 (p::r) k v) j d=A0 (A5 r k v) j d:=by simp[A0,A5,e,e2]
    have e3:A0 (p::r) j d=A0 r j d:=by simp[A0,e2]
    rw[e1,e3,ih]
theorem I8{α:Type}(m:List (Key×α))(k:Key)(v:α):(A5 m k v).length≤m.length+1:=by
 induction m with
 |nil=>simp[A5]
 |cons p r ih=>
  unfold A5;split<;>simp only[List.length_cons]<;>omega
def IT(s:Dc)(x:Nd):Int:=A0 s.cm (.i x.kind) 0+1
def YT(s:Dc)(x:Nd):Bool:=A0 (if x.kind=2 then s.sf else s.sl) (.s x.name) false
def I9(x:Nd):Bool:=decide (x.kind=3)&&(decide (x.u=Aa)||(!decide (x.n=4)&& !KR x.u))
def mf(s:Dc)(x:Nd):List Dg:=if YT s x=true then rp s.d 5 else if 32<IT s x then rp s.d 2 else if I9 x=true then rp s.d 11 else s.d
def Hk(s:Dc)(x:Nd):Dc:=
 if x.kind=4 then s else
 ⟨A5 s.cm (.i x.kind) (IT s x),if x.kind=2 then A5 s.sf (.s x.name) true else s.sf,if x.kind=2 then s.sl else A5 s.sl (.s x.name) true,mf s x⟩
def Z9(l:List Nd)(d:List Dg):Dc:=l.foldl Hk ⟨[],[],[],d⟩
theorem Cx{l:List Nd}{j:Nat}(hj:j<l.length):l.take (j+1)=l.take j++ [l.getD j default]:=by
 rw[List.take_succ_eq_append_getElem hj]
 congr 2
 simp[Zlg,hj]
theorem iJ(l:List Nd)(d:List Dg)(j:Nat)(hj:j<l.length):Z9 (l.take (j+1)) d=Hk (Z9 (l.take j) d) (l.getD j default):=by
 rw[Cx hj];simp[Z9]
structure iK (s:Dc) (m:Nat):Prop where
 RT: ∀k,0≤A0 s.cm k 0∧A0 s.cm k 0≤m
 cl:s.cm.length≤m
 fl:s.sf.length≤m
 ll:s.sl.length≤m
 d:s.d.length≤20
theorem cV{s:Dc}{m:Nat}(h:iK s m)(x:Nd):iK (Hk s x) (m+1):=by
 obtain⟨h1,h2,h3,h4,h5⟩:=h
 have hd:(mf s x).length≤20:=by
  unfold mf;repeat' split
  all_goals first|exact OF h5|exact h5
 unfold Hk;split
 ·exact⟨fun k=>by have:=h1 k;omega,Zo,Zo,Zo,h5⟩
 ·refine⟨fun k=>?_,?_,?_,?_,hd⟩
  ·show 0≤A0 (A5 s.cm (.i x.kind) (IT s x)) k 0∧_;by_cases e:k=.i x.kind
   ·subst e;show 0≤A0 (A5 s.cm (.i x.kind) (IT s x)) (.i x.kind) 0∧A0 (A5 s.cm (.i x.kind) (IT s x)) (.i x.kind) 0≤_;rw[Ag];have:=h1 (.i x.kind);unfold IT;omega
   ·show 0≤A0 (A5 s.cm (.i x.kind) (IT s x)) k 0∧A0 (A5 s.cm (.i x.kind) (IT s x)) k 0≤_;rw[Mh _ _ _ _ _ e];have:=h1 k;omega
  ·have:=I8 s.cm (.i x.kind) (IT s x);show(A5 s.cm (.i x.kind) (IT s x)).length≤_;omega
  ·have:=I8 s.sf (.s x.name) true;show(if x.kind=2 then A5 s.sf (.s x.name) true else s.sf).length≤_;split<;>omega
  ·have:=I8 s.sl (.s x.name) true;show(if x.kind=2 then s.sl else A5 s.sl (.s x.name) true).length≤_;split<;>omega
theorem T9(l:List Nd)(d:List Dg)(hd:d.length≤20):iK (Z9 l d) l.length:=by
 suffices h: ∀(l:List Nd) (s:Dc) (m:Nat),iK s m→iK (l.foldl Hk s) (m+l.length) by
  have:=h l ⟨[],[],[],d⟩ 0 ⟨fun k=>⟨Int.le_refl 0,Int.le_refl 0⟩,Nat.le_refl _,Nat.le_refl _,Nat.le_refl _,hd⟩;rw[Nat.zero_add]at this;exact this
 intro l;induction l with
 |nil=>intro s m h;exact h
 |cons x r ih=>
  intro s m h;have:=ih _ _ (cV h x);rw[List.foldl_cons,List.length_cons,show m+(r.length+1)=m+1+r.length by omega];exact this
def fI(sc:Sc)(n:Int)(l:List Nd)(d:List Dg):List Dg:=l.foldl (fun d x=>if x.n=n then rp d 101 else if Od sc.BX x.n=true then d else rp d 91) d
def pZ(sc:Sc)(a c:Nd):ByteArray:=if c.kind=6 then Aa else Fh sc.lines a.name
def CN(c:Nd):Nd:=c.kids.getD 0 default
def UA(sc:Sc)(a c:Nd)(d:List Dg):List Dg:=
 if c.kind=7 then fI sc a.n c.kids d
 else if(BO sc (CN c) d).1≠⟨#[]⟩∧pZ sc a c≠⟨#[]⟩∧(BO sc (CN c) d).1≠pZ sc a c then rp (BO sc (CN c) d).2 11 else(BO sc (CN c) d).2
theorem iL(sc:Sc)(n:Int)(l:List Nd): ∀d:List Dg,d.length≤20→(fI sc n l d).length≤20:=by
 induction l with
 |nil=>intro d h;exact h
 |cons x r ih=>
  intro d h;refine ih _ ?_;show(if x.n=n then rp d 101 else if Od sc.BX x.n=true then d else rp d 91:List Dg).length≤20;repeat' split
  all_goals first|exact OF h|exact h
theorem iM(sc:Sc)(n:Int)(l:List Nd)(d:List Dg)(j:Nat)(hj:j<l.length):fI sc n (l.take (j+1)) d=(if(l.getD j default).n=n then rp (fI sc n (l.take j) d) 101 else if Od sc.BX (l.getD j default).n=true then fI sc n (l.take j) d else rp (fI sc n (l.take j) d) 91):=by
 rw[Cx hj];simp[fI]
theorem rQ(sc:Sc)(a c:Nd)(d:List Dg)(h:d.length≤20):(UA sc a c d).length≤20:=by
 unfold UA;split
 ·exact iL _ _ _ _ h
 ·split
  ·exact OF (Kv _ _ _ h)
  ·exact Kv _ _ _ h
def Xg(sc:Sc)(RT:Int)(x:Nd)(d:List Dg):List Dg:=
 if 60<RT then rp d 2 else if T6 sc.lines x.name=true then(if IS sc.BX x.n=x.name then d else rp d 101)else rp d 91
def aA(sc:Sc)(a:Nd)(l:List Nd)(d:List Dg):List Dg:=l.foldl (fun d c=>UA sc a c d) d
theorem rR(sc:Sc)(RT:Int)(x:Nd)(d:List Dg)(h:d.length≤20):(Xg sc RT x d).length≤20:=by
 unfold Xg;repeat' split
 all_goals first|exact OF h|exact h
theorem iN(sc:Sc)(a:Nd)(l:List Nd): ∀d:List Dg,d.length≤20→(aA sc a l d).length≤20:=by
 induction l with
 |nil=>intro d h;exact h
 |cons x r ih=>intro d h;exact ih _ (rQ sc a x d h)
theorem iO(sc:Sc)(a:Nd)(l:List Nd)(d:List Dg)(j:Nat)(hj:j<l.length):aA sc a (l.take (j+1)) d=UA sc a (l.getD j default) (aA sc a (l.take j) d):=by
 rw[Cx hj];simp[aA]
def EH(sc:Sc)(s:Int×List Dg)(x:Nd):Int×List Dg:=if x.kind=4 then(s.1+1,aA sc x (x.kids.drop 1) (Xg sc (s.1+1) x s.2))else s
def fJ(sc:Sc)(l:List Nd)(d:List Dg):Int×List Dg:=l.foldl (EH sc) (0,d)
theorem iP(sc:Sc)(l:List Nd)(d:List Dg)(j:Nat)(hj:j<l.length):fJ sc (l.take (j+1)) d=EH sc (fJ sc (l.take j) d) (l.getD j default):=by
 rw[Cx hj];simp[fJ]
theorem YU(sc:Sc)(l:List Nd)(d:List Dg)(h:d.length≤20):0≤(fJ sc l d).1∧(fJ sc l d).1≤l.length∧(fJ sc l d).2.length≤20:=by
 suffices hh: ∀(l:List Nd) (s:Int×List Dg) (m:Nat),0≤s.1∧s.1≤m∧s.2.length≤20→0≤(l.foldl (EH sc) s).1∧(l.foldl (EH sc) s).1≤(m+l.length:Nat)∧(l.foldl (EH sc) s).2.length≤20 by
  have:=hh l (0,d) 0 ⟨Int.le_refl 0,Int.le_refl 0,h⟩;rw[Nat.zero_add]at this;exact this
 intro l;induction l with
 |nil=>intro s m h;exact h
 |cons x r ih=>
  intro s m h
  have h2:0≤(EH sc s x).1∧(EH sc s x).1≤(m+1:Nat)∧(EH sc s x).2.length≤20:=by
   unfold EH;split
   ·exact⟨by show 0≤s.1+1;omega,by show s.1+1≤_;omega,iN _ _ _ _ (rR _ _ _ _ h.2.2)⟩
   ·exact⟨h.1,Zo,h.2.2⟩
  have:=ih _ _ h2;rw[List.foldl_cons,List.length_cons,show m+(r.length+1)=m+1+r.length by omega];exact this
def Io(e:Nd):List Dg:=(fJ (C5 e.kids) e.kids (Z9 e.kids []).d).2
end Go.Tp
namespace Go.Tp
theorem JA{e:Nd}(h:BC e=true):(11≤e.kind∧e.kind≤18)∧(∀k∈e.kids,BC k=true)∧(15≤e.kind→1≤e.kids.length)∧(e.kind=16→e.kids.length=2):=by
 rw[EJ]at h
 have nil:e.kids.length=0→ ∀k∈e.kids,BC k=true:=fun hl k hk=>by
  rw[List.eq_nil_of_length_eq_zero hl]at hk;cases hk
 have one:e.kids.length=1→(e.kids.map BC).getD 0 false=true→ ∀k∈e.kids,BC k=true:=fun hl h0 k hk=>by
  match hh:e.kids,hl with
  | [x],_=>
   rw[hh]at h0 hk;simp at h0 hk;rw[hk];exact h0
 unfold FA at h;split at h
 ·rename_i hk;simp only[Zba,Zdt]at h;exact⟨Zo,nil h.2.1,Zo,Zo⟩
 split at h
 ·rename_i _ hk;simp only[Zba,Zdt]at h;exact⟨Zo,nil h.1.2,Zo,Zo⟩
 split at h
 ·rename_i _ _ hk;simp only[Zba,Zdt]at h;exact⟨Zo,nil h.1.2,Zo,Zo⟩
 split at h
 ·rename_i _ _ _ hk;simp only[Zba,Zdt]at h;exact⟨Zo,nil h.1.2,Zo,Zo⟩
 split at h
 ·rename_i _ _ _ _ hk;simp only[Zba,Zdt]at h;exact⟨Zo,one h.1.1 h.2,Zo,Zo⟩
 split at h
 ·rename_i _ _ _ _ _ hk;simp only[Zba,Zdt]at h;obtain⟨_,⟨hl,h0⟩,h1⟩:=h
  have h1:(e.kids.map BC).getD 1 false=true:=by
   split at h1
   ·exact(Bool.and_eq_true_iff.1 h1).1
   ·exact(Bool.and_eq_true_iff.1 h1).2
  refine⟨Zo,fun k hk=>?_,Zo,fun _=>hl⟩
  match hh:e.kids,hl with
  | [x,y],_=>
   rw[hh]at h0 h1 hk;simp at h0 h1 hk;rcases hk with rfl|rfl
   ·exact h0
   ·exact h1
 split at h
 ·rename_i _ _ _ _ _ _ hk;simp only[Zba,Zdt]at h;refine⟨Zo,fun k hk=>?_,Zo,Zo⟩;have:=h.2;rw[List.all_eq_true]at this;exact this _ (List.mem_map.2 ⟨k,hk,rfl⟩)
 split at h
 ·rename_i _ _ _ _ _ _ _ hk;simp only[Zba,Zdt]at h;exact⟨Zo,one h.1.2 h.2,Zo,Zo⟩
 ·cases h
end Go.Tp
namespace Go.Tp
open Go.Ad
structure Tr where
 facts:List De
 lines:List De
 fm:List (Key×Int)
 lm:List (Key×Int)
 am:List (Key×Int)
def D0(t:Tr)(x:Nd):Tr:=
 if x.kind=2 then{t with fm:=A5 t.fm (.s x.name) t.facts.length,facts:=t.facts++ [⟨x.name,x.u,0⟩]}
 else if x.kind=3 then{t with lm:=A5 t.lm (.s x.name) t.lines.length,lines:=t.lines++ [⟨x.name,x.u,x.n⟩]}
 else t
def cW(l:List Nd):Tr:=l.foldl D0 ⟨[],[],[],[],[]⟩
theorem iQ(l:List Nd)(j:Nat)(hj:j<l.length):cW (l.take (j+1))=D0 (cW (l.take j)) (l.getD j default):=by
 rw[Cx hj];simp[cW]
def Hl(lm am:List (Key×Int))(x:Nd):List (Key×Int):=if x.kind=4 then A5 am (.i x.n) (A0 lm (.s x.name) 0)else am
def lU(lm:List (Key×Int))(l:List Nd):List (Key×Int):=l.foldl (Hl lm) []
theorem iR(lm:List (Key×Int))(l:List Nd)(j:Nat)(hj:j<l.length):lU lm (l.take (j+1))=Hl lm (lU lm (l.take j)) (l.getD j default):=by
 rw[Cx hj];simp[lU]
def Fu(l:List Nd):Tr:= {cW l with am:=lU (cW l).lm l}
def iS(m:List (Key×Int))(n:Nat):Prop:= ∀k,0≤A0 m k 0∧(A0 m k 0<n∨A0 m k 0=0)
theorem UB{m:List (Key×Int)}{n n':Nat}{k:Key}{v:Int}(h:iS m n)(hn:n≤n')(hv:0≤v∧(v<n'∨v=0)):iS (A5 m k v) n':=fun j=>by
 by_cases e:j=k
 ·subst e;rw[Ag];exact hv
 ·rw[Mh _ _ _ _ _ e];have:=h j;omega
structure QY (t:Tr) (m:Nat):Prop where
 f:iS t.fm t.facts.length
 l:iS t.lm t.lines.length
 a:iS t.am t.lines.length
 fl:t.facts.length≤m
 ll:t.lines.length≤m
 fk:t.fm.length≤m
 lk:t.lm.length≤m
 ak:t.am.length≤m
theorem cX{t:Tr}{m:Nat}(h:QY t m)(ha:t.am= [])(x:Nd):QY (D0 t x) (m+1)∧(D0 t x).am= []:=by
 obtain⟨h1,h2,h3,h4,h5,h6,h7,h8⟩:=h;have e1:=I8 t.fm (.s x.name) (t.facts.length:Int);have e2:=I8 t.lm (.s x.name) (t.lines.length:Int);unfold D0;split
 ·refine⟨⟨UB h1 (by simp) (by simp;omega),h2,h3,by simp;omega,by show t.lines.length≤_;omega,by show(A5 t.fm (.s x.name) (t.facts.length:Int)).length≤_;omega,by show t.lm.length≤_;omega,by show t.am.length≤_;omega⟩,ha⟩
 split
 ·refine⟨⟨h1,UB h2 (by simp) (by simp;omega),fun k=>by have:=h3 k;simp;omega,by show t.facts.length≤_;omega,by simp;omega,by show t.fm.length≤_;omega,by show(A5 t.lm (.s x.name) (t.lines.length:Int)).length≤_;omega,by show t.am.length≤_;omega⟩,ha⟩
 ·exact⟨⟨h1,h2,h3,Zo,Zo,Zo,Zo,Zo⟩,ha⟩
theorem QZ(l:List Nd):QY (cW l) l.length∧(cW l).am= []:=by
 suffices h: ∀(l:List Nd) (t:Tr) (m:Nat),QY t m→t.am= []→QY (l.foldl D0 t) (m+l.length)∧(l.foldl D0 t).am= [] by
  have h0:iS [] 0:=fun k=>⟨Int.le_refl 0,.inr rfl⟩;have:=h l ⟨[],[],[],[],[]⟩ 0 ⟨h0,h0,h0,Nat.le_refl _,Nat.le_refl _,Nat.le_refl _,Nat.le_refl _,Nat.le_refl _⟩ rfl;rw[Nat.zero_add]at this;exact this
 intro l;induction l with
 |nil=>intro t m h ha;exact⟨h,ha⟩
 |cons x r ih=>
  intro t m h ha;obtain⟨h1,h2⟩:=cX h ha x;have:=ih _ _ h1 h2;rw[List.foldl_cons,List.length_cons,show m+(r.length+1)=m+1+r.length by omega];exact this
theorem iT{lm:List (Key×Int)}{n:Nat}(h:iS lm n)(l:List Nd):iS (lU lm l) n∧(lU lm l).length≤l.length:=by
 suffices hh: ∀(l:List Nd) (am:List (Key×Int)) (m:Nat),iS am n→am.length≤m→iS (l.foldl (Hl lm) am) n∧(l.foldl (Hl lm) am).length≤m+l.length by
  have:=hh l [] 0 (fun k=>⟨Int.le_refl 0,.inr rfl⟩) (Nat.le_refl _);rw[Nat.zero_add]at this;exact this
 intro l;induction l with
 |nil=>intro am m h1 h2;exact⟨h1,h2⟩
 |cons x r ih=>
  intro am m h1 h2
  have h3:iS (Hl lm am x) n∧(Hl lm am x).length≤m+1:=by
   have:=I8 am (.i x.n) (A0 lm (.s x.name) 0);unfold Hl;split
   ·exact⟨UB h1 (Nat.le_refl _) (h _),Zo⟩
   ·exact⟨h1,Zo⟩
  have:=ih _ _ h3.1 h3.2;rw[List.foldl_cons,List.length_cons,show m+(r.length+1)=m+1+r.length by omega];exact this
theorem UC(l:List Nd):QY (Fu l) l.length:=by
 obtain⟨h,_⟩:=QZ l;obtain⟨h1,h2⟩:=iT h.l l;exact⟨h.f,h.l,h1,h.fl,h.ll,h.fk,h.lk,h2⟩
def Gy(s:ByteArray):Int:=if s=⟨#[119,101,101,107,100,97,121]⟩then 1 else if s=⟨#[100,97,121]⟩then 2 else if s=⟨#[109,111,110,116,104]⟩then 3 else if s=⟨#[121,101,97,114]⟩then 4 else 0
def Ro(ks:List Ex)(i:Nat):ByteArray:=(ks.getD i default).u
def Sn(a b:ByteArray):ByteArray:=if a=AZ then b else a
def Mg(op:ByteArray)(ks:List Ex):Ex:=
 if op=⟨#[97,110,100]⟩then .mk 6 0 Aa 0 [] ks
 else if op=⟨#[111,114]⟩then .mk 7 0 Aa 0 [] ks
 else if op=⟨#[61,61]⟩then .mk 8 0 Aa 0 [] ks
 else if op=⟨#[33,61]⟩then .mk 5 0 Aa 0 [] [.mk 8 0 Aa 0 [] ks]
 else if op=⟨#[60]⟩then .mk 9 0 Aa 0 [] ks
 else if op=⟨#[60,61]⟩then .mk 10 0 Aa 0 [] ks
 else if op=⟨#[43]⟩then .mk 11 0 (Ro ks 0) 0 [] ks
 else if op=⟨#[45]⟩then .mk 12 0 (Ro ks 0) 0 [] ks
 else if op=⟨#[47]⟩then .mk 14 0 (Ro ks 0) 0 [] ks
 else if op=⟨#[42]⟩then .mk 13 0 (Sn (Ro ks 0) (Ro ks 1)) 0 [] ks
 else if op=⟨#[97,116]⟩then .mk 15 0 (Ro ks 1) 0 [] ks
 else .mk 0 0 Aa 0 [] ks
def V1(t:Tr)(e:Nd):Ex:=
 if e.kind=11 then .mk 1 e.n e.u 0 [] []
 else if e.kind=12 then .mk 2 (A0 t.fm (.s e.name) 0) (t.facts.getD (A0 t.fm (.s e.name) 0).toNat default).u 0 [] []
 else if e.kind=13 then .mk 3 e.n (t.lines.getD (A0 t.am (.i e.n) 0).toNat default).u 0 [] []
 else .mk 4 (Gy e.name) AZ 0 [] []
def UD(t:Tr)(e:Nd)(ks:List Ex):Ex:=
 if e.kind=15 then .mk 5 0 Aa 0 [] ks
 else if e.kind=16 then Mg e.name ks
 else if e.kind=17 then .mk (if e.name=Bd then 17 else 16) 0 (Ro ks 0) 0 [] ks
 else if e.kind=18 then .mk 18 0 (Ro ks 0) e.den e.ps ks
 else V1 t e
mutual
def Fk(t:Tr):Nd→Ex
 | .mk k nm u n f to kn dn ps ks=>UD t (.mk k nm u n f to kn dn ps ks) (mg t ks)
def mg(t:Tr):List Nd→List Ex
 | []=> []
 |k::r=>Fk t k::mg t r
end
theorem V2(t:Tr): ∀ks:List Nd,mg t ks=ks.map (Fk t)
 | []=>rfl
 |k::r=>by rw[mg,V2 t r];rfl
theorem Lp(t:Tr)(e:Nd):Fk t e=UD t e (e.kids.map (Fk t)):=by
 cases e with
 |mk k nm u n f to kn dn ps ks=>rw[Fk,V2];rfl
mutual
def JB:Nd→Bool
 | .mk k nm u n f to kn dn ps ks=>decide (k=12)||UE ks
def UE:List Nd→Bool
 | []=>false
 |k::r=>JB k||UE r
end
theorem Qa: ∀ks:List Nd,UE ks=ks.any JB
 | []=>rfl
 |k::r=>by rw[UE,Qa r];rfl
theorem Qb(e:Nd):JB e=(decide (e.kind=12)||e.kids.any JB):=by
 cases e with
 |mk k nm u n f to kn dn ps ks=>rw[JB,Qa];rfl
mutual
def Ex.depth:Ex→Nat
 | .mk _ _ _ _ _ ks=>1+Ex.A2 ks
def Ex.A2:List Ex→Nat
 | []=>0
 |k::r=>max k.depth (Ex.A2 r)
end
theorem Ex.size_eq(e:Ex):e.size=1+Ex.AP e.kids:=by cases e;rw[Ex.size];rfl
theorem Ex.Ck(e:Ex):e.depth=1+Ex.A2 e.kids:=by cases e;rw[Ex.depth];rfl
theorem cY(op:ByteArray)(ks:List Ex):(Mg op ks).size≤2+Ex.AP ks:=by
 unfold Mg;repeat' split
 all_goals simp only[Ex.size,Ex.AP];omega
theorem iU(t:Tr)(e:Nd):(Fk t e).size≤2*e.size:=by
 induction e using Nd.ind with
 |h e ih=>
  have key: ∀l:List Nd,(∀k∈l,k∈e.kids)→Ex.AP (l.map (Fk t))≤2*Nd.AP l:=by
   intro l;induction l with
   |nil=>intro _;simp[Ex.AP,Nd.AP]
   |cons x r ihr=>
    intro hm;have h1:=ih x (hm x (by simp));have h2:=ihr fun k hk=>hm k (by simp[hk]);simp only[List.map_cons,Ex.AP,Nd.AP];omega
  have hk:=key e.kids fun _ h=>h;have he:=Nd.size_eq e;rw[Lp];unfold UD V1;repeat' split
  any_goals (simp only[Ex.size,Ex.AP];omega)
  have:=cY e.name (e.kids.map (Fk t));omega
end Go.Tp
namespace Go.Ad
open Go.RowKit
def Mi(P:Program)(T:BT)(gf:Bool)(dst:Option Nat)(op:Op)(K:St→Prop)(st:St):Prop:=
 match A6 st.ev op with
 |some (ψ,k,args)=>(ψ∧EX args)∧ ∃H r H',BS P T k (Bu args) H r H'∧qn H H' (Bu args) r st∧(∀id b,Af H id=some b→Af st.heap id=some b)∧Bg (Dz H') st.env∧(∀id b,Af H' id=none→Af st.heap id=some b→b.ids (Dz H'))∧K (St.put ⟨st.env,H'++st.heap⟩ dst (LS gf r))
 |none=>False
theorem V4{P:Program}{T:BT}(hT:T.ok P){n B:Nat}{w0:AT}{st:St}{a:Act}{w:World}{ρ:Nat→Option Value}{I:Nat→Prop}(hG:B3 n B w0 st a w ρ I)(Am:CW w0.gh){o:Oper}(hd:As n o.dst){gf:Bool}{K:St→Prop}(h:Mi P T gf o.dst o.op K st):C1 P n B w0 o a w K:=by
 refine funCStep_ok hT hG Am hd (gf:=gf) ?_;unfold Mi at h;unfold FunCStep;split at h
 ·obtain⟨h1,H,r,H',h2,h3⟩:=h;rename_i Iu;rw[Iu];exact⟨h1,H,r,H',h2.c,h3⟩
 ·exact h.elim
def mI(H H':List (Nat×AN))(args:List AV)(r:AV):Bool:=
 (H.all fun p=>decide (1000≤p.1)&&decide (p.1<2000)&&p.2.C9 (Es H))&&((H.all fun p=>Es H' p.1)&&((H'.all fun p=>decide (1000≤p.1)&&decide (p.1<2000)&&p.2.C9 (Es H'))&&(r.C9 (Es H')&&(AV.DB (Es H) args&&(H'.all fun p=>Es H p.1||p.1%2==1)))))
def iV(H H' F:List (Nat×AN)):Prop:= ∀p∈H',Es H p.1=false→Af F p.1=none
theorem mh{H H':List (Nat×AN)}{args:List AV}{r:AV}{st:St}(h:mI H H' args r=true)(hn:iV H H' st.heap):qn H H' args r st:=by
 unfold mI at h;simp only[Zba,List.all_eq_true,Zdt]at h;obtain⟨h1,h2,h3,h4,h5,h6⟩:=h;refine⟨fun id b hb=>?_,fun id hh=>?_,fun id b hb=>?_,Fp (fun id=>G8) _ h4,Fq (fun id=>G8) _ h5,fun id ha hb=>?_⟩
 ·have:=h1 _ (GS hb);exact⟨⟨this.1.1,this.1.2⟩,AN.Fp (fun id=>G8) this.2⟩
 ·cases hb:Af H id with
  |none=>rfl
  |some b=>exact absurd hh (G8 (h2 _ (GS hb)))
 ·have:=h3 _ (GS hb);exact⟨⟨this.1.1,this.1.2⟩,AN.Fp (fun id=>G8) this.2⟩
 ·have hd:Es H id=false:=by unfold Es;rw[hb];rfl
  cases hc:Af H' id with
  |none=>exact absurd hc ha
  |some b=>
   have:=h6 _ (GS hc);simp only[hd,Bool.false_or,beq_iff_eq]at this;exact⟨this,hn _ (GS hc) hd⟩
def V6(P:Program)(T:BT)(gf:Bool)(dst:Option Nat)(op:Op)(K:St→Prop)(st:St):Prop:=
 match A6 st.ev op with
 |some (ψ,k,args)=>(ψ∧EX args)∧ ∃H r H',BS P T k (Bu args) H r H'∧mI H H' (Bu args) r=true∧iV H H' st.heap∧Vj (LU H') st.env=true∧Sl H' st.heap∧Sd st.heap H∧K (St.put ⟨st.env,H'++st.heap⟩ dst (LS gf r))
 |none=>False
theorem V6.step{P:Program}{T:BT}{gf:Bool}{dst:Option Nat}{op:Op}{K:St→Prop}{st:St}(h:V6 P T gf dst op K st):Mi P T gf dst op K st:=by
 unfold V6 at h;unfold Mi;cases hc:A6 st.ev op with
 |none=>rw[hc]at h;exact h
 |some x=>
  obtain⟨ψ,k,args⟩:=x;rw[hc]at h;obtain⟨h1,H,r,H',h2,h3,qJ,h4,h5,h6,h7⟩:=h;exact⟨h1,H,r,H',h2,mh h3 qJ,fun id b=>KL h6,QI (fun id=>QJ) h4,h5,h7⟩
theorem gn{H F:List (Nat×AN)}:iV H [] F:=fun _ h=>by cases h
theorem cI{H R F:List (Nat×AN)}{k:Nat}{b:AN}(h0:Es H k=true∨Af F k=none)(h:iV H R F):iV H ((k,b)::R) F:=fun p hp hd=>by
 rcases List.mem_cons.1 hp with rfl|hp
 ·rcases h0 with h0|h0
  ·rw[h0]at hd;cases hd
  ·exact h0
 ·exact h p hp hd
section
variable{P:Program}{T:BT}(hT:T.ok P){n B:Nat}{w0:AT}(Am:CW w0.gh){ops:Array Oper}{K:St→Prop}{o:Oper}{rest:List Oper}{st:St}
include hT Am
theorem fN(h: ∀K':St→Prop,(∀s,AK P n B w0 ops K rest s→K' s)→V6 P T false o.dst o.op K' st)(hg:o.guard=none:=by rfl)(hd:As n o.dst:=by simp only[As,Nat.reduceLT]):AK P n B w0 ops K (o::rest) st:=by
 intro a w ρ I hG next Q FZ
 rw[CI hg hG];have h':=h _ fun _ h=>h;refine LF (fun c' HU=>?_) (V4 hT hG Am hd h'.step next Q FZ);rw[HU]at h';exact h'
end
theorem iW{P:Program}{o:Oper}{t:TypeId}{m k v:Operand}(h:o.op=.insert t m k v)(a:Act)(w:World)(next:Act→World→Prop)(Q:Exit→Act→World→Prop):Oper.wp P {o with op:=.mapUpdate t m k v} a w next Q=Oper.wp P o a w next Q:=by
 obtain⟨dst,op,ty,pos,aft,gd⟩:=o;simp only at h;subst h;rfl
theorem Hi{P:Program}{T:BT}(hT:T.ok P){n B:Nat}{w0:AT}{ops:Array Oper}{K:St→Prop}{o:Oper}{rest:List Oper}{st:St}{t:TypeId}{m k v:Operand}(E4:o.op=.insert t m k v)(hg:o.guard=none)(h: ∀K':St→Prop,(∀s,AK P n B w0 ops K rest s→K' s)→IJ T o.dst (.mapUpdate t m k v) K' st):AK P n B w0 ops K (o::rest) st:=by
 intro a w ρ I hG next Q FZ
 rw[CI hg hG];have h':=h _ fun _ h=>h;refine LF (fun c' HU=>by rw[E4]at HU;cases HU) ?_;rw[←iW E4];exact Lf hT hG (o:= {o with op:=.mapUpdate t m k v}) h' next Q FZ
theorem AI{P:Program}{n B:Nat}{w0:AT}{c:Code}{Q:Exit→St→Prop}{st:St}(S:St)(h2:Q .ret S)(h1:BY P n B w0 c (fun e s=>e=.ret∧ ∀a w,G n B w0 s a w→G n B w0 S a w) st):BY P n B w0 c Q st:=fun a w hG=>
 wpIn_mono (h1 a w hG) fun e a' w' ⟨s,⟨he,hs⟩,Cj⟩=>by subst he;exact⟨S,h2,hs _ _ Cj⟩
attribute [push_cast] V6
end Go.Ad
