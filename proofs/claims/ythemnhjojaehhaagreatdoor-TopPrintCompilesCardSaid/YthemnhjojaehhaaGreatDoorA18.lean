/- Part of a proof. -/
import Derived.Laws.Strings
import Derived.Test.YthemnhjojaehhaaGreatDoorProg
import Derived.KernelRfl
import Derived.Test.YthemnhjojaehhaaGreatDoorA17
set_option linter.all false
namespace Go.Tp
open Go.Ad Go.RowKit
theorem mK(s:ByteArray):(s==s)=true:=by
 cases s with
 |mk d=>
  show ByteArray.beq _ _=true;unfold ByteArray.beq;simp
theorem vM(a b:ByteArray):(a.toList==b.toList)=decide (a=b):=by
 rw[ByteArray.toList_eq,ByteArray.toList_eq];by_cases h:a=b
 ·subst h;simp
 ·rw[Zdf h];have: ¬a.data.toList=b.data.toList:=fun e=>h (by cases a;cases b;simp at e;rw[e]);simpa using this
theorem gp(a:ByteArray):decide (a=a)=true:=Zde rfl
attribute [push_cast] mK vM gp
theorem Ap{α:Type}[Inhabited α]{l:List α}{i:Nat}(h:i<l.length):l.getD i default∈l:=by
 simp[Zlg,h]
theorem Kt{α:Type}[Inhabited α]{l:List α}{x:α}(h:x∈l): ∃i,i<l.length∧l.getD i default=x:=by
 obtain⟨i,hi,rfl⟩:=List.getElem_of_mem h;exact⟨i,hi,by simp[Zlg,hi]⟩
def DA(n:Int):Prop:= -9223372036854775808≤n∧n≤9223372036854775807
abbrev An(s:ByteArray):AV:=.v (.string s)
attribute [push_cast] An
def Et(p:Pc):List AV:= [AE p.fr,AE p.pa,AE p.sl]
attribute [push_cast] Et
mutual
def Rj:Ex→List AV
 | .mk o n u d ps ks=> [AE o,AE n,An u,AE d,C2 Et 3 ps,.i false (fun e j=>((mL ks).getD e []).getD j .top) 6 0 ks.length]
def mL:List Ex→List (List AV)
 | []=> []
 |k::r=>Rj k::mL r
end
theorem Vm: ∀ks:List Ex,mL ks=ks.map Rj
 | []=>rfl
 |k::r=>by rw[mL,Vm r];rfl
def Dq(ks:List Ex):AV:=.i false (fun e j=>((ks.map Rj).getD e []).getD j .top) 6 0 ks.length
attribute [push_cast] Dq
def DO(e:Ex):List AV:= [AE e.op,AE e.n,An e.u,AE e.den,C2 Et 3 e.ps,Dq e.kids]
attribute [push_cast] DO
theorem QN(e:Ex):Rj e=DO e:=by
 cases e with
 |mk o n u d ps ks=>rw[Rj,Vm];rfl
theorem DH{ks:List Ex}{k:Nat}(h:k<ks.length):(ks.map Rj).getD k []=DO (ks.getD k default):=by
 rw[←QN];simp[Zlg,h]
theorem Tx(ps:List Pc):(C2 Et 3 ps).un=C2 Et 3 ps:=by
 unfold C2;rw[AV.un]
 congr 1
 funext e j;rw[←GZ]
 congr 1
theorem qu(e:Ex): ∀j,((Rj e).getD j .top).un=(Rj e).getD j .top:=by
 induction e using Ex.ind with
 |h e ih=>
  intro j;rw[QN]
  have h6:(Dq e.kids).un=Dq e.kids:=by
   unfold Dq;rw[AV.un]
   congr 1
   funext k j;by_cases hk:k<e.kids.length
   ·rw[DH hk,←QN];exact ih _ (Ap hk) j
   ·have:(e.kids.map Rj).getD k []= []:=by simp[Zlg,List.getElem?_eq_none (show e.kids.length≤k by omega)]
    rw[this];rfl
  rw[←GZ]
  congr 1
  show AV.VB [_,_,_,_,_,_]=_;simp only[AV.VB,AV.un,DO,h6,Tx]
theorem gq(ks:List Ex)(e j:Nat):(((ks.map Rj).getD e []).getD j .top).un=((ks.map Rj).getD e []).getD j .top:=by
 by_cases hk:e<ks.length
 ·rw[DH hk,←QN];exact qu _ j
 ·have:(ks.map Rj).getD e []= []:=by simp[Zlg,List.getElem?_eq_none (show ks.length≤e by omega)]
  rw[this];rfl
theorem mM(ks:List Ex):(Dq ks).un=Dq ks:=by
 unfold Dq;rw[AV.un];congr 1;funext e j;exact gq ks e j
attribute [push_cast] gq
theorem mN(l:List Int):(ints l).un=ints l:=rfl
def Vn(d:De):List AV:= [An d.name,An d.u,AE d.role]
attribute [push_cast] Vn
def DX(a:Ar):List AV:= [AE a.num,AE a.line,AE a.Ri,AE a.fr,AE a.to,AE a.known,Dq a.FU,ints a.G9,AE a.GU.op,AE a.GU.n,An a.GU.u,AE a.GU.den,C2 Et 3 a.GU.ps,Dq a.GU.kids]
section
variable(a:Ar)
theorem qv:(DX a).getD 0 .top=AE a.num:=rfl
theorem qw:(DX a).getD 1 .top=AE a.line:=rfl
theorem qz:(DX a).getD 2 .top=AE a.Ri:=rfl
theorem rA:(DX a).getD 3 .top=AE a.fr:=rfl
theorem rC:(DX a).getD 4 .top=AE a.to:=rfl
theorem rD:(DX a).getD 5 .top=AE a.known:=rfl
theorem rE:(DX a).getD 6 .top=Dq a.FU:=rfl
theorem rF:(DX a).getD 7 .top=ints a.G9:=rfl
theorem rG:(DX a).getD 8 .top=AE a.GU.op:=rfl
theorem rH:(DX a).getD 9 .top=AE a.GU.n:=rfl
theorem mO:(DX a).getD 10 .top=An a.GU.u:=rfl
theorem mP:(DX a).getD 11 .top=AE a.GU.den:=rfl
theorem mQ:(DX a).getD 12 .top=C2 Et 3 a.GU.ps:=rfl
theorem mR:(DX a).getD 13 .top=Dq a.GU.kids:=rfl
theorem mS(j:Nat):((DX a).getD j .top).un=(DX a).getD j .top:=by
 rw[←GZ]
 congr 1
 show AV.VB [_,_,_,_,_,_,_,_,_,_,_,_,_,_]=_;simp only[AV.VB,AV.un,DX,mM,Tx,mN]
end
attribute [push_cast] qv qw qz rA rC rD rE rF rG rH mO mP mQ mR mS
abbrev Im(l:List De):AV:=C2 Vn 3 l
abbrev Ty(l:List Ar):AV:=C2 DX 14 l
def Rk(c:Cd):List AV:= [Im c.facts,Im c.lines,Ty c.BX]
attribute [push_cast] Rk
mutual
def Dj:Nd→List AV
 | .mk k nm u n f t kn d ps ks=> [AE k,An nm,An u,AE n,AE f,AE t,AE kn,AE d,C2 Et 3 ps,.i false (fun e j=>((Z4 ks).getD e []).getD j .top) 11 0 ks.length,.o]
def Z4:List Nd→List (List AV)
 | []=> []
 |k::r=>Dj k::Z4 r
end
theorem Se: ∀ks:List Nd,Z4 ks=ks.map Dj
 | []=>rfl
 |k::r=>by rw[Z4,Se r];rfl
def CS(ks:List Nd):AV:=.i false (fun e j=>((ks.map Dj).getD e []).getD j .top) 11 0 ks.length
attribute [push_cast] CS
def A1(e:Nd):List AV:= [AE e.kind,An e.name,An e.u,AE e.n,AE e.fr,AE e.to,AE e.known,AE e.den,C2 Et 3 e.ps,CS e.kids,.o]
attribute [push_cast] A1
theorem Jb(e:Nd):Dj e=A1 e:=by
 cases e with
 |mk k nm u n f t kn d ps ks=>rw[Dj,Se];rfl
theorem Aw{ks:List Nd}{k:Nat}(h:k<ks.length):(ks.map Dj).getD k []=A1 (ks.getD k default):=by
 rw[←Jb];simp[Zlg,h]
theorem mT(e:Nd): ∀j,((Dj e).getD j .top).un=(Dj e).getD j .top:=by
 induction e using Nd.ind with
 |h e ih=>
  intro j;rw[Jb]
  have h6:(CS e.kids).un=CS e.kids:=by
   unfold CS;rw[AV.un]
   congr 1
   funext k j;by_cases hk:k<e.kids.length
   ·rw[Aw hk,←Jb];exact ih _ (Ap hk) j
   ·have:(e.kids.map Dj).getD k []= []:=by simp[Zlg,List.getElem?_eq_none (show e.kids.length≤k by omega)]
    rw[this];rfl
  rw[←GZ]
  congr 1
  show AV.VB [_,_,_,_,_,_,_,_,_,_,_]=_;simp only[AV.VB,AV.un,A1,h6,Tx]
theorem mU(ks:List Nd)(e j:Nat):(((ks.map Dj).getD e []).getD j .top).un=((ks.map Dj).getD e []).getD j .top:=by
 by_cases hk:e<ks.length
 ·rw[Aw hk,←Jb];exact mT _ j
 ·have:(ks.map Dj).getD e []= []:=by simp[Zlg,List.getElem?_eq_none (show ks.length≤e by omega)]
  rw[this];rfl
attribute [push_cast] mU
def ET(t:Tk):List AV:= [AE t.kind,An t.text,.o]
def rJ(d:Dg):List AV:= [AE d.err,.o]
attribute [push_cast] ET rJ
abbrev KO(l:List Tk):AV:=C2 ET 3 l
abbrev KP(l:List Dg):AV:=C2 rJ 2 l
def gr(p:Pc):Prop:=DA p.fr∧DA p.pa∧DA p.sl
def Rl(l:List Pc):Prop:=(∀p∈l,gr p)∧l.length≤9223372036854775807
mutual
def Js:Ex→Prop
 | .mk o n u d ps ks=>DA o∧DA n∧u.size≤9223372036854775807∧DA d∧Rl ps∧gv ks∧ks.length≤9223372036854775807
def gv:List Ex→Prop
 | []=>True
 |k::r=>Js k∧gv r
end
theorem QO: ∀ {l:List Ex},gv l↔ ∀e∈l,Js e
 | []=>by simp[gv]
 |k::r=>by rw[gv,QO];simp
def Ob(l:List Ex):Prop:=(∀e∈l,Js e)∧l.length≤9223372036854775807
theorem Js.spec{e:Ex}(h:Js e):DA e.op∧DA e.n∧e.u.size≤9223372036854775807∧DA e.den∧Rl e.ps∧Ob e.kids:=by
 cases e with
 |mk o n u d ps ks=>
  rw[Js,QO]at h;exact⟨h.1,h.2.1,h.2.2.1,h.2.2.2.1,h.2.2.2.2.1,h.2.2.2.2.2⟩
theorem Js.mk{o n:Int}{u:ByteArray}{d:Int}{ps:List Pc}{ks:List Ex}(h1:DA o)(h2:DA n)(h3:u.size≤9223372036854775807)(h4:DA d)(h5:Rl ps)(h6:Ob ks):Js (.mk o n u d ps ks):=by
 rw[Js,QO];exact⟨h1,h2,h3,h4,h5,h6⟩
theorem Ob.nth{l:List Ex}(h:Ob l){k:Nat}(hk:k<l.length):Js (l.getD k default):=h.1 _ (Ap hk)
def mV(d:De):Prop:=d.name.size≤9223372036854775807∧d.u.size≤9223372036854775807∧DA d.role
def vN(l:List De):Prop:=(∀p∈l,mV p)∧l.length≤9223372036854775807
def okI(l:List Int):Prop:=(∀p∈l,DA p)∧l.length≤9223372036854775807
structure gw (a:Ar):Prop where
 num:DA a.num
 line:DA a.line
 Ri:DA a.Ri
 fr:DA a.fr
 to:DA a.to
 known:DA a.known
 FU:Ob a.FU
 G9:okI a.G9
 GU:Js a.GU
def rK(l:List Ar):Prop:=(∀p∈l,gw p)∧l.length≤9223372036854775807
structure rL (c:Cd):Prop where
 facts:vN c.facts
 lines:vN c.lines
 BX:rK c.BX
theorem rK.nth{l:List Ar}(h:rK l){k:Nat}(hk:k<l.length):gw (l.getD k default):=h.1 _ (Ap hk)
mutual
def Cz:Nd→Prop
 | .mk k nm u n f t kn d ps ks=>DA k∧nm.size≤9223372036854775807∧u.size≤9223372036854775807∧DA n∧DA f∧DA t∧DA kn∧DA d∧Rl ps∧cJ ks∧ks.length≤9223372036854775807
def cJ:List Nd→Prop
 | []=>True
 |k::r=>Cz k∧cJ r
end
theorem QP: ∀ {l:List Nd},cJ l↔ ∀e∈l,Cz e
 | []=>by simp[cJ]
 |k::r=>by rw[cJ,QP];simp
def cK(l:List Nd):Prop:=(∀e∈l,Cz e)∧l.length≤9223372036854775807
structure uK (e:Nd):Prop where
 kind:DA e.kind
 name:e.name.size≤9223372036854775807
 u:e.u.size≤9223372036854775807
 n:DA e.n
 fr:DA e.fr
 to:DA e.to
 known:DA e.known
 den:DA e.den
 ps:Rl e.ps
 kids:cK e.kids
theorem Cz.spec{e:Nd}(h:Cz e):uK e:=by
 cases e with
 |mk k nm u n f t kn d ps ks=>
  rw[Cz,QP]at h;exact⟨h.1,h.2.1,h.2.2.1,h.2.2.2.1,h.2.2.2.2.1,h.2.2.2.2.2.1,h.2.2.2.2.2.2.1,h.2.2.2.2.2.2.2.1,h.2.2.2.2.2.2.2.2.1,⟨h.2.2.2.2.2.2.2.2.2.1,h.2.2.2.2.2.2.2.2.2.2⟩⟩
theorem uK.ok{e:Nd}(h:uK e):Cz e:=by
 cases e with
 |mk k nm u n f t kn d ps ks=>
  rw[Cz,QP];exact⟨h.kind,h.name,h.u,h.n,h.fr,h.to,h.known,h.den,h.ps,h.kids.1,h.kids.2⟩
theorem cK.nth{l:List Nd}(h:cK l){k:Nat}(hk:k<l.length):Cz (l.getD k default):=h.1 _ (Ap hk)
def E9(F:Nat)(P:Program)(t:TypeId){α:Type}(av:α→List AV)(ok:α→Prop):Prop:=
 ∀(H:Type) (enc:TypeId×Value→H) (W:World) (sp:Nat→Bool) (fuel:Nat) (cs:List Value) (x:DataW H×List MemPlace),fuel≤F→DataW.trod enc P W 0 sp true fuel t cs=some x→
  ∃a,ok a∧At W.heap.size (G4 W) W DW (av a) cs
theorem Reads.bd{P:Program}{t:TypeId}{α:Type}{av:α→List AV}{ok:α→Prop}(h:Reads P t av ok)(F:Nat):E9 F P t av ok:=fun H enc W sp fuel cs x _ hx=>h H enc W sp fuel cs x hx
theorem E9.all{P:Program}{t:TypeId}{α:Type}{av:α→List AV}{ok:α→Prop}(h: ∀F,E9 F P t av ok):Reads P t av ok:=fun H enc W sp fuel cs x hx=>h fuel H enc W sp fuel cs x (Nat.le_refl _) hx
def O7(F:Nat)(P:Program)(fs:List (TypeId×Nat))(pos tot:Nat){α:Type}(av:α→List AV)(ok:α→Prop):Prop:=
 ∀(H:Type) (enc:TypeId×Value→H) (W:World) (sp:Nat→Bool) (n:Nat) (cs:List Value),n≤F→cs.length=tot→
  (∀p∈fs,∃y,DataW.trod enc P W 0 sp true n p.1 ((cs.drop p.2).take (P.cellsOf p.1))=some y)→ ∃a,ok a∧At W.heap.size (G4 W) W DW (av a) (cs.drop pos)
theorem Vo{F:Nat}{P:Program}{pos:Nat}:O7 F P [] pos pos (fun _:Unit=> []) (fun _=>True):=by
 intro H enc W sp n cs _ hl _;refine⟨(),trivial,?_⟩;rw[List.drop_of_length_le Zo];exact At.nil
theorem CT{F:Nat}{P:Program}{t:TypeId}{k pos tot:Nat}{fs:List (TypeId×Nat)}{α β:Type}{av:α→List AV}{ok:α→Prop}{av':β→List AV}{ok':β→Prop}(hk:P.cellsOf t=k)(h1:E9 F P t av ok)(h2:O7 F P fs (pos+k) tot av' ok'):
  O7 F P ((t,pos)::fs) pos tot (fun p:α×β=>av p.1++av' p.2) (fun p=>ok p.1∧ok' p.2):=by
 intro H enc W sp n cs hF hl hf;obtain⟨y,hy⟩:=hf (t,pos) (by simp);obtain⟨a,ha,ca⟩:=h1 H enc W sp n _ y hF hy;obtain⟨b,hb,cb⟩:=h2 H enc W sp n cs hF hl (fun p hp=>hf p (by simp[hp]));refine⟨(a,b),⟨ha,hb⟩,?_⟩;have:=At.append ca cb;simp only at this;rw[hk,←List.drop_drop,List.take_append_drop]at this;exact this
theorem Rm{F:Nat}{P:Program}{t:TypeId}{fs:Array Field}{tot:Nat}{l:List (TypeId×Nat)}{α:Type}{av:α→List AV}{ok:α→Prop}(ht:P.underlying t=some (.struct fs))(hl:fs.toList.map (fun f=>(f.type,f.offset))=l)(hc:P.cellsOf t=tot)(h:O7 F P l 0 tot av ok):E9 (F+1) P t av ok:=by
 intro H enc W sp fuel cs x hF hx;obtain⟨xs,n,hn,_,h1,h2,h3⟩:=DataW.trod_struct ht hx
 have:=h H enc W sp n cs Zo Zo (fun p hp=>by
  rw[←hl]at hp;obtain⟨f,hf,rfl⟩:=List.mem_map.1 hp;obtain⟨i,hi⟩:=List.getElem?_of_mem hf;have h4:=h3 i f (by simpa using hi)
  have MA:i<xs.length:=by
   have:=(List.getElem?_eq_some_iff.1 hi).1;simp at this;omega
  rw[Zeg MA]at h4;exact⟨_,h4⟩)
 simpa using this
theorem Vp{P:Program}{t:TypeId}{fs:Array Field}{α:Type}{av:α→List AV}{ok:α→Prop}(ht:P.underlying t=some (.struct fs)):E9 0 P t av ok:=by
 intro H enc W sp fuel cs x hF hx;obtain⟨xs,n,hn,_⟩:=DataW.trod_struct ht hx;omega
theorem mW{F:Nat}{P:Program}{t e:TypeId}(ht:P.underlying t=some (.slice e))(hc:P.cellsOf e=6)(h:E9 F P e Rj Js):E9 F P t (fun zs:List Ex=> [Dq zs]) Ob:=by
 intro H enc W sp fuel cs x hF hx;rcases DataW.trod_slice ht hx with ⟨rfl,_⟩|⟨a,len,cap,elems,rest,n,hn,rfl,_,hb,hl,hm,hlen,RX,_,_⟩
 ·refine⟨[],⟨by simp,by simp⟩,At.cons ?_ At.nil⟩;exact .i _ _ _ _ _ _ _ (fun _ _=>undef) (by simp) (fun hp=>by simp at hp) (fun e f he=>by simp at he)
 ·rw[hc]at RX
  have each2: ∀i,∃(cs':List Value) (z:Ex),i<len→W.cells? 0 (a.add (i*6)) 6=some cs'∧Js z∧At W.heap.size (G4 W) W DW (Rj z) cs':=fun i=>by
   by_cases hi:i<len
   ·have:=RX i hi;rw[Zeg Zo,Option.bind_eq_some_iff]at this;obtain⟨cs',h1,h2⟩:=this;obtain⟨z,h3,h4⟩:=h H enc W sp n cs' _ Zo h2;exact⟨cs',z,fun _=>⟨h1,h3,h4⟩⟩
   ·exact⟨[],default,fun hh=>absurd hh hi⟩
  refine⟨(List.range len).map (fun i=>Classical.choose (Classical.choose_spec (each2 i))),⟨fun z hz=>?_,by simp;have:maxLen=9223372036854775807:=rfl;omega⟩,At.cons ?_ At.nil⟩
  ·obtain⟨i,hi,rfl⟩:=List.mem_map.1 hz;exact(Classical.choose_spec (Classical.choose_spec (each2 i)) (by simpa using hi)).2.1
  ·have N6: ∀i,i<len→(((List.range len).map (fun i=>Classical.choose (Classical.choose_spec (each2 i)))).map Rj).getD i []=Rj (Classical.choose (Classical.choose_spec (each2 i))):=fun i hi=>by
    simp[Zlg,hi]
   unfold Dq;simp only[List.length_map,List.length_range]
   have cell: ∀i j,i<len→j<6→W.cell? (a.add (i*6+j))=some ((Classical.choose (each2 i)).getD j undef):=fun i j hi hj=>by
    obtain⟨h1,_,_⟩:=Classical.choose_spec (Classical.choose_spec (each2 i)) hi;obtain⟨_,h2,h3⟩:=World.cells?_some h1;have:=h3 j hj;rw[add_add]at this;rw[this,Zeg Zo];simp[Zlg,show j<(Classical.choose (each2 i)).length by omega]
   refine .i _ _ _ _ _ _ _ (fun i j=>(Classical.choose (each2 i)).getD j undef) hl (fun hp=>⟨a,rfl,?_,(fun h=>by cases h),cell⟩) (fun i j hi hj=>?_)
   ·have:=cell 0 0 hp Zo;unfold World.cell? at this;show a.block<W.heap.size;rcases Nat.lt_or_ge a.block W.heap.size with h|h
    ·exact h
    ·exfalso;have hn:W.heap[(a.add (0*6+0)).block]? =none:=by rw[Df];exact Array.getElem?_eq_none h
     rw[hn]at this;cases this
   ·rw[Nat.zero_add,N6 i hi];obtain⟨h1,_,h4⟩:=Classical.choose_spec (Classical.choose_spec (each2 i)) hi;have C0:=h4.1;obtain⟨_,h2,_⟩:=World.cells?_some h1;exact h4.2 j Zo
theorem Tz{F:Nat}{P:Program}{t e:TypeId}(ht:P.underlying t=some (.slice e))(hc:P.cellsOf e=11)(h:E9 F P e Dj Cz):E9 F P t (fun zs:List Nd=> [CS zs]) cK:=by
 intro H enc W sp fuel cs x hF hx;rcases DataW.trod_slice ht hx with ⟨rfl,_⟩|⟨a,len,cap,elems,rest,n,hn,rfl,_,hb,hl,hm,hlen,RX,_,_⟩
 ·refine⟨[],⟨by simp,by simp⟩,At.cons ?_ At.nil⟩;exact .i _ _ _ _ _ _ _ (fun _ _=>undef) (by simp) (fun hp=>by simp at hp) (fun e f he=>by simp at he)
 ·rw[hc]at RX
  have each2: ∀i,∃(cs':List Value) (z:Nd),i<len→W.cells? 0 (a.add (i*11)) 11=some cs'∧Cz z∧At W.heap.size (G4 W) W DW (Dj z) cs':=fun i=>by
   by_cases hi:i<len
   ·have:=RX i hi;rw[Zeg Zo,Option.bind_eq_some_iff]at this;obtain⟨cs',h1,h2⟩:=this;obtain⟨z,h3,h4⟩:=h H enc W sp n cs' _ Zo h2;exact⟨cs',z,fun _=>⟨h1,h3,h4⟩⟩
   ·exact⟨[],default,fun hh=>absurd hh hi⟩
  refine⟨(List.range len).map (fun i=>Classical.choose (Classical.choose_spec (each2 i))),⟨fun z hz=>?_,by simp;have:maxLen=9223372036854775807:=rfl;omega⟩,At.cons ?_ At.nil⟩
  ·obtain⟨i,hi,rfl⟩:=List.mem_map.1 hz;exact(Classical.choose_spec (Classical.choose_spec (each2 i)) (by simpa using hi)).2.1
  ·have N6: ∀i,i<len→(((List.range len).map (fun i=>Classical.choose (Classical.choose_spec (each2 i)))).map Dj).getD i []=Dj (Classical.choose (Classical.choose_spec (each2 i))):=fun i hi=>by
    simp[Zlg,hi]
   unfold CS;simp only[List.length_map,List.length_range]
   have cell: ∀i j,i<len→j<11→W.cell? (a.add (i*11+j))=some ((Classical.choose (each2 i)).getD j undef):=fun i j hi hj=>by
    obtain⟨h1,_,_⟩:=Classical.choose_spec (Classical.choose_spec (each2 i)) hi;obtain⟨_,h2,h3⟩:=World.cells?_some h1;have:=h3 j hj;rw[add_add]at this;rw[this,Zeg Zo];simp[Zlg,show j<(Classical.choose (each2 i)).length by omega]
   refine .i _ _ _ _ _ _ _ (fun i j=>(Classical.choose (each2 i)).getD j undef) hl (fun hp=>⟨a,rfl,?_,(fun h=>by cases h),cell⟩) (fun i j hi hj=>?_)
   ·have:=cell 0 0 hp Zo;unfold World.cell? at this;show a.block<W.heap.size;rcases Nat.lt_or_ge a.block W.heap.size with h|h
    ·exact h
    ·exfalso;have hn:W.heap[(a.add (0*11+0)).block]? =none:=by rw[Df];exact Array.getElem?_eq_none h
     rw[hn]at this;cases this
   ·rw[Nat.zero_add,N6 i hi];obtain⟨h1,_,h4⟩:=Classical.choose_spec (Classical.choose_spec (each2 i)) hi;have C0:=h4.1;obtain⟨_,h2,_⟩:=World.cells?_some h1;exact h4.2 j Zo
end Go.Tp
namespace Go.Proofs.YthemnhjojaehhaaGreatDoor
open Go.Ad Go.Proofs Go.Tp
attribute [local irreducible] A8 AK BY
def T:BT
 |2=>some ⟨.int .i64,1,8,.int .i64 0⟩
 |3=>some ⟨.int .i64,1,8,.int .i64 0⟩
 |4=>some ⟨.bool,1,1,.bool false⟩
 |5=>some ⟨.int .u8,1,1,.int .u8 0⟩
 |9=>some ⟨.str,1,16,.string ⟨#[]⟩⟩
 |20=>some ⟨.lR,1,16,.nilIface⟩
 |22=>some ⟨.sl 93,1,24,.slice none 0 0⟩
 |24=>some ⟨.st false [(0,3),(1,22)],2,32,.agg #[.int .i64 0,.slice none 0 0]⟩
 |25=>some ⟨.sl 27,1,24,.slice none 0 0⟩
 |27=>some ⟨.st false [(0,3),(1,9),(2,9),(3,3),(4,3),(5,3),(6,3),(7,24),(9,25),(10,3)],11,136,.agg #[.int .i64 0,.string ⟨#[]⟩,.string ⟨#[]⟩,.int .i64 0,.int .i64 0,.int .i64 0,.int .i64 0,.int .i64 0,.slice none 0 0,.slice none 0 0,.int .i64 0]⟩
 |30=>some ⟨.int .i64,1,8,.int .i64 0⟩
 |33=>some ⟨.sl 59,1,24,.slice none 0 0⟩
 |36=>some ⟨.sl 129,1,24,.slice none 0 0⟩
 |37=>some ⟨.sl 82,1,24,.slice none 0 0⟩
 |39=>some ⟨.st false [(0,36),(1,36),(2,37)],3,72,.agg #[.slice none 0 0,.slice none 0 0,.slice none 0 0]⟩
 |45=>some ⟨.lR,1,8,.nilFunc⟩
 |46=>some ⟨.ptr 48,1,8,.pointer none⟩
 |48=>some ⟨.st false [(0,3)],1,8,.agg #[.int .i64 0]⟩
 |51=>some ⟨.ptr 100,1,8,.pointer none⟩
 |55=>some ⟨.sl 111,1,24,.slice none 0 0⟩
 |59=>some ⟨.st false [(0,30),(1,3)],2,16,.agg #[.int .i64 0,.int .i64 0]⟩
 |60=>some ⟨.ptr 62,1,8,.pointer none⟩
 |62=>some ⟨.st false [(0,55),(1,3),(2,3)],3,40,.agg #[.slice none 0 0,.int .i64 0,.int .i64 0]⟩
 |65=>some ⟨.lR,1,8,.nilFunc⟩
 |69=>some ⟨.ptr 74,1,8,.pointer none⟩
 |71=>some ⟨.OX 9 3,1,8,.map none⟩
 |72=>some ⟨.OX 3 3,1,8,.map none⟩
 |74=>some ⟨.st false [(0,39),(3,71),(4,71),(5,72)],6,96,.agg #[.slice none 0 0,.slice none 0 0,.slice none 0 0,.map none,.map none,.map none]⟩
 |77=>some ⟨.sl 80,1,24,.slice none 0 0⟩
 |78=>some ⟨.sl 3,1,24,.slice none 0 0⟩
 |80=>some ⟨.st false [(0,3),(1,3),(2,9),(3,24),(5,77)],6,88,.agg #[.int .i64 0,.int .i64 0,.string ⟨#[]⟩,.int .i64 0,.slice none 0 0,.slice none 0 0]⟩
 |82=>some ⟨.st false [(0,3),(1,3),(2,3),(3,3),(4,3),(5,3),(6,77),(7,78),(8,80)],14,184,.agg #[.int .i64 0,.int .i64 0,.int .i64 0,.int .i64 0,.int .i64 0,.int .i64 0,.slice none 0 0,.slice none 0 0,.int .i64 0,.int .i64 0,.string ⟨#[]⟩,.int .i64 0,.slice none 0 0,.slice none 0 0]⟩
 |86=>some ⟨.st false [(0,39),(3,72),(4,3)],5,88,.agg #[.slice none 0 0,.slice none 0 0,.slice none 0 0,.map none,.int .i64 0]⟩
 |93=>some ⟨.st true [(0,3),(1,3),(2,3)],3,24,.agg #[.int .i64 0,.int .i64 0,.int .i64 0]⟩
 |94=>some ⟨.arr 9 3,9,72,.agg #[.int .i64 0,.int .i64 0,.int .i64 0,.int .i64 0,.int .i64 0,.int .i64 0,.int .i64 0,.int .i64 0,.int .i64 0]⟩
 |95=>some ⟨.ptr 98,1,8,.pointer none⟩
 |96=>some ⟨.sl 5,1,24,.slice none 0 0⟩
 |98=>some ⟨.st false [(0,95),(1,96)],2,32,.agg #[.pointer none,.slice none 0 0]⟩
 |100=>some ⟨.st false [(0,98),(2,71)],3,40,.agg #[.pointer none,.slice none 0 0,.map none]⟩
 |102=>some ⟨.lR,1,16,.nilIface⟩
 |108=>some ⟨.lR,1,8,.nilFunc⟩
 |111=>some ⟨.st false [(0,3),(1,9),(2,3)],3,32,.agg #[.int .i64 0,.string ⟨#[]⟩,.int .i64 0]⟩
 |114=>some ⟨.lR,1,8,.nilFunc⟩
 |117=>some ⟨.ptr 33,1,8,.pointer none⟩
 |120=>some ⟨.OX 9 9,1,8,.map none⟩
 |121=>some ⟨.OX 3 9,1,8,.map none⟩
 |123=>some ⟨.st false [(0,120),(1,120),(2,121)],3,24,.agg #[.map none,.map none,.map none]⟩
 |129=>some ⟨.st true [(0,9),(1,9),(2,3)],3,40,.agg #[.string ⟨#[]⟩,.string ⟨#[]⟩,.int .i64 0]⟩
 |135=>some ⟨.OX 9 4,1,8,.map none⟩
 |136=>some ⟨.ptr 86,1,8,.pointer none⟩
 |141=>some ⟨.lR,1,8,.nilFunc⟩
 |149=>some ⟨.ptr 4,1,8,.pointer none⟩
 |150=>some ⟨.OX 3 135,1,8,.map none⟩
 |159=>some ⟨.arr 2 3,2,16,.agg #[.int .i64 0,.int .i64 0]⟩
 |160=>some ⟨.arr 6 159,12,96,.agg #[.int .i64 0,.int .i64 0,.int .i64 0,.int .i64 0,.int .i64 0,.int .i64 0,.int .i64 0,.int .i64 0,.int .i64 0,.int .i64 0,.int .i64 0,.int .i64 0]⟩
 |165=>some ⟨.arr 17 9,17,272,.agg #[.string ⟨#[]⟩,.string ⟨#[]⟩,.string ⟨#[]⟩,.string ⟨#[]⟩,.string ⟨#[]⟩,.string ⟨#[]⟩,.string ⟨#[]⟩,.string ⟨#[]⟩,.string ⟨#[]⟩,.string ⟨#[]⟩,.string ⟨#[]⟩,.string ⟨#[]⟩,.string ⟨#[]⟩,.string ⟨#[]⟩,.string ⟨#[]⟩,.string ⟨#[]⟩,.string ⟨#[]⟩]⟩
 |166=>some ⟨.arr 5 9,5,80,.agg #[.string ⟨#[]⟩,.string ⟨#[]⟩,.string ⟨#[]⟩,.string ⟨#[]⟩,.string ⟨#[]⟩]⟩
 |170=>some ⟨.sl 9,1,24,.slice none 0 0⟩
 |177=>some ⟨.int .u64,1,8,.int .u64 0⟩
 |182=>some ⟨.arr 13 3,13,104,.agg #[.int .i64 0,.int .i64 0,.int .i64 0,.int .i64 0,.int .i64 0,.int .i64 0,.int .i64 0,.int .i64 0,.int .i64 0,.int .i64 0,.int .i64 0,.int .i64 0,.int .i64 0]⟩
 |184=>some ⟨.arr 128 5,128,128,.agg (Array.replicate 128 (.int .u8 0))⟩
 |191=>some ⟨.arr 20 177,20,160,.agg #[.int .u64 0,.int .u64 0,.int .u64 0,.int .u64 0,.int .u64 0,.int .u64 0,.int .u64 0,.int .u64 0,.int .u64 0,.int .u64 0,.int .u64 0,.int .u64 0,.int .u64 0,.int .u64 0,.int .u64 0,.int .u64 0,.int .u64 0,.int .u64 0,.int .u64 0,.int .u64 0]⟩
 |197=>some ⟨.arr 3 3,3,24,.agg #[.int .i64 0,.int .i64 0,.int .i64 0]⟩
 |210=>some ⟨.arr 6 9,6,96,.agg #[.string ⟨#[]⟩,.string ⟨#[]⟩,.string ⟨#[]⟩,.string ⟨#[]⟩,.string ⟨#[]⟩,.string ⟨#[]⟩]⟩
 |211=>some ⟨.arr 6 210,36,576,.agg #[.string ⟨#[]⟩,.string ⟨#[]⟩,.string ⟨#[]⟩,.string ⟨#[]⟩,.string ⟨#[]⟩,.string ⟨#[]⟩,.string ⟨#[]⟩,.string ⟨#[]⟩,.string ⟨#[]⟩,.string ⟨#[]⟩,.string ⟨#[]⟩,.string ⟨#[]⟩,.string ⟨#[]⟩,.string ⟨#[]⟩,.string ⟨#[]⟩,.string ⟨#[]⟩,.string ⟨#[]⟩,.string ⟨#[]⟩,.string ⟨#[]⟩,.string ⟨#[]⟩,.string ⟨#[]⟩,.string ⟨#[]⟩,.string ⟨#[]⟩,.string ⟨#[]⟩,.string ⟨#[]⟩,.string ⟨#[]⟩,.string ⟨#[]⟩,.string ⟨#[]⟩,.string ⟨#[]⟩,.string ⟨#[]⟩,.string ⟨#[]⟩,.string ⟨#[]⟩,.string ⟨#[]⟩,.string ⟨#[]⟩,.string ⟨#[]⟩,.string ⟨#[]⟩]⟩
 |229=>some ⟨.sl 231,1,24,.slice none 0 0⟩
 |231=>some ⟨.st false [(0,3),(1,3),(2,3),(3,3)],4,32,.agg #[.int .i64 0,.int .i64 0,.int .i64 0,.int .i64 0]⟩
 |233=>some ⟨.ptr 3,1,8,.pointer none⟩
 |_=>none
attribute [push_cast] T
theorem hT:T.ok Tryz.prog:=by
 intro t i h;unfold T at h;split at h
 ·cases h;exact A3 Zk Tryz.underlying2
 ·cases h;exact A3 Zk Tryz.underlying3
 ·cases h;exact A3 Zk Tryz.underlying4
 ·cases h;exact A3 Zk Tryz.underlying5
 ·cases h;exact A3 Zk Tryz.underlying9
 ·cases h;exact A3 Zk ⟨_,Tryz.underlying20,rfl⟩
 ·cases h;exact A3 Zk Tryz.underlying22
 ·cases h;exact A3 Zk ⟨_,Tryz.underlying24,rfl,fun h=>by cases h⟩
 ·cases h;exact A3 Zk Tryz.underlying25
 ·cases h;exact A3 Zk ⟨_,Tryz.underlying27,rfl,fun h=>by cases h⟩
 ·cases h;exact A3 Zk Tryz.underlying30
 ·cases h;exact A3 Zk Tryz.underlying33
 ·cases h;exact A3 Zk Tryz.underlying36
 ·cases h;exact A3 Zk Tryz.underlying37
 ·cases h;exact A3 Zk ⟨_,Tryz.underlying39,rfl,fun h=>by cases h⟩
 ·cases h;exact A3 Zk ⟨_,Tryz.underlying45,rfl⟩
 ·cases h;exact A3 Zk Tryz.underlying46
 ·cases h;exact A3 Zk ⟨_,Tryz.underlying48,rfl,fun h=>by cases h⟩
 ·cases h;exact A3 Zk Tryz.underlying51
 ·cases h;exact A3 Zk Tryz.underlying55
 ·cases h;exact A3 Zk ⟨_,Tryz.underlying59,rfl,fun h=>by cases h⟩
 ·cases h;exact A3 Zk Tryz.underlying60
 ·cases h;exact A3 Zk ⟨_,Tryz.underlying62,rfl,fun h=>by cases h⟩
 ·cases h;exact A3 Zk ⟨_,Tryz.underlying65,rfl⟩
 ·cases h;exact A3 Zk Tryz.underlying69
 ·cases h;exact A3 Zk Tryz.underlying71
 ·cases h;exact A3 Zk Tryz.underlying72
 ·cases h;exact A3 Zk ⟨_,Tryz.underlying74,rfl,fun h=>by cases h⟩
 ·cases h;exact A3 Zk Tryz.underlying77
 ·cases h;exact A3 Zk Tryz.underlying78
 ·cases h;exact A3 Zk ⟨_,Tryz.underlying80,rfl,fun h=>by cases h⟩
 ·cases h;exact A3 Zk ⟨_,Tryz.underlying82,rfl,fun h=>by cases h⟩
 ·cases h;exact A3 Zk ⟨_,Tryz.underlying86,rfl,fun h=>by cases h⟩
 ·cases h;exact A3 Zk ⟨_,Tryz.underlying93,rfl,fun _=>⟨Zk,Zk,Zk⟩⟩
 ·cases h;exact A3 Zk Tryz.underlying94
 ·cases h;exact A3 Zk Tryz.underlying95
 ·cases h;exact A3 Zk Tryz.underlying96
 ·cases h;exact A3 Zk ⟨_,Tryz.underlying98,rfl,fun h=>by cases h⟩
 ·cases h;exact A3 Zk ⟨_,Tryz.underlying100,rfl,fun h=>by cases h⟩
 ·cases h;exact A3 Zk ⟨_,Tryz.underlying102,rfl⟩
 ·cases h;exact A3 Zk ⟨_,Tryz.underlying108,rfl⟩
 ·cases h;exact A3 Zk ⟨_,Tryz.underlying111,rfl,fun h=>by cases h⟩
 ·cases h;exact A3 Zk ⟨_,Tryz.underlying114,rfl⟩
 ·cases h;exact A3 Zk Tryz.underlying117
 ·cases h;exact A3 Zk Tryz.underlying120
 ·cases h;exact A3 Zk Tryz.underlying121
 ·cases h;exact A3 Zk ⟨_,Tryz.underlying123,rfl,fun h=>by cases h⟩
 ·cases h;exact A3 Zk ⟨_,Tryz.underlying129,rfl,fun _=>⟨Zk,Zk,Zk⟩⟩
 ·cases h;exact A3 Zk Tryz.underlying135
 ·cases h;exact A3 Zk Tryz.underlying136
 ·cases h;exact A3 Zk ⟨_,Tryz.underlying141,rfl⟩
 ·cases h;exact A3 Zk Tryz.underlying149
 ·cases h;exact A3 Zk Tryz.underlying150
 ·cases h;exact A3 Zk Tryz.underlying159
 ·cases h;exact A3 Zk Tryz.underlying160
 ·cases h;exact A3 Zk Tryz.underlying165
 ·cases h;exact A3 Zk Tryz.underlying166
 ·cases h;exact A3 Zk Tryz.underlying170
 ·cases h;exact A3 Zk Tryz.underlying177
 ·cases h;exact A3 Zk Tryz.underlying182
 ·cases h;exact A3 Zk Tryz.underlying184
 ·cases h;exact A3 Zk Tryz.underlying191
 ·cases h;exact A3 Zk Tryz.underlying197
 ·cases h;exact A3 Zk Tryz.underlying210
 ·cases h;exact A3 Zk Tryz.underlying211
 ·cases h;exact A3 Zk Tryz.underlying229
 ·cases h;exact A3 Zk ⟨_,Tryz.underlying231,rfl,fun h=>by cases h⟩
 ·cases h;exact A3 Zk Tryz.underlying233
 ·cases h
theorem hm:Tryz.prog.follows .mixedOrders=true:=Zk
theorem rI:Reads Tryz.prog 3 (fun n:Int=> [AE n]) DA:=(bw Tryz.underlying3).map (fun a=>a) (fun _=>rfl) (fun a h=>yl h)
theorem rS:Reads Tryz.prog 9 (fun s:ByteArray=> [An s]) (fun s=>s.size≤9223372036854775807):=(bx Tryz.underlying9).map (fun a=>a) (fun _=>rfl) (fun a h=>h)
theorem yu:Reads Tryz.prog 3 (fun _:Unit=> [AV.o]) (fun _=>True):=by
 intro H enc W sp fuel cs x hx;obtain⟨a,_,h1,h2⟩:=rI H enc W sp fuel cs x hx;refine⟨(),trivial,h1,fun j hj=>?_⟩;obtain rfl:j=0:=by simp at hj;omega
 exact .o _ (by rw[(h2 0 (by simp)).Ao];rfl)
theorem rPc:Reads Tryz.prog 93 Et gr:=
 (MO Tryz.underlying93 rfl Zk (Gb (k:=1) Zk rI (Gb (k:=1) Zk rI (Gb (k:=1) Zk rI P3)))).map (fun a=>⟨a.1,a.2.1,a.2.2.1⟩) (fun _=>rfl) (fun a h=>⟨h.1,h.2.1,h.2.2.1⟩)
theorem rPs:Reads Tryz.prog 22 (fun l=> [C2 Et 3 l]) Rl:=Vb Tryz.underlying22 Zk Zd rPc
theorem rFn:Reads Tryz.prog 24 (fun p:Int×List Pc=> [AE p.1,C2 Et 3 p.2]) (fun p=>DA p.1∧Rl p.2):=
 (MO Tryz.underlying24 rfl Zk (Gb (k:=1) Zk rI (Gb (k:=1) Zk rPs P3))).map (fun a=>⟨a.1,a.2.1⟩) (fun _=>rfl) (fun a h=>⟨h.1,h.2.1⟩)
theorem E9.map{F:Nat}{P:Program}{t:TypeId}{α β:Type}{av:α→List AV}{ok:α→Prop}(h:E9 F P t av ok)(f:α→β){av':β→List AV}{ok':β→Prop}(uW: ∀a,av' (f a)=av a)(Ae: ∀a,ok a→ok' (f a)):E9 F P t av' ok':=by
 intro H enc W sp fuel cs x hF hx;obtain⟨a,h1,h2⟩:=h H enc W sp fuel cs x hF hx;exact⟨f a,Ae a h1,by rw[uW];exact h2⟩
theorem rNb: ∀F,E9 F Tryz.prog 27 Dj Cz
 |0=>Vp Tryz.underlying27
 |F+1=>
  E9.map (Rm (F:=F) Tryz.underlying27 rfl Zk (CT (k:=1) Zk (Go.Tp.Reads.bd rI F) (CT (k:=1) Zk (Go.Tp.Reads.bd rS F) (CT (k:=1) Zk (Go.Tp.Reads.bd rS F) (CT (k:=1) Zk (Go.Tp.Reads.bd rI F) (CT (k:=1) Zk (Go.Tp.Reads.bd rI F) (CT (k:=1) Zk (Go.Tp.Reads.bd rI F) (CT (k:=1) Zk (Go.Tp.Reads.bd rI F) (CT (k:=2) Zk (Go.Tp.Reads.bd rFn F) (CT (k:=1) Zk (Tz Tryz.underlying25 Zk (rNb F)) (CT (k:=1) Zk (Go.Tp.Reads.bd yu F) Vo)))))))))))
   (fun a=>Nd.mk a.1 a.2.1 a.2.2.1 a.2.2.2.1 a.2.2.2.2.1 a.2.2.2.2.2.1 a.2.2.2.2.2.2.1 a.2.2.2.2.2.2.2.1.1 a.2.2.2.2.2.2.2.1.2 a.2.2.2.2.2.2.2.2.1) (fun a=>by rw[Jb];rfl)
   (fun a h=>uK.ok ⟨h.1,h.2.1,h.2.2.1,h.2.2.2.1,h.2.2.2.2.1,h.2.2.2.2.2.1,h.2.2.2.2.2.2.1,h.2.2.2.2.2.2.2.1.1,h.2.2.2.2.2.2.2.1.2,h.2.2.2.2.2.2.2.2.1⟩)
theorem rN:Reads Tryz.prog 27 A1 Cz:=by
 have:A1=Dj:=by funext e;exact(Jb e).symm
 rw[this];exact E9.all rNb
theorem gx{p:Nat→Prop}{k:Nat}(h: ∀j,j<k→p j)(hk:p k): ∀j,j<k+1→p j:=fun j hj=>by
 rcases Nat.lt_or_ge j k with h1|h1
 ·exact h j h1
 ·have:j=k:=Zo
  subst this;exact hk
def vO(E:List (Nat×AV)):List (Nat×AV)→Prop
 | []=>True
 |(s,v)::r=>lk E s=v∧vO E r
theorem AA{E:List (Nat×AV)}: ∀ {E':List (Nat×AV)},vO E E'→ ∀s,lk E' s=.top∨lk E' s=lk E s
 | [],_,s=>.inl rfl
 |(k,v)::r,h,s=>by
  simp only[lk];split
  ·rename_i e;subst e;exact .inr h.1.symm
  ·exact AA h.2 s
end Go.Proofs.YthemnhjojaehhaaGreatDoor
