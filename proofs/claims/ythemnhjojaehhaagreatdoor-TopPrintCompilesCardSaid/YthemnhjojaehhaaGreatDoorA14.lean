/- Part of a proof. -/
import Derived.Test.YthemnhjojaehhaaGreatDoorA13
set_option linter.all false
namespace Go.Ad
open Go.RowKit
def cD(N k id:Nat):Nat:=if id=N then k else id
def AV.rn(N k:Nat):AV→AV
 | .v x=>.v x
 | .s id=>.s (cD N k id)
 | .w id off len=>.w (cD N k id) off len
 | .p id off=>.p (cD N k id) off
 | .i fr c sz off len=>.i fr c sz off len
 | .q fr c sz e j=>.q fr c sz e j
 | .a cs=>.a (Rh N k cs)
 | .t cs=>.t (Rh N k cs)
 | .f fn cs=>.f fn (Rh N k cs)
 | .g b x=>.g b (AV.rn N k x)
 | .o=>.o
 | .top=>.top
where Rh (N k:Nat):List AV→List AV
 | []=> []
 |x::r=>AV.rn N k x::Rh N k r
theorem FR(N k:Nat)(cs:List AV):(AV.rn.Rh N k cs).length=cs.length:=by
 induction cs with
 |nil=>rfl
 |cons x r ih=>simp[AV.rn.Rh,ih]
theorem MW(N k:Nat)(cs:List AV)(j:Nat):(AV.rn.Rh N k cs).getD j .top=(cs.getD j .top).rn N k:=by
 induction cs generalizing j with
 |nil=>simp[AV.rn.Rh,AV.rn]
 |cons x r ih=>cases j with
  |zero=>simp[AV.rn.Rh]
  |succ j=>simpa[AV.rn.Rh]using ih j
theorem AL.rn{N k B:Nat}{I:Nat→Prop}{w:World}{ρ:Nat→Option Value}{x:AV}{u:Value}(h:AL B I w ρ x u):x.ids (fun id=>id≠k)→ ∀ρ',(∀id,(id≠k)→ρ' (cD N k id)=ρ id)→AL B I w ρ' (x.rn N k) u:=by
 induction h with
 |v x=>intro _ ρ' _;rw[AV.rn];exact .v x
 |s id x h h1=>intro hi ρ' hr;rw[AV.rn];rw[AV.ids]at hi;exact .s _ x (by rw[hr id hi];exact h) h1
 |w id off len cap A x h BW hA=>intro hi ρ' hr;rw[AV.rn];rw[AV.ids]at hi;exact .w _ off len cap A x (by rw[hr id hi];exact h) BW hA
 |p id off b x h hb=>intro hi ρ' hr;rw[AV.rn];rw[AV.ids]at hi;exact .p _ off b x (by rw[hr id hi];exact h) hb
 |i fr c sz off len cap A u BW hA hc ih=>intro _ ρ' _;rw[AV.rn];exact .i fr c sz off len cap A u BW hA hc
 |q fr c sz e f ad u h2 h3 Bf hc ih=>intro _ ρ' _;rw[AV.rn];exact .q fr c sz e f ad u h2 h3 Bf hc
 |a cs us hl h ih=>intro hi ρ' hr;rw[AV.rn];rw[AV.ids]at hi;exact .a _ us (by rw[FR];exact hl) fun j hj=>by rw[FR]at hj;rw[MW];exact ih j hj (Cc hi j) ρ' hr
 |t cs us hl h ih=>intro hi ρ' hr;rw[AV.rn];rw[AV.ids]at hi;exact .t _ us (by rw[FR];exact hl) fun j hj=>by rw[FR]at hj;rw[MW];exact ih j hj (Cc hi j) ρ' hr
 |f fn cs us hl h ih=>intro hi ρ' hr;rw[AV.rn];rw[AV.ids]at hi;exact .f fn _ us (by rw[FR];exact hl) fun j hj=>by rw[FR]at hj;rw[MW];exact ih j hj (Cc hi j) ρ' hr
 |g b x u h h0 ih=>intro hi ρ' hr;rw[AV.rn];rw[AV.ids]at hi;exact .g b _ u (fun hb=>ih hb hi ρ' hr) h0
 |o u h1=>intro _ ρ' _;rw[AV.rn];exact .o u h1
 |top u=>intro _ ρ' _;rw[AV.rn];exact .top u
def AH.rn(N k:Nat):AH→AH
 | .ints q l=>.ints q l
 | .BJ l=>.BJ l
 | .AF l=>.AF (AV.rn.Rh N k l)
def AN.rn(N k:Nat):AN→AN
 | .box t c=>.box t (c.rn N k)
 | .row e sz c=>.row e sz c
 | .mp c=>.mp c
 | .DN kd ks c=>.DN kd ks (c.rn N k)
 | .FD e c=>.FD e (c.rn N k)
theorem AH.YH(N k:Nat)(c:AH):(c.rn N k).len=c.len:=by cases c<;>simp[AH.rn,AH.len,FR]
theorem AH.gb(N k:Nat)(c:AH)(j:Nat):(c.rn N k).at j=(c.at j).rn N k:=by cases c<;>simp only[AH.rn,AH.at,AV.rn,MW]
def IL(N k:Nat):List (Nat×AV)→List (Nat×AV)
 | []=> []
 |(s,x)::r=>(s,x.rn N k)::IL N k r
def Gd(N k:Nat):List (Nat×AN)→List (Nat×AN)
 | []=> []
 |(d,b)::r=>(cD N k d,b.rn N k)::Gd N k r
theorem gi(N k:Nat): ∀(E:List (Nat×AV)) (s:Nat),lk (IL N k E) s=(lk E s).rn N k
 | [],s=>by simp[IL,lk,AV.rn]
 |(t,x)::r,s=>by
  simp only[IL,lk];split
  ·rfl
  ·exact gi N k r s
theorem MY(N k:Nat): ∀ {H:List (Nat×AN)} (_:Bz (fun id=>id≠k) H) {id:Nat} {b:AN},Af (Gd N k H) id=some b→ ∃id0 b0,id=cD N k id0∧(id0≠k)∧Af H id0=some b0∧b=b0.rn N k
 | [],_,_,_,h=>by cases h
 |(d,c)::r,hi,id,b,h=>by
  simp only[Gd,Af]at h;split at h
  ·rename_i e;injection h with h;exact⟨d,c,e.symm,hi.1,by simp[Af],h.symm⟩
  ·rename_i e;obtain⟨id0,b0,e1,e0,e2,e3⟩:=MY N k hi.2.2 h;refine⟨id0,b0,e1,e0,?_,e3⟩;simp only[Af];rw[if_neg (fun hh=>e (by rw[hh,e1]))];exact e2
theorem G.rn{n B:Nat}{w0:AT}{st:St}{a:Act}{w:World}(hG:G n B w0 st a w)(N k:Nat)(hE:Bg (fun id=>id≠k) st.env)(hH:Bz (fun id=>id≠k) st.heap)(F8:w0.gh k=none):G n B w0 ⟨IL N k st.env,Gd N k st.heap⟩ a w:=by
 obtain⟨ρ,I,h⟩:=hG
 have hρ: ∀id,(id≠k)→(fun j=>if j=k then ρ N else ρ j) (cD N k id)=ρ id:=fun id hid=>by
  unfold cD;split
  ·rename_i e;subst e;simp only;rw[if_pos trivial]
  ·simp only;rw[if_neg hid]
 refine⟨fun j=>if j=k then ρ N else ρ j,I,h.defers,h.size,fun s=>?_,⟨fun id blk hk=>?_,fun id id' b1 b2 x x' b CD k1 k2 hx CP hb=>?_,fun id blk x b hk hx hb=>?_,h.hw.lt⟩,h.below,h.base,⟨h.BQ.up,fun id x hx=>?_,h.BQ.JQ,h.BQ.B2⟩⟩
 ·show AL _ _ _ _ (lk (IL N k st.env) s) _;rw[gi];exact(h.env s).rn (MP hE s) _ hρ
 ·obtain⟨id0,b0,rfl,e0,h2,rfl⟩:=MY N k hH hk;obtain⟨x,hx,Ae⟩:=h.hw.ok id0 b0 h2;refine⟨x,by rw[←hx];exact hρ id0 e0,?_⟩;cases b0 with
  |box t c=>
   obtain⟨b,us,rfl,hB,hh,hl,hc⟩:=Ae;exact⟨b,us,rfl,hB,hh,by rw[AH.YH];exact hl,fun j u hu=>by rw[AH.gb];exact(hc j u hu).rn (AH.QB (Ep hH h2).2 j) _ hρ⟩
  |row e sz c=>exact Ae
  |mp c=>exact Ae
  |DN kd ks c=>
   obtain⟨b,BJ,rfl,hB,hm,hl,C0,hc⟩:=Ae;exact⟨b,BJ,rfl,hB,hm,hl,by rw[AH.YH];exact C0,fun j u hu=>by rw[AH.gb];exact(hc j u hu).rn (AH.MU (Ep hH h2).2 j) _ hρ⟩
  |FD e c=>
   obtain⟨m,xs,ho,hl,hc⟩:=Ae;exact⟨m,xs,ho,by rw[AH.YH];exact hl,fun j u hu=>by rw[AH.gb];exact(hc j u hu).rn (AH.MT (Ep hH h2).2 j) _ hρ⟩
 ·obtain⟨i1,c1,rfl,e1,g1,rfl⟩:=MY N k hH k1;obtain⟨i2,c2,rfl,e2,g2,rfl⟩:=MY N k hH k2;have RO:ρ i1=some x:=by rw[←hρ i1 e1];exact hx
  have fW:ρ i2=some x':=by rw[←hρ i2 e2];exact CP
  exact h.hw.apart i1 i2 c1 c2 x x' b (fun e=>CD (by rw[e])) g1 g2 RO fW hb
 ·obtain⟨i1,c1,rfl,e1,g1,rfl⟩:=MY N k hH hk;have RO:ρ i1=some x:=by rw[←hρ i1 e1];exact hx
  exact h.hw.J2 i1 c1 x b g1 RO hb
 ·have: ¬id=k:=fun hh=>by subst hh;rw[F8]at hx;cases hx
  show(if id=k then ρ N else ρ id)=x;rw[if_neg this];exact h.BQ.gh id x hx
attribute [push_cast] cD AV.rn AV.rn.Rh AH.rn AN.rn IL Gd
theorem gj{n B:Nat}{w0:AT}{st st1 st2:St}(N k:Nat)(h1: ∀a w,G n B w0 st a w→G n B w0 st1 a w)(hE:Bg (fun id=>id≠k) st1.env)(hH:Bz (fun id=>id≠k) st1.heap)(F8:w0.gh k=none)(h2: ∀a w,G n B w0 ⟨IL N k st1.env,Gd N k st1.heap⟩ a w→G n B w0 st2 a w): ∀a w,G n B w0 st a w→G n B w0 st2 a w:=
 fun a w h=>h2 a w ((h1 a w h).rn N k hE hH F8)
def Ij(d:Nat)(blk:AN):List AV→List AV
 | []=> []
 |x::r=>Ec d blk x::Ij d blk r
theorem Vh(d:Nat)(blk:AN)(cs:List AV):(Ij d blk cs).length=cs.length:=by
 induction cs with
 |nil=>rfl
 |cons x r ih=>simp[Ij,ih]
theorem cE(d:Nat)(blk:AN)(cs:List AV)(j:Nat):(Ij d blk cs).getD j .top=Ec d blk (cs.getD j .top):=by
 induction cs generalizing j with
 |nil=>simp[Ij,Ec,AV.kill]
 |cons x r ih=>cases j with
  |zero=>simp[Ij]
  |succ j=>simpa[Ij]using ih j
def Ik(d:Nat)(blk:AN):AH→AH
 | .AF l=>.AF (Ij d blk l)
 | .ints k l=>.ints k l
 | .BJ l=>.BJ l
theorem QD(d:Nat)(blk:AN)(c:AH):(Ik d blk c).len=c.len:=by cases c<;>simp[Ik,AH.len,Vh]
theorem To(d:Nat)(blk:AN)(c:AH)(j:Nat):(Ik d blk c).at j=Ec d blk (c.at j):=by cases c<;>simp only[Ik,AH.at,Ec,AV.kill,cE]
attribute [push_cast] Ik
theorem HW.sub{B:Nat}{I:Nat→Prop}{w:World}{ρ:Nat→Option Value}{H H':List (Nat×AN)}(h:HW B I w ρ H)(hs: ∀id blk,Af H' id=some blk→Af H id=some blk):HW B I w ρ H':=
 ⟨fun id blk hk=>h.ok id blk (hs _ _ hk),fun id id' b1 b2 x x' b CD k1 k2=>h.apart id id' b1 b2 x x' b CD (hs _ _ k1) (hs _ _ k2),fun id blk x b hk=>h.J2 id blk x b (hs _ _ hk),h.lt⟩
mutual
def AV.own(p:Nat→Prop):AV→Prop
 | .v _=>True
 | .s id=>p id
 | .w id _ _=>p id
 | .p id _=>p id
 | .i _ _ _ _ _=>False
 | .q _ _ _ _ _=>False
 | .a cs=>AV.Tq p cs
 | .t cs=>AV.Tq p cs
 | .f _ cs=>AV.Tq p cs
 | .g _ x=>AV.own p x
 | .o=>True
 | .top=>True
def AV.Tq(p:Nat→Prop):List AV→Prop
 | []=>True
 |x::r=>AV.own p x∧AV.Tq p r
end
theorem I5{p:Nat→Prop}: ∀ {cs:List AV} (_:AV.Tq p cs) (j:Nat),(cs.getD j .top).own p
 | [],_,_=>by simp[AV.own]
 |x::r,h,0=>by simp only[AV.Tq]at h;simpa using h.1
 |x::r,h,j+1=>by simp only[AV.Tq]at h;simpa using I5 h.2 j
theorem AL.own{p:Nat→Prop}{B:Nat}{I I':Nat→Prop}{w:World}{ρ:Nat→Option Value}{x:AV}{u:Value}(h:AL B I w ρ x u):x.own p→ ∀ρ',(∀id,p id→ρ' id=ρ id)→AL B I' w ρ' x u:=by
 induction h with
 |v x=>intro _ ρ' _;exact .v x
 |s id x h h1=>intro hg ρ' hr;exact .s id x (by rw[hr id hg];exact h) h1
 |w id off len cap A x h BW hA=>intro hg ρ' hr;exact .w id off len cap A x (by rw[hr id hg];exact h) BW hA
 |p id off b x h hb=>intro hg ρ' hr;exact .p id off b x (by rw[hr id hg];exact h) hb
 |i fr c sz off len cap A u BW hA hc ih=>intro hg;rw[AV.own]at hg;exact hg.elim
 |q fr c sz e f ad u h2 h3 Bf hc ih=>intro hg;rw[AV.own]at hg;exact hg.elim
 |a cs us hl h ih=>intro hg ρ' hr;rw[AV.own]at hg;exact .a cs us hl fun j hj=>ih j hj (I5 hg j) ρ' hr
 |t cs us hl h ih=>intro hg ρ' hr;rw[AV.own]at hg;exact .t cs us hl fun j hj=>ih j hj (I5 hg j) ρ' hr
 |f fn cs us hl h ih=>intro hg ρ' hr;rw[AV.own]at hg;exact .f fn cs us hl fun j hj=>ih j hj (I5 hg j) ρ' hr
 |g b x u h h0 ih=>intro hg ρ' hr;rw[AV.own]at hg;exact .g b x u (fun hb=>ih hb hg ρ' hr) h0
 |o u h1=>intro _ ρ' _;exact .o u h1
 |top u=>intro _ ρ' _;exact .top u
def AH.own(p:Nat→Prop):AH→Prop
 | .AF l=>AV.Tq p l
 |_=>True
theorem AH.Ts{p:Nat→Prop}{c:AH}(h:c.own p)(j:Nat):(c.at j).own p:=by
 cases c with
 |ints k l=>simp only[AH.at,AV.own]
 |BJ l=>simp only[AH.at,AV.own]
 |AF l=>exact I5 h j
def AN.own(p:Nat→Prop):AN→Prop
 | .box _ c=>c.own p
 | .row _ _ c=>c.own (fun _=>False)
 | .mp _=>True
 | .FD _ c=>c.own p
 | .DN _ _ c=>c.own p
theorem Db.own{p:Nat→Prop}{B:Nat}{I I':Nat→Prop}{w:World}{ρ ρ':Nat→Option Value}{x:Value}{blk:AN}(h:Db B I w ρ x blk)(ho:blk.own p)(hr: ∀id,p id→ρ' id=ρ id):Db B I' w ρ' x blk:=by
 cases blk with
 |box t c=>
  obtain⟨b,us,rfl,hB,hh,hl,hc⟩:=h;exact⟨b,us,rfl,hB,hh,hl,fun j u hu=>(hc j u hu).own (AH.Ts ho j) _ hr⟩
 |row e sz c=>
  obtain⟨m,xs,H3,hl,hc⟩:=h;exact⟨m,xs,H3,hl,fun j u hu=>(hc j u hu).own (AH.Ts ho j) _ (fun _ h=>h.elim)⟩
 |mp c=>exact h
 |FD e c=>
  obtain⟨m,xs,H3,hl,hc⟩:=h;exact⟨m,xs,H3,hl,fun j u hu=>(hc j u hu).own (AH.Ts ho j) _ hr⟩
 |DN kd ks c=>
  obtain⟨b,BJ,rfl,hB,hm,hl,C0,hc⟩:=h;exact⟨b,BJ,rfl,hB,hm,hl,C0,fun j u hu=>(hc j u hu).own (AH.Ts ho j) _ hr⟩
theorem Db.base{B B':Nat}{I:Nat→Prop}{w:World}{ρ:Nat→Option Value}{x:Value}{blk:AN}(h:Db B I w ρ x blk)(uY:B'≤B):Db B' I w ρ x blk:=by
 have HU: ∀ {ρ':Nat→Option Value} {x:AV} {u:Value},AL B I w ρ' x u→AL B' I w ρ' x u:=fun h=>h.mono uY (fun b hb=>⟨hb,rfl⟩) _ (fun _ _ h=>h);cases blk with
 |box t c=>
  obtain⟨b,us,rfl,hB,hh,hl,hc⟩:=h;exact⟨b,us,rfl,Nat.le_trans uY hB,hh,hl,fun j u hu=>HU (hc j u hu)⟩
 |row e sz c=>
  obtain⟨m,xs,H3,hl,hc⟩:=h;exact⟨m,xs,MQ H3 uY,hl,fun j u hu=>HU (hc j u hu)⟩
 |mp c=>
  obtain⟨b,rfl,hB,hm⟩:=h;exact⟨b,rfl,Nat.le_trans uY hB,hm⟩
 |FD e c=>
  obtain⟨m,xs,H3,hl,hc⟩:=h;exact⟨m,xs,MQ H3 uY,hl,fun j u hu=>HU (hc j u hu)⟩
 |DN kd ks c=>
  obtain⟨b,BJ,rfl,hB,hm,hl,C0,hc⟩:=h;exact⟨b,BJ,rfl,Nat.le_trans uY hB,hm,hl,C0,fun j u hu=>HU (hc j u hu)⟩
theorem Db.ids{p:Nat→Prop}{B:Nat}{I:Nat→Prop}{w:World}{ρ ρ':Nat→Option Value}{x:Value}{blk:AN}(h:Db B I w ρ x blk)(ho:blk.ids p)(hr: ∀id,p id→ρ' id=ρ id):Db B I w ρ' x blk:=by
 cases blk with
 |box t c=>
  obtain⟨b,us,rfl,hB,hh,hl,hc⟩:=h;exact⟨b,us,rfl,hB,hh,hl,fun j u hu=>(hc j u hu).ids (AH.QB ho j) _ hr⟩
 |row e sz c=>exact h
 |mp c=>exact h
 |FD e c=>
  obtain⟨m,xs,H3,hl,hc⟩:=h;exact⟨m,xs,H3,hl,fun j u hu=>(hc j u hu).ids (AH.MT ho j) _ hr⟩
 |DN kd ks c=>
  obtain⟨b,BJ,rfl,hB,hm,hl,C0,hc⟩:=h;exact⟨b,BJ,rfl,hB,hm,hl,C0,fun j u hu=>(hc j u hu).ids (AH.MU ho j) _ hr⟩
attribute [push_cast] AV.own AV.Tq AH.own AN.own
theorem G.Al{n B:Nat}{w0:AT}{st st':St}(hE: ∀s,lk st'.env s=.top∨lk st'.env s=lk st.env s)(hH: ∀s b,Af st'.heap s=some b→Af st.heap s=some b): ∀a w,G n B w0 st a w→G n B w0 st' a w:=fun a w ⟨ρ,I,h⟩=>
 ⟨ρ,I,h.defers,h.size,fun s=>by
  rcases hE s with e|e
  ·rw[e];exact .top _
  ·rw[e];exact h.env s,h.hw.sub hH,h.below,h.base,h.BQ⟩
end Go.Ad
namespace Go.Ad.V3
open Go.RowKit
section
variable{P:Program}{T:BT}(hT:T.ok P){n B:Nat}{w0:AT}{l:List Oper}{ms:List Nat}{rs:List (Nat×List Nat)}(hD:O0 l ms rs)
include hD
end
attribute [push_cast] pk
end Go.Ad.V3
namespace Go.Ad
open Go
theorem ff{p:Prop}(h:p:=by first|omega|exact(fun hh=>hh)|(simp only[List.length_take,List.length_drop,List.length_append,List.length_map,List.length_cons,List.length_nil,List.length_replicate,List.length_set];omega)|(intro hh;(try simp only[hh,Bool.not_false,Bool.not_true,Bool.true_and,Bool.and_true,eq_self,true_and,and_true]);(try simp only[bh,Zdt,decide_eq_false_iff_not]at hh);(first|done|omega|(simp only[List.length_take,List.length_drop,List.length_append,List.length_map,List.length_cons,List.length_nil,List.length_replicate,List.length_set];omega)|(intro h2;simp only[h2,Bool.not_false,Bool.not_true];done)))|exact rfl):p:=h
theorem gd{p:Prop}(h:p:=by intro hb;first|exact hb|exact⟨hb,hb⟩|exact⟨hb,hb,hb⟩|exact⟨hb,hb,hb,hb⟩|(simp only[hb,true_and,and_true,Bool.and_true,Bool.true_and];done)):p:=h
theorem fC{p:Prop}(h:p:=by(try intro hb);first|exact .inr rfl|exact .inl (by simp[AV.fresh,AV.Ie])):p:=h
theorem VC:((∀a b:Bool,((a&&b)=true)=(a=true∧b=true))∧(∀a b:Bool,((a||b)=true)=(a=true∨b=true))∧(∀a b:Bool,((a&&b)=false)=(a=false∨b=false))∧(∀a b:Bool,((a||b)=false)=(a=false∧b=false))∧
  (∀a:Bool,((!a)=true)=(a=false))∧(∀a:Bool,((!a)=false)=(a=true))∧(∀a b:Int,(¬a<b)=(b≤a))∧(∀a b:Int,(¬a≤b)=(b<a))∧(∀a b:Int,((a==b)=true)=(a=b))∧(∀a b:Int,((a==b)=false)=(¬a=b))∧(∀a b:Int,((a != b)=true)=(¬a=b))∧(∀a b:Int,((a != b)=false)=(a=b)))∧
  (∀(q:Prop) [Decidable q],(decide q=true)=q)∧(∀(q:Prop) [Decidable q],(decide q=false)= ¬q)∧(∀a:Bool,(a=a)=True)∧((¬True)=False)∧((¬False)=True)∧((true=false)=False)∧((false=true)=False)∧(∀a:Bool,(a != a)=false)∧(∀a:Bool,(a==a)=true)∧(∀a:Int,(a==a)=true)∧(∀a:Int,(a != a)=false)∧(∀a:Int,(a=a)=True):=
 ⟨bh,fun q _=>by simp,fun q _=>by simp,fun a=>by simp,by simp,by simp,by simp,by simp,Zd,Zd,fun a=>by simp,fun a=>by simp,fun a=>by simp⟩
section
variable{P:Program}{T:BT}(hT:T.ok P){n B:Nat}{w0:AT}{ops:Array Oper}{K:St→Prop}{o:Oper}{rest:List Oper}{st:St}{g:Option (Nat×Bool)}
theorem oC(h: ∀K':St→Prop,(∀s,A8 P T n ops K rest s→K' s)→I4 P T n o.dst o.op g K' st)(hg:Rd ops o.guard=some g:=by rfl):A8 P T n ops K (o::rest) st:=SP hg h
include hT
theorem sC(h: ∀K':St→Prop,(∀s,AK P n B w0 ops K rest s→K' s)→I4 P T n o.dst o.op g K' st)(hg:Rd ops o.guard=some g:=by rfl):AK P n B w0 ops K (o::rest) st:=P6 hT hg h
theorem sK(h:AK P n B w0 ops K rest (st.put o.dst (.g false (.v (.bool false)))))(hg:Rd ops o.guard=some g:=by rfl)(hs:Ha st g=some (some false):=by rfl)(hd:As n o.dst:=by simp only[As,Nat.reduceLT]):AK P n B w0 ops K (o::rest) st:=P7 hT hg hs hd h
theorem dQ(hm:P.follows .mixedOrders=true){Q:Exit→St→Prop}{id:Nat}{l:List Oper}{y:Code}(h: ∀K:St→Prop,(∀s,BY P n B w0 y Q s→K s)→A8 P T n l.toArray K l st)(hD:Ii l (Region.before l.toArray).toList=true:=by decide+kernel):BY P n B w0 (.seq (.region id l.toArray true) y) Q st:=gM hT hm hD h
theorem dL(hm:P.follows .mixedOrders=true){Q:Exit→St→Prop}{id:Nat}{l:List Oper}(h: ∀K:St→Prop,(∀s,Q .normal s→K s)→A8 P T n l.toArray K l st)(hD:Ii l (Region.before l.toArray).toList=true:=by decide+kernel):BY P n B w0 (.region id l.toArray true) Q st:=uw hT hm hD h
end
end Go.Ad
namespace Go.Ad
open Go.RowKit
theorem G.ql{n B:Nat}{w0:AT}{st st':St}(hE:mC st.env [] st'.env)(hH:st'.heap=st.heap): ∀a w,G n B w0 st a w→G n B w0 st' a w:=
 G.Al (fun s=>YC hE s rfl) (fun s b h=>by rw[←hH];exact h)
def Ge(d:Nat)(blk:AN):AN→AN
 | .FD e c=>.FD e (Ik d blk c)
 | .box t c=>.box t (Ik d blk c)
 | .row e sz c=>.row e sz c
 | .mp c=>.mp c
 | .DN kd ks c=>.DN kd ks (Ik d blk c)
def Fo(d:Nat)(blk:AN):List (Nat×AN)→List (Nat×AN)
 | []=> []
 |(k,b)::r=>if k=d then Fo d blk r else(k,Ge d blk b)::Fo d blk r
theorem NT{d:Nat}{blk:AN}: ∀ {H:List (Nat×AN)} {id:Nat} {b':AN},Af (Fo d blk H) id=some b'→id≠d∧ ∃b0,Af H id=some b0∧b'=Ge d blk b0
 | [],_,_,h=>by cases h
 |(k,b)::r,id,b',h=>by
  simp only[Fo]at h;by_cases e:k=d
  ·rw[if_pos e]at h;obtain⟨h1,b0,h2,h3⟩:=NT h;refine⟨h1,b0,?_,h3⟩;simp only[Af];rw[if_neg (fun hh=>h1 (by rw[←hh,e]))];exact h2
  ·rw[if_neg e]at h;simp only[Af]at h ⊢;by_cases e2:k=id
   ·rw[if_pos e2]at h ⊢;injection h with h;exact⟨fun hh=>e (by rw[e2,hh]),b,rfl,h.symm⟩
   ·rw[if_neg e2]at h ⊢;exact NT h
theorem G.GR{n B:Nat}{w0:AT}{st:St}{a:Act}{w:World}(hG:G n B w0 st a w)(d:Nat)(blk:AN)(hk:Af st.heap d=some blk)(HJ:qh blk.cont):G n B w0 ⟨KH d blk st.env,Fo d blk st.heap⟩ a w:=by
 obtain⟨ρ,I,h⟩:=hG;obtain⟨x,hx,Ae⟩:=h.hw.ok d blk hk;have hρ: ∀id,id≠d→ρ id=ρ id:=fun id hid=>rfl;have OS: ∀b,Ab x=some b→B≤b∧b<w.heap.size:=fun b hb=>Ae.lt hb;have wj: ∀b,I b→(fun b=>I b∨Ab x=some b) b∧w.heap[b]? =w.heap[b]? :=fun b hb=>⟨.inl hb,rfl⟩
 have cellC: ∀b j,Ab x=some b→j<blk.cont.len→ ∃u,w.cell? ⟨b,j,none⟩=some u∧AL B (fun b=>I b∨Ab x=some b) w DW (blk.cont.at j) u:=fun b j hb hj=>by
  obtain⟨u,h1,h2⟩:=h.hw.cell hk hx hb hj;exact⟨u,h1,((h2.F5 (Zz4 HJ j)).mono (Nat.le_refl _) wj _ (fun _ _ h=>h))⟩
 have look: ∀id blk',Af (Fo d blk st.heap) id=some blk'→id≠d∧ ∃b0,Af st.heap id=some b0∧blk'=Ge d blk b0:=fun id blk' F7=>NT F7
 have hF: ∀(x1:AV) (u1:Value),AL B I w ρ x1 u1→AL B (fun b=>I b∨Ab x=some b) w ρ (Ec d blk x1) u1:=by
  intro x1 u1 hs;have gen:AL B (fun b=>I b∨Ab x=some b) w ρ ((x1).kill d) (u1):=(hs.kill d _ hρ).mono (Nat.le_refl _) wj _ (fun _ _ h=>h)
  have hP: ∀(x0:AV) (uu:Value),AL B I w ρ x0 uu→AL B (fun b=>I b∨Ab x=some b) w ρ (KG d blk x0) uu:=fun x0 uu hs=>by
   have gen:AL B (fun b=>I b∨Ab x=some b) w ρ (x0.kill d) uu:=(hs.kill d _ hρ).mono (Nat.le_refl _) wj _ (fun _ _ h=>h);cases x0 with
   |p id off=>
    simp only[KG];by_cases e:id=d
    ·subst e;rw[if_pos rfl];cases hs with
     |p _ _ b y hy hb=>
      rw[hx]at hy;injection hy with hy;subst hy
      have BU: ∀j,off+j<blk.cont.len→ ∃u,w.cell? ((⟨b,off,none⟩:Addr).add j)=some u∧AL B (fun b=>I b∨Ab x=some b) w DW (blk.cont.at (off+j)) u:=fun j hj=>by
       obtain⟨u,h1,h2⟩:=cellC b (off+j) hb hj;exact⟨u,by rw[By];exact h1,h2⟩
      refine .q _ _ _ _ _ _ (fun j=>if hj:off+j<blk.cont.len then Classical.choose (BU j hj)else undef) (.inr hb) (fun _=>(OS b hb).1) (fun j hj=>?_) (fun j hj=>?_)
      ·rw[dif_pos hj];exact(Classical.choose_spec (BU j hj)).1
      ·rw[dif_pos hj];exact(Classical.choose_spec (BU j hj)).2
    ·rw[if_neg e];rw[AV.kill,if_neg e]at gen;exact gen
   |_=>exact gen
  cases hv:x1 with
  |p id off=>rw[hv]at hs;exact hP _ _ hs
  |f fn cs=>
   rw[hv]at hs;simp only[Ec];cases hs with
   |f _ _ us hl OR=>exact .f fn _ us (by rw[MN];exact hl) fun j hj=>by rw[MN]at hj;rw[X2];exact hP _ _ (OR j hj)
  |s id=>
   rw[hv]at hs gen;simp only[Ec];by_cases e:id=d
   ·subst e;rw[if_pos rfl];cases blk with
    |box t c=>exact .top _
    |mp c=>exact .top _
    |DN kd ks c=>exact .top _
    |FD el c=>exact .top _
    |row el sz c=>
     simp only;split
     ·rename_i F1;cases hs with
      |s _ _ hy h1=>
       rw[hx]at hy;injection hy with hy;subst hy
       obtain⟨m,xs,ho,hl,hc⟩:=Ae;have hm:c.len / sz=m:=by rw[hl];exact Nat.mul_div_cancel _ F1
       rw[hm]
       have:=KA (fl:=true) (B':=B) (J:=fun b=>I b∨Ab x=some b∨(B≤b∧b<w.heap.size)) ho (fun _=>Nat.le_refl _) (fun b h1 h2=>.inr (.inr ⟨h1,h2⟩)) (fun e j=>c.at (e*sz+j)) (fun el2 j he hj=>by
        have Ak:el2*sz+j<xs.length:=by rw[ho.1];exact EW he hj
        have:=hc (el2*sz+j) _ (Zeg Ak);have e2:xs.getD (el2*sz+j) undef=xs[el2*sz+j]:=by simp[Zlg,Ak]
        rw[e2];exact this.mono (Nat.le_refl _) (fun b hb=>⟨.inl hb,rfl⟩) _ (fun _ _ h=>h))
       cases this with
       |i _ _ _ _ _ cap A u BW hA FE=>
        refine .i _ _ _ _ _ _ _ u BW (fun bM=>?_) (fun e f he hf=>?_)
        ·obtain⟨ad,h1,h2,h3,h4⟩:=hA bM;subst h1;exact⟨ad,rfl,.inr rfl,h3,h4⟩
        ·have Ak:e*sz+f<xs.length:=by rw[ho.1];exact EW he hf
         have hb: ∃ad,A=some ad:=by obtain⟨ad,h1,_⟩:=hA Zo;exact⟨ad,h1⟩
         obtain⟨ad,rfl⟩:=hb;obtain⟨ad',h1,_,_,h4⟩:=hA Zo;injection h1 with h1;subst h1
         have hj:e*sz+f<(AN.row el sz c).cont.len:=by show e*sz+f<c.len;rw[hl];exact EW he hf
         obtain⟨v,uZ,MD⟩:=cellC ad.block (e*sz+f) rfl hj;rcases ho.2 with ⟨hn,_⟩|⟨g,cap',cur,G3,_⟩
         ·cases hn
         ·injection G3 with G3 _ _;injection G3 with G3;have h5:=h4 e f he hf;rw[G3,By,Nat.zero_add]at h5;rw[G3]at uZ;simp only at uZ;rw[h5]at uZ;injection uZ with uZ;rw[Nat.zero_add,uZ];exact MD
     ·exact .top _
   ·rw[if_neg e];rw[AV.kill,if_neg e]at gen;exact gen
  |_=>rw[hv]at gen;exact gen
 refine⟨ρ,fun b=>I b∨Ab x=some b,h.defers.mono (fun b hb=>⟨.inl hb,rfl⟩),h.size,fun s=>?_,⟨fun id blk' F7=>?_,fun id id' b1 b2 y y' b CD h1 h2 hy F9 hb=>?_,fun id blk' y b F7 hy hb hI=>?_,fun b hb=>?_⟩,h.below,h.base,⟨fun b hb=>?_,h.BQ.gh,h.BQ.JQ,fun b hb=>⟨.inl (h.BQ.B2 b hb).1,(h.BQ.B2 b hb).2⟩⟩⟩
 ·show AL _ _ _ _ (lk (KH d blk st.env) s) _;rw[Zq];exact hF _ _ (h.env s)
 ·obtain⟨CD,b0,h0,rfl⟩:=look id blk' F7;obtain⟨y,hy,ZP⟩:=h.hw.ok id b0 h0;refine⟨y,hy,?_⟩;cases b0 with
  |FD el c=>
   obtain⟨m,xs,ho,hl,hc⟩:=ZP;exact⟨m,xs,ho,by rw[QD];exact hl,fun j u hu=>by rw[To];exact hF _ _ (hc j u hu)⟩
  |box t c=>
   obtain⟨b,us,rfl,hB,hh,hl,hc⟩:=ZP;exact⟨b,us,rfl,hB,hh,by rw[QD];exact hl,fun j u hu=>by rw[To];exact hF _ _ (hc j u hu)⟩
  |row el sz c=>exact(ZP.Ps d hρ).move (fun b _=>rfl) wj (fun _ _ h=>h)
  |mp c=>exact(ZP.Ps d hρ).move (fun b _=>rfl) wj (fun _ _ h=>h)
  |DN kd ks c=>
   obtain⟨b,BJ,rfl,hB,hm,hl,C0,hc⟩:=ZP;exact⟨b,BJ,rfl,hB,hm,hl,by rw[QD];exact C0,fun j u hu=>by rw[To];exact hF _ _ (hc j u hu)⟩
 ·obtain⟨RI,c1,J5,rfl⟩:=look id b1 h1;obtain⟨LK,c2,Ok,rfl⟩:=look id' b2 h2;exact h.hw.apart id id' c1 c2 y y' b CD J5 Ok hy F9 hb
 ·obtain⟨CD,b0,h0,rfl⟩:=look id blk' F7;rcases hI with hI|hI
  ·exact h.hw.J2 id b0 y b h0 hy hb hI
  ·exact h.hw.apart id d b0 blk y x b CD h0 hk hy hx hb hI
 ·rcases hb with hb|hb
  ·exact h.hw.lt b hb
  ·exact(OS b hb).2
 ·rcases hb with hb|hb
  ·exact h.BQ.up b hb
  ·exact .inr (OS b hb).1
attribute [push_cast] Ge Fo
end Go.Ad
namespace Go.Ad
open Go
end Go.Ad
