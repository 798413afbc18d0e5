/- Part of a proof. -/
import Derived.Below
import Derived.Laws.OwnMore
import Derived.Deep.LoopGhost
import Derived.Maps.AppendAt
import Derived.Orders
import Derived.Laws.MakeOwn
import Derived.Maps.Own
import Derived.RangeFuncLeaves
import Derived.Lib.Builder
set_option linter.all false
namespace Go
theorem Zlg{α:Type}{l:List α}{i:Nat}{a:α}:l.getD i a=(l[i]?).getD a:=List.getD_eq_getElem?_getD
theorem Zdt{p:Prop}[Decidable p]:(decide p=true)=p:=decide_eq_true_eq
theorem Zba{a b:Bool}:((a&&b)=true)=(a=true∧b=true):=Bool.and_eq_true a b
theorem Zeg{α:Type}{l:List α}{i:Nat}(h:i<l.length):l[i]?=some l[i]:=List.getElem?_eq_getElem h
theorem Zag{α:Type}{l:Array α}{i:Nat}{a:α}:l.getD i a=(l[i]?).getD a:=Array.getD_eq_getD_getElem?
theorem Zdf{p:Prop}[Decidable p](h:¬p):decide p=false:=decide_eq_false h
theorem Zde{p:Prop}[Decidable p](h:p):decide p=true:=decide_eq_true h
end Go
namespace Go
theorem Zo{p:Prop}(h:p:=by omega):p:=h
theorem Zd{p:Prop}(h:p:=by decide):p:=h
theorem Zk{p:Prop}(h:p:=by kernel_rfl):p:=h
theorem ZD{p:Prop}(h:p:=by decide+kernel):p:=h
theorem Zr{p:Prop}(h:p:=by rfl):p:=h
end Go
namespace Go.Ad
open Go.RowKit
inductive AV where
 |v (x:Value)
 |s (id:Nat)
 |w (id off len:Nat)
 |p (id off:Nat)
 |i (fr:Bool) (c:Nat→Nat→AV) (sz off len:Nat)
 |q (fr:Bool) (c:Nat→Nat→AV) (sz e f:Nat)
 |a (cs:List AV)
 |t (cs:List AV)
 |f (fn:Fn) (caps:List AV)
 |g (b:Bool) (x:AV)
 |o
 |top
def Ab:Value→Option Nat
 | .slice (some a) _ _=>some a.block
 | .pointer (some a)=>some a.block
 | .map (some b)=>some b
 |_=>none
def LB:Value→Bool
 | .agg _=>false
 | .tuple _=>false
 |_=>true
def DW:Nat→Option Value:=fun _=>none
def ba:Fn→Array Value→Value
 | .yield k,us=>.func (.func k) us #[]
 |fn,us=>.func fn #[] us
theorem lh(fn:Fn)(us:Array Value):LB (ba fn us)=true:=by unfold ba;split<;>rfl
inductive AL (B:Nat) (I:Nat→Prop) (w:World):(Nat→Option Value)→AV→Value→Prop
 |v {ρ:Nat→Option Value} (x:Value):AL B I w ρ (.v x) x
 |s {ρ:Nat→Option Value} (id:Nat) (x:Value) (h:ρ id=some x) (h1:LB x=true):AL B I w ρ (.s id) x
 |w {ρ:Nat→Option Value} (id off len cap:Nat) (A:Option Addr) (x:Value) (h:ρ id=some x) (BW:len≤cap) (hA:0<len→ ∃b,Ab x=some b∧A=some ⟨b,off,none⟩):AL B I w ρ (.w id off len) (.slice A len cap)
 |p {ρ:Nat→Option Value} (id off b:Nat) (x:Value) (h:ρ id=some x) (hb:Ab x=some b):AL B I w ρ (.p id off) (.pointer (some ⟨b,off,none⟩))
 |i {ρ:Nat→Option Value} (fr:Bool) (c:Nat→Nat→AV) (sz off len cap:Nat) (A:Option Addr) (u:Nat→Nat→Value) (BW:len≤cap)
   (hA:0<len→ ∃ad,A=some ad∧I ad.block∧(fr=true→B≤ad.block)∧ ∀e f,e<len→f<sz→w.cell? (ad.add (e*sz+f))=some (u e f))
   (hc: ∀e f,e<len→f<sz→AL B I w DW (c (off+e) f) (u e f)):AL B I w ρ (.i fr c sz off len) (.slice A len cap)
 |q {ρ:Nat→Option Value} (fr:Bool) (c:Nat→Nat→AV) (sz e f:Nat) (ad:Addr) (u:Nat→Value) (hI:I ad.block) (hB:fr=true→B≤ad.block)
   (Bf: ∀j,f+j<sz→w.cell? (ad.add j)=some (u j)) (hc: ∀j,f+j<sz→AL B I w DW (c e (f+j)) (u j)):AL B I w ρ (.q fr c sz e f) (.pointer (some ad))
 |a {ρ:Nat→Option Value} (cs:List AV) (us:Array Value) (hl:us.size=cs.length) (h: ∀j,j<cs.length→AL B I w ρ (cs.getD j .top) (us.getD j undef)):AL B I w ρ (.a cs) (.agg us)
 |t {ρ:Nat→Option Value} (cs:List AV) (us:Array Value) (hl:us.size=cs.length) (h: ∀j,j<cs.length→AL B I w ρ (cs.getD j .top) (us.getD j undef)):AL B I w ρ (.t cs) (.tuple us)
 |f {ρ:Nat→Option Value} (fn:Fn) (cs:List AV) (us:Array Value) (hl:us.size=cs.length) (h: ∀j,j<cs.length→AL B I w ρ (cs.getD j .top) (us.getD j undef)):AL B I w ρ (.f fn cs) (ba fn us)
 |g {ρ:Nat→Option Value} (b:Bool) (x:AV) (u:Value) (h:b=true→AL B I w ρ x u) (h0:b=false→u=undef):AL B I w ρ (.g b x) u
 |o {ρ:Nat→Option Value} (u:Value) (h1:LB u=true):AL B I w ρ .o u
 |top {ρ:Nat→Option Value} (u:Value):AL B I w ρ .top u
theorem AL.mono{B B':Nat}{I I':Nat→Prop}{w w':World}{ρ:Nat→Option Value}{x:AV}{u:Value}(h:AL B I w ρ x u)(hB:B'≤B)(hI: ∀b,I b→I' b∧w'.heap[b]? =w.heap[b]?):
  ∀ρ',(∀id y,ρ id=some y→ρ' id=some y)→AL B' I' w' ρ' x u:=by
 induction h with
 |v x=>intro ρ' _;exact .v x
 |s id x h h1=>intro ρ' hr;exact .s id x (hr _ _ h) h1
 |w id off len cap A x h BW hA=>intro ρ' hr;exact .w id off len cap A x (hr _ _ h) BW hA
 |p id off b x h hb=>intro ρ' hr;exact .p id off b x (hr _ _ h) hb
 |i fr c sz off len cap A u BW hA hc ih=>
  intro ρ' hr;refine .i fr c sz off len cap A u BW (fun hl=>?_) (fun e f he hf=>ih e f he hf _ (fun _ _ h=>h));obtain⟨ad,h1,h2,h3,h4⟩:=hA hl
  exact⟨ad,h1,(hI _ h2).1,fun N1=>Nat.le_trans hB (h3 N1),fun e f he hf=>by
   rw[World.cell?_of_block (w:=w) (a:=ad.add (e*sz+f))]
   ·exact h4 e f he hf
   ·have:(ad.add (e*sz+f)).block=ad.block:=by unfold Addr.add;split<;>rfl
    rw[this];exact(hI _ h2).2⟩
 |q fr c sz e f ad u h2 h3 Bf hc ih=>
  intro ρ' hr;refine .q fr c sz e f ad u (hI _ h2).1 (fun N1=>Nat.le_trans hB (h3 N1)) (fun j hj=>?_) (fun j hj=>ih j hj _ (fun _ _ h=>h));rw[World.cell?_of_block (w:=w) (a:=ad.add j)]
  ·exact Bf j hj
  ·have:(ad.add j).block=ad.block:=by unfold Addr.add;split<;>rfl
   rw[this];exact(hI _ h2).2
 |a cs us hl h ih=>intro ρ' hr;exact .a cs us hl fun j hj=>ih j hj _ hr
 |t cs us hl h ih=>intro ρ' hr;exact .t cs us hl fun j hj=>ih j hj _ hr
 |f fn cs us hl h ih=>intro ρ' hr;exact .f fn cs us hl fun j hj=>ih j hj _ hr
 |g b x u h h0 ih=>intro ρ' hr;exact .g b x u (fun hb=>ih hb _ hr) h0
 |o u h1=>intro ρ' _;exact .o u h1
 |top u=>intro ρ' _;exact .top u
theorem AL.fg{B B':Nat}{I I':Nat→Prop}{w w':World}{ρ:Nat→Option Value}{x:AV}{u:Value}(h:AL B I w ρ x u)(hB:B'≤B)(hI: ∀b,I b→I' b)(hw: ∀ad v,I ad.block→w.cell? ad=some v→w'.cell? ad=some v):
  ∀ρ',(∀id y,ρ id=some y→ρ' id=some y)→AL B' I' w' ρ' x u:=by
 induction h with
 |v x=>intro ρ' _;exact .v x
 |s id x h h1=>intro ρ' hr;exact .s id x (hr _ _ h) h1
 |w id off len cap A x h BW hA=>intro ρ' hr;exact .w id off len cap A x (hr _ _ h) BW hA
 |p id off b x h hb=>intro ρ' hr;exact .p id off b x (hr _ _ h) hb
 |i fr c sz off len cap A u BW hA hc ih=>
  intro ρ' hr;refine .i fr c sz off len cap A u BW (fun hl=>?_) (fun e f he hf=>ih e f he hf _ (fun _ _ h=>h));obtain⟨ad,h1,h2,h3,h4⟩:=hA hl
  exact⟨ad,h1,hI _ h2,fun N1=>Nat.le_trans hB (h3 N1),fun e f he hf=>hw _ _ (by
   have:(ad.add (e*sz+f)).block=ad.block:=by unfold Addr.add;split<;>rfl
   rw[this];exact h2) (h4 e f he hf)⟩
 |q fr c sz e f ad u h2 h3 Bf hc ih=>
  intro ρ' hr
  exact .q fr c sz e f ad u (hI _ h2) (fun N1=>Nat.le_trans hB (h3 N1)) (fun j hj=>hw _ _ (by
   have:(ad.add j).block=ad.block:=by unfold Addr.add;split<;>rfl
   rw[this];exact h2) (Bf j hj)) (fun j hj=>ih j hj _ (fun _ _ h=>h))
 |a cs us hl h ih=>intro ρ' hr;exact .a cs us hl fun j hj=>ih j hj _ hr
 |t cs us hl h ih=>intro ρ' hr;exact .t cs us hl fun j hj=>ih j hj _ hr
 |f fn cs us hl h ih=>intro ρ' hr;exact .f fn cs us hl fun j hj=>ih j hj _ hr
 |g b x u h h0 ih=>intro ρ' hr;exact .g b x u (fun hb=>ih hb _ hr) h0
 |o u h1=>intro ρ' _;exact .o u h1
 |top u=>intro ρ' _;exact .top u
theorem AL.same{B:Nat}{I:Nat→Prop}{w w':World}{ρ:Nat→Option Value}{x:AV}{u:Value}(h:AL B I w ρ x u)(hI: ∀b,I b→w'.heap[b]? =w.heap[b]?):AL B I w' ρ x u:=
 h.mono (Nat.le_refl _) (fun b hb=>⟨hb,hI b hb⟩) ρ (fun _ _ h=>h)
mutual
def AV.kill(d:Nat):AV→AV
 | .v x=>.v x
 | .s id=>if id=d then .top else .s id
 | .w id off len=>if id=d then .top else .w id off len
 | .p id off=>if id=d then .top else .p id off
 | .i fr c sz off len=>.i fr c sz off len
 | .q fr c sz e j=>.q fr c sz e j
 | .a cs=>.a (AV.CV d cs)
 | .t cs=>.t (AV.CV d cs)
 | .f fn cs=>.f fn (AV.CV d cs)
 | .g b x=>.g b (AV.kill d x)
 | .o=>.o
 | .top=>.top
def AV.CV(d:Nat):List AV→List AV
 | []=> []
 |x::r=>AV.kill d x::AV.CV d r
end
theorem Bl(d:Nat)(cs:List AV):(AV.CV d cs).length=cs.length:=by
 induction cs with
 |nil=>rfl
 |cons x r ih=>simp[AV.CV,ih]
theorem EV(d:Nat)(cs:List AV)(j:Nat):(AV.CV d cs).getD j .top=AV.kill d (cs.getD j .top):=by
 induction cs generalizing j with
 |nil=>simp[AV.CV,AV.kill]
 |cons x r ih=>cases j with
  |zero=>simp[AV.CV]
  |succ j=>simpa[AV.CV]using ih j
theorem AL.kill{B:Nat}{I:Nat→Prop}{w:World}{ρ:Nat→Option Value}{x:AV}{u:Value}(h:AL B I w ρ x u)(d:Nat):
  ∀ρ',(∀id,id≠d→ρ' id=ρ id)→AL B I w ρ' (x.kill d) u:=by
 induction h with
 |v x=>intro ρ' _;rw[AV.kill];exact .v x
 |s id x h h1=>
  intro ρ' hr;rw[AV.kill];split
  ·exact .top _
  ·exact .s id x (by rw[hr _ ‹_›];exact h) h1
 |w id off len cap A x h BW hA=>
  intro ρ' hr;rw[AV.kill];split
  ·exact .top _
  ·exact .w id off len cap A x (by rw[hr _ ‹_›];exact h) BW hA
 |p id off b x h hb=>
  intro ρ' hr;rw[AV.kill];split
  ·exact .top _
  ·exact .p id off b x (by rw[hr _ ‹_›];exact h) hb
 |i fr c sz off len cap A u BW hA hc ih=>intro ρ' _;rw[AV.kill];exact .i fr c sz off len cap A u BW hA hc
 |q fr c sz e f ad u h2 h3 Bf hc ih=>intro ρ' _;rw[AV.kill];exact .q fr c sz e f ad u h2 h3 Bf hc
 |a cs us hl h ih=>intro ρ' hr;rw[AV.kill];exact .a _ us (by rw[Bl];exact hl) fun j hj=>by rw[EV];exact ih j (by rwa [Bl]at hj) _ hr
 |t cs us hl h ih=>intro ρ' hr;rw[AV.kill];exact .t _ us (by rw[Bl];exact hl) fun j hj=>by rw[EV];exact ih j (by rwa [Bl]at hj) _ hr
 |f fn cs us hl h ih=>intro ρ' hr;rw[AV.kill];exact .f fn _ us (by rw[Bl];exact hl) fun j hj=>by rw[EV];exact ih j (by rwa [Bl]at hj) _ hr
 |g b x u h h0 ih=>intro ρ' hr;rw[AV.kill];exact .g b _ u (fun hb=>ih hb _ hr) h0
 |o u h1=>intro ρ' _;rw[AV.kill];exact .o u h1
 |top u=>intro ρ' _;rw[AV.kill];exact .top u
inductive AH where
 |ints (k:IntKind) (l:List Int)
 |BJ (l:List Value)
 |AF (l:List AV)
def AH.len:AH→Nat
 | .ints _ l=>l.length
 | .BJ l=>l.length
 | .AF l=>l.length
def AH.at:AH→Nat→AV
 | .ints k l,j=>.v (.int k (l.getD j 0))
 | .BJ l,j=>.v (l.getD j undef)
 | .AF l,j=>l.getD j .top
def AH.lQ:AH→Nat→AV→Option AH
 | .ints k l,j,.v (.int k' n)=>if k'=k then some (.ints k (l.set j n))else none
 | .BJ l,j,.v x=>some (.BJ (l.set j x))
 | .AF l,j,x=>some (.AF (l.set j x))
 |_,_,_=>none
def AH.kill(d:Nat):AH→AH
 | .ints k l=>.ints k l
 | .BJ l=>.BJ l
 | .AF l=>.AF (AV.CV d l)
theorem D9{α:Type}(l:List α)(j:Nat)(x d:α)(h:j<l.length):(l.set j x).getD j d=x:=by simp[Zlg,h]
theorem getD_set_ne{α:Type}(l:List α)(j k:Nat)(x d:α)(h:j≠k):(l.set j x).getD k d=l.getD k d:=by simp[Zlg,List.getElem?_set_ne h]
theorem AH.fh{c c':AH}{j:Nat}{x:AV}(h:c.lQ j x=some c')(hj:j<c.len):c'.len=c.len∧c'.at j=x∧ ∀k,k≠j→c'.at k=c.at k:=by
 unfold AH.lQ at h;split at h
 ·split at h
  ·injection h with h;subst h;subst ‹_=_›
   exact⟨by simp[AH.len],by simp only[AH.at];rw[D9 _ _ _ _ (by simpa[AH.len]using hj)],fun k hk=>by simp only[AH.at];rw[getD_set_ne _ _ _ _ _ (Ne.symm hk)]⟩
  ·cases h
 ·injection h with h;subst h
  exact⟨by simp[AH.len],by simp only[AH.at];rw[D9 _ _ _ _ (by simpa[AH.len]using hj)],fun k hk=>by simp only[AH.at];rw[getD_set_ne _ _ _ _ _ (Ne.symm hk)]⟩
 ·injection h with h;subst h
  exact⟨by simp[AH.len],by simp only[AH.at];rw[D9 _ _ _ _ (by simpa[AH.len]using hj)],fun k hk=>by simp only[AH.at];rw[getD_set_ne _ _ _ _ _ (Ne.symm hk)]⟩
 ·cases h
theorem AH.Pk(d:Nat)(c:AH):(c.kill d).len=c.len:=by cases c<;>simp[AH.kill,AH.len,Bl]
theorem AH.Tb(d:Nat)(c:AH)(j:Nat):(c.kill d).at j=(c.at j).kill d:=by cases c<;>simp only[AH.kill,AH.at,AV.kill,EV]
inductive Key where
 |i (n:Int)
 |s (b:ByteArray)
 deriving DecidableEq
def Key.val:Key→Value
 | .i n=>.int .i64 n
 | .s b=>.string b
def Key.wf:Key→Prop
 | .i n=> -9223372036854775808≤n∧n≤9223372036854775807
 | .s b=>b.size≤9223372036854775807
def Key.Pl:Key→Bool
 | .i _=>true
 | .s _=>false
def qU:Value→Prop
 | .int k n=>k=.i64∧ -9223372036854775808≤n∧n≤9223372036854775807
 |_=>True
inductive MC where
 |ints (kd:Bool) (k:IntKind) (m:List (Key×Int))
 |LO (kd:Bool) (m:List (Key×Bool))
 |VN (kd:Bool) (m:List (Key×Value))
def MC.GD:MC→List (Key×Value)
 | .ints _ k m=>m.map fun p=>(p.1,.int k p.2)
 | .LO _ m=>m.map fun p=>(p.1,.bool p.2)
 | .VN _ m=>m
def MC.kd:MC→Bool
 | .ints b _ _=>b
 | .LO b _=>b
 | .VN b _=>b
inductive AN where
 |box (t:TypeId) (c:AH)
 |row (e:TypeId) (sz:Nat) (c:AH)
 |mp (c:MC)
 |FD (e:TypeId) (c:AH)
 |DN (kd:Bool) (ks:List Key) (c:AH)
def AN.kill(d:Nat):AN→AN
 | .box t c=>.box t (c.kill d)
 | .row e sz c=>.row e sz c
 | .mp c=>.mp c
 | .FD e c=>.FD e (c.kill d)
 | .DN kd ks c=>.DN kd ks (c.kill d)
def Pm(w:World)(b:Nat)(c:MC):Prop:= ∃es clock,w.heap[b]? =some (.map es clock)∧es.toList.map (fun e=>(e.key,e.val))=c.GD.map (fun p=>(p.1.val,p.2))∧MapKept.Stamped es clock∧es.size≤9223372036854775807∧ ∀p∈c.GD,p.1.wf∧p.1.Pl=c.kd∧qU p.2
def Db(B:Nat)(I:Nat→Prop)(w:World)(ρ:Nat→Option Value)(x:Value):AN→Prop
 | .box t c=> ∃b us,x=.pointer (some ⟨b,0,none⟩)∧B≤b∧w.heap[b]? =some (.cells us t (0,0))∧us.size=c.len∧ ∀j u,us[j]? =some u→AL B I w ρ (c.at j) u
 | .row e sz c=> ∃n xs,w.ownsRow B e sz x n xs∧c.len=n*sz∧ ∀j u,xs[j]? =some u→AL B I w DW (c.at j) u
 | .mp c=> ∃b,x=.map (some b)∧B≤b∧Pm w b c
 | .FD e c=> ∃n xs,w.ownsRow B e 1 x n xs∧c.len=n*1∧ ∀j u,xs[j]? =some u→AL B I w ρ (c.at j) u
 | .DN kd ks c=> ∃b BJ,x=.map (some b)∧B≤b∧Pm w b (.VN kd (ks.zip BJ))∧BJ.length=ks.length∧c.len=ks.length∧ ∀j u,BJ[j]? =some u→AL B I w ρ (c.at j) u
def lk:List (Nat×AV)→Nat→AV
 | [],_=>.top
 |(k,x)::r,s=>if k=s then x else lk r s
def Af:List (Nat×AN)→Nat→Option AN
 | [],_=>none
 |(k,x)::r,s=>if k=s then some x else Af r s
structure HW (B:Nat) (I:Nat→Prop) (w:World) (ρ:Nat→Option Value) (H:List (Nat×AN)):Prop where
 ok: ∀id blk,Af H id=some blk→ ∃x,ρ id=some x∧Db B I w ρ x blk
 apart: ∀id id' blk blk' x x' b,id≠id'→Af H id=some blk→Af H id'=some blk'→ρ id=some x→ρ id'=some x'→Ab x=some b→Ab x'≠some b
 J2: ∀id blk x b,Af H id=some blk→ρ id=some x→Ab x=some b→ ¬I b
 lt: ∀b,I b→b<w.heap.size
inductive GC where
 |ints (k:IntKind) (n:Nat) (l:List Int)
 |strs (n:Nat) (l:List ByteArray)
def GC.len:GC→Nat
 | .ints _ n _=>n
 | .strs n _=>n
def GC.at:GC→Nat→Value
 | .ints k _ l,j=>.int k (l.getD j 0)
 | .strs _ l,j=>.string (l.getD j ⟨#[]⟩)
def bA(l:List UInt8):ByteArray:=⟨l.toArray⟩
def ID:List Int:= [0,1,1,2,2,2,4,4,4,5,5,6]
def Bi:List ByteArray:= [bA [61,61],bA [33,61],bA [60,61],bA [62,61],bA [60],bA [62],bA [43],bA [45],bA [42],bA [47],bA [40],bA [41],bA [123],bA [125],bA [58],bA [59],bA [44]]
def Dd:List ByteArray:= [bA [],bA [101,97,114,110],bA [100,101,100,117,99,116],bA [102,108,111,111,114],bA [105,110,102,111]]
def Dw:List Int:= [0,31,59,90,120,151,181,212,243,273,304,334,365]
def qV(c:Nat):Int:=if c=32∨c=9∨c=10∨c=13 then 1 else if 97≤c∧c≤122 then 2 else if 65≤c∧c≤90 then 4 else if 48≤c∧c≤57 then 8 else if c=95 then 16 else 0
def HV:List Int:=(List.range 128).map qV
def Bw:List ByteArray:= [bA [111,114],bA [],bA [],bA [],bA [],bA [],bA [97,110,100],bA [],bA [],bA [],bA [],bA [],bA [],bA [],bA [],bA [],bA [],bA [],bA [61,61],bA [33,61],bA [60],bA [60,61],bA [62],bA [62,61],bA [43],bA [45],bA [],bA [],bA [],bA [],bA [42],bA [47],bA [97,116],bA [],bA [],bA []]
def J8:List Int:=(List.range 20).map fun i=>(10^i:Nat)
def Zc:Nat→Option GC
 |0=>some (.ints .i64 12 ID)
 |1=>some (.strs 17 Bi)
 |2=>some (.strs 5 Dd)
 |3=>some (.ints .i64 13 Dw)
 |4=>some (.ints .u8 128 HV)
 |5=>some (.ints .u64 20 J8)
 |6=>some (.strs 36 Bw)
 |_=>none
structure Xt (I:Nat→Prop) (w:World):Prop where
 at_: ∀g c,Zc g=some c→I g∧ ∀i,i<c.len→w.cell? ⟨g,i,none⟩=some (c.at i)
 size: ∀g c,Zc g=some c→ ∃us t z,w.heap[g]? =some (.cells us t z)∧us.size=c.len
 len:I 11∧ ∃m,w.cell? ⟨11,0,none⟩=some (.int .i64 m)
theorem Xt.mono{I I':Nat→Prop}{w w':World}(h:Xt I w)(hI: ∀b,I b→I' b∧w'.heap[b]? =w.heap[b]?):Xt I' w':=by
 refine⟨fun g l hg=>?_,fun g l hg=>?_,?_⟩
 ·obtain⟨h1,h2⟩:=h.at_ g l hg;refine⟨(hI g h1).1,fun i hi=>?_⟩;rw[World.cell?_of_block (w:=w) (a:=⟨g,i,none⟩) (hI g h1).2];exact h2 i hi
 ·rw[(hI g (h.at_ g l hg).1).2];exact h.size g l hg
 ·obtain⟨h1,m,h2⟩:=h.len;exact⟨(hI 11 h1).1,m,by rw[World.cell?_of_block (w:=w) (a:=⟨11,0,none⟩) (hI 11 h1).2];exact h2⟩
structure St where
 env:List (Nat×AV)
 heap:List (Nat×AN)
def HX:Value→AV
 | .agg cs=>.a (cs.toList.map .v)
 |x=>.v x
theorem JP{B:Nat}{I:Nat→Prop}{w:World}{ρ:Nat→Option Value}(x:Value):AL B I w ρ (HX x) x:=by
 cases x<;>simp only[HX]<;>first|exact .v _|skip
 rename_i cs;refine .a _ _ (by simp) fun j hj=>?_;simp at hj;have:(cs.toList.map AV.v).getD j .top=.v (cs.getD j undef):=by simp[Zlg,Zag,hj]
 rw[this];exact .v _
def St.ev(st:St):Operand→AV
 | .tmp t=>lk st.env t
 | .const v=>HX v
 | .func f=>.v (.func (.func f) #[] #[])
 | .global g=>match Zc g with
  |some c=>.q false (fun _ j=>.v (c.at j)) c.len 0 0
  |none=>.top
structure AT where
 w:World
 I:Nat→Prop
 gh:Nat→Option (Option Value)
 ds:List Deferred
 rd:Option Nat
 gl:Xt I w
def Marks(B:Nat)(I:Nat→Prop)(w:World)(w0:AT)(ds:List Deferred):Prop:=
 ∃Ds:List Nat,ds=Ds.map (fun D=> {target:=.collected D,args:= #[]})++w0.ds∧Ds.Nodup∧ ∀D∈Ds,B≤D∧ ¬w0.I D∧I D∧w.heap[D]? =some (.deferred (some []))
theorem Marks.nil{B:Nat}{I:Nat→Prop}{w:World}{w0:AT}:Marks B I w w0 w0.ds:=⟨[],rfl,List.nodup_nil,fun _ h=>by cases h⟩
theorem Marks.mono{B:Nat}{I I':Nat→Prop}{w w':World}{w0:AT}{ds:List Deferred}(h:Marks B I w w0 ds)(hI: ∀b,I b→I' b∧w'.heap[b]? =w.heap[b]?):Marks B I' w' w0 ds:=by
 obtain⟨Ds,h1,h2,h3⟩:=h;exact⟨Ds,h1,h2,fun D hD=>⟨(h3 D hD).1,(h3 D hD).2.1,(hI D (h3 D hD).2.2.1).1,by rw[(hI D (h3 D hD).2.2.1).2];exact(h3 D hD).2.2.2⟩⟩
structure Old (n B:Nat) (w0:AT) (w:World) (ρ:Nat→Option Value) (I:Nat→Prop):Prop where
 up: ∀b,I b→w0.I b∨B≤b
 gh: ∀id x,w0.gh id=some x→ρ id=x
 JQ: ∀d,d<n→w0.gh d=none
 B2: ∀b,w0.I b→I b∧w.heap[b]? =w0.w.heap[b]?
structure B3 (n B:Nat) (w0:AT) (st:St) (a:Act) (w:World) (ρ:Nat→Option Value) (I:Nat→Prop):Prop where
 defers:Marks B I w w0 a.defers
 size:a.tmps.size=n
 env: ∀s,AL B I w ρ (lk st.env s) (a.tmps.getD s undef)
 hw:HW B I w ρ st.heap
 below:Below B w0.w w
 base:B≤w.heap.size
 BQ:Old n B w0 w ρ I
def G(n B:Nat)(w0:AT)(st:St)(a:Act)(w:World):Prop:= ∃ρ I,B3 n B w0 st a w ρ I
theorem Bj{w:World}{base:Nat}{e:TypeId}{size:Nat}{v:Value}{n:Nat}{xs:List Value}(h:w.ownsRow base e size v n xs):Ab v=v.ownBlock:=by
 rcases h.2 with ⟨rfl,_⟩|⟨g,cap,cur,rfl,_⟩<;>rfl
theorem Db.lt{B:Nat}{I:Nat→Prop}{w:World}{ρ:Nat→Option Value}{x:Value}{blk:AN}(h:Db B I w ρ x blk){b:Nat}(hb:Ab x=some b):B≤b∧b<w.heap.size:=by
 cases blk with
 |box t c=>
  obtain⟨b',us,rfl,hB,hh,_⟩:=h;simp[Ab]at hb;subst hb
  exact⟨hB,(Array.getElem?_eq_some_iff.1 hh).1⟩
 |row e sz c=>
  obtain⟨n,xs,ho,_⟩:=h;rw[Bj ho]at hb;exact ho.lt b hb
 |FD e c=>
  obtain⟨n,xs,ho,_⟩:=h;rw[Bj ho]at hb;exact ho.lt b hb
 |mp c=>
  obtain⟨b',rfl,hB,es,clock,hh,_⟩:=h;simp[Ab]at hb;subst hb
  exact⟨hB,(Array.getElem?_eq_some_iff.1 hh).1⟩
 |DN kd ks c=>
  obtain⟨b',BJ,rfl,hB,⟨es,clock,hh,_⟩,_⟩:=h;simp[Ab]at hb;subst hb
  exact⟨hB,(Array.getElem?_eq_some_iff.1 hh).1⟩
structure Quiet (I:Nat→Prop) (w:World) (I':Nat→Prop) (w':World):Prop where
 below:Below w.heap.size w w'
 le: ∀b,I b→I' b
 new: ∀b,I' b→ ¬I b→w.heap.size≤b
 lt: ∀b,I' b→b<w'.heap.size
theorem Quiet.refl{I:Nat→Prop}{w:World}(h: ∀b,I b→b<w.heap.size):Quiet I w I w:=⟨Below.refl _ _,fun _ h=>h,fun _ h h'=>absurd h h',h⟩
theorem AL.quiet{B:Nat}{I I':Nat→Prop}{w w':World}{ρ:Nat→Option Value}{x:AV}{u:Value}(h:AL B I w ρ x u)(hq:Quiet I w I' w')(Ak: ∀b,I b→b<w.heap.size):AL B I' w' ρ x u:=
 h.mono (Nat.le_refl _) (fun b hb=>⟨hq.le b hb,hq.below.block b (Ak b hb)⟩) ρ (fun _ _ h=>h)
theorem EB{w w':World}{base:Nat}{e:TypeId}{size:Nat}{v:Value}{n:Nat}{xs:List Value}(h:w.ownsRow base e size v n xs)(hb: ∀b,Ab v=some b→w'.heap[b]? =w.heap[b]?):w'.ownsRow base e size v n xs:=by
 refine⟨h.1,?_⟩;rcases h.2 with hn|⟨g,cap,cur,rfl,h1,h2,r⟩
 ·exact .inl hn
 ·exact .inr ⟨g,cap,cur,rfl,h1,by rw[hb g rfl];exact h2,r⟩
theorem Db.move{B:Nat}{I I':Nat→Prop}{w w':World}{ρ ρ':Nat→Option Value}{x:Value}{blk:AN}(h:Db B I w ρ x blk)(hb: ∀b,Ab x=some b→w'.heap[b]? =w.heap[b]?)
  (hI: ∀b,I b→I' b∧w'.heap[b]? =w.heap[b]?) (hρ: ∀id y,ρ id=some y→ρ' id=some y):Db B I' w' ρ' x blk:=by
 cases blk with
 |box t c=>
  obtain⟨b,us,rfl,hB,hh,hl,hc⟩:=h;exact⟨b,us,rfl,hB,by rw[hb b rfl];exact hh,hl,fun j u hu=>(hc j u hu).mono (Nat.le_refl _) hI _ hρ⟩
 |row e sz c=>
  obtain⟨n,xs,ho,hl,hc⟩:=h;exact⟨n,xs,EB ho hb,hl,fun j u hu=>(hc j u hu).mono (Nat.le_refl _) hI _ (fun _ _ h=>h)⟩
 |FD e c=>
  obtain⟨n,xs,ho,hl,hc⟩:=h;exact⟨n,xs,EB ho hb,hl,fun j u hu=>(hc j u hu).mono (Nat.le_refl _) hI _ hρ⟩
 |mp c=>
  obtain⟨b',rfl,hB,es,clock,hh,r⟩:=h;exact⟨b',rfl,hB,es,clock,by rw[hb b' rfl];exact hh,r⟩
 |DN kd ks c=>
  obtain⟨b',BJ,rfl,hB,⟨es,clock,hh,r⟩,hl,C0,hc⟩:=h;exact⟨b',BJ,rfl,hB,⟨es,clock,by rw[hb b' rfl];exact hh,r⟩,hl,C0,fun j u hu=>(hc j u hu).mono (Nat.le_refl _) hI _ hρ⟩
theorem HW.quiet{B:Nat}{I I':Nat→Prop}{w w':World}{ρ:Nat→Option Value}{H:List (Nat×AN)}(h:HW B I w ρ H)(hq:Quiet I w I' w'):HW B I' w' ρ H:=by
 refine⟨fun id blk hk=>?_,h.apart,fun id blk x b hk hx hb hI=>?_,hq.lt⟩
 ·obtain⟨x,hx,Ae⟩:=h.ok id blk hk;exact⟨x,hx,Ae.move (fun b hb=>hq.below.block b (Ae.lt hb).2) (fun b hb=>⟨hq.le b hb,hq.below.block b (h.lt b hb)⟩) (fun _ _ h=>h)⟩
 ·obtain⟨x',CP,Ae⟩:=h.ok id blk hk;rw[hx]at CP;injection CP with CP;subst CP
  have:=(Ae.lt hb).2;have:=hq.new b hI (h.J2 id blk x b hk hx hb);omega
theorem B3.quiet{n B:Nat}{w0:AT}{st:St}{a:Act}{w w':World}{ρ:Nat→Option Value}{I I':Nat→Prop}(h:B3 n B w0 st a w ρ I)(hq:Quiet I w I' w'):B3 n B w0 st a w' ρ I':=
 ⟨h.defers.mono (fun b hb=>⟨hq.le b hb,hq.below.block b (h.hw.lt b hb)⟩),h.size,fun s=>(h.env s).quiet hq h.hw.lt,h.hw.quiet hq,h.below.trans (hq.below.mono h.base),Nat.le_trans h.base hq.below.size,⟨fun b hb=>by
  by_cases hi:I b
  ·exact h.BQ.up b hi
  ·exact .inr (Nat.le_trans h.base (hq.new b hb hi)),h.BQ.gh,h.BQ.JQ,fun b hb=>⟨hq.le b (h.BQ.B2 b hb).1,by rw[hq.below.block b (h.hw.lt b (h.BQ.B2 b hb).1)];exact(h.BQ.B2 b hb).2⟩⟩⟩
def St.put(st:St)(d:Option Nat)(x:AV):St:=
 match d with
 |some d=> {st with env:=(d,x)::st.env}
 |none=>st
theorem B3.put{n B:Nat}{w0:AT}{st:St}{a:Act}{w:World}{ρ:Nat→Option Value}{I:Nat→Prop}(h:B3 n B w0 st a w ρ I){d:Option Nat}(hd: ∀k,d=some k→k<n){x:AV}{u:Value}(hx:AL B I w ρ x u):
  B3 n B w0 (st.put d x) (a.put d u) w ρ I:=by
 cases d with
 |none=>exact h
 |some d=>
  refine⟨h.defers,by simp[Act.put,h.size],fun s=>?_,h.hw,h.below,h.base,h.BQ⟩;simp only[St.put,lk,Act.put];by_cases e:d=s
  ·subst e;rw[if_pos rfl]
   have:(a.tmps.setIfInBounds d u).getD d undef=u:=by
    have:=hd d rfl;rw[←h.size]at this;simp[Zag,this]
   rw[this];exact hx
  ·rw[if_neg e]
   have:(a.tmps.setIfInBounds d u).getD s undef=a.tmps.getD s undef:=by
    simp[Zag,Array.getElem?_setIfInBounds_ne e]
   rw[this];exact h.env s
theorem B3.gl{n B:Nat}{w0:AT}{st:St}{a:Act}{w:World}{ρ:Nat→Option Value}{I:Nat→Prop}(h:B3 n B w0 st a w ρ I):Xt I w:=w0.gl.mono fun b hb=>h.BQ.B2 b hb
theorem B3.ev{n B:Nat}{w0:AT}{st:St}{a:Act}{w:World}{ρ:Nat→Option Value}{I:Nat→Prop}(h:B3 n B w0 st a w ρ I)(x:Operand):AL B I w ρ (st.ev x) (a.eval x):=by
 cases x with
 |tmp t=>exact h.env t
 |const v=>exact JP v
 |func f=>exact .v _
 |global g=>
  simp only[St.ev];split
  ·rename_i l hl;obtain⟨h1,h2⟩:=h.gl.at_ g l hl
   exact .q _ _ _ _ _ _ (fun j=>l.at j) h1 (fun h=>by cases h) (fun j hj=>by
    have:(⟨g,0,none⟩:Addr).add j=⟨g,j,none⟩:=by unfold Addr.add;split<;>simp_all
    rw[this];exact h2 j Zo) (fun j hj=>by rw[Nat.zero_add];exact .v _)
  ·exact .top _
inductive TK where
 |int (k:IntKind)
 |bool
 |str
 |sl (e:TypeId)
 |ptr (e:TypeId)
 |st (q:Bool) (fs:List (Nat×TypeId))
 |arr (n:Nat) (e:TypeId)
 |OX (k e:TypeId)
 |lR
structure TI where
 k:TK
 sz:Nat
 Zz1:Nat
 z:Value
abbrev BT:=TypeId→Option TI
def TK.ok(P:Program)(t:TypeId):TK→Prop
 | .int k=>P.underlying t=some (.int k)
 | .bool=>P.underlying t=some .bool
 | .str=>P.underlying t=some .string
 | .sl e=>P.underlying t=some (.slice e)
 | .ptr e=>P.underlying t=some (.pointer e)
 | .st q fs=> ∃F,P.underlying t=some (.struct F)∧(F.toList.map fun f=>(f.offset,f.type))=fs∧(q=true→P.stoodInHeld t=false∧P.eqGuardType P.depth t=false∧(F.toList.all fun f=>f.name != "_")=true)
 | .arr n e=>P.underlying t=some (.array n e)
 | .OX k e=>P.underlying t=some (.map k e)
 | .lR=> ∃d,P.underlying t=some d∧(match d with| .struct _| .array _ _=>false|_=>true)=true
def TK.agg:TK→Bool
 | .st _ _=>true
 | .arr _ _=>true
 |_=>false
structure TI.ok (P:Program) (t:TypeId) (i:TI):Prop where
 info: ∃inf,P.info? t=some inf∧inf.size=i.sz∧inf.bytes=i.Zz1∧inf.zero=some i.z
 kind:i.k.ok P t
def BT.ok(P:Program)(T:BT):Prop:= ∀t i,T t=some i→TI.ok P t i
section
variable{P:Program}{t:TypeId}{i:TI}(w:World)
theorem TI.ok.size(h:TI.ok P t i):(sizeOf t).run P w=.ok i.sz w:=by
 obtain⟨inf,h1,h2,_⟩:=h.info;simp[sizeOf,typeInfo,h1,h2]
theorem TI.ok.agg(h:TI.ok P t i):(isAgg t).run P w=.ok i.k.agg w:=by
 have hk:=h.kind;unfold isAgg;cases hi:i.k<;>rw[hi]at hk<;>simp only[TK.ok]at hk
 case st q fs=>obtain⟨F,hF,_⟩:=hk;simp[run_underlying hF,TK.agg]
 case lR=>
  obtain⟨d,hd,tG⟩:=hk;simp only[Sem.run_bind,run_underlying hd,Result.andThen_ok];cases d<;>simp at tG<;>simp[TK.agg]
 all_goals simp[run_underlying hk,TK.agg]
end
def AV.strip:AV→AV
 | .g _ x=>x.strip
 |x=>x
def AV.cond:AV→Prop
 | .g b x=>b=true∧x.cond
 |_=>True
theorem AL.strip{B:Nat}{I:Nat→Prop}{w:World}{ρ:Nat→Option Value}{x:AV}{u:Value}(h:AL B I w ρ x u)(hk:x.cond):AL B I w ρ x.strip u:=by
 induction h with
 |g b x u h h0 ih=>exact ih hk.1 hk.2
 |v x=>exact .v x
 |s id x h h1=>exact .s id x h h1
 |w id off len cap A x h BW hA=>exact .w id off len cap A x h BW hA
 |p id off b x h hb=>exact .p id off b x h hb
 |i fr c sz off len cap A u BW hA hc ih=>exact .i fr c sz off len cap A u BW hA hc
 |q fr c sz e f ad u h2 h3 Bf hc ih=>exact .q fr c sz e f ad u h2 h3 Bf hc
 |a cs us hl h ih=>exact .a cs us hl h
 |t cs us hl h ih=>exact .t cs us hl h
 |f fn cs us hl h ih=>exact .f fn cs us hl h
 |o u h1=>exact .o u h1
 |top u=>exact .top u
theorem AL.Ao{B:Nat}{I:Nat→Prop}{w:World}{ρ:Nat→Option Value}{x u:Value}(h:AL B I w ρ (.v x) u):u=x:=by cases h;rfl
theorem AL.up{B:Nat}{I:Nat→Prop}{w:World}{ρ:Nat→Option Value}{x:AV}{u:Value}(h:AL B I w DW x u):AL B I w ρ x u:=
 h.mono (Nat.le_refl _) (fun b hb=>⟨hb,rfl⟩) ρ (fun _ _ h=>by cases h)
def CC(g:Nat→AV)(j:Nat):Nat→List AV
 |0=> []
 |n+1=>g j::CC g (j+1) n
theorem Cv(g:Nat→AV)(j n:Nat):(CC g j n).length=n:=by
 induction n generalizing j with
 |zero=>rfl
 |succ n ih=>simp[CC,ih]
theorem HY(g:Nat→AV)(j n k:Nat)(h:k<n):(CC g j n).getD k .top=g (j+k):=by
 induction n generalizing j k with
 |zero=>omega
 |succ n ih=>
  cases k with
  |zero=>simp[CC]
  |succ k=>
   have:=ih (j+1) k Zo;simp only[CC,List.getD_cons_succ];rw[this];congr 1;omega
theorem By(b off k:Nat):(⟨b,off,none⟩:Addr).add k=⟨b,off+k,none⟩:=by unfold Addr.add;split<;>simp_all
theorem add_add(a:Addr)(i j:Nat):(a.add i).add j=a.add (i+j):=by
 unfold Addr.add;by_cases hi:i=0<;>by_cases hj:j=0<;>simp[hi,hj,Nat.add_assoc]
theorem Df(a:Addr)(n:Nat):(a.add n).block=a.block:=by unfold Addr.add;split<;>rfl
def AN.cont:AN→AH
 | .box _ c=>c
 | .row _ _ c=>c
 | .mp _=>.AF []
 | .DN _ _ _=>.AF []
 | .FD _ c=>c
theorem HW.cell{B:Nat}{I:Nat→Prop}{w:World}{ρ:Nat→Option Value}{H:List (Nat×AN)}(h:HW B I w ρ H){id:Nat}{blk:AN}(hk:Af H id=some blk){x:Value}(hx:ρ id=some x){b:Nat}(hb:Ab x=some b){j:Nat}(hj:j<blk.cont.len):
  ∃u,w.cell? ⟨b,j,none⟩=some u∧AL B I w ρ (blk.cont.at j) u:=by
 obtain⟨x',CP,Ae⟩:=h.ok id blk hk;rw[hx]at CP;injection CP with CP;subst CP
 cases blk with
 |box t c=>
  obtain⟨b',us,rfl,hB,hh,hl,hc⟩:=Ae;simp[Ab]at hb;subst hb
  have M6:j<us.size:=by rw[hl];exact hj
  refine⟨us[j],?_,hc j _ (by simp[M6])⟩;simp[World.cell?,hh,M6]
 |row e sz c=>
  obtain⟨n,xs,ho,hl,hc⟩:=Ae;have M6:j<xs.length:=by rw[ho.1,←hl];exact hj
  rw[Bj ho]at hb;have:=ho.cells hb j xs[j] (by simp[M6]);rw[By,Nat.zero_add]at this;exact⟨xs[j],this,(hc j _ (by simp[M6])).up⟩
 |FD e c=>
  obtain⟨n,xs,ho,hl,hc⟩:=Ae;have M6:j<xs.length:=by rw[ho.1,←hl];exact hj
  rw[Bj ho]at hb;have:=ho.cells hb j xs[j] (by simp[M6]);rw[By,Nat.zero_add]at this;exact⟨xs[j],this,hc j _ (by simp[M6])⟩
 |mp c=>simp[AN.cont,AH.len]at hj
 |DN kd ks c=>simp[AN.cont,AH.len]at hj
def HZ(T:BT)(H:List (Nat×AN))(t:TypeId)(x:AV):Option (Prop×AV):=
 match x.strip with
 | .p id off=>
  match T t,Af H id with
  |some ti,some blk=>
   if ti.k.agg then some (x.cond∧off+ti.sz≤blk.cont.len,.a (CC (fun j=>blk.cont.at (off+j)) 0 ti.sz))
   else some (x.cond∧off<blk.cont.len,blk.cont.at off)
  |_,_=>none
 | .q _ c sz e f=>
  match T t with
  |some ti=>
   if ti.k.agg then some (x.cond∧f+ti.sz≤sz,.a (CC (fun j=>c e (f+j)) 0 ti.sz))
   else some (x.cond∧f<sz,c e f)
  |none=>none
 |_=>none
theorem Pn{P:Program}{T:BT}(hT:T.ok P){B:Nat}{I:Nat→Prop}{w:World}{ρ:Nat→Option Value}{t:TypeId}{ti:TI}(ht:T t=some ti)(ad:Addr)(c:Nat→AV)
  (h: ∀j,j<(if ti.k.agg then ti.sz else 1)→ ∃u,w.cell? (ad.add j)=some u∧AL B I w ρ (c j) u):
  ∃v,(loadVar t ad).run P w=.ok v w∧AL B I w ρ (if ti.k.agg then .a (CC c 0 ti.sz)else c 0) v:=by
 have hi:=hT t ti ht;unfold loadVar;simp only[Sem.run_bind,hi.agg w,Result.andThen_ok];cases Oj:ti.k.agg
 ·simp only[Oj,Bool.false_eq_true,if_false]at h ⊢;obtain⟨u,h1,h2⟩:=h 0 Zo;have:ad.add 0=ad:=rfl;rw[this]at h1;exact⟨u,by simp[h1],h2⟩
 ·simp only[Oj,if_true]at h ⊢
  have hu: ∃f:Nat→Value,∀j,j<ti.sz→w.cell? (ad.add j)=some (f j)∧AL B I w ρ (c j) (f j):=
   ⟨fun j=>if hj:j<ti.sz then Classical.choose (h j hj)else undef,fun j hj=>by simp only[hj,dif_pos];exact Classical.choose_spec (h j hj)⟩
  obtain⟨f,hf⟩:=hu;have hr:=run_loadCells (P:=P) w ad ti.sz f (fun j hj=>(hf j hj).1);refine⟨.agg ((List.range ti.sz).map f).toArray,by simp[hi.size w,hr],.a _ _ (by simp[Cv]) fun j hj=>?_⟩;rw[Cv]at hj;rw[HY _ _ _ _ hj,Nat.zero_add];have:(((List.range ti.sz).map f).toArray).getD j undef=f j:=by simp[Zag,hj]
  rw[this];exact(hf j hj).2
section
variable{P:Program}{T:BT}(hT:T.ok P){B:Nat}{I:Nat→Prop}{w:World}{ρ:Nat→Option Value}{H:List (Nat×AN)}(hw:HW B I w ρ H)
include hT hw
theorem SH{t:TypeId}{x:AV}{u:Value}{φ:Prop}{r:AV}(h:HZ T H t x=some (φ,r))(hφ:φ)(hx:AL B I w ρ x u):
  ∃v,(Instr.loadAt t u).run P w=.ok v w∧AL B I w ρ r v:=by
 unfold HZ at h;split at h
 ·rename_i id off hs;split at h
  ·rename_i ti blk ht hk
   have key:x.cond∧ ∀j,j<(if ti.k.agg then ti.sz else 1)→off+j<blk.cont.len:=by
    split at h
    ·rename_i Oj;injection h with h;injection h with h1 h2;subst h1;rw[if_pos Oj];exact⟨hφ.1,fun j hj=>by have:=hφ.2;omega⟩
    ·rename_i Oj;injection h with h;injection h with h1 h2;subst h1;rw[if_neg Oj];exact⟨hφ.1,fun j hj=>by have:=hφ.2;omega⟩
   have hc:=hx.strip key.1;rw[hs]at hc;cases hc with
   |p _ _ b x hr hb=>
    obtain⟨v,h1,h2⟩:=Pn (w:=w) (B:=B) (I:=I) (ρ:=ρ) hT ht ⟨b,off,none⟩ (fun j=>blk.cont.at (off+j)) (fun j hj=>by
     rw[By];exact hw.cell hk hr hb (key.2 j hj))
    refine⟨v,by simpa[Instr.loadAt,Instr.sureAddr]using h1,?_⟩;split at h
    ·rename_i Oj;injection h with h;injection h with _ h3;subst h3;rw[if_pos Oj]at h2;exact h2
    ·rename_i Oj;injection h with h;injection h with _ h3;subst h3;rw[if_neg Oj]at h2;exact h2
  ·cases h
 ·rename_i fr c sz e f hs;split at h
  ·rename_i ti ht
   have key:x.cond∧ ∀j,j<(if ti.k.agg then ti.sz else 1)→f+j<sz:=by
    split at h
    ·rename_i Oj;injection h with h;injection h with h1 h2;subst h1;rw[if_pos Oj];exact⟨hφ.1,fun j hj=>by have:=hφ.2;omega⟩
    ·rename_i Oj;injection h with h;injection h with h1 h2;subst h1;rw[if_neg Oj];exact⟨hφ.1,fun j hj=>by have:=hφ.2;omega⟩
   have hc:=hx.strip key.1;rw[hs]at hc;cases hc with
   |q _ _ _ _ _ ad uu h2 h3 Bf FE=>
    obtain⟨v,h1,h2⟩:=Pn (w:=w) (B:=B) (I:=I) (ρ:=ρ) hT ht ad (fun j=>c e (f+j)) (fun j hj=>⟨uu j,Bf j (key.2 j hj),(FE j (key.2 j hj)).up⟩);refine⟨v,by simpa[Instr.loadAt,Instr.sureAddr]using h1,?_⟩;split at h
    ·rename_i Oj;injection h with h;injection h with _ h3;subst h3;rw[if_pos Oj]at h2;exact h2
    ·rename_i Oj;injection h with h;injection h with _ h3;subst h3;rw[if_neg Oj]at h2;exact h2
  ·cases h
 ·cases h
end
end Go.Ad
