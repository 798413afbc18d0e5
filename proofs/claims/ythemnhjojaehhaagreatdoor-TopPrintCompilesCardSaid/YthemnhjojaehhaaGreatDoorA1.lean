/- Part of a proof. -/
import Derived.Test.YthemnhjojaehhaaGreatDoorA0
set_option linter.all false
namespace Go.Ad
open Go.RowKit
def A0{α:Type}(m:List (Key×α))(k:Key)(d:α):α:=((m.find? (fun p=>p.1=k)).map (·.2)).getD d
def A5{α:Type}(m:List (Key×α))(k:Key)(v:α):List (Key×α):=
 match m with
 | []=> [(k,v)]
 |p::r=>if p.1=k then(k,v)::r else p::A5 r k v
def MC.lQ(c:MC)(k:Key)(v:Value):Option MC:=
 match c,v with
 | .ints kd q m,.int q' n=>if q'=q then some (.ints kd q (A5 m k n))else none
 | .LO kd m,.bool x=>some (.LO kd (A5 m k x))
 | .VN kd m,x=>some (.VN kd (A5 m k x))
 |_,_=>none
def Iy:Bool→TypeDesc
 |true=>.int .i64
 |false=>.string
theorem Key.val_inj{a b:Key}(h:a.val=b.val):a=b:=by
 cases a<;>cases b<;>simp[Key.val]at h<;>simp[h]
theorem Key.isKey{a:Key}{kd:Bool}(h:a.Pl=kd):MapKept.IsKey (Iy kd) a.val:=by
 subst h;cases a<;>simp[Key.Pl,Iy,Key.val,MapKept.IsKey]
theorem VO{α β:Type}(f:α→β)(m:List (Key×α))(k:Key)(v:α):(A5 m k v).map (fun p=>(p.1,f p.2))=A5 (m.map fun p=>(p.1,f p.2)) k (f v):=by
 induction m with
 |nil=>simp[A5]
 |cons p r ih=>
  simp only[A5,List.map_cons];split<;>simp[ih]
theorem MC.fi{c c':MC}{k:Key}{v:Value}(h:c.lQ k v=some c'):c'.GD=A5 c.GD k v∧c'.kd=c.kd:=by
 unfold MC.lQ at h;split at h
 ·split at h
  ·rename_i hq;subst hq
   injection h with h;subst h
   exact⟨VO _ _ _ _,rfl⟩
  ·cases h
 ·injection h with h;subst h
  exact⟨VO _ _ _ _,rfl⟩
 ·injection h with h;subst h
  exact⟨rfl,rfl⟩
 ·cases h
theorem bb{α:Type}{m:List (Key×α)}{k:Key}(v:α)(h: ∀p∈m,p.1≠k):A5 m k v=m++ [(k,v)]:=by
 induction m with
 |nil=>rfl
 |cons p r ih=>
  simp only[A5];rw[if_neg (h p (by simp)),ih (fun q hq=>h q (by simp[hq]))];rfl
theorem lp{α:Type}{m:List (Key×α)}{k:Key}{u:α}(v:α)(hn:(m.map (·.1)).Nodup){j:Nat}(hj:m[j]? =some (k,u)):A5 m k v=m.set j (k,v):=by
 induction m generalizing j with
 |nil=>simp at hj
 |cons p r ih=>
  simp only[List.map_cons,List.nodup_cons]at hn;cases j with
  |zero=>simp at hj;subst hj;simp[A5]
  |succ j=>
   simp at hj;have CD:p.1≠k:=fun e=>hn.1 (by rw[e];exact List.mem_map.2 ⟨(k,u),List.mem_of_getElem? hj,rfl⟩);simp[A5,CD,ih hn.2 hj]
theorem fj{α:Type}{m:List (Key×α)}{k:Key}{v:α}{p:Key×α}(h:p∈A5 m k v):p=(k,v)∨p∈m:=by
 induction m with
 |nil=>simp[A5]at h;exact .inl h
 |cons q r ih=>
  simp only[A5]at h;split at h
  ·rcases List.mem_cons.1 h with h|h
   ·exact .inl h
   ·exact .inr (by simp[h])
  ·rcases List.mem_cons.1 h with h|h
   ·exact .inr (by simp[h])
   ·rcases ih h with h|h
    ·exact .inl h
    ·exact .inr (by simp[h])
theorem SI{α:Type}{m:List (Key×α)}{k:Key}(d:α)(h: ∀p∈m,p.1≠k):A0 m k d=d:=by
 unfold A0;rw[List.find?_eq_none.2 (fun p hp=>by simpa using h p hp)];rfl
theorem Ze{α:Type}{m:List (Key×α)}{k:Key}{u:α}(d:α)(hn:(m.map (·.1)).Nodup)(h:(k,u)∈m):A0 m k d=u:=by
 induction m with
 |nil=>cases h
 |cons p r ih=>
  simp only[List.map_cons,List.nodup_cons]at hn;rcases List.mem_cons.1 h with h|h
  ·subst h;simp[A0]
  ·have CD:p.1≠k:=fun e=>hn.1 (by rw[e];exact List.mem_map.2 ⟨(k,u),h,rfl⟩);have:=ih hn.2 h;simpa[A0,CD]using this
section
variable{P:Program}{w:World}{b:Nat}{c:MC}{kt:TypeId}
theorem NC{es:Array MapEntry}{clock:Nat}(hl:es.toList.map (fun e=>(e.key,e.val))=c.GD.map (fun p=>(p.1.val,p.2)))(hs:MapKept.Stamped es clock):(c.GD.map (·.1)).Nodup:=by
 have h1:(es.toList.map (·.key))=(c.GD.map (·.1)).map Key.val:=by
  have:=congrArg (List.map (·.1)) hl;simpa[List.map_map,Function.comp_def]using this
 have h2:=hs.2.2;rw[h1]at h2;exact(List.nodup_iff_pairwise_ne.1 h2).of_map Key.val (fun a b h e=>h (by rw[e]))
theorem Po{es:Array MapEntry}(hk:P.underlying kt=some (Iy c.kd))(hl:es.toList.map (fun e=>(e.key,e.val))=c.GD.map (fun p=>(p.1.val,p.2)))(hw: ∀p∈c.GD,p.1.Pl=c.kd)(key:Key)(Dt:key.Pl=c.kd):
  ((Instr.findKey kt key.val es.toList).run P w=.ok none w∧(∀p∈c.GD,p.1≠key)∧ ∀e∈es.toList,e.key≠key.val)∨ ∃j e,(Instr.findKey kt key.val es.toList).run P w=.ok (some (j,e.val)) w∧es.toList[j]? =some e∧e.key=key.val∧c.GD[j]? =some (key,e.val):=by
 have Ci: ∀y∈es.toList,MapKept.IsKey (Iy c.kd) y.key:=fun y hy=>by
  have:(y.key,y.val)∈c.GD.map (fun p=>(p.1.val,p.2)):=hl▸List.mem_map.2 ⟨y,hy,rfl⟩;obtain⟨p,hp,he⟩:=List.mem_map.1 this;simp only[Prod.mk.injEq]at he;rw[←he.1];exact Key.isKey (hw p hp)
 rcases MapKept.findNow_spec (Key.isKey Dt) es.toList 0 Ci with ⟨h1,h2⟩|⟨j,e0,h1,h2,h3⟩
 ·refine .inl ⟨MapKept.run_findKey hk h1,fun p hp e=>?_,h2⟩;have:(p.1.val,p.2)∈es.toList.map (fun e=>(e.key,e.val)):=hl▸List.mem_map.2 ⟨p,hp,rfl⟩;obtain⟨y,hy,he⟩:=List.mem_map.1 this;simp only[Prod.mk.injEq]at he;exact h2 y hy (by rw[he.1,e])
 ·refine .inr ⟨j,e0,by simpa using MapKept.run_findKey hk h1,h2,h3,?_⟩;have h4:(c.GD.map (fun p=>(p.1.val,p.2)))[j]? =some (e0.key,e0.val):=by rw[←hl,List.getElem?_map,h2];rfl
  rw[List.getElem?_map]at h4;cases hc:c.GD[j]? with
  |none=>rw[hc]at h4;cases h4
  |some p=>
   rw[hc]at h4;simp at h4;have:=Key.val_inj (h4.1.trans h3);rw[←this,←h4.2]
theorem VP{t e:TypeId}(h:Pm w b c)(ht:P.underlying t=some (.map kt e))(hk:P.underlying kt=some (Iy c.kd)){z:Value}(hz:(zeroValue e).run P w=.ok z w)(key:Key)(Dt:key.Pl=c.kd):
  (Instr.lookup t (.map (some b)) key.val false).run P w=.ok (A0 c.GD key z) w:=by
 obtain⟨es,clock,hb,hl,hs,_,hw⟩:=h;have bI:=NC hl hs;rcases Po (w:=w) hk hl (fun p hp=>(hw p hp).2.1) key Dt with ⟨h1,h2,_⟩|⟨j,e0,h1,_,_,h2⟩
 ·simp[Instr.lookup,run_underlying ht,MapKept.run_getObj_map hb,MapKept.run_checkKey hk (Key.isKey Dt),h1,hz,Result.andThen,SI z h2]
 ·simp[Instr.lookup,run_underlying ht,MapKept.run_getObj_map hb,MapKept.run_checkKey hk (Key.isKey Dt),h1,Result.andThen,Ze z bI (List.mem_of_getElem? h2)]
def LC{α:Type}(m:List (Key×α))(k:Key):Bool:=m.any fun p=>decide (p.1=k)
theorem bc{α:Type}{m:List (Key×α)}{k:Key}(h: ∀p∈m,p.1≠k):LC m k=false:=by
 unfold LC;rw[List.any_eq_false];intro p hp;simpa using h p hp
theorem fp{α:Type}{m:List (Key×α)}{k:Key}{u:α}(h:(k,u)∈m):LC m k=true:=by
 unfold LC;rw[List.any_eq_true];exact⟨_,h,by simp⟩
theorem VQ{α β:Type}(f:α→β)(m:List (Key×α))(k:Key):LC (m.map fun p=>(p.1,f p.2)) k=LC m k:=by
 unfold LC;rw[List.any_map];rfl
theorem fq{ks:List Key}{BJ:List Value}(hl:BJ.length=ks.length)(k:Key):LC (ks.zip BJ) k=ks.any fun x=>decide (x=k):=by
 induction ks generalizing BJ with
 |nil=>rfl
 |cons a r ih=>
  cases BJ with
  |nil=>simp at hl
  |cons v vs=>
   have:=ih (BJ:=vs) (by simpa using hl);unfold LC at this ⊢;simp only[List.zip_cons_cons,List.any_cons,this]
theorem SJ{t e:TypeId}(h:Pm w b c)(ht:P.underlying t=some (.map kt e))(hk:P.underlying kt=some (Iy c.kd)){z:Value}(hz:(zeroValue e).run P w=.ok z w)(key:Key)(Dt:key.Pl=c.kd):
  (Instr.lookup t (.map (some b)) key.val true).run P w=.ok (.tuple #[A0 c.GD key z,.bool (LC c.GD key)]) w:=by
 obtain⟨es,clock,hb,hl,hs,_,hw⟩:=h;have bI:=NC hl hs;rcases Po (w:=w) hk hl (fun p hp=>(hw p hp).2.1) key Dt with ⟨h1,h2,_⟩|⟨j,e0,h1,_,_,h2⟩
 ·simp[Instr.lookup,run_underlying ht,MapKept.run_getObj_map hb,MapKept.run_checkKey hk (Key.isKey Dt),h1,hz,Result.andThen,SI z h2,bc h2]
 ·simp[Instr.lookup,run_underlying ht,MapKept.run_getObj_map hb,MapKept.run_checkKey hk (Key.isKey Dt),h1,Result.andThen,Ze z bI (List.mem_of_getElem? h2),fp (List.mem_of_getElem? h2)]
theorem Zf{t e:TypeId}(h:Pm w b c)(ht:P.underlying t=some (.map kt e))(hk:P.underlying kt=some (Iy c.kd))(key:Key)(Dt:key.Pl=c.kd)(wL:key.wf){v:Value}(hv:qU v){c':MC}(hc:c.lQ key v=some c')(hn:c.GD.length<9223372036854775807):
  ∃o,(Instr.mapUpdate t (.map (some b)) key.val v).run P w=.ok () {w with heap:=w.heap.setIfInBounds b o}∧Pm {w with heap:=w.heap.setIfInBounds b o} b c':=by
 obtain⟨es,clock,hb,hl,hs,Bh,hw⟩:=h;have bI:=NC hl hs;have hlen:es.size=c.GD.length:=by have:=congrArg List.length hl;simpa using this
 have Ak:=(Array.getElem?_eq_some_iff.1 hb).1;obtain⟨he,J1⟩:=MC.fi hc
 have hwn: ∀p∈c'.GD,p.1.wf∧p.1.Pl=c'.kd∧qU p.2:=fun p hp=>by
  rw[he]at hp;rw[J1];rcases fj hp with rfl|hp
  ·exact⟨wL,Dt,hv⟩
  ·exact hw p hp
 rcases Po (w:=w) hk hl (fun p hp=>(hw p hp).2.1) key Dt with ⟨h1,h2,h3⟩|⟨j,e0,h1,h2,h3,h4⟩
 ·refine⟨.map (es.push ⟨key.val,v,clock⟩) (clock+1),?_,es.push ⟨key.val,v,clock⟩,clock+1,by simp[Ak],?_,?_,by simp;omega,hwn⟩
  ·simp[Instr.mapUpdate,run_underlying ht,MapKept.run_getObj_map hb,MapKept.run_checkKey hk (Key.isKey Dt),h1,MapKept.run_setObj_map _ hb,Result.andThen]
  ·rw[he,bb v h2,Array.toList_push,List.map_append,hl];simp
  ·exact MapKept.stamped_push hs h3
 ·have hj:es[j]? =some e0:=by simpa using h2
  have wM:(es.modify j (fun e'=> {e' with key:=key.val,val:=v})).toList=es.toList.set j {e0 with key:=key.val,val:=v}:=by
   rw[Array.toList_modify,ChangeMaps.modify_eq_set _ _ _ _ h2]
  refine⟨.map (es.modify j (fun e'=> {e' with key:=key.val,val:=v})) clock,?_,es.modify j (fun e'=> {e' with key:=key.val,val:=v}),clock,by simp[Ak],?_,?_,by simpa using Bh,hwn⟩
  ·simp[Instr.mapUpdate,run_underlying ht,MapKept.run_getObj_map hb,MapKept.run_checkKey hk (Key.isKey Dt),h1,hj,h3,MapKept.run_keyThatStays (Key.isKey Dt),MapKept.run_setObj_map _ hb,Result.andThen]
  ·rw[he,lp v bI h4,wM,List.map_set,hl,List.map_set]
  ·exact MapKept.stamped_modify hs _ _ (fun _ _=>rfl) (fun e' _ he'=>by rw[hj]at he';cases he';exact h3.symm)
end
def GF:Option AV→Nat→Option (Prop×Nat)
 |none,d=>some (True,d)
 |some x,_=>match x.strip with
  | .v (.int _ n)=>some (x.cond∧0≤n,n.toNat)
  |_=>none
def Cu(T:BT)(H:List (Nat×AN))(t:TypeId)(x i:AV):Option (Prop×AV):=
 match i.strip with
 | .v (.int _ n)=>
  match T t with
  |some ⟨.sl e,_,_,_⟩=>
   match T e with
   |some te=>
    match x.strip with
    | .i fr c sz off len=>some (x.cond∧i.cond∧te.sz=sz∧0≤n∧n<len,.q fr c sz (off+n.toNat) 0)
    | .s id=>
     match Af H id with
     |some (.row _ sz c)=>some (x.cond∧i.cond∧te.sz=sz∧0<sz∧0≤n∧(n.toNat+1)*sz≤c.len,.p id (n.toNat*sz))
     |some (.FD _ c)=>some (x.cond∧i.cond∧te.sz=1∧0≤n∧n.toNat<c.len,.p id n.toNat)
     |_=>none
    | .w id off len=>some (x.cond∧i.cond∧0≤n∧n<len,.p id (off+n.toNat*te.sz))
    |_=>none
   |none=>none
  |some ⟨.arr m e,_,_,_⟩=>
   match T e with
   |some te=>
    match x.strip with
    | .p id off=>some (x.cond∧i.cond∧0≤n∧n<m,.p id (off+n.toNat*te.sz))
    | .q fr c sz el f=>some (x.cond∧i.cond∧0≤n∧n<m,.q fr c sz el (f+n.toNat*te.sz))
    |_=>none
   |none=>none
  |_=>none
 |_=>none
def IE(T:BT)(s:TypeId)(x:AV)(k:Nat):Option (Prop×AV):=
 match T s with
 |some ⟨.st _ fs,_,_,_⟩=>
  match fs[k]? with
  |some (o,ty)=>
   match T ty with
   |some tf=>
    match x.strip with
    | .p id off=>some (x.cond∧tf.sz≠0,.p id (off+o))
    | .q fr c sz e j=>some (x.cond∧tf.sz≠0,.q fr c sz e (j+o))
    |_=>none
   |none=>none
  |none=>none
 |_=>none
def Oq(T:BT)(s:TypeId)(x:AV)(k:Nat):Option (Prop×AV):=
 match T s with
 |some ⟨.st _ fs,_,_,_⟩=>
  match fs[k]? with
  |some (o,ty)=>
   match T ty,x.strip with
   |some tf,.a cs=>if tf.k.agg then some (x.cond∧o+tf.sz≤cs.length,.a ((cs.drop o).take tf.sz))else some (x.cond∧o<cs.length,cs.getD o .top)
   |_,_=>none
  |none=>none
 |_=>none
def Km(x:AV)(k:Nat):Option (Prop×AV):=
 match x.strip with
 | .t cs=>some (x.cond∧k<cs.length,cs.getD k .top)
 |_=>none
def qW(k:IntKind)(a b:Int):Int:=k.wrap ((BitVec.ofInt k.bits a &&& BitVec.ofInt k.bits b).toNat:Int)
def Zg:BinOp→IntKind→Int→Int→Option (Prop×Value)
 | .add,k,a,b=>some (True,.int k (k.wrap (a+b)))
 | .sub,k,a,b=>some (True,.int k (k.wrap (a - b)))
 | .mul,k,a,b=>some (True,.int k (k.wrap (a*b)))
 | .quo,k,a,b=>some (b≠0,.int k (k.wrap (a.tdiv b)))
 | .rem,k,a,b=>some (b≠0,.int k (a.tmod b))
 | .eql,_,a,b=>some (True,.bool (a==b))
 | .neq,_,a,b=>some (True,.bool (a != b))
 | .lss,_,a,b=>some (True,.bool (decide (a<b)))
 | .leq,_,a,b=>some (True,.bool (decide (a≤b)))
 | .gtr,_,a,b=>some (True,.bool (decide (b<a)))
 | .geq,_,a,b=>some (True,.bool (decide (b≤a)))
 | .and,k,a,b=>some (True,.int k (qW k a b))
 | .shr,k,a,b=>some (0≤b∧b.toNat≤k.bits,.int k (a.fdiv (2^b.toNat)))
 | .shl,k,a,b=>some (0≤b∧b.toNat≤k.bits,.int k (k.wrap (a*2^b.toNat)))
 |_,_,_,_=>none
def Zh:BinOp→ByteArray→ByteArray→Option (Prop×Value)
 | .add,a,b=>some (a.size+b.size≤9223372036854775807,.string (a++b))
 | .eql,a,b=>some (True,.bool (a.toList==b.toList))
 | .neq,a,b=>some (True,.bool (!(a.toList==b.toList)))
 | .lss,a,b=>some (True,.bool (Op.bytesLess a.toList b.toList))
 | .leq,a,b=>some (True,.bool (Op.bytesLess a.toList b.toList||a.toList==b.toList))
 | .gtr,a,b=>some (True,.bool (!(Op.bytesLess a.toList b.toList||a.toList==b.toList)))
 | .geq,a,b=>some (True,.bool (!Op.bytesLess a.toList b.toList))
 |_,_,_=>none
def lq(T:BT)(cs ds:List AV):List (Nat×TypeId)→Option Bool
 | []=>some true
 |(o,ty)::r=>
  match T ty,cs.getD o .top,ds.getD o .top with
  |some ⟨.int _,_,_,_⟩,.v (.int k a),.v (.int k' b)=>if k=k' then(match lq T cs ds r with|some t=>some ((a==b)&&t)|none=>none)else none
  |some ⟨.bool,_,_,_⟩,.v (.bool a),.v (.bool b)=>(match lq T cs ds r with|some t=>some ((a==b)&&t)|none=>none)
  |some ⟨.str,_,_,_⟩,.v (.string a),.v (.string b)=>(match lq T cs ds r with|some t=>some ((a==b)&&t)|none=>none)
  |_,_,_=>none
def Zi(T:BT)(op:BinOp)(t:TypeId)(x y:AV):Option (Prop×AV):=
 match x.strip,y.strip with
 | .v (.int k a),.v (.int k' b)=>
  if k=k' then(match Zg op k a b with|some (φ,r)=>some (x.cond∧y.cond∧φ,.v r)|none=>none)else none
 | .v (.string a),.v (.string b)=>(match Zh op a b with|some (φ,r)=>some (x.cond∧y.cond∧φ,.v r)|none=>none)
 | .v (.bool a),.v (.bool b)=>
  match T t,op with
  |some ⟨.bool,_,_,_⟩,.eql=>some (x.cond∧y.cond,.v (.bool (a==b)))
  |some ⟨.bool,_,_,_⟩,.neq=>some (x.cond∧y.cond,.v (.bool (!(a==b))))
  |_,_=>none
 | .a cs,.a ds=>
  match T t with
  |some ⟨.st true fs,_,_,_⟩=>
   match lq T cs ds fs,op with
   |some r,.eql=>some (x.cond∧y.cond,.v (.bool r))
   |some r,.neq=>some (x.cond∧y.cond,.v (.bool (!r)))
   |_,_=>none
  |_=>none
 | .i _ _ _ _ len,.v (.slice none 0 0)=>
  match T t,op with
  |some ⟨.sl _,_,_,_⟩,.eql=>some (x.cond∧y.cond∧0<len,.v (.bool false))
  |some ⟨.sl _,_,_,_⟩,.neq=>some (x.cond∧y.cond∧0<len,.v (.bool true))
  |_,_=>none
 | .v (.slice A _ _),.v (.slice none 0 0)=>
  match T t,op with
  |some ⟨.sl _,_,_,_⟩,.eql=>some (x.cond∧y.cond,.v (.bool A.isNone))
  |some ⟨.sl _,_,_,_⟩,.neq=>some (x.cond∧y.cond,.v (.bool (!A.isNone)))
  |_,_=>none
 | .p _ _,.v (.pointer none)=>
  match T t,op with
  |some ⟨.ptr _,_,_,_⟩,.eql=>some (x.cond∧y.cond,.v (.bool false))
  |some ⟨.ptr _,_,_,_⟩,.neq=>some (x.cond∧y.cond,.v (.bool true))
  |_,_=>none
 | .v (.pointer none),.v (.pointer none)=>
  match T t,op with
  |some ⟨.ptr _,_,_,_⟩,.eql=>some (x.cond∧y.cond,.v (.bool true))
  |some ⟨.ptr _,_,_,_⟩,.neq=>some (x.cond∧y.cond,.v (.bool false))
  |_,_=>none
 | .p i a,.p j b=>
  match T t,op with
  |some ⟨.ptr e,_,_,_⟩,.eql=>if T e|>.isSome then some (x.cond∧y.cond∧i=j∧a=b,.v (.bool true))else none
  |some ⟨.ptr e,_,_,_⟩,.neq=>if T e|>.isSome then some (x.cond∧y.cond∧i=j∧a=b,.v (.bool false))else none
  |_,_=>none
 |_,_=>none
def lr(op:UnOp)(x:AV):Option (Prop×AV):=
 match op,x.strip with
 | .neg,.v (.int k n)=>some (x.cond,.v (.int k (k.wrap (0 - n))))
 | .not,.v (.bool b)=>some (x.cond,.v (.bool (!b)))
 |_,_=>none
def Tc(c x y:AV):Option (Prop×AV):=
 match c.strip with
 | .v (.bool b)=>
  match x.strip,y.strip with
  | .v (.bool p),.v (.bool q)=>some (c.cond∧(b=true→x.cond)∧(b=false→y.cond),.v (.bool (bif b then p else q)))
  | .v (.int k p),.v (.int k' q)=>if k=k' then some (c.cond∧(b=true→x.cond)∧(b=false→y.cond),.v (.int k (bif b then p else q)))else none
  | .v p,.v q=>some (c.cond∧(b=true→x.cond)∧(b=false→y.cond),.v (bif b then p else q))
  |_,_=>none
 |_=>none
def GQ(T:BT)(H:List (Nat×AN))(t:TypeId)(x:AV)(lo hi:Option AV):Option (Prop×AV):=
 match T t with
 |some ⟨.sl e,_,_,_⟩=>
  match T e,GF lo 0 with
  |some te,some (p,l)=>
   match x.strip with
   | .i fr c sz off len=>
    match GF hi len with
    |some (q,h)=>some (x.cond∧p∧q∧te.sz=sz∧l≤h∧h≤len,.i fr c sz (off+l) (h - l))
    |none=>none
   | .s id=>
    match Af H id with
    |some (.row _ sz c)=>
     match GF hi (c.len / sz)with
     |some (q,h)=>some (x.cond∧p∧q∧te.sz=sz∧0<sz∧l≤h∧h≤c.len / sz,.w id (l*sz) (h - l))
     |none=>none
    |_=>none
   | .w id off len=>
    match GF hi len with
    |some (q,h)=>some (x.cond∧p∧q∧l≤h∧h≤len,.w id (off+l*te.sz) (h - l))
    |none=>none
   |_=>none
  |_,_=>none
 |some ⟨.str,_,_,_⟩=>
  match x.strip,GF lo 0 with
  | .v (.string s),some (p,l)=>
   match GF hi s.size with
   |some (q,h)=>some (x.cond∧p∧q∧l≤h∧h≤s.size,.v (.string (s.extract l h)))
   |none=>none
  |_,_=>none
 |some ⟨.arr m e,_,_,_⟩=>
  match T e,GF lo 0,GF hi m,x.strip with
  |some te,some (p,l),some (q,h),.p id off=>some (x.cond∧p∧q∧l≤h∧h≤m,.w id (off+l*te.sz) (h - l))
  |_,_,_,_=>none
 |_=>none
def LP(T:BT)(H:List (Nat×AN))(t:TypeId)(x:AV):Option (Prop×AV):=
 match T t with
 |some ⟨.sl _,_,_,_⟩=>
  match x.strip with
  | .i _ _ _ _ len=>some (x.cond,.v (.int .i64 len))
  | .w _ _ len=>some (x.cond,.v (.int .i64 len))
  | .s id=>
   match Af H id with
   |some (.row _ sz c)=>some (x.cond∧0<sz,.v (.int .i64 (c.len / sz:Nat)))
   |_=>none
  | .v (.slice _ n _)=>some (x.cond,.v (.int .i64 n))
  |_=>none
 |some ⟨.str,_,_,_⟩=>
  match x.strip with
  | .v (.string s)=>some (x.cond,.v (.int .i64 s.size))
  |_=>none
 |some ⟨.arr n _,_,_,_⟩=>some (True,.v (.int .i64 n))
 |_=>none
def Zj(xs:List AV):Option (Prop×AV):=
 match xs with
 | [x,y]=>
  match x.strip,y.strip with
  | .v (.int k a),.v (.int _ b)=>some (x.cond∧y.cond,.v (.int k (min a b)))
  |_,_=>none
 | [x,y,z]=>
  match x.strip,y.strip,z.strip with
  | .v (.int k a),.v (.int k2 b),.v (.int k3 c)=>some (x.cond∧y.cond∧z.cond∧k2=k∧k3=k,.v (.int k (min (min a b) c)))
  |_,_,_=>none
 |_=>none
def Zz2(xs:List AV):Option (Prop×AV):=
 match xs with
 | [x,y]=>
  match x.strip,y.strip with
  | .v (.int k a),.v (.int _ b)=>some (x.cond∧y.cond,.v (.int k (max a b)))
  |_,_=>none
 |_=>none
def Kn(T:BT)(src dst:TypeId)(x:AV):Option (Prop×AV):=
 match T src,T dst,x.strip with
 |some _,some ⟨.int k,_,_,_⟩,.v (.int _ n)=>some (x.cond,.v (.int k (k.wrap n)))
 |_,_,_=>none
def Ot(T:BT)(t:TypeId)(x i:AV):Option (Prop×AV):=
 match T t,x.strip,i.strip with
 |some ⟨.str,_,_,_⟩,.v (.string s),.v (.int _ n)=>some (x.cond∧i.cond∧0≤n∧n<s.size,.v (.int .u8 (s.data.getD n.toNat 0).toNat))
 |_,_,_=>none
def Zl(x:AV):Option (Prop×AV):=
 match x.strip with
 | .p id off=>some (x.cond,.p id off)
 | .q fr c sz e f=>some (x.cond,.q fr c sz e f)
 | .f (.func k) cs=>some (x.cond,.f (.func k) cs)
 | .f (.yield k) cs=>some (x.cond,.f (.yield k) cs)
 |_=>none
def JR:TK→Value→Option Key
 | .int .i64,.int .i64 n=>some (.i n)
 | .str,.string s=>some (.s s)
 |_,_=>none
theorem Fb{tk:TK}{v:Value}{key:Key}(h:JR tk v=some key):v=key.val∧((tk=.int .i64∧key.Pl=true)∨(tk=.str∧key.Pl=false)):=by
 unfold JR at h;split at h<;>first|(cases h;done)|(injection h with h;subst h;simp[Key.val,Key.Pl])
def LD(ks:List Key)(k:Key)(c:AH)(z:AV):AV:=if ks.findIdx (fun x=>x=k)<ks.length then c.at (ks.findIdx (fun x=>x=k))else z
def FF(T:BT)(H:List (Nat×AN))(t:TypeId)(x k:AV):Option (Prop×AV):=
 match T t with
 |some ⟨.OX kt e,_,_,_⟩=>
  match T kt,T e,x.strip,k.strip with
  |some tk,some te,.s id,.v kv=>
   match Af H id,JR tk.k kv with
   |some (.mp (.ints kd q m)),some key=>some (x.cond∧k.cond∧te.z=.int q 0∧key.Pl=kd,.v (.int q (A0 m key 0)))
   |some (.mp (.LO kd m)),some key=>some (x.cond∧k.cond∧te.z=.bool false∧key.Pl=kd,.v (.bool (A0 m key false)))
   |some (.DN kd ks c),some key=>some (x.cond∧k.cond∧LB te.z=true∧key.Pl=kd,LD ks key c (.v te.z))
   |_,_=>none
  |_,_,_,_=>none
 |_=>none
def EC(T:BT)(H:List (Nat×AN))(t:TypeId)(x k:AV):Option (Prop×AV):=
 match T t with
 |some ⟨.OX kt e,_,_,_⟩=>
  match T kt,T e,x.strip,k.strip with
  |some tk,some te,.s id,.v kv=>
   match Af H id,JR tk.k kv with
   |some (.mp (.ints kd q m)),some key=>some (x.cond∧k.cond∧te.z=.int q 0∧key.Pl=kd,.t [.v (.int q (A0 m key 0)),.v (.bool (LC m key))])
   |some (.mp (.LO kd m)),some key=>some (x.cond∧k.cond∧te.z=.bool false∧key.Pl=kd,.t [.v (.bool (A0 m key false)),.v (.bool (LC m key))])
   |some (.DN kd ks c),some key=>some (x.cond∧k.cond∧LB te.z=true∧key.Pl=kd,.t [LD ks key c (.v te.z),.v (.bool (ks.any fun x=>decide (x=key)))])
   |_,_=>none
  |_,_,_,_=>none
 |_=>none
theorem MH{α β:Type}(f:α→β)(m:List (Key×α))(k:Key)(d:α):A0 (m.map fun p=>(p.1,f p.2)) k (f d)=f (A0 m k d):=by
 unfold A0;rw[List.find?_map];have:((fun(p:Key×β)=>decide (p.1=k))∘fun(p:Key×α)=>(p.1,f p.2))=fun p=>decide (p.1=k):=rfl;rw[this];cases m.find? (fun p=>decide (p.1=k))<;>rfl
theorem VR{ks:List Key}{BJ:List Value}(hl:BJ.length=ks.length)(k:Key)(z:Value):A0 (ks.zip BJ) k z=if ks.findIdx (fun x=>x=k)<ks.length then BJ.getD (ks.findIdx (fun x=>x=k)) undef else z:=by
 induction ks generalizing BJ with
 |nil=>simp[A0]
 |cons a r ih=>
  cases BJ with
  |nil=>simp at hl
  |cons v vs=>
   have ih':=ih (BJ:=vs) (by simpa using hl);by_cases e:a=k
   ·simp[A0,e,List.findIdx_cons]
   ·have h1:A0 ((a,v)::r.zip vs) k z=A0 (r.zip vs) k z:=by simp[A0,e]
    rw[List.zip_cons_cons,h1,ih'];simp[List.findIdx_cons,e]
section
variable{P:Program}{T:BT}(hT:T.ok P){B:Nat}{I:Nat→Prop}{w:World}{ρ:Nat→Option Value}{H:List (Nat×AN)}(hw:HW B I w ρ H)
theorem bf{x:Option AV}{u:Option Value}{d l:Nat}{φ:Prop}(h:GF x d=some (φ,l))(hφ:φ)(hx: ∀y,x=some y→ ∃v,u=some v∧AL B I w ρ y v)(hn:x=none→u=none):
  (x=none∧u=none∧l=d)∨ ∃k n,u=some (.int k n)∧0≤n∧l=n.toNat:=by
 cases x with
 |none=>simp[GF]at h;exact .inl ⟨rfl,hn rfl,h.2.symm⟩
 |some y=>
  obtain⟨v,rfl,hc⟩:=hx y rfl;simp only[GF]at h;split at h
  ·rename_i k n hs;simp only[Option.some.injEq,Prod.mk.injEq]at h;obtain⟨rfl,rfl⟩:=h;have:=hc.strip hφ.1;rw[hs]at this;exact .inr ⟨k,n,by rw[this.Ao],hφ.2,rfl⟩
  ·cases h
include hT in
theorem Pp{s:TypeId}{x:AV}{k:Nat}{u:Value}{φ:Prop}{r:AV}(h:IE T s x k=some (φ,r))(hφ:φ)(hx:AL B I w ρ x u):
  ∃v,(Instr.fieldAt s u k).run P w=.ok v w∧AL B I w ρ r v:=by
 unfold IE at h;split at h
 ·rename_i fs _ _ _ hs;obtain⟨F,hF,qB,_⟩:=(hT _ _ hs).kind;split at h
  ·rename_i o ty ho;rw[←qB,List.getElem?_map]at ho
   have: ∃f,F[k]? =some f∧f.offset=o∧f.type=ty:=by
    rw[Array.getElem?_toList]at ho;cases hf:F[k]? with
    |none=>rw[hf]at ho;cases ho
    |some f=>rw[hf]at ho;simp at ho;exact⟨f,rfl,ho.1,ho.2⟩
   obtain⟨f,hf,rfl,rfl⟩:=this;split at h
   ·rename_i tf yH;have Bh:=(hT _ _ yH).size w;split at h
    ·rename_i id off BE;simp only[Option.some.injEq,Prod.mk.injEq]at h;obtain⟨rfl,rfl⟩:=h;have hc:=hx.strip hφ.1;rw[BE]at hc;cases hc with
     |p _ _ b x hr hb=>
      refine⟨.pointer (some ⟨b,off+f.offset,none⟩),?_,.p _ _ b x hr hb⟩;simp[Instr.fieldAt,run_underlying hF,hf,Instr.sureAddr,fieldPlace,Bh,hφ.2,By]
    ·rename_i fr c sz e j BE;simp only[Option.some.injEq,Prod.mk.injEq]at h;obtain⟨rfl,rfl⟩:=h;have hc:=hx.strip hφ.1;rw[BE]at hc;cases hc with
     |q _ _ _ _ _ ad uu h2 h3 Bf FE=>
      refine⟨.pointer (some (ad.add f.offset)),?_,.q _ _ _ _ _ _ (fun m=>uu (f.offset+m)) (by rw[Df];exact h2) (by rw[Df];exact h3) (fun m hm=>by rw[add_add];exact Bf _ Zo) (fun m hm=>by have:=FE (f.offset+m) Zo;rwa [←Nat.add_assoc]at this)⟩;simp[Instr.fieldAt,run_underlying hF,hf,Instr.sureAddr,fieldPlace,Bh,hφ.2]
    ·cases h
   ·cases h
  ·cases h
 ·cases h
include hT hw in
theorem Pq{t:TypeId}{x i:AV}{u ui:Value}{φ:Prop}{r:AV}(h:Cu T H t x i=some (φ,r))(hφ:φ)(hx:AL B I w ρ x u)(hi:AL B I w ρ i ui):
  ∃v,(Instr.indexAt t u ui).run P w=.ok v w∧AL B I w ρ r v:=by
 unfold Cu at h;split at h
 ·rename_i kk n JO;split at h
  ·rename_i e _ _ _ ht;have hu:P.underlying t=some (.slice e):=(hT _ _ ht).kind;split at h
   ·rename_i te EP;have Bh:=(hT _ _ EP).size w;split at h
    ·rename_i fr c sz off len BE;simp only[Option.some.injEq,Prod.mk.injEq]at h;obtain⟨rfl,rfl⟩:=h;obtain⟨c1,c2,rfl,h0,h1⟩:=hφ;have hc:=hx.strip c1;have Pd:=hi.strip c2;rw[BE]at hc;rw[JO]at Pd
     obtain rfl:=Pd.Ao;cases hc with
     |i _ _ _ _ _ cap A uu BW hA FE=>
      obtain⟨ad,rfl,hI,hB,Bf⟩:=hA Zo;have hk:n.toNat<len:=Zo
      refine⟨.pointer (some (ad.add (n.toNat*te.sz))),?_,.q _ _ _ _ _ _ (fun m=>uu n.toNat m) (by rw[Df];exact hI) (by rw[Df];exact hB) (fun m hm=>by rw[add_add];exact Bf _ _ hk Zo) (fun m hm=>by have:=FE n.toNat m hk Zo;rwa [Nat.zero_add])⟩;simp[Instr.indexAt,asIntOf,run_underlying hu,Bh,h0,h1]
    ·rename_i id BE;split at h
     ·rename_i e' sz c hk;simp only[Option.some.injEq,Prod.mk.injEq]at h;obtain⟨rfl,rfl⟩:=h;obtain⟨c1,c2,rfl,F1,h0,h1⟩:=hφ;have hc:=hx.strip c1;have Pd:=hi.strip c2;rw[BE]at hc;rw[JO]at Pd
      obtain rfl:=Pd.Ao;cases hc with
      |s _ x hr _=>
       obtain⟨x',H8,Ae⟩:=hw.ok _ _ hk;rw[hr]at H8;injection H8 with H8;subst H8
       obtain⟨m,xs,ho,hl,_⟩:=Ae
       have hm:n.toNat<m:=by
        rw[hl]at h1;exact Nat.lt_of_succ_le (Nat.le_of_mul_le_mul_right h1 F1)
       rcases ho.2 with ⟨_,wN⟩|⟨g,cap,cur,rfl,_⟩
       ·omega
       ·refine⟨.pointer (some ⟨g,n.toNat*te.sz,none⟩),?_,.p _ _ g _ hr rfl⟩;have:n<(m:Int):=Zo
        simp[Instr.indexAt,asIntOf,run_underlying hu,Bh,h0,this,By]
     ·rename_i e' c hk;simp only[Option.some.injEq,Prod.mk.injEq]at h;obtain⟨rfl,rfl⟩:=h;obtain⟨c1,c2,TU,h0,h1⟩:=hφ;have hc:=hx.strip c1;have Pd:=hi.strip c2;rw[BE]at hc;rw[JO]at Pd
      obtain rfl:=Pd.Ao;cases hc with
      |s _ x hr _=>
       obtain⟨x',H8,Ae⟩:=hw.ok _ _ hk;rw[hr]at H8;injection H8 with H8;subst H8
       obtain⟨m,xs,ho,hl,_⟩:=Ae;have hm:n.toNat<m:=Zo
       rcases ho.2 with ⟨_,wN⟩|⟨g,cap,cur,rfl,_⟩
       ·omega
       ·refine⟨.pointer (some ⟨g,n.toNat,none⟩),?_,.p _ _ g _ hr rfl⟩;have:n<(m:Int):=Zo
        simp[Instr.indexAt,asIntOf,run_underlying hu,Bh,h0,this,By,TU]
     ·cases h
    ·rename_i id off len BE;simp only[Option.some.injEq,Prod.mk.injEq]at h;obtain⟨rfl,rfl⟩:=h;obtain⟨c1,c2,h0,h1⟩:=hφ;have hc:=hx.strip c1;have Pd:=hi.strip c2;rw[BE]at hc;rw[JO]at Pd
     obtain rfl:=Pd.Ao;cases hc with
     |w _ _ _ cap A x hr BW hA=>
      obtain⟨b,hb,rfl⟩:=hA Zo;refine⟨.pointer (some ⟨b,off+n.toNat*te.sz,none⟩),?_,.p _ _ b _ hr hb⟩;simp[Instr.indexAt,asIntOf,run_underlying hu,Bh,h0,h1,By]
    ·cases h
   ·cases h
  ·rename_i m e _ _ _ ht;have hu:P.underlying t=some (.array m e):=(hT _ _ ht).kind;split at h
   ·rename_i te EP;have Bh:=(hT _ _ EP).size w;split at h
    ·rename_i id off BE;simp only[Option.some.injEq,Prod.mk.injEq]at h;obtain⟨rfl,rfl⟩:=h;obtain⟨c1,c2,h0,h1⟩:=hφ;have hc:=hx.strip c1;have Pd:=hi.strip c2;rw[BE]at hc;rw[JO]at Pd
     obtain rfl:=Pd.Ao;cases hc with
     |p _ _ b x hr hb=>
      refine⟨.pointer (some ⟨b,off+n.toNat*te.sz,none⟩),?_,.p _ _ b _ hr hb⟩;simp[Instr.indexAt,asIntOf,run_underlying hu,Bh,h0,h1,By,Instr.sureAddr]
    ·rename_i fr c sz el f BE;simp only[Option.some.injEq,Prod.mk.injEq]at h;obtain⟨rfl,rfl⟩:=h;obtain⟨c1,c2,h0,h1⟩:=hφ;have hc:=hx.strip c1;have Pd:=hi.strip c2;rw[BE]at hc;rw[JO]at Pd
     obtain rfl:=Pd.Ao;cases hc with
     |q _ _ _ _ _ ad uu h2 h3 Bf FE=>
      refine⟨.pointer (some (ad.add (n.toNat*te.sz))),?_,.q _ _ _ _ _ _ (fun m=>uu (n.toNat*te.sz+m)) (by rw[Df];exact h2) (by rw[Df];exact h3) (fun m hm=>by rw[add_add];exact Bf _ Zo) (fun m hm=>by have:=FE (n.toNat*te.sz+m) Zo;rwa [←Nat.add_assoc]at this)⟩;simp[Instr.indexAt,asIntOf,run_underlying hu,Bh,h0,h1,Instr.sureAddr]
    ·cases h
   ·cases h
  ·cases h
 ·cases h
end
end Go.Ad
