/- Part of a proof. -/
import Derived.Test.YthemnhjojaehhaaGreatDoorA2
set_option linter.all false
namespace Go.Ad
open Go.RowKit
def AV.one:AV→Bool
 | .v x=>LB x
 | .s _=>true
 | .w _ _ _=>true
 | .p _ _=>true
 | .i _ _ _ _ _=>true
 | .q _ _ _ _ _=>true
 | .f _ _=>true
 | .o=>true
 |_=>false
theorem AL.one{B:Nat}{I:Nat→Prop}{w:World}{ρ:Nat→Option Value}{x:AV}{u:Value}(h:AL B I w ρ x u)(h1:x.one=true):LB u=true:=by
 cases h<;>first|exact lh _ _|simp_all [AV.one,LB]
theorem bj{u:Value}(h:LB u=true):u.cells= #[u]:=by cases u<;>simp_all [LB,Value.cells]
def setFrom(cells:List AV)(off:Nat):List AV→List AV
 | []=>cells
 |x::r=>setFrom (cells.set off x) (off+1) r
def cellsOf(x:AV):Option (List AV):=
 match x with
 | .a cs=>some cs
 |y=>if y.one then some [y]else none
def J9(place:Nat→Option (Nat×Nat)):List AV→List (Nat×AV)→Option (Prop×List AV)
 |cells,[]=>some (True,cells)
 |cells,(i,x)::rest=>
  match place i,cellsOf x.strip with
  |some (off,size),some cs=>
   match J9 place (setFrom cells off cs) rest with
   |some (φ,r)=>some (x.cond∧cs.length=size∧off+size≤cells.length∧φ,r)
   |none=>none
  |_,_=>none
section
variable{B:Nat}{I:Nat→Prop}{w:World}{ρ:Nat→Option Value}
def At(B:Nat)(I:Nat→Prop)(w:World)(ρ:Nat→Option Value)(cs:List AV)(us:List Value):Prop:=us.length=cs.length∧ ∀j,j<cs.length→AL B I w ρ (cs.getD j .top) (us.getD j undef)
theorem At.set{cs:List AV}{us:List Value}(h:At B I w ρ cs us){x:AV}{u:Value}(hx:AL B I w ρ x u)(k:Nat):At B I w ρ (cs.set k x) (us.set k u):=by
 refine⟨by simp[h.1],fun j hj=>?_⟩;simp at hj;by_cases e:k=j
 ·subst e;rw[D9 _ _ _ _ hj,D9 _ _ _ _ (by rw[h.1];exact hj)];exact hx
 ·rw[getD_set_ne _ _ _ _ _ e,getD_set_ne _ _ _ _ _ e];exact h.2 j hj
theorem Pr{x:AV}{u:Value}(hx:AL B I w ρ x u){cs:List AV}(h:cellsOf x=some cs):At B I w ρ cs u.cells.toList:=by
 unfold cellsOf at h;split at h
 ·rename_i cs';injection h with h;subst h
  cases hx with
  |a _ us hl hc=>exact⟨by simpa[Value.cells]using hl,fun j hj=>by simpa[Value.cells,Zlg,Zag]using hc j hj⟩
 ·split at h
  ·rename_i h1;injection h with h;subst h
   rw[bj (hx.one h1)];refine⟨by simp,fun j hj=>?_⟩;simp at hj;subst hj;exact hx
  ·cases h
theorem gD(vs:List Value): ∀(cells:Array Value) (off k:Nat),((vs.zipIdx k).foldl (fun cs (p:Value×Nat)=>cs.setIfInBounds (off+p.2) p.1) cells).toList=(List.foldl (fun(q:List Value×Nat) v=>(q.1.set q.2 v,q.2+1)) (cells.toList,off+k) vs).1:=by
 induction vs with
 |nil=>intro cells off k;rfl
 |cons v r ih=>
  intro cells off k;simp only[List.zipIdx_cons,List.foldl_cons];rw[ih];simp[Nat.add_assoc]
theorem At.setFrom{xs:List AV}: ∀ {vs:List Value} {cs:List AV} {us:List Value} (off:Nat),At B I w ρ cs us→At B I w ρ xs vs→
  At B I w ρ (setFrom cs off xs) (List.foldl (fun(q:List Value×Nat) v=>(q.1.set q.2 v,q.2+1)) (us,off) vs).1:=by
 induction xs with
 |nil=>
  intro vs cs us off h hx;have:vs= []:=List.eq_nil_of_length_eq_zero (by simpa using hx.1);subst this;exact h
 |cons x r ih=>
  intro vs cs us off h hx
  match vs,hx with
  |v::vs,hx=>
   simp only[Ad.setFrom,List.foldl_cons];refine ih (off+1) (h.set (by simpa using hx.2 0 (by simp)) off) ⟨by simpa using hx.1,fun j hj=>?_⟩;simpa using hx.2 (j+1) (by simpa using hj)
  | [],hx=>exact absurd hx.1 (by simp)
theorem MI{place:Nat→Option (Nat×Nat)}: ∀(parts:List (Nat×AV)) (vs:List (Nat×Value)) (cs:List AV) (us:Array Value) {φ:Prop} {r:List AV},J9 place cs parts=some (φ,r)→φ→At B I w ρ cs us.toList→
  vs.map (·.1)=parts.map (·.1)→(∀j,j<parts.length→AL B I w ρ (parts.getD j (0,.top)).2 (vs.getD j (0,undef)).2)→
  ∃us',Instr.fill place us vs=some us'∧At B I w ρ r us'.toList:=by
 intro parts;induction parts with
 |nil=>
  intro vs cs us φ r h hφ hc hm _;have:vs= []:=by simpa using hm
  subst this;simp only[J9,Option.some.injEq,Prod.mk.injEq]at h;obtain⟨_,rfl⟩:=h;exact⟨us,rfl,hc⟩
 |cons p rest ih=>
  intro vs cs us φ r h hφ hc hm hx;obtain⟨i,x⟩:=p
  match vs,hm,hx with
  |(i',u)::vs,hm,hx=>
   simp only[List.map_cons,List.cons.injEq]at hm;obtain⟨rfl,bK⟩:=hm;simp only[J9]at h;split at h
   ·rename_i off size xs hp fQ;split at h
    ·rename_i ψ r' hr;simp only[Option.some.injEq,Prod.mk.injEq]at h;obtain⟨rfl,rfl⟩:=h;have hu:AL B I w ρ x u:=by simpa using hx 0 (by simp)
     have Kg:=Pr (hu.strip hφ.1) fQ;have Bh:u.cells.size=size:=by rw[←Array.length_toList,Kg.1];exact hφ.2.1
     have hle:off+u.cells.size≤us.size:=by rw[Bh,←Array.length_toList,hc.1];exact hφ.2.2.1
     simp only[Instr.fill,hp];have hn:(decide (u.cells.size≠size)||decide (off+u.cells.size>us.size))=false:=by simp[Bh];omega
     rw[if_neg (by simp[Bh];omega)];refine ih vs _ _ hr hφ.2.2.2 ?_ bK (fun j hj=>by simpa using hx (j+1) (by simpa using hj));have:=At.setFrom off hc Kg;have e:=gD u.cells.toList us off 0;rw[Nat.add_zero]at e;rw[←e]at this
     have e2:Array.foldl (fun cs (p:Value×Nat)=>cs.setIfInBounds (off+p.2) p.1) us u.cells.zipIdx=List.foldl (fun cs (p:Value×Nat)=>cs.setIfInBounds (off+p.2) p.1) us (u.cells.toList.zipIdx 0):=by
      rw[←Array.foldl_toList];simp
     have e3:(Array.foldl (fun cs (x:Value×Nat)=>match x with|(c,j)=>cs.setIfInBounds (off+j) c) us u.cells.zipIdx)=Array.foldl (fun cs (p:Value×Nat)=>cs.setIfInBounds (off+p.2) p.1) us u.cells.zipIdx:=rfl;rw[e3,e2];exact this
    ·cases h
   ·cases h
  | [],hm,hx=>simp at hm
end
def Ou(T:BT)(t:TypeId)(parts:List (Nat×AV)):Option (Prop×AV):=
 match T t with
 |some ⟨.st _ fs,_,_,z⟩=>
  match J9 (fun i=>match fs[i]? with|some (o,ty)=>(match T ty with|some ti=>some (o,ti.sz)|none=>none)|none=>none) (z.cells.toList.map HX) parts with
  |some (φ,r)=>some (fs.all (fun p=>(T p.2).isSome)=true∧φ,.a r)
  |none=>none
 |some ⟨.arr _ e,_,_,z⟩=>
  match T e with
  |some te=>
   match J9 (fun i=>some (i*te.sz,te.sz)) (z.cells.toList.map HX) parts with
   |some (φ,r)=>some (φ,.a r)
   |none=>none
  |none=>none
 |_=>none
theorem N7{B:Nat}{I:Nat→Prop}{w:World}{ρ:Nat→Option Value}(us:List Value):At B I w ρ (us.map HX) us:=by
 refine⟨by simp,fun j hj=>?_⟩;simp at hj;have:(us.map HX).getD j .top=HX (us.getD j undef):=by simp[Zlg,hj]
 rw[this];exact JP _
section
variable{P:Program}{T:BT}(hT:T.ok P){B:Nat}{I:Nat→Prop}{w:World}{ρ:Nat→Option Value}{H:List (Nat×AN)}(hw:HW B I w ρ H)
include hT in
theorem run_places(F:List Field)(h:(F.map fun f=>(f.offset,f.type)).all (fun p=>(T p.2).isSome)=true):
  (F.mapM fun f=>do pure (f.offset,←sizeOf f.type):Sem (List (Nat×Nat))).run P w=.ok (F.map fun f=>(f.offset,((T f.type).map TI.sz).getD 0)) w:=by
 induction F with
 |nil=>simp
 |cons f F ih=>
  simp only[List.map_cons,List.all_cons,Zba]at h;obtain⟨h1,h2⟩:=h;cases ht:T f.type with
  |none=>simp[ht]at h1
  |some ti=>
   have e:=ih h2;simp only[List.mapM_cons,Sem.run_bind,(hT _ _ ht).size w,Result.andThen_ok,Sem.run_pure,e,List.map_cons,ht];rfl
include hT in
theorem Xw{t:TypeId}{parts:List (Nat×AV)}{vs:Array (Nat×Value)}{φ:Prop}{r:AV}(h:Ou T t parts=some (φ,r))(hφ:φ)
  (hm:vs.toList.map (·.1)=parts.map (·.1)) (hx: ∀j,j<parts.length→AL B I w ρ (parts.getD j (0,.top)).2 (vs.toList.getD j (0,undef)).2):
  ∃z,(Instr.build t vs).run P w=.ok z w∧AL B I w ρ r z:=by
 unfold Ou at h;split at h
 ·rename_i fs _ _ z ht;obtain⟨inf,Hz,_,_,hz⟩:=(hT _ _ ht).info;obtain⟨F,hF,qB,_⟩:=(hT _ _ ht).kind;split at h
  ·rename_i ψ cs Gm;simp only[Option.some.injEq,Prod.mk.injEq]at h;obtain⟨rfl,rfl⟩:=h;obtain⟨us',h1,h2⟩:=MI parts vs.toList _ z.cells Gm hφ.2 (N7 (B:=B) (I:=I) (w:=w) (ρ:=ρ) _) hm hx;have hp:=run_places (w:=w) hT F.toList (by rw[qB];exact hφ.1)
   have tI:(fun(i:Nat)=>match (fs[i]? :Option (Nat×TypeId))with|some (o,ty)=>(match T ty with|some ti=>some (o,ti.sz)|none=>none)|none=>none)=fun(i:Nat)=>((F.toList.map fun f=>(f.offset,((T f.type).map TI.sz).getD 0)).toArray)[i]? :=by
    funext i;have BU:=hφ.1;rw[←qB]at BU ⊢;simp only[List.getElem?_map,List.getElem?_toArray];cases hf:F.toList[i]? with
    |none=>simp
    |some f=>
     have:(T f.type).isSome=true:=by
      rw[List.all_eq_true]at BU;exact BU (f.offset,f.type) (List.mem_map.2 ⟨f,List.mem_of_getElem? hf,rfl⟩)
     cases ht:T f.type with
     |none=>simp[ht]at this
     |some ti=>simp[ht]
   rw[tI]at h1;refine⟨.agg us',?_,.a _ _ h2.1 (fun j hj=>by simpa[Zlg,Zag]using h2.2 j hj)⟩
   have hp':(F.mapM fun f=>do pure (f.offset,←sizeOf f.type):Sem (Array (Nat×Nat))).run P w=.ok (F.toList.map fun f=>(f.offset,((T f.type).map TI.sz).getD 0)).toArray w:=by
    rw[Array.mapM_eq_mapM_toList,←bind_pure_comp];simp only[Sem.run_bind,hp,Result.andThen_ok,Sem.run_pure]
   simp only[Instr.build,zeroValue,typeInfo,Sem.run_bind,run_program,Result.andThen_ok,Hz,Sem.run_pure,hz,run_underlying hF,hp',h1]
  ·cases h
 ·rename_i n e _ _ z ht;obtain⟨inf,Hz,_,_,hz⟩:=(hT _ _ ht).info;have hu:P.underlying t=some (.array n e):=(hT _ _ ht).kind;split at h
  ·rename_i te EP;split at h
   ·rename_i ψ cs Gm;simp only[Option.some.injEq,Prod.mk.injEq]at h;obtain⟨rfl,rfl⟩:=h;obtain⟨us',h1,h2⟩:=MI parts vs.toList _ z.cells Gm hφ (N7 (B:=B) (I:=I) (w:=w) (ρ:=ρ) _) hm hx;refine⟨.agg us',?_,.a _ _ h2.1 (fun j hj=>by simpa[Zlg,Zag]using h2.2 j hj)⟩;simp only[Instr.build,zeroValue,typeInfo,Sem.run_bind,run_program,Result.andThen_ok,Hz,Sem.run_pure,hz,run_underlying hu,(hT _ _ EP).size w,h1]
   ·cases h
  ·cases h
 ·cases h
end
def JS:List AV→List AV
 | []=> []
 |x::r=>x.strip::JS r
def VT:List AV→Prop
 | []=>True
 |x::r=>x.cond∧VT r
theorem FG: ∀l,(JS l).length=l.length
 | []=>rfl
 |x::r=>by simp only[JS,List.length_cons,FG r]
theorem ND{B:Nat}{I:Nat→Prop}{w:World}{ρ:Nat→Option Value}: ∀(l:List AV),VT l→ ∀(us:List Value),(∀j,j<l.length→AL B I w ρ (l.getD j .top) (us.getD j undef))→ ∀j,j<l.length→AL B I w ρ ((JS l).getD j .top) (us.getD j undef)
 | [],_,us,h,j,hj=>by simp at hj
 |x::r,hc,us,h,0,hj=>by
  have:=(h 0 hj).strip hc.1;simpa only[JS,List.getD_cons_zero]using this
 |x::r,hc,us,h,j+1,hj=>by
  have:=ND r hc.2 (us.drop 1) (fun i hi=>by
   have:=h (i+1) (by simpa using hi);simpa[Zlg,Nat.add_comm]using this) j (by simpa using hj)
  simpa[JS,Zlg,Nat.add_comm]using this
attribute [push_cast] JS VT
def pv(T:BT)(H:List (Nat×AN))(ev:Operand→AV):Op→Option (Prop×AV)
 | .move x=>some (True,ev x)
 | .assign x=>some (True,ev x)
 | .pick c a b=>Tc (ev c) (ev a) (ev b)
 | .load t x=>HZ T H t (ev x)
 | .nilCheck x=>Zl (ev x)
 | .binOp op t x y _=>Zi T op t (ev x) (ev y)
 | .unOp op _ x=>lr op (ev x)
 | .convert s d x=>Kn T s d (ev x)
 | .makeFunc fn first caps=>match first.toList with
  | []=>match fn with
   | .yield _=>none
   |_=>some (VT (caps.toList.map ev),.f fn (JS (caps.toList.map ev)))
  |l=>match fn,caps.toList with
   | .func k,[]=>some (VT (l.map ev),.f (.yield k) (JS (l.map ev)))
   |_,_=>none
 | .slice t x lo hi mx=>match mx with
  |none=>GQ T H t (ev x) (lo.map ev) (hi.map ev)
  |some _=>none
 | .fieldAddr s x k=>IE T s (ev x) k
 | .field s x k=>Oq T s (ev x) k
 | .indexAddr t x i=>Cu T H t (ev x) (ev i)
 | .index t x i=>Ot T t (ev x) (ev i)
 | .extract x k=>Km (ev x) k
 | .build t parts=>Ou T t (parts.toList.map fun p=>(p.1,ev p.2))
 | .call c=>match c.callee with
  | .builtin .len=>match c.args.toList,c.argTypes.toList with
   | [x],[t]=>LP T H t (ev x)
   |_,_=>none
  | .builtin .min=>Zj (c.args.toList.map ev)
  | .builtin .max=>Zz2 (c.args.toList.map ev)
  |_=>none
 | .alloc _=>none
 | .box _ _=>none
 | .buildSlice _ _ _=>none
 | .insert _ _ _ _=>none
 | .store _ _ _=>none
 | .ready _=>none
 | .waits _=>none
 | .sliceToArrayPointer _ _=>none
 | .makeInterface _ _=>none
 | .makeMap _ _=>none
 | .makeChan _ _=>none
 | .makeSlice _ _ _=>none
 | .lookup t x i c=>match c with
  |false=>FF T H t (ev x) (ev i)
  |true=>EC T H t (ev x) (ev i)
 | .mapUpdate _ _ _ _=>none
 | .mapEntry _ _ _=>none
 | .entryStore _ _ _ _=>none
 | .range _ _=>none
 | .next _ _=>none
 | .entry _=>none
 | .typeAssert _ _ _ _=>none
 | .go _=>none
 | .defer _=>none
 | .panic _=>none
 | .send _ _=>none
 | .recv _ _ _=>none
 | .select _ _=>none
section
variable{P:Program}{T:BT}(hT:T.ok P){B:Nat}{I:Nat→Prop}{w:World}{ρ:Nat→Option Value}{H:List (Nat×AN)}(hw:HW B I w ρ H)
theorem run_sliceBound{k:IntKind}{n:Int}{y:Nat}{code:BoundsCode}(h0:0≤n)(h1:n.toNat≤y):(Instr.sliceBound (.int k n) y code).run P w=.ok n.toNat w:=by
 have:n≤(y:Int):=Zo
 simp[Instr.sliceBound,asIntOf,h0,this]
theorem DG{b:Bool}{len cap l h:Nat}{lo hi:Option Value}(Xk:(lo=none∧l=0)∨ ∃k n,lo=some (.int k n)∧0≤n∧l=n.toNat)(qC:(hi=none∧h=len)∨ ∃k n,hi=some (.int k n)∧0≤n∧h=n.toNat)
  (h1:l≤h) (h2:h≤cap):(Instr.sliceBounds b len cap lo hi none).run P w=.ok (l,h,cap) w:=by
 rcases Xk with ⟨rfl,rfl⟩|⟨k,n,rfl,h0,rfl⟩<;>rcases qC with ⟨rfl,rfl⟩|⟨k',n',rfl,h0',rfl⟩
 ·simp[Instr.sliceBounds]
 ·simp[Instr.sliceBounds,run_sliceBound h0' h2]
 ·simp[Instr.sliceBounds,run_sliceBound h0 h1]
 ·simp[Instr.sliceBounds,run_sliceBound h0 h1,run_sliceBound h0' h2]
include hT hw in
theorem Xx{t:TypeId}{x:AV}{lo hi:Option AV}{u:Value}{ulo uhi:Option Value}{φ:Prop}{r:AV}(h:GQ T H t x lo hi=some (φ,r))(hφ:φ)(hx:AL B I w ρ x u)
  (Xk: ∀y,lo=some y→ ∃v,ulo=some v∧AL B I w ρ y v) (eU:lo=none→ulo=none) (qC: ∀y,hi=some y→ ∃v,uhi=some v∧AL B I w ρ y v) (eV:hi=none→uhi=none):
  ∃v,(Instr.sliceAt t u ulo uhi none).run P w=.ok v w∧AL B I w ρ r v:=by
 have conv: ∀ {x:Option AV} {u:Option Value} {d l:Nat} {φ:Prop},GF x d=some (φ,l)→φ→(∀y,x=some y→ ∃v,u=some v∧AL B I w ρ y v)→(x=none→u=none)→(u=none∧l=d)∨ ∃k n,u=some (.int k n)∧0≤n∧l=n.toNat:=
  fun h hφ hx hn=>by
   rcases bf h hφ hx hn with ⟨_,h1,h2⟩|h1
   ·exact .inl ⟨h1,h2⟩
   ·exact .inr h1
 unfold GQ at h;split at h
 ·rename_i e _ _ _ ht;have hu:P.underlying t=some (.slice e):=(hT _ _ ht).kind;split at h
  ·rename_i te p l EP hl;have Bh:=(hT _ _ EP).size w;split at h
   ·rename_i fr c sz off len BE;split at h
    ·rename_i q hh kc;simp only[Option.some.injEq,Prod.mk.injEq]at h;obtain⟨rfl,rfl⟩:=h;obtain⟨c1,c2,c3,rfl,h1,h2⟩:=hφ;have hc:=hx.strip c1;rw[BE]at hc;cases hc with
     |i _ _ _ _ _ cap A uu BW hA FE=>
      have hb:=DG (P:=P) (w:=w) (b:=true) (len:=len) (cap:=cap) (conv hl c2 Xk eU) (conv kc c3 qC eV) h1 Zo;refine⟨.slice (if cap=l then A else A.map (·.add (l*te.sz))) (hh - l) (cap - l),?_,.i _ _ _ _ _ _ _ (fun e f=>uu (l+e) f) Zo (fun hp=>?_) (fun e f he hf=>?_)⟩
      ·simp[Instr.sliceAt,Instr.slice,run_underlying hu,hb,Bh]
      ·obtain⟨ad,rfl,h3,h4,h5⟩:=hA Zo;refine⟨ad.add (l*te.sz),by rw[if_neg Zo];rfl,by rw[Df];exact h3,by rw[Df];exact h4,fun e f he hf=>?_⟩;rw[add_add];have:=h5 (l+e) f Zo hf
       rwa [Nat.add_mul,Nat.add_assoc]at this
      ·have:=FE (l+e) f Zo hf
       rwa [←Nat.add_assoc]at this
    ·cases h
   ·rename_i id BE;split at h
    ·rename_i e' sz c hk;split at h
     ·rename_i q hh kc;simp only[Option.some.injEq,Prod.mk.injEq]at h;obtain⟨rfl,rfl⟩:=h;obtain⟨c1,c2,c3,rfl,F1,h1,h2⟩:=hφ;have hc:=hx.strip c1;rw[BE]at hc;cases hc with
      |s _ x hr _=>
       obtain⟨x',H8,Ae⟩:=hw.ok _ _ hk;rw[hr]at H8;injection H8 with H8;subst H8
       obtain⟨m,xs,ho,hlen,_⟩:=Ae;have hm:c.len / te.sz=m:=by rw[hlen];exact Nat.mul_div_cancel _ F1
       rw[hm]at kc h2;rcases ho.2 with ⟨rfl,rfl⟩|⟨g,cap,cur,rfl,_,_,ot,_⟩
       ·have hb:=DG (P:=P) (w:=w) (b:=true) (len:=0) (cap:=0) (conv hl c2 Xk eU) (conv kc c3 qC eV) h1 h2;have:l=0:=Zo
        have:hh=0:=Zo
        subst l;subst hh
        refine⟨.slice none 0 0,by simp[Instr.sliceAt,Instr.slice,run_underlying hu,hb,Bh],.w _ _ _ _ _ _ hr Zo (fun hp=>by omega)⟩
       ·have hb:=DG (P:=P) (w:=w) (b:=true) (len:=m) (cap:=cap) (conv hl c2 Xk eU) (conv kc c3 qC eV) h1 Zo;refine⟨.slice (if cap=l then some ⟨g,0,none⟩else some ⟨g,l*te.sz,none⟩) (hh - l) (cap - l),?_,.w _ _ _ _ _ _ hr Zo (fun hp=>⟨g,rfl,by rw[if_neg Zo]⟩)⟩;simp[Instr.sliceAt,Instr.slice,run_underlying hu,hb,Bh,By]
     ·cases h
    ·cases h
   ·rename_i id off len BE;split at h
    ·rename_i q hh kc;simp only[Option.some.injEq,Prod.mk.injEq]at h;obtain⟨rfl,rfl⟩:=h;obtain⟨c1,c2,c3,h1,h2⟩:=hφ;have hc:=hx.strip c1;rw[BE]at hc;cases hc with
     |w _ _ _ cap A x hr BW hA=>
      have hb:=DG (P:=P) (w:=w) (b:=true) (len:=len) (cap:=cap) (conv hl c2 Xk eU) (conv kc c3 qC eV) h1 Zo;refine⟨.slice (if cap=l then A else A.map (·.add (l*te.sz))) (hh - l) (cap - l),?_,.w _ _ _ _ _ _ hr Zo (fun hp=>?_)⟩
      ·simp[Instr.sliceAt,Instr.slice,run_underlying hu,hb,Bh]
      ·obtain⟨b,Jy,rfl⟩:=hA Zo;exact⟨b,Jy,by rw[if_neg Zo];simp[By]⟩
    ·cases h
   ·cases h
  ·cases h
 ·rename_i ht;have hu:P.underlying t=some .string:=(hT _ _ ht).kind;split at h
  ·rename_i s p l BE hl;split at h
   ·rename_i q hh kc;simp only[Option.some.injEq,Prod.mk.injEq]at h;obtain⟨rfl,rfl⟩:=h;obtain⟨c1,c2,c3,h1,h2⟩:=hφ;have hc:=hx.strip c1;rw[BE]at hc;obtain rfl:=hc.Ao;have hb:=DG (P:=P) (w:=w) (b:=false) (len:=s.size) (cap:=s.size) (conv hl c2 Xk eU) (conv kc c3 qC eV) h1 h2;exact⟨_,by simp[Instr.sliceAt,Instr.slice,run_underlying hu,hb],.v _⟩
   ·cases h
  ·cases h
 ·rename_i m e _ _ _ ht;have hu:P.underlying t=some (.array m e):=(hT _ _ ht).kind;split at h
  ·rename_i te p l q hh id off EP hl kc BE;have Bh:=(hT _ _ EP).size w;simp only[Option.some.injEq,Prod.mk.injEq]at h;obtain⟨rfl,rfl⟩:=h;obtain⟨c1,c2,c3,h1,h2⟩:=hφ;have hc:=hx.strip c1;rw[BE]at hc;cases hc with
   |p _ _ b x hr hb=>
    have RW:=DG (P:=P) (w:=w) (b:=false) (len:=m) (cap:=m) (conv hl c2 Xk eU) (conv kc c3 qC eV) h1 h2;refine⟨.slice (some (if m=l then⟨b,off,none⟩else(⟨b,off,none⟩:Addr).add (l*te.sz))) (hh - l) (m - l),?_,.w _ _ _ _ _ _ hr Zo (fun hp=>⟨b,hb,by rw[if_neg Zo,By]⟩)⟩;simp[Instr.sliceAt,run_underlying hu,RW,Bh,Instr.sureAddr]
  ·cases h
 ·cases h
include hT hw in
theorem pQ{ev:Operand→AV}{ρv:Operand→Value}(G2: ∀x,AL B I w ρ (ev x) (ρv x)){o:Oper}{φ:Prop}{r:AV}(h:pv T H ev o.op=some (φ,r))(hφ:φ):
  ∃z,(execOp ρv o).run P w=.ok (.value z) w∧AL B I w ρ r z:=by
 obtain⟨dst,op,ty,pos,aft,gd⟩:=o;have lift: ∀ {m:Sem Value} {z:Value},m.run P w=.ok z w→(do pure (Next.value (←m)):Sem Next).run P w=.ok (.value z) w:=fun h=>by simp only[Sem.run_bind,h,Result.andThen_ok,Sem.run_pure]
 have mapL: ∀(l:List Operand),At B I w ρ (l.map ev) (l.map ρv):=fun l=>⟨by simp,fun j hj=>by
  simp at hj;have h1:(l.map ev).getD j .top=ev l[j]:=by simp[Zlg,hj]
  have h2:(l.map ρv).getD j undef=ρv l[j]:=by simp[Zlg,hj]
  rw[h1,h2];exact G2 _⟩
 cases op<;>simp only[pv]at h<;>first|(cases h;done)|skip
 case move x=>simp only[Option.some.injEq,Prod.mk.injEq]at h;obtain⟨rfl,rfl⟩:=h;exact⟨_,by simp[execOp],G2 x⟩
 case assign x=>simp only[Option.some.injEq,Prod.mk.injEq]at h;obtain⟨rfl,rfl⟩:=h;exact⟨_,by simp[execOp],G2 x⟩
 case pick c a b=>exact bg h hφ (G2 c) (G2 a) (G2 b)
 case load t x=>obtain⟨z,h1,h2⟩:=SH hT hw h hφ (G2 x);exact⟨z,lift h1,h2⟩
 case nilCheck x=>exact gC rfl rfl h hφ (G2 x)
 case binOp op t x y yt=>obtain⟨z,h1,h2⟩:=fy hT h hφ (G2 x) (G2 y) x y;exact⟨z,lift h1,h2⟩
 case unOp op t x=>obtain⟨z,h1,h2⟩:=lu (P:=P) h hφ (G2 x);exact⟨z,lift h1,h2⟩
 case convert s d x=>obtain⟨z,h1,h2⟩:=Tf hT h hφ (G2 x);exact⟨z,lift h1,h2⟩
 case makeFunc fn first caps=>
  split at h
  ·rename_i hf;have zC:first= #[]:=by simpa using hf
   subst zC;have key: ∀(h:fn≠.yield 0→True),True:=fun _=>trivial;split at h
   ·cases h
   ·rename_i hny;simp only[Option.some.injEq,Prod.mk.injEq]at h;obtain⟨rfl,rfl⟩:=h
    have e:ba fn (caps.map ρv)=.func fn #[] (caps.map ρv):=by
     unfold ba;split
     ·exact absurd rfl (hny _)
     ·rfl
    refine⟨.func fn #[] (caps.map ρv),by simp[execOp,Instr.makeFunc],e▸.f _ _ _ (by simp[FG]) fun j hj=>?_⟩;rw[FG]at hj
    have:=ND _ hφ (caps.toList.map ρv) (fun j hj=>by
     have:=(mapL caps.toList).2 j hj;simpa[Zlg]using this) j hj
    simpa[Zlg,Zag]using this
  ·split at h
   ·rename_i k hk;simp only[Option.some.injEq,Prod.mk.injEq]at h;obtain⟨rfl,rfl⟩:=h
    have hc:caps= #[]:=by simpa using hk
    subst hc;refine⟨.func (.func k) (first.map ρv) #[],by simp[execOp,Instr.makeFunc],.f (.yield k) _ (first.map ρv) (by simp[FG]) fun j hj=>?_⟩;rw[FG]at hj
    have:=ND _ hφ (first.toList.map ρv) (fun j hj=>by
     have:=(mapL first.toList).2 j hj;simpa[Zlg]using this) j hj
    simpa[Zlg,Zag]using this
   ·cases h
 case slice t x lo hi mx=>
  split at h
  ·obtain⟨z,h1,h2⟩:=Xx hT hw h hφ (G2 x) (ulo:=lo.map ρv) (uhi:=hi.map ρv)
    (fun y hy=>by cases lo with|none=>cases hy|some l=>injection hy with hy;subst hy;exact⟨_,rfl,G2 l⟩) (fun hn=>by cases lo with|none=>rfl|some l=>cases hn)
    (fun y hy=>by cases hi with|none=>cases hy|some l=>injection hy with hy;subst hy;exact⟨_,rfl,G2 l⟩) (fun hn=>by cases hi with|none=>rfl|some l=>cases hn)
   exact⟨z,lift h1,h2⟩
  ·cases h
 case fieldAddr s x k=>obtain⟨z,h1,h2⟩:=Pp hT h hφ (G2 x);exact⟨z,lift h1,h2⟩
 case field s x k=>obtain⟨z,h1,h2⟩:=Xu hT h hφ (G2 x);exact⟨z,lift h1,h2⟩
 case indexAddr t x i=>obtain⟨z,h1,h2⟩:=Pq hT hw h hφ (G2 x) (G2 i);exact⟨z,lift h1,h2⟩
 case index t x i=>obtain⟨z,h1,h2⟩:=Xv hT h hφ (G2 x) (G2 i);exact⟨z,lift h1,h2⟩
 case lookup t x i c=>
  split at h
  ·obtain⟨z,h1,h2⟩:=VS hT hw h hφ (G2 x) (G2 i);exact⟨z,lift h1,h2⟩
  ·obtain⟨z,h1,h2⟩:=Tg hT hw h hφ (G2 x) (G2 i);exact⟨z,lift h1,h2⟩
 case extract x k=>obtain⟨z,h1,h2⟩:=Te (P:=P) h hφ (G2 x);exact⟨z,lift h1,h2⟩
 case build t parts=>
  obtain⟨z,h1,h2⟩:=Xw (w:=w) (B:=B) (I:=I) (ρ:=ρ) hT (vs:=parts.map fun p=>(p.1,ρv p.2)) h hφ (by simp) (fun j hj=>by
   simp at hj;have h1:((parts.toList.map fun p=>(p.1,ev p.2)).getD j (0,.top)).2=ev parts[j].2:=by simp[Zlg,hj]
   have h2:((parts.map fun p=>(p.1,ρv p.2)).toList.getD j (0,undef)).2=ρv parts[j].2:=by simp[Zlg,hj]
   rw[h1,h2];exact G2 _)
  exact⟨z,lift h1,h2⟩
 case call c=>
  obtain⟨callee,args,ats⟩:=c;simp only at h;split at h
  ·skip
   split at h
   ·rename_i x t ha N3;have ha':args= #[x]:=Array.toList_inj.1 (by simpa using ha);have zD:ats= #[t]:=Array.toList_inj.1 (by simpa using N3);subst ha';subst zD
    obtain⟨z,h1,h2⟩:=fz (ty:=ty) hT hw h hφ (G2 x);refine⟨z,?_,h2⟩;simp only[execOp,resolve,invoke,builtin,Sem.run_bind,Sem.run_pure,Result.andThen_ok,List.map_toArray,List.map_cons,List.map_nil,h1]
   ·cases h
  ·skip
   obtain⟨z,h1,h2⟩:=gA (P:=P) (ts:=ats) (ty:=ty) h hφ (mapL args.toList).1 (mapL args.toList).2;refine⟨z,?_,h2⟩;have e:(List.map ρv args.toList).toArray=args.map ρv:=by rw[←Array.toList_map]
   rw[e]at h1;simp only[execOp,resolve,invoke,builtin,Sem.run_bind,Sem.run_pure,Result.andThen_ok,h1]
  ·skip
   obtain⟨z,h1,h2⟩:=gB (P:=P) (ts:=ats) (ty:=ty) h hφ (mapL args.toList).1 (mapL args.toList).2;refine⟨z,?_,h2⟩;have e:(List.map ρv args.toList).toArray=args.map ρv:=by rw[←Array.toList_map]
   rw[e]at h1;simp only[execOp,resolve,invoke,builtin,Sem.run_bind,Sem.run_pure,Result.andThen_ok,h1]
  ·cases h
end
end Go.Ad
