/- Part of a proof. -/
import Derived.Test.YthemnhjojaehhaaGreatDoorA7
set_option linter.all false
namespace Go.Ad
open Go.RowKit
def BB:Op→Bool
 | .move _=>true
 | .assign _=>true
 | .pick _ _ _=>true
 | .load _ _=>true
 | .nilCheck _=>true
 | .binOp _ _ _ _ _=>true
 | .unOp _ _ _=>true
 | .convert _ _ _=>true
 | .makeFunc _ _ _=>true
 | .slice _ _ _ _ _=>true
 | .fieldAddr _ _ _=>true
 | .field _ _ _=>true
 | .indexAddr _ _ _=>true
 | .index _ _ _=>true
 | .extract _ _=>true
 | .build _ _=>true
 | .buildSlice _ _ _=>true
 | .lookup _ _ _ _=>true
 | .call c=>match c.callee with
  | .value _=>true
  | .builtin .len=>true
  | .builtin .min=>true
  | .builtin .max=>true
  |_=>false
 |_=>false
theorem Px{T:BT}{H:List (Nat×AN)}{ev ev':Operand→AV}{op:Op}(h: ∀x∈op.operands,ev x=ev' x):pv T H ev op=pv T H ev' op:=by
 have hl: ∀(a:Array Operand),(∀x∈a,ev x=ev' x)→a.toList.map ev=a.toList.map ev':=fun a ha=>List.map_congr_left fun x hx=>ha x (by simpa using hx);cases op<;>simp only[Op.operands]at h<;>simp only[pv]<;>try (simp[h];done)
 case makeFunc fn first caps=>
  have h1:caps.toList.map ev=caps.toList.map ev':=hl caps fun x hx=>h x (by simp[hx]);have h2:first.toList.map ev=first.toList.map ev':=hl first fun x hx=>h x (by simp[hx])
  rw[h1];split
  ·rfl
  ·rw[h2]
 case slice t x lo hi mx=>
  split
  ·have h1:ev x=ev' x:=h x (by simp);have h2:lo.map ev=lo.map ev':=by cases lo with|none=>rfl|some y=>simp[h y (by simp)]
   have h3:hi.map ev=hi.map ev':=by cases hi with|none=>rfl|some y=>simp[h y (by simp)]
   rw[h1,h2,h3]
  ·rfl
 case build t ps=>
  have:(ps.toList.map fun p=>(p.1,ev p.2))=ps.toList.map fun p=>(p.1,ev' p.2):=List.map_congr_left fun p hp=>by
   rw[h p.2 (by simp;exact⟨p.1,by simpa using hp⟩)]
  rw[this]
 case call c=>
  obtain⟨callee,args,ats⟩:=c;have ha:args.toList.map ev=args.toList.map ev':=hl args fun x hx=>h x (by simp[Call.operands,hx]);simp only[ha];cases callee with
  |builtin b=>
   cases b<;>try rfl
   simp only;split
   ·rename_i x t h1 h2
    rw[h x (by
      have:x∈args.toList:=by rw[h1];simp
      simp[Call.operands];simpa using this)]
   ·rfl
  |_=>rfl
theorem VX{T:BT}{ev ev':Operand→AV}{op:Op}(h: ∀x∈op.operands,ev x=ev' x):qb T ev op=qb T ev' op:=by
 cases op<;>simp only[Op.operands]at h<;>simp only[qb]
 case buildSlice t n ps=>
  have:(ps.toList.map fun p=>(p.1,ev p.2))=ps.toList.map fun p=>(p.1,ev' p.2):=List.map_congr_left fun p hp=>by
   rw[h p.2 (by simp;exact⟨p.1,by simpa using hp⟩)]
  rw[this]
theorem MK{ev ev':Operand→AV}{op:Op}(h: ∀x∈op.operands,ev x=ev' x):A6 ev op=A6 ev' op:=by
 cases op<;>simp only[Op.operands]at h<;>simp only[A6]
 case call c=>
  obtain⟨callee,args,ats⟩:=c;have ha:args.toList.map ev=args.toList.map ev':=List.map_congr_left fun x hx=>h x (by simp[Call.operands];right;simpa using hx);simp only[ha];cases callee with
  |value f=>simp only[h f (by simp[Call.operands])]
  |_=>rfl
section
variable{P:Program}{T:BT}{n:Nat}{ops:Array Oper}
theorem FH{st st':St}{o:Oper}(h: ∀t∈o.looksAt ops,lk st.env t=lk st'.env t): ∀x∈o.op.operands,st.ev x=st'.ev x:=by
 intro x hx;cases x with
 |tmp t=>exact h t (by simp only[Oper.looksAt,List.mem_append,List.mem_filterMap];exact .inl ⟨.tmp t,by simpa using hx,rfl⟩)
 |_=>rfl
theorem guard_congr{st st':St}{o:Oper}(h: ∀t∈o.looksAt ops,lk st.env t=lk st'.env t):EG st ops o.guard=EG st' ops o.guard:=by
 cases hg:o.guard with
 |none=>rfl
 |some p=>
  obtain⟨j,want⟩:=p;simp only[EG];cases hd:(ops[j]?).bind (·.dst)with
  |none=>rfl
  |some d=>
   have:lk st.env d=lk st'.env d:=h d (by simp only[Oper.looksAt,List.mem_append];right;simp[hg,hd]);simp only[this]
theorem VY{st:St}{o:Oper}{K:St→Prop}(hq:BB o.op=true)(h:al T st o K):False:=by
 unfold al at h;cases ho:o.op<;>rw[ho]at hq<;>simp only[ho]at h<;>simp[BB]at hq
 case call c=>
  obtain⟨callee,args,ats⟩:=c;cases callee with
  |builtin b=>cases b<;>simp at hq<;>simp at h
  |_=>simp at h
theorem JW{st:St}{o:Oper}{K:St→Prop}(hq:BB o.op=true)(h:BR P T n ops o K st):
  ∃r,K (st.put o.dst r)∧ ∀st':St,st'.heap=st.heap→(∀t∈o.looksAt ops,lk st'.env t=lk st.env t)→BR P T n ops o (fun s=>s=st'.put o.dst r) st':=by
 obtain⟨hd,h⟩:=h
 have key: ∀(st':St),st'.heap=st.heap→(∀t∈o.looksAt ops,lk st'.env t=lk st.env t)→EG st' ops o.guard=EG st ops o.guard∧pv T st'.heap st'.ev o.op=pv T st.heap st.ev o.op∧qb T st'.ev o.op=qb T st.ev o.op∧A6 st'.ev o.op=A6 st.ev o.op:=fun st' hh hl=>
  ⟨guard_congr hl,by rw[hh];exact Px (FH hl),VX (FH hl),MK (FH hl)⟩
 cases hg:EG st ops o.guard with
 |none=>rw[hg]at h;exact h.elim
 |some g=>
  rw[hg]at h;cases g with
  |none=>
   simp only at h;cases hp:pv T st.heap st.ev o.op with
   |some pr=>
    obtain⟨φ,r⟩:=pr;rw[hp]at h;refine⟨r,h.2,fun st' hh hl=>?_⟩;obtain⟨k1,k2,k3,k4⟩:=key st' hh hl;unfold BR;rw[k1,hg];simp only[k2,hp]
    exact⟨hd,h.1,trivial⟩
   |none=>
    rw[hp]at h;simp only at h
    cases hb:qb T st.ev o.op with
    |some pr=>
     obtain⟨φ,r⟩:=pr;rw[hb]at h;refine⟨r,h.2,fun st' hh hl=>?_⟩;obtain⟨k1,k2,k3,k4⟩:=key st' hh hl;unfold BR;rw[k1,hg];simp only[k2,hp,k3,hb]
     exact⟨hd,h.1,trivial⟩
    |none=>
     rw[hb]at h;simp only at h
     cases hc:A6 st.ev o.op with
     |some pr=>
      obtain⟨ψ,k,args⟩:=pr;rw[hc]at h;simp only at h
      obtain⟨h1,r,h2,h3⟩:=h;refine⟨r,h3,fun st' hh hl=>?_⟩;obtain⟨k1,k2,k3,k4⟩:=key st' hh hl;unfold BR;rw[k1,hg];simp only[k2,hp,k3,hb,k4,hc]
      exact⟨hd,h1,r,by rw[hh];exact h2,rfl⟩
     |none=>rw[hc]at h;exact(VY hq h).elim
  |some b=>
   simp only at h;cases hp:pv T st.heap st.ev o.op with
   |some pr=>
    obtain⟨φ,r⟩:=pr;rw[hp]at h;refine⟨.g b r,h.2,fun st' hh hl=>?_⟩;obtain⟨k1,k2,k3,k4⟩:=key st' hh hl;unfold BR;rw[k1,hg];simp only[k2,hp]
    exact⟨hd,h.1,trivial⟩
   |none=>
    rw[hp]at h;simp only at h
    cases hb:qb T st.ev o.op with
    |some pr=>
     obtain⟨φ,r⟩:=pr;rw[hb]at h;refine⟨.g b r,h.2,fun st' hh hl=>?_⟩;obtain⟨k1,k2,k3,k4⟩:=key st' hh hl;unfold BR;rw[k1,hg];simp only[k2,hp,k3,hb]
     exact⟨hd,h.1,trivial⟩
    |none=>
     rw[hb]at h;simp only at h
     cases hc:A6 st.ev o.op with
     |some pr=>
      obtain⟨ψ,k,args⟩:=pr;rw[hc]at h;simp only at h
      obtain⟨r,h2,h3⟩:=h;refine⟨.g b r,h3,fun st' hh hl=>?_⟩;obtain⟨k1,k2,k3,k4⟩:=key st' hh hl;unfold BR;rw[k1,hg];simp only[k2,hp,k3,hb,k4,hc]
      exact⟨hd,r,by rw[hh];exact h2,rfl⟩
     |none=>rw[hc]at h;exact h.elim
theorem uv{st:St}{o:Oper}{K:St→Prop}(h:al T st o K): ∃st',al T st o (fun s=>s=st')∧K st':=by
 cases ho:o.op<;>simp only[al,ho]at h ⊢ <;>first|exact h.elim|skip
 case alloc t=>
   split at h<;>first|exact h.elim|skip
   exact⟨_,rfl,h⟩
 case box t x=>
   split at h<;>first|exact h.elim|skip
   exact⟨_,⟨h.1,rfl⟩,h.2⟩
 case store t x y=>
  split at h<;>first|exact h.elim|skip
  split at h<;>first|exact h.elim|skip
  ·split at h<;>first|exact h.elim|skip
   exact⟨_,⟨h.1,rfl⟩,h.2⟩
  ·split at h<;>first|exact h.elim|skip
   exact⟨_,⟨h.1,rfl⟩,h.2⟩
  ·split at h<;>first|exact h.elim|skip
   exact⟨_,⟨h.1,rfl⟩,h.2⟩
 case makeSlice t l c=>
  split at h<;>first|exact h.elim|skip
  split at h<;>first|exact h.elim|skip
  exact⟨_,⟨h.1,rfl⟩,h.2⟩
 case call c=>
  split at h<;>first|exact h.elim|skip
  split at h<;>first|exact h.elim|skip
  split at h<;>first|exact h.elim|skip
  split at h<;>first|exact h.elim|skip
  split at h
  ·obtain⟨ys,h1,h2⟩:=h;exact⟨_,⟨ys,h1,rfl⟩,h2⟩
  ·split at h<;>first|exact h.elim|skip
   obtain⟨ys,h1,h2⟩:=h;exact⟨_,⟨ys,h1,rfl⟩,h2⟩
theorem l5{st:St}{o:Oper}{K:St→Prop}(h:BR P T n ops o K st): ∃st',BR P T n ops o (fun s=>s=st') st∧K st':=by
 by_cases hq:BB o.op=true
 ·obtain⟨r,h1,h2⟩:=JW hq h;exact⟨_,h2 st rfl (fun _ _=>rfl),h1⟩
 ·obtain⟨hd,h⟩:=h;unfold BR;split at h
  ·exact h.elim
  ·split at h
   ·exact⟨_,⟨hd,h.1,rfl⟩,h.2⟩
   ·split at h
    ·exact⟨_,⟨hd,h.1,rfl⟩,h.2⟩
    ·split at h
     ·obtain⟨h1,r,h2,h3⟩:=h;exact⟨_,⟨hd,h1,r,h2,rfl⟩,h3⟩
     ·obtain⟨st',h1,h2⟩:=uv h;exact⟨st',⟨hd,h1⟩,h2⟩
  ·split at h
   ·exact⟨_,⟨hd,h.1,rfl⟩,h.2⟩
   ·split at h
    ·exact⟨_,⟨hd,h.1,rfl⟩,h.2⟩
    ·split at h
     ·obtain⟨r,h2,h3⟩:=h;exact⟨_,⟨hd,r,h2,rfl⟩,h3⟩
     ·exact h.elim
theorem Py{K:St→Prop}: ∀(l:List Oper) (st:St),A8 P T n ops K l st→ ∃σ:Nat→St,σ 0=st∧K (σ l.length)∧ ∀i o,l[i]? =some o→BR P T n ops o (fun s=>s=σ (i+1)) (σ i)
 | [],st,h=>⟨fun _=>st,rfl,h,fun i o hi=>by simp at hi⟩
 |o::l,st,h=>by
  obtain⟨st1,h1,h2⟩:=l5 h;obtain⟨σ,s0,sN,sS⟩:=Py l st1 h2;refine⟨fun i=>match i with|0=>st|i+1=>σ i,rfl,sN,fun i o' hi=>?_⟩;cases i with
  |zero=>simp at hi;subst hi;simp only[s0];exact h1
  |succ i=>simp at hi;exact sS i o' hi
end
def l6(ms:List Nat):List Edge→Nat
 | []=>0
 |e::r=>if Region.binds .any e then(2^e.on ||| ms.getD e.on 0) ||| l6 ms r else l6 ms r
def LH(ops:Array Oper)(x y:Oper):Bool:=
 (match x.dst with|some d=>(y.looksAt ops).contains d||y.dst==some d|none=>false)||
 (match y.dst with|some d=>(x.looksAt ops).contains d|none=>false)|| !BB x.op|| !BB y.op
def Ii(l:List Oper)(ms:List Nat):Bool:=
 (List.range l.length).all fun j=>match l[j]? with
  |none=>true
  |some oj=>oj.after.toList.all (fun e=> !Region.binds .any e||decide (e.on<j))&&((ms.getD j 0 &&& l6 ms oj.after.toList)==ms.getD j 0)&&
   (List.range j).all fun i=>match l[i]? with
    |none=>true
    |some oi=> !LH l.toArray oi oj||(ms.getD j 0).testBit i
theorem ML{ms:List Nat}{i:Nat}: ∀ {l:List Edge},(l6 ms l).testBit i=true→ ∃e∈l,Region.binds .any e=true∧(e.on=i∨(ms.getD e.on 0).testBit i=true)
 | [],h=>by simp[l6]at h
 |e::r,h=>by
  simp only[l6]at h;split at h
  ·rename_i hb;rw[Nat.testBit_or,Nat.testBit_or,Nat.testBit_two_pow]at h;simp only[Bool.or_eq_true,Zdt]at h;rcases h with (h|h)|h
   ·exact⟨e,by simp,hb,.inl h⟩
   ·exact⟨e,by simp,hb,.inr h⟩
   ·obtain⟨e',h1,h2⟩:=ML h;exact⟨e',by simp[h1],h2⟩
  ·obtain⟨e',h1,h2⟩:=ML h;exact⟨e',by simp[h1],h2⟩
structure Xz (l:List Oper) (ms:List Nat):Prop where
 lt: ∀j o,l[j]? =some o→ ∀e∈o.after,Region.binds .any e=true→e.on<j
 sub: ∀j o,l[j]? =some o→ ∀i,(ms.getD j 0).testBit i=true→ ∃e∈o.after,Region.binds .any e=true∧(e.on=i∨(ms.getD e.on 0).testBit i=true)
 LH: ∀i j oi oj,i<j→l[i]? =some oi→l[j]? =some oj→LH l.toArray oi oj=true→(ms.getD j 0).testBit i=true
theorem N9{l:List Oper}{ms:List Nat}(h:Ii l ms=true):Xz l ms:=by
 unfold Ii at h;rw[List.all_eq_true]at h;have hj: ∀j o,l[j]? =some o→j<l.length:=fun j o hj=>(List.getElem?_eq_some_iff.1 hj).1;refine⟨fun j o ho e he hb=>?_,fun j o ho i hi=>?_,fun i j oi oj eZ hi ho hc=>?_⟩<;>have h1:=h j (by simp[hj j _ ho])<;>simp only[ho,Zba]at h1
 ·have:=List.all_eq_true.1 h1.1.1 e (by simpa using he);simpa[hb]using this
 ·have h2:(ms.getD j 0 &&& l6 ms o.after.toList)=ms.getD j 0:=by simpa using h1.1.2
  rw[←h2,Nat.testBit_and]at hi;simp only[Zba]at hi;obtain⟨e,h3,h4⟩:=ML hi.2;exact⟨e,by simpa using h3,h4⟩
 ·have:=List.all_eq_true.1 h1.2 i (by simp[eZ]);simp only[hi]at this;simpa[hc]using this
theorem NJ{α:Type}{p q:α→Bool}: ∀ {l:List α},(∀x∈l,q x=true→p x=true)→(∃x∈l,p x=true∧q x=false)→l.countP q<l.countP p
 | [],_,h=>by obtain⟨x,hx,_⟩:=h;simp at hx
 |x::l,h1,h2=>by
  have hle:l.countP q≤l.countP p:=List.countP_mono_left (fun y hy=>h1 y (by simp[hy]));simp only[List.countP_cons];by_cases hx:p x=true∧q x=false
  ·simp[hx.1,hx.2];omega
  ·obtain⟨y,hy,hp,hq⟩:=h2
   have F9:y∈l:=by
    rcases List.mem_cons.1 hy with rfl|h
    ·exact absurd ⟨hp,hq⟩ hx
    ·exact h
   have:=NJ (l:=l) (fun z hz=>h1 z (by simp[hz])) ⟨y,F9,hp,hq⟩;have h3:=h1 x (by simp);cases hqx:q x
   ·simp;omega
   ·simp[h3 hqx];omega
end Go.Ad
