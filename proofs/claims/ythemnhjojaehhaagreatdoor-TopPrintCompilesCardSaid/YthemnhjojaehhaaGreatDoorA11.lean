/- Part of a proof. -/
import Derived.WalkKit
import Derived.ProofKit
import Derived.ShutString
import Derived.Carry
import Derived.Test.YthemnhjojaehhaaGreatDoorA10
set_option linter.all false
namespace Go.Ad
open Go.RowKit
theorem mA(H:List (Nat×AN)): ∀(n:Nat) (x:AV),Sub (AV.IA false H n x) (AV.IA false [] n x):=by
 intro n;induction n with
 |zero=>intro x B I w u h;exact h
 |succ n ih=>
  intro x B I w u h;cases x with
  |v y=>exact h
  |s id=>exact .top _
  |w id off len=>exact .top _
  |p id off=>exact .top _
  |i fr c sz off len=>
   cases h with
   |i _ _ _ _ _ cap A u BW hA hc=>exact .i _ _ _ _ _ _ _ u BW hA (fun e f he hf=>hc e f he hf)
  |q fr c sz e f=>
   cases h with
   |q _ _ _ _ _ ad u h2 h3 Bf hc=>exact .q _ _ _ _ _ _ u h2 h3 Bf (fun j hj=>hc j hj)
  |a cs=>
   cases h with
   |a _ us hl h=>exact .a _ _ (by simpa using hl) fun j hj=>by simp only[List.length_map]at hj;have:=h j (by simpa using hj);rw[CQ _ _ _ _ _ hj]at this ⊢;exact ih _ _ _ _ _ this
  |t cs=>
   cases h with
   |t _ us hl h=>exact .t _ _ (by simpa using hl) fun j hj=>by simp only[List.length_map]at hj;have:=h j (by simpa using hj);rw[CQ _ _ _ _ _ hj]at this ⊢;exact ih _ _ _ _ _ this
  |f fn cs=>
   cases h with
   |f _ _ us hl h=>exact .f _ _ _ (by simpa using hl) fun j hj=>by simp only[List.length_map]at hj;have:=h j (by simpa using hj);rw[CQ _ _ _ _ _ hj]at this ⊢;exact ih _ _ _ _ _ this
  |g b y=>
   cases h with
   |g _ _ _ h h0=>exact .g b _ _ (fun hb=>ih _ _ _ _ _ (h hb)) h0
  |o=>
   cases h with
   |o _ h1=>exact .o _ h1
  |top=>exact .top _
theorem NN(H:List (Nat×AN)): ∀args:List AV,bo (MJ H args) (MJ [] args)
 | []=>trivial
 |x::r=>⟨mA H 6 x.strip,NN H r⟩
theorem Oz(id:Nat):Af [] id=none:=rfl
theorem Va{T:BT}{H:List (Nat×AN)}{t:TypeId}{x:AV}{r:Prop×AV}(h:HZ T [] t x=some r):HZ T H t x=some r:=by
 unfold HZ at h ⊢;cases hx:x.strip<;>simp only[hx,Oz]at h ⊢ <;>first|exact h|skip
 cases T t<;>simp at h
theorem Ti{T:BT}{H:List (Nat×AN)}{t:TypeId}{x:AV}{lo hi:Option AV}{r:Prop×AV}(h:GQ T [] t x lo hi=some r):GQ T H t x lo hi=some r:=by
 unfold GQ at h ⊢;split at h<;>first|exact h|skip
 split at h<;>first|exact h|skip
 cases hx:x.strip<;>simp only[hx,Oz]at h ⊢ <;>first|exact h|(simp at h;done)
theorem NO{T:BT}{H:List (Nat×AN)}{t:TypeId}{x i:AV}{r:Prop×AV}(h:Cu T [] t x i=some r):Cu T H t x i=some r:=by
 unfold Cu at h ⊢;split at h<;>first|exact h|skip
 split at h<;>first|exact h|skip
 split at h<;>first|exact h|skip
 cases hx:x.strip<;>simp only[hx,Oz]at h ⊢ <;>first|exact h|(simp at h;done)
theorem X3{T:BT}{H:List (Nat×AN)}{t:TypeId}{x:AV}{r:Prop×AV}(h:LP T [] t x=some r):LP T H t x=some r:=by
 unfold LP at h ⊢;cases ht:T t with
 |none=>rw[ht]at h;cases h
 |some ti=>
  obtain⟨k,sz,b,z⟩:=ti;rw[ht]at h;cases k<;>simp only at h ⊢ <;>first|exact h|(cases h;done)|(cases hx:x.strip<;>simp only[hx,Oz]at h ⊢ <;>first|exact h|(cases h;done)|(rename_i y;cases y<;>first|exact h|(cases h;done)))
theorem Re{T:BT}{H:List (Nat×AN)}{t:TypeId}{x k:AV}{r:Prop×AV}(h:FF T [] t x k=some r):FF T H t x k=some r:=by
 unfold FF at h;split at h
 ·split at h
  ·simp only[Af]at h;cases h
  ·cases h
 ·cases h
theorem P0{T:BT}{H:List (Nat×AN)}{t:TypeId}{x k:AV}{r:Prop×AV}(h:EC T [] t x k=some r):EC T H t x k=some r:=by
 unfold EC at h;split at h
 ·split at h
  ·simp only[Af]at h;cases h
  ·cases h
 ·cases h
theorem Zs{T:BT}{H:List (Nat×AN)}{ev:Operand→AV}{op:Op}{x:Prop×AV}(h:pv T [] ev op=some x):pv T H ev op=some x:=by
 cases op<;>simp only[pv]at h ⊢ <;>first|exact h|exact Va h|exact NO h|skip
 case lookup t y k c=>cases c with
  |true=>exact P0 h
  |false=>exact Re h
 case slice t y lo hi mx=>cases mx with
  |some _=>exact h
  |none=>exact Ti h
 case call c=>
  split at h<;>first|exact h|skip
  split at h<;>first|exact h|exact X3 h
theorem P1{T:BT}{H:List (Nat×AN)}{ev:Operand→AV}{op:Op}{x:Prop×AV}(h:qb T ev op=some x):pv T H ev op=none:=by
 cases op<;>simp only[qb]at h<;>first|(cases h;done)|rfl
theorem G6{T:BT}{H:List (Nat×AN)}{ev:Operand→AV}{op:Op}{x:Prop×FuncId×List AV}(h:A6 ev op=some x):pv T H ev op=none∧qb T ev op=none:=by
 cases op<;>simp only[A6]at h<;>first|(cases h;done)|skip
 rename_i c;split at h<;>first|(cases h;done)|skip
 rename_i f hf;exact⟨by simp only[pv,hf],rfl⟩
section
variable{P:Program}{T:BT}{n:Nat}{ops:Array Oper}
theorem bt{st:St}{o:Oper}{K:St→Prop}(hq:BB o.op=true)(h:BR P T n ops o K ⟨st.env,[]⟩):
  ∃r,K ((⟨st.env,[]⟩:St).put o.dst r)∧ ∀st':St,(∀t∈o.looksAt ops,lk st'.env t=lk st.env t)→BR P T n ops o (fun s=>s=st'.put o.dst r) st':=by
 obtain⟨hd,h⟩:=h
 have key: ∀(st':St),(∀t∈o.looksAt ops,lk st'.env t=lk st.env t)→EG st' ops o.guard=EG ⟨st.env,[]⟩ ops o.guard∧pv T [] st'.ev o.op=pv T [] (St.ev ⟨st.env,[]⟩) o.op∧qb T st'.ev o.op=qb T (St.ev ⟨st.env,[]⟩) o.op∧A6 st'.ev o.op=A6 (St.ev ⟨st.env,[]⟩) o.op:=fun st' hl=>
  ⟨guard_congr (st':=⟨st.env,[]⟩) hl,Px (FH (st':=⟨st.env,[]⟩) hl),VX (FH (st':=⟨st.env,[]⟩) hl),MK (FH (st':=⟨st.env,[]⟩) hl)⟩
 cases hg:EG ⟨st.env,[]⟩ ops o.guard with
 |none=>rw[hg]at h;exact h.elim
 |some g=>
  rw[hg]at h;cases g with
  |none=>
   simp only at h;cases hp:pv T [] (St.ev ⟨st.env,[]⟩) o.op with
   |some pr=>
    obtain⟨φ,r⟩:=pr;rw[hp]at h;refine⟨r,h.2,fun st' hl=>?_⟩;obtain⟨k1,k2,k3,k4⟩:=key st' hl;unfold BR;rw[k1,hg];simp only[Zs (k2.trans hp)]
    exact⟨hd,h.1,trivial⟩
   |none=>
    rw[hp]at h;simp only at h
    cases hb:qb T (St.ev ⟨st.env,[]⟩) o.op with
    |some pr=>
     obtain⟨φ,r⟩:=pr;rw[hb]at h;refine⟨r,h.2,fun st' hl=>?_⟩;obtain⟨k1,k2,k3,k4⟩:=key st' hl;have Ux:=k3.trans hb;unfold BR;rw[k1,hg];simp only[P1 Ux,Ux]
     exact⟨hd,h.1,trivial⟩
    |none=>
     rw[hb]at h;simp only at h
     cases hc:A6 (St.ev ⟨st.env,[]⟩) o.op with
     |some pr=>
      obtain⟨ψ,k,args⟩:=pr;rw[hc]at h;simp only at h
      obtain⟨h1,r,h2,h3⟩:=h;refine⟨r,h3,fun st' hl=>?_⟩;obtain⟨k1,k2,k3,k4⟩:=key st' hl;have HU:=k4.trans hc;unfold BR;rw[k1,hg];simp only[(G6 (T:=T) (H:=st'.heap) HU).1,(G6 (T:=T) (H:=st'.heap) HU).2,HU]
      exact⟨hd,h1,r,⟨h2.1.sub (NN _ _),h2.2⟩,rfl⟩
     |none=>rw[hc]at h;exact(VY hq h).elim
  |some b=>
   simp only at h;cases hp:pv T [] (St.ev ⟨st.env,[]⟩) o.op with
   |some pr=>
    obtain⟨φ,r⟩:=pr;rw[hp]at h;refine⟨.g b r,h.2,fun st' hl=>?_⟩;obtain⟨k1,k2,k3,k4⟩:=key st' hl;unfold BR;rw[k1,hg];simp only[Zs (k2.trans hp)]
    exact⟨hd,h.1,trivial⟩
   |none=>
    rw[hp]at h;simp only at h
    cases hb:qb T (St.ev ⟨st.env,[]⟩) o.op with
    |some pr=>
     obtain⟨φ,r⟩:=pr;rw[hb]at h;refine⟨.g b r,h.2,fun st' hl=>?_⟩;obtain⟨k1,k2,k3,k4⟩:=key st' hl;have Ux:=k3.trans hb;unfold BR;rw[k1,hg];simp only[P1 Ux,Ux]
     exact⟨hd,h.1,trivial⟩
    |none=>
     rw[hb]at h;simp only at h
     cases hc:A6 (St.ev ⟨st.env,[]⟩) o.op with
     |some pr=>
      obtain⟨ψ,k,args⟩:=pr;rw[hc]at h;simp only at h
      obtain⟨r,h2,h3⟩:=h;refine⟨.g b r,h3,fun st' hl=>?_⟩;obtain⟨k1,k2,k3,k4⟩:=key st' hl;have HU:=k4.trans hc;unfold BR;rw[k1,hg];simp only[(G6 (T:=T) (H:=st'.heap) HU).1,(G6 (T:=T) (H:=st'.heap) HU).2,HU]
      exact⟨hd,r,fun hb=>⟨(h2 hb).1,(h2 hb).2.1.sub (NN _ _),(h2 hb).2.2⟩,rfl⟩
     |none=>rw[hc]at h;exact h.elim
def pk(d:Option Nat)(r:AV)(env:List (Nat×AV)):List (Nat×AV):=
 match d with
 |some d=>(d,r)::CM d env
 |none=>env
theorem mB{st:St}{o:Oper}{K:St→Prop}(h:al T st o K):
  ∃r h',K ⟨pk o.dst r st.env,h'⟩∧(∀d d',o.dst=some d→d'≠d→r.kill d'=r)∧ ∀st':St,st'.heap=st.heap→(∀x∈o.op.operands,st'.ev x=st.ev x)→al T st' o (fun s=>s=⟨pk o.dst r st'.env,h'⟩):=by
 have ks: ∀(d d1 d':Nat),some d=some d1→d'≠d1→(AV.s d).kill d'=.s d:=fun d d1 d' e CD=>by injection e with e;subst e;rw[AV.kill,if_neg (Ne.symm CD)]
 have kp: ∀(d d1 d':Nat),some d=some d1→d'≠d1→(AV.p d 0).kill d'=.p d 0:=fun d d1 d' e CD=>by injection e with e;subst e;rw[AV.kill,if_neg (Ne.symm CD)]
 obtain⟨dst,op,ty,ps,af,gd⟩:=o;cases op<;>simp only[al]at h<;>first|exact h.elim|skip
 case alloc t=>
  cases dst with
  |none=>exact h.elim
  |some d=>
   cases ht:T t with
   |none=>rw[ht]at h;exact h.elim
   |some ti=>
    rw[ht]at h;refine⟨.p d 0,_,h,kp d,fun st' hh hl=>?_⟩;simp only[al,ht,hh,pk]
 case box t x=>
  cases dst with
  |none=>exact h.elim
  |some d=>
   cases hc:cellsOf (st.ev x).strip with
   |none=>rw[hc]at h;exact h.elim
   |some cs=>
    rw[hc]at h;refine⟨.p d 0,_,h.2,kp d,fun st' hh hl=>?_⟩;simp only[al,hl x (by simp[Op.operands]),hc,hh,pk];exact⟨h.1,trivial⟩
 case store t x y=>
  cases hx:(st.ev x).strip<;>simp only[hx]at h<;>first|exact h.elim|skip
  rename_i id off;cases hc:cellsOf (st.ev y).strip<;>simp only[hc]at h<;>first|exact h.elim|skip
  rename_i cs;cases ht:T t<;>simp only[ht]at h<;>first|exact h.elim|skip
  rename_i ti;cases hk:Af st.heap id with
  |none=>rw[hk]at h;exact h.elim
  |some blk=>
   rw[hk]at h;cases blk with
   |mp c=>exact h.elim
   |DN kd ks c=>exact h.elim
   |box tb c=>
    simp only at h;cases hu:c.Rb off cs with
    |none=>rw[hu]at h;exact h.elim
    |some c'=>
     rw[hu]at h;have hd:dst=none:=h.1.2.2.2.2.2;subst hd;refine⟨.top,_,h.2,(fun d d' e=>by cases e),fun st' hh hl=>?_⟩;simp only[al,hl x (by simp[Op.operands]),hl y (by simp[Op.operands]),hx,hc,ht,hh,hk,hu,pk];exact⟨by simpa using h.1,trivial⟩
   |row e sz c=>
    simp only at h;cases hu:c.Rb off cs with
    |none=>rw[hu]at h;exact h.elim
    |some c'=>
     rw[hu]at h;have hd:dst=none:=h.1.2.2.2.2.2.2;subst hd;refine⟨.top,_,h.2,(fun d d' e=>by cases e),fun st' hh hl=>?_⟩;simp only[al,hl x (by simp[Op.operands]),hl y (by simp[Op.operands]),hx,hc,ht,hh,hk,hu,pk];exact⟨by simpa using h.1,trivial⟩
   |FD e c=>
    simp only at h;cases hu:c.Rb off cs with
    |none=>rw[hu]at h;exact h.elim
    |some c'=>
     rw[hu]at h;have hd:dst=none:=h.1.2.2.2.2.2;subst hd;refine⟨.top,_,h.2,(fun d d' e=>by cases e),fun st' hh hl=>?_⟩;simp only[al,hl x (by simp[Op.operands]),hl y (by simp[Op.operands]),hx,hc,ht,hh,hk,hu,pk];exact⟨by simpa using h.1,trivial⟩
 case makeSlice t l c=>
  split at h<;>first|exact h.elim|skip
  rename_i d e s1 b1 z1 k1 nl k2 nc ht Iv J5;cases EP:T e with
  |none=>rw[EP]at h;exact h.elim
  |some te=>
   rw[EP]at h;refine⟨.s d,_,h.2,ks d,fun st' hh hl=>?_⟩;simp only[al,hl l (by simp[Op.operands]),hl c (by simp[Op.operands]),ht,Iv,J5,EP,hh,pk];exact⟨h.1,trivial⟩
 case call c=>
  obtain⟨callee,args,ats⟩:=c;simp only at h;split at h<;>first|exact h.elim|skip
  rename_i x y t t' DM SB
  have yK:x∈args:=by
    have:x∈args.toList:=by rw[DM];simp
    simpa using this
  have yL:y∈args:=by
    have:y∈args.toList:=by rw[DM];simp
    simpa using this
  split at h<;>first|exact h.elim|skip
  rename_i d e s1 b1 z1 ht;cases EP:T e with
  |none=>rw[EP]at h;exact h.elim
  |some te=>
   rw[EP]at h;cases Kh:KD st.heap (st.ev x).strip with
   |none=>rw[Kh]at h;exact h.elim
   |some bs=>
    rw[Kh]at h;simp only at h;cases yM:SM st.heap te.sz (st.ev y).strip with
    |none=>rw[yM]at h;exact h.elim
    |some p=>
     obtain⟨ψ,m,src⟩:=p;rw[yM]at h;simp only at h;cases bs with
     |none=>
      cases hk:te.k<;>simp only[hk]at h<;>(
       obtain⟨ys,h1,h2⟩:=h;refine⟨.s d,_,h2,ks d,fun st' hh hl=>?_⟩;simp only[al,hl x (by simp[Op.operands,Call.operands,yK]),hl y (by simp[Op.operands,Call.operands,yL]),DM,SB,ht,EP,hh,Kh,yM,pk,hk];exact⟨ys,h1,rfl⟩)
     |some p=>
      obtain⟨id,e',sz,c⟩:=p
      cases hk:te.k<;>cases c<;>simp only[hk]at h<;>first|exact h.elim|(
       obtain⟨ys,h1,h2⟩:=h;refine⟨.s d,_,h2,ks d,fun st' hh hl=>?_⟩;simp only[al,hl x (by simp[Op.operands,Call.operands,yK]),hl y (by simp[Op.operands,Call.operands,yL]),DM,SB,ht,EP,hh,Kh,yM,pk,hk];exact⟨ys,h1,rfl⟩)
theorem bu{st:St}{o:Oper}{K:St→Prop}(hq:BB o.op=false)(h:BR P T n ops o K st):
  ∃r h',K ⟨pk o.dst r st.env,h'⟩∧(∀d d',o.dst=some d→d'≠d→r.kill d'=r)∧ ∀st':St,st'.heap=st.heap→(∀t∈o.looksAt ops,lk st'.env t=lk st.env t)→BR P T n ops o (fun s=>s=⟨pk o.dst r st'.env,h'⟩) st':=by
 have fT: ∀(H:List (Nat×AN)) (ev:Operand→AV),pv T H ev o.op=none∧qb T ev o.op=none∧A6 ev o.op=none:=fun H ev=>by
  cases ho:o.op<;>rw[ho]at hq<;>simp only[BB]at hq<;>first|(cases hq;done)|exact⟨rfl,rfl,rfl⟩|skip
  rename_i c;cases hc:c.callee with
  |value f=>rw[hc]at hq;cases hq
  |invoke r m=>exact⟨by simp only[pv,hc],rfl,by simp only[A6,hc]⟩
  |builtin b=>cases b<;>rw[hc]at hq<;>first|(cases hq;done)|exact⟨by simp only[pv,hc],rfl,by simp only[A6,hc]⟩
 obtain⟨hd,h⟩:=h;obtain⟨n1,n2,n3⟩:=fT st.heap st.ev;cases hg:EG st ops o.guard with
 |none=>rw[hg]at h;exact h.elim
 |some g=>
  rw[hg]at h;cases g with
  |some b=>simp only[n1,n2,n3]at h
  |none=>
   simp only[n1,n2,n3]at h;obtain⟨r,h',h1,h2,h3⟩:=mB h;refine⟨r,h',h1,h2,fun st' hh hl=>?_⟩;obtain⟨m1,m2,m3⟩:=fT st'.heap st'.ev;unfold BR;rw[guard_congr hl,hg];simp only[m1,m2,m3];exact⟨hd,h3 st' hh (FH hl)⟩
def SW(T:BT)(n:Nat)(o:Oper)(K:St→Prop)(st:St):Prop:=o.guard=none∧As n o.dst∧bq T st o.dst o.op K
theorem X4{st:St}{o:Oper}{K:St→Prop}(h:SW T n o K st):
  ∃r h',K ⟨pk o.dst r st.env,h'⟩∧(∀d d',o.dst=some d→d'≠d→r.kill d'=r)∧ ∀st':St,st'.heap=st.heap→(∀t∈o.looksAt ops,lk st'.env t=lk st.env t)→SW T n o (fun s=>s=⟨pk o.dst r st'.env,h'⟩) st':=by
 obtain⟨hg,hd,h⟩:=h;have G2: ∀st':St,(∀t∈o.looksAt ops,lk st'.env t=lk st.env t)→ ∀x∈o.op.operands,st'.ev x=st.ev x:=fun st' hl=>FH hl;obtain⟨dst,op,ty,ps,af,gd⟩:=o;simp only at G2 hg hd h ⊢;cases dst with
 |none=>cases op<;>simp only[bq]at h
 |some d=>
  have ks: ∀(d1 d':Nat),some d=some d1→d'≠d1→(AV.s d).kill d'=.s d:=fun d1 d' e CD=>by injection e with e;subst e;rw[AV.kill,if_neg (Ne.symm CD)]
  cases op<;>simp only[bq]at h;rename_i t len parts
  have U1: ∀st':St,(∀t∈Oper.looksAt ops ⟨some d,.buildSlice t len parts,ty,ps,af,gd⟩,lk st'.env t=lk st.env t)→(parts.toList.map fun p=>(p.1,st'.ev p.2))=(parts.toList.map fun p=>(p.1,st.ev p.2)):=fun st' hl=>
   List.map_congr_left fun p hp=>by rw[G2 st' hl p.2 (by simp only[Op.operands,List.mem_toArray,List.mem_map];exact⟨p,hp,rfl⟩)]
  split at h<;>first|exact h.elim|skip
  rename_i e s1 b1 z1 ht;cases EP:T e with
  |none=>rw[EP]at h;exact h.elim
  |some te=>
   rw[EP]at h;simp only at h;split at h<;>first|exact h.elim|skip
   rename_i ψ cs Gm;cases hk:te.k<;>simp only[hk]at h
   case int k=>
    split at h<;>first|exact h.elim|skip
    rename_i l bM;refine⟨.s d,_,h.2,ks,fun st' hh hl=>⟨hg,hd,?_⟩⟩;simp only[bq,ht,EP,U1 st' hl,Gm,hk,bM,hh,pk];exact⟨h.1,trivial⟩
   all_goals
    refine⟨.s d,_,h.2,ks,fun st' hh hl=>⟨hg,hd,?_⟩⟩;simp only[bq,ht,EP,U1 st' hl,Gm,hk,hh,pk];exact⟨h.1,trivial⟩
def gQ(T:BT)(n:Nat)(o:Oper)(K:St→Prop)(st:St):Prop:=o.guard=none∧As n o.dst∧x6 T st o.dst o.op K
theorem X5{st:St}{o:Oper}{K:St→Prop}(h:gQ T n o K st):
  ∃r h',K ⟨pk o.dst r st.env,h'⟩∧(∀d d',o.dst=some d→d'≠d→r.kill d'=r)∧ ∀st':St,st'.heap=st.heap→(∀t∈o.looksAt ops,lk st'.env t=lk st.env t)→gQ T n o (fun s=>s=⟨pk o.dst r st'.env,h'⟩) st':=by
 obtain⟨hg,hd,h⟩:=h;have G2: ∀st':St,(∀t∈o.looksAt ops,lk st'.env t=lk st.env t)→ ∀x∈o.op.operands,st'.ev x=st.ev x:=fun st' hl=>FH hl;obtain⟨dst,op,ty,ps,af,gd⟩:=o;simp only at G2 hg hd h ⊢;have ks: ∀(d d1 d':Nat),some d=some d1→d'≠d1→(AV.s d).kill d'=.s d:=fun d d1 d' e CD=>by injection e with e;subst e;rw[AV.kill,if_neg (Ne.symm CD)]
 rcases h with h|h|h
 ·unfold IJ at h;split at h<;>first|exact h.elim|skip
  rename_i t m k v;split at h<;>first|exact h.elim|skip
  rename_i kt e1 s1 b1 z1 ht;split at h<;>first|exact h.elim|skip
  rename_i tk id kv N2 hm hk;split at h<;>first|exact h.elim|skip
  rename_i kd ks' l key hl Dt;have DD:dst=none:=h.1.2.2.2.1;subst DD;refine⟨.top,_,h.2,(fun d d' e=>by cases e),fun st' hh hle=>⟨hg,hd,.inl ?_⟩⟩;have em:=G2 st' hle m (by simp[Op.operands]);have ek:=G2 st' hle k (by simp[Op.operands]);have ev:=G2 st' hle v (by simp[Op.operands]);simp only[IJ,ht,N2,em,ek,ev,hm,hk,hh,hl,Dt,pk];exact⟨by simpa using h.1,trivial⟩
 ·unfold NM at h;split at h<;>first|exact h.elim|skip
  rename_i t len parts d;split at h<;>first|exact h.elim|skip
  rename_i e s1 b1 z1 ht;cases EP:T e with
  |none=>rw[EP]at h;exact h.elim
  |some te=>
   rw[EP]at h;simp only at h;split at h<;>first|exact h.elim|skip
   rename_i ψ cs Gm
   have U1: ∀st':St,(∀t∈Oper.looksAt ops ⟨some d,.buildSlice t len parts,ty,ps,af,gd⟩,lk st'.env t=lk st.env t)→(parts.toList.map fun p=>(p.1,st'.ev p.2))=(parts.toList.map fun p=>(p.1,st.ev p.2)):=fun st' hl=>
    List.map_congr_left fun p hp=>by rw[G2 st' hl p.2 (by simp only[Op.operands,List.mem_toArray,List.mem_map];exact⟨p,hp,rfl⟩)]
   refine⟨.s d,_,h.2,ks d,fun st' hh hl=>⟨hg,hd,.inr (.inl ?_)⟩⟩;simp only[NM,ht,EP,U1 st' hl,Gm,hh,pk];exact⟨h.1,trivial⟩
 ·unfold X1 at h;split at h<;>first|exact h.elim|skip
  rename_i c d;split at h<;>first|exact h.elim|skip
  rename_i x y t t' Iu DM SB
  have yK:x∈c.args:=by
    have:x∈c.args.toList:=by rw[DM];simp
    simpa using this
  have yL:y∈c.args:=by
    have:y∈c.args.toList:=by rw[DM];simp
    simpa using this
  split at h<;>first|exact h.elim|skip
  rename_i e s1 b1 z1 ht;split at h<;>first|exact h.elim|skip
  rename_i te id2 EP hy;split at h<;>first|exact h.elim|skip
  rename_i e2 ys El;have ex: ∀st':St,(∀t∈Oper.looksAt ops ⟨some d,.call c,ty,ps,af,gd⟩,lk st'.env t=lk st.env t)→st'.ev x=st.ev x:=fun st' hl=>G2 st' hl x (by cases hc:c.callee<;>simp[Op.operands,Call.operands,hc,yK]);have ey: ∀st':St,(∀t∈Oper.looksAt ops ⟨some d,.call c,ty,ps,af,gd⟩,lk st'.env t=lk st.env t)→st'.ev y=st.ev y:=fun st' hl=>G2 st' hl y (by cases hc:c.callee<;>simp[Op.operands,Call.operands,hc,yL]);split at h<;>first|exact h.elim|skip
  ·rename_i hx;refine⟨.s d,_,h.2,ks d,fun st' hh hl=>⟨hg,hd,.inr (.inr ?_)⟩⟩;simp only[X1,Iu,DM,SB,ht,EP,ex st' hl,ey st' hl,hy,hx,hh,El,pk];exact⟨h.1,trivial⟩
  ·rename_i id hx;split at h<;>first|exact h.elim|skip
   rename_i e1 l FM;refine⟨.s d,_,h.2,ks d,fun st' hh hl=>⟨hg,hd,.inr (.inr ?_)⟩⟩;simp only[X1,Iu,DM,SB,ht,EP,ex st' hl,ey st' hl,hy,hx,hh,El,FM,pk];exact⟨h.1,trivial⟩
end
def Cm:List Nat→AV→Prop
 | [],_=>True
 |d::r,v=>v.kill d=v∧Cm r v
theorem IK: ∀ {R:List Nat} {v:AV},Cm R v→ ∀d∈R,v.kill d=v
 | [],_,_,d,hd=>by simp at hd
 |e::R,v,h,d,hd=>by
  rcases List.mem_cons.1 hd with rfl|hd
  ·exact h.1
  ·exact IK h.2 d hd
def P2:List Nat→List (Nat×AV)→Prop
 |_,[]=>True
 |R,(_,v)::r=>Cm R v∧P2 R r
theorem OA: ∀ {R:List Nat} {E:List (Nat×AV)},P2 R E→ ∀p∈E,∀d∈R,p.2.kill d=p.2
 |_,[],_,p,hp,_,_=>by simp at hp
 |R,(k,v)::r,h,p,hp,d,hd=>by
  rcases List.mem_cons.1 hp with rfl|hp
  ·exact IK h.1 d hd
  ·exact OA h.2 p hp d hd
def KI(st:St):Option Nat→AV
 |some d=>lk st.env d
 |none=>.top
def qq(p:Nat×List Nat)(o:Oper):Bool:=BB o.op&& !(p.1==3)&& !(p.1==4)
def qf(rs:List (Nat×List Nat))(i:Nat)(o:Oper):Bool:=qq (rs.getD i (0,[])) o
def LZ(qx qy:Bool)(ops:Array Oper)(x y:Oper):Bool:=
 (match x.dst with|some d=>(y.looksAt ops).contains d||y.dst==some d|none=>false)||
 (match y.dst with|some d=>(x.looksAt ops).contains d|none=>false)||(!qx&& !qy)
structure O0 (l:List Oper) (ms:List Nat) (rs:List (Nat×List Nat)):Prop where
 lt: ∀j (o:Oper),l[j]? =some o→ ∀e∈o.after,Region.binds .any e=true→e.on<j
 sub: ∀j (o:Oper),l[j]? =some o→ ∀i,(ms.getD j 0).testBit i=true→ ∃e∈o.after,Region.binds .any e=true∧(e.on=i∨(ms.getD e.on 0).testBit i=true)
 LH: ∀(i j:Nat) (oi oj:Oper),i<j→l[i]? =some oi→l[j]? =some oj→LZ (qf rs i oi) (qf rs j oj) l.toArray oi oj=true→(ms.getD j 0).testBit i=true
 apart: ∀(i j:Nat) (oi oj:Oper) (d:Nat),i≠j→l[i]? =some oi→l[j]? =some oj→qf rs i oi=false→qf rs j oj=false→oi.dst=some d→oj.dst≠some d
 tied: ∀(i j:Nat) (oi oj:Oper),l[i]? =some oi→l[j]? =some oj→qf rs j oj=true→qf rs i oi=false→((rs.getD j (0,[])).1==1)=false→(ms.getD j 0).testBit i=true∨(ms.getD i 0).testBit j=true
 pz: ∀(i j:Nat) (oi oj:Oper) (d:Nat),l[i]? =some oi→l[j]? =some oj→qf rs j oj=true→qf rs i oi=false→oi.dst=some d→(ms.getD j 0).testBit i=false→d∈(rs.getD j (0,[])).2
section
variable{P:Program}{T:BT}(hT:T.ok P){n B:Nat}{w0:AT}{l:List Oper}{ms:List Nat}{rs:List (Nat×List Nat)}(hD:O0 l ms rs)
include hD
end
attribute [push_cast] Cm P2 KI
theorem Pure.res{P:Program}{f:FuncId}{args:List AV}{r r':AV}(h:Pure P f args r)(hs:Sub r r'):Pure P f args r':=
 ⟨h.1,fun w I vs hg hI hc=>(h.2 w I vs hg hI hc).mono fun _ _ ⟨v,h1,h2,h3⟩=>⟨v,h1,h2,hs _ _ _ _ h3⟩⟩
def Reads(P:Program)(t:TypeId){α:Type}(av:α→List AV)(ok:α→Prop):Prop:=
 ∀(H:Type) (enc:TypeId×Value→H) (W:World) (sp:Nat→Bool) (fuel:Nat) (cs:List Value) (x:DataW H×List MemPlace),DataW.trod enc P W 0 sp true fuel t cs=some x→
  ∃a,ok a∧At W.heap.size (G4 W) W DW (av a) cs
theorem bw{P:Program}{t:TypeId}{k:IntKind}(ht:P.underlying t=some (.int k)):Reads P t (fun n:Int=> [.v (.int k n)]) (fun n=>(Lit.int k n).wf=true):=by
 intro H enc W sp fuel cs x h;obtain⟨n,rfl,_,hw⟩:=DataW.trod_int ht h;exact⟨n,hw,At.cons (.v _) At.nil⟩
theorem bx{P:Program}{t:TypeId}(ht:P.underlying t=some .string):Reads P t (fun s:ByteArray=> [.v (.string s)]) (fun s=>s.size≤maxLen):=by
 intro H enc W sp fuel cs x h;obtain⟨n,rfl,_,hl⟩:=DataW.trod_string ht h;exact⟨n,hl,At.cons (.v _) At.nil⟩
theorem Reads.map{P:Program}{t:TypeId}{α β:Type}{av:α→List AV}{ok:α→Prop}(h:Reads P t av ok)(f:α→β){av':β→List AV}{ok':β→Prop}(uW: ∀a,av' (f a)=av a)(Ae: ∀a,ok a→ok' (f a)):Reads P t av' ok':=by
 intro H enc W sp fuel cs x hx;obtain⟨a,h1,h2⟩:=h H enc W sp fuel cs x hx;exact⟨f a,Ae a h1,by rw[uW];exact h2⟩
def Tj(P:Program)(fs:List (TypeId×Nat))(pos tot:Nat){α:Type}(av:α→List AV)(ok:α→Prop):Prop:=
 ∀(H:Type) (enc:TypeId×Value→H) (W:World) (sp:Nat→Bool) (n:Nat) (cs:List Value),cs.length=tot→
  (∀p∈fs,∃y,DataW.trod enc P W 0 sp true n p.1 ((cs.drop p.2).take (P.cellsOf p.1))=some y)→ ∃a,ok a∧At W.heap.size (G4 W) W DW (av a) (cs.drop pos)
theorem At.append{B:Nat}{I:Nat→Prop}{w:World}{ρ:Nat→Option Value}: ∀ {xs ys:List AV} {us vs:List Value},At B I w ρ xs us→At B I w ρ ys vs→At B I w ρ (xs++ys) (us++vs)
 | [],ys,[],vs,_,h2=>h2
 | [],ys,u::us,vs,h1,_=>by have:=h1.1;simp at this
 |x::xs,ys,[],vs,h1,_=>by have:=h1.1;simp at this
 |x::xs,ys,u::us,vs,h1,h2=>by
  refine At.cons (by have:=h1.2 0 (by simp);simpa using this) (At.append ⟨by have:=h1.1;simpa using this,fun j hj=>?_⟩ h2);have:=h1.2 (j+1) (by simpa using hj);simpa using this
theorem P3{P:Program}{pos:Nat}:Tj P [] pos pos (fun _:Unit=> []) (fun _=>True):=by
 intro H enc W sp n cs hl _;refine⟨(),trivial,?_⟩;rw[List.drop_of_length_le Zo];exact At.nil
theorem Gb{P:Program}{t:TypeId}{k pos tot:Nat}{fs:List (TypeId×Nat)}{α β:Type}{av:α→List AV}{ok:α→Prop}{av':β→List AV}{ok':β→Prop}(hk:P.cellsOf t=k)(h1:Reads P t av ok)(h2:Tj P fs (pos+k) tot av' ok'):
  Tj P ((t,pos)::fs) pos tot (fun p:α×β=>av p.1++av' p.2) (fun p=>ok p.1∧ok' p.2):=by
 intro H enc W sp n cs hl hf;obtain⟨y,hy⟩:=hf (t,pos) (by simp);obtain⟨a,ha,ca⟩:=h1 H enc W sp n _ y hy;obtain⟨b,hb,cb⟩:=h2 H enc W sp n cs hl (fun p hp=>hf p (by simp[hp]));refine⟨(a,b),⟨ha,hb⟩,?_⟩;have:=At.append ca cb;simp only at this;rw[hk,←List.drop_drop,List.take_append_drop]at this;exact this
theorem MO{P:Program}{t:TypeId}{fs:Array Field}{tot:Nat}{l:List (TypeId×Nat)}{α:Type}{av:α→List AV}{ok:α→Prop}(ht:P.underlying t=some (.struct fs))(hl:fs.toList.map (fun f=>(f.type,f.offset))=l)(hc:P.cellsOf t=tot)(h:Tj P l 0 tot av ok):Reads P t av ok:=by
 intro H enc W sp fuel cs x hx;obtain⟨xs,n,_,_,h1,h2,h3⟩:=DataW.trod_struct ht hx
 have:=h H enc W sp n cs Zo (fun p hp=>by
  rw[←hl]at hp;obtain⟨f,hf,rfl⟩:=List.mem_map.1 hp;obtain⟨i,hi⟩:=List.getElem?_of_mem hf;have h4:=h3 i f (by simpa using hi)
  have MA:i<xs.length:=by
   have:=(List.getElem?_eq_some_iff.1 hi).1;simp at this;omega
  rw[Zeg MA]at h4;exact⟨_,h4⟩)
 simpa using this
def C2{α:Type}[Inhabited α](av:α→List AV)(sz:Nat)(as:List α):AV:=.i false (fun e j=>(av (as.getD e default)).getD j .top) sz 0 as.length
theorem Vb{P:Program}{t e:TypeId}{sz:Nat}{α:Type}[Inhabited α]{av:α→List AV}{ok:α→Prop}(ht:P.underlying t=some (.slice e))(hc:P.cellsOf e=sz)(F1:0<sz)(h:Reads P e av ok):
  Reads P t (fun as:List α=> [C2 av sz as]) (fun as=>(∀a∈as,ok a)∧as.length≤maxLen):=by
 intro H enc W sp fuel cs x hx;rcases DataW.trod_slice ht hx with ⟨rfl,_⟩|⟨a,len,cap,elems,rest,n,_,rfl,_,hb,hl,hm,hlen,RX,_,_⟩
 ·refine⟨[],⟨by simp,by simp⟩,At.cons ?_ At.nil⟩;exact .i _ _ _ _ _ _ _ (fun _ _=>undef) (by simp) (fun hp=>by simp at hp) (fun e f he=>by simp at he)
 ·rw[hc]at RX
  have each: ∀i,i<len→ ∃cs' y,W.cells? 0 (a.add (i*sz)) sz=some cs'∧DataW.trod enc P W 0 sp true n e cs'=some y:=fun i hi=>by
   have:=RX i hi;rw[Zeg Zo,Option.bind_eq_some_iff]at this;obtain⟨cs',h1,h2⟩:=this;exact⟨cs',_,h1,h2⟩
  have each2: ∀i,∃(cs':List Value) (z:α),i<len→W.cells? 0 (a.add (i*sz)) sz=some cs'∧ok z∧At W.heap.size (G4 W) W DW (av z) cs':=fun i=>by
   by_cases hi:i<len
   ·obtain⟨cs',y,h1,h2⟩:=each i hi;obtain⟨z,h3,h4⟩:=h H enc W sp n cs' y h2;exact⟨cs',z,fun _=>⟨h1,h3,h4⟩⟩
   ·exact⟨[],default,fun hh=>absurd hh hi⟩
  refine⟨(List.range len).map (fun i=>Classical.choose (Classical.choose_spec (each2 i))),⟨fun z hz=>?_,by simp;omega⟩,At.cons ?_ At.nil⟩
  ·obtain⟨i,hi,rfl⟩:=List.mem_map.1 hz;exact(Classical.choose_spec (Classical.choose_spec (each2 i)) (by simpa using hi)).2.1
  ·have N6: ∀i,i<len→((List.range len).map (fun i=>Classical.choose (Classical.choose_spec (each2 i)))).getD i default=Classical.choose (Classical.choose_spec (each2 i)):=fun i hi=>by
    simp[Zlg,hi]
   unfold C2;simp only[List.length_map,List.length_range]
   have cell: ∀i j,i<len→j<sz→W.cell? (a.add (i*sz+j))=some ((Classical.choose (each2 i)).getD j undef):=fun i j hi hj=>by
    obtain⟨h1,_,_⟩:=Classical.choose_spec (Classical.choose_spec (each2 i)) hi;obtain⟨_,h2,h3⟩:=World.cells?_some h1;have:=h3 j hj;rw[add_add]at this;rw[this,Zeg Zo];simp[Zlg,show j<(Classical.choose (each2 i)).length by omega]
   refine .i _ _ _ _ _ _ _ (fun i j=>(Classical.choose (each2 i)).getD j undef) hl (fun hp=>⟨a,rfl,?_,(fun h=>by cases h),cell⟩) (fun i j hi hj=>?_)
   ·have:=cell 0 0 hp F1;unfold World.cell? at this;show a.block<W.heap.size;rcases Nat.lt_or_ge a.block W.heap.size with h|h
    ·exact h
    ·exfalso;have hn:W.heap[(a.add (0*sz+0)).block]? =none:=by rw[Df];exact Array.getElem?_eq_none h
     rw[hn]at this;cases this
   ·rw[Nat.zero_add,N6 i hi];obtain⟨h1,_,h4⟩:=Classical.choose_spec (Classical.choose_spec (each2 i)) hi;have C0:=h4.1;obtain⟨_,h2,_⟩:=World.cells?_some h1;exact h4.2 j Zo
theorem Reads.agg{P:Program}{t:TypeId}{α:Type}{av:α→List AV}{ok:α→Prop}(h:Reads P t av ok){H:Type}{enc:TypeId×Value→H}{W:World}{us:Array Value}{d:DataW H}{ps:List MemPlace}{sp:Nat→Bool}(hd:DataW.Trod enc P W 0 sp true t (.agg us) d ps):
  ∃a,ok a∧AL W.heap.size (G4 W) W DW (.a (av a)) (.agg us):=by
 obtain⟨fuel,hf⟩:=hd;obtain⟨a,ha,hc⟩:=h H enc W sp fuel _ _ hf;simp only[Value.cells]at hc;refine⟨a,ha,.a _ _ ?_ fun j hj=>?_⟩
 ·rw[←hc.1];simp
 ·have:=hc.2 j hj;simpa[Zlg,Zag]using this
theorem okWide_struct{P:Program}{t:TypeId}{fs:Array Field}{W:World}{b0:Nat}{r:Reach}{v:Value}(ht:P.underlying t=some (.struct fs))(h:Value.okWide P W r b0 t v): ∃us,v=.agg us:=by
 simp only[Value.okWide,ht]at h;obtain⟨cs,h1,_⟩:=h;exact⟨cs,h1⟩
theorem bh:(∀a b:Bool,((a&&b)=true)=(a=true∧b=true))∧(∀a b:Bool,((a||b)=true)=(a=true∨b=true))∧(∀a b:Bool,((a&&b)=false)=(a=false∨b=false))∧(∀a b:Bool,((a||b)=false)=(a=false∧b=false))∧
  (∀a:Bool,((!a)=true)=(a=false))∧(∀a:Bool,((!a)=false)=(a=true))∧(∀a b:Int,(¬a<b)=(b≤a))∧(∀a b:Int,(¬a≤b)=(b<a))∧(∀a b:Int,((a==b)=true)=(a=b))∧(∀a b:Int,((a==b)=false)=(¬a=b))∧(∀a b:Int,((a != b)=true)=(¬a=b))∧(∀a b:Int,((a != b)=false)=(a=b)):=
 ⟨Zd,Zd,Zd,Zd,Zd,Zd,fun a b=>by rw[Int.not_lt],fun a b=>by rw[Int.not_le],fun a b=>by simp,fun a b=>by simp,fun a b=>by simp,fun a b=>by simp⟩
attribute [push_cast] C2 Ex.then Ex.inBlock Ex.noGoto Zz3 fin LQ Pv
end Go.Ad
