/- Part of a proof. -/
import Derived.Test.YthemnhjojaehhaaGreatDoorA11
set_option linter.all false
namespace Go.Ad
open Go.RowKit
mutual
def AV.ge(N:Nat):AV→Prop
 | .v _=>True
 | .s id=>N≤id
 | .w id _ _=>N≤id
 | .p id _=>N≤id
 | .i _ _ _ _ _=>True
 | .q _ _ _ _ _=>True
 | .a cs=>AV.Lh N cs
 | .t cs=>AV.Lh N cs
 | .f _ cs=>AV.Lh N cs
 | .g _ x=>AV.ge N x
 | .o=>True
 | .top=>True
def AV.Lh(N:Nat):List AV→Prop
 | []=>True
 |x::r=>AV.ge N x∧AV.Lh N r
end
theorem KJ{N:Nat}: ∀ {cs:List AV} (_:AV.Lh N cs) (j:Nat),(cs.getD j .top).ge N
 | [],_,_=>by simp[AV.ge]
 |x::r,h,0=>by simp only[AV.Lh]at h;simpa using h.1
 |x::r,h,j+1=>by simp only[AV.Lh]at h;simpa using KJ h.2 j
theorem AL.ge{N B:Nat}{I:Nat→Prop}{w:World}{ρ:Nat→Option Value}{x:AV}{u:Value}(h:AL B I w ρ x u):x.ge N→ ∀ρ',(∀id,N≤id→ρ' id=ρ id)→AL B I w ρ' x u:=by
 induction h with
 |v x=>intro _ ρ' _;exact .v x
 |s id x h h1=>intro hg ρ' hr;exact .s id x (by rw[hr id hg];exact h) h1
 |w id off len cap A x h BW hA=>intro hg ρ' hr;exact .w id off len cap A x (by rw[hr id hg];exact h) BW hA
 |p id off b x h hb=>intro hg ρ' hr;exact .p id off b x (by rw[hr id hg];exact h) hb
 |i fr c sz off len cap A u BW hA hc ih=>intro _ ρ' _;exact .i fr c sz off len cap A u BW hA hc
 |q fr c sz e f ad u h2 h3 Bf hc ih=>intro _ ρ' _;exact .q fr c sz e f ad u h2 h3 Bf hc
 |a cs us hl h ih=>intro hg ρ' hr;exact .a cs us hl fun j hj=>ih j hj (KJ (by simpa only[AV.ge]using hg) j) ρ' hr
 |t cs us hl h ih=>intro hg ρ' hr;exact .t cs us hl fun j hj=>ih j hj (KJ (by simpa only[AV.ge]using hg) j) ρ' hr
 |f fn cs us hl h ih=>intro hg ρ' hr;exact .f fn cs us hl fun j hj=>ih j hj (KJ (by simpa only[AV.ge]using hg) j) ρ' hr
 |g b x u h h0 ih=>intro hg ρ' hr;exact .g b x u (fun hb=>ih hb (by simpa only[AV.ge]using hg) ρ' hr) h0
 |o u h1=>intro _ ρ' _;exact .o u h1
 |top u=>intro _ ρ' _;exact .top u
mutual
theorem Vc(d:Nat): ∀(x:AV),x.F5=true→x.kill d=x
 | .v _,_=>by rw[AV.kill]
 | .s _,h=>by simp[AV.F5]at h
 | .w _ _ _,h=>by simp[AV.F5]at h
 | .p _ _,h=>by simp[AV.F5]at h
 | .i _ _ _ _ _,_=>by rw[AV.kill]
 | .q _ _ _ _ _,_=>by rw[AV.kill]
 | .a cs,h=>by rw[AV.kill,GJ d cs (by simpa[AV.F5]using h)]
 | .t cs,h=>by rw[AV.kill,GJ d cs (by simpa[AV.F5]using h)]
 | .f _ cs,h=>by rw[AV.kill,GJ d cs (by simpa[AV.F5]using h)]
 | .g _ x,h=>by rw[AV.kill,Vc d x (by simpa[AV.F5]using h)]
 | .o,_=>by rw[AV.kill]
 | .top,_=>by rw[AV.kill]
theorem GJ(d:Nat): ∀(l:List AV),AV.Dp l=true→AV.CV d l=l
 | [],_=>rfl
 |x::r,h=>by
  simp only[AV.Dp,Zba]at h;rw[AV.CV,Vc d x h.1,GJ d r h.2]
end
mutual
theorem gR(N:Nat): ∀(x:AV),x.F5=true→x.ge N
 | .v _,_=>by simp[AV.ge]
 | .s _,h=>by simp[AV.F5]at h
 | .w _ _ _,h=>by simp[AV.F5]at h
 | .p _ _,h=>by simp[AV.F5]at h
 | .i _ _ _ _ _,_=>by simp[AV.ge]
 | .q _ _ _ _ _,_=>by simp[AV.ge]
 | .a cs,h=>by rw[AV.ge];exact JX N cs (by simpa[AV.F5]using h)
 | .t cs,h=>by rw[AV.ge];exact JX N cs (by simpa[AV.F5]using h)
 | .f _ cs,h=>by rw[AV.ge];exact JX N cs (by simpa[AV.F5]using h)
 | .g _ x,h=>by rw[AV.ge];exact gR N x (by simpa[AV.F5]using h)
 | .o,_=>by simp[AV.ge]
 | .top,_=>by simp[AV.ge]
theorem JX(N:Nat): ∀(l:List AV),AV.Dp l=true→AV.Lh N l
 | [],_=>trivial
 |x::r,h=>by
  simp only[AV.Dp,Zba]at h;exact⟨gR N x h.1,JX N r h.2⟩
end
def AH.ge(N:Nat):AH→Prop
 | .AF l=>AV.Lh N l
 |_=>True
theorem AH.SX{N:Nat}{c:AH}(h:c.ge N)(j:Nat):(c.at j).ge N:=by
 cases c with
 |ints k l=>trivial
 |BJ l=>trivial
 |AF l=>exact KJ h j
def AN.ge(N:Nat):AN→Prop
 | .box _ c=>c.ge N
 | .row _ _ _=>True
 | .mp _=>True
 | .DN _ _ c=>c.ge N
 | .FD _ c=>c.ge N
def BD(N:Nat):List (Nat×AN)→List (Nat×AN)
 | []=> []
 |(k,b)::r=>if N≤k then(k,b)::BD N r else BD N r
def P4(N:Nat):List (Nat×AN)→Prop
 | []=>True
 |(_,b)::r=>b.ge N∧P4 N r
theorem Ee{N:Nat}: ∀ {H:List (Nat×AN)} {id:Nat} {b:AN},Af (BD N H) id=some b→N≤id∧Af H id=some b
 | [],_,_,h=>by cases h
 |(k,c)::r,id,b,h=>by
  unfold BD at h;by_cases hk:N≤k
  ·rw[if_pos hk]at h;simp only[Af]at h ⊢;split at h
   ·rename_i e;subst e;rw[if_pos rfl];exact⟨hk,h⟩
   ·rename_i e;rw[if_neg e];exact Ee h
  ·rw[if_neg hk]at h;obtain⟨h1,h2⟩:=Ee h;refine⟨h1,?_⟩;simp only[Af];rw[if_neg Zo];exact h2
theorem Li{N:Nat}: ∀ {H:List (Nat×AN)} {id:Nat} {b:AN},P4 N H→Af H id=some b→b.ge N
 | [],_,_,_,h=>by cases h
 |(k,c)::r,id,b,hg,h=>by
  simp only[Af]at h;split at h
  ·injection h with h;subst h;exact hg.1
  ·exact Li hg.2 h
def X6(T:BT)(N:Nat)(res:List ResultVar)(R:AV→List (Nat×AN)→Prop)(st:St):Prop:=
 match LQ T st res with
 |some (φ,l)=>φ∧(Pv l).ge N∧P4 N (BD N st.heap)∧R (Pv l) (BD N st.heap)
 |none=>False
def P5(T:BT)(N:Nat)(res:List ResultVar)(R:AV→List (Nat×AN)→Prop):Exit→St→Prop
 | .ret,st=>X6 T N res R st
 | .normal,st=>X6 T N res R st
 |_,_=>False
def Bu:List AV→List AV
 | []=> []
 |x::r=>x.strip::Bu r
theorem Bv: ∀cs,(Bu cs).length=cs.length
 | []=>rfl
 |x::r=>by simp[Bu,Bv r]
theorem Gc: ∀(cs:List AV) (j:Nat),j<cs.length→(Bu cs).getD j .top=(cs.getD j .top).strip
 | [],j,h=>by simp at h
 |x::r,0,h=>by simp[Bu]
 |x::r,j+1,h=>by simpa[Bu]using Gc r j (by simpa using h)
def O1(P:Program)(T:BT)(dst:Option Nat)(op:Op)(K:St→Prop)(st:St):Prop:=
 match A6 st.ev op with
 |some (ψ,k,args)=>(ψ∧EX args)∧ ∃(fn:Func) (c:Code) (N:Nat),P.funcs[k]? =some fn∧fn.body=some c∧(fn.name== "runtime.NumGoroutine")=false∧args.length≤fn.ntmps∧fn.ntmps≤N∧
   ∀B w0,BY P fn.ntmps B w0 c (P5 T N fn.results.toList fun r H=>K (St.put ⟨st.env,H⟩ dst r)) ⟨EZ 0 (Bu args),st.heap⟩
 |none=>False
theorem gS{P:Program}{T:BT}(hT:T.ok P){n B:Nat}{w0:AT}{st:St}{a:Act}{w:World}{ρ:Nat→Option Value}{I:Nat→Prop}{fn:Func}(hG:B3 n B w0 st a w ρ I){φ:Prop}{l:List AV}(hl:LQ T st fn.results.toList=some (φ,l))(hφ:φ):
  ∃v,(results fn a.tmps).run P w=.ok v w∧AL B I w ρ (Pv l) v:=by
 obtain⟨vs,h1,h2⟩:=JU hT hG fn.results.toList hl hφ;refine⟨if h:vs.toArray.size=1 then vs.toArray[0]else .tuple vs.toArray,?_,?_⟩
 ·unfold results
  have:(fn.results.mapM fun r=>match r with| .tmp t=>pure (a.tmps.getD t undef)| .cell x t=>do loadVar t (←asAddr (a.tmps.getD x undef)):Sem (Array Value)).run P w=.ok vs.toArray w:=by
   rw[Array.mapM_eq_mapM_toList,←bind_pure_comp];simp only[Sem.run_bind,Sem.run_pure];exact congrArg (fun q:Result (List Value)=>q.andThen fun a w'=>Result.ok a.toArray w') h1
  simp only[Sem.run_bind,Sem.run_pure];exact congrArg (fun q:Result (Array Value)=>q.andThen fun vs w'=>Result.ok (if h:vs.size=1 then vs[0]else Value.tuple vs) w') this
 ·match l,vs,h2 with
  | [x],[v],h2=>simpa[Pv]using h2.2 0 (by simp)
  | [],[],h2=>exact .t _ _ (by simp) (fun j hj=>by simp at hj)
  |x::y::l,v::u::vs,h2=>
   rw[dif_neg (by simp)];exact .t _ _ (by simpa using h2.1) (fun j hj=>by have:=h2.2 j hj;simpa[Zlg,Zag]using this)
  | [],_::_,h2=>exact absurd h2.1 (by simp)
  | [_],[],h2=>exact absurd h2.1 (by simp)
  | [_],_::_::_,h2=>exact absurd h2.1 (by simp)
  |_::_::_,[],h2=>exact absurd h2.1 (by simp)
  |_::_::_,[_],h2=>exact absurd h2.1 (by simp)
mutual
def AV.ids(p:Nat→Prop):AV→Prop
 | .v _=>True
 | .s id=>p id
 | .w id _ _=>p id
 | .p id _=>p id
 | .i _ _ _ _ _=>True
 | .q _ _ _ _ _=>True
 | .a cs=>AV.Av p cs
 | .t cs=>AV.Av p cs
 | .f _ cs=>AV.Av p cs
 | .g _ x=>AV.ids p x
 | .o=>True
 | .top=>True
def AV.Av(p:Nat→Prop):List AV→Prop
 | []=>True
 |x::r=>AV.ids p x∧AV.Av p r
end
theorem Cc{p:Nat→Prop}: ∀ {cs:List AV} (_:AV.Av p cs) (j:Nat),(cs.getD j .top).ids p
 | [],_,_=>by simp[AV.ids]
 |x::r,h,0=>by simp only[AV.Av]at h;simpa using h.1
 |x::r,h,j+1=>by simp only[AV.Av]at h;simpa using Cc h.2 j
theorem AL.ids{p:Nat→Prop}{B:Nat}{I:Nat→Prop}{w:World}{ρ:Nat→Option Value}{x:AV}{u:Value}(h:AL B I w ρ x u):x.ids p→ ∀ρ',(∀id,p id→ρ' id=ρ id)→AL B I w ρ' x u:=by
 induction h with
 |v x=>intro _ ρ' _;exact .v x
 |s id x h h1=>intro hg ρ' hr;rw[AV.ids]at hg;exact .s id x (by rw[hr id hg];exact h) h1
 |w id off len cap A x h BW hA=>intro hg ρ' hr;rw[AV.ids]at hg;exact .w id off len cap A x (by rw[hr id hg];exact h) BW hA
 |p id off b x h hb=>intro hg ρ' hr;rw[AV.ids]at hg;exact .p id off b x (by rw[hr id hg];exact h) hb
 |i fr c sz off len cap A u BW hA hc ih=>intro _ ρ' _;exact .i fr c sz off len cap A u BW hA hc
 |q fr c sz e f ad u h2 h3 Bf hc ih=>intro _ ρ' _;exact .q fr c sz e f ad u h2 h3 Bf hc
 |a cs us hl h ih=>intro hg ρ' hr;rw[AV.ids]at hg;exact .a cs us hl fun j hj=>ih j hj (Cc hg j) ρ' hr
 |t cs us hl h ih=>intro hg ρ' hr;rw[AV.ids]at hg;exact .t cs us hl fun j hj=>ih j hj (Cc hg j) ρ' hr
 |f fn cs us hl h ih=>intro hg ρ' hr;rw[AV.ids]at hg;exact .f fn cs us hl fun j hj=>ih j hj (Cc hg j) ρ' hr
 |g b x u h h0 ih=>intro hg ρ' hr;rw[AV.ids]at hg;exact .g b x u (fun hb=>ih hb hg ρ' hr) h0
 |o u h1=>intro _ ρ' _;exact .o u h1
 |top u=>intro _ ρ' _;exact .top u
def Bg(p:Nat→Prop):List (Nat×AV)→Prop
 | []=>True
 |(_,x)::r=>x.ids p∧Bg p r
theorem MP{p:Nat→Prop}: ∀ {E:List (Nat×AV)},Bg p E→ ∀s,(lk E s).ids p
 | [],_,s=>by simp[lk,AV.ids]
 |(k,x)::r,h,s=>by
  simp only[lk];split
  ·exact h.1
  ·exact MP h.2 s
theorem resume{n B N M:Nat}{w0 w0':AT}{st st':St}{a a':Act}{w w':World}{n':Nat}{ρ ρ':Nat→Option Value}{I I':Nat→Prop}(hM:Bg (· <M) st.env)
  (hG:B3 n B w0 st a w ρ I) (Cj:B3 n' B w0' st' a' w' ρ' I') (U2: ∀id,N≤id→id<M→ρ' id=ρ id) (bP: ∀id,M≤id→w0.gh id=none)
  (FK: ∀b,I b→I' b∧w'.heap[b]? =w.heap[b]?) (Pf: ∀b,I' b→I b∨B≤b) (Jo:Below B w w') (Xn:P4 N (BD N st'.heap)):
  B3 n B w0 ⟨st.env,BD N st'.heap⟩ a w' (fun id=>if id<N then ρ id else ρ' id) I':=by
 have h1: ∀id,N≤id→(if id<N then ρ id else ρ' id)=ρ' id:=fun id h=>if_neg Zo;refine⟨hG.defers.mono FK,hG.size,fun s=>?_,⟨fun id blk hk=>?_,fun id id' b1 b2 x x' b CD k1 k2 hx CP hb=>?_,fun id blk x b hk hx hb=>?_,Cj.hw.lt⟩,hG.below.trans Jo,Cj.base,⟨fun b hb=>?_,fun id x hx=>?_,hG.BQ.JQ,fun b hb=>?_⟩⟩
 ·refine(((hG.env s).mono (Nat.le_refl _) FK ρ (fun _ _ h=>h)).ids (MP hM s) _ fun id hid=>?_);show(if id<N then ρ id else ρ' id)=ρ id;split
  ·rfl
  ·exact U2 id Zo hid
 ·obtain⟨hid,F7⟩:=Ee hk;obtain⟨x,hx,Ae⟩:=Cj.hw.ok id blk F7;refine⟨x,by rw[h1 id hid];exact hx,?_⟩;cases blk with
  |box t c=>
   obtain⟨b,us,rfl,hB,hh,hl,hc⟩:=Ae;exact⟨b,us,rfl,hB,hh,hl,fun j u hu=>(hc j u hu).ge (AH.SX (Li Xn hk) j) _ h1⟩
  |row e sz c=>exact Ae
  |mp c=>exact Ae
  |DN kd ks c=>
   obtain⟨b,BJ,rfl,hB,hm,hl,C0,hc⟩:=Ae;exact⟨b,BJ,rfl,hB,hm,hl,C0,fun j u hu=>(hc j u hu).ge (AH.SX (Li Xn hk) j) _ h1⟩
  |FD e c=>
   obtain⟨m,xs,ho,hl,hc⟩:=Ae;exact⟨m,xs,ho,hl,fun j u hu=>(hc j u hu).ge (AH.SX (Li Xn hk) j) _ h1⟩
 ·obtain⟨i1,k1'⟩:=Ee k1;obtain⟨i2,k2'⟩:=Ee k2;exact Cj.hw.apart id id' b1 b2 x x' b CD k1' k2' (by rw[←h1 id i1];exact hx) (by rw[←h1 id' i2];exact CP) hb
 ·obtain⟨i1,k1'⟩:=Ee hk;exact Cj.hw.J2 id blk x b k1' (by rw[←h1 id i1];exact hx) hb
 ·rcases Pf b hb with h|h
  ·exact hG.BQ.up b h
  ·exact .inr h
 ·by_cases e1:id<N
  ·show(if id<N then ρ id else ρ' id)=x;rw[if_pos e1];exact hG.BQ.gh id x hx
  ·show(if id<N then ρ id else ρ' id)=x;rw[if_neg e1];by_cases e2:id<M
   ·rw[U2 id Zo e2];exact hG.BQ.gh id x hx
   ·rw[bP id Zo]at hx;cases hx
 ·obtain⟨g1,g2⟩:=hG.BQ.B2 b hb;obtain⟨g3,g4⟩:=FK b g1;exact⟨g3,g4.trans g2⟩
theorem gT{n' N M B:Nat}{w0:AT}{n:Nat}{st:St}{a:Act}{w:World}{ρ:Nat→Option Value}{I:Nat→Prop}(hG:B3 n B w0 st a w ρ I){args:List AV}{vs:Array Value}(RH:At B I w ρ args vs.toList)(La:EX args)(hle:args.length≤n')(hnN:n'≤N):
  B3 n' B ⟨w,I,fun id=>if N≤id∧id<M then some (ρ id)else none,[],none,hG.gl⟩ ⟨EZ 0 (Bu args),st.heap⟩ {tmps:=vs++Array.replicate (n' - vs.size) undef,defers:= []} w ρ I:=by
 have Bh:vs.size=args.length:=by rw[←Array.length_toList,RH.1]
 refine⟨Marks.nil,by simp;omega,fun s=>Kq ⟨by rw[Bv];exact RH.1,fun j hj=>?_⟩ s,hG.hw,Below.refl _ _,hG.base,⟨fun b hb=>.inl hb,fun id x hx=>?_,fun d hd=>if_neg Zo,fun b hb=>⟨hb,rfl⟩⟩⟩
 ·rw[Bv]at hj;rw[Gc _ _ hj];exact(RH.2 j hj).strip (FP La j)
 ·simp only at hx;split at hx
  ·injection hx
  ·cases hx
theorem qi{P:Program}{T:BT}(hT:T.ok P){n B:Nat}{w0:AT}{st:St}{a:Act}{w:World}{ρ:Nat→Option Value}{I:Nat→Prop}(hG:B3 n B w0 st a w ρ I){o:Oper}(hd:As n o.dst){K:St→Prop}(h:O1 P T o.dst o.op K st):C1 P n B w0 o a w K:=by
 intro next Q hn
 unfold O1 at h;split at h
 ·rename_i ψ k args Iu;obtain⟨⟨hψ,La⟩,fn,c,N,hf,hb,Em,hle,hnN,hA⟩:=h;obtain⟨vs,B1,RH⟩:=JT (fun x=>hG.ev x) Iu hψ hf Em (by rw[hb];rfl);unfold Oper.wp;rw[B1,Oper.upon_enter];have Bh:vs.size=args.length:=by rw[←Array.length_toList,RH.1]
  refine JV (w0:=⟨w,I,fun id=>if N≤id then some (ρ id)else none,[],none,hG.gl⟩) hf hb rfl rfl (hA B _) ⟨ρ,I,?_⟩ fun e st' a' w' ρ' I' h1 Cj=>?_
  ·refine⟨Marks.nil,by simp;omega,fun s=>Kq ⟨by rw[Bv];exact RH.1,fun j hj=>?_⟩ s,hG.hw,Below.refl _ _,hG.base,⟨fun b hb=>.inl hb,fun id x hx=>?_,fun d hd=>if_neg Zo,fun b hb=>⟨hb,rfl⟩⟩⟩
   ·rw[Bv]at hj;rw[Gc _ _ hj];exact(RH.2 j hj).strip (FP La j)
   ·simp only at hx;split at hx
    ·injection hx
    ·cases hx
  ·have key:X6 T N fn.results.toList (fun r H=>K (St.put ⟨st.env,H⟩ o.dst r)) st'→ ∃v,(results fn a'.tmps).run P w'=.ok v w'∧next (a.put o.dst v) w':=fun Du=>by
    unfold X6 at Du;split at Du
    ·rename_i φ l hl;obtain⟨hφ,Xn,eg,hK⟩:=Du;obtain⟨v,h2,h3⟩:=gS hT Cj hl hφ;refine⟨v,h2,?_⟩;have hρ: ∀id,N≤id→ρ id=ρ' id:=fun id hid=>(Cj.BQ.gh id (ρ id) (if_pos hid)).symm;refine hn _ _ _ hK ⟨ρ,I',B3.put (st:=⟨st.env,BD N st'.heap⟩) (d:=o.dst) ⟨hG.defers.mono Cj.BQ.B2,hG.size,fun s=>(hG.env s).mono (Nat.le_refl _) Cj.BQ.B2 ρ (fun _ _ h=>h),⟨fun id blk hk=>?_,fun id id' b1 b2 x x' b CD k1 k2 hx CP hb=>?_,fun id blk x b hk hx hb=>?_,Cj.hw.lt⟩,hG.below.trans Cj.below,Cj.base,⟨fun b hb=>?_,hG.BQ.gh,hG.BQ.JQ,fun b hb=>?_⟩⟩ (fun k hk=>by rw[hk]at hd;exact hd) (h3.ge Xn ρ hρ)⟩
     ·obtain⟨hid,F7⟩:=Ee hk;obtain⟨x,hx,Ae⟩:=Cj.hw.ok id blk F7;refine⟨x,by rw[hρ id hid];exact hx,?_⟩;cases blk with
      |box t c=>
       obtain⟨b,us,rfl,hB,hh,hl,hc⟩:=Ae;exact⟨b,us,rfl,hB,hh,hl,fun j u hu=>(hc j u hu).ge (AH.SX (Li eg hk) j) ρ hρ⟩
      |row e sz c=>exact Ae
      |mp c=>exact Ae
      |DN kd ks c=>
       obtain⟨b,BJ,rfl,hB,hm,hl,C0,hc⟩:=Ae;exact⟨b,BJ,rfl,hB,hm,hl,C0,fun j u hu=>(hc j u hu).ge (AH.SX (Li eg hk) j) ρ hρ⟩
      |FD e c=>
       obtain⟨m,xs,ho,hl,hc⟩:=Ae;exact⟨m,xs,ho,hl,fun j u hu=>(hc j u hu).ge (AH.SX (Li eg hk) j) ρ hρ⟩
     ·obtain⟨i1,k1'⟩:=Ee k1;obtain⟨i2,k2'⟩:=Ee k2;exact Cj.hw.apart id id' b1 b2 x x' b CD k1' k2' (by rw[←hρ id i1];exact hx) (by rw[←hρ id' i2];exact CP) hb
     ·obtain⟨i1,k1'⟩:=Ee hk;exact Cj.hw.J2 id blk x b k1' (by rw[←hρ id i1];exact hx) hb
     ·rcases Cj.BQ.up b hb with h|h
      ·exact hG.BQ.up b h
      ·exact .inr h
     ·obtain⟨g1,g2⟩:=hG.BQ.B2 b hb;obtain⟨g3,g4⟩:=Cj.BQ.B2 b g1;exact⟨g3,g4.trans g2⟩
    ·exact Du.elim
   cases e with
   |ret=>exact⟨.inl rfl,key h1⟩
   |normal=>exact⟨.inr rfl,key h1⟩
   |_=>exact h1.elim
 ·exact h.elim
def AV.x7(k:Nat):AV→AV
 | .v x=>.v x
 | .s id=>.s (id+k)
 | .w id off len=>.w (id+k) off len
 | .p id off=>.p (id+k) off
 | .i fr c sz off len=>.i fr c sz off len
 | .q fr c sz e j=>.q fr c sz e j
 | .a cs=>.a (gU k cs)
 | .t cs=>.t (gU k cs)
 | .f fn cs=>.f fn (gU k cs)
 | .g b x=>.g b (AV.x7 k x)
 | .o=>.o
 | .top=>.top
where gU (k:Nat):List AV→List AV
 | []=> []
 |x::r=>AV.x7 k x::gU k r
attribute [push_cast] AV.x7 AV.x7.gU O1 AV.ids AV.Av Bg P5 X6 Bu BD P4 AV.ge AV.Lh AH.ge AN.ge
theorem G.cont{n B:Nat}{w0:AT}{st:St}{a:Act}{w:World}(hG:G n B w0 st a w)(d:Nat)(t:TypeId)(c c':AH)(hk:Af st.heap d=some (.box t c))(hl:c'.len=c.len)(hc: ∀j,j<c.len→c'.at j=c.at j∨c'.at j=.top):G n B w0 ⟨st.env,(d,.box t c')::st.heap⟩ a w:=by
 obtain⟨ρ,I,h⟩:=hG;obtain⟨x,hx,Ae⟩:=h.hw.ok d _ hk;refine⟨ρ,I,h.store hk hx ?_ (Below.refl _ _) (fun _ _=>rfl)⟩;obtain⟨b,us,rfl,hB,hh,C0,FE⟩:=Ae;refine⟨b,us,rfl,hB,hh,by rw[hl];exact C0,fun j u hu=>?_⟩;have hj:j<us.size:=(Array.getElem?_eq_some_iff.1 hu).1;rcases hc j Zo with e|e
 ·rw[e];exact FE j u hu
 ·rw[e];exact .top _
theorem gV{P:Program}{n B:Nat}{w0:AT}{cd:Code}{Q:Exit→St→Prop}{st:St}(d:Nat)(t:TypeId)(c c':AH)(hk:Af st.heap d=some (.box t c))(hl:c'.len=c.len)(hc: ∀j,j<c.len→c'.at j=c.at j∨c'.at j=.top)(h:BY P n B w0 cd Q ⟨st.env,(d,.box t c')::st.heap⟩):BY P n B w0 cd Q st:=fun a w hG=>h a w (hG.cont d t c c' hk hl hc)
section
variable{P:Program}{T:BT}(hT:T.ok P){n B:Nat}{w0:AT}{st:St}{a:Act}{w:World}{ρ:Nat→Option Value}{I:Nat→Prop}
def O2(T:BT)(dst:Option Nat)(op:Op)(K:St→Prop)(st:St):Prop:=
 match op,dst with
 | .makeSlice t l c,some d=>
  match T t,(st.ev l).strip,(st.ev c).strip with
  |some ⟨.sl e,_,_,_⟩,.v (.int _ nl),.v (.int _ nc)=>
   match T e with
   |some te=>((st.ev l).cond∧(st.ev c).cond∧0≤nl∧nl=nc∧(te.Zz1:Int)*nc≤281474976710656∧nc≤9223372036854775807)∧K ⟨(d,.s d)::CM d st.env,(d,.row e te.sz (.AF (List.replicate (nl.toNat*te.sz) .top)))::AJ d st.heap⟩
   |none=>False
  |_,_,_=>False
 |_,_=>False
include hT in
theorem X7(hG:B3 n B w0 st a w ρ I){o:Oper}(hd:As n o.dst){K:St→Prop}(h:O2 T o.dst o.op K st):C1 P n B w0 o a w K:=by
 intro next Q hn
 unfold O2 at h;split at h
 ·rename_i t l c d ho DD;split at h
  ·rename_i e _ _ _ k1 nl k2 nc ht hl hc;have hu:P.underlying t=some (.slice e):=(hT _ _ ht).kind;split at h
   ·rename_i te EP;obtain⟨inf,Hz,HH,Pe,hz⟩:=(hT _ _ EP).info;obtain⟨⟨c1,c2,h0,rfl,RJ,zI⟩,hK⟩:=h;have e1:=(hG.ev l).strip c1;have e2:=(hG.ev c).strip c2;rw[hl]at e1;rw[hc]at e2
    have e1:=e1.Ao;have e2:=e2.Ao;have hr:=run_make (P:=P) w t e inf te.z hu Hz hz k1 k2 nl nl h0 (Int.le_refl _) (by rw[Pe];exact RJ) zI;unfold Oper.wp
    have B1:(execOp a.eval o).run P w=.ok (.value (.slice (some ⟨w.heap.size,0,none⟩) nl.toNat nl.toNat)) (w.alloc (.cells (madeCells te.z.cells (nl.toNat*inf.size)) e)):=by
     simp only[execOp,ho,e1,e2,Sem.run_bind,hr,Result.andThen_ok,Sem.run_pure]
    rw[B1,Oper.upon_value,DD];have hb:Below w.heap.size w (w.alloc (.cells (madeCells te.z.cells (nl.toNat*inf.size)) e)):=(Below.refl _ _).alloc (Nat.le_refl _) _
    have DE:(w.alloc (.cells (madeCells te.z.cells (nl.toNat*inf.size)) e)).ownsRow B e te.sz (.slice (some ⟨w.heap.size,0,none⟩) nl.toNat nl.toNat) nl.toNat ((madeCells te.z.cells (nl.toNat*inf.size)).toList.take (nl.toNat*te.sz)):=by
     refine⟨?_,.inr ⟨w.heap.size,nl.toNat,_,rfl,hG.base,heap_alloc_new w _,Zo,by simp only[maxLen];omega,by rw[size_madeCells,HH],rfl⟩⟩;rw[List.length_take,Array.length_toList,size_madeCells,HH];omega
    refine hn _ _ _ hK (Ox hG d (by rw[DD]at hd;exact hd) hb DE (fun b hr=>by simp[Ab]at hr;omega) _ (by simp[AH.len]) fun j u hu=>?_)
    have:(AH.AF (List.replicate (nl.toNat*te.sz) AV.top)).at j=.top:=by
     simp only[AH.at,Zlg];by_cases hj:j<nl.toNat*te.sz
     ·simp[hj]
     ·rw[List.getElem?_eq_none (by simp;omega)];rfl
    rw[this];exact .top _
   ·exact h.elim
  ·exact h.elim
 ·exact h.elim
theorem Rf(w:World)(dT sT ty elem:TypeId)(g o dLen dCap:Nat)(a:Addr)(sLen sCap size m:Nat)(cur:Array Value)(t:TypeId)(cs:List Value)
  (hu:P.underlying dT=some (.slice elem)) (hs:(P.info? elem).map (·.size)=some size)
  (hg:w.heap[g]? =some (.cells cur t (0,0))) (hm:Nat.min sLen dLen=m) (hn:cs.length=m*size)
  (XR: ∀j v,cs[j]? =some v→w.cell? (a.add j)=some v) (zQ:o+cs.length≤cur.size) (h1: ∀v∈cs,v.oneCell'=true):
  (Builtin.copy_ #[dT,sT] ty #[.slice (some ⟨g,o,none⟩) dLen dCap,.slice (some a) sLen sCap]).run P w=
   .ok (goInt m) (w.setRow g (cur.toList.take o++cs++cur.toList.drop (o+cs.length)).toArray):=by
 have hl:=run_loadCells_list (P:=P) w a cs XR;have BE:=run_storeCells_at P g o t cs 0 cur w hg (by simpa using zQ) h1;rw[hn]at hl;cases hq:P.info? elem with
 |none=>simp[hq]at hs
 |some i=>
  have hi:i.size=size:=by simpa[hq]using hs
  simp[Builtin.copy_,run_underlying hu,Builtin.lenOf,Builtin.firstCells,sizeOf,typeInfo,hq,hi,hm,hl,BE]
def O3(T:BT)(dst:Option Nat)(op:Op)(K:St→Prop)(st:St):Prop:=
 match op with
 | .call c=>
  match c.callee,c.args.toList,c.argTypes.toList with
  | .builtin .copy,[x,y],[t,_]=>
   match T t,(st.ev x).strip,(st.ev y).strip with
   |some ⟨.sl e,_,_,_⟩,.s id,.w id2 off len=>
    match T e,Af st.heap id,Af st.heap id2 with
    |some te,some (.row e' sz c),some (.box _ c2)=>
     ∃c':AH,((st.ev x).cond∧(st.ev y).cond∧sz=te.sz∧0<sz∧c.len=len*te.sz∧off+len*te.sz≤c2.len∧c'.len=c.len∧(∀j,j<c.len→c'.at j=c2.at (off+j))∧qh c'∧(∀j,j<c.len→(c'.at j).one=true))∧K (St.put ⟨st.env,(id,.row e' sz c')::st.heap⟩ dst (.v (.int .i64 len)))
    |_,_,_=>False
   |_,_,_=>False
  |_,_,_=>False
 |_=>False
include hT in
theorem X8(hG:B3 n B w0 st a w ρ I){o:Oper}(hd:As n o.dst){K:St→Prop}(h:O3 T o.dst o.op K st):C1 P n B w0 o a w K:=by
 intro next Q hn
 unfold O3 at h;split at h
 ·rename_i c ho;split at h
  ·rename_i x y t t' Iu DM tU;split at h
   ·rename_i e _ _ _ id id2 off len ht hx hy;have hu:P.underlying t=some (.slice e):=(hT _ _ ht).kind;split at h
    ·rename_i te e' sz c0 tb c2 EP hk El;obtain⟨inf,Hz,HH,Pe,hz⟩:=(hT _ _ EP).info;obtain⟨c',⟨k1,k2,rfl,F1,hl,C0,uS,N3,HJ,R9⟩,hK⟩:=h
     have E4:o.op=.call ⟨.builtin .copy,#[x,y],#[t,t']⟩:=by
      rw[ho];obtain⟨cc,ca,ct⟩:=c;simp only at Iu DM tU;subst Iu;have e1:ca= #[x,y]:=by cases ca;simp_all
      have e2:ct= #[t,t']:=by cases ct;simp_all
      rw[e1,e2]
     have vx:=(hG.ev x).strip k1;have vy:=(hG.ev y).strip k2;rw[hx]at vx;rw[hy]at vy
     generalize XP:a.eval x=xv at vx;generalize fV:a.eval y=yv at vy;cases vx with
     |s _ _ yN hox=>
      cases vy with
      |w _ _ _ cap A xx yO BW hA=>
       obtain⟨x',CP,Ae⟩:=hG.hw.ok id _ hk;rw[yN]at CP;injection CP with CP;subst CP
       obtain⟨m,xs,DE,hlen,FE⟩:=Ae;have hm:m=len:=Nat.eq_of_mul_eq_mul_right F1 (by rw[←hlen,hl]);subst hm;unfold Oper.wp;by_cases h0:m=0
       ·subst h0
        have B1:(execOp a.eval o).run P w=.ok (.value (.int .i64 0)) w:=by
         rcases DE.2 with ⟨rfl,_⟩|⟨g,cap',cur,rfl,_⟩
         ·cases A<;>simp[execOp,E4,XP,fV,resolve,builtin,Builtin.copy_,run_underlying hu,Builtin.lenOf,Builtin.firstCells,sizeOf,typeInfo,Hz,loadCells,loadCellsFrom,storeCells,goInt,Deferred.ofValue,invoke]
         ·cases A<;>simp[execOp,E4,XP,fV,resolve,builtin,Builtin.copy_,run_underlying hu,Builtin.lenOf,Builtin.firstCells,sizeOf,typeInfo,Hz,loadCells,loadCellsFrom,storeCells,goInt,Deferred.ofValue,invoke]
        rw[B1,Oper.upon_value];refine hn _ _ _ hK ⟨ρ,I,B3.put (st:=⟨st.env,(id,.row e' te.sz c')::st.heap⟩) (hG.store hk yN ⟨0,[],?_,by rw[uS,hl],fun j u hu=>by simp at hu⟩ (Below.refl _ _) (fun _ _=>rfl)) (fun k hk=>by rw[hk]at hd;exact hd) (.v _)⟩;have uX:xs= []:=List.eq_nil_of_length_eq_zero (by rw[DE.1];simp);rw[uX]at DE;exact DE
       ·have hmp:0<m*te.sz:=Nat.mul_pos Zo F1;rcases DE.2 with ⟨_,wN⟩|⟨g,cap',cur,rfl,hB,hh,ot,It,wT,TV⟩
        ·exact absurd wN h0
        obtain⟨b,hb,rfl⟩:=hA Zo;have Bf: ∀j,j<m*te.sz→ ∃u,w.cell? ⟨b,off+j,none⟩=some u∧AL B I w ρ (c2.at (off+j)) u:=fun j hj=>hG.hw.cell El yO hb (j:=off+j) (by show off+j<c2.len;omega)
        let f:Nat→Value:=fun j=>if hj:j<m*te.sz then Classical.choose (Bf j hj)else undef
        have hf: ∀j,j<m*te.sz→w.cell? ⟨b,off+j,none⟩=some (f j)∧AL B I w ρ (c2.at (off+j)) (f j):=fun j hj=>by
         show w.cell? _=some (if hj:j<m*te.sz then Classical.choose (Bf j hj)else undef)∧AL B I w ρ _ (if hj:j<m*te.sz then Classical.choose (Bf j hj)else undef);rw[dif_pos hj];exact Classical.choose_spec (Bf j hj)
        have N6: ∀j v,((List.range (m*te.sz)).map f)[j]? =some v→j<m*te.sz∧v=f j:=fun j v hv=>by
         have hj:j<m*te.sz:=by have:=(List.getElem?_eq_some_iff.1 hv).1;simpa using this
         refine⟨hj,?_⟩;rw[List.getElem?_map,List.getElem?_range hj]at hv;exact(Option.some.inj hv).symm
        have ABa:m*te.sz≤cap'*te.sz:=Nat.mul_le_mul_right _ ot;have bQ:((List.range (m*te.sz)).map f).length=m*te.sz:=by simp
        have hr:=Rf (P:=P) w t t' o.type e g 0 m cap' ⟨b,off,none⟩ m cap te.sz m cur e' ((List.range (m*te.sz)).map f) hu (by rw[Hz];simp[HH]) hh (Nat.min_self m) bQ (fun j v hv=>by
          obtain⟨hj,rfl⟩:=N6 j v hv;rw[By];exact(hf j hj).1) (by rw[bQ];omega) (fun v hv=>by
          obtain⟨j,hj,rfl⟩:=List.mem_map.1 hv;have hj:j<m*te.sz:=by simpa using hj
          rw[Ow];have h1:=(hf j hj).2;rw[←N3 j Zo]at h1;exact h1.one (R9 j Zo))
        have B1:(execOp a.eval o).run P w=.ok (.value (goInt m)) (w.setRow g (cur.toList.take 0++(List.range (m*te.sz)).map f++cur.toList.drop (0+((List.range (m*te.sz)).map f).length)).toArray):=by
         simp only[execOp,E4,XP,fV,resolve,builtin,Deferred.ofValue,invoke,Sem.run_bind,Sem.run_pure,Result.andThen_ok,List.map_toArray,List.map_cons,List.map_nil,hr]
        rw[B1,Oper.upon_value];have hI: ∀b1,I b1→b1≠g:=fun b1 h1 e=>by subst e;exact hG.hw.J2 id _ _ _ hk yN rfl h1
        refine hn _ _ _ hK ⟨ρ,I,B3.put (st:=⟨st.env,(id,.row e' te.sz c')::st.heap⟩) (hG.store hk yN ⟨m,(List.range (m*te.sz)).map f,⟨bQ,.inr ⟨g,cap',_,rfl,hB,IG w g _ cur e' hh,ot,It,?_,?_⟩⟩,by rw[uS,hl],fun j u hu=>?_⟩ (G5 (Below.refl _ _) hB _) (fun b1 Jy=>Di w _ _ _ (fun e=>Jy (by rw[e];rfl)))) (fun k hk=>by rw[hk]at hd;exact hd) (.v _)⟩
        ·simp;omega
        ·simp[bQ]
        ·obtain⟨hj,rfl⟩:=N6 j u hu;have h1:=(hf j hj).2;rw[←N3 j Zo]at h1;exact(h1.F5 (Zz4 HJ j)).same (fun b1 Jy=>Di w _ _ _ (Ne.symm (hI b1 Jy)))
    ·exact h.elim
   ·exact h.elim
  ·exact h.elim
 ·exact h.elim
end
def X9(P:Program)(T:BT)(n:Nat)(ops:Array Oper)(o:Oper)(K:St→Prop)(st:St):Prop:=
 Lg P T n ops o K st∨(o.guard=none∧As n o.dst∧(O1 P T o.dst o.op K st∨O2 T o.dst o.op K st∨O3 T o.dst o.op K st))
theorem bz{P:Program}{T:BT}(hT:T.ok P){n B:Nat}{w0:AT}{st:St}{a:Act}{w:World}{ρ:Nat→Option Value}{I:Nat→Prop}(hG:B3 n B w0 st a w ρ I){ops:Array Oper}{o:Oper}{K:St→Prop}(h:X9 P T n ops o K st)
  (next:Act→World→Prop) (Q:Exit→Act→World→Prop) (hn: ∀st' a' w',K st'→G n B w0 st' a' w'→next a' w'):
  if Region.wanted o (yielded ops a.tmps)then o.wp P a w next Q else next (a.put o.dst undef) w:=by
 rcases h with h|⟨hg,hd,h⟩
 ·exact SU hT hG h next Q hn
 ·have:Region.wanted o (yielded ops a.tmps)=true:=by
   have:=EY hG (ops:=ops) (o:=o) (g:=none) (by rw[hg];rfl);simpa using this
  rw[if_pos this];rcases h with h|h|h
  ·exact qi hT hG hd h next Q hn
  ·exact X7 hT hG hd h next Q hn
  ·exact X8 hT hG hd h next Q hn
theorem cA{P:Program}{T:BT}{n B:Nat}{w0:AT}{st:St}{a:Act}{w:World}{ρ:Nat→Option Value}{I:Nat→Prop}(hG:B3 n B w0 st a w ρ I){ops:Array Oper}{o:Oper}{K:St→Prop}(h:X9 P T n ops o K st)(hw:Region.wanted o (yielded ops a.tmps)=true): ∀c,o.op≠.defer c:=by
 rcases h with h|⟨_,_,h⟩
 ·exact SV hG h hw
 ·intro c hc;rw[hc]at h;rcases h with h|h|h
  ·exact h
  ·exact h
  ·exact h
attribute [push_cast] O2 O3
end Go.Ad
