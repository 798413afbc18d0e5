/- Part of a proof. -/
import Derived.Test.YthemnhjojaehhaaGreatDoorA15
set_option linter.all false
namespace Go.Ad
open Go.RowKit
def CW(gh:Nat→Option (Option Value)):Prop:=(∃M,∀id,M≤id→gh id=none)∧ ∀id,id<2000→id%2=1→gh id=none
theorem CW.none{gh:Nat→Option (Option Value)}(h: ∀id,gh id=none):CW gh:=⟨⟨0,fun id _=>h id⟩,fun id _ _=>h id⟩
def BS(P:Program)(T:BT)(f:FuncId)(args:List AV)(H:List (Nat×AN))(r:AV)(H':List (Nat×AN)):Prop:=
 ∃(fn:Func) (c:Code),P.funcs[f]? =some fn∧fn.body=some c∧(fn.name== "runtime.NumGoroutine")=false∧args.length≤fn.ntmps∧fn.ntmps≤1000∧
  ∀(B:Nat) (w0:AT) (Y:List (Nat×AN)) (R:AV→List (Nat×AN)→Prop),CW w0.gh→w0.rd=none→Dy 2000 Y→(∀Hx,(∀id b,Af (H'++Y) id=some b→Af Hx id=some b)→R r Hx)→
   BY P fn.ntmps B w0 c (P5 T 1000 fn.results.toList R) ⟨EZ 0 args,H++Y⟩
theorem qm{P:Program}{T:BT}{n:Nat}{f:FuncId}{fn:Func}{c:Code}{res:List ResultVar}{args:List AV}{H:List (Nat×AN)}{r:AV}{H':List (Nat×AN)}(hf:P.funcs[f]? =some fn)(hb:fn.body=some c)(Em:(fn.name== "runtime.NumGoroutine")=false)(M7:fn.results.toList=res)(hn:fn.ntmps=n)(hle:args.length≤n)(hN:n≤1000)
  (h: ∀(B:Nat) (w0:AT) (Y:List (Nat×AN)) (R:AV→List (Nat×AN)→Prop),CW w0.gh→w0.rd=none→Dy 2000 Y→(∀d,d<1000→AJ d Y=Y)→BD 1000 Y=Y→P4 1000 Y→(∀Hx,(∀id b,Af (H'++Y) id=some b→Af Hx id=some b)→R r Hx)→
   BY P n B w0 c (P5 T 1000 res R) ⟨EZ 0 args,H++Y⟩):BS P T f args H r H':=by
 subst M7;subst hn
 exact⟨fn,c,hf,hb,Em,hle,hN,fun B w0 Y R hg Az hY hR=>h B w0 Y R hg Az hY (fun d hd=>hY.kill Zo) (hY.B2 Zo) (hY.ge Zo) hR⟩
def okF(H H':List (Nat×AN))(args:List AV)(r:AV):Prop:=
 (∀id b,Af H id=some b→(1000≤id∧id<2000)∧b.ids (fun j=>Af H j≠none))∧(∀id,Af H' id=none↔Af H id=none)∧(∀id b,Af H' id=some b→b.ids (fun j=>Af H j≠none))∧r.ids (fun j=>Af H j≠none)∧AV.Av (fun j=>Af H j≠none) args
def Dz(H:List (Nat×AN))(id:Nat):Prop:=Af H id=none∨id%2=0
def LS(gf:Bool)(r:AV):AV:=if gf then .g true r else r
theorem gk{B:Nat}{I:Nat→Prop}{w:World}{ρ:Nat→Option Value}{gf:Bool}{r:AV}{u:Value}(h:AL B I w ρ r u):AL B I w ρ (LS gf r) u:=by
 cases gf with
 |false=>exact h
 |true=>exact .g true r u (fun _=>h) (fun h=>by cases h)
def FunC(P:Program)(T:BT)(f:FuncId)(args:List AV)(H:List (Nat×AN))(r:AV)(H':List (Nat×AN)):Prop:=
 ∃(fn:Func) (c:Code),P.funcs[f]? =some fn∧fn.body=some c∧(fn.name== "runtime.NumGoroutine")=false∧args.length≤fn.ntmps∧fn.ntmps≤1000∧
  ∀(B:Nat) (w0:AT) (Y:List (Nat×AN)) (R:AV→List (Nat×AN)→Prop),CW w0.gh→w0.rd=none→w0.ds= []→Dy 2000 Y→(∀Hx,(∀id b,Af (H'++Y) id=some b→Af Hx id=some b)→R r Hx)→
   ∀(vs:Array Value) (w:World),G fn.ntmps B w0 ⟨EZ 0 args,H++Y⟩ {tmps:=vs++Array.replicate (fn.ntmps - vs.size) undef,defers:= []} w→ ∀ {R':Ending→World→Prop},(∀e st' a' w' ρ I,P5 T 1000 fn.results.toList R e st'→B3 fn.ntmps B w0 st' a' w' ρ I→(e=.ret∨e=.normal)∧ ∃v,(results fn a'.tmps).run P w'=.ok v w'∧R' (.returned v) w')→Calls P f vs w R'
theorem BS.c{P:Program}{T:BT}{f:FuncId}{args:List AV}{H:List (Nat×AN)}{r:AV}{H':List (Nat×AN)}(h:BS P T f args H r H'):FunC P T f args H r H':=by
 obtain⟨fn,c,hf,hb,Em,hle,hN,hA⟩:=h;exact⟨fn,c,hf,hb,Em,hle,hN,fun B w0 Y R h1 h2 h3 h4 h5 vs w hG _ CB=>JV hf hb h2 h3 (hA B w0 Y R h1 h2 h4 h5) hG CB⟩
def qn(H H':List (Nat×AN))(args:List AV)(r:AV)(st:St):Prop:=
 (∀id b,Af H id=some b→(1000≤id∧id<2000)∧b.ids (fun j=>Af H j≠none))∧(∀id,Af H' id=none→Af H id=none)∧(∀id b,Af H' id=some b→(1000≤id∧id<2000)∧b.ids (fun j=>Af H' j≠none))∧r.ids (fun j=>Af H' j≠none)∧AV.Av (fun j=>Af H j≠none) args∧(∀id,Af H' id≠none→Af H id=none→id%2=1∧Af st.heap id=none)
theorem okF.nw{H H':List (Nat×AN)}{args:List AV}{r:AV}(st:St)(h:okF H H' args r):qn H H' args r st:=by
 obtain⟨h1,h2,h3,h4,h5⟩:=h;have ne: ∀j,Af H j≠none→Af H' j≠none:=fun j hj e=>hj ((h2 j).1 e);refine⟨h1,fun id h=>(h2 id).1 h,fun id b hb=>⟨?_,Ma ne (h3 id b hb)⟩,Vi ne r h4,h5,fun id g1 g2=>absurd ((h2 id).2 g2) g1⟩;cases hh:Af H id with
 |none=>rw[(h2 id).2 hh]at hb;cases hb
 |some b2=>exact(h1 id b2 hh).1
theorem keptId_iff{H H':List (Nat×AN)}(h: ∀id,Af H' id=none↔Af H id=none):Dz H'=Dz H:=by
 funext id;unfold Dz;rw[propext (h id)]
def FunCStep(P:Program)(T:BT)(gf:Bool)(dst:Option Nat)(op:Op)(K:St→Prop)(st:St):Prop:=
 match A6 st.ev op with
 |some (ψ,k,args)=>(ψ∧EX args)∧ ∃H r H',FunC P T k (Bu args) H r H'∧qn H H' (Bu args) r st∧(∀id b,Af H id=some b→Af st.heap id=some b)∧Bg (Dz H') st.env∧(∀id b,Af H' id=none→Af st.heap id=some b→b.ids (Dz H'))∧K (St.put ⟨st.env,H'++st.heap⟩ dst (LS gf r))
 |none=>False
theorem funCStep_ok{P:Program}{T:BT}(hT:T.ok P){n B:Nat}{w0:AT}{st:St}{a:Act}{w:World}{ρ:Nat→Option Value}{I:Nat→Prop}(hG:B3 n B w0 st a w ρ I)(Am:CW w0.gh){o:Oper}(hd:As n o.dst){gf:Bool}{K:St→Prop}(h:FunCStep P T gf o.dst o.op K st):C1 P n B w0 o a w K:=by
 intro next Q hn
 unfold FunCStep at h;split at h<;>first|exact h.elim|skip
 rename_i ψ kf args Iu;obtain⟨⟨hψ,La⟩,H,r,H',⟨fn,c,hf,hb,Em,hle,hN,hA⟩,⟨tX,zR,zS,hr,DM,XO⟩,Ct,hkE,hkH,hK⟩:=h;obtain⟨vs,B1,RH⟩:=JT (fun x=>hG.ev x) Iu hψ hf Em (by rw[hb];rfl);rw[Bv]at hle;unfold Oper.wp;rw[B1,Oper.upon_enter];obtain⟨N,hNd⟩: ∃N,N=x8 st.heap+2000:=⟨_,rfl⟩;obtain⟨k,hk⟩: ∃k,k=N:=⟨_,rfl⟩;have kr:Bz (· <N) st.heap:=Zz Zo;have bS:Bz (· <N) (QE H st.heap):=NU kr;obtain⟨Y,zT⟩: ∃Y,Y=pT N k (QE H st.heap):=⟨_,rfl⟩;have mvI_lt: ∀id,id<N→Sa N k id=id+k:=fun id h=>by unfold Sa;rw[if_pos h]
 obtain⟨ρc,hρc⟩: ∃ρc:Nat→Option Value,ρc=fun j=>if k≤j∧j<k+N then ρ (j - k)else ρ j:=⟨_,rfl⟩
 have ρc_lo: ∀id,id<k→ρc id=ρ id:=fun id h=>by rw[hρc];exact if_neg Zo
 have ρc_hi: ∀id,id<N→ρc (id+k)=ρ id:=fun id h=>by rw[hρc];show(if k≤id+k∧id+k<k+N then ρ (id+k - k)else _)=_;rw[if_pos Zo];congr 1;omega
 have ρc_mv: ∀id,(id<k∨k+N≤id)→ρc (Sa N k id)=ρ id:=fun id hid=>by
  rcases Nat.lt_or_ge id N with h|h
  ·rw[mvI_lt id h];exact ρc_hi id h
  ·have:Sa N k id=id:=by unfold Sa;rw[if_neg Zo]
   rw[this,hρc];exact if_neg Zo
 have qF:Bz (fun id=>id<k∨k+N≤id) (QE H st.heap):=by
  have key: ∀ {F:List (Nat×AN)},Bz (· <N) F→Bz (fun id=>id<k∨k+N≤id) F:=fun{F}=>by
   induction F with
   |nil=>intro _;trivial
   |cons p r ih=>
    obtain⟨d,b⟩:=p;intro h;refine⟨by have:=h.1;show d<k∨k+N≤d;omega,?_,ih h.2.2⟩;have J4:=h.2.1;cases b with
    |box t c=>cases c with
     |AF l=>exact Cw (fun id h=>.inl Zo) l J4
     |_=>trivial
    |FD t c=>cases c with
     |AF l=>exact Cw (fun id h=>.inl Zo) l J4
     |_=>trivial
    |DN kd ks c=>cases c with
     |AF l=>exact Cw (fun id h=>.inl Zo) l J4
     |_=>trivial
    |row e sz c=>trivial
    |mp c=>trivial
  exact key bS
 have zU:Dy 2000 Y:=by
  rw[zT]
  have keyL: ∀(l:List AV),AV.Av (· <N) l→AV.Av (2000≤ ·) (AV.mv.QA N k l):=by
   have key1: ∀(x:AV),x.ids (· <N)→(x.mv N k).ids (2000≤ ·):=fun x hx=>by
    have h2: ∀(x:AV),x.ids (· <N)→(x.mv N k).ids (2000≤ ·):=YJ (fun id h=>by rw[mvI_lt id h];omega);exact h2 x hx
   intro l;induction l with
   |nil=>intro _;rw[AV.mv.QA,AV.Av];trivial
   |cons x r ih=>intro h;rw[AV.Av]at h;rw[AV.mv.QA,AV.Av];exact⟨key1 x h.1,ih h.2⟩
  have key: ∀ {F:List (Nat×AN)},Bz (· <N) F→Bz (2000≤ ·) (pT N k F):=fun{F}=>by
   induction F with
   |nil=>intro _;trivial
   |cons p r ih=>
    obtain⟨d,b⟩:=p;intro h;have hd:d<N:=h.1;refine⟨by show 2000≤Sa N k d;rw[mvI_lt d hd];omega,?_,ih h.2.2⟩;have J4:=h.2.1;cases b with
    |box t c=>cases c with
     |AF l=>exact keyL l J4
     |_=>trivial
    |FD t c=>cases c with
     |AF l=>exact keyL l J4
     |_=>trivial
    |DN kd ks c=>cases c with
     |AF l=>exact keyL l J4
     |_=>trivial
    |row e sz c=>trivial
    |mp c=>trivial
  exact key bS
 have lkY: ∀ {id:Nat} {b:AN},Af Y id=some b→ ∃id0 b0,id=id0+k∧id0<N∧Af H id0=none∧Af st.heap id0=some b0∧b=b0.mv N k:=fun{id b} h=>by
  rw[zT]at h;obtain⟨id0,b0,e1,e2,e3,e4⟩:=Zu N k qF h;have Ak:=(Ep bS e3).1;obtain⟨e5,e6⟩:=QF e3;exact⟨id0,b0,by rw[e1,mvI_lt _ Ak],Ak,e5,e6,e4⟩
 have lkY2: ∀ {id:Nat} {b:AN},Af H id=none→Af st.heap id=some b→Af Y (id+k)=some (b.mv N k):=fun{id b} h0 h=>by
  rw[zT];exact OB Zo bS (G7 h0 h)
 have bT: ∀id,Af H' id≠none→1000≤id∧id<2000:=fun id h=>by
  cases hh:Af H' id with
  |none=>exact absurd hh h
  |some b=>exact(zS id b hh).1
 have wm: ∀id,Af H id≠none→1000≤id∧id<2000:=fun id h=>by
  cases hh:Af H id with
  |none=>exact absurd hh h
  |some b=>exact(tX id b hh).1
 have lkHY: ∀ {id:Nat} {b:AN},Af (H++Y) id=some b→Af H id=some b∨(Af H id=none∧Af Y id=some b):=fun{id b} h=>by
  rw[JZ]at h;cases hh:Af H id with
  |some b2=>rw[hh]at h;exact .inl h
  |none=>rw[hh]at h;exact .inr ⟨rfl,h⟩
 have lkHY': ∀ {id:Nat} {b:AN},Af H' id=some b→Af (H'++Y) id=some b:=fun{id b} h=>by rw[JZ,h]
 have lkHY2: ∀ {id:Nat} {b:AN},Af H id=none→Af st.heap id=some b→Af (H'++Y) (id+k)=some (b.mv N k):=fun{id b} h0 h=>by
  rw[JZ]
  have:Af H' (id+k)=none:=(by
   cases hh:Af H' (id+k)with
   |none=>rfl
   |some b2=>have:=(zS _ _ hh).1;omega)
  rw[this];exact lkY2 h0 h
 obtain⟨gh',ku⟩: ∃gh':Nat→Option (Option Value),gh'=fun id=>if(1000≤id∧id<2000∧id%2=0)∨(k≤id∧id<k+N)then some (ρc id)else none:=⟨_,rfl⟩
 have zV:CW gh':=⟨⟨k+N,fun id hid=>by rw[ku];exact if_neg Zo⟩,fun id h1 h2=>by rw[ku];exact if_neg Zo⟩
 have RP:HW B I w ρc (H++Y):=by
  refine⟨fun id blk El=>?_,fun id id' b1 b2 x x' b CD k1 k2 hx CP hb=>?_,fun id blk x b El hx hb=>?_,hG.hw.lt⟩
  ·rcases lkHY El with h1|⟨h0,h1⟩
   ·obtain⟨x,hx,Ae⟩:=hG.hw.ok id blk (Ct _ _ h1);have:=(tX id blk h1).1;exact⟨x,by rw[ρc_lo id Zo];exact hx,Ae.ids (tX id blk h1).2 fun j hj=>ρc_lo j (by have:=wm j hj;omega)⟩
   ·obtain⟨id0,b0,rfl,Ak,h2,h3,rfl⟩:=lkY h1;obtain⟨x,hx,Ae⟩:=hG.hw.ok id0 b0 h3;refine⟨x,by rw[ρc_hi id0 Ak];exact hx,?_⟩;have hi:=(Ep qF (G7 h2 h3)).2;cases b0 with
    |box t c=>
     obtain⟨b,us,rfl,hB,hh,hl,hc⟩:=Ae;exact⟨b,us,rfl,hB,hh,by rw[AH.NQ];exact hl,fun j u hu=>by rw[AH.Sb];exact(hc j u hu).mv (AH.QB hi j) _ ρc_mv⟩
    |row e sz c=>exact Ae
    |mp c=>exact Ae
    |DN kd ks c=>
     obtain⟨b,BJ,rfl,hB,hm,hl,C0,hc⟩:=Ae;exact⟨b,BJ,rfl,hB,hm,hl,by rw[AH.NQ];exact C0,fun j u hu=>by rw[AH.Sb];exact(hc j u hu).mv (AH.MU hi j) _ ρc_mv⟩
    |FD e c=>
     obtain⟨m,xs,ho,hl,hc⟩:=Ae;exact⟨m,xs,ho,by rw[AH.NQ];exact hl,fun j u hu=>by rw[AH.Sb];exact(hc j u hu).mv (AH.MT hi j) _ ρc_mv⟩
  ·rcases lkHY k1 with h1|⟨h0,h1⟩
   ·rw[ρc_lo id (by have:=(tX _ _ h1).1;omega)]at hx;rcases lkHY k2 with g1|⟨g0,g1⟩
    ·rw[ρc_lo id' (by have:=(tX _ _ g1).1;omega)]at CP;exact hG.hw.apart id id' b1 b2 x x' b CD (Ct _ _ h1) (Ct _ _ g1) hx CP hb
    ·obtain⟨id0,b0,rfl,Ak,g2,g3,rfl⟩:=lkY g1;rw[ρc_hi id0 Ak]at CP;exact hG.hw.apart id id0 b1 b0 x x' b (fun e=>by rw[e,g2]at h1;cases h1) (Ct _ _ h1) g3 hx CP hb
   ·obtain⟨id1,c1,rfl,tY,h2,h3,rfl⟩:=lkY h1;rw[ρc_hi id1 tY]at hx;rcases lkHY k2 with g1|⟨g0,g1⟩
    ·rw[ρc_lo id' (by have:=(tX _ _ g1).1;omega)]at CP;exact hG.hw.apart id1 id' c1 b2 x x' b (fun e=>by rw[←e,h2]at g1;cases g1) h3 (Ct _ _ g1) hx CP hb
    ·obtain⟨id0,b0,rfl,Ak,g2,g3,rfl⟩:=lkY g1;rw[ρc_hi id0 Ak]at CP;exact hG.hw.apart id1 id0 c1 b0 x x' b (fun e=>CD (by rw[e])) h3 g3 hx CP hb
  ·rcases lkHY El with h1|⟨h0,h1⟩
   ·rw[ρc_lo id (by have:=(tX _ _ h1).1;omega)]at hx;exact hG.hw.J2 id blk x b (Ct _ _ h1) hx hb
   ·obtain⟨id1,c1,rfl,tY,h2,h3,rfl⟩:=lkY h1;rw[ρc_hi id1 tY]at hx;exact hG.hw.J2 id1 c1 x b h3 hx hb
 have Bh:vs.size=args.length:=by rw[←Array.length_toList,RH.1]
 refine hA B ⟨w,I,gh',[],none,hG.gl⟩ Y (fun r0 Hx=>r0=r∧ ∀id b,Af (H'++Y) id=some b→Af Hx id=some b) zV rfl rfl zU (fun Hx h=>⟨rfl,h⟩) _ _ ⟨ρc,I,?_⟩ fun e st' a' w' ρ' I' h1 Cj=>?_
 ·refine⟨Marks.nil,by simp;omega,fun s=>Kq ⟨by rw[Bv];exact RH.1,fun j hj=>?_⟩ s,RP,Below.refl _ _,hG.base,⟨fun b hb=>.inl hb,fun id x hx=>?_,fun d hd=>?_,fun b hb=>⟨hb,rfl⟩⟩⟩
  ·rw[Bv]at hj;have h3:=(RH.2 j hj).strip (FP La j);rw[←Gc _ _ hj]at h3;exact h3.ids (Cc DM j) _ fun id hid=>ρc_lo id (by have:=wm id hid;omega)
  ·simp only[ku]at hx;split at hx
   ·injection hx
   ·cases hx
  ·show gh' d=none;rw[ku];exact if_neg Zo
 ·have key:X6 T 1000 fn.results.toList (fun r0 Hx=>r0=r∧ ∀id b,Af (H'++Y) id=some b→Af Hx id=some b) st'→ ∃v,(results fn a'.tmps).run P w'=.ok v w'∧next (a.put o.dst v) w':=fun Du=>by
   unfold X6 at Du;split at Du<;>first|exact Du.elim|skip
   rename_i φ l hl;obtain⟨hφ,Xn,eg,lZ,hHx⟩:=Du;obtain⟨v,h2,h3⟩:=gS hT Cj hl hφ;rw[lZ]at h3;refine⟨v,h2,hn _ _ _ hK ?_⟩;have U2: ∀id,((1000≤id∧id<2000∧id%2=0)∨(k≤id∧id<k+N))→ρ' id=ρc id:=fun id hid=>Cj.BQ.gh id (ρc id) (by show gh' id=_;rw[ku];exact if_pos hid);have TW: ∀id,id<N→ρ' (id+k)=ρ id:=fun id h=>by rw[U2 _ (.inr Zo),ρc_hi id h]
   have lkF: ∀ {id:Nat} {b:AN},Af (H'++Y) id=some b→Af st'.heap id=some b:=fun{id b} h=>(Ee (hHx _ _ h)).2;obtain⟨ρ2,hρ2⟩: ∃ρ2:Nat→Option Value,ρ2=fun id=>if Af H' id=none then ρ id else ρ' id:=⟨_,rfl⟩
   have r2n: ∀id,Af H' id=none→ρ2 id=ρ id:=fun id h=>by rw[hρ2];exact if_pos h
   have r2s: ∀id,Af H' id≠none→ρ2 id=ρ' id:=fun id h=>by rw[hρ2];exact if_neg h
   have r2k: ∀id,Dz H' id→ρ2 id=ρ id:=fun id h=>by
    by_cases h0:Af H' id=none
    ·exact r2n id h0
    ·rcases h with h|h
     ·exact absurd h h0
     ·have:=bT id h0;rw[r2s id h0,U2 id (.inl ⟨this.1,this.2,h⟩),ρc_lo id Zo]
   have look: ∀ {id:Nat} {b:AN},Af (H'++st.heap) id=some b→(Af H' id≠none∧Af H' id=some b∧Af st'.heap id=some b)∨(Af H' id=none∧Af st.heap id=some b∧Af st'.heap (id+k)=some (b.mv N k)∧id<N):=fun{id b} h=>by
    rw[JZ]at h;cases hh:Af H' id with
    |some b2=>
     rw[hh]at h;injection h with h;subst h
     exact .inl ⟨(fun h0=>by cases h0),rfl,lkF (lkHY' hh)⟩
    |none=>
     rw[hh]at h;exact .inr ⟨rfl,h,lkF (lkHY2 (zR id hh) h),(Ep kr h).1⟩
   have FK: ∀b,I b→I' b∧w'.heap[b]? =w.heap[b]? :=fun b hb=>Cj.BQ.B2 b hb;refine⟨ρ2,I',B3.put (st:=⟨st.env,H'++st.heap⟩) (d:=o.dst) ⟨hG.defers.mono FK,hG.size,fun s=>((hG.env s).mono (Nat.le_refl _) FK ρ (fun _ _ h=>h)).ids (MP hkE s) _ r2k,⟨fun id blk El=>?_,fun id id' b1 b2 x x' b CD k1 k2 hx CP hb=>?_,fun id blk x b El hx hb=>?_,Cj.hw.lt⟩,hG.below.trans Cj.below,Cj.base,⟨fun b hb=>?_,fun id x hx=>?_,hG.BQ.JQ,fun b hb=>?_⟩⟩ (fun d VG=>by rw[VG]at hd;exact hd) (gk (h3.ids hr _ fun id hid=>r2s id hid))⟩
   ·rcases look El with ⟨g0,g1,g2⟩|⟨g0,g1,g2,g3⟩
    ·obtain⟨x,hx,Ae⟩:=Cj.hw.ok id blk g2;exact⟨x,by rw[r2s id g0];exact hx,Ae.ids (zS id blk g1).2 fun j hj=>r2s j hj⟩
    ·obtain⟨x,hx,Ae⟩:=Cj.hw.ok _ _ g2;rw[TW id g3]at hx;refine⟨x,by rw[r2n id g0];exact hx,?_⟩;have Hz:=hkH id blk g0 g1;have HH:blk.ids (· <N):=(Ep kr g1).2
     have Pe:blk.ids (fun j=>Dz H' j∧j<N):=by
      cases blk with
      |box t c=>cases c with
       |AF l=>exact Hf l Hz HH
       |_=>trivial
      |FD t c=>cases c with
       |AF l=>exact Hf l Hz HH
       |_=>trivial
      |DN kd ks c=>cases c with
       |AF l=>exact Hf l Hz HH
       |_=>trivial
      |row e sz c=>trivial
      |mp c=>trivial
     exact Db.YI (ρ1:=ρ') (fun j hj=>by rw[r2k j hj.1,mvI_lt j hj.2,TW j hj.2]) Pe Ae
   ·rcases look k1 with ⟨g0,g1,g2⟩|⟨g0,g1,g2,g3⟩
    ·rw[r2s id g0]at hx;rcases look k2 with ⟨l0,l1,l2⟩|⟨l0,l1,l2,l3⟩
     ·rw[r2s id' l0]at CP;exact Cj.hw.apart id id' b1 b2 x x' b CD g2 l2 hx CP hb
     ·rw[r2n id' l0,←TW id' l3]at CP;have:=bT id g0;exact Cj.hw.apart id (id'+k) _ _ x x' b Zo g2 l2 hx CP hb
    ·rw[r2n id g0,←TW id g3]at hx;rcases look k2 with ⟨l0,l1,l2⟩|⟨l0,l1,l2,l3⟩
     ·rw[r2s id' l0]at CP;have:=bT id' l0;exact Cj.hw.apart (id+k) id' _ _ x x' b Zo g2 l2 hx CP hb
     ·rw[r2n id' l0,←TW id' l3]at CP;exact Cj.hw.apart (id+k) (id'+k) _ _ x x' b Zo g2 l2 hx CP hb
   ·rcases look El with ⟨g0,g1,g2⟩|⟨g0,g1,g2,g3⟩
    ·rw[r2s id g0]at hx;exact Cj.hw.J2 id _ x b g2 hx hb
    ·rw[r2n id g0,←TW id g3]at hx;exact Cj.hw.J2 (id+k) _ x b g2 hx hb
   ·rcases Cj.BQ.up b hb with h|h
    ·exact hG.BQ.up b h
    ·exact .inr h
   ·by_cases h0:Af H' id=none
    ·rw[r2n id h0];exact hG.BQ.gh id x hx
    ·have C0:=bT id h0;by_cases G2:id%2=0
     ·rw[r2k id (.inr G2)];exact hG.BQ.gh id x hx
     ·rw[Am.2 id C0.2 Zo]at hx;cases hx
   ·obtain⟨g1,g2⟩:=hG.BQ.B2 b hb;obtain⟨g3,g4⟩:=FK b g1;exact⟨g3,g4.trans g2⟩
  cases e with
  |ret=>exact⟨.inl rfl,key h1⟩
  |normal=>exact⟨.inr rfl,key h1⟩
  |_=>exact h1.elim
def IM(P:Program)(T:BT)(gf:Bool)(dst:Option Nat)(op:Op)(K:St→Prop)(st:St):Prop:=
 match A6 st.ev op with
 |some (ψ,k,args)=>(ψ∧EX args)∧ ∃H r H',BS P T k (Bu args) H r H'∧okF H H' (Bu args) r∧(∀id b,Af H id=some b→Af st.heap id=some b)∧Bg (Dz H) st.env∧(∀id b,Af H id=none→Af st.heap id=some b→b.ids (Dz H))∧K (St.put ⟨st.env,H'++st.heap⟩ dst (LS gf r))
 |none=>False
theorem QG{P:Program}{T:BT}(hT:T.ok P){n B:Nat}{w0:AT}{st:St}{a:Act}{w:World}{ρ:Nat→Option Value}{I:Nat→Prop}(hG:B3 n B w0 st a w ρ I)(Am:CW w0.gh){o:Oper}(hd:As n o.dst){gf:Bool}{K:St→Prop}(h:IM P T gf o.dst o.op K st):C1 P n B w0 o a w K:=by
 refine funCStep_ok hT hG Am hd (gf:=gf) ?_;unfold IM at h;unfold FunCStep;split at h
 ·obtain⟨h1,H,r,H',h2,h3,h4,h5,h6,h7⟩:=h;exact⟨h1,H,r,H',h2.c,h3.nw _,h4,by rw[keptId_iff h3.2.1];exact h5,fun id b g1 g2=>by rw[keptId_iff h3.2.1];exact h6 id b ((h3.2.1 id).1 g1) g2,h7⟩
 ·exact h.elim
mutual
def AV.C9(p:Nat→Bool):AV→Bool
 | .v _=>true
 | .s id=>p id
 | .w id _ _=>p id
 | .p id _=>p id
 | .i _ _ _ _ _=>true
 | .q _ _ _ _ _=>true
 | .a cs=>AV.DB p cs
 | .t cs=>AV.DB p cs
 | .f _ cs=>AV.DB p cs
 | .g _ x=>AV.C9 p x
 | .o=>true
 | .top=>true
def AV.DB(p:Nat→Bool):List AV→Bool
 | []=>true
 |x::r=>AV.C9 p x&&AV.DB p r
end
mutual
theorem Fp{p:Nat→Bool}{q:Nat→Prop}(h: ∀id,p id=true→q id): ∀(x:AV),x.C9 p=true→x.ids q
 | .v _,_=>by rw[AV.ids];trivial
 | .s id,g=>by rw[AV.C9]at g;rw[AV.ids];exact h _ g
 | .w id _ _,g=>by rw[AV.C9]at g;rw[AV.ids];exact h _ g
 | .p id _,g=>by rw[AV.C9]at g;rw[AV.ids];exact h _ g
 | .i _ _ _ _ _,_=>by rw[AV.ids];trivial
 | .q _ _ _ _ _,_=>by rw[AV.ids];trivial
 | .a cs,g=>by rw[AV.C9]at g;rw[AV.ids];exact Fq h cs g
 | .t cs,g=>by rw[AV.C9]at g;rw[AV.ids];exact Fq h cs g
 | .f _ cs,g=>by rw[AV.C9]at g;rw[AV.ids];exact Fq h cs g
 | .g _ x,g=>by rw[AV.C9]at g;rw[AV.ids];exact Fp h x g
 | .o,_=>by rw[AV.ids];trivial
 | .top,_=>by rw[AV.ids];trivial
theorem Fq{p:Nat→Bool}{q:Nat→Prop}(h: ∀id,p id=true→q id): ∀(l:List AV),AV.DB p l=true→AV.Av q l
 | [],_=>by rw[AV.Av];trivial
 |x::r,g=>by rw[AV.DB,Zba]at g;rw[AV.Av];exact⟨Fp h x g.1,Fq h r g.2⟩
end
def AN.C9(p:Nat→Bool):AN→Bool
 | .box _ (.AF l)=>AV.DB p l
 | .FD _ (.AF l)=>AV.DB p l
 | .DN _ _ (.AF l)=>AV.DB p l
 |_=>true
theorem AN.Fp{p:Nat→Bool}{q:Nat→Prop}(h: ∀id,p id=true→q id){b:AN}(g:b.C9 p=true):b.ids q:=by
 cases b with
 |box t c=>cases c with
  |AF l=>exact Fq h l g
  |_=>trivial
 |FD t c=>cases c with
  |AF l=>exact Fq h l g
  |_=>trivial
 |DN kd ks c=>cases c with
  |AF l=>exact Fq h l g
  |_=>trivial
 |row e sz c=>trivial
 |mp c=>trivial
def Es(H:List (Nat×AN))(id:Nat):Bool:=(Af H id).isSome
theorem G8{H:List (Nat×AN)}{id:Nat}(h:Es H id=true):Af H id≠none:=fun e=>by unfold Es at h;rw[e]at h;cases h
theorem GS: ∀ {H:List (Nat×AN)} {id:Nat} {b:AN},Af H id=some b→(id,b)∈H
 | [],_,_,h=>by cases h
 |(k,c)::r,id,b,h=>by
  simp only[Af]at h;split at h
  ·rename_i e;injection h with h;subst e;subst h;simp
  ·exact List.mem_cons_of_mem _ (GS h)
theorem Ja: ∀ {H:List (Nat×AN)} {id:Nat},Af H id=none↔id∉H.map Prod.fst
 | [],id=>by simp[Af]
 |(k,c)::r,id=>by
  simp only[Af,List.map_cons,List.mem_cons];by_cases e:k=id
  ·rw[if_pos e];simp[e]
  ·rw[if_neg e,Ja];exact⟨fun h hh=>by rcases hh with hh|hh;exact e hh.symm;exact h hh,fun h hh=>h (.inr hh)⟩
def Oa(H H':List (Nat×AN))(args:List AV)(r:AV):Bool:=
 (H.all fun p=>decide (1000≤p.1)&&decide (p.1<2000)&&p.2.C9 (Es H))&&(decide (H'.map Prod.fst=H.map Prod.fst)&&((H'.all fun p=>p.2.C9 (Es H))&&(r.C9 (Es H)&&AV.DB (Es H) args)))
theorem Tv{H H':List (Nat×AN)}{args:List AV}{r:AV}(h:Oa H H' args r=true):okF H H' args r:=by
 unfold Oa at h;simp only[Zba,List.all_eq_true,Zdt]at h;obtain⟨h1,h2,h3,h4,h5⟩:=h;refine⟨fun id b hb=>?_,fun id=>?_,fun id b hb=>?_,Fp (fun id=>G8) _ h4,Fq (fun id=>G8) _ h5⟩
 ·have:=h1 _ (GS hb);exact⟨⟨this.1.1,this.1.2⟩,AN.Fp (fun id=>G8) this.2⟩
 ·rw[Ja,Ja,h2]
 ·exact AN.Fp (fun id=>G8) (h3 _ (GS hb))
def Sd(H:List (Nat×AN)):List (Nat×AN)→Prop
 | []=>True
 |(k,b)::r=>Af H k=some b∧Sd H r
theorem KL{H:List (Nat×AN)}: ∀ {R:List (Nat×AN)},Sd H R→ ∀ {id:Nat} {b:AN},Af R id=some b→Af H id=some b
 | [],_,id,b,h=>by cases h
 |(k,x)::r,hh,id,b,h=>by
  simp only[Af]at h;split at h
  ·rename_i e;subst e;injection h with h;subst h;exact hh.1
  ·exact KL hh.2 h
mutual
theorem Ks{p:Nat→Prop}(h: ∀id,p id): ∀(x:AV),x.ids p
 | .v _=>by rw[AV.ids];trivial
 | .s id=>by rw[AV.ids];exact h _
 | .w id _ _=>by rw[AV.ids];exact h _
 | .p id _=>by rw[AV.ids];exact h _
 | .i _ _ _ _ _=>by rw[AV.ids];trivial
 | .q _ _ _ _ _=>by rw[AV.ids];trivial
 | .a cs=>by rw[AV.ids];exact Hh h cs
 | .t cs=>by rw[AV.ids];exact Hh h cs
 | .f _ cs=>by rw[AV.ids];exact Hh h cs
 | .g _ x=>by rw[AV.ids];exact Ks h x
 | .o=>by rw[AV.ids];trivial
 | .top=>by rw[AV.ids];trivial
theorem Hh{p:Nat→Prop}(h: ∀id,p id): ∀(l:List AV),AV.Av p l
 | []=>by rw[AV.Av];trivial
 |x::r=>by rw[AV.Av];exact⟨Ks h x,Hh h r⟩
end
theorem QH{p:Nat→Prop}(h: ∀id,p id): ∀(E:List (Nat×AV)),Bg p E
 | []=>trivial
 |(k,x)::r=>⟨Ks h x,QH h r⟩
theorem AN.Ks{p:Nat→Prop}(h: ∀id,p id)(b:AN):b.ids p:=by
 cases b with
 |box t c=>cases c with
  |AF l=>exact Hh h l
  |_=>trivial
 |FD t c=>cases c with
  |AF l=>exact Hh h l
  |_=>trivial
 |DN kd ks c=>cases c with
  |AF l=>exact Hh h l
  |_=>trivial
 |row e sz c=>trivial
 |mp c=>trivial
def Z2(H:List (Nat×AN)):Bool:=H.all fun p=>p.1%2==0
theorem Mb{H:List (Nat×AN)}(h:Z2 H=true)(id:Nat):Dz H id:=by
 unfold Dz;cases hh:Af H id with
 |none=>exact .inl rfl
 |some b=>
  unfold Z2 at h;rw[List.all_eq_true]at h;have:=h _ (GS hh);exact .inr (by simpa using this)
def cF(P:Program)(T:BT)(gf:Bool)(dst:Option Nat)(op:Op)(K:St→Prop)(st:St):Prop:=
 match A6 st.ev op with
 |some (ψ,k,args)=>(ψ∧EX args)∧ ∃H r H',BS P T k (Bu args) H r H'∧Oa H H' (Bu args) r=true∧Z2 H=true∧Sd st.heap H∧K (St.put ⟨st.env,H'++st.heap⟩ dst (LS gf r))
 |none=>False
theorem cF.step{P:Program}{T:BT}{gf:Bool}{dst:Option Nat}{op:Op}{K:St→Prop}{st:St}(h:cF P T gf dst op K st):IM P T gf dst op K st:=by
 unfold cF at h;unfold IM;split at h
 ·obtain⟨h1,H,r,H',h2,h3,h4,h5,h6⟩:=h;exact⟨h1,H,r,H',h2,Tv h3,fun id b=>KL h5,QH (Mb h4) _,fun id b _ _=>AN.Ks (Mb h4) b,h6⟩
 ·exact h.elim
def Vj(p:Nat→Bool):List (Nat×AV)→Bool
 | []=>true
 |(_,x)::r=>x.C9 p&&Vj p r
theorem QI{p:Nat→Bool}{q:Nat→Prop}(h: ∀id,p id=true→q id): ∀ {E:List (Nat×AV)},Vj p E=true→Bg q E
 | [],_=>trivial
 |(_,x)::r,g=>by rw[Vj,Zba]at g;exact⟨Fp h x g.1,QI h g.2⟩
def LU(H:List (Nat×AN))(id:Nat):Bool:= !(Es H id)||id%2==0
theorem QJ{H:List (Nat×AN)}{id:Nat}(h:LU H id=true):Dz H id:=by
 unfold LU Es at h;unfold Dz;cases hh:Af H id with
 |none=>exact .inl rfl
 |some b=>rw[hh]at h;exact .inr (by simpa using h)
theorem gm{H:List (Nat×AN)}{Y:List (Nat×AN)}(hY:Dy 2000 Y)(hH:(H.all fun p=>decide (p.1<2000))=true): ∀ {id:Nat} {b:AN},Af Y id=some b→b.ids (Dz H):=fun{id b} h=>by
 have h1:=(Ep hY h).2;refine Ma (fun j hj=>.inl ?_) h1;cases hh:Af H j with
 |none=>rfl
 |some b=>
  rw[List.all_eq_true]at hH;have:=hH _ (GS hh);simp at this;have hj:2000≤j:=hj;omega
section
variable{P:Program}{T:BT}(hT:T.ok P){n B:Nat}{w0:AT}(Am:CW w0.gh){ops:Array Oper}{K:St→Prop}{o:Oper}{rest:List Oper}{st:St}
include hT Am
theorem QK(hg:o.guard=none)(hd:As n o.dst)(h: ∀K':St→Prop,(∀s,AK P n B w0 ops K rest s→K' s)→IM P T false o.dst o.op K' st):AK P n B w0 ops K (o::rest) st:=by
 intro a w ρ I hG next Q FZ
 rw[CI hg hG];have h':=h _ fun _ h=>h;refine LF (fun c' HU=>?_) (QG hT hG Am hd h' next Q FZ);rw[HU]at h';exact h'
theorem YK{g:Option (Nat×Bool)}(hg:Rd ops o.guard=some g)(oz:Ha st g=some (some true))(hd:As n o.dst)(h: ∀K':St→Prop,(∀s,AK P n B w0 ops K rest s→K' s)→IM P T true o.dst o.op K' st):AK P n B w0 ops K (o::rest) st:=by
 intro a w ρ I hG next Q FZ
 have h':=h _ fun _ h=>h;have hw:=EY hG (ops:=ops) (o:=o) (g:=some true) (by rw[I2 hg];exact oz);rw[hw];refine LF (fun c' HU=>?_) (QG hT hG Am hd h' next Q FZ);rw[HU]at h';exact h'
theorem fE(h: ∀K':St→Prop,(∀s,AK P n B w0 ops K rest s→K' s)→cF P T false o.dst o.op K' st)(hg:o.guard=none:=by rfl)(hd:As n o.dst:=by simp only[As,Nat.reduceLT]):AK P n B w0 ops K (o::rest) st:=QK hT Am hg hd fun K' AX=>(h K' AX).step
theorem fG{g:Option (Nat×Bool)}(h: ∀K':St→Prop,(∀s,AK P n B w0 ops K rest s→K' s)→cF P T true o.dst o.op K' st)(hg:Rd ops o.guard=some g:=by rfl)(oz:Ha st g=some (some true):=by rfl)(hd:As n o.dst:=by simp only[As,Nat.reduceLT]):AK P n B w0 ops K (o::rest) st:=YK hT Am hg oz hd fun K' AX=>(h K' AX).step
end
theorem CK{H Hx:List (Nat×AN)}(h: ∀id b,Af H id=some b→Af Hx id=some b:=by(intro id b h;simp only[Af,List.cons_append,List.nil_append]at h ⊢;(repeat' split at h);all_goals simp_all)): ∀id b,Af H id=some b→Af Hx id=some b:=h
attribute [push_cast] cF LS
end Go.Ad
