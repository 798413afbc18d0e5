/- Part of a proof. -/
import Derived.Test.YthemnhjojaehhaaGreatDoorA23
set_option linter.all false
namespace Go.Ad
open Go.RowKit
def Kf(P:Program)(n B:Nat)(c:Code)(Q:Exit→AT→St→Prop)(w0:AT)(st:St):Prop:=
 ∀a w,G n B w0 st a w→c.wpIn (fo w0) 0 P (fun e a' w'=> ∃w1 st',(w1.rd=w0.rd∧w1.ds=w0.ds)∧Q e w1 st'∧G n B w1 st' a' w') a w
def Ex.pw(next:AT→St→Prop)(Q:Exit→AT→St→Prop):Exit→AT→St→Prop
 | .normal,w,st=>next w st
 |e,w,st=>Q e w st
def Ex.Ws(id:Nat)(Q:Exit→AT→St→Prop):Exit→AT→St→Prop
 | .exit id',w,st=>if id'=id then Q .normal w st else Q (.exit id') w st
 |e,w,st=>Q e w st
theorem px{w0 w1:AT}(h:w1.rd=w0.rd):fo w1=fo w0:=by unfold fo;rw[h]
section
variable{P:Program}{n B:Nat}{w0:AT}{Q:Exit→AT→St→Prop}{st:St}
theorem Ic{c:Code}(h:BY P n B w0 c (fun e s=>Q e w0 s) st):Kf P n B c Q w0 st:=fun a w hG=>wpIn_mono (h a w hG) fun _ _ _ ⟨st',h1,h2⟩=>⟨w0,st',⟨rfl,rfl⟩,h1,h2⟩
theorem Hv{x y:Code}(h:Kf P n B x (Ex.pw (Kf P n B y Q) Q) w0 st):Kf P n B (.seq x y) Q w0 st:=fun a w hG=>
 wpIn_seq (wpIn_mono (h a w hG) fun e a' w' ⟨w1,st',hr,h1,h2⟩=>by
  cases e with
  |normal=>
   have:=h1 a' w' h2;rw[px hr.1]at this;exact wpIn_mono this fun _ _ _ ⟨w2,s2,oq,q⟩=>⟨w2,s2,⟨oq.1.trans hr.1,oq.2.trans hr.2⟩,q⟩
  |_=>exact⟨w1,st',hr,h1,h2⟩)
theorem Qx{id:Nat}{c:Code}(h:Kf P n B c (Ex.Ws id Q) w0 st):Kf P n B (.block id c) Q w0 st:=fun a w hG=>
 wpIn_block (wpIn_mono (h a w hG) fun e a' w' ⟨w1,st',hr,h1,h2⟩=>by
  cases e with
  |exit id'=>
   simp only[Ex.Ws]at h1;simp only[Exit.inBlock];split
   ·rename_i e;rw[if_pos e]at h1;exact⟨w1,st',hr,h1,h2⟩
   ·rename_i e;rw[if_neg e]at h1;exact⟨w1,st',hr,h1,h2⟩
  |_=>exact⟨w1,st',hr,h1,h2⟩)
theorem TL{c:Operand}{x y:Code}(b:Bool)(hc:st.ev c=.v (.bool b))(ht:b=true→Kf P n B x Q w0 st)(hf:b=false→Kf P n B y Q w0 st):Kf P n B (.cond c x y) Q w0 st:=fun a w hG=>by
 obtain⟨ρ,I,hg⟩:=hG;have:=hg.ev c;rw[hc]at this;exact wpIn_cond_split this.Ao (fun h=>ht h a w ⟨ρ,I,hg⟩) (fun h=>hf h a w ⟨ρ,I,hg⟩)
theorem dX(h:Q .normal w0 st):Kf P n B .skip Q w0 st:=Ic (B5 h)
theorem jn(h:Q .ret w0 st):Kf P n B .ret Q w0 st:=Ic (Cl h)
theorem dY{α:Type}{c:Code}(S:α→St)(φ:α→Prop)(μ:α→Nat)(x0:α)(h0:φ x0)(hS: ∀a w,G n B w0 st a w→G n B w0 (S x0) a w)
  (round: ∀x,φ x→Kf P n B c (Ex.pw (fun w1 st'=>w1=w0∧ ∃y,(φ y∧μ y<μ x)∧ ∀a w,G n B w0 st' a w→G n B w0 (S y) a w) Q) w0 (S x)):Kf P n B (.loop c) Q w0 st:=fun a w hG=>by
 refine wpIn_loop_ghost (fun k a w=> ∃x,φ x∧μ x=k∧G n B w0 (S x) a w) (μ x0) ⟨x0,h0,rfl,hS a w hG⟩ ?_;rintro k a w ⟨x,hφ,rfl,hG⟩;refine wpIn_mono (round x hφ a w hG) fun e a' w' ⟨w1,st',hr,h1,h2⟩=>?_;cases e with
 |normal=>obtain⟨he,y,⟨hy,Ak⟩,hw⟩:=h1;subst he;exact⟨μ y,Ak,y,hy,rfl,hw a' w' h2⟩
 |_=>exact⟨w1,st',hr,h1,h2⟩
end
def sL(P:Program)(n B:Nat)(ops:Array Oper)(o:Oper)(K:AT→St→Prop)(w0:AT)(st:St):Prop:=
 ∀(a:Act) (w:World) (ρ:Nat→Option Value) (I:Nat→Prop),B3 n B w0 st a w ρ I→ ∀(next:Act→World→Prop) (Q:Exit→Act→World→Prop),(∀w1 st' a' w',(w1.rd=w0.rd∧w1.ds=w0.ds)→K w1 st'→G n B w1 st' a' w'→next a' w')→
  if Region.wanted o (yielded ops a.tmps)then o.wpIn (fo w0) 0 P a w next Q else(∀f,o.about P w a.eval=some f→(fo w0).fn f)∧next (a.put o.dst undef) w
def Hw(P:Program)(n B:Nat)(ops:Array Oper)(K:AT→St→Prop):List Oper→AT→St→Prop
 | [],w0,st=>K w0 st
 |o::rest,w0,st=>sL P n B ops o (Hw P n B ops K rest) w0 st
theorem Wt{P:Program}{n B:Nat}{ops:Array Oper}{K:AT→St→Prop}{Q:Exit→Act→World→Prop}(r0:Option Nat)(d0:List Deferred)(hQ: ∀w1 st' a' w',w1.rd=r0→w1.ds=d0→K w1 st'→G n B w1 st' a' w'→Q .normal a' w'): ∀(l:List Oper) (w0:AT) (st:St) (a:Act) (w:World),w0.rd=r0→w0.ds=d0→G n B w0 st a w→Hw P n B ops K l w0 st→wpListIn (fo w0) 0 P ops Q l a w
 | [],w0,st,a,w,hr,hd,hG,h=>hQ w0 st a w hr hd h hG
 |o::rest,w0,st,a,w,hr,hd,⟨ρ,I,hG⟩,h=>by
  unfold wpListIn;refine h a w ρ I hG _ Q fun w1 st' a' w' VF hK Cj=>?_;have:=Wt r0 d0 hQ rest w1 st' a' w' (VF.1.trans hr) (VF.2.trans hd) Cj hK;rw[px VF.1]at this;exact this
theorem sM{P:Program}{n B:Nat}{w0:AT}{Q:Exit→AT→St→Prop}{st:St}{id:Nat}{l:List Oper}(h:Hw P n B l.toArray (fun w1 s=>Q .normal w1 s) l w0 st):Kf P n B (.region id l.toArray false) Q w0 st:=fun a w hG=>
 wpIn_region_lit (Wt w0.rd w0.ds (fun w1 st' _ _ hr hd hK Cj=>⟨w1,st',⟨hr,hd⟩,hK,Cj⟩) l w0 st a w rfl rfl hG h)
theorem TM{P:Program}{n B:Nat}{w0:AT}{ops:Array Oper}{K:AT→St→Prop}{l2:List Oper}: ∀ {l1:List Oper} {st:St},AK P n B w0 ops (fun s=>Hw P n B ops K l2 w0 s) l1 st→Hw P n B ops K (l1++l2) w0 st
 | [],st,h=>h
 |o::rest,st,h=>fun a w ρ I hG next Q hn=>h a w ρ I hG next Q fun st' a' w' hK Cj=>hn w0 st' a' w' ⟨rfl,rfl⟩ (TM hK) Cj
theorem TN{P:Program}{n B:Nat}{w0:AT}{ops:Array Oper}{K:AT→St→Prop}{st:St}(h:K w0 st):Hw P n B ops K [] w0 st:=h
theorem L7{P:Program}{n B:Nat}{w0:AT}{ops:Array Oper}{K2:AT→St→Prop}{l1 l2:List Oper}{st:St}(h: ∀K:St→Prop,(∀s,Hw P n B ops K2 l2 w0 s→K s)→AK P n B w0 ops K l1 st):Hw P n B ops K2 (l1++l2) w0 st:=TM (h _ fun _ h=>h)
theorem R3{P:Program}{f:FuncId}{fn:Func}{c:Code}{n B:Nat}{w0:AT}{Q:Exit→AT→St→Prop}{st:St}{vs:Array Value}{w:World}{R:Ending→World→Prop}(hf:P.funcs[f]? =some fn)(hb:fn.body=some c)(Az:w0.rd=none)(N4:w0.ds= [])
  (h:Kf P n B c Q w0 st) (hG:G n B w0 st {tmps:=vs++Array.replicate (fn.ntmps - vs.size) undef,defers:= []} w)
  (CB: ∀e w1 st' a' w' ρ I,Q e w1 st'→B3 n B w1 st' a' w' ρ I→(e=.ret∨e=.normal)∧ ∃v,(results fn a'.tmps).run P w'=.ok v w'∧R (.returned v) w'):Calls P f vs w R:=by
 have Xj:fo w0=Fence.wide:=by unfold fo;rw[Az];rfl
 have hw:=h _ w hG;rw[Xj]at hw;refine(callsIn_wide (n:=0)).1 (callsIn_of_wp_marks hf hb trivial (wpIn_mono hw fun e a' w' ⟨w1,st',hr,h1,ρ,I,Cj⟩=>?_) rfl);obtain⟨Ds,d1,d2,d3,tO⟩:=Cj.shut;obtain⟨he,v,hv,hR⟩:=CB e w1 st' _ _ ρ I h1 tO;rw[hr.2,N4,List.append_nil]at d1;rcases he with rfl|rfl
 ·show LeavesInM _ _ _ _ _ _ _ _ _;rw[d1];exact Eo Ds w' d2 d3 ⟨v,hv,hR⟩
 ·show LeavesInM _ _ _ _ _ _ _ _ _;rw[d1];exact Eo Ds w' d2 d3 ⟨v,hv,hR⟩
def jo(wg:AT)(l:Nat)(o':Obj)(gl:Xt wg.I (wg.w.putObj l o')):AT:=⟨wg.w.putObj l o',wg.I,wg.gh,wg.ds,wg.rd,gl⟩
theorem B3.done{n B:Nat}{wg:AT}{st:St}{a:Act}{w:World}{ρ:Nat→Option Value}{I:Nat→Prop}{l:Nat}{r r':Loop}(h:B3 n B wg st a w ρ I)(hl:w.heap[l]? =some (.loop r))(hlg:wg.w.heap[l]? =some (.loop r))(hI:wg.I l)(gl:Xt wg.I (wg.w.putObj l (.loop r'))):
  B3 n B (jo wg l (.loop r') gl) st a (w.putObj l (.loop r')) ρ I:=by
 have kI:=(h.BQ.B2 l hI).1;have Ak:l<wg.w.heap.size:=(Array.getElem?_eq_some_iff.1 hlg).1;obtain⟨Ds,d1,d2,d3⟩:=h.defers;refine⟨⟨Ds,d1,d2,fun D hD=>?_⟩,h.size,h.gX _ hl,h.vH _ hl kI,⟨?_,?_,?_,?_,fun k hk=>?_⟩,by rw[World.putObj_size];exact h.base,⟨h.BQ.up,h.BQ.gh,h.BQ.JQ,fun b hb=>⟨(h.BQ.B2 b hb).1,?_⟩⟩⟩
 ·obtain⟨e1,e2,e3,e4⟩:=d3 D hD;exact⟨e1,e2,e3,by rw[World.putObj_heap_other (fun e=>by rw[e,hl]at e4;cases e4)];exact e4⟩
 ·exact h.below.1
 ·exact h.below.2
 ·exact h.below.3
 ·show(wg.w.putObj l (.loop r')).heap.size≤_;rw[World.putObj_size,World.putObj_size];exact h.below.4
 ·show(w.putObj l (.loop r')).heap[k]? =(wg.w.putObj l (.loop r')).heap[k]?;by_cases e:k=l
  ·subst e;rw[World.putObj_heap_same (Array.getElem?_eq_some_iff.1 hl).1,World.putObj_heap_same Ak]
  ·rw[World.putObj_heap_other e,World.putObj_heap_other e];exact h.below.5 k hk
 ·show(w.putObj l (.loop r')).heap[b]? =(wg.w.putObj l (.loop r')).heap[b]?;by_cases e:b=l
  ·subst e;rw[World.putObj_heap_same (Array.getElem?_eq_some_iff.1 hl).1,World.putObj_heap_same Ak]
  ·rw[World.putObj_heap_other e,World.putObj_heap_other e];exact(h.BQ.B2 b hb).2
def Yz(N:Nat)(R R':List (Nat×AN)→Prop):Exit→St→Prop
 | .normal,st=>P4 N (BD N st.heap)∧R (BD N st.heap)
 | .ret,st=>P4 N (BD N st.heap)∧R' (BD N st.heap)
 |_,_=>False
def py(N:Nat)(R:AT→List (Nat×AN)→Prop):Exit→AT→St→Prop
 | .normal,w,st=>P4 N (BD N st.heap)∧R w (BD N st.heap)
 | .ret,w,st=>P4 N (BD N st.heap)∧R w (BD N st.heap)
 |_,_,_=>False
def Y0(P:Program)(n ng N M B l:Nat)(wg wd:AT)(ps:List Nat)(assign body:Code)(env0:List (Nat×AV)):Prop:=
 ∀(M':Nat),M≤M'→ ∀(ops:Array Oper) (K:AT→St→Prop) (o:Oper) (rest:List Oper) (env:List (Nat×AV)) (H:List (Nat×AN)) (y:Operand) (gas:Array Operand) (ats:Array TypeId) (g:Option (Nat×Bool)),
  o.op=.call ⟨.value y,gas,ats⟩→Rd ops o.guard=some g→(Ha ⟨env,H⟩ g=some none∨Ha ⟨env,H⟩ g=some (some true))→As ng o.dst→((St.mk env H).ev y).cond∧((St.mk env H).ev y).strip=.v (.func (.yield l) #[] #[])→gas.size=ps.length→
  EX (gas.toList.map (St.mk env H).ev)→Ve N (Bu (gas.toList.map (St.mk env H).ev))→Bg (· <M') env→P4 N (BD N H)→
  (∀wb,(∀id,(id<N∨M'≤id)→wb.gh id=none)→BY P n B wb assign (Ex.then (fun s=> ∀wb2,(∀id,(id<N∨M'≤id)→wb2.gh id=none)→BY P n B wb2 body (Yz N (fun H2=>Hw P ng B ops K rest wg (St.put ⟨env,H2⟩ o.dst (BL true))) (fun H2=>Hw P ng B ops K rest wd (St.put ⟨env,H2⟩ o.dst (BL false)))) s) (fun _ _=>False))
   ⟨Rg ps (Bu (gas.toList.map (St.mk env H).ev)) env0,BD N H⟩)→
  Hw P ng B ops K (o::rest) wg ⟨env,H⟩
theorem nt{P:Program}{n B:Nat}{w0:AT}{st:St}{Q:Exit→St→Prop}{g:Operand}{ps:Array Tmp}{assign body:Code}(N M:Nat){gf:FuncId}{caps:List AV}{fn:Func}{cg:Code}{ng:Nat}(Az:w0.rd=none)(G2:st.ev g=.f (.func gf) caps)
  (hf:P.funcs[gf]? =some fn) (hb:fn.body=some cg) (Em:(fn.name== "runtime.NumGoroutine")=false) (M7:fn.results= #[]) (hng:fn.ntmps=ng) (hle:caps.length+1≤ng) (hnN:n≤N) (hgN:ng≤N) (HR:EX caps) (Xp: ∀p∈ps.toList,p<n)
  (xY:Bg (· <M) st.env) (bP: ∀id,M≤id→w0.gh id=none)
  (h: ∀(l:Nat) (wg wd:AT),(∀id,M≤id→wg.gh id=none)→(∀id,M≤id→wd.gh id=none)→Y0 P n ng N M B l wg wd ps.toList assign body st.env→Kf P ng B cg (py N fun w1 H=>(w1=wg∧Q .normal ⟨st.env,H⟩)∨(w1=wd∧Q .ret ⟨st.env,H⟩)) wg ⟨EZ 0 (Bu (.v (.func (.yield l) #[] #[])::caps)),st.heap⟩):
  BY P n B w0 (.rangeFunc g ps assign body) Q st:=by
 rintro a w ⟨ρ0,I0,U9⟩;have Xj:fo w0=Fence.wide:=by unfold fo;rw[Az];rfl
 rw[Xj];refine wpIn_rangeFunc fun fid _=>?_;have hgv:=U9.ev g;rw[G2]at hgv;generalize xX:a.eval g=gu at hgv;cases hgv with
 |f _ _ us RG fP=>
 simp only[ba]at xX;subst hng;obtain⟨rec0,Iw⟩: ∃rec0:LoopState→Loop,rec0=fun s=> {state:=s,pending:=none,fn:=fid,tmps:=a.tmps,params:=ps,assign,body,defers:=w.heap.size}:=⟨_,rfl⟩;obtain⟨W1,xZ⟩: ∃W1,(w.alloc (.deferred (some []))).alloc (.loop (rec0 .ready))=W1:=⟨_,rfl⟩;obtain⟨l,hl⟩: ∃l,l=w.heap.size+1:=⟨_,rfl⟩
 have tw:W1.heap[l]? =some (.loop (rec0 .ready)):=by
  rw[←xZ,hl];have:=World.alloc_heap_new (w.alloc (.deferred (some []))) (.loop (rec0 .ready));rwa [World.size_alloc]at this
 have hD1:W1.heap[w.heap.size]? =some (.deferred (some [])):=by
  rw[←xZ];exact(Below.heap_alloc _ _ _ (by simp)).trans (World.alloc_heap_new w _)
 have ADa:W1.heap.size=w.heap.size+2:=by rw[←xZ];simp
 have lG:Below w.heap.size w W1:=by rw[←xZ];exact((Below.refl _ w).alloc (Nat.le_refl _) _).alloc (by simp) _
 have hq:Quiet I0 w (fun b=>I0 b∨b=w.heap.size∨b=l) W1:=⟨lG,fun b hb=>.inl hb,fun b hb hn=>by rcases hb with hb|rfl|rfl;exact absurd hb hn;exact Nat.le_refl _;omega,fun b hb=>by
  rcases hb with hb|rfl|rfl
  ·have:=U9.hw.lt b hb;omega
  ·omega
  ·omega⟩
 have Xr:=U9.quiet hq;have tz:B≤l:=by have:=U9.base;omega
 refine⟨l,[{target:=.collected w.heap.size,args:= #[]}],W1,{target:=.fn (.func gf) us,args:= #[.func (.yield l) #[] #[]]},W1,gf,#[.func (.yield l) #[] #[]]++us,W1,?_,?_,fun _ _=>trivial,?_,(fun hd=>by cases hd),?_⟩
 ·rw[←xZ,Iw,hl];exact run_enterLoop_outer _ _ _ _ _
 ·show(resolve a.eval (rangeCall g l) 0).run P W1=_;simp only[resolve,xX];simp[Deferred.ofValue,Act.eval]
 ·have h1:fn.name≠ "runtime.NumGoroutine" :=by simpa using Em
  simp[invoke,callFunc,hf,h1,hb]
 have RH:At B (fun b=>I0 b∨b=w.heap.size∨b=l) W1 ρ0 (.v (.func (.yield l) #[] #[])::caps) (#[Value.func (.yield l) #[] #[]]++us).toList:=by
  have:(#[Value.func (.yield l) #[] #[]]++us).toList=Value.func (.yield l) #[] #[]::us.toList:=by simp
  rw[this];refine At.cons (.v _) ⟨by simpa using RG,fun j hj=>?_⟩;have:=(fP j hj).quiet hq U9.hw.lt;simpa[Zlg,Zag]using this
 have RP:=gT (n':=fn.ntmps) (N:=N) (M:=M) Xr RH ⟨trivial,HR⟩ (by simpa using hle) hgN;generalize uh:(⟨W1,fun b=>I0 b∨b=w.heap.size∨b=l,fun id=>if N≤id∧id<M then some (ρ0 id)else none,[],none,Xr.gl⟩:AT)=wg at RP;have ZX: ∀id,M≤id→wg.gh id=none:=fun id hid=>by rw[←uh];exact if_neg Zo
 have qP: ∀id,N≤id→id<M→wg.gh id=some (ρ0 id):=fun id h1 h2=>by rw[←uh];exact if_pos ⟨h1,h2⟩
 have qQ:wg.I=fun b=>I0 b∨b=w.heap.size∨b=l:=by rw[←uh]
 have uA:wg.w=W1:=by rw[←uh]
 have back: ∀(st':St) (a':Act) (W:World) (ρg:Nat→Option Value) (Ig:Nat→Prop),B3 fn.ntmps B wg st' a' W ρg Ig→P4 N (BD N st'.heap)→B3 n B w0 ⟨st.env,BD N st'.heap⟩ a W (fun id=>if id<N then ρ0 id else ρg id) Ig:=fun st' a' W ρg Ig LA Xn=>
  resume xY Xr LA (fun id h1 h2=>LA.BQ.gh id _ (qP id h1 h2)) bP (fun b hb=>by have:=LA.BQ.B2 b (by rw[qQ];exact hb);rwa [uA]at this) (fun b hb=>by have:=LA.BQ.up b hb;rwa [qQ]at this) (by have:=LA.below;rwa [uA]at this) Xn
 have recAt: ∀ {st':St} {a':Act} {W:World} {ρg:Nat→Option Value} {Ig:Nat→Prop},B3 fn.ntmps B wg st' a' W ρg Ig→Ig l∧W.heap[l]? =some (.loop (rec0 .ready))∧Ig w.heap.size∧W.heap[w.heap.size]? =some (.deferred (some [])):=fun LA=>by
  have k1:=LA.BQ.B2 l (by rw[qQ];exact .inr (.inr rfl));have k2:=LA.BQ.B2 w.heap.size (by rw[qQ];exact .inr (.inl rfl));rw[uA]at k1 k2;exact⟨k1.1,k1.2.trans tw,k2.1,k2.2.trans hD1⟩
 obtain⟨recD,lH⟩: ∃recD:Loop,recD= {rec0 .ready with state:=.done,pending:=some .ret}:=⟨_,rfl⟩;have wY:wg.w.heap[l]? =some (.loop (rec0 .ready)):=by rw[uA];exact tw
 have AAS:wg.I l:=by rw[qQ];exact .inr (.inr rfl)
 have gld:Xt wg.I (wg.w.putObj l (.loop recD)):=by
  have:=RP.yo (.loop recD) (show W1.heap[l]? =_ from tw);rw[qQ,uA];exact this
 obtain⟨wd,um⟩: ∃wd,wd=jo wg l (.loop recD) gld:=⟨_,rfl⟩;have lI: ∀id,M≤id→wd.gh id=none:=fun id hid=>by rw[um];exact ZX id hid
 have hY:Y0 P n fn.ntmps N M B l wg wd ps.toList assign body st.env:=by
  intro M' hMM ops K o rest env H y gas ats g0 E4 uf oz hd hy Bh La AAT xa eg hA;intro ag W ρg Ig LA next QQ FZ
  obtain⟨xb,ew,_,_⟩:=recAt LA
  have xc:Region.wanted o (yielded ops ag.tmps)=true:=by
   rcases oz with oz|oz
   ·have:=EY LA (ops:=ops) (o:=o) (g:=none) (by rw[I2 uf];exact oz);simpa using this
   ·have:=EY LA (ops:=ops) (o:=o) (g:=some true) (by rw[I2 uf];exact oz);simpa using this
  rw[xc];have fV:=(LA.ev y).strip hy.1;rw[hy.2]at fV;have fV:=fV.Ao
  have DM:At B Ig W ρg (Bu (gas.toList.map (St.mk env H).ev)) (gas.map ag.eval).toList:=by
   refine⟨by simp[Bv],fun j hj=>?_⟩;rw[Bv,List.length_map]at hj;rw[Gc _ _ (by simpa using hj)];have M6:j<gas.size:=by simpa using hj
   have e1:(gas.toList.map (St.mk env H).ev).getD j .top=(St.mk env H).ev gas[j]:=by simp[Zlg,M6]
   have e2:(gas.map ag.eval).toList.getD j undef=ag.eval gas[j]:=by simp[Zlg,M6]
   have hcj:=FP La j;rw[e1]at hcj ⊢;rw[e2];exact(LA.ev gas[j]).strip hcj
  have B1:(execOp ag.eval o).run P W=.ok (.round l fid ((ps.zip (gas.map ag.eval)).foldl (fun tmps (t,a)=>tmps.setIfInBounds t a) a.tmps) assign body) W:=by
   have tN:=run_yield (P:=P) (args:=gas.map ag.eval) ew (by rw[Iw];simpa using Bh);rw[Iw]at tN;simp only[execOp,E4,resolve,fV,Deferred.ofValue,Sem.run_bind,Sem.run_pure,Result.andThen_ok,invoke,Array.empty_append];exact tN
  refine⟨fun _ _=>trivial,?_⟩;rw[Oper.semAt_eq _ _ _ (fun c hc=>by rw[E4]at hc;cases hc),B1,Oper.uponIn_round];refine⟨(fun hd=>by cases hd),roundIn_of_wpIn trivial ?_⟩;have uV:=back ⟨env,H⟩ ag W ρg Ig LA eg;obtain⟨fM,U2⟩: ∃fM:Nat→Option (Option Value),fM=fun id=>if N≤id∧id<M' then some (ρg id)else none:=⟨_,rfl⟩
  have pin1: ∀id x,fM id=some x→N≤id∧id<M'∧x=ρg id:=fun id x hx=>by
   rw[U2]at hx;simp only at hx;split at hx
   ·rename_i hh;injection hx with hx;exact⟨hh.1,hh.2,hx.symm⟩
   ·cases hx
  have pin2: ∀id,N≤id→id<M'→fM id=some (ρg id):=fun id h1 h2=>by rw[U2];exact if_pos ⟨h1,h2⟩
  have pin3: ∀id,(id<N∨M'≤id)→fM id=none:=fun id hid=>by rw[U2];exact if_neg Zo
  have Jy:=uV.gY fM (fun id x hx=>by obtain⟨h1,_,h3⟩:=pin1 id x hx;rw[h3];exact if_neg Zo) (fun d hd=>pin3 d (.inl Zo)) [] (some l);have Uz:At B Ig W (fun id=>if id<N then ρ0 id else ρg id) (Bu (gas.toList.map (St.mk env H).ev)) (gas.map ag.eval).toList:=⟨DM.1,fun j hj=>(DM.2 j hj).ge (P9 AAT j) _ (fun id hid=>if_neg Zo)⟩;have J4:=B3.Rg ps.toList _ _ st.env a.tmps Xp Uz (by rw[Bv];simpa using Bh.symm) Jy
  have xd:((ps.zip (gas.map ag.eval)).foldl (fun tmps (t,a)=>tmps.setIfInBounds t a) a.tmps)=(ps.toList.zip (gas.map ag.eval).toList).foldl (fun t (p:Nat×Value)=>t.setIfInBounds p.1 p.2) a.tmps:=by
   rw[←Array.foldl_toList,Array.toList_zip]
  rw[xd];refine wpIn_mono (hA ⟨W,Ig,fM,[],some l,LA.gl⟩ pin3 _ W ⟨_,_,J4⟩) fun e a1 Wa Xq=>?_;obtain⟨s1,Xq,ρ1,I1,lf⟩:=Xq;cases e with
  |normal=>
   have ka:=lf.BQ.B2 l xb;have pK:Wa.heap[l]? =some (.loop (rec0 .ready)):=ka.2.trans ew;refine⟨_,run_beginRound pK (by rw[Iw]),?_⟩;have hGb:=lf.Tn (.loop {rec0 .ready with state:=.busy}) pK ka.1 fM (fun id x hx=>by obtain⟨h1,h2,h3⟩:=pin1 id x hx;rw[h3];exact lf.BQ.gh id _ (pin2 id h1 h2)) (fun d hd=>pin3 d (.inl Zo)) a1.defers (some l);have xe:(Wa.putObj l (.loop {rec0 .ready with state:=.busy})).heap[l]? =some (.loop {rec0 .ready with state:=.busy}):=World.putObj_heap_same (Array.getElem?_eq_some_iff.1 pK).1;refine wpIn_mono (Xq ⟨_,I1,fM,a1.defers,some l,lf.yo _ pK⟩ pin3 a1 _ ⟨ρ1,I1,hGb⟩) fun e a3 W3 fc=>?_;obtain⟨s3,fc,ρ3,I3,fe⟩:=fc;cases e with
   |normal=>
    obtain⟨uB,Kj⟩:=fc;have k3:=fe.BQ.B2 l ka.1;have ZY:W3.heap[l]? =some (.loop {rec0 .ready with state:=.busy}):=k3.2.trans xe;have CB:=run_endRound (P:=P) none ZY;have lJ:(({({rec0 .ready with state:=.busy}:Loop)with state:=if(none:Option Code).isNone then .ready else .done,pending:=none}:Loop))=rec0 .ready:=by rw[Iw];rfl
    rw[lJ]at CB;refine⟨_,_,CB,?_⟩;have hG4:=fe.Tn (.loop (rec0 .ready)) ZY k3.1 (fun _=>none) (fun id x hx=>by cases hx) (fun _ _=>rfl) [] none;have uC:(W3.putObj l (.loop (rec0 .ready))).heap[l]? =some (.loop (rec0 .ready)):=World.putObj_heap_same (Array.getElem?_eq_some_iff.1 ZY).1
    have FK: ∀b,Ig b→I3 b∧(W3.putObj l (.loop (rec0 .ready))).heap[b]? =W.heap[b]? :=fun b hb=>by
     have g1:=lf.BQ.B2 b hb;have g2:=fe.BQ.B2 b g1.1;refine⟨g2.1,?_⟩;by_cases e:b=l
     ·subst e;rw[uC,ew]
     ·rw[World.putObj_heap_other e,g2.2];show(Wa.putObj l _).heap[b]? =_;rw[World.putObj_heap_other e];exact g1.2
    have Pf: ∀b,I3 b→Ig b∨B≤b:=fun b hb=>by
     rcases fe.BQ.up b hb with h1|h1
     ·exact lf.BQ.up b h1
     ·exact .inr h1
    have Jo:Below B W (W3.putObj l (.loop (rec0 .ready))):=lf.below.trans ((FQ tz).trans (fe.below.trans (FQ tz)));have Du:=resume (N:=N) (M:=M') xa LA hG4 (fun id h1 h2=>fe.BQ.gh id _ (pin2 id h1 h2)) (fun id hid=>ZX id (Nat.le_trans hMM hid)) FK Pf Jo uB;exact FZ wg _ _ _ ⟨rfl,rfl⟩ Kj ⟨_,I3,Du.put (d:=o.dst) (fun k hk=>by rw[hk]at hd;exact hd) (.v _)⟩
   |exit id=>exact fc.elim
   |goto t=>exact fc.elim
   |ret=>
    obtain⟨uB,Kj⟩:=fc;have k3:=fe.BQ.B2 l ka.1;have ZY:W3.heap[l]? =some (.loop {rec0 .ready with state:=.busy}):=k3.2.trans xe;have CB:=run_endRound (P:=P) (some .ret) ZY;have lJ:(({({rec0 .ready with state:=.busy}:Loop)with state:=if(some Code.ret).isNone then .ready else .done,pending:=some .ret}:Loop))=recD:=by rw[lH,Iw];rfl
    rw[lJ]at CB;refine⟨_,_,CB,?_⟩;have hG4:=fe.Tn (.loop recD) ZY k3.1 (fun _=>none) (fun id x hx=>by cases hx) (fun _ _=>rfl) [] none;have uC:(W3.putObj l (.loop recD)).heap[l]? =some (.loop recD):=World.putObj_heap_same (Array.getElem?_eq_some_iff.1 ZY).1
    have FK: ∀b,Ig b→I3 b∧(W3.putObj l (.loop recD)).heap[b]? =(W.putObj l (.loop recD)).heap[b]? :=fun b hb=>by
     have g1:=lf.BQ.B2 b hb;have g2:=fe.BQ.B2 b g1.1;refine⟨g2.1,?_⟩;by_cases e:b=l
     ·subst e;rw[uC,World.putObj_heap_same (Array.getElem?_eq_some_iff.1 ew).1]
     ·rw[World.putObj_heap_other e,World.putObj_heap_other e,g2.2];show(Wa.putObj l _).heap[b]? =_;rw[World.putObj_heap_other e];exact g1.2
    have Pf: ∀b,I3 b→Ig b∨B≤b:=fun b hb=>by
     rcases fe.BQ.up b hb with h1|h1
     ·exact lf.BQ.up b h1
     ·exact .inr h1
    have Xd:Below B W (W3.putObj l (.loop recD)):=lf.below.trans ((FQ tz).trans (fe.below.trans (FQ tz)));have hGd:B3 fn.ntmps B wd ⟨env,H⟩ ag (W.putObj l (.loop recD)) ρg Ig:=by rw[um];exact LA.done ew wY AAS gld
    have Jo:Below B (W.putObj l (.loop recD)) (W3.putObj l (.loop recD)):=⟨Xd.1,Xd.2,Xd.3,by rw[World.putObj_size];exact Xd.4,fun k hk=>by rw[Xd.5 k hk,World.putObj_heap_other Zo]⟩;have Du:=resume (N:=N) (M:=M') xa hGd hG4 (fun id h1 h2=>fe.BQ.gh id _ (pin2 id h1 h2)) (fun id hid=>lI id (Nat.le_trans hMM hid)) FK Pf Jo uB;exact FZ wd _ _ _ (by rw[um];exact⟨rfl,rfl⟩) Kj ⟨_,I3,Du.put (d:=o.dst) (fun k hk=>by rw[hk]at hd;exact hd) (.v _)⟩
   |panic c=>exact fc.elim
   |outgrown=>exact fc.elim
  |exit id=>exact Xq.elim
  |goto t=>exact Xq.elim
  |ret=>exact Xq.elim
  |panic c=>exact Xq.elim
  |outgrown=>exact Xq.elim
 have xf:wd.I=fun b=>I0 b∨b=w.heap.size∨b=l:=by rw[um];exact qQ
 have yc:wd.w=W1.putObj l (.loop recD):=by rw[um];show wg.w.putObj l _=_;rw[uA]
 have AAW:B3 n B w0 st a (W1.putObj l (.loop recD)) ρ0 (fun b=>I0 b∨b=w.heap.size∨b=l):=by
  obtain⟨Ds,d1,d2,d3⟩:=Xr.defers;have VH: ∀b,w0.I b→b≠l:=fun b hI e=>by have:=U9.hw.lt b (U9.BQ.B2 b hI).1;omega
  refine⟨⟨Ds,d1,d2,fun D hD=>?_⟩,Xr.size,Xr.gX _ tw,Xr.vH _ tw (.inr (.inr rfl)),Xr.below.trans (FQ tz),by rw[World.putObj_size];exact Xr.base,⟨Xr.BQ.up,Xr.BQ.gh,Xr.BQ.JQ,fun b hb=>⟨(Xr.BQ.B2 b hb).1,by rw[World.putObj_heap_other (VH b hb)];exact(Xr.BQ.B2 b hb).2⟩⟩⟩;obtain⟨e1,e2,e3,e4⟩:=d3 D hD;exact⟨e1,e2,e3,by rw[World.putObj_heap_other (fun e=>by rw[e,tw]at e4;cases e4)];exact e4⟩
 have backD: ∀(st':St) (a':Act) (W:World) (ρg:Nat→Option Value) (Ig:Nat→Prop),B3 fn.ntmps B wd st' a' W ρg Ig→P4 N (BD N st'.heap)→B3 n B w0 ⟨st.env,BD N st'.heap⟩ a W (fun id=>if id<N then ρ0 id else ρg id) Ig:=fun st' a' W ρg Ig LA Xn=>
  resume xY AAW LA (fun id h1 h2=>LA.BQ.gh id _ (by rw[um];exact qP id h1 h2)) bP (fun b hb=>by have:=LA.BQ.B2 b (by rw[xf];exact hb);rwa [yc]at this) (fun b hb=>by have:=LA.BQ.up b hb;rwa [xf]at this) (by have:=LA.below;rwa [yc]at this) Xn
 have recAtD: ∀ {st':St} {a':Act} {W:World} {ρg:Nat→Option Value} {Ig:Nat→Prop},B3 fn.ntmps B wd st' a' W ρg Ig→Ig l∧W.heap[l]? =some (.loop recD)∧Ig w.heap.size∧W.heap[w.heap.size]? =some (.deferred (some [])):=fun LA=>by
  have k1:=LA.BQ.B2 l (by rw[xf];exact .inr (.inr rfl));have k2:=LA.BQ.B2 w.heap.size (by rw[xf];exact .inr (.inl rfl));rw[yc]at k1 k2;exact⟨k1.1,k1.2.trans (World.putObj_heap_same (Array.getElem?_eq_some_iff.1 tw).1),k2.1,k2.2.trans ((World.putObj_heap_other Zo).trans hD1)⟩
 refine callsIn_wide.2 (R3 (w0:=wg) hf hb (by rw[←uh]) (by rw[←uh]) (h l wg wd ZX lI hY) ⟨ρ0,_,RP⟩ fun e w1 st' a' W' ρg Ig h1 LA=>?_)
 have key:(P4 N (BD N st'.heap)∧((w1=wg∧Q .normal ⟨st.env,BD N st'.heap⟩)∨(w1=wd∧Q .ret ⟨st.env,BD N st'.heap⟩)))→ ∃v,(results fn a'.tmps).run P W'=.ok v W'∧rangePost Fence.wide 0 P l (fun e a' w'=> ∃st',Q e st'∧G n B w0 st' a' w') {a with defers:= [{target:=.collected w.heap.size,args:= #[]}]++a.defers} (.returned v) W':=fun hh=>by
  obtain⟨Xn,hQ⟩:=hh;rcases hQ with ⟨e1,hQ⟩|⟨e1,hQ⟩
  ·subst e1;obtain⟨xb,ew,hID,hWD⟩:=recAt LA;have Pj:=back st' a' W' ρg Ig LA Xn;have RX:=run_endLoop (P:=P) ew (by rw[Iw];simp);rw[show(rec0 .ready).pending=none by rw[Iw]]at RX;refine⟨.tuple #[],by simp[results,M7],none,_,RX,?_⟩
   ·refine⟨_,hQ,fun id=>if id<N then ρ0 id else ρg id,Ig,?_⟩;obtain⟨Ds,d1,d2,d3⟩:=U9.defers;have lX: ∀b,w.heap.size≤b→ ¬w0.I b:=fun b hb hI=>by have:=U9.hw.lt b (U9.BQ.B2 b hI).1;omega
    refine⟨⟨w.heap.size::Ds,by simp[d1],List.nodup_cons.2 ⟨fun hm=>by have:=U9.hw.lt _ (d3 _ hm).2.2.1;omega,d2⟩,fun D hD=>?_⟩,Pj.size,Pj.gX _ ew,Pj.vH _ ew xb,Pj.below.trans (FQ tz),by rw[World.putObj_size];exact Pj.base,⟨Pj.BQ.up,Pj.BQ.gh,Pj.BQ.JQ,fun b hb=>⟨(Pj.BQ.B2 b hb).1,?_⟩⟩⟩
    ·rcases List.mem_cons.1 hD with rfl|hD
     ·exact⟨U9.base,lX _ (Nat.le_refl _),hID,by rw[World.putObj_heap_other Zo];exact hWD⟩
     ·obtain⟨e1,e2,e3,e4⟩:=d3 D hD;have Ak:=U9.hw.lt D e3;have k:=LA.BQ.B2 D (by rw[qQ];exact .inl e3);rw[uA]at k;exact⟨e1,e2,k.1,by rw[World.putObj_heap_other Zo,k.2,lG.block D Ak];exact e4⟩
    ·rw[World.putObj_heap_other (show b≠l from fun e=>lX l Zo (by rw[←e];exact hb))];exact(Pj.BQ.B2 b hb).2
  ·subst e1;obtain⟨xb,ew,hID,hWD⟩:=recAtD LA;have Pj:=backD st' a' W' ρg Ig LA Xn;have RX:=run_endLoop (P:=P) ew (by rw[lH];simp);rw[show recD.pending=some .ret by rw[lH]]at RX;refine⟨.tuple #[],by simp[results,M7],some .ret,_,RX,?_⟩
   ·refine wpIn_ret ⟨_,hQ,fun id=>if id<N then ρ0 id else ρg id,Ig,?_⟩;obtain⟨Ds,d1,d2,d3⟩:=U9.defers;have lX: ∀b,w.heap.size≤b→ ¬w0.I b:=fun b hb hI=>by have:=U9.hw.lt b (U9.BQ.B2 b hI).1;omega
    refine⟨⟨w.heap.size::Ds,by simp[d1],List.nodup_cons.2 ⟨fun hm=>by have:=U9.hw.lt _ (d3 _ hm).2.2.1;omega,d2⟩,fun D hD=>?_⟩,Pj.size,Pj.gX _ ew,Pj.vH _ ew xb,Pj.below.trans (FQ tz),by rw[World.putObj_size];exact Pj.base,⟨Pj.BQ.up,Pj.BQ.gh,Pj.BQ.JQ,fun b hb=>⟨(Pj.BQ.B2 b hb).1,?_⟩⟩⟩
    ·rcases List.mem_cons.1 hD with rfl|hD
     ·exact⟨U9.base,lX _ (Nat.le_refl _),hID,by rw[World.putObj_heap_other Zo];exact hWD⟩
     ·obtain⟨e1,e2,e3,e4⟩:=d3 D hD;have Ak:=U9.hw.lt D e3;have k:=LA.BQ.B2 D (by rw[xf];exact .inl e3);rw[yc]at k;exact⟨e1,e2,k.1,by rw[World.putObj_heap_other Zo,k.2,World.putObj_heap_other Zo,lG.block D Ak];exact e4⟩
    ·rw[World.putObj_heap_other (show b≠l from fun e=>lX l Zo (by rw[←e];exact hb))];exact(Pj.BQ.B2 b hb).2
 cases e with
 |ret=>exact⟨.inl rfl,key h1⟩
 |normal=>exact⟨.inr rfl,key h1⟩
 |_=>exact h1.elim
attribute [push_cast] Yz py
theorem sO{P:Program}{n ng N M B l:Nat}{wg wd:AT}{ps:List Nat}{assign body:Code}{env0:List (Nat×AV)}(hY:Y0 P n ng N M B l wg wd ps assign body env0){α:Type}(C E D:α→Prop)(A:α→List AV)(HI HO HD:α→List (Nat×AN))(M' lo:Nat)(hM:M≤M')(Xk:N≤lo){Goal:Prop}
  (hA: ∀x,Ve N (A x)) (hH: ∀x,BD N (HI x)=HI x∧P4 N (HI x))
  (h1: ∀x,C x→ ∀Y,YE lo M' Y=true→ ∀R R':List (Nat×AN)→Prop,(E x→R (HO x++Y))→(D x→R' (HD x++Y))→ ∀wb,(∀id,(id<N∨M'≤id)→wb.gh id=none)→
   BY P n B wb assign (Ex.then (fun s=> ∀wb2,(∀id,(id<N∨M'≤id)→wb2.gh id=none)→BY P n B wb2 body (Yz N R R') s) (fun _ _=>False)) ⟨Rg ps (A x) env0,HI x++Y⟩)
  (h2:(∀x,C x→ ∀Y,YE lo M' Y=true→ ∀(ops:Array Oper) (K:AT→St→Prop) (o:Oper) (rest:List Oper) (env:List (Nat×AV)) (y:Operand) (gas:Array Operand) (ats:Array TypeId) (g:Option (Nat×Bool)),
   o.op=.call ⟨.value y,gas,ats⟩→Rd ops o.guard=some g→(Ha ⟨env,HI x++Y⟩ g=some none∨Ha ⟨env,HI x++Y⟩ g=some (some true))→As ng o.dst→((St.mk env (HI x++Y)).ev y).cond∧((St.mk env (HI x++Y)).ev y).strip=.v (.func (.yield l) #[] #[])→gas.size=ps.length→
   EX (gas.toList.map (St.mk env (HI x++Y)).ev)→Bu (gas.toList.map (St.mk env (HI x++Y)).ev)=A x→Bg (· <M') env→
   (E x→Hw P ng B ops K rest wg (St.put ⟨env,HO x++Y⟩ o.dst (BL true)))→(D x→Hw P ng B ops K rest wd (St.put ⟨env,HD x++Y⟩ o.dst (BL false)))→Hw P ng B ops K (o::rest) wg ⟨env,HI x++Y⟩)→Goal):Goal:=by
 refine h2 fun x hx Y bX ops K o rest env y gas ats g e1 e2 e3 e4 e5 e6 e7 e8 e9 e10 e11=>?_;have hk:BD N (HI x++Y)=HI x++Y:=by rw[NR,(hH x).1,QC Xk bX]
 refine hY M' hM ops K o rest env (HI x++Y) y gas ats g e1 e2 e3 e4 e5 e6 e7 (by rw[e8];exact hA x) e9 (by rw[hk];exact Zw N (hH x).2 (YF N bX)) fun wb hwb=>?_;rw[e8,hk];exact h1 x hx Y bX _ _ e10 e11 wb hwb
theorem Qy{lo hi:Nat}{p:Nat→Prop}(hp: ∀d,lo≤d→d<hi→p d): ∀ {Y:List (Nat×AN)},YE lo hi Y=true→Bz p Y
 | [],_=>trivial
 |(d,b)::r,h=>by
  simp only[YE,Zba,Zdt]at h;refine⟨hp d h.1.1.1 h.1.1.2,?_,Qy hp h.2⟩;have hb:=h.1.2;cases b with
  |box t c=>
   cases c with
   |AF l=>exact He _ l hb
   |_=>trivial
  |FD t c=>
   cases c with
   |AF l=>exact He _ l hb
   |_=>trivial
  |DN kd ks c=>
   cases c with
   |AF l=>exact He _ l hb
   |_=>trivial
  |_=>trivial
end Go.Ad
namespace Go.Ad.V5
open Go.RowKit
def Gl(H5 H:List (Nat×AN)):Prop:= ∀id b,Af H5 id=some b→Af H id=some b
theorem Wu{T:BT}{H5 H:List (Nat×AN)}(hs:Gl H5 H){t:TypeId}{x:AV}{r:Prop×AV}(h:HZ T H5 t x=some r):HZ T H t x=some r:=by
 unfold HZ at h ⊢;split at h
 ·rename_i id off BE;cases hk:Af H5 id with
  |none=>rw[hk]at h;cases hT:T t<;>rw[hT]at h<;>cases h
  |some b=>rw[hk]at h;rw[hs _ _ hk];exact h
 ·rename_i BE;exact h
 ·cases h
theorem Ui{T:BT}{H5 H:List (Nat×AN)}(hs:Gl H5 H){t:TypeId}{x:AV}{lo hi:Option AV}{r:Prop×AV}(h:GQ T H5 t x lo hi=some r):GQ T H t x lo hi=some r:=by
 unfold GQ at h ⊢;split at h<;>first|exact h|skip
 split at h<;>first|exact h|skip
 cases hx:x.strip<;>simp only[hx]at h ⊢ <;>first|exact h|skip
 rename_i id;cases hk:Af H5 id with
 |none=>rw[hk]at h;cases h
 |some b=>rw[hk]at h;rw[hs _ _ hk];exact h
theorem Ns{T:BT}{H5 H:List (Nat×AN)}(hs:Gl H5 H){t:TypeId}{x i:AV}{r:Prop×AV}(h:Cu T H5 t x i=some r):Cu T H t x i=some r:=by
 unfold Cu at h ⊢;split at h<;>first|exact h|skip
 split at h<;>first|exact h|skip
 split at h<;>first|exact h|skip
 cases hx:x.strip<;>simp only[hx]at h ⊢ <;>first|exact h|skip
 rename_i id;cases hk:Af H5 id with
 |none=>rw[hk]at h;cases h
 |some b=>rw[hk]at h;rw[hs _ _ hk];exact h
theorem Y1{T:BT}{H5 H:List (Nat×AN)}(hs:Gl H5 H){t:TypeId}{x:AV}{r:Prop×AV}(h:LP T H5 t x=some r):LP T H t x=some r:=by
 unfold LP at h ⊢;split at h<;>first|exact h|skip
 cases hx:x.strip with
 |s id=>
  rw[hx]at h;simp only at h ⊢;cases hk:Af H5 id with
  |none=>rw[hk]at h;cases h
  |some b=>rw[hk]at h;rw[hs _ _ hk];exact h
 |v y=>rw[hx]at h;cases y<;>first|exact h|(cases h;done)
 |_=>rw[hx]at h;first|exact h|(cases h;done)
theorem R4{T:BT}{H5 H:List (Nat×AN)}(hs:Gl H5 H){t:TypeId}{x k:AV}{r:Prop×AV}(h:FF T H5 t x k=some r):FF T H t x k=some r:=by
 unfold FF at h ⊢;split at h<;>first|exact h|skip
 split at h<;>first|exact h|skip
 rename_i id kv _ _ _ _;cases hk:Af H5 id with
 |none=>rw[hk]at h;cases h
 |some b=>rw[hk]at h;rw[hs _ _ hk];exact h
theorem Qz{T:BT}{H5 H:List (Nat×AN)}(hs:Gl H5 H){t:TypeId}{x k:AV}{r:Prop×AV}(h:EC T H5 t x k=some r):EC T H t x k=some r:=by
 unfold EC at h ⊢;split at h<;>first|exact h|skip
 split at h<;>first|exact h|skip
 rename_i id kv _ _ _ _;cases hk:Af H5 id with
 |none=>rw[hk]at h;cases h
 |some b=>rw[hk]at h;rw[hs _ _ hk];exact h
theorem nu{T:BT}{H5 H:List (Nat×AN)}(hs:Gl H5 H){ev:Operand→AV}{op:Op}{x:Prop×AV}(h:pv T H5 ev op=some x):pv T H ev op=some x:=by
 cases op<;>simp only[pv]at h ⊢ <;>first|exact h|exact Wu hs h|exact Ns hs h|skip
 case lookup t y k c=>cases c with
  |true=>exact Qz hs h
  |false=>exact R4 hs h
 case slice t y lo hi mx=>cases mx with
  |some _=>exact h
  |none=>exact Ui hs h
 case call c=>
  split at h<;>first|exact h|skip
  split at h<;>first|exact h|exact Y1 hs h
def sP(n:Nat):Bool:=n==1||n==5
def PvS(T:BT)(n:Nat)(ops:Array Oper)(H5:List (Nat×AN))(o:Oper)(C:AV→Prop)(st:St):Prop:= ∃φ r,o.guard=none∧As n o.dst∧pv T H5 st.ev o.op=some (φ,r)∧φ∧C r
def y6(T:BT)(H5:List (Nat×AN))(o:Oper)(C:AV→Prop)(st:St):Prop:=
 match pv T H5 st.ev o.op with
 |some (φ,r)=>φ∧C r
 |none=>False
def AO(P:Program)(T:BT)(n:Nat)(ops:Array Oper)(H5:List (Nat×AN))(K:St→Prop):List Oper→List (Nat×List Nat)→St→Prop
 | [],_,st=>K st
 |_::_,[],_=>False
 |o::rest,(un,R)::rs,st=>
  bif qq (un,R) o then
   bif un==5 then PvS T n ops H5 o (fun r=>(o.dst≠none→Cm R r)∧AO P T n ops H5 K rest rs (st.put o.dst r)) st
   else bif un==1 then BR P T n ops o (fun s=>Cm R (KI s o.dst)∧AO P T n ops H5 K rest rs ⟨s.env,st.heap⟩) ⟨st.env,[]⟩
   else BR P T n ops o (fun s=>Cm R (KI s o.dst)∧AO P T n ops H5 K rest rs s) st
  else bif un==3 then SW T n o (fun s=>Gl H5 s.heap∧AO P T n ops H5 K rest rs s) st
  else bif un==4 then gQ T n o (fun s=>Gl H5 s.heap∧AO P T n ops H5 K rest rs s) st
  else BR P T n ops o (fun s=>Gl H5 s.heap∧AO P T n ops H5 K rest rs s) st
def Nt:List Oper→List (Nat×List Nat)→List Nat
 | [],_=> []
 |o::l,rs=>(bif qq (rs.headD (0,[])) o then []else o.dst.toList)++Nt l rs.tail
theorem Q0: ∀ {l:List Oper} {rs:List (Nat×List Nat)} {i:Nat} {o:Oper} {d:Nat},l[i]? =some o→qf rs i o=false→o.dst=some d→d∈Nt l rs
 | [],rs,i,o,d,h,_,_=>by simp at h
 |x::l,rs,0,o,d,h,hq,hd=>by
  simp at h;subst h
  have:qq (rs.headD (0,[])) x=false:=by
   cases rs<;>simpa[qf]using hq
  simp only[Nt,this,cond_false,hd,Option.toList,List.mem_append];exact .inl (by simp)
 |x::l,rs,i+1,o,d,h,hq,hd=>by
  simp at h
  have:qf rs.tail i o=false:=by
   cases rs<;>simpa[qf]using hq
  simp only[Nt,List.mem_append];exact .inr (Q0 h this hd)
def LZ(qx qy:Bool)(ops:Array Oper)(x y:Oper):Bool:=
 (match x.dst with|some d=>(y.looksAt ops).contains d||y.dst==some d|none=>false)||
 (match y.dst with|some d=>(x.looksAt ops).contains d|none=>false)||(!qx&& !qy)
def PQ(l:List Oper)(ms:List Nat)(rs:List (Nat×List Nat)):Bool:=
 (List.range l.length).all fun j=>match l[j]? with
  |none=>true
  |some oj=>oj.after.toList.all (fun e=> !Region.binds .any e||decide (e.on<j))&&((ms.getD j 0 &&& l6 ms oj.after.toList)==ms.getD j 0)&&
   (List.range l.length).all fun i=>match l[i]? with
    |none=>true
    |some oi=>
     (!(decide (i<j)&&LZ (qf rs i oi) (qf rs j oj) l.toArray oi oj)||(ms.getD j 0).testBit i)&&
     (!(decide (i<j)&&(!qf rs i oi&& !qf rs j oj))||oi.dst.isNone||oi.dst != oj.dst)&&
     (!(qf rs j oj&& !qf rs i oi)||(sP (rs.getD j (0,[])).1||(ms.getD j 0).testBit i||(ms.getD i 0).testBit j))&&
     (!(qf rs j oj&& !qf rs i oi)||((ms.getD j 0).testBit i||match oi.dst with|some d=>(rs.getD j (0,[])).2.contains d|none=>true))
structure O0 (l:List Oper) (ms:List Nat) (rs:List (Nat×List Nat)):Prop where
 lt: ∀j (o:Oper),l[j]? =some o→ ∀e∈o.after,Region.binds .any e=true→e.on<j
 sub: ∀j (o:Oper),l[j]? =some o→ ∀i,(ms.getD j 0).testBit i=true→ ∃e∈o.after,Region.binds .any e=true∧(e.on=i∨(ms.getD e.on 0).testBit i=true)
 LH: ∀(i j:Nat) (oi oj:Oper),i<j→l[i]? =some oi→l[j]? =some oj→LZ (qf rs i oi) (qf rs j oj) l.toArray oi oj=true→(ms.getD j 0).testBit i=true
 apart: ∀(i j:Nat) (oi oj:Oper) (d:Nat),i≠j→l[i]? =some oi→l[j]? =some oj→qf rs i oi=false→qf rs j oj=false→oi.dst=some d→oj.dst≠some d
 tied: ∀(i j:Nat) (oi oj:Oper),l[i]? =some oi→l[j]? =some oj→qf rs j oj=true→qf rs i oi=false→(sP (rs.getD j (0,[])).1)=false→(ms.getD j 0).testBit i=true∨(ms.getD i 0).testBit j=true
 pz: ∀(i j:Nat) (oi oj:Oper) (d:Nat),l[i]? =some oi→l[j]? =some oj→qf rs j oj=true→qf rs i oi=false→oi.dst=some d→(ms.getD j 0).testBit i=false→d∈(rs.getD j (0,[])).2
theorem Uj{l:List Oper}{ms:List Nat}{rs:List (Nat×List Nat)}(h:PQ l ms rs=true):O0 l ms rs:=by
 unfold PQ at h;rw[List.all_eq_true]at h;have hj: ∀j o,l[j]? =some o→j<l.length:=fun j o hj=>(List.getElem?_eq_some_iff.1 hj).1
 have key: ∀i j (oi oj:Oper),l[i]? =some oi→l[j]? =some oj→
   (((!(decide (i<j)&&LZ (qf rs i oi) (qf rs j oj) l.toArray oi oj)||(ms.getD j 0).testBit i)=true∧
     (!(decide (i<j)&&(!qf rs i oi&& !qf rs j oj))||oi.dst.isNone||oi.dst != oj.dst)=true)∧
     (!(qf rs j oj&& !qf rs i oi)||(sP (rs.getD j (0,[])).1||(ms.getD j 0).testBit i||(ms.getD i 0).testBit j))=true)∧
     (!(qf rs j oj&& !qf rs i oi)||((ms.getD j 0).testBit i||match oi.dst with|some d=>(rs.getD j (0,[])).2.contains d|none=>true))=true:=fun i j oi oj hi ho=>by
  have h1:=h j (by simp[hj j _ ho]);simp only[ho,Zba]at h1;have:=List.all_eq_true.1 h1.2 i (by simp[hj i _ hi]);simp only[hi]at this;simpa only[Zba]using this
 refine⟨fun j o ho e he hb=>?_,fun j o ho i hi=>?_,fun i j oi oj eZ hi ho hc=>?_,fun i j oi oj d CD hi ho q1 q2 hd VG=>?_,fun i j oi oj hi ho q1 q2 hu=>?_,fun i j oi oj d hi ho q1 q2 hd ht=>?_⟩
 ·have h1:=h j (by simp[hj j _ ho]);simp only[ho,Zba]at h1;have:=List.all_eq_true.1 h1.1.1 e (by simpa using he);simpa[hb]using this
 ·have h1:=h j (by simp[hj j _ ho]);simp only[ho,Zba]at h1;have h2:(ms.getD j 0 &&& l6 ms o.after.toList)=ms.getD j 0:=by simpa using h1.1.2
  rw[←h2,Nat.testBit_and]at hi;simp only[Zba]at hi;obtain⟨e,h3,h4⟩:=ML hi.2;exact⟨e,by simpa using h3,h4⟩
 ·have:=(key i j oi oj hi ho).1.1.1;simpa[eZ,hc]using this
 ·rcases Nat.lt_or_ge i j with Ak|Xn
  ·have:=(key i j oi oj hi ho).1.1.2;simp[Ak,q1,q2,hd,VG]at this
  ·have:=(key j i oj oi ho hi).1.1.2;simp[show j<i by omega,q1,q2,hd,VG]at this
 ·have:=(key i j oi oj hi ho).1.2;rw[hu]at this;simpa[q1,q2]using this
 ·have:=(key i j oi oj hi ho).2;rw[ht]at this;simpa[q1,q2,hd]using this
theorem My{d:Nat}: ∀ {E:List (Nat×AV)},(∀p∈E,p.2.kill d=p.2)→CM d E=E
 | [],_=>rfl
 |(k,v)::r,h=>by
  simp only[CM];rw[h (k,v) (by simp),My (fun p hp=>h p (by simp[hp]))]
theorem Wv{E:List (Nat×AV)}{l:List Oper}{val:Nat→AV}{L:Nat→Bool}{k d:Nat}(hE: ∀p∈E,p.2.kill d=p.2)(hv: ∀i,L i=true→(l[i]?).bind (·.dst)≠none→(val i).kill d=val i): ∀c,∀p∈BV E l val L k c,p.2.kill d=p.2
 |0,p,hp=>hE p hp
 |c+1,p,hp=>by
  have ih:=Wv (k:=k) hE hv c;simp only[BV]at hp;split at hp
  ·rename_i d' heq;split at heq
   ·rename_i hL;rcases List.mem_cons.1 hp with rfl|hp
    ·exact hv _ hL (by rw[heq];simp)
    ·exact ih p hp
   ·cases heq
  ·exact ih p hp
section
variable{P:Program}{T:BT}(hT:T.ok P){n B:Nat}{w0:AT}{l:List Oper}{ms:List Nat}{rs:List (Nat×List Nat)}(hD:O0 l ms rs)
theorem JK{K:St→Prop}{H5:List (Nat×AN)}: ∀(q:List Oper) (rs:List (Nat×List Nat)) (st:St),Gl H5 st.heap→AO P T n l.toArray H5 K q rs st→ ∃(σ:Nat→St) (val:Nat→AV),(σ 0=st∧ ∀i,i≤q.length→Gl H5 (σ i).heap)∧K (σ q.length)∧
  (∀i o,q[i]? =some o→qf rs i o=true→σ (i+1)=(σ i).put o.dst (val i)∧(o.dst≠none→Cm (rs.getD i (0,[])).2 (val i))∧
   ∀st':St,((sP (rs.getD i (0,[])).1)=false→st'.heap=(σ i).heap)→Gl H5 st'.heap→(∀t∈o.looksAt l.toArray,lk st'.env t=lk (σ i).env t)→BR P T n l.toArray o (fun s=>s=st'.put o.dst (val i)) st')∧
  (∀i o,q[i]? =some o→qf rs i o=false→ ∃h',σ (i+1)=⟨pk o.dst (val i) (σ i).env,h'⟩∧(∀d d',o.dst=some d→d'≠d→(val i).kill d'=val i)∧
   ∀st':St,st'.heap=(σ i).heap→(∀t∈o.looksAt l.toArray,lk st'.env t=lk (σ i).env t)→Lg P T n l.toArray o (fun s=>s=⟨pk o.dst (val i) st'.env,h'⟩) st')
 | [],rs,st,hS,h=>⟨fun _=>st,fun _=>.top,⟨rfl,fun _ _=>hS⟩,h,fun i o hi=>by simp at hi,fun i o hi=>by simp at hi⟩
 |o::q,[],st,hS,h=>h.elim
 |o::q,(un,R)::rs,st,hS,h=>by
  have putV: ∀(s:St) (r:AV),o.dst≠none→KI (s.put o.dst r) o.dst=r:=fun s r hd=>by
   cases tG:o.dst with
   |none=>exact absurd tG hd
   |some d=>simp[KI,St.put,lk]
  simp only[AO]at h;cases hq:qq (un,R) o with
  |true=>
   have qR:BB o.op=true:=by simp only[qq,Zba]at hq;exact hq.1.1
   rw[hq]at h;simp only[cond_true]at h;cases hu5:(un==5)with
   |true=>
    rw[hu5]at h;simp only[cond_true]at h;obtain⟨φ,r,hg5,hd5,hp5,hφ5,h1,h2'⟩:=h
    have h3: ∀st':St,Gl H5 st'.heap→(∀t∈o.looksAt l.toArray,lk st'.env t=lk st.env t)→BR P T n l.toArray o (fun s=>s=st'.put o.dst r) st':=fun st' hs hl=>by
     have hp:=nu hs (((Px (T:=T) (H:=H5) (FH (st:=st') (st':=st) (o:=o) (ops:=l.toArray) hl))).trans hp5);unfold BR;rw[show EG st' l.toArray o.guard=some none by rw[hg5];rfl];simp only[hp];exact⟨hd5,hφ5,trivial⟩
    have xg:Gl H5 (st.put o.dst r).heap:=by cases hd:o.dst<;>exact hS
    obtain⟨σ,val,⟨s0,sS⟩,sN,sq,sl⟩:=JK q rs _ xg h2';refine⟨fun i=>match i with|0=>st|i+1=>σ i,fun i=>match i with|0=>r|i+1=>val i,⟨rfl,fun i hi=>by cases i with|zero=>exact hS|succ i=>exact sS i (by simpa using hi)⟩,sN,fun i o' hi M8=>?_,fun i o' hi M8=>?_⟩
    ·cases i with
     |zero=>
      simp at hi;subst hi
      exact⟨s0,h1,fun st' _ hs hl=>h3 st' hs hl⟩
     |succ i=>simp at hi;exact sq i o' hi (by simpa[qf]using M8)
    ·cases i with
     |zero=>simp at hi;subst hi;simp[qf,hq]at M8
     |succ i=>simp at hi;exact sl i o' hi (by simpa[qf]using M8)
   |false=>
   rw[hu5]at h;simp only[cond_false]at h;cases hu:(un==1)with
   |true=>
    rw[hu]at h;simp only[cond_true]at h;obtain⟨r,⟨h1,h2⟩,h3⟩:=bt qR h
    have h2':AO P T n l.toArray H5 K q rs (st.put o.dst r):=by
     cases hd:o.dst<;>rw[hd]at h2<;>exact h2
    have xg:Gl H5 (st.put o.dst r).heap:=by cases hd:o.dst<;>exact hS
    obtain⟨σ,val,⟨s0,sS⟩,sN,sq,sl⟩:=JK q rs _ xg h2';refine⟨fun i=>match i with|0=>st|i+1=>σ i,fun i=>match i with|0=>r|i+1=>val i,⟨rfl,fun i hi=>by cases i with|zero=>exact hS|succ i=>exact sS i (by simpa using hi)⟩,sN,fun i o' hi M8=>?_,fun i o' hi M8=>?_⟩
    ·cases i with
     |zero=>
      simp at hi;subst hi
      exact⟨s0,fun hd=>by rw[putV _ _ hd]at h1;exact h1,fun st' _ _ hl=>h3 st' hl⟩
     |succ i=>simp at hi;exact sq i o' hi (by simpa[qf]using M8)
    ·cases i with
     |zero=>simp at hi;subst hi;simp[qf,hq]at M8
     |succ i=>simp at hi;exact sl i o' hi (by simpa[qf]using M8)
   |false=>
    rw[hu]at h;simp only[cond_false]at h;obtain⟨r,⟨h1,h2⟩,h3⟩:=JW qR h;have xg:Gl H5 (st.put o.dst r).heap:=by cases hd:o.dst<;>exact hS
    obtain⟨σ,val,⟨s0,sS⟩,sN,sq,sl⟩:=JK q rs _ xg h2;refine⟨fun i=>match i with|0=>st|i+1=>σ i,fun i=>match i with|0=>r|i+1=>val i,⟨rfl,fun i hi=>by cases i with|zero=>exact hS|succ i=>exact sS i (by simpa using hi)⟩,sN,fun i o' hi M8=>?_,fun i o' hi M8=>?_⟩
    ·cases i with
     |zero=>
      simp at hi;subst hi
      exact⟨s0,fun hd=>by rw[putV _ _ hd]at h1;exact h1,fun st' hh _ hl=>h3 st' (hh (by show sP un=false;unfold sP;rw[hu,hu5];rfl)) hl⟩
     |succ i=>simp at hi;exact sq i o' hi (by simpa[qf]using M8)
    ·cases i with
     |zero=>simp at hi;subst hi;simp[qf,hq]at M8
     |succ i=>simp at hi;exact sl i o' hi (by simpa[qf]using M8)
  |false=>
   rw[hq]at h;simp only[cond_false]at h
   have hX: ∃r h',(Gl H5 h'∧AO P T n l.toArray H5 K q rs ⟨pk o.dst r st.env,h'⟩)∧(∀d d',o.dst=some d→d'≠d→r.kill d'=r)∧
     ∀st':St,st'.heap=st.heap→(∀t∈o.looksAt l.toArray,lk st'.env t=lk st.env t)→Lg P T n l.toArray o (fun s=>s=⟨pk o.dst r st'.env,h'⟩) st':=by
    cases hu:(un==3)with
    |true=>
     rw[hu]at h;simp only[cond_true]at h;obtain⟨r,h',h1,h2,h3⟩:=X4 (ops:=l.toArray) h;exact⟨r,h',h1,h2,fun st' hh hl=>.inr (.inl (h3 st' hh hl))⟩
    |false=>
     rw[hu]at h;simp only[cond_false]at h;cases hu4:(un==4)with
     |true=>
      rw[hu4]at h;simp only[cond_true]at h;obtain⟨r,h',h1,h2,h3⟩:=X5 (ops:=l.toArray) h;exact⟨r,h',h1,h2,fun st' hh hl=>.inr (.inr (.inr (h3 st' hh hl)))⟩
     |false=>
      rw[hu4]at h;simp only[cond_false]at h;have qR:BB o.op=false:=by simpa[qq,hu,hu4]using hq
      obtain⟨r,h',h1,h2,h3⟩:=bu qR h;exact⟨r,h',h1,h2,fun st' hh hl=>.inl (h3 st' hh hl)⟩
   obtain⟨r,h',h1,h2,h3⟩:=hX;obtain⟨σ,val,⟨s0,sS⟩,sN,sq,sl⟩:=JK q rs _ h1.1 h1.2;refine⟨fun i=>match i with|0=>st|i+1=>σ i,fun i=>match i with|0=>r|i+1=>val i,⟨rfl,fun i hi=>by cases i with|zero=>exact hS|succ i=>exact sS i (by simpa using hi)⟩,sN,fun i o' hi M8=>?_,fun i o' hi M8=>?_⟩
   ·cases i with
    |zero=>simp at hi;subst hi;simp[qf,hq]at M8
    |succ i=>simp at hi;exact sq i o' hi (by simpa[qf]using M8)
   ·cases i with
    |zero=>
     simp at hi;subst hi
     exact⟨h',s0,h2,h3⟩
    |succ i=>simp at hi;exact sl i o' hi (by simpa[qf]using M8)
include hD
theorem Jl{L:Nat→Bool}(XV: ∀j o,l[j]? =some o→L j=true→ ∀e∈o.after,Region.binds .any e=true→L e.on=true):
  ∀(m j:Nat),j<m→ ∀o,l[j]? =some o→(∀e∈o.after,Region.binds .any e=true→L e.on=true)→ ∀i,(ms.getD j 0).testBit i=true→L i=true
 |0,j,hm=>by omega
 |m+1,j,hm=>by
  intro o ho U0 i hi;obtain⟨e,he,hb,h⟩:=hD.sub j o ho i hi;have Ak:=hD.lt j o ho e he hb;have wZ:=U0 e he hb;rcases h with h|h
  ·rw[←h];exact wZ
  ·have N5:=(List.getElem?_eq_some_iff.1 ho).1;have H3:l[e.on]? =some l[e.on]:=Zeg Zo;exact Jl XV m e.on Zo _ H3 (XV _ _ H3 wZ) i h
theorem PR: ∀(m j:Nat),j<m→ ∀o,l[j]? =some o→ ∀i,(ms.getD j 0).testBit i=true→i<j
 |0,j,hm=>by omega
 |m+1,j,hm=>by
  intro o ho i hi;obtain⟨e,he,hb,h⟩:=hD.sub j o ho i hi;have Ak:=hD.lt j o ho e he hb;rcases h with h|h
  ·omega
  ·have N5:=(List.getElem?_eq_some_iff.1 ho).1;have H3:l[e.on]? =some l[e.on]:=Zeg Zo;have:=PR m e.on Zo _ H3 i h;omega
include hT in
theorem nv{H5:List (Nat×AN)}{Q:Exit→Act→World→Prop}(σ:Nat→St)(val:Nat→AV)(hS5: ∀i,i≤l.length→Gl H5 (σ i).heap)(h0: ∀i o,l[i]? =some o→ ∀d,qf rs i o=false→o.dst=some d→ ∀p∈(σ 0).env,p.2.kill d=p.2)
  (xh: ∀i o,l[i]? =some o→qf rs i o=true→σ (i+1)=(σ i).put o.dst (val i)∧(o.dst≠none→Cm (rs.getD i (0,[])).2 (val i))∧
   ∀st':St,((sP (rs.getD i (0,[])).1)=false→st'.heap=(σ i).heap)→Gl H5 st'.heap→(∀t∈o.looksAt l.toArray,lk st'.env t=lk (σ i).env t)→BR P T n l.toArray o (fun s=>s=st'.put o.dst (val i)) st')
  (qH: ∀i o,l[i]? =some o→qf rs i o=false→ ∃h',σ (i+1)=⟨pk o.dst (val i) (σ i).env,h'⟩∧(∀d d',o.dst=some d→d'≠d→(val i).kill d'=val i)∧
   ∀st':St,st'.heap=(σ i).heap→(∀t∈o.looksAt l.toArray,lk st'.env t=lk (σ i).env t)→Lg P T n l.toArray o (fun s=>s=⟨pk o.dst (val i) st'.env,h'⟩) st')
  (hQ: ∀a w,G n B w0 (σ l.length) a w→Q .normal a w):
  ∀(fuel:Nat) (listed:Array Bool) (a:Act) (w:World),listed.size=l.length→
   (∀j o,l[j]? =some o→listed.getD j false=true→ ∀e∈o.after,Region.binds .any e=true→listed.getD e.on false=true)→
   (List.range l.length).countP (fun i=> !listed.getD i false)≤fuel→
   (∃m,m≤l.length∧(∀i o,l[i]? =some o→qf rs i o=false→(listed.getD i false=true↔i<m))∧
    G n B w0 ⟨BV (σ 0).env l val (fun i=>listed.getD i false) 0 l.length,(σ m).heap⟩ a w)→
   wpAnyIn (fo w0) 0 P .any l.toArray Q fuel listed a w:=by
 intro fuel;have hlen: ∀j o,l[j]? =some o→j<l.length:=fun j o hj=>(List.getElem?_eq_some_iff.1 hj).1
 have nr: ∀i0 o0 d,l[i0]? =some o0→qf rs i0 o0=false→o0.dst=some d→ ∀i,i≤i0→(∀p∈(σ i).env,p.2.kill d=p.2)∧ ∀i',i'<i→ ∀o',l[i']? =some o'→(σ (i'+1)).env=((σ i').put o'.dst (val i')).env:=by
  intro i0;induction i0 using Nat.strongRecOn with
  |_ i0 IH=>
  intro o0 d xj qR hd0 i;induction i with
  |zero=>intro _;exact⟨h0 i0 o0 xj d qR hd0,fun i' yU=>by omega⟩
  |succ i ih=>
   intro hi;obtain⟨ih1,ih2⟩:=ih Zo;have MA:i<l.length:=by have:=hlen _ _ xj;omega
   have D8:l[i]? =some l[i]:=Zeg MA;cases hq:qf rs i l[i]with
   |true=>
    obtain⟨e1,e2,_⟩:=xh i _ D8 hq;refine⟨fun p hp=>?_,fun i' yU o' H3=>?_⟩
    ·rw[e1]at hp;cases ME:(l[i]).dst with
     |none=>rw[ME]at hp;exact ih1 p hp
     |some di=>
      rw[ME]at hp;simp only[St.put]at hp;rcases List.mem_cons.1 hp with rfl|hp
      ·refine IK (e2 (by rw[ME];simp)) d (hD.pz i0 i _ _ d xj D8 hq qR hd0 ?_);cases hb:(ms.getD i 0).testBit i0 with
       |false=>rfl
       |true=>have:=PR hD (i+1) i Zo _ D8 i0 hb;omega
      ·exact ih1 p hp
    ·rcases Nat.lt_or_ge i' i with h|h
     ·exact ih2 i' h o' H3
     ·have:i'=i:=Zo
      subst this;rw[D8]at H3;injection H3 with H3;subst H3
      rw[e1]
   |false=>
    obtain⟨h',e1,e2,_⟩:=qH i _ D8 hq
    have xk:(σ (i+1)).env=((σ i).put (l[i]).dst (val i)).env:=by
     rw[e1];cases ME:(l[i]).dst with
     |none=>rfl
     |some di=>
      simp only[pk,St.put];rw[My (IH i Zo _ di D8 hq ME i (Nat.le_refl _)).1]
    refine⟨fun p hp=>?_,fun i' yU o' H3=>?_⟩
    ·rw[xk]at hp;cases ME:(l[i]).dst with
     |none=>rw[ME]at hp;exact ih1 p hp
     |some di=>
      rw[ME]at hp;simp only[St.put]at hp;rcases List.mem_cons.1 hp with rfl|hp
      ·exact e2 di d ME (fun e=>hD.apart i i0 _ _ di Zo D8 xj hq qR ME (by rw[hd0,e]))
      ·exact ih1 p hp
    ·rcases Nat.lt_or_ge i' i with h|h
     ·exact ih2 i' h o' H3
     ·have:i'=i:=Zo
      subst this;rw[D8]at H3;injection H3 with H3;subst H3
      exact xk
 have stepE: ∀i o,l[i]? =some o→(σ (i+1)).env=((σ i).put o.dst (val i)).env:=by
  intro i o ho;cases hq:qf rs i o with
  |true=>rw[(xh i o ho hq).1]
  |false=>
   obtain⟨h',e1,_,_⟩:=qH i o ho hq;rw[e1];cases ME:o.dst with
   |none=>rfl
   |some di=>
    simp only[pk,St.put];rw[My (nr i o di ho hq ME i (Nat.le_refl _)).1]
 have seg: ∀k j,k≤j→(∀m o,k≤m→m<j→l[m]? =some o→qf rs m o=true)→j≤l.length→(σ j).heap=(σ k).heap:=by
  intro k j ec hq N5;induction j with
  |zero=>
    have:k=0:=Zo
    subst this;rfl
  |succ j ih=>
   by_cases e:k=j+1
   ·rw[e]
   ·have hj:j<l.length:=Zo
    have ho:l[j]? =some l[j]:=Zeg hj;rw[(xh j _ ho (hq j _ Zo Zo ho)).1];have:=ih Zo (fun m o h1 h2=>hq m o h1 Zo) Zo;rw[←this];cases (l[j]).dst<;>rfl
 have seg2: ∀k j,k≤l.length→j≤l.length→(∀m o,l[m]? =some o→qf rs m o=false→(m<k↔m<j))→(σ k).heap=(σ j).heap:=by
  intro k j hk hj h;rcases Nat.le_total k j with ec|ec
  ·refine(seg k j ec (fun m o h1 h2 ho=>?_) hj).symm;cases hq:qf rs m o with
   |true=>rfl
   |false=>have:=h m o ho hq;omega
  ·refine seg j k ec (fun m o h1 h2 ho=>?_) hk;cases hq:qf rs m o with
   |true=>rfl
   |false=>have:=h m o ho hq;omega
 have done: ∀(listed:Array Bool) (a:Act) (w:World),(∀i,i<l.length→listed.getD i false=true)→(∃m,m≤l.length∧(∀i o,l[i]? =some o→qf rs i o=false→(listed.getD i false=true↔i<m))∧
    G n B w0 ⟨BV (σ 0).env l val (fun i=>listed.getD i false) 0 l.length,(σ m).heap⟩ a w)→Q .normal a w:=by
  rintro listed a w BU ⟨m,hm,Xk,hG⟩;have hE:=GI (l:=l) (val:=val) (L:=fun i=>listed.getD i false) (k:=0) σ l.length rfl (fun i o _ _ ho=>stepE i o ho) (Nat.le_refl _) (fun i _ h2=>BU i h2) l.length Zo;refine hQ a w (hG.congr (fun s=>?_) ?_)
  ·show lk (σ l.length).env s=lk (BV _ _ _ _ _ _) s;rw[hE,Nat.zero_add]
  ·refine seg2 l.length m (Nat.le_refl _) hm (fun i o ho hq=>?_);have:=Xk i o ho hq;have h1:=hlen i o ho;rw[BU i h1]at this;simp at this;omega
 have getD_true: ∀(listed:Array Bool) (j:Nat),listed.size=l.length→j<l.length→listed.getD j true=listed.getD j false:=fun listed j hs hj=>by
  have:j<listed.size:=Zo
  simp[this]
 have notready: ∀(listed:Array Bool),listed.size=l.length→Region.ready .any l.toArray listed= []→ ∀i,i<l.length→listed.getD i false=true:=by
  intro listed hs hr
  have key: ∀m i,i<m→i<l.length→listed.getD i false=true:=by
   intro m;induction m with
   |zero=>intro i h;omega
   |succ m ih=>
    intro i hm hi;cases hL:listed.getD i false with
    |true=>rfl
    |false=>
     exfalso;have ho:l[i]? =some l[i]:=Zeg hi
     have:i∈Region.ready .any l.toArray listed:=by
      simp only[Region.ready,List.mem_filter,List.mem_range,Zba];refine⟨by simpa using hi,by rw[getD_true listed i hs hi,hL];rfl,?_⟩;simp only[List.getElem?_toArray,ho,Option.map_some,Option.getD_some];rw[Array.all_eq_true_iff_forall_mem];intro e he;cases hb:Region.binds .any e with
      |false=>rfl
      |true=>
       have Ak:=hD.lt i _ ho e he hb;rw[ih e.on Zo Zo];rfl
     rw[hr]at this;cases this
  exact fun i hi=>key (i+1) i Zo hi
 induction fuel with
 |zero=>
  intro listed a w hs XV tP hinv
  have BU: ∀i,i<l.length→listed.getD i false=true:=by
   intro i hi;have h0:(List.range l.length).countP (fun i=> !listed.getD i false)=0:=Zo
   rw[List.countP_eq_zero]at h0;have:=h0 i (by simpa using hi);simpa using this
  refine⟨?_,done listed a w BU hinv⟩;apply List.eq_nil_iff_forall_not_mem.2;intro i hi;simp only[Region.ready,List.mem_filter,List.mem_range,Zba]at hi;have MA:i<l.length:=by simpa using hi.1
  have:=hi.2.1;rw[getD_true listed i hs MA,BU i MA]at this;cases this
 |succ fuel ih=>
  intro listed a w hs XV tP hinv;refine⟨fun hr=>done listed a w (notready listed hs hr) hinv,fun j hj=>?_⟩;simp only[Region.ready,List.mem_filter,List.mem_range,Zba]at hj;obtain⟨N5,wc,NB⟩:=hj;have N5:j<l.length:=by simpa using N5
  have VI:listed.getD j false=false:=by rw[getD_true listed j hs N5]at wc;simpa using wc
  have ho:l[j]? =some l[j]:=Zeg N5
  have U0: ∀e∈(l[j]).after,Region.binds .any e=true→listed.getD e.on false=true:=by
   simp only[List.getElem?_toArray,ho,Option.map_some,Option.getD_some]at NB;rw[Array.all_eq_true_iff_forall_mem]at NB;intro e he hb;have:=NB e he;simpa[hb]using this
  have HR:=Jl hD XV (j+1) j Zo _ ho U0
  have lK: ∀i oi,l[i]? =some oi→listed.getD i false=true→(ms.getD i 0).testBit j=false:=by
   intro i oi D8 hL;cases hb:(ms.getD i 0).testBit j with
   |false=>rfl
   |true=>
    have:=Jl hD XV (i+1) i Zo _ D8 (XV i oi D8 hL) j hb;rw[VI]at this;cases this
  have MB: ∀i oi,j<i→l[i]? =some oi→LZ (qf rs j l[j]) (qf rs i oi) l.toArray l[j] oi=true→listed.getD i false=false:=by
   intro i oi tQ D8 hc;cases hL:listed.getD i false with
   |false=>rfl
   |true=>
    have:=lK i oi D8 hL;rw[hD.LH j i _ _ tQ ho D8 hc]at this;cases this
  have K9: ∀i oi,i<j→l[i]? =some oi→LZ (qf rs i oi) (qf rs j l[j]) l.toArray oi l[j]=true→listed.getD i false=true:=fun i oi eZ D8 hc=>HR i (hD.LH i j _ _ eZ D8 ho hc);obtain⟨m,hm,Xk,hG⟩:=hinv
  have hM: ∀i,(listed.setIfInBounds j true).getD i false=(listed.getD i false||i==j):=by
   intro i;by_cases e:j=i
   ·subst e;have:j<listed.size:=Zo
    simp[this]
   ·have:(i==j)=false:=by simp;omega
    rw[this,Bool.or_false];simp[Zag,Array.getElem?_setIfInBounds_ne e]
  have uU:(listed.setIfInBounds j true).size=l.length:=by simp[hs]
  have kl: ∀i o,l[i]? =some o→(listed.setIfInBounds j true).getD i false=true→ ∀e∈o.after,Region.binds .any e=true→(listed.setIfInBounds j true).getD e.on false=true:=by
   intro i o D8 hL e he hb;rw[hM]at hL ⊢;rcases Bool.or_eq_true_iff.1 hL with hL|hL
   ·rw[XV i o D8 hL e he hb];rfl
   ·have:i=j:=by simpa using hL
    subst this;rw[ho]at D8;injection D8 with D8;subst D8
    rw[U0 e he hb];rfl
  have XW:(List.range l.length).countP (fun i=> !(listed.setIfInBounds j true).getD i false)≤fuel:=by
   have:(List.range l.length).countP (fun i=> !(listed.setIfInBounds j true).getD i false)<(List.range l.length).countP (fun i=> !listed.getD i false):=by
    refine NJ (fun i _ h=>?_) ⟨j,by simpa using N5,by rw[VI];rfl,by rw[hM];simp⟩;rw[hM]at h;cases h1:listed.getD i false<;>simp_all
   omega
  have wh: ∀(st:St) (K:St→Prop),G n B w0 st a w→Lg P T n l.toArray l[j] K st→(∀st' a' w',K st'→G n B w0 st' a' w'→wpAnyIn (fo w0) 0 P .any l.toArray Q fuel (listed.setIfInBounds j true) a' w')→wpOpIn (fo w0) 0 P l.toArray Q j (wpAnyIn (fo w0) 0 P .any l.toArray Q fuel (listed.setIfInBounds j true)) a w:=by
   rintro st K ⟨ρ,I,hg⟩ BE XX;have:=SU hT hg BE (wpAnyIn (fo w0) 0 P .any l.toArray Q fuel (listed.setIfInBounds j true)) Q XX;unfold wpOpIn;simp only[List.getElem?_toArray,ho];exact qZ (SV hg BE) this
  have bN: ∀t∈(l[j]).looksAt l.toArray,lk (BV (σ 0).env l val (fun i=>listed.getD i false) 0 l.length) t=lk (σ j).env t:=by
   intro t ht
   have e1:=KE (E:=(σ 0).env) (l:=l) (val:=val) (L:=fun i=>listed.getD i false) (M:=fun i=>decide (i<j)) (k:=0) t l.length (fun i h1 h2 hd=>by
    have MA:i<l.length:=Zo
    have D8:l[i]? =some l[i]:=Zeg MA;rw[D8]at hd;simp only[Option.bind_some]at hd;rcases Nat.lt_trichotomy i j with h|h|h
    ·rw[K9 i _ h D8 (by simp[LZ,hd,ht])];simp[h]
    ·subst h;rw[VI];simp
    ·rw[MB i _ h D8 (by simp[LZ,hd,ht])];simp;omega)
   rw[e1];have e2:=Dx (E:=(σ 0).env) (l:=l) (val:=val) (L:=fun i=>decide (i<j)) (k:=0) j (fun i hi=>by simp;omega) l.length Zo;have e3:=GI (l:=l) (val:=val) (L:=fun i=>decide (i<j)) (k:=0) σ j rfl (fun i o _ _ ho=>stepE i o ho) Zo (fun i _ h2=>by simp[h2]) j Zo;rw[e2,e3,Nat.zero_add]
  have xl: ∀d s,(l[j]).dst=some d→lk (BV (σ 0).env l val (fun i=>(listed.setIfInBounds j true).getD i false) 0 l.length) s=if d=s then val j else lk (BV (σ 0).env l val (fun i=>listed.getD i false) 0 l.length) s:=by
   intro d s hd
   have e:=NK (E:=(σ 0).env) (l:=l) (val:=val) (L:=fun i=>listed.getD i false) (M:=fun i=>(listed.setIfInBounds j true).getD i false) (k:=0) j d (Nat.zero_le _) (by rw[ho];exact hd) VI hM (fun i tQ hL ME=>by
    have MA:i<l.length:=by
     rcases Nat.lt_or_ge i l.length with h|h
     ·exact h
     ·rw[List.getElem?_eq_none h]at ME;cases ME
    have D8:l[i]? =some l[i]:=Zeg MA;rw[D8]at ME;simp only[Option.bind_some]at ME;have:=MB i _ tQ D8 (by simp[LZ,hd,ME]);rw[this]at hL;cases hL) s l.length
   rw[e];by_cases N4:d=s
   ·rw[if_pos ⟨Zo,N4⟩,if_pos N4]
   ·rw[if_neg (fun hh=>N4 hh.2),if_neg N4]
  have qS:(l[j]).dst=none→BV (σ 0).env l val (fun i=>(listed.setIfInBounds j true).getD i false) 0 l.length=BV (σ 0).env l val (fun i=>listed.getD i false) 0 l.length:=fun hd=>
   Le (E:=(σ 0).env) (l:=l) (val:=val) (L:=fun i=>listed.getD i false) (M:=fun i=>(listed.setIfInBounds j true).getD i false) (k:=0) j (by rw[ho];exact hd) hM l.length
  cases hq:qf rs j l[j]with
  |true=>
   obtain⟨_,_,MD⟩:=xh j _ ho hq
   have BE:=MD ⟨BV (σ 0).env l val (fun i=>listed.getD i false) 0 l.length,(σ m).heap⟩ (fun hu=>by
    refine seg2 m j hm Zo (fun i oi D8 Ra=>?_);have h1:=Xk i oi D8 Ra;rcases hD.tied i j oi _ D8 ho hq Ra hu with h|h
    ·have h2:=HR i h;have h3:=PR hD (j+1) j Zo _ ho i h;exact⟨fun _=>h3,fun _=>h1.1 h2⟩
    ·have h3:=PR hD (i+1) i Zo _ D8 j h;refine⟨fun h4=>?_,fun h4=>by omega⟩;have:=lK i oi D8 (h1.2 h4);rw[h]at this;cases this) (hS5 m hm) bN
   refine wh _ _ hG (.inl BE) ?_;rintro st' a' w' rfl Cj;refine ih _ a' w' uU kl XW ⟨m,hm,fun i o D8 Ra=>?_,?_⟩
   ·rw[hM]
    have CD:(i==j)=false:=by
     simp only[beq_eq_false_iff_ne];intro e;subst e
     rw[ho]at D8;injection D8 with D8;subst D8
     rw[hq]at Ra;cases Ra
    rw[CD,Bool.or_false];exact Xk i o D8 Ra
   ·refine Cj.congr (fun s=>?_) (by cases (l[j]).dst<;>rfl);cases hd:(l[j]).dst with
    |none=>
     show lk (BV _ _ _ _ _ _) s=lk (BV _ _ _ _ _ _) s;rw[qS hd]
    |some d=>
     show lk (BV _ _ _ _ _ _) s=lk ((d,val j)::BV _ _ _ _ _ _) s;rw[xl d s hd];simp only[lk]
  |false=>
   obtain⟨h',e1,_,hv⟩:=qH j _ ho hq;have hb: ∀i oi,i<j→l[i]? =some oi→qf rs i oi=false→listed.getD i false=true:=fun i oi eZ D8 Ra=>K9 i oi eZ D8 (by simp[LZ,Ra,hq]);have ha: ∀i oi,j<i→l[i]? =some oi→qf rs i oi=false→listed.getD i false=false:=fun i oi eZ D8 Ra=>MB i oi eZ D8 (by simp[LZ,Ra,hq])
   have RN:(σ m).heap=(σ j).heap:=by
    refine seg2 m j hm Zo (fun i oi D8 Ra=>?_);have h1:=Xk i oi D8 Ra;rcases Nat.lt_trichotomy i j with h|h|h
    ·exact⟨fun _=>h,fun _=>h1.1 (hb i oi h D8 Ra)⟩
    ·subst h;rw[VI]at h1;simp at h1;omega
    ·have:=ha i oi h D8 Ra;rw[this]at h1;simp at h1;omega
   have BE:=hv ⟨BV (σ 0).env l val (fun i=>listed.getD i false) 0 l.length,(σ m).heap⟩ RN bN;refine wh _ _ hG BE ?_;rintro st' a' w' rfl Cj;refine ih _ a' w' uU kl XW ⟨j+1,Zo,fun i o D8 Ra=>?_,?_⟩
   ·rw[hM];rcases Nat.lt_trichotomy i j with h|h|h
    ·rw[hb i o h D8 Ra];simp;omega
    ·subst h;simp
    ·rw[ha i o h D8 Ra];simp;omega
   ·refine Cj.congr (fun s=>?_) (by rw[e1]);cases hd:(l[j]).dst with
    |none=>
     show lk (BV _ _ _ _ _ _) s=lk (BV _ _ _ _ _ _) s;rw[qS hd]
    |some d=>
     show lk (BV _ _ _ _ _ _) s=lk ((d,val j)::CM d (BV _ _ _ _ _ _)) s;rw[xl d s hd,My]
     ·simp only[lk]
     ·refine Wv (h0 j _ ho d hq hd) (fun i hL ME=>?_) _
      have MA:i<l.length:=by
       rcases Nat.lt_or_ge i l.length with h|h
       ·exact h
       ·rw[List.getElem?_eq_none h]at ME;exact absurd rfl ME
      have D8:l[i]? =some l[i]:=Zeg MA;rw[D8]at ME;simp only[Option.bind_some]at ME;cases Ra:qf rs i l[i]with
      |true=>exact IK ((xh i _ D8 Ra).2.1 ME) d (hD.pz j i _ _ d ho D8 Ra hq hd (lK i _ D8 hL))
      |false=>
       obtain⟨_,_,e2,_⟩:=qH i _ D8 Ra;cases uD:(l[i]).dst with
       |none=>exact absurd uD ME
       |some di=>
        refine e2 di d uD (fun e=>?_);have eZ:i≠j:=fun e=>by subst e;rw[VI]at hL;cases hL
        exact hD.apart i j _ _ di eZ D8 ho Ra hq uD (by rw[hd,e])
end
theorem dZ{P:Program}{T:BT}(hT:T.ok P)(H5:List (Nat×AN)){n B:Nat}{w0:AT}{Q:Exit→St→Prop}{st:St}{id:Nat}{l:List Oper}(rs:List (Nat×List Nat))(hm:P.follows .mixedOrders=true)(hD:PQ l (Region.before l.toArray).toList rs=true)
  (hE:P2 (Nt l rs) st.env) (hS:Gl H5 st.heap) (h:AO P T n l.toArray H5 (fun st'=>Q .normal st') l rs st):BY P n B w0 (.region id l.toArray true) Q st:=by
 intro a w hG;have ZS:=Uj hD;obtain⟨σ,val,⟨s0,sS⟩,sN,sq,sl⟩:=JK l rs st hS h;refine wpIn_region_any hm ?_
 have Cj:G n B w0 st a {w with drawn:=w.drawn+1}:=by
  obtain⟨ρ,I,hg⟩:=hG;exact⟨ρ,I,hg.quiet ⟨⟨rfl,rfl,rfl,Nat.le_refl _,fun _ _=>rfl⟩,fun _ h=>h,fun _ h h'=>absurd h h',hg.hw.lt⟩⟩
 have GP: ∀i,(Array.replicate l.toArray.size false).getD i false=false:=fun i=>by
  by_cases hi:i<l.length<;>simp[Zag,hi]
 refine nv hT ZS σ val sS (fun i o ho d hq hd p hp=>?_) sq sl (fun a w hg=>⟨_,sN,hg⟩) _ _ a _ (by simp) (fun j o _ hL=>by rw[GP]at hL;cases hL) ?_ ⟨0,Nat.zero_le _,(fun i o _ _=>by rw[GP];simp),?_⟩
 ·rw[s0]at hp;exact OA hE p hp d (Q0 ho hq hd)
 ·have:=List.countP_le_length (p:=fun i=> !(Array.replicate l.toArray.size false).getD i false) (l:=List.range l.length);simpa using this
 ·refine Cj.congr (fun s=>?_) (by rw[s0]);have e:=Dx (E:=(σ 0).env) (l:=l) (val:=val) (L:=fun i=>(Array.replicate l.toArray.size false).getD i false) (k:=0) 0 (fun i _=>GP i) l.length (Nat.zero_le _);show lk (BV _ _ _ _ _ _) s=_;rw[e];show lk (σ 0).env s=_;rw[s0]
theorem HQ{P:Program}{T:BT}{n:Nat}{ops:Array Oper}{K:St→Prop}{st:St}{H5:List (Nat×AN)}{rs:List (Nat×List Nat)}(h:K st):AO P T n ops H5 K [] rs st:=h
theorem Dv{P:Program}{T:BT}{n:Nat}{ops:Array Oper}{K:St→Prop}{o:Oper}{rest:List Oper}{R:List Nat}{rs:List (Nat×List Nat)}{st:St}{H5:List (Nat×AN)}{g:Option (Nat×Bool)}(hq:BB o.op=true)(hg:Rd ops o.guard=some g)
  (h: ∀K':St→Prop,(∀s,Cm R (KI s o.dst)→AO P T n ops H5 K rest rs s→K' s)→I4 P T n o.dst o.op g K' st):AO P T n ops H5 K (o::rest) ((0,R)::rs) st:=by
 have e:qq (0,R) o=true:=by simp[qq,hq]
 simp only[AO,e,cond_true];show BR P T n ops o (fun s=>Cm R (KI s o.dst)∧AO P T n ops H5 K rest rs s) st;exact Fl hg (h _ fun _ h1 h2=>⟨h1,h2⟩)
theorem GN{P:Program}{T:BT}{n:Nat}{ops:Array Oper}{K:St→Prop}{o:Oper}{rest:List Oper}{R:List Nat}{rs:List (Nat×List Nat)}{st:St}{H5:List (Nat×AN)}(hq:BB o.op=true)(hg:o.guard=none)(hd:As n o.dst)
  (h: ∀C:AV→Prop,(∀r,(o.dst≠none→Cm R r)→AO P T n ops H5 K rest rs (st.put o.dst r)→C r)→y6 T H5 o C st):AO P T n ops H5 K (o::rest) ((5,R)::rs) st:=by
 have e:qq (5,R) o=true:=by simp[qq,hq]
 simp only[AO,e,cond_true];show PvS T n ops H5 o (fun r=>(o.dst≠none→Cm R r)∧AO P T n ops H5 K rest rs (st.put o.dst r)) st;have h1:=h _ fun r h1 h2=>(⟨h1,h2⟩:(o.dst≠none→Cm R r)∧AO P T n ops H5 K rest rs (st.put o.dst r));unfold y6 at h1;split at h1
 ·rename_i φ r hp;exact⟨φ,r,hg,hd,hp,h1.1,h1.2⟩
 ·exact h1.elim
theorem Ed{P:Program}{T:BT}{n:Nat}{ops:Array Oper}{K:St→Prop}{o:Oper}{rest:List Oper}{R:List Nat}{rs:List (Nat×List Nat)}{st:St}{H5:List (Nat×AN)}{g:Option (Nat×Bool)}(hq:BB o.op=true)(hg:Rd ops o.guard=some g)
  (h: ∀K':St→Prop,(∀s,Cm R (KI s o.dst)→AO P T n ops H5 K rest rs ⟨s.env,st.heap⟩→K' s)→I4 P T n o.dst o.op g K' ⟨st.env,[]⟩):AO P T n ops H5 K (o::rest) ((1,R)::rs) st:=by
 have e:qq (1,R) o=true:=by simp[qq,hq]
 simp only[AO,e,cond_true];show BR P T n ops o (fun s=>Cm R (KI s o.dst)∧AO P T n ops H5 K rest rs ⟨s.env,st.heap⟩) ⟨st.env,[]⟩;exact Fl hg (h _ fun _ h1 h2=>⟨h1,h2⟩)
theorem GO{P:Program}{T:BT}{n:Nat}{ops:Array Oper}{K:St→Prop}{o:Oper}{rest:List Oper}{R:List Nat}{rs:List (Nat×List Nat)}{st:St}{H5:List (Nat×AN)}{g:Option (Nat×Bool)}(hq:BB o.op=false)(hg:Rd ops o.guard=some g)
  (h: ∀K':St→Prop,(∀s,Gl H5 s.heap→AO P T n ops H5 K rest rs s→K' s)→I4 P T n o.dst o.op g K' st):AO P T n ops H5 K (o::rest) ((0,R)::rs) st:=by
 have e:qq (0,R) o=false:=by simp[qq,hq]
 simp only[AO,e,cond_false];show BR P T n ops o (fun s=>Gl H5 s.heap∧AO P T n ops H5 K rest rs s) st;exact Fl hg (h _ fun _ g h=>⟨g,h⟩)
theorem Fe{P:Program}{T:BT}{n:Nat}{ops:Array Oper}{K:St→Prop}{o:Oper}{rest:List Oper}{R:List Nat}{rs:List (Nat×List Nat)}{st:St}{H5:List (Nat×AN)}{d:Nat}(hd:o.dst=some d)(hg:o.guard=none)(hn:d<n)
  (h: ∀K':St→Prop,(∀s,Gl H5 s.heap→AO P T n ops H5 K rest rs s→K' s)→bq T st (some d) o.op K'):AO P T n ops H5 K (o::rest) ((3,R)::rs) st:=by
 have:qq (3,R) o=false:=by simp[qq]
 simp only[AO,this,cond_false];show SW T n o (fun s=>Gl H5 s.heap∧AO P T n ops H5 K rest rs s) st;exact⟨hg,by rw[hd];exact hn,by rw[hd];exact h _ fun _ g h=>⟨g,h⟩⟩
theorem TO{P:Program}{T:BT}(hT:T.ok P)(H5:List (Nat×AN)){n B:Nat}{w0:AT}{Q:Exit→St→Prop}{st:St}{id:Nat}{l:List Oper}(ds:List Nat)(rs:List (Nat×List Nat))(hm:P.follows .mixedOrders=true)(hD:(decide (Nt l rs=ds)&&PQ l (Region.before l.toArray).toList rs)=true)
  (hE:P2 ds st.env) (hS:Gl H5 st.heap) (h: ∀K:St→Prop,(∀s,Q .normal s→K s)→AO P T n l.toArray H5 K l rs st):BY P n B w0 (.region id l.toArray true) Q st:=by
 rw[Zba,Zdt]at hD;exact dZ hT H5 rs hm hD.2 (by rw[hD.1];exact hE) hS (h _ fun _ h=>h)
attribute [push_cast] y6
end Go.Ad.V5
namespace Go.Ad
theorem cG{P:Program}{T:BT}(hT:T.ok P){n B:Nat}{w0:AT}{ops:Array Oper}{K:St→Prop}{o:Oper}{rest:List Oper}{st:St}{t:TypeId}{m k v:Operand}(E4:o.op=.insert t m k v)(hg:o.guard=none)(h: ∀K':St→Prop,(∀s,AK P n B w0 ops K rest s→K' s)→P8 T o.dst (.mapUpdate t m k v) K' st):AK P n B w0 ops K (o::rest) st:=by
 intro a w ρ I hG next Q FZ
 rw[CI hg hG];have h':=h _ fun _ h=>h;refine LF (fun c' HU=>by rw[E4]at HU;cases HU) ?_;rw[←iW E4];exact SZ hT hG (o:= {o with op:=.mapUpdate t m k v}) h' next Q FZ
end Go.Ad
namespace Go.Ad
open Go.RowKit
def tb(b:Bool)(v:AV):AV:=bif b then v else .top
theorem od(d:Nat)(b:Bool)(v:AV):AV.kill d (tb b v)=tb b (AV.kill d v):=by cases b<;>rfl
theorem oe(v:AV):tb true v=v:=rfl
theorem bF{P:Program}{n B:Nat}{w0:AT}{ops:Array Oper}{K:St→Prop}(S:List Bool→St)(I:List Bool→Prop)(CB: ∀L:List Bool,L.length=ops.size→I L→(∀i,i<ops.size→L[i]? =some true)→K (S L))
  (BE: ∀(L:List Bool) (i:Nat) (o:Oper),L.length=ops.size→I L→ops.toList[i]? =some o→L[i]? =some false→(∀e∈o.after,Region.binds .any e=true→L[e.on]? =some true)→I (L.set i true)∧ ∀K':St→Prop,(∀s,(∀a w,G n B w0 s a w→G n B w0 (S (L.set i true)) a w)→K' s)→AK P n B w0 ops K' [o] (S L))
  (BU: ∀L:List Bool,L.length=ops.size→I L→Region.ready .any ops L.toArray= []→ ∀i,i<ops.size→L[i]? =some true)
  {Q:Exit→Act→World→Prop} (hQ: ∀st' a' w',K st'→G n B w0 st' a' w'→Q .normal a' w'):
  ∀(fuel:Nat) (L:List Bool) (a:Act) (w:World),E6 L≤fuel→L.length=ops.size→I L→G n B w0 (S L) a w→wpAnyIn (fo w0) 0 P .any ops Q fuel L.toArray a w
 |0,L,a,w,hf,hs,hI,hG=>by
  have hr:Region.ready .any ops L.toArray= []:=by
   refine List.eq_nil_iff_forall_not_mem.2 fun j hj=>?_;exact KK L j Zo (MR (mem_ready.1 hj).1)
  exact⟨hr,hQ _ a w (CB L hs hI (BU L hs hI hr)) hG⟩
 |fuel+1,L,a,w,hf,hs,hI,hG=>by
  refine⟨fun he=>hQ _ a w (CB L hs hI (BU L hs hI he)) hG,fun i hi=>?_⟩;have hL:L[i]? =some false:=MR (mem_ready.1 hi).1;obtain⟨o,ho,ha⟩:=(mem_ready.1 hi).2;have H3:ops.toList[i]? =some o:=by rw[Array.getElem?_toList];exact ho
  obtain⟨hI',AA1⟩:=BE L i o hs hI H3 hL fun e he hb=>by
   have:=ha e he hb;simp only[Zag,List.getElem?_toArray]at this;cases h:L[e.on]? with
   |none=>rw[h]at this;simp at this
   |some b=>rw[h]at this;simp at this;rw[this]
  obtain⟨ρ,I',hg⟩:=hG
  have:=AA1 (fun s=> ∀a w,G n B w0 s a w→G n B w0 (S (L.set i true)) a w) (fun s h2=>h2) a w ρ I' hg (wpAnyIn (fo w0) 0 P .any ops Q fuel (L.toArray.setIfInBounds i true)) Q (fun st' a' w' h2 Cj=>by
   have h5:=Lj L i hL;have h6:=bF S I CB BE BU hQ fuel (L.set i true) a' w' Zo (by simpa using hs) hI' (h2 _ _ Cj);simpa using h6)
  unfold wpOpIn;simp only[ho];exact this
theorem XK{P:Program}{n B:Nat}{w0:AT}{Q:Exit→St→Prop}{st:St}{id:Nat}{ops:Array Oper}(hm:P.follows .mixedOrders=true)(S:List Bool→St)(I:List Bool→Prop)(h0:S (List.replicate ops.size false)=st)(hI:I (List.replicate ops.size false))
  (CB:Q .normal (S (List.replicate ops.size true)))
  (AA2:((List.range ops.size).all fun i=>((ops.toList[i]?.map (·.after)).getD #[]).toList.all fun e=> !Region.binds .any e||decide (e.on<i))=true)
  (BE: ∀(L:List Bool) (i:Nat) (o:Oper),L.length=ops.size→I L→ops.toList[i]? =some o→L[i]? =some false→(∀e∈o.after,Region.binds .any e=true→L[e.on]? =some true)→I (L.set i true)∧ ∀K':St→Prop,(∀s,(∀a w,G n B w0 s a w→G n B w0 (S (L.set i true)) a w)→K' s)→AK P n B w0 ops K' [o] (S L)):BY P n B w0 (.region id ops true) Q st:=by
 intro a w hG;refine wpIn_region_any hm ?_
 have Cj:G n B w0 (S (List.replicate ops.size false)) a {w with drawn:=w.drawn+1}:=by
  rw[h0];obtain⟨ρ,I,hg⟩:=hG;exact⟨ρ,I,hg.quiet ⟨⟨rfl,rfl,rfl,Nat.le_refl _,fun _ _=>rfl⟩,fun _ h=>h,fun _ h h'=>absurd h h',hg.hw.lt⟩⟩
 have hle: ∀n,E6 (List.replicate n false)≤n:=fun n=>by
  induction n with
  |zero=>simp[E6]
  |succ n ih=>simp only[List.replicate_succ,E6];omega
 have BU: ∀L:List Bool,L.length=ops.size→I L→Region.ready .any ops L.toArray= []→ ∀i,i<ops.size→L[i]? =some true:=by
  intro L hL _ hr i;induction i using Nat.strongRecOn with
  |ind i ih=>
   intro hi;have zz:L[i]? =some L[i]:=Zeg Zo;rw[zz];cases hb:L[i]with
   |true=>rfl
   |false=>
    have:i∈Region.ready .any ops L.toArray:=mem_ready.2 ⟨by simp[zz,hb],ops[i],Array.getElem?_eq_getElem hi,fun e he Ol=>by
     have h1:=List.all_eq_true.1 AA2 i (by simpa using hi);have h2:ops.toList[i]? =some ops[i]:=by rw[Array.getElem?_toList];exact Array.getElem?_eq_getElem hi
     rw[h2]at h1;have h3:=List.all_eq_true.1 h1 e (by simpa using he);rw[Ol]at h3;have h4:e.on<i:=by simpa using h3
     have:=ih e.on h4 Zo;simp[this]⟩
    rw[hr]at this;cases this
 have:=bF (K:=fun s=> ∀a w,G n B w0 s a w→G n B w0 (S (List.replicate ops.size true)) a w) S I (fun L hL hI ht=>by
  have:L=List.replicate ops.size true:=List.ext_getElem (by simpa using hL) fun i h1 h2=>by
   have:=ht i Zo;rw[Zeg h1]at this;simpa using this
  rw[this];exact fun _ _ h=>h) BE BU (Q:=fun e a' w'=> ∃st',Q e st'∧G n B w0 st' a' w') (fun st' _ _ hK Cj=>⟨_,CB,hK _ _ Cj⟩) ops.size (List.replicate ops.size false) a _ (hle _) (by simp) hI Cj
 simpa using this
attribute [push_cast] od oe
end Go.Ad
namespace Go.Tp
open Go.Ad
def vw:Ex:=.mk 0 0 ⟨#[]⟩ 0 [] []
structure Ac where
 FU:List Ex
 G9:List Int
 GU:Ex
 d:List Dg
def Uq(x:Ex):Bool:=decide (400<x.size)||decide (40<x.depth)
def FC(t:Tr)(s:Ac)(c:Nd):Ac:=
 if c.kind=7 then{s with G9:=s.G9++c.kids.map Nd.n}
 else⟨if c.kind=6 then s.FU++ [Fk t (CN c)]else s.FU,s.G9,if c.kind=6 then s.GU else Fk t (CN c),if Uq (Fk t (CN c))=true then s.d++ [⟨2⟩]else s.d⟩
def RU(t:Tr)(l:List Nd):Ac:=l.foldl (FC t) ⟨[],[],vw,[]⟩
theorem j9(t:Tr)(l:List Nd)(j:Nat)(hj:j<l.length):RU t (l.take (j+1))=FC t (RU t (l.take j)) (l.getD j default):=by
 rw[Cx hj];simp[RU]
def p6(t:Tr)(e:Nd):Ar:=
 let h:=e.kids.getD 0 default
 let s:=RU t (e.kids.drop 1)
 ⟨e.n,A0 t.lm (.s e.name) 0,h.n,h.fr,h.to,h.known,s.FU,s.G9,s.GU⟩
def F0(t:Tr)(s:List Ar×List Dg)(x:Nd):List Ar×List Dg:=if x.kind=4 then(s.1++ [p6 t x],s.2++(RU t (x.kids.drop 1)).d)else s
def W5(t:Tr)(l:List Nd):List Ar×List Dg:=l.foldl (F0 t) ([],[])
theorem kB(t:Tr)(l:List Nd)(j:Nat)(hj:j<l.length):W5 t (l.take (j+1))=F0 t (W5 t (l.take j)) (l.getD j default):=by
 rw[Cx hj];simp[W5]
def oI:Cd:=⟨[],[],[]⟩
def FY(e:Nd):Cd×List Dg:=
 if Io e≠ []then(oI,Io e)
 else if(W5 (Fu e.kids) e.kids).2≠ []then(oI,(W5 (Fu e.kids) e.kids).2.take 20)
 else(⟨(Fu e.kids).facts,(Fu e.kids).lines,(W5 (Fu e.kids) e.kids).1⟩,[])
theorem EE: ∀l:List Nd,l.length≤Nd.AP l
 | []=>Nat.le_refl _
 |k::r=>by have:=EE r;have:=Nd.size_eq k;simp only[List.length_cons,Nd.AP];omega
theorem M1(t:Tr)(l:List Nd):(RU t l).FU.length≤l.length∧(RU t l).G9.length≤Nd.AP l∧(RU t l).d.length≤l.length:=by
 suffices h: ∀(l:List Nd) (s:Ac),(l.foldl (FC t) s).FU.length≤s.FU.length+l.length∧(l.foldl (FC t) s).G9.length≤s.G9.length+Nd.AP l∧(l.foldl (FC t) s).d.length≤s.d.length+l.length by
  have:=h l ⟨[],[],vw,[]⟩;simp only[List.length_nil,Nat.zero_add]at this;exact this
 intro l;induction l with
 |nil=>intro s;simp[Nd.AP]
 |cons c r ih=>
  intro s;have h1:=ih (FC t s c)
  have h2:(FC t s c).FU.length≤s.FU.length+1∧(FC t s c).G9.length≤s.G9.length+c.size∧(FC t s c).d.length≤s.d.length+1:=by
   have hc:=Nd.size_eq c;have hk:=EE c.kids;unfold FC;split
   ·simp;omega
   ·refine⟨?_,by simp,?_⟩
    ·show(if c.kind=6 then s.FU++ [Fk t (CN c)]else s.FU).length≤_;split<;>simp
    ·show(if Uq (Fk t (CN c))=true then s.d++ [(⟨2⟩:Dg)]else s.d).length≤_;split<;>simp
  rw[List.foldl_cons,List.length_cons];simp only[Nd.AP];omega
theorem W6(t:Tr)(l:List Nd):(W5 t l).1.length≤l.length∧(W5 t l).2.length≤Nd.AP l:=by
 suffices h: ∀(l:List Nd) (s:List Ar×List Dg),(l.foldl (F0 t) s).1.length≤s.1.length+l.length∧(l.foldl (F0 t) s).2.length≤s.2.length+Nd.AP l by
  have:=h l ([],[]);simp only[List.length_nil,Nat.zero_add]at this;exact this
 intro l;induction l with
 |nil=>intro s;simp[Nd.AP]
 |cons c r ih=>
  intro s;have h1:=ih (F0 t s c)
  have h2:(F0 t s c).1.length≤s.1.length+1∧(F0 t s c).2.length≤s.2.length+c.size:=by
   have hc:=Nd.size_eq c;have hk:=EE c.kids;have ha:=(M1 t (c.kids.drop 1)).2.2;unfold F0;split
   ·simp at ha ⊢;omega
   ·simp
  rw[List.foldl_cons,List.length_cons];simp only[Nd.AP];omega
theorem Q5(d:List Dg)(k:Int):rp d k≠ []:=by
 unfold rp;split
 ·simp
 ·rename_i hl;intro h;rw[h]at hl;simp at hl
theorem eM(sc:Sc)(e:Nd): ∀d:List Dg,(BO sc e d).2= []→d= []∧(BO sc e d).1≠⟨#[]⟩∧(JB e=true→sc.facts≠ []):=by
 induction e using Nd.ind with
 |h e ih=>
  intro d h
  have key: ∀(l:List Nd),(∀k∈l,k∈e.kids)→ ∀d:List Dg,(Bx sc l d).2= []→d= []∧(∀x∈(Bx sc l d).1,x≠⟨#[]⟩)∧(∀k∈l,JB k=true→sc.facts≠ []):=by
   intro l;induction l with
   |nil=>intro _ d hd;simp only[Bx]at hd ⊢;exact⟨hd,by simp,by simp⟩
   |cons x r ihr=>
    intro hm d hd;simp only[Bx]at hd ⊢;obtain⟨h1,h2,h3⟩:=ihr (fun k hk=>hm k (by simp[hk])) _ hd;obtain⟨h4,h5,h6⟩:=ih x (hm x (by simp)) d h1;refine⟨h4,fun y hy=>?_,fun k hk=>?_⟩
    ·rcases List.mem_cons.1 hy with rfl|hy
     ·exact h5
     ·exact h2 y hy
    ·rcases List.mem_cons.1 hk with rfl|hk
     ·exact h6
     ·exact h3 k hk
  have keyk:=key e.kids (fun _ hk=>hk) d;have h0:=h;rw[NX]at h ⊢;unfold I7 at h ⊢;split at h
  ·rename_i BU;simp only at h;split at h
   ·exact absurd h (Q5 _ _)
   ·rename_i hu;obtain⟨h1,h2,h3⟩:=keyk h;rw[if_pos BU];refine⟨h1,hu,fun ez hf=>?_⟩;rw[Qb,Bool.or_eq_true,Zdt,List.any_eq_true]at ez;rcases ez with k12|⟨k,hk,El⟩
    ·have:CY sc e (Bx sc e.kids d).1=(Fh sc.facts e.name,91):=by
      unfold CY;rw[if_neg Zo,if_pos k12]
     rw[this,hf]at hu;exact hu rfl
    ·exact h3 k hk El hf
  ·rename_i BU;obtain⟨h1,h2,h3⟩:=keyk h;exact absurd (List.all_eq_true.2 fun x hx=>by simp[h2 x hx]) BU
theorem oM{sc:Sc}{a c:Nd}{d:List Dg}(h:UA sc a c d= []):d= []∧(c.kind≠7→JB (CN c)=true→sc.facts≠ []):=by
 unfold UA at h;split at h
 ·rename_i k7;refine⟨?_,fun h=>absurd k7 h⟩
  have hc: ∀(l:List Nd) (d:List Dg),fI sc a.n l d= []→d= []:=by
   intro l;induction l with
   |nil=>intro d h;exact h
   |cons x r ih=>
    intro d h;have h1:=ih (if x.n=a.n then rp d 101 else if Od sc.BX x.n=true then d else rp d 91) h;split at h1
    ·exact absurd h1 (Q5 _ _)
    split at h1
    ·exact h1
    ·exact absurd h1 (Q5 _ _)
  exact hc _ _ h
 ·split at h
  ·exact absurd h (Q5 _ _)
  ·obtain⟨h1,_,h3⟩:=eM sc (CN c) d h;exact⟨h1,fun _=>h3⟩
theorem ay{sc:Sc}{a:Nd}: ∀ {l:List Nd} {d:List Dg},aA sc a l d= []→d= []∧ ∀c∈l,c.kind≠7→JB (CN c)=true→sc.facts≠ []
 | [],d,h=>⟨h,by simp⟩
 |c::r,d,h=>by
  obtain⟨h1,h2⟩:=ay (l:=r) (d:=UA sc a c d) h;obtain⟨h3,h4⟩:=oM h1;refine⟨h3,fun x hx=>?_⟩;rcases List.mem_cons.1 hx with rfl|hx
  ·exact h4
  ·exact h2 x hx
theorem oO{sc:Sc}{RT:Int}{x:Nd}{d:List Dg}(h:Xg sc RT x d= []):d= []∧sc.lines≠ []:=by
 unfold Xg at h;split at h
 ·exact absurd h (Q5 _ _)
 split at h
 ·rename_i hl;have:sc.lines≠ []:=fun hn=>by rw[hn]at hl;cases hl
  split at h
  ·exact⟨h,this⟩
  ·exact absurd h (Q5 _ _)
 ·exact absurd h (Q5 _ _)
theorem kH{sc:Sc}: ∀(l:List Nd) (s:Int×List Dg),(l.foldl (EH sc) s).2= []→s.2= []∧ ∀x∈l,x.kind=4→sc.lines≠ []∧ ∀c∈x.kids.drop 1,c.kind≠7→JB (CN c)=true→sc.facts≠ []
 | [],s,h=>⟨h,by simp⟩
 |y::r,s,h=>by
  obtain⟨h1,h2⟩:=kH r (EH sc s y) h;by_cases k4:y.kind=4
  ·have e:(EH sc s y).2=aA sc y (y.kids.drop 1) (Xg sc (s.1+1) y s.2):=by unfold EH;rw[if_pos k4]
   rw[e]at h1;obtain⟨h3,h4⟩:=ay h1;obtain⟨h5,h6⟩:=oO h3;refine⟨h5,fun x hx k=>?_⟩;rcases List.mem_cons.1 hx with rfl|hx
   ·exact⟨h6,h4⟩
   ·exact h2 x hx k
  ·have e:EH sc s y=s:=by unfold EH;rw[if_neg k4]
   rw[e]at h1;refine⟨h1,fun x hx k=>?_⟩;rcases List.mem_cons.1 hx with rfl|hx
   ·exact absurd k k4
   ·exact h2 x hx k
theorem p7: ∀(l:List Nd) (sc:Sc) (t:Tr),(sc.facts≠ []→t.facts≠ [])∧(sc.lines≠ []→t.lines≠ [])→((l.foldl C4 sc).facts≠ []→(l.foldl D0 t).facts≠ [])∧((l.foldl C4 sc).lines≠ []→(l.foldl D0 t).lines≠ [])
 | [],sc,t,h=>h
 |x::r,sc,t,h=>by
  refine p7 r (C4 sc x) (D0 t x) ?_;unfold C4 D0;by_cases k2:x.kind=2
  ·rw[if_pos k2,if_pos k2];exact⟨fun _=>by simp,h.2⟩
  rw[if_neg k2,if_neg k2];by_cases k3:x.kind=3
  ·rw[if_pos k3,if_pos k3];exact⟨h.1,fun _=>by simp⟩
  rw[if_neg k3,if_neg k3];split
  ·exact h
  ·exact h
theorem eN{e:Nd}(h:Io e= [])(x:Nd)(hx:x∈e.kids)(k4:x.kind=4):0<(Fu e.kids).lines.length∧ ∀c∈x.kids.drop 1,c.kind≠7→JB (CN c)=true→0<(Fu e.kids).facts.length:=by
 obtain⟨_,h2⟩:=kH (sc:=C5 e.kids) e.kids (0,(Z9 e.kids []).d) h;obtain⟨h3,h4⟩:=h2 x hx k4;obtain⟨h5,h6⟩:=p7 e.kids ⟨[],[],[]⟩ ⟨[],[],[],[],[]⟩ ⟨fun h=>absurd rfl h,fun h=>absurd rfl h⟩;exact⟨List.length_pos_iff.2 (h6 h3),fun c hc k7 ez=>List.length_pos_iff.2 (h5 (h4 c hc k7 ez))⟩
end Go.Tp
