/- Part of a proof. -/
import Derived.RecoverIn
import Derived.Test.YthemnhjojaehhaaGreatDoorA28
set_option linter.all false
namespace Go.Ad
open Go.RowKit
abbrev dS(Ds:List Nat):List Deferred:=Ds.map (fun D=> {target:=.collected D,args:= #[]})
def Idle(P:Program)(d:Deferred):Prop:= ∀w:World,∃fv cap f args,d.target=.fn fv cap∧(invoke d.target d.args).run P w=.ok (.enter f args) w∧CallsDIn Fence.wide 0 P f args .returning w (fun e u' w'=>(∃v,e=.returned v)∧u'=.returning∧w'=w)
theorem L6{P:Program}{fn:Func}{tmps:Array Value}{R:Ending→World→Prop}{d:Deferred}(hd:Idle P d)(Ds1:List Nat): ∀(Ds2:List Nat) (w:World),(Ds2++Ds1).Nodup→(∀D∈Ds2++Ds1,w.heap[D]? =some (.deferred (some [])))→
  (∃v,(results fn tmps).run P (shut w (Ds2++Ds1))=.ok v (shut w (Ds2++Ds1))∧R (.returned v) (shut w (Ds2++Ds1)))→LeavesInM Fence.wide 0 P fn tmps R (dS Ds2++d::dS Ds1) .returning w
 | [],w,hn,hD,h=>by
  refine⟨by simp,.inr ⟨fun h=>by simp[Fence.wide]at h,?_⟩⟩;obtain⟨fv,cap,f,args,h1,h2,h3⟩:=hd w;refine⟨fv,cap,f,args,h1,h2,fun _ _=>trivial,h3.mono ?_⟩;rintro e u' w' ⟨⟨v,rfl⟩,rfl,rfl⟩;exact Eo Ds1 _ hn hD h
 |D::r,w,hn,hD,h=>by
  refine⟨by simp,.inl ⟨D,_,rfl,run_takeDeferred (hD D (by simp)),?_⟩⟩;refine L6 hd Ds1 r _ (List.nodup_cons.1 hn).2 (fun D' ZS=>?_) h;rw[World.putObj_heap_other (fun e=>(List.nodup_cons.1 hn).1 (by rw[←e];exact ZS))];exact hD D' (List.mem_cons_of_mem _ ZS)
def pq(P:Program)(n B:Nat)(w0:AT)(c:Code)(Q:Exit→St→Prop)(st:St):Prop:=
 ∀a w,a.defers= []→G n B w0 st a w→c.wpIn (fo w0) 0 P (fun e a' w'=> ∃(st':St) (Ds2 Ds1:List Nat) (d:Deferred),Q e st'∧a'.defers=dS Ds2++d::dS Ds1∧Idle P d∧G n B w0 st' {a' with defers:=dS (Ds2++Ds1)} w') a w
theorem ah: ∀ {a b:List Nat},dS a=dS b→a=b
 | [],[],_=>rfl
 | [],_::_,h=>by cases h
 |_::_,[],h=>by cases h
 |x::a,y::b,h=>by
  simp only[dS,List.map_cons,List.cons.injEq]at h;obtain⟨h1,h2⟩:=h;have e:x=y:=by injection h1 with h1 _;injection h1
  rw[e,ah h2]
theorem R1{P:Program}{f:FuncId}{fn:Func}{c:Code}{n B:Nat}{w0:AT}{Q:Exit→St→Prop}{st:St}{vs:Array Value}{w:World}{R:Ending→World→Prop}(hf:P.funcs[f]? =some fn)(hb:fn.body=some c)(Az:w0.rd=none)(N4:w0.ds= [])
  (h:pq P n B w0 c Q st) (hG:G n B w0 st {tmps:=vs++Array.replicate (fn.ntmps - vs.size) undef,defers:= []} w)
  (CB: ∀e st' a' w' ρ I,Q e st'→B3 n B w0 st' a' w' ρ I→(e=.ret∨e=.normal)∧ ∃v,(results fn a'.tmps).run P w'=.ok v w'∧R (.returned v) w'):Calls P f vs w R:=by
 have Xj:fo w0=Fence.wide:=by unfold fo;rw[Az];rfl
 have hw:=h _ w rfl hG;rw[Xj]at hw;refine(callsIn_wide (n:=0)).1 (callsIn_of_wp_marks hf hb trivial (wpIn_mono hw fun e a' w' ⟨st',Ds2,Ds1,d,h1,xW,hid,ρ,I,Cj⟩=>?_) rfl);obtain⟨Ds,d1,d2,d3,tO⟩:=Cj.shut;obtain⟨he,v,hv,hR⟩:=CB e st' _ _ ρ I h1 tO;rw[N4,List.append_nil]at d1;have hDs:Ds2++Ds1=Ds:=ah d1;subst hDs;rcases he with rfl|rfl
 ·show LeavesInM _ _ _ _ _ _ _ _ _;rw[xW];exact L6 hid Ds1 Ds2 w' d2 d3 ⟨v,hv,hR⟩
 ·show LeavesInM _ _ _ _ _ _ _ _ _;rw[xW];exact L6 hid Ds1 Ds2 w' d2 d3 ⟨v,hv,hR⟩
theorem B3.sH{n B:Nat}{wg:AT}{st1 st':St}{a1 a':Act}{w1 w':World}{ρ1 ρ':Nat→Option Value}{I1 I':Nat→Prop}{ds:List Deferred}{Ds2 Ds1:List Nat}(h1:B3 n B wg st1 a1 w1 ρ1 I1)(LL:a1.defers=dS Ds1++wg.ds)(hM:Ds1.Nodup∧ ∀D∈Ds1,B≤D∧ ¬wg.I D∧I1 D∧w1.heap[D]? =some (.deferred (some [])))
  (h2:B3 n B ⟨w1,I1,wg.gh,ds,wg.rd,h1.gl⟩ st' a' w' ρ' I') (VG:Ds2.Nodup∧ ∀D∈Ds2,B≤D∧ ¬I1 D∧I' D∧w'.heap[D]? =some (.deferred (some []))):B3 n B wg st' {a' with defers:=dS (Ds2++Ds1)++wg.ds} w' ρ' I':=by
 refine⟨⟨Ds2++Ds1,rfl,?_,fun D hD=>?_⟩,h2.size,h2.env,h2.hw,h1.below.trans h2.below,h2.base,⟨fun b hb=>?_,h2.BQ.gh,h2.BQ.JQ,fun b hb=>?_⟩⟩
 ·exact List.nodup_append.2 ⟨VG.1,hM.1,fun x hx y hy e=>(VG.2 x hx).2.1 (by rw[e];exact(hM.2 y hy).2.2.1)⟩
 ·rcases List.mem_append.1 hD with hD|hD
  ·obtain⟨e1,e2,e3,e4⟩:=VG.2 D hD;exact⟨e1,fun h=>e2 (h1.BQ.B2 D h).1,e3,e4⟩
  ·obtain⟨e1,e2,e3,e4⟩:=hM.2 D hD;have k:=h2.BQ.B2 D e3;exact⟨e1,e2,k.1,by rw[k.2];exact e4⟩
 ·rcases h2.BQ.up b hb with h|h
  ·exact h1.BQ.up b h
  ·exact .inr h
 ·have k1:=h1.BQ.B2 b hb;have k2:=h2.BQ.B2 b k1.1;exact⟨k2.1,by rw[k2.2];exact k1.2⟩
def Uh(P:Program)(T:BT)(f:FuncId)(args:List AV)(H:List (Nat×AN))(r:AV)(H':List (Nat×AN)):Prop:=
 ∃(fn:Func) (c:Code),P.funcs[f]? =some fn∧fn.body=some c∧(fn.name== "runtime.NumGoroutine")=false∧args.length≤fn.ntmps∧fn.ntmps≤1000∧
  ∀(B:Nat) (w0:AT) (Y:List (Nat×AN)) (R:AV→List (Nat×AN)→Prop),CW w0.gh→w0.rd=none→w0.ds= []→Dy 2000 Y→(∀Hx,(∀id b,Af (H'++Y) id=some b→Af Hx id=some b)→R r Hx)→
   pq P fn.ntmps B w0 c (P5 T 1000 fn.results.toList R) ⟨EZ 0 args,H++Y⟩
def Ke(P:Program)(T:BT)(gf:Bool)(dst:Option Nat)(op:Op)(K:St→Prop)(st:St):Prop:=
 match A6 st.ev op with
 |some (ψ,k,args)=>(ψ∧EX args)∧ ∃H r H',Uh P T k (Bu args) H r H'∧okF H H' (Bu args) r∧(∀id b,Af H id=some b→Af st.heap id=some b)∧Bg (Dz H) st.env∧(∀id b,Af H id=none→Af st.heap id=some b→b.ids (Dz H))∧K (St.put ⟨st.env,H'++st.heap⟩ dst (LS gf r))
 |none=>False
theorem Uh.c{P:Program}{T:BT}{f:FuncId}{args:List AV}{H:List (Nat×AN)}{r:AV}{H':List (Nat×AN)}(h:Uh P T f args H r H'):FunC P T f args H r H':=by
 obtain⟨fn,c,hf,hb,Em,hle,hN,hA⟩:=h;exact⟨fn,c,hf,hb,Em,hle,hN,fun B w0 Y R h1 h2 h3 h4 h5 vs w hG _ CB=>R1 hf hb h2 h3 (hA B w0 Y R h1 h2 h3 h4 h5) hG CB⟩
theorem Wq{P:Program}{T:BT}(hT:T.ok P){n B:Nat}{w0:AT}{st:St}{a:Act}{w:World}{ρ:Nat→Option Value}{I:Nat→Prop}(hG:B3 n B w0 st a w ρ I)(Am:CW w0.gh){o:Oper}(hd:As n o.dst){gf:Bool}{K:St→Prop}(h:Ke P T gf o.dst o.op K st):C1 P n B w0 o a w K:=by
 refine funCStep_ok hT hG Am hd (gf:=gf) ?_;unfold Ke at h;unfold FunCStep;split at h
 ·obtain⟨h1,H,r,H',h2,h3,h4,h5,h6,h7⟩:=h;rename_i Iu;rw[Iu];exact⟨h1,H,r,H',h2.c,h3.nw _,h4,by rw[keptId_iff h3.2.1];exact h5,fun id b g1 g2=>by rw[keptId_iff h3.2.1];exact h6 id b ((h3.2.1 id).1 g1) g2,h7⟩
 ·exact h.elim
section
variable{P:Program}{T:BT}(hT:T.ok P){n B:Nat}{w0:AT}(Am:CW w0.gh){ops:Array Oper}{K:St→Prop}{o:Oper}{rest:List Oper}{st:St}
include hT Am
theorem fD(h: ∀K':St→Prop,(∀s,AK P n B w0 ops K rest s→K' s)→Ke P T false o.dst o.op K' st)(hg:o.guard=none:=by rfl)(hd:As n o.dst:=by simp only[As,Nat.reduceLT]):AK P n B w0 ops K (o::rest) st:=by
 intro a w ρ I hG next Q FZ
 rw[CI hg hG];have h':=h _ fun _ h=>h;refine LF (fun c' HU=>?_) (Wq hT hG Am hd h' next Q FZ);rw[HU]at h';exact h'
end
theorem TH{P:Program}{n B:Nat}{w0:AT}{ops:Array Oper}{K:St→Prop}{Q:Exit→Act→World→Prop}{l2:List Oper}(hQ: ∀st' a' w',K st'→G n B w0 st' a' w'→wpListIn (fo w0) 0 P ops Q l2 a' w'): ∀(l:List Oper) (st:St) (a:Act) (w:World),G n B w0 st a w→AK P n B w0 ops K l st→wpListIn (fo w0) 0 P ops Q (l++l2) a w
 | [],st,a,w,hG,h=>hQ st a w h hG
 |o::rest,st,a,w,⟨ρ,I,hG⟩,h=>by
  rw[List.cons_append];unfold wpListIn;exact h a w ρ I hG _ Q fun st' a' w' hK Cj=>TH hQ rest st' a' w' Cj hK
theorem sI{P:Program}{n B:Nat}{w0:AT}{l1:List Oper}{o:Oper}{id:Nat}{c1 c2:Code}{Q:Exit→St→Prop}{st:St}{x:Operand}{fd:FuncId}{caps:List AV}{ats:Array TypeId}(E4:o.op=.defer ⟨.value x,#[],ats⟩)(hg:o.guard=none)(DD:o.dst=none)(Az:w0.rd=none)(N4:w0.ds= [])
  (hid: ∀us:Array Value,us.size=caps.length→Idle P {target:=.fn (.func fd) us,args:= #[]})
  (h1:BY P n B w0 c1 (fun e s=>e=.normal∧AK P n B w0 (l1++ [o]).toArray (fun s2=>s2.ev x=.f (.func fd) caps∧ ∀w1:AT,w1.gh=w0.gh→w1.rd=none→BY P n B w1 c2 Q s2) l1 s) st):pq P n B w0 (.seq c1 (.seq (.region id (l1++ [o]).toArray false) c2)) Q st:=by
 intro a w yR hG;refine wpIn_seq (wpIn_mono (h1 a w hG) fun e a1 w1 ⟨s,⟨he,hs⟩,Xr⟩=>?_);subst he;refine wpIn_seq (wpIn_region_lit (TH (l2:= [o]) (fun s2 a2 w2 hK tO=>?_) l1 s a1 w1 Xr hs));obtain⟨ρ,I,Gp⟩:=tO;obtain⟨G2,XX⟩:=hK;have hv:=Gp.ev x;rw[G2]at hv;generalize xX:a2.eval x=gu at hv;cases hv with
 |f _ _ us RG fP=>
 simp only[ba]at xX;obtain⟨d,hd⟩: ∃d:Deferred,d= {target:=.fn (.func fd) us,args:= #[]}:=⟨_,rfl⟩
 have B1:(o.semAt (fo w0).round a2.eval).run P w2=.ok (.defer d) w2:=by
  have hr:(fo w0).round=none:=by unfold fo;exact Az
  rw[hr,hd];simp[Oper.semAt,execOp,E4,resolve,xX,Deferred.ofValue]
 have FZ:c2.wpIn (fo w0) 0 P (fun e a' w'=> ∃(st':St) (Ds2 Ds1:List Nat) (d:Deferred),Q e st'∧a'.defers=dS Ds2++d::dS Ds1∧Idle P d∧G n B w0 st' {a' with defers:=dS (Ds2++Ds1)} w') {a2 with defers:=d::a2.defers} w2:=by
  obtain⟨Ds1,m1,m2,m3⟩:=Gp.defers;have hb:=Gp.gY w0.gh (fun id x hx=>Gp.BQ.gh id x hx) Gp.BQ.JQ (d::a2.defers) w0.rd;have hw:=XX ⟨w2,I,w0.gh,d::a2.defers,w0.rd,Gp.gl⟩ rfl Az _ w2 ⟨ρ,I,hb⟩;have Xj:fo ⟨w2,I,w0.gh,d::a2.defers,w0.rd,Gp.gl⟩=fo w0:=rfl;rw[Xj]at hw;refine wpIn_mono hw fun e a3 w3 ⟨s3,fc,ρ3,I3,hg3⟩=>?_;obtain⟨Ds2,e1,e2,e3⟩:=hg3.defers;have hun:=B3.sH (wg:=w0) Gp m1 ⟨m2,m3⟩ hg3 ⟨e2,e3⟩;rw[N4,List.append_nil]at m1 hun;exact⟨s3,Ds2,Ds1,d,fc,by rw[e1,m1],by rw[hd];exact hid us RG,ρ3,I3,hun⟩
 unfold wpListIn;rw[CI hg Gp];refine⟨fun _ _=>trivial,?_⟩;rw[B1,Oper.uponIn_defer,DD];exact FZ
def Ww(P:Program)(T:BT)(gf:Bool)(dst:Option Nat)(op:Op)(K:St→Prop)(st:St):Prop:=
 match A6 st.ev op with
 |some (ψ,k,args)=>(ψ∧EX args)∧ ∃H r H',Uh P T k (Bu args) H r H'∧Oa H H' (Bu args) r=true∧Z2 H=true∧Sd st.heap H∧K (St.put ⟨st.env,H'++st.heap⟩ dst (LS gf r))
 |none=>False
theorem Ww.step{P:Program}{T:BT}{gf:Bool}{dst:Option Nat}{op:Op}{K:St→Prop}{st:St}(h:Ww P T gf dst op K st):Ke P T gf dst op K st:=by
 unfold Ww at h;unfold Ke;cases hc:A6 st.ev op with
 |none=>rw[hc]at h;exact h
 |some x=>
  obtain⟨ψ,k,args⟩:=x;rw[hc]at h;obtain⟨h1,H,r,H',h2,h3,h4,h5,h6⟩:=h;exact⟨h1,H,r,H',h2,Tv h3,fun id b=>KL h5,QH (Mb h4) _,fun id b _ _=>AN.Ks (Mb h4) b,h6⟩
section
variable{P:Program}{T:BT}(hT:T.ok P){n B:Nat}{w0:AT}(Am:CW w0.gh){ops:Array Oper}{K:St→Prop}{o:Oper}{rest:List Oper}{st:St}
include hT Am
theorem fDE(h: ∀K':St→Prop,(∀s,AK P n B w0 ops K rest s→K' s)→Ww P T false o.dst o.op K' st)(hg:o.guard=none:=by rfl)(hd:As n o.dst:=by simp only[As,Nat.reduceLT]):AK P n B w0 ops K (o::rest) st:=fD hT Am (fun K' AX=>(h K' AX).step) hg hd
end
attribute [push_cast] Ww
end Go.Ad
namespace Go.Tp
open Go.Ad
theorem np{m:Int}{l:List UInt8}{i:Nat}(h:Fi m (l.drop i)=true):i<l.length:=by
 by_cases hi:i<l.length
 ·exact hi
 ·rw[List.drop_eq_nil_of_le Zo]at h;cases h
theorem nq{p l:List UInt8}(h:Gz p l=true):p.length≤l.length:=by
 unfold Gz at h;have:=congrArg List.length (of_decide_eq_true h);rw[List.length_take]at this;omega
theorem ns{l:List UInt8}{k:Int}{e:Nat}(h:UN l=some (k,e)):e≤l.length:=by
 unfold UN at h;cases hA:Rv l with
 |none=>rw[hA]at h;cases h
 |some p=>
  obtain⟨k',e'⟩:=p;rw[hA]at h;simp only at h;split at h
  ·cases h
  injection h with h;injection h with h1 h2
  subst h1;subst h2
  unfold Rv at hA;have hr:=Jg 8 l;split at hA
  ·rename_i hd;injection hA with hA;injection hA with h1 h2
   subst h2;unfold DK at hd;simp only[Zba,Zdt]at hd;exact hd.1
  split at hA
  ·cases hA
  split at hA
  ·split at hA
   ·cases hA
   ·rename_i hn;injection hA with hA;injection hA with h1 h2
    subst h2
    have h3:Fi 8 (l.drop (Cy 8 l+2))=true:=by
     cases hh:Fi 8 (l.drop (Cy 8 l+2))with
     |true=>rfl
     |false=>exact absurd (.inr (.inr hh)) hn
    have:=np h3;omega
  ·split at hA
   ·cases hA
   ·injection hA with hA;injection hA with h1 h2
    subst h2;exact hr
theorem jm{l:List UInt8}{k:Int}{e:Nat}(h:EL l=some (k,e)):e≤l.length:=by
 unfold EL at h;split at h
 ·split at h
  ·injection h with h;injection h with h1 h2;subst h2;exact Jg _ _
  ·cases h
 split at h
 ·split at h
  ·injection h with h;injection h with h1 h2;subst h2;exact Jg _ _
  ·cases h
 split at h
 ·exact ns h
 cases hf:E1.find? (fun s=>Gz s l)with
 |none=>rw[hf]at h;cases h
 |some x=>
  rw[hf]at h;injection h with h;injection h with h1 h2
  subst h2;exact nq (List.find?_some (p:=fun s=>Gz s l) hf)
theorem TJ{l:List UInt8}{k:Int}{e:Nat}(h:EL l=some (k,e)):1≤k∧k≤6:=by
 unfold EL at h;split at h
 ·split at h
  ·injection h with h;injection h with h1 h2;subst h1;decide
  ·cases h
 split at h
 ·split at h
  ·injection h with h;injection h with h1 h2;subst h1;decide
  ·cases h
 split at h
 ·unfold UN at h;cases hA:Rv l with
  |none=>rw[hA]at h;cases h
  |some p=>
   obtain⟨k',e'⟩:=p;rw[hA]at h;simp only at h;split at h
   ·cases h
   injection h with h;injection h with h1 h2
   subst h1;subst h2
   unfold Rv at hA;split at hA
   ·injection hA with hA;injection hA with h1 h2;subst h1;decide
   split at hA
   ·cases hA
   split at hA
   ·split at hA
    ·cases hA
    ·injection hA with hA;injection hA with h1 h2;subst h1;decide
   ·split at hA
    ·cases hA
    ·injection hA with hA;injection hA with h1 h2;subst h1;decide
 cases hf:E1.find? (fun s=>Gz s l)with
 |none=>rw[hf]at h;cases h
 |some x=>
  rw[hf]at h;injection h with h;injection h with h1 h2
  subst h1;decide
structure vl (l:List UInt8) (ts:List Tk) (p e:Nat→Nat):Prop where
 at_: ∀i,i<ts.length→p i<l.length∧EL (l.drop (p i))=some ((ts.getD i default).kind,e i)∧(ts.getD i default).text=bA ((l.drop (p i)).take (e i))∧p i+e i≤l.length∧Gz [47,47] (EK (l.drop (p i+e i)))=false∧p (i+1)=p i+e i+Cy 1 (l.drop (p i+e i))
 fin:l.length=p ts.length
theorem vm{full:List UInt8}: ∀ {l:List UInt8} {ts:List Tk},Mp l ts→ ∀q,q≤full.length→l=full.drop q→ ∃p e,p 0=q∧vl full ts p e:=by
 intro l ts h;induction h with
 |nil=>
  intro q hq hl;have:=congrArg List.length hl;rw[List.length_drop,List.length_nil]at this;exact⟨fun _=>q,fun _=>0,rfl,fun i hi=>absurd hi (by simp),by show full.length=q;omega⟩
 | @cons l k e ts h0 hr hc h ih=>
  intro q hq hl
  have hql:q<full.length:=by
   have:l.length≠0:=fun h=>h0 (List.eq_nil_of_length_eq_zero h);have h2:=congrArg List.length hl;rw[List.length_drop]at h2;omega
  have he:=jm hr;rw[hl,List.length_drop]at he;have hd:l.drop e=full.drop (q+e):=by rw[hl,List.drop_drop]
  have fZ:=Jg 1 (full.drop (q+e));rw[List.length_drop]at fZ;obtain⟨p,e',qO,hP⟩:=ih (q+e+Cy 1 (full.drop (q+e))) Zo (by rw[hd];unfold EK;rw[List.drop_drop]);refine⟨fun i=>if i=0 then q else p (i - 1),fun i=>if i=0 then e else e' (i - 1),rfl,fun i hi=>?_,?_⟩
  ·cases i with
   |zero=>
    simp only[if_pos,List.getD_cons_zero,Nat.zero_add,if_neg (Nat.one_ne_zero),Nat.sub_self];refine⟨hql,by rw[←hl];exact hr,by rw[←hl],Zo,by rw[←hd];exact hc,by rw[qO]⟩
   |succ i=>
    have:=hP.at_ i (by simpa using hi);simp only[if_neg (Nat.succ_ne_zero i),if_neg (Nat.succ_ne_zero (i+1)),Nat.add_sub_cancel,List.getD_cons_succ];exact this
  ·rw[List.length_cons,if_neg (Nat.succ_ne_zero _),Nat.add_sub_cancel];exact hP.fin
end Go.Tp
namespace Go.Tp
open Go.Ad Go.Proofs.YthemnhjojaehhaaGreatDoor
theorem Q6{n:Int}(h1: -999999999999≤n)(h2:n≤999999999999):(Gf n).length≤14∧(0≤n→(Gf n).length≤13):=by
 have hc:(CZ n.natAbs).length≤13:=by
  unfold CZ;have:=Bn (k:=10) (n:=n.natAbs / 100) Zo Zd;rw[List.length_append,List.length_cons,Hm Zo];simp;omega
 unfold Gf;split
 ·rw[List.length_cons];omega
 ·exact⟨Zo,fun _=>hc⟩
theorem eQ{p:Pc}(h: -1000000≤p.sl∧p.sl≤1000000):(Lr p).length≤10:=by
 unfold Lr;split
 ·have:=Bn (k:=7) (n:=(-p.sl).toNat) Zo Zd;rw[List.length_append];simp;omega
 ·have:=Bn (k:=7) (n:=p.sl.toNat) Zo Zd;rw[List.length_append];simp;omega
theorem oV{den:Int}{p:Pc}(hd:1≤den∧den≤1000000)(h1:0≤p.fr∧p.fr≤999999999999)(h2: -999999999999≤p.pa.tdiv den∧p.pa.tdiv den≤999999999999)(h3: -1000000≤p.sl∧p.sl≤1000000):(lV den p).length≤48:=by
 have a:=(Q6 (n:=p.fr) Zo h1.2).2 h1.1;have b:=(Q6 h2.1 h2.2).1;have c:=eQ h3;have d:=Bn (k:=7) (n:=den.toNat) Zo Zd;unfold lV;simp only[List.length_append,List.length_cons,List.length_nil];omega
theorem XB{den:Int}: ∀(ps:List Pc) (sep:List UInt8),sep.length=2→(∀p∈ps,(lV den p).length≤48)→(EU sep den ps).length≤50*ps.length
 | [],sep,_,_=>by simp[EU]
 |p::r,sep,hs,h=>by
  have h1:=h p (by simp);have h2:=XB r [44,32] rfl fun q hq=>h q (List.mem_cons_of_mem _ hq);simp only[EU,List.length_append,List.length_cons];omega
theorem Us(k:Nd)(t:List UInt8)(l:Int):(fL k t l).length≤t.length+2:=by
 unfold fL;split
 ·omega
 ·rw[List.length_append,List.length_cons];simp
theorem Q7: ∀(ts:List (List UInt8)) (sep:List UInt8),(Bc sep ts).length≤sep.length+((ts.map fun t=>t.length+2).sum)
 | [],sep=>by simp[Bc]
 |t::r,sep=>by
  have:=Q7 r [44,32];simp only[Bc,List.length_append,List.map_cons,List.sum_cons];simp only[List.length_cons,List.length_nil]at this;omega
theorem XC{ks:List Nd}(h: ∀k∈ks,(Ca k).length+16≤3220*k.size):((ks.map Ca).map fun t=>t.length+2).sum≤3220*Nd.AP ks:=by
 induction ks with
 |nil=>simp[Nd.AP]
 |cons k r ih=>
  have h1:=h k (by simp);have h2:=ih fun x hx=>h x (List.mem_cons_of_mem _ hx);simp only[List.map_cons,List.sum_cons,Nd.AP];omega
theorem kK{s:ByteArray}(h:IQ s=true∨s=QU):(bl s).length≤3:=by
 rcases h with h|h
 ·unfold IQ at h;simp only[Bool.or_eq_true,Zdt]at h;rcases h with ((((((((h|h)|h)|h)|h)|h)|h)|h)|h)|h<;>(rw[h];decide)
 ·rw[h];decide
theorem Q8{s:ByteArray}(h:B0 s=true):s.size≤7:=by
 rcases Hr h with h|h|h|h
 ·rw[h];decide
 ·rw[h];decide
 ·rw[h];decide
 ·unfold C3 at h;simp only[Zba,Zdt]at h;have:=h.1;omega
theorem M3{s:ByteArray}(h:BK s=true):s.size≤16:=by
 unfold BK at h;simp only[Zba,Zdt]at h;exact h.1.1.1.2
theorem M4{ks:List Nd}{i:Nat}(h:i<ks.length):(ks.map Ca).getD i []=Ca (ks.getD i default):=by
 simp[Zlg,h]
theorem a8{ks:List Nd}{i:Nat}(h:i<ks.length):(ks.map BC).getD i false=BC (ks.getD i default):=by
 simp[Zlg,h]
theorem XD{ks:List Nd}{i:Nat}(h:i<ks.length):(ks.getD i default).size≤Nd.AP ks:=by
 induction ks generalizing i with
 |nil=>simp at h
 |cons k r ih=>
  cases i with
  |zero=>simp[Nd.AP]
  |succ i=>have:=ih (i:=i) (by simpa using h);simp only[List.getD_cons_succ,Nd.AP];omega
theorem oW(e:Nd):BC e=true→(Ca e).length+16≤3220*e.size:=by
 induction e using Nd.ind with
 |h e ih=>
  intro Ae;have pD:=Nd.size_eq e;rw[EJ]at Ae;unfold FA at Ae;rw[Ls];unfold UH;split at Ae
  ·rename_i k;rw[if_pos k]
   simp only[Zba,Zdt]at Ae;obtain⟨⟨⟨⟨h1,h2⟩,h3⟩,_⟩,_⟩:=Ae;have hu:=Q8 h1;have hd:=Bn (k:=12) (n:=e.n.toNat) Zo Zd;have qE:=(Q6 (n:=e.n) Zo h3).1;have hbu:(bl e.u).length=e.u.size:=rfl;unfold WG;split
   ·split<;>simp<;>omega
   split
   ·omega
   split
   ·rw[List.length_append];simp;omega
   ·rw[List.length_append,List.length_cons];omega
  rename_i n11;rw[if_neg n11];split at Ae
  ·rename_i k;rw[if_pos (.inl k)]
   simp only[Zba]at Ae;have:=M3 Ae.1.1;have hbu:(bl e.name).length=e.name.size:=rfl;omega
  rename_i n12;split at Ae
  ·rename_i k;rw[if_neg Zo,if_pos k];simp only[Zba,BI,Zdt]at Ae;have hd:=Bn (k:=7) (n:=e.n.toNat) Zo Zd;rw[List.length_append];simp;omega
  rename_i n13;split at Ae
  ·rename_i k;rw[if_pos (.inr k)];simp only[Zba]at Ae
   have hbu:(bl e.name).length≤7:=by
    have h:=Ae.1.1;unfold Eu at h;simp only[Bool.or_eq_true,Zdt]at h;rcases h with ((h|h)|h)|h<;>(rw[h];decide)
   omega
  rename_i n14;rw[if_neg Zo,if_neg n13];split at Ae
  ·rename_i k;rw[if_pos k];simp only[Zba,Zdt]at Ae;obtain⟨⟨h1,_⟩,h3⟩:=Ae;rw[a8 Zo]at h3;have hk:=ih _ (Ap Zo) h3;have hs:=XD (ks:=e.kids) (i:=0) Zo;rw[M4 Zo];have ho:=Us (e.kids.getD 0 default) (Ca (e.kids.getD 0 default)) 2;rw[List.length_append];simp only[List.length_cons,List.length_nil];omega
  rename_i n15;rw[if_neg n15];split at Ae
  ·rename_i k;rw[if_pos k];simp only[Zba,Zdt]at Ae;obtain⟨_,⟨h1,h2⟩,h3⟩:=Ae
   have Jy:BC (e.kids.getD 1 default)=true:=by
    rw[←a8 Zo];split at h3
    ·simp only[Zba]at h3;exact h3.1
    ·simp only[Zba]at h3;exact h3.2
   have hn:(bl e.name).length≤3:=by
    split at h3
    ·rename_i hd;exact kK (.inr hd)
    ·simp only[Zba]at h3;exact kK (.inl h3.1)
   rw[a8 Zo]at h2;have OT:=ih _ (Ap (i:=0) Zo) h2;have FM:=ih _ (Ap (i:=1) Zo) Jy
   have hs:(e.kids.getD 0 default).size+(e.kids.getD 1 default).size≤Nd.AP e.kids:=by
    match EF:e.kids,h1 with
    | [a,b],_=>simp[Nd.AP]
   rw[M4 Zo,M4 Zo];have xj:=Us (e.kids.getD 0 default) (Ca (e.kids.getD 0 default)) (rU (D1 e));have ue:=Us (e.kids.getD 1 default) (Ca (e.kids.getD 1 default)) (rV (D1 e));simp only[List.length_append,List.length_cons];omega
  rename_i n16;rw[if_neg n16];split at Ae
  ·rename_i k;rw[if_pos k];simp only[Zba,Bool.or_eq_true,Zdt,List.all_eq_true,List.mem_map]at Ae;obtain⟨⟨⟨h1,_⟩,_⟩,h4⟩:=Ae;have BU: ∀x∈e.kids,(Ca x).length+16≤3220*x.size:=fun x hx=>ih x hx (h4 _ ⟨x,hx,rfl⟩);have hs:=Q7 (e.kids.map Ca) (bl e.name++ [40]);have hk:=XC BU;have hn:(bl e.name).length≤8:=by rcases h1 with h|h<;>(rw[h];decide)
   rw[List.length_append]at hs ⊢;simp only[List.length_cons,List.length_nil]at hs ⊢;omega
  rename_i n17;rw[if_neg n17];split at Ae
  ·rename_i k;rw[if_pos k];simp only[Zba,Zdt]at Ae;obtain⟨⟨⟨_,h2⟩,h3⟩,h4⟩:=Ae;obtain⟨hd,hl,_,_⟩:=Ky h2;have hp:=PG h2;have U5:=XB (den:=e.den) e.ps [59,32] rfl fun p hm=>by obtain⟨g1,g2,g3⟩:=hp p hm;exact oV hd g1 g2 g3
   rw[a8 Zo]at h4;have hk:=ih _ (Ap (i:=0) Zo) h4;have hs:=XD (ks:=e.kids) (i:=0) Zo;rw[M4 Zo];have htw:Iq.length=5:=rfl;simp only[List.length_append,List.length_cons,List.length_nil];omega
  ·cases Ae
theorem bC{ks:List Nd}{f:Nd→List UInt8}(h: ∀k∈ks,(f k).length≤3220*k.size):((ks.map f).flatten).length≤3220*Nd.AP ks:=by
 induction ks with
 |nil=>simp[Nd.AP]
 |cons k r ih=>
  have h1:=h k (by simp);have h2:=ih fun x hx=>h x (List.mem_cons_of_mem _ hx);simp only[List.map_cons,List.flatten_cons,List.length_append,Nd.AP];omega
theorem ZK{c:Nd}(h:Da c=true):(AU c).length≤3220*c.size:=by
 have pD:=Nd.size_eq c;have hk:=(Nl h).2;have h1:=XC fun x hx=>oW x (hk x hx);have h2:=Q7 (c.kids.map Ca) (Je c.kind);have h3:(Je c.kind).length≤9:=by unfold Je;split<;>(try split)<;>simp
 unfold AU;rw[List.length_append];simp only[List.length_cons,List.length_nil];omega
theorem Ut{d:Int}(h0:0≤d)(h1:d≤36524):(DY d).length=10:=by rw[UQ h0 h1];rfl
theorem kL{x:Nd}(h:DJ x=true):(Cb x).length≤3220*x.size:=by
 have pD:=Nd.size_eq x;have Jy:(bl x.name).length=x.name.size:=rfl;have J4:(bl x.u).length=x.u.size:=rfl;unfold Cb;rcases K1 h with k|k|k
 ·obtain⟨h1,h2,_⟩:=Kb h (.inl k);have:=M3 h1;have:=Q8 h2;rw[if_pos k];simp only[List.length_append,List.length_cons,List.length_nil];omega
 ·obtain⟨h1,h2,_⟩:=Kb h (.inr k);have:=M3 h1;have:=Q8 h2;have hr:(Hn x.n).length≤6:=by unfold Hn;split<;>(try split)<;>(try split)<;>simp
  rw[if_neg Zo,if_pos k];simp only[List.length_append,List.length_cons,List.length_nil];omega
 ·obtain⟨h1,h2,hd,cs,EF,hh,hc,_,_,_⟩:=PK h k;obtain⟨g1,g2,g3,g4,_⟩:=Mu hh;have e0:x.kids.getD 0 default=hd:=by rw[EF];rfl
  have ed:x.kids.drop 1=cs:=by rw[EF];rfl
  have hn:=M3 h2;have OR:=bC (ks:=cs) (f:=AU) fun c Ok=>ZK (hc c Ok).1;have d1:=Bn (k:=7) (n:=x.n.toNat) Zo Zd;have d2:=Bn (k:=7) (n:=hd.n.toNat) Zo Zd;have y1:=Ut g2.1 g2.2;have y2:=Ut g4.1 g4.2
  have fX:(if hd.to≤36524 then [32,116,111,32]++DY hd.to else []).length≤14:=by
   split
   ·rw[List.length_append,Ut Zo (by assumption)];simp
   ·simp
  have Bh:Nd.AP x.kids=hd.size+Nd.AP cs:=by rw[EF];rfl
  rw[if_neg Zo,if_neg Zo,if_pos k];unfold Ss Ml;rw[e0,ed];simp only[List.length_append,List.length_cons,List.length_nil]at fX ⊢;omega
theorem bD{e:Nd}(h: ∀x∈e.kids,DJ x=true)(hs:e.size≤300):(Gq e).length≤1000000:=by
 have pD:=Nd.size_eq e;have:=bC (ks:=e.kids) (f:=Cb) fun x hx=>kL (h x hx);unfold Gq;omega
end Go.Tp
