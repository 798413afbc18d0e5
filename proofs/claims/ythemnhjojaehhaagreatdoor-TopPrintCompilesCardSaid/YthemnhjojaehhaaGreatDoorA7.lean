/- Part of a proof. -/
import Derived.Scope
import Derived.OrdersIn
import Derived.TacticsIn
import Derived.Sort.LoopGhostIn
import Derived.RangeFuncCalls
import Derived.RangeFuncOwn
import Derived.Test.YthemnhjojaehhaaGreatDoorA6
set_option linter.all false
namespace Go.Ad
open Go.RowKit
def AV.ly:AV→Bool
 | .g b x=>b&&x.ly
 |_=>true
theorem AL.lz{B:Nat}{I:Nat→Prop}{w:World}{ρ:Nat→Option Value}{x:AV}{u:Value}{y:Value}(h:AL B I w ρ x u)(hx:x.strip=.v y):u=bif x.ly then y else undef:=by
 induction h with
 |g b x u h h0 ih=>
  cases b with
  |false=>simp[AV.ly,h0 rfl]
  |true=>simpa[AV.ly]using ih rfl hx
 |v x=>simp only[AV.strip,AV.v.injEq]at hx;simp[AV.ly,hx]
 |_=>simp[AV.strip]at hx
def EG(st:St)(ops:Array Oper):Option (Nat×Bool)→Option (Option Bool)
 |none=>some none
 |some (j,want)=>match (ops[j]?).bind (·.dst)with
  |some d=>match (lk st.env d).strip with
   | .v (.bool y)=>some (some ((lk st.env d).ly&&(bif want then y else !y)))
   |_=>none
  |none=>none
def As(n:Nat):Option Nat→Prop
 |some d=>d<n
 |none=>True
def BR(P:Program)(T:BT)(n:Nat)(ops:Array Oper)(o:Oper)(K:St→Prop)(st:St):Prop:=
 As n o.dst∧
 match EG st ops o.guard with
 |none=>False
 |some none=>
  match pv T st.heap st.ev o.op with
  |some (φ,r)=>φ∧K (st.put o.dst r)
  |none=>
   match qb T st.ev o.op with
   |some (φ,r)=>φ∧K (st.put o.dst r)
   |none=>
    match A6 st.ev o.op with
    |some (ψ,k,args)=>(ψ∧EX args)∧ ∃r,(Pure P k (MJ st.heap args) r∧uq args r)∧K (st.put o.dst r)
    |none=>al T st o K
 |some (some b)=>
  match pv T st.heap st.ev o.op with
  |some (φ,r)=>(b=true→φ)∧K (st.put o.dst (.g b r))
  |none=>
   match qb T st.ev o.op with
   |some (φ,r)=>(b=true→φ)∧K (st.put o.dst (.g b r))
   |none=>
    match A6 st.ev o.op with
    |some (ψ,k,args)=> ∃r,(b=true→(ψ∧EX args)∧Pure P k (MJ st.heap args) r∧uq args r)∧K (st.put o.dst (.g b r))
    |none=>False
def A8(P:Program)(T:BT)(n:Nat)(ops:Array Oper)(K:St→Prop):List Oper→St→Prop
 | [],st=>K st
 |o::rest,st=>BR P T n ops o (fun st'=>A8 P T n ops K rest st') st
section
variable{P:Program}{T:BT}(hT:T.ok P){n B:Nat}{w0:AT}{st:St}{a:Act}{w:World}{ρ:Nat→Option Value}{I:Nat→Prop}
theorem Ld{o:Oper}(h:As n o.dst): ∀k,o.dst=some k→k<n:=fun k hk=>by rw[hk]at h;exact h
include hT in
theorem bk(hG:B3 n B w0 st a w ρ I){o:Oper}{c:Call}(ho:o.op=.call c)(hd: ∀d,o.dst=some d→d<n){K:St→Prop}(h:al T st o K):C1 P n B w0 o a w K:=by
 intro next Q hn
 unfold al at h;simp only[ho]at h;split at h
 ·rename_i x y t t' Iu DM SB;have Uz:c.args= #[x,y]:=Array.toList_inj.1 (by simpa using DM);split at h
  ·rename_i d e _ _ _ DD ht;split at h
   ·rename_i te bs EP Kh;split at h
    ·rename_i ψ m src XR;split at h
     ·rename_i k k' l hk HS;obtain⟨ys,⟨cx,cy,hψ,rfl,Bh,eX,hb,tN,zK,RJ,It⟩,hK⟩:=h
      have E4:o.op=.call ⟨.builtin .append,#[x,y],#[t',t']⟩:=by
       have kj:c.argTypes= #[t',t']:=Array.toList_inj.1 (by simpa using SB);rw[ho,←Iu,←Uz,←kj]
      have wW:te.sz=1:=Bh
      have RW: ∀id e' sz' c',bs=some (id,e',sz',c')→e'=e∧sz'=te.sz∧c'=AH.ints k l:=fun id e' sz' c' hh=>by
       subst hh;simp only at hb HS;exact⟨hb.1,by rw[hb.2.1,Bh],by rw[HS,hb.2.2]⟩
      have fS:bs=none→(AH.ints k l).len=0:=fun hh=>by
       subst hh;simp only[AH.ints.injEq]at HS;rw[←HS.2];rfl
      refine N8 hT hG E4 DD (hd d DD) ht EP Kh XR hψ cx cy Zo (by rw[eX,Bh]) (.ints k l) (.ints k (l++ys)) RW fS ?_ ?_ ?_ ?_ ?_ next Q (fun a' w' hg=>hn _ a' w' hK (by rw[wW]at hg;exact hg))
      ·simp[AH.len,tN,Bh]
      ·intro j hj;simp only[AH.len]at hj;simp[AH.at,Zlg,List.getElem?_append_left hj]
      ·intro el j he hj;have kg:j=0:=Zo
       subst kg;rw[Bh,zK el he];refine⟨?_,rfl⟩;simp only[AH.at,AH.len,Nat.mul_one,Nat.add_zero];rw[Zlg,List.getElem?_append_right Zo,Nat.add_sub_cancel_left,Zlg]
      ·simpa[AH.len,Bh]using RJ
      ·simpa[AH.len,Bh]using It
     ·rename_i c0 fT;split at h
      ·rename_i l HS;obtain⟨ys,⟨cx,cy,hψ,rfl,F1,eX,hb,tN,zK,h1,RJ,It⟩,hK⟩:=h
       have E4:o.op=.call ⟨.builtin .append,#[x,y],#[t',t']⟩:=by
        have kj:c.argTypes= #[t',t']:=Array.toList_inj.1 (by simpa using SB);rw[ho,←Iu,←Uz,←kj]
       have RW: ∀id e' sz' c',bs=some (id,e',sz',c')→e'=e∧sz'=te.sz∧c'=AH.AF l:=fun id e' sz' c' hh=>by
        subst hh;simp only at hb HS;exact⟨hb.1,hb.2,HS⟩
       have fS:bs=none→(AH.AF l).len=0:=fun hh=>by
        subst hh;simp only[AH.AF.injEq]at HS;rw[←HS];rfl
       refine N8 hT hG E4 DD (hd d DD) ht EP Kh XR hψ cx cy F1 eX (.AF l) (.AF (l++ys)) RW fS ?_ ?_ ?_ ?_ ?_ next Q (fun a' w' hg=>hn _ a' w' hK hg)
       ·simp[AH.len,tN]
       ·intro j hj;simp only[AH.len]at hj;simp[AH.at,Zlg,List.getElem?_append_left hj]
       ·intro el j he hj;have Ak:el*te.sz+j<ys.length:=by rw[tN];exact EW he hj
        rw[zK el j he hj];refine⟨?_,Kp h1 _ Ak⟩;simp only[AH.at,AH.len];rw[Zlg,List.getElem?_append_right Zo,Nat.add_sub_cancel_left,Zlg]
       ·simpa[AH.len]using RJ
       ·simpa[AH.len]using It
      ·exact h.elim
    ·exact h.elim
   ·exact h.elim
  ·exact h.elim
 ·exact h.elim
include hT in
theorem ur(hG:B3 n B w0 st a w ρ I){o:Oper}(hd:As n o.dst){K:St→Prop}(h:al T st o K):C1 P n B w0 o a w K:=by
 cases ho:o.op<;>first
  |exact gJ hT hG ho h
  |exact qY hG ho (Ld hd) h
  |exact gK hT hG ho (Ld hd) h
  |exact lx hT hG ho (Ld hd) h
  |exact bk hT hG ho (Ld hd) h
  |(unfold al at h;simp only[ho]at h)
theorem EY(hG:B3 n B w0 st a w ρ I){ops:Array Oper}{o:Oper}{g:Option Bool}(h:EG st ops o.guard=some g):Region.wanted o (yielded ops a.tmps)=g.getD true:=by
 unfold EG at h;split at h
 ·rename_i hg;injection h with h;subst h
  simp[Region.wanted,hg]
 ·rename_i j want hg;split at h
  ·rename_i d hd;split at h
   ·rename_i y hy;injection h with h;subst h
    have hu:=(hG.env d).lz hy;rw[Zag]at hu;cases hb:(lk st.env d).ly with
    |false=>
     rw[hb]at hu
     have:yielded ops a.tmps j=none:=by
      simp only[yielded,hd,Option.bind_some];cases hx:a.tmps[d]? with
      |none=>rfl
      |some z=>rw[hx]at hu;simp at hu;subst hu;rfl
     simp[Region.wanted,hg,this]
    |true=>
     rw[hb]at hu
     have tG:a.tmps[d]? =some (.bool y):=by
      cases hx:a.tmps[d]? with
      |none=>rw[hx]at hu;simp[undef]at hu
      |some z=>rw[hx]at hu;simp at hu;rw[hu]
     simp only[Region.wanted,hg,yielded,hd,Option.bind_some,tG,Option.getD_some];cases want<;>cases y<;>rfl
   ·cases h
  ·cases h
include hT in
theorem VV(hG:B3 n B w0 st a w ρ I){ops:Array Oper}{o:Oper}{K:St→Prop}(h:BR P T n ops o K st)(next:Act→World→Prop)(Q:Exit→Act→World→Prop)(hn: ∀st' a' w',K st'→G n B w0 st' a' w'→next a' w'):
  if Region.wanted o (yielded ops a.tmps)then o.wp P a w next Q else next (a.put o.dst undef) w:=by
 obtain⟨hd,h⟩:=h;have putq: ∀(r:AV) (v:Value) (w':World) (I':Nat→Prop),Quiet I w I' w'→AL B I' w' ρ r v→G n B w0 (st.put o.dst r) (a.put o.dst v) w':=fun r v w' I' hq hc=>⟨ρ,I',(hG.quiet hq).put (Ld hd) hc⟩;have qrefl:=Quiet.refl (I:=I) (w:=w) hG.hw.lt;split at h
 ·exact h.elim
 ·rename_i hg;rw[EY hG hg];simp only[Option.getD_none,if_true];split at h
  ·rename_i φ r hp;obtain⟨z,h1,h2⟩:=pQ hT hG.hw (fun x=>hG.ev x) hp h.1;unfold Oper.wp;rw[h1,Oper.upon_value];exact hn _ _ _ h.2 (putq r z w I qrefl h2)
  ·split at h
   ·rename_i φ r hp;exact pR hT hG hp h.1 next Q (fun v w' I' hq hc=>hn _ _ _ h.2 (putq r v w' I' hq hc))
   ·split at h
    ·rename_i ψ k args hc;obtain⟨⟨hψ,HR⟩,r,⟨hp,hf⟩,hK⟩:=h;exact Ov hG hc hψ HR hp hf next Q (fun v w' I' hq hc=>hn _ _ _ hK (putq r v w' I' hq hc))
    ·exact ur hT hG hd h next Q hn
 ·rename_i b hg;rw[EY hG hg];simp only[Option.getD_some];have skip: ∀(r:AV),b≠true→G n B w0 (st.put o.dst (.g b r)) (a.put o.dst undef) w:=fun r hb=>putq _ _ w I qrefl (.g b r _ (fun h=>absurd h hb) (fun _=>rfl));split at h
  ·rename_i φ r hp;split
   ·rename_i hb;obtain⟨z,h1,h2⟩:=pQ hT hG.hw (fun x=>hG.ev x) hp (h.1 hb);unfold Oper.wp;rw[h1,Oper.upon_value];exact hn _ _ _ h.2 (putq _ z w I qrefl (.g b r _ (fun _=>h2) (fun hf=>by rw[hb]at hf;cases hf)))
   ·rename_i hb;exact hn _ _ _ h.2 (skip r hb)
  ·split at h
   ·rename_i φ r hp;split
    ·rename_i hb;exact pR hT hG hp (h.1 hb) next Q (fun v w' I' hq hc=>hn _ _ _ h.2 (putq _ v w' I' hq (.g b r _ (fun _=>hc) (fun hf=>by rw[hb]at hf;cases hf))))
    ·rename_i hb;exact hn _ _ _ h.2 (skip r hb)
   ·split at h
    ·rename_i ψ k args hc;obtain⟨r,hp,hK⟩:=h;split
     ·rename_i hb;obtain⟨⟨hψ,HR⟩,hp,hf⟩:=hp hb;exact Ov hG hc hψ HR hp hf next Q (fun v w' I' hq hc=>hn _ _ _ hK (putq _ v w' I' hq (.g b r _ (fun _=>hc) (fun hf=>by rw[hb]at hf;cases hf))))
     ·rename_i hb;exact hn _ _ _ hK (skip r hb)
    ·exact h.elim
theorem VW{ops:Array Oper}{o:Oper}{K:St→Prop}(h:BR P T n ops o K st): ∀c,o.op≠.defer c:=fun c hc=>by
 unfold BR al at h;simp only[hc,pv,qb,A6]at h;obtain⟨_,h⟩:=h;split at h<;>exact h
end
def fo(w0:AT):Fence:= {Fence.wide with round:=w0.rd}
theorem Xy{P:Program}{w0:AT}{m:Nat}{f:FuncId}{args:Array Value}{w:World}{R:Ending→World→Prop}(h:Calls P f args w R):CallsIn (fo w0) m P f args w R:=
 (callsIn_wide (n:=m)).2 h
theorem bm{P:Program}{w0:AT}{m:Nat}{row:String}{args:Array Value}{w:World}{R:Value→World→Prop}(h:Rows P row args w R):RowsIn (fo w0) m P row args w R:=fun c cs _=>by
 obtain⟨v,w',r,s⟩:=h c cs;exact⟨v,w',r,stepsIn_wide.2 s⟩
theorem LF{P:Program}{w0:AT}{m:Nat}{o:Oper}(bI: ∀c,o.op≠.defer c){a:Act}{w:World}{next:Act→World→Prop}{Q:Exit→Act→World→Prop}(h:o.wp P a w next Q):o.wpIn (fo w0) m P a w next Q:=by
 refine⟨fun _ _=>trivial,?_⟩;rw[Oper.semAt_eq _ _ _ bI];unfold Oper.wp at h;revert h;generalize (execOp a.eval o).run P w=r;intro h;unfold Oper.upon at h;split at h
 ·exact h
 ·exact h
 ·exact h
 ·rw[Oper.uponIn_enter];refine⟨(fun hd=>by cases hd),Xy (Calls.mono h fun e w' he=>?_)⟩;cases e<;>exact he
 ·rw[Oper.uponIn_row];exact⟨(fun hd=>by cases hd),bm h⟩
 ·exact h
 ·exact h.elim
theorem qZ{P:Program}{w0:AT}{m:Nat}{o:Oper}{b:Bool}(bI:b=true→ ∀c,o.op≠.defer c){a a':Act}{w:World}{next:Act→World→Prop}{Q:Exit→Act→World→Prop}(h:if b then o.wp P a w next Q else next a' w):
  if b then o.wpIn (fo w0) m P a w next Q else(∀f,o.about P w a.eval=some f→(fo w0).fn f)∧next a' w:=by
 cases b with
 |true=>exact LF (bI rfl) h
 |false=>exact⟨fun _ _=>trivial,h⟩
section
variable{P:Program}{T:BT}(hT:T.ok P){n B:Nat}{w0:AT}{st:St}{a:Act}{w:World}{ρ:Nat→Option Value}{I:Nat→Prop}
end
theorem Fc{P:Program}{b:Frame}{a:Act}{k:List Item}{cs:List Frame}{w:World}{c:Code}:step P (lone (b.atR a (.code (.scope c)::k)) cs w)=.next (lone (b.atR a (.code c::.inScope c::k)) cs w):=
 step_lone_go (by simp[stepG,stepG.exec,Frame.atR])
theorem Rc{P:Program}{b:Frame}{a:Act}{k:List Item}{cs:List Frame}{w:World}{c:Code}:step P (lone (b.atR a (.inScope c::k)) cs w)=.next (lone (b.atR a k) cs w):=
 step_lone_go (by simp[stepG,stepG.exec,Frame.atR])
theorem LG{F:Fence}{m:Nat}{P:Program}{c:Code}{Q:Exit→Act→World→Prop}{a:Act}{w:World}(h:c.wpIn F m P (Exit.noGoto Q) a w):(Code.scope c).wpIn F m P Q a w:=by
 intro b k cs zL hb hr;have h0:(lone (b.atR a (.code (.scope c)::k)) cs w).fenced P F:=fenced_calm hb hr rfl;obtain⟨e,a₁,w₁,hq,eY⟩:=h b (.inScope c::k) cs zL hb hr;have hx: ∀id,exitTo id (.inScope c::k)=exitTo id k:=fun id=>by simp[exitTo]
 cases e with
 |normal=>exact⟨.normal,a₁,w₁,hq,.head h0 Fc (StepsIn.trans eY (.one (fenced_calm hb hr rfl) Rc))⟩
 |exit id=>exact⟨.exit id,a₁,w₁,hq,fun k' hk=>.head h0 Fc (eY.1 k' (by rw[hx];exact hk)),fun H8 hk=>let ⟨k₁,h1,h2⟩:=eY.2 H8 (by rw[hx];exact hk);⟨k₁,h1,.head h0 Fc h2⟩⟩
 |goto l=>exact hq.elim
 |ret=>exact⟨_,a₁,w₁,hq,.of_steps (.one h0 Fc) eY⟩
 |panic ch=>exact⟨_,a₁,w₁,hq,.of_steps (.one h0 Fc) eY⟩
 |outgrown=>exact⟨_,a₁,w₁,hq,.of_steps (.one h0 Fc) eY⟩
def BY(P:Program)(n B:Nat)(w0:AT)(c:Code)(Q:Exit→St→Prop)(st:St):Prop:=
 ∀a w,G n B w0 st a w→c.wpIn (fo w0) 0 P (fun e a' w'=> ∃st',Q e st'∧G n B w0 st' a' w') a w
def Ex.then(next:St→Prop)(Q:Exit→St→Prop):Exit→St→Prop
 | .normal,st=>next st
 |e,st=>Q e st
def Ex.inBlock(id:Nat)(Q:Exit→St→Prop):Exit→St→Prop
 | .exit id',st=>if id'=id then Q .normal st else Q (.exit id') st
 |e,st=>Q e st
section
variable{P:Program}{T:BT}{n B:Nat}{w0:AT}{Q:Exit→St→Prop}{st:St}
theorem B5(h:Q .normal st):BY P n B w0 .skip Q st:=fun _ _ hG=>wpIn_skip ⟨st,h,hG⟩
theorem CG{id:Nat}(h:Q (.exit id) st):BY P n B w0 (.exit id) Q st:=fun _ _ hG=>wpIn_exit ⟨st,h,hG⟩
theorem Cl(h:Q .ret st):BY P n B w0 .ret Q st:=fun _ _ hG=>wpIn_ret ⟨st,h,hG⟩
theorem CR{x y:Code}(h:BY P n B w0 x (Ex.then (BY P n B w0 y Q) Q) st):BY P n B w0 (.seq x y) Q st:=fun a w hG=>
 wpIn_seq (wpIn_mono (h a w hG) fun e a' w' ⟨st',h1,h2⟩=>by
  cases e with
  |normal=>exact h1 a' w' h2
  |_=>exact⟨st',h1,h2⟩)
theorem Bq{id:Nat}{c:Code}(h:BY P n B w0 c (Ex.inBlock id Q) st):BY P n B w0 (.block id c) Q st:=fun a w hG=>
 wpIn_block (wpIn_mono (h a w hG) fun e a' w' ⟨st',h1,h2⟩=>by
  cases e with
  |exit id'=>
   simp only[Ex.inBlock]at h1;simp only[Exit.inBlock];split
   ·rename_i e;rw[if_pos e]at h1;exact⟨st',h1,h2⟩
   ·rename_i e;rw[if_neg e]at h1;exact⟨st',h1,h2⟩
  |_=>exact⟨st',h1,h2⟩)
theorem B6{c:Operand}{x y:Code}(b:Bool)(hc:st.ev c=.v (.bool b))(ht:b=true→BY P n B w0 x Q st)(hf:b=false→BY P n B w0 y Q st):BY P n B w0 (.cond c x y) Q st:=fun a w hG=>by
 obtain⟨ρ,I,hg⟩:=hG;have:=hg.ev c;rw[hc]at this;exact wpIn_cond_split this.Ao (fun h=>ht h a w ⟨ρ,I,hg⟩) (fun h=>hf h a w ⟨ρ,I,hg⟩)
def Ex.noGoto(Q:Exit→St→Prop):Exit→St→Prop
 | .goto _,_=>False
 |e,st=>Q e st
theorem Br{c:Code}(h:BY P n B w0 c (Ex.noGoto Q) st):BY P n B w0 (.scope c) Q st:=fun a w hG=>
 LG (wpIn_mono (h a w hG) fun e a' w' ⟨st',h1,h2⟩=>by
  cases e with
  |goto l=>exact h1.elim
  |_=>exact⟨st',h1,h2⟩)
theorem Bs{l:Nat}(h:Q .normal st):BY P n B w0 (.label l) Q st:=fun _ _ hG=>wpIn_label ⟨st,h,hG⟩
theorem AS{p q:Prop}(hq:q)(hp:p):p∧q:=⟨hp,hq⟩
theorem AM{α:Type}{c:Code}(S:α→St)(φ:α→Prop)(μ:α→Nat)(x0:α)(h0:φ x0)(hS: ∀a w,G n B w0 st a w→G n B w0 (S x0) a w)
  (round: ∀x,φ x→BY P n B w0 c (Ex.then (fun st'=> ∃y,(φ y∧μ y<μ x)∧ ∀a w,G n B w0 st' a w→G n B w0 (S y) a w) Q) (S x)):BY P n B w0 (.loop c) Q st:=fun a w hG=>by
 refine wpIn_loop_ghost (fun k a w=> ∃x,φ x∧μ x=k∧G n B w0 (S x) a w) (μ x0) ⟨x0,h0,rfl,hS a w hG⟩ ?_;rintro k a w ⟨x,hφ,rfl,hG⟩;refine wpIn_mono (round x hφ a w hG) fun e a' w' ⟨st',h1,h2⟩=>?_;cases e with
 |normal=>obtain⟨y,⟨hy,Ak⟩,hw⟩:=h1;exact⟨μ y,Ak,y,hy,rfl,hw a' w' h2⟩
 |_=>exact⟨st',h1,h2⟩
end
def yj(env:List (Nat×AV)):List (Nat×AV)→Prop
 | []=>True
 |(k,x)::r=>lk env k=x∧yj env r
def yk(H:List (Nat×AN)):List (Nat×AN)→Prop
 | []=>True
 |(k,x)::r=>Af H k=some x∧yk H r
theorem pS{env:List (Nat×AV)}: ∀ {l:List (Nat×AV)},yj env l→ ∀s,lk l s=.top∨lk l s=lk env s
 | [],_,s=>.inl rfl
 |(k,x)::r,h,s=>by
  simp only[lk];split
  ·rename_i e;subst e;exact .inr h.1.symm
  ·exact pS h.2 s
theorem Pu{H:List (Nat×AN)}: ∀ {l:List (Nat×AN)},yk H l→ ∀s b,Af l s=some b→Af H s=some b
 | [],_,s,b,h=>by cases h
 |(k,x)::r,h,s,b,hb=>by
  simp only[Af]at hb;split at hb
  ·rename_i e;subst e;injection hb with hb;subst hb;exact h.1
  ·exact Pu h.2 s b hb
theorem G.wk{n B:Nat}{w0:AT}{st st':St}(hE:yj st.env st'.env)(hH:yk st.heap st'.heap): ∀a w,G n B w0 st a w→G n B w0 st' a w:=fun a w ⟨ρ,I,h⟩=>
 ⟨ρ,I,h.defers,h.size,fun s=>by
   rcases pS hE s with e|e
   ·rw[e];exact .top _
   ·rw[e];exact h.env s,
  ⟨fun id blk hk=>h.hw.ok id blk (Pu hH _ _ hk),fun id id' b b' x x' c CD h1 h2=>h.hw.apart id id' b b' x x' c CD (Pu hH _ _ h1) (Pu hH _ _ h2),fun id b x c h1=>h.hw.J2 id b x c (Pu hH _ _ h1),h.hw.lt⟩,
  h.below,h.base,h.BQ⟩
def LQ(T:BT)(st:St):List ResultVar→Option (Prop×List AV)
 | []=>some (True,[])
 | .tmp t::r=>match LQ T st r with
  |some (φ,l)=>some ((lk st.env t).cond∧φ,(lk st.env t).strip::l)
  |none=>none
 | .cell t ty::r=>match HZ T st.heap ty (lk st.env t),LQ T st r with
  |some (ψ,x),some (φ,l)=>some (ψ∧φ,x::l)
  |_,_=>none
def Pv:List AV→AV
 | [x]=>x
 |l=>.t l
def fin(T:BT)(res:List ResultVar)(r:AV)(st:St):Prop:=
 match LQ T st res with
 |some (φ,l)=>φ∧AV.IA true st.heap 6 (Pv l)=r
 |none=>False
def Zz3(T:BT)(res:List ResultVar)(r:AV):Exit→St→Prop
 | .ret,st=>fin T res r st
 | .normal,st=>fin T res r st
 |_,_=>False
def EZ(k:Nat):List AV→List (Nat×AV)
 | []=> []
 |x::r=>(k,x)::EZ (k+1) r
theorem SN: ∀(args:List AV) (k s:Nat),lk (EZ k args) s=if k≤s then args.getD (s - k) .top else .top
 | [],k,s=>by simp[EZ,lk]
 |x::r,k,s=>by
  simp only[EZ,lk];rw[SN r (k+1) s];by_cases h:k=s
  ·subst h;simp
  ·rw[if_neg h];by_cases h2:k≤s
   ·rw[if_pos Zo,if_pos h2,show s - k=(s - (k+1))+1 from by omega];simp
   ·rw[if_neg Zo,if_neg h2]
theorem A3{P:Program}{t:TypeId}{k:TK}{sz b:Nat}{z:Value}(h:(P.info? t).map (fun i=>(i.zero,i.size,i.bytes))=some (some z,sz,b))(hk:k.ok P t):TI.ok P t ⟨k,sz,b,z⟩:=by
 cases hi:P.info? t with
 |none=>rw[hi]at h;cases h
 |some i=>rw[hi]at h;simp at h;exact⟨⟨i,hi,h.2.1,h.2.2,h.1⟩,hk⟩
section
variable{P:Program}{T:BT}(hT:T.ok P){n B:Nat}{w0:AT}{st:St}{a:Act}{w:World}{ρ:Nat→Option Value}{I:Nat→Prop}
include hT in
theorem JU(hG:B3 n B w0 st a w ρ I): ∀(res:List ResultVar) {φ:Prop} {l:List AV},LQ T st res=some (φ,l)→φ→
  ∃vs:List Value,(res.mapM (fun r=>match r with| .tmp t=>pure (a.tmps.getD t undef)| .cell x t=>do loadVar t (←asAddr (a.tmps.getD x undef))):Sem (List Value)).run P w=.ok vs w∧At B I w ρ l vs
 | [],φ,l,h,hφ=>by
  simp only[LQ,Option.some.injEq,Prod.mk.injEq]at h;obtain⟨_,rfl⟩:=h;exact⟨[],by simp,rfl,fun j hj=>by simp at hj⟩
 | .tmp t::r,φ,l,h,hφ=>by
  simp only[LQ]at h;split at h
  ·rename_i ψ l' hr;simp only[Option.some.injEq,Prod.mk.injEq]at h;obtain⟨rfl,rfl⟩:=h;obtain⟨vs,h1,h2⟩:=JU hG r hr hφ.2;refine⟨a.tmps.getD t undef::vs,by simp only[List.mapM_cons,Sem.run_bind,Sem.run_pure,Result.andThen_ok,h1],by simp[h2.1],fun j hj=>?_⟩;cases j with
   |zero=>simpa using (hG.env t).strip hφ.1
   |succ j=>simpa using h2.2 j (by simpa using hj)
  ·cases h
 | .cell t ty::r,φ,l,h,hφ=>by
  simp only[LQ]at h;split at h
  ·rename_i ψ x φ' l' hx hr;simp only[Option.some.injEq,Prod.mk.injEq]at h;obtain⟨rfl,rfl⟩:=h;obtain⟨vs,h1,h2⟩:=JU hG r hr hφ.2;obtain⟨v,h3,h4⟩:=SH hT hG.hw hx hφ.1 (hG.env t)
   have wX: ∃ad,a.tmps.getD t undef=.pointer (some ad)∧(loadVar ty ad).run P w=.ok v w:=by
    generalize a.tmps.getD t undef=u at h3;unfold Instr.loadAt at h3;cases u with
    |pointer p=>
     cases p with
     |none=>simp[Instr.sureAddr,stuck,Sem.run]at h3
     |some ad=>exact⟨ad,rfl,by simpa[Instr.sureAddr]using h3⟩
    |_=>simp[Instr.sureAddr,stuck,Sem.run]at h3
   obtain⟨ad,h5,h6⟩:=wX;have h7:(asAddr (a.tmps.getD t undef)).run P w=.ok ad w:=by rw[h5];simp[asAddr]
   refine⟨v::vs,by simp only[List.mapM_cons,Sem.run_bind,h7,Sem.run_pure,Result.andThen_ok,h6,h1],by simp[h2.1],fun j hj=>?_⟩;cases j with
   |zero=>simpa using h4
   |succ j=>simpa using h2.2 j (by simpa using hj)
  ·cases h
include hT in
theorem qa{fn:Func}{res:List ResultVar}(M7:fn.results.toList=res){r:AV}(hG:B3 n B w0 st a w ρ I)(h:fin T res r st):
  ∃v,(results fn a.tmps).run P w=.ok v w∧AL B (fun b=>w0.I b∨(B≤b∧b<w.heap.size)) w DW r v:=by
 unfold fin at h;split at h
 ·rename_i φ l hl;obtain⟨hφ,rfl⟩:=h;obtain⟨vs,h1,h2⟩:=JU hT hG res hl hφ;refine⟨if h:vs.toArray.size=1 then vs.toArray[0]else .tuple vs.toArray,?_,?_⟩
  ·unfold results
   have:(fn.results.mapM fun r=>match r with| .tmp t=>pure (a.tmps.getD t undef)| .cell x t=>do loadVar t (←asAddr (a.tmps.getD x undef)):Sem (Array Value)).run P w=.ok vs.toArray w:=by
    rw[Array.mapM_eq_mapM_toList,M7,←bind_pure_comp];simp only[Sem.run_bind,h1,Result.andThen_ok,Sem.run_pure]
   simp only[Sem.run_bind,Sem.run_pure];exact congrArg (fun q:Result (Array Value)=>q.andThen fun vs w'=>Result.ok (if h:vs.size=1 then vs[0]else Value.tuple vs) w') this
  ·refine gE true hG.hw (fun _=>Nat.le_refl _) (fun b hb=>?_) (fun b h3 h4=>.inr ⟨h3,h4⟩) 6 (.inl rfl) ?_
   ·rcases hG.BQ.up b hb with h3|h3
    ·exact .inl h3
    ·exact .inr ⟨h3,hG.hw.lt b hb⟩
   ·match l,vs,h2 with
    | [x],[v],h2=>simpa[Pv]using h2.2 0 (by simp)
    | [],[],h2=>exact .t _ _ (by simp) (fun j hj=>by simp at hj)
    |x::y::l,v::u::vs,h2=>
     rw[dif_neg (by simp)];exact .t _ _ (by simpa using h2.1) (fun j hj=>by have:=h2.2 j hj;simpa[Zlg,Zag]using this)
    | [],_::_,h2=>exact absurd h2.1 (by simp)
    | [_],[],h2=>exact absurd h2.1 (by simp)
    | [_],_::_::_,h2=>exact absurd h2.1 (by simp)
    |_::_::_,[],h2=>exact absurd h2.1 (by simp)
    |_::_::_,[_],h2=>exact absurd h2.1 (by simp)
 ·exact h.elim
end
def shut(w:World):List Nat→World
 | []=>w
 |D::r=>shut (w.putObj D (.deferred none)) r
theorem NH: ∀(Ds:List Nat) (w:World),(shut w Ds).heap.size=w.heap.size
 | [],w=>rfl
 |D::r,w=>by rw[shut,NH r];simp
theorem Oy: ∀(Ds:List Nat) (w:World) (b:Nat),b∉Ds→(shut w Ds).heap[b]? =w.heap[b]?
 | [],w,b,_=>rfl
 |D::r,w,b,h=>by
  rw[shut,Oy r _ b (fun hh=>h (by simp[hh]))];exact World.putObj_heap_other (fun e=>h (by simp[e]))
theorem Pw: ∀(Ds:List Nat) (w:World) (B:Nat),(∀D∈Ds,B≤D)→Below B w (shut w Ds)
 | [],w,B,_=>Below.refl _ _
 |D::r,w,B,h=>by
  rw[shut];refine Below.trans ?_ (Pw r _ B (fun D' ZS=>h D' (by simp[ZS])));exact⟨rfl,rfl,rfl,by simp[World.putObj],fun k hk=>World.putObj_heap_other (fun e=>by have:=h D (by simp);omega)⟩
theorem bn{Ds:List Nat}{w:World}(hD: ∀D∈Ds,w.heap[D]? =some (.deferred (some []))){ad:Addr}{v:Value}(h:w.cell? ad=some v):(shut w Ds).cell? ad=some v:=by
 have hn:ad.block∉Ds:=fun hm=>by
  have:=hD _ hm;unfold World.cell? at h;simp[this]at h
 rw[World.cell?_of_block (w:=w) (a:=ad) (Oy Ds w _ hn)];exact h
theorem Eo{F:Fence}{m:Nat}{P:Program}{fn:Func}{tmps:Array Value}{R:Ending→World→Prop}: ∀(Ds:List Nat) (w:World),Ds.Nodup→(∀D∈Ds,w.heap[D]? =some (.deferred (some [])))→(∃v,(results fn tmps).run P (shut w Ds)=.ok v (shut w Ds)∧R (.returned v) (shut w Ds))→
  LeavesInM F m P fn tmps R (Ds.map (fun D=> {target:=.collected D,args:= #[]})) .returning w
 | [],w,_,_,h=>h
 |D::r,w,hn,hD,h=>by
  refine⟨by simp,.inl ⟨D,_,rfl,run_takeDeferred (hD D (by simp)),?_⟩⟩;refine Eo r _ (List.nodup_cons.1 hn).2 (fun D' ZS=>?_) h;rw[World.putObj_heap_other (fun e=>(List.nodup_cons.1 hn).1 (by rw[←e];exact ZS))];exact hD D' (by simp[ZS])
theorem B3.shut{n B:Nat}{w0:AT}{st:St}{a:Act}{w:World}{ρ:Nat→Option Value}{I:Nat→Prop}(h:B3 n B w0 st a w ρ I): ∃Ds:List Nat,a.defers=Ds.map (fun D=> {target:=.collected D,args:= #[]})++w0.ds∧Ds.Nodup∧(∀D∈Ds,w.heap[D]? =some (.deferred (some [])))∧
  B3 n B w0 st {a with defers:=w0.ds} (shut w Ds) ρ I:=by
 obtain⟨Ds,h1,h2,h3⟩:=h.defers;have hD: ∀D∈Ds,w.heap[D]? =some (.deferred (some [])):=fun D hD=>(h3 D hD).2.2.2;have hc: ∀ {ρ':Nat→Option Value} {x:AV} {u:Value},AL B I w ρ' x u→AL B I (Ad.shut w Ds) ρ' x u:=fun h=>h.fg (Nat.le_refl _) (fun _ h=>h) (fun ad v _ hv=>bn hD hv) _ (fun _ _ h=>h);refine⟨Ds,h1,h2,hD,Marks.nil,h.size,fun s=>hc (h.env s),⟨fun id blk hk=>?_,h.hw.apart,h.hw.J2,fun b hb=>by rw[NH];exact h.hw.lt b hb⟩,h.below.trans (Pw Ds w B fun D ZS=>(h3 D ZS).1),by rw[NH];exact h.base,⟨h.BQ.up,h.BQ.gh,h.BQ.JQ,fun b hb=>⟨(h.BQ.B2 b hb).1,by rw[Oy Ds w b (fun hm=>(h3 b hm).2.1 hb)];exact(h.BQ.B2 b hb).2⟩⟩⟩;obtain⟨x,hx,Ae⟩:=h.hw.ok id blk hk;have hr: ∀b,Ab x=some b→(Ad.shut w Ds).heap[b]? =w.heap[b]? :=fun b hb=>Oy Ds w b (fun hm=>h.hw.J2 id blk x b hk hx hb (h3 b hm).2.2.1);refine⟨x,hx,?_⟩;cases blk with
 |box t c=>
  obtain⟨b,us,rfl,hB,hh,hl,FE⟩:=Ae;exact⟨b,us,rfl,hB,by rw[hr b rfl];exact hh,hl,fun j u hu=>hc (FE j u hu)⟩
 |row e sz c=>
  obtain⟨m,xs,ho,hl,FE⟩:=Ae;exact⟨m,xs,EB ho hr,hl,fun j u hu=>hc (FE j u hu)⟩
 |mp c=>
  obtain⟨b',rfl,hB,es,clock,hh,r⟩:=Ae;exact⟨b',rfl,hB,es,clock,by rw[hr b' rfl];exact hh,r⟩
 |DN kd ks c=>
  obtain⟨b',BJ,rfl,hB,⟨es,clock,hh,r⟩,hl,C0,FE⟩:=Ae;exact⟨b',BJ,rfl,hB,⟨es,clock,by rw[hr b' rfl];exact hh,r⟩,hl,C0,fun j u hu=>hc (FE j u hu)⟩
 |FD e c=>
  obtain⟨m,xs,ho,hl,FE⟩:=Ae;exact⟨m,xs,EB ho hr,hl,fun j u hu=>hc (FE j u hu)⟩
theorem JV{P:Program}{f:FuncId}{fn:Func}{c:Code}{n B:Nat}{w0:AT}{Q:Exit→St→Prop}{st:St}{vs:Array Value}{w:World}{R:Ending→World→Prop}(hf:P.funcs[f]? =some fn)(hb:fn.body=some c)(Az:w0.rd=none)(N4:w0.ds= [])
  (h:BY P n B w0 c Q st) (hG:G n B w0 st {tmps:=vs++Array.replicate (fn.ntmps - vs.size) undef,defers:= []} w)
  (CB: ∀e st' a' w' ρ I,Q e st'→B3 n B w0 st' a' w' ρ I→(e=.ret∨e=.normal)∧ ∃v,(results fn a'.tmps).run P w'=.ok v w'∧R (.returned v) w'):Calls P f vs w R:=by
 have Xj:fo w0=Fence.wide:=by unfold fo;rw[Az];rfl
 have hw:=h _ w hG;rw[Xj]at hw;refine(callsIn_wide (n:=0)).1 (callsIn_of_wp_marks hf hb trivial (wpIn_mono hw fun e a' w' ⟨st',h1,ρ,I,Cj⟩=>?_) rfl);obtain⟨Ds,d1,d2,d3,tO⟩:=Cj.shut;obtain⟨he,v,hv,hR⟩:=CB e st' _ _ ρ I h1 tO;rw[N4,List.append_nil]at d1;rcases he with rfl|rfl
 ·show LeavesInM _ _ _ _ _ _ _ _ _;rw[d1];exact Eo Ds w' d2 d3 ⟨v,hv,hR⟩
 ·show LeavesInM _ _ _ _ _ _ _ _ _;rw[d1];exact Eo Ds w' d2 d3 ⟨v,hv,hR⟩
section
variable{P:Program}{T:BT}(hT:T.ok P){n B:Nat}{w0:AT}{st:St}{a:Act}{w:World}{ρ:Nat→Option Value}{I:Nat→Prop}
theorem Kq{args:List AV}{vs:Array Value}{m:Nat}{B:Nat}{I:Nat→Prop}{w:World}{ρ:Nat→Option Value}(DM:At B I w ρ args vs.toList)(s:Nat):AL B I w ρ (lk (EZ 0 args) s) ((vs++Array.replicate m undef).getD s undef):=by
 have Bh:vs.size=args.length:=by rw[←Array.length_toList,DM.1]
 rw[SN,if_pos (Nat.zero_le _),Nat.sub_zero];by_cases hs:s<args.length
 ·have h2:=DM.2 s hs
  have e:(vs++Array.replicate m undef).getD s undef=vs.toList.getD s undef:=by
   have:s<vs.size:=Zo
   rw[Zag,Array.getElem?_append_left this];simp[Zlg]
  rw[e];exact h2
 ·have e:args.getD s .top=.top:=by simp[Zlg];rw[List.getElem?_eq_none Zo];rfl
  rw[e];exact .top _
include hT in
theorem Ea{f:FuncId}{fn:Func}{c:Code}{res:List ResultVar}{args:List AV}{r:AV}(hf:P.funcs[f]? =some fn)(hb:fn.body=some c)(Em:(fn.name== "runtime.NumGoroutine")=false)(M7:fn.results.toList=res)(hn:fn.ntmps=n)(hle:args.length≤n)
  (h: ∀B w0,(∀id,w0.gh id=none)→w0.rd=none→BY P n B w0 c (Zz3 T res r) ⟨EZ 0 args,[]⟩):Pure P f args r:=by
 refine⟨⟨fn,hf,Em,by rw[hb];rfl⟩,fun w I vs wY hI DM=>?_⟩;refine JV hf hb rfl rfl (h w.heap.size ⟨w,I,fun _=>none,[],none,wY⟩ (fun _=>rfl) rfl) ⟨DW,I,?_⟩ fun e st' a' w' ρ I' h1 hG=>?_
 ·have Bh:vs.size=args.length:=by rw[←Array.length_toList,DM.1]
  exact⟨Marks.nil,by simp[hn];omega,fun s=>Kq DM s,⟨fun id blk hk=>(by cases hk),fun _ _ _ _ _ _ _ _ hk=>(by cases hk),fun _ _ _ _ hk=>(by cases hk),hI⟩,Below.refl _ _,Nat.le_refl _,⟨fun b hb=>.inl hb,(fun _ _ h=>by cases h),fun _ _=>rfl,fun b hb=>⟨hb,rfl⟩⟩⟩
 ·have key:fin T res r st'→ ∃v,(results fn a'.tmps).run P w'=.ok v w'∧ ∃v_1,Ending.returned v=.returned v_1∧Below w.heap.size w w'∧AL w.heap.size (fun b=>I b∨(w.heap.size≤b∧b<w'.heap.size)) w' DW r v_1:=fun Du=>by
   obtain⟨v,h2,h3⟩:=qa hT M7 hG Du;exact⟨v,h2,v,rfl,hG.below,h3⟩
  cases e with
  |ret=>exact⟨.inl rfl,key h1⟩
  |normal=>exact⟨.inr rfl,key h1⟩
  |_=>exact h1.elim
include hT in
theorem l4{f:FuncId}{fn:Func}{c:Code}{res:List ResultVar}{args:List AV}{r:AV}(hf:P.funcs[f]? =some fn)(hb:fn.body=some c)(Em:(fn.name== "runtime.NumGoroutine")=false)(M7:fn.results.toList=res)(hn:fn.ntmps=n)(hle:args.length≤n)
  (h: ∀B w0,BY P n B w0 c (Zz3 T res r) ⟨EZ 0 args,[]⟩):Pure P f args r:=Ea hT hf hb Em M7 hn hle fun B w0 _ _=>h B w0
end
end Go.Ad
