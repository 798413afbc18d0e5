/- Part of a proof. -/
import Derived.Lib.AppendStr
import Derived.Test.YthemnhjojaehhaaGreatDoorA18
set_option linter.all false
namespace Go.Ad
open Go.RowKit
def bZ(s:ByteArray):List Int:=s.data.toList.map fun b=>(b.toNat:Int)
theorem rM(s:ByteArray):(bZ s).length=s.size:=by
 rw[bZ,List.length_map,Array.length_toList];rfl
theorem Vq(s:ByteArray):Go.Lib.strCells s=(bZ s).map (fun z=>Value.int .u8 z):=by
 simp[Go.Lib.strCells,bZ]
theorem gy{P:Program}{w:World}(base:Nat)(t u ty e:TypeId)(i:TypeInfo)(ht:P.underlying t=some (.slice e))(hu:P.underlying u=some .string)(hi:P.info? e=some i)(hz:i.zero=some (.int .u8 0))(JM:i.size=1)(RJ:i.bytes=1)
  (v:Value) (n:Nat) (xs:List Value) (DE:w.ownsRow base e 1 v n xs) (s:ByteArray) (tc:n+s.size≤140737488355328) (RL:base≤w.heap.size):
  ∃v' w',(Builtin.append_ #[t,u] ty #[v,.string s]).run P w=.ok v' w'∧w'.ownsRow base e 1 v' (n+s.size) (xs++Go.Lib.strCells s)∧w.grownBy w' v.ownBlock∧(v'.ownBlock=v.ownBlock∨v'.ownBlock=some w.heap.size):=by
 obtain⟨v',w',r1,r2,r3,r4⟩:=Go.Lib.run_append_own_string (P:=P) w base t u ty e i ht hu hi hz JM RJ v n xs DE s (by unfold maxLen;omega) tc RL;refine⟨v',w',r1,r2,r3,?_⟩;have Xl:xs.length=n:=by simpa using DE.1
 rcases DE.2 with ⟨rfl,rfl⟩|⟨g,cap,cur,rfl,yI,hg,uR,pC,OR,TV⟩
 ·by_cases hm:s.size=0
  ·rw[r4.2 ⟨rfl,hm⟩];exact .inl rfl
  ·have hr:=run_append_nil_string (P:=P) w t u ty e i (.int .u8 0) ht hu hi hz s Zo Zo (by rw[RJ];omega);rw[hr]at r1;injection r1 with e1 e2;rw[←e1];exact .inr rfl
 ·by_cases wv:n+s.size≤cap
  ·have ACt:cur.size=cap:=by simpa using OR
   have hr:=Go.Lib.run_append_room_string (P:=P) w t u ty e i ht hu hi JM g n cap cur hg s wv Zo;rw[hr]at r1;injection r1 with e1 e2;rw[←e1];exact .inl rfl
  ·have holds: ∀j u,xs[j]? =some u→w.cell? ((⟨g,0,none⟩:Addr).add j)=some u:=DE.cells (g:=g) rfl;have hr:=Go.Lib.run_append_grow_string (P:=P) w t u ty e i (.int .u8 0) ht hu hi hz ⟨g,0,none⟩ n cap xs (by rw[JM];simpa using Xl) holds s Zo Zo (by rw[RJ];exact growslice_fits Zo Zo);rw[hr]at r1;injection r1 with e1 e2;rw[←e1];exact .inr rfl
section
variable{P:Program}{T:BT}(hT:T.ok P){n B:Nat}{w0:AT}{st:St}{a:Act}{w:World}{ρ:Nat→Option Value}{I:Nat→Prop}
include hT in
theorem Sf(hG:B3 n B w0 st a w ρ I){o:Oper}{x y:Operand}{t u e:TypeId}{te:TI}{d:Nat}{s:ByteArray}(ho:o.op=.call ⟨.builtin .append,#[x,y],#[t,u]⟩)(DD:o.dst=some d)(hd:d<n){s1 b1:Nat}{z1:Value}(ht:T t=some ⟨.sl e,s1,b1,z1⟩)(fP:P.underlying u=some .string)(EP:T e=some te)
  {bs:Option (Nat×TypeId×Nat×AH)} (Kh:KD st.heap (st.ev x).strip=some bs) (cx:(st.ev x).cond) (td:a.eval y=.string s) (hz:te.z=.int .u8 0) (Bh:te.sz=1) (Jy:te.Zz1=1) (l:List Int) (RL: ∀id e' sz' c',bs=some (id,e',sz',c')→e'=e∧sz'=1∧c'=.ints .u8 l) (RM:bs=none→l= [])
  (It:l.length+s.size≤140737488355328) (next:Act→World→Prop) (Q:Exit→Act→World→Prop)
  (hn: ∀a' w',G n B w0 ⟨(d,.s d)::CM d st.env,(d,.row e 1 (.ints .u8 (l++bZ s)))::AJ d (Iz st.heap bs)⟩ a' w'→next a' w'):o.wp P a w next Q:=by
 have hu:P.underlying t=some (.slice e):=(hT _ _ ht).kind;obtain⟨inf,Hz,HH,Pe,ow⟩:=(hT _ _ EP).info;rw[hz]at ow;rw[Bh]at HH;rw[Jy]at Pe
 have ki: ∃v0 k xs,a.eval x=v0∧w.ownsRow B e 1 v0 k xs∧(AH.ints IntKind.u8 l).len=k*1∧(∀j u,xs[j]? =some u→AL B I w DW ((AH.ints IntKind.u8 l).at j) u)∧
   (∀id e' sz' c',bs=some (id,e',sz',c')→Af st.heap id=some (.row e 1 (.ints .u8 l))∧ρ id=some v0)∧(bs=none→v0=.slice none 0 0):=by
  have hx:=(hG.ev x).strip cx;unfold KD at Kh;split at Kh
  ·rename_i BE;injection Kh with Kh;subst Kh
   rw[BE]at hx;have bM:(AH.ints IntKind.u8 l).len=0:=by rw[RM rfl];rfl
   exact⟨.slice none 0 0,0,[],hx.Ao,World.ownsRow_nil w B e 1,Zo,fun j u hu=>by simp at hu,(fun _ _ _ _ h=>by cases h),fun _=>rfl⟩
  ·rename_i id BE;split at Kh
   ·rename_i e' sz' c' hk;injection Kh with Kh;subst Kh
    obtain⟨rfl,rfl,rfl⟩:=RL _ _ _ _ rfl;rw[BE]at hx;generalize XP:a.eval x=xv at hx;cases hx with
    |s _ _ hr _=>
     obtain⟨x',H8,Ae⟩:=hG.hw.ok _ _ hk;rw[hr]at H8;injection H8 with H8;subst H8
     obtain⟨k,xs,H3,hl,hc⟩:=Ae;exact⟨xv,k,xs,rfl,H3,hl,hc,fun id2 e2 s2 c2 h=>by injection h with h;injection h with h3 h4;subst h3;exact⟨hk,hr⟩,fun h=>by cases h⟩
   ·cases Kh
  ·cases Kh
 obtain⟨v0,k,xs,wV,DE,hk,hold,hid,JN⟩:=ki;have Pg:l.length=k:=by simp only[AH.len]at hk;omega
 obtain⟨v',w',r1,r2,r3,r4⟩:=gy (P:=P) (w:=w) B t u o.type e inf hu fP Hz ow HH Pe v0 k xs DE s Zo hG.base;have hlen:(AH.ints IntKind.u8 (l++bZ s)).len=k+s.size:=by simp only[AH.len,List.length_append,rM];omega
 unfold Oper.wp
 have XT:(execOp a.eval o).run P w=.ok (.value v') w':=by
  simp only[execOp,ho,resolve,invoke,builtin,Sem.run_bind,Sem.run_pure,Result.andThen_ok,List.map_toArray,List.map_cons,List.map_nil,wV,td,r1]
 rw[XT,Oper.upon_value,DD];refine hn _ _ ?_;have JL:Ab v'=v'.ownBlock:=Bj r2;have H4:Ab v0=v0.ownBlock:=Bj DE
 have Uw: ∀b,I b→w'.heap[b]? =w.heap[b]? :=fun b hb=>r3.block b (hG.hw.lt b hb) (fun e=>by
  cases D7:bs with
  |none=>rw[JN D7]at e;simp[Value.ownBlock]at e
  |some q=>
   obtain⟨id,e',sz',c'⟩:=q;obtain⟨g1,g2⟩:=hid _ _ _ _ D7;exact hG.hw.J2 id _ v0 b g1 g2 (by rw[H4];exact e.symm) hb)
 have Jo:Below B w w':=⟨r3.os,r3.tape,r3.output,r3.size,fun b hb=>r3.block b (Nat.lt_of_lt_of_le hb hG.base) (fun e=>by
  have:=(DE.lt b e.symm).1;omega)⟩
 have Ct: ∀id blk,Af (Iz st.heap bs) id=some blk→Af st.heap id=some blk∧(∀id' e' sz' c',bs=some (id',e',sz',c')→id≠id'):=by
  intro id blk h;cases D7:bs with
  |none=>rw[D7]at h;exact⟨h,(fun _ _ _ _ h=>by cases h)⟩
  |some q=>
   obtain⟨id',e',sz',c'⟩:=q;rw[D7]at h;simp only[Iz,KB]at h;split at h
   ·cases h
   ·rename_i CD;exact⟨h,fun i1 i2 i3 i4 h5=>by injection h5 with h5;injection h5 with h6;subst h6;exact CD⟩
 have En: ∀id blk yv b,Af (Iz st.heap bs) id=some blk→ρ id=some yv→Ab yv=some b→v0.ownBlock≠some b∧b<w.heap.size:=by
  intro id blk yv b Pg hy hb;obtain⟨h3,h4⟩:=Ct id blk Pg;obtain⟨y',F9,Ae⟩:=hG.hw.ok id blk h3;rw[hy]at F9;injection F9 with F9;subst F9
  refine⟨fun hv=>?_,(Ae.lt hb).2⟩;cases D7:bs with
  |none=>rw[JN D7]at hv;simp[Value.ownBlock]at hv
  |some q=>
   obtain⟨id',e',sz',c'⟩:=q;obtain⟨g1,g2⟩:=hid _ _ _ _ D7;exact hG.hw.apart id' id _ _ v0 yv b (Ne.symm (h4 _ _ _ _ D7)) g1 h3 g2 hy (by rw[H4];exact hv) hb
 have Cj:=hG.replace (w':=w') (H0:=(Iz st.heap bs)) (fun id blk h=>(Ct id blk h).1) d v' (.row e 1 (.ints .u8 (l++bZ s)))
  ⟨k+s.size,xs++Go.Lib.strCells s,r2,by rw[hlen,Nat.mul_one],fun j u SA=>by
   have Xl:xs.length=l.length:=by have:=DE.1;have:=hk;simp only[AH.len]at this;omega
   by_cases hj:j<xs.length
   ·rw[List.getElem?_append_left hj]at SA;have h5:=(hold j u SA).same Uw;have e3:(AH.ints IntKind.u8 (l++bZ s)).at j=(AH.ints IntKind.u8 l).at j:=by simp only[AH.at];rw[Zlg,Zlg,List.getElem?_append_left Zo]
    rw[e3];exact h5
   ·rw[List.getElem?_append_right Zo,Vq,List.getElem?_map]at SA;obtain⟨z,hz,rfl⟩:=Option.map_eq_some_iff.1 SA;have e3:(AH.ints IntKind.u8 (l++bZ s)).at j=.v (.int .u8 z):=by simp only[AH.at];rw[Zlg,List.getElem?_append_right Zo,←Xl,hz];rfl
    rw[e3];exact .v _⟩
  Jo Uw (fun id blk yv b _ Pg hy hb=>by
   obtain⟨g1,g2⟩:=En id blk yv b Pg hy hb;exact r3.block b g2 (fun e=>g1 e.symm))
  (fun id blk yv b _ Pg hy hb hv=>by
   obtain⟨g1,g2⟩:=En id blk yv b Pg hy hb;rw[JL]at hv;rcases r4 with r4|r4
   ·rw[r4]at hv;exact g1 hv
   ·rw[r4]at hv;injection hv with hv;omega)
  (fun b hb hI=>by
   rw[JL]at hb;rcases r4 with r4|r4
   ·rw[r4]at hb;cases D7:bs with
    |none=>rw[JN D7]at hb;simp[Value.ownBlock]at hb
    |some q=>
     obtain⟨id,e',sz',c'⟩:=q;obtain⟨g1,g2⟩:=hid _ _ _ _ D7;exact hG.hw.J2 id _ v0 b g1 g2 (by rw[H4];exact hb) hI
   ·rw[r4]at hb;injection hb with hb;have:=hG.hw.lt b hI;omega) (hG.BQ.JQ d hd)
 have XU:LB v'=true:=by rcases r2.2 with ⟨rfl,_⟩|⟨g,cap,cur,rfl,_⟩<;>rfl
 exact⟨_,I,Cj.put (d:=some d) (fun k hk=>by injection hk with hk;omega) (.s d v' (B4 _ _ _) XU)⟩
def mX(T:BT)(dst:Option Nat)(op:Op)(K:St→Prop)(st:St):Prop:=
 match op,dst with
 | .call c,some d=>
  match c.callee,c.args.toList,c.argTypes.toList with
  | .builtin .append,[x,y],[t,u]=>
   match T t,T u with
   |some ⟨.sl e,_,_,_⟩,some ⟨.str,_,_,_⟩=>
    match T e,(st.ev y).strip with
    |some te,.v (.string s)=>
     match (st.ev x).strip with
     | .v (.slice none 0 0)=>((st.ev x).cond∧(st.ev y).cond∧te.sz=1∧te.Zz1=1∧te.z=.int .u8 0∧s.size≤140737488355328)∧K ⟨(d,.s d)::CM d st.env,(d,.row e 1 (.ints .u8 (bZ s)))::AJ d st.heap⟩
     | .s id=>
      match Af st.heap id with
      |some (.row e1 sz1 (.ints k l))=>((st.ev x).cond∧(st.ev y).cond∧e1=e∧sz1=1∧k=.u8∧te.sz=1∧te.Zz1=1∧te.z=.int .u8 0∧l.length+s.size≤140737488355328)∧K ⟨(d,.s d)::CM d st.env,(d,.row e 1 (.ints .u8 (l++bZ s)))::AJ d (Dh id st.heap)⟩
      |_=>False
     |_=>False
    |_,_=>False
   |_,_=>False
  |_,_,_=>False
 |_,_=>False
include hT in
theorem mY(hG:B3 n B w0 st a w ρ I){o:Oper}(hd:As n o.dst){K:St→Prop}(h:mX T o.dst o.op K st):C1 P n B w0 o a w K:=by
 intro next Q FZ
 unfold mX at h;split at h<;>first|exact h.elim|skip
 rename_i c d ho DD;rw[DD]at hd;split at h<;>first|exact h.elim|skip
 rename_i x y t u Iu DM SB
 have E4:o.op=.call ⟨.builtin .append,#[x,y],#[t,u]⟩:=by
  have h1:c.args= #[x,y]:=Array.toList_inj.1 (by simpa using DM);have h2:c.argTypes= #[t,u]:=Array.toList_inj.1 (by simpa using SB);rw[ho,←Iu,←h1,←h2]
 split at h<;>first|exact h.elim|skip
 rename_i e _ _ _ _ _ _ ht hu;have fP:P.underlying u=some .string:=(hT _ _ hu).kind;split at h<;>first|exact h.elim|skip
 rename_i te s EP hy;split at h<;>first|exact h.elim|skip
 ·rename_i hx;obtain⟨⟨cx,cy,Bh,Jy,hz,It⟩,hK⟩:=h;have td:=(hG.ev y).strip cy;rw[hy]at td;exact Sf hT hG E4 DD hd ht fP EP (bs:=none) (by rw[hx];rfl) cx td.Ao hz Bh Jy [] (fun _ _ _ _ h=>by cases h) (fun _=>rfl) (by simpa using It) next Q (fun a' w' hg=>FZ _ a' w' hK hg)
 ·rename_i id hx;split at h<;>first|exact h.elim|skip
  rename_i e1 sz1 k l hl;obtain⟨⟨cx,cy,rfl,rfl,rfl,Bh,Jy,hz,It⟩,hK⟩:=h;have td:=(hG.ev y).strip cy;rw[hy]at td;exact Sf hT hG E4 DD hd ht fP EP (bs:=some (id,e1,1,.ints .u8 l)) (by rw[hx];simp only[KD,hl]) cx td.Ao hz Bh Jy l (fun _ _ _ _ h=>by injection h with h;injection h with h1 h;injection h with h2 h;injection h with h3 h4;exact⟨h2.symm,h3.symm,h4.symm⟩) (fun h=>by cases h) It next Q (fun a' w' hg=>FZ _ a' w' hK hg)
theorem T0(hG:B3 n B w0 st a w ρ I){o:Oper}(hd:As n o.dst)(r:AV)(h: ∃v,(execOp a.eval o).run P w=.ok (.value v) w∧AL B I w ρ r v){K:St→Prop}(hK:K (st.put o.dst r)):C1 P n B w0 o a w K:=by
 intro next Q FZ
 obtain⟨v,h1,h2⟩:=h;unfold Oper.wp;rw[h1,Oper.upon_value];exact FZ _ _ _ hK ⟨ρ,I,hG.put (Ld hd) h2⟩
theorem YL(hG:B3 n B w0 st a w ρ I){x:Operand}{id off:Nat}(hx:(st.ev x).strip=.p id off)(cx:(st.ev x).cond){tb:TypeId}{c:AH}(hk:Af st.heap id=some (.box tb c)): ∃b,a.eval x=.pointer (some ⟨b,off,none⟩)∧w.shape? b=some (tb,c.len)∧AL B I w ρ (.p id off) (.pointer (some ⟨b,off,none⟩)):=by
 have h:=(hG.ev x).strip cx;rw[hx]at h;generalize hv:a.eval x=v at h;cases h with
 |p _ _ b y hr hb=>
  obtain⟨y',F9,b',us,rfl,hB,hh,hlen,_⟩:=hG.hw.ok _ _ hk;rw[hr]at F9;injection F9 with F9;subst F9
  simp only[Ab,Option.some.injEq]at hb;subst hb;exact⟨_,rfl,by simp[World.shape?,hh,hlen],.p id off _ _ hr rfl⟩
end
section
variable{P:Program}{T:BT}(hT:T.ok P){n B:Nat}{w0:AT}{ops:Array Oper}{K:St→Prop}{o:Oper}{rest:List Oper}{st:St}
include hT in
theorem FT(hg:o.guard=none)(hd:As n o.dst)(h: ∀K':St→Prop,(∀s,AK P n B w0 ops K rest s→K' s)→mX T o.dst o.op K' st):AK P n B w0 ops K (o::rest) st:=by
 intro a w ρ I hG next Q FZ
 rw[CI hg hG];have h':=h _ fun _ h=>h;refine LF (fun c' HU=>?_) (mY hT hG hd h' next Q FZ);rw[HU]at h';exact h'
theorem cH{s d t:TypeId}{x:Operand}{id off:Nat}{tb:TypeId}{c:AH}{j:TypeInfo}(E4:o.op=.convert s d x)(hg:o.guard=none)(hd:As n o.dst)(hs:P.underlying s=some (.pointer t))(XY:P.underlying d=some .unsafePointer)(ht:P.info? t=some j)(hj:j.size≠0)(hx:(st.ev x).strip=.p id off)(cx:(st.ev x).cond)(hk:Af st.heap id=some (.box tb c))(za:off<c.len)(h:AK P n B w0 ops K rest (st.put o.dst (.p id off))):AK P n B w0 ops K (o::rest) st:=by
 intro a w ρ I hG next Q FZ
 rw[CI hg hG];refine LF (fun c' HU=>by rw[E4]at HU;cases HU) (T0 hG hd (.p id off) ?_ (K:=fun s=>AK P n B w0 ops K rest s) h next Q FZ);obtain⟨b,h1,h2,h3⟩:=YL hG hx cx hk;refine⟨_,?_,h3⟩;simp[execOp,E4,h1,Go.Lib.run_to_unsafe w ⟨b,off,none⟩ hs XY ht hj h2 za,Result.andThen]
theorem Vk{s d t:TypeId}{x:Operand}{id off:Nat}{tb:TypeId}{c:AH}{j:TypeInfo}(E4:o.op=.convert s d x)(hg:o.guard=none)(hd:As n o.dst)(hs:P.underlying s=some .unsafePointer)(XY:P.underlying d=some (.pointer t))(ht:P.info? t=some j)(hx:(st.ev x).strip=.p id off)(cx:(st.ev x).cond)(hk:Af st.heap id=some (.box tb c))(wx:liesAt P P.depth tb (c.len / P.cellsOf tb) off t 1=true)(h:AK P n B w0 ops K rest (st.put o.dst (.p id off))):AK P n B w0 ops K (o::rest) st:=by
 intro a w ρ I hG next Q FZ
 rw[CI hg hG];refine LF (fun c' HU=>by rw[E4]at HU;cases HU) (T0 hG hd (.p id off) ?_ (K:=fun s=>AK P n B w0 ops K rest s) h next Q FZ);obtain⟨b,h1,h2,h3⟩:=YL hG hx cx hk;refine⟨_,?_,h3⟩;simp[execOp,E4,h1,Go.Lib.run_from_unsafe w ⟨b,off,none⟩ hs XY ht h2 wx,Result.andThen]
theorem Vl{f:FuncId}{fn:Func}{ts:Array TypeId}{x:Operand}{id off:Nat}{tb:TypeId}{c:AH}(E4:o.op=.call ⟨.value (.func f),#[x],ts⟩)(hg:o.guard=none)(hd:As n o.dst)(hf:P.funcs[f]? =some fn)(h1:(fn.name== "runtime.NumGoroutine")=false)(h2:fn.body.isNone=true)(h3:Extern.findNext fn=none)(h4:Extern.find fn=some Extern.AbiNoEscape.same)(hx:(st.ev x).strip=.p id off)(cx:(st.ev x).cond)(hk:Af st.heap id=some (.box tb c))(h:AK P n B w0 ops K rest (st.put o.dst (.p id off))):AK P n B w0 ops K (o::rest) st:=by
 intro a w ρ I hG next Q FZ
 rw[CI hg hG];refine LF (fun c' HU=>by rw[E4]at HU;cases HU) (T0 hG hd (.p id off) ?_ (K:=fun s=>AK P n B w0 ops K rest s) h next Q FZ);obtain⟨b,g1,g2,g3⟩:=YL hG hx cx hk;refine⟨_,?_,g3⟩;have e0:a.eval (.func f)=ba (.func f) #[]:=rfl;simp[execOp,E4,resolve,e0,ba,Deferred.ofValue,invoke,g1,run_callFunc_extern hf h1 h2 h3 h4,Go.Lib.run_noEscape,Result.andThen]
end
attribute [push_cast] mX
end Go.Ad
namespace Go.Proofs.YthemnhjojaehhaaGreatDoor
open Go.Ad Go.Proofs Go.Tp
attribute [local irreducible] A8 AK BY Go.Ad.Pure BS
def gz(e:Nd)(l:Int):Int:=if l≤0 then 0 else min (e.size:Int) l
theorem size_pos(e:Nd):0<e.size:=by rw[Nd.size_eq];omega
theorem Sg(a b:List Nd):Nd.AP (a++b)=Nd.AP a+Nd.AP b:=by
 induction a with
 |nil=>simp[Nd.AP]
 |cons x r ih=>simp only[List.cons_append,Nd.AP,ih];omega
theorem FV(ks:List Nd)(k:Nat)(h:k<ks.length):Nd.AP (ks.take (k+1))=Nd.AP (ks.take k)+(ks.getD k default).size:=by
 have:ks.getD k default=ks[k]:=by simp[Zlg,h]
 rw[List.take_succ_eq_append_getElem h,Sg,this];simp[Nd.AP]
theorem DP(ks:List Nd)(k:Nat):Nd.AP (ks.take k)≤Nd.AP ks:=by
 have:=Sg (ks.take k) (ks.drop k);rw[List.take_append_drop]at this;omega
theorem hO(e:Nd): ∀(l:Int),Cz e→DA l→Pure Tryz.prog 35 [.a (A1 e),AE l] (AE (gz e l)):=by
 induction e using Nd.ind with
 |h e ih=>
 intro l Ae hl;have Ci:=Ae.spec.kids;obtain⟨Iv,C0⟩:=hl;have E5:=Ci.2;have pD:=Nd.size_eq e;refine PO 33 [.tmp 4] hT Tryz.func35 Tryz.ntmps35 fun B w0=>?_;unfold gz;by_cases h0:l≤0
 ·have c0:decide (l≤0)=true:=Zde h0;rw[if_pos h0];repeat'(first|exact tT|refine WA tT c0 ?_ ?_|(refine PE ?_;clear hK K)|refine WR fun K hK=>?_|refine PT ?_|refine WC (fun h=>?_) fun h=>?_|exact ff|fail)
  all_goals done
 ·have c0:decide (l≤0)=false:=Zdf h0;rw[if_neg h0];repeat'(first|exact tT|refine WA tT c0 ?_ ?_|(refine PE ?_;clear hK K)|refine WR fun K hK=>?_|refine PT ?_|refine WC (fun h=>?_) fun h=>?_|exact ff|fail)
  refine AM (α:=Nat) (fun k=>⟨[(1,AE l),(2,.p 2 0),(5,AE (min (1+(Nd.AP (e.kids.take k):Int)) l)),(6,AE k)],[(2,.box 27 (.AF (A1 e)))]⟩) (fun k=>k≤e.kids.length) (fun k=>e.kids.length - k) 0 (Nat.zero_le _) (G.wk ⟨rfl,rfl,by rw[show min (1+(Nd.AP (e.kids.take 0):Int)) l=1 by simp[Nd.AP];omega];rfl,rfl,trivial⟩ ⟨rfl,trivial⟩) fun k hk=>?_;generalize hx:min (1+(Nd.AP (e.kids.take k):Int)) l=x;have RO:1≤x∧x≤l:=Zo
  by_cases Ak:k<e.kids.length
  ·have c1:=DT ((k:Int)<(e.kids.length:Int));by_cases hn:x<l
   ·have c2:decide (x<l)=true:=Zde hn;have kid:=Aw Ak;have BE:=FV e.kids k Ak;have Iw:=ih _ (Ap Ak) (l - x) (Ci.nth Ak) ⟨Zo,Zo⟩;have F1:=size_pos (e.kids.getD k default);have hcn:gz (e.kids.getD k default) (l - x)=min ((e.kids.getD k default).size:Int) (l - x):=if_neg Zo;rw[hcn]at Iw;generalize (e.kids.getD k default).size=s at*;repeat'(first|exact tT|refine WA Iw (Y3 c1 c2 kid) ?_ ?_|(refine PE ?_;clear hK K)|refine WR fun K hK=>?_|refine PT ?_|refine WC (fun h=>?_) fun h=>?_|exact ff|fail)
    all_goals exact⟨k+1,⟨Zo,Zo⟩,G.wk ⟨rfl,rfl,by rw[BE];simp only[lk,Nat.reduceEqDiff,if_true,if_false,AV.v.injEq,Value.int.injEq,true_and];omega,rfl,trivial⟩ ⟨rfl,trivial⟩⟩
   ·have c2:decide (x<l)=false:=Zdf hn;have hle:=DP e.kids k;rw[show min (e.size:Int) l=x by omega];repeat'(first|exact tT|refine WA tT (Y2 c1 c2) ?_ ?_|(refine PE ?_;clear hK K)|refine WR fun K hK=>?_|refine PT ?_|refine WC (fun h=>?_) fun h=>?_|exact ff|fail)
    all_goals done
  ·obtain rfl:k=e.kids.length:=Zo
   have c1:=DF ((e.kids.length:Int)<(e.kids.length:Int));rw[List.take_length]at hx;rw[show min (e.size:Int) l=x by omega];repeat'(first|exact tT|refine WA tT c1 ?_ ?_|(refine PE ?_;clear hK K)|refine WR fun K hK=>?_|refine PT ?_|refine WC (fun h=>?_) fun h=>?_|exact ff|fail)
   all_goals done
theorem rO(e:Nd)(l:Int)(h:Cz e)(h0:0≤l)(h1:l≤1000000):Pure Tryz.prog 13 [.a (A1 e),AE l] (BL (decide ((e.size:Int)≤l))):=by
 have hc:=hO e (l+1) h ⟨Zo,Zo⟩;have e1:decide (gz e (l+1)≤l)=decide ((e.size:Int)≤l):=decide_eq_decide.2 (by unfold gz;rw[if_neg Zo];omega);rw[←e1];refine PO 11 [.tmp 4] hT Tryz.func13 Tryz.ntmps13 fun B w0=>?_;repeat'(first|exact tT|refine WA hc tT ?_ ?_|(refine PE ?_;clear hK K)|refine WR fun K hK=>?_|refine PT ?_|refine WC (fun h=>?_) fun h=>?_|exact ff|fail)
 all_goals done
theorem Sh{ks:List Nd}{l:Int}(h0:0≤l):((Nd.A2 ks:Int)≤l)↔ ∀j,j<ks.length→((ks.getD j default).depth:Int)≤l:=by
 induction ks with
 |nil=>simp[Nd.A2];exact h0
 |cons k r ih=>
  constructor
  ·intro h j hj;simp only[Nd.A2]at h;cases j with
   |zero=>simp only[List.getD_cons_zero];omega
   |succ j=>simp only[List.getD_cons_succ];exact ih.1 Zo j (by simpa using hj)
  ·intro h;have h1:=h 0 (by simp);have h2:=ih.2 fun j hj=>by have:=h (j+1) (by simpa using hj);simpa using this
   simp only[List.getD_cons_zero]at h1;simp only[Nd.A2];omega
theorem cL(e:Nd):0<e.depth:=by rw[Nd.Ck];omega
theorem mZ(e:Nd): ∀(l:Int),Cz e→l≤1000000∧ -1000000≤l→Pure Tryz.prog 14 [.a (A1 e),AE l] (BL (decide ((e.depth:Int)≤l))):=by
 induction e using Nd.ind with
 |h e ih=>
 intro l Ae hl;have Ci:=Ae.spec.kids;obtain⟨Iv,C0⟩:=hl;have E5:=Ci.2;have hde:=Nd.Ck e;refine PO 24 [.tmp 4] hT Tryz.func14 Tryz.ntmps14 fun B w0=>?_;by_cases h0:l<1
 ·have c0:decide (l<1)=true:=Zde h0;rw[Zdf Zo];repeat'(first|exact tT|refine WA tT c0 ?_ ?_|(refine PE ?_;clear hK K)|refine WR fun K hK=>?_|refine PT ?_|refine WC (fun h=>?_) fun h=>?_|exact ff|fail)
  all_goals done
 ·have c0:decide (l<1)=false:=Zdf h0;repeat'(first|exact tT|refine WA tT c0 ?_ ?_|(refine PE ?_;clear hK K)|refine WR fun K hK=>?_|refine PT ?_|refine WC (fun h=>?_) fun h=>?_|exact ff|fail)
  have qG:=Sh (ks:=e.kids) (l:=l - 1) Zo;refine AM (α:=Nat) (fun k=>⟨[(1,AE l),(2,.p 2 0),(5,AE k)],[(2,.box 27 (.AF (A1 e)))]⟩) (fun k=>k≤e.kids.length∧ ∀j,j<k→((e.kids.getD j default).depth:Int)≤l - 1) (fun k=>e.kids.length - k) 0 ⟨Nat.zero_le _,fun j hj=>by omega⟩ (by exact G.wk ⟨rfl,rfl,rfl,trivial⟩ ⟨rfl,trivial⟩) fun k hk=>?_;obtain⟨hk,BU⟩:=hk;by_cases Ak:k<e.kids.length
  ·have c1:=DT ((k:Int)<(e.kids.length:Int));have kid:=Aw Ak;have Iw:=ih _ (Ap Ak) (l - 1) (Ci.nth Ak) ⟨Zo,Zo⟩;by_cases F3:((e.kids.getD k default).depth:Int)≤l - 1
   ·have c2:decide (((e.kids.getD k default).depth:Int)≤l - 1)=true:=Zde F3;repeat'(first|exact tT|refine WA Iw (Y3 c1 kid c2) ?_ ?_|(refine PE ?_;clear hK K)|refine WR fun K hK=>?_|refine PT ?_|refine WC (fun h=>?_) fun h=>?_|exact ff|fail)
    all_goals exact⟨k+1,⟨⟨Zo,gx (p:=fun j=>((e.kids.getD j default).depth:Int)≤l - 1) BU F3⟩,Zo⟩,G.wk ⟨rfl,rfl,rfl,trivial⟩ ⟨rfl,trivial⟩⟩
   ·have c2:decide (((e.kids.getD k default).depth:Int)≤l - 1)=false:=Zdf F3;rw[Zdf (fun h=>F3 (qG.1 Zo k Ak))];repeat'(first|exact tT|refine WA Iw (Y3 c1 kid c2) ?_ ?_|(refine PE ?_;clear hK K)|refine WR fun K hK=>?_|refine PT ?_|refine WC (fun h=>?_) fun h=>?_|exact ff|fail)
    all_goals done
  ·obtain rfl:k=e.kids.length:=Zo
   have c1:=DF ((e.kids.length:Int)<(e.kids.length:Int));have:=qG.2 BU;rw[Zde (show(e.depth:Int)≤l by omega)];repeat'(first|exact tT|refine WA tT c1 ?_ ?_|(refine PE ?_;clear hK K)|refine WR fun K hK=>?_|refine PT ?_|refine WC (fun h=>?_) fun h=>?_|exact ff|fail)
   all_goals done
theorem cM(e:Nd)(h:Cz e):Pure Tryz.prog 5 [.a (A1 e)] (BL (decide ((e.size:Int)≤300)&&decide ((e.depth:Int)≤100))):=by
 have h1:=rO e 300 h Zd Zd;have h2:=mZ e 100 h Zd;refine PO 9 [.tmp 2] hT Tryz.func5 Tryz.ntmps5 fun B w0=>?_;repeat'(first|exact tT|refine WA (Y2 h1 h2) tT ?_ ?_|(refine PE ?_;clear hK K)|refine WR fun K hK=>?_|refine PT ?_|refine WC (fun h=>?_) fun h=>?_|exact ff|fail)
 all_goals done
theorem Vr(d:Int)(ps:List Pc)(h:ps.length≤9223372036854775807):Pure Tryz.prog 100 [.a [AE d,C2 Et 3 ps],.a [AE d,C2 Et 3 ps]] (BL true):=by
 refine PO 38 [.tmp 4] hT Tryz.func100 Tryz.ntmps100 fun B w0=>?_;repeat'(first|exact tT|refine WA tT tT ?_ ?_|(refine PE ?_;clear hK K)|refine WR fun K hK=>?_|refine PT ?_|refine WC (fun h=>?_) fun h=>?_|exact ff|fail)
 refine AM (α:=Nat) (fun k=>⟨[(2,.p 2 0),(3,.p 3 0),(5,AE k)],[(3,.box 24 (.AF [AE d,C2 Et 3 ps])),(2,.box 24 (.AF [AE d,C2 Et 3 ps]))]⟩) (fun k=>k≤ps.length) (fun k=>ps.length - k) 0 (Nat.zero_le _) (by exact G.wk ⟨rfl,rfl,rfl,trivial⟩ ⟨rfl,rfl,trivial⟩) fun k hk=>?_;by_cases Ak:k<ps.length
 ·have c1:=DT ((k:Int)<(ps.length:Int));repeat'(first|exact tT|refine WA tT c1 ?_ ?_|(refine PE ?_;clear hK K)|refine WR fun K hK=>?_|refine PT ?_|refine WC (fun h=>?_) fun h=>?_|exact ff|fail)
  all_goals exact⟨k+1,⟨Zo,Zo⟩,G.wk ⟨rfl,rfl,rfl,trivial⟩ ⟨rfl,rfl,trivial⟩⟩
 ·obtain rfl:k=ps.length:=Zo
  have c1:=DF ((ps.length:Int)<(ps.length:Int));repeat'(first|exact tT|refine WA tT c1 ?_ ?_|(refine PE ?_;clear hK K)|refine WR fun K hK=>?_|refine PT ?_|refine WC (fun h=>?_) fun h=>?_|exact ff|fail)
  all_goals done
theorem Z5(e:Ex):Js e→Pure Tryz.prog 66 [.a (DO e),.a (DO e)] (BL true):=by
 induction e using Ex.ind with
 |h e ih=>
 intro Ae;obtain⟨_,_,_,_,Xp,Ci⟩:=Ae.spec;have E5:=Ci.2;have hf:=Vr e.den e.ps Xp.2;refine PO 61 [.tmp 4] hT Tryz.func66 Tryz.ntmps66 fun B w0=>?_;repeat'(first|exact tT|refine WA hf tT ?_ ?_|(refine PE ?_;clear hK K)|refine WR fun K hK=>?_|refine PT ?_|refine WC (fun h=>?_) fun h=>?_|exact ff|fail)
 refine AM (α:=Nat) (fun k=>⟨[(2,.p 2 0),(3,.p 3 0),(5,AE k)],[(3,.box 80 (.AF (DO e))),(2,.box 80 (.AF (DO e)))]⟩) (fun k=>k≤e.kids.length) (fun k=>e.kids.length - k) 0 (Nat.zero_le _) (by exact G.wk ⟨rfl,rfl,rfl,trivial⟩ ⟨rfl,rfl,trivial⟩) fun k hk=>?_;by_cases Ak:k<e.kids.length
 ·have c1:=DT ((k:Int)<(e.kids.length:Int));have kid:=DH Ak;have Iw:=ih _ (Ap Ak) (Ci.nth Ak);repeat'(first|exact tT|refine WA Iw (Y2 c1 kid) ?_ ?_|(refine PE ?_;clear hK K)|refine WR fun K hK=>?_|refine PT ?_|refine WC (fun h=>?_) fun h=>?_|exact ff|fail)
  all_goals exact⟨k+1,⟨Zo,Zo⟩,G.wk ⟨rfl,rfl,rfl,trivial⟩ ⟨rfl,rfl,trivial⟩⟩
 ·obtain rfl:k=e.kids.length:=Zo
  have c1:=DF ((e.kids.length:Int)<(e.kids.length:Int));repeat'(first|exact tT|refine WA tT c1 ?_ ?_|(refine PE ?_;clear hK K)|refine WR fun K hK=>?_|refine PT ?_|refine WC (fun h=>?_) fun h=>?_|exact ff|fail)
  all_goals done
theorem T1(l:List Ex)(Ae:Ob l):Pure Tryz.prog 64 [Dq l,Dq l] (BL true):=by
 have E5:=Ae.2;refine PO 27 [.tmp 4] hT Tryz.func64 Tryz.ntmps64 fun B w0=>?_;repeat'(first|exact tT|refine WA tT tT ?_ ?_|(refine PE ?_;clear hK K)|refine WR fun K hK=>?_|refine PT ?_|refine WC (fun h=>?_) fun h=>?_|exact ff|fail)
 refine AM (α:=Nat) (fun k=>⟨[(0,Dq l),(1,Dq l),(5,AE k)],[]⟩) (fun k=>k≤l.length) (fun k=>l.length - k) 0 (Nat.zero_le _) (by exact G.wk ⟨rfl,rfl,rfl,trivial⟩ trivial) fun k hk=>?_;by_cases Ak:k<l.length
 ·have c1:=DT ((k:Int)<(l.length:Int));have kid:=DH Ak;have Iw:=Z5 _ (Ae.nth Ak);repeat'(first|exact tT|refine WA Iw (Y2 c1 kid) ?_ ?_|(refine PE ?_;clear hK K)|refine WR fun K hK=>?_|refine PT ?_|refine WC (fun h=>?_) fun h=>?_|exact ff|fail)
  all_goals exact⟨k+1,⟨Zo,Zo⟩,G.wk ⟨rfl,rfl,rfl,trivial⟩ trivial⟩
 ·obtain rfl:k=l.length:=Zo
  have c1:=DF ((l.length:Int)<(l.length:Int));repeat'(first|exact tT|refine WA tT c1 ?_ ?_|(refine PE ?_;clear hK K)|refine WR fun K hK=>?_|refine PT ?_|refine WC (fun h=>?_) fun h=>?_|exact ff|fail)
  all_goals done
theorem Vs(l:List Int)(h:l.length≤9223372036854775807):Pure Tryz.prog 65 [ints l,ints l] (BL true):=by
 refine PO 26 [.tmp 4] hT Tryz.func65 Tryz.ntmps65 fun B w0=>?_;repeat'(first|exact tT|refine WA tT tT ?_ ?_|(refine PE ?_;clear hK K)|refine WR fun K hK=>?_|refine PT ?_|refine WC (fun h=>?_) fun h=>?_|exact ff|fail)
 refine AM (α:=Nat) (fun k=>⟨[(0,ints l),(1,ints l),(5,AE k)],[]⟩) (fun k=>k≤l.length) (fun k=>l.length - k) 0 (Nat.zero_le _) (by exact G.wk ⟨rfl,rfl,rfl,trivial⟩ trivial) fun k hk=>?_;by_cases Ak:k<l.length
 ·have c1:=DT ((k:Int)<(l.length:Int));repeat'(first|exact tT|refine WA tT c1 ?_ ?_|(refine PE ?_;clear hK K)|refine WR fun K hK=>?_|refine PT ?_|refine WC (fun h=>?_) fun h=>?_|exact ff|fail)
  all_goals exact⟨k+1,⟨Zo,Zo⟩,G.wk ⟨rfl,rfl,rfl,trivial⟩ trivial⟩
 ·obtain rfl:k=l.length:=Zo
  have c1:=DF ((l.length:Int)<(l.length:Int));repeat'(first|exact tT|refine WA tT c1 ?_ ?_|(refine PE ?_;clear hK K)|refine WR fun K hK=>?_|refine PT ?_|refine WC (fun h=>?_) fun h=>?_|exact ff|fail)
  all_goals done
theorem Me(l:List De)(h:l.length≤9223372036854775807):Pure Tryz.prog 31 [Im l,Im l] (BL true):=by
 refine PO 26 [.tmp 4] hT Tryz.func31 Tryz.ntmps31 fun B w0=>?_;repeat'(first|exact tT|refine WA tT tT ?_ ?_|(refine PE ?_;clear hK K)|refine WR fun K hK=>?_|refine PT ?_|refine WC (fun h=>?_) fun h=>?_|exact ff|fail)
 refine AM (α:=Nat) (fun k=>⟨[(0,Im l),(1,Im l),(5,AE k)],[]⟩) (fun k=>k≤l.length) (fun k=>l.length - k) 0 (Nat.zero_le _) (by exact G.wk ⟨rfl,rfl,rfl,trivial⟩ trivial) fun k hk=>?_;by_cases Ak:k<l.length
 ·have c1:=DT ((k:Int)<(l.length:Int));repeat'(first|exact tT|refine WA tT c1 ?_ ?_|(refine PE ?_;clear hK K)|refine WR fun K hK=>?_|refine PT ?_|refine WC (fun h=>?_) fun h=>?_|exact ff|fail)
  all_goals exact⟨k+1,⟨Zo,Zo⟩,G.wk ⟨rfl,rfl,rfl,trivial⟩ trivial⟩
 ·obtain rfl:k=l.length:=Zo
  have c1:=DF ((l.length:Int)<(l.length:Int));repeat'(first|exact tT|refine WA tT c1 ?_ ?_|(refine PE ?_;clear hK K)|refine WR fun K hK=>?_|refine PT ?_|refine WC (fun h=>?_) fun h=>?_|exact ff|fail)
  all_goals done
theorem QR(a:Ar)(h:gw a):Pure Tryz.prog 32 [.a (DX a),.a (DX a)] (BL true):=by
 have h1:=T1 a.FU h.FU;have h2:=Vs a.G9 h.G9.2;have h3:=Z5 a.GU h.GU;simp only[DX];refine PO 66 [.tmp 4] hT Tryz.func32 Tryz.ntmps32 fun B w0=>?_;repeat'(first|exact tT|refine WA (Y3 h1 h2 h3) tT ?_ ?_|(refine PE ?_;clear hK K)|refine WR fun K hK=>?_|refine PT ?_|refine WC (fun h=>?_) fun h=>?_|exact ff|fail)
 all_goals done
theorem T2(c:Cd)(Ae:rL c):Pure Tryz.prog 10 [.a (Rk c),.a (Rk c)] (BL true):=by
 have h1:=Me c.facts Ae.facts.2;have h2:=Me c.lines Ae.lines.2;have E5:=Ae.BX.2;refine PO 48 [.tmp 4] hT Tryz.func10 Tryz.ntmps10 fun B w0=>?_;repeat'(first|exact tT|refine WA (Y2 h1 h2) tT ?_ ?_|(refine PE ?_;clear hK K)|refine WR fun K hK=>?_|refine PT ?_|refine WC (fun h=>?_) fun h=>?_|exact ff|fail)
 refine AM (α:=Nat) (fun k=>⟨[(2,.p 2 0),(3,.p 3 0),(5,AE k)],[(3,.box 39 (.AF (Rk c))),(2,.box 39 (.AF (Rk c)))]⟩) (fun k=>k≤c.BX.length) (fun k=>c.BX.length - k) 0 (Nat.zero_le _) (by exact G.wk ⟨rfl,rfl,rfl,trivial⟩ ⟨rfl,rfl,trivial⟩) fun k hk=>?_;by_cases Ak:k<c.BX.length
 ·have c1:=DT ((k:Int)<(c.BX.length:Int));have Iw:=QR _ (Ae.BX.nth Ak);simp only[DX]at Iw;repeat'(first|exact tT|refine WA Iw c1 ?_ ?_|(refine PE ?_;clear hK K)|refine WR fun K hK=>?_|refine PT ?_|refine WC (fun h=>?_) fun h=>?_|exact ff|fail)
  all_goals exact⟨k+1,⟨Zo,Zo⟩,G.wk ⟨rfl,rfl,rfl,trivial⟩ ⟨rfl,rfl,trivial⟩⟩
 ·obtain rfl:k=c.BX.length:=Zo
  have c1:=DF ((c.BX.length:Int)<(c.BX.length:Int));repeat'(first|exact tT|refine WA tT c1 ?_ ?_|(refine PE ?_;clear hK K)|refine WR fun K hK=>?_|refine PT ?_|refine WC (fun h=>?_) fun h=>?_|exact ff|fail)
  all_goals done
theorem cN(a b:List Dg)(hl:a.length=b.length)(he: ∀i,i<a.length→(a.getD i default).err=(b.getD i default).err)(h:a.length≤9223372036854775807):Pure Tryz.prog 11 [KP a,KP b] (BL true):=by
 refine PO 28 [.tmp 4] hT Tryz.func11 Tryz.ntmps11 fun B w0=>?_;repeat'(first|exact tT|refine WA tT hl ?_ ?_|(refine PE ?_;clear hK K)|refine WR fun K hK=>?_|refine PT ?_|refine WC (fun h=>?_) fun h=>?_|exact ff|fail)
 refine AM (α:=Nat) (fun k=>⟨[(0,KP a),(1,KP b),(5,AE k)],[]⟩) (fun k=>k≤a.length) (fun k=>a.length - k) 0 (Nat.zero_le _) (by exact G.wk ⟨by simp only[C2,hl];rfl,rfl,rfl,trivial⟩ trivial) fun k hk=>?_;by_cases Ak:k<a.length
 ·have c1:=DT ((k:Int)<(a.length:Int));have c2:=he k Ak;repeat'(first|exact tT|refine WA tT (Y2 c1 c2) ?_ ?_|(refine PE ?_;clear hK K)|refine WR fun K hK=>?_|refine PT ?_|refine WC (fun h=>?_) fun h=>?_|exact ff|fail)
  all_goals exact⟨k+1,⟨Zo,Zo⟩,G.wk ⟨rfl,rfl,rfl,trivial⟩ trivial⟩
 ·obtain rfl:k=a.length:=Zo
  have c1:=DF ((a.length:Int)<(a.length:Int));repeat'(first|exact tT|refine WA tT c1 ?_ ?_|(refine PE ?_;clear hK K)|refine WR fun K hK=>?_|refine PT ?_|refine WC (fun h=>?_) fun h=>?_|exact ff|fail)
  all_goals done
end Go.Proofs.YthemnhjojaehhaaGreatDoor
