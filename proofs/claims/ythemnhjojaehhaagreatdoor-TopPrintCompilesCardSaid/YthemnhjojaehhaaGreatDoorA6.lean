/- Part of a proof. -/
import Derived.Test.YthemnhjojaehhaaGreatDoorA5
set_option linter.all false
namespace Go.Ad
open Go.RowKit
section
variable{P:Program}{T:BT}(hT:T.ok P){n B:Nat}{w0:AT}{st:St}{a:Act}{w:World}{ρ:Nat→Option Value}{I:Nat→Prop}
theorem At.Ps{cs:List AV}{us:List Value}(h:At B I w ρ cs us)(d:Nat)(ρ':Nat→Option Value)(hρ: ∀id,id≠d→ρ' id=ρ id):At B I w ρ' (AV.CV d cs) us:=
 ⟨by rw[Bl];exact h.1,fun j hj=>by rw[Bl]at hj;rw[EV];exact(h.2 j hj).kill d ρ' hρ⟩
theorem Zn(hG:B3 n B w0 st a w ρ I)(d:Nat)(hd:d<n)(t:TypeId)(us:Array Value)(c:AH)(hl:us.size=c.len)
  (hc: ∀j u,us[j]? =some u→AL B I w (Jq ρ d (.pointer (some ⟨w.heap.size,0,none⟩))) (c.at j) u):
  G n B w0 ⟨(d,.p d 0)::CM d st.env,(d,.box t c)::AJ d st.heap⟩ (a.put (some d) (.pointer (some ⟨w.heap.size,0,none⟩))) (w.alloc (.cells us t)):=by
 have hb:Below w.heap.size w (w.alloc (.cells us t)):=(Below.refl _ _).alloc (Nat.le_refl _) _
 have h1:=hG.new hb d (.pointer (some ⟨w.heap.size,0,none⟩)) (.box t c)
  ⟨w.heap.size,us,rfl,hG.base,heap_alloc_new w _,hl,fun j u hu=>(hc j u hu).same (fun b hI=>hb.block b (hG.hw.lt b hI))⟩ (fun b hr=>by simp[Ab]at hr;omega) (hG.BQ.JQ d hd)
 exact⟨_,I,h1.put (d:=some d) (fun k hk=>by injection hk with hk;omega) (.p d 0 w.heap.size _ (B4 _ _ _) rfl)⟩
theorem qY(hG:B3 n B w0 st a w ρ I){o:Oper}{t:TypeId}{x:Operand}(ho:o.op=.box t x)(hd: ∀d,o.dst=some d→d<n){K:St→Prop}(h:al T st o K):C1 P n B w0 o a w K:=by
 intro next Q hn
 unfold al at h;simp only[ho]at h;split at h
 ·rename_i d cs DD OR;obtain⟨c1,hK⟩:=h;have hv:=Pr ((hG.ev x).strip c1) OR;unfold Oper.wp
  have B1:(execOp a.eval o).run P w=.ok (.value (.pointer (some ⟨w.heap.size,0,none⟩))) (w.alloc (.cells (a.eval x).cells t)):=by
   simp[execOp,ho,Instr.box,newVar,newRow]
  rw[B1,Oper.upon_value,DD];refine hn _ _ _ hK (Zn hG d (hd d DD) t _ _ (by simp[AH.len,Bl,←hv.1]) fun j u hu=>?_);have hk:=hv.Ps d (Jq ρ d (.pointer (some ⟨w.heap.size,0,none⟩))) (fun id hid=>D5 _ _ _ hid);have hj:j<(a.eval x).cells.size:=(Array.getElem?_eq_some_iff.1 hu).1;have:=hk.2 j (by rw[Bl,←hv.1,Array.length_toList];exact hj);have e:(a.eval x).cells.toList.getD j undef=u:=by simp[Zlg,hu]
  rw[e]at this;exact this
 ·exact h.elim
include hT in
theorem gK(hG:B3 n B w0 st a w ρ I){o:Oper}{t:TypeId}(ho:o.op=.alloc t)(hd: ∀d,o.dst=some d→d<n){K:St→Prop}(h:al T st o K):C1 P n B w0 o a w K:=by
 intro next Q hn
 unfold al at h;simp only[ho]at h;split at h
 ·rename_i d ti DD oo;obtain⟨inf,Hz,_,_,hz⟩:=(hT _ _ oo).info;unfold Oper.wp
  have B1:(execOp a.eval o).run P w=.ok (.value (.pointer (some ⟨w.heap.size,0,none⟩))) (w.alloc (.cells ti.z.cells t)):=by
   simp[execOp,ho,Instr.alloc,zeroValue,typeInfo,Hz,hz,newVar,newRow]
  rw[B1,Oper.upon_value,DD];refine hn _ _ _ h (Zn hG d (hd d DD) t _ _ ?_ fun j u hu=>?_)
  ·split<;>simp[AH.len]
  ·have hj:j<ti.z.cells.size:=(Array.getElem?_eq_some_iff.1 hu).1;have he:=(Array.getElem?_eq_some_iff.1 hu).2;split
   ·simp only[AH.at];have e:ti.z.cells.toList.getD j undef=u:=by simp[Zlg,hu]
    rw[e];exact .v _
   ·simp only[AH.at];have e:(ti.z.cells.toList.map AV.v).getD j .top=.v u:=by simp[Zlg,hu]
    rw[e];exact .v _
 ·exact h.elim
theorem Ox(hG:B3 n B w0 st a w ρ I)(d:Nat)(hd:d<n){w1:World}(hb:Below w.heap.size w w1){x:Value}{e:TypeId}{sz m:Nat}{xs:List Value}(ho:w1.ownsRow B e sz x m xs)(JL: ∀b,Ab x=some b→w.heap.size≤b)(c:AH)(hl:c.len=m*sz)
  (hc: ∀j u,xs[j]? =some u→AL B I w DW (c.at j) u):
  G n B w0 ⟨(d,.s d)::CM d st.env,(d,.row e sz c)::AJ d st.heap⟩ (a.put (some d) x) w1:=by
 have h1:=hG.new hb d x (.row e sz c) ⟨m,xs,ho,hl,fun j u hu=>(hc j u hu).same (fun b hI=>hb.block b (hG.hw.lt b hI))⟩ JL (hG.BQ.JQ d hd);have R9:LB x=true:=by rcases ho.2 with ⟨rfl,_⟩|⟨g,cap,cur,rfl,_⟩<;>rfl
 exact⟨_,I,h1.put (d:=some d) (fun k hk=>by injection hk with hk;omega) (.s d x (B4 _ _ _) R9)⟩
include hT in
theorem lx(hG:B3 n B w0 st a w ρ I){o:Oper}{t:TypeId}{l c:Operand}(ho:o.op=.makeSlice t l c)(hd: ∀d,o.dst=some d→d<n){K:St→Prop}(h:al T st o K):C1 P n B w0 o a w K:=by
 intro next Q hn
 unfold al at h;simp only[ho]at h;split at h
 ·rename_i d e _ _ _ k1 nl k2 nc DD ht hl hc;have hu:P.underlying t=some (.slice e):=(hT _ _ ht).kind;split at h
  ·rename_i te EP;obtain⟨inf,Hz,HH,Pe,hz⟩:=(hT _ _ EP).info;obtain⟨⟨c1,c2,h0,h1,RJ,zI,eX,Bh,EF⟩,hK⟩:=h;have e1:=(hG.ev l).strip c1;have e2:=(hG.ev c).strip c2;rw[hl]at e1;rw[hc]at e2
   have e1:=e1.Ao;have e2:=e2.Ao;have hr:=run_make (P:=P) w t e inf te.z hu Hz hz k1 k2 nl nc h0 h1 (by rw[Pe];exact RJ) zI;unfold Oper.wp
   have B1:(execOp a.eval o).run P w=.ok (.value (.slice (some ⟨w.heap.size,0,none⟩) nl.toNat nc.toNat)) (w.alloc (.cells (madeCells te.z.cells (nc.toNat*inf.size)) e)):=by
    simp only[execOp,ho,e1,e2,Sem.run_bind,hr,Result.andThen_ok,Sem.run_pure]
   rw[B1,Oper.upon_value,DD];have hb:Below w.heap.size w (w.alloc (.cells (madeCells te.z.cells (nc.toNat*inf.size)) e)):=(Below.refl _ _).alloc (Nat.le_refl _) _;have wU:te.z.cells.size=1:=by rw[eX,Bh]
   have Bf: ∀j,j<nc.toNat→(madeCells te.z.cells (nc.toNat*inf.size))[j]? =some (te.z.cells.getD 0 undef):=fun j hj=>by
    have ov:j<nc.toNat*inf.size:=by rw[HH,Bh];omega
    unfold madeCells;rw[Array.getElem?_map,Array.getElem?_range,if_pos ov];simp[wU,Zag,Nat.mod_one]
   have DE:(w.alloc (.cells (madeCells te.z.cells (nc.toNat*inf.size)) e)).ownsRow B e te.sz (.slice (some ⟨w.heap.size,0,none⟩) nl.toNat nc.toNat) nl.toNat ((madeCells te.z.cells (nc.toNat*inf.size)).toList.take (nl.toNat*te.sz)):=by
    refine⟨?_,.inr ⟨w.heap.size,nc.toNat,_,rfl,hG.base,heap_alloc_new w _,Zo,by simp only[maxLen];omega,by rw[size_madeCells,HH],rfl⟩⟩;rw[List.length_take,Array.length_toList,size_madeCells,HH,Bh];omega
   refine hn _ _ _ hK (Ox hG d (hd d DD) hb DE (fun b hr=>by simp[Ab]at hr;omega) _ ?_ fun j u hu=>?_)
   ·split<;>simp[AH.len,Bh]
   ·have hj:j<nl.toNat:=by
     have:=(List.getElem?_eq_some_iff.1 hu).1;rw[List.length_take,Bh]at this;omega
    rw[List.getElem?_take_of_lt (by rw[Bh];omega),Array.getElem?_toList,Bf j Zo]at hu;injection hu with hu;subst hu;split
    ·rename_i k kz z hk ow;rw[hk,ow]at EF;simp only at EF;subst EF;simp only[AH.at,ow,Value.cells];have:(List.replicate nl.toNat z).getD j 0=z:=by simp[Zlg,hj]
     rw[this];exact .v _
    ·simp only[AH.at];have:(List.replicate nl.toNat (te.z.cells.getD 0 undef)).getD j undef=te.z.cells.getD 0 undef:=by simp[Zlg,hj]
     rw[this];exact .v _
  ·exact h.elim
 ·exact h.elim
theorem II(base:Nat)(t ty e:TypeId)(i:TypeInfo)(size:Nat)(ht:P.underlying t=some (.slice e))(hi:P.info? e=some i)
  (v:Value) (n:Nat) (xs:List Value) (DE:w.ownsRow base e size v n xs) (c:Nat):(Builtin.append_ #[t,t] ty #[v,.slice none 0 c]).run P w=.ok v w:=by
 rcases DE.2 with ⟨rfl,rfl⟩|⟨g,cap,cur,rfl,_,_,uR,_⟩
 ·simp[Builtin.append_,run_underlying ht,sizeOf,typeInfo,hi,Builtin.lenOf,Builtin.firstCells]
 ·simp[Builtin.append_,run_underlying ht,sizeOf,typeInfo,hi,Builtin.lenOf,Builtin.firstCells,uR,storeCells]
theorem gL(hG:B3 n B w0 st a w ρ I){sz:Nat}{x:AV}{u:Value}{ψ:Prop}{m:Nat}{src:Nat→Nat→AV}(h:SM st.heap sz x=some (ψ,m,src))(hψ:ψ)(hx:AL B I w ρ x u):
  ∃(A:Option Addr) (cap:Nat) (news:List Value),u=.slice A m cap∧news.length=m*sz∧(0<m→ ∃ad,A=some ad∧ ∀j v,news[j]? =some v→w.cell? (ad.add j)=some v)∧ ∀el j,el<m→j<sz→AL B I w DW (src el j) (news.getD (el*sz+j) undef):=by
 unfold SM at h;split at h
 ·rename_i fr c sz' off len;simp only[Option.some.injEq,Prod.mk.injEq]at h;obtain⟨rfl,rfl,rfl⟩:=h;subst hψ;cases hx with
  |i _ _ _ _ _ cap A uu BW hA FE=>
   have hdiv: ∀j,j<len*sz'→j / sz'<len∧j%sz'<sz'∧j / sz'*sz'+j%sz'=j:=fun j hj=>by
    have F1:0<sz':=by
     rcases Nat.eq_zero_or_pos sz' with h0|h0
     ·rw[h0]at hj;simp at hj
     ·exact h0
    exact⟨Nat.div_lt_of_lt_mul (by rw[Nat.mul_comm];exact hj),Nat.mod_lt _ F1,by rw[Nat.mul_comm];exact Nat.div_add_mod j sz'⟩
   refine⟨A,cap,(List.range (len*sz')).map (fun j=>uu (j / sz') (j%sz')),rfl,by simp,fun hp=>?_,fun el j he hj=>?_⟩
   ·obtain⟨ad,rfl,_,_,h4⟩:=hA hp;refine⟨ad,rfl,fun j v hv=>?_⟩
    have hj:j<len*sz':=by
     have:=(List.getElem?_eq_some_iff.1 hv).1;simpa using this
    simp[hj]at hv;subst hv;obtain⟨h5,h6,h7⟩:=hdiv j hj;have:=h4 _ _ h5 h6
    rwa [h7]at this
   ·have Ak:=EW he hj
    have LL:(el*sz'+j) / sz'=el:=by
     rw[Nat.mul_comm,Nat.mul_add_div Zo,Nat.div_eq_of_lt hj,Nat.add_zero]
    have VG:(el*sz'+j)%sz'=j:=by
     rw[Nat.mul_comm,Nat.mul_add_mod,Nat.mod_eq_of_lt hj]
    have:((List.range (len*sz')).map (fun j=>uu (j / sz') (j%sz'))).getD (el*sz'+j) undef=uu el j:=by
     simp[Zlg,Ak,LL,VG]
    rw[this];exact FE el j he hj
 ·rename_i id;split at h
  ·rename_i e sz' c hk;simp only[Option.some.injEq,Prod.mk.injEq]at h;obtain⟨rfl,rfl,rfl⟩:=h;obtain⟨rfl,F1⟩:=hψ;cases hx with
   |s _ _ hr _=>
    obtain⟨x',H8,Ae⟩:=hG.hw.ok _ _ hk;rw[hr]at H8;injection H8 with H8;subst H8
    obtain⟨m,xs,ho,hl,hc⟩:=Ae;have hm:c.len / sz'=m:=by rw[hl];exact Nat.mul_div_cancel _ F1
    rw[hm]
    have XQ: ∀el j,el<m→j<sz'→AL B I w DW (c.at (el*sz'+j)) (xs.getD (el*sz'+j) undef):=fun el j he hj=>by
     have Ak:el*sz'+j<xs.length:=by rw[ho.1];exact EW he hj
     have:=hc (el*sz'+j) xs[el*sz'+j] (by simp[Ak]);simpa[Zlg,Ak]using this
    rcases ho.2 with ⟨rfl,rfl⟩|⟨g,cap,cur,rfl,OS⟩
    ·exact⟨none,0,xs,rfl,ho.1,fun hp=>by omega,XQ⟩
    ·exact⟨some ⟨g,0,none⟩,cap,xs,rfl,ho.1,fun _=>⟨_,rfl,fun j v hv=>ho.cells rfl j v hv⟩,XQ⟩
  ·cases h
 ·rename_i id off len;split at h
  ·rename_i e sz' c hk;simp only[Option.some.injEq,Prod.mk.injEq]at h;obtain⟨rfl,rfl,rfl⟩:=h;obtain⟨rfl,hle⟩:=hψ;cases hx with
   |w _ _ _ cap A xx hr BW hA=>
    obtain⟨x',H8,Ae⟩:=hG.hw.ok _ _ hk;rw[hr]at H8;injection H8 with H8;subst H8
    obtain⟨m,xs,ho,hl,hc⟩:=Ae;have Xl:xs.length=c.len:=by rw[ho.1,hl]
    refine⟨A,cap,(xs.drop off).take (len*sz'),rfl,by simp;omega,fun hp=>?_,fun el j he hj=>?_⟩
    ·obtain⟨b,hb,rfl⟩:=hA hp;rw[Bj ho]at hb;refine⟨_,rfl,fun j v hv=>?_⟩
     have hj:j<len*sz':=by
      have:=(List.getElem?_eq_some_iff.1 hv).1;simp at this;omega
     rw[List.getElem?_take_of_lt hj,List.getElem?_drop]at hv;have:=ho.cells hb _ _ hv;rw[By,Nat.zero_add]at this;rw[By];exact this
    ·have Ak:=EW he hj;have tL:off+(el*sz'+j)<xs.length:=Zo
     have:((xs.drop off).take (len*sz')).getD (el*sz'+j) undef=xs[off+(el*sz'+j)]:=by
      simp[Zlg,Ak,tL]
     rw[this];show AL B I w DW (c.at (off+el*sz'+j)) _;rw[Nat.add_assoc];exact hc _ _ (by simp[tL])
  ·cases h
 ·simp only[Option.some.injEq,Prod.mk.injEq]at h;obtain⟨rfl,rfl,rfl⟩:=h;obtain rfl:=hx.Ao;exact⟨_,_,[],rfl,by simp,fun hp=>by omega,fun el j he=>by omega⟩
 ·cases h
include hT in
theorem N8(hG:B3 n B w0 st a w ρ I){o:Oper}{x y:Operand}{t e:TypeId}{te:TI}{d:Nat}(ho:o.op=.call ⟨.builtin .append,#[x,y],#[t,t]⟩)(DD:o.dst=some d)(hd:d<n){s1:Nat}{b1:Nat}{z1:Value}(ht:T t=some ⟨.sl e,s1,b1,z1⟩)(EP:T e=some te)
  {bs:Option (Nat×TypeId×Nat×AH)} (Kh:KD st.heap (st.ev x).strip=some bs) {ψ:Prop} {m:Nat} {src:Nat→Nat→AV} (XR:SM st.heap te.sz (st.ev y).strip=some (ψ,m,src)) (hψ:ψ) (cx:(st.ev x).cond) (cy:(st.ev y).cond)
  (F1:0<te.sz) (hz:te.z.cells.size=te.sz) (c0 c1:AH) (RL: ∀id e' sz' c',bs=some (id,e',sz',c')→e'=e∧sz'=te.sz∧c'=c0) (RM:bs=none→c0.len=0)
  (hlen:c1.len=c0.len+m*te.sz) (h1: ∀j,j<c0.len→c1.at j=c0.at j) (h2: ∀el j,el<m→j<te.sz→c1.at (c0.len+(el*te.sz+j))=src el j∧(src el j).one=true)
  (RJ:(c0.len / te.sz+m)*te.Zz1≤140737488355328) (It:c0.len / te.sz+m≤9223372036854775807)
  (next:Act→World→Prop) (Q:Exit→Act→World→Prop)
  (hn: ∀a' w',G n B w0 ⟨(d,.s d)::CM d st.env,(d,.row e te.sz c1)::AJ d (Iz st.heap bs)⟩ a' w'→next a' w'):o.wp P a w next Q:=by
 have hu:P.underlying t=some (.slice e):=(hT _ _ ht).kind;obtain⟨inf,Hz,HH,Pe,ow⟩:=(hT _ _ EP).info;obtain⟨A,cap,news,zJ,VH,Kg,XS⟩:=gL hG XR hψ ((hG.ev y).strip cy)
 have ki: ∃v0 k xs,a.eval x=v0∧w.ownsRow B e te.sz v0 k xs∧c0.len=k*te.sz∧(∀j u,xs[j]? =some u→AL B I w DW (c0.at j) u)∧
   (∀id e' sz' c',bs=some (id,e',sz',c')→Af st.heap id=some (.row e te.sz c0)∧ρ id=some v0)∧(bs=none→v0=.slice none 0 0):=by
  have hx:=(hG.ev x).strip cx;unfold KD at Kh;split at Kh
  ·rename_i BE;injection Kh with Kh;subst Kh
   rw[BE]at hx;have bM:=RM rfl;exact⟨.slice none 0 0,0,[],hx.Ao,World.ownsRow_nil w B e te.sz,Zo,fun j u hu=>by simp at hu,(fun _ _ _ _ h=>by cases h),fun _=>rfl⟩
  ·rename_i id BE;split at Kh
   ·rename_i e' sz' c' hk;injection Kh with Kh;subst Kh
    obtain⟨rfl,rfl,rfl⟩:=RL _ _ _ _ rfl;rw[BE]at hx;generalize XP:a.eval x=xv at hx;cases hx with
    |s _ _ hr _=>
     obtain⟨x',H8,Ae⟩:=hG.hw.ok _ _ hk;rw[hr]at H8;injection H8 with H8;subst H8
     obtain⟨k,xs,H3,hl,hc⟩:=Ae;exact⟨xv,k,xs,rfl,H3,hl,hc,fun id2 e2 s2 c2 h=>by injection h with h;injection h with h3 h4;subst h3;exact⟨hk,hr⟩,fun h=>by cases h⟩
   ·cases Kh
  ·cases Kh
 obtain⟨v0,k,xs,wV,DE,hk,hold,hid,JN⟩:=ki;have J1:c0.len / te.sz=k:=by rw[hk];exact Nat.mul_div_cancel _ F1
 rw[J1]at RJ It
 have R9: ∀u∈news,u.oneCell'=true:=by
  intro u hu;obtain⟨j,hj,rfl⟩:=List.getElem_of_mem hu;rw[VH]at hj;have RX:j / te.sz<m:=Nat.div_lt_of_lt_mul (by rw[Nat.mul_comm];exact hj);have tM:j%te.sz<te.sz:=Nat.mod_lt _ F1;have he:j / te.sz*te.sz+j%te.sz=j:=by rw[Nat.mul_comm];exact Nat.div_add_mod j te.sz
  have:=(XS _ _ RX tM).one (h2 _ _ RX tM).2;rw[he]at this;rw[Ow];have ov:j<news.length:=by rw[VH];exact hj
  simpa[Zlg,ov]using this
 have B1: ∃v' w',(Builtin.append_ #[t,t] o.type #[v0,.slice A m cap]).run P w=.ok v' w'∧w'.ownsRow B e te.sz v' (k+m) (xs++news)∧w.grownBy w' v0.ownBlock∧(v'.ownBlock=v0.ownBlock∨v'.ownBlock=some w.heap.size):=by
  rcases A with _|ad
  ·have hm:m=0:=by
    rcases Nat.eq_zero_or_pos m with h0|h0
    ·exact h0
    ·obtain⟨ad,h,_⟩:=Kg h0;cases h
   subst hm;have fS:news= []:=List.eq_nil_of_length_eq_zero (by simpa using VH);subst fS;exact⟨v0,w,II B t o.type e inf te.sz hu Hz v0 k xs DE cap,by simpa using DE,⟨rfl,rfl,rfl,Nat.le_refl _,fun _ _ _=>rfl⟩,.inl rfl⟩
  ·have Uy: ∀j u,news[j]? =some u→w.cell? (ad.add j)=some u:=by
    intro j u SA;rcases Nat.eq_zero_or_pos m with h0|h0
    ·subst h0;have fS:news= []:=List.eq_nil_of_length_eq_zero (by simpa using VH);subst fS;simp at SA
    ·obtain⟨ad',h,hc⟩:=Kg h0;injection h with h;subst h
     exact hc j u SA
   obtain⟨v',w',r1,r2,r3,_,r5⟩:=run_append_own_at (P:=P) w B t o.type e inf te.z te.sz te.Zz1 hu Hz ow HH Pe hz F1 v0 k xs DE ad m cap news VH Uy R9 (by simp only[maxLen];omega) RJ hG.base;exact⟨v',w',r1,r2,r3,r5⟩
 obtain⟨v',w',r1,r2,r3,r4⟩:=B1;unfold Oper.wp
 have XT:(execOp a.eval o).run P w=.ok (.value v') w':=by
  simp only[execOp,ho,resolve,invoke,builtin,Sem.run_bind,Sem.run_pure,Result.andThen_ok,List.map_toArray,List.map_cons,List.map_nil,wV,zJ,r1]
 rw[XT,Oper.upon_value,DD];refine hn _ _ ?_;have JL:Ab v'=v'.ownBlock:=Bj r2;have H4:Ab v0=v0.ownBlock:=Bj DE
 have Uw: ∀b,I b→w'.heap[b]? =w.heap[b]? :=fun b hb=>r3.block b (hG.hw.lt b hb) (fun e=>by
  cases D7:bs with
  |none=>rw[JN D7]at e;simp[Value.ownBlock]at e
  |some q=>
   obtain⟨id,e',sz',c'⟩:=q;obtain⟨g1,g2⟩:=hid _ _ _ _ D7;exact hG.hw.J2 id _ v0 b g1 g2 (by rw[H4];exact e.symm) hb)
 have Jo:Below B w w':=⟨r3.os,r3.tape,r3.output,r3.size,fun b hb=>r3.block b (Nat.lt_of_lt_of_le hb hG.base) (fun e=>by
  have:=(DE.lt b e.symm).1;omega)⟩
 have Ct: ∀id blk,Af (Iz st.heap bs) id=some blk→Af st.heap id=some blk∧(∀id' e' sz' c',bs=some (id',e',sz',c')→id≠id'):=by
  intro id blk h;cases D7:bs with
  |none=>rw[D7]at h;exact⟨h,(fun _ _ _ _ h=>by cases h)⟩
  |some q=>
   obtain⟨id',e',sz',c'⟩:=q;rw[D7]at h;simp only[Iz,KB]at h;split at h
   ·cases h
   ·rename_i CD;exact⟨h,fun i1 i2 i3 i4 h5=>by injection h5 with h5;injection h5 with h6;subst h6;exact CD⟩
 have En: ∀id blk yv b,Af (Iz st.heap bs) id=some blk→ρ id=some yv→Ab yv=some b→v0.ownBlock≠some b∧b<w.heap.size:=by
  intro id blk yv b Pg hy hb;obtain⟨h3,h4⟩:=Ct id blk Pg;obtain⟨y',F9,Ae⟩:=hG.hw.ok id blk h3;rw[hy]at F9;injection F9 with F9;subst F9
  refine⟨fun hv=>?_,(Ae.lt hb).2⟩;cases D7:bs with
  |none=>rw[JN D7]at hv;simp[Value.ownBlock]at hv
  |some q=>
   obtain⟨id',e',sz',c'⟩:=q;obtain⟨g1,g2⟩:=hid _ _ _ _ D7;exact hG.hw.apart id' id _ _ v0 yv b (Ne.symm (h4 _ _ _ _ D7)) g1 h3 g2 hy (by rw[H4];exact hv) hb
 have Cj:=hG.replace (w':=w') (H0:=(Iz st.heap bs)) (fun id blk h=>(Ct id blk h).1) d v' (.row e te.sz c1)
  ⟨k+m,xs++news,r2,by rw[hlen,hk,Nat.add_mul],fun j u SA=>by
   have Xl:xs.length=c0.len:=by rw[DE.1,hk]
   by_cases hj:j<xs.length
   ·rw[List.getElem?_append_left hj]at SA;rw[h1 j Zo];exact(hold j u SA).same Uw
   ·rw[List.getElem?_append_right Zo]at SA
    have ov:j - xs.length<m*te.sz:=by
     have:=(List.getElem?_eq_some_iff.1 SA).1;omega
    have RX:(j - xs.length) / te.sz<m:=Nat.div_lt_of_lt_mul (by rw[Nat.mul_comm];exact ov);have tM:(j - xs.length)%te.sz<te.sz:=Nat.mod_lt _ F1;have he:(j - xs.length) / te.sz*te.sz+(j - xs.length)%te.sz=j - xs.length:=by rw[Nat.mul_comm];exact Nat.div_add_mod _ te.sz
    have hc:=(h2 _ _ RX tM).1;rw[he,←Xl,show xs.length+(j - xs.length)=j from by omega]at hc;rw[hc];have h5:=XS _ _ RX tM;rw[he]at h5;have:news.getD (j - xs.length) undef=u:=by simp[Zlg,SA]
    rw[this]at h5;exact h5.same Uw⟩
  Jo Uw (fun id blk yv b _ Pg hy hb=>by
   obtain⟨g1,g2⟩:=En id blk yv b Pg hy hb;exact r3.block b g2 (fun e=>g1 e.symm))
  (fun id blk yv b _ Pg hy hb hv=>by
   obtain⟨g1,g2⟩:=En id blk yv b Pg hy hb;rw[JL]at hv;rcases r4 with r4|r4
   ·rw[r4]at hv;exact g1 hv
   ·rw[r4]at hv;injection hv with hv;omega)
  (fun b hb hI=>by
   rw[JL]at hb;rcases r4 with r4|r4
   ·rw[r4]at hb;cases D7:bs with
    |none=>rw[JN D7]at hb;simp[Value.ownBlock]at hb
    |some q=>
     obtain⟨id,e',sz',c'⟩:=q;obtain⟨g1,g2⟩:=hid _ _ _ _ D7;exact hG.hw.J2 id _ v0 b g1 g2 (by rw[H4];exact hb) hI
   ·rw[r4]at hb;injection hb with hb;have:=hG.hw.lt b hI;omega) (hG.BQ.JQ d hd)
 have XU:LB v'=true:=by rcases r2.2 with ⟨rfl,_⟩|⟨g,cap,cur,rfl,_⟩<;>rfl
 exact⟨_,I,Cj.put (d:=some d) (fun k hk=>by injection hk with hk;omega) (.s d v' (B4 _ _ _) XU)⟩
end
end Go.Ad
