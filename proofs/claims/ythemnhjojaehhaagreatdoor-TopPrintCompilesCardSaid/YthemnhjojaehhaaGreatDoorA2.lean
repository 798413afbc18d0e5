/- Part of a proof. -/
import Derived.Laws.Concat
import Derived.Laws.StructEq
import Derived.Laws.Cover3
import Derived.Test.YthemnhjojaehhaaGreatDoorA1
set_option linter.all false
namespace Go.Ad
open Go.RowKit
section
variable{P:Program}{T:BT}(hT:T.ok P){B:Nat}{I:Nat→Prop}{w:World}{ρ:Nat→Option Value}{H:List (Nat×AN)}(hw:HW B I w ρ H)
theorem Td(us:Array Value)(o n j:Nat)(h:o+n≤us.size)(hj:j<n):(us.extract o (o+n)).getD j undef=us.getD (o+j) undef:=by
 rw[Zag,Zag,Array.getElem?_extract,if_pos (by rw[Nat.min_eq_left h];omega)]
include hT in
theorem Xu{s:TypeId}{x:AV}{k:Nat}{u:Value}{φ:Prop}{r:AV}(h:Oq T s x k=some (φ,r))(hφ:φ)(hx:AL B I w ρ x u):
  ∃v,(Instr.field s u k).run P w=.ok v w∧AL B I w ρ r v:=by
 unfold Oq at h;split at h
 ·rename_i fs _ _ _ hs;obtain⟨F,hF,qB,_⟩:=(hT _ _ hs).kind;split at h
  ·rename_i o ty ho;rw[←qB,List.getElem?_map]at ho
   have: ∃f,F[k]? =some f∧f.offset=o∧f.type=ty:=by
    rw[Array.getElem?_toList]at ho;cases hf:F[k]? with
    |none=>rw[hf]at ho;cases ho
    |some f=>rw[hf]at ho;simp at ho;exact⟨f,rfl,ho.1,ho.2⟩
   obtain⟨f,hf,rfl,rfl⟩:=this;split at h
   ·rename_i tf cs yH BE;have Bh:=(hT _ _ yH).size w;have Oj:=(hT _ _ yH).agg w;split at h
    ·rename_i tH;simp only[Option.some.injEq,Prod.mk.injEq]at h;obtain⟨rfl,rfl⟩:=h;have hc:=hx.strip hφ.1;rw[BE]at hc;cases hc with
     |a _ us hl OR=>
      refine⟨.agg (us.extract f.offset (f.offset+tf.sz)),by simp[Instr.field,run_underlying hF,hf,part,Oj,tH,Bh,asAgg],.a _ _ ?_ ?_⟩
      ·have:=hφ.2;simp;omega
      ·intro j hj;have h2:=hφ.2;have M6:j<tf.sz:=by simp at hj;omega
       rw[Td _ _ _ _ Zo M6];have:=OR (f.offset+j) Zo
       have e:((cs.drop f.offset).take tf.sz).getD j .top=cs.getD (f.offset+j) .top:=by
        simp[Zlg,M6]
       rw[e];exact this
    ·rename_i tH;simp only[Option.some.injEq,Prod.mk.injEq]at h;obtain⟨rfl,rfl⟩:=h;have hc:=hx.strip hφ.1;rw[BE]at hc;cases hc with
     |a _ us hl OR=>
      have h2:=hφ.2;have Ak:f.offset<us.size:=Zo
      refine⟨us.getD f.offset undef,?_,OR _ h2⟩;simp[Instr.field,run_underlying hF,hf,part,Oj,tH,asAgg,Ak,Zag]
   ·cases h
  ·cases h
 ·cases h
theorem Te{x:AV}{k:Nat}{u:Value}{φ:Prop}{r:AV}(h:Km x k=some (φ,r))(hφ:φ)(hx:AL B I w ρ x u):
  ∃v,(Instr.extract u k).run P w=.ok v w∧AL B I w ρ r v:=by
 unfold Km at h;split at h
 ·rename_i cs BE;simp only[Option.some.injEq,Prod.mk.injEq]at h;obtain⟨rfl,rfl⟩:=h;have hc:=hx.strip hφ.1;rw[BE]at hc;cases hc with
  |t _ us hl OR=>
   have h2:=hφ.2;have Ak:k<us.size:=Zo
   refine⟨us.getD k undef,?_,OR _ h2⟩;simp[Instr.extract,Ak,Zag]
 ·cases h
theorem ft{op:BinOp}{t:TypeId}{k:IntKind}{a b:Int}{φ:Prop}{r:Value}(h:Zg op k a b=some (φ,r))(hφ:φ)(x y:Operand):
  (do eqGuard op t x y (.int k a) (.int k b);binOp op t (.int k a) (.int k b):Sem Value).run P w=.ok r w:=by
 cases op<;>simp only[Zg,Option.some.injEq,Prod.mk.injEq]at h<;>first|(cases h;done)|(obtain⟨rfl,rfl⟩:=h;simp[eqGuard,binOp,Op.intArith,Op.intCmp];done)|(obtain⟨rfl,rfl⟩:=h;simp[eqGuard,binOp,Op.intBits,qW];done)|(obtain⟨rfl,rfl⟩:=h;simp[eqGuard,binOp,Op.intDiv,hφ];done)|(obtain⟨rfl,rfl⟩:=h;have h1: ¬b<0:=(by have:=hφ.1;omega);simp[eqGuard,binOp,Op.shift,h1,Nat.min_eq_left hφ.2])
theorem fw{op:BinOp}{t:TypeId}{a b:ByteArray}{φ:Prop}{r:Value}(h:Zh op a b=some (φ,r))(hφ:φ)(x y:Operand):
  (do eqGuard op t x y (.string a) (.string b);binOp op t (.string a) (.string b):Sem Value).run P w=.ok r w:=by
 cases op<;>simp only[Zh,Option.some.injEq,Prod.mk.injEq]at h<;>first|(cases h;done)|(obtain⟨rfl,rfl⟩:=h;simp[eqGuard,binOp,Op.stringOp];done)|(obtain⟨rfl,rfl⟩:=h;simp[eqGuard,binOp,run_string_add_sum w _ _ hφ])
theorem fx{t:TypeId}(hu:P.underlying t=some .bool)(a b:Bool):(Op.equal t (.bool a) (.bool b)).run P w=.ok (a==b) w:=by
 have h: ∀d,(Op.equalIn (d+1) t (.bool a) (.bool b)).run P w=.ok (a==b) w:=fun d=>by simp[Op.equalIn,run_underlying hu]
 simp only[Op.equal,Op.maxDepth];exact h 9999
include hT in
theorem qX{cs ds:List AV}{us vs:Array Value}(hu: ∀j,j<cs.length→AL B I w ρ (cs.getD j .top) (us.getD j undef))(RG:us.size=cs.length)(hv: ∀j,j<ds.length→AL B I w ρ (ds.getD j .top) (vs.getD j undef))(VE:vs.size=ds.length)(d:Nat):
  ∀(F:List Field) (b:Bool),lq T cs ds (F.map fun f=>(f.offset,f.type))=some b→(F.all fun f=>f.name != "_")=true→(Op.eqFields (d+1) us vs F).run P w=.ok b w:=by
 have lt: ∀(cs:List AV) (o:Nat) (x:Value),cs.getD o .top=.v x→o<cs.length:=fun cs o x h=>by
  rcases Nat.lt_or_ge o cs.length with h1|h1
  ·exact h1
  ·rw[Zlg,List.getElem?_eq_none h1]at h;cases h
 have pt: ∀(ty:TypeId) (ti:TI) (us:Array Value) (o:Nat),T ty=some ti→ti.k.agg=false→o<us.size→(part ty us o).run P w=.ok (us.getD o undef) w:=fun ty ti us o ZO Oj ho=>by
  have:=(hT _ _ ZO).agg w;rw[Oj]at this;simp[part,this,ho,Zag]
 intro F;induction F with
 |nil=>intro b h _;simp[lq]at h;subst h;simp[Op.eqFields]
 |cons f F ih=>
  intro b h hn;simp only[List.all_cons,Zba]at hn;have CD:f.name≠ "_" :=by simpa using hn.1
  simp only[List.map_cons,lq]at h;split at h
  ·rename_i k0 _ _ _ k a k' b' ZO h1 h2;split at h<;>first|(cases h;done)|skip
   rename_i hk;subst hk
   split at h<;>first|(cases h;done)|skip
   rename_i t ht;injection h with h;subst h
   have l1:=lt _ _ _ h1;have l2:=lt _ _ _ h2;have c1:=hu _ l1;have c2:=hv _ l2;rw[h1]at c1;rw[h2]at c2
   have c1:=c1.Ao;have c2:=c2.Ao;have e1:=pt f.type _ us f.offset ZO rfl Zo;have e2:=pt f.type _ vs f.offset ZO rfl Zo;have hU:P.underlying f.type=some (.int k0):=(hT _ _ ZO).kind;simp only[Op.eqFields,CD,ne_eq,not_false_eq_true,if_true,Sem.run_bind,e1,e2,Result.andThen_ok,c1,c2,run_equalIn_int w d f.type _ k0 a b' hU];cases bJ:(a==b')
   ·simp
   ·simp[ih t ht hn.2]
  ·rename_i _ _ _ a b' ZO h1 h2;split at h<;>first|(cases h;done)|skip
   rename_i t ht;injection h with h;subst h
   have l1:=lt _ _ _ h1;have l2:=lt _ _ _ h2;have c1:=hu _ l1;have c2:=hv _ l2;rw[h1]at c1;rw[h2]at c2
   have c1:=c1.Ao;have c2:=c2.Ao;have e1:=pt f.type _ us f.offset ZO rfl Zo;have e2:=pt f.type _ vs f.offset ZO rfl Zo;have hU:P.underlying f.type=some .bool:=(hT _ _ ZO).kind;simp only[Op.eqFields,CD,ne_eq,not_false_eq_true,if_true,Sem.run_bind,e1,e2,Result.andThen_ok,c1,c2,run_equalIn_bool' w d f.type a b' hU];cases bJ:(a==b')
   ·simp
   ·simp[ih t ht hn.2]
  ·rename_i _ _ _ a b' ZO h1 h2;split at h<;>first|(cases h;done)|skip
   rename_i t ht;injection h with h;subst h
   have l1:=lt _ _ _ h1;have l2:=lt _ _ _ h2;have c1:=hu _ l1;have c2:=hv _ l2;rw[h1]at c1;rw[h2]at c2
   have c1:=c1.Ao;have c2:=c2.Ao;have e1:=pt f.type _ us f.offset ZO rfl Zo;have e2:=pt f.type _ vs f.offset ZO rfl Zo;have hU:P.underlying f.type=some .string:=(hT _ _ ZO).kind;simp only[Op.eqFields,CD,ne_eq,not_false_eq_true,if_true,Sem.run_bind,e1,e2,Result.andThen_ok,c1,c2,run_equalIn_string w d f.type a b' hU,←beq_toListBytes];cases bJ:(a==b')
   ·simp
   ·simp[ih t ht hn.2]
  ·cases h
include hT in
theorem fy{op:BinOp}{t:TypeId}{x y:AV}{u v:Value}{φ:Prop}{r:AV}(h:Zi T op t x y=some (φ,r))(hφ:φ)(hx:AL B I w ρ x u)(hy:AL B I w ρ y v)(ox oy:Operand):
  ∃z,(do eqGuard op t ox oy u v;binOp op t u v:Sem Value).run P w=.ok z w∧AL B I w ρ r z:=by
 unfold Zi at h;split at h
 ·rename_i k a k' b h1 h2;split at h
  ·rename_i hk;subst hk
   split at h
   ·rename_i ψ r' hi;simp only[Option.some.injEq,Prod.mk.injEq]at h;obtain⟨rfl,rfl⟩:=h;have hc:=hx.strip hφ.1;have hd:=hy.strip hφ.2.1;rw[h1]at hc;rw[h2]at hd
    obtain rfl:=hc.Ao;obtain rfl:=hd.Ao
    exact⟨r',ft hi hφ.2.2 ox oy,.v _⟩
   ·cases h
  ·cases h
 ·rename_i a b h1 h2;split at h
  ·rename_i ψ r' hi;simp only[Option.some.injEq,Prod.mk.injEq]at h;obtain⟨rfl,rfl⟩:=h;have hc:=hx.strip hφ.1;have hd:=hy.strip hφ.2.1;rw[h1]at hc;rw[h2]at hd
   obtain rfl:=hc.Ao;obtain rfl:=hd.Ao
   exact⟨r',fw hi hφ.2.2 ox oy,.v _⟩
  ·cases h
 ·rename_i a b h1 h2;split at h
  ·rename_i ht;have hu:P.underlying t=some .bool:=(hT _ _ ht).kind;simp only[Option.some.injEq,Prod.mk.injEq]at h;obtain⟨rfl,rfl⟩:=h;have hc:=hx.strip hφ.1;have hd:=hy.strip hφ.2;rw[h1]at hc;rw[h2]at hd
   obtain rfl:=hc.Ao;obtain rfl:=hd.Ao
   refine⟨_,?_,.v _⟩;simp only[eqGuard,binOp];simp[fx hu]
  ·rename_i ht;have hu:P.underlying t=some .bool:=(hT _ _ ht).kind;simp only[Option.some.injEq,Prod.mk.injEq]at h;obtain⟨rfl,rfl⟩:=h;have hc:=hx.strip hφ.1;have hd:=hy.strip hφ.2;rw[h1]at hc;rw[h2]at hd
   obtain rfl:=hc.Ao;obtain rfl:=hd.Ao
   refine⟨_,?_,.v _⟩;simp only[eqGuard,binOp];simp[fx hu]
  ·cases h
 ·rename_i cs ds h1 h2;split at h<;>first|(cases h;done)|skip
  rename_i fs _ _ _ ht;obtain⟨F,hF,qB,hq⟩:=(hT _ _ ht).kind;obtain⟨q1,q2,q3⟩:=hq rfl;have Xj:P.fieldsOf t=F:=by simp only[Program.fieldsOf,hF]
  have hF':P.underlying t=some (.struct (P.fieldsOf t)):=by rw[Xj];exact hF
  have key: ∀r,lq T cs ds fs=some r→x.cond→y.cond→ ∃us vs,u=.agg us∧v=.agg vs∧(Op.equalIn 10000 t (.agg us) (.agg vs)).run P w=.ok r w:=fun r hr RV wO=>by
   have hc:=hx.strip RV;have hd:=hy.strip wO;rw[h1]at hc;rw[h2]at hd
   cases hc with
   |a _ us RG fP=>
    cases hd with
    |a _ vs VE RH=>
     refine⟨us,vs,rfl,rfl,?_⟩;rw[run_equalIn_struct w 9999 t us vs hF' q1,Xj];exact qX hT fP RG RH VE 9998 F.toList r (by rw[qB];exact hr) q3
  split at h<;>first|(cases h;done)|skip
  ·rename_i r hr;simp only[Option.some.injEq,Prod.mk.injEq]at h;obtain⟨rfl,rfl⟩:=h;obtain⟨us,vs,rfl,rfl,B1⟩:=key _ hr hφ.1 hφ.2;refine⟨_,?_,.v _⟩;simp only[Sem.run_bind,run_eqGuard_agg w .eql t ox oy us vs q2,Result.andThen_ok,run_eql_struct w t us vs,B1]
  ·rename_i r hr;simp only[Option.some.injEq,Prod.mk.injEq]at h;obtain⟨rfl,rfl⟩:=h;obtain⟨us,vs,rfl,rfl,B1⟩:=key _ hr hφ.1 hφ.2;refine⟨_,?_,.v _⟩;simp only[Sem.run_bind,run_eqGuard_agg w .neq t ox oy us vs q2,Result.andThen_ok,run_neq_struct w t us vs,B1]
 ·rename_i fr c sz off len h1 h2
  have key:x.cond→y.cond→0<len→ ∃ad n cp,u=.slice (some ad) n cp∧v=.slice none 0 0:=fun RV wO hl=>by
   have hc:=hx.strip RV;have hd:=hy.strip wO;rw[h1]at hc;rw[h2]at hd
   cases hc with
   |i _ _ _ _ _ cap A uu BW hA FE=>
    obtain⟨ad,rfl,_⟩:=hA hl;exact⟨ad,_,_,rfl,hd.Ao⟩
  split at h<;>first|(cases h;done)|skip
  ·rename_i e _ _ _ ht;have hu:P.underlying t=some (.slice e):=(hT _ _ ht).kind;simp only[Option.some.injEq,Prod.mk.injEq]at h;obtain⟨rfl,rfl⟩:=h;obtain⟨ad,n,cp,rfl,rfl⟩:=key hφ.1 hφ.2.1 hφ.2.2;refine⟨_,?_,.v _⟩;have:=run_equal_slice_nil w t e (some ad) n cp hu;simp[eqGuard,binOp,this]
  ·rename_i e _ _ _ ht;have hu:P.underlying t=some (.slice e):=(hT _ _ ht).kind;simp only[Option.some.injEq,Prod.mk.injEq]at h;obtain⟨rfl,rfl⟩:=h;obtain⟨ad,n,cp,rfl,rfl⟩:=key hφ.1 hφ.2.1 hφ.2.2;refine⟨_,?_,.v _⟩;have:=run_neq_slice_nil w t e (some ad) n cp hu;simp[eqGuard,this]
 ·rename_i A n cp h1 h2;split at h<;>first|(cases h;done)|skip
  ·rename_i e _ _ _ ht;have hu:P.underlying t=some (.slice e):=(hT _ _ ht).kind;simp only[Option.some.injEq,Prod.mk.injEq]at h;obtain⟨rfl,rfl⟩:=h;have hc:=hx.strip hφ.1;have hd:=hy.strip hφ.2;rw[h1]at hc;rw[h2]at hd
   obtain rfl:=hc.Ao;obtain rfl:=hd.Ao
   refine⟨_,?_,.v _⟩;have:=run_equal_slice_nil w t e A n cp hu;simp[eqGuard,binOp,this]
  ·rename_i e _ _ _ ht;have hu:P.underlying t=some (.slice e):=(hT _ _ ht).kind;simp only[Option.some.injEq,Prod.mk.injEq]at h;obtain⟨rfl,rfl⟩:=h;have hc:=hx.strip hφ.1;have hd:=hy.strip hφ.2;rw[h1]at hc;rw[h2]at hd
   obtain rfl:=hc.Ao;obtain rfl:=hd.Ao
   refine⟨_,?_,.v _⟩;have:=run_neq_slice_nil w t e A n cp hu;simp[eqGuard,this]
 ·rename_i id off h1 h2;split at h<;>first|(cases h;done)|skip
  all_goals
   rename_i e _ _ _ ht;have hu:P.underlying t=some (.pointer e):=(hT _ _ ht).kind;simp only[Option.some.injEq,Prod.mk.injEq]at h;obtain⟨rfl,rfl⟩:=h;have hc:=hx.strip hφ.1;have hd:=hy.strip hφ.2;rw[h1]at hc;rw[h2]at hd
   obtain rfl:=hd.Ao;cases hc with
   |p _ _ b x hr hb=>
    refine⟨_,?_,.v _⟩;have h9: ∀d,(Op.equalIn (d+1) t (.pointer (some ⟨b,off,none⟩)) (.pointer none)).run P w=.ok false w:=fun d=>by simp[Op.equalIn,run_underlying hu]
    have zA:=h9 9999;simp[eqGuard,binOp,Op.equal,Op.maxDepth,zA]
 ·rename_i h1 h2;split at h<;>first|(cases h;done)|skip
  all_goals
   rename_i e _ _ _ ht;have hu:P.underlying t=some (.pointer e):=(hT _ _ ht).kind;simp only[Option.some.injEq,Prod.mk.injEq]at h;obtain⟨rfl,rfl⟩:=h;have hc:=hx.strip hφ.1;have hd:=hy.strip hφ.2;rw[h1]at hc;rw[h2]at hd
   obtain rfl:=hc.Ao;obtain rfl:=hd.Ao;refine⟨_,?_,.v _⟩;have h9: ∀d,(Op.equalIn (d+1) t (.pointer none) (.pointer none)).run P w=.ok true w:=fun d=>by simp[Op.equalIn,run_underlying hu]
   have zA:=h9 9999;simp[eqGuard,binOp,Op.equal,Op.maxDepth,zA]
 ·rename_i i a j b h1 h2;split at h<;>first|(cases h;done)|skip
  all_goals
   rename_i e _ _ _ ht;have hu:P.underlying t=some (.pointer e):=(hT _ _ ht).kind;split at h<;>first|(cases h;done)|skip
   rename_i hTe;obtain⟨ti,oo⟩:=Option.isSome_iff_exists.1 hTe;obtain⟨inf,wP,_⟩:=(hT _ _ oo).info;simp only[Option.some.injEq,Prod.mk.injEq]at h;obtain⟨rfl,rfl⟩:=h;obtain⟨c1,c2,rfl,rfl⟩:=hφ;have hc:=hx.strip c1;have hd:=hy.strip c2;rw[h1]at hc;rw[h2]at hd
   cases hc with
   |p _ _ b1 x1 VF Jy=>
    cases hd with
    |p _ _ b2 x2 oq J4=>
     rw[VF]at oq;injection oq with oq;subst oq
     rw[Jy]at J4;injection J4 with J4;subst J4
     refine⟨_,?_,.v _⟩;have h9:=run_eql_ptr_same (P:=P) w ⟨b1,a,none⟩ hu wP;have h8:=Lib.run_neq_ptr_same (P:=P) w ⟨b1,a,none⟩ hu wP;first|(simp[eqGuard,h9];done)|simp[eqGuard,h8]
 ·cases h
theorem lu{op:UnOp}{x:AV}{u:Value}{φ:Prop}{r:AV}(h:lr op x=some (φ,r))(hφ:φ)(hx:AL B I w ρ x u):
  ∃z,(Op.unary op u).run P w=.ok z w∧AL B I w ρ r z:=by
 unfold lr at h;split at h
 ·rename_i k n h1;simp only[Option.some.injEq,Prod.mk.injEq]at h;obtain⟨rfl,rfl⟩:=h;have hc:=hx.strip hφ;rw[h1]at hc;obtain rfl:=hc.Ao
  exact⟨_,by simp[Op.unary,Op.intArith],.v _⟩
 ·rename_i b h1;simp only[Option.some.injEq,Prod.mk.injEq]at h;obtain⟨rfl,rfl⟩:=h;have hc:=hx.strip hφ;rw[h1]at hc;obtain rfl:=hc.Ao
  exact⟨_,by simp[Op.unary],.v _⟩
 ·cases h
theorem bg{c x y:AV}{uc ux uy:Value}{φ:Prop}{r:AV}(h:Tc c x y=some (φ,r))(hφ:φ)(hc:AL B I w ρ c uc)(hx:AL B I w ρ x ux)(hy:AL B I w ρ y uy):
  ∃z,(do pure (Next.value (if←asBool uc then ux else uy)):Sem Next).run P w=.ok (.value z) w∧AL B I w ρ r z:=by
 unfold Tc at h;split at h
 ·rename_i b h1
  have key: ∀(p q:Value),x.strip=.v p→y.strip=.v q→(c.cond∧(b=true→x.cond)∧(b=false→y.cond))→ ∃z,(do pure (Next.value (if←asBool uc then ux else uy)):Sem Next).run P w=.ok (.value z) w∧z=(bif b then p else q):=by
   intro p q hp hq hφ;have FE:=hc.strip hφ.1;rw[h1]at FE;obtain rfl:=FE.Ao
   cases b
   ·have:=hy.strip (hφ.2.2 rfl);rw[hq]at this;exact⟨uy,by simp[asBool],by rw[this.Ao];rfl⟩
   ·have:=hx.strip (hφ.2.1 rfl);rw[hp]at this;exact⟨ux,by simp[asBool],by rw[this.Ao];rfl⟩
  split at h
  ·rename_i p q hp hq;simp only[Option.some.injEq,Prod.mk.injEq]at h;obtain⟨rfl,rfl⟩:=h;obtain⟨z,h3,rfl⟩:=key _ _ hp hq hφ;refine⟨_,h3,?_⟩;cases b<;>exact .v _
  ·rename_i k p k' q hp hq;split at h
   ·rename_i hk;subst hk
    simp only[Option.some.injEq,Prod.mk.injEq]at h;obtain⟨rfl,rfl⟩:=h;obtain⟨z,h3,rfl⟩:=key _ _ hp hq hφ;refine⟨_,h3,?_⟩;cases b<;>exact .v _
   ·cases h
  ·rename_i p q _ _ hp hq;simp only[Option.some.injEq,Prod.mk.injEq]at h;obtain⟨rfl,rfl⟩:=h;obtain⟨z,h3,rfl⟩:=key _ _ hp hq hφ;exact⟨_,h3,.v _⟩
  ·cases h
 ·cases h
include hT hw in
theorem fz{t ty:TypeId}{x:AV}{u:Value}{φ:Prop}{r:AV}(h:LP T H t x=some (φ,r))(hφ:φ)(hx:AL B I w ρ x u):
  ∃z,(Builtin.len_ #[t] ty #[u]).run P w=.ok z w∧AL B I w ρ r z:=by
 unfold LP at h;split at h
 ·rename_i e _ _ _ ht;have hu:P.underlying t=some (.slice e):=(hT _ _ ht).kind;split at h
  ·rename_i fr c sz off len BE;simp only[Option.some.injEq,Prod.mk.injEq]at h;obtain⟨rfl,rfl⟩:=h;have hc:=hx.strip hφ;rw[BE]at hc;cases hc;exact⟨_,by simp[Builtin.len_,run_underlying hu,goInt],.v _⟩
  ·rename_i id off len BE;simp only[Option.some.injEq,Prod.mk.injEq]at h;obtain⟨rfl,rfl⟩:=h;have hc:=hx.strip hφ;rw[BE]at hc;cases hc;exact⟨_,by simp[Builtin.len_,run_underlying hu,goInt],.v _⟩
  ·rename_i id BE;split at h
   ·rename_i e' sz c hk;simp only[Option.some.injEq,Prod.mk.injEq]at h;obtain⟨rfl,rfl⟩:=h;have hc:=hx.strip hφ.1;rw[BE]at hc;cases hc with
    |s _ x hr _=>
     obtain⟨x',H8,Ae⟩:=hw.ok _ _ hk;rw[hr]at H8;injection H8 with H8;subst H8
     obtain⟨m,xs,ho,hl,_⟩:=Ae;have:c.len / sz=m:=by rw[hl];exact Nat.mul_div_cancel _ hφ.2
     rw[this];rcases ho.2 with ⟨rfl,wN⟩|⟨g,cap,cur,rfl,_⟩
     ·subst wN;exact⟨_,by simp[Builtin.len_,run_underlying hu,goInt],.v _⟩
     ·exact⟨_,by simp[Builtin.len_,run_underlying hu,goInt],.v _⟩
   ·cases h
  ·rename_i A n c BE;simp only[Option.some.injEq,Prod.mk.injEq]at h;obtain⟨rfl,rfl⟩:=h;have hc:=hx.strip hφ;rw[BE]at hc;obtain rfl:=hc.Ao;exact⟨_,by simp[Builtin.len_,run_underlying hu,goInt],.v _⟩
  ·cases h
 ·rename_i ht;have hu:P.underlying t=some .string:=(hT _ _ ht).kind;split at h
  ·rename_i s BE;simp only[Option.some.injEq,Prod.mk.injEq]at h;obtain⟨rfl,rfl⟩:=h;have hc:=hx.strip hφ;rw[BE]at hc;obtain rfl:=hc.Ao;exact⟨_,by simp[Builtin.len_,run_underlying hu,goInt],.v _⟩
  ·cases h
 ·rename_i n e _ _ _ ht;have hu:P.underlying t=some (.array n e):=(hT _ _ ht).kind;simp only[Option.some.injEq,Prod.mk.injEq]at h;obtain⟨rfl,rfl⟩:=h;exact⟨_,by simp[Builtin.len_,run_underlying hu,goInt],.v _⟩
 ·cases h
theorem gA{xs:List AV}{us:List Value}{ts:Array TypeId}{ty:TypeId}{φ:Prop}{r:AV}(h:Zj xs=some (φ,r))(hφ:φ)(hl:us.length=xs.length)(hx: ∀j,j<xs.length→AL B I w ρ (xs.getD j .top) (us.getD j undef)):
  ∃z,(Builtin.min_ ts ty us.toArray).run P w=.ok z w∧AL B I w ρ r z:=by
 unfold Zj at h;split at h
 ·rename_i x y
  match us,hl with
  | [u,v],_=>
   split at h
   ·rename_i k a k' b h1 h2;simp only[Option.some.injEq,Prod.mk.injEq]at h;obtain⟨rfl,rfl⟩:=h;have hc:=(hx 0 (by simp)).strip hφ.1;have hd:=(hx 1 (by simp)).strip hφ.2;simp only[List.getD_cons_zero,List.getD_cons_succ]at hc hd;rw[h1]at hc;rw[h2]at hd
    obtain rfl:=hc.Ao;obtain rfl:=hd.Ao
    refine⟨_,by simp[Builtin.min_,Builtin.min2];rfl,?_⟩;have:(if b<a then b else a)=min a b:=Zo
    rw[this];exact .v _
   ·cases h
 ·rename_i x y z
  match us,hl with
  | [u,v,t],_=>
   split at h
   ·rename_i k a k2 b k3 c h1 h2 h3;simp only[Option.some.injEq,Prod.mk.injEq]at h;obtain⟨rfl,rfl⟩:=h;obtain⟨q1,q2,q3,rfl,rfl⟩:=hφ;have hc:=(hx 0 (by simp)).strip q1;have hd:=(hx 1 (by simp)).strip q2;have he:=(hx 2 (by simp)).strip q3;simp only[List.getD_cons_zero,List.getD_cons_succ]at hc hd he;rw[h1]at hc;rw[h2]at hd;rw[h3]at he
    obtain rfl:=hc.Ao;obtain rfl:=hd.Ao;obtain rfl:=he.Ao
    have e1:(if b<a then b else a)=min a b:=Zo
    have e2:(if c<min a b then c else min a b)=min (min a b) c:=Zo
    refine⟨_,by simp[Builtin.min_,Builtin.min2,e1,e2];rfl,?_⟩;rw[show min (min a b) c=min a (min b c) by omega];exact .v _
   ·cases h
 ·cases h
theorem gB{xs:List AV}{us:List Value}{ts:Array TypeId}{ty:TypeId}{φ:Prop}{r:AV}(h:Zz2 xs=some (φ,r))(hφ:φ)(hl:us.length=xs.length)(hx: ∀j,j<xs.length→AL B I w ρ (xs.getD j .top) (us.getD j undef)):
  ∃z,(Builtin.max_ ts ty us.toArray).run P w=.ok z w∧AL B I w ρ r z:=by
 unfold Zz2 at h;split at h
 ·rename_i x y
  match us,hl with
  | [u,v],_=>
   split at h
   ·rename_i k a k' b h1 h2;simp only[Option.some.injEq,Prod.mk.injEq]at h;obtain⟨rfl,rfl⟩:=h;have hc:=(hx 0 (by simp)).strip hφ.1;have hd:=(hx 1 (by simp)).strip hφ.2;simp only[List.getD_cons_zero,List.getD_cons_succ]at hc hd;rw[h1]at hc;rw[h2]at hd
    obtain rfl:=hc.Ao;obtain rfl:=hd.Ao
    refine⟨_,by simp[Builtin.max_,Builtin.max2];rfl,?_⟩;have:(if a<b then b else a)=max a b:=Zo
    rw[this];exact .v _
   ·cases h
 ·cases h
include hT in
theorem Tf{src dst:TypeId}{x:AV}{u:Value}{φ:Prop}{r:AV}(h:Kn T src dst x=some (φ,r))(hφ:φ)(hx:AL B I w ρ x u):
  ∃z,(convert src dst u).run P w=.ok z w∧AL B I w ρ r z:=by
 unfold Kn at h;split at h
 ·rename_i si k _ _ _ k' n hs hd BE;have hu:P.underlying dst=some (.int k):=(hT _ _ hd).kind
  have hsu: ∃d,P.underlying src=some d:=by
   have:=(hT _ _ hs).kind;cases hk:si.k<;>rw[hk]at this<;>simp only[TK.ok]at this
   case st q fs=>obtain⟨F,hF,_⟩:=this;exact⟨_,hF⟩
   case lR=>obtain⟨d,hd,_⟩:=this;exact⟨_,hd⟩
   all_goals exact⟨_,this⟩
  obtain⟨d,tG⟩:=hsu;simp only[Option.some.injEq,Prod.mk.injEq]at h;obtain⟨rfl,rfl⟩:=h;have hc:=hx.strip hφ;rw[BE]at hc;obtain rfl:=hc.Ao;exact⟨_,by simp[convert,run_underlying hu,run_underlying tG,Conv.intToInt],.v _⟩
 ·cases h
include hT in
theorem Xv{t:TypeId}{x i:AV}{u ui:Value}{φ:Prop}{r:AV}(h:Ot T t x i=some (φ,r))(hφ:φ)(hx:AL B I w ρ x u)(hi:AL B I w ρ i ui):
  ∃z,(Instr.index t u ui).run P w=.ok z w∧AL B I w ρ r z:=by
 unfold Ot at h;split at h
 ·rename_i _ _ _ s k n ht BE JO;have hu:P.underlying t=some .string:=(hT _ _ ht).kind;simp only[Option.some.injEq,Prod.mk.injEq]at h;obtain⟨rfl,rfl⟩:=h;obtain⟨c1,c2,h0,h1⟩:=hφ;have hc:=hx.strip c1;have Pd:=hi.strip c2;rw[BE]at hc;rw[JO]at Pd
  obtain rfl:=hc.Ao;obtain rfl:=Pd.Ao
  have Ak:n.toNat<s.size:=Zo
  refine⟨_,?_,.v _⟩
  have:s[n.toNat]? =some (s.data.getD n.toNat 0):=by
   have h3:n.toNat<s.data.size:=Ak;rw[getElem?_pos s n.toNat Ak,Zag,getElem?_pos s.data n.toNat h3];rfl
  simp only[Instr.index,asIntOf,Sem.run_bind,Sem.run_pure,Result.andThen_ok,run_underlying hu,h0,if_true,this]
 ·cases h
include hT hw in
theorem VS{t:TypeId}{x k:AV}{u uk:Value}{φ:Prop}{r:AV}(h:FF T H t x k=some (φ,r))(hφ:φ)(hx:AL B I w ρ x u)(hk:AL B I w ρ k uk):
  ∃z,(Instr.lookup t u uk false).run P w=.ok z w∧AL B I w ρ r z:=by
 unfold FF at h;split at h
 ·rename_i kt e _ _ _ ht;have hu:P.underlying t=some (.map kt e):=(hT _ _ ht).kind;split at h
  ·rename_i tk te id kv N2 EP BE wQ;obtain⟨inf,Hz,_,_,hz⟩:=(hT _ _ EP).info;have hzero:(zeroValue e).run P w=.ok te.z w:=by simp only[zeroValue,typeInfo,Sem.run_bind,run_program,Result.andThen_ok,Hz,Sem.run_pure,hz]
   have key0: ∀(c:MC) (key:Key),Af H id=some (.mp c)→JR tk.k kv=some key→x.cond→k.cond→key.Pl=c.kd→ ∃b,u=.map (some b)∧uk=key.val∧(Instr.lookup t (.map (some b)) key.val false).run P w=.ok (A0 c.GD key te.z) w:=by
    intro c key hl Dt c1 c2 hi;have hc:=hx.strip c1;have hd:=hk.strip c2;rw[BE]at hc;rw[wQ]at hd
    obtain rfl:=hd.Ao;obtain⟨e1,e2⟩:=Fb Dt
    have kb:P.underlying kt=some (Iy c.kd):=by
     have hh:=(hT _ _ N2).kind;rcases e2 with ⟨e3,e4⟩|⟨e3,e4⟩
     ·rw[e3]at hh;rw[←hi,e4];exact hh
     ·rw[e3]at hh;rw[←hi,e4];exact hh
    cases hc with
    |s _ x hr _=>
     obtain⟨x',CP,b,rfl,_,hm⟩:=hw.ok _ _ hl;rw[hr]at CP;injection CP with CP;subst CP
     exact⟨b,rfl,e1,VP hm hu kb hzero key hi⟩
   split at h
   ·rename_i kd q m key hl Dt;simp only[Option.some.injEq,Prod.mk.injEq]at h;obtain⟨rfl,rfl⟩:=h;obtain⟨b,rfl,rfl,B1⟩:=key0 _ key hl Dt hφ.1 hφ.2.1 hφ.2.2.2;refine⟨_,B1,?_⟩;rw[hφ.2.2.1];show AL B I w ρ _ (A0 (m.map fun p=>(p.1,Value.int q p.2)) key (.int q 0));rw[MH (f:=Value.int q)];exact .v _
   ·rename_i kd m key hl Dt;simp only[Option.some.injEq,Prod.mk.injEq]at h;obtain⟨rfl,rfl⟩:=h;obtain⟨b,rfl,rfl,B1⟩:=key0 _ key hl Dt hφ.1 hφ.2.1 hφ.2.2.2;refine⟨_,B1,?_⟩;rw[hφ.2.2.1];show AL B I w ρ _ (A0 (m.map fun p=>(p.1,Value.bool p.2)) key (.bool false));rw[MH (f:=Value.bool)];exact .v _
   ·rename_i kd ks c key hl Dt;simp only[Option.some.injEq,Prod.mk.injEq]at h;obtain⟨rfl,rfl⟩:=h;have hi:=hφ.2.2.2;have hc:=hx.strip hφ.1;have hd:=hk.strip hφ.2.1;rw[BE]at hc;rw[wQ]at hd
    obtain rfl:=hd.Ao;obtain⟨e1,e2⟩:=Fb Dt;cases hc with
    |s _ x hr _=>
     obtain⟨x',CP,b,BJ,rfl,_,hm,VE,HR,FE⟩:=hw.ok _ _ hl;rw[hr]at CP;injection CP with CP;subst CP
     have kb:P.underlying kt=some (Iy (MC.VN kd (ks.zip BJ)).kd):=by
      have hh:=(hT _ _ N2).kind;rcases e2 with ⟨e3,e4⟩|⟨e3,e4⟩
      ·rw[e3]at hh;simp only[MC.kd];rw[←hi,e4];exact hh
      ·rw[e3]at hh;simp only[MC.kd];rw[←hi,e4];exact hh
     have B1:=VP hm hu kb hzero key hi;rw[←e1]at B1;refine⟨_,B1,?_⟩;show AL B I w ρ _ (A0 (ks.zip BJ) key te.z);rw[VR VE];unfold LD;split
     ·rename_i Ak;refine FE _ _ ?_;rw[Zlg,Zeg Zo];rfl
     ·exact .v _
   ·cases h
  ·cases h
 ·cases h
include hT hw in
theorem Tg{t:TypeId}{x k:AV}{u uk:Value}{φ:Prop}{r:AV}(h:EC T H t x k=some (φ,r))(hφ:φ)(hx:AL B I w ρ x u)(hk:AL B I w ρ k uk):
  ∃z,(Instr.lookup t u uk true).run P w=.ok z w∧AL B I w ρ r z:=by
 unfold EC at h;split at h
 ·rename_i kt e _ _ _ ht;have hu:P.underlying t=some (.map kt e):=(hT _ _ ht).kind;split at h
  ·rename_i tk te id kv N2 EP BE wQ;obtain⟨inf,Hz,_,_,hz⟩:=(hT _ _ EP).info;have hzero:(zeroValue e).run P w=.ok te.z w:=by simp only[zeroValue,typeInfo,Sem.run_bind,run_program,Result.andThen_ok,Hz,Sem.run_pure,hz]
   have key0: ∀(c:MC) (key:Key),Af H id=some (.mp c)→JR tk.k kv=some key→x.cond→k.cond→key.Pl=c.kd→ ∃b,u=.map (some b)∧uk=key.val∧(Instr.lookup t (.map (some b)) key.val true).run P w=.ok (.tuple #[A0 c.GD key te.z,.bool (LC c.GD key)]) w:=by
    intro c key hl Dt c1 c2 hi;have hc:=hx.strip c1;have hd:=hk.strip c2;rw[BE]at hc;rw[wQ]at hd
    obtain rfl:=hd.Ao;obtain⟨e1,e2⟩:=Fb Dt
    have kb:P.underlying kt=some (Iy c.kd):=by
     have hh:=(hT _ _ N2).kind;rcases e2 with ⟨e3,e4⟩|⟨e3,e4⟩
     ·rw[e3]at hh;rw[←hi,e4];exact hh
     ·rw[e3]at hh;rw[←hi,e4];exact hh
    cases hc with
    |s _ x hr _=>
     obtain⟨x',CP,b,rfl,_,hm⟩:=hw.ok _ _ hl;rw[hr]at CP;injection CP with CP;subst CP
     exact⟨b,rfl,e1,SJ hm hu kb hzero key hi⟩
   split at h
   ·rename_i kd q m key hl Dt;simp only[Option.some.injEq,Prod.mk.injEq]at h;obtain⟨rfl,rfl⟩:=h;obtain⟨b,rfl,rfl,B1⟩:=key0 _ key hl Dt hφ.1 hφ.2.1 hφ.2.2.2;refine⟨_,B1,.t _ _ rfl fun j hj=>?_⟩;rw[hφ.2.2.1]
    match j,hj with
    |0,_=>
     show AL B I w ρ _ (A0 (m.map fun p=>(p.1,Value.int q p.2)) key (.int q 0));rw[MH (f:=Value.int q)];exact .v _
    |1,_=>
     show AL B I w ρ _ (.bool (LC (m.map fun p=>(p.1,Value.int q p.2)) key));rw[VQ (f:=Value.int q)];exact .v _
   ·rename_i kd m key hl Dt;simp only[Option.some.injEq,Prod.mk.injEq]at h;obtain⟨rfl,rfl⟩:=h;obtain⟨b,rfl,rfl,B1⟩:=key0 _ key hl Dt hφ.1 hφ.2.1 hφ.2.2.2;refine⟨_,B1,.t _ _ rfl fun j hj=>?_⟩;rw[hφ.2.2.1]
    match j,hj with
    |0,_=>
     show AL B I w ρ _ (A0 (m.map fun p=>(p.1,Value.bool p.2)) key (.bool false));rw[MH (f:=Value.bool)];exact .v _
    |1,_=>
     show AL B I w ρ _ (.bool (LC (m.map fun p=>(p.1,Value.bool p.2)) key));rw[VQ (f:=Value.bool)];exact .v _
   ·rename_i kd ks c key hl Dt;simp only[Option.some.injEq,Prod.mk.injEq]at h;obtain⟨rfl,rfl⟩:=h;have hi:=hφ.2.2.2;have hc:=hx.strip hφ.1;have hd:=hk.strip hφ.2.1;rw[BE]at hc;rw[wQ]at hd
    obtain rfl:=hd.Ao;obtain⟨e1,e2⟩:=Fb Dt;cases hc with
    |s _ x hr _=>
     obtain⟨x',CP,b,BJ,rfl,_,hm,VE,HR,FE⟩:=hw.ok _ _ hl;rw[hr]at CP;injection CP with CP;subst CP
     have kb:P.underlying kt=some (Iy (MC.VN kd (ks.zip BJ)).kd):=by
      have hh:=(hT _ _ N2).kind;rcases e2 with ⟨e3,e4⟩|⟨e3,e4⟩
      ·rw[e3]at hh;simp only[MC.kd];rw[←hi,e4];exact hh
      ·rw[e3]at hh;simp only[MC.kd];rw[←hi,e4];exact hh
     have B1:=SJ hm hu kb hzero key hi;rw[←e1]at B1;refine⟨_,B1,.t _ _ rfl fun j hj=>?_⟩
     match j,hj with
     |1,_=>
      show AL B I w ρ _ (.bool (LC (ks.zip BJ) key));rw[fq VE];exact .v _
     |0,_=>
      show AL B I w ρ (LD ks key c (.v te.z)) (A0 (ks.zip BJ) key te.z);rw[VR VE];unfold LD;split
      ·rename_i Ak;refine FE _ _ ?_;rw[Zlg,Zeg Zo];rfl
      ·exact .v _
   ·cases h
  ·cases h
 ·cases h
theorem gC{x:AV}{u:Value}{φ:Prop}{r:AV}{o:Oper}{xx:Operand}{ρv:Operand→Value}(ho:o.op=.nilCheck xx)(hu:ρv xx=u)(h:Zl x=some (φ,r))(hφ:φ)(hx:AL B I w ρ x u):
  ∃z,(execOp ρv o).run P w=.ok (.value z) w∧AL B I w ρ r z:=by
 unfold Zl at h;split at h
 ·rename_i id off BE;simp only[Option.some.injEq,Prod.mk.injEq]at h;obtain⟨rfl,rfl⟩:=h;have hc:=hx.strip hφ;rw[BE]at hc;refine⟨u,?_,hc⟩;cases hc;simp[execOp,ho,hu]
 ·rename_i fr c sz e f BE;simp only[Option.some.injEq,Prod.mk.injEq]at h;obtain⟨rfl,rfl⟩:=h;have hc:=hx.strip hφ;rw[BE]at hc;refine⟨u,?_,hc⟩;cases hc;simp[execOp,ho,hu]
 ·rename_i k cs BE;simp only[Option.some.injEq,Prod.mk.injEq]at h;obtain⟨rfl,rfl⟩:=h;have hc:=hx.strip hφ;rw[BE]at hc;refine⟨u,?_,hc⟩;cases hc;simp[execOp,ho,hu,ba]
 ·rename_i k cs BE;simp only[Option.some.injEq,Prod.mk.injEq]at h;obtain⟨rfl,rfl⟩:=h;have hc:=hx.strip hφ;rw[BE]at hc;refine⟨u,?_,hc⟩;cases hc;simp[execOp,ho,hu,ba]
 ·cases h
end
end Go.Ad
