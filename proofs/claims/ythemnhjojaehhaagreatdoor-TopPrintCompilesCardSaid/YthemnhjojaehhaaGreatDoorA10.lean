/- Part of a proof. -/
import Derived.Test.YthemnhjojaehhaaGreatDoorA9
set_option linter.all false
namespace Go.Ad
open Go.RowKit
section
variable{P:Program}{T:BT}(hT:T.ok P){n B:Nat}{w0:AT}{st:St}{a:Act}{w:World}{ρ:Nat→Option Value}{I:Nat→Prop}
include hT
theorem NL(hG:B3 n B w0 st a w ρ I){dst:Option Nat}{t e:TypeId}{len:Nat}{parts:Array (Nat×Operand)}{ty:TypeId}{pos:String}{aft:Array Edge}{gd:Option (Nat×Bool)}{te:TI}{ψ:Prop}{cs:List AV}{s1 b1:Nat}{z1:Value}(ht:T t=some ⟨.sl e,s1,b1,z1⟩)(EP:T e=some te)
  (Gm:J9 (fun i=>some (i*te.sz,te.sz)) (CC (fun j=>HX (te.z.cells.getD (j%te.sz) undef)) 0 (len*te.sz)) (parts.toList.map fun p=>(p.1,st.ev p.2))=some (ψ,cs)):
  ψ→te.z.cells.size=te.sz→len*te.sz≤16777216→
   ∃us,us.size=len*te.sz∧At B I w ρ cs us.toList∧(execOp a.eval ⟨dst,.buildSlice t len parts,ty,pos,aft,gd⟩).run P w=.ok (.value (.slice (some ⟨w.heap.size,0,none⟩) len len)) (w.alloc (.cells us e)):=by
 have hu:P.underlying t=some (.slice e):=(hT _ _ ht).kind;obtain⟨inf,Hz,HH,Pe,hz⟩:=(hT _ _ EP).info;have Bh:=(hT _ _ EP).size w;intro hψ eX hlen
 have zG:At B I w ρ (CC (fun j=>HX (te.z.cells.getD (j%te.sz) undef)) 0 (len*te.sz)) ((Array.range (len*te.sz)).map fun j=>(if len*te.sz=0 then #[]else te.z.cells)[j%(if len*te.sz=0 then #[]else te.z.cells).size]!).toList:=by
  refine⟨by simp[Cv],fun j hj=>?_⟩;rw[Cv]at hj;have CD: ¬len*te.sz=0:=Zo
  rw[HY _ _ _ _ hj,Nat.zero_add,if_neg CD,eX]
  have e1:((Array.range (len*te.sz)).map fun j=>te.z.cells[j%te.sz]!).toList.getD j undef=te.z.cells.getD (j%te.sz) undef:=by
   have Ak:j%te.sz<te.z.cells.size:=by
    rw[eX];apply Nat.mod_lt
    rcases Nat.eq_zero_or_pos te.sz with h0|h0
    ·rw[h0]at CD;simp at CD
    ·exact h0
   simp[Zlg,hj,Zag,Ak]
  rw[e1];exact JP _
 obtain⟨us,h1,h2⟩:=MI _ ((parts.map fun p=>(p.1,a.eval p.2)).toList) _ _ Gm hψ zG (by simp) (fun j hj=>by
  simp at hj;have h1:((parts.toList.map fun p=>(p.1,st.ev p.2)).getD j (0,.top)).2=st.ev parts[j].2:=by simp[Zlg,hj]
  have h2:((parts.map fun p=>(p.1,a.eval p.2)).toList.getD j (0,undef)).2=a.eval parts[j].2:=by simp[Zlg,hj]
  rw[h1,h2];exact hG.ev _)
 have JM:us.size=len*te.sz:=by
  have BF: ∀(place:Nat→Option (Nat×Nat)) (l:List (Nat×Value)) (us us':Array Value),Instr.fill place us l=some us'→us'.size=us.size:=by
   intro place l;induction l with
   |nil=>intro us us' h;simp[Instr.fill]at h;rw[h]
   |cons p l ih=>
    intro us us' h;obtain⟨i,v⟩:=p;simp only[Instr.fill]at h;split at h
    ·cases h
    ·split at h
     ·cases h
     ·rw[ih _ _ h]
      have: ∀(l:List (Value×Nat)) (off:Nat) (us:Array Value),(l.foldl (fun cs (x:Value×Nat)=>cs.setIfInBounds (off+x.2) x.1) us).size=us.size:=by
       intro l;induction l with
       |nil=>intro off us;rfl
       |cons q l ih=>intro off us;simp[ih]
      rw[←Array.foldl_toList];exact this _ _ _
  rw[BF _ _ _ _ h1];simp
 refine⟨us,JM,h2,?_⟩;have kh: ¬(len*te.sz>2^24):=Zo
 by_cases h0:len*te.sz=0
 ·rw[if_pos h0]at h1;rw[h0]at h1;have tK: ¬((0:Nat)>2^24):=Zd
  simp only[execOp,Instr.buildSlice,Sem.run_bind,run_underlying hu,Result.andThen_ok,Bh,h0,tK,if_false,if_true,Sem.run_pure,h1];simp[newRow]
 ·rw[if_neg h0]at h1;simp only[execOp,Instr.buildSlice,Sem.run_bind,run_underlying hu,Result.andThen_ok,Bh,kh,if_false,h0,Sem.run_pure,zeroValue,typeInfo,run_program,Hz,hz,h1];simp[newRow]
omit hT in
def bq(T:BT)(st:St)(dst:Option Nat)(op:Op)(K:St→Prop):Prop:=
 match op,dst with
 | .buildSlice t len parts,some d=>
  match T t with
  |some ⟨.sl e,_,_,_⟩=>
   match T e with
   |some te=>
    match J9 (fun i=>some (i*te.sz,te.sz)) (CC (fun j=>HX (te.z.cells.getD (j%te.sz) undef)) 0 (len*te.sz)) (parts.toList.map fun p=>(p.1,st.ev p.2))with
    |some (φ,cs)=>
     match te.k with
     | .int k=>match Lc k cs with
      |some l=>(φ∧te.sz=1∧te.z.cells.size=1∧len≤16777216)∧K ⟨(d,.s d)::CM d st.env,(d,.row e 1 (.ints k l))::AJ d st.heap⟩
      |none=>False
     |_=>(φ∧0<te.sz∧te.z.cells.size=te.sz∧len*te.sz≤16777216∧AV.Dp cs=true)∧K ⟨(d,.s d)::CM d st.env,(d,.row e te.sz (.AF cs))::AJ d st.heap⟩
    |none=>False
   |none=>False
  |_=>False
 |_,_=>False
theorem qd(hG:B3 n B w0 st a w ρ I){o:Oper}(hd:As n o.dst){K:St→Prop}(h:bq T st o.dst o.op K):C1 P n B w0 o a w K:=by
 intro next Q hn
 obtain⟨dst,op,ty,pos,aft,gd⟩:=o;simp only[bq]at h;split at h<;>first|exact h.elim|skip
 rename_i t len parts d;split at h<;>first|exact h.elim|skip
 rename_i e s1 b1 z1 ht;cases EP:T e with
 |none=>rw[EP]at h;exact h.elim
 |some te=>
  rw[EP]at h;simp only at h;split at h<;>first|exact h.elim|skip
  rename_i ψ cs Gm;have fU:d<n:=hd
  have own: ∀us:Array Value,us.size=len*te.sz→len≤16777216→(w.alloc (.cells us e)).ownsRow B e te.sz (.slice (some ⟨w.heap.size,0,none⟩) len len) len us.toList:=fun us hs wi=>
   ⟨by simp[hs],.inr ⟨w.heap.size,len,us,rfl,hG.base,heap_alloc_new w _,Nat.le_refl _,by simp only[maxLen];omega,hs,by rw[List.take_of_length_le (by simp[hs])]⟩⟩
  have hb: ∀us:Array Value,Below w.heap.size w (w.alloc (.cells us e)):=fun us=>(Below.refl _ _).alloc (Nat.le_refl _) _;split at h
  ·rename_i k hk;split at h<;>first|exact h.elim|skip
   rename_i l hl;obtain⟨⟨hφ,TU,wU,Xm⟩,hK⟩:=h;obtain⟨us,h1,h2,h3⟩:=NL hT hG (dst:=some d) (ty:=ty) (pos:=pos) (aft:=aft) (gd:=gd) ht EP Gm hφ (by rw[TU,wU]) (by rw[TU];omega);obtain⟨l1,l2⟩:=KC hl
   have HR:cs.length=len:=by
    have:=h2.1;rw[Array.length_toList,h1,TU]at this;omega
   unfold Oper.wp;rw[h3,Oper.upon_value];have ho:=own us h1 Xm;rw[TU]at ho;refine hn _ _ _ hK (Ox hG d fU (hb us) ho (fun b hr=>by simp[Ab]at hr;omega) _ (by simp[AH.len,l1,HR]) fun j u hu=>?_)
   have hj:j<cs.length:=by
    have:=(List.getElem?_eq_some_iff.1 hu).1;simp[h1,TU]at this;omega
   have:=h2.2 j hj;rw[l2 j hj]at this;have e2:us.toList.getD j undef=u:=by simp[Zlg,hu]
   rw[←e2,this.Ao];exact .v _
  ·obtain⟨⟨hφ,F1,eX,Xm,HJ⟩,hK⟩:=h;obtain⟨us,h1,h2,h3⟩:=NL hT hG (dst:=some d) (ty:=ty) (pos:=pos) (aft:=aft) (gd:=gd) ht EP Gm hφ eX Xm
   have HR:cs.length=len*te.sz:=by
    have:=h2.1;rw[Array.length_toList,h1]at this;omega
   unfold Oper.wp;rw[h3,Oper.upon_value]
   have wi:len≤16777216:=by
    have:len*1≤len*te.sz:=Nat.mul_le_mul_left _ F1;omega
   refine hn _ _ _ hK (Ox hG d fU (hb us) (own us h1 wi) (fun b hr=>by simp[Ab]at hr;omega) _ (by simp[AH.len,HR]) fun j u hu=>?_)
   have hj:j<cs.length:=by
    have:=(List.getElem?_eq_some_iff.1 hu).1;simp[h1]at this;omega
   have:=(h2.F5 HJ).2 j hj;have e2:us.toList.getD j undef=u:=by simp[Zlg,hu]
   rw[e2]at this;exact this
end
def Jr:List Key→Key→List Key
 | [],k=> [k]
 |a::r,k=>if a=k then a::r else a::Jr r k
def Eb{α:Type}:List Key→List α→Key→α→List α
 | [],_,_,v=> [v]
 |_::_,[],_,_=> []
 |a::r,x::vs,k,v=>if a=k then v::vs else x::Eb r vs k v
theorem SQ{α:Type}: ∀ {ks:List Key} {BJ:List α} (k:Key) (v:α),BJ.length=ks.length→A5 (ks.zip BJ) k v=(Jr ks k).zip (Eb ks BJ k v)∧(Eb ks BJ k v).length=(Jr ks k).length
 | [],[],k,v,_=>by simp[A5,Jr,Eb]
 |a::r,x::vs,k,v,h=>by
  obtain⟨h1,h2⟩:=SQ (ks:=r) (BJ:=vs) k v (by simpa using h);simp only[List.zip_cons_cons,A5,Jr,Eb];by_cases e:a=k
  ·simp[e];simpa using h
  ·simp[e,h1,h2]
theorem MM{α β:Type}: ∀ {ks:List Key} {vs:List α} {us:List β} (k:Key) (v:α) (u:β),vs.length=us.length→(Eb ks vs k v).length=(Eb ks us k u).length
 | [],_,_,_,_,_,_=>rfl
 |a::r,[],[],_,_,_,_=>rfl
 |a::r,x::vs,y::us,k,v,u,h=>by
  simp only[Eb];split
  ·simpa using h
  ·simp[MM (ks:=r) (vs:=vs) (us:=us) k v u (by simpa using h)]
theorem Pz{ks:List Key}{k:Key}:(∀x∈ks,x≠k)→Jr ks k=ks++ [k]∧ ∀ {α:Type} (vs:List α) (v:α),vs.length=ks.length→Eb ks vs k v=vs++ [v]:=by
 induction ks with
 |nil=>
  intro _;refine⟨rfl,fun vs v hl=>?_⟩;have:vs= []:=List.length_eq_zero_iff.1 (by simpa using hl);subst this;rfl
 |cons a r ih=>
  intro h;have e:=h a (by simp);obtain⟨h1,h2⟩:=ih (fun x hx=>h x (by simp[hx]));refine⟨by simp[Jr,e,h1],fun vs v hl=>?_⟩;cases vs with
  |nil=>simp at hl
  |cons x vs=>simp[Eb,e,h2 vs v (by simpa using hl)]
def vG:Value→Bool
 | .string _=>true
 |_=>false
def isRef(H:List (Nat×AN)):AV→Prop
 | .v x=>vG x=true
 | .s id=>(Af H id).isSome=true
 | .i _ _ _ _ _=>True
 |_=>False
def IJ(T:BT)(dst:Option Nat)(op:Op)(K:St→Prop)(st:St):Prop:=
 match op with
 | .mapUpdate t m k v=>
  match T t with
  |some ⟨.OX kt _,_,_,_⟩=>
   match T kt,(st.ev m).strip,(st.ev k).strip with
   |some tk,.s id,.v kv=>
    match Af st.heap id,JR tk.k kv with
    |some (.DN kd ks (.AF l)),some key=>((st.ev m).cond∧(st.ev k).cond∧(st.ev v).cond∧dst=none∧key.Pl=kd∧key.wf∧isRef st.heap (st.ev v).strip∧ks.length<9223372036854775807)∧K ⟨st.env,(id,.DN kd (Jr ks key) (.AF (Eb ks l key (st.ev v).strip)))::st.heap⟩
    |_,_=>False
   |_,_,_=>False
  |_=>False
 |_=>False
theorem X0{ks:List Key}: ∀ {vs:List Value} {l:List AV} {k:Key} {v:Value} {x:AV} {R:AV→Value→Prop},l.length=vs.length→R x v→(∀j u,vs[j]? =some u→R (l.getD j .top) u)→ ∀j u,(Eb ks vs k v)[j]? =some u→R ((Eb ks l k x).getD j .top) u:=by
 induction ks with
 |nil=>
  intro vs l k v x R hl hx h j u hu;cases j with
  |zero=>simp[Eb]at hu;subst hu;simpa[Eb]using hx
  |succ j=>simp[Eb]at hu
 |cons a r ih=>
  intro vs l k v x R hl hx h j u hu;cases vs with
  |nil=>simp[Eb]at hu
  |cons y vs=>
   cases l with
   |nil=>simp at hl
   |cons z l=>
    have h0:R z y:=by simpa using h 0 y (by simp)
    have hr: ∀j u,vs[j]? =some u→R (l.getD j .top) u:=fun j u hu=>by simpa using h (j+1) u (by simpa using hu)
    simp only[Eb]at hu ⊢;by_cases e:a=k
    ·rw[if_pos e]at hu ⊢;cases j with
     |zero=>simp at hu;subst hu;simpa using hx
     |succ j=>simpa using hr j u (by simpa using hu)
    ·rw[if_neg e]at hu ⊢;cases j with
     |zero=>simp at hu;subst hu;simpa using h0
     |succ j=>simpa using ih (by simpa using hl) hx hr j u (by simpa using hu)
theorem Lf{P:Program}{T:BT}(hT:T.ok P){n B:Nat}{w0:AT}{st:St}{a:Act}{w:World}{ρ:Nat→Option Value}{I:Nat→Prop}(hG:B3 n B w0 st a w ρ I){o:Oper}{K:St→Prop}(h:IJ T o.dst o.op K st):C1 P n B w0 o a w K:=by
 intro next Q hn
 unfold IJ at h;split at h<;>first|exact h.elim|skip
 rename_i t m k v ho;split at h<;>first|exact h.elim|skip
 rename_i kt e _ _ _ ht;have hu:P.underlying t=some (.map kt e):=(hT _ _ ht).kind;split at h<;>first|exact h.elim|skip
 rename_i tk id kv N2 hm hk;split at h<;>first|exact h.elim|skip
 rename_i kd ks l key hl Dt;obtain⟨⟨c1,c2,c3,DD,hi,wL,tR,hlen⟩,hK⟩:=h;have tS:=(hG.ev m).strip c1;have F7:=(hG.ev k).strip c2;have lY:=(hG.ev v).strip c3;rw[hm]at tS;rw[hk]at F7
 have ek:=F7.Ao;obtain⟨e1,e2⟩:=Fb Dt
 have kb:P.underlying kt=some (Iy kd):=by
  have hh:=(hT _ _ N2).kind;rcases e2 with ⟨e3,e4⟩|⟨e3,e4⟩
  ·rw[e3]at hh;rw[←hi,e4];exact hh
  ·rw[e3]at hh;rw[←hi,e4];exact hh
 have hvv:qU (a.eval v):=by
  generalize (st.ev v).strip=x at lY tR;cases x<;>simp only[isRef]at tR
  ·rename_i y;have e:=lY.Ao;have e2:qU y:=by cases y<;>first|trivial|cases tR
   first|(rw[e];exact e2)|(rw[←e];exact e2)
  ·rename_i id';generalize a.eval v=u at lY;cases lY with
   |s _ _ hr _=>
    cases El:Af st.heap id' with
    |none=>rw[El]at tR;cases tR
    |some blk=>
     obtain⟨x',CP,Ae⟩:=hG.hw.ok _ _ El;rw[hr]at CP;injection CP with CP;subst CP
     cases blk with
     |box t c=>obtain⟨b,us,rfl,_⟩:=Ae;trivial
     |row e sz c=>
      obtain⟨m,xs,ho,_⟩:=Ae;rcases ho.2 with ⟨rfl,_⟩|⟨g,cap,cur,rfl,_⟩<;>trivial
     |FD e c=>
      obtain⟨m,xs,ho,_⟩:=Ae;rcases ho.2 with ⟨rfl,_⟩|⟨g,cap,cur,rfl,_⟩<;>trivial
     |mp c=>obtain⟨b,rfl,_⟩:=Ae;trivial
     |DN kd ks c=>obtain⟨b,BJ,rfl,_⟩:=Ae;trivial
  ·generalize a.eval v=u at lY;cases lY with
   |i=>trivial
 generalize zP:a.eval m=mv at tS;cases tS with
 |s _ x hr _=>
  obtain⟨x',CP,Ae⟩:=hG.hw.ok _ _ hl;rw[hr]at CP;injection CP with CP;subst CP
  obtain⟨b,BJ,rfl,hB,SD,VE,HR,FE⟩:=Ae;obtain⟨z1,z2⟩:=SQ (ks:=ks) (BJ:=BJ) key (a.eval v) VE;obtain⟨ob,B1,bO⟩:=Zf SD hu kb key hi wL hvv (c':=.VN kd (A5 (ks.zip BJ) key (a.eval v))) rfl (by simp only[MC.GD,List.length_zip];omega);rw[z1]at bO;have hb:b<w.heap.size:=by obtain⟨es,clock,hh,_⟩:=SD;exact(Array.getElem?_eq_some_iff.1 hh).1
  unfold Oper.wp
  have:(execOp a.eval o).run P w=.ok .skip {w with heap:=w.heap.setIfInBounds b ob}:=by
   simp[execOp,ho,zP,ek,e1,B1,Result.andThen]
  rw[this,Oper.upon_skip,DD];refine hn _ _ _ hK ⟨ρ,I,hG.store hl hr ⟨b,_,rfl,hB,bO,z2,?_,?_⟩ ⟨rfl,rfl,rfl,by simp,fun k hk=>by simp only;rw[Array.getElem?_setIfInBounds_ne Zo]⟩ (fun b1 Jy=>?_)⟩
  ·show(Eb ks l key _).length=_;rw[←z2];exact MM key _ _ (by rw[VE];exact HR)
  ·have hw': ∀b',I b'→(w.heap.setIfInBounds b ob)[b']? =w.heap[b']? :=fun b' Ux=>Array.getElem?_setIfInBounds_ne (fun e=>hG.hw.J2 id _ _ b hl hr rfl (by rw[e];exact Ux));exact X0 (R:=fun x u=>AL B I {w with heap:=w.heap.setIfInBounds b ob} ρ x u) (by rw[VE];exact HR) (lY.same hw') fun j u hu=>(FE j u hu).same hw'
  ·show(w.heap.setIfInBounds b ob)[b1]? =_;rw[Array.getElem?_setIfInBounds_ne (fun e=>Jy (by rw[e];rfl))]
def NM(T:BT)(dst:Option Nat)(op:Op)(K:St→Prop)(st:St):Prop:=
 match op,dst with
 | .buildSlice t len parts,some d=>
  match T t with
  |some ⟨.sl e,_,_,_⟩=>
   match T e with
   |some te=>
    match J9 (fun i=>some (i*te.sz,te.sz)) (CC (fun j=>HX (te.z.cells.getD (j%te.sz) undef)) 0 (len*te.sz)) (parts.toList.map fun p=>(p.1,st.ev p.2))with
    |some (φ,cs)=>(φ∧te.sz=1∧te.z.cells.size=te.sz∧len≤16777216)∧K ⟨(d,.s d)::CM d st.env,(d,.FD e (.AF (AV.CV d cs)))::AJ d st.heap⟩
    |none=>False
   |none=>False
  |_=>False
 |_,_=>False
theorem br{P:Program}{T:BT}(hT:T.ok P){n B:Nat}{w0:AT}{st:St}{a:Act}{w:World}{ρ:Nat→Option Value}{I:Nat→Prop}(hG:B3 n B w0 st a w ρ I){o:Oper}(hd:As n o.dst){K:St→Prop}(h:NM T o.dst o.op K st):C1 P n B w0 o a w K:=by
 intro next Q hn
 obtain⟨dst,op,ty,pos,aft,gd⟩:=o;simp only[NM]at h;split at h<;>first|exact h.elim|skip
 rename_i t len parts d;split at h<;>first|exact h.elim|skip
 rename_i e s1 b1 z1 ht;cases EP:T e with
 |none=>rw[EP]at h;exact h.elim
 |some te=>
  rw[EP]at h;simp only at h;split at h<;>first|exact h.elim|skip
  rename_i ψ cs Gm;have fU:d<n:=hd;obtain⟨⟨hφ,TU,wU,Xm⟩,hK⟩:=h;obtain⟨us,h1,h2,h3⟩:=NL hT hG (dst:=some d) (ty:=ty) (pos:=pos) (aft:=aft) (gd:=gd) ht EP Gm hφ wU (by rw[TU];omega);rw[TU,Nat.mul_one]at h1;have hb:Below w.heap.size w (w.alloc (.cells us e)):=(Below.refl _ _).alloc (Nat.le_refl _) _
  have ho:(w.alloc (.cells us e)).ownsRow B e 1 (.slice (some ⟨w.heap.size,0,none⟩) len len) len us.toList:=
   ⟨by simp[h1],.inr ⟨w.heap.size,len,us,rfl,hG.base,heap_alloc_new w _,Nat.le_refl _,by simp only[maxLen];omega,by rw[h1,Nat.mul_one],by rw[List.take_of_length_le (by simp[h1])]⟩⟩
  have hlen:us.toList.length=cs.length:=h2.1;unfold Oper.wp;rw[h3,Oper.upon_value]
  have h1':=hG.new hb d (.slice (some ⟨w.heap.size,0,none⟩) len len) (.FD e (.AF (AV.CV d cs))) ⟨len,us.toList,ho,by simp only[AH.len,Bl];rw[←hlen,Array.length_toList];omega,fun j u hu=>by
   have hj:j<cs.length:=by rw[←hlen];exact(List.getElem?_eq_some_iff.1 hu).1
   have h4:=h2.2 j hj;have h5:us.toList.getD j undef=u:=by simp[Zlg,hu]
   rw[h5]at h4;simp only[AH.at];rw[EV];exact(h4.kill d _ (fun id hid=>D5 _ _ _ hid)).same fun b Ux=>hb.block b (hG.hw.lt b Ux)⟩ (fun b hr=>by simp[Ab]at hr;omega) (hG.BQ.JQ d fU)
  exact hn _ _ _ hK ⟨_,I,h1'.put (d:=some d) (fun k hk=>by injection hk with hk;omega) (.s d _ (B4 _ _ _) rfl)⟩
def SR(H:List (Nat×AN)):Option Nat→List (Nat×AN)
 |none=>H
 |some id=>Dh id H
theorem SS{P:Program}{T:BT}(hT:T.ok P){n B:Nat}{w0:AT}{st:St}{a:Act}{w:World}{ρ:Nat→Option Value}{I:Nat→Prop}(hG:B3 n B w0 st a w ρ I){o:Oper}{x y:Operand}{t e e2:TypeId}{te:TI}{d:Nat}(ho:o.op=.call ⟨.builtin .append,#[x,y],#[t,t]⟩)(DD:o.dst=some d)(hd:d<n){s1:Nat}{b1:Nat}{z1:Value}(ht:T t=some ⟨.sl e,s1,b1,z1⟩)(EP:T e=some te)
  {id2:Nat} {l ys:List AV} {bs:Option Nat} (hy:(st.ev y).strip=.s id2) (El:Af st.heap id2=some (.FD e2 (.AF ys))) (cx:(st.ev x).cond) (cy:(st.ev y).cond) (TU:te.sz=1) (hz:te.z.cells.size=te.sz) (h1:Ih ys=true)
  (RL:(bs=none∧(st.ev x).strip=.v (.slice none 0 0)∧l= [])∨ ∃id,bs=some id∧id≠id2∧(st.ev x).strip=.s id∧Af st.heap id=some (.FD e (.AF l)))
  (RJ:(l.length+ys.length)*te.Zz1≤140737488355328) (It:l.length+ys.length≤9223372036854775807)
  (next:Act→World→Prop) (Q:Exit→Act→World→Prop)
  (hn: ∀a' w',G n B w0 ⟨(d,.s d)::CM d st.env,(d,.FD e (.AF (AV.CV d (l++ys))))::AJ d (SR st.heap bs)⟩ a' w'→next a' w'):o.wp P a w next Q:=by
 have hu:P.underlying t=some (.slice e):=(hT _ _ ht).kind;obtain⟨inf,Hz,HH,Pe,ow⟩:=(hT _ _ EP).info
 have XR: ∃(A:Option Addr) (cap:Nat) (news:List Value),a.eval y=.slice A ys.length cap∧news.length=ys.length∧(0<ys.length→ ∃ad,A=some ad∧ ∀j u,news[j]? =some u→w.cell? (ad.add j)=some u)∧ ∀j u,news[j]? =some u→AL B I w ρ (ys.getD j .top) u:=by
  have fV:=(hG.ev y).strip cy;rw[hy]at fV;generalize hv:a.eval y=yv at fV;cases fV with
  |s _ _ hr _=>
   obtain⟨x',CP,m,xs,H3,hl,hc⟩:=hG.hw.ok _ _ El;rw[hr]at CP;injection CP with CP;subst CP
   have hm:m=ys.length:=by simp only[AH.len]at hl;omega
   subst hm;have Xl:xs.length=ys.length:=by have:=H3.1;simpa using this
   rcases H3.2 with ⟨rfl,h0⟩|⟨g,cap,cur,rfl,_⟩
   ·exact⟨none,0,xs,by rw[h0],Xl,fun h=>by omega,hc⟩
   ·exact⟨_,cap,xs,rfl,Xl,fun h=>⟨_,rfl,fun j u hu=>H3.cells rfl j u hu⟩,hc⟩
 obtain⟨A,cap,news,zJ,VH,Kg,XS⟩:=XR
 have ki: ∃v0 xs,a.eval x=v0∧w.ownsRow B e 1 v0 l.length xs∧(∀j u,xs[j]? =some u→AL B I w ρ (l.getD j .top) u)∧
   (∀id,bs=some id→Af st.heap id=some (.FD e (.AF l))∧ρ id=some v0)∧(bs=none→v0=.slice none 0 0):=by
  have hx:=(hG.ev x).strip cx;rcases RL with ⟨uV,BE,rfl⟩|⟨id,uV,CD,BE,hk⟩
  ·rw[BE]at hx;exact⟨.slice none 0 0,[],hx.Ao,World.ownsRow_nil w B e 1,(fun j u hu=>by simp at hu),(fun id h=>by rw[uV]at h;cases h),fun _=>rfl⟩
  ·rw[BE]at hx;generalize XP:a.eval x=xv at hx;cases hx with
   |s _ _ hr _=>
    obtain⟨x',H8,m,xs,H3,hl,hc⟩:=hG.hw.ok _ _ hk;rw[hr]at H8;injection H8 with H8;subst H8
    have hm:m=l.length:=by simp only[AH.len]at hl;omega
    subst hm;exact⟨xv,xs,rfl,H3,hc,(fun i h=>by rw[uV]at h;injection h with h;subst h;exact⟨hk,hr⟩),fun h=>by rw[uV]at h;cases h⟩
 obtain⟨v0,xs,wV,DE,hold,hid,JN⟩:=ki;have Xl:xs.length=l.length:=by have:=DE.1;simpa using this
 have R9: ∀u∈news,u.oneCell'=true:=by
  intro u hu;obtain⟨j,hj,rfl⟩:=List.getElem_of_mem hu;rw[Ow];exact(XS j _ (Zeg hj)).one (Kp h1 j Zo)
 have B1: ∃v' w',(Builtin.append_ #[t,t] o.type #[v0,.slice A ys.length cap]).run P w=.ok v' w'∧w'.ownsRow B e 1 v' (l.length+ys.length) (xs++news)∧w.grownBy w' v0.ownBlock∧(v'.ownBlock=v0.ownBlock∨v'.ownBlock=some w.heap.size):=by
  rcases A with _|ad
  ·have hm:ys.length=0:=by
    rcases Nat.eq_zero_or_pos ys.length with h0|h0
    ·exact h0
    ·obtain⟨ad,h,_⟩:=Kg h0;cases h
   have fS:news= []:=List.eq_nil_of_length_eq_zero Zo;subst fS;rw[hm];exact⟨v0,w,II B t o.type e inf 1 hu Hz v0 l.length xs DE cap,by simpa using DE,⟨rfl,rfl,rfl,Nat.le_refl _,fun _ _ _=>rfl⟩,.inl rfl⟩
  ·have Uy: ∀j u,news[j]? =some u→w.cell? (ad.add j)=some u:=by
    intro j u SA;rcases Nat.eq_zero_or_pos ys.length with h0|h0
    ·have fS:news= []:=List.eq_nil_of_length_eq_zero Zo;subst fS;simp at SA
    ·obtain⟨ad',h,hc⟩:=Kg h0;injection h with h;subst h
     exact hc j u SA
   rw[TU]at hz HH;obtain⟨v',w',r1,r2,r3,_,r5⟩:=run_append_own_at (P:=P) w B t o.type e inf te.z 1 te.Zz1 hu Hz ow HH Pe hz Zd v0 l.length xs DE ad ys.length cap news Zo Uy R9 (by simp only[maxLen];omega) RJ hG.base;exact⟨v',w',r1,r2,r3,r5⟩
 obtain⟨v',w',r1,r2,r3,r4⟩:=B1;unfold Oper.wp
 have XT:(execOp a.eval o).run P w=.ok (.value v') w':=by
  simp only[execOp,ho,resolve,invoke,builtin,Sem.run_bind,Sem.run_pure,Result.andThen_ok,List.map_toArray,List.map_cons,List.map_nil,wV,zJ,r1]
 rw[XT,Oper.upon_value,DD];refine hn _ _ ?_;have JL:Ab v'=v'.ownBlock:=Bj r2;have H4:Ab v0=v0.ownBlock:=Bj DE
 have Uw: ∀b,I b→w'.heap[b]? =w.heap[b]? :=fun b hb=>r3.block b (hG.hw.lt b hb) (fun e=>by
  cases D7:bs with
  |none=>rw[JN D7]at e;simp[Value.ownBlock]at e
  |some id=>
   obtain⟨g1,g2⟩:=hid _ D7;exact hG.hw.J2 id _ v0 b g1 g2 (by rw[H4];exact e.symm) hb)
 have Jo:Below B w w':=⟨r3.os,r3.tape,r3.output,r3.size,fun b hb=>r3.block b (Nat.lt_of_lt_of_le hb hG.base) (fun e=>by
  have:=(DE.lt b e.symm).1;omega)⟩
 have Ct: ∀id blk,Af (SR st.heap bs) id=some blk→Af st.heap id=some blk∧(∀id',bs=some id'→id≠id'):=by
  intro id blk h;cases D7:bs with
  |none=>rw[D7]at h;exact⟨h,(fun _ h=>by cases h)⟩
  |some id'=>
   rw[D7]at h;simp only[SR,KB]at h;split at h
   ·cases h
   ·rename_i CD;exact⟨h,fun i1 h5=>by injection h5 with h5;subst h5;exact CD⟩
 have En: ∀id blk yv b,Af (SR st.heap bs) id=some blk→ρ id=some yv→Ab yv=some b→v0.ownBlock≠some b∧b<w.heap.size:=by
  intro id blk yv b Pg hy hb;obtain⟨h3,h4⟩:=Ct id blk Pg;obtain⟨y',F9,Ae⟩:=hG.hw.ok id blk h3;rw[hy]at F9;injection F9 with F9;subst F9
  refine⟨fun hv=>?_,(Ae.lt hb).2⟩;cases D7:bs with
  |none=>rw[JN D7]at hv;simp[Value.ownBlock]at hv
  |some id'=>
   obtain⟨g1,g2⟩:=hid _ D7;exact hG.hw.apart id' id _ _ v0 yv b (Ne.symm (h4 _ D7)) g1 h3 g2 hy (by rw[H4];exact hv) hb
 have Cj:=hG.replace (w':=w') (H0:=(SR st.heap bs)) (fun id blk h=>(Ct id blk h).1) d v' (.FD e (.AF (AV.CV d (l++ys))))
  ⟨l.length+ys.length,xs++news,r2,by simp only[AH.len,Bl,List.length_append];omega,fun j u SA=>by
   simp only[AH.at];rw[EV];by_cases hj:j<xs.length
   ·rw[List.getElem?_append_left hj]at SA;have e3:(l++ys).getD j .top=l.getD j .top:=by rw[Zlg,Zlg,List.getElem?_append_left Zo]
    rw[e3];exact((hold j u SA).same Uw).kill d _ (fun id hid=>D5 _ _ _ hid)
   ·rw[List.getElem?_append_right Zo]at SA;have e3:(l++ys).getD j .top=ys.getD (j - xs.length) .top:=by rw[Zlg,Zlg,List.getElem?_append_right Zo,Xl]
    rw[e3];exact((XS _ u SA).same Uw).kill d _ (fun id hid=>D5 _ _ _ hid)⟩
  Jo Uw (fun id blk yv b _ Pg hy hb=>by
   obtain⟨g1,g2⟩:=En id blk yv b Pg hy hb;exact r3.block b g2 (fun e=>g1 e.symm))
  (fun id blk yv b _ Pg hy hb hv=>by
   obtain⟨g1,g2⟩:=En id blk yv b Pg hy hb;rw[JL]at hv;rcases r4 with r4|r4
   ·rw[r4]at hv;exact g1 hv
   ·rw[r4]at hv;injection hv with hv;omega)
  (fun b hb hI=>by
   rw[JL]at hb;rcases r4 with r4|r4
   ·rw[r4]at hb;cases D7:bs with
    |none=>rw[JN D7]at hb;simp[Value.ownBlock]at hb
    |some id'=>
     obtain⟨g1,g2⟩:=hid _ D7;exact hG.hw.J2 id' _ v0 b g1 g2 (by rw[H4];exact hb) hI
   ·rw[r4]at hb;injection hb with hb;have:=hG.hw.lt b hI;omega) (hG.BQ.JQ d hd)
 have XU:LB v'=true:=by rcases r2.2 with ⟨rfl,_⟩|⟨g,cap,cur,rfl,_⟩<;>rfl
 exact⟨_,I,Cj.put (d:=some d) (fun k hk=>by injection hk with hk;omega) (.s d v' (B4 _ _ _) XU)⟩
def X1(T:BT)(dst:Option Nat)(op:Op)(K:St→Prop)(st:St):Prop:=
 match op,dst with
 | .call c,some d=>
  match c.callee,c.args.toList,c.argTypes.toList with
  | .builtin .append,[x,y],[t,t']=>
   match T t with
   |some ⟨.sl e,_,_,_⟩=>
    match T e,(st.ev y).strip with
    |some te,.s id2=>
     match Af st.heap id2 with
     |some (.FD _ (.AF ys))=>
      match (st.ev x).strip with
      | .v (.slice none 0 0)=>((st.ev x).cond∧(st.ev y).cond∧t'=t∧te.sz=1∧te.z.cells.size=te.sz∧Ih ys=true∧(0+ys.length)*te.Zz1≤140737488355328∧0+ys.length≤9223372036854775807)∧K ⟨(d,.s d)::CM d st.env,(d,.FD e (.AF (AV.CV d ys)))::AJ d st.heap⟩
      | .s id=>
       match Af st.heap id with
       |some (.FD e1 (.AF l))=>((st.ev x).cond∧(st.ev y).cond∧t'=t∧e1=e∧id≠id2∧te.sz=1∧te.z.cells.size=te.sz∧Ih ys=true∧(l.length+ys.length)*te.Zz1≤140737488355328∧l.length+ys.length≤9223372036854775807)∧K ⟨(d,.s d)::CM d st.env,(d,.FD e (.AF (AV.CV d (l++ys))))::AJ d (Dh id st.heap)⟩
       |_=>False
      |_=>False
     |_=>False
    |_,_=>False
   |_=>False
  |_,_,_=>False
 |_,_=>False
theorem l9{P:Program}{T:BT}(hT:T.ok P){n B:Nat}{w0:AT}{st:St}{a:Act}{w:World}{ρ:Nat→Option Value}{I:Nat→Prop}(hG:B3 n B w0 st a w ρ I){o:Oper}(hd:As n o.dst){K:St→Prop}(h':X1 T o.dst o.op K st):C1 P n B w0 o a w K:=by
 intro next Q FZ
 unfold X1 at h';split at h'<;>first|exact h'.elim|skip
 rename_i c d ho DD;rw[DD]at hd;split at h'<;>first|exact h'.elim|skip
 rename_i x y t t' Iu DM tU;obtain⟨cal,cargs,ctys⟩:=c;simp only at Iu DM tU;subst Iu;split at h'<;>first|exact h'.elim|skip
 rename_i e s1 b1 z1 ht;split at h'<;>first|exact h'.elim|skip
 rename_i te id2 EP hy;split at h'<;>first|exact h'.elim|skip
 rename_i e2 ys El;have ea:cargs= #[x,y]:=by cases cargs;simp_all
 split at h'<;>first|exact h'.elim|skip
 ·rename_i hx;obtain⟨⟨cx,cy,rfl,TU,hz,h1,RJ,It⟩,hK⟩:=h';have et:ctys= #[t',t']:=by cases ctys;simp_all
  subst ea;subst et
  exact SS hT hG (l:= []) (bs:=none) ho DD hd ht EP hy El cx cy TU hz h1 (.inl ⟨rfl,hx,rfl⟩) (by simpa using RJ) (by simpa using It) next Q fun a' w' Cj=>by
   obtain⟨ρ',I',ko⟩:=Cj;exact FZ _ _ _ hK ⟨ρ',I',ko⟩
 ·rename_i id hx;split at h'<;>first|exact h'.elim|skip
  rename_i e1 l FM;obtain⟨⟨cx,cy,rfl,rfl,CD,TU,hz,h1,RJ,It⟩,hK⟩:=h';have et:ctys= #[t',t']:=by cases ctys;simp_all
  subst ea;subst et
  exact SS hT hG (l:=l) (bs:=some id) ho DD hd ht EP hy El cx cy TU hz h1 (.inr ⟨id,rfl,CD,hx,FM⟩) RJ It next Q fun a' w' Cj=>by
   obtain⟨ρ',I',ko⟩:=Cj;exact FZ _ _ _ hK ⟨ρ',I',ko⟩
def x6(T:BT)(st:St)(dst:Option Nat)(op:Op)(K:St→Prop):Prop:=IJ T dst op K st∨NM T dst op K st∨X1 T dst op K st
theorem qe{P:Program}{T:BT}(hT:T.ok P){n B:Nat}{w0:AT}{st:St}{a:Act}{w:World}{ρ:Nat→Option Value}{I:Nat→Prop}(hG:B3 n B w0 st a w ρ I){o:Oper}(hd:As n o.dst){K:St→Prop}(h:x6 T st o.dst o.op K):C1 P n B w0 o a w K:=by
 rcases h with h|h|h
 ·exact Lf hT hG h
 ·exact br hT hG hd h
 ·exact l9 hT hG hd h
theorem qg{T:BT}{st:St}{o:Oper}{K:St→Prop}(h:x6 T st o.dst o.op K): ∀c,o.op≠.defer c:=fun c hc=>by
 rw[hc]at h;rcases h with h|h|h
 ·exact h
 ·exact h
 ·exact h
attribute [push_cast] IJ isRef vG NM X1 SR
def Lg(P:Program)(T:BT)(n:Nat)(ops:Array Oper)(o:Oper)(K:St→Prop)(st:St):Prop:=
 BR P T n ops o K st∨(o.guard=none∧As n o.dst∧bq T st o.dst o.op K)∨(EG st ops o.guard=some (some false)∧As n o.dst∧ ∃r,K (st.put o.dst (.g false r)))∨(o.guard=none∧As n o.dst∧x6 T st o.dst o.op K)
theorem SU{P:Program}{T:BT}(hT:T.ok P){n B:Nat}{w0:AT}{st:St}{a:Act}{w:World}{ρ:Nat→Option Value}{I:Nat→Prop}(hG:B3 n B w0 st a w ρ I){ops:Array Oper}{o:Oper}{K:St→Prop}(h:Lg P T n ops o K st)(next:Act→World→Prop)(Q:Exit→Act→World→Prop)(hn: ∀st' a' w',K st'→G n B w0 st' a' w'→next a' w'):
  if Region.wanted o (yielded ops a.tmps)then o.wp P a w next Q else next (a.put o.dst undef) w:=by
 rcases h with h|⟨hg,hd,h⟩|⟨hg,hd,h⟩|⟨hg,hd,h⟩
 ·exact VV hT hG h next Q hn
 ·have:Region.wanted o (yielded ops a.tmps)=true:=by
   have:=EY hG (ops:=ops) (o:=o) (g:=none) (by rw[hg];rfl);simpa using this
  rw[if_pos this];exact qd hT hG hd h next Q hn
 ·obtain⟨r,h⟩:=h;have:=EY hG hg;rw[this];simp only[Option.getD_some,Bool.false_eq_true,if_false];exact hn _ _ _ h ⟨ρ,I,hG.put (Ld hd) (.g false r _ (fun h=>by cases h) (fun _=>rfl))⟩
 ·have:Region.wanted o (yielded ops a.tmps)=true:=by
   have:=EY hG (ops:=ops) (o:=o) (g:=none) (by rw[hg];rfl);simpa using this
  rw[if_pos this];exact qe hT hG hd h next Q hn
theorem SV{P:Program}{T:BT}{n B:Nat}{w0:AT}{st:St}{a:Act}{w:World}{ρ:Nat→Option Value}{I:Nat→Prop}(hG:B3 n B w0 st a w ρ I){ops:Array Oper}{o:Oper}{K:St→Prop}(h:Lg P T n ops o K st)(hw:Region.wanted o (yielded ops a.tmps)=true): ∀c,o.op≠.defer c:=by
 rcases h with h|⟨_,_,h⟩|⟨hg,_,_⟩|⟨_,_,h⟩
 ·exact VW h
 ·intro c hc;rw[hc]at h;exact h
 ·rw[EY hG hg]at hw;cases hw
 ·exact qg h
attribute [push_cast] bq
def KG(d:Nat)(blk:AN):AV→AV
 | .p id off=>if id=d then .q true (fun _ j=>blk.cont.at j) blk.cont.len 0 off else .p id off
 |x=>x.kill d
def Ez(d:Nat)(blk:AN):List AV→List AV
 | []=> []
 |x::r=>KG d blk x::Ez d blk r
theorem MN(d:Nat)(blk:AN)(cs:List AV):(Ez d blk cs).length=cs.length:=by
 induction cs with
 |nil=>rfl
 |cons x r ih=>simp[Ez,ih]
theorem X2(d:Nat)(blk:AN)(cs:List AV)(j:Nat):(Ez d blk cs).getD j .top=KG d blk (cs.getD j .top):=by
 induction cs generalizing j with
 |nil=>simp[Ez,KG,AV.kill]
 |cons x r ih=>cases j with
  |zero=>simp[Ez]
  |succ j=>simpa[Ez]using ih j
def Ec(d:Nat)(blk:AN):AV→AV
 | .p id off=>if id=d then .q true (fun _ j=>blk.cont.at j) blk.cont.len 0 off else .p id off
 | .f fn cs=>.f fn (Ez d blk cs)
 | .s id=>if id=d then(match blk with| .row _ sz c=>if 0<sz then .i true (fun e j=>c.at (e*sz+j)) sz 0 (c.len / sz)else .top|_=>.top)else .s id
 |x=>x.kill d
def KH(d:Nat)(blk:AN):List (Nat×AV)→List (Nat×AV)
 | []=> []
 |(k,v)::r=>(k,Ec d blk v)::KH d blk r
theorem Zq(d:Nat)(blk:AN): ∀(env:List (Nat×AV)) (s:Nat),lk (KH d blk env) s=Ec d blk (lk env s)
 | [],s=>by simp only[KH,lk,Ec,AV.kill]
 |(k,v)::r,s=>by
  simp only[KH,lk];split
  ·rfl
  ·exact Zq d blk r s
def qh(c:AH):Prop:=match c with| .AF l=>AV.Dp l=true|_=>True
theorem Zz4{c:AH}(h:qh c)(j:Nat):(c.at j).F5=true:=by
 cases c with
 |ints k l=>rfl
 |BJ l=>rfl
 |AF l=>exact GH h j
attribute [push_cast] Ec KH KG Ez
end Go.Ad
