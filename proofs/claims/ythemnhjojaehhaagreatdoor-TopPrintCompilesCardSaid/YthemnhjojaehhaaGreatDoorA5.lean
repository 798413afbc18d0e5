/- Part of a proof. -/
import Derived.Laws.Rows
import Derived.Laws.NewFold
import Derived.Laws.CopyRow
import Derived.Test.YthemnhjojaehhaaGreatDoorA4
set_option linter.all false
namespace Go.Ad
open Go.RowKit
def Lc(k:IntKind):List AV→Option (List Int)
 | []=>some []
 |x::r=>match x with
  | .v (.int k' n)=>if k'=k then(match Lc k r with|some l=>some (n::l)|none=>none)else none
  |_=>none
theorem KC{k:IntKind}: ∀ {cs:List AV} {l:List Int},Lc k cs=some l→l.length=cs.length∧ ∀j,j<cs.length→cs.getD j .top=.v (.int k (l.getD j 0))
 | [],l,h=>by simp[Lc]at h;subst h;exact⟨rfl,fun j hj=>by simp at hj⟩
 |x::r,l,h=>by
  simp only[Lc]at h;split at h
  ·split at h
   ·rename_i hk;subst hk
    split at h
    ·rename_i l' uS;injection h with h;subst h
     obtain⟨h1,h2⟩:=KC uS;refine⟨by simp[h1],fun j hj=>?_⟩;cases j with
     |zero=>simp
     |succ j=>simpa using h2 j (by simpa using hj)
    ·cases h
   ·cases h
  ·cases h
def qb(T:BT)(ev:Operand→AV):Op→Option (Prop×AV)
 | .buildSlice t len parts=>
  match T t with
  |some ⟨.sl e,_,_,_⟩=>
   match T e with
   |some te=>
    match J9 (fun i=>some (i*te.sz,te.sz)) (CC (fun j=>HX (te.z.cells.getD (j%te.sz) undef)) 0 (len*te.sz)) (parts.toList.map fun p=>(p.1,ev p.2))with
    |some (φ,cs)=>
     match te.k with
     | .int k=>match Lc k cs with
      |some l=>some (φ∧te.sz=1∧te.z.cells.size=1∧len≤16777216,.i true (fun e _=>.v (.int k (l.getD e 0))) 1 0 l.length)
      |none=>none
     |_=>some (φ∧0<te.sz∧te.z.cells.size=te.sz∧len*te.sz≤16777216∧AV.Dp cs=true,.i true (fun e j=>cs.getD (e*te.sz+j) .top) te.sz 0 len)
    |none=>none
   |none=>none
  |_=>none
 |_=>none
section
variable{P:Program}{T:BT}(hT:T.ok P){B:Nat}{I:Nat→Prop}{w:World}{ρ:Nat→Option Value}
theorem At.F5{cs:List AV}{us:List Value}(h:At B I w ρ cs us)(hn:AV.Dp cs=true):At B I w DW cs us:=⟨h.1,fun j hj=>(h.2 j hj).F5 (GH hn j)⟩
theorem gG{t:TypeId}{us:Array Value}{c:Nat→Nat→AV}{sz len cap:Nat}{I':Nat→Prop}(hI:I' w.heap.size)(hB:B≤w.heap.size)(BW:len≤cap)(hl:len*sz≤us.size)
  (hc: ∀e j,e<len→j<sz→AL B I' (w.alloc (.cells us t)) DW (c e j) (us.getD (e*sz+j) undef)):AL B I' (w.alloc (.cells us t)) ρ (.i true c sz 0 len) (.slice (some ⟨w.heap.size,0,none⟩) len cap):=by
 refine .i _ _ _ _ _ _ _ (fun e j=>us.getD (e*sz+j) undef) BW (fun _=>⟨_,rfl,hI,fun _=>hB,fun e j he hj=>?_⟩) (fun e j he hj=>by rw[Nat.zero_add];exact hc e j he hj);have Ak:e*sz+j<us.size:=Nat.lt_of_lt_of_le (EW he hj) hl;have hb:(w.alloc (.cells us t)).heap[w.heap.size]? =some (.cells us t (0,0)):=heap_alloc_new w _;rw[By,Nat.zero_add,cell_of_row _ _ _ us t (0,0) hb];simp[Ak,Zag]
include hT in
theorem pR{n:Nat}{w0:AT}{st:St}{a:Act}(hG:B3 n B w0 st a w ρ I){o:Oper}{φ:Prop}{r:AV}(h:qb T st.ev o.op=some (φ,r))(hφ:φ)(next:Act→World→Prop)(Q:Exit→Act→World→Prop)
  (hn: ∀v w' I',Quiet I w I' w'→AL B I' w' ρ r v→next (a.put o.dst v) w'):o.wp P a w next Q:=by
 obtain⟨dst,op,ty,pos,aft,gd⟩:=o;simp only[qb]at h;split at h
 ·rename_i t len parts;split at h
  ·rename_i e _ _ _ ht;have hu:P.underlying t=some (.slice e):=(hT _ _ ht).kind;split at h
   ·rename_i te EP;obtain⟨inf,Hz,HH,Pe,hz⟩:=(hT _ _ EP).info;have Bh:=(hT _ _ EP).size w;split at h
    ·rename_i ψ cs Gm
     have common:ψ→te.z.cells.size=te.sz→len*te.sz≤16777216→
       ∃us,us.size=len*te.sz∧At B I w ρ cs us.toList∧(execOp a.eval ⟨dst,.buildSlice t len parts,ty,pos,aft,gd⟩).run P w=.ok (.value (.slice (some ⟨w.heap.size,0,none⟩) len len)) (w.alloc (.cells us e)):=by
      intro hψ eX hlen
      have zG:At B I w ρ (CC (fun j=>HX (te.z.cells.getD (j%te.sz) undef)) 0 (len*te.sz)) ((Array.range (len*te.sz)).map fun j=>(if len*te.sz=0 then #[]else te.z.cells)[j%(if len*te.sz=0 then #[]else te.z.cells).size]!).toList:=by
       refine⟨by simp[Cv],fun j hj=>?_⟩;rw[Cv]at hj;have CD: ¬len*te.sz=0:=Zo
       rw[HY _ _ _ _ hj,Nat.zero_add,if_neg CD,eX]
       have e1:((Array.range (len*te.sz)).map fun j=>te.z.cells[j%te.sz]!).toList.getD j undef=te.z.cells.getD (j%te.sz) undef:=by
        have Ak:j%te.sz<te.z.cells.size:=by
         rw[eX];apply Nat.mod_lt
         rcases Nat.eq_zero_or_pos te.sz with h0|h0
         ·rw[h0]at CD;simp at CD
         ·exact h0
        simp[Zlg,hj,Zag,Ak]
       rw[e1];exact JP _
      obtain⟨us,h1,h2⟩:=MI _ ((parts.map fun p=>(p.1,a.eval p.2)).toList) _ _ Gm hψ zG (by simp) (fun j hj=>by
       simp at hj;have h1:((parts.toList.map fun p=>(p.1,st.ev p.2)).getD j (0,.top)).2=st.ev parts[j].2:=by simp[Zlg,hj]
       have h2:((parts.map fun p=>(p.1,a.eval p.2)).toList.getD j (0,undef)).2=a.eval parts[j].2:=by simp[Zlg,hj]
       rw[h1,h2];exact hG.ev _)
      have JM:us.size=len*te.sz:=by
       have BF: ∀(place:Nat→Option (Nat×Nat)) (l:List (Nat×Value)) (us us':Array Value),Instr.fill place us l=some us'→us'.size=us.size:=by
        intro place l;induction l with
        |nil=>intro us us' h;simp[Instr.fill]at h;rw[h]
        |cons p l ih=>
         intro us us' h;obtain⟨i,v⟩:=p;simp only[Instr.fill]at h;split at h
         ·cases h
         ·split at h
          ·cases h
          ·rw[ih _ _ h]
           have: ∀(l:List (Value×Nat)) (off:Nat) (us:Array Value),(l.foldl (fun cs (x:Value×Nat)=>cs.setIfInBounds (off+x.2) x.1) us).size=us.size:=by
            intro l;induction l with
            |nil=>intro off us;rfl
            |cons q l ih=>intro off us;simp[ih]
           rw[←Array.foldl_toList];exact this _ _ _
       rw[BF _ _ _ _ h1];simp
      refine⟨us,JM,h2,?_⟩;have kh: ¬(len*te.sz>2^24):=Zo
      by_cases h0:len*te.sz=0
      ·rw[if_pos h0]at h1;rw[h0]at h1;have tK: ¬((0:Nat)>2^24):=Zd
       simp only[execOp,Instr.buildSlice,Sem.run_bind,run_underlying hu,Result.andThen_ok,Bh,h0,tK,if_false,if_true,Sem.run_pure,h1];simp[newRow]
      ·rw[if_neg h0]at h1;simp only[execOp,Instr.buildSlice,Sem.run_bind,run_underlying hu,Result.andThen_ok,Bh,kh,if_false,h0,Sem.run_pure,zeroValue,typeInfo,run_program,Hz,hz,h1];simp[newRow]
     have finish: ∀(us:Array Value) (c:Nat→Nat→AV),us.size=len*te.sz→(∀e j,e<len→j<te.sz→AL B I w DW (c e j) (us.getD (e*te.sz+j) undef))→
       (execOp a.eval ⟨dst,.buildSlice t len parts,ty,pos,aft,gd⟩).run P w=.ok (.value (.slice (some ⟨w.heap.size,0,none⟩) len len)) (w.alloc (.cells us e))→r=.i true c te.sz 0 len→Oper.wp P ⟨dst,.buildSlice t len parts,ty,pos,aft,gd⟩ a w next Q:=by
      intro us c fP hc B1 hr;unfold Oper.wp;rw[B1,Oper.upon_value]
      have hq:Quiet I w (fun b=>I b∨b=w.heap.size) (w.alloc (.cells us e)):=
       ⟨(Below.refl _ _).alloc (Nat.le_refl _) _,fun b hb=>.inl hb,fun b hb hn=>by rcases hb with hb|hb;exact absurd hb hn;omega,fun b hb=>by
        have:(w.alloc (.cells us e)).heap.size=w.heap.size+1:=by simp
        rcases hb with hb|hb
        ·have:=hG.hw.lt b hb;omega
        ·omega⟩
      refine hn _ _ _ hq ?_;rw[hr];refine gG (ρ:=ρ) (.inr rfl) hG.base (Nat.le_refl _) Zo (fun el j he hj=>?_);exact(hc el j he hj).quiet hq hG.hw.lt
     split at h
     ·rename_i k hk;split at h
      ·rename_i l hl;simp only[Option.some.injEq,Prod.mk.injEq]at h;obtain⟨rfl,rfl⟩:=h;obtain⟨us,h1,h2,h3⟩:=common hφ.1 (by rw[hφ.2.1,hφ.2.2.1]) (by rw[hφ.2.1];omega);obtain⟨l1,l2⟩:=KC hl
       have HR:cs.length=len:=by
        have:=h2.1;rw[Array.length_toList,h1,hφ.2.1]at this;omega
       refine finish us _ h1 (fun el j he hj=>?_) h3 (by rw[hφ.2.1,l1,HR]);have kg:j=0:=by rw[hφ.2.1]at hj;omega
       subst kg;rw[hφ.2.1,Nat.mul_one,Nat.add_zero];have:=h2.2 el Zo;rw[l2 el Zo]at this;have e2:us.toList.getD el undef=us.getD el undef:=by simp[Zlg,Zag]
       rw[←e2,this.Ao];exact .v _
      ·cases h
     ·simp only[Option.some.injEq,Prod.mk.injEq]at h;obtain⟨rfl,rfl⟩:=h;obtain⟨us,h1,h2,h3⟩:=common hφ.1 hφ.2.2.1 hφ.2.2.2.1;have h2:=h2.F5 hφ.2.2.2.2;refine finish us _ h1 (fun el j he hj=>?_) h3 rfl
      have Ak:el*te.sz+j<cs.length:=by
       have:=h2.1;rw[Array.length_toList,h1]at this;rw[←this];exact EW he hj
      have:=h2.2 _ Ak;have e2:us.toList.getD (el*te.sz+j) undef=us.getD (el*te.sz+j) undef:=by simp[Zlg,Zag]
      rwa [e2]at this
    ·cases h
   ·cases h
  ·cases h
 ·cases h
end
def A6(ev:Operand→AV):Op→Option (Prop×FuncId×List AV)
 | .call c=>match c.callee with
  | .value f=>match (ev f).strip with
   | .v (.func (.func k) first caps)=>match first.toList,caps.toList with
    | [],[]=>some ((ev f).cond,k,c.args.toList.map ev)
    |_,_=>none
   | .f (.func k) cs=>some ((ev f).cond,k,c.args.toList.map ev++cs)
   | .f (.yield k) cs=>some ((ev f).cond,k,cs++c.args.toList.map ev)
   |_=>none
  |_=>none
 |_=>none
def EX:List AV→Prop
 | []=>True
 |x::r=>x.cond∧EX r
theorem FP: ∀ {cs:List AV} (_:EX cs) (j:Nat),(cs.getD j .top).cond
 | [],_,_=>by simp[AV.cond]
 |x::r,h,0=>by simpa using h.1
 |x::r,h,j+1=>by simpa using FP h.2 j
def MJ(H:List (Nat×AN)):List AV→List AV
 | []=> []
 |x::r=>AV.IA false H 6 x.strip::MJ H r
theorem Ga(H:List (Nat×AN)): ∀cs,(MJ H cs).length=cs.length
 | []=>rfl
 |x::r=>by simp[MJ,Ga H r]
theorem NG(H:List (Nat×AN)): ∀(cs:List AV) (j:Nat),j<cs.length→(MJ H cs).getD j .top=AV.IA false H 6 (cs.getD j .top).strip
 | [],j,h=>by simp at h
 |x::r,0,h=>by simp[MJ]
 |x::r,j+1,h=>by simpa[MJ]using NG H r j (by simpa using h)
section
variable{P:Program}{B:Nat}{I:Nat→Prop}{w:World}{ρ:Nat→Option Value}
theorem JT{ev:Operand→AV}{ρv:Operand→Value}(G2: ∀x,AL B I w ρ (ev x) (ρv x)){o:Oper}{ψ:Prop}{k:FuncId}{args:List AV}(h:A6 ev o.op=some (ψ,k,args))(hψ:ψ)
  {fn:Func} (hf:P.funcs[k]? =some fn) (Em:(fn.name== "runtime.NumGoroutine")=false) (bL:fn.body.isNone=false):
  ∃vs,(execOp ρv o).run P w=.ok (.enter k vs) w∧At B I w ρ args vs.toList:=by
 obtain⟨dst,op,ty,pos,aft,gd⟩:=o
 have mapL: ∀(l:List Operand),At B I w ρ (l.map ev) (l.map ρv):=fun l=>⟨by simp,fun j hj=>by
  simp at hj;have h1:(l.map ev).getD j .top=ev l[j]:=by simp[Zlg,hj]
  have h2:(l.map ρv).getD j undef=ρv l[j]:=by simp[Zlg,hj]
  rw[h1,h2];exact G2 _⟩
 have ZQ: ¬fn.name= "runtime.NumGoroutine" :=by simpa using Em
 have ZR: ¬fn.body=none:=fun h=>by rw[h]at bL;cases bL
 simp only[A6]at h;split at h
 ·rename_i c;split at h
  ·rename_i f hc;split at h
   ·rename_i k' first caps BE
    split at h
    ·rename_i h1 h2;simp only[Option.some.injEq,Prod.mk.injEq]at h;obtain⟨rfl,rfl,rfl⟩:=h;have e1:first= #[]:=by simpa using h1
     have e2:caps= #[]:=by simpa using h2
     subst e1;subst e2
     have fR:=(G2 f).strip hψ;rw[BE]at fR;have fR:=fR.Ao;refine⟨c.args.map ρv,?_,by simpa using mapL c.args.toList⟩;simp[execOp,resolve,hc,fR,Deferred.ofValue,invoke,callFunc,hf,ZQ,ZR]
    ·cases h
   ·rename_i k' cs BE;simp only[Option.some.injEq,Prod.mk.injEq]at h;obtain⟨rfl,rfl,rfl⟩:=h;have fR:=(G2 f).strip hψ;rw[BE]at fR;generalize wR:ρv f=fu at fR;cases fR with
    |f _ _ us hl OR=>
     simp only[ba]at wR;refine⟨c.args.map ρv++us,?_,?_⟩
     ·simp[execOp,resolve,hc,wR,Deferred.ofValue,invoke,callFunc,hf,ZQ,ZR]
     ·have hm:=mapL c.args.toList;refine⟨by simp[hl],fun j hj=>?_⟩;by_cases M6:j<c.args.size
      ·have:=hm.2 j (by simpa using M6);have e1:(c.args.toList.map ev++cs).getD j .top=(c.args.toList.map ev).getD j .top:=by simp[Zlg,List.getElem?_append,M6]
       have e2:(c.args.map ρv++us).toList.getD j undef=(c.args.toList.map ρv).getD j undef:=by simp[Zlg,List.getElem?_append,M6]
       rw[e1,e2];exact this
      ·simp at hj;have:=OR (j - c.args.size) Zo;have e1:(c.args.toList.map ev++cs).getD j .top=cs.getD (j - c.args.size) .top:=by simp[Zlg,List.getElem?_append,M6]
       have e2:(c.args.map ρv++us).toList.getD j undef=us.getD (j - c.args.size) undef:=by simp[Zlg,List.getElem?_append,M6,Zag]
       rw[e1,e2];exact this
   ·rename_i k' cs BE;simp only[Option.some.injEq,Prod.mk.injEq]at h;obtain⟨rfl,rfl,rfl⟩:=h;have fR:=(G2 f).strip hψ;rw[BE]at fR;generalize wR:ρv f=fu at fR;cases fR with
    |f _ _ us hl OR=>
     simp only[ba]at wR;refine⟨us++c.args.map ρv,?_,?_⟩
     ·simp[execOp,resolve,hc,wR,Deferred.ofValue,invoke,callFunc,hf,ZQ,ZR]
     ·have hm:=mapL c.args.toList;refine⟨by simp[hl],fun j hj=>?_⟩;by_cases M6:j<cs.length
      ·have:=OR j M6;have e1:(cs++c.args.toList.map ev).getD j .top=cs.getD j .top:=by simp[Zlg,List.getElem?_append,M6]
       have e2:(us++c.args.map ρv).toList.getD j undef=us.getD j undef:=by simp[Zlg,List.getElem?_append,hl,M6,Zag]
       rw[e1,e2];exact this
      ·simp at hj;have:=hm.2 (j - cs.length) (by simp;omega);have e1:(cs++c.args.toList.map ev).getD j .top=(c.args.toList.map ev).getD (j - cs.length) .top:=by simp[Zlg,List.getElem?_append,M6]
       have e2:(us++c.args.map ρv).toList.getD j undef=(c.args.toList.map ρv).getD (j - cs.length) undef:=by simp[Zlg,List.getElem?_append,hl,M6]
       rw[e1,e2];exact this
   ·cases h
  ·cases h
 ·cases h
theorem gH{B B':Nat}{I:Nat→Prop}{w:World}(H:List (Nat×AN)): ∀(n:Nat) {x:AV} {u:Value},AL B I w DW x u→AL B' I w DW (AV.IA false H n x) u:=by
 intro n;induction n with
 |zero=>intro x u h;exact .top u
 |succ n ih=>
  intro x u h;cases h with
  |v=>exact .v _
  |s id _ h h1=>cases h
  |w id off len cap A x h BW hA=>cases h
  |p id off b x h hb=>cases h
  |i fr c sz off len cap A u BW hA hc=>
   refine .i _ _ _ _ _ _ _ u BW (fun hl=>?_) (fun e f he hf=>Zm (fun h=>by cases h) (fun _ h=>h) (hc e f he hf));obtain⟨ad,h1,h2,h3,h4⟩:=hA hl;exact⟨ad,h1,h2,(fun hh=>by simp at hh),h4⟩
  |q fr c sz e f ad u h2 h3 Bf hc=>exact .q _ _ _ _ _ _ u h2 (fun hh=>by simp at hh) Bf (fun j hj=>Zm (fun h=>by cases h) (fun _ h=>h) (hc j hj))
  |a cs us hl h=>exact .a _ _ (by simpa using hl) fun j hj=>by simp only[List.length_map]at hj;rw[CQ _ _ _ _ _ hj];exact ih (h j hj)
  |t cs us hl h=>exact .t _ _ (by simpa using hl) fun j hj=>by simp only[List.length_map]at hj;rw[CQ _ _ _ _ _ hj];exact ih (h j hj)
  |f fn cs us hl h=>exact .f _ _ _ (by simpa using hl) fun j hj=>by simp only[List.length_map]at hj;rw[CQ _ _ _ _ _ hj];exact ih (h j hj)
  |g b x _ h h0=>exact .g b _ _ (fun hb=>ih (h hb)) h0
  |o _ h1=>exact .o _ h1
  |top=>exact .top _
theorem SL: ∀ {x:AV},x.F5=true→x.strip.F5=true
 | .g b x,h=>by rw[AV.strip];exact SL (x:=x) (by rwa [AV.F5]at h)
 | .v _,h=>h
 | .s _,h=>h
 | .w _ _ _,h=>h
 | .p _ _,h=>h
 | .i _ _ _ _ _,h=>h
 | .q _ _ _ _ _,h=>h
 | .a _,h=>h
 | .t _,h=>h
 | .f _ _,h=>h
 | .o,h=>h
 | .top,h=>h
def uq(args:List AV)(r:AV):Prop:=r.fresh∨AV.Dp args=true
theorem Ov{n:Nat}{w0:AT}{st:St}{a:Act}(hG:B3 n B w0 st a w ρ I){o:Oper}{ψ:Prop}{k:FuncId}{args:List AV}{r:AV}(h:A6 st.ev o.op=some (ψ,k,args))(hψ:ψ)(La:EX args)(hp:Pure P k (MJ st.heap args) r)(N1:uq args r)
  (next:Act→World→Prop) (Q:Exit→Act→World→Prop) (hn: ∀v w' I',Quiet I w I' w'→AL B I' w' ρ r v→next (a.put o.dst v) w'):o.wp P a w next Q:=by
 obtain⟨⟨fn,hf,Em,bL⟩,XN⟩:=hp;obtain⟨vs,B1,RH⟩:=JT (fun x=>hG.ev x) h hψ hf Em bL;unfold Oper.wp;rw[B1,Oper.upon_enter]
 have quiet: ∀w',Below w.heap.size w w'→Quiet I w (fun b=>I b∨(w.heap.size≤b∧b<w'.heap.size)) w':=fun w' hb=>
  ⟨hb,fun b hb=>.inl hb,fun b hb hn=>by rcases hb with hb|hb;exact absurd hb hn;exact hb.1,fun b Ux=>by
    rcases Ux with Ux|Ux
    ·exact Nat.lt_of_lt_of_le (hG.hw.lt b Ux) hb.size
    ·exact Ux.2⟩
 rcases N1 with N1|HJ
 ·refine(XN w (G4 w) vs (hG.gl.mono fun b hb=>⟨hG.hw.lt b hb,rfl⟩) (fun b hb=>hb) ⟨by rw[Ga];exact RH.1,fun j hj=>?_⟩).mono fun e w' he=>?_
  ·rw[Ga]at hj;rw[NG _ _ _ hj];exact gE false hG.hw (fun h=>by cases h) hG.hw.lt (fun b _ h=>h) 6 (.inl rfl) ((RH.2 j hj).strip (FP La j))
  ·obtain⟨v,rfl,hb,hc⟩:=he;refine hn v w' _ (quiet w' hb) ?_
   have h2:=hc.fresh (I':=fun b=>I b∨(w.heap.size≤b∧b<w'.heap.size)) N1 (fun b Jy J4=>by
    rcases J4 with J4|J4
    ·have:b<w.heap.size:=J4;omega
    ·exact .inr J4)
   exact(h2.mono hG.base (fun b hb=>⟨hb,rfl⟩) ρ (fun _ _ h=>by cases h))
 ·refine(XN w I vs hG.gl hG.hw.lt ⟨by rw[Ga];exact RH.1,fun j hj=>?_⟩).mono fun e w' he=>?_
  ·rw[Ga]at hj;rw[NG _ _ _ hj];exact gH _ _ (((RH.2 j hj).strip (FP La j)).F5 (SL (GH HJ j)))
  ·obtain⟨v,rfl,hb,hc⟩:=he;exact hn v w' _ (quiet w' hb) (hc.mono hG.base (fun b hb=>⟨hb,rfl⟩) ρ (fun _ _ h=>by cases h))
end
def Ih:List AV→Bool
 | []=>true
 |x::r=>x.one&&Ih r
theorem Kp: ∀ {cs:List AV} (_:Ih cs=true) (j:Nat),j<cs.length→(cs.getD j .top).one=true
 | [],_,j,h=>by simp at h
 |x::r,h,0,_=>by simp[Ih]at h;simpa using h.1
 |x::r,h,j+1,hj=>by simp[Ih]at h;simpa using Kp h.2 j (by simpa using hj)
def SM(H:List (Nat×AN))(sz:Nat)(x:AV):Option (Prop×Nat×(Nat→Nat→AV)):=
 match x with
 | .i _ c sz' off len=>some (sz'=sz,len,fun e j=>c (off+e) j)
 | .s id=>match Af H id with
  |some (.row _ sz' c)=>some (sz'=sz∧0<sz,c.len / sz,fun e j=>c.at (e*sz+j))
  |_=>none
 | .w id off len=>match Af H id with
  |some (.row _ sz' c)=>some (sz'=sz∧off+len*sz≤c.len,len,fun e j=>c.at (off+e*sz+j))
  |_=>none
 | .v (.slice _ 0 _)=>some (True,0,fun _ _=>.top)
 |_=>none
def KD(H:List (Nat×AN))(x:AV):Option (Option (Nat×TypeId×Nat×AH)):=
 match x with
 | .v (.slice none 0 0)=>some none
 | .s id=>match Af H id with
  |some (.row e sz c)=>some (some (id,e,sz,c))
  |_=>none
 |_=>none
def Iz(H:List (Nat×AN)):Option (Nat×TypeId×Nat×AH)→List (Nat×AN)
 |none=>H
 |some (id,_,_,_)=>Dh id H
def al(T:BT)(st:St)(o:Oper)(K:St→Prop):Prop:=
 match o.op with
 | .store t x y=>
  match (st.ev x).strip,cellsOf (st.ev y).strip,T t with
  | .p id off,some cs,some ti=>
   match Af st.heap id with
   |some (.box tb c)=>
    match c.Rb off cs with
    |some c'=>((st.ev x).cond∧(st.ev y).cond∧cs.length=ti.sz∧off+cs.length≤c.len∧Ih cs=true∧o.dst=none)∧K ⟨st.env,(id,.box tb c')::st.heap⟩
    |none=>False
   |some (.row e sz c)=>
    match c.Rb off cs with
    |some c'=>((st.ev x).cond∧(st.ev y).cond∧cs.length=ti.sz∧off+cs.length≤c.len∧Ih cs=true∧AV.Dp cs=true∧o.dst=none)∧K ⟨st.env,(id,.row e sz c')::st.heap⟩
    |none=>False
   |some (.FD e c)=>
    match c.Rb off cs with
    |some c'=>((st.ev x).cond∧(st.ev y).cond∧cs.length=ti.sz∧off+cs.length≤c.len∧Ih cs=true∧o.dst=none)∧K ⟨st.env,(id,.FD e c')::st.heap⟩
    |none=>False
   |some (.mp _)=>False
   |some (.DN _ _ _)=>False
   |none=>False
  |_,_,_=>False
 | .box t x=>
  match o.dst,cellsOf (st.ev x).strip with
  |some d,some cs=>(st.ev x).cond∧K ⟨(d,.p d 0)::CM d st.env,(d,.box t (.AF (AV.CV d cs)))::AJ d st.heap⟩
  |_,_=>False
 | .alloc t=>
  match o.dst,T t with
  |some d,some ti=>K ⟨(d,.p d 0)::CM d st.env,(d,.box t (match ti.k,ti.z with| .arr _ _,_=>.BJ ti.z.cells.toList|_,_=>.AF (ti.z.cells.toList.map .v)))::AJ d st.heap⟩
  |_,_=>False
 | .makeSlice t l c=>
  match o.dst,T t,(st.ev l).strip,(st.ev c).strip with
  |some d,some ⟨.sl e,_,_,_⟩,.v (.int _ nl),.v (.int _ nc)=>
   match T e with
   |some te=>((st.ev l).cond∧(st.ev c).cond∧0≤nl∧nl≤nc∧(te.Zz1:Int)*nc≤281474976710656∧nc≤9223372036854775807∧te.z.cells.size=te.sz∧te.sz=1∧(match te.k,te.z with| .int k,.int k2 _=>k2=k|_,_=>True))∧
     K ⟨(d,.s d)::CM d st.env,(d,.row e te.sz (match te.k,te.z with| .int k,.int _ z=>.ints k (List.replicate nl.toNat z)|_,_=>.BJ (List.replicate nl.toNat (te.z.cells.getD 0 undef))))::AJ d st.heap⟩
   |none=>False
  |_,_,_,_=>False
 | .call c=>
  match c.callee,c.args.toList,c.argTypes.toList with
  | .builtin .append,[x,y],[t,t']=>
   match o.dst,T t with
   |some d,some ⟨.sl e,_,_,_⟩=>
    match T e,KD st.heap (st.ev x).strip with
    |some te,some bs=>
     match SM st.heap te.sz (st.ev y).strip with
     |some (ψ,m,src)=>
      match te.k,(match bs with|none=>AH.ints .i64 []|some (_,_,_,c)=>c)with
      | .int k,.ints k' l=>
       ∃ys:List Int,((st.ev x).cond∧(st.ev y).cond∧ψ∧t'=t∧te.sz=1∧te.z.cells.size=1∧(match bs with|none=>True|some (_,e',sz,_)=>e'=e∧sz=1∧k'=k)∧ys.length=m∧(∀j,j<m→src j 0=.v (.int k (ys.getD j 0)))∧(l.length+m)*te.Zz1≤140737488355328∧l.length+m≤9223372036854775807)∧
        K ⟨(d,.s d)::CM d st.env,(d,.row e 1 (.ints k (l++ys)))::AJ d (Iz st.heap bs)⟩
      |_,c0=>
       match (match bs with|none=>AH.AF []|some _=>c0)with
       | .AF l=> ∃ys:List AV,((st.ev x).cond∧(st.ev y).cond∧ψ∧t'=t∧0<te.sz∧te.z.cells.size=te.sz∧(match bs with|none=>True|some (_,e',sz,_)=>e'=e∧sz=te.sz)∧ys.length=m*te.sz∧(∀el j,el<m→j<te.sz→src el j=ys.getD (el*te.sz+j) .top)∧Ih ys=true∧(l.length / te.sz+m)*te.Zz1≤140737488355328∧l.length / te.sz+m≤9223372036854775807)∧
        K ⟨(d,.s d)::CM d st.env,(d,.row e te.sz (.AF (l++ys)))::AJ d (Iz st.heap bs)⟩
       |_=>False
     |none=>False
    |_,_=>False
   |_,_=>False
  |_,_,_=>False
 |_=>False
section
variable{P:Program}{T:BT}(hT:T.ok P){n B:Nat}{w0:AT}{st:St}{a:Act}{w:World}{ρ:Nat→Option Value}{I:Nat→Prop}
def C1(P:Program)(n B:Nat)(w0:AT)(o:Oper)(a:Act)(w:World)(K:St→Prop):Prop:=
 ∀(next:Act→World→Prop) (Q:Exit→Act→World→Prop),(∀st' a' w',K st'→G n B w0 st' a' w'→next a' w')→o.wp P a w next Q
theorem G5{B:Nat}{a w:World}(h:Below B a w){g:Nat}(hg:B≤g)(cs:Array Value):Below B a (w.setRow g cs):=
 h.trans ⟨rfl,rfl,rfl,by simp[World.setRow],fun k hk=>by
  simp only[World.setRow,Array.getElem?_modify];rw[if_neg Zo]⟩
theorem IG(w:World)(g:Nat)(cs cur:Array Value)(t:TypeId)(h:w.heap[g]? =some (.cells cur t (0,0))):(w.setRow g cs).heap[g]? =some (.cells cs t (0,0)):=by
 simp[World.setRow,Array.getElem?_modify,h]
theorem Di(w:World)(g k:Nat)(cs:Array Value)(h:g≠k):(w.setRow g cs).heap[k]? =w.heap[k]? :=by
 simp only[World.setRow,Array.getElem?_modify];rw[if_neg h]
theorem Ow(u:Value):u.oneCell'=LB u:=by cases u<;>rfl
theorem At.gI{cs:List AV}{us:List Value}(h:At B I w ρ cs us)(h1:Ih cs=true): ∀u∈us,u.oneCell'=true:=by
 intro u hu;obtain⟨j,hj,rfl⟩:=List.getElem_of_mem hu;have M6:j<cs.length:=by rw[←h.1];exact hj
 have:=(h.2 j M6).one (Kp h1 j M6);rw[Ow];simpa[Zlg,hj]using this
theorem VU(cur:Array Value)(off:Nat)(vs:List Value)(hl:off+vs.length≤cur.size)(j:Nat)(hj:j<cur.size):
  ((cur.toList.take off++vs++cur.toList.drop (off+vs.length)).toArray)[j]? =some (if off≤j∧j<off+vs.length then vs.getD (j - off) undef else cur.getD j undef):=by
 rw[List.getElem?_toArray];have ht:(cur.toList.take off).length=off:=by simp;omega
 by_cases h1:j<off
 ·rw[if_neg Zo,List.append_assoc,List.getElem?_append_left Zo];simp[h1,hj,Zag]
 ·by_cases h2:j<off+vs.length
  ·rw[if_pos ⟨Zo,h2⟩,List.append_assoc,List.getElem?_append_right Zo,ht,List.getElem?_append_left Zo];simp[Zlg,show j - off<vs.length by omega]
  ·rw[if_neg Zo,List.getElem?_append_right (by simp;omega)];simp only[List.length_append,ht,List.getElem?_drop];rw[show off+vs.length+(j - (off+vs.length))=j from by omega];simp[hj,Zag]
include hT in
theorem gJ(hG:B3 n B w0 st a w ρ I){o:Oper}{t:TypeId}{x y:Operand}(ho:o.op=.store t x y){K:St→Prop}(h:al T st o K):C1 P n B w0 o a w K:=by
 intro next Q hn
 unfold al at h;simp only[ho]at h;split at h
 ·rename_i id off cs ti BE OR oo
  have run: ∀ {b:Nat} {cur:Array Value} {tb:TypeId},(st.ev x).cond→(st.ev y).cond→cs.length=ti.sz→off+cs.length≤cur.size→Ih cs=true→w.heap[b]? =some (.cells cur tb (0,0))→a.eval x=.pointer (some ⟨b,off,none⟩)→
    At B I w ρ cs (a.eval y).cells.toList∧(execOp a.eval o).run P w=.ok .skip (w.setRow b (cur.toList.take off++(a.eval y).cells.toList++cur.toList.drop (off+(a.eval y).cells.toList.length)).toArray):=by
   intro b cur tb c1 c2 hl hle h1 hh hx;have hv:=Pr ((hG.ev y).strip c2) OR;refine⟨hv,?_⟩;have BE:=run_storeCells_at (P:=P) b off tb (a.eval y).cells.toList 0 cur w hh (by rw[hv.1];omega) (hv.gI h1);have Bh:(a.eval y).cells.size=ti.sz:=by rw[←Array.length_toList,hv.1,hl]
   simp only[Nat.add_zero]at BE;simp[execOp,ho,Instr.storeAt,hx,Instr.sureAddr,storeVar,(hT _ _ oo).size w,Bh];rw[BE];simp[Bh]
  have XO: ∀ {b:Nat} {cur:Array Value} (c c':AH) (ρ1:Nat→Option Value),c.Rb off cs=some c'→off+cs.length≤c.len→c.len≤cur.size→At B I w ρ1 cs (a.eval y).cells.toList→(∀b',I b'→b'≠b)→
    (∀j u,j<c.len→cur[j]? =some u→AL B I w ρ1 (c.at j) u)→
    ∀j u,j<c.len→((cur.toList.take off++(a.eval y).cells.toList++cur.toList.drop (off+(a.eval y).cells.toList.length)).toArray)[j]? =some u→AL B I (w.setRow b (cur.toList.take off++(a.eval y).cells.toList++cur.toList.drop (off+(a.eval y).cells.toList.length)).toArray) ρ1 (c'.at j) u:=by
   intro b cur c c' ρ1 Pf hle HR hv hI hold j u hj hu;obtain⟨_,s2,s3⟩:=AH.Ko Pf hle;rw[VU cur off _ (by rw[hv.1];omega) j Zo]at hu;injection hu with hu;refine AL.same (w:=w) ?_ (fun b' Ux=>Di w b b' _ (Ne.symm (hI b' Ux)));subst hu;split
   ·rename_i JO;rw[hv.1]at JO;have:=hv.2 (j - off) Zo;rw[←s2 (j - off) Zo,show off+(j - off)=j from by omega]at this;exact this
   ·rename_i zH;rw[hv.1]at zH;rw[s3 j hj Zo];exact hold j _ hj (by simp[Zag,show j<cur.size by omega])
  split at h
  ·rename_i tb c hk;split at h
   ·rename_i c' Pf;obtain⟨⟨c1,c2,hl,hle,h1,hd⟩,hK⟩:=h;have hc:=(hG.ev x).strip c1;rw[BE]at hc;generalize XP:a.eval x=xv at hc;cases hc with
    |p _ _ b xx hr hb=>
     obtain⟨y',F9,Ae⟩:=hG.hw.ok id _ hk;rw[hr]at F9;injection F9 with F9;subst F9
     have wS:=Ae;obtain⟨b',us,rfl,hB,hh,Bh,FE⟩:=Ae;simp[Ab]at hb;subst hb
     obtain⟨hv,B1⟩:=run c1 c2 hl Zo h1 hh XP;unfold Oper.wp;rw[B1,Oper.upon_skip,hd];obtain⟨s1,_,_⟩:=AH.Ko Pf hle;have hI: ∀b1,I b1→b1≠b':=fun b1 h1 e=>by subst e;exact hG.hw.J2 id _ _ _ hk hr rfl h1
     refine hn _ _ _ hK ⟨ρ,I,hG.store hk hr ?_ (G5 (Below.refl _ _) hB _) (fun b1 Jy=>Di w _ _ _ (fun e=>Jy (by rw[e];rfl)))⟩;refine⟨b',_,rfl,hB,IG w b' _ us tb hh,by simp;rw[s1,←Bh];have:=hv.1;simp at this;omega,fun j u hu=>?_⟩
     have hj:j<c.len:=by
      have:=(Array.getElem?_eq_some_iff.1 hu).1;simp at this;have h3:=hv.1;simp at h3;omega
     exact XO c c' ρ Pf hle Zo hv hI (fun j u hj hu=>FE j u hu) j u hj hu
   ·exact h.elim
  ·rename_i e sz c hk;split at h
   ·rename_i c' Pf;obtain⟨⟨c1,c2,hl,hle,h1,HJ,hd⟩,hK⟩:=h;have hc:=(hG.ev x).strip c1;rw[BE]at hc;generalize XP:a.eval x=xv at hc;cases hc with
    |p _ _ b xx hr hb=>
     obtain⟨y',F9,Ae⟩:=hG.hw.ok id _ hk;rw[hr]at F9;injection F9 with F9;subst F9
     have wS:=Ae;obtain⟨m,xs,H3,hlen,FE⟩:=Ae;rcases H3.2 with ⟨rfl,_⟩|⟨g,cap,cur,rfl,hB,hh,ot,It,wT,TV⟩
     ·simp[Ab]at hb
     simp[Ab]at hb;subst hb
     have BW:m*sz≤cap*sz:=Nat.mul_le_mul_right _ ot;obtain⟨hv,B1⟩:=run c1 c2 hl Zo h1 hh XP;unfold Oper.wp;rw[B1,Oper.upon_skip,hd];obtain⟨s1,_,_⟩:=AH.Ko Pf hle;have hI: ∀b1,I b1→b1≠g:=fun b1 h1 e=>by subst e;exact hG.hw.J2 id _ _ _ hk hr rfl h1
     refine hn _ _ _ hK ⟨ρ,I,hG.store hk hr ?_ (G5 (Below.refl _ _) hB _) (fun b1 Jy=>Di w _ _ _ (fun e=>Jy (by rw[e];rfl)))⟩;have VE:=hv.1;simp at VE;have JM:(cur.toList.take off++(a.eval y).cells.toList++cur.toList.drop (off+(a.eval y).cells.toList.length)).toArray.size=cap*sz:=by simp;omega
     refine⟨m,_,⟨?_,.inr ⟨g,cap,_,rfl,hB,IG w g _ cur e hh,ot,It,JM,rfl⟩⟩,by rw[s1];exact hlen,fun j u hu=>?_⟩
     ·rw[List.length_take,Array.length_toList,JM];omega
     ·have hj:j<m*sz:=by
       have:=(List.getElem?_eq_some_iff.1 hu).1;rw[List.length_take]at this;omega
      rw[List.getElem?_take_of_lt hj]at hu;refine XO c c' DW Pf hle Zo (hv.F5 HJ) hI (fun j u hj hu=>FE j u ?_) j u Zo (by simpa using hu);rw[←TV,List.getElem?_take_of_lt Zo];simpa using hu
   ·exact h.elim
  ·rename_i e c hk;split at h
   ·rename_i c' Pf;obtain⟨⟨c1,c2,hl,hle,h1,hd⟩,hK⟩:=h;have hc:=(hG.ev x).strip c1;rw[BE]at hc;generalize XP:a.eval x=xv at hc;cases hc with
    |p _ _ b xx hr hb=>
     obtain⟨y',F9,Ae⟩:=hG.hw.ok id _ hk;rw[hr]at F9;injection F9 with F9;subst F9
     have wS:=Ae;obtain⟨m,xs,H3,hlen,FE⟩:=Ae;rcases H3.2 with ⟨rfl,_⟩|⟨g,cap,cur,rfl,hB,hh,ot,It,wT,TV⟩
     ·simp[Ab]at hb
     simp[Ab]at hb;subst hb
     have BW:m*1≤cap*1:=Nat.mul_le_mul_right _ ot;obtain⟨hv,B1⟩:=run c1 c2 hl Zo h1 hh XP;unfold Oper.wp;rw[B1,Oper.upon_skip,hd];obtain⟨s1,_,_⟩:=AH.Ko Pf hle;have hI: ∀b1,I b1→b1≠g:=fun b1 h1 e=>by subst e;exact hG.hw.J2 id _ _ _ hk hr rfl h1
     refine hn _ _ _ hK ⟨ρ,I,hG.store hk hr ?_ (G5 (Below.refl _ _) hB _) (fun b1 Jy=>Di w _ _ _ (fun e=>Jy (by rw[e];rfl)))⟩;have VE:=hv.1;simp at VE;have JM:(cur.toList.take off++(a.eval y).cells.toList++cur.toList.drop (off+(a.eval y).cells.toList.length)).toArray.size=cap*1:=by simp;omega
     refine⟨m,_,⟨?_,.inr ⟨g,cap,_,rfl,hB,IG w g _ cur e hh,ot,It,JM,rfl⟩⟩,by rw[s1];exact hlen,fun j u hu=>?_⟩
     ·rw[List.length_take,Array.length_toList,JM];omega
     ·have hj:j<m*1:=by
       have:=(List.getElem?_eq_some_iff.1 hu).1;rw[List.length_take]at this;omega
      rw[List.getElem?_take_of_lt hj]at hu;refine XO c c' ρ Pf hle Zo hv hI (fun j u hj hu=>FE j u ?_) j u Zo (by simpa using hu);rw[←TV,List.getElem?_take_of_lt Zo];simpa using hu
   ·exact h.elim
  ·exact h.elim
  ·exact h.elim
  ·exact h.elim
 ·exact h.elim
end
end Go.Ad
