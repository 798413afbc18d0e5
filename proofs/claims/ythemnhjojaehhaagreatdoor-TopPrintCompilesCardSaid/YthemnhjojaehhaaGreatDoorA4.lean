/- Part of a proof. -/
import Derived.Test.YthemnhjojaehhaaGreatDoorA3
set_option linter.all false
namespace Go.Ad
open Go.RowKit
mutual
def AV.fresh:AV→Prop
 | .v _=>True
 | .s _=>False
 | .w _ _ _=>False
 | .p _ _=>False
 | .i fr c _ _ _=>fr=true∧ ∀e j,AV.fresh (c e j)
 | .q fr c _ _ _=>fr=true∧ ∀e j,AV.fresh (c e j)
 | .a cs=>AV.Ie cs
 | .t cs=>AV.Ie cs
 | .f _ cs=>AV.Ie cs
 | .g _ x=>AV.fresh x
 | .o=>True
 | .top=>True
def AV.Ie:List AV→Prop
 | []=>True
 |x::r=>AV.fresh x∧AV.Ie r
end
theorem IF: ∀ {cs:List AV} (_:AV.Ie cs) (j:Nat),(cs.getD j .top).fresh
 | [],_,_=>by simp[AV.fresh]
 |x::r,h,0=>by simpa using h.1
 |x::r,h,j+1=>by simpa using IF h.2 j
theorem AL.fresh{B:Nat}{I I':Nat→Prop}{w:World}{ρ:Nat→Option Value}{x:AV}{u:Value}(h:AL B I w ρ x u)(hf:x.fresh)(hI: ∀b,B≤b→I b→I' b):AL B I' w ρ x u:=by
 induction h with
 |v x=>exact .v x
 |s id x h h1=>rw[AV.fresh]at hf;exact hf.elim
 |w id off len cap A x h BW hA=>rw[AV.fresh]at hf;exact hf.elim
 |p id off b x h hb=>rw[AV.fresh]at hf;exact hf.elim
 |i fr c sz off len cap A u BW hA hc ih=>
  rw[AV.fresh]at hf;refine .i fr c sz off len cap A u BW (fun hl=>?_) (fun e f he zC=>ih e f he zC (hf.2 _ _));obtain⟨ad,h1,h2,h3,h4⟩:=hA hl;exact⟨ad,h1,hI _ (h3 hf.1) h2,h3,h4⟩
 |q fr c sz e f ad u h2 h3 Bf hc ih=>
  rw[AV.fresh]at hf;exact .q fr c sz e f ad u (hI _ (h3 hf.1) h2) h3 Bf (fun j hj=>ih j hj (hf.2 _ _))
 |a cs us hl h ih=>rw[AV.fresh]at hf;exact .a cs us hl fun j hj=>ih j hj (IF hf j)
 |t cs us hl h ih=>rw[AV.fresh]at hf;exact .t cs us hl fun j hj=>ih j hj (IF hf j)
 |f fn cs us hl h ih=>rw[AV.fresh]at hf;exact .f fn cs us hl fun j hj=>ih j hj (IF hf j)
 |g b x u h h0 ih=>rw[AV.fresh]at hf;exact .g b x u (fun hb=>ih hb hf) h0
 |o u h1=>exact .o u h1
 |top u=>exact .top u
mutual
def AV.un:AV→AV
 | .v x=>.v x
 | .s id=>.s id
 | .w id off len=>.w id off len
 | .p id off=>.p id off
 | .i _ c sz off len=>.i false (fun e j=>AV.un (c e j)) sz off len
 | .q _ c sz e j=>.q false (fun e j=>AV.un (c e j)) sz e j
 | .a cs=>.a (AV.VB cs)
 | .t cs=>.t (AV.VB cs)
 | .f fn cs=>.f fn (AV.VB cs)
 | .g b x=>.g b (AV.un x)
 | .o=>.o
 | .top=>.top
def AV.VB:List AV→List AV
 | []=> []
 |x::r=>AV.un x::AV.VB r
end
theorem GG(cs:List AV):(AV.VB cs).length=cs.length:=by
 induction cs with
 |nil=>rfl
 |cons x r ih=>simp[AV.VB,ih]
theorem GZ(cs:List AV)(j:Nat):(AV.VB cs).getD j .top=(cs.getD j .top).un:=by
 induction cs generalizing j with
 |nil=>simp[AV.VB,AV.un]
 |cons x r ih=>cases j with
  |zero=>simp[AV.VB]
  |succ j=>simpa[AV.VB]using ih j
theorem AL.un{B B':Nat}{I J:Nat→Prop}{w:World}{ρ:Nat→Option Value}{x:AV}{u:Value}(h:AL B I w ρ x u)(hI: ∀b,I b→J b):AL B' J w ρ x.un u:=by
 induction h with
 |v x=>rw[AV.un];exact .v x
 |s id x h h1=>rw[AV.un];exact .s id x h h1
 |w id off len cap A x h BW hA=>rw[AV.un];exact .w id off len cap A x h BW hA
 |p id off b x h hb=>rw[AV.un];exact .p id off b x h hb
 |i fr c sz off len cap A u BW hA hc ih=>
  rw[AV.un];refine .i _ _ sz off len cap A u BW (fun hl=>?_) (fun e f he hf=>ih e f he hf);obtain⟨ad,h1,h2,_,h4⟩:=hA hl;exact⟨ad,h1,hI _ h2,(fun h=>by cases h),h4⟩
 |q fr c sz e f ad u h2 h3 Bf hc ih=>
  rw[AV.un];exact .q _ _ sz e f ad u (hI _ h2) (fun h=>by cases h) Bf (fun j hj=>ih j hj)
 |a cs us hl h ih=>rw[AV.un];exact .a _ us (by rw[GG];exact hl) fun j hj=>by rw[GZ];exact ih j (by rwa [GG]at hj)
 |t cs us hl h ih=>rw[AV.un];exact .t _ us (by rw[GG];exact hl) fun j hj=>by rw[GZ];exact ih j (by rwa [GG]at hj)
 |f fn cs us hl h ih=>rw[AV.un];exact .f fn _ us (by rw[GG];exact hl) fun j hj=>by rw[GZ];exact ih j (by rwa [GG]at hj)
 |g b x u h h0 ih=>rw[AV.un];exact .g b _ u (fun hb=>ih hb) h0
 |o u h1=>rw[AV.un];exact .o u h1
 |top u=>rw[AV.un];exact .top u
def cu:Bool→(Nat→Nat→AV)→Nat→Nat→AV
 |true,c=>c
 |false,c=>fun e j=>(c e j).un
theorem Zm{B B':Nat}{I J:Nat→Prop}{w:World}{fl:Bool}{c:Nat→Nat→AV}{e j:Nat}{u:Value}(hB:fl=true→B'≤B)(tJ: ∀b,I b→J b)(h:AL B I w DW (c e j) u):AL B' J w DW (cu fl c e j) u:=by
 cases fl with
 |true=>exact h.mono (hB rfl) (fun b hb=>⟨tJ b hb,rfl⟩) _ (fun _ _ h=>h)
 |false=>exact h.un tJ
def AV.IA(fl:Bool)(H:List (Nat×AN)):Nat→AV→AV
 |0,_=>.top
 |n+1,x=>match x with
  | .v y=>.v y
  | .s id=>match Af H id with
   |some (.row _ sz (.ints k l))=>if sz=1 then .i fl (fun e _=>.v (.int k (l.getD e 0))) 1 0 l.length else .top
   |some (.row _ sz (.BJ l))=>if 0<sz then .i fl (fun e j=>.v (l.getD (e*sz+j) undef)) sz 0 (l.length / sz)else .top
   |some (.row _ sz (.AF l))=>if 0<sz then .i fl (fun e j=>AV.IA fl H n (l.getD (e*sz+j) .top)) sz 0 (l.length / sz)else .top
   |some (.FD _ c)=>.i fl (fun e _=>AV.IA fl H n (c.at e)) 1 0 c.len
   |_=>.top
  | .w id off len=>match Af H id with
   |some (.row _ sz (.ints k l))=>if sz=1∧off+len≤l.length then .i fl (fun e _=>.v (.int k (l.getD e 0))) 1 off len else .top
   |_=>.top
  | .p id off=>match Af H id with
   |some blk=>.q fl (fun _ j=>AV.IA fl H n (blk.cont.at j)) blk.cont.len 0 off
   |none=>.top
  | .i fr c sz off len=>.i (fr&&fl) (cu fl c) sz off len
  | .q fr c sz e j=>.q (fr&&fl) (cu fl c) sz e j
  | .a cs=>.a (cs.map (AV.IA fl H n))
  | .t cs=>.t (cs.map (AV.IA fl H n))
  | .f fn cs=>.f fn (cs.map (AV.IA fl H n))
  | .g b y=>.g b (AV.IA fl H n y)
  | .o=>.o
  | .top=>.top
theorem CQ(fl:Bool)(H:List (Nat×AN))(n:Nat)(cs:List AV)(j:Nat)(hj:j<cs.length):(cs.map (AV.IA fl H n)).getD j .top=AV.IA fl H n (cs.getD j .top):=by
 simp[Zlg,hj]
def G4(w:World):Nat→Prop:=fun b=>b<w.heap.size
theorem KA{B B':Nat}{J:Nat→Prop}{fl:Bool}{w:World}{x:Value}{e:TypeId}{sz m:Nat}{xs:List Value}(ho:w.ownsRow B e sz x m xs)(hB:fl=true→B'≤B)(hJ: ∀b,B≤b→b<w.heap.size→J b)(c:Nat→Nat→AV)
  (hc: ∀el j,el<m→j<sz→AL B' J w DW (c el j) (xs.getD (el*sz+j) undef)):AL B' J w DW (.i fl c sz 0 m) x:=by
 rcases ho.2 with ⟨rfl,rfl⟩|⟨g,cap,cur,rfl,yI,hg,uR,_⟩
 ·exact .i _ _ _ _ _ _ _ (fun _ _=>undef) Zo (fun hp=>by omega) (fun e f he=>by omega)
 ·refine .i _ _ _ _ _ _ _ (fun el j=>xs.getD (el*sz+j) undef) uR (fun hp=>⟨_,rfl,hJ g yI (Array.getElem?_eq_some_iff.1 hg).1,(fun h=>Nat.le_trans (hB h) yI),fun el j he hj=>?_⟩) (fun el j he hj=>by rw[Nat.zero_add];exact hc el j he hj)
  have Ak:el*sz+j<xs.length:=by
   rw[ho.1];have:(el+1)*sz≤m*sz:=Nat.mul_le_mul_right _ he;rw[Nat.add_mul,Nat.one_mul]at this;omega
  exact ho.cells rfl _ _ (by simp[Zlg,Ak])
theorem EW{m sz el j:Nat}(he:el<m)(hj:j<sz):el*sz+j<m*sz:=by
 have:(el+1)*sz≤m*sz:=Nat.mul_le_mul_right _ he;rw[Nat.add_mul,Nat.one_mul]at this;omega
theorem gE{B B':Nat}{I J:Nat→Prop}{w:World}{ρ:Nat→Option Value}{H:List (Nat×AN)}(fl:Bool)(hw:HW B I w ρ H)(hB:fl=true→B'≤B)(tJ: ∀b,I b→J b)(hJ: ∀b,B≤b→b<w.heap.size→J b): ∀(n:Nat) {ρ':Nat→Option Value} {x:AV} {u:Value},(ρ'=ρ∨ρ'=DW)→AL B I w ρ' x u→AL B' J w DW (AV.IA fl H n x) u:=by
 intro n;induction n with
 |zero=>intro ρ' x u _ h;exact .top u
 |succ n ih=>
  intro ρ' x u hρ h;cases h with
  |v=>exact .v _
  |s id _ h h1=>
   rcases hρ with rfl|rfl
   ·simp only[AV.IA];split
    ·rename_i e sz k l hk;split
     ·rename_i Bh;subst Bh
      obtain⟨x',CP,m,xs,ho,hl,hc⟩:=hw.ok _ _ hk;rw[h]at CP;injection CP with CP;subst CP
      simp only[AH.len,Nat.mul_one]at hl;rw[hl];refine KA ho hB hJ _ (fun el j he hj=>?_);have kg:j=0:=Zo
      subst kg;rw[Nat.mul_one,Nat.add_zero];have Ak:el<xs.length:=by rw[ho.1];omega
      have:=hc el xs[el] (by simp[Ak]);have e2:xs.getD el undef=xs[el]:=by simp[Zlg,Ak]
      rw[e2,this.Ao];exact .v _
     ·exact .top _
    ·rename_i e sz l hk;split
     ·rename_i Bh;obtain⟨x',CP,m,xs,ho,hl,hc⟩:=hw.ok _ _ hk;rw[h]at CP;injection CP with CP;subst CP
      simp only[AH.len]at hl;rw[hl,Nat.mul_div_cancel _ Bh];refine KA ho hB hJ _ (fun el j he hj=>?_);have Ak:el*sz+j<xs.length:=by rw[ho.1];exact EW he hj
      have:=hc (el*sz+j) xs[el*sz+j] (by simp[Ak]);have e2:xs.getD (el*sz+j) undef=xs[el*sz+j]:=by simp[Zlg,Ak]
      rw[e2,this.Ao];exact .v _
     ·exact .top _
    ·rename_i e sz l hk;split
     ·rename_i Bh;obtain⟨x',CP,m,xs,ho,hl,hc⟩:=hw.ok _ _ hk;rw[h]at CP;injection CP with CP;subst CP
      simp only[AH.len]at hl;rw[hl,Nat.mul_div_cancel _ Bh];refine KA ho hB hJ _ (fun el j he hj=>?_);have Ak:el*sz+j<xs.length:=by rw[ho.1];exact EW he hj
      have:=hc (el*sz+j) xs[el*sz+j] (by simp[Ak]);have e2:xs.getD (el*sz+j) undef=xs[el*sz+j]:=by simp[Zlg,Ak]
      rw[e2];exact ih (.inr rfl) this
     ·exact .top _
    ·rename_i e c hk;obtain⟨x',CP,m,xs,ho,hl,hc⟩:=hw.ok _ _ hk;rw[h]at CP;injection CP with CP;subst CP
     rw[Nat.mul_one]at hl;rw[hl];refine KA ho hB hJ _ (fun el j he hj=>?_);have kg:j=0:=Zo
     subst kg;rw[Nat.mul_one,Nat.add_zero];have Ak:el<xs.length:=by rw[ho.1];omega
     have:=hc el xs[el] (by simp[Ak]);have e2:xs.getD el undef=xs[el]:=by simp[Zlg,Ak]
     rw[e2];exact ih (.inl rfl) this
    ·exact .top _
   ·cases h
  |w id off len cap A x h BW hA=>
   rcases hρ with rfl|rfl
   ·simp only[AV.IA];split
    ·rename_i e sz k l hk;split
     ·rename_i Bh;obtain⟨Bh,hol⟩:=Bh;subst Bh
      obtain⟨x',CP,m,xs,ho,hl,hc⟩:=hw.ok _ _ hk;rw[h]at CP;injection CP with CP;subst CP
      simp only[AH.len,Nat.mul_one]at hl;refine .i _ _ _ _ _ _ _ (fun el _=>.int k (l.getD (off+el) 0)) BW (fun hp=>?_) (fun e f he hf=>.v _);obtain⟨b,hb,rfl⟩:=hA hp;rw[Bj ho]at hb;refine⟨_,rfl,hJ b (ho.lt b hb).1 (ho.lt b hb).2,(fun h=>Nat.le_trans (hB h) (ho.lt b hb).1),fun el j he hj=>?_⟩;have kg:j=0:=Zo
      subst kg;rw[Nat.mul_one,Nat.add_zero,By];have Ak:off+el<xs.length:=by rw[ho.1];omega
      have h2:=ho.cells hb (off+el) xs[off+el] (by simp[Ak]);have h3:=hc (off+el) xs[off+el] (by simp[Ak]);rw[By,Nat.zero_add]at h2;rw[h2,h3.Ao]
     ·exact .top _
    ·exact .top _
   ·cases h
  |p id off b x h hb=>
   rcases hρ with rfl|rfl
   ·simp only[AV.IA];split
    ·rename_i blk hk;have key: ∀j,off+j<blk.cont.len→ ∃u,w.cell? ⟨b,off+j,none⟩=some u∧AL B I w ρ' (blk.cont.at (off+j)) u:=fun j hj=>hw.cell hk h hb hj
     have hu: ∃f:Nat→Value,∀j,off+j<blk.cont.len→w.cell? ⟨b,off+j,none⟩=some (f j)∧AL B I w ρ' (blk.cont.at (off+j)) (f j):=
      ⟨fun j=>if hj:off+j<blk.cont.len then Classical.choose (key j hj)else undef,fun j hj=>by simp only[hj,dif_pos];exact Classical.choose_spec (key j hj)⟩
     obtain⟨f,hf⟩:=hu;obtain⟨x',CP,Ae⟩:=hw.ok _ _ hk;rw[h]at CP;injection CP with CP;subst CP
     exact .q _ _ _ _ _ ⟨b,off,none⟩ f (hJ b (Ae.lt hb).1 (Ae.lt hb).2) (fun h=>Nat.le_trans (hB h) (Ae.lt hb).1) (fun j hj=>by rw[By];exact(hf j hj).1) (fun j hj=>ih (.inl rfl) (hf j hj).2)
    ·exact .top _
   ·cases h
  |i fr c sz off len cap A u BW hA hc=>
   refine .i _ _ _ _ _ _ _ u BW (fun hl=>?_) (fun e f he hf=>Zm hB tJ (hc e f he hf));obtain⟨ad,h1,h2,h3,h4⟩:=hA hl;exact⟨ad,h1,tJ _ h2,(fun h=>by simp only[Zba]at h;exact Nat.le_trans (hB h.2) (h3 h.1)),h4⟩
  |q fr c sz e f ad u h2 h3 Bf hc=>
   exact .q _ _ _ _ _ ad u (tJ _ h2) (fun h=>by simp only[Zba]at h;exact Nat.le_trans (hB h.2) (h3 h.1)) Bf (fun j hj=>Zm hB tJ (hc j hj))
  |a cs us hl h=>exact .a _ us (by simpa using hl) fun j hj=>by rw[List.length_map]at hj;rw[CQ _ _ _ _ _ hj];exact ih hρ (h j hj)
  |t cs us hl h=>exact .t _ us (by simpa using hl) fun j hj=>by rw[List.length_map]at hj;rw[CQ _ _ _ _ _ hj];exact ih hρ (h j hj)
  |f fn cs us hl h=>exact .f fn _ us (by simpa using hl) fun j hj=>by rw[List.length_map]at hj;rw[CQ _ _ _ _ _ hj];exact ih hρ (h j hj)
  |g b x _ h h0=>exact .g b _ _ (fun hb=>ih hρ (h hb)) h0
  |o _ h1=>exact .o _ h1
  |top=>exact .top _
def Pure(P:Program)(f:FuncId)(args:List AV)(r:AV):Prop:=
 (∃fn,P.funcs[f]? =some fn∧(fn.name== "runtime.NumGoroutine")=false∧fn.body.isNone=false)∧
 ∀(w:World) (I:Nat→Prop) (vs:Array Value),Xt I w→(∀b,I b→b<w.heap.size)→At w.heap.size I w DW args vs.toList→
  Calls P f vs w fun e w'=> ∃v,e=.returned v∧Below w.heap.size w w'∧AL w.heap.size (fun b=>I b∨(w.heap.size≤b∧b<w'.heap.size)) w' DW r v
def Jq(ρ:Nat→Option Value)(d:Nat)(x:Value):Nat→Option Value:=fun id=>if id=d then some x else ρ id
theorem B4(ρ:Nat→Option Value)(d:Nat)(x:Value):Jq ρ d x d=some x:=if_pos rfl
theorem D5(ρ:Nat→Option Value)(d:Nat)(x:Value){id:Nat}(h:id≠d):Jq ρ d x id=ρ id:=if_neg h
def AJ(d:Nat):List (Nat×AN)→List (Nat×AN)
 | []=> []
 |(k,b)::r=>if k=d then AJ d r else(k,b.kill d)::AJ d r
def CM(d:Nat):List (Nat×AV)→List (Nat×AV)
 | []=> []
 |(k,x)::r=>(k,x.kill d)::CM d r
def Dh(d:Nat):List (Nat×AN)→List (Nat×AN)
 | []=> []
 |(k,b)::r=>if k=d then Dh d r else(k,b)::Dh d r
theorem gF(d:Nat)(env:List (Nat×AV))(s:Nat):lk (CM d env) s=(lk env s).kill d:=by
 induction env with
 |nil=>simp[CM,lk,AV.kill]
 |cons p r ih=>
  obtain⟨k,x⟩:=p;simp only[CM,lk];split<;>simp_all
theorem NF(d:Nat)(H:List (Nat×AN))(id:Nat):Af (AJ d H) id=if id=d then none else(Af H id).map (AN.kill d):=by
 induction H with
 |nil=>simp[AJ,Af]
 |cons p r ih=>
  obtain⟨k,b⟩:=p;simp only[AJ,Af];by_cases hk:k=d
  ·subst hk;rw[if_pos rfl,ih];by_cases hi:id=k
   ·simp[hi]
   ·rw[if_neg hi,if_neg hi,if_neg (Ne.symm hi)]
  ·rw[if_neg hk];simp only[Af];by_cases hi:k=id
   ·subst hi;rw[if_pos rfl,if_neg hk,if_pos rfl];rfl
   ·rw[if_neg hi,if_neg hi,ih]
theorem KB(d:Nat)(H:List (Nat×AN))(id:Nat):Af (Dh d H) id=if id=d then none else Af H id:=by
 induction H with
 |nil=>simp[Dh,Af]
 |cons p r ih=>
  obtain⟨k,b⟩:=p;simp only[Dh,Af];by_cases hk:k=d
  ·subst hk;rw[if_pos rfl,ih];by_cases hi:id=k
   ·simp[hi]
   ·rw[if_neg hi,if_neg hi,if_neg (Ne.symm hi)]
  ·rw[if_neg hk];simp only[Af];by_cases hi:k=id
   ·subst hi;rw[if_pos rfl,if_neg hk,if_pos rfl]
   ·rw[if_neg hi,if_neg hi,ih]
theorem Db.Ps{B:Nat}{I:Nat→Prop}{w:World}{ρ ρ':Nat→Option Value}{x:Value}{blk:AN}(h:Db B I w ρ x blk)(d:Nat)(hρ: ∀id,id≠d→ρ' id=ρ id):Db B I w ρ' x (blk.kill d):=by
 cases blk with
 |box t c=>
  obtain⟨b,us,rfl,hB,hh,hl,hc⟩:=h;exact⟨b,us,rfl,hB,hh,by rw[AH.Pk];exact hl,fun j u hu=>by rw[AH.Tb];exact(hc j u hu).kill d _ hρ⟩
 |row e sz c=>exact h
 |mp c=>exact h
 |DN kd ks c=>
  obtain⟨b,BJ,rfl,hB,hm,hl,C0,hc⟩:=h;exact⟨b,BJ,rfl,hB,hm,hl,by rw[AH.Pk];exact C0,fun j u hu=>by rw[AH.Tb];exact(hc j u hu).kill d _ hρ⟩
 |FD e c=>
  obtain⟨n,xs,ho,hl,hc⟩:=h;exact⟨n,xs,ho,by rw[AH.Pk];exact hl,fun j u hu=>by rw[AH.Tb];exact(hc j u hu).kill d _ hρ⟩
theorem HW.replace{B:Nat}{I:Nat→Prop}{w w':World}{ρ:Nat→Option Value}{H H0:List (Nat×AN)}(h:HW B I w ρ H)(Ct: ∀id blk,Af H0 id=some blk→Af H id=some blk)(d:Nat)(x:Value)(blk:AN)
  (hx:Db B I w' (Jq ρ d x) x blk) (Bh:w.heap.size≤w'.heap.size)
  (Uw: ∀b,I b→w'.heap[b]? =w.heap[b]?)
  (FK: ∀id blk y b,id≠d→Af H0 id=some blk→ρ id=some y→Ab y=some b→w'.heap[b]? =w.heap[b]?)
  (ou: ∀id blk y b,id≠d→Af H0 id=some blk→ρ id=some y→Ab y=some b→Ab x≠some b)
  (zE: ∀b,Ab x=some b→ ¬I b):HW B I w' (Jq ρ d x) ((d,blk)::AJ d H0):=by
 have look: ∀id blk',Af ((d,blk)::AJ d H0) id=some blk'→(id=d∧blk'=blk)∨(id≠d∧ ∃b0,Af H0 id=some b0∧blk'=b0.kill d):=by
  intro id blk' hk;simp only[Af]at hk;by_cases e:d=id
  ·rw[if_pos e]at hk;injection hk with hk;exact .inl ⟨e.symm,hk.symm⟩
  ·rw[if_neg e,NF,if_neg (Ne.symm e)]at hk;cases h0:Af H0 id with
   |none=>rw[h0]at hk;cases hk
   |some b0=>rw[h0]at hk;injection hk with hk;exact .inr ⟨Ne.symm e,b0,rfl,hk.symm⟩
 refine⟨fun id blk' hk=>?_,fun id id' b1 b2 y y' b CD h1 h2 hy F9 hb=>?_,fun id blk' y b hk hy hb=>?_,fun b hb=>Nat.lt_of_lt_of_le (h.lt b hb) Bh⟩
 ·rcases look id blk' hk with ⟨rfl,rfl⟩|⟨CD,b0,h0,rfl⟩
  ·exact⟨x,B4 _ _ _,hx⟩
  ·obtain⟨y,hy,Ae⟩:=h.ok id b0 (Ct _ _ h0);refine⟨y,by rw[D5 _ _ _ CD];exact hy,?_⟩;have h2:=Ae.move (I':=I) (w':=w') (ρ':=ρ) (fun b hb=>FK id b0 y b CD h0 hy hb) (fun b hb=>⟨hb,Uw b hb⟩) (fun _ _ h=>h);exact h2.Ps d (fun id hid=>D5 _ _ _ hid)
 ·rcases look id b1 h1 with ⟨rfl,rfl⟩|⟨RI,c1,J5,rfl⟩
  ·rcases look id' b2 h2 with ⟨rfl,rfl⟩|⟨LK,c2,Ok,rfl⟩
   ·exact absurd rfl CD
   ·rw[B4]at hy;injection hy with hy;subst hy
    rw[D5 _ _ _ LK]at F9;intro Ux;exact ou id' c2 y' b LK Ok F9 Ux hb
  ·rw[D5 _ _ _ RI]at hy;rcases look id' b2 h2 with ⟨rfl,rfl⟩|⟨LK,c2,Ok,rfl⟩
   ·rw[B4]at F9;injection F9 with F9;subst F9
    exact ou id c1 y b RI J5 hy hb
   ·rw[D5 _ _ _ LK]at F9;exact h.apart id id' c1 c2 y y' b CD (Ct _ _ J5) (Ct _ _ Ok) hy F9 hb
 ·rcases look id blk' hk with ⟨rfl,rfl⟩|⟨CD,b0,h0,rfl⟩
  ·rw[B4]at hy;injection hy with hy;subst hy;exact zE b hb
  ·rw[D5 _ _ _ CD]at hy;exact h.J2 id b0 y b (Ct _ _ h0) hy hb
theorem B3.replace{n B:Nat}{w0:AT}{st:St}{a:Act}{w w':World}{ρ:Nat→Option Value}{I:Nat→Prop}(h:B3 n B w0 st a w ρ I){H0:List (Nat×AN)}(Ct: ∀id blk,Af H0 id=some blk→Af st.heap id=some blk)(d:Nat)(x:Value)(blk:AN)
  (hx:Db B I w' (Jq ρ d x) x blk) (Jo:Below B w w')
  (Uw: ∀b,I b→w'.heap[b]? =w.heap[b]?)
  (FK: ∀id blk y b,id≠d→Af H0 id=some blk→ρ id=some y→Ab y=some b→w'.heap[b]? =w.heap[b]?)
  (ou: ∀id blk y b,id≠d→Af H0 id=some blk→ρ id=some y→Ab y=some b→Ab x≠some b)
  (zE: ∀b,Ab x=some b→ ¬I b) (qD:w0.gh d=none):B3 n B w0 ⟨CM d st.env,(d,blk)::AJ d H0⟩ a w' (Jq ρ d x) I:=
 ⟨h.defers.mono (fun b hb=>⟨hb,Uw b hb⟩),h.size,fun s=>by
   show AL B I w' (Jq ρ d x) (lk (CM d st.env) s) _;rw[gF];exact((h.env s).kill d _ (fun id hid=>D5 _ _ _ hid)).same Uw,
  h.hw.replace Ct d x blk hx Jo.size Uw FK ou zE,h.below.trans Jo,Nat.le_trans h.base Jo.size,⟨h.BQ.up,fun id y hy=>by
   by_cases e:id=d
   ·rw[e,qD]at hy;cases hy
   ·rw[D5 _ _ _ e];exact h.BQ.gh id y hy,h.BQ.JQ,fun b hb=>⟨(h.BQ.B2 b hb).1,by rw[Uw b (h.BQ.B2 b hb).1];exact(h.BQ.B2 b hb).2⟩⟩⟩
theorem B3.new{n B:Nat}{w0:AT}{st:St}{a:Act}{w w1:World}{ρ:Nat→Option Value}{I:Nat→Prop}(h:B3 n B w0 st a w ρ I)(hb:Below w.heap.size w w1)(d:Nat)(x:Value)(blk:AN)
  (hx:Db B I w1 (Jq ρ d x) x blk) (JL: ∀b,Ab x=some b→w.heap.size≤b) (qD:w0.gh d=none):B3 n B w0 ⟨CM d st.env,(d,blk)::AJ d st.heap⟩ a w1 (Jq ρ d x) I:=by
 have Ak: ∀id blk y b,Af st.heap id=some blk→ρ id=some y→Ab y=some b→b<w.heap.size:=fun id blk y b hk hy hb=>by
  obtain⟨y',F9,Ae⟩:=h.hw.ok id blk hk;rw[hy]at F9;injection F9 with F9;subst F9
  exact(Ae.lt hb).2
 exact h.replace (fun _ _ h=>h) d x blk hx (hb.mono h.base) (fun b hI=>hb.block b (h.hw.lt b hI)) (fun id blk y b _ hk hy hr=>hb.block b (Ak id blk y b hk hy hr))
  (fun id blk y b _ hk hy hr hxr=>by have:=Ak id blk y b hk hy hr;have:=JL b hxr;omega) (fun b hr hI=>by have:=JL b hr;have:=h.hw.lt b hI;omega) qD
theorem B3.store{n B:Nat}{w0:AT}{st:St}{a:Act}{w w':World}{ρ:Nat→Option Value}{I:Nat→Prop}(h:B3 n B w0 st a w ρ I){id:Nat}{blk blk':AN}{x:Value}(hk:Af st.heap id=some blk)(hx:ρ id=some x)
  (ZP:Db B I w' ρ x blk') (Jo:Below B w w') (FK: ∀b,Ab x≠some b→w'.heap[b]? =w.heap[b]?):B3 n B w0 ⟨st.env,(id,blk')::st.heap⟩ a w' ρ I:=by
 have lX: ∀b,I b→Ab x≠some b:=fun b hb hr=>h.hw.J2 id blk x b hk hx hr hb;refine⟨h.defers.mono (fun b hb=>⟨hb,FK b (lX b hb)⟩),h.size,fun s=>(h.env s).same (fun b hb=>FK b (lX b hb)),⟨fun id' b' F7=>?_,fun i1 i2 b1 b2 y1 y2 b CD h1 h2 wO hy2 hb=>?_,fun i1 b1 y b h1 hy hb=>?_,fun b hb=>Nat.lt_of_lt_of_le (h.hw.lt b hb) Jo.size⟩,h.below.trans Jo,Nat.le_trans h.base Jo.size,⟨h.BQ.up,h.BQ.gh,h.BQ.JQ,fun b hb=>⟨(h.BQ.B2 b hb).1,by rw[FK b (lX b (h.BQ.B2 b hb).1)];exact(h.BQ.B2 b hb).2⟩⟩⟩
 ·simp only[Af]at F7;by_cases e:id=id'
  ·subst e;rw[if_pos rfl]at F7;injection F7 with F7;subst F7;exact⟨x,hx,ZP⟩
  ·rw[if_neg e]at F7;obtain⟨y,hy,zF⟩:=h.hw.ok id' b' F7;exact⟨y,hy,zF.move (fun b hb=>FK b (fun hr=>h.hw.apart id id' blk b' x y b e hk F7 hx hy hr hb)) (fun b hb=>⟨hb,FK b (lX b hb)⟩) (fun _ _ h=>h)⟩
 ·have conv: ∀i b,Af ((id,blk')::st.heap) i=some b→ ∃b',Af st.heap i=some b':=fun i b hb=>by
   simp only[Af]at hb;by_cases e:id=i
   ·subst e;exact⟨blk,hk⟩
   ·rw[if_neg e]at hb;exact⟨b,hb⟩
  obtain⟨c1,J5⟩:=conv i1 b1 h1
  obtain⟨c2,Ok⟩:=conv i2 b2 h2
  exact h.hw.apart i1 i2 c1 c2 y1 y2 b CD J5 Ok wO hy2 hb
 ·simp only[Af]at h1;by_cases e:id=i1
  ·subst e;exact h.hw.J2 id blk y b hk hy hb
  ·rw[if_neg e]at h1;exact h.hw.J2 i1 b1 y b h1 hy hb
def AH.SK:AH→Nat→List AV→Option AH
 |c,_,[]=>some c
 |c,j,x::r=>match c.lQ j x with
  |some c'=>c'.SK (j+1) r
  |none=>none
theorem AH.Pt: ∀ {xs:List AV} {c c':AH} {j:Nat},c.SK j xs=some c'→j+xs.length≤c.len→
  c'.len=c.len∧(∀k,k<xs.length→c'.at (j+k)=xs.getD k .top)∧ ∀k,(k<j∨j+xs.length≤k)→c'.at k=c.at k
 | [],c,c',j,h,hl=>by simp[AH.SK]at h;subst h;exact⟨rfl,fun k hk=>by simp at hk,fun _ _=>rfl⟩
 |x::r,c,c',j,h,hl=>by
  simp only[AH.SK]at h;split at h
  ·rename_i c1 h1;simp at hl;obtain⟨a1,a2,a3⟩:=AH.fh h1 Zo;obtain⟨b1,b2,b3⟩:=AH.Pt h (by rw[a1];omega);refine⟨b1.trans a1,fun k hk=>?_,fun k hk=>?_⟩
   ·cases k with
    |zero=>rw[Nat.add_zero,b3 j Zo,a2];simp
    |succ k=>simp at hk;rw[show j+(k+1)=j+1+k from by omega,b2 k hk];simp
   ·simp at hk;rw[b3 k Zo,a3 k Zo]
  ·cases h
def AH.Rb(c:AH)(j:Nat)(xs:List AV):Option AH:=
 if 8<xs.length then(if j=0∧xs.length=c.len then some (.AF xs)else none)else c.SK j xs
theorem AH.Ko{xs:List AV}{c c':AH}{j:Nat}(h:c.Rb j xs=some c')(hl:j+xs.length≤c.len):
  c'.len=c.len∧(∀k,k<xs.length→c'.at (j+k)=xs.getD k .top)∧ ∀k,k<c.len→(k<j∨j+xs.length≤k)→c'.at k=c.at k:=by
 unfold AH.Rb at h;split at h
 ·split at h
  ·rename_i hh;injection h with h;subst h
   obtain⟨rfl,h2⟩:=hh;refine⟨by simpa[AH.len]using h2,fun k _=>by simp[AH.at],fun k hk El=>by omega⟩
  ·cases h
 ·obtain⟨h1,h2,h3⟩:=AH.Pt h hl;exact⟨h1,h2,fun k _=>h3 k⟩
mutual
def AV.F5:AV→Bool
 | .v _=>true
 | .s _=>false
 | .w _ _ _=>false
 | .p _ _=>false
 | .i _ _ _ _ _=>true
 | .q _ _ _ _ _=>true
 | .a cs=>AV.Dp cs
 | .t cs=>AV.Dp cs
 | .f _ cs=>AV.Dp cs
 | .g _ x=>AV.F5 x
 | .o=>true
 | .top=>true
def AV.Dp:List AV→Bool
 | []=>true
 |x::r=>AV.F5 x&&AV.Dp r
end
theorem GH: ∀ {cs:List AV} (_:AV.Dp cs=true) (j:Nat),(cs.getD j .top).F5=true
 | [],_,_=>by simp[AV.F5]
 |x::r,h,0=>by simp[AV.Dp]at h;simpa using h.1
 |x::r,h,j+1=>by simp[AV.Dp]at h;simpa using GH h.2 j
theorem AL.F5{B:Nat}{I:Nat→Prop}{w:World}{ρ:Nat→Option Value}{x:AV}{u:Value}(h:AL B I w ρ x u)(hf:x.F5=true):AL B I w DW x u:=by
 induction h with
 |v x=>exact .v x
 |s id x h h1=>simp[AV.F5]at hf
 |w id off len cap A x h BW hA=>simp[AV.F5]at hf
 |p id off b x h hb=>simp[AV.F5]at hf
 |i fr c sz off len cap A u BW hA hc ih=>exact .i fr c sz off len cap A u BW hA hc
 |q fr c sz e f ad u h2 h3 Bf hc ih=>exact .q fr c sz e f ad u h2 h3 Bf hc
 |a cs us hl h ih=>rw[AV.F5]at hf;exact .a cs us hl fun j hj=>ih j hj (GH hf j)
 |t cs us hl h ih=>rw[AV.F5]at hf;exact .t cs us hl fun j hj=>ih j hj (GH hf j)
 |f fn cs us hl h ih=>rw[AV.F5]at hf;exact .f fn cs us hl fun j hj=>ih j hj (GH hf j)
 |g b x u h h0 ih=>rw[AV.F5]at hf;exact .g b x u (fun hb=>ih hb hf) h0
 |o u h1=>exact .o u h1
 |top u=>exact .top u
end Go.Ad
