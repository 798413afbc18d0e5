/- Part of a proof. -/
import Derived.Test.YthemnhjojaehhaaGreatDoorA14
set_option linter.all false
namespace Go.Ad
open Go.RowKit
mutual
def AV.bd:AV→Nat
 | .v _=>0
 | .s id=>id+1
 | .w id _ _=>id+1
 | .p id _=>id+1
 | .i _ _ _ _ _=>0
 | .q _ _ _ _ _=>0
 | .a cs=>AV.mE cs
 | .t cs=>AV.mE cs
 | .f _ cs=>AV.mE cs
 | .g _ x=>AV.bd x
 | .o=>0
 | .top=>0
def AV.mE:List AV→Nat
 | []=>0
 |x::r=>max (AV.bd x) (AV.mE r)
end
mutual
theorem Tt{M:Nat}: ∀(x:AV),x.bd≤M→x.ids (· <M)
 | .v _,_=>by rw[AV.ids];trivial
 | .s id,h=>by rw[AV.bd]at h;rw[AV.ids];omega
 | .w id _ _,h=>by rw[AV.bd]at h;rw[AV.ids];omega
 | .p id _,h=>by rw[AV.bd]at h;rw[AV.ids];omega
 | .i _ _ _ _ _,_=>by rw[AV.ids];trivial
 | .q _ _ _ _ _,_=>by rw[AV.ids];trivial
 | .a cs,h=>by rw[AV.bd]at h;rw[AV.ids];exact MZ cs h
 | .t cs,h=>by rw[AV.bd]at h;rw[AV.ids];exact MZ cs h
 | .f _ cs,h=>by rw[AV.bd]at h;rw[AV.ids];exact MZ cs h
 | .g _ x,h=>by rw[AV.bd]at h;rw[AV.ids];exact Tt x h
 | .o,_=>by rw[AV.ids];trivial
 | .top,_=>by rw[AV.ids];trivial
theorem MZ{M:Nat}: ∀(l:List AV),AV.mE l≤M→AV.Av (· <M) l
 | [],_=>by rw[AV.Av];trivial
 |x::r,h=>by rw[AV.mE]at h;rw[AV.Av];exact⟨Tt x Zo,MZ r Zo⟩
end
def AN.bd:AN→Nat
 | .box _ (.AF l)=>AV.mE l
 | .FD _ (.AF l)=>AV.mE l
 | .DN _ _ (.AF l)=>AV.mE l
 |_=>0
theorem AN.Tt{M:Nat}{b:AN}(h:b.bd≤M):b.ids (· <M):=by
 unfold AN.bd at h;unfold AN.ids;split at h<;>first|exact MZ _ h|(split<;>first|trivial|(rename_i h1 _ _ _;exact absurd rfl (h1 _ _))|skip)
 all_goals simp_all
def x8:List (Nat×AN)→Nat
 | []=>0
 |(d,b)::r=>max (d+1) (max b.bd (x8 r))
theorem Zz{M:Nat}: ∀ {H:List (Nat×AN)},x8 H≤M→Bz (· <M) H
 | [],_=>trivial
 |(d,b)::r,h=>by simp only[x8]at h;exact⟨by show d<M;omega,AN.Tt Zo,Zz Zo⟩
mutual
theorem Vi{p q:Nat→Prop}(bR: ∀id,p id→q id): ∀(x:AV),x.ids p→x.ids q
 | .v _,_=>by rw[AV.ids];trivial
 | .s id,h=>by rw[AV.ids]at h ⊢;exact bR _ h
 | .w id _ _,h=>by rw[AV.ids]at h ⊢;exact bR _ h
 | .p id _,h=>by rw[AV.ids]at h ⊢;exact bR _ h
 | .i _ _ _ _ _,_=>by rw[AV.ids];trivial
 | .q _ _ _ _ _,_=>by rw[AV.ids];trivial
 | .a cs,h=>by rw[AV.ids]at h ⊢;exact Cw bR cs h
 | .t cs,h=>by rw[AV.ids]at h ⊢;exact Cw bR cs h
 | .f _ cs,h=>by rw[AV.ids]at h ⊢;exact Cw bR cs h
 | .g _ x,h=>by rw[AV.ids]at h ⊢;exact Vi bR x h
 | .o,_=>by rw[AV.ids];trivial
 | .top,_=>by rw[AV.ids];trivial
theorem Cw{p q:Nat→Prop}(bR: ∀id,p id→q id): ∀(l:List AV),AV.Av p l→AV.Av q l
 | [],_=>by rw[AV.Av];trivial
 |x::r,h=>by rw[AV.Av]at h ⊢;exact⟨Vi bR x h.1,Cw bR r h.2⟩
end
mutual
theorem Z0{p q:Nat→Prop}: ∀(x:AV),x.ids p→x.ids q→x.ids (fun id=>p id∧q id)
 | .v _,_,_=>by rw[AV.ids];trivial
 | .s id,h,g=>by rw[AV.ids]at h g ⊢;exact⟨h,g⟩
 | .w id _ _,h,g=>by rw[AV.ids]at h g ⊢;exact⟨h,g⟩
 | .p id _,h,g=>by rw[AV.ids]at h g ⊢;exact⟨h,g⟩
 | .i _ _ _ _ _,_,_=>by rw[AV.ids];trivial
 | .q _ _ _ _ _,_,_=>by rw[AV.ids];trivial
 | .a cs,h,g=>by rw[AV.ids]at h g ⊢;exact Hf cs h g
 | .t cs,h,g=>by rw[AV.ids]at h g ⊢;exact Hf cs h g
 | .f _ cs,h,g=>by rw[AV.ids]at h g ⊢;exact Hf cs h g
 | .g _ x,h,g=>by rw[AV.ids]at h g ⊢;exact Z0 x h g
 | .o,_,_=>by rw[AV.ids];trivial
 | .top,_,_=>by rw[AV.ids];trivial
theorem Hf{p q:Nat→Prop}: ∀(l:List AV),AV.Av p l→AV.Av q l→AV.Av (fun id=>p id∧q id) l
 | [],_,_=>by rw[AV.Av];trivial
 |x::r,h,g=>by rw[AV.Av]at h g ⊢;exact⟨Z0 x h.1 g.1,Hf r h.2 g.2⟩
end
mutual
theorem AL.YI{N k B:Nat}{I:Nat→Prop}{w:World}{ρ1 ρ2:Nat→Option Value}{p:Nat→Prop}(hr: ∀id,p id→ρ2 id=ρ1 (Sa N k id)): ∀(x:AV) {u:Value},x.ids p→AL B I w ρ1 (x.mv N k) u→AL B I w ρ2 x u
 | .v y,u,_,h=>by rw[AV.mv]at h;obtain rfl:=h.Ao;exact .v _
 | .s id,u,hi,h=>by
  rw[AV.mv]at h;rw[AV.ids]at hi
  cases h with
  |s _ _ h1 h2=>exact .s _ _ (by rw[hr id hi];exact h1) h2
 | .w id off len,u,hi,h=>by
  rw[AV.mv]at h;rw[AV.ids]at hi
  cases h with
  |w _ _ _ cap A x h1 BW hA=>exact .w _ _ _ cap A x (by rw[hr id hi];exact h1) BW hA
 | .p id off,u,hi,h=>by
  rw[AV.mv]at h;rw[AV.ids]at hi
  cases h with
  |p _ _ b x h1 hb=>exact .p _ _ b x (by rw[hr id hi];exact h1) hb
 | .i fr c sz off len,u,_,h=>by
  rw[AV.mv]at h;cases h with
  |i _ _ _ _ _ cap A u BW hA hc=>exact .i _ _ _ _ _ cap A u BW hA hc
 | .q fr c sz e f,u,_,h=>by
  rw[AV.mv]at h;cases h with
  |q _ _ _ _ _ ad u h2 h3 Bf hc=>exact .q _ _ _ _ _ ad u h2 h3 Bf hc
 | .a cs,u,hi,h=>by
  rw[AV.mv]at h;rw[AV.ids]at hi
  cases h with
  |a _ us hl h=>exact .a _ us (by rw[CJ]at hl;exact hl) fun j hj=>Z1 hr cs hi us (fun j hj=>h j (by rw[CJ];exact hj)) j hj
 | .t cs,u,hi,h=>by
  rw[AV.mv]at h;rw[AV.ids]at hi
  cases h with
  |t _ us hl h=>exact .t _ us (by rw[CJ]at hl;exact hl) fun j hj=>Z1 hr cs hi us (fun j hj=>h j (by rw[CJ];exact hj)) j hj
 | .f fn cs,u,hi,h=>by
  rw[AV.mv]at h;rw[AV.ids]at hi
  cases h with
  |f _ _ us hl h=>exact .f _ _ us (by rw[CJ]at hl;exact hl) fun j hj=>Z1 hr cs hi us (fun j hj=>h j (by rw[CJ];exact hj)) j hj
 | .g b x,u,hi,h=>by
  rw[AV.mv]at h;rw[AV.ids]at hi
  cases h with
  |g _ _ _ h h0=>exact .g _ _ _ (fun hb=>AL.YI hr x hi (h hb)) h0
 | .o,u,_,h=>by rw[AV.mv]at h;cases h with|o _ h1=>exact .o _ h1
 | .top,u,_,_=>.top _
theorem Z1{N k B:Nat}{I:Nat→Prop}{w:World}{ρ1 ρ2:Nat→Option Value}{p:Nat→Prop}(hr: ∀id,p id→ρ2 id=ρ1 (Sa N k id)): ∀(cs:List AV),AV.Av p cs→ ∀(us:Array Value),(∀j,j<cs.length→AL B I w ρ1 ((AV.mv.QA N k cs).getD j .top) (us.getD j undef))→ ∀j,j<cs.length→AL B I w ρ2 (cs.getD j .top) (us.getD j undef)
 | [],_,us,_,j,hj=>by simp at hj
 |x::r,hi,us,h,0,hj=>by
  rw[AV.Av]at hi;have:=h 0 hj;simp only[AV.mv.QA,List.getD_cons_zero]at this ⊢;exact AL.YI hr x hi.1 this
 |x::r,hi,us,h,j+1,hj=>by
  rw[AV.Av]at hi
  have h1:=Z1 hr r hi.2 ((us.toList.drop 1).toArray) (fun i HH=>by
   have:=h (i+1) (by simpa using HH);simp only[AV.mv.QA,List.getD_cons_succ]at this;have e:((us.toList.drop 1).toArray).getD i undef=us.getD (i+1) undef:=by simp[Zag]
   rw[e];exact this) j (by simpa using hj)
  have e:((us.toList.drop 1).toArray).getD j undef=us.getD (j+1) undef:=by simp[Zag]
  rw[e]at h1;simpa using h1
end
theorem Db.YI{N k B:Nat}{I:Nat→Prop}{w:World}{ρ1 ρ2:Nat→Option Value}{p:Nat→Prop}(hr: ∀id,p id→ρ2 id=ρ1 (Sa N k id)){x:Value}{blk:AN}(hb:blk.ids p)(h:Db B I w ρ1 x (blk.mv N k)):Db B I w ρ2 x blk:=by
 cases blk with
 |box t c=>
  obtain⟨b,us,rfl,hB,hh,hl,hc⟩:=h;exact⟨b,us,rfl,hB,hh,by rw[AH.NQ]at hl;exact hl,fun j u hu=>by have:=hc j u hu;rw[AH.Sb]at this;exact AL.YI hr _ (AH.QB hb j) this⟩
 |row e sz c=>exact h
 |mp c=>exact h
 |DN kd ks c=>
  obtain⟨b,BJ,rfl,hB,hm,hl,C0,hc⟩:=h;exact⟨b,BJ,rfl,hB,hm,hl,by rw[AH.NQ]at C0;exact C0,fun j u hu=>by have:=hc j u hu;rw[AH.Sb]at this;exact AL.YI hr _ (AH.MU hb j) this⟩
 |FD e c=>
  obtain⟨m,xs,ho,hl,hc⟩:=h;exact⟨m,xs,ho,by rw[AH.NQ]at hl;exact hl,fun j u hu=>by have:=hc j u hu;rw[AH.Sb]at this;exact AL.YI hr _ (AH.MT hb j) this⟩
theorem OB{N k:Nat}(hNk:N≤k): ∀ {F:List (Nat×AN)},Bz (· <N) F→ ∀ {id:Nat} {b:AN},Af F id=some b→Af (pT N k F) (id+k)=some (b.mv N k)
 | [],_,_,_,h=>by cases h
 |(d,c)::r,hi,id,b,h=>by
  have hd:d<N:=hi.1;simp only[Af]at h;simp only[pT,Af];have e1:Sa N k d=d+k:=by unfold Sa;rw[if_pos hd]
  rw[e1];split at h
  ·rename_i e;subst e;injection h with h;subst h;rw[if_pos rfl]
  ·rename_i e;rw[if_neg Zo];exact OB hNk hi.2.2 h
def QE(H:List (Nat×AN)):List (Nat×AN)→List (Nat×AN)
 | []=> []
 |(d,b)::r=>match Af H d with
  |none=>(d,b)::QE H r
  |some _=>QE H r
theorem QF{H:List (Nat×AN)}: ∀ {F:List (Nat×AN)} {id:Nat} {b:AN},Af (QE H F) id=some b→Af H id=none∧Af F id=some b
 | [],_,_,h=>by cases h
 |(d,c)::r,id,b,h=>by
  simp only[QE]at h;split at h
  ·rename_i hd;simp only[Af]at h ⊢;split at h
   ·rename_i e;subst e;exact⟨hd,by rw[if_pos rfl];exact h⟩
   ·rename_i e;rw[if_neg e];exact QF h
  ·rename_i c2 hd;obtain⟨h1,h2⟩:=QF h;have:d≠id:=fun e=>by rw[e,h1]at hd;cases hd
   exact⟨h1,by simp only[Af];rw[if_neg this];exact h2⟩
theorem G7{H:List (Nat×AN)}: ∀ {F:List (Nat×AN)} {id:Nat} {b:AN},Af H id=none→Af F id=some b→Af (QE H F) id=some b
 | [],_,_,_,h=>by cases h
 |(d,c)::r,id,b,h0,h=>by
  simp only[Af]at h;simp only[QE];split at h
  ·rename_i e;subst e;rw[h0];simp only[Af];rw[if_pos trivial];exact h
  ·rename_i e;split
   ·simp only[Af];rw[if_neg e];exact G7 h0 h
   ·exact G7 h0 h
theorem NU{p:Nat→Prop}{H:List (Nat×AN)}: ∀ {F:List (Nat×AN)},Bz p F→Bz p (QE H F)
 | [],_=>trivial
 |(d,c)::r,h=>by
  simp only[QE];split
  ·exact⟨h.1,h.2.1,NU h.2.2⟩
  ·exact NU h.2.2
def Dy(N:Nat)(Y:List (Nat×AN)):Prop:=Bz (N≤ ·) Y
mutual
theorem Tu{N:Nat}: ∀(x:AV),x.ids (N≤ ·)→x.ge N
 | .v _,_=>by rw[AV.ge];trivial
 | .s id,h=>by rw[AV.ids]at h;rw[AV.ge];exact h
 | .w id _ _,h=>by rw[AV.ids]at h;rw[AV.ge];exact h
 | .p id _,h=>by rw[AV.ids]at h;rw[AV.ge];exact h
 | .i _ _ _ _ _,_=>by rw[AV.ge];trivial
 | .q _ _ _ _ _,_=>by rw[AV.ge];trivial
 | .a cs,h=>by rw[AV.ids]at h;rw[AV.ge];exact DZ cs h
 | .t cs,h=>by rw[AV.ids]at h;rw[AV.ge];exact DZ cs h
 | .f _ cs,h=>by rw[AV.ids]at h;rw[AV.ge];exact DZ cs h
 | .g _ x,h=>by rw[AV.ids]at h;rw[AV.ge];exact Tu x h
 | .o,_=>by rw[AV.ge];trivial
 | .top,_=>by rw[AV.ge];trivial
theorem DZ{N:Nat}: ∀(l:List AV),AV.Av (N≤ ·) l→AV.Lh N l
 | [],_=>by rw[AV.Lh];trivial
 |x::r,h=>by rw[AV.Av]at h;rw[AV.Lh];exact⟨Tu x h.1,DZ r h.2⟩
end
mutual
theorem Er{N d:Nat}(hd:d<N): ∀(x:AV),x.ge N→x.kill d=x
 | .v _,_=>by rw[AV.kill]
 | .s id,h=>by rw[AV.ge]at h;rw[AV.kill,if_neg Zo]
 | .w id _ _,h=>by rw[AV.ge]at h;rw[AV.kill,if_neg Zo]
 | .p id _,h=>by rw[AV.ge]at h;rw[AV.kill,if_neg Zo]
 | .i _ _ _ _ _,_=>by rw[AV.kill]
 | .q _ _ _ _ _,_=>by rw[AV.kill]
 | .a cs,h=>by rw[AV.ge]at h;rw[AV.kill,Hg hd cs h]
 | .t cs,h=>by rw[AV.ge]at h;rw[AV.kill,Hg hd cs h]
 | .f _ cs,h=>by rw[AV.ge]at h;rw[AV.kill,Hg hd cs h]
 | .g _ x,h=>by rw[AV.ge]at h;rw[AV.kill,Er hd x h]
 | .o,_=>by rw[AV.kill]
 | .top,_=>by rw[AV.kill]
theorem Hg{N d:Nat}(hd:d<N): ∀(l:List AV),AV.Lh N l→AV.CV d l=l
 | [],_=>by rw[AV.CV]
 |x::r,h=>by
  rw[AV.Lh]at h;rw[AV.CV,Er hd x h.1,Hg hd r h.2]
end
theorem AN.Tu{N:Nat}{b:AN}(h:b.ids (N≤ ·)):b.ge N:=by
 cases b with
 |box t c=>cases c with
  |AF l=>exact DZ l h
  |_=>trivial
 |FD t c=>cases c with
  |AF l=>exact DZ l h
  |_=>trivial
 |DN kd ks c=>cases c with
  |AF l=>exact DZ l h
  |_=>trivial
 |row e sz c=>trivial
 |mp c=>trivial
theorem AN.Er{N d:Nat}(hd:d<N){b:AN}(h:b.ids (N≤ ·)):b.kill d=b:=by
 cases b with
 |box t c=>cases c with
  |AF l=>simp only[AN.kill,AH.kill];rw[Hg hd l (DZ l h)]
  |_=>rfl
 |FD t c=>cases c with
  |AF l=>simp only[AN.kill,AH.kill];rw[Hg hd l (DZ l h)]
  |_=>rfl
 |DN kd ks c=>cases c with
  |AF l=>simp only[AN.kill,AH.kill];rw[Hg hd l (DZ l h)]
  |_=>rfl
 |row e sz c=>rfl
 |mp c=>rfl
theorem Dy.kill{N d:Nat}(hd:d<N): ∀ {Y:List (Nat×AN)},Dy N Y→AJ d Y=Y
 | [],_=>rfl
 |(k,b)::r,h=>by
  have hk:N≤k:=h.1;rw[AJ,if_neg Zo,AN.Er hd h.2.1,Dy.kill hd h.2.2]
theorem Dy.B2{N M:Nat}(hM:M≤N): ∀ {Y:List (Nat×AN)},Dy N Y→BD M Y=Y
 | [],_=>rfl
 |(k,b)::r,h=>by
  have hk:N≤k:=h.1;rw[BD,if_pos Zo,Dy.B2 hM h.2.2]
theorem mF{N M:Nat}(hM:M≤N){b:AN}(h:b.ids (N≤ ·)):b.ids (M≤ ·):=by
 cases b with
 |box t c=>cases c with
  |AF l=>exact Cw (fun id h=>Nat.le_trans hM h) l h
  |_=>trivial
 |FD t c=>cases c with
  |AF l=>exact Cw (fun id h=>Nat.le_trans hM h) l h
  |_=>trivial
 |DN kd ks c=>cases c with
  |AF l=>exact Cw (fun id h=>Nat.le_trans hM h) l h
  |_=>trivial
 |row e sz c=>trivial
 |mp c=>trivial
theorem Dy.ge{N M:Nat}(hM:M≤N): ∀ {Y:List (Nat×AN)},Dy N Y→P4 M Y
 | [],_=>trivial
 |(k,b)::r,h=>⟨AN.Tu (mF hM h.2.1),Dy.ge hM h.2.2⟩
theorem Dy.in{N:Nat}: ∀ {Y:List (Nat×AN)},Dy N Y→ ∀ {id:Nat} {b:AN},Af Y id=some b→N≤id
 | [],_,_,_,h=>by cases h
 |(k,c)::r,hy,id,b,h=>by
  simp only[Af]at h;split at h
  ·rename_i e;subst e;exact hy.1
  ·exact Dy.in hy.2.2 h
theorem Ma{p q:Nat→Prop}(bR: ∀id,p id→q id){b:AN}(h:b.ids p):b.ids q:=by
 cases b with
 |box t c=>cases c with
  |AF l=>exact Cw bR l h
  |_=>trivial
 |FD t c=>cases c with
  |AF l=>exact Cw bR l h
  |_=>trivial
 |DN kd ks c=>cases c with
  |AF l=>exact Cw bR l h
  |_=>trivial
 |row e sz c=>trivial
 |mp c=>trivial
mutual
theorem YJ{N k:Nat}{p q:Nat→Prop}(h: ∀id,p id→q (Sa N k id)): ∀(x:AV),x.ids p→(x.mv N k).ids q
 | .v _,_=>by rw[AV.mv,AV.ids];trivial
 | .s id,g=>by rw[AV.ids]at g;rw[AV.mv,AV.ids];exact h _ g
 | .w id _ _,g=>by rw[AV.ids]at g;rw[AV.mv,AV.ids];exact h _ g
 | .p id _,g=>by rw[AV.ids]at g;rw[AV.mv,AV.ids];exact h _ g
 | .i _ _ _ _ _,_=>by rw[AV.mv,AV.ids];trivial
 | .q _ _ _ _ _,_=>by rw[AV.mv,AV.ids];trivial
 | .a cs,g=>by rw[AV.ids]at g;rw[AV.mv,AV.ids];exact O5 h cs g
 | .t cs,g=>by rw[AV.ids]at g;rw[AV.mv,AV.ids];exact O5 h cs g
 | .f _ cs,g=>by rw[AV.ids]at g;rw[AV.mv,AV.ids];exact O5 h cs g
 | .g _ x,g=>by rw[AV.ids]at g;rw[AV.mv,AV.ids];exact YJ h x g
 | .o,_=>by rw[AV.mv,AV.ids];trivial
 | .top,_=>by rw[AV.mv,AV.ids];trivial
theorem O5{N k:Nat}{p q:Nat→Prop}(h: ∀id,p id→q (Sa N k id)): ∀(l:List AV),AV.Av p l→AV.Av q (AV.mv.QA N k l)
 | [],_=>by rw[AV.mv.QA,AV.Av];trivial
 |x::r,g=>by rw[AV.Av]at g;rw[AV.mv.QA,AV.Av];exact⟨YJ h x g.1,O5 h r g.2⟩
end
end Go.Ad
