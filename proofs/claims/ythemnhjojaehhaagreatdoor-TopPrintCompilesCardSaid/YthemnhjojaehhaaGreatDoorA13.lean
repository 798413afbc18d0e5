/- Part of a proof. -/
import Derived.Test.YthemnhjojaehhaaGreatDoorA12
set_option linter.all false
namespace Go.Ad
open Go.RowKit
def AK(P:Program)(n B:Nat)(w0:AT)(ops:Array Oper)(K:St→Prop):List Oper→St→Prop
 | [],st=>K st
 |o::rest,st=>SO P n B w0 ops o (fun st'=>AK P n B w0 ops K rest st') st
theorem YA{P:Program}{n B:Nat}{w0:AT}{ops:Array Oper}{o:Oper}{K K':St→Prop}{st:St}(h:SO P n B w0 ops o K st)(hk: ∀s,K s→K' s):SO P n B w0 ops o K' st:=
 fun a w ρ I hG next Q hn=>h a w ρ I hG next Q fun st' a' w' h1 h2=>hn st' a' w' (hk _ h1) h2
theorem Tl{P:Program}{T:BT}(hT:T.ok P){n B:Nat}{w0:AT}{ops:Array Oper}{o:Oper}{K:St→Prop}{st:St}(h:X9 P T n ops o K st):SO P n B w0 ops o K st:=fun a w ρ I hG next Q hn=>
 qZ (cA hG h) (bz hT hG h next Q hn)
theorem Vd{P:Program}{n B:Nat}{w0:AT}{ops:Array Oper}{K:St→Prop}{Q:Exit→Act→World→Prop}(hQ: ∀st' a' w',K st'→G n B w0 st' a' w'→Q .normal a' w'): ∀(l:List Oper) (st:St) (a:Act) (w:World),G n B w0 st a w→AK P n B w0 ops K l st→wpListIn (fo w0) 0 P ops Q l a w
 | [],st,a,w,hG,h=>hQ st a w h hG
 |o::rest,st,a,w,⟨ρ,I,hG⟩,h=>by
  unfold wpListIn;exact h a w ρ I hG _ Q fun st' a' w' hK Cj=>Vd hQ rest st' a' w' Cj hK
theorem Fm{P:Program}{n B:Nat}{w0:AT}{Q:Exit→St→Prop}{st:St}{id:Nat}{l:List Oper}(h: ∀K:St→Prop,(∀s,Q .normal s→K s)→AK P n B w0 l.toArray K l st):BY P n B w0 (.region id l.toArray false) Q st:=fun a w hG=>
 wpIn_region_lit (Vd (fun st' _ _ hK Cj=>⟨st',hK,Cj⟩) l st a w hG (h (fun s=>Q .normal s) fun _ h=>h))
theorem CH{P:Program}{n B:Nat}{w0:AT}{Q:Exit→St→Prop}{st:St}{id:Nat}{l:List Oper}{y:Code}(h: ∀K:St→Prop,(∀s,BY P n B w0 y Q s→K s)→AK P n B w0 l.toArray K l st):BY P n B w0 (.seq (.region id l.toArray false) y) Q st:=
 CR (Fm (h ·))
section
variable{P:Program}{T:BT}(hT:T.ok P){n B:Nat}{w0:AT}{ops:Array Oper}{K:St→Prop}{o:Oper}{rest:List Oper}{st:St}
theorem A9(h:K st):AK P n B w0 ops K [] st:=h
include hT
theorem P6{g:Option (Nat×Bool)}(hg:Rd ops o.guard=some g)(h: ∀K':St→Prop,(∀s,AK P n B w0 ops K rest s→K' s)→I4 P T n o.dst o.op g K' st):AK P n B w0 ops K (o::rest) st:=
 Tl hT (.inl (.inl (Fl hg (h _ fun _ h=>h))))
theorem SY(d:Nat)(hd:o.dst=some d)(hg:o.guard=none)(hn:d<n)(h: ∀K':St→Prop,(∀s,AK P n B w0 ops K rest s→K' s)→bq T st (some d) o.op K'):AK P n B w0 ops K (o::rest) st:=
 Tl hT (.inl (.inr (.inl ⟨hg,by rw[hd];exact hn,by rw[hd];exact h _ fun _ h=>h⟩)))
theorem P7{g:Option (Nat×Bool)}(hg:Rd ops o.guard=some g)(hs:Ha st g=some (some false))(hd:As n o.dst)(h:AK P n B w0 ops K rest (st.put o.dst (.g false (.v (.bool false))))):AK P n B w0 ops K (o::rest) st:=
 Tl hT (.inl (.inr (.inr (.inl ⟨by rw[I2 hg];exact hs,hd,_,h⟩))))
omit hT
theorem CI(hg:o.guard=none){a:Act}{w:World}{ρ:Nat→Option Value}{I:Nat→Prop}(hG:B3 n B w0 st a w ρ I):Region.wanted o (yielded ops a.tmps)=true:=by
 have:=EY hG (ops:=ops) (o:=o) (g:=none) (by rw[hg];rfl);simpa using this
include hT
end
def P8(T:BT)(dst:Option Nat)(op:Op)(K:St→Prop)(st:St):Prop:=
 match op with
 | .mapUpdate t m k v=>
  match T t with
  |some ⟨.OX kt _,_,_,_⟩=>
   match T kt,(st.ev m).strip,(st.ev k).strip,(st.ev v).strip with
   |some tk,.s id,.v kv,.v vv=>
    match Af st.heap id,JR tk.k kv with
    |some (.mp c),some key=>
     match c.lQ key vv with
     |some c'=>((st.ev m).cond∧(st.ev k).cond∧(st.ev v).cond∧dst=none∧key.Pl=c.kd∧key.wf∧qU vv∧c.GD.length<9223372036854775807)∧K ⟨st.env,(id,.mp c')::st.heap⟩
     |none=>False
    |_,_=>False
   |_,_,_,_=>False
  |_=>False
 |_=>False
def gW:TK→Bool
 | .int _=>true
 |_=>false
def Tm(T:BT)(dst:Option Nat)(op:Op)(K:St→Prop)(st:St):Prop:=
 match op,dst with
 | .makeMap t none,some d=>
  match T t with
  |some ⟨.OX kt e,_,_,_⟩=>
   match T kt,T e with
   |some tk,some te=>K ⟨(d,.s d)::CM d st.env,(d,match te.k with| .int q=>.mp (.ints (gW tk.k) q [])| .bool=>.mp (.LO (gW tk.k) [])|_=>.DN (gW tk.k) [] (.AF []))::AJ d st.heap⟩
   |_,_=>False
  |_=>False
 |_,_=>False
section
variable{P:Program}{T:BT}(hT:T.ok P){n B:Nat}{w0:AT}{st:St}{a:Act}{w:World}{ρ:Nat→Option Value}{I:Nat→Prop}
include hT in
theorem SZ(hG:B3 n B w0 st a w ρ I){o:Oper}{K:St→Prop}(h:P8 T o.dst o.op K st):C1 P n B w0 o a w K:=by
 intro next Q hn
 unfold P8 at h;split at h<;>first|exact h.elim|skip
 rename_i t m k v ho;split at h<;>first|exact h.elim|skip
 rename_i kt e _ _ _ ht;have hu:P.underlying t=some (.map kt e):=(hT _ _ ht).kind;split at h<;>first|exact h.elim|skip
 rename_i tk id kv vv N2 hm hk hv;split at h<;>first|exact h.elim|skip
 rename_i c key hl Dt;split at h<;>first|exact h.elim|skip
 rename_i c' hc;obtain⟨⟨c1,c2,c3,DD,hi,wL,tR,hlen⟩,hK⟩:=h;have tS:=(hG.ev m).strip c1;have F7:=(hG.ev k).strip c2;have lY:=(hG.ev v).strip c3;rw[hm]at tS;rw[hk]at F7;rw[hv]at lY
 have ek:=F7.Ao;have ev:=lY.Ao;obtain⟨e1,e2⟩:=Fb Dt
 have kb:P.underlying kt=some (Iy c.kd):=by
  have hh:=(hT _ _ N2).kind;rcases e2 with ⟨e3,e4⟩|⟨e3,e4⟩
  ·rw[e3]at hh;rw[←hi,e4];exact hh
  ·rw[e3]at hh;rw[←hi,e4];exact hh
 generalize zP:a.eval m=mv at tS;cases tS with
 |s _ x hr _=>
  obtain⟨x',CP,Ae⟩:=hG.hw.ok _ _ hl;rw[hr]at CP;injection CP with CP;subst CP
  obtain⟨b,rfl,hB,SD⟩:=Ae;obtain⟨ob,B1,bO⟩:=Zf SD hu kb key hi wL tR hc hlen;have hb:b<w.heap.size:=by obtain⟨es,clock,hh,_⟩:=SD;exact(Array.getElem?_eq_some_iff.1 hh).1
  unfold Oper.wp
  have:(execOp a.eval o).run P w=.ok .skip {w with heap:=w.heap.setIfInBounds b ob}:=by
   simp[execOp,ho,zP,ek,ev,e1,B1,Result.andThen]
  rw[this,Oper.upon_skip,DD];refine hn _ _ _ hK ⟨ρ,I,hG.store hl hr ⟨b,rfl,hB,bO⟩ ⟨rfl,rfl,rfl,by simp,fun k hk=>by simp only;rw[Array.getElem?_setIfInBounds_ne Zo]⟩ (fun b1 Jy=>?_)⟩;show(w.heap.setIfInBounds b ob)[b1]? =_;rw[Array.getElem?_setIfInBounds_ne (fun e=>Jy (by rw[e];rfl))]
theorem cB(hG:B3 n B w0 st a w ρ I){o:Oper}(hd:As n o.dst){K:St→Prop}(h:Tm T o.dst o.op K st):C1 P n B w0 o a w K:=by
 intro next Q hn
 unfold Tm at h;split at h<;>first|exact h.elim|skip
 rename_i t d ho DD;rw[DD]at hd;split at h<;>first|exact h.elim|skip
 split at h<;>first|exact h.elim|skip
 rename_i kt e _ _ _ ht tk te N2 EP;unfold Oper.wp
 have:(execOp a.eval o).run P w=.ok (.value (.map (some w.heap.size))) (w.alloc (.map #[] 0)):=by
  simp[execOp,ho,run_makeMap,Result.andThen]
 rw[this,Oper.upon_value,DD];have SD: ∀c:MC,c.GD= []→Pm (w.alloc (.map #[] 0)) w.heap.size c:=fun c hc=>⟨#[],0,World.alloc_heap_new w _,by simp[hc],⟨by simp,by simp,by simp⟩,by simp,by simp[hc]⟩;refine hn _ _ _ h ⟨_,I,(hG.new (w1:=w.alloc (.map #[] 0)) ((Below.refl _ w).alloc (Nat.le_refl _) _) d (.map (some w.heap.size)) _ ?_ (fun b hb=>by simp[Ab]at hb;omega) (hG.BQ.JQ d hd)).put (d:=some d) (fun k hk=>by injection hk with hk;subst hk;exact hd) (.s d _ (B4 _ _ _) rfl)⟩;have hA:Db B I (w.alloc (.map #[] 0)) (Jq ρ d (.map (some w.heap.size))) (.map (some w.heap.size)) (.DN (gW tk.k) [] (.AF [])):=⟨_,[],rfl,hG.base,SD _ rfl,rfl,rfl,fun j u hu=>by simp at hu⟩;cases te.k<;>first|exact⟨_,rfl,hG.base,SD _ rfl⟩|exact hA
end
section
variable{P:Program}{T:BT}(hT:T.ok P){n B:Nat}{w0:AT}{ops:Array Oper}{K:St→Prop}{o:Oper}{rest:List Oper}{st:St}
include hT
theorem HK(hg:o.guard=none)(h: ∀K':St→Prop,(∀s,AK P n B w0 ops K rest s→K' s)→P8 T o.dst o.op K' st):AK P n B w0 ops K (o::rest) st:=by
 intro a w ρ I hG next Q FZ
 rw[CI hg hG];have h':=h _ fun _ h=>h;refine LF (fun c' HU=>?_) (SZ hT hG h' next Q FZ);rw[HU]at h';exact h'
theorem GK(hg:o.guard=none)(h: ∀K':St→Prop,(∀s,AK P n B w0 ops K rest s→K' s)→IJ T o.dst o.op K' st):AK P n B w0 ops K (o::rest) st:=by
 intro a w ρ I hG next Q FZ
 rw[CI hg hG];have h':=h _ fun _ h=>h;refine LF (fun c' HU=>?_) (Lf hT hG h' next Q FZ);rw[HU]at h';exact h'
omit hT
theorem HL(T:BT)(hg:o.guard=none)(hd:As n o.dst)(h: ∀K':St→Prop,(∀s,AK P n B w0 ops K rest s→K' s)→Tm T o.dst o.op K' st):AK P n B w0 ops K (o::rest) st:=by
 intro a w ρ I hG next Q FZ
 rw[CI hg hG];have h':=h _ fun _ h=>h;refine LF (fun c' HU=>?_) (cB hG hd h' next Q FZ);rw[HU]at h';exact h'
end
theorem MQ{w:World}{b b':Nat}{e:TypeId}{sz:Nat}{v:Value}{m:Nat}{xs:List Value}(h:w.ownsRow b e sz v m xs)(hle:b'≤b):w.ownsRow b' e sz v m xs:=by
 refine⟨h.1,?_⟩;rcases h.2 with hn|⟨g,cap,cur,rfl,h1,r⟩
 ·exact .inl hn
 ·exact .inr ⟨g,cap,cur,rfl,Nat.le_trans hle h1,r⟩
attribute [push_cast] P8 Tm gW MC.lQ MC.kd MC.GD Key.Pl Key.wf qU JR FF EC
theorem OY{α:Type}{A B C:α→Prop}(r:α)(p:A r)(o:B r)(k:C r): ∃r,(A r∧B r)∧C r:=⟨r,⟨p,o⟩,k⟩
theorem OZ{α:Type}{b g:Prop}{A B C:α→Prop}(hg:b→g)(r:α)(p:b→A r)(o:b→B r)(k:C r): ∃r,(b→g∧A r∧B r)∧C r:=⟨r,fun hb=>⟨hg hb,p hb,o hb⟩,k⟩
theorem Kr{w:World}{l:Nat}{r:Loop}{o':Obj}(hl:w.heap[l]? =some (.loop r)){ad:Addr}{v:Value}(h:w.cell? ad=some v):(w.putObj l o').cell? ad=some v:=by
 have hn:ad.block≠l:=fun hm=>by
  unfold World.cell? at h;rw[hm]at h;simp[hl]at h
 rw[World.cell?_of_block (w:=w) (a:=ad) (World.putObj_heap_other hn)];exact h
theorem FQ{w:World}{B l:Nat}{o':Obj}(hB:B≤l):Below B w (w.putObj l o'):=
 ⟨rfl,rfl,rfl,by simp[World.putObj],fun k hk=>World.putObj_heap_other Zo⟩
section
variable{n B:Nat}{w0:AT}{st:St}{a:Act}{w:World}{ρ:Nat→Option Value}{I:Nat→Prop}
theorem B3.vH(h:B3 n B w0 st a w ρ I){l:Nat}{r:Loop}(o':Obj)(hl:w.heap[l]? =some (.loop r))(hI:I l):HW B I (w.putObj l o') ρ st.heap:=by
 have hc: ∀ {ρ':Nat→Option Value} {x:AV} {u:Value},AL B I w ρ' x u→AL B I (w.putObj l o') ρ' x u:=fun h=>h.fg (Nat.le_refl _) (fun _ h=>h) (fun ad v _ hv=>Kr hl hv) _ (fun _ _ h=>h);refine⟨fun id blk hk=>?_,h.hw.apart,h.hw.J2,fun b hb=>by rw[World.putObj_size];exact h.hw.lt b hb⟩;obtain⟨x,hx,Ae⟩:=h.hw.ok id blk hk;have hr: ∀b,Ab x=some b→(w.putObj l o').heap[b]? =w.heap[b]? :=fun b hb=>World.putObj_heap_other (fun e=>h.hw.J2 id blk x b hk hx hb (e▸hI));refine⟨x,hx,?_⟩;cases blk with
 |box t c=>
  obtain⟨b,us,rfl,hB,hh,hl,FE⟩:=Ae;exact⟨b,us,rfl,hB,by rw[hr b rfl];exact hh,hl,fun j u hu=>hc (FE j u hu)⟩
 |row e sz c=>
  obtain⟨m,xs,ho,hl,FE⟩:=Ae;exact⟨m,xs,EB ho hr,hl,fun j u hu=>hc (FE j u hu)⟩
 |mp c=>
  obtain⟨b',rfl,hB,es,clock,hh,r⟩:=Ae;exact⟨b',rfl,hB,es,clock,by rw[hr b' rfl];exact hh,r⟩
 |DN kd ks c=>
  obtain⟨b',BJ,rfl,hB,⟨es,clock,hh,r⟩,hl,C0,FE⟩:=Ae;exact⟨b',BJ,rfl,hB,⟨es,clock,by rw[hr b' rfl];exact hh,r⟩,hl,C0,fun j u hu=>hc (FE j u hu)⟩
 |FD e c=>
  obtain⟨m,xs,ho,hl,FE⟩:=Ae;exact⟨m,xs,EB ho hr,hl,fun j u hu=>hc (FE j u hu)⟩
theorem B3.gX(h:B3 n B w0 st a w ρ I){l:Nat}{r:Loop}(o':Obj)(hl:w.heap[l]? =some (.loop r))(s:Nat):AL B I (w.putObj l o') ρ (lk st.env s) (a.tmps.getD s undef):=
 (h.env s).fg (Nat.le_refl _) (fun _ h=>h) (fun ad v _ hv=>Kr hl hv) _ (fun _ _ h=>h)
theorem B3.gY(h:B3 n B w0 st a w ρ I)(gh:Nat→Option (Option Value))(F8: ∀id x,gh id=some x→ρ id=x)(tV: ∀d,d<n→gh d=none)(ds:List Deferred)(rd:Option Nat):B3 n B ⟨w,I,gh,ds,rd,h.gl⟩ st {tmps:=a.tmps,defers:=ds} w ρ I:=
 ⟨Marks.nil,h.size,h.env,h.hw,Below.refl _ _,h.base,⟨fun b hb=>.inl hb,F8,tV,fun b hb=>⟨hb,rfl⟩⟩⟩
theorem B3.yo(h:B3 n B w0 st a w ρ I){l:Nat}{r:Loop}(o':Obj)(hl:w.heap[l]? =some (.loop r)):Xt I (w.putObj l o'):=by
 refine⟨fun g lst hg=>⟨(h.gl.at_ g lst hg).1,fun i hi=>Kr hl ((h.gl.at_ g lst hg).2 i hi)⟩,fun g lst hg=>?_,h.gl.len.1,?_⟩
 ·obtain⟨us,t,z,h1,h2⟩:=h.gl.size g lst hg;refine⟨us,t,z,?_,h2⟩;rw[World.putObj_heap_other (fun e=>by rw[e,hl]at h1;cases h1)];exact h1
 ·obtain⟨m,hm⟩:=h.gl.len.2;exact⟨m,Kr hl hm⟩
theorem B3.Tn(h:B3 n B w0 st a w ρ I){l:Nat}{r:Loop}(o':Obj)(hl:w.heap[l]? =some (.loop r))(hI:I l)(gh:Nat→Option (Option Value))(F8: ∀id x,gh id=some x→ρ id=x)(tV: ∀d,d<n→gh d=none)(ds:List Deferred)(rd:Option Nat):
  B3 n B ⟨w.putObj l o',I,gh,ds,rd,h.yo o' hl⟩ st {tmps:=a.tmps,defers:=ds} (w.putObj l o') ρ I:=
 ⟨Marks.nil,h.size,h.gX o' hl,h.vH o' hl hI,Below.refl _ _,by rw[World.putObj_size];exact h.base,⟨fun b hb=>.inl hb,F8,tV,fun b hb=>⟨hb,rfl⟩⟩⟩
end
def Rg:List Nat→List AV→List (Nat×AV)→List (Nat×AV)
 |p::ps,x::xs,E=>Rg ps xs ((p,x)::E)
 |_,_,E=>E
theorem B3.Rg{n B:Nat}{w0:AT}{H:List (Nat×AN)}{w:World}{ρ:Nat→Option Value}{I:Nat→Prop}{ds:List Deferred}: ∀(ps:List Nat) (xs:List AV) (vs:List Value) (E:List (Nat×AV)) (tmps:Array Value),(∀p∈ps,p<n)→At B I w ρ xs vs→ps.length=xs.length→
  B3 n B w0 ⟨E,H⟩ {tmps:=tmps,defers:=ds} w ρ I→B3 n B w0 ⟨Ad.Rg ps xs E,H⟩ {tmps:=(ps.zip vs).foldl (fun t (p:Nat×Value)=>t.setIfInBounds p.1 p.2) tmps,defers:=ds} w ρ I
 | [],xs,vs,E,tmps,_,_,_,h=>by simpa[Ad.Rg]using h
 |p::ps,x::xs,v::vs,E,tmps,hp,hc,hl,h=>by
  have h1:=h.put (d:=some p) (fun k hk=>by injection hk with hk;subst hk;exact hp _ (by simp)) (x:=x) (u:=v) (by simpa using hc.2 0 (by simp));have:=B3.Rg ps xs vs ((p,x)::E) (tmps.setIfInBounds p v) (fun q hq=>hp q (by simp[hq])) ⟨by simpa using hc.1,fun j hj=>by simpa using hc.2 (j+1) (by simpa using hj)⟩ (by simpa using hl) h1;simpa[Ad.Rg]using this
 |p::ps,[],vs,E,tmps,_,_,hl,h=>by simp at hl
 |p::ps,x::xs,[],E,tmps,_,hc,_,h=>by have:=hc.1;simp at this
def Ve(N:Nat):List AV→Prop
 | []=>True
 |x::r=>x.ge N∧Ve N r
theorem P9{N:Nat}: ∀ {cs:List AV} (_:Ve N cs) (j:Nat),(cs.getD j .top).ge N
 | [],_,_=>by simp[AV.ge]
 |x::r,h,0=>by simpa using h.1
 |x::r,h,j+1=>by simpa using P9 h.2 j
attribute [push_cast] Rg Ve
attribute [push_cast] Bu
def LR:List (List Bool×St)→List Bool→Option St
 | [],_=>none
 |(L,S)::r,M=>if L=M then some S else LR r M
def E6:List Bool→Nat
 | []=>0
 |true::r=>E6 r
 |false::r=>E6 r+1
theorem Lj: ∀(L:List Bool) (i:Nat),L[i]? =some false→E6 (L.set i true)+1=E6 L
 | [],i,h=>by simp at h
 |b::r,0,h=>by
  simp at h;subst h;simp[E6]
 |b::r,i+1,h=>by
  have:=Lj r i (by simpa using h);cases b<;>simp[E6]<;>omega
theorem KK: ∀(L:List Bool) (i:Nat),E6 L=0→L[i]? ≠some false
 | [],i,_=>by simp
 |true::r,0,_=>by simp
 |true::r,i+1,h=>by simpa using KK r i h
 |false::r,_,h=>by simp[E6]at h
theorem MR{L:List Bool}{j:Nat}(h:L.toArray.getD j true=false):L[j]? =some false:=by
 simp only[Zag,List.getElem?_toArray]at h;cases hj:L[j]? with
 |none=>rw[hj]at h;simp at h
 |some b=>rw[hj]at h;simp at h;rw[h]
def vJ(P:Program)(n B:Nat)(w0:AT)(ops:Array Oper)(K:St→Prop)(all:List (List Bool×St))(p:List Bool×St):Prop:=
 (Region.ready .any ops p.1.toArray= []→K p.2)∧ ∀i∈Region.ready .any ops p.1.toArray,∃o,ops.toList[i]? =some o∧ ∀K':St→Prop,(∀s S',LR all (p.1.set i true)=some S'→(∀a w,G n B w0 s a w→G n B w0 S' a w)→K' s)→AK P n B w0 ops K' [o] p.2
def YB(P:Program)(n B:Nat)(w0:AT)(ops:Array Oper)(K:St→Prop)(all:List (List Bool×St)):List (List Bool×St)→Prop
 | []=>True
 |p::r=>vJ P n B w0 ops K all p∧YB P n B w0 ops K all r
theorem NP{P:Program}{n B:Nat}{w0:AT}{ops:Array Oper}{K:St→Prop}{all:List (List Bool×St)}: ∀ {l:List (List Bool×St)},YB P n B w0 ops K all l→ ∀ {L S},LR l L=some S→vJ P n B w0 ops K all (L,S)
 | [],_,L,S,h=>by cases h
 |(M,S')::r,hd,L,S,h=>by
  simp only[LR]at h;split at h
  ·rename_i e;subst e;injection h with h;subst h;exact hd.1
  ·exact NP hd.2 h
theorem gZ{P:Program}{n B:Nat}{w0:AT}{ops:Array Oper}{K:St→Prop}{all:List (List Bool×St)}(BU:YB P n B w0 ops K all all){Q:Exit→Act→World→Prop}(hQ: ∀st' a' w',K st'→G n B w0 st' a' w'→Q .normal a' w'):
  ∀(fuel:Nat) (L:List Bool) (S:St) (a:Act) (w:World),LR all L=some S→E6 L≤fuel→L.length=ops.size→G n B w0 S a w→wpAnyIn (fo w0) 0 P .any ops Q fuel L.toArray a w
 |0,L,S,a,w,hl,hf,hs,hG=>by
  have hr:Region.ready .any ops L.toArray= []:=by
   refine List.eq_nil_iff_forall_not_mem.2 fun j hj=>?_;exact KK L j Zo (MR (mem_ready.1 hj).1)
  exact⟨hr,hQ S a w ((NP BU hl).1 hr) hG⟩
 |fuel+1,L,S,a,w,hl,hf,hs,hG=>by
  have hN:=NP BU hl;refine⟨fun he=>hQ S a w (hN.1 he) hG,fun i hi=>?_⟩;obtain⟨o,ho,BE⟩:=hN.2 i hi;have hL:L[i]? =some false:=MR (mem_ready.1 hi).1;obtain⟨ρ,I,hg⟩:=hG;have H3:ops[i]? =some o:=by rw[←Array.getElem?_toList];exact ho
  have:=BE (fun s=> ∃S',LR all (L.set i true)=some S'∧ ∀a w,G n B w0 s a w→G n B w0 S' a w) (fun s S' h1 h2=>⟨S',h1,h2⟩) a w ρ I hg (wpAnyIn (fo w0) 0 P .any ops Q fuel (L.toArray.setIfInBounds i true)) Q (fun st' a' w' hK Cj=>by
   obtain⟨S',h1,h2⟩:=hK;have h5:=Lj L i hL;have h6:=gZ BU hQ fuel (L.set i true) S' a' w' h1 Zo (by simpa using hs) (h2 _ _ Cj);simpa using h6)
  unfold wpOpIn;simp only[H3];exact this
theorem JY{P:Program}{n B:Nat}{w0:AT}{Q:Exit→St→Prop}{st:St}{id:Nat}{ops:Array Oper}(hm:P.follows .mixedOrders=true)(all:List (List Bool×St))(h0:LR all (List.replicate ops.size false)=some st)(h: ∀K:St→Prop,(∀s,Q .normal s→K s)→YB P n B w0 ops K all all):BY P n B w0 (.region id ops true) Q st:=by
 intro a w hG;refine wpIn_region_any hm ?_
 have Cj:G n B w0 st a {w with drawn:=w.drawn+1}:=by
  obtain⟨ρ,I,hg⟩:=hG;exact⟨ρ,I,hg.quiet ⟨⟨rfl,rfl,rfl,Nat.le_refl _,fun _ _=>rfl⟩,fun _ h=>h,fun _ h h'=>absurd h h',hg.hw.lt⟩⟩
 have hle: ∀n,E6 (List.replicate n false)≤n:=fun n=>by
  induction n with
  |zero=>simp[E6]
  |succ n ih=>simp only[List.replicate_succ,E6];omega
 have:=gZ (h (fun s=>Q .normal s) fun _ h=>h) (Q:=fun e a' w'=> ∃st',Q e st'∧G n B w0 st' a' w') (fun st' _ _ hK Cj=>⟨st',hK,Cj⟩) ops.size (List.replicate ops.size false) st a _ h0 (hle _) (by simp) Cj;simpa using this
def Vf(P:Program)(n B:Nat)(w0:AT)(ops:Array Oper)(all:List (List Bool×St))(L:List Bool)(S:St):List Nat→Prop
 | []=>True
 |i::r=>(∃o,ops.toList[i]? =some o∧ ∀K':St→Prop,(∀s S',LR all (L.set i true)=some S'→(∀a w,G n B w0 s a w→G n B w0 S' a w)→K' s)→AK P n B w0 ops K' [o] S)∧Vf P n B w0 ops all L S r
theorem Vf.spec{P:Program}{n B:Nat}{w0:AT}{ops:Array Oper}{all:List (List Bool×St)}{L:List Bool}{S:St}: ∀ {js:List Nat},Vf P n B w0 ops all L S js→ ∀i∈js,∃o,ops.toList[i]? =some o∧ ∀K':St→Prop,(∀s S',LR all (L.set i true)=some S'→(∀a w,G n B w0 s a w→G n B w0 S' a w)→K' s)→AK P n B w0 ops K' [o] S
 | [],_,i,hi=>by cases hi
 |j::r,h,i,hi=>by
  rcases List.mem_cons.1 hi with rfl|hi
  ·exact h.1
  ·exact Vf.spec h.2 i hi
theorem AD{P:Program}{n B:Nat}{w0:AT}{ops:Array Oper}{K:St→Prop}{all:List (List Bool×St)}{L:List Bool}{S:St}{r:List (List Bool×St)}(j:Nat)(js:List Nat)(hr:decide (Region.ready .any ops L.toArray=j::js)=true)(h:Vf P n B w0 ops all L S (j::js))(h2:YB P n B w0 ops K all r):YB P n B w0 ops K all ((L,S)::r):=
 ⟨⟨fun he=>(by rw[of_decide_eq_true hr]at he;cases he),fun i hi=>by rw[of_decide_eq_true hr]at hi;exact h.spec i hi⟩,h2⟩
theorem Hb{P:Program}{n B:Nat}{w0:AT}{ops:Array Oper}{K:St→Prop}{all:List (List Bool×St)}{L:List Bool}{S:St}(hr:decide (Region.ready .any ops L.toArray= [])=true)(h:K S):YB P n B w0 ops K all [(L,S)]:=
 ⟨⟨fun _=>h,fun i hi=>by rw[of_decide_eq_true hr]at hi;cases hi⟩,trivial⟩
theorem GL{P:Program}{n B:Nat}{w0:AT}{ops:Array Oper}{all:List (List Bool×St)}{L:List Bool}{S:St}{i:Nat}{r:List Nat}{o:Oper}(ho:ops.toList[i]? =some o)(h: ∀K':St→Prop,(∀s S',LR all (L.set i true)=some S'→(∀a w,G n B w0 s a w→G n B w0 S' a w)→K' s)→AK P n B w0 ops K' [o] S)(hr:Vf P n B w0 ops all L S r):Vf P n B w0 ops all L S (i::r):=⟨⟨o,ho,h⟩,hr⟩
theorem Hc{P:Program}{n B:Nat}{w0:AT}{ops:Array Oper}{all:List (List Bool×St)}{L:List Bool}{S:St}:Vf P n B w0 ops all L S []:=trivial
def mC(env:List (Nat×AV)):List Nat→List (Nat×AV)→Prop
 |_,[]=>True
 |seen,(k,x)::r=>(seen.contains k=true∨lk env k=x)∧mC env (k::seen) r
def qj(H:List (Nat×AN)):List Nat→List (Nat×AN)→Prop
 |_,[]=>True
 |seen,(k,x)::r=>(seen.contains k=true∨Af H k=some x)∧qj H (k::seen) r
theorem YC{env:List (Nat×AV)}: ∀ {l:List (Nat×AV)} {seen:List Nat},mC env seen l→ ∀s,seen.contains s=false→lk l s=.top∨lk l s=lk env s
 | [],_,_,_,_=>.inl rfl
 |(k,x)::r,seen,h,s,hs=>by
  simp only[lk];by_cases e:k=s
  ·rw[if_pos e];subst e
   rcases h.1 with h1|h1
   ·rw[hs]at h1;cases h1
   ·exact .inr h1.symm
  ·rw[if_neg e];exact YC h.2 s (by simp only[List.contains_cons,hs,Bool.or_false,beq_eq_false_iff_ne];exact fun h=>e h.symm)
theorem Zt{H:List (Nat×AN)}: ∀ {l:List (Nat×AN)} {seen:List Nat},qj H seen l→ ∀s b,seen.contains s=false→Af l s=some b→Af H s=some b
 | [],_,_,_,_,_,h=>by cases h
 |(k,x)::r,seen,h,s,b,hs,hb=>by
  simp only[Af]at hb;by_cases e:k=s
  ·rw[if_pos e]at hb;subst e
   injection hb with hb;subst hb
   rcases h.1 with h1|h1
   ·rw[hs]at h1;cases h1
   ·exact h1
  ·rw[if_neg e]at hb;exact Zt h.2 s b (by simp only[List.contains_cons,hs,Bool.or_false,beq_eq_false_iff_ne];exact fun h=>e h.symm) hb
def Sa(N k id:Nat):Nat:=if id<N then id+k else id
def AV.mv(N k:Nat):AV→AV
 | .v x=>.v x
 | .s id=>.s (Sa N k id)
 | .w id off len=>.w (Sa N k id) off len
 | .p id off=>.p (Sa N k id) off
 | .i fr c sz off len=>.i fr c sz off len
 | .q fr c sz e j=>.q fr c sz e j
 | .a cs=>.a (QA N k cs)
 | .t cs=>.t (QA N k cs)
 | .f fn cs=>.f fn (QA N k cs)
 | .g b x=>.g b (AV.mv N k x)
 | .o=>.o
 | .top=>.top
where QA (N k:Nat):List AV→List AV
 | []=> []
 |x::r=>AV.mv N k x::QA N k r
theorem CJ(N k:Nat)(cs:List AV):(AV.mv.QA N k cs).length=cs.length:=by
 induction cs with
 |nil=>rfl
 |cons x r ih=>simp[AV.mv.QA,ih]
theorem MS(N k:Nat)(cs:List AV)(j:Nat):(AV.mv.QA N k cs).getD j .top=(cs.getD j .top).mv N k:=by
 induction cs generalizing j with
 |nil=>simp[AV.mv.QA,AV.mv]
 |cons x r ih=>cases j with
  |zero=>simp[AV.mv.QA]
  |succ j=>simpa[AV.mv.QA]using ih j
theorem AL.mv{N k B:Nat}{I:Nat→Prop}{w:World}{ρ:Nat→Option Value}{x:AV}{u:Value}(h:AL B I w ρ x u):x.ids (fun id=>id<k∨k+N≤id)→ ∀ρ',(∀id,(id<k∨k+N≤id)→ρ' (Sa N k id)=ρ id)→AL B I w ρ' (x.mv N k) u:=by
 induction h with
 |v x=>intro _ ρ' _;rw[AV.mv];exact .v x
 |s id x h h1=>intro hi ρ' hr;rw[AV.mv];rw[AV.ids]at hi;exact .s _ x (by rw[hr id hi];exact h) h1
 |w id off len cap A x h BW hA=>intro hi ρ' hr;rw[AV.mv];rw[AV.ids]at hi;exact .w _ off len cap A x (by rw[hr id hi];exact h) BW hA
 |p id off b x h hb=>intro hi ρ' hr;rw[AV.mv];rw[AV.ids]at hi;exact .p _ off b x (by rw[hr id hi];exact h) hb
 |i fr c sz off len cap A u BW hA hc ih=>intro _ ρ' _;rw[AV.mv];exact .i fr c sz off len cap A u BW hA hc
 |q fr c sz e f ad u h2 h3 Bf hc ih=>intro _ ρ' _;rw[AV.mv];exact .q fr c sz e f ad u h2 h3 Bf hc
 |a cs us hl h ih=>intro hi ρ' hr;rw[AV.mv];rw[AV.ids]at hi;exact .a _ us (by rw[CJ];exact hl) fun j hj=>by rw[CJ]at hj;rw[MS];exact ih j hj (Cc hi j) ρ' hr
 |t cs us hl h ih=>intro hi ρ' hr;rw[AV.mv];rw[AV.ids]at hi;exact .t _ us (by rw[CJ];exact hl) fun j hj=>by rw[CJ]at hj;rw[MS];exact ih j hj (Cc hi j) ρ' hr
 |f fn cs us hl h ih=>intro hi ρ' hr;rw[AV.mv];rw[AV.ids]at hi;exact .f fn _ us (by rw[CJ];exact hl) fun j hj=>by rw[CJ]at hj;rw[MS];exact ih j hj (Cc hi j) ρ' hr
 |g b x u h h0 ih=>intro hi ρ' hr;rw[AV.mv];rw[AV.ids]at hi;exact .g b _ u (fun hb=>ih hb hi ρ' hr) h0
 |o u h1=>intro _ ρ' _;rw[AV.mv];exact .o u h1
 |top u=>intro _ ρ' _;rw[AV.mv];exact .top u
def AH.mv(N k:Nat):AH→AH
 | .ints q l=>.ints q l
 | .BJ l=>.BJ l
 | .AF l=>.AF (AV.mv.QA N k l)
def AN.mv(N k:Nat):AN→AN
 | .box t c=>.box t (c.mv N k)
 | .row e sz c=>.row e sz c
 | .mp c=>.mp c
 | .DN kd ks c=>.DN kd ks (c.mv N k)
 | .FD e c=>.FD e (c.mv N k)
def AN.ids(p:Nat→Prop):AN→Prop
 | .box _ (.AF l)=>AV.Av p l
 | .FD _ (.AF l)=>AV.Av p l
 | .DN _ _ (.AF l)=>AV.Av p l
 |_=>True
def Bz(p:Nat→Prop):List (Nat×AN)→Prop
 | []=>True
 |(d,b)::r=>p d∧b.ids p∧Bz p r
theorem Ep{p:Nat→Prop}: ∀ {H:List (Nat×AN)},Bz p H→ ∀ {id b},Af H id=some b→p id∧b.ids p
 | [],_,_,_,h=>by cases h
 |(d,c)::r,hi,id,b,h=>by
  simp only[Af]at h;split at h
  ·rename_i e;injection h with h;subst h;subst e;exact⟨hi.1,hi.2.1⟩
  ·exact Ep hi.2.2 h
theorem AH.NQ(N k:Nat)(c:AH):(c.mv N k).len=c.len:=by cases c<;>simp[AH.mv,AH.len,CJ]
theorem AH.Sb(N k:Nat)(c:AH)(j:Nat):(c.mv N k).at j=(c.at j).mv N k:=by cases c<;>simp only[AH.mv,AH.at,AV.mv,MS]
theorem AH.QB{p:Nat→Prop}{t:TypeId}{c:AH}(h:(AN.box t c).ids p)(j:Nat):(c.at j).ids p:=by
 cases c with
 |ints q l=>simp only[AH.at,AV.ids]
 |BJ l=>simp only[AH.at,AV.ids]
 |AF l=>exact Cc h j
theorem AH.MT{p:Nat→Prop}{t:TypeId}{c:AH}(h:(AN.FD t c).ids p)(j:Nat):(c.at j).ids p:=by
 cases c with
 |ints q l=>simp only[AH.at,AV.ids]
 |BJ l=>simp only[AH.at,AV.ids]
 |AF l=>exact Cc h j
theorem AH.MU{p:Nat→Prop}{kd:Bool}{ks:List Key}{c:AH}(h:(AN.DN kd ks c).ids p)(j:Nat):(c.at j).ids p:=by
 cases c with
 |ints k l=>simp[AH.at,AV.ids]
 |BJ l=>simp[AH.at,AV.ids]
 |AF l=>exact Cc h j
def pT(N k:Nat):List (Nat×AN)→List (Nat×AN)
 | []=> []
 |(d,b)::r=>(Sa N k d,b.mv N k)::pT N k r
theorem Zu(N k:Nat): ∀ {H:List (Nat×AN)} (_:Bz (fun id=>id<k∨k+N≤id) H) {id:Nat} {b:AN},Af (pT N k H) id=some b→ ∃id0 b0,id=Sa N k id0∧(id0<k∨k+N≤id0)∧Af H id0=some b0∧b=b0.mv N k
 | [],_,_,_,h=>by cases h
 |(d,c)::r,hi,id,b,h=>by
  simp only[pT,Af]at h;split at h
  ·rename_i e;injection h with h;exact⟨d,c,e.symm,hi.1,by simp[Af],h.symm⟩
  ·rename_i e;obtain⟨id0,b0,e1,e0,e2,e3⟩:=Zu N k hi.2.2 h;refine⟨id0,b0,e1,e0,?_,e3⟩;simp only[Af];rw[if_neg (fun hh=>e (by rw[hh,e1]))];exact e2
attribute [push_cast] Sa AV.mv AV.mv.QA AH.mv AN.mv AN.ids Bz pT
theorem Eg{P:Program}{n B:Nat}{w0:AT}{ops:Array Oper}{K:St→Prop}{o:Oper}{rest:List Oper}{st:St}(st':St)(h: ∀a w,G n B w0 st a w→G n B w0 st' a w)(h2:AK P n B w0 ops K (o::rest) st'):AK P n B w0 ops K (o::rest) st:=by
 intro a w ρ I hG next Q FZ
 obtain⟨ρ',I',Cj⟩:=h a w ⟨ρ,I,hG⟩;exact h2 a w ρ' I' Cj next Q FZ
theorem JZ: ∀(A C:List (Nat×AN)) (s:Nat),Af (A++C) s=match Af A s with|some b=>some b|none=>Af C s
 | [],C,s=>rfl
 |(k,x)::r,C,s=>by
  simp only[List.cons_append,Af];by_cases e:k=s
  ·rw[if_pos e,if_pos e]
  ·rw[if_neg e,if_neg e];exact JZ r C s
def mD(lo hi:Nat):List (Nat×AN)→Bool
 | []=>true
 |(k,_)::r=>(decide (k<lo)||decide (hi≤k))&&mD lo hi r
theorem Zv{lo hi:Nat}: ∀ {A:List (Nat×AN)},mD lo hi A=true→ ∀ {s},lo≤s→s<hi→Af A s=none
 | [],_,s,_,_=>rfl
 |(k,x)::r,h,s,h1,h2=>by
  simp only[mD,Zba,Bool.or_eq_true,Zdt]at h;simp only[Af];rw[if_neg Zo];exact Zv h.2 h1 h2
theorem G.wkT{n B:Nat}{w0:AT}{st st':St}{lo hi:Nat}(pre pre':List (Nat×AN))(C:List (Nat×AN))(e1:st.heap=pre++C)(e2:st'.heap=pre'++C)(hE:mC st.env [] st'.env)(hC: ∀s b,Af C s=some b→lo≤s∧s<hi)(SC:mD lo hi pre=true)(hw:qj pre [] pre'): ∀a w,G n B w0 st a w→G n B w0 st' a w:=fun a w ⟨ρ,I,h⟩=>by
 have hH: ∀s b,Af st'.heap s=some b→Af st.heap s=some b:=fun s b hs=>by
  rw[e2,JZ]at hs;rw[e1,JZ];cases hp:Af pre' s with
  |some b'=>
   rw[hp]at hs;rw[Zt hw s b' rfl hp];exact hs
  |none=>
   rw[hp]at hs;obtain⟨h1,h2⟩:=hC s b hs;rw[Zv SC h1 h2];exact hs
 exact⟨ρ,I,h.defers,h.size,fun s=>by
  rcases YC hE s rfl with e|e
  ·rw[e];exact .top _
  ·rw[e];exact h.env s,⟨fun id blk hk=>h.hw.ok id blk (hH _ _ hk),fun id id' blk blk' x x' b CD h1 h2=>h.hw.apart id id' blk blk' x x' b CD (hH _ _ h1) (hH _ _ h2),fun id blk x b h1=>h.hw.J2 id blk x b (hH _ _ h1),h.hw.lt⟩,h.below,h.base,h.BQ⟩
def YD:AN→Bool
 | .box _ (.AF l)=>AV.Dp l
 | .FD _ (.AF l)=>AV.Dp l
 | .DN _ _ (.AF l)=>AV.Dp l
 |_=>true
def YE(lo hi:Nat):List (Nat×AN)→Bool
 | []=>true
 |(k,b)::r=>decide (lo≤k)&&decide (k<hi)&&YD b&&YE lo hi r
theorem QC{lo hi N:Nat}(hN:N≤lo): ∀ {Y:List (Nat×AN)},YE lo hi Y=true→BD N Y=Y
 | [],_=>rfl
 |(k,b)::r,h=>by
  simp only[YE,Zba,Zdt]at h;rw[BD,if_pos Zo,QC hN h.2]
theorem cC{b:AN}(h:YD b=true)(N:Nat):b.ge N:=by
 cases b with
 |box t c=>
  cases c with
  |AF l=>exact JX N l h
  |_=>trivial
 |FD t c=>
  cases c with
  |AF l=>exact JX N l h
  |_=>trivial
 |DN kd ks c=>
  cases c with
  |AF l=>exact JX N l h
  |_=>trivial
 |_=>trivial
theorem Vg{b:AN}(h:YD b=true)(d:Nat):b.kill d=b:=by
 cases b with
 |box t c=>
  cases c with
  |AF l=>simp only[AN.kill,AH.kill];rw[GJ d l h]
  |_=>rfl
 |FD t c=>
  cases c with
  |AF l=>simp only[AN.kill,AH.kill];rw[GJ d l h]
  |_=>rfl
 |DN kd ks c=>
  cases c with
  |AF l=>simp only[AN.kill,AH.kill];rw[GJ d l h]
  |_=>rfl
 |_=>rfl
theorem YF{lo hi:Nat}(N:Nat): ∀ {Y:List (Nat×AN)},YE lo hi Y=true→P4 N Y
 | [],_=>trivial
 |(k,b)::r,h=>by
  simp only[YE,Zba]at h;exact⟨cC h.1.2 N,YF N h.2⟩
theorem MV{lo hi d:Nat}(hd:d<lo): ∀ {Y:List (Nat×AN)},YE lo hi Y=true→AJ d Y=Y
 | [],_=>rfl
 |(k,b)::r,h=>by
  simp only[YE,Zba,Zdt]at h;rw[AJ,if_neg Zo,MV hd h.2,Vg h.1.2]
theorem YG{lo hi:Nat}: ∀ {Y:List (Nat×AN)},YE lo hi Y=true→ ∀s b,Af Y s=some b→lo≤s∧s<hi
 | [],_,s,b,h=>by cases h
 |(k,c)::r,hy,s,b,h=>by
  simp only[YE,Zba,Zdt]at hy;simp only[Af]at h;split at h
  ·rename_i e;subst e;exact hy.1.1
  ·exact YG hy.2 s b h
theorem NR(N:Nat): ∀(A C:List (Nat×AN)),BD N (A++C)=BD N A++BD N C
 | [],C=>rfl
 |(k,b)::r,C=>by
  simp only[List.cons_append,BD];split
  ·rw[NR N r C];rfl
  ·exact NR N r C
theorem Zw(N:Nat): ∀ {A C:List (Nat×AN)},P4 N A→P4 N C→P4 N (A++C)
 | [],C,_,h=>h
 |(k,b)::r,C,h,h2=>⟨h.1,Zw N h.2 h2⟩
theorem A7{P:Program}{n B:Nat}{w0:AT}{c:Code}{Q:Exit→St→Prop}{st:St}(st':St)(h: ∀a w,G n B w0 st a w→G n B w0 st' a w)(h2:BY P n B w0 c Q st'):BY P n B w0 c Q st:=
 fun a w hG=>h2 a w (h a w hG)
theorem BG{P:Program}{n B:Nat}{w0:AT}{c:Code}{Q:Exit→St→Prop}{st:St}(S:St)(h2:Q .normal S)(h1:BY P n B w0 c (fun e s=>e=.normal∧ ∀a w,G n B w0 s a w→G n B w0 S a w) st):BY P n B w0 c Q st:=fun a w hG=>
 wpIn_mono (h1 a w hG) fun e a' w' ⟨s,⟨he,hs⟩,Cj⟩=>by subst he;exact⟨S,h2,hs _ _ Cj⟩
theorem G.qk{n B:Nat}{w0:AT}{st:St}{a:Act}{w:World}(hG:G n B w0 st a w)(id d:Nat)(t e:TypeId)(sz:Nat)(c:AH)(hk:Af st.heap id=some (.box t (.AF [.v (.slice none 0 0)])))(CD:id≠d)(hc:c.len=0)(qD:w0.gh d=none):
  G n B w0 ⟨CM d st.env,(id,.box t (.AF [.s d]))::(d,.row e sz c)::AJ d st.heap⟩ a w:=by
 obtain⟨ρ,I,hg⟩:=hG;have h1:=hg.new (Below.refl _ w) d (.slice none 0 0) (.row e sz c) ⟨0,[],World.ownsRow_nil w B e sz,by simp[hc],fun j u hu=>by simp at hu⟩ (fun b hb=>by simp[Ab]at hb) qD
 have El:Af ((d,.row e sz c)::AJ d st.heap) id=some (.box t (.AF [.v (.slice none 0 0)])):=by
  simp only[Af];rw[if_neg (fun e=>CD e.symm),NF,if_neg CD,hk];rfl
 refine⟨_,I,h1.defers,h1.size,h1.env,⟨fun id' blk F7=>?_,fun i1 i2 b1 b2 x x' b tW k1 k2=>?_,fun i1 b1 x b k1=>?_,h1.hw.lt⟩,h1.below,h1.base,h1.BQ⟩
 ·simp only[Af]at F7;by_cases e1:id=id'
  ·rw[if_pos e1]at F7;injection F7 with F7;subst F7;subst e1
   obtain⟨x,hx,b,us,rfl,hB,hh,hl,FE⟩:=h1.hw.ok _ _ El;refine⟨_,hx,b,us,rfl,hB,hh,hl,fun j u hu=>?_⟩
   have hj:j=0:=by
    have:=(Array.getElem?_eq_some_iff.1 hu).1;rw[hl]at this;simpa[AH.len]using this
   subst hj;have h2:=FE 0 u hu;simp only[AH.at,List.getD_cons_zero]at h2 ⊢;rw[h2.Ao];exact .s d _ (B4 _ _ _) rfl
  ·rw[if_neg e1]at F7;exact h1.hw.ok id' blk F7
 ·have conv: ∀ {i1 b1},Af ((id,.box t (.AF [.s d]))::(d,.row e sz c)::AJ d st.heap) i1=some b1→ ∃b2,Af ((d,.row e sz c)::AJ d st.heap) i1=some b2:=fun{i1 b1} h=>by
   simp only[Af]at h;by_cases e1:id=i1
   ·subst e1;exact⟨_,El⟩
   ·rw[if_neg e1]at h;exact⟨b1,h⟩
  obtain⟨c1,q1⟩:=conv k1
  obtain⟨c2,q2⟩:=conv k2
  exact h1.hw.apart i1 i2 c1 c2 x x' b tW q1 q2
 ·have: ∃b2,Af ((d,.row e sz c)::AJ d st.heap) i1=some b2:=by
   simp only[Af]at k1;by_cases e1:id=i1
   ·subst e1;exact⟨_,El⟩
   ·rw[if_neg e1]at k1;exact⟨b1,k1⟩
  obtain⟨c1,q1⟩:=this;exact h1.hw.J2 i1 c1 x b q1
theorem He(p:Nat→Prop): ∀(l:List AV),AV.Dp l=true→AV.Av p l
 | [],_=>by simp only[AV.Av]
 |x::r,h=>by
  simp only[AV.Dp,Zba]at h;simp only[AV.Av];exact⟨Zx p x h.1,He p r h.2⟩
where Zx (p:Nat→Prop): ∀(x:AV),x.F5=true→x.ids p
 | .v _,_=>by simp only[AV.ids]
 | .s _,h=>by simp[AV.F5]at h
 | .w _ _ _,h=>by simp[AV.F5]at h
 | .p _ _,h=>by simp[AV.F5]at h
 | .i _ _ _ _ _,_=>by simp only[AV.ids]
 | .q _ _ _ _ _,_=>by simp only[AV.ids]
 | .a cs,h=>by simp only[AV.F5]at h;simp only[AV.ids];exact He p cs h
 | .t cs,h=>by simp only[AV.F5]at h;simp only[AV.ids];exact He p cs h
 | .f _ cs,h=>by simp only[AV.F5]at h;simp only[AV.ids];exact He p cs h
 | .g _ x,h=>by simp only[AV.F5]at h;simp only[AV.ids];exact Zx p x h
 | .o,_=>by simp only[AV.ids]
 | .top,_=>by simp only[AV.ids]
theorem O4(N k:Nat): ∀(l:List AV),AV.Dp l=true→AV.mv.QA N k l=l
 | [],_=>rfl
 |x::r,h=>by
  simp only[AV.Dp,Zba]at h;simp only[AV.mv.QA];rw[ga N k x h.1,O4 N k r h.2]
where ga (N k:Nat): ∀(x:AV),x.F5=true→x.mv N k=x
 | .v _,_=>rfl
 | .s _,h=>by simp[AV.F5]at h
 | .w _ _ _,h=>by simp[AV.F5]at h
 | .p _ _,h=>by simp[AV.F5]at h
 | .i _ _ _ _ _,_=>rfl
 | .q _ _ _ _ _,_=>rfl
 | .a cs,h=>by simp only[AV.F5]at h;simp only[AV.mv];rw[O4 N k cs h]
 | .t cs,h=>by simp only[AV.F5]at h;simp only[AV.mv];rw[O4 N k cs h]
 | .f _ cs,h=>by simp only[AV.F5]at h;simp only[AV.mv];rw[O4 N k cs h]
 | .g _ x,h=>by simp only[AV.F5]at h;simp only[AV.mv];rw[ga N k x h]
 | .o,_=>rfl
 | .top,_=>rfl
theorem Zy{lo hi d:Nat}(hd:hi≤d): ∀ {Y:List (Nat×AN)},YE lo hi Y=true→Dh d Y=Y
 | [],_=>rfl
 |(k,b)::r,h=>by
  simp only[YE,Zba,Zdt]at h;rw[Dh,if_neg Zo,Zy hd h.2]
end Go.Ad
