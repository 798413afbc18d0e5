/- Part of a proof. -/
import Derived.Test.YthemnhjojaehhaaGreatDoorA24
set_option linter.all false
namespace Go.Tp
open Go.Ad
theorem UL{k:Nd}{t:List Sp}{l:Int}(h:t≠ []):Mm k t l≠ []:=by
 unfold Mm;split
 ·exact h
 ·simp
theorem iq{k:Nd}{t:List UInt8}{s:List Sp}{l:Int}(h:t=render s):fL k t l=render (Mm k s l):=by
 unfold fL Mm;split
 ·exact h
 ·subst h;simp[render,Ba]
theorem nG(e:Nd):Na e≠ []:=by
 unfold Na;repeat' split
 all_goals simp
theorem ir(w:List UInt8)(n:Int):render (Of w n)=w++Gf n:=by
 unfold Of Gf;split<;>simp[render]
theorem re(e:Nd)(h:0≤e.n):WG e=render (Na e):=by
 unfold WG Na;repeat' split
 ·simp[render]
 ·simp[render]
 ·simp[render]
 ·simp[render]
 ·have:Gf e.n=CZ e.n.natAbs:=by unfold Gf;rw[if_neg Zo]
  simp[render,this]
theorem PD{ss:List (List Sp)}(h: ∀s∈ss,s≠ [])(h0:ss≠ []):JD ss≠ []:=by
 match ss with
 | []=>exact absurd rfl h0
 | [s]=>exact h s (by simp)
 |s::s2::r=>rw[JD];simp
theorem Yc: ∀ {ts:List (List UInt8)} {ss:List (List Sp)} (sep:List UInt8),ts=ss.map render→(∀s∈ss,s≠ [])→ss≠ []→Bc sep ts=sep++render (JD ss)
 |_,[],_,_,_,h=>absurd rfl h
 |_,[s],sep,rfl,_,_=>by simp[Bc,JD]
 |_,s::s2::r,sep,rfl,hn,_=>by
  have ih:=Yc (ts:=(s2::r).map render) (ss:=s2::r) [44,32] rfl (fun x hx=>hn x (by simp[hx])) (by simp);have CD:JD (s2::r)≠ []:=PD (fun x hx=>hn x (by simp[hx])) (by simp);simp only[List.map_cons]at ih ⊢;rw[Bc,ih,JD,Ba,render,Ej CD];simp
theorem iu(p:Pc):render (Jf p)=Lr p:=by
 unfold Jf Lr;split<;>simp[render]
theorem pd(den:Int)(p:Pc):render (aE den p)=32::lV den p:=by
 unfold aE lV;simp only[Ba,render,ir,iu];simp
theorem iv(den:Int): ∀(l:List Pc) (s:List UInt8),render (Qd s den l)=EU (s++ [32]) den l
 | [],_=>rfl
 |p::r,s=>by
  have:=iv den r [44];simp only[Qd,EU,List.cons_append,render,Ba,pd,this];simp
theorem WY(e:Nd)(h:BC e=true):Ca e=render (HM e)∧HM e≠ []:=by
 induction e using Nd.ind with
 |h e ih=>
  obtain⟨hk,F4,XZ,Xm⟩:=JA h
  have SD:e.kids.map Ca=(e.kids.map HM).map render:=by
   rw[List.map_map];exact List.map_congr_left fun k hk=>(ih k hk (F4 k hk)).1
  have CD: ∀s∈e.kids.map HM,s≠ []:=fun s hs=>by
   obtain⟨k,hk,rfl⟩:=List.mem_map.1 hs;exact(ih k hk (F4 k hk)).2
  have N3: ∀i,i<e.kids.length→(e.kids.map Ca).getD i []=render ((e.kids.map HM).getD i [])∧(e.kids.map HM).getD i []≠ []:=fun i hi=>by
   have e1:(e.kids.map Ca).getD i []=Ca (e.kids.getD i default):=by simp[Zlg,hi]
   have e2:(e.kids.map HM).getD i []=HM (e.kids.getD i default):=by simp[Zlg,hi]
   have hm:e.kids.getD i default∈e.kids:=by simp[Zlg,hi]
   rw[e1,e2];exact ih _ hm (F4 _ hm)
  have hn:e.kind=11→0≤e.n:=fun hk=>by
   rw[EJ]at h;unfold FA at h;rw[if_pos hk]at h;simp only[Zba,Zdt]at h;exact h.1.1.1.2
  rw[Ls,Qe];unfold UH LI;by_cases k11:e.kind=11
  ·rw[if_pos k11,if_pos k11];exact⟨re e (hn k11),nG e⟩
  rw[if_neg k11,if_neg k11];by_cases k12:e.kind=12∨e.kind=14
  ·rw[if_pos k12,if_pos k12];exact⟨by simp[render],by simp⟩
  rw[if_neg k12,if_neg k12];by_cases k13:e.kind=13
  ·rw[if_pos k13,if_pos k13];exact⟨by simp[render],by simp⟩
  rw[if_neg k13,if_neg k13];by_cases k15:e.kind=15
  ·rw[if_pos k15,if_pos k15];have h0:=N3 0 (XZ Zo);refine⟨?_,by simp⟩;rw[render,Ej (UL h0.2),←iq h0.1];simp
  rw[if_neg k15,if_neg k15];by_cases k16:e.kind=16
  ·rw[if_pos k16,if_pos k16];have h0:=N3 0 (XZ Zo);have h1:=N3 1 (by rw[Xm k16];decide);refine⟨?_,by simp⟩;rw[Ba,render,Ej (UL h1.2),←iq h1.1,←iq h0.1];simp
  rw[if_neg k16,if_neg k16];by_cases k17:e.kind=17
  ·rw[if_pos k17,if_pos k17]
   have hl:e.kids.map HM≠ []:=by
    have:=XZ Zo;intro h0;have:=congrArg List.length h0;simp at this;rw[this]at XZ;simp at XZ;omega
   refine⟨?_,by simp⟩;rw[Yc _ SD CD hl];simp[render,Ba]
  rw[if_neg k17,if_neg k17];have k18:e.kind=18:=Zo
  rw[if_pos k18,if_pos k18];have h0:=N3 0 (XZ Zo);refine⟨?_,by simp⟩;simp only[List.cons_append,render,Ba,iv,h0.1];simp
theorem nH{l:List Nd}(h: ∀k∈l,BC k=true):l.map Ca=(l.map HM).map render∧ ∀s∈l.map HM,s≠ []:=by
 refine⟨?_,fun s hs=>?_⟩
 ·rw[List.map_map];exact List.map_congr_left fun k hk=>(WY k (h k hk)).1
 ·obtain⟨k,hk,rfl⟩:=List.mem_map.1 hs;exact(WY k (h k hk)).2
theorem cj{c:Nd}(h: ∀k∈c.kids,BC k=true)(h0:c.kids≠ []):AU c=render (Co c)++ [10]∧Co c≠ []:=by
 obtain⟨h1,h2⟩:=nH h;have h3:c.kids.map HM≠ []:=by simpa using h0
 refine⟨?_,by unfold Co;simp⟩;unfold AU Co;rw[Yc _ h1 h2 h3,List.cons_append,render,Ba,Ej (PD h2 h3)];unfold Je;repeat' split
 all_goals simp[render]
theorem nI(e:Nd):Ss e=render (Mn e)++ [10]:=by
 unfold Ss Mn;simp only;split<;>simp[render,Ml]
def yC(e:Nd):Prop:=(e.kind=2∨e.kind=3∨e.kind=4)∧(e.kind=4→ ∀c∈e.kids.drop 1,c.kids≠ []∧ ∀k∈c.kids,BC k=true)
theorem pe: ∀ {l:List Nd},(∀c∈l,c.kids≠ []∧ ∀k∈c.kids,BC k=true)→ [10]++(l.map AU).flatten=render ((l.map fun c=>nl (Co c)).flatten)++ [10]
 | [],_=>by simp[render]
 |c::r,h=>by
  obtain⟨h1,h2⟩:=cj (h c (by simp)).2 (h c (by simp)).1;have ih:=pe (l:=r) fun x hx=>h x (List.mem_cons_of_mem _ hx);simp only[List.map_cons,List.flatten_cons,Ba,h1];rw[List.append_assoc,List.append_assoc,←ih];unfold nl;rw[Ej h2];simp
theorem UM{e:Nd}(h:yC e):Cb e=render (IV e)++ [10]∧IV e≠ []:=by
 unfold Cb IV;by_cases k2:e.kind=2
 ·rw[if_pos k2,if_pos k2];exact⟨by simp[render],by simp⟩
 rw[if_neg k2,if_neg k2];by_cases k3:e.kind=3
 ·rw[if_pos k3,if_pos k3];exact⟨by simp[render],by simp⟩
 have k4:e.kind=4:=by rcases h.1 with h|h|h;exact absurd h k2;exact absurd h k3;exact h
 rw[if_neg k3,if_neg k3,if_pos k4,if_pos k4];have:=pe (h.2 k4);refine⟨?_,by unfold Mn;simp⟩;rw[nI,List.append_assoc (render (Mn e)),this];simp[Ba,render]
theorem WZ: ∀ {l:List Nd},(∀e∈l,yC e)→l≠ []→(l.map Cb).flatten=render (DQ l)++ [10]∧DQ l≠ []
 | [],_,h=>absurd rfl h
 | [e],h,_=>by
  obtain⟨h1,h2⟩:=UM (h e (by simp));refine⟨by simp[DQ,nl,WJ,h1],by simp[DQ,h2]⟩
 |e::e2::r,h,_=>by
  obtain⟨h1,h2⟩:=UM (h e (by simp));obtain⟨h3,h4⟩:=WZ (l:=e2::r) (fun x hx=>h x (by simp[hx])) (by simp);refine⟨?_,by rw[DQ];simp[h2]⟩;have h5:=Ej (w:= [10]) h4;rw[List.map_cons,List.flatten_cons,h3,h1,show DQ (e::e2::r)=IV e++nl (DQ (e2::r))from rfl,Ba,show nl (DQ (e2::r))=WJ [10] (DQ (e2::r))from rfl,h5];simp
theorem rf{e:Nd}(h: ∀x∈e.kids,yC x):Gq e=render (DQ e.kids)++(if e.kids= []then []else [10]):=by
 unfold Gq;by_cases h0:e.kids= []
 ·rw[h0];rfl
 ·rw[if_neg h0,(WZ h h0).1]
def BP(m:Int)(b:UInt8):Bool:=decide (b.toNat<128)&&(qW .u8 (HV.getD b.toNat 0) m != 0)
def Fi(m:Int):List UInt8→Bool
 | []=>false
 |b::_=>BP m b
def Cy(m:Int)(l:List UInt8):Nat:=(l.takeWhile (BP m)).length
def Gz(p l:List UInt8):Bool:=decide (l.take p.length=p)
def EK(l:List UInt8):List UInt8:=l.drop (Cy 1 l)
def Fj(l:List UInt8)(i:Nat):Bool:=if i=4∨i=7 then decide (l.getD i 0=45)else BP 8 (l.getD i 0)
def DK(l:List UInt8):Bool:=decide (10≤l.length)&&(List.range 10).all (Fj l)
def Rv(l:List UInt8):Option (Int×Nat):=
 if DK l=true then some (5,10)
 else if l.headD 0=48∧1<Cy 8 l then none
 else if Gz [46] (l.drop (Cy 8 l))=true then(if 10<Cy 8 l∨Fi 8 (l.drop (Cy 8 l+1))=false∨Fi 8 (l.drop (Cy 8 l+2))=false then none else some (4,Cy 8 l+3))
 else if 12<Cy 8 l then none else some (3,Cy 8 l)
def UN(l:List UInt8):Option (Int×Nat):=
 match Rv l with
 |none=>none
 |some (k,e)=>if Fi 30 (l.drop e)=true∨Gz [46] (l.drop e)=true then none else some (k,e)
def E1:List (List UInt8):= [[61,61],[33,61],[60,61],[62,61],[60],[62],[43],[45],[42],[47],[40],[41],[123],[125],[58],[59],[44]]
def EL(l:List UInt8):Option (Int×Nat):=
 if Fi 2 l=true then(if Cy 30 l≤16∧Cy 26 l=Cy 30 l then some (1,Cy 30 l)else none)
 else if Fi 4 l=true then(if Cy 30 l=3∧Cy 4 l=Cy 30 l then some (2,Cy 30 l)else none)
 else if Fi 8 l=true then UN l
 else match E1.find? (fun s=>Gz s l)with
  |some s=>some (6,s.length)
  |none=>none
inductive Mp:List UInt8→List Tk→Prop
 |nil:Mp [] []
 |cons {l:List UInt8} {k:Int} {e:Nat} {ts:List Tk} (h0:l≠ []) (hr:EL l=some (k,e)) (hc:Gz [47,47] (EK (l.drop e))=false) (h:Mp (EK (l.drop e)) ts):Mp l (⟨k,bA (l.take e)⟩::ts)
theorem Kw: ∀n:Fin 256,BP 1 (UInt8.ofNat n)=decide (n.val=32∨n.val=9∨n.val=10∨n.val=13)∧BP 2 (UInt8.ofNat n)=decide (97≤n.val∧n.val≤122)∧BP 4 (UInt8.ofNat n)=decide (65≤n.val∧n.val≤90)∧BP 8 (UInt8.ofNat n)=decide (48≤n.val∧n.val≤57)∧
  BP 26 (UInt8.ofNat n)=decide ((97≤n.val∧n.val≤122)∨(48≤n.val∧n.val≤57)∨n.val=95)∧BP 30 (UInt8.ofNat n)=decide ((97≤n.val∧n.val≤122)∨(65≤n.val∧n.val≤90)∨(48≤n.val∧n.val≤57)∨n.val=95):=by decide+kernel
section
variable(b:UInt8)
theorem ofNat_toNat:UInt8.ofNat b.toNat=b:=by simp
theorem rh:BP 1 b=decide (b.toNat=32∨b.toNat=9∨b.toNat=10∨b.toNat=13):=by have:=(Kw ⟨b.toNat,b.toNat_lt⟩).1;rwa [ofNat_toNat]at this
theorem iw:BP 2 b=decide (97≤b.toNat∧b.toNat≤122):=by have:=(Kw ⟨b.toNat,b.toNat_lt⟩).2.1;rwa [ofNat_toNat]at this
theorem Yd:BP 4 b=decide (65≤b.toNat∧b.toNat≤90):=by have:=(Kw ⟨b.toNat,b.toNat_lt⟩).2.2.1;rwa [ofNat_toNat]at this
theorem Wb:BP 8 b=decide (48≤b.toNat∧b.toNat≤57):=by have:=(Kw ⟨b.toNat,b.toNat_lt⟩).2.2.2.1;rwa [ofNat_toNat]at this
theorem pf:BP 26 b=decide ((97≤b.toNat∧b.toNat≤122)∨(48≤b.toNat∧b.toNat≤57)∨b.toNat=95):=by have:=(Kw ⟨b.toNat,b.toNat_lt⟩).2.2.2.2.1;rwa [ofNat_toNat]at this
theorem ix:BP 30 b=decide ((97≤b.toNat∧b.toNat≤122)∨(65≤b.toNat∧b.toNat≤90)∨(48≤b.toNat∧b.toNat≤57)∨b.toNat=95):=by have:=(Kw ⟨b.toNat,b.toNat_lt⟩).2.2.2.2.2;rwa [ofNat_toNat]at this
end
def G1(m:Int)(r:List UInt8):Prop:=Fi m r=false
theorem aH{m:Int}{t r:List UInt8}(h: ∀b∈t,BP m b=true)(hr:G1 m r):Cy m (t++r)=t.length:=by
 induction t with
 |nil=>
  cases r with
  |nil=>rfl
  |cons b r=>simp only[G1,Fi]at hr;simp[Cy,hr]
 |cons b t ih=>
  have h1:=h b (by simp);have h2:=ih fun x hx=>h x (by simp[hx]);simp only[Cy]at h2;simp[Cy,h1,h2]
theorem Jg(m:Int)(l:List UInt8):Cy m l≤l.length:=by
 unfold Cy;induction l with
 |nil=>simp
 |cons b r ih=>simp only[List.takeWhile_cons];split<;>simp<;>omega
theorem Qj{w t:List UInt8}(h: ∀b∈w,BP 1 b=true)(ht:G1 1 t):EK (w++t)=t:=by
 unfold EK;rw[aH h ht,List.drop_left]
theorem Wc{w:List UInt8}(h: ∀b∈w,BP 1 b=true):EK w= []:=by
 have:=Qj (t:= []) h rfl
 rwa [List.append_nil]at this
def Mq(p:Sp)(b:UInt8):Bool:=
 if p.kd=6 then(!(p.tx== [60]||p.tx== [62])||b != 61)&&(!(p.tx== [47])||b != 47)
 else !BP 30 b&&b != 46&&b != 45
def Sx(p:Sp):List UInt8→Bool
 | []=>true
 |b::_=>Mq p b
def Jw(t:List UInt8):Bool:=Fi 2 t&&decide (t.length≤16)&&t.all (BP 26)
def Wd(t:List UInt8):Bool:=decide (t.length=3)&&t.all (BP 4)
def Rw(t:List UInt8):Bool:= !t.isEmpty&&t.all (BP 8)&&(decide (t.length≤1)||decide (t.headD 0≠48))
def nJ(p:Sp):Prop:=
 (p.kd=1∧Jw p.tx=true)∨(p.kd=2∧Wd p.tx=true)∨(p.kd=3∧Rw p.tx=true∧p.tx.length≤12)∨
 (p.kd=4∧ ∃d f,p.tx=d++46::f∧Rw d=true∧d.length≤10∧f.length=2∧f.all (BP 8)=true)∨
 (p.kd=5∧p.tx.length=10∧DK p.tx=true)∨(p.kd=6∧p.tx∈E1)
def Qk(p:Sp):Prop:=nJ p∧ ∀b∈p.ws,BP 1 b=true
theorem KU{p:Sp}{r:List UInt8}(h:Sx p r=true)(hk:p.kd≠6):G1 30 r∧Gz [46] r=false∧r.head?≠some 45:=by
 cases r with
 |nil=>exact⟨rfl,rfl,by simp⟩
 |cons b r=>
  simp only[Sx,Mq,if_neg hk,Zba,Bool.not_eq_true',bne_iff_ne]at h;obtain⟨⟨h1,h2⟩,h3⟩:=h;refine⟨h1,?_,by simpa using h3⟩;unfold Gz;simp[h2]
theorem Ng{m:Int}{r:List UInt8}(hm: ∀b,BP m b=true→BP 30 b=true)(h:G1 30 r):G1 m r:=by
 cases r with
 |nil=>rfl
 |cons b r=>
  simp only[G1,Fi]at h ⊢;cases hh:BP m b with
  |false=>rfl
  |true=>rw[hm b hh]at h;cases h
theorem m26(b:UInt8)(h:BP 26 b=true):BP 30 b=true:=by
 rw[pf,Zdt]at h;rw[ix,Zdt];omega
theorem m4(b:UInt8)(h:BP 4 b=true):BP 30 b=true:=by
 rw[Yd,Zdt]at h;rw[ix,Zdt];omega
theorem m8(b:UInt8)(h:BP 8 b=true):BP 30 b=true:=by
 rw[Wb,Zdt]at h;rw[ix,Zdt];omega
theorem HC{m:Int}{t r:List UInt8}(h:t≠ []):Fi m (t++r)=Fi m t:=by
 cases t with
 |nil=>exact absurd rfl h
 |cons b t=>rfl
theorem Kx{m:Int}{t:List UInt8}(h:t≠ [])(ha:t.all (BP m)=true):Fi m t=true:=by
 cases t with
 |nil=>exact absurd rfl h
 |cons b t=>simp at ha;exact ha.1
theorem pg{t:List UInt8}(h:t≠ [])(ha:t.all (BP 8)=true):Fi 2 t=false∧Fi 4 t=false:=by
 cases t with
 |nil=>exact absurd rfl h
 |cons b t=>
  simp only[List.all_cons,Zba]at ha;have:=ha.1;rw[Wb,Zdt]at this;simp only[Fi,iw,Yd,decide_eq_false_iff_not];omega
theorem HN{t:List UInt8}(h:Rw t=true):t≠ []∧t.all (BP 8)=true∧(t.length≤1∨t.headD 0≠48):=by
 unfold Rw at h;simp only[Zba,Bool.or_eq_true,Zdt,Bool.not_eq_true',List.isEmpty_eq_false_iff]at h;exact⟨h.1.1,h.1.2,h.2⟩
theorem JE{m:Int}{t r:List UInt8}(ha:t.all (BP m)=true)(hs:G1 m r):Cy m (t++r)=t.length:=
 aH (by simpa using ha) hs
theorem OJ{t r:List UInt8}{i:Nat}(h:i<t.length):(t++r).getD i 0=t.getD i 0:=by
 simp[Zlg,List.getElem?_append_left h]
theorem OK{t r:List UInt8}:(t++r).getD t.length 0=r.headD 0:=by
 cases r with
 |nil=>simp[Zlg]
 |cons b r=>simp[Zlg]
theorem We{d r:List UInt8}(hd:d≠ [])(ha:d.all (BP 8)=true)(hs:G1 8 r)(yS:r.head?≠some 45):DK (d++r)=false:=by
 cases hh:DK (d++r)with
 |false=>rfl
 |true=>
  unfold DK at hh;rw[Zba,List.all_eq_true]at hh;obtain⟨VJ,hh⟩:=hh;rw[Zdt]at VJ;exfalso;rcases Nat.lt_trichotomy d.length 4 with h|h|h
  ·have:=hh d.length (by simp;omega);unfold Fj at this;rw[if_neg Zo,OK]at this;cases r with
   |nil=>simp at VJ;omega
   |cons b r=>simp only[G1,Fi]at hs;simp at this;rw[hs]at this;cases this
  ·have:=hh 4 (by simp);unfold Fj at this;rw[if_pos (.inl rfl),←h,OK,Zdt]at this;cases r with
   |nil=>simp at VJ;omega
   |cons b r=>simp at this yS;exact yS this
  ·have:=hh 4 (by simp);unfold Fj at this;rw[if_pos (.inl rfl),OJ h,Zdt]at this;have h4:d.getD 4 0∈d:=by simp[Zlg,h]
   rw[List.all_eq_true]at ha;have:=ha _ h4;rw[‹d.getD 4 0=45›]at this;exact absurd this ZD
theorem FJ{d r:List UInt8}:(d++r).drop d.length=r:=List.drop_left
theorem Nh{d r:List UInt8}{n:Nat}:(d++r).drop (d.length+n)=r.drop n:=by
 rw[←List.drop_drop,List.drop_left]
theorem iy{t r:List UInt8}(h:Rw t=true)(hl:t.length≤12)(hs:G1 30 r)(pF:Gz [46] r=false)(yS:r.head?≠some 45):EL (t++r)=some (3,t.length):=by
 obtain⟨h1,h2,h3⟩:=HN h;obtain⟨n2,n4⟩:=pg h1 h2;have eo:=Ng m8 hs;have B1:=JE h2 eo;unfold EL;rw[HC h1,HC h1,HC h1,n2,n4,Kx h1 h2,if_neg (by simp),if_neg (by simp),if_pos rfl];unfold UN Rv;rw[We h1 h2 eo yS,if_neg (by simp),B1,FJ,pF,if_neg,if_neg (by simp),if_neg Zo]
 ·simp only[FJ,pF];rw[if_neg];rw[hs];simp
 ·rintro⟨h5,h6⟩;rcases h3 with h3|h3
  ·omega
  ·apply h3;cases t with
   |nil=>exact absurd rfl h1
   |cons b t=>exact h5
theorem Ye{d f r:List UInt8}(h:Rw d=true)(hl:d.length≤10)(hf:f.length=2)(qK:f.all (BP 8)=true)(hs:G1 30 r)(pF:Gz [46] r=false):EL ((d++46::f)++r)=some (4,(d++46::f).length):=by
 obtain⟨h1,h2,h3⟩:=HN h;obtain⟨n2,n4⟩:=pg h1 h2;have eo:G1 8 (46::f++r):=(by decide+kernel:BP 8 46=false);rw[List.append_assoc];have B1:=JE h2 eo
 match f,hf with
 | [x,y],_=>
 simp only[List.all_cons,Zba]at qK;obtain⟨hx,hy,_⟩:=qK;unfold EL;rw[HC h1,HC h1,HC h1,n2,n4,Kx h1 h2,if_neg (by simp),if_neg (by simp),if_pos rfl];unfold UN Rv;rw[We h1 h2 eo (by simp),if_neg (by simp),B1,FJ,Nh,Nh,show Gz [46] (46:: [x,y]++r)=true by simp[Gz],if_neg,if_pos rfl,if_neg]
 ·simp only[Nh];have e3:(46:: [x,y]++r).drop 3=r:=rfl;rw[e3,pF,if_neg]
  ·simp
  ·rw[hs];simp
 ·have e1:Fi 8 ((46:: [x,y]++r).drop 1)=true:=hx;have e2:Fi 8 ((46:: [x,y]++r).drop 2)=true:=hy;rw[e1,e2];simp;omega
 ·rintro⟨h5,h6⟩;rcases h3 with h3|h3
  ·omega
  ·apply h3;cases d with
   |nil=>exact absurd rfl h1
   |cons b t=>exact h5
theorem iz{t r:List UInt8}(VJ:t.length=10)(h:DK t=true):DK (t++r)=true:=by
 unfold DK at h ⊢;rw[Zba,List.all_eq_true]at h ⊢;refine⟨by rw[Zdt];simp;omega,fun i hi=>?_⟩;have:=h.2 i hi;unfold Fj at this ⊢;rw[OJ (by rw[VJ];simpa using hi)];exact this
theorem ck{t r:List UInt8}(VJ:t.length=10)(h:DK t=true)(hs:G1 30 r)(pF:Gz [46] r=false):EL (t++r)=some (5,t.length):=by
 have h0:BP 8 (t.getD 0 0)=true:=by
  unfold DK at h;rw[Zba,List.all_eq_true]at h;have:=h.2 0 (by simp);unfold Fj at this;rw[if_neg Zo]at this;exact this
 match t,VJ with
 |b::t,VJ=>
 have h0:BP 8 b=true:=h0;have hb:=h0;rw[Wb,Zdt]at hb;unfold EL;have e2:Fi 2 (b::t++r)=false:=by simp only[List.cons_append,Fi,iw,decide_eq_false_iff_not];omega
 have e4:Fi 4 (b::t++r)=false:=by simp only[List.cons_append,Fi,Yd,decide_eq_false_iff_not];omega
 have e8:Fi 8 (b::t++r)=true:=h0;rw[e2,e4,e8,if_neg (by simp),if_neg (by simp),if_pos rfl];unfold UN Rv;rw[iz VJ h,if_pos rfl];have ed:(b::t++r).drop 10=r:=by rw[←VJ];exact FJ
 simp only[ed,pF];rw[if_neg,VJ];rw[hs];simp
theorem cq{t r:List UInt8}(h:Jw t=true)(hs:G1 30 r):EL (t++r)=some (1,t.length):=by
 unfold Jw at h;simp only[Zba,Zdt]at h;obtain⟨⟨h1,h2⟩,h3⟩:=h;have CD:t≠ []:=fun h0=>by subst h0;cases h1
 have th:t.all (BP 30)=true:=by
  rw[List.all_eq_true]at h3 ⊢;exact fun b hb=>m26 b (h3 b hb)
 unfold EL;rw[HC CD,h1,if_pos rfl,JE h3 (Ng m26 hs),JE th hs,if_pos ⟨h2,rfl⟩]
theorem jA{t r:List UInt8}(h:Wd t=true)(hs:G1 30 r):EL (t++r)=some (2,t.length):=by
 unfold Wd at h;simp only[Zba,Zdt]at h;obtain⟨h2,h3⟩:=h;have CD:t≠ []:=fun h0=>by subst h0;cases h2
 have th:t.all (BP 30)=true:=by
  rw[List.all_eq_true]at h3 ⊢;exact fun b hb=>m4 b (h3 b hb)
 have n2:Fi 2 t=false:=by
  cases t with
  |nil=>exact absurd rfl CD
  |cons b t=>
   simp only[List.all_cons,Zba,Yd,Zdt]at h3;simp only[Fi,iw,decide_eq_false_iff_not];omega
 unfold EL;rw[HC CD,HC CD,n2,Kx CD h3,if_neg (by simp),if_pos rfl,JE h3 (Ng m4 hs),JE th hs,if_pos ⟨h2,rfl⟩]
theorem Sy: ∀s∈E1,∀b∈s.head?,BP 2 b=false∧BP 4 b=false∧BP 8 b=false∧BP 1 b=false:=by decide+kernel
def jB(s:List UInt8)(r:List UInt8):Prop:=E1.find? (fun x=>Gz x (s++r))=some s
theorem PF{a b c:UInt8}{r:List UInt8}:Gz [a,b] (c::r)=(decide (c=a)&&decide (r.head?=some b)):=by
 cases r with
 |nil=>simp[Gz]
 |cons d r=>simp[Gz]
theorem UO{a c:UInt8}{r:List UInt8}:Gz [a] (c::r)=decide (c=a):=by simp[Gz]
theorem ri{p:Sp}{r:List UInt8}(hk:p.kd=6)(hs:p.tx∈E1)(hf:Sx p r=true):jB p.tx r:=by
 obtain⟨w,k,t⟩:=p;simp only at hk hs hf ⊢;subst hk
 have h60:(t= [60]∨t= [62])→r.head?≠some 61:=fun ht=>by
  cases r with
  |nil=>simp
  |cons b r=>
   simp only[Sx,Mq,reduceIte,Zba,Bool.or_eq_true,Bool.not_eq_true',bne_iff_ne]at hf;have:=hf.1;rcases ht with rfl|rfl<;>simpa using this
 unfold jB;simp only[E1,List.mem_cons,List.not_mem_nil,or_false]at hs;rcases hs with rfl|rfl|rfl|rfl|rfl|rfl|rfl|rfl|rfl|rfl|rfl|rfl|rfl|rfl|rfl|rfl|rfl
 all_goals first
  |(have:=h60 (.inl rfl);simp[E1,PF,UO,this];done)
  |(have:=h60 (.inr rfl);simp[E1,PF,UO,this];done)
  |(simp[E1,PF,UO];done)
theorem jC{p:Sp}{r:List UInt8}(hk:p.kd=6)(hs:p.tx∈E1)(hf:Sx p r=true):EL (p.tx++r)=some (6,p.tx.length):=by
 have h1:=ri hk hs hf;have CD:p.tx≠ []:=fun h0=>by rw[h0]at hs;exact absurd hs Zd
 have h2:=Sy _ hs;unfold EL;unfold jB at h1
 match ht:p.tx,CD with
 |b::t,_=>
 rw[ht]at h1 h2;obtain⟨n2,n4,n8,_⟩:=h2 b rfl;have e2:Fi 2 (b::t++r)=false:=n2;have e4:Fi 4 (b::t++r)=false:=n4;have e8:Fi 8 (b::t++r)=false:=n8;rw[e2,e4,e8,if_neg (by simp),if_neg (by simp),if_neg (by simp),h1]
theorem aI{p:Sp}{r:List UInt8}(h:nJ p)(hf:Sx p r=true):EL (p.tx++r)=some (p.kd,p.tx.length):=by
 rcases h with ⟨hk,h⟩|⟨hk,h⟩|⟨hk,h,hl⟩|⟨hk,d,f,ht,h1,h2,h3,h4⟩|⟨hk,h1,h2⟩|⟨hk,h⟩
 ·obtain⟨s1,s2,s3⟩:=KU hf Zo;rw[hk];exact cq h s1
 ·obtain⟨s1,s2,s3⟩:=KU hf Zo;rw[hk];exact jA h s1
 ·obtain⟨s1,s2,s3⟩:=KU hf Zo;rw[hk];exact iy h hl s1 s2 s3
 ·obtain⟨s1,s2,s3⟩:=KU hf Zo;rw[hk,ht];exact Ye h1 h2 h3 h4 s1 s2
 ·obtain⟨s1,s2,s3⟩:=KU hf Zo;rw[hk];exact ck h1 h2 s1 s2
 ·rw[hk];exact jC hk h hf
theorem JF{p:Sp}(h:nJ p): ∃b t,p.tx=b::t∧BP 1 b=false:=by
 have key: ∀(m:Int) (t:List UInt8),(∀b,BP m b=true→BP 1 b=false)→Fi m t=true→ ∃b r,t=b::r∧BP 1 b=false:=fun m t hm ht=>by
  cases t with
  |nil=>cases ht
  |cons b r=>exact⟨b,r,rfl,hm b ht⟩
 have d8: ∀b,BP 8 b=true→BP 1 b=false:=fun b hb=>by rw[Wb,Zdt]at hb;rw[rh,decide_eq_false_iff_not];omega
 have d2: ∀b,BP 2 b=true→BP 1 b=false:=fun b hb=>by rw[iw,Zdt]at hb;rw[rh,decide_eq_false_iff_not];omega
 have d4: ∀b,BP 4 b=true→BP 1 b=false:=fun b hb=>by rw[Yd,Zdt]at hb;rw[rh,decide_eq_false_iff_not];omega
 rcases h with ⟨hk,h⟩|⟨hk,h⟩|⟨hk,h,hl⟩|⟨hk,d,f,ht,h1,h2,h3,h4⟩|⟨hk,h1,h2⟩|⟨hk,h⟩
 ·unfold Jw at h;simp only[Zba]at h;exact key 2 _ d2 h.1.1
 ·unfold Wd at h;simp only[Zba,Zdt]at h;exact key 4 _ d4 (Kx (fun h0=>by rw[h0]at h;simp at h) h.2)
 ·obtain⟨g1,g2,_⟩:=HN h;exact key 8 _ d8 (Kx g1 g2)
 ·obtain⟨g1,g2,_⟩:=HN h1;obtain⟨b,t,rfl,hb⟩:=key 8 d d8 (Kx g1 g2);exact⟨b,t++46::f,by rw[ht];rfl,hb⟩
 ·unfold DK at h2;rw[Zba,List.all_eq_true]at h2;have:=h2.2 0 (by simp);unfold Fj at this;rw[if_neg Zo]at this;cases ht:p.tx with
  |nil=>rw[ht]at h1;cases h1
  |cons b t=>rw[ht]at this;exact⟨b,t,rfl,d8 b this⟩
 ·cases ht:p.tx with
  |nil=>rw[ht]at h;exact absurd h Zd
  |cons b t=>exact⟨b,t,rfl,(Sy _ h b (by rw[ht];rfl)).2.2.2⟩
def DV:List Sp→List UInt8→Prop
 | [],_=>True
 |p::r,t=>Qk p∧Sx p (render r++t)=true∧DV r t
theorem Ql{p:Sp}{r:List UInt8}(h:nJ p)(hf:Sx p r=true):Gz [47,47] (p.tx++r)=false:=by
 cases hh:Gz [47,47] (p.tx++r)with
 |false=>rfl
 |true=>
  exfalso;obtain⟨b,t,ht,hb⟩:=JF h;rw[ht,List.cons_append,PF,Zba,Zdt,Zdt]at hh;obtain⟨rfl,h2⟩:=hh;rcases h with ⟨hk,h⟩|⟨hk,h⟩|⟨hk,h,hl⟩|⟨hk,d,f,ht2,h1,_⟩|⟨hk,h1,h3⟩|⟨hk,h⟩
  ·rw[ht]at h;unfold Jw at h;simp only[Zba]at h;have h2:BP 2 47=true:=h.1.1;exact absurd h2 ZD
  ·rw[ht]at h;unfold Wd at h;simp only[Zba,List.all_cons]at h;exact absurd h.2.1 ZD
  ·rw[ht]at h;obtain⟨_,h,_⟩:=HN h;simp only[Zba,List.all_cons]at h;exact absurd h.1 ZD
  ·obtain⟨g1,g2,_⟩:=HN h1;rw[ht]at ht2;cases d with
   |nil=>exact absurd rfl g1
   |cons c d=>
    injection ht2 with e1 _;subst e1;simp only[Zba,List.all_cons]at g2;exact absurd g2.1 ZD
  ·rw[ht]at h3;unfold DK at h3;rw[Zba,List.all_eq_true]at h3;have:=h3.2 0 (by simp);unfold Fj at this;rw[if_neg Zo]at this;have h2:BP 8 47=true:=this;exact absurd h2 ZD
  ·rw[ht]at h;simp only[E1,List.mem_cons,List.not_mem_nil,or_false]at h;have ht0:t= []:=by simpa using h
   subst ht0;cases r with
   |nil=>simp at h2
   |cons c r=>
    simp at h2;subst h2
    simp[Sx,Mq,hk,ht]at hf
theorem Sz: ∀(r:List Sp) (p:Sp) (t:List UInt8),(∀b∈t,BP 1 b=true)→DV (p::r) t→Mp (p.tx++(render r++t)) ((p::r).map Sp.tk)∧Gz [47,47] (p.tx++(render r++t))=false
 | [],p,t,ht,⟨h1,h2,_⟩=>by
  refine⟨?_,Ql h1.1 h2⟩;have hr:=aI h1.1 h2;obtain⟨b,tt,he,_⟩:=JF h1.1;have:=Mp.cons (ts:= []) (by rw[he];simp) hr (by rw[FJ];simp only[render,List.nil_append];rw[Wc ht];rfl) (by rw[FJ];simp only[render,List.nil_append];rw[Wc ht];exact .nil);rw[List.take_left]at this;exact this
 |q::r,p,t,ht,⟨h1,h2,h3⟩=>by
  refine⟨?_,Ql h1.1 h2⟩;obtain⟨ih1,ih2⟩:=Sz r q t ht h3;have hr:=aI h1.1 h2;obtain⟨b,tt,he,_⟩:=JF h1.1;obtain⟨b2,t2,zn,J4⟩:=JF h3.1.1
  have ua:EK (render (q::r)++t)=q.tx++(render r++t):=by
   simp only[render,List.append_assoc];exact Qj h3.1.2 (by rw[zn];exact J4)
  have:=Mp.cons (ts:=(q::r).map Sp.tk) (l:=p.tx++(render (q::r)++t)) (by rw[he];simp) hr (by rw[FJ,ua];exact ih2) (by rw[FJ,ua];exact ih1);rw[List.take_left]at this;exact this
def Hp(mo:Int):Int:=(mo / 12)*365+(mo / 12+3) / 4+Dw.getD (mo%12).toNat 0+(if 1<mo%12∧(2000+mo / 12)%4=0 then 1 else 0)
def cr(y m d:Int):Int:=Hp ((y - 2000)*12+m - 1)+d - 1
def Qm(y m d:Int):Prop:=(2000≤y∧y≤2099)∧(1≤m∧m≤12)∧1≤d∧d≤IC y (m - 1).toNat
theorem Lu(y:Int)(m:Nat)(q:Int):IC (y+4*q) m=IC y m:=by
 unfold IC;rw[show(y+4*q)%4=y%4 by omega]
theorem Jh(q:Int): ∀(f k:Nat) (y0 r:Int),Cn (y0+4*q) f k r=((Cn y0 f k r).1+4*q,(Cn y0 f k r).2)
 |0,k,y0,r=>by simp only[Cn];rw[show y0+4*q+((k / 12:Nat):Int)=y0+((k / 12:Nat):Int)+4*q by omega]
 |f+1,k,y0,r=>by
  have e:y0+4*q+((k / 12:Nat):Int)=y0+((k / 12:Nat):Int)+4*q:=Zo
  simp only[Cn,e,Lu];split
  ·rfl
  ·exact Jh q f (k+1) y0 _
def rj(r:Nat):Bool:=
 let x:=Cn 2000 48 0 r
 decide (2000≤x.1∧x.1≤2003)&&decide (x.2.1<12)&&decide (0≤x.2.2∧x.2.2<IC x.1 x.2.1)&&decide (Hp ((x.1 - 2000)*12+x.2.1)+x.2.2=r)
theorem aJ:(List.range 1461).all rj=true:=by decide+kernel
theorem UP(mo q:Int)(h0:0≤mo)(hq:0≤q):Hp (mo+48*q)=Hp mo+1461*q:=by
 unfold Hp;rw[show(mo+48*q) / 12=mo / 12+4*q by omega,show(mo+48*q)%12=mo%12 by omega,show(2000+(mo / 12+4*q))%4=(2000+mo / 12)%4 by omega];omega
theorem jD:(List.range 4).all (fun i=>(List.range 12).all fun m=>decide (28≤IC (2000+i:Nat) m)&&decide (IC (2000+i:Nat) m≤31))=true:=by decide+kernel
theorem IX(y:Int)(m:Nat)(hm:m<12):28≤IC y m∧IC y m≤31:=by
 have h:=jD;rw[List.all_eq_true]at h;have h1:=h (y%4).toNat (List.mem_range.2 Zo);rw[List.all_eq_true]at h1;have h2:=h1 m (List.mem_range.2 hm);simp only[Zba,Zdt]at h2
 have e:IC (2000+(y%4).toNat:Nat) m=IC y m:=by
  have:=Lu (2000+(y%4).toNat:Nat) m ((y - 2000) / 4);rw[←this]
  congr 1
  omega
 rw[e]at h2;exact h2
theorem KV{d:Int}(h0:0≤d)(h1:d≤36524):Qm (B9 d).1 (B9 d).2.1 (B9 d).2.2∧cr (B9 d).1 (B9 d).2.1 (B9 d).2.2=d:=by
 obtain⟨q,hq⟩: ∃q,q=d / 1461:=⟨_,rfl⟩;obtain⟨r,hr⟩: ∃r:Nat,r=(d%1461).toNat:=⟨_,rfl⟩;have hd:d=1461*q+r:=Zo
 have hc:=aJ;rw[List.all_eq_true]at hc;have hc:=hc r (List.mem_range.2 Zo)
 have he:Cn (2000+d / 1461*4) 48 0 (d%1461)=((Cn 2000 48 0 r).1+4*q,(Cn 2000 48 0 r).2):=by
  rw[show 2000+d / 1461*4=2000+4*q by omega,show d%1461=(r:Int) by omega];exact Jh q 48 0 2000 r
 unfold rj at hc;unfold B9;rw[he];generalize Cn 2000 48 0 (r:Int)=x at*;obtain⟨y,m,dd⟩:=x;simp only[Zba,Zdt]at hc ⊢;obtain⟨⟨⟨⟨a1,a2⟩,a3⟩,a4,a5⟩,a6⟩:=hc;have zo:0≤q∧q≤24:=Zo
 have e1:((m:Int)+1 - 1).toNat=m:=Zo
 refine⟨⟨Zo,Zo,Zo,?_⟩,?_⟩
 ·rw[e1,Lu];omega
 ·unfold cr;rw[show(y+4*q - 2000)*12+((m:Int)+1) - 1=((y - 2000)*12+m)+48*q by omega,UP _ _ Zo zo.1];omega
abbrev dB(n:Nat):UInt8:=UInt8.ofNat (48+n)
theorem yz{n:Nat}(h:1000≤n)(h2:n<10000):CL n= [dB (n / 1000),dB (n / 100%10),dB (n / 10%10),dB (n%10)]:=by
 unfold CL;simp only[Gh,if_neg (show¬n<10 by omega),if_neg (show¬n / 10<10 by omega),if_neg (show¬n / 10 / 10<10 by omega),if_pos (show n / 10 / 10 / 10<10 by omega)];rw[show n / 10 / 10 / 10=n / 1000 by omega,show n / 10 / 10%10=n / 100%10 by omega];rfl
theorem aK{n:Int}(h0:0≤n)(h:n<100):Rr n= [dB (n.toNat / 10),dB (n.toNat%10)]:=by
 unfold Rr;have:=Hm (n:=n.toNat) Zo;unfold NY at this;by_cases h1:n<10
 ·rw[if_pos h1];rw[if_pos Zo]at this;exact this
 ·rw[if_neg h1];rw[if_neg Zo]at this;exact this
def Hq(y m d:Nat):List UInt8:= [dB (y / 1000),dB (y / 100%10),dB (y / 10%10),dB (y%10),45,dB (m / 10),dB (m%10),45,dB (d / 10),dB (d%10)]
theorem UQ{d:Int}(h0:0≤d)(h1:d≤36524):DY d=Hq (B9 d).1.toNat (B9 d).2.1.toNat (B9 d).2.2.toNat:=by
 obtain⟨⟨⟨a1,a2⟩,⟨b1,b2⟩,c1,c2⟩,_⟩:=KV h0 h1;have:=(IX (B9 d).1 ((B9 d).2.1 - 1).toNat Zo).2;unfold DY Hq;rw[yz Zo Zo,aK Zo Zo,aK Zo Zo];rfl
theorem KW{n:Nat}(h:n<10):BP 8 (dB n)=true:=by
 rw[Wb,Zdt,toNat_ofNat h];omega
theorem jE{y m d:Nat}(hy:y<10000)(hm:m<100)(hd:d<100):DK (Hq y m d)=true:=by
 unfold DK;rw[Zba,List.all_eq_true];refine⟨rfl,fun i hi=>?_⟩;have hi:i<10:=by simpa using hi
 have c1:=KW (n:=y / 1000) Zo;have c2:=KW (n:=y / 100%10) Zo;have c3:=KW (n:=y / 10%10) Zo;have c4:=KW (n:=y%10) Zo;have c5:=KW (n:=m / 10) Zo;have c6:=KW (n:=m%10) Zo;have c7:=KW (n:=d / 10) Zo;have c8:=KW (n:=d%10) Zo
 match i,hi with
 |0,_=>exact c1
 |1,_=>exact c2
 |2,_=>exact c3
 |3,_=>exact c4
 |4,_=>rfl
 |5,_=>exact c5
 |6,_=>exact c6
 |7,_=>rfl
 |8,_=>exact c7
 |9,_=>exact c8
theorem S0{d:Int}(h0:0≤d)(h1:d≤36524):(DY d).length=10∧DK (DY d)=true:=by
 obtain⟨⟨⟨a1,a2⟩,⟨b1,b2⟩,c1,c2⟩,_⟩:=KV h0 h1;have:=(IX (B9 d).1 ((B9 d).2.1 - 1).toNat Zo).2;rw[UQ h0 h1];exact⟨rfl,jE Zo Zo Zo⟩
end Go.Tp
