/- Part of a proof. -/
import Derived.Test.YthemnhjojaehhaaGreatDoorA26
import Derived.Test.YthemnhjojaehhaaGreatDoorA25
set_option linter.all false
namespace Go.Tp
open Go.Ad
def DL:List UInt8→Bool
 | []=>true
 |b::_=>b==32||b==10||b==59||b==44||b==41
theorem AY{p:Sp}{t:List UInt8}(h:DL t=true):Sx p t=true:=by
 cases t with
 |nil=>rfl
 |cons b t=>
  simp only[DL,Bool.or_eq_true,beq_iff_eq]at h;simp only[Sx,Mq];rcases h with (((rfl|rfl)|rfl)|rfl)|rfl<;>(split<;>simp<;>decide+kernel)
theorem CF: ∀b∈([]:List UInt8),BP 1 b=true:=fun b h=>by cases h
theorem Ch: ∀b∈([32]:List UInt8),BP 1 b=true:=by decide+kernel
theorem aL: ∀b∈([10]:List UInt8),BP 1 b=true:=by decide+kernel
theorem rk: ∀b∈([32,32]:List UInt8),BP 1 b=true:=by decide+kernel
theorem Bt: ∀ {a b:List Sp} {t:List UInt8},DV a (render b++t)→DV b t→DV (a++b) t
 | [],b,t,_,h=>h
 |p::r,b,t,⟨h1,h2,h3⟩,h=>⟨h1,by show Sx p (render (r++b)++t)=true;rw[Ba,List.append_assoc];exact h2,Bt h3 h⟩
theorem HP{w:List UInt8}(hw: ∀b∈w,BP 1 b=true): ∀ {l:List Sp} {t:List UInt8},DV l t→DV (WJ w l) t
 | [],t,h=>h
 |p::r,t,⟨⟨h1,h2⟩,h3,h4⟩=>⟨⟨h1,fun b hb=>by
  rcases List.mem_append.1 hb with hb|hb
  ·exact hw b hb
  ·exact h2 b hb⟩,by
   cases hr:render r++t with
   |nil=>rfl
   |cons c cs=>rw[hr]at h3;exact h3,h4⟩
theorem KX{w:UInt8}{l:List Sp}{t:List UInt8}(hw:w=32∨w=10)(h:l≠ []):DL (render (WJ [w] l)++t)=true:=by
 rw[Ej h];rcases hw with rfl|rfl<;>rfl
theorem cv{w:UInt8}{l:List Sp}{t:List UInt8}(hw:w=32∨w=10)(ht:DL t=true):DL (render (WJ [w] l)++t)=true:=by
 cases l with
 |nil=>exact ht
 |cons p r=>exact KX hw (by simp)
theorem DR{t:List UInt8}{w:List UInt8}(h:t∈E1)(hw: ∀b∈w,BP 1 b=true):Qk ⟨w,6,t⟩:=⟨.inr (.inr (.inr (.inr (.inr ⟨rfl,h⟩)))),hw⟩
theorem CA{t:List UInt8}{w:List UInt8}(h:Jw t=true)(hw: ∀b∈w,BP 1 b=true):Qk ⟨w,1,t⟩:=⟨.inl ⟨rfl,h⟩,hw⟩
theorem Lv{t:List UInt8}{w:List UInt8}(h:Rw t=true∧t.length≤12)(hw: ∀b∈w,BP 1 b=true):Qk ⟨w,3,t⟩:=⟨.inr (.inr (.inl ⟨rfl,h.1,h.2⟩)),hw⟩
theorem UR{d:Int}{w:List UInt8}(h0:0≤d)(h1:d≤36524)(hw: ∀b∈w,BP 1 b=true):Qk ⟨w,5,DY d⟩:=⟨.inr (.inr (.inr (.inr (.inl ⟨rfl,S0 h0 h1⟩)))),hw⟩
theorem nK(n:Nat):(CL n).all (BP 8)=true:=by
 rw[List.all_eq_true];intro b hb;rw[Wb,Zdt];exact Sq n b hb
theorem Wf{n:Nat}(h:n<10^20):Rw (CL n)=true:=by
 unfold Rw;have h1:=Lq n;have h2:=nK n;simp only[h2,Bool.and_true,Zba,Bool.not_eq_true',List.isEmpty_eq_false_iff,Bool.or_eq_true,Zdt];refine⟨h1,?_⟩;cases hd:CL n with
 |nil=>exact absurd hd h1
 |cons b r=>
  cases r with
  |nil=>exact .inl (by simp)
  |cons c r=>exact .inr fun h0=>ij h hd (by simp) (by simpa using congrArg UInt8.toNat h0)
theorem Ji{n:Nat}(h:n<10^12):Rw (CL n)=true∧(CL n).length≤12:=⟨Wf Zo,Bn h Zd⟩
theorem Qn{n:Nat}{w:List UInt8}(h:n<10^12)(hw: ∀b∈w,BP 1 b=true):Qk ⟨w,4,CZ n⟩:=
 ⟨.inr (.inr (.inr (.inl ⟨rfl,CL (n / 100),NY (n%100),rfl,Wf Zo,Bn (k:=10) Zo Zd,by rw[Hm Zo];rfl,by
  rw[List.all_eq_true];intro b hb;rw[Wb,Zdt];exact ik Zo b hb⟩))),hw⟩
theorem Qo(s:ByteArray)(i:Nat):DC s i=((bl s).getD i 0).toNat:=by
 unfold DC;simp[Zlg,Zag]
theorem aM{l:List UInt8}{i:Nat}(h:i<l.length):l.getD i 0=l[i]:=by rw[Zlg,Zeg h];rfl
theorem jF(s:ByteArray):(bl s).length=s.size:=Array.length_toList
theorem Mr{s:ByteArray}(h:BK s=true):Jw (bl s)=true∧Hj s=false:=by
 unfold BK at h;simp only[Zba,Zdt,Bool.not_eq_true']at h;obtain⟨⟨⟨⟨h1,h2⟩,h3⟩,h4⟩,h5⟩:=h;refine⟨?_,h4⟩;have hl:=jF s
 have hs:(bl s).all (BP 26)=true:=by
  rw[List.all_eq_true];intro b hb;obtain⟨i,hi,rfl⟩:=List.getElem_of_mem hb;have:=Ku h5 (i:=i) Zo;rw[Qo,T3,aM hi]at this;rw[pf,Zdt];exact this
 rw[Qo,QS]at h3;unfold Jw;simp only[hs,Bool.and_true,Zba,Zdt];refine⟨?_,Zo⟩;cases hb:bl s with
 |nil=>rw[hb]at hl;simp at hl;omega
 |cons b r=>rw[hb]at h3;simp only[Fi,iw,Zdt];exact h3
theorem Yf{s:ByteArray}(h:C3 s=true):Wd (bl s)=true:=by
 unfold C3 at h;simp only[Zba,Zdt]at h;have hl:=jF s;unfold Wd;simp only[Zba,Zdt];refine⟨Zo,?_⟩;rw[List.all_eq_true];intro b hb;obtain⟨i,hi,rfl⟩:=List.getElem_of_mem hb;have:=Ku h.2 (i:=i) Zo;rw[Qo,O8,aM hi]at this;rw[Yd,Zdt];exact this
theorem Hr{s:ByteArray}(h:B0 s=true):s=Aa∨s=AZ∨s=BH∨C3 s=true:=by
 unfold B0 at h;simp only[Bool.or_eq_true,Zdt]at h;rcases h with ((h|h)|h)|h
 ·exact .inl h
 ·exact .inr (.inl h)
 ·exact .inr (.inr (.inl h))
 ·exact .inr (.inr (.inr h))
theorem aN{s:ByteArray}{w:List UInt8}(h:B0 s=true)(hw: ∀b∈w,BP 1 b=true):Qk ⟨w,Su s,bl s⟩:=by
 unfold Su;by_cases hk:s=Aa∨s=AZ∨s=BH
 ·rw[if_pos hk];refine CA ?_ hw;rcases hk with rfl|rfl|rfl<;>decide+kernel
 ·rw[if_neg hk];rcases Hr h with h|h|h|h
  ·exact absurd (.inl h) hk
  ·exact absurd (.inr (.inl h)) hk
  ·exact absurd (.inr (.inr h)) hk
  ·exact⟨.inr (.inl ⟨rfl,Yf h⟩),hw⟩
theorem Wg{s:ByteArray}(h:IQ s=true∨s=QU):s=bA [111,114]∨s=bA [97,110,100]∨s=bA [61,61]∨s=bA [33,61]∨s=bA [60]∨s=bA [60,61]∨s=bA [43]∨s=bA [45]∨s=bA [42]∨s=bA [97,116]∨s=bA [47]:=by
 rcases h with h|h
 ·unfold IQ at h;simp only[Bool.or_eq_true,Zdt]at h;rcases h with (((((((((h|h)|h)|h)|h)|h)|h)|h)|h)|h)
  ·exact .inl h
  ·exact .inr (.inl h)
  ·exact .inr (.inr (.inl h))
  ·exact .inr (.inr (.inr (.inl h)))
  ·exact .inr (.inr (.inr (.inr (.inl h))))
  ·exact .inr (.inr (.inr (.inr (.inr (.inl h)))))
  ·exact .inr (.inr (.inr (.inr (.inr (.inr (.inl h))))))
  ·exact .inr (.inr (.inr (.inr (.inr (.inr (.inr (.inl h)))))))
  ·exact .inr (.inr (.inr (.inr (.inr (.inr (.inr (.inr (.inl h))))))))
  ·exact .inr (.inr (.inr (.inr (.inr (.inr (.inr (.inr (.inr (.inl h)))))))))
 ·exact .inr (.inr (.inr (.inr (.inr (.inr (.inr (.inr (.inr (.inr h)))))))))
theorem vb{s:ByteArray}(h:IQ s=true∨s=QU):Qk ⟨[32],mw s,bl s⟩:=by
 rcases Wg h with rfl|rfl|rfl|rfl|rfl|rfl|rfl|rfl|rfl|rfl|rfl
 all_goals first
  |exact CA (t:=_) ZD Ch
  |exact DR (t:=_) ZD Ch
theorem Qp{k:Nd}{x:List Sp}{l:Int}(hx: ∀t,DL t=true→DV x t): ∀t,DL t=true→DV (Mm k x l) t:=fun t ht=>by
 unfold Mm;split
 ·exact hx t ht
 ·refine⟨DR Zd CF,?_,Bt (hx _ rfl) ⟨DR Zd CF,AY ht,trivial⟩⟩;cases render (x++ [sy [41]])++t with
  |nil=>rfl
  |cons b r=>simp[Sx,Mq]
theorem Ni: ∀ {ss:List (List Sp)},(∀s∈ss,s≠ []∧ ∀t,DL t=true→DV s t)→ ∀t,DL t=true→DV (JD ss) t
 | [],_,t,_=>trivial
 | [s],h,t,ht=>(h s (by simp)).2 t ht
 |s::s2::r,h,t,ht=>by
  have ih:=Ni (ss:=s2::r) (fun x hx=>h x (by simp[hx])) t ht;have CD:JD (s2::r)≠ []:=PD (fun x hx=>(h x (by simp[hx])).1) (by simp);rw[JD];exact Bt ((h s (by simp)).2 _ rfl) ⟨DR Zd CF,AY (KX (.inl rfl) CD),HP Ch ih⟩
theorem S1{w:List UInt8}{n:Int}(hn: -999999999999≤n∧n≤999999999999)(hw: ∀b∈w,BP 1 b=true){t:List UInt8}(ht:DL t=true):DV (Of w n) t:=by
 unfold Of;split
 ·refine⟨DR Zd hw,?_,Qn Zo CF,AY ht,trivial⟩;cases render [⟨[],4,CZ n.natAbs⟩]++t with
  |nil=>rfl
  |cons b r=>simp[Sx,Mq]
 ·exact⟨Qn Zo hw,AY ht,trivial⟩
theorem jG{den:Int}{p:Pc}(hd:1≤den∧den≤1000000)(h1:0≤p.fr∧p.fr≤999999999999)(h2: -999999999999≤p.pa.tdiv den∧p.pa.tdiv den≤999999999999)(h3: -1000000≤p.sl∧p.sl≤1000000){t:List UInt8}(ht:DL t=true):DV (aE den p) t:=by
 have hs: ∀n:Nat,n<10^12→Qk ⟨[32],3,CL n⟩:=fun n hn=>Lv (Ji hn) Ch
 have hl:DV [sy [47],⟨[],3,CL den.toNat⟩] t:=by
  refine⟨DR Zd CF,?_,Lv (Ji Zo) CF,AY ht,trivial⟩;simp only[render,List.nil_append,List.append_nil];cases hg:CL den.toNat with
  |nil=>exact absurd hg (Lq _)
  |cons b r=>
   have:=Sq den.toNat b (by rw[hg];simp);unfold aD at this;have hb:b≠47:=fun h0=>by rw[h0]at this;exact absurd this.1 Zd
   simp[Sx,Mq,hb]
 have G3:DV (Jf p) (47::(CL den.toNat++t)):=by
  unfold Jf;have ub: ∀(w:List UInt8) (x:List UInt8),Sx ⟨w,3,x⟩ (47::(CL den.toNat++t))=true:=fun w x=>(by simp[Sx,Mq];decide+kernel);split
  ·exact⟨DR Zd Ch,AY rfl,hs _ Zo,ub _ _,trivial⟩
  ·exact⟨DR Zd Ch,AY rfl,hs _ Zo,ub _ _,trivial⟩
 have zp:DL (render (Jf p)++(47::(CL den.toNat++t)))=true:=by
  unfold Jf;split<;>rfl
 have er:render [sy [47],⟨[],3,CL den.toNat⟩]++t=47::(CL den.toNat++t):=by simp[render]
 unfold aE;rw[List.append_assoc,List.append_assoc,List.cons_append];refine Bt (S1 ⟨Zo,h1.2⟩ Ch rfl) ⟨DR Zd Ch,AY ?_,?_⟩
 ·rw[Ba,ir];rfl
 ·refine Bt (S1 h2 Ch ?_) (Bt (by rw[er];exact G3) hl);rw[Ba,List.append_assoc,er];exact zp
theorem S2{den:Int}(hd:1≤den∧den≤1000000): ∀ {l:List Pc} {s:List UInt8},s∈E1→(∀p∈l,(0≤p.fr∧p.fr≤999999999999)∧(-999999999999≤p.pa.tdiv den∧p.pa.tdiv den≤999999999999)∧(-1000000≤p.sl∧p.sl≤1000000))→ ∀ {t:List UInt8},DL t=true→DV (Qd s den l) t
 | [],s,_,_,t,_=>trivial
 |p::r,s,hs,h,t,ht=>by
  obtain⟨h1,h2,h3⟩:=h p (by simp);have ih:=S2 hd (l:=r) (s:= [44]) Zd (fun x hx=>h x (by simp[hx])) ht
  have BE:DL (render (Qd [44] den r)++t)=true:=by
   cases r with
   |nil=>exact ht
   |cons q r=>rfl
  refine⟨DR hs CF,AY ?_,Bt (jG hd h1 h2 h3 BE) ih⟩;show DL (render (aE den p++Qd [44] den r)++t)=true;rw[Ba,pd];rfl
theorem Ky{den:Int}{ps:List Pc}(h:Bo den ps=true):(1≤den∧den≤1000000)∧(1≤ps.length∧ps.length≤64)∧(ps.getD 0 default).fr=0∧ ∀i,i<ps.length→IP den ps i=true:=by
 unfold Bo BI at h;simp only[Zba,Zdt]at h;obtain⟨⟨⟨⟨h1,h2⟩,h3⟩,h4⟩,h5⟩:=h;exact⟨h1,⟨h2,h3⟩,h4,fun i hi=>Ku h5 hi⟩
theorem jH{den:Int}{ps:List Pc}(h:Bo den ps=true): ∀i,i<ps.length→0≤(ps.getD i default).fr∧(0<i→(ps.getD (i - 1) default).fr<(ps.getD i default).fr):=by
 obtain⟨h1,h2,h3,h4⟩:=Ky h;intro i;induction i with
 |zero=>intro _;exact⟨Zo,fun h=>by omega⟩
 |succ i ih=>
  intro hi;have hp:=(DI.1 (h4 (i+1) hi)).1.2;have:=(ih Zo).1;rcases hp with hp|hp
  ·omega
  ·rw[Nat.add_sub_cancel]at hp ⊢;exact⟨Zo,fun _=>hp⟩
theorem tdiv_le{a d:Int}(hd:1≤d)(h1:a≤999999999999*d)(h2: -999999999999*d≤a)(h0:a.tmod d=0): -999999999999≤a.tdiv d∧a.tdiv d≤999999999999∧a.tdiv d*d=a:=by
 have e:a.tdiv d*d=a:=by have:=Int.tdiv_mul_add_tmod a d;omega
 refine⟨?_,?_,e⟩
 ·refine Int.le_of_mul_le_mul_right (a:=d) ?_ Zo;rw[e];exact h2
 ·refine Int.le_of_mul_le_mul_right (a:=d) ?_ Zo;rw[e];exact h1
theorem PG{den:Int}{ps:List Pc}(h:Bo den ps=true): ∀p∈ps,(0≤p.fr∧p.fr≤999999999999)∧(-999999999999≤p.pa.tdiv den∧p.pa.tdiv den≤999999999999)∧(-1000000≤p.sl∧p.sl≤1000000):=fun p hp=>by
 obtain⟨i,hi,rfl⟩:=List.getElem_of_mem hp;obtain⟨h1,h2,h3,h4⟩:=Ky h;have hg:=DI.1 (h4 i hi);have hf:=jH h i hi;have e:ps.getD i default=ps[i]:=by simp[Zlg,hi]
 rw[e]at hg hf;obtain⟨⟨g1,_⟩,⟨g2,g3,g4⟩,g5,g6⟩:=hg;obtain⟨t1,t2,_⟩:=tdiv_le h1.1 g3 g4 g2;exact⟨⟨hf.1,g1⟩,⟨t1,t2⟩,g6,g5⟩
theorem rm(e:Nd)(h:BC e=true): ∀t,DL t=true→DV (HM e) t:=by
 induction e using Nd.ind with
 |h e ih=>
  intro t ht;obtain⟨hk,F4,XZ,Xm⟩:=JA h
  have N3: ∀i,i<e.kids.length→(∀t,DL t=true→DV ((e.kids.map HM).getD i []) t)∧(e.kids.map HM).getD i []≠ []:=fun i hi=>by
   have e2:(e.kids.map HM).getD i []=HM (e.kids.getD i default):=by simp[Zlg,hi]
   have hm:e.kids.getD i default∈e.kids:=by simp[Zlg,hi]
   rw[e2];exact⟨ih _ hm (F4 _ hm),(WY _ (F4 _ hm)).2⟩
  have BU: ∀s∈e.kids.map HM,s≠ []∧ ∀t,DL t=true→DV s t:=fun s hs=>by
   obtain⟨k,hk,rfl⟩:=List.mem_map.1 hs;exact⟨(WY k (F4 k hk)).2,ih k hk (F4 k hk)⟩
  rw[EJ]at h;unfold FA at h;rw[Qe];unfold LI;by_cases k11:e.kind=11
  ·rw[if_pos k11]at h ⊢;simp only[Zba,Zdt]at h;obtain⟨⟨⟨⟨hu,wa⟩,RI⟩,_⟩,_⟩:=h;unfold Na;split
   ·exact⟨CA (by split<;>decide+kernel) CF,AY ht,trivial⟩
   split
   ·exact⟨Lv (Ji Zo) CF,AY ht,trivial⟩
   split
   ·exact⟨Lv (Ji Zo) CF,AY rfl,CA ZD Ch,AY ht,trivial⟩
   ·rcases Hr hu with h|h|h|h
    ·exact absurd h ‹_›
    ·exact absurd h ‹_›
    ·exact absurd h ‹_›
    ·exact⟨⟨.inr (.inl ⟨rfl,Yf h⟩),CF⟩,AY rfl,Qn Zo Ch,AY ht,trivial⟩
  rw[if_neg k11]at h ⊢;by_cases k12:e.kind=12
  ·rw[if_pos k12]at h;rw[if_pos (.inl k12)];simp only[Zba]at h;exact⟨CA (Mr h.1.1).1 CF,AY ht,trivial⟩
  rw[if_neg k12]at h;by_cases k13:e.kind=13
  ·rw[if_pos k13]at h;rw[if_neg Zo,if_pos k13];unfold BI at h;simp only[Zba,Zdt]at h;exact⟨CA ZD CF,AY rfl,Lv (Ji Zo) Ch,AY ht,trivial⟩
  rw[if_neg k13]at h;by_cases k14:e.kind=14
  ·rw[if_pos k14]at h;rw[if_pos (.inr k14)];unfold Eu at h;simp only[Zba,Bool.or_eq_true,Zdt]at h;refine⟨CA ?_ CF,AY ht,trivial⟩;rcases h.1.1 with ((h|h)|h)|h<;>rw[h]<;>decide+kernel
  rw[if_neg k14]at h;rw[if_neg Zo,if_neg k13];by_cases k15:e.kind=15
  ·rw[if_pos k15];have h0:=N3 0 (XZ Zo);exact⟨CA ZD CF,AY (KX (.inl rfl) (UL h0.2)),HP Ch (Qp h0.1 t ht)⟩
  rw[if_neg k15]at h ⊢;by_cases k16:e.kind=16
  ·rw[if_pos k16]at h ⊢;have h0:=N3 0 (XZ Zo);have h1:=N3 1 (by rw[Xm k16];decide)
   have E4:IQ e.name=true∨e.name=QU:=by
    simp only[Zba]at h;have h2:=h.2.2;split at h2
    ·exact .inr ‹_›
    ·simp only[Zba]at h2;exact .inl h2.1
   exact Bt (Qp h0.1 _ rfl) ⟨vb E4,AY (KX (.inl rfl) (UL h1.2)),HP Ch (Qp h1.1 t ht)⟩
  rw[if_neg k16]at h ⊢;by_cases k17:e.kind=17
  ·rw[if_pos k17]at h ⊢;simp only[Zba,Bool.or_eq_true,Zdt]at h;have Ph:Jw (bl e.name)=true:=by rcases h.1.1.1 with h|h<;>rw[h]<;>decide+kernel
   refine⟨CA Ph CF,?_,DR Zd CF,?_,Bt (Ni BU _ rfl) ⟨DR Zd CF,AY ht,trivial⟩⟩
   ·show Mq ⟨[],1,bl e.name⟩ 40=true;unfold Mq;rw[if_neg (show¬((1:Int)=6) by decide)];decide+kernel
   ·cases render (JD (e.kids.map HM)++ [sy [41]])++t with
    |nil=>rfl
    |cons b r=>simp[Sx,Mq]
  rw[if_neg k17]at h ⊢;have k18:e.kind=18:=Zo
  rw[if_pos k18]at h ⊢;simp only[Zba]at h;have h0:=N3 0 (XZ Zo);obtain⟨hd,hl,_⟩:=Ky h.1.1.2;rw[List.append_assoc];refine⟨CA ZD CF,?_,DR Zd CF,?_,Bt (h0.1 _ ?_) (Bt (S2 hd Zd (PG h.1.1.2) rfl) ⟨DR Zd CF,AY ht,trivial⟩)⟩
  ·show Mq ⟨[],1,Iq⟩ 40=true;decide+kernel
  ·cases render ((e.kids.map HM).getD 0 []++(Qd [59] e.den e.ps++ [sy [41]]))++t with
   |nil=>rfl
   |cons b r=>simp[Sx,Mq]
  ·cases e.ps with
   |nil=>rfl
   |cons p r=>rfl
theorem aO{l:List Nd}{t:List UInt8}(ht:DL t=true):DL (render ((l.map fun c=>nl (Co c)).flatten)++t)=true:=by
 cases l with
 |nil=>exact ht
 |cons c r=>
  simp only[List.map_cons,List.flatten_cons,Ba,List.append_assoc];unfold nl Co;rw[Ej (by simp)];rfl
theorem US{c:Nd}(h: ∀k∈c.kids,BC k=true)(h0:c.kids≠ []){t:List UInt8}(ht:DL t=true):DV (Co c) t:=by
 have BU: ∀s∈c.kids.map HM,s≠ []∧ ∀t,DL t=true→DV s t:=fun s hs=>by
  obtain⟨k,hk,rfl⟩:=List.mem_map.1 hs;exact⟨(WY k (h k hk)).2,rm k (h k hk)⟩
 have CD:JD (c.kids.map HM)≠ []:=PD (fun s hs=>(BU s hs).1) (by simpa using h0);have hb:DV (WJ [32] (JD (c.kids.map HM))++ [sy [59]]) t:=Bt (HP Ch (Ni BU _ rfl)) ⟨DR Zd CF,AY ht,trivial⟩
 have BE:DL (render (WJ [32] (JD (c.kids.map HM))++ [sy [59]])++t)=true:=by
  rw[Ba,List.append_assoc];exact KX (.inl rfl) CD
 unfold Co;rw[List.cons_append];refine⟨?_,AY BE,hb⟩;repeat' split
 all_goals exact CA (t:=_) ZD rk
def yD(e:Nd):Prop:=yC e∧Jw (bl e.name)=true∧(e.kind≠4→B0 e.u=true)∧
 (e.kind=4→(0≤e.n∧e.n≤1000000)∧(0≤(e.kids.getD 0 default).n∧(e.kids.getD 0 default).n≤1000000)∧(0≤(e.kids.getD 0 default).fr∧(e.kids.getD 0 default).fr≤36524)∧0≤(e.kids.getD 0 default).to∧(0≤(e.kids.getD 0 default).known∧(e.kids.getD 0 default).known≤36524))
theorem S3: ∀ {l:List Nd},(∀c∈l,c.kids≠ []∧ ∀k∈c.kids,BC k=true)→ ∀ {t:List UInt8},DL t=true→DV ((l.map fun c=>nl (Co c)).flatten) t
 | [],_,t,_=>trivial
 |c::r,h,t,ht=>by
  have h1:=h c (by simp);rw[List.map_cons,List.flatten_cons];exact Bt (HP aL (US h1.2 h1.1 (aO ht))) (S3 (fun x hx=>h x (List.mem_cons_of_mem _ hx)) ht)
theorem PB(n:Int):Jw (Hn n)=true:=by
 unfold Hn;repeat' split
 all_goals decide+kernel
theorem Yg{e:Nd}(hn:Jw (bl e.name)=true)(h1:0≤e.n∧e.n≤1000000)(h2:0≤(e.kids.getD 0 default).n∧(e.kids.getD 0 default).n≤1000000)(h3:0≤(e.kids.getD 0 default).fr∧(e.kids.getD 0 default).fr≤36524)(h4:0≤(e.kids.getD 0 default).to)(h5:0≤(e.kids.getD 0 default).known∧(e.kids.getD 0 default).known≤36524){t:List UInt8}(ht:DL t=true):DV (Mn e) t:=by
 have w: ∀ {p:Sp} {t:List UInt8},Qk p→DL t=true→Qk p∧Sx p t=true:=fun h ht=>⟨h,AY ht⟩
 have hl:DV [YY [107,110,111,119,110],⟨[32],5,DY (e.kids.getD 0 default).known⟩,mu [123]] t:=
  ⟨CA ZD Ch,AY rfl,UR h5.1 h5.2 Ch,AY rfl,DR Zd Ch,AY ht,trivial⟩
 have hm:DV (if(e.kids.getD 0 default).to≤36524 then [YY [116,111],⟨[32],5,DY (e.kids.getD 0 default).to⟩]else []) (render [YY [107,110,111,119,110],⟨[32],5,DY (e.kids.getD 0 default).known⟩,mu [123]]++t):=by
  split
  ·exact⟨CA ZD Ch,AY rfl,UR h4 ‹_› Ch,AY rfl,trivial⟩
  ·trivial
 have hs:DL (render ((if(e.kids.getD 0 default).to≤36524 then [YY [116,111],⟨[32],5,DY (e.kids.getD 0 default).to⟩]else [])++ [YY [107,110,111,119,110],⟨[32],5,DY (e.kids.getD 0 default).known⟩,mu [123]])++t)=true:=by
  split<;>rfl
 unfold Mn;simp only;rw[List.append_assoc];refine Bt ?_ (Bt hm hl)
 exact⟨CA ZD CF,AY rfl,Lv (Ji Zo) Ch,AY rfl,CA ZD Ch,AY rfl,CA hn Ch,AY rfl,CA ZD Ch,AY rfl,
  Lv (Ji Zo) Ch,AY rfl,CA ZD Ch,AY rfl,UR h3.1 h3.2 Ch,AY hs,trivial⟩
theorem Yh{e:Nd}(h:yD e){t:List UInt8}(ht:DL t=true):DV (IV e) t:=by
 obtain⟨⟨hk,hc⟩,hn,hu,h4⟩:=h;unfold IV;by_cases k2:e.kind=2
 ·rw[if_pos k2];exact⟨CA ZD CF,AY rfl,CA hn Ch,AY rfl,DR Zd Ch,AY rfl,aN (hu Zo) Ch,AY rfl,DR Zd CF,AY ht,trivial⟩
 rw[if_neg k2];by_cases k3:e.kind=3
 ·rw[if_pos k3];exact⟨CA ZD CF,AY rfl,CA hn Ch,AY rfl,DR Zd Ch,AY rfl,aN (hu Zo) Ch,AY rfl,CA (PB _) Ch,AY rfl,DR Zd CF,AY ht,trivial⟩
 have k4:e.kind=4:=Zo
 rw[if_neg k3,if_pos k4];obtain⟨g1,g2,g3,g4,g5⟩:=h4 k4;rw[List.append_assoc];refine Bt (Yg hn g1 g2 g3 g4 g5 ?_) (Bt (S3 (hc k4) rfl) ⟨DR Zd aL,AY ht,trivial⟩);rw[Ba,List.append_assoc];exact aO rfl
theorem OL: ∀ {l:List Nd},(∀e∈l,yD e)→ ∀ {t:List UInt8},DL t=true→DV (DQ l) t
 | [],_,t,_=>trivial
 |e::r,h,t,ht=>Bt (Yh (h e (by simp)) (cv (.inr rfl) ht)) (HP aL (OL (fun x hx=>h x (List.mem_cons_of_mem _ hx)) ht))
theorem nL{e:Nd}(h: ∀x∈e.kids,yD x):Mp (Gq e) ((DQ e.kids).map Sp.tk)∧Gz [47,47] (Gq e)=false∧EK (Gq e)=Gq e:=by
 rw[rf fun x hx=>(h x hx).1];cases hk:e.kids with
 |nil=>exact⟨.nil,rfl,rfl⟩
 |cons x r=>
  rw[if_neg (by simp)];have hx:=h x (by rw[hk];simp);have zq:=OL (l:=x::r) (fun y hy=>h y (by rw[hk];exact hy)) (t:= [10]) rfl
  obtain⟨p,rs,he,hw⟩: ∃p rs,DQ (x::r)=p::rs∧p.ws= []:=by
   obtain⟨⟨EF,_⟩,_⟩:=hx;show∃p rs,IV x++nl (DQ r)=p::rs∧p.ws= [];unfold IV Mn;simp only;split
   ·exact⟨_,_,rfl,rfl⟩
   split
   ·exact⟨_,_,rfl,rfl⟩
   split
   ·exact⟨_,_,rfl,rfl⟩
   ·omega
  rw[he]at zq ⊢;have:=Sz rs p [10] aL zq;have e2:render (p::rs)++ [10]=p.tx++(render rs++ [10]):=by simp[render,hw]
  rw[e2];refine⟨this.1,this.2,?_⟩;obtain⟨b,t,ht,hb⟩:=JF zq.1.1;have:=Qj (w:= []) (t:=p.tx++(render rs++ [10])) CF (by rw[ht];exact hb)
  rwa [List.nil_append]at this
def Dr(e:Nd):List Tk:=(HM e).map Sp.tk
def Ek(l:Nat)(r:List Tk):Prop:=A4 Og r=false∧ ∀m,l≤m→m<6→Nc m r=none
theorem Ek.le{l m:Nat}{r:List Tk}(h:Ek l r)(hl:l≤m):Ek m r:=⟨h.1,fun k hk=>h.2 k Zo⟩
theorem jI{l:Nat}{ts r:List Tk}{e:Nd}(hl:l<6)(hn:l=2→A4 Ho ts=false)(h:CU (l+1) ts e r)(ho:Nc l r=none):CU l ts e r:=
 CU.yy (n:=0) (at_:=fun _=>r) (o:=fun _=>Ho) (x:=fun _=>e) hl hn h (fun _=>Nat.zero_le _) (fun i hi=>by omega) (fun i hi=>by omega) (.inr ho)
theorem jJ{ts r:List Tk}{e:Nd}: ∀(d l:Nat),l+d≤6→(l≤2→2<l+d→A4 Ho ts=false)→CU (l+d) ts e r→Ek l r→CU l ts e r
 |0,l,_,_,h,_=>h
 |d+1,l,hl,hn,h,ho=>by
  have h1:=jJ d (l+1) Zo (fun h1 h2=>hn Zo Zo) (by rw[show l+1+d=l+(d+1) by omega];exact h) (ho.le Zo);exact jI Zo (fun e2=>hn Zo Zo) h1 (ho.2 l (Nat.le_refl _) Zo)
theorem Ms{ts r:List Tk}{e:Nd}{l m:Nat}(hlm:l≤m)(hm:m≤6)(hn:l≤2→2<m→A4 Ho ts=false)(h:CU m ts e r)(ho:Ek l r):CU l ts e r:=
 jJ (m - l) l Zo (fun h1 h2=>hn h1 Zo) (by rw[show l+(m - l)=m by omega];exact h) ho
def Yi(l n:Nat)(ts:List Tk)(e:Nd)(r:List Tk):Prop:=
 ∃(e0:Nd) (at_:Nat→List Tk) (o:Nat→ByteArray) (x:Nat→Nd),l<6∧(l=2→A4 Ho ts=false)∧CU (l+1) ts e0 (at_ 0)∧(l=3→n≤1)∧
  (∀i,i<n→Nc l (at_ i)=some (o i)∧o i≠rZ∧o i≠rb∧(o i=LJ→ ∃t m,(at_ i).tail=t::at_ (i+1)∧DU 1 t=some m∧x i=mkNum AZ m))∧
  (∀i,i<n→o i≠LJ→CU (l+1) (at_ i).tail (x i) (at_ (i+1)))∧e=Dl o x e0 n∧r=at_ n
theorem KY{l:Nat}{ts r:List Tk}{e:Nd}(hl:l<6)(hn:l=2→A4 Ho ts=false)(h:CU (l+1) ts e r):Yi l 0 ts e r:=
 ⟨e,fun _=>r,fun _=>Ho,fun _=>e,hl,hn,h,fun _=>Nat.zero_le _,fun i hi=>by omega,fun i hi=>by omega,rfl,rfl⟩
theorem nM{l n:Nat}{ts r:List Tk}{e:Nd}(h:Yi l n ts e r)(CB:(l=3∧n=1)∨Nc l r=none):CU l ts e r:=by
 obtain⟨e0,at_,o,x,h1,h2,h3,h4,h5,h6,rfl,rfl⟩:=h;exact CU.yy h1 h2 h3 h4 h5 h6 CB
theorem Qq{o o':Nat→ByteArray}{x x':Nat→Nd}{e:Nd}: ∀ {n:Nat},(∀i,i<n→o i=o' i∧x i=x' i)→Dl o x e n=Dl o' x' e n
 |0,_=>rfl
 |n+1,h=>by
  rw[Dl,Dl,Qq (n:=n) fun i hi=>h i Zo,(h n Zo).1,(h n Zo).2]
theorem nN{l n:Nat}{ts ts' r:List Tk}{t:Tk}{e y:Nd}{p:ByteArray}(h:Yi l n ts e (t::ts'))(ho:Nc l (t::ts')=some p)(h1:p≠rZ)(h2:p≠rb)(h3:l=3→n=0)
  (hd:p=LJ→ ∃t m,ts'=t::r∧DU 1 t=some m∧y=mkNum AZ m) (hx:p≠LJ→CU (l+1) ts' y r):Yi l (n+1) ts (mkBin p e y) r:=by
 obtain⟨e0,at_,o,x,g1,g2,g3,g4,g5,g6,rfl,g8⟩:=h;refine⟨e0,fun i=>if i≤n then at_ i else r,fun i=>if i<n then o i else p,fun i=>if i<n then x i else y,g1,g2,?_,fun h=>by have:=h3 h;omega,fun i hi=>?_,fun i hi=>?_,?_,?_⟩
 ·show CU (l+1) ts e0 (if 0≤n then at_ 0 else r);rw[if_pos (Nat.zero_le _)];exact g3
 ·by_cases JO:i<n
  ·have:=g5 i JO;simp only[if_pos JO,if_pos (show i≤n by omega),if_pos (show i+1≤n by omega)];exact this
  ·obtain rfl:i=n:=Zo
   simp only[if_neg JO,if_pos (Nat.le_refl i),if_neg (show¬i+1≤i by omega),←g8];exact⟨ho,h1,h2,hd⟩
 ·by_cases JO:i<n
  ·have:=g6 i JO;simp only[if_pos JO,if_pos (show i≤n by omega),if_pos (show i+1≤n by omega)];exact this
  ·obtain rfl:i=n:=Zo
   simp only[if_neg JO,if_pos (Nat.le_refl i),if_neg (show¬i+1≤i by omega),←g8];exact hx
 ·rw[Dl];simp only[if_neg (Nat.lt_irrefl n)];rw[Qq (n:=n) (o':=fun i=>if i<n then o i else p) (x':=fun i=>if i<n then x i else y) fun i hi=>by simp[hi]]
 ·show r=if n+1≤n then at_ (n+1)else r
  rw[if_neg Zo]
theorem OM(l:List UInt8):bl (bA l)=l:=by simp[bl,bA]
theorem Jx(s:ByteArray):bA (bl s)=s:=by cases s;simp[bl,bA]
theorem aP(l:List UInt8):(bA l).size=l.length:=by simp[bA,ByteArray.size]
theorem Nj{n:Nat}(h:n<10^12):Jv ⟨3,bA (CL n)⟩=some (n:Int):=by
 unfold Jv;have:=Bn (k:=12) h Zd;rw[if_pos ⟨rfl,by rw[aP];omega⟩,OM];exact il Zo
theorem S4: ∀ {a b:List UInt8},(∀x∈a,aD x)→(a++46::b).erase 46=a++b
 | [],b,_=>by simp
 |x::a,b,h=>by
  have hx:=h x (by simp);have CD:x≠46:=fun e=>by subst e;exact absurd hx.1 Zd
  have:=S4 (a:=a) (b:=b) fun y hy=>h y (by simp[hy]);rw[List.cons_append,List.erase_cons_tail (by simpa using CD),this,List.cons_append]
theorem Kz{n:Nat}(h:n<10^12):Fw ⟨4,bA (CZ n)⟩=some (n:Int):=by
 unfold Fw;have h1:=Bn (n:=n / 100) (k:=10) Zo Zd;have h2:(NY (n%100)).length=2:=by rw[Hm Zo];rfl
 rw[if_pos ⟨rfl,by rw[aP];unfold CZ;simp;omega⟩,OM];unfold CZ;rw[S4 (Sq _)];exact YX Zo
theorem GM{n:Nat}{least:Int}(h:n≤1000000)(hl:least≤n):DU least ⟨3,bA (CL n)⟩=some (n:Int):=by
 unfold DU;rw[Nj Zo];simp only;rw[if_pos ⟨hl,Zo⟩]
theorem C8{e:Nd}{nm u:ByteArray}{n f t kn d:Int}{ps:List Pc}(h:Jt e nm u n f t kn d ps=true):e=.mk e.kind nm u n f t kn d ps e.kids:=by
 unfold Jt at h;simp only[Zba,Zdt]at h;obtain⟨⟨⟨⟨⟨⟨⟨rfl,rfl⟩,rfl⟩,rfl⟩,rfl⟩,rfl⟩,rfl⟩,rfl⟩:=h;exact(Nd.eta e).symm
theorem Fx{e:Nd}(h:e.kids.length=0):e.kids= []:=List.eq_nil_of_length_eq_zero h
structure Rt (e:Nd):Prop where
 a: ∀l:Nat,l≤6→(l:Int)≤D1 e→ ∀r,Ek l r→CU l (Dr e++r) e r
 b: ∀l:Nat,l≤5→l≠2→(l:Int)≤D1 e→ ∀r,Ek (l+1) r→ ∃n,Yi l n (Dr e++r) e r∧((l:Int)<D1 e→n=0)
 c:3≤D1 e→ ∀r,A4 Ho (Dr e++r)=false
theorem HF{e:Nd}(hl:D1 e=6)(h: ∀r,A4 Og r=false→CU 6 (Dr e++r) e r)(hc: ∀r,A4 Ho (Dr e++r)=false):Rt e:=
 ⟨fun l h6 _ r hr=>Ms h6 (Nat.le_refl _) (fun _ _=>hc r) (h r hr.1) hr,
  fun l h5 h2 _ r hr=>⟨0,KY Zo (fun h=>absurd h h2) (Ms Zo (Nat.le_refl _) (fun _ _=>hc r) (h r hr.1) hr),fun _=>rfl⟩,fun _=>hc⟩
theorem JG(e:Nd):0≤D1 e∧D1 e≤6:=by
 unfold D1;split
 ·unfold OH A0 Bp;simp only[List.find?_cons];repeat' split
  all_goals simp
 split<;>omega
theorem aQ{k:Nd}(hk:Rt k){l:Nat}(hl:l≤6){r:List Tk}(hr:Ek l r):CU l ((Mm k (HM k) l).map Sp.tk++r) k r∧(3≤l→A4 Ho ((Mm k (HM k) l).map Sp.tk++r)=false):=by
 unfold Mm;by_cases h:(l:Int)≤D1 k
 ·rw[if_pos h];exact⟨hk.a l hl h r hr,fun h3=>hk.c Zo r⟩
 ·rw[if_neg h];have e1:(sy [40]::HM k++ [sy [41]]).map Sp.tk++r=⟨6,E0⟩::(Dr k++(⟨6,D3⟩::r)):=by simp[Dr,Sp.tk]
  rw[e1]
  have h0:=hk.a 0 Zo (JG k).1 (⟨6,D3⟩::r) ⟨by simp[A4];decide,fun m _ hm=>by
   have: ∀m:Fin 6,Nc m.val (⟨6,D3⟩::r)=none:=by
    intro m
    match m with
    |0=>rfl|1=>rfl|2=>rfl|3=>rfl|4=>rfl|5=>rfl
   exact this ⟨m,hm⟩⟩
  have fT:A4 Ho (⟨6,E0⟩::(Dr k++(⟨6,D3⟩::r)))=false:=by simp[A4];decide
  exact⟨Ms hl (Nat.le_refl _) (fun _ _=>fT) (CU.paren h0 rfl) hr,fun _=>fT⟩
theorem PH{k:Int}{s:ByteArray}{r:List Tk}(h:s=D3∨s=Cp∨s=Gi):Ek 0 (⟨k,s⟩::r):=by
 refine⟨?_,fun m _ hm=>?_⟩
 ·rcases h with rfl|rfl|rfl<;>simp[A4]<;>decide
 ·have: ∀m:Fin 6,Nc m.val (⟨k,s⟩::r)=none:=by
   intro m;rcases h with rfl|rfl|rfl
   all_goals
    match m with
    |0=>rfl|1=>rfl|2=>rfl|3=>rfl|4=>rfl|5=>rfl
  exact this ⟨m,hm⟩
structure vc (s:ByteArray) (L:Nat):Prop where
 lvl:OH s=L
 le:L≤5∧L≠2
 gt:s≠rZ∧s≠rb
 pl:rU L=(if L=3 then 4 else L:Nat)∧rV L=(L+1:Nat)
 hd: ∀r,Nc L (⟨mw s,s⟩::r)=some s∧Ek (L+1) (⟨mw s,s⟩::r)
 div:s=LJ→L=5
theorem vd{s:ByteArray}(h:IQ s=true∨s=QU): ∃L,vc s L:=by
 have key: ∀(s:ByteArray) (L:Nat),OH s=L→L≤5∧L≠2→s≠rZ∧s≠rb→(rU L=(if L=3 then 4 else L:Nat)∧rV L=(L+1:Nat))→(∀r,Nc L (⟨mw s,s⟩::r)=some s)→(∀r,A4 Og (⟨mw s,s⟩::r)=false)→(∀r,∀m:Fin 6,L+1≤m.val→Nc m.val (⟨mw s,s⟩::r)=none)→(s=LJ→L=5)→vc s L:=
  fun s L h1 h2 h3 h4 h5 h6 h7 h8=>⟨h1,h2,h3,h4,fun r=>⟨h5 r,h6 r,fun m hm hm6=>h7 r ⟨m,hm6⟩ hm⟩,h8⟩
 rcases Wg h with rfl|rfl|rfl|rfl|rfl|rfl|rfl|rfl|rfl|rfl|rfl
 ·exact⟨0,key _ 0 ZD Zd ZD ZD (fun r=>rfl) (fun r=>by simp[A4];decide) (fun r m hm=>by match m with|0=>omega|1=>rfl|2=>rfl|3=>rfl|4=>rfl|5=>rfl) (fun h=>absurd h ZD)⟩
 ·exact⟨1,key _ 1 ZD Zd ZD ZD (fun r=>rfl) (fun r=>by simp[A4];decide) (fun r m hm=>by match m with|0=>omega|1=>omega|2=>rfl|3=>rfl|4=>rfl|5=>rfl) (fun h=>absurd h ZD)⟩
 ·exact⟨3,key _ 3 ZD Zd ZD ZD (fun r=>rfl) (fun r=>by simp[A4];decide) (fun r m hm=>by match m with|0=>omega|1=>omega|2=>omega|3=>omega|4=>rfl|5=>rfl) (fun h=>absurd h ZD)⟩
 ·exact⟨3,key _ 3 ZD Zd ZD ZD (fun r=>rfl) (fun r=>by simp[A4];decide) (fun r m hm=>by match m with|0=>omega|1=>omega|2=>omega|3=>omega|4=>rfl|5=>rfl) (fun h=>absurd h ZD)⟩
 ·exact⟨3,key _ 3 ZD Zd ZD ZD (fun r=>rfl) (fun r=>by simp[A4];decide) (fun r m hm=>by match m with|0=>omega|1=>omega|2=>omega|3=>omega|4=>rfl|5=>rfl) (fun h=>absurd h ZD)⟩
 ·exact⟨3,key _ 3 ZD Zd ZD ZD (fun r=>rfl) (fun r=>by simp[A4];decide) (fun r m hm=>by match m with|0=>omega|1=>omega|2=>omega|3=>omega|4=>rfl|5=>rfl) (fun h=>absurd h ZD)⟩
 ·exact⟨4,key _ 4 ZD Zd ZD ZD (fun r=>rfl) (fun r=>by simp[A4];decide) (fun r m hm=>by match m with|0=>omega|1=>omega|2=>omega|3=>omega|4=>omega|5=>rfl) (fun h=>absurd h ZD)⟩
 ·exact⟨4,key _ 4 ZD Zd ZD ZD (fun r=>rfl) (fun r=>by simp[A4];decide) (fun r m hm=>by match m with|0=>omega|1=>omega|2=>omega|3=>omega|4=>omega|5=>rfl) (fun h=>absurd h ZD)⟩
 ·exact⟨5,key _ 5 ZD Zd ZD ZD (fun r=>rfl) (fun r=>by simp[A4];decide) (fun r m hm=>by match m with|0=>omega|1=>omega|2=>omega|3=>omega|4=>omega|5=>omega) (fun h=>absurd h ZD)⟩
 ·exact⟨5,key _ 5 ZD Zd ZD ZD (fun r=>rfl) (fun r=>by simp[A4];decide) (fun r m hm=>by match m with|0=>omega|1=>omega|2=>omega|3=>omega|4=>omega|5=>omega) (fun h=>absurd h ZD)⟩
 ·exact⟨5,key _ 5 ZD Zd ZD ZD (fun r=>rfl) (fun r=>by simp[A4];decide) (fun r m hm=>by match m with|0=>omega|1=>omega|2=>omega|3=>omega|4=>omega|5=>omega) (fun _=>rfl)⟩
def Mt:List Nd→List Tk
 | []=> []
 |k::r=>⟨6,Cp⟩::(Dr k++Mt r)
theorem UT: ∀(k:Nd) (l:List Nd),(JD ((k::l).map HM)).map Sp.tk=Dr k++Mt l
 |k,[]=>by simp[JD,Mt,Dr]
 |k,k2::l=>by
  have:=UT k2 l;simp only[List.map_cons]at this ⊢;rw[JD,List.map_append,List.map_cons,NZ,this];simp[Mt,Dr,Sp.tk]
theorem PI{l:List Nd}{i:Nat}(h:i<l.length):Mt (l.drop i)=⟨6,Cp⟩::(Dr (l.getD i default)++Mt (l.drop (i+1))):=by
 rw[List.drop_eq_getElem_cons h,Mt];simp[Zlg,h]
theorem S5{l:List Nd}:(List.range l.length).map (fun i=>l.getD i default)=l:=by
 apply List.ext_getElem
 ·simp
 ·intro i h1 h2;simp[Zlg,h2]
theorem c9(p:Pc)(hs: -1000000≤p.sl∧p.sl≤1000000): ∃(t4 t5:Tk) (n:Int),(Jf p).map Sp.tk= [t4,t5]∧((t4.text=Sw∧p.sl=n)∨(t4.text=EI∧p.sl= -n))∧DU 0 t5=some n:=by
 unfold Jf;split
 ·refine⟨⟨6,EI⟩,⟨3,bA (CL (-p.sl).toNat)⟩,-p.sl,rfl,.inr ⟨rfl,Zo⟩,?_⟩;rw[GM Zo Zo];congr 1;omega
 ·refine⟨⟨6,Sw⟩,⟨3,bA (CL p.sl.toNat)⟩,p.sl,rfl,.inl ⟨rfl,rfl⟩,?_⟩;rw[GM Zo Zo];congr 1;omega
theorem jK{n:Nat}:bA (CZ n)≠EI:=by
 intro h;have:=congrArg bl h;rw[OM,OM]at this;have h2:=congrArg List.length this;unfold CZ at h2;have:=List.length_pos_iff.2 (Lq (n / 100));simp at h2;omega
theorem rq{den:Int}{before:List Pc}{p:Pc}(hd:1≤den∧den≤1000000)(h1:0≤p.fr∧p.fr≤999999999999)(h2: -999999999999≤p.pa.tdiv den∧p.pa.tdiv den≤999999999999)(he:p.pa.tdiv den*den=p.pa)(h3: -1000000≤p.sl∧p.sl≤1000000)
  (hb:(before= []→p.fr=0)∧(∀q,before.getLast?=some q→q.fr<p.fr)) (hl:before.length<64) (r:List Tk):UJ den before ((aE den p).map Sp.tk++r) p r:=by
 obtain⟨t4,t5,n,e1,e2,e3⟩:=c9 p h3;have ed:DU 1 ⟨3,bA (CL den.toNat)⟩=some den:=by rw[GM Zo Zo];congr 1;omega
 have ef:Fw ⟨4,bA (CZ p.fr.natAbs)⟩=some p.fr:=by rw[Kz Zo];congr 1;omega
 have d1:Of [32] p.fr= [⟨[32],4,CZ p.fr.natAbs⟩]:=by unfold Of;rw[if_neg Zo]
 refine⟨?_,hb,hl⟩;by_cases hn:p.pa.tdiv den<0
 ·have d2:Of [32] (p.pa.tdiv den)= [⟨[32],6,[45]⟩,⟨[],4,CZ (p.pa.tdiv den).natAbs⟩]:=by unfold Of;rw[if_pos hn]
  refine⟨⟨4,bA (CZ p.fr.natAbs)⟩,⟨6,Lt⟩,⟨4,bA (CZ (p.pa.tdiv den).natAbs)⟩,t4,t5,⟨6,LJ⟩,⟨3,bA (CL den.toNat)⟩,[⟨6,EI⟩],-(p.pa.tdiv den),n,?_,ef,rfl,.inr ⟨_,rfl,rfl,?_⟩,?_,e2,e3,rfl,ed⟩
  ·unfold aE;simp only[List.map_append,List.map_cons,e1,d1,d2];rfl
  ·rw[Int.neg_neg,he]
  ·rw[Kz Zo];congr 1;omega
 ·have d2:Of [32] (p.pa.tdiv den)= [⟨[32],4,CZ (p.pa.tdiv den).natAbs⟩]:=by unfold Of;rw[if_neg hn]
  refine⟨⟨4,bA (CZ p.fr.natAbs)⟩,⟨6,Lt⟩,⟨4,bA (CZ (p.pa.tdiv den).natAbs)⟩,t4,t5,⟨6,LJ⟩,⟨3,bA (CL den.toNat)⟩,[],p.pa.tdiv den,n,?_,ef,rfl,.inl ⟨rfl,jK,he.symm⟩,?_,e2,e3,rfl,ed⟩
  ·unfold aE;simp only[List.map_append,List.map_cons,e1,d1,d2];rfl
  ·rw[Kz Zo];congr 1;omega
def Rx(den:Int):List Pc→List Tk
 | []=> []
 |p::r=>⟨6,Cp⟩::((aE den p).map Sp.tk++Rx den r)
theorem aR(den:Int): ∀(l:List Pc),(Qd [44] den l).map Sp.tk=Rx den l
 | []=>rfl
 |p::r=>by
  have:=aR den r;simp only[Qd,Rx,List.cons_append,List.map_cons,List.map_append,this];rfl
theorem ru{den:Int}{ps:List Pc}(h:Bo den ps=true)(u:Tk)(r:List Tk)(hu:u.text=D3): ∃p0 pr,ps=p0::pr∧UK den ps ((aE den p0).map Sp.tk++(Rx den pr++u::r)) (u::r):=by
 obtain⟨hd,hl,yT,hg⟩:=Ky h;have hp:=PG h;have N1:=jH h
 match Xp:ps,hl with
 |p0::pr,hl=>
 refine⟨p0,pr,rfl,fun i=>((aE den ((p0::pr).getD i default)).map Sp.tk++(Rx den (pr.drop i)++u::r)),by simp,rfl,fun i hi=>?_,?_⟩
 ·have hm:(p0::pr).getD i default∈p0::pr:=by simp only[Zlg,Zeg hi,Option.getD_some];exact List.getElem_mem hi
  obtain⟨g1,g2,g3⟩:=hp _ hm;have gg:=DI.1 (hg i hi);obtain⟨_,_,he⟩:=tdiv_le hd.1 gg.2.1.2.1 gg.2.1.2.2 gg.2.1.1
  have OS:Rx den (pr.drop i)++u::r=(if i+1<(p0::pr).length then(⟨6,Cp⟩:Tk)::((aE den ((p0::pr).getD (i+1) default)).map Sp.tk++(Rx den (pr.drop (i+1))++u::r))else u::r):=by
   split
   ·rename_i h1;have h2:i<pr.length:=by simpa using h1
    rw[List.drop_eq_getElem_cons h2,Rx];simp[Zlg,h2]
   ·rename_i h1;rw[List.drop_eq_nil_of_le (by simpa using h1)];rfl
  have:=rq (before:=(p0::pr).take i) hd g1 g2 he g3 ⟨fun h0=>?_,fun q hq=>?_⟩ (by have:=List.length_take_le i (p0::pr);simp at hl hi ⊢;omega) (Rx den (pr.drop i)++u::r)
  ·rw[OS]at this;rw[←OS]at this;simp only;rw[←OS];exact this
  ·cases i with
   |zero=>exact yT
   |succ i=>simp at h0
  ·cases i with
   |zero=>simp at hq
   |succ i=>
    have e1:((p0::pr).take (i+1)).getLast?=some ((p0::pr).getD i default):=by
     rw[List.getLast?_eq_getElem?];have hlen:((p0::pr).take (i+1)).length=i+1:=by rw[List.length_take];omega
     rw[hlen,Nat.add_sub_cancel,List.getElem?_take_of_lt Zo];simp only[Zlg,Zeg (show i<(p0::pr).length by omega),Option.getD_some]
    rw[e1]at hq;injection hq with hq;subst hq;have:=(N1 (i+1) hi).2 Zo;rw[Nat.add_sub_cancel]at this;exact this
 ·simp only[A4,hu];decide
end Go.Tp
