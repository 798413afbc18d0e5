/- Part of a proof. -/
import Derived.Test.YthemnhjojaehhaaGreatDoorA32
set_option linter.all false
namespace Go.Ad
open Go.RowKit
theorem G.PN{n B:Nat}{w0:AT}{st:St}{a:Act}{w:World}(hG:G n B w0 st a w)(d:Nat)(e:TypeId)(sz:Nat)(c c':AH)(hk:Af st.heap d=some (.row e sz c))(hl:c'.len=c.len)(hc: ∀j,j<c.len→c'.at j=c.at j∨c'.at j=.top):G n B w0 ⟨st.env,(d,.row e sz c')::st.heap⟩ a w:=by
 obtain⟨ρ,I,h⟩:=hG;obtain⟨x,hx,Ae⟩:=h.hw.ok d _ hk;refine⟨ρ,I,h.store hk hx ?_ (Below.refl _ _) (fun _ _=>rfl)⟩;obtain⟨m,xs,ho,C0,FE⟩:=Ae;refine⟨m,xs,ho,by rw[hl];exact C0,fun j u hu=>?_⟩;have hj:j<xs.length:=(List.getElem?_eq_some_iff.1 hu).1;have Xl:=ho.1;rcases hc j (by rw[C0,←Xl];exact hj)with e|e
 ·rw[e];exact FE j u hu
 ·rw[e];exact .top _
theorem Qv{P:Program}{n B:Nat}{w0:AT}{c:Code}{Q:Exit→St→Prop}{st:St}(k:Nat)(S:St)(hE:Bg (fun id=>id≠k) S.env)(hH:Bz (fun id=>id≠k) S.heap)(h2:Q .ret S)
  (h1:BY P n B (w0.free k) c (fun e s=>e=.ret∧ ∀a w,G n B (w0.free k) s a w→G n B (w0.free k) S a w) st):BY P n B w0 c Q st:=fun a w hG=>by
 obtain⟨ρ,I,hg⟩:=hG;have hn:=hg.BQ.JQ;have:=h1 a w ⟨ρ,I,hg.pn⟩;have Xj:fo (w0.free k)=fo w0:=rfl;rw[Xj]at this;refine wpIn_mono this fun e a' w' ⟨s,⟨he,hs⟩,Cj⟩=>?_;subst he;obtain⟨ρ',I',ko⟩:=hs _ _ Cj;exact⟨S,h2,ko.fM hn hE hH⟩
theorem Wn{P:Program}{n B:Nat}{w0:AT}{c:Code}{Q:Exit→St→Prop}{st:St}(k k2:Nat)(S:St)(hE:Bg (fun id=>id≠k) S.env)(hH:Bz (fun id=>id≠k) S.heap)(hE2:Bg (fun id=>id≠k2) S.env)(hH2:Bz (fun id=>id≠k2) S.heap)(h2:Q .ret S)
  (h1: ∀w1:AT,w1.gh k=none→w1.gh k2=none→(CW w0.gh→CW w1.gh)→w1.rd=w0.rd→BY P n B w1 c (fun e s=>e=.ret∧ ∀a w,G n B w1 s a w→G n B w1 S a w) st):BY P n B w0 c Q st:=by
 refine Qv k S hE hH h2 (Qv k2 S hE2 hH2 ⟨rfl,fun _ _ h=>h⟩ (h1 _ ?_ (AT.UW _ _) (fun h=>AT.Lz (AT.Lz h)) rfl));show(if k=k2 then none else(w0.free k).gh k)=none;split
 ·rfl
 ·exact AT.UW _ _
end Go.Ad
namespace Go.Proofs.YthemnhjojaehhaaGreatDoor
open Go.Ad Go.Proofs Go.Tp
attribute [local irreducible] A8 AK BY Go.Ad.Pure BS
theorem sD(a b:Nat)(ha:a≤1000000)(hb:b≤1000000):Pure Tryz.prog 186 [AE (a:Int),AE (b:Int)] (AE ((Nat.gcd a b:Nat):Int)):=by
 refine PO 12 [.tmp 4] hT Tryz.func186 Tryz.ntmps186 fun B w0=>?_;repeat'(first|exact tT|refine WA tT tT ?_ ?_|(refine PE ?_;clear hK K)|refine WR fun K hK=>?_|refine PT ?_|refine WC (fun h=>?_) fun h=>?_|exact ff|fail)
 refine AM (α:=Nat×Nat) (fun p=>⟨[(4,AE 0),(0,AE (p.1:Int)),(1,AE (p.2:Int))],[]⟩) (fun p=>Nat.gcd p.1 p.2=Nat.gcd a b∧p.1≤1000000∧p.2≤1000000) (fun p=>p.2) (a,b) ⟨rfl,ha,hb⟩ (by exact G.Al (AA Ai) Au) fun p hp=>?_;obtain⟨x,y⟩:=p;obtain⟨hg,hx,hy⟩:=hp;simp only at hg hx hy ⊢;by_cases h0:y=0
 ·subst h0;have c6:(((0:Nat):Int) != 0)=false:=rfl;have hxg:Nat.gcd a b=x:=by rw[←hg,Nat.gcd_zero_right]
  rw[hxg];repeat'(first|exact tT|refine WA tT tT ?_ ?_|(refine PE ?_;clear hK K)|refine WR fun K hK=>?_|refine PT ?_|refine WC (fun h=>?_) fun h=>?_|exact ff|fail)
  all_goals first|omega|rfl
 ·have c6:((y:Int) != 0)=true:=by simp;omega
  have ey:Int.tmod (x:Int) (y:Int)=((x%y:Nat):Int):=by rw[Int.natCast_emod,Int.tmod_eq_emod_of_nonneg Zo]
  have Ak:x%y<y:=Nat.mod_lt _ Zo;have hyy:(y:Int)≠0:=Zo
  generalize hz:x%y=z at*;repeat'(first|exact tT|refine WA tT (Y2 c6 ey) ?_ ?_|(refine PE ?_;clear hK K)|refine WR fun K hK=>?_|refine PT ?_|refine WC (fun h=>?_) fun h=>?_|exact ff|fail)
  all_goals first|omega|(refine⟨(y,z),⟨⟨by show Nat.gcd y z=_;rw[←hg,←hz,Nat.gcd_comm,←Nat.gcd_rec,Nat.gcd_comm],hy,by show z≤_;omega⟩,Ak⟩,?_⟩;exact G.Al (AA Ai) Au)
def Uc(den:Int)(p:Pc):List AV:= [AE p.fr,AE (p.pa / den),AE p.sl,AE den]
attribute [push_cast] Uc
def Mw(den:Int):List Pc→List AV
 | []=> []
 |p::r=>AE p.fr::AE (p.pa / den)::AE p.sl::AE den::Mw den r
theorem Ud(den:Int)(l:List Pc):(Mw den l).length=l.length*4:=by
 induction l with
 |nil=>rfl
 |cons p r ih=>simp only[Mw,List.length_cons,ih];omega
theorem nd(den:Int)(l:List Pc)(p:Pc):Mw den (l++ [p])=Mw den l++ [AE p.fr,AE (p.pa / den),AE p.sl,AE den]:=by
 induction l with
 |nil=>rfl
 |cons q r ih=>simp only[Mw,List.cons_append,ih]
theorem Nq(den:Int)(l:List Pc)(e j:Nat)(he:e<l.length)(hj:j<4):(Mw den l).getD (e*4+j) .top=(Uc den (l.getD e default)).getD j .top:=by
 induction l generalizing e with
 |nil=>simp at he
 |cons p r ih=>
  cases e with
  |zero=>rw[Nat.zero_mul,Nat.zero_add];match j,hj with|0,_=>rfl|1,_=>rfl|2,_=>rfl|3,_=>rfl
  |succ e=>
   have:=ih e (by simpa using he);rw[show(e+1)*4+j=(e*4+j)+4 by omega];simpa[Mw]using this
theorem nf{l:List UInt8}{n:Int}(h:Lib.atoi l=some n)(hl:l.length≤18): -1000000000000000000<n∧n<1000000000000000000:=by
 obtain⟨b0,r,rfl,h|h|h⟩:=Lib.atoi_cases h
 ·obtain⟨_,m,_,h1,h2⟩:=h;have:=Lib.decFrom_lt18 h1 (by simp only[List.length_cons]at hl;omega);omega
 ·obtain⟨_,m,_,h1,h2⟩:=h;have:=Lib.decFrom_lt18 h1 (by simp only[List.length_cons]at hl;omega);omega
 ·obtain⟨_,_,m,h1,h2⟩:=h;have:=Lib.decFrom_lt18 h1 hl;omega
theorem jh{t:Tk}{n:Int}(h:Fw t=some n): -1000000000000000000<n∧n<1000000000000000000:=by
 obtain⟨_,Bh,ha⟩:=Kc h;refine nf ha ?_;have:=List.length_erase_le (a:=46) (l:=bl t.text);have h2:(bl t.text).length=t.text.size:=rfl;omega
section
variable(full:List Tk)(en:Int)(BF:full.length≤2000)
include BF
set_option maxHeartbeats 16000000 in
theorem ji{den:Int}{before:List Pc}{ts r:List Tk}{p:Pc}(h:UJ den before ts p r)(hd:1≤den∧den≤1000000)(hp:gr p)(hb: ∀q∈before,gr q)(c g:Nat)(hc:(c=1∧before= [])∨c=den.toNat)(k:Nat)(hk:full.drop k=ts):
  (∃k',k<k'∧k'≤full.length∧full.drop k'=r∧BS Tryz.prog T 178 [.p 1000 0,.s 1004,.p 1002 0] (CO full k en++ [(1004,.row 231 4 (.AF (Mw den before))),(1002,.box 3 (.AF [AE (c:Int)]))]) (.a (Uc den p)) (CO full k' en++ [(1004,.row 231 4 (.AF (Mw den before))),(1002,.box 3 (.AF [AE den]))])):=by
 obtain⟨⟨t1,t2,t3,t4,t5,t6,t7,neg,a,n,ZV,N1,h2,lD,ha,hsg,hn,h6,fU⟩,⟨yT,hfq⟩,hlen⟩:=h;obtain⟨D,hD⟩: ∃D:Nat,den=(D:Int):=⟨den.toNat,Zo⟩;have yP:=Ud den before;have yX:=sD c D (by rcases hc with ⟨h,_⟩|h<;>omega) Zo
 have Ki:c*1=c∧1≤Nat.gcd c D∧Int.tdiv (c:Int) ((Nat.gcd c D:Nat):Int)=1:=by
  rcases hc with ⟨h,_⟩|h
  ·subst h;rw[Nat.gcd_one_left];exact⟨rfl,Zd,Zd⟩
  ·have:c=D:=Zo
   subst this;rw[Nat.gcd_self];exact⟨Zo,Zo,Int.tdiv_self Zo⟩
 obtain⟨_,qI,Gp⟩:=Ki;generalize Nat.gcd c D=G0 at*;obtain⟨RI,LK,hn3⟩:=TA hn
 have ADM:a*den=p.pa∨ -a*den=p.pa:=by
  rcases lD with ⟨_,_,h⟩|⟨_,_,_,h⟩
  ·exact .inl h.symm
  ·exact .inr h.symm
 obtain⟨yY,AAD,Xp⟩:=hp;unfold DA at yY AAD Xp;have bJ:=jh ha
 obtain⟨σ,hσ,G3⟩: ∃σ:Int,((t4.text=Sw∧σ=1)∨(t4.text=EI∧σ= -1))∧n*σ=p.sl:=by
  rcases hsg with ⟨h,h'⟩|⟨h,h'⟩
  ·exact⟨1,.inl ⟨h,rfl⟩,by rw[Int.mul_one,h']⟩
  ·exact⟨-1,.inr ⟨h,rfl⟩,by rw[h',Int.mul_neg,Int.mul_one]⟩
 have c46:=DF ((64:Int)≤(before.length:Int));have H6:(Mw den before).length / 4=before.length:=Zo
 have c111:=DF ((1000000:Int)<den);have e106:(1:Int)*den=den:=Int.one_mul _;have ADN:(c:Int)≤1000000:=by rcases hc with ⟨h,_⟩|h<;>omega
 have hgz:((G0:Nat):Int)≠0:=Zo
 have ADO:((G0:Nat):Int)≠ -1:=Zo
 have ADP:=ZV;by_cases U6:before= []
 ·rcases lD with ⟨rfl,CD,ld⟩|⟨t,rfl,ht,ld⟩
  ·skip
   simp only[List.cons_append,List.nil_append,List.singleton_append]at ZV;subst ZV;obtain⟨FM,_,d1⟩:=AG hk;obtain⟨El,_,d2⟩:=AG d1;obtain⟨U3,_,d3⟩:=AG d2;obtain⟨Xo,_,d4⟩:=AG d3;obtain⟨ZT,_,d5⟩:=AG d4;obtain⟨eh,_,d6⟩:=AG d5;obtain⟨pB,_,d7⟩:=AG d6;refine⟨_,?_,?_,d7,?_⟩
   ·omega
   ·omega
   have e1:=Gk full k en _ _ _ hk BF N1;have e2:=Ax full _ en _ _ d1 BF _ h2;have e3:=EM full _ en EI _ d2;rw[show A4 EI (t3::t4::t5::t6::t7::r)=false from by unfold A4;exact Zdf CD]at e3;have e4:=Gk full _ en _ _ _ d2 BF ha;have e5:=PL full _ en _ _ σ d3 BF hσ;have e6:=Dm full _ en _ _ 0 n d4 BF hn;have e7:=Ax full _ en _ _ d5 BF _ h6;have e8:=Dm full _ en _ _ 1 den d6 BF fU;have bV:p.pa / den=a:=by rw[ld];exact Int.mul_ediv_cancel _ Zo
   have e70:a*1=a:=Zo
   have c18:((before.length:Int)==0)=true:=by rw[U6];rfl
   have c22:(p.fr != 0)=false:=by rw[yT U6];rfl
   have c27:decide ((0:Int)<(before.length:Int))=false:=by rw[U6];rfl
   generalize hL:Mw den before=L at*;subst hD;have xP:L= []:=by rw[←hL,U6];rfl
   subst xP;refine FO 116 [.cell 6 231] Tryz.func178 Tryz.ntmps178 fun B w0 Y R Am Az hY AQ AW Aj hR=>?_;have AB:=NA AW AQ 6 7
   refine AI ⟨[(6,.p 6 0)],(6,.box 231 (.AF (Uc D p)))::(CO full (k+1+1+1+1+1+1+1) en++ [(1004,.row 231 4 (.AF [])),(1002,.box 3 (.AF [AE (D:Int)]))]++Y)⟩ ER ?_;refine A7 ⟨[(0,.p 1000 0),(1,.s 1004),(2,.p 1002 0)],CO full k en++ [(1004,.row 231 4 (.ints .i64 [])),(1002,.box 3 (.AF [AE (c:Int)]))]++Y⟩ (fun a w hG=>(G.Al (AA Ai) Au) a w (G.PN hG 1004 231 4 (.AF []) (.ints .i64 []) rfl rfl (fun j hj=>absurd hj (Nat.not_lt_zero _)))) ?_;repeat'(first|exact tT|refine WA yX (Y9 decide_false c18 c22 c27 c46 H6 c111 e106 (Y4 e70 G3 Gp AB)) ?_ ?_|(refine EA e1 (Y9 decide_false c18 c22 c27 c46 H6 c111 e106 (Y4 e70 G3 Gp AB)) ?_;clear e1)|(refine EA e2 (Y9 decide_false c18 c22 c27 c46 H6 c111 e106 (Y4 e70 G3 Gp AB)) ?_;clear e2)|(refine EA e3 (Y9 decide_false c18 c22 c27 c46 H6 c111 e106 (Y4 e70 G3 Gp AB)) ?_;clear e3)|(refine EA e4 (Y9 decide_false c18 c22 c27 c46 H6 c111 e106 (Y4 e70 G3 Gp AB)) ?_;clear e4)|(refine EA e5 (Y9 decide_false c18 c22 c27 c46 H6 c111 e106 (Y4 e70 G3 Gp AB)) ?_;clear e5)|(refine EA e6 (Y9 decide_false c18 c22 c27 c46 H6 c111 e106 (Y4 e70 G3 Gp AB)) ?_;clear e6)|(refine EA e7 (Y9 decide_false c18 c22 c27 c46 H6 c111 e106 (Y4 e70 G3 Gp AB)) ?_;clear e7)|(refine EA e8 (Y9 decide_false c18 c22 c27 c46 H6 c111 e106 (Y4 e70 G3 Gp AB)) ?_;clear e8)|(refine HE ?_;clear hK K)|refine WR fun K hK=>?_|refine HT ?_|refine WC (fun h=>?_) fun h=>?_|exact ff|fail)
   all_goals first|omega|(simp only[bV];exact fun a w hG=>(G.Al (AA Ai) Au) a w (G.PN hG 1004 231 4 (.ints .i64 []) (.AF []) rfl rfl (fun j hj=>absurd hj (Nat.not_lt_zero _))))
  ·skip
   simp only[List.cons_append,List.nil_append,List.singleton_append]at ZV;subst ZV;obtain⟨FM,_,d1⟩:=AG hk;obtain⟨El,_,d2⟩:=AG d1;obtain⟨U3,_,d3⟩:=AG d2;obtain⟨Xo,_,d4⟩:=AG d3;obtain⟨ZT,_,d5⟩:=AG d4;obtain⟨eh,_,d6⟩:=AG d5;obtain⟨pB,_,d7⟩:=AG d6;obtain⟨tZ,_,d8⟩:=AG d7;refine⟨_,?_,?_,d8,?_⟩
   ·omega
   ·omega
   have e1:=Gk full k en _ _ _ hk BF N1;have e2:=Ax full _ en _ _ d1 BF _ h2;have e3:=EM full _ en EI _ d2;rw[show A4 EI (t::t3::t4::t5::t6::t7::r)=true from by unfold A4;exact Zde ht]at e3;have e4:=Gk full _ en _ _ _ d3 BF ha;have e5:=PL full _ en _ _ σ d4 BF hσ;have e6:=Dm full _ en _ _ 0 n d5 BF hn;have e7:=Ax full _ en _ _ d6 BF _ h6;have e8:=Dm full _ en _ _ 1 den d7 BF fU;have bV:p.pa / den= -a:=by rw[ld];exact Int.mul_ediv_cancel _ Zo
   have e70:a* -1= -a:=Zo
   have c18:((before.length:Int)==0)=true:=by rw[U6];rfl
   have c22:(p.fr != 0)=false:=by rw[yT U6];rfl
   have c27:decide ((0:Int)<(before.length:Int))=false:=by rw[U6];rfl
   generalize hL:Mw den before=L at*;subst hD;have xP:L= []:=by rw[←hL,U6];rfl
   subst xP;refine FO 116 [.cell 6 231] Tryz.func178 Tryz.ntmps178 fun B w0 Y R Am Az hY AQ AW Aj hR=>?_;have AB:=NA AW AQ 6 7
   refine AI ⟨[(6,.p 6 0)],(6,.box 231 (.AF (Uc D p)))::(CO full (k+1+1+1+1+1+1+1+1) en++ [(1004,.row 231 4 (.AF [])),(1002,.box 3 (.AF [AE (D:Int)]))]++Y)⟩ ER ?_;refine A7 ⟨[(0,.p 1000 0),(1,.s 1004),(2,.p 1002 0)],CO full k en++ [(1004,.row 231 4 (.ints .i64 [])),(1002,.box 3 (.AF [AE (c:Int)]))]++Y⟩ (fun a w hG=>(G.Al (AA Ai) Au) a w (G.PN hG 1004 231 4 (.AF []) (.ints .i64 []) rfl rfl (fun j hj=>absurd hj (Nat.not_lt_zero _)))) ?_;repeat'(first|exact tT|refine WA yX (Y9 decide_false c18 c22 c27 c46 H6 c111 e106 (Y4 e70 G3 Gp AB)) ?_ ?_|(refine EA e1 (Y9 decide_false c18 c22 c27 c46 H6 c111 e106 (Y4 e70 G3 Gp AB)) ?_;clear e1)|(refine EA e2 (Y9 decide_false c18 c22 c27 c46 H6 c111 e106 (Y4 e70 G3 Gp AB)) ?_;clear e2)|(refine EA e3 (Y9 decide_false c18 c22 c27 c46 H6 c111 e106 (Y4 e70 G3 Gp AB)) ?_;clear e3)|(refine EA e4 (Y9 decide_false c18 c22 c27 c46 H6 c111 e106 (Y4 e70 G3 Gp AB)) ?_;clear e4)|(refine EA e5 (Y9 decide_false c18 c22 c27 c46 H6 c111 e106 (Y4 e70 G3 Gp AB)) ?_;clear e5)|(refine EA e6 (Y9 decide_false c18 c22 c27 c46 H6 c111 e106 (Y4 e70 G3 Gp AB)) ?_;clear e6)|(refine EA e7 (Y9 decide_false c18 c22 c27 c46 H6 c111 e106 (Y4 e70 G3 Gp AB)) ?_;clear e7)|(refine EA e8 (Y9 decide_false c18 c22 c27 c46 H6 c111 e106 (Y4 e70 G3 Gp AB)) ?_;clear e8)|(refine HE ?_;clear hK K)|refine WR fun K hK=>?_|refine HT ?_|refine WC (fun h=>?_) fun h=>?_|exact ff|fail)
   all_goals first|omega|(simp only[bV];exact fun a w hG=>(G.Al (AA Ai) Au) a w (G.PN hG 1004 231 4 (.ints .i64 []) (.AF []) rfl rfl (fun j hj=>absurd hj (Nat.not_lt_zero _))))
 ·rcases lD with ⟨rfl,CD,ld⟩|⟨t,rfl,ht,ld⟩
  ·skip
   simp only[List.cons_append,List.nil_append,List.singleton_append]at ZV;subst ZV;obtain⟨FM,_,d1⟩:=AG hk;obtain⟨El,_,d2⟩:=AG d1;obtain⟨U3,_,d3⟩:=AG d2;obtain⟨Xo,_,d4⟩:=AG d3;obtain⟨ZT,_,d5⟩:=AG d4;obtain⟨eh,_,d6⟩:=AG d5;obtain⟨pB,_,d7⟩:=AG d6;refine⟨_,?_,?_,d7,?_⟩
   ·omega
   ·omega
   have e1:=Gk full k en _ _ _ hk BF N1;have e2:=Ax full _ en _ _ d1 BF _ h2;have e3:=EM full _ en EI _ d2;rw[show A4 EI (t3::t4::t5::t6::t7::r)=false from by unfold A4;exact Zdf CD]at e3;have e4:=Gk full _ en _ _ _ d2 BF ha;have e5:=PL full _ en _ _ σ d3 BF hσ;have e6:=Dm full _ en _ _ 0 n d4 BF hn;have e7:=Ax full _ en _ _ d5 BF _ h6;have e8:=Dm full _ en _ _ 1 den d6 BF fU;have bV:p.pa / den=a:=by rw[ld];exact Int.mul_ediv_cancel _ Zo
   have e70:a*1=a:=Zo
   have zw:0<before.length:=List.length_pos_iff.2 U6;have c18:((before.length:Int)==0)=false:=beq_eq_false_iff_ne.2 Zo;have c27:=DT ((0:Int)<(before.length:Int));have Xc:=hfq (before.getD (before.length - 1) default) (by rw[List.getLast?_eq_getElem?,Zlg,Zeg Zo];rfl);have c38:=DF (p.fr≤(before.getD (before.length - 1) default).fr);have N3:=Nq den before (before.length - 1) 0 Zo Zd;have e34:((before.length:Int) - 1).toNat=before.length - 1:=Zo
   rw[Nat.add_zero]at N3;have Jp:(Mw den before).getD ((before.length - 1)*4) .top=AE (before.getD (before.length - 1) default).fr:=N3;generalize (before.getD (before.length - 1) default).fr=qf at*;generalize hL:Mw den before=L at*;subst hD;refine FO 116 [.cell 6 231] Tryz.func178 Tryz.ntmps178 fun B w0 Y R Am Az hY AQ AW Aj hR=>?_;have AB:=NA AW AQ 6 7
   refine AI ⟨[(6,.p 6 0)],(6,.box 231 (.AF (Uc D p)))::(CO full (k+1+1+1+1+1+1+1) en++ [(1004,.row 231 4 (.AF L)),(1002,.box 3 (.AF [AE (D:Int)]))]++Y)⟩ ER ?_;repeat'(first|exact tT|refine WA yX (Y9 c18 c27 c38 e34 Jp c46 H6 c111 (Y5 e106 e70 G3 Gp AB)) ?_ ?_|(refine EA e1 (Y9 c18 c27 c38 e34 Jp c46 H6 c111 (Y5 e106 e70 G3 Gp AB)) ?_;clear e1)|(refine EA e2 (Y9 c18 c27 c38 e34 Jp c46 H6 c111 (Y5 e106 e70 G3 Gp AB)) ?_;clear e2)|(refine EA e3 (Y9 c18 c27 c38 e34 Jp c46 H6 c111 (Y5 e106 e70 G3 Gp AB)) ?_;clear e3)|(refine EA e4 (Y9 c18 c27 c38 e34 Jp c46 H6 c111 (Y5 e106 e70 G3 Gp AB)) ?_;clear e4)|(refine EA e5 (Y9 c18 c27 c38 e34 Jp c46 H6 c111 (Y5 e106 e70 G3 Gp AB)) ?_;clear e5)|(refine EA e6 (Y9 c18 c27 c38 e34 Jp c46 H6 c111 (Y5 e106 e70 G3 Gp AB)) ?_;clear e6)|(refine EA e7 (Y9 c18 c27 c38 e34 Jp c46 H6 c111 (Y5 e106 e70 G3 Gp AB)) ?_;clear e7)|(refine EA e8 (Y9 c18 c27 c38 e34 Jp c46 H6 c111 (Y5 e106 e70 G3 Gp AB)) ?_;clear e8)|(refine HE ?_;clear hK K)|refine WR fun K hK=>?_|refine HT ?_|refine WC (fun h=>?_) fun h=>?_|exact ff|fail)
   all_goals first|omega|(simp only[bV];exact G.Al (AA Ai) Au)|skip
  ·skip
   simp only[List.cons_append,List.nil_append,List.singleton_append]at ZV;subst ZV;obtain⟨FM,_,d1⟩:=AG hk;obtain⟨El,_,d2⟩:=AG d1;obtain⟨U3,_,d3⟩:=AG d2;obtain⟨Xo,_,d4⟩:=AG d3;obtain⟨ZT,_,d5⟩:=AG d4;obtain⟨eh,_,d6⟩:=AG d5;obtain⟨pB,_,d7⟩:=AG d6;obtain⟨tZ,_,d8⟩:=AG d7;refine⟨_,?_,?_,d8,?_⟩
   ·omega
   ·omega
   have e1:=Gk full k en _ _ _ hk BF N1;have e2:=Ax full _ en _ _ d1 BF _ h2;have e3:=EM full _ en EI _ d2;rw[show A4 EI (t::t3::t4::t5::t6::t7::r)=true from by unfold A4;exact Zde ht]at e3;have e4:=Gk full _ en _ _ _ d3 BF ha;have e5:=PL full _ en _ _ σ d4 BF hσ;have e6:=Dm full _ en _ _ 0 n d5 BF hn;have e7:=Ax full _ en _ _ d6 BF _ h6;have e8:=Dm full _ en _ _ 1 den d7 BF fU;have bV:p.pa / den= -a:=by rw[ld];exact Int.mul_ediv_cancel _ Zo
   have e70:a* -1= -a:=Zo
   have zw:0<before.length:=List.length_pos_iff.2 U6;have c18:((before.length:Int)==0)=false:=beq_eq_false_iff_ne.2 Zo;have c27:=DT ((0:Int)<(before.length:Int));have Xc:=hfq (before.getD (before.length - 1) default) (by rw[List.getLast?_eq_getElem?,Zlg,Zeg Zo];rfl);have c38:=DF (p.fr≤(before.getD (before.length - 1) default).fr);have N3:=Nq den before (before.length - 1) 0 Zo Zd;have e34:((before.length:Int) - 1).toNat=before.length - 1:=Zo
   rw[Nat.add_zero]at N3;have Jp:(Mw den before).getD ((before.length - 1)*4) .top=AE (before.getD (before.length - 1) default).fr:=N3;generalize (before.getD (before.length - 1) default).fr=qf at*;generalize hL:Mw den before=L at*;subst hD;refine FO 116 [.cell 6 231] Tryz.func178 Tryz.ntmps178 fun B w0 Y R Am Az hY AQ AW Aj hR=>?_;have AB:=NA AW AQ 6 7
   refine AI ⟨[(6,.p 6 0)],(6,.box 231 (.AF (Uc D p)))::(CO full (k+1+1+1+1+1+1+1+1) en++ [(1004,.row 231 4 (.AF L)),(1002,.box 3 (.AF [AE (D:Int)]))]++Y)⟩ ER ?_;repeat'(first|exact tT|refine WA yX (Y9 c18 c27 c38 e34 Jp c46 H6 c111 (Y5 e106 e70 G3 Gp AB)) ?_ ?_|(refine EA e1 (Y9 c18 c27 c38 e34 Jp c46 H6 c111 (Y5 e106 e70 G3 Gp AB)) ?_;clear e1)|(refine EA e2 (Y9 c18 c27 c38 e34 Jp c46 H6 c111 (Y5 e106 e70 G3 Gp AB)) ?_;clear e2)|(refine EA e3 (Y9 c18 c27 c38 e34 Jp c46 H6 c111 (Y5 e106 e70 G3 Gp AB)) ?_;clear e3)|(refine EA e4 (Y9 c18 c27 c38 e34 Jp c46 H6 c111 (Y5 e106 e70 G3 Gp AB)) ?_;clear e4)|(refine EA e5 (Y9 c18 c27 c38 e34 Jp c46 H6 c111 (Y5 e106 e70 G3 Gp AB)) ?_;clear e5)|(refine EA e6 (Y9 c18 c27 c38 e34 Jp c46 H6 c111 (Y5 e106 e70 G3 Gp AB)) ?_;clear e6)|(refine EA e7 (Y9 c18 c27 c38 e34 Jp c46 H6 c111 (Y5 e106 e70 G3 Gp AB)) ?_;clear e7)|(refine EA e8 (Y9 c18 c27 c38 e34 Jp c46 H6 c111 (Y5 e106 e70 G3 Gp AB)) ?_;clear e8)|(refine HE ?_;clear hK K)|refine WR fun K hK=>?_|refine HT ?_|refine WC (fun h=>?_) fun h=>?_|exact ff|fail)
   all_goals first|omega|(simp only[bV];exact G.Al (AA Ai) Au)|skip
end
theorem dP{den:Int}{b:List Pc}{ts r:List Tk}{p:Pc}(h:UJ den b ts p r)(hd:1≤den):p.pa / den*den=p.pa:=by
 obtain⟨⟨t1,t2,t3,t4,t5,t6,t7,neg,a,n,_,_,_,lD,_⟩,_⟩:=h;rcases lD with ⟨_,_,h⟩|⟨_,_,_,h⟩
 ·rw[h,Int.mul_ediv_cancel _ Zo]
 ·rw[h,Int.mul_ediv_cancel _ Zo]
def Ue:List Pc→List AV
 | []=> []
 |p::r=>AE p.fr::AE p.pa::AE p.sl::Ue r
theorem ab(l:List Pc):(Ue l).length=l.length*3:=by
 induction l with
 |nil=>rfl
 |cons p r ih=>simp only[Ue,List.length_cons,ih];omega
theorem nh(l:List Pc)(p:Pc):Ue (l++ [p])=Ue l++ [AE p.fr,AE p.pa,AE p.sl]:=by
 induction l with
 |nil=>rfl
 |cons q r ih=>simp only[Ue,List.cons_append,ih]
theorem ni(l:List Pc):AV.Dp (Ue l)=true:=by
 induction l with
 |nil=>rfl
 |cons p r ih=>
  show AV.Dp (_::_::_::Ue r)=true;simp only[AV.Dp,ih];rfl
theorem sE(l:List Pc)(e j:Nat)(he:e<l.length)(hj:j<3):(Ue l).getD (e*3+j) .top=(Et (l.getD e default)).getD j .top:=by
 induction l generalizing e with
 |nil=>simp at he
 |cons p r ih=>
  cases e with
  |zero=>rw[Nat.zero_mul,Nat.zero_add];match j,hj with|0,_=>rfl|1,_=>rfl|2,_=>rfl
  |succ e=>
   have:=ih e (by simpa using he);rw[show(e+1)*3+j=(e*3+j)+3 by omega];simpa[Ue]using this
theorem nj(fr:Bool)(l:List Pc):AR (.i fr (fun e j=>(Ue l).getD (e*3+j) .top) 3 0 l.length) (C2 Et 3 l):=AR.slice rfl fun e j he hj=>by rw[Nat.zero_add,sE l e j he hj]
theorem Uf{l:List Pc}{i:Nat}(h:i<l.length):l.take (i+1)=l.take i++ [l.getD i default]:=by
 rw[List.take_add_one,Zlg,Zeg h];rfl
abbrev zB:AN:=.box 27 (.AF [AE 0,An ⟨#[]⟩,An ⟨#[]⟩,AE 0,AE 0,AE 0,AE 0,AE 0,.v (.slice none 0 0),.v (.slice none 0 0),AE 0])
abbrev tB(den:Int)(ps ks:AV):AN:=.box 27 (.AF [AE 18,An ⟨#[]⟩,An ⟨#[]⟩,AE 0,AE 0,AE 0,AE 0,AE den,ps,ks,.o])
abbrev kA(e:Nd):AV:=.i true (fun e' j=>(A1 e).getD (e'*11+j) .top) 11 0 1
abbrev L5:AV:=.v (.slice none 0 0)
def uN(den:Int)(i:Nat):Nat:=if i=0 then 1 else den.toNat
section
variable(full:List Tk)(en:Int)(BF:full.length≤2000)
include BF
set_option maxHeartbeats 16000000 in
theorem dR{ts tr r:List Tk}{e:Nd}{den:Int}{ps:List Pc}{t u:Tk}(h:F6 119 full en [] ts e (t::tr))(ht:t.text=Gi)(hp:UK den ps tr (u::r))(hu:u.text=D3)(hd:1≤den∧den≤1000000)(hs: ∀p∈ps,-1000000≤p.sl∧p.sl≤1000000)(Ae: ∀p∈ps,gr p):F6 171 full en [] (⟨1,FB⟩::⟨6,E0⟩::ts) (PC den ps e) r:=by
 intro k E5 hk;obtain⟨FM,_,d1⟩:=AG hk;obtain⟨El,_,d2⟩:=AG d1;obtain⟨d3,pI,hF⟩:=h _ Zo d2;obtain⟨U3,_,d4⟩:=AG d3
 have hp3:k+1+1<full.length - (t::tr).length:=by
  have h1:=IZ d2 Zo;simp only[List.length_cons]at pI ⊢;omega
 obtain⟨at_,F1,lE,ud,CB⟩:=hp;have e1:=Ax full k en _ _ hk BF _ rfl;have e2:=Ax full _ en _ _ d1 BF _ rfl;have e4:=Ax full _ en _ _ d3 BF _ ht
 have step: ∀i,i<ps.length→ ∀m,full.drop m=at_ i→ ∃m2,m<m2∧m2≤full.length∧full.drop m2=(if i+1<ps.length then⟨6,Cp⟩::at_ (i+1)else u::r)∧BS Tryz.prog T 178 [.p 1000 0,.s 1004,.p 1002 0] (CO full m en++ [(1004,.row 231 4 (.AF (Mw den (ps.take i)))),(1002,.box 3 (.AF [AE (uN den i:Int)]))]) (.a (Uc den (ps.getD i default))) (CO full m2 en++ [(1004,.row 231 4 (.AF (Mw den (ps.take i)))),(1002,.box 3 (.AF [AE den]))]):=fun i hi m hm=>by
  refine ji full en BF (ud i hi) hd (Ae _ (Ap hi)) (fun q hq=>Ae q (List.mem_of_mem_take hq)) (uN den i) 0 ?_ m hm;unfold uN;by_cases h0:i=0
  ·left;rw[if_pos h0,h0];exact⟨rfl,rfl⟩
  ·right;rw[if_neg h0]
 have kk: ∀i,i<ps.length→full.drop (full.length - (at_ i).length)=at_ i∧k+1+1<full.length - (at_ i).length:=fun i=>by
  induction i with
  |zero=>
   intro _;have h1:=IZ (k:=full.length - (t::tr).length+1) d4 Zo;rw[lE,h1];exact⟨d4,Zo⟩
  |succ i ih=>
   intro hi;obtain⟨h1,h2⟩:=ih Zo;obtain⟨m2,h3,h4,h5,_⟩:=step i Zo _ h1;rw[if_pos hi]at h5;obtain⟨h6,_,h7⟩:=AG h5;rw[IZ h7 Zo];exact⟨h7,Zo⟩
 obtain⟨dz,yZ⟩:full.drop (full.length - (u::r).length)=u::r∧k+1+1<full.length - (u::r).length:=by
  obtain⟨h1,h2⟩:=kk (ps.length - 1) Zo;obtain⟨m2,h3,h4,h5,_⟩:=step (ps.length - 1) Zo _ h1;rw[if_neg Zo]at h5;rw[IZ h5 h4];exact⟨h5,Zo⟩
 obtain⟨ZT,_,d6⟩:=AG dz;have e5:=Ax full _ en _ _ dz BF _ hu;have hdiv: ∀i,i<ps.length→(ps.getD i default).pa / den*den=(ps.getD i default).pa:=fun i hi=>dP (ud i hi) hd.1;refine E2 hk d6 ⟨Zo,Zo⟩ ?_;have Ct:=Ib true [e];rw[Ia]at Ct;have wq:=nj true ps
 have AAE:ps.length≤64:=by
  have:=(ud (ps.length - 1) Zo).len;rw[List.length_take]at this;omega
 have xQ:full.length - (t::tr).length+1=full.length - (at_ 0).length:=by rw[lE,IZ d4 Zo]
 generalize full.length - (t::tr).length=m at*;generalize full.length - (u::r).length=mz at*;obtain⟨D,hD⟩: ∃D:Nat,den=(D:Int):=⟨den.toNat,Zo⟩;refine FO 83 [.cell 2 27] Tryz.func171 Tryz.ntmps171 fun B w0 Y R Am Az hY AQ AW Aj hR=>?_;have AB:=yq AW AQ 2 3 4 6 8 18 26 27 77 78
 refine Wn 1002 1004 ⟨[(2,.p 2 0)],(2,.box 27 (.AF (A1 (PC den ps e))))::(CO full (mz+1) en++Y)⟩ NI NI NI NI ER fun w2 FM El Gp xR=>?_;have Am:=Gp Am;repeat'(first|exact tT|refine WA tT AB ?_ ?_|(refine EA e1 AB ?_;clear e1)|(refine EA e2 AB ?_;clear e2)|(refine EA hF AB ?_;clear hF)|(refine EA e4 AB ?_;clear e4)|(refine HE ?_;clear hK K)|refine WR fun K hK=>?_|refine HT ?_|refine WC (fun h=>?_) fun h=>?_|exact ff|fail)
 have Kk:(AJ 27 Y=Y∧AJ 26 Y=Y∧AJ 77 Y=Y∧AJ 78 Y=Y)∧(Dh 27 Y=Y∧Dh 1004 Y=Y∧Dh 78 Y=Y)∧Gd 27 1004 Y=Y∧Gd 4 1002 Y=Y:=⟨⟨AQ _ Zd,AQ _ Zd,AQ _ Zd,AQ _ Zd⟩,⟨hY.del Zd,hY.del Zd,hY.del Zd⟩,hY.rn Zd,hY.rn Zd⟩
 refine AM (α:=Nat) (fun i=>⟨[(0,.p 1000 0),(2,.p 2 0),(3,.p 3 0),(4,.p 1002 0),(5,.s 1004)],[(1004,.row 231 4 (.AF (Mw den (ps.take i)))),(1002,.box 3 (.AF [AE (uN den i:Int)])),(2,zB),(3,tB 0 L5 (kA e))]++(CO full (full.length - (at_ i).length) en++Y)⟩) (fun i=>i<ps.length) (fun i=>ps.length - i) 0 F1 (fun a w hG=>by
  obtain⟨ρ,I,hg⟩:=hG;have hn:=hg.BQ.JQ;have hG:G 83 B w2 _ a w:=⟨ρ,I,hg⟩;have h0:G 83 B w2 ⟨[(0,.p 1000 0),(2,.p 2 0),(3,.p 3 0),(4,.p 4 0),(5,L5)],[(4,.box 3 (.AF [AE 1])),(2,zB),(3,tB 0 L5 (kA e))]++(CO full (m+1) en++Y)⟩ a w:=(G.Al (AA Ai) Au) a w hG;have h1:=h0.Th 5 27 rfl Zd 231 4 (.AF []) rfl;push_cast[Kk,List.cons_append,List.nil_append]at h1;have h2:=h1.rn 27 1004 NI NI El;push_cast[IL,Gd,Kk,List.cons_append,List.nil_append]at h2;have h3:=h2.rn 4 1002 NI NI FM;push_cast[IL,Gd,Kk,List.cons_append,List.nil_append]at h3;rw[←xQ];exact(G.Al (AA Ai) Au) a w h3) fun i hi=>?_
 obtain⟨hki,_⟩:=kk i hi;obtain⟨m2,hm1,bK,tu,J6⟩:=step i hi _ hki;have yP:=Ud den (ps.take i);rw[List.length_take,Nat.min_eq_left Zo]at yP;have BE:Mw den (ps.take (i+1))=Mw den (ps.take i)++ [AE (ps.getD i default).fr,AE ((ps.getD i default).pa / den),AE (ps.getD i default).sl,AE den]:=by rw[Uf hi,nd]
 have FE:((uN den (i+1):Nat):Int)=den:=by unfold uN;rw[if_neg Zo];omega
 by_cases Xc:i+1<ps.length
 ·rw[if_pos Xc]at tu;obtain⟨h6,_,h7⟩:=AG tu;have EF:=IZ h7 Zo;have es:=EM full _ en Cp _ tu;rw[show A4 Cp (⟨6,Cp⟩::at_ (i+1))=true from by unfold A4;exact Zde rfl]at es;generalize Mw den (ps.take i)=L at*;generalize ps.getD i default=p at*;have H6:L.length / 4=i:=Zo
  repeat'(first|exact tT|refine WA tT (Y3 Kk H6 AB) ?_ ?_|(refine WQ (Y3 Kk H6 AB) fun K' AX=>?_;(repeat refine AS ?_ ?_);(first|refine⟨[AE p.fr,AE (p.pa / den),AE p.sl,AE den],⟨rfl,(fun el j h1 h2=>rfl),rfl,Zo,Zo⟩,?_⟩);refine AX _ ?_;clear AX K')|(refine EA J6 (Y3 Kk H6 AB) ?_;clear J6)|(refine EA es (Y3 Kk H6 AB) ?_;clear es)|(refine HE ?_;clear hK K)|refine WR fun K hK=>?_|refine HT ?_|refine WC (fun h=>?_) fun h=>?_|exact ff|fail)
  all_goals first|omega|skip
  refine⟨i+1,⟨Xc,Zo⟩,fun a w hG=>?_⟩;have h0:G 83 B w2 ⟨[(0,.p 1000 0),(2,.p 2 0),(3,.p 3 0),(4,.p 1002 0),(5,.s 27)],[(27,.row 231 4 (.AF (L++ [AE p.fr,AE (p.pa / den),AE p.sl,AE den]))),(1002,.box 3 (.AF [AE den])),(2,zB),(3,tB 0 L5 (kA e))]++(CO full (m2+1) en++Y)⟩ a w:=(G.Al (AA Ai) Au) a w hG;have h1:=h0.rn 27 1004 NI NI El;push_cast[IL,Gd,Kk,List.cons_append,List.nil_append]at h1;simp only[BE,FE,EF];exact(G.Al (AA Ai) Au) a w h1
 ·have lC:ps.length=i+1:=Zo
  rw[if_neg Xc]at tu;have hmz:m2=mz:=by have h1:=congrArg List.length dz;have h2:=congrArg List.length tu;rw[List.length_drop]at h1 h2;omega
  subst hmz;have es:=EM full _ en Cp _ tu;rw[CB]at es;have Xp:ps=ps.take i++ [ps.getD i default]:=by rw[←Uf hi,←lC,List.take_length]
  have AAG:=Ud den ps;have Ix:Mw den (ps.take i)++ [AE (ps.getD i default).fr,AE ((ps.getD i default).pa / den),AE (ps.getD i default).sl,AE den]=Mw den ps:=by rw[←BE,←lC,List.take_length]
  generalize hLL:Mw den (ps.take i)=L at*;generalize hpp:ps.getD i default=p at*;have H6:L.length / 4=i:=Zo
  have hl5:(L.length+4) / 4=ps.length:=Zo
  have TY:(L++ [AE p.fr,AE (p.pa / den),AE p.sl,AE den]).length / 4=ps.length:=by rw[Ix];omega
  repeat'(first|exact tT|refine WA tT (Y3 Kk H6 AB) ?_ ?_|(refine WQ (Y3 Kk H6 AB) fun K' AX=>?_;(repeat refine AS ?_ ?_);(first|refine⟨[AE p.fr,AE (p.pa / den),AE p.sl,AE den],⟨rfl,(fun el j h1 h2=>rfl),rfl,Zo,Zo⟩,?_⟩);refine AX _ ?_;clear AX K')|(refine EA J6 (Y3 Kk H6 AB) ?_;clear J6)|(refine EA es (Y3 Kk H6 AB) ?_;clear es)|(refine EA e5 (Y3 Kk H6 AB) ?_;clear e5)|(refine HE ?_;clear hK K)|refine WR fun K hK=>?_|refine HT ?_|refine WC (fun h=>?_) fun h=>?_|exact ff|fail)
  all_goals first|omega|skip
  have h44:((Mw den ps).length:Int) / 4=(ps.length:Int):=by rw[AAG];omega
  simp only[Ix,h44];clear step ud kk BE FE hLL hpp Ix h44 TY Xp
  refine AM (α:=Nat) (fun j=>⟨[(0,.p 1000 0),(2,.p 2 0),(3,.p 3 0),(4,.p 1002 0),(6,.p 6 0),(43,.s 27),(44,AE (ps.length:Int)),(45,AE (j:Int))],[(78,.row 93 3 (.AF (Ue (ps.take j)))),(27,.row 231 4 (.AF (Mw den ps))),(1002,.box 3 (.AF [AE den])),(2,zB),(3,tB den (.s 78) (kA e)),(6,.box 111 (.AF (ET u)))]++(CO full (m2+1) en++Y)⟩) (fun j=>j≤ps.length) (fun j=>ps.length - j) 0 (Nat.zero_le _) (fun a w hG=>by
   obtain⟨ρ,I,hg⟩:=hG;have hn:=hg.BQ.JQ;have hG:G 83 B w2 _ a w:=⟨ρ,I,hg⟩;have h0:G 83 B w2 ⟨[(0,.p 1000 0),(2,.p 2 0),(3,.p 3 0),(4,.p 1002 0),(6,.p 6 0),(43,.s 27),(44,AE (ps.length:Int)),(45,AE 0)],[(27,.row 231 4 (.AF (Mw den ps))),(1002,.box 3 (.AF [AE den])),(2,zB),(3,tB den L5 (kA e)),(6,.box 111 (.AF (ET u)))]++(CO full (m2+1) en++Y)⟩ a w:=(G.Al (AA Ai) Au) a w hG;have h1:=h0.KS 3 78 8 27 93 3 (.AF []) rfl rfl Zd rfl (hn 78 Zd);push_cast[Kk,List.cons_append,List.nil_append]at h1;exact(G.Al (AA Ai) Au) a w h1) fun j hj=>?_
  by_cases N5:j<ps.length
  ·have c46:=DT ((j:Int)<(ps.length:Int));have hq:=Ap N5;have Zz7:=hs _ hq;have hqd:=hdiv j N5;obtain⟨Xq,zo,fc⟩:=Ae _ hq;unfold DA at Xq zo fc;have p0:=Nq den ps j 0 N5 Zd;have p1:=Nq den ps j 1 N5 Zd;have p2:=Nq den ps j 2 N5 Zd;have p3:=Nq den ps j 3 N5 Zd;rw[Nat.add_zero]at p0;simp only[Uc,List.getD_cons_zero,List.getD_cons_succ]at p0 p1 p2 p3;have BE:Ue (ps.take (j+1))=Ue (ps.take j)++ [AE (ps.getD j default).fr,AE (ps.getD j default).pa,AE (ps.getD j default).sl]:=by rw[Uf N5,nh]
   have ya:=ab (ps.take j);rw[List.length_take,Nat.min_eq_left hj]at ya;have e54:Int.tdiv den den=1:=Int.tdiv_self Zo;generalize ps.getD j default=q at*;generalize Ue (ps.take j)=Z at*;have e55:q.sl*1=q.sl:=Int.mul_one _;have Oo:Z.length / 3=j:=Zo
   have c57:=DF ((1000000:Int)<q.sl);have c60:=DF (q.sl<(-1000000:Int));have hdz:den≠0∧den≠ -1:=Zo
   repeat'(first|exact tT|refine WA tT (Y9 Kk c46 p0 p1 p2 p3 e54 e55 (Y5 hqd c57 c60 Oo AB)) ?_ ?_|(refine WQ (Y9 Kk c46 p0 p1 p2 p3 e54 e55 (Y5 hqd c57 c60 Oo AB)) fun K' AX=>?_;(repeat refine AS ?_ ?_);(first|refine⟨[AE q.fr,AE q.pa,AE q.sl],⟨rfl,(fun el j h1 h2=>rfl),rfl,Zo,Zo⟩,?_⟩);refine AX _ ?_;clear AX K')|(refine HE ?_;clear hK K)|refine WR fun K hK=>?_|refine HT ?_|refine WC (fun h=>?_) fun h=>?_|exact ff|fail)
   all_goals first|omega|(refine⟨j+1,⟨Zo,Zo⟩,?_⟩;simp only[BE];exact G.Al (AA Ai) Au)
  ·have AAI:j=ps.length:=Zo
   have c46:=DF ((j:Int)<(ps.length:Int));have ya:=ab ps;have Oo:(Ue ps).length / 3=ps.length:=Zo
   have N2:ps.take j=ps:=by rw[AAI,List.take_length]
   have HJ:=ni ps;simp only[N2]
   refine A7 ⟨[(0,.p 1000 0),(2,.p 2 0),(3,.p 3 0),(44,AE (ps.length:Int)),(45,AE (j:Int))],[(3,tB den (.i true (fun e' j=>(Ue ps).getD (e'*3+j) .top) 3 0 ps.length) (kA e)),(2,zB)]++(CO full (m2+1) en++Y)⟩ (fun a w hG=>by
    have h0:G 83 B w2 ⟨[(0,.p 1000 0),(2,.p 2 0),(3,.p 3 0),(44,AE (ps.length:Int)),(45,AE (j:Int))],[(3,tB den (.s 78) (kA e)),(78,.row 93 3 (.AF (Ue ps))),(2,zB)]++(CO full (m2+1) en++Y)⟩ a w:=(G.Al (AA Ai) Au) a w hG;have h1:=h0.GR 78 _ rfl HJ;push_cast[KH,Ec,Fo,Ge,Ik,Ij,KG,Ez,hY.ml (d:=78) (.row 93 3 (.AF (Ue ps))) Zd,Oo,List.cons_append,List.nil_append]at h1;exact(G.Al (AA Ai) Au) a w h1) ?_
   simp only[List.cons_append,List.nil_append];repeat'(first|exact tT|refine WA tT (Y3 Kk c46 AB) ?_ ?_|(refine HE ?_;clear hK K)|refine WR fun K hK=>?_|refine HT ?_|refine WC (fun h=>?_) fun h=>?_|exact ff|fail)
   exact LV
end
end Go.Proofs.YthemnhjojaehhaaGreatDoor
