/- Part of a proof. -/
import Derived.Test.YthemnhjojaehhaaGreatDoorA47
import Derived.Test.YthemnhjojaehhaaGreatDoorA48
import Derived.Test.YthemnhjojaehhaaGreatDoorA44
import Derived.Test.YthemnhjojaehhaaGreatDoorA42
set_option linter.all false
namespace Go.Proofs.YthemnhjojaehhaaGreatDoor
open Go.Ad Go.Proofs Go.Tp
attribute [local irreducible] A8 AK BY Go.Ad.Pure BS pq Uh
def OQ(xs:List Nd):Nd:=.mk 1 ⟨#[]⟩ ⟨#[]⟩ 0 0 0 0 0 [] xs
abbrev rB(ks:AV):AN:=.box 27 (.AF [AE 1,An ⟨#[]⟩,An ⟨#[]⟩,AE 0,AE 0,AE 0,AE 0,AE 0,L5,ks,AE 0])
set_option maxHeartbeats 16000000 in
theorem sR(s:ByteArray)(ts:List Tk)(hs:s.size≤6000)(hA:Mp (EK (bl s)) ts)(HS:Gz [47,47] (EK (bl s))=false)(hn:ts.length≤2000)(xs:List Nd)(hx:ve ts xs)(Ae: ∀x∈xs,Cz x)(Bh:(OQ xs).size≤2000)(pE:(OQ xs).depth≤40):
  Pure Tryz.prog 8 [An s] (.t [.a (A1 (OQ xs)),L5]):=by
 have lL:=aj s ts hs hA HS hn;have AAh:=Yy (OQ xs) Bh pE;obtain⟨at_,lE,hit,CB⟩:=hx;have TZ: ∀i,i<xs.length→F6 25 ts s.size [] (at_ i) (xs.getD i default) (at_ (i+1)):=fun i hi=>jl ts s.size hn (hit i hi).2 (Ae _ (Ap hi))
 have kk: ∀i,i≤xs.length→ts.drop (ts.length - (at_ i).length)=at_ i∧(at_ i).length+i≤ts.length:=fun i=>by
  induction i with
  |zero=>intro _;rw[lE,Nat.sub_self];exact⟨rfl,Nat.le_refl _⟩
  |succ i ih=>
   intro hi;obtain⟨h1,h2⟩:=ih Zo;obtain⟨h5,h6,_⟩:=TZ i Zo _ (Nat.sub_le _ _) h1;exact⟨h5,Zo⟩
 have Xl:xs.length≤2000:=by have:=(kk xs.length (Nat.le_refl _)).2;omega
 have HJ:=PM xs;have Ct:=Ib true xs;have VH:=Jk xs;refine Ea (n:=100) (res:= [.cell 2 27,.tmp 3]) hT Tryz.func8 rfl rfl rfl Tryz.ntmps8 (Nat.le_of_ble_eq_true rfl) fun B w0 F8 Az=>?_;have Am:=CW.none F8;have AB:True:=trivial;repeat'(first|exact tT|refine WA lL tT ?_ ?_|(refine PE ?_;clear hK K)|refine WR fun K hK=>?_|refine PT ?_|refine WC (fun h=>?_) fun h=>?_|exact ff|fail)
 refine AM (α:=Nat) (fun i=>⟨[(0,An s),(2,.p 2 0),(4,KO ts),(7,.p 1000 0),(8,.p 8 0),(9,L5)],[(8,rB (.s 56)),(56,.row 27 11 (.AF (Gn (xs.take i)))),(2,zB)]++CO ts (ts.length - (at_ i).length) s.size⟩) (fun i=>i≤xs.length) (fun i=>xs.length - i) 0 (Nat.zero_le _) (fun a w hG=>by
  have h0:G 100 B w0 ⟨[(0,An s),(2,.p 2 0),(4,KO ts),(7,.p 30 0),(8,.p 8 0),(9,L5)],[(8,rB L5),(2,zB),(30,.box 62 (.AF [KO ts,AE 0,AE (s.size:Int)]))]⟩ a w:=(G.Al (AA Ai) IN) a w hG;have h1:=h0.KS 8 56 9 27 27 11 (.AF []) rfl rfl Zd rfl (F8 56);push_cast[List.cons_append,List.nil_append]at h1;have h2:=h1.rn 30 1000 (by simp[Bg,AV.ids,AV.Av,KO,QM,LW]) (by simp[Bz,AN.ids,AV.ids,AV.Av,KO,QM,LW]) (F8 _);push_cast[IL,Gd,List.cons_append,List.nil_append]at h2;have e0:ts.length - (at_ 0).length=0:=by rw[lE];omega
  rw[e0];exact(G.Al (AA Ai) IN) a w h2) fun i hi=>?_
 obtain⟨h1,h2⟩:=kk i hi;have lb:=Jk (xs.take i);rw[List.length_take,Nat.min_eq_left hi]at lb;by_cases Ak:i<xs.length
 ·have CD:=(hit i Ak).1;have F1:0<(at_ i).length:=List.length_pos_iff.2 CD;have AAi:=sJ ts s.size hn (TZ i Ak) (ts.length - (at_ i).length) (Nat.sub_le _ _) h1;have BE:Gn (xs.take (i+1))=Gn (xs.take i)++A1 (xs.getD i default):=by rw[Ug Ak,Ua,Ia]
  have c38:=DT (((ts.length - (at_ i).length:Nat):Int)<(ts.length:Int));generalize Gn (xs.take i)=L at*;generalize xs.getD i default=x at*;generalize ts.length - (at_ i).length=m at*;generalize bK:ts.length - (at_ (i+1)).length=m2 at*;have Gv:L.length / 11=i:=Zo
  simp only[List.cons_append,List.nil_append];repeat'(first|exact tT|refine WA tT (Y3 c38 Gv AB) ?_ ?_|(refine WQ (Y3 c38 Gv AB) fun K' AX=>?_;(repeat refine AS ?_ ?_);(first|refine⟨A1 x,⟨rfl,(fun el j h1 h2=>rfl),rfl,Zo,Zo⟩,?_⟩);refine AX _ ?_;clear AX K')|refine ED AAi (Y3 c38 Gv AB) ?_|(refine HE ?_;clear hK K)|refine WR fun K hK=>?_|refine HT ?_|refine WC (fun h=>?_) fun h=>?_|exact ff|fail)
  all_goals first|omega|(refine⟨i+1,⟨Zo,Zo⟩,?_⟩;simp only[BE,bK];exact G.Al (AA Ai) IN)
 ·have JO:i=xs.length:=Zo
  have c38:decide (((ts.length - (at_ i).length:Nat):Int)<(ts.length:Int))=false:=Zdf (by rw[JO,CB];simp);have N2:xs.take i=xs:=by rw[JO,List.take_length]
  rw[N2]at lb ⊢;have Gv:(Gn xs).length / 11=xs.length:=Zo
  generalize ts.length - (at_ i).length=m at*
  refine A7 ⟨[(0,An s),(2,.p 2 0),(4,KO ts),(7,.p 1000 0),(8,.p 8 0),(9,L5)],[(8,.box 27 (.AF (A1 (OQ xs)))),(2,zB)]++CO ts m s.size⟩ (fun a w hG=>by
   have h0:G 100 B w0 ⟨[(0,An s),(2,.p 2 0),(4,KO ts),(7,.p 1000 0),(8,.p 8 0),(9,L5)],[(8,rB (.s 56)),(56,.row 27 11 (.AF (Gn xs))),(2,zB)]++CO ts m s.size⟩ a w:=(G.Al (AA Ai) IN) a w hG;have h1:=h0.GR 56 _ rfl HJ;push_cast[KH,Ec,Fo,Ge,Ik,Ij,KG,Ez,Gv,List.cons_append,List.nil_append]at h1;refine h1.E8 ⟨AR.refl _,AR.refl _,AR.refl _,AR.refl _,AR.refl _,AR.refl _,trivial⟩ (B7 rfl NS HSZ)) ?_
  simp only[List.cons_append,List.nil_append];repeat'(first|exact tT|refine WA AAh (Y2 c38 AB) ?_ ?_|(refine HE ?_;clear hK K)|refine WR fun K hK=>?_|refine HT ?_|refine WC (fun h=>?_) fun h=>?_|exact ff|fail)
  all_goals first|omega|rfl
end Go.Proofs.YthemnhjojaehhaaGreatDoor
namespace Go.Proofs.YthemnhjojaehhaaGreatDoor
open Go.Ad Go.Proofs Go.Tp
attribute [local irreducible] A8 AK BY Go.Ad.Pure BS
abbrev lvU:List (Key×Int):=A5 (A5 (A5 (A5 (A5 (A5 (A5 (A5 (A5 (A5 (A5 [] (.s ⟨#[111,114]⟩) 0) (.s ⟨#[97,110,100]⟩) 1) (.s ⟨#[61,61]⟩) 3) (.s ⟨#[33,61]⟩) 3) (.s ⟨#[60]⟩) 3) (.s ⟨#[60,61]⟩) 3) (.s ⟨#[43]⟩) 4) (.s ⟨#[45]⟩) 4) (.s ⟨#[42]⟩) 5) (.s ⟨#[47]⟩) 5) (.s ⟨#[97,116]⟩) 5
theorem sw:lvU=Bp:=Zd
set_option maxRecDepth 100000 in
set_option maxHeartbeats 4000000 in
theorem kE:BS Tryz.prog T 20 [] [] (.p 1001 0) [(1001,.box 100 (.AF [Qf,.s 1003,.s 1005])),(1003,.row 5 1 (.ints .u8 [])),(1005,.mp (.ints false .i64 Bp))]:=by
 refine FO 5 [.tmp 0] Tryz.func20 Tryz.ntmps20 fun B w0 Y R Am Az hY AQ AW Aj hR=>?_;have AB:=NA AW AQ 1 4
 refine AI ⟨[(0,.p 1001 0)],[(1001,.box 100 (.AF [Qf,.s 1003,.s 1005])),(1003,.row 5 1 (.ints .u8 [])),(1005,.mp (.ints false .i64 Bp))]++Y⟩ ER ?_;repeat'(first|exact tT|refine WA tT AB ?_ ?_|refine WM AB ?_ ?_|refine WI AB ?_ ?_|(refine HE ?_;clear hK K)|refine WR fun K hK=>?_|refine HT ?_|refine WC (fun h=>?_) fun h=>?_|exact ff|fail)
 all_goals first|exact⟨Zd,Zd⟩|decide|skip
 refine fun a w hG=>?_;obtain⟨ρ,I,hg⟩:=hG;have hn:=hg.BQ.JQ;have hG:G 5 B w0 _ a w:=⟨ρ,I,hg⟩;have F3:AJ 2 Y=Y:=AQ _ Zd;have hz:G 5 B w0 ⟨[(0,.p 4 0)],(4,.box 100 (.AF [Qf,.v (.slice none 0 0),.s 1]))::(1,.mp (.ints false .i64 lvU))::Y⟩ a w:=G.Al (AA Ai) Au a w hG;rw[sw]at hz;have h0:=hz.KS 4 2 1 100 5 1 (.ints .u8 []) rfl rfl Zd rfl (hn 2 Zd);push_cast[AB,F3,List.cons_append,List.nil_append]at h0;have r0:=QX (st:=⟨[(0,.p 4 0)],[(4,.box 100 (.AF [Qf,.s 2,.s 1])),(2,.row 5 1 (.ints .u8 [])),(1,.mp (.ints false .i64 Bp))]++Y⟩) (E:= [(0,.p 4 0)]) (pre:= [(4,.box 100 (.AF [Qf,.s 2,.s 1])),(2,.row 5 1 (.ints .u8 [])),(1,.mp (.ints false .i64 Bp))]) hY 4 1001 Zd Zd (fun _ _ h=>h) (by simp[Bg,AV.ids,AV.Av,Cr,Cs]) (by simp[Bz,AN.ids,AV.Av,AV.ids,A1,Cr,Cs]) (Am.2 1001 Zd Zd) a w (G.Al (AA Ai) Au a w h0);push_cast[IL,Gd,List.cons_append,List.nil_append]at r0;have r1:=QX (st:=⟨[(0,.p 1001 0)],[(1001,.box 100 (.AF [Qf,.s 2,.s 1])),(2,.row 5 1 (.ints .u8 [])),(1,.mp (.ints false .i64 Bp))]++Y⟩) (E:= [(0,.p 1001 0)]) (pre:= [(1001,.box 100 (.AF [Qf,.s 2,.s 1])),(2,.row 5 1 (.ints .u8 [])),(1,.mp (.ints false .i64 Bp))]) hY 2 1003 Zd Zd (fun _ _ h=>h) (by simp[Bg,AV.ids,AV.Av,Cr,Cs]) (by simp[Bz,AN.ids,AV.Av,AV.ids,A1,Cr,Cs]) (Am.2 1003 Zd Zd) a w (G.Al (AA Ai) Au a w r0);push_cast[IL,Gd,List.cons_append,List.nil_append]at r1;have r2:=QX (st:=⟨[(0,.p 1001 0)],[(1001,.box 100 (.AF [Qf,.s 1003,.s 1])),(1003,.row 5 1 (.ints .u8 [])),(1,.mp (.ints false .i64 Bp))]++Y⟩) (E:= [(0,.p 1001 0)]) (pre:= [(1001,.box 100 (.AF [Qf,.s 1003,.s 1])),(1003,.row 5 1 (.ints .u8 [])),(1,.mp (.ints false .i64 Bp))]) hY 1 1005 Zd Zd (fun _ _ h=>h) (by simp[Bg,AV.ids,AV.Av,Cr,Cs]) (by simp[Bz,AN.ids,AV.Av,AV.ids,A1,Cr,Cs]) (Am.2 1005 Zd Zd) a w (G.Al (AA Ai) Au a w r1);push_cast[IL,Gd,List.cons_append,List.nil_append]at r2;exact G.Al (AA Ai) Au a w r2
end Go.Proofs.YthemnhjojaehhaaGreatDoor
namespace Go.Proofs.YthemnhjojaehhaaGreatDoor
open Go.Ad Go.Proofs Go.Tp
attribute [local irreducible] A8 AK BY Go.Ad.Pure BS pq Uh
theorem TQ{n B:Nat}{w0:AT}{ops:Array Oper}{K:St→Prop}{o:Oper}{rest:List Oper}{st:St}{x:Operand}{d id rid:Nat}{ψ:Prop}{tb:TypeId}{cs:List AV}{l:List UInt8}(hg:o.guard=none)(E4:A6 st.ev o.op=some (ψ,50,[st.ev x]))(hψ:ψ)(DD:o.dst=some d)(hd:d<n)(hx:(st.ev x).strip=.p id 0)(cx:(st.ev x).cond)
  (hk:Af st.heap id=some (.box tb (.AF cs))) (J5:cs.getD 1 .top=.s rid) (HR:1<cs.length) (hr:Af st.heap rid=some (.row 5 1 (.ints .u8 (zl l)))) (h:AK Tryz.prog n B w0 ops K rest ⟨(d,An ⟨l.toArray⟩)::CM d st.env,(d,.row 5 1 (.ints .u8 []))::AJ d (Dh rid st.heap)⟩):AK Tryz.prog n B w0 ops K (o::rest) st:=by
 unfold AK;intro a w ρ I hG next Q FZ
 rw[CI hg hG];refine LF (fun c' HU=>?_) (oA hG E4 hψ DD hd hx cx hk J5 HR hr (K:=fun s=>AK Tryz.prog n B w0 ops K rest s) h next Q FZ);rw[HU]at E4;cases E4
abbrev kG:List (Nat×AN):= [(1000,.box 100 (.AF [.top,.top,.s 1004])),(1001,.row 5 1 (.ints .u8 [])),(1004,.mp (.ints false .i64 Bp))]
set_option maxHeartbeats 8000000 in
theorem W9(a:AV)(ha:a=Qf∨a=cZ)(l:List UInt8)(ts:List Tk)(hA:Mp (EK l) ts)(HS:Gz [47,47] (EK l)=false)(hs:l.length≤6000)(hn:ts.length≤2000):
  BS Tryz.prog T 22 [.p 1000 0] (Xh a (zl l)) (.t [An ⟨l.toArray⟩,AE 0]) kG:=by
 have lL:=aj ⟨l.toArray⟩ ts (by rw[DS];exact hs) (by rw[GA];exact hA) (by rw[GA];exact HS) hn;rcases ha with rfl|rfl
 all_goals (
  refine FO 21 [.tmp 2,.tmp 3] Tryz.func22 Tryz.ntmps22 fun B w0 Y R Am Az hY AQ AW Aj hR=>?_;have AB:=AW
  refine AI ⟨[(2,An ⟨l.toArray⟩),(3,AE 0)],kG++Y⟩ ER ?_;have fb:Dh 1001 Y=Y∧AJ 11 Y=Y:=⟨hY.del Zd,AQ 11 Zd⟩;repeat'(first|exact tT|refine WA tT AB ?_ ?_|refine WM AB ?_ ?_|(refine HE ?_;clear hK K)|refine WR fun K hK=>?_|refine HT ?_|refine WC (fun h=>?_) fun h=>?_|exact ff|fail)
  refine TQ (x:=.tmp 10) (l:=l) rfl rfl trivial rfl Zd rfl (by push_cast) rfl rfl Zd rfl ?_;push_cast[fb];repeat'(first|exact tT|refine WA lL (Y2 fb AB) ?_ ?_|refine WM (Y2 fb AB) ?_ ?_|(refine HE ?_;clear hK K)|refine WR fun K hK=>?_|refine HT ?_|refine WC (fun h=>?_) fun h=>?_|exact ff|fail)
  refine fun a' w hG=>?_;have h0:G 21 B w0 ⟨[(2,An ⟨l.toArray⟩),(3,AE 0)],(1000,.box 100 (.AF [.top,.top,.s 1004]))::(11,.row 5 1 (.ints .u8 []))::(1004,.mp (.ints false .i64 Bp))::Y⟩ a' w:=hG.E8 ⟨AR.refl _,AR.refl _,trivial⟩ (B7 rfl ⟨AR.top _,AR.top _,AR.refl _,trivial⟩ Lk);have r0:=QX (st:=⟨[(2,An ⟨l.toArray⟩),(3,AE 0)],[(1000,.box 100 (.AF [.top,.top,.s 1004])),(11,.row 5 1 (.ints .u8 [])),(1004,.mp (.ints false .i64 Bp))]++Y⟩) (E:= [(2,An ⟨l.toArray⟩),(3,AE 0)]) (pre:= [(1000,.box 100 (.AF [.top,.top,.s 1004])),(11,.row 5 1 (.ints .u8 [])),(1004,.mp (.ints false .i64 Bp))]) hY 11 1001 Zd Zd (fun _ _ h=>h) (by simp[Bg,AV.ids,AV.Av]) (by simp[Bz,AN.ids,AV.ids,AV.Av]) (Am.2 1001 Zd Zd) a' w h0;push_cast[IL,Gd,List.cons_append,List.nil_append]at r0;exact(G.Al (AA Ai) Au) a' w r0)
set_option maxHeartbeats 8000000 in
theorem ZJ(a:AV)(ha:a=Qf∨a=cZ)(l:List UInt8)(ts:List Tk)(hA:Mp (EK l) ts)(HS:Gz [47,47] (EK l)=false)(hn:6000<l.length∨2000<ts.length):
  BS Tryz.prog T 22 [.p 1000 0] (Xh a (zl l)) (.t [An ⟨#[]⟩,AE 2]) kG:=by
 have lL:=n9 ⟨l.toArray⟩ ts (by rw[GA];exact hA) (by rw[GA];exact HS) (by rw[DS];exact hn);rcases ha with rfl|rfl
 all_goals (
  refine FO 21 [.tmp 2,.tmp 3] Tryz.func22 Tryz.ntmps22 fun B w0 Y R Am Az hY AQ AW Aj hR=>?_;have AB:=AW
  refine AI ⟨[(2,An ⟨#[]⟩),(3,AE 2)],kG++Y⟩ ER ?_;have fb:Dh 1001 Y=Y∧AJ 11 Y=Y:=⟨hY.del Zd,AQ 11 Zd⟩;repeat'(first|exact tT|refine WA tT AB ?_ ?_|refine WM AB ?_ ?_|(refine HE ?_;clear hK K)|refine WR fun K hK=>?_|refine HT ?_|refine WC (fun h=>?_) fun h=>?_|exact ff|fail)
  refine TQ (x:=.tmp 10) (l:=l) rfl rfl trivial rfl Zd rfl (by push_cast) rfl rfl Zd rfl ?_;push_cast[fb];repeat'(first|exact tT|refine WA lL (Y2 fb AB) ?_ ?_|refine WM (Y2 fb AB) ?_ ?_|(refine HE ?_;clear hK K)|refine WR fun K hK=>?_|refine HT ?_|refine WC (fun h=>?_) fun h=>?_|exact ff|fail)
  refine fun a' w hG=>?_;have h0:G 21 B w0 ⟨[(2,An ⟨#[]⟩),(3,AE 2)],(1000,.box 100 (.AF [.top,.top,.s 1004]))::(11,.row 5 1 (.ints .u8 []))::(1004,.mp (.ints false .i64 Bp))::Y⟩ a' w:=hG.E8 ⟨AR.refl _,AR.refl _,trivial⟩ (B7 rfl ⟨AR.top _,AR.top _,AR.refl _,trivial⟩ Lk);have r0:=QX (st:=⟨[(2,An ⟨#[]⟩),(3,AE 2)],[(1000,.box 100 (.AF [.top,.top,.s 1004])),(11,.row 5 1 (.ints .u8 [])),(1004,.mp (.ints false .i64 Bp))]++Y⟩) (E:= [(2,An ⟨#[]⟩),(3,AE 2)]) (pre:= [(1000,.box 100 (.AF [.top,.top,.s 1004])),(11,.row 5 1 (.ints .u8 [])),(1004,.mp (.ints false .i64 Bp))]) hY 11 1001 Zd Zd (fun _ _ h=>h) (by simp[Bg,AV.ids,AV.Av]) (by simp[Bz,AN.ids,AV.ids,AV.Av]) (Am.2 1001 Zd Zd) a' w h0;push_cast[IL,Gd,List.cons_append,List.nil_append]at r0;exact(G.Al (AA Ai) Au) a' w r0)
theorem oU(a:AV)(ha:a=Qf∨a=cZ)(l:List Int)(x:Nd)(Ae:Cz x)(hx:DJ x=true)(hn:l.length+(Cb x).length≤1000000):BS Tryz.prog T 21 [.p 1000 0,.a (A1 x)] (Xh a l) (.t []) (FL (l++zl (Cb x))):=by
 rcases K1 hx with k|k|k
 ·rcases ha with rfl|rfl
  ·exact sW l x Ae k hn
  ·exact sU l x Ae k hn
 ·rcases ha with rfl|rfl
  ·exact sX l x Ae k hn
  ·exact sV l x Ae k hn
 ·obtain⟨h1,h2,hd,cs,EF,hh,hc,_,_,_⟩:=PK hx k;obtain⟨g1,g2,g3,g4,_⟩:=Mu hh;have e0:x.kids.getD 0 default=hd:=by rw[EF];rfl
  have ed:x.kids.drop 1=cs:=by rw[EF];rfl
  have hl:0<x.kids.length:=by rw[EF];simp
  have HR: ∀c∈x.kids.drop 1,∀y∈c.kids,BC y=true:=fun c Ok=>by rw[ed]at Ok;exact(Nl (hc c Ok).1).2
  rcases ha with rfl|rfl
  ·exact sY l x Ae k hl ⟨Zo,h1.2⟩ (by rw[e0];exact g1) (by rw[e0];exact g2) (by rw[e0];omega) (by rw[e0];exact g4) HR hn
  ·exact sZ l x Ae k hl ⟨Zo,h1.2⟩ (by rw[e0];exact g1) (by rw[e0];exact g2) (by rw[e0];omega) (by rw[e0];exact g4) HR hn
def eP(ks:List Nd)(j:Nat):List UInt8:=((ks.take j).map Cb).flatten
theorem kJ{ks:List Nd}{j:Nat}(h:j<ks.length):eP ks (j+1)=eP ks j++Cb (ks.getD j default):=by
 unfold eP;rw[Ug h,List.map_append,List.flatten_append];simp
theorem s4{ks:List Nd}: ∀ {j:Nat},(eP ks j).length≤((ks.map Cb).flatten).length:=fun{j}=>by
 have h:=List.take_append_drop j ks
 have:(ks.map Cb).flatten=eP ks j++((ks.drop j).map Cb).flatten:=by
  unfold eP;rw[←List.flatten_append,←List.map_append,h]
 rw[this,List.length_append];omega
def p8(j:Nat):AV:=if j=0 then Qf else cZ
set_option maxHeartbeats 8000000 in
theorem TR(e:Nd)(Ae:Cz e)(k1:e.kind=1)(hv:FW e=true)(hlen:(Gq e).length≤1000000)(s:ByteArray)(er:Int)(AAz: ∀a,a=Qf∨a=cZ→BS Tryz.prog T 22 [.p 1000 0] (Xh a (zl (Gq e))) (.t [An s,AE er]) kG):Pure Tryz.prog 7 [.a (A1 e)] (.t [An s,AE er]):=by
 have Ci:=Ae.spec.kids;have hl:=Ci.2;obtain⟨Bh,hit⟩:=Nv hv k1;have F2:=KQ e Ae;rw[hv]at F2;have q:(e.kind != 1)=false:=by rw[k1];rfl
 have XO:=kE;refine Ea (n:=31) (res:= [.tmp 2,.tmp 3]) hT Tryz.func7 rfl rfl rfl Tryz.ntmps7 (Nat.le_of_ble_eq_true rfl) fun B w0 F8 Az=>?_;have Am:=CW.none F8;have AB:True:=trivial;repeat'(first|exact tT|refine WA F2 q ?_ ?_|refine WM q ?_ ?_|(refine PE ?_;clear hK K)|refine WR fun K hK=>?_|refine PT ?_|refine WC (fun h=>?_) fun h=>?_|exact ff|fail)
 repeat'(first|exact tT|refine WA tT (Y2 q AB) ?_ ?_|refine WM (Y2 q AB) ?_ ?_|refine EN XO (Y2 q AB) ?_|(refine HE ?_;clear hK K)|refine WR fun K hK=>?_|refine HT ?_|refine WC (fun h=>?_) fun h=>?_|exact ff|fail)
 refine A7 ⟨[(1,.p 1 0),(2,An ⟨#[]⟩),(3,AE 0),(4,.p 1000 0),(17,CS e.kids),(18,AE (e.kids.length:Int)),(19,AE 0)],(1,.box 27 (.AF (A1 e)))::Xh Qf []⟩ (fun a w hG=>by
  have h0:G 31 B w0 ⟨[(1,.p 1 0),(2,An ⟨#[]⟩),(3,AE 0),(4,.p 1001 0),(17,CS e.kids),(18,AE (e.kids.length:Int)),(19,AE 0)],[(1,.box 27 (.AF (A1 e))),(1001,.box 100 (.AF [Qf,.s 1003,.s 1005])),(1003,.row 5 1 (.ints .u8 [])),(1005,.mp (.ints false .i64 Bp))]⟩ a w:=(G.Al (AA Ai) IN) a w hG;have h1:=h0.rn 1001 1000 (by simp[Bg,AV.ids,AV.Av,LW]) (by simp[Bz,AN.ids,AV.ids,AV.Av,LW,QM,A1]) (F8 _);push_cast[IL,Gd,List.cons_append,List.nil_append]at h1;have h2:=h1.rn 1003 1001 (by simp[Bg,AV.ids,AV.Av,LW]) (by simp[Bz,AN.ids,AV.ids,AV.Av,LW,QM,A1]) (F8 _);push_cast[IL,Gd,List.cons_append,List.nil_append]at h2;have h3:=h2.rn 1005 1004 (by simp[Bg,AV.ids,AV.Av,LW]) (by simp[Bz,AN.ids,AV.ids,AV.Av,LW,QM,A1]) (F8 _);push_cast[IL,Gd,List.cons_append,List.nil_append]at h3;exact(G.Al (AA Ai) IN) a w h3) ?_
 have E5:e.kids.length≤2000:=by have:=Nd.size_eq e;have:=Nr e.kids;omega
 refine AM (α:=Nat) (fun j=>⟨[(1,.p 1 0),(2,An ⟨#[]⟩),(3,AE 0),(4,.p 1000 0),(17,CS e.kids),(18,AE (e.kids.length:Int)),(19,AE (j:Int))],(1,.box 27 (.AF (A1 e)))::Xh (p8 j) (zl (eP e.kids j))⟩) (fun j=>j≤e.kids.length) (fun j=>e.kids.length - j) 0 (Nat.zero_le _) (G.Al (AA Ai) IN) fun j hj=>?_;have lg:p8 j=Qf∨p8 j=cZ:=by unfold p8;by_cases h:j=0<;>simp[h]
 by_cases Ak:j<e.kids.length
 ·have c1:=DT ((j:Int)<(e.kids.length:Int));have kid:=Aw Ak;have ZV:=kJ Ak;have hle:= @s4 e.kids (j+1);have AD3:((e.kids.map Cb).flatten).length≤1000000:=hlen;have SG:=oU (p8 j) lg (zl (eP e.kids j)) (e.kids.getD j default) (Ci.nth Ak) (hit _ (Ap Ak)) (by rw[Ay];rw[ZV,List.length_append]at hle;omega);have AA0:p8 (j+1)=cZ:=by unfold p8;rw[if_neg Zo]
  have hz:zl (eP e.kids (j+1))=zl (eP e.kids j)++zl (Cb (e.kids.getD j default)):=by rw[ZV,Qh]
  generalize e.kids.getD j default=x at*;generalize zl (eP e.kids j)=L at*;generalize zl (Cb x)=L2 at*;rcases lg with lg|lg
  all_goals (
   rw[lg]at SG ⊢;repeat'(first|exact tT|refine WA tT (Y3 c1 kid AB) ?_ ?_|refine WM (Y3 c1 kid AB) ?_ ?_|refine EO SG (Y3 c1 kid AB) ?_|(refine HE ?_;clear hK K)|refine WR fun K hK=>?_|refine HT ?_|refine WC (fun h=>?_) fun h=>?_|exact ff|fail)
   all_goals first|omega|(refine⟨j+1,⟨Zo,Zo⟩,?_⟩;simp only[AA0,hz];exact G.Al (AA Ai) IN))
 ·have N5:j=e.kids.length:=Zo
  have c1:=DF ((j:Int)<(e.kids.length:Int));have htx:eP e.kids j=Gq e:=by unfold eP Gq;rw[N5,List.take_length]
  have ha:=AAz (p8 j) lg;rw[htx];generalize zl (Gq e)=L at*;rcases lg with lg|lg
  all_goals (
   rw[lg]at ha ⊢;repeat'(first|exact tT|refine WA tT (Y2 c1 AB) ?_ ?_|refine WM (Y2 c1 AB) ?_ ?_|refine EO ha (Y2 c1 AB) ?_|(refine HE ?_;clear hK K)|refine WR fun K hK=>?_|refine HT ?_|refine WC (fun h=>?_) fun h=>?_|exact ff|fail)
   all_goals first|omega|rfl)
end Go.Proofs.YthemnhjojaehhaaGreatDoor
