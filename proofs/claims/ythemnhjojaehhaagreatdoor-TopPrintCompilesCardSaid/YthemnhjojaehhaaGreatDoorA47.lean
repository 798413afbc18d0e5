/- Part of a proof. -/
import Derived.Test.YthemnhjojaehhaaGreatDoorA46
set_option linter.all false
namespace Go.Proofs.YthemnhjojaehhaaGreatDoor
open Go.Ad Go.Proofs Go.Tp
attribute [local irreducible] A8 AK BY Go.Ad.Pure BS
theorem R2(l:List Nd)(j:Nat)(hj:j<l.length):Nd.A2 (l.take (j+1))=max (Nd.A2 (l.take j)) (l.getD j default).depth:=by
 induction l generalizing j with
 |nil=>simp at hj
 |cons a r ih=>
  cases j with
  |zero=>simp[Nd.A2]
  |succ j=>have:=ih j (by simpa using hj);simp only[List.take_succ_cons,Nd.A2,List.getD_cons_succ,this];omega
mutual
theorem Mx: ∀e:Nd,e.depth≤e.size
 | .mk _ _ _ _ _ _ _ _ _ ks=>by have:=Is ks;rw[Nd.depth,Nd.size];omega
theorem Is: ∀l:List Nd,Nd.A2 l≤Nd.AP l
 | []=>Nat.le_refl _
 |k::r=>by have:=Is r;have:=Mx k;rw[Nd.A2,Nd.AP];omega
end
theorem Nr: ∀l:List Nd,l.length≤Nd.AP l
 | []=>Nat.le_refl _
 |k::r=>by have:=Nr r;have:=Nd.size_eq k;simp only[List.length_cons,Nd.AP];omega
set_option maxHeartbeats 4000000 in
theorem Wr(e:Nd):e.size≤1000000→Pure Tryz.prog 57 [.a (A1 e)] (.t [AE e.size,AE e.depth]):=by
 induction e using Nd.ind with
 |h e ih=>
  intro Bh;have he:=Nd.size_eq e;have hd:=Nd.Ck e;have E5:=Nr e.kids;refine PO 32 [.tmp 2,.tmp 3] hT Tryz.func57 Tryz.ntmps57 fun B w0=>?_;repeat'(first|exact tT|refine WA tT tT ?_ ?_|(refine PE ?_;clear hK K)|refine WR fun K hK=>?_|refine PT ?_|refine WC (fun h=>?_) fun h=>?_|exact ff|fail)
  refine AM (α:=Nat) (fun j=>⟨[(13,AE j),(12,AE e.kids.length),(11,CS e.kids),(4,AE (1+(Nd.AP (e.kids.take j):Int))),(5,AE (Nd.A2 (e.kids.take j)))],[]⟩) (fun j=>j≤e.kids.length) (fun j=>e.kids.length - j) 0 (Nat.zero_le _) (by simp only[List.take_zero,Nd.AP,Nd.A2];exact G.Al (AA Ai) IN) fun j hj=>?_;have G3:=DP e.kids j;have Gu:=Is (e.kids.take j);by_cases Ak:j<e.kids.length
  ·have c1:=DT ((j:Int)<(e.kids.length:Int));have kid:=Aw Ak;have h1:=FV e.kids j Ak;have h2:=R2 e.kids j Ak;have h3:=DP e.kids (j+1);have hc:=ih _ (Ap Ak) Zo;have h4:=Mx (e.kids.getD j default);generalize e.kids.getD j default=x at*;have e1:1+(Nd.AP (e.kids.take (j+1)):Int)=1+(Nd.AP (e.kids.take j):Int)+(x.size:Int):=Zo
   have e2:((Nd.A2 (e.kids.take (j+1)):Nat):Int)=max ((Nd.A2 (e.kids.take j):Nat):Int) (x.depth:Int):=Zo
   repeat'(first|exact tT|refine WA hc (Y2 c1 kid) ?_ ?_|(refine PE ?_;clear hK K)|refine WR fun K hK=>?_|refine PT ?_|refine WC (fun h=>?_) fun h=>?_|exact ff|fail)
   all_goals (refine⟨j+1,⟨Zo,Zo⟩,?_⟩;simp only[e1,e2];exact G.Al (AA Ai) IN)
  ·obtain rfl:j=e.kids.length:=Zo
   have c1:=DF ((e.kids.length:Int)<(e.kids.length:Int));rw[List.take_length]at*;repeat'(first|exact tT|refine WA tT c1 ?_ ?_|(refine PE ?_;clear hK K)|refine WR fun K hK=>?_|refine PT ?_|refine WC (fun h=>?_) fun h=>?_|exact ff|fail)
   rw[show(1:Int)+(Nd.AP e.kids:Int)=(e.size:Int) by omega,show(Nd.A2 e.kids:Int)+1=(e.depth:Int) by omega]
theorem Yy(e:Nd)(hs:e.size≤2000)(hd:e.depth≤40):Pure Tryz.prog 27 [.a (A1 e)] (.t [.a (A1 e),.v (.slice none 0 0)]):=by
 have hm:=Wr e Zo;have c1:=DF ((2000:Int)<(e.size:Int));have c2:=DF ((40:Int)<(e.depth:Int));refine PO 21 [.cell 2 27,.tmp 3] hT Tryz.func27 Tryz.ntmps27 fun B w0=>?_;repeat'(first|exact tT|refine WA hm (Y2 c1 c2) ?_ ?_|(refine PE ?_;clear hK K)|refine WR fun K hK=>?_|refine PT ?_|refine WC (fun h=>?_) fun h=>?_|exact ff|fail)
 all_goals first|omega|rfl
end Go.Proofs.YthemnhjojaehhaaGreatDoor
