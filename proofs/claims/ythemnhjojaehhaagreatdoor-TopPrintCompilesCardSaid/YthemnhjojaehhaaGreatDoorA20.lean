/- Part of a proof. -/
import Derived.Test.YthemnhjojaehhaaGreatDoorA19
set_option linter.all false
namespace Go.Tp
def DC(s:ByteArray)(i:Nat):Nat:=(s.data.getD i 0).toNat
def Vt:List ByteArray:= [⟨#[102,97,99,116]⟩,⟨#[108,105,110,101]⟩,⟨#[97,114,116,105,99,108,101]⟩,⟨#[102,111,114]⟩,⟨#[114,97,110,107]⟩,⟨#[102,114,111,109]⟩,⟨#[116,111]⟩,⟨#[107,110,111,119,110]⟩,⟨#[119,104,101,110]⟩,⟨#[117,110,108,101,115,115]⟩,⟨#[97,109,111,117,110,116]⟩,⟨#[116,114,117,116,104]⟩,⟨#[110,117,109,98,101,114]⟩,⟨#[109,105,110,117,116,101,115]⟩,⟨#[109,105,110]⟩,⟨#[101,97,114,110]⟩,⟨#[100,101,100,117,99,116]⟩,⟨#[102,108,111,111,114]⟩,⟨#[105,110,102,111]⟩,⟨#[111,114]⟩,⟨#[97,110,100]⟩,⟨#[110,111,116]⟩,⟨#[97,116]⟩,⟨#[116,114,117,101]⟩,⟨#[102,97,108,115,101]⟩,⟨#[97,114,116]⟩,⟨#[119,101,101,107,100,97,121]⟩,⟨#[100,97,121]⟩,⟨#[109,111,110,116,104]⟩,⟨#[121,101,97,114]⟩,⟨#[108,101,97,115,116]⟩,⟨#[103,114,101,97,116,101,115,116]⟩,⟨#[116,97,98,108,101]⟩]
def Hj(s:ByteArray):Bool:=Vt.any fun k=>decide (s=k)
def lS(b:Nat):Bool:=decide (65≤b)&&decide (b≤90)
def hZ(b:Nat):Bool:=decide (97≤b)&&decide (b≤122)
def vP(b:Nat):Bool:=decide (48≤b)&&decide (b≤57)
def rP(b:Nat):Bool:=hZ b||vP b||decide (b=95)
theorem O8{b:Nat}:lS b=true↔65≤b∧b≤90:=by simp[lS]
theorem QS{b:Nat}:hZ b=true↔97≤b∧b≤122:=by simp[hZ]
theorem T3{b:Nat}:rP b=true↔(97≤b∧b≤122)∨(48≤b∧b≤57)∨b=95:=by simp[rP,hZ,vP,or_assoc]
theorem GV{b:Bool}(h: ¬b=true):b=false:=by cases b<;>simp_all
theorem Cg{p:Nat→Prop}{k:Nat}(h: ∀j,j<k→p j)(hk:p k): ∀j,j<k+1→p j:=fun j hj=>by
 rcases Nat.lt_or_ge j k with h1|h1
 ·exact h j h1
 ·have:j=k:=Zo
  subst this;exact hk
def G4(n:Nat)(p:Nat→Bool):Bool:=(List.range n).all p
theorem NW{n:Nat}{p:Nat→Bool}(h: ∀i,i<n→p i=true):G4 n p=true:=by
 simp only[G4,List.all_eq_true,List.mem_range];exact h
theorem Ku{n:Nat}{p:Nat→Bool}(h:G4 n p=true){i:Nat}(hi:i<n):p i=true:=by
 simp only[G4,List.all_eq_true,List.mem_range]at h;exact h i hi
theorem Ll{n:Nat}{p:Nat→Bool}{i:Nat}(hi:i<n)(h:p i=false):G4 n p=false:=by
 cases hh:G4 n p with
 |false=>rfl
 |true=>rw[Ku hh hi]at h;cases h
def C3(s:ByteArray):Bool:=decide (s.size=3)&&G4 s.size fun i=>lS (DC s i)
def BK(s:ByteArray):Bool:=decide (1≤s.size)&&decide (s.size≤16)&&hZ (DC s 0)&& !Hj s&&G4 s.size fun i=>rP (DC s i)
def Aa:ByteArray:=⟨#[116,114,117,116,104]⟩
def AZ:ByteArray:=⟨#[110,117,109,98,101,114]⟩
def BH:ByteArray:=⟨#[109,105,110,117,116,101,115]⟩
def B0(s:ByteArray):Bool:=decide (s=Aa)||decide (s=AZ)||decide (s=BH)||C3 s
def Eu(s:ByteArray):Bool:=decide (s=⟨#[119,101,101,107,100,97,121]⟩)||decide (s=⟨#[100,97,121]⟩)||decide (s=⟨#[109,111,110,116,104]⟩)||decide (s=⟨#[121,101,97,114]⟩)
def BI(n:Int):Bool:=decide (1≤n)&&decide (n≤1000000)
def Fs(n:Int):Bool:=decide (0≤n)&&decide (n≤36524)
def Jt(e:Nd)(name u:ByteArray)(n fr to known den:Int)(ps:List Pc):Bool:=
 decide (e.name=name)&&decide (e.u=u)&&decide (e.n=n)&&decide (e.fr=fr)&&decide (e.to=to)&&decide (e.known=known)&&decide (e.den=den)&&decide (e.ps=ps)
def IP(den:Int)(ps:List Pc)(i:Nat):Bool:=
 let p:=ps.getD i default
 decide (p.fr≤999999999999)&&(decide (i=0)||decide ((ps.getD (i - 1) default).fr<p.fr))&&(decide (p.pa.tmod den=0)&&decide (p.pa≤999999999999*den)&&decide (-999999999999*den≤p.pa))&&(decide (p.sl≤1000000)&&decide (-1000000≤p.sl))
theorem DI{den:Int}{ps:List Pc}{i:Nat}:IP den ps i=true↔((ps.getD i default).fr≤999999999999∧(i=0∨(ps.getD (i - 1) default).fr<(ps.getD i default).fr))∧((ps.getD i default).pa.tmod den=0∧(ps.getD i default).pa≤999999999999*den∧ -999999999999*den≤(ps.getD i default).pa)∧(ps.getD i default).sl≤1000000∧ -1000000≤(ps.getD i default).sl:=by
 simp only[IP,Zba,Bool.or_eq_true,Zdt,and_assoc]
def Bo(den:Int)(ps:List Pc):Bool:=
 BI den&&decide (1≤ps.length)&&decide (ps.length≤64)&&decide ((ps.getD 0 default).fr=0)&&G4 ps.length (IP den ps)
end Go.Tp
namespace Go.Proofs.YthemnhjojaehhaaGreatDoor
open Go.Ad Go.Proofs Go.Tp
attribute [local irreducible] A8 AK BY Go.Ad.Pure BS
theorem HA(n:Int):Pure Tryz.prog 38 [AE n] (BL (BI n)):=by
 refine PO 9 [.tmp 2] hT Tryz.func38 Tryz.ntmps38 fun B w0=>?_;unfold BI;by_cases h1:1≤n
 ·have c1:decide (1≤n)=true:=Zde h1;rw[c1,Bool.true_and];repeat'(first|exact tT|refine WA tT c1 ?_ ?_|(refine PE ?_;clear hK K)|refine WR fun K hK=>?_|refine PT ?_|refine WC (fun h=>?_) fun h=>?_|exact ff|fail)
  all_goals done
 ·have c1:decide (1≤n)=false:=Zdf h1;rw[c1,Bool.false_and];repeat'(first|exact tT|refine WA tT c1 ?_ ?_|(refine PE ?_;clear hK K)|refine WR fun K hK=>?_|refine PT ?_|refine WC (fun h=>?_) fun h=>?_|exact ff|fail)
  all_goals done
theorem QT(n:Int):Pure Tryz.prog 73 [AE n] (BL (Fs n)):=by
 refine PO 9 [.tmp 2] hT Tryz.func73 Tryz.ntmps73 fun B w0=>?_;unfold Fs;by_cases h1:0≤n
 ·have c1:decide (0≤n)=true:=Zde h1;rw[c1,Bool.true_and];repeat'(first|exact tT|refine WA tT c1 ?_ ?_|(refine PE ?_;clear hK K)|refine WR fun K hK=>?_|refine PT ?_|refine WC (fun h=>?_) fun h=>?_|exact ff|fail)
  all_goals done
 ·have c1:decide (0≤n)=false:=Zdf h1;rw[c1,Bool.false_and];repeat'(first|exact tT|refine WA tT c1 ?_ ?_|(refine PE ?_;clear hK K)|refine WR fun K hK=>?_|refine PT ?_|refine WC (fun h=>?_) fun h=>?_|exact ff|fail)
  all_goals done
theorem YM(s:ByteArray)(hs:s.size≤9223372036854775807):Pure Tryz.prog 70 [An s] (BL (C3 s)):=by
 refine PO 23 [.tmp 2] hT Tryz.func70 Tryz.ntmps70 fun B w0=>?_;by_cases h3:s.size=3
 ·have c1:=DT ((s.size:Int)=3);repeat'(first|exact tT|refine WA tT c1 ?_ ?_|(refine PE ?_;clear hK K)|refine WR fun K hK=>?_|refine PT ?_|refine WC (fun h=>?_) fun h=>?_|exact ff|fail)
  refine AM (α:=Nat) (fun k=>⟨[(0,An s),(8,AE s.size),(9,AE k)],[]⟩) (fun k=>k≤s.size∧ ∀i,i<k→lS (DC s i)=true) (fun k=>s.size - k) 0 ⟨Nat.zero_le _,fun i h=>by omega⟩ (by exact G.wk ⟨rfl,rfl,rfl,trivial⟩ trivial) fun k hk=>?_;obtain⟨hk,BU⟩:=hk;by_cases Ak:k<s.size
  ·have c2:=DT ((k:Int)<(s.size:Int));have hb:DC s k=(s.data.getD k 0).toNat:=rfl;obtain⟨b,Ol⟩: ∃b,b=DC s k:=⟨_,rfl⟩;rw[←Ol]at hb;repeat'(first|exact tT|refine WA tT (Y2 c2 hb.symm) ?_ ?_|(refine PE ?_;clear hK K)|refine WR fun K hK=>?_|refine PT ?_|refine WC (fun h=>?_) fun h=>?_|exact ff|fail)
   ·have:lS (DC s k)=false:=GV fun h'=>by rw[O8,←Ol]at h';omega
    have:C3 s=false:=by unfold C3;rw[Ll Ak this,Bool.and_false]
    rw[this]
   ·have:lS (DC s k)=true:=O8.2 Zo;exact⟨k+1,⟨⟨Zo,Cg (p:=fun i=>lS (DC s i)=true) BU this⟩,Zo⟩,G.wk ⟨rfl,rfl,rfl,trivial⟩ trivial⟩
  ·obtain rfl:k=s.size:=Zo
   have c2:=DF ((s.size:Int)<(s.size:Int));have:C3 s=true:=by unfold C3;rw[Zde h3,NW BU];rfl
   rw[this];repeat'(first|exact tT|refine WA tT c2 ?_ ?_|(refine PE ?_;clear hK K)|refine WR fun K hK=>?_|refine PT ?_|refine WC (fun h=>?_) fun h=>?_|exact ff|fail)
   all_goals done
 ·have c1:=DF ((s.size:Int)=3);have:C3 s=false:=by unfold C3;rw[Zdf h3];rfl
  rw[this];repeat'(first|exact tT|refine WA tT c1 ?_ ?_|(refine PE ?_;clear hK K)|refine WR fun K hK=>?_|refine PT ?_|refine WC (fun h=>?_) fun h=>?_|exact ff|fail)
  all_goals done
set_option maxHeartbeats 2000000 in
theorem Vu(s:ByteArray):Pure Tryz.prog 71 [An s] (BL (Hj s)):=by
 refine PO 38 [.tmp 2] hT Tryz.func71 Tryz.ntmps71 fun B w0=>?_;repeat'(first|exact tT|refine WA tT tT ?_ ?_|(refine PE ?_;clear hK K)|refine WR fun K hK=>?_|refine PT ?_|refine WC (fun h=>?_) fun h=>?_|exact ff|fail)
 all_goals (first|contradiction|(rename_i h;subst h;exact congrArg (fun b=>AV.v (.bool b)) ZD)|(refine congrArg (fun b=>AV.v (.bool b)) (Eq.symm ?_);simp only[Hj,Vt,List.any_cons,List.any_nil, *,decide_false,Bool.or_false]))
theorem OC(s:ByteArray)(hs:s.size≤9223372036854775807):Pure Tryz.prog 36 [An s] (BL (B0 s)):=by
 have h1:=YM s hs;refine PO 17 [.tmp 2] hT Tryz.func36 Tryz.ntmps36 fun B w0=>?_;repeat'(first|exact tT|refine WA h1 tT ?_ ?_|(refine PE ?_;clear hK K)|refine WR fun K hK=>?_|refine PT ?_|refine WC (fun h=>?_) fun h=>?_|exact ff|fail)
 all_goals rfl
theorem Vv(s:ByteArray):Pure Tryz.prog 39 [An s] (BL (Eu s)):=by
 refine PO 17 [.tmp 2] hT Tryz.func39 Tryz.ntmps39 fun B w0=>?_;repeat'(first|exact tT|refine WA tT tT ?_ ?_|(refine PE ?_;clear hK K)|refine WR fun K hK=>?_|refine PT ?_|refine WC (fun h=>?_) fun h=>?_|exact ff|fail)
 all_goals rfl
theorem OD(s:ByteArray)(hs:s.size≤9223372036854775807):Pure Tryz.prog 37 [An s] (BL (BK s)):=by
 have hk:=Vu s;refine PO 53 [.tmp 2] hT Tryz.func37 Tryz.ntmps37 fun B w0=>?_;by_cases h0:s=⟨#[]⟩
 ·have c0:decide (s=⟨#[]⟩)=true:=Zde h0;have:BK s=false:=by subst h0;rfl
  rw[this];repeat'(first|exact tT|refine WA hk c0 ?_ ?_|(refine PE ?_;clear hK K)|refine WR fun K hK=>?_|refine PT ?_|refine WC (fun h=>?_) fun h=>?_|exact ff|fail)
  all_goals done
 have c0:decide (s=⟨#[]⟩)=false:=Zdf h0;have hz:s.size≠0:=fun e=>h0 (by cases s with|mk d=>have:d= #[]:=Array.eq_empty_of_size_eq_zero e;rw[this]);obtain⟨b,Ol⟩: ∃b,b=DC s 0:=⟨_,rfl⟩;have hb:b=(s.data.getD 0 0).toNat:=Ol;by_cases hp:s.size≤16∧(97≤b∧b≤122)∧Hj s=false
 ·obtain⟨h1,h2,h3⟩:=hp;have c1:=DF (16<(s.size:Int));have c2:=DF ((b:Int)<97);have c3:=DF (122<(b:Int));repeat'(first|exact tT|refine WA hk (Y6 c0 c1 hb.symm c2 c3 h3) ?_ ?_|(refine PE ?_;clear hK K)|refine WR fun K hK=>?_|refine PT ?_|refine WC (fun h=>?_) fun h=>?_|exact ff|fail)
  refine AM (α:=Nat) (fun k=>⟨[(0,An s),(27,AE s.size),(28,AE k)],[]⟩) (fun k=>k≤s.size∧ ∀i,i<k→rP (DC s i)=true) (fun k=>s.size - k) 0 ⟨Nat.zero_le _,fun i h=>by omega⟩ (by exact G.wk ⟨rfl,rfl,rfl,trivial⟩ trivial) fun k hk=>?_;obtain⟨hk,BU⟩:=hk;by_cases Ak:k<s.size
  ·have d2:=DT ((k:Int)<(s.size:Int));obtain⟨c,Ki⟩: ∃c,c=DC s k:=⟨_,rfl⟩;have hc:c=(s.data.getD k 0).toNat:=Ki;repeat'(first|exact tT|refine WA tT (Y2 d2 hc.symm) ?_ ?_|(refine PE ?_;clear hK K)|refine WR fun K hK=>?_|refine PT ?_|refine WC (fun h=>?_) fun h=>?_|exact ff|fail)
   ·have:rP (DC s k)=false:=GV fun h'=>by rw[T3,←Ki]at h';omega
    have:BK s=false:=by unfold BK;rw[Ll Ak this,Bool.and_false]
    rw[this]
   ·have:rP (DC s k)=true:=T3.2 Zo;exact⟨k+1,⟨⟨Zo,Cg (p:=fun i=>rP (DC s i)=true) BU this⟩,Zo⟩,G.wk ⟨rfl,rfl,rfl,trivial⟩ trivial⟩
  ·obtain rfl:k=s.size:=Zo
   have d2:=DF ((s.size:Int)<(s.size:Int));have:BK s=true:=by unfold BK;rw[Zde Zo,Zde h1,QS.2 (by rw[←Ol];exact h2),h3,NW BU];rfl
   rw[this];repeat'(first|exact tT|refine WA tT d2 ?_ ?_|(refine PE ?_;clear hK K)|refine WR fun K hK=>?_|refine PT ?_|refine WC (fun h=>?_) fun h=>?_|exact ff|fail)
   all_goals done
 ·have hf:BK s=false:=GV fun h=>by
   unfold BK at h;simp only[Zba,Zdt,Bool.not_eq_true',QS]at h;exact hp ⟨h.1.1.1.2,by rw[Ol];exact h.1.1.2,h.1.2⟩
  rw[hf]
  have ct:(decide (16<(s.size:Int))||decide ((b:Int)<97)||decide (122<(b:Int))||Hj s)=true:=by
   cases hh:Hj s with
   |true=>simp
   |false=>
    simp only[Bool.or_false,Bool.or_eq_true,Zdt];by_cases q1:s.size≤16
    ·by_cases q2:97≤b
     ·by_cases q3:b≤122
      ·exact absurd ⟨q1,⟨q2,q3⟩,hh⟩ hp
      ·exact .inr Zo
     ·exact .inl (.inr Zo)
    ·exact .inl (.inl Zo)
  repeat'(first|exact tT|refine WA hk (Y3 c0 hb.symm ct) ?_ ?_|(refine PE ?_;clear hK K)|refine WR fun K hK=>?_|refine PT ?_|refine WC (fun h=>?_) fun h=>?_|exact ff|fail)
  all_goals done
theorem ma(a b:List Pc)(ha:a.length≤9223372036854775807)(hb:b.length≤9223372036854775807):Pure Tryz.prog 42 [C2 Et 3 a,C2 Et 3 b] (BL (decide (a=b))):=by
 refine PO 26 [.tmp 4] hT Tryz.func42 Tryz.ntmps42 fun B w0=>?_;by_cases hl:a.length=b.length
 ·have c0:((a.length:Int) != (b.length:Int))=false:=by rw[hl];simp
  repeat'(first|exact tT|refine WA tT c0 ?_ ?_|(refine PE ?_;clear hK K)|refine WR fun K hK=>?_|refine PT ?_|refine WC (fun h=>?_) fun h=>?_|exact ff|fail)
  refine AM (α:=Nat) (fun k=>⟨[(0,C2 Et 3 a),(1,C2 Et 3 b),(12,AE a.length),(13,AE k)],[]⟩) (fun k=>k≤a.length∧ ∀i,i<k→a.getD i default=b.getD i default) (fun k=>a.length - k) 0 ⟨Nat.zero_le _,fun i h=>by omega⟩ (by exact G.wk ⟨rfl,rfl,rfl,rfl,trivial⟩ trivial) fun k hk=>?_;obtain⟨hk,BU⟩:=hk;by_cases Ak:k<a.length
  ·have d2:=DT ((k:Int)<(a.length:Int));repeat'(first|exact tT|refine WA tT d2 ?_ ?_|(refine PE ?_;clear hK K)|refine WR fun K hK=>?_|refine PT ?_|refine WC (fun h=>?_) fun h=>?_|exact ff|fail)
   ·rw[Zdf (fun e=>by subst e;simp at h)]
   ·have e1:a.getD k default=b.getD k default:=by
     cases h1:a.getD k default with
     |mk x1 x2 x3=>cases h2:b.getD k default with
      |mk y1 y2 y3=>rw[h1,h2]at h;obtain⟨g1,g2,g3⟩:=h;simp only at g1 g2 g3;rw[g1,g2,g3]
    exact⟨k+1,⟨⟨Zo,Cg (p:=fun i=>a.getD i default=b.getD i default) BU e1⟩,Zo⟩,G.wk ⟨rfl,rfl,rfl,rfl,trivial⟩ trivial⟩
  ·obtain rfl:k=a.length:=Zo
   have d2:=DF ((a.length:Int)<(a.length:Int));have:a=b:=List.ext_getElem hl fun i h1 h2=>by have:=BU i h1;simpa[Zlg,h1,h2]using this
   rw[Zde this];repeat'(first|exact tT|refine WA tT d2 ?_ ?_|(refine PE ?_;clear hK K)|refine WR fun K hK=>?_|refine PT ?_|refine WC (fun h=>?_) fun h=>?_|exact ff|fail)
   all_goals done
 ·have c0:((a.length:Int) != (b.length:Int))=true:=by simp;omega
  rw[Zdf (fun e=>hl (by rw[e]))];repeat'(first|exact tT|refine WA tT c0 ?_ ?_|(refine PE ?_;clear hK K)|refine WR fun K hK=>?_|refine PT ?_|refine WC (fun h=>?_) fun h=>?_|exact ff|fail)
  all_goals done
abbrev yB:AV:=.v (.slice none 0 0)
theorem iA(a:List Pc)(ha:a.length≤9223372036854775807):Pure Tryz.prog 42 [C2 Et 3 a,yB] (BL (decide (a= []))):=by
 refine PO 26 [.tmp 4] hT Tryz.func42 Tryz.ntmps42 fun B w0=>?_;by_cases hl:a.length=0
 ·have c0:((a.length:Int) != 0)=false:=by rw[hl];rfl
  have e:a= []:=List.eq_nil_of_length_eq_zero hl;rw[Zde e];subst e;repeat'(first|exact tT|refine WA tT c0 ?_ ?_|(refine PE ?_;clear hK K)|refine WR fun K hK=>?_|refine PT ?_|refine WC (fun h=>?_) fun h=>?_|exact ff|fail)
  refine AM (α:=Nat) (fun k=>⟨[(12,AE 0),(13,AE 0)],[]⟩) (fun k=>True) (fun k=>0) 0 trivial (by exact G.wk ⟨rfl,rfl,trivial⟩ trivial) fun k hk=>?_;repeat'(first|exact tT|refine WA tT tT ?_ ?_|(refine PE ?_;clear hK K)|refine WR fun K hK=>?_|refine PT ?_|refine WC (fun h=>?_) fun h=>?_|exact ff|fail)
  all_goals done
 ·have c0:((a.length:Int) != 0)=true:=bne_iff_ne.2 Zo;rw[Zdf (fun e=>hl (by rw[e];rfl))];repeat'(first|exact tT|refine WA tT c0 ?_ ?_|(refine PE ?_;clear hK K)|refine WR fun K hK=>?_|refine PT ?_|refine WC (fun h=>?_) fun h=>?_|exact ff|fail)
  all_goals done
theorem Ev(e:Nd)(nm u:ByteArray)(n fr to kn den:Int)(he:Cz e):Pure Tryz.prog 17 [.a (A1 e),.a [AE 0,An nm,An u,AE n,AE fr,AE to,AE kn,AE den,yB,yB,AE 0]] (BL (Jt e nm u n fr to kn den [])):=by
 have h1:=iA e.ps he.spec.ps.2;refine PO 59 [.tmp 4] hT Tryz.func17 Tryz.ntmps17 fun B w0=>?_;unfold Jt;repeat'(first|exact tT|refine WA h1 tT ?_ ?_|(refine PE ?_;clear hK K)|refine WR fun K hK=>?_|refine PT ?_|refine WC (fun h=>?_) fun h=>?_|exact ff|fail)
 ·refine congrArg (fun b=>AV.v (.bool b)) ?_;rcases h with (h|h)|h<;>simp[h]
 ·refine congrArg (fun b=>AV.v (.bool b)) ?_;rcases h with (h|h)|h<;>simp[h]
 ·rename_i h0;refine congrArg (fun b=>AV.v (.bool b)) ?_;simp[h0,h];rfl
theorem iB(e:Nd)(nm u:ByteArray)(n fr to kn den:Int)(he:Cz e)(ps:List Pc)(hp:ps.length≤9223372036854775807):Pure Tryz.prog 17 [.a (A1 e),.a [AE 0,An nm,An u,AE n,AE fr,AE to,AE kn,AE den,C2 Et 3 ps,yB,AE 0]] (BL (Jt e nm u n fr to kn den ps)):=by
 have h1:=ma e.ps ps he.spec.ps.2 hp;refine PO 59 [.tmp 4] hT Tryz.func17 Tryz.ntmps17 fun B w0=>?_;unfold Jt;repeat'(first|exact tT|refine WA h1 tT ?_ ?_|(refine PE ?_;clear hK K)|refine WR fun K hK=>?_|refine PT ?_|refine WC (fun h=>?_) fun h=>?_|exact ff|fail)
 ·refine congrArg (fun b=>AV.v (.bool b)) ?_;rcases h with (h|h)|h<;>simp[h]
 ·refine congrArg (fun b=>AV.v (.bool b)) ?_;rcases h with (h|h)|h<;>simp[h]
 ·rename_i h0;refine congrArg (fun b=>AV.v (.bool b)) ?_;simp[h0,h];rfl
theorem T4(den:Int)(ps:List Pc)(hp:Rl ps):Pure Tryz.prog 41 [.a [AE den,C2 Et 3 ps]] (BL (Bo den ps)):=by
 have h1:=HA den;have yP:=hp.2;refine PO 87 [.tmp 2] hT Tryz.func41 Tryz.ntmps41 fun B w0=>?_;by_cases hc:BI den=true∧1≤ps.length∧ps.length≤64∧(ps.getD 0 default).fr=0
 ·obtain⟨q1,q2,q3,q4⟩:=hc;have U4:1≤den∧den≤1000000:=by simpa[BI]using q1
  have c2:=DF ((ps.length:Int)<1);have c3:=DF (64<(ps.length:Int));repeat'(first|exact tT|refine WA h1 (Y4 q1 c2 c3 q4) ?_ ?_|(refine PE ?_;clear hK K)|refine WR fun K hK=>?_|refine PT ?_|refine WC (fun h=>?_) fun h=>?_|exact ff|fail)
  refine AM (α:=Nat) (fun k=>⟨[(1,.p 1 0),(30,C2 Et 3 ps),(31,AE ps.length),(32,AE k)],[(1,.box 24 (.AF [AE den,C2 Et 3 ps]))]⟩) (fun k=>k≤ps.length∧ ∀i,i<k→IP den ps i=true) (fun k=>ps.length - k) 0 ⟨Nat.zero_le _,fun i h=>by omega⟩ (by exact G.wk ⟨rfl,rfl,rfl,rfl,trivial⟩ ⟨rfl,trivial⟩) fun k hk=>?_;obtain⟨hk,BU⟩:=hk;by_cases Ak:k<ps.length
  ·have d2:=DT ((k:Int)<(ps.length:Int));have hpk:=hp.1 _ (Ap Ak);have FM:0<k→((k:Int) - 1).toNat=k - 1:=fun _=>by omega
   have no:IP den ps k=false→Bo den ps=false:=fun h=>by unfold Bo;rw[Ll Ak h,Bool.and_false]
   repeat'(first|exact tT|refine WA tT d2 ?_ ?_|(refine PE ?_;clear hK K)|refine WR fun K hK=>?_|refine PT ?_|refine WC (fun h=>?_) fun h=>?_|exact ff|fail)
   ·rw[no (GV fun hh=>by
     rw[DI]at hh;rcases h with h|⟨h1,h2⟩
     ·omega
     ·rw[FM Zo]at h2;omega)]
   ·rw[no (GV fun hh=>by
     rw[DI]at hh;rcases h with (h|h)|h
     ·exact h hh.2.1.1
     ·omega
     ·omega)]
   ·rw[no (GV fun hh=>by
     rw[DI]at hh;rcases h with h|h<;>omega)]
   ·rename_i g1 g2
    have:IP den ps k=true:=DI.2 ⟨⟨g1.1,by
     rcases g1.2 with h'|h'
     ·exact .inl Zo
     ·rcases Nat.eq_zero_or_pos k with hz|hz
      ·exact .inl hz
      ·rw[FM hz]at h';exact .inr h'⟩,⟨g2.1.1,g2.1.2,g2.2⟩,h⟩
    exact⟨k+1,⟨⟨Zo,Cg (p:=fun i=>IP den ps i=true) BU this⟩,Zo⟩,G.wk ⟨rfl,rfl,rfl,rfl,trivial⟩ ⟨rfl,trivial⟩⟩
  ·obtain rfl:k=ps.length:=Zo
   have d2:=DF ((ps.length:Int)<(ps.length:Int));have:Bo den ps=true:=by unfold Bo;rw[q1,Zde q2,Zde q3,Zde q4,NW BU];rfl
   rw[this];repeat'(first|exact tT|refine WA tT d2 ?_ ?_|(refine PE ?_;clear hK K)|refine WR fun K hK=>?_|refine PT ?_|refine WC (fun h=>?_) fun h=>?_|exact ff|fail)
   all_goals done
 ·have hf:Bo den ps=false:=GV fun h=>by
   unfold Bo at h;simp only[Zba,Zdt]at h;exact hc ⟨h.1.1.1.1,h.1.1.1.2,h.1.1.2,h.1.2⟩
  rw[hf];by_cases q1:BI den=true
  ·by_cases q2:1≤ps.length
   ·have c2:=DF ((ps.length:Int)<1)
    have c4:(decide (64<(ps.length:Int))||(ps.getD 0 default).fr != 0)=true:=by
     by_cases q3:ps.length≤64
     ·have: ¬(ps.getD 0 default).fr=0:=fun q4=>hc ⟨q1,q2,q3,q4⟩;rw[bne_iff_ne.2 this,Bool.or_true]
     ·rw[Zde Zo,Bool.true_or]
    repeat'(first|exact tT|refine WA h1 (Y3 q1 c2 c4) ?_ ?_|(refine PE ?_;clear hK K)|refine WR fun K hK=>?_|refine PT ?_|refine WC (fun h=>?_) fun h=>?_|exact ff|fail)
    all_goals done
   ·have c2:=DT ((ps.length:Int)<1);repeat'(first|exact tT|refine WA h1 (Y2 q1 c2) ?_ ?_|(refine PE ?_;clear hK K)|refine WR fun K hK=>?_|refine PT ?_|refine WC (fun h=>?_) fun h=>?_|exact ff|fail)
    all_goals done
  ·have q1:=GV q1;repeat'(first|exact tT|refine WA h1 q1 ?_ ?_|(refine PE ?_;clear hK K)|refine WR fun K hK=>?_|refine PT ?_|refine WC (fun h=>?_) fun h=>?_|exact ff|fail)
   all_goals done
abbrev lT(k:Int):List (Nat×AN):= [(1000,.box 48 (.AF [AE k]))]
theorem Mf(e:Nd)(k d:Int)(hk:0≤k∧k≤100000)(hd:0≤d∧d≤1000):BS Tryz.prog T 16 [.p 1000 0,.a (A1 e),AE d] (lT k) (BL (decide (k+1≤2000)&&decide (d≤40))) (lT (k+1)):=by
 refine FO 23 [.tmp 6] Tryz.func16 Tryz.ntmps16 fun B w0 Y R Am Az hY AQ AW Aj hR=>?_;have AB:=FI AW AQ 4
 repeat'(first|exact tT|refine WA tT AB ?_ ?_|(refine HE ?_;clear hK K)|refine WR fun K hK=>?_|refine HT ?_|refine WC (fun h=>?_) fun h=>?_|exact ff|fail)
 all_goals exact⟨Aj,hR _ CK⟩
theorem Ce{H:List (Nat×AN)}: ∀s b,Af H s=some b→Af H s=some b:=fun _ _ h=>h
theorem E7{H:List (Nat×AN)}: ∀s b,Af [] s=some b→Af H s=some b:=fun _ _ h=>by cases h
theorem Cf{H R:List (Nat×AN)}{k:Nat}{b0:AN}(h0:Af H k=some b0)(h: ∀s b,Af R s=some b→Af H s=some b): ∀s b,Af ((k,b0)::R) s=some b→Af H s=some b:=fun s b hs=>by
 simp only[Af]at hs;split at hs
 ·rename_i e;subst e;injection hs with hs;subst hs;exact h0
 ·exact h s b hs
theorem O6{Y H:List (Nat×AN)}{k:Nat}{b0:AN}(hY:Dy 2000 Y)(hk:k<2000)(h: ∀s b,Af Y s=some b→Af H s=some b): ∀s b,Af Y s=some b→Af ((k,b0)::H) s=some b:=fun s b hs=>by
 have:=Dy.in hY hs;simp only[Af];rw[if_neg Zo];exact h s b hs
theorem YN{l:List Nd}{j:Nat}{d c:Int}(hj:j<l.length):(d+(Nd.A2 l:Int)≤c→d+((l.getD j default).depth:Int)≤c):=fun h=>by
 have:(l.getD j default).depth≤Nd.A2 l:=by
  induction l generalizing j with
  |nil=>simp at hj
  |cons x r ih=>
   cases j with
   |zero=>simp only[List.getD_cons_zero,Nd.A2];omega
   |succ j=>
    have hd:d+(Nd.A2 r:Int)≤c:=by simp only[Nd.A2]at h;omega
    have:=ih (by simpa using hj) hd;simp only[List.getD_cons_succ,Nd.A2];omega
 omega
def BM(Q:Nd→Bool)(e:Nd)(k d:Int):Bool:=Q e&&(decide (k+(e.size:Int)≤2000)&&decide (d+(e.depth:Int)≤41))
theorem Bm{Q:Nd→Bool}{e:Nd}{k d:Int}:BM Q e k d=true↔Q e=true∧k+(e.size:Int)≤2000∧d+(e.depth:Int)≤41:=by simp[BM]
def mb(f:Nat)(Q:Nd→Bool)(e:Nd):Prop:= ∀k d:Int,0≤k∧k≤2000→0≤d∧d≤100→
 ∃k':Int,(BM Q e k d=true→k'=k+e.size)∧BS Tryz.prog T f [.p 1000 0,.a (A1 e),AE d] (lT k) (BL (BM Q e k d)) (lT k')
def Gx(Q:Nd→Bool)(l:List Nd)(k d:Int):Bool:=l.all Q&&(decide (k+(Nd.AP l:Int)≤2000)&&decide (l= []∨d+(Nd.A2 l:Int)≤41))
theorem I6{Q:Nd→Bool}{l:List Nd}{k d:Int}:Gx Q l k d=true↔(∀e∈l,Q e=true)∧k+(Nd.AP l:Int)≤2000∧(l= []∨d+(Nd.A2 l:Int)≤41):=by simp[Gx]
theorem iC{Q:Nd→Bool}{l:List Nd}{k d:Int}(h:Gx Q l k d=true){j:Nat}(hj:j<l.length):BM Q (l.getD j default) (k+Nd.AP (l.take j)) d=true:=by
 rw[I6]at h;rw[Bm];refine⟨h.1 _ (Ap hj),?_,?_⟩
 ·have:=FV l j hj;have h2:=DP l (j+1);omega
 ·rcases h.2.2 with h|h
  ·subst h;simp at hj
  ·exact YN hj h
theorem iD{Q:Nd→Bool}{l:List Nd}{k d:Int}(hk:k≤2000)(h: ∀j,j<l.length→BM Q (l.getD j default) (k+Nd.AP (l.take j)) d=true):Gx Q l k d=true:=by
 rw[I6];refine⟨fun e he=>?_,?_,?_⟩
 ·obtain⟨i,hi,rfl⟩:=Kt he;exact(Bm.1 (h i hi)).1
 ·by_cases hl:l.length=0
  ·have:l= []:=List.eq_nil_of_length_eq_zero hl;subst this;simp[Nd.AP];exact hk
  ·have h1:=(Bm.1 (h (l.length - 1) Zo)).2.1;have h2:=FV l (l.length - 1) Zo;rw[show l.length - 1+1=l.length by omega,List.take_length]at h2;omega
 ·by_cases hl:l.length=0
  ·exact .inl (List.eq_nil_of_length_eq_zero hl)
  ·refine .inr ?_;have h0:=(Bm.1 (h 0 Zo)).2.2;have hp:=cL (l.getD 0 default);have:=(Sh (ks:=l) (l:=41 - d) Zo).2 fun j hj=>by have:=(Bm.1 (h j hj)).2.2;omega
   omega
theorem C7{full:List Nd}{o j:Nat}:(full.drop o).getD j default=full.getD (o+j) default:=by simp[Zlg]
abbrev J0(full:List Nd)(o n:Nat):AV:=.i false (fun e j=>((full.map Dj).getD e []).getD j .top) 11 o n
theorem Z6(f:Nat)(Q:Nd→Bool)(full:List Nd)(o n:Nat)(hn:o+n=full.length)(BF:cK full)(l:List Nd)(qH:full.drop o=l)(h: ∀e∈l,mb f Q e)(k d:Int)(hk:0≤k∧k≤2000)(hd:0≤d∧d≤100):
  ∃k':Int,(Gx Q l k d=true→k'=k+Nd.AP l)∧BS Tryz.prog T 18 [.p 1000 0,J0 full o n,AE d,.f (.yield f) [.p 1000 0]] (lT k) (BL (Gx Q l k d)) (lT k'):=by
 have SE:=BF.2;have RY:l.length=n:=by rw[←qH,List.length_drop];omega
 have kidW: ∀j,j<l.length→(full.map Dj).getD (o+j) []=A1 (l.getD j default):=fun j hj=>by rw[←qH,C7];exact Aw Zo
 by_cases hg:Gx Q l k d=true
 ·refine⟨k+Nd.AP l,fun _=>rfl,?_⟩;rw[hg];have Bh:=(I6.1 hg).2.1;refine FO 23 [.tmp 8] Tryz.func18 Tryz.ntmps18 fun B w0 Y R Am Az hY AQ AW Aj hR=>?_;have AB:=FI AW AQ 10
  repeat'(first|exact tT|refine WA tT AB ?_ ?_|(refine HE ?_;clear hK K)|refine WR fun K hK=>?_|refine HT ?_|refine WC (fun h=>?_) fun h=>?_|exact ff|fail)
  refine AM (α:=Nat) (fun j=>⟨[(0,.p 1000 0),(1,J0 full o n),(2,AE d),(3,.f (.yield f) [.p 1000 0]),(11,J0 full o n),(12,AE n),(13,AE j)],(1000,.box 48 (.AF [AE (k+Nd.AP (l.take j))]))::Y⟩) (fun j=>j≤l.length) (fun j=>l.length - j) 0 (Nat.zero_le _) (by have e0:k+((Nd.AP (l.take 0):Nat):Int)=k:=(by simp[Nd.AP]);simp only[e0];exact G.Al (AA Ai) Au) fun j hj=>?_;by_cases Ak:j<l.length
  ·have c1:=DT ((j:Int)<(n:Int));have kid:=kidW j Ak;have wy:=iC hg Ak;have hle:=DP l j;obtain⟨k',F7,hc⟩:=h _ (Ap Ak) (k+Nd.AP (l.take j)) d Zo hd;rw[wy]at hc;have BE:=FV l j Ak;have e1:k'=k+Nd.AP (l.take (j+1)):=by rw[F7 wy,BE];omega
   rw[e1]at hc;repeat'(first|exact tT|refine WA tT (Y3 c1 kid AB) ?_ ?_|refine EA hc (Y3 c1 kid AB) ?_|(refine HE ?_;clear hK K)|refine WR fun K hK=>?_|refine HT ?_|refine WC (fun h=>?_) fun h=>?_|exact ff|fail)
   all_goals exact⟨j+1,⟨Zo,Zo⟩,G.Al (AA Ai) Au⟩
  ·obtain rfl:j=l.length:=Zo
   have c1:=DF ((l.length:Int)<(n:Int));rw[List.take_length];repeat'(first|exact tT|refine WA tT (Y2 c1 AB) ?_ ?_|(refine HE ?_;clear hK K)|refine WR fun K hK=>?_|refine HT ?_|refine WC (fun h=>?_) fun h=>?_|exact ff|fail)
   all_goals exact⟨Aj,hR _ CK⟩
 ·have hex: ∃j,j<l.length∧BM Q (l.getD j default) (k+Nd.AP (l.take j)) d=false:=Classical.byContradiction fun hn=>hg (iD hk.2 fun j hj=>by
   cases hh:BM Q (l.getD j default) (k+Nd.AP (l.take j)) d with
   |true=>rfl
   |false=>exact absurd ⟨j,hj,hh⟩ hn)
  obtain⟨m,⟨hm1,bK⟩,zb⟩: ∃m,(m<l.length∧BM Q (l.getD m default) (k+Nd.AP (l.take m)) d=false)∧ ∀j,j<m→ ¬(j<l.length∧BM Q (l.getD j default) (k+Nd.AP (l.take j)) d=false):=by
   obtain⟨j,hj⟩:=hex;induction j using Nat.strongRecOn with
   |ind j ih=>
    by_cases h: ∃i,i<j∧(i<l.length∧BM Q (l.getD i default) (k+Nd.AP (l.take i)) d=false)
    ·obtain⟨i,h1,h2⟩:=h;exact ih i h1 h2
    ·exact⟨j,hj,fun i hi hh=>h ⟨i,hi,hh⟩⟩
  have SC: ∀j,j<m→BM Q (l.getD j default) (k+Nd.AP (l.take j)) d=true:=fun j hj=>by
   cases hh:BM Q (l.getD j default) (k+Nd.AP (l.take j)) d with
   |true=>rfl
   |false=>exact absurd ⟨Zo,hh⟩ (zb j hj)
  have zd: ∀j,j≤m→k+Nd.AP (l.take j)≤2000:=fun j hj=>by
   cases j with
   |zero=>simp[Nd.AP];omega
   |succ j=>
    have h1:=(Bm.1 (SC j Zo)).2.1;have h2:=FV l j Zo;omega
  obtain⟨k',_,pC⟩:=h _ (Ap hm1) (k+Nd.AP (l.take m)) d ⟨Zo,zd m (Nat.le_refl _)⟩ hd;rw[bK]at pC;have ze:=GV hg;refine⟨k',fun h=>absurd h hg,?_⟩;rw[ze];refine FO 23 [.tmp 8] Tryz.func18 Tryz.ntmps18 fun B w0 Y R Am Az hY AQ AW Aj hR=>?_;have AB:=FI AW AQ 10
  repeat'(first|exact tT|refine WA tT AB ?_ ?_|(refine HE ?_;clear hK K)|refine WR fun K hK=>?_|refine HT ?_|refine WC (fun h=>?_) fun h=>?_|exact ff|fail)
  refine AM (α:=Nat) (fun j=>⟨[(0,.p 1000 0),(1,J0 full o n),(2,AE d),(3,.f (.yield f) [.p 1000 0]),(11,J0 full o n),(12,AE n),(13,AE j)],(1000,.box 48 (.AF [AE (k+Nd.AP (l.take j))]))::Y⟩) (fun j=>j≤m) (fun j=>l.length - j) 0 (Nat.zero_le _) (by have e0:k+((Nd.AP (l.take 0):Nat):Int)=k:=(by simp[Nd.AP]);simp only[e0];exact G.Al (AA Ai) Au) fun j hj=>?_;have c1:=DT ((j:Int)<(n:Int));have kid:=kidW j Zo;by_cases tM:j<m
  ·have wy:=SC j tM;have ec:=zd j hj;obtain⟨k',F7,hc⟩:=h _ (Ap (i:=j) Zo) (k+Nd.AP (l.take j)) d Zo hd;rw[wy]at hc;have BE:=FV l j Zo;have e1:k'=k+Nd.AP (l.take (j+1)):=by rw[F7 wy,BE];omega
   rw[e1]at hc;repeat'(first|exact tT|refine WA tT (Y3 c1 kid AB) ?_ ?_|refine EA hc (Y3 c1 kid AB) ?_|(refine HE ?_;clear hK K)|refine WR fun K hK=>?_|refine HT ?_|refine WC (fun h=>?_) fun h=>?_|exact ff|fail)
   all_goals exact⟨j+1,⟨Zo,Zo⟩,G.Al (AA Ai) Au⟩
  ·obtain rfl:j=m:=Zo
   repeat'(first|exact tT|refine WA tT (Y3 c1 kid AB) ?_ ?_|refine EA pC (Y3 c1 kid AB) ?_|(refine HE ?_;clear hK K)|refine WR fun K hK=>?_|refine HT ?_|refine WC (fun h=>?_) fun h=>?_|exact ff|fail)
   all_goals exact⟨Aj,hR _ CK⟩
theorem YO(f:Nat)(Q:Nd→Bool)(l:List Nd)(hl:cK l)(h: ∀e∈l,mb f Q e)(k d:Int)(hk:0≤k∧k≤2000)(hd:0≤d∧d≤100):
  ∃k':Int,(Gx Q l k d=true→k'=k+Nd.AP l)∧BS Tryz.prog T 18 [.p 1000 0,CS l,AE d,.f (.yield f) [.p 1000 0]] (lT k) (BL (Gx Q l k d)) (lT k'):=
 Z6 f Q l 0 l.length (Nat.zero_add _) hl l rfl h k d hk hd
end Go.Proofs.YthemnhjojaehhaaGreatDoor
namespace Go.Tp
def Ft:ByteArray:=⟨#[108,101,97,115,116]⟩
def Bd:ByteArray:=⟨#[103,114,101,97,116,101,115,116]⟩
def QU:ByteArray:=⟨#[47]⟩
def IQ(s:ByteArray):Bool:=decide (s=⟨#[111,114]⟩)||decide (s=⟨#[97,110,100]⟩)||decide (s=⟨#[61,61]⟩)||decide (s=⟨#[33,61]⟩)||decide (s=⟨#[60]⟩)||decide (s=⟨#[60,61]⟩)||decide (s=⟨#[43]⟩)||decide (s=⟨#[45]⟩)||decide (s=⟨#[42]⟩)||decide (s=⟨#[97,116]⟩)
def Oc(e:Nd):Bool:=decide (e.kind=11)&&decide (e.u=AZ)&&BI e.n
abbrev Ff(e:Nd)(nm u:ByteArray)(n:Int):Bool:=Jt e nm u n 0 0 0 0 []
def FA(e:Nd)(bs:List Bool):Bool:=
 if e.kind=11 then(B0 e.u&&decide (0≤e.n)&&decide (e.n≤999999999999)&&(!decide (e.u=Aa)||decide (e.n≤1)))&&(decide (e.kids.length=0)&&Ff e ⟨#[]⟩ e.u e.n)
 else if e.kind=12 then BK e.name&&decide (e.kids.length=0)&&Ff e e.name ⟨#[]⟩ 0
 else if e.kind=13 then BI e.n&&decide (e.kids.length=0)&&Ff e ⟨#[]⟩ ⟨#[]⟩ e.n
 else if e.kind=14 then Eu e.name&&decide (e.kids.length=0)&&Ff e e.name ⟨#[]⟩ 0
 else if e.kind=15 then decide (e.kids.length=1)&&Ff e ⟨#[]⟩ ⟨#[]⟩ 0&&bs.getD 0 false
 else if e.kind=16 then Ff e e.name ⟨#[]⟩ 0&&(decide (e.kids.length=2)&&bs.getD 0 false&&(if e.name=QU then bs.getD 1 false&&Oc (e.kids.getD 1 default)else IQ e.name&&bs.getD 1 false))
 else if e.kind=17 then(decide (e.name=Ft)||decide (e.name=Bd))&&Ff e e.name ⟨#[]⟩ 0&&decide (2≤e.kids.length)&&bs.all id
 else if e.kind=18 then Jt e ⟨#[]⟩ ⟨#[]⟩ 0 0 0 0 e.den e.ps&&Bo e.den e.ps&&decide (e.kids.length=1)&&bs.getD 0 false
 else false
mutual
def BC:Nd→Bool
 | .mk k nm u n f t kn d ps ks=>FA (.mk k nm u n f t kn d ps ks) (Z7 ks)
def Z7:List Nd→List Bool
 | []=> []
 |k::r=>BC k::Z7 r
end
theorem Si: ∀ks:List Nd,Z7 ks=ks.map BC
 | []=>rfl
 |k::r=>by rw[Z7,Si r];rfl
theorem EJ(e:Nd):BC e=FA e (e.kids.map BC):=by
 cases e with
 |mk k nm u n f t kn d ps ks=>rw[BC,Si];rfl
theorem O9{ks:List Nd}{i:Nat}(h:i<ks.length):(ks.map BC).getD i false=BC (ks.getD i default):=by
 simp[Zlg,h]
end Go.Tp
