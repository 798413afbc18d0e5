/- Part of a proof. -/
import Derived.Test.YthemnhjojaehhaaGreatDoorA30
set_option linter.all false
namespace Go.Proofs.YthemnhjojaehhaaGreatDoor
open Go.Proofs Go.RowKit
set_option maxHeartbeats 2000000 in
set_option maxRecDepth 100000 in
theorem ZA(b g cap:Nat)(l:List UInt8)(cur:Array Value)(w:World)(h0:l≠ [])(c1:w.drew.cell? ⟨b,1,none⟩=some (.slice (some ⟨g,0,none⟩) l.length cap))(hg:w.heap[g]? =some (.cells cur 5 (0,0)))(hc:l.length≤cur.size)(BW:l.length≤cap)(hmx:l.length≤9223372036854775807)
  (Bf: ∀j x,l[j]? =some x→w.cell? ((⟨g,0,none⟩:Addr).add j)=some (.int .u8 x.toNat)):
  Calls Tryz.prog 50 #[.pointer (some ⟨b,0,none⟩)] w fun e w'=>e=.returned (.string ⟨l.toArray⟩)∧w'=w.drew.freeze ⟨g,0,none⟩ l.length:=by
 have bM:l.length≠0:=by simpa using h0
 have hSD:(Builtin.unsafeSliceData_ #[96] 140 #[.slice (some ⟨g,0,none⟩) l.length cap]).run Tryz.prog w.drew=.ok (.pointer (some ⟨g,0,none⟩)) w.drew:=
  Lib.run_unsafeSliceData_row _ _ _ _ _ _ Zo
 have hUS:(Builtin.unsafeString_ #[140,3] 9 #[.pointer (some ⟨g,0,none⟩),.int .i64 l.length]).run Tryz.prog w.drew=.ok (.string ⟨l.toArray⟩) (w.drew.freeze ⟨g,0,none⟩ l.length):=by
  refine Lib.run_unsafeString_row w.drew 140 3 9 5 Tryz.underlying140 Zk g cur.size (by have ko:w.drew.heap[g]? =some (.cells cur 5 (0,0)):=hg;simp[World.shape?,ko]) l h0 hc hmx ?_;intro j x hx;exact Bf j x hx
 have mixed:Tryz.prog.follows .mixedOrders=true:=Zk
 have t98:=Tryz.underlying98;have a98:=Tryz.isAgg98;have z98:=Tryz.sizeOf98;have v98:=Tryz.zeroValue98;have u98:=run_underlying Tryz.underlying98
 have t95:=Tryz.underlying95;have a95:=Tryz.isAgg95;have z95:=Tryz.sizeOf95;have v95:=Tryz.zeroValue95;have u95:=run_underlying Tryz.underlying95
 have t96:=Tryz.underlying96;have a96:=Tryz.isAgg96;have z96:=Tryz.sizeOf96;have v96:=Tryz.zeroValue96;have u96:=run_underlying Tryz.underlying96
 have t140:=Tryz.underlying140;have a140:=Tryz.isAgg140;have z140:=Tryz.sizeOf140;have v140:=Tryz.zeroValue140;have u140:=run_underlying Tryz.underlying140
 have t3:=Tryz.underlying3;have a3:=Tryz.isAgg3;have z3:=Tryz.sizeOf3;have v3:=Tryz.zeroValue3;have u3:=run_underlying Tryz.underlying3
 have t9:=Tryz.underlying9;have a9:=Tryz.isAgg9;have z9:=Tryz.sizeOf9;have v9:=Tryz.zeroValue9;have u9:=run_underlying Tryz.underlying9
 have t5:=Tryz.underlying5;have a5:=Tryz.isAgg5;have z5:=Tryz.sizeOf5;have v5:=Tryz.zeroValue5;have u5:=run_underlying Tryz.underlying5
 go_enter Tryz.func50,Tryz.ntmps50
 go_wp2
 go_region_o
 all_goals (go_wp2;go_ret;exact⟨rfl,rfl⟩)
theorem y7(W:World)(q:Option Addr):(Builtin.unsafeString_ #[140,3] 9 #[.pointer q,.int .i64 0]).run Tryz.prog W=.ok (.string .empty) W:=Lib.run_unsafeString_none W _ _ _ q
set_option maxHeartbeats 2000000 in
set_option maxRecDepth 100000 in
theorem ZB(b:Nat)(w:World)(c1:w.drew.cell? ⟨b,1,none⟩=some (.slice none 0 0)):
  Calls Tryz.prog 50 #[.pointer (some ⟨b,0,none⟩)] w fun e w'=>e=.returned (.string ⟨#[]⟩)∧w'=w.drew:=by
 have hUS:=y7;have hSD:(Builtin.unsafeSliceData_ #[96] 140 #[.slice none 0 0]).run Tryz.prog w.drew=.ok (.pointer none) w.drew:=rfl;have mixed:Tryz.prog.follows .mixedOrders=true:=Zk
 have t98:=Tryz.underlying98;have a98:=Tryz.isAgg98;have z98:=Tryz.sizeOf98;have v98:=Tryz.zeroValue98;have u98:=run_underlying Tryz.underlying98
 have t95:=Tryz.underlying95;have a95:=Tryz.isAgg95;have z95:=Tryz.sizeOf95;have v95:=Tryz.zeroValue95;have u95:=run_underlying Tryz.underlying95
 have t96:=Tryz.underlying96;have a96:=Tryz.isAgg96;have z96:=Tryz.sizeOf96;have v96:=Tryz.zeroValue96;have u96:=run_underlying Tryz.underlying96
 have t140:=Tryz.underlying140;have a140:=Tryz.isAgg140;have z140:=Tryz.sizeOf140;have v140:=Tryz.zeroValue140;have u140:=run_underlying Tryz.underlying140
 have t3:=Tryz.underlying3;have a3:=Tryz.isAgg3;have z3:=Tryz.sizeOf3;have v3:=Tryz.zeroValue3;have u3:=run_underlying Tryz.underlying3
 have t9:=Tryz.underlying9;have a9:=Tryz.isAgg9;have z9:=Tryz.sizeOf9;have v9:=Tryz.zeroValue9;have u9:=run_underlying Tryz.underlying9
 have t5:=Tryz.underlying5;have a5:=Tryz.isAgg5;have z5:=Tryz.sizeOf5;have v5:=Tryz.zeroValue5;have u5:=run_underlying Tryz.underlying5
 go_enter Tryz.func50,Tryz.ntmps50
 go_wp2
 go_region_o
 all_goals (go_wp2;go_ret;exact⟨rfl,rfl⟩)
set_option maxHeartbeats 2000000 in
set_option maxRecDepth 100000 in
theorem Wx(b g cap:Nat)(w:World)(HS:cap≠0)(c1:w.drew.cell? ⟨b,1,none⟩=some (.slice (some ⟨g,0,none⟩) 0 cap)):
  Calls Tryz.prog 50 #[.pointer (some ⟨b,0,none⟩)] w fun e w'=>e=.returned (.string ⟨#[]⟩)∧w'=w.drew:=by
 have hUS:=y7
 have hSD:(Builtin.unsafeSliceData_ #[96] 140 #[.slice (some ⟨g,0,none⟩) 0 cap]).run Tryz.prog w.drew=.ok (.pointer (some ⟨g,0,none⟩)) w.drew:=
  Lib.run_unsafeSliceData_row _ _ _ _ _ _ HS
 clear HS;have mixed:Tryz.prog.follows .mixedOrders=true:=Zk
 have t98:=Tryz.underlying98;have a98:=Tryz.isAgg98;have z98:=Tryz.sizeOf98;have v98:=Tryz.zeroValue98;have u98:=run_underlying Tryz.underlying98
 have t95:=Tryz.underlying95;have a95:=Tryz.isAgg95;have z95:=Tryz.sizeOf95;have v95:=Tryz.zeroValue95;have u95:=run_underlying Tryz.underlying95
 have t96:=Tryz.underlying96;have a96:=Tryz.isAgg96;have z96:=Tryz.sizeOf96;have v96:=Tryz.zeroValue96;have u96:=run_underlying Tryz.underlying96
 have t140:=Tryz.underlying140;have a140:=Tryz.isAgg140;have z140:=Tryz.sizeOf140;have v140:=Tryz.zeroValue140;have u140:=run_underlying Tryz.underlying140
 have t3:=Tryz.underlying3;have a3:=Tryz.isAgg3;have z3:=Tryz.sizeOf3;have v3:=Tryz.zeroValue3;have u3:=run_underlying Tryz.underlying3
 have t9:=Tryz.underlying9;have a9:=Tryz.isAgg9;have z9:=Tryz.sizeOf9;have v9:=Tryz.zeroValue9;have u9:=run_underlying Tryz.underlying9
 have t5:=Tryz.underlying5;have a5:=Tryz.isAgg5;have z5:=Tryz.sizeOf5;have v5:=Tryz.zeroValue5;have u5:=run_underlying Tryz.underlying5
 go_enter Tryz.func50,Tryz.ntmps50
 go_wp2
 go_region_o
 all_goals (go_wp2;go_ret;exact⟨rfl,rfl⟩)
set_option maxHeartbeats 2000000 in
set_option maxRecDepth 100000 in
theorem R5(b g:Nat)(cur:Array Value)(w:World)(Ak:b<w.heap.size)(c0:w.cell? ⟨b,1,none⟩=some (.slice (some ⟨g,0,none⟩) 0 0))(hg:w.heap[g]? =some (.cells cur 5 (0,0))):
  Calls Tryz.prog 50 #[.pointer (some ⟨b,0,none⟩)] w fun e w'=>e=.returned (.string ⟨#[]⟩)∧w'=w.drew.alloc (.view ⟨g,0,none⟩ 5):=by
 have hUS:=y7;have c1:w.drew.cell? ⟨b,1,none⟩=some (.slice (some ⟨g,0,none⟩) 0 0):=c0
 have hSD:(Builtin.unsafeSliceData_ #[96] 140 #[.slice (some ⟨g,0,none⟩) 0 0]).run Tryz.prog w.drew=.ok (.pointer (some ⟨w.drew.heap.size,0,none⟩)) (w.drew.alloc (.view ⟨g,0,none⟩ 5)):=
  Lib.run_unsafeSliceData_zero w.drew _ _ 5 Tryz.underlying140 ⟨g,0,none⟩ 0 (5,cur.size) (by have ko:w.drew.heap[g]? =some (.cells cur 5 (0,0)):=hg;simp[World.shape?,ko])
 have c2:(w.drew.alloc (.view ⟨g,0,none⟩ 5)).cell? ⟨b,1,none⟩=some (.slice (some ⟨g,0,none⟩) 0 0):=by
  have h1:(w.drew.alloc (.view ⟨g,0,none⟩ 5)).heap[b]? =w.heap[b]? :=Lib.alloc_old w.drew _ b Ak;rw[World.cell?_of_block (w:=w) (a:=⟨b,1,none⟩) h1];exact c0
 have c3:(w.alloc (.view ⟨g,0,none⟩ 5)).drew.cell? ⟨b,1,none⟩=some (.slice (some ⟨g,0,none⟩) 0 0):=c2;have mixed:Tryz.prog.follows .mixedOrders=true:=Zk
 have t98:=Tryz.underlying98;have a98:=Tryz.isAgg98;have z98:=Tryz.sizeOf98;have v98:=Tryz.zeroValue98;have u98:=run_underlying Tryz.underlying98
 have t95:=Tryz.underlying95;have a95:=Tryz.isAgg95;have z95:=Tryz.sizeOf95;have v95:=Tryz.zeroValue95;have u95:=run_underlying Tryz.underlying95
 have t96:=Tryz.underlying96;have a96:=Tryz.isAgg96;have z96:=Tryz.sizeOf96;have v96:=Tryz.zeroValue96;have u96:=run_underlying Tryz.underlying96
 have t140:=Tryz.underlying140;have a140:=Tryz.isAgg140;have z140:=Tryz.sizeOf140;have v140:=Tryz.zeroValue140;have u140:=run_underlying Tryz.underlying140
 have t3:=Tryz.underlying3;have a3:=Tryz.isAgg3;have z3:=Tryz.sizeOf3;have v3:=Tryz.zeroValue3;have u3:=run_underlying Tryz.underlying3
 have t9:=Tryz.underlying9;have a9:=Tryz.isAgg9;have z9:=Tryz.sizeOf9;have v9:=Tryz.zeroValue9;have u9:=run_underlying Tryz.underlying9
 have t5:=Tryz.underlying5;have a5:=Tryz.isAgg5;have z5:=Tryz.sizeOf5;have v5:=Tryz.zeroValue5;have u5:=run_underlying Tryz.underlying5
 go_enter Tryz.func50,Tryz.ntmps50
 go_wp2
 go_region_o
 all_goals (go_wp2;go_ret;exact⟨rfl,rfl⟩)
end Go.Proofs.YthemnhjojaehhaaGreatDoor
namespace Go.Proofs.YthemnhjojaehhaaGreatDoor
open Go.Ad Go.Proofs Go.Tp Go.RowKit
theorem Uk{B b:Nat}{l:List UInt8}{us:Array Value}{t:TypeId}{w:World}{v:Value}{n:Nat}{xs:List Value}(Pj:w.heap[b]? =some (.cells us t (0,0)))(hv:us[1]? =some v)(DE:w.ownsRow B 5 1 v n xs)(hn:n=l.length)(hx: ∀(j:Nat) (x:UInt8),l[j]? =some x→xs[j]? =some (Value.int .u8 x.toNat))(hgb:v.ownBlock≠some b):
  Calls Tryz.prog 50 #[.pointer (some ⟨b,0,none⟩)] w fun e w'=>e=.returned (.string ⟨l.toArray⟩)∧w'.os=w.os∧w'.tape=w.tape∧w'.output=w.output∧w.heap.size≤w'.heap.size∧ ∀k,k<w.heap.size→v.ownBlock≠some k→w'.heap[k]? =w.heap[k]? :=by
 subst hn;have c0:w.cell? ⟨b,1,none⟩=some v:=by simp[World.cell?,Pj,hv]
 have Ak:b<w.heap.size:=(Array.getElem?_eq_some_iff.1 Pj).1;rcases DE.2 with ⟨rfl,h0⟩|⟨g,cap,cur,rfl,yI,hg,uR,pC,OR,TV⟩
 ·have:l= []:=List.eq_nil_of_length_eq_zero h0;subst this;refine(ZB b w c0).mono ?_;rintro e w' ⟨h1,rfl⟩;exact⟨h1,rfl,rfl,rfl,Nat.le_refl _,fun _ _ _=>rfl⟩
 ·by_cases hl:l= []
  ·subst hl;by_cases HS:cap=0
   ·subst HS;refine(R5 b g cur w Ak c0 hg).mono ?_;rintro e w' ⟨h1,rfl⟩;exact⟨h1,rfl,rfl,rfl,by show w.heap.size≤(w.heap.push _).size;simp,fun k hk _=>Lib.alloc_old w.drew _ k hk⟩
   ·refine(Wx b g cap w HS c0).mono ?_;rintro e w' ⟨h1,rfl⟩;exact⟨h1,rfl,rfl,rfl,Nat.le_refl _,fun _ _ _=>rfl⟩
  ·refine(ZA b g cap l cur w hl c0 hg Zo uR (by unfold maxLen at pC;omega) (fun j x hj=>DE.cells (g:=g) rfl j _ (hx j x hj))).mono ?_;rintro e w' ⟨h1,rfl⟩;refine⟨h1,?_⟩;unfold World.freeze;split
   ·exact⟨rfl,rfl,rfl,Nat.le_refl _,fun _ _ _=>rfl⟩
   ·refine⟨rfl,rfl,rfl,by show w.heap.size≤(w.heap.modify _ _).size;simp,fun k hk CD=>?_⟩;simp only[Array.getElem?_modify];rw[if_neg (fun e=>CD (by simp[Value.ownBlock,e]))];rfl
theorem oA{n B:Nat}{w0:AT}{st:St}{a:Act}{w:World}{ρ:Nat→Option Value}{I:Nat→Prop}(hG:B3 n B w0 st a w ρ I){o:Oper}{x:Operand}{d id rid:Nat}{ψ:Prop}{tb:TypeId}{cs:List AV}{l:List UInt8}(E4:A6 st.ev o.op=some (ψ,50,[st.ev x]))(hψ:ψ)(DD:o.dst=some d)(hd:d<n)(hx:(st.ev x).strip=.p id 0)(cx:(st.ev x).cond)
  (hk:Af st.heap id=some (.box tb (.AF cs))) (J5:cs.getD 1 .top=.s rid) (HR:1<cs.length) (hr:Af st.heap rid=some (.row 5 1 (.ints .u8 (zl l)))) {K:St→Prop} (hK:K ⟨(d,An ⟨l.toArray⟩)::CM d st.env,(d,.row 5 1 (.ints .u8 []))::AJ d (Dh rid st.heap)⟩):C1 Tryz.prog n B w0 o a w K:=by
 intro next Q FZ
 obtain⟨vs,B1,RH⟩:=JT (fun x=>hG.ev x) E4 hψ Tryz.func50 Zk Zk
 obtain⟨av,AAl,XP⟩: ∃av,vs= #[av]∧AL B I w ρ (st.ev x) av:=by
  have hl:vs.toList.length=1:=by have:=RH.1;simp at this ⊢;omega
  match VE:vs.toList,hl with
  | [u],_=>
   refine⟨u,Array.toList_inj.1 (by simpa using VE),?_⟩;have:=RH.2 0 (by simp);rw[VE]at this;simpa using this
 subst AAl;have XP:=XP.strip cx;rw[hx]at XP;cases XP with
 |p _ _ b y yO RJ=>
  obtain⟨y',F9,b',us,rfl,hB,hh,hlen,OR⟩:=hG.hw.ok _ _ hk;rw[yO]at F9;injection F9 with F9;subst F9
  simp only[Ab,Option.some.injEq]at RJ;subst RJ;obtain⟨v,hv,m,xs,DE,SF,VK⟩:=hG.hw.ok _ _ hr
  have AAm:us[1]? =some v:=by
   have h1:1<us.size:=by rw[hlen];exact HR
   have h2:=OR 1 us[1] (Array.getElem?_eq_getElem h1);have h3:(AH.AF cs).at 1=.s rid:=J5;rw[h3]at h2;rw[Array.getElem?_eq_getElem h1];cases h2 with
   |s _ _ lA _=>rw[hv]at lA;injection lA with lA;rw[lA]
  have hgb:v.ownBlock≠some b':=by
   rw[←Bj DE];by_cases e:rid=id
   ·subst e;rw[hk]at hr;cases hr
   ·exact fun h=>hG.hw.apart rid id _ _ v _ b' e hr hk hv yO h rfl
  unfold Oper.wp;rw[B1,Oper.upon_enter];refine(Uk (l:=l) hh AAm DE ?_ ?_ hgb).mono fun en w' he=>?_
  ·simp only[AH.len,Ay]at SF;omega
  ·intro j z hj;have N5:=(List.getElem?_eq_some_iff.1 hj).1;have Xl:xs.length=l.length:=by have:=DE.1;simp only[AH.len,Ay]at SF;omega
   have h1:=VK j xs[j] (Zeg Zo)
   have h2:(AH.ints IntKind.u8 (zl l)).at j=.v (.int .u8 z.toNat):=by
    simp[AH.at,zl,Zlg,hj]
   rw[h2]at h1;rw[Zeg Zo];exact congrArg some h1.Ao
  obtain⟨rfl,h1,h2,h3,h4,h5⟩:=he;have Uw: ∀b,I b→w'.heap[b]? =w.heap[b]? :=fun b hb=>h5 b (hG.hw.lt b hb) fun e=>hG.hw.J2 rid _ v b hr hv (by rw[Bj DE];exact e) hb
  have Cj:=hG.replace (w':=w') (H0:=Dh rid st.heap) (fun id blk h=>by rw[KB]at h;split at h;cases h;exact h) d (.slice none 0 0) (.row 5 1 (.ints .u8 []))
   ⟨0,[],World.ownsRow_nil w' B 5 1,rfl,fun j u hu=>by simp at hu⟩
   ⟨h1,h2,h3,h4,fun k hk=>h5 k (Nat.lt_of_lt_of_le hk hG.base) fun e=>by have:=(DE.lt k e).1;omega⟩ Uw
   (fun id2 blk y2 b2 _ Pg hy hb=>by
    rw[KB]at Pg;split at Pg
    ·cases Pg
    ·rename_i CD;obtain⟨y3,yd,Ae⟩:=hG.hw.ok _ _ Pg;rw[hy]at yd;injection yd with yd;subst yd
     exact h5 b2 (Ae.lt hb).2 fun e=>hG.hw.apart rid id2 _ _ v y2 b2 (Ne.symm CD) hr Pg hv hy (by rw[Bj DE];exact e) hb)
   (fun _ _ _ _ _ _ _ _ h=>by simp[Ab]at h) (fun _ h=>by simp[Ab]at h) (hG.BQ.JQ d hd)
  rw[DD];exact FZ _ _ _ hK ⟨_,I,Cj.put (d:=some d) (fun k hk=>by injection hk with hk;omega) (.v _)⟩
end Go.Proofs.YthemnhjojaehhaaGreatDoor
namespace Go.Proofs.YthemnhjojaehhaaGreatDoor
open Go.Ad Go.Proofs Go.Tp
attribute [local irreducible] A8 AK BY Go.Ad.Pure BS
def cw(f:Nat)(args:List AV)(t:List UInt8):Prop:= ∀l:List Int,l.length+t.length≤1000000→BS Tryz.prog T f (.p 1000 0::args) (FL l) (.t []) (FL (l++zl t))
set_option maxRecDepth 100000 in
set_option maxHeartbeats 4000000 in
theorem L8(k:Nd)(Ae:Cz k)(least:Int)(ihk:cw 79 [.a (A1 k)] (Ca k)):cw 107 [.a (A1 k),AE least] (fL k (Ca k) least):=by
 intro l hn;have pL:=WW l k Ae;unfold fL at hn ⊢;by_cases c:least≤D1 k
 ·rw[if_pos c]at hn ⊢;have c1:decide (least≤D1 k)=true:=Zde c;have hx:=ihk l hn;generalize Ca k=t at*;generalize D1 k=lv at*;refine FO 25 [] Tryz.func107 Tryz.ntmps107 fun B w0 Y R Am Az hY AQ AW Aj hR=>?_;have AB:=FI AW AQ 4
  refine AI ⟨[],FL (l++zl t)++Y⟩ ES ?_;repeat'(first|exact tT|refine WA tT (Y2 c1 AB) ?_ ?_|refine WB (Y2 c1 AB) ?_ ?_|refine EO pL (Y2 c1 AB) ?_|refine EO hx (Y2 c1 AB) ?_|(refine HE ?_;clear hK K)|refine WN fun K hK=>?_|refine WD fun K hK=>?_|refine WR fun K hK=>?_|refine HT ?_|refine WC (fun h=>?_) fun h=>?_|exact ff|fail)
  all_goals exact G.Al (AA Ai) Au
 ·rw[if_neg c]at hn ⊢;have c1:decide (least≤D1 k)=false:=Zdf c;simp only[List.length_append,List.length_cons,List.length_nil]at hn;have hw:=Ah l [40] (by simp;omega);have hx:=ihk (l++zl [40]) (by simp[Ay];omega);generalize Ca k=t at*;generalize D1 k=lv at*;have RR:=Ah (l++zl [40]++zl t) [41] (by simp[Ay];omega);rw[show l++zl (40::t++ [41])=l++zl [40]++zl t++zl [41] by simp[zl]];refine FO 25 [] Tryz.func107 Tryz.ntmps107 fun B w0 Y R Am Az hY AQ AW Aj hR=>?_;have AB:=FI AW AQ 4
  refine BG ⟨[],FL (l++zl [40]++zl t++zl [41])++Y⟩ ES ?_;repeat'(first|exact tT|refine WA tT (Y2 c1 AB) ?_ ?_|refine WB (Y2 c1 AB) ?_ ?_|refine EO pL (Y2 c1 AB) ?_|refine EO hx (Y2 c1 AB) ?_|refine EO hw (Y2 c1 AB) ?_|refine EO RR (Y2 c1 AB) ?_|(refine HE ?_;clear hK K)|refine WN fun K hK=>?_|refine WD fun K hK=>?_|refine WR fun K hK=>?_|refine HT ?_|refine WC (fun h=>?_) fun h=>?_|exact ff|fail)
  all_goals exact G.Al (AA Ai) Au
def Be(s:List UInt8)(j:Nat):List UInt8:=if j=0 then s else [44,32]
theorem de(s:List UInt8)(den:Int)(ps:List Pc)(p:Pc):EU s den (ps++ [p])=EU s den ps++(Be s ps.length++lV den p):=by
 induction ps generalizing s with
 |nil=>simp[EU,Be]
 |cons q r ih=>
  rw[List.cons_append,EU,EU,ih];have:Be [44,32] r.length=Be s (q::r).length:=by unfold Be;simp
  rw[this];simp
theorem df(s:List UInt8)(den:Int)(ps:List Pc)(j:Nat)(hj:j<ps.length):EU s den (ps.take (j+1))=EU s den (ps.take j)++(Be s j++lV den (ps.getD j default)):=by
 have e:ps.take (j+1)=ps.take j++ [ps.getD j default]:=by
  rw[List.take_succ_eq_append_getElem hj]
  congr 2
  simp[Zlg,hj]
 rw[e,de,List.length_take,Nat.min_eq_left Zo]
theorem an(s:List UInt8)(den:Int): ∀(ps:List Pc) (j:Nat),(EU s den (ps.take j)).length≤(EU s den ps).length
 | [],j=>by simp
 |p::r,0=>by simp[EU]
 |p::r,j+1=>by
  have:=an [44,32] den r j;rw[List.take_succ_cons,EU,EU];simp only[List.length_append];omega
theorem jr{l:List Pc}{j:Nat}(h:j<l.length):l.getD j default∈l:=by
 rw[Zlg,Zeg h];exact List.getElem_mem h
theorem ZC{a b:Int}(h: -1000000000000000000<a∧a<1000000000000000000)(hb:1≤b): -1000000000000000000<a.tdiv b∧a.tdiv b<1000000000000000000:=by
 have h1:(a.tdiv b).natAbs≤a.natAbs:=by
  rw[Int.natAbs_tdiv];exact Nat.div_le_self _ _
 omega
set_option maxRecDepth 100000 in
set_option maxHeartbeats 8000000 in
theorem dh(e:Nd)(Ae:Cz e)(hl:1≤e.kids.length)(U4:1≤e.den∧e.den≤1000000000)
  (Xp: ∀p∈e.ps,(-1000000000000000000<p.fr∧p.fr<1000000000000000000)∧(-1000000000000000000<p.pa∧p.pa<1000000000000000000)∧(-1000000000000000000<p.sl∧p.sl<1000000000000000000))
  (ihk:cw 79 [.a (A1 (e.kids.getD 0 default))] (Ca (e.kids.getD 0 default))):cw 109 [.a (A1 e)] (Iq++40::Ca (e.kids.getD 0 default)++EU [59,32] e.den e.ps++ [41]):=by
 intro l hn;have Ci:=Ae.spec.kids;have E5:=Ci.2;have yP:e.ps.length≤9223372036854775807:=Ae.spec.ps.2;have kid0:(e.kids.map Dj).getD 0 []=A1 (e.kids.getD 0 default):=Aw hl;have hnk:=Cz.spec (Ci.nth hl);generalize e.kids.getD 0 default=k0 at*;generalize Ca k0=t at*;simp only[List.length_append,List.length_cons,List.length_nil,Iq]at hn;have hw:=Ah l [116,97,98,108,101,40] (by simp;omega);have hx:=ihk (l++zl [116,97,98,108,101,40]) (by simp[Ay];omega);rw[show l++zl (Iq++40::t++EU [59,32] e.den e.ps++ [41])=l++zl [116,97,98,108,101,40]++zl t++zl (EU [59,32] e.den e.ps)++zl [41] by simp[zl,Iq]];generalize bM:l++zl [116,97,98,108,101,40]++zl t=l0 at*;have ADg:l0.length=l.length+6+t.length:=by rw[←bM];simp[Ay];omega
 refine FO 77 [] Tryz.func109 Tryz.ntmps109 fun B w0 Y R Am Az hY AQ AW Aj hR=>?_;have AB:=NA AW AQ 3 6
 refine BG ⟨[],FL (l0++zl (EU [59,32] e.den e.ps)++zl [41])++Y⟩ ES ?_;repeat'(first|exact tT|refine WA tT (Y2 kid0 AB) ?_ ?_|refine WB (Y2 kid0 AB) ?_ ?_|refine EO hw (Y2 kid0 AB) ?_|refine EO hx (Y2 kid0 AB) ?_|(refine HE ?_;clear hK K)|refine WN fun K hK=>?_|refine WD fun K hK=>?_|refine WR fun K hK=>?_|refine HT ?_|refine WC (fun h=>?_) fun h=>?_|exact ff|fail)
 refine AM (α:=Nat) (fun j=>⟨[(21,AE j),(20,AE e.ps.length),(19,C2 Et 3 e.ps),(4,An ⟨(Be [59,32] j).toArray⟩),(3,.p 3 0),(0,.p 1000 0)],(3,.box 27 (.AF (A1 e)))::(FL (l0++zl (EU [59,32] e.den (e.ps.take j)))++Y)⟩) (fun j=>j≤e.ps.length) (fun j=>e.ps.length - j) 0 (Nat.zero_le _) (by simp only[List.take_zero,EU,zl,List.map_nil,List.append_nil];exact G.Al (AA Ai) Au) fun j hj=>?_;by_cases Ak:j<e.ps.length
 ·have c1:=DT ((j:Int)<(e.ps.length:Int));have BE:=df [59,32] e.den e.ps j Ak;have hle:=an [59,32] e.den e.ps (j+1);rw[BE]at hle;obtain⟨yY,hpp,ADh⟩:=Xp _ (jr Ak);have hq: -1000000000000000000<(e.ps.getD j default).pa.tdiv e.den∧(e.ps.getD j default).pa.tdiv e.den<1000000000000000000:=ZC hpp U4.1;have G3:(Be [59,32] j).length≤2:=by unfold Be;split<;>simp
  have FZ:Be [59,32] (j+1)= [44,32]:=rfl;have xW:=Ya (e.ps.getD j default).fr yY.1 yY.2;have hdq:=Ya ((e.ps.getD j default).pa.tdiv e.den) hq.1 hq.2;have hid:=D6 e.den Zo Zo;have Gu:=Bn (k:=20) (n:=e.den.toNat) Zo Zo;have Ta:(l0++zl (EU [59,32] e.den (e.ps.take j))).length=l0.length+(EU [59,32] e.den (e.ps.take j)).length:=by simp[Ay]
  have hu0:e.den≠0:=Zo
  have hpi:(-9223372036854775808≤(e.ps.getD j default).pa∧(e.ps.getD j default).pa≤9223372036854775807)∧ -9223372036854775808≤(e.ps.getD j default).pa.tdiv e.den∧(e.ps.getD j default).pa.tdiv e.den≤9223372036854775807:=Zo
  by_cases hs:(e.ps.getD j default).sl<0
  ·have c2:decide ((e.ps.getD j default).sl<0)=true:=Zde hs;have ZW:=D6 (0 - (e.ps.getD j default).sl) Zo Zo;have N4:=Bn (k:=20) (n:=(0 - (e.ps.getD j default).sl).toNat) Zo Zo
   have Du:l0++zl (EU [59,32] e.den (e.ps.take (j+1)))=l0++zl (EU [59,32] e.den (e.ps.take j))++zl (Be [59,32] j++(Tp.Gf (e.ps.getD j default).fr++32::58::32::Tp.Gf ((e.ps.getD j default).pa.tdiv e.den)))++zl (32::45::32::CL (0 - (e.ps.getD j default).sl).toNat)++zl (47::CL e.den.toNat):=by
    rw[BE,lV,Lr,if_pos hs,Int.zero_sub];simp[zl]
   have uF:=congrArg List.length Du;simp only[List.length_append,Ay,List.length_cons]at uF;rw[BE]at uF;simp only[List.length_append]at uF hle;generalize l0++zl (EU [59,32] e.den (e.ps.take j))=lj at*;generalize Tp.Gf (e.ps.getD j default).fr=t1 at*;generalize Tp.Gf ((e.ps.getD j default).pa.tdiv e.den)=t2 at*;generalize CL (0 - (e.ps.getD j default).sl).toNat=t3 at*;generalize CL e.den.toNat=t4 at*;generalize U5:Be [59,32] j=sp at*;have lM:=Ah lj (sp++(t1++32::58::32::t2)) (by simp;omega);have RR:=Ah (lj++zl (sp++(t1++32::58::32::t2))) (32::45::32::t3) (by simp[Ay];omega);have lN:=Ah (lj++(zl (sp++(t1++32::58::32::t2))++zl (32::45::32::t3))) (47::t4) (by simp[Ay];omega);repeat'(first|exact tT|refine WS (Y4 xW hdq hid ZW) (Y3 c1 c2 AB) ?_ ?_|refine WB (Y3 c1 c2 AB) ?_ ?_|refine Md lM (Y3 c1 c2 AB) ?_|refine Md RR (Y3 c1 c2 AB) ?_|refine Md lN (Y3 c1 c2 AB) ?_|(refine HE ?_;clear hK K)|refine WN fun K hK=>?_|refine WD fun K hK=>?_|refine WR fun K hK=>?_|refine HT ?_|refine WC (fun h=>?_) fun h=>?_|exact ff|fail)
   all_goals first|omega|skip
   all_goals (refine⟨j+1,⟨Zo,Zo⟩,?_⟩;simp only[FZ,Du,List.append_assoc];exact G.Al (AA Ai) Au)
  ·have c2:decide ((e.ps.getD j default).sl<0)=false:=Zdf hs;have ZW:=D6 (e.ps.getD j default).sl Zo Zo;have N4:=Bn (k:=20) (n:=(e.ps.getD j default).sl.toNat) Zo Zo
   have Du:l0++zl (EU [59,32] e.den (e.ps.take (j+1)))=l0++zl (EU [59,32] e.den (e.ps.take j))++zl (Be [59,32] j++(Tp.Gf (e.ps.getD j default).fr++32::58::32::Tp.Gf ((e.ps.getD j default).pa.tdiv e.den)))++zl (32::43::32::CL (e.ps.getD j default).sl.toNat)++zl (47::CL e.den.toNat):=by
    rw[BE,lV,Lr,if_neg hs];simp[zl]
   have uF:=congrArg List.length Du;simp only[List.length_append,Ay,List.length_cons]at uF;rw[BE]at uF;simp only[List.length_append]at uF hle;generalize l0++zl (EU [59,32] e.den (e.ps.take j))=lj at*;generalize Tp.Gf (e.ps.getD j default).fr=t1 at*;generalize Tp.Gf ((e.ps.getD j default).pa.tdiv e.den)=t2 at*;generalize CL (e.ps.getD j default).sl.toNat=t3 at*;generalize CL e.den.toNat=t4 at*;generalize U5:Be [59,32] j=sp at*;have lM:=Ah lj (sp++(t1++32::58::32::t2)) (by simp;omega);have RR:=Ah (lj++zl (sp++(t1++32::58::32::t2))) (32::43::32::t3) (by simp[Ay];omega);have lN:=Ah (lj++(zl (sp++(t1++32::58::32::t2))++zl (32::43::32::t3))) (47::t4) (by simp[Ay];omega);repeat'(first|exact tT|refine WS (Y4 xW hdq hid ZW) (Y3 c1 c2 AB) ?_ ?_|refine WB (Y3 c1 c2 AB) ?_ ?_|refine Md lM (Y3 c1 c2 AB) ?_|refine Md RR (Y3 c1 c2 AB) ?_|refine Md lN (Y3 c1 c2 AB) ?_|(refine HE ?_;clear hK K)|refine WN fun K hK=>?_|refine WD fun K hK=>?_|refine WR fun K hK=>?_|refine HT ?_|refine WC (fun h=>?_) fun h=>?_|exact ff|fail)
   all_goals first|omega|skip
   all_goals (refine⟨j+1,⟨Zo,Zo⟩,?_⟩;simp only[FZ,Du,List.append_assoc];exact G.Al (AA Ai) Au)
 ·obtain rfl:j=e.ps.length:=Zo
  have c1:=DF ((e.ps.length:Int)<(e.ps.length:Int));rw[List.take_length];have RR:=Ah (l0++zl (EU [59,32] e.den e.ps)) [41] (by simp[Ay];omega);generalize l0++zl (EU [59,32] e.den e.ps)=l1 at*;repeat'(first|exact tT|refine WA tT (Y2 c1 AB) ?_ ?_|refine WB (Y2 c1 AB) ?_ ?_|refine EO RR (Y2 c1 AB) ?_|(refine HE ?_;clear hK K)|refine WN fun K hK=>?_|refine WD fun K hK=>?_|refine WR fun K hK=>?_|refine HT ?_|refine WC (fun h=>?_) fun h=>?_|exact ff|fail)
  all_goals exact G.Al (AA Ai) Au
theorem jt(s:ByteArray):0≤OH s∧OH s≤5:=by
 have h: ∀p∈Bp,0≤p.2∧p.2≤5:=by
  intro p hp;simp only[Bp,List.mem_cons,List.not_mem_nil,or_false]at hp;rcases hp with rfl|rfl|rfl|rfl|rfl|rfl|rfl|rfl|rfl|rfl|rfl<;>exact⟨Zd,Zd⟩
 unfold OH A0;cases hf:Bp.find? (fun p=>decide (p.1=Key.s s))with
 |none=>exact⟨Zd,Zd⟩
 |some p=>exact h p (List.mem_of_find?_eq_some hf)
theorem kd{x:Int}(a:Int):(x=a→(x==a)=true)∧(x≠a→(x==a)=false):=⟨fun h=>by rw[h];exact beq_self_eq_true a,fun h=>beq_eq_false_iff_ne.2 h⟩
set_option maxRecDepth 100000 in
set_option maxHeartbeats 8000000 in
theorem dm(e:Nd)(Ae:Cz e)(hx:BC e=true)(k:e.kind=11∨e.kind=12∨e.kind=13∨e.kind=14):cw 79 [.a (A1 e)] (Ca e):=by
 intro l hn;have Ph:=Ae.spec.name;rw[EJ]at hx;rw[Ls]at hn ⊢;generalize e.kids.map Ca=ts at*;unfold FA at hx;unfold UH at hn ⊢;rcases k with k|k|k|k
 ·have q:=(kd 11).1 k;rw[if_pos k]at hx hn ⊢;simp only[Zba,Zdt]at hx;have hw:=Yn l e Ae hx.1.1.1.2 hx.1.1.2 hn;generalize WG e=t at*;refine FO 107 [] Tryz.func79 Tryz.ntmps79 fun B w0 Y R Am Az hY AQ AW Aj hR=>?_;have AB:=Il AW AQ 3 4 7
  refine BG ⟨[],FL (l++zl t)++Y⟩ ES ?_;repeat'(first|exact tT|refine WA tT (Y2 q AB) ?_ ?_|refine WB (Y2 q AB) ?_ ?_|refine EO hw (Y2 q AB) ?_|(refine HE ?_;clear hK K)|refine WN fun K hK=>?_|refine WD fun K hK=>?_|refine WR fun K hK=>?_|refine HT ?_|refine WC (fun h=>?_) fun h=>?_|exact ff|fail)
  all_goals exact G.Al (AA Ai) Au
 ·have q1:=(kd (x:=e.kind) 11).2 Zo;have q:=(kd 12).1 k;rw[if_neg Zo,if_pos (.inl k)]at hn ⊢;have hw:=Nb l e.name hn;rw[pb]at hw;refine FO 107 [] Tryz.func79 Tryz.ntmps79 fun B w0 Y R Am Az hY AQ AW Aj hR=>?_;have AB:=Il AW AQ 3 4 7
  refine BG ⟨[],FL (l++zl (bl e.name))++Y⟩ ES ?_;repeat'(first|exact tT|refine WA tT (Y3 q1 q AB) ?_ ?_|refine WB (Y3 q1 q AB) ?_ ?_|refine EO hw (Y3 q1 q AB) ?_|(refine HE ?_;clear hK K)|refine WN fun K hK=>?_|refine WD fun K hK=>?_|refine WR fun K hK=>?_|refine HT ?_|refine WC (fun h=>?_) fun h=>?_|exact ff|fail)
  all_goals exact G.Al (AA Ai) Au
 ·have q1:=(kd (x:=e.kind) 11).2 Zo;have q2:=(kd (x:=e.kind) 12).2 Zo;have q3:=(kd (x:=e.kind) 14).2 Zo;have q:=(kd 13).1 k;rw[if_neg Zo,if_neg Zo,if_pos k]at hn ⊢;rw[if_neg Zo,if_neg Zo,if_pos k]at hx;simp only[BI,Zba,Zdt]at hx;have hi:=D6 e.n Zo Zo;have Gu:=Bn (k:=20) (n:=e.n.toNat) Zo Zo;generalize CL e.n.toNat=t at*;have hw:=Ah l (97::114::116::32::t) hn;refine FO 107 [] Tryz.func79 Tryz.ntmps79 fun B w0 Y R Am Az hY AQ AW Aj hR=>?_;have AB:=Il AW AQ 3 4 7
  refine BG ⟨[],FL (l++zl ([97,114,116,32]++t))++Y⟩ ES ?_;repeat'(first|exact tT|refine WS hi (Y5 q1 q2 q3 q AB) ?_ ?_|refine WB (Y5 q1 q2 q3 q AB) ?_ ?_|refine Md hw (Y5 q1 q2 q3 q AB) ?_|(refine HE ?_;clear hK K)|refine WN fun K hK=>?_|refine WD fun K hK=>?_|refine WR fun K hK=>?_|refine HT ?_|refine WC (fun h=>?_) fun h=>?_|exact ff|fail)
  all_goals first|omega|skip
  all_goals exact G.Al (AA Ai) Au
 ·have q1:=(kd (x:=e.kind) 11).2 Zo;have q2:=(kd (x:=e.kind) 12).2 Zo;have q:=(kd 14).1 k;rw[if_neg Zo,if_pos (.inr k)]at hn ⊢;have hw:=Nb l e.name hn;rw[pb]at hw;refine FO 107 [] Tryz.func79 Tryz.ntmps79 fun B w0 Y R Am Az hY AQ AW Aj hR=>?_;have AB:=Il AW AQ 3 4 7
  refine BG ⟨[],FL (l++zl (bl e.name))++Y⟩ ES ?_;repeat'(first|exact tT|refine WA tT (Y4 q1 q2 q AB) ?_ ?_|refine WB (Y4 q1 q2 q AB) ?_ ?_|refine EO hw (Y4 q1 q2 q AB) ?_|(refine HE ?_;clear hK K)|refine WN fun K hK=>?_|refine WD fun K hK=>?_|refine WR fun K hK=>?_|refine HT ?_|refine WC (fun h=>?_) fun h=>?_|exact ff|fail)
  all_goals exact G.Al (AA Ai) Au
abbrev vn(e:Nd):Prop:= ∀j,j<e.kids.length→cw 79 [.a (A1 (e.kids.getD j default))] (Ca (e.kids.getD j default))
theorem ao{e:Nd}{j:Nat}(h:j<e.kids.length):(e.kids.map Ca).getD j []=Ca (e.kids.getD j default):=by
 simp[Zlg,h]
set_option maxRecDepth 100000 in
set_option maxHeartbeats 8000000 in
theorem ju(e:Nd)(Ae:Cz e)(hl:e.kids.length=1)(k:e.kind=15)(ihk:vn e):cw 79 [.a (A1 e)] (Ca e):=by
 intro l hn;have Ci:=Ae.spec.kids;have kid0:(e.kids.map Dj).getD 0 []=A1 (e.kids.getD 0 default):=Aw Zo;have ts0:=ao (e:=e) (j:=0) Zo;have ih0:=L8 (e.kids.getD 0 default) (Ci.nth Zo) 2 (ihk 0 Zo);rw[Ls]at hn ⊢;unfold UH at hn ⊢;rw[if_neg Zo,if_neg Zo,if_neg Zo,if_pos k,ts0]at hn ⊢;generalize e.kids.getD 0 default=k0 at*;generalize fL k0 (Ca k0) 2=t at*;have q1:=(kd (x:=e.kind) 11).2 Zo;have q2:=(kd (x:=e.kind) 12).2 Zo;have q3:=(kd (x:=e.kind) 14).2 Zo;have q4:=(kd (x:=e.kind) 13).2 Zo;have q:=(kd 15).1 k;simp only[List.length_append,List.length_cons,List.length_nil]at hn;have hw:=Ah l [110,111,116,32] (by simp;omega);have hx:=ih0 (l++zl [110,111,116,32]) (by simp[Ay];omega);rw[show l++zl ([110,111,116,32]++t)=l++zl [110,111,116,32]++zl t by simp[zl]];refine FO 107 [] Tryz.func79 Tryz.ntmps79 fun B w0 Y R Am Az hY AQ AW Aj hR=>?_;have AB:=Il AW AQ 3 4 7
 refine BG ⟨[],FL (l++zl [110,111,116,32]++zl t)++Y⟩ ES ?_;repeat'(first|exact tT|refine WA tT (Y7 q1 q2 q3 q4 q kid0 AB) ?_ ?_|refine WB (Y7 q1 q2 q3 q4 q kid0 AB) ?_ ?_|refine EO hw (Y7 q1 q2 q3 q4 q kid0 AB) ?_|refine EO hx (Y7 q1 q2 q3 q4 q kid0 AB) ?_|(refine HE ?_;clear hK K)|refine WN fun K hK=>?_|refine WD fun K hK=>?_|refine WR fun K hK=>?_|refine HT ?_|refine WC (fun h=>?_) fun h=>?_|exact ff|fail)
 all_goals exact G.Al (AA Ai) Au
set_option maxRecDepth 100000 in
set_option maxHeartbeats 8000000 in
theorem jv(e:Nd)(Ae:Cz e)(hx:BC e=true)(k:e.kind=18)(ihk:vn e):cw 79 [.a (A1 e)] (Ca e):=by
 intro l hn;have hpi:=Ae.spec.ps;rw[EJ]at hx;unfold FA at hx;rw[if_neg Zo,if_neg Zo,if_neg Zo,if_neg Zo,if_neg Zo,if_neg Zo,if_neg Zo,if_pos k]at hx;simp only[Bo,BI,Zba,Zdt]at hx;obtain⟨⟨⟨_,⟨⟨⟨U4,hp1⟩,hp2⟩,qO⟩,ld⟩,Iv⟩,_⟩:=hx;have ts0:=ao (e:=e) (j:=0) Zo
 have N1: ∀j,j<e.ps.length→0≤(e.ps.getD j default).fr:=by
  intro j;induction j with
  |zero=>intro _;omega
  |succ j ih=>
   intro hj;have h1:=ih Zo;have h2:=(DI.1 (Ku ld hj)).1.2;simp only[Nat.add_sub_cancel]at h2;omega
 have Xp: ∀p∈e.ps,(-1000000000000000000<p.fr∧p.fr<1000000000000000000)∧(-1000000000000000000<p.pa∧p.pa<1000000000000000000)∧(-1000000000000000000<p.sl∧p.sl<1000000000000000000):=by
  intro p hp;obtain⟨j,hj,rfl⟩:=List.getElem_of_mem hp;have e1:e.ps.getD j default=e.ps[j]:=by simp[Zlg,hj]
  have h1:=N1 j hj;obtain⟨h2,h3,h4⟩:=DI.1 (Ku ld hj);rw[e1]at h1 h2 h3 h4;have h5:999999999999*e.den≤999999999999*1000000:=Int.mul_le_mul_of_nonneg_left U4.2 Zd;have h6: -999999999999*e.den= -(999999999999*e.den):=Int.neg_mul _ _;rw[h6]at h3;refine⟨Zo,Zo,Zo⟩
 have ih:=dh e Ae Zo ⟨U4.1,Zo⟩ Xp (ihk 0 Zo);rw[Ls]at hn ⊢;unfold UH at hn ⊢;rw[if_neg Zo,if_neg Zo,if_neg Zo,if_neg Zo,if_neg Zo,if_neg Zo,if_pos k,ts0]at hn ⊢;have hw:=ih l hn;generalize Iq++40::Ca (e.kids.getD 0 default)++EU [59,32] e.den e.ps++ [41]=t at*;have q1:=(kd (x:=e.kind) 11).2 Zo;have q2:=(kd (x:=e.kind) 12).2 Zo;have q3:=(kd (x:=e.kind) 14).2 Zo;have q4:=(kd (x:=e.kind) 13).2 Zo;have q5:=(kd (x:=e.kind) 15).2 Zo;have q6:=(kd (x:=e.kind) 16).2 Zo;have q7:=(kd (x:=e.kind) 17).2 Zo;have q:=(kd 18).1 k;refine FO 107 [] Tryz.func79 Tryz.ntmps79 fun B w0 Y R Am Az hY AQ AW Aj hR=>?_;have AB:=Il AW AQ 3 4 7
 refine BG ⟨[],FL (l++zl t)++Y⟩ ES ?_;repeat'(first|exact tT|refine WA tT (Y9 q1 q2 q3 q4 q5 q6 q7 q AB) ?_ ?_|refine WB (Y9 q1 q2 q3 q4 q5 q6 q7 q AB) ?_ ?_|refine EO hw (Y9 q1 q2 q3 q4 q5 q6 q7 q AB) ?_|(refine HE ?_;clear hK K)|refine WN fun K hK=>?_|refine WD fun K hK=>?_|refine WR fun K hK=>?_|refine HT ?_|refine WC (fun h=>?_) fun h=>?_|exact ff|fail)
 all_goals exact G.Al (AA Ai) Au
set_option maxRecDepth 100000 in
set_option maxHeartbeats 8000000 in
theorem jw(e:Nd)(Ae:Cz e)(hl:e.kids.length=2)(k:e.kind=16)(ihk:vn e):cw 79 [.a (A1 e)] (Ca e):=by
 intro l hn;have Ci:=Ae.spec.kids;have Ph:=Ae.spec.name;have kid0:(e.kids.map Dj).getD 0 []=A1 (e.kids.getD 0 default):=Aw Zo;have kid1:(e.kids.map Dj).getD 1 []=A1 (e.kids.getD 1 default):=Aw Zo;have ts0:=ao (e:=e) (j:=0) Zo;have ts1:=ao (e:=e) (j:=1) Zo;have ih0:=L8 (e.kids.getD 0 default) (Ci.nth Zo) (rU (D1 e)) (ihk 0 Zo);have ih1:=L8 (e.kids.getD 1 default) (Ci.nth Zo) (rV (D1 e)) (ihk 1 Zo);have hlv:0≤D1 e∧D1 e≤5:=by unfold D1;rw[if_pos k];exact jt _
 rw[Ls]at hn ⊢;unfold UH at hn ⊢;rw[if_neg Zo,if_neg Zo,if_neg Zo,if_neg Zo,if_pos k,ts0,ts1]at hn ⊢;have uG:=fun l=>WW l e Ae;generalize e.kids.getD 0 default=k0 at*;generalize e.kids.getD 1 default=k1 at*;unfold rU at ih0 hn ⊢;unfold rV at ih1 hn ⊢;generalize D1 e=lv at*;generalize fL k0 (Ca k0) (ID.getD (lv.toNat*2) 0)=t0 at*;generalize fL k1 (Ca k1) (ID.getD (lv.toNat*2+1) 0)=t1 at*;have q1:=(kd (x:=e.kind) 11).2 Zo;have q2:=(kd (x:=e.kind) 12).2 Zo;have q3:=(kd (x:=e.kind) 14).2 Zo;have q4:=(kd (x:=e.kind) 13).2 Zo;have q5:=(kd (x:=e.kind) 15).2 Zo;have q:=(kd 16).1 k;simp only[List.length_append,List.length_cons,List.length_nil]at hn;have pL:=uG l;have On:(bl e.name).length=e.name.size:=rfl;have hx:=ih0 l Zo;have hw:=Ah (l++zl t0) (32::(bl e.name++ [32])) (by simp[Ay];omega);have RO:=ih1 (l++(zl t0++zl (32::(bl e.name++ [32])))) (by simp[Ay];omega);rw[show l++zl (t0++32::bl e.name++32::t1)=l++(zl t0++(zl (32::(bl e.name++ [32]))++zl t1)) by simp[zl]];refine FO 107 [] Tryz.func79 Tryz.ntmps79 fun B w0 Y R Am Az hY AQ AW Aj hR=>?_;have AB:=Il AW AQ 3 4 7
 refine BG ⟨[],FL (l++(zl t0++(zl (32::(bl e.name++ [32]))++zl t1)))++Y⟩ ES ?_;repeat'(first|exact tT|refine WS tT (Y9 q1 q2 q3 q4 q5 q kid0 kid1 AB) ?_ ?_|refine WB (Y9 q1 q2 q3 q4 q5 q kid0 kid1 AB) ?_ ?_|refine Md hw (Y9 q1 q2 q3 q4 q5 q kid0 kid1 AB) ?_|refine Md hx (Y9 q1 q2 q3 q4 q5 q kid0 kid1 AB) ?_|refine Md pL (Y9 q1 q2 q3 q4 q5 q kid0 kid1 AB) ?_|refine Md RO (Y9 q1 q2 q3 q4 q5 q kid0 kid1 AB) ?_|(refine HE ?_;clear hK K)|refine WN fun K hK=>?_|refine WD fun K hK=>?_|refine WR fun K hK=>?_|refine HT ?_|refine WC (fun h=>?_) fun h=>?_|exact ff|fail)
 all_goals first|omega|skip
 all_goals first|exact⟨trivial,Zo,Zo⟩|(show _≤12;omega)|skip
 all_goals exact G.Al (AA Ai) Au
theorem dp(s:List UInt8)(ts:List (List UInt8))(t:List UInt8):Bc s (ts++ [t])=Bc s ts++(Be s ts.length++t):=by
 induction ts generalizing s with
 |nil=>simp[Bc,Be]
 |cons q r ih=>
  rw[List.cons_append,Bc,Bc,ih];have:Be [44,32] r.length=Be s (q::r).length:=by unfold Be;simp
  rw[this];simp
theorem K6(s:List UInt8)(ks:List Nd)(j:Nat)(hj:j<ks.length):Bc s ((ks.take (j+1)).map Ca)=Bc s ((ks.take j).map Ca)++(Be s j++Ca (ks.getD j default)):=by
 rw[Cx hj,List.map_append,List.map_cons,List.map_nil,dp,List.length_map,List.length_take,Nat.min_eq_left Zo]
theorem Mz(s:List UInt8): ∀(ts:List (List UInt8)) (j:Nat),(Bc s (ts.take j)).length≤(Bc s ts).length
 | [],j=>by simp
 |p::r,0=>by simp[Bc]
 |p::r,j+1=>by
  have:=Mz [44,32] r j;rw[List.take_succ_cons,Bc,Bc];simp only[List.length_append];omega
set_option maxRecDepth 100000 in
set_option maxHeartbeats 8000000 in
theorem Zz0(e:Nd)(Ae:Cz e)(fS:e.name.size≤100)(k:e.kind=17)(ihk:vn e):cw 79 [.a (A1 e)] (Ca e):=by
 intro l hn;have Ci:=Ae.spec.kids;have E5:=Ci.2;have Ph:=Ae.spec.name;rw[Ls]at hn ⊢;unfold UH at hn ⊢;rw[if_neg Zo,if_neg Zo,if_neg Zo,if_neg Zo,if_neg Zo,if_pos k]at hn ⊢;simp only[List.length_append,List.length_cons,List.length_nil]at hn;have On:(bl e.name).length=e.name.size:=rfl;have q1:=(kd (x:=e.kind) 11).2 Zo;have q2:=(kd (x:=e.kind) 12).2 Zo;have q3:=(kd (x:=e.kind) 14).2 Zo;have q4:=(kd (x:=e.kind) 13).2 Zo;have q5:=(kd (x:=e.kind) 15).2 Zo;have q6:=(kd (x:=e.kind) 16).2 Zo;have q:=(kd 17).1 k;have VH:(bl e.name++ [40]).length≤(bl e.name).length+1:=by simp
 generalize U5:bl e.name++ [40]=sp at*;rw[show l++zl (Bc sp (e.kids.map Ca)++ [41])=l++zl (Bc sp (e.kids.map Ca))++zl [41] by simp[zl]];refine FO 107 [] Tryz.func79 Tryz.ntmps79 fun B w0 Y R Am Az hY AQ AW Aj hR=>?_;have AB:=Il AW AQ 3 4 7
 refine BG ⟨[],FL (l++zl (Bc sp (e.kids.map Ca))++zl [41])++Y⟩ ES ?_;repeat'(first|exact tT|refine WS tT (Y9 q1 q2 q3 q4 q5 q6 q U5 AB) ?_ ?_|refine WB (Y9 q1 q2 q3 q4 q5 q6 q U5 AB) ?_ ?_|(refine HE ?_;clear hK K)|refine WN fun K hK=>?_|refine WD fun K hK=>?_|refine WR fun K hK=>?_|refine HT ?_|refine WC (fun h=>?_) fun h=>?_|exact ff|fail)
 all_goals first|omega|skip
 refine AM (α:=Nat) (fun j=>⟨[(85,AE j),(84,AE e.kids.length),(83,CS e.kids),(5,An ⟨(Be sp j).toArray⟩),(3,.p 3 0),(0,.p 1000 0)],(3,.box 27 (.AF (A1 e)))::(FL (l++zl (Bc sp ((e.kids.take j).map Ca)))++Y)⟩) (fun j=>j≤e.kids.length) (fun j=>e.kids.length - j) 0 (Nat.zero_le _) (by simp only[List.take_zero,List.map_nil,Bc,zl,List.append_nil,Be,if_true];exact G.Al (AA Ai) Au) fun j hj=>?_;by_cases Ak:j<e.kids.length
 ·have c1:=DT ((j:Int)<(e.kids.length:Int));have kid1:=Aw Ak;have BE:=K6 sp e.kids j Ak;have hle:=Mz sp (e.kids.map Ca) (j+1);rw[←List.map_take,BE]at hle;simp only[List.length_append]at hle;have hx:=ihk j Ak;have FZ:Be sp (j+1)= [44,32]:=rfl;have Du:l++zl (Bc sp ((e.kids.take (j+1)).map Ca))=l++zl (Bc sp ((e.kids.take j).map Ca))++zl (Be sp j)++zl (Ca (e.kids.getD j default)):=by rw[BE];simp[zl]
  have Ta:(l++zl (Bc sp ((e.kids.take j).map Ca))).length=l.length+(Bc sp ((e.kids.take j).map Ca)).length:=by simp[Ay]
  have hw:=Ah (l++zl (Bc sp ((e.kids.take j).map Ca))) (Be sp j) (by rw[Ta];omega);have RO:=hx (l++zl (Bc sp ((e.kids.take j).map Ca))++zl (Be sp j)) (by rw[List.length_append,Ta,Ay];omega);generalize l++zl (Bc sp ((e.kids.take j).map Ca))=lj at*;generalize Ca (e.kids.getD j default)=t at*;generalize Be sp j=ss at*;generalize e.kids.getD j default=c at*;repeat'(first|exact tT|refine WA tT (Y3 c1 kid1 AB) ?_ ?_|refine WB (Y3 c1 kid1 AB) ?_ ?_|refine EO hw (Y3 c1 kid1 AB) ?_|refine EO RO (Y3 c1 kid1 AB) ?_|(refine HE ?_;clear hK K)|refine WN fun K hK=>?_|refine WD fun K hK=>?_|refine WR fun K hK=>?_|refine HT ?_|refine WC (fun h=>?_) fun h=>?_|exact ff|fail)
  all_goals (refine⟨j+1,⟨Zo,Zo⟩,?_⟩;simp only[FZ,Du];exact G.Al (AA Ai) Au)
 ·obtain rfl:j=e.kids.length:=Zo
  have c1:=DF ((e.kids.length:Int)<(e.kids.length:Int));rw[List.take_length];have RR:=Ah (l++zl (Bc sp (e.kids.map Ca))) [41] (by simp[Ay];omega);generalize l++zl (Bc sp (e.kids.map Ca))=l1 at*;repeat'(first|exact tT|refine WA tT (Y2 c1 AB) ?_ ?_|refine WB (Y2 c1 AB) ?_ ?_|refine EO RR (Y2 c1 AB) ?_|(refine HE ?_;clear hK K)|refine WN fun K hK=>?_|refine WD fun K hK=>?_|refine WR fun K hK=>?_|refine HT ?_|refine WC (fun h=>?_) fun h=>?_|exact ff|fail)
  all_goals exact G.Al (AA Ai) Au
theorem Q1(e:Nd):Cz e→BC e=true→cw 79 [.a (A1 e)] (Ca e):=by
 induction e using Nd.ind with
 |h e ih=>
  intro Ae hx;obtain⟨hk,EF,XZ,Xm⟩:=JA hx;have Ci:vn e:=fun j hj=>ih _ (Ap hj) (Ae.spec.kids.nth hj) (EF _ (Ap hj));by_cases k1:e.kind≤14
  ·exact dm e Ae hx Zo
  by_cases k2:e.kind=15
  ·refine ju e Ae ?_ k2 Ci;rw[EJ]at hx;unfold FA at hx;rw[if_neg Zo,if_neg Zo,if_neg Zo,if_neg Zo,if_pos k2]at hx;simp only[Zba,Zdt]at hx;exact hx.1.1
  by_cases k3:e.kind=16
  ·exact jw e Ae (Xm k3) k3 Ci
  by_cases k4:e.kind=17
  ·refine Zz0 e Ae ?_ k4 Ci;rw[EJ]at hx;unfold FA at hx;rw[if_neg Zo,if_neg Zo,if_neg Zo,if_neg Zo,if_neg Zo,if_neg Zo,if_pos k4]at hx;simp only[Zba,Bool.or_eq_true,Zdt]at hx;rcases hx.1.1.1 with h|h<;>rw[h]<;>decide
  ·exact jv e Ae hx Zo Ci
end Go.Proofs.YthemnhjojaehhaaGreatDoor
