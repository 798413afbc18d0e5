/- Part of a proof. -/
import Derived.TacticsInMore
import Derived.Test.YthemnhjojaehhaaGreatDoorA45
import Derived.Test.YthemnhjojaehhaaGreatDoorA36
set_option linter.all false
namespace Go.Proofs.YthemnhjojaehhaaGreatDoor
open Go.Ad Go.Proofs Go.Tp Go.RowKit
theorem y5{us:Array Value}(h:us.size=3): ∃a b c,us= #[a,b,c]:=by
 obtain⟨l⟩:=us
 match l,h with
 | [a,b,c],_=>exact⟨a,b,c,rfl⟩
theorem dU(us:Array Value)(h:us.size=3):Idle Tryz.prog {target:=.fn (.func 52) us,args:= #[]}:=by
 intro w;obtain⟨x,y,z,rfl⟩:=y5 h;refine⟨.func 52,#[x,y,z],52,#[x,y,z],rfl,?_,?_⟩
 ·have h1:Tryz.f52.name≠ "runtime.NumGoroutine" :=by
   have:(Tryz.f52.name== "runtime.NumGoroutine")=false:=rfl;simpa using this
  obtain⟨c,hc⟩: ∃c,Tryz.f52.body=some c:=⟨_,rfl⟩;simp[invoke,callFunc,Tryz.func52,h1,hc]
 ·refine callsDIn_of_wpSIn Tryz.func52 rfl trivial fun c₀ cs hu=>?_;apply wpSIn_seq;apply wpSIn_region;simp[wpOpsSIn,go_sem,recoverD,hu,Tryz.ntmps52,Exit.thenS,Array.range];apply wpSIn_seq;apply wpSIn_region;simp[wpOpsSIn,go_sem,Tryz.ntmps52,Exit.thenS];refine wpSIn_cond (t:=false) (by simp[Act.eval,Array.replicate]) ?_;simp only[Bool.false_eq_true,if_false];refine wpSIn_of_wpIn rfl (wpIn_skip ?_);cases c₀
  simp_all [bodyPostS,results,Tryz.results52]
end Go.Proofs.YthemnhjojaehhaaGreatDoor
namespace Go.Proofs.YthemnhjojaehhaaGreatDoor
open Go.Ad Go.Proofs Go.Tp
attribute [local irreducible] A8 AK BY Go.Ad.Pure BS pq
theorem nn{P:Program}{n B:Nat}{w0:AT}{ops:Array Oper}{K:St→Prop}{l:List Oper}{st:St}(h: ∀K':St→Prop,(∀s,K s→K' s)→AK P n B w0 ops K' l st):AK P n B w0 ops K l st:=h _ fun _ h=>h
section
variable(full:List Tk)(en:Int)(BF:full.length≤2000)
include BF
set_option maxHeartbeats 8000000 in
theorem dV{k1:Int}{ts r:List Tk}{e:Nd}(h:F6 54 full en [] (⟨k1,S6⟩::ts) e r):F6 25 full en [] (⟨k1,S6⟩::ts) e r:=by
 intro k E5 hk;obtain⟨d1,Ak,hF⟩:=h k E5 hk;refine⟨d1,Ak,?_⟩;generalize full.length - r.length=m at*;have e1:=Cq full k en _ _ hk;have q0:decide (S6=⟨#[102,97,99,116]⟩)=true:=Zd
 refine FO 22 [.cell 2 27] Tryz.func25 Tryz.ntmps25 fun B w0 Y R Am Az hY AQ AW Aj hR=>?_;have AB:=NA AW AQ 2 3
 refine AI ⟨[(2,.p 2 0)],(2,.box 27 (.AF (A1 e)))::(CO full m en++Y)⟩ ER ?_;repeat'(first|exact tT|refine WA tT (Y2 q0 AB) ?_ ?_|(refine EA e1 (Y2 q0 AB) ?_;clear e1)|(refine EA hF (Y2 q0 AB) ?_;clear hF)|(refine HE ?_;clear hK K)|refine WR fun K hK=>?_|refine HT ?_|refine WC (fun h=>?_) fun h=>?_|exact ff|fail)
 all_goals first|omega|(exact LV)
set_option maxHeartbeats 8000000 in
theorem dW{k1:Int}{ts r:List Tk}{e:Nd}(h:F6 54 full en [] (⟨k1,Qr⟩::ts) e r):F6 25 full en [] (⟨k1,Qr⟩::ts) e r:=by
 intro k E5 hk;obtain⟨d1,Ak,hF⟩:=h k E5 hk;refine⟨d1,Ak,?_⟩;generalize full.length - r.length=m at*;have e1:=Cq full k en _ _ hk;have q0:decide (Qr=⟨#[102,97,99,116]⟩)=false:=Zd
 have q1:decide (Qr=⟨#[108,105,110,101]⟩)=true:=Zd
 refine FO 22 [.cell 2 27] Tryz.func25 Tryz.ntmps25 fun B w0 Y R Am Az hY AQ AW Aj hR=>?_;have AB:=NA AW AQ 2 3
 refine AI ⟨[(2,.p 2 0)],(2,.box 27 (.AF (A1 e)))::(CO full m en++Y)⟩ ER ?_;repeat'(first|exact tT|refine WA tT (Y3 q0 q1 AB) ?_ ?_|(refine EA e1 (Y3 q0 q1 AB) ?_;clear e1)|(refine EA hF (Y3 q0 q1 AB) ?_;clear hF)|(refine HE ?_;clear hK K)|refine WR fun K hK=>?_|refine HT ?_|refine WC (fun h=>?_) fun h=>?_|exact ff|fail)
 all_goals first|omega|(exact LV)
set_option maxHeartbeats 8000000 in
theorem jk{k1:Int}{ts r:List Tk}{e:Nd}(h:F6 55 full en [] (⟨k1,Gj⟩::ts) e r):F6 25 full en [] (⟨k1,Gj⟩::ts) e r:=by
 intro k E5 hk;obtain⟨d1,Ak,hF⟩:=h k E5 hk;refine⟨d1,Ak,?_⟩;generalize full.length - r.length=m at*;have e1:=Cq full k en _ _ hk;have q0:decide (Gj=⟨#[102,97,99,116]⟩)=false:=Zd
 have q1:decide (Gj=⟨#[108,105,110,101]⟩)=false:=Zd
 have q2:decide (Gj=⟨#[97,114,116,105,99,108,101]⟩)=true:=Zd
 refine FO 22 [.cell 2 27] Tryz.func25 Tryz.ntmps25 fun B w0 Y R Am Az hY AQ AW Aj hR=>?_;have AB:=NA AW AQ 2 3
 refine AI ⟨[(2,.p 2 0)],(2,.box 27 (.AF (A1 e)))::(CO full m en++Y)⟩ ER ?_;repeat'(first|exact tT|refine WA tT (Y4 q0 q1 q2 AB) ?_ ?_|(refine EA e1 (Y4 q0 q1 q2 AB) ?_;clear e1)|(refine EA hF (Y4 q0 q1 q2 AB) ?_;clear hF)|(refine HE ?_;clear hK K)|refine WR fun K hK=>?_|refine HT ?_|refine WC (fun h=>?_) fun h=>?_|exact ff|fail)
 all_goals first|omega|(exact LV)
theorem jl{ts r:List Tk}{e:Nd}(h:LY ts e r)(Ae:Cz e):F6 25 full en [] ts e r:=by
 cases h with
 |fact ht hu=>exact dV full en BF (nW full en BF ht hu)
 |line ht hu hv=>exact dW full en BF (nX full en BF ht hu hv)
 |va ha ht hh hc CB h7 h8=>exact jk full en BF (Yx full en BF ha ht hh hc CB h7 h8 Ae)
theorem sJ{ts r:List Tk}{e:Nd}(h:F6 25 full en [] ts e r)(k:Nat)(E5:k≤full.length)(hk:full.drop k=ts):
  Uh Tryz.prog T 24 [.f (.yield 25) [.p 1000 0]] (CO full k en) (.t [.a (A1 e),.a [AE 0,AE 0],BL true]) (CO full (full.length - r.length) en):=by
 obtain⟨_,_,hF⟩:=h k E5 hk;generalize full.length - r.length=m at*;refine⟨_,_,Tryz.func24,rfl,rfl,Zd,Zd,fun B w0 Y R Am Az N4 hY hR=>?_⟩;have AQ: ∀d,d<1000→AJ d Y=Y:=fun d hd=>hY.kill Zo;have Aj:P4 1000 Y:=hY.ge Zo;have AB:BD 1000 Y=Y∧AJ 2 Y=Y∧AJ 3 Y=Y∧AJ 4 Y=Y:=⟨hY.B2 Zo,AQ 2 Zd,AQ 3 Zd,AQ 4 Zd⟩;rw[Tryz.ntmps24,show Tryz.f24.results.toList= [.cell 2 27,.cell 3 59,.cell 4 4]from rfl];refine sI (l1:= [_]) (o:=_) (x:=.tmp 5) (fd:=52) (caps:= [.p 2 0,.p 3 0,.p 4 0]) rfl rfl rfl Az N4 (fun us fP=>dU us fP) ?_;repeat'(first|exact tT|refine WA tT AB ?_ ?_|(refine HE ?_;clear hK K)|refine WR fun K hK=>?_|refine HT ?_|refine WC (fun h=>?_) fun h=>?_|exact ff|fail)
 refine nn fun K hK=>?_;repeat'(first|exact tT|refine WA tT AB ?_ ?_|(refine HE ?_;clear hK K)|refine WR fun K hK=>?_|refine HT ?_|refine WC (fun h=>?_) fun h=>?_|fail)
 refine fun w1 qI VF=>?_;have Am:CW w1.gh:=by rw[qI];exact Am
 refine AI ⟨[(2,.p 2 0),(3,.p 3 0),(4,.p 4 0)],[(2,.box 27 (.AF (A1 e))),(3,.box 59 (.AF [AE 0,AE 0])),(4,.box 4 (.AF [BL true]))]++(CO full m en++Y)⟩ ER ?_;repeat'(first|exact tT|refine WA tT AB ?_ ?_|(refine EA hF AB ?_;clear hF)|(refine HE ?_;clear hK K)|refine WR fun K hK=>?_|refine HT ?_|refine WC (fun h=>?_) fun h=>?_|exact ff|fail)
 all_goals first|omega|exact G.Al (AA Ai) Au
end
end Go.Proofs.YthemnhjojaehhaaGreatDoor
