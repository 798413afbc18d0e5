/- Proved: Rows.TopPrintCompilesCardSaid, the tied card of wageofficetop.TopPrintCompiles: the law returns true for every tree and leaves it as it was, the listed package-level variables holding what the program's text lays. No condition beyond the statement's own. The card ties the listed variables to the pruned copy of the project. -/
import Derived.Test.YthemnhjojaehhaaGreatDoorCards
import Derived.Test.YthemnhjojaehhaaGreatDoorTie
import Derived.Deep.DeepHandedRow
import Derived.LaidMore
import Derived.LaidHandle
import Derived.LaidLaws
import Derived.Deep.DeepLaidRun
import Derived.Test.YthemnhjojaehhaaGreatDoorA52
set_option linter.all false
namespace Go.Proofs.YthemnhjojaehhaaGreatDoor.topPrintCompiles
open Go.Ad Go.Tp Go.Proofs.YthemnhjojaehhaaGreatDoor
open Go.ChangeShapes Go.WideShapes Go.ChangeAt Go.RowKit
theorem own:ownKnob Tryz.prog.godebug=none:=by kernel_rfl
theorem laidOut:laidOutB Tryz.prog=true:=by kernel_rfl
set_option maxRecDepth 100000 in
theorem walk{H:Type}{enc:TypeId×Value→H}{W:World}{base:Nat}{v0:Value}{d0:DataW H}{p0:List MemPlace}(k0:Value.okWide Tryz.prog W .any base 27 v0)(h0:DataW.Trod enc Tryz.prog W 0 (fun _=>true) true 27 v0 d0 p0)(hg:Xt (Go.Ad.G4 W) W):
  Calls Tryz.prog 3 #[v0] W fun e w'=>e=.returned (.bool true)∧Below W.heap.size W w':=by
 obtain⟨u0,rfl⟩:=Go.Ad.okWide_struct Tryz.underlying27 k0;obtain⟨a0,w0,e0⟩:=Reads.agg rN h0;exact Pure.walk (s9 wK a0 w0) hg (At.cons e0 At.nil)
set_option maxRecDepth 100000 in
theorem contract(H:Type)(enc:TypeId×Value→H)(W:World)(base:Nat)(args:Array Value)(ds gs:List (DataW H))(before:List MemPlace)
  (x5: ∀(j:Nat) t v,Tryz.f3.params[j]? =some t→args[j]? =some v→Value.okWide Tryz.prog W .any base t v)
  (hW:DataW.Whole enc Tryz.prog Tryz.f3.params.toList Rows.topPrintCompilesSpec.vars false W args.toList ds gs before) (hL:laidMetH Tryz.prog Rows.topPrintCompilesRow.laid W) (hs:W.ShapedOpen Tryz.prog):
  Calls Tryz.prog 3 args W fun e W'=> ∃v,e=.returned v∧Rows.topPrintCompilesSpec.post enc Tryz.prog Tryz.f3 false true false false W args v W':=by
 have F2:=x5;have hW':=hW;obtain⟨p,q,yQ,hV,rfl,hfz,bI⟩:=hW;have hA:DataW.TrodAll enc Tryz.prog W 0 (fun _=>true) true Tryz.f3.params.toList args.toList ds p:=yQ;rw[Tryz.params3]at hA F2;obtain⟨v0,vs0,d0,ds0,p0,q0,DM,rfl,rfl,h0,r0⟩:=trodAll_cons hA;obtain⟨rfl,rfl,rfl⟩:=trodAll_nil r0;obtain rfl:args= #[v0]:=by cases args;simp_all
 obtain⟨rfl,rfl⟩:=trodVars_none hV;have lt0: ∀x∈p0,x.block<W.heap.size:=by obtain⟨m,hm⟩:=h0;exact DataW.trod_lt m _ _ _ hm
 refine(walk (F2 0 27 v0 rfl rfl) h0 (wgi hL hs)).mono fun e W' ⟨he,bel⟩=>?_;subst he;exact⟨_,rfl,_,_,_,[],_,[],hW',trodAll_mk1 (shut_bool Tryz.underlying4 _),(trodAll_cons_mk (Below.trod laidOut (by kernel_rfl) (of_decide_eq_true (by kernel_rfl)) h0 bel lt0) trodAll_mk0),rfl,bel.frame _,fun h=>by cases h⟩
abbrev mkW(w:World):World:= {w with heap:=w.heap.modify 12 fun
   | .cells _ t frozen=>.cells (Go.Pinned.utf8FirstZ.map fun(z:Nat)=>Value.int .u8 (Int.ofNat z)).toArray t frozen
   |o=>o}
abbrev node0:Value:=.agg #[.int .i64 0,.string ⟨#[]⟩,.string ⟨#[]⟩,.int .i64 0,.int .i64 0,.int .i64 0,.int .i64 0,.int .i64 0,.slice none 0 0,.slice none 0 0,.int .i64 0]
abbrev mkC(w:World):World:=(mkW w).forCall (fun _ _=>0) ⟨#[],#[node0],[]⟩
abbrev ll:List (String×DataW Unit):=Rows.topPrintCompilesRow.laid.filter fun x=>x.2.handleName?.isNone
theorem lm1(os:Os):(DataW.laidRun Tryz.prog (mkC (World.doorLaid Tryz.prog 400 os)).memory 8 (ll.map (·.1))).map (·.1)=some ll:=by kernel_rfl
theorem lm2(os:Os):(DataW.laidRun Tryz.prog (mkC (World.doorLaid Tryz.prog 400 os)).memory 8 (ll.map (·.1))).map (fun x=>nodupB (x.2.map MemPlace.codeOf))=some true:=by kernel_rfl
theorem lm3(os:Os):(DataW.laidRun Tryz.prog (mkC (World.doorLaid Tryz.prog 400 os)).memory 8 (ll.map (·.1))).map (fun x=>laidRowsB Tryz.prog (mkC (World.doorLaid Tryz.prog 400 os)).memory x.2)=some true:=by kernel_rfl
theorem laid_met(os:Os):laidMetH Tryz.prog Rows.topPrintCompilesRow.laid (mkC (World.doorLaid Tryz.prog 400 os)).memory:=
 laidMetH_of_parts3 (fuel:=8) (laidMet_of_run3 8 (lm1 os) (lm2 os) (lm3 os)) (by kernel_rfl) (by kernel_rfl)
theorem shaped(os:Os):(mkC (World.doorLaid Tryz.prog 400 os)).Shaped Tryz.prog:=World.shaped_of_RefB (by kernel_rfl) (by kernel_rfl)
theorem reads(os:Os){H:Type}(enc:TypeId×Value→H):(OpenSpec.ofChange Rows.topPrintCompilesSpec).preRow enc Tryz.prog Tryz.f3 Rows.topPrintCompilesRow.domain false Rows.topPrintCompilesRow.laid (mkC (World.doorLaid Tryz.prog 400 os)).memory #[node0]:=
 OpenSpec.preRow_of_cond (x:=([.agg [.lit (.int .i64 0),.lit (.string []),.lit (.string []),.lit (.int .i64 0),.lit (.int .i64 0),.lit (.int .i64 0),.lit (.int .i64 0),.agg [.lit (.int .i64 0),.nil],.nil,.lit (.int .i64 0)]],[],[])) 8 (by kernel_rfl) (by kernel_rfl) (fun k hk=>by cases hk) (by kernel_rfl) (laid_met os)
theorem okIn(os:Os):Input.okWideB Tryz.prog (mkC (World.doorLaid Tryz.prog 400 os)) 3 ⟨#[],#[node0],[]⟩=true:=by kernel_rfl
set_option maxRecDepth 100000 in
theorem lifted(os:Os)(started:os.Started)(H:Type)(enc:TypeId×Value→H)(F:Stop.Interp):
  ReturnsInHanded {} Tryz.checked os 3 .any ((OpenSpec.ofChange Rows.topPrintCompilesSpec).preRow enc Tryz.prog Tryz.f3 Rows.topPrintCompilesRow.domain false Rows.topPrintCompilesRow.laid) (((OpenSpec.ofChange Rows.topPrintCompilesSpec).at F).post enc Tryz.prog Tryz.f3 false true false false):=by
 refine returnsInHanded_of_row (C:=Tryz.checked) (s:=OpenSpec.ofChange Rows.topPrintCompilesSpec) own started (by kernel_rfl) Tryz.func3
  ⟨mkW (World.doorLaid Tryz.prog 400 os),fun _ _=>0,⟨#[],#[node0],[]⟩,rfl,shaped os,(Input.okWide_of_okWideB (base:=0) (okIn os)).1,(Input.okWide_of_okWideB (okIn os)).2,reads os enc,by
   simp only[Assume.holds];exact⟨by simp,by simp,fun _=>Modest.zero,by simp,by simp⟩⟩ ?_
 intro W base args ds gs before F2 hW _ _ _ hL hs _;exact contract H enc W base args ds gs before F2 hW hL hs
theorem said:Rows.TopPrintCompilesSaid:=
 OpenClaim.holds_of_cond 3 Tryz.f3 rfl rfl rfl rfl rfl rfl rfl ⟨rfl,rfl,rfl,rfl,rfl⟩ rfl rfl rfl rfl rfl (by kernel_rfl) Tryz.func3 (by kernel_rfl)
  (of_decide_eq_true (by kernel_rfl)) (by unfold Func.isWrapper;first|(rw[if_pos (by decide+kernel)];kernel_rfl)|(rw[if_neg (by decide+kernel)];exact⟨rfl,rfl⟩))
  (fun os started H enc _ F=>by rw[OpenClaim.pre_eq_preRow];exact lifted os started H enc F)
theorem plain(f:FuncId)(fn:Func)(hf:Tryz.pinned.checked.prog.funcNamed "wageoffice/wageofficetop.TopPrintCompiles" =some f)(hfn:Tryz.pinned.checked.prog.funcs[f]? =some fn):
  true=Tryz.pinned.checked.prog.looks []∧ ∀(j:Nat) t,fn.params[j]? =some t→Tryz.pinned.checked.prog.wantsStandIn t=false:=by
 obtain rfl:f=3:=Option.some.inj ((show Tryz.prog.funcNamed "wageoffice/wageofficetop.TopPrintCompiles" =some 3 by kernel_rfl).symm.trans hf)|>.symm;obtain rfl:fn=Tryz.f3:=(Option.some.inj (Tryz.func3.symm.trans hfn)).symm;refine⟨by kernel_rfl,fun j t ht=>?_⟩;rw[Tryz.params3]at ht;obtain rfl:t=27:=by simpa using Array.mem_of_getElem? ht
 exact(show Tryz.prog.wantsStandIn 27=false by kernel_rfl)
theorem proved:Rows.TopPrintCompilesCardSaid:=
 Claim7.holds_tied_plain_at .later [] _ _ _ _ said (fun _ h=>by cases h) (by kernel_rfl) (fun _ h=>by cases h) topPrintCompiles_row_tie rfl ⟨rfl,rfl⟩ (by kernel_rfl) rfl plain (by kernel_rfl)
#print axioms proved
end Go.Proofs.YthemnhjojaehhaaGreatDoor.topPrintCompiles
