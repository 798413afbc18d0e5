/- Part of a proof. -/
import Derived.Test.YthemnhjojaehhaaGreatDoorRows
import Derived.ChangeArms
import Derived.FnData
import Derived.MakeChecks
import Derived.Clock
import Derived.Test.YthemnhjojaehhaaGreatDoorA51
set_option linter.all false
namespace Go.Proofs.YthemnhjojaehhaaGreatDoor
open Go.Ad Go.Tp
theorem ZN{P:Program}{w:World}{r:Reach}{b:Nat}{t:TypeId}{v:Value}(ht:P.underlying t=some (.int .i64))(h:Cell.ok P w r b t v): ∃n,v=.int .i64 n:=by
 unfold Cell.ok at h;rw[ht]at h;split at h;all_goals first|contradiction|exact h.elim|skip
 all_goals rename_i e
 all_goals (try cases e)
 all_goals first|exact⟨_,by rw[h.1]⟩|exact h.elim
theorem kZ{w:World}{g:Nat}{t:TypeId}{cs:Array Value}{v:Value}{z:Nat×Nat}(h:w.heap[g]? =some (.cells cs t z))(hv:cs[0]? =some v):w.cell? ⟨g,0,none⟩=some v:=by simp[World.cell?,h,hv]
theorem bH{P:Program}{w:World}: ∀ {l:List (String×DataW Unit)} {ps:List MemPlace},DataW.LaidVars P w l ps→ ∀ {n:String} {d:DataW Unit},(n,d)∈l→
  ∃g t cs fuel p,P.globalNamed n=some g∧(P.globals[g]?).map (·.type)=some t∧w.var? P n=some cs∧DataW.trod (fun _=>()) P w 0 (fun _=>true) false fuel t cs.toList=some (d,p)
 | [],_,_,_,_,h=>by cases h
 |(m,e)::r,ps,hl,n,d,h=>by
  obtain⟨g,t,cs,fuel,p,q,h1,h2,h3,h4,h5,_⟩:=hl;rcases List.mem_cons.1 h with h|h
  ·injection h with ha hb;subst ha;subst hb;exact⟨g,t,cs,fuel,p,h1,h2,h3,h4⟩
  ·exact bH h5 h
theorem TT{α:Type}{V:α→List Value}{c:Nat}: ∀ {zs:List α} {cs:List Value},cs.length=zs.length*c→(∀i a,zs[i]? =some a→(cs.drop (i*c)).take c=V a)→cs=zs.flatMap V
 | [],cs,hl,_=>by simpa using hl
 |a::r,cs,hl,h=>by
  have h0:=h 0 a rfl;rw[Nat.zero_mul,List.drop_zero]at h0
  have hr:=TT (zs:=r) (cs:=cs.drop c) (V:=V) (c:=c) (by rw[List.length_drop,hl];simp[Nat.add_mul]) fun i b hb=>by
   have:=h (i+1) b (by simpa using hb);rw[List.drop_drop];rw[Nat.add_mul,Nat.one_mul,Nat.add_comm]at this;exact this
  rw[List.flatMap_cons,←h0,←hr,List.take_append_drop]
theorem Ey{H:Type}{enc:TypeId×Value→H}{P:Program}{w:World}{base:Nat}{sp:Nat→Bool}{held:Bool}{t e n c:Nat}{α:Type}{R:α→DataW H}{V:α→List Value}
  (ht:P.underlying t=some (.array n e)) (hce:P.cellsOf e=c) (hct:P.cellsOf t=n*c) (RX: ∀a fuel cs p,DataW.trod enc P w base sp held fuel e cs=some (R a,p)→cs=V a)
  (zs:List α) (fuel:Nat) (cs:List Value) (p:List MemPlace) (h:DataW.trod enc P w base sp held fuel t cs=some (.agg (zs.map R),p)):cs=zs.flatMap V:=by
 obtain⟨xs,m,rfl,hx,hlen,hn,hi⟩:=DataW.trod_array ht h;simp only[Prod.mk.injEq,DataW.agg.injEq]at hx;have uT:zs.length=n:=by rw[←hn];have:=congrArg List.length hx.1;simpa using this
 refine TT (by rw[hlen,hct,uT]) fun i a ha=>?_;have JO:i<n:=by rw[←uT];exact(List.getElem?_eq_some_iff.1 ha).1
 have h1:=hi i JO;rw[hce]at h1;have h2:xs[i]? =some xs[i]:=Zeg Zo;have h3:(xs.map (·.1))[i]? =some (R a):=by rw[←hx.1];simp[ha]
 rw[List.getElem?_map,h2]at h3;injection h3 with h3;rw[h2]at h1;refine RX a m _ xs[i].2 ?_;rw[h1,←h3]
theorem K8{H:Type}{enc:TypeId×Value→H}{P:Program}{w:World}{base:Nat}{sp:Nat→Bool}{held:Bool}{e:TypeId}{k:IntKind}(he:P.underlying e=some (.int k))(z:Int)(fuel:Nat)(cs:List Value)(p:List MemPlace)
  (h:DataW.trod enc P w base sp held fuel e cs=some (.lit (.int k z),p)):cs= [.int k z]:=by
 obtain⟨n,h1,h2,_⟩:=DataW.trod_int he h;injection h2 with h2;injection h2 with h2;injection h2 with _ h2;rw[h1,h2]
theorem N0{H:Type}{enc:TypeId×Value→H}{P:Program}{w:World}{base:Nat}{sp:Nat→Bool}{held:Bool}{e:TypeId}(he:P.underlying e=some .string)(s:ByteArray)(fuel:Nat)(cs:List Value)(p:List MemPlace)
  (h:DataW.trod enc P w base sp held fuel e cs=some (.lit (.string s.data.toList),p)):cs= [.string s]:=by
 obtain⟨n,h1,h2,_⟩:=DataW.trod_string he h;injection h2 with h2;injection h2 with h2;injection h2 with h2
 have:s=n:=by cases s;cases n;simp only[ByteArray.mk.injEq];exact Array.toList_inj.1 h2
 rw[h1,this]
theorem tE{P:Program}{w:World}{n:String}{g:Nat}{cs:Array Value}{c:GC}(hg:P.globalNamed n=some g)(hv:w.var? P n=some cs)(hc:cs.toList=(List.range c.len).map c.at):
  (∀i,i<c.len→w.cell? ⟨g,i,none⟩=some (c.at i))∧ ∃us t z,w.heap[g]? =some (.cells us t z)∧us.size=c.len:=by
 have Bh:cs.size=c.len:=by rw[←Array.length_toList,hc];simp
 refine⟨fun i hi=>?_,?_⟩
 ·rw[World.var?_cell hg hv i,←Array.getElem?_toList,hc,List.getElem?_map,List.getElem?_range hi];rfl
 ·simp only[World.var?,hg,Option.bind_some]at hv;split at hv
  ·rename_i us t z he;injection hv with hv;subst hv
   exact⟨_,_,_,he,Bh⟩
  ·cases hv
section
variable{W:World}{ps:List MemPlace}(h:DataW.LaidVars Tryz.prog W Rows.topPrintCompilesRow.laid ps)
include h
theorem RF{n:String}{d:DataW Unit}{g t:Nat}{c:GC}(pP:(n,d)∈Rows.topPrintCompilesRow.laid)(hg:Tryz.prog.globalNamed n=some g)(ZO:(Tryz.prog.globals[g]?).map (·.type)=some t)
  (hx: ∀fuel cs p,DataW.trod (fun _=>()) Tryz.prog W 0 (fun _=>true) false fuel t cs=some (d,p)→cs=(List.range c.len).map c.at):
  (∀i,i<c.len→W.cell? ⟨g,i,none⟩=some (c.at i))∧ ∃us t z,W.heap[g]? =some (.cells us t z)∧us.size=c.len:=by
 obtain⟨g',t',cs,fuel,p,h1,h2,h3,h4⟩:=bH h pP;obtain rfl:=Option.some.inj (hg.symm.trans h1);obtain rfl:=Option.some.inj (ZO.symm.trans h2);exact tE hg h3 (hx fuel cs.toList p h4)
end
theorem eS{W:World}(h:laidMetH Tryz.prog Rows.topPrintCompilesRow.laid W): ∃ps,DataW.LaidVars Tryz.prog W Rows.topPrintCompilesRow.laid ps:=by
 rw[MakeChecks.laidMetH_plain _ _ _ Zk]at h;obtain⟨ps,h1,_⟩:=h;exact⟨ps,h1⟩
abbrev eT{H:Type}(k:IntKind)(z:Int):DataW H:=.lit (.int k z)
abbrev om{H:Type}(s:ByteArray):DataW H:=.lit (.string s.data.toList)
theorem g0{W:World}{ps:List MemPlace}(h:DataW.LaidVars Tryz.prog W Rows.topPrintCompilesRow.laid ps):(∀i,i<(GC.ints .i64 12 ID).len→W.cell? ⟨0,i,none⟩=some ((GC.ints .i64 12 ID).at i))∧ ∃us t z,W.heap[0]? =some (.cells us t z)∧us.size=(GC.ints .i64 12 ID).len:=
 RF h (n:= "wageoffice/printer.places") (d:=.agg (([[0,1],[1,2],[2,2],[4,4],[4,5],[5,6]]:List (List Int)).map fun r=>.agg (r.map (eT .i64)))) (t:=160) (by simp[Rows.topPrintCompilesRow,Rows.laid_wageoffice_printer_places]) Zk Zk fun fuel cs p hx=>
  (Ey (V:=fun r=>r.flatMap fun z=> [.int .i64 z]) (n:=6) (c:=2) Tryz.underlying160 Zk Zk (fun r f c q hq=>Ey (V:=fun z=> [.int .i64 z]) (n:=2) (c:=1) Tryz.underlying159 Zk Zk (K8 Tryz.underlying3) r f c q hq) _ fuel cs p hx).trans Zk
theorem g1{W:World}{ps:List MemPlace}(h:DataW.LaidVars Tryz.prog W Rows.topPrintCompilesRow.laid ps):(∀i,i<(GC.strs 17 Bi).len→W.cell? ⟨1,i,none⟩=some ((GC.strs 17 Bi).at i))∧ ∃us t z,W.heap[1]? =some (.cells us t z)∧us.size=(GC.strs 17 Bi).len:=
 RF h (n:= "wageoffice/lexer.symbols") (d:=.agg (Bi.map om)) (t:=165) (by simp[Rows.topPrintCompilesRow,Rows.laid_wageoffice_lexer_symbols,Bi,bA]) Zk Zk fun fuel cs p hx=>
  (Ey (V:=fun z=> [.string z]) (n:=17) (c:=1) Tryz.underlying165 Zk Zk (N0 Tryz.underlying9) _ fuel cs p hx).trans Zk
theorem g2{W:World}{ps:List MemPlace}(h:DataW.LaidVars Tryz.prog W Rows.topPrintCompilesRow.laid ps):(∀i,i<(GC.strs 5 Dd).len→W.cell? ⟨2,i,none⟩=some ((GC.strs 5 Dd).at i))∧ ∃us t z,W.heap[2]? =some (.cells us t z)∧us.size=(GC.strs 5 Dd).len:=
 RF h (n:= "wageoffice/parser.roles") (d:=.agg (Dd.map om)) (t:=166) (by simp[Rows.topPrintCompilesRow,Rows.laid_wageoffice_parser_roles,Dd,bA]) Zk Zk fun fuel cs p hx=>
  (Ey (V:=fun z=> [.string z]) (n:=5) (c:=1) Tryz.underlying166 Zk Zk (N0 Tryz.underlying9) _ fuel cs p hx).trans Zk
theorem g3{W:World}{ps:List MemPlace}(h:DataW.LaidVars Tryz.prog W Rows.topPrintCompilesRow.laid ps):(∀i,i<(GC.ints .i64 13 Dw).len→W.cell? ⟨3,i,none⟩=some ((GC.ints .i64 13 Dw).at i))∧ ∃us t z,W.heap[3]? =some (.cells us t z)∧us.size=(GC.ints .i64 13 Dw).len:=
 RF h (n:= "wageoffice/calendar.before") (d:=.agg (Dw.map (eT .i64))) (t:=182) (by simp[Rows.topPrintCompilesRow,Rows.laid_wageoffice_calendar_before,Dw]) Zk Zk fun fuel cs p hx=>
  (Ey (V:=fun z=> [.int .i64 z]) (n:=13) (c:=1) Tryz.underlying182 Zk Zk (K8 Tryz.underlying3) _ fuel cs p hx).trans Zk
theorem g4{W:World}{ps:List MemPlace}(h:DataW.LaidVars Tryz.prog W Rows.topPrintCompilesRow.laid ps):(∀i,i<(GC.ints .u8 128 HV).len→W.cell? ⟨4,i,none⟩=some ((GC.ints .u8 128 HV).at i))∧ ∃us t z,W.heap[4]? =some (.cells us t z)∧us.size=(GC.ints .u8 128 HV).len:=
 RF h (n:= "wageoffice/lexer.classes") (d:=.agg (HV.map (eT .u8))) (t:=184) (by
  rw[show(.agg (HV.map (eT .u8)):DataW Unit)=Rows.laid_wageoffice_lexer_classes by kernel_rfl];simp[Rows.topPrintCompilesRow]) Zk Zk fun fuel cs p hx=>
  (Ey (V:=fun z=> [.int .u8 z]) (n:=128) (c:=1) Tryz.underlying184 Zk Zk (K8 Tryz.underlying5) _ fuel cs p hx).trans Zk
theorem g5{W:World}{ps:List MemPlace}(h:DataW.LaidVars Tryz.prog W Rows.topPrintCompilesRow.laid ps):(∀i,i<(GC.ints .u64 20 J8).len→W.cell? ⟨5,i,none⟩=some ((GC.ints .u64 20 J8).at i))∧ ∃us t z,W.heap[5]? =some (.cells us t z)∧us.size=(GC.ints .u64 20 J8).len:=
 RF h (n:= "internal/strconv.uint64pow10") (d:=.agg (J8.map (eT .u64))) (t:=191) (by
  rw[show(.agg (J8.map (eT .u64)):DataW Unit)=Rows.laid_internal_strconv_uint64pow10 by kernel_rfl];simp[Rows.topPrintCompilesRow]) Zk Zk fun fuel cs p hx=>
  (Ey (V:=fun z=> [.int .u64 z]) (n:=20) (c:=1) Tryz.underlying191 Zk Zk (K8 Zk) _ fuel cs p hx).trans Zk
theorem g6{W:World}{ps:List MemPlace}(h:DataW.LaidVars Tryz.prog W Rows.topPrintCompilesRow.laid ps):(∀i,i<(GC.strs 36 Bw).len→W.cell? ⟨6,i,none⟩=some ((GC.strs 36 Bw).at i))∧ ∃us t z,W.heap[6]? =some (.cells us t z)∧us.size=(GC.strs 36 Bw).len:=
 RF h (n:= "wageoffice/parser.operators") (d:=.agg (((List.range 6).map fun i=>(Bw.drop (6*i)).take 6).map fun r=>.agg (r.map om))) (t:=211) (by
  rw[show(.agg (((List.range 6).map fun i=>(Bw.drop (6*i)).take 6).map fun r=>.agg (r.map om)):DataW Unit)=Rows.laid_wageoffice_parser_operators by kernel_rfl];simp[Rows.topPrintCompilesRow]) Zk Zk fun fuel cs p hx=>
  (Ey (V:=fun r=>r.flatMap fun z=> [.string z]) (n:=6) (c:=6) Tryz.underlying211 Zk Zk (fun r f c q hq=>Ey (V:=fun z=> [.string z]) (n:=6) (c:=1) Tryz.underlying210 Zk Zk (N0 Tryz.underlying9) r f c q hq) _ fuel cs p hx).trans Zk
theorem tF:((begin Tryz.prog (fun _ _=>0) default).world.heap[11]?).bind Obj.row?=some (#[.int .i64 0],3):=Zk
set_option maxRecDepth 100000 in
theorem wgi{W:World}(hL:laidMetH Tryz.prog Rows.topPrintCompilesRow.laid W)(hs:W.ShapedOpen Tryz.prog):Xt (G4 W) W:=by
 obtain⟨ps,h⟩:=eS hL
 have key: ∀g c,Zc g=some c→(∀i,i<c.len→W.cell? ⟨g,i,none⟩=some (c.at i))∧ ∃us t z,W.heap[g]? =some (.cells us t z)∧us.size=c.len:=by
  intro g c hg
  match g,hg with
  |0,hg=>injection hg with hg;subst hg;exact g0 h
  |1,hg=>injection hg with hg;subst hg;exact g1 h
  |2,hg=>injection hg with hg;subst hg;exact g2 h
  |3,hg=>injection hg with hg;subst hg;exact g3 h
  |4,hg=>injection hg with hg;subst hg;exact g4 h
  |5,hg=>injection hg with hg;subst hg;exact g5 h
  |6,hg=>injection hg with hg;subst hg;exact g6 h
  |_+7,hg=>cases hg
 obtain⟨cs,hh,Bh,Ae⟩:=hs.1 11 #[.int .i64 0] 3 (of_decide_eq_true Zk) tF;refine⟨fun g c hg=>⟨?_,(key g c hg).1⟩,fun g c hg=>(key g c hg).2,?_,?_⟩
 ·obtain⟨us,t,z,h1,_⟩:=(key g c hg).2;exact(Array.getElem?_eq_some_iff.1 h1).1
 ·exact(Array.getElem?_eq_some_iff.1 hh).1
 ·have:=Ae Zk;obtain⟨ts,h1,_,h3⟩:=this;rw[show Tryz.prog.cellTypes Tryz.prog.depth 3=some [3] by kernel_rfl]at h1;obtain rfl:=Option.some.inj h1;have h0:0<cs.size:=by rw[Bh];decide
  obtain⟨u,hu,hc⟩:=h3 0 cs[0] (Array.getElem?_eq_getElem h0);obtain rfl:3=u:=by simpa using hu
  obtain⟨m,hm⟩:=ZN Tryz.underlying3 hc;exact⟨m,kZ hh (by rw[←hm];exact Array.getElem?_eq_getElem h0)⟩
end Go.Proofs.YthemnhjojaehhaaGreatDoor
