/- Part of a proof. -/
import Derived.Shelf.Strings.Builder1
import Derived.Shelf.Strconv.Atoi
import Derived.Shelf.LaysM
import Derived.Shelf.Strconv.Itoa3
import Derived.Shelf.Strings.Replace
import Derived.Test.YthemnhjojaehhaaGreatDoorA24
set_option linter.all false
namespace Go.Proofs
open Go.Shelf
def Tryz.WL:Go.Shelf.Ren:=⟨fun|172=>136|244=>148|245=>149|247=>156|279=>157|280=>158|281=>159|282=>160|287=>166|316=>167|171=>47|205=>168|321=>176|322=>177|243=>75|246=>104|283=>127|284=>128|285=>129|286=>130|129=>143|317=>142|318=>144|319=>145|320=>146|337=>154|338=>155|n=>n,fun|9=>9|3=>3|75=>102|76=>103|4=>4|5=>5|167=>202|37=>96|0=>0|85=>203|2=>2|168=>205|53=>177|175=>215|46=>194|210=>219|127=>140|145=>228|143=>226|21=>21|171=>176|173=>180|212=>191|51=>192|20=>20|213=>193|232=>213|233=>214|80=>106|n=>n,fun|15=>9|16=>10|17=>5|18=>7|19=>8|n=>n⟩
theorem Tryz.nB:Go.Proofs.Lays.n172 Tryz.prog Tryz.WL:= {
 mixed:=Zk
 f129:=Tryz.func143.trans (congrArg some Zk)
 f171:=Tryz.func47.trans (congrArg some Zk)
 f172:=Tryz.func136.trans (congrArg some Zk)
 f205:=Tryz.func168.trans (congrArg some Zk)
 f243:=Tryz.func75.trans (congrArg some Zk)
 f244:=Tryz.func148.trans (congrArg some Zk)
 f245:=Tryz.func149.trans (congrArg some Zk)
 f246:=Tryz.func104.trans (congrArg some Zk)
 f247:=Tryz.func156.trans (congrArg some Zk)
 f279:=Tryz.func157.trans (congrArg some Zk)
 f280:=Tryz.func158.trans (congrArg some Zk)
 f281:=Tryz.func159.trans (congrArg some Zk)
 f282:=Tryz.func160.trans (congrArg some Zk)
 f283:=Tryz.func127.trans (congrArg some Zk)
 f284:=Tryz.func128.trans (congrArg some Zk)
 f285:=Tryz.func129.trans (congrArg some Zk)
 f286:=Tryz.func130.trans (congrArg some Zk)
 f287:=Tryz.func166.trans (congrArg some Zk)
 f316:=Tryz.func167.trans (congrArg some Zk)
 f317:=Tryz.func142.trans (congrArg some Zk)
 f318:=Tryz.func144.trans (congrArg some Zk)
 f319:=Tryz.func145.trans (congrArg some Zk)
 f320:=Tryz.func146.trans (congrArg some Zk)
 f321:=Tryz.func176.trans (congrArg some Zk)
 f322:=Tryz.func177.trans (congrArg some Zk)
 f337:=Tryz.func154.trans (congrArg some Zk)
 f338:=Tryz.func155.trans (congrArg some Zk)
 t0:=Tryz.underlying0
 a0:=Tryz.isAgg0
 z0:=Tryz.sizeOf0
 v0:=Tryz.zeroValue0
 t2:=Tryz.underlying2
 a2:=Tryz.isAgg2
 z2:=Tryz.sizeOf2
 v2:=Tryz.zeroValue2
 t3:=Tryz.underlying3
 a3:=Tryz.isAgg3
 z3:=Tryz.sizeOf3
 v3:=Tryz.zeroValue3
 t4:=Tryz.underlying4
 a4:=Tryz.isAgg4
 z4:=Tryz.sizeOf4
 v4:=Tryz.zeroValue4
 t5:=Tryz.underlying5
 a5:=Tryz.isAgg5
 z5:=Tryz.sizeOf5
 v5:=Tryz.zeroValue5
 t9:=Tryz.underlying9
 a9:=Tryz.isAgg9
 z9:=Tryz.sizeOf9
 v9:=Tryz.zeroValue9
 t20:=Tryz.underlying20
 a20:=Tryz.isAgg20
 z20:=Tryz.sizeOf20
 v20:=Tryz.zeroValue20
 t21:=Tryz.underlying21
 a21:=Tryz.isAgg21
 z21:=Tryz.sizeOf21
 v21:=Tryz.zeroValue21
 t37:=Tryz.underlying96
 a37:=Tryz.isAgg96
 z37:=Tryz.sizeOf96
 v37:=Tryz.zeroValue96
 t46:=Tryz.underlying194
 a46:=Tryz.isAgg194
 z46:=Tryz.sizeOf194
 v46:=Tryz.zeroValue194
 t51:=Tryz.underlying192
 a51:=Tryz.isAgg192
 z51:=Tryz.sizeOf192
 v51:=Tryz.zeroValue192
 t53:=Tryz.underlying177
 a53:=Tryz.isAgg177
 z53:=Tryz.sizeOf177
 v53:=Tryz.zeroValue177
 t75:=Tryz.underlying102
 a75:=Tryz.isAgg102
 z75:=Tryz.sizeOf102
 v75:=Tryz.zeroValue102
 t76:=Tryz.underlying103
 a76:=Tryz.isAgg103
 z76:=Tryz.sizeOf103
 v76:=Tryz.zeroValue103
 t85:=Tryz.underlying203
 a85:=Tryz.isAgg203
 z85:=Tryz.sizeOf203
 v85:=Tryz.zeroValue203
 t127:=Tryz.underlying140
 a127:=Tryz.isAgg140
 z127:=Tryz.sizeOf140
 v127:=Tryz.zeroValue140
 t143:=Tryz.underlying226
 a143:=Tryz.isAgg226
 z143:=Tryz.sizeOf226
 v143:=Tryz.zeroValue226
 t145:=Tryz.underlying228
 a145:=Tryz.isAgg228
 z145:=Tryz.sizeOf228
 v145:=Tryz.zeroValue228
 t167:=Tryz.underlying202
 a167:=Tryz.isAgg202
 z167:=Tryz.sizeOf202
 v167:=Tryz.zeroValue202
 t168:=Tryz.underlying205
 a168:=Tryz.isAgg205
 z168:=Tryz.sizeOf205
 v168:=Tryz.zeroValue205
 t171:=Tryz.underlying176
 a171:=Tryz.isAgg176
 z171:=Tryz.sizeOf176
 v171:=Tryz.zeroValue176
 t173:=Tryz.underlying180
 a173:=Tryz.isAgg180
 z173:=Tryz.sizeOf180
 v173:=Tryz.zeroValue180
 t175:=Tryz.underlying215
 a175:=Tryz.isAgg215
 z175:=Tryz.sizeOf215
 v175:=Tryz.zeroValue215
 t210:=Tryz.underlying219
 a210:=Tryz.isAgg219
 z210:=Tryz.sizeOf219
 v210:=Tryz.zeroValue219
 t212:=Tryz.underlying191
 a212:=Tryz.isAgg191
 z212:=Tryz.sizeOf191
 v212:=Tryz.zeroValue191
 t213:=Tryz.underlying193
 a213:=Tryz.isAgg193
 z213:=Tryz.sizeOf193
 t232:=Tryz.underlying213
 a232:=Tryz.isAgg213
 z232:=Tryz.sizeOf213
 v232:=Tryz.zeroValue213
 t233:=Tryz.underlying214
 a233:=Tryz.isAgg214
 z233:=Tryz.sizeOf214
 v233:=Tryz.zeroValue214
 g15:=Zk
 g16:=Zk
 g17:=Zk
 g18:=Zk
 g19:=by kernel_rfl}
open Go.RowKit in
theorem Tryz.strconv_Atoi(s:ByteArray)(n:Int)(hl:s.size≤18)(h:Lib.atoi s.data.toList=some n)(w:World):
  Calls Tryz.prog 136 #[.string s] w fun e w'=>e=.returned (.tuple #[.int .i64 n,.nilIface])∧ ∃t,w'=Lib.bytesWorld w 5 t:=Any.strconv_Atoi Tryz.nB s n hl h w
def Tryz.UI:Go.Shelf.Ren:=⟨fun|171=>47|243=>75|246=>104|283=>127|284=>128|285=>129|286=>130|129=>143|317=>142|318=>144|319=>145|320=>146|337=>154|338=>155|n=>n,fun|3=>3|9=>9|2=>2|4=>4|171=>176|0=>0|53=>177|37=>96|5=>5|173=>180|212=>191|51=>192|20=>20|213=>193|46=>194|232=>213|233=>214|n=>n,fun|17=>5|18=>7|19=>8|n=>n⟩
theorem Tryz.im:Go.Proofs.LaysM.n171 Tryz.prog Tryz.UI:= {
 mixed:=Zk
 f129:=Tryz.func143.trans (congrArg some Zk)
 f171:=Tryz.func47.trans (congrArg some Zk)
 f243:=Tryz.func75.trans (congrArg some Zk)
 f246:=Tryz.func104.trans (congrArg some Zk)
 f283:=Tryz.func127.trans (congrArg some Zk)
 f284:=Tryz.func128.trans (congrArg some Zk)
 f285:=Tryz.func129.trans (congrArg some Zk)
 f286:=Tryz.func130.trans (congrArg some Zk)
 f317:=Tryz.func142.trans (congrArg some Zk)
 f318:=Tryz.func144.trans (congrArg some Zk)
 f319:=Tryz.func145.trans (congrArg some Zk)
 f320:=Tryz.func146.trans (congrArg some Zk)
 f337:=Tryz.func154.trans (congrArg some Zk)
 f338:=Tryz.func155.trans (congrArg some Zk)
 t0:=Tryz.underlying0
 a0:=Tryz.isAgg0
 z0:=Tryz.sizeOf0
 v0:=Tryz.zeroValue0
 t2:=Tryz.underlying2
 a2:=Tryz.isAgg2
 z2:=Tryz.sizeOf2
 v2:=Tryz.zeroValue2
 t3:=Tryz.underlying3
 a3:=Tryz.isAgg3
 z3:=Tryz.sizeOf3
 v3:=Tryz.zeroValue3
 t4:=Tryz.underlying4
 a4:=Tryz.isAgg4
 z4:=Tryz.sizeOf4
 v4:=Tryz.zeroValue4
 t5:=Tryz.underlying5
 a5:=Tryz.isAgg5
 z5:=Tryz.sizeOf5
 v5:=Tryz.zeroValue5
 t9:=Tryz.underlying9
 a9:=Tryz.isAgg9
 z9:=Tryz.sizeOf9
 v9:=Tryz.zeroValue9
 t20:=Tryz.underlying20
 a20:=Tryz.isAgg20
 z20:=Tryz.sizeOf20
 v20:=Tryz.zeroValue20
 t37:=Tryz.underlying96
 a37:=Tryz.isAgg96
 z37:=Tryz.sizeOf96
 v37:=Tryz.zeroValue96
 t46:=Tryz.underlying194
 a46:=Tryz.isAgg194
 z46:=Tryz.sizeOf194
 v46:=Tryz.zeroValue194
 t51:=Tryz.underlying192
 a51:=Tryz.isAgg192
 z51:=Tryz.sizeOf192
 v51:=Tryz.zeroValue192
 t53:=Tryz.underlying177
 a53:=Tryz.isAgg177
 z53:=Tryz.sizeOf177
 v53:=Tryz.zeroValue177
 t171:=Tryz.underlying176
 a171:=Tryz.isAgg176
 z171:=Tryz.sizeOf176
 v171:=Tryz.zeroValue176
 t173:=Tryz.underlying180
 a173:=Tryz.isAgg180
 z173:=Tryz.sizeOf180
 v173:=Tryz.zeroValue180
 t212:=Tryz.underlying191
 a212:=Tryz.isAgg191
 z212:=Tryz.sizeOf191
 v212:=Tryz.zeroValue191
 t213:=Tryz.underlying193
 a213:=Tryz.isAgg193
 z213:=Tryz.sizeOf193
 t232:=Tryz.underlying213
 a232:=Tryz.isAgg213
 z232:=Tryz.sizeOf213
 v232:=Tryz.zeroValue213
 t233:=Tryz.underlying214
 a233:=Tryz.isAgg214
 z233:=Tryz.sizeOf214
 v233:=Tryz.zeroValue214
 g17:=Zk
 g18:=Zk
 g19:=Zk
 i0:=Zk
 i2:=Zk
 i3:=Zk
 i4:=Zk
 i5:=Zk
 i9:=Zk
 i20:=Zk
 i37:=Zk
 i46:=Zk
 i51:=Zk
 i53:=Zk
 i171:=Zk
 i173:=Zk
 i212:=Zk
 i232:=Zk
 i233:=Zk
 m17:=Zk
 m18:=Zk
 m19:=by kernel_rfl}
open Go.RowKit Go.Sort Go.Lib in
theorem Tryz.strconv_Itoa(n:Int)(h0: -9223372036854775808≤n)(h1:n≤9223372036854775807)(w:World)(ZU:Lib.TabIs Tryz.prog w "internal/strconv.uint64pow10" .u64 Lib.pow10Tab):
  Calls Tryz.prog 47 #[.int .i64 n] w fun e w'=>e=.returned (.string ⟨(Lib.itoa n).toArray⟩)∧ ∃k os,w'=grow (w.drewN k) os:=Any.strconv_Itoa Tryz.im n h0 h1 w ZU
def Tryz.OI:Go.Shelf.Ren:=⟨fun|154=>165|138=>172|165=>173|143=>174|166=>45|197=>175|169=>50|195=>179|218=>180|240=>74|241=>181|219=>182|260=>183|276=>103|277=>187|217=>188|225=>189|224=>190|267=>191|266=>194|314=>195|n=>n,fun|9=>9|3=>3|4=>4|72=>98|0=>0|76=>103|105=>223|21=>21|5=>5|70=>95|20=>20|37=>96|75=>102|127=>140|164=>154|46=>194|119=>237|139=>240|138=>239|146=>241|51=>192|80=>106|n=>n,fun|1=>11|3=>12|4=>13|n=>n⟩
theorem Tryz.nC:Go.Proofs.Lays.n154 Tryz.prog Tryz.OI:= {
 mixed:=Zk
 f138:=Tryz.func172.trans (congrArg some Zk)
 f143:=Tryz.func174.trans (congrArg some Zk)
 f154:=Tryz.func165.trans (congrArg some Zk)
 f165:=Tryz.func173.trans (congrArg some Zk)
 f166:=Tryz.func45.trans (congrArg some Zk)
 f169:=Tryz.func50.trans (congrArg some Zk)
 f195:=Tryz.func179.trans (congrArg some Zk)
 f197:=Tryz.func175.trans (congrArg some Zk)
 f217:=Tryz.func188.trans (congrArg some Zk)
 f218:=Tryz.func180.trans (congrArg some Zk)
 f219:=Tryz.func182.trans (congrArg some Zk)
 f224:=Tryz.func190.trans (congrArg some Zk)
 f225:=Tryz.func189.trans (congrArg some Zk)
 f240:=Tryz.func74.trans (congrArg some Zk)
 f241:=Tryz.func181.trans (congrArg some Zk)
 f260:=Tryz.func183.trans (congrArg some Zk)
 f266:=Tryz.func194.trans (congrArg some Zk)
 f267:=Tryz.func191.trans (congrArg some Zk)
 f276:=Tryz.func103.trans (congrArg some Zk)
 f277:=Tryz.func187.trans (congrArg some Zk)
 f314:=Tryz.func195.trans (congrArg some Zk)
 t0:=Tryz.underlying0
 a0:=Tryz.isAgg0
 z0:=Tryz.sizeOf0
 v0:=Tryz.zeroValue0
 t3:=Tryz.underlying3
 a3:=Tryz.isAgg3
 z3:=Tryz.sizeOf3
 v3:=Tryz.zeroValue3
 t4:=Tryz.underlying4
 a4:=Tryz.isAgg4
 z4:=Tryz.sizeOf4
 v4:=Tryz.zeroValue4
 t5:=Tryz.underlying5
 a5:=Tryz.isAgg5
 z5:=Tryz.sizeOf5
 v5:=Tryz.zeroValue5
 t9:=Tryz.underlying9
 a9:=Tryz.isAgg9
 z9:=Tryz.sizeOf9
 v9:=Tryz.zeroValue9
 t20:=Tryz.underlying20
 a20:=Tryz.isAgg20
 z20:=Tryz.sizeOf20
 v20:=Tryz.zeroValue20
 t21:=Tryz.underlying21
 a21:=Tryz.isAgg21
 z21:=Tryz.sizeOf21
 v21:=Tryz.zeroValue21
 t37:=Tryz.underlying96
 a37:=Tryz.isAgg96
 z37:=Tryz.sizeOf96
 v37:=Tryz.zeroValue96
 t46:=Tryz.underlying194
 a46:=Tryz.isAgg194
 z46:=Tryz.sizeOf194
 v46:=Tryz.zeroValue194
 t51:=Tryz.underlying192
 a51:=Tryz.isAgg192
 z51:=Tryz.sizeOf192
 v51:=Tryz.zeroValue192
 t70:=Tryz.underlying95
 a70:=Tryz.isAgg95
 z70:=Tryz.sizeOf95
 v70:=Tryz.zeroValue95
 t72:=Tryz.underlying98
 a72:=Tryz.isAgg98
 z72:=Tryz.sizeOf98
 v72:=Tryz.zeroValue98
 t75:=Tryz.underlying102
 a75:=Tryz.isAgg102
 z75:=Tryz.sizeOf102
 v75:=Tryz.zeroValue102
 t76:=Tryz.underlying103
 a76:=Tryz.isAgg103
 z76:=Tryz.sizeOf103
 v76:=Tryz.zeroValue103
 t105:=Tryz.underlying223
 a105:=Tryz.isAgg223
 z105:=Tryz.sizeOf223
 v105:=Tryz.zeroValue223
 t119:=Tryz.underlying237
 a119:=Tryz.isAgg237
 z119:=Tryz.sizeOf237
 t127:=Tryz.underlying140
 a127:=Tryz.isAgg140
 z127:=Tryz.sizeOf140
 v127:=Tryz.zeroValue140
 t138:=Tryz.underlying239
 a138:=Tryz.isAgg239
 z138:=Tryz.sizeOf239
 v138:=Tryz.zeroValue239
 t139:=Tryz.underlying240
 a139:=Tryz.isAgg240
 z139:=Tryz.sizeOf240
 v139:=Tryz.zeroValue240
 t146:=Tryz.underlying241
 a146:=Tryz.isAgg241
 z146:=Tryz.sizeOf241
 v146:=Tryz.zeroValue241
 t164:=Tryz.underlying154
 a164:=Tryz.isAgg154
 z164:=Tryz.sizeOf154
 v164:=Tryz.zeroValue154
 g1:=Zk
 g3:=Zk
 g4:=by kernel_rfl}
theorem Tryz.Mo:Builder.Extra Tryz.prog Tryz.OI:= {
 sizeBuilder:=Zk
 liesBuilder:=Zk
 t5:=Tryz.underlying5
 a5:=Tryz.isAgg5
 z5:=Tryz.sizeOf5
 v5:=Tryz.zeroValue5
 infoByte:=Zk
 cellsByte:=Zk
 sizeByte:=Zk
 neB5:=by decide}
open Go.RowKit Go.Lib in
theorem Tryz.strings_Replace(s BQ new:ByteArray)(n:Int)(m:Int)(w:World)(hs:s.size<4294967281)(hm:w.cell? ⟨11,0,none⟩=some (.int .i64 m))(h1:1≤BQ.size)(hlen:s.size+Lib.countB s BQ*new.size≤140737488355328):
  Calls Tryz.prog 165 #[.string s,.string BQ,.string new,.int .i64 n] w fun e w'=>
   e=.returned (.string ⟨(Lib.replace s.data.toList BQ.data.toList new.data.toList n).toArray⟩)∧Below w.heap.size w w':=Any.strings_Replace Tryz.nC Tryz.Mo s BQ new n m w hs hm h1 hlen
end Go.Proofs
namespace Go.Proofs.YthemnhjojaehhaaGreatDoor
open Go.Ad Go.Proofs Go.Tp Go.RowKit
theorem nD{I:Nat→Prop}{w:World}(h:Xt I w):Lib.TabIs Tryz.prog w "internal/strconv.uint64pow10" .u64 Lib.pow10Tab:=by
 obtain⟨us,t,z,hh,hl⟩:=h.size 5 _ rfl;have hc:=(h.at_ 5 _ rfl).2;unfold Lib.TabIs World.var?;rw[show Tryz.prog.globalNamed "internal/strconv.uint64pow10" =some 5 by kernel_rfl];simp only[Option.bind_some,hh,Option.some.injEq];have uS:us.size=20:=hl;apply Array.ext
 ·rw[uS];rfl
 ·intro i h1 h2;have hi:i<20:=Zo
  have:=hc i hi;simp only[World.cell?,hh]at this;have e:us[i]? =some us[i]:=Array.getElem?_eq_getElem h1
  have h3:us[i]=(GC.ints .u64 20 J8).at i:=by
   simpa[e]using this
  have h5:us[i]=_:=h3;rw[h5];have e5:J8=Lib.pow10Tab:=by decide+kernel
  rw[e5];have h4:i<Lib.pow10Tab.length:=by simpa using h2
  simp[GC.at,Zlg,h4]
theorem Qg{f:FuncId}{fn:Func}{vs:List Value}{r:Value}(hf:Tryz.prog.funcs[f]? =some fn)(h1:(fn.name== "runtime.NumGoroutine")=false)(h2:fn.body.isNone=false)
  (h: ∀(w:World) (I:Nat→Prop),Xt I w→Calls Tryz.prog f vs.toArray w fun e w'=>e=.returned r∧Below w.heap.size w w'):Pure Tryz.prog f (vs.map AV.v) (.v r):=by
 refine⟨⟨fn,hf,h1,h2⟩,fun w I us hG hI hc=>?_⟩
 have:us=vs.toArray:=by
  apply Array.ext';have hl:=hc.1;apply List.ext_getElem
  ·simp at hl ⊢;omega
  ·intro j k1 k2;have:=hc.2 j (by simpa using k2);simp only[Zlg]at this;have e1:us.toList[j]? =some us.toList[j]:=Zeg k1;have k3:j<vs.length:=by simpa using k2
   rw[e1]at this;simp[k3]at this;have:=this.Ao;simpa using this
 subst this;exact(h w I hG).mono fun e w' ⟨h1,h2⟩=>⟨r,h1,h2,.v _⟩
theorem nE(n:Int)(h:DA n):Pure Tryz.prog 47 [AE n] (An ⟨(Lib.itoa n).toArray⟩):=by
 refine Qg (vs:= [.int .i64 n]) Tryz.func47 Zk Zk fun w I hG=>?_;refine(Tryz.strconv_Itoa n h.1 h.2 w (nD hG)).mono ?_;rintro e w' ⟨h1,k,os,rfl⟩;exact⟨h1,⟨rfl,rfl,rfl,by show w.heap.size≤(w.heap++os).size;rw[Array.size_append];omega,fun j hj=>by show(w.heap++os)[j]? =_;rw[Array.getElem?_append_left hj]⟩⟩
theorem D6(n:Int)(h0:0≤n)(h:n≤9223372036854775807):Pure Tryz.prog 47 [AE n] (An ⟨(CL n.toNat).toArray⟩):=by
 have:=nE n ⟨Zo,h⟩;rw[show n=((n.toNat:Nat):Int) by omega,ie Zo]at this
 rwa [show((n.toNat:Nat):Int)=n by omega]at this
theorem YZ(s:ByteArray)(hs:s.size≤1000000):Pure Tryz.prog 165 [An s,An ⟨#[46]⟩,An ⟨#[]⟩,AE 1] (An ⟨(Lib.replace s.data.toList [46] [] 1).toArray⟩):=by
 refine Qg (vs:= [.string s,.string ⟨#[46]⟩,.string ⟨#[]⟩,.int .i64 1]) Tryz.func165 Zk Zk fun w I hG=>?_;obtain⟨_,m,hm⟩:=hG.len;exact Tryz.strings_Replace s ⟨#[46]⟩ ⟨#[]⟩ 1 m w Zo hm Zd (by show s.size+_*0≤_;omega)
theorem aF(s:ByteArray)(n:Int)(hl:s.size≤18)(h:Lib.atoi s.data.toList=some n):Pure Tryz.prog 136 [An s] (.t [AE n,.v .nilIface]):=by
 refine(Qg (vs:= [.string s]) (r:=.tuple #[.int .i64 n,.nilIface]) Tryz.func136 Zk Zk fun w I hG=>?_).res ?_
 ·refine(Tryz.strconv_Atoi s n hl h w).mono ?_;rintro e w' ⟨h1,t,rfl⟩;exact⟨h1,⟨rfl,rfl,rfl,by rw[Lib.bytesWorld_size];omega,fun j hj=>Lib.bytesWorld_at_old w 5 t j hj⟩⟩
 ·intro B I w u hu;cases hu with
  |v x=>
   refine .t _ _ rfl fun j hj=>?_
   match j,hj with
   |0,_=>exact .v _
   |1,_=>exact .v _
end Go.Proofs.YthemnhjojaehhaaGreatDoor
namespace Go.Proofs.YthemnhjojaehhaaGreatDoor
open Go.Ad Go.Proofs Go.Tp
attribute [local irreducible] A8 AK BY Go.Ad.Pure BS
def zl(t:List UInt8):List Int:=t.map fun b=>(b.toNat:Int)
theorem Qh(a b:List UInt8):zl (a++b)=zl a++zl b:=List.map_append
theorem Ay(a:List UInt8):(zl a).length=a.length:=List.length_map ..
theorem pb(s:ByteArray):bZ s=zl (bl s):=rfl
theorem Ah(l:List Int)(t:List UInt8)(hs:l.length+t.length≤1000000):BS Tryz.prog T 45 [.p 1000 0,An ⟨t.toArray⟩] (FL l) (nA ⟨t.toArray⟩) (FL (l++zl t)):=Nb l ⟨t.toArray⟩ hs
def Sv(b:Bool):List UInt8:=if b then [116,114,117,101]else [102,97,108,115,101]
theorem nF(b:Bool):Pure Tryz.prog 147 [.v (.bool b)] (An ⟨(Sv b).toArray⟩):=by
 cases b
 ·refine PO 4 [.tmp 2] hT Tryz.func147 Tryz.ntmps147 fun B w0=>?_;repeat'(first|exact tT|refine WA tT tT ?_ ?_|refine WB tT ?_ ?_|(refine PE ?_;clear hK K)|refine WR fun K hK=>?_|refine PT ?_|refine WC (fun h=>?_) fun h=>?_|exact ff|fail)
  all_goals rfl
 ·refine PO 4 [.tmp 2] hT Tryz.func147 Tryz.ntmps147 fun B w0=>?_;repeat'(first|exact tT|refine WA tT tT ?_ ?_|refine WB tT ?_ ?_|(refine PE ?_;clear hK K)|refine WR fun K hK=>?_|refine PT ?_|refine WC (fun h=>?_) fun h=>?_|exact ff|fail)
  all_goals rfl
theorem rW(b:Bool):Pure Tryz.prog 131 [.v (.bool b)] (An ⟨(Sv b).toArray⟩):=by
 have h:=nF b;refine PO 5 [.tmp 2] hT Tryz.func131 Tryz.ntmps131 fun B w0=>?_;repeat'(first|exact tT|refine WA h tT ?_ ?_|refine WB tT ?_ ?_|(refine PE ?_;clear hK K)|refine WR fun K hK=>?_|refine PT ?_|refine WC (fun h=>?_) fun h=>?_|exact ff|fail)
 all_goals rfl
theorem PB(n:Int):Pure Tryz.prog 46 [AE n] (An ⟨(Hn n).toArray⟩):=by
 unfold Hn;by_cases h1:n=1
 ·have q1:(n==1)=true:=by rw[h1];rfl
  rw[if_pos h1];refine PO 10 [.tmp 2] hT Tryz.func46 Tryz.ntmps46 fun B w0=>?_;repeat'(first|exact tT|refine WA tT q1 ?_ ?_|refine WB q1 ?_ ?_|(refine PE ?_;clear hK K)|refine WR fun K hK=>?_|refine PT ?_|refine WC (fun h=>?_) fun h=>?_|exact ff|fail)
  all_goals rfl
 have q1:(n==1)=false:=beq_eq_false_iff_ne.2 h1;rw[if_neg h1];by_cases h2:n=2
 ·have q2:(n==2)=true:=by rw[h2];rfl
  rw[if_pos h2];refine PO 10 [.tmp 2] hT Tryz.func46 Tryz.ntmps46 fun B w0=>?_;repeat'(first|exact tT|refine WA tT (Y2 q1 q2) ?_ ?_|refine WB (Y2 q1 q2) ?_ ?_|(refine PE ?_;clear hK K)|refine WR fun K hK=>?_|refine PT ?_|refine WC (fun h=>?_) fun h=>?_|exact ff|fail)
  all_goals rfl
 have q2:(n==2)=false:=beq_eq_false_iff_ne.2 h2;rw[if_neg h2];by_cases h3:n=3
 ·have q3:(n==3)=true:=by rw[h3];rfl
  rw[if_pos h3];refine PO 10 [.tmp 2] hT Tryz.func46 Tryz.ntmps46 fun B w0=>?_;repeat'(first|exact tT|refine WA tT (Y3 q1 q2 q3) ?_ ?_|refine WB (Y3 q1 q2 q3) ?_ ?_|(refine PE ?_;clear hK K)|refine WR fun K hK=>?_|refine PT ?_|refine WC (fun h=>?_) fun h=>?_|exact ff|fail)
  all_goals rfl
 have q3:(n==3)=false:=beq_eq_false_iff_ne.2 h3;rw[if_neg h3];refine PO 10 [.tmp 2] hT Tryz.func46 Tryz.ntmps46 fun B w0=>?_;repeat'(first|exact tT|refine WA tT (Y3 q1 q2 q3) ?_ ?_|refine WB (Y3 q1 q2 q3) ?_ ?_|(refine PE ?_;clear hK K)|refine WR fun K hK=>?_|refine PT ?_|refine WC (fun h=>?_) fun h=>?_|exact ff|fail)
 all_goals rfl
theorem GW(a b:List UInt8):(⟨a.toArray⟩:ByteArray)++⟨b.toArray⟩=⟨(a++b).toArray⟩:=by
 apply ByteArray.ext;simp[ByteArray.data_append]
theorem DS(t:List UInt8):(⟨t.toArray⟩:ByteArray).size=t.length:=by
 show t.toArray.size=_;simp
theorem WO(m:Nat)(h:m<9223372036854775807):Pure Tryz.prog 47 [AE (m:Int)] (An ⟨(CL m).toArray⟩):=by
 have:=D6 (m:Int) Zo Zo
 rwa [Int.toNat_natCast]at this
theorem WT{m:Nat}(h:m<10):(CL m).length=1:=by
 have h1:=Bn (k:=1) (n:=m) Zo Zo;have h2:=List.length_pos_iff.2 (Lq m);omega
theorem WV{m:Nat}(h:m<100)(h1: ¬m<10):(CL m).length=2:=by
 have:=Hm h;unfold NY at this;rw[if_neg h1]at this;rw[this];rfl
theorem rX{n:Int}(h:n<0):(0 - n).tmod 100=((n.natAbs%100:Nat):Int)∧(0 - n).tdiv 100=((n.natAbs / 100:Nat):Int):=by
 rw[show 0 - n=((n.natAbs:Nat):Int) by omega];exact⟨by rw[Int.tmod_eq_emod_of_nonneg Zo];omega,by rw[Int.tdiv_eq_ediv_of_nonneg Zo];omega⟩
theorem rY{n:Int}(h: ¬n<0):n.tmod 100=((n.natAbs%100:Nat):Int)∧n.tdiv 100=((n.natAbs / 100:Nat):Int):=by
 rw[show n=((n.natAbs:Nat):Int) by omega];simp only[Int.natAbs_natCast];exact⟨by rw[Int.tmod_eq_emod_of_nonneg Zo];omega,by rw[Int.tdiv_eq_ediv_of_nonneg Zo];omega⟩
theorem Ya(n:Int)(h1: -1000000000000000000<n)(h2:n<1000000000000000000):Pure Tryz.prog 132 [AE n] (An ⟨(Tp.Gf n).toArray⟩):=by
 have ia:=WO (n.natAbs%100) Zo;have ib:=WO (n.natAbs / 100) Zo
 have hd:Tp.Gf n=(if n<0 then [45]else [])++(CL (n.natAbs / 100)++46::NY (n.natAbs%100)):=by
  unfold Tp.Gf CZ;split<;>simp
 have On:=Bn (k:=20) (n:=n.natAbs / 100) Zo Zo;have hm:n.natAbs%100<100:=Nat.mod_lt _ Zd;rw[hd];clear hd;by_cases h0:n<0
 ·have q1:decide (n<0)=true:=Zde h0;obtain⟨ea,eb⟩:=rX h0;rw[if_pos h0];unfold NY;by_cases hs:n.natAbs%100<10
  ·have hl:=WT hs;have c1:decide ((((CL (n.natAbs%100)).length:Nat):Int)<2)=true:=by rw[hl];rfl
   rw[if_pos hs];generalize yR:CL (n.natAbs%100)=da at*;generalize ky:CL (n.natAbs / 100)=db at*;refine PO 25 [.tmp 2] hT Tryz.func132 Tryz.ntmps132 fun B w0=>?_;repeat' (first|((first|refine sC hT fun K' AX=>?_|refine oC fun K' AX=>?_);push_cast[q1,ea,eb,GW,DS,List.length_append,List.length_cons,List.length_nil,List.cons_append,List.nil_append,c1];(try simp (disch:=omega) only[wrap64,Int.toNat_natCast]);(repeat refine AS ?_ ?_);(first|refine AX _ ?_|((first|apply OY|(apply OZ;exact gd)|apply QL);(try intro hb);(first|exact ia|exact ib);exact fC;refine AX _ ?_)|refine⟨.v (.int .i64 0),AX _ ?_⟩);clear AX K')|(refine FT hT rfl (by simp only[As,Nat.reduceLT]) fun K' AX=>?_;push_cast[q1,ea,eb,GW,DS,List.length_append,List.length_cons,List.length_nil,List.cons_append,List.nil_append,c1];(try simp (disch:=omega) only[wrap64,Int.toNat_natCast]);(repeat refine AS ?_ ?_);refine AX _ ?_;clear AX K')|(refine sK hT ?_;simp only[St.put])|((first|refine A9 (hK _ ?_)|refine Bk (hK _ ?_));clear hK K;push_cast)|((first|apply Bs|apply B5|apply CG|apply Cl);push_cast)|refine CH fun K hK=>?_|refine Fm fun K hK=>?_|refine dQ hT hm fun K hK=>?_|refine dL hT hm fun K hK=>?_|apply Bq|apply Br|apply CR|(refine B6 _ rfl (fun h=>?_) (fun h=>?_)<;>simp only[VC,reduceCtorEq]at h))
   all_goals try exact ff
   all_goals first|omega|skip
   all_goals simp
  ·have hl:=WV hm hs;have c1:decide ((((CL (n.natAbs%100)).length:Nat):Int)<2)=false:=by rw[hl];rfl
   rw[if_neg hs];generalize yR:CL (n.natAbs%100)=da at*;generalize ky:CL (n.natAbs / 100)=db at*;refine PO 25 [.tmp 2] hT Tryz.func132 Tryz.ntmps132 fun B w0=>?_;repeat' (first|((first|refine sC hT fun K' AX=>?_|refine oC fun K' AX=>?_);push_cast[q1,ea,eb,GW,DS,List.length_append,List.length_cons,List.length_nil,List.cons_append,List.nil_append,c1];(try simp (disch:=omega) only[wrap64,Int.toNat_natCast]);(repeat refine AS ?_ ?_);(first|refine AX _ ?_|((first|apply OY|(apply OZ;exact gd)|apply QL);(try intro hb);(first|exact ia|exact ib);exact fC;refine AX _ ?_)|refine⟨.v (.int .i64 0),AX _ ?_⟩);clear AX K')|(refine FT hT rfl (by simp only[As,Nat.reduceLT]) fun K' AX=>?_;push_cast[q1,ea,eb,GW,DS,List.length_append,List.length_cons,List.length_nil,List.cons_append,List.nil_append,c1];(try simp (disch:=omega) only[wrap64,Int.toNat_natCast]);(repeat refine AS ?_ ?_);refine AX _ ?_;clear AX K')|(refine sK hT ?_;simp only[St.put])|((first|refine A9 (hK _ ?_)|refine Bk (hK _ ?_));clear hK K;push_cast)|((first|apply Bs|apply B5|apply CG|apply Cl);push_cast)|refine CH fun K hK=>?_|refine Fm fun K hK=>?_|refine dQ hT hm fun K hK=>?_|refine dL hT hm fun K hK=>?_|apply Bq|apply Br|apply CR|(refine B6 _ rfl (fun h=>?_) (fun h=>?_)<;>simp only[VC,reduceCtorEq]at h))
   all_goals try exact ff
   all_goals first|omega|skip
   all_goals simp
 ·have q1:decide (n<0)=false:=Zdf h0;obtain⟨ea,eb⟩:=rY h0;rw[if_neg h0];unfold NY;by_cases hs:n.natAbs%100<10
  ·have hl:=WT hs;have c1:decide ((((CL (n.natAbs%100)).length:Nat):Int)<2)=true:=by rw[hl];rfl
   rw[if_pos hs];generalize yR:CL (n.natAbs%100)=da at*;generalize ky:CL (n.natAbs / 100)=db at*;refine PO 25 [.tmp 2] hT Tryz.func132 Tryz.ntmps132 fun B w0=>?_;repeat' (first|((first|refine sC hT fun K' AX=>?_|refine oC fun K' AX=>?_);push_cast[q1,ea,eb,GW,DS,List.length_append,List.length_cons,List.length_nil,List.cons_append,List.nil_append,c1];(try simp (disch:=omega) only[wrap64,Int.toNat_natCast]);(repeat refine AS ?_ ?_);(first|refine AX _ ?_|((first|apply OY|(apply OZ;exact gd)|apply QL);(try intro hb);(first|exact ia|exact ib);exact fC;refine AX _ ?_)|refine⟨.v (.int .i64 0),AX _ ?_⟩);clear AX K')|(refine FT hT rfl (by simp only[As,Nat.reduceLT]) fun K' AX=>?_;push_cast[q1,ea,eb,GW,DS,List.length_append,List.length_cons,List.length_nil,List.cons_append,List.nil_append,c1];(try simp (disch:=omega) only[wrap64,Int.toNat_natCast]);(repeat refine AS ?_ ?_);refine AX _ ?_;clear AX K')|(refine sK hT ?_;simp only[St.put])|((first|refine A9 (hK _ ?_)|refine Bk (hK _ ?_));clear hK K;push_cast)|((first|apply Bs|apply B5|apply CG|apply Cl);push_cast)|refine CH fun K hK=>?_|refine Fm fun K hK=>?_|refine dQ hT hm fun K hK=>?_|refine dL hT hm fun K hK=>?_|apply Bq|apply Br|apply CR|(refine B6 _ rfl (fun h=>?_) (fun h=>?_)<;>simp only[VC,reduceCtorEq]at h))
   all_goals try exact ff
   all_goals first|omega|skip
   all_goals simp
  ·have hl:=WV hm hs;have c1:decide ((((CL (n.natAbs%100)).length:Nat):Int)<2)=false:=by rw[hl];rfl
   rw[if_neg hs];generalize yR:CL (n.natAbs%100)=da at*;generalize ky:CL (n.natAbs / 100)=db at*;refine PO 25 [.tmp 2] hT Tryz.func132 Tryz.ntmps132 fun B w0=>?_;repeat' (first|((first|refine sC hT fun K' AX=>?_|refine oC fun K' AX=>?_);push_cast[q1,ea,eb,GW,DS,List.length_append,List.length_cons,List.length_nil,List.cons_append,List.nil_append,c1];(try simp (disch:=omega) only[wrap64,Int.toNat_natCast]);(repeat refine AS ?_ ?_);(first|refine AX _ ?_|((first|apply OY|(apply OZ;exact gd)|apply QL);(try intro hb);(first|exact ia|exact ib);exact fC;refine AX _ ?_)|refine⟨.v (.int .i64 0),AX _ ?_⟩);clear AX K')|(refine FT hT rfl (by simp only[As,Nat.reduceLT]) fun K' AX=>?_;push_cast[q1,ea,eb,GW,DS,List.length_append,List.length_cons,List.length_nil,List.cons_append,List.nil_append,c1];(try simp (disch:=omega) only[wrap64,Int.toNat_natCast]);(repeat refine AS ?_ ?_);refine AX _ ?_;clear AX K')|(refine sK hT ?_;simp only[St.put])|((first|refine A9 (hK _ ?_)|refine Bk (hK _ ?_));clear hK K;push_cast)|((first|apply Bs|apply B5|apply CG|apply Cl);push_cast)|refine CH fun K hK=>?_|refine Fm fun K hK=>?_|refine dQ hT hm fun K hK=>?_|refine dL hT hm fun K hK=>?_|apply Bq|apply Br|apply CR|(refine B6 _ rfl (fun h=>?_) (fun h=>?_)<;>simp only[VC,reduceCtorEq]at h))
   all_goals try exact ff
   all_goals first|omega|skip
   all_goals simp
set_option maxRecDepth 100000 in
theorem WW(l:List Int)(e:Nd)(Ae:Cz e):BS Tryz.prog T 108 [.p 1000 0,.a (A1 e)] (FL l) (AE (D1 e)) (FL l):=by
 have Ph:=Ae.spec.name;unfold D1 OH;by_cases k1:e.kind=16
 ·have q:(e.kind==16)=true:=by rw[k1];rfl
  rw[if_pos k1];refine FO 18 [.tmp 4] Tryz.func108 Tryz.ntmps108 fun B w0 Y R Am Az hY AQ AW Aj hR=>?_;have AB:=FI AW AQ 3
  refine AI ⟨[(4,AE (A0 Bp (.s e.name) 0))],FL l++Y⟩ ER ?_;repeat'(first|exact tT|refine WA tT (Y2 q AB) ?_ ?_|refine WB (Y2 q AB) ?_ ?_|(refine HE ?_;clear hK K)|refine WR fun K hK=>?_|refine HT ?_|refine WC (fun h=>?_) fun h=>?_|exact ff|fail)
  all_goals exact G.Al (AA Ai) Au
 have q:(e.kind==16)=false:=beq_eq_false_iff_ne.2 k1;rw[if_neg k1];by_cases k2:e.kind=15
 ·have q2:(e.kind==15)=true:=by rw[k2];rfl
  rw[if_pos k2];refine FO 18 [.tmp 4] Tryz.func108 Tryz.ntmps108 fun B w0 Y R Am Az hY AQ AW Aj hR=>?_;have AB:=FI AW AQ 3
  refine AI ⟨[(4,AE 2)],FL l++Y⟩ ER ?_;repeat'(first|exact tT|refine WA tT (Y3 q q2 AB) ?_ ?_|refine WB (Y3 q q2 AB) ?_ ?_|(refine HE ?_;clear hK K)|refine WR fun K hK=>?_|refine HT ?_|refine WC (fun h=>?_) fun h=>?_|exact ff|fail)
  all_goals exact G.Al (AA Ai) Au
 ·have q2:(e.kind==15)=false:=beq_eq_false_iff_ne.2 k2;rw[if_neg k2];refine FO 18 [.tmp 4] Tryz.func108 Tryz.ntmps108 fun B w0 Y R Am Az hY AQ AW Aj hR=>?_;have AB:=FI AW AQ 3
  refine AI ⟨[(4,AE 6)],FL l++Y⟩ ER ?_;repeat'(first|exact tT|refine WA tT (Y3 q q2 AB) ?_ ?_|refine WB (Y3 q q2 AB) ?_ ?_|(refine HE ?_;clear hK K)|refine WR fun K hK=>?_|refine HT ?_|refine WC (fun h=>?_) fun h=>?_|exact ff|fail)
  all_goals exact G.Al (AA Ai) Au
end Go.Proofs.YthemnhjojaehhaaGreatDoor
namespace Go.Tp
open Go.Ad
def A4(s:ByteArray):List Tk→Bool
 | []=>false
 |t::_=>decide (t.text=s)
def Jv(t:Tk):Option Int:=if t.kind=3∧t.text.size≤18 then Lib.atoi (bl t.text)else none
def Fw(t:Tk):Option Int:=if t.kind=4∧t.text.size≤18 then Lib.atoi ((bl t.text).erase 46)else none
def DU(least:Int)(t:Tk):Option Int:=match Jv t with
 |some n=>if least≤n∧n≤1000000 then some n else none
 |none=>none
def D2(t:Tk):Bool:=decide (t.kind=1)&& !Hj t.text
def IW(t:Tk):Bool:=(decide (t.text=Aa)||decide (t.text=AZ)||decide (t.text=BH))||decide (t.kind=2)
def Nc(l:Nat)(ts:List Tk):Option ByteArray:=((Bw.drop (l*6)).take 6).find? fun o=> !decide (o=⟨#[]⟩)&&A4 o ts
def mkNum(u:ByteArray)(n:Int):Nd:=.mk 11 ⟨#[]⟩ u n 0 0 0 0 [] []
def mkRef(s:ByteArray):Nd:=.mk 12 s ⟨#[]⟩ 0 0 0 0 0 [] []
def aG(n:Int):Nd:=.mk 13 ⟨#[]⟩ ⟨#[]⟩ n 0 0 0 0 [] []
def Ir(s:ByteArray):Nd:=.mk 14 s ⟨#[]⟩ 0 0 0 0 0 [] []
def mkNot(e:Nd):Nd:=.mk 15 ⟨#[]⟩ ⟨#[]⟩ 0 0 0 0 0 [] [e]
def mkBin(o:ByteArray)(a b:Nd):Nd:=.mk 16 o ⟨#[]⟩ 0 0 0 0 0 [] [a,b]
def Nf(s:ByteArray)(es:List Nd):Nd:=.mk 17 s ⟨#[]⟩ 0 0 0 0 0 [] es
def PC(den:Int)(ps:List Pc)(e:Nd):Nd:=.mk 18 ⟨#[]⟩ ⟨#[]⟩ 0 0 0 0 den ps [e]
def Dl(o:Nat→ByteArray)(x:Nat→Nd)(e:Nd):Nat→Nd
 |0=>e
 |n+1=>mkBin (o n) (Dl o x e n) (x n)
abbrev Ho:ByteArray:=bA [110,111,116]
abbrev Og:ByteArray:=bA [109,105,110]
abbrev Qi:ByteArray:=bA [116,114,117,101]
abbrev KT:ByteArray:=bA [102,97,108,115,101]
abbrev Yb:ByteArray:=bA [97,114,116]
abbrev FB:ByteArray:=bA Iq
abbrev E0:ByteArray:=bA [40]
abbrev D3:ByteArray:=bA [41]
abbrev Cp:ByteArray:=bA [44]
abbrev Gi:ByteArray:=bA [59]
abbrev Lt:ByteArray:=bA [58]
abbrev EI:ByteArray:=bA [45]
abbrev Sw:ByteArray:=bA [43]
abbrev LJ:ByteArray:=bA [47]
abbrev rZ:ByteArray:=bA [62]
abbrev rb:ByteArray:=bA [62,61]
structure UJ (den:Int) (before:List Pc) (ts:List Tk) (p:Pc) (r:List Tk):Prop where
 ex: ∃(t1 t2 t3 t4 t5 t6 t7:Tk) (neg:List Tk) (a n:Int),ts=t1::t2::neg++t3::t4::t5::t6::t7::r∧Fw t1=some p.fr∧t2.text=Lt∧((neg= []∧t3.text≠EI∧p.pa=a*den)∨(∃t,neg= [t]∧t.text=EI∧p.pa= -a*den))∧Fw t3=some a∧
  ((t4.text=Sw∧p.sl=n)∨(t4.text=EI∧p.sl= -n))∧DU 0 t5=some n∧t6.text=LJ∧DU 1 t7=some den
 fr:(before= []→p.fr=0)∧(∀q,before.getLast?=some q→q.fr<p.fr)
 len:before.length<64
def UK(den:Int)(ps:List Pc)(ts r:List Tk):Prop:=
 ∃at_:Nat→List Tk,0<ps.length∧at_ 0=ts∧(∀i,i<ps.length→UJ den (ps.take i) (at_ i) (ps.getD i default) (if i+1<ps.length then⟨6,Cp⟩::at_ (i+1)else r))∧A4 Cp r=false
inductive CU:Nat→List Tk→Nd→List Tk→Prop
 |not {k:Int} {ts r:List Tk} {e:Nd} (h:CU 2 ts e r):CU 2 (⟨k,Ho⟩::ts) (mkNot e) r
 |yy {l n:Nat} {ts:List Tk} {e:Nd} {at_:Nat→List Tk} {o:Nat→ByteArray} {x:Nat→Nd} (hl:l<6) (hn:l=2→A4 Ho ts=false) (h0:CU (l+1) ts e (at_ 0)) (h3:l=3→n≤1)
   (E4: ∀i,i<n→Nc l (at_ i)=some (o i)∧o i≠rZ∧o i≠rb∧(o i=LJ→ ∃t m,(at_ i).tail=t::at_ (i+1)∧DU 1 t=some m∧x i=mkNum AZ m))
   (hx: ∀i,i<n→o i≠LJ→CU (l+1) (at_ i).tail (x i) (at_ (i+1)))
   (CB:(l=3∧n=1)∨Nc l (at_ n)=none):CU l ts (Dl o x e n) (at_ n)
 |num {t:Tk} {r:List Tk} {n:Int} (ht:Jv t=some n) (hm:A4 Og r=false):CU 6 (t::r) (mkNum AZ n) r
 |min {t u:Tk} {r:List Tk} {n:Int} (ht:Jv t=some n) (hm:u.text=Og):CU 6 (t::u::r) (mkNum BH n) r
 |cur {t u:Tk} {r:List Tk} {n:Int} (ht:t.kind=2) (hu:Fw u=some n):CU 6 (t::u::r) (mkNum t.text n) r
 |name {t:Tk} {r:List Tk} (ht:D2 t=true):CU 6 (t::r) (mkRef t.text) r
 |pc {b:Bool} {r:List Tk}:CU 6 (⟨1,if b then Qi else KT⟩::r) (mkNum Aa (if b then 1 else 0)) r
 |va {t:Tk} {r:List Tk} {n:Int} (ht:DU 1 t=some n):CU 6 (⟨1,Yb⟩::t::r) (aG n) r
 |date {s:ByteArray} {r:List Tk} (hs:Eu s=true):CU 6 (⟨1,s⟩::r) (Ir s) r
 |paren {ts r:List Tk} {t:Tk} {e:Nd} (h:CU 0 ts e (t::r)) (ht:t.text=D3):CU 6 (⟨6,E0⟩::ts) e r
 |call {s:ByteArray} {ts r:List Tk} {e:Nd} {n:Nat} {at_:Nat→List Tk} {x:Nat→Nd} {t:Tk} (hs:s=Ft∨s=Bd) (h0:CU 0 ts e (at_ 0)) (hn:0<n) (hc: ∀i,i<n→A4 Cp (at_ i)=true)
   (hx: ∀i,i<n→CU 0 (at_ i).tail (x i) (at_ (i+1))) (CB:at_ n=t::r) (ht:t.text=D3):CU 6 (⟨1,s⟩::⟨6,E0⟩::ts) (Nf s (e::(List.range n).map x)) r
 |table {ts tr r:List Tk} {e:Nd} {den:Int} {ps:List Pc} {t u:Tk} (h:CU 0 ts e (t::tr)) (ht:t.text=Gi) (hp:UK den ps tr (u::r)) (hu:u.text=D3) (hd:1≤den∧den≤1000000) (hs: ∀p∈ps,-1000000≤p.sl∧p.sl≤1000000):
   CU 6 (⟨1,FB⟩::⟨6,E0⟩::ts) (PC den ps e) r
end Go.Tp
