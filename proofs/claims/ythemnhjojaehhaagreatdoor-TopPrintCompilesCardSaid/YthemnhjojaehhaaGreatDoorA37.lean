/- Part of a proof. -/
import Derived.Test.YthemnhjojaehhaaGreatDoorA23
set_option linter.all false
namespace Go.Proofs.YthemnhjojaehhaaGreatDoor
open Go.Ad Go.Proofs Go.Tp
attribute [local irreducible] A8 AK BY Go.Ad.Pure BS
set_option maxHeartbeats 1000000 in
theorem dq(us:List ByteArray)(hl:us.length≤9223372036854775807)(h1:1≤us.length):Pure Tryz.prog 120 [An ⟨#[111,114]⟩,Xf us] (An (Aq ⟨#[111,114]⟩ us)):=by
 have hq:=Ei us hl;have hc:=Dk (BZ us (us.length - 1));have d0:=DT ((0:Int)<(us.length:Int));have e1:((us.length:Int) - 1).toNat=us.length - 1:=Zo
 have q1:decide ((⟨#[111,114]⟩:ByteArray)=⟨#[111,114]⟩)=true∧decide ((⟨#[111,114]⟩:ByteArray)=⟨#[97,110,100]⟩)=false∧decide ((⟨#[111,114]⟩:ByteArray)=⟨#[61,61]⟩)=false∧decide ((⟨#[111,114]⟩:ByteArray)=⟨#[33,61]⟩)=false∧decide ((⟨#[111,114]⟩:ByteArray)=⟨#[60]⟩)=false∧decide ((⟨#[111,114]⟩:ByteArray)=⟨#[60,61]⟩)=false∧decide ((⟨#[111,114]⟩:ByteArray)=⟨#[43]⟩)=false∧decide ((⟨#[111,114]⟩:ByteArray)=⟨#[45]⟩)=false∧decide ((⟨#[111,114]⟩:ByteArray)=⟨#[42]⟩)=false∧decide ((⟨#[111,114]⟩:ByteArray)=⟨#[47]⟩)=false∧decide ((⟨#[111,114]⟩:ByteArray)=⟨#[97,116]⟩)=false:=Zd
 have ho:Aq ⟨#[111,114]⟩ us=(if BZ us 0=Aa∧CE us=true then Aa else⟨#[]⟩):=rfl;rw[ho];clear ho;generalize hb:BZ us (us.length - 1)=b at*;generalize ha:BZ us 0=a at*;generalize CE us=q at*;refine PO 65 [.tmp 4] hT Tryz.func120 Tryz.ntmps120 fun B w0=>?_;repeat'(first|exact tT|refine WA (Y2 hq hc) (Y5 d0 e1 hb ha q1) ?_ ?_|(refine PE ?_;clear hK K)|refine WR fun K hK=>?_|refine PT ?_|refine WC (fun h=>?_) fun h=>?_|exact ff|fail)
 all_goals (refine congrArg (fun s=>AV.v (.string s)) (Eq.symm ?_);simp only[Aa,AZ,BH]at*;(first|(simp_all;done)|(rcases h with h|h<;>simp_all;done)))
set_option maxHeartbeats 1000000 in
theorem dr(us:List ByteArray)(hl:us.length≤9223372036854775807)(h1:1≤us.length):Pure Tryz.prog 120 [An ⟨#[97,110,100]⟩,Xf us] (An (Aq ⟨#[97,110,100]⟩ us)):=by
 have hq:=Ei us hl;have hc:=Dk (BZ us (us.length - 1));have d0:=DT ((0:Int)<(us.length:Int));have e1:((us.length:Int) - 1).toNat=us.length - 1:=Zo
 have q1:decide ((⟨#[97,110,100]⟩:ByteArray)=⟨#[111,114]⟩)=false∧decide ((⟨#[97,110,100]⟩:ByteArray)=⟨#[97,110,100]⟩)=true∧decide ((⟨#[97,110,100]⟩:ByteArray)=⟨#[61,61]⟩)=false∧decide ((⟨#[97,110,100]⟩:ByteArray)=⟨#[33,61]⟩)=false∧decide ((⟨#[97,110,100]⟩:ByteArray)=⟨#[60]⟩)=false∧decide ((⟨#[97,110,100]⟩:ByteArray)=⟨#[60,61]⟩)=false∧decide ((⟨#[97,110,100]⟩:ByteArray)=⟨#[43]⟩)=false∧decide ((⟨#[97,110,100]⟩:ByteArray)=⟨#[45]⟩)=false∧decide ((⟨#[97,110,100]⟩:ByteArray)=⟨#[42]⟩)=false∧decide ((⟨#[97,110,100]⟩:ByteArray)=⟨#[47]⟩)=false∧decide ((⟨#[97,110,100]⟩:ByteArray)=⟨#[97,116]⟩)=false:=Zd
 have ho:Aq ⟨#[97,110,100]⟩ us=(if BZ us 0=Aa∧CE us=true then Aa else⟨#[]⟩):=rfl;rw[ho];clear ho;generalize hb:BZ us (us.length - 1)=b at*;generalize ha:BZ us 0=a at*;generalize CE us=q at*;refine PO 65 [.tmp 4] hT Tryz.func120 Tryz.ntmps120 fun B w0=>?_;repeat'(first|exact tT|refine WA (Y2 hq hc) (Y5 d0 e1 hb ha q1) ?_ ?_|(refine PE ?_;clear hK K)|refine WR fun K hK=>?_|refine PT ?_|refine WC (fun h=>?_) fun h=>?_|exact ff|fail)
 all_goals (refine congrArg (fun s=>AV.v (.string s)) (Eq.symm ?_);simp only[Aa,AZ,BH]at*;(first|(simp_all;done)|(rcases h with h|h<;>simp_all;done)))
set_option maxHeartbeats 1000000 in
theorem dt(us:List ByteArray)(hl:us.length≤9223372036854775807)(h1:1≤us.length):Pure Tryz.prog 120 [An ⟨#[61,61]⟩,Xf us] (An (Aq ⟨#[61,61]⟩ us)):=by
 have hq:=Ei us hl;have hc:=Dk (BZ us (us.length - 1));have d0:=DT ((0:Int)<(us.length:Int));have e1:((us.length:Int) - 1).toNat=us.length - 1:=Zo
 have q1:decide ((⟨#[61,61]⟩:ByteArray)=⟨#[111,114]⟩)=false∧decide ((⟨#[61,61]⟩:ByteArray)=⟨#[97,110,100]⟩)=false∧decide ((⟨#[61,61]⟩:ByteArray)=⟨#[61,61]⟩)=true∧decide ((⟨#[61,61]⟩:ByteArray)=⟨#[33,61]⟩)=false∧decide ((⟨#[61,61]⟩:ByteArray)=⟨#[60]⟩)=false∧decide ((⟨#[61,61]⟩:ByteArray)=⟨#[60,61]⟩)=false∧decide ((⟨#[61,61]⟩:ByteArray)=⟨#[43]⟩)=false∧decide ((⟨#[61,61]⟩:ByteArray)=⟨#[45]⟩)=false∧decide ((⟨#[61,61]⟩:ByteArray)=⟨#[42]⟩)=false∧decide ((⟨#[61,61]⟩:ByteArray)=⟨#[47]⟩)=false∧decide ((⟨#[61,61]⟩:ByteArray)=⟨#[97,116]⟩)=false:=Zd
 have ho:Aq ⟨#[61,61]⟩ us=(if CE us=true then Aa else⟨#[]⟩):=rfl;rw[ho];clear ho;generalize hb:BZ us (us.length - 1)=b at*;generalize ha:BZ us 0=a at*;generalize CE us=q at*;refine PO 65 [.tmp 4] hT Tryz.func120 Tryz.ntmps120 fun B w0=>?_;repeat'(first|exact tT|refine WA (Y2 hq hc) (Y5 d0 e1 hb ha q1) ?_ ?_|(refine PE ?_;clear hK K)|refine WR fun K hK=>?_|refine PT ?_|refine WC (fun h=>?_) fun h=>?_|exact ff|fail)
 all_goals (refine congrArg (fun s=>AV.v (.string s)) (Eq.symm ?_);simp only[Aa,AZ,BH]at*;(first|(simp_all;done)|(rcases h with h|h<;>simp_all;done)))
set_option maxHeartbeats 1000000 in
theorem du(us:List ByteArray)(hl:us.length≤9223372036854775807)(h1:1≤us.length):Pure Tryz.prog 120 [An ⟨#[33,61]⟩,Xf us] (An (Aq ⟨#[33,61]⟩ us)):=by
 have hq:=Ei us hl;have hc:=Dk (BZ us (us.length - 1));have d0:=DT ((0:Int)<(us.length:Int));have e1:((us.length:Int) - 1).toNat=us.length - 1:=Zo
 have q1:decide ((⟨#[33,61]⟩:ByteArray)=⟨#[111,114]⟩)=false∧decide ((⟨#[33,61]⟩:ByteArray)=⟨#[97,110,100]⟩)=false∧decide ((⟨#[33,61]⟩:ByteArray)=⟨#[61,61]⟩)=false∧decide ((⟨#[33,61]⟩:ByteArray)=⟨#[33,61]⟩)=true∧decide ((⟨#[33,61]⟩:ByteArray)=⟨#[60]⟩)=false∧decide ((⟨#[33,61]⟩:ByteArray)=⟨#[60,61]⟩)=false∧decide ((⟨#[33,61]⟩:ByteArray)=⟨#[43]⟩)=false∧decide ((⟨#[33,61]⟩:ByteArray)=⟨#[45]⟩)=false∧decide ((⟨#[33,61]⟩:ByteArray)=⟨#[42]⟩)=false∧decide ((⟨#[33,61]⟩:ByteArray)=⟨#[47]⟩)=false∧decide ((⟨#[33,61]⟩:ByteArray)=⟨#[97,116]⟩)=false:=Zd
 have ho:Aq ⟨#[33,61]⟩ us=(if CE us=true then Aa else⟨#[]⟩):=rfl;rw[ho];clear ho;generalize hb:BZ us (us.length - 1)=b at*;generalize ha:BZ us 0=a at*;generalize CE us=q at*;refine PO 65 [.tmp 4] hT Tryz.func120 Tryz.ntmps120 fun B w0=>?_;repeat'(first|exact tT|refine WA (Y2 hq hc) (Y5 d0 e1 hb ha q1) ?_ ?_|(refine PE ?_;clear hK K)|refine WR fun K hK=>?_|refine PT ?_|refine WC (fun h=>?_) fun h=>?_|exact ff|fail)
 all_goals (refine congrArg (fun s=>AV.v (.string s)) (Eq.symm ?_);simp only[Aa,AZ,BH]at*;(first|(simp_all;done)|(rcases h with h|h<;>simp_all;done)))
set_option maxHeartbeats 1000000 in
theorem dw(us:List ByteArray)(hl:us.length≤9223372036854775807)(h1:1≤us.length):Pure Tryz.prog 120 [An ⟨#[60]⟩,Xf us] (An (Aq ⟨#[60]⟩ us)):=by
 have hq:=Ei us hl;have hc:=Dk (BZ us (us.length - 1));have d0:=DT ((0:Int)<(us.length:Int));have e1:((us.length:Int) - 1).toNat=us.length - 1:=Zo
 have q1:decide ((⟨#[60]⟩:ByteArray)=⟨#[111,114]⟩)=false∧decide ((⟨#[60]⟩:ByteArray)=⟨#[97,110,100]⟩)=false∧decide ((⟨#[60]⟩:ByteArray)=⟨#[61,61]⟩)=false∧decide ((⟨#[60]⟩:ByteArray)=⟨#[33,61]⟩)=false∧decide ((⟨#[60]⟩:ByteArray)=⟨#[60]⟩)=true∧decide ((⟨#[60]⟩:ByteArray)=⟨#[60,61]⟩)=false∧decide ((⟨#[60]⟩:ByteArray)=⟨#[43]⟩)=false∧decide ((⟨#[60]⟩:ByteArray)=⟨#[45]⟩)=false∧decide ((⟨#[60]⟩:ByteArray)=⟨#[42]⟩)=false∧decide ((⟨#[60]⟩:ByteArray)=⟨#[47]⟩)=false∧decide ((⟨#[60]⟩:ByteArray)=⟨#[97,116]⟩)=false:=Zd
 have ho:Aq ⟨#[60]⟩ us=(if CE us=true∧BZ us 0≠Aa then Aa else⟨#[]⟩):=rfl;rw[ho];clear ho;generalize hb:BZ us (us.length - 1)=b at*;generalize ha:BZ us 0=a at*;generalize CE us=q at*;refine PO 65 [.tmp 4] hT Tryz.func120 Tryz.ntmps120 fun B w0=>?_;repeat'(first|exact tT|refine WA (Y2 hq hc) (Y5 d0 e1 hb ha q1) ?_ ?_|(refine PE ?_;clear hK K)|refine WR fun K hK=>?_|refine PT ?_|refine WC (fun h=>?_) fun h=>?_|exact ff|fail)
 all_goals (refine congrArg (fun s=>AV.v (.string s)) (Eq.symm ?_);simp only[Aa,AZ,BH]at*;(first|(simp_all;done)|(rcases h with h|h<;>simp_all;done)))
set_option maxHeartbeats 1000000 in
theorem dy(us:List ByteArray)(hl:us.length≤9223372036854775807)(h1:1≤us.length):Pure Tryz.prog 120 [An ⟨#[60,61]⟩,Xf us] (An (Aq ⟨#[60,61]⟩ us)):=by
 have hq:=Ei us hl;have hc:=Dk (BZ us (us.length - 1));have d0:=DT ((0:Int)<(us.length:Int));have e1:((us.length:Int) - 1).toNat=us.length - 1:=Zo
 have q1:decide ((⟨#[60,61]⟩:ByteArray)=⟨#[111,114]⟩)=false∧decide ((⟨#[60,61]⟩:ByteArray)=⟨#[97,110,100]⟩)=false∧decide ((⟨#[60,61]⟩:ByteArray)=⟨#[61,61]⟩)=false∧decide ((⟨#[60,61]⟩:ByteArray)=⟨#[33,61]⟩)=false∧decide ((⟨#[60,61]⟩:ByteArray)=⟨#[60]⟩)=false∧decide ((⟨#[60,61]⟩:ByteArray)=⟨#[60,61]⟩)=true∧decide ((⟨#[60,61]⟩:ByteArray)=⟨#[43]⟩)=false∧decide ((⟨#[60,61]⟩:ByteArray)=⟨#[45]⟩)=false∧decide ((⟨#[60,61]⟩:ByteArray)=⟨#[42]⟩)=false∧decide ((⟨#[60,61]⟩:ByteArray)=⟨#[47]⟩)=false∧decide ((⟨#[60,61]⟩:ByteArray)=⟨#[97,116]⟩)=false:=Zd
 have ho:Aq ⟨#[60,61]⟩ us=(if CE us=true∧BZ us 0≠Aa then Aa else⟨#[]⟩):=rfl;rw[ho];clear ho;generalize hb:BZ us (us.length - 1)=b at*;generalize ha:BZ us 0=a at*;generalize CE us=q at*;refine PO 65 [.tmp 4] hT Tryz.func120 Tryz.ntmps120 fun B w0=>?_;repeat'(first|exact tT|refine WA (Y2 hq hc) (Y5 d0 e1 hb ha q1) ?_ ?_|(refine PE ?_;clear hK K)|refine WR fun K hK=>?_|refine PT ?_|refine WC (fun h=>?_) fun h=>?_|exact ff|fail)
 all_goals (refine congrArg (fun s=>AV.v (.string s)) (Eq.symm ?_);simp only[Aa,AZ,BH]at*;(first|(simp_all;done)|(rcases h with h|h<;>simp_all;done)))
set_option maxHeartbeats 1000000 in
theorem eB(us:List ByteArray)(hl:us.length≤9223372036854775807)(h1:1≤us.length):Pure Tryz.prog 120 [An ⟨#[43]⟩,Xf us] (An (Aq ⟨#[43]⟩ us)):=by
 have hq:=Ei us hl;have hc:=Dk (BZ us (us.length - 1));have d0:=DT ((0:Int)<(us.length:Int));have e1:((us.length:Int) - 1).toNat=us.length - 1:=Zo
 have q1:decide ((⟨#[43]⟩:ByteArray)=⟨#[111,114]⟩)=false∧decide ((⟨#[43]⟩:ByteArray)=⟨#[97,110,100]⟩)=false∧decide ((⟨#[43]⟩:ByteArray)=⟨#[61,61]⟩)=false∧decide ((⟨#[43]⟩:ByteArray)=⟨#[33,61]⟩)=false∧decide ((⟨#[43]⟩:ByteArray)=⟨#[60]⟩)=false∧decide ((⟨#[43]⟩:ByteArray)=⟨#[60,61]⟩)=false∧decide ((⟨#[43]⟩:ByteArray)=⟨#[43]⟩)=true∧decide ((⟨#[43]⟩:ByteArray)=⟨#[45]⟩)=false∧decide ((⟨#[43]⟩:ByteArray)=⟨#[42]⟩)=false∧decide ((⟨#[43]⟩:ByteArray)=⟨#[47]⟩)=false∧decide ((⟨#[43]⟩:ByteArray)=⟨#[97,116]⟩)=false:=Zd
 have ho:Aq ⟨#[43]⟩ us=(if CE us=true∧BZ us 0≠Aa then BZ us 0 else⟨#[]⟩):=rfl;rw[ho];clear ho;generalize hb:BZ us (us.length - 1)=b at*;generalize ha:BZ us 0=a at*;generalize CE us=q at*;refine PO 65 [.tmp 4] hT Tryz.func120 Tryz.ntmps120 fun B w0=>?_;repeat'(first|exact tT|refine WA (Y2 hq hc) (Y5 d0 e1 hb ha q1) ?_ ?_|(refine PE ?_;clear hK K)|refine WR fun K hK=>?_|refine PT ?_|refine WC (fun h=>?_) fun h=>?_|exact ff|fail)
 all_goals (refine congrArg (fun s=>AV.v (.string s)) (Eq.symm ?_);simp only[Aa,AZ,BH]at*;(first|(simp_all;done)|(rcases h with h|h<;>simp_all;done)))
set_option maxHeartbeats 1000000 in
theorem eC(us:List ByteArray)(hl:us.length≤9223372036854775807)(h1:1≤us.length):Pure Tryz.prog 120 [An ⟨#[45]⟩,Xf us] (An (Aq ⟨#[45]⟩ us)):=by
 have hq:=Ei us hl;have hc:=Dk (BZ us (us.length - 1));have d0:=DT ((0:Int)<(us.length:Int));have e1:((us.length:Int) - 1).toNat=us.length - 1:=Zo
 have q1:decide ((⟨#[45]⟩:ByteArray)=⟨#[111,114]⟩)=false∧decide ((⟨#[45]⟩:ByteArray)=⟨#[97,110,100]⟩)=false∧decide ((⟨#[45]⟩:ByteArray)=⟨#[61,61]⟩)=false∧decide ((⟨#[45]⟩:ByteArray)=⟨#[33,61]⟩)=false∧decide ((⟨#[45]⟩:ByteArray)=⟨#[60]⟩)=false∧decide ((⟨#[45]⟩:ByteArray)=⟨#[60,61]⟩)=false∧decide ((⟨#[45]⟩:ByteArray)=⟨#[43]⟩)=false∧decide ((⟨#[45]⟩:ByteArray)=⟨#[45]⟩)=true∧decide ((⟨#[45]⟩:ByteArray)=⟨#[42]⟩)=false∧decide ((⟨#[45]⟩:ByteArray)=⟨#[47]⟩)=false∧decide ((⟨#[45]⟩:ByteArray)=⟨#[97,116]⟩)=false:=Zd
 have ho:Aq ⟨#[45]⟩ us=(if CE us=true∧BZ us 0≠Aa then BZ us 0 else⟨#[]⟩):=rfl;rw[ho];clear ho;generalize hb:BZ us (us.length - 1)=b at*;generalize ha:BZ us 0=a at*;generalize CE us=q at*;refine PO 65 [.tmp 4] hT Tryz.func120 Tryz.ntmps120 fun B w0=>?_;repeat'(first|exact tT|refine WA (Y2 hq hc) (Y5 d0 e1 hb ha q1) ?_ ?_|(refine PE ?_;clear hK K)|refine WR fun K hK=>?_|refine PT ?_|refine WC (fun h=>?_) fun h=>?_|exact ff|fail)
 all_goals (refine congrArg (fun s=>AV.v (.string s)) (Eq.symm ?_);simp only[Aa,AZ,BH]at*;(first|(simp_all;done)|(rcases h with h|h<;>simp_all;done)))
set_option maxHeartbeats 1000000 in
theorem eD(us:List ByteArray)(hl:us.length≤9223372036854775807)(h1:1≤us.length):Pure Tryz.prog 120 [An ⟨#[42]⟩,Xf us] (An (Aq ⟨#[42]⟩ us)):=by
 have hq:=Ei us hl;have hc:=Dk (BZ us (us.length - 1));have d0:=DT ((0:Int)<(us.length:Int));have e1:((us.length:Int) - 1).toNat=us.length - 1:=Zo
 have q1:decide ((⟨#[42]⟩:ByteArray)=⟨#[111,114]⟩)=false∧decide ((⟨#[42]⟩:ByteArray)=⟨#[97,110,100]⟩)=false∧decide ((⟨#[42]⟩:ByteArray)=⟨#[61,61]⟩)=false∧decide ((⟨#[42]⟩:ByteArray)=⟨#[33,61]⟩)=false∧decide ((⟨#[42]⟩:ByteArray)=⟨#[60]⟩)=false∧decide ((⟨#[42]⟩:ByteArray)=⟨#[60,61]⟩)=false∧decide ((⟨#[42]⟩:ByteArray)=⟨#[43]⟩)=false∧decide ((⟨#[42]⟩:ByteArray)=⟨#[45]⟩)=false∧decide ((⟨#[42]⟩:ByteArray)=⟨#[42]⟩)=true∧decide ((⟨#[42]⟩:ByteArray)=⟨#[47]⟩)=false∧decide ((⟨#[42]⟩:ByteArray)=⟨#[97,116]⟩)=false:=Zd
 have ho:Aq ⟨#[42]⟩ us=(if BZ us 0=AZ then(if BZ us (us.length - 1)=Aa then⟨#[]⟩else BZ us (us.length - 1))else if BZ us (us.length - 1)=AZ then(if BZ us 0=Aa then⟨#[]⟩else BZ us 0)else⟨#[]⟩):=rfl;rw[ho];clear ho;generalize hb:BZ us (us.length - 1)=b at*;generalize ha:BZ us 0=a at*;generalize CE us=q at*;refine PO 65 [.tmp 4] hT Tryz.func120 Tryz.ntmps120 fun B w0=>?_;repeat'(first|exact tT|refine WA (Y2 hq hc) (Y5 d0 e1 hb ha q1) ?_ ?_|(refine PE ?_;clear hK K)|refine WR fun K hK=>?_|refine PT ?_|refine WC (fun h=>?_) fun h=>?_|exact ff|fail)
 all_goals (refine congrArg (fun s=>AV.v (.string s)) (Eq.symm ?_);simp only[Aa,AZ,BH]at*;(first|(simp_all;done)|(rcases h with h|h<;>simp_all;done)))
set_option maxHeartbeats 1000000 in
theorem eF(us:List ByteArray)(hl:us.length≤9223372036854775807)(h1:1≤us.length):Pure Tryz.prog 120 [An ⟨#[47]⟩,Xf us] (An (Aq ⟨#[47]⟩ us)):=by
 have hq:=Ei us hl;have hc:=Dk (BZ us (us.length - 1));have d0:=DT ((0:Int)<(us.length:Int));have e1:((us.length:Int) - 1).toNat=us.length - 1:=Zo
 have q1:decide ((⟨#[47]⟩:ByteArray)=⟨#[111,114]⟩)=false∧decide ((⟨#[47]⟩:ByteArray)=⟨#[97,110,100]⟩)=false∧decide ((⟨#[47]⟩:ByteArray)=⟨#[61,61]⟩)=false∧decide ((⟨#[47]⟩:ByteArray)=⟨#[33,61]⟩)=false∧decide ((⟨#[47]⟩:ByteArray)=⟨#[60]⟩)=false∧decide ((⟨#[47]⟩:ByteArray)=⟨#[60,61]⟩)=false∧decide ((⟨#[47]⟩:ByteArray)=⟨#[43]⟩)=false∧decide ((⟨#[47]⟩:ByteArray)=⟨#[45]⟩)=false∧decide ((⟨#[47]⟩:ByteArray)=⟨#[42]⟩)=false∧decide ((⟨#[47]⟩:ByteArray)=⟨#[47]⟩)=true∧decide ((⟨#[47]⟩:ByteArray)=⟨#[97,116]⟩)=false:=Zd
 have ho:Aq ⟨#[47]⟩ us=(if BZ us 0=Aa then⟨#[]⟩else BZ us 0):=rfl;rw[ho];clear ho;generalize hb:BZ us (us.length - 1)=b at*;generalize ha:BZ us 0=a at*;generalize CE us=q at*;refine PO 65 [.tmp 4] hT Tryz.func120 Tryz.ntmps120 fun B w0=>?_;repeat'(first|exact tT|refine WA (Y2 hq hc) (Y5 d0 e1 hb ha q1) ?_ ?_|(refine PE ?_;clear hK K)|refine WR fun K hK=>?_|refine PT ?_|refine WC (fun h=>?_) fun h=>?_|exact ff|fail)
 all_goals (refine congrArg (fun s=>AV.v (.string s)) (Eq.symm ?_);simp only[Aa,AZ,BH]at*;(first|(simp_all;done)|(rcases h with h|h<;>simp_all;done)))
set_option maxHeartbeats 1000000 in
theorem ZE(us:List ByteArray)(hl:us.length≤9223372036854775807)(h1:1≤us.length):Pure Tryz.prog 120 [An ⟨#[97,116]⟩,Xf us] (An (Aq ⟨#[97,116]⟩ us)):=by
 have hq:=Ei us hl;have hc:=Dk (BZ us (us.length - 1));have d0:=DT ((0:Int)<(us.length:Int));have e1:((us.length:Int) - 1).toNat=us.length - 1:=Zo
 have q1:decide ((⟨#[97,116]⟩:ByteArray)=⟨#[111,114]⟩)=false∧decide ((⟨#[97,116]⟩:ByteArray)=⟨#[97,110,100]⟩)=false∧decide ((⟨#[97,116]⟩:ByteArray)=⟨#[61,61]⟩)=false∧decide ((⟨#[97,116]⟩:ByteArray)=⟨#[33,61]⟩)=false∧decide ((⟨#[97,116]⟩:ByteArray)=⟨#[60]⟩)=false∧decide ((⟨#[97,116]⟩:ByteArray)=⟨#[60,61]⟩)=false∧decide ((⟨#[97,116]⟩:ByteArray)=⟨#[43]⟩)=false∧decide ((⟨#[97,116]⟩:ByteArray)=⟨#[45]⟩)=false∧decide ((⟨#[97,116]⟩:ByteArray)=⟨#[42]⟩)=false∧decide ((⟨#[97,116]⟩:ByteArray)=⟨#[47]⟩)=false∧decide ((⟨#[97,116]⟩:ByteArray)=⟨#[97,116]⟩)=true:=Zd
 have ho:Aq ⟨#[97,116]⟩ us=(if BZ us 0=BH∧KR (BZ us (us.length - 1))=true then BZ us (us.length - 1)else⟨#[]⟩):=rfl;rw[ho];clear ho;generalize hb:BZ us (us.length - 1)=b at*;generalize ha:BZ us 0=a at*;generalize CE us=q at*;refine PO 65 [.tmp 4] hT Tryz.func120 Tryz.ntmps120 fun B w0=>?_;repeat'(first|exact tT|refine WA (Y2 hq hc) (Y5 d0 e1 hb ha q1) ?_ ?_|(refine PE ?_;clear hK K)|refine WR fun K hK=>?_|refine PT ?_|refine WC (fun h=>?_) fun h=>?_|exact ff|fail)
 all_goals (refine congrArg (fun s=>AV.v (.string s)) (Eq.symm ?_);simp only[Aa,AZ,BH]at*;(first|(simp_all;done)|(rcases h with h|h<;>simp_all;done)))
set_option maxHeartbeats 1000000 in
theorem eG(op:ByteArray)(us:List ByteArray)(hl:us.length≤9223372036854775807)(h1:1≤us.length)(q1:decide (op=⟨#[111,114]⟩)=false∧decide (op=⟨#[97,110,100]⟩)=false∧decide (op=⟨#[61,61]⟩)=false∧decide (op=⟨#[33,61]⟩)=false∧decide (op=⟨#[60]⟩)=false∧decide (op=⟨#[60,61]⟩)=false∧decide (op=⟨#[43]⟩)=false∧decide (op=⟨#[45]⟩)=false∧decide (op=⟨#[42]⟩)=false∧decide (op=⟨#[47]⟩)=false∧decide (op=⟨#[97,116]⟩)=false):Pure Tryz.prog 120 [An op,Xf us] (An (Aq op us)):=by
 have d0:=DT ((0:Int)<(us.length:Int));have e1:((us.length:Int) - 1).toNat=us.length - 1:=Zo
 have ho:Aq op us=⟨#[]⟩:=by
  simp only[decide_eq_false_iff_not]at q1;simp only[Aq,q1,or_self,if_false]
 rw[ho];refine PO 65 [.tmp 4] hT Tryz.func120 Tryz.ntmps120 fun B w0=>?_;repeat'(first|exact tT|refine WA tT (Y3 d0 e1 q1) ?_ ?_|(refine PE ?_;clear hK K)|refine WR fun K hK=>?_|refine PT ?_|refine WC (fun h=>?_) fun h=>?_|exact ff|fail)
 all_goals done
theorem ZF(op:ByteArray)(us:List ByteArray)(hl:us.length≤9223372036854775807)(h1:1≤us.length):Pure Tryz.prog 120 [An op,Xf us] (An (Aq op us)):=by
 by_cases o0:op=⟨#[111,114]⟩
 ·rw[o0];exact dq us hl h1
 by_cases o1:op=⟨#[97,110,100]⟩
 ·rw[o1];exact dr us hl h1
 by_cases o2:op=⟨#[61,61]⟩
 ·rw[o2];exact dt us hl h1
 by_cases o3:op=⟨#[33,61]⟩
 ·rw[o3];exact du us hl h1
 by_cases o4:op=⟨#[60]⟩
 ·rw[o4];exact dw us hl h1
 by_cases o5:op=⟨#[60,61]⟩
 ·rw[o5];exact dy us hl h1
 by_cases o6:op=⟨#[43]⟩
 ·rw[o6];exact eB us hl h1
 by_cases o7:op=⟨#[45]⟩
 ·rw[o7];exact eC us hl h1
 by_cases o8:op=⟨#[42]⟩
 ·rw[o8];exact eD us hl h1
 by_cases o9:op=⟨#[47]⟩
 ·rw[o9];exact eF us hl h1
 by_cases o10:op=⟨#[97,116]⟩
 ·rw[o10];exact ZE us hl h1
 exact eG op us hl h1 ⟨Zdf o0,Zdf o1,Zdf o2,Zdf o3,Zdf o4,Zdf o5,Zdf o6,Zdf o7,Zdf o8,Zdf o9,Zdf o10⟩
end Go.Proofs.YthemnhjojaehhaaGreatDoor
