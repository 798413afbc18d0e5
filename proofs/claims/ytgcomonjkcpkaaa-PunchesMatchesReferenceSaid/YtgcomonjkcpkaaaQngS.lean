/- Part of a proof about the given program: contracts of its functions (see the comment of the last text). -/
import Derived.Test.YtgcomonjkcpkaaaQngP
import Derived.Test.YtgcomonjkcpkaaaQngQ
namespace Go.Eng
open Go.RowKit
attribute [push_cast] AOps AStep dstOk guardB AV.cnd pv pvLoad pvIndexAddr pvFieldAddr pvField pvExtract pvBin pvUn pvPick pvSlice pvLen pvMin pvMax pvConvert pvIndex pvNil pvBuild intOp strOp asNat? AV.strip AV.cond qb callee? condL pubL al lk lkH St.ev ofVal St.put TK.agg cellsFrom Blk.cont Cont.at Cont.len Cont.upd Cont.updL Cont.updL0 cellsOf AV.one oneC oneL AV.nor AV.norL killE killH AV.kill AV.killL Blk.kill Cont.kill delH lessH srcOf baseOf fillA setFrom toInts argEnv AV.fresh AV.freshL Nat.mul_one Nat.one_mul Nat.div_one Nat.zero_add Nat.add_zero Nat.mul_zero Nat.zero_mul Nat.sub_zero true_and and_true and_self if_true if_false Bool.false_eq_true List.map_cons List.map_nil List.getElem?_toArray List.getElem?_cons_succ List.getElem?_cons_zero List.getD_cons_zero List.getD_cons_succ Option.bind_some Option.map_some Option.map_none List.length_cons List.length_nil List.size_toArray cond_true cond_false ne_eq Nat.zero_lt_one Nat.lt_add_one implies_true false_implies true_implies Bool.and_true Bool.true_and Bool.true_or Bool.or_true Bool.false_or Bool.or_false Bool.not_true Bool.not_false Bool.and_self List.cons_append List.nil_append List.set_cons_zero List.set_cons_succ Value.cells forall_const Nat.lt_irrefl not_true_eq_false not_false_eq_true List.append_nil List.drop_zero eq_self Bool.and_false Bool.false_and and_false false_and bif_and bif_or bif_nand I64 BL ints intsF
section
variable (fl : Bool) (H : List (Nat × Blk)) (n : Nat)
theorem pub_v (y : Value) : AV.pub fl H (n + 1) (.v y) = .v y := rfl
theorem pub_s (id : Nat) : AV.pub fl H (n + 1) (.s id) = (match lkH H id with
      | some (.row _ sz (.ints k l)) => if sz = 1 then .i fl (fun e _ => .v (.int k (l.getD e 0))) 1 0 l.length else .top
      | some (.row _ sz (.vals l)) => if 0 < sz then .i fl (fun e j => .v (l.getD (e * sz + j) undef)) sz 0 (l.length / sz) else .top
      | some (.row _ sz (.avs l)) => if 0 < sz then .i fl (fun e j => AV.pub fl H n (l.getD (e * sz + j) .top)) sz 0 (l.length / sz) else .top
      | some (.nst _ c) => .i fl (fun e _ => AV.pub fl H n (c.at e)) 1 0 c.len
      | _ => .top) := rfl
theorem pub_w (id off len : Nat) : AV.pub fl H (n + 1) (.w id off len) = (match lkH H id with
      | some (.row _ sz (.ints k l)) => if sz = 1 ∧ off + len ≤ l.length then .i fl (fun e _ => .v (.int k (l.getD e 0))) 1 off len else .top
      | _ => .top) := rfl
theorem pub_p (id off : Nat) : AV.pub fl H (n + 1) (.p id off) = (match lkH H id with
      | some blk => .q fl (fun _ j => AV.pub fl H n (blk.cont.at j)) blk.cont.len 0 off
      | none => .top) := rfl
theorem pub_i (fr : Bool) (c : Nat → Nat → AV) (sz off len : Nat) : AV.pub fl H (n + 1) (.i fr c sz off len) = .i (fr && fl) (fun e j => AV.pub fl H n (c e j)) sz off len := rfl
theorem pub_q (fr : Bool) (c : Nat → Nat → AV) (sz e j : Nat) : AV.pub fl H (n + 1) (.q fr c sz e j) = .q (fr && fl) (fun e j => AV.pub fl H n (c e j)) sz e j := rfl
theorem pub_a (cs : List AV) : AV.pub fl H (n + 1) (.a cs) = .a (cs.map (AV.pub fl H n)) := rfl
theorem pub_t (cs : List AV) : AV.pub fl H (n + 1) (.t cs) = .t (cs.map (AV.pub fl H n)) := rfl
theorem pub_f (fn : Fn) (cs : List AV) : AV.pub fl H (n + 1) (.f fn cs) = .f fn (cs.map (AV.pub fl H n)) := rfl
theorem pub_g (b : Bool) (y : AV) : AV.pub fl H (n + 1) (.g b y) = .g b (AV.pub fl H n y) := rfl
theorem pub_top : AV.pub fl H (n + 1) .top = .top := rfl
theorem pub_getD (l : List AV) (j : Nat) : AV.pub fl H (n + 1) (l.getD j .top) = (l.map (AV.pub fl H (n + 1))).getD j .top := by
  by_cases h : j < l.length
  · rw [getD_map_pub _ _ _ _ _ h]
  · have e1 : l.getD j .top = .top := by simp [List.getD_eq_getElem?_getD, List.getElem?_eq_none (show l.length ≤ j by omega)]
    have e2 : (l.map (AV.pub fl H (n + 1))).getD j .top = .top := by simp [List.getD_eq_getElem?_getD, List.getElem?_eq_none (show l.length ≤ j by omega)]
    rw [e1, e2]; rfl
end
attribute [push_cast] eqA pub_v pub_s pub_w pub_p pub_i pub_q pub_a pub_t pub_f pub_g pub_top pub_getD
end Go.Eng
