import Derived.Test.YtjhiagelgleomaaAbsZ
import Derived.Attr
namespace Go.TravelAbs
open Go.RowKit Go.TravelBase
/-! ## The evaluator's simp set -/
attribute [go_sem] isOne bopW EvR EvD maxLen byte_lt byte_lti byte_lei UInt8.ofNat_toNat wrap_byte u8_nn u8_lt u8_le cndB beq_true beq_false imp_self and_self Bool.not_not
attribute [go_sem] Bool.and_self inR_i64 inR_u8 evL evD visH addE allH inL wrB keyOK ownK ordB evG evX evA evM evC bop bopI bopS uop pickA cmpI isCmp opnd gt lk putT
attribute [go_sem] stepS stp cnd idx sub isA ldA zeroA zOK isU8 isBy emptyC catC catOK cpA cpOK mkC mkOK asL okL okc cN cE cAt bA toB byteOK_int setE putX putL fillA
attribute [go_sem] fillOK AV.cl AV.one Value.oneCell' TK.row Option.getD_some Option.getD_none Option.map_some Option.map_none Option.bind_some Option.bind_none cvA cvX
attribute [go_sem] cvL cv1 isL List.getElem?_cons_zero List.getElem?_cons_succ List.nil_append List.cons_append List.append_nil List.map_cons List.map_nil
attribute [go_sem] List.length_map List.length_cons List.length_nil List.take_zero List.drop_zero List.take_succ_cons List.drop_succ_cons List.drop_nil List.take_nil
attribute [go_sem] List.take_length List.headD_cons List.map_replicate List.length_replicate List.length_take List.length_drop List.length_append List.length_set
attribute [go_sem] List.all_nil List.all_cons List.getD_cons_zero List.getD_cons_succ List.set_cons_zero List.set_cons_succ List.isEmpty_nil List.mem_cons
attribute [go_sem] List.not_mem_nil or_false false_or or_true true_or forall_eq_or_imp forall_eq List.range_succ List.range_zero bne_iff_ne ne_eq rcv rcvL rcvP adH
attribute [go_sem] lentAds frA frL frP lkAll okO dOK nFr RT RT1 Tr_lit Tr_by Tr_agg Tr_nil Tr_li TrC_lie trE_nil trE_cons trA_nil trA_cons TrC_by decide_true
attribute [go_sem] decide_false Bool.and_true Bool.true_and Bool.and_false Bool.false_and Bool.or_true Bool.or_false Bool.false_or Bool.true_or Bool.not_true
attribute [go_sem] Bool.not_false Bool.false_eq_true cond_true cond_false beq_self_eq_true true_and and_true true_implies implies_true false_implies not_true_eq_false
attribute [go_sem] not_false_eq_true Nat.min_self Nat.min_def Int.cast_ofNat_Int if_true if_false Int.toNat_natCast Nat.zero_add Nat.add_zero Nat.mul_one Nat.one_mul
attribute [go_sem] Nat.sub_zero List.nodup_nil List.nodup_cons Option.mem_def Option.some.injEq forall_eq' ExR sbT sbL AV.by_.injEq AV.lit.injEq AV.agg.injEq AV.li.injEq
attribute [go_sem] List.cons.injEq Value.int.injEq Value.bool.injEq List.cons_ne_nil eq_self resA fzL fz1 frs frks kOf lnt mkR isT wkC rnC kltL lntL ninL injL blkL tmL
attribute [go_sem] rbC rnCC rnE rnL Option.isSome_some AV.sl.injEq AV.ptr.injEq Blk.mk.injEq NmR cvM fc fv
end Go.TravelAbs
