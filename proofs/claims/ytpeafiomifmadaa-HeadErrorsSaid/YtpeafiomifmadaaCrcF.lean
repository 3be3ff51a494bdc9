/- The document's seals on the machine of values. -/
import Derived.Test.YtpeafiomifmadaaRefA
namespace Go.Ab
open Go
set_option linter.unusedVariables false
set_option linter.unusedSimpArgs false
set_option maxRecDepth 10000

theorem conv_u64 {n : Nat} (h : n < 4294967296) : IntKind.u64.wrap (n : Int) = n := by rw [wrap_u64_nat, Nat.mod_eq_of_lt (by omega)]

theorem rseal_G {bs : List Nat} (hb : ∀ b ∈ bs, b < 256) (hl : bs.length ≤ 1099511627776) : GF gtab fid_archipelagoref1_Seal [.list false 1 (un .u8 bs)] [] 0 = some (.own 1 (un .u8 (bs ++ le4 (crcSum bs))), []) := by
  refine fn_archipelagoref1_Seal rfl ?_
  simp only [genvOf]
  have hs := crcSum_lt hb
  have hf : GF gtab fid_archipelagoref1_Fixed [.int .u64 (crcSum bs : Nat), .int .i64 4] [] 0 = some (.own 1 (un .u8 (le4 (crcSum bs))), []) := by
    rw [le4_leB]
    exact fixed_G (v := crcSum bs) (n := 4) (by omega) (by omega) (by omega)
  have hr1 : (bs.length * 1 ≤ room) = True := eq_true (by unfold room; omega)
  have hr2 : ((bs.length + (le4 (crcSum bs)).length) * 1 ≤ room) = True := eq_true (by simp [le4, room]; omega)
  refine Zr rfl (by simp (maxSteps := 2000000) only [gevReg_cons,gevReg_nil,gguardOk,gwanted,IOp.grun,IOp.gex,Opd.gev,gevs,GEnv.get,GEnv.put,GEnv.keep,U.ofV,U.ofVs,U.share,shares,U.moved,U.handed,demote,U.cells,U.mcells,U.one,gof,gfill,gfillRow,gload,gtake,gstore,els,gfresh,isIn,memN,goptInt,gpart,U.slice,U.toV,toVs,U.eqk,plainEq,ubin,uun,V.bin,V.un,intOp,shiftOp,strOp,ukeyEq,umapFind,umapPut,uminmax,tupDemote,thaw,ownCall,roCall,rwCall,cloneCall,U.snap,snapL,snapLL,scalLL,rfL,rfLL,U.rf,U.clean,U.clean1,cleanL,U.scal,scalL,cut,lay,V.one,gnum,if_true,if_false,reduceIte,reduceCtorEq,Nat.reduceEqDiff,Nat.reduceLT,Nat.reduceAdd,Nat.reduceSub,Nat.reduceLeDiff,Nat.reduceMul,Int.reduceToNat,Int.toNat_natCast,Int.reduceLT,Int.reduceLE,Int.reduceEq,Int.reduceNe,Int.reduceBEq,Int.reduceBNe,Int.reduceAdd,Int.reduceSub,Int.reduceNeg,Nat.zero_add,Nat.add_zero,Nat.le_refl,Nat.zero_le,decide_true,decide_false,List.replicate,List.set_cons_zero,List.set_cons_succ,List.length_cons,List.length_nil,List.all_cons,List.all_nil,List.isEmpty_cons,List.isEmpty_nil,List.map_cons,List.map_nil,List.getElem?_cons_zero,List.getElem?_cons_succ,List.nil_append,List.cons_append,List.drop_zero,List.drop_succ_cons,List.take_succ_cons,List.take_zero,Option.map_some,Option.map_none,Option.getD_some,Option.getD_none,Option.isSome_some,Option.isSome_none,Bool.and_true,Bool.true_and,Bool.and_false,Bool.false_and,Bool.or_false,Bool.false_or,Bool.and_self,Bool.or_self,Bool.false_eq_true,Bool.true_eq_false,and_self,and_true,true_and,and_false,false_and,ne_eq,not_true_eq_false,not_false_eq_true,Nat.zero_lt_succ,Nat.lt_add_one,beq_self_eq_true,beq_ft,beq_tf,Bool.not_true,Bool.not_false,Int.natCast_zero,Int.natCast_one,Int.cast_ofNat_Int]; rfl) ?_
  refine Zr rfl (by simp only [gevReg_cons,gevReg_nil,gguardOk,gwanted,IOp.grun,IOp.gex,Opd.gev,gevs,GEnv.get,GEnv.put,GEnv.keep,U.ofV,U.ofVs,U.share,shares,U.moved,U.handed,demote,U.cells,U.mcells,U.one,gof,gfill,gfillRow,gload,gtake,gstore,els,gfresh,isIn,memN,goptInt,gpart,U.slice,U.toV,toVs,U.eqk,plainEq,ubin,uun,V.bin,V.un,intOp,shiftOp,strOp,ukeyEq,umapFind,umapPut,uminmax,tupDemote,thaw,ownCall,roCall,rwCall,cloneCall,U.snap,snapL,snapLL,scalLL,rfL,rfLL,U.rf,U.clean,U.clean1,cleanL,U.scal,scalL,cut,lay,V.one,gnum,if_true,if_false,reduceIte,reduceCtorEq,Nat.reduceEqDiff,Nat.reduceLT,Nat.reduceAdd,Nat.reduceSub,Nat.reduceLeDiff,Nat.reduceMul,Int.reduceToNat,Int.toNat_natCast,Int.reduceLT,Int.reduceLE,Int.reduceEq,Int.reduceNe,Int.reduceBEq,Int.reduceBNe,Int.reduceAdd,Int.reduceSub,Int.reduceNeg,Nat.zero_add,Nat.add_zero,Nat.le_refl,Nat.zero_le,decide_true,decide_false,List.replicate,List.set_cons_zero,List.set_cons_succ,List.length_cons,List.length_nil,List.all_cons,List.all_nil,List.isEmpty_cons,List.isEmpty_nil,List.map_cons,List.map_nil,List.getElem?_cons_zero,List.getElem?_cons_succ,List.nil_append,List.cons_append,List.drop_zero,List.drop_succ_cons,List.take_succ_cons,List.take_zero,Option.map_some,Option.map_none,Option.getD_some,Option.getD_none,Option.isSome_some,Option.isSome_none,Bool.and_true,Bool.true_and,Bool.and_false,Bool.false_and,Bool.or_false,Bool.false_or,Bool.and_self,Bool.or_self,Bool.false_eq_true,Bool.true_eq_false,and_self,and_true,true_and,and_false,false_and,ne_eq,not_true_eq_false,not_false_eq_true,Nat.zero_lt_succ,Nat.lt_add_one,beq_self_eq_true,beq_ft,beq_tf,Bool.not_true,Bool.not_false,Int.natCast_zero,Int.natCast_one,Int.cast_ofNat_Int, un_length, hr1, hr2, gc_archipelagoref1_Sum, snapLL_un, rsum_G hb hl, conv_u64 hs, gc_archipelagoref1_Fixed, hf, un_append]; rfl) (Zq rfl ⟨_, rfl, ?_⟩)
  simp only [gfin, outs, U.out, U.handed, GEnv.get, if_true, Nat.reduceEqDiff, if_false, rfLL_un, Option.map_some]
  rfl

theorem sealN_G : GF gtab fid_crc_Seal [.nils] [] 0 = some (.own 1 (un .u8 [0, 0, 0, 0]), []) := GF_run 60 (by kernel_rfl)
theorem rsealN_G : GF gtab fid_archipelagoref1_Seal [.nils] [] 0 = some (.own 1 (un .u8 [0, 0, 0, 0]), []) := GF_run 60 (by kernel_rfl)

end Go.Ab
