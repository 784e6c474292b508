/- Short names for lemmas that the long texts name many times. -/
import Derived.Test.YtmlhlcdamppbfaaDoorXax0
set_option linter.defProp false
set_option linter.unusedVariables false
namespace Go.Proofs.YtmlhlcdamppbfaaDoor.Xa
open Go.RowKit Go.Proofs.YtmlhlcdamppbfaaDoorW.PrintWords Go.Proofs.YtmlhlcdamppbfaaDoorW.PrintLast Go.Proofs.YtmlhlcdamppbfaaDoorW.PrintMore
def rA := @Kd.R_alloc
def rN := @Kd.R_drewN
def rD := @Kd.R_drew
def cA := @Kd.C_alloc
def cN := @Kd.C_drewN
def cD := @Kd.C_drew
def bN := @blk_drewN
def bD := @blk_drew
def bA := @blk_alloc
def lA := @below_alloc
def lN := @pw_below_drewN
def lD := @below_drew1
def lS := @below_step
def lT := @below_set
def aM := @Aside0.mk
def sA := @List.setIfInBounds_toArray
def sZ := @List.set_cons_zero
def sS := @List.set_cons_succ
def rL := @Kd.R_lower
def rB := @Kd.R_below
def rE := @Kd.R_elder'
def rW := @Kd.R_new'
def rS := @Kd.R_base
def rT := @Kd.R_lt
def rF := @Kd.R_after
def rM := @Kd.R_mono
def rY := @Kd.R_types
def kF := @Kd.fresh'
def bB := @blk_below
def rR := @Kd.R_reads'
def lZ := @below_size
def rP := @Kd.R_step
def rX := @Kd.R_far
def bX := @blk_far
end Go.Proofs.YtmlhlcdamppbfaaDoor.Xa
