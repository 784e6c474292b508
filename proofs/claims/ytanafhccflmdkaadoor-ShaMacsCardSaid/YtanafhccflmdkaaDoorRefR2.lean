/- Sixteen roots, reckoned by the kernel. -/
import Derived.Test.YtanafhccflmdkaaDoorXax10
namespace Go.Proofs.YtanafhccflmdkaaDoor.Ref
open Go.RowKit Go.Proofs.YtanafhccflmdkaaDoor.Xa
set_option maxRecDepth 100000
theorem rt_32 : transeptref03_root.f 300 137 true = some 666307205 := by decide +kernel
theorem rt_33 : transeptref03_root.f 300 139 true = some 773529912 := by decide +kernel
theorem rt_34 : transeptref03_root.f 300 149 true = some 1294757372 := by decide +kernel
theorem rt_35 : transeptref03_root.f 300 151 true = some 1396182291 := by decide +kernel
theorem rt_36 : transeptref03_root.f 300 157 true = some 1695183700 := by decide +kernel
theorem rt_37 : transeptref03_root.f 300 163 true = some 1986661051 := by decide +kernel
theorem rt_38 : transeptref03_root.f 300 167 true = some 2177026350 := by decide +kernel
theorem rt_39 : transeptref03_root.f 300 173 true = some 2456956037 := by decide +kernel
theorem rt_40 : transeptref03_root.f 300 179 true = some 2730485921 := by decide +kernel
theorem rt_41 : transeptref03_root.f 300 181 true = some 2820302411 := by decide +kernel
theorem rt_42 : transeptref03_root.f 300 191 true = some 3259730800 := by decide +kernel
theorem rt_43 : transeptref03_root.f 300 193 true = some 3345764771 := by decide +kernel
theorem rt_44 : transeptref03_root.f 300 197 true = some 3516065817 := by decide +kernel
theorem rt_45 : transeptref03_root.f 300 199 true = some 3600352804 := by decide +kernel
theorem rt_46 : transeptref03_root.f 300 211 true = some 4094571909 := by decide +kernel
theorem rt_47 : transeptref03_root.f 300 223 true = some 275423344 := by decide +kernel
end Go.Proofs.YtanafhccflmdkaaDoor.Ref
