/- Sixteen roots, reckoned by the kernel. -/
import Derived.Test.YtanafhccflmdkaaDoorXax10
namespace Go.Proofs.YtanafhccflmdkaaDoor.Ref
open Go.RowKit Go.Proofs.YtanafhccflmdkaaDoor.Xa
set_option maxRecDepth 100000
theorem rt_16 : transeptref03_root.f 300 59 true = some 3835390401 := by decide +kernel
theorem rt_17 : transeptref03_root.f 300 61 true = some 4022224774 := by decide +kernel
theorem rt_18 : transeptref03_root.f 300 67 true = some 264347078 := by decide +kernel
theorem rt_19 : transeptref03_root.f 300 71 true = some 604807628 := by decide +kernel
theorem rt_20 : transeptref03_root.f 300 73 true = some 770255983 := by decide +kernel
theorem rt_21 : transeptref03_root.f 300 79 true = some 1249150122 := by decide +kernel
theorem rt_22 : transeptref03_root.f 300 83 true = some 1555081692 := by decide +kernel
theorem rt_23 : transeptref03_root.f 300 89 true = some 1996064986 := by decide +kernel
theorem rt_24 : transeptref03_root.f 300 97 true = some 2554220882 := by decide +kernel
theorem rt_25 : transeptref03_root.f 300 101 true = some 2821834349 := by decide +kernel
theorem rt_26 : transeptref03_root.f 300 103 true = some 2952996808 := by decide +kernel
theorem rt_27 : transeptref03_root.f 300 107 true = some 3210313671 := by decide +kernel
theorem rt_28 : transeptref03_root.f 300 109 true = some 3336571891 := by decide +kernel
theorem rt_29 : transeptref03_root.f 300 113 true = some 3584528711 := by decide +kernel
theorem rt_30 : transeptref03_root.f 300 127 true = some 113926993 := by decide +kernel
theorem rt_31 : transeptref03_root.f 300 131 true = some 338241895 := by decide +kernel
end Go.Proofs.YtanafhccflmdkaaDoor.Ref
