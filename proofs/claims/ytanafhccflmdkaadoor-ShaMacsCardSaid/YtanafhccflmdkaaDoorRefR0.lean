/- Sixteen roots, reckoned by the kernel. -/
import Derived.Test.YtanafhccflmdkaaDoorXax10
namespace Go.Proofs.YtanafhccflmdkaaDoor.Ref
open Go.RowKit Go.Proofs.YtanafhccflmdkaaDoor.Xa
set_option maxRecDepth 100000
theorem rt_0 : transeptref03_root.f 300 2 true = some 1116352408 := by decide +kernel
theorem rt_1 : transeptref03_root.f 300 3 true = some 1899447441 := by decide +kernel
theorem rt_2 : transeptref03_root.f 300 5 true = some 3049323471 := by decide +kernel
theorem rt_3 : transeptref03_root.f 300 7 true = some 3921009573 := by decide +kernel
theorem rt_4 : transeptref03_root.f 300 11 true = some 961987163 := by decide +kernel
theorem rt_5 : transeptref03_root.f 300 13 true = some 1508970993 := by decide +kernel
theorem rt_6 : transeptref03_root.f 300 17 true = some 2453635748 := by decide +kernel
theorem rt_7 : transeptref03_root.f 300 19 true = some 2870763221 := by decide +kernel
theorem rt_8 : transeptref03_root.f 300 23 true = some 3624381080 := by decide +kernel
theorem rt_9 : transeptref03_root.f 300 29 true = some 310598401 := by decide +kernel
theorem rt_10 : transeptref03_root.f 300 31 true = some 607225278 := by decide +kernel
theorem rt_11 : transeptref03_root.f 300 37 true = some 1426881987 := by decide +kernel
theorem rt_12 : transeptref03_root.f 300 41 true = some 1925078388 := by decide +kernel
theorem rt_13 : transeptref03_root.f 300 43 true = some 2162078206 := by decide +kernel
theorem rt_14 : transeptref03_root.f 300 47 true = some 2614888103 := by decide +kernel
theorem rt_15 : transeptref03_root.f 300 53 true = some 3248222580 := by decide +kernel
end Go.Proofs.YtanafhccflmdkaaDoor.Ref
