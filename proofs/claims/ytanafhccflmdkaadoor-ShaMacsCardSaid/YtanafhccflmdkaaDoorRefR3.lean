/- Sixteen roots, reckoned by the kernel. -/
import Derived.Test.YtanafhccflmdkaaDoorXax10
namespace Go.Proofs.YtanafhccflmdkaaDoor.Ref
open Go.RowKit Go.Proofs.YtanafhccflmdkaaDoor.Xa
set_option maxRecDepth 100000
theorem rt_48 : transeptref03_root.f 300 227 true = some 430227734 := by decide +kernel
theorem rt_49 : transeptref03_root.f 300 229 true = some 506948616 := by decide +kernel
theorem rt_50 : transeptref03_root.f 300 233 true = some 659060556 := by decide +kernel
theorem rt_51 : transeptref03_root.f 300 239 true = some 883997877 := by decide +kernel
theorem rt_52 : transeptref03_root.f 300 241 true = some 958139571 := by decide +kernel
theorem rt_53 : transeptref03_root.f 300 251 true = some 1322822218 := by decide +kernel
theorem rt_54 : transeptref03_root.f 300 257 true = some 1537002063 := by decide +kernel
theorem rt_55 : transeptref03_root.f 300 263 true = some 1747873779 := by decide +kernel
theorem rt_56 : transeptref03_root.f 300 269 true = some 1955562222 := by decide +kernel
theorem rt_57 : transeptref03_root.f 300 271 true = some 2024104815 := by decide +kernel
theorem rt_58 : transeptref03_root.f 300 277 true = some 2227730452 := by decide +kernel
theorem rt_59 : transeptref03_root.f 300 281 true = some 2361852424 := by decide +kernel
theorem rt_60 : transeptref03_root.f 300 283 true = some 2428436474 := by decide +kernel
theorem rt_61 : transeptref03_root.f 300 293 true = some 2756734187 := by decide +kernel
theorem rt_62 : transeptref03_root.f 300 307 true = some 3204031479 := by decide +kernel
theorem rt_63 : transeptref03_root.f 300 311 true = some 3329325298 := by decide +kernel
end Go.Proofs.YtanafhccflmdkaaDoor.Ref
