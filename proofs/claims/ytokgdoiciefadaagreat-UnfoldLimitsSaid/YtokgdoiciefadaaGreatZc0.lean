/- The compiled functions are those of the loaded program: part 0. Printed by wip/tools. -/
import Derived.Test.YtokgdoiciefadaaGreatZt
namespace Go.Proofs.YtokgdoiciefadaaGreat
theorem c272 : compFn Tryz.prog (trWith trL []) [] false false [[3, 4, 5, 6]] Tryz.f4 = some f272 := by kernel_rfl
theorem r272 : RowOK Tryz.prog fo f272 4 := .mk (trWith_ok trL_ok (by kernel_rfl)) Tryz.func4 (by kernel_rfl) c272
theorem c277 : compFn Tryz.prog (trWith trL []) [] false false [[5, 6, 7, 9, 10]] Tryz.f9 = some f277 := by kernel_rfl
theorem r277 : RowOK Tryz.prog fo f277 9 := .mk (trWith_ok trL_ok (by kernel_rfl)) Tryz.func9 (by kernel_rfl) c277
theorem c279 : compFn Tryz.prog (trWith trL []) [] false false [] Tryz.f12 = some f279 := by kernel_rfl
theorem r279 : RowOK Tryz.prog fo f279 12 := .mk (trWith_ok trL_ok (by kernel_rfl)) Tryz.func12 (by kernel_rfl) c279
theorem c280 : compFn Tryz.prog (trWith trL []) [] false false [] Tryz.f13 = some f280 := by kernel_rfl
theorem r280 : RowOK Tryz.prog fo f280 13 := .mk (trWith_ok trL_ok (by kernel_rfl)) Tryz.func13 (by kernel_rfl) c280
theorem c282 : compFn Tryz.prog (trWith trL []) [] true false [] Tryz.f15 = some f282 := by kernel_rfl
theorem r282 : RowOK Tryz.prog fo f282 15 := .mk (trWith_ok trL_ok (by kernel_rfl)) Tryz.func15 (by kernel_rfl) c282
theorem c30 : compFn Tryz.prog (trWith trL []) [] false false [[5]] Tryz.f16 = some f30 := by kernel_rfl
theorem r30 : RowOK Tryz.prog fo f30 16 := .mk (trWith_ok trL_ok (by kernel_rfl)) Tryz.func16 (by kernel_rfl) c30
theorem c12 : compFn Tryz.prog (trWith trL []) [true] false false [] Tryz.f18 = some f12 := by kernel_rfl
theorem r12 : RowOK Tryz.prog fo f12 18 := .mk (trWith_ok trL_ok (by kernel_rfl)) Tryz.func18 (by kernel_rfl) c12
theorem c8 : compFn Tryz.prog (trWith trL []) [true] false false [] Tryz.f19 = some f8 := by kernel_rfl
theorem r8 : RowOK Tryz.prog fo f8 19 := .mk (trWith_ok trL_ok (by kernel_rfl)) Tryz.func19 (by kernel_rfl) c8
theorem c286 : compFn Tryz.prog (trWith trL []) [] false false [[1, 5, 6, 30, 31], [1, 5, 6, 30, 31, 34, 35, 36]] Tryz.f23 = some f286 := by kernel_rfl
theorem r286 : RowOK Tryz.prog fo f286 23 := .mk (trWith_ok trL_ok (by kernel_rfl)) Tryz.func23 (by kernel_rfl) c286
theorem c291 : compFn Tryz.prog (trWith trL []) [] false false [] Tryz.f29 = some f291 := by kernel_rfl
theorem r291 : RowOK Tryz.prog fo f291 29 := .mk (trWith_ok trL_ok (by kernel_rfl)) Tryz.func29 (by kernel_rfl) c291
theorem c29 : compFn Tryz.prog (trWith trL []) [] false false [[1, 4, 5, 12, 13, 14]] Tryz.f33 = some f29 := by kernel_rfl
theorem r29 : RowOK Tryz.prog fo f29 33 := .mk (trWith_ok trL_ok (by kernel_rfl)) Tryz.func33 (by kernel_rfl) c29
theorem c292 : compFn Tryz.prog (trWith trL []) [] false false [] Tryz.f34 = some f292 := by kernel_rfl
theorem r292 : RowOK Tryz.prog fo f292 34 := .mk (trWith_ok trL_ok (by kernel_rfl)) Tryz.func34 (by kernel_rfl) c292
theorem c293 : compFn Tryz.prog (trWith trL []) [] false false [] Tryz.f35 = some f293 := by kernel_rfl
theorem r293 : RowOK Tryz.prog fo f293 35 := .mk (trWith_ok trL_ok (by kernel_rfl)) Tryz.func35 (by kernel_rfl) c293
theorem c294 : compFn Tryz.prog (trWith trL []) [] false false [] Tryz.f36 = some f294 := by kernel_rfl
theorem r294 : RowOK Tryz.prog fo f294 36 := .mk (trWith_ok trL_ok (by kernel_rfl)) Tryz.func36 (by kernel_rfl) c294
theorem c295 : compFn Tryz.prog (trWith trL []) [] true true [] Tryz.f37 = some f295 := by kernel_rfl
theorem r295 : RowOK Tryz.prog fo f295 37 := .mk (trWith_ok trL_ok (by kernel_rfl)) Tryz.func37 (by kernel_rfl) c295
theorem c296 : compFn Tryz.prog (trWith trL []) [true] false false [[0, 2, 6, 7, 12, 13, 14], [0, 2, 6, 7, 9, 10, 11, 12, 13, 14, 58, 59]] Tryz.f38 = some f296 := by kernel_rfl
theorem r296 : RowOK Tryz.prog fo f296 38 := .mk (trWith_ok trL_ok (by kernel_rfl)) Tryz.func38 (by kernel_rfl) c296
theorem c297 : compFn Tryz.prog (trWith trL []) [] true false [[3, 8, 9, 10]] Tryz.f39 = some f297 := by kernel_rfl
theorem r297 : RowOK Tryz.prog fo f297 39 := .mk (trWith_ok trL_ok (by kernel_rfl)) Tryz.func39 (by kernel_rfl) c297
theorem c298 : compFn Tryz.prog (trWith trL []) [true] false false [[0, 2, 3, 9, 14, 15, 16], [0, 2, 3, 9, 11, 12, 13, 14, 15, 16, 46, 47]] Tryz.f40 = some f298 := by kernel_rfl
theorem r298 : RowOK Tryz.prog fo f298 40 := .mk (trWith_ok trL_ok (by kernel_rfl)) Tryz.func40 (by kernel_rfl) c298
theorem c299 : compFn Tryz.prog (trWith trL []) [true, true] false false [[0, 1, 6, 7]] Tryz.f41 = some f299 := by kernel_rfl
theorem r299 : RowOK Tryz.prog fo f299 41 := .mk (trWith_ok trL_ok (by kernel_rfl)) Tryz.func41 (by kernel_rfl) c299
theorem c300 : compFn Tryz.prog (trWith trL []) [] true true [] Tryz.f42 = some f300 := by kernel_rfl
theorem r300 : RowOK Tryz.prog fo f300 42 := .mk (trWith_ok trL_ok (by kernel_rfl)) Tryz.func42 (by kernel_rfl) c300
theorem c301 : compFn Tryz.prog (trWith trL []) [] false false [[1, 2, 10, 11, 12]] Tryz.f43 = some f301 := by kernel_rfl
theorem r301 : RowOK Tryz.prog fo f301 43 := .mk (trWith_ok trL_ok (by kernel_rfl)) Tryz.func43 (by kernel_rfl) c301
theorem c46 : compFn Tryz.prog (trWith trL []) [true] false false [[0, 1, 5, 12, 13]] Tryz.f46 = some f46 := by kernel_rfl
theorem r46 : RowOK Tryz.prog fo f46 46 := .mk (trWith_ok trL_ok (by kernel_rfl)) Tryz.func46 (by kernel_rfl) c46
theorem c57 : compFn Tryz.prog (trWith trL []) [] false false [[2, 3]] Tryz.f47 = some f57 := by kernel_rfl
theorem r57 : RowOK Tryz.prog fo f57 47 := .mk (trWith_ok trL_ok (by kernel_rfl)) Tryz.func47 (by kernel_rfl) c57
theorem c58 : compFn Tryz.prog (trWith trL []) [] false false [] Tryz.f48 = some f58 := by kernel_rfl
theorem r58 : RowOK Tryz.prog fo f58 48 := .mk (trWith_ok trL_ok (by kernel_rfl)) Tryz.func48 (by kernel_rfl) c58
theorem c59 : compFn Tryz.prog (trWith trL []) [] false false [[1, 2, 20, 21, 22], [1, 2, 3, 20, 21, 22, 33, 34, 35]] Tryz.f49 = some f59 := by kernel_rfl
theorem r59 : RowOK Tryz.prog fo f59 49 := .mk (trWith_ok trL_ok (by kernel_rfl)) Tryz.func49 (by kernel_rfl) c59
set_option maxRecDepth 10000 in
theorem ok0 : AllOK Tryz.prog fo VP fs0 := .cons rfl r272 <| .cons rfl r277 <| .cons rfl r279 <| .cons rfl r280 <| .cons rfl r282 <| .cons rfl r30 <| .cons rfl r12 <| .cons rfl r8 <| .cons rfl r286 <| .cons rfl r291 <| .cons rfl r29 <| .cons rfl r292 <| .cons rfl r293 <| .cons rfl r294 <| .cons rfl r295 <| .cons rfl r296 <| .cons rfl r297 <| .cons rfl r298 <| .cons rfl r299 <| .cons rfl r300 <| .cons rfl r301 <| .cons rfl r46 <| .cons rfl r57 <| .cons rfl r58 <| .cons rfl r59 <| .nil
end Go.Proofs.YtokgdoiciefadaaGreat
