/- The compiled functions are those of the loaded program: part 1. Printed by wip/tools. -/
import Derived.Test.YtokgdoiciefadaaGreatZt
namespace Go.Proofs.YtokgdoiciefadaaGreat
theorem c25 : compFn Tryz.prog (trWith trL []) [true] false false [] Tryz.f53 = some f25 := by kernel_rfl
theorem r25 : RowOK Tryz.prog fo f25 53 := .mk (trWith_ok trL_ok (by kernel_rfl)) Tryz.func53 (by kernel_rfl) c25
theorem c309 : compFn Tryz.prog (trWith trL []) [] false false [] Tryz.f61 = some f309 := by kernel_rfl
theorem r309 : RowOK Tryz.prog fo f309 61 := .mk (trWith_ok trL_ok (by kernel_rfl)) Tryz.func61 (by kernel_rfl) c309
theorem c310 : compFn Tryz.prog (trWith trL []) [] false false [] Tryz.f62 = some f310 := by kernel_rfl
theorem r310 : RowOK Tryz.prog fo f310 62 := .mk (trWith_ok trL_ok (by kernel_rfl)) Tryz.func62 (by kernel_rfl) c310
theorem c311 : compFn Tryz.prog (trWith trL []) [] false false [[1, 4, 8, 9, 10]] Tryz.f63 = some f311 := by kernel_rfl
theorem r311 : RowOK Tryz.prog fo f311 63 := .mk (trWith_ok trL_ok (by kernel_rfl)) Tryz.func63 (by kernel_rfl) c311
theorem c312 : compFn Tryz.prog (trWith trL []) [] false false [[3, 6, 7, 8]] Tryz.f64 = some f312 := by kernel_rfl
theorem r312 : RowOK Tryz.prog fo f312 64 := .mk (trWith_ok trL_ok (by kernel_rfl)) Tryz.func64 (by kernel_rfl) c312
theorem c49 : compFn Tryz.prog (trWith trL []) [] false false [[1, 3, 15, 16, 17], [3, 31, 32, 33]] Tryz.f72 = some f49 := by kernel_rfl
theorem r49 : RowOK Tryz.prog fo f49 72 := .mk (trWith_ok trL_ok (by kernel_rfl)) Tryz.func72 (by kernel_rfl) c49
theorem c50 : compFn Tryz.prog (trWith trL []) [] false false [] Tryz.f73 = some f50 := by kernel_rfl
theorem r50 : RowOK Tryz.prog fo f50 73 := .mk (trWith_ok trL_ok (by kernel_rfl)) Tryz.func73 (by kernel_rfl) c50
theorem c51 : compFn Tryz.prog (trWith trL []) [] false false [] Tryz.f74 = some f51 := by kernel_rfl
theorem r51 : RowOK Tryz.prog fo f51 74 := .mk (trWith_ok trL_ok (by kernel_rfl)) Tryz.func74 (by kernel_rfl) c51
theorem c52 : compFn Tryz.prog (trWith trL []) [] false false [[3, 9, 10, 11]] Tryz.f75 = some f52 := by kernel_rfl
theorem r52 : RowOK Tryz.prog fo f52 75 := .mk (trWith_ok trL_ok (by kernel_rfl)) Tryz.func75 (by kernel_rfl) c52
theorem c53 : compFn Tryz.prog (trWith trL []) [] false false [] Tryz.f76 = some f53 := by kernel_rfl
theorem r53 : RowOK Tryz.prog fo f53 76 := .mk (trWith_ok trL_ok (by kernel_rfl)) Tryz.func76 (by kernel_rfl) c53
theorem c54 : compFn Tryz.prog (trWith trL []) [] false false [] Tryz.f77 = some f54 := by kernel_rfl
theorem r54 : RowOK Tryz.prog fo f54 77 := .mk (trWith_ok trL_ok (by kernel_rfl)) Tryz.func77 (by kernel_rfl) c54
theorem c55 : compFn Tryz.prog (trWith trL []) [] false false [[3, 12, 13, 14], [3, 5, 12, 13, 14, 34, 35, 36]] Tryz.f78 = some f55 := by kernel_rfl
theorem r55 : RowOK Tryz.prog fo f55 78 := .mk (trWith_ok trL_ok (by kernel_rfl)) Tryz.func78 (by kernel_rfl) c55
theorem c56 : compFn Tryz.prog (trWith trL []) [] false false [[1, 3, 57, 58, 59], [112, 113, 114]] Tryz.f79 = some f56 := by kernel_rfl
theorem r56 : RowOK Tryz.prog fo f56 79 := .mk (trWith_ok trL_ok (by kernel_rfl)) Tryz.func79 (by kernel_rfl) c56
theorem c35 : compFn Tryz.prog (trWith trL []) [] false false [] Tryz.f80 = some f35 := by kernel_rfl
theorem r35 : RowOK Tryz.prog fo f35 80 := .mk (trWith_ok trL_ok (by kernel_rfl)) Tryz.func80 (by kernel_rfl) c35
theorem c319 : compFn Tryz.prog (trWith trL []) [] false false [] Tryz.f81 = some f319 := by kernel_rfl
theorem r319 : RowOK Tryz.prog fo f319 81 := .mk (trWith_ok trL_ok (by kernel_rfl)) Tryz.func81 (by kernel_rfl) c319
theorem c320 : compFn Tryz.prog (trWith trL []) [] false false [[0, 1, 7, 8]] Tryz.f82 = some f320 := by kernel_rfl
theorem r320 : RowOK Tryz.prog fo f320 82 := .mk (trWith_ok trL_ok (by kernel_rfl)) Tryz.func82 (by kernel_rfl) c320
theorem c321 : compFn Tryz.prog (trWith trL []) [] false false [] Tryz.f83 = some f321 := by kernel_rfl
theorem r321 : RowOK Tryz.prog fo f321 83 := .mk (trWith_ok trL_ok (by kernel_rfl)) Tryz.func83 (by kernel_rfl) c321
theorem c322 : compFn Tryz.prog (trWith trL []) [] false false [] Tryz.f84 = some f322 := by kernel_rfl
theorem r322 : RowOK Tryz.prog fo f322 84 := .mk (trWith_ok trL_ok (by kernel_rfl)) Tryz.func84 (by kernel_rfl) c322
theorem c323 : compFn Tryz.prog (trWith trL []) [true] false false [[4, 6, 8, 11, 73, 74, 75]] Tryz.f85 = some f323 := by kernel_rfl
theorem r323 : RowOK Tryz.prog fo f323 85 := .mk (trWith_ok trL_ok (by kernel_rfl)) Tryz.func85 (by kernel_rfl) c323
theorem c324 : compFn Tryz.prog (trWith trL []) [] false false [[3, 8, 9, 10]] Tryz.f86 = some f324 := by kernel_rfl
theorem r324 : RowOK Tryz.prog fo f324 86 := .mk (trWith_ok trL_ok (by kernel_rfl)) Tryz.func86 (by kernel_rfl) c324
theorem c325 : compFn Tryz.prog (trWith trL []) [] true true [] Tryz.f87 = some f325 := by kernel_rfl
theorem r325 : RowOK Tryz.prog fo f325 87 := .mk (trWith_ok trL_ok (by kernel_rfl)) Tryz.func87 (by kernel_rfl) c325
theorem c326 : compFn Tryz.prog (trWith trL []) [] false false [] Tryz.f88 = some f326 := by kernel_rfl
theorem r326 : RowOK Tryz.prog fo f326 88 := .mk (trWith_ok trL_ok (by kernel_rfl)) Tryz.func88 (by kernel_rfl) c326
theorem c327 : compFn Tryz.prog (trWith trL []) [] false false [[3, 8, 9]] Tryz.f89 = some f327 := by kernel_rfl
theorem r327 : RowOK Tryz.prog fo f327 89 := .mk (trWith_ok trL_ok (by kernel_rfl)) Tryz.func89 (by kernel_rfl) c327
theorem c328 : compFn Tryz.prog (trWith trL []) [] false false [[1, 2, 4, 20, 21]] Tryz.f90 = some f328 := by kernel_rfl
theorem r328 : RowOK Tryz.prog fo f328 90 := .mk (trWith_ok trL_ok (by kernel_rfl)) Tryz.func90 (by kernel_rfl) c328
theorem c329 : compFn Tryz.prog (trWith trL []) [true] false false [[3, 5, 10, 11, 12, 14, 16, 96, 97], [3, 5, 11, 14, 18, 125, 126, 127]] Tryz.f91 = some f329 := by kernel_rfl
theorem r329 : RowOK Tryz.prog fo f329 91 := .mk (trWith_ok trL_ok (by kernel_rfl)) Tryz.func91 (by kernel_rfl) c329
set_option maxRecDepth 10000 in
theorem ok1 : AllOK Tryz.prog fo VP fs1 := .cons rfl r25 <| .cons rfl r309 <| .cons rfl r310 <| .cons rfl r311 <| .cons rfl r312 <| .cons rfl r49 <| .cons rfl r50 <| .cons rfl r51 <| .cons rfl r52 <| .cons rfl r53 <| .cons rfl r54 <| .cons rfl r55 <| .cons rfl r56 <| .cons rfl r35 <| .cons rfl r319 <| .cons rfl r320 <| .cons rfl r321 <| .cons rfl r322 <| .cons rfl r323 <| .cons rfl r324 <| .cons rfl r325 <| .cons rfl r326 <| .cons rfl r327 <| .cons rfl r328 <| .cons rfl r329 <| .nil
end Go.Proofs.YtokgdoiciefadaaGreat
