/- The compiled functions are those of the loaded program: part 7. Printed by wip/tools. -/
import Derived.Test.YtokgdoiciefadaaGreatZt
namespace Go.Proofs.YtokgdoiciefadaaGreat
theorem c220 : compFn Tryz.prog (trWith trL []) [] false false [[0, 1, 5]] Tryz.f287 = some f220 := by kernel_rfl
theorem r220 : RowOK Tryz.prog fo f220 287 := .mk (trWith_ok trL_ok (by kernel_rfl)) Tryz.func287 (by kernel_rfl) c220
theorem c197 : compFn Tryz.prog (trWith trL []) [] false false [] Tryz.f288 = some f197 := by kernel_rfl
theorem r197 : RowOK Tryz.prog fo f197 288 := .mk (trWith_ok trL_ok (by kernel_rfl)) Tryz.func288 (by kernel_rfl) c197
theorem c198 : compFn Tryz.prog (trWith trL []) [] false false [] Tryz.f289 = some f198 := by kernel_rfl
theorem r198 : RowOK Tryz.prog fo f198 289 := .mk (trWith_ok trL_ok (by kernel_rfl)) Tryz.func289 (by kernel_rfl) c198
theorem c196 : compFn Tryz.prog (trWith trL []) [] false false [[1, 5, 24, 25, 26], [1, 5, 6, 7, 8, 24, 25, 26, 31, 32, 33]] Tryz.f290 = some f196 := by kernel_rfl
theorem r196 : RowOK Tryz.prog fo f196 290 := .mk (trWith_ok trL_ok (by kernel_rfl)) Tryz.func290 (by kernel_rfl) c196
theorem c217 : compFn Tryz.prog (trWith trL []) [] false false [[0]] Tryz.f291 = some f217 := by kernel_rfl
theorem r217 : RowOK Tryz.prog fo f217 291 := .mk (trWith_ok trL_ok (by kernel_rfl)) Tryz.func291 (by kernel_rfl) c217
theorem c218 : compFn Tryz.prog (trWith trL []) [] false false [[3, 6, 7, 8]] Tryz.f292 = some f218 := by kernel_rfl
theorem r218 : RowOK Tryz.prog fo f218 292 := .mk (trWith_ok trL_ok (by kernel_rfl)) Tryz.func292 (by kernel_rfl) c218
theorem c219 : compFn Tryz.prog (trWith trL []) [] false false [] Tryz.f293 = some f219 := by kernel_rfl
theorem r219 : RowOK Tryz.prog fo f219 293 := .mk (trWith_ok trL_ok (by kernel_rfl)) Tryz.func293 (by kernel_rfl) c219
theorem c221 : compFn Tryz.prog (trWith trL []) [] false false [[0, 1, 6, 7, 8]] Tryz.f294 = some f221 := by kernel_rfl
theorem r221 : RowOK Tryz.prog fo f221 294 := .mk (trWith_ok trL_ok (by kernel_rfl)) Tryz.func294 (by kernel_rfl) c221
theorem c199 : compFn Tryz.prog (trWith trL []) [true] false false [[0, 1, 2, 3, 4, 10, 11]] Tryz.f296 = some f199 := by kernel_rfl
theorem r199 : RowOK Tryz.prog fo f199 296 := .mk (trWith_ok trL_ok (by kernel_rfl)) Tryz.func296 (by kernel_rfl) c199
theorem c200 : compFn Tryz.prog (trWith trL []) [] false false [] Tryz.f297 = some f200 := by kernel_rfl
theorem r200 : RowOK Tryz.prog fo f200 297 := .mk (trWith_ok trL_ok (by kernel_rfl)) Tryz.func297 (by kernel_rfl) c200
theorem c216 : compFn Tryz.prog (trWith trL []) [] false false [[0, 1, 7, 8]] Tryz.f299 = some f216 := by kernel_rfl
theorem r216 : RowOK Tryz.prog fo f216 299 := .mk (trWith_ok trL_ok (by kernel_rfl)) Tryz.func299 (by kernel_rfl) c216
theorem c226 : compFn Tryz.prog (trWith trL []) [] false false [[0, 1, 5, 6, 21, 22, 23]] Tryz.f300 = some f226 := by kernel_rfl
theorem r226 : RowOK Tryz.prog fo f226 300 := .mk (trWith_ok trL_ok (by kernel_rfl)) Tryz.func300 (by kernel_rfl) c226
theorem c227 : compFn Tryz.prog (trWith trL []) [] false false [[1, 6, 7, 22, 23, 24]] Tryz.f301 = some f227 := by kernel_rfl
theorem r227 : RowOK Tryz.prog fo f227 301 := .mk (trWith_ok trL_ok (by kernel_rfl)) Tryz.func301 (by kernel_rfl) c227
theorem c224 : compFn Tryz.prog (trWith trL []) [] false false [] Tryz.f302 = some f224 := by kernel_rfl
theorem r224 : RowOK Tryz.prog fo f224 302 := .mk (trWith_ok trL_ok (by kernel_rfl)) Tryz.func302 (by kernel_rfl) c224
theorem c225 : compFn Tryz.prog (trWith trL []) [] false false [] Tryz.f303 = some f225 := by kernel_rfl
theorem r225 : RowOK Tryz.prog fo f225 303 := .mk (trWith_ok trL_ok (by kernel_rfl)) Tryz.func303 (by kernel_rfl) c225
theorem c250 : compFn Tryz.prog (trWith trL []) [] false false [] Tryz.f304 = some f250 := by kernel_rfl
theorem r250 : RowOK Tryz.prog fo f250 304 := .mk (trWith_ok trL_ok (by kernel_rfl)) Tryz.func304 (by kernel_rfl) c250
theorem c228 : compFn Tryz.prog (trWith trL []) [true] false false [[0, 1, 2, 3, 8], [0, 1, 2, 3, 8, 9]] Tryz.f307 = some f228 := by kernel_rfl
theorem r228 : RowOK Tryz.prog fo f228 307 := .mk (trWith_ok trL_ok (by kernel_rfl)) Tryz.func307 (by kernel_rfl) c228
theorem c237 : compFn Tryz.prog (trWith trL []) [] false false [] Tryz.f316 = some f237 := by kernel_rfl
theorem r237 : RowOK Tryz.prog fo f237 316 := .mk (trWith_ok trL_ok (by kernel_rfl)) Tryz.func316 (by kernel_rfl) c237
theorem c253 : compFn Tryz.prog (trWith trL []) [] false false [] Tryz.f318 = some f253 := by kernel_rfl
theorem r253 : RowOK Tryz.prog fo f253 318 := .mk (trWith_ok trL_ok (by kernel_rfl)) Tryz.func318 (by kernel_rfl) c253
set_option maxRecDepth 10000 in
theorem ok7 : AllOK Tryz.prog fo VP fs7 := .cons rfl r220 <| .cons rfl r197 <| .cons rfl r198 <| .cons rfl r196 <| .cons rfl r217 <| .cons rfl r218 <| .cons rfl r219 <| .cons rfl r221 <| .cons rfl r199 <| .cons rfl r200 <| .cons rfl r216 <| .cons rfl r226 <| .cons rfl r227 <| .cons rfl r224 <| .cons rfl r225 <| .cons rfl r250 <| .cons rfl r228 <| .cons rfl r237 <| .cons rfl r253 <| .nil
end Go.Proofs.YtokgdoiciefadaaGreat
