/- The compiled functions are those of the loaded program: part 6. Printed by wip/tools. -/
import Derived.Test.YtokgdoiciefadaaGreatZt
namespace Go.Proofs.YtokgdoiciefadaaGreat
theorem c148 : compFn Tryz.prog (trWith trL []) [] false false [] Tryz.f260 = some f148 := by kernel_rfl
theorem r148 : RowOK Tryz.prog fo f148 260 := .mk (trWith_ok trL_ok (by kernel_rfl)) Tryz.func260 (by kernel_rfl) c148
theorem c149 : compFn Tryz.prog (trWith trL []) [] false false [] Tryz.f261 = some f149 := by kernel_rfl
theorem r149 : RowOK Tryz.prog fo f149 261 := .mk (trWith_ok trL_ok (by kernel_rfl)) Tryz.func261 (by kernel_rfl) c149
theorem c150 : compFn Tryz.prog (trWith trL []) [] false false [] Tryz.f262 = some f150 := by kernel_rfl
theorem r150 : RowOK Tryz.prog fo f150 262 := .mk (trWith_ok trL_ok (by kernel_rfl)) Tryz.func262 (by kernel_rfl) c150
theorem c111 : compFn Tryz.prog (trWith trL []) [] false false [[7, 8, 9], [7, 8, 9, 14, 15]] Tryz.f265 = some f111 := by kernel_rfl
theorem r111 : RowOK Tryz.prog fo f111 265 := .mk (trWith_ok trL_ok (by kernel_rfl)) Tryz.func265 (by kernel_rfl) c111
theorem c112 : compFn Tryz.prog (trWith trL []) [] false false [[3, 4, 13, 14, 15], [3, 9, 44, 45, 46]] Tryz.f266 = some f112 := by kernel_rfl
theorem r112 : RowOK Tryz.prog fo f112 266 := .mk (trWith_ok trL_ok (by kernel_rfl)) Tryz.func266 (by kernel_rfl) c112
theorem c262 : compFn Tryz.prog (trWith trL []) [] false false [[0, 3, 4]] Tryz.f267 = some f262 := by kernel_rfl
theorem r262 : RowOK Tryz.prog fo f262 267 := .mk (trWith_ok trL_ok (by kernel_rfl)) Tryz.func267 (by kernel_rfl) c262
theorem c147 : compFn Tryz.prog (trWith trL []) [] false false [[3, 4, 13, 14, 15]] Tryz.f268 = some f147 := by kernel_rfl
theorem r147 : RowOK Tryz.prog fo f147 268 := .mk (trWith_ok trL_ok (by kernel_rfl)) Tryz.func268 (by kernel_rfl) c147
theorem c263 : compFn Tryz.prog (trWith trL []) [] false false [] Tryz.f269 = some f263 := by kernel_rfl
theorem r263 : RowOK Tryz.prog fo f263 269 := .mk (trWith_ok trL_ok (by kernel_rfl)) Tryz.func269 (by kernel_rfl) c263
theorem c65 : compFn Tryz.prog (trWith trL []) [] false false [] Tryz.f270 = some f65 := by kernel_rfl
theorem r65 : RowOK Tryz.prog fo f65 270 := .mk (trWith_ok trL_ok (by kernel_rfl)) Tryz.func270 (by kernel_rfl) c65
theorem c223 : compFn Tryz.prog (trWith trL []) [] false false [] Tryz.f271 = some f223 := by kernel_rfl
theorem r223 : RowOK Tryz.prog fo f223 271 := .mk (trWith_ok trL_ok (by kernel_rfl)) Tryz.func271 (by kernel_rfl) c223
theorem c156 : compFn Tryz.prog (trWith trL []) [] false false [] Tryz.f272 = some f156 := by kernel_rfl
theorem r156 : RowOK Tryz.prog fo f156 272 := .mk (trWith_ok trL_ok (by kernel_rfl)) Tryz.func272 (by kernel_rfl) c156
theorem c264 : compFn Tryz.prog (trWith trL []) [] false false [] Tryz.f273 = some f264 := by kernel_rfl
theorem r264 : RowOK Tryz.prog fo f264 273 := .mk (trWith_ok trL_ok (by kernel_rfl)) Tryz.func273 (by kernel_rfl) c264
theorem c189 : compFn Tryz.prog (trWith trL []) [] false false [] Tryz.f274 = some f189 := by kernel_rfl
theorem r189 : RowOK Tryz.prog fo f189 274 := .mk (trWith_ok trL_ok (by kernel_rfl)) Tryz.func274 (by kernel_rfl) c189
theorem c190 : compFn Tryz.prog (trWith trL []) [] false false [[0, 1], [8, 9]] Tryz.f275 = some f190 := by kernel_rfl
theorem r190 : RowOK Tryz.prog fo f190 275 := .mk (trWith_ok trL_ok (by kernel_rfl)) Tryz.func275 (by kernel_rfl) c190
theorem c191 : compFn Tryz.prog (trWith trL []) [] false false [] Tryz.f276 = some f191 := by kernel_rfl
theorem r191 : RowOK Tryz.prog fo f191 276 := .mk (trWith_ok trL_ok (by kernel_rfl)) Tryz.func276 (by kernel_rfl) c191
theorem c158 : compFn Tryz.prog (trWith trL []) [true] false false [] Tryz.f277 = some f158 := by kernel_rfl
theorem r158 : RowOK Tryz.prog fo f158 277 := .mk (trWith_ok trL_ok (by kernel_rfl)) Tryz.func277 (by kernel_rfl) c158
theorem c159 : compFn Tryz.prog (trWith trL []) [] false false [] Tryz.f278 = some f159 := by kernel_rfl
theorem r159 : RowOK Tryz.prog fo f159 278 := .mk (trWith_ok trL_ok (by kernel_rfl)) Tryz.func278 (by kernel_rfl) c159
theorem c185 : compFn Tryz.prog (trWith trL []) [] false false [] Tryz.f279 = some f185 := by kernel_rfl
theorem r185 : RowOK Tryz.prog fo f185 279 := .mk (trWith_ok trL_ok (by kernel_rfl)) Tryz.func279 (by kernel_rfl) c185
theorem c186 : compFn Tryz.prog (trWith trL []) [true] true false [[0, 1, 5, 6]] Tryz.f280 = some f186 := by kernel_rfl
theorem r186 : RowOK Tryz.prog fo f186 280 := .mk (trWith_ok trL_ok (by kernel_rfl)) Tryz.func280 (by kernel_rfl) c186
theorem c187 : compFn Tryz.prog (trWith trL []) [] false false [] Tryz.f281 = some f187 := by kernel_rfl
theorem r187 : RowOK Tryz.prog fo f187 281 := .mk (trWith_ok trL_ok (by kernel_rfl)) Tryz.func281 (by kernel_rfl) c187
theorem c188 : compFn Tryz.prog (trWith trL []) [] false false [] Tryz.f282 = some f188 := by kernel_rfl
theorem r188 : RowOK Tryz.prog fo f188 282 := .mk (trWith_ok trL_ok (by kernel_rfl)) Tryz.func282 (by kernel_rfl) c188
theorem c266 : compFn Tryz.prog (trWith trL []) [] false false [[1, 2, 15, 16, 17]] Tryz.f283 = some f266 := by kernel_rfl
theorem r266 : RowOK Tryz.prog fo f266 283 := .mk (trWith_ok trL_ok (by kernel_rfl)) Tryz.func283 (by kernel_rfl) c266
theorem c267 : compFn Tryz.prog (trWith trL []) [] false false [] Tryz.f284 = some f267 := by kernel_rfl
theorem r267 : RowOK Tryz.prog fo f267 284 := .mk (trWith_ok trL_ok (by kernel_rfl)) Tryz.func284 (by kernel_rfl) c267
theorem c268 : compFn Tryz.prog (trWith trL []) [] false false [] Tryz.f285 = some f268 := by kernel_rfl
theorem r268 : RowOK Tryz.prog fo f268 285 := .mk (trWith_ok trL_ok (by kernel_rfl)) Tryz.func285 (by kernel_rfl) c268
theorem c106 : compFn Tryz.prog (trWith trL []) [] false false [] Tryz.f286 = some f106 := by kernel_rfl
theorem r106 : RowOK Tryz.prog fo f106 286 := .mk (trWith_ok trL_ok (by kernel_rfl)) Tryz.func286 (by kernel_rfl) c106
set_option maxRecDepth 10000 in
theorem ok6 : AllOK Tryz.prog fo VP fs6 := .cons rfl r148 <| .cons rfl r149 <| .cons rfl r150 <| .cons rfl r111 <| .cons rfl r112 <| .cons rfl r262 <| .cons rfl r147 <| .cons rfl r263 <| .cons rfl r65 <| .cons rfl r223 <| .cons rfl r156 <| .cons rfl r264 <| .cons rfl r189 <| .cons rfl r190 <| .cons rfl r191 <| .cons rfl r158 <| .cons rfl r159 <| .cons rfl r185 <| .cons rfl r186 <| .cons rfl r187 <| .cons rfl r188 <| .cons rfl r266 <| .cons rfl r267 <| .cons rfl r268 <| .cons rfl r106 <| .nil
end Go.Proofs.YtokgdoiciefadaaGreat
