/- The compiled functions are those of the loaded program: part 5. Printed by wip/tools. -/
import Derived.Test.YtokgdoiciefadaaGreatZt
namespace Go.Proofs.YtokgdoiciefadaaGreat
theorem c178 : compFn Tryz.prog (trWith trL []) [] false false [] Tryz.f213 = some f178 := by kernel_rfl
theorem r178 : RowOK Tryz.prog fo f178 213 := .mk (trWith_ok trL_ok (by kernel_rfl)) Tryz.func213 (by kernel_rfl) c178
theorem c179 : compFn Tryz.prog (trWith trL []) [] false false [[0, 1, 7, 8]] Tryz.f214 = some f179 := by kernel_rfl
theorem r179 : RowOK Tryz.prog fo f179 214 := .mk (trWith_ok trL_ok (by kernel_rfl)) Tryz.func214 (by kernel_rfl) c179
theorem c180 : compFn Tryz.prog (trWith trL []) [] false false [[3, 7, 8, 9]] Tryz.f215 = some f180 := by kernel_rfl
theorem r180 : RowOK Tryz.prog fo f180 215 := .mk (trWith_ok trL_ok (by kernel_rfl)) Tryz.func215 (by kernel_rfl) c180
theorem c181 : compFn Tryz.prog (trWith trL []) [] false false [[50, 51, 52]] Tryz.f216 = some f181 := by kernel_rfl
theorem r181 : RowOK Tryz.prog fo f181 216 := .mk (trWith_ok trL_ok (by kernel_rfl)) Tryz.func216 (by kernel_rfl) c181
theorem c182 : compFn Tryz.prog (trWith trL []) [] false false [[3, 11, 12, 13]] Tryz.f217 = some f182 := by kernel_rfl
theorem r182 : RowOK Tryz.prog fo f182 217 := .mk (trWith_ok trL_ok (by kernel_rfl)) Tryz.func217 (by kernel_rfl) c182
theorem c114 : compFn Tryz.prog (trWith trL []) [] false false [[0, 1, 5]] Tryz.f228 = some f114 := by kernel_rfl
theorem r114 : RowOK Tryz.prog fo f114 228 := .mk (trWith_ok trL_ok (by kernel_rfl)) Tryz.func228 (by kernel_rfl) c114
theorem c115 : compFn Tryz.prog (trWith trL []) [] false false [[0, 1, 6, 7, 8]] Tryz.f229 = some f115 := by kernel_rfl
theorem r115 : RowOK Tryz.prog fo f115 229 := .mk (trWith_ok trL_ok (by kernel_rfl)) Tryz.func229 (by kernel_rfl) c115
theorem c119 : compFn Tryz.prog (trWith trL []) [] false false [[2, 3, 5]] Tryz.f233 = some f119 := by kernel_rfl
theorem r119 : RowOK Tryz.prog fo f119 233 := .mk (trWith_ok trL_ok (by kernel_rfl)) Tryz.func233 (by kernel_rfl) c119
theorem c160 : compFn Tryz.prog (trWith trL [(194, 270)]) [] false false [[1, 6, 7, 8]] Tryz.f235 = some f160 := by kernel_rfl
theorem r160 : RowOK Tryz.prog fo f160 235 := .mk (trWith_ok trL_ok (by kernel_rfl)) Tryz.func235 (by kernel_rfl) c160
theorem c211 : compFn Tryz.prog (trWith trL []) [] false false [] Tryz.f236 = some f211 := by kernel_rfl
theorem r211 : RowOK Tryz.prog fo f211 236 := .mk (trWith_ok trL_ok (by kernel_rfl)) Tryz.func236 (by kernel_rfl) c211
theorem c152 : compFn Tryz.prog (trWith trL []) [] false false [] Tryz.f237 = some f152 := by kernel_rfl
theorem r152 : RowOK Tryz.prog fo f152 237 := .mk (trWith_ok trL_ok (by kernel_rfl)) Tryz.func237 (by kernel_rfl) c152
theorem c212 : compFn Tryz.prog (trWith trL []) [] false false [] Tryz.f238 = some f212 := by kernel_rfl
theorem r212 : RowOK Tryz.prog fo f212 238 := .mk (trWith_ok trL_ok (by kernel_rfl)) Tryz.func238 (by kernel_rfl) c212
theorem c213 : compFn Tryz.prog (trWith trL []) [] false false [[2, 5, 11, 12, 13], [2, 5, 8, 10, 11, 12, 13]] Tryz.f239 = some f213 := by kernel_rfl
theorem r213 : RowOK Tryz.prog fo f213 239 := .mk (trWith_ok trL_ok (by kernel_rfl)) Tryz.func239 (by kernel_rfl) c213
theorem c157 : compFn Tryz.prog (trWith trL []) [] false false [] Tryz.f240 = some f157 := by kernel_rfl
theorem r157 : RowOK Tryz.prog fo f157 240 := .mk (trWith_ok trL_ok (by kernel_rfl)) Tryz.func240 (by kernel_rfl) c157
theorem c214 : compFn Tryz.prog (trWith trL []) [] false false [] Tryz.f241 = some f214 := by kernel_rfl
theorem r214 : RowOK Tryz.prog fo f214 241 := .mk (trWith_ok trL_ok (by kernel_rfl)) Tryz.func241 (by kernel_rfl) c214
theorem c107 : compFn Tryz.prog (trWith trL []) [] false false [] Tryz.f242 = some f107 := by kernel_rfl
theorem r107 : RowOK Tryz.prog fo f107 242 := .mk (trWith_ok trL_ok (by kernel_rfl)) Tryz.func242 (by kernel_rfl) c107
theorem c215 : compFn Tryz.prog (trWith trL []) [] false false [] Tryz.f243 = some f215 := by kernel_rfl
theorem r215 : RowOK Tryz.prog fo f215 243 := .mk (trWith_ok trL_ok (by kernel_rfl)) Tryz.func243 (by kernel_rfl) c215
theorem c244 : compFn Tryz.prog (trWith trL []) [] false false [[0, 1, 7, 8]] Tryz.f252 = some f244 := by kernel_rfl
theorem r244 : RowOK Tryz.prog fo f244 252 := .mk (trWith_ok trL_ok (by kernel_rfl)) Tryz.func252 (by kernel_rfl) c244
theorem c68 : compFn Tryz.prog (trWith trL []) [] false false [] Tryz.f253 = some f68 := by kernel_rfl
theorem r68 : RowOK Tryz.prog fo f68 253 := .mk (trWith_ok trL_ok (by kernel_rfl)) Tryz.func253 (by kernel_rfl) c68
theorem c245 : compFn Tryz.prog (trWith trL []) [] false false [[3, 6, 7, 8]] Tryz.f254 = some f245 := by kernel_rfl
theorem r245 : RowOK Tryz.prog fo f245 254 := .mk (trWith_ok trL_ok (by kernel_rfl)) Tryz.func254 (by kernel_rfl) c245
theorem c246 : compFn Tryz.prog (trWith trL []) [] false false [[1, 5, 8, 9, 10]] Tryz.f255 = some f246 := by kernel_rfl
theorem r246 : RowOK Tryz.prog fo f246 255 := .mk (trWith_ok trL_ok (by kernel_rfl)) Tryz.func255 (by kernel_rfl) c246
theorem c247 : compFn Tryz.prog (trWith trL []) [] false false [] Tryz.f256 = some f247 := by kernel_rfl
theorem r247 : RowOK Tryz.prog fo f247 256 := .mk (trWith_ok trL_ok (by kernel_rfl)) Tryz.func256 (by kernel_rfl) c247
theorem c248 : compFn Tryz.prog (trWith trL []) [] false false [] Tryz.f257 = some f248 := by kernel_rfl
theorem r248 : RowOK Tryz.prog fo f248 257 := .mk (trWith_ok trL_ok (by kernel_rfl)) Tryz.func257 (by kernel_rfl) c248
theorem c195 : compFn Tryz.prog (trWith trL []) [] false false [] Tryz.f258 = some f195 := by kernel_rfl
theorem r195 : RowOK Tryz.prog fo f195 258 := .mk (trWith_ok trL_ok (by kernel_rfl)) Tryz.func258 (by kernel_rfl) c195
theorem c249 : compFn Tryz.prog (trWith trL []) [] false false [] Tryz.f259 = some f249 := by kernel_rfl
theorem r249 : RowOK Tryz.prog fo f249 259 := .mk (trWith_ok trL_ok (by kernel_rfl)) Tryz.func259 (by kernel_rfl) c249
set_option maxRecDepth 10000 in
theorem ok5 : AllOK Tryz.prog fo VP fs5 := .cons rfl r178 <| .cons rfl r179 <| .cons rfl r180 <| .cons rfl r181 <| .cons rfl r182 <| .cons rfl r114 <| .cons rfl r115 <| .cons rfl r119 <| .cons rfl r160 <| .cons rfl r211 <| .cons rfl r152 <| .cons rfl r212 <| .cons rfl r213 <| .cons rfl r157 <| .cons rfl r214 <| .cons rfl r107 <| .cons rfl r215 <| .cons rfl r244 <| .cons rfl r68 <| .cons rfl r245 <| .cons rfl r246 <| .cons rfl r247 <| .cons rfl r248 <| .cons rfl r195 <| .cons rfl r249 <| .nil
end Go.Proofs.YtokgdoiciefadaaGreat
