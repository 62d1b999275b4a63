/- The compiled functions are those of the loaded program: part 4. Printed by wip/tools. -/
import Derived.Test.YtokgdoiciefadaaGreatZt
namespace Go.Proofs.YtokgdoiciefadaaGreat
theorem c135 : compFn Tryz.prog (trWith trL []) [] false false [] Tryz.f176 = some f135 := by kernel_rfl
theorem r135 : RowOK Tryz.prog fo f135 176 := .mk (trWith_ok trL_ok (by kernel_rfl)) Tryz.func176 (by kernel_rfl) c135
theorem c136 : compFn Tryz.prog (trWith trL []) [] false false [[0, 1, 12, 13]] Tryz.f177 = some f136 := by kernel_rfl
theorem r136 : RowOK Tryz.prog fo f136 177 := .mk (trWith_ok trL_ok (by kernel_rfl)) Tryz.func177 (by kernel_rfl) c136
theorem c137 : compFn Tryz.prog (trWith trL []) [] false false [] Tryz.f178 = some f137 := by kernel_rfl
theorem r137 : RowOK Tryz.prog fo f137 178 := .mk (trWith_ok trL_ok (by kernel_rfl)) Tryz.func178 (by kernel_rfl) c137
theorem c138 : compFn Tryz.prog (trWith trL []) [] false false [[2, 3, 5, 6, 7, 8, 9, 87, 88, 89]] Tryz.f179 = some f138 := by kernel_rfl
theorem r138 : RowOK Tryz.prog fo f138 179 := .mk (trWith_ok trL_ok (by kernel_rfl)) Tryz.func179 (by kernel_rfl) c138
theorem c139 : compFn Tryz.prog (trWith trL []) [] false false [] Tryz.f180 = some f139 := by kernel_rfl
theorem r139 : RowOK Tryz.prog fo f139 180 := .mk (trWith_ok trL_ok (by kernel_rfl)) Tryz.func180 (by kernel_rfl) c139
theorem c140 : compFn Tryz.prog (trWith trL []) [] false false [] Tryz.f181 = some f140 := by kernel_rfl
theorem r140 : RowOK Tryz.prog fo f140 181 := .mk (trWith_ok trL_ok (by kernel_rfl)) Tryz.func181 (by kernel_rfl) c140
theorem c141 : compFn Tryz.prog (trWith trL []) [] false false [] Tryz.f182 = some f141 := by kernel_rfl
theorem r141 : RowOK Tryz.prog fo f141 182 := .mk (trWith_ok trL_ok (by kernel_rfl)) Tryz.func182 (by kernel_rfl) c141
theorem c142 : compFn Tryz.prog (trWith trL []) [] false false [] Tryz.f183 = some f142 := by kernel_rfl
theorem r142 : RowOK Tryz.prog fo f142 183 := .mk (trWith_ok trL_ok (by kernel_rfl)) Tryz.func183 (by kernel_rfl) c142
theorem c71 : compFn Tryz.prog (trWith trL []) [] false false [[0, 1]] Tryz.f192 = some f71 := by kernel_rfl
theorem r71 : RowOK Tryz.prog fo f71 192 := .mk (trWith_ok trL_ok (by kernel_rfl)) Tryz.func192 (by kernel_rfl) c71
theorem c72 : compFn Tryz.prog (trWith trL []) [] false false [[0, 1, 9], [9, 10, 11, 12, 13]] Tryz.f193 = some f72 := by kernel_rfl
theorem r72 : RowOK Tryz.prog fo f72 193 := .mk (trWith_ok trL_ok (by kernel_rfl)) Tryz.func193 (by kernel_rfl) c72
theorem c113 : compFn Tryz.prog (trWith trL []) [] false false [[0, 3]] Tryz.f194 = some f113 := by kernel_rfl
theorem r113 : RowOK Tryz.prog fo f113 194 := .mk (trWith_ok trL_ok (by kernel_rfl)) Tryz.func194 (by kernel_rfl) c113
theorem c270 : compFn Tryz.prog (trWith trL []) [] true false [[0, 3]] Tryz.f194 = some f270 := by kernel_rfl
theorem r270 : RowOK Tryz.prog fo f270 194 := .mk (trWith_ok trL_ok (by kernel_rfl)) Tryz.func194 (by kernel_rfl) c270
theorem c73 : compFn Tryz.prog (trWith trL []) [] false false [[0, 3, 5, 6]] Tryz.f195 = some f73 := by kernel_rfl
theorem r73 : RowOK Tryz.prog fo f73 195 := .mk (trWith_ok trL_ok (by kernel_rfl)) Tryz.func195 (by kernel_rfl) c73
theorem c123 : compFn Tryz.prog (trWith trL []) [] false false [] Tryz.f196 = some f123 := by kernel_rfl
theorem r123 : RowOK Tryz.prog fo f123 196 := .mk (trWith_ok trL_ok (by kernel_rfl)) Tryz.func196 (by kernel_rfl) c123
theorem c184 : compFn Tryz.prog (trWith trL []) [] false false [[0, 1, 7, 8]] Tryz.f197 = some f184 := by kernel_rfl
theorem r184 : RowOK Tryz.prog fo f184 197 := .mk (trWith_ok trL_ok (by kernel_rfl)) Tryz.func197 (by kernel_rfl) c184
theorem c120 : compFn Tryz.prog (trWith trL []) [] false false [] Tryz.f202 = some f120 := by kernel_rfl
theorem r120 : RowOK Tryz.prog fo f120 202 := .mk (trWith_ok trL_ok (by kernel_rfl)) Tryz.func202 (by kernel_rfl) c120
theorem c60 : compFn Tryz.prog (trWith trL []) [] false false [[0, 1, 7, 8]] Tryz.f204 = some f60 := by kernel_rfl
theorem r60 : RowOK Tryz.prog fo f60 204 := .mk (trWith_ok trL_ok (by kernel_rfl)) Tryz.func204 (by kernel_rfl) c60
theorem c170 : compFn Tryz.prog (trWith trL []) [] false false [[1, 4, 38, 39], [5, 51, 52, 53]] Tryz.f205 = some f170 := by kernel_rfl
theorem r170 : RowOK Tryz.prog fo f170 205 := .mk (trWith_ok trL_ok (by kernel_rfl)) Tryz.func205 (by kernel_rfl) c170
theorem c171 : compFn Tryz.prog (trWith trL []) [] false false [] Tryz.f206 = some f171 := by kernel_rfl
theorem r171 : RowOK Tryz.prog fo f171 206 := .mk (trWith_ok trL_ok (by kernel_rfl)) Tryz.func206 (by kernel_rfl) c171
theorem c172 : compFn Tryz.prog (trWith trL []) [] false false [] Tryz.f207 = some f172 := by kernel_rfl
theorem r172 : RowOK Tryz.prog fo f172 207 := .mk (trWith_ok trL_ok (by kernel_rfl)) Tryz.func207 (by kernel_rfl) c172
theorem c173 : compFn Tryz.prog (trWith trL []) [] false false [[3, 7, 8, 9]] Tryz.f208 = some f173 := by kernel_rfl
theorem r173 : RowOK Tryz.prog fo f173 208 := .mk (trWith_ok trL_ok (by kernel_rfl)) Tryz.func208 (by kernel_rfl) c173
theorem c174 : compFn Tryz.prog (trWith trL []) [] false false [[2, 3, 8, 9, 30, 31, 32]] Tryz.f209 = some f174 := by kernel_rfl
theorem r174 : RowOK Tryz.prog fo f174 209 := .mk (trWith_ok trL_ok (by kernel_rfl)) Tryz.func209 (by kernel_rfl) c174
theorem c175 : compFn Tryz.prog (trWith trL []) [] false false [] Tryz.f210 = some f175 := by kernel_rfl
theorem r175 : RowOK Tryz.prog fo f175 210 := .mk (trWith_ok trL_ok (by kernel_rfl)) Tryz.func210 (by kernel_rfl) c175
theorem c176 : compFn Tryz.prog (trWith trL []) [] false false [] Tryz.f211 = some f176 := by kernel_rfl
theorem r176 : RowOK Tryz.prog fo f176 211 := .mk (trWith_ok trL_ok (by kernel_rfl)) Tryz.func211 (by kernel_rfl) c176
theorem c177 : compFn Tryz.prog (trWith trL []) [] false false [] Tryz.f212 = some f177 := by kernel_rfl
theorem r177 : RowOK Tryz.prog fo f177 212 := .mk (trWith_ok trL_ok (by kernel_rfl)) Tryz.func212 (by kernel_rfl) c177
set_option maxRecDepth 10000 in
theorem ok4 : AllOK Tryz.prog fo VP fs4 := .cons rfl r135 <| .cons rfl r136 <| .cons rfl r137 <| .cons rfl r138 <| .cons rfl r139 <| .cons rfl r140 <| .cons rfl r141 <| .cons rfl r142 <| .cons rfl r71 <| .cons rfl r72 <| .cons rfl r113 <| .cons rfl r270 <| .cons rfl r73 <| .cons rfl r123 <| .cons rfl r184 <| .cons rfl r120 <| .cons rfl r60 <| .cons rfl r170 <| .cons rfl r171 <| .cons rfl r172 <| .cons rfl r173 <| .cons rfl r174 <| .cons rfl r175 <| .cons rfl r176 <| .cons rfl r177 <| .nil
end Go.Proofs.YtokgdoiciefadaaGreat
