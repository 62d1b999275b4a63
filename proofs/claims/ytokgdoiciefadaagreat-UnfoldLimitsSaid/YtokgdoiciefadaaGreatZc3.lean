/- The compiled functions are those of the loaded program: part 3. Printed by wip/tools. -/
import Derived.Test.YtokgdoiciefadaaGreatZt
namespace Go.Proofs.YtokgdoiciefadaaGreat
theorem c93 : compFn Tryz.prog (trWith trL []) [] false false [] Tryz.f132 = some f93 := by kernel_rfl
theorem r93 : RowOK Tryz.prog fo f93 132 := .mk (trWith_ok trL_ok (by kernel_rfl)) Tryz.func132 (by kernel_rfl) c93
theorem c94 : compFn Tryz.prog (trWith trL []) [] false false [[1, 3, 5, 25, 26, 27]] Tryz.f133 = some f94 := by kernel_rfl
theorem r94 : RowOK Tryz.prog fo f94 133 := .mk (trWith_ok trL_ok (by kernel_rfl)) Tryz.func133 (by kernel_rfl) c94
theorem c95 : compFn Tryz.prog (trWith trL []) [] false false [] Tryz.f134 = some f95 := by kernel_rfl
theorem r95 : RowOK Tryz.prog fo f95 134 := .mk (trWith_ok trL_ok (by kernel_rfl)) Tryz.func134 (by kernel_rfl) c95
theorem c96 : compFn Tryz.prog (trWith trL []) [] false false [] Tryz.f135 = some f96 := by kernel_rfl
theorem r96 : RowOK Tryz.prog fo f96 135 := .mk (trWith_ok trL_ok (by kernel_rfl)) Tryz.func135 (by kernel_rfl) c96
theorem c97 : compFn Tryz.prog (trWith trL []) [] false false [] Tryz.f136 = some f97 := by kernel_rfl
theorem r97 : RowOK Tryz.prog fo f97 136 := .mk (trWith_ok trL_ok (by kernel_rfl)) Tryz.func136 (by kernel_rfl) c97
theorem c62 : compFn Tryz.prog (trWith trL []) [] false false [[0, 1, 7, 8]] Tryz.f138 = some f62 := by kernel_rfl
theorem r62 : RowOK Tryz.prog fo f62 138 := .mk (trWith_ok trL_ok (by kernel_rfl)) Tryz.func138 (by kernel_rfl) c62
theorem c342 : compFn Tryz.prog (trWith trL []) [true] false false [] Tryz.f139 = some f342 := by kernel_rfl
theorem r342 : RowOK Tryz.prog fo f342 139 := .mk (trWith_ok trL_ok (by kernel_rfl)) Tryz.func139 (by kernel_rfl) c342
theorem c343 : compFn Tryz.prog (trWith trL []) [] true true [] Tryz.f140 = some f343 := by kernel_rfl
theorem r343 : RowOK Tryz.prog fo f343 140 := .mk (trWith_ok trL_ok (by kernel_rfl)) Tryz.func140 (by kernel_rfl) c343
theorem c344 : compFn Tryz.prog (trWith trL []) [] false false [[1, 2, 7, 8]] Tryz.f141 = some f344 := by kernel_rfl
theorem r344 : RowOK Tryz.prog fo f344 141 := .mk (trWith_ok trL_ok (by kernel_rfl)) Tryz.func141 (by kernel_rfl) c344
theorem c42 : compFn Tryz.prog (trWith trL []) [] false false [] Tryz.f150 = some f42 := by kernel_rfl
theorem r42 : RowOK Tryz.prog fo f42 150 := .mk (trWith_ok trL_ok (by kernel_rfl)) Tryz.func150 (by kernel_rfl) c42
theorem c121 : compFn Tryz.prog (trWith trL []) [] false false [] Tryz.f151 = some f121 := by kernel_rfl
theorem r121 : RowOK Tryz.prog fo f121 151 := .mk (trWith_ok trL_ok (by kernel_rfl)) Tryz.func151 (by kernel_rfl) c121
theorem c124 : compFn Tryz.prog (trWith trL []) [] false false [[0, 1, 5, 6], [0, 1, 5, 6, 7, 8], [0, 1, 5, 6, 7, 10]] Tryz.f152 = some f124 := by kernel_rfl
theorem r124 : RowOK Tryz.prog fo f124 152 := .mk (trWith_ok trL_ok (by kernel_rfl)) Tryz.func152 (by kernel_rfl) c124
theorem c69 : compFn Tryz.prog (trWith trL []) [] false false [] Tryz.f153 = some f69 := by kernel_rfl
theorem r69 : RowOK Tryz.prog fo f69 153 := .mk (trWith_ok trL_ok (by kernel_rfl)) Tryz.func153 (by kernel_rfl) c69
theorem c70 : compFn Tryz.prog (trWith trL []) [] false false [[0, 1, 5, 6, 7]] Tryz.f154 = some f70 := by kernel_rfl
theorem r70 : RowOK Tryz.prog fo f70 154 := .mk (trWith_ok trL_ok (by kernel_rfl)) Tryz.func154 (by kernel_rfl) c70
theorem c43 : compFn Tryz.prog (trWith trL []) [] false false [[0, 3, 4]] Tryz.f155 = some f43 := by kernel_rfl
theorem r43 : RowOK Tryz.prog fo f43 155 := .mk (trWith_ok trL_ok (by kernel_rfl)) Tryz.func155 (by kernel_rfl) c43
theorem c44 : compFn Tryz.prog (trWith trL []) [] false false [[1, 5, 6]] Tryz.f156 = some f44 := by kernel_rfl
theorem r44 : RowOK Tryz.prog fo f44 156 := .mk (trWith_ok trL_ok (by kernel_rfl)) Tryz.func156 (by kernel_rfl) c44
theorem c74 : compFn Tryz.prog (trWith trL []) [] false false [[0, 3, 5, 6], [0, 3, 5, 6, 7, 8]] Tryz.f157 = some f74 := by kernel_rfl
theorem r74 : RowOK Tryz.prog fo f74 157 := .mk (trWith_ok trL_ok (by kernel_rfl)) Tryz.func157 (by kernel_rfl) c74
theorem c144 : compFn Tryz.prog (trWith trL []) [] false false [] Tryz.f158 = some f144 := by kernel_rfl
theorem r144 : RowOK Tryz.prog fo f144 158 := .mk (trWith_ok trL_ok (by kernel_rfl)) Tryz.func158 (by kernel_rfl) c144
theorem c145 : compFn Tryz.prog (trWith trL []) [] false false [] Tryz.f159 = some f145 := by kernel_rfl
theorem r145 : RowOK Tryz.prog fo f145 159 := .mk (trWith_ok trL_ok (by kernel_rfl)) Tryz.func159 (by kernel_rfl) c145
theorem c146 : compFn Tryz.prog (trWith trL []) [] true true [] Tryz.f160 = some f146 := by kernel_rfl
theorem r146 : RowOK Tryz.prog fo f146 160 := .mk (trWith_ok trL_ok (by kernel_rfl)) Tryz.func160 (by kernel_rfl) c146
theorem c122 : compFn Tryz.prog (trWith trL []) [] false false [] Tryz.f170 = some f122 := by kernel_rfl
theorem r122 : RowOK Tryz.prog fo f122 170 := .mk (trWith_ok trL_ok (by kernel_rfl)) Tryz.func170 (by kernel_rfl) c122
theorem c105 : compFn Tryz.prog (trWith trL []) [] false false [[0, 1, 7, 8]] Tryz.f172 = some f105 := by kernel_rfl
theorem r105 : RowOK Tryz.prog fo f105 172 := .mk (trWith_ok trL_ok (by kernel_rfl)) Tryz.func172 (by kernel_rfl) c105
theorem c31 : compFn Tryz.prog (trWith trL []) [] false false [] Tryz.f173 = some f31 := by kernel_rfl
theorem r31 : RowOK Tryz.prog fo f31 173 := .mk (trWith_ok trL_ok (by kernel_rfl)) Tryz.func173 (by kernel_rfl) c31
theorem c133 : compFn Tryz.prog (trWith trL []) [] false false [] Tryz.f174 = some f133 := by kernel_rfl
theorem r133 : RowOK Tryz.prog fo f133 174 := .mk (trWith_ok trL_ok (by kernel_rfl)) Tryz.func174 (by kernel_rfl) c133
theorem c134 : compFn Tryz.prog (trWith trL []) [] false false [] Tryz.f175 = some f134 := by kernel_rfl
theorem r134 : RowOK Tryz.prog fo f134 175 := .mk (trWith_ok trL_ok (by kernel_rfl)) Tryz.func175 (by kernel_rfl) c134
set_option maxRecDepth 10000 in
theorem ok3 : AllOK Tryz.prog fo VP fs3 := .cons rfl r93 <| .cons rfl r94 <| .cons rfl r95 <| .cons rfl r96 <| .cons rfl r97 <| .cons rfl r62 <| .cons rfl r342 <| .cons rfl r343 <| .cons rfl r344 <| .cons rfl r42 <| .cons rfl r121 <| .cons rfl r124 <| .cons rfl r69 <| .cons rfl r70 <| .cons rfl r43 <| .cons rfl r44 <| .cons rfl r74 <| .cons rfl r144 <| .cons rfl r145 <| .cons rfl r146 <| .cons rfl r122 <| .cons rfl r105 <| .cons rfl r31 <| .cons rfl r133 <| .cons rfl r134 <| .nil
end Go.Proofs.YtokgdoiciefadaaGreat
