/- The compiled functions are those of the loaded program: part 0. Printed by wip/tools. -/
import Derived.Test.YtboekhenldifhaaGreatZt
/- The compiled functions are those of the loaded program: part 0. Printed by wip/tools. -/
namespace Go.Proofs.YtboekhenldifhaaGreat
theorem c1 : compFn Tryz.prog (trWith trL []) [] false false [[1, 5, 6, 7]] Tryz.f4 = some f1 := by kernel_rfl
theorem r1 : RowOK Tryz.prog fo f1 4 := .mk (trWith_ok trL_ok (by kernel_rfl)) Tryz.func4 (by kernel_rfl) c1
theorem c4 : compFn Tryz.prog (trWith trL []) [] false false [[2, 3, 5]] Tryz.f13 = some f4 := by kernel_rfl
theorem r4 : RowOK Tryz.prog fo f4 13 := .mk (trWith_ok trL_ok (by kernel_rfl)) Tryz.func13 (by kernel_rfl) c4
theorem c6 : compFn Tryz.prog (trWith trL []) [] false false [] Tryz.f15 = some f6 := by kernel_rfl
theorem r6 : RowOK Tryz.prog fo f6 15 := .mk (trWith_ok trL_ok (by kernel_rfl)) Tryz.func15 (by kernel_rfl) c6
theorem c7 : compFn Tryz.prog (trWith trL []) [] false false [] Tryz.f16 = some f7 := by kernel_rfl
theorem r7 : RowOK Tryz.prog fo f7 16 := .mk (trWith_ok trL_ok (by kernel_rfl)) Tryz.func16 (by kernel_rfl) c7
theorem c44 : compFn Tryz.prog (trWith trL []) [] false false [[1, 5, 6]] Tryz.f20 = some f44 := by kernel_rfl
theorem r44 : RowOK Tryz.prog fo f44 20 := .mk (trWith_ok trL_ok (by kernel_rfl)) Tryz.func20 (by kernel_rfl) c44
theorem c22 : compFn Tryz.prog (trWith trL []) [] false false [] Tryz.f23 = some f22 := by kernel_rfl
theorem r22 : RowOK Tryz.prog fo f22 23 := .mk (trWith_ok trL_ok (by kernel_rfl)) Tryz.func23 (by kernel_rfl) c22
theorem c16 : compFn Tryz.prog (trWith trL []) [] false false [] Tryz.f46 = some f16 := by kernel_rfl
theorem r16 : RowOK Tryz.prog fo f16 46 := .mk (trWith_ok trL_ok (by kernel_rfl)) Tryz.func46 (by kernel_rfl) c16
theorem c17 : compFn Tryz.prog (trWith trL []) [] false false [] Tryz.f47 = some f17 := by kernel_rfl
theorem r17 : RowOK Tryz.prog fo f17 47 := .mk (trWith_ok trL_ok (by kernel_rfl)) Tryz.func47 (by kernel_rfl) c17
theorem c18 : compFn Tryz.prog (trWith trL []) [] false false [] Tryz.f48 = some f18 := by kernel_rfl
theorem r18 : RowOK Tryz.prog fo f18 48 := .mk (trWith_ok trL_ok (by kernel_rfl)) Tryz.func48 (by kernel_rfl) c18
theorem c19 : compFn Tryz.prog (trWith trL []) [] false false [] Tryz.f49 = some f19 := by kernel_rfl
theorem r19 : RowOK Tryz.prog fo f19 49 := .mk (trWith_ok trL_ok (by kernel_rfl)) Tryz.func49 (by kernel_rfl) c19
theorem c20 : compFn Tryz.prog (trWith trL []) [] false false [] Tryz.f50 = some f20 := by kernel_rfl
theorem r20 : RowOK Tryz.prog fo f20 50 := .mk (trWith_ok trL_ok (by kernel_rfl)) Tryz.func50 (by kernel_rfl) c20
theorem c21 : compFn Tryz.prog (trWith trL []) [] false false [] Tryz.f51 = some f21 := by kernel_rfl
theorem r21 : RowOK Tryz.prog fo f21 51 := .mk (trWith_ok trL_ok (by kernel_rfl)) Tryz.func51 (by kernel_rfl) c21
theorem c38 : compFn Tryz.prog (trWith trL []) [false, true] false false [[2, 4, 6, 23, 24, 25]] Tryz.f52 = some f38 := by kernel_rfl
theorem r38 : RowOK Tryz.prog fo f38 52 := .mk (trWith_ok trL_ok (by kernel_rfl)) Tryz.func52 (by kernel_rfl) c38
theorem c73 : compFn Tryz.prog (trWith trL []) [] false false [[0, 3, 5, 6]] Tryz.f55 = some f73 := by kernel_rfl
theorem r73 : RowOK Tryz.prog fo f73 55 := .mk (trWith_ok trL_ok (by kernel_rfl)) Tryz.func55 (by kernel_rfl) c73
theorem c247 : compFn Tryz.prog (trWith trL []) [] false false [] Tryz.f57 = some f247 := by kernel_rfl
theorem r247 : RowOK Tryz.prog fo f247 57 := .mk (trWith_ok trL_ok (by kernel_rfl)) Tryz.func57 (by kernel_rfl) c247
theorem c41 : compFn Tryz.prog (trWith trL []) [] false false [] Tryz.f60 = some f41 := by kernel_rfl
theorem r41 : RowOK Tryz.prog fo f41 60 := .mk (trWith_ok trL_ok (by kernel_rfl)) Tryz.func60 (by kernel_rfl) c41
theorem c74 : compFn Tryz.prog (trWith trL []) [] false false [[0, 3, 5, 6], [0, 3, 5, 6, 7, 8]] Tryz.f75 = some f74 := by kernel_rfl
theorem r74 : RowOK Tryz.prog fo f74 75 := .mk (trWith_ok trL_ok (by kernel_rfl)) Tryz.func75 (by kernel_rfl) c74
theorem c106 : compFn Tryz.prog (trWith trL []) [] false false [] Tryz.f79 = some f106 := by kernel_rfl
theorem r106 : RowOK Tryz.prog fo f106 79 := .mk (trWith_ok trL_ok (by kernel_rfl)) Tryz.func79 (by kernel_rfl) c106
theorem c29 : compFn Tryz.prog (trWith trL []) [] false false [[1, 4, 5, 12, 13, 14]] Tryz.f84 = some f29 := by kernel_rfl
theorem r29 : RowOK Tryz.prog fo f29 84 := .mk (trWith_ok trL_ok (by kernel_rfl)) Tryz.func84 (by kernel_rfl) c29
theorem c30 : compFn Tryz.prog (trWith trL []) [] false false [[5]] Tryz.f85 = some f30 := by kernel_rfl
theorem r30 : RowOK Tryz.prog fo f30 85 := .mk (trWith_ok trL_ok (by kernel_rfl)) Tryz.func85 (by kernel_rfl) c30
theorem c31 : compFn Tryz.prog (trWith trL []) [] false false [] Tryz.f86 = some f31 := by kernel_rfl
theorem r31 : RowOK Tryz.prog fo f31 86 := .mk (trWith_ok trL_ok (by kernel_rfl)) Tryz.func86 (by kernel_rfl) c31
theorem c32 : compFn Tryz.prog (trWith trL []) [] false false [] Tryz.f87 = some f32 := by kernel_rfl
theorem r32 : RowOK Tryz.prog fo f32 87 := .mk (trWith_ok trL_ok (by kernel_rfl)) Tryz.func87 (by kernel_rfl) c32
set_option maxRecDepth 10000 in
theorem ok0 : AllOK Tryz.prog fo VP fs0 := .cons rfl r1 <| .cons rfl r4 <| .cons rfl r6 <| .cons rfl r7 <| .cons rfl r44 <| .cons rfl r22 <| .cons rfl r16 <| .cons rfl r17 <| .cons rfl r18 <| .cons rfl r19 <| .cons rfl r20 <| .cons rfl r21 <| .cons rfl r38 <| .cons rfl r73 <| .cons rfl r247 <| .cons rfl r41 <| .cons rfl r74 <| .cons rfl r106 <| .cons rfl r29 <| .cons rfl r30 <| .cons rfl r31 <| .cons rfl r32 <| .nil
end Go.Proofs.YtboekhenldifhaaGreat
/- The compiled functions are those of the loaded program: part 1. Printed by wip/tools. -/
namespace Go.Proofs.YtboekhenldifhaaGreat
theorem c33 : compFn Tryz.prog (trWith trL []) [] false false [] Tryz.f88 = some f33 := by kernel_rfl
theorem r33 : RowOK Tryz.prog fo f33 88 := .mk (trWith_ok trL_ok (by kernel_rfl)) Tryz.func88 (by kernel_rfl) c33
theorem c34 : compFn Tryz.prog (trWith trL []) [] false false [] Tryz.f89 = some f34 := by kernel_rfl
theorem r34 : RowOK Tryz.prog fo f34 89 := .mk (trWith_ok trL_ok (by kernel_rfl)) Tryz.func89 (by kernel_rfl) c34
theorem c35 : compFn Tryz.prog (trWith trL []) [] false false [] Tryz.f90 = some f35 := by kernel_rfl
theorem r35 : RowOK Tryz.prog fo f35 90 := .mk (trWith_ok trL_ok (by kernel_rfl)) Tryz.func90 (by kernel_rfl) c35
theorem c36 : compFn Tryz.prog (trWith trL []) [] false false [] Tryz.f91 = some f36 := by kernel_rfl
theorem r36 : RowOK Tryz.prog fo f36 91 := .mk (trWith_ok trL_ok (by kernel_rfl)) Tryz.func91 (by kernel_rfl) c36
theorem c37 : compFn Tryz.prog (trWith trL []) [true, true] false false [[0, 1, 3, 4], [0, 1, 3, 4, 8]] Tryz.f92 = some f37 := by kernel_rfl
theorem r37 : RowOK Tryz.prog fo f37 92 := .mk (trWith_ok trL_ok (by kernel_rfl)) Tryz.func92 (by kernel_rfl) c37
theorem c39 : compFn Tryz.prog (trWith trL []) [false, true, true, true] false false [] Tryz.f93 = some f39 := by kernel_rfl
theorem r39 : RowOK Tryz.prog fo f39 93 := .mk (trWith_ok trL_ok (by kernel_rfl)) Tryz.func93 (by kernel_rfl) c39
theorem c40 : compFn Tryz.prog (trWith trL []) [] false false [[3, 9, 10, 11]] Tryz.f94 = some f40 := by kernel_rfl
theorem r40 : RowOK Tryz.prog fo f40 94 := .mk (trWith_ok trL_ok (by kernel_rfl)) Tryz.func94 (by kernel_rfl) c40
theorem c42 : compFn Tryz.prog (trWith trL []) [] false false [] Tryz.f95 = some f42 := by kernel_rfl
theorem r42 : RowOK Tryz.prog fo f42 95 := .mk (trWith_ok trL_ok (by kernel_rfl)) Tryz.func95 (by kernel_rfl) c42
theorem c43 : compFn Tryz.prog (trWith trL []) [] false false [[0, 3, 4]] Tryz.f96 = some f43 := by kernel_rfl
theorem r43 : RowOK Tryz.prog fo f43 96 := .mk (trWith_ok trL_ok (by kernel_rfl)) Tryz.func96 (by kernel_rfl) c43
theorem c45 : compFn Tryz.prog (trWith trL []) [] false false [] Tryz.f97 = some f45 := by kernel_rfl
theorem r45 : RowOK Tryz.prog fo f45 97 := .mk (trWith_ok trL_ok (by kernel_rfl)) Tryz.func97 (by kernel_rfl) c45
theorem c65 : compFn Tryz.prog (trWith trL []) [] false false [] Tryz.f98 = some f65 := by kernel_rfl
theorem r65 : RowOK Tryz.prog fo f65 98 := .mk (trWith_ok trL_ok (by kernel_rfl)) Tryz.func98 (by kernel_rfl) c65
theorem c66 : compFn Tryz.prog (trWith trL []) [] false false [] Tryz.f99 = some f66 := by kernel_rfl
theorem r66 : RowOK Tryz.prog fo f66 99 := .mk (trWith_ok trL_ok (by kernel_rfl)) Tryz.func99 (by kernel_rfl) c66
theorem c67 : compFn Tryz.prog (trWith trL []) [true] false false [[0, 21, 22, 23], [0, 6, 7, 21, 22, 23, 36, 37, 38], [0, 7, 21, 22, 23, 58, 59, 60]] Tryz.f100 = some f67 := by kernel_rfl
theorem r67 : RowOK Tryz.prog fo f67 100 := .mk (trWith_ok trL_ok (by kernel_rfl)) Tryz.func100 (by kernel_rfl) c67
theorem c147 : compFn Tryz.prog (trWith trL []) [] false false [[3, 4, 13, 14, 15]] Tryz.f101 = some f147 := by kernel_rfl
theorem r147 : RowOK Tryz.prog fo f147 101 := .mk (trWith_ok trL_ok (by kernel_rfl)) Tryz.func101 (by kernel_rfl) c147
theorem c119 : compFn Tryz.prog (trWith trL []) [] false false [[2, 3, 5]] Tryz.f106 = some f119 := by kernel_rfl
theorem r119 : RowOK Tryz.prog fo f119 106 := .mk (trWith_ok trL_ok (by kernel_rfl)) Tryz.func106 (by kernel_rfl) c119
theorem c120 : compFn Tryz.prog (trWith trL []) [] false false [] Tryz.f107 = some f120 := by kernel_rfl
theorem r120 : RowOK Tryz.prog fo f120 107 := .mk (trWith_ok trL_ok (by kernel_rfl)) Tryz.func107 (by kernel_rfl) c120
theorem c121 : compFn Tryz.prog (trWith trL []) [] false false [] Tryz.f108 = some f121 := by kernel_rfl
theorem r121 : RowOK Tryz.prog fo f121 108 := .mk (trWith_ok trL_ok (by kernel_rfl)) Tryz.func108 (by kernel_rfl) c121
theorem c122 : compFn Tryz.prog (trWith trL []) [] false false [] Tryz.f109 = some f122 := by kernel_rfl
theorem r122 : RowOK Tryz.prog fo f122 109 := .mk (trWith_ok trL_ok (by kernel_rfl)) Tryz.func109 (by kernel_rfl) c122
theorem c68 : compFn Tryz.prog (trWith trL []) [] false false [] Tryz.f110 = some f68 := by kernel_rfl
theorem r68 : RowOK Tryz.prog fo f68 110 := .mk (trWith_ok trL_ok (by kernel_rfl)) Tryz.func110 (by kernel_rfl) c68
theorem c104 : compFn Tryz.prog (trWith trL []) [] true true [] Tryz.f112 = some f104 := by kernel_rfl
theorem r104 : RowOK Tryz.prog fo f104 112 := .mk (trWith_ok trL_ok (by kernel_rfl)) Tryz.func112 (by kernel_rfl) c104
theorem c69 : compFn Tryz.prog (trWith trL []) [] false false [] Tryz.f114 = some f69 := by kernel_rfl
theorem r69 : RowOK Tryz.prog fo f69 114 := .mk (trWith_ok trL_ok (by kernel_rfl)) Tryz.func114 (by kernel_rfl) c69
theorem c70 : compFn Tryz.prog (trWith trL []) [] false false [[0, 1, 5, 6, 7]] Tryz.f115 = some f70 := by kernel_rfl
theorem r70 : RowOK Tryz.prog fo f70 115 := .mk (trWith_ok trL_ok (by kernel_rfl)) Tryz.func115 (by kernel_rfl) c70
set_option maxRecDepth 10000 in
theorem ok1 : AllOK Tryz.prog fo VP fs1 := .cons rfl r33 <| .cons rfl r34 <| .cons rfl r35 <| .cons rfl r36 <| .cons rfl r37 <| .cons rfl r39 <| .cons rfl r40 <| .cons rfl r42 <| .cons rfl r43 <| .cons rfl r45 <| .cons rfl r65 <| .cons rfl r66 <| .cons rfl r67 <| .cons rfl r147 <| .cons rfl r119 <| .cons rfl r120 <| .cons rfl r121 <| .cons rfl r122 <| .cons rfl r68 <| .cons rfl r104 <| .cons rfl r69 <| .cons rfl r70 <| .nil
end Go.Proofs.YtboekhenldifhaaGreat
/- The compiled functions are those of the loaded program: part 2. Printed by wip/tools. -/
namespace Go.Proofs.YtboekhenldifhaaGreat
theorem c123 : compFn Tryz.prog (trWith trL []) [] false false [] Tryz.f126 = some f123 := by kernel_rfl
theorem r123 : RowOK Tryz.prog fo f123 126 := .mk (trWith_ok trL_ok (by kernel_rfl)) Tryz.func126 (by kernel_rfl) c123
theorem c107 : compFn Tryz.prog (trWith trL []) [] false false [] Tryz.f128 = some f107 := by kernel_rfl
theorem r107 : RowOK Tryz.prog fo f107 128 := .mk (trWith_ok trL_ok (by kernel_rfl)) Tryz.func128 (by kernel_rfl) c107
theorem c155 : compFn Tryz.prog (trWith trL []) [] false false [] Tryz.f129 = some f155 := by kernel_rfl
theorem r155 : RowOK Tryz.prog fo f155 129 := .mk (trWith_ok trL_ok (by kernel_rfl)) Tryz.func129 (by kernel_rfl) c155
theorem c156 : compFn Tryz.prog (trWith trL []) [] false false [] Tryz.f131 = some f156 := by kernel_rfl
theorem r156 : RowOK Tryz.prog fo f156 131 := .mk (trWith_ok trL_ok (by kernel_rfl)) Tryz.func131 (by kernel_rfl) c156
theorem c49 : compFn Tryz.prog (trWith trL []) [] false false [[1, 3, 15, 16, 17], [3, 31, 32, 33]] Tryz.f136 = some f49 := by kernel_rfl
theorem r49 : RowOK Tryz.prog fo f49 136 := .mk (trWith_ok trL_ok (by kernel_rfl)) Tryz.func136 (by kernel_rfl) c49
theorem c50 : compFn Tryz.prog (trWith trL []) [] false false [] Tryz.f137 = some f50 := by kernel_rfl
theorem r50 : RowOK Tryz.prog fo f50 137 := .mk (trWith_ok trL_ok (by kernel_rfl)) Tryz.func137 (by kernel_rfl) c50
theorem c51 : compFn Tryz.prog (trWith trL []) [] false false [] Tryz.f138 = some f51 := by kernel_rfl
theorem r51 : RowOK Tryz.prog fo f51 138 := .mk (trWith_ok trL_ok (by kernel_rfl)) Tryz.func138 (by kernel_rfl) c51
theorem c52 : compFn Tryz.prog (trWith trL []) [] false false [[3, 9, 10, 11]] Tryz.f139 = some f52 := by kernel_rfl
theorem r52 : RowOK Tryz.prog fo f52 139 := .mk (trWith_ok trL_ok (by kernel_rfl)) Tryz.func139 (by kernel_rfl) c52
theorem c53 : compFn Tryz.prog (trWith trL []) [] false false [] Tryz.f140 = some f53 := by kernel_rfl
theorem r53 : RowOK Tryz.prog fo f53 140 := .mk (trWith_ok trL_ok (by kernel_rfl)) Tryz.func140 (by kernel_rfl) c53
theorem c54 : compFn Tryz.prog (trWith trL []) [] false false [] Tryz.f141 = some f54 := by kernel_rfl
theorem r54 : RowOK Tryz.prog fo f54 141 := .mk (trWith_ok trL_ok (by kernel_rfl)) Tryz.func141 (by kernel_rfl) c54
theorem c55 : compFn Tryz.prog (trWith trL []) [] false false [[3, 12, 13, 14], [3, 5, 12, 13, 14, 34, 35, 36]] Tryz.f142 = some f55 := by kernel_rfl
theorem r55 : RowOK Tryz.prog fo f55 142 := .mk (trWith_ok trL_ok (by kernel_rfl)) Tryz.func142 (by kernel_rfl) c55
theorem c56 : compFn Tryz.prog (trWith trL []) [] false false [[1, 3, 57, 58, 59], [112, 113, 114]] Tryz.f143 = some f56 := by kernel_rfl
theorem r56 : RowOK Tryz.prog fo f56 143 := .mk (trWith_ok trL_ok (by kernel_rfl)) Tryz.func143 (by kernel_rfl) c56
theorem c57 : compFn Tryz.prog (trWith trL []) [] false false [[2, 3]] Tryz.f144 = some f57 := by kernel_rfl
theorem r57 : RowOK Tryz.prog fo f57 144 := .mk (trWith_ok trL_ok (by kernel_rfl)) Tryz.func144 (by kernel_rfl) c57
theorem c58 : compFn Tryz.prog (trWith trL []) [] false false [] Tryz.f145 = some f58 := by kernel_rfl
theorem r58 : RowOK Tryz.prog fo f58 145 := .mk (trWith_ok trL_ok (by kernel_rfl)) Tryz.func145 (by kernel_rfl) c58
theorem c59 : compFn Tryz.prog (trWith trL []) [] false false [[1, 2, 20, 21, 22], [1, 2, 3, 20, 21, 22, 33, 34, 35]] Tryz.f146 = some f59 := by kernel_rfl
theorem r59 : RowOK Tryz.prog fo f59 146 := .mk (trWith_ok trL_ok (by kernel_rfl)) Tryz.func146 (by kernel_rfl) c59
theorem c60 : compFn Tryz.prog (trWith trL []) [] false false [[0, 1, 7, 8]] Tryz.f147 = some f60 := by kernel_rfl
theorem r60 : RowOK Tryz.prog fo f60 147 := .mk (trWith_ok trL_ok (by kernel_rfl)) Tryz.func147 (by kernel_rfl) c60
theorem c61 : compFn Tryz.prog (trWith trL []) [] false false [[0, 1, 7, 8]] Tryz.f148 = some f61 := by kernel_rfl
theorem r61 : RowOK Tryz.prog fo f61 148 := .mk (trWith_ok trL_ok (by kernel_rfl)) Tryz.func148 (by kernel_rfl) c61
theorem c62 : compFn Tryz.prog (trWith trL []) [] false false [[0, 1, 7, 8]] Tryz.f149 = some f62 := by kernel_rfl
theorem r62 : RowOK Tryz.prog fo f62 149 := .mk (trWith_ok trL_ok (by kernel_rfl)) Tryz.func149 (by kernel_rfl) c62
theorem c63 : compFn Tryz.prog (trWith trL []) [] false false [] Tryz.f150 = some f63 := by kernel_rfl
theorem r63 : RowOK Tryz.prog fo f63 150 := .mk (trWith_ok trL_ok (by kernel_rfl)) Tryz.func150 (by kernel_rfl) c63
theorem c64 : compFn Tryz.prog (trWith trL []) [] false false [] Tryz.f151 = some f64 := by kernel_rfl
theorem r64 : RowOK Tryz.prog fo f64 151 := .mk (trWith_ok trL_ok (by kernel_rfl)) Tryz.func151 (by kernel_rfl) c64
theorem c71 : compFn Tryz.prog (trWith trL []) [] false false [[0, 1]] Tryz.f152 = some f71 := by kernel_rfl
theorem r71 : RowOK Tryz.prog fo f71 152 := .mk (trWith_ok trL_ok (by kernel_rfl)) Tryz.func152 (by kernel_rfl) c71
theorem c72 : compFn Tryz.prog (trWith trL []) [] false false [[0, 1, 9], [9, 10, 11, 12, 13]] Tryz.f153 = some f72 := by kernel_rfl
theorem r72 : RowOK Tryz.prog fo f72 153 := .mk (trWith_ok trL_ok (by kernel_rfl)) Tryz.func153 (by kernel_rfl) c72
set_option maxRecDepth 10000 in
theorem ok2 : AllOK Tryz.prog fo VP fs2 := .cons rfl r123 <| .cons rfl r107 <| .cons rfl r155 <| .cons rfl r156 <| .cons rfl r49 <| .cons rfl r50 <| .cons rfl r51 <| .cons rfl r52 <| .cons rfl r53 <| .cons rfl r54 <| .cons rfl r55 <| .cons rfl r56 <| .cons rfl r57 <| .cons rfl r58 <| .cons rfl r59 <| .cons rfl r60 <| .cons rfl r61 <| .cons rfl r62 <| .cons rfl r63 <| .cons rfl r64 <| .cons rfl r71 <| .cons rfl r72 <| .nil
end Go.Proofs.YtboekhenldifhaaGreat
/- The compiled functions are those of the loaded program: part 3. Printed by wip/tools. -/
namespace Go.Proofs.YtboekhenldifhaaGreat
theorem c108 : compFn Tryz.prog (trWith trL []) [] false false [] Tryz.f154 = some f108 := by kernel_rfl
theorem r108 : RowOK Tryz.prog fo f108 154 := .mk (trWith_ok trL_ok (by kernel_rfl)) Tryz.func154 (by kernel_rfl) c108
theorem c109 : compFn Tryz.prog (trWith trL []) [] false false [[3, 4, 5, 8]] Tryz.f155 = some f109 := by kernel_rfl
theorem r109 : RowOK Tryz.prog fo f109 155 := .mk (trWith_ok trL_ok (by kernel_rfl)) Tryz.func155 (by kernel_rfl) c109
theorem c110 : compFn Tryz.prog (trWith trL []) [] false false [[1, 5, 16, 17, 18], [1, 5, 7, 16, 17, 18, 22, 23, 24]] Tryz.f156 = some f110 := by kernel_rfl
theorem r110 : RowOK Tryz.prog fo f110 156 := .mk (trWith_ok trL_ok (by kernel_rfl)) Tryz.func156 (by kernel_rfl) c110
theorem c185 : compFn Tryz.prog (trWith trL []) [] false false [] Tryz.f157 = some f185 := by kernel_rfl
theorem r185 : RowOK Tryz.prog fo f185 157 := .mk (trWith_ok trL_ok (by kernel_rfl)) Tryz.func157 (by kernel_rfl) c185
theorem c186 : compFn Tryz.prog (trWith trL []) [true] true false [[0, 1, 5, 6]] Tryz.f158 = some f186 := by kernel_rfl
theorem r186 : RowOK Tryz.prog fo f186 158 := .mk (trWith_ok trL_ok (by kernel_rfl)) Tryz.func158 (by kernel_rfl) c186
theorem c187 : compFn Tryz.prog (trWith trL []) [] false false [] Tryz.f159 = some f187 := by kernel_rfl
theorem r187 : RowOK Tryz.prog fo f187 159 := .mk (trWith_ok trL_ok (by kernel_rfl)) Tryz.func159 (by kernel_rfl) c187
theorem c157 : compFn Tryz.prog (trWith trL []) [] false false [] Tryz.f160 = some f157 := by kernel_rfl
theorem r157 : RowOK Tryz.prog fo f157 160 := .mk (trWith_ok trL_ok (by kernel_rfl)) Tryz.func160 (by kernel_rfl) c157
theorem c158 : compFn Tryz.prog (trWith trL []) [true] false false [] Tryz.f161 = some f158 := by kernel_rfl
theorem r158 : RowOK Tryz.prog fo f158 161 := .mk (trWith_ok trL_ok (by kernel_rfl)) Tryz.func161 (by kernel_rfl) c158
theorem c188 : compFn Tryz.prog (trWith trL []) [] false false [] Tryz.f162 = some f188 := by kernel_rfl
theorem r188 : RowOK Tryz.prog fo f188 162 := .mk (trWith_ok trL_ok (by kernel_rfl)) Tryz.func162 (by kernel_rfl) c188
theorem c200 : compFn Tryz.prog (trWith trL []) [] false false [] Tryz.f164 = some f200 := by kernel_rfl
theorem r200 : RowOK Tryz.prog fo f200 164 := .mk (trWith_ok trL_ok (by kernel_rfl)) Tryz.func164 (by kernel_rfl) c200
theorem c124 : compFn Tryz.prog (trWith trL []) [] false false [[0, 1, 5, 6], [0, 1, 5, 6, 7, 8], [0, 1, 5, 6, 7, 10]] Tryz.f166 = some f124 := by kernel_rfl
theorem r124 : RowOK Tryz.prog fo f124 166 := .mk (trWith_ok trL_ok (by kernel_rfl)) Tryz.func166 (by kernel_rfl) c124
theorem c160 : compFn Tryz.prog (trWith trL [(168, 270)]) [] false false [[1, 6, 7, 8]] Tryz.f167 = some f160 := by kernel_rfl
theorem r160 : RowOK Tryz.prog fo f160 167 := .mk (trWith_ok trL_ok (by kernel_rfl)) Tryz.func167 (by kernel_rfl) c160
theorem c113 : compFn Tryz.prog (trWith trL []) [] false false [[0, 3]] Tryz.f168 = some f113 := by kernel_rfl
theorem r113 : RowOK Tryz.prog fo f113 168 := .mk (trWith_ok trL_ok (by kernel_rfl)) Tryz.func168 (by kernel_rfl) c113
theorem c270 : compFn Tryz.prog (trWith trL []) [] true false [[0, 3]] Tryz.f168 = some f270 := by kernel_rfl
theorem r270 : RowOK Tryz.prog fo f270 168 := .mk (trWith_ok trL_ok (by kernel_rfl)) Tryz.func168 (by kernel_rfl) c270
theorem c111 : compFn Tryz.prog (trWith trL []) [] false false [[7, 8, 9], [7, 8, 9, 14, 15]] Tryz.f169 = some f111 := by kernel_rfl
theorem r111 : RowOK Tryz.prog fo f111 169 := .mk (trWith_ok trL_ok (by kernel_rfl)) Tryz.func169 (by kernel_rfl) c111
theorem c112 : compFn Tryz.prog (trWith trL []) [] false false [[3, 4, 13, 14, 15], [3, 9, 44, 45, 46]] Tryz.f170 = some f112 := by kernel_rfl
theorem r112 : RowOK Tryz.prog fo f112 170 := .mk (trWith_ok trL_ok (by kernel_rfl)) Tryz.func170 (by kernel_rfl) c112
theorem c148 : compFn Tryz.prog (trWith trL []) [] false false [] Tryz.f189 = some f148 := by kernel_rfl
theorem r148 : RowOK Tryz.prog fo f148 189 := .mk (trWith_ok trL_ok (by kernel_rfl)) Tryz.func189 (by kernel_rfl) c148
theorem c149 : compFn Tryz.prog (trWith trL []) [] false false [] Tryz.f190 = some f149 := by kernel_rfl
theorem r149 : RowOK Tryz.prog fo f149 190 := .mk (trWith_ok trL_ok (by kernel_rfl)) Tryz.func190 (by kernel_rfl) c149
theorem c150 : compFn Tryz.prog (trWith trL []) [] false false [] Tryz.f191 = some f150 := by kernel_rfl
theorem r150 : RowOK Tryz.prog fo f150 191 := .mk (trWith_ok trL_ok (by kernel_rfl)) Tryz.func191 (by kernel_rfl) c150
theorem c195 : compFn Tryz.prog (trWith trL []) [] false false [] Tryz.f192 = some f195 := by kernel_rfl
theorem r195 : RowOK Tryz.prog fo f195 192 := .mk (trWith_ok trL_ok (by kernel_rfl)) Tryz.func192 (by kernel_rfl) c195
theorem c196 : compFn Tryz.prog (trWith trL []) [] false false [[1, 5, 24, 25, 26], [1, 5, 6, 7, 8, 24, 25, 26, 31, 32, 33]] Tryz.f193 = some f196 := by kernel_rfl
theorem r196 : RowOK Tryz.prog fo f196 193 := .mk (trWith_ok trL_ok (by kernel_rfl)) Tryz.func193 (by kernel_rfl) c196
theorem c197 : compFn Tryz.prog (trWith trL []) [] false false [] Tryz.f194 = some f197 := by kernel_rfl
theorem r197 : RowOK Tryz.prog fo f197 194 := .mk (trWith_ok trL_ok (by kernel_rfl)) Tryz.func194 (by kernel_rfl) c197
set_option maxRecDepth 10000 in
theorem ok3 : AllOK Tryz.prog fo VP fs3 := .cons rfl r108 <| .cons rfl r109 <| .cons rfl r110 <| .cons rfl r185 <| .cons rfl r186 <| .cons rfl r187 <| .cons rfl r157 <| .cons rfl r158 <| .cons rfl r188 <| .cons rfl r200 <| .cons rfl r124 <| .cons rfl r160 <| .cons rfl r113 <| .cons rfl r270 <| .cons rfl r111 <| .cons rfl r112 <| .cons rfl r148 <| .cons rfl r149 <| .cons rfl r150 <| .cons rfl r195 <| .cons rfl r196 <| .cons rfl r197 <| .nil
end Go.Proofs.YtboekhenldifhaaGreat
/- The compiled functions are those of the loaded program: part 4. Printed by wip/tools. -/
namespace Go.Proofs.YtboekhenldifhaaGreat
theorem c198 : compFn Tryz.prog (trWith trL []) [] false false [] Tryz.f195 = some f198 := by kernel_rfl
theorem r198 : RowOK Tryz.prog fo f198 195 := .mk (trWith_ok trL_ok (by kernel_rfl)) Tryz.func195 (by kernel_rfl) c198
theorem c86 : compFn Tryz.prog (trWith trL []) [] false false [[0, 1, 7, 8]] Tryz.f198 = some f86 := by kernel_rfl
theorem r86 : RowOK Tryz.prog fo f86 198 := .mk (trWith_ok trL_ok (by kernel_rfl)) Tryz.func198 (by kernel_rfl) c86
theorem c87 : compFn Tryz.prog (trWith trL []) [] false false [] Tryz.f199 = some f87 := by kernel_rfl
theorem r87 : RowOK Tryz.prog fo f87 199 := .mk (trWith_ok trL_ok (by kernel_rfl)) Tryz.func199 (by kernel_rfl) c87
theorem c88 : compFn Tryz.prog (trWith trL []) [] false false [] Tryz.f200 = some f88 := by kernel_rfl
theorem r88 : RowOK Tryz.prog fo f88 200 := .mk (trWith_ok trL_ok (by kernel_rfl)) Tryz.func200 (by kernel_rfl) c88
theorem c89 : compFn Tryz.prog (trWith trL []) [] false false [] Tryz.f201 = some f89 := by kernel_rfl
theorem r89 : RowOK Tryz.prog fo f89 201 := .mk (trWith_ok trL_ok (by kernel_rfl)) Tryz.func201 (by kernel_rfl) c89
theorem c90 : compFn Tryz.prog (trWith trL []) [false, false, true] false false [[1, 2, 10, 11, 12]] Tryz.f202 = some f90 := by kernel_rfl
theorem r90 : RowOK Tryz.prog fo f90 202 := .mk (trWith_ok trL_ok (by kernel_rfl)) Tryz.func202 (by kernel_rfl) c90
theorem c91 : compFn Tryz.prog (trWith trL []) [false, true] false false [] Tryz.f203 = some f91 := by kernel_rfl
theorem r91 : RowOK Tryz.prog fo f91 203 := .mk (trWith_ok trL_ok (by kernel_rfl)) Tryz.func203 (by kernel_rfl) c91
theorem c92 : compFn Tryz.prog (trWith trL []) [] false false [[2, 3, 9, 10, 11]] Tryz.f204 = some f92 := by kernel_rfl
theorem r92 : RowOK Tryz.prog fo f92 204 := .mk (trWith_ok trL_ok (by kernel_rfl)) Tryz.func204 (by kernel_rfl) c92
theorem c93 : compFn Tryz.prog (trWith trL []) [] false false [] Tryz.f205 = some f93 := by kernel_rfl
theorem r93 : RowOK Tryz.prog fo f93 205 := .mk (trWith_ok trL_ok (by kernel_rfl)) Tryz.func205 (by kernel_rfl) c93
theorem c94 : compFn Tryz.prog (trWith trL []) [] false false [[1, 3, 5, 25, 26, 27]] Tryz.f206 = some f94 := by kernel_rfl
theorem r94 : RowOK Tryz.prog fo f94 206 := .mk (trWith_ok trL_ok (by kernel_rfl)) Tryz.func206 (by kernel_rfl) c94
theorem c95 : compFn Tryz.prog (trWith trL []) [] false false [] Tryz.f207 = some f95 := by kernel_rfl
theorem r95 : RowOK Tryz.prog fo f95 207 := .mk (trWith_ok trL_ok (by kernel_rfl)) Tryz.func207 (by kernel_rfl) c95
theorem c97 : compFn Tryz.prog (trWith trL []) [] false false [] Tryz.f209 = some f97 := by kernel_rfl
theorem r97 : RowOK Tryz.prog fo f97 209 := .mk (trWith_ok trL_ok (by kernel_rfl)) Tryz.func209 (by kernel_rfl) c97
theorem c99 : compFn Tryz.prog (trWith trL []) [] false false [] Tryz.f211 = some f99 := by kernel_rfl
theorem r99 : RowOK Tryz.prog fo f99 211 := .mk (trWith_ok trL_ok (by kernel_rfl)) Tryz.func211 (by kernel_rfl) c99
theorem c100 : compFn Tryz.prog (trWith trL []) [true] false false [] Tryz.f212 = some f100 := by kernel_rfl
theorem r100 : RowOK Tryz.prog fo f100 212 := .mk (trWith_ok trL_ok (by kernel_rfl)) Tryz.func212 (by kernel_rfl) c100
theorem c101 : compFn Tryz.prog (trWith trL []) [true, true, true] false false [[0, 1, 2, 7, 8]] Tryz.f213 = some f101 := by kernel_rfl
theorem r101 : RowOK Tryz.prog fo f101 213 := .mk (trWith_ok trL_ok (by kernel_rfl)) Tryz.func213 (by kernel_rfl) c101
theorem c102 : compFn Tryz.prog (trWith trL []) [] false false [] Tryz.f214 = some f102 := by kernel_rfl
theorem r102 : RowOK Tryz.prog fo f102 214 := .mk (trWith_ok trL_ok (by kernel_rfl)) Tryz.func214 (by kernel_rfl) c102
theorem c103 : compFn Tryz.prog (trWith trL []) [] true true [] Tryz.f215 = some f103 := by kernel_rfl
theorem r103 : RowOK Tryz.prog fo f103 215 := .mk (trWith_ok trL_ok (by kernel_rfl)) Tryz.func215 (by kernel_rfl) c103
theorem c105 : compFn Tryz.prog (trWith trL []) [] false false [[0, 1, 7, 8]] Tryz.f216 = some f105 := by kernel_rfl
theorem r105 : RowOK Tryz.prog fo f105 216 := .mk (trWith_ok trL_ok (by kernel_rfl)) Tryz.func216 (by kernel_rfl) c105
theorem c114 : compFn Tryz.prog (trWith trL []) [] false false [[0, 1, 5]] Tryz.f217 = some f114 := by kernel_rfl
theorem r114 : RowOK Tryz.prog fo f114 217 := .mk (trWith_ok trL_ok (by kernel_rfl)) Tryz.func217 (by kernel_rfl) c114
theorem c115 : compFn Tryz.prog (trWith trL []) [] false false [[0, 1, 6, 7, 8]] Tryz.f218 = some f115 := by kernel_rfl
theorem r115 : RowOK Tryz.prog fo f115 218 := .mk (trWith_ok trL_ok (by kernel_rfl)) Tryz.func218 (by kernel_rfl) c115
theorem c151 : compFn Tryz.prog (trWith trL []) [] false false [] Tryz.f222 = some f151 := by kernel_rfl
theorem r151 : RowOK Tryz.prog fo f151 222 := .mk (trWith_ok trL_ok (by kernel_rfl)) Tryz.func222 (by kernel_rfl) c151
theorem c152 : compFn Tryz.prog (trWith trL []) [] false false [] Tryz.f223 = some f152 := by kernel_rfl
theorem r152 : RowOK Tryz.prog fo f152 223 := .mk (trWith_ok trL_ok (by kernel_rfl)) Tryz.func223 (by kernel_rfl) c152
set_option maxRecDepth 10000 in
theorem ok4 : AllOK Tryz.prog fo VP fs4 := .cons rfl r198 <| .cons rfl r86 <| .cons rfl r87 <| .cons rfl r88 <| .cons rfl r89 <| .cons rfl r90 <| .cons rfl r91 <| .cons rfl r92 <| .cons rfl r93 <| .cons rfl r94 <| .cons rfl r95 <| .cons rfl r97 <| .cons rfl r99 <| .cons rfl r100 <| .cons rfl r101 <| .cons rfl r102 <| .cons rfl r103 <| .cons rfl r105 <| .cons rfl r114 <| .cons rfl r115 <| .cons rfl r151 <| .cons rfl r152 <| .nil
end Go.Proofs.YtboekhenldifhaaGreat
/- The compiled functions are those of the loaded program: part 5. Printed by wip/tools. -/
namespace Go.Proofs.YtboekhenldifhaaGreat
theorem c153 : compFn Tryz.prog (trWith trL []) [] false false [] Tryz.f224 = some f153 := by kernel_rfl
theorem r153 : RowOK Tryz.prog fo f153 224 := .mk (trWith_ok trL_ok (by kernel_rfl)) Tryz.func224 (by kernel_rfl) c153
theorem c154 : compFn Tryz.prog (trWith trL []) [] false false [[2, 3, 4, 6]] Tryz.f225 = some f154 := by kernel_rfl
theorem r154 : RowOK Tryz.prog fo f154 225 := .mk (trWith_ok trL_ok (by kernel_rfl)) Tryz.func225 (by kernel_rfl) c154
theorem c216 : compFn Tryz.prog (trWith trL []) [] false false [[0, 1, 7, 8]] Tryz.f226 = some f216 := by kernel_rfl
theorem r216 : RowOK Tryz.prog fo f216 226 := .mk (trWith_ok trL_ok (by kernel_rfl)) Tryz.func226 (by kernel_rfl) c216
theorem c199 : compFn Tryz.prog (trWith trL []) [true] false false [[0, 1, 2, 3, 4, 10, 11]] Tryz.f227 = some f199 := by kernel_rfl
theorem r199 : RowOK Tryz.prog fo f199 227 := .mk (trWith_ok trL_ok (by kernel_rfl)) Tryz.func227 (by kernel_rfl) c199
theorem c237 : compFn Tryz.prog (trWith trL []) [] false false [] Tryz.f237 = some f237 := by kernel_rfl
theorem r237 : RowOK Tryz.prog fo f237 237 := .mk (trWith_ok trL_ok (by kernel_rfl)) Tryz.func237 (by kernel_rfl) c237
theorem c159 : compFn Tryz.prog (trWith trL []) [] false false [] Tryz.f239 = some f159 := by kernel_rfl
theorem r159 : RowOK Tryz.prog fo f159 239 := .mk (trWith_ok trL_ok (by kernel_rfl)) Tryz.func239 (by kernel_rfl) c159
theorem c189 : compFn Tryz.prog (trWith trL []) [] false false [] Tryz.f253 = some f189 := by kernel_rfl
theorem r189 : RowOK Tryz.prog fo f189 253 := .mk (trWith_ok trL_ok (by kernel_rfl)) Tryz.func253 (by kernel_rfl) c189
theorem c190 : compFn Tryz.prog (trWith trL []) [] false false [[0, 1], [8, 9]] Tryz.f254 = some f190 := by kernel_rfl
theorem r190 : RowOK Tryz.prog fo f190 254 := .mk (trWith_ok trL_ok (by kernel_rfl)) Tryz.func254 (by kernel_rfl) c190
theorem c191 : compFn Tryz.prog (trWith trL []) [] false false [] Tryz.f255 = some f191 := by kernel_rfl
theorem r191 : RowOK Tryz.prog fo f191 255 := .mk (trWith_ok trL_ok (by kernel_rfl)) Tryz.func255 (by kernel_rfl) c191
theorem c223 : compFn Tryz.prog (trWith trL []) [] false false [] Tryz.f256 = some f223 := by kernel_rfl
theorem r223 : RowOK Tryz.prog fo f223 256 := .mk (trWith_ok trL_ok (by kernel_rfl)) Tryz.func256 (by kernel_rfl) c223
theorem c217 : compFn Tryz.prog (trWith trL []) [] false false [[0]] Tryz.f257 = some f217 := by kernel_rfl
theorem r217 : RowOK Tryz.prog fo f217 257 := .mk (trWith_ok trL_ok (by kernel_rfl)) Tryz.func257 (by kernel_rfl) c217
theorem c224 : compFn Tryz.prog (trWith trL []) [] false false [] Tryz.f258 = some f224 := by kernel_rfl
theorem r224 : RowOK Tryz.prog fo f224 258 := .mk (trWith_ok trL_ok (by kernel_rfl)) Tryz.func258 (by kernel_rfl) c224
theorem c225 : compFn Tryz.prog (trWith trL []) [] false false [] Tryz.f259 = some f225 := by kernel_rfl
theorem r225 : RowOK Tryz.prog fo f225 259 := .mk (trWith_ok trL_ok (by kernel_rfl)) Tryz.func259 (by kernel_rfl) c225
theorem c226 : compFn Tryz.prog (trWith trL []) [] false false [[0, 1, 5, 6, 21, 22, 23]] Tryz.f260 = some f226 := by kernel_rfl
theorem r226 : RowOK Tryz.prog fo f226 260 := .mk (trWith_ok trL_ok (by kernel_rfl)) Tryz.func260 (by kernel_rfl) c226
theorem c220 : compFn Tryz.prog (trWith trL []) [] false false [[0, 1, 5]] Tryz.f261 = some f220 := by kernel_rfl
theorem r220 : RowOK Tryz.prog fo f220 261 := .mk (trWith_ok trL_ok (by kernel_rfl)) Tryz.func261 (by kernel_rfl) c220
theorem c227 : compFn Tryz.prog (trWith trL []) [] false false [[1, 6, 7, 22, 23, 24]] Tryz.f262 = some f227 := by kernel_rfl
theorem r227 : RowOK Tryz.prog fo f227 262 := .mk (trWith_ok trL_ok (by kernel_rfl)) Tryz.func262 (by kernel_rfl) c227
theorem c133 : compFn Tryz.prog (trWith trL []) [] false false [] Tryz.f264 = some f133 := by kernel_rfl
theorem r133 : RowOK Tryz.prog fo f133 264 := .mk (trWith_ok trL_ok (by kernel_rfl)) Tryz.func264 (by kernel_rfl) c133
theorem c134 : compFn Tryz.prog (trWith trL []) [] false false [] Tryz.f265 = some f134 := by kernel_rfl
theorem r134 : RowOK Tryz.prog fo f134 265 := .mk (trWith_ok trL_ok (by kernel_rfl)) Tryz.func265 (by kernel_rfl) c134
theorem c135 : compFn Tryz.prog (trWith trL []) [] false false [] Tryz.f266 = some f135 := by kernel_rfl
theorem r135 : RowOK Tryz.prog fo f135 266 := .mk (trWith_ok trL_ok (by kernel_rfl)) Tryz.func266 (by kernel_rfl) c135
theorem c136 : compFn Tryz.prog (trWith trL []) [] false false [[0, 1, 12, 13]] Tryz.f267 = some f136 := by kernel_rfl
theorem r136 : RowOK Tryz.prog fo f136 267 := .mk (trWith_ok trL_ok (by kernel_rfl)) Tryz.func267 (by kernel_rfl) c136
theorem c137 : compFn Tryz.prog (trWith trL []) [] false false [] Tryz.f268 = some f137 := by kernel_rfl
theorem r137 : RowOK Tryz.prog fo f137 268 := .mk (trWith_ok trL_ok (by kernel_rfl)) Tryz.func268 (by kernel_rfl) c137
theorem c138 : compFn Tryz.prog (trWith trL []) [] false false [[2, 3, 5, 6, 7, 8, 9, 87, 88, 89]] Tryz.f269 = some f138 := by kernel_rfl
theorem r138 : RowOK Tryz.prog fo f138 269 := .mk (trWith_ok trL_ok (by kernel_rfl)) Tryz.func269 (by kernel_rfl) c138
set_option maxRecDepth 10000 in
theorem ok5 : AllOK Tryz.prog fo VP fs5 := .cons rfl r153 <| .cons rfl r154 <| .cons rfl r216 <| .cons rfl r199 <| .cons rfl r237 <| .cons rfl r159 <| .cons rfl r189 <| .cons rfl r190 <| .cons rfl r191 <| .cons rfl r223 <| .cons rfl r217 <| .cons rfl r224 <| .cons rfl r225 <| .cons rfl r226 <| .cons rfl r220 <| .cons rfl r227 <| .cons rfl r133 <| .cons rfl r134 <| .cons rfl r135 <| .cons rfl r136 <| .cons rfl r137 <| .cons rfl r138 <| .nil
end Go.Proofs.YtboekhenldifhaaGreat
/- The compiled functions are those of the loaded program: part 6. Printed by wip/tools. -/
namespace Go.Proofs.YtboekhenldifhaaGreat
theorem c140 : compFn Tryz.prog (trWith trL []) [] false false [] Tryz.f271 = some f140 := by kernel_rfl
theorem r140 : RowOK Tryz.prog fo f140 271 := .mk (trWith_ok trL_ok (by kernel_rfl)) Tryz.func271 (by kernel_rfl) c140
theorem c141 : compFn Tryz.prog (trWith trL []) [] false false [] Tryz.f272 = some f141 := by kernel_rfl
theorem r141 : RowOK Tryz.prog fo f141 272 := .mk (trWith_ok trL_ok (by kernel_rfl)) Tryz.func272 (by kernel_rfl) c141
theorem c142 : compFn Tryz.prog (trWith trL []) [] false false [] Tryz.f273 = some f142 := by kernel_rfl
theorem r142 : RowOK Tryz.prog fo f142 273 := .mk (trWith_ok trL_ok (by kernel_rfl)) Tryz.func273 (by kernel_rfl) c142
theorem c144 : compFn Tryz.prog (trWith trL []) [] false false [] Tryz.f275 = some f144 := by kernel_rfl
theorem r144 : RowOK Tryz.prog fo f144 275 := .mk (trWith_ok trL_ok (by kernel_rfl)) Tryz.func275 (by kernel_rfl) c144
theorem c145 : compFn Tryz.prog (trWith trL []) [] false false [] Tryz.f276 = some f145 := by kernel_rfl
theorem r145 : RowOK Tryz.prog fo f145 276 := .mk (trWith_ok trL_ok (by kernel_rfl)) Tryz.func276 (by kernel_rfl) c145
theorem c146 : compFn Tryz.prog (trWith trL []) [] true true [] Tryz.f277 = some f146 := by kernel_rfl
theorem r146 : RowOK Tryz.prog fo f146 277 := .mk (trWith_ok trL_ok (by kernel_rfl)) Tryz.func277 (by kernel_rfl) c146
theorem c192 : compFn Tryz.prog (trWith trL []) [true] false false [] Tryz.f278 = some f192 := by kernel_rfl
theorem r192 : RowOK Tryz.prog fo f192 278 := .mk (trWith_ok trL_ok (by kernel_rfl)) Tryz.func278 (by kernel_rfl) c192
theorem c193 : compFn Tryz.prog (trWith trL []) [true, true, true, true, true] false false [[1, 4, 18, 19, 20]] Tryz.f279 = some f193 := by kernel_rfl
theorem r193 : RowOK Tryz.prog fo f193 279 := .mk (trWith_ok trL_ok (by kernel_rfl)) Tryz.func279 (by kernel_rfl) c193
theorem c194 : compFn Tryz.prog (trWith trL []) [] false false [] Tryz.f280 = some f194 := by kernel_rfl
theorem r194 : RowOK Tryz.prog fo f194 280 := .mk (trWith_ok trL_ok (by kernel_rfl)) Tryz.func280 (by kernel_rfl) c194
theorem c228 : compFn Tryz.prog (trWith trL []) [true] false false [[0, 1, 2, 3, 8], [0, 1, 2, 3, 8, 9]] Tryz.f281 = some f228 := by kernel_rfl
theorem r228 : RowOK Tryz.prog fo f228 281 := .mk (trWith_ok trL_ok (by kernel_rfl)) Tryz.func281 (by kernel_rfl) c228
theorem c218 : compFn Tryz.prog (trWith trL []) [] false false [[3, 6, 7, 8]] Tryz.f305 = some f218 := by kernel_rfl
theorem r218 : RowOK Tryz.prog fo f218 305 := .mk (trWith_ok trL_ok (by kernel_rfl)) Tryz.func305 (by kernel_rfl) c218
theorem c219 : compFn Tryz.prog (trWith trL []) [] false false [] Tryz.f306 = some f219 := by kernel_rfl
theorem r219 : RowOK Tryz.prog fo f219 306 := .mk (trWith_ok trL_ok (by kernel_rfl)) Tryz.func306 (by kernel_rfl) c219
theorem c221 : compFn Tryz.prog (trWith trL []) [] false false [[0, 1, 6, 7, 8]] Tryz.f307 = some f221 := by kernel_rfl
theorem r221 : RowOK Tryz.prog fo f221 307 := .mk (trWith_ok trL_ok (by kernel_rfl)) Tryz.func307 (by kernel_rfl) c221
theorem c253 : compFn Tryz.prog (trWith trL []) [] false false [] Tryz.f309 = some f253 := by kernel_rfl
theorem r253 : RowOK Tryz.prog fo f253 309 := .mk (trWith_ok trL_ok (by kernel_rfl)) Tryz.func309 (by kernel_rfl) c253
theorem c170 : compFn Tryz.prog (trWith trL []) [] false false [[1, 4, 38, 39], [5, 51, 52, 53]] Tryz.f311 = some f170 := by kernel_rfl
theorem r170 : RowOK Tryz.prog fo f170 311 := .mk (trWith_ok trL_ok (by kernel_rfl)) Tryz.func311 (by kernel_rfl) c170
theorem c171 : compFn Tryz.prog (trWith trL []) [] false false [] Tryz.f312 = some f171 := by kernel_rfl
theorem r171 : RowOK Tryz.prog fo f171 312 := .mk (trWith_ok trL_ok (by kernel_rfl)) Tryz.func312 (by kernel_rfl) c171
theorem c172 : compFn Tryz.prog (trWith trL []) [] false false [] Tryz.f313 = some f172 := by kernel_rfl
theorem r172 : RowOK Tryz.prog fo f172 313 := .mk (trWith_ok trL_ok (by kernel_rfl)) Tryz.func313 (by kernel_rfl) c172
theorem c174 : compFn Tryz.prog (trWith trL []) [] false false [[2, 3, 8, 9, 30, 31, 32]] Tryz.f315 = some f174 := by kernel_rfl
theorem r174 : RowOK Tryz.prog fo f174 315 := .mk (trWith_ok trL_ok (by kernel_rfl)) Tryz.func315 (by kernel_rfl) c174
theorem c175 : compFn Tryz.prog (trWith trL []) [] false false [] Tryz.f316 = some f175 := by kernel_rfl
theorem r175 : RowOK Tryz.prog fo f175 316 := .mk (trWith_ok trL_ok (by kernel_rfl)) Tryz.func316 (by kernel_rfl) c175
theorem c176 : compFn Tryz.prog (trWith trL []) [] false false [] Tryz.f317 = some f176 := by kernel_rfl
theorem r176 : RowOK Tryz.prog fo f176 317 := .mk (trWith_ok trL_ok (by kernel_rfl)) Tryz.func317 (by kernel_rfl) c176
theorem c177 : compFn Tryz.prog (trWith trL []) [] false false [] Tryz.f318 = some f177 := by kernel_rfl
theorem r177 : RowOK Tryz.prog fo f177 318 := .mk (trWith_ok trL_ok (by kernel_rfl)) Tryz.func318 (by kernel_rfl) c177
theorem c178 : compFn Tryz.prog (trWith trL []) [] false false [] Tryz.f319 = some f178 := by kernel_rfl
theorem r178 : RowOK Tryz.prog fo f178 319 := .mk (trWith_ok trL_ok (by kernel_rfl)) Tryz.func319 (by kernel_rfl) c178
set_option maxRecDepth 10000 in
theorem ok6 : AllOK Tryz.prog fo VP fs6 := .cons rfl r140 <| .cons rfl r141 <| .cons rfl r142 <| .cons rfl r144 <| .cons rfl r145 <| .cons rfl r146 <| .cons rfl r192 <| .cons rfl r193 <| .cons rfl r194 <| .cons rfl r228 <| .cons rfl r218 <| .cons rfl r219 <| .cons rfl r221 <| .cons rfl r253 <| .cons rfl r170 <| .cons rfl r171 <| .cons rfl r172 <| .cons rfl r174 <| .cons rfl r175 <| .cons rfl r176 <| .cons rfl r177 <| .cons rfl r178 <| .nil
end Go.Proofs.YtboekhenldifhaaGreat
/- The compiled functions are those of the loaded program: part 7. Printed by wip/tools. -/
namespace Go.Proofs.YtboekhenldifhaaGreat
theorem c179 : compFn Tryz.prog (trWith trL []) [] false false [[0, 1, 7, 8]] Tryz.f320 = some f179 := by kernel_rfl
theorem r179 : RowOK Tryz.prog fo f179 320 := .mk (trWith_ok trL_ok (by kernel_rfl)) Tryz.func320 (by kernel_rfl) c179
theorem c180 : compFn Tryz.prog (trWith trL []) [] false false [[3, 7, 8, 9]] Tryz.f321 = some f180 := by kernel_rfl
theorem r180 : RowOK Tryz.prog fo f180 321 := .mk (trWith_ok trL_ok (by kernel_rfl)) Tryz.func321 (by kernel_rfl) c180
theorem c181 : compFn Tryz.prog (trWith trL []) [] false false [[50, 51, 52]] Tryz.f322 = some f181 := by kernel_rfl
theorem r181 : RowOK Tryz.prog fo f181 322 := .mk (trWith_ok trL_ok (by kernel_rfl)) Tryz.func322 (by kernel_rfl) c181
theorem c182 : compFn Tryz.prog (trWith trL []) [] false false [[3, 11, 12, 13]] Tryz.f323 = some f182 := by kernel_rfl
theorem r182 : RowOK Tryz.prog fo f182 323 := .mk (trWith_ok trL_ok (by kernel_rfl)) Tryz.func323 (by kernel_rfl) c182
theorem c184 : compFn Tryz.prog (trWith trL []) [] false false [[0, 1, 7, 8]] Tryz.f325 = some f184 := by kernel_rfl
theorem r184 : RowOK Tryz.prog fo f184 325 := .mk (trWith_ok trL_ok (by kernel_rfl)) Tryz.func325 (by kernel_rfl) c184
theorem c250 : compFn Tryz.prog (trWith trL []) [] false false [] Tryz.f338 = some f250 := by kernel_rfl
theorem r250 : RowOK Tryz.prog fo f250 338 := .mk (trWith_ok trL_ok (by kernel_rfl)) Tryz.func338 (by kernel_rfl) c250
theorem c211 : compFn Tryz.prog (trWith trL []) [] false false [] Tryz.f341 = some f211 := by kernel_rfl
theorem r211 : RowOK Tryz.prog fo f211 341 := .mk (trWith_ok trL_ok (by kernel_rfl)) Tryz.func341 (by kernel_rfl) c211
theorem c212 : compFn Tryz.prog (trWith trL []) [] false false [] Tryz.f342 = some f212 := by kernel_rfl
theorem r212 : RowOK Tryz.prog fo f212 342 := .mk (trWith_ok trL_ok (by kernel_rfl)) Tryz.func342 (by kernel_rfl) c212
theorem c213 : compFn Tryz.prog (trWith trL []) [] false false [[2, 5, 11, 12, 13], [2, 5, 8, 10, 11, 12, 13]] Tryz.f343 = some f213 := by kernel_rfl
theorem r213 : RowOK Tryz.prog fo f213 343 := .mk (trWith_ok trL_ok (by kernel_rfl)) Tryz.func343 (by kernel_rfl) c213
theorem c214 : compFn Tryz.prog (trWith trL []) [] false false [] Tryz.f344 = some f214 := by kernel_rfl
theorem r214 : RowOK Tryz.prog fo f214 344 := .mk (trWith_ok trL_ok (by kernel_rfl)) Tryz.func344 (by kernel_rfl) c214
theorem c215 : compFn Tryz.prog (trWith trL []) [] false false [] Tryz.f345 = some f215 := by kernel_rfl
theorem r215 : RowOK Tryz.prog fo f215 345 := .mk (trWith_ok trL_ok (by kernel_rfl)) Tryz.func345 (by kernel_rfl) c215
theorem c244 : compFn Tryz.prog (trWith trL []) [] false false [[0, 1, 7, 8]] Tryz.f351 = some f244 := by kernel_rfl
theorem r244 : RowOK Tryz.prog fo f244 351 := .mk (trWith_ok trL_ok (by kernel_rfl)) Tryz.func351 (by kernel_rfl) c244
theorem c245 : compFn Tryz.prog (trWith trL []) [] false false [[3, 6, 7, 8]] Tryz.f352 = some f245 := by kernel_rfl
theorem r245 : RowOK Tryz.prog fo f245 352 := .mk (trWith_ok trL_ok (by kernel_rfl)) Tryz.func352 (by kernel_rfl) c245
theorem c246 : compFn Tryz.prog (trWith trL []) [] false false [[1, 5, 8, 9, 10]] Tryz.f353 = some f246 := by kernel_rfl
theorem r246 : RowOK Tryz.prog fo f246 353 := .mk (trWith_ok trL_ok (by kernel_rfl)) Tryz.func353 (by kernel_rfl) c246
theorem c248 : compFn Tryz.prog (trWith trL []) [] false false [] Tryz.f354 = some f248 := by kernel_rfl
theorem r248 : RowOK Tryz.prog fo f248 354 := .mk (trWith_ok trL_ok (by kernel_rfl)) Tryz.func354 (by kernel_rfl) c248
theorem c249 : compFn Tryz.prog (trWith trL []) [] false false [] Tryz.f355 = some f249 := by kernel_rfl
theorem r249 : RowOK Tryz.prog fo f249 355 := .mk (trWith_ok trL_ok (by kernel_rfl)) Tryz.func355 (by kernel_rfl) c249
theorem c262 : compFn Tryz.prog (trWith trL []) [] false false [[0, 3, 4]] Tryz.f357 = some f262 := by kernel_rfl
theorem r262 : RowOK Tryz.prog fo f262 357 := .mk (trWith_ok trL_ok (by kernel_rfl)) Tryz.func357 (by kernel_rfl) c262
theorem c263 : compFn Tryz.prog (trWith trL []) [] false false [] Tryz.f358 = some f263 := by kernel_rfl
theorem r263 : RowOK Tryz.prog fo f263 358 := .mk (trWith_ok trL_ok (by kernel_rfl)) Tryz.func358 (by kernel_rfl) c263
theorem c264 : compFn Tryz.prog (trWith trL []) [] false false [] Tryz.f359 = some f264 := by kernel_rfl
theorem r264 : RowOK Tryz.prog fo f264 359 := .mk (trWith_ok trL_ok (by kernel_rfl)) Tryz.func359 (by kernel_rfl) c264
theorem c266 : compFn Tryz.prog (trWith trL []) [] false false [[1, 2, 15, 16, 17]] Tryz.f360 = some f266 := by kernel_rfl
theorem r266 : RowOK Tryz.prog fo f266 360 := .mk (trWith_ok trL_ok (by kernel_rfl)) Tryz.func360 (by kernel_rfl) c266
theorem c267 : compFn Tryz.prog (trWith trL []) [] false false [] Tryz.f361 = some f267 := by kernel_rfl
theorem r267 : RowOK Tryz.prog fo f267 361 := .mk (trWith_ok trL_ok (by kernel_rfl)) Tryz.func361 (by kernel_rfl) c267
theorem c268 : compFn Tryz.prog (trWith trL []) [] false false [] Tryz.f362 = some f268 := by kernel_rfl
theorem r268 : RowOK Tryz.prog fo f268 362 := .mk (trWith_ok trL_ok (by kernel_rfl)) Tryz.func362 (by kernel_rfl) c268
set_option maxRecDepth 10000 in
theorem ok7 : AllOK Tryz.prog fo VP fs7 := .cons rfl r179 <| .cons rfl r180 <| .cons rfl r181 <| .cons rfl r182 <| .cons rfl r184 <| .cons rfl r250 <| .cons rfl r211 <| .cons rfl r212 <| .cons rfl r213 <| .cons rfl r214 <| .cons rfl r215 <| .cons rfl r244 <| .cons rfl r245 <| .cons rfl r246 <| .cons rfl r248 <| .cons rfl r249 <| .cons rfl r262 <| .cons rfl r263 <| .cons rfl r264 <| .cons rfl r266 <| .cons rfl r267 <| .cons rfl r268 <| .nil
end Go.Proofs.YtboekhenldifhaaGreat
/- The loaded program is the machine's. Printed by wip/tools. -/
namespace Go.Proofs.YtboekhenldifhaaGreat
theorem prog_ok : ProgOK Tryz.prog fo VP := AllOK.prog (by kernel_rfl) (ok0.append (ok1.append (ok2.append (ok3.append (ok4.append (ok5.append (ok6.append (ok7))))))))
end Go.Proofs.YtboekhenldifhaaGreat
