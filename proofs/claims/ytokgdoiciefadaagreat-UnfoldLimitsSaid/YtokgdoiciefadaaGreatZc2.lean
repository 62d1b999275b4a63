/- The compiled functions are those of the loaded program: part 2. Printed by wip/tools. -/
import Derived.Test.YtokgdoiciefadaaGreatZt
namespace Go.Proofs.YtokgdoiciefadaaGreat
theorem c330 : compFn Tryz.prog (trWith trL []) [] false false [[1, 5, 8, 9, 10]] Tryz.f92 = some f330 := by kernel_rfl
theorem r330 : RowOK Tryz.prog fo f330 92 := .mk (trWith_ok trL_ok (by kernel_rfl)) Tryz.func92 (by kernel_rfl) c330
theorem c331 : compFn Tryz.prog (trWith trL []) [] false false [[1, 5, 10, 11]] Tryz.f93 = some f331 := by kernel_rfl
theorem r331 : RowOK Tryz.prog fo f331 93 := .mk (trWith_ok trL_ok (by kernel_rfl)) Tryz.func93 (by kernel_rfl) c331
theorem c332 : compFn Tryz.prog (trWith trL []) [] true true [] Tryz.f94 = some f332 := by kernel_rfl
theorem r332 : RowOK Tryz.prog fo f332 94 := .mk (trWith_ok trL_ok (by kernel_rfl)) Tryz.func94 (by kernel_rfl) c332
theorem c22 : compFn Tryz.prog (trWith trL []) [] false false [] Tryz.f97 = some f22 := by kernel_rfl
theorem r22 : RowOK Tryz.prog fo f22 97 := .mk (trWith_ok trL_ok (by kernel_rfl)) Tryz.func97 (by kernel_rfl) c22
theorem c19 : compFn Tryz.prog (trWith trL []) [] false false [] Tryz.f98 = some f19 := by kernel_rfl
theorem r19 : RowOK Tryz.prog fo f19 98 := .mk (trWith_ok trL_ok (by kernel_rfl)) Tryz.func98 (by kernel_rfl) c19
theorem c75 : compFn Tryz.prog (trWith trL []) [] false false [] Tryz.f99 = some f75 := by kernel_rfl
theorem r75 : RowOK Tryz.prog fo f75 99 := .mk (trWith_ok trL_ok (by kernel_rfl)) Tryz.func99 (by kernel_rfl) c75
theorem c41 : compFn Tryz.prog (trWith trL []) [] false false [] Tryz.f100 = some f41 := by kernel_rfl
theorem r41 : RowOK Tryz.prog fo f41 100 := .mk (trWith_ok trL_ok (by kernel_rfl)) Tryz.func100 (by kernel_rfl) c41
theorem c20 : compFn Tryz.prog (trWith trL []) [] false false [] Tryz.f101 = some f20 := by kernel_rfl
theorem r20 : RowOK Tryz.prog fo f20 101 := .mk (trWith_ok trL_ok (by kernel_rfl)) Tryz.func101 (by kernel_rfl) c20
theorem c21 : compFn Tryz.prog (trWith trL []) [] false false [] Tryz.f102 = some f21 := by kernel_rfl
theorem r21 : RowOK Tryz.prog fo f21 102 := .mk (trWith_ok trL_ok (by kernel_rfl)) Tryz.func102 (by kernel_rfl) c21
theorem c45 : compFn Tryz.prog (trWith trL []) [] false false [] Tryz.f105 = some f45 := by kernel_rfl
theorem r45 : RowOK Tryz.prog fo f45 105 := .mk (trWith_ok trL_ok (by kernel_rfl)) Tryz.func105 (by kernel_rfl) c45
theorem c99 : compFn Tryz.prog (trWith trL []) [] false false [] Tryz.f106 = some f99 := by kernel_rfl
theorem r99 : RowOK Tryz.prog fo f99 106 := .mk (trWith_ok trL_ok (by kernel_rfl)) Tryz.func106 (by kernel_rfl) c99
theorem c100 : compFn Tryz.prog (trWith trL []) [true] false false [] Tryz.f107 = some f100 := by kernel_rfl
theorem r100 : RowOK Tryz.prog fo f100 107 := .mk (trWith_ok trL_ok (by kernel_rfl)) Tryz.func107 (by kernel_rfl) c100
theorem c101 : compFn Tryz.prog (trWith trL []) [true, true, true] false false [[0, 1, 2, 7, 8]] Tryz.f108 = some f101 := by kernel_rfl
theorem r101 : RowOK Tryz.prog fo f101 108 := .mk (trWith_ok trL_ok (by kernel_rfl)) Tryz.func108 (by kernel_rfl) c101
theorem c102 : compFn Tryz.prog (trWith trL []) [] false false [] Tryz.f109 = some f102 := by kernel_rfl
theorem r102 : RowOK Tryz.prog fo f102 109 := .mk (trWith_ok trL_ok (by kernel_rfl)) Tryz.func109 (by kernel_rfl) c102
theorem c103 : compFn Tryz.prog (trWith trL []) [] true true [] Tryz.f110 = some f103 := by kernel_rfl
theorem r103 : RowOK Tryz.prog fo f103 110 := .mk (trWith_ok trL_ok (by kernel_rfl)) Tryz.func110 (by kernel_rfl) c103
theorem c104 : compFn Tryz.prog (trWith trL []) [] true true [] Tryz.f111 = some f104 := by kernel_rfl
theorem r104 : RowOK Tryz.prog fo f104 111 := .mk (trWith_ok trL_ok (by kernel_rfl)) Tryz.func111 (by kernel_rfl) c104
theorem c340 : compFn Tryz.prog (trWith trL []) [] false false [] Tryz.f121 = some f340 := by kernel_rfl
theorem r340 : RowOK Tryz.prog fo f340 121 := .mk (trWith_ok trL_ok (by kernel_rfl)) Tryz.func121 (by kernel_rfl) c340
theorem c86 : compFn Tryz.prog (trWith trL []) [] false false [[0, 1, 7, 8]] Tryz.f124 = some f86 := by kernel_rfl
theorem r86 : RowOK Tryz.prog fo f86 124 := .mk (trWith_ok trL_ok (by kernel_rfl)) Tryz.func124 (by kernel_rfl) c86
theorem c87 : compFn Tryz.prog (trWith trL []) [] false false [] Tryz.f125 = some f87 := by kernel_rfl
theorem r87 : RowOK Tryz.prog fo f87 125 := .mk (trWith_ok trL_ok (by kernel_rfl)) Tryz.func125 (by kernel_rfl) c87
theorem c88 : compFn Tryz.prog (trWith trL []) [] false false [] Tryz.f126 = some f88 := by kernel_rfl
theorem r88 : RowOK Tryz.prog fo f88 126 := .mk (trWith_ok trL_ok (by kernel_rfl)) Tryz.func126 (by kernel_rfl) c88
theorem c64 : compFn Tryz.prog (trWith trL []) [] false false [] Tryz.f127 = some f64 := by kernel_rfl
theorem r64 : RowOK Tryz.prog fo f64 127 := .mk (trWith_ok trL_ok (by kernel_rfl)) Tryz.func127 (by kernel_rfl) c64
theorem c89 : compFn Tryz.prog (trWith trL []) [] false false [] Tryz.f128 = some f89 := by kernel_rfl
theorem r89 : RowOK Tryz.prog fo f89 128 := .mk (trWith_ok trL_ok (by kernel_rfl)) Tryz.func128 (by kernel_rfl) c89
theorem c90 : compFn Tryz.prog (trWith trL []) [false, false, true] false false [[1, 2, 10, 11, 12]] Tryz.f129 = some f90 := by kernel_rfl
theorem r90 : RowOK Tryz.prog fo f90 129 := .mk (trWith_ok trL_ok (by kernel_rfl)) Tryz.func129 (by kernel_rfl) c90
theorem c91 : compFn Tryz.prog (trWith trL []) [false, true] false false [] Tryz.f130 = some f91 := by kernel_rfl
theorem r91 : RowOK Tryz.prog fo f91 130 := .mk (trWith_ok trL_ok (by kernel_rfl)) Tryz.func130 (by kernel_rfl) c91
theorem c92 : compFn Tryz.prog (trWith trL []) [] false false [[2, 3, 9, 10, 11]] Tryz.f131 = some f92 := by kernel_rfl
theorem r92 : RowOK Tryz.prog fo f92 131 := .mk (trWith_ok trL_ok (by kernel_rfl)) Tryz.func131 (by kernel_rfl) c92
set_option maxRecDepth 10000 in
theorem ok2 : AllOK Tryz.prog fo VP fs2 := .cons rfl r330 <| .cons rfl r331 <| .cons rfl r332 <| .cons rfl r22 <| .cons rfl r19 <| .cons rfl r75 <| .cons rfl r41 <| .cons rfl r20 <| .cons rfl r21 <| .cons rfl r45 <| .cons rfl r99 <| .cons rfl r100 <| .cons rfl r101 <| .cons rfl r102 <| .cons rfl r103 <| .cons rfl r104 <| .cons rfl r340 <| .cons rfl r86 <| .cons rfl r87 <| .cons rfl r88 <| .cons rfl r64 <| .cons rfl r89 <| .cons rfl r90 <| .cons rfl r91 <| .cons rfl r92 <| .nil
end Go.Proofs.YtokgdoiciefadaaGreat
