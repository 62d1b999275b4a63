/- The compiled functions are those of the loaded program: part 1. Printed by wip/tools. -/
import Derived.Test.YtncfpmehhfdipaaGreatZt
set_option linter.unusedSimpArgs false
set_option linter.unusedVariables false
set_option linter.unnecessarySimpa false
namespace Go.Proofs.YtncfpmehhfdipaaGreat
theorem a0J:RowOK Tryz.prog fo f58 65:=rwO [] Tryz.func65
theorem a0I:RowOK Tryz.prog fo f59 66:=rwO [[1,2,20,21,22],[1,2,3,20,21,22,33,34,35]] Tryz.func66
theorem a0H:RowOK Tryz.prog fo f60 67:=rwO [[0,1,7,8]] Tryz.func67
theorem a0G:RowOK Tryz.prog fo f61 68:=rwO [[0,1,7,8]] Tryz.func68
theorem a0F:RowOK Tryz.prog fo f62 69:=rwO [[0,1,7,8]] Tryz.func69
theorem a0E:RowOK Tryz.prog fo f63 70:=rwO [] Tryz.func70
theorem a0D:RowOK Tryz.prog fo f64 71:=rwO [] Tryz.func71
theorem a0C:RowOK Tryz.prog fo f65 72:=rwO [] Tryz.func72
theorem a0B:RowOK Tryz.prog fo f66 73:=rwO [] Tryz.func73
theorem a0A:RowOK Tryz.prog fo f67 74:=be [] [true] false false [[0,21,22,23],[0,6,7,21,22,23,36,37,38],[0,7,21,22,23,58,59,60]] Tryz.func74
theorem a09:RowOK Tryz.prog fo f68 75:=rwO [] Tryz.func75
theorem aVT:RowOK Tryz.prog fo anV 76:=rwO [[0,1,5]] Tryz.func76
theorem a1J:RowOK Tryz.prog fo f19 77:=rwO [] Tryz.func77
theorem a1I:RowOK Tryz.prog fo f20 78:=rwO [] Tryz.func78
theorem a1H:RowOK Tryz.prog fo f21 79:=rwO [] Tryz.func79
theorem a1G:RowOK Tryz.prog fo f22 80:=rwO [] Tryz.func80
theorem a02:RowOK Tryz.prog fo f75 81:=rwO [] Tryz.func81
theorem a10:RowOK Tryz.prog fo f41 82:=rwO [] Tryz.func82
theorem a01:RowOK Tryz.prog fo f76 83:=be [] [true] false false [] Tryz.func83
theorem a0W:RowOK Tryz.prog fo f45 85:=rwO [] Tryz.func85
theorem a00:RowOK Tryz.prog fo f78 86:=rwO [] Tryz.func86
theorem aZZ:RowOK Tryz.prog fo f79 87:=rwO [] Tryz.func87
theorem aZY:RowOK Tryz.prog fo f80 88:=rwO [[0,1,5,6],[0,1,5,6,8]] Tryz.func88
theorem aZX:RowOK Tryz.prog fo f81 89:=rwO [[0,1,5]] Tryz.func89
theorem aZW:RowOK Tryz.prog fo f82 90:=rwO [[1,3,4]] Tryz.func90
theorem aZV:RowOK Tryz.prog fo f85 93:=rwO [[0,1,5]] Tryz.func93
theorem aY9:RowOK Tryz.prog fo aqB 94:=rwO [] Tryz.func94
theorem aY8:RowOK Tryz.prog fo aqA 95:=rwO [] Tryz.func95
theorem aY7:RowOK Tryz.prog fo aq9 96:=rwO [] Tryz.func96
theorem aX0:RowOK Tryz.prog fo ap2 97:=rwO [] Tryz.func97
theorem aWY:RowOK Tryz.prog fo ap0 98:=rwO [] Tryz.func98
theorem aWX:RowOK Tryz.prog fo aoZ 99:=rwO [] Tryz.func99
theorem aWZ:RowOK Tryz.prog fo ap1 100:=rwO [[1,5,24,25,26],[1,5,6,7,8,24,25,26,31,32,33]] Tryz.func100
theorem to:RowOK Tryz.prog fo an9 101:=rwO [] Tryz.func101
theorem aY0:RowOK Tryz.prog fo aq2 102:=rwO [] Tryz.func102
theorem aVW:RowOK Tryz.prog fo anY 103:=rwO [] Tryz.func103
theorem aZU:RowOK Tryz.prog fo f86 104:=rwO [[0,1,7,8]] Tryz.func104
theorem aZT:RowOK Tryz.prog fo f87 105:=rwO [] Tryz.func105
theorem aZS:RowOK Tryz.prog fo f88 106:=rwO [] Tryz.func106
theorem aZR:RowOK Tryz.prog fo f89 107:=rwO [] Tryz.func107
theorem aZQ:RowOK Tryz.prog fo f90 108:=be [] [false,false,true] false false [[1,2,10,11,12]] Tryz.func108
theorem aZP:RowOK Tryz.prog fo f91 109:=be [] [false,true] false false [] Tryz.func109
theorem aZO:RowOK Tryz.prog fo f92 110:=rwO [[2,3,9,10,11]] Tryz.func110
theorem aZN:RowOK Tryz.prog fo f93 111:=rwO [] Tryz.func111
theorem aZM:RowOK Tryz.prog fo f94 112:=rwO [[1,3,5,25,26,27]] Tryz.func112
theorem aZL:RowOK Tryz.prog fo f95 113:=rwO [] Tryz.func113
theorem aZK:RowOK Tryz.prog fo f97 115:=rwO [] Tryz.func115
theorem aZJ:RowOK Tryz.prog fo f99 117:=rwO [] Tryz.func117
theorem aZG:RowOK Tryz.prog fo arI 118:=be [] [true] false false [] Tryz.func118
theorem aZF:RowOK Tryz.prog fo arH 119:=be [] [true,true,true] false false [[0,1,2,7,8]] Tryz.func119
theorem aZE:RowOK Tryz.prog fo arG 120:=rwO [] Tryz.func120
theorem aZD:RowOK Tryz.prog fo arF 121:=be [] [] true true [] Tryz.func121
theorem aZC:RowOK Tryz.prog fo arE 122:=be [] [] true true [] Tryz.func122
theorem aZB:RowOK Tryz.prog fo arD 123:=rwO [[0,1,7,8]] Tryz.func123
theorem aZA:RowOK Tryz.prog fo arC 124:=rwO [] Tryz.func124
theorem aZ8:RowOK Tryz.prog fo arA 125:=rwO [] Tryz.func125
theorem aZ7:RowOK Tryz.prog fo ar9 126:=rwO [[3,4,5,8]] Tryz.func126
theorem aZ6:RowOK Tryz.prog fo ar8 127:=rwO [[1,5,16,17,18],[1,5,7,16,17,18,22,23,24]] Tryz.func127
theorem aZ5:RowOK Tryz.prog fo ar7 128:=rwO [[7,8,9],[7,8,9,14,15]] Tryz.func128
theorem aZ4:RowOK Tryz.prog fo ar6 129:=rwO [[3,4,13,14,15],[3,9,44,45,46]] Tryz.func129
theorem a0Z:RowOK Tryz.prog fo f42 130:=rwO [] Tryz.func130
theorem a0Y:RowOK Tryz.prog fo f43 131:=rwO [[0,3,4]] Tryz.func131
set_option maxRecDepth 10000 in
theorem ok1:AllOK Tryz.prog fo VP fs1 := .cons rfl a0J<|.cons rfl a0I<|.cons rfl a0H<|.cons rfl a0G<|.cons rfl a0F<|.cons rfl a0E<|.cons rfl a0D<|.cons rfl a0C<|.cons rfl a0B<|.cons rfl a0A<|.cons rfl a09<|.cons rfl aVT<|.cons rfl a1J<|.cons rfl a1I<|.cons rfl a1H<|.cons rfl a1G<|.cons rfl a02<|.cons rfl a10<|.cons rfl a01<|.cons rfl a0W<|.cons rfl a00<|.cons rfl aZZ<|.cons rfl aZY<|.cons rfl aZX<|.cons rfl aZW<|.cons rfl aZV<|.cons rfl aY9<|.cons rfl aY8<|.cons rfl aY7<|.cons rfl aX0<|.cons rfl aWY<|.cons rfl aWX<|.cons rfl aWZ<|.cons rfl to<|.cons rfl aY0<|.cons rfl aVW<|.cons rfl aZU<|.cons rfl aZT<|.cons rfl aZS<|.cons rfl aZR<|.cons rfl aZQ<|.cons rfl aZP<|.cons rfl aZO<|.cons rfl aZN<|.cons rfl aZM<|.cons rfl aZL<|.cons rfl aZK<|.cons rfl aZJ<|.cons rfl aZG<|.cons rfl aZF<|.cons rfl aZE<|.cons rfl aZD<|.cons rfl aZC<|.cons rfl aZB<|.cons rfl aZA<|.cons rfl aZ8<|.cons rfl aZ7<|.cons rfl aZ6<|.cons rfl aZ5<|.cons rfl aZ4<|.cons rfl a0Z<|.cons rfl a0Y<|.nil
end Go.Proofs.YtncfpmehhfdipaaGreat
