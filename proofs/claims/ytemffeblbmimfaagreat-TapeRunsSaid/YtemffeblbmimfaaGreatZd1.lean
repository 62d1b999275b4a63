/- The compiled functions are those of the loaded program: part 1. Printed by wip/tools. -/
import Derived.Test.YtemffeblbmimfaaGreatZt
set_option linter.unusedSimpArgs false
set_option linter.unusedVariables false
set_option linter.unnecessarySimpa false
namespace Go.Proofs.YtemffeblbmimfaaGreat
theorem aZ9:RowOK Tryz.prog fo arB 64:=rwO [] Tryz.func64
theorem aY1:RowOK Tryz.prog fo aq3 65:=rwO [] Tryz.func65
theorem up:RowOK Tryz.prog fo anA 66:=rwO [] Tryz.func66
theorem aWK:RowOK Tryz.prog fo aoM 67:=rwO [] Tryz.func67
theorem aVT:RowOK Tryz.prog fo anV 68:=rwO [[0,1,5]] Tryz.func68
theorem a1I:RowOK Tryz.prog fo f20 69:=rwO [] Tryz.func69
theorem a1H:RowOK Tryz.prog fo f21 70:=rwO [] Tryz.func70
theorem a1G:RowOK Tryz.prog fo f22 71:=rwO [] Tryz.func71
theorem aZ1:RowOK Tryz.prog fo ar3 72:=rwO [[0,1,6,7,8]] Tryz.func72
theorem a02:RowOK Tryz.prog fo f75 76:=rwO [] Tryz.func76
theorem a01:RowOK Tryz.prog fo f76 77:=be [] [true] false false [] Tryz.func77
theorem a0W:RowOK Tryz.prog fo f45 79:=rwO [] Tryz.func79
theorem a00:RowOK Tryz.prog fo f78 80:=rwO [] Tryz.func80
theorem aZZ:RowOK Tryz.prog fo f79 81:=rwO [] Tryz.func81
theorem aZY:RowOK Tryz.prog fo f80 82:=rwO [[0,1,5,6],[0,1,5,6,8]] Tryz.func82
theorem aZX:RowOK Tryz.prog fo f81 83:=rwO [[0,1,5]] Tryz.func83
theorem aZW:RowOK Tryz.prog fo f82 84:=rwO [[1,3,4]] Tryz.func84
theorem aZV:RowOK Tryz.prog fo f85 87:=rwO [[0,1,5]] Tryz.func87
theorem a1A:RowOK Tryz.prog fo f29 88:=rwO [[1,4,5,12,13,14]] Tryz.func88
theorem a19:RowOK Tryz.prog fo f30 89:=rwO [[5]] Tryz.func89
theorem a18:RowOK Tryz.prog fo f31 90:=rwO [] Tryz.func90
theorem a17:RowOK Tryz.prog fo f32 91:=rwO [] Tryz.func91
theorem a16:RowOK Tryz.prog fo f33 92:=rwO [] Tryz.func92
theorem a15:RowOK Tryz.prog fo f34 93:=rwO [] Tryz.func93
theorem a14:RowOK Tryz.prog fo f35 94:=rwO [] Tryz.func94
theorem a12:RowOK Tryz.prog fo f36 95:=rwO [] Tryz.func95
theorem a0C:RowOK Tryz.prog fo f65 96:=rwO [] Tryz.func96
theorem a0B:RowOK Tryz.prog fo f66 97:=rwO [] Tryz.func97
theorem a0A:RowOK Tryz.prog fo f67 98:=be [] [true] false false [[0,21,22,23],[0,6,7,21,22,23,36,37,38],[0,7,21,22,23,58,59,60]] Tryz.func98
theorem aY9:RowOK Tryz.prog fo aqB 99:=rwO [] Tryz.func99
theorem aY8:RowOK Tryz.prog fo aqA 100:=rwO [] Tryz.func100
theorem aY7:RowOK Tryz.prog fo aq9 101:=rwO [] Tryz.func101
theorem aX0:RowOK Tryz.prog fo ap2 102:=rwO [] Tryz.func102
theorem aWY:RowOK Tryz.prog fo ap0 103:=rwO [] Tryz.func103
theorem aWX:RowOK Tryz.prog fo aoZ 104:=rwO [] Tryz.func104
theorem aWZ:RowOK Tryz.prog fo ap1 105:=rwO [[1,5,24,25,26],[1,5,6,7,8,24,25,26,31,32,33]] Tryz.func105
theorem to:RowOK Tryz.prog fo an9 106:=rwO [] Tryz.func106
theorem aY0:RowOK Tryz.prog fo aq2 107:=rwO [] Tryz.func107
theorem aVW:RowOK Tryz.prog fo anY 108:=rwO [] Tryz.func108
theorem a0X:RowOK Tryz.prog fo f44 109:=rwO [[1,5,6]] Tryz.func109
theorem a03:RowOK Tryz.prog fo f74 110:=rwO [[0,3,5,6],[0,3,5,6,7,8]] Tryz.func110
theorem aYU:RowOK Tryz.prog fo aqW 111:=rwO [[0,1,5,6]] Tryz.func111
theorem aYT:RowOK Tryz.prog fo aqV 112:=rwO [[0,3],[0,3,4]] Tryz.func112
theorem aYS:RowOK Tryz.prog fo aqU 113:=rwO [[0,1,5,6]] Tryz.func113
theorem aYR:RowOK Tryz.prog fo aqT 114:=rwO [[1,2,5,6]] Tryz.func114
theorem aYQ:RowOK Tryz.prog fo aqS 115:=rwO [] Tryz.func115
theorem aYP:RowOK Tryz.prog fo aqR 116:=rwO [] Tryz.func116
theorem aYO:RowOK Tryz.prog fo aqQ 117:=rwO [[1,3,4],[1,5,6]] Tryz.func117
theorem aYN:RowOK Tryz.prog fo aqP 118:=rwO [[0,3,5]] Tryz.func118
theorem a0S:RowOK Tryz.prog fo f49 119:=rwO [[1,3,15,16,17],[3,31,32,33]] Tryz.func119
theorem a0R:RowOK Tryz.prog fo f50 120:=rwO [] Tryz.func120
theorem a0Q:RowOK Tryz.prog fo f51 121:=rwO [] Tryz.func121
theorem a0P:RowOK Tryz.prog fo f52 122:=rwO [[3,9,10,11]] Tryz.func122
theorem a0O:RowOK Tryz.prog fo f53 123:=rwO [] Tryz.func123
theorem a0N:RowOK Tryz.prog fo f54 124:=rwO [] Tryz.func124
theorem a0M:RowOK Tryz.prog fo f55 125:=rwO [[3,12,13,14],[3,5,12,13,14,34,35,36]] Tryz.func125
theorem a0L:RowOK Tryz.prog fo f56 126:=rwO [[1,3,57,58,59],[112,113,114]] Tryz.func126
theorem a0K:RowOK Tryz.prog fo f57 127:=rwO [[2,3]] Tryz.func127
theorem a0J:RowOK Tryz.prog fo f58 128:=rwO [] Tryz.func128
theorem a0I:RowOK Tryz.prog fo f59 129:=rwO [[1,2,20,21,22],[1,2,3,20,21,22,33,34,35]] Tryz.func129
theorem a0H:RowOK Tryz.prog fo f60 130:=rwO [[0,1,7,8]] Tryz.func130
theorem a0G:RowOK Tryz.prog fo f61 131:=rwO [[0,1,7,8]] Tryz.func131
set_option maxRecDepth 10000 in
theorem ok1:AllOK Tryz.prog fo VP fs1 := .cons rfl aZ9<|.cons rfl aY1<|.cons rfl up<|.cons rfl aWK<|.cons rfl aVT<|.cons rfl a1I<|.cons rfl a1H<|.cons rfl a1G<|.cons rfl aZ1<|.cons rfl a02<|.cons rfl a01<|.cons rfl a0W<|.cons rfl a00<|.cons rfl aZZ<|.cons rfl aZY<|.cons rfl aZX<|.cons rfl aZW<|.cons rfl aZV<|.cons rfl a1A<|.cons rfl a19<|.cons rfl a18<|.cons rfl a17<|.cons rfl a16<|.cons rfl a15<|.cons rfl a14<|.cons rfl a12<|.cons rfl a0C<|.cons rfl a0B<|.cons rfl a0A<|.cons rfl aY9<|.cons rfl aY8<|.cons rfl aY7<|.cons rfl aX0<|.cons rfl aWY<|.cons rfl aWX<|.cons rfl aWZ<|.cons rfl to<|.cons rfl aY0<|.cons rfl aVW<|.cons rfl a0X<|.cons rfl a03<|.cons rfl aYU<|.cons rfl aYT<|.cons rfl aYS<|.cons rfl aYR<|.cons rfl aYQ<|.cons rfl aYP<|.cons rfl aYO<|.cons rfl aYN<|.cons rfl a0S<|.cons rfl a0R<|.cons rfl a0Q<|.cons rfl a0P<|.cons rfl a0O<|.cons rfl a0N<|.cons rfl a0M<|.cons rfl a0L<|.cons rfl a0K<|.cons rfl a0J<|.cons rfl a0I<|.cons rfl a0H<|.cons rfl a0G<|.nil
end Go.Proofs.YtemffeblbmimfaaGreat
