/- The compiled functions are those of the loaded program: part 2. Printed by wip/tools. -/
import Derived.Test.YtemffeblbmimfaaGreatZt
set_option linter.unusedSimpArgs false
set_option linter.unusedVariables false
set_option linter.unnecessarySimpa false
namespace Go.Proofs.YtemffeblbmimfaaGreat
theorem a0F:RowOK Tryz.prog fo f62 132:=rwO [[0,1,7,8]] Tryz.func132
theorem a0E:RowOK Tryz.prog fo f63 133:=rwO [] Tryz.func133
theorem a0D:RowOK Tryz.prog fo f64 134:=rwO [] Tryz.func134
theorem aZA:RowOK Tryz.prog fo arC 135:=rwO [] Tryz.func135
theorem aZ8:RowOK Tryz.prog fo arA 136:=rwO [] Tryz.func136
theorem aZ7:RowOK Tryz.prog fo ar9 137:=rwO [[3,4,5,8]] Tryz.func137
theorem a09:RowOK Tryz.prog fo f68 138:=rwO [] Tryz.func138
theorem aZ6:RowOK Tryz.prog fo ar8 139:=rwO [[1,5,16,17,18],[1,5,7,16,17,18,22,23,24]] Tryz.func139
theorem aX6:RowOK Tryz.prog fo ap8 140:=rwO [] Tryz.func140
theorem aX5:RowOK Tryz.prog fo ap7 141:=rwO [[0,1],[8,9]] Tryz.func141
theorem aX4:RowOK Tryz.prog fo ap6 142:=rwO [] Tryz.func142
theorem aWC:RowOK Tryz.prog fo aoE 143:=rwO [] Tryz.func143
theorem aW9:RowOK Tryz.prog fo aoB 144:=rwO [[0,1,5,6,21,22,23]] Tryz.func144
theorem aWE:RowOK Tryz.prog fo aoG 145:=rwO [[0,1,5]] Tryz.func145
theorem aW8:RowOK Tryz.prog fo aoA 146:=rwO [[1,6,7,22,23,24]] Tryz.func146
theorem aWH:RowOK Tryz.prog fo aoJ 147:=rwO [[0]] Tryz.func147
theorem aWB:RowOK Tryz.prog fo aoD 148:=rwO [] Tryz.func148
theorem aWA:RowOK Tryz.prog fo aoC 149:=rwO [] Tryz.func149
theorem aZ5:RowOK Tryz.prog fo ar7 150:=rwO [[7,8,9],[7,8,9,14,15]] Tryz.func150
theorem aVI:RowOK Tryz.prog fo anL 151:=rwO [[1,4,5,12,13,14],[1,4,5,8,12,13,14,21,22]] Tryz.func151
theorem aZ4:RowOK Tryz.prog fo ar6 152:=rwO [[3,4,13,14,15],[3,9,44,45,46]] Tryz.func152
theorem aVQ:RowOK Tryz.prog fo anS 153:=rwO [] Tryz.func153
theorem aXW:RowOK Tryz.prog fo apY 154:=rwO [] Tryz.func154
theorem aXV:RowOK Tryz.prog fo apX 155:=rwO [[1,2,5,6]] Tryz.func155
theorem aXU:RowOK Tryz.prog fo apW 156:=rwO [[1,4]] Tryz.func156
theorem aXT:RowOK Tryz.prog fo apV 157:=rwO [] Tryz.func157
theorem aXS:RowOK Tryz.prog fo apU 158:=rwO [[0,1,5],[0,1,5,6]] Tryz.func158
theorem aXR:RowOK Tryz.prog fo apT 159:=rwO [[0,3,6,7]] Tryz.func159
theorem aXQ:RowOK Tryz.prog fo apS 160:=rwO [[0,3,6,7,8]] Tryz.func160
theorem aXP:RowOK Tryz.prog fo apR 161:=rwO [] Tryz.func161
theorem aZU:RowOK Tryz.prog fo f86 163:=rwO [[0,1,7,8]] Tryz.func163
theorem aZT:RowOK Tryz.prog fo f87 164:=rwO [] Tryz.func164
theorem aZS:RowOK Tryz.prog fo f88 165:=rwO [] Tryz.func165
theorem aZR:RowOK Tryz.prog fo f89 166:=rwO [] Tryz.func166
theorem aZQ:RowOK Tryz.prog fo f90 167:=be [] [false,false,true] false false [[1,2,10,11,12]] Tryz.func167
theorem aZP:RowOK Tryz.prog fo f91 168:=be [] [false,true] false false [] Tryz.func168
theorem aZO:RowOK Tryz.prog fo f92 169:=rwO [[2,3,9,10,11]] Tryz.func169
theorem aZN:RowOK Tryz.prog fo f93 170:=rwO [] Tryz.func170
theorem aZM:RowOK Tryz.prog fo f94 171:=rwO [[1,3,5,25,26,27]] Tryz.func171
theorem aZL:RowOK Tryz.prog fo f95 172:=rwO [] Tryz.func172
theorem aZK:RowOK Tryz.prog fo f97 174:=rwO [] Tryz.func174
theorem aZJ:RowOK Tryz.prog fo f99 176:=rwO [] Tryz.func176
theorem aZG:RowOK Tryz.prog fo arI 177:=be [] [true] false false [] Tryz.func177
theorem aZF:RowOK Tryz.prog fo arH 178:=be [] [true,true,true] false false [[0,1,2,7,8]] Tryz.func178
theorem aZE:RowOK Tryz.prog fo arG 179:=rwO [] Tryz.func179
theorem aZD:RowOK Tryz.prog fo arF 180:=be [] [] true true [] Tryz.func180
theorem aZC:RowOK Tryz.prog fo arE 181:=be [] [] true true [] Tryz.func181
theorem aZB:RowOK Tryz.prog fo arD 182:=rwO [[0,1,7,8]] Tryz.func182
theorem aYA:RowOK Tryz.prog fo aqC 183:=rwO [[3,4,13,14,15]] Tryz.func183
theorem aY6:RowOK Tryz.prog fo aq8 184:=rwO [] Tryz.func184
theorem aY5:RowOK Tryz.prog fo aq7 185:=rwO [] Tryz.func185
theorem aY4:RowOK Tryz.prog fo aq6 186:=rwO [] Tryz.func186
theorem aY3:RowOK Tryz.prog fo aq5 187:=rwO [[2,3,4,6]] Tryz.func187
theorem aY2:RowOK Tryz.prog fo aq4 188:=rwO [] Tryz.func188
theorem aYB:RowOK Tryz.prog fo aqD 189:=be [] [] true true [] Tryz.func189
theorem aWG:RowOK Tryz.prog fo aoI 190:=rwO [[3,6,7,8]] Tryz.func190
theorem aWF:RowOK Tryz.prog fo aoH 191:=rwO [] Tryz.func191
theorem aWD:RowOK Tryz.prog fo aoF 192:=rwO [[0,1,6,7,8]] Tryz.func192
theorem aVU:RowOK Tryz.prog fo anW 194:=rwO [] Tryz.func194
theorem aXZ:RowOK Tryz.prog fo aq1 196:=be [] [true] false false [] Tryz.func196
theorem aXY:RowOK Tryz.prog fo aq0 197:=rwO [] Tryz.func197
theorem aWU:RowOK Tryz.prog fo aoW 198:=rwO [[1,2,5,6]] Tryz.func198
set_option maxRecDepth 10000 in
theorem ok2:AllOK Tryz.prog fo VP fs2 := .cons rfl a0F<|.cons rfl a0E<|.cons rfl a0D<|.cons rfl aZA<|.cons rfl aZ8<|.cons rfl aZ7<|.cons rfl a09<|.cons rfl aZ6<|.cons rfl aX6<|.cons rfl aX5<|.cons rfl aX4<|.cons rfl aWC<|.cons rfl aW9<|.cons rfl aWE<|.cons rfl aW8<|.cons rfl aWH<|.cons rfl aWB<|.cons rfl aWA<|.cons rfl aZ5<|.cons rfl aVI<|.cons rfl aZ4<|.cons rfl aVQ<|.cons rfl aXW<|.cons rfl aXV<|.cons rfl aXU<|.cons rfl aXT<|.cons rfl aXS<|.cons rfl aXR<|.cons rfl aXQ<|.cons rfl aXP<|.cons rfl aZU<|.cons rfl aZT<|.cons rfl aZS<|.cons rfl aZR<|.cons rfl aZQ<|.cons rfl aZP<|.cons rfl aZO<|.cons rfl aZN<|.cons rfl aZM<|.cons rfl aZL<|.cons rfl aZK<|.cons rfl aZJ<|.cons rfl aZG<|.cons rfl aZF<|.cons rfl aZE<|.cons rfl aZD<|.cons rfl aZC<|.cons rfl aZB<|.cons rfl aYA<|.cons rfl aY6<|.cons rfl aY5<|.cons rfl aY4<|.cons rfl aY3<|.cons rfl aY2<|.cons rfl aYB<|.cons rfl aWG<|.cons rfl aWF<|.cons rfl aWD<|.cons rfl aVU<|.cons rfl aXZ<|.cons rfl aXY<|.cons rfl aWU<|.nil
end Go.Proofs.YtemffeblbmimfaaGreat
