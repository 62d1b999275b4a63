/- The compiled functions are those of the loaded program: part 2. Printed by wip/tools. -/
import Derived.Test.YtncfpmehhfdipaaGreatZt
set_option linter.unusedSimpArgs false
set_option linter.unusedVariables false
set_option linter.unnecessarySimpa false
namespace Go.Proofs.YtncfpmehhfdipaaGreat
theorem a0X:RowOK Tryz.prog fo f44 132:=rwO [[1,5,6]] Tryz.func132
theorem aYY:RowOK Tryz.prog fo ar0 133:=rwO [] Tryz.func133
theorem aYV:RowOK Tryz.prog fo aqX 134:=rwO [[0,1,5,6],[0,1,5,6,7,8],[0,1,5,6,7,10]] Tryz.func134
theorem a08:RowOK Tryz.prog fo f69 135:=rwO [] Tryz.func135
theorem a07:RowOK Tryz.prog fo f70 136:=rwO [[0,1,5,6,7]] Tryz.func136
theorem a03:RowOK Tryz.prog fo f74 137:=rwO [[0,3,5,6],[0,3,5,6,7,8]] Tryz.func137
theorem aYU:RowOK Tryz.prog fo aqW 138:=rwO [[0,1,5,6]] Tryz.func138
theorem aYT:RowOK Tryz.prog fo aqV 139:=rwO [[0,3],[0,3,4]] Tryz.func139
theorem aYS:RowOK Tryz.prog fo aqU 140:=rwO [[0,1,5,6]] Tryz.func140
theorem aYR:RowOK Tryz.prog fo aqT 141:=rwO [[1,2,5,6]] Tryz.func141
theorem aYQ:RowOK Tryz.prog fo aqS 142:=rwO [] Tryz.func142
theorem aYP:RowOK Tryz.prog fo aqR 143:=rwO [] Tryz.func143
theorem aYO:RowOK Tryz.prog fo aqQ 144:=rwO [[1,3,4],[1,5,6]] Tryz.func144
theorem aYN:RowOK Tryz.prog fo aqP 145:=rwO [[0,3,5]] Tryz.func145
theorem aX6:RowOK Tryz.prog fo ap8 146:=rwO [] Tryz.func146
theorem aX5:RowOK Tryz.prog fo ap7 147:=rwO [[0,1],[8,9]] Tryz.func147
theorem aX4:RowOK Tryz.prog fo ap6 148:=rwO [] Tryz.func148
theorem aWC:RowOK Tryz.prog fo aoE 149:=rwO [] Tryz.func149
theorem aW9:RowOK Tryz.prog fo aoB 150:=rwO [[0,1,5,6,21,22,23]] Tryz.func150
theorem aWE:RowOK Tryz.prog fo aoG 151:=rwO [[0,1,5]] Tryz.func151
theorem aW8:RowOK Tryz.prog fo aoA 152:=rwO [[1,6,7,22,23,24]] Tryz.func152
theorem aWH:RowOK Tryz.prog fo aoJ 153:=rwO [[0]] Tryz.func153
theorem aWB:RowOK Tryz.prog fo aoD 154:=rwO [] Tryz.func154
theorem aWA:RowOK Tryz.prog fo aoC 155:=rwO [] Tryz.func155
theorem aVI:RowOK Tryz.prog fo anL 156:=rwO [[1,4,5,12,13,14],[1,4,5,8,12,13,14,21,22]] Tryz.func156
theorem aVQ:RowOK Tryz.prog fo anS 157:=rwO [] Tryz.func157
theorem aYM:RowOK Tryz.prog fo aqO 158:=rwO [] Tryz.func158
theorem aYL:RowOK Tryz.prog fo aqN 159:=rwO [] Tryz.func159
theorem aYK:RowOK Tryz.prog fo aqM 160:=rwO [] Tryz.func160
theorem aYJ:RowOK Tryz.prog fo aqL 161:=rwO [[0,1,12,13]] Tryz.func161
theorem aYI:RowOK Tryz.prog fo aqK 162:=rwO [] Tryz.func162
theorem aYH:RowOK Tryz.prog fo aqJ 163:=rwO [[2,3,5,6,7,8,9,87,88,89]] Tryz.func163
theorem aYG:RowOK Tryz.prog fo aqI 165:=rwO [] Tryz.func165
theorem aYF:RowOK Tryz.prog fo aqH 166:=rwO [] Tryz.func166
theorem aYE:RowOK Tryz.prog fo aqG 167:=rwO [] Tryz.func167
theorem aYD:RowOK Tryz.prog fo aqF 169:=rwO [] Tryz.func169
theorem aYC:RowOK Tryz.prog fo aqE 170:=rwO [] Tryz.func170
theorem aYB:RowOK Tryz.prog fo aqD 171:=be [] [] true true [] Tryz.func171
theorem aYA:RowOK Tryz.prog fo aqC 172:=rwO [[3,4,13,14,15]] Tryz.func172
theorem aY6:RowOK Tryz.prog fo aq8 173:=rwO [] Tryz.func173
theorem aY5:RowOK Tryz.prog fo aq7 174:=rwO [] Tryz.func174
theorem aY4:RowOK Tryz.prog fo aq6 175:=rwO [] Tryz.func175
theorem aY3:RowOK Tryz.prog fo aq5 176:=rwO [[2,3,4,6]] Tryz.func176
theorem aY2:RowOK Tryz.prog fo aq4 177:=rwO [] Tryz.func177
theorem aXZ:RowOK Tryz.prog fo aq1 178:=be [] [true] false false [] Tryz.func178
theorem aXY:RowOK Tryz.prog fo aq0 179:=rwO [] Tryz.func179
theorem a06:RowOK Tryz.prog fo f71 180:=rwO [[0,1]] Tryz.func180
theorem a05:RowOK Tryz.prog fo f72 181:=rwO [[0,1,9],[9,10,11,12,13]] Tryz.func181
theorem a04:RowOK Tryz.prog fo f73 182:=rwO [[0,3,5,6]] Tryz.func182
theorem aZ3:RowOK Tryz.prog fo ar5 183:=rwO [[0,3]] Tryz.func183
theorem aVL:RowOK Tryz.prog fo anO 183:=be [] [] true true [[0,3]] Tryz.func183
theorem aYW:RowOK Tryz.prog fo aqY 184:=rwO [] Tryz.func184
theorem aYX:RowOK Tryz.prog fo aqZ 185:=rwO [] Tryz.func185
theorem aXW:RowOK Tryz.prog fo apY 186:=rwO [] Tryz.func186
theorem aXV:RowOK Tryz.prog fo apX 187:=rwO [[1,2,5,6]] Tryz.func187
theorem aXU:RowOK Tryz.prog fo apW 188:=rwO [[1,4]] Tryz.func188
theorem aXT:RowOK Tryz.prog fo apV 189:=rwO [] Tryz.func189
theorem aXS:RowOK Tryz.prog fo apU 190:=rwO [[0,1,5],[0,1,5,6]] Tryz.func190
theorem aXR:RowOK Tryz.prog fo apT 191:=rwO [[0,3,6,7]] Tryz.func191
theorem aXQ:RowOK Tryz.prog fo apS 192:=rwO [[0,3,6,7,8]] Tryz.func192
theorem aXP:RowOK Tryz.prog fo apR 193:=rwO [] Tryz.func193
theorem aWG:RowOK Tryz.prog fo aoI 195:=rwO [[3,6,7,8]] Tryz.func195
set_option maxRecDepth 10000 in
theorem ok2:AllOK Tryz.prog fo VP fs2 := .cons rfl a0X<|.cons rfl aYY<|.cons rfl aYV<|.cons rfl a08<|.cons rfl a07<|.cons rfl a03<|.cons rfl aYU<|.cons rfl aYT<|.cons rfl aYS<|.cons rfl aYR<|.cons rfl aYQ<|.cons rfl aYP<|.cons rfl aYO<|.cons rfl aYN<|.cons rfl aX6<|.cons rfl aX5<|.cons rfl aX4<|.cons rfl aWC<|.cons rfl aW9<|.cons rfl aWE<|.cons rfl aW8<|.cons rfl aWH<|.cons rfl aWB<|.cons rfl aWA<|.cons rfl aVI<|.cons rfl aVQ<|.cons rfl aYM<|.cons rfl aYL<|.cons rfl aYK<|.cons rfl aYJ<|.cons rfl aYI<|.cons rfl aYH<|.cons rfl aYG<|.cons rfl aYF<|.cons rfl aYE<|.cons rfl aYD<|.cons rfl aYC<|.cons rfl aYB<|.cons rfl aYA<|.cons rfl aY6<|.cons rfl aY5<|.cons rfl aY4<|.cons rfl aY3<|.cons rfl aY2<|.cons rfl aXZ<|.cons rfl aXY<|.cons rfl a06<|.cons rfl a05<|.cons rfl a04<|.cons rfl aZ3<|.cons rfl aVL<|.cons rfl aYW<|.cons rfl aYX<|.cons rfl aXW<|.cons rfl aXV<|.cons rfl aXU<|.cons rfl aXT<|.cons rfl aXS<|.cons rfl aXR<|.cons rfl aXQ<|.cons rfl aXP<|.cons rfl aWG<|.nil
end Go.Proofs.YtncfpmehhfdipaaGreat
