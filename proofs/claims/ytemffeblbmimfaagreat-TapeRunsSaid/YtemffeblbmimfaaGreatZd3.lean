/- The compiled functions are those of the loaded program: part 3. Printed by wip/tools. -/
import Derived.Test.YtemffeblbmimfaaGreatZt
set_option linter.unusedSimpArgs false
set_option linter.unusedVariables false
set_option linter.unnecessarySimpa false
namespace Go.Proofs.YtemffeblbmimfaaGreat
theorem aWT:RowOK Tryz.prog fo aoV 199:=rwO [] Tryz.func199
theorem aWS:RowOK Tryz.prog fo aoU 200:=rwO [] Tryz.func200
theorem aWR:RowOK Tryz.prog fo aoT 201:=rwO [] Tryz.func201
theorem aWQ:RowOK Tryz.prog fo aoS 202:=rwO [] Tryz.func202
theorem aWP:RowOK Tryz.prog fo aoR 204:=rwO [[1,5,6]] Tryz.func204
theorem aYM:RowOK Tryz.prog fo aqO 205:=rwO [] Tryz.func205
theorem aYL:RowOK Tryz.prog fo aqN 206:=rwO [] Tryz.func206
theorem aYK:RowOK Tryz.prog fo aqM 207:=rwO [] Tryz.func207
theorem aYJ:RowOK Tryz.prog fo aqL 208:=rwO [[0,1,12,13]] Tryz.func208
theorem aYI:RowOK Tryz.prog fo aqK 209:=rwO [] Tryz.func209
theorem aYH:RowOK Tryz.prog fo aqJ 210:=rwO [[2,3,5,6,7,8,9,87,88,89]] Tryz.func210
theorem aYG:RowOK Tryz.prog fo aqI 212:=rwO [] Tryz.func212
theorem aYF:RowOK Tryz.prog fo aqH 213:=rwO [] Tryz.func213
theorem aYE:RowOK Tryz.prog fo aqG 214:=rwO [] Tryz.func214
theorem aYD:RowOK Tryz.prog fo aqF 216:=rwO [] Tryz.func216
theorem aYC:RowOK Tryz.prog fo aqE 217:=rwO [] Tryz.func217
theorem aXA:RowOK Tryz.prog fo apC 218:=rwO [] Tryz.func218
theorem aX9:RowOK Tryz.prog fo apB 219:=be [] [true] true false [[0,1,5,6]] Tryz.func219
theorem aX8:RowOK Tryz.prog fo apA 220:=rwO [] Tryz.func220
theorem aX7:RowOK Tryz.prog fo ap9 221:=rwO [] Tryz.func221
theorem aX3:RowOK Tryz.prog fo ap5 222:=be [] [true] false false [] Tryz.func222
theorem aX2:RowOK Tryz.prog fo ap4 223:=be [] [true,true,true,true,true] false false [[1,4,18,19,20]] Tryz.func223
theorem aX1:RowOK Tryz.prog fo ap3 224:=rwO [] Tryz.func224
theorem aVV:RowOK Tryz.prog fo anX 225:=rwO [] Tryz.func225
theorem aWW:RowOK Tryz.prog fo aoY 228:=be [] [true] false false [[0,1,2,3,4,10,11]] Tryz.func228
theorem aWV:RowOK Tryz.prog fo aoX 229:=rwO [] Tryz.func229
theorem aW5:RowOK Tryz.prog fo ao7 231:=rwO [] Tryz.func231
theorem aW4:RowOK Tryz.prog fo ao6 232:=rwO [[0,3],[0,3,4]] Tryz.func232
theorem aW3:RowOK Tryz.prog fo ao5 233:=rwO [[0,1,5,6]] Tryz.func233
theorem aXO:RowOK Tryz.prog fo apQ 234:=rwO [[1,4,38,39],[5,51,52,53]] Tryz.func234
theorem aXN:RowOK Tryz.prog fo apP 235:=rwO [] Tryz.func235
theorem aXM:RowOK Tryz.prog fo apO 236:=rwO [] Tryz.func236
theorem aXL:RowOK Tryz.prog fo apN 237:=rwO [[3,7,8,9]] Tryz.func237
theorem aXK:RowOK Tryz.prog fo apM 238:=rwO [[2,3,8,9,30,31,32]] Tryz.func238
theorem aXJ:RowOK Tryz.prog fo apL 239:=rwO [] Tryz.func239
theorem aXI:RowOK Tryz.prog fo apK 240:=rwO [] Tryz.func240
theorem aXH:RowOK Tryz.prog fo apJ 241:=rwO [] Tryz.func241
theorem aXG:RowOK Tryz.prog fo apI 242:=rwO [] Tryz.func242
theorem aXF:RowOK Tryz.prog fo apH 243:=rwO [[0,1,7,8]] Tryz.func243
theorem aXE:RowOK Tryz.prog fo apG 244:=rwO [[3,7,8,9]] Tryz.func244
theorem aXD:RowOK Tryz.prog fo apF 245:=rwO [[50,51,52]] Tryz.func245
theorem aXC:RowOK Tryz.prog fo apE 246:=rwO [[3,11,12,13]] Tryz.func246
theorem aXB:RowOK Tryz.prog fo apD 248:=rwO [[0,1,7,8]] Tryz.func248
theorem aWI:RowOK Tryz.prog fo aoK 249:=rwO [[0,1,7,8]] Tryz.func249
theorem aW7:RowOK Tryz.prog fo ao9 251:=be [] [true] false false [[0,1,2,3,8],[0,1,2,3,8,9]] Tryz.func251
theorem aW6:RowOK Tryz.prog fo ao8 259:=rwO [] Tryz.func259
theorem aWN:RowOK Tryz.prog fo aoP 261:=rwO [] Tryz.func261
theorem aWM:RowOK Tryz.prog fo aoO 262:=rwO [] Tryz.func262
theorem aWL:RowOK Tryz.prog fo aoN 263:=rwO [[2,5,11,12,13],[2,5,8,10,11,12,13]] Tryz.func263
theorem aWJ:RowOK Tryz.prog fo aoL 264:=rwO [] Tryz.func264
theorem aW1:RowOK Tryz.prog fo ao3 271:=rwO [[0,1,7,8]] Tryz.func271
theorem aW0:RowOK Tryz.prog fo ao2 272:=rwO [[3,6,7,8]] Tryz.func272
theorem aVZ:RowOK Tryz.prog fo ao1 273:=rwO [[1,5,8,9,10]] Tryz.func273
theorem aVY:RowOK Tryz.prog fo ao0 274:=rwO [] Tryz.func274
theorem aVX:RowOK Tryz.prog fo anZ 275:=rwO [] Tryz.func275
theorem aVS:RowOK Tryz.prog fo anU 277:=rwO [[0,3,4]] Tryz.func277
theorem aVR:RowOK Tryz.prog fo anT 278:=rwO [] Tryz.func278
theorem aVP:RowOK Tryz.prog fo anR 279:=rwO [[1,2,15,16,17]] Tryz.func279
theorem aVO:RowOK Tryz.prog fo anQ 280:=rwO [] Tryz.func280
theorem aVN:RowOK Tryz.prog fo anP 281:=rwO [] Tryz.func281
set_option maxRecDepth 10000 in
theorem ok3:AllOK Tryz.prog fo VP fs3 := .cons rfl aWT<|.cons rfl aWS<|.cons rfl aWR<|.cons rfl aWQ<|.cons rfl aWP<|.cons rfl aYM<|.cons rfl aYL<|.cons rfl aYK<|.cons rfl aYJ<|.cons rfl aYI<|.cons rfl aYH<|.cons rfl aYG<|.cons rfl aYF<|.cons rfl aYE<|.cons rfl aYD<|.cons rfl aYC<|.cons rfl aXA<|.cons rfl aX9<|.cons rfl aX8<|.cons rfl aX7<|.cons rfl aX3<|.cons rfl aX2<|.cons rfl aX1<|.cons rfl aVV<|.cons rfl aWW<|.cons rfl aWV<|.cons rfl aW5<|.cons rfl aW4<|.cons rfl aW3<|.cons rfl aXO<|.cons rfl aXN<|.cons rfl aXM<|.cons rfl aXL<|.cons rfl aXK<|.cons rfl aXJ<|.cons rfl aXI<|.cons rfl aXH<|.cons rfl aXG<|.cons rfl aXF<|.cons rfl aXE<|.cons rfl aXD<|.cons rfl aXC<|.cons rfl aXB<|.cons rfl aWI<|.cons rfl aW7<|.cons rfl aW6<|.cons rfl aWN<|.cons rfl aWM<|.cons rfl aWL<|.cons rfl aWJ<|.cons rfl aW1<|.cons rfl aW0<|.cons rfl aVZ<|.cons rfl aVY<|.cons rfl aVX<|.cons rfl aVS<|.cons rfl aVR<|.cons rfl aVP<|.cons rfl aVO<|.cons rfl aVN<|.nil
end Go.Proofs.YtemffeblbmimfaaGreat
