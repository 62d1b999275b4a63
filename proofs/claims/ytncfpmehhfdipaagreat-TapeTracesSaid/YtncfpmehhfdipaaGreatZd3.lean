/- The compiled functions are those of the loaded program: part 3. Printed by wip/tools. -/
import Derived.Test.YtncfpmehhfdipaaGreatZt
set_option linter.unusedSimpArgs false
set_option linter.unusedVariables false
set_option linter.unnecessarySimpa false
namespace Go.Proofs.YtncfpmehhfdipaaGreat
theorem aWF:RowOK Tryz.prog fo aoH 196:=rwO [] Tryz.func196
theorem aWD:RowOK Tryz.prog fo aoF 197:=rwO [[0,1,6,7,8]] Tryz.func197
theorem aVU:RowOK Tryz.prog fo anW 199:=rwO [] Tryz.func199
theorem aXO:RowOK Tryz.prog fo apQ 201:=rwO [[1,4,38,39],[5,51,52,53]] Tryz.func201
theorem aXN:RowOK Tryz.prog fo apP 202:=rwO [] Tryz.func202
theorem aXM:RowOK Tryz.prog fo apO 203:=rwO [] Tryz.func203
theorem aXL:RowOK Tryz.prog fo apN 204:=rwO [[3,7,8,9]] Tryz.func204
theorem aXK:RowOK Tryz.prog fo apM 205:=rwO [[2,3,8,9,30,31,32]] Tryz.func205
theorem aXJ:RowOK Tryz.prog fo apL 206:=rwO [] Tryz.func206
theorem aXI:RowOK Tryz.prog fo apK 207:=rwO [] Tryz.func207
theorem aXH:RowOK Tryz.prog fo apJ 208:=rwO [] Tryz.func208
theorem aXG:RowOK Tryz.prog fo apI 209:=rwO [] Tryz.func209
theorem aXF:RowOK Tryz.prog fo apH 210:=rwO [[0,1,7,8]] Tryz.func210
theorem aXE:RowOK Tryz.prog fo apG 211:=rwO [[3,7,8,9]] Tryz.func211
theorem aXD:RowOK Tryz.prog fo apF 212:=rwO [[50,51,52]] Tryz.func212
theorem aXC:RowOK Tryz.prog fo apE 213:=rwO [[3,11,12,13]] Tryz.func213
theorem aXB:RowOK Tryz.prog fo apD 215:=rwO [[0,1,7,8]] Tryz.func215
theorem aXA:RowOK Tryz.prog fo apC 216:=rwO [] Tryz.func216
theorem aX9:RowOK Tryz.prog fo apB 217:=be [] [true] true false [[0,1,5,6]] Tryz.func217
theorem aX8:RowOK Tryz.prog fo apA 218:=rwO [] Tryz.func218
theorem aX7:RowOK Tryz.prog fo ap9 219:=rwO [] Tryz.func219
theorem aX3:RowOK Tryz.prog fo ap5 220:=be [] [true] false false [] Tryz.func220
theorem aX2:RowOK Tryz.prog fo ap4 221:=be [] [true,true,true,true,true] false false [[1,4,18,19,20]] Tryz.func221
theorem aX1:RowOK Tryz.prog fo ap3 222:=rwO [] Tryz.func222
theorem aWW:RowOK Tryz.prog fo aoY 223:=be [] [true] false false [[0,1,2,3,4,10,11]] Tryz.func223
theorem aWV:RowOK Tryz.prog fo aoX 224:=rwO [] Tryz.func224
theorem aZ2:RowOK Tryz.prog fo ar4 226:=rwO [[0,1,5]] Tryz.func226
theorem aZ1:RowOK Tryz.prog fo ar3 227:=rwO [[0,1,6,7,8]] Tryz.func227
theorem aZ0:RowOK Tryz.prog fo ar2 231:=rwO [[2,3,5]] Tryz.func231
theorem aYZ:RowOK Tryz.prog fo ar1 232:=rwO [] Tryz.func232
theorem aWU:RowOK Tryz.prog fo aoW 233:=rwO [[1,2,5,6]] Tryz.func233
theorem aWT:RowOK Tryz.prog fo aoV 234:=rwO [] Tryz.func234
theorem aWS:RowOK Tryz.prog fo aoU 235:=rwO [] Tryz.func235
theorem aWR:RowOK Tryz.prog fo aoT 236:=rwO [] Tryz.func236
theorem aWQ:RowOK Tryz.prog fo aoS 237:=rwO [] Tryz.func237
theorem aWP:RowOK Tryz.prog fo aoR 239:=rwO [[1,5,6]] Tryz.func239
theorem a3P:RowOK Tryz.prog fo a3W 240:=rwO [] Tryz.func240
theorem aVV:RowOK Tryz.prog fo anX 241:=rwO [] Tryz.func241
theorem aWN:RowOK Tryz.prog fo aoP 244:=rwO [] Tryz.func244
theorem aWM:RowOK Tryz.prog fo aoO 245:=rwO [] Tryz.func245
theorem aWL:RowOK Tryz.prog fo aoN 246:=rwO [[2,5,11,12,13],[2,5,8,10,11,12,13]] Tryz.func246
theorem aWJ:RowOK Tryz.prog fo aoL 247:=rwO [] Tryz.func247
theorem aWI:RowOK Tryz.prog fo aoK 248:=rwO [[0,1,7,8]] Tryz.func248
theorem aW7:RowOK Tryz.prog fo ao9 249:=be [] [true] false false [[0,1,2,3,8],[0,1,2,3,8,9]] Tryz.func249
theorem aW6:RowOK Tryz.prog fo ao8 258:=rwO [] Tryz.func258
theorem aXX:RowOK Tryz.prog fo apZ 260:=be [(183,270)] [] false false [[1,6,7,8]] Tryz.func260
theorem aW5:RowOK Tryz.prog fo ao7 261:=rwO [] Tryz.func261
theorem aW4:RowOK Tryz.prog fo ao6 262:=rwO [[0,3],[0,3,4]] Tryz.func262
theorem aW3:RowOK Tryz.prog fo ao5 263:=rwO [[0,1,5,6]] Tryz.func263
theorem a3O:RowOK Tryz.prog fo a3V 264:=rwO [] Tryz.func264
theorem aW1:RowOK Tryz.prog fo ao3 265:=rwO [[0,1,7,8]] Tryz.func265
theorem aW0:RowOK Tryz.prog fo ao2 266:=rwO [[3,6,7,8]] Tryz.func266
theorem aVZ:RowOK Tryz.prog fo ao1 267:=rwO [[1,5,8,9,10]] Tryz.func267
theorem aVY:RowOK Tryz.prog fo ao0 268:=rwO [] Tryz.func268
theorem aVX:RowOK Tryz.prog fo anZ 269:=rwO [] Tryz.func269
theorem a3N:RowOK Tryz.prog fo a3U 276:=rwO [] Tryz.func276
theorem aVS:RowOK Tryz.prog fo anU 277:=rwO [[0,3,4]] Tryz.func277
theorem aVR:RowOK Tryz.prog fo anT 278:=rwO [] Tryz.func278
theorem aVP:RowOK Tryz.prog fo anR 280:=rwO [[1,2,15,16,17]] Tryz.func280
theorem aVO:RowOK Tryz.prog fo anQ 281:=rwO [] Tryz.func281
theorem aVN:RowOK Tryz.prog fo anP 282:=rwO [] Tryz.func282
set_option maxRecDepth 10000 in
theorem ok3:AllOK Tryz.prog fo VP fs3 := .cons rfl aWF<|.cons rfl aWD<|.cons rfl aVU<|.cons rfl aXO<|.cons rfl aXN<|.cons rfl aXM<|.cons rfl aXL<|.cons rfl aXK<|.cons rfl aXJ<|.cons rfl aXI<|.cons rfl aXH<|.cons rfl aXG<|.cons rfl aXF<|.cons rfl aXE<|.cons rfl aXD<|.cons rfl aXC<|.cons rfl aXB<|.cons rfl aXA<|.cons rfl aX9<|.cons rfl aX8<|.cons rfl aX7<|.cons rfl aX3<|.cons rfl aX2<|.cons rfl aX1<|.cons rfl aWW<|.cons rfl aWV<|.cons rfl aZ2<|.cons rfl aZ1<|.cons rfl aZ0<|.cons rfl aYZ<|.cons rfl aWU<|.cons rfl aWT<|.cons rfl aWS<|.cons rfl aWR<|.cons rfl aWQ<|.cons rfl aWP<|.cons rfl a3P<|.cons rfl aVV<|.cons rfl aWN<|.cons rfl aWM<|.cons rfl aWL<|.cons rfl aWJ<|.cons rfl aWI<|.cons rfl aW7<|.cons rfl aW6<|.cons rfl aXX<|.cons rfl aW5<|.cons rfl aW4<|.cons rfl aW3<|.cons rfl a3O<|.cons rfl aW1<|.cons rfl aW0<|.cons rfl aVZ<|.cons rfl aVY<|.cons rfl aVX<|.cons rfl a3N<|.cons rfl aVS<|.cons rfl aVR<|.cons rfl aVP<|.cons rfl aVO<|.cons rfl aVN<|.nil
end Go.Proofs.YtncfpmehhfdipaaGreat
