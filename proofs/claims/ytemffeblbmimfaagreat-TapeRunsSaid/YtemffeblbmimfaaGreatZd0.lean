/- The compiled functions are those of the loaded program: part 0. Printed by wip/tools. -/
import Derived.Test.YtemffeblbmimfaaGreatZt
set_option linter.unusedSimpArgs false
set_option linter.unusedVariables false
set_option linter.unnecessarySimpa false
namespace Go.Proofs.YtemffeblbmimfaaGreat
theorem aVH:RowOK Tryz.prog fo anK 3:=rwO [[6,7,8,9,10,11]] Tryz.func3
theorem a3J:RowOK Tryz.prog fo a3Q 4:=rwO [[5,6,7,8,10,11],[5,6,7,8,10,11,12,13,15,16]] Tryz.func4
theorem rf2:RowOK Tryz.prog fo f2 5:=be [] [] true false [] Tryz.func5
theorem rf3:RowOK Tryz.prog fo f3 6:=be [(21,269)] [true] false false [] Tryz.func6
theorem rf8:RowOK Tryz.prog fo f8 7:=be [] [true] false false [] Tryz.func7
theorem aVJ:RowOK Tryz.prog fo anM 8:=be [] [true] false false [[0,1,2,7,8]] Tryz.func8
theorem aVG:RowOK Tryz.prog fo anJ 9:=rwO [] Tryz.func9
theorem aVK:RowOK Tryz.prog fo anN 10:=rwO [[2,3,5],[2,3,6]] Tryz.func10
theorem aVF:RowOK Tryz.prog fo anI 11:=rwO [] Tryz.func11
theorem a3M:RowOK Tryz.prog fo a3T 12:=rwO [[0,3,4]] Tryz.func12
theorem a1J:RowOK Tryz.prog fo f19 13:=rwO [] Tryz.func13
theorem a10:RowOK Tryz.prog fo f41 14:=rwO [] Tryz.func14
theorem a3P:RowOK Tryz.prog fo a3W 15:=rwO [] Tryz.func15
theorem aYZ:RowOK Tryz.prog fo ar1 16:=rwO [] Tryz.func16
theorem a3L:RowOK Tryz.prog fo a3S 17:=rwO [[0,1,4,5,6],[0,1,4,5,6,7,8]] Tryz.func17
theorem a0Y:RowOK Tryz.prog fo f43 18:=rwO [[0,3,4]] Tryz.func18
theorem rf9:RowOK Tryz.prog fo f9 19:=be [] [true] false false [[0,3,4,5]] Tryz.func19
theorem a1Q:RowOK Tryz.prog fo f10 20:=be [] [true] false false [[0,1,5,6]] Tryz.func20
theorem a1P:RowOK Tryz.prog fo f11 21:=be [] [true] false false [[0,2,3,4,5,7,13,14,15]] Tryz.func21
theorem aVM:RowOK Tryz.prog fo f269 21:=be [] [true] true true [[0,2,3,4,5,7,13,14,15]] Tryz.func21
theorem a1O:RowOK Tryz.prog fo f12 22:=be [] [true] false false [] Tryz.func22
theorem a1N:RowOK Tryz.prog fo f13 23:=be [] [true] false false [] Tryz.func23
theorem a1M:RowOK Tryz.prog fo f14 24:=rwO [[0,3,4]] Tryz.func24
theorem a1L:RowOK Tryz.prog fo f15 25:=rwO [[1,2,6],[1,2,7]] Tryz.func25
theorem aVE:RowOK Tryz.prog fo anH 26:=rwO [] Tryz.func26
theorem aVD:RowOK Tryz.prog fo anG 27:=rwO [] Tryz.func27
theorem aWO:RowOK Tryz.prog fo aoQ 28:=rwO [[0,1,5]] Tryz.func28
theorem aVC:RowOK Tryz.prog fo anF 29:=rwO [[0,2,3,4]] Tryz.func29
theorem a0Z:RowOK Tryz.prog fo f42 30:=rwO [] Tryz.func30
theorem a08:RowOK Tryz.prog fo f69 31:=rwO [] Tryz.func31
theorem a07:RowOK Tryz.prog fo f70 32:=rwO [[0,1,5,6,7]] Tryz.func32
theorem aYX:RowOK Tryz.prog fo aqZ 33:=rwO [] Tryz.func33
theorem a3O:RowOK Tryz.prog fo a3V 34:=rwO [] Tryz.func34
theorem aYY:RowOK Tryz.prog fo ar0 35:=rwO [] Tryz.func35
theorem aYV:RowOK Tryz.prog fo aqX 36:=rwO [[0,1,5,6],[0,1,5,6,7,8],[0,1,5,6,7,10]] Tryz.func36
theorem aXX:RowOK Tryz.prog fo apZ 37:=be [(54,270)] [] false false [[1,6,7,8]] Tryz.func37
theorem aYW:RowOK Tryz.prog fo aqY 38:=rwO [] Tryz.func38
theorem a3K:RowOK Tryz.prog fo a3R 39:=rwO [[1,2,4,5,6]] Tryz.func39
theorem a04:RowOK Tryz.prog fo f73 40:=rwO [[0,3,5,6]] Tryz.func40
theorem a1F:RowOK Tryz.prog fo f23 41:=be [] [true] false false [] Tryz.func41
theorem a1E:RowOK Tryz.prog fo f25 43:=be [] [true] false false [] Tryz.func43
theorem a1D:RowOK Tryz.prog fo f26 44:=be [] [true] false false [] Tryz.func44
theorem a1C:RowOK Tryz.prog fo f27 45:=rwO [] Tryz.func45
theorem a1B:RowOK Tryz.prog fo f28 46:=rwO [[0,1,2,8,9]] Tryz.func46
theorem aVB:RowOK Tryz.prog fo anE 47:=rwO [] Tryz.func47
theorem aVA:RowOK Tryz.prog fo anD 48:=be [] [false,true] false false [] Tryz.func48
theorem atR:RowOK Tryz.prog fo anC 49:=be [] [true] false false [[7,9,61,62,63]] Tryz.func49
theorem aW2:RowOK Tryz.prog fo ao4 50:=rwO [] Tryz.func50
theorem rf7:RowOK Tryz.prog fo f7 51:=rwO [] Tryz.func51
theorem a06:RowOK Tryz.prog fo f71 52:=rwO [[0,1]] Tryz.func52
theorem a05:RowOK Tryz.prog fo f72 53:=rwO [[0,1,9],[9,10,11,12,13]] Tryz.func53
theorem aZ3:RowOK Tryz.prog fo ar5 54:=rwO [[0,3]] Tryz.func54
theorem aVL:RowOK Tryz.prog fo anO 54:=be [] [] true true [[0,3]] Tryz.func54
theorem a3N:RowOK Tryz.prog fo a3U 55:=rwO [] Tryz.func55
theorem aZ2:RowOK Tryz.prog fo ar4 56:=rwO [[0,1,5]] Tryz.func56
theorem aZ0:RowOK Tryz.prog fo ar2 57:=rwO [[2,3,5]] Tryz.func57
theorem a0V:RowOK Tryz.prog fo f46 58:=be [] [true] false false [[0,1,5,12,13]] Tryz.func58
theorem a0U:RowOK Tryz.prog fo f47 59:=rwO [[1,3,4,5],[1,3,4,6]] Tryz.func59
theorem a0T:RowOK Tryz.prog fo f48 60:=rwO [[1,3],[1,4]] Tryz.func60
theorem a1K:RowOK Tryz.prog fo f16 61:=rwO [] Tryz.func61
theorem a11:RowOK Tryz.prog fo f38 62:=be [] [false,true] false false [[2,4,6,23,24,25]] Tryz.func62
theorem u8:RowOK Tryz.prog fo anB 63:=rwO [] Tryz.func63
set_option maxRecDepth 10000 in
theorem ok0:AllOK Tryz.prog fo VP fs0 := .cons rfl aVH<|.cons rfl a3J<|.cons rfl rf2<|.cons rfl rf3<|.cons rfl rf8<|.cons rfl aVJ<|.cons rfl aVG<|.cons rfl aVK<|.cons rfl aVF<|.cons rfl a3M<|.cons rfl a1J<|.cons rfl a10<|.cons rfl a3P<|.cons rfl aYZ<|.cons rfl a3L<|.cons rfl a0Y<|.cons rfl rf9<|.cons rfl a1Q<|.cons rfl a1P<|.cons rfl aVM<|.cons rfl a1O<|.cons rfl a1N<|.cons rfl a1M<|.cons rfl a1L<|.cons rfl aVE<|.cons rfl aVD<|.cons rfl aWO<|.cons rfl aVC<|.cons rfl a0Z<|.cons rfl a08<|.cons rfl a07<|.cons rfl aYX<|.cons rfl a3O<|.cons rfl aYY<|.cons rfl aYV<|.cons rfl aXX<|.cons rfl aYW<|.cons rfl a3K<|.cons rfl a04<|.cons rfl a1F<|.cons rfl a1E<|.cons rfl a1D<|.cons rfl a1C<|.cons rfl a1B<|.cons rfl aVB<|.cons rfl aVA<|.cons rfl atR<|.cons rfl aW2<|.cons rfl rf7<|.cons rfl a06<|.cons rfl a05<|.cons rfl aZ3<|.cons rfl aVL<|.cons rfl a3N<|.cons rfl aZ2<|.cons rfl aZ0<|.cons rfl a0V<|.cons rfl a0U<|.cons rfl a0T<|.cons rfl a1K<|.cons rfl a11<|.cons rfl u8<|.nil
end Go.Proofs.YtemffeblbmimfaaGreat
