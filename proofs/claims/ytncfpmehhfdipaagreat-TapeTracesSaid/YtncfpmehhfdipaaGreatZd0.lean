/- The compiled functions are those of the loaded program: part 0. Printed by wip/tools. -/
import Derived.Test.YtncfpmehhfdipaaGreatZt
set_option linter.unusedSimpArgs false
set_option linter.unusedVariables false
set_option linter.unnecessarySimpa false
namespace Go.Proofs.YtncfpmehhfdipaaGreat
theorem a9A:RowOK Tryz.prog fo a9H 3:=rwO [[6,9,11]] Tryz.func3
theorem rf2:RowOK Tryz.prog fo f2 4:=be [] [] true false [] Tryz.func4
theorem rf3:RowOK Tryz.prog fo f3 5:=be [(14,269)] [true] false false [] Tryz.func5
theorem rf8:RowOK Tryz.prog fo f8 6:=be [] [true] false false [] Tryz.func6
theorem aVG:RowOK Tryz.prog fo anJ 7:=rwO [] Tryz.func7
theorem aVJ:RowOK Tryz.prog fo anM 8:=be [] [true] false false [[0,1,2,7,8]] Tryz.func8
theorem rf4:RowOK Tryz.prog fo f4 9:=rwO [[2,3,5]] Tryz.func9
theorem aVK:RowOK Tryz.prog fo anN 10:=rwO [[2,3,5],[2,3,6]] Tryz.func10
theorem aVF:RowOK Tryz.prog fo anI 11:=rwO [] Tryz.func11
theorem rf9:RowOK Tryz.prog fo f9 12:=be [] [true] false false [[0,3,4,5]] Tryz.func12
theorem a1Q:RowOK Tryz.prog fo f10 13:=be [] [true] false false [[0,1,5,6]] Tryz.func13
theorem a1P:RowOK Tryz.prog fo f11 14:=be [] [true] false false [[0,2,3,4,5,7,13,14,15]] Tryz.func14
theorem aVM:RowOK Tryz.prog fo f269 14:=be [] [true] true true [[0,2,3,4,5,7,13,14,15]] Tryz.func14
theorem a1O:RowOK Tryz.prog fo f12 15:=be [] [true] false false [] Tryz.func15
theorem a1N:RowOK Tryz.prog fo f13 16:=be [] [true] false false [] Tryz.func16
theorem a1M:RowOK Tryz.prog fo f14 17:=rwO [[0,3,4]] Tryz.func17
theorem a1L:RowOK Tryz.prog fo f15 18:=rwO [[1,2,6],[1,2,7]] Tryz.func18
theorem aVE:RowOK Tryz.prog fo anH 19:=rwO [] Tryz.func19
theorem aVD:RowOK Tryz.prog fo anG 20:=rwO [] Tryz.func20
theorem a1K:RowOK Tryz.prog fo f16 21:=rwO [] Tryz.func21
theorem a9N:RowOK Tryz.prog fo f17 22:=rwO [] Tryz.func22
theorem aWO:RowOK Tryz.prog fo aoQ 23:=rwO [[0,1,5]] Tryz.func23
theorem aVC:RowOK Tryz.prog fo anF 24:=rwO [[0,2,3,4]] Tryz.func24
theorem a1F:RowOK Tryz.prog fo f23 25:=be [] [true] false false [] Tryz.func25
theorem a1E:RowOK Tryz.prog fo f25 27:=be [] [true] false false [] Tryz.func27
theorem a1D:RowOK Tryz.prog fo f26 28:=be [] [true] false false [] Tryz.func28
theorem a1C:RowOK Tryz.prog fo f27 29:=rwO [] Tryz.func29
theorem a1B:RowOK Tryz.prog fo f28 30:=rwO [[0,1,2,8,9]] Tryz.func30
theorem aVB:RowOK Tryz.prog fo anE 31:=rwO [] Tryz.func31
theorem aVA:RowOK Tryz.prog fo anD 32:=be [] [false,true] false false [] Tryz.func32
theorem atR:RowOK Tryz.prog fo anC 33:=be [] [true] false false [[7,9,61,62,63]] Tryz.func33
theorem a1A:RowOK Tryz.prog fo f29 34:=rwO [[1,4,5,12,13,14]] Tryz.func34
theorem a19:RowOK Tryz.prog fo f30 35:=rwO [[5]] Tryz.func35
theorem a18:RowOK Tryz.prog fo f31 36:=rwO [] Tryz.func36
theorem a17:RowOK Tryz.prog fo f32 37:=rwO [] Tryz.func37
theorem a16:RowOK Tryz.prog fo f33 38:=rwO [] Tryz.func38
theorem a15:RowOK Tryz.prog fo f34 39:=rwO [] Tryz.func39
theorem a14:RowOK Tryz.prog fo f35 40:=rwO [] Tryz.func40
theorem a12:RowOK Tryz.prog fo f36 41:=rwO [] Tryz.func41
theorem a9M:RowOK Tryz.prog fo f37 42:=be [] [true,true] false false [[0,1,3,4],[0,1,3,4,8]] Tryz.func42
theorem a11:RowOK Tryz.prog fo f38 43:=be [] [false,true] false false [[2,4,6,23,24,25]] Tryz.func43
theorem a9L:RowOK Tryz.prog fo f39 44:=be [] [false,true,true,true] false false [] Tryz.func44
theorem a9K:RowOK Tryz.prog fo f40 45:=rwO [[3,9,10,11]] Tryz.func45
theorem aW2:RowOK Tryz.prog fo ao4 46:=rwO [] Tryz.func46
theorem rf7:RowOK Tryz.prog fo f7 47:=rwO [] Tryz.func47
theorem a0V:RowOK Tryz.prog fo f46 48:=be [] [true] false false [[0,1,5,12,13]] Tryz.func48
theorem a0U:RowOK Tryz.prog fo f47 49:=rwO [[1,3,4,5],[1,3,4,6]] Tryz.func49
theorem a0T:RowOK Tryz.prog fo f48 50:=rwO [[1,3],[1,4]] Tryz.func50
theorem u8:RowOK Tryz.prog fo anB 51:=rwO [] Tryz.func51
theorem aZ9:RowOK Tryz.prog fo arB 52:=rwO [] Tryz.func52
theorem aY1:RowOK Tryz.prog fo aq3 53:=rwO [] Tryz.func53
theorem up:RowOK Tryz.prog fo anA 54:=rwO [] Tryz.func54
theorem aWK:RowOK Tryz.prog fo aoM 55:=rwO [] Tryz.func55
theorem a0S:RowOK Tryz.prog fo f49 56:=rwO [[1,3,15,16,17],[3,31,32,33]] Tryz.func56
theorem a0R:RowOK Tryz.prog fo f50 57:=rwO [] Tryz.func57
theorem a0Q:RowOK Tryz.prog fo f51 58:=rwO [] Tryz.func58
theorem a0P:RowOK Tryz.prog fo f52 59:=rwO [[3,9,10,11]] Tryz.func59
theorem a0O:RowOK Tryz.prog fo f53 60:=rwO [] Tryz.func60
theorem a0N:RowOK Tryz.prog fo f54 61:=rwO [] Tryz.func61
theorem a0M:RowOK Tryz.prog fo f55 62:=rwO [[3,12,13,14],[3,5,12,13,14,34,35,36]] Tryz.func62
theorem a0L:RowOK Tryz.prog fo f56 63:=rwO [[1,3,57,58,59],[112,113,114]] Tryz.func63
theorem a0K:RowOK Tryz.prog fo f57 64:=rwO [[2,3]] Tryz.func64
set_option maxRecDepth 10000 in
theorem ok0:AllOK Tryz.prog fo VP fs0 := .cons rfl a9A<|.cons rfl rf2<|.cons rfl rf3<|.cons rfl rf8<|.cons rfl aVG<|.cons rfl aVJ<|.cons rfl rf4<|.cons rfl aVK<|.cons rfl aVF<|.cons rfl rf9<|.cons rfl a1Q<|.cons rfl a1P<|.cons rfl aVM<|.cons rfl a1O<|.cons rfl a1N<|.cons rfl a1M<|.cons rfl a1L<|.cons rfl aVE<|.cons rfl aVD<|.cons rfl a1K<|.cons rfl a9N<|.cons rfl aWO<|.cons rfl aVC<|.cons rfl a1F<|.cons rfl a1E<|.cons rfl a1D<|.cons rfl a1C<|.cons rfl a1B<|.cons rfl aVB<|.cons rfl aVA<|.cons rfl atR<|.cons rfl a1A<|.cons rfl a19<|.cons rfl a18<|.cons rfl a17<|.cons rfl a16<|.cons rfl a15<|.cons rfl a14<|.cons rfl a12<|.cons rfl a9M<|.cons rfl a11<|.cons rfl a9L<|.cons rfl a9K<|.cons rfl aW2<|.cons rfl rf7<|.cons rfl a0V<|.cons rfl a0U<|.cons rfl a0T<|.cons rfl u8<|.cons rfl aZ9<|.cons rfl aY1<|.cons rfl up<|.cons rfl aWK<|.cons rfl a0S<|.cons rfl a0R<|.cons rfl a0Q<|.cons rfl a0P<|.cons rfl a0O<|.cons rfl a0N<|.cons rfl a0M<|.cons rfl a0L<|.cons rfl a0K<|.nil
end Go.Proofs.YtncfpmehhfdipaaGreat
