/- Calls and what they answer,one on top of the others: part 0. Printed by wip/tools/tab.py. -/
import Derived.Test.YtemffeblbmimfaaGreatA08
import Derived.Test.YtemffeblbmimfaaGreatA09
import Derived.Test.YtemffeblbmimfaaGreatA15
set_option linter.unusedSimpArgs false
set_option linter.unusedVariables false
set_option linter.unnecessarySimpa false
namespace Go.Proofs.YtemffeblbmimfaaGreat
set_option maxRecDepth 100000
theorem ud0:Q1 41 (I 1) (A [B false,S [W 1],S [W 1]]):=Tk .n
theorem ud1:Q2 114 (S [W 1]) (S [W 3]) (J 0):=Tk .n
theorem ud2:Q2 114 (S [W 3]) (S [W 1]) (I 1):=Tk .n
theorem ud3:Q2 72 (S [W 3]) (S [W 1]) (U [S [W 3],S [],I 0]):=Tk (.c ud2 .n)
theorem ud4:Q2 71 (S [W 1]) (S [W 3]) (S [W 1]):=Tk (.c ud1 (.c ud3 .n))
theorem ud5:Q2 72 (S [W 1]) (S [W 1]) (U [S [W 1],S [],I 0]):=Tk .n
theorem ud6:Q3 42 (B false) (S [W 1]) (S [W 3]) (A [B false,S [W 1],S [W 3]]):=Tk (.c ud4 (.c ud5 (.c ud3 .n)))
theorem ud7:Q1 121 (A [B false,S [W 1],S [W 3]]) (A [B false,S [W 1],S [W 3]]):=Tk (.c ud6 .n)
theorem ud8:Q2 71 (S [W 1]) (S [W 1]) (S [W 1]):=Tk (.c ud5 .n)
theorem ud9:Q1 121 (A [B false,S [W 1],S [W 1]]) (A [B false,S [W 1],S [W 1]]):=Tk (.c ud8 (.c ud5 .n))
theorem aRG:Q2 124 (S [W 1]) (S [W 1]) (S [W 1]):=Tk .n
theorem aRF:Q2 124 (S [W 3]) (S [W 1]) (S [W 3]):=Tk .n
theorem aRE:Q3 42 (B true) (S [W 1]) (S [W 3]) (A [B true,S [W 1],S [W 3]]):=Tk (.c ud4 (.c ud5 (.c ud3 .n)))
theorem aRD:Q1 121 (A [B true,S [W 1],S [W 3]]) (A [B true,S [W 1],S [W 3]]):=Tk (.c aRE .n)
theorem aRC:Q2 72 (S [W 2]) (S [W 1]) (U [S [W 2],S [],I 0]):=Tk .n
theorem aU0:Q2 71 (S [W 2]) (S [W 3]) (S [W 1]):=Tk (.c aRC .n)
theorem aRB:Q3 42 (B false) (S [W 2]) (S [W 3]) (A [B false,S [W 2],S [W 3]]):=Tk (.c aU0 (.c aRC (.c ud3 .n)))
theorem aTZ:Q1 121 (A [B false,S [W 2],S [W 3]]) (A [B false,S [W 2],S [W 3]]):=Tk (.c aRB .n)
def au8:D:=S [A [I 0,I 0,I 0,I 0,I 0,I 0,I 0,I 0,B false,S [W 2],S [W 3]]]
theorem aTY:Q2 73 (S [A [I 0,I 0,I 0,I 0,I 0,I 0,I 0,I 0,B false,S [W 1],S [W 1]]]) (A [I 0,I 0,I 0,I 0,I 0,I 0,I 0,I 0,B true,S [W 1],S [W 3]]) au8:=Tk (.c aRD (.c ud9 (.c aRG (.c aRF (.c ud1 (.c ud2 (.c aRB (.c aTZ .n))))))))
def avK:D:=S [A [I 0,I 0,I 0,I 0,I 0,I 0,I 0,I 0,B false,S [W 1],S [W 3]]]
theorem aTX:Q2 21 (S [A [I 0,I 0,I 0,I 0,I 0,I 0,I 0,I 0,B false,S [W 1],S [W 1]]]) avK au8:=Tk (.c ud7 (.c ud8 (.c ud5 (.c aRG (.c aRF (.c aRE (.c aRD (.c aTY .n))))))))
def aHR:D:=S [au8,avK]
def aQL:D:=A [I 1,I 0,I 0,aHR,B false,S [],S [],B false,S [],S []]
theorem aTW:Q2 7 (I 1) (I 3) aQL:=Tk (.c ud0 (.c ud6 (.c ud7 (.c ud9 (.c aTX .n)))))
def aHQ:D:=A [I 2,I 0,I 0,I 0,I 0,B false,S [],S [],S [],I 1,I 0,I 0,aHR,B false,S [],S [],B false,S [],S [],S [],S [],S [],S []]
def au7:D:=S [aHQ]
theorem aTV:Q1 438 (I 1) (A [I 0,S [A [I 1,I 0,I 1]],S [],S [],au7,S [I 0],I 1,I 0,I 0,I 0,S []]):=Tk (.c aTW .n)
theorem aTU:Q2 50 (S [A [S [A [I 1,I 0,I 1]],au7]]) (.func 51 [] []) (B false):=Tk .n
theorem aTT:Q2 97 (S [I 0]) (S [A [I 1,I 0,I 1]]) (B true):=Tk .n
theorem aRA:Q1 189 (S []) (S []):=Tk .n
theorem axJ:Q1 189 (S [W 1]) (S [W 1]):=Tk .n
theorem aH8:Q3 149 (B false) (S []) (S [W 1]) (A [B false,S [],S [W 1]]):=Tk (.c aRA (.c axJ .n))
theorem aR9:Q1 195 (A [B false,S [],S []]) (A [B false,S [],S [W 1]]):=Tk (.c aH8 .n)
theorem aH7:Q1 223 (S [W 3]) (B false):=Tk .n
theorem aI4:Q1 189 (S [W 2]) (S [W 2]):=Tk .n
theorem axI:Q1 189 (S [W 3]) (S [W 3]):=Tk .n
theorem aI3:Q1 219 (.int .u64 1) (S [W 1]):=Tk .n
theorem aR8:Q2 190 (S [W 2]) (S [W 3]) (S [W 1]):=Tk (.c aI4 (.c axI (.c aI3 .n)))
theorem aH6:Q3 149 (B false) (S [W 2]) (S [W 3]) (A [B false,S [W 2],S [W 3]]):=Tk (.c aI4 (.c axI (.c aR8 .n)))
theorem avN:Q1 195 (A [B false,S [W 2],S [W 3]]) (A [B false,S [W 2],S [W 3]]):=Tk (.c aH7 (.c aH6 .n))
theorem aH5:Q2 196 (S []) (S [W 3]) (S []):=Tk .n
theorem aI2:Q2 196 (S [W 2]) (S [W 1]) (S [W 2]):=Tk .n
theorem avM:Q2 196 (S [W 1]) (S [W 3]) (S [W 3]):=Tk .n
theorem aR7:Q5 198 (B false) (S []) (B false) (S [W 2]) (S [W 3]) (A [B false,S [W 2],S [W 3]]):=Tk (.c aH6 .n)
theorem aI1:Q1 157 (A [B false,S [W 2],S [W 3]]) (I 1):=Tk (.c avN .n)
theorem azX:Q1 200 (.int .u64 1) (I 1):=Tk .n
theorem aR6:Q1 112 au8 au8:=Tk (.c aR9 (.c avN (.c aH5 (.c aI2 (.c avM (.c aR7 (.c aI1 (.c azX .n))))))))
theorem aR5:Q1 68 au8 (U [au8,I 0]):=Tk (.c aR6 .n)
theorem aR4:Q1 185 (A [B false,S [W 2],S [W 3]]) (A [B false,S [W 2],S [W 3]]):=Tk (.c avN .n)
theorem aR3:Q1 147 au8 au8:=Tk (.c aR4 (.c aI1 (.c azX .n)))
theorem aR2:Q2 190 (S [W 1]) (S [W 3]) (S [W 1]):=Tk (.c axJ (.c axI (.c aI3 .n)))
theorem azW:Q3 149 (B false) (S [W 1]) (S [W 3]) (A [B false,S [W 1],S [W 3]]):=Tk (.c axJ (.c axI (.c aR2 .n)))
theorem azO:Q1 195 (A [B false,S [W 1],S [W 3]]) (A [B false,S [W 1],S [W 3]]):=Tk (.c aH7 (.c azW .n))
theorem aI0:Q2 196 (S [W 1]) (S [W 1]) (S [W 1]):=Tk .n
theorem aR1:Q5 198 (B false) (S []) (B false) (S [W 1]) (S [W 3]) (A [B false,S [W 1],S [W 3]]):=Tk (.c azW .n)
theorem azV:Q1 157 (A [B false,S [W 1],S [W 3]]) (I 1):=Tk (.c azO .n)
theorem aR0:Q1 112 avK avK:=Tk (.c aR9 (.c azO (.c aH5 (.c aI0 (.c avM (.c aR1 (.c azV (.c azX .n))))))))
theorem aQZ:Q1 68 avK (U [avK,I 0]):=Tk (.c aR0 .n)
theorem aHZ:Q2 196 (S [W 2]) (S [W 3]) (S [W 6]):=Tk .n
theorem aHY:Q2 196 (S [W 3]) (S [W 3]) (S [W 9]):=Tk .n
theorem aHX:Q1 189 (S [W 9]) (S [W 9]):=Tk .n
theorem aQY:Q1 219 (.int .u64 0) (S []):=Tk .n
theorem aTS:Q5 198 (B false) (S [W 6]) (B false) (S [W 3]) (S [W 9]) (A [B false,S [W 1],S [W 1]]):=Tk (.c aHX (.c aQY .n))
theorem aQX:Q2 156 (A [B false,S [W 2],S [W 3]]) (A [B false,S [W 1],S [W 3]]) (A [B false,S [W 1],S [W 1]]):=Tk (.c avN (.c azO (.c aHZ (.c avM (.c aHY (.c aTS .n))))))
theorem aHW:Q1 223 (S [W 1]) (B false):=Tk .n
theorem aQW:Q2 190 (S [W 1]) (S [W 1]) (S [W 1]):=Tk (.c axJ (.c aI3 .n))
theorem aQV:Q3 149 (B false) (S [W 1]) (S [W 1]) (A [B false,S [W 1],S [W 1]]):=Tk (.c axJ (.c aQW .n))
theorem axH:Q1 195 (A [B false,S [W 1],S [W 1]]) (A [B false,S [W 1],S [W 1]]):=Tk (.c aHW (.c aQV .n))
theorem aQU:Ret VP (.fn 186) [.ms 0 1 0 1,.d (.func 187 [] [])] [some (.rows 1 false 11 [[.d (I 0),.d (I 0),.d (I 0),.d (I 0),.d (I 0),.d (I 0),.d (I 0),.d (I 0),.d (B false),.d (S [W 1]),.d (S [W 1])]])] (.ms 0 1 0 1) [some (.rows 1 false 11 [[.d (I 0),.d (I 0),.d (I 0),.d (I 0),.d (I 0),.d (I 0),.d (I 0),.d (I 0),.d (B false),.d (S [W 1]),.d (S [W 1])]])]:=tb (n:=1000) (.c axH .n) (by kernel_rfl)
theorem aQT:Ret VP (.fn 158) [.ms 0 1 0 1,.d (.func 188 [A [I 8]] [])] [some (.rows 1 false 11 [[.d (I 0),.d (I 0),.d (I 0),.d (I 0),.d (I 0),.d (I 0),.d (I 0),.d (I 0),.d (B false),.d (S [W 1]),.d (S [W 1])]])] (.d (U [])) [some (.rows 1 false 11 [[.d (I 0),.d (I 0),.d (I 0),.d (I 0),.d (I 0),.d (I 0),.d (I 0),.d (I 0),.d (B false),.d (S [W 1]),.d (S [W 1])]])]:=tb (n:=1000) (.c azX .n) (by kernel_rfl)
theorem aQS:Q1 148 (I 1) (U [B false,S [W 1]]):=Tk .n
theorem aHV:Q1 65 (I 1) (S [A [I 0,I 0,I 0,I 0,I 0,I 0,I 0,I 0,B false,S [W 1],S [W 1]]]):=Tk (.c aQS (.c aQV (.c axH (.c aQU (.c aQT .n)))))
theorem aTR:Q2 220 (S [W 1]) (S [W 1]) (I 0):=Tk .n
theorem aTQ:Q2 156 (A [B false,S [W 1],S [W 1]]) (A [B true,S [W 1],S [W 1]]) (A [B false,S [],S [W 1]]):=Tk (.c axH (.c aHW (.c axJ (.c aQW (.c aTR (.c aH8 .n))))))
theorem aHU:Q1 195 (A [B false,S [],S [W 1]]) (A [B false,S [],S [W 1]]):=Tk (.c aHW (.c aH8 .n))
theorem aQR:Q1 157 (A [B false,S [],S [W 1]]) (I 0):=Tk (.c aHU .n)
theorem aTP:Q2 213 (A [I 0,S [A [I 1,I 0,I 1]],S [],I 0,B true]) aHR (B true):=Tk (.c aR5 (.c aI1 (.c aR3 (.c aQZ (.c azV (.c aR4 (.c aQX (.c aQU (.c aQT (.c aHV (.c axH (.c aTQ (.c aQR .n)))))))))))))
theorem aTO:Q1 56 (A [I 0,S [A [I 1,I 0,I 1]],S [],S [],au7,S [I 0],I 1,I 0,I 0,I 0,S []]) (B true):=Tk (.c aTT (.c aTP .n))
theorem aQQ:Q1 29 (A [I 0,S [A [I 1,I 0,I 1]],S [],S [],au7,S [I 0],I 1,I 0,I 0,I 0,S []]) (I 0):=Tk (.c aTU (.c aTO .n))
theorem aTN:Q1 30 (A [I 0,S [A [I 1,I 0,I 1]],S [],S [],au7,S [I 0],I 1,I 0,I 0,I 0,S []]) (U [S [aQL],I 0]):=Tk (.c aQQ .n)
theorem aTM:Q2 64 (S []) (.func 63 [] []) (B false):=Tk .n
theorem aTL:Q1 16 (A [I 0,S [A [I 1,I 0,I 1]],S [],S [],au7,S [I 0],I 1,I 0,I 0,I 0,S []]) (I 0):=Tk (.c aQQ (.c aTN (.c aTM .n)))
theorem aQP:Q2 436 (A [I 0,S [A [I 1,I 0,I 1]],S [],S [],au7,S [I 0],I 1,I 0,I 0,I 0,S []]) (I 3) (I 0):=Tk (.c aTL .n)
theorem aHT:Q2 66 (A [I 1,I 0,I 1]) (I 0) (I 0):=Tk .n
theorem aQO:Q1 148 (I 3) (U [B false,S [W 3]]):=Tk .n
theorem aH4:Q1 107 (I 0) (A [B false,S [],S [W 1]]):=Tk (.c aH8 .n)
theorem aHS:Q2 156 (A [B false,S [],S [W 1]]) (A [B false,S [W 2],S [W 3]]) (A [B false,S [W 2],S [W 3]]):=Tk (.c aHU (.c avN (.c aH5 (.c aI2 (.c avM (.c aR7 .n))))))
theorem aQN:Q1 443 au8 (A [B false,S [W 2],S [W 3]]):=Tk (.c aR6 (.c aH4 (.c aHS .n)))
theorem aTK:Q2 220 (S [W 6]) (S [W 3]) (I 1):=Tk .n
theorem aTJ:Q3 149 (B false) (S [W 3]) (S [W 9]) (A [B false,S [W 1],S [W 3]]):=Tk (.c axI (.c aHX (.c aQY .n)))
theorem aTI:Q2 156 (A [B false,S [W 2],S [W 3]]) (A [B true,S [W 1],S [W 3]]) (A [B false,S [W 1],S [W 3]]):=Tk (.c avN (.c aH7 (.c axJ (.c axI (.c aR2 (.c aHZ (.c avM (.c aHY (.c aTK (.c aTJ .n))))))))))
theorem aTH:Ret VP (.fn 441) [.ptr 0 0 0 0,.d aHQ] [some (.rows 0 false 3 [[.d (I 3),.d (S [I 1]),.d (I 0)]])] (.d (U [I 0,I 0])) [some (.rows 0 false 3 [[.d (I 3),.d (S [I 1]),.d (I 1)]])]:=tb (n:=1000) (.c aQS (.c aQO (.c azW (.c aH4 (.c aQN (.c aHS (.c azO (.c aTI (.c azV .n))))))))) (by kernel_rfl)
theorem aTG:Ret VP (.fn 67) [.ptr 0 0 0 0,.d au7] [some (.rows 0 false 17 [[.d (I 0),.d (S [A [I 1,I 0,I 1]]),.d (S []),.d (S []),.d au7,.d (S [I 0]),.d (I 1),.d (I 0),.d (I 0),.d (I 0),.d (S []),.nils,.d (S [A [I 0,I 0,I 0,I 0,I 0,I 0,I 0,I 0,B false,S [W 1],S [W 1]]]),.ms 1 0 0 1,.d (I 1),.func 441 [.ptr 2 0 0 0] [],.d (I 0)]]),some (.rows 0 false 1 [[.d (I 0)]]),some (.rows 0 false 3 [[.d (I 3),.d (S [I 1]),.d (I 0)]])] (.d (B true)) [some (.rows 0 false 17 [[.d (I 0),.d (S [A [I 1,I 0,I 1]]),.d (S []),.d (S []),.d au7,.d (S [I 0]),.d (I 1),.d (I 0),.d (I 0),.d (I 0),.d (S []),.ms 3 0 0 1,.d au8,.ms 1 0 0 1,.d (I 1),.func 441 [.ptr 2 0 0 0] [],.d (I 0)]]),some (.rows 0 false 1 [[.d (I 0)]]),some (.rows 0 false 3 [[.d (I 3),.d (S [I 1]),.d (I 1)]]),some (.rows 0 false 2 [[.d (I 0),.d (I 0)]])]:=tb (n:=1000) (.c aTH (.c aHT (.c aR5 (.c axH (.c avN (.c avM (.c aH6 (.c aR3 .n)))))))) (by kernel_rfl)
theorem aTF:Q3 434 (A [I 0,S [A [I 1,I 0,I 1]],S [],S [],au7,S [I 0],I 1,I 0,I 0,I 0,S []]) (I 3) (S [I 1]) (U [A [S [A [I 0,I 0]],au8,S [I 0],I 1],I 1,I 0]):=Tk (.c aQP (.c aHV (.c aHT (.c aTG .n))))
theorem aTE:Q1 264 (A [B false,S [W 2],S [W 3]]) (A [B true,S [W 2],S [W 3]]):=Tk (.c avN .n)
theorem aQM:Q1 195 (A [B true,S [W 2],S [W 3]]) (A [B true,S [W 2],S [W 3]]):=Tk (.c aH7 (.c aI4 (.c axI (.c aR8 .n))))
theorem aTD:Q2 220 (S [W 6]) (S [W 6]) (I 0):=Tk .n
theorem aTC:Q2 156 (A [B false,S [W 2],S [W 3]]) (A [B true,S [W 2],S [W 3]]) (A [B false,S [],S [W 1]]):=Tk (.c avN (.c aQM (.c aHZ (.c aHY (.c aTD (.c aRA (.c aHX .n)))))))
theorem aTB:Q1 443 avK (A [B false,S [W 1],S [W 3]]):=Tk (.c aR0 (.c aH4 (.c aHU (.c azO (.c aH5 (.c aI0 (.c avM (.c aR1 .n))))))))
theorem aTA:Q2 220 (S [W 3]) (S [W 2]) (I 1):=Tk .n
theorem aT9:Q2 156 (A [B false,S [W 1],S [W 1]]) (A [B true,S [W 2],S [W 3]]) (A [B false,S [W 1],S [W 3]]):=Tk (.c axH (.c aQM (.c avM (.c aI2 (.c aTA (.c azW .n))))))
theorem aT8:Ret VP (.fn 441) [.ptr 0 0 0 0,.d aHQ] [some (.rows 0 false 3 [[.d (I 3),.d (S [I 2,I 0]),.d (I 0)]])] (.d (U [I 1,I 0])) [some (.rows 0 false 3 [[.d (I 3),.d (S [I 2,I 0]),.d (I 1)]])]:=tb (n:=1000) (.c aQO (.c aH6 (.c aH4 (.c aQN (.c aHS (.c aTE (.c aTC (.c aQR (.c aTB (.c aQX (.c aT9 (.c azV .n)))))))))))) (by kernel_rfl)
theorem aT7:Q2 110 (S [A [I 0,I 0,I 0,I 0,I 0,I 0,I 0,I 0,B false,S [W 1],S [W 1]]]) avK avK:=Tk (.c axH (.c azO (.c aI0 (.c avM (.c azW (.c azV (.c azX .n)))))))
theorem aT6:Q3 434 (A [I 0,S [A [I 1,I 0,I 1]],S [],S [],au7,S [I 0],I 1,I 0,I 0,I 0,S []]) (I 3) (S [I 2,I 0]) (U [A [S [A [I 0,I 1]],avK,S [I 1],I 1],I 1,I 0]):=Tk (.c aQP (.c aHV (.c aHT (.c aT8 (.c aQZ (.c aT7 .n))))))
theorem aT5:Q0 435 (B true):=Tk (.c aTV (.c aTF (.c aT6 .n)))
end Go.Proofs.YtemffeblbmimfaaGreat
namespace Go.Proofs.YtemffeblbmimfaaGreat
open Go.IntWalk
attribute [local irreducible] au
set_option maxHeartbeats 4000000
set_option maxRecDepth 100000
theorem oU (cs:List Ce) (l:List Cm) (b f:Nat) (hf:f≠0) (ts:List Nat):runX cs l (b*f) (ts.map fun t=>t*f)=runX cs l b ts:=by
 have h:(fun n=>mkRat (((ts.map fun t=>t*f).getD n 0:Nat):Int) (b*f))=fun n=>mkRat ((ts.getD n 0:Nat):Int) b:=by
  funext n
  have e:(ts.map fun t=>t*f).getD n 0=ts.getD n 0*f:=by
   rw [List.getD_eq_getElem?_getD,List.getD_eq_getElem?_getD,List.getElem?_map]
   cases ts[n]?<;>simp
  rw [e]
  push_cast
  exact Rat.mkRat_mul_right hf
 unfold runX
 rw [h]
theorem IK (F:Fix):InvX F (x0 F.cs):=⟨by simp [x0],by simp [x0],by simp [x0],by simp [x0],by simp [x0]⟩
theorem sS {cs:List Ce} {l:List Cm} {os:List Nat} {es:List Ce} (G:GoodM cs l os es) (b:Nat) (ts:List Nat) (hb:b<=1000) (hall : ∀ t∈ts,t < b) (h6:ts.length<=6) (ht:(Cm.tbs (Cm.nums l 0).1).length<=ts.length):(runX cs (Cm.nums l 0).1 b ts).ch.length<=6/\(runX cs (Cm.nums l 0).1 b ts).st.length=cs.length:=by
 have KF:FOK ⟨cs,(Cm.nums l 0).1.map Cm.d,os,dY es,b,ts⟩:=⟨G.hcs,hb,hall,h6⟩
 have I0:=IK ⟨cs,(Cm.nums l 0).1.map Cm.d,os,dY es,b,ts⟩
 have tk0:(x0 cs).tk=0:=rfl
 have A:=iU KF 4 (Cm.nums l 0).1 G.num.hl (x0 cs) I0 (by rw [tk0];show 0+_<=ts.length;omega)
 have h1:=A.inv.hch
 have h2:=A.inv.hst
 have h3:=A.hi
 rw [tk0] at h3
 refine ⟨?_,h2⟩
 have h4:(runX cs (Cm.nums l 0).1 b ts).ch.length=(runX cs (Cm.nums l 0).1 b ts).tk:=h1
 have h5:(runX cs (Cm.nums l 0).1 b ts).tk<=0+(Cm.tbs (Cm.nums l 0).1).length:=h3
 omega
theorem amD (l:List Int) (k:Nat) (hk:k < 256):Ret VP (.fn 432) [.d (.slice (l.map iD)),.d (.int .u8 k)] [] (.d (.bool true)) []:=by
 have hL:(l.take 1000).length<=1000:=by rw [List.length_take];omega
 have r1:=wl l
 generalize l.take 1000=L at hL r1
 obtain ⟨cs,bd,os,es,a1,s1,G,ht5,ha1,r2⟩:=kg L hL 0 (Nat.zero_le _)
 obtain ⟨x,a2,hx,ha2,r3⟩:=aT L hL 1 9 9 (by omega) (by omega) (by omega) (by omega) (by omega) a1 s1 ha1
 obtain ⟨ts,a3,hl6,hall,ha3,r4⟩:=tv L hL (x+1) (by omega) (by omega) a2 s1 ha2
 obtain ⟨f,hf⟩ : ∃ f,f=1+k%50:=⟨_,rfl⟩
 have hb:x+1<=9:=by omega
 have hf1:1<=f:=by omega
 have hf50:f<=50:=by omega
 have htn:(Cm.tbs (Cm.nums bd 0).1).length<=ts.length:=by rw [tbs_nums];omega
 have hbf:(x+1)*f<=450:=by
  calc (x+1)*f<=9*50:=Nat.mul_le_mul hb hf50
   _=450:=rfl
 have hbf1:1<=(x+1)*f:=Nat.mul_pos (by omega) (by omega)
 have r5:=jw G (x+1) ts (by omega) (by omega) hall (by omega) htn
 have r6:=jw G ((x+1)*f) (ts.map fun t=>t*f) hbf1 (by omega) (fun t h=>by
  obtain ⟨u,hu,rfl⟩:=List.mem_map.1 h
  exact Nat.mul_lt_mul_of_pos_right (hall u hu) (by omega)) (by rw [List.length_map];omega) (by rw [List.length_map];exact htn)
 rw [oU cs _ (x+1) f (by omega) ts] at r6
 obtain ⟨e1,e2⟩:=sS G (x+1) ts (by omega) hall (by omega) htn
 have hc4:=G.h4
 have r7:=Ic (runX cs (Cm.nums bd 0).1 (x+1) ts) (by omega) (by omega)
 generalize runX cs (Cm.nums bd 0).1 (x+1) ts=y at r5 r6 r7
 have r8:=aT5
 unfold sb at r3
 have hw:IntKind.i64.wrap ((1+(x:Int)) - 1)=((x+1 - 1:Nat):Int):=by rw [i64_in]<;>omega
 rw [<- hw] at r4
 rw [show ((x+1:Nat):Int)=1+(x:Int) by omega] at r5
 match ts,hl6 with
 | [t0,t1,t2,t3,t4,t5],_ =>
   have hk1:IntKind.i64.wrap (1+IntKind.i64.wrap ((k:Int).tmod 50))=(f:Int):=by
    have e0:(k:Int).tmod 50=((k%50:Nat):Int):=rfl
    rw [e0]
    have e1:IntKind.i64.wrap ((k%50:Nat):Int)=((k%50:Nat):Int):=by rw [i64_in]<;>omega
    rw [e1,i64_in]<;>omega
   have hm:IntKind.i64.wrap ((1+(x:Int))*IntKind.i64.wrap (1+IntKind.i64.wrap ((k:Int).tmod 50)))=(((x+1)*f:Nat):Int):=by
    rw [hk1,show (1+(x:Int))*(f:Int)=(((x+1)*f:Nat):Int) by push_cast;rw [Int.add_comm],i64_in]<;>omega
   have hp : ∀ t:Nat,t < x+1->IntKind.i64.wrap ((t:Int)*IntKind.i64.wrap (1+IntKind.i64.wrap ((k:Int).tmod 50)))=((t*f:Nat):Int):=by
    intro t h
    have h2:t*f<=9*50:=Nat.mul_le_mul (by omega) hf50
    rw [hk1,show (t:Int)*(f:Int)=((t*f:Nat):Int) by push_cast;rfl,i64_in]<;>omega
   have r6':Ret VP (.fn 434) [.d (moD 0 cs (Cm.nums bd 0).1 os (dY es)),.d (.int .i64 (IntKind.i64.wrap ((1+(x:Int))*IntKind.i64.wrap (1+IntKind.i64.wrap ((k:Int).tmod 50))))),.d (.slice [.int .i64 (IntKind.i64.wrap ((t0:Int)*IntKind.i64.wrap (1+IntKind.i64.wrap ((k:Int).tmod 50)))),.int .i64 (IntKind.i64.wrap ((t1:Int)*IntKind.i64.wrap (1+IntKind.i64.wrap ((k:Int).tmod 50)))),.int .i64 (IntKind.i64.wrap ((t2:Int)*IntKind.i64.wrap (1+IntKind.i64.wrap ((k:Int).tmod 50)))),.int .i64 (IntKind.i64.wrap ((t3:Int)*IntKind.i64.wrap (1+IntKind.i64.wrap ((k:Int).tmod 50)))),.int .i64 (IntKind.i64.wrap ((t4:Int)*IntKind.i64.wrap (1+IntKind.i64.wrap ((k:Int).tmod 50)))),.int .i64 (IntKind.i64.wrap ((t5:Int)*IntKind.i64.wrap (1+IntKind.i64.wrap ((k:Int).tmod 50))))])] [] (.d (.tuple [trD y,.int .i64 y.tk,.int .i64 0])) []:=by
    rw [hm,hp t0 (hall _ (by simp)),hp t1 (hall _ (by simp)),hp t2 (hall _ (by simp)),hp t3 (hall _ (by simp)),hp t4 (hall _ (by simp)),hp t5 (hall _ (by simp))]
    exact r6
   have ht:((y.tk:Int)==(y.tk:Int))=true:=by simp
   refine ret_of rfl rfl (r0 ?_)
   refine Z1 ?_
   refine af rfl ?_
   unfold ah
   refine Z2 ?_
   rfl
end Go.Proofs.YtemffeblbmimfaaGreat
