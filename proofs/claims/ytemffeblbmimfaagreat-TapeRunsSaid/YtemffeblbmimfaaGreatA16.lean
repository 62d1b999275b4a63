/- Calls and what they answer,one on top of the others: part 0. Printed by wip/tools/tab.py. -/
import Derived.Test.YtemffeblbmimfaaGreatA08
import Derived.Test.YtemffeblbmimfaaGreatA09
import Derived.Test.YtemffeblbmimfaaGreatA12
import Derived.Test.YtemffeblbmimfaaGreatA05
import Derived.KernelRfl
import Derived.Test.YtemffeblbmimfaaGreatA13
import Derived.Test.YtemffeblbmimfaaGreatA10
import Derived.Test.YtemffeblbmimfaaGreatA15
import Derived.Test.YtemffeblbmimfaaGreatA14
import Derived.Test.YtemffeblbmimfaaGreatA11
import Derived.Test.YtemffeblbmimfaaGreatA06
set_option linter.unusedSimpArgs false
set_option linter.unusedVariables false
set_option linter.unnecessarySimpa false
namespace Go.Proofs.YtemffeblbmimfaaGreat
set_option maxRecDepth 100000
theorem ud0:Q1 41 (I 1) (A [B false,S [W 1],S [W 1]]):=Tk .n
theorem ud1:Q2 114 (S [W 1]) (S [W 3]) (J 0):=Tk .n
theorem ud2:Q2 114 (S [W 3]) (S [W 1]) (I 1):=Tk .n
theorem ud3:Q2 72 (S [W 3]) (S [W 1]) (U [S [W 3],S [],I 0]):=Tk (.c ud2 .n)
theorem ud4:Q2 71 (S [W 1]) (S [W 3]) (S [W 1]):=Tk (.c ud1 (.c ud3 .n))
theorem ud5:Q2 72 (S [W 1]) (S [W 1]) (U [S [W 1],S [],I 0]):=Tk .n
theorem ud6:Q3 42 (B false) (S [W 1]) (S [W 3]) (A [B false,S [W 1],S [W 3]]):=Tk (.c ud4 (.c ud5 (.c ud3 .n)))
theorem ud7:Q1 121 (A [B false,S [W 1],S [W 3]]) (A [B false,S [W 1],S [W 3]]):=Tk (.c ud6 .n)
theorem ud8:Q2 71 (S [W 1]) (S [W 1]) (S [W 1]):=Tk (.c ud5 .n)
theorem ud9:Q1 121 (A [B false,S [W 1],S [W 1]]) (A [B false,S [W 1],S [W 1]]):=Tk (.c ud8 (.c ud5 .n))
theorem aRG:Q2 124 (S [W 1]) (S [W 1]) (S [W 1]):=Tk .n
theorem aRF:Q2 124 (S [W 3]) (S [W 1]) (S [W 3]):=Tk .n
theorem aRE:Q3 42 (B true) (S [W 1]) (S [W 3]) (A [B true,S [W 1],S [W 3]]):=Tk (.c ud4 (.c ud5 (.c ud3 .n)))
theorem aRD:Q1 121 (A [B true,S [W 1],S [W 3]]) (A [B true,S [W 1],S [W 3]]):=Tk (.c aRE .n)
theorem aRC:Q2 72 (S [W 2]) (S [W 1]) (U [S [W 2],S [],I 0]):=Tk .n
theorem aU0:Q2 71 (S [W 2]) (S [W 3]) (S [W 1]):=Tk (.c aRC .n)
theorem aRB:Q3 42 (B false) (S [W 2]) (S [W 3]) (A [B false,S [W 2],S [W 3]]):=Tk (.c aU0 (.c aRC (.c ud3 .n)))
theorem aTZ:Q1 121 (A [B false,S [W 2],S [W 3]]) (A [B false,S [W 2],S [W 3]]):=Tk (.c aRB .n)
def au8:D:=S [A [I 0,I 0,I 0,I 0,I 0,I 0,I 0,I 0,B false,S [W 2],S [W 3]]]
theorem aTY:Q2 73 (S [A [I 0,I 0,I 0,I 0,I 0,I 0,I 0,I 0,B false,S [W 1],S [W 1]]]) (A [I 0,I 0,I 0,I 0,I 0,I 0,I 0,I 0,B true,S [W 1],S [W 3]]) au8:=Tk (.c aRD (.c ud9 (.c aRG (.c aRF (.c ud1 (.c ud2 (.c aRB (.c aTZ .n))))))))
def avK:D:=S [A [I 0,I 0,I 0,I 0,I 0,I 0,I 0,I 0,B false,S [W 1],S [W 3]]]
theorem aTX:Q2 21 (S [A [I 0,I 0,I 0,I 0,I 0,I 0,I 0,I 0,B false,S [W 1],S [W 1]]]) avK au8:=Tk (.c ud7 (.c ud8 (.c ud5 (.c aRG (.c aRF (.c aRE (.c aRD (.c aTY .n))))))))
def aHR:D:=S [au8,avK]
def aQL:D:=A [I 1,I 0,I 0,aHR,B false,S [],S [],B false,S [],S []]
theorem aTW:Q2 7 (I 1) (I 3) aQL:=Tk (.c ud0 (.c ud6 (.c ud7 (.c ud9 (.c aTX .n)))))
def aHQ:D:=A [I 2,I 0,I 0,I 0,I 0,B false,S [],S [],S [],I 1,I 0,I 0,aHR,B false,S [],S [],B false,S [],S [],S [],S [],S [],S []]
def au7:D:=S [aHQ]
theorem aTV:Q1 438 (I 1) (A [I 0,S [A [I 1,I 0,I 1]],S [],S [],au7,S [I 0],I 1,I 0,I 0,I 0,S []]):=Tk (.c aTW .n)
theorem aTU:Q2 50 (S [A [S [A [I 1,I 0,I 1]],au7]]) (.func 51 [] []) (B false):=Tk .n
theorem aTT:Q2 97 (S [I 0]) (S [A [I 1,I 0,I 1]]) (B true):=Tk .n
theorem aRA:Q1 189 (S []) (S []):=Tk .n
theorem axJ:Q1 189 (S [W 1]) (S [W 1]):=Tk .n
theorem aH8:Q3 149 (B false) (S []) (S [W 1]) (A [B false,S [],S [W 1]]):=Tk (.c aRA (.c axJ .n))
theorem aR9:Q1 195 (A [B false,S [],S []]) (A [B false,S [],S [W 1]]):=Tk (.c aH8 .n)
theorem aH7:Q1 223 (S [W 3]) (B false):=Tk .n
theorem aI4:Q1 189 (S [W 2]) (S [W 2]):=Tk .n
theorem axI:Q1 189 (S [W 3]) (S [W 3]):=Tk .n
theorem aI3:Q1 219 (.int .u64 1) (S [W 1]):=Tk .n
theorem aR8:Q2 190 (S [W 2]) (S [W 3]) (S [W 1]):=Tk (.c aI4 (.c axI (.c aI3 .n)))
theorem aH6:Q3 149 (B false) (S [W 2]) (S [W 3]) (A [B false,S [W 2],S [W 3]]):=Tk (.c aI4 (.c axI (.c aR8 .n)))
theorem avN:Q1 195 (A [B false,S [W 2],S [W 3]]) (A [B false,S [W 2],S [W 3]]):=Tk (.c aH7 (.c aH6 .n))
theorem aH5:Q2 196 (S []) (S [W 3]) (S []):=Tk .n
theorem aI2:Q2 196 (S [W 2]) (S [W 1]) (S [W 2]):=Tk .n
theorem avM:Q2 196 (S [W 1]) (S [W 3]) (S [W 3]):=Tk .n
theorem aR7:Q5 198 (B false) (S []) (B false) (S [W 2]) (S [W 3]) (A [B false,S [W 2],S [W 3]]):=Tk (.c aH6 .n)
theorem aI1:Q1 157 (A [B false,S [W 2],S [W 3]]) (I 1):=Tk (.c avN .n)
theorem azX:Q1 200 (.int .u64 1) (I 1):=Tk .n
theorem aR6:Q1 112 au8 au8:=Tk (.c aR9 (.c avN (.c aH5 (.c aI2 (.c avM (.c aR7 (.c aI1 (.c azX .n))))))))
theorem aR5:Q1 68 au8 (U [au8,I 0]):=Tk (.c aR6 .n)
theorem aR4:Q1 185 (A [B false,S [W 2],S [W 3]]) (A [B false,S [W 2],S [W 3]]):=Tk (.c avN .n)
theorem aR3:Q1 147 au8 au8:=Tk (.c aR4 (.c aI1 (.c azX .n)))
theorem aR2:Q2 190 (S [W 1]) (S [W 3]) (S [W 1]):=Tk (.c axJ (.c axI (.c aI3 .n)))
theorem azW:Q3 149 (B false) (S [W 1]) (S [W 3]) (A [B false,S [W 1],S [W 3]]):=Tk (.c axJ (.c axI (.c aR2 .n)))
theorem azO:Q1 195 (A [B false,S [W 1],S [W 3]]) (A [B false,S [W 1],S [W 3]]):=Tk (.c aH7 (.c azW .n))
theorem aI0:Q2 196 (S [W 1]) (S [W 1]) (S [W 1]):=Tk .n
theorem aR1:Q5 198 (B false) (S []) (B false) (S [W 1]) (S [W 3]) (A [B false,S [W 1],S [W 3]]):=Tk (.c azW .n)
theorem azV:Q1 157 (A [B false,S [W 1],S [W 3]]) (I 1):=Tk (.c azO .n)
theorem aR0:Q1 112 avK avK:=Tk (.c aR9 (.c azO (.c aH5 (.c aI0 (.c avM (.c aR1 (.c azV (.c azX .n))))))))
theorem aQZ:Q1 68 avK (U [avK,I 0]):=Tk (.c aR0 .n)
theorem aHZ:Q2 196 (S [W 2]) (S [W 3]) (S [W 6]):=Tk .n
theorem aHY:Q2 196 (S [W 3]) (S [W 3]) (S [W 9]):=Tk .n
theorem aHX:Q1 189 (S [W 9]) (S [W 9]):=Tk .n
theorem aQY:Q1 219 (.int .u64 0) (S []):=Tk .n
theorem aTS:Q5 198 (B false) (S [W 6]) (B false) (S [W 3]) (S [W 9]) (A [B false,S [W 1],S [W 1]]):=Tk (.c aHX (.c aQY .n))
theorem aQX:Q2 156 (A [B false,S [W 2],S [W 3]]) (A [B false,S [W 1],S [W 3]]) (A [B false,S [W 1],S [W 1]]):=Tk (.c avN (.c azO (.c aHZ (.c avM (.c aHY (.c aTS .n))))))
theorem aHW:Q1 223 (S [W 1]) (B false):=Tk .n
theorem aQW:Q2 190 (S [W 1]) (S [W 1]) (S [W 1]):=Tk (.c axJ (.c aI3 .n))
theorem aQV:Q3 149 (B false) (S [W 1]) (S [W 1]) (A [B false,S [W 1],S [W 1]]):=Tk (.c axJ (.c aQW .n))
theorem axH:Q1 195 (A [B false,S [W 1],S [W 1]]) (A [B false,S [W 1],S [W 1]]):=Tk (.c aHW (.c aQV .n))
theorem aQU:Ret VP (.fn 186) [.ms 0 1 0 1,.d (.func 187 [] [])] [some (.rows 1 false 11 [[.d (I 0),.d (I 0),.d (I 0),.d (I 0),.d (I 0),.d (I 0),.d (I 0),.d (I 0),.d (B false),.d (S [W 1]),.d (S [W 1])]])] (.ms 0 1 0 1) [some (.rows 1 false 11 [[.d (I 0),.d (I 0),.d (I 0),.d (I 0),.d (I 0),.d (I 0),.d (I 0),.d (I 0),.d (B false),.d (S [W 1]),.d (S [W 1])]])]:=tb (n:=1000) (.c axH .n) (by kernel_rfl)
theorem aQT:Ret VP (.fn 158) [.ms 0 1 0 1,.d (.func 188 [A [I 8]] [])] [some (.rows 1 false 11 [[.d (I 0),.d (I 0),.d (I 0),.d (I 0),.d (I 0),.d (I 0),.d (I 0),.d (I 0),.d (B false),.d (S [W 1]),.d (S [W 1])]])] (.d (U [])) [some (.rows 1 false 11 [[.d (I 0),.d (I 0),.d (I 0),.d (I 0),.d (I 0),.d (I 0),.d (I 0),.d (I 0),.d (B false),.d (S [W 1]),.d (S [W 1])]])]:=tb (n:=1000) (.c azX .n) (by kernel_rfl)
theorem aQS:Q1 148 (I 1) (U [B false,S [W 1]]):=Tk .n
theorem aHV:Q1 65 (I 1) (S [A [I 0,I 0,I 0,I 0,I 0,I 0,I 0,I 0,B false,S [W 1],S [W 1]]]):=Tk (.c aQS (.c aQV (.c axH (.c aQU (.c aQT .n)))))
theorem aTR:Q2 220 (S [W 1]) (S [W 1]) (I 0):=Tk .n
theorem aTQ:Q2 156 (A [B false,S [W 1],S [W 1]]) (A [B true,S [W 1],S [W 1]]) (A [B false,S [],S [W 1]]):=Tk (.c axH (.c aHW (.c axJ (.c aQW (.c aTR (.c aH8 .n))))))
theorem aHU:Q1 195 (A [B false,S [],S [W 1]]) (A [B false,S [],S [W 1]]):=Tk (.c aHW (.c aH8 .n))
theorem aQR:Q1 157 (A [B false,S [],S [W 1]]) (I 0):=Tk (.c aHU .n)
theorem aTP:Q2 213 (A [I 0,S [A [I 1,I 0,I 1]],S [],I 0,B true]) aHR (B true):=Tk (.c aR5 (.c aI1 (.c aR3 (.c aQZ (.c azV (.c aR4 (.c aQX (.c aQU (.c aQT (.c aHV (.c axH (.c aTQ (.c aQR .n)))))))))))))
theorem aTO:Q1 56 (A [I 0,S [A [I 1,I 0,I 1]],S [],S [],au7,S [I 0],I 1,I 0,I 0,I 0,S []]) (B true):=Tk (.c aTT (.c aTP .n))
theorem aQQ:Q1 29 (A [I 0,S [A [I 1,I 0,I 1]],S [],S [],au7,S [I 0],I 1,I 0,I 0,I 0,S []]) (I 0):=Tk (.c aTU (.c aTO .n))
theorem aTN:Q1 30 (A [I 0,S [A [I 1,I 0,I 1]],S [],S [],au7,S [I 0],I 1,I 0,I 0,I 0,S []]) (U [S [aQL],I 0]):=Tk (.c aQQ .n)
theorem aTM:Q2 64 (S []) (.func 63 [] []) (B false):=Tk .n
theorem aTL:Q1 16 (A [I 0,S [A [I 1,I 0,I 1]],S [],S [],au7,S [I 0],I 1,I 0,I 0,I 0,S []]) (I 0):=Tk (.c aQQ (.c aTN (.c aTM .n)))
theorem aQP:Q2 436 (A [I 0,S [A [I 1,I 0,I 1]],S [],S [],au7,S [I 0],I 1,I 0,I 0,I 0,S []]) (I 3) (I 0):=Tk (.c aTL .n)
theorem aHT:Q2 66 (A [I 1,I 0,I 1]) (I 0) (I 0):=Tk .n
theorem aQO:Q1 148 (I 3) (U [B false,S [W 3]]):=Tk .n
theorem aH4:Q1 107 (I 0) (A [B false,S [],S [W 1]]):=Tk (.c aH8 .n)
theorem aHS:Q2 156 (A [B false,S [],S [W 1]]) (A [B false,S [W 2],S [W 3]]) (A [B false,S [W 2],S [W 3]]):=Tk (.c aHU (.c avN (.c aH5 (.c aI2 (.c avM (.c aR7 .n))))))
theorem aQN:Q1 443 au8 (A [B false,S [W 2],S [W 3]]):=Tk (.c aR6 (.c aH4 (.c aHS .n)))
theorem aTK:Q2 220 (S [W 6]) (S [W 3]) (I 1):=Tk .n
theorem aTJ:Q3 149 (B false) (S [W 3]) (S [W 9]) (A [B false,S [W 1],S [W 3]]):=Tk (.c axI (.c aHX (.c aQY .n)))
theorem aTI:Q2 156 (A [B false,S [W 2],S [W 3]]) (A [B true,S [W 1],S [W 3]]) (A [B false,S [W 1],S [W 3]]):=Tk (.c avN (.c aH7 (.c axJ (.c axI (.c aR2 (.c aHZ (.c avM (.c aHY (.c aTK (.c aTJ .n))))))))))
theorem aTH:Ret VP (.fn 441) [.ptr 0 0 0 0,.d aHQ] [some (.rows 0 false 3 [[.d (I 3),.d (S [I 1]),.d (I 0)]])] (.d (U [I 0,I 0])) [some (.rows 0 false 3 [[.d (I 3),.d (S [I 1]),.d (I 1)]])]:=tb (n:=1000) (.c aQS (.c aQO (.c azW (.c aH4 (.c aQN (.c aHS (.c azO (.c aTI (.c azV .n))))))))) (by kernel_rfl)
theorem aTG:Ret VP (.fn 67) [.ptr 0 0 0 0,.d au7] [some (.rows 0 false 17 [[.d (I 0),.d (S [A [I 1,I 0,I 1]]),.d (S []),.d (S []),.d au7,.d (S [I 0]),.d (I 1),.d (I 0),.d (I 0),.d (I 0),.d (S []),.nils,.d (S [A [I 0,I 0,I 0,I 0,I 0,I 0,I 0,I 0,B false,S [W 1],S [W 1]]]),.ms 1 0 0 1,.d (I 1),.func 441 [.ptr 2 0 0 0] [],.d (I 0)]]),some (.rows 0 false 1 [[.d (I 0)]]),some (.rows 0 false 3 [[.d (I 3),.d (S [I 1]),.d (I 0)]])] (.d (B true)) [some (.rows 0 false 17 [[.d (I 0),.d (S [A [I 1,I 0,I 1]]),.d (S []),.d (S []),.d au7,.d (S [I 0]),.d (I 1),.d (I 0),.d (I 0),.d (I 0),.d (S []),.ms 3 0 0 1,.d au8,.ms 1 0 0 1,.d (I 1),.func 441 [.ptr 2 0 0 0] [],.d (I 0)]]),some (.rows 0 false 1 [[.d (I 0)]]),some (.rows 0 false 3 [[.d (I 3),.d (S [I 1]),.d (I 1)]]),some (.rows 0 false 2 [[.d (I 0),.d (I 0)]])]:=tb (n:=1000) (.c aTH (.c aHT (.c aR5 (.c axH (.c avN (.c avM (.c aH6 (.c aR3 .n)))))))) (by kernel_rfl)
theorem aTF:Q3 434 (A [I 0,S [A [I 1,I 0,I 1]],S [],S [],au7,S [I 0],I 1,I 0,I 0,I 0,S []]) (I 3) (S [I 1]) (U [A [S [A [I 0,I 0]],au8,S [I 0],I 1],I 1,I 0]):=Tk (.c aQP (.c aHV (.c aHT (.c aTG .n))))
theorem aTE:Q1 264 (A [B false,S [W 2],S [W 3]]) (A [B true,S [W 2],S [W 3]]):=Tk (.c avN .n)
theorem aQM:Q1 195 (A [B true,S [W 2],S [W 3]]) (A [B true,S [W 2],S [W 3]]):=Tk (.c aH7 (.c aI4 (.c axI (.c aR8 .n))))
theorem aTD:Q2 220 (S [W 6]) (S [W 6]) (I 0):=Tk .n
theorem aTC:Q2 156 (A [B false,S [W 2],S [W 3]]) (A [B true,S [W 2],S [W 3]]) (A [B false,S [],S [W 1]]):=Tk (.c avN (.c aQM (.c aHZ (.c aHY (.c aTD (.c aRA (.c aHX .n)))))))
theorem aTB:Q1 443 avK (A [B false,S [W 1],S [W 3]]):=Tk (.c aR0 (.c aH4 (.c aHU (.c azO (.c aH5 (.c aI0 (.c avM (.c aR1 .n))))))))
theorem aTA:Q2 220 (S [W 3]) (S [W 2]) (I 1):=Tk .n
theorem aT9:Q2 156 (A [B false,S [W 1],S [W 1]]) (A [B true,S [W 2],S [W 3]]) (A [B false,S [W 1],S [W 3]]):=Tk (.c axH (.c aQM (.c avM (.c aI2 (.c aTA (.c azW .n))))))
theorem aT8:Ret VP (.fn 441) [.ptr 0 0 0 0,.d aHQ] [some (.rows 0 false 3 [[.d (I 3),.d (S [I 2,I 0]),.d (I 0)]])] (.d (U [I 1,I 0])) [some (.rows 0 false 3 [[.d (I 3),.d (S [I 2,I 0]),.d (I 1)]])]:=tb (n:=1000) (.c aQO (.c aH6 (.c aH4 (.c aQN (.c aHS (.c aTE (.c aTC (.c aQR (.c aTB (.c aQX (.c aT9 (.c azV .n)))))))))))) (by kernel_rfl)
theorem aT7:Q2 110 (S [A [I 0,I 0,I 0,I 0,I 0,I 0,I 0,I 0,B false,S [W 1],S [W 1]]]) avK avK:=Tk (.c axH (.c azO (.c aI0 (.c avM (.c azW (.c azV (.c azX .n)))))))
theorem aT6:Q3 434 (A [I 0,S [A [I 1,I 0,I 1]],S [],S [],au7,S [I 0],I 1,I 0,I 0,I 0,S []]) (I 3) (S [I 2,I 0]) (U [A [S [A [I 0,I 1]],avK,S [I 1],I 1],I 1,I 0]):=Tk (.c aQP (.c aHV (.c aHT (.c aT8 (.c aQZ (.c aT7 .n))))))
theorem aT5:Q0 435 (B true):=Tk (.c aTV (.c aTF (.c aT6 .n)))
end Go.Proofs.YtemffeblbmimfaaGreat
namespace Go.Proofs.YtemffeblbmimfaaGreat
open Go.IntWalk
attribute [local irreducible] au
set_option maxHeartbeats 4000000
set_option maxRecDepth 100000
def nDq0 (n:Nat):List D:=if n=0 then [] else [W n]
abbrev qd (p:Nat×Nat):D := .agg [.bool false,.slice (nDq0 p.1),.slice [W p.2]]
def sgN (s x:Nat×Nat):Int:=if x.1*s.2 < s.1*x.2 then 1 else if s.1*x.2 < x.1*s.2 then -1 else 0
def redQ (t b:Nat):Nat×Nat:=(t/Nat.gcd t b,b/Nat.gcd t b)
def Lqb (p:Nat×Nat):Bool:=decide (p.1<=99)&&decide (p.2<=99)&&decide (0 < p.2)&&decide (Nat.gcd p.1 p.2=1)
theorem tEq0:Ret VP (.fn 113) [.d (.slice [])] [] (.d (.slice [])) []:=by
 refine ret_of rfl rfl (r0 ?_)
 refine Z2 ?_
 rfl
theorem tNq0 (z:Int) (h:z≠0):Ret VP (.fn 113) [.d (.slice [.int .u32 z])] [] (.d (.slice [.int .u32 z])) []:=by
 have t:(z==0)=false:=by simp [h]
 refine ret_of rfl rfl (r0 ?_)
 refine Z2 ?_
 rfl
theorem tZq0:Ret VP (.fn 113) [.d (.slice [.int .u32 0])] [] (.d (.slice [])) []:=by
 refine ret_of rfl rfl (r0 ?_)
 refine Z2 ?_
 rfl
theorem tN2 (z y:Int) (h:z≠0) (hy:y=0):Ret VP (.fn 113) [.d (.slice [.int .u32 z,.int .u32 y])] [] (.d (.slice [.int .u32 z])) []:=by
 subst hy
 have t:(z==0)=false:=by simp [h]
 refine ret_of rfl rfl (r0 ?_)
 refine Z2 ?_
 rfl
theorem tZ2:Ret VP (.fn 113) [.d (.slice [.int .u32 0,.int .u32 0])] [] (.d (.slice [])) []:=by
 refine ret_of rfl rfl (r0 ?_)
 refine Z2 ?_
 rfl
theorem tN3 (z:Int) (h:z≠0):Ret VP (.fn 113) [.d (.slice [.int .u32 z,.int .u32 0,.int .u32 0])] [] (.d (.slice [.int .u32 z])) []:=by
 have t:(z==0)=false:=by simp [h]
 refine ret_of rfl rfl (r0 ?_)
 refine Z2 ?_
 rfl
theorem t7E:Ret VP (.fn 270) [.d (.slice [])] [] .emp []:=by
 refine fJ (x := .nils) (y := .nils) rfl rfl (r0 ?_) (r0 ?_) rfl
 · refine Z2 ?_
   rfl
 · refine Z2 ?_
   rfl
theorem t7N (z:Int) (h:z≠0):Ret VP (.fn 270) [.d (.slice [.int .u32 z])] [] (.ms 0 0 0 1) [some (.rows 0 false 1 [[.d (.int .u32 z)]])]:=by
 have t:(z==0)=false:=by simp [h]
 refine cN rfl (fun rest hh=>by simp at hh) (r0 ?_)
 refine Z2 ?_
 rfl
theorem w64 {a:Nat} (h:a < 4294967296):IntKind.u64.wrap (Int.ofNat a)=(a:Int):=bn (by omega)
theorem a4U {a:Nat} (h:a < 4294967296):(a:Int).fdiv (2 ^ min (Int.toNat 32) IntKind.u64.bits)=0:=by
 have e:((2:Int) ^ min (Int.toNat 32) IntKind.u64.bits)=((4294967296:Nat):Int):=by decide
 rw [e,hW,Nat.div_eq_of_lt h];rfl
abbrev x64 (a b:Nat):Int:=IntKind.u64.wrap (IntKind.u64.wrap (IntKind.u64.wrap (IntKind.u64.wrap (Int.ofNat a)*IntKind.u64.wrap (Int.ofNat b))+IntKind.u64.wrap 0)+0)
theorem a4T {a b:Nat} (ha:a < 4294967296) (hb:b < 4294967296) (h:a*b < 4294967296):x64 a b=((a*b:Nat):Int):=by
 have e:IntKind.u64.wrap 0=0:=by decide
 unfold x64
 rw [w64 ha,w64 hb,<- Int.natCast_mul,e,bn (x:=a*b) (by omega)]
 simp only [Int.add_zero,bn (x:=a*b) (by omega)]
theorem mNq0 (a b:Nat) (ha:0 < a) (hb:0 < b) (ha2:a < 4294967296) (hb2:b < 4294967296) (h:a*b < 4294967296):Ret VP (.fn 124) [.d (.slice [W a]),.d (.slice [W b])] [] (.d (.slice [W (a*b)])) []:=by
 have hx:=a4T ha2 hb2 h
 have hp:0 < a*b:=Nat.mul_pos ha hb
 have tc:decide ((x64 a b).fdiv (2 ^ min (Int.toNat 32) IntKind.u64.bits) > 0)=false:=by rw [hx,a4U h];rfl
 have hu:IntKind.u32.wrap (x64 a b)=Int.ofNat (a*b):=by rw [hx];exact jo h
 have h3:=tN3 (IntKind.u32.wrap (x64 a b)) (by rw [hu];simp;omega)
 refine ret_of rfl rfl (r0 ?_)
 refine Z2 ?_
 refine fe rfl ?_ rfl
 rw [hu]
theorem mEq0 (b:Nat):Ret VP (.fn 124) [.d (.slice []),.d (.slice [W b])] [] (.d (.slice [])) []:=by
 have h3:=tZ2
 refine ret_of rfl rfl (r0 ?_)
 refine Z2 ?_
 rfl
abbrev s64 (a b:Nat):Int:=IntKind.u64.wrap (IntKind.u64.wrap (0+IntKind.u64.wrap (Int.ofNat a))+IntKind.u64.wrap (Int.ofNat b))
theorem aNNq0 (a b:Nat) (ha:0 < a) (ha2:a < 4294967296) (hb2:b < 4294967296) (h:a+b < 4294967296):Ret VP (.fn 70) [.d (.slice [W a]),.d (.slice [W b])] [] (.d (.slice [W (a+b)])) []:=by
 have hx:s64 a b=((a+b:Nat):Int):=by
  unfold s64
  rw [w64 ha2,w64 hb2,Int.zero_add,bn (x:=a) (by omega),<- Int.natCast_add,bn (x:=a+b) (by omega)]
 have hu:IntKind.u32.wrap (s64 a b)=Int.ofNat (a+b):=by rw [hx];exact jo h
 have h3:=tN2 (IntKind.u32.wrap (s64 a b)) (IntKind.u32.wrap ((s64 a b).fdiv (2 ^ min (Int.toNat 32) IntKind.u64.bits))) (by rw [hu];simp;omega) (by rw [hx,a4U h];rfl)
 refine ret_of rfl rfl (r0 ?_)
 refine Z2 ?_
 refine fe rfl ?_ rfl
 rw [hu]
theorem cLT (a b:Nat) (ha:0 < a) (h:a < b):Ret VP (.fn 114) [.d (.slice [W a]),.d (.slice [W b])] [] (.d (.int .i64 (-1))) []:=by
 have ta:=tNq0 (Int.ofNat a) (by simp;omega)
 have tb:=tNq0 (Int.ofNat b) (by simp;omega)
 have t1:decide (Int.ofNat a < Int.ofNat b)=true:=decide_eq_true (by simp;omega)
 refine ret_of rfl rfl (r0 ?_)
 refine Z2 ?_
 rfl
theorem cGT (a b:Nat) (hb:0 < b) (h:b < a):Ret VP (.fn 114) [.d (.slice [W a]),.d (.slice [W b])] [] (.d (.int .i64 1)) []:=by
 have ta:=tNq0 (Int.ofNat a) (by simp;omega)
 have tb:=tNq0 (Int.ofNat b) (by simp;omega)
 have t1:decide (Int.ofNat a < Int.ofNat b)=false:=decide_eq_false (by simp;omega)
 have t2:decide (Int.ofNat a > Int.ofNat b)=true:=decide_eq_true (by simp;omega)
 refine ret_of rfl rfl (r0 ?_)
 refine Z2 ?_
 rfl
theorem cEQ (a:Nat) (ha:0 < a):Ret VP (.fn 114) [.d (.slice [W a]),.d (.slice [W a])] [] (.d (.int .i64 0)) []:=by
 have ta:=tNq0 (Int.ofNat a) (by simp;omega)
 have t1:decide (Int.ofNat a < Int.ofNat a)=false:=decide_eq_false (by simp)
 have t2:decide (Int.ofNat a > Int.ofNat a)=false:=decide_eq_false (by simp)
 refine ret_of rfl rfl (r0 ?_)
 refine Z2 ?_
 rfl
theorem cEN (b:Nat) (hb:0 < b):Ret VP (.fn 114) [.d (.slice []),.d (.slice [W b])] [] (.d (.int .i64 (-1))) []:=by
 have ta:=tEq0
 have tb:=tNq0 (Int.ofNat b) (by simp;omega)
 refine ret_of rfl rfl (r0 ?_)
 refine Z2 ?_
 rfl
theorem cNE (a:Nat) (ha:0 < a):Ret VP (.fn 114) [.d (.slice [W a]),.d (.slice [])] [] (.d (.int .i64 1)) []:=by
 have ta:=tNq0 (Int.ofNat a) (by simp;omega)
 have tb:=tEq0
 refine ret_of rfl rfl (r0 ?_)
 refine Z2 ?_
 rfl
theorem t7Z (z:Int) (h:z=0):Ret VP (.fn 270) [.d (.slice [.int .u32 z])] [] .nils []:=by
 subst h
 refine cN rfl (fun rest hh=>by simp at hh) (r0 ?_)
 refine Z2 ?_
 rfl
abbrev d64 (y:Nat):Int:=IntKind.u64.wrap (0+IntKind.u64.wrap (Int.ofNat y))
abbrev z64 (x y:Nat):Int:=IntKind.u32.wrap (IntKind.u64.wrap (IntKind.u64.wrap (Int.ofNat x) - d64 y))
theorem a4L {y:Nat} (h:y < 4294967296):d64 y=(y:Int):=by
 unfold d64;rw [w64 h,Int.zero_add,bn (by omega)]
theorem a4O {x y:Nat} (hx:x < 4294967296) (hy:y < 4294967296) (h:y<=x):z64 x y=Int.ofNat (x - y):=by
 unfold z64;rw [w64 hx,a4L hy,show (x:Int) - (y:Int)=((x - y:Nat):Int) by omega,bn (by omega)]
 exact jo (by omega)
theorem sLT (x y:Nat) (h0:0 < x) (h:x < y):Ret VP (.fn 160) [.d (.slice [W x]),.d (.slice [W y])] [] (.d (.tuple [.slice [],.int .i64 1])) []:=by
 have c:=cLT x y h0 h
 refine ret_of rfl rfl (r0 ?_)
 refine Z2 ?_
 rfl
theorem sE1 (y:Nat) (h:0 < y):Ret VP (.fn 160) [.d (.slice []),.d (.slice [W y])] [] (.d (.tuple [.slice [],.int .i64 1])) []:=by
 have c:=cEN y h
 refine ret_of rfl rfl (r0 ?_)
 refine Z2 ?_
 rfl
theorem sGT (x y:Nat) (h0:0 < y) (h:y < x) (hx:x < 4294967296):Ret VP (.fn 160) [.d (.slice [W x]),.d (.slice [W y])] [] (.d (.tuple [.slice [W (x - y)],.int .i64 0])) []:=by
 have c:=cGT x y h0 h
 have t1:=t7N (Int.ofNat x) (by simp;omega)
 have t2:=t7N (Int.ofNat y) (by simp;omega)
 have hz:=a4O hx (y:=y) (by omega) (by omega)
 have t3:=t7N (z64 x y) (by rw [hz];simp;omega)
 have tc:decide (IntKind.u64.wrap (Int.ofNat x) < d64 y)=false:=by rw [w64 hx,a4L (by omega)];exact decide_eq_false (by omega)
 refine ret_of rfl rfl (r0 ?_)
 refine Z2 ?_
 refine fe rfl ?_ rfl
 rw [hz];rfl
theorem sEQ (x:Nat) (h0:0 < x) (hx:x < 4294967296):Ret VP (.fn 160) [.d (.slice [W x]),.d (.slice [W x])] [] (.d (.tuple [.slice [],.int .i64 0])) []:=by
 have c:=cEQ x h0
 have t1:=t7N (Int.ofNat x) (by simp;omega)
 have hz:=a4O hx hx (Nat.le_refl x)
 have t3:=t7Z (z64 x x) (by rw [hz];simp)
 have tc:decide (IntKind.u64.wrap (Int.ofNat x) < d64 x)=false:=by rw [w64 hx,a4L hx];exact decide_eq_false (by omega)
 refine ret_of rfl rfl (r0 ?_)
 refine Z2 ?_
 rfl
abbrev y64 (x:Nat):Int:=IntKind.u32.wrap (IntKind.u64.wrap (IntKind.u64.wrap (Int.ofNat x) - 0))
theorem sE2 (x:Nat) (h0:0 < x) (hx:x < 4294967296):Ret VP (.fn 160) [.d (.slice [W x]),.d (.slice [])] [] (.d (.tuple [.slice [W x],.int .i64 0])) []:=by
 have c:=cNE x h0
 have t1:=t7N (Int.ofNat x) (by simp;omega)
 have t2:=t7E
 have hz:y64 x=Int.ofNat x:=by unfold y64;rw [w64 hx,Int.sub_zero,bn (by omega)];exact jo hx
 have t3:=t7N (y64 x) (by rw [hz];simp;omega)
 have tc:decide (IntKind.u64.wrap (Int.ofNat x) < 0)=false:=by rw [w64 hx];exact decide_eq_false (by omega)
 refine ret_of rfl rfl (r0 ?_)
 refine Z2 ?_
 refine fe rfl ?_ rfl
 rw [hz];rfl
abbrev r64 (a:Nat):Int:=IntKind.u64.wrap ((BitVec.ofInt IntKind.u64.bits (IntKind.u64.wrap (0*2 ^ min (Int.toNat 32) IntKind.u64.bits)) ||| BitVec.ofInt IntKind.u64.bits (IntKind.u64.wrap (Int.ofNat a))).toNat:Int)
theorem a4P {a:Nat} (h:a < 4294967296):r64 a=(a:Int):=by
 have e:IntKind.u64.wrap (0*2 ^ min (Int.toNat 32) IntKind.u64.bits)=((0:Nat):Int):=by decide
 unfold r64;rw [e,w64 h,aa9 (by omega) (by omega),Nat.zero_or,bn (by omega)]
theorem sh1 (a b:Nat) (hb:0 < b) (hab:b<=a) (ha:a < 4294967296):Ret VP (.fn 115) [.d (.slice [W a]),.d (W b)] [] (.d (.tuple [.slice [W (a/b)],W (a%b)])) []:=by
 have hq:IntKind.u64.wrap (Int.ofNat b)≠0:=by rw [w64 (by omega)];omega
 have hd:=Nat.div_le_self a b
 have hm:=Nat.mod_le a b
 have hp:0 < a/b:=Nat.div_pos hab hb
 have e1:IntKind.u32.wrap (IntKind.u64.wrap ((r64 a).tdiv (IntKind.u64.wrap (Int.ofNat b))))=Int.ofNat (a/b):=by
  rw [a4P ha,w64 (by omega),show ((a:Int).tdiv (b:Int))=((a/b:Nat):Int) from rfl,bn (by omega)]
  exact jo (by omega)
 have e2:IntKind.u32.wrap ((r64 a).tmod (IntKind.u64.wrap (Int.ofNat b)))=Int.ofNat (a%b):=by
  rw [a4P ha,w64 (by omega),show ((a:Int).tmod (b:Int))=((a%b:Nat):Int) from rfl]
  exact jo (by omega)
 have t3:=tNq0 (IntKind.u32.wrap (IntKind.u64.wrap ((r64 a).tdiv (IntKind.u64.wrap (Int.ofNat b))))) (by rw [e1];simp;omega)
 refine ret_of rfl rfl (r0 ?_)
 refine Z2 ?_
 refine fe rfl ?_ rfl
 rw [e1,e2]
theorem dEq0 (b:Nat) (hb:0 < b):Ret VP (.fn 72) [.d (.slice []),.d (.slice [W b])] [] (.d (.tuple [.slice [],.slice [],.int .i64 0])) []:=by
 have t1:=tEq0
 have t2:=tNq0 (Int.ofNat b) (by simp;omega)
 have c:=cEN b hb
 refine ret_of rfl rfl (r0 ?_)
 refine Z2 ?_
 rfl
theorem dLT (a b:Nat) (ha:0 < a) (h:a < b):Ret VP (.fn 72) [.d (.slice [W a]),.d (.slice [W b])] [] (.d (.tuple [.slice [],.slice [W a],.int .i64 0])) []:=by
 have t1:=tNq0 (Int.ofNat a) (by simp;omega)
 have t2:=tNq0 (Int.ofNat b) (by simp;omega)
 have c:=cLT a b ha h
 refine ret_of rfl rfl (r0 ?_)
 refine Z2 ?_
 rfl
theorem dGE (a b:Nat) (hb:0 < b) (h:b<=a) (ha:a < 4294967296):Ret VP (.fn 72) [.d (.slice [W a]),.d (.slice [W b])] [] (.d (.tuple [.slice [W (a/b)],.slice (nDq0 (a%b)),.int .i64 0])) []:=by
 have t1:=tNq0 (Int.ofNat a) (by simp;omega)
 have t2:=tNq0 (Int.ofNat b) (by simp;omega)
 have s:=sh1 a b hb h ha
 have hc : ∃ x:Int,Ret VP (.fn 114) [.d (.slice [W a]),.d (.slice [W b])] [] (.d (.int .i64 x)) []/\decide (x < 0)=false:=by
  rcases Nat.lt_or_ge b a with h1 | h1
  · exact ⟨_,cGT a b hb h1,rfl⟩
  · have e:a=b:=by omega
    subst e
    exact ⟨_,cEQ a hb,rfl⟩
 obtain ⟨x,c,tc⟩:=hc
 have t3:Ret VP (.fn 113) [.d (.slice [W (a%b)])] [] (.d (.slice (nDq0 (a%b)))) []:=by
  unfold nDq0
  split
  · rename_i h0;rw [h0];exact tZq0
  · exact tNq0 _ (by simp;omega)
 refine ret_of rfl rfl (r0 ?_)
 refine Z2 ?_
 rfl
theorem gNq0 (b:Nat) : ∀ a:Nat,0 < a->a < 4294967296->b < 4294967296->Ret VP (.fn 71) [.d (.slice [W a]),.d (.slice (nDq0 b))] [] (.d (.slice [W (Nat.gcd a b)])) []:=by
 intro a ha ha2 hb2
 have t1:=tNq0 (Int.ofNat a) (by simp;omega)
 have t2:Ret VP (.fn 113) [.d (.slice (nDq0 b))] [] (.d (.slice (nDq0 b))) []:=by
  unfold nDq0
  split
  · exact tEq0
  · exact tNq0 _ (by simp;omega)
 refine ret_of rfl rfl (r0 ?_)
 refine Z1 ?_
 refine af rfl ?_
 clear t1 t2
 induction b using Nat.strongRecOn generalizing a with
 | ind b ih =>
   by_cases h0:b=0
   · subst h0
     rw [show nDq0 0=[] from rfl,Nat.gcd_zero_right]
     unfold ah
     refine Z1 ?_
     rfl
   · have hD : ∃ q:List D,Ret VP (.fn 72) [.d (.slice [W a]),.d (.slice (nDq0 b))] [] (.d (.tuple [.slice q,.slice (nDq0 (a%b)),.int .i64 0])) []:=by
      rw [show nDq0 b=[W b] from if_neg h0]
      rcases Nat.lt_or_ge a b with h1 | h1
      · exact ⟨[],by rw [Nat.mod_eq_of_lt h1,show nDq0 a=[W a] from if_neg (by omega)];exact dLT a b ha h1⟩
      · exact ⟨_,dGE a b (by omega) h1 ha2⟩
     obtain ⟨q,hd⟩:=hD
     have hm:=Nat.mod_lt a (Nat.pos_of_ne_zero h0)
     have hi:=ih (a%b) hm b (Nat.pos_of_ne_zero h0) hb2 (by omega)
     rw [show Nat.gcd b (a%b)=Nat.gcd a b by rw [Nat.gcd_comm b,<- Nat.gcd_rec,Nat.gcd_comm]] at hi
     rw [show nDq0 b=[W b] from if_neg h0] at hd ⊢
     unfold ah
     refine Z1r ?_
     refine af rfl ?_
     exact hi
theorem gEq0 (b:Nat) (hb:0 < b):Ret VP (.fn 71) [.d (.slice []),.d (.slice [W b])] [] (.d (.slice [W b])) []:=by
 have t1:=tEq0
 have t2:=tNq0 (Int.ofNat b) (by simp;omega)
 have d:=dEq0 b hb
 refine ret_of rfl rfl (r0 ?_)
 refine Z2 ?_
 rfl
theorem nD0 {n:Nat} (h:n≠0):nDq0 n=[W n]:=if_neg h
theorem mGq0 (a b:Nat) (hb:0 < b) (ha2:a < 4294967296) (hb2:b < 4294967296) (h:a*b < 4294967296):Ret VP (.fn 124) [.d (.slice (nDq0 a)),.d (.slice [W b])] [] (.d (.slice (nDq0 (a*b)))) []:=by
 by_cases h0:a=0
 · subst h0;rw [Nat.zero_mul];exact mEq0 b
 · have hp:0 < a*b:=Nat.mul_pos (by omega) hb
   rw [nD0 h0,nD0 (by omega)];exact mNq0 a b (by omega) hb ha2 hb2 h
theorem aENq0 (b:Nat) (hb:0 < b) (h:b < 4294967296):Ret VP (.fn 70) [.d (.slice []),.d (.slice [W b])] [] (.d (.slice [W b])) []:=by
 have hu:IntKind.u32.wrap (d64 b)=Int.ofNat b:=by rw [a4L h];exact jo h
 have h3:=tN2 (IntKind.u32.wrap (d64 b)) (IntKind.u32.wrap ((d64 b).fdiv (2 ^ min (Int.toNat 32) IntKind.u64.bits))) (by rw [hu];simp;omega) (by rw [a4L h,a4U h];rfl)
 refine ret_of rfl rfl (r0 ?_)
 refine Z2 ?_
 refine fe rfl ?_ rfl
 rw [hu]
theorem aNEq0 (b:Nat) (hb:0 < b) (h:b < 4294967296):Ret VP (.fn 70) [.d (.slice [W b]),.d (.slice [])] [] (.d (.slice [W b])) []:=by
 have hu:IntKind.u32.wrap (d64 b)=Int.ofNat b:=by rw [a4L h];exact jo h
 have h3:=tN2 (IntKind.u32.wrap (d64 b)) (IntKind.u32.wrap ((d64 b).fdiv (2 ^ min (Int.toNat 32) IntKind.u64.bits))) (by rw [hu];simp;omega) (by rw [a4L h,a4U h];rfl)
 refine ret_of rfl rfl (r0 ?_)
 refine Z2 ?_
 refine fe rfl ?_ rfl
 rw [hu]
theorem aEEq0:Ret VP (.fn 70) [.d (.slice []),.d (.slice [])] [] (.d (.slice [])) []:=by
 have h3:=tZq0
 refine ret_of rfl rfl (r0 ?_)
 refine Z2 ?_
 rfl
theorem aGq0 (a b:Nat) (h:a+b < 4294967296):Ret VP (.fn 70) [.d (.slice (nDq0 a)),.d (.slice (nDq0 b))] [] (.d (.slice (nDq0 (a+b)))) []:=by
 by_cases h0:a=0
 · subst h0
   rw [Nat.zero_add]
   by_cases h1:b=0
   · subst h1;exact aEEq0
   · rw [nD0 h1];exact aENq0 b (by omega) (by omega)
 · by_cases h1:b=0
   · subst h1;rw [Nat.add_zero,nD0 h0];exact aNEq0 a (by omega) (by omega)
   · rw [nD0 h0,nD0 h1,nD0 (by omega)];exact aNNq0 a b (by omega) (by omega) (by omega) h
abbrev sq3 (s:Bool) (p:Nat×Nat):D := .agg [.bool s,.slice (nDq0 p.1),.slice [W p.2]]
theorem a4S (s:Bool) (n d:Nat) (hd:0 < d) (hn2:n < 4294967296) (hd2:d < 4294967296):Ret VP (.fn 42) [.d (.bool s),.d (.slice (nDq0 n)),.d (.slice [W d])] [] (.d (sq3 (s&&decide (0 < n)) (redQ n d))) []:=by
 by_cases h0:n=0
 · subst h0
   have g:=gEq0 d hd
   have h1:=dEq0 d hd
   have h2:=dGE d d hd (Nat.le_refl d) hd2
   rw [Nat.div_self hd,Nat.mod_self] at h2
   have e:redQ 0 d=(0,1):=by unfold redQ;rw [Nat.gcd_zero_left,Nat.zero_div,Nat.div_self hd]
   rw [e]
   cases s
   · refine ret_of rfl rfl (r0 ?_)
     refine Z2 ?_
     rfl
   · refine ret_of rfl rfl (r0 ?_)
     refine Z2 ?_
     rfl
 · have hgp:0 < Nat.gcd n d:=Nat.gcd_pos_of_pos_left d (by omega)
   have hgn:Nat.gcd n d<=n:=Nat.gcd_le_left d (by omega)
   have hgd:Nat.gcd n d<=d:=Nat.gcd_le_right n hd
   have g:=gNq0 d n (by omega) hn2 hd2
   rw [nD0 (by omega)] at g
   have h1:=dGE n _ hgp hgn hn2
   have h2:=dGE d _ hgp hgd hd2
   have hp:0 < n/Nat.gcd n d:=Nat.div_pos hgn hgp
   have e:nDq0 (redQ n d).1=[W (n/Nat.gcd n d)]:=nD0 (by show ¬ n/Nat.gcd n d=0;omega)
   have e2:(decide (0 < n))=true:=decide_eq_true (by omega)
   unfold sq3
   rw [e,e2,Bool.and_true,nD0 h0]
   cases s
   · refine ret_of rfl rfl (r0 ?_)
     refine Z2 ?_
     rfl
   · refine ret_of rfl rfl (r0 ?_)
     refine Z2 ?_
     rfl
theorem nrG (s:Bool) (n d:Nat) (hd:0 < d) (hn2:n < 4294967296) (hd2:d < 4294967296):Ret VP (.fn 121) [.d (sq3 s (n,d))] [] (.d (sq3 (s&&decide (0 < n)) (redQ n d))) []:=by
 have t1:=tNq0 (Int.ofNat d) (by simp;omega)
 have hl:=a4S s n d hd hn2 hd2
 refine ret_of rfl rfl (r0 ?_)
 refine Z2 ?_
 rfl
theorem sgG (s:Bool) (n d:Nat) (hd:0 < d) (hn2:n < 4294967296) (hd2:d < 4294967296):Ret VP (.fn 122) [.d (sq3 s (n,d))] [] (.d (.int .i64 (if n=0 then 0 else if s then -1 else 1))) []:=by
 have hn:=nrG s n d hd hn2 hd2
 by_cases h0:n=0
 · subst h0
   have e:redQ 0 d=(0,1):=by unfold redQ;rw [Nat.gcd_zero_left,Nat.zero_div,Nat.div_self hd]
   rw [e] at hn
   rw [if_pos rfl]
   refine ret_of rfl rfl (r0 ?_)
   refine Z2 ?_
   rfl
 · have hgp:0 < Nat.gcd n d:=Nat.gcd_pos_of_pos_left d (by omega)
   have hp:0 < n/Nat.gcd n d:=Nat.div_pos (Nat.gcd_le_left d (by omega)) hgp
   have e:nDq0 (redQ n d).1=[W (n/Nat.gcd n d)]:=nD0 (by show ¬ n/Nat.gcd n d=0;omega)
   have e2:(decide (0 < n))=true:=decide_eq_true (by omega)
   unfold sq3 at hn
   rw [e,e2,Bool.and_true] at hn
   rw [if_neg h0]
   cases s
   · refine ret_of rfl rfl (r0 ?_)
     refine Z2 ?_
     rfl
   · refine ret_of rfl rfl (r0 ?_)
     refine Z2 ?_
     rfl
structure Lqq0 (p:Nat×Nat):Prop where
 h1:p.1<=99
 h2:p.2<=99
 h0:0 < p.2
 hg:redQ p.1 p.2=p
theorem a4N {p:Nat×Nat} (h:Lqb p=true):Lqq0 p:=by
 unfold Lqb at h
 simp only [Bool.and_eq_true,decide_eq_true_eq] at h
 exact ⟨h.1.1.1,h.1.1.2,h.1.2,by unfold redQ;rw [h.2,Nat.div_one,Nat.div_one]⟩
theorem nrQ (s:Bool) {p:Nat×Nat} (h:Lqq0 p) (hs:s=true->0 < p.1):Ret VP (.fn 121) [.d (sq3 s p)] [] (.d (sq3 s p)) []:=by
 have:=nrG s p.1 p.2 h.h0 (by have:=h.h1;omega) (by have:=h.h2;omega)
 rw [h.hg] at this
 have e:(s&&decide (0 < p.1))=s:=by
  cases s
  · rfl
  · rw [decide_eq_true (hs rfl)];rfl
 rwa [e] at this
theorem b99 {a b:Nat} (h:a<=99) (h':b<=99):a*b<=9801:=Nat.mul_le_mul h h'
theorem a48 {s v:Nat×Nat} (hs:Lqb s=true) (hv:Lqb v=true):Ret VP (.fn 120) [.d (qd s),.d (qd v)] [] (.d (qd (redQ (s.1*v.2+v.1*s.2) (s.2*v.2)))) []:=by
 have L1q0:=a4N hs
 have L2q0:=a4N hv
 have k1:=b99 L1q0.h1 L2q0.h2
 have k2:=b99 L2q0.h1 L1q0.h2
 have k3:=b99 L1q0.h2 L2q0.h2
 have k4:=L1q0.h1
 have k5:=L1q0.h2
 have k6:=L2q0.h1
 have k7q0:=L2q0.h2
 have p1:=L1q0.h0
 have p2:=L2q0.h0
 have p3:0 < s.2*v.2:=Nat.mul_pos p1 p2
 have n1:=nrQ false L1q0 (by simp)
 have n2:=nrQ false L2q0 (by simp)
 have m1:=mGq0 s.1 v.2 p2 (by omega) (by omega) (by omega)
 have m2:=mGq0 v.1 s.2 p1 (by omega) (by omega) (by omega)
 have m3:=mNq0 s.2 v.2 p1 p2 (by omega) (by omega) (by omega)
 have a1:=aGq0 (s.1*v.2) (v.1*s.2) (by omega)
 have l1:=a4S false (s.1*v.2+v.1*s.2) (s.2*v.2) p3 (by omega) (by omega)
 refine ret_of rfl rfl (r0 ?_)
 refine Z2 ?_
 rfl
theorem a4V {s v:Nat×Nat} (L1q0:Lqq0 s) (L2q0:Lqq0 v) (hv0:0 < v.1):Ret VP (.fn 120) [.d (sq3 false s),.d (sq3 true v)] [] (.d (if v.1*s.2<=s.1*v.2 then sq3 false (redQ (s.1*v.2 - v.1*s.2) (s.2*v.2)) else sq3 true (redQ (v.1*s.2 - s.1*v.2) (s.2*v.2)))) []:=by
 have k1:=b99 L1q0.h1 L2q0.h2
 have k2:=b99 L2q0.h1 L1q0.h2
 have k3:=b99 L1q0.h2 L2q0.h2
 have k4:=L1q0.h1
 have k5:=L1q0.h2
 have k6:=L2q0.h1
 have k7q0:=L2q0.h2
 have p1:=L1q0.h0
 have p2:=L2q0.h0
 have p3:0 < s.2*v.2:=Nat.mul_pos p1 p2
 have p4q0:0 < v.1*s.2:=Nat.mul_pos hv0 p1
 have n1:=nrQ false L1q0 (by simp)
 have n2:=nrQ true L2q0 (fun _=>hv0)
 have m1:=mGq0 s.1 v.2 p2 (by omega) (by omega) (by omega)
 have m2:=mGq0 v.1 s.2 p1 (by omega) (by omega) (by omega)
 have m3:=mNq0 s.2 v.2 p1 p2 (by omega) (by omega) (by omega)
 generalize s.1*v.2=x at *
 generalize v.1*s.2=y at *
 generalize s.2*v.2=d at *
 by_cases h:y<=x
 · rw [if_pos h]
   have l1:=a4S false (x - y) d p3 (by omega) (by omega)
   have u1:Ret VP (.fn 160) [.d (.slice (nDq0 x)),.d (.slice (nDq0 y))] [] (.d (.tuple [.slice (nDq0 (x - y)),.int .i64 0])) []:=by
    rw [nD0 (n:=x) (by omega),nD0 (n:=y) (by omega)]
    rcases Nat.lt_or_ge y x with h1 | h1
    · rw [nD0 (by omega)];exact sGT x y p4q0 h1 (by omega)
    · have e:x=y:=by omega
      subst e
      rw [Nat.sub_self];exact sEQ x p4q0 (by omega)
   refine ret_of rfl rfl (r0 ?_)
   refine Z2 ?_
   rfl
 · rw [if_neg h]
   have l1:=a4S true (y - x) d p3 (by omega) (by omega)
   rw [decide_eq_true (show 0 < y - x by omega)] at l1
   have u1:Ret VP (.fn 160) [.d (.slice (nDq0 x)),.d (.slice (nDq0 y))] [] (.d (.tuple [.slice [],.int .i64 1])) []:=by
    rw [nD0 (n:=y) (by omega)]
    by_cases h0:x=0
    · subst h0;exact sE1 y p4q0
    · rw [nD0 h0];exact sLT x y (by omega) (by omega)
   have u2:Ret VP (.fn 160) [.d (.slice (nDq0 y)),.d (.slice (nDq0 x))] [] (.d (.tuple [.slice (nDq0 (y - x)),.int .i64 0])) []:=by
    rw [nD0 (n:=y) (by omega),nD0 (n:=y - x) (by omega)]
    by_cases h0:x=0
    · subst h0;exact sE2 y p4q0 (by omega)
    · rw [nD0 h0];exact sGT y x (by omega) (by omega) (by omega)
   refine ret_of rfl rfl (r0 ?_)
   refine Z2 ?_
   rfl
theorem a4W {v:Nat×Nat} (L:Lqq0 v):Ret VP (.fn 261) [.d (qd v)] [] (.d (sq3 (decide (0 < v.1)) v)) []:=by
 have n1:=nrQ false L (by simp)
 by_cases h:v.1=0
 · have e:nDq0 v.1=[]:=if_pos h
   unfold sq3 at n1 ⊢
   unfold qd
   rw [e] at n1 ⊢
   rw [decide_eq_false (by omega)]
   refine ret_of rfl rfl (r0 ?_)
   refine Z2 ?_
   rfl
 · have e:nDq0 v.1=[W v.1]:=nD0 h
   unfold sq3 at n1 ⊢
   unfold qd
   rw [e] at n1 ⊢
   rw [decide_eq_true (by omega)]
   refine ret_of rfl rfl (r0 ?_)
   refine Z2 ?_
   rfl
theorem a4A {s x:Nat×Nat} (hs:Lqb s=true) (hx:Lqb x=true):Ret VP (.fn 210) [.d (qd s),.d (qd x)] [] (.d (.int .i64 (sgN s x))) []:=by
 have L1q0:=a4N hs
 have L2q0:=a4N hx
 have k1:=b99 L1q0.h1 L2q0.h2
 have k2:=b99 L2q0.h1 L1q0.h2
 have k3:=b99 L1q0.h2 L2q0.h2
 have p3:0 < s.2*x.2:=Nat.mul_pos L1q0.h0 L2q0.h0
 have g:=a4W L2q0
 have hr : ∃ (f:Bool) (n d:Nat),0 < d/\d<=9801/\n<=19602/\Ret VP (.fn 120) [.d (sq3 false s),.d (sq3 (decide (0 < x.1)) x)] [] (.d (sq3 f (redQ n d))) []/\sgN s x=(if n=0 then 0 else if f then -1 else 1):=by
  by_cases h0:x.1=0
  · rw [decide_eq_false (by omega)]
    refine ⟨false,s.1*x.2+x.1*s.2,s.2*x.2,p3,k3,by omega,a48 hs hx,?_⟩
    unfold sgN
    rw [h0,Nat.zero_mul,Nat.add_zero]
    by_cases h1:s.1*x.2=0
    · rw [if_neg (by omega),if_neg (by omega),if_pos h1]
    · rw [if_pos (by omega),if_neg h1];rfl
  · rw [decide_eq_true (by omega)]
    have u:=a4V L1q0 L2q0 (by omega)
    by_cases h1:x.1*s.2<=s.1*x.2
    · rw [if_pos h1] at u
      refine ⟨false,_,_,p3,k3,by omega,u,?_⟩
      unfold sgN
      by_cases h2:x.1*s.2=s.1*x.2
      · rw [if_neg (by omega),if_neg (by omega),if_pos (by omega)]
      · rw [if_pos (by omega),if_neg (by omega)];rfl
    · rw [if_neg h1] at u
      refine ⟨true,_,_,p3,k3,by omega,u,?_⟩
      unfold sgN
      rw [if_neg (by omega),if_pos (by omega),if_neg (by omega)];rfl
 obtain ⟨f,n,d,hd,hd2,hn,u,e⟩:=hr
 rw [e]
 have hgp:0 < Nat.gcd n d:=Nat.gcd_pos_of_pos_right n hd
 have q1:n/Nat.gcd n d<=n:=Nat.div_le_self _ _
 have q2:d/Nat.gcd n d<=d:=Nat.div_le_self _ _
 have q3:0 < d/Nat.gcd n d:=Nat.div_pos (Nat.gcd_le_right n hd) hgp
 have w:=sgG f (redQ n d).1 (redQ n d).2 q3 (by show n/Nat.gcd n d < _;omega) (by show d/Nat.gcd n d < _;omega)
 have e3:((redQ n d).1=0) ↔ n=0:=by
  constructor
  · intro h
    rcases Nat.eq_zero_or_pos n with h1 | h1
    · exact h1
    · have:=Nat.div_pos (Nat.gcd_le_left d h1) hgp
      have h':n/Nat.gcd n d=0:=h
      omega
  · rintro rfl;show 0/_=0;exact Nat.zero_div _
 have e4:(if (redQ n d).1=0 then (0:Int) else if f then -1 else 1)=(if n=0 then 0 else if f then -1 else 1):=by
  by_cases h:n=0
  · rw [if_pos h,if_pos (e3.2 h)]
  · rw [if_neg h,if_neg (fun h'=>h (e3.1 h'))]
 rw [e4] at w
 generalize (if n=0 then (0:Int) else if f then -1 else 1)=z at w ⊢
 generalize redQ n d=r at u w
 have b:Ret VP (.fn 243) [.d (qd s),.d (qd x)] [] (.d (sq3 f r)) []:=by
  refine ret_of rfl rfl (r0 ?_)
  refine Z2 ?_
  rfl
 refine ret_of rfl rfl (r0 ?_)
 refine Z2 ?_
 rfl
theorem a4Q {v:Nat×Nat} (L:Lqq0 v):Ret VP (.fn 123) [.d (qd v),.d (qd (1,1))] [] (.d (qd v)) []:=by
 have n1:=nrQ false L (by simp)
 have n2:=nrQ false (a4N (p:=(1,1)) rfl) (by simp)
 have k6:=L.h1
 have k7q0:=L.h2
 have m1:=mGq0 v.1 1 (by omega) (by omega) (by omega) (by omega)
 have m3:=mNq0 v.2 1 L.h0 (by omega) (by omega) (by omega) (by omega)
 rw [Nat.mul_one] at m1 m3
 have l1:=a4S false v.1 v.2 L.h0 (by omega) (by omega)
 rw [L.hg] at l1
 refine ret_of rfl rfl (r0 ?_)
 refine Z2 ?_
 rfl
theorem a4R:((List.range 10).all fun t=>tu (i5 VP [] 1000 (.fn 41) [.d (.int .i64 (Int.ofNat t))] []) (.d (qd (t,1))) [])=true:=by kernel_rfl
theorem a4M {t:Nat} (h:t < 10):Ret VP (.fn 41) [.d (.int .i64 t)] [] (.d (qd (t,1))) []:=tb .n (List.all_eq_true.1 a4R t (List.mem_range.2 h))
theorem a4H:Ret VP (.fn 41) [.d (.int .i64 0)] [] (.d (qd (0,1))) []:=a4M (t:=0) (by omega)
theorem a49 {t b:Nat} (hb:b < 10) (ht:t < b):Ret VP (.fn 19) [.d (.int .i64 t),.d (.int .i64 b)] [] (.d (.tuple [qd (redQ t b),.int .i64 0])) []:=by
 have i1:=a4M (t:=t) (by omega)
 have i2:=a4M hb
 rw [show qd (b,1) = .agg [.bool false,.slice [W b],.slice [W 1]] by unfold qd;rw [nD0 (by omega)]] at i2
 have l1:=a4S false t b (by omega) (by omega) (by omega)
 have t1:(((b:Nat):Int)==0)=false:=by simp;omega
 refine ret_of rfl rfl (r0 ?_)
 refine Z2 ?_
 rfl
theorem a4X:Ret VP (.fn 411) [.d (.agg [.bool false,.slice [],.slice []]),.d (.int .i64 0)] [] (.d (qd (1,1))) []:=by
 have i1:=a4M (t:=1) (by omega)
 refine ret_of rfl rfl (r0 ?_)
 refine Z2 ?_
 rfl
theorem a42:Ret VP (.fn 398) [.d (.slice []),.d (.slice [])] [] (.d (qd (0,1))) []:=by
 have i1:=a4H
 refine ret_of rfl rfl (r0 ?_)
 refine Z2 ?_
 rfl
theorem a40 {v:Nat×Nat} (hv:Lqb v=true) (h0:¬ v.1=0):Ret VP (.fn 398) [.d (.slice [.agg [.int .i64 0,.int .i64 0,.int .i64 0,.int .i64 0,.int .i64 0,.int .i64 0,.int .i64 0,.int .i64 0,.bool false,.slice [.int .u32 v.1],.slice [.int .u32 v.2]]]),.d (.slice [])] [] (.d (qd v)) []:=by
 have L:=a4N hv
 have i1:=a4H
 have q0:=a4X
 have m1:=a4Q L
 have a1:=a48 (s:=(0,1)) rfl hv
 rw [show redQ ((0,1).1*v.2+v.1*(0,1).2) ((0,1).2*v.2)=v by rw [Nat.zero_mul,Nat.zero_add,Nat.mul_one,Nat.one_mul];exact L.hg] at a1
 unfold qd at m1 a1 ⊢
 rw [nD0 h0] at m1 a1 ⊢
 refine ret_of rfl rfl (r0 ?_)
 (have hz1:=q0;refine Z2 ?_)
 rfl
end Go.Proofs.YtemffeblbmimfaaGreat
namespace Go.Proofs.YtemffeblbmimfaaGreat
set_option maxHeartbeats 4000000
set_option maxRecDepth 100000
theorem a4B : ∀ b < 10,∀ t < b,Lqb (redQ t b)=true:=by decide +kernel
structure Tks (w:List D) (ssq0:List (Nat×Nat)):Prop where
 h3:w.length<=3
 h0:ssq0.getD 0 (0,1)=(0,1)
 hs : ∀ k,Lqb (ssq0.getD k (0,1))=true
 hv : ∀ k p,w[k]?=some p -> ∃ v:Nat×Nat,(∃ e,p = .slice e)/\Ret VP (.fn 43) [.d p] [] (.d p) []/\Ret VP (.fn 398) [.d p,.d (.slice [])] [] (.d (qd v)) []/\Ret VP (.fn 120) [.d (qd (ssq0.getD k (0,1))),.d (qd v)] [] (.d (qd (ssq0.getD (k+1) (0,1)))) []
 hp : ∀ b:Nat,b < 10 -> ∀ t:Nat,t < b->pk w (mkRat t b) < w.length/\(∀ k ≤ pk w (mkRat t b),¬ 0 < sgN (ssq0.getD k (0,1)) (redQ t b))/\0 < sgN (ssq0.getD (pk w (mkRat t b)+1) (0,1)) (redQ t b)
def pBq0 (ssq0:List (Nat×Nat)) (n:Nat) (w:List D):Bool:=(List.range 10).all fun b=>(List.range b).all fun t =>
 decide (pk w (mkRat t b) < n)&&((List.range (pk w (mkRat t b)+1)).all fun k=>decide (¬ 0 < sgN (ssq0.getD k (0,1)) (redQ t b)))&&decide (0 < sgN (ssq0.getD (pk w (mkRat t b)+1) (0,1)) (redQ t b))
theorem a4J {ssq0:List (Nat×Nat)} (h:ssq0.all Lqb=true) (k:Nat):Lqb (ssq0.getD k (0,1))=true:=by
 rw [List.getD_eq_getElem?_getD]
 cases e:ssq0[k]? with
 | none=>rfl
 | some s=>exact List.all_eq_true.1 h s (List.mem_of_getElem? e)
def plv (v:Nat×Nat):D:=if v.1=0 then p0 else pl v.1 v.2
theorem tks (vs ssq0:List (Nat×Nat)) {w:List D} (hw:w=vs.map plv) (h3:(decide (vs.length<=3)&&decide (ssq0.getD 0 (0,1)=(0,1))&&ssq0.all Lqb&&vs.all Lqb&&(List.range vs.length).all fun k=>decide (redQ ((ssq0.getD k (0,1)).1*(vs.getD k (0,1)).2+(vs.getD k (0,1)).1*(ssq0.getD k (0,1)).2) ((ssq0.getD k (0,1)).2*(vs.getD k (0,1)).2)=ssq0.getD (k+1) (0,1)))=true)
 (hn : ∀ v∈vs,Ret VP (.fn 43) [.d (plv v)] [] (.d (plv v)) []) (hz : ∀ v∈vs,v.1=0->v=(0,1)) (hp:pBq0 ssq0 vs.length w=true):Tks w ssq0:=by
 subst hw
 simp only [Bool.and_eq_true,decide_eq_true_eq] at h3
 obtain ⟨⟨⟨⟨a1,a2⟩,a3⟩,a4⟩,a5⟩:=h3
 have e:(vs.map plv).length=vs.length:=List.length_map ..
 refine ⟨by rw [e];exact a1,a2,a4J a3,?_,?_⟩
 · intro k p hk
   rw [List.getElem?_map,Option.map_eq_some_iff] at hk
   obtain ⟨v,hv,rfl⟩:=hk
   have hm:=List.mem_of_getElem? hv
   have hl:=List.all_eq_true.1 a4 v hm
   have h7:=List.all_eq_true.1 a5 k (List.mem_range.2 ((List.getElem?_eq_some_iff.1 hv).1))
   rw [List.getD_eq_getElem?_getD (l:=vs),hv,decide_eq_true_eq,Option.getD_some] at h7
   refine ⟨v,?_,hn v hm,?_,?_⟩
   · unfold plv;split<;>exact ⟨_,rfl⟩
   · unfold plv
     split
     · rename_i h0
       rw [hz v hm h0]
       exact a42
     · rename_i h0
       exact a40 hl h0
   · have:=a48 (a4J a3 k) hl
     rwa [h7] at this
 · intro b hb t ht
   have h:=List.all_eq_true.1 (List.all_eq_true.1 hp b (List.mem_range.2 hb)) t (List.mem_range.2 ht)
   simp only [Bool.and_eq_true,decide_eq_true_eq,List.all_eq_true,List.mem_range] at h
   rw [e]
   exact ⟨h.1.1,fun k hk=>h.1.2 k (by omega),h.2⟩
def VLq0:List (Nat×Nat):=[(0,1),(1,2),(1,4),(1,3),(1,6),(5,8),(1,8),(1,1),(2,3),(3,4),(4,5),(1,5),(3,5),(2,5)]
theorem nrm {vs:List (Nat×Nat)} (h : ∀ v∈vs,v∈VLq0) : ∀ v∈vs,Ret VP (.fn 43) [.d (plv v)] [] (.d (plv v)) []:=by
 have h1 : ∀ v∈VLq0,Ret VP (.fn 43) [.d (plv v)] [] (.d (plv v)) []:=by
  intro v hv
  simp only [VLq0,List.mem_cons,List.not_mem_nil,or_false] at hv
  rcases hv with rfl | rfl | rfl | rfl | rfl | rfl | rfl | rfl | rfl | rfl | rfl | rfl | rfl | rfl
  · exact azE
  · exact ayT
  · exact ayD
  · exact azT
  · exact azL
  · exact aEZ
  · exact ayJ
  · exact ua8
  · exact awK
  · exact awE
  · exact aw9
  · exact awD
  · exact awA
  · exact awB
 exact fun v hv=>h1 v (h v hv)
theorem a47 : ∀ w∈W0,∃ ssq0,Tks w ssq0:=md ⟨
 ⟨_,tks [(1,2),(0,1),(1,2)] [(0,1),(1,2),(1,2),(1,1)] rfl (by decide +kernel) (nrm (by decide)) (by decide) (by decide +kernel)⟩,
 ⟨_,tks [(1,2),(1,4),(1,4)] [(0,1),(1,2),(3,4),(1,1)] rfl (by decide +kernel) (nrm (by decide)) (by decide) (by decide +kernel)⟩,
 ⟨_,tks [(1,3),(1,3),(1,3)] [(0,1),(1,3),(2,3),(1,1)] rfl (by decide +kernel) (nrm (by decide)) (by decide) (by decide +kernel)⟩,
 ⟨_,tks [(1,3),(1,2),(1,6)] [(0,1),(1,3),(5,6),(1,1)] rfl (by decide +kernel) (nrm (by decide)) (by decide) (by decide +kernel)⟩,
 ⟨_,tks [(1,4),(1,2),(1,4)] [(0,1),(1,4),(3,4),(1,1)] rfl (by decide +kernel) (nrm (by decide)) (by decide) (by decide +kernel)⟩,
 ⟨_,tks [(1,4),(5,8),(1,8)] [(0,1),(1,4),(7,8),(1,1)] rfl (by decide +kernel) (nrm (by decide)) (by decide) (by decide +kernel)⟩,
 ⟨_,tks [(1,1),(0,1)] [(0,1),(1,1),(1,1)] rfl (by decide +kernel) (nrm (by decide)) (by decide) (by decide +kernel)⟩,
 ⟨_,tks [(0,1),(1,1)] [(0,1),(0,1),(1,1)] rfl (by decide +kernel) (nrm (by decide)) (by decide) (by decide +kernel)⟩,
 ⟨_,tks [(1,2),(1,2)] [(0,1),(1,2),(1,1)] rfl (by decide +kernel) (nrm (by decide)) (by decide) (by decide +kernel)⟩,
 ⟨_,tks [(2,3),(1,3)] [(0,1),(2,3),(1,1)] rfl (by decide +kernel) (nrm (by decide)) (by decide) (by decide +kernel)⟩,
 ⟨_,tks [(1,3),(2,3)] [(0,1),(1,3),(1,1)] rfl (by decide +kernel) (nrm (by decide)) (by decide) (by decide +kernel)⟩,
 ⟨_,tks [(3,4),(1,4)] [(0,1),(3,4),(1,1)] rfl (by decide +kernel) (nrm (by decide)) (by decide) (by decide +kernel)⟩,
 ⟨_,tks [(1,4),(3,4)] [(0,1),(1,4),(1,1)] rfl (by decide +kernel) (nrm (by decide)) (by decide) (by decide +kernel)⟩,
 ⟨_,tks [(4,5),(1,5)] [(0,1),(4,5),(1,1)] rfl (by decide +kernel) (nrm (by decide)) (by decide) (by decide +kernel)⟩,
 ⟨_,tks [(3,5),(2,5)] [(0,1),(3,5),(1,1)] rfl (by decide +kernel) (nrm (by decide)) (by decide) (by decide +kernel)⟩,
 ⟨_,tks [(2,5),(3,5)] [(0,1),(2,5),(1,1)] rfl (by decide +kernel) (nrm (by decide)) (by decide) (by decide +kernel)⟩,
 ⟨_,tks [(1,5),(4,5)] [(0,1),(1,5),(1,1)] rfl (by decide +kernel) (nrm (by decide)) (by decide) (by decide +kernel)⟩⟩
end Go.Proofs.YtemffeblbmimfaaGreat
namespace Go.Proofs.YtemffeblbmimfaaGreat
open Go.IntWalk
attribute [local irreducible] au
set_option maxHeartbeats 4000000
set_option maxRecDepth 100000
mutual
def Cm.dr:Cm->List Cm
 | .mk k v s f t a b g o=>(if k=2 then [.mk k v s f t a b g o] else [])++Cm.drs a++Cm.drs b
def Cm.drs:List Cm->List Cm
 | []=>[]
 | c::l=>c.dr++Cm.drs l
end
def Cm.site:Cm->Int
 | .mk _ _ s _ _ _ _ _ _=>s
def a3Y (n:Nat) (A:List Cm):Prop := ∀ (i:Nat) (x:Cm),A[i]?=some x->x.site=((n+i:Nat):Int)
theorem a3X {A B:List Cm} {n m:Nat} (hA:a3Y n A) (hm:m=n+A.length) (hB:a3Y m B):a3Y n (A++B):=by
 intro i x h
 rw [List.getElem?_append] at h
 split at h
 · exact hA i x h
 · rw [hB _ _ h];congr 1;omega
mutual
theorem dr_site : ∀ (c:Cm) (n:Nat),(Cm.dr (c.num n).1).length=c.tb.length/\a3Y n (Cm.dr (c.num n).1)
 | .mk k v s f t a b g o,n=>by
   have h1:=drs_site a (if k=2 then n+1 else n)
   have h2:=drs_site b (Cm.nums a (if k=2 then n+1 else n)).2
   have c1:=nums_cnt a (if k=2 then n+1 else n)
   simp only [Cm.num,Cm.dr,Cm.tb,List.length_append]
   by_cases hk:k=2
   · simp only [hk,if_true] at h1 h2 c1 ⊢
     refine ⟨by rw [h1.1,h2.1];rfl,a3X (a3X ?_ rfl h1.2) ?_ h2.2⟩
     · intro i x h
       match i with
       | 0=>simp at h;rw [<- h];rfl
       | i+1=>simp at h
     · rw [List.length_append,h1.1,c1,List.length_singleton];omega
   · simp only [hk,if_false] at h1 h2 c1 ⊢
     refine ⟨by rw [h1.1,h2.1];rfl,a3X (a3X ?_ rfl h1.2) ?_ h2.2⟩
     · intro i x h;simp at h
     · rw [List.length_append,h1.1,c1];simp
theorem drs_site : ∀ (l:List Cm) (n:Nat),(Cm.drs (Cm.nums l n).1).length=(Cm.tbs l).length/\a3Y n (Cm.drs (Cm.nums l n).1)
 | [],n=>by simp [Cm.nums,Cm.tbs,Cm.drs,a3Y]
 | c::l,n=>by
   have h1:=dr_site c n
   have h2:=drs_site l (c.num n).2
   have c1:=num_cnt c n
   simp only [Cm.nums,Cm.tbs,Cm.drs,List.length_append]
   exact ⟨by rw [h1.1,h2.1],a3X h1.2 (by rw [c1,h1.1]) h2.2⟩
end
def AftT (F:Fix) (E:List Cm) (x y:X):Prop := ∃ ad:List (Nat×Nat),y.ch=x.ch++ad/\y.tk=x.tk+ad.length /\ ∀ (j:Nat) (p:Nat×Nat),ad[j]?=some p -> ∃ (v s:Nat) (lo:Int) (w:List D),Cm.mk 2 v s .z (.tab lo w) [] [] [] []∈E/\w∈W0/\p=(s,pk w (F.q (x.tk+j)))
theorem AftT.rfl' {F:Fix} {E:List Cm} {x:X} : AftT F E x x:=⟨[],by simp,by simp,fun j p h=>by simp at h⟩
theorem AftT.st {F:Fix} {E:List Cm} {x y:X} (h1:y.ch=x.ch) (h2:y.tk=x.tk):AftT F E x y:=⟨[],by simp [h1],by simp [h2],fun j p h=>by simp at h⟩
theorem AftT.mono {F:Fix} {E E':List Cm} {x y:X} (h:AftT F E x y) (hE : ∀ c∈E,c∈E'):AftT F E' x y:=by
 obtain ⟨ad,h1,h2,h3⟩:=h
 exact ⟨ad,h1,h2,fun j p hp=>let ⟨v,s,lo,w,a,b⟩:=h3 j p hp;⟨v,s,lo,w,hE _ a,b⟩⟩
theorem AftT.trans {F:Fix} {E:List Cm} {x y z:X} (h:AftT F E x y) (h':AftT F E y z):AftT F E x z:=by
 obtain ⟨ad,h1,h2,h3⟩:=h
 obtain ⟨ad',h1',h2',h3'⟩:=h'
 refine ⟨ad++ad',by rw [h1',h1,List.append_assoc],by rw [h2',h2,List.length_append];omega,fun j p hp => ?_⟩
 rw [List.getElem?_append] at hp
 split at hp
 · exact h3 j p hp
 · obtain ⟨v,s,lo,w,a,b,c⟩:=h3' _ p hp
   refine ⟨v,s,lo,w,a,b,?_⟩
   rw [c,h2]
   congr 3
   omega
theorem a46 (F:Fix) : ∀ (h:Nat) (l:List Cm),(∀ c∈l,Ok F.cs.length W0 h c) -> ∀ x,AftT F (Cm.drs l) x (Cm.exs F.cs F.q l x).1:=by
 intro h
 induction h with
 | zero=>intro l hl x;rw [b5 hl];exact .rfl'
 | succ h ih =>
   have hc : ∀ c,Ok F.cs.length W0 (h+1) c -> ∀ x,AftT F c.dr x (c.ex F.cs F.q x).1:=by
    intro c hc x
    cases hc with
    | set o f ho hf=>simp only [Cm.ex,if_true];exact .st rfl rfl
    | set2 o u f g ho hu hn hf hg=>simp only [Cm.ex,if_true];exact .st rfl rfl
    | draw v s lo w hv hs hw h1 h2 =>
      have e1:((2:Int)=1)=False:=by simp
      simp only [Cm.ex,e1,if_false,if_true,Di.w]
      refine ⟨_,rfl,rfl,fun j p hp => ?_⟩
      match j with
      | 0 =>
        simp at hp
        exact ⟨v,s,lo,w,by simp [Cm.dr],hw,by rw [<- hp];rfl⟩
      | j+1=>simp at hp
    | iff f a b hf ha hb' ca cb =>
      have e1:((3:Int)=1)=False:=by simp
      have e2:((3:Int)=2)=False:=by simp
      simp only [Cm.ex,e1,e2,if_false,if_true]
      split
      · exact (ih b cb x).mono fun c hc=>by simp [Cm.dr,hc]
      · exact (ih a ca x).mono fun c hc=>by simp [Cm.dr,hc]
    | obs f hf =>
      have e1:((4:Int)=1)=False:=by simp
      have e2:((4:Int)=2)=False:=by simp
      have e3:((4:Int)=3)=False:=by simp
      simp only [Cm.ex,e1,e2,e3,if_false,if_true]
      split<;>exact .st rfl rfl
    | cut =>
      have e1:((5:Int)=1)=False:=by simp
      have e2:((5:Int)=2)=False:=by simp
      have e3:((5:Int)=3)=False:=by simp
      have e4:((5:Int)=4)=False:=by simp
      simp only [Cm.ex,e1,e2,e3,e4,if_false,if_true]
      exact .st rfl rfl
   intro l
   induction l with
   | nil=>intro _ x;exact .rfl'
   | cons c l ihl =>
     intro hl x
     have h1:=hc c (hl c (by simp)) x
     simp only [Cm.exs,Cm.drs]
     split
     · exact (h1.mono fun c hc=>by simp [hc]).trans ((ihl (fun c hc=>hl c (by simp [hc])) _).mono fun c hc=>by simp [hc])
     · exact h1.mono fun c hc=>by simp [hc]
theorem a45 (F:Fix) (l:List Cm) (hl : ∀ c∈(Cm.nums l 0).1,Ok F.cs.length W0 4 c) (x:X) (hx:x.ch=[]) (hk:x.tk=0) (y:X) (hy:(Cm.exs F.cs F.q (Cm.nums l 0).1 x).1=y) :
 y.tk=y.ch.length /\ ∀ (j:Nat) (p:Nat×Nat),y.ch[j]?=some p -> ∃ (v:Nat) (lo:Int) (w:List D),(Cm.drs (Cm.nums l 0).1)[p.1]?=some (.mk 2 v p.1 .z (.tab lo w) [] [] [] [])/\w∈W0/\p.2=pk w (F.q j):=by
 obtain ⟨ad,h1,h2,h3⟩:=a46 F 4 _ hl x
 rw [hy] at h1 h2
 rw [hx,List.nil_append] at h1
 rw [hk,Nat.zero_add] at h2
 refine ⟨by rw [h1,h2],fun j p hp => ?_⟩
 rw [h1] at hp
 obtain ⟨v,s,lo,w,a,b,c⟩:=h3 j p hp
 rw [hk,Nat.zero_add] at c
 obtain ⟨i,hi⟩:=List.getElem?_of_mem a
 have hs:=(drs_site l 0).2 i _ hi
 rw [Nat.zero_add] at hs
 have hs':s=i:=by
  have:((s:Nat):Int)=(i:Int):=hs
  omega
 subst hs'
 subst c
 exact ⟨v,lo,w,hi,b,rfl⟩
end Go.Proofs.YtemffeblbmimfaaGreat
namespace Go.Proofs.YtemffeblbmimfaaGreat
open Go.IntWalk
attribute [local irreducible] au
set_option maxHeartbeats 8000000
set_option maxRecDepth 100000
theorem a4E {St:Type} {k:Nat} {live:List Nat} {code:VCode} {K:List Fr} {Q:Out->Env->aa->Prop} (f:St->List V×aa) (R:Nat->St->Prop) (n:Nat)
 (hs : ∀ i x,i < n->R i x->(∀ y,R (i+1) y->ah VP k live code (f y).1 (f y).2 K Q)->ah VP k live code (f x).1 (f x).2 K Q) (hn : ∀ x,R n x->ah VP k live code (f x).1 (f x).2 K Q) : ∀ (m i:Nat) (x:St),i+m=n->R i x->ah VP k live code (f x).1 (f x).2 K Q:=by
 intro m
 induction m with
 | zero=>intro i x h hx;rw [Nat.add_zero] at h;subst h;exact hn x hx
 | succ m ih=>intro i x h hx;exact hs i x (by omega) hx fun y hy=>ih (i+1) y (by omega) hy
section
variable {p:bh} {b0:Nat} {d:Option Nat} {os:List VOper} {e:Env} {s s1:aa} {Q:Env->aa->Prop}
theorem oaE {slot esz bytes id ver len:Nat} {x y:Opd} {es:List D} (hx:ev e x = .ms id ver 0 len) (hy:ev e y = .d (.slice [])) (hb:getB s id=some (.rows ver false esz (ao es))) (hl:len=es.length) (h:Ops p b0 os (put e d (.ms id ver 0 len)) s Q):Ops p b0 (⟨d,.append slot esz bytes x y,none⟩::os) e s Q:=by
 have key:cT s (b0+slot) esz bytes (ev e x) (ev e y)=some (.ms id ver 0 len,s):=by
  have hle:0+len<=(ao es).length:=by rw [av];omega
  unfold cT
  rw [hy]
  simp only [cM,wide,List.all_nil,if_true,List.map_nil,hx,hb,hle,and_self]
 refine aZ (fun call => ?_) h
 simp only [az,bx,ae,key,if_true,Option.map_some]
theorem oaM {slot esz bytes id ver len:Nat} {x y:Opd} {es ys:List D} (hx:ev e x = .ms id ver 0 len) (hy:ev e y = .d (.slice ys)) (hne:ys≠[]) (hw:wide esz ys=true) (ho:ys.all bJ=true) (hb:getB s id=some (.rows ver false esz (ao es))) (hl:len=es.length) (hr:au (len+ys.length) bytes=true)
 (hs:fF (setB s id (.rows (ver+1) false esz (ao (es++ys)))) some=some s1) (h:Ops p b0 os (put e d (.ms id (ver+1) 0 (len+ys.length))) s1 Q):Ops p b0 (⟨d,.append slot esz bytes x y,none⟩::os) e s Q:=by
 rw [ce] at hs;injection hs with hs
 have e0:(ao ys).length=ys.length:=av _
 refine oam (ys:=ao ys) hx (by rw [hy];exact sU hw) hb (by rw [av];omega) (by cases ys<;>simp_all [ao]) (qM hw ho) (by rw [e0];exact hr) ?_ (by rw [e0];exact h)
 rw [aF]
 have e1:(ao es).take len++ao ys=ao (es++ys):=by
  rw [hl,ga];simp [ao]
 rw [e1,hs]
end
theorem a41 (l:List Cm):wide 23 (l.map Cm.d)=true:=by
 unfold wide
 rw [List.all_eq_true]
 intro x hx
 obtain ⟨c,_,rfl⟩:=List.mem_map.1 hx
 obtain ⟨k,v,s,f,t,a,b,g,o⟩:=c
 rw [Cm.d_eq];rfl
mutual
theorem dr_le : ∀ c:Cm,c.dr.length<=c.cnt
 | .mk k v s f t a b g o=>by
   have h1:=drs_le a
   have h2:=drs_le b
   simp only [Cm.dr,Cm.cnt,List.length_append]
   split<;>simp<;>omega
theorem drs_le : ∀ l:List Cm,(Cm.drs l).length<=Cm.cnts l
 | []=>by simp [Cm.drs]
 | c::l=>by
   have h1:=dr_le c
   have h2:=drs_le l
   simp only [Cm.drs,Cm.cnts,List.length_append];omega
end
theorem a3Z (l m:List Cm):Cm.drs (l++m)=Cm.drs l++Cm.drs m:=by
 induction l with
 | nil=>simp [Cm.drs]
 | cons c l ih=>rw [List.cons_append,Cm.drs,Cm.drs,ih,List.append_assoc]
theorem a43 {l:List Cm} {i:Nat} (h:i < l.length):Cm.drs (l.take (i+1))=Cm.drs (l.take i)++l[i].dr:=by
 rw [List.take_succ_eq_append_getElem h,a3Z];simp [Cm.drs]
def sS (v:Nat):List Cm->V
 | [] => .nils
 | _::r => .ms 0 v 0 (r.length+1)
def IK (v:Nat):List Cm->aa
 | []=>[]
 | q::r=>[some (.rows v false 23 (ao ((q::r).map Cm.d)))]
theorem a44 {W:List (List D)} {n0:Nat} : ∀ (h:Nat) (l:List Cm),h<=4->(∀ c∈l,Ok n0 W h c)->l.length<=8->Ret VP (.fn 302) [.d (.slice (l.map Cm.d))] [] (.d (.slice ((Cm.drs l).map Cm.d))) []:=by
 have hnil:Ret VP (.fn 302) [.d (.slice (([]:List Cm).map Cm.d))] [] (.d (.slice [])) []:=by
  refine ret_of rfl rfl (r0 ?_)
  refine Z2 ?_
  rfl
 intro h
 induction h with
 | zero=>intro l _ hl _;rw [b5 hl];exact hnil
 | succ h ih =>
   intro l hh hl h8
   have hcn:=bU hh hl h8
   refine ret_of rfl rfl (r0 ?_)
   refine Z1 ?_
   refine af rfl ?_
   refine a4E (St:=List Cm×Nat×Nat) (fun y=>([.d (.slice (l.map Cm.d)),sS y.2.1 y.1,.d (.int .i64 y.2.2)],IK y.2.1 y.1)) (fun i y=>y.1=Cm.drs (l.take i)/\y.2.2=i) l.length ?_ ?_ l.length 0 ([],0,0) (by omega) ⟨by simp [Cm.drs],rfl⟩
   · rintro i ⟨out,v,i'⟩ hi ⟨hout,hii⟩ hnx
     dsimp only at hout hii
     subst hii
     have hwi:=ac i' (by omega)
     have hst:=a43 hi
     rw [<- hout] at hst
     have hle:=drs_le (l.take (i'+1))
     have hct:=cu l (i'+1)
     have hle0:out.length<=2000:=by have:=drs_le (l.take i');have:=cu l i';rw [<- hout] at *;omega
     have ht:=dd (g:=Cm.d) hi
     have hok:=hl _ (List.getElem_mem hi)
     have hend:=fun (o':List Cm) (v':Nat) (h:o'=out++l[i'].dr)=>hnx (o',v',i'+1) ⟨h.trans hst.symm,rfl⟩
     rw [hst,List.length_append] at hle
     clear hnx hst hout
     generalize hc:l[i']=c at hok hend hle
     have hVV : ∀ (q:Cm) (r:List Cm),out=q::r->(r.map Cm.d).length+1<=2000:=fun q r h=>by rw [h] at hle0;simpa using hle0
     cases hok with
     | set o f ho hf =>
       have hg:=bH hi hc
       cases out with
       | nil =>
         simp only [sS,IK]
         unfold ah
         refine Z3r ?_
         refine hdX rfl rfl rfl rfl (lO (hend [] v (by simp [Cm.dr,Cm.drs])) ?_ rfl)
         exact vc rfl (vc rfl (vc (dI hwi) rfl))
       | cons q r =>
         simp only [sS,IK]
         unfold ah
         refine Z3r ?_
         refine fw (oaE rfl rfl rfl (by simp<;>omega) (o0 ⟨rfl,rfl⟩)) ?_
         refine Z3r ?_
         refine fw (oaE rfl rfl rfl (by simp<;>omega) (o0 ⟨rfl,rfl⟩)) ?_
         refine Z3r ?_
         refine hdX rfl rfl rfl rfl (lO (hend (q::r) v (by simp [Cm.dr,Cm.drs])) ?_ rfl)
         exact vc rfl (vc rfl (vc (dI hwi) rfl))
     | set2 o u f g ho hu hou hf hgg =>
       have hg:=bH hi hc
       cases out with
       | nil =>
         simp only [sS,IK]
         unfold ah
         refine Z3r ?_
         refine hdX rfl rfl rfl rfl (lO (hend [] v (by simp [Cm.dr,Cm.drs])) ?_ rfl)
         exact vc rfl (vc rfl (vc (dI hwi) rfl))
       | cons q r =>
         simp only [sS,IK]
         unfold ah
         refine Z3r ?_
         refine fw (oaE rfl rfl rfl (by simp<;>omega) (o0 ⟨rfl,rfl⟩)) ?_
         refine Z3r ?_
         refine fw (oaE rfl rfl rfl (by simp<;>omega) (o0 ⟨rfl,rfl⟩)) ?_
         refine Z3r ?_
         refine hdX rfl rfl rfl rfl (lO (hend (q::r) v (by simp [Cm.dr,Cm.drs])) ?_ rfl)
         exact vc rfl (vc rfl (vc (dI hwi) rfl))
     | obs f hf =>
       have hg:=bH hi hc
       cases out with
       | nil =>
         simp only [sS,IK]
         unfold ah
         refine Z3r ?_
         refine hdX rfl rfl rfl rfl (lO (hend [] v (by simp [Cm.dr,Cm.drs])) ?_ rfl)
         exact vc rfl (vc rfl (vc (dI hwi) rfl))
       | cons q r =>
         simp only [sS,IK]
         unfold ah
         refine Z3r ?_
         refine fw (oaE rfl rfl rfl (by simp<;>omega) (o0 ⟨rfl,rfl⟩)) ?_
         refine Z3r ?_
         refine fw (oaE rfl rfl rfl (by simp<;>omega) (o0 ⟨rfl,rfl⟩)) ?_
         refine Z3r ?_
         refine hdX rfl rfl rfl rfl (lO (hend (q::r) v (by simp [Cm.dr,Cm.drs])) ?_ rfl)
         exact vc rfl (vc rfl (vc (dI hwi) rfl))
     | cut =>
       have hg:=bH hi hc
       cases out with
       | nil =>
         simp only [sS,IK]
         unfold ah
         refine Z3r ?_
         refine hdX rfl rfl rfl rfl (lO (hend [] v (by simp [Cm.dr,Cm.drs])) ?_ rfl)
         exact vc rfl (vc rfl (vc (dI hwi) rfl))
       | cons q r =>
         simp only [sS,IK]
         unfold ah
         refine Z3r ?_
         refine fw (oaE rfl rfl rfl (by simp<;>omega) (o0 ⟨rfl,rfl⟩)) ?_
         refine Z3r ?_
         refine fw (oaE rfl rfl rfl (by simp<;>omega) (o0 ⟨rfl,rfl⟩)) ?_
         refine Z3r ?_
         refine hdX rfl rfl rfl rfl (lO (hend (q::r) v (by simp [Cm.dr,Cm.drs])) ?_ rfl)
         exact vc rfl (vc rfl (vc (dI hwi) rfl))
     | draw v0 s0 lo w hv hs hw h1 h2 =>
       have hg:=bH hi hc
       cases out with
       | nil =>
         simp only [sS,IK]
         unfold ah
         refine Z3r ?_
         refine hdX rfl rfl rfl rfl (lO (hend [.mk 2 v0 s0 .z (.tab lo w) [] [] [] []] 0 (by simp [Cm.dr,Cm.drs])) ?_ rfl)
         exact vc rfl (vc rfl (vc (dI hwi) rfl))
       | cons q r =>
         have hr2:=hVV q r rfl
         simp only [sS,IK]
         unfold ah
         refine Z3r ?_
         refine oaD (cmD 2 v0 s0 .z (.tab lo w) [] [] [] []) rfl rfl rfl (by simp) rfl (ab (by simp at hr2;omega) (by decide)) rfl ?_
         refine Z3r ?_
         refine fw (oaE rfl rfl rfl (by simp<;>omega) (o0 ⟨rfl,rfl⟩)) ?_
         refine Z3r ?_
         refine fw (oaE rfl rfl rfl (by simp<;>omega) (o0 ⟨rfl,rfl⟩)) ?_
         refine Z3r ?_
         refine hdX rfl rfl rfl rfl (lO (hend (q::r++[.mk 2 v0 s0 .z (.tab lo w) [] [] [] []]) (v+1) (by simp [Cm.dr,Cm.drs])) ?_ ?_)
         · exact vc rfl (vc (by simp [sS]) (vc (dI hwi) rfl))
         · simp [IK,Cm.d_eq]
     | iff f a b hf ha hb ca cb =>
       have hg:=bH hi hc
       have hA:=ih a (by omega) ca (by omega)
       have hB:=ih b (by omega) cb (by omega)
       have hab:(Cm.mk 3 0 0 f .z a b [] []).dr=Cm.drs a++Cm.drs b:=by simp [Cm.dr]
       rw [hab] at hend hle
       rw [List.length_append] at hle
       generalize Cm.drs a=A at hA hend hle
       generalize Cm.drs b=B at hB hend hle
       have wA:=a41 A
       have wBq0:=a41 B
       have oAq0:=n6 A
       have oBq0:=n6 B
       have hlA:(A.map Cm.d).length<=2000:=by rw [List.length_map];omega
       have hlB:(B.map Cm.d).length<=2000:=by rw [List.length_map];omega
       rcases out with _ | ⟨q,r⟩<;>rcases A with _ | ⟨a0,A⟩<;>rcases B with _ | ⟨b1,B⟩
       · have hr2:True:=trivial
         simp only [sS,IK]
         unfold ah
         refine Z3r ?_
         refine hdX rfl rfl rfl rfl (lO (hend ([]) 0 (by simp)) ?_ ?_)
         · exact vc rfl (vc (by simp [sS];try omega) (vc (dI hwi) rfl))
         · simp [IK]
       · have hr2:True:=trivial
         simp only [sS,IK]
         unfold ah
         refine Z3r ?_
         refine fw (oan (.inl rfl) rfl (by simp) wBq0 oBq0 (ab (by omega) (by decide)) rfl (o0 ⟨rfl,rfl⟩)) ?_
         refine Z3r ?_
         refine hdX rfl rfl rfl rfl (lO (hend ((b1::B)) 0 (by simp)) ?_ ?_)
         · exact vc rfl (vc (by simp [sS];try omega) (vc (dI hwi) rfl))
         · simp [IK]
       · have hr2:True:=trivial
         simp only [sS,IK]
         unfold ah
         refine Z3r ?_
         refine fw (oan (.inl rfl) rfl (by simp) wA oAq0 (ab (by omega) (by decide)) rfl (o0 ⟨rfl,rfl⟩)) ?_
         refine Z3r ?_
         refine fw (oaE rfl rfl rfl (by simp<;>omega) (o0 ⟨rfl,rfl⟩)) ?_
         refine Z3r ?_
         refine hdX rfl rfl rfl rfl (lO (hend ((a0::A)) 0 (by simp)) ?_ ?_)
         · exact vc rfl (vc (by simp [sS];try omega) (vc (dI hwi) rfl))
         · simp [IK]
       · have hr2:True:=trivial
         simp only [sS,IK]
         unfold ah
         refine Z3r ?_
         refine fw (oan (.inl rfl) rfl (by simp) wA oAq0 (ab (by omega) (by decide)) rfl (o0 ⟨rfl,rfl⟩)) ?_
         refine Z3r ?_
         refine fw (oaM rfl rfl (by simp) wBq0 oBq0 rfl (by simp<;>omega) (ab (by simp at hr2 hlA hlB ⊢;omega) (by decide)) rfl (o0 ⟨rfl,rfl⟩)) ?_
         refine Z3r ?_
         refine hdX rfl rfl rfl rfl (lO (hend ((a0::A)++(b1::B)) 1 (by simp)) ?_ ?_)
         · exact vc rfl (vc (by simp [sS];try omega) (vc (dI hwi) rfl))
         · simp [IK]
       · have hr2:=hVV q r rfl
         simp only [sS,IK]
         unfold ah
         refine Z3r ?_
         refine fw (oaE rfl rfl rfl (by simp<;>omega) (o0 ⟨rfl,rfl⟩)) ?_
         refine Z3r ?_
         refine fw (oaE rfl rfl rfl (by simp<;>omega) (o0 ⟨rfl,rfl⟩)) ?_
         refine Z3r ?_
         refine hdX rfl rfl rfl rfl (lO (hend ((q::r)) v (by simp)) ?_ ?_)
         · exact vc rfl (vc (by simp [sS];try omega) (vc (dI hwi) rfl))
         · simp [IK]
       · have hr2:=hVV q r rfl
         simp only [sS,IK]
         unfold ah
         refine Z3r ?_
         refine fw (oaE rfl rfl rfl (by simp<;>omega) (o0 ⟨rfl,rfl⟩)) ?_
         refine Z3r ?_
         refine fw (oaM rfl rfl (by simp) wBq0 oBq0 rfl (by simp<;>omega) (ab (by simp at hr2 hlA hlB ⊢;omega) (by decide)) rfl (o0 ⟨rfl,rfl⟩)) ?_
         refine Z3r ?_
         refine hdX rfl rfl rfl rfl (lO (hend ((q::r)++(b1::B)) (v+1) (by simp)) ?_ ?_)
         · exact vc rfl (vc (by simp [sS];try omega) (vc (dI hwi) rfl))
         · simp [IK]
       · have hr2:=hVV q r rfl
         simp only [sS,IK]
         unfold ah
         refine Z3r ?_
         refine fw (oaM rfl rfl (by simp) wA oAq0 rfl (by simp<;>omega) (ab (by simp at hr2 hlA hlB ⊢;omega) (by decide)) rfl (o0 ⟨rfl,rfl⟩)) ?_
         refine Z3r ?_
         refine fw (oaE rfl rfl rfl (by simp<;>omega) (o0 ⟨rfl,rfl⟩)) ?_
         refine Z3r ?_
         refine hdX rfl rfl rfl rfl (lO (hend ((q::r)++(a0::A)) (v+1) (by simp)) ?_ ?_)
         · exact vc rfl (vc (by simp [sS];try omega) (vc (dI hwi) rfl))
         · simp [IK]
       · have hr2:=hVV q r rfl
         simp only [sS,IK]
         unfold ah
         refine Z3r ?_
         refine fw (oaM rfl rfl (by simp) wA oAq0 rfl (by simp<;>omega) (ab (by simp at hr2 hlA hlB ⊢;omega) (by decide)) rfl (o0 ⟨rfl,rfl⟩)) ?_
         refine Z3r ?_
         refine fw (oaM rfl rfl (by simp) wBq0 oBq0 rfl (by simp<;>omega) (ab (by simp at hr2 hlA hlB ⊢;omega) (by decide)) rfl (o0 ⟨rfl,rfl⟩)) ?_
         refine Z3r ?_
         refine hdX rfl rfl rfl rfl (lO (hend ((q::r)++(a0::A)++(b1::B)) (v+2) (by simp)) ?_ ?_)
         · exact vc rfl (vc (by simp [sS];try omega) (vc (dI hwi) rfl))
         · simp [IK]
   · rintro ⟨out,v,i'⟩ ⟨hout,hii⟩
     dsimp only at hout hii
     subst hii
     rw [List.take_length] at hout
     rw [<- hout]
     have hf:=de (g:=Cm.d) (l:=l)
     cases out with
     | nil =>
       simp only [sS,IK]
       unfold ah
       refine Z3r ?_
       rfl
     | cons q r =>
       simp only [sS,IK]
       unfold ah
       refine Z3r ?_
       exact tV (mg rfl (by simp) (n6 (q::r)))
end Go.Proofs.YtemffeblbmimfaaGreat
namespace Go.Proofs.YtemffeblbmimfaaGreat
open Go.IntWalk
attribute [local irreducible] au
set_option maxHeartbeats 8000000
set_option maxRecDepth 100000
def a4D (y:X):Option Blk:=some (.rows 0 false 4 [[.d (.slice (y.ch.map chD)),.d (.slice [ct y.m]),.d (.slice (y.st.map iD)),.d (.int .i64 y.en)]])
def a4F (p:Nat×Nat):Option Blk:=some (.rows 0 false 2 [[.d (.int .i64 p.1),.d (.int .i64 p.2)]])
def a4C (s:Nat×Nat):Option Blk:=some (.rows 0 false 3 [[.d (.bool false),.d (.slice (nDq0 s.1)),.d (.slice [W s.2])]])
theorem a4G (l:List Int):Ret VP (.fn 433) [.d (.slice (l.map iD))] [] (.d (.bool true)) []:=by
 have hL:(l.take 1000).length<=1000:=by rw [List.length_take];omega
 have r1:=wl l
 generalize l.take 1000=L at hL r1
 obtain ⟨cs,bd,os,es,a1,s1,G,ht5,ha1,r2⟩:=kg L hL 0 (Nat.zero_le _)
 obtain ⟨x,a2,hx,ha2,r3⟩:=aT L hL 1 9 9 (by omega) (by omega) (by omega) (by omega) (by omega) a1 s1 ha1
 obtain ⟨ts,a3,hl6,hall,ha3,r4⟩:=tv L hL (x+1) (by omega) (by omega) a2 s1 ha2
 have htn:(Cm.tbs (Cm.nums bd 0).1).length<=ts.length:=by rw [tbs_nums];omega
 have r5:=jw G (x+1) ts (by omega) (by omega) hall (by omega) htn
 obtain ⟨e1,e2⟩:=a4I G (x+1) ts (by omega) hall (by omega) htn
 have hch:=a45 ⟨cs,(Cm.nums bd 0).1.map Cm.d,os,dY es,x+1,ts⟩ bd G.num.hl (x0 cs) rfl rfl (runX cs (Cm.nums bd 0).1 (x+1) ts) rfl
 have hdr:=a44 4 (Cm.nums bd 0).1 (by omega) G.num.hl G.num.h8
 generalize runX cs (Cm.nums bd 0).1 (x+1) ts=y at r5 e1 e2 hch
 obtain ⟨htk,hch⟩:=hch
 rw [htk] at r5
 generalize Cm.drs (Cm.nums bd 0).1=E at hdr hch
 have r8:=aT5
 have hzz:=a4H
 unfold sb at r3
 have hw:IntKind.i64.wrap ((1+(x:Int)) - 1)=((x+1 - 1:Nat):Int):=by rw [i64_in]<;>omega
 rw [<- hw] at r4
 rw [show ((x+1:Nat):Int)=1+(x:Int) by omega] at r5
 have t1':decide (((y.ch.length:Nat):Int) > (((ts.map oD).length:Nat):Int))=false:=decide_eq_false (by rw [List.length_map];omega)
 have t2:((((y.ch.map chD).length:Nat):Int) != ((y.ch.length:Nat):Int))=false:=by rw [List.length_map];simp
 refine ret_of rfl rfl (r0 ?_)
 refine Z1r ?_
 refine af rfl ?_
 refine cB (fun i=>[.d (.int .i64 (1+(x:Int))),.d (.slice (ts.map oD)),.ptr 0 0 0 0,.d (.int .i64 (y.ch.length:Nat)),.d (.slice (E.map Cm.d)),.d (.int .i64 i)]) (fun _=>[a4D y]) y.ch.length (fun i hi hn => ?_) ?_
 · have hwi:=ac i (by omega)
   have ht:decide ((i:Int) < ((y.ch.length:Nat):Int))=true:=decide_eq_true (by omega)
   obtain ⟨v,lo,w,hE,hw0,hp2⟩:=hch i y.ch[i] (List.getElem?_eq_getElem hi)
   have g1:(y.ch.map chD)[i]?=some (chD y.ch[i]):=by rw [List.getElem?_map,List.getElem?_eq_getElem hi];rfl
   generalize y.ch[i]=p at hE hp2 g1
   obtain ⟨st,oc⟩:=p
   dsimp only at hE hp2 g1
   have g2:(E.map Cm.d)[st]?=some (cmD 2 v st .z (.tab lo w) [] [] [] []):=by rw [List.getElem?_map,hE];rfl
   have hsE:=(List.getElem?_eq_some_iff.1 hE).1
   have hit:i < ts.length:=by omega
   have g3:(ts.map oD)[i]?=some (oD ts[i]):=by rw [List.getElem?_map,List.getElem?_eq_getElem hit];rfl
   have hq:Fix.q ⟨cs,(Cm.nums bd 0).1.map Cm.d,os,dY es,x+1,ts⟩ i=mkRat ((ts[i]:Nat):Int) (x+1):=by
    unfold Fix.q
    dsimp only
    rw [List.getD_eq_getElem?_getD,List.getElem?_eq_getElem hit];rfl
   rw [hq] at hp2
   have htb:ts[i] < x+1:=hall _ (List.getElem_mem hit)
   generalize ts[i]=t at g3 hp2 htb
   have hnw:=a49 (t:=t) (b:=x+1) (by omega) htb
   rw [show ((x+1:Nat):Int)=1+(x:Int) by omega] at hnw
   obtain ⟨ssq0,TKq0⟩:=a47 w hw0
   obtain ⟨k1,k2,k3⟩:=TKq0.hp (x+1) (by omega) t htb
   have hxq:=a4B (x+1) (by omega) t htb
   rw [<- hp2] at k1 k2 k3
   generalize redQ t (x+1)=q at hnw k2 k3 hxq
   have f1:decide ((st:Int) < 0)=false:=decide_eq_false (by omega)
   have f2:decide ((st:Int)>=(((E.map Cm.d).length:Nat):Int))=false:=decide_eq_false (by rw [List.length_map];omega)
   have f3:decide ((oc:Int) < 0)=false:=decide_eq_false (by omega)
   have f4:decide ((oc:Int)>=((w.length:Nat):Int))=false:=decide_eq_false (by omega)
   have h3:=TKq0.h3
   unfold ah
   refine Z1r ?_
   refine af rfl ?_
   have h0:=TKq0.h0
   refine lO (vs':=[.d (.int .i64 (1+(x:Int))),.d (.slice (ts.map oD)),.ptr 0 0 0 0,.d (.int .i64 (y.ch.length:Nat)),.d (.slice (E.map Cm.d)),.d (.int .i64 i),.ptr 1 0 0 0,.ptr 2 0 0 0,.ptr 3 0 0 0,.d (.int .i64 (0:Nat))]) (s':=[a4D y,a4F (st,oc),a4C q,a4C (ssq0.getD 0 (0,1))]) ?_ rfl (by rw [h0];rfl)
   refine cB (fun k=>[.d (.int .i64 (1+(x:Int))),.d (.slice (ts.map oD)),.ptr 0 0 0 0,.d (.int .i64 (y.ch.length:Nat)),.d (.slice (E.map Cm.d)),.d (.int .i64 i),.ptr 1 0 0 0,.ptr 2 0 0 0,.ptr 3 0 0 0,.d (.int .i64 k)]) (fun k=>[a4D y,a4F (st,oc),a4C q,a4C (ssq0.getD k (0,1))]) (oc+1) (fun k hk hm => ?_) ?_
   · have hwk:=ac k (by omega)
     have c1:decide ((k:Int)<=(oc:Int))=true:=decide_eq_true (by omega)
     have hkw:k < w.length:=by omega
     have g4:w[k]?=some w[k]:=List.getElem?_eq_getElem hkw
     have hcm:=a4A (TKq0.hs k) hxq
     have c2:decide (sgN (ssq0.getD k (0,1)) q > 0)=false:=decide_eq_false (k2 k (by omega))
     obtain ⟨u,⟨wkq0,hwq⟩,v1,v2,v3q0⟩:=TKq0.hv k w[k] g4
     rw [hwq] at g4 v1 v2
     generalize ssq0.getD k (0,1)=sk at hcm c2 v3q0
     generalize ssq0.getD (k+1) (0,1)=snq0 at v3q0 hm
     unfold ah
     refine Z1r ?_
     refine af rfl (lO hm ?_ ?_)
     · exact vc rfl (vc rfl (vc rfl (vc rfl (vc rfl (vc rfl (vc rfl (vc rfl (vc rfl (vc (dI hwk) rfl)))))))))
     · rfl
   · have c1:decide (((oc+1:Nat):Int)<=(oc:Int))=false:=decide_eq_false (by omega)
     have hcm:=a4A (TKq0.hs (oc+1)) hxq
     have c2:decide (sgN (ssq0.getD (oc+1) (0,1)) q<=0)=false:=decide_eq_false (by omega)
     generalize ssq0.getD (oc+1) (0,1)=sk at hcm c2
     unfold ah
     refine Z1r ?_
     refine af rfl (lO hn ?_ ?_)
     · exact vc rfl (vc rfl (vc rfl (vc rfl (vc rfl (vc (dI hwi) rfl)))))
     · rfl
 · have ht:decide (((y.ch.length:Nat):Int) < ((y.ch.length:Nat):Int))=false:=decide_eq_false (by omega)
   unfold ah
   refine Z1 ?_
   rfl
end Go.Proofs.YtemffeblbmimfaaGreat
