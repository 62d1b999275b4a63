/- Calls and what they answer,one on top of the others: part 0. Printed by wip/tools/tab.py. -/
import Derived.Test.YtncfpmehhfdipaaGreatA08
import Derived.Test.YtncfpmehhfdipaaGreatA09
import Derived.Test.YtncfpmehhfdipaaGreatA06
import Derived.IntWalk
import Derived.Laws.Bits64
import Derived.Laws.BitsLemmas
set_option linter.unusedSimpArgs false
set_option linter.unusedVariables false
set_option linter.unnecessarySimpa false
namespace Go.Proofs.YtncfpmehhfdipaaGreat
set_option maxRecDepth 100000
theorem ub0:Q1 189 (S []) (S []):=Tk .n
theorem ub1:Q1 189 (S [W 1]) (S [W 1]):=Tk .n
theorem ub2:Q3 149 (B false) (S []) (S [W 1]) (A [B false,S [],S [W 1]]):=Tk (.c ub0 (.c ub1 .n))
theorem ub3:Q1 195 (A [B false,S [],S []]) (A [B false,S [],S [W 1]]):=Tk (.c ub2 .n)
theorem ub4:Q1 189 (S [W 2]) (S [W 2]):=Tk .n
theorem ub5:Q1 219 (.int .u64 1) (S [W 1]):=Tk .n
theorem ub6:Q3 149 (B false) (S [W 1]) (S [W 2]) (A [B false,S [W 1],S [W 2]]):=Tk (.c ub1 (.c ub4 (.c ub5 .n)))
theorem ub7:Q1 195 (A [B false,S [W 1],S [W 2]]) (A [B false,S [W 1],S [W 2]]):=Tk (.c ub6 .n)
theorem ub8:Q2 196 (S []) (S [W 2]) (S []):=Tk .n
theorem ub9:Q2 196 (S [W 1]) (S [W 1]) (S [W 1]):=Tk .n
theorem azR:Q2 196 (S [W 1]) (S [W 2]) (S [W 2]):=Tk .n
theorem axX:Q2 226 (S []) (S [W 1]) (S [W 1]):=Tk .n
theorem aS8:Q5 198 (B false) (S []) (B false) (S [W 1]) (S [W 2]) (A [B false,S [W 1],S [W 2]]):=Tk (.c axX (.c ub6 .n))
theorem aUS:Q1 157 (A [B false,S [W 1],S [W 2]]) (I 1):=Tk (.c ub7 .n)
theorem atQ:Q1 200 (.int .u64 1) (I 1):=Tk .n
def aA7:D:=S [A [I 0,I 0,I 0,I 0,I 0,I 0,I 0,I 0,B false,S [W 1],S [W 2]]]
theorem aS7:Q1 112 aA7 aA7:=Tk (.c ub3 (.c ub7 (.c ub8 (.c ub9 (.c azR (.c aS8 (.c aUS (.c atQ .n))))))))
theorem aUR:Q1 68 aA7 (U [aA7,I 0]):=Tk (.c aS7 .n)
theorem aUQ:Q1 200 (.int .u64 0) (I 0):=Tk .n
theorem aUP:Q1 112 (S []) (S []):=Tk (.c aUQ .n)
theorem a6H:Q1 68 (S []) (U [S [],I 0]):=Tk (.c aUP .n)
theorem aHF:Q1 189 (S [W 4]) (S [W 4]):=Tk .n
theorem aS6:Q1 219 (.int .u64 4) (S [W 4]):=Tk .n
theorem auE:Q1 219 (.int .u64 0) (S []):=Tk .n
theorem aUO:Q5 198 (B false) (S [W 2]) (B false) (S [W 2]) (S [W 4]) (A [B false,S [W 1],S [W 1]]):=Tk (.c aHF (.c aS6 (.c auE .n)))
theorem aHE:Q2 156 (A [B false,S [W 1],S [W 2]]) (A [B false,S [W 1],S [W 2]]) (A [B false,S [W 1],S [W 1]]):=Tk (.c ub7 (.c azR (.c aUO .n)))
theorem aS5:Q1 223 (S [W 1]) (B false):=Tk .n
theorem aUN:Q2 190 (S [W 1]) (S [W 1]) (S [W 1]):=Tk (.c ub1 (.c ub5 .n))
theorem aS4:Q3 149 (B false) (S [W 1]) (S [W 1]) (A [B false,S [W 1],S [W 1]]):=Tk (.c ub1 (.c aUN .n))
theorem aIC:Q1 195 (A [B false,S [W 1],S [W 1]]) (A [B false,S [W 1],S [W 1]]):=Tk (.c aS5 (.c aS4 .n))
theorem aUM:Q1 157 (A [B false,S [W 1],S [W 1]]) (I 1):=Tk (.c aIC .n)
theorem atH:Q1 195 (A [B false,S [],S [W 1]]) (A [B false,S [],S [W 1]]):=Tk (.c aS5 (.c ub2 .n))
theorem aS3:Q1 223 (S [W 4]) (B false):=Tk .n
theorem aS2:Q3 149 (B false) (S [W 1]) (S [W 4]) (A [B false,S [W 1],S [W 4]]):=Tk (.c ub1 (.c aHF (.c ub5 .n)))
theorem axE:Q1 195 (A [B false,S [W 1],S [W 4]]) (A [B false,S [W 1],S [W 4]]):=Tk (.c aS3 (.c aS2 .n))
theorem aHD:Q2 196 (S []) (S [W 4]) (S []):=Tk .n
theorem axD:Q2 196 (S [W 1]) (S [W 4]) (S [W 4]):=Tk .n
theorem aS1:Q5 198 (B false) (S []) (B false) (S [W 1]) (S [W 4]) (A [B false,S [W 1],S [W 4]]):=Tk (.c axX (.c aS2 .n))
theorem aUL:Q1 157 (A [B false,S [W 1],S [W 4]]) (I 1):=Tk (.c axE .n)
def aA6:D:=S [A [I 0,I 0,I 0,I 0,I 0,I 0,I 0,I 0,B false,S [W 1],S [W 4]]]
theorem aS0:Q1 112 aA6 aA6:=Tk (.c ub3 (.c axE (.c aHD (.c ub9 (.c axD (.c aS1 (.c aUL (.c atQ .n))))))))
theorem aUK:Q1 68 aA6 (U [aA6,I 0]):=Tk (.c aS0 .n)
theorem aUJ:Q2 196 (S [W 2]) (S [W 4]) (S [W 8]):=Tk .n
theorem aHC:Q1 189 (S [W 6]) (S [W 6]):=Tk .n
theorem aHB:Q1 189 (S [W 8]) (S [W 8]):=Tk .n
theorem aRZ:Q3 149 (B false) (S [W 6]) (S [W 8]) (A [B false,S [W 3],S [W 4]]):=Tk (.c aHC (.c aHB (.c auE .n)))
theorem aIB:Q2 156 (A [B false,S [W 1],S [W 2]]) (A [B false,S [W 1],S [W 4]]) (A [B false,S [W 3],S [W 4]]):=Tk (.c ub7 (.c axE (.c axD (.c azR (.c aUJ (.c aRZ .n))))))
theorem azQ:Q1 189 (S [W 3]) (S [W 3]):=Tk .n
theorem aRY:Q3 149 (B false) (S [W 3]) (S [W 4]) (A [B false,S [W 3],S [W 4]]):=Tk (.c azQ (.c aHF (.c ub5 .n)))
theorem aAA:Q1 195 (A [B false,S [W 3],S [W 4]]) (A [B false,S [W 3],S [W 4]]):=Tk (.c aS3 (.c aRY .n))
theorem aUI:Q1 157 (A [B false,S [W 3],S [W 4]]) (I 1):=Tk (.c aAA .n)
theorem aRX:Q2 196 (S [W 3]) (S [W 4]) (S [W 12]):=Tk .n
theorem aRW:Q2 196 (S [W 4]) (S [W 4]) (S [W 16]):=Tk .n
theorem aUH:Q1 189 (S [W 16]) (S [W 16]):=Tk .n
theorem aRV:Q3 149 (B false) (S [W 16]) (S [W 16]) (A [B false,S [W 1],S [W 1]]):=Tk (.c aUH (.c auE .n))
theorem axC:Q2 156 (A [B false,S [W 3],S [W 4]]) (A [B false,S [W 1],S [W 4]]) (A [B false,S [W 1],S [W 1]]):=Tk (.c aAA (.c axE (.c aRX (.c axD (.c aRW (.c aRV .n))))))
theorem aRU:Q1 223 (S [W 3]) (B false):=Tk .n
theorem aUG:Q2 190 (S [W 1]) (S [W 3]) (S [W 1]):=Tk (.c ub1 (.c azQ (.c ub5 .n)))
theorem aRT:Q3 149 (B false) (S [W 1]) (S [W 3]) (A [B false,S [W 1],S [W 3]]):=Tk (.c ub1 (.c azQ (.c aUG .n)))
theorem axK:Q1 195 (A [B false,S [W 1],S [W 3]]) (A [B false,S [W 1],S [W 3]]):=Tk (.c aRU (.c aRT .n))
theorem aHA:Q2 196 (S []) (S [W 3]) (S []):=Tk .n
theorem axB:Q2 196 (S [W 1]) (S [W 3]) (S [W 3]):=Tk .n
theorem aRS:Q5 198 (B false) (S []) (B false) (S [W 1]) (S [W 3]) (A [B false,S [W 1],S [W 3]]):=Tk (.c axX (.c aRT .n))
theorem aUF:Q1 157 (A [B false,S [W 1],S [W 3]]) (I 1):=Tk (.c axK .n)
def aA5:D:=S [A [I 0,I 0,I 0,I 0,I 0,I 0,I 0,I 0,B false,S [W 1],S [W 3]]]
theorem aRR:Q1 112 aA5 aA5:=Tk (.c ub3 (.c axK (.c aHA (.c ub9 (.c axB (.c aRS (.c aUF (.c atQ .n))))))))
theorem aUE:Q1 68 aA5 (U [aA5,I 0]):=Tk (.c aRR .n)
theorem aIA:Q2 196 (S [W 3]) (S [W 3]) (S [W 9]):=Tk .n
theorem aRQ:Q1 189 (S [W 9]) (S [W 9]):=Tk .n
theorem aUD:Q1 219 (.int .u64 3) (S [W 3]):=Tk .n
theorem aUC:Q2 220 (S [W 6]) (S [W 3]) (I 1):=Tk .n
theorem aUB:Q2 191 (S [W 6]) (S [W 3]) (U [S [W 2],S [],I 0]):=Tk (.c aUC (.c auE .n))
theorem aUA:Q2 191 (S [W 9]) (S [W 3]) (U [S [W 3],S [],I 0]):=Tk (.c auE .n)
theorem aI9:Q2 156 (A [B false,S [W 1],S [W 3]]) (A [B false,S [W 1],S [W 3]]) (A [B false,S [W 2],S [W 3]]):=Tk (.c axK (.c axB (.c aIA (.c aHC (.c aRQ (.c aUD (.c aUB (.c aUA .n))))))))
theorem aU9:Q2 190 (S [W 2]) (S [W 3]) (S [W 1]):=Tk (.c ub4 (.c azQ (.c ub5 .n)))
theorem aRP:Q3 149 (B false) (S [W 2]) (S [W 3]) (A [B false,S [W 2],S [W 3]]):=Tk (.c ub4 (.c azQ (.c aU9 .n)))
theorem aA9:Q1 195 (A [B false,S [W 2],S [W 3]]) (A [B false,S [W 2],S [W 3]]):=Tk (.c aRU (.c aRP .n))
theorem aU8:Q1 157 (A [B false,S [W 2],S [W 3]]) (I 1):=Tk (.c aA9 .n)
theorem aRO:Q2 196 (S [W 2]) (S [W 3]) (S [W 6]):=Tk .n
theorem aRN:Q3 149 (B false) (S [W 9]) (S [W 9]) (A [B false,S [W 1],S [W 1]]):=Tk (.c aRQ (.c auE .n))
theorem aA8:Q2 156 (A [B false,S [W 2],S [W 3]]) (A [B false,S [W 1],S [W 3]]) (A [B false,S [W 1],S [W 1]]):=Tk (.c aA9 (.c axK (.c aRO (.c axB (.c aIA (.c aRN .n))))))
theorem azP:Q1 189 (S [W 5]) (S [W 5]):=Tk .n
theorem aRM:Q3 149 (B false) (S [W 5]) (S [W 6]) (A [B false,S [W 5],S [W 6]]):=Tk (.c azP (.c aHC (.c ub5 .n)))
theorem aI8:Q2 156 (A [B false,S [W 1],S [W 3]]) (A [B false,S [W 1],S [W 2]]) (A [B false,S [W 5],S [W 6]]):=Tk (.c axK (.c ub7 (.c azR (.c axB (.c aRM .n)))))
theorem aRL:Q1 223 (S [W 6]) (B false):=Tk .n
theorem aU7:Q1 195 (A [B false,S [W 5],S [W 6]]) (A [B false,S [W 5],S [W 6]]):=Tk (.c aRL (.c aRM .n))
theorem aRK:Q3 149 (B false) (S [W 1]) (S [W 6]) (A [B false,S [W 1],S [W 6]]):=Tk (.c ub1 (.c aHC (.c ub5 .n)))
theorem aH9:Q1 195 (A [B false,S [W 1],S [W 6]]) (A [B false,S [W 1],S [W 6]]):=Tk (.c aRL (.c aRK .n))
theorem aRJ:Q2 196 (S []) (S [W 6]) (S []):=Tk .n
theorem aI7:Q2 196 (S [W 1]) (S [W 6]) (S [W 6]):=Tk .n
theorem aRI:Q5 198 (B false) (S []) (B false) (S [W 1]) (S [W 6]) (A [B false,S [W 1],S [W 6]]):=Tk (.c axX (.c aRK .n))
theorem aU6:Q1 157 (A [B false,S [W 1],S [W 6]]) (I 1):=Tk (.c aH9 .n)
def aA4:D:=S [A [I 0,I 0,I 0,I 0,I 0,I 0,I 0,I 0,B false,S [W 1],S [W 6]]]
theorem aRH:Q1 112 aA4 aA4:=Tk (.c ub3 (.c aH9 (.c aRJ (.c ub9 (.c aI7 (.c aRI (.c aU6 (.c atQ .n))))))))
theorem aU5:Q1 68 aA4 (U [aA4,I 0]):=Tk (.c aRH .n)
theorem aU4:Q1 189 (S [W 36]) (S [W 36]):=Tk .n
theorem aU3:Q5 198 (B false) (S [W 30]) (B false) (S [W 6]) (S [W 36]) (A [B false,S [W 1],S [W 1]]):=Tk (.c aU4 (.c auE .n))
theorem aI6:Q2 156 (A [B false,S [W 5],S [W 6]]) (A [B false,S [W 1],S [W 6]]) (A [B false,S [W 1],S [W 1]]):=Tk (.c aU7 (.c aH9 (.c aI7 (.c aU3 .n))))
theorem aU2:Q2 196 (S [W 4]) (S [W 2]) (S [W 8]):=Tk .n
theorem aI5:Q2 156 (A [B false,S [W 1],S [W 4]]) (A [B false,S [W 1],S [W 2]]) (A [B false,S [W 3],S [W 4]]):=Tk (.c axE (.c ub7 (.c azR (.c axD (.c aU2 (.c aRZ .n))))))
theorem asM:Q1 107 (I 0) (A [B false,S [],S [W 1]]):=Tk (.c ub2 .n)
theorem axA:Q2 156 (A [B false,S [],S [W 1]]) (A [B false,S [W 1],S [W 2]]) (A [B false,S [W 1],S [W 2]]):=Tk (.c atH (.c ub7 (.c ub8 (.c ub9 (.c azR (.c aS8 .n))))))
theorem atP:Q1 443 aA7 (A [B false,S [W 1],S [W 2]]):=Tk (.c aS7 (.c asM (.c axA .n)))
theorem aU1:Q1 189 (S [W 7]) (S [W 7]):=Tk .n
theorem axZ:Q1 443 (S []) (A [B false,S [],S [W 1]]):=Tk (.c aUP (.c asM .n))
theorem auJ:Q2 196 (S [W 2]) (S [W 1]) (S [W 2]):=Tk .n
theorem aBD:Q2 156 (A [B false,S [W 1],S [W 2]]) (A [B false,S [],S [W 1]]) (A [B false,S [W 1],S [W 2]]):=Tk (.c ub7 (.c atH (.c ub9 (.c ub8 (.c auJ (.c ub6 .n))))))
theorem atA:Q2 156 (A [B false,S [],S [W 1]]) (A [B false,S [W 1],S [W 4]]) (A [B false,S [W 1],S [W 4]]):=Tk (.c atH (.c axE (.c aHD (.c ub9 (.c axD (.c aS1 .n))))))
theorem asZ:Q1 443 aA6 (A [B false,S [W 1],S [W 4]]):=Tk (.c aS0 (.c asM (.c atA .n)))
theorem aBC:Q3 149 (B false) (S [W 1]) (S [W 8]) (A [B false,S [W 1],S [W 8]]):=Tk (.c ub1 (.c aHB (.c ub5 .n)))
theorem aJ2:Q2 220 (S [W 8]) (S []) (I 1):=Tk .n
theorem axY:Q1 223 (S [W 8]) (B false):=Tk (.c aJ2 .n)
theorem aw0:Q1 195 (A [B false,S [W 1],S [W 8]]) (A [B false,S [W 1],S [W 8]]):=Tk (.c axY (.c aBC .n))
theorem aJ1:Q1 157 (A [B false,S [W 1],S [W 8]]) (I 1):=Tk (.c aw0 .n)
theorem at9:Q2 156 (A [B false,S [],S [W 1]]) (A [B false,S [W 1],S [W 3]]) (A [B false,S [W 1],S [W 3]]):=Tk (.c atH (.c axK (.c aHA (.c ub9 (.c axB (.c aRS .n))))))
theorem at6:Q1 443 aA5 (A [B false,S [W 1],S [W 3]]):=Tk (.c aRR (.c asM (.c at9 .n)))
theorem axW:Q1 443 aA4 (A [B false,S [W 1],S [W 6]]):=Tk (.c aRH (.c asM (.c atH (.c aH9 (.c aRJ (.c ub9 (.c aI7 (.c aRI .n))))))))
theorem aJ0:Q1 189 (S [W 32]) (S [W 32]):=Tk .n
theorem aIZ:Q2 191 (S [W 32]) (S [W 4]) (U [S [W 8],S [],I 0]):=Tk (.c auE .n)
theorem aBB:Q2 226 (S []) (S [W 2]) (S [W 2]):=Tk .n
theorem aBA:Q5 198 (B false) (S []) (B false) (S [W 2]) (S [W 3]) (A [B false,S [W 2],S [W 3]]):=Tk (.c aBB (.c aRP .n))
def aA3:D:=S [A [I 0,I 0,I 0,I 0,I 0,I 0,I 0,I 0,B false,S [W 2],S [W 3]]]
theorem aB9:Q1 112 aA3 aA3:=Tk (.c ub3 (.c aA9 (.c aHA (.c auJ (.c axB (.c aBA (.c aU8 (.c atQ .n))))))))
theorem aIY:Q1 68 aA3 (U [aA3,I 0]):=Tk (.c aB9 .n)
theorem axV:Q2 156 (A [B false,S [],S [W 1]]) (A [B false,S [W 2],S [W 3]]) (A [B false,S [W 2],S [W 3]]):=Tk (.c atH (.c aA9 (.c aHA (.c auJ (.c axB (.c aBA .n))))))
theorem avZ:Q1 443 aA3 (A [B false,S [W 2],S [W 3]]):=Tk (.c aB9 (.c asM (.c axV .n)))
theorem aB8:Q3 149 (B false) (S [W 5]) (S [W 8]) (A [B false,S [W 5],S [W 8]]):=Tk (.c azP (.c aHB (.c ub5 .n)))
theorem avY:Q1 195 (A [B false,S [W 5],S [W 8]]) (A [B false,S [W 5],S [W 8]]):=Tk (.c axY (.c aB8 .n))
theorem avX:Q2 196 (S []) (S [W 8]) (S []):=Tk .n
theorem aB7:Q2 196 (S [W 5]) (S [W 1]) (S [W 5]):=Tk .n
theorem atS:Q2 196 (S [W 1]) (S [W 8]) (S [W 8]):=Tk .n
theorem aB6:Q5 198 (B false) (S []) (B false) (S [W 5]) (S [W 8]) (A [B false,S [W 5],S [W 8]]):=Tk (.c aB8 .n)
theorem aIX:Q1 157 (A [B false,S [W 5],S [W 8]]) (I 1):=Tk (.c avY .n)
def aA2:D:=S [A [I 0,I 0,I 0,I 0,I 0,I 0,I 0,I 0,B false,S [W 5],S [W 8]]]
theorem aB5:Q1 112 aA2 aA2:=Tk (.c ub3 (.c avY (.c avX (.c aB7 (.c atS (.c aB6 (.c aIX (.c atQ .n))))))))
theorem aIW:Q1 68 aA2 (U [aA2,I 0]):=Tk (.c aB5 .n)
theorem aIV:Q1 189 (S [W 28]) (S [W 28]):=Tk .n
theorem aIU:Q3 149 (B false) (S [W 28]) (S [W 32]) (A [B false,S [W 7],S [W 8]]):=Tk (.c aIV (.c aJ0 (.c aS6 (.c auE (.c aIZ .n)))))
theorem axU:Q2 156 (A [B false,S [W 1],S [W 4]]) (A [B false,S [W 5],S [W 8]]) (A [B false,S [W 7],S [W 8]]):=Tk (.c axE (.c avY (.c atS (.c aIU .n))))
theorem aIT:Q1 195 (A [B false,S [W 7],S [W 8]]) (A [B false,S [W 7],S [W 8]]):=Tk (.c axY (.c aU1 (.c aHB (.c ub5 .n))))
theorem aB4:Q5 198 (B false) (S []) (B false) (S [W 1]) (S [W 8]) (A [B false,S [W 1],S [W 8]]):=Tk (.c axX (.c aBC .n))
def aA1:D:=S [A [I 0,I 0,I 0,I 0,I 0,I 0,I 0,I 0,B false,S [W 1],S [W 8]]]
theorem aB3:Q1 112 aA1 aA1:=Tk (.c ub3 (.c aw0 (.c avX (.c ub9 (.c atS (.c aB4 (.c aJ1 (.c atQ .n))))))))
theorem aIS:Q1 68 aA1 (U [aA1,I 0]):=Tk (.c aB3 .n)
theorem aIR:Q2 196 (S [W 8]) (S [W 8]) (S [W 64]):=Tk .n
theorem aIQ:Q1 189 (S [W 64]) (S [W 64]):=Tk .n
theorem aIP:Q5 198 (B false) (S [W 56]) (B false) (S [W 8]) (S [W 64]) (A [B false,S [W 1],S [W 1]]):=Tk (.c aIQ (.c auE .n))
theorem axT:Q2 156 (A [B false,S [W 7],S [W 8]]) (A [B false,S [W 1],S [W 8]]) (A [B false,S [W 1],S [W 1]]):=Tk (.c aIT (.c aw0 (.c atS (.c aIR (.c aIP .n)))))
theorem aB2:Q5 198 (B false) (S []) (B false) (S [W 1]) (S [W 1]) (A [B false,S [W 1],S [W 1]]):=Tk (.c axX (.c aS4 .n))
def aA0:D:=S [A [I 0,I 0,I 0,I 0,I 0,I 0,I 0,I 0,B false,S [W 1],S [W 1]]]
theorem aB1:Q1 112 aA0 aA0:=Tk (.c ub3 (.c aIC (.c aB2 (.c aUM (.c atQ .n)))))
theorem aIO:Q1 68 aA0 (U [aA0,I 0]):=Tk (.c aB1 .n)
theorem axS:Q1 443 aA2 (A [B false,S [W 5],S [W 8]]):=Tk (.c aB5 (.c asM (.c atH (.c avY (.c avX (.c aB7 (.c atS (.c aB6 .n))))))))
theorem axR:Q1 443 aA1 (A [B false,S [W 1],S [W 8]]):=Tk (.c aB3 (.c asM (.c atH (.c aw0 (.c avX (.c ub9 (.c atS (.c aB4 .n))))))))
theorem axQ:Q2 156 (A [B false,S [],S [W 1]]) (A [B false,S [W 1],S [W 1]]) (A [B false,S [W 1],S [W 1]]):=Tk (.c atH (.c aIC (.c aB2 .n)))
theorem aB0:Q1 443 aA0 (A [B false,S [W 1],S [W 1]]):=Tk (.c aB1 (.c asM (.c axQ .n)))
theorem aIN:Q2 156 (A [B false,S [],S [W 1]]) (A [B false,S [],S [W 1]]) (A [B false,S [],S [W 1]]):=Tk (.c atH (.c ub2 .n))
theorem aAZ:Q2 156 (A [B false,S [W 1],S [W 3]]) (A [B false,S [W 2],S [W 3]]) (A [B false,S [W 1],S [W 1]]):=Tk (.c axK (.c aA9 (.c axB (.c aRO (.c aIA (.c aRN .n))))))
theorem avW:Q2 196 (S [W 3]) (S [W 1]) (S [W 3]):=Tk .n
theorem aAY:Q2 226 (S []) (S [W 3]) (S [W 3]):=Tk .n
theorem aAX:Q5 198 (B false) (S []) (B false) (S [W 3]) (S [W 4]) (A [B false,S [W 3],S [W 4]]):=Tk (.c aAY (.c aRY .n))
def azZ:D:=S [A [I 0,I 0,I 0,I 0,I 0,I 0,I 0,I 0,B false,S [W 3],S [W 4]]]
theorem aAW:Q1 112 azZ azZ:=Tk (.c ub3 (.c aAA (.c aHD (.c avW (.c axD (.c aAX (.c aUI (.c atQ .n))))))))
theorem aIM:Q1 68 azZ (U [azZ,I 0]):=Tk (.c aAW .n)
theorem aAV:Q2 156 (A [B false,S [W 1],S [W 4]]) (A [B false,S [W 3],S [W 4]]) (A [B false,S [W 1],S [W 1]]):=Tk (.c axE (.c aAA (.c axD (.c aRX (.c aRW (.c aRV .n))))))
theorem axP:Q2 156 (A [B false,S [],S [W 1]]) (A [B false,S [W 3],S [W 4]]) (A [B false,S [W 3],S [W 4]]):=Tk (.c atH (.c aAA (.c aHD (.c avW (.c axD (.c aAX .n))))))
theorem avV:Q1 443 azZ (A [B false,S [W 3],S [W 4]]):=Tk (.c aAW (.c asM (.c axP .n)))
theorem avU:Q1 223 (S [W 5]) (B false):=Tk .n
theorem aAU:Q3 149 (B false) (S [W 4]) (S [W 5]) (A [B false,S [W 4],S [W 5]]):=Tk (.c aHF (.c azP (.c ub5 .n)))
theorem auI:Q1 195 (A [B false,S [W 4],S [W 5]]) (A [B false,S [W 4],S [W 5]]):=Tk (.c avU (.c aAU .n))
theorem atC:Q2 196 (S []) (S [W 5]) (S []):=Tk .n
theorem aAT:Q2 196 (S [W 4]) (S [W 1]) (S [W 4]):=Tk .n
theorem at5:Q2 196 (S [W 1]) (S [W 5]) (S [W 5]):=Tk .n
theorem aAS:Q5 198 (B false) (S []) (B false) (S [W 4]) (S [W 5]) (A [B false,S [W 4],S [W 5]]):=Tk (.c aAU .n)
theorem aIL:Q1 157 (A [B false,S [W 4],S [W 5]]) (I 1):=Tk (.c auI .n)
def azY:D:=S [A [I 0,I 0,I 0,I 0,I 0,I 0,I 0,I 0,B false,S [W 4],S [W 5]]]
theorem aAR:Q1 112 azY azY:=Tk (.c ub3 (.c auI (.c atC (.c aAT (.c at5 (.c aAS (.c aIL (.c atQ .n))))))))
theorem aIK:Q1 68 azY (U [azY,I 0]):=Tk (.c aAR .n)
theorem aAQ:Q3 149 (B false) (S [W 1]) (S [W 5]) (A [B false,S [W 1],S [W 5]]):=Tk (.c ub1 (.c azP (.c ub5 .n)))
theorem auH:Q1 195 (A [B false,S [W 1],S [W 5]]) (A [B false,S [W 1],S [W 5]]):=Tk (.c avU (.c aAQ .n))
theorem aAP:Q5 198 (B false) (S []) (B false) (S [W 1]) (S [W 5]) (A [B false,S [W 1],S [W 5]]):=Tk (.c axX (.c aAQ .n))
theorem aIJ:Q1 157 (A [B false,S [W 1],S [W 5]]) (I 1):=Tk (.c auH .n)
def auD:D:=S [A [I 0,I 0,I 0,I 0,I 0,I 0,I 0,I 0,B false,S [W 1],S [W 5]]]
theorem aAO:Q1 112 auD auD:=Tk (.c ub3 (.c auH (.c atC (.c ub9 (.c at5 (.c aAP (.c aIJ (.c atQ .n))))))))
theorem aII:Q1 68 auD (U [auD,I 0]):=Tk (.c aAO .n)
theorem aAN:Q2 196 (S [W 4]) (S [W 5]) (S [W 20]):=Tk .n
theorem avT:Q2 196 (S [W 5]) (S [W 5]) (S [W 25]):=Tk .n
theorem aIH:Q1 189 (S [W 25]) (S [W 25]):=Tk .n
theorem avS:Q3 149 (B false) (S [W 25]) (S [W 25]) (A [B false,S [W 1],S [W 1]]):=Tk (.c aIH (.c auE .n))
theorem aAM:Q2 156 (A [B false,S [W 4],S [W 5]]) (A [B false,S [W 1],S [W 5]]) (A [B false,S [W 1],S [W 1]]):=Tk (.c auI (.c auH (.c aAN (.c at5 (.c avT (.c avS .n))))))
theorem aAL:Q3 149 (B false) (S [W 3]) (S [W 5]) (A [B false,S [W 3],S [W 5]]):=Tk (.c azQ (.c azP (.c ub5 .n)))
theorem auG:Q1 195 (A [B false,S [W 3],S [W 5]]) (A [B false,S [W 3],S [W 5]]):=Tk (.c avU (.c aAL .n))
theorem aAK:Q5 198 (B false) (S []) (B false) (S [W 3]) (S [W 5]) (A [B false,S [W 3],S [W 5]]):=Tk (.c aAY (.c aAL .n))
theorem aIG:Q1 157 (A [B false,S [W 3],S [W 5]]) (I 1):=Tk (.c auG .n)
def auC:D:=S [A [I 0,I 0,I 0,I 0,I 0,I 0,I 0,I 0,B false,S [W 3],S [W 5]]]
theorem aAJ:Q1 112 auC auC:=Tk (.c ub3 (.c auG (.c atC (.c avW (.c at5 (.c aAK (.c aIG (.c atQ .n))))))))
theorem aIF:Q1 68 auC (U [auC,I 0]):=Tk (.c aAJ .n)
theorem aAI:Q3 149 (B false) (S [W 2]) (S [W 5]) (A [B false,S [W 2],S [W 5]]):=Tk (.c ub4 (.c azP (.c ub5 .n)))
theorem auF:Q1 195 (A [B false,S [W 2],S [W 5]]) (A [B false,S [W 2],S [W 5]]):=Tk (.c avU (.c aAI .n))
theorem aAH:Q5 198 (B false) (S []) (B false) (S [W 2]) (S [W 5]) (A [B false,S [W 2],S [W 5]]):=Tk (.c aBB (.c aAI .n))
theorem aIE:Q1 157 (A [B false,S [W 2],S [W 5]]) (I 1):=Tk (.c auF .n)
def auB:D:=S [A [I 0,I 0,I 0,I 0,I 0,I 0,I 0,I 0,B false,S [W 2],S [W 5]]]
theorem aAG:Q1 112 auB auB:=Tk (.c ub3 (.c auF (.c atC (.c auJ (.c at5 (.c aAH (.c aIE (.c atQ .n))))))))
theorem aID:Q1 68 auB (U [auB,I 0]):=Tk (.c aAG .n)
theorem aAF:Q2 196 (S [W 3]) (S [W 5]) (S [W 15]):=Tk .n
theorem aAE:Q2 196 (S [W 2]) (S [W 5]) (S [W 10]):=Tk .n
theorem aAD:Q2 156 (A [B false,S [W 3],S [W 5]]) (A [B false,S [W 2],S [W 5]]) (A [B false,S [W 1],S [W 1]]):=Tk (.c auG (.c auF (.c aAF (.c aAE (.c avT (.c avS .n))))))
theorem aAC:Q2 156 (A [B false,S [W 2],S [W 5]]) (A [B false,S [W 3],S [W 5]]) (A [B false,S [W 1],S [W 1]]):=Tk (.c auF (.c auG (.c aAE (.c aAF (.c avT (.c avS .n))))))
theorem aAB:Q2 156 (A [B false,S [W 1],S [W 5]]) (A [B false,S [W 4],S [W 5]]) (A [B false,S [W 1],S [W 1]]):=Tk (.c auH (.c auI (.c at5 (.c aAN (.c avT (.c avS .n))))))
theorem axO:Q2 156 (A [B false,S [],S [W 1]]) (A [B false,S [W 4],S [W 5]]) (A [B false,S [W 4],S [W 5]]):=Tk (.c atH (.c auI (.c atC (.c aAT (.c at5 (.c aAS .n))))))
theorem avR:Q1 443 azY (A [B false,S [W 4],S [W 5]]):=Tk (.c aAR (.c asM (.c axO .n)))
theorem axN:Q2 156 (A [B false,S [],S [W 1]]) (A [B false,S [W 1],S [W 5]]) (A [B false,S [W 1],S [W 5]]):=Tk (.c atH (.c auH (.c atC (.c ub9 (.c at5 (.c aAP .n))))))
theorem avQ:Q1 443 auD (A [B false,S [W 1],S [W 5]]):=Tk (.c aAO (.c asM (.c axN .n)))
theorem axM:Q2 156 (A [B false,S [],S [W 1]]) (A [B false,S [W 3],S [W 5]]) (A [B false,S [W 3],S [W 5]]):=Tk (.c atH (.c auG (.c atC (.c avW (.c at5 (.c aAK .n))))))
theorem avP:Q1 443 auC (A [B false,S [W 3],S [W 5]]):=Tk (.c aAJ (.c asM (.c axM .n)))
theorem axL:Q2 156 (A [B false,S [],S [W 1]]) (A [B false,S [W 2],S [W 5]]) (A [B false,S [W 2],S [W 5]]):=Tk (.c atH (.c auF (.c atC (.c auJ (.c at5 (.c aAH .n))))))
theorem avO:Q1 443 auB (A [B false,S [W 2],S [W 5]]):=Tk (.c aAG (.c asM (.c axL .n)))
end Go.Proofs.YtncfpmehhfdipaaGreat
namespace Go.Proofs.YtncfpmehhfdipaaGreat
open Go.IntWalk
attribute [local irreducible] IntKind.wrap au
def u32 (n:Nat):D := .int .u32 n
def nat (a:List Nat):D := .slice (a.map u32)
def i9:List Nat->List Nat
 | []=>[]
 | x::xs=>match i9 xs with
   | []=>if x=0 then [] else [x]
   | y::ys=>x::y::ys
theorem cw : ∀ a:List Nat,i9 (a++[0])=i9 a
 | []=>rfl
 | x::xs=>by simp only [List.cons_append,i9,cw xs]
theorem eP {x:Nat} (h:x≠0) : ∀ a:List Nat,i9 (a++[x])=a++[x]
 | []=>by simp [i9,h]
 | y::ys=>by
   simp only [List.cons_append,i9,eP h ys]
   cases ys<;>rfl
theorem jN (a:List Nat):(a.map u32).length=a.length:=List.length_map ..
theorem nk (a:List Nat):wide 1 (a.map u32)=true:=by simp [wide,u32,D.cells]
theorem qh {K:List Fr} {Q:Out->Env->aa->Prop} (n:Nat) (hb:n < 70368744177664) : ∀ (a:List Nat),a.length=n->(∀ e,bl VP 0 K Q (.exit 0) (over [(0,.d (nat (i9 a)))] e) [])->ah VP 0 [0] vg [.d (nat a)] [] K Q:=by
 induction n with
 | zero =>
   intro a hn hQ
   have:a=[]:=List.length_eq_zero_iff.1 hn
   subst this
   unfold ah
   refine Z1 ?_
   (refine ko ?_ (hQ _);repeat (first | exact trivial | refine ⟨rfl,?_⟩))
 | succ n ih =>
   intro a hn hQ
   obtain ⟨b,x,rfl⟩ : ∃ b x,a=b++[x]:=⟨a.dropLast,a.getLast (by intro h;simp [h] at hn),(List.dropLast_concat_getLast _).symm⟩
   have hl:b.length=n:=by simpa using hn
   have hlen:(((b++[x]).map u32).length:Int) > 0:=by rw [jN];omega
   have hg:((b++[x]).map u32)[b.length]?=some (u32 x):=by simp
   have hw:IntKind.i64.wrap ((((b++[x]).map u32).length:Int) - 1)=(b.length:Int):=by rw [i64_in]<;>simp<;>omega
   unfold ah
   by_cases hx:x=0
   · subst hx
     (have hz1:=decide_eq_true hlen;refine Z1 ?_)
     rw [hw]
     (have hz2:=decide_eq_true hlen;refine Z1 ?_)
     rw [hw]
     refine osh rfl rfl (by simp) (nk _) ?_
     have ht:((b++[0]).map u32).take b.length=b.map u32:=by simp
     rw [ht]
     refine Z1 ?_
     refine af rfl ?_
     rw [cw] at hQ
     exact ih (by omega) b hl hQ
   · have hne:((x:Int)==0)=false:=by simp;omega
     (have hz3:=decide_eq_true hlen;refine Z1 ?_)
     rw [hw]
     (have hz4:=decide_eq_true hlen;refine Z1 ?_)
     rw [eP hx] at hQ
     (refine ko ?_ (hQ _);repeat (first | exact trivial | refine ⟨rfl,?_⟩))
theorem bA (a:List Nat) (h:a.length < 70368744177664):Ret VP (.fn 217) [.d (nat a)] [] (.d (nat (i9 a))) []:=by
 refine ret_of rfl rfl (r0 ?_)
 refine Z1 ?_
 refine af rfl ?_
 refine qh _ h a rfl fun e => ?_
 refine Z1 ?_
 rfl
end Go.Proofs.YtncfpmehhfdipaaGreat
namespace Go.Proofs.YtncfpmehhfdipaaGreat
open Go.IntWalk
attribute [local irreducible] au
theorem amJ {x:Nat} (h:x < 18446744073709551616):(BitVec.ofInt IntKind.u64.bits (x:Int)).toNat=x:=by
 have e:IntKind.u64.bits=64:=rfl
 rw [BitVec.toNat_ofInt,e]
 omega
theorem aa9 {x y:Nat} (h:x < 18446744073709551616) (h':y < 18446744073709551616):(BitVec.ofInt IntKind.u64.bits (x:Int) ||| BitVec.ofInt IntKind.u64.bits (y:Int)).toNat=x ||| y:=by
 rw [BitVec.toNat_or,amJ h,amJ h']
theorem nN {a b:Nat} (ha:a < 4294967296):a ||| (b*4294967296)=a+b*4294967296:=by
 have:=Nat.shiftLeft_add_eq_or_of_lt (i:=32) (b:=a) (by omega) b
 rw [Nat.shiftLeft_eq] at this
 rw [Nat.or_comm,<- this];omega
theorem bn {x:Nat} (h:x < 18446744073709551616):IntKind.u64.wrap (x:Int)=x:=u64_in _ (by omega)
theorem jo {x:Nat} (h:x < 4294967296):IntKind.u32.wrap (x:Int)=x:=u32_in _ (by omega)
theorem fU (x:Nat):IntKind.u32.wrap (x:Int)=(x%4294967296:Nat):=by rw [IntKind.wrap_u32];omega
theorem lA {x y:Nat} (hx:x < 4294967296) (hy:y < 4294967296):x*y<=18446744065119617025:=by
 have:=Nat.mul_le_mul (show x<=4294967295 by omega) (show y<=4294967295 by omega)
 omega
theorem hW (x y:Nat):(x:Int).fdiv (y:Int)=(x/y:Nat):=by
 rw [Int.fdiv_eq_ediv_of_nonneg _ (by omega)];rfl
theorem vA:Ret VP (.fn 218) [.d (nat [])] [] (.d (.int .u64 0)) []:=by
 refine ret_of rfl rfl (r0 ?_)
 refine Z2 ?_
 rfl
theorem vz (x:Nat) (hx:x < 4294967296):Ret VP (.fn 218) [.d (nat [x])] [] (.d (.int .u64 x)) []:=by
 refine ret_of rfl rfl (r0 ?_)
 refine Z2 ?_
 refine fe rfl ?_ rfl
 have e1:(2:Int) ^ min (IntKind.i64.wrap (32*0)).toNat IntKind.u64.bits=1:=by decide +kernel
 have e2:=aa9 (x:=0) (y:=x) (by omega) (by omega)
 rw [Nat.zero_or] at e2
 rw [show ((0:Nat):Int)=0 from rfl] at e2
 rw [bn (x:=x) (by omega),e1,Int.mul_one,bn (x:=x) (by omega),e2,bn (x:=x) (by omega)]
theorem vw (x y:Nat) (hx:x < 4294967296) (hy:y < 4294967296):Ret VP (.fn 218) [.d (nat [x,y])] [] (.d (.int .u64 (x+y*4294967296:Nat))) []:=by
 refine ret_of rfl rfl (r0 ?_)
 refine Z2 ?_
 refine fe rfl ?_ rfl
 have e1:(2:Int) ^ min (IntKind.i64.wrap (32*0)).toNat IntKind.u64.bits=1:=by decide +kernel
 have e3:(2:Int) ^ min (IntKind.i64.wrap (32*IntKind.i64.wrap (0+1))).toNat IntKind.u64.bits=((4294967296:Nat):Int):=by decide +kernel
 have e2:=aa9 (x:=0) (y:=x) (by omega) (by omega)
 rw [Nat.zero_or] at e2
 rw [show ((0:Nat):Int)=0 from rfl] at e2
 rw [bn (x:=x) (by omega),e1,Int.mul_one,bn (x:=x) (by omega),e2,bn (x:=x) (by omega),bn (x:=y) (by omega),e3,<- Int.natCast_mul,bn (x:=y*4294967296) (by omega),aa9 (by omega) (by omega),nN hx,bn (by omega)]
theorem aaX (x y:Nat) (hx:x < 4294967296) (hy:y < 4294967296):Ret VP (.fn 224) [.d (u32 x),.d (u32 y)] [] (.d (.tuple [u32 (x*y/4294967296),u32 (x*y%4294967296)])) []:=by
 refine ret_of rfl rfl (r0 ?_)
 refine Z2 ?_
 refine fe rfl ?_ rfl
 have hm:=lA hx hy
 have e3:(2:Int) ^ min (Int.toNat 32) IntKind.u64.bits=((4294967296:Nat):Int):=by decide +kernel
 rw [bn (x:=x) (by omega),bn (x:=y) (by omega),<- Int.natCast_mul,bn (x:=x*y) (by omega),e3,hW,fU,fU,Nat.mod_eq_of_lt (a:=x*y/4294967296) (by omega)]
 rfl
theorem uz (x y c:Nat) (hx:x < 4294967296) (hy:y < 4294967296) (hc:c<=1):Ret VP (.fn 225) [.d (u32 x),.d (u32 y),.d (u32 c)] [] (.d (.tuple [u32 ((x+y+c)%4294967296),u32 ((x+y+c)/4294967296)])) []:=by
 refine ret_of rfl rfl (r0 ?_)
 refine Z2 ?_
 refine fe rfl ?_ rfl
 have e3:(2:Int) ^ min (Int.toNat 32) IntKind.u64.bits=((4294967296:Nat):Int):=by decide +kernel
 rw [bn (x:=x) (by omega),bn (x:=y) (by omega),bn (x:=c) (by omega),<- Int.natCast_add,bn (x:=x+y) (by omega),<- Int.natCast_add,bn (x:=x+y+c) (by omega),e3,hW,fU,fU,Nat.mod_eq_of_lt (a:=(x+y+c)/4294967296) (by omega)]
 rfl
def lim (n:Nat):List Nat:=if n=0 then [] else if n < 4294967296 then [n] else [n%4294967296,n/4294967296]
theorem amC:lim 0=[]:=rfl
theorem ab6 {n:Nat} (h0:n≠0) (h:n < 4294967296):lim n=[n]:=by simp [lim,h0,h]
theorem ab5 {n:Nat} (h:4294967296<=n):lim n=[n%4294967296,n/4294967296]:=by
 have h0:n≠0:=by omega
 have h1:¬ n < 4294967296:=by omega
 simp [lim,h0,h1]
theorem lim_cases (n:Nat) (h:n < 18446744073709551616):(n=0/\lim n=[])\/(0 < n/\n < 4294967296/\lim n=[n])\/(∃ x y,x < 4294967296/\0 < y/\y < 4294967296/\n=x+y*4294967296/\lim n=[x,y]):=by
 by_cases h0:n=0
 · exact .inl ⟨h0,by rw [h0];rfl⟩
 · by_cases h1:n < 4294967296
   · exact .inr (.inl ⟨by omega,h1,ab6 h0 h1⟩)
   · exact .inr (.inr ⟨n%4294967296,n/4294967296,by omega,by omega,by omega,by omega,ab5 (by omega)⟩)
theorem dy (n:Nat):(lim n).length<=2:=by unfold lim;split<;>(try split)<;>simp
theorem nr (n:Nat):i9 (lim n)=lim n:=by
 unfold lim
 split
 · rfl
 · split
   · rename_i h _;simp [i9,h]
   · rename_i h1 h2
     have:n/4294967296≠0:=by omega
     simp [i9,this]
theorem cV (x y:Nat) (hx:x < 4294967296) (hy:y < 4294967296):i9 [x,y]=lim (x+y*4294967296):=by
 by_cases h:y=0
 · subst h
   by_cases h0:x=0
   · subst h0;rfl
   · rw [Nat.zero_mul,Nat.add_zero,ab6 h0 hx];simp [i9,h0]
 · rw [ab5 (by omega)]
   have e1:(x+y*4294967296)%4294967296=x:=by omega
   have e2:(x+y*4294967296)/4294967296=y:=by omega
   simp [i9,h,e1,e2]
def num (n:Nat):D:=nat (lim n)
theorem cW (n:Nat):Ret VP (.fn 217) [.d (num n)] [] (.d (num n)) []:=by
 have:=bA (lim n) (by have:=dy n;omega)
 rwa [nr] at this
theorem gG (n:Nat) (h:n < 18446744073709551616):Ret VP (.fn 219) [.d (.int .u64 n)] [] (.d (num n)) []:=by
 have e3:(2:Int) ^ min (Int.toNat 32) IntKind.u64.bits=((4294967296:Nat):Int):=by decide +kernel
 have e4:IntKind.u32.wrap ((n:Int).fdiv (2 ^ min (Int.toNat 32) IntKind.u64.bits))=(n/4294967296:Nat):=by
  rw [e3,hW,jo (by omega)]
 have e5:IntKind.u32.wrap (n:Int)=(n%4294967296:Nat):=fU n
 have ht:=bA [n%4294967296,n/4294967296] (by simp)
 rw [cV _ _ (by omega) (by omega),show n%4294967296+n/4294967296*4294967296=n by omega] at ht
 refine ret_of rfl rfl (r0 ?_)
 refine Z2 ?_
 rw [e4,e5]
 refine Z2 ?_
 rfl
theorem jq (n:Nat) (h:n < 18446744073709551616):Ret VP (.fn 218) [.d (num n)] [] (.d (.int .u64 n)) []:=by
 rcases lim_cases n h with ⟨rfl,e⟩ | ⟨h0,h1,e⟩ | ⟨x,y,hx,hy0,hy,rfl,e⟩
 · exact vA
 · unfold num;rw [e];exact vz n h1
 · unfold num;rw [e];exact vw x y hx hy
theorem uX (a:List Nat):(a.map u32).all bJ=true:=by simp [u32,bJ,D.cells,bY]
theorem lX:Ret VP (.fn 146) [.d (nat [])] [] .emp []:=by
 refine fJ (x := .nils) (y := .lit []) rfl rfl (r0 ?_) (r0 ?_) rfl
 · refine Z2 ?_
   rfl
 · refine Z2 ?_
   rfl
theorem jY (a:List Nat) (h:a≠[]) (hl:a.length<=1000000):Ret VP (.fn 146) [.d (nat a)] [] (.ms 0 0 0 a.length) [some (.rows 0 false 1 (ao (a.map u32)))]:=by
 obtain ⟨x,xs,rfl⟩ : ∃ x xs,a=x::xs:=by cases a with | nil=>exact absurd rfl h | cons x xs=>exact ⟨x,xs,rfl⟩
 refine cN rfl (fun rest hh=>by simp [nat] at hh) (r0 ?_)
 refine Z2 ?_
 refine oan (.inr (.inr rfl)) rfl (by simp) (nk _) (uX _) (ab (by simpa using hl) (by omega)) rfl ?_
 refine Z2 ?_
 exact IY (by simp [put,upd]) rfl
theorem io : ∀ a:List Nat,(i9 a).length<=a.length
 | []=>by simp [i9]
 | x::xs=>by
   have:=io xs
   simp only [i9]
   split
   · split<;>simp
   · rename_i y ys h;rw [h] at this;simpa using this
theorem oj (a:List Nat) (hl:a.length<=1000000):Ret VP (.fn 189) [.d (nat a)] [] (.d (nat (i9 a))) []:=by
 have ht:=bA a (by omega)
 by_cases h:i9 a=[]
 · rw [h] at ht ⊢
   refine ret_of rfl rfl (r0 ?_)
   refine Z2 ?_
   refine oN rfl rfl lX rfl rfl ?_
   refine Z2 ?_
   rfl
 · have hc:=jY (i9 a) h (by have:=io a;omega)
   refine ret_of rfl rfl (r0 ?_)
   refine Z2 ?_
   refine oN rfl rfl hc rfl rfl ?_
   refine Z2 ?_
   rw [bD]
   exact tV (mg (by rfl) (jN _).symm (uX _))
theorem ie (n:Nat):Ret VP (.fn 189) [.d (num n)] [] (.d (num n)) []:=by
 have:=oj (lim n) (by have:=dy n;omega)
 rwa [nr] at this
end Go.Proofs.YtncfpmehhfdipaaGreat
namespace Go.Proofs.YtncfpmehhfdipaaGreat
open Go.IntWalk
attribute [local irreducible] au
set_option maxHeartbeats 4000000
def dm (a b:Nat):Int:=if a < b then -1 else if a > b then 1 else 0
theorem bG {n:Nat} (h0:0 < n) (h:n < 4294967296):lim n=[n]:=ab6 (by omega) h
theorem kJ (a b:Nat) (ha:a < 18446744073709551616) (hb:b < 18446744073709551616):Ret VP (.fn 220) [.d (num a),.d (num b)] [] (.d (.int .i64 (dm a b))) []:=by
 have ta:=cW a
 have tb:=cW b
 unfold num at ta tb ⊢
 rcases lim_cases a ha with ⟨rfl,ea⟩ | ⟨a0,a1,ea⟩ | ⟨x,y,hx,hy0,hy,rfl,ea⟩<;>rcases lim_cases b hb with ⟨rfl,eb⟩ | ⟨b0,b1,eb⟩ | ⟨u,v,hu,hv0,hv,rfl,eb⟩<;>(try rw [ea] at ta ⊢)<;>(try rw [eb] at tb ⊢)
 · refine ret_of rfl rfl (r0 ?_)
   refine Z2 ?_
   rfl
 · rw [show dm 0 b = -1 by simp [dm,b0]]
   refine ret_of rfl rfl (r0 ?_)
   refine Z2 ?_
   rfl
 · rw [show dm 0 (u+v*4294967296) = -1 by simp [dm];omega]
   refine ret_of rfl rfl (r0 ?_)
   refine Z2 ?_
   rfl
 · rw [show dm a 0=1 by simp [dm,a0]]
   refine ret_of rfl rfl (r0 ?_)
   refine Z2 ?_
   rfl
 · rcases Nat.lt_trichotomy a b with h | h | h
   · rw [show dm a b = -1 by simp [dm,h]]
     have h1:(a:Int) < b:=by omega
     refine ret_of rfl rfl (r0 ?_)
     (have hz1:=decide_eq_true h1;refine Z2 ?_)
     rfl
   · subst h
     rw [show dm a a=0 by simp [dm]]
     have h1:¬ (a:Int) < a:=by omega
     have h2:¬ (a:Int) > a:=by omega
     refine ret_of rfl rfl (r0 ?_)
     (have hz2:=decide_eq_false h1;have hz3:=decide_eq_false h2;refine Z2 ?_)
     rfl
   · rw [show dm a b=1 by simp [dm];omega]
     have h1:¬ (a:Int) < b:=by omega
     have h2:(a:Int) > b:=by omega
     refine ret_of rfl rfl (r0 ?_)
     (have hz4:=decide_eq_false h1;have hz5:=decide_eq_true h2;refine Z2 ?_)
     rfl
 · rw [show dm a (u+v*4294967296) = -1 by simp [dm];omega]
   refine ret_of rfl rfl (r0 ?_)
   refine Z2 ?_
   rfl
 · rw [show dm (x+y*4294967296) 0=1 by simp [dm];omega]
   refine ret_of rfl rfl (r0 ?_)
   refine Z2 ?_
   rfl
 · rw [show dm (x+y*4294967296) b=1 by simp [dm];omega]
   refine ret_of rfl rfl (r0 ?_)
   refine Z2 ?_
   rfl
 · rcases Nat.lt_trichotomy y v with h | h | h
   · rw [show dm (x+y*4294967296) (u+v*4294967296) = -1 by simp [dm];omega]
     have h1:(y:Int) < v:=by omega
     refine ret_of rfl rfl (r0 ?_)
     (have hz6:=decide_eq_true h1;refine Z2 ?_)
     rfl
   · subst h
     have h1:¬ (y:Int) < y:=by omega
     have h2:¬ (y:Int) > y:=by omega
     rcases Nat.lt_trichotomy x u with h | h | h
     · rw [show dm (x+y*4294967296) (u+y*4294967296) = -1 by simp [dm];omega]
       have h3:(x:Int) < u:=by omega
       refine ret_of rfl rfl (r0 ?_)
       (have hz7:=decide_eq_false h1;have hz8:=decide_eq_false h2;have hz9:=decide_eq_true h3;refine Z2 ?_)
       rfl
     · subst h
       rw [show dm (x+y*4294967296) (x+y*4294967296)=0 by simp [dm]]
       have h3:¬ (x:Int) < x:=by omega
       have h4:¬ (x:Int) > x:=by omega
       refine ret_of rfl rfl (r0 ?_)
       (have hz10:=decide_eq_false h1;have hz11:=decide_eq_false h2;have hz12:=decide_eq_false h3;have hz13:=decide_eq_false h4;refine Z2 ?_)
       rfl
     · rw [show dm (x+y*4294967296) (u+y*4294967296)=1 by simp [dm];omega]
       have h3:¬ (x:Int) < u:=by omega
       have h4:(x:Int) > u:=by omega
       refine ret_of rfl rfl (r0 ?_)
       (have hz14:=decide_eq_false h1;have hz15:=decide_eq_false h2;have hz16:=decide_eq_false h3;have hz17:=decide_eq_true h4;refine Z2 ?_)
       rfl
   · rw [show dm (x+y*4294967296) (u+v*4294967296)=1 by simp [dm];omega]
     have h1:¬ (y:Int) < v:=by omega
     have h2:(y:Int) > v:=by omega
     refine ret_of rfl rfl (r0 ?_)
     (have hz18:=decide_eq_false h1;have hz19:=decide_eq_true h2;refine Z2 ?_)
     rfl
theorem pj (a:Nat) (ha:a < 18446744073709551616):Ret VP (.fn 223) [.d (num a)] [] (.d (.bool (dm a 0==0))) []:=by
 have hc:=kJ a 0 ha (by omega)
 refine ret_of rfl rfl (r0 ?_)
 refine Z2 ?_
 rfl
theorem iW (hi lo d:Nat) (h:hi < d) (hl:lo < 4294967296) (hd:d < 4294967296):Ret VP (.fn 250) [.d (u32 hi),.d (u32 lo),.d (u32 d)] [] (.d (.tuple [u32 ((hi*4294967296+lo)/d),u32 ((hi*4294967296+lo)%d)])) []:=by
 have h1:((d:Int) != 0)=true:=by simp;omega
 have h2:¬ (d:Int)<=hi:=by omega
 have h3:IntKind.u64.wrap (d:Int)≠0:=by rw [bn (by omega)];omega
 have e3:(2:Int) ^ min (Int.toNat 32) IntKind.u64.bits=((4294967296:Nat):Int):=by decide +kernel
 have hq:(hi*4294967296+lo)/d < 4294967296:=by
  rw [Nat.div_lt_iff_lt_mul (by omega)]
  have:=Nat.mul_le_mul_right 4294967296 (show hi+1<=d by omega)
  omega
 have hr:(hi*4294967296+lo)%d < d:=Nat.mod_lt _ (by omega)
 have hor:hi*4294967296 ||| lo=hi*4294967296+lo:=by rw [Nat.or_comm,nN hl];omega
 have ew:IntKind.u64.wrap ((BitVec.ofInt IntKind.u64.bits (IntKind.u64.wrap (IntKind.u64.wrap (hi:Int)*2 ^ min (Int.toNat 32) IntKind.u64.bits)) ||| BitVec.ofInt IntKind.u64.bits (IntKind.u64.wrap (lo:Int))).toNat:Int)=(hi*4294967296+lo:Nat):=by
  rw [bn (x:=hi) (by omega),e3,<- Int.natCast_mul,bn (x:=hi*4294967296) (by omega),bn (x:=lo) (by omega),aa9 (by omega) (by omega),hor,bn (by omega)]
 refine ret_of rfl rfl (r0 ?_)
 (have hz20:=decide_eq_false h2;refine Z1 ?_)
 rw [ew]
 refine Z1 ?_
 refine fe rfl ?_ rfl
 rw [bn (x:=d) (by omega)]
 have e4:((hi*4294967296+lo:Nat):Int).tdiv (d:Int)=((hi*4294967296+lo)/d:Nat):=by rw [Int.tdiv_eq_ediv_of_nonneg (by omega)];rfl
 have e5:((hi*4294967296+lo:Nat):Int).tmod (d:Int)=((hi*4294967296+lo)%d:Nat):=by rw [Int.tmod_eq_emod_of_nonneg (by omega)];rfl
 rw [e4,e5,bn (by omega),jo hq,jo (by omega)]
 rfl
theorem nq (x:Nat) (hx:x < 4294967296):i9 [x]=lim x:=by
 have:=cV x 0 hx (by omega)
 rw [cw [x] |>.symm]
 simpa using this
theorem qA (n d:Nat) (hn:n < 18446744073709551616) (hd0:0 < d) (hd:d < 4294967296):Ret VP (.fn 221) [.d (num n),.d (u32 d)] [] (.d (.tuple [num (n/d),u32 (n%d)])) []:=by
 rcases lim_cases n hn with ⟨rfl,e⟩ | ⟨h0,h1,e⟩ | ⟨x,y,hx,hy0,hy,rfl,e⟩
 · have ht:Ret VP (.fn 217) [.d (nat [])] [] (.d (nat [])) []:=bA [] (by simp)
   rw [show num 0=nat [] from rfl,Nat.zero_div,Nat.zero_mod]
   refine ret_of rfl rfl (r0 ?_)
   refine Z2 ?_
   rfl
 · have hdv:=iW 0 n d hd0 h1 hd
   rw [Nat.zero_mul,Nat.zero_add] at hdv
   have hq:n/d < 4294967296:=Nat.lt_of_le_of_lt (Nat.div_le_self _ _) h1
   have ht:=bA [n/d] (by simp)
   rw [nq _ hq] at ht
   unfold num;rw [e]
   refine ret_of rfl rfl (r0 ?_)
   refine Z2 ?_
   rfl
 · have hr:y%d < d:=Nat.mod_lt _ hd0
   have h1:=iW 0 y d hd0 hy hd
   rw [Nat.zero_mul,Nat.zero_add] at h1
   have h2:=iW (y%d) x d hr hx hd
   have hq1:y/d < 4294967296:=Nat.lt_of_le_of_lt (Nat.div_le_self _ _) hy
   have hq0:(y%d*4294967296+x)/d < 4294967296:=by
    rw [Nat.div_lt_iff_lt_mul (by omega)]
    have:=Nat.mul_le_mul_right 4294967296 (show y%d+1<=d by omega)
    omega
   have ht:=bA [(y%d*4294967296+x)/d,y/d] (by simp)
   rw [cV _ _ hq0 hq1] at ht
   have hy':y=d*(y/d)+y%d:=(Nat.div_add_mod y d).symm
   have hsplit:x+y*4294967296=(y%d*4294967296+x)+d*(y/d*4294967296):=by
    conv=>lhs;rw [hy']
    rw [Nat.add_mul,Nat.mul_assoc];omega
   have hdiv:(y%d*4294967296+x)/d+y/d*4294967296=(x+y*4294967296)/d:=by
    rw [hsplit,Nat.add_mul_div_left _ _ hd0]
   have hmod:(y%d*4294967296+x)%d=(x+y*4294967296)%d:=by
    rw [hsplit,Nat.add_mul_mod_self_left]
   rw [hdiv] at ht
   rw [<- hmod]
   unfold num;rw [e]
   refine ret_of rfl rfl (r0 ?_)
   refine Z2 ?_
   rfl
theorem jV (n d:Nat) (hn:n < 18446744073709551616) (hd0:0 < d) (hd:d < 4294967296):Ret VP (.fn 191) [.d (num n),.d (num d)] [] (.d (.tuple [num (n/d),num (n%d),.int .i64 0])) []:=by
 have tn:=cW n
 have td:=cW d
 have hc:=kJ n d hn (by omega)
 have ed:num d=nat [d]:=by unfold num;rw [bG hd0 hd]
 by_cases h:n < d
 · have e1:n/d=0:=Nat.div_eq_of_lt h
   have e2:n%d=n:=Nat.mod_eq_of_lt h
   rw [e1,e2]
   rw [show dm n d = -1 by simp [dm,h]] at hc
   rw [ed] at td hc ⊢
   by_cases h0:n=0
   · subst h0
     have tn0:Ret VP (.fn 217) [.d (nat [])] [] (.d (nat [])) []:=tn
     have hc0:Ret VP (.fn 220) [.d (nat []),.d (nat [d])] [] (.d (.int .i64 (-1))) []:=hc
     rw [show num 0=nat [] from rfl]
     have hk:=lX
     refine ret_of rfl rfl (r0 ?_)
     refine Z2 ?_
     rfl
   · have en:num n=nat [n]:=by unfold num;rw [bG (by omega) (by omega)]
     rw [en] at tn hc
     rw [en]
     have hk:=jY [n] (by simp) (by simp)
     refine ret_of rfl rfl (r0 ?_)
     refine Z2 ?_
     rfl
 · have hs:=qA n d hn hd0 hd
   have hm:n%d < d:=Nat.mod_lt _ hd0
   have hf:=gG (n%d) (by omega)
   have hge:¬ dm n d < 0:=by unfold dm;rw [if_neg h];split<;>omega
   rw [ed] at td hc ⊢
   have eu:IntKind.u64.wrap ((n%d:Nat):Int)=(n%d:Nat):=bn (by omega)
   refine ret_of rfl rfl (r0 ?_)
   (have hz1:=decide_eq_false hge;refine Z2 ?_)
   rw [eu]
   refine Z2 ?_
   rfl
theorem tN {K:List Fr} {Q:Out->Env->aa->Prop} (y:Nat) : ∀ x:Nat,(∀ e,bl VP 0 K Q (.exit 2) (over [(8,.d (.int .u64 (Nat.gcd x y)))] e) [])->Run VP 0 m8 (dQ ([8,9].zip [.d (.int .u64 x),.d (.int .u64 y)])) [] (bl VP 0 (.loop [8,9] m8::K) Q):=by
 induction y using Nat.strongRecOn with
 | ind y ih =>
   intro x hQ
   by_cases h:y=0
   · subst h
     rw [Nat.gcd_zero_right] at hQ
     refine Z1 ?_
     (refine ko ?_ (hQ _);repeat (first | exact trivial | refine ⟨rfl,?_⟩))
   · have h1:((y:Int) != 0)=true:=by simp;omega
     have h2:(y:Int)≠0:=by omega
     have h3:(x:Int).tmod (y:Int)=(x%y:Nat):=by rw [Int.tmod_eq_emod_of_nonneg (by omega)];rfl
     refine Z1 ?_
     rw [h3]
     refine Z1 ?_
     refine lh rfl ?_
     refine ih (x%y) (Nat.mod_lt _ (by omega)) y fun e => ?_
     have:=hQ e
     rwa [Nat.gcd_comm x y,Nat.gcd_rec,Nat.gcd_comm] at this
theorem lH (n:Nat):¬ (((lim n).map u32).length:Int) > 2:=by have:=dy n;rw [List.length_map];omega
theorem IT {x y:Nat} (hx:x < 18446744073709551616) (hy:y < 18446744073709551616):Nat.gcd x y < 18446744073709551616:=by
 by_cases h:x=0
 · subst h;rw [Nat.gcd_zero_left];exact hy
 · exact Nat.lt_of_le_of_lt (Nat.gcd_le_left y (by omega)) hx
theorem wQ (a b:Nat) (ha:a < 18446744073709551616) (hb:b < 18446744073709551616):Ret VP (.fn 190) [.d (num a),.d (num b)] [] (.d (num (Nat.gcd a b))) []:=by
 have ta:=ie a
 have tb:=ie b
 have ua:=jq a ha
 have ub:=jq b hb
 have hf:=gG _ (IT ha hb)
 have h1:=lH a
 have h2:=lH b
 refine ret_of rfl rfl (r0 ?_)
 (have hz2:=decide_eq_false h1;have hz3:=decide_eq_false h2;refine Z1 ?_)
 refine lh rfl ?_
 (have hz4:=decide_eq_false h1;have hz5:=decide_eq_false h2;refine Z1 ?_)
 refine lh rfl ?_
 refine tN b a fun e => ?_
 refine Z1 ?_
 rfl
theorem iL (a b:Nat) (ha:a < 4294967296) (hb:b < 4294967296):Ret VP (.fn 196) [.d (num a),.d (num b)] [] (.d (num (a*b))) []:=by
 have ta:=cW a
 have tb:=cW b
 unfold num at ta tb
 have hm:=lA ha hb
 by_cases h0:a=0
 · subst h0
   rw [amC] at ta
   rw [Nat.zero_mul,show num 0=nat [] from rfl]
   by_cases hb0:b=0
   · subst hb0
     rw [show num 0=nat [] from rfl]
     refine ret_of rfl rfl (r0 ?_)
     refine Z2 ?_
     rfl
   · rw [bG (by omega) hb] at tb
     unfold num;rw [bG (by omega) hb]
     have ht:=bA [0] (by simp)
     refine ret_of rfl rfl (r0 ?_)
     refine Z2 ?_
     rfl
 · by_cases hb0:b=0
   · subst hb0
     rw [bG (by omega) ha] at ta
     rw [amC] at tb
     rw [Nat.mul_zero,show num 0=nat [] from rfl]
     unfold num;rw [bG (by omega) ha]
     have ht:=bA [0] (by simp)
     refine ret_of rfl rfl (r0 ?_)
     refine Z2 ?_
     rfl
   · rw [bG (by omega) ha] at ta
     rw [bG (by omega) hb] at tb
     have h1:=aaX a b ha hb
     have h2:=uz (a*b%4294967296) 0 0 (by omega) (by omega) (by omega)
     have e1:(a*b%4294967296+0+0)%4294967296=a*b%4294967296:=by omega
     have e2:(a*b%4294967296+0+0)/4294967296=0:=by omega
     rw [e1,e2] at h2
     have ht:=bA [a*b%4294967296,a*b/4294967296] (by simp)
     rw [cV _ _ (by omega) (by omega),show a*b%4294967296+a*b/4294967296*4294967296=a*b by omega] at ht
     unfold num;rw [bG (by omega) ha,bG (by omega) hb]
     refine ret_of rfl rfl (r0 ?_)
     refine Z2 ?_
     have ew:IntKind.u32.wrap (IntKind.u32.wrap (((a*b/4294967296:Nat):Int)+((0:Nat):Int))+((0:Nat):Int))=(a*b/4294967296:Nat):=by
      rw [<- Int.natCast_add,Nat.add_zero,jo (by omega),<- Int.natCast_add,Nat.add_zero,jo (by omega)]
     rw [ew]
     refine Z2 ?_
     rfl
theorem Hj (a b:Nat) (ha:a < 4294967296) (hb:b < 4294967296):Ret VP (.fn 226) [.d (num a),.d (num b)] [] (.d (num (a+b))) []:=by
 by_cases h0:a=0<;>by_cases hb0:b=0
 · subst h0;subst hb0
   have ht:=bA [0] (by simp)
   rw [show num 0=nat [] from rfl]
   refine ret_of rfl rfl (r0 ?_)
   refine Z2 ?_
   rfl
 · subst h0
   have h1:=uz b 0 0 hb (by omega) (by omega)
   have e1:(b+0+0)%4294967296=b:=by omega
   have e2:(b+0+0)/4294967296=0:=by omega
   rw [e1,e2] at h1
   have ht:=bA [b,0] (by simp)
   rw [cV _ _ hb (by omega),show b+0*4294967296=0+b by omega] at ht
   rw [show num 0=nat [] from rfl,show num b=nat [b] by unfold num;rw [bG (by omega) hb]]
   refine ret_of rfl rfl (r0 ?_)
   refine Z2 ?_
   rfl
 · subst hb0
   have h1:=uz a 0 0 ha (by omega) (by omega)
   have e1:(a+0+0)%4294967296=a:=by omega
   have e2:(a+0+0)/4294967296=0:=by omega
   rw [e1,e2] at h1
   have ht:=bA [a,0] (by simp)
   rw [cV _ _ ha (by omega),show a+0*4294967296=a+0 by omega] at ht
   rw [show num 0=nat [] from rfl,show num a=nat [a] by unfold num;rw [bG (by omega) ha]]
   refine ret_of rfl rfl (r0 ?_)
   refine Z2 ?_
   rfl
 · have h1:=uz a b 0 ha hb (by omega)
   have ht:=bA [(a+b+0)%4294967296,(a+b+0)/4294967296] (by simp)
   rw [cV _ _ (by omega) (by omega),show (a+b+0)%4294967296+(a+b+0)/4294967296*4294967296=a+b by omega] at ht
   rw [show num b=nat [b] by unfold num;rw [bG (by omega) hb],show num a=nat [a] by unfold num;rw [bG (by omega) ha]]
   refine ret_of rfl rfl (r0 ?_)
   refine Z2 ?_
   rfl
theorem H2 (x y:Nat) (hy:y<=x) (hx:x < 4294967296) : ∃ n:Int,Ret VP (.fn 253) [.d (u32 x),.d (u32 y),.d (u32 0)] [] (.d (.tuple [u32 (x - y),.int .u32 n])) []:=by
 apply Exists.intro
 refine ret_of rfl rfl (r0 ?_)
 refine Z2 ?_
 refine fe rfl ?_ rfl
 have e1:IntKind.u32.wrap (IntKind.u32.wrap ((x:Int) - (y:Int)) - ((0:Nat):Int))=(x - y:Nat):=by
  rw [u32_in ((x:Int) - (y:Int)) (by omega),u32_in _ (by omega)];omega
 rw [e1]
 rfl
theorem qp (a b:Nat) (hb:b<=a) (ha:a < 4294967296):Ret VP (.fn 227) [.d (num a),.d (num b)] [] (.d (.tuple [num (a - b),.int .i64 0])) []:=by
 have hc:=kJ a b (by omega) (by omega)
 have hge:¬ dm a b < 0:=by unfold dm;rw [if_neg (by omega)];split<;>omega
 have ta:=cW a
 have tb:=cW b
 by_cases h0:a=0
 · have hb0:b=0:=by omega
   subst h0;subst hb0
   have t0:Ret VP (.fn 217) [.d (nat [])] [] (.d (nat [])) []:=ta
   refine ret_of rfl rfl (r0 ?_)
   (repeat first | (apply gO;first | (apply gOc;first | refine oC1 (hc) rfl rfl rfl ?_ | refine oC1 (ta) rfl rfl rfl ?_ | refine oC1 (t0) rfl rfl rfl ?_) | (apply gOg;first | refine oz rfl ?_ | refine og rfl (decide_eq_false hge) ?_ | refine of' rfl (decide_eq_false hge) ?_ | refine og rfl (rfl) ?_ | refine of' rfl (rfl) ?_) | (apply gOp;first | refine opt rfl (decide_eq_false hge) rfl ?_ | refine opf rfl (decide_eq_false hge) rfl ?_ | refine opt rfl (rfl) rfl ?_ | refine opf rfl (rfl) rfl ?_) | refine ovx (op := .mapup _ _ _ _) rfl ?_ | refine ov1 rfl ?_ | refine omk rfl rfl (Nat.le_of_ble_eq_true rfl) (ab (Nat.le_of_ble_eq_true rfl) (by decide)) rfl rfl rfl ?_ | refine oam rfl rfl rfl (Nat.le_of_ble_eq_true rfl) rfl rfl (ab (Nat.le_of_ble_eq_true rfl) (by decide)) rfl ?_ | refine oak rfl rfl rfl rfl (ab (Nat.le_of_ble_eq_true rfl) (by decide)) rfl ?_ | apply o0) | (apply gR;first | apply rs | refine rr rfl rfl ?_ | apply rb | apply rk | apply rx | apply rl | apply rt | refine rd rfl rfl ?_ | refine rct rfl (decide_eq_false hge) ?_ | refine rcf rfl (decide_eq_false hge) ?_ | refine rct rfl (rfl) ?_ | refine rcf rfl (rfl) ?_) | (apply gK;first | apply ks | apply kb | apply kl | apply xb | apply xs | apply xl | refine xo (by decide) ?_ | apply kq) | (apply gF;first | (apply gFc;first | refine fw (oC1 (hc) rfl rfl rfl (o0 ⟨rfl,rfl⟩)) ?_ | refine fw (oC1 (ta) rfl rfl rfl (o0 ⟨rfl,rfl⟩)) ?_ | refine fw (oC1 (t0) rfl rfl rfl (o0 ⟨rfl,rfl⟩)) ?_) | (apply gFg;first | refine fz' rfl ?_ | refine fg rfl (decide_eq_false hge) rfl ?_ | refine ff rfl (decide_eq_false hge) ?_ | refine fg rfl (rfl) rfl ?_ | refine ff rfl (rfl) ?_ | refine fw (og rfl (decide_eq_false hge) (oC1 (hc) rfl rfl rfl (o0 ⟨rfl,rfl⟩))) ?_ | refine fw (og rfl (decide_eq_false hge) (oC1 (ta) rfl rfl rfl (o0 ⟨rfl,rfl⟩))) ?_ | refine fw (og rfl (decide_eq_false hge) (oC1 (t0) rfl rfl rfl (o0 ⟨rfl,rfl⟩))) ?_ | refine fw (og rfl (rfl) (oC1 (hc) rfl rfl rfl (o0 ⟨rfl,rfl⟩))) ?_ | refine fw (og rfl (rfl) (oC1 (ta) rfl rfl rfl (o0 ⟨rfl,rfl⟩))) ?_ | refine fw (og rfl (rfl) (oC1 (t0) rfl rfl rfl (o0 ⟨rfl,rfl⟩))) ?_) | (apply gFp;first | refine fpt rfl (decide_eq_false hge) rfl ?_ | refine fpf rfl (decide_eq_false hge) rfl ?_ | refine fpt rfl (rfl) rfl ?_ | refine fpf rfl (rfl) rfl ?_) | refine fw (ovx (op := .mapup _ _ _ _) rfl (o0 ⟨rfl,rfl⟩)) ?_ | refine fw (ov1 rfl (o0 ⟨rfl,rfl⟩)) ?_ | refine fw (omk rfl rfl (Nat.le_of_ble_eq_true rfl) (ab (Nat.le_of_ble_eq_true rfl) (by decide)) rfl rfl rfl (o0 ⟨rfl,rfl⟩)) ?_ | refine fw (oam rfl rfl rfl (Nat.le_of_ble_eq_true rfl) rfl rfl (ab (Nat.le_of_ble_eq_true rfl) (by decide)) rfl (o0 ⟨rfl,rfl⟩)) ?_ | refine fw (oak rfl rfl rfl rfl (ab (Nat.le_of_ble_eq_true rfl) (by decide)) rfl (o0 ⟨rfl,rfl⟩)) ?_ | apply fn0) | (apply gL;refine lh1 rfl rfl rfl rfl ?_) | refine lt' rfl ?_)
   rfl
 · have ea:num a=nat [a]:=by unfold num;rw [bG (by omega) ha]
   have ht:=bA [a - b] (by simp)
   rw [nq _ (by omega)] at ht
   by_cases hb0:b=0
   · subst hb0
     obtain ⟨n,h1⟩:=H2 a 0 (by omega) ha
     have eb:num 0=nat []:=rfl
     rw [ea,eb] at hc
     rw [ea] at ta
     rw [eb] at tb
     rw [ea,eb]
     refine ret_of rfl rfl (r0 ?_)
     (repeat first | (apply gO;first | (apply gOc;first | refine oC1 (hc) rfl rfl rfl ?_ | refine oC1 (ta) rfl rfl rfl ?_ | refine oC1 (tb) rfl rfl rfl ?_ | refine oC1 (h1) rfl rfl rfl ?_ | refine oC1 (ht) rfl rfl rfl ?_) | (apply gOg;first | refine oz rfl ?_ | refine og rfl (decide_eq_false hge) ?_ | refine of' rfl (decide_eq_false hge) ?_ | refine og rfl (rfl) ?_ | refine of' rfl (rfl) ?_) | (apply gOp;first | refine opt rfl (decide_eq_false hge) rfl ?_ | refine opf rfl (decide_eq_false hge) rfl ?_ | refine opt rfl (rfl) rfl ?_ | refine opf rfl (rfl) rfl ?_) | refine ovx (op := .mapup _ _ _ _) rfl ?_ | refine ov1 rfl ?_ | refine omk rfl rfl (Nat.le_of_ble_eq_true rfl) (ab (Nat.le_of_ble_eq_true rfl) (by decide)) rfl rfl rfl ?_ | refine oam rfl rfl rfl (Nat.le_of_ble_eq_true rfl) rfl rfl (ab (Nat.le_of_ble_eq_true rfl) (by decide)) rfl ?_ | refine oak rfl rfl rfl rfl (ab (Nat.le_of_ble_eq_true rfl) (by decide)) rfl ?_ | apply o0) | (apply gR;first | apply rs | refine rr rfl rfl ?_ | apply rb | apply rk | apply rx | apply rl | apply rt | refine rd rfl rfl ?_ | refine rct rfl (decide_eq_false hge) ?_ | refine rcf rfl (decide_eq_false hge) ?_ | refine rct rfl (rfl) ?_ | refine rcf rfl (rfl) ?_) | (apply gK;first | apply ks | apply kb | apply kl | apply xb | apply xs | apply xl | refine xo (by decide) ?_ | apply kq) | (apply gF;first | (apply gFc;first | refine fw (oC1 (hc) rfl rfl rfl (o0 ⟨rfl,rfl⟩)) ?_ | refine fw (oC1 (ta) rfl rfl rfl (o0 ⟨rfl,rfl⟩)) ?_ | refine fw (oC1 (tb) rfl rfl rfl (o0 ⟨rfl,rfl⟩)) ?_ | refine fw (oC1 (h1) rfl rfl rfl (o0 ⟨rfl,rfl⟩)) ?_ | refine fw (oC1 (ht) rfl rfl rfl (o0 ⟨rfl,rfl⟩)) ?_) | (apply gFg;first | refine fz' rfl ?_ | refine fg rfl (decide_eq_false hge) rfl ?_ | refine ff rfl (decide_eq_false hge) ?_ | refine fg rfl (rfl) rfl ?_ | refine ff rfl (rfl) ?_ | refine fw (og rfl (decide_eq_false hge) (oC1 (hc) rfl rfl rfl (o0 ⟨rfl,rfl⟩))) ?_ | refine fw (og rfl (decide_eq_false hge) (oC1 (ta) rfl rfl rfl (o0 ⟨rfl,rfl⟩))) ?_ | refine fw (og rfl (decide_eq_false hge) (oC1 (tb) rfl rfl rfl (o0 ⟨rfl,rfl⟩))) ?_ | refine fw (og rfl (decide_eq_false hge) (oC1 (h1) rfl rfl rfl (o0 ⟨rfl,rfl⟩))) ?_ | refine fw (og rfl (decide_eq_false hge) (oC1 (ht) rfl rfl rfl (o0 ⟨rfl,rfl⟩))) ?_ | refine fw (og rfl (rfl) (oC1 (hc) rfl rfl rfl (o0 ⟨rfl,rfl⟩))) ?_ | refine fw (og rfl (rfl) (oC1 (ta) rfl rfl rfl (o0 ⟨rfl,rfl⟩))) ?_ | refine fw (og rfl (rfl) (oC1 (tb) rfl rfl rfl (o0 ⟨rfl,rfl⟩))) ?_ | refine fw (og rfl (rfl) (oC1 (h1) rfl rfl rfl (o0 ⟨rfl,rfl⟩))) ?_ | refine fw (og rfl (rfl) (oC1 (ht) rfl rfl rfl (o0 ⟨rfl,rfl⟩))) ?_) | (apply gFp;first | refine fpt rfl (decide_eq_false hge) rfl ?_ | refine fpf rfl (decide_eq_false hge) rfl ?_ | refine fpt rfl (rfl) rfl ?_ | refine fpf rfl (rfl) rfl ?_) | refine fw (ovx (op := .mapup _ _ _ _) rfl (o0 ⟨rfl,rfl⟩)) ?_ | refine fw (ov1 rfl (o0 ⟨rfl,rfl⟩)) ?_ | refine fw (omk rfl rfl (Nat.le_of_ble_eq_true rfl) (ab (Nat.le_of_ble_eq_true rfl) (by decide)) rfl rfl rfl (o0 ⟨rfl,rfl⟩)) ?_ | refine fw (oam rfl rfl rfl (Nat.le_of_ble_eq_true rfl) rfl rfl (ab (Nat.le_of_ble_eq_true rfl) (by decide)) rfl (o0 ⟨rfl,rfl⟩)) ?_ | refine fw (oak rfl rfl rfl rfl (ab (Nat.le_of_ble_eq_true rfl) (by decide)) rfl (o0 ⟨rfl,rfl⟩)) ?_ | apply fn0) | (apply gL;refine lh1 rfl rfl rfl rfl ?_) | refine lt' rfl ?_)
     rw [Nat.sub_zero,ea]
     rfl
   · have eb:num b=nat [b]:=by unfold num;rw [bG (by omega) (by omega)]
     obtain ⟨n,h1⟩:=H2 a b hb ha
     rw [ea,eb] at hc
     rw [ea] at ta
     rw [eb] at tb
     rw [ea,eb]
     refine ret_of rfl rfl (r0 ?_)
     (repeat first | (apply gO;first | (apply gOc;first | refine oC1 (hc) rfl rfl rfl ?_ | refine oC1 (ta) rfl rfl rfl ?_ | refine oC1 (tb) rfl rfl rfl ?_ | refine oC1 (h1) rfl rfl rfl ?_ | refine oC1 (ht) rfl rfl rfl ?_) | (apply gOg;first | refine oz rfl ?_ | refine og rfl (decide_eq_false hge) ?_ | refine of' rfl (decide_eq_false hge) ?_ | refine og rfl (rfl) ?_ | refine of' rfl (rfl) ?_) | (apply gOp;first | refine opt rfl (decide_eq_false hge) rfl ?_ | refine opf rfl (decide_eq_false hge) rfl ?_ | refine opt rfl (rfl) rfl ?_ | refine opf rfl (rfl) rfl ?_) | refine ovx (op := .mapup _ _ _ _) rfl ?_ | refine ov1 rfl ?_ | refine omk rfl rfl (Nat.le_of_ble_eq_true rfl) (ab (Nat.le_of_ble_eq_true rfl) (by decide)) rfl rfl rfl ?_ | refine oam rfl rfl rfl (Nat.le_of_ble_eq_true rfl) rfl rfl (ab (Nat.le_of_ble_eq_true rfl) (by decide)) rfl ?_ | refine oak rfl rfl rfl rfl (ab (Nat.le_of_ble_eq_true rfl) (by decide)) rfl ?_ | apply o0) | (apply gR;first | apply rs | refine rr rfl rfl ?_ | apply rb | apply rk | apply rx | apply rl | apply rt | refine rd rfl rfl ?_ | refine rct rfl (decide_eq_false hge) ?_ | refine rcf rfl (decide_eq_false hge) ?_ | refine rct rfl (rfl) ?_ | refine rcf rfl (rfl) ?_) | (apply gK;first | apply ks | apply kb | apply kl | apply xb | apply xs | apply xl | refine xo (by decide) ?_ | apply kq) | (apply gF;first | (apply gFc;first | refine fw (oC1 (hc) rfl rfl rfl (o0 ⟨rfl,rfl⟩)) ?_ | refine fw (oC1 (ta) rfl rfl rfl (o0 ⟨rfl,rfl⟩)) ?_ | refine fw (oC1 (tb) rfl rfl rfl (o0 ⟨rfl,rfl⟩)) ?_ | refine fw (oC1 (h1) rfl rfl rfl (o0 ⟨rfl,rfl⟩)) ?_ | refine fw (oC1 (ht) rfl rfl rfl (o0 ⟨rfl,rfl⟩)) ?_) | (apply gFg;first | refine fz' rfl ?_ | refine fg rfl (decide_eq_false hge) rfl ?_ | refine ff rfl (decide_eq_false hge) ?_ | refine fg rfl (rfl) rfl ?_ | refine ff rfl (rfl) ?_ | refine fw (og rfl (decide_eq_false hge) (oC1 (hc) rfl rfl rfl (o0 ⟨rfl,rfl⟩))) ?_ | refine fw (og rfl (decide_eq_false hge) (oC1 (ta) rfl rfl rfl (o0 ⟨rfl,rfl⟩))) ?_ | refine fw (og rfl (decide_eq_false hge) (oC1 (tb) rfl rfl rfl (o0 ⟨rfl,rfl⟩))) ?_ | refine fw (og rfl (decide_eq_false hge) (oC1 (h1) rfl rfl rfl (o0 ⟨rfl,rfl⟩))) ?_ | refine fw (og rfl (decide_eq_false hge) (oC1 (ht) rfl rfl rfl (o0 ⟨rfl,rfl⟩))) ?_ | refine fw (og rfl (rfl) (oC1 (hc) rfl rfl rfl (o0 ⟨rfl,rfl⟩))) ?_ | refine fw (og rfl (rfl) (oC1 (ta) rfl rfl rfl (o0 ⟨rfl,rfl⟩))) ?_ | refine fw (og rfl (rfl) (oC1 (tb) rfl rfl rfl (o0 ⟨rfl,rfl⟩))) ?_ | refine fw (og rfl (rfl) (oC1 (h1) rfl rfl rfl (o0 ⟨rfl,rfl⟩))) ?_ | refine fw (og rfl (rfl) (oC1 (ht) rfl rfl rfl (o0 ⟨rfl,rfl⟩))) ?_) | (apply gFp;first | refine fpt rfl (decide_eq_false hge) rfl ?_ | refine fpf rfl (decide_eq_false hge) rfl ?_ | refine fpt rfl (rfl) rfl ?_ | refine fpf rfl (rfl) rfl ?_) | refine fw (ovx (op := .mapup _ _ _ _) rfl (o0 ⟨rfl,rfl⟩)) ?_ | refine fw (ov1 rfl (o0 ⟨rfl,rfl⟩)) ?_ | refine fw (omk rfl rfl (Nat.le_of_ble_eq_true rfl) (ab (Nat.le_of_ble_eq_true rfl) (by decide)) rfl rfl rfl (o0 ⟨rfl,rfl⟩)) ?_ | refine fw (oam rfl rfl rfl (Nat.le_of_ble_eq_true rfl) rfl rfl (ab (Nat.le_of_ble_eq_true rfl) (by decide)) rfl (o0 ⟨rfl,rfl⟩)) ?_ | refine fw (oak rfl rfl rfl rfl (ab (Nat.le_of_ble_eq_true rfl) (by decide)) rfl (o0 ⟨rfl,rfl⟩)) ?_ | apply fn0) | (apply gL;refine lh1 rfl rfl rfl rfl ?_) | refine lt' rfl ?_)
     rfl
def lq (neg:Bool) (n d:Nat):D := .agg [.bool neg,num n,num d]
def red (neg:Bool) (n d:Nat):D:=lq (neg&&decide (n≠0)) (n/Nat.gcd n d) (d/Nat.gcd n d)
theorem qT:num 1=nat [1]:=rfl
theorem v5 {n:Nat} (h0:0 < n) (h:n < 4294967296):num n=nat [n]:=by unfold num;rw [bG h0 h]
theorem kC (n:Nat):((((lim n).map u32).length:Int)==0)=decide (n=0):=by
 unfold lim
 split
 · rename_i h;simp [h]
 · rename_i h;split<;>simp [h]
theorem jH (neg:Bool) (n d:Nat) (hn:n < 18446744073709551616) (hd0:0 < d) (hd:d < 4294967296):Ret VP (.fn 149) [.d (.bool neg),.d (num n),.d (num d)] [] (.d (red neg n d)) []:=by
 have tn:=ie n
 have td:=ie d
 by_cases h0:n=0
 · subst h0
   rw [show red neg 0 d=lq false 0 1 by simp [red,Nat.div_self hd0]]
   refine ret_of rfl rfl (r0 ?_)
   refine Z1 ?_
   rfl
 · have hg:=wQ n d hn (by omega)
   have hgp:0 < Nat.gcd n d:=Nat.gcd_pos_of_pos_right _ hd0
   have hgl:Nat.gcd n d<=d:=Nat.gcd_le_right _ hd0
   have hl:((((lim n).map u32).length:Int)==0)=false:=by rw [kC];simp [h0]
   have q1:=jV n (Nat.gcd n d) hn hgp (by omega)
   have q2:=jV d (Nat.gcd n d) (by omega) hgp (by omega)
   by_cases h1:Nat.gcd n d=1
   · rw [show red neg n d=lq neg n d by simp [red,h0,h1]]
     rw [h1,qT] at hg
     refine ret_of rfl rfl (r0 ?_)
     refine Z2 ?_
     rfl
   · rw [show red neg n d=lq neg (n/Nat.gcd n d) (d/Nat.gcd n d) by simp [red,h0]]
     rw [v5 hgp (by omega)] at hg q1 q2
     have hne:((Nat.gcd n d:Int) != 1)=true:=by simp;omega
     refine ret_of rfl rfl (r0 ?_)
     (have hz1:=q1;have hz2:=q2;refine Z2 ?_)
     rfl
theorem gd (neg:Bool) (n d:Nat):Ret VP (.fn 150) [.d (lq neg n d)] [] (.d (lq neg n d)) []:=by
 refine ret_of rfl rfl (r0 ?_)
 refine Z2 ?_
 rfl
theorem gh (neg:Bool) (n d:Nat) (hn:n < 18446744073709551616) (hd0:0 < d) (hd:d < 4294967296):Ret VP (.fn 195) [.d (lq neg n d)] [] (.d (red neg n d)) []:=by
 have hz:=pj d (by omega)
 have hr:=jH neg n d hn hd0 hd
 have hf:(dm d 0==0)=false:=by simp [dm];omega
 refine ret_of rfl rfl (r0 ?_)
 refine Z2 ?_
 rfl
theorem qS (d:Nat) (hd:d < 18446744073709551616):Ret VP (.fn 197) [.d (num d)] [] (.d (.bool (decide (d=1)))) []:=by
 rcases lim_cases d hd with ⟨rfl,e⟩ | ⟨h0,h1,e⟩ | ⟨x,y,hx,hy0,hy,rfl,e⟩
 · refine ret_of rfl rfl (r0 ?_)
   refine Z2 ?_
   rfl
 · by_cases h:d=1
   · subst h
     refine ret_of rfl rfl (r0 ?_)
     refine Z2 ?_
     rfl
   · have hf:((d:Int)==1)=false:=by simp;omega
     rw [show decide (d=1)=false by simp [h]]
     unfold num;rw [e]
     refine ret_of rfl rfl (r0 ?_)
     refine Z2 ?_
     refine fe rfl ?_ rfl
     rw [hf]
 · rw [show decide (x+y*4294967296=1)=false by simp;omega]
   unfold num;rw [e]
   refine ret_of rfl rfl (r0 ?_)
   refine Z2 ?_
   rfl
theorem th (neg:Bool) (n d:Nat) (hn:n < 18446744073709551616) (hd0:0 < d) (hd:d < 4294967296):Ret VP (.fn 185) [.d (lq neg n d)] [] (.d (red neg n d)) []:=by
 have h1:=gh neg n d hn hd0 hd
 have h2:=gd (neg&&decide (n≠0)) (n/Nat.gcd n d) (d/Nat.gcd n d)
 refine ret_of rfl rfl (r0 ?_)
 refine Z2 ?_
 rfl
def sgn (neg:Bool) (n:Nat):Int:=if n=0 then 0 else if neg then -1 else 1
theorem sJ (neg:Bool) (n d:Nat) (hn:n < 18446744073709551616) (hd0:0 < d) (hd:d < 4294967296):Ret VP (.fn 157) [.d (lq neg n d)] [] (.d (.int .i64 (sgn neg n))) []:=by
 have h1:=gh neg n d hn hd0 hd
 have hgp:0 < Nat.gcd n d:=Nat.gcd_pos_of_pos_right _ hd0
 by_cases h0:n=0
 · subst h0
   rw [show red neg 0 d=lq false 0 1 by simp [red,Nat.div_self hd0]] at h1
   refine ret_of rfl rfl (r0 ?_)
   refine Z2 ?_
   rfl
 · have hl:((((lim (n/Nat.gcd n d)).map u32).length:Int)==0)=false:=by
    rw [kC];simp;exact ⟨by omega,Nat.gcd_le_left _ (by omega)⟩
   rw [show red neg n d=lq neg (n/Nat.gcd n d) (d/Nat.gcd n d) by simp [red,h0]] at h1
   cases neg with
   | true =>
     rw [show sgn true n = -1 by simp [sgn,h0]]
     refine ret_of rfl rfl (r0 ?_)
     refine Z2 ?_
     rfl
   | false =>
     rw [show sgn false n=1 by simp [sgn,h0]]
     refine ret_of rfl rfl (r0 ?_)
     refine Z2 ?_
     rfl
def sg (neg:Bool) (n:Nat):Int:=if neg then -(n:Int) else n
def qD (q:Rat):D:=lq (decide (q.num < 0)) q.num.natAbs q.den
theorem iv (neg:Bool) (n:Nat):(sg neg n).natAbs=n:=by cases neg<;>simp [sg]
theorem eX (z:Int):sg (decide (z < 0)) z.natAbs=z:=by
 unfold sg
 by_cases h:z < 0
 · simp only [h,decide_true,if_true];omega
 · simp only [h,decide_false,Bool.false_eq_true,if_false];omega
theorem uW (neg:Bool) (n d:Nat) (hd:0 < d):red neg n d=qD (mkRat (sg neg n) d):=by
 have hd':d≠0:=by omega
 have e1:(mkRat (sg neg n) d).num=sg neg n/((Nat.gcd d n:Nat):Int):=by rw [Rat.num_mkRat,if_neg hd',iv]
 have e2:(mkRat (sg neg n) d).den=d/Nat.gcd n d:=by rw [Rat.den_mkRat,if_neg hd',iv,Nat.gcd_comm]
 have hg:0 < Nat.gcd d n:=Nat.gcd_pos_of_pos_left _ hd
 have hdv:Nat.gcd d n ∣ n:=Nat.gcd_dvd_right _ _
 have e5:n/Nat.gcd n d=n/Nat.gcd d n:=by rw [Nat.gcd_comm]
 obtain ⟨k,hk⟩:=hdv
 have e3:sg neg n/((Nat.gcd d n:Nat):Int)=sg neg k:=by
  generalize Nat.gcd d n=g at hk hg
  subst hk
  unfold sg
  cases neg with
  | true =>
    simp only [if_true]
    rw [Int.natCast_mul,Int.neg_ediv_of_dvd ⟨_,rfl⟩,Int.mul_ediv_cancel_left _ (by omega)]
  | false =>
    simp only [Bool.false_eq_true,if_false]
    rw [Int.natCast_mul,Int.mul_ediv_cancel_left _ (by omega)]
 have e4:n/Nat.gcd n d=k:=by
  rw [e5]
  generalize Nat.gcd d n=g at hk hg
  subst hk
  exact Nat.mul_div_cancel_left _ hg
 unfold red qD
 rw [e1,e2,e3,e4,iv]
 congr 1
 have h0:n=0 ↔ k=0:=by
  constructor
  · intro h;rw [h] at e4;rw [<- e4];simp
  · intro h;rw [h,Nat.mul_zero] at hk;exact hk
 cases neg with
 | false=>simp [sg]
 | true =>
   simp only [Bool.true_and,sg,if_true,ne_eq,h0]
   by_cases hk0:k=0
   · simp [hk0]
   · simp only [hk0,not_false_eq_true,decide_true]
     symm;rw [decide_eq_true_eq];omega
theorem wo (q:Rat):mkRat (sg (decide (q.num < 0)) q.num.natAbs) q.den=q:=by rw [eX];exact Rat.mkRat_self q
theorem nJ (q:Rat):red (decide (q.num < 0)) q.num.natAbs q.den=qD q:=by rw [uW _ _ _ (Nat.pos_of_ne_zero q.den_nz),wo]
def fit (B:Nat) (q:Rat):Prop:=q.num.natAbs < B/\q.den < B
def nW (q:Rat):Prop:=q.num.natAbs < 18446744073709551616/\q.den < 4294967296
theorem fit.N {q:Rat} (h:fit 4294967296 q):nW q:=⟨by have:=h.1;omega,h.2⟩
theorem iK (q:Rat) (h:nW q):Ret VP (.fn 195) [.d (qD q)] [] (.d (qD q)) []:=by
 have:=gh (decide (q.num < 0)) q.num.natAbs q.den h.1 (Nat.pos_of_ne_zero q.den_nz) h.2
 rwa [nJ] at this
theorem aa8 (q:Rat):Ret VP (.fn 150) [.d (qD q)] [] (.d (qD q)) []:=gd _ _ _
theorem Iw (q:Rat) (h:nW q):Ret VP (.fn 185) [.d (qD q)] [] (.d (qD q)) []:=by
 have:=th (decide (q.num < 0)) q.num.natAbs q.den h.1 (Nat.pos_of_ne_zero q.den_nz) h.2
 rwa [nJ] at this
def sgQ (q:Rat):Int:=if q.num=0 then 0 else if q.num < 0 then -1 else 1
theorem H5 (q:Rat) (h:nW q):Ret VP (.fn 157) [.d (qD q)] [] (.d (.int .i64 (sgQ q))) []:=by
 have:=sJ (decide (q.num < 0)) q.num.natAbs q.den h.1 (Nat.pos_of_ne_zero q.den_nz) h.2
 have e:sgn (decide (q.num < 0)) q.num.natAbs=sgQ q:=by unfold sgn sgQ;simp [Int.natAbs_eq_zero]
 rwa [e] at this
theorem gc (neg:Bool) (n d:Nat) (hn:n < 18446744073709551616) (hd0:0 < d) (hd:d < 4294967296):Ret VP (.fn 149) [.d (.bool neg),.d (num n),.d (num d)] [] (.d (qD (mkRat (sg neg n) d))) []:=by
 rw [<- uW _ _ _ hd0];exact jH neg n d hn hd0 hd
theorem an2 (a b:Rat) (ha:fit 65536 a) (hb:fit 65536 b):Ret VP (.fn 155) [.d (qD a),.d (qD b)] [] (.d (qD (a*b))) []:=by
 have fa:fit 4294967296 a:=⟨by have:=ha.1;omega,by have:=ha.2;omega⟩
 have fb:fit 4294967296 b:=⟨by have:=hb.1;omega,by have:=hb.2;omega⟩
 have na:=iK a fa.N
 have nb:=iK b fb.N
 have m1:=iL a.num.natAbs b.num.natAbs fa.1 fb.1
 have m2:=iL a.den b.den fa.2 fb.2
 have hn:a.num.natAbs*b.num.natAbs<=65535*65535:=Nat.mul_le_mul (by have:=ha.1;omega) (by have:=hb.1;omega)
 have hd:a.den*b.den<=65535*65535:=Nat.mul_le_mul (by have:=ha.2;omega) (by have:=hb.2;omega)
 have hp:0 < a.den*b.den:=Nat.mul_pos (Nat.pos_of_ne_zero a.den_nz) (Nat.pos_of_ne_zero b.den_nz)
 have hr:=gc (decide (a.num < 0) != decide (b.num < 0)) (a.num.natAbs*b.num.natAbs) (a.den*b.den) (by omega) hp (by omega)
 have e:mkRat (sg (decide (a.num < 0) != decide (b.num < 0)) (a.num.natAbs*b.num.natAbs)) (a.den*b.den)=a*b:=by
  conv=>rhs;rw [<- Rat.mkRat_self a,<- Rat.mkRat_self b,Rat.mkRat_mul_mkRat]
  congr 1
  have h1:=eX a.num
  have h2:=eX b.num
  conv=>rhs;rw [<- h1,<- h2]
  generalize decide (a.num < 0)=s
  generalize decide (b.num < 0)=t
  cases s<;>cases t<;>simp [sg,Int.neg_mul,Int.mul_neg]
 rw [e] at hr
 have hq:=aa8 (a*b)
 refine ret_of rfl rfl (r0 ?_)
 refine Z2 ?_
 rfl
theorem n3 (s t:Bool) (m n d:Nat) (hm:m < 4294967296) (hn:n < 4294967296) (hd0:0 < d) (hd:d < 4294967296):Ret VP (.fn 198) [.d (.bool s),.d (num m),.d (.bool t),.d (num n),.d (num d)] [] (.d (qD (mkRat (sg s m+sg t n) d))) []:=by
 by_cases hst:s=t
 · subst hst
   have h1:=Hj m n hm hn
   have h2:=gc s (m+n) d (by omega) hd0 hd
   rw [show sg s (m+n)=sg s m+sg s n by cases s<;>simp [sg]<;>omega] at h2
   have hb:(s==s)=true:=by simp
   refine ret_of rfl rfl (r0 ?_)
   refine Z2 ?_
   rfl
 · have hb:(s==t)=false:=by simp [hst]
   have hc:=kJ m n (by omega) (by omega)
   by_cases h:m < n
   · have hl:dm m n < 0:=by simp [dm,h]
     have h1:=qp n m (by omega) hn
     have h2:=gc t (n - m) d (by omega) hd0 hd
     rw [show sg t (n - m)=sg s m+sg t n by cases s<;>cases t<;>simp_all [sg]<;>omega] at h2
     refine ret_of rfl rfl (r0 ?_)
     (have hz1:=decide_eq_true hl;refine Z2 ?_)
     rfl
   · have hl:¬ dm m n < 0:=by unfold dm;rw [if_neg h];split<;>omega
     have h1:=qp m n (by omega) hm
     have h2:=gc s (m - n) d (by omega) hd0 hd
     rw [show sg s (m - n)=sg s m+sg t n by cases s<;>cases t<;>simp_all [sg]<;>omega] at h2
     refine ret_of rfl rfl (r0 ?_)
     (have hz2:=decide_eq_false hl;refine Z2 ?_)
     rfl
theorem asE (s:Bool) (u v:List D) (a b:Rat) (ha:fit 65536 a) (hb:fit 65536 b) (na:Ret VP (.fn 195) [.d (.agg [.bool s,.slice u,.slice v])] [] (.d (qD a)) []):Ret VP (.fn 156) [.d (.agg [.bool s,.slice u,.slice v]),.d (qD b)] [] (.d (qD (a+b))) []:=by
 have fa:fit 4294967296 a:=⟨by have:=ha.1;omega,by have:=ha.2;omega⟩
 have fb:fit 4294967296 b:=⟨by have:=hb.1;omega,by have:=hb.2;omega⟩
 have nb:=iK b fb.N
 have oa:=qS a.den (by have:=fa.2;omega)
 have ob:=qS b.den (by have:=fb.2;omega)
 have hq:=aa8 (a+b)
 have pa:=Nat.pos_of_ne_zero a.den_nz
 have pb:=Nat.pos_of_ne_zero b.den_nz
 by_cases h1:a.den=1/\b.den=1
 · have hc:=n3 (decide (a.num < 0)) (decide (b.num < 0)) a.num.natAbs b.num.natAbs a.den fa.1 fb.1 pa fa.2
   rw [eX,eX] at hc
   have e:mkRat (a.num+b.num) a.den=a+b:=by
    conv=>rhs;rw [<- Rat.mkRat_self a,<- Rat.mkRat_self b,Rat.mkRat_add_mkRat _ _ a.den_nz b.den_nz]
    rw [h1.1,h1.2];simp
   rw [e] at hc
   refine ret_of rfl rfl (r0 ?_)
   (have hz3:=decide_eq_true h1.1;have hz4:=decide_eq_true h1.2;refine Z2 ?_)
   rfl
 · have m1:=iL a.num.natAbs b.den fa.1 fb.2
   have m2:=iL b.num.natAbs a.den fb.1 fa.2
   have m3:=iL a.den b.den fa.2 fb.2
   have l1:a.num.natAbs*b.den<=65535*65535:=Nat.mul_le_mul (by have:=ha.1;omega) (by have:=hb.2;omega)
   have l2:b.num.natAbs*a.den<=65535*65535:=Nat.mul_le_mul (by have:=hb.1;omega) (by have:=ha.2;omega)
   have l3:a.den*b.den<=65535*65535:=Nat.mul_le_mul (by have:=ha.2;omega) (by have:=hb.2;omega)
   have hc:=n3 (decide (a.num < 0)) (decide (b.num < 0)) (a.num.natAbs*b.den) (b.num.natAbs*a.den) (a.den*b.den) (by omega) (by omega) (Nat.mul_pos pa pb) (by omega)
   have s1:sg (decide (a.num < 0)) (a.num.natAbs*b.den)=a.num*b.den:=by
    conv=>rhs;rw [<- eX a.num]
    generalize decide (a.num < 0)=s
    cases s<;>simp [sg,Int.neg_mul]
   have s2:sg (decide (b.num < 0)) (b.num.natAbs*a.den)=b.num*a.den:=by
    conv=>rhs;rw [<- eX b.num]
    generalize decide (b.num < 0)=s
    cases s<;>simp [sg,Int.neg_mul]
   rw [s1,s2] at hc
   have e:mkRat (a.num*b.den+b.num*a.den) (a.den*b.den)=a+b:=by
    conv=>rhs;rw [<- Rat.mkRat_self a,<- Rat.mkRat_self b,Rat.mkRat_add_mkRat _ _ a.den_nz b.den_nz]
   rw [e] at hc
   by_cases ha1:a.den=1
   · have hb1:¬ b.den=1:=fun h=>h1 ⟨ha1,h⟩
     refine ret_of rfl rfl (r0 ?_)
     (have hz5:=decide_eq_true ha1;have hz6:=decide_eq_false hb1;refine Z2 ?_)
     rfl
   · refine ret_of rfl rfl (r0 ?_)
     (have hz7:=decide_eq_false ha1;refine Z2 ?_)
     rfl
theorem amL (a b:Rat) (ha:fit 65536 a) (hb:fit 65536 b):Ret VP (.fn 156) [.d (qD a),.d (qD b)] [] (.d (qD (a+b))) [] :=
 asE _ _ _ a b ha hb (iK a ⟨by have:=ha.1;omega,by have:=ha.2;omega⟩)
theorem qg (n:Nat) (h:n < 18446744073709551616):Ret VP (.fn 189) [.d (nat [n%4294967296,n/4294967296])] [] (.d (num n)) []:=by
 have:=oj [n%4294967296,n/4294967296] (by simp)
 rwa [cV _ _ (by omega) (by omega),show n%4294967296+n/4294967296*4294967296=n by omega] at this
theorem dN (n:Nat) (h:n < 9223372036854775808):Ret VP (.fn 148) [.d (.int .i64 n)] [] (.d (.tuple [.bool false,num n])) []:=by
 have h1:¬ (n:Int) < 0:=by omega
 have e3:(2:Int) ^ min (Int.toNat 32) IntKind.u64.bits=((4294967296:Nat):Int):=by decide +kernel
 have e4:IntKind.u32.wrap ((IntKind.u64.wrap (n:Int)).fdiv (2 ^ min (Int.toNat 32) IntKind.u64.bits))=(n/4294967296:Nat):=by
  rw [bn (by omega),e3,hW,jo (by omega)]
 have e5:IntKind.u32.wrap (IntKind.u64.wrap (n:Int))=(n%4294967296:Nat):=by rw [bn (by omega)];exact fU n
 have ht:=qg n (by omega)
 refine ret_of rfl rfl (r0 ?_)
 (have hz1:=decide_eq_false h1;refine Z1 ?_)
 rw [e4,e5]
 refine Z1 ?_
 refine fe rfl ?_ rfl
 rw [show decide ((n:Int) < 0)=false by simp]
 rfl
theorem an7 (n:Nat) (h:n < 4294967296):Ret VP (.fn 107) [.d (.int .i64 n)] [] (.d (qD n)) []:=by
 have h1:=dN n (by omega)
 have h2:=gc false n 1 (by omega) (by omega) (by omega)
 have e:mkRat (sg false n) 1=(n:Rat):=by
  show mkRat ((n:Int)) 1=(n:Rat)
  rw [Rat.mkRat_one];rfl
 rw [e,qT] at h2
 have hq:=aa8 (n:Rat)
 refine ret_of rfl rfl (r0 ?_)
 refine Z2 ?_
 rfl
theorem tp (neg:Bool) (n d:Nat) (h:Ret VP (.fn 195) [.d (lq neg n d)] [] (.d (lq neg n d)) []):Ret VP (.fn 264) [.d (lq neg n d)] [] (.d (lq (!neg&&decide (n≠0)) n d)) []:=by
 have hr:=gd
 cases neg with
 | true =>
   have hr:=gd false n d
   refine ret_of rfl rfl (r0 ?_)
   refine Z2 ?_
   rfl
 | false =>
   by_cases h0:n=0
   · subst h0
     have hr:=gd false 0 d
     refine ret_of rfl rfl (r0 ?_)
     refine Z2 ?_
     rfl
   · have hl:(((lim n).map u32).length:Int) > 0:=by
      have:=kC n
      rw [show decide (n=0)=false by simp [h0]] at this
      simp at this ⊢
      cases hq:lim n with
      | nil=>exact absurd hq this
      | cons x xs=>simp
     have hr:=gd (decide ((((lim n).map u32).length:Int) > 0)) n d
     rw [show (!false&&decide (n≠0))=true by simp [h0]]
     refine ret_of rfl rfl (r0 ?_)
     refine Z2 ?_
     refine fe rfl ?_ rfl
     rw [decide_eq_true hl];rfl
theorem an1 (q:Rat) (h:nW q):Ret VP (.fn 264) [.d (qD q)] [] (.d (qD (-q))) []:=by
 have:=tp (decide (q.num < 0)) q.num.natAbs q.den (iK q h)
 have e:lq (!decide (q.num < 0)&&decide (q.num.natAbs≠0)) q.num.natAbs q.den=qD (-q):=by
  unfold qD
  rw [Rat.neg_num,Rat.neg_den,Int.natAbs_neg]
  congr 1
  rw [<- decide_not,<- Bool.decide_and]
  apply decide_eq_decide.2
  omega
 rwa [e] at this
theorem rj {B:Nat} {q:Rat} (h:fit B q):fit B (-q):=by unfold fit at *;rw [Rat.neg_num,Rat.neg_den,Int.natAbs_neg];exact h
theorem amN (a b:Rat) (ha:fit 65536 a) (hb:fit 65536 b):Ret VP (.fn 249) [.d (qD a),.d (qD b)] [] (.d (qD (a - b))) []:=by
 have h1:=an1 b ⟨by have:=hb.1;omega,by have:=hb.2;omega⟩
 have h2:=amL a (-b) ha (rj hb)
 rw [<- Rat.sub_eq_add_neg] at h2
 refine ret_of rfl rfl (r0 ?_)
 refine Z2 ?_
 rfl
theorem r9 (a b:Rat):(a+b).num.natAbs<=a.num.natAbs*b.den+b.num.natAbs*a.den/\(a+b).den<=a.den*b.den:=by
 have h:=Rat.add_def a b
 rw [Rat.normalize_eq] at h
 have hn:=congrArg Rat.num h
 have hd:=congrArg Rat.den h
 simp only at hn hd
 rw [hn,hd]
 refine ⟨?_,Nat.div_le_self _ _⟩
 refine Nat.le_trans (Int.natAbs_ediv_le_natAbs _ _) ?_
 refine Nat.le_trans (Int.natAbs_add_le _ _) ?_
 rw [Int.natAbs_mul,Int.natAbs_mul,Int.natAbs_natCast,Int.natAbs_natCast]
 omega
theorem ri {a b:Rat} (ha:fit 65536 a) (hb:fit 65536 b):nW (a - b):=by
 have hp:=r9 a (-b)
 rw [Rat.neg_num,Rat.neg_den,Int.natAbs_neg,<- Rat.sub_eq_add_neg] at hp
 have l1:a.num.natAbs*b.den<=65535*65535:=Nat.mul_le_mul (by have:=ha.1;omega) (by have:=hb.2;omega)
 have l2:b.num.natAbs*a.den<=65535*65535:=Nat.mul_le_mul (by have:=hb.1;omega) (by have:=ha.2;omega)
 have l3:a.den*b.den<=65535*65535:=Nat.mul_le_mul (by have:=ha.2;omega) (by have:=hb.2;omega)
 exact ⟨by omega,by omega⟩
theorem dH (a b:Rat) (ha:fit 65536 a) (hb:fit 65536 b):Ret VP (.fn 214) [.d (qD a),.d (qD b)] [] (.d (.int .i64 (sgQ (a - b)))) []:=by
 have h1:=amN a b ha hb
 have h2:=H5 (a - b) (ri ha hb)
 refine ret_of rfl rfl (r0 ?_)
 refine Z2 ?_
 rfl
end Go.Proofs.YtncfpmehhfdipaaGreat
namespace Go.Proofs.YtncfpmehhfdipaaGreat
open Go.IntWalk
attribute [local irreducible] au
set_option maxHeartbeats 4000000
set_option maxRecDepth 100000
def ct (q:Rat):D := .agg [.int .i64 0,.int .i64 0,.int .i64 0,.int .i64 0,.int .i64 0,.int .i64 0,.int .i64 0,.int .i64 0,.bool (decide (q.num < 0)),num q.num.natAbs,num q.den]
def ctR (q:Rat):List V:=(ct q).cells.map V.d
def Hk:D := .func 188 [.agg [.int .i64 8]] []
theorem an6:Ret VP (.fn 200) [.d (.int .u64 0)] [] (.d (.int .i64 0)) []:=by
 have h:Ret VP (.fn 237) [.d (.int .u64 0)] [] (.d (.int .i64 0)) []:=by
  refine ret_of rfl rfl (r0 ?_)
  refine Z2 ?_
  rfl
 refine ret_of rfl rfl (r0 ?_)
 refine Z2 ?_
 rfl
theorem an5:Ret VP (.fn 200) [.d (.int .u64 1)] [] (.d (.int .i64 1)) []:=by
 have h:Ret VP (.fn 237) [.d (.int .u64 1)] [] (.d (.int .i64 1)) []:=by
  refine ret_of rfl rfl (r0 ?_)
  refine Z2 ?_
  rfl
 refine ret_of rfl rfl (r0 ?_)
 refine Z2 ?_
 rfl
theorem IJ (q:Rat):Ret VP (.fn 228) [.ms 0 1 0 1,.d (.int .i64 0),.d (.int .i64 1),.d Hk] [some (.rows 1 false 11 [ctR q])] (.d (.tuple [])) [some (.rows 1 false 11 [ctR q])]:=by
 refine ret_of rfl rfl (r0 ?_)
 refine Z2 ?_
 rfl
theorem In (q:Rat):Ret VP (.fn 199) [.ms 0 1 0 1,.d (.int .i64 0),.d (.int .i64 1),.d (.int .i64 1),.d Hk] [some (.rows 1 false 11 [ctR q])] (.d (.tuple [])) [some (.rows 1 false 11 [ctR q])]:=by
 have h:=IJ q
 refine ret_of rfl rfl (r0 ?_)
 refine Z2 ?_
 rfl
theorem H3 (q:Rat):Ret VP (.fn 158) [.ms 0 1 0 1,.d Hk] [some (.rows 1 false 11 [ctR q])] (.d (.tuple [])) [some (.rows 1 false 11 [ctR q])]:=by
 have h:=In q
 have hl:=an5
 refine ret_of rfl rfl (r0 ?_)
 refine Z2 ?_
 rfl
theorem aaS:Ret VP (.fn 158) [.d (.slice []),.d Hk] [] (.d (.tuple [])) []:=by
 have h:Ret VP (.fn 228) [.d (.slice []),.d (.int .i64 0),.d (.int .i64 0),.d Hk] [] (.d (.tuple [])) []:=by
  refine ret_of rfl rfl (r0 ?_)
  refine Z2 ?_
  rfl
 have h2:Ret VP (.fn 199) [.d (.slice []),.d (.int .i64 0),.d (.int .i64 0),.d (.int .i64 0),.d Hk] [] (.d (.tuple [])) []:=by
  refine ret_of rfl rfl (r0 ?_)
  refine Z2 ?_
  rfl
 have hl:=an6
 refine ret_of rfl rfl (r0 ?_)
 refine Z2 ?_
 rfl
theorem arO (q:Rat) (h:nW q):Ret VP (.fn 187) [.d (ct q)] [] (.d (.bool (sgQ q==0))) []:=by
 have hs:=H5 q h
 refine ret_of rfl rfl (r0 ?_)
 refine Z2 ?_
 rfl
def abJ:D := .func 187 [] []
theorem u4 (q:Rat) (h:nW q):Ret VP (.fn 216) [.d (.slice [ct q]),.d abJ] [] (.d (.int .i64 (if q=0 then 0 else -1))) []:=by
 have hd:=arO q h
 by_cases h0:q=0
 · subst h0
   rw [show (sgQ 0==0)=true by decide] at hd
   rw [if_pos rfl]
   refine ret_of rfl rfl (r0 ?_)
   refine Z2 ?_
   rfl
 · have hf:(sgQ q==0)=false:=by
    have:q.num≠0:=fun hh=>h0 (Rat.num_eq_zero.1 hh)
    unfold sgQ;rw [if_neg this];split<;>rfl
   rw [hf] at hd
   rw [if_neg h0]
   refine ret_of rfl rfl (r0 ?_)
   refine Z2 ?_
   rfl
theorem rJ (q:Rat) (h:nW q) (h0:q≠0):Ret VP (.fn 186) [.ms 0 1 0 1,.d abJ] [some (.rows 1 false 11 [ctR q])] (.ms 0 1 0 1) [some (.rows 1 false 11 [ctR q])]:=by
 have hi:=u4 q h
 rw [if_neg h0] at hi
 refine ret_of rfl rfl (r0 ?_)
 refine Z2 ?_
 rfl
def aaH:List V:=[me 0,me 0,me 0,me 0,me 0,me 0,me 0,me 0,.d (.bool false),.nils,.nils]
theorem xk:Ret VP (.fn 186) [.ms 0 1 0 1,.d abJ] [some (.rows 1 false 11 [ctR 0])] (.d (.slice [])) [some (.rows 1 false 11 [aaH])]:=by
 have hi:=u4 0 ⟨by decide,by decide⟩
 rw [if_pos rfl] at hi
 refine ret_of rfl rfl (r0 ?_)
 refine Z2 ?_
 rfl
def cp (q:Rat):D := .slice (if q=0 then [] else [ct q])
theorem ib (q:Rat) (h:nW q):Ret VP (.fn 147) [.d (.slice [ct q])] [] (.d (cp q)) []:=by
 have hn:=Iw q h
 by_cases h0:q=0
 · subst h0
   rw [show cp 0 = .slice [] by simp [cp]]
   have hd:=xk
   have hs:=aaS
   refine ret_of rfl rfl (r0 ?_)
   refine Z2 ?_
   rfl
 · rw [show cp q = .slice [ct q] by simp [cp,h0]]
   have hd:=rJ q h h0
   have hs:=H3 q
   refine ret_of rfl rfl (r0 ?_)
   refine Z2 ?_
   refine fe rfl ?_ rfl
   rfl
def wn:D := .agg [.int .i64 0,.int .i64 0,.int .i64 0,.int .i64 0,.int .i64 0,.int .i64 0,.int .i64 0,.int .i64 0]
theorem Jv (q:Rat) (h:nW q):Ret VP (.fn 106) [.d (qD q)] [] (.d (cp q)) []:=by
 have h:=ib q h
 refine ret_of rfl rfl (r0 ?_)
 refine Z2 ?_
 rfl
theorem amA (n:Nat) (hn:n < 4294967296):Ret VP (.fn 65) [.d (.int .i64 n)] [] (.d (cp n)) []:=by
 have h:=an7 n hn
 have h2:=Jv n ⟨by simp;omega,by simp⟩
 refine ret_of rfl rfl (r0 ?_)
 refine Z2 ?_
 rfl
theorem Hq:Ret VP (.fn 154) [.d wn,.d wn] [] (.d wn) []:=by
 refine ret_of rfl rfl (r0 ?_)
 refine Z2 ?_
 rfl
theorem lB (a b:Rat):(a*b).num.natAbs<=a.num.natAbs*b.num.natAbs/\(a*b).den<=a.den*b.den:=by
 have h:=Rat.mul_def a b
 rw [Rat.normalize_eq] at h
 have hn:=congrArg Rat.num h
 have hd:=congrArg Rat.den h
 simp only at hn hd
 rw [hn,hd]
 refine ⟨?_,Nat.div_le_self _ _⟩
 refine Nat.le_trans (Int.natAbs_ediv_le_natAbs _ _) ?_
 rw [Int.natAbs_mul]
 omega
theorem wU {a b:Rat} (ha:fit 65536 a) (hb:fit 65536 b):nW (a*b):=by
 have hp:=lB a b
 have l1:a.num.natAbs*b.num.natAbs<=65535*65535:=Nat.mul_le_mul (by have:=ha.1;omega) (by have:=hb.1;omega)
 have l2:a.den*b.den<=65535*65535:=Nat.mul_le_mul (by have:=ha.2;omega) (by have:=hb.2;omega)
 exact ⟨by omega,by omega⟩
theorem aaY (a b:Rat) (ha:fit 65536 a) (hb:fit 65536 b) (h0:a≠0) (h1:b≠0):Ret VP (.fn 110) [.d (.slice [ct a]),.d (.slice [ct b])] [] (.d (.slice [ct (a*b)])) []:=by
 have h:=an2 a b ha hb
 have ht:=Hq
 have hc:=ib (a*b) (wU ha hb)
 rw [show cp (a*b) = .slice [ct (a*b)] by rw [cp,if_neg (fun h=>(Rat.mul_eq_zero.1 h).elim h0 h1)]] at hc
 refine ret_of rfl rfl (r0 ?_)
 refine Z2 ?_
 rfl
end Go.Proofs.YtncfpmehhfdipaaGreat
