/- Calls and what they answer,one on top of the others: part 0. Printed by wip/tools/tab.py. -/
import Derived.Test.YtncfpmehhfdipaaGreatA08
import Derived.Test.YtncfpmehhfdipaaGreatA09
set_option linter.unusedSimpArgs false
set_option linter.unusedVariables false
set_option linter.unnecessarySimpa false
namespace Go.Proofs.YtncfpmehhfdipaaGreat
set_option maxRecDepth 100000
theorem ua0:Q1 41 (I 1) (A [B false,S [W 1],S [W 1]]):=Tk .n
theorem ua1:Q2 114 (S [W 1]) (S [W 1]) (I 0):=Tk .n
theorem ua2:Q2 72 (S [W 1]) (S [W 1]) (U [S [W 1],S [],I 0]):=Tk (.c ua1 .n)
theorem ua3:Q2 71 (S [W 1]) (S [W 1]) (S [W 1]):=Tk (.c ua2 .n)
theorem ua4:Q3 42 (B false) (S [W 1]) (S [W 1]) (A [B false,S [W 1],S [W 1]]):=Tk (.c ua3 (.c ua2 .n))
theorem ua5:Q1 121 (A [B false,S [W 1],S [W 1]]) (A [B false,S [W 1],S [W 1]]):=Tk (.c ua4 .n)
theorem ua6:Q1 122 (A [B false,S [W 1],S [W 1]]) (I 1):=Tk (.c ua5 .n)
def aSB:D:=A [I 0,I 0,I 0,I 0,I 0,I 0,I 0,I 0,B false,S [W 1],S [W 1]]
def aX:D:=S [aSB]
theorem ua7:Q2 73 (S []) aSB aX:=Tk (.c ua5 (.c ua6 .n))
theorem ua8:Q1 43 aX aX:=Tk (.c ua7 .n)
theorem ua9:Q1 20 (A [B false,S [W 1],S [W 1]]) aX:=Tk (.c ua8 .n)
theorem asW:Q0 22 aX:=Tk (.c ua0 (.c ua9 .n))
theorem ax7:Q1 41 (I 2) (A [B false,S [W 2],S [W 1]]):=Tk .n
theorem aT4:Q2 114 (S [W 1]) (S [W 2]) (J 0):=Tk .n
theorem aT3:Q2 114 (S [W 2]) (S [W 1]) (I 1):=Tk .n
theorem auA:Q2 72 (S [W 2]) (S [W 1]) (U [S [W 2],S [],I 0]):=Tk (.c aT3 .n)
theorem aT2:Q2 71 (S [W 1]) (S [W 2]) (S [W 1]):=Tk (.c aT4 (.c auA .n))
theorem aHP:Q3 42 (B false) (S [W 1]) (S [W 2]) (A [B false,S [W 1],S [W 2]]):=Tk (.c aT2 (.c ua2 (.c auA .n)))
theorem aQ0:Q2 19 (I 1) (I 2) (U [A [B false,S [W 1],S [W 2]],I 0]):=Tk (.c ua0 (.c ax7 (.c aHP .n)))
theorem atO:Q1 121 (A [B false,S [W 1],S [W 2]]) (A [B false,S [W 1],S [W 2]]):=Tk (.c aHP .n)
theorem atB:Q2 124 (S [W 1]) (S [W 1]) (S [W 1]):=Tk .n
theorem az8:Q2 124 (S [W 2]) (S [W 1]) (S [W 2]):=Tk .n
theorem aV0:Q2 75 (A [B false,S [W 1],S [W 2]]) (A [B false,S [W 1],S [W 1]]) (U [A [B false,S [W 1],S [W 2]],I 0]):=Tk (.c atO (.c ua5 (.c atB (.c az8 (.c aHP .n)))))
theorem aGE:Q1 122 (A [B false,S [W 1],S [W 2]]) (I 1):=Tk (.c atO .n)
def aHG:D:=A [I 0,I 0,I 0,I 0,I 0,I 0,I 0,I 0,B false,S [W 1],S [W 2]]
def asO:D:=S [aHG]
theorem aT1:Q2 73 (S []) aHG asO:=Tk (.c atO (.c aGE .n))
theorem ayT:Q1 43 asO asO:=Tk (.c aT1 .n)
theorem aP8:Q1 20 (A [B false,S [W 1],S [W 2]]) asO:=Tk (.c ayT .n)
theorem aT0:Q1 69 (I 0) (U [S [],I 0]):=Tk .n
theorem atF:Q1 41 (J 0) (A [B true,S [W 1],S [W 1]]):=Tk (.c aT0 .n)
theorem aSZ:Q3 42 (B true) (S [W 1]) (S [W 1]) (A [B true,S [W 1],S [W 1]]):=Tk (.c ua3 (.c ua2 .n))
theorem au2:Q1 121 (A [B true,S [W 1],S [W 1]]) (A [B true,S [W 1],S [W 1]]):=Tk (.c aSZ .n)
theorem aSY:Q3 42 (B true) (S [W 1]) (S [W 2]) (A [B true,S [W 1],S [W 2]]):=Tk (.c aT2 (.c ua2 (.c auA .n)))
theorem aOR:Q1 121 (A [B true,S [W 1],S [W 2]]) (A [B true,S [W 1],S [W 2]]):=Tk (.c aSY .n)
def aJ3:D:=A [I 0,I 0,I 0,I 0,I 0,I 0,I 0,I 0,B true,S [W 1],S [W 2]]
theorem aSX:Q2 45 asO (A [B true,S [W 1],S [W 1]]) (S [aJ3]):=Tk (.c atO (.c au2 (.c atB (.c az8 (.c aSY (.c aOR .n))))))
theorem ayM:Q2 124 (S [W 1]) (S [W 2]) (S [W 2]):=Tk .n
theorem aUZ:Q2 73 aX aJ3 asO:=Tk (.c aOR (.c ua5 (.c atB (.c ayM (.c az8 (.c aT4 (.c aT3 (.c aHP (.c atO (.c aGE .n))))))))))
theorem aNZ:Q2 21 aX asO asO:=Tk (.c atF (.c aSX (.c aUZ .n)))
theorem aNS:Q2 124 (S [W 2]) (S [W 2]) (S [W 4]):=Tk .n
theorem aSW:Q2 114 (S [W 2]) (S [W 2]) (I 0):=Tk .n
theorem aNQ:Q2 72 (S []) (S [W 4]) (U [S [],S [],I 0]):=Tk .n
theorem aSV:Q2 71 (S []) (S [W 4]) (S [W 4]):=Tk (.c aNQ .n)
theorem aNM:Q2 72 (S [W 4]) (S [W 4]) (U [S [W 1],S [],I 0]):=Tk .n
theorem aNI:Q2 72 (S []) (S [W 1]) (U [S [],S [],I 0]):=Tk .n
theorem aSU:Q2 71 (S []) (S [W 1]) (S [W 1]):=Tk (.c aNI .n)
theorem aST:Q3 42 (B false) (S []) (S [W 1]) (A [B false,S [],S [W 1]]):=Tk (.c aSU (.c aNI (.c ua2 .n)))
theorem aHO:Q1 121 (A [B false,S [],S [W 1]]) (A [B false,S [],S [W 1]]):=Tk (.c aST .n)
theorem aMW:Q1 122 (A [B false,S [],S [W 1]]) (I 0):=Tk (.c aHO .n)
theorem aUY:Q2 73 asO aJ3 (S []):=Tk (.c aOR (.c atO (.c ayM (.c aNS (.c aSW (.c aSV (.c aNQ (.c aNM (.c aHO (.c aMW .n))))))))))
theorem aUX:Q2 21 asO asO (S []):=Tk (.c atF (.c aSX (.c aUY .n)))
theorem aM4:Q1 121 (A [B false,S [W 2],S [W 1]]) (A [B false,S [W 2],S [W 1]]):=Tk (.c auA (.c ua2 .n))
theorem aSS:Q2 114 (S [W 1]) (S [W 4]) (J 0):=Tk .n
theorem aSR:Q2 114 (S [W 4]) (S [W 1]) (I 1):=Tk .n
theorem axG:Q2 72 (S [W 4]) (S [W 1]) (U [S [W 4],S [],I 0]):=Tk (.c aSR .n)
theorem aSQ:Q2 71 (S [W 1]) (S [W 4]) (S [W 1]):=Tk (.c aSS (.c axG .n))
theorem aEA:Q3 42 (B false) (S [W 1]) (S [W 4]) (A [B false,S [W 1],S [W 4]]):=Tk (.c aSQ (.c ua2 (.c axG .n)))
theorem aUW:Q2 75 (A [B false,S [W 1],S [W 2]]) (A [B false,S [W 2],S [W 1]]) (U [A [B false,S [W 1],S [W 4]],I 0]):=Tk (.c atO (.c aM4 (.c atB (.c aNS (.c aEA .n)))))
theorem au9:Q1 121 (A [B false,S [W 1],S [W 4]]) (A [B false,S [W 1],S [W 4]]):=Tk (.c aEA .n)
theorem aHN:Q1 122 (A [B false,S [W 1],S [W 4]]) (I 1):=Tk (.c au9 .n)
def azS:D:=A [I 0,I 0,I 0,I 0,I 0,I 0,I 0,I 0,B false,S [W 1],S [W 4]]
def asP:D:=S [azS]
theorem aSP:Q2 73 (S []) azS asP:=Tk (.c au9 (.c aHN .n))
theorem ayD:Q1 43 asP asP:=Tk (.c aSP .n)
theorem aHM:Q1 20 (A [B false,S [W 1],S [W 4]]) asP:=Tk (.c ayD .n)
theorem ayC:Q2 124 (S [W 4]) (S [W 1]) (S [W 4]):=Tk .n
theorem aSO:Q3 42 (B true) (S [W 1]) (S [W 4]) (A [B true,S [W 1],S [W 4]]):=Tk (.c aSQ (.c ua2 (.c axG .n)))
theorem aHL:Q1 121 (A [B true,S [W 1],S [W 4]]) (A [B true,S [W 1],S [W 4]]):=Tk (.c aSO .n)
def aSA:D:=A [I 0,I 0,I 0,I 0,I 0,I 0,I 0,I 0,B true,S [W 1],S [W 4]]
theorem aKR:Q2 45 asP (A [B true,S [W 1],S [W 1]]) (S [aSA]):=Tk (.c au9 (.c au2 (.c atB (.c ayC (.c aSO (.c aHL .n))))))
theorem awC:Q2 124 (S [W 1]) (S [W 4]) (S [W 4]):=Tk .n
theorem aKN:Q2 124 (S [W 4]) (S [W 2]) (S [W 8]):=Tk .n
theorem aSN:Q2 114 (S [W 2]) (S [W 4]) (J 0):=Tk .n
theorem aSM:Q2 114 (S [W 4]) (S [W 2]) (I 1):=Tk .n
theorem aSL:Q2 72 (S [W 8]) (S [W 2]) (U [S [W 4],S [],I 0]):=Tk .n
theorem aHK:Q2 72 (S [W 2]) (S [W 2]) (U [S [W 1],S [],I 0]):=Tk (.c aSW .n)
theorem aUV:Q2 120 (A [B true,S [W 1],S [W 4]]) (A [B false,S [W 1],S [W 2]]) (A [B false,S [W 1],S [W 4]]):=Tk (.c aHL (.c atO (.c ayM (.c awC (.c aKN (.c aSN (.c aSM (.c aSL (.c aHK .n)))))))))
theorem aUU:Q2 21 asO asP asP:=Tk (.c atF (.c aKR (.c aUV (.c au9 (.c aHN .n)))))
theorem azU:Q1 41 (I 3) (A [B false,S [W 3],S [W 1]]):=Tk .n
theorem aSK:Q2 114 (S [W 1]) (S [W 3]) (J 0):=Tk .n
theorem aSJ:Q2 114 (S [W 3]) (S [W 1]) (I 1):=Tk .n
theorem avL:Q2 72 (S [W 3]) (S [W 1]) (U [S [W 3],S [],I 0]):=Tk (.c aSJ .n)
theorem aSI:Q2 71 (S [W 1]) (S [W 3]) (S [W 1]):=Tk (.c aSK (.c avL .n))
theorem aHJ:Q3 42 (B false) (S [W 1]) (S [W 3]) (A [B false,S [W 1],S [W 3]]):=Tk (.c aSI (.c ua2 (.c avL .n)))
theorem aJG:Q2 19 (I 1) (I 3) (U [A [B false,S [W 1],S [W 3]],I 0]):=Tk (.c ua0 (.c azU (.c aHJ .n)))
theorem auL:Q1 121 (A [B false,S [W 1],S [W 3]]) (A [B false,S [W 1],S [W 3]]):=Tk (.c aHJ .n)
theorem aw3:Q2 124 (S [W 3]) (S [W 1]) (S [W 3]):=Tk .n
theorem aUT:Q2 75 (A [B false,S [W 1],S [W 3]]) (A [B false,S [W 1],S [W 1]]) (U [A [B false,S [W 1],S [W 3]],I 0]):=Tk (.c auL (.c ua5 (.c atB (.c aw3 (.c aHJ .n)))))
theorem aHI:Q1 122 (A [B false,S [W 1],S [W 3]]) (I 1):=Tk (.c auL .n)
def aS9:D:=A [I 0,I 0,I 0,I 0,I 0,I 0,I 0,I 0,B false,S [W 1],S [W 3]]
def asS:D:=S [aS9]
theorem aSH:Q2 73 (S []) aS9 asS:=Tk (.c auL (.c aHI .n))
theorem azT:Q1 43 asS asS:=Tk (.c aSH .n)
theorem aJE:Q1 20 (A [B false,S [W 1],S [W 3]]) asS:=Tk (.c azT .n)
theorem aSG:Q3 42 (B true) (S [W 1]) (S [W 3]) (A [B true,S [W 1],S [W 3]]):=Tk (.c aSI (.c ua2 (.c avL .n)))
theorem aJD:Q1 121 (A [B true,S [W 1],S [W 3]]) (A [B true,S [W 1],S [W 3]]):=Tk (.c aSG .n)
def aBI:D:=A [I 0,I 0,I 0,I 0,I 0,I 0,I 0,I 0,B true,S [W 1],S [W 3]]
theorem aSF:Q2 45 asS (A [B true,S [W 1],S [W 1]]) (S [aBI]):=Tk (.c auL (.c au2 (.c atB (.c aw3 (.c aSG (.c aJD .n))))))
theorem axF:Q2 124 (S [W 1]) (S [W 3]) (S [W 3]):=Tk .n
theorem aSE:Q2 114 (S [W 2]) (S [W 3]) (J 0):=Tk .n
theorem aSD:Q2 114 (S [W 3]) (S [W 2]) (I 1):=Tk .n
theorem aJC:Q2 72 (S [W 3]) (S [W 2]) (U [S [W 1],S [W 1],I 0]):=Tk (.c aSD .n)
theorem aSC:Q2 71 (S [W 2]) (S [W 3]) (S [W 1]):=Tk (.c aSE (.c aJC (.c auA .n)))
theorem aJB:Q3 42 (B false) (S [W 2]) (S [W 3]) (A [B false,S [W 2],S [W 3]]):=Tk (.c aSC (.c auA (.c avL .n)))
theorem aw2:Q1 121 (A [B false,S [W 2],S [W 3]]) (A [B false,S [W 2],S [W 3]]):=Tk (.c aJB .n)
theorem aHH:Q1 122 (A [B false,S [W 2],S [W 3]]) (I 1):=Tk (.c aw2 .n)
def aBH:D:=A [I 0,I 0,I 0,I 0,I 0,I 0,I 0,I 0,B false,S [W 2],S [W 3]]
def an:D:=S [aBH]
theorem aQK:Q2 73 aX aBI an:=Tk (.c aJD (.c ua5 (.c atB (.c axF (.c aw3 (.c aSK (.c aSJ (.c aJB (.c aw2 (.c aHH .n))))))))))
theorem azN:Q2 21 aX asS an:=Tk (.c atF (.c aSF (.c aQK .n)))
theorem ax9:Q2 124 (S [W 2]) (S [W 3]) (S [W 6]):=Tk .n
theorem ax8:Q2 124 (S [W 3]) (S [W 3]) (S [W 9]):=Tk .n
theorem aH3:Q2 114 (S [W 6]) (S [W 3]) (I 1):=Tk .n
theorem aH2:Q2 72 (S [W 9]) (S [W 3]) (U [S [W 3],S [],I 0]):=Tk .n
theorem azM:Q2 72 (S [W 3]) (S [W 3]) (U [S [W 1],S [],I 0]):=Tk .n
theorem aQJ:Q2 120 (A [B true,S [W 1],S [W 3]]) (A [B false,S [W 2],S [W 3]]) (A [B false,S [W 1],S [W 3]]):=Tk (.c aJD (.c aw2 (.c axF (.c ax9 (.c ax8 (.c aH3 (.c aH2 (.c azM .n))))))))
theorem aQI:Q2 21 an asS asS:=Tk (.c atF (.c aSF (.c aQJ (.c auL (.c aHI .n)))))
theorem ax6:Q2 72 (S [W 6]) (S [W 1]) (U [S [W 6],S [],I 0]):=Tk .n
theorem aH1:Q2 71 (S [W 1]) (S [W 6]) (S [W 1]):=Tk (.c ax6 .n)
theorem aH0:Q3 42 (B false) (S [W 1]) (S [W 6]) (A [B false,S [W 1],S [W 6]]):=Tk (.c aH1 (.c ua2 (.c ax6 .n)))
theorem aQH:Q2 75 (A [B false,S [W 1],S [W 3]]) (A [B false,S [W 2],S [W 1]]) (U [A [B false,S [W 1],S [W 6]],I 0]):=Tk (.c auL (.c aM4 (.c atB (.c aH0 .n))))
theorem ax5:Q1 121 (A [B false,S [W 1],S [W 6]]) (A [B false,S [W 1],S [W 6]]):=Tk (.c aH0 .n)
theorem aGZ:Q1 122 (A [B false,S [W 1],S [W 6]]) (I 1):=Tk (.c ax5 .n)
def aBG:D:=A [I 0,I 0,I 0,I 0,I 0,I 0,I 0,I 0,B false,S [W 1],S [W 6]]
def asR:D:=S [aBG]
theorem azL:Q1 43 asR asR:=Tk (.c ax5 (.c aGZ .n))
theorem aQG:Q1 20 (A [B false,S [W 1],S [W 6]]) asR:=Tk (.c azL .n)
theorem aGY:Q3 42 (B true) (S [W 1]) (S [W 6]) (A [B true,S [W 1],S [W 6]]):=Tk (.c aH1 (.c ua2 (.c ax6 .n)))
theorem aGX:Q1 121 (A [B true,S [W 1],S [W 6]]) (A [B true,S [W 1],S [W 6]]):=Tk (.c aGY .n)
theorem aQF:Q2 72 (S [W 18]) (S [W 9]) (U [S [W 2],S [],I 0]):=Tk .n
theorem aGW:Q2 72 (S [W 9]) (S [W 9]) (U [S [W 1],S [],I 0]):=Tk .n
theorem aQE:Q2 120 (A [B true,S [W 1],S [W 6]]) (A [B false,S [W 2],S [W 3]]) (A [B false,S [W 1],S [W 2]]):=Tk (.c aGX (.c aw2 (.c axF (.c aQF (.c aGW .n)))))
theorem aQD:Q2 21 an asR asO:=Tk (.c atF (.c ax5 (.c au2 (.c atB (.c aGY (.c aGX (.c aQE (.c atO (.c aGE .n)))))))))
theorem au6:Q1 41 (I 4) (A [B false,S [W 4],S [W 1]]):=Tk .n
theorem azK:Q2 19 (I 1) (I 4) (U [A [B false,S [W 1],S [W 4]],I 0]):=Tk (.c ua0 (.c au6 (.c aEA .n)))
theorem aQC:Q2 75 (A [B false,S [W 1],S [W 4]]) (A [B false,S [W 1],S [W 1]]) (U [A [B false,S [W 1],S [W 4]],I 0]):=Tk (.c au9 (.c ua5 (.c atB (.c ayC (.c aEA .n)))))
theorem aGV:Q2 114 (S [W 3]) (S [W 4]) (J 0):=Tk .n
theorem aGU:Q2 114 (S [W 4]) (S [W 3]) (I 1):=Tk .n
theorem aGT:Q2 71 (S [W 3]) (S [W 4]) (S [W 1]):=Tk (.c aGV (.c aGU (.c avL .n)))
theorem azJ:Q3 42 (B false) (S [W 3]) (S [W 4]) (A [B false,S [W 3],S [W 4]]):=Tk (.c aGT (.c avL (.c axG .n)))
theorem at8:Q1 121 (A [B false,S [W 3],S [W 4]]) (A [B false,S [W 3],S [W 4]]):=Tk (.c azJ .n)
theorem avJ:Q1 122 (A [B false,S [W 3],S [W 4]]) (I 1):=Tk (.c at8 .n)
def aw1:D:=A [I 0,I 0,I 0,I 0,I 0,I 0,I 0,I 0,B false,S [W 3],S [W 4]]
def cS:D:=S [aw1]
theorem aQB:Q2 73 aX aSA cS:=Tk (.c aHL (.c ua5 (.c atB (.c awC (.c ayC (.c aSS (.c aSR (.c azJ (.c at8 (.c avJ .n))))))))))
theorem azI:Q2 21 aX asP cS:=Tk (.c atF (.c aKR (.c aQB .n)))
theorem azH:Q2 124 (S [W 3]) (S [W 4]) (S [W 12]):=Tk .n
theorem azG:Q2 124 (S [W 4]) (S [W 4]) (S [W 16]):=Tk .n
theorem aQA:Q2 72 (S [W 16]) (S [W 8]) (U [S [W 2],S [],I 0]):=Tk .n
theorem aQ9:Q3 42 (B false) (S [W 8]) (S [W 16]) (A [B false,S [W 1],S [W 2]]):=Tk (.c aQA .n)
theorem aQ8:Q2 120 (A [B true,S [W 1],S [W 4]]) (A [B false,S [W 3],S [W 4]]) (A [B false,S [W 1],S [W 2]]):=Tk (.c aHL (.c at8 (.c awC (.c azH (.c azG (.c aQ9 .n))))))
theorem aQ7:Q2 21 cS asP asO:=Tk (.c atF (.c aKR (.c aQ8 (.c atO (.c aGE .n)))))
theorem avI:Q2 208 asO (I 0) (B true):=Tk (.c ayT (.c aGE .n))
theorem azF:Q2 44 (S []) asO asO:=Tk (.c aT1 .n)
theorem azE:Q1 43 (S []) (S []):=Tk .n
theorem azD:Q2 208 (S []) (I 0) (B true):=Tk .n
theorem aQ6:Q2 44 asO (S []) asO:=Tk .n
theorem aGS:Q3 42 (B false) (S [W 4]) (S [W 4]) (A [B false,S [W 1],S [W 1]]):=Tk (.c aNM .n)
theorem aGR:Q2 44 asO asO aX:=Tk (.c atO (.c ayM (.c aNS (.c aGS (.c ua5 (.c ua6 .n))))))
theorem asV:Q2 209 aX aX (B true):=Tk .n
theorem avH:Q2 208 asP (I 0) (B true):=Tk (.c ayD (.c aHN .n))
theorem aGQ:Q2 72 (S [W 6]) (S [W 2]) (U [S [W 3],S [],I 0]):=Tk .n
theorem aQ5:Q2 71 (S [W 6]) (S [W 8]) (S [W 2]):=Tk (.c aGQ .n)
theorem aGP:Q3 42 (B false) (S [W 6]) (S [W 8]) (A [B false,S [W 3],S [W 4]]):=Tk (.c aQ5 (.c aGQ (.c aSL .n)))
theorem aQ4:Q2 44 asO asP cS:=Tk (.c au9 (.c atO (.c ayM (.c awC (.c aKN (.c aGP (.c at8 (.c avJ .n))))))))
theorem aQ3:Q2 72 (S [W 16]) (S [W 16]) (U [S [W 1],S [],I 0]):=Tk .n
theorem aGO:Q3 42 (B false) (S [W 16]) (S [W 16]) (A [B false,S [W 1],S [W 1]]):=Tk (.c aQ3 .n)
theorem azC:Q2 44 cS asP aX:=Tk (.c au9 (.c at8 (.c awC (.c azH (.c azG (.c aGO (.c ua5 (.c ua6 .n))))))))
theorem ax4:Q2 208 asS (I 0) (B true):=Tk (.c azT (.c aHI .n))
theorem azB:Q2 44 (S []) asS asS:=Tk (.c aSH .n)
theorem aGN:Q2 72 (S [W 6]) (S [W 3]) (U [S [W 2],S [],I 0]):=Tk (.c aH3 .n)
theorem aQ2:Q2 71 (S [W 6]) (S [W 9]) (S [W 3]):=Tk (.c aGN .n)
theorem aQ1:Q2 44 asS asS an:=Tk (.c auL (.c axF (.c ax8 (.c aQ2 (.c aGN (.c aH2 (.c aw2 (.c aHH .n))))))))
theorem aGM:Q3 42 (B false) (S [W 9]) (S [W 9]) (A [B false,S [W 1],S [W 1]]):=Tk (.c aGW .n)
theorem aGL:Q2 44 an asS aX:=Tk (.c auL (.c aw2 (.c axF (.c ax9 (.c ax8 (.c aGM (.c ua5 (.c ua6 .n))))))))
theorem aGK:Q2 114 (S [W 5]) (S [W 1]) (I 1):=Tk .n
theorem at3:Q2 72 (S [W 5]) (S [W 1]) (U [S [W 5],S [],I 0]):=Tk (.c aGK .n)
theorem aPZ:Q2 71 (S [W 5]) (S [W 6]) (S [W 1]):=Tk (.c at3 .n)
theorem aGJ:Q3 42 (B false) (S [W 5]) (S [W 6]) (A [B false,S [W 5],S [W 6]]):=Tk (.c aPZ (.c at3 (.c ax6 .n)))
theorem aGI:Q1 121 (A [B false,S [W 5],S [W 6]]) (A [B false,S [W 5],S [W 6]]):=Tk (.c aGJ .n)
def auK:D:=A [I 0,I 0,I 0,I 0,I 0,I 0,I 0,I 0,B false,S [W 5],S [W 6]]
theorem aPY:Q2 44 asS asO (S [auK]):=Tk (.c atO (.c auL (.c axF (.c ayM (.c ax9 (.c aGJ (.c aGI .n)))))))
theorem aPX:Q2 208 asR (I 0) (B true):=Tk (.c azL (.c aGZ .n))
theorem aPW:Q2 72 (S [W 36]) (S [W 36]) (U [S [W 1],S [],I 0]):=Tk .n
theorem aPV:Q2 120 (A [B false,S [W 1],S [W 6]]) (A [B false,S [W 5],S [W 6]]) (A [B false,S [W 1],S [W 1]]):=Tk (.c ax5 (.c aGI (.c aPW .n)))
theorem aPU:Q2 44 (S [auK]) asR aX:=Tk (.c aPV (.c ua5 (.c ua6 .n)))
theorem azA:Q2 44 (S []) asP asP:=Tk (.c aSP .n)
theorem aPT:Q2 44 asP asO cS:=Tk (.c atO (.c au9 (.c awC (.c ayM (.c aGP (.c at8 (.c avJ .n)))))))
theorem aPS:Q1 189 (S []) (S []):=Tk .n
theorem asY:Q1 189 (S [W 1]) (S [W 1]):=Tk .n
theorem az9:Q3 149 (B false) (S []) (S [W 1]) (A [B false,S [],S [W 1]]):=Tk (.c aPS (.c asY .n))
theorem at0:Q1 195 (A [B false,S [],S []]) (A [B false,S [],S [W 1]]):=Tk (.c az9 .n)
theorem aPR:Q2 220 (S [W 2]) (S []) (I 1):=Tk .n
theorem aPQ:Q1 223 (S [W 2]) (B false):=Tk (.c aPR .n)
theorem au5:Q1 189 (S [W 2]) (S [W 2]):=Tk .n
theorem asX:Q1 219 (.int .u64 1) (S [W 1]):=Tk .n
theorem aPP:Q2 190 (S [W 1]) (S [W 2]) (S [W 1]):=Tk (.c asY (.c au5 (.c asX .n)))
theorem aGH:Q3 149 (B false) (S [W 1]) (S [W 2]) (A [B false,S [W 1],S [W 2]]):=Tk (.c asY (.c au5 (.c aPP .n)))
theorem atN:Q1 195 (A [B false,S [W 1],S [W 2]]) (A [B false,S [W 1],S [W 2]]):=Tk (.c aPQ (.c aGH .n))
theorem aPO:Q2 196 (S []) (S [W 2]) (S []):=Tk .n
theorem au4:Q2 196 (S [W 1]) (S [W 1]) (S [W 1]):=Tk .n
theorem avG:Q2 196 (S [W 1]) (S [W 2]) (S [W 2]):=Tk .n
theorem atM:Q2 226 (S []) (S [W 1]) (S [W 1]):=Tk .n
theorem aPN:Q5 198 (B false) (S []) (B false) (S [W 1]) (S [W 2]) (A [B false,S [W 1],S [W 2]]):=Tk (.c atM (.c aGH .n))
theorem atL:Q1 157 (A [B false,S [W 1],S [W 2]]) (I 1):=Tk (.c atN .n)
theorem asN:Q1 200 (.int .u64 1) (I 1):=Tk .n
theorem aPM:Q1 112 asO asO:=Tk (.c at0 (.c atN (.c aPO (.c au4 (.c avG (.c aPN (.c atL (.c asN .n))))))))
theorem avF:Q1 68 asO (U [asO,I 0]):=Tk (.c aPM .n)
theorem avE:Q1 245 asO (I 0):=Tk .n
theorem avD:Q2 246 asO (I 0) (I 0):=Tk .n
theorem avC:Q2 246 asO (I 1) (I 0):=Tk .n
theorem avB:Q2 246 asO (I 2) (I 0):=Tk .n
theorem avA:Q2 246 asO (I 3) (I 0):=Tk .n
theorem av9:Q2 246 asO (I 4) (I 0):=Tk .n
theorem av8:Q2 246 asO (I 5) (I 0):=Tk .n
theorem av7:Q2 246 asO (I 6) (I 0):=Tk .n
theorem av6:Q2 246 asO (I 7) (I 0):=Tk .n
theorem az7:Q1 185 (A [B false,S [W 1],S [W 2]]) (A [B false,S [W 1],S [W 2]]):=Tk (.c atN .n)
theorem aGG:Q1 147 asO asO:=Tk (.c az7 (.c atL (.c asN .n)))
theorem az6:Q2 247 (S []) asO asO:=Tk (.c aGG .n)
theorem aGF:Q1 200 (.int .u64 0) (I 0):=Tk .n
theorem aPL:Q1 112 (S []) (S []):=Tk (.c aGF .n)
theorem az5:Q1 68 (S []) (U [S [],I 0]):=Tk (.c aPL .n)
theorem az4:Q1 245 (S []) (I 0):=Tk .n
theorem az3:Q2 246 (S []) (I 0) (J 0):=Tk .n
theorem az2:Q2 246 (S []) (I 1) (J 0):=Tk .n
theorem az1:Q2 246 (S []) (I 2) (J 0):=Tk .n
theorem az0:Q2 246 (S []) (I 3) (J 0):=Tk .n
theorem ayZ:Q2 246 (S []) (I 4) (J 0):=Tk .n
theorem ayY:Q2 246 (S []) (I 5) (J 0):=Tk .n
theorem ayX:Q2 246 (S []) (I 6) (J 0):=Tk .n
theorem ayW:Q2 246 (S []) (I 7) (J 0):=Tk .n
theorem aPK:Q2 247 asO (S []) asO:=Tk (.c aGG .n)
theorem aPJ:Q2 196 (S [W 2]) (S [W 2]) (S [W 4]):=Tk .n
theorem atK:Q1 189 (S [W 4]) (S [W 4]):=Tk .n
theorem aGD:Q1 219 (.int .u64 4) (S [W 4]):=Tk .n
theorem at4:Q1 219 (.int .u64 0) (S []):=Tk .n
theorem aPI:Q2 191 (S [W 4]) (S [W 4]) (U [S [W 1],S [],I 0]):=Tk (.c at4 .n)
theorem aPH:Q2 156 (A [B false,S [W 1],S [W 2]]) (A [B false,S [W 1],S [W 2]]) (A [B false,S [W 1],S [W 1]]):=Tk (.c atN (.c avG (.c aPJ (.c atK (.c aGD (.c aPI .n))))))
theorem ayV:Q1 223 (S [W 1]) (B false):=Tk .n
theorem aGC:Q2 190 (S [W 1]) (S [W 1]) (S [W 1]):=Tk (.c asY (.c asX .n))
theorem ayU:Q3 149 (B false) (S [W 1]) (S [W 1]) (A [B false,S [W 1],S [W 1]]):=Tk (.c asY (.c aGC .n))
theorem av5:Q1 195 (A [B false,S [W 1],S [W 1]]) (A [B false,S [W 1],S [W 1]]):=Tk (.c ayV (.c ayU .n))
theorem ax3:Q1 157 (A [B false,S [W 1],S [W 1]]) (I 1):=Tk (.c av5 .n)
theorem at2:Ret VP (.fn 186) [.ms 0 1 0 1,.d (.func 187 [] [])] [some (.rows 1 false 11 [[.d (I 0),.d (I 0),.d (I 0),.d (I 0),.d (I 0),.d (I 0),.d (I 0),.d (I 0),.d (B false),.d (S [W 1]),.d (S [W 1])]])] (.ms 0 1 0 1) [some (.rows 1 false 11 [[.d (I 0),.d (I 0),.d (I 0),.d (I 0),.d (I 0),.d (I 0),.d (I 0),.d (I 0),.d (B false),.d (S [W 1]),.d (S [W 1])]])]:=tb (n:=1000) (.c ax3 .n) (by kernel_rfl)
theorem at1:Ret VP (.fn 158) [.ms 0 1 0 1,.d (.func 188 [A [I 8]] [])] [some (.rows 1 false 11 [[.d (I 0),.d (I 0),.d (I 0),.d (I 0),.d (I 0),.d (I 0),.d (I 0),.d (I 0),.d (B false),.d (S [W 1]),.d (S [W 1])]])] (.d (U [])) [some (.rows 1 false 11 [[.d (I 0),.d (I 0),.d (I 0),.d (I 0),.d (I 0),.d (I 0),.d (I 0),.d (I 0),.d (B false),.d (S [W 1]),.d (S [W 1])]])]:=tb (n:=1000) (.c asN .n) (by kernel_rfl)
theorem aGB:Q2 247 asO asO aX:=Tk (.c az7 (.c aPH (.c at2 (.c at1 .n))))
theorem aPG:Q1 148 (I 1) (U [B false,S [W 1]]):=Tk .n
theorem ayS:Q1 147 aX aX:=Tk (.c av5 (.c at2 (.c at1 .n)))
theorem aPF:Q1 65 (I 1) aX:=Tk (.c aPG (.c ayU (.c ayS .n)))
theorem aPE:Q2 220 (S [W 1]) (S [W 1]) (I 0):=Tk .n
theorem aPD:Q2 156 (A [B false,S [W 1],S [W 1]]) (A [B true,S [W 1],S [W 1]]) (A [B false,S [],S [W 1]]):=Tk (.c av5 (.c ayV (.c asY (.c aGC (.c aPE (.c az9 .n))))))
theorem aPC:Q1 195 (A [B false,S [],S [W 1]]) (A [B false,S [],S [W 1]]):=Tk (.c ayV (.c az9 .n))
theorem aPB:Q1 157 (A [B false,S [],S [W 1]]) (I 0):=Tk (.c aPC .n)
theorem asU:Q2 248 aX (I 1) (B true):=Tk (.c aPF (.c av5 (.c aPD (.c aPB .n))))
theorem aPA:Q2 220 (S [W 4]) (S []) (I 1):=Tk .n
theorem aGA:Q1 223 (S [W 4]) (B false):=Tk (.c aPA .n)
theorem aP9:Q2 190 (S [W 1]) (S [W 4]) (S [W 1]):=Tk (.c asY (.c atK (.c asX .n)))
theorem aG9:Q3 149 (B false) (S [W 1]) (S [W 4]) (A [B false,S [W 1],S [W 4]]):=Tk (.c asY (.c atK (.c aP9 .n)))
theorem atG:Q1 195 (A [B false,S [W 1],S [W 4]]) (A [B false,S [W 1],S [W 4]]):=Tk (.c aGA (.c aG9 .n))
theorem aG8:Q2 196 (S []) (S [W 4]) (S []):=Tk .n
theorem au3:Q2 196 (S [W 1]) (S [W 4]) (S [W 4]):=Tk .n
theorem aP7:Q5 198 (B false) (S []) (B false) (S [W 1]) (S [W 4]) (A [B false,S [W 1],S [W 4]]):=Tk (.c atM (.c aG9 .n))
theorem atJ:Q1 157 (A [B false,S [W 1],S [W 4]]) (I 1):=Tk (.c atG .n)
theorem aP6:Q1 112 asP asP:=Tk (.c at0 (.c atG (.c aG8 (.c au4 (.c au3 (.c aP7 (.c atJ (.c asN .n))))))))
theorem av4:Q1 68 asP (U [asP,I 0]):=Tk (.c aP6 .n)
theorem av3:Q1 245 asP (I 0):=Tk .n
theorem av2:Q2 246 asP (I 0) (I 0):=Tk .n
theorem av1:Q2 246 asP (I 1) (I 0):=Tk .n
theorem av0:Q2 246 asP (I 2) (I 0):=Tk .n
theorem auZ:Q2 246 asP (I 3) (I 0):=Tk .n
theorem auY:Q2 246 asP (I 4) (I 0):=Tk .n
theorem auX:Q2 246 asP (I 5) (I 0):=Tk .n
theorem auW:Q2 246 asP (I 6) (I 0):=Tk .n
theorem auV:Q2 246 asP (I 7) (I 0):=Tk .n
theorem aP5:Q2 196 (S [W 2]) (S [W 4]) (S [W 8]):=Tk .n
theorem auU:Q1 189 (S [W 6]) (S [W 6]):=Tk .n
theorem ax2:Q1 189 (S [W 8]) (S [W 8]):=Tk .n
theorem aP4:Q1 219 (.int .u64 2) (S [W 2]):=Tk .n
theorem aP3:Q2 191 (S [W 6]) (S [W 2]) (U [S [W 3],S [],I 0]):=Tk (.c at4 .n)
theorem aP2:Q2 191 (S [W 8]) (S [W 2]) (U [S [W 4],S [],I 0]):=Tk (.c at4 .n)
theorem aG7:Q3 149 (B false) (S [W 6]) (S [W 8]) (A [B false,S [W 3],S [W 4]]):=Tk (.c auU (.c ax2 (.c aP4 (.c aP3 (.c aP2 .n)))))
theorem atE:Q1 189 (S [W 3]) (S [W 3]):=Tk .n
theorem aP1:Q2 190 (S [W 3]) (S [W 4]) (S [W 1]):=Tk (.c atE (.c atK (.c asX .n)))
theorem aG6:Q3 149 (B false) (S [W 3]) (S [W 4]) (A [B false,S [W 3],S [W 4]]):=Tk (.c atE (.c atK (.c aP1 .n)))
theorem auT:Q1 195 (A [B false,S [W 3],S [W 4]]) (A [B false,S [W 3],S [W 4]]):=Tk (.c aGA (.c aG6 .n))
theorem ax1:Q1 157 (A [B false,S [W 3],S [W 4]]) (I 1):=Tk (.c auT .n)
theorem ayR:Ret VP (.fn 186) [.ms 0 1 0 1,.d (.func 187 [] [])] [some (.rows 1 false 11 [[.d (I 0),.d (I 0),.d (I 0),.d (I 0),.d (I 0),.d (I 0),.d (I 0),.d (I 0),.d (B false),.d (S [W 3]),.d (S [W 4])]])] (.ms 0 1 0 1) [some (.rows 1 false 11 [[.d (I 0),.d (I 0),.d (I 0),.d (I 0),.d (I 0),.d (I 0),.d (I 0),.d (I 0),.d (B false),.d (S [W 3]),.d (S [W 4])]])]:=tb (n:=1000) (.c ax1 .n) (by kernel_rfl)
theorem ayQ:Ret VP (.fn 158) [.ms 0 1 0 1,.d (.func 188 [A [I 8]] [])] [some (.rows 1 false 11 [[.d (I 0),.d (I 0),.d (I 0),.d (I 0),.d (I 0),.d (I 0),.d (I 0),.d (I 0),.d (B false),.d (S [W 3]),.d (S [W 4])]])] (.d (U [])) [some (.rows 1 false 11 [[.d (I 0),.d (I 0),.d (I 0),.d (I 0),.d (I 0),.d (I 0),.d (I 0),.d (I 0),.d (B false),.d (S [W 3]),.d (S [W 4])]])]:=tb (n:=1000) (.c asN .n) (by kernel_rfl)
theorem aP0:Q1 147 (S [aHG,azS]) cS:=Tk (.c az7 (.c atN (.c atG (.c au3 (.c avG (.c aP5 (.c aG7 (.c ayR (.c ayQ .n)))))))))
theorem aOZ:Q2 247 asO asP cS:=Tk (.c aP0 .n)
theorem aG5:Q1 185 (A [B false,S [W 3],S [W 4]]) (A [B false,S [W 3],S [W 4]]):=Tk (.c auT .n)
theorem aG4:Q2 196 (S [W 3]) (S [W 4]) (S [W 12]):=Tk .n
theorem aG3:Q2 196 (S [W 4]) (S [W 4]) (S [W 16]):=Tk .n
theorem aOY:Q1 189 (S [W 16]) (S [W 16]):=Tk .n
theorem aOX:Q1 219 (.int .u64 16) (S [W 16]):=Tk .n
theorem aOW:Q2 191 (S [W 16]) (S [W 16]) (U [S [W 1],S [],I 0]):=Tk (.c at4 .n)
theorem aG2:Q3 149 (B false) (S [W 16]) (S [W 16]) (A [B false,S [W 1],S [W 1]]):=Tk (.c aOY (.c aOX (.c aOW .n)))
theorem aOV:Q1 147 (S [aw1,azS]) aX:=Tk (.c aG5 (.c auT (.c atG (.c aG4 (.c au3 (.c aG3 (.c aG2 (.c at2 (.c at1 .n)))))))))
theorem ayP:Q2 247 cS asP aX:=Tk (.c aOV .n)
theorem aG1:Q1 223 (S [W 3]) (B false):=Tk .n
theorem aOU:Q2 190 (S [W 1]) (S [W 3]) (S [W 1]):=Tk (.c asY (.c atE (.c asX .n)))
theorem aG0:Q3 149 (B false) (S [W 1]) (S [W 3]) (A [B false,S [W 1],S [W 3]]):=Tk (.c asY (.c atE (.c aOU .n)))
theorem atI:Q1 195 (A [B false,S [W 1],S [W 3]]) (A [B false,S [W 1],S [W 3]]):=Tk (.c aG1 (.c aG0 .n))
theorem aFZ:Q2 196 (S []) (S [W 3]) (S []):=Tk .n
theorem au1:Q2 196 (S [W 1]) (S [W 3]) (S [W 3]):=Tk .n
theorem aOT:Q5 198 (B false) (S []) (B false) (S [W 1]) (S [W 3]) (A [B false,S [W 1],S [W 3]]):=Tk (.c atM (.c aG0 .n))
theorem au0:Q1 157 (A [B false,S [W 1],S [W 3]]) (I 1):=Tk (.c atI .n)
theorem aOS:Q1 112 asS asS:=Tk (.c at0 (.c atI (.c aFZ (.c au4 (.c au1 (.c aOT (.c au0 (.c asN .n))))))))
theorem ax0:Q1 68 asS (U [asS,I 0]):=Tk (.c aOS .n)
theorem awZ:Q1 245 asS (I 0):=Tk .n
theorem awY:Q2 246 asS (I 0) (I 0):=Tk .n
theorem awX:Q2 246 asS (I 1) (I 0):=Tk .n
theorem awW:Q2 246 asS (I 2) (I 0):=Tk .n
theorem awV:Q2 246 asS (I 3) (I 0):=Tk .n
theorem awU:Q2 246 asS (I 4) (I 0):=Tk .n
theorem awT:Q2 246 asS (I 5) (I 0):=Tk .n
theorem awS:Q2 246 asS (I 6) (I 0):=Tk .n
theorem awR:Q2 246 asS (I 7) (I 0):=Tk .n
theorem awQ:Q1 185 (A [B false,S [W 1],S [W 3]]) (A [B false,S [W 1],S [W 3]]):=Tk (.c atI .n)
theorem aOQ:Q1 147 asS asS:=Tk (.c awQ (.c au0 (.c asN .n)))
theorem ayO:Q2 247 (S []) asS asS:=Tk (.c aOQ .n)
theorem ayN:Q2 196 (S [W 3]) (S [W 3]) (S [W 9]):=Tk .n
theorem aFY:Q1 189 (S [W 9]) (S [W 9]):=Tk .n
theorem aOP:Q1 219 (.int .u64 3) (S [W 3]):=Tk .n
theorem aOO:Q2 220 (S [W 6]) (S [W 3]) (I 1):=Tk .n
theorem aON:Q2 191 (S [W 6]) (S [W 3]) (U [S [W 2],S [],I 0]):=Tk (.c aOO (.c at4 .n))
theorem aOM:Q2 191 (S [W 9]) (S [W 3]) (U [S [W 3],S [],I 0]):=Tk (.c at4 .n)
theorem aOL:Q2 156 (A [B false,S [W 1],S [W 3]]) (A [B false,S [W 1],S [W 3]]) (A [B false,S [W 2],S [W 3]]):=Tk (.c atI (.c au1 (.c ayN (.c auU (.c aFY (.c aOP (.c aON (.c aOM .n))))))))
theorem aOK:Q2 190 (S [W 2]) (S [W 3]) (S [W 1]):=Tk (.c au5 (.c atE (.c asX .n)))
theorem aFX:Q3 149 (B false) (S [W 2]) (S [W 3]) (A [B false,S [W 2],S [W 3]]):=Tk (.c au5 (.c atE (.c aOK .n)))
theorem auS:Q1 195 (A [B false,S [W 2],S [W 3]]) (A [B false,S [W 2],S [W 3]]):=Tk (.c aG1 (.c aFX .n))
theorem awP:Q1 157 (A [B false,S [W 2],S [W 3]]) (I 1):=Tk (.c auS .n)
theorem aFW:Ret VP (.fn 186) [.ms 0 1 0 1,.d (.func 187 [] [])] [some (.rows 1 false 11 [[.d (I 0),.d (I 0),.d (I 0),.d (I 0),.d (I 0),.d (I 0),.d (I 0),.d (I 0),.d (B false),.d (S [W 2]),.d (S [W 3])]])] (.ms 0 1 0 1) [some (.rows 1 false 11 [[.d (I 0),.d (I 0),.d (I 0),.d (I 0),.d (I 0),.d (I 0),.d (I 0),.d (I 0),.d (B false),.d (S [W 2]),.d (S [W 3])]])]:=tb (n:=1000) (.c awP .n) (by kernel_rfl)
theorem aFV:Ret VP (.fn 158) [.ms 0 1 0 1,.d (.func 188 [A [I 8]] [])] [some (.rows 1 false 11 [[.d (I 0),.d (I 0),.d (I 0),.d (I 0),.d (I 0),.d (I 0),.d (I 0),.d (I 0),.d (B false),.d (S [W 2]),.d (S [W 3])]])] (.d (U [])) [some (.rows 1 false 11 [[.d (I 0),.d (I 0),.d (I 0),.d (I 0),.d (I 0),.d (I 0),.d (I 0),.d (I 0),.d (B false),.d (S [W 2]),.d (S [W 3])]])]:=tb (n:=1000) (.c asN .n) (by kernel_rfl)
theorem aOJ:Q2 247 asS asS an:=Tk (.c awQ (.c aOL (.c aFW (.c aFV .n))))
theorem aFU:Q1 185 (A [B false,S [W 2],S [W 3]]) (A [B false,S [W 2],S [W 3]]):=Tk (.c auS .n)
theorem aFT:Q2 196 (S [W 2]) (S [W 3]) (S [W 6]):=Tk .n
theorem aFS:Q3 149 (B false) (S [W 9]) (S [W 9]) (A [B false,S [W 1],S [W 1]]):=Tk (.c aFY (.c at4 .n))
theorem aOI:Q2 156 (A [B false,S [W 2],S [W 3]]) (A [B false,S [W 1],S [W 3]]) (A [B false,S [W 1],S [W 1]]):=Tk (.c auS (.c atI (.c aFT (.c au1 (.c ayN (.c aFS .n))))))
theorem aFR:Q2 247 an asS aX:=Tk (.c aFU (.c aOI (.c at2 (.c at1 .n))))
theorem aOH:Q2 196 (S [W 3]) (S [W 2]) (S [W 6]):=Tk .n
theorem at7:Q1 189 (S [W 5]) (S [W 5]):=Tk .n
theorem aFQ:Q3 149 (B false) (S [W 5]) (S [W 6]) (A [B false,S [W 5],S [W 6]]):=Tk (.c at7 (.c auU (.c asX .n)))
theorem aOG:Q2 156 (A [B false,S [W 1],S [W 3]]) (A [B false,S [W 1],S [W 2]]) (A [B false,S [W 5],S [W 6]]):=Tk (.c atI (.c atN (.c avG (.c au1 (.c aOH (.c aFQ .n))))))
theorem aFP:Q1 223 (S [W 6]) (B false):=Tk .n
theorem aFO:Q1 195 (A [B false,S [W 5],S [W 6]]) (A [B false,S [W 5],S [W 6]]):=Tk (.c aFP (.c aFQ .n))
theorem aOF:Q2 247 asS asO (S [auK]):=Tk (.c awQ (.c aOG (.c aFO (.c asN .n))))
theorem aOE:Q2 190 (S [W 1]) (S [W 6]) (S [W 1]):=Tk (.c asY (.c auU (.c asX .n)))
theorem aFN:Q3 149 (B false) (S [W 1]) (S [W 6]) (A [B false,S [W 1],S [W 6]]):=Tk (.c asY (.c auU (.c aOE .n)))
theorem ayL:Q1 195 (A [B false,S [W 1],S [W 6]]) (A [B false,S [W 1],S [W 6]]):=Tk (.c aFP (.c aFN .n))
theorem aFM:Q2 196 (S [W 1]) (S [W 6]) (S [W 6]):=Tk .n
theorem aFL:Q1 157 (A [B false,S [W 1],S [W 6]]) (I 1):=Tk (.c ayL .n)
theorem aOD:Q1 112 asR asR:=Tk (.c at0 (.c ayL (.c au4 (.c aFM (.c atM (.c aFN (.c aFL (.c asN .n))))))))
theorem aOC:Q1 68 asR (U [asR,I 0]):=Tk (.c aOD .n)
theorem aOB:Q1 245 asR (I 0):=Tk .n
theorem aOA:Q2 246 asR (I 0) (I 0):=Tk .n
theorem aO9:Q2 246 asR (I 1) (I 0):=Tk .n
theorem aO8:Q2 246 asR (I 2) (I 0):=Tk .n
theorem aO7:Q2 246 asR (I 3) (I 0):=Tk .n
theorem aO6:Q2 246 asR (I 4) (I 0):=Tk .n
theorem aO5:Q2 246 asR (I 5) (I 0):=Tk .n
theorem aO4:Q2 246 asR (I 6) (I 0):=Tk .n
theorem aO3:Q2 246 asR (I 7) (I 0):=Tk .n
theorem aO2:Q2 196 (S [W 5]) (S [W 6]) (S [W 30]):=Tk .n
theorem aO1:Q1 189 (S [W 36]) (S [W 36]):=Tk .n
theorem aO0:Q5 198 (B false) (S [W 30]) (B false) (S [W 6]) (S [W 36]) (A [B false,S [W 1],S [W 1]]):=Tk (.c aO1 (.c at4 .n))
theorem aNY:Q1 147 (S [auK,aBG]) aX:=Tk (.c aFO (.c ayL (.c aO2 (.c aFM (.c aO0 (.c at2 (.c at1 .n)))))))
theorem aNX:Q2 247 (S [auK]) asR aX:=Tk (.c aNY .n)
theorem awO:Q1 185 (A [B false,S [W 1],S [W 4]]) (A [B false,S [W 1],S [W 4]]):=Tk (.c atG .n)
theorem aNW:Q1 147 asP asP:=Tk (.c awO (.c atJ (.c asN .n)))
theorem ayK:Q2 247 (S []) asP asP:=Tk (.c aNW .n)
theorem aNV:Q2 196 (S [W 4]) (S [W 2]) (S [W 8]):=Tk .n
theorem aNU:Q1 147 (S [azS,aHG]) cS:=Tk (.c awO (.c atG (.c atN (.c avG (.c au3 (.c aNV (.c aG7 (.c ayR (.c ayQ .n)))))))))
theorem aNT:Q2 247 asP asO cS:=Tk (.c aNU .n)
theorem aFK:Q2 196 (S [W 2]) (S [W 1]) (S [W 2]):=Tk .n
theorem aNR:Q2 196 (S [W 5]) (S [W 4]) (S [W 20]):=Tk .n
theorem aNP:Q2 196 (S [W 4]) (S [W 1]) (S [W 4]):=Tk .n
theorem aFJ:Q2 226 (S []) (S [W 2]) (S [W 2]):=Tk .n
theorem aNO:Q5 198 (B false) (S []) (B false) (S [W 2]) (S [W 3]) (A [B false,S [W 2],S [W 3]]):=Tk (.c aFJ (.c aFX .n))
theorem aNN:Q1 112 an an:=Tk (.c at0 (.c auS (.c aFZ (.c aFK (.c au1 (.c aNO (.c awP (.c asN .n))))))))
theorem aFI:Q1 68 an (U [an,I 0]):=Tk (.c aNN .n)
theorem aFH:Q1 245 an (I 0):=Tk .n
theorem aFG:Q2 246 an (I 0) (I 0):=Tk .n
theorem aFF:Q2 246 an (I 1) (I 0):=Tk .n
theorem aFE:Q2 246 an (I 2) (I 0):=Tk .n
theorem aFD:Q2 246 an (I 3) (I 0):=Tk .n
theorem aFC:Q2 246 an (I 4) (I 0):=Tk .n
theorem aFB:Q2 246 an (I 5) (I 0):=Tk .n
theorem aFA:Q2 246 an (I 6) (I 0):=Tk .n
theorem aF9:Q2 246 an (I 7) (I 0):=Tk .n
theorem aNL:Q1 147 an an:=Tk (.c aFU (.c aFW (.c aFV .n)))
theorem aNK:Q2 247 (S []) an an:=Tk (.c aNL .n)
theorem auR:Q2 72 (S [W 8]) (S [W 1]) (U [S [W 8],S [],I 0]):=Tk .n
theorem aF8:Q2 71 (S [W 1]) (S [W 8]) (S [W 1]):=Tk (.c auR .n)
theorem aF7:Q3 42 (B false) (S [W 1]) (S [W 8]) (A [B false,S [W 1],S [W 8]]):=Tk (.c aF8 (.c ua2 (.c auR .n)))
theorem aNJ:Q2 75 (A [B false,S [W 1],S [W 4]]) (A [B false,S [W 2],S [W 1]]) (U [A [B false,S [W 1],S [W 8]],I 0]):=Tk (.c au9 (.c aM4 (.c atB (.c aKN (.c aF7 .n)))))
theorem awN:Q1 121 (A [B false,S [W 1],S [W 8]]) (A [B false,S [W 1],S [W 8]]):=Tk (.c aF7 .n)
theorem aF6:Q1 122 (A [B false,S [W 1],S [W 8]]) (I 1):=Tk (.c awN .n)
def aBF:D:=A [I 0,I 0,I 0,I 0,I 0,I 0,I 0,I 0,B false,S [W 1],S [W 8]]
def asQ:D:=S [aBF]
theorem ayJ:Q1 43 asQ asQ:=Tk (.c awN (.c aF6 .n))
theorem aNH:Q1 20 (A [B false,S [W 1],S [W 8]]) asQ:=Tk (.c ayJ .n)
theorem aF5:Q3 42 (B true) (S [W 1]) (S [W 8]) (A [B true,S [W 1],S [W 8]]):=Tk (.c aF8 (.c ua2 (.c auR .n)))
theorem aF4:Q1 121 (A [B true,S [W 1],S [W 8]]) (A [B true,S [W 1],S [W 8]]):=Tk (.c aF5 .n)
theorem aF3:Q2 124 (S [W 8]) (S [W 4]) (S [W 32]):=Tk .n
theorem aNG:Q2 71 (S [W 20]) (S [W 32]) (S [W 4]):=Tk .n
theorem aF2:Q2 72 (S [W 32]) (S [W 4]) (U [S [W 8],S [],I 0]):=Tk .n
theorem aNF:Q2 120 (A [B true,S [W 1],S [W 8]]) (A [B false,S [W 3],S [W 4]]) (A [B false,S [W 5],S [W 8]]):=Tk (.c aF4 (.c at8 (.c awC (.c aF3 (.c aNG (.c aF2 .n))))))
theorem aF1:Q2 114 (S [W 5]) (S [W 3]) (I 1):=Tk .n
theorem aF0:Q2 72 (S [W 5]) (S [W 3]) (U [S [W 1],S [W 2],I 0]):=Tk (.c aF1 .n)
theorem aNE:Q2 71 (S [W 5]) (S [W 8]) (S [W 1]):=Tk (.c aF0 (.c aJC (.c auA .n)))
theorem awM:Q1 121 (A [B false,S [W 5],S [W 8]]) (A [B false,S [W 5],S [W 8]]):=Tk (.c aNE (.c at3 (.c auR .n)))
theorem ayI:Q1 122 (A [B false,S [W 5],S [W 8]]) (I 1):=Tk (.c awM .n)
def aBE:D:=A [I 0,I 0,I 0,I 0,I 0,I 0,I 0,I 0,B false,S [W 5],S [W 8]]
def asT:D:=S [aBE]
theorem aND:Q2 21 cS asQ asT:=Tk (.c atF (.c awN (.c au2 (.c atB (.c aF5 (.c aF4 (.c aNF (.c awM (.c ayI .n)))))))))
theorem auQ:Q1 41 (I 0) (A [B false,S [],S [W 1]]):=Tk (.c aT0 .n)
theorem aNC:Q2 19 (I 0) (I 1) (U [A [B false,S [],S [W 1]],I 0]):=Tk (.c auQ (.c ua0 (.c aST .n)))
theorem aNB:Q1 20 (A [B false,S [],S [W 1]]) (S []):=Tk (.c aHO (.c aMW .n))
theorem aNA:Q2 44 aX (S []) aX:=Tk .n
theorem aN9:Q2 21 aX (S []) aX:=Tk (.c atF .n)
theorem aN8:Q2 19 (I 1) (I 1) (U [A [B false,S [W 1],S [W 1]],I 0]):=Tk (.c ua0 (.c ua4 .n))
def aJA:D:=A [I 0,I 0,I 0,I 0,I 0,I 0,I 0,I 0,B true,S [W 1],S [W 1]]
theorem aN7:Q2 73 aX aJA (S []):=Tk (.c au2 (.c ua5 (.c atB (.c ua1 (.c aSU (.c aNI (.c ua2 (.c aHO (.c aMW .n)))))))))
theorem aN6:Q2 21 aX aX (S []):=Tk (.c atF (.c ua5 (.c au2 (.c atB (.c aSZ (.c aN7 .n))))))
theorem aN5:Q2 72 (S []) (S [W 2]) (U [S [],S [],I 0]):=Tk .n
theorem aN4:Q2 19 (I 0) (I 2) (U [A [B false,S [],S [W 1]],I 0]):=Tk (.c auQ (.c ax7 (.c aN5 (.c aHK .n))))
theorem aEZ:Q1 43 asT asT:=Tk (.c awM (.c ayI .n))
theorem aN3:Q2 208 asT (I 0) (B true):=Tk (.c aEZ (.c ayI .n))
theorem aEY:Q2 124 (S [W 1]) (S [W 8]) (S [W 8]):=Tk .n
theorem aEX:Q2 72 (S [W 28]) (S [W 4]) (U [S [W 7],S [],I 0]):=Tk .n
theorem aN2:Q2 71 (S [W 28]) (S [W 32]) (S [W 4]):=Tk (.c aEX .n)
theorem aEW:Q2 72 (S [W 7]) (S [W 1]) (U [S [W 7],S [],I 0]):=Tk .n
theorem aN1:Q2 71 (S [W 7]) (S [W 8]) (S [W 1]):=Tk (.c aEW .n)
theorem aEV:Q1 121 (A [B false,S [W 7],S [W 8]]) (A [B false,S [W 7],S [W 8]]):=Tk (.c aN1 (.c aEW (.c auR .n)))
theorem aN0:Q2 73 asP aBE (S [A [I 0,I 0,I 0,I 0,I 0,I 0,I 0,I 0,B false,S [W 7],S [W 8]]]):=Tk (.c awM (.c au9 (.c aEY (.c aF3 (.c aN2 (.c aEX (.c aF2 (.c aEV .n))))))))
theorem aMZ:Q2 44 asP asT (S [A [I 0,I 0,I 0,I 0,I 0,I 0,I 0,I 0,B false,S [W 7],S [W 8]]]):=Tk (.c aN0 .n)
theorem aMY:Q2 208 asQ (I 0) (B true):=Tk (.c ayJ (.c aF6 .n))
theorem aMX:Q2 72 (S [W 64]) (S [W 64]) (U [S [W 1],S [],I 0]):=Tk .n
theorem aMV:Q2 73 (S [A [I 0,I 0,I 0,I 0,I 0,I 0,I 0,I 0,B false,S [W 7],S [W 8]]]) aBF aX:=Tk (.c awN (.c aEV (.c aEY (.c aMX (.c ua5 (.c ua6 .n))))))
theorem aMU:Q2 44 (S [A [I 0,I 0,I 0,I 0,I 0,I 0,I 0,I 0,B false,S [W 7],S [W 8]]]) asQ aX:=Tk (.c aMV .n)
theorem aEU:Q2 208 aX (I 0) (B true):=Tk (.c ua8 (.c ua6 .n))
theorem aET:Q2 44 (S []) aX aX:=Tk (.c ua7 .n)
theorem aMT:Q2 44 (S []) (S []) (S []):=Tk .n
theorem ayH:Q1 223 (S [W 8]) (B false):=Tk .n
theorem aES:Q3 149 (B false) (S [W 5]) (S [W 8]) (A [B false,S [W 5],S [W 8]]):=Tk (.c at7 (.c ax2 (.c asX .n)))
theorem ayG:Q1 195 (A [B false,S [W 5],S [W 8]]) (A [B false,S [W 5],S [W 8]]):=Tk (.c ayH (.c aES .n))
theorem aER:Q2 196 (S []) (S [W 8]) (S []):=Tk .n
theorem awL:Q2 196 (S [W 1]) (S [W 8]) (S [W 8]):=Tk .n
theorem aMS:Q2 156 (A [B false,S [],S []]) (A [B false,S [W 5],S [W 8]]) (A [B false,S [W 5],S [W 8]]):=Tk (.c at0 (.c ayG (.c aER (.c awL (.c aES .n)))))
theorem aEQ:Q1 157 (A [B false,S [W 5],S [W 8]]) (I 1):=Tk (.c ayG .n)
theorem aMR:Q1 68 asT (U [asT,I 0]):=Tk (.c aMS (.c aEQ (.c asN .n)))
theorem aMQ:Q1 245 asT (I 0):=Tk .n
theorem aMP:Q2 246 asT (I 0) (I 0):=Tk .n
theorem aMO:Q2 246 asT (I 1) (I 0):=Tk .n
theorem aMN:Q2 246 asT (I 2) (I 0):=Tk .n
theorem aMM:Q2 246 asT (I 3) (I 0):=Tk .n
theorem aML:Q2 246 asT (I 4) (I 0):=Tk .n
theorem aMK:Q2 246 asT (I 5) (I 0):=Tk .n
theorem aMJ:Q2 246 asT (I 6) (I 0):=Tk .n
theorem aMI:Q2 246 asT (I 7) (I 0):=Tk .n
theorem aMH:Q1 189 (S [W 28]) (S [W 28]):=Tk .n
theorem aMG:Q1 189 (S [W 32]) (S [W 32]):=Tk .n
theorem aMF:Q3 149 (B false) (S [W 28]) (S [W 32]) (A [B false,S [W 7],S [W 8]]):=Tk (.c aMH (.c aMG (.c aGD (.c at4 .n))))
theorem aME:Q2 156 (A [B false,S [W 1],S [W 4]]) (A [B false,S [W 5],S [W 8]]) (A [B false,S [W 7],S [W 8]]):=Tk (.c atG (.c ayG (.c awL (.c aNR (.c aMF .n)))))
theorem aMD:Q1 189 (S [W 7]) (S [W 7]):=Tk .n
theorem ayF:Q1 195 (A [B false,S [W 7],S [W 8]]) (A [B false,S [W 7],S [W 8]]):=Tk (.c ayH (.c aMD (.c ax2 (.c asX .n))))
theorem aMC:Q2 247 asP asT (S [A [I 0,I 0,I 0,I 0,I 0,I 0,I 0,I 0,B false,S [W 7],S [W 8]]]):=Tk (.c awO (.c aME (.c ayF (.c asN .n))))
theorem aEP:Q3 149 (B false) (S [W 1]) (S [W 8]) (A [B false,S [W 1],S [W 8]]):=Tk (.c asY (.c ax2 (.c asX .n)))
theorem ayE:Q1 195 (A [B false,S [W 1],S [W 8]]) (A [B false,S [W 1],S [W 8]]):=Tk (.c ayH (.c aEP .n))
theorem aEO:Q1 157 (A [B false,S [W 1],S [W 8]]) (I 1):=Tk (.c ayE .n)
theorem aMB:Q1 112 asQ asQ:=Tk (.c at0 (.c ayE (.c aER (.c au4 (.c awL (.c atM (.c aEP (.c aEO (.c asN .n)))))))))
theorem aMA:Q1 68 asQ (U [asQ,I 0]):=Tk (.c aMB .n)
theorem aM9:Q1 245 asQ (I 0):=Tk .n
theorem aM8:Q2 246 asQ (I 0) (I 0):=Tk .n
theorem aM7:Q2 246 asQ (I 1) (I 0):=Tk .n
theorem aM6:Q2 246 asQ (I 2) (I 0):=Tk .n
theorem aM5:Q2 246 asQ (I 3) (I 0):=Tk .n
theorem aM3:Q2 246 asQ (I 4) (I 0):=Tk .n
theorem aM2:Q2 246 asQ (I 5) (I 0):=Tk .n
theorem aM1:Q2 246 asQ (I 6) (I 0):=Tk .n
theorem aM0:Q2 246 asQ (I 7) (I 0):=Tk .n
theorem aLZ:Q1 189 (S [W 64]) (S [W 64]):=Tk .n
theorem aLY:Q5 198 (B false) (S [W 56]) (B false) (S [W 8]) (S [W 64]) (A [B false,S [W 1],S [W 1]]):=Tk (.c aLZ (.c at4 .n))
theorem aLX:Q2 156 (A [B false,S [W 7],S [W 8]]) (A [B false,S [W 1],S [W 8]]) (A [B false,S [W 1],S [W 1]]):=Tk (.c ayF (.c ayE (.c awL (.c aLY .n))))
theorem aLW:Q2 247 (S [A [I 0,I 0,I 0,I 0,I 0,I 0,I 0,I 0,B false,S [W 7],S [W 8]]]) asQ aX:=Tk (.c ayF (.c aLX (.c at2 (.c at1 .n))))
theorem aLV:Q5 198 (B false) (S []) (B false) (S [W 1]) (S [W 1]) (A [B false,S [W 1],S [W 1]]):=Tk (.c atM (.c ayU .n))
theorem aLU:Q1 112 aX aX:=Tk (.c at0 (.c av5 (.c aLV (.c ax3 (.c asN .n)))))
theorem aEN:Q1 68 aX (U [aX,I 0]):=Tk (.c aLU .n)
theorem aEM:Q1 245 aX (I 0):=Tk .n
theorem aEL:Q2 246 aX (I 0) (I 0):=Tk .n
theorem aEK:Q2 246 aX (I 1) (I 0):=Tk .n
theorem aEJ:Q2 246 aX (I 2) (I 0):=Tk .n
theorem aEI:Q2 246 aX (I 3) (I 0):=Tk .n
theorem aEH:Q2 246 aX (I 4) (I 0):=Tk .n
theorem aEG:Q2 246 aX (I 5) (I 0):=Tk .n
theorem aEF:Q2 246 aX (I 6) (I 0):=Tk .n
theorem aEE:Q2 246 aX (I 7) (I 0):=Tk .n
theorem aED:Q2 247 (S []) aX aX:=Tk (.c ayS .n)
theorem aLT:Q2 247 aX (S []) aX:=Tk (.c ayS .n)
theorem aLS:Q2 247 (S []) (S []) (S []):=Tk (.c aGF .n)
theorem aLR:Q2 19 (I 2) (I 2) (U [A [B false,S [W 1],S [W 1]],I 0]):=Tk (.c ax7 (.c aHK .n))
theorem aLQ:Q2 72 (S []) (S [W 3]) (U [S [],S [],I 0]):=Tk .n
theorem aLP:Q2 19 (I 0) (I 3) (U [A [B false,S [],S [W 1]],I 0]):=Tk (.c auQ (.c azU (.c aLQ (.c azM .n))))
theorem aLO:Q2 19 (I 2) (I 3) (U [A [B false,S [W 2],S [W 3]],I 0]):=Tk (.c ax7 (.c azU (.c aJB .n)))
theorem aEC:Q2 73 (S []) aBH an:=Tk (.c aw2 (.c aHH .n))
theorem awK:Q1 43 an an:=Tk (.c aEC .n)
theorem aLN:Q1 20 (A [B false,S [W 2],S [W 3]]) an:=Tk (.c awK .n)
theorem aEB:Q3 42 (B true) (S [W 2]) (S [W 3]) (A [B true,S [W 2],S [W 3]]):=Tk (.c aSC (.c auA (.c avL .n)))
theorem aE9:Q1 121 (A [B true,S [W 2],S [W 3]]) (A [B true,S [W 2],S [W 3]]):=Tk (.c aEB .n)
def aJ9:D:=A [I 0,I 0,I 0,I 0,I 0,I 0,I 0,I 0,B true,S [W 2],S [W 3]]
theorem aLM:Q2 73 aX aJ9 asS:=Tk (.c aE9 (.c ua5 (.c az8 (.c axF (.c aw3 (.c aSE (.c aSD (.c aHJ (.c auL (.c aHI .n))))))))))
theorem aLL:Q2 21 aX an asS:=Tk (.c atF (.c aw2 (.c au2 (.c az8 (.c aw3 (.c aEB (.c aE9 (.c aLM .n))))))))
theorem aLK:Q2 19 (I 3) (I 3) (U [A [B false,S [W 1],S [W 1]],I 0]):=Tk (.c azU (.c azM .n))
theorem aE8:Q2 208 an (I 0) (B true):=Tk (.c awK (.c aHH .n))
theorem aLJ:Q2 44 (S []) an an:=Tk (.c aEC .n)
theorem aLI:Q2 44 asS an aX:=Tk (.c aw2 (.c auL (.c ax9 (.c axF (.c ax8 (.c aGM (.c ua5 (.c ua6 .n))))))))
theorem aLH:Q2 156 (A [B false,S [W 1],S [W 3]]) (A [B false,S [W 2],S [W 3]]) (A [B false,S [W 1],S [W 1]]):=Tk (.c atI (.c auS (.c au1 (.c aFT (.c ayN (.c aFS .n))))))
theorem aLG:Q2 247 asS an aX:=Tk (.c awQ (.c aLH (.c at2 (.c at1 .n))))
theorem aLF:Q2 190 (S [W 1]) (S [W 5]) (S [W 1]):=Tk (.c asY (.c at7 (.c asX .n)))
theorem aE7:Q3 149 (B false) (S [W 1]) (S [W 5]) (A [B false,S [W 1],S [W 5]]):=Tk (.c asY (.c at7 (.c aLF .n)))
theorem awJ:Q1 223 (S [W 5]) (B false):=Tk .n
theorem auP:Q1 195 (A [B false,S [W 1],S [W 5]]) (A [B false,S [W 1],S [W 5]]):=Tk (.c awJ (.c aE7 .n))
theorem atZ:Q2 196 (S [W 1]) (S [W 5]) (S [W 5]):=Tk .n
theorem aLE:Q2 190 (S [W 4]) (S [W 5]) (S [W 1]):=Tk (.c atK (.c at7 (.c asX .n)))
theorem aE6:Q3 149 (B false) (S [W 4]) (S [W 5]) (A [B false,S [W 4],S [W 5]]):=Tk (.c atK (.c at7 (.c aLE .n)))
theorem auO:Q1 195 (A [B false,S [W 4],S [W 5]]) (A [B false,S [W 4],S [W 5]]):=Tk (.c awJ (.c aE6 .n))
theorem awI:Q1 157 (A [B false,S [W 4],S [W 5]]) (I 1):=Tk (.c auO .n)
theorem aLD:Q2 190 (S [W 2]) (S [W 5]) (S [W 1]):=Tk (.c au5 (.c at7 (.c asX .n)))
theorem aE5:Q3 149 (B false) (S [W 2]) (S [W 5]) (A [B false,S [W 2],S [W 5]]):=Tk (.c au5 (.c at7 (.c aLD .n)))
theorem auN:Q1 195 (A [B false,S [W 2],S [W 5]]) (A [B false,S [W 2],S [W 5]]):=Tk (.c awJ (.c aE5 .n))
theorem aE4:Q2 196 (S [W 2]) (S [W 5]) (S [W 10]):=Tk .n
theorem aE3:Q2 196 (S [W 3]) (S [W 5]) (S [W 15]):=Tk .n
theorem aLC:Q2 190 (S [W 3]) (S [W 5]) (S [W 1]):=Tk (.c atE (.c at7 (.c asX .n)))
theorem aE2:Q3 149 (B false) (S [W 3]) (S [W 5]) (A [B false,S [W 3],S [W 5]]):=Tk (.c atE (.c at7 (.c aLC .n)))
theorem auM:Q1 195 (A [B false,S [W 3],S [W 5]]) (A [B false,S [W 3],S [W 5]]):=Tk (.c awJ (.c aE2 .n))
theorem aE1:Q2 196 (S [W 3]) (S [W 1]) (S [W 3]):=Tk .n
theorem awH:Q1 157 (A [B false,S [W 2],S [W 5]]) (I 1):=Tk (.c auN .n)
theorem awG:Q2 196 (S []) (S [W 5]) (S []):=Tk .n
theorem awF:Q1 157 (A [B false,S [W 1],S [W 5]]) (I 1):=Tk (.c auP .n)
theorem aLB:Q2 19 (I 0) (I 4) (U [A [B false,S [],S [W 1]],I 0]):=Tk (.c auQ (.c au6 (.c aSV (.c aNQ (.c aNM .n)))))
theorem aLA:Q2 72 (S [W 4]) (S [W 2]) (U [S [W 2],S [],I 0]):=Tk (.c aSM .n)
theorem aL9:Q2 19 (I 2) (I 4) (U [A [B false,S [W 1],S [W 2]],I 0]):=Tk (.c ax7 (.c au6 (.c aSN (.c aLA (.c aHK .n)))))
theorem aL8:Q2 19 (I 3) (I 4) (U [A [B false,S [W 3],S [W 4]],I 0]):=Tk (.c azU (.c au6 (.c azJ .n)))
theorem aE0:Q2 73 (S []) aw1 cS:=Tk (.c at8 (.c avJ .n))
theorem awE:Q1 43 cS cS:=Tk (.c aE0 .n)
theorem aL7:Q1 20 (A [B false,S [W 3],S [W 4]]) cS:=Tk (.c awE .n)
theorem aDZ:Q3 42 (B true) (S [W 3]) (S [W 4]) (A [B true,S [W 3],S [W 4]]):=Tk (.c aGT (.c avL (.c axG .n)))
theorem aDY:Q1 121 (A [B true,S [W 3],S [W 4]]) (A [B true,S [W 3],S [W 4]]):=Tk (.c aDZ .n)
def aJ8:D:=A [I 0,I 0,I 0,I 0,I 0,I 0,I 0,I 0,B true,S [W 3],S [W 4]]
theorem aL6:Q2 73 aX aJ8 asP:=Tk (.c aDY (.c ua5 (.c aw3 (.c awC (.c ayC (.c aGV (.c aGU (.c aEA (.c au9 (.c aHN .n))))))))))
theorem aL5:Q2 21 aX cS asP:=Tk (.c atF (.c at8 (.c au2 (.c aw3 (.c ayC (.c aDZ (.c aDY (.c aL6 .n))))))))
theorem aL4:Q2 19 (I 4) (I 4) (U [A [B false,S [W 1],S [W 1]],I 0]):=Tk (.c au6 (.c aGS .n))
theorem aDX:Q2 208 cS (I 0) (B true):=Tk (.c awE (.c avJ .n))
theorem aL3:Q2 44 (S []) cS cS:=Tk (.c aE0 .n)
theorem aL2:Q2 44 asP cS aX:=Tk (.c at8 (.c au9 (.c azH (.c awC (.c azG (.c aGO (.c ua5 (.c ua6 .n))))))))
theorem aDW:Q2 226 (S []) (S [W 3]) (S [W 3]):=Tk .n
theorem aL1:Q5 198 (B false) (S []) (B false) (S [W 3]) (S [W 4]) (A [B false,S [W 3],S [W 4]]):=Tk (.c aDW (.c aG6 .n))
theorem aL0:Q1 112 cS cS:=Tk (.c at0 (.c auT (.c aG8 (.c aE1 (.c au3 (.c aL1 (.c ax1 (.c asN .n))))))))
theorem aDV:Q1 68 cS (U [cS,I 0]):=Tk (.c aL0 .n)
theorem aDU:Q1 245 cS (I 0):=Tk .n
theorem aDT:Q2 246 cS (I 0) (I 0):=Tk .n
theorem aDS:Q2 246 cS (I 1) (I 0):=Tk .n
theorem aDR:Q2 246 cS (I 2) (I 0):=Tk .n
theorem aDQ:Q2 246 cS (I 3) (I 0):=Tk .n
theorem aDP:Q2 246 cS (I 4) (I 0):=Tk .n
theorem aDO:Q2 246 cS (I 5) (I 0):=Tk .n
theorem aDN:Q2 246 cS (I 6) (I 0):=Tk .n
theorem aDM:Q2 246 cS (I 7) (I 0):=Tk .n
theorem aKZ:Q1 147 cS cS:=Tk (.c aG5 (.c ayR (.c ayQ .n)))
theorem aKY:Q2 247 (S []) cS cS:=Tk (.c aKZ .n)
theorem aKX:Q1 147 (S [azS,aw1]) aX:=Tk (.c awO (.c atG (.c auT (.c au3 (.c aG4 (.c aG3 (.c aG2 (.c at2 (.c at1 .n)))))))))
theorem aKW:Q2 247 asP cS aX:=Tk (.c aKX .n)
theorem atY:Q1 41 (I 5) (A [B false,S [W 5],S [W 1]]):=Tk .n
theorem aKV:Q2 72 (S []) (S [W 5]) (U [S [],S [],I 0]):=Tk .n
theorem aDL:Q2 72 (S [W 5]) (S [W 5]) (U [S [W 1],S [],I 0]):=Tk .n
theorem aKU:Q2 19 (I 0) (I 5) (U [A [B false,S [],S [W 1]],I 0]):=Tk (.c auQ (.c atY (.c aKV (.c aDL .n))))
theorem aDK:Q2 114 (S [W 1]) (S [W 5]) (J 0):=Tk .n
theorem aDJ:Q2 71 (S [W 1]) (S [W 5]) (S [W 1]):=Tk (.c aDK (.c at3 .n))
theorem ayB:Q3 42 (B false) (S [W 1]) (S [W 5]) (A [B false,S [W 1],S [W 5]]):=Tk (.c aDJ (.c ua2 (.c at3 .n)))
theorem aKT:Q2 19 (I 1) (I 5) (U [A [B false,S [W 1],S [W 5]],I 0]):=Tk (.c ua0 (.c atY (.c ayB .n)))
theorem atX:Q1 121 (A [B false,S [W 1],S [W 5]]) (A [B false,S [W 1],S [W 5]]):=Tk (.c ayB .n)
theorem ayA:Q1 122 (A [B false,S [W 1],S [W 5]]) (I 1):=Tk (.c atX .n)
def ay3:D:=A [I 0,I 0,I 0,I 0,I 0,I 0,I 0,I 0,B false,S [W 1],S [W 5]]
def asL:D:=S [ay3]
theorem aDI:Q2 73 (S []) ay3 asL:=Tk (.c atX (.c ayA .n))
theorem awD:Q1 43 asL asL:=Tk (.c aDI .n)
theorem aKS:Q1 20 (A [B false,S [W 1],S [W 5]]) asL:=Tk (.c awD .n)
theorem atD:Q2 124 (S [W 5]) (S [W 1]) (S [W 5]):=Tk .n
theorem aDH:Q3 42 (B true) (S [W 1]) (S [W 5]) (A [B true,S [W 1],S [W 5]]):=Tk (.c aDJ (.c ua2 (.c at3 .n)))
theorem aDG:Q1 121 (A [B true,S [W 1],S [W 5]]) (A [B true,S [W 1],S [W 5]]):=Tk (.c aDH .n)
theorem atW:Q2 124 (S [W 1]) (S [W 5]) (S [W 5]):=Tk .n
theorem aDF:Q2 114 (S [W 4]) (S [W 5]) (J 0):=Tk .n
theorem aDE:Q2 114 (S [W 5]) (S [W 4]) (I 1):=Tk .n
theorem aDD:Q2 71 (S [W 4]) (S [W 5]) (S [W 1]):=Tk (.c aDF (.c aDE (.c axG .n)))
theorem ay9:Q3 42 (B false) (S [W 4]) (S [W 5]) (A [B false,S [W 4],S [W 5]]):=Tk (.c aDD (.c axG (.c at3 .n)))
theorem atV:Q1 121 (A [B false,S [W 4],S [W 5]]) (A [B false,S [W 4],S [W 5]]):=Tk (.c ay9 .n)
theorem ay8:Q1 122 (A [B false,S [W 4],S [W 5]]) (I 1):=Tk (.c atV .n)
def aJ7:D:=A [I 0,I 0,I 0,I 0,I 0,I 0,I 0,I 0,B true,S [W 1],S [W 5]]
def ay2:D:=A [I 0,I 0,I 0,I 0,I 0,I 0,I 0,I 0,B false,S [W 4],S [W 5]]
def tO:D:=S [ay2]
theorem aKQ:Q2 73 aX aJ7 tO:=Tk (.c aDG (.c ua5 (.c atB (.c atW (.c atD (.c aDK (.c aGK (.c ay9 (.c atV (.c ay8 .n))))))))))
theorem aKP:Q2 21 aX asL tO:=Tk (.c atF (.c atX (.c au2 (.c atB (.c atD (.c aDH (.c aDG (.c aKQ .n))))))))
theorem aDC:Q2 114 (S [W 2]) (S [W 5]) (J 0):=Tk .n
theorem aDB:Q2 114 (S [W 5]) (S [W 2]) (I 1):=Tk .n
theorem aDA:Q2 71 (S [W 2]) (S [W 5]) (S [W 1]):=Tk (.c aDC (.c aDB (.c auA .n)))
theorem ay7:Q3 42 (B false) (S [W 2]) (S [W 5]) (A [B false,S [W 2],S [W 5]]):=Tk (.c aDA (.c auA (.c at3 .n)))
theorem aKO:Q2 19 (I 2) (I 5) (U [A [B false,S [W 2],S [W 5]],I 0]):=Tk (.c ax7 (.c atY (.c ay7 .n)))
theorem atU:Q1 121 (A [B false,S [W 2],S [W 5]]) (A [B false,S [W 2],S [W 5]]):=Tk (.c ay7 .n)
theorem ay6:Q1 122 (A [B false,S [W 2],S [W 5]]) (I 1):=Tk (.c atU .n)
def ay1:D:=A [I 0,I 0,I 0,I 0,I 0,I 0,I 0,I 0,B false,S [W 2],S [W 5]]
def aaD:D:=S [ay1]
theorem aD9:Q2 73 (S []) ay1 aaD:=Tk (.c atU (.c ay6 .n))
theorem awB:Q1 43 aaD aaD:=Tk (.c aD9 .n)
theorem aKM:Q1 20 (A [B false,S [W 2],S [W 5]]) aaD:=Tk (.c awB .n)
theorem aD8:Q3 42 (B true) (S [W 2]) (S [W 5]) (A [B true,S [W 2],S [W 5]]):=Tk (.c aDA (.c auA (.c at3 .n)))
theorem aD7:Q1 121 (A [B true,S [W 2],S [W 5]]) (A [B true,S [W 2],S [W 5]]):=Tk (.c aD8 .n)
theorem aD6:Q2 114 (S [W 3]) (S [W 5]) (J 0):=Tk .n
theorem aD5:Q2 71 (S [W 3]) (S [W 5]) (S [W 1]):=Tk (.c aD6 (.c aF0 (.c aJC (.c auA .n))))
theorem ay5:Q3 42 (B false) (S [W 3]) (S [W 5]) (A [B false,S [W 3],S [W 5]]):=Tk (.c aD5 (.c avL (.c at3 .n)))
theorem atT:Q1 121 (A [B false,S [W 3],S [W 5]]) (A [B false,S [W 3],S [W 5]]):=Tk (.c ay5 .n)
theorem ay4:Q1 122 (A [B false,S [W 3],S [W 5]]) (I 1):=Tk (.c atT .n)
def aJ6:D:=A [I 0,I 0,I 0,I 0,I 0,I 0,I 0,I 0,B true,S [W 2],S [W 5]]
def ay0:D:=A [I 0,I 0,I 0,I 0,I 0,I 0,I 0,I 0,B false,S [W 3],S [W 5]]
def vY:D:=S [ay0]
theorem aKL:Q2 73 aX aJ6 vY:=Tk (.c aD7 (.c ua5 (.c az8 (.c atW (.c atD (.c aDC (.c aDB (.c ay5 (.c atT (.c ay4 .n))))))))))
theorem aKK:Q2 21 aX aaD vY:=Tk (.c atF (.c atU (.c au2 (.c az8 (.c atD (.c aD8 (.c aD7 (.c aKL .n))))))))
theorem aKJ:Q2 19 (I 3) (I 5) (U [A [B false,S [W 3],S [W 5]],I 0]):=Tk (.c azU (.c atY (.c ay5 .n)))
theorem aD4:Q2 73 (S []) ay0 vY:=Tk (.c atT (.c ay4 .n))
theorem awA:Q1 43 vY vY:=Tk (.c aD4 .n)
theorem aKI:Q1 20 (A [B false,S [W 3],S [W 5]]) vY:=Tk (.c awA .n)
theorem aD3:Q3 42 (B true) (S [W 3]) (S [W 5]) (A [B true,S [W 3],S [W 5]]):=Tk (.c aD5 (.c avL (.c at3 .n)))
theorem aD2:Q1 121 (A [B true,S [W 3],S [W 5]]) (A [B true,S [W 3],S [W 5]]):=Tk (.c aD3 .n)
def aJ5:D:=A [I 0,I 0,I 0,I 0,I 0,I 0,I 0,I 0,B true,S [W 3],S [W 5]]
theorem aKH:Q2 73 aX aJ5 aaD:=Tk (.c aD2 (.c ua5 (.c aw3 (.c atW (.c atD (.c aD6 (.c aF1 (.c ay7 (.c atU (.c ay6 .n))))))))))
theorem aKG:Q2 21 aX vY aaD:=Tk (.c atF (.c atT (.c au2 (.c aw3 (.c atD (.c aD3 (.c aD2 (.c aKH .n))))))))
theorem aKF:Q2 19 (I 4) (I 5) (U [A [B false,S [W 4],S [W 5]],I 0]):=Tk (.c au6 (.c atY (.c ay9 .n)))
theorem aD1:Q2 73 (S []) ay2 tO:=Tk (.c atV (.c ay8 .n))
theorem aw9:Q1 43 tO tO:=Tk (.c aD1 .n)
theorem aKE:Q1 20 (A [B false,S [W 4],S [W 5]]) tO:=Tk (.c aw9 .n)
theorem aD0:Q3 42 (B true) (S [W 4]) (S [W 5]) (A [B true,S [W 4],S [W 5]]):=Tk (.c aDD (.c axG (.c at3 .n)))
theorem aCZ:Q1 121 (A [B true,S [W 4],S [W 5]]) (A [B true,S [W 4],S [W 5]]):=Tk (.c aD0 .n)
def aJ4:D:=A [I 0,I 0,I 0,I 0,I 0,I 0,I 0,I 0,B true,S [W 4],S [W 5]]
theorem aKD:Q2 73 aX aJ4 asL:=Tk (.c aCZ (.c ua5 (.c ayC (.c atW (.c atD (.c aDF (.c aDE (.c ayB (.c atX (.c ayA .n))))))))))
theorem aKC:Q2 21 aX tO asL:=Tk (.c atF (.c atV (.c au2 (.c ayC (.c atD (.c aD0 (.c aCZ (.c aKD .n))))))))
theorem aCY:Q2 208 tO (I 0) (B true):=Tk (.c aw9 (.c ay8 .n))
theorem aKB:Q2 44 (S []) tO tO:=Tk (.c aD1 .n)
theorem aCX:Q2 208 asL (I 0) (B true):=Tk (.c awD (.c ayA .n))
theorem aCW:Q2 124 (S [W 4]) (S [W 5]) (S [W 20]):=Tk .n
theorem aw8:Q2 124 (S [W 5]) (S [W 5]) (S [W 25]):=Tk .n
theorem aKA:Q2 72 (S [W 25]) (S [W 25]) (U [S [W 1],S [],I 0]):=Tk .n
theorem aw7:Q3 42 (B false) (S [W 25]) (S [W 25]) (A [B false,S [W 1],S [W 1]]):=Tk (.c aKA .n)
theorem aK9:Q2 44 tO asL aX:=Tk (.c atX (.c atV (.c atW (.c aCW (.c aw8 (.c aw7 (.c ua5 (.c ua6 .n))))))))
theorem aCV:Q2 208 vY (I 0) (B true):=Tk (.c awA (.c ay4 .n))
theorem aK8:Q2 44 (S []) vY vY:=Tk (.c aD4 .n)
theorem aCU:Q2 208 aaD (I 0) (B true):=Tk (.c awB (.c ay6 .n))
theorem aCT:Q2 124 (S [W 2]) (S [W 5]) (S [W 10]):=Tk .n
theorem aCS:Q2 124 (S [W 3]) (S [W 5]) (S [W 15]):=Tk .n
theorem aK7:Q2 44 vY aaD aX:=Tk (.c atU (.c atT (.c aCT (.c aCS (.c aw8 (.c aw7 (.c ua5 (.c ua6 .n))))))))
theorem aK6:Q2 44 (S []) aaD aaD:=Tk (.c aD9 .n)
theorem aK5:Q2 44 aaD vY aX:=Tk (.c atT (.c atU (.c aCS (.c aCT (.c aw8 (.c aw7 (.c ua5 (.c ua6 .n))))))))
theorem aK4:Q2 44 (S []) asL asL:=Tk (.c aDI .n)
theorem aK3:Q2 44 asL tO aX:=Tk (.c atV (.c atX (.c aCW (.c atW (.c aw8 (.c aw7 (.c ua5 (.c ua6 .n))))))))
theorem aK2:Q5 198 (B false) (S []) (B false) (S [W 4]) (S [W 5]) (A [B false,S [W 4],S [W 5]]):=Tk (.c aE6 .n)
theorem aK1:Q1 112 tO tO:=Tk (.c at0 (.c auO (.c awG (.c aNP (.c atZ (.c aK2 (.c awI (.c asN .n))))))))
theorem aCR:Q1 68 tO (U [tO,I 0]):=Tk (.c aK1 .n)
theorem aCQ:Q1 245 tO (I 0):=Tk .n
theorem aCP:Q2 246 tO (I 0) (I 0):=Tk .n
theorem aCO:Q2 246 tO (I 1) (I 0):=Tk .n
theorem aCN:Q2 246 tO (I 2) (I 0):=Tk .n
theorem aCM:Q2 246 tO (I 3) (I 0):=Tk .n
theorem aCL:Q2 246 tO (I 4) (I 0):=Tk .n
theorem aCK:Q2 246 tO (I 5) (I 0):=Tk .n
theorem aCJ:Q2 246 tO (I 6) (I 0):=Tk .n
theorem aCI:Q2 246 tO (I 7) (I 0):=Tk .n
theorem aCH:Q1 185 (A [B false,S [W 4],S [W 5]]) (A [B false,S [W 4],S [W 5]]):=Tk (.c auO .n)
theorem aK0:Q1 147 tO tO:=Tk (.c aCH (.c awI (.c asN .n)))
theorem aJZ:Q2 247 (S []) tO tO:=Tk (.c aK0 .n)
theorem aJY:Q5 198 (B false) (S []) (B false) (S [W 1]) (S [W 5]) (A [B false,S [W 1],S [W 5]]):=Tk (.c atM (.c aE7 .n))
theorem aJX:Q1 112 asL asL:=Tk (.c at0 (.c auP (.c awG (.c au4 (.c atZ (.c aJY (.c awF (.c asN .n))))))))
theorem aCG:Q1 68 asL (U [asL,I 0]):=Tk (.c aJX .n)
theorem aCF:Q1 245 asL (I 0):=Tk .n
theorem aCE:Q2 246 asL (I 0) (I 0):=Tk .n
theorem aCD:Q2 246 asL (I 1) (I 0):=Tk .n
theorem aCC:Q2 246 asL (I 2) (I 0):=Tk .n
theorem aCB:Q2 246 asL (I 3) (I 0):=Tk .n
theorem aCA:Q2 246 asL (I 4) (I 0):=Tk .n
theorem aC9:Q2 246 asL (I 5) (I 0):=Tk .n
theorem aC8:Q2 246 asL (I 6) (I 0):=Tk .n
theorem aC7:Q2 246 asL (I 7) (I 0):=Tk .n
theorem aC6:Q2 196 (S [W 4]) (S [W 5]) (S [W 20]):=Tk .n
theorem aw6:Q2 196 (S [W 5]) (S [W 5]) (S [W 25]):=Tk .n
theorem aJW:Q1 189 (S [W 25]) (S [W 25]):=Tk .n
theorem aw5:Q3 149 (B false) (S [W 25]) (S [W 25]) (A [B false,S [W 1],S [W 1]]):=Tk (.c aJW (.c at4 .n))
theorem aJV:Q1 147 (S [ay2,ay3]) aX:=Tk (.c aCH (.c auO (.c auP (.c aC6 (.c atZ (.c aw6 (.c aw5 (.c at2 (.c at1 .n)))))))))
theorem aJU:Q2 247 tO asL aX:=Tk (.c aJV .n)
theorem aJT:Q5 198 (B false) (S []) (B false) (S [W 3]) (S [W 5]) (A [B false,S [W 3],S [W 5]]):=Tk (.c aDW (.c aE2 .n))
theorem aw4:Q1 157 (A [B false,S [W 3],S [W 5]]) (I 1):=Tk (.c auM .n)
theorem aJS:Q1 112 vY vY:=Tk (.c at0 (.c auM (.c awG (.c aE1 (.c atZ (.c aJT (.c aw4 (.c asN .n))))))))
theorem aC5:Q1 68 vY (U [vY,I 0]):=Tk (.c aJS .n)
theorem aC4:Q1 245 vY (I 0):=Tk .n
theorem aC3:Q2 246 vY (I 0) (I 0):=Tk .n
theorem aC2:Q2 246 vY (I 1) (I 0):=Tk .n
theorem aC1:Q2 246 vY (I 2) (I 0):=Tk .n
theorem aC0:Q2 246 vY (I 3) (I 0):=Tk .n
theorem aBZ:Q2 246 vY (I 4) (I 0):=Tk .n
theorem aBY:Q2 246 vY (I 5) (I 0):=Tk .n
theorem aBX:Q2 246 vY (I 6) (I 0):=Tk .n
theorem aBW:Q2 246 vY (I 7) (I 0):=Tk .n
theorem aBV:Q1 185 (A [B false,S [W 3],S [W 5]]) (A [B false,S [W 3],S [W 5]]):=Tk (.c auM .n)
theorem aJR:Q2 247 (S []) vY vY:=Tk (.c aBV (.c aw4 (.c asN .n)))
theorem aJQ:Q5 198 (B false) (S []) (B false) (S [W 2]) (S [W 5]) (A [B false,S [W 2],S [W 5]]):=Tk (.c aFJ (.c aE5 .n))
theorem aJP:Q1 112 aaD aaD:=Tk (.c at0 (.c auN (.c awG (.c aFK (.c atZ (.c aJQ (.c awH (.c asN .n))))))))
theorem aBU:Q1 68 aaD (U [aaD,I 0]):=Tk (.c aJP .n)
theorem aBT:Q1 245 aaD (I 0):=Tk .n
theorem aBS:Q2 246 aaD (I 0) (I 0):=Tk .n
theorem aBR:Q2 246 aaD (I 1) (I 0):=Tk .n
theorem aBQ:Q2 246 aaD (I 2) (I 0):=Tk .n
theorem aBP:Q2 246 aaD (I 3) (I 0):=Tk .n
theorem aBO:Q2 246 aaD (I 4) (I 0):=Tk .n
theorem aBN:Q2 246 aaD (I 5) (I 0):=Tk .n
theorem aBM:Q2 246 aaD (I 6) (I 0):=Tk .n
theorem aBL:Q2 246 aaD (I 7) (I 0):=Tk .n
theorem aJO:Q1 147 (S [ay0,ay1]) aX:=Tk (.c aBV (.c auM (.c auN (.c aE3 (.c aE4 (.c aw6 (.c aw5 (.c at2 (.c at1 .n)))))))))
theorem aJN:Q2 247 vY aaD aX:=Tk (.c aJO .n)
theorem aBK:Q1 185 (A [B false,S [W 2],S [W 5]]) (A [B false,S [W 2],S [W 5]]):=Tk (.c auN .n)
theorem aJM:Q2 247 (S []) aaD aaD:=Tk (.c aBK (.c awH (.c asN .n)))
theorem aJL:Q2 156 (A [B false,S [W 2],S [W 5]]) (A [B false,S [W 3],S [W 5]]) (A [B false,S [W 1],S [W 1]]):=Tk (.c auN (.c auM (.c aE4 (.c aE3 (.c aw6 (.c aw5 .n))))))
theorem aJK:Q2 247 aaD vY aX:=Tk (.c aBK (.c aJL (.c at2 (.c at1 .n))))
theorem aBJ:Q1 185 (A [B false,S [W 1],S [W 5]]) (A [B false,S [W 1],S [W 5]]):=Tk (.c auP .n)
theorem aJJ:Q2 247 (S []) asL asL:=Tk (.c aBJ (.c awF (.c asN .n)))
theorem aJI:Q2 156 (A [B false,S [W 1],S [W 5]]) (A [B false,S [W 4],S [W 5]]) (A [B false,S [W 1],S [W 1]]):=Tk (.c auP (.c auO (.c atZ (.c aC6 (.c aw6 (.c aw5 .n))))))
theorem aJH:Q2 247 asL tO aX:=Tk (.c aBJ (.c aJI (.c at2 (.c at1 .n))))
theorem aJF:Q2 19 (I 5) (I 5) (U [A [B false,S [W 1],S [W 1]],I 0]):=Tk (.c atY (.c aDL .n))
end Go.Proofs.YtncfpmehhfdipaaGreat
namespace Go.Proofs.YtncfpmehhfdipaaGreat
open Go.IntWalk
attribute [local irreducible] au
set_option maxHeartbeats 4000000
set_option maxRecDepth 100000
def p0:D := .slice []
def pl (n d:Nat):D := .slice [.agg [.int .i64 0,.int .i64 0,.int .i64 0,.int .i64 0,.int .i64 0,.int .i64 0,.int .i64 0,.int .i64 0,.bool false,.slice [.int .u32 n],.slice [.int .u32 d]]]
def w0:List D:=[pl 1 2,p0,pl 1 2]
def w1:List D:=[pl 1 2,pl 1 4,pl 1 4]
def w2:List D:=[pl 1 3,pl 1 3,pl 1 3]
def w3:List D:=[pl 1 3,pl 1 2,pl 1 6]
def w4:List D:=[pl 1 4,pl 1 2,pl 1 4]
def w5:List D:=[pl 1 4,pl 5 8,pl 1 8]
def w6:List D:=[pl 1 1,p0]
def w7:List D:=[p0,pl 1 1]
def w8:List D:=[pl 1 2,pl 1 2]
def w9:List D:=[pl 2 3,pl 1 3]
def w10:List D:=[pl 1 3,pl 2 3]
def w11:List D:=[pl 3 4,pl 1 4]
def w12:List D:=[pl 1 4,pl 3 4]
def w13:List D:=[pl 4 5,pl 1 5]
def w14:List D:=[pl 3 5,pl 2 5]
def w15:List D:=[pl 2 5,pl 3 5]
def w16:List D:=[pl 1 5,pl 4 5]
def W0:List (List D):=[w0,w1,w2,w3,w4,w5,w6,w7,w8,w9,w10,w11,w12,w13,w14,w15,w16]
theorem md {P:List D->Prop} (h:P w0/\P w1/\P w2/\P w3/\P w4/\P w5/\P w6/\P w7/\P w8/\P w9/\P w10/\P w11/\P w12/\P w13/\P w14/\P w15/\P w16) : ∀ w∈W0,P w:=by
 intro w hw
 simp only [W0,List.mem_cons,List.not_mem_nil,or_false] at hw
 obtain ⟨g0,g1,g2,g3,g4,g5,g6,g7,g8,g9,g10,g11,g12,g13,g14,g15,g16⟩:=h
 rcases hw with rfl | rfl | rfl | rfl | rfl | rfl | rfl | rfl | rfl | rfl | rfl | rfl | rfl | rfl | rfl | rfl | rfl
 all_goals assumption
theorem uo (cs:List Ce) (lo:Int) (h1 : -1<=lo) (h2:lo<=1):Ret VP (.fn 167) [.d (scR 0 cs),.d (dsD 1 lo w0)] [] (.d (.bool true)) []:=by
 have hb:=bu
 have t1:¬ lo < -1000:=by omega
 have t2:¬ lo > IntKind.i64.wrap (IntKind.i64.wrap (1000 - (3:Int))+1):=by ((try simp only [decide_eq_true_eq,gt_iff_lt]);(try simp (disch:=omega) only [i64_in]);try omega)
 refine ret_of rfl rfl (r0 ?_)
 (have hz1:=decide_eq_false t1;have hz2:=decide_eq_false t2;have hz3:=asW;have hz4:=avI;have hz5:=ayT;have hz6:=azF;have hz7:=azD;have hz8:=azE;have hz9:=aQ6;have hz10:=aGR;have hz11:=asV;refine Z2 ?_)
 rfl
theorem um (cs:List Ce) (lo:Int) (h1 : -1<=lo) (h2:lo<=1):Ret VP (.fn 167) [.d (scR 0 cs),.d (dsD 1 lo w1)] [] (.d (.bool true)) []:=by
 have hb:=bu
 have t1:¬ lo < -1000:=by omega
 have t2:¬ lo > IntKind.i64.wrap (IntKind.i64.wrap (1000 - (3:Int))+1):=by ((try simp only [decide_eq_true_eq,gt_iff_lt]);(try simp (disch:=omega) only [i64_in]);try omega)
 refine ret_of rfl rfl (r0 ?_)
 (have hz12:=decide_eq_false t1;have hz13:=decide_eq_false t2;have hz14:=asW;have hz15:=avI;have hz16:=ayT;have hz17:=azF;have hz18:=avH;have hz19:=ayD;have hz20:=aQ4;have hz21:=azC;have hz22:=asV;refine Z2 ?_)
 rfl
theorem ul (cs:List Ce) (lo:Int) (h1 : -1<=lo) (h2:lo<=1):Ret VP (.fn 167) [.d (scR 0 cs),.d (dsD 1 lo w2)] [] (.d (.bool true)) []:=by
 have hb:=bu
 have t1:¬ lo < -1000:=by omega
 have t2:¬ lo > IntKind.i64.wrap (IntKind.i64.wrap (1000 - (3:Int))+1):=by ((try simp only [decide_eq_true_eq,gt_iff_lt]);(try simp (disch:=omega) only [i64_in]);try omega)
 refine ret_of rfl rfl (r0 ?_)
 (have hz23:=decide_eq_false t1;have hz24:=decide_eq_false t2;have hz25:=asW;have hz26:=ax4;have hz27:=azT;have hz28:=azB;have hz29:=aQ1;have hz30:=aGL;have hz31:=asV;refine Z2 ?_)
 rfl
theorem uk (cs:List Ce) (lo:Int) (h1 : -1<=lo) (h2:lo<=1):Ret VP (.fn 167) [.d (scR 0 cs),.d (dsD 1 lo w3)] [] (.d (.bool true)) []:=by
 have hb:=bu
 have t1:¬ lo < -1000:=by omega
 have t2:¬ lo > IntKind.i64.wrap (IntKind.i64.wrap (1000 - (3:Int))+1):=by ((try simp only [decide_eq_true_eq,gt_iff_lt]);(try simp (disch:=omega) only [i64_in]);try omega)
 refine ret_of rfl rfl (r0 ?_)
 (have hz32:=decide_eq_false t1;have hz33:=decide_eq_false t2;have hz34:=asW;have hz35:=ax4;have hz36:=azT;have hz37:=azB;have hz38:=avI;have hz39:=ayT;have hz40:=aPY;have hz41:=aPX;have hz42:=azL;have hz43:=aPU;have hz44:=asV;refine Z2 ?_)
 rfl
theorem uj (cs:List Ce) (lo:Int) (h1 : -1<=lo) (h2:lo<=1):Ret VP (.fn 167) [.d (scR 0 cs),.d (dsD 1 lo w4)] [] (.d (.bool true)) []:=by
 have hb:=bu
 have t1:¬ lo < -1000:=by omega
 have t2:¬ lo > IntKind.i64.wrap (IntKind.i64.wrap (1000 - (3:Int))+1):=by ((try simp only [decide_eq_true_eq,gt_iff_lt]);(try simp (disch:=omega) only [i64_in]);try omega)
 refine ret_of rfl rfl (r0 ?_)
 (have hz45:=decide_eq_false t1;have hz46:=decide_eq_false t2;have hz47:=asW;have hz48:=avH;have hz49:=ayD;have hz50:=azA;have hz51:=avI;have hz52:=ayT;have hz53:=aPT;have hz54:=azC;have hz55:=asV;refine Z2 ?_)
 rfl
theorem ui (cs:List Ce) (lo:Int) (h1 : -1<=lo) (h2:lo<=1):Ret VP (.fn 167) [.d (scR 0 cs),.d (dsD 1 lo w5)] [] (.d (.bool true)) []:=by
 have hb:=bu
 have t1:¬ lo < -1000:=by omega
 have t2:¬ lo > IntKind.i64.wrap (IntKind.i64.wrap (1000 - (3:Int))+1):=by ((try simp only [decide_eq_true_eq,gt_iff_lt]);(try simp (disch:=omega) only [i64_in]);try omega)
 refine ret_of rfl rfl (r0 ?_)
 (have hz56:=decide_eq_false t1;have hz57:=decide_eq_false t2;have hz58:=asW;have hz59:=avH;have hz60:=ayD;have hz61:=azA;have hz62:=aN3;have hz63:=aEZ;have hz64:=aMZ;have hz65:=aMY;have hz66:=ayJ;have hz67:=aMU;have hz68:=asV;refine Z2 ?_)
 rfl
theorem uh (cs:List Ce) (lo:Int) (h1 : -1<=lo) (h2:lo<=1):Ret VP (.fn 167) [.d (scR 0 cs),.d (dsD 1 lo w6)] [] (.d (.bool true)) []:=by
 have hb:=bu
 have t1:¬ lo < -1000:=by omega
 have t2:¬ lo > IntKind.i64.wrap (IntKind.i64.wrap (1000 - (2:Int))+1):=by ((try simp only [decide_eq_true_eq,gt_iff_lt]);(try simp (disch:=omega) only [i64_in]);try omega)
 refine ret_of rfl rfl (r0 ?_)
 (have hz69:=decide_eq_false t1;have hz70:=decide_eq_false t2;have hz71:=asW;have hz72:=aEU;have hz73:=ua8;have hz74:=aET;have hz75:=azD;have hz76:=azE;have hz77:=aNA;have hz78:=asV;refine Z2 ?_)
 rfl
theorem ug (cs:List Ce) (lo:Int) (h1 : -1<=lo) (h2:lo<=1):Ret VP (.fn 167) [.d (scR 0 cs),.d (dsD 1 lo w7)] [] (.d (.bool true)) []:=by
 have hb:=bu
 have t1:¬ lo < -1000:=by omega
 have t2:¬ lo > IntKind.i64.wrap (IntKind.i64.wrap (1000 - (2:Int))+1):=by ((try simp only [decide_eq_true_eq,gt_iff_lt]);(try simp (disch:=omega) only [i64_in]);try omega)
 refine ret_of rfl rfl (r0 ?_)
 (have hz79:=decide_eq_false t1;have hz80:=decide_eq_false t2;have hz81:=asW;have hz82:=azD;have hz83:=azE;have hz84:=aMT;have hz85:=aEU;have hz86:=ua8;have hz87:=aET;have hz88:=asV;refine Z2 ?_)
 rfl
theorem uf (cs:List Ce) (lo:Int) (h1 : -1<=lo) (h2:lo<=1):Ret VP (.fn 167) [.d (scR 0 cs),.d (dsD 1 lo w8)] [] (.d (.bool true)) []:=by
 have hb:=bu
 have t1:¬ lo < -1000:=by omega
 have t2:¬ lo > IntKind.i64.wrap (IntKind.i64.wrap (1000 - (2:Int))+1):=by ((try simp only [decide_eq_true_eq,gt_iff_lt]);(try simp (disch:=omega) only [i64_in]);try omega)
 refine ret_of rfl rfl (r0 ?_)
 (have hz89:=decide_eq_false t1;have hz90:=decide_eq_false t2;have hz91:=asW;have hz92:=avI;have hz93:=ayT;have hz94:=azF;have hz95:=aGR;have hz96:=asV;refine Z2 ?_)
 rfl
theorem ue (cs:List Ce) (lo:Int) (h1 : -1<=lo) (h2:lo<=1):Ret VP (.fn 167) [.d (scR 0 cs),.d (dsD 1 lo w9)] [] (.d (.bool true)) []:=by
 have hb:=bu
 have t1:¬ lo < -1000:=by omega
 have t2:¬ lo > IntKind.i64.wrap (IntKind.i64.wrap (1000 - (2:Int))+1):=by ((try simp only [decide_eq_true_eq,gt_iff_lt]);(try simp (disch:=omega) only [i64_in]);try omega)
 refine ret_of rfl rfl (r0 ?_)
 (have hz97:=decide_eq_false t1;have hz98:=decide_eq_false t2;have hz99:=asW;have hz100:=aE8;have hz101:=awK;have hz102:=aLJ;have hz103:=ax4;have hz104:=azT;have hz105:=aGL;have hz106:=asV;refine Z2 ?_)
 rfl
theorem rH (cs:List Ce) (lo:Int) (h1 : -1<=lo) (h2:lo<=1):Ret VP (.fn 167) [.d (scR 0 cs),.d (dsD 1 lo w10)] [] (.d (.bool true)) []:=by
 have hb:=bu
 have t1:¬ lo < -1000:=by omega
 have t2:¬ lo > IntKind.i64.wrap (IntKind.i64.wrap (1000 - (2:Int))+1):=by ((try simp only [decide_eq_true_eq,gt_iff_lt]);(try simp (disch:=omega) only [i64_in]);try omega)
 refine ret_of rfl rfl (r0 ?_)
 (have hz107:=decide_eq_false t1;have hz108:=decide_eq_false t2;have hz109:=asW;have hz110:=ax4;have hz111:=azT;have hz112:=azB;have hz113:=aE8;have hz114:=awK;have hz115:=aLI;have hz116:=asV;refine Z2 ?_)
 rfl
theorem rG (cs:List Ce) (lo:Int) (h1 : -1<=lo) (h2:lo<=1):Ret VP (.fn 167) [.d (scR 0 cs),.d (dsD 1 lo w11)] [] (.d (.bool true)) []:=by
 have hb:=bu
 have t1:¬ lo < -1000:=by omega
 have t2:¬ lo > IntKind.i64.wrap (IntKind.i64.wrap (1000 - (2:Int))+1):=by ((try simp only [decide_eq_true_eq,gt_iff_lt]);(try simp (disch:=omega) only [i64_in]);try omega)
 refine ret_of rfl rfl (r0 ?_)
 (have hz117:=decide_eq_false t1;have hz118:=decide_eq_false t2;have hz119:=asW;have hz120:=aDX;have hz121:=awE;have hz122:=aL3;have hz123:=avH;have hz124:=ayD;have hz125:=azC;have hz126:=asV;refine Z2 ?_)
 rfl
theorem rF (cs:List Ce) (lo:Int) (h1 : -1<=lo) (h2:lo<=1):Ret VP (.fn 167) [.d (scR 0 cs),.d (dsD 1 lo w12)] [] (.d (.bool true)) []:=by
 have hb:=bu
 have t1:¬ lo < -1000:=by omega
 have t2:¬ lo > IntKind.i64.wrap (IntKind.i64.wrap (1000 - (2:Int))+1):=by ((try simp only [decide_eq_true_eq,gt_iff_lt]);(try simp (disch:=omega) only [i64_in]);try omega)
 refine ret_of rfl rfl (r0 ?_)
 (have hz127:=decide_eq_false t1;have hz128:=decide_eq_false t2;have hz129:=asW;have hz130:=avH;have hz131:=ayD;have hz132:=azA;have hz133:=aDX;have hz134:=awE;have hz135:=aL2;have hz136:=asV;refine Z2 ?_)
 rfl
theorem rE (cs:List Ce) (lo:Int) (h1 : -1<=lo) (h2:lo<=1):Ret VP (.fn 167) [.d (scR 0 cs),.d (dsD 1 lo w13)] [] (.d (.bool true)) []:=by
 have hb:=bu
 have t1:¬ lo < -1000:=by omega
 have t2:¬ lo > IntKind.i64.wrap (IntKind.i64.wrap (1000 - (2:Int))+1):=by ((try simp only [decide_eq_true_eq,gt_iff_lt]);(try simp (disch:=omega) only [i64_in]);try omega)
 refine ret_of rfl rfl (r0 ?_)
 (have hz137:=decide_eq_false t1;have hz138:=decide_eq_false t2;have hz139:=asW;have hz140:=aCY;have hz141:=aw9;have hz142:=aKB;have hz143:=aCX;have hz144:=awD;have hz145:=aK9;have hz146:=asV;refine Z2 ?_)
 rfl
theorem rD (cs:List Ce) (lo:Int) (h1 : -1<=lo) (h2:lo<=1):Ret VP (.fn 167) [.d (scR 0 cs),.d (dsD 1 lo w14)] [] (.d (.bool true)) []:=by
 have hb:=bu
 have t1:¬ lo < -1000:=by omega
 have t2:¬ lo > IntKind.i64.wrap (IntKind.i64.wrap (1000 - (2:Int))+1):=by ((try simp only [decide_eq_true_eq,gt_iff_lt]);(try simp (disch:=omega) only [i64_in]);try omega)
 refine ret_of rfl rfl (r0 ?_)
 (have hz147:=decide_eq_false t1;have hz148:=decide_eq_false t2;have hz149:=asW;have hz150:=aCV;have hz151:=awA;have hz152:=aK8;have hz153:=aCU;have hz154:=awB;have hz155:=aK7;have hz156:=asV;refine Z2 ?_)
 rfl
theorem rC (cs:List Ce) (lo:Int) (h1 : -1<=lo) (h2:lo<=1):Ret VP (.fn 167) [.d (scR 0 cs),.d (dsD 1 lo w15)] [] (.d (.bool true)) []:=by
 have hb:=bu
 have t1:¬ lo < -1000:=by omega
 have t2:¬ lo > IntKind.i64.wrap (IntKind.i64.wrap (1000 - (2:Int))+1):=by ((try simp only [decide_eq_true_eq,gt_iff_lt]);(try simp (disch:=omega) only [i64_in]);try omega)
 refine ret_of rfl rfl (r0 ?_)
 (have hz157:=decide_eq_false t1;have hz158:=decide_eq_false t2;have hz159:=asW;have hz160:=aCU;have hz161:=awB;have hz162:=aK6;have hz163:=aCV;have hz164:=awA;have hz165:=aK5;have hz166:=asV;refine Z2 ?_)
 rfl
theorem rB (cs:List Ce) (lo:Int) (h1 : -1<=lo) (h2:lo<=1):Ret VP (.fn 167) [.d (scR 0 cs),.d (dsD 1 lo w16)] [] (.d (.bool true)) []:=by
 have hb:=bu
 have t1:¬ lo < -1000:=by omega
 have t2:¬ lo > IntKind.i64.wrap (IntKind.i64.wrap (1000 - (2:Int))+1):=by ((try simp only [decide_eq_true_eq,gt_iff_lt]);(try simp (disch:=omega) only [i64_in]);try omega)
 refine ret_of rfl rfl (r0 ?_)
 (have hz167:=decide_eq_false t1;have hz168:=decide_eq_false t2;have hz169:=asW;have hz170:=aCX;have hz171:=awD;have hz172:=aK4;have hz173:=aCY;have hz174:=aw9;have hz175:=aK3;have hz176:=asV;refine Z2 ?_)
 rfl
theorem Jh (cs:List Ce) (lo:Int) (h1 : -1<=lo) (h2:lo<=1) : ∀ w∈W0,Ret VP (.fn 167) [.d (scR 0 cs),.d (dsD 1 lo w)] [] (.d (.bool true)) [] :=
 md ⟨uo cs lo h1 h2,um cs lo h1 h2,ul cs lo h1 h2,uk cs lo h1 h2,uj cs lo h1 h2,ui cs lo h1 h2,uh cs lo h1 h2,ug cs lo h1 h2,uf cs lo h1 h2,ue cs lo h1 h2,rH cs lo h1 h2,rG cs lo h1 h2,rF cs lo h1 h2,rE cs lo h1 h2,rD cs lo h1 h2,rC cs lo h1 h2,rB cs lo h1 h2⟩
theorem p8 (cs:List Ce):Ret VP (.fn 213) [.d (scP 0 cs),.d (.slice w0)] [] (.d (.bool true)) []:=by
 refine ret_of rfl rfl (r0 ?_)
 (have hz1:=avF;have hz2:=avE;have hz3:=avD;have hz4:=avC;have hz5:=avB;have hz6:=avA;have hz7:=av9;have hz8:=av8;have hz9:=av7;have hz10:=av6;have hz11:=atL;have hz12:=az6;have hz13:=az5;have hz14:=az4;have hz15:=az3;have hz16:=az2;have hz17:=az1;have hz18:=az0;have hz19:=ayZ;have hz20:=ayY;have hz21:=ayX;have hz22:=ayW;have hz23:=aPK;have hz24:=aGB;have hz25:=asU;refine Z2 ?_)
 rfl
theorem Jg (cs:List Ce) (c:Ce) (hc:c.Ok) (lo:Int) (h1 : -1<=lo) (h2:lo<=1):Ret VP (.fn 175) [.d (scP 0 cs),.d (dsD 1 lo w0),.d c.d] [] (.d (.bool true)) []:=by
 have hb:=bS
 have hw:=p8 cs
 have t1:lo >= -1000:=by omega
 have t2:lo<=IntKind.i64.wrap (IntKind.i64.wrap (1000 - (3:Int))+1):=by ((try simp only [decide_eq_true_eq,gt_iff_lt]);(try simp (disch:=omega) only [i64_in]);try omega)
 rcases hc with rfl | ⟨u,v,rfl,_⟩
 all_goals (refine ret_of rfl rfl (r0 ?_);(have hz26:=decide_eq_true t1;have hz27:=decide_eq_true t2;refine Z2 ?_);rfl)
theorem p7 (cs:List Ce):Ret VP (.fn 213) [.d (scP 0 cs),.d (.slice w1)] [] (.d (.bool true)) []:=by
 refine ret_of rfl rfl (r0 ?_)
 (have hz28:=avF;have hz29:=avE;have hz30:=avD;have hz31:=avC;have hz32:=avB;have hz33:=avA;have hz34:=av9;have hz35:=av8;have hz36:=av7;have hz37:=av6;have hz38:=atL;have hz39:=az6;have hz40:=av4;have hz41:=av3;have hz42:=av2;have hz43:=av1;have hz44:=av0;have hz45:=auZ;have hz46:=auY;have hz47:=auX;have hz48:=auW;have hz49:=auV;have hz50:=atJ;have hz51:=aOZ;have hz52:=ayP;have hz53:=asU;refine Z2 ?_)
 rfl
theorem Jf (cs:List Ce) (c:Ce) (hc:c.Ok) (lo:Int) (h1 : -1<=lo) (h2:lo<=1):Ret VP (.fn 175) [.d (scP 0 cs),.d (dsD 1 lo w1),.d c.d] [] (.d (.bool true)) []:=by
 have hb:=bS
 have hw:=p7 cs
 have t1:lo >= -1000:=by omega
 have t2:lo<=IntKind.i64.wrap (IntKind.i64.wrap (1000 - (3:Int))+1):=by ((try simp only [decide_eq_true_eq,gt_iff_lt]);(try simp (disch:=omega) only [i64_in]);try omega)
 rcases hc with rfl | ⟨u,v,rfl,_⟩
 all_goals (refine ret_of rfl rfl (r0 ?_);(have hz54:=decide_eq_true t1;have hz55:=decide_eq_true t2;refine Z2 ?_);rfl)
theorem p6 (cs:List Ce):Ret VP (.fn 213) [.d (scP 0 cs),.d (.slice w2)] [] (.d (.bool true)) []:=by
 refine ret_of rfl rfl (r0 ?_)
 (have hz56:=ax0;have hz57:=awZ;have hz58:=awY;have hz59:=awX;have hz60:=awW;have hz61:=awV;have hz62:=awU;have hz63:=awT;have hz64:=awS;have hz65:=awR;have hz66:=au0;have hz67:=ayO;have hz68:=aOJ;have hz69:=aFR;have hz70:=asU;refine Z2 ?_)
 rfl
theorem Je (cs:List Ce) (c:Ce) (hc:c.Ok) (lo:Int) (h1 : -1<=lo) (h2:lo<=1):Ret VP (.fn 175) [.d (scP 0 cs),.d (dsD 1 lo w2),.d c.d] [] (.d (.bool true)) []:=by
 have hb:=bS
 have hw:=p6 cs
 have t1:lo >= -1000:=by omega
 have t2:lo<=IntKind.i64.wrap (IntKind.i64.wrap (1000 - (3:Int))+1):=by ((try simp only [decide_eq_true_eq,gt_iff_lt]);(try simp (disch:=omega) only [i64_in]);try omega)
 rcases hc with rfl | ⟨u,v,rfl,_⟩
 all_goals (refine ret_of rfl rfl (r0 ?_);(have hz71:=decide_eq_true t1;have hz72:=decide_eq_true t2;refine Z2 ?_);rfl)
theorem p5 (cs:List Ce):Ret VP (.fn 213) [.d (scP 0 cs),.d (.slice w3)] [] (.d (.bool true)) []:=by
 refine ret_of rfl rfl (r0 ?_)
 (have hz73:=ax0;have hz74:=awZ;have hz75:=awY;have hz76:=awX;have hz77:=awW;have hz78:=awV;have hz79:=awU;have hz80:=awT;have hz81:=awS;have hz82:=awR;have hz83:=au0;have hz84:=ayO;have hz85:=avF;have hz86:=avE;have hz87:=avD;have hz88:=avC;have hz89:=avB;have hz90:=avA;have hz91:=av9;have hz92:=av8;have hz93:=av7;have hz94:=av6;have hz95:=atL;have hz96:=aOF;have hz97:=aOC;have hz98:=aOB;have hz99:=aOA;have hz100:=aO9;have hz101:=aO8;have hz102:=aO7;have hz103:=aO6;have hz104:=aO5;have hz105:=aO4;have hz106:=aO3;have hz107:=aFL;have hz108:=aNX;have hz109:=asU;refine Z2 ?_)
 rfl
theorem Jd (cs:List Ce) (c:Ce) (hc:c.Ok) (lo:Int) (h1 : -1<=lo) (h2:lo<=1):Ret VP (.fn 175) [.d (scP 0 cs),.d (dsD 1 lo w3),.d c.d] [] (.d (.bool true)) []:=by
 have hb:=bS
 have hw:=p5 cs
 have t1:lo >= -1000:=by omega
 have t2:lo<=IntKind.i64.wrap (IntKind.i64.wrap (1000 - (3:Int))+1):=by ((try simp only [decide_eq_true_eq,gt_iff_lt]);(try simp (disch:=omega) only [i64_in]);try omega)
 rcases hc with rfl | ⟨u,v,rfl,_⟩
 all_goals (refine ret_of rfl rfl (r0 ?_);(have hz110:=decide_eq_true t1;have hz111:=decide_eq_true t2;refine Z2 ?_);rfl)
theorem p4 (cs:List Ce):Ret VP (.fn 213) [.d (scP 0 cs),.d (.slice w4)] [] (.d (.bool true)) []:=by
 refine ret_of rfl rfl (r0 ?_)
 (have hz112:=av4;have hz113:=av3;have hz114:=av2;have hz115:=av1;have hz116:=av0;have hz117:=auZ;have hz118:=auY;have hz119:=auX;have hz120:=auW;have hz121:=auV;have hz122:=atJ;have hz123:=ayK;have hz124:=avF;have hz125:=avE;have hz126:=avD;have hz127:=avC;have hz128:=avB;have hz129:=avA;have hz130:=av9;have hz131:=av8;have hz132:=av7;have hz133:=av6;have hz134:=atL;have hz135:=aNT;have hz136:=ayP;have hz137:=asU;refine Z2 ?_)
 rfl
theorem Jc (cs:List Ce) (c:Ce) (hc:c.Ok) (lo:Int) (h1 : -1<=lo) (h2:lo<=1):Ret VP (.fn 175) [.d (scP 0 cs),.d (dsD 1 lo w4),.d c.d] [] (.d (.bool true)) []:=by
 have hb:=bS
 have hw:=p4 cs
 have t1:lo >= -1000:=by omega
 have t2:lo<=IntKind.i64.wrap (IntKind.i64.wrap (1000 - (3:Int))+1):=by ((try simp only [decide_eq_true_eq,gt_iff_lt]);(try simp (disch:=omega) only [i64_in]);try omega)
 rcases hc with rfl | ⟨u,v,rfl,_⟩
 all_goals (refine ret_of rfl rfl (r0 ?_);(have hz138:=decide_eq_true t1;have hz139:=decide_eq_true t2;refine Z2 ?_);rfl)
theorem pZ (cs:List Ce):Ret VP (.fn 213) [.d (scP 0 cs),.d (.slice w5)] [] (.d (.bool true)) []:=by
 refine ret_of rfl rfl (r0 ?_)
 (have hz140:=av4;have hz141:=av3;have hz142:=av2;have hz143:=av1;have hz144:=av0;have hz145:=auZ;have hz146:=auY;have hz147:=auX;have hz148:=auW;have hz149:=auV;have hz150:=atJ;have hz151:=ayK;have hz152:=aMR;have hz153:=aMQ;have hz154:=aMP;have hz155:=aMO;have hz156:=aMN;have hz157:=aMM;have hz158:=aML;have hz159:=aMK;have hz160:=aMJ;have hz161:=aMI;have hz162:=aEQ;have hz163:=aMC;have hz164:=aMA;have hz165:=aM9;have hz166:=aM8;have hz167:=aM7;have hz168:=aM6;have hz169:=aM5;have hz170:=aM3;have hz171:=aM2;have hz172:=aM1;have hz173:=aM0;have hz174:=aEO;have hz175:=aLW;have hz176:=asU;refine Z2 ?_)
 rfl
theorem Jb (cs:List Ce) (c:Ce) (hc:c.Ok) (lo:Int) (h1 : -1<=lo) (h2:lo<=1):Ret VP (.fn 175) [.d (scP 0 cs),.d (dsD 1 lo w5),.d c.d] [] (.d (.bool true)) []:=by
 have hb:=bS
 have hw:=pZ cs
 have t1:lo >= -1000:=by omega
 have t2:lo<=IntKind.i64.wrap (IntKind.i64.wrap (1000 - (3:Int))+1):=by ((try simp only [decide_eq_true_eq,gt_iff_lt]);(try simp (disch:=omega) only [i64_in]);try omega)
 rcases hc with rfl | ⟨u,v,rfl,_⟩
 all_goals (refine ret_of rfl rfl (r0 ?_);(have hz177:=decide_eq_true t1;have hz178:=decide_eq_true t2;refine Z2 ?_);rfl)
theorem pY (cs:List Ce):Ret VP (.fn 213) [.d (scP 0 cs),.d (.slice w6)] [] (.d (.bool true)) []:=by
 refine ret_of rfl rfl (r0 ?_)
 (have hz179:=aEN;have hz180:=aEM;have hz181:=aEL;have hz182:=aEK;have hz183:=aEJ;have hz184:=aEI;have hz185:=aEH;have hz186:=aEG;have hz187:=aEF;have hz188:=aEE;have hz189:=ax3;have hz190:=aED;have hz191:=az5;have hz192:=az4;have hz193:=az3;have hz194:=az2;have hz195:=az1;have hz196:=az0;have hz197:=ayZ;have hz198:=ayY;have hz199:=ayX;have hz200:=ayW;have hz201:=aLT;have hz202:=asU;refine Z2 ?_)
 rfl
theorem Ja (cs:List Ce) (c:Ce) (hc:c.Ok) (lo:Int) (h1 : -1<=lo) (h2:lo<=1):Ret VP (.fn 175) [.d (scP 0 cs),.d (dsD 1 lo w6),.d c.d] [] (.d (.bool true)) []:=by
 have hb:=bS
 have hw:=pY cs
 have t1:lo >= -1000:=by omega
 have t2:lo<=IntKind.i64.wrap (IntKind.i64.wrap (1000 - (2:Int))+1):=by ((try simp only [decide_eq_true_eq,gt_iff_lt]);(try simp (disch:=omega) only [i64_in]);try omega)
 rcases hc with rfl | ⟨u,v,rfl,_⟩
 all_goals (refine ret_of rfl rfl (r0 ?_);(have hz203:=decide_eq_true t1;have hz204:=decide_eq_true t2;refine Z2 ?_);rfl)
theorem pX (cs:List Ce):Ret VP (.fn 213) [.d (scP 0 cs),.d (.slice w7)] [] (.d (.bool true)) []:=by
 refine ret_of rfl rfl (r0 ?_)
 (have hz205:=az5;have hz206:=az4;have hz207:=az3;have hz208:=az2;have hz209:=az1;have hz210:=az0;have hz211:=ayZ;have hz212:=ayY;have hz213:=ayX;have hz214:=ayW;have hz215:=aLS;have hz216:=aEN;have hz217:=aEM;have hz218:=aEL;have hz219:=aEK;have hz220:=aEJ;have hz221:=aEI;have hz222:=aEH;have hz223:=aEG;have hz224:=aEF;have hz225:=aEE;have hz226:=ax3;have hz227:=aED;have hz228:=asU;refine Z2 ?_)
 rfl
theorem I9 (cs:List Ce) (c:Ce) (hc:c.Ok) (lo:Int) (h1 : -1<=lo) (h2:lo<=1):Ret VP (.fn 175) [.d (scP 0 cs),.d (dsD 1 lo w7),.d c.d] [] (.d (.bool true)) []:=by
 have hb:=bS
 have hw:=pX cs
 have t1:lo >= -1000:=by omega
 have t2:lo<=IntKind.i64.wrap (IntKind.i64.wrap (1000 - (2:Int))+1):=by ((try simp only [decide_eq_true_eq,gt_iff_lt]);(try simp (disch:=omega) only [i64_in]);try omega)
 rcases hc with rfl | ⟨u,v,rfl,_⟩
 all_goals (refine ret_of rfl rfl (r0 ?_);(have hz229:=decide_eq_true t1;have hz230:=decide_eq_true t2;refine Z2 ?_);rfl)
theorem pW (cs:List Ce):Ret VP (.fn 213) [.d (scP 0 cs),.d (.slice w8)] [] (.d (.bool true)) []:=by
 refine ret_of rfl rfl (r0 ?_)
 (have hz231:=avF;have hz232:=avE;have hz233:=avD;have hz234:=avC;have hz235:=avB;have hz236:=avA;have hz237:=av9;have hz238:=av8;have hz239:=av7;have hz240:=av6;have hz241:=atL;have hz242:=az6;have hz243:=aGB;have hz244:=asU;refine Z2 ?_)
 rfl
theorem I8 (cs:List Ce) (c:Ce) (hc:c.Ok) (lo:Int) (h1 : -1<=lo) (h2:lo<=1):Ret VP (.fn 175) [.d (scP 0 cs),.d (dsD 1 lo w8),.d c.d] [] (.d (.bool true)) []:=by
 have hb:=bS
 have hw:=pW cs
 have t1:lo >= -1000:=by omega
 have t2:lo<=IntKind.i64.wrap (IntKind.i64.wrap (1000 - (2:Int))+1):=by ((try simp only [decide_eq_true_eq,gt_iff_lt]);(try simp (disch:=omega) only [i64_in]);try omega)
 rcases hc with rfl | ⟨u,v,rfl,_⟩
 all_goals (refine ret_of rfl rfl (r0 ?_);(have hz245:=decide_eq_true t1;have hz246:=decide_eq_true t2;refine Z2 ?_);rfl)
theorem pV (cs:List Ce):Ret VP (.fn 213) [.d (scP 0 cs),.d (.slice w9)] [] (.d (.bool true)) []:=by
 refine ret_of rfl rfl (r0 ?_)
 (have hz247:=aFI;have hz248:=aFH;have hz249:=aFG;have hz250:=aFF;have hz251:=aFE;have hz252:=aFD;have hz253:=aFC;have hz254:=aFB;have hz255:=aFA;have hz256:=aF9;have hz257:=awP;have hz258:=aNK;have hz259:=ax0;have hz260:=awZ;have hz261:=awY;have hz262:=awX;have hz263:=awW;have hz264:=awV;have hz265:=awU;have hz266:=awT;have hz267:=awS;have hz268:=awR;have hz269:=au0;have hz270:=aFR;have hz271:=asU;refine Z2 ?_)
 rfl
theorem I7 (cs:List Ce) (c:Ce) (hc:c.Ok) (lo:Int) (h1 : -1<=lo) (h2:lo<=1):Ret VP (.fn 175) [.d (scP 0 cs),.d (dsD 1 lo w9),.d c.d] [] (.d (.bool true)) []:=by
 have hb:=bS
 have hw:=pV cs
 have t1:lo >= -1000:=by omega
 have t2:lo<=IntKind.i64.wrap (IntKind.i64.wrap (1000 - (2:Int))+1):=by ((try simp only [decide_eq_true_eq,gt_iff_lt]);(try simp (disch:=omega) only [i64_in]);try omega)
 rcases hc with rfl | ⟨u,v,rfl,_⟩
 all_goals (refine ret_of rfl rfl (r0 ?_);(have hz272:=decide_eq_true t1;have hz273:=decide_eq_true t2;refine Z2 ?_);rfl)
theorem oG (cs:List Ce):Ret VP (.fn 213) [.d (scP 0 cs),.d (.slice w10)] [] (.d (.bool true)) []:=by
 refine ret_of rfl rfl (r0 ?_)
 (have hz274:=ax0;have hz275:=awZ;have hz276:=awY;have hz277:=awX;have hz278:=awW;have hz279:=awV;have hz280:=awU;have hz281:=awT;have hz282:=awS;have hz283:=awR;have hz284:=au0;have hz285:=ayO;have hz286:=aFI;have hz287:=aFH;have hz288:=aFG;have hz289:=aFF;have hz290:=aFE;have hz291:=aFD;have hz292:=aFC;have hz293:=aFB;have hz294:=aFA;have hz295:=aF9;have hz296:=awP;have hz297:=aLG;have hz298:=asU;refine Z2 ?_)
 rfl
theorem xi (cs:List Ce) (c:Ce) (hc:c.Ok) (lo:Int) (h1 : -1<=lo) (h2:lo<=1):Ret VP (.fn 175) [.d (scP 0 cs),.d (dsD 1 lo w10),.d c.d] [] (.d (.bool true)) []:=by
 have hb:=bS
 have hw:=oG cs
 have t1:lo >= -1000:=by omega
 have t2:lo<=IntKind.i64.wrap (IntKind.i64.wrap (1000 - (2:Int))+1):=by ((try simp only [decide_eq_true_eq,gt_iff_lt]);(try simp (disch:=omega) only [i64_in]);try omega)
 rcases hc with rfl | ⟨u,v,rfl,_⟩
 all_goals (refine ret_of rfl rfl (r0 ?_);(have hz299:=decide_eq_true t1;have hz300:=decide_eq_true t2;refine Z2 ?_);rfl)
theorem oF (cs:List Ce):Ret VP (.fn 213) [.d (scP 0 cs),.d (.slice w11)] [] (.d (.bool true)) []:=by
 refine ret_of rfl rfl (r0 ?_)
 (have hz301:=aDV;have hz302:=aDU;have hz303:=aDT;have hz304:=aDS;have hz305:=aDR;have hz306:=aDQ;have hz307:=aDP;have hz308:=aDO;have hz309:=aDN;have hz310:=aDM;have hz311:=ax1;have hz312:=aKY;have hz313:=av4;have hz314:=av3;have hz315:=av2;have hz316:=av1;have hz317:=av0;have hz318:=auZ;have hz319:=auY;have hz320:=auX;have hz321:=auW;have hz322:=auV;have hz323:=atJ;have hz324:=ayP;have hz325:=asU;refine Z2 ?_)
 rfl
theorem xh (cs:List Ce) (c:Ce) (hc:c.Ok) (lo:Int) (h1 : -1<=lo) (h2:lo<=1):Ret VP (.fn 175) [.d (scP 0 cs),.d (dsD 1 lo w11),.d c.d] [] (.d (.bool true)) []:=by
 have hb:=bS
 have hw:=oF cs
 have t1:lo >= -1000:=by omega
 have t2:lo<=IntKind.i64.wrap (IntKind.i64.wrap (1000 - (2:Int))+1):=by ((try simp only [decide_eq_true_eq,gt_iff_lt]);(try simp (disch:=omega) only [i64_in]);try omega)
 rcases hc with rfl | ⟨u,v,rfl,_⟩
 all_goals (refine ret_of rfl rfl (r0 ?_);(have hz326:=decide_eq_true t1;have hz327:=decide_eq_true t2;refine Z2 ?_);rfl)
theorem oE (cs:List Ce):Ret VP (.fn 213) [.d (scP 0 cs),.d (.slice w12)] [] (.d (.bool true)) []:=by
 refine ret_of rfl rfl (r0 ?_)
 (have hz328:=av4;have hz329:=av3;have hz330:=av2;have hz331:=av1;have hz332:=av0;have hz333:=auZ;have hz334:=auY;have hz335:=auX;have hz336:=auW;have hz337:=auV;have hz338:=atJ;have hz339:=ayK;have hz340:=aDV;have hz341:=aDU;have hz342:=aDT;have hz343:=aDS;have hz344:=aDR;have hz345:=aDQ;have hz346:=aDP;have hz347:=aDO;have hz348:=aDN;have hz349:=aDM;have hz350:=ax1;have hz351:=aKW;have hz352:=asU;refine Z2 ?_)
 rfl
theorem xg (cs:List Ce) (c:Ce) (hc:c.Ok) (lo:Int) (h1 : -1<=lo) (h2:lo<=1):Ret VP (.fn 175) [.d (scP 0 cs),.d (dsD 1 lo w12),.d c.d] [] (.d (.bool true)) []:=by
 have hb:=bS
 have hw:=oE cs
 have t1:lo >= -1000:=by omega
 have t2:lo<=IntKind.i64.wrap (IntKind.i64.wrap (1000 - (2:Int))+1):=by ((try simp only [decide_eq_true_eq,gt_iff_lt]);(try simp (disch:=omega) only [i64_in]);try omega)
 rcases hc with rfl | ⟨u,v,rfl,_⟩
 all_goals (refine ret_of rfl rfl (r0 ?_);(have hz353:=decide_eq_true t1;have hz354:=decide_eq_true t2;refine Z2 ?_);rfl)
theorem oB (cs:List Ce):Ret VP (.fn 213) [.d (scP 0 cs),.d (.slice w13)] [] (.d (.bool true)) []:=by
 refine ret_of rfl rfl (r0 ?_)
 (have hz355:=aCR;have hz356:=aCQ;have hz357:=aCP;have hz358:=aCO;have hz359:=aCN;have hz360:=aCM;have hz361:=aCL;have hz362:=aCK;have hz363:=aCJ;have hz364:=aCI;have hz365:=awI;have hz366:=aJZ;have hz367:=aCG;have hz368:=aCF;have hz369:=aCE;have hz370:=aCD;have hz371:=aCC;have hz372:=aCB;have hz373:=aCA;have hz374:=aC9;have hz375:=aC8;have hz376:=aC7;have hz377:=awF;have hz378:=aJU;have hz379:=asU;refine Z2 ?_)
 rfl
theorem xf (cs:List Ce) (c:Ce) (hc:c.Ok) (lo:Int) (h1 : -1<=lo) (h2:lo<=1):Ret VP (.fn 175) [.d (scP 0 cs),.d (dsD 1 lo w13),.d c.d] [] (.d (.bool true)) []:=by
 have hb:=bS
 have hw:=oB cs
 have t1:lo >= -1000:=by omega
 have t2:lo<=IntKind.i64.wrap (IntKind.i64.wrap (1000 - (2:Int))+1):=by ((try simp only [decide_eq_true_eq,gt_iff_lt]);(try simp (disch:=omega) only [i64_in]);try omega)
 rcases hc with rfl | ⟨u,v,rfl,_⟩
 all_goals (refine ret_of rfl rfl (r0 ?_);(have hz380:=decide_eq_true t1;have hz381:=decide_eq_true t2;refine Z2 ?_);rfl)
theorem oA (cs:List Ce):Ret VP (.fn 213) [.d (scP 0 cs),.d (.slice w14)] [] (.d (.bool true)) []:=by
 refine ret_of rfl rfl (r0 ?_)
 (have hz382:=aC5;have hz383:=aC4;have hz384:=aC3;have hz385:=aC2;have hz386:=aC1;have hz387:=aC0;have hz388:=aBZ;have hz389:=aBY;have hz390:=aBX;have hz391:=aBW;have hz392:=aw4;have hz393:=aJR;have hz394:=aBU;have hz395:=aBT;have hz396:=aBS;have hz397:=aBR;have hz398:=aBQ;have hz399:=aBP;have hz400:=aBO;have hz401:=aBN;have hz402:=aBM;have hz403:=aBL;have hz404:=awH;have hz405:=aJN;have hz406:=asU;refine Z2 ?_)
 rfl
theorem xe (cs:List Ce) (c:Ce) (hc:c.Ok) (lo:Int) (h1 : -1<=lo) (h2:lo<=1):Ret VP (.fn 175) [.d (scP 0 cs),.d (dsD 1 lo w14),.d c.d] [] (.d (.bool true)) []:=by
 have hb:=bS
 have hw:=oA cs
 have t1:lo >= -1000:=by omega
 have t2:lo<=IntKind.i64.wrap (IntKind.i64.wrap (1000 - (2:Int))+1):=by ((try simp only [decide_eq_true_eq,gt_iff_lt]);(try simp (disch:=omega) only [i64_in]);try omega)
 rcases hc with rfl | ⟨u,v,rfl,_⟩
 all_goals (refine ret_of rfl rfl (r0 ?_);(have hz407:=decide_eq_true t1;have hz408:=decide_eq_true t2;refine Z2 ?_);rfl)
theorem ow (cs:List Ce):Ret VP (.fn 213) [.d (scP 0 cs),.d (.slice w15)] [] (.d (.bool true)) []:=by
 refine ret_of rfl rfl (r0 ?_)
 (have hz409:=aBU;have hz410:=aBT;have hz411:=aBS;have hz412:=aBR;have hz413:=aBQ;have hz414:=aBP;have hz415:=aBO;have hz416:=aBN;have hz417:=aBM;have hz418:=aBL;have hz419:=awH;have hz420:=aJM;have hz421:=aC5;have hz422:=aC4;have hz423:=aC3;have hz424:=aC2;have hz425:=aC1;have hz426:=aC0;have hz427:=aBZ;have hz428:=aBY;have hz429:=aBX;have hz430:=aBW;have hz431:=aw4;have hz432:=aJK;have hz433:=asU;refine Z2 ?_)
 rfl
theorem xd (cs:List Ce) (c:Ce) (hc:c.Ok) (lo:Int) (h1 : -1<=lo) (h2:lo<=1):Ret VP (.fn 175) [.d (scP 0 cs),.d (dsD 1 lo w15),.d c.d] [] (.d (.bool true)) []:=by
 have hb:=bS
 have hw:=ow cs
 have t1:lo >= -1000:=by omega
 have t2:lo<=IntKind.i64.wrap (IntKind.i64.wrap (1000 - (2:Int))+1):=by ((try simp only [decide_eq_true_eq,gt_iff_lt]);(try simp (disch:=omega) only [i64_in]);try omega)
 rcases hc with rfl | ⟨u,v,rfl,_⟩
 all_goals (refine ret_of rfl rfl (r0 ?_);(have hz434:=decide_eq_true t1;have hz435:=decide_eq_true t2;refine Z2 ?_);rfl)
theorem ou (cs:List Ce):Ret VP (.fn 213) [.d (scP 0 cs),.d (.slice w16)] [] (.d (.bool true)) []:=by
 refine ret_of rfl rfl (r0 ?_)
 (have hz436:=aCG;have hz437:=aCF;have hz438:=aCE;have hz439:=aCD;have hz440:=aCC;have hz441:=aCB;have hz442:=aCA;have hz443:=aC9;have hz444:=aC8;have hz445:=aC7;have hz446:=awF;have hz447:=aJJ;have hz448:=aCR;have hz449:=aCQ;have hz450:=aCP;have hz451:=aCO;have hz452:=aCN;have hz453:=aCM;have hz454:=aCL;have hz455:=aCK;have hz456:=aCJ;have hz457:=aCI;have hz458:=awI;have hz459:=aJH;have hz460:=asU;refine Z2 ?_)
 rfl
theorem wZ (cs:List Ce) (c:Ce) (hc:c.Ok) (lo:Int) (h1 : -1<=lo) (h2:lo<=1):Ret VP (.fn 175) [.d (scP 0 cs),.d (dsD 1 lo w16),.d c.d] [] (.d (.bool true)) []:=by
 have hb:=bS
 have hw:=ou cs
 have t1:lo >= -1000:=by omega
 have t2:lo<=IntKind.i64.wrap (IntKind.i64.wrap (1000 - (2:Int))+1):=by ((try simp only [decide_eq_true_eq,gt_iff_lt]);(try simp (disch:=omega) only [i64_in]);try omega)
 rcases hc with rfl | ⟨u,v,rfl,_⟩
 all_goals (refine ret_of rfl rfl (r0 ?_);(have hz461:=decide_eq_true t1;have hz462:=decide_eq_true t2;refine Z2 ?_);rfl)
theorem ud (cs:List Ce) (c:Ce) (hc:c.Ok) (lo:Int) (h1 : -1<=lo) (h2:lo<=1) : ∀ w∈W0,Ret VP (.fn 175) [.d (scP 0 cs),.d (dsD 1 lo w),.d c.d] [] (.d (.bool true)) [] :=
 md ⟨Jg cs c hc lo h1 h2,Jf cs c hc lo h1 h2,Je cs c hc lo h1 h2,Jd cs c hc lo h1 h2,Jc cs c hc lo h1 h2,Jb cs c hc lo h1 h2,Ja cs c hc lo h1 h2,I9 cs c hc lo h1 h2,I8 cs c hc lo h1 h2,I7 cs c hc lo h1 h2,xi cs c hc lo h1 h2,xh cs c hc lo h1 h2,xg cs c hc lo h1 h2,xf cs c hc lo h1 h2,xe cs c hc lo h1 h2,xd cs c hc lo h1 h2,wZ cs c hc lo h1 h2⟩
end Go.Proofs.YtncfpmehhfdipaaGreat
