/- The table of the compiled functions. Printed by wip/tools. -/
import Derived.Test.YtncfpmehhfdipaaGreatA07
import Derived.Test.YtncfpmehhfdipaaGreatA06
import Derived.IntWalk
set_option linter.unusedSimpArgs false
set_option linter.unusedVariables false
set_option linter.unnecessarySimpa false
namespace Go.Proofs.YtncfpmehhfdipaaGreat
set_option maxRecDepth 10000
inductive LT where
 | l (k:Nat) (f:VFun)
 | n (k:Nat) (a b:LT)
noncomputable def ab0:LT->Nat->Option VFun:=LT.rec (fun k f z=>bif Nat.beq z k then some f else none) (fun k _ _ a b z=>bif Nat.blt z k then a z else b z)
def VT:LT:=(.n 137 (.n 67 (.n 36 (.n 20 (.n 11 (.n 7 (.n 3 (.l 2 f2) (.n 4 (.l 3 f3) (.l 4 f4))) (.n 9 (.n 8 (.l 7 f7) (.l 8 f8)) (.n 10 (.l 9 f9) (.l 10 f10)))) (.n 15 (.n 13 (.n 12 (.l 11 f11) (.l 12 f12)) (.n 14 (.l 13 f13) (.l 14 f14))) (.n 17 (.n 16 (.l 15 f15) (.l 16 f16)) (.n 19 (.l 17 f17) (.l 19 f19))))) (.n 28 (.n 23 (.n 21 (.l 20 f20) (.n 22 (.l 21 f21) (.l 22 f22))) (.n 26 (.n 25 (.l 23 f23) (.l 25 f25)) (.n 27 (.l 26 f26) (.l 27 f27)))) (.n 32 (.n 30 (.n 29 (.l 28 f28) (.l 29 f29)) (.n 31 (.l 30 f30) (.l 31 f31))) (.n 34 (.n 33 (.l 32 f32) (.l 33 f33)) (.n 35 (.l 34 f34) (.l 35 f35)))))) (.n 51 (.n 43 (.n 39 (.n 37 (.l 36 f36) (.n 38 (.l 37 f37) (.l 38 f38))) (.n 41 (.n 40 (.l 39 f39) (.l 40 f40)) (.n 42 (.l 41 f41) (.l 42 f42)))) (.n 47 (.n 45 (.n 44 (.l 43 f43) (.l 44 f44)) (.n 46 (.l 45 f45) (.l 46 f46))) (.n 49 (.n 48 (.l 47 f47) (.l 48 f48)) (.n 50 (.l 49 f49) (.l 50 f50))))) (.n 59 (.n 55 (.n 53 (.n 52 (.l 51 f51) (.l 52 f52)) (.n 54 (.l 53 f53) (.l 54 f54))) (.n 57 (.n 56 (.l 55 f55) (.l 56 f56)) (.n 58 (.l 57 f57) (.l 58 f58)))) (.n 63 (.n 61 (.n 60 (.l 59 f59) (.l 60 f60)) (.n 62 (.l 61 f61) (.l 62 f62))) (.n 65 (.n 64 (.l 63 f63) (.l 64 f64)) (.n 66 (.l 65 f65) (.l 66 f66))))))) (.n 103 (.n 85 (.n 74 (.n 70 (.n 68 (.l 67 f67) (.n 69 (.l 68 f68) (.l 69 f69))) (.n 72 (.n 71 (.l 70 f70) (.l 71 f71)) (.n 73 (.l 72 f72) (.l 73 f73)))) (.n 79 (.n 76 (.n 75 (.l 74 f74) (.l 75 f75)) (.n 78 (.l 76 f76) (.l 78 f78))) (.n 81 (.n 80 (.l 79 f79) (.l 80 f80)) (.n 82 (.l 81 f81) (.l 82 f82))))) (.n 93 (.n 89 (.n 87 (.n 86 (.l 85 f85) (.l 86 f86)) (.n 88 (.l 87 f87) (.l 88 f88))) (.n 91 (.n 90 (.l 89 f89) (.l 90 f90)) (.n 92 (.l 91 f91) (.l 92 f92)))) (.n 99 (.n 95 (.n 94 (.l 93 f93) (.l 94 f94)) (.n 97 (.l 95 f95) (.l 97 f97))) (.n 101 (.n 100 (.l 99 f99) (.l 100 arI)) (.n 102 (.l 101 arH) (.l 102 arG)))))) (.n 121 (.n 110 (.n 106 (.n 104 (.l 103 arF) (.n 105 (.l 104 arE) (.l 105 arD))) (.n 108 (.n 107 (.l 106 arC) (.l 107 arB)) (.n 109 (.l 108 arA) (.l 109 ar9)))) (.n 114 (.n 112 (.n 111 (.l 110 ar8) (.l 111 ar7)) (.n 113 (.l 112 ar6) (.l 113 ar5))) (.n 119 (.n 115 (.l 114 ar4) (.l 115 ar3)) (.n 120 (.l 119 ar2) (.l 120 ar1))))) (.n 129 (.n 125 (.n 123 (.n 122 (.l 121 ar0) (.l 122 aqZ)) (.n 124 (.l 123 aqY) (.l 124 aqX))) (.n 127 (.n 126 (.l 125 aqW) (.l 126 aqV)) (.n 128 (.l 127 aqU) (.l 128 aqT)))) (.n 133 (.n 131 (.n 130 (.l 129 aqS) (.l 130 aqR)) (.n 132 (.l 131 aqQ) (.l 132 aqP))) (.n 135 (.n 134 (.l 133 aqO) (.l 134 aqN)) (.n 136 (.l 135 aqM) (.l 136 aqL)))))))) (.n 204 (.n 171 (.n 154 (.n 146 (.n 141 (.n 138 (.l 137 aqK) (.n 140 (.l 138 aqJ) (.l 140 aqI))) (.n 144 (.n 142 (.l 141 aqH) (.l 142 aqG)) (.n 145 (.l 144 aqF) (.l 145 aqE)))) (.n 150 (.n 148 (.n 147 (.l 146 aqD) (.l 147 aqC)) (.n 149 (.l 148 aqB) (.l 149 aqA))) (.n 152 (.n 151 (.l 150 aq9) (.l 151 aq8)) (.n 153 (.l 152 aq7) (.l 153 aq6))))) (.n 162 (.n 158 (.n 156 (.n 155 (.l 154 aq5) (.l 155 aq4)) (.n 157 (.l 156 aq3) (.l 157 aq2))) (.n 160 (.n 159 (.l 158 aq1) (.l 159 aq0)) (.n 161 (.l 160 apZ) (.l 161 apY)))) (.n 166 (.n 164 (.n 163 (.l 162 apX) (.l 163 apW)) (.n 165 (.l 164 apV) (.l 165 apU))) (.n 168 (.n 167 (.l 166 apT) (.l 167 apS)) (.n 170 (.l 168 apR) (.l 170 apQ)))))) (.n 187 (.n 178 (.n 174 (.n 172 (.l 171 apP) (.n 173 (.l 172 apO) (.l 173 apN))) (.n 176 (.n 175 (.l 174 apM) (.l 175 apL)) (.n 177 (.l 176 apK) (.l 177 apJ)))) (.n 182 (.n 180 (.n 179 (.l 178 apI) (.l 179 apH)) (.n 181 (.l 180 apG) (.l 181 apF))) (.n 185 (.n 184 (.l 182 apE) (.l 184 apD)) (.n 186 (.l 185 apC) (.l 186 apB))))) (.n 195 (.n 191 (.n 189 (.n 188 (.l 187 apA) (.l 188 ap9)) (.n 190 (.l 189 ap8) (.l 190 ap7))) (.n 193 (.n 192 (.l 191 ap6) (.l 192 ap5)) (.n 194 (.l 193 ap4) (.l 194 ap3)))) (.n 199 (.n 197 (.n 196 (.l 195 ap2) (.l 196 ap1)) (.n 198 (.l 197 ap0) (.l 198 aoZ))) (.n 202 (.n 200 (.l 199 aoY) (.l 200 aoX)) (.n 203 (.l 202 aoW) (.l 203 aoV))))))) (.n 246 (.n 220 (.n 212 (.n 208 (.n 205 (.l 204 aoU) (.n 206 (.l 205 aoT) (.l 206 aoS))) (.n 210 (.n 209 (.l 208 aoR) (.l 209 aoQ)) (.n 211 (.l 210 a3W) (.l 211 aoP)))) (.n 216 (.n 214 (.n 213 (.l 212 aoO) (.l 213 aoN)) (.n 215 (.l 214 aoM) (.l 215 aoL))) (.n 218 (.n 217 (.l 216 aoK) (.l 217 aoJ)) (.n 219 (.l 218 aoI) (.l 219 aoH))))) (.n 237 (.n 225 (.n 223 (.n 221 (.l 220 aoG) (.l 221 aoF)) (.n 224 (.l 223 aoE) (.l 224 aoD))) (.n 227 (.n 226 (.l 225 aoC) (.l 226 aoB)) (.n 228 (.l 227 aoA) (.l 228 ao9)))) (.n 242 (.n 240 (.n 239 (.l 237 ao8) (.l 239 ao7)) (.n 241 (.l 240 ao6) (.l 241 ao5))) (.n 244 (.n 243 (.l 242 ao4) (.l 243 a3V)) (.n 245 (.l 244 ao3) (.l 245 ao2)))))) (.n 270 (.n 261 (.n 249 (.n 247 (.l 246 ao1) (.n 248 (.l 247 ao0) (.l 248 anZ))) (.n 253 (.n 250 (.l 249 anY) (.l 250 anX)) (.n 260 (.l 253 anW) (.l 260 anV)))) (.n 266 (.n 263 (.n 262 (.l 261 a3U) (.l 262 anU)) (.n 264 (.l 263 anT) (.l 264 anS))) (.n 268 (.n 267 (.l 266 anR) (.l 267 anQ)) (.n 269 (.l 268 anP) (.l 269 f269))))) (.n 438 (.n 434 (.n 367 (.n 363 (.l 270 anO) (.l 363 anN)) (.n 389 (.l 367 anM) (.l 389 anL))) (.n 436 (.n 435 (.l 434 anJ) (.l 435 anI)) (.n 437 (.l 436 anH) (.l 437 anG)))) (.n 442 (.n 440 (.n 439 (.l 438 anF) (.l 439 anE)) (.n 441 (.l 440 anD) (.l 441 anC))) (.n 444 (.n 443 (.l 442 anB) (.l 443 anA)) (.n 445 (.l 444 an9) (.l 445 a9H)))))))))
noncomputable def VP:bh:=ab0 VT
end Go.Proofs.YtncfpmehhfdipaaGreat
namespace Go.Proofs.YtncfpmehhfdipaaGreat
structure Hd (P:Prop):Prop where
 h:P
theorem Z1 {P R:Prop} (r:R) (h:Hd R->P:=by intro hR;(repeat first | (apply gO;first | (apply gOc;first | refine oC1 ‹_› rfl rfl (by exact rfl) ?_ | refine oN2 ‹_› rfl rfl (by exact rfl) (by exact rfl) ?_ | refine oR2 ‹_› rfl rfl rfl rfl rfl (by exact rfl) (by exact rfl) (by exact rfl) ?_) | (apply gOv;first | refine oV2 rfl ‹_› rfl rfl rfl rfl rfl (by exact rfl) (by exact rfl) (by exact rfl) ?_ | refine oVr rfl ‹_› rfl rfl rfl rfl rfl rfl (by exact rfl) (by exact rfl) (by exact rfl) ?_) | (apply gOg;first | refine oz rfl ?_ | refine og rfl ‹_› ?_ | refine of' rfl ‹_› ?_ | refine og rfl (by decide) ?_ | refine of' rfl (by decide) ?_) | (apply gOp;first | refine opt rfl ‹_› rfl ?_ | refine opf rfl ‹_› rfl ?_ | refine opt rfl (by decide) rfl ?_ | refine opf rfl (by decide) rfl ?_) | refine ovx (op := .mapup _ _ _ _) rfl ?_ | refine ov1 rfl ?_ | refine oi rfl rfl ‹_› (by exact rfl) ?_ | refine omk rfl rfl (Nat.le_of_ble_eq_true rfl) (ab (Nat.le_of_ble_eq_true rfl) (by decide)) rfl rfl rfl ?_ | refine oam rfl rfl rfl (Nat.le_of_ble_eq_true rfl) rfl rfl (ab (Nat.le_of_ble_eq_true rfl) (by decide)) rfl ?_ | refine oak rfl rfl rfl rfl (ab (Nat.le_of_ble_eq_true rfl) (by decide)) rfl ?_ | refine oq rfl rfl ‹_› ?_ | refine om rfl rfl ‹_› ?_ | apply o0) | (apply gR;first | apply rs | refine rr rfl rfl ?_ | apply rb | apply rk | apply rx | apply rl | apply rt | refine rd rfl rfl ?_ | refine rct rfl ‹_› ?_ | refine rcf rfl ‹_› ?_ | refine rct rfl (by decide) ?_ | refine rcf rfl (by decide) ?_) | (apply gK;first | apply ks | apply kb | apply kl | apply xb | apply xs | apply xl | refine xo (by decide) ?_ | apply kq) | (apply gF;first | (apply gFc;first | refine fw (oC1 ‹_› rfl rfl (by exact rfl) (o0 ⟨rfl,rfl⟩)) ?_ | refine fw (oN2 ‹_› rfl rfl (by exact rfl) (by exact rfl) (o0 ⟨rfl,rfl⟩)) ?_ | refine fw (oR2 ‹_› rfl rfl rfl rfl rfl (by exact rfl) (by exact rfl) (by exact rfl) (o0 ⟨rfl,rfl⟩)) ?_) | (apply gFv;first | refine fw (oV2 rfl ‹_› rfl rfl rfl rfl rfl (by exact rfl) (by exact rfl) (by exact rfl) (o0 ⟨rfl,rfl⟩)) ?_ | refine fw (oVr rfl ‹_› rfl rfl rfl rfl rfl rfl (by exact rfl) (by exact rfl) (by exact rfl) (o0 ⟨rfl,rfl⟩)) ?_) | (apply gFg;first | refine fz' rfl ?_ | refine fg rfl ‹_› rfl ?_ | refine ff rfl ‹_› ?_ | refine fg rfl (by decide) rfl ?_ | refine ff rfl (by decide) ?_ | refine fw (og rfl ‹_› (oC1 ‹_› rfl rfl (by exact rfl) (o0 ⟨rfl,rfl⟩))) ?_ | refine fw (og rfl ‹_› (oN2 ‹_› rfl rfl (by exact rfl) (by exact rfl) (o0 ⟨rfl,rfl⟩))) ?_ | refine fw (og rfl ‹_› (oR2 ‹_› rfl rfl rfl rfl rfl (by exact rfl) (by exact rfl) (by exact rfl) (o0 ⟨rfl,rfl⟩))) ?_ | refine fw (og rfl ‹_› (oV2 rfl ‹_› rfl rfl rfl rfl rfl (by exact rfl) (by exact rfl) (by exact rfl) (o0 ⟨rfl,rfl⟩))) ?_ | refine fw (og rfl ‹_› (oVr rfl ‹_› rfl rfl rfl rfl rfl rfl (by exact rfl) (by exact rfl) (by exact rfl) (o0 ⟨rfl,rfl⟩))) ?_ | refine fw (og rfl (by decide) (oC1 ‹_› rfl rfl (by exact rfl) (o0 ⟨rfl,rfl⟩))) ?_ | refine fw (og rfl (by decide) (oN2 ‹_› rfl rfl (by exact rfl) (by exact rfl) (o0 ⟨rfl,rfl⟩))) ?_ | refine fw (og rfl (by decide) (oR2 ‹_› rfl rfl rfl rfl rfl (by exact rfl) (by exact rfl) (by exact rfl) (o0 ⟨rfl,rfl⟩))) ?_ | refine fw (og rfl (by decide) (oV2 rfl ‹_› rfl rfl rfl rfl rfl (by exact rfl) (by exact rfl) (by exact rfl) (o0 ⟨rfl,rfl⟩))) ?_ | refine fw (og rfl (by decide) (oVr rfl ‹_› rfl rfl rfl rfl rfl rfl (by exact rfl) (by exact rfl) (by exact rfl) (o0 ⟨rfl,rfl⟩))) ?_ | refine fw (og rfl ‹_› (oi rfl rfl ‹_› (by exact rfl) (o0 ⟨rfl,rfl⟩))) ?_ | refine fw (og rfl (by decide) (oi rfl rfl ‹_› (by exact rfl) (o0 ⟨rfl,rfl⟩))) ?_) | (apply gFp;first | refine fpt rfl ‹_› rfl ?_ | refine fpf rfl ‹_› rfl ?_ | refine fpt rfl (by decide) rfl ?_ | refine fpf rfl (by decide) rfl ?_) | refine fw (ovx (op := .mapup _ _ _ _) rfl (o0 ⟨rfl,rfl⟩)) ?_ | refine fw (ov1 rfl (o0 ⟨rfl,rfl⟩)) ?_ | refine fi rfl rfl ‹_› (by exact rfl) ?_ | refine fw (omk rfl rfl (Nat.le_of_ble_eq_true rfl) (ab (Nat.le_of_ble_eq_true rfl) (by decide)) rfl rfl rfl (o0 ⟨rfl,rfl⟩)) ?_ | refine fw (oam rfl rfl rfl (Nat.le_of_ble_eq_true rfl) rfl rfl (ab (Nat.le_of_ble_eq_true rfl) (by decide)) rfl (o0 ⟨rfl,rfl⟩)) ?_ | refine fw (oak rfl rfl rfl rfl (ab (Nat.le_of_ble_eq_true rfl) (by decide)) rfl (o0 ⟨rfl,rfl⟩)) ?_ | refine fq rfl rfl ‹_› ?_ | refine fm rfl rfl ‹_› ?_ | apply fn0) | refine lt' rfl ?_);exact hR.h):P:=h ⟨r⟩
theorem Z1p {P R:Prop} (r:R) (h:Hd R->P:=by intro hR;(repeat first | (apply gO;first | (apply gOc;first | refine oC1 ‹_› rfl rfl (by exact rfl) ?_ | refine oN2 ‹_› rfl rfl (by exact rfl) (by exact rfl) ?_ | refine oR2 ‹_› rfl rfl rfl rfl rfl (by exact rfl) (by exact rfl) (by exact rfl) ?_) | (apply gOv;first | refine oV2 rfl ‹_› rfl rfl rfl rfl rfl (by exact rfl) (by exact rfl) (by exact rfl) ?_ | refine oVr rfl ‹_› rfl rfl rfl rfl rfl rfl (by exact rfl) (by exact rfl) (by exact rfl) ?_) | (apply gOg;first | refine oz rfl ?_ | refine og rfl ‹_› ?_ | refine of' rfl ‹_› ?_ | refine og rfl (by decide) ?_ | refine of' rfl (by decide) ?_) | (apply gOp;first | refine opt rfl ‹_› rfl ?_ | refine opf rfl ‹_› rfl ?_ | refine opt rfl (by decide) rfl ?_ | refine opf rfl (by decide) rfl ?_) | refine ovx (op := .mapup _ _ _ _) rfl ?_ | refine ov1 rfl ?_ | refine oi rfl rfl ‹_› (by exact rfl) ?_ | refine omk rfl rfl (Nat.le_of_ble_eq_true rfl) (ab (Nat.le_of_ble_eq_true rfl) (by decide)) rfl rfl rfl ?_ | refine oam rfl rfl rfl (Nat.le_of_ble_eq_true rfl) rfl rfl (ab (Nat.le_of_ble_eq_true rfl) (by decide)) rfl ?_ | refine oak rfl rfl rfl rfl (ab (Nat.le_of_ble_eq_true rfl) (by decide)) rfl ?_ | refine oq rfl rfl ‹_› ?_ | refine om rfl rfl ‹_› ?_ | apply o0) | (apply gR;first | apply rs | refine rr rfl rfl ?_ | apply rb | apply rk | apply rx | apply rl | apply rt | refine rd rfl rfl ?_ | refine rct rfl ‹_› ?_ | refine rcf rfl ‹_› ?_ | refine rct rfl (by decide) ?_ | refine rcf rfl (by decide) ?_) | (apply gK;first | apply ks | apply kb | apply kl | apply xb | apply xs | apply xl | refine xo (by decide) ?_ | apply kq) | (apply gF;first | (apply gFc;first | refine fw (oC1 ‹_› rfl rfl (by exact rfl) (o0 ⟨rfl,rfl⟩)) ?_ | refine fw (oN2 ‹_› rfl rfl (by exact rfl) (by exact rfl) (o0 ⟨rfl,rfl⟩)) ?_ | refine fw (oR2 ‹_› rfl rfl rfl rfl rfl (by exact rfl) (by exact rfl) (by exact rfl) (o0 ⟨rfl,rfl⟩)) ?_) | (apply gFv;first | refine fw (oV2 rfl ‹_› rfl rfl rfl rfl rfl (by exact rfl) (by exact rfl) (by exact rfl) (o0 ⟨rfl,rfl⟩)) ?_ | refine fw (oVr rfl ‹_› rfl rfl rfl rfl rfl rfl (by exact rfl) (by exact rfl) (by exact rfl) (o0 ⟨rfl,rfl⟩)) ?_) | (apply gFg;first | refine fz' rfl ?_ | refine fg rfl ‹_› rfl ?_ | refine ff rfl ‹_› ?_ | refine fg rfl (by decide) rfl ?_ | refine ff rfl (by decide) ?_ | refine fw (og rfl ‹_› (oC1 ‹_› rfl rfl (by exact rfl) (o0 ⟨rfl,rfl⟩))) ?_ | refine fw (og rfl ‹_› (oN2 ‹_› rfl rfl (by exact rfl) (by exact rfl) (o0 ⟨rfl,rfl⟩))) ?_ | refine fw (og rfl ‹_› (oR2 ‹_› rfl rfl rfl rfl rfl (by exact rfl) (by exact rfl) (by exact rfl) (o0 ⟨rfl,rfl⟩))) ?_ | refine fw (og rfl ‹_› (oV2 rfl ‹_› rfl rfl rfl rfl rfl (by exact rfl) (by exact rfl) (by exact rfl) (o0 ⟨rfl,rfl⟩))) ?_ | refine fw (og rfl ‹_› (oVr rfl ‹_› rfl rfl rfl rfl rfl rfl (by exact rfl) (by exact rfl) (by exact rfl) (o0 ⟨rfl,rfl⟩))) ?_ | refine fw (og rfl (by decide) (oC1 ‹_› rfl rfl (by exact rfl) (o0 ⟨rfl,rfl⟩))) ?_ | refine fw (og rfl (by decide) (oN2 ‹_› rfl rfl (by exact rfl) (by exact rfl) (o0 ⟨rfl,rfl⟩))) ?_ | refine fw (og rfl (by decide) (oR2 ‹_› rfl rfl rfl rfl rfl (by exact rfl) (by exact rfl) (by exact rfl) (o0 ⟨rfl,rfl⟩))) ?_ | refine fw (og rfl (by decide) (oV2 rfl ‹_› rfl rfl rfl rfl rfl (by exact rfl) (by exact rfl) (by exact rfl) (o0 ⟨rfl,rfl⟩))) ?_ | refine fw (og rfl (by decide) (oVr rfl ‹_› rfl rfl rfl rfl rfl rfl (by exact rfl) (by exact rfl) (by exact rfl) (o0 ⟨rfl,rfl⟩))) ?_ | refine fw (og rfl ‹_› (oi rfl rfl ‹_› (by exact rfl) (o0 ⟨rfl,rfl⟩))) ?_ | refine fw (og rfl (by decide) (oi rfl rfl ‹_› (by exact rfl) (o0 ⟨rfl,rfl⟩))) ?_) | (apply gFp;first | refine fpt rfl ‹_› rfl ?_ | refine fpf rfl ‹_› rfl ?_ | refine fpt rfl (by decide) rfl ?_ | refine fpf rfl (by decide) rfl ?_) | refine fw (ovx (op := .mapup _ _ _ _) rfl (o0 ⟨rfl,rfl⟩)) ?_ | refine fw (ov1 rfl (o0 ⟨rfl,rfl⟩)) ?_ | refine fi rfl rfl ‹_› (by exact rfl) ?_ | refine fw (omk rfl rfl (Nat.le_of_ble_eq_true rfl) (ab (Nat.le_of_ble_eq_true rfl) (by decide)) rfl rfl rfl (o0 ⟨rfl,rfl⟩)) ?_ | refine fw (oam rfl rfl rfl (Nat.le_of_ble_eq_true rfl) rfl rfl (ab (Nat.le_of_ble_eq_true rfl) (by decide)) rfl (o0 ⟨rfl,rfl⟩)) ?_ | refine fw (oak rfl rfl rfl rfl (ab (Nat.le_of_ble_eq_true rfl) (by decide)) rfl (o0 ⟨rfl,rfl⟩)) ?_ | refine fq rfl rfl ‹_› ?_ | refine fm rfl rfl ‹_› ?_ | apply fn0) | refine lt' rfl ?_ | refine rr0 rfl ?_ | refine rd0 rfl ?_ | refine ovp rfl rfl ?_ | refine fw (ovp rfl rfl (o0 ⟨rfl,rfl⟩)) ?_ | refine fw (og rfl ‹_› (ovp rfl rfl (o0 ⟨rfl,rfl⟩))) ?_ | refine og rfl ‹_› (ovp rfl rfl ?_) | refine fw (og rfl (by decide) (ovp rfl rfl (o0 ⟨rfl,rfl⟩))) ?_ | refine og rfl (by decide) (ovp rfl rfl ?_));exact hR.h):P:=h ⟨r⟩
theorem Z1r {P R:Prop} (r:R) (h:Hd R->P:=by intro hR;(repeat first | (apply gO;first | (apply gOc;first | refine oC1 ‹_› rfl rfl (by exact rfl) ?_ | refine oN2 ‹_› rfl rfl (by exact rfl) (by exact rfl) ?_ | refine oR2 ‹_› rfl rfl rfl rfl rfl (by exact rfl) (by exact rfl) (by exact rfl) ?_) | (apply gOv;first | refine oV2 rfl ‹_› rfl rfl rfl rfl rfl (by exact rfl) (by exact rfl) (by exact rfl) ?_ | refine oVr rfl ‹_› rfl rfl rfl rfl rfl rfl (by exact rfl) (by exact rfl) (by exact rfl) ?_) | (apply gOg;first | refine oz rfl ?_ | refine og rfl ‹_› ?_ | refine of' rfl ‹_› ?_ | refine og rfl (rfl) ?_ | refine of' rfl (rfl) ?_ | refine og rfl (by decide) ?_ | refine of' rfl (by decide) ?_) | (apply gOp;first | refine opt rfl ‹_› rfl ?_ | refine opf rfl ‹_› rfl ?_ | refine opt rfl (rfl) rfl ?_ | refine opf rfl (rfl) rfl ?_ | refine opt rfl (by decide) rfl ?_ | refine opf rfl (by decide) rfl ?_) | refine ovx (op := .mapup _ _ _ _) rfl ?_ | refine ov1 rfl ?_ | refine oi rfl rfl ‹_› (by exact rfl) ?_ | refine omk rfl rfl (Nat.le_of_ble_eq_true rfl) (ab (Nat.le_of_ble_eq_true rfl) (by decide)) rfl rfl rfl ?_ | refine oam rfl rfl rfl (Nat.le_of_ble_eq_true rfl) rfl rfl (ab (Nat.le_of_ble_eq_true rfl) (by decide)) rfl ?_ | refine oak rfl rfl rfl rfl (ab (Nat.le_of_ble_eq_true rfl) (by decide)) rfl ?_ | refine oq rfl rfl ‹_› ?_ | refine om rfl rfl ‹_› ?_ | apply o0) | (apply gR;first | apply rs | refine rr rfl rfl ?_ | apply rb | apply rk | apply rx | apply rl | apply rt | refine rd rfl rfl ?_ | refine rct rfl ‹_› ?_ | refine rcf rfl ‹_› ?_ | refine rct rfl (rfl) ?_ | refine rcf rfl (rfl) ?_ | refine rct rfl (by decide) ?_ | refine rcf rfl (by decide) ?_) | (apply gK;first | apply ks | apply kb | apply kl | apply xb | apply xs | apply xl | refine xo (by decide) ?_ | apply kq) | (apply gF;first | (apply gFc;first | refine fw (oC1 ‹_› rfl rfl (by exact rfl) (o0 ⟨rfl,rfl⟩)) ?_ | refine fw (oN2 ‹_› rfl rfl (by exact rfl) (by exact rfl) (o0 ⟨rfl,rfl⟩)) ?_ | refine fw (oR2 ‹_› rfl rfl rfl rfl rfl (by exact rfl) (by exact rfl) (by exact rfl) (o0 ⟨rfl,rfl⟩)) ?_) | (apply gFv;first | refine fw (oV2 rfl ‹_› rfl rfl rfl rfl rfl (by exact rfl) (by exact rfl) (by exact rfl) (o0 ⟨rfl,rfl⟩)) ?_ | refine fw (oVr rfl ‹_› rfl rfl rfl rfl rfl rfl (by exact rfl) (by exact rfl) (by exact rfl) (o0 ⟨rfl,rfl⟩)) ?_) | (apply gFg;first | refine fz' rfl ?_ | refine fg rfl ‹_› rfl ?_ | refine ff rfl ‹_› ?_ | refine fg rfl (rfl) rfl ?_ | refine ff rfl (rfl) ?_ | refine fg rfl (by decide) rfl ?_ | refine ff rfl (by decide) ?_ | refine fw (og rfl ‹_› (oC1 ‹_› rfl rfl (by exact rfl) (o0 ⟨rfl,rfl⟩))) ?_ | refine fw (og rfl ‹_› (oN2 ‹_› rfl rfl (by exact rfl) (by exact rfl) (o0 ⟨rfl,rfl⟩))) ?_ | refine fw (og rfl ‹_› (oR2 ‹_› rfl rfl rfl rfl rfl (by exact rfl) (by exact rfl) (by exact rfl) (o0 ⟨rfl,rfl⟩))) ?_ | refine fw (og rfl ‹_› (oV2 rfl ‹_› rfl rfl rfl rfl rfl (by exact rfl) (by exact rfl) (by exact rfl) (o0 ⟨rfl,rfl⟩))) ?_ | refine fw (og rfl ‹_› (oVr rfl ‹_› rfl rfl rfl rfl rfl rfl (by exact rfl) (by exact rfl) (by exact rfl) (o0 ⟨rfl,rfl⟩))) ?_ | refine fw (og rfl (rfl) (oC1 ‹_› rfl rfl (by exact rfl) (o0 ⟨rfl,rfl⟩))) ?_ | refine fw (og rfl (rfl) (oN2 ‹_› rfl rfl (by exact rfl) (by exact rfl) (o0 ⟨rfl,rfl⟩))) ?_ | refine fw (og rfl (rfl) (oR2 ‹_› rfl rfl rfl rfl rfl (by exact rfl) (by exact rfl) (by exact rfl) (o0 ⟨rfl,rfl⟩))) ?_ | refine fw (og rfl (rfl) (oV2 rfl ‹_› rfl rfl rfl rfl rfl (by exact rfl) (by exact rfl) (by exact rfl) (o0 ⟨rfl,rfl⟩))) ?_ | refine fw (og rfl (rfl) (oVr rfl ‹_› rfl rfl rfl rfl rfl rfl (by exact rfl) (by exact rfl) (by exact rfl) (o0 ⟨rfl,rfl⟩))) ?_ | refine fw (og rfl (by decide) (oC1 ‹_› rfl rfl (by exact rfl) (o0 ⟨rfl,rfl⟩))) ?_ | refine fw (og rfl (by decide) (oN2 ‹_› rfl rfl (by exact rfl) (by exact rfl) (o0 ⟨rfl,rfl⟩))) ?_ | refine fw (og rfl (by decide) (oR2 ‹_› rfl rfl rfl rfl rfl (by exact rfl) (by exact rfl) (by exact rfl) (o0 ⟨rfl,rfl⟩))) ?_ | refine fw (og rfl (by decide) (oV2 rfl ‹_› rfl rfl rfl rfl rfl (by exact rfl) (by exact rfl) (by exact rfl) (o0 ⟨rfl,rfl⟩))) ?_ | refine fw (og rfl (by decide) (oVr rfl ‹_› rfl rfl rfl rfl rfl rfl (by exact rfl) (by exact rfl) (by exact rfl) (o0 ⟨rfl,rfl⟩))) ?_ | refine fw (og rfl ‹_› (oi rfl rfl ‹_› (by exact rfl) (o0 ⟨rfl,rfl⟩))) ?_ | refine fw (og rfl (rfl) (oi rfl rfl ‹_› (by exact rfl) (o0 ⟨rfl,rfl⟩))) ?_ | refine fw (og rfl (by decide) (oi rfl rfl ‹_› (by exact rfl) (o0 ⟨rfl,rfl⟩))) ?_) | (apply gFp;first | refine fpt rfl ‹_› rfl ?_ | refine fpf rfl ‹_› rfl ?_ | refine fpt rfl (rfl) rfl ?_ | refine fpf rfl (rfl) rfl ?_ | refine fpt rfl (by decide) rfl ?_ | refine fpf rfl (by decide) rfl ?_) | refine fw (ovx (op := .mapup _ _ _ _) rfl (o0 ⟨rfl,rfl⟩)) ?_ | refine fw (ov1 rfl (o0 ⟨rfl,rfl⟩)) ?_ | refine fi rfl rfl ‹_› (by exact rfl) ?_ | refine fw (omk rfl rfl (Nat.le_of_ble_eq_true rfl) (ab (Nat.le_of_ble_eq_true rfl) (by decide)) rfl rfl rfl (o0 ⟨rfl,rfl⟩)) ?_ | refine fw (oam rfl rfl rfl (Nat.le_of_ble_eq_true rfl) rfl rfl (ab (Nat.le_of_ble_eq_true rfl) (by decide)) rfl (o0 ⟨rfl,rfl⟩)) ?_ | refine fw (oak rfl rfl rfl rfl (ab (Nat.le_of_ble_eq_true rfl) (by decide)) rfl (o0 ⟨rfl,rfl⟩)) ?_ | refine fq rfl rfl ‹_› ?_ | refine fm rfl rfl ‹_› ?_ | apply fn0) | refine lt' rfl ?_);exact hR.h):P:=h ⟨r⟩
theorem Z1pr {P R:Prop} (r:R) (h:Hd R->P:=by intro hR;(repeat first | (apply gO;first | (apply gOc;first | refine oC1 ‹_› rfl rfl (by exact rfl) ?_ | refine oN2 ‹_› rfl rfl (by exact rfl) (by exact rfl) ?_ | refine oR2 ‹_› rfl rfl rfl rfl rfl (by exact rfl) (by exact rfl) (by exact rfl) ?_) | (apply gOv;first | refine oV2 rfl ‹_› rfl rfl rfl rfl rfl (by exact rfl) (by exact rfl) (by exact rfl) ?_ | refine oVr rfl ‹_› rfl rfl rfl rfl rfl rfl (by exact rfl) (by exact rfl) (by exact rfl) ?_) | (apply gOg;first | refine oz rfl ?_ | refine og rfl ‹_› ?_ | refine of' rfl ‹_› ?_ | refine og rfl (rfl) ?_ | refine of' rfl (rfl) ?_ | refine og rfl (by decide) ?_ | refine of' rfl (by decide) ?_) | (apply gOp;first | refine opt rfl ‹_› rfl ?_ | refine opf rfl ‹_› rfl ?_ | refine opt rfl (rfl) rfl ?_ | refine opf rfl (rfl) rfl ?_ | refine opt rfl (by decide) rfl ?_ | refine opf rfl (by decide) rfl ?_) | refine ovx (op := .mapup _ _ _ _) rfl ?_ | refine ov1 rfl ?_ | refine oi rfl rfl ‹_› (by exact rfl) ?_ | refine omk rfl rfl (Nat.le_of_ble_eq_true rfl) (ab (Nat.le_of_ble_eq_true rfl) (by decide)) rfl rfl rfl ?_ | refine oam rfl rfl rfl (Nat.le_of_ble_eq_true rfl) rfl rfl (ab (Nat.le_of_ble_eq_true rfl) (by decide)) rfl ?_ | refine oak rfl rfl rfl rfl (ab (Nat.le_of_ble_eq_true rfl) (by decide)) rfl ?_ | refine oq rfl rfl ‹_› ?_ | refine om rfl rfl ‹_› ?_ | apply o0) | (apply gR;first | apply rs | refine rr rfl rfl ?_ | apply rb | apply rk | apply rx | apply rl | apply rt | refine rd rfl rfl ?_ | refine rct rfl ‹_› ?_ | refine rcf rfl ‹_› ?_ | refine rct rfl (rfl) ?_ | refine rcf rfl (rfl) ?_ | refine rct rfl (by decide) ?_ | refine rcf rfl (by decide) ?_) | (apply gK;first | apply ks | apply kb | apply kl | apply xb | apply xs | apply xl | refine xo (by decide) ?_ | apply kq) | (apply gF;first | (apply gFc;first | refine fw (oC1 ‹_› rfl rfl (by exact rfl) (o0 ⟨rfl,rfl⟩)) ?_ | refine fw (oN2 ‹_› rfl rfl (by exact rfl) (by exact rfl) (o0 ⟨rfl,rfl⟩)) ?_ | refine fw (oR2 ‹_› rfl rfl rfl rfl rfl (by exact rfl) (by exact rfl) (by exact rfl) (o0 ⟨rfl,rfl⟩)) ?_) | (apply gFv;first | refine fw (oV2 rfl ‹_› rfl rfl rfl rfl rfl (by exact rfl) (by exact rfl) (by exact rfl) (o0 ⟨rfl,rfl⟩)) ?_ | refine fw (oVr rfl ‹_› rfl rfl rfl rfl rfl rfl (by exact rfl) (by exact rfl) (by exact rfl) (o0 ⟨rfl,rfl⟩)) ?_) | (apply gFg;first | refine fz' rfl ?_ | refine fg rfl ‹_› rfl ?_ | refine ff rfl ‹_› ?_ | refine fg rfl (rfl) rfl ?_ | refine ff rfl (rfl) ?_ | refine fg rfl (by decide) rfl ?_ | refine ff rfl (by decide) ?_ | refine fw (og rfl ‹_› (oC1 ‹_› rfl rfl (by exact rfl) (o0 ⟨rfl,rfl⟩))) ?_ | refine fw (og rfl ‹_› (oN2 ‹_› rfl rfl (by exact rfl) (by exact rfl) (o0 ⟨rfl,rfl⟩))) ?_ | refine fw (og rfl ‹_› (oR2 ‹_› rfl rfl rfl rfl rfl (by exact rfl) (by exact rfl) (by exact rfl) (o0 ⟨rfl,rfl⟩))) ?_ | refine fw (og rfl ‹_› (oV2 rfl ‹_› rfl rfl rfl rfl rfl (by exact rfl) (by exact rfl) (by exact rfl) (o0 ⟨rfl,rfl⟩))) ?_ | refine fw (og rfl ‹_› (oVr rfl ‹_› rfl rfl rfl rfl rfl rfl (by exact rfl) (by exact rfl) (by exact rfl) (o0 ⟨rfl,rfl⟩))) ?_ | refine fw (og rfl (rfl) (oC1 ‹_› rfl rfl (by exact rfl) (o0 ⟨rfl,rfl⟩))) ?_ | refine fw (og rfl (rfl) (oN2 ‹_› rfl rfl (by exact rfl) (by exact rfl) (o0 ⟨rfl,rfl⟩))) ?_ | refine fw (og rfl (rfl) (oR2 ‹_› rfl rfl rfl rfl rfl (by exact rfl) (by exact rfl) (by exact rfl) (o0 ⟨rfl,rfl⟩))) ?_ | refine fw (og rfl (rfl) (oV2 rfl ‹_› rfl rfl rfl rfl rfl (by exact rfl) (by exact rfl) (by exact rfl) (o0 ⟨rfl,rfl⟩))) ?_ | refine fw (og rfl (rfl) (oVr rfl ‹_› rfl rfl rfl rfl rfl rfl (by exact rfl) (by exact rfl) (by exact rfl) (o0 ⟨rfl,rfl⟩))) ?_ | refine fw (og rfl (by decide) (oC1 ‹_› rfl rfl (by exact rfl) (o0 ⟨rfl,rfl⟩))) ?_ | refine fw (og rfl (by decide) (oN2 ‹_› rfl rfl (by exact rfl) (by exact rfl) (o0 ⟨rfl,rfl⟩))) ?_ | refine fw (og rfl (by decide) (oR2 ‹_› rfl rfl rfl rfl rfl (by exact rfl) (by exact rfl) (by exact rfl) (o0 ⟨rfl,rfl⟩))) ?_ | refine fw (og rfl (by decide) (oV2 rfl ‹_› rfl rfl rfl rfl rfl (by exact rfl) (by exact rfl) (by exact rfl) (o0 ⟨rfl,rfl⟩))) ?_ | refine fw (og rfl (by decide) (oVr rfl ‹_› rfl rfl rfl rfl rfl rfl (by exact rfl) (by exact rfl) (by exact rfl) (o0 ⟨rfl,rfl⟩))) ?_ | refine fw (og rfl ‹_› (oi rfl rfl ‹_› (by exact rfl) (o0 ⟨rfl,rfl⟩))) ?_ | refine fw (og rfl (rfl) (oi rfl rfl ‹_› (by exact rfl) (o0 ⟨rfl,rfl⟩))) ?_ | refine fw (og rfl (by decide) (oi rfl rfl ‹_› (by exact rfl) (o0 ⟨rfl,rfl⟩))) ?_) | (apply gFp;first | refine fpt rfl ‹_› rfl ?_ | refine fpf rfl ‹_› rfl ?_ | refine fpt rfl (rfl) rfl ?_ | refine fpf rfl (rfl) rfl ?_ | refine fpt rfl (by decide) rfl ?_ | refine fpf rfl (by decide) rfl ?_) | refine fw (ovx (op := .mapup _ _ _ _) rfl (o0 ⟨rfl,rfl⟩)) ?_ | refine fw (ov1 rfl (o0 ⟨rfl,rfl⟩)) ?_ | refine fi rfl rfl ‹_› (by exact rfl) ?_ | refine fw (omk rfl rfl (Nat.le_of_ble_eq_true rfl) (ab (Nat.le_of_ble_eq_true rfl) (by decide)) rfl rfl rfl (o0 ⟨rfl,rfl⟩)) ?_ | refine fw (oam rfl rfl rfl (Nat.le_of_ble_eq_true rfl) rfl rfl (ab (Nat.le_of_ble_eq_true rfl) (by decide)) rfl (o0 ⟨rfl,rfl⟩)) ?_ | refine fw (oak rfl rfl rfl rfl (ab (Nat.le_of_ble_eq_true rfl) (by decide)) rfl (o0 ⟨rfl,rfl⟩)) ?_ | refine fq rfl rfl ‹_› ?_ | refine fm rfl rfl ‹_› ?_ | apply fn0) | refine lt' rfl ?_ | refine rr0 rfl ?_ | refine rd0 rfl ?_ | refine ovp rfl rfl ?_ | refine fw (ovp rfl rfl (o0 ⟨rfl,rfl⟩)) ?_ | refine fw (og rfl ‹_› (ovp rfl rfl (o0 ⟨rfl,rfl⟩))) ?_ | refine og rfl ‹_› (ovp rfl rfl ?_) | refine fw (og rfl (rfl) (ovp rfl rfl (o0 ⟨rfl,rfl⟩))) ?_ | refine og rfl (rfl) (ovp rfl rfl ?_) | refine fw (og rfl (by decide) (ovp rfl rfl (o0 ⟨rfl,rfl⟩))) ?_ | refine og rfl (by decide) (ovp rfl rfl ?_));exact hR.h):P:=h ⟨r⟩
theorem Z2 {P R:Prop} (r:R) (h:Hd R->P:=by intro hR;(repeat first | (apply gO;first | (apply gOc;first | refine oC1 ‹_› rfl rfl (by exact rfl) ?_ | refine oN2 ‹_› rfl rfl (by exact rfl) (by exact rfl) ?_ | refine oR2 ‹_› rfl rfl rfl rfl rfl (by exact rfl) (by exact rfl) (by exact rfl) ?_) | (apply gOv;first | refine oV2 rfl ‹_› rfl rfl rfl rfl rfl (by exact rfl) (by exact rfl) (by exact rfl) ?_ | refine oVr rfl ‹_› rfl rfl rfl rfl rfl rfl (by exact rfl) (by exact rfl) (by exact rfl) ?_) | (apply gOg;first | refine oz rfl ?_ | refine og rfl ‹_› ?_ | refine of' rfl ‹_› ?_ | refine og rfl (rfl) ?_ | refine of' rfl (rfl) ?_) | (apply gOp;first | refine opt rfl ‹_› rfl ?_ | refine opf rfl ‹_› rfl ?_ | refine opt rfl (rfl) rfl ?_ | refine opf rfl (rfl) rfl ?_) | refine ovx (op := .mapup _ _ _ _) rfl ?_ | refine ov1 rfl ?_ | refine oi rfl rfl ‹_› (by exact rfl) ?_ | refine omk rfl rfl (Nat.le_of_ble_eq_true rfl) (ab (Nat.le_of_ble_eq_true rfl) (by decide)) rfl rfl rfl ?_ | refine oam rfl rfl rfl (Nat.le_of_ble_eq_true rfl) rfl rfl (ab (Nat.le_of_ble_eq_true rfl) (by decide)) rfl ?_ | refine oak rfl rfl rfl rfl (ab (Nat.le_of_ble_eq_true rfl) (by decide)) rfl ?_ | refine oq rfl rfl ‹_› ?_ | refine om rfl rfl ‹_› ?_ | apply o0) | (apply gR;first | apply rs | refine rr rfl rfl ?_ | apply rb | apply rk | apply rx | apply rl | apply rt | refine rd rfl rfl ?_ | refine rct rfl ‹_› ?_ | refine rcf rfl ‹_› ?_ | refine rct rfl (rfl) ?_ | refine rcf rfl (rfl) ?_) | (apply gK;first | apply ks | apply kb | apply kl | apply xb | apply xs | apply xl | refine xo (by decide) ?_ | apply kq) | (apply gF;first | (apply gFc;first | refine fw (oC1 ‹_› rfl rfl (by exact rfl) (o0 ⟨rfl,rfl⟩)) ?_ | refine fw (oN2 ‹_› rfl rfl (by exact rfl) (by exact rfl) (o0 ⟨rfl,rfl⟩)) ?_ | refine fw (oR2 ‹_› rfl rfl rfl rfl rfl (by exact rfl) (by exact rfl) (by exact rfl) (o0 ⟨rfl,rfl⟩)) ?_) | (apply gFv;first | refine fw (oV2 rfl ‹_› rfl rfl rfl rfl rfl (by exact rfl) (by exact rfl) (by exact rfl) (o0 ⟨rfl,rfl⟩)) ?_ | refine fw (oVr rfl ‹_› rfl rfl rfl rfl rfl rfl (by exact rfl) (by exact rfl) (by exact rfl) (o0 ⟨rfl,rfl⟩)) ?_) | (apply gFg;first | refine fz' rfl ?_ | refine fg rfl ‹_› rfl ?_ | refine ff rfl ‹_› ?_ | refine fg rfl (rfl) rfl ?_ | refine ff rfl (rfl) ?_ | refine fw (og rfl ‹_› (oC1 ‹_› rfl rfl (by exact rfl) (o0 ⟨rfl,rfl⟩))) ?_ | refine fw (og rfl ‹_› (oN2 ‹_› rfl rfl (by exact rfl) (by exact rfl) (o0 ⟨rfl,rfl⟩))) ?_ | refine fw (og rfl ‹_› (oR2 ‹_› rfl rfl rfl rfl rfl (by exact rfl) (by exact rfl) (by exact rfl) (o0 ⟨rfl,rfl⟩))) ?_ | refine fw (og rfl ‹_› (oV2 rfl ‹_› rfl rfl rfl rfl rfl (by exact rfl) (by exact rfl) (by exact rfl) (o0 ⟨rfl,rfl⟩))) ?_ | refine fw (og rfl ‹_› (oVr rfl ‹_› rfl rfl rfl rfl rfl rfl (by exact rfl) (by exact rfl) (by exact rfl) (o0 ⟨rfl,rfl⟩))) ?_ | refine fw (og rfl (rfl) (oC1 ‹_› rfl rfl (by exact rfl) (o0 ⟨rfl,rfl⟩))) ?_ | refine fw (og rfl (rfl) (oN2 ‹_› rfl rfl (by exact rfl) (by exact rfl) (o0 ⟨rfl,rfl⟩))) ?_ | refine fw (og rfl (rfl) (oR2 ‹_› rfl rfl rfl rfl rfl (by exact rfl) (by exact rfl) (by exact rfl) (o0 ⟨rfl,rfl⟩))) ?_ | refine fw (og rfl (rfl) (oV2 rfl ‹_› rfl rfl rfl rfl rfl (by exact rfl) (by exact rfl) (by exact rfl) (o0 ⟨rfl,rfl⟩))) ?_ | refine fw (og rfl (rfl) (oVr rfl ‹_› rfl rfl rfl rfl rfl rfl (by exact rfl) (by exact rfl) (by exact rfl) (o0 ⟨rfl,rfl⟩))) ?_ | refine fw (og rfl ‹_› (oi rfl rfl ‹_› (by exact rfl) (o0 ⟨rfl,rfl⟩))) ?_ | refine fw (og rfl (rfl) (oi rfl rfl ‹_› (by exact rfl) (o0 ⟨rfl,rfl⟩))) ?_) | (apply gFp;first | refine fpt rfl ‹_› rfl ?_ | refine fpf rfl ‹_› rfl ?_ | refine fpt rfl (rfl) rfl ?_ | refine fpf rfl (rfl) rfl ?_) | refine fw (ovx (op := .mapup _ _ _ _) rfl (o0 ⟨rfl,rfl⟩)) ?_ | refine fw (ov1 rfl (o0 ⟨rfl,rfl⟩)) ?_ | refine fi rfl rfl ‹_› (by exact rfl) ?_ | refine fw (omk rfl rfl (Nat.le_of_ble_eq_true rfl) (ab (Nat.le_of_ble_eq_true rfl) (by decide)) rfl rfl rfl (o0 ⟨rfl,rfl⟩)) ?_ | refine fw (oam rfl rfl rfl (Nat.le_of_ble_eq_true rfl) rfl rfl (ab (Nat.le_of_ble_eq_true rfl) (by decide)) rfl (o0 ⟨rfl,rfl⟩)) ?_ | refine fw (oak rfl rfl rfl rfl (ab (Nat.le_of_ble_eq_true rfl) (by decide)) rfl (o0 ⟨rfl,rfl⟩)) ?_ | refine fq rfl rfl ‹_› ?_ | refine fm rfl rfl ‹_› ?_ | apply fn0) | (apply gL;refine lh1 rfl rfl rfl rfl ?_) | refine lt' rfl ?_);exact hR.h):P:=h ⟨r⟩
theorem Z3r {P R:Prop} (r:R) (h:Hd R->P:=by intro hR;(repeat first | (apply gO;first | (apply gOc;first | refine bR ‹_› rfl rfl (by exact rfl) ?_ | refine je ‹_› rfl rfl (by exact rfl) (by exact rfl) ?_ | refine jd ‹_› rfl rfl rfl rfl rfl (by exact rfl) (by exact rfl) (by exact rfl) ?_) | (apply gOv;first | refine jc rfl ‹_› rfl rfl rfl rfl rfl (by exact rfl) (by exact rfl) (by exact rfl) ?_ | refine jb rfl ‹_› rfl rfl rfl rfl rfl rfl (by exact rfl) (by exact rfl) (by exact rfl) ?_) | (apply gOg;first | refine oz rfl ?_ | refine og rfl ‹_› ?_ | refine of' rfl ‹_› ?_ | refine og rfl (rfl) ?_ | refine of' rfl (rfl) ?_ | refine og rfl (by decide) ?_ | refine of' rfl (by decide) ?_) | (apply gOp;first | refine opt rfl ‹_› rfl ?_ | refine opf rfl ‹_› rfl ?_ | refine opt rfl (rfl) rfl ?_ | refine opf rfl (rfl) rfl ?_ | refine opt rfl (by decide) rfl ?_ | refine opf rfl (by decide) rfl ?_) | refine ovx (op := .mapup _ _ _ _) rfl ?_ | refine ov1 rfl ?_ | refine oi rfl rfl ‹_› (by exact rfl) ?_ | refine omk rfl rfl (Nat.le_of_ble_eq_true rfl) (ab (Nat.le_of_ble_eq_true rfl) (by decide)) rfl rfl rfl ?_ | refine oam rfl rfl rfl (Nat.le_of_ble_eq_true rfl) rfl rfl (ab (Nat.le_of_ble_eq_true rfl) (by decide)) rfl ?_ | refine oak rfl rfl rfl rfl (ab (Nat.le_of_ble_eq_true rfl) (by decide)) rfl ?_ | refine oq rfl rfl ‹_› ?_ | refine om rfl rfl ‹_› ?_ | apply o0) | (apply gR;first | apply rs | refine rr rfl rfl ?_ | apply rb | apply rk | apply rx | apply rl | apply rt | refine rd rfl rfl ?_ | refine rct rfl ‹_› ?_ | refine rcf rfl ‹_› ?_ | refine rct rfl (rfl) ?_ | refine rcf rfl (rfl) ?_ | refine rct rfl (by decide) ?_ | refine rcf rfl (by decide) ?_) | (apply gK;first | apply ks | apply kb | apply kl | apply xb | apply xs | apply xl | refine xo (by decide) ?_ | apply kq) | (apply gF;first | (apply gFc;first | refine fw (bR ‹_› rfl rfl (by exact rfl) (o0 ⟨rfl,rfl⟩)) ?_ | refine fw (je ‹_› rfl rfl (by exact rfl) (by exact rfl) (o0 ⟨rfl,rfl⟩)) ?_ | refine fw (jd ‹_› rfl rfl rfl rfl rfl (by exact rfl) (by exact rfl) (by exact rfl) (o0 ⟨rfl,rfl⟩)) ?_) | (apply gFv;first | refine fw (jc rfl ‹_› rfl rfl rfl rfl rfl (by exact rfl) (by exact rfl) (by exact rfl) (o0 ⟨rfl,rfl⟩)) ?_ | refine fw (jb rfl ‹_› rfl rfl rfl rfl rfl rfl (by exact rfl) (by exact rfl) (by exact rfl) (o0 ⟨rfl,rfl⟩)) ?_) | (apply gFg;first | refine fz' rfl ?_ | refine fg rfl ‹_› rfl ?_ | refine ff rfl ‹_› ?_ | refine fg rfl (rfl) rfl ?_ | refine ff rfl (rfl) ?_ | refine fg rfl (by decide) rfl ?_ | refine ff rfl (by decide) ?_ | refine fw (og rfl ‹_› (bR ‹_› rfl rfl (by exact rfl) (o0 ⟨rfl,rfl⟩))) ?_ | refine fw (og rfl ‹_› (je ‹_› rfl rfl (by exact rfl) (by exact rfl) (o0 ⟨rfl,rfl⟩))) ?_ | refine fw (og rfl ‹_› (jd ‹_› rfl rfl rfl rfl rfl (by exact rfl) (by exact rfl) (by exact rfl) (o0 ⟨rfl,rfl⟩))) ?_ | refine fw (og rfl ‹_› (jc rfl ‹_› rfl rfl rfl rfl rfl (by exact rfl) (by exact rfl) (by exact rfl) (o0 ⟨rfl,rfl⟩))) ?_ | refine fw (og rfl ‹_› (jb rfl ‹_› rfl rfl rfl rfl rfl rfl (by exact rfl) (by exact rfl) (by exact rfl) (o0 ⟨rfl,rfl⟩))) ?_ | refine fw (og rfl (rfl) (bR ‹_› rfl rfl (by exact rfl) (o0 ⟨rfl,rfl⟩))) ?_ | refine fw (og rfl (rfl) (je ‹_› rfl rfl (by exact rfl) (by exact rfl) (o0 ⟨rfl,rfl⟩))) ?_ | refine fw (og rfl (rfl) (jd ‹_› rfl rfl rfl rfl rfl (by exact rfl) (by exact rfl) (by exact rfl) (o0 ⟨rfl,rfl⟩))) ?_ | refine fw (og rfl (rfl) (jc rfl ‹_› rfl rfl rfl rfl rfl (by exact rfl) (by exact rfl) (by exact rfl) (o0 ⟨rfl,rfl⟩))) ?_ | refine fw (og rfl (rfl) (jb rfl ‹_› rfl rfl rfl rfl rfl rfl (by exact rfl) (by exact rfl) (by exact rfl) (o0 ⟨rfl,rfl⟩))) ?_ | refine fw (og rfl (by decide) (bR ‹_› rfl rfl (by exact rfl) (o0 ⟨rfl,rfl⟩))) ?_ | refine fw (og rfl (by decide) (je ‹_› rfl rfl (by exact rfl) (by exact rfl) (o0 ⟨rfl,rfl⟩))) ?_ | refine fw (og rfl (by decide) (jd ‹_› rfl rfl rfl rfl rfl (by exact rfl) (by exact rfl) (by exact rfl) (o0 ⟨rfl,rfl⟩))) ?_ | refine fw (og rfl (by decide) (jc rfl ‹_› rfl rfl rfl rfl rfl (by exact rfl) (by exact rfl) (by exact rfl) (o0 ⟨rfl,rfl⟩))) ?_ | refine fw (og rfl (by decide) (jb rfl ‹_› rfl rfl rfl rfl rfl rfl (by exact rfl) (by exact rfl) (by exact rfl) (o0 ⟨rfl,rfl⟩))) ?_ | refine fw (og rfl ‹_› (oi rfl rfl ‹_› (by exact rfl) (o0 ⟨rfl,rfl⟩))) ?_ | refine fw (og rfl (rfl) (oi rfl rfl ‹_› (by exact rfl) (o0 ⟨rfl,rfl⟩))) ?_ | refine fw (og rfl (by decide) (oi rfl rfl ‹_› (by exact rfl) (o0 ⟨rfl,rfl⟩))) ?_) | (apply gFp;first | refine fpt rfl ‹_› rfl ?_ | refine fpf rfl ‹_› rfl ?_ | refine fpt rfl (rfl) rfl ?_ | refine fpf rfl (rfl) rfl ?_ | refine fpt rfl (by decide) rfl ?_ | refine fpf rfl (by decide) rfl ?_) | refine fw (ovx (op := .mapup _ _ _ _) rfl (o0 ⟨rfl,rfl⟩)) ?_ | refine fw (ov1 rfl (o0 ⟨rfl,rfl⟩)) ?_ | refine fi rfl rfl ‹_› (by exact rfl) ?_ | refine fw (omk rfl rfl (Nat.le_of_ble_eq_true rfl) (ab (Nat.le_of_ble_eq_true rfl) (by decide)) rfl rfl rfl (o0 ⟨rfl,rfl⟩)) ?_ | refine fw (oam rfl rfl rfl (Nat.le_of_ble_eq_true rfl) rfl rfl (ab (Nat.le_of_ble_eq_true rfl) (by decide)) rfl (o0 ⟨rfl,rfl⟩)) ?_ | refine fw (oak rfl rfl rfl rfl (ab (Nat.le_of_ble_eq_true rfl) (by decide)) rfl (o0 ⟨rfl,rfl⟩)) ?_ | refine fq rfl rfl ‹_› ?_ | refine fm rfl rfl ‹_› ?_ | apply fn0) | refine lt' rfl ?_);exact hR.h):P:=h ⟨r⟩
theorem Z3pr {P R:Prop} (r:R) (h:Hd R->P:=by intro hR;(repeat first | (apply gO;first | (apply gOc;first | refine bR ‹_› rfl rfl (by exact rfl) ?_ | refine je ‹_› rfl rfl (by exact rfl) (by exact rfl) ?_ | refine jd ‹_› rfl rfl rfl rfl rfl (by exact rfl) (by exact rfl) (by exact rfl) ?_) | (apply gOv;first | refine jc rfl ‹_› rfl rfl rfl rfl rfl (by exact rfl) (by exact rfl) (by exact rfl) ?_ | refine jb rfl ‹_› rfl rfl rfl rfl rfl rfl (by exact rfl) (by exact rfl) (by exact rfl) ?_) | (apply gOg;first | refine oz rfl ?_ | refine og rfl ‹_› ?_ | refine of' rfl ‹_› ?_ | refine og rfl (rfl) ?_ | refine of' rfl (rfl) ?_ | refine og rfl (by decide) ?_ | refine of' rfl (by decide) ?_) | (apply gOp;first | refine opt rfl ‹_› rfl ?_ | refine opf rfl ‹_› rfl ?_ | refine opt rfl (rfl) rfl ?_ | refine opf rfl (rfl) rfl ?_ | refine opt rfl (by decide) rfl ?_ | refine opf rfl (by decide) rfl ?_) | refine ovx (op := .mapup _ _ _ _) rfl ?_ | refine ov1 rfl ?_ | refine oi rfl rfl ‹_› (by exact rfl) ?_ | refine omk rfl rfl (Nat.le_of_ble_eq_true rfl) (ab (Nat.le_of_ble_eq_true rfl) (by decide)) rfl rfl rfl ?_ | refine oam rfl rfl rfl (Nat.le_of_ble_eq_true rfl) rfl rfl (ab (Nat.le_of_ble_eq_true rfl) (by decide)) rfl ?_ | refine oak rfl rfl rfl rfl (ab (Nat.le_of_ble_eq_true rfl) (by decide)) rfl ?_ | refine oq rfl rfl ‹_› ?_ | refine om rfl rfl ‹_› ?_ | apply o0) | (apply gR;first | apply rs | refine rr rfl rfl ?_ | apply rb | apply rk | apply rx | apply rl | apply rt | refine rd rfl rfl ?_ | refine rct rfl ‹_› ?_ | refine rcf rfl ‹_› ?_ | refine rct rfl (rfl) ?_ | refine rcf rfl (rfl) ?_ | refine rct rfl (by decide) ?_ | refine rcf rfl (by decide) ?_) | (apply gK;first | apply ks | apply kb | apply kl | apply xb | apply xs | apply xl | refine xo (by decide) ?_ | apply kq) | (apply gF;first | (apply gFc;first | refine fw (bR ‹_› rfl rfl (by exact rfl) (o0 ⟨rfl,rfl⟩)) ?_ | refine fw (je ‹_› rfl rfl (by exact rfl) (by exact rfl) (o0 ⟨rfl,rfl⟩)) ?_ | refine fw (jd ‹_› rfl rfl rfl rfl rfl (by exact rfl) (by exact rfl) (by exact rfl) (o0 ⟨rfl,rfl⟩)) ?_) | (apply gFv;first | refine fw (jc rfl ‹_› rfl rfl rfl rfl rfl (by exact rfl) (by exact rfl) (by exact rfl) (o0 ⟨rfl,rfl⟩)) ?_ | refine fw (jb rfl ‹_› rfl rfl rfl rfl rfl rfl (by exact rfl) (by exact rfl) (by exact rfl) (o0 ⟨rfl,rfl⟩)) ?_) | (apply gFg;first | refine fz' rfl ?_ | refine fg rfl ‹_› rfl ?_ | refine ff rfl ‹_› ?_ | refine fg rfl (rfl) rfl ?_ | refine ff rfl (rfl) ?_ | refine fg rfl (by decide) rfl ?_ | refine ff rfl (by decide) ?_ | refine fw (og rfl ‹_› (bR ‹_› rfl rfl (by exact rfl) (o0 ⟨rfl,rfl⟩))) ?_ | refine fw (og rfl ‹_› (je ‹_› rfl rfl (by exact rfl) (by exact rfl) (o0 ⟨rfl,rfl⟩))) ?_ | refine fw (og rfl ‹_› (jd ‹_› rfl rfl rfl rfl rfl (by exact rfl) (by exact rfl) (by exact rfl) (o0 ⟨rfl,rfl⟩))) ?_ | refine fw (og rfl ‹_› (jc rfl ‹_› rfl rfl rfl rfl rfl (by exact rfl) (by exact rfl) (by exact rfl) (o0 ⟨rfl,rfl⟩))) ?_ | refine fw (og rfl ‹_› (jb rfl ‹_› rfl rfl rfl rfl rfl rfl (by exact rfl) (by exact rfl) (by exact rfl) (o0 ⟨rfl,rfl⟩))) ?_ | refine fw (og rfl (rfl) (bR ‹_› rfl rfl (by exact rfl) (o0 ⟨rfl,rfl⟩))) ?_ | refine fw (og rfl (rfl) (je ‹_› rfl rfl (by exact rfl) (by exact rfl) (o0 ⟨rfl,rfl⟩))) ?_ | refine fw (og rfl (rfl) (jd ‹_› rfl rfl rfl rfl rfl (by exact rfl) (by exact rfl) (by exact rfl) (o0 ⟨rfl,rfl⟩))) ?_ | refine fw (og rfl (rfl) (jc rfl ‹_› rfl rfl rfl rfl rfl (by exact rfl) (by exact rfl) (by exact rfl) (o0 ⟨rfl,rfl⟩))) ?_ | refine fw (og rfl (rfl) (jb rfl ‹_› rfl rfl rfl rfl rfl rfl (by exact rfl) (by exact rfl) (by exact rfl) (o0 ⟨rfl,rfl⟩))) ?_ | refine fw (og rfl (by decide) (bR ‹_› rfl rfl (by exact rfl) (o0 ⟨rfl,rfl⟩))) ?_ | refine fw (og rfl (by decide) (je ‹_› rfl rfl (by exact rfl) (by exact rfl) (o0 ⟨rfl,rfl⟩))) ?_ | refine fw (og rfl (by decide) (jd ‹_› rfl rfl rfl rfl rfl (by exact rfl) (by exact rfl) (by exact rfl) (o0 ⟨rfl,rfl⟩))) ?_ | refine fw (og rfl (by decide) (jc rfl ‹_› rfl rfl rfl rfl rfl (by exact rfl) (by exact rfl) (by exact rfl) (o0 ⟨rfl,rfl⟩))) ?_ | refine fw (og rfl (by decide) (jb rfl ‹_› rfl rfl rfl rfl rfl rfl (by exact rfl) (by exact rfl) (by exact rfl) (o0 ⟨rfl,rfl⟩))) ?_ | refine fw (og rfl ‹_› (oi rfl rfl ‹_› (by exact rfl) (o0 ⟨rfl,rfl⟩))) ?_ | refine fw (og rfl (rfl) (oi rfl rfl ‹_› (by exact rfl) (o0 ⟨rfl,rfl⟩))) ?_ | refine fw (og rfl (by decide) (oi rfl rfl ‹_› (by exact rfl) (o0 ⟨rfl,rfl⟩))) ?_) | (apply gFp;first | refine fpt rfl ‹_› rfl ?_ | refine fpf rfl ‹_› rfl ?_ | refine fpt rfl (rfl) rfl ?_ | refine fpf rfl (rfl) rfl ?_ | refine fpt rfl (by decide) rfl ?_ | refine fpf rfl (by decide) rfl ?_) | refine fw (ovx (op := .mapup _ _ _ _) rfl (o0 ⟨rfl,rfl⟩)) ?_ | refine fw (ov1 rfl (o0 ⟨rfl,rfl⟩)) ?_ | refine fi rfl rfl ‹_› (by exact rfl) ?_ | refine fw (omk rfl rfl (Nat.le_of_ble_eq_true rfl) (ab (Nat.le_of_ble_eq_true rfl) (by decide)) rfl rfl rfl (o0 ⟨rfl,rfl⟩)) ?_ | refine fw (oam rfl rfl rfl (Nat.le_of_ble_eq_true rfl) rfl rfl (ab (Nat.le_of_ble_eq_true rfl) (by decide)) rfl (o0 ⟨rfl,rfl⟩)) ?_ | refine fw (oak rfl rfl rfl rfl (ab (Nat.le_of_ble_eq_true rfl) (by decide)) rfl (o0 ⟨rfl,rfl⟩)) ?_ | refine fq rfl rfl ‹_› ?_ | refine fm rfl rfl ‹_› ?_ | apply fn0) | refine lt' rfl ?_ | refine rr0 rfl ?_ | refine rd0 rfl ?_ | refine ovp rfl rfl ?_ | refine fw (ovp rfl rfl (o0 ⟨rfl,rfl⟩)) ?_ | refine fw (og rfl ‹_› (ovp rfl rfl (o0 ⟨rfl,rfl⟩))) ?_ | refine og rfl ‹_› (ovp rfl rfl ?_) | refine fw (og rfl (rfl) (ovp rfl rfl (o0 ⟨rfl,rfl⟩))) ?_ | refine og rfl (rfl) (ovp rfl rfl ?_) | refine fw (og rfl (by decide) (ovp rfl rfl (o0 ⟨rfl,rfl⟩))) ?_ | refine og rfl (by decide) (ovp rfl rfl ?_));exact hR.h):P:=h ⟨r⟩
theorem Z4 {P R:Prop} (r:R) (h:Hd R->P:=by intro hR;(repeat first | (apply gO;first | (apply gOc;first | refine bR ‹_› rfl rfl (by exact rfl) ?_ | refine je ‹_› rfl rfl (by exact rfl) (by exact rfl) ?_ | refine jd ‹_› rfl rfl rfl rfl rfl (by exact rfl) (by exact rfl) (by exact rfl) ?_) | (apply gOv;first | refine jc rfl ‹_› rfl rfl rfl rfl rfl (by exact rfl) (by exact rfl) (by exact rfl) ?_ | refine jb rfl ‹_› rfl rfl rfl rfl rfl rfl (by exact rfl) (by exact rfl) (by exact rfl) ?_) | (apply gOg;first | refine oz rfl ?_ | refine og rfl ‹_› ?_ | refine of' rfl ‹_› ?_ | refine og rfl (rfl) ?_ | refine of' rfl (rfl) ?_) | (apply gOp;first | refine opt rfl ‹_› rfl ?_ | refine opf rfl ‹_› rfl ?_ | refine opt rfl (rfl) rfl ?_ | refine opf rfl (rfl) rfl ?_) | refine ovx (op := .mapup _ _ _ _) rfl ?_ | refine ov1 rfl ?_ | refine oi rfl rfl ‹_› (by exact rfl) ?_ | refine omk rfl rfl (Nat.le_of_ble_eq_true rfl) (ab (Nat.le_of_ble_eq_true rfl) (by decide)) rfl rfl rfl ?_ | refine oam rfl rfl rfl (Nat.le_of_ble_eq_true rfl) rfl rfl (ab (Nat.le_of_ble_eq_true rfl) (by decide)) rfl ?_ | refine oak rfl rfl rfl rfl (ab (Nat.le_of_ble_eq_true rfl) (by decide)) rfl ?_ | refine oq rfl rfl ‹_› ?_ | refine om rfl rfl ‹_› ?_ | apply o0) | (apply gR;first | apply rs | refine rr rfl rfl ?_ | apply rb | apply rk | apply rx | apply rl | apply rt | refine rd rfl rfl ?_ | refine rct rfl ‹_› ?_ | refine rcf rfl ‹_› ?_ | refine rct rfl (rfl) ?_ | refine rcf rfl (rfl) ?_) | (apply gK;first | apply ks | apply kb | apply kl | apply xb | apply xs | apply xl | refine xo (by decide) ?_ | apply kq) | (apply gF;first | (apply gFc;first | refine fw (bR ‹_› rfl rfl (by exact rfl) (o0 ⟨rfl,rfl⟩)) ?_ | refine fw (je ‹_› rfl rfl (by exact rfl) (by exact rfl) (o0 ⟨rfl,rfl⟩)) ?_ | refine fw (jd ‹_› rfl rfl rfl rfl rfl (by exact rfl) (by exact rfl) (by exact rfl) (o0 ⟨rfl,rfl⟩)) ?_) | (apply gFv;first | refine fw (jc rfl ‹_› rfl rfl rfl rfl rfl (by exact rfl) (by exact rfl) (by exact rfl) (o0 ⟨rfl,rfl⟩)) ?_ | refine fw (jb rfl ‹_› rfl rfl rfl rfl rfl rfl (by exact rfl) (by exact rfl) (by exact rfl) (o0 ⟨rfl,rfl⟩)) ?_) | (apply gFg;first | refine fz' rfl ?_ | refine fg rfl ‹_› rfl ?_ | refine ff rfl ‹_› ?_ | refine fg rfl (rfl) rfl ?_ | refine ff rfl (rfl) ?_ | refine fw (og rfl ‹_› (bR ‹_› rfl rfl (by exact rfl) (o0 ⟨rfl,rfl⟩))) ?_ | refine fw (og rfl ‹_› (je ‹_› rfl rfl (by exact rfl) (by exact rfl) (o0 ⟨rfl,rfl⟩))) ?_ | refine fw (og rfl ‹_› (jd ‹_› rfl rfl rfl rfl rfl (by exact rfl) (by exact rfl) (by exact rfl) (o0 ⟨rfl,rfl⟩))) ?_ | refine fw (og rfl ‹_› (jc rfl ‹_› rfl rfl rfl rfl rfl (by exact rfl) (by exact rfl) (by exact rfl) (o0 ⟨rfl,rfl⟩))) ?_ | refine fw (og rfl ‹_› (jb rfl ‹_› rfl rfl rfl rfl rfl rfl (by exact rfl) (by exact rfl) (by exact rfl) (o0 ⟨rfl,rfl⟩))) ?_ | refine fw (og rfl (rfl) (bR ‹_› rfl rfl (by exact rfl) (o0 ⟨rfl,rfl⟩))) ?_ | refine fw (og rfl (rfl) (je ‹_› rfl rfl (by exact rfl) (by exact rfl) (o0 ⟨rfl,rfl⟩))) ?_ | refine fw (og rfl (rfl) (jd ‹_› rfl rfl rfl rfl rfl (by exact rfl) (by exact rfl) (by exact rfl) (o0 ⟨rfl,rfl⟩))) ?_ | refine fw (og rfl (rfl) (jc rfl ‹_› rfl rfl rfl rfl rfl (by exact rfl) (by exact rfl) (by exact rfl) (o0 ⟨rfl,rfl⟩))) ?_ | refine fw (og rfl (rfl) (jb rfl ‹_› rfl rfl rfl rfl rfl rfl (by exact rfl) (by exact rfl) (by exact rfl) (o0 ⟨rfl,rfl⟩))) ?_ | refine fw (og rfl ‹_› (oi rfl rfl ‹_› (by exact rfl) (o0 ⟨rfl,rfl⟩))) ?_ | refine fw (og rfl (rfl) (oi rfl rfl ‹_› (by exact rfl) (o0 ⟨rfl,rfl⟩))) ?_) | (apply gFp;first | refine fpt rfl ‹_› rfl ?_ | refine fpf rfl ‹_› rfl ?_ | refine fpt rfl (rfl) rfl ?_ | refine fpf rfl (rfl) rfl ?_) | refine fw (ovx (op := .mapup _ _ _ _) rfl (o0 ⟨rfl,rfl⟩)) ?_ | refine fw (ov1 rfl (o0 ⟨rfl,rfl⟩)) ?_ | refine fi rfl rfl ‹_› (by exact rfl) ?_ | refine fw (omk rfl rfl (Nat.le_of_ble_eq_true rfl) (ab (Nat.le_of_ble_eq_true rfl) (by decide)) rfl rfl rfl (o0 ⟨rfl,rfl⟩)) ?_ | refine fw (oam rfl rfl rfl (Nat.le_of_ble_eq_true rfl) rfl rfl (ab (Nat.le_of_ble_eq_true rfl) (by decide)) rfl (o0 ⟨rfl,rfl⟩)) ?_ | refine fw (oak rfl rfl rfl rfl (ab (Nat.le_of_ble_eq_true rfl) (by decide)) rfl (o0 ⟨rfl,rfl⟩)) ?_ | refine fq rfl rfl ‹_› ?_ | refine fm rfl rfl ‹_› ?_ | apply fn0) | (apply gL;refine an4 rfl rfl rfl rfl ?_) | refine lt' rfl ?_);exact hR.h):P:=h ⟨r⟩
end Go.Proofs.YtncfpmehhfdipaaGreat
namespace Go.Proofs.YtncfpmehhfdipaaGreat
open Go.IntWalk
attribute [local irreducible] au
set_option maxHeartbeats 4000000
set_option maxRecDepth 100000
theorem ac (n:Nat) (h:n < 1000000000):IntKind.i64.wrap ((n:Int)+1)=((n+1:Nat):Int):=by rw [i64_in]<;>omega
theorem dI {x y:Int} (h:x=y):V.d (.int .i64 x)=V.d (.int .i64 y):=by rw [h]
theorem dB {x y:Bool} (h:x=y):V.d (.bool x)=V.d (.bool y):=by rw [h]
theorem cB {k:Nat} {live:List Nat} {code:VCode} {K:List Fr} {Q:Out->Env->aa->Prop} (vals:Nat->List V) (st:Nat->aa) (n:Nat)
 (hs : ∀ i,i < n->ah VP k live code (vals (i+1)) (st (i+1)) K Q->ah VP k live code (vals i) (st i) K Q) (hn:ah VP k live code (vals n) (st n) K Q):ah VP k live code (vals 0) (st 0) K Q:=by
 induction n with
 | zero=>exact hn
 | succ n ih=>exact ih (fun i hi=>hs i (by omega)) (hs n (by omega) hn)
theorem fj {k:Nat} {live:List Nat} {code:VCode} {K:List Fr} {Q:Out->Env->aa->Prop} {vs vs':List V} {s:aa} (h:ah VP k live code vs' s K Q) (he:vs=vs'):ah VP k live code vs s K Q:=he▸h
inductive Fo where
 | z
 | int (i:Int)
 | var (v:Nat)
 | no (a:Fo)
 | bin (o:Nat) (a b:Fo)
 | cond (a b c:Fo)
def fmD (o i:Int) (l:List D):D := .agg [.int .i64 o,.int .i64 i,.bool false,.slice [],.slice [],.slice l]
def Fo.op:Fo->Int
 | .z=>0
 | .int _=>1
 | .var _=>3
 | .no _=>4
 | .bin o _ _=>o
 | .cond _ _ _=>13
def Fo.arg:Fo->Int
 | .int i=>i
 | .var v=>v
 | _=>0
def Fo.kd:Fo->List D
 | .no a=>[fmD a.op a.arg a.kd]
 | .bin _ a b=>[fmD a.op a.arg a.kd,fmD b.op b.arg b.kd]
 | .cond a b c=>[fmD a.op a.arg a.kd,fmD b.op b.arg b.kd,fmD c.op c.arg c.kd]
 | _=>[]
def Fo.d (f:Fo):D:=fmD f.op f.arg f.kd
def Fo.dp:Fo->Nat
 | .no a=>a.dp+1
 | .bin _ a b=>max a.dp b.dp+1
 | .cond a b c=>max (max a.dp b.dp) c.dp+1
 | _=>1
def Fo.sz:Fo->Nat
 | .no a=>a.sz+1
 | .bin _ a b=>a.sz+b.sz+1
 | .cond a b c=>a.sz+b.sz+c.sz+1
 | _=>1
def FOk (n:Nat):Fo->Prop
 | .z=>False
 | .int i => -1<=i/\i<=3
 | .var v=>v < n
 | .no a=>FOk n a
 | .bin o a b=>(o=5\/o=6\/o=7\/o=8\/o=9\/o=10\/o=11\/o=12)/\FOk n a/\FOk n b
 | .cond a b c=>FOk n a/\FOk n b/\FOk n c
structure Ce where
 k:Int
 lo:Int
 hi:Int
def Ce.d (c:Ce):D := .agg [.int .i64 c.k,.int .i64 c.lo,.int .i64 c.hi]
def Ce.Ok (c:Ce):Prop:=c=⟨1,0,1⟩ \/ ∃ lo hi,c=⟨2,lo,hi⟩ /\ -1<=lo/\lo<=1/\lo < hi/\hi<=lo+3
def rz:D := .agg [.bool false,.slice [],.slice []]
def scR (p:Nat) (cs:List Ce):D := .iptr [.int .i64 p,.slice (cs.map Ce.d),.slice [],.int .i64 0,.bool false] 0
theorem nZ {cs:List Ce} (hc : ∀ c∈cs,c.Ok) {v:Nat} (hv:v < cs.length) : ∃ c,c.Ok/\(cs.map Ce.d)[v]?=some (Ce.d c):=by
 refine ⟨cs[v],hc _ (List.getElem_mem _),?_⟩
 rw [List.getElem?_map,List.getElem?_eq_getElem hv];rfl
theorem asD (o:Nat) (h:o=5\/o=6\/o=7\/o=8\/o=9\/o=10\/o=11\/o=12):Ret VP (.fn 205) [.d (.int .i64 o)] [] (.d (.int .i64 2)) []:=by
 rcases h with rfl | rfl | rfl | rfl | rfl | rfl | rfl | rfl
 all_goals (refine ret_of rfl rfl (r0 ?_);refine Z2 ?_;rfl)
theorem am4:Ret VP (.fn 205) [.d (.int .i64 1)] [] (.d (.int .i64 0)) []/\Ret VP (.fn 205) [.d (.int .i64 3)] [] (.d (.int .i64 0)) []/\Ret VP (.fn 205) [.d (.int .i64 4)] [] (.d (.int .i64 1)) []/\Ret VP (.fn 205) [.d (.int .i64 13)] [] (.d (.int .i64 3)) []:=by
 refine ⟨?_,?_,?_,?_⟩
 all_goals (refine ret_of rfl rfl (r0 ?_);refine Z2 ?_;rfl)
theorem bu:Ret VP (.fn 206) [.d rz] [] (.d (.bool true)) []:=by
 have h:Ret VP (.fn 239) [.d rz] [] (.d (.bool true)) []:=by
  refine ret_of rfl rfl (r0 ?_)
  refine Z2 ?_
  rfl
 refine ret_of rfl rfl (r0 ?_)
 refine Z2 ?_
 rfl
theorem xj (f:Fo) : ∀ m:Nat,f.dp < m->m<=1000->Ret VP (.fn 202) [.d f.d,.d (.int .i64 m)] [] (.d (.int .i64 f.dp)) []:=by
 induction f with
 | z =>
   intro m h1 h2
   have t:¬ (m:Int)<=1:=by simp only [Fo.dp] at h1;omega
   refine ret_of rfl rfl (r0 ?_)
   (have hz1:=decide_eq_false t;refine Z2 ?_)
   (refine fe rfl (dI ?_) rfl;(try simp only [Fo.dp,decide_eq_true_eq,gt_iff_lt]);(try simp (disch:=omega) only [i64_in]);try omega)
 | int i =>
   intro m h1 h2
   have t:¬ (m:Int)<=1:=by simp only [Fo.dp] at h1;omega
   refine ret_of rfl rfl (r0 ?_)
   (have hz2:=decide_eq_false t;refine Z2 ?_)
   (refine fe rfl (dI ?_) rfl;(try simp only [Fo.dp,decide_eq_true_eq,gt_iff_lt]);(try simp (disch:=omega) only [i64_in]);try omega)
 | var v =>
   intro m h1 h2
   have t:¬ (m:Int)<=1:=by simp only [Fo.dp] at h1;omega
   refine ret_of rfl rfl (r0 ?_)
   (have hz3:=decide_eq_false t;refine Z2 ?_)
   (refine fe rfl (dI ?_) rfl;(try simp only [Fo.dp,decide_eq_true_eq,gt_iff_lt]);(try simp (disch:=omega) only [i64_in]);try omega)
 | no a ha =>
   intro m h1 h2
   simp only [Fo.dp] at h1
   have t:¬ (m:Int)<=1:=by omega
   have hw:IntKind.i64.wrap ((m:Int) - 1)=((m - 1:Nat):Int):=by rw [i64_in]<;>omega
   have ha:=ha (m - 1) (by omega) (by omega)
   rw [<- hw] at ha
   refine ret_of rfl rfl (r0 ?_)
   (have hz4:=decide_eq_false t;refine Z2 ?_)
   (refine fe rfl (dI ?_) rfl;(try simp only [Fo.dp,decide_eq_true_eq,gt_iff_lt]);(try simp (disch:=omega) only [i64_in]);try omega)
 | bin o a b ha hb =>
   intro m h1 h2
   simp only [Fo.dp] at h1
   have t:¬ (m:Int)<=1:=by omega
   have hw:IntKind.i64.wrap ((m:Int) - 1)=((m - 1:Nat):Int):=by rw [i64_in]<;>omega
   have ha:=ha (m - 1) (by omega) (by omega)
   have hb:=hb (m - 1) (by omega) (by omega)
   rw [<- hw] at ha hb
   refine ret_of rfl rfl (r0 ?_)
   (have hz5:=decide_eq_false t;refine Z2 ?_)
   (refine fe rfl (dI ?_) rfl;(try simp only [Fo.dp,decide_eq_true_eq,gt_iff_lt]);(try simp (disch:=omega) only [i64_in]);try omega)
 | cond a b c ha hb hc =>
   intro m h1 h2
   simp only [Fo.dp] at h1
   have t:¬ (m:Int)<=1:=by omega
   have hw:IntKind.i64.wrap ((m:Int) - 1)=((m - 1:Nat):Int):=by rw [i64_in]<;>omega
   have ha:=ha (m - 1) (by omega) (by omega)
   have hb:=hb (m - 1) (by omega) (by omega)
   have hc:=hc (m - 1) (by omega) (by omega)
   rw [<- hw] at ha hb hc
   refine ret_of rfl rfl (r0 ?_)
   (have hz6:=decide_eq_false t;refine Z2 ?_)
   (refine fe rfl (dI ?_) rfl;(try simp only [Fo.dp,decide_eq_true_eq,gt_iff_lt]);(try simp (disch:=omega) only [i64_in]);try omega)
theorem ju (f:Fo) : ∀ m:Nat,f.sz<=m->m<=1000000->Ret VP (.fn 128) [.d f.d,.d (.int .i64 m)] [] (.d (.int .i64 f.sz)) []:=by
 induction f with
 | z =>
   intro m h1 h2
   refine ret_of rfl rfl (r0 ?_)
   refine Z2 ?_
   rfl
 | int i =>
   intro m h1 h2
   refine ret_of rfl rfl (r0 ?_)
   refine Z2 ?_
   rfl
 | var v =>
   intro m h1 h2
   refine ret_of rfl rfl (r0 ?_)
   refine Z2 ?_
   rfl
 | no a ha =>
   intro m h1 h2
   simp only [Fo.sz] at h1
   have t:(1:Int)<=(m:Int):=by omega
   have hw:IntKind.i64.wrap ((m:Int) - 1)=((m - 1:Nat):Int):=by rw [i64_in]<;>omega
   have ha:=ha (m - 1) (by omega) (by omega)
   rw [<- hw] at ha
   refine ret_of rfl rfl (r0 ?_)
   (have hz1:=decide_eq_true t;refine Z2 ?_)
   (refine fe rfl (dI ?_) rfl;(try simp only [Fo.sz,decide_eq_true_eq,gt_iff_lt]);(try simp (disch:=omega) only [i64_in]);try omega)
 | bin o a b ha hb =>
   intro m h1 h2
   simp only [Fo.sz] at h1
   have t:(1:Int)<=(m:Int):=by omega
   have hw:IntKind.i64.wrap ((m:Int) - 1)=((m - 1:Nat):Int):=by rw [i64_in]<;>omega
   have hn:IntKind.i64.wrap ((1:Int)+(a.sz:Int))=((1+a.sz:Nat):Int):=by rw [i64_in]<;>omega
   have hw2:IntKind.i64.wrap ((m:Int) - IntKind.i64.wrap ((1:Int)+(a.sz:Int)))=((m - 1 - a.sz:Nat):Int):=by rw [hn,i64_in]<;>omega
   have t2:IntKind.i64.wrap ((1:Int)+(a.sz:Int))<=(m:Int):=by rw [hn];omega
   have ha:=ha (m - 1) (by omega) (by omega)
   have hb:=hb (m - 1 - a.sz) (by omega) (by omega)
   rw [<- hw] at ha
   rw [<- hw2] at hb
   refine ret_of rfl rfl (r0 ?_)
   (have hz2:=decide_eq_true t;have hz3:=decide_eq_true t2;refine Z2 ?_)
   refine fe rfl (dI ?_) rfl
   rw [hn,i64_in]<;>(try simp only [Fo.sz])<;>omega
 | cond a b c ha hb hc =>
   intro m h1 h2
   simp only [Fo.sz] at h1
   have t:(1:Int)<=(m:Int):=by omega
   have hw:IntKind.i64.wrap ((m:Int) - 1)=((m - 1:Nat):Int):=by rw [i64_in]<;>omega
   have hn:IntKind.i64.wrap ((1:Int)+(a.sz:Int))=((1+a.sz:Nat):Int):=by rw [i64_in]<;>omega
   have hn2:IntKind.i64.wrap (IntKind.i64.wrap ((1:Int)+(a.sz:Int))+(b.sz:Int))=((1+a.sz+b.sz:Nat):Int):=by rw [hn,i64_in]<;>omega
   have hw2:IntKind.i64.wrap ((m:Int) - IntKind.i64.wrap ((1:Int)+(a.sz:Int)))=((m - 1 - a.sz:Nat):Int):=by rw [hn,i64_in]<;>omega
   have hw3:IntKind.i64.wrap ((m:Int) - IntKind.i64.wrap (IntKind.i64.wrap ((1:Int)+(a.sz:Int))+(b.sz:Int)))=((m - 1 - a.sz - b.sz:Nat):Int):=by rw [hn2,i64_in]<;>omega
   have t2:IntKind.i64.wrap ((1:Int)+(a.sz:Int))<=(m:Int):=by rw [hn];omega
   have t3:IntKind.i64.wrap (IntKind.i64.wrap ((1:Int)+(a.sz:Int))+(b.sz:Int))<=(m:Int):=by rw [hn2];omega
   have ha:=ha (m - 1) (by omega) (by omega)
   have hb:=hb (m - 1 - a.sz) (by omega) (by omega)
   have hc:=hc (m - 1 - a.sz - b.sz) (by omega) (by omega)
   rw [<- hw] at ha
   rw [<- hw2] at hb
   rw [<- hw3] at hc
   refine ret_of rfl rfl (r0 ?_)
   (have hz4:=decide_eq_true t;have hz5:=decide_eq_true t2;have hz6:=decide_eq_true t3;refine Z2 ?_)
   refine fe rfl (dI ?_) rfl
   rw [hn2,i64_in]<;>(try simp only [Fo.sz])<;>omega
theorem fN (f:Fo) (hd:f.dp<=10) (hs:f.sz<=100):Ret VP (.fn 161) [.d f.d] [] (.d (.bool true)) []:=by
 have h1:=xj f 201 (by omega) (by omega)
 have h2:=ju f 20000 (by omega) (by omega)
 have t1:(f.dp:Int)<=200:=by omega
 have t2:(f.sz:Int)<=20000:=by omega
 refine ret_of rfl rfl (r0 ?_)
 (have hz7:=decide_eq_true t1;have hz8:=decide_eq_true t2;refine Z2 ?_)
 exact fe rfl (dB (decide_eq_true t2)) rfl
theorem nV (p:Nat) (cs:List Ce) (hcs : ∀ c∈cs,c.Ok) (f:Fo):FOk cs.length f->Ret VP (.fn 166) [.d (scR p cs),.d f.d] [] (.d (.tuple [.bool true,.bool false])) []:=by
 have ⟨a1,a3,a4,a13⟩:=am4
 have hb:=bu
 induction f with
 | z=>exact fun h=>h.elim
 | int i =>
   intro _
   refine ret_of rfl rfl (r0 ?_)
   refine Z2 ?_
   rfl
 | var v =>
   intro h
   have hv:v < cs.length:=h
   obtain ⟨c,hok,hg⟩:=nZ hcs hv
   have t1:¬ (v:Int) < 0:=by omega
   have t2:¬ ((v:Int)>=((cs.map Ce.d).length:Nat)):=by rw [List.length_map];omega
   rcases hok with rfl | ⟨lo,hi,rfl,_⟩
   all_goals (refine ret_of rfl rfl (r0 ?_);(have hz9:=decide_eq_false t1;have hz10:=decide_eq_false t2;refine Z2 ?_);rfl)
 | no a ha =>
   intro h
   have ha:=ha h
   refine ret_of rfl rfl (r0 ?_)
   refine Z2 ?_
   rfl
 | bin o a b ha hb' =>
   intro h
   have h1:=asD o h.1
   have ha:=ha h.2.1
   have hb':=hb' h.2.2
   rcases h.1 with rfl | rfl | rfl | rfl | rfl | rfl | rfl | rfl
   all_goals (refine ret_of rfl rfl (r0 ?_);refine Z2 ?_;rfl)
 | cond a b c ha hb' hc =>
   intro h
   have ha:=ha h.1
   have hb':=hb' h.2.1
   have hc:=hc h.2.2
   refine ret_of rfl rfl (r0 ?_)
   refine Z2 ?_
   rfl
theorem pU (p:Nat) (cs:List Ce) (hcs : ∀ c∈cs,c.Ok) (f:Fo) (h:FOk cs.length f):Ret VP (.fn 168) [.d (scR p cs),.d f.d] [] (.d (.bool true)) []:=by
 have h:=nV p cs hcs f h
 refine ret_of rfl rfl (r0 ?_)
 refine Z2 ?_
 rfl
theorem ti:Ret VP (.fn 203) [.d Fo.z.d] [] (.d (.bool true)) []:=by
 have hb:=bu
 refine ret_of rfl rfl (r0 ?_)
 refine Z2 ?_
 rfl
end Go.Proofs.YtncfpmehhfdipaaGreat
namespace Go.Proofs.YtncfpmehhfdipaaGreat
open Go.IntWalk
attribute [local irreducible] au
set_option maxHeartbeats 4000000
set_option maxRecDepth 100000
theorem vc {x y:V} {l m:List V} (h:x=y) (h':l=m):x::l=y::m:=by rw [h,h']
def oD (o:Nat):D := .int .i64 o
inductive Di where
 | z
 | tab (low:Int) (w:List D)
def Di.k:Di->Int
 | .z=>0
 | .tab _ _=>1
def Di.lo:Di->Int
 | .z=>0
 | .tab l _=>l
def Di.w:Di->List D
 | .z=>[]
 | .tab _ w=>w
def dsD (k lo:Int) (w:List D):D := .agg [.int .i64 k,.int .i64 lo,.int .i64 0,.slice w,.bool false,.slice [],.slice [],.bool false,.slice [],.slice []]
def Di.d (t:Di):D:=dsD t.k t.lo t.w
inductive Cm where
 | mk (k v s:Int) (f:Fo) (t:Di) (a b:List Cm) (g:List Fo) (o:List Nat)
def cmD (k v s:Int) (f:Fo) (t:Di) (a b g o:List D):D := .agg [.int .i64 k,.int .i64 v,.int .i64 s,.int .i64 f.op,.int .i64 f.arg,.bool false,.slice [],.slice [],.slice f.kd,.int .i64 t.k,.int .i64 t.lo,.int .i64 0,.slice t.w,.bool false,.slice [],.slice [],.bool false,.slice [],.slice [],.slice a,.slice b,.slice g,.slice o]
mutual
def Cm.d:Cm->D
 | .mk k v s f t a b g o=>cmD k v s f t (Cm.ds a) (Cm.ds b) (g.map Fo.d) (o.map oD)
def Cm.ds:List Cm->List D
 | []=>[]
 | c::l=>c.d::Cm.ds l
end
theorem Cm.ds_eq (l:List Cm):Cm.ds l=l.map Cm.d:=by
 induction l with
 | nil=>rfl
 | cons c l ih=>rw [Cm.ds,ih];rfl
theorem Cm.d_eq (k v s:Int) (f:Fo) (t:Di) (a b:List Cm) (g:List Fo) (o:List Nat):(Cm.mk k v s f t a b g o).d=cmD k v s f t (a.map Cm.d) (b.map Cm.d) (g.map Fo.d) (o.map oD):=by
 rw [Cm.d,Cm.ds_eq,Cm.ds_eq]
theorem bH {l:List Cm} {i:Nat} (h:i < l.length) {k v s:Int} {f:Fo} {t:Di} {a b:List Cm} {g:List Fo} {o:List Nat} (he:l[i] = .mk k v s f t a b g o):(l.map Cm.d)[i]?=some (cmD k v s f t (a.map Cm.d) (b.map Cm.d) (g.map Fo.d) (o.map oD)):=by
 rw [List.getElem?_map,List.getElem?_eq_getElem h,he,Option.map_some,Cm.d_eq]
def cU (n:Nat) (f:Fo):Prop:=FOk n f/\f.dp<=3/\f.sz<=40
inductive Ok (n:Nat) (W:List (List D)):Nat->Cm->Prop
 | set {h:Nat} (o:Nat) (f:Fo) (ho:o < n) (hf:cU n f):Ok n W (h+1) (.mk 1 0 0 .z .z [] [] [f] [o])
 | set2 {h:Nat} (o u:Nat) (f g:Fo) (ho:o < n) (hu:u < n) (hn:o≠u) (hf:cU n f) (hg:cU n g):Ok n W (h+1) (.mk 1 0 0 .z .z [] [] [f,g] [o,u])
 | draw {h:Nat} (v s:Nat) (lo:Int) (w:List D) (hv:v < n) (hs:s < 100) (hw:w∈W) (h1 : -1<=lo) (h2:lo<=1):Ok n W (h+1) (.mk 2 v s .z (.tab lo w) [] [] [] [])
 | iff {h:Nat} (f:Fo) (a b:List Cm) (hf:cU n f) (ha:a.length<=2) (hb:b.length<=1) (ca : ∀ c∈a,Ok n W h c) (cb : ∀ c∈b,Ok n W h c):Ok n W (h+1) (.mk 3 0 0 f .z a b [] [])
 | obs {h:Nat} (f:Fo) (hf:cU n f):Ok n W (h+1) (.mk 4 0 0 f .z [] [] [] [])
 | cut {h:Nat} : Ok n W (h+1) (.mk 5 0 0 .z .z [] [] [] [])
structure View (n:Nat) (W:List (List D)) (h:Nat) (k v s:Int) (f:Fo) (t:Di) (a b:List Cm) (g:List Fo) (o:List Nat):Prop where
 fd:f.dp<=3
 fs:f.sz<=40
 ha:a.length<=2
 hb:b.length<=1
 ca : ∀ c∈a,Ok n W h c
 cb : ∀ c∈b,Ok n W h c
 gg:g=[]\/(∃ x,g=[x]/\cU n x) \/ ∃ x y,g=[x,y]/\cU n x/\cU n y
 ht:t = .z \/ ∃ lo w,t = .tab lo w/\w∈W /\ -1<=lo/\lo<=1
theorem Ok.view {n:Nat} {W:List (List D)} {h:Nat} {k v s:Int} {f:Fo} {t:Di} {a b:List Cm} {g:List Fo} {o:List Nat} (hc:Ok n W (h+1) (.mk k v s f t a b g o)):View n W h k v s f t a b g o:=by
 cases hc with
 | set o f ho hf=>exact ⟨by decide,by decide,by simp,by simp,by simp,by simp,.inr (.inl ⟨_,rfl,hf⟩),.inl rfl⟩
 | set2 o u f g ho hu hn hf hg=>exact ⟨by decide,by decide,by simp,by simp,by simp,by simp,.inr (.inr ⟨_,_,rfl,hf,hg⟩),.inl rfl⟩
 | draw v s lo w hv hs hw h1 h2=>exact ⟨by decide,by decide,by simp,by simp,by simp,by simp,.inl rfl,.inr ⟨_,_,rfl,hw,h1,h2⟩⟩
 | iff f a b hf ha hb ca cb=>exact ⟨hf.2.1,hf.2.2,ha,hb,ca,cb,.inl rfl,.inl rfl⟩
 | obs f hf=>exact ⟨hf.2.1,hf.2.2,by simp,by simp,by simp,by simp,.inl rfl,.inl rfl⟩
 | cut=>exact ⟨by decide,by decide,by simp,by simp,by simp,by simp,.inl rfl,.inl rfl⟩
theorem gf {n:Nat} {W:List (List D)} {c:Cm} (h:Ok n W 0 c):False:=by cases h
theorem b5 {n:Nat} {W:List (List D)} {l:List Cm} (h : ∀ c∈l,Ok n W 0 c):l=[]:=by
 cases l with
 | nil=>rfl
 | cons c l=>exact (gf (h c (by simp))).elim
mutual
def Cm.lev:Cm->Nat
 | .mk _ _ _ _ _ a b _ _=>max (Cm.levs a) (Cm.levs b)
def Cm.levs:List Cm->Nat
 | []=>0
 | c::l=>max (c.lev+1) (Cm.levs l)
end
mutual
def Cm.cnt:Cm->Nat
 | .mk _ _ _ _ _ a b _ _=>1+Cm.cnts a+Cm.cnts b
def Cm.cnts:List Cm->Nat
 | []=>0
 | c::l=>c.cnt+Cm.cnts l
end
def gsz (g:List Fo):Nat:=(g.map Fo.sz).sum
mutual
def Cm.tot:Cm->Nat
 | .mk k _ _ f _ a b g _=>(if k=3\/k=4 then f.sz else 0)+gsz g+Cm.tots a+Cm.tots b
def Cm.tots:List Cm->Nat
 | []=>0
 | c::l=>c.tot+Cm.tots l
end
theorem mI (l m:List Cm):Cm.levs (l++m)=max (Cm.levs l) (Cm.levs m):=by
 induction l with
 | nil=>simp [Cm.levs]
 | cons c l ih=>rw [List.cons_append,Cm.levs,Cm.levs,ih];omega
theorem iY (l m:List Cm):Cm.cnts (l++m)=Cm.cnts l+Cm.cnts m:=by
 induction l with
 | nil=>simp [Cm.cnts]
 | cons c l ih=>rw [List.cons_append,Cm.cnts,Cm.cnts,ih];omega
theorem ip (l m:List Cm):Cm.tots (l++m)=Cm.tots l+Cm.tots m:=by
 induction l with
 | nil=>simp [Cm.tots]
 | cons c l ih=>rw [List.cons_append,Cm.tots,Cm.tots,ih];omega
theorem lI {l:List Cm} {i:Nat} (h:i < l.length):Cm.levs (l.take (i+1))=max (Cm.levs (l.take i)) (l[i].lev+1):=by
 rw [List.take_succ_eq_append_getElem h,mI,Cm.levs,Cm.levs];omega
theorem fR {l:List Cm} {i:Nat} (h:i < l.length):Cm.cnts (l.take (i+1))=Cm.cnts (l.take i)+l[i].cnt:=by
 rw [List.take_succ_eq_append_getElem h,iY,Cm.cnts,Cm.cnts];omega
theorem kZ {l:List Cm} {i:Nat} (h:i < l.length):Cm.tots (l.take (i+1))=Cm.tots (l.take i)+l[i].tot:=by
 rw [List.take_succ_eq_append_getElem h,ip,Cm.tots,Cm.tots];omega
theorem kD {n:Nat} {W:List (List D)} : ∀ (h:Nat) (l:List Cm),(∀ c∈l,Ok n W h c)->Cm.levs l<=h:=by
 intro h
 induction h with
 | zero=>intro l hl;rw [b5 hl];simp [Cm.levs]
 | succ h ih =>
   intro l
   induction l with
   | nil=>intro _;simp [Cm.levs]
   | cons c l ihl =>
     intro hl
     have h1:=ihl fun c hc=>hl c (by simp [hc])
     have h2:=hl c (by simp)
     obtain ⟨k,v,s,f,t,a,b,g,o⟩:=c
     have hv:=h2.view
     have:=ih a hv.ca
     have:=ih b hv.cb
     simp only [Cm.levs,Cm.lev];omega
def cap:Nat->Nat
 | 0=>0
 | h+1=>1+3*cap h
theorem xp {n:Nat} {W:List (List D)} : ∀ (h:Nat) (l:List Cm),(∀ c∈l,Ok n W h c)->Cm.cnts l<=l.length*cap h:=by
 intro h
 induction h with
 | zero=>intro l hl;rw [b5 hl];simp [Cm.cnts]
 | succ h ih =>
   intro l
   induction l with
   | nil=>intro _;simp [Cm.cnts]
   | cons c l ihl =>
     intro hl
     have h1:=ihl fun c hc=>hl c (by simp [hc])
     have h2:=hl c (by simp)
     obtain ⟨k,v,s,f,t,a,b,g,o⟩:=c
     have hv:=h2.view
     have h3:=ih a hv.ca
     have h4:=ih b hv.cb
     have h5:a.length*cap h<=2*cap h:=Nat.mul_le_mul_right _ hv.ha
     have h6:b.length*cap h<=1*cap h:=Nat.mul_le_mul_right _ hv.hb
     have e:(Cm.mk k v s f t a b g o::l).length*cap (h+1)=l.length*cap (h+1)+cap (h+1):=by rw [List.length_cons,Nat.succ_mul]
     have e2:cap (h+1)=1+3*cap h:=rfl
     rw [e]
     simp only [Cm.cnts,Cm.cnt]
     omega
theorem vt {n:Nat} {W:List (List D)} : ∀ (h:Nat) (l:List Cm),(∀ c∈l,Ok n W h c)->Cm.tots l<=l.length*(120*cap h):=by
 intro h
 induction h with
 | zero=>intro l hl;rw [b5 hl];simp [Cm.tots]
 | succ h ih =>
   intro l
   induction l with
   | nil=>intro _;simp [Cm.tots]
   | cons c l ihl =>
     intro hl
     have h1:=ihl fun c hc=>hl c (by simp [hc])
     have h2:=hl c (by simp)
     obtain ⟨k,v,s,f,t,a,b,g,o⟩:=c
     have hv:=h2.view
     have h3:=ih a hv.ca
     have h4:=ih b hv.cb
     have h5:a.length*(120*cap h)<=2*(120*cap h):=Nat.mul_le_mul_right _ hv.ha
     have h6:b.length*(120*cap h)<=1*(120*cap h):=Nat.mul_le_mul_right _ hv.hb
     have h7:gsz g<=80:=by
      rcases hv.gg with rfl | ⟨x,rfl,hx⟩ | ⟨x,y,rfl,hx,hy⟩
      · simp [gsz]
      · have:=hx.2.2;simp [gsz];omega
      · have:=hx.2.2;have:=hy.2.2;simp [gsz];omega
     have h8:(if k=3\/k=4 then f.sz else 0)<=40:=by have:=hv.fs;split<;>omega
     have e:(Cm.mk k v s f t a b g o::l).length*(120*cap (h+1))=l.length*(120*cap (h+1))+120*cap (h+1):=by rw [List.length_cons,Nat.succ_mul]
     have e2:cap (h+1)=1+3*cap h:=rfl
     rw [e]
     simp only [Cm.tots,Cm.tot]
     omega
end Go.Proofs.YtncfpmehhfdipaaGreat
namespace Go.Proofs.YtncfpmehhfdipaaGreat
open Go.IntWalk
attribute [local irreducible] au
set_option maxHeartbeats 4000000
set_option maxRecDepth 100000
theorem nP {l:List Cm} (h:l≠[]):1<=Cm.levs l:=by
 cases l with
 | nil=>exact absurd rfl h
 | cons c l=>simp only [Cm.levs];omega
theorem dd {α:Type} {g:α->D} {l:List α} {i:Nat} (h:i < l.length):decide ((i:Int) < (((l.map g).length:Nat):Int))=true:=decide_eq_true (by rw [List.length_map];omega)
theorem de {α:Type} {g:α->D} {l:List α} : decide ((l.length:Int) < (((l.map g).length:Nat):Int))=false:=decide_eq_false (by rw [List.length_map];omega)
theorem tq {n:Nat} {W:List (List D)} : ∀ (h:Nat) (l:List Cm),(∀ c∈l,Ok n W h c)->l.length<=8 -> ∀ m:Nat,h < m->m<=1000->Ret VP (.fn 125) [.d (.slice (l.map Cm.d)),.d (.int .i64 m)] [] (.d (.int .i64 (Cm.levs l:Nat))) []:=by
 have hnil : ∀ m:Nat,Ret VP (.fn 125) [.d (.slice (([]:List Cm).map Cm.d)),.d (.int .i64 m)] [] (.d (.int .i64 (Cm.levs []:Nat))) []:=by
  intro m
  refine ret_of rfl rfl (r0 ?_)
  refine Z2 ?_
  rfl
 intro h
 induction h with
 | zero=>intro l hl _ m _ _;rw [b5 hl];exact hnil m
 | succ h ih =>
   intro l hl h8 m hm hm2
   by_cases h0:l=[]
   · subst h0;exact hnil m
   have hp:=nP h0
   have hle:=kD (h+1) l hl
   have t0:((((l.map Cm.d).length:Nat):Int)==0)=false:=by
    have:l.length≠0:=fun h=>h0 (List.length_eq_zero_iff.1 h)
    rw [List.length_map];simp;exact h0
   have t1:¬ (m:Int)<=0:=by omega
   have hw:IntKind.i64.wrap ((m:Int) - 1)=((m - 1:Nat):Int):=by rw [i64_in]<;>omega
   refine ret_of rfl rfl (r0 ?_)
   (have hz1:=decide_eq_false t1;refine Z1 ?_)
   refine af rfl ?_
   refine cB (fun i=>[.d (.slice (l.map Cm.d)),.d (.int .i64 m),.d (.int .i64 (Cm.levs (l.take i) - 1:Nat)),.d (.int .i64 i)]) (fun _=>[]) l.length (fun i hi hn => ?_) ?_
   · have hwi:=ac i (by omega)
     rcases hc:l[i] with ⟨k,v,s,f,t,a,b,g,o⟩
     have hg:=bH hi hc
     have hv:=(hc▸hl _ (List.getElem_mem hi)).view
     have h1:=ih a hv.ca (by have:=hv.ha;omega) (m - 1) (by omega) (by omega)
     have h2:=ih b hv.cb (by have:=hv.hb;omega) (m - 1) (by omega) (by omega)
     rw [<- hw] at h1 h2
     have ht:=dd (g:=Cm.d) hi
     unfold ah
     refine Z1 ?_
     refine af rfl (fj hn ?_)
     exact vc rfl (vc rfl (vc (dI (by rw [lI hi,hc];simp only [Cm.lev,decide_eq_true_eq,gt_iff_lt];omega)) (vc (dI hwi) rfl)))
   · have hf:=de (g:=Cm.d) (l:=l)
     unfold ah
     refine Z1 ?_
     refine fe rfl (dI ?_) rfl
     rw [List.take_length,i64_in]<;>omega
theorem l6 {h:Nat} (hh:h<=4):cap h<=40:=by
 rcases (by omega:h=0\/h=1\/h=2\/h=3\/h=4) with rfl | rfl | rfl | rfl | rfl<;>decide
theorem bU {n:Nat} {W:List (List D)} {h:Nat} {l:List Cm} (hh:h<=4) (hl : ∀ c∈l,Ok n W h c) (h8:l.length<=8):Cm.cnts l<=320:=by
 have:=xp h l hl
 have:=Nat.mul_le_mul h8 (l6 hh)
 omega
theorem fV {n:Nat} {W:List (List D)} {h:Nat} {l:List Cm} (hh:h<=4) (hl : ∀ c∈l,Ok n W h c) (h8:l.length<=8):Cm.tots l<=38400:=by
 have:=vt h l hl
 have:=Nat.mul_le_mul h8 (Nat.mul_le_mul_left 120 (l6 hh))
 omega
theorem cu (l:List Cm) (i:Nat):Cm.cnts (l.take i)<=Cm.cnts l:=by
 have:=iY (l.take i) (l.drop i)
 rw [List.take_append_drop] at this
 omega
theorem gu (l:List Cm) (i:Nat):Cm.tots (l.take i)<=Cm.tots l:=by
 have:=ip (l.take i) (l.drop i)
 rw [List.take_append_drop] at this
 omega
theorem xn {n:Nat} {W:List (List D)} : ∀ (h:Nat) (l:List Cm),h<=4->(∀ c∈l,Ok n W h c)->l.length<=8 -> ∀ m:Nat,h < m->m<=1000->Ret VP (.fn 127) [.d (.slice (l.map Cm.d)),.d (.int .i64 m)] [] (.d (.int .i64 (Cm.cnts l:Nat))) []:=by
 have hnil : ∀ m:Nat,Ret VP (.fn 127) [.d (.slice (([]:List Cm).map Cm.d)),.d (.int .i64 m)] [] (.d (.int .i64 (Cm.cnts []:Nat))) []:=by
  intro m
  refine ret_of rfl rfl (r0 ?_)
  refine Z2 ?_
  rfl
 intro h
 induction h with
 | zero=>intro l _ hl _ m _ _;rw [b5 hl];exact hnil m
 | succ h ih =>
   intro l hh hl h8 m hm hm2
   have hsm:=bU hh hl h8
   have t1:(m:Int) > 0:=by omega
   have hw:IntKind.i64.wrap ((m:Int) - 1)=((m - 1:Nat):Int):=by rw [i64_in]<;>omega
   refine ret_of rfl rfl (r0 ?_)
   refine Z1 ?_
   refine af rfl ?_
   refine cB (fun i=>[.d (.slice (l.map Cm.d)),.d (.int .i64 m),.d (.int .i64 (Cm.cnts (l.take i):Nat)),.d (.int .i64 i)]) (fun _=>[]) l.length (fun i hi hn => ?_) ?_
   · have hwi:=ac i (by omega)
     rcases hc:l[i] with ⟨k,v,s,f,t,a,b,g,o⟩
     have hg:=bH hi hc
     have hv:=(hc▸hl _ (List.getElem_mem hi)).view
     have h1:=ih a (by omega) hv.ca (by have:=hv.ha;omega) (m - 1) (by omega) (by omega)
     have h2:=ih b (by omega) hv.cb (by have:=hv.hb;omega) (m - 1) (by omega) (by omega)
     rw [<- hw] at h1 h2
     have ht:=dd (g:=Cm.d) hi
     have hs1:=cu l (i+1)
     have hs2:=fR hi
     rw [hc,Cm.cnt] at hs2
     unfold ah
     (have hz2:=decide_eq_true t1;refine Z1 ?_)
     refine af rfl (fj hn ?_)
     exact vc rfl (vc rfl (vc (dI (by rw [hs2];((try simp only [decide_eq_true_eq,gt_iff_lt]);(try simp (disch:=omega) only [i64_in]);try omega))) (vc (dI hwi) rfl)))
   · have hf:=de (g:=Cm.d) (l:=l)
     unfold ah
     refine Z1 ?_
     refine fe rfl (dI ?_) rfl
     rw [List.take_length]
theorem sj {n:Nat} {W:List (List D)} {h:Nat} {l:List Cm} (hh:h<=4) (hl : ∀ c∈l,Ok n W h c) (h8:l.length<=8):Ret VP (.fn 79) [.d (.slice (l.map Cm.d))] [] (.d (.int .i64 (Cm.cnts l:Nat))) []:=by
 have h1:=xn h l hh hl h8 200 (by omega) (by omega)
 refine ret_of rfl rfl (r0 ?_)
 refine Z1 ?_
 rfl
theorem wR {n:Nat} {W:List (List D)} : ∀ (h:Nat) (l:List Cm),(∀ c∈l,Ok n W h c)->l.length<=8->Ret VP (.fn 126) [.d (.slice (l.map Cm.d))] [] (.d (.bool true)) []:=by
 have hnil:Ret VP (.fn 126) [.d (.slice (([]:List Cm).map Cm.d))] [] (.d (.bool true)) []:=by
  refine ret_of rfl rfl (r0 ?_)
  refine Z2 ?_
  rfl
 intro h
 induction h with
 | zero=>intro l hl _;rw [b5 hl];exact hnil
 | succ h ih =>
   intro l hl h8
   refine ret_of rfl rfl (r0 ?_)
   refine Z1 ?_
   refine af rfl ?_
   refine cB (fun i=>[.d (.slice (l.map Cm.d)),.d (.int .i64 i)]) (fun _=>[]) l.length (fun i hi hn => ?_) ?_
   · have hwi:=ac i (by omega)
     rcases hc:l[i] with ⟨k,v,s,f,t,a,b,g,o⟩
     have hg:=bH hi hc
     have hv:=(hc▸hl _ (List.getElem_mem hi)).view
     have h1:=ih a hv.ca (by have:=hv.ha;omega)
     have h2:=ih b hv.cb (by have:=hv.hb;omega)
     have h3:=fN f (by have:=hv.fd;omega) (by have:=hv.fs;omega)
     have ht:=dd (g:=Cm.d) hi
     unfold ah
     rcases hv.gg with rfl | ⟨x,rfl,hx⟩ | ⟨x,y,rfl,hx,hy⟩
     · refine Z1 ?_
       refine lhx rfl ?_
       refine Z1r ?_
       rw [hwi]
       exact af rfl hn
     · have h4:=fN x (by have:=hx.2.1;omega) (by have:=hx.2.2;omega)
       refine Z1 ?_
       refine lhx rfl ?_
       refine Z1r ?_
       refine lhx rfl ?_
       refine Z1r ?_
       rw [hwi]
       exact af rfl hn
     · have h4:=fN x (by have:=hx.2.1;omega) (by have:=hx.2.2;omega)
       have h5:=fN y (by have:=hy.2.1;omega) (by have:=hy.2.2;omega)
       refine Z1 ?_
       refine lhx rfl ?_
       refine Z1r ?_
       refine lhx rfl ?_
       refine Z1r ?_
       refine lhx rfl ?_
       refine Z1r ?_
       rw [hwi]
       exact af rfl hn
   · have hf:=de (g:=Cm.d) (l:=l)
     unfold ah
     refine Z1 ?_
     rfl
theorem vu {n:Nat} {W:List (List D)} : ∀ (h:Nat) (l:List Cm),(∀ c∈l,Ok n W h c)->l.length<=8 -> ∀ m:Nat,Cm.tots l<=m->m<=1000000->Ret VP (.fn 80) [.d (.slice (l.map Cm.d)),.d (.int .i64 m)] [] (.d (.int .i64 (Cm.tots l:Nat))) []:=by
 have hnil : ∀ e:Int,Ret VP (.fn 80) [.d (.slice (([]:List Cm).map Cm.d)),.d (.int .i64 e)] [] (.d (.int .i64 0)) []:=by
  intro e
  refine ret_of rfl rfl (r0 ?_)
  refine Z2 ?_
  rfl
 intro h
 induction h with
 | zero=>intro l hl _ m _ _;rw [b5 hl];exact hnil m
 | succ h ih =>
   intro l hl h8 m hm hm2
   refine ret_of rfl rfl (r0 ?_)
   refine Z1 ?_
   refine af rfl ?_
   refine cB (fun i=>[.d (.slice (l.map Cm.d)),.d (.int .i64 m),.d (.int .i64 (Cm.tots (l.take i):Nat)),.d (.int .i64 i)]) (fun _=>[]) l.length (fun i hi hn => ?_) ?_
   · have hwi:=ac i (by omega)
     have hs2:=kZ hi
     have hs3:=gu l (i+1)
     have hok:=hl _ (List.getElem_mem hi)
     have ht:=dd (g:=Cm.d) hi
     generalize hA:Cm.tots (l.take i)=A at hs2 ⊢
     have tA:(A:Int)<=(m:Int):=by omega
     have wA:IntKind.i64.wrap ((m:Int) - (A:Int))=((m - A:Nat):Int):=by rw [i64_in]<;>omega
     generalize hc:l[i]=c at hs2 hok
     cases hok with
     | set o f ho hf =>
       have hg:=bH hi hc
       simp only [Cm.tot,gsz,Cm.tots,List.map_cons,List.map_nil,List.sum_cons,List.sum_nil] at hs2
       simp at hs2
       have h1:=ju f (m - A) (by omega) (by omega)
       rw [<- wA] at h1
       unfold ah
       (have hz1:=decide_eq_true tA;refine Z1 ?_)
       refine lhx rfl ?_
       (have hz2:=decide_eq_true tA;refine Z1r ?_)
       have n1:IntKind.i64.wrap ((A:Int)+(f.sz:Int))<=(m:Int):=by rw [i64_in]<;>omega
       refine lhx rfl ?_
       (have hz3:=decide_eq_true n1;(refine Z1r ?_;(repeat first | (refine oC1 (hnil _) rfl rfl (by exact rfl) ?_;refine Z1r ?_) | (refine fw (oC1 (hnil _) rfl rfl (by exact rfl) (o0 ⟨rfl,rfl⟩)) ?_;refine Z1r ?_))))
       refine af rfl (fj hn ?_)
       exact vc rfl (vc rfl (vc (dI (by rw [hs2];((try simp only [decide_eq_true_eq,gt_iff_lt]);(try simp (disch:=omega) only [i64_in]);try omega))) (vc (dI hwi) rfl)))
     | set2 o u f g ho hu hou hf hgg =>
       have hg:=bH hi hc
       simp only [Cm.tot,gsz,Cm.tots,List.map_cons,List.map_nil,List.sum_cons,List.sum_nil] at hs2
       simp at hs2
       have h1:=ju f (m - A) (by omega) (by omega)
       have h2:=ju g (m - A - f.sz) (by omega) (by omega)
       have w2:IntKind.i64.wrap ((m:Int) - IntKind.i64.wrap ((A:Int)+(f.sz:Int)))=((m - A - f.sz:Nat):Int):=by ((try simp only [decide_eq_true_eq,gt_iff_lt]);(try simp (disch:=omega) only [i64_in]);try omega)
       rw [<- wA] at h1
       rw [<- w2] at h2
       have n1:IntKind.i64.wrap ((A:Int)+(f.sz:Int))<=(m:Int):=by ((try simp only [decide_eq_true_eq,gt_iff_lt]);(try simp (disch:=omega) only [i64_in]);try omega)
       unfold ah
       (have hz4:=decide_eq_true tA;refine Z1 ?_)
       refine lhx rfl ?_
       (have hz5:=decide_eq_true tA;refine Z1r ?_)
       refine lhx rfl ?_
       (have hz6:=decide_eq_true n1;refine Z1r ?_)
       refine lhx rfl ?_
       (refine Z1r ?_;(repeat first | (refine oC1 (hnil _) rfl rfl (by exact rfl) ?_;refine Z1r ?_) | (refine fw (oC1 (hnil _) rfl rfl (by exact rfl) (o0 ⟨rfl,rfl⟩)) ?_;refine Z1r ?_)))
       refine af rfl (fj hn ?_)
       exact vc rfl (vc rfl (vc (dI (by rw [hs2];((try simp only [decide_eq_true_eq,gt_iff_lt]);(try simp (disch:=omega) only [i64_in]);try omega))) (vc (dI hwi) rfl)))
     | draw v s lo w hv hs hw h1 h2 =>
       have hg:=bH hi hc
       simp only [Cm.tot,gsz,Cm.tots,List.map_cons,List.map_nil,List.sum_cons,List.sum_nil] at hs2
       simp at hs2
       unfold ah
       (have hz7:=decide_eq_true tA;refine Z1 ?_)
       refine lhx rfl ?_
       (refine Z1r ?_;(repeat first | (refine oC1 (hnil _) rfl rfl (by exact rfl) ?_;refine Z1r ?_) | (refine fw (oC1 (hnil _) rfl rfl (by exact rfl) (o0 ⟨rfl,rfl⟩)) ?_;refine Z1r ?_)))
       refine af rfl (fj hn ?_)
       exact vc rfl (vc rfl (vc (dI (by rw [hs2];((try simp only [decide_eq_true_eq,gt_iff_lt]);(try simp (disch:=omega) only [i64_in]);try omega))) (vc (dI hwi) rfl)))
     | cut =>
       have hg:=bH hi hc
       simp only [Cm.tot,gsz,Cm.tots,List.map_cons,List.map_nil,List.sum_cons,List.sum_nil] at hs2
       simp at hs2
       unfold ah
       (have hz8:=decide_eq_true tA;refine Z1 ?_)
       refine lhx rfl ?_
       (refine Z1r ?_;(repeat first | (refine oC1 (hnil _) rfl rfl (by exact rfl) ?_;refine Z1r ?_) | (refine fw (oC1 (hnil _) rfl rfl (by exact rfl) (o0 ⟨rfl,rfl⟩)) ?_;refine Z1r ?_)))
       refine af rfl (fj hn ?_)
       exact vc rfl (vc rfl (vc (dI (by rw [hs2];((try simp only [decide_eq_true_eq,gt_iff_lt]);(try simp (disch:=omega) only [i64_in]);try omega))) (vc (dI hwi) rfl)))
     | obs f hf =>
       have hg:=bH hi hc
       simp only [Cm.tot,gsz,Cm.tots,List.map_cons,List.map_nil,List.sum_cons,List.sum_nil] at hs2
       simp at hs2
       have h1:=ju f (m - A) (by omega) (by omega)
       rw [<- wA] at h1
       unfold ah
       (have hz9:=decide_eq_true tA;refine Z1 ?_)
       refine lhx rfl ?_
       (refine Z1r ?_;(repeat first | (refine oC1 (hnil _) rfl rfl (by exact rfl) ?_;refine Z1r ?_) | (refine fw (oC1 (hnil _) rfl rfl (by exact rfl) (o0 ⟨rfl,rfl⟩)) ?_;refine Z1r ?_)))
       refine af rfl (fj hn ?_)
       exact vc rfl (vc rfl (vc (dI (by rw [hs2];((try simp only [decide_eq_true_eq,gt_iff_lt]);(try simp (disch:=omega) only [i64_in]);try omega))) (vc (dI hwi) rfl)))
     | iff f a b hf ha hb ca cb =>
       have hg:=bH hi hc
       simp only [Cm.tot,gsz,Cm.tots,List.map_cons,List.map_nil,List.sum_cons,List.sum_nil] at hs2
       simp at hs2
       have h1:=ju f (m - A) (by omega) (by omega)
       rw [<- wA] at h1
       have w2:IntKind.i64.wrap ((m:Int) - IntKind.i64.wrap ((A:Int)+(f.sz:Int)))=((m - A - f.sz:Nat):Int):=by ((try simp only [decide_eq_true_eq,gt_iff_lt]);(try simp (disch:=omega) only [i64_in]);try omega)
       have w3:IntKind.i64.wrap ((m:Int) - IntKind.i64.wrap (IntKind.i64.wrap ((A:Int)+(f.sz:Int))+(Cm.tots a:Int)))=((m - A - f.sz - Cm.tots a:Nat):Int):=by ((try simp only [decide_eq_true_eq,gt_iff_lt]);(try simp (disch:=omega) only [i64_in]);try omega)
       have h2:=ih a ca (by omega) (m - A - f.sz) (by omega) (by omega)
       have h3:=ih b cb (by omega) (m - A - f.sz - Cm.tots a) (by omega) (by omega)
       rw [<- w2] at h2
       rw [<- w3] at h3
       unfold ah
       (have hz10:=decide_eq_true tA;refine Z1 ?_)
       refine lhx rfl ?_
       refine Z1r ?_
       refine af rfl (fj hn ?_)
       exact vc rfl (vc rfl (vc (dI (by rw [hs2];((try simp only [decide_eq_true_eq,gt_iff_lt]);(try simp (disch:=omega) only [i64_in]);try omega))) (vc (dI hwi) rfl)))
   · have hf:=de (g:=Cm.d) (l:=l)
     unfold ah
     refine Z1 ?_
     refine fe rfl (dI ?_) rfl
     rw [List.take_length]
theorem IX {n:Nat} {W:List (List D)} {cs:List Ce} (hcs:cs.length<=4) {h:Nat} {l:List Cm} (hh:h<=4) (hl : ∀ c∈l,Ok n W h c) (h8:l.length<=8):Ret VP (.fn 78) [.d (.slice (cs.map Ce.d)),.d (.slice (l.map Cm.d))] [] (.d (.bool true)) []:=by
 have h1:=tq h l hl h8 201 (by omega) (by omega)
 have h2:=sj hh hl h8
 have h3:=wR h l hl h8
 have b1:=kD h l hl
 have b2:=bU hh hl h8
 have t1:(((cs.map Ce.d).length:Nat):Int)<=400:=by rw [List.length_map];omega
 have t2:((Cm.levs l:Nat):Int)<=200:=by omega
 have t3:((Cm.cnts l:Nat):Int)<=2000:=by omega
 refine ret_of rfl rfl (r0 ?_)
 (have hz11:=decide_eq_true t1;have hz12:=decide_eq_true t2;have hz13:=decide_eq_true t3;refine Z1 ?_)
 rfl
end Go.Proofs.YtncfpmehhfdipaaGreat
