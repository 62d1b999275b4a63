/- Modules in general: they are made; steps of function 11. -/
import Derived.Test.YtemffeblbmimfaaGreatA08
import Derived.Test.YtemffeblbmimfaaGreatA14
import Derived.Test.YtemffeblbmimfaaGreatA06
import Derived.Test.YtemffeblbmimfaaGreatA11
set_option linter.unusedSimpArgs false
set_option linter.unusedVariables false
set_option linter.unnecessarySimpa false
namespace Go.Proofs.YtemffeblbmimfaaGreat
open Go.IntWalk
attribute [local irreducible] au
set_option maxHeartbeats 8000000
set_option maxRecDepth 100000
theorem mU (L:List Int) (cs:List Ce) (os:List Nat) (T:Ty) (n sz d i a s k a1:Nat) (hi:i < sz) (hsz:sz<=100) (v lo':Nat) (a2 a3:Nat) (lo:Int) (w:List D) (hk:k < 4) (hs:s < 5) (r2:Ret VP (.fn 12) [.ptr 0 0 0 0,.d (.int .i64 n)] [sbR L a1 (s+1)] (.d (.int .i64 v)) [sbR L a2 (s+1)]) (r3:Ret VP (.fn 23) [.ptr 0 0 0 0,.d (.int .i64 0)] [sbR L a2 (s+1)] (.d (dsD 1 lo w)) [sbR L a3 (s+1)]) (r1:Ret VP (.fn 12) [.ptr 0 0 0 0,.d (.int .i64 12)] [sbR L a s] (.d (.int .i64 k)) [sbR L a1 s]) {K:List Fr} {Q:Out->Env->aa->Prop}
 (h:ah VP 1 [0,2,3,4,5,7,13,14,15] aU [.ptr 0 0 0 0,.d (.int .i64 n),.d (.int .i64 sz),.d (.int .i64 d),.d (.bool false),.ptr 1 0 0 0,.ms 2 0 0 1,.d (.slice ((aO n).map iD)),.d (.int .i64 (i+1:Nat))] [sbR L a3 (s+1),mdB cs os T,some (.rows 0 false 23 (ao [cmD 2 v 0 .z (.tab lo w) [] [] [] []]))] K Q):ah VP 1 [0,2,3,4,5,7,13,14,15] aU [.ptr 0 0 0 0,.d (.int .i64 n),.d (.int .i64 sz),.d (.int .i64 d),.d (.bool false),.ptr 1 0 0 0,.nils,.d (.slice ((aO n).map iD)),.d (.int .i64 i)] [sbR L a s,mdB cs os T] K Q:=by
 have hwi:=ac i (by omega)
 have ht:decide ((i:Int) < (sz:Int))=true:=decide_eq_true (by omega)
 have hws:=ac s (by omega)
 unfold sbR at r2 r3 h
 rw [<- hws] at r2 r3 h
 have t4:decide ((k:Int) < 4)=true:=decide_eq_true (by omega)
 have t5:decide ((s:Int) < 5)=true:=decide_eq_true (by omega)
 unfold ah
 refine Z3r ?_
 rw [hwi]
 refine hdX rfl rfl rfl rfl ?_
 exact h
theorem lT (L:List Int) (cs:List Ce) (os:List Nat) (T:Ty) (n sz d i a s k a1:Nat) (hi:i < sz) (hsz:sz<=100) (x:D) (l:List D) (hll:l.length<=100) (v lo':Nat) (a2 a3:Nat) (lo:Int) (w:List D) (hk:k < 4) (hs:s < 5) (r2:Ret VP (.fn 12) [.ptr 0 0 0 0,.d (.int .i64 n)] [sbR L a1 (s+1)] (.d (.int .i64 v)) [sbR L a2 (s+1)]) (r3:Ret VP (.fn 23) [.ptr 0 0 0 0,.d (.int .i64 0)] [sbR L a2 (s+1)] (.d (dsD 1 lo w)) [sbR L a3 (s+1)]) (r1:Ret VP (.fn 12) [.ptr 0 0 0 0,.d (.int .i64 12)] [sbR L a s] (.d (.int .i64 k)) [sbR L a1 s]) {K:List Fr} {Q:Out->Env->aa->Prop}
 (h:ah VP 1 [0,2,3,4,5,7,13,14,15] aU [.ptr 0 0 0 0,.d (.int .i64 n),.d (.int .i64 sz),.d (.int .i64 d),.d (.bool false),.ptr 1 0 0 0,.ms 2 (l.length+1) 0 (l.length+1+1),.d (.slice ((aO n).map iD)),.d (.int .i64 (i+1:Nat))] [sbR L a3 (s+1),mdB cs os T,some (.rows (l.length+1) false 23 (ao (x::l++[cmD 2 v 0 .z (.tab lo w) [] [] [] []])))] K Q):ah VP 1 [0,2,3,4,5,7,13,14,15] aU [.ptr 0 0 0 0,.d (.int .i64 n),.d (.int .i64 sz),.d (.int .i64 d),.d (.bool false),.ptr 1 0 0 0,.ms 2 l.length 0 (l.length+1),.d (.slice ((aO n).map iD)),.d (.int .i64 i)] [sbR L a s,mdB cs os T,some (.rows l.length false 23 (ao (x::l)))] K Q:=by
 have hwi:=ac i (by omega)
 have ht:decide ((i:Int) < (sz:Int))=true:=decide_eq_true (by omega)
 have hroom:au (l.length+1+1) 376=true:=by rw [au,Bool.and_eq_true,decide_eq_true_eq,decide_eq_true_eq];omega
 have hws:=ac s (by omega)
 unfold sbR at r2 r3 h
 rw [<- hws] at r2 r3 h
 have t4:decide ((k:Int) < 4)=true:=decide_eq_true (by omega)
 have t5:decide ((s:Int) < 5)=true:=decide_eq_true (by omega)
 unfold ah
 (refine Z3r ?_;(repeat first | (refine fw (oaD (cmD 2 v 0 .z (.tab lo w) [] [] [] []) rfl rfl rfl (by simp) rfl hroom rfl (o0 ⟨rfl,rfl⟩)) ?_;refine Z3r ?_)))
 rw [hwi]
 refine hdX rfl rfl rfl rfl ?_
 exact h
theorem ml (L:List Int) (cs:List Ce) (os:List Nat) (T:Ty) (n sz d i a s k a1:Nat) (hi:i < sz) (hsz:sz<=100) (v a2 a3 o a4:Nat) (f:Fo) (hk4:¬ k < 4\/¬ s < 5) (hk6:k < 6) (hov:v=o) (r2:Ret VP (.fn 12) [.ptr 0 0 0 0,.d (.int .i64 n)] [sbR L a1 s] (.d (.int .i64 v)) [sbR L a2 s]) (r3:Ret VP (.fn 13) [.ptr 0 0 0 0,.d (.slice ((aO n).map iD)),.d (.int .i64 3)] [sbR L a2 s] (.d f.d) [sbR L a3 s]) (r4:Ret VP (.fn 12) [.ptr 0 0 0 0,.d (.int .i64 n)] [sbR L a3 s] (.d (.int .i64 o)) [sbR L a4 s]) (r1:Ret VP (.fn 12) [.ptr 0 0 0 0,.d (.int .i64 12)] [sbR L a s] (.d (.int .i64 k)) [sbR L a1 s]) {K:List Fr} {Q:Out->Env->aa->Prop}
 (h:ah VP 1 [0,2,3,4,5,7,13,14,15] aU [.ptr 0 0 0 0,.d (.int .i64 n),.d (.int .i64 sz),.d (.int .i64 d),.d (.bool false),.ptr 1 0 0 0,.ms 2 0 0 1,.d (.slice ((aO n).map iD)),.d (.int .i64 (i+1:Nat))] [sbR L a4 s,mdB cs os T,some (.rows 0 false 23 (ao [cmD 1 0 0 .z .z [] [] [f.d] [oD v]]))] K Q):ah VP 1 [0,2,3,4,5,7,13,14,15] aU [.ptr 0 0 0 0,.d (.int .i64 n),.d (.int .i64 sz),.d (.int .i64 d),.d (.bool false),.ptr 1 0 0 0,.nils,.d (.slice ((aO n).map iD)),.d (.int .i64 i)] [sbR L a s,mdB cs os T] K Q:=by
 have hwi:=ac i (by omega)
 have ht:decide ((i:Int) < (sz:Int))=true:=decide_eq_true (by omega)
 have htt:decide ((k:Int) < 4)=true/\decide ((s:Int) < 5)=false\/decide ((k:Int) < 4)=false/\true=true:=by
  rcases (by omega:k < 4/\¬ s < 5\/¬ k < 4) with ⟨h1,h2⟩ | h1
  · exact .inl ⟨decide_eq_true (by omega),decide_eq_false (by omega)⟩
  · exact .inr ⟨decide_eq_false (by omega),rfl⟩
 have t6:decide ((k:Int) < 6)=true:=decide_eq_true (by omega)
 subst hov
 have tov:((v:Int) != (v:Int))=false:=by simp
 unfold ah
 rcases htt with ⟨tA,tB⟩ | ⟨tA,tB⟩
 all_goals (refine Z3r ?_;rw [hwi];refine hdX rfl rfl rfl rfl ?_;exact h)
theorem lf (L:List Int) (cs:List Ce) (os:List Nat) (T:Ty) (n sz d i a s k a1:Nat) (hi:i < sz) (hsz:sz<=100) (x:D) (l:List D) (hll:l.length<=100) (v a2 a3 o a4:Nat) (f:Fo) (hk4:¬ k < 4\/¬ s < 5) (hk6:k < 6) (hov:v=o) (r2:Ret VP (.fn 12) [.ptr 0 0 0 0,.d (.int .i64 n)] [sbR L a1 s] (.d (.int .i64 v)) [sbR L a2 s]) (r3:Ret VP (.fn 13) [.ptr 0 0 0 0,.d (.slice ((aO n).map iD)),.d (.int .i64 3)] [sbR L a2 s] (.d f.d) [sbR L a3 s]) (r4:Ret VP (.fn 12) [.ptr 0 0 0 0,.d (.int .i64 n)] [sbR L a3 s] (.d (.int .i64 o)) [sbR L a4 s]) (r1:Ret VP (.fn 12) [.ptr 0 0 0 0,.d (.int .i64 12)] [sbR L a s] (.d (.int .i64 k)) [sbR L a1 s]) {K:List Fr} {Q:Out->Env->aa->Prop}
 (h:ah VP 1 [0,2,3,4,5,7,13,14,15] aU [.ptr 0 0 0 0,.d (.int .i64 n),.d (.int .i64 sz),.d (.int .i64 d),.d (.bool false),.ptr 1 0 0 0,.ms 2 (l.length+1) 0 (l.length+1+1),.d (.slice ((aO n).map iD)),.d (.int .i64 (i+1:Nat))] [sbR L a4 s,mdB cs os T,some (.rows (l.length+1) false 23 (ao (x::l++[cmD 1 0 0 .z .z [] [] [f.d] [oD v]])))] K Q):ah VP 1 [0,2,3,4,5,7,13,14,15] aU [.ptr 0 0 0 0,.d (.int .i64 n),.d (.int .i64 sz),.d (.int .i64 d),.d (.bool false),.ptr 1 0 0 0,.ms 2 l.length 0 (l.length+1),.d (.slice ((aO n).map iD)),.d (.int .i64 i)] [sbR L a s,mdB cs os T,some (.rows l.length false 23 (ao (x::l)))] K Q:=by
 have hwi:=ac i (by omega)
 have ht:decide ((i:Int) < (sz:Int))=true:=decide_eq_true (by omega)
 have hroom:au (l.length+1+1) 376=true:=by rw [au,Bool.and_eq_true,decide_eq_true_eq,decide_eq_true_eq];omega
 have htt:decide ((k:Int) < 4)=true/\decide ((s:Int) < 5)=false\/decide ((k:Int) < 4)=false/\true=true:=by
  rcases (by omega:k < 4/\¬ s < 5\/¬ k < 4) with ⟨h1,h2⟩ | h1
  · exact .inl ⟨decide_eq_true (by omega),decide_eq_false (by omega)⟩
  · exact .inr ⟨decide_eq_false (by omega),rfl⟩
 have t6:decide ((k:Int) < 6)=true:=decide_eq_true (by omega)
 subst hov
 have tov:((v:Int) != (v:Int))=false:=by simp
 unfold ah
 rcases htt with ⟨tA,tB⟩ | ⟨tA,tB⟩
 all_goals ((refine Z3r ?_;(repeat first | (refine oaD (cmD 1 0 0 .z .z [] [] [f.d] [oD v]) rfl rfl rfl (by simp) rfl hroom rfl ?_;refine Z3r ?_)));rw [hwi];refine hdX rfl rfl rfl rfl ?_;exact h)
theorem mj (L:List Int) (cs:List Ce) (os:List Nat) (T:Ty) (n sz d i a s k a1:Nat) (hi:i < sz) (hsz:sz<=100) (v a2 a3 o a4 c a5:Nat) (f:Fo) (hk4:¬ k < 4\/¬ s < 5) (hk6:k < 6) (hov:o≠v) (hc:c≠0) (r2:Ret VP (.fn 12) [.ptr 0 0 0 0,.d (.int .i64 n)] [sbR L a1 s] (.d (.int .i64 v)) [sbR L a2 s]) (r3:Ret VP (.fn 13) [.ptr 0 0 0 0,.d (.slice ((aO n).map iD)),.d (.int .i64 3)] [sbR L a2 s] (.d f.d) [sbR L a3 s]) (r4:Ret VP (.fn 12) [.ptr 0 0 0 0,.d (.int .i64 n)] [sbR L a3 s] (.d (.int .i64 o)) [sbR L a4 s]) (r5:Ret VP (.fn 12) [.ptr 0 0 0 0,.d (.int .i64 3)] [sbR L a4 s] (.d (.int .i64 c)) [sbR L a5 s]) (r1:Ret VP (.fn 12) [.ptr 0 0 0 0,.d (.int .i64 12)] [sbR L a s] (.d (.int .i64 k)) [sbR L a1 s]) {K:List Fr} {Q:Out->Env->aa->Prop}
 (h:ah VP 1 [0,2,3,4,5,7,13,14,15] aU [.ptr 0 0 0 0,.d (.int .i64 n),.d (.int .i64 sz),.d (.int .i64 d),.d (.bool false),.ptr 1 0 0 0,.ms 2 0 0 1,.d (.slice ((aO n).map iD)),.d (.int .i64 (i+1:Nat))] [sbR L a5 s,mdB cs os T,some (.rows 0 false 23 (ao [cmD 1 0 0 .z .z [] [] [f.d] [oD v]]))] K Q):ah VP 1 [0,2,3,4,5,7,13,14,15] aU [.ptr 0 0 0 0,.d (.int .i64 n),.d (.int .i64 sz),.d (.int .i64 d),.d (.bool false),.ptr 1 0 0 0,.nils,.d (.slice ((aO n).map iD)),.d (.int .i64 i)] [sbR L a s,mdB cs os T] K Q:=by
 have hwi:=ac i (by omega)
 have ht:decide ((i:Int) < (sz:Int))=true:=decide_eq_true (by omega)
 have htt:decide ((k:Int) < 4)=true/\decide ((s:Int) < 5)=false\/decide ((k:Int) < 4)=false/\true=true:=by
  rcases (by omega:k < 4/\¬ s < 5\/¬ k < 4) with ⟨h1,h2⟩ | h1
  · exact .inl ⟨decide_eq_true (by omega),decide_eq_false (by omega)⟩
  · exact .inr ⟨decide_eq_false (by omega),rfl⟩
 have t6:decide ((k:Int) < 6)=true:=decide_eq_true (by omega)
 have tov:((o:Int) != (v:Int))=true:=by simp;omega
 have tc:((c:Int)==0)=false:=by simp;omega
 unfold ah
 rcases htt with ⟨tA,tB⟩ | ⟨tA,tB⟩
 all_goals (refine Z3r ?_;rw [hwi];refine hdX rfl rfl rfl rfl ?_;exact h)
theorem lc (L:List Int) (cs:List Ce) (os:List Nat) (T:Ty) (n sz d i a s k a1:Nat) (hi:i < sz) (hsz:sz<=100) (x:D) (l:List D) (hll:l.length<=100) (v a2 a3 o a4 c a5:Nat) (f:Fo) (hk4:¬ k < 4\/¬ s < 5) (hk6:k < 6) (hov:o≠v) (hc:c≠0) (r2:Ret VP (.fn 12) [.ptr 0 0 0 0,.d (.int .i64 n)] [sbR L a1 s] (.d (.int .i64 v)) [sbR L a2 s]) (r3:Ret VP (.fn 13) [.ptr 0 0 0 0,.d (.slice ((aO n).map iD)),.d (.int .i64 3)] [sbR L a2 s] (.d f.d) [sbR L a3 s]) (r4:Ret VP (.fn 12) [.ptr 0 0 0 0,.d (.int .i64 n)] [sbR L a3 s] (.d (.int .i64 o)) [sbR L a4 s]) (r5:Ret VP (.fn 12) [.ptr 0 0 0 0,.d (.int .i64 3)] [sbR L a4 s] (.d (.int .i64 c)) [sbR L a5 s]) (r1:Ret VP (.fn 12) [.ptr 0 0 0 0,.d (.int .i64 12)] [sbR L a s] (.d (.int .i64 k)) [sbR L a1 s]) {K:List Fr} {Q:Out->Env->aa->Prop}
 (h:ah VP 1 [0,2,3,4,5,7,13,14,15] aU [.ptr 0 0 0 0,.d (.int .i64 n),.d (.int .i64 sz),.d (.int .i64 d),.d (.bool false),.ptr 1 0 0 0,.ms 2 (l.length+1) 0 (l.length+1+1),.d (.slice ((aO n).map iD)),.d (.int .i64 (i+1:Nat))] [sbR L a5 s,mdB cs os T,some (.rows (l.length+1) false 23 (ao (x::l++[cmD 1 0 0 .z .z [] [] [f.d] [oD v]])))] K Q):ah VP 1 [0,2,3,4,5,7,13,14,15] aU [.ptr 0 0 0 0,.d (.int .i64 n),.d (.int .i64 sz),.d (.int .i64 d),.d (.bool false),.ptr 1 0 0 0,.ms 2 l.length 0 (l.length+1),.d (.slice ((aO n).map iD)),.d (.int .i64 i)] [sbR L a s,mdB cs os T,some (.rows l.length false 23 (ao (x::l)))] K Q:=by
 have hwi:=ac i (by omega)
 have ht:decide ((i:Int) < (sz:Int))=true:=decide_eq_true (by omega)
 have hroom:au (l.length+1+1) 376=true:=by rw [au,Bool.and_eq_true,decide_eq_true_eq,decide_eq_true_eq];omega
 have htt:decide ((k:Int) < 4)=true/\decide ((s:Int) < 5)=false\/decide ((k:Int) < 4)=false/\true=true:=by
  rcases (by omega:k < 4/\¬ s < 5\/¬ k < 4) with ⟨h1,h2⟩ | h1
  · exact .inl ⟨decide_eq_true (by omega),decide_eq_false (by omega)⟩
  · exact .inr ⟨decide_eq_false (by omega),rfl⟩
 have t6:decide ((k:Int) < 6)=true:=decide_eq_true (by omega)
 have tov:((o:Int) != (v:Int))=true:=by simp;omega
 have tc:((c:Int)==0)=false:=by simp;omega
 unfold ah
 rcases htt with ⟨tA,tB⟩ | ⟨tA,tB⟩
 all_goals ((refine Z3r ?_;(repeat first | (refine oaD (cmD 1 0 0 .z .z [] [] [f.d] [oD v]) rfl rfl rfl (by simp) rfl hroom rfl ?_;refine Z3r ?_)));rw [hwi];refine hdX rfl rfl rfl rfl ?_;exact h)
theorem mh (L:List Int) (cs:List Ce) (os:List Nat) (T:Ty) (n sz d i a s k a1:Nat) (hi:i < sz) (hsz:sz<=100) (v a2 a3 o a4 a5 a6:Nat) (f g:Fo) (hk4:¬ k < 4\/¬ s < 5) (hk6:k < 6) (hov:o≠v) (r2:Ret VP (.fn 12) [.ptr 0 0 0 0,.d (.int .i64 n)] [sbR L a1 s] (.d (.int .i64 v)) [sbR L a2 s]) (r3:Ret VP (.fn 13) [.ptr 0 0 0 0,.d (.slice ((aO n).map iD)),.d (.int .i64 3)] [sbR L a2 s] (.d f.d) [sbR L a3 s]) (r4:Ret VP (.fn 12) [.ptr 0 0 0 0,.d (.int .i64 n)] [sbR L a3 s] (.d (.int .i64 o)) [sbR L a4 s]) (r5:Ret VP (.fn 12) [.ptr 0 0 0 0,.d (.int .i64 3)] [sbR L a4 s] (.d (.int .i64 0)) [sbR L a5 s]) (r6:Ret VP (.fn 13) [.ptr 0 0 0 0,.d (.slice ((aO n).map iD)),.d (.int .i64 2)] [sbR L a5 s] (.d g.d) [sbR L a6 s]) (r1:Ret VP (.fn 12) [.ptr 0 0 0 0,.d (.int .i64 12)] [sbR L a s] (.d (.int .i64 k)) [sbR L a1 s]) {K:List Fr} {Q:Out->Env->aa->Prop}
 (h:ah VP 1 [0,2,3,4,5,7,13,14,15] aU [.ptr 0 0 0 0,.d (.int .i64 n),.d (.int .i64 sz),.d (.int .i64 d),.d (.bool false),.ptr 1 0 0 0,.ms 2 0 0 1,.d (.slice ((aO n).map iD)),.d (.int .i64 (i+1:Nat))] [sbR L a6 s,mdB cs os T,some (.rows 0 false 23 (ao [cmD 1 0 0 .z .z [] [] [f.d,g.d] [oD v,oD o]]))] K Q):ah VP 1 [0,2,3,4,5,7,13,14,15] aU [.ptr 0 0 0 0,.d (.int .i64 n),.d (.int .i64 sz),.d (.int .i64 d),.d (.bool false),.ptr 1 0 0 0,.nils,.d (.slice ((aO n).map iD)),.d (.int .i64 i)] [sbR L a s,mdB cs os T] K Q:=by
 have hwi:=ac i (by omega)
 have ht:decide ((i:Int) < (sz:Int))=true:=decide_eq_true (by omega)
 have htt:decide ((k:Int) < 4)=true/\decide ((s:Int) < 5)=false\/decide ((k:Int) < 4)=false/\true=true:=by
  rcases (by omega:k < 4/\¬ s < 5\/¬ k < 4) with ⟨h1,h2⟩ | h1
  · exact .inl ⟨decide_eq_true (by omega),decide_eq_false (by omega)⟩
  · exact .inr ⟨decide_eq_false (by omega),rfl⟩
 have t6:decide ((k:Int) < 6)=true:=decide_eq_true (by omega)
 have tov:((o:Int) != (v:Int))=true:=by simp;omega
 unfold ah
 rcases htt with ⟨tA,tB⟩ | ⟨tA,tB⟩
 all_goals (refine Z3r ?_;rw [hwi];refine hdX rfl rfl rfl rfl ?_;exact h)
theorem k9 (L:List Int) (cs:List Ce) (os:List Nat) (T:Ty) (n sz d i a s k a1:Nat) (hi:i < sz) (hsz:sz<=100) (x:D) (l:List D) (hll:l.length<=100) (v a2 a3 o a4 a5 a6:Nat) (f g:Fo) (hk4:¬ k < 4\/¬ s < 5) (hk6:k < 6) (hov:o≠v) (r2:Ret VP (.fn 12) [.ptr 0 0 0 0,.d (.int .i64 n)] [sbR L a1 s] (.d (.int .i64 v)) [sbR L a2 s]) (r3:Ret VP (.fn 13) [.ptr 0 0 0 0,.d (.slice ((aO n).map iD)),.d (.int .i64 3)] [sbR L a2 s] (.d f.d) [sbR L a3 s]) (r4:Ret VP (.fn 12) [.ptr 0 0 0 0,.d (.int .i64 n)] [sbR L a3 s] (.d (.int .i64 o)) [sbR L a4 s]) (r5:Ret VP (.fn 12) [.ptr 0 0 0 0,.d (.int .i64 3)] [sbR L a4 s] (.d (.int .i64 0)) [sbR L a5 s]) (r6:Ret VP (.fn 13) [.ptr 0 0 0 0,.d (.slice ((aO n).map iD)),.d (.int .i64 2)] [sbR L a5 s] (.d g.d) [sbR L a6 s]) (r1:Ret VP (.fn 12) [.ptr 0 0 0 0,.d (.int .i64 12)] [sbR L a s] (.d (.int .i64 k)) [sbR L a1 s]) {K:List Fr} {Q:Out->Env->aa->Prop}
 (h:ah VP 1 [0,2,3,4,5,7,13,14,15] aU [.ptr 0 0 0 0,.d (.int .i64 n),.d (.int .i64 sz),.d (.int .i64 d),.d (.bool false),.ptr 1 0 0 0,.ms 2 (l.length+1) 0 (l.length+1+1),.d (.slice ((aO n).map iD)),.d (.int .i64 (i+1:Nat))] [sbR L a6 s,mdB cs os T,some (.rows (l.length+1) false 23 (ao (x::l++[cmD 1 0 0 .z .z [] [] [f.d,g.d] [oD v,oD o]])))] K Q):ah VP 1 [0,2,3,4,5,7,13,14,15] aU [.ptr 0 0 0 0,.d (.int .i64 n),.d (.int .i64 sz),.d (.int .i64 d),.d (.bool false),.ptr 1 0 0 0,.ms 2 l.length 0 (l.length+1),.d (.slice ((aO n).map iD)),.d (.int .i64 i)] [sbR L a s,mdB cs os T,some (.rows l.length false 23 (ao (x::l)))] K Q:=by
 have hwi:=ac i (by omega)
 have ht:decide ((i:Int) < (sz:Int))=true:=decide_eq_true (by omega)
 have hroom:au (l.length+1+1) 376=true:=by rw [au,Bool.and_eq_true,decide_eq_true_eq,decide_eq_true_eq];omega
 have htt:decide ((k:Int) < 4)=true/\decide ((s:Int) < 5)=false\/decide ((k:Int) < 4)=false/\true=true:=by
  rcases (by omega:k < 4/\¬ s < 5\/¬ k < 4) with ⟨h1,h2⟩ | h1
  · exact .inl ⟨decide_eq_true (by omega),decide_eq_false (by omega)⟩
  · exact .inr ⟨decide_eq_false (by omega),rfl⟩
 have t6:decide ((k:Int) < 6)=true:=decide_eq_true (by omega)
 have tov:((o:Int) != (v:Int))=true:=by simp;omega
 unfold ah
 rcases htt with ⟨tA,tB⟩ | ⟨tA,tB⟩
 all_goals ((refine Z3r ?_;(repeat first | (refine oaD (cmD 1 0 0 .z .z [] [] [f.d,g.d] [oD v,oD o]) rfl rfl rfl (by simp) rfl hroom rfl ?_;refine Z3r ?_)));rw [hwi];refine hdX rfl rfl rfl rfl ?_;exact h)
theorem pn (L:List Int) (cs:List Ce) (os:List Nat) (T:Ty) (n sz d i a s k a1:Nat) (hi:i < sz) (hsz:sz<=100) (a2 z1 a3 a4 s4 z2 a5 a6 s6:Nat) (f:Fo) (la lb:List Cm) (hk4:¬ k < 4) (hk6:¬ k < 6) (hk8:k < 8) (hd:1 < d) (hd2:d<=100) (r2:Ret VP (.fn 13) [.ptr 0 0 0 0,.d (.slice ((aO n).map iD)),.d (.int .i64 3)] [sbR L a1 s] (.d f.d) [sbR L a2 s]) (r3:Ret VP (.fn 12) [.ptr 0 0 0 0,.d (.int .i64 3)] [sbR L a2 s] (.d (.int .i64 z1)) [sbR L a3 s]) (r4:Ret VP (.fn 11) [.ptr 0 0 0 0,.d (moD 0 cs ([]:List Cm) os T),.d (.int .i64 n),.d (.int .i64 z1),.d (.int .i64 (d - 1:Nat)),.d (.bool false)] [sbR L a3 s] (.d (.slice (la.map Cm.d))) [sbR L a4 s4]) (r5:Ret VP (.fn 12) [.ptr 0 0 0 0,.d (.int .i64 2)] [sbR L a4 s4] (.d (.int .i64 z2)) [sbR L a5 s4]) (r6:Ret VP (.fn 11) [.ptr 0 0 0 0,.d (moD 0 cs ([]:List Cm) os T),.d (.int .i64 n),.d (.int .i64 z2),.d (.int .i64 (d - 1:Nat)),.d (.bool false)] [sbR L a5 s4] (.d (.slice (lb.map Cm.d))) [sbR L a6 s6]) (r1:Ret VP (.fn 12) [.ptr 0 0 0 0,.d (.int .i64 12)] [sbR L a s] (.d (.int .i64 k)) [sbR L a1 s]) {K:List Fr} {Q:Out->Env->aa->Prop}
 (h:ah VP 1 [0,2,3,4,5,7,13,14,15] aU [.ptr 0 0 0 0,.d (.int .i64 n),.d (.int .i64 sz),.d (.int .i64 d),.d (.bool false),.ptr 1 0 0 0,.ms 2 0 0 1,.d (.slice ((aO n).map iD)),.d (.int .i64 (i+1:Nat))] [sbR L a6 s6,mdB cs os T,some (.rows 0 false 23 (ao [cmD 3 0 0 f .z (la.map Cm.d) (lb.map Cm.d) [] []]))] K Q):ah VP 1 [0,2,3,4,5,7,13,14,15] aU [.ptr 0 0 0 0,.d (.int .i64 n),.d (.int .i64 sz),.d (.int .i64 d),.d (.bool false),.ptr 1 0 0 0,.nils,.d (.slice ((aO n).map iD)),.d (.int .i64 i)] [sbR L a s,mdB cs os T] K Q:=by
 have hwi:=ac i (by omega)
 have ht:decide ((i:Int) < (sz:Int))=true:=decide_eq_true (by omega)
 have t4:decide ((k:Int) < 4)=false:=decide_eq_false (by omega)
 have t6:decide ((k:Int) < 6)=false:=decide_eq_false (by omega)
 have t8:decide ((k:Int) < 8)=true:=decide_eq_true (by omega)
 have td:decide ((d:Int) > 1)=true:=decide_eq_true (by omega)
 have hwd:IntKind.i64.wrap ((d:Int) - 1)=((d - 1:Nat):Int):=by rw [i64_in]<;>omega
 rw [<- hwd] at r4 r6
 unfold ah
 refine Z3r ?_
 rw [hwi]
 refine hdX rfl rfl rfl rfl ?_
 exact h
theorem mM (L:List Int) (cs:List Ce) (os:List Nat) (T:Ty) (n sz d i a s k a1:Nat) (hi:i < sz) (hsz:sz<=100) (x:D) (l:List D) (hll:l.length<=100) (a2 z1 a3 a4 s4 z2 a5 a6 s6:Nat) (f:Fo) (la lb:List Cm) (hk4:¬ k < 4) (hk6:¬ k < 6) (hk8:k < 8) (hd:1 < d) (hd2:d<=100) (r2:Ret VP (.fn 13) [.ptr 0 0 0 0,.d (.slice ((aO n).map iD)),.d (.int .i64 3)] [sbR L a1 s] (.d f.d) [sbR L a2 s]) (r3:Ret VP (.fn 12) [.ptr 0 0 0 0,.d (.int .i64 3)] [sbR L a2 s] (.d (.int .i64 z1)) [sbR L a3 s]) (r4:Ret VP (.fn 11) [.ptr 0 0 0 0,.d (moD 0 cs ([]:List Cm) os T),.d (.int .i64 n),.d (.int .i64 z1),.d (.int .i64 (d - 1:Nat)),.d (.bool false)] [sbR L a3 s] (.d (.slice (la.map Cm.d))) [sbR L a4 s4]) (r5:Ret VP (.fn 12) [.ptr 0 0 0 0,.d (.int .i64 2)] [sbR L a4 s4] (.d (.int .i64 z2)) [sbR L a5 s4]) (r6:Ret VP (.fn 11) [.ptr 0 0 0 0,.d (moD 0 cs ([]:List Cm) os T),.d (.int .i64 n),.d (.int .i64 z2),.d (.int .i64 (d - 1:Nat)),.d (.bool false)] [sbR L a5 s4] (.d (.slice (lb.map Cm.d))) [sbR L a6 s6]) (r1:Ret VP (.fn 12) [.ptr 0 0 0 0,.d (.int .i64 12)] [sbR L a s] (.d (.int .i64 k)) [sbR L a1 s]) {K:List Fr} {Q:Out->Env->aa->Prop}
 (h:ah VP 1 [0,2,3,4,5,7,13,14,15] aU [.ptr 0 0 0 0,.d (.int .i64 n),.d (.int .i64 sz),.d (.int .i64 d),.d (.bool false),.ptr 1 0 0 0,.ms 2 (l.length+1) 0 (l.length+1+1),.d (.slice ((aO n).map iD)),.d (.int .i64 (i+1:Nat))] [sbR L a6 s6,mdB cs os T,some (.rows (l.length+1) false 23 (ao (x::l++[cmD 3 0 0 f .z (la.map Cm.d) (lb.map Cm.d) [] []])))] K Q):ah VP 1 [0,2,3,4,5,7,13,14,15] aU [.ptr 0 0 0 0,.d (.int .i64 n),.d (.int .i64 sz),.d (.int .i64 d),.d (.bool false),.ptr 1 0 0 0,.ms 2 l.length 0 (l.length+1),.d (.slice ((aO n).map iD)),.d (.int .i64 i)] [sbR L a s,mdB cs os T,some (.rows l.length false 23 (ao (x::l)))] K Q:=by
 have hwi:=ac i (by omega)
 have ht:decide ((i:Int) < (sz:Int))=true:=decide_eq_true (by omega)
 have hroom:au (l.length+1+1) 376=true:=by rw [au,Bool.and_eq_true,decide_eq_true_eq,decide_eq_true_eq];omega
 have t4:decide ((k:Int) < 4)=false:=decide_eq_false (by omega)
 have t6:decide ((k:Int) < 6)=false:=decide_eq_false (by omega)
 have t8:decide ((k:Int) < 8)=true:=decide_eq_true (by omega)
 have td:decide ((d:Int) > 1)=true:=decide_eq_true (by omega)
 have hwd:IntKind.i64.wrap ((d:Int) - 1)=((d - 1:Nat):Int):=by rw [i64_in]<;>omega
 rw [<- hwd] at r4 r6
 unfold ah
 (refine Z3r ?_;(repeat first | (refine fw (oaD (cmD 3 0 0 f .z (la.map Cm.d) (lb.map Cm.d) [] []) rfl rfl rfl (by simp) rfl hroom rfl (o0 ⟨rfl,rfl⟩)) ?_;refine Z3r ?_)))
 rw [hwi]
 refine hdX rfl rfl rfl rfl ?_
 exact h
theorem o9 (L:List Int) (cs:List Ce) (os:List Nat) (T:Ty) (n sz d i a s k a1:Nat) (hi:i < sz) (hsz:sz<=100) (a2:Nat) (f:Fo) (hk4:¬ k < 4) (hk6:¬ k < 6) (hk9:k < 9) (hkd:¬ k < 8\/¬ 1 < d) (r2:Ret VP (.fn 13) [.ptr 0 0 0 0,.d (.slice ((aO n).map iD)),.d (.int .i64 3)] [sbR L a1 s] (.d f.d) [sbR L a2 s]) (r1:Ret VP (.fn 12) [.ptr 0 0 0 0,.d (.int .i64 12)] [sbR L a s] (.d (.int .i64 k)) [sbR L a1 s]) {K:List Fr} {Q:Out->Env->aa->Prop}
 (h:ah VP 1 [0,2,3,4,5,7,13,14,15] aU [.ptr 0 0 0 0,.d (.int .i64 n),.d (.int .i64 sz),.d (.int .i64 d),.d (.bool false),.ptr 1 0 0 0,.ms 2 0 0 1,.d (.slice ((aO n).map iD)),.d (.int .i64 (i+1:Nat))] [sbR L a2 s,mdB cs os T,some (.rows 0 false 23 (ao [cmD 4 0 0 f .z [] [] [] []]))] K Q):ah VP 1 [0,2,3,4,5,7,13,14,15] aU [.ptr 0 0 0 0,.d (.int .i64 n),.d (.int .i64 sz),.d (.int .i64 d),.d (.bool false),.ptr 1 0 0 0,.nils,.d (.slice ((aO n).map iD)),.d (.int .i64 i)] [sbR L a s,mdB cs os T] K Q:=by
 have hwi:=ac i (by omega)
 have ht:decide ((i:Int) < (sz:Int))=true:=decide_eq_true (by omega)
 have t4:decide ((k:Int) < 4)=false:=decide_eq_false (by omega)
 have t6:decide ((k:Int) < 6)=false:=decide_eq_false (by omega)
 have t9:decide ((k:Int) < 9)=true:=decide_eq_true (by omega)
 have htt:decide ((k:Int) < 8)=true/\decide ((d:Int) > 1)=false\/decide ((k:Int) < 8)=false/\true=true:=by
  rcases (by omega:k < 8/\¬ 1 < d\/¬ k < 8) with ⟨h1,h2⟩ | h1
  · exact .inl ⟨decide_eq_true (by omega),decide_eq_false (by omega)⟩
  · exact .inr ⟨decide_eq_false (by omega),rfl⟩
 unfold ah
 rcases htt with ⟨tA,tB⟩ | ⟨tA,tB⟩
 all_goals (refine Z3r ?_;rw [hwi];refine hdX rfl rfl rfl rfl ?_;exact h)
theorem mz (L:List Int) (cs:List Ce) (os:List Nat) (T:Ty) (n sz d i a s k a1:Nat) (hi:i < sz) (hsz:sz<=100) (x:D) (l:List D) (hll:l.length<=100) (a2:Nat) (f:Fo) (hk4:¬ k < 4) (hk6:¬ k < 6) (hk9:k < 9) (hkd:¬ k < 8\/¬ 1 < d) (r2:Ret VP (.fn 13) [.ptr 0 0 0 0,.d (.slice ((aO n).map iD)),.d (.int .i64 3)] [sbR L a1 s] (.d f.d) [sbR L a2 s]) (r1:Ret VP (.fn 12) [.ptr 0 0 0 0,.d (.int .i64 12)] [sbR L a s] (.d (.int .i64 k)) [sbR L a1 s]) {K:List Fr} {Q:Out->Env->aa->Prop}
 (h:ah VP 1 [0,2,3,4,5,7,13,14,15] aU [.ptr 0 0 0 0,.d (.int .i64 n),.d (.int .i64 sz),.d (.int .i64 d),.d (.bool false),.ptr 1 0 0 0,.ms 2 (l.length+1) 0 (l.length+1+1),.d (.slice ((aO n).map iD)),.d (.int .i64 (i+1:Nat))] [sbR L a2 s,mdB cs os T,some (.rows (l.length+1) false 23 (ao (x::l++[cmD 4 0 0 f .z [] [] [] []])))] K Q):ah VP 1 [0,2,3,4,5,7,13,14,15] aU [.ptr 0 0 0 0,.d (.int .i64 n),.d (.int .i64 sz),.d (.int .i64 d),.d (.bool false),.ptr 1 0 0 0,.ms 2 l.length 0 (l.length+1),.d (.slice ((aO n).map iD)),.d (.int .i64 i)] [sbR L a s,mdB cs os T,some (.rows l.length false 23 (ao (x::l)))] K Q:=by
 have hwi:=ac i (by omega)
 have ht:decide ((i:Int) < (sz:Int))=true:=decide_eq_true (by omega)
 have hroom:au (l.length+1+1) 376=true:=by rw [au,Bool.and_eq_true,decide_eq_true_eq,decide_eq_true_eq];omega
 have t4:decide ((k:Int) < 4)=false:=decide_eq_false (by omega)
 have t6:decide ((k:Int) < 6)=false:=decide_eq_false (by omega)
 have t9:decide ((k:Int) < 9)=true:=decide_eq_true (by omega)
 have htt:decide ((k:Int) < 8)=true/\decide ((d:Int) > 1)=false\/decide ((k:Int) < 8)=false/\true=true:=by
  rcases (by omega:k < 8/\¬ 1 < d\/¬ k < 8) with ⟨h1,h2⟩ | h1
  · exact .inl ⟨decide_eq_true (by omega),decide_eq_false (by omega)⟩
  · exact .inr ⟨decide_eq_false (by omega),rfl⟩
 unfold ah
 rcases htt with ⟨tA,tB⟩ | ⟨tA,tB⟩
 all_goals ((refine Z3r ?_;(repeat first | (refine oaD (cmD 4 0 0 f .z [] [] [] []) rfl rfl rfl (by simp) rfl hroom rfl ?_;refine Z3r ?_)));rw [hwi];refine hdX rfl rfl rfl rfl ?_;exact h)
theorem mA (L:List Int) (cs:List Ce) (os:List Nat) (T:Ty) (n sz d i a s k a1:Nat) (hi:i < sz) (hsz:sz<=100) (hk9:¬ k < 9) (hk12:k < 12) (r1:Ret VP (.fn 12) [.ptr 0 0 0 0,.d (.int .i64 12)] [sbR L a s] (.d (.int .i64 k)) [sbR L a1 s]) {K:List Fr} {Q:Out->Env->aa->Prop}
 (h:ah VP 1 [0,2,3,4,5,7,13,14,15] aU [.ptr 0 0 0 0,.d (.int .i64 n),.d (.int .i64 sz),.d (.int .i64 d),.d (.bool false),.ptr 1 0 0 0,.nils,.d (.slice ((aO n).map iD)),.d (.int .i64 (i+1:Nat))] [sbR L a1 s,mdB cs os T] K Q):ah VP 1 [0,2,3,4,5,7,13,14,15] aU [.ptr 0 0 0 0,.d (.int .i64 n),.d (.int .i64 sz),.d (.int .i64 d),.d (.bool false),.ptr 1 0 0 0,.nils,.d (.slice ((aO n).map iD)),.d (.int .i64 i)] [sbR L a s,mdB cs os T] K Q:=by
 have hwi:=ac i (by omega)
 have ht:decide ((i:Int) < (sz:Int))=true:=decide_eq_true (by omega)
 have hkk:k=9\/k=10\/k=11:=by omega
 rcases hkk with rfl | rfl | rfl
 all_goals (unfold ah;refine Z3r ?_;rw [hwi];refine hdX rfl rfl rfl rfl ?_;exact h)
theorem lz (L:List Int) (cs:List Ce) (os:List Nat) (T:Ty) (n sz d i a s k a1:Nat) (hi:i < sz) (hsz:sz<=100) (x:D) (l:List D) (hll:l.length<=100) (hk9:¬ k < 9) (hk12:k < 12) (r1:Ret VP (.fn 12) [.ptr 0 0 0 0,.d (.int .i64 12)] [sbR L a s] (.d (.int .i64 k)) [sbR L a1 s]) {K:List Fr} {Q:Out->Env->aa->Prop}
 (h:ah VP 1 [0,2,3,4,5,7,13,14,15] aU [.ptr 0 0 0 0,.d (.int .i64 n),.d (.int .i64 sz),.d (.int .i64 d),.d (.bool false),.ptr 1 0 0 0,.ms 2 l.length 0 (l.length+1),.d (.slice ((aO n).map iD)),.d (.int .i64 (i+1:Nat))] [sbR L a1 s,mdB cs os T,some (.rows l.length false 23 (ao (x::l)))] K Q):ah VP 1 [0,2,3,4,5,7,13,14,15] aU [.ptr 0 0 0 0,.d (.int .i64 n),.d (.int .i64 sz),.d (.int .i64 d),.d (.bool false),.ptr 1 0 0 0,.ms 2 l.length 0 (l.length+1),.d (.slice ((aO n).map iD)),.d (.int .i64 i)] [sbR L a s,mdB cs os T,some (.rows l.length false 23 (ao (x::l)))] K Q:=by
 have hwi:=ac i (by omega)
 have ht:decide ((i:Int) < (sz:Int))=true:=decide_eq_true (by omega)
 have hroom:au (l.length+1+1) 376=true:=by rw [au,Bool.and_eq_true,decide_eq_true_eq,decide_eq_true_eq];omega
 have hkk:k=9\/k=10\/k=11:=by omega
 rcases hkk with rfl | rfl | rfl
 all_goals (unfold ah;refine Z3r ?_;rw [hwi];refine hdX rfl rfl rfl rfl ?_;exact h)
end Go.Proofs.YtemffeblbmimfaaGreat
namespace Go.Proofs.YtemffeblbmimfaaGreat
open Go.IntWalk
attribute [local irreducible] au
set_option maxHeartbeats 4000000
set_option maxRecDepth 100000
theorem sd (esz:Nat) (x:D) (l:List D) (y:D):oh esz (x::l++[y])=[some (.rows (l.length+1) false esz (ao (x::l++[y])))]:=by
 simp [oh]
def pP (L:List Int) (n d sz s:Nat) (l:List Cm) (b s':Nat):Prop:=(∀ c∈l,Ok n W0 d c)/\l.length<=sz/\s+(Cm.tbs l).length<=s'/\s'<=5/\b<=L.length
def uB (L:List Int) (cs:List Ce) (os:List Nat) (T:Ty) (d:Nat):Prop := ∀ sz:Nat,sz<=8 -> ∀ a s:Nat,a<=L.length->s<=5 -> ∃ (l:List Cm) (b s':Nat),pP L cs.length d sz s l b s'/\Ret VP (.fn 11) [.ptr 0 0 0 0,.d (moD 0 cs ([]:List Cm) os T),.d (.int .i64 cs.length),.d (.int .i64 sz),.d (.int .i64 d),.d (.bool false)] [sbR L a s] (.d (.slice (l.map Cm.d))) [sbR L b s']
theorem iI {n:Nat} {f:Fo} {d z:Nat} (h:FOk n f) (hd:f.dp<=d) (hz:f.sz<=z) (h3:d<=3) (h40:z<=40):cU n f:=⟨h,by omega,by omega⟩
theorem nu (l:List Cm) (c:Cm):Cm.tbs (l++[c])=Cm.tbs l++c.tb:=by rw [js];simp [Cm.tbs]
theorem gM (L:List Int) (hL:L.length<=1000) (cs:List Ce) (hc1:1<=cs.length) (hc4:cs.length<=4) (os:List Nat) (T:Ty) (d:Nat) (hd1:1<=d) (hd3:d<=3) (ih:1 < d->uB L cs os T (d - 1)) (sz:Nat) (hsz:sz<=8) (s0:Nat) {K:List Fr} {Q:Out->Env->aa->Prop}
 (hend : ∀ (out:List Cm) (a s:Nat),pP L cs.length d sz s0 out a s->ah VP 1 [0,2,3,4,5,7,13,14,15] aU [.ptr 0 0 0 0,.d (.int .i64 cs.length),.d (.int .i64 sz),.d (.int .i64 d),.d (.bool false),.ptr 1 0 0 0,pR 2 (out.map Cm.d),.d (.slice ((aO cs.length).map iD)),.d (.int .i64 sz)] ([sbR L a s,mdB cs os T]++oh 23 (out.map Cm.d)) K Q) :
 ∀ (m i a s:Nat) (out:List Cm),i+m=sz->pP L cs.length d i s0 out a s->ah VP 1 [0,2,3,4,5,7,13,14,15] aU [.ptr 0 0 0 0,.d (.int .i64 cs.length),.d (.int .i64 sz),.d (.int .i64 d),.d (.bool false),.ptr 1 0 0 0,pR 2 (out.map Cm.d),.d (.slice ((aO cs.length).map iD)),.d (.int .i64 i)] ([sbR L a s,mdB cs os T]++oh 23 (out.map Cm.d)) K Q:=by
 intro m
 induction m with
 | zero =>
   intro i a s out hi hg
   have e:i=sz:=by omega
   subst e
   exact hend out a s hg
 | succ m ihm =>
   intro i a s out hi ⟨hok,hlen,htb,hs5,ha⟩
   have hi':i < sz:=by omega
   have hS : ∀ (q:Cm) (r:List Cm) (c:Cm),oh 23 ((q::r++[c]).map Cm.d)=[some (.rows ((r.map Cm.d).length+1) false 23 (ao (q.d::r.map Cm.d++[c.d])))]:=fun q r c=>by rw [List.map_append,List.map_cons,List.map_cons,List.map_nil];exact sd _ _ _ _
   have hV : ∀ (q:Cm) (r:List Cm) (c:Cm),pR 2 ((q::r++[c]).map Cm.d) = .ms 2 ((r.map Cm.d).length+1) 0 ((r.map Cm.d).length+1+1):=fun q r c=>by rw [List.map_append,List.map_cons,List.map_cons,List.map_nil,od]
   have hll : ∀ (q:Cm) (r:List Cm),out=q::r->(r.map Cm.d).length<=100:=fun q r h=>by rw [h] at hlen;simp at hlen ⊢;omega
   have hnext : ∀ (c:Cm) (a' s':Nat),Ok cs.length W0 d c->s+c.tb.length<=s'->s'<=5->a'<=L.length->ah VP 1 [0,2,3,4,5,7,13,14,15] aU [.ptr 0 0 0 0,.d (.int .i64 cs.length),.d (.int .i64 sz),.d (.int .i64 d),.d (.bool false),.ptr 1 0 0 0,pR 2 ((out++[c]).map Cm.d),.d (.slice ((aO cs.length).map iD)),.d (.int .i64 (i+1:Nat))] ([sbR L a' s',mdB cs os T]++oh 23 ((out++[c]).map Cm.d)) K Q:=by
    intro c a' s' hc ht h5 ha'
    refine ihm (i+1) a' s' (out++[c]) (by omega) ⟨?_,by simp;omega,by rw [nu,List.length_append];omega,h5,ha'⟩
    intro x hx
    rw [List.mem_append,List.mem_singleton] at hx
    exact hx.elim (hok x) fun h=>h▸hc
   obtain ⟨k,a1,hk,ha1,r1⟩:=bO L hL 12 (by omega) (by omega) a s ha
   obtain ⟨d',rfl⟩ : ∃ d',d=d'+1:=⟨d - 1,by omega⟩
   by_cases hA:k < 4/\s < 5
   · obtain ⟨v,a2,hv,ha2,r2⟩:=bO L hL cs.length hc1 (by omega) a1 (s+1) ha1
     obtain ⟨lo,w,a3,hw,hl1,hl2,ha3,r3⟩:=qn L hL a2 (s+1) ha2
     have hn:=hnext (.mk 2 v 0 .z (.tab lo w) [] [] [] []) a3 (s+1) (.draw v 0 lo w hv (by omega) hw hl1 hl2) (by show s+1<=s+1;omega) (by omega) ha3
     rcases out with _ | ⟨q,r⟩
     · exact mU L cs os T _ _ _ i a s k a1 hi' (by omega) v 0 a2 a3 lo w hA.1 hA.2 r2 r3 r1 hn
     · rw [hV,hS] at hn
       exact lT L cs os T _ _ _ i a s k a1 hi' (by omega) _ _ (hll q r rfl) v 0 a2 a3 lo w hA.1 hA.2 r2 r3 r1 hn
   by_cases hB:k < 6
   · have hk4:¬ k < 4\/¬ s < 5:=by omega
     obtain ⟨v,a2,hv,ha2,r2⟩:=bO L hL cs.length hc1 (by omega) a1 s ha1
     obtain ⟨f,a3,of,df,zf,ha3,r3⟩:=wS L hL cs.length hc1 hc4 a2 s ha2
     obtain ⟨u,a4,hu,ha4,r4⟩:=bO L hL cs.length hc1 (by omega) a3 s ha3
     have ff:cU cs.length f:=iI of df zf (by omega) (by omega)
     by_cases hvu:v=u
     · have hn:=hnext (.mk 1 0 0 .z .z [] [] [f] [v]) a4 s (.set v f hv ff) (by show s+0<=s;omega) hs5 ha4
       rcases out with _ | ⟨q,r⟩
       · exact ml L cs os T _ _ _ i a s k a1 hi' (by omega) v a2 a3 u a4 f hk4 hB hvu r2 r3 r4 r1 hn
       · rw [hV,hS] at hn
         exact lf L cs os T _ _ _ i a s k a1 hi' (by omega) _ _ (hll q r rfl) v a2 a3 u a4 f hk4 hB hvu r2 r3 r4 r1 hn
     obtain ⟨c,a5,hc,ha5,r5⟩:=bO L hL 3 (by omega) (by omega) a4 s ha4
     by_cases hc0:c=0
     · subst hc0
       obtain ⟨g,a6,og',dg,zg,ha6,r6⟩:=wT L hL cs.length hc1 hc4 a5 s ha5
       have fg:cU cs.length g:=iI og' dg zg (by omega) (by omega)
       have hn:=hnext (.mk 1 0 0 .z .z [] [] [f,g] [v,u]) a6 s (.set2 v u f g hv hu hvu ff fg) (by show s+0<=s;omega) hs5 ha6
       rcases out with _ | ⟨q,r⟩
       · exact mh L cs os T _ _ _ i a s k a1 hi' (by omega) v a2 a3 u a4 a5 a6 f g hk4 hB (fun h=>hvu h.symm) r2 r3 r4 r5 r6 r1 hn
       · rw [hV,hS] at hn
         exact k9 L cs os T _ _ _ i a s k a1 hi' (by omega) _ _ (hll q r rfl) v a2 a3 u a4 a5 a6 f g hk4 hB (fun h=>hvu h.symm) r2 r3 r4 r5 r6 r1 hn
     · have hn:=hnext (.mk 1 0 0 .z .z [] [] [f] [v]) a5 s (.set v f hv ff) (by show s+0<=s;omega) hs5 ha5
       rcases out with _ | ⟨q,r⟩
       · exact mj L cs os T _ _ _ i a s k a1 hi' (by omega) v a2 a3 u a4 c a5 f hk4 hB (fun h=>hvu h.symm) hc0 r2 r3 r4 r5 r1 hn
       · rw [hV,hS] at hn
         exact lc L cs os T _ _ _ i a s k a1 hi' (by omega) _ _ (hll q r rfl) v a2 a3 u a4 c a5 f hk4 hB (fun h=>hvu h.symm) hc0 r2 r3 r4 r5 r1 hn
   by_cases hC:k < 8/\1 < d'+1
   · obtain ⟨f,a2,of,df,zf,ha2,r2⟩:=wS L hL cs.length hc1 hc4 a1 s ha1
     have ff:cU cs.length f:=iI of df zf (by omega) (by omega)
     obtain ⟨z1,a3,hz1,ha3,r3⟩:=bO L hL 3 (by omega) (by omega) a2 s ha2
     obtain ⟨la,a4,s4,⟨oka,lena,tba,h54,ha4⟩,r4⟩:=ih hC.2 z1 (by omega) a3 s ha3 hs5
     obtain ⟨z2,a5,hz2,ha5,r5⟩:=bO L hL 2 (by omega) (by omega) a4 s4 ha4
     obtain ⟨lb,a6,s6,⟨okb,lenb,tbb,h56,ha6⟩,r6⟩:=ih hC.2 z2 (by omega) a5 s4 ha5 h54
     have hn:=hnext (.mk 3 0 0 f .z la lb [] []) a6 s6 (.iff f la lb ff (by omega) (by omega) oka okb) (by simp [Cm.tb];omega) h56 ha6
     rcases out with _ | ⟨q,r⟩
     · rw [List.nil_append,List.map_cons,List.map_nil,Cm.d_eq] at hn
       exact pn L cs os T _ _ _ i a s k a1 hi' (by omega) a2 z1 a3 a4 s4 z2 a5 a6 s6 f la lb (by omega) hB hC.1 hC.2 (by omega) r2 r3 r4 r5 r6 r1 hn
     · rw [hV,hS,Cm.d_eq] at hn
       exact mM L cs os T _ _ _ i a s k a1 hi' (by omega) _ _ (hll q r rfl) a2 z1 a3 a4 s4 z2 a5 a6 s6 f la lb (by omega) hB hC.1 hC.2 (by omega) r2 r3 r4 r5 r6 r1 hn
   by_cases hD:k < 9
   · obtain ⟨f,a2,of,df,zf,ha2,r2⟩:=wS L hL cs.length hc1 hc4 a1 s ha1
     have ff:cU cs.length f:=iI of df zf (by omega) (by omega)
     have hn:=hnext (.mk 4 0 0 f .z [] [] [] []) a2 s (.obs f ff) (by show s+0<=s;omega) hs5 ha2
     rcases out with _ | ⟨q,r⟩
     · exact o9 L cs os T _ _ _ i a s k a1 hi' (by omega) a2 f (by omega) hB hD (by omega) r2 r1 hn
     · rw [hV,hS] at hn
       exact mz L cs os T _ _ _ i a s k a1 hi' (by omega) _ _ (hll q r rfl) a2 f (by omega) hB hD (by omega) r2 r1 hn
   · have hn:=ihm (i+1) a1 s out (by omega) ⟨hok,by omega,htb,hs5,ha1⟩
     rcases out with _ | ⟨q,r⟩
     · exact mA L cs os T _ _ _ i a s k a1 hi' (by omega) hD hk r1 hn
     · exact lz L cs os T _ _ _ i a s k a1 hi' (by omega) _ _ (hll q r rfl) hD hk r1 hn
theorem abB {k:Nat} {res:List VRes} {e:Env} {s:aa} (s':aa) {bs':aa} {xs:List V} {x:D} {ids fz:List Nat} {t:List (Option (List Nat))} {F:(Nat->Option Nat)->aa} [ht:ZTs s' t] [hr:ZRs s' F] (hres:results e s res=some xs) (hd:toD s bB (dZ xs)=some (x,fz)) (hc:aq s fz=s') (hi:cL (cD t 100000 ([]++dM t (List.range k)) (List.range k)) some=some ids) (hs:(ids.map fun i=>getB (F (pos ids)) i)=bs'):fin false k res .ret e s=some (.d x,bs') :=
 ez hres hd hc ((fP ht.h k _).trans (dn hi)) ((ge ids _).trans hs)
theorem lW (L:List Int) (hL:L.length<=1000) (cs:List Ce) (hc1:1<=cs.length) (hc4:cs.length<=4) (os:List Nat) (T:Ty) (d:Nat) (hd1:1<=d) (hd3:d<=3) (ih:1 < d->uB L cs os T (d - 1)):uB L cs os T d:=by
 intro sz hsz a s ha hs
 suffices hrun:Run VP 1 f11.body (cE 0 [.ptr 0 0 0 0,.d (moD 0 cs ([]:List Cm) os T),.d (.int .i64 cs.length),.d (.int .i64 sz),.d (.int .i64 d),.d (.bool false)]) [sbR L a s] (fun o e s' => ∃ x : {p:List Cm×Nat×Nat // pP L cs.length d sz s p.1 p.2.1 p.2.2},fin f11.keep 1 f11.res o e s'=some (.d (.slice (x.1.1.map Cm.d)),[sbR L x.1.2.1 x.1.2.2])) by
  obtain ⟨⟨⟨l,b,s'⟩,hg⟩,h⟩:=nA hrun
  exact ⟨l,b,s',hg,ret_of rfl rfl h⟩
 have hv:=j9 cs.length hc1 hc4
 refine r0 ?_
 refine Z1 ?_
 refine hdX rfl rfl rfl rfl ?_
 refine gM L hL cs hc1 hc4 os T d hd1 hd3 ih sz hsz s ?_ sz 0 a s [] (by omega) ⟨by simp,by simp,by simp [Cm.tbs],hs,ha⟩
 intro out a' s' hg
 have ht:decide ((sz:Int) < (sz:Int))=false:=decide_eq_false (by omega)
 rcases out with _ | ⟨q,r⟩
 · unfold ah
   refine Z1 ?_
   exact ⟨⟨([],a',s'),hg⟩,fe rfl rfl rfl⟩
 · unfold ah
   simp only [List.map_cons,pR,oh]
   refine Z1 ?_
   exact ⟨⟨(q::r,a',s'),hg⟩,abB (s':=[sbR L a' s',mdB cs os T,some (.rows (r.map Cm.d).length true 23 (ao (q.d::r.map Cm.d)))]) (xs:=[.ms 2 (r.map Cm.d).length 0 ((r.map Cm.d).length+1)]) rfl (mg rfl rfl (n6 (q::r))) rfl rfl rfl⟩
theorem pG (L:List Int) (hL:L.length<=1000) (cs:List Ce) (hc1:1<=cs.length) (hc4:cs.length<=4) (os:List Nat) (T:Ty):uB L cs os T 2 :=
 lW L hL cs hc1 hc4 os T 2 (by omega) (by omega) fun _=>lW L hL cs hc1 hc4 os T 1 (by omega) (by omega) fun h=>by omega
theorem abC {k:Nat} {res:List VRes} {e:Env} {s bs':aa} {xs:List V} {v:V} {ids:List Nat} {t:List (Option (List Nat))} {F:(Nat->Option Nat)->aa} [ht:ZTs s t] [hr:ZRs s F] (hres:results e s res=some xs) (hi:cL (cD t 100000 (refs (dZ xs)++dM t (List.range k)) (List.range k)) some=some ids) (hv:ren (pos ids) (dZ xs)=v) (hs:(ids.map fun i=>getB (F (pos ids)) i)=bs'):fin true k res .ret e s=some (v,bs'):=by
 have h1:=(fP ht.h k (refs (dZ xs))).trans (dn hi)
 have h2:=(ge (s:=s) ids (pos ids)).trans hs
 simp only [fin,hres,eo,if_true,h1,hv,h2]
theorem pH (L:List Int) (hL:L.length<=1000) (cs:List Ce) (hc1:1<=cs.length) (hc4:cs.length<=4) (os:List Nat) (T:Ty) (sz:Nat) (hsz:sz<=8) (a s:Nat) (ha:a<=L.length) (hs:s<=5) : ∃ (l:List Cm) (b s':Nat),pP L cs.length 3 sz s l b s'/\Ret VP (.fn 269) [.ptr 0 0 0 0,.d (moD 0 cs ([]:List Cm) os T),.d (.int .i64 cs.length),.d (.int .i64 sz),.d (.int .i64 3),.d (.bool false)] [sbR L a s] (pR 1 (l.map Cm.d)) (sbR L b s'::oh 23 (l.map Cm.d)):=by
 suffices hrun:Run VP 1 f269.body (cE 0 [.ptr 0 0 0 0,.d (moD 0 cs ([]:List Cm) os T),.d (.int .i64 cs.length),.d (.int .i64 sz),.d (.int .i64 3),.d (.bool false)]) [sbR L a s] (fun o e s' => ∃ x : {p:List Cm×Nat×Nat // pP L cs.length 3 sz s p.1 p.2.1 p.2.2},fin f269.keep 1 f269.res o e s'=some (pR 1 (x.1.1.map Cm.d),sbR L x.1.2.1 x.1.2.2::oh 23 (x.1.1.map Cm.d))) by
  obtain ⟨⟨⟨l,b,s'⟩,hg⟩,h⟩:=nA hrun
  exact ⟨l,b,s',hg,cN rfl (fun _ h=>nomatch h) h⟩
 have hv:=j9 cs.length hc1 hc4
 refine r0 ?_
 refine Z1 ?_
 refine hdX rfl rfl rfl rfl ?_
 refine gM L hL cs hc1 hc4 os T 3 (by omega) (by omega) (fun _=>pG L hL cs hc1 hc4 os T) sz hsz s ?_ sz 0 a s [] (by omega) ⟨by simp,by simp,by simp [Cm.tbs],hs,ha⟩
 intro out a' s' hg
 have ht:decide ((sz:Int) < (sz:Int))=false:=decide_eq_false (by omega)
 rcases out with _ | ⟨q,r⟩
 · unfold ah
   refine Z1 ?_
   exact ⟨⟨([],a',s'),hg⟩,fe rfl rfl rfl⟩
 · unfold ah
   simp only [List.map_cons,pR,oh]
   refine Z1 ?_
   exact ⟨⟨(q::r,a',s'),hg⟩,abC (xs:=[.ms 2 (r.map Cm.d).length 0 ((r.map Cm.d).length+1)]) rfl rfl rfl rfl⟩
theorem v4 {n:Nat} {W:List (List D)} : ∀ (h:Nat) (c:Cm),Ok n W h c->Ok n W (h+1) c:=by
 intro h
 induction h with
 | zero=>intro c hc;exact (gf hc).elim
 | succ h ih =>
   intro c hc
   cases hc with
   | set o f ho hf=>exact .set o f ho hf
   | set2 o u f g ho hu hn hf hg=>exact .set2 o u f g ho hu hn hf hg
   | draw v s lo w hv hs hw h1 h2=>exact .draw v s lo w hv hs hw h1 h2
   | iff f a b hf ha hb ca cb=>exact .iff f a b hf ha hb (fun c hc=>ih c (ca c hc)) (fun c hc=>ih c (cb c hc))
   | obs f hf=>exact .obs f hf
   | cut=>exact .cut
theorem JC (L:List Int) (hL:L.length<=1000) (n a s:Nat) (hn:(n:Int) > 0) (ha:a<=L.length) {K:List Fr} {Q:Out->Env->aa->Prop}
 (h : ∀ (c:Ce) (b:Nat),c.Ok->b<=L.length->ah VP 1 [0,1,5,6] fS [.ptr 0 0 0 0,.d (.int .i64 n),.ms 1 0 0 1,.d (.int .i64 1)] [sbR L b s,some (.rows 0 false 3 [[.d (.int .i64 c.k),.d (.int .i64 c.lo),.d (.int .i64 c.hi)]])] K Q):ah VP 1 [0,1,5,6] fS [.ptr 0 0 0 0,.d (.int .i64 n),.nils,.d (.int .i64 0)] [sbR L a s] K Q:=by
 have ht:decide ((0:Int) < (n:Int))=true:=decide_eq_true hn
 obtain ⟨x,a1,hx,ha1,r1⟩:=bO L hL 3 (by omega) (by omega) a s ha
 by_cases hx0:x=0
 · subst hx0
   obtain ⟨y,a2,hy,ha2,r2⟩:=aT L hL (-1) 1 3 (by omega) (by omega) (by omega) (by omega) (by omega) a1 s ha1
   obtain ⟨z,a3,hz,ha3,r3⟩:=aT L hL 1 3 3 (by omega) (by omega) (by omega) (by omega) (by omega) a2 s ha2
   have hw:IntKind.i64.wrap (-1+(y:Int)+(1+(z:Int))) = -1+(y:Int)+(1+(z:Int)):=by rw [i64_in]<;>omega
   have hh:=h ⟨2,-1+(y:Int),IntKind.i64.wrap (-1+(y:Int)+(1+(z:Int)))⟩ a3 (.inr ⟨_,_,rfl,by omega,by omega,by rw [hw];omega,by rw [hw];omega⟩) ha3
   unfold sb at r1 r2 r3
   unfold ah
   refine Z1r ?_
   refine hdX rfl rfl rfl rfl ?_
   exact hh
 · have tx:((x:Int)==0)=false:=by simp;omega
   have hh:=h ⟨1,0,1⟩ a1 (.inl rfl) ha1
   unfold sb at r1
   unfold ah
   refine Z1 ?_
   refine hdX rfl rfl rfl rfl ?_
   exact hh
theorem JB (L:List Int) (hL:L.length<=1000) (n a s:Nat) (c0:Ce) (hn:(n:Int) > 1) (ha:a<=L.length) {K:List Fr} {Q:Out->Env->aa->Prop}
 (h : ∀ (c:Ce) (b:Nat),c.Ok->b<=L.length->ah VP 1 [0,1,5,6] fS [.ptr 0 0 0 0,.d (.int .i64 n),.ms 1 1 0 2,.d (.int .i64 2)] [sbR L b s,some (.rows 1 false 3 [[.d (.int .i64 c0.k),.d (.int .i64 c0.lo),.d (.int .i64 c0.hi)],[.d (.int .i64 c.k),.d (.int .i64 c.lo),.d (.int .i64 c.hi)]])] K Q):ah VP 1 [0,1,5,6] fS [.ptr 0 0 0 0,.d (.int .i64 n),.ms 1 0 0 1,.d (.int .i64 1)] [sbR L a s,some (.rows 0 false 3 [[.d (.int .i64 c0.k),.d (.int .i64 c0.lo),.d (.int .i64 c0.hi)]])] K Q:=by
 have ht:decide ((1:Int) < (n:Int))=true:=decide_eq_true hn
 obtain ⟨x,a1,hx,ha1,r1⟩:=bO L hL 3 (by omega) (by omega) a s ha
 by_cases hx0:x=0
 · subst hx0
   obtain ⟨y,a2,hy,ha2,r2⟩:=aT L hL (-1) 1 3 (by omega) (by omega) (by omega) (by omega) (by omega) a1 s ha1
   obtain ⟨z,a3,hz,ha3,r3⟩:=aT L hL 1 3 3 (by omega) (by omega) (by omega) (by omega) (by omega) a2 s ha2
   have hw:IntKind.i64.wrap (-1+(y:Int)+(1+(z:Int))) = -1+(y:Int)+(1+(z:Int)):=by rw [i64_in]<;>omega
   have hh:=h ⟨2,-1+(y:Int),IntKind.i64.wrap (-1+(y:Int)+(1+(z:Int)))⟩ a3 (.inr ⟨_,_,rfl,by omega,by omega,by rw [hw];omega,by rw [hw];omega⟩) ha3
   unfold sb at r1 r2 r3
   unfold ah
   refine Z1r ?_
   refine hdX rfl rfl rfl rfl ?_
   exact hh
 · have tx:((x:Int)==0)=false:=by simp;omega
   have hh:=h ⟨1,0,1⟩ a1 (.inl rfl) ha1
   unfold sb at r1
   unfold ah
   refine Z1 ?_
   refine hdX rfl rfl rfl rfl ?_
   exact hh
theorem JA (L:List Int) (hL:L.length<=1000) (n a s:Nat) (c0 c1:Ce) (hn:(n:Int) > 2) (ha:a<=L.length) {K:List Fr} {Q:Out->Env->aa->Prop}
 (h : ∀ (c:Ce) (b:Nat),c.Ok->b<=L.length->ah VP 1 [0,1,5,6] fS [.ptr 0 0 0 0,.d (.int .i64 n),.ms 1 2 0 3,.d (.int .i64 3)] [sbR L b s,some (.rows 2 false 3 [[.d (.int .i64 c0.k),.d (.int .i64 c0.lo),.d (.int .i64 c0.hi)],[.d (.int .i64 c1.k),.d (.int .i64 c1.lo),.d (.int .i64 c1.hi)],[.d (.int .i64 c.k),.d (.int .i64 c.lo),.d (.int .i64 c.hi)]])] K Q):ah VP 1 [0,1,5,6] fS [.ptr 0 0 0 0,.d (.int .i64 n),.ms 1 1 0 2,.d (.int .i64 2)] [sbR L a s,some (.rows 1 false 3 [[.d (.int .i64 c0.k),.d (.int .i64 c0.lo),.d (.int .i64 c0.hi)],[.d (.int .i64 c1.k),.d (.int .i64 c1.lo),.d (.int .i64 c1.hi)]])] K Q:=by
 have ht:decide ((2:Int) < (n:Int))=true:=decide_eq_true hn
 obtain ⟨x,a1,hx,ha1,r1⟩:=bO L hL 3 (by omega) (by omega) a s ha
 by_cases hx0:x=0
 · subst hx0
   obtain ⟨y,a2,hy,ha2,r2⟩:=aT L hL (-1) 1 3 (by omega) (by omega) (by omega) (by omega) (by omega) a1 s ha1
   obtain ⟨z,a3,hz,ha3,r3⟩:=aT L hL 1 3 3 (by omega) (by omega) (by omega) (by omega) (by omega) a2 s ha2
   have hw:IntKind.i64.wrap (-1+(y:Int)+(1+(z:Int))) = -1+(y:Int)+(1+(z:Int)):=by rw [i64_in]<;>omega
   have hh:=h ⟨2,-1+(y:Int),IntKind.i64.wrap (-1+(y:Int)+(1+(z:Int)))⟩ a3 (.inr ⟨_,_,rfl,by omega,by omega,by rw [hw];omega,by rw [hw];omega⟩) ha3
   unfold sb at r1 r2 r3
   unfold ah
   refine Z1r ?_
   refine hdX rfl rfl rfl rfl ?_
   exact hh
 · have tx:((x:Int)==0)=false:=by simp;omega
   have hh:=h ⟨1,0,1⟩ a1 (.inl rfl) ha1
   unfold sb at r1
   unfold ah
   refine Z1 ?_
   refine hdX rfl rfl rfl rfl ?_
   exact hh
theorem Jz (L:List Int) (hL:L.length<=1000) (n a s:Nat) (c0 c1 c2:Ce) (hn:(n:Int) > 3) (ha:a<=L.length) {K:List Fr} {Q:Out->Env->aa->Prop}
 (h : ∀ (c:Ce) (b:Nat),c.Ok->b<=L.length->ah VP 1 [0,1,5,6] fS [.ptr 0 0 0 0,.d (.int .i64 n),.ms 1 3 0 4,.d (.int .i64 4)] [sbR L b s,some (.rows 3 false 3 [[.d (.int .i64 c0.k),.d (.int .i64 c0.lo),.d (.int .i64 c0.hi)],[.d (.int .i64 c1.k),.d (.int .i64 c1.lo),.d (.int .i64 c1.hi)],[.d (.int .i64 c2.k),.d (.int .i64 c2.lo),.d (.int .i64 c2.hi)],[.d (.int .i64 c.k),.d (.int .i64 c.lo),.d (.int .i64 c.hi)]])] K Q):ah VP 1 [0,1,5,6] fS [.ptr 0 0 0 0,.d (.int .i64 n),.ms 1 2 0 3,.d (.int .i64 3)] [sbR L a s,some (.rows 2 false 3 [[.d (.int .i64 c0.k),.d (.int .i64 c0.lo),.d (.int .i64 c0.hi)],[.d (.int .i64 c1.k),.d (.int .i64 c1.lo),.d (.int .i64 c1.hi)],[.d (.int .i64 c2.k),.d (.int .i64 c2.lo),.d (.int .i64 c2.hi)]])] K Q:=by
 have ht:decide ((3:Int) < (n:Int))=true:=decide_eq_true hn
 obtain ⟨x,a1,hx,ha1,r1⟩:=bO L hL 3 (by omega) (by omega) a s ha
 by_cases hx0:x=0
 · subst hx0
   obtain ⟨y,a2,hy,ha2,r2⟩:=aT L hL (-1) 1 3 (by omega) (by omega) (by omega) (by omega) (by omega) a1 s ha1
   obtain ⟨z,a3,hz,ha3,r3⟩:=aT L hL 1 3 3 (by omega) (by omega) (by omega) (by omega) (by omega) a2 s ha2
   have hw:IntKind.i64.wrap (-1+(y:Int)+(1+(z:Int))) = -1+(y:Int)+(1+(z:Int)):=by rw [i64_in]<;>omega
   have hh:=h ⟨2,-1+(y:Int),IntKind.i64.wrap (-1+(y:Int)+(1+(z:Int)))⟩ a3 (.inr ⟨_,_,rfl,by omega,by omega,by rw [hw];omega,by rw [hw];omega⟩) ha3
   unfold sb at r1 r2 r3
   unfold ah
   refine Z1r ?_
   refine hdX rfl rfl rfl rfl ?_
   exact hh
 · have tx:((x:Int)==0)=false:=by simp;omega
   have hh:=h ⟨1,0,1⟩ a1 (.inl rfl) ha1
   unfold sb at r1
   unfold ah
   refine Z1 ?_
   refine hdX rfl rfl rfl rfl ?_
   exact hh
theorem mC (L:List Int) (hL:L.length<=1000) (n:Nat) (hn1:1<=n) (hn4:n<=4) (a s:Nat) (ha:a<=L.length) : ∃ (cs:List Ce) (b:Nat),cs.length=n/\(∀ c∈cs,c.Ok)/\b<=L.length/\Ret VP (.fn 10) [.ptr 0 0 0 0,.d (.int .i64 n)] [sb L a s] (.d (.slice (cs.map Ce.d))) [sb L b s]:=by
 unfold sb
 suffices hrun:Run VP 1 f10.body (cE 0 [.ptr 0 0 0 0,.d (.int .i64 n)]) [sbR L a s] (fun o e s' => ∃ x : {p:List Ce×Nat // p.1.length=n/\(∀ c∈p.1,c.Ok)/\p.2<=L.length},fin f10.keep 1 f10.res o e s'=some (.d (.slice (x.1.1.map Ce.d)),[sbR L x.1.2 s])) by
  obtain ⟨⟨⟨cs,b⟩,h1,h2,h3⟩,h⟩:=nA hrun
  exact ⟨cs,b,h1,h2,h3,ret_of rfl rfl h⟩
 refine r0 ?_
 refine Z1 ?_
 refine hdX rfl rfl rfl rfl ?_
 refine JC L hL n a s (by omega) ha fun c0 b0 o0' hb0 => ?_
 by_cases hn:n=1
 · have ht:decide ((1:Int) < (n:Int))=false:=decide_eq_false (by omega)
   unfold ah
   refine Z1 ?_
   exact ⟨⟨([c0],b0),⟨hn.symm,by intro c hc;simp at hc;rw [hc];assumption,hb0⟩⟩,fe rfl rfl rfl⟩
 refine JB L hL n b0 s c0 (by omega) hb0 fun c1 b1 o1' hb1 => ?_
 by_cases hn:n=2
 · have ht:decide ((2:Int) < (n:Int))=false:=decide_eq_false (by omega)
   unfold ah
   refine Z1 ?_
   exact ⟨⟨([c0,c1],b1),⟨hn.symm,by intro c hc;simp at hc;rcases hc with rfl | rfl<;>assumption,hb1⟩⟩,fe rfl rfl rfl⟩
 refine JA L hL n b1 s c0 c1 (by omega) hb1 fun c2 b2 o2' hb2 => ?_
 by_cases hn:n=3
 · have ht:decide ((3:Int) < (n:Int))=false:=decide_eq_false (by omega)
   unfold ah
   refine Z1 ?_
   exact ⟨⟨([c0,c1,c2],b2),⟨hn.symm,by intro c hc;simp at hc;rcases hc with rfl | rfl | rfl<;>assumption,hb2⟩⟩,fe rfl rfl rfl⟩
 refine Jz L hL n b2 s c0 c1 c2 (by omega) hb2 fun c3 b3 o3' hb3 => ?_
 have hn:n=4:=by omega
 have ht:decide ((4:Int) < (n:Int))=false:=decide_eq_false (by omega)
 unfold ah
 refine Z1 ?_
 exact ⟨⟨([c0,c1,c2,c3],b3),⟨hn.symm,by intro c hc;simp at hc;rcases hc with rfl | rfl | rfl | rfl<;>assumption,hb3⟩⟩,fe rfl rfl rfl⟩
abbrev rsB (cs:List Ce) (x y:V):Option Blk:=some (.rows 0 false 11 [[.d (.int .i64 0),.d (.slice (cs.map Ce.d)),.d (.slice []),.d (.slice []),.d (.slice []),x,.d (.int .i64 5),.d (.int .i64 0),.d (.int .i64 0),.d (.int .i64 0),y]])
abbrev rsZ:Option Blk:=some (.rows 0 false 11 [[.d (.int .i64 0),.nils,.nils,.nils,.nils,.nils,.d (.int .i64 0),.d (.int .i64 0),.d (.int .i64 0),.d (.int .i64 0),.nils]])
abbrev tyR (c:Ce):List V:=[.d (.int .i64 c.k),.d (.int .i64 (if c.k=2 then c.lo else 0)),.d (.int .i64 (if c.k=2 then c.hi else 0)),.d (.int .i64 0),.d (.slice [])]
theorem amR (L:List Int) (hL:L.length<=1000) (cs:List Ce) (a s i:Nat) (c:Ce) (hc:c.Ok) (hi:i < cs.length) (hg:(cs.map Ce.d)[i]?=some c.d) (h4:cs.length<=4) (ha:a<=L.length) {K:List Fr} {Q:Out->Env->aa->Prop}
 (h : ∀ b:Nat,b<=L.length->ah VP 1 [0,3,4,5] dE [.ptr 0 0 0 0,.ptr 1 0 0 0,.ptr 2 0 0 0,.d (.int .i64 (i+1:Nat))] [sbR L b s,rsB cs (.ms 3 0 0 1) (.ms 4 0 0 1),rsZ,some (.rows 0 false 1 [[.d (.int .i64 (i:Nat))]]),some (.rows 0 false 5 [tyR c])] K Q):ah VP 1 [0,3,4,5] dE [.ptr 0 0 0 0,.ptr 1 0 0 0,.ptr 2 0 0 0,.d (.int .i64 i)] [sbR L a s,rsB cs (.nils) (.nils),rsZ] K Q:=by
 have ht:decide ((i:Int) < (((cs.map Ce.d).length:Nat):Int))=true:=decide_eq_true (by rw [List.length_map];omega)
 have hwi:=ac i (by omega)
 rcases hc with rfl | ⟨lo,hi',rfl,h1,h2,h3,h4⟩
 · unfold ah;refine Z1r ?_;rw [hwi];refine hdX rfl rfl rfl rfl ?_;exact h a ha
 · unfold ah;refine Z1r ?_;rw [hwi];refine hdX rfl rfl rfl rfl ?_;exact h a ha
theorem amQ (L:List Int) (hL:L.length<=1000) (cs:List Ce) (a s i:Nat) (u0:Nat) (c0:Ce) (c:Ce) (hc:c.Ok) (hi:i < cs.length) (hg:(cs.map Ce.d)[i]?=some c.d) (h4:cs.length<=4) (ha:a<=L.length) {K:List Fr} {Q:Out->Env->aa->Prop}
 (hs : ∀ b:Nat,b<=L.length->ah VP 1 [0,3,4,5] dE [.ptr 0 0 0 0,.ptr 1 0 0 0,.ptr 2 0 0 0,.d (.int .i64 (i+1:Nat))] [sbR L b s,rsB cs (.ms 3 0 0 1) (.ms 4 0 0 1),rsZ,some (.rows 0 false 1 [[.d (.int .i64 (u0:Nat))]]),some (.rows 0 false 5 [tyR c0])] K Q) (h : ∀ b:Nat,b<=L.length->ah VP 1 [0,3,4,5] dE [.ptr 0 0 0 0,.ptr 1 0 0 0,.ptr 2 0 0 0,.d (.int .i64 (i+1:Nat))] [sbR L b s,rsB cs (.ms 3 1 0 2) (.ms 4 1 0 2),rsZ,some (.rows 1 false 1 [[.d (.int .i64 (u0:Nat))],[.d (.int .i64 (i:Nat))]]),some (.rows 1 false 5 [tyR c0,tyR c])] K Q):ah VP 1 [0,3,4,5] dE [.ptr 0 0 0 0,.ptr 1 0 0 0,.ptr 2 0 0 0,.d (.int .i64 i)] [sbR L a s,rsB cs (.ms 3 0 0 1) (.ms 4 0 0 1),rsZ,some (.rows 0 false 1 [[.d (.int .i64 (u0:Nat))]]),some (.rows 0 false 5 [tyR c0])] K Q:=by
 have ht:decide ((i:Int) < (((cs.map Ce.d).length:Nat):Int))=true:=decide_eq_true (by rw [List.length_map];omega)
 have hwi:=ac i (by omega)
 obtain ⟨x,a1,hx,ha1,r1⟩:=bO L hL 3 (by omega) (by omega) a s ha
 unfold sb at r1
 by_cases hx0:x=0
 · subst hx0
   rcases hc with rfl | ⟨lo,hi',rfl,h1,h2,h3,h4⟩
   · unfold ah;refine Z1r ?_;rw [hwi];refine hdX rfl rfl rfl rfl ?_;exact hs a1 ha1
   · unfold ah;refine Z1r ?_;rw [hwi];refine hdX rfl rfl rfl rfl ?_;exact hs a1 ha1
 · have tx:((x:Int)==0)=false:=by simp;omega
   rcases hc with rfl | ⟨lo,hi',rfl,h1,h2,h3,h4⟩
   · unfold ah;refine Z1r ?_;rw [hwi];refine hdX rfl rfl rfl rfl ?_;exact h a1 ha1
   · unfold ah;refine Z1r ?_;rw [hwi];refine hdX rfl rfl rfl rfl ?_;exact h a1 ha1
theorem amP (L:List Int) (hL:L.length<=1000) (cs:List Ce) (a s i:Nat) (u0 u1:Nat) (c0 c1:Ce) (c:Ce) (hc:c.Ok) (hi:i < cs.length) (hg:(cs.map Ce.d)[i]?=some c.d) (h4:cs.length<=4) (ha:a<=L.length) {K:List Fr} {Q:Out->Env->aa->Prop}
 (hs : ∀ b:Nat,b<=L.length->ah VP 1 [0,3,4,5] dE [.ptr 0 0 0 0,.ptr 1 0 0 0,.ptr 2 0 0 0,.d (.int .i64 (i+1:Nat))] [sbR L b s,rsB cs (.ms 3 1 0 2) (.ms 4 1 0 2),rsZ,some (.rows 1 false 1 [[.d (.int .i64 (u0:Nat))],[.d (.int .i64 (u1:Nat))]]),some (.rows 1 false 5 [tyR c0,tyR c1])] K Q) (h : ∀ b:Nat,b<=L.length->ah VP 1 [0,3,4,5] dE [.ptr 0 0 0 0,.ptr 1 0 0 0,.ptr 2 0 0 0,.d (.int .i64 (i+1:Nat))] [sbR L b s,rsB cs (.ms 3 2 0 3) (.ms 4 2 0 3),rsZ,some (.rows 2 false 1 [[.d (.int .i64 (u0:Nat))],[.d (.int .i64 (u1:Nat))],[.d (.int .i64 (i:Nat))]]),some (.rows 2 false 5 [tyR c0,tyR c1,tyR c])] K Q):ah VP 1 [0,3,4,5] dE [.ptr 0 0 0 0,.ptr 1 0 0 0,.ptr 2 0 0 0,.d (.int .i64 i)] [sbR L a s,rsB cs (.ms 3 1 0 2) (.ms 4 1 0 2),rsZ,some (.rows 1 false 1 [[.d (.int .i64 (u0:Nat))],[.d (.int .i64 (u1:Nat))]]),some (.rows 1 false 5 [tyR c0,tyR c1])] K Q:=by
 have ht:decide ((i:Int) < (((cs.map Ce.d).length:Nat):Int))=true:=decide_eq_true (by rw [List.length_map];omega)
 have hwi:=ac i (by omega)
 obtain ⟨x,a1,hx,ha1,r1⟩:=bO L hL 3 (by omega) (by omega) a s ha
 unfold sb at r1
 by_cases hx0:x=0
 · subst hx0
   rcases hc with rfl | ⟨lo,hi',rfl,h1,h2,h3,h4⟩
   · unfold ah;refine Z1r ?_;rw [hwi];refine hdX rfl rfl rfl rfl ?_;exact hs a1 ha1
   · unfold ah;refine Z1r ?_;rw [hwi];refine hdX rfl rfl rfl rfl ?_;exact hs a1 ha1
 · have tx:((x:Int)==0)=false:=by simp;omega
   rcases hc with rfl | ⟨lo,hi',rfl,h1,h2,h3,h4⟩
   · unfold ah;refine Z1r ?_;rw [hwi];refine hdX rfl rfl rfl rfl ?_;exact h a1 ha1
   · unfold ah;refine Z1r ?_;rw [hwi];refine hdX rfl rfl rfl rfl ?_;exact h a1 ha1
theorem amO (L:List Int) (hL:L.length<=1000) (cs:List Ce) (a s i:Nat) (u0 u1 u2:Nat) (c0 c1 c2:Ce) (c:Ce) (hc:c.Ok) (hi:i < cs.length) (hg:(cs.map Ce.d)[i]?=some c.d) (h4:cs.length<=4) (ha:a<=L.length) {K:List Fr} {Q:Out->Env->aa->Prop}
 (hs : ∀ b:Nat,b<=L.length->ah VP 1 [0,3,4,5] dE [.ptr 0 0 0 0,.ptr 1 0 0 0,.ptr 2 0 0 0,.d (.int .i64 (i+1:Nat))] [sbR L b s,rsB cs (.ms 3 2 0 3) (.ms 4 2 0 3),rsZ,some (.rows 2 false 1 [[.d (.int .i64 (u0:Nat))],[.d (.int .i64 (u1:Nat))],[.d (.int .i64 (u2:Nat))]]),some (.rows 2 false 5 [tyR c0,tyR c1,tyR c2])] K Q) (h : ∀ b:Nat,b<=L.length->ah VP 1 [0,3,4,5] dE [.ptr 0 0 0 0,.ptr 1 0 0 0,.ptr 2 0 0 0,.d (.int .i64 (i+1:Nat))] [sbR L b s,rsB cs (.ms 3 3 0 4) (.ms 4 3 0 4),rsZ,some (.rows 3 false 1 [[.d (.int .i64 (u0:Nat))],[.d (.int .i64 (u1:Nat))],[.d (.int .i64 (u2:Nat))],[.d (.int .i64 (i:Nat))]]),some (.rows 3 false 5 [tyR c0,tyR c1,tyR c2,tyR c])] K Q):ah VP 1 [0,3,4,5] dE [.ptr 0 0 0 0,.ptr 1 0 0 0,.ptr 2 0 0 0,.d (.int .i64 i)] [sbR L a s,rsB cs (.ms 3 2 0 3) (.ms 4 2 0 3),rsZ,some (.rows 2 false 1 [[.d (.int .i64 (u0:Nat))],[.d (.int .i64 (u1:Nat))],[.d (.int .i64 (u2:Nat))]]),some (.rows 2 false 5 [tyR c0,tyR c1,tyR c2])] K Q:=by
 have ht:decide ((i:Int) < (((cs.map Ce.d).length:Nat):Int))=true:=decide_eq_true (by rw [List.length_map];omega)
 have hwi:=ac i (by omega)
 obtain ⟨x,a1,hx,ha1,r1⟩:=bO L hL 3 (by omega) (by omega) a s ha
 unfold sb at r1
 by_cases hx0:x=0
 · subst hx0
   rcases hc with rfl | ⟨lo,hi',rfl,h1,h2,h3,h4⟩
   · unfold ah;refine Z1r ?_;rw [hwi];refine hdX rfl rfl rfl rfl ?_;exact hs a1 ha1
   · unfold ah;refine Z1r ?_;rw [hwi];refine hdX rfl rfl rfl rfl ?_;exact hs a1 ha1
 · have tx:((x:Int)==0)=false:=by simp;omega
   rcases hc with rfl | ⟨lo,hi',rfl,h1,h2,h3,h4⟩
   · unfold ah;refine Z1r ?_;rw [hwi];refine hdX rfl rfl rfl rfl ?_;exact h a1 ha1
   · unfold ah;refine Z1r ?_;rw [hwi];refine hdX rfl rfl rfl rfl ?_;exact h a1 ha1
def RQ (L:List Int) (cs:List Ce) (s:Nat):Out->Env->aa->Prop:=fun o e s' => ∃ x : {p:List Nat×List Ce×Nat // Outs cs p.1 p.2.1/\p.2.2<=L.length},fin f9.keep 1 f9.res o e s'=some (.d (moD 0 cs [] x.1.1 (dY x.1.2.1)),[sbR L x.1.2.2 s])
theorem amW (L:List Int) (hL:L.length<=1000) (cs:List Ce) (hcs : ∀ c∈cs,c.Ok) (h4:cs.length<=4) (s:Nat) (u0 u1 u2 u3:Nat) (c0 c1 c2 c3:Ce) (g0:cs[u0]?=some c0) (q0:c0.Ok) (g1:cs[u1]?=some c1) (q1:c1.Ok) (g2:cs[u2]?=some c2) (q2:c2.Ok) (g3:cs[u3]?=some c3) (q3:c3.Ok) (a:Nat) (ha:a<=L.length):ah VP 1 [0,3,4,5] dE [.ptr 0 0 0 0,.ptr 1 0 0 0,.ptr 2 0 0 0,.d (.int .i64 cs.length)] [sbR L a s,rsB cs (.ms 3 3 0 4) (.ms 4 3 0 4),rsZ,some (.rows 3 false 1 [[.d (.int .i64 (u0:Nat))],[.d (.int .i64 (u1:Nat))],[.d (.int .i64 (u2:Nat))],[.d (.int .i64 (u3:Nat))]]),some (.rows 3 false 5 [tyR c0,tyR c1,tyR c2,tyR c3])] [.block 0,.seq kL] (RQ L cs s):=by
 have ht:decide ((cs.length:Int) < (((cs.map Ce.d).length:Nat):Int))=false:=decide_eq_false (by rw [List.length_map];omega)
 have hO:Outs cs [u0,u1,u2,u3] [c0,c1,c2,c3]:=by
  refine ⟨rfl,by simp,by simp,?_,?_⟩
  · intro i h h'
    rcases (by simp at h;omega:i=0\/i=1\/i=2\/i=3) with rfl | rfl | rfl | rfl
    · exact g0
    · exact g1
    · exact g2
    · exact g3
  · intro c hc
    simp only [List.mem_cons,List.not_mem_nil,or_false] at hc
    rcases hc with rfl | rfl | rfl | rfl
    all_goals assumption
 unfold ah
 refine Z1 ?_
 exact ⟨⟨([u0,u1,u2,u3],[c0,c1,c2,c3],a),hO,ha⟩,fe rfl rfl rfl⟩
theorem amS (L:List Int) (hL:L.length<=1000) (cs:List Ce) (hcs : ∀ c∈cs,c.Ok) (h4:cs.length<=4) (s:Nat) (u0 u1 u2 u3:Nat) (c0 c1 c2 c3:Ce) (g0:cs[u0]?=some c0) (q0:c0.Ok) (g1:cs[u1]?=some c1) (q1:c1.Ok) (g2:cs[u2]?=some c2) (q2:c2.Ok) (g3:cs[u3]?=some c3) (q3:c3.Ok) (a i m:Nat) (h4i:4<=i) (hm:i+m=cs.length) (ha:a<=L.length):ah VP 1 [0,3,4,5] dE [.ptr 0 0 0 0,.ptr 1 0 0 0,.ptr 2 0 0 0,.d (.int .i64 i)] [sbR L a s,rsB cs (.ms 3 3 0 4) (.ms 4 3 0 4),rsZ,some (.rows 3 false 1 [[.d (.int .i64 (u0:Nat))],[.d (.int .i64 (u1:Nat))],[.d (.int .i64 (u2:Nat))],[.d (.int .i64 (u3:Nat))]]),some (.rows 3 false 5 [tyR c0,tyR c1,tyR c2,tyR c3])] [.block 0,.seq kL] (RQ L cs s):=by
 have e:i=cs.length:=by omega
 subst e
 exact amW L hL cs hcs h4 s u0 u1 u2 u3 c0 c1 c2 c3 g0 q0 g1 q1 g2 q2 g3 q3 a ha
theorem amX (L:List Int) (hL:L.length<=1000) (cs:List Ce) (hcs : ∀ c∈cs,c.Ok) (h4:cs.length<=4) (s:Nat) (u0 u1 u2:Nat) (c0 c1 c2:Ce) (g0:cs[u0]?=some c0) (q0:c0.Ok) (g1:cs[u1]?=some c1) (q1:c1.Ok) (g2:cs[u2]?=some c2) (q2:c2.Ok) (a:Nat) (ha:a<=L.length):ah VP 1 [0,3,4,5] dE [.ptr 0 0 0 0,.ptr 1 0 0 0,.ptr 2 0 0 0,.d (.int .i64 cs.length)] [sbR L a s,rsB cs (.ms 3 2 0 3) (.ms 4 2 0 3),rsZ,some (.rows 2 false 1 [[.d (.int .i64 (u0:Nat))],[.d (.int .i64 (u1:Nat))],[.d (.int .i64 (u2:Nat))]]),some (.rows 2 false 5 [tyR c0,tyR c1,tyR c2])] [.block 0,.seq kL] (RQ L cs s):=by
 have ht:decide ((cs.length:Int) < (((cs.map Ce.d).length:Nat):Int))=false:=decide_eq_false (by rw [List.length_map];omega)
 have hO:Outs cs [u0,u1,u2] [c0,c1,c2]:=by
  refine ⟨rfl,by simp,by simp,?_,?_⟩
  · intro i h h'
    rcases (by simp at h;omega:i=0\/i=1\/i=2) with rfl | rfl | rfl
    · exact g0
    · exact g1
    · exact g2
  · intro c hc
    simp only [List.mem_cons,List.not_mem_nil,or_false] at hc
    rcases hc with rfl | rfl | rfl
    all_goals assumption
 unfold ah
 refine Z1 ?_
 exact ⟨⟨([u0,u1,u2],[c0,c1,c2],a),hO,ha⟩,fe rfl rfl rfl⟩
theorem amT (L:List Int) (hL:L.length<=1000) (cs:List Ce) (hcs : ∀ c∈cs,c.Ok) (h4:cs.length<=4) (s:Nat) (u0 u1 u2:Nat) (c0 c1 c2:Ce) (g0:cs[u0]?=some c0) (q0:c0.Ok) (g1:cs[u1]?=some c1) (q1:c1.Ok) (g2:cs[u2]?=some c2) (q2:c2.Ok) (m:Nat) : ∀ (a i:Nat),3<=i->i+m=cs.length->a<=L.length->ah VP 1 [0,3,4,5] dE [.ptr 0 0 0 0,.ptr 1 0 0 0,.ptr 2 0 0 0,.d (.int .i64 i)] [sbR L a s,rsB cs (.ms 3 2 0 3) (.ms 4 2 0 3),rsZ,some (.rows 2 false 1 [[.d (.int .i64 (u0:Nat))],[.d (.int .i64 (u1:Nat))],[.d (.int .i64 (u2:Nat))]]),some (.rows 2 false 5 [tyR c0,tyR c1,tyR c2])] [.block 0,.seq kL] (RQ L cs s):=by
 induction m with
 | zero =>
   intro a i hk hi ha
   have e:i=cs.length:=by omega
   subst e
   exact amX L hL cs hcs h4 s u0 u1 u2 c0 c1 c2 g0 q0 g1 q1 g2 q2 a ha
 | succ m ih =>
   intro a i hk hi ha
   have hi':i < cs.length:=by omega
   have hg:(cs.map Ce.d)[i]?=some cs[i].d:=by rw [List.getElem?_map,List.getElem?_eq_getElem hi'];rfl
   have hc:=hcs _ (List.getElem_mem hi')
   have hq:cs[i]?=some cs[i]:=List.getElem?_eq_getElem hi'
   refine amO L hL cs a s i u0 u1 u2 c0 c1 c2 cs[i] hc hi' hg h4 ha (fun b hb=>ih b (i+1) (by omega) (by omega) hb) fun b hb => ?_
   exact amS L hL cs hcs h4 s u0 u1 u2 i c0 c1 c2 cs[i] g0 q0 g1 q1 g2 q2 hq hc b (i+1) m (by omega) (by omega) hb
theorem amY (L:List Int) (hL:L.length<=1000) (cs:List Ce) (hcs : ∀ c∈cs,c.Ok) (h4:cs.length<=4) (s:Nat) (u0 u1:Nat) (c0 c1:Ce) (g0:cs[u0]?=some c0) (q0:c0.Ok) (g1:cs[u1]?=some c1) (q1:c1.Ok) (a:Nat) (ha:a<=L.length):ah VP 1 [0,3,4,5] dE [.ptr 0 0 0 0,.ptr 1 0 0 0,.ptr 2 0 0 0,.d (.int .i64 cs.length)] [sbR L a s,rsB cs (.ms 3 1 0 2) (.ms 4 1 0 2),rsZ,some (.rows 1 false 1 [[.d (.int .i64 (u0:Nat))],[.d (.int .i64 (u1:Nat))]]),some (.rows 1 false 5 [tyR c0,tyR c1])] [.block 0,.seq kL] (RQ L cs s):=by
 have ht:decide ((cs.length:Int) < (((cs.map Ce.d).length:Nat):Int))=false:=decide_eq_false (by rw [List.length_map];omega)
 have hO:Outs cs [u0,u1] [c0,c1]:=by
  refine ⟨rfl,by simp,by simp,?_,?_⟩
  · intro i h h'
    rcases (by simp at h;omega:i=0\/i=1) with rfl | rfl
    · exact g0
    · exact g1
  · intro c hc
    simp only [List.mem_cons,List.not_mem_nil,or_false] at hc
    rcases hc with rfl | rfl
    all_goals assumption
 unfold ah
 refine Z1 ?_
 exact ⟨⟨([u0,u1],[c0,c1],a),hO,ha⟩,fe rfl rfl rfl⟩
theorem amU (L:List Int) (hL:L.length<=1000) (cs:List Ce) (hcs : ∀ c∈cs,c.Ok) (h4:cs.length<=4) (s:Nat) (u0 u1:Nat) (c0 c1:Ce) (g0:cs[u0]?=some c0) (q0:c0.Ok) (g1:cs[u1]?=some c1) (q1:c1.Ok) (m:Nat) : ∀ (a i:Nat),2<=i->i+m=cs.length->a<=L.length->ah VP 1 [0,3,4,5] dE [.ptr 0 0 0 0,.ptr 1 0 0 0,.ptr 2 0 0 0,.d (.int .i64 i)] [sbR L a s,rsB cs (.ms 3 1 0 2) (.ms 4 1 0 2),rsZ,some (.rows 1 false 1 [[.d (.int .i64 (u0:Nat))],[.d (.int .i64 (u1:Nat))]]),some (.rows 1 false 5 [tyR c0,tyR c1])] [.block 0,.seq kL] (RQ L cs s):=by
 induction m with
 | zero =>
   intro a i hk hi ha
   have e:i=cs.length:=by omega
   subst e
   exact amY L hL cs hcs h4 s u0 u1 c0 c1 g0 q0 g1 q1 a ha
 | succ m ih =>
   intro a i hk hi ha
   have hi':i < cs.length:=by omega
   have hg:(cs.map Ce.d)[i]?=some cs[i].d:=by rw [List.getElem?_map,List.getElem?_eq_getElem hi'];rfl
   have hc:=hcs _ (List.getElem_mem hi')
   have hq:cs[i]?=some cs[i]:=List.getElem?_eq_getElem hi'
   refine amP L hL cs a s i u0 u1 c0 c1 cs[i] hc hi' hg h4 ha (fun b hb=>ih b (i+1) (by omega) (by omega) hb) fun b hb => ?_
   exact amT L hL cs hcs h4 s u0 u1 i c0 c1 cs[i] g0 q0 g1 q1 hq hc m b (i+1) (by omega) (by omega) hb
theorem amZ (L:List Int) (hL:L.length<=1000) (cs:List Ce) (hcs : ∀ c∈cs,c.Ok) (h4:cs.length<=4) (s:Nat) (u0:Nat) (c0:Ce) (g0:cs[u0]?=some c0) (q0:c0.Ok) (a:Nat) (ha:a<=L.length):ah VP 1 [0,3,4,5] dE [.ptr 0 0 0 0,.ptr 1 0 0 0,.ptr 2 0 0 0,.d (.int .i64 cs.length)] [sbR L a s,rsB cs (.ms 3 0 0 1) (.ms 4 0 0 1),rsZ,some (.rows 0 false 1 [[.d (.int .i64 (u0:Nat))]]),some (.rows 0 false 5 [tyR c0])] [.block 0,.seq kL] (RQ L cs s):=by
 have ht:decide ((cs.length:Int) < (((cs.map Ce.d).length:Nat):Int))=false:=decide_eq_false (by rw [List.length_map];omega)
 have hO:Outs cs [u0] [c0]:=by
  refine ⟨rfl,by simp,by simp,?_,?_⟩
  · intro i h h'
    rcases (by simp at h;omega:i=0) with rfl
    · exact g0
  · intro c hc
    simp only [List.mem_cons,List.not_mem_nil,or_false] at hc
    rcases hc with rfl
    all_goals assumption
 unfold ah
 refine Z1 ?_
 exact ⟨⟨([u0],[c0],a),hO,ha⟩,fe rfl rfl rfl⟩
theorem amV (L:List Int) (hL:L.length<=1000) (cs:List Ce) (hcs : ∀ c∈cs,c.Ok) (h4:cs.length<=4) (s:Nat) (u0:Nat) (c0:Ce) (g0:cs[u0]?=some c0) (q0:c0.Ok) (m:Nat) : ∀ (a i:Nat),1<=i->i+m=cs.length->a<=L.length->ah VP 1 [0,3,4,5] dE [.ptr 0 0 0 0,.ptr 1 0 0 0,.ptr 2 0 0 0,.d (.int .i64 i)] [sbR L a s,rsB cs (.ms 3 0 0 1) (.ms 4 0 0 1),rsZ,some (.rows 0 false 1 [[.d (.int .i64 (u0:Nat))]]),some (.rows 0 false 5 [tyR c0])] [.block 0,.seq kL] (RQ L cs s):=by
 induction m with
 | zero =>
   intro a i hk hi ha
   have e:i=cs.length:=by omega
   subst e
   exact amZ L hL cs hcs h4 s u0 c0 g0 q0 a ha
 | succ m ih =>
   intro a i hk hi ha
   have hi':i < cs.length:=by omega
   have hg:(cs.map Ce.d)[i]?=some cs[i].d:=by rw [List.getElem?_map,List.getElem?_eq_getElem hi'];rfl
   have hc:=hcs _ (List.getElem_mem hi')
   have hq:cs[i]?=some cs[i]:=List.getElem?_eq_getElem hi'
   refine amQ L hL cs a s i u0 c0 cs[i] hc hi' hg h4 ha (fun b hb=>ih b (i+1) (by omega) (by omega) hb) fun b hb => ?_
   exact amU L hL cs hcs h4 s u0 i c0 cs[i] g0 q0 hq hc m b (i+1) (by omega) (by omega) hb
theorem lD (L:List Int) (hL:L.length<=1000) (cs:List Ce) (hcs : ∀ c∈cs,c.Ok) (h1:1<=cs.length) (h4:cs.length<=4) (a s:Nat) (ha:a<=L.length) : ∃ (os:List Nat) (es:List Ce) (b:Nat),Outs cs os es/\b<=L.length/\Ret VP (.fn 9) [.ptr 0 0 0 0,.d (moD 0 cs [] [] ⟨0,0,0,0,[]⟩)] [sbR L a s] (.d (moD 0 cs [] os (dY es))) [sbR L b s]:=by
 suffices hrun:Run VP 1 f9.body (cE 0 [.ptr 0 0 0 0,.d (moD 0 cs [] [] ⟨0,0,0,0,[]⟩)]) [sbR L a s] (RQ L cs s) by
  obtain ⟨⟨⟨os,es,b⟩,h1,h2⟩,h⟩:=nA hrun
  exact ⟨os,es,b,h1,h2,ret_of rfl rfl h⟩
 refine r0 ?_
 refine Z1 ?_
 refine hdX rfl rfl rfl rfl ?_
 have hg:(cs.map Ce.d)[0]?=some cs[0].d:=by rw [List.getElem?_map,List.getElem?_eq_getElem (by omega)];rfl
 have hc:=hcs _ (List.getElem_mem (n:=0) (by omega))
 refine amR L hL cs a s 0 cs[0] hc (by omega) hg h4 ha fun b hb => ?_
 exact amV L hL cs hcs h4 s 0 cs[0] (List.getElem?_eq_getElem (by omega)) hc (cs.length - 1) b 1 (by omega) (by omega) hb
theorem vd {s:aa} {id ver k:Nat} {ro:Bool} {es:List D} {d0 d1 d2 d3 d5 d6 d7 d8 d9 d10:D} (hb:getB s id=some (.rows ver ro 23 (ao es))) (hk:k=es.length) (ho:es.all bJ=true):ai s [] [.agg [.d d0,.d d1,.d d2,.d d3,.ms id ver 0 k,.d d5,.d d6,.d d7,.d d8,.d d9,.d d10]]=some ([.d (.agg [d0,d1,d2,d3,.slice es,d5,d6,d7,d8,d9,d10])],[id]):=by
 have h1:toD s 29 (.ms id ver 0 k)=some (.slice es,[id]):=jr (n:=27) hb hk ho
 have h2:toD s bB (.agg [.d d0,.d d1,.d d2,.d d3,.ms id ver 0 k,.d d5,.d d6,.d d7,.d d8,.d d9,.d d10])=some (.agg [d0,d1,d2,d3,.slice es,d5,d6,d7,d8,d9,d10],[id]):=by
  show (aC (toD s 29) [.d d0,.d d1,.d d2,.d d3,.ms id ver 0 k,.d d5,.d d6,.d d7,.d d8,.d d9,.d d10]).map (fun (es,a)=>(D.agg es,a))=_
  simp only [aC,h1]
  rfl
 simp only [ai,h2]
 rfl
theorem oCL {b0:Nat} {d:Option Nat} {os:List VOper} {e:Env} {s s2:aa} {Q:Env->aa->Prop} {f:Nat} {args:List Opd} {as:List V} {fz:List Nat} {r:D} (hret:Ret VP (.fn f) as [] (.d r) []) (hc:ai s (al VP f) (args.map (ev e))=some (as,fz)) (hr:refsL as=[]) (hs:(if gl r then s else aq s fz)=s2) (h:Ops VP b0 os (put e d (.d r)) s2 Q):Ops VP b0 (⟨d,.call f args,none⟩::os) e s Q:=oC hc hr hret (by rw [aF,hs]) h
theorem ovs {b0:Nat} {d:Option Nat} {op:VOp} {os:List VOper} {e:Env} {s s2:aa} {Q:Env->aa->Prop} {x:V} (h1:sB (ae (fun _ _ _=>none) (fun _=>[]) b0 op e s)=some x) (h2:(ae (fun _ _ _=>none) (fun _=>[]) b0 op e s).map Prod.snd=some s2) (h:Ops VP b0 os (put e d x) s2 Q):Ops VP b0 (⟨d,op,none⟩::os) e s Q:=by
 refine qR ?_
 unfold Io
 unfold sB at h1
 split at h1
 · rename_i y s' hr
   rw [hr] at h2 ⊢
   rw [dK] at h1
   simp only [Option.map_some,Option.some.injEq] at h1 h2
   subst h1;subst h2
   exact h
 · rename_i s' hr
   rw [hr] at h2 ⊢
   simp only [Option.map_some,Option.some.injEq] at h1 h2
   subst h1;subst h2
   exact h
 · cases h1
abbrev mdM (cs:List Ce) (x:V) (os:List Nat) (T:Ty):Option Blk:=some (.rows 0 false 11 [[.d (.int .i64 (0:Nat)),.d (.slice (cs.map Ce.d)),.d (.slice []),.d (.slice []),x,.d (.slice (os.map oD)),.d (.int .i64 T.a),.d (.int .i64 T.b),.d (.int .i64 T.c),.d (.int .i64 T.d),.d (.slice T.e)]])
theorem vK (L:List Int) (cs:List Ce) (os:List Nat) (T:Ty) (a a1 a2 a3 a4 a5 s5 a6 y k:Nat) (m:List Cm)
 (r1:Ret VP (.fn 8) [.ptr 0 0 0 0,.d (.int .i64 1),.d (.int .i64 4)] [sbR L a 0] (.d (.int .i64 cs.length)) [sbR L a1 0])
 (r2:Ret VP (.fn 10) [.ptr 0 0 0 0,.d (.int .i64 cs.length)] [sbR L a1 0] (.d (.slice (cs.map Ce.d))) [sbR L a2 0])
 (r3:Ret VP (.fn 9) [.ptr 0 0 0 0,.d (moD 0 cs [] [] ⟨0,0,0,0,[]⟩)] [sbR L a2 0] (.d (moD 0 cs [] os T)) [sbR L a3 0])
 (r4:Ret VP (.fn 8) [.ptr 0 0 0 0,.d (.int .i64 1),.d (.int .i64 7)] [sbR L a3 0] (.d (.int .i64 y)) [sbR L a4 0])
 (r5:Ret VP (.fn 269) [.ptr 0 0 0 0,.d (moD 0 cs ([]:List Cm) os T),.d (.int .i64 cs.length),.d (.int .i64 y),.d (.int .i64 3),.d (.bool false)] [sbR L a4 0] (.nils) [sbR L a5 s5])
 (r6:Ret VP (.fn 12) [.ptr 0 0 0 0,.d (.int .i64 12)] [sbR L a5 s5] (.d (.int .i64 k)) [sbR L a6 s5]) (hk:k≠11)
 (r7:Ret VP (.fn 15) [.d (moD 0 cs [] os T)] [] (.d (.tuple [moD 0 cs m os T,.int .i64 0])) []) :
 Ret VP (.fn 3) [.ptr 0 0 0 0,.d (.int .i64 0)] [sbR L a 0] (.d (moD 0 cs m os T)) [sbR L a6 s5]:=by
 have t:((k:Int)==11)=false:=by simp;omega
 refine ret_of rfl rfl (r0 ?_)
 refine Z1 ?_
 exact fe rfl rfl rfl
theorem sH (L:List Int) (cs:List Ce) (os:List Nat) (T:Ty) (a a1 a2 a3 a4 a5 s5 a6 y k:Nat) (m:List Cm) (a7:Nat) (f:Fo)
 (r1:Ret VP (.fn 8) [.ptr 0 0 0 0,.d (.int .i64 1),.d (.int .i64 4)] [sbR L a 0] (.d (.int .i64 cs.length)) [sbR L a1 0])
 (r2:Ret VP (.fn 10) [.ptr 0 0 0 0,.d (.int .i64 cs.length)] [sbR L a1 0] (.d (.slice (cs.map Ce.d))) [sbR L a2 0])
 (r3:Ret VP (.fn 9) [.ptr 0 0 0 0,.d (moD 0 cs [] [] ⟨0,0,0,0,[]⟩)] [sbR L a2 0] (.d (moD 0 cs [] os T)) [sbR L a3 0])
 (r4:Ret VP (.fn 8) [.ptr 0 0 0 0,.d (.int .i64 1),.d (.int .i64 7)] [sbR L a3 0] (.d (.int .i64 y)) [sbR L a4 0])
 (r5:Ret VP (.fn 269) [.ptr 0 0 0 0,.d (moD 0 cs ([]:List Cm) os T),.d (.int .i64 cs.length),.d (.int .i64 y),.d (.int .i64 3),.d (.bool false)] [sbR L a4 0] (.nils) [sbR L a5 s5])
 (r6:Ret VP (.fn 12) [.ptr 0 0 0 0,.d (.int .i64 12)] [sbR L a5 s5] (.d (.int .i64 11)) [sbR L a6 s5]) (cv:Ret VP (.fn 14) [.d (.int .i64 cs.length)] [] (.d (.slice ((aO cs.length).map iD))) []) (cf:Ret VP (.fn 13) [.ptr 0 0 0 0,.d (.slice ((aO cs.length).map iD)),.d (.int .i64 2)] [sbR L a6 s5] (.d f.d) [sbR L a7 s5])
 (r7:Ret VP (.fn 15) [.d (moD 0 cs [(Cm.mk 3 0 0 f .z [.mk 5 0 0 .z .z [] [] [] []] [] [] [])] os T)] [] (.d (.tuple [moD 0 cs m os T,.int .i64 0])) []) :
 Ret VP (.fn 3) [.ptr 0 0 0 0,.d (.int .i64 0)] [sbR L a 0] (.d (moD 0 cs m os T)) [sbR L a7 s5]:=by
 refine ret_of rfl rfl (r0 ?_)
 refine Z1r ?_
 exact fe rfl rfl rfl
theorem sG (L:List Int) (cs:List Ce) (os:List Nat) (T:Ty) (a a1 a2 a3 a4 a5 s5 a6 y k:Nat) (m:List Cm) (q:Cm) (l:List Cm)
 (r1:Ret VP (.fn 8) [.ptr 0 0 0 0,.d (.int .i64 1),.d (.int .i64 4)] [sbR L a 0] (.d (.int .i64 cs.length)) [sbR L a1 0])
 (r2:Ret VP (.fn 10) [.ptr 0 0 0 0,.d (.int .i64 cs.length)] [sbR L a1 0] (.d (.slice (cs.map Ce.d))) [sbR L a2 0])
 (r3:Ret VP (.fn 9) [.ptr 0 0 0 0,.d (moD 0 cs [] [] ⟨0,0,0,0,[]⟩)] [sbR L a2 0] (.d (moD 0 cs [] os T)) [sbR L a3 0])
 (r4:Ret VP (.fn 8) [.ptr 0 0 0 0,.d (.int .i64 1),.d (.int .i64 7)] [sbR L a3 0] (.d (.int .i64 y)) [sbR L a4 0])
 (r5:Ret VP (.fn 269) [.ptr 0 0 0 0,.d (moD 0 cs ([]:List Cm) os T),.d (.int .i64 cs.length),.d (.int .i64 y),.d (.int .i64 3),.d (.bool false)] [sbR L a4 0] (.ms 1 (l.map Cm.d).length 0 ((l.map Cm.d).length+1)) [sbR L a5 s5,some (.rows (l.map Cm.d).length false 23 (ao (q.d::l.map Cm.d)))])
 (r6:Ret VP (.fn 12) [.ptr 0 0 0 0,.d (.int .i64 12)] [sbR L a5 s5] (.d (.int .i64 k)) [sbR L a6 s5]) (hk:k≠11)
 (r7:Ret VP (.fn 15) [.d (moD 0 cs (q::l) os T)] [] (.d (.tuple [moD 0 cs m os T,.int .i64 0])) []) :
 Ret VP (.fn 3) [.ptr 0 0 0 0,.d (.int .i64 0)] [sbR L a 0] (.d (moD 0 cs m os T)) [sbR L a6 s5]:=by
 have t:((k:Int)==11)=false:=by simp;omega
 refine ret_of rfl rfl (r0 ?_)
 (refine Z1p ?_;(repeat first | (refine fw (oRX r5 rfl rfl rfl rfl rfl rfl rfl rfl (o0 ⟨rfl,rfl⟩)) ?_;refine Z1p ?_) | (refine oRX r6 rfl rfl rfl rfl rfl rfl rfl rfl ?_;refine Z1p ?_) | (refine oCL r7 (vd rfl (by simp) (n6 (q::l))) rfl (s2:=[sbR L a6 s5,rsZ,mdM cs (.ms 3 (l.map Cm.d).length 0 ((l.map Cm.d).length+1)) os T,some (.rows (l.map Cm.d).length true 23 (ao (q.d::l.map Cm.d)))]) rfl ?_;refine Z1p ?_) | (refine ovs (s2:=[sbR L a6 s5,rsZ,mdM cs (.d (.slice (m.map Cm.d))) os T,some (.rows (l.map Cm.d).length true 23 (ao (q.d::l.map Cm.d)))]) rfl rfl ?_;refine Z1p ?_) | (refine ovs (s2:=[sbR L a6 s5,mdM cs (.d (.slice (m.map Cm.d))) os T,mdM cs (.d (.slice (m.map Cm.d))) os T,some (.rows (l.map Cm.d).length true 23 (ao (q.d::l.map Cm.d)))]) rfl rfl ?_;refine Z1p ?_)))
 exact fe rfl rfl rfl
theorem qq (L:List Int) (cs:List Ce) (os:List Nat) (T:Ty) (a a1 a2 a3 a4 a5 s5 a6 y k:Nat) (m:List Cm) (q:Cm) (l:List Cm) (hl:(l.map Cm.d).length<=100) (a7:Nat) (f:Fo)
 (r1:Ret VP (.fn 8) [.ptr 0 0 0 0,.d (.int .i64 1),.d (.int .i64 4)] [sbR L a 0] (.d (.int .i64 cs.length)) [sbR L a1 0])
 (r2:Ret VP (.fn 10) [.ptr 0 0 0 0,.d (.int .i64 cs.length)] [sbR L a1 0] (.d (.slice (cs.map Ce.d))) [sbR L a2 0])
 (r3:Ret VP (.fn 9) [.ptr 0 0 0 0,.d (moD 0 cs [] [] ⟨0,0,0,0,[]⟩)] [sbR L a2 0] (.d (moD 0 cs [] os T)) [sbR L a3 0])
 (r4:Ret VP (.fn 8) [.ptr 0 0 0 0,.d (.int .i64 1),.d (.int .i64 7)] [sbR L a3 0] (.d (.int .i64 y)) [sbR L a4 0])
 (r5:Ret VP (.fn 269) [.ptr 0 0 0 0,.d (moD 0 cs ([]:List Cm) os T),.d (.int .i64 cs.length),.d (.int .i64 y),.d (.int .i64 3),.d (.bool false)] [sbR L a4 0] (.ms 1 (l.map Cm.d).length 0 ((l.map Cm.d).length+1)) [sbR L a5 s5,some (.rows (l.map Cm.d).length false 23 (ao (q.d::l.map Cm.d)))])
 (r6:Ret VP (.fn 12) [.ptr 0 0 0 0,.d (.int .i64 12)] [sbR L a5 s5] (.d (.int .i64 11)) [sbR L a6 s5]) (cv:Ret VP (.fn 14) [.d (.int .i64 cs.length)] [] (.d (.slice ((aO cs.length).map iD))) []) (cf:Ret VP (.fn 13) [.ptr 0 0 0 0,.d (.slice ((aO cs.length).map iD)),.d (.int .i64 2)] [sbR L a6 s5] (.d f.d) [sbR L a7 s5])
 (r7:Ret VP (.fn 15) [.d (moD 0 cs (q::l++[(Cm.mk 3 0 0 f .z [.mk 5 0 0 .z .z [] [] [] []] [] [] [])]) os T)] [] (.d (.tuple [moD 0 cs m os T,.int .i64 0])) []) :
 Ret VP (.fn 3) [.ptr 0 0 0 0,.d (.int .i64 0)] [sbR L a 0] (.d (moD 0 cs m os T)) [sbR L a7 s5]:=by
 have hroom:au ((l.map Cm.d).length+1+1) 376=true:=by rw [au,Bool.and_eq_true,decide_eq_true_eq,decide_eq_true_eq];omega
 have hok:=n6 (q::l++[(Cm.mk 3 0 0 f .z [.mk 5 0 0 .z .z [] [] [] []] [] [] [])])
 have e1:(q::l++[(Cm.mk 3 0 0 f .z [.mk 5 0 0 .z .z [] [] [] []] [] [] [])]).map Cm.d=q.d::l.map Cm.d++[cmD 3 0 0 f .z [cmD 5 0 0 .z .z [] [] [] []] [] [] []]:=by rw [List.map_append,List.map_cons,List.map_cons,List.map_nil];rfl
 unfold moD at r7
 rw [e1] at r7 hok
 refine ret_of rfl rfl (r0 ?_)
 (refine Z1pr ?_;(repeat first | (refine fw (oRX r5 rfl rfl rfl rfl rfl rfl rfl rfl (o0 ⟨rfl,rfl⟩)) ?_;refine Z1pr ?_) | (refine oRX r6 rfl rfl rfl rfl rfl rfl rfl rfl ?_;refine Z1pr ?_) | (refine oCL r7 (vd rfl (by simp) hok) rfl (s2:=[sbR L a7 s5,rsZ,mdM cs (.ms 3 ((l.map Cm.d).length+1) 0 (((l.map Cm.d).length+1)+1)) os T,some (.rows ((l.map Cm.d).length+1) true 23 (ao (q.d::l.map Cm.d++[cmD 3 0 0 f .z [cmD 5 0 0 .z .z [] [] [] []] [] [] []]))),none]) rfl ?_;refine Z1pr ?_) | (refine ovs (s2:=[sbR L a7 s5,rsZ,mdM cs (.d (.slice (m.map Cm.d))) os T,some (.rows ((l.map Cm.d).length+1) true 23 (ao (q.d::l.map Cm.d++[cmD 3 0 0 f .z [cmD 5 0 0 .z .z [] [] [] []] [] [] []]))),none]) rfl rfl ?_;refine Z1pr ?_) | (refine ovs (s2:=[sbR L a7 s5,mdM cs (.d (.slice (m.map Cm.d))) os T,mdM cs (.d (.slice (m.map Cm.d))) os T,some (.rows ((l.map Cm.d).length+1) true 23 (ao (q.d::l.map Cm.d++[cmD 3 0 0 f .z [cmD 5 0 0 .z .z [] [] [] []] [] [] []]))),none]) rfl rfl ?_;refine Z1pr ?_) | (refine fw (oaD (cmD 3 0 0 f .z [cmD 5 0 0 .z .z [] [] [] []] [] [] []) rfl rfl rfl (by simp) rfl hroom rfl (o0 ⟨rfl,rfl⟩)) ?_;refine Z1pr ?_) | (refine fw (oCL cv rfl rfl (s2:=[sbR L a6 s5,rsZ,mdM cs (.ms 3 (l.map Cm.d).length 0 ((l.map Cm.d).length+1)) os T,some (.rows (l.map Cm.d).length false 23 (ao (q.d::l.map Cm.d))),none]) rfl (o0 ⟨rfl,rfl⟩)) ?_;refine Z1pr ?_) | (refine fw (oRX cf rfl rfl rfl rfl rfl rfl rfl rfl (o0 ⟨rfl,rfl⟩)) ?_;refine Z1pr ?_)))
 trace_state
 exact fe rfl rfl rfl
end Go.Proofs.YtemffeblbmimfaaGreat
namespace Go.Proofs.YtemffeblbmimfaaGreat
open Go.IntWalk
attribute [local irreducible] au
set_option maxHeartbeats 4000000
set_option maxRecDepth 100000
mutual
theorem num_cnt : ∀ (c:Cm) (n:Nat),(c.num n).2=n+c.tb.length
 | .mk k v s f t a b g o,n=>by
   have h1:=nums_cnt a (if k=2 then n+1 else n)
   have h2:=nums_cnt b (Cm.nums a (if k=2 then n+1 else n)).2
   simp only [Cm.num,Cm.tb,List.length_append]
   split at h1<;>rename_i hk<;>simp only [hk,if_true,if_false,List.length_cons,List.length_nil] at h2 ⊢ <;> omega
theorem nums_cnt : ∀ (l:List Cm) (n:Nat),(Cm.nums l n).2=n+(Cm.tbs l).length
 | [],n=>by simp [Cm.nums,Cm.tbs]
 | c::l,n=>by
   have h1:=num_cnt c n
   have h2:=nums_cnt l (c.num n).2
   simp only [Cm.nums,Cm.tbs,List.length_append];omega
end
mutual
theorem tb_num : ∀ (c:Cm) (n:Nat),(c.num n).1.tb=c.tb
 | .mk k v s f t a b g o,n=>by
   have h1:=tbs_nums a (if k=2 then n+1 else n)
   have h2:=tbs_nums b (Cm.nums a (if k=2 then n+1 else n)).2
   simp only [Cm.num,Cm.tb,h1,h2]
theorem tbs_nums : ∀ (l:List Cm) (n:Nat),Cm.tbs (Cm.nums l n).1=Cm.tbs l
 | [],n=>by simp [Cm.nums,Cm.tbs]
 | c::l,n=>by
   have h1:=tb_num c n
   have h2:=tbs_nums l (c.num n).2
   simp only [Cm.nums,Cm.tbs,h1,h2]
end
theorem nT {cs:List Ce} {l:List Cm} {os:List Nat} {es:List Ce} (h1:1<=cs.length) (h4:cs.length<=4) (hcs : ∀ c∈cs,c.Ok) (hl : ∀ c∈l,Ok cs.length W0 4 c) (h8:l.length<=8) (hr:Outs cs os es) (ht:(Cm.tbs l).length<=5):GoodM cs l os es :=
 ⟨h1,h4,hcs,hl,h8,hr,by rw [nums_cnt];omega⟩
theorem kg (L:List Int) (hL:L.length<=1000) (a:Nat) (ha:a<=L.length) : ∃ (cs:List Ce) (l:List Cm) (os:List Nat) (es:List Ce) (b s':Nat),GoodM cs l os es/\(Cm.tbs l).length<=5/\b<=L.length/\Ret VP (.fn 3) [.ptr 0 0 0 0,.d (.int .i64 0)] [sbR L a 0] (.d (moD 0 cs (Cm.nums l 0).1 os (dY es))) [sbR L b s']:=by
 obtain ⟨x,a1,hx,ha1,r1⟩:=aT L hL 1 4 4 (by omega) (by omega) (by omega) (by omega) (by omega) a 0 ha
 obtain ⟨cs,a2,hcl,hcs,ha2,r2⟩:=mC L hL (x+1) (by omega) (by omega) a1 0 ha1
 obtain ⟨os,es,a3,hO,ha3,r3⟩:=lD L hL cs hcs (by omega) (by omega) a2 0 ha2
 obtain ⟨y,a4,hy,ha4,r4⟩:=aT L hL 1 7 7 (by omega) (by omega) (by omega) (by omega) (by omega) a3 0 ha3
 obtain ⟨l,a5,s5,⟨hok,hlen,htb,h5,ha5⟩,r5⟩:=pH L hL cs (by omega) (by omega) os (dY es) (y+1) (by omega) a4 0 ha4 (by omega)
 obtain ⟨k,a6,hk,ha6,r6⟩:=bO L hL 12 (by omega) (by omega) a5 s5 ha5
 unfold sb at r1 r2 r4 r6
 rw [show (1+(x:Int))=(cs.length:Int) by omega] at r1
 rw [<- hcl] at r2
 rw [show (1+(y:Int))=((y+1:Nat):Int) by omega] at r4
 have hok4 : ∀ c∈l,Ok cs.length W0 4 c:=fun c hc=>v4 3 c (hok c hc)
 by_cases hk11:k=11
 · subst hk11
   obtain ⟨f,a7,of,df,zf,ha7,rf⟩:=wT L hL cs.length (by omega) (by omega) a6 s5 ha6
   unfold sb at rf
   have ff:cU cs.length f:=iI of df zf (by omega) (by omega)
   have hv:=j9 cs.length (by omega) (by omega)
   have hc:Ok cs.length W0 4 (Cm.mk 3 0 0 f .z [.mk 5 0 0 .z .z [] [] [] []] [] [] []) := .iff f _ _ ff (by simp) (by simp) (fun c hc=>by rw [List.mem_singleton] at hc;rw [hc];exact .cut) (by simp)
   have hok' : ∀ c∈l++[Cm.mk 3 0 0 f .z [.mk 5 0 0 .z .z [] [] [] []] [] [] []],Ok cs.length W0 4 c:=by
    intro c h
    rw [List.mem_append,List.mem_singleton] at h
    exact h.elim (hok4 c) fun h=>h▸hc
   have ht5:(Cm.tbs (l++[Cm.mk 3 0 0 f .z [.mk 5 0 0 .z .z [] [] [] []] [] [] []])).length<=5:=by
    rw [nu,List.length_append];simp [Cm.tb,Cm.tbs];omega
   have G:GoodM cs (l++[Cm.mk 3 0 0 f .z [.mk 5 0 0 .z .z [] [] [] []] [] [] []]) os es:=nT (by omega) (by omega) hcs hok' (by rw [List.length_append,List.length_singleton];omega) hO ht5
   refine ⟨cs,_,os,es,a7,s5,G,ht5,ha7,?_⟩
   have r7:=nO G
   rcases l with _ | ⟨q,l⟩
   · exact sH L cs os (dY es) a a1 a2 a3 a4 a5 s5 a6 (y+1) 11 _ a7 f r1 r2 r3 r4 r5 r6 hv rf r7
   · exact qq L cs os (dY es) a a1 a2 a3 a4 a5 s5 a6 (y+1) 11 _ q l (by simp at hlen ⊢;omega) a7 f r1 r2 r3 r4 r5 r6 hv rf r7
 · have G:GoodM cs l os es:=nT (by omega) (by omega) hcs hok4 (by omega) hO (by omega)
   refine ⟨cs,l,os,es,a6,s5,G,by omega,ha6,?_⟩
   have r7:=nO G
   rcases l with _ | ⟨q,l⟩
   · exact vK L cs os (dY es) a a1 a2 a3 a4 a5 s5 a6 (y+1) k _ r1 r2 r3 r4 r5 r6 hk11 r7
   · exact sG L cs os (dY es) a a1 a2 a3 a4 a5 s5 a6 (y+1) k _ q l r1 r2 r3 r4 r5 r6 hk11 r7
theorem odS {b0:Nat} {d:Option Nat} {os:List VOper} {e:Env} {s:aa} {Q:Env->aa->Prop} {x y:Opd} {es:List D} {n esz:Nat} {k:IntKind} (hx:ev e x = .d (.slice es)) (hy:ev e y = .d (.int k (n:Nat))) (hn:n<=es.length) (hw:wide (esz+1) es=true) (h:Ops VP b0 os (put e d (.d (.slice (es.take n)))) s Q):Ops VP b0 (⟨d,.slice (esz+1) x none (some y),none⟩::os) e s Q :=
 aZ (fun call=>by
  have h1:(0:Int)<=((n:Nat):Int):=by omega
  simp [az,bx,ae,hx,hy,lK,dq,iN,gq,hn,h1,hw]) h
theorem wl (l:List Int):Ret VP (.fn 2) [.d (.slice (l.map iD))] [] (.ptr 0 0 0 0) [sbR (l.take 1000) 0 0]:=by
 by_cases h:l.length > 1000
 · have t:decide ((((l.map iD).length:Nat):Int) > 1000)=true:=decide_eq_true (by rw [List.length_map];omega)
   have hw:wide 1 (l.map iD)=true:=by simp [wide,iD,D.cells]
   show Ret VP (.fn 2) [.d (.slice (l.map iD))] [] (.ptr 0 0 0 0) [some (.rows 0 false 3 [[.d (.slice ((l.take 1000).map iD)),.d (.int .i64 (0:Nat)),.d (.int .i64 (0:Nat))]])]
   rw [List.map_take]
   have hl:1000<=(l.map iD).length:=by rw [List.length_map];omega
   generalize (l.map iD)=es at *
   refine ret_of rfl rfl (r0 ?_)
   (refine Z1 ?_;(repeat first | (refine odS (n:=1000) rfl rfl hl hw ?_;refine Z1 ?_)))
   exact fe rfl rfl rfl
 · have t:decide ((((l.map iD).length:Nat):Int) > 1000)=false:=decide_eq_false (by rw [List.length_map];omega)
   rw [List.take_of_length_le (by omega)]
   refine ret_of rfl rfl (r0 ?_)
   refine Z1 ?_
   exact fe rfl rfl rfl
theorem tv (L:List Int) (hL:L.length<=1000) (b:Nat) (h1:1<=b) (hb:b<=100) (a s:Nat) (ha:a<=L.length) : ∃ (ts:List Nat) (a':Nat),ts.length=6/\(∀ t∈ts,t < b)/\a'<=L.length/\Ret VP (.fn 367) [.ptr 0 0 0 0,.d (.int .i64 6),.d (.int .i64 ((b - 1:Nat):Int))] [sbR L a s] (.d (.slice (ts.map oD))) [sbR L a' s]:=by
 obtain ⟨x0,a0,hx0,ha0,r0'⟩:=bO L hL b h1 (by omega) a s ha
 obtain ⟨x1,a1,hx1,ha1,r1⟩:=bO L hL b h1 (by omega) a0 s ha0
 obtain ⟨x2,a2,hx2,ha2,r2⟩:=bO L hL b h1 (by omega) a1 s ha1
 obtain ⟨x3,a3,hx3,ha3,r3⟩:=bO L hL b h1 (by omega) a2 s ha2
 obtain ⟨x4,a4,hx4,ha4,r4⟩:=bO L hL b h1 (by omega) a3 s ha3
 obtain ⟨x5,a5,hx5,ha5,r5⟩:=bO L hL b h1 (by omega) a4 s ha4
 have hw:IntKind.i64.wrap (((b - 1:Nat):Int)+1)=(b:Int):=by rw [i64_in]<;>omega
 refine ⟨[x0,x1,x2,x3,x4,x5],a5,rfl,?_,ha5,?_⟩
 · intro t ht
   simp only [List.mem_cons,List.not_mem_nil,or_false] at ht
   rcases ht with rfl | rfl | rfl | rfl | rfl | rfl<;>assumption
 · unfold sb at r0' r1 r2 r3 r4 r5
   rw [<- hw] at r0' r1 r2 r3 r4 r5
   refine ret_of rfl rfl (r0 ?_)
   refine Z2 ?_
   exact fe rfl rfl rfl
end Go.Proofs.YtemffeblbmimfaaGreat
