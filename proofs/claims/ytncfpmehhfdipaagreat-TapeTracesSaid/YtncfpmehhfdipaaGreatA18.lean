/- Modules in general: they are made; results. -/
import Derived.Test.YtncfpmehhfdipaaGreatA08
import Derived.Test.YtncfpmehhfdipaaGreatA17
import Derived.Test.YtncfpmehhfdipaaGreatA11
import Derived.Test.YtncfpmehhfdipaaGreatA15
import Derived.Test.YtncfpmehhfdipaaGreatA09
set_option linter.unusedSimpArgs false
set_option linter.unusedVariables false
set_option linter.unnecessarySimpa false
namespace Go.Proofs.YtncfpmehhfdipaaGreat
open Go.IntWalk
attribute [local irreducible] au
set_option maxHeartbeats 4000000
set_option maxRecDepth 100000
abbrev rsB (cs:List Ce) (x y:V):Option Blk:=some (.rows 0 false 11 [[.d (.int .i64 0),.d (.slice (cs.map Ce.d)),.d (.slice []),.d (.slice []),.d (.slice []),x,.d (.int .i64 5),.d (.int .i64 0),.d (.int .i64 0),.d (.int .i64 0),y]])
abbrev rsZ:Option Blk:=some (.rows 0 false 11 [[.d (.int .i64 0),.nils,.nils,.nils,.nils,.nils,.d (.int .i64 0),.d (.int .i64 0),.d (.int .i64 0),.d (.int .i64 0),.nils]])
abbrev tyR (c:Ce):List V:=[.d (.int .i64 c.k),.d (.int .i64 (if c.k=2 then c.lo else 0)),.d (.int .i64 (if c.k=2 then c.hi else 0)),.d (.int .i64 0),.d (.slice [])]
theorem amR (L:List Int) (hL:L.length<=1000) (cs:List Ce) (a s i:Nat) (c:Ce) (hc:c.Ok) (hi:i < cs.length) (hg:(cs.map Ce.d)[i]?=some c.d) (h4:cs.length<=4) (ha:a<=L.length) {K:List Fr} {Q:Out->Env->aa->Prop}
 (h : ∀ b:Nat,b<=L.length->ah VP 1 [0,3,4,5] dE [.ptr 0 0 0 0,.ptr 1 0 0 0,.ptr 2 0 0 0,.d (.int .i64 (i+1:Nat))] [sbR L b s,rsB cs (.ms 3 0 0 1) (.ms 4 0 0 1),rsZ,some (.rows 0 false 1 [[.d (.int .i64 (i:Nat))]]),some (.rows 0 false 5 [tyR c])] K Q):ah VP 1 [0,3,4,5] dE [.ptr 0 0 0 0,.ptr 1 0 0 0,.ptr 2 0 0 0,.d (.int .i64 i)] [sbR L a s,rsB cs (.nils) (.nils),rsZ] K Q:=by
 have ht:decide ((i:Int) < (((cs.map Ce.d).length:Nat):Int))=true:=decide_eq_true (by rw [List.length_map];omega)
 have hwi:=ac i (by omega)
 rcases hc with rfl | ⟨lo,hi',rfl,h1,h2,h3,h4⟩
 · unfold ah;refine Z1r ?_;rw [hwi];refine hdX rfl rfl rfl rfl ?_;exact h a ha
 · unfold ah;refine Z1r ?_;rw [hwi];refine hdX rfl rfl rfl rfl ?_;exact h a ha
theorem amQ (L:List Int) (hL:L.length<=1000) (cs:List Ce) (a s i:Nat) (u0:Nat) (c0:Ce) (c:Ce) (hc:c.Ok) (hi:i < cs.length) (hg:(cs.map Ce.d)[i]?=some c.d) (h4:cs.length<=4) (ha:a<=L.length) {K:List Fr} {Q:Out->Env->aa->Prop}
 (hs : ∀ b:Nat,b<=L.length->ah VP 1 [0,3,4,5] dE [.ptr 0 0 0 0,.ptr 1 0 0 0,.ptr 2 0 0 0,.d (.int .i64 (i+1:Nat))] [sbR L b s,rsB cs (.ms 3 0 0 1) (.ms 4 0 0 1),rsZ,some (.rows 0 false 1 [[.d (.int .i64 (u0:Nat))]]),some (.rows 0 false 5 [tyR c0])] K Q) (h : ∀ b:Nat,b<=L.length->ah VP 1 [0,3,4,5] dE [.ptr 0 0 0 0,.ptr 1 0 0 0,.ptr 2 0 0 0,.d (.int .i64 (i+1:Nat))] [sbR L b s,rsB cs (.ms 3 1 0 2) (.ms 4 1 0 2),rsZ,some (.rows 1 false 1 [[.d (.int .i64 (u0:Nat))],[.d (.int .i64 (i:Nat))]]),some (.rows 1 false 5 [tyR c0,tyR c])] K Q):ah VP 1 [0,3,4,5] dE [.ptr 0 0 0 0,.ptr 1 0 0 0,.ptr 2 0 0 0,.d (.int .i64 i)] [sbR L a s,rsB cs (.ms 3 0 0 1) (.ms 4 0 0 1),rsZ,some (.rows 0 false 1 [[.d (.int .i64 (u0:Nat))]]),some (.rows 0 false 5 [tyR c0])] K Q:=by
 have ht:decide ((i:Int) < (((cs.map Ce.d).length:Nat):Int))=true:=decide_eq_true (by rw [List.length_map];omega)
 have hwi:=ac i (by omega)
 obtain ⟨x,a1,hx,ha1,r1⟩:=bO L hL 3 (by omega) (by omega) a s ha
 unfold sb at r1
 by_cases hx0:x=0
 · subst hx0
   rcases hc with rfl | ⟨lo,hi',rfl,h1,h2,h3,h4⟩
   · unfold ah;refine Z1r ?_;rw [hwi];refine hdX rfl rfl rfl rfl ?_;exact hs a1 ha1
   · unfold ah;refine Z1r ?_;rw [hwi];refine hdX rfl rfl rfl rfl ?_;exact hs a1 ha1
 · have tx:((x:Int)==0)=false:=by simp;omega
   rcases hc with rfl | ⟨lo,hi',rfl,h1,h2,h3,h4⟩
   · unfold ah;refine Z1r ?_;rw [hwi];refine hdX rfl rfl rfl rfl ?_;exact h a1 ha1
   · unfold ah;refine Z1r ?_;rw [hwi];refine hdX rfl rfl rfl rfl ?_;exact h a1 ha1
theorem amP (L:List Int) (hL:L.length<=1000) (cs:List Ce) (a s i:Nat) (u0 u1:Nat) (c0 c1:Ce) (c:Ce) (hc:c.Ok) (hi:i < cs.length) (hg:(cs.map Ce.d)[i]?=some c.d) (h4:cs.length<=4) (ha:a<=L.length) {K:List Fr} {Q:Out->Env->aa->Prop}
 (hs : ∀ b:Nat,b<=L.length->ah VP 1 [0,3,4,5] dE [.ptr 0 0 0 0,.ptr 1 0 0 0,.ptr 2 0 0 0,.d (.int .i64 (i+1:Nat))] [sbR L b s,rsB cs (.ms 3 1 0 2) (.ms 4 1 0 2),rsZ,some (.rows 1 false 1 [[.d (.int .i64 (u0:Nat))],[.d (.int .i64 (u1:Nat))]]),some (.rows 1 false 5 [tyR c0,tyR c1])] K Q) (h : ∀ b:Nat,b<=L.length->ah VP 1 [0,3,4,5] dE [.ptr 0 0 0 0,.ptr 1 0 0 0,.ptr 2 0 0 0,.d (.int .i64 (i+1:Nat))] [sbR L b s,rsB cs (.ms 3 2 0 3) (.ms 4 2 0 3),rsZ,some (.rows 2 false 1 [[.d (.int .i64 (u0:Nat))],[.d (.int .i64 (u1:Nat))],[.d (.int .i64 (i:Nat))]]),some (.rows 2 false 5 [tyR c0,tyR c1,tyR c])] K Q):ah VP 1 [0,3,4,5] dE [.ptr 0 0 0 0,.ptr 1 0 0 0,.ptr 2 0 0 0,.d (.int .i64 i)] [sbR L a s,rsB cs (.ms 3 1 0 2) (.ms 4 1 0 2),rsZ,some (.rows 1 false 1 [[.d (.int .i64 (u0:Nat))],[.d (.int .i64 (u1:Nat))]]),some (.rows 1 false 5 [tyR c0,tyR c1])] K Q:=by
 have ht:decide ((i:Int) < (((cs.map Ce.d).length:Nat):Int))=true:=decide_eq_true (by rw [List.length_map];omega)
 have hwi:=ac i (by omega)
 obtain ⟨x,a1,hx,ha1,r1⟩:=bO L hL 3 (by omega) (by omega) a s ha
 unfold sb at r1
 by_cases hx0:x=0
 · subst hx0
   rcases hc with rfl | ⟨lo,hi',rfl,h1,h2,h3,h4⟩
   · unfold ah;refine Z1r ?_;rw [hwi];refine hdX rfl rfl rfl rfl ?_;exact hs a1 ha1
   · unfold ah;refine Z1r ?_;rw [hwi];refine hdX rfl rfl rfl rfl ?_;exact hs a1 ha1
 · have tx:((x:Int)==0)=false:=by simp;omega
   rcases hc with rfl | ⟨lo,hi',rfl,h1,h2,h3,h4⟩
   · unfold ah;refine Z1r ?_;rw [hwi];refine hdX rfl rfl rfl rfl ?_;exact h a1 ha1
   · unfold ah;refine Z1r ?_;rw [hwi];refine hdX rfl rfl rfl rfl ?_;exact h a1 ha1
theorem amO (L:List Int) (hL:L.length<=1000) (cs:List Ce) (a s i:Nat) (u0 u1 u2:Nat) (c0 c1 c2:Ce) (c:Ce) (hc:c.Ok) (hi:i < cs.length) (hg:(cs.map Ce.d)[i]?=some c.d) (h4:cs.length<=4) (ha:a<=L.length) {K:List Fr} {Q:Out->Env->aa->Prop}
 (hs : ∀ b:Nat,b<=L.length->ah VP 1 [0,3,4,5] dE [.ptr 0 0 0 0,.ptr 1 0 0 0,.ptr 2 0 0 0,.d (.int .i64 (i+1:Nat))] [sbR L b s,rsB cs (.ms 3 2 0 3) (.ms 4 2 0 3),rsZ,some (.rows 2 false 1 [[.d (.int .i64 (u0:Nat))],[.d (.int .i64 (u1:Nat))],[.d (.int .i64 (u2:Nat))]]),some (.rows 2 false 5 [tyR c0,tyR c1,tyR c2])] K Q) (h : ∀ b:Nat,b<=L.length->ah VP 1 [0,3,4,5] dE [.ptr 0 0 0 0,.ptr 1 0 0 0,.ptr 2 0 0 0,.d (.int .i64 (i+1:Nat))] [sbR L b s,rsB cs (.ms 3 3 0 4) (.ms 4 3 0 4),rsZ,some (.rows 3 false 1 [[.d (.int .i64 (u0:Nat))],[.d (.int .i64 (u1:Nat))],[.d (.int .i64 (u2:Nat))],[.d (.int .i64 (i:Nat))]]),some (.rows 3 false 5 [tyR c0,tyR c1,tyR c2,tyR c])] K Q):ah VP 1 [0,3,4,5] dE [.ptr 0 0 0 0,.ptr 1 0 0 0,.ptr 2 0 0 0,.d (.int .i64 i)] [sbR L a s,rsB cs (.ms 3 2 0 3) (.ms 4 2 0 3),rsZ,some (.rows 2 false 1 [[.d (.int .i64 (u0:Nat))],[.d (.int .i64 (u1:Nat))],[.d (.int .i64 (u2:Nat))]]),some (.rows 2 false 5 [tyR c0,tyR c1,tyR c2])] K Q:=by
 have ht:decide ((i:Int) < (((cs.map Ce.d).length:Nat):Int))=true:=decide_eq_true (by rw [List.length_map];omega)
 have hwi:=ac i (by omega)
 obtain ⟨x,a1,hx,ha1,r1⟩:=bO L hL 3 (by omega) (by omega) a s ha
 unfold sb at r1
 by_cases hx0:x=0
 · subst hx0
   rcases hc with rfl | ⟨lo,hi',rfl,h1,h2,h3,h4⟩
   · unfold ah;refine Z1r ?_;rw [hwi];refine hdX rfl rfl rfl rfl ?_;exact hs a1 ha1
   · unfold ah;refine Z1r ?_;rw [hwi];refine hdX rfl rfl rfl rfl ?_;exact hs a1 ha1
 · have tx:((x:Int)==0)=false:=by simp;omega
   rcases hc with rfl | ⟨lo,hi',rfl,h1,h2,h3,h4⟩
   · unfold ah;refine Z1r ?_;rw [hwi];refine hdX rfl rfl rfl rfl ?_;exact h a1 ha1
   · unfold ah;refine Z1r ?_;rw [hwi];refine hdX rfl rfl rfl rfl ?_;exact h a1 ha1
def RQ (L:List Int) (cs:List Ce) (s:Nat):Out->Env->aa->Prop:=fun o e s' => ∃ x : {p:List Nat×List Ce×Nat // Outs cs p.1 p.2.1/\p.2.2<=L.length},fin f9.keep 1 f9.res o e s'=some (.d (moD 0 cs [] x.1.1 (dY x.1.2.1)),[sbR L x.1.2.2 s])
theorem amW (L:List Int) (hL:L.length<=1000) (cs:List Ce) (hcs : ∀ c∈cs,c.Ok) (h4:cs.length<=4) (s:Nat) (u0 u1 u2 u3:Nat) (c0 c1 c2 c3:Ce) (g0:cs[u0]?=some c0) (q0:c0.Ok) (g1:cs[u1]?=some c1) (q1:c1.Ok) (g2:cs[u2]?=some c2) (q2:c2.Ok) (g3:cs[u3]?=some c3) (q3:c3.Ok) (a:Nat) (ha:a<=L.length):ah VP 1 [0,3,4,5] dE [.ptr 0 0 0 0,.ptr 1 0 0 0,.ptr 2 0 0 0,.d (.int .i64 cs.length)] [sbR L a s,rsB cs (.ms 3 3 0 4) (.ms 4 3 0 4),rsZ,some (.rows 3 false 1 [[.d (.int .i64 (u0:Nat))],[.d (.int .i64 (u1:Nat))],[.d (.int .i64 (u2:Nat))],[.d (.int .i64 (u3:Nat))]]),some (.rows 3 false 5 [tyR c0,tyR c1,tyR c2,tyR c3])] [.block 0,.seq kL] (RQ L cs s):=by
 have ht:decide ((cs.length:Int) < (((cs.map Ce.d).length:Nat):Int))=false:=decide_eq_false (by rw [List.length_map];omega)
 have hO:Outs cs [u0,u1,u2,u3] [c0,c1,c2,c3]:=by
  refine ⟨rfl,by simp,by simp,?_,?_⟩
  · intro i h h'
    rcases (by simp at h;omega:i=0\/i=1\/i=2\/i=3) with rfl | rfl | rfl | rfl
    · exact g0
    · exact g1
    · exact g2
    · exact g3
  · intro c hc
    simp only [List.mem_cons,List.not_mem_nil,or_false] at hc
    rcases hc with rfl | rfl | rfl | rfl
    all_goals assumption
 unfold ah
 refine Z1 ?_
 exact ⟨⟨([u0,u1,u2,u3],[c0,c1,c2,c3],a),hO,ha⟩,fe rfl rfl rfl⟩
theorem amS (L:List Int) (hL:L.length<=1000) (cs:List Ce) (hcs : ∀ c∈cs,c.Ok) (h4:cs.length<=4) (s:Nat) (u0 u1 u2 u3:Nat) (c0 c1 c2 c3:Ce) (g0:cs[u0]?=some c0) (q0:c0.Ok) (g1:cs[u1]?=some c1) (q1:c1.Ok) (g2:cs[u2]?=some c2) (q2:c2.Ok) (g3:cs[u3]?=some c3) (q3:c3.Ok) (a i m:Nat) (h4i:4<=i) (hm:i+m=cs.length) (ha:a<=L.length):ah VP 1 [0,3,4,5] dE [.ptr 0 0 0 0,.ptr 1 0 0 0,.ptr 2 0 0 0,.d (.int .i64 i)] [sbR L a s,rsB cs (.ms 3 3 0 4) (.ms 4 3 0 4),rsZ,some (.rows 3 false 1 [[.d (.int .i64 (u0:Nat))],[.d (.int .i64 (u1:Nat))],[.d (.int .i64 (u2:Nat))],[.d (.int .i64 (u3:Nat))]]),some (.rows 3 false 5 [tyR c0,tyR c1,tyR c2,tyR c3])] [.block 0,.seq kL] (RQ L cs s):=by
 have e:i=cs.length:=by omega
 subst e
 exact amW L hL cs hcs h4 s u0 u1 u2 u3 c0 c1 c2 c3 g0 q0 g1 q1 g2 q2 g3 q3 a ha
theorem amX (L:List Int) (hL:L.length<=1000) (cs:List Ce) (hcs : ∀ c∈cs,c.Ok) (h4:cs.length<=4) (s:Nat) (u0 u1 u2:Nat) (c0 c1 c2:Ce) (g0:cs[u0]?=some c0) (q0:c0.Ok) (g1:cs[u1]?=some c1) (q1:c1.Ok) (g2:cs[u2]?=some c2) (q2:c2.Ok) (a:Nat) (ha:a<=L.length):ah VP 1 [0,3,4,5] dE [.ptr 0 0 0 0,.ptr 1 0 0 0,.ptr 2 0 0 0,.d (.int .i64 cs.length)] [sbR L a s,rsB cs (.ms 3 2 0 3) (.ms 4 2 0 3),rsZ,some (.rows 2 false 1 [[.d (.int .i64 (u0:Nat))],[.d (.int .i64 (u1:Nat))],[.d (.int .i64 (u2:Nat))]]),some (.rows 2 false 5 [tyR c0,tyR c1,tyR c2])] [.block 0,.seq kL] (RQ L cs s):=by
 have ht:decide ((cs.length:Int) < (((cs.map Ce.d).length:Nat):Int))=false:=decide_eq_false (by rw [List.length_map];omega)
 have hO:Outs cs [u0,u1,u2] [c0,c1,c2]:=by
  refine ⟨rfl,by simp,by simp,?_,?_⟩
  · intro i h h'
    rcases (by simp at h;omega:i=0\/i=1\/i=2) with rfl | rfl | rfl
    · exact g0
    · exact g1
    · exact g2
  · intro c hc
    simp only [List.mem_cons,List.not_mem_nil,or_false] at hc
    rcases hc with rfl | rfl | rfl
    all_goals assumption
 unfold ah
 refine Z1 ?_
 exact ⟨⟨([u0,u1,u2],[c0,c1,c2],a),hO,ha⟩,fe rfl rfl rfl⟩
theorem amT (L:List Int) (hL:L.length<=1000) (cs:List Ce) (hcs : ∀ c∈cs,c.Ok) (h4:cs.length<=4) (s:Nat) (u0 u1 u2:Nat) (c0 c1 c2:Ce) (g0:cs[u0]?=some c0) (q0:c0.Ok) (g1:cs[u1]?=some c1) (q1:c1.Ok) (g2:cs[u2]?=some c2) (q2:c2.Ok) (m:Nat) : ∀ (a i:Nat),3<=i->i+m=cs.length->a<=L.length->ah VP 1 [0,3,4,5] dE [.ptr 0 0 0 0,.ptr 1 0 0 0,.ptr 2 0 0 0,.d (.int .i64 i)] [sbR L a s,rsB cs (.ms 3 2 0 3) (.ms 4 2 0 3),rsZ,some (.rows 2 false 1 [[.d (.int .i64 (u0:Nat))],[.d (.int .i64 (u1:Nat))],[.d (.int .i64 (u2:Nat))]]),some (.rows 2 false 5 [tyR c0,tyR c1,tyR c2])] [.block 0,.seq kL] (RQ L cs s):=by
 induction m with
 | zero =>
   intro a i hk hi ha
   have e:i=cs.length:=by omega
   subst e
   exact amX L hL cs hcs h4 s u0 u1 u2 c0 c1 c2 g0 q0 g1 q1 g2 q2 a ha
 | succ m ih =>
   intro a i hk hi ha
   have hi':i < cs.length:=by omega
   have hg:(cs.map Ce.d)[i]?=some cs[i].d:=by rw [List.getElem?_map,List.getElem?_eq_getElem hi'];rfl
   have hc:=hcs _ (List.getElem_mem hi')
   have hq:cs[i]?=some cs[i]:=List.getElem?_eq_getElem hi'
   refine amO L hL cs a s i u0 u1 u2 c0 c1 c2 cs[i] hc hi' hg h4 ha (fun b hb=>ih b (i+1) (by omega) (by omega) hb) fun b hb => ?_
   exact amS L hL cs hcs h4 s u0 u1 u2 i c0 c1 c2 cs[i] g0 q0 g1 q1 g2 q2 hq hc b (i+1) m (by omega) (by omega) hb
theorem amY (L:List Int) (hL:L.length<=1000) (cs:List Ce) (hcs : ∀ c∈cs,c.Ok) (h4:cs.length<=4) (s:Nat) (u0 u1:Nat) (c0 c1:Ce) (g0:cs[u0]?=some c0) (q0:c0.Ok) (g1:cs[u1]?=some c1) (q1:c1.Ok) (a:Nat) (ha:a<=L.length):ah VP 1 [0,3,4,5] dE [.ptr 0 0 0 0,.ptr 1 0 0 0,.ptr 2 0 0 0,.d (.int .i64 cs.length)] [sbR L a s,rsB cs (.ms 3 1 0 2) (.ms 4 1 0 2),rsZ,some (.rows 1 false 1 [[.d (.int .i64 (u0:Nat))],[.d (.int .i64 (u1:Nat))]]),some (.rows 1 false 5 [tyR c0,tyR c1])] [.block 0,.seq kL] (RQ L cs s):=by
 have ht:decide ((cs.length:Int) < (((cs.map Ce.d).length:Nat):Int))=false:=decide_eq_false (by rw [List.length_map];omega)
 have hO:Outs cs [u0,u1] [c0,c1]:=by
  refine ⟨rfl,by simp,by simp,?_,?_⟩
  · intro i h h'
    rcases (by simp at h;omega:i=0\/i=1) with rfl | rfl
    · exact g0
    · exact g1
  · intro c hc
    simp only [List.mem_cons,List.not_mem_nil,or_false] at hc
    rcases hc with rfl | rfl
    all_goals assumption
 unfold ah
 refine Z1 ?_
 exact ⟨⟨([u0,u1],[c0,c1],a),hO,ha⟩,fe rfl rfl rfl⟩
theorem amU (L:List Int) (hL:L.length<=1000) (cs:List Ce) (hcs : ∀ c∈cs,c.Ok) (h4:cs.length<=4) (s:Nat) (u0 u1:Nat) (c0 c1:Ce) (g0:cs[u0]?=some c0) (q0:c0.Ok) (g1:cs[u1]?=some c1) (q1:c1.Ok) (m:Nat) : ∀ (a i:Nat),2<=i->i+m=cs.length->a<=L.length->ah VP 1 [0,3,4,5] dE [.ptr 0 0 0 0,.ptr 1 0 0 0,.ptr 2 0 0 0,.d (.int .i64 i)] [sbR L a s,rsB cs (.ms 3 1 0 2) (.ms 4 1 0 2),rsZ,some (.rows 1 false 1 [[.d (.int .i64 (u0:Nat))],[.d (.int .i64 (u1:Nat))]]),some (.rows 1 false 5 [tyR c0,tyR c1])] [.block 0,.seq kL] (RQ L cs s):=by
 induction m with
 | zero =>
   intro a i hk hi ha
   have e:i=cs.length:=by omega
   subst e
   exact amY L hL cs hcs h4 s u0 u1 c0 c1 g0 q0 g1 q1 a ha
 | succ m ih =>
   intro a i hk hi ha
   have hi':i < cs.length:=by omega
   have hg:(cs.map Ce.d)[i]?=some cs[i].d:=by rw [List.getElem?_map,List.getElem?_eq_getElem hi'];rfl
   have hc:=hcs _ (List.getElem_mem hi')
   have hq:cs[i]?=some cs[i]:=List.getElem?_eq_getElem hi'
   refine amP L hL cs a s i u0 u1 c0 c1 cs[i] hc hi' hg h4 ha (fun b hb=>ih b (i+1) (by omega) (by omega) hb) fun b hb => ?_
   exact amT L hL cs hcs h4 s u0 u1 i c0 c1 cs[i] g0 q0 g1 q1 hq hc m b (i+1) (by omega) (by omega) hb
theorem amZ (L:List Int) (hL:L.length<=1000) (cs:List Ce) (hcs : ∀ c∈cs,c.Ok) (h4:cs.length<=4) (s:Nat) (u0:Nat) (c0:Ce) (g0:cs[u0]?=some c0) (q0:c0.Ok) (a:Nat) (ha:a<=L.length):ah VP 1 [0,3,4,5] dE [.ptr 0 0 0 0,.ptr 1 0 0 0,.ptr 2 0 0 0,.d (.int .i64 cs.length)] [sbR L a s,rsB cs (.ms 3 0 0 1) (.ms 4 0 0 1),rsZ,some (.rows 0 false 1 [[.d (.int .i64 (u0:Nat))]]),some (.rows 0 false 5 [tyR c0])] [.block 0,.seq kL] (RQ L cs s):=by
 have ht:decide ((cs.length:Int) < (((cs.map Ce.d).length:Nat):Int))=false:=decide_eq_false (by rw [List.length_map];omega)
 have hO:Outs cs [u0] [c0]:=by
  refine ⟨rfl,by simp,by simp,?_,?_⟩
  · intro i h h'
    rcases (by simp at h;omega:i=0) with rfl
    · exact g0
  · intro c hc
    simp only [List.mem_cons,List.not_mem_nil,or_false] at hc
    rcases hc with rfl
    all_goals assumption
 unfold ah
 refine Z1 ?_
 exact ⟨⟨([u0],[c0],a),hO,ha⟩,fe rfl rfl rfl⟩
theorem amV (L:List Int) (hL:L.length<=1000) (cs:List Ce) (hcs : ∀ c∈cs,c.Ok) (h4:cs.length<=4) (s:Nat) (u0:Nat) (c0:Ce) (g0:cs[u0]?=some c0) (q0:c0.Ok) (m:Nat) : ∀ (a i:Nat),1<=i->i+m=cs.length->a<=L.length->ah VP 1 [0,3,4,5] dE [.ptr 0 0 0 0,.ptr 1 0 0 0,.ptr 2 0 0 0,.d (.int .i64 i)] [sbR L a s,rsB cs (.ms 3 0 0 1) (.ms 4 0 0 1),rsZ,some (.rows 0 false 1 [[.d (.int .i64 (u0:Nat))]]),some (.rows 0 false 5 [tyR c0])] [.block 0,.seq kL] (RQ L cs s):=by
 induction m with
 | zero =>
   intro a i hk hi ha
   have e:i=cs.length:=by omega
   subst e
   exact amZ L hL cs hcs h4 s u0 c0 g0 q0 a ha
 | succ m ih =>
   intro a i hk hi ha
   have hi':i < cs.length:=by omega
   have hg:(cs.map Ce.d)[i]?=some cs[i].d:=by rw [List.getElem?_map,List.getElem?_eq_getElem hi'];rfl
   have hc:=hcs _ (List.getElem_mem hi')
   have hq:cs[i]?=some cs[i]:=List.getElem?_eq_getElem hi'
   refine amQ L hL cs a s i u0 c0 cs[i] hc hi' hg h4 ha (fun b hb=>ih b (i+1) (by omega) (by omega) hb) fun b hb => ?_
   exact amU L hL cs hcs h4 s u0 i c0 cs[i] g0 q0 hq hc m b (i+1) (by omega) (by omega) hb
theorem lD (L:List Int) (hL:L.length<=1000) (cs:List Ce) (hcs : ∀ c∈cs,c.Ok) (h1:1<=cs.length) (h4:cs.length<=4) (a s:Nat) (ha:a<=L.length) : ∃ (os:List Nat) (es:List Ce) (b:Nat),Outs cs os es/\b<=L.length/\Ret VP (.fn 9) [.ptr 0 0 0 0,.d (moD 0 cs [] [] ⟨0,0,0,0,[]⟩)] [sbR L a s] (.d (moD 0 cs [] os (dY es))) [sbR L b s]:=by
 suffices hrun:Run VP 1 f9.body (cE 0 [.ptr 0 0 0 0,.d (moD 0 cs [] [] ⟨0,0,0,0,[]⟩)]) [sbR L a s] (RQ L cs s) by
  obtain ⟨⟨⟨os,es,b⟩,h1,h2⟩,h⟩:=nA hrun
  exact ⟨os,es,b,h1,h2,ret_of rfl rfl h⟩
 refine r0 ?_
 refine Z1 ?_
 refine hdX rfl rfl rfl rfl ?_
 have hg:(cs.map Ce.d)[0]?=some cs[0].d:=by rw [List.getElem?_map,List.getElem?_eq_getElem (by omega)];rfl
 have hc:=hcs _ (List.getElem_mem (n:=0) (by omega))
 refine amR L hL cs a s 0 cs[0] hc (by omega) hg h4 ha fun b hb => ?_
 exact amV L hL cs hcs h4 s 0 cs[0] (List.getElem?_eq_getElem (by omega)) hc (cs.length - 1) b 1 (by omega) (by omega) hb
theorem vd {s:aa} {id ver k:Nat} {ro:Bool} {es:List D} {d0 d1 d2 d3 d5 d6 d7 d8 d9 d10:D} (hb:getB s id=some (.rows ver ro 23 (ao es))) (hk:k=es.length) (ho:es.all bJ=true):ai s [] [.agg [.d d0,.d d1,.d d2,.d d3,.ms id ver 0 k,.d d5,.d d6,.d d7,.d d8,.d d9,.d d10]]=some ([.d (.agg [d0,d1,d2,d3,.slice es,d5,d6,d7,d8,d9,d10])],[id]):=by
 have h1:toD s 29 (.ms id ver 0 k)=some (.slice es,[id]):=jr (n:=27) hb hk ho
 have h2:toD s bB (.agg [.d d0,.d d1,.d d2,.d d3,.ms id ver 0 k,.d d5,.d d6,.d d7,.d d8,.d d9,.d d10])=some (.agg [d0,d1,d2,d3,.slice es,d5,d6,d7,d8,d9,d10],[id]):=by
  show (aC (toD s 29) [.d d0,.d d1,.d d2,.d d3,.ms id ver 0 k,.d d5,.d d6,.d d7,.d d8,.d d9,.d d10]).map (fun (es,a)=>(D.agg es,a))=_
  simp only [aC,h1]
  rfl
 simp only [ai,h2]
 rfl
theorem oCL {b0:Nat} {d:Option Nat} {os:List VOper} {e:Env} {s s2:aa} {Q:Env->aa->Prop} {f:Nat} {args:List Opd} {as:List V} {fz:List Nat} {r:D} (hret:Ret VP (.fn f) as [] (.d r) []) (hc:ai s (al VP f) (args.map (ev e))=some (as,fz)) (hr:refsL as=[]) (hs:(if gl r then s else aq s fz)=s2) (h:Ops VP b0 os (put e d (.d r)) s2 Q):Ops VP b0 (⟨d,.call f args,none⟩::os) e s Q:=oC hc hr hret (by rw [aF,hs]) h
theorem ovs {b0:Nat} {d:Option Nat} {op:VOp} {os:List VOper} {e:Env} {s s2:aa} {Q:Env->aa->Prop} {x:V} (h1:sB (ae (fun _ _ _=>none) (fun _=>[]) b0 op e s)=some x) (h2:(ae (fun _ _ _=>none) (fun _=>[]) b0 op e s).map Prod.snd=some s2) (h:Ops VP b0 os (put e d x) s2 Q):Ops VP b0 (⟨d,op,none⟩::os) e s Q:=by
 refine qR ?_
 unfold Io
 unfold sB at h1
 split at h1
 · rename_i y s' hr
   rw [hr] at h2 ⊢
   rw [dK] at h1
   simp only [Option.map_some,Option.some.injEq] at h1 h2
   subst h1;subst h2
   exact h
 · rename_i s' hr
   rw [hr] at h2 ⊢
   simp only [Option.map_some,Option.some.injEq] at h1 h2
   subst h1;subst h2
   exact h
 · cases h1
abbrev mdM (cs:List Ce) (x:V) (os:List Nat) (T:Ty):Option Blk:=some (.rows 0 false 11 [[.d (.int .i64 (0:Nat)),.d (.slice (cs.map Ce.d)),.d (.slice []),.d (.slice []),x,.d (.slice (os.map oD)),.d (.int .i64 T.a),.d (.int .i64 T.b),.d (.int .i64 T.c),.d (.int .i64 T.d),.d (.slice T.e)]])
theorem vK (L:List Int) (cs:List Ce) (os:List Nat) (T:Ty) (a a1 a2 a3 a4 a5 s5 a6 y k:Nat) (m:List Cm)
 (r1:Ret VP (.fn 8) [.ptr 0 0 0 0,.d (.int .i64 1),.d (.int .i64 4)] [sbR L a 0] (.d (.int .i64 cs.length)) [sbR L a1 0])
 (r2:Ret VP (.fn 10) [.ptr 0 0 0 0,.d (.int .i64 cs.length)] [sbR L a1 0] (.d (.slice (cs.map Ce.d))) [sbR L a2 0])
 (r3:Ret VP (.fn 9) [.ptr 0 0 0 0,.d (moD 0 cs [] [] ⟨0,0,0,0,[]⟩)] [sbR L a2 0] (.d (moD 0 cs [] os T)) [sbR L a3 0])
 (r4:Ret VP (.fn 8) [.ptr 0 0 0 0,.d (.int .i64 1),.d (.int .i64 7)] [sbR L a3 0] (.d (.int .i64 y)) [sbR L a4 0])
 (r5:Ret VP (.fn 269) [.ptr 0 0 0 0,.d (moD 0 cs ([]:List Cm) os T),.d (.int .i64 cs.length),.d (.int .i64 y),.d (.int .i64 3),.d (.bool false)] [sbR L a4 0] (.nils) [sbR L a5 s5])
 (r6:Ret VP (.fn 12) [.ptr 0 0 0 0,.d (.int .i64 12)] [sbR L a5 s5] (.d (.int .i64 k)) [sbR L a6 s5]) (hk:k≠11)
 (r7:Ret VP (.fn 15) [.d (moD 0 cs [] os T)] [] (.d (.tuple [moD 0 cs m os T,.int .i64 0])) []) :
 Ret VP (.fn 3) [.ptr 0 0 0 0,.d (.int .i64 0)] [sbR L a 0] (.d (moD 0 cs m os T)) [sbR L a6 s5]:=by
 have t:((k:Int)==11)=false:=by simp;omega
 refine ret_of rfl rfl (r0 ?_)
 refine Z1 ?_
 exact fe rfl rfl rfl
theorem sH (L:List Int) (cs:List Ce) (os:List Nat) (T:Ty) (a a1 a2 a3 a4 a5 s5 a6 y k:Nat) (m:List Cm) (a7:Nat) (f:Fo)
 (r1:Ret VP (.fn 8) [.ptr 0 0 0 0,.d (.int .i64 1),.d (.int .i64 4)] [sbR L a 0] (.d (.int .i64 cs.length)) [sbR L a1 0])
 (r2:Ret VP (.fn 10) [.ptr 0 0 0 0,.d (.int .i64 cs.length)] [sbR L a1 0] (.d (.slice (cs.map Ce.d))) [sbR L a2 0])
 (r3:Ret VP (.fn 9) [.ptr 0 0 0 0,.d (moD 0 cs [] [] ⟨0,0,0,0,[]⟩)] [sbR L a2 0] (.d (moD 0 cs [] os T)) [sbR L a3 0])
 (r4:Ret VP (.fn 8) [.ptr 0 0 0 0,.d (.int .i64 1),.d (.int .i64 7)] [sbR L a3 0] (.d (.int .i64 y)) [sbR L a4 0])
 (r5:Ret VP (.fn 269) [.ptr 0 0 0 0,.d (moD 0 cs ([]:List Cm) os T),.d (.int .i64 cs.length),.d (.int .i64 y),.d (.int .i64 3),.d (.bool false)] [sbR L a4 0] (.nils) [sbR L a5 s5])
 (r6:Ret VP (.fn 12) [.ptr 0 0 0 0,.d (.int .i64 12)] [sbR L a5 s5] (.d (.int .i64 11)) [sbR L a6 s5]) (cv:Ret VP (.fn 14) [.d (.int .i64 cs.length)] [] (.d (.slice ((aO cs.length).map iD))) []) (cf:Ret VP (.fn 13) [.ptr 0 0 0 0,.d (.slice ((aO cs.length).map iD)),.d (.int .i64 2)] [sbR L a6 s5] (.d f.d) [sbR L a7 s5])
 (r7:Ret VP (.fn 15) [.d (moD 0 cs [(Cm.mk 3 0 0 f .z [.mk 5 0 0 .z .z [] [] [] []] [] [] [])] os T)] [] (.d (.tuple [moD 0 cs m os T,.int .i64 0])) []) :
 Ret VP (.fn 3) [.ptr 0 0 0 0,.d (.int .i64 0)] [sbR L a 0] (.d (moD 0 cs m os T)) [sbR L a7 s5]:=by
 refine ret_of rfl rfl (r0 ?_)
 refine Z1r ?_
 exact fe rfl rfl rfl
theorem sG (L:List Int) (cs:List Ce) (os:List Nat) (T:Ty) (a a1 a2 a3 a4 a5 s5 a6 y k:Nat) (m:List Cm) (q:Cm) (l:List Cm)
 (r1:Ret VP (.fn 8) [.ptr 0 0 0 0,.d (.int .i64 1),.d (.int .i64 4)] [sbR L a 0] (.d (.int .i64 cs.length)) [sbR L a1 0])
 (r2:Ret VP (.fn 10) [.ptr 0 0 0 0,.d (.int .i64 cs.length)] [sbR L a1 0] (.d (.slice (cs.map Ce.d))) [sbR L a2 0])
 (r3:Ret VP (.fn 9) [.ptr 0 0 0 0,.d (moD 0 cs [] [] ⟨0,0,0,0,[]⟩)] [sbR L a2 0] (.d (moD 0 cs [] os T)) [sbR L a3 0])
 (r4:Ret VP (.fn 8) [.ptr 0 0 0 0,.d (.int .i64 1),.d (.int .i64 7)] [sbR L a3 0] (.d (.int .i64 y)) [sbR L a4 0])
 (r5:Ret VP (.fn 269) [.ptr 0 0 0 0,.d (moD 0 cs ([]:List Cm) os T),.d (.int .i64 cs.length),.d (.int .i64 y),.d (.int .i64 3),.d (.bool false)] [sbR L a4 0] (.ms 1 (l.map Cm.d).length 0 ((l.map Cm.d).length+1)) [sbR L a5 s5,some (.rows (l.map Cm.d).length false 23 (ao (q.d::l.map Cm.d)))])
 (r6:Ret VP (.fn 12) [.ptr 0 0 0 0,.d (.int .i64 12)] [sbR L a5 s5] (.d (.int .i64 k)) [sbR L a6 s5]) (hk:k≠11)
 (r7:Ret VP (.fn 15) [.d (moD 0 cs (q::l) os T)] [] (.d (.tuple [moD 0 cs m os T,.int .i64 0])) []) :
 Ret VP (.fn 3) [.ptr 0 0 0 0,.d (.int .i64 0)] [sbR L a 0] (.d (moD 0 cs m os T)) [sbR L a6 s5]:=by
 have t:((k:Int)==11)=false:=by simp;omega
 refine ret_of rfl rfl (r0 ?_)
 (refine Z1p ?_;(repeat first | (refine fw (oRX r5 rfl rfl rfl rfl rfl rfl rfl rfl (o0 ⟨rfl,rfl⟩)) ?_;refine Z1p ?_) | (refine oRX r6 rfl rfl rfl rfl rfl rfl rfl rfl ?_;refine Z1p ?_) | (refine oCL r7 (vd rfl (by simp) (n6 (q::l))) rfl (s2:=[sbR L a6 s5,rsZ,mdM cs (.ms 3 (l.map Cm.d).length 0 ((l.map Cm.d).length+1)) os T,some (.rows (l.map Cm.d).length true 23 (ao (q.d::l.map Cm.d)))]) rfl ?_;refine Z1p ?_) | (refine ovs (s2:=[sbR L a6 s5,rsZ,mdM cs (.d (.slice (m.map Cm.d))) os T,some (.rows (l.map Cm.d).length true 23 (ao (q.d::l.map Cm.d)))]) rfl rfl ?_;refine Z1p ?_) | (refine ovs (s2:=[sbR L a6 s5,mdM cs (.d (.slice (m.map Cm.d))) os T,mdM cs (.d (.slice (m.map Cm.d))) os T,some (.rows (l.map Cm.d).length true 23 (ao (q.d::l.map Cm.d)))]) rfl rfl ?_;refine Z1p ?_)))
 exact fe rfl rfl rfl
theorem qq (L:List Int) (cs:List Ce) (os:List Nat) (T:Ty) (a a1 a2 a3 a4 a5 s5 a6 y k:Nat) (m:List Cm) (q:Cm) (l:List Cm) (hl:(l.map Cm.d).length<=100) (a7:Nat) (f:Fo)
 (r1:Ret VP (.fn 8) [.ptr 0 0 0 0,.d (.int .i64 1),.d (.int .i64 4)] [sbR L a 0] (.d (.int .i64 cs.length)) [sbR L a1 0])
 (r2:Ret VP (.fn 10) [.ptr 0 0 0 0,.d (.int .i64 cs.length)] [sbR L a1 0] (.d (.slice (cs.map Ce.d))) [sbR L a2 0])
 (r3:Ret VP (.fn 9) [.ptr 0 0 0 0,.d (moD 0 cs [] [] ⟨0,0,0,0,[]⟩)] [sbR L a2 0] (.d (moD 0 cs [] os T)) [sbR L a3 0])
 (r4:Ret VP (.fn 8) [.ptr 0 0 0 0,.d (.int .i64 1),.d (.int .i64 7)] [sbR L a3 0] (.d (.int .i64 y)) [sbR L a4 0])
 (r5:Ret VP (.fn 269) [.ptr 0 0 0 0,.d (moD 0 cs ([]:List Cm) os T),.d (.int .i64 cs.length),.d (.int .i64 y),.d (.int .i64 3),.d (.bool false)] [sbR L a4 0] (.ms 1 (l.map Cm.d).length 0 ((l.map Cm.d).length+1)) [sbR L a5 s5,some (.rows (l.map Cm.d).length false 23 (ao (q.d::l.map Cm.d)))])
 (r6:Ret VP (.fn 12) [.ptr 0 0 0 0,.d (.int .i64 12)] [sbR L a5 s5] (.d (.int .i64 11)) [sbR L a6 s5]) (cv:Ret VP (.fn 14) [.d (.int .i64 cs.length)] [] (.d (.slice ((aO cs.length).map iD))) []) (cf:Ret VP (.fn 13) [.ptr 0 0 0 0,.d (.slice ((aO cs.length).map iD)),.d (.int .i64 2)] [sbR L a6 s5] (.d f.d) [sbR L a7 s5])
 (r7:Ret VP (.fn 15) [.d (moD 0 cs (q::l++[(Cm.mk 3 0 0 f .z [.mk 5 0 0 .z .z [] [] [] []] [] [] [])]) os T)] [] (.d (.tuple [moD 0 cs m os T,.int .i64 0])) []) :
 Ret VP (.fn 3) [.ptr 0 0 0 0,.d (.int .i64 0)] [sbR L a 0] (.d (moD 0 cs m os T)) [sbR L a7 s5]:=by
 have hroom:au ((l.map Cm.d).length+1+1) 376=true:=by rw [au,Bool.and_eq_true,decide_eq_true_eq,decide_eq_true_eq];omega
 have hok:=n6 (q::l++[(Cm.mk 3 0 0 f .z [.mk 5 0 0 .z .z [] [] [] []] [] [] [])])
 have e1:(q::l++[(Cm.mk 3 0 0 f .z [.mk 5 0 0 .z .z [] [] [] []] [] [] [])]).map Cm.d=q.d::l.map Cm.d++[cmD 3 0 0 f .z [cmD 5 0 0 .z .z [] [] [] []] [] [] []]:=by rw [List.map_append,List.map_cons,List.map_cons,List.map_nil];rfl
 unfold moD at r7
 rw [e1] at r7 hok
 refine ret_of rfl rfl (r0 ?_)
 (refine Z1pr ?_;(repeat first | (refine fw (oRX r5 rfl rfl rfl rfl rfl rfl rfl rfl (o0 ⟨rfl,rfl⟩)) ?_;refine Z1pr ?_) | (refine oRX r6 rfl rfl rfl rfl rfl rfl rfl rfl ?_;refine Z1pr ?_) | (refine oCL r7 (vd rfl (by simp) hok) rfl (s2:=[sbR L a7 s5,rsZ,mdM cs (.ms 3 ((l.map Cm.d).length+1) 0 (((l.map Cm.d).length+1)+1)) os T,some (.rows ((l.map Cm.d).length+1) true 23 (ao (q.d::l.map Cm.d++[cmD 3 0 0 f .z [cmD 5 0 0 .z .z [] [] [] []] [] [] []]))),none]) rfl ?_;refine Z1pr ?_) | (refine ovs (s2:=[sbR L a7 s5,rsZ,mdM cs (.d (.slice (m.map Cm.d))) os T,some (.rows ((l.map Cm.d).length+1) true 23 (ao (q.d::l.map Cm.d++[cmD 3 0 0 f .z [cmD 5 0 0 .z .z [] [] [] []] [] [] []]))),none]) rfl rfl ?_;refine Z1pr ?_) | (refine ovs (s2:=[sbR L a7 s5,mdM cs (.d (.slice (m.map Cm.d))) os T,mdM cs (.d (.slice (m.map Cm.d))) os T,some (.rows ((l.map Cm.d).length+1) true 23 (ao (q.d::l.map Cm.d++[cmD 3 0 0 f .z [cmD 5 0 0 .z .z [] [] [] []] [] [] []]))),none]) rfl rfl ?_;refine Z1pr ?_) | (refine fw (oaD (cmD 3 0 0 f .z [cmD 5 0 0 .z .z [] [] [] []] [] [] []) rfl rfl rfl (by simp) rfl hroom rfl (o0 ⟨rfl,rfl⟩)) ?_;refine Z1pr ?_) | (refine fw (oCL cv rfl rfl (s2:=[sbR L a6 s5,rsZ,mdM cs (.ms 3 (l.map Cm.d).length 0 ((l.map Cm.d).length+1)) os T,some (.rows (l.map Cm.d).length false 23 (ao (q.d::l.map Cm.d))),none]) rfl (o0 ⟨rfl,rfl⟩)) ?_;refine Z1pr ?_) | (refine fw (oRX cf rfl rfl rfl rfl rfl rfl rfl rfl (o0 ⟨rfl,rfl⟩)) ?_;refine Z1pr ?_)))
 trace_state
 exact fe rfl rfl rfl
end Go.Proofs.YtncfpmehhfdipaaGreat
namespace Go.Proofs.YtncfpmehhfdipaaGreat
open Go.IntWalk
attribute [local irreducible] au
set_option maxHeartbeats 4000000
set_option maxRecDepth 100000
mutual
theorem num_cnt : ∀ (c:Cm) (n:Nat),(c.num n).2=n+c.tb.length
 | .mk k v s f t a b g o,n=>by
   have h1:=nums_cnt a (if k=2 then n+1 else n)
   have h2:=nums_cnt b (Cm.nums a (if k=2 then n+1 else n)).2
   simp only [Cm.num,Cm.tb,List.length_append]
   split at h1<;>rename_i hk<;>simp only [hk,if_true,if_false,List.length_cons,List.length_nil] at h2 ⊢ <;> omega
theorem nums_cnt : ∀ (l:List Cm) (n:Nat),(Cm.nums l n).2=n+(Cm.tbs l).length
 | [],n=>by simp [Cm.nums,Cm.tbs]
 | c::l,n=>by
   have h1:=num_cnt c n
   have h2:=nums_cnt l (c.num n).2
   simp only [Cm.nums,Cm.tbs,List.length_append];omega
end
mutual
theorem tb_num : ∀ (c:Cm) (n:Nat),(c.num n).1.tb=c.tb
 | .mk k v s f t a b g o,n=>by
   have h1:=tbs_nums a (if k=2 then n+1 else n)
   have h2:=tbs_nums b (Cm.nums a (if k=2 then n+1 else n)).2
   simp only [Cm.num,Cm.tb,h1,h2]
theorem tbs_nums : ∀ (l:List Cm) (n:Nat),Cm.tbs (Cm.nums l n).1=Cm.tbs l
 | [],n=>by simp [Cm.nums,Cm.tbs]
 | c::l,n=>by
   have h1:=tb_num c n
   have h2:=tbs_nums l (c.num n).2
   simp only [Cm.nums,Cm.tbs,h1,h2]
end
theorem nT {cs:List Ce} {l:List Cm} {os:List Nat} {es:List Ce} (h1:1<=cs.length) (h4:cs.length<=4) (hcs : ∀ c∈cs,c.Ok) (hl : ∀ c∈l,Ok cs.length W0 4 c) (h8:l.length<=8) (hr:Outs cs os es) (ht:(Cm.tbs l).length<=5):GoodM cs l os es :=
 ⟨h1,h4,hcs,hl,h8,hr,by rw [nums_cnt];omega⟩
theorem kg (L:List Int) (hL:L.length<=1000) (a:Nat) (ha:a<=L.length) : ∃ (cs:List Ce) (l:List Cm) (os:List Nat) (es:List Ce) (b s':Nat),GoodM cs l os es/\(Cm.tbs l).length<=5/\b<=L.length/\Ret VP (.fn 3) [.ptr 0 0 0 0,.d (.int .i64 0)] [sbR L a 0] (.d (moD 0 cs (Cm.nums l 0).1 os (dY es))) [sbR L b s']:=by
 obtain ⟨x,a1,hx,ha1,r1⟩:=aT L hL 1 4 4 (by omega) (by omega) (by omega) (by omega) (by omega) a 0 ha
 obtain ⟨cs,a2,hcl,hcs,ha2,r2⟩:=mC L hL (x+1) (by omega) (by omega) a1 0 ha1
 obtain ⟨os,es,a3,hO,ha3,r3⟩:=lD L hL cs hcs (by omega) (by omega) a2 0 ha2
 obtain ⟨y,a4,hy,ha4,r4⟩:=aT L hL 1 7 7 (by omega) (by omega) (by omega) (by omega) (by omega) a3 0 ha3
 obtain ⟨l,a5,s5,⟨hok,hlen,htb,h5,ha5⟩,r5⟩:=pH L hL cs (by omega) (by omega) os (dY es) (y+1) (by omega) a4 0 ha4 (by omega)
 obtain ⟨k,a6,hk,ha6,r6⟩:=bO L hL 12 (by omega) (by omega) a5 s5 ha5
 unfold sb at r1 r2 r4 r6
 rw [show (1+(x:Int))=(cs.length:Int) by omega] at r1
 rw [<- hcl] at r2
 rw [show (1+(y:Int))=((y+1:Nat):Int) by omega] at r4
 have hok4 : ∀ c∈l,Ok cs.length W0 4 c:=fun c hc=>v4 3 c (hok c hc)
 by_cases hk11:k=11
 · subst hk11
   obtain ⟨f,a7,of,df,zf,ha7,rf⟩:=wT L hL cs.length (by omega) (by omega) a6 s5 ha6
   unfold sb at rf
   have ff:cU cs.length f:=iI of df zf (by omega) (by omega)
   have hv:=j9 cs.length (by omega) (by omega)
   have hc:Ok cs.length W0 4 (Cm.mk 3 0 0 f .z [.mk 5 0 0 .z .z [] [] [] []] [] [] []) := .iff f _ _ ff (by simp) (by simp) (fun c hc=>by rw [List.mem_singleton] at hc;rw [hc];exact .cut) (by simp)
   have hok' : ∀ c∈l++[Cm.mk 3 0 0 f .z [.mk 5 0 0 .z .z [] [] [] []] [] [] []],Ok cs.length W0 4 c:=by
    intro c h
    rw [List.mem_append,List.mem_singleton] at h
    exact h.elim (hok4 c) fun h=>h▸hc
   have ht5:(Cm.tbs (l++[Cm.mk 3 0 0 f .z [.mk 5 0 0 .z .z [] [] [] []] [] [] []])).length<=5:=by
    rw [nu,List.length_append];simp [Cm.tb,Cm.tbs];omega
   have G:GoodM cs (l++[Cm.mk 3 0 0 f .z [.mk 5 0 0 .z .z [] [] [] []] [] [] []]) os es:=nT (by omega) (by omega) hcs hok' (by rw [List.length_append,List.length_singleton];omega) hO ht5
   refine ⟨cs,_,os,es,a7,s5,G,ht5,ha7,?_⟩
   have r7:=nO G
   rcases l with _ | ⟨q,l⟩
   · exact sH L cs os (dY es) a a1 a2 a3 a4 a5 s5 a6 (y+1) 11 _ a7 f r1 r2 r3 r4 r5 r6 hv rf r7
   · exact qq L cs os (dY es) a a1 a2 a3 a4 a5 s5 a6 (y+1) 11 _ q l (by simp at hlen ⊢;omega) a7 f r1 r2 r3 r4 r5 r6 hv rf r7
 · have G:GoodM cs l os es:=nT (by omega) (by omega) hcs hok4 (by omega) hO (by omega)
   refine ⟨cs,l,os,es,a6,s5,G,by omega,ha6,?_⟩
   have r7:=nO G
   rcases l with _ | ⟨q,l⟩
   · exact vK L cs os (dY es) a a1 a2 a3 a4 a5 s5 a6 (y+1) k _ r1 r2 r3 r4 r5 r6 hk11 r7
   · exact sG L cs os (dY es) a a1 a2 a3 a4 a5 s5 a6 (y+1) k _ q l r1 r2 r3 r4 r5 r6 hk11 r7
theorem odS {b0:Nat} {d:Option Nat} {os:List VOper} {e:Env} {s:aa} {Q:Env->aa->Prop} {x y:Opd} {es:List D} {n esz:Nat} {k:IntKind} (hx:ev e x = .d (.slice es)) (hy:ev e y = .d (.int k (n:Nat))) (hn:n<=es.length) (hw:wide (esz+1) es=true) (h:Ops VP b0 os (put e d (.d (.slice (es.take n)))) s Q):Ops VP b0 (⟨d,.slice (esz+1) x none (some y),none⟩::os) e s Q :=
 aZ (fun call=>by
  have h1:(0:Int)<=((n:Nat):Int):=by omega
  simp [az,bx,ae,hx,hy,lK,dq,iN,gq,hn,h1,hw]) h
theorem wl (l:List Int):Ret VP (.fn 2) [.d (.slice (l.map iD))] [] (.ptr 0 0 0 0) [sbR (l.take 1000) 0 0]:=by
 by_cases h:l.length > 1000
 · have t:decide ((((l.map iD).length:Nat):Int) > 1000)=true:=decide_eq_true (by rw [List.length_map];omega)
   have hw:wide 1 (l.map iD)=true:=by simp [wide,iD,D.cells]
   show Ret VP (.fn 2) [.d (.slice (l.map iD))] [] (.ptr 0 0 0 0) [some (.rows 0 false 3 [[.d (.slice ((l.take 1000).map iD)),.d (.int .i64 (0:Nat)),.d (.int .i64 (0:Nat))]])]
   rw [List.map_take]
   have hl:1000<=(l.map iD).length:=by rw [List.length_map];omega
   generalize (l.map iD)=es at *
   refine ret_of rfl rfl (r0 ?_)
   (refine Z1 ?_;(repeat first | (refine odS (n:=1000) rfl rfl hl hw ?_;refine Z1 ?_)))
   exact fe rfl rfl rfl
 · have t:decide ((((l.map iD).length:Nat):Int) > 1000)=false:=decide_eq_false (by rw [List.length_map];omega)
   rw [List.take_of_length_le (by omega)]
   refine ret_of rfl rfl (r0 ?_)
   refine Z1 ?_
   exact fe rfl rfl rfl
theorem tv (L:List Int) (hL:L.length<=1000) (b:Nat) (h1:1<=b) (hb:b<=100) (a s:Nat) (ha:a<=L.length) : ∃ (ts:List Nat) (a':Nat),ts.length=6/\(∀ t∈ts,t < b)/\a'<=L.length/\Ret VP (.fn 367) [.ptr 0 0 0 0,.d (.int .i64 6),.d (.int .i64 ((b - 1:Nat):Int))] [sbR L a s] (.d (.slice (ts.map oD))) [sbR L a' s]:=by
 obtain ⟨x0,a0,hx0,ha0,r0'⟩:=bO L hL b h1 (by omega) a s ha
 obtain ⟨x1,a1,hx1,ha1,r1⟩:=bO L hL b h1 (by omega) a0 s ha0
 obtain ⟨x2,a2,hx2,ha2,r2⟩:=bO L hL b h1 (by omega) a1 s ha1
 obtain ⟨x3,a3,hx3,ha3,r3⟩:=bO L hL b h1 (by omega) a2 s ha2
 obtain ⟨x4,a4,hx4,ha4,r4⟩:=bO L hL b h1 (by omega) a3 s ha3
 obtain ⟨x5,a5,hx5,ha5,r5⟩:=bO L hL b h1 (by omega) a4 s ha4
 have hw:IntKind.i64.wrap (((b - 1:Nat):Int)+1)=(b:Int):=by rw [i64_in]<;>omega
 refine ⟨[x0,x1,x2,x3,x4,x5],a5,rfl,?_,ha5,?_⟩
 · intro t ht
   simp only [List.mem_cons,List.not_mem_nil,or_false] at ht
   rcases ht with rfl | rfl | rfl | rfl | rfl | rfl<;>assumption
 · unfold sb at r0' r1 r2 r3 r4 r5
   rw [<- hw] at r0' r1 r2 r3 r4 r5
   refine ret_of rfl rfl (r0 ?_)
   refine Z2 ?_
   exact fe rfl rfl rfl
end Go.Proofs.YtncfpmehhfdipaaGreat
namespace Go.Proofs.YtncfpmehhfdipaaGreat
open Go.IntWalk
attribute [local irreducible] au
set_option maxHeartbeats 4000000
set_option maxRecDepth 100000
theorem uT (l:List Nat) (hl:l.length<=1000):Ret VP (.fn 260) [.d (nat l),.d (nat l)] [] (.d (.bool true)) []:=by
 have tn:((((l.map u32).length:Nat):Int) != (((l.map u32).length:Nat):Int))=false:=by simp
 unfold nat
 refine ret_of rfl rfl (r0 ?_)
 refine Z1 ?_
 refine af rfl ?_
 refine cB (fun i=>[.d (.slice (l.map u32)),.d (.slice (l.map u32)),.d (.int .i64 i)]) (fun _=>[]) l.length (fun i hi hn => ?_) ?_
 · have hwi:=ac i (by omega)
   have ht:=dd (g:=u32) hi
   have hg:(l.map u32)[i]?=some (u32 l[i]):=by rw [List.getElem?_map,List.getElem?_eq_getElem hi];rfl
   have hx:(((l[i]:Nat):Int) != ((l[i]:Nat):Int))=false:=by simp
   unfold ah
   refine Z1 ?_
   rw [hwi]
   exact af rfl hn
 · have hf:=de (g:=u32) (l:=l)
   unfold ah
   refine Z1 ?_
   rfl
theorem Ie (s:Bool) (a b:Nat):Ret VP (.fn 242) [.d (.agg [.bool s,num a,num b]),.d (.agg [.bool s,num a,num b])] [] (.d (.bool true)) []:=by
 have h1:=uT (lim a) (by have:=dy a;omega)
 have h2:=uT (lim b) (by have:=dy b;omega)
 have hs:(s==s)=true:=by simp
 unfold num
 refine ret_of rfl rfl (r0 ?_)
 refine Z1 ?_
 rfl
theorem Id (q:Rat):Ret VP (.fn 209) [.d (.slice [ct q]),.d (.slice [ct q])] [] (.d (.bool true)) []:=by
 have h:=Ie (decide (q.num < 0)) q.num.natAbs q.den
 unfold ct
 refine ret_of rfl rfl (r0 ?_)
 refine Z2 ?_
 rfl
abbrev trB (ch:List (Nat×Nat)) (m:Rat) (st:List Int) (en:Int):Option Blk:=some (.rows 0 false 4 [[.d (.slice (ch.map chD)),.d (.slice [ct m]),.d (.slice (st.map iD)),.d (.int .i64 en)]])
theorem Ic (y:X) (h1:y.ch.length<=1000) (h2:y.st.length<=1000):Ret VP (.fn 363) [.d (trD y),.d (trD y)] [] (.d (.bool true)) []:=by
 obtain ⟨ch,m,st,en,tk⟩:=y
 have h:=Id m
 have t1:((((ch.map chD).length:Nat):Int) != (((ch.map chD).length:Nat):Int))=false:=by simp
 have t2:((((st.map iD).length:Nat):Int) != (((st.map iD).length:Nat):Int))=false:=by simp
 have t3:(en != en)=false:=by simp
 unfold trD
 refine ret_of rfl rfl (r0 ?_)
 refine Z1 ?_
 refine af rfl ?_
 refine cB (fun i=>[.ptr 0 0 0 0,.ptr 1 0 0 0,.d (.int .i64 i)]) (fun _=>[trB ch m st en,trB ch m st en]) ch.length (fun i hi hn => ?_) ?_
 · have hwi:=ac i (by have:ch.length<=1000:=h1;omega)
   have ht:=dd (g:=chD) hi
   have hg:(ch.map chD)[i]?=some (chD ch[i]):=by rw [List.getElem?_map,List.getElem?_eq_getElem hi];rfl
   have hx:(!(((ch[i].1:Nat):Int)==((ch[i].1:Nat):Int)&&(((ch[i].2:Nat):Int)==((ch[i].2:Nat):Int)&&true)))=false:=by simp
   unfold ah
   refine Z1 ?_
   rw [hwi]
   exact af rfl hn
 · have hf:=de (g:=chD) (l:=ch)
   unfold ah
   refine Z1 ?_
   refine af rfl ?_
   refine cB (fun i=>[.ptr 0 0 0 0,.ptr 1 0 0 0,.d (.int .i64 i)]) (fun _=>[trB ch m st en,trB ch m st en]) st.length (fun i hi hn => ?_) ?_
   · have hwi:=ac i (by have:st.length<=1000:=h2;omega)
     have ht:=dd (g:=iD) hi
     have hg:(st.map iD)[i]?=some (iD st[i]):=by rw [List.getElem?_map,List.getElem?_eq_getElem hi];rfl
     have hx:(st[i] != st[i])=false:=by simp
     unfold ah
     refine Z1 ?_
     rw [hwi]
     exact af rfl hn
   · have hf2:=de (g:=iD) (l:=st)
     unfold ah
     refine Z1 ?_
     rfl
theorem a7A {f:Nat} {fn:VFun} {args:List V} {bs bs':aa} {α:Type} {g:α->V} (hf:VP f=some fn) (hs:fn.split=false) (h:Run VP bs.length fn.body (cE 0 args) bs fun o e s => ∃ x,fin fn.keep bs.length fn.res o e s=some (g x,bs')) : ∃ x,Ret VP (.fn f) args bs (g x) bs':=by
 obtain ⟨x,h⟩:=nA h
 exact ⟨x,ret_of hf hs h⟩
theorem a95 (a b:List Nat) (ha:a.length<=1000) : ∃ r,Ret VP (.fn 260) [.d (nat a),.d (nat b)] [] (.d (.bool r)) []:=by
 unfold nat
 refine a7A (g:=fun r => .d (.bool r)) rfl rfl (r0 ?_)
 cases tn:((((a.map u32).length:Nat):Int) != (((b.map u32).length:Nat):Int)) with
 | true =>
   refine Z1 ?_
   exact ⟨false,rfl⟩
 | false =>
   have hab:a.length=b.length:=by have e:=bne_eq_false_iff_eq.1 tn;rw [List.length_map,List.length_map] at e;omega
   refine Z1 ?_
   refine af rfl ?_
   refine cB (fun i=>[.d (.slice (a.map u32)),.d (.slice (b.map u32)),.d (.int .i64 i)]) (fun _=>[]) a.length (fun i hi hn => ?_) ?_
   · have hwi:=ac i (by omega)
     have ht:=dd (g:=u32) hi
     have hib:i < b.length:=by omega
     have hg:(a.map u32)[i]?=some (u32 a[i]):=by rw [List.getElem?_map,List.getElem?_eq_getElem hi];rfl
     have hg2:(b.map u32)[i]?=some (u32 b[i]):=by rw [List.getElem?_map,List.getElem?_eq_getElem hib];rfl
     generalize a[i]=x at hg
     generalize b[i]=y at hg2
     cases hx:(((x:Nat):Int) != ((y:Nat):Int)) with
     | true =>
       unfold ah
       refine Z1 ?_
       exact ⟨false,rfl⟩
     | false =>
       unfold ah
       refine Z1 ?_
       rw [hwi]
       exact af rfl hn
   · have hf:=de (g:=u32) (l:=a)
     unfold ah
     refine Z1 ?_
     exact ⟨true,rfl⟩
theorem a9E (s s':Bool) (a b c d:Nat) : ∃ r,Ret VP (.fn 242) [.d (.agg [.bool s,num a,num b]),.d (.agg [.bool s',num c,num d])] [] (.d (.bool r)) []:=by
 obtain ⟨r1,h1⟩:=a95 (lim a) (lim c) (by have:=dy a;omega)
 obtain ⟨r2,h2⟩:=a95 (lim b) (lim d) (by have:=dy b;omega)
 unfold num
 cases hs:(s==s') with
 | false =>
   refine ⟨false,?_⟩
   refine ret_of rfl rfl (r0 ?_)
   refine Z1 ?_
   rfl
 | true =>
   cases r1 with
   | false =>
     refine ⟨false,?_⟩
     refine ret_of rfl rfl (r0 ?_)
     refine Z1 ?_
     rfl
   | true =>
     refine ⟨r2,?_⟩
     refine ret_of rfl rfl (r0 ?_)
     refine Z1 ?_
     rfl
theorem a9D (q q':Rat) : ∃ r,Ret VP (.fn 209) [.d (.slice [ct q]),.d (.slice [ct q'])] [] (.d (.bool r)) []:=by
 obtain ⟨r,h⟩:=a9E (decide (q.num < 0)) (decide (q'.num < 0)) q.num.natAbs q.den q'.num.natAbs q'.den
 unfold ct
 refine ⟨r,?_⟩
 cases r with
 | false =>
   refine ret_of rfl rfl (r0 ?_)
   refine Z2 ?_
   rfl
 | true =>
   refine ret_of rfl rfl (r0 ?_)
   refine Z2 ?_
   rfl
theorem a94 (y z:X) (h1:z.ch.length<=1000) (h2:z.st.length<=1000) : ∃ r,Ret VP (.fn 363) [.d (trD y),.d (trD z)] [] (.d (.bool r)) []:=by
 obtain ⟨ch,m,st,en,tk⟩:=y
 obtain ⟨ch',m',st',en',tk'⟩:=z
 dsimp only at h1 h2
 obtain ⟨r,h⟩:=a9D m m'
 unfold trD
 refine a7A (g:=fun r => .d (.bool r)) rfl rfl (r0 ?_)
 cases t1:((((ch.map chD).length:Nat):Int) != (((ch'.map chD).length:Nat):Int)) with
 | true =>
   refine Z1 ?_
   exact ⟨false,rfl⟩
 | false =>
 cases t2:((((st.map iD).length:Nat):Int) != (((st'.map iD).length:Nat):Int)) with
 | true =>
   refine Z1 ?_
   exact ⟨false,rfl⟩
 | false =>
 cases t3:(en != en') with
 | true =>
   refine Z1 ?_
   exact ⟨false,rfl⟩
 | false =>
 cases r with
 | false =>
   refine Z1 ?_
   exact ⟨false,rfl⟩
 | true =>
   have hcc:ch.length=ch'.length:=by have e:=bne_eq_false_iff_eq.1 t1;rw [List.length_map,List.length_map] at e;omega
   have hss:st.length=st'.length:=by have e:=bne_eq_false_iff_eq.1 t2;rw [List.length_map,List.length_map] at e;omega
   refine Z1 ?_
   refine af rfl ?_
   refine cB (fun i=>[.ptr 0 0 0 0,.ptr 1 0 0 0,.d (.int .i64 i)]) (fun _=>[trB ch m st en,trB ch' m' st' en']) ch.length (fun i hi hn => ?_) ?_
   · have hwi:=ac i (by omega)
     have ht:=dd (g:=chD) hi
     have hi2:i < ch'.length:=by omega
     have hg:(ch.map chD)[i]?=some (chD ch[i]):=by rw [List.getElem?_map,List.getElem?_eq_getElem hi];rfl
     have hg2:(ch'.map chD)[i]?=some (chD ch'[i]):=by rw [List.getElem?_map,List.getElem?_eq_getElem hi2];rfl
     generalize ch[i]=x at hg
     generalize ch'[i]=y at hg2
     cases hx:(!(((x.1:Nat):Int)==((y.1:Nat):Int)&&(((x.2:Nat):Int)==((y.2:Nat):Int)&&true))) with
     | true =>
       unfold ah
       refine Z1 ?_
       exact ⟨false,rfl⟩
     | false =>
       unfold ah
       refine Z1 ?_
       rw [hwi]
       exact af rfl hn
   · have hf:=de (g:=chD) (l:=ch)
     unfold ah
     refine Z1 ?_
     refine af rfl ?_
     refine cB (fun i=>[.ptr 0 0 0 0,.ptr 1 0 0 0,.d (.int .i64 i)]) (fun _=>[trB ch m st en,trB ch' m' st' en']) st.length (fun i hi hn => ?_) ?_
     · have hwi:=ac i (by omega)
       have ht:=dd (g:=iD) hi
       have hi2:i < st'.length:=by omega
       have hg:(st.map iD)[i]?=some (iD st[i]):=by rw [List.getElem?_map,List.getElem?_eq_getElem hi];rfl
       have hg2:(st'.map iD)[i]?=some (iD st'[i]):=by rw [List.getElem?_map,List.getElem?_eq_getElem hi2];rfl
       generalize st[i]=x at hg
       generalize st'[i]=y at hg2
       cases hx:(x != y) with
       | true =>
         unfold ah
         refine Z1 ?_
         exact ⟨false,rfl⟩
       | false =>
         unfold ah
         refine Z1 ?_
         rw [hwi]
         exact af rfl hn
     · have hf2:=de (g:=iD) (l:=st)
       unfold ah
       refine Z1 ?_
       exact ⟨true,rfl⟩
noncomputable def runX (cs:List Ce) (l:List Cm) (b:Nat) (ts:List Nat):X:=(Cm.exsO cs (fun n w=>pk w (mkRat (ts.getD n 0:Nat) b)) l (x0 cs)).1
theorem a72 {cs:List Ce} {l:List Cm} {os:List Nat} {es:List Ce} (G:GoodM cs l os es) (b:Nat) (ts:List Nat) (hb:b<=1000) (hall : ∀ t∈ts,t < b) (h6:ts.length<=6) (ht:(Cm.tbs (Cm.nums l 0).1).length<=ts.length) :
 InvX ⟨cs,(Cm.nums l 0).1.map Cm.d,os,dY es,b,ts⟩ (runX cs (Cm.nums l 0).1 b ts)/\(runX cs (Cm.nums l 0).1 b ts).tk<=6 /\
  Ret VP (.fn 38) [.d (moD 0 cs (Cm.nums l 0).1 os (dY es)),.func 441 [.ptr 0 0 0 0] []] [some (rdB b ts 0)] (.d (.tuple [trD (runX cs (Cm.nums l 0).1 b ts),.int .i64 0])) [some (rdB b ts (runX cs (Cm.nums l 0).1 b ts).tk)]:=by
 have hw:=a7L (fun n w=>pk w (mkRat (ts.getD n 0:Nat) b)) cs (Cm.nums l 0).1 G.num.hl (x0 cs)
 obtain ⟨p',sh',g,_,I,h1,_,h2⟩:=a8N G.h1 G.h4 (Cm.nums l 0).1 os (dY es) b ts (O:=Otp ⟨cs,(Cm.nums l 0).1.map Cm.d,os,dY es,b,ts⟩) (a8C G.hcs hb hall h6) G.num.hl G.num.h8 (by omega) ⟨0,0,0,[],[]⟩ .t0 ⟨rfl,rfl⟩ ⟨trivial,rfl⟩ (by show 0+_<=ts.length;rw [Nat.zero_add];exact Nat.le_trans hw ht)
 refine ⟨I,h1,?_⟩
 cases g with
 | h00=>exact h2
 | h0a c ch=>exact h2
theorem jw {cs:List Ce} {l:List Cm} {os:List Nat} {es:List Ce} (G:GoodM cs l os es) (b:Nat) (ts:List Nat) (hb1:1<=b) (hb:b<=1000) (hall : ∀ t∈ts,t < b) (h6:ts.length<=6) (ht:(Cm.tbs (Cm.nums l 0).1).length<=ts.length) :
 Ret VP (.fn 434) [.d (moD 0 cs (Cm.nums l 0).1 os (dY es)),.d (.int .i64 b),.d (.slice (ts.map oD))] [] (.d (.tuple [trD (runX cs (Cm.nums l 0).1 b ts),.int .i64 (runX cs (Cm.nums l 0).1 b ts).tk,.int .i64 0])) []:=by
 have h1:=rN G b hb1 hb
 obtain ⟨_,_,h2⟩:=a72 G b ts hb hall h6 ht
 generalize runX cs (Cm.nums l 0).1 b ts=y at h2 ⊢
 unfold trD at h2 ⊢
 have h3:Ret VP (.fn 440) [.d (moD 0 cs (Cm.nums l 0).1 os (dY es)),.func 441 [.ptr 0 0 0 0] []] [some (rdB b ts 0)] (.d (.tuple [.agg [.slice (y.ch.map chD),.slice [ct y.m],.slice (y.st.map iD),.int .i64 y.en],.int .i64 0])) [some (rdB b ts y.tk)]:=by
  refine ret_of rfl rfl (r0 ?_)
  refine Z1 ?_
  rfl
 have h4:Ret VP (.fn 437) [.d (moD 0 cs (Cm.nums l 0).1 os (dY es)),.d (.int .i64 b),.d (.slice (ts.map oD))] [] (.d (.tuple [.agg [.slice (y.ch.map chD),.slice [ct y.m],.slice (y.st.map iD),.int .i64 y.en],.int .i64 y.tk,.int .i64 0])) []:=by
  refine ret_of rfl rfl (r0 ?_)
  refine Z1 ?_
  rfl
 refine ret_of rfl rfl (r0 ?_)
 refine Z1 ?_
 rfl
end Go.Proofs.YtncfpmehhfdipaaGreat
namespace Go.Proofs.YtncfpmehhfdipaaGreat
set_option maxRecDepth 100000
theorem ud0:Q1 41 (I 1) (A [B false,S [W 1],S [W 1]]):=Tk .n
theorem ud1:Q2 114 (S [W 1]) (S [W 3]) (J 0):=Tk .n
theorem ud2:Q2 114 (S [W 3]) (S [W 1]) (I 1):=Tk .n
theorem ud3:Q2 72 (S [W 3]) (S [W 1]) (U [S [W 3],S [],I 0]):=Tk (.c ud2 .n)
theorem ud4:Q2 71 (S [W 1]) (S [W 3]) (S [W 1]):=Tk (.c ud1 (.c ud3 .n))
theorem ud5:Q2 72 (S [W 1]) (S [W 1]) (U [S [W 1],S [],I 0]):=Tk .n
theorem ud6:Q3 42 (B false) (S [W 1]) (S [W 3]) (A [B false,S [W 1],S [W 3]]):=Tk (.c ud4 (.c ud5 (.c ud3 .n)))
theorem ud7:Q1 121 (A [B false,S [W 1],S [W 3]]) (A [B false,S [W 1],S [W 3]]):=Tk (.c ud6 .n)
theorem ud8:Q2 71 (S [W 1]) (S [W 1]) (S [W 1]):=Tk (.c ud5 .n)
theorem ud9:Q1 121 (A [B false,S [W 1],S [W 1]]) (A [B false,S [W 1],S [W 1]]):=Tk (.c ud8 (.c ud5 .n))
theorem aRG:Q2 124 (S [W 1]) (S [W 1]) (S [W 1]):=Tk .n
theorem aRF:Q2 124 (S [W 3]) (S [W 1]) (S [W 3]):=Tk .n
theorem aRE:Q3 42 (B true) (S [W 1]) (S [W 3]) (A [B true,S [W 1],S [W 3]]):=Tk (.c ud4 (.c ud5 (.c ud3 .n)))
theorem aRD:Q1 121 (A [B true,S [W 1],S [W 3]]) (A [B true,S [W 1],S [W 3]]):=Tk (.c aRE .n)
theorem aRC:Q2 72 (S [W 2]) (S [W 1]) (U [S [W 2],S [],I 0]):=Tk .n
theorem aU0:Q2 71 (S [W 2]) (S [W 3]) (S [W 1]):=Tk (.c aRC .n)
theorem aRB:Q3 42 (B false) (S [W 2]) (S [W 3]) (A [B false,S [W 2],S [W 3]]):=Tk (.c aU0 (.c aRC (.c ud3 .n)))
theorem aTZ:Q1 121 (A [B false,S [W 2],S [W 3]]) (A [B false,S [W 2],S [W 3]]):=Tk (.c aRB .n)
def au8:D:=S [A [I 0,I 0,I 0,I 0,I 0,I 0,I 0,I 0,B false,S [W 2],S [W 3]]]
theorem aTY:Q2 73 (S [A [I 0,I 0,I 0,I 0,I 0,I 0,I 0,I 0,B false,S [W 1],S [W 1]]]) (A [I 0,I 0,I 0,I 0,I 0,I 0,I 0,I 0,B true,S [W 1],S [W 3]]) au8:=Tk (.c aRD (.c ud9 (.c aRG (.c aRF (.c ud1 (.c ud2 (.c aRB (.c aTZ .n))))))))
def avK:D:=S [A [I 0,I 0,I 0,I 0,I 0,I 0,I 0,I 0,B false,S [W 1],S [W 3]]]
theorem aTX:Q2 21 (S [A [I 0,I 0,I 0,I 0,I 0,I 0,I 0,I 0,B false,S [W 1],S [W 1]]]) avK au8:=Tk (.c ud7 (.c ud8 (.c ud5 (.c aRG (.c aRF (.c aRE (.c aRD (.c aTY .n))))))))
def aHR:D:=S [au8,avK]
def aQL:D:=A [I 1,I 0,I 0,aHR,B false,S [],S [],B false,S [],S []]
theorem aTW:Q2 7 (I 1) (I 3) aQL:=Tk (.c ud0 (.c ud6 (.c ud7 (.c ud9 (.c aTX .n)))))
def aHQ:D:=A [I 2,I 0,I 0,I 0,I 0,B false,S [],S [],S [],I 1,I 0,I 0,aHR,B false,S [],S [],B false,S [],S [],S [],S [],S [],S []]
def au7:D:=S [aHQ]
theorem aTV:Q1 438 (I 1) (A [I 0,S [A [I 1,I 0,I 1]],S [],S [],au7,S [I 0],I 1,I 0,I 0,I 0,S []]):=Tk (.c aTW .n)
theorem aTU:Q2 50 (S [A [S [A [I 1,I 0,I 1]],au7]]) (.func 51 [] []) (B false):=Tk .n
theorem aTT:Q2 97 (S [I 0]) (S [A [I 1,I 0,I 1]]) (B true):=Tk .n
theorem aRA:Q1 189 (S []) (S []):=Tk .n
theorem axJ:Q1 189 (S [W 1]) (S [W 1]):=Tk .n
theorem aH8:Q3 149 (B false) (S []) (S [W 1]) (A [B false,S [],S [W 1]]):=Tk (.c aRA (.c axJ .n))
theorem aR9:Q1 195 (A [B false,S [],S []]) (A [B false,S [],S [W 1]]):=Tk (.c aH8 .n)
theorem aH7:Q1 223 (S [W 3]) (B false):=Tk .n
theorem aI4:Q1 189 (S [W 2]) (S [W 2]):=Tk .n
theorem axI:Q1 189 (S [W 3]) (S [W 3]):=Tk .n
theorem aI3:Q1 219 (.int .u64 1) (S [W 1]):=Tk .n
theorem aR8:Q2 190 (S [W 2]) (S [W 3]) (S [W 1]):=Tk (.c aI4 (.c axI (.c aI3 .n)))
theorem aH6:Q3 149 (B false) (S [W 2]) (S [W 3]) (A [B false,S [W 2],S [W 3]]):=Tk (.c aI4 (.c axI (.c aR8 .n)))
theorem avN:Q1 195 (A [B false,S [W 2],S [W 3]]) (A [B false,S [W 2],S [W 3]]):=Tk (.c aH7 (.c aH6 .n))
theorem aH5:Q2 196 (S []) (S [W 3]) (S []):=Tk .n
theorem aI2:Q2 196 (S [W 2]) (S [W 1]) (S [W 2]):=Tk .n
theorem avM:Q2 196 (S [W 1]) (S [W 3]) (S [W 3]):=Tk .n
theorem aR7:Q5 198 (B false) (S []) (B false) (S [W 2]) (S [W 3]) (A [B false,S [W 2],S [W 3]]):=Tk (.c aH6 .n)
theorem aI1:Q1 157 (A [B false,S [W 2],S [W 3]]) (I 1):=Tk (.c avN .n)
theorem azX:Q1 200 (.int .u64 1) (I 1):=Tk .n
theorem aR6:Q1 112 au8 au8:=Tk (.c aR9 (.c avN (.c aH5 (.c aI2 (.c avM (.c aR7 (.c aI1 (.c azX .n))))))))
theorem aR5:Q1 68 au8 (U [au8,I 0]):=Tk (.c aR6 .n)
theorem aR4:Q1 185 (A [B false,S [W 2],S [W 3]]) (A [B false,S [W 2],S [W 3]]):=Tk (.c avN .n)
theorem aR3:Q1 147 au8 au8:=Tk (.c aR4 (.c aI1 (.c azX .n)))
theorem aR2:Q2 190 (S [W 1]) (S [W 3]) (S [W 1]):=Tk (.c axJ (.c axI (.c aI3 .n)))
theorem azW:Q3 149 (B false) (S [W 1]) (S [W 3]) (A [B false,S [W 1],S [W 3]]):=Tk (.c axJ (.c axI (.c aR2 .n)))
theorem azO:Q1 195 (A [B false,S [W 1],S [W 3]]) (A [B false,S [W 1],S [W 3]]):=Tk (.c aH7 (.c azW .n))
theorem aI0:Q2 196 (S [W 1]) (S [W 1]) (S [W 1]):=Tk .n
theorem aR1:Q5 198 (B false) (S []) (B false) (S [W 1]) (S [W 3]) (A [B false,S [W 1],S [W 3]]):=Tk (.c azW .n)
theorem azV:Q1 157 (A [B false,S [W 1],S [W 3]]) (I 1):=Tk (.c azO .n)
theorem aR0:Q1 112 avK avK:=Tk (.c aR9 (.c azO (.c aH5 (.c aI0 (.c avM (.c aR1 (.c azV (.c azX .n))))))))
theorem aQZ:Q1 68 avK (U [avK,I 0]):=Tk (.c aR0 .n)
theorem aHZ:Q2 196 (S [W 2]) (S [W 3]) (S [W 6]):=Tk .n
theorem aHY:Q2 196 (S [W 3]) (S [W 3]) (S [W 9]):=Tk .n
theorem aHX:Q1 189 (S [W 9]) (S [W 9]):=Tk .n
theorem aQY:Q1 219 (.int .u64 0) (S []):=Tk .n
theorem aTS:Q5 198 (B false) (S [W 6]) (B false) (S [W 3]) (S [W 9]) (A [B false,S [W 1],S [W 1]]):=Tk (.c aHX (.c aQY .n))
theorem aQX:Q2 156 (A [B false,S [W 2],S [W 3]]) (A [B false,S [W 1],S [W 3]]) (A [B false,S [W 1],S [W 1]]):=Tk (.c avN (.c azO (.c aHZ (.c avM (.c aHY (.c aTS .n))))))
theorem aHW:Q1 223 (S [W 1]) (B false):=Tk .n
theorem aQW:Q2 190 (S [W 1]) (S [W 1]) (S [W 1]):=Tk (.c axJ (.c aI3 .n))
theorem aQV:Q3 149 (B false) (S [W 1]) (S [W 1]) (A [B false,S [W 1],S [W 1]]):=Tk (.c axJ (.c aQW .n))
theorem axH:Q1 195 (A [B false,S [W 1],S [W 1]]) (A [B false,S [W 1],S [W 1]]):=Tk (.c aHW (.c aQV .n))
theorem aQU:Ret VP (.fn 186) [.ms 0 1 0 1,.d (.func 187 [] [])] [some (.rows 1 false 11 [[.d (I 0),.d (I 0),.d (I 0),.d (I 0),.d (I 0),.d (I 0),.d (I 0),.d (I 0),.d (B false),.d (S [W 1]),.d (S [W 1])]])] (.ms 0 1 0 1) [some (.rows 1 false 11 [[.d (I 0),.d (I 0),.d (I 0),.d (I 0),.d (I 0),.d (I 0),.d (I 0),.d (I 0),.d (B false),.d (S [W 1]),.d (S [W 1])]])]:=tb (n:=1000) (.c axH .n) (by kernel_rfl)
theorem aQT:Ret VP (.fn 158) [.ms 0 1 0 1,.d (.func 188 [A [I 8]] [])] [some (.rows 1 false 11 [[.d (I 0),.d (I 0),.d (I 0),.d (I 0),.d (I 0),.d (I 0),.d (I 0),.d (I 0),.d (B false),.d (S [W 1]),.d (S [W 1])]])] (.d (U [])) [some (.rows 1 false 11 [[.d (I 0),.d (I 0),.d (I 0),.d (I 0),.d (I 0),.d (I 0),.d (I 0),.d (I 0),.d (B false),.d (S [W 1]),.d (S [W 1])]])]:=tb (n:=1000) (.c azX .n) (by kernel_rfl)
theorem aQS:Q1 148 (I 1) (U [B false,S [W 1]]):=Tk .n
theorem aHV:Q1 65 (I 1) (S [A [I 0,I 0,I 0,I 0,I 0,I 0,I 0,I 0,B false,S [W 1],S [W 1]]]):=Tk (.c aQS (.c aQV (.c axH (.c aQU (.c aQT .n)))))
theorem aTR:Q2 220 (S [W 1]) (S [W 1]) (I 0):=Tk .n
theorem aTQ:Q2 156 (A [B false,S [W 1],S [W 1]]) (A [B true,S [W 1],S [W 1]]) (A [B false,S [],S [W 1]]):=Tk (.c axH (.c aHW (.c axJ (.c aQW (.c aTR (.c aH8 .n))))))
theorem aHU:Q1 195 (A [B false,S [],S [W 1]]) (A [B false,S [],S [W 1]]):=Tk (.c aHW (.c aH8 .n))
theorem aQR:Q1 157 (A [B false,S [],S [W 1]]) (I 0):=Tk (.c aHU .n)
theorem aTP:Q2 213 (A [I 0,S [A [I 1,I 0,I 1]],S [],I 0,B true]) aHR (B true):=Tk (.c aR5 (.c aI1 (.c aR3 (.c aQZ (.c azV (.c aR4 (.c aQX (.c aQU (.c aQT (.c aHV (.c axH (.c aTQ (.c aQR .n)))))))))))))
theorem aTO:Q1 56 (A [I 0,S [A [I 1,I 0,I 1]],S [],S [],au7,S [I 0],I 1,I 0,I 0,I 0,S []]) (B true):=Tk (.c aTT (.c aTP .n))
theorem aQQ:Q1 29 (A [I 0,S [A [I 1,I 0,I 1]],S [],S [],au7,S [I 0],I 1,I 0,I 0,I 0,S []]) (I 0):=Tk (.c aTU (.c aTO .n))
theorem aTN:Q1 30 (A [I 0,S [A [I 1,I 0,I 1]],S [],S [],au7,S [I 0],I 1,I 0,I 0,I 0,S []]) (U [S [aQL],I 0]):=Tk (.c aQQ .n)
theorem aTM:Q2 64 (S []) (.func 63 [] []) (B false):=Tk .n
theorem aTL:Q1 16 (A [I 0,S [A [I 1,I 0,I 1]],S [],S [],au7,S [I 0],I 1,I 0,I 0,I 0,S []]) (I 0):=Tk (.c aQQ (.c aTN (.c aTM .n)))
theorem aQP:Q2 436 (A [I 0,S [A [I 1,I 0,I 1]],S [],S [],au7,S [I 0],I 1,I 0,I 0,I 0,S []]) (I 3) (I 0):=Tk (.c aTL .n)
theorem aHT:Q2 66 (A [I 1,I 0,I 1]) (I 0) (I 0):=Tk .n
theorem aQO:Q1 148 (I 3) (U [B false,S [W 3]]):=Tk .n
theorem aH4:Q1 107 (I 0) (A [B false,S [],S [W 1]]):=Tk (.c aH8 .n)
theorem aHS:Q2 156 (A [B false,S [],S [W 1]]) (A [B false,S [W 2],S [W 3]]) (A [B false,S [W 2],S [W 3]]):=Tk (.c aHU (.c avN (.c aH5 (.c aI2 (.c avM (.c aR7 .n))))))
theorem aQN:Q1 443 au8 (A [B false,S [W 2],S [W 3]]):=Tk (.c aR6 (.c aH4 (.c aHS .n)))
theorem aTK:Q2 220 (S [W 6]) (S [W 3]) (I 1):=Tk .n
theorem aTJ:Q3 149 (B false) (S [W 3]) (S [W 9]) (A [B false,S [W 1],S [W 3]]):=Tk (.c axI (.c aHX (.c aQY .n)))
theorem aTI:Q2 156 (A [B false,S [W 2],S [W 3]]) (A [B true,S [W 1],S [W 3]]) (A [B false,S [W 1],S [W 3]]):=Tk (.c avN (.c aH7 (.c axJ (.c axI (.c aR2 (.c aHZ (.c avM (.c aHY (.c aTK (.c aTJ .n))))))))))
theorem aTH:Ret VP (.fn 441) [.ptr 0 0 0 0,.d aHQ] [some (.rows 0 false 3 [[.d (I 3),.d (S [I 1]),.d (I 0)]])] (.d (U [I 0,I 0])) [some (.rows 0 false 3 [[.d (I 3),.d (S [I 1]),.d (I 1)]])]:=tb (n:=1000) (.c aQS (.c aQO (.c azW (.c aH4 (.c aQN (.c aHS (.c azO (.c aTI (.c azV .n))))))))) (by kernel_rfl)
theorem aTG:Ret VP (.fn 67) [.ptr 0 0 0 0,.d au7] [some (.rows 0 false 17 [[.d (I 0),.d (S [A [I 1,I 0,I 1]]),.d (S []),.d (S []),.d au7,.d (S [I 0]),.d (I 1),.d (I 0),.d (I 0),.d (I 0),.d (S []),.nils,.d (S [A [I 0,I 0,I 0,I 0,I 0,I 0,I 0,I 0,B false,S [W 1],S [W 1]]]),.ms 1 0 0 1,.d (I 1),.func 441 [.ptr 2 0 0 0] [],.d (I 0)]]),some (.rows 0 false 1 [[.d (I 0)]]),some (.rows 0 false 3 [[.d (I 3),.d (S [I 1]),.d (I 0)]])] (.d (B true)) [some (.rows 0 false 17 [[.d (I 0),.d (S [A [I 1,I 0,I 1]]),.d (S []),.d (S []),.d au7,.d (S [I 0]),.d (I 1),.d (I 0),.d (I 0),.d (I 0),.d (S []),.ms 3 0 0 1,.d au8,.ms 1 0 0 1,.d (I 1),.func 441 [.ptr 2 0 0 0] [],.d (I 0)]]),some (.rows 0 false 1 [[.d (I 0)]]),some (.rows 0 false 3 [[.d (I 3),.d (S [I 1]),.d (I 1)]]),some (.rows 0 false 2 [[.d (I 0),.d (I 0)]])]:=tb (n:=1000) (.c aTH (.c aHT (.c aR5 (.c axH (.c avN (.c avM (.c aH6 (.c aR3 .n)))))))) (by kernel_rfl)
theorem aTF:Q3 434 (A [I 0,S [A [I 1,I 0,I 1]],S [],S [],au7,S [I 0],I 1,I 0,I 0,I 0,S []]) (I 3) (S [I 1]) (U [A [S [A [I 0,I 0]],au8,S [I 0],I 1],I 1,I 0]):=Tk (.c aQP (.c aHV (.c aHT (.c aTG .n))))
theorem aTE:Q1 264 (A [B false,S [W 2],S [W 3]]) (A [B true,S [W 2],S [W 3]]):=Tk (.c avN .n)
theorem aQM:Q1 195 (A [B true,S [W 2],S [W 3]]) (A [B true,S [W 2],S [W 3]]):=Tk (.c aH7 (.c aI4 (.c axI (.c aR8 .n))))
theorem aTD:Q2 220 (S [W 6]) (S [W 6]) (I 0):=Tk .n
theorem aTC:Q2 156 (A [B false,S [W 2],S [W 3]]) (A [B true,S [W 2],S [W 3]]) (A [B false,S [],S [W 1]]):=Tk (.c avN (.c aQM (.c aHZ (.c aHY (.c aTD (.c aRA (.c aHX .n)))))))
theorem aTB:Q1 443 avK (A [B false,S [W 1],S [W 3]]):=Tk (.c aR0 (.c aH4 (.c aHU (.c azO (.c aH5 (.c aI0 (.c avM (.c aR1 .n))))))))
theorem aTA:Q2 220 (S [W 3]) (S [W 2]) (I 1):=Tk .n
theorem aT9:Q2 156 (A [B false,S [W 1],S [W 1]]) (A [B true,S [W 2],S [W 3]]) (A [B false,S [W 1],S [W 3]]):=Tk (.c axH (.c aQM (.c avM (.c aI2 (.c aTA (.c azW .n))))))
theorem aT8:Ret VP (.fn 441) [.ptr 0 0 0 0,.d aHQ] [some (.rows 0 false 3 [[.d (I 3),.d (S [I 2,I 0]),.d (I 0)]])] (.d (U [I 1,I 0])) [some (.rows 0 false 3 [[.d (I 3),.d (S [I 2,I 0]),.d (I 1)]])]:=tb (n:=1000) (.c aQO (.c aH6 (.c aH4 (.c aQN (.c aHS (.c aTE (.c aTC (.c aQR (.c aTB (.c aQX (.c aT9 (.c azV .n)))))))))))) (by kernel_rfl)
theorem aT7:Q2 110 (S [A [I 0,I 0,I 0,I 0,I 0,I 0,I 0,I 0,B false,S [W 1],S [W 1]]]) avK avK:=Tk (.c axH (.c azO (.c aI0 (.c avM (.c azW (.c azV (.c azX .n)))))))
theorem aT6:Q3 434 (A [I 0,S [A [I 1,I 0,I 1]],S [],S [],au7,S [I 0],I 1,I 0,I 0,I 0,S []]) (I 3) (S [I 2,I 0]) (U [A [S [A [I 0,I 1]],avK,S [I 1],I 1],I 1,I 0]):=Tk (.c aQP (.c aHV (.c aHT (.c aT8 (.c aQZ (.c aT7 .n))))))
theorem aT5:Q0 435 (B true):=Tk (.c aTV (.c aTF (.c aT6 .n)))
end Go.Proofs.YtncfpmehhfdipaaGreat
namespace Go.Proofs.YtncfpmehhfdipaaGreat
open Go.IntWalk
attribute [local irreducible] au
set_option maxHeartbeats 4000000
set_option maxRecDepth 100000
theorem a7J {cs:List Ce} {bd:List Cm} (M:MOK cs bd) (b:Nat) (ts:List Nat) (hb:b<=1000) (hall : ∀ t∈ts,t < b) (h6:ts.length<=6) (ht:(Cm.tbs bd).length<=ts.length):runX cs bd b ts∈(GC cs bd).enum a64:=by
 have e:runX cs bd b ts=(GC cs bd).go (fun n w=>pk w (mkRat (ts.getD n 0:Nat) b)) 0:=by
  rw [(Iy cs bd _).1];rfl
 rw [e]
 refine a6G a64 _ (GC cs bd) 0 (fun j w hj => ?_)
 have hw:=a71 _ (GC cs bd) 0 (GN cs M.hbd M.h6).2.1 w (List.mem_of_getElem? hj)
 rw [(Iy cs bd _).2] at hj
 have hlen:=a7L (fun n w=>pk w (mkRat (ts.getD n 0:Nat) b)) cs bd M.hbd (x0 cs)
 have hj2:=(List.getElem?_eq_some_iff.1 hj).1
 obtain ⟨_,p,hp,hwn⟩:=hH 0 0 0 b ts j hb hall (by omega) (by omega) w hw
 rw [Nat.zero_add]
 exact a7M hp hwn
theorem a8I (l:List Int):Ret VP (.fn 445) [.d (.slice (l.map iD))] [] (.d (.bool true)) []:=by
 have hL:(l.take 1000).length<=1000:=by rw [List.length_take];omega
 have r1:=wl l
 generalize l.take 1000=L at hL r1
 obtain ⟨cs,bd,os,es,a1,s1,G,ht5,ha1,r2⟩:=kg L hL 0 (Nat.zero_le _)
 obtain ⟨x,a2,hx,ha2,r3⟩:=aT L hL 1 9 9 (by omega) (by omega) (by omega) (by omega) (by omega) a1 s1 ha1
 obtain ⟨ts,a3,hl6,hall,ha3,r4⟩:=tv L hL (x+1) (by omega) (by omega) a2 s1 ha2
 have hb:x+1<=9:=by omega
 have htn:(Cm.tbs (Cm.nums bd 0).1).length<=ts.length:=by rw [tbs_nums];omega
 have M:MOK cs (Cm.nums bd 0).1:=⟨G.hcs,G.h1,G.h4,G.num.hl,G.num.h8,by omega⟩
 have r5:=jw G (x+1) ts (by omega) (by omega) hall (by omega) htn
 have r6:=a9G M (jk G)
 have hmem:=a7J M (x+1) ts (by omega) hall (by omega) htn
 obtain ⟨IXq0,e1,_⟩:=a72 G (x+1) ts (by omega) hall (by omega) htn
 have hch:=IXq0.hch
 have e2:(runX cs (Cm.nums bd 0).1 (x+1) ts).st.length=cs.length:=IXq0.hst
 have hc4:=G.h4
 have hlen:=(GN cs M.hbd M.h6).2.2
 clear IXq0
 generalize runX cs (Cm.nums bd 0).1 (x+1) ts=y at r5 hmem hch e1 e2
 generalize (GC cs (Cm.nums bd 0).1).enum a64=A at r6 hmem hlen
 have r8:=aT5
 unfold sb at r3
 have hw:IntKind.i64.wrap ((1+(x:Int)) - 1)=((x+1 - 1:Nat):Int):=by rw [i64_in]<;>omega
 rw [<- hw] at r4
 rw [show ((x+1:Nat):Int)=1+(x:Int) by omega] at r5
 have t1:(((y.tk:Nat):Int) != (((y.ch.map chD).length:Nat):Int))=false:=by rw [List.length_map,hch];simp
 obtain ⟨i0q0,hi0,hy⟩:=List.getElem_of_mem hmem
 have ey:trD y = .agg [.slice (y.ch.map chD),.slice [ct y.m],.slice (y.st.map iD),.int .i64 y.en]:=rfl
 have hsame:Ret VP (.fn 363) [.d (trD y),.d (.agg [.slice (y.ch.map chD),.slice [ct y.m],.slice (y.st.map iD),.int .i64 y.en])] [] (.d (.bool true)) []:=Ic y (by omega) (by omega)
 have hany : ∀ z:X,∃ r,Ret VP (.fn 363) [.d (trD z),.d (.agg [.slice (y.ch.map chD),.slice [ct y.m],.slice (y.st.map iD),.int .i64 y.en])] [] (.d (.bool r)) []:=fun z=>a94 z y (by omega) (by omega)
 rw [ey] at r5
 unfold moD at r2 r5 r6
 refine ret_of rfl rfl (r0 ?_)
 refine Z1 ?_
 refine af rfl ?_
 refine cB (fun i=>[.ptr 0 0 0 0,.d (.slice (A.map trD)),.d (.int .i64 i)]) (fun _=>[trB y.ch y.m y.st y.en]) i0q0 (fun i hi hn => ?_) ?_
 · have hiA:i < A.length:=by omega
   have hwi:=ac i (by omega)
   have ht:=dd (g:=trD) hiA
   have hg:(A.map trD)[i]?=some (trD A[i]):=by rw [List.getElem?_map,List.getElem?_eq_getElem hiA];rfl
   obtain ⟨r,hr⟩:=hany A[i]
   generalize A[i]=z at hg hr
   have ezq0:trD z = .agg [.slice (z.ch.map chD),.slice [ct z.m],.slice (z.st.map iD),.int .i64 z.en]:=rfl
   rw [ezq0] at hg hr
   cases r with
   | true =>
     unfold ah
     refine Z1 ?_
     rfl
   | false =>
     unfold ah
     refine Z1 ?_
     rw [hwi]
     exact af rfl hn
 · have ht:=dd (g:=trD) hi0
   have hg:(A.map trD)[i0q0]?=some (trD y):=by rw [List.getElem?_map,List.getElem?_eq_getElem hi0,hy];rfl
   rw [ey] at hg hsame
   unfold ah
   refine Z1 ?_
   rfl
end Go.Proofs.YtncfpmehhfdipaaGreat
