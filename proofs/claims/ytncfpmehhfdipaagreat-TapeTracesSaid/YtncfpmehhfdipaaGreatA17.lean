/- Runs: a run from its beginning: four cells. -/
import Derived.Test.YtncfpmehhfdipaaGreatA08
import Derived.Test.YtncfpmehhfdipaaGreatA16
import Derived.Test.YtncfpmehhfdipaaGreatA15
import Derived.Test.YtncfpmehhfdipaaGreatA13
import Derived.Test.YtncfpmehhfdipaaGreatA06
set_option linter.unusedSimpArgs false
set_option linter.unusedVariables false
set_option linter.unnecessarySimpa false
namespace Go.Proofs.YtncfpmehhfdipaaGreat
open Go.IntWalk
attribute [local irreducible] au
set_option maxHeartbeats 64000000
set_option maxRecDepth 100000
theorem a8O (a e1 e2 e3:Ce) (bd:List Cm) (os:List Nat) (T:Ty) (hcs : ∀ c∈[a,e1,e2,e3],c.Ok) (p p':PSt) (shq0 sh':Shp) (b:Nat) (ts:List Nat) (hsh:shq0.ent=shq0/\shq0.chs=[]) (g:GoS shq0 sh') (y:X) (hy:y.ch=sh'.chs) (ok:Bool) (hx:Ret VP (.fn 67) [.ptr 0 0 0 0,.d (.slice (bd.map Cm.d))] (stq ⟨[a,e1,e2,e3],bd.map Cm.d,os,T,b,ts⟩ (x0 [a,e1,e2,e3]) p shq0) (.d (.bool ok)) (stq ⟨[a,e1,e2,e3],bd.map Cm.d,os,T,b,ts⟩ y p' sh')) :
 Ret VP (.fn 38) [.d (moD 0 [a,e1,e2,e3] bd os T),shq0.fnv] (shq0.lent b ts 0 p) (.d (.tuple [trD y,.int .i64 0])) (sh'.lent b ts y.tk p'):=by
 have h1:=tf
 have ca:=bI a (hcs a (by simp)) 0
 have ce1:=bI e1 (hcs e1 (by simp)) 0
 have ce2:=bI e2 (hcs e2 (by simp)) 0
 have ce3:=bI e3 (hcs e3 (by simp)) 0
 have hq:=Hd.mk hx
 clear hx
 have e:trD y = .agg [.slice (y.ch.map chD),.slice [ct y.m],.slice (y.st.map iD),.int .i64 y.en]:=rfl
 rw [e,hy]
 cases shq0 with
 | a0 c ch=>cases hsh.2
 | a1 c ch=>cases hsh.2
 | c8 c ch=>cases hsh.2
 | ta c ch=>cases hsh.2
 | tc c ch=>cases hsh.2
 | n0 =>
   dsimp only [Shp.fnv]
   refine ret_of rfl rfl (r0 ?_)
   refine Z3r ?_
   refine lhX rfl rfl rfl rfl ?_
   refine Z3r ?_
   refine lhX rfl rfl rfl rfl ?_
   refine Z3r ?_
   refine lhX rfl rfl rfl rfl ?_
   refine Z3r ?_
   refine lhX rfl rfl rfl rfl ?_
   refine Z3r ?_
   refine lhX rfl rfl rfl rfl ?_
   cases g with
   | g00 =>
     (refine Z3r ?_;(repeat first | (refine oRX hq.h rfl rfl rfl rfl rfl rfl rfl rfl ?_;refine Z3r ?_)))
     exact I0 rfl (kc (en:=y.en) rfl rfl) rfl rfl rfl
   | g0a c1 ch1 =>
     (refine Z3r ?_;(repeat first | (refine oRX hq.h rfl rfl rfl rfl rfl rfl rfl rfl ?_;refine Z3r ?_)))
     exact I0 rfl (ka (ch:=c1::ch1) (en:=y.en) rfl rfl rfl rfl) rfl rfl rfl
 | n1 =>
   dsimp only [Shp.fnv]
   refine ret_of rfl rfl (r0 ?_)
   refine Z3r ?_
   refine lhX rfl rfl rfl rfl ?_
   refine Z3r ?_
   refine lhX rfl rfl rfl rfl ?_
   refine Z3r ?_
   refine lhX rfl rfl rfl rfl ?_
   refine Z3r ?_
   refine lhX rfl rfl rfl rfl ?_
   refine Z3r ?_
   refine lhX rfl rfl rfl rfl ?_
   cases g with
   | g11 =>
     (refine Z3r ?_;(repeat first | (refine oRX hq.h rfl rfl rfl rfl rfl rfl rfl rfl ?_;refine Z3r ?_)))
     exact I0 rfl (kc (en:=y.en) rfl rfl) rfl rfl rfl
   | g1b c1 ch1 =>
     (refine Z3r ?_;(repeat first | (refine oRX hq.h rfl rfl rfl rfl rfl rfl rfl rfl ?_;refine Z3r ?_)))
     exact I0 rfl (ka (ch:=c1::ch1) (en:=y.en) rfl rfl rfl rfl) rfl rfl rfl
 | t0 =>
   dsimp only [Shp.fnv]
   refine ret_of rfl rfl (r0 ?_)
   refine Z3r ?_
   refine lhX rfl rfl rfl rfl ?_
   refine Z3r ?_
   refine lhX rfl rfl rfl rfl ?_
   refine Z3r ?_
   refine lhX rfl rfl rfl rfl ?_
   refine Z3r ?_
   refine lhX rfl rfl rfl rfl ?_
   refine Z3r ?_
   refine lhX rfl rfl rfl rfl ?_
   cases g with
   | h00 =>
     (refine Z3r ?_;(repeat first | (refine oRX hq.h rfl rfl rfl rfl rfl rfl rfl rfl ?_;refine Z3r ?_)))
     exact I0 rfl (kc (en:=y.en) rfl rfl) rfl rfl rfl
   | h0a c1 ch1 =>
     (refine Z3r ?_;(repeat first | (refine oRX hq.h rfl rfl rfl rfl rfl rfl rfl rfl ?_;refine Z3r ?_)))
     exact I0 rfl (ka (ch:=c1::ch1) (en:=y.en) rfl rfl rfl rfl) rfl rfl rfl
theorem a8N {cs:List Ce} (hc1:1<=cs.length) (hc4:cs.length<=4) (bd:List Cm) (os:List Nat) (T:Ty) (b:Nat) (ts:List Nat) {O:Orc} (K:O.OK ⟨cs,bd.map Cm.d,os,T,b,ts⟩) (hbd : ∀ c∈bd,Ok cs.length W0 4 c) (h8:bd.length<=8) (h6:(Cm.tbs bd).length<=6) (p:PSt) (shq0:Shp) (hsh:shq0.ent=shq0/\shq0.chs=[]) (hI:ShI O [] (x0 cs) p shq0) (hok:O.okp 0 (Cm.wsO cs O.q bd (x0 cs))) :
 ∃ p' sh',GoS shq0 sh'/\ShI O (Cm.wsO cs O.q bd (x0 cs)) (Cm.exsO cs O.q bd (x0 cs)).1 p' sh'/\InvX ⟨cs,bd.map Cm.d,os,T,b,ts⟩ (Cm.exsO cs O.q bd (x0 cs)).1/\(Cm.exsO cs O.q bd (x0 cs)).1.tk<=6/\(Cm.exsO cs O.q bd (x0 cs)).1.tk=(Cm.wsO cs O.q bd (x0 cs)).length /\
   Ret VP (.fn 38) [.d (moD 0 cs bd os T),shq0.fnv] (shq0.lent b ts 0 p) (.d (.tuple [trD (Cm.exsO cs O.q bd (x0 cs)).1,.int .i64 0])) (sh'.lent b ts (Cm.exsO cs O.q bd (x0 cs)).1.tk p'):=by
 obtain ⟨p',sh',g,I,hlen,hr⟩:=a8T (F:=⟨cs,bd.map Cm.d,os,T,b,ts⟩) K 4 bd hbd h8 [] (x0 cs) p shq0 ⟨nj ⟨cs,bd.map Cm.d,os,T,b,ts⟩,rfl,hI⟩ (by simpa using h6) hok hsh.1
 rw [List.nil_append] at I
 dsimp only at I hlen hr
 have hy:=I.hs.chs
 refine ⟨p',sh',g,I.hs,I.I,by rw [I.htk];exact Nat.le_trans hlen h6,I.htk,?_⟩
 generalize Cm.exsO cs O.q bd (x0 cs)=r at hr hy ⊢
 have hcs:=K.hcs
 dsimp only at hcs
 clear I hlen K hok hI
 match cs,hc1,hc4,hcs,hr with
 | [a],_,_,hcs,hr=>exact a8R a bd os T hcs p p' shq0 sh' b ts hsh g r.1 hy r.2 hr
 | [a,c],_,_,hcs,hr=>exact a8Q a c bd os T hcs p p' shq0 sh' b ts hsh g r.1 hy r.2 hr
 | [a,c,d],_,_,hcs,hr=>exact a8P a c d bd os T hcs p p' shq0 sh' b ts hsh g r.1 hy r.2 hr
 | [a,c,d,e],_,_,hcs,hr=>exact a8O a c d e bd os T hcs p p' shq0 sh' b ts hsh g r.1 hy r.2 hr
theorem a8M {cs:List Ce} (hc1:1<=cs.length) (hc4:cs.length<=4) (bd:List Cm) (os:List Nat) (T:Ty) {P:Pth} (hcs : ∀ c∈cs,c.Ok) (hP:P.length<=15) (hbd : ∀ c∈bd,Ok cs.length W0 4 c) (h8:bd.length<=8) (h6:(Cm.tbs bd).length<=6) (p:PSt) (shq0:Shp) (hsh:shq0.ent=shq0/\shq0.chs=[]) (hI:ShI (Otr P) [] (x0 cs) p shq0) (hok:PthOk P 0 (Cm.wsO cs (pkP a64 P) bd (x0 cs))) :
 ∃ p' sh',GoS shq0 sh'/\ShI (Otr P) (Cm.wsO cs (pkP a64 P) bd (x0 cs)) (Cm.exsO cs (pkP a64 P) bd (x0 cs)).1 p' sh' /\
   Ret VP (.fn 38) [.d (moD 0 cs bd os T),shq0.fnv] (shq0.lent 0 [] 0 p) (.d (.tuple [trD (Cm.exsO cs (pkP a64 P) bd (x0 cs)).1,.int .i64 0])) (sh'.lent 0 [] (Cm.exsO cs (pkP a64 P) bd (x0 cs)).1.tk p'):=by
 obtain ⟨p',sh',g,h1,_,_,_,h2⟩:=a8N hc1 hc4 bd os T 0 [] (O:=Otr P) (a8B hcs hP) hbd h8 h6 p shq0 hsh hI hok
 exact ⟨p',sh',g,h1,h2⟩
end Go.Proofs.YtncfpmehhfdipaaGreat
namespace Go.Proofs.YtncfpmehhfdipaaGreat
open Go.IntWalk
attribute [local irreducible] au
set_option maxHeartbeats 4000000
set_option maxRecDepth 100000
abbrev mdL (cs:List Ce) (bd:List Cm) (os:List Nat) (T:Ty):List D:=[.int .i64 ((0:Nat):Int),.slice (cs.map Ce.d),.slice [],.slice [],.slice (bd.map Cm.d),.slice (os.map oD),.int .i64 T.a,.int .i64 T.b,.int .i64 T.c,.int .i64 T.d,.slice T.e]
abbrev mdV (cs:List Ce) (bd:List Cm) (os:List Nat) (T:Ty):V := .d (.iptr (mdL cs bd os T) 0)
abbrev stH:aa:=lpX::a6X .nils::a6X (.d (.int .i64 0))::a6X .nils::a6X .nils::[a6X .nils]
theorem a97 {cs:List Ce} {bd:List Cm} {os:List Nat} {T:Ty} {u y:X} {ts:List X} {v v' n' j:Nat} {ps ps':List Nat} {L L':List (List Nat)} {K:List Fr} {Q:Out->Env->aa->Prop} (R:Pth)
 (hf:Ret VP (.fn 38) [.d (moD 0 cs bd os T),.func 39 [] [.ptr 0 0 0 0,.ptr 1 0 0 0,.ptr 2 0 0 0]] (pkS 0 v j ps L) (.d (.tuple [trD y,.int .i64 0])) (pkS n' v' R.length ps' L')) (hl:ts.length+1 < 20000)
 (hR:R.length<=16) (hp:R.length<=ps'.length) (hm:R.length<=L'.length) (he : ∀ (k:Nat) (x:List Nat×Nat),R[k]?=some x->ps'[k]?=some x.2/\L'[k]?=some x.1) (hsm : ∀ x∈R,x.2 < 1000)
 (hE : ∀ z l b,R[z]?=some (l,b)->a66 R=some (R.take z++[(l,b+1)])->ah VP 4 [0,1,3,4] a4Y [.yield 0,mdV cs bd os T,.ptr 4 0 0 0,.ptr 5 0 0 0] (stY u (ts++[y]) v' (z+1) (ps'.set z (b+1)) L') K Q)
 (hN:a66 R=none -> ∀ e s,fin false 4 [] .ret e s=some (.d (.tuple []),lpX::a6X .nils::a6X (.d (.int .i64 0))::a73 4 (u::(ts++[y])))->Q .ret e s) :
 ah VP 4 [0,1,3,4] a4Y [.yield 0,mdV cs bd os T,.ptr 4 0 0 0,.ptr 5 0 0 0] (stY u ts v j ps L) K Q:=by
 have hr:=a99 y u ts hl
 have e:trD y = .agg [.slice (y.ch.map chD),.slice [ct y.m],.slice (y.st.map iD),.int .i64 y.en]:=rfl
 rw [e] at hf hr
 simp only [a73] at hr
 have hq:=Hd.mk hf
 have hz:=Hd.mk hr
 clear hf hr
 have hwN:IntKind.i64.wrap ((R.length:Int) - 1)=(R.length:Int) - 1:=by rw [i64_in]<;>omega
 unfold ah
 (refine Z3r ?_;(repeat first | (refine oRX hq.h rfl rfl rfl rfl rfl rfl rfl rfl ?_;refine Z3r ?_) | (refine oYX rfl hz.h rfl rfl rfl rfl rfl rfl rfl rfl rfl ?_;refine Z3r ?_) | (refine oln rfl rfl rfl ?_;refine Z3r ?_)))
 rw [hwN]
 refine hdX rfl rfl rfl rfl ?_
 refine a7O (u:=u) (ts:=ts++[y]) R hR hp hm he hsm (fun z l b h1 h2 en a0 a1 a2 a3 => ?_) (fun h1 en a0 a1 a2 a3 => ?_) R.length (Nat.le_refl _) (by rw [List.take_length])
 · refine Z3r ?_
   refine hdX (vs0:=[.yield 0,mdV cs bd os T,.ptr 4 0 0 0,.ptr 5 0 0 0]) (by rw [cX];simp only [List.map_cons,List.map_nil,a0,a1,a2,a3]) rfl rfl rfl ?_
   exact hE z l b h1 h2
 · refine Z3r ?_
   refine hN h1 _ _ ?_
   exact kG (xs:=[]) rfl rfl rfl rfl
theorem a98 {cs:List Ce} {bd:List Cm} {os:List Nat} {T:Ty} {y:X} {v' n':Nat} {ps':List Nat} {L':List (List Nat)} {K:List Fr} {Q:Out->Env->aa->Prop} (R:Pth)
 (hf:Ret VP (.fn 38) [.d (moD 0 cs bd os T),.func 39 [] [.ptr 0 0 0 0,.ptr 1 0 0 0,.ptr 2 0 0 0]] [a6X (.d (.int .i64 ((0:Nat):Int))),a6X .nils,a6X .nils] (.d (.tuple [trD y,.int .i64 0])) (pkS n' v' R.length ps' L'))
 (hR:R.length<=16) (hp:R.length<=ps'.length) (hm:R.length<=L'.length) (he : ∀ (k:Nat) (x:List Nat×Nat),R[k]?=some x->ps'[k]?=some x.2/\L'[k]?=some x.1) (hsm : ∀ x∈R,x.2 < 1000)
 (hE : ∀ z l b,R[z]?=some (l,b)->a66 R=some (R.take z++[(l,b+1)])->ah VP 4 [0,1,3,4] a4Y [.yield 0,mdV cs bd os T,.ptr 4 0 0 0,.ptr 5 0 0 0] (stY y [] v' (z+1) (ps'.set z (b+1)) L') K Q)
 (hN:a66 R=none -> ∀ e s,fin false 4 [] .ret e s=some (.d (.tuple []),lpX::a6X .nils::a6X (.d (.int .i64 0))::a73 4 [y])->Q .ret e s) :
 ah VP 4 [0,1,3,4] a4Y [.yield 0,mdV cs bd os T,.ptr 4 0 0 0,.ptr 5 0 0 0] stH K Q:=by
 have hr:=a88 y
 have e:trD y = .agg [.slice (y.ch.map chD),.slice [ct y.m],.slice (y.st.map iD),.int .i64 y.en]:=rfl
 rw [e] at hf hr
 simp only [a73] at hr
 have hq:=Hd.mk hf
 have hz:=Hd.mk hr
 clear hf hr
 have hwN:IntKind.i64.wrap ((R.length:Int) - 1)=(R.length:Int) - 1:=by rw [i64_in]<;>omega
 unfold ah
 (refine Z3r ?_;(repeat first | (refine oRX hq.h rfl rfl rfl rfl rfl rfl rfl rfl ?_;refine Z3r ?_) | (refine oYX rfl hz.h rfl rfl rfl rfl rfl rfl rfl rfl rfl ?_;refine Z3r ?_) | (refine oln rfl rfl rfl ?_;refine Z3r ?_)))
 rw [hwN]
 refine hdX rfl rfl rfl rfl ?_
 refine a7O (u:=y) (ts:=[]) R hR hp hm he hsm (fun z l b h1 h2 en a0 a1 a2 a3 => ?_) (fun h1 en a0 a1 a2 a3 => ?_) R.length (Nat.le_refl _) (by rw [List.take_length])
 · refine Z3r ?_
   refine hdX (vs0:=[.yield 0,mdV cs bd os T,.ptr 4 0 0 0,.ptr 5 0 0 0]) (by rw [cX];simp only [List.map_cons,List.map_nil,a0,a1,a2,a3]) rfl rfl rfl ?_
   exact hE z l b h1 h2
 · refine Z3r ?_
   refine hN h1 _ _ ?_
   exact kG (xs:=[]) rfl rfl rfl rfl
theorem a96 {cs:List Ce} {bd:List Cm} {os:List Nat} {T:Ty} {y:X} {K:List Fr} {Q:Out->Env->aa->Prop}
 (hf:Ret VP (.fn 38) [.d (moD 0 cs bd os T),.func 39 [] [.ptr 0 0 0 0,.ptr 1 0 0 0,.ptr 2 0 0 0]] [a6X (.d (.int .i64 ((0:Nat):Int))),a6X .nils,a6X .nils] (.d (.tuple [trD y,.int .i64 0])) [a6X (.d (.int .i64 ((0:Nat):Int))),a6X .nils,a6X .nils])
 (hN : ∀ e s,fin false 4 [] .ret e s=some (.d (.tuple []),lpX::a6X .nils::a6X (.d (.int .i64 0))::a73 4 [y])->Q .ret e s) :
 ah VP 4 [0,1,3,4] a4Y [.yield 0,mdV cs bd os T,.ptr 4 0 0 0,.ptr 5 0 0 0] stH K Q:=by
 have hr:=a88 y
 have e:trD y = .agg [.slice (y.ch.map chD),.slice [ct y.m],.slice (y.st.map iD),.int .i64 y.en]:=rfl
 rw [e] at hf hr
 simp only [a73] at hr
 have hq:=Hd.mk hf
 have hz:=Hd.mk hr
 clear hf hr
 unfold ah
 (refine Z3r ?_;(repeat first | (refine oRX hq.h rfl rfl rfl rfl rfl rfl rfl rfl ?_;refine Z3r ?_) | (refine oYX rfl hz.h rfl rfl rfl rfl rfl rfl rfl rfl rfl ?_;refine Z3r ?_)))
 refine hdX rfl rfl rfl rfl ?_
 unfold ah
 refine Z3r ?_
 refine hN _ _ ?_
 exact kG (xs:=[]) rfl rfl rfl rfl
theorem rgX {p:bh} {k:Nat} {f:Opd} {live params:List Nat} {assign body:VCode} {e:Env} {s s1 s2 s3:aa} {K:List Fr} {Q:Out->Env->aa->Prop} {g:Nat} {xa xb as as':List V} {fz ids:List Nat} {r0:V} {bs bs0:aa} {st:Nat} {j:Jump} {env':List (Nat×V)} {ps':List Nat} {a' b':VCode} {G:(Nat->Option Nat)->aa} [hGq0:ZRs bs G]
 (ht:target (ev e f)=some (.fn g,xa,xb)) (hret:Ret p (.fn g) as' bs0 r0 bs) (hs1:jv (s++[some (.loop 0 .none (lives e live) params assign body)]) some=some s1) (hc:ai s1 (al p g) (xa++[.yield s.length]++xb)=some (as,fz)) (hi:cL (aM s1 (aA s1) (aN (.fn g)++refsL as) []) some=some ids) (hd:(ids.all fun i => !fz.contains i)=true)
 (has:cg (renL (pos ids) as) some=some as') (hbs:dF (pack s1 ids (pos ids)) some=some bs0) (hl:(decide (ids.length<=bs.length)&&gT (bs.take ids.length))=true)
 (hs:fF (l9 ids (G (am ids bs s1.length)) (if bg ids bs r0 then s1 else aq s1 fz)++(G (am ids bs s1.length)).drop ids.length) some=some s2) (hg:getB s2 s.length=some (.loop st j env' ps' a' b')) (hst:(st==1)=false) (h3:fF (setB s2 s.length (.loop 3 j env' ps' a' b')) some=some s3)
 (h:bl p k K Q (vZ j) e s3):Run p k (.rangeFunc f live params assign body) e s (bl p k K Q):=by
 rw [ce] at hs h3
 exact rg ht hret hs1 hc hi hd has hbs hl (by rw [eh,gv];exact hs) hg hst (by rw [eh];exact h3) h
structure MOK (cs:List Ce) (bd:List Cm):Prop where
 hcs : ∀ c∈cs,c.Ok
 h1:1<=cs.length
 h4:cs.length<=4
 hbd : ∀ c∈bd,Ok cs.length W0 4 c
 h8:bd.length<=8
 h6:(Cm.tbs bd).length<=6
theorem SC {cs:List Ce} {bd:List Cm} (M:MOK cs bd) {P:Pth} (hP:(GC cs bd).has a64 P):P.length<=(Cm.wsO cs (pkP a64 P) bd (x0 cs)).length/\PthOk P 0 (Cm.wsO cs (pkP a64 P) bd (x0 cs))/\(∀ x∈full a64 P (Cm.wsO cs (pkP a64 P) bd (x0 cs)),x.2 < 1000) /\
 (GC cs bd).rest a64 P=(Cm.exsO cs (pkP a64 P) bd (x0 cs)).1::(match a66 (full a64 P (Cm.wsO cs (pkP a64 P) bd (x0 cs))) with | none=>[] | some Q=>(GC cs bd).rest a64 Q)/\(∀ Q,a66 (full a64 P (Cm.wsO cs (pkP a64 P) bd (x0 cs)))=some Q->(GC cs bd).has a64 Q):=by
 obtain ⟨F1q0,F2q0,F3q0⟩:=GN cs M.hbd M.h6
 have h1:=a7N a64 (GC cs bd) P 0 (pkP a64 P) hP (fun j w=>by rw [Nat.zero_add])
 have h2:=a65 a64 (GC cs bd) P 0 (pkP a64 P) F1q0 hP (fun j w=>by rw [Nat.zero_add])
 have h3:=a71 (pkP a64 P) (GC cs bd) 0 F2q0
 rw [(Iy cs bd (pkP a64 P)).1,(Iy cs bd (pkP a64 P)).2] at h2
 rw [(Iy cs bd (pkP a64 P)).2] at h1 h3
 refine ⟨h1.1,fun j w hj l i hq=>h1.2 j w hj l i (by rwa [Nat.zero_add] at hq),?_,h2⟩
 intro x hx
 unfold full at hx
 rcases List.mem_append.1 hx with hx | hx
 · obtain ⟨k,hk,rfl⟩:=List.getElem_of_mem hx
   have hk2:k < (Cm.wsO cs (pkP a64 P) bd (x0 cs)).length:=Nat.lt_of_lt_of_le hk h1.1
   obtain ⟨e1,e2⟩:=h1.2 k _ (List.getElem?_eq_getElem hk2) P[k].1 P[k].2 (by rw [List.getElem?_eq_getElem hk])
   have:=a74 (h3 _ (List.getElem_mem hk2))
   rw [e1] at e2
   omega
 · obtain ⟨w,_,rfl⟩:=List.mem_map.1 hx
   show 0 < 1000
   omega
theorem a70 {R:Pth} {ps:List Nat} {L:List (List Nat)} {v z b:Nat} {l:List Nat} (hp:R.length<=ps.length) (hm:R.length<=L.length) (he : ∀ (k:Nat) (x:List Nat×Nat),R[k]?=some x->ps[k]?=some x.2/\L[k]?=some x.1) (hz:R[z]?=some (l,b)):PInv (R.take z++[(l,b+1)]) [] 0 v (z+1) (ps.set z (b+1)) L:=by
 have hzR:z < R.length:=(List.getElem?_eq_some_iff.1 hz).1
 have hf:full a64 (R.take z++[(l,b+1)]) []=R.take z++[(l,b+1)]:=by simp [full]
 have hlt:(R.take z).length=z:=by rw [List.length_take];omega
 refine ⟨rfl,by rw [hf];simp;omega,by rw [List.length_set];omega,by omega,fun k x hk => ?_⟩
 rw [hf] at hk
 by_cases hkz:k < z
 · rw [List.getElem?_append_left (by omega),List.getElem?_take,if_pos hkz] at hk
   rw [List.getElem?_set_ne (by omega)]
   exact he k x hk
 · have hkz2:k=z:=by
    have:=(List.getElem?_eq_some_iff.1 hk).1
    rw [List.length_append,hlt] at this
    simp at this;omega
   subst hkz2
   rw [List.getElem?_append_right (by omega),hlt,Nat.sub_self] at hk
   simp at hk
   subst hk
   exact ⟨List.getElem?_set_self (by omega),(he _ _ hz).2⟩
theorem a8G {cs:List Ce} {bd:List Cm} {os:List Nat} {T:Ty} (M:MOK cs bd) {u:X} {A:List X} (hA:A.length < 2000) {K:List Fr} {Q:Out->Env->aa->Prop} (hQ : ∀ e s,fin false 4 [] .ret e s=some (.d (.tuple []),lpX::a6X .nils::a6X (.d (.int .i64 0))::a73 4 (u::A))->Q .ret e s) :
 ∀ (N:Nat) (P:Pth) (ts:List X) (v j:Nat) (ps:List Nat) (L:List (List Nat)),((GC cs bd).rest a64 P).length<=N->ts++(GC cs bd).rest a64 P=A->(GC cs bd).has a64 P->P.length<=6->PInv P [] 0 v j ps L ->
   ah VP 4 [0,1,3,4] a4Y [.yield 0,mdV cs bd os T,.ptr 4 0 0 0,.ptr 5 0 0 0] (stY u ts v j ps L) K Q:=by
 intro N
 induction N with
 | zero =>
   intro P ts v j ps L hN hts hP
   rw [(SC M hP).2.2.2.1] at hN
   simp at hN
 | succ N ih =>
   intro P ts v j ps L hN hts hP h6 I
   obtain ⟨r1,r2,r3,r4,r5⟩:=SC M hP
   obtain ⟨p',sh',g,hs,hf⟩:=a8M M.h1 M.h4 bd os T M.hcs (by omega) M.hbd M.h8 M.h6 ⟨0,v,j,ps,L⟩ .n1 ⟨rfl,rfl⟩ ⟨I,rfl⟩ r2
   obtain ⟨I',hf⟩:PInv P (Cm.wsO cs (pkP a64 P) bd (x0 cs)) p'.n p'.v p'.j p'.ps p'.L/\Ret VP (.fn 38) [.d (moD 0 cs bd os T),.func 39 [] [.ptr 0 0 0 0,.ptr 1 0 0 0,.ptr 2 0 0 0]] (pkS 0 v j ps L) (.d (.tuple [trD (Cm.exsO cs (pkP a64 P) bd (x0 cs)).1,.int .i64 0])) (pkS p'.n p'.v p'.j p'.ps p'.L):=by
    cases g with
    | g11=>exact ⟨hs.1,hf⟩
    | g1b c ch=>exact ⟨hs.1,hf⟩
   have hw6:=Nat.le_trans (a7L (pkP a64 P) cs bd M.hbd (x0 cs)) M.h6
   have hRl:=SN P (Cm.wsO cs (pkP a64 P) bd (x0 cs))
   have hj:=I'.hj
   have hpp:=I'.hp
   have hLL:=I'.hL
   have hee:=I'.he
   rw [hj] at hf hpp hLL
   rw [r4] at hN hts
   have htl:ts.length < 2000:=by rw [<- hts] at hA;simp at hA;omega
   generalize Cm.exsO cs (pkP a64 P) bd (x0 cs)=r at hf r4 hN hts
   generalize full a64 P (Cm.wsO cs (pkP a64 P) bd (x0 cs))=R at *
   refine a97 R hf (by omega) (by omega) hpp hLL hee r3 (fun z l b h1 h2 => ?_) (fun h1 => ?_)
   · rw [h2] at hN hts
     have hzR:z < R.length:=(List.getElem?_eq_some_iff.1 h1).1
     refine ih (R.take z++[(l,b+1)]) (ts++[r.1]) p'.v (z+1) _ p'.L (by simpa using hN) (by simpa using hts) (r5 _ h2) (by simp;omega) (a70 hpp hLL hee h1)
   · rw [h1] at hts
     dsimp only at hts
     rw [hts]
     exact hQ
theorem a9J {cs:List Ce} {bd:List Cm} {os:List Nat} {T:Ty} (M:MOK cs bd) : ∃ u A,(GC cs bd).enum a64=u::A/\Ret VP (.fn 37) [.yield 0,mdV cs bd os T] (lpX::a6X .nils::a6X (.d (.int .i64 0))::[a6X .nils]) (.d (.tuple [])) (lpX::a6X .nils::a6X (.d (.int .i64 0))::a73 4 (u::A)):=by
 have hP:(GC cs bd).has a64 []:=by
  cases h:GC cs bd<;>trivial
 have hE:=(GN cs M.hbd M.h6).2.2
 rw [<- a63] at hE ⊢
 obtain ⟨r1,r2,r3,r4,r5⟩:=SC M hP
 obtain ⟨p',sh',g,hs,hf⟩:=a8M M.h1 M.h4 bd os T M.hcs (by simp) M.hbd M.h8 M.h6 ⟨0,0,0,[],[]⟩ .n0 ⟨rfl,rfl⟩ ⟨⟨rfl,rfl,rfl⟩,rfl⟩ r2
 have hw6:=Nat.le_trans (a7L (pkP a64 []) cs bd M.hbd (x0 cs)) M.h6
 have hRl:=SN [] (Cm.wsO cs (pkP a64 []) bd (x0 cs))
 rw [r4] at hE ⊢
 refine ⟨_,_,rfl,?_⟩
 have hrun:Run VP 4 f37.body (cE 0 [.yield 0,mdV cs bd os T]) (lpX::a6X .nils::a6X (.d (.int .i64 0))::[a6X .nils]) (fun o e s=>fin f37.keep 4 f37.res o e s=some (.d (.tuple []),lpX::a6X .nils::a6X (.d (.int .i64 0))::a73 4 ((Cm.exsO cs (pkP a64 []) bd (x0 cs)).1::(match a66 (full a64 [] (Cm.wsO cs (pkP a64 []) bd (x0 cs))) with | none=>[] | some Q=>(GC cs bd).rest a64 Q)))):=by
  refine r0 ?_
  refine Z3r ?_
  refine hdX rfl rfl rfl rfl ?_
  generalize Cm.exsO cs (pkP a64 []) bd (x0 cs)=r at hf hE ⊢
  cases g with
  | g00 =>
    obtain ⟨⟨_,hw,hn⟩,_⟩:=hs
    have e1:Shp.lent 0 [] r.1.tk p' .n0=[a6X (.d (.int .i64 ((0:Nat):Int))),a6X .nils,a6X .nils]:=by simp only [Shp.lent,hn]
    rw [e1] at hf
    rw [hw]
    exact a96 hf (fun e s h=>h)
  | g0a c ch =>
    have I':PInv [] (Cm.wsO cs (pkP a64 []) bd (x0 cs)) p'.n p'.v p'.j p'.ps p'.L:=hs.1
    have hf':Ret VP (.fn 38) [.d (moD 0 cs bd os T),.func 39 [] [.ptr 0 0 0 0,.ptr 1 0 0 0,.ptr 2 0 0 0]] [a6X (.d (.int .i64 ((0:Nat):Int))),a6X .nils,a6X .nils] (.d (.tuple [trD r.1,.int .i64 0])) (pkS p'.n p'.v p'.j p'.ps p'.L):=hf
    have hj:=I'.hj
    have hpp:=I'.hp
    have hLL:=I'.hL
    have hee:=I'.he
    rw [hj] at hf' hpp hLL
    generalize full a64 [] (Cm.wsO cs (pkP a64 []) bd (x0 cs))=R at *
    simp only [List.length_nil,Nat.max_def] at hRl
    have hR6:R.length<=6:=by split at hRl<;>omega
    refine a98 R hf' (by omega) hpp hLL hee r3 (fun z l b h1 h2 => ?_) (fun h1 => ?_)
    · rw [h2] at hE ⊢
      have hzR:z < R.length:=(List.getElem?_eq_some_iff.1 h1).1
      simp only [List.length_cons] at hE
      exact a8G M (A:=(GC cs bd).rest a64 (R.take z++[(l,b+1)])) (by omega) (fun e s h=>h) _ (R.take z++[(l,b+1)]) [] p'.v (z+1) _ p'.L (Nat.le_refl _) rfl (r5 _ h2) (by simp;omega) (a70 hpp hLL hee h1)
    · rw [h1]
      exact fun e s h=>h
 exact ret_of rfl rfl hrun
theorem a84 (l:List X):(l.map trD).all bJ=true:=by
 induction l with
 | nil=>rfl
 | cons c l ih=>rw [List.map_cons,List.all_cons,ih];rfl
theorem a7Q {s:aa} {b v k:Nat} {es:List D} (h:getB s b=some (.rows v false 4 (ao es))) (hk:k=es.length) (ho:es.all bJ=true):toD s bB (.tuple [.ms b v 0 k,.d (.int .i64 0)])=some (.tuple [.slice es,.int .i64 0],[b]):=by
 have h2:toD s 29 (.ms b v 0 k)=some (.slice es,[b]):=jr (n:=27) h hk ho
 show (aC (toD s 29) [.ms b v 0 k,.d (.int .i64 0)]).map (fun (es,a)=>(D.tuple es,a))=_
 simp only [aC,h2]
 rfl
theorem a9G {cs:List Ce} {bd:List Cm} {os:List Nat} {T:Ty} (M:MOK cs bd) (hen:Ret VP (.fn 16) [.d (moD 0 cs bd os T)] [] (.d (.int .i64 0)) []) :
 Ret VP (.fn 4) [.d (moD 0 cs bd os T)] [] (.d (.tuple [.slice (((GC cs bd).enum a64).map trD),.int .i64 0])) []:=by
 obtain ⟨u,A,e,h37⟩:=a9J (os:=os) (T:=T) M
 rw [e]
 have htr:Ret VP (.fn 17) [.d (moD 0 cs bd os T)] [] (.d (.func 37 [] [.iptr (mdL cs bd os T) 0])) []:=by
  unfold moD
  refine ret_of rfl rfl (r0 ?_)
  refine Z2 ?_
  rfl
 unfold moD at hen htr ⊢
 simp only [a73] at h37
 refine ret_of rfl rfl (r0 ?_)
 have hq:=Hd.mk h37
 clear h37
 (refine Z3r ?_;(repeat first | (refine rgX rfl hq.h rfl rfl rfl rfl rfl rfl rfl rfl rfl rfl rfl ?_;refine Z3r ?_)))
 exact ez (x := .tuple [.slice ((u::A).map trD),.int .i64 0]) (xs:=[.ms 5 A.length 0 (A.length+1),.d (.int .i64 0)]) rfl (a7Q (es:=(u::A).map trD) rfl (by simp) (a84 _)) rfl rfl rfl
def sb (L:List Int) (a s:Nat):Option Blk:=some (.rows 0 false 3 [[.d (.slice (L.map iD)),.d (.int .i64 a),.d (.int .i64 s)]])
theorem vW (L:List Int) (hl:L.length<=1000) (a s:Nat) (ha:a<=L.length) : ∃ (x:Int) (b:Nat),b<=L.length/\Ret VP (.fn 25) [.ptr 0 0 0 0] [sb L a s] (.d (.int .i64 x)) [sb L b s]:=by
 by_cases hc:a=L.length
 · refine ⟨0,a,ha,?_⟩
   have t:((a:Int)>=(((L.map iD).length:Nat):Int)):=by rw [List.length_map];omega
   unfold sb
   refine ret_of rfl rfl (r0 ?_)
   (have hz1:=decide_eq_true t;refine Z2 ?_)
   rfl
 · refine ⟨L[a]'(by omega),a+1,by omega,?_⟩
   have t:¬ ((a:Int)>=(((L.map iD).length:Nat):Int)):=by rw [List.length_map];omega
   have hw:=ac a (by omega)
   have hw2:IntKind.i64.wrap (((a+1:Nat):Int) - 1)=(a:Int):=by rw [i64_in]<;>omega
   have hg:(L.map iD)[a]?=some (iD (L[a]'(by omega))):=by rw [List.getElem?_map,List.getElem?_eq_getElem (by omega)];rfl
   unfold sb
   refine ret_of rfl rfl (r0 ?_)
   (have hz2:=decide_eq_false t;refine Z1 ?_)
   rw [hw]
   (have hz3:=decide_eq_false t;refine Z1 ?_)
   rw [hw2]
   refine Z1 ?_
   rfl
theorem bO (L:List Int) (hl:L.length<=1000) (n:Nat) (hn:1<=n) (hn2:n<=1000) (a s:Nat) (ha:a<=L.length) : ∃ (x b:Nat),x < n/\b<=L.length/\Ret VP (.fn 12) [.ptr 0 0 0 0,.d (.int .i64 n)] [sb L a s] (.d (.int .i64 x)) [sb L b s]:=by
 obtain ⟨x,b,hb,hr⟩:=vW L hl a s ha
 have t:¬ (n:Int) < 1:=by omega
 have n0:(n:Int)≠0:=by omega
 have l1:Int.tmod x n < n:=Int.tmod_lt_of_pos _ (by omega)
 have l2 : -(n:Int) < Int.tmod x n:=by
  have h3:Int.tmod (-x) n < n:=Int.tmod_lt_of_pos _ (by omega)
  rw [Int.neg_tmod] at h3
  omega
 unfold sb at hr ⊢
 by_cases h:Int.tmod x n < 0
 · refine ⟨(Int.tmod x n+n).toNat,b,by omega,hb,?_⟩
   have hw:IntKind.i64.wrap (Int.tmod x n+n)=((Int.tmod x n+n).toNat:Int):=by rw [i64_in]<;>omega
   refine ret_of rfl rfl (r0 ?_)
   (have hz4:=decide_eq_false t;have hz5:=decide_eq_true h;refine Z2 ?_)
   exact fe rfl (dI hw) rfl
 · refine ⟨(Int.tmod x n).toNat,b,by omega,hb,?_⟩
   have hw:Int.tmod x n=((Int.tmod x n).toNat:Int):=by omega
   refine ret_of rfl rfl (r0 ?_)
   (have hz6:=decide_eq_false t;have hz7:=decide_eq_false h;refine Z2 ?_)
   exact fe rfl (dI hw) rfl
theorem aT (L:List Int) (hl:L.length<=1000) (lo hi:Int) (n:Nat) (hn:hi - lo+1=n) (hn1:1<=n) (hn2:n<=1000) (h1 : -1000<=lo) (h2:hi<=1000) (a s:Nat) (ha:a<=L.length) : ∃ (x b:Nat),x < n/\b<=L.length/\Ret VP (.fn 8) [.ptr 0 0 0 0,.d (.int .i64 lo),.d (.int .i64 hi)] [sb L a s] (.d (.int .i64 (lo+x))) [sb L b s]:=by
 obtain ⟨x,b,hx,hb,hr⟩:=bO L hl n hn1 hn2 a s ha
 refine ⟨x,b,hx,hb,?_⟩
 have hw:IntKind.i64.wrap (IntKind.i64.wrap (hi - lo)+1)=(n:Int):=by
  have e1:IntKind.i64.wrap (hi - lo)=hi - lo:=by rw [i64_in]<;>omega
  rw [e1,i64_in]<;>omega
 rw [<- hw] at hr
 unfold sb at hr ⊢
 refine ret_of rfl rfl (r0 ?_)
 refine Z2 ?_
 refine fe rfl (dI ?_) rfl
 rw [i64_in]<;>omega
theorem iF (L:List Int) (hl:L.length<=1000) (l:List Int) (h0:1<=l.length) (h1:l.length<=1000) (a s:Nat) (ha:a<=L.length) : ∃ (x:Int) (b:Nat),x∈l/\b<=L.length/\Ret VP (.fn 26) [.ptr 0 0 0 0,.d (.slice (l.map iD))] [sb L a s] (.d (.int .i64 x)) [sb L b s]:=by
 obtain ⟨x,b,hx,hb,hr⟩:=bO L hl l.length h0 h1 a s ha
 refine ⟨l[x],b,List.getElem_mem hx,hb,?_⟩
 rw [<- List.length_map (f:=iD)] at hr
 have hg:(l.map iD)[x]?=some (iD l[x]):=by rw [List.getElem?_map,List.getElem?_eq_getElem hx];rfl
 unfold sb at hr ⊢
 refine ret_of rfl rfl (r0 ?_)
 refine Z2 ?_
 rfl
def aO (n:Nat):List Int:=(List.range n).map fun (i:Nat)=>(i:Int)
theorem j9 (n:Nat) (h1:1<=n) (h4:n<=4):Ret VP (.fn 14) [.d (.int .i64 n)] [] (.d (.slice ((aO n).map iD))) []:=by
 rcases (by omega:n=1\/n=2\/n=3\/n=4) with rfl | rfl | rfl | rfl
 all_goals (refine ret_of rfl rfl (r0 ?_);refine Z2 ?_;rfl)
theorem nn {n:Nat} {x:Int} (h:x∈aO n) : ∃ v:Nat,v < n/\x=v:=by
 obtain ⟨v,hv,rfl⟩:=List.mem_map.1 h
 exact ⟨v,List.mem_range.1 hv,rfl⟩
def si (L:List Int) (n d z:Nat):Prop := ∀ a s:Nat,a<=L.length -> ∃ (f:Fo) (b:Nat),FOk n f/\f.dp<=d/\f.sz<=z/\b<=L.length/\Ret VP (.fn 13) [.ptr 0 0 0 0,.d (.slice ((aO n).map iD)),.d (.int .i64 d)] [sb L a s] (.d f.d) [sb L b s]
theorem eF (n:Nat):(aO n).length=n:=by simp [aO]
theorem abA (L:List Int) (hl:L.length<=1000) (n:Nat) (h1:1<=n) (h4:n<=4):si L n 1 1:=by
 intro a s ha
 obtain ⟨k0,b0,hk0,hb0,r0'⟩:=bO L hl 14 (by omega) (by omega) a s ha
 obtain ⟨k,b1,hk,hb1,r1⟩:=bO L hl 4 (by omega) (by omega) b0 s hb0
 by_cases h0:k=0
 · subst h0
   obtain ⟨x,b2,hx,hb2,r2⟩:=aT L hl (-1) 3 5 (by omega) (by omega) (by omega) (by omega) (by omega) b1 s hb1
   refine ⟨.int (-1+x),b2,⟨by omega,by omega⟩,by simp [Fo.dp],by simp [Fo.sz],hb2,?_⟩
   unfold sb at r0' r1 r2 ⊢
   refine ret_of rfl rfl (r0 ?_)
   refine Z2 ?_
   rfl
 · obtain ⟨x,b2,hx,hb2,r2⟩:=iF L hl (aO n) (by rw [eF];omega) (by rw [eF];omega) b1 s hb1
   obtain ⟨v,hv,rfl⟩:=nn hx
   refine ⟨.var v,b2,hv,by simp [Fo.dp],by simp [Fo.sz],hb2,?_⟩
   have t1:((k:Int)==0)=false:=by simp;omega
   have t2:(k:Int) < 4:=by omega
   have t3:(((((aO n).map iD).length:Nat):Int)==0)=false:=by rw [List.length_map,eF];simp;omega
   unfold sb at r0' r1 r2 ⊢
   refine ret_of rfl rfl (r0 ?_)
   (have hz8:=decide_eq_true t2;refine Z2 ?_)
   rfl
theorem IW (L:List Int) (hl:L.length<=1000) (n:Nat) (h1:1<=n) (h4:n<=4) (d z:Nat) (hd:1<=d) (hd2:d<=10) (ih:si L n d z):si L n (d+1) (3*z+1):=by
 intro a s ha
 obtain ⟨k,b1,hk,hb1,r1⟩:=bO L hl 14 (by omega) (by omega) a s ha
 have td:¬ ((d+1:Nat):Int)<=1:=by omega
 have hwd:IntKind.i64.wrap (((d+1:Nat):Int) - 1)=(d:Int):=by rw [i64_in]<;>omega
 by_cases h0:k=0
 · subst h0
   obtain ⟨x,b2,hx,hb2,r2⟩:=aT L hl (-1) 3 5 (by omega) (by omega) (by omega) (by omega) (by omega) b1 s hb1
   refine ⟨.int (-1+x),b2,⟨by omega,by omega⟩,by simp [Fo.dp],by simp [Fo.sz],hb2,?_⟩
   unfold sb at r1 r2 ⊢
   refine ret_of rfl rfl (r0 ?_)
   (have hz9:=decide_eq_false td;refine Z2 ?_)
   rfl
 by_cases h3:k < 4
 · obtain ⟨x,b2,hx,hb2,r2⟩:=iF L hl (aO n) (by rw [eF];omega) (by rw [eF];omega) b1 s hb1
   obtain ⟨v,hv,rfl⟩:=nn hx
   refine ⟨.var v,b2,hv,by simp [Fo.dp],by simp [Fo.sz],hb2,?_⟩
   have t1:((k:Int)==0)=false:=by simp;omega
   have t2:(k:Int) < 4:=by omega
   have t3:(((((aO n).map iD).length:Nat):Int)==0)=false:=by rw [List.length_map,eF];simp;omega
   unfold sb at r1 r2 ⊢
   refine ret_of rfl rfl (r0 ?_)
   (have hz10:=decide_eq_true t2;have hz11:=decide_eq_false td;refine Z2 ?_)
   rfl
 obtain ⟨f1,b2,o1,d1,z1,hb2,r2⟩:=ih b1 s hb1
 obtain ⟨f2,b3,o2,d2,z2,hb3,r3⟩:=ih b2 s hb2
 obtain ⟨f3,b4,o3,d3,z3,hb4,r4⟩:=ih b3 s hb3
 rw [<- hwd] at r2 r3 r4
 unfold sb at r1 r2 r3 r4 ⊢
 rcases (by omega:k=4\/k=5\/k=6\/k=7\/k=8\/k=9\/k=10\/k=11\/k=12\/k=13) with rfl | rfl | rfl | rfl | rfl | rfl | rfl | rfl | rfl | rfl
 · refine ⟨.no f1,b2,o1,by simp [Fo.dp];omega,by simp [Fo.sz];omega,hb2,?_⟩
   refine ret_of rfl rfl (r0 ?_)
   (have hz12:=decide_eq_false td;refine Z2 ?_)
   rfl
 · refine ⟨.cond f1 f2 f3,b4,⟨o1,o2,o3⟩,by simp [Fo.dp];omega,by simp [Fo.sz];omega,hb4,?_⟩
   refine ret_of rfl rfl (r0 ?_)
   (have hz13:=decide_eq_false td;refine Z2 ?_)
   rfl
 · refine ⟨.bin 5 f1 f2,b3,⟨by omega,o1,o2⟩,by simp [Fo.dp];omega,by simp [Fo.sz];omega,hb3,?_⟩
   refine ret_of rfl rfl (r0 ?_)
   (have hz14:=decide_eq_false td;refine Z2 ?_)
   rfl
 · refine ⟨.bin 6 f1 f2,b3,⟨by omega,o1,o2⟩,by simp [Fo.dp];omega,by simp [Fo.sz];omega,hb3,?_⟩
   refine ret_of rfl rfl (r0 ?_)
   (have hz15:=decide_eq_false td;refine Z2 ?_)
   rfl
 · refine ⟨.bin 7 f1 f2,b3,⟨by omega,o1,o2⟩,by simp [Fo.dp];omega,by simp [Fo.sz];omega,hb3,?_⟩
   refine ret_of rfl rfl (r0 ?_)
   (have hz16:=decide_eq_false td;refine Z2 ?_)
   rfl
 · refine ⟨.bin 8 f1 f2,b3,⟨by omega,o1,o2⟩,by simp [Fo.dp];omega,by simp [Fo.sz];omega,hb3,?_⟩
   refine ret_of rfl rfl (r0 ?_)
   (have hz17:=decide_eq_false td;refine Z2 ?_)
   rfl
 · refine ⟨.bin 9 f1 f2,b3,⟨by omega,o1,o2⟩,by simp [Fo.dp];omega,by simp [Fo.sz];omega,hb3,?_⟩
   refine ret_of rfl rfl (r0 ?_)
   (have hz18:=decide_eq_false td;refine Z2 ?_)
   rfl
 · refine ⟨.bin 10 f1 f2,b3,⟨by omega,o1,o2⟩,by simp [Fo.dp];omega,by simp [Fo.sz];omega,hb3,?_⟩
   refine ret_of rfl rfl (r0 ?_)
   (have hz19:=decide_eq_false td;refine Z2 ?_)
   rfl
 · refine ⟨.bin 11 f1 f2,b3,⟨by omega,o1,o2⟩,by simp [Fo.dp];omega,by simp [Fo.sz];omega,hb3,?_⟩
   refine ret_of rfl rfl (r0 ?_)
   (have hz20:=decide_eq_false td;refine Z2 ?_)
   rfl
 · refine ⟨.bin 12 f1 f2,b3,⟨by omega,o1,o2⟩,by simp [Fo.dp];omega,by simp [Fo.sz];omega,hb3,?_⟩
   refine ret_of rfl rfl (r0 ?_)
   (have hz21:=decide_eq_false td;refine Z2 ?_)
   rfl
theorem wT (L:List Int) (hl:L.length<=1000) (n:Nat) (h1:1<=n) (h4:n<=4):si L n 2 4:=IW L hl n h1 h4 1 1 (by omega) (by omega) (abA L hl n h1 h4)
theorem wS (L:List Int) (hl:L.length<=1000) (n:Nat) (h1:1<=n) (h4:n<=4):si L n 3 13:=IW L hl n h1 h4 2 4 (by omega) (by omega) (wT L hl n h1 h4)
def chs:List D:=[uZ,(lit 1 1),(lit 1 2),(lit 1 3),(lit 2 3),(lit 1 4),(lit 3 4),(lit 1 5),(lit 2 5),(lit 3 5),(lit 4 5)]
theorem pL (L:List Int) (hl:L.length<=1000) (a s:Nat) (ha:a<=L.length) : ∃ (r:D) (b:Nat),r∈chs/\b<=L.length/\Ret VP (.fn 76) [.ptr 0 0 0 0] [sb L a s] (.d r) [sb L b s]:=by
 obtain ⟨x,b1,hx,hb1,r1⟩:=aT L hl 1 5 5 (by omega) (by omega) (by omega) (by omega) (by omega) a s ha
 rcases (by omega:x=0\/x=1\/x=2\/x=3\/x=4) with rfl | rfl | rfl | rfl | rfl
 · obtain ⟨n,b2,hn,hb2,r2⟩:=bO L hl 2 (by omega) (by omega) b1 s hb1
   unfold sb at r1 r2 ⊢
   rcases (by omega:n=0\/n=1) with rfl | rfl
   · refine ⟨uZ,b2,by simp [chs],hb2,?_⟩
     refine ret_of rfl rfl (r0 ?_)
     (have hz1:=aNC;refine Z2 ?_)
     rfl
   · refine ⟨(lit 1 1),b2,by simp [chs],hb2,?_⟩
     refine ret_of rfl rfl (r0 ?_)
     (have hz2:=aN8;refine Z2 ?_)
     rfl
 · obtain ⟨n,b2,hn,hb2,r2⟩:=bO L hl 3 (by omega) (by omega) b1 s hb1
   unfold sb at r1 r2 ⊢
   rcases (by omega:n=0\/n=1\/n=2) with rfl | rfl | rfl
   · refine ⟨uZ,b2,by simp [chs],hb2,?_⟩
     refine ret_of rfl rfl (r0 ?_)
     (have hz3:=aN4;refine Z2 ?_)
     rfl
   · refine ⟨(lit 1 2),b2,by simp [chs],hb2,?_⟩
     refine ret_of rfl rfl (r0 ?_)
     (have hz4:=aQ0;refine Z2 ?_)
     rfl
   · refine ⟨(lit 1 1),b2,by simp [chs],hb2,?_⟩
     refine ret_of rfl rfl (r0 ?_)
     (have hz5:=aLR;refine Z2 ?_)
     rfl
 · obtain ⟨n,b2,hn,hb2,r2⟩:=bO L hl 4 (by omega) (by omega) b1 s hb1
   unfold sb at r1 r2 ⊢
   rcases (by omega:n=0\/n=1\/n=2\/n=3) with rfl | rfl | rfl | rfl
   · refine ⟨uZ,b2,by simp [chs],hb2,?_⟩
     refine ret_of rfl rfl (r0 ?_)
     (have hz6:=aLP;refine Z2 ?_)
     rfl
   · refine ⟨(lit 1 3),b2,by simp [chs],hb2,?_⟩
     refine ret_of rfl rfl (r0 ?_)
     (have hz7:=aJG;refine Z2 ?_)
     rfl
   · refine ⟨(lit 2 3),b2,by simp [chs],hb2,?_⟩
     refine ret_of rfl rfl (r0 ?_)
     (have hz8:=aLO;refine Z2 ?_)
     rfl
   · refine ⟨(lit 1 1),b2,by simp [chs],hb2,?_⟩
     refine ret_of rfl rfl (r0 ?_)
     (have hz9:=aLK;refine Z2 ?_)
     rfl
 · obtain ⟨n,b2,hn,hb2,r2⟩:=bO L hl 5 (by omega) (by omega) b1 s hb1
   unfold sb at r1 r2 ⊢
   rcases (by omega:n=0\/n=1\/n=2\/n=3\/n=4) with rfl | rfl | rfl | rfl | rfl
   · refine ⟨uZ,b2,by simp [chs],hb2,?_⟩
     refine ret_of rfl rfl (r0 ?_)
     (have hz10:=aLB;refine Z2 ?_)
     rfl
   · refine ⟨(lit 1 4),b2,by simp [chs],hb2,?_⟩
     refine ret_of rfl rfl (r0 ?_)
     (have hz11:=azK;refine Z2 ?_)
     rfl
   · refine ⟨(lit 1 2),b2,by simp [chs],hb2,?_⟩
     refine ret_of rfl rfl (r0 ?_)
     (have hz12:=aL9;refine Z2 ?_)
     rfl
   · refine ⟨(lit 3 4),b2,by simp [chs],hb2,?_⟩
     refine ret_of rfl rfl (r0 ?_)
     (have hz13:=aL8;refine Z2 ?_)
     rfl
   · refine ⟨(lit 1 1),b2,by simp [chs],hb2,?_⟩
     refine ret_of rfl rfl (r0 ?_)
     (have hz14:=aL4;refine Z2 ?_)
     rfl
 · obtain ⟨n,b2,hn,hb2,r2⟩:=bO L hl 6 (by omega) (by omega) b1 s hb1
   unfold sb at r1 r2 ⊢
   rcases (by omega:n=0\/n=1\/n=2\/n=3\/n=4\/n=5) with rfl | rfl | rfl | rfl | rfl | rfl
   · refine ⟨uZ,b2,by simp [chs],hb2,?_⟩
     refine ret_of rfl rfl (r0 ?_)
     (have hz15:=aKU;refine Z2 ?_)
     rfl
   · refine ⟨(lit 1 5),b2,by simp [chs],hb2,?_⟩
     refine ret_of rfl rfl (r0 ?_)
     (have hz16:=aKT;refine Z2 ?_)
     rfl
   · refine ⟨(lit 2 5),b2,by simp [chs],hb2,?_⟩
     refine ret_of rfl rfl (r0 ?_)
     (have hz17:=aKO;refine Z2 ?_)
     rfl
   · refine ⟨(lit 3 5),b2,by simp [chs],hb2,?_⟩
     refine ret_of rfl rfl (r0 ?_)
     (have hz18:=aKJ;refine Z2 ?_)
     rfl
   · refine ⟨(lit 4 5),b2,by simp [chs],hb2,?_⟩
     refine ret_of rfl rfl (r0 ?_)
     (have hz19:=aKF;refine Z2 ?_)
     rfl
   · refine ⟨(lit 1 1),b2,by simp [chs],hb2,?_⟩
     refine ret_of rfl rfl (r0 ?_)
     (have hz20:=aJF;refine Z2 ?_)
     rfl
theorem kT (L:List Int) (hl:L.length<=1000) (a s:Nat) (ha:a<=L.length) : ∃ (w:List D) (b:Nat),w∈W0/\b<=L.length/\Ret VP (.fn 46) [.ptr 0 0 0 0,.d (.int .i64 0)] [sb L a s] (.d (.slice w)) [sb L b s]:=by
 obtain ⟨k,b0,hk,hb0,r0'⟩:=bO L hl 4 (by omega) (by omega) a s ha
 by_cases h0:k=0
 · subst h0
   obtain ⟨x,b1,hx,hb1,r1⟩:=aT L hl 2 4 3 (by omega) (by omega) (by omega) (by omega) (by omega) b0 s hb0
   obtain ⟨y,b2,hy,hb2,r2⟩:=aT L hl 1 2 2 (by omega) (by omega) (by omega) (by omega) (by omega) b1 s hb1
   unfold sb at r0' r1 r2 ⊢
   rcases (by omega:x=0\/x=1\/x=2) with rfl | rfl | rfl<;>rcases (by omega:y=0\/y=1) with rfl | rfl
   · refine ⟨w0,b2,by simp [W0],hb2,?_⟩
     refine ret_of rfl rfl (r0 ?_)
     (have hz21:=asW;have hz22:=aQ0;have hz23:=ua0;have hz24:=aV0;have hz25:=aP8;have hz26:=aNZ;have hz27:=aUX;refine Z2 ?_)
     rfl
   · refine ⟨w1,b2,by simp [W0],hb2,?_⟩
     refine ret_of rfl rfl (r0 ?_)
     (have hz28:=asW;have hz29:=aQ0;have hz30:=ax7;have hz31:=aUW;have hz32:=aP8;have hz33:=aHM;have hz34:=aNZ;have hz35:=aUU;refine Z2 ?_)
     rfl
   · refine ⟨w2,b2,by simp [W0],hb2,?_⟩
     refine ret_of rfl rfl (r0 ?_)
     (have hz36:=asW;have hz37:=aJG;have hz38:=ua0;have hz39:=aUT;have hz40:=aJE;have hz41:=azN;have hz42:=aQI;refine Z2 ?_)
     rfl
   · refine ⟨w3,b2,by simp [W0],hb2,?_⟩
     refine ret_of rfl rfl (r0 ?_)
     (have hz43:=asW;have hz44:=aJG;have hz45:=ax7;have hz46:=aQH;have hz47:=aJE;have hz48:=aQG;have hz49:=azN;have hz50:=aQD;refine Z2 ?_)
     rfl
   · refine ⟨w4,b2,by simp [W0],hb2,?_⟩
     refine ret_of rfl rfl (r0 ?_)
     (have hz51:=asW;have hz52:=azK;have hz53:=ua0;have hz54:=aQC;have hz55:=aHM;have hz56:=azI;have hz57:=aQ7;refine Z2 ?_)
     rfl
   · refine ⟨w5,b2,by simp [W0],hb2,?_⟩
     refine ret_of rfl rfl (r0 ?_)
     (have hz58:=asW;have hz59:=azK;have hz60:=ax7;have hz61:=aNJ;have hz62:=aHM;have hz63:=aNH;have hz64:=azI;have hz65:=aND;refine Z2 ?_)
     rfl
 · obtain ⟨c,b1,hc,hb1,r1⟩:=pL L hl b0 s hb0
   have t:((k:Int)==0)=false:=by simp;omega
   unfold sb at r0' r1 ⊢
   simp only [chs,List.mem_cons,List.not_mem_nil,or_false] at hc
   rcases hc with rfl | rfl | rfl | rfl | rfl | rfl | rfl | rfl | rfl | rfl | rfl
   · refine ⟨w6,b1,by simp [W0],hb1,?_⟩
     refine ret_of rfl rfl (r0 ?_)
     (have hz66:=asW;have hz67:=aNB;have hz68:=aN9;refine Z2 ?_)
     rfl
   · refine ⟨w7,b1,by simp [W0],hb1,?_⟩
     refine ret_of rfl rfl (r0 ?_)
     (have hz69:=asW;have hz70:=ua9;have hz71:=aN6;refine Z2 ?_)
     rfl
   · refine ⟨w8,b1,by simp [W0],hb1,?_⟩
     refine ret_of rfl rfl (r0 ?_)
     (have hz72:=asW;have hz73:=aP8;have hz74:=aNZ;refine Z2 ?_)
     rfl
   · refine ⟨w9,b1,by simp [W0],hb1,?_⟩
     refine ret_of rfl rfl (r0 ?_)
     (have hz75:=asW;have hz76:=aJE;have hz77:=azN;refine Z2 ?_)
     rfl
   · refine ⟨w10,b1,by simp [W0],hb1,?_⟩
     refine ret_of rfl rfl (r0 ?_)
     (have hz78:=asW;have hz79:=aLN;have hz80:=aLL;refine Z2 ?_)
     rfl
   · refine ⟨w11,b1,by simp [W0],hb1,?_⟩
     refine ret_of rfl rfl (r0 ?_)
     (have hz81:=asW;have hz82:=aHM;have hz83:=azI;refine Z2 ?_)
     rfl
   · refine ⟨w12,b1,by simp [W0],hb1,?_⟩
     refine ret_of rfl rfl (r0 ?_)
     (have hz84:=asW;have hz85:=aL7;have hz86:=aL5;refine Z2 ?_)
     rfl
   · refine ⟨w13,b1,by simp [W0],hb1,?_⟩
     refine ret_of rfl rfl (r0 ?_)
     (have hz87:=asW;have hz88:=aKS;have hz89:=aKP;refine Z2 ?_)
     rfl
   · refine ⟨w14,b1,by simp [W0],hb1,?_⟩
     refine ret_of rfl rfl (r0 ?_)
     (have hz90:=asW;have hz91:=aKM;have hz92:=aKK;refine Z2 ?_)
     rfl
   · refine ⟨w15,b1,by simp [W0],hb1,?_⟩
     refine ret_of rfl rfl (r0 ?_)
     (have hz93:=asW;have hz94:=aKI;have hz95:=aKG;refine Z2 ?_)
     rfl
   · refine ⟨w16,b1,by simp [W0],hb1,?_⟩
     refine ret_of rfl rfl (r0 ?_)
     (have hz96:=asW;have hz97:=aKE;have hz98:=aKC;refine Z2 ?_)
     rfl
theorem qn (L:List Int) (hl:L.length<=1000) (a s:Nat) (ha:a<=L.length) : ∃ (lo:Int) (w:List D) (b:Nat),w∈W0 /\ -1<=lo/\lo<=1/\b<=L.length/\Ret VP (.fn 23) [.ptr 0 0 0 0,.d (.int .i64 0)] [sb L a s] (.d (dsD 1 lo w)) [sb L b s]:=by
 obtain ⟨lo,b1,hlo,hb1,r1⟩:=iF L hl [0,0,0,1,-1] (by simp) (by simp) a s ha
 obtain ⟨w,b2,hw,hb2,r2⟩:=kT L hl b1 s hb1
 refine ⟨lo,w,b2,hw,by simp at hlo;omega,by simp at hlo;omega,hb2,?_⟩
 unfold sb at r1 r2 ⊢
 refine ret_of rfl rfl (r0 ?_)
 refine Z2 ?_
 rfl
abbrev mdB (cs:List Ce) (os:List Nat) (T:Ty):Option Blk:=some (.rows 0 false 11 [[.d (.int .i64 (0:Nat)),.d (.slice (cs.map Ce.d)),.d (.slice []),.d (.slice []),.d (.slice []),.d (.slice (os.map oD)),.d (.int .i64 T.a),.d (.int .i64 T.b),.d (.int .i64 T.c),.d (.int .i64 T.d),.d (.slice T.e)]])
abbrev sbR (L:List Int) (a s:Nat):Option Blk:=some (.rows 0 false 3 [[.d (.slice (L.map iD)),.d (.int .i64 a),.d (.int .i64 s)]])
end Go.Proofs.YtncfpmehhfdipaaGreat
namespace Go.Proofs.YtncfpmehhfdipaaGreat
open Go.IntWalk
attribute [local irreducible] au
set_option maxHeartbeats 8000000
set_option maxRecDepth 100000
theorem mU (L:List Int) (cs:List Ce) (os:List Nat) (T:Ty) (n sz d i a s k a1:Nat) (hi:i < sz) (hsz:sz<=100) (v lo':Nat) (a2 a3:Nat) (lo:Int) (w:List D) (hk:k < 4) (hs:s < 5) (r2:Ret VP (.fn 12) [.ptr 0 0 0 0,.d (.int .i64 n)] [sbR L a1 (s+1)] (.d (.int .i64 v)) [sbR L a2 (s+1)]) (r3:Ret VP (.fn 23) [.ptr 0 0 0 0,.d (.int .i64 0)] [sbR L a2 (s+1)] (.d (dsD 1 lo w)) [sbR L a3 (s+1)]) (r1:Ret VP (.fn 12) [.ptr 0 0 0 0,.d (.int .i64 12)] [sbR L a s] (.d (.int .i64 k)) [sbR L a1 s]) {K:List Fr} {Q:Out->Env->aa->Prop}
 (h:ah VP 1 [0,2,3,4,5,7,13,14,15] aU [.ptr 0 0 0 0,.d (.int .i64 n),.d (.int .i64 sz),.d (.int .i64 d),.d (.bool false),.ptr 1 0 0 0,.ms 2 0 0 1,.d (.slice ((aO n).map iD)),.d (.int .i64 (i+1:Nat))] [sbR L a3 (s+1),mdB cs os T,some (.rows 0 false 23 (ao [cmD 2 v 0 .z (.tab lo w) [] [] [] []]))] K Q):ah VP 1 [0,2,3,4,5,7,13,14,15] aU [.ptr 0 0 0 0,.d (.int .i64 n),.d (.int .i64 sz),.d (.int .i64 d),.d (.bool false),.ptr 1 0 0 0,.nils,.d (.slice ((aO n).map iD)),.d (.int .i64 i)] [sbR L a s,mdB cs os T] K Q:=by
 have hwi:=ac i (by omega)
 have ht:decide ((i:Int) < (sz:Int))=true:=decide_eq_true (by omega)
 have hws:=ac s (by omega)
 unfold sbR at r2 r3 h
 rw [<- hws] at r2 r3 h
 have t4:decide ((k:Int) < 4)=true:=decide_eq_true (by omega)
 have t5:decide ((s:Int) < 5)=true:=decide_eq_true (by omega)
 unfold ah
 refine Z3r ?_
 rw [hwi]
 refine hdX rfl rfl rfl rfl ?_
 exact h
theorem lT (L:List Int) (cs:List Ce) (os:List Nat) (T:Ty) (n sz d i a s k a1:Nat) (hi:i < sz) (hsz:sz<=100) (x:D) (l:List D) (hll:l.length<=100) (v lo':Nat) (a2 a3:Nat) (lo:Int) (w:List D) (hk:k < 4) (hs:s < 5) (r2:Ret VP (.fn 12) [.ptr 0 0 0 0,.d (.int .i64 n)] [sbR L a1 (s+1)] (.d (.int .i64 v)) [sbR L a2 (s+1)]) (r3:Ret VP (.fn 23) [.ptr 0 0 0 0,.d (.int .i64 0)] [sbR L a2 (s+1)] (.d (dsD 1 lo w)) [sbR L a3 (s+1)]) (r1:Ret VP (.fn 12) [.ptr 0 0 0 0,.d (.int .i64 12)] [sbR L a s] (.d (.int .i64 k)) [sbR L a1 s]) {K:List Fr} {Q:Out->Env->aa->Prop}
 (h:ah VP 1 [0,2,3,4,5,7,13,14,15] aU [.ptr 0 0 0 0,.d (.int .i64 n),.d (.int .i64 sz),.d (.int .i64 d),.d (.bool false),.ptr 1 0 0 0,.ms 2 (l.length+1) 0 (l.length+1+1),.d (.slice ((aO n).map iD)),.d (.int .i64 (i+1:Nat))] [sbR L a3 (s+1),mdB cs os T,some (.rows (l.length+1) false 23 (ao (x::l++[cmD 2 v 0 .z (.tab lo w) [] [] [] []])))] K Q):ah VP 1 [0,2,3,4,5,7,13,14,15] aU [.ptr 0 0 0 0,.d (.int .i64 n),.d (.int .i64 sz),.d (.int .i64 d),.d (.bool false),.ptr 1 0 0 0,.ms 2 l.length 0 (l.length+1),.d (.slice ((aO n).map iD)),.d (.int .i64 i)] [sbR L a s,mdB cs os T,some (.rows l.length false 23 (ao (x::l)))] K Q:=by
 have hwi:=ac i (by omega)
 have ht:decide ((i:Int) < (sz:Int))=true:=decide_eq_true (by omega)
 have hroom:au (l.length+1+1) 376=true:=by rw [au,Bool.and_eq_true,decide_eq_true_eq,decide_eq_true_eq];omega
 have hws:=ac s (by omega)
 unfold sbR at r2 r3 h
 rw [<- hws] at r2 r3 h
 have t4:decide ((k:Int) < 4)=true:=decide_eq_true (by omega)
 have t5:decide ((s:Int) < 5)=true:=decide_eq_true (by omega)
 unfold ah
 (refine Z3r ?_;(repeat first | (refine fw (oaD (cmD 2 v 0 .z (.tab lo w) [] [] [] []) rfl rfl rfl (by simp) rfl hroom rfl (o0 ⟨rfl,rfl⟩)) ?_;refine Z3r ?_)))
 rw [hwi]
 refine hdX rfl rfl rfl rfl ?_
 exact h
theorem ml (L:List Int) (cs:List Ce) (os:List Nat) (T:Ty) (n sz d i a s k a1:Nat) (hi:i < sz) (hsz:sz<=100) (v a2 a3 o a4:Nat) (f:Fo) (hk4:¬ k < 4\/¬ s < 5) (hk6:k < 6) (hov:v=o) (r2:Ret VP (.fn 12) [.ptr 0 0 0 0,.d (.int .i64 n)] [sbR L a1 s] (.d (.int .i64 v)) [sbR L a2 s]) (r3:Ret VP (.fn 13) [.ptr 0 0 0 0,.d (.slice ((aO n).map iD)),.d (.int .i64 3)] [sbR L a2 s] (.d f.d) [sbR L a3 s]) (r4:Ret VP (.fn 12) [.ptr 0 0 0 0,.d (.int .i64 n)] [sbR L a3 s] (.d (.int .i64 o)) [sbR L a4 s]) (r1:Ret VP (.fn 12) [.ptr 0 0 0 0,.d (.int .i64 12)] [sbR L a s] (.d (.int .i64 k)) [sbR L a1 s]) {K:List Fr} {Q:Out->Env->aa->Prop}
 (h:ah VP 1 [0,2,3,4,5,7,13,14,15] aU [.ptr 0 0 0 0,.d (.int .i64 n),.d (.int .i64 sz),.d (.int .i64 d),.d (.bool false),.ptr 1 0 0 0,.ms 2 0 0 1,.d (.slice ((aO n).map iD)),.d (.int .i64 (i+1:Nat))] [sbR L a4 s,mdB cs os T,some (.rows 0 false 23 (ao [cmD 1 0 0 .z .z [] [] [f.d] [oD v]]))] K Q):ah VP 1 [0,2,3,4,5,7,13,14,15] aU [.ptr 0 0 0 0,.d (.int .i64 n),.d (.int .i64 sz),.d (.int .i64 d),.d (.bool false),.ptr 1 0 0 0,.nils,.d (.slice ((aO n).map iD)),.d (.int .i64 i)] [sbR L a s,mdB cs os T] K Q:=by
 have hwi:=ac i (by omega)
 have ht:decide ((i:Int) < (sz:Int))=true:=decide_eq_true (by omega)
 have htt:decide ((k:Int) < 4)=true/\decide ((s:Int) < 5)=false\/decide ((k:Int) < 4)=false/\true=true:=by
  rcases (by omega:k < 4/\¬ s < 5\/¬ k < 4) with ⟨h1,h2⟩ | h1
  · exact .inl ⟨decide_eq_true (by omega),decide_eq_false (by omega)⟩
  · exact .inr ⟨decide_eq_false (by omega),rfl⟩
 have t6:decide ((k:Int) < 6)=true:=decide_eq_true (by omega)
 subst hov
 have tov:((v:Int) != (v:Int))=false:=by simp
 unfold ah
 rcases htt with ⟨tA,tB⟩ | ⟨tA,tB⟩
 all_goals (refine Z3r ?_;rw [hwi];refine hdX rfl rfl rfl rfl ?_;exact h)
theorem lf (L:List Int) (cs:List Ce) (os:List Nat) (T:Ty) (n sz d i a s k a1:Nat) (hi:i < sz) (hsz:sz<=100) (x:D) (l:List D) (hll:l.length<=100) (v a2 a3 o a4:Nat) (f:Fo) (hk4:¬ k < 4\/¬ s < 5) (hk6:k < 6) (hov:v=o) (r2:Ret VP (.fn 12) [.ptr 0 0 0 0,.d (.int .i64 n)] [sbR L a1 s] (.d (.int .i64 v)) [sbR L a2 s]) (r3:Ret VP (.fn 13) [.ptr 0 0 0 0,.d (.slice ((aO n).map iD)),.d (.int .i64 3)] [sbR L a2 s] (.d f.d) [sbR L a3 s]) (r4:Ret VP (.fn 12) [.ptr 0 0 0 0,.d (.int .i64 n)] [sbR L a3 s] (.d (.int .i64 o)) [sbR L a4 s]) (r1:Ret VP (.fn 12) [.ptr 0 0 0 0,.d (.int .i64 12)] [sbR L a s] (.d (.int .i64 k)) [sbR L a1 s]) {K:List Fr} {Q:Out->Env->aa->Prop}
 (h:ah VP 1 [0,2,3,4,5,7,13,14,15] aU [.ptr 0 0 0 0,.d (.int .i64 n),.d (.int .i64 sz),.d (.int .i64 d),.d (.bool false),.ptr 1 0 0 0,.ms 2 (l.length+1) 0 (l.length+1+1),.d (.slice ((aO n).map iD)),.d (.int .i64 (i+1:Nat))] [sbR L a4 s,mdB cs os T,some (.rows (l.length+1) false 23 (ao (x::l++[cmD 1 0 0 .z .z [] [] [f.d] [oD v]])))] K Q):ah VP 1 [0,2,3,4,5,7,13,14,15] aU [.ptr 0 0 0 0,.d (.int .i64 n),.d (.int .i64 sz),.d (.int .i64 d),.d (.bool false),.ptr 1 0 0 0,.ms 2 l.length 0 (l.length+1),.d (.slice ((aO n).map iD)),.d (.int .i64 i)] [sbR L a s,mdB cs os T,some (.rows l.length false 23 (ao (x::l)))] K Q:=by
 have hwi:=ac i (by omega)
 have ht:decide ((i:Int) < (sz:Int))=true:=decide_eq_true (by omega)
 have hroom:au (l.length+1+1) 376=true:=by rw [au,Bool.and_eq_true,decide_eq_true_eq,decide_eq_true_eq];omega
 have htt:decide ((k:Int) < 4)=true/\decide ((s:Int) < 5)=false\/decide ((k:Int) < 4)=false/\true=true:=by
  rcases (by omega:k < 4/\¬ s < 5\/¬ k < 4) with ⟨h1,h2⟩ | h1
  · exact .inl ⟨decide_eq_true (by omega),decide_eq_false (by omega)⟩
  · exact .inr ⟨decide_eq_false (by omega),rfl⟩
 have t6:decide ((k:Int) < 6)=true:=decide_eq_true (by omega)
 subst hov
 have tov:((v:Int) != (v:Int))=false:=by simp
 unfold ah
 rcases htt with ⟨tA,tB⟩ | ⟨tA,tB⟩
 all_goals ((refine Z3r ?_;(repeat first | (refine oaD (cmD 1 0 0 .z .z [] [] [f.d] [oD v]) rfl rfl rfl (by simp) rfl hroom rfl ?_;refine Z3r ?_)));rw [hwi];refine hdX rfl rfl rfl rfl ?_;exact h)
theorem mj (L:List Int) (cs:List Ce) (os:List Nat) (T:Ty) (n sz d i a s k a1:Nat) (hi:i < sz) (hsz:sz<=100) (v a2 a3 o a4 c a5:Nat) (f:Fo) (hk4:¬ k < 4\/¬ s < 5) (hk6:k < 6) (hov:o≠v) (hc:c≠0) (r2:Ret VP (.fn 12) [.ptr 0 0 0 0,.d (.int .i64 n)] [sbR L a1 s] (.d (.int .i64 v)) [sbR L a2 s]) (r3:Ret VP (.fn 13) [.ptr 0 0 0 0,.d (.slice ((aO n).map iD)),.d (.int .i64 3)] [sbR L a2 s] (.d f.d) [sbR L a3 s]) (r4:Ret VP (.fn 12) [.ptr 0 0 0 0,.d (.int .i64 n)] [sbR L a3 s] (.d (.int .i64 o)) [sbR L a4 s]) (r5:Ret VP (.fn 12) [.ptr 0 0 0 0,.d (.int .i64 3)] [sbR L a4 s] (.d (.int .i64 c)) [sbR L a5 s]) (r1:Ret VP (.fn 12) [.ptr 0 0 0 0,.d (.int .i64 12)] [sbR L a s] (.d (.int .i64 k)) [sbR L a1 s]) {K:List Fr} {Q:Out->Env->aa->Prop}
 (h:ah VP 1 [0,2,3,4,5,7,13,14,15] aU [.ptr 0 0 0 0,.d (.int .i64 n),.d (.int .i64 sz),.d (.int .i64 d),.d (.bool false),.ptr 1 0 0 0,.ms 2 0 0 1,.d (.slice ((aO n).map iD)),.d (.int .i64 (i+1:Nat))] [sbR L a5 s,mdB cs os T,some (.rows 0 false 23 (ao [cmD 1 0 0 .z .z [] [] [f.d] [oD v]]))] K Q):ah VP 1 [0,2,3,4,5,7,13,14,15] aU [.ptr 0 0 0 0,.d (.int .i64 n),.d (.int .i64 sz),.d (.int .i64 d),.d (.bool false),.ptr 1 0 0 0,.nils,.d (.slice ((aO n).map iD)),.d (.int .i64 i)] [sbR L a s,mdB cs os T] K Q:=by
 have hwi:=ac i (by omega)
 have ht:decide ((i:Int) < (sz:Int))=true:=decide_eq_true (by omega)
 have htt:decide ((k:Int) < 4)=true/\decide ((s:Int) < 5)=false\/decide ((k:Int) < 4)=false/\true=true:=by
  rcases (by omega:k < 4/\¬ s < 5\/¬ k < 4) with ⟨h1,h2⟩ | h1
  · exact .inl ⟨decide_eq_true (by omega),decide_eq_false (by omega)⟩
  · exact .inr ⟨decide_eq_false (by omega),rfl⟩
 have t6:decide ((k:Int) < 6)=true:=decide_eq_true (by omega)
 have tov:((o:Int) != (v:Int))=true:=by simp;omega
 have tc:((c:Int)==0)=false:=by simp;omega
 unfold ah
 rcases htt with ⟨tA,tB⟩ | ⟨tA,tB⟩
 all_goals (refine Z3r ?_;rw [hwi];refine hdX rfl rfl rfl rfl ?_;exact h)
theorem lc (L:List Int) (cs:List Ce) (os:List Nat) (T:Ty) (n sz d i a s k a1:Nat) (hi:i < sz) (hsz:sz<=100) (x:D) (l:List D) (hll:l.length<=100) (v a2 a3 o a4 c a5:Nat) (f:Fo) (hk4:¬ k < 4\/¬ s < 5) (hk6:k < 6) (hov:o≠v) (hc:c≠0) (r2:Ret VP (.fn 12) [.ptr 0 0 0 0,.d (.int .i64 n)] [sbR L a1 s] (.d (.int .i64 v)) [sbR L a2 s]) (r3:Ret VP (.fn 13) [.ptr 0 0 0 0,.d (.slice ((aO n).map iD)),.d (.int .i64 3)] [sbR L a2 s] (.d f.d) [sbR L a3 s]) (r4:Ret VP (.fn 12) [.ptr 0 0 0 0,.d (.int .i64 n)] [sbR L a3 s] (.d (.int .i64 o)) [sbR L a4 s]) (r5:Ret VP (.fn 12) [.ptr 0 0 0 0,.d (.int .i64 3)] [sbR L a4 s] (.d (.int .i64 c)) [sbR L a5 s]) (r1:Ret VP (.fn 12) [.ptr 0 0 0 0,.d (.int .i64 12)] [sbR L a s] (.d (.int .i64 k)) [sbR L a1 s]) {K:List Fr} {Q:Out->Env->aa->Prop}
 (h:ah VP 1 [0,2,3,4,5,7,13,14,15] aU [.ptr 0 0 0 0,.d (.int .i64 n),.d (.int .i64 sz),.d (.int .i64 d),.d (.bool false),.ptr 1 0 0 0,.ms 2 (l.length+1) 0 (l.length+1+1),.d (.slice ((aO n).map iD)),.d (.int .i64 (i+1:Nat))] [sbR L a5 s,mdB cs os T,some (.rows (l.length+1) false 23 (ao (x::l++[cmD 1 0 0 .z .z [] [] [f.d] [oD v]])))] K Q):ah VP 1 [0,2,3,4,5,7,13,14,15] aU [.ptr 0 0 0 0,.d (.int .i64 n),.d (.int .i64 sz),.d (.int .i64 d),.d (.bool false),.ptr 1 0 0 0,.ms 2 l.length 0 (l.length+1),.d (.slice ((aO n).map iD)),.d (.int .i64 i)] [sbR L a s,mdB cs os T,some (.rows l.length false 23 (ao (x::l)))] K Q:=by
 have hwi:=ac i (by omega)
 have ht:decide ((i:Int) < (sz:Int))=true:=decide_eq_true (by omega)
 have hroom:au (l.length+1+1) 376=true:=by rw [au,Bool.and_eq_true,decide_eq_true_eq,decide_eq_true_eq];omega
 have htt:decide ((k:Int) < 4)=true/\decide ((s:Int) < 5)=false\/decide ((k:Int) < 4)=false/\true=true:=by
  rcases (by omega:k < 4/\¬ s < 5\/¬ k < 4) with ⟨h1,h2⟩ | h1
  · exact .inl ⟨decide_eq_true (by omega),decide_eq_false (by omega)⟩
  · exact .inr ⟨decide_eq_false (by omega),rfl⟩
 have t6:decide ((k:Int) < 6)=true:=decide_eq_true (by omega)
 have tov:((o:Int) != (v:Int))=true:=by simp;omega
 have tc:((c:Int)==0)=false:=by simp;omega
 unfold ah
 rcases htt with ⟨tA,tB⟩ | ⟨tA,tB⟩
 all_goals ((refine Z3r ?_;(repeat first | (refine oaD (cmD 1 0 0 .z .z [] [] [f.d] [oD v]) rfl rfl rfl (by simp) rfl hroom rfl ?_;refine Z3r ?_)));rw [hwi];refine hdX rfl rfl rfl rfl ?_;exact h)
theorem mh (L:List Int) (cs:List Ce) (os:List Nat) (T:Ty) (n sz d i a s k a1:Nat) (hi:i < sz) (hsz:sz<=100) (v a2 a3 o a4 a5 a6:Nat) (f g:Fo) (hk4:¬ k < 4\/¬ s < 5) (hk6:k < 6) (hov:o≠v) (r2:Ret VP (.fn 12) [.ptr 0 0 0 0,.d (.int .i64 n)] [sbR L a1 s] (.d (.int .i64 v)) [sbR L a2 s]) (r3:Ret VP (.fn 13) [.ptr 0 0 0 0,.d (.slice ((aO n).map iD)),.d (.int .i64 3)] [sbR L a2 s] (.d f.d) [sbR L a3 s]) (r4:Ret VP (.fn 12) [.ptr 0 0 0 0,.d (.int .i64 n)] [sbR L a3 s] (.d (.int .i64 o)) [sbR L a4 s]) (r5:Ret VP (.fn 12) [.ptr 0 0 0 0,.d (.int .i64 3)] [sbR L a4 s] (.d (.int .i64 0)) [sbR L a5 s]) (r6:Ret VP (.fn 13) [.ptr 0 0 0 0,.d (.slice ((aO n).map iD)),.d (.int .i64 2)] [sbR L a5 s] (.d g.d) [sbR L a6 s]) (r1:Ret VP (.fn 12) [.ptr 0 0 0 0,.d (.int .i64 12)] [sbR L a s] (.d (.int .i64 k)) [sbR L a1 s]) {K:List Fr} {Q:Out->Env->aa->Prop}
 (h:ah VP 1 [0,2,3,4,5,7,13,14,15] aU [.ptr 0 0 0 0,.d (.int .i64 n),.d (.int .i64 sz),.d (.int .i64 d),.d (.bool false),.ptr 1 0 0 0,.ms 2 0 0 1,.d (.slice ((aO n).map iD)),.d (.int .i64 (i+1:Nat))] [sbR L a6 s,mdB cs os T,some (.rows 0 false 23 (ao [cmD 1 0 0 .z .z [] [] [f.d,g.d] [oD v,oD o]]))] K Q):ah VP 1 [0,2,3,4,5,7,13,14,15] aU [.ptr 0 0 0 0,.d (.int .i64 n),.d (.int .i64 sz),.d (.int .i64 d),.d (.bool false),.ptr 1 0 0 0,.nils,.d (.slice ((aO n).map iD)),.d (.int .i64 i)] [sbR L a s,mdB cs os T] K Q:=by
 have hwi:=ac i (by omega)
 have ht:decide ((i:Int) < (sz:Int))=true:=decide_eq_true (by omega)
 have htt:decide ((k:Int) < 4)=true/\decide ((s:Int) < 5)=false\/decide ((k:Int) < 4)=false/\true=true:=by
  rcases (by omega:k < 4/\¬ s < 5\/¬ k < 4) with ⟨h1,h2⟩ | h1
  · exact .inl ⟨decide_eq_true (by omega),decide_eq_false (by omega)⟩
  · exact .inr ⟨decide_eq_false (by omega),rfl⟩
 have t6:decide ((k:Int) < 6)=true:=decide_eq_true (by omega)
 have tov:((o:Int) != (v:Int))=true:=by simp;omega
 unfold ah
 rcases htt with ⟨tA,tB⟩ | ⟨tA,tB⟩
 all_goals (refine Z3r ?_;rw [hwi];refine hdX rfl rfl rfl rfl ?_;exact h)
theorem k9 (L:List Int) (cs:List Ce) (os:List Nat) (T:Ty) (n sz d i a s k a1:Nat) (hi:i < sz) (hsz:sz<=100) (x:D) (l:List D) (hll:l.length<=100) (v a2 a3 o a4 a5 a6:Nat) (f g:Fo) (hk4:¬ k < 4\/¬ s < 5) (hk6:k < 6) (hov:o≠v) (r2:Ret VP (.fn 12) [.ptr 0 0 0 0,.d (.int .i64 n)] [sbR L a1 s] (.d (.int .i64 v)) [sbR L a2 s]) (r3:Ret VP (.fn 13) [.ptr 0 0 0 0,.d (.slice ((aO n).map iD)),.d (.int .i64 3)] [sbR L a2 s] (.d f.d) [sbR L a3 s]) (r4:Ret VP (.fn 12) [.ptr 0 0 0 0,.d (.int .i64 n)] [sbR L a3 s] (.d (.int .i64 o)) [sbR L a4 s]) (r5:Ret VP (.fn 12) [.ptr 0 0 0 0,.d (.int .i64 3)] [sbR L a4 s] (.d (.int .i64 0)) [sbR L a5 s]) (r6:Ret VP (.fn 13) [.ptr 0 0 0 0,.d (.slice ((aO n).map iD)),.d (.int .i64 2)] [sbR L a5 s] (.d g.d) [sbR L a6 s]) (r1:Ret VP (.fn 12) [.ptr 0 0 0 0,.d (.int .i64 12)] [sbR L a s] (.d (.int .i64 k)) [sbR L a1 s]) {K:List Fr} {Q:Out->Env->aa->Prop}
 (h:ah VP 1 [0,2,3,4,5,7,13,14,15] aU [.ptr 0 0 0 0,.d (.int .i64 n),.d (.int .i64 sz),.d (.int .i64 d),.d (.bool false),.ptr 1 0 0 0,.ms 2 (l.length+1) 0 (l.length+1+1),.d (.slice ((aO n).map iD)),.d (.int .i64 (i+1:Nat))] [sbR L a6 s,mdB cs os T,some (.rows (l.length+1) false 23 (ao (x::l++[cmD 1 0 0 .z .z [] [] [f.d,g.d] [oD v,oD o]])))] K Q):ah VP 1 [0,2,3,4,5,7,13,14,15] aU [.ptr 0 0 0 0,.d (.int .i64 n),.d (.int .i64 sz),.d (.int .i64 d),.d (.bool false),.ptr 1 0 0 0,.ms 2 l.length 0 (l.length+1),.d (.slice ((aO n).map iD)),.d (.int .i64 i)] [sbR L a s,mdB cs os T,some (.rows l.length false 23 (ao (x::l)))] K Q:=by
 have hwi:=ac i (by omega)
 have ht:decide ((i:Int) < (sz:Int))=true:=decide_eq_true (by omega)
 have hroom:au (l.length+1+1) 376=true:=by rw [au,Bool.and_eq_true,decide_eq_true_eq,decide_eq_true_eq];omega
 have htt:decide ((k:Int) < 4)=true/\decide ((s:Int) < 5)=false\/decide ((k:Int) < 4)=false/\true=true:=by
  rcases (by omega:k < 4/\¬ s < 5\/¬ k < 4) with ⟨h1,h2⟩ | h1
  · exact .inl ⟨decide_eq_true (by omega),decide_eq_false (by omega)⟩
  · exact .inr ⟨decide_eq_false (by omega),rfl⟩
 have t6:decide ((k:Int) < 6)=true:=decide_eq_true (by omega)
 have tov:((o:Int) != (v:Int))=true:=by simp;omega
 unfold ah
 rcases htt with ⟨tA,tB⟩ | ⟨tA,tB⟩
 all_goals ((refine Z3r ?_;(repeat first | (refine oaD (cmD 1 0 0 .z .z [] [] [f.d,g.d] [oD v,oD o]) rfl rfl rfl (by simp) rfl hroom rfl ?_;refine Z3r ?_)));rw [hwi];refine hdX rfl rfl rfl rfl ?_;exact h)
theorem pn (L:List Int) (cs:List Ce) (os:List Nat) (T:Ty) (n sz d i a s k a1:Nat) (hi:i < sz) (hsz:sz<=100) (a2 z1 a3 a4 s4 z2 a5 a6 s6:Nat) (f:Fo) (la lb:List Cm) (hk4:¬ k < 4) (hk6:¬ k < 6) (hk8:k < 8) (hd:1 < d) (hd2:d<=100) (r2:Ret VP (.fn 13) [.ptr 0 0 0 0,.d (.slice ((aO n).map iD)),.d (.int .i64 3)] [sbR L a1 s] (.d f.d) [sbR L a2 s]) (r3:Ret VP (.fn 12) [.ptr 0 0 0 0,.d (.int .i64 3)] [sbR L a2 s] (.d (.int .i64 z1)) [sbR L a3 s]) (r4:Ret VP (.fn 11) [.ptr 0 0 0 0,.d (moD 0 cs ([]:List Cm) os T),.d (.int .i64 n),.d (.int .i64 z1),.d (.int .i64 (d - 1:Nat)),.d (.bool false)] [sbR L a3 s] (.d (.slice (la.map Cm.d))) [sbR L a4 s4]) (r5:Ret VP (.fn 12) [.ptr 0 0 0 0,.d (.int .i64 2)] [sbR L a4 s4] (.d (.int .i64 z2)) [sbR L a5 s4]) (r6:Ret VP (.fn 11) [.ptr 0 0 0 0,.d (moD 0 cs ([]:List Cm) os T),.d (.int .i64 n),.d (.int .i64 z2),.d (.int .i64 (d - 1:Nat)),.d (.bool false)] [sbR L a5 s4] (.d (.slice (lb.map Cm.d))) [sbR L a6 s6]) (r1:Ret VP (.fn 12) [.ptr 0 0 0 0,.d (.int .i64 12)] [sbR L a s] (.d (.int .i64 k)) [sbR L a1 s]) {K:List Fr} {Q:Out->Env->aa->Prop}
 (h:ah VP 1 [0,2,3,4,5,7,13,14,15] aU [.ptr 0 0 0 0,.d (.int .i64 n),.d (.int .i64 sz),.d (.int .i64 d),.d (.bool false),.ptr 1 0 0 0,.ms 2 0 0 1,.d (.slice ((aO n).map iD)),.d (.int .i64 (i+1:Nat))] [sbR L a6 s6,mdB cs os T,some (.rows 0 false 23 (ao [cmD 3 0 0 f .z (la.map Cm.d) (lb.map Cm.d) [] []]))] K Q):ah VP 1 [0,2,3,4,5,7,13,14,15] aU [.ptr 0 0 0 0,.d (.int .i64 n),.d (.int .i64 sz),.d (.int .i64 d),.d (.bool false),.ptr 1 0 0 0,.nils,.d (.slice ((aO n).map iD)),.d (.int .i64 i)] [sbR L a s,mdB cs os T] K Q:=by
 have hwi:=ac i (by omega)
 have ht:decide ((i:Int) < (sz:Int))=true:=decide_eq_true (by omega)
 have t4:decide ((k:Int) < 4)=false:=decide_eq_false (by omega)
 have t6:decide ((k:Int) < 6)=false:=decide_eq_false (by omega)
 have t8:decide ((k:Int) < 8)=true:=decide_eq_true (by omega)
 have td:decide ((d:Int) > 1)=true:=decide_eq_true (by omega)
 have hwd:IntKind.i64.wrap ((d:Int) - 1)=((d - 1:Nat):Int):=by rw [i64_in]<;>omega
 rw [<- hwd] at r4 r6
 unfold ah
 refine Z3r ?_
 rw [hwi]
 refine hdX rfl rfl rfl rfl ?_
 exact h
theorem mM (L:List Int) (cs:List Ce) (os:List Nat) (T:Ty) (n sz d i a s k a1:Nat) (hi:i < sz) (hsz:sz<=100) (x:D) (l:List D) (hll:l.length<=100) (a2 z1 a3 a4 s4 z2 a5 a6 s6:Nat) (f:Fo) (la lb:List Cm) (hk4:¬ k < 4) (hk6:¬ k < 6) (hk8:k < 8) (hd:1 < d) (hd2:d<=100) (r2:Ret VP (.fn 13) [.ptr 0 0 0 0,.d (.slice ((aO n).map iD)),.d (.int .i64 3)] [sbR L a1 s] (.d f.d) [sbR L a2 s]) (r3:Ret VP (.fn 12) [.ptr 0 0 0 0,.d (.int .i64 3)] [sbR L a2 s] (.d (.int .i64 z1)) [sbR L a3 s]) (r4:Ret VP (.fn 11) [.ptr 0 0 0 0,.d (moD 0 cs ([]:List Cm) os T),.d (.int .i64 n),.d (.int .i64 z1),.d (.int .i64 (d - 1:Nat)),.d (.bool false)] [sbR L a3 s] (.d (.slice (la.map Cm.d))) [sbR L a4 s4]) (r5:Ret VP (.fn 12) [.ptr 0 0 0 0,.d (.int .i64 2)] [sbR L a4 s4] (.d (.int .i64 z2)) [sbR L a5 s4]) (r6:Ret VP (.fn 11) [.ptr 0 0 0 0,.d (moD 0 cs ([]:List Cm) os T),.d (.int .i64 n),.d (.int .i64 z2),.d (.int .i64 (d - 1:Nat)),.d (.bool false)] [sbR L a5 s4] (.d (.slice (lb.map Cm.d))) [sbR L a6 s6]) (r1:Ret VP (.fn 12) [.ptr 0 0 0 0,.d (.int .i64 12)] [sbR L a s] (.d (.int .i64 k)) [sbR L a1 s]) {K:List Fr} {Q:Out->Env->aa->Prop}
 (h:ah VP 1 [0,2,3,4,5,7,13,14,15] aU [.ptr 0 0 0 0,.d (.int .i64 n),.d (.int .i64 sz),.d (.int .i64 d),.d (.bool false),.ptr 1 0 0 0,.ms 2 (l.length+1) 0 (l.length+1+1),.d (.slice ((aO n).map iD)),.d (.int .i64 (i+1:Nat))] [sbR L a6 s6,mdB cs os T,some (.rows (l.length+1) false 23 (ao (x::l++[cmD 3 0 0 f .z (la.map Cm.d) (lb.map Cm.d) [] []])))] K Q):ah VP 1 [0,2,3,4,5,7,13,14,15] aU [.ptr 0 0 0 0,.d (.int .i64 n),.d (.int .i64 sz),.d (.int .i64 d),.d (.bool false),.ptr 1 0 0 0,.ms 2 l.length 0 (l.length+1),.d (.slice ((aO n).map iD)),.d (.int .i64 i)] [sbR L a s,mdB cs os T,some (.rows l.length false 23 (ao (x::l)))] K Q:=by
 have hwi:=ac i (by omega)
 have ht:decide ((i:Int) < (sz:Int))=true:=decide_eq_true (by omega)
 have hroom:au (l.length+1+1) 376=true:=by rw [au,Bool.and_eq_true,decide_eq_true_eq,decide_eq_true_eq];omega
 have t4:decide ((k:Int) < 4)=false:=decide_eq_false (by omega)
 have t6:decide ((k:Int) < 6)=false:=decide_eq_false (by omega)
 have t8:decide ((k:Int) < 8)=true:=decide_eq_true (by omega)
 have td:decide ((d:Int) > 1)=true:=decide_eq_true (by omega)
 have hwd:IntKind.i64.wrap ((d:Int) - 1)=((d - 1:Nat):Int):=by rw [i64_in]<;>omega
 rw [<- hwd] at r4 r6
 unfold ah
 (refine Z3r ?_;(repeat first | (refine fw (oaD (cmD 3 0 0 f .z (la.map Cm.d) (lb.map Cm.d) [] []) rfl rfl rfl (by simp) rfl hroom rfl (o0 ⟨rfl,rfl⟩)) ?_;refine Z3r ?_)))
 rw [hwi]
 refine hdX rfl rfl rfl rfl ?_
 exact h
theorem o9 (L:List Int) (cs:List Ce) (os:List Nat) (T:Ty) (n sz d i a s k a1:Nat) (hi:i < sz) (hsz:sz<=100) (a2:Nat) (f:Fo) (hk4:¬ k < 4) (hk6:¬ k < 6) (hk9:k < 9) (hkd:¬ k < 8\/¬ 1 < d) (r2:Ret VP (.fn 13) [.ptr 0 0 0 0,.d (.slice ((aO n).map iD)),.d (.int .i64 3)] [sbR L a1 s] (.d f.d) [sbR L a2 s]) (r1:Ret VP (.fn 12) [.ptr 0 0 0 0,.d (.int .i64 12)] [sbR L a s] (.d (.int .i64 k)) [sbR L a1 s]) {K:List Fr} {Q:Out->Env->aa->Prop}
 (h:ah VP 1 [0,2,3,4,5,7,13,14,15] aU [.ptr 0 0 0 0,.d (.int .i64 n),.d (.int .i64 sz),.d (.int .i64 d),.d (.bool false),.ptr 1 0 0 0,.ms 2 0 0 1,.d (.slice ((aO n).map iD)),.d (.int .i64 (i+1:Nat))] [sbR L a2 s,mdB cs os T,some (.rows 0 false 23 (ao [cmD 4 0 0 f .z [] [] [] []]))] K Q):ah VP 1 [0,2,3,4,5,7,13,14,15] aU [.ptr 0 0 0 0,.d (.int .i64 n),.d (.int .i64 sz),.d (.int .i64 d),.d (.bool false),.ptr 1 0 0 0,.nils,.d (.slice ((aO n).map iD)),.d (.int .i64 i)] [sbR L a s,mdB cs os T] K Q:=by
 have hwi:=ac i (by omega)
 have ht:decide ((i:Int) < (sz:Int))=true:=decide_eq_true (by omega)
 have t4:decide ((k:Int) < 4)=false:=decide_eq_false (by omega)
 have t6:decide ((k:Int) < 6)=false:=decide_eq_false (by omega)
 have t9:decide ((k:Int) < 9)=true:=decide_eq_true (by omega)
 have htt:decide ((k:Int) < 8)=true/\decide ((d:Int) > 1)=false\/decide ((k:Int) < 8)=false/\true=true:=by
  rcases (by omega:k < 8/\¬ 1 < d\/¬ k < 8) with ⟨h1,h2⟩ | h1
  · exact .inl ⟨decide_eq_true (by omega),decide_eq_false (by omega)⟩
  · exact .inr ⟨decide_eq_false (by omega),rfl⟩
 unfold ah
 rcases htt with ⟨tA,tB⟩ | ⟨tA,tB⟩
 all_goals (refine Z3r ?_;rw [hwi];refine hdX rfl rfl rfl rfl ?_;exact h)
theorem mz (L:List Int) (cs:List Ce) (os:List Nat) (T:Ty) (n sz d i a s k a1:Nat) (hi:i < sz) (hsz:sz<=100) (x:D) (l:List D) (hll:l.length<=100) (a2:Nat) (f:Fo) (hk4:¬ k < 4) (hk6:¬ k < 6) (hk9:k < 9) (hkd:¬ k < 8\/¬ 1 < d) (r2:Ret VP (.fn 13) [.ptr 0 0 0 0,.d (.slice ((aO n).map iD)),.d (.int .i64 3)] [sbR L a1 s] (.d f.d) [sbR L a2 s]) (r1:Ret VP (.fn 12) [.ptr 0 0 0 0,.d (.int .i64 12)] [sbR L a s] (.d (.int .i64 k)) [sbR L a1 s]) {K:List Fr} {Q:Out->Env->aa->Prop}
 (h:ah VP 1 [0,2,3,4,5,7,13,14,15] aU [.ptr 0 0 0 0,.d (.int .i64 n),.d (.int .i64 sz),.d (.int .i64 d),.d (.bool false),.ptr 1 0 0 0,.ms 2 (l.length+1) 0 (l.length+1+1),.d (.slice ((aO n).map iD)),.d (.int .i64 (i+1:Nat))] [sbR L a2 s,mdB cs os T,some (.rows (l.length+1) false 23 (ao (x::l++[cmD 4 0 0 f .z [] [] [] []])))] K Q):ah VP 1 [0,2,3,4,5,7,13,14,15] aU [.ptr 0 0 0 0,.d (.int .i64 n),.d (.int .i64 sz),.d (.int .i64 d),.d (.bool false),.ptr 1 0 0 0,.ms 2 l.length 0 (l.length+1),.d (.slice ((aO n).map iD)),.d (.int .i64 i)] [sbR L a s,mdB cs os T,some (.rows l.length false 23 (ao (x::l)))] K Q:=by
 have hwi:=ac i (by omega)
 have ht:decide ((i:Int) < (sz:Int))=true:=decide_eq_true (by omega)
 have hroom:au (l.length+1+1) 376=true:=by rw [au,Bool.and_eq_true,decide_eq_true_eq,decide_eq_true_eq];omega
 have t4:decide ((k:Int) < 4)=false:=decide_eq_false (by omega)
 have t6:decide ((k:Int) < 6)=false:=decide_eq_false (by omega)
 have t9:decide ((k:Int) < 9)=true:=decide_eq_true (by omega)
 have htt:decide ((k:Int) < 8)=true/\decide ((d:Int) > 1)=false\/decide ((k:Int) < 8)=false/\true=true:=by
  rcases (by omega:k < 8/\¬ 1 < d\/¬ k < 8) with ⟨h1,h2⟩ | h1
  · exact .inl ⟨decide_eq_true (by omega),decide_eq_false (by omega)⟩
  · exact .inr ⟨decide_eq_false (by omega),rfl⟩
 unfold ah
 rcases htt with ⟨tA,tB⟩ | ⟨tA,tB⟩
 all_goals ((refine Z3r ?_;(repeat first | (refine oaD (cmD 4 0 0 f .z [] [] [] []) rfl rfl rfl (by simp) rfl hroom rfl ?_;refine Z3r ?_)));rw [hwi];refine hdX rfl rfl rfl rfl ?_;exact h)
theorem mA (L:List Int) (cs:List Ce) (os:List Nat) (T:Ty) (n sz d i a s k a1:Nat) (hi:i < sz) (hsz:sz<=100) (hk9:¬ k < 9) (hk12:k < 12) (r1:Ret VP (.fn 12) [.ptr 0 0 0 0,.d (.int .i64 12)] [sbR L a s] (.d (.int .i64 k)) [sbR L a1 s]) {K:List Fr} {Q:Out->Env->aa->Prop}
 (h:ah VP 1 [0,2,3,4,5,7,13,14,15] aU [.ptr 0 0 0 0,.d (.int .i64 n),.d (.int .i64 sz),.d (.int .i64 d),.d (.bool false),.ptr 1 0 0 0,.nils,.d (.slice ((aO n).map iD)),.d (.int .i64 (i+1:Nat))] [sbR L a1 s,mdB cs os T] K Q):ah VP 1 [0,2,3,4,5,7,13,14,15] aU [.ptr 0 0 0 0,.d (.int .i64 n),.d (.int .i64 sz),.d (.int .i64 d),.d (.bool false),.ptr 1 0 0 0,.nils,.d (.slice ((aO n).map iD)),.d (.int .i64 i)] [sbR L a s,mdB cs os T] K Q:=by
 have hwi:=ac i (by omega)
 have ht:decide ((i:Int) < (sz:Int))=true:=decide_eq_true (by omega)
 have hkk:k=9\/k=10\/k=11:=by omega
 rcases hkk with rfl | rfl | rfl
 all_goals (unfold ah;refine Z3r ?_;rw [hwi];refine hdX rfl rfl rfl rfl ?_;exact h)
theorem lz (L:List Int) (cs:List Ce) (os:List Nat) (T:Ty) (n sz d i a s k a1:Nat) (hi:i < sz) (hsz:sz<=100) (x:D) (l:List D) (hll:l.length<=100) (hk9:¬ k < 9) (hk12:k < 12) (r1:Ret VP (.fn 12) [.ptr 0 0 0 0,.d (.int .i64 12)] [sbR L a s] (.d (.int .i64 k)) [sbR L a1 s]) {K:List Fr} {Q:Out->Env->aa->Prop}
 (h:ah VP 1 [0,2,3,4,5,7,13,14,15] aU [.ptr 0 0 0 0,.d (.int .i64 n),.d (.int .i64 sz),.d (.int .i64 d),.d (.bool false),.ptr 1 0 0 0,.ms 2 l.length 0 (l.length+1),.d (.slice ((aO n).map iD)),.d (.int .i64 (i+1:Nat))] [sbR L a1 s,mdB cs os T,some (.rows l.length false 23 (ao (x::l)))] K Q):ah VP 1 [0,2,3,4,5,7,13,14,15] aU [.ptr 0 0 0 0,.d (.int .i64 n),.d (.int .i64 sz),.d (.int .i64 d),.d (.bool false),.ptr 1 0 0 0,.ms 2 l.length 0 (l.length+1),.d (.slice ((aO n).map iD)),.d (.int .i64 i)] [sbR L a s,mdB cs os T,some (.rows l.length false 23 (ao (x::l)))] K Q:=by
 have hwi:=ac i (by omega)
 have ht:decide ((i:Int) < (sz:Int))=true:=decide_eq_true (by omega)
 have hroom:au (l.length+1+1) 376=true:=by rw [au,Bool.and_eq_true,decide_eq_true_eq,decide_eq_true_eq];omega
 have hkk:k=9\/k=10\/k=11:=by omega
 rcases hkk with rfl | rfl | rfl
 all_goals (unfold ah;refine Z3r ?_;rw [hwi];refine hdX rfl rfl rfl rfl ?_;exact h)
end Go.Proofs.YtncfpmehhfdipaaGreat
namespace Go.Proofs.YtncfpmehhfdipaaGreat
open Go.IntWalk
attribute [local irreducible] au
set_option maxHeartbeats 4000000
set_option maxRecDepth 100000
theorem sd (esz:Nat) (x:D) (l:List D) (y:D):oh esz (x::l++[y])=[some (.rows (l.length+1) false esz (ao (x::l++[y])))]:=by
 simp [oh]
def pP (L:List Int) (n d sz s:Nat) (l:List Cm) (b s':Nat):Prop:=(∀ c∈l,Ok n W0 d c)/\l.length<=sz/\s+(Cm.tbs l).length<=s'/\s'<=5/\b<=L.length
def uB (L:List Int) (cs:List Ce) (os:List Nat) (T:Ty) (d:Nat):Prop := ∀ sz:Nat,sz<=8 -> ∀ a s:Nat,a<=L.length->s<=5 -> ∃ (l:List Cm) (b s':Nat),pP L cs.length d sz s l b s'/\Ret VP (.fn 11) [.ptr 0 0 0 0,.d (moD 0 cs ([]:List Cm) os T),.d (.int .i64 cs.length),.d (.int .i64 sz),.d (.int .i64 d),.d (.bool false)] [sbR L a s] (.d (.slice (l.map Cm.d))) [sbR L b s']
theorem iI {n:Nat} {f:Fo} {d z:Nat} (h:FOk n f) (hd:f.dp<=d) (hz:f.sz<=z) (h3:d<=3) (h40:z<=40):cU n f:=⟨h,by omega,by omega⟩
theorem nu (l:List Cm) (c:Cm):Cm.tbs (l++[c])=Cm.tbs l++c.tb:=by rw [js];simp [Cm.tbs]
theorem gM (L:List Int) (hL:L.length<=1000) (cs:List Ce) (hc1:1<=cs.length) (hc4:cs.length<=4) (os:List Nat) (T:Ty) (d:Nat) (hd1:1<=d) (hd3:d<=3) (ih:1 < d->uB L cs os T (d - 1)) (sz:Nat) (hsz:sz<=8) (s0:Nat) {K:List Fr} {Q:Out->Env->aa->Prop}
 (hend : ∀ (out:List Cm) (a s:Nat),pP L cs.length d sz s0 out a s->ah VP 1 [0,2,3,4,5,7,13,14,15] aU [.ptr 0 0 0 0,.d (.int .i64 cs.length),.d (.int .i64 sz),.d (.int .i64 d),.d (.bool false),.ptr 1 0 0 0,pR 2 (out.map Cm.d),.d (.slice ((aO cs.length).map iD)),.d (.int .i64 sz)] ([sbR L a s,mdB cs os T]++oh 23 (out.map Cm.d)) K Q) :
 ∀ (m i a s:Nat) (out:List Cm),i+m=sz->pP L cs.length d i s0 out a s->ah VP 1 [0,2,3,4,5,7,13,14,15] aU [.ptr 0 0 0 0,.d (.int .i64 cs.length),.d (.int .i64 sz),.d (.int .i64 d),.d (.bool false),.ptr 1 0 0 0,pR 2 (out.map Cm.d),.d (.slice ((aO cs.length).map iD)),.d (.int .i64 i)] ([sbR L a s,mdB cs os T]++oh 23 (out.map Cm.d)) K Q:=by
 intro m
 induction m with
 | zero =>
   intro i a s out hi hg
   have e:i=sz:=by omega
   subst e
   exact hend out a s hg
 | succ m ihm =>
   intro i a s out hi ⟨hok,hlen,htb,hs5,ha⟩
   have hi':i < sz:=by omega
   have hS : ∀ (q:Cm) (r:List Cm) (c:Cm),oh 23 ((q::r++[c]).map Cm.d)=[some (.rows ((r.map Cm.d).length+1) false 23 (ao (q.d::r.map Cm.d++[c.d])))]:=fun q r c=>by rw [List.map_append,List.map_cons,List.map_cons,List.map_nil];exact sd _ _ _ _
   have hV : ∀ (q:Cm) (r:List Cm) (c:Cm),pR 2 ((q::r++[c]).map Cm.d) = .ms 2 ((r.map Cm.d).length+1) 0 ((r.map Cm.d).length+1+1):=fun q r c=>by rw [List.map_append,List.map_cons,List.map_cons,List.map_nil,od]
   have hll : ∀ (q:Cm) (r:List Cm),out=q::r->(r.map Cm.d).length<=100:=fun q r h=>by rw [h] at hlen;simp at hlen ⊢;omega
   have hnext : ∀ (c:Cm) (a' s':Nat),Ok cs.length W0 d c->s+c.tb.length<=s'->s'<=5->a'<=L.length->ah VP 1 [0,2,3,4,5,7,13,14,15] aU [.ptr 0 0 0 0,.d (.int .i64 cs.length),.d (.int .i64 sz),.d (.int .i64 d),.d (.bool false),.ptr 1 0 0 0,pR 2 ((out++[c]).map Cm.d),.d (.slice ((aO cs.length).map iD)),.d (.int .i64 (i+1:Nat))] ([sbR L a' s',mdB cs os T]++oh 23 ((out++[c]).map Cm.d)) K Q:=by
    intro c a' s' hc ht h5 ha'
    refine ihm (i+1) a' s' (out++[c]) (by omega) ⟨?_,by simp;omega,by rw [nu,List.length_append];omega,h5,ha'⟩
    intro x hx
    rw [List.mem_append,List.mem_singleton] at hx
    exact hx.elim (hok x) fun h=>h▸hc
   obtain ⟨k,a1,hk,ha1,r1⟩:=bO L hL 12 (by omega) (by omega) a s ha
   obtain ⟨d',rfl⟩ : ∃ d',d=d'+1:=⟨d - 1,by omega⟩
   by_cases hA:k < 4/\s < 5
   · obtain ⟨v,a2,hv,ha2,r2⟩:=bO L hL cs.length hc1 (by omega) a1 (s+1) ha1
     obtain ⟨lo,w,a3,hw,hl1,hl2,ha3,r3⟩:=qn L hL a2 (s+1) ha2
     have hn:=hnext (.mk 2 v 0 .z (.tab lo w) [] [] [] []) a3 (s+1) (.draw v 0 lo w hv (by omega) hw hl1 hl2) (by show s+1<=s+1;omega) (by omega) ha3
     rcases out with _ | ⟨q,r⟩
     · exact mU L cs os T _ _ _ i a s k a1 hi' (by omega) v 0 a2 a3 lo w hA.1 hA.2 r2 r3 r1 hn
     · rw [hV,hS] at hn
       exact lT L cs os T _ _ _ i a s k a1 hi' (by omega) _ _ (hll q r rfl) v 0 a2 a3 lo w hA.1 hA.2 r2 r3 r1 hn
   by_cases hB:k < 6
   · have hk4:¬ k < 4\/¬ s < 5:=by omega
     obtain ⟨v,a2,hv,ha2,r2⟩:=bO L hL cs.length hc1 (by omega) a1 s ha1
     obtain ⟨f,a3,of,df,zf,ha3,r3⟩:=wS L hL cs.length hc1 hc4 a2 s ha2
     obtain ⟨u,a4,hu,ha4,r4⟩:=bO L hL cs.length hc1 (by omega) a3 s ha3
     have ff:cU cs.length f:=iI of df zf (by omega) (by omega)
     by_cases hvu:v=u
     · have hn:=hnext (.mk 1 0 0 .z .z [] [] [f] [v]) a4 s (.set v f hv ff) (by show s+0<=s;omega) hs5 ha4
       rcases out with _ | ⟨q,r⟩
       · exact ml L cs os T _ _ _ i a s k a1 hi' (by omega) v a2 a3 u a4 f hk4 hB hvu r2 r3 r4 r1 hn
       · rw [hV,hS] at hn
         exact lf L cs os T _ _ _ i a s k a1 hi' (by omega) _ _ (hll q r rfl) v a2 a3 u a4 f hk4 hB hvu r2 r3 r4 r1 hn
     obtain ⟨c,a5,hc,ha5,r5⟩:=bO L hL 3 (by omega) (by omega) a4 s ha4
     by_cases hc0:c=0
     · subst hc0
       obtain ⟨g,a6,og',dg,zg,ha6,r6⟩:=wT L hL cs.length hc1 hc4 a5 s ha5
       have fg:cU cs.length g:=iI og' dg zg (by omega) (by omega)
       have hn:=hnext (.mk 1 0 0 .z .z [] [] [f,g] [v,u]) a6 s (.set2 v u f g hv hu hvu ff fg) (by show s+0<=s;omega) hs5 ha6
       rcases out with _ | ⟨q,r⟩
       · exact mh L cs os T _ _ _ i a s k a1 hi' (by omega) v a2 a3 u a4 a5 a6 f g hk4 hB (fun h=>hvu h.symm) r2 r3 r4 r5 r6 r1 hn
       · rw [hV,hS] at hn
         exact k9 L cs os T _ _ _ i a s k a1 hi' (by omega) _ _ (hll q r rfl) v a2 a3 u a4 a5 a6 f g hk4 hB (fun h=>hvu h.symm) r2 r3 r4 r5 r6 r1 hn
     · have hn:=hnext (.mk 1 0 0 .z .z [] [] [f] [v]) a5 s (.set v f hv ff) (by show s+0<=s;omega) hs5 ha5
       rcases out with _ | ⟨q,r⟩
       · exact mj L cs os T _ _ _ i a s k a1 hi' (by omega) v a2 a3 u a4 c a5 f hk4 hB (fun h=>hvu h.symm) hc0 r2 r3 r4 r5 r1 hn
       · rw [hV,hS] at hn
         exact lc L cs os T _ _ _ i a s k a1 hi' (by omega) _ _ (hll q r rfl) v a2 a3 u a4 c a5 f hk4 hB (fun h=>hvu h.symm) hc0 r2 r3 r4 r5 r1 hn
   by_cases hC:k < 8/\1 < d'+1
   · obtain ⟨f,a2,of,df,zf,ha2,r2⟩:=wS L hL cs.length hc1 hc4 a1 s ha1
     have ff:cU cs.length f:=iI of df zf (by omega) (by omega)
     obtain ⟨z1,a3,hz1,ha3,r3⟩:=bO L hL 3 (by omega) (by omega) a2 s ha2
     obtain ⟨la,a4,s4,⟨oka,lena,tba,h54,ha4⟩,r4⟩:=ih hC.2 z1 (by omega) a3 s ha3 hs5
     obtain ⟨z2,a5,hz2,ha5,r5⟩:=bO L hL 2 (by omega) (by omega) a4 s4 ha4
     obtain ⟨lb,a6,s6,⟨okb,lenb,tbb,h56,ha6⟩,r6⟩:=ih hC.2 z2 (by omega) a5 s4 ha5 h54
     have hn:=hnext (.mk 3 0 0 f .z la lb [] []) a6 s6 (.iff f la lb ff (by omega) (by omega) oka okb) (by simp [Cm.tb];omega) h56 ha6
     rcases out with _ | ⟨q,r⟩
     · rw [List.nil_append,List.map_cons,List.map_nil,Cm.d_eq] at hn
       exact pn L cs os T _ _ _ i a s k a1 hi' (by omega) a2 z1 a3 a4 s4 z2 a5 a6 s6 f la lb (by omega) hB hC.1 hC.2 (by omega) r2 r3 r4 r5 r6 r1 hn
     · rw [hV,hS,Cm.d_eq] at hn
       exact mM L cs os T _ _ _ i a s k a1 hi' (by omega) _ _ (hll q r rfl) a2 z1 a3 a4 s4 z2 a5 a6 s6 f la lb (by omega) hB hC.1 hC.2 (by omega) r2 r3 r4 r5 r6 r1 hn
   by_cases hD:k < 9
   · obtain ⟨f,a2,of,df,zf,ha2,r2⟩:=wS L hL cs.length hc1 hc4 a1 s ha1
     have ff:cU cs.length f:=iI of df zf (by omega) (by omega)
     have hn:=hnext (.mk 4 0 0 f .z [] [] [] []) a2 s (.obs f ff) (by show s+0<=s;omega) hs5 ha2
     rcases out with _ | ⟨q,r⟩
     · exact o9 L cs os T _ _ _ i a s k a1 hi' (by omega) a2 f (by omega) hB hD (by omega) r2 r1 hn
     · rw [hV,hS] at hn
       exact mz L cs os T _ _ _ i a s k a1 hi' (by omega) _ _ (hll q r rfl) a2 f (by omega) hB hD (by omega) r2 r1 hn
   · have hn:=ihm (i+1) a1 s out (by omega) ⟨hok,by omega,htb,hs5,ha1⟩
     rcases out with _ | ⟨q,r⟩
     · exact mA L cs os T _ _ _ i a s k a1 hi' (by omega) hD hk r1 hn
     · exact lz L cs os T _ _ _ i a s k a1 hi' (by omega) _ _ (hll q r rfl) hD hk r1 hn
theorem abB {k:Nat} {res:List VRes} {e:Env} {s:aa} (s':aa) {bs':aa} {xs:List V} {x:D} {ids fz:List Nat} {t:List (Option (List Nat))} {F:(Nat->Option Nat)->aa} [ht:ZTs s' t] [hr:ZRs s' F] (hres:results e s res=some xs) (hd:toD s bB (dZ xs)=some (x,fz)) (hc:aq s fz=s') (hi:cL (cD t 100000 ([]++dM t (List.range k)) (List.range k)) some=some ids) (hs:(ids.map fun i=>getB (F (pos ids)) i)=bs'):fin false k res .ret e s=some (.d x,bs') :=
 ez hres hd hc ((fP ht.h k _).trans (dn hi)) ((ge ids _).trans hs)
theorem lW (L:List Int) (hL:L.length<=1000) (cs:List Ce) (hc1:1<=cs.length) (hc4:cs.length<=4) (os:List Nat) (T:Ty) (d:Nat) (hd1:1<=d) (hd3:d<=3) (ih:1 < d->uB L cs os T (d - 1)):uB L cs os T d:=by
 intro sz hsz a s ha hs
 suffices hrun:Run VP 1 f11.body (cE 0 [.ptr 0 0 0 0,.d (moD 0 cs ([]:List Cm) os T),.d (.int .i64 cs.length),.d (.int .i64 sz),.d (.int .i64 d),.d (.bool false)]) [sbR L a s] (fun o e s' => ∃ x : {p:List Cm×Nat×Nat // pP L cs.length d sz s p.1 p.2.1 p.2.2},fin f11.keep 1 f11.res o e s'=some (.d (.slice (x.1.1.map Cm.d)),[sbR L x.1.2.1 x.1.2.2])) by
  obtain ⟨⟨⟨l,b,s'⟩,hg⟩,h⟩:=nA hrun
  exact ⟨l,b,s',hg,ret_of rfl rfl h⟩
 have hv:=j9 cs.length hc1 hc4
 refine r0 ?_
 refine Z1 ?_
 refine hdX rfl rfl rfl rfl ?_
 refine gM L hL cs hc1 hc4 os T d hd1 hd3 ih sz hsz s ?_ sz 0 a s [] (by omega) ⟨by simp,by simp,by simp [Cm.tbs],hs,ha⟩
 intro out a' s' hg
 have ht:decide ((sz:Int) < (sz:Int))=false:=decide_eq_false (by omega)
 rcases out with _ | ⟨q,r⟩
 · unfold ah
   refine Z1 ?_
   exact ⟨⟨([],a',s'),hg⟩,fe rfl rfl rfl⟩
 · unfold ah
   simp only [List.map_cons,pR,oh]
   refine Z1 ?_
   exact ⟨⟨(q::r,a',s'),hg⟩,abB (s':=[sbR L a' s',mdB cs os T,some (.rows (r.map Cm.d).length true 23 (ao (q.d::r.map Cm.d)))]) (xs:=[.ms 2 (r.map Cm.d).length 0 ((r.map Cm.d).length+1)]) rfl (mg rfl rfl (n6 (q::r))) rfl rfl rfl⟩
theorem pG (L:List Int) (hL:L.length<=1000) (cs:List Ce) (hc1:1<=cs.length) (hc4:cs.length<=4) (os:List Nat) (T:Ty):uB L cs os T 2 :=
 lW L hL cs hc1 hc4 os T 2 (by omega) (by omega) fun _=>lW L hL cs hc1 hc4 os T 1 (by omega) (by omega) fun h=>by omega
theorem abC {k:Nat} {res:List VRes} {e:Env} {s bs':aa} {xs:List V} {v:V} {ids:List Nat} {t:List (Option (List Nat))} {F:(Nat->Option Nat)->aa} [ht:ZTs s t] [hr:ZRs s F] (hres:results e s res=some xs) (hi:cL (cD t 100000 (refs (dZ xs)++dM t (List.range k)) (List.range k)) some=some ids) (hv:ren (pos ids) (dZ xs)=v) (hs:(ids.map fun i=>getB (F (pos ids)) i)=bs'):fin true k res .ret e s=some (v,bs'):=by
 have h1:=(fP ht.h k (refs (dZ xs))).trans (dn hi)
 have h2:=(ge (s:=s) ids (pos ids)).trans hs
 simp only [fin,hres,eo,if_true,h1,hv,h2]
theorem pH (L:List Int) (hL:L.length<=1000) (cs:List Ce) (hc1:1<=cs.length) (hc4:cs.length<=4) (os:List Nat) (T:Ty) (sz:Nat) (hsz:sz<=8) (a s:Nat) (ha:a<=L.length) (hs:s<=5) : ∃ (l:List Cm) (b s':Nat),pP L cs.length 3 sz s l b s'/\Ret VP (.fn 269) [.ptr 0 0 0 0,.d (moD 0 cs ([]:List Cm) os T),.d (.int .i64 cs.length),.d (.int .i64 sz),.d (.int .i64 3),.d (.bool false)] [sbR L a s] (pR 1 (l.map Cm.d)) (sbR L b s'::oh 23 (l.map Cm.d)):=by
 suffices hrun:Run VP 1 f269.body (cE 0 [.ptr 0 0 0 0,.d (moD 0 cs ([]:List Cm) os T),.d (.int .i64 cs.length),.d (.int .i64 sz),.d (.int .i64 3),.d (.bool false)]) [sbR L a s] (fun o e s' => ∃ x : {p:List Cm×Nat×Nat // pP L cs.length 3 sz s p.1 p.2.1 p.2.2},fin f269.keep 1 f269.res o e s'=some (pR 1 (x.1.1.map Cm.d),sbR L x.1.2.1 x.1.2.2::oh 23 (x.1.1.map Cm.d))) by
  obtain ⟨⟨⟨l,b,s'⟩,hg⟩,h⟩:=nA hrun
  exact ⟨l,b,s',hg,cN rfl (fun _ h=>nomatch h) h⟩
 have hv:=j9 cs.length hc1 hc4
 refine r0 ?_
 refine Z1 ?_
 refine hdX rfl rfl rfl rfl ?_
 refine gM L hL cs hc1 hc4 os T 3 (by omega) (by omega) (fun _=>pG L hL cs hc1 hc4 os T) sz hsz s ?_ sz 0 a s [] (by omega) ⟨by simp,by simp,by simp [Cm.tbs],hs,ha⟩
 intro out a' s' hg
 have ht:decide ((sz:Int) < (sz:Int))=false:=decide_eq_false (by omega)
 rcases out with _ | ⟨q,r⟩
 · unfold ah
   refine Z1 ?_
   exact ⟨⟨([],a',s'),hg⟩,fe rfl rfl rfl⟩
 · unfold ah
   simp only [List.map_cons,pR,oh]
   refine Z1 ?_
   exact ⟨⟨(q::r,a',s'),hg⟩,abC (xs:=[.ms 2 (r.map Cm.d).length 0 ((r.map Cm.d).length+1)]) rfl rfl rfl rfl⟩
theorem v4 {n:Nat} {W:List (List D)} : ∀ (h:Nat) (c:Cm),Ok n W h c->Ok n W (h+1) c:=by
 intro h
 induction h with
 | zero=>intro c hc;exact (gf hc).elim
 | succ h ih =>
   intro c hc
   cases hc with
   | set o f ho hf=>exact .set o f ho hf
   | set2 o u f g ho hu hn hf hg=>exact .set2 o u f g ho hu hn hf hg
   | draw v s lo w hv hs hw h1 h2=>exact .draw v s lo w hv hs hw h1 h2
   | iff f a b hf ha hb ca cb=>exact .iff f a b hf ha hb (fun c hc=>ih c (ca c hc)) (fun c hc=>ih c (cb c hc))
   | obs f hf=>exact .obs f hf
   | cut=>exact .cut
theorem JC (L:List Int) (hL:L.length<=1000) (n a s:Nat) (hn:(n:Int) > 0) (ha:a<=L.length) {K:List Fr} {Q:Out->Env->aa->Prop}
 (h : ∀ (c:Ce) (b:Nat),c.Ok->b<=L.length->ah VP 1 [0,1,5,6] fS [.ptr 0 0 0 0,.d (.int .i64 n),.ms 1 0 0 1,.d (.int .i64 1)] [sbR L b s,some (.rows 0 false 3 [[.d (.int .i64 c.k),.d (.int .i64 c.lo),.d (.int .i64 c.hi)]])] K Q):ah VP 1 [0,1,5,6] fS [.ptr 0 0 0 0,.d (.int .i64 n),.nils,.d (.int .i64 0)] [sbR L a s] K Q:=by
 have ht:decide ((0:Int) < (n:Int))=true:=decide_eq_true hn
 obtain ⟨x,a1,hx,ha1,r1⟩:=bO L hL 3 (by omega) (by omega) a s ha
 by_cases hx0:x=0
 · subst hx0
   obtain ⟨y,a2,hy,ha2,r2⟩:=aT L hL (-1) 1 3 (by omega) (by omega) (by omega) (by omega) (by omega) a1 s ha1
   obtain ⟨z,a3,hz,ha3,r3⟩:=aT L hL 1 3 3 (by omega) (by omega) (by omega) (by omega) (by omega) a2 s ha2
   have hw:IntKind.i64.wrap (-1+(y:Int)+(1+(z:Int))) = -1+(y:Int)+(1+(z:Int)):=by rw [i64_in]<;>omega
   have hh:=h ⟨2,-1+(y:Int),IntKind.i64.wrap (-1+(y:Int)+(1+(z:Int)))⟩ a3 (.inr ⟨_,_,rfl,by omega,by omega,by rw [hw];omega,by rw [hw];omega⟩) ha3
   unfold sb at r1 r2 r3
   unfold ah
   refine Z1r ?_
   refine hdX rfl rfl rfl rfl ?_
   exact hh
 · have tx:((x:Int)==0)=false:=by simp;omega
   have hh:=h ⟨1,0,1⟩ a1 (.inl rfl) ha1
   unfold sb at r1
   unfold ah
   refine Z1 ?_
   refine hdX rfl rfl rfl rfl ?_
   exact hh
theorem JB (L:List Int) (hL:L.length<=1000) (n a s:Nat) (c0:Ce) (hn:(n:Int) > 1) (ha:a<=L.length) {K:List Fr} {Q:Out->Env->aa->Prop}
 (h : ∀ (c:Ce) (b:Nat),c.Ok->b<=L.length->ah VP 1 [0,1,5,6] fS [.ptr 0 0 0 0,.d (.int .i64 n),.ms 1 1 0 2,.d (.int .i64 2)] [sbR L b s,some (.rows 1 false 3 [[.d (.int .i64 c0.k),.d (.int .i64 c0.lo),.d (.int .i64 c0.hi)],[.d (.int .i64 c.k),.d (.int .i64 c.lo),.d (.int .i64 c.hi)]])] K Q):ah VP 1 [0,1,5,6] fS [.ptr 0 0 0 0,.d (.int .i64 n),.ms 1 0 0 1,.d (.int .i64 1)] [sbR L a s,some (.rows 0 false 3 [[.d (.int .i64 c0.k),.d (.int .i64 c0.lo),.d (.int .i64 c0.hi)]])] K Q:=by
 have ht:decide ((1:Int) < (n:Int))=true:=decide_eq_true hn
 obtain ⟨x,a1,hx,ha1,r1⟩:=bO L hL 3 (by omega) (by omega) a s ha
 by_cases hx0:x=0
 · subst hx0
   obtain ⟨y,a2,hy,ha2,r2⟩:=aT L hL (-1) 1 3 (by omega) (by omega) (by omega) (by omega) (by omega) a1 s ha1
   obtain ⟨z,a3,hz,ha3,r3⟩:=aT L hL 1 3 3 (by omega) (by omega) (by omega) (by omega) (by omega) a2 s ha2
   have hw:IntKind.i64.wrap (-1+(y:Int)+(1+(z:Int))) = -1+(y:Int)+(1+(z:Int)):=by rw [i64_in]<;>omega
   have hh:=h ⟨2,-1+(y:Int),IntKind.i64.wrap (-1+(y:Int)+(1+(z:Int)))⟩ a3 (.inr ⟨_,_,rfl,by omega,by omega,by rw [hw];omega,by rw [hw];omega⟩) ha3
   unfold sb at r1 r2 r3
   unfold ah
   refine Z1r ?_
   refine hdX rfl rfl rfl rfl ?_
   exact hh
 · have tx:((x:Int)==0)=false:=by simp;omega
   have hh:=h ⟨1,0,1⟩ a1 (.inl rfl) ha1
   unfold sb at r1
   unfold ah
   refine Z1 ?_
   refine hdX rfl rfl rfl rfl ?_
   exact hh
theorem JA (L:List Int) (hL:L.length<=1000) (n a s:Nat) (c0 c1:Ce) (hn:(n:Int) > 2) (ha:a<=L.length) {K:List Fr} {Q:Out->Env->aa->Prop}
 (h : ∀ (c:Ce) (b:Nat),c.Ok->b<=L.length->ah VP 1 [0,1,5,6] fS [.ptr 0 0 0 0,.d (.int .i64 n),.ms 1 2 0 3,.d (.int .i64 3)] [sbR L b s,some (.rows 2 false 3 [[.d (.int .i64 c0.k),.d (.int .i64 c0.lo),.d (.int .i64 c0.hi)],[.d (.int .i64 c1.k),.d (.int .i64 c1.lo),.d (.int .i64 c1.hi)],[.d (.int .i64 c.k),.d (.int .i64 c.lo),.d (.int .i64 c.hi)]])] K Q):ah VP 1 [0,1,5,6] fS [.ptr 0 0 0 0,.d (.int .i64 n),.ms 1 1 0 2,.d (.int .i64 2)] [sbR L a s,some (.rows 1 false 3 [[.d (.int .i64 c0.k),.d (.int .i64 c0.lo),.d (.int .i64 c0.hi)],[.d (.int .i64 c1.k),.d (.int .i64 c1.lo),.d (.int .i64 c1.hi)]])] K Q:=by
 have ht:decide ((2:Int) < (n:Int))=true:=decide_eq_true hn
 obtain ⟨x,a1,hx,ha1,r1⟩:=bO L hL 3 (by omega) (by omega) a s ha
 by_cases hx0:x=0
 · subst hx0
   obtain ⟨y,a2,hy,ha2,r2⟩:=aT L hL (-1) 1 3 (by omega) (by omega) (by omega) (by omega) (by omega) a1 s ha1
   obtain ⟨z,a3,hz,ha3,r3⟩:=aT L hL 1 3 3 (by omega) (by omega) (by omega) (by omega) (by omega) a2 s ha2
   have hw:IntKind.i64.wrap (-1+(y:Int)+(1+(z:Int))) = -1+(y:Int)+(1+(z:Int)):=by rw [i64_in]<;>omega
   have hh:=h ⟨2,-1+(y:Int),IntKind.i64.wrap (-1+(y:Int)+(1+(z:Int)))⟩ a3 (.inr ⟨_,_,rfl,by omega,by omega,by rw [hw];omega,by rw [hw];omega⟩) ha3
   unfold sb at r1 r2 r3
   unfold ah
   refine Z1r ?_
   refine hdX rfl rfl rfl rfl ?_
   exact hh
 · have tx:((x:Int)==0)=false:=by simp;omega
   have hh:=h ⟨1,0,1⟩ a1 (.inl rfl) ha1
   unfold sb at r1
   unfold ah
   refine Z1 ?_
   refine hdX rfl rfl rfl rfl ?_
   exact hh
theorem Jz (L:List Int) (hL:L.length<=1000) (n a s:Nat) (c0 c1 c2:Ce) (hn:(n:Int) > 3) (ha:a<=L.length) {K:List Fr} {Q:Out->Env->aa->Prop}
 (h : ∀ (c:Ce) (b:Nat),c.Ok->b<=L.length->ah VP 1 [0,1,5,6] fS [.ptr 0 0 0 0,.d (.int .i64 n),.ms 1 3 0 4,.d (.int .i64 4)] [sbR L b s,some (.rows 3 false 3 [[.d (.int .i64 c0.k),.d (.int .i64 c0.lo),.d (.int .i64 c0.hi)],[.d (.int .i64 c1.k),.d (.int .i64 c1.lo),.d (.int .i64 c1.hi)],[.d (.int .i64 c2.k),.d (.int .i64 c2.lo),.d (.int .i64 c2.hi)],[.d (.int .i64 c.k),.d (.int .i64 c.lo),.d (.int .i64 c.hi)]])] K Q):ah VP 1 [0,1,5,6] fS [.ptr 0 0 0 0,.d (.int .i64 n),.ms 1 2 0 3,.d (.int .i64 3)] [sbR L a s,some (.rows 2 false 3 [[.d (.int .i64 c0.k),.d (.int .i64 c0.lo),.d (.int .i64 c0.hi)],[.d (.int .i64 c1.k),.d (.int .i64 c1.lo),.d (.int .i64 c1.hi)],[.d (.int .i64 c2.k),.d (.int .i64 c2.lo),.d (.int .i64 c2.hi)]])] K Q:=by
 have ht:decide ((3:Int) < (n:Int))=true:=decide_eq_true hn
 obtain ⟨x,a1,hx,ha1,r1⟩:=bO L hL 3 (by omega) (by omega) a s ha
 by_cases hx0:x=0
 · subst hx0
   obtain ⟨y,a2,hy,ha2,r2⟩:=aT L hL (-1) 1 3 (by omega) (by omega) (by omega) (by omega) (by omega) a1 s ha1
   obtain ⟨z,a3,hz,ha3,r3⟩:=aT L hL 1 3 3 (by omega) (by omega) (by omega) (by omega) (by omega) a2 s ha2
   have hw:IntKind.i64.wrap (-1+(y:Int)+(1+(z:Int))) = -1+(y:Int)+(1+(z:Int)):=by rw [i64_in]<;>omega
   have hh:=h ⟨2,-1+(y:Int),IntKind.i64.wrap (-1+(y:Int)+(1+(z:Int)))⟩ a3 (.inr ⟨_,_,rfl,by omega,by omega,by rw [hw];omega,by rw [hw];omega⟩) ha3
   unfold sb at r1 r2 r3
   unfold ah
   refine Z1r ?_
   refine hdX rfl rfl rfl rfl ?_
   exact hh
 · have tx:((x:Int)==0)=false:=by simp;omega
   have hh:=h ⟨1,0,1⟩ a1 (.inl rfl) ha1
   unfold sb at r1
   unfold ah
   refine Z1 ?_
   refine hdX rfl rfl rfl rfl ?_
   exact hh
theorem mC (L:List Int) (hL:L.length<=1000) (n:Nat) (hn1:1<=n) (hn4:n<=4) (a s:Nat) (ha:a<=L.length) : ∃ (cs:List Ce) (b:Nat),cs.length=n/\(∀ c∈cs,c.Ok)/\b<=L.length/\Ret VP (.fn 10) [.ptr 0 0 0 0,.d (.int .i64 n)] [sb L a s] (.d (.slice (cs.map Ce.d))) [sb L b s]:=by
 unfold sb
 suffices hrun:Run VP 1 f10.body (cE 0 [.ptr 0 0 0 0,.d (.int .i64 n)]) [sbR L a s] (fun o e s' => ∃ x : {p:List Ce×Nat // p.1.length=n/\(∀ c∈p.1,c.Ok)/\p.2<=L.length},fin f10.keep 1 f10.res o e s'=some (.d (.slice (x.1.1.map Ce.d)),[sbR L x.1.2 s])) by
  obtain ⟨⟨⟨cs,b⟩,h1,h2,h3⟩,h⟩:=nA hrun
  exact ⟨cs,b,h1,h2,h3,ret_of rfl rfl h⟩
 refine r0 ?_
 refine Z1 ?_
 refine hdX rfl rfl rfl rfl ?_
 refine JC L hL n a s (by omega) ha fun c0 b0 o0' hb0 => ?_
 by_cases hn:n=1
 · have ht:decide ((1:Int) < (n:Int))=false:=decide_eq_false (by omega)
   unfold ah
   refine Z1 ?_
   exact ⟨⟨([c0],b0),⟨hn.symm,by intro c hc;simp at hc;rw [hc];assumption,hb0⟩⟩,fe rfl rfl rfl⟩
 refine JB L hL n b0 s c0 (by omega) hb0 fun c1 b1 o1' hb1 => ?_
 by_cases hn:n=2
 · have ht:decide ((2:Int) < (n:Int))=false:=decide_eq_false (by omega)
   unfold ah
   refine Z1 ?_
   exact ⟨⟨([c0,c1],b1),⟨hn.symm,by intro c hc;simp at hc;rcases hc with rfl | rfl<;>assumption,hb1⟩⟩,fe rfl rfl rfl⟩
 refine JA L hL n b1 s c0 c1 (by omega) hb1 fun c2 b2 o2' hb2 => ?_
 by_cases hn:n=3
 · have ht:decide ((3:Int) < (n:Int))=false:=decide_eq_false (by omega)
   unfold ah
   refine Z1 ?_
   exact ⟨⟨([c0,c1,c2],b2),⟨hn.symm,by intro c hc;simp at hc;rcases hc with rfl | rfl | rfl<;>assumption,hb2⟩⟩,fe rfl rfl rfl⟩
 refine Jz L hL n b2 s c0 c1 c2 (by omega) hb2 fun c3 b3 o3' hb3 => ?_
 have hn:n=4:=by omega
 have ht:decide ((4:Int) < (n:Int))=false:=decide_eq_false (by omega)
 unfold ah
 refine Z1 ?_
 exact ⟨⟨([c0,c1,c2,c3],b3),⟨hn.symm,by intro c hc;simp at hc;rcases hc with rfl | rfl | rfl | rfl<;>assumption,hb3⟩⟩,fe rfl rfl rfl⟩
end Go.Proofs.YtncfpmehhfdipaaGreat
