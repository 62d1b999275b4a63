/- Runs: a run from its beginning. -/
import Derived.Test.YtncfpmehhfdipaaGreatA08
import Derived.Test.YtncfpmehhfdipaaGreatA15
set_option linter.unusedSimpArgs false
set_option linter.unusedVariables false
set_option linter.unnecessarySimpa false
namespace Go.Proofs.YtncfpmehhfdipaaGreat
open Go.IntWalk
attribute [local irreducible] au
set_option maxHeartbeats 64000000
set_option maxRecDepth 100000
theorem I0 {k:Nat} {res:List VRes} {e:Env} {s s' bs':aa} {xs:List V} {x:D} {fz ids:List Nat} {t:List (Option (List Nat))} {F:(Nat->Option Nat)->aa} (hres:results e s res=some xs) (hd:toD s bB (dZ xs)=some (x,fz)) (hc:fF (aq s fz) some=some s') [ht:ZTs s' t] [hr:ZRs s' F] (hi:cL (cD t 100000 ([]++dM t (List.range k)) (List.range k)) some=some ids) (hs:(ids.map fun i=>getB (F (pos ids)) i)=bs'):fin false k res .ret e s=some (.d x,bs'):=by
 rw [ce] at hc;injection hc with hc
 exact ez hres hd hc ((fP ht.h k _).trans (dn hi)) ((ge ids _).trans hs)
abbrev Shp.chs:Shp->List (Nat×Nat)
 | .n0=>[]
 | .n1=>[]
 | .a0 c ch=>c::ch
 | .a1 c ch=>c::ch
 | .c8 c ch=>c::ch
 | .t0=>[]
 | .ta c ch=>c::ch
 | .tc c ch=>c::ch
theorem ShI.chs {O:Orc} {ws:List (List D)} {x:X} {p:PSt} {shq0:Shp} (h:ShI O ws x p shq0):x.ch=shq0.chs:=by
 cases shq0<;>exact h.2
abbrev Shp.fnv:Shp->V
 | .t0 => .func 441 [.ptr 0 0 0 0] []
 | _ => .func 39 [] [.ptr 0 0 0 0,.ptr 1 0 0 0,.ptr 2 0 0 0]
abbrev Shp.lent (b:Nat) (ts:List Nat) (n:Nat) (p:PSt):Shp->aa
 | .n0=>[a6X (.d (.int .i64 p.n)),a6X .nils,a6X .nils]
 | .t0=>[some (rdB b ts n)]
 | .ta _ _=>[some (rdB b ts n)]
 | .tc _ _=>[some (rdB b ts n)]
 | _=>pkS p.n p.v p.j p.ps p.L
theorem a8R (a:Ce) (bd:List Cm) (os:List Nat) (T:Ty) (hcs : ∀ c∈[a],c.Ok) (p p':PSt) (shq0 sh':Shp) (b:Nat) (ts:List Nat) (hsh:shq0.ent=shq0/\shq0.chs=[]) (g:GoS shq0 sh') (y:X) (hy:y.ch=sh'.chs) (ok:Bool) (hx:Ret VP (.fn 67) [.ptr 0 0 0 0,.d (.slice (bd.map Cm.d))] (stq ⟨[a],bd.map Cm.d,os,T,b,ts⟩ (x0 [a]) p shq0) (.d (.bool ok)) (stq ⟨[a],bd.map Cm.d,os,T,b,ts⟩ y p' sh')) :
 Ret VP (.fn 38) [.d (moD 0 [a] bd os T),shq0.fnv] (shq0.lent b ts 0 p) (.d (.tuple [trD y,.int .i64 0])) (sh'.lent b ts y.tk p'):=by
 have h1:=tf
 have ca:=bI a (hcs a (by simp)) 0
 have hq:=Hd.mk hx
 clear hx
 have e:trD y = .agg [.slice (y.ch.map chD),.slice [ct y.m],.slice (y.st.map iD),.int .i64 y.en]:=rfl
 rw [e,hy]
 cases shq0 with
 | a0 c ch=>cases hsh.2
 | a1 c ch=>cases hsh.2
 | c8 c ch=>cases hsh.2
 | ta c ch=>cases hsh.2
 | tc c ch=>cases hsh.2
 | n0 =>
   dsimp only [Shp.fnv]
   refine ret_of rfl rfl (r0 ?_)
   refine Z3r ?_
   refine lhX rfl rfl rfl rfl ?_
   refine Z3r ?_
   refine lhX rfl rfl rfl rfl ?_
   cases g with
   | g00 =>
     (refine Z3r ?_;(repeat first | (refine oRX hq.h rfl rfl rfl rfl rfl rfl rfl rfl ?_;refine Z3r ?_)))
     exact I0 rfl (kc (en:=y.en) rfl rfl) rfl rfl rfl
   | g0a c1 ch1 =>
     (refine Z3r ?_;(repeat first | (refine oRX hq.h rfl rfl rfl rfl rfl rfl rfl rfl ?_;refine Z3r ?_)))
     exact I0 rfl (ka (ch:=c1::ch1) (en:=y.en) rfl rfl rfl rfl) rfl rfl rfl
 | n1 =>
   dsimp only [Shp.fnv]
   refine ret_of rfl rfl (r0 ?_)
   refine Z3r ?_
   refine lhX rfl rfl rfl rfl ?_
   refine Z3r ?_
   refine lhX rfl rfl rfl rfl ?_
   cases g with
   | g11 =>
     (refine Z3r ?_;(repeat first | (refine oRX hq.h rfl rfl rfl rfl rfl rfl rfl rfl ?_;refine Z3r ?_)))
     exact I0 rfl (kc (en:=y.en) rfl rfl) rfl rfl rfl
   | g1b c1 ch1 =>
     (refine Z3r ?_;(repeat first | (refine oRX hq.h rfl rfl rfl rfl rfl rfl rfl rfl ?_;refine Z3r ?_)))
     exact I0 rfl (ka (ch:=c1::ch1) (en:=y.en) rfl rfl rfl rfl) rfl rfl rfl
 | t0 =>
   dsimp only [Shp.fnv]
   refine ret_of rfl rfl (r0 ?_)
   refine Z3r ?_
   refine lhX rfl rfl rfl rfl ?_
   refine Z3r ?_
   refine lhX rfl rfl rfl rfl ?_
   cases g with
   | h00 =>
     (refine Z3r ?_;(repeat first | (refine oRX hq.h rfl rfl rfl rfl rfl rfl rfl rfl ?_;refine Z3r ?_)))
     exact I0 rfl (kc (en:=y.en) rfl rfl) rfl rfl rfl
   | h0a c1 ch1 =>
     (refine Z3r ?_;(repeat first | (refine oRX hq.h rfl rfl rfl rfl rfl rfl rfl rfl ?_;refine Z3r ?_)))
     exact I0 rfl (ka (ch:=c1::ch1) (en:=y.en) rfl rfl rfl rfl) rfl rfl rfl
theorem a8Q (a e1:Ce) (bd:List Cm) (os:List Nat) (T:Ty) (hcs : ∀ c∈[a,e1],c.Ok) (p p':PSt) (shq0 sh':Shp) (b:Nat) (ts:List Nat) (hsh:shq0.ent=shq0/\shq0.chs=[]) (g:GoS shq0 sh') (y:X) (hy:y.ch=sh'.chs) (ok:Bool) (hx:Ret VP (.fn 67) [.ptr 0 0 0 0,.d (.slice (bd.map Cm.d))] (stq ⟨[a,e1],bd.map Cm.d,os,T,b,ts⟩ (x0 [a,e1]) p shq0) (.d (.bool ok)) (stq ⟨[a,e1],bd.map Cm.d,os,T,b,ts⟩ y p' sh')) :
 Ret VP (.fn 38) [.d (moD 0 [a,e1] bd os T),shq0.fnv] (shq0.lent b ts 0 p) (.d (.tuple [trD y,.int .i64 0])) (sh'.lent b ts y.tk p'):=by
 have h1:=tf
 have ca:=bI a (hcs a (by simp)) 0
 have ce1:=bI e1 (hcs e1 (by simp)) 0
 have hq:=Hd.mk hx
 clear hx
 have e:trD y = .agg [.slice (y.ch.map chD),.slice [ct y.m],.slice (y.st.map iD),.int .i64 y.en]:=rfl
 rw [e,hy]
 cases shq0 with
 | a0 c ch=>cases hsh.2
 | a1 c ch=>cases hsh.2
 | c8 c ch=>cases hsh.2
 | ta c ch=>cases hsh.2
 | tc c ch=>cases hsh.2
 | n0 =>
   dsimp only [Shp.fnv]
   refine ret_of rfl rfl (r0 ?_)
   refine Z3r ?_
   refine lhX rfl rfl rfl rfl ?_
   refine Z3r ?_
   refine lhX rfl rfl rfl rfl ?_
   refine Z3r ?_
   refine lhX rfl rfl rfl rfl ?_
   cases g with
   | g00 =>
     (refine Z3r ?_;(repeat first | (refine oRX hq.h rfl rfl rfl rfl rfl rfl rfl rfl ?_;refine Z3r ?_)))
     exact I0 rfl (kc (en:=y.en) rfl rfl) rfl rfl rfl
   | g0a c1 ch1 =>
     (refine Z3r ?_;(repeat first | (refine oRX hq.h rfl rfl rfl rfl rfl rfl rfl rfl ?_;refine Z3r ?_)))
     exact I0 rfl (ka (ch:=c1::ch1) (en:=y.en) rfl rfl rfl rfl) rfl rfl rfl
 | n1 =>
   dsimp only [Shp.fnv]
   refine ret_of rfl rfl (r0 ?_)
   refine Z3r ?_
   refine lhX rfl rfl rfl rfl ?_
   refine Z3r ?_
   refine lhX rfl rfl rfl rfl ?_
   refine Z3r ?_
   refine lhX rfl rfl rfl rfl ?_
   cases g with
   | g11 =>
     (refine Z3r ?_;(repeat first | (refine oRX hq.h rfl rfl rfl rfl rfl rfl rfl rfl ?_;refine Z3r ?_)))
     exact I0 rfl (kc (en:=y.en) rfl rfl) rfl rfl rfl
   | g1b c1 ch1 =>
     (refine Z3r ?_;(repeat first | (refine oRX hq.h rfl rfl rfl rfl rfl rfl rfl rfl ?_;refine Z3r ?_)))
     exact I0 rfl (ka (ch:=c1::ch1) (en:=y.en) rfl rfl rfl rfl) rfl rfl rfl
 | t0 =>
   dsimp only [Shp.fnv]
   refine ret_of rfl rfl (r0 ?_)
   refine Z3r ?_
   refine lhX rfl rfl rfl rfl ?_
   refine Z3r ?_
   refine lhX rfl rfl rfl rfl ?_
   refine Z3r ?_
   refine lhX rfl rfl rfl rfl ?_
   cases g with
   | h00 =>
     (refine Z3r ?_;(repeat first | (refine oRX hq.h rfl rfl rfl rfl rfl rfl rfl rfl ?_;refine Z3r ?_)))
     exact I0 rfl (kc (en:=y.en) rfl rfl) rfl rfl rfl
   | h0a c1 ch1 =>
     (refine Z3r ?_;(repeat first | (refine oRX hq.h rfl rfl rfl rfl rfl rfl rfl rfl ?_;refine Z3r ?_)))
     exact I0 rfl (ka (ch:=c1::ch1) (en:=y.en) rfl rfl rfl rfl) rfl rfl rfl
theorem a8P (a e1 e2:Ce) (bd:List Cm) (os:List Nat) (T:Ty) (hcs : ∀ c∈[a,e1,e2],c.Ok) (p p':PSt) (shq0 sh':Shp) (b:Nat) (ts:List Nat) (hsh:shq0.ent=shq0/\shq0.chs=[]) (g:GoS shq0 sh') (y:X) (hy:y.ch=sh'.chs) (ok:Bool) (hx:Ret VP (.fn 67) [.ptr 0 0 0 0,.d (.slice (bd.map Cm.d))] (stq ⟨[a,e1,e2],bd.map Cm.d,os,T,b,ts⟩ (x0 [a,e1,e2]) p shq0) (.d (.bool ok)) (stq ⟨[a,e1,e2],bd.map Cm.d,os,T,b,ts⟩ y p' sh')) :
 Ret VP (.fn 38) [.d (moD 0 [a,e1,e2] bd os T),shq0.fnv] (shq0.lent b ts 0 p) (.d (.tuple [trD y,.int .i64 0])) (sh'.lent b ts y.tk p'):=by
 have h1:=tf
 have ca:=bI a (hcs a (by simp)) 0
 have ce1:=bI e1 (hcs e1 (by simp)) 0
 have ce2:=bI e2 (hcs e2 (by simp)) 0
 have hq:=Hd.mk hx
 clear hx
 have e:trD y = .agg [.slice (y.ch.map chD),.slice [ct y.m],.slice (y.st.map iD),.int .i64 y.en]:=rfl
 rw [e,hy]
 cases shq0 with
 | a0 c ch=>cases hsh.2
 | a1 c ch=>cases hsh.2
 | c8 c ch=>cases hsh.2
 | ta c ch=>cases hsh.2
 | tc c ch=>cases hsh.2
 | n0 =>
   dsimp only [Shp.fnv]
   refine ret_of rfl rfl (r0 ?_)
   refine Z3r ?_
   refine lhX rfl rfl rfl rfl ?_
   refine Z3r ?_
   refine lhX rfl rfl rfl rfl ?_
   refine Z3r ?_
   refine lhX rfl rfl rfl rfl ?_
   refine Z3r ?_
   refine lhX rfl rfl rfl rfl ?_
   cases g with
   | g00 =>
     (refine Z3r ?_;(repeat first | (refine oRX hq.h rfl rfl rfl rfl rfl rfl rfl rfl ?_;refine Z3r ?_)))
     exact I0 rfl (kc (en:=y.en) rfl rfl) rfl rfl rfl
   | g0a c1 ch1 =>
     (refine Z3r ?_;(repeat first | (refine oRX hq.h rfl rfl rfl rfl rfl rfl rfl rfl ?_;refine Z3r ?_)))
     exact I0 rfl (ka (ch:=c1::ch1) (en:=y.en) rfl rfl rfl rfl) rfl rfl rfl
 | n1 =>
   dsimp only [Shp.fnv]
   refine ret_of rfl rfl (r0 ?_)
   refine Z3r ?_
   refine lhX rfl rfl rfl rfl ?_
   refine Z3r ?_
   refine lhX rfl rfl rfl rfl ?_
   refine Z3r ?_
   refine lhX rfl rfl rfl rfl ?_
   refine Z3r ?_
   refine lhX rfl rfl rfl rfl ?_
   cases g with
   | g11 =>
     (refine Z3r ?_;(repeat first | (refine oRX hq.h rfl rfl rfl rfl rfl rfl rfl rfl ?_;refine Z3r ?_)))
     exact I0 rfl (kc (en:=y.en) rfl rfl) rfl rfl rfl
   | g1b c1 ch1 =>
     (refine Z3r ?_;(repeat first | (refine oRX hq.h rfl rfl rfl rfl rfl rfl rfl rfl ?_;refine Z3r ?_)))
     exact I0 rfl (ka (ch:=c1::ch1) (en:=y.en) rfl rfl rfl rfl) rfl rfl rfl
 | t0 =>
   dsimp only [Shp.fnv]
   refine ret_of rfl rfl (r0 ?_)
   refine Z3r ?_
   refine lhX rfl rfl rfl rfl ?_
   refine Z3r ?_
   refine lhX rfl rfl rfl rfl ?_
   refine Z3r ?_
   refine lhX rfl rfl rfl rfl ?_
   refine Z3r ?_
   refine lhX rfl rfl rfl rfl ?_
   cases g with
   | h00 =>
     (refine Z3r ?_;(repeat first | (refine oRX hq.h rfl rfl rfl rfl rfl rfl rfl rfl ?_;refine Z3r ?_)))
     exact I0 rfl (kc (en:=y.en) rfl rfl) rfl rfl rfl
   | h0a c1 ch1 =>
     (refine Z3r ?_;(repeat first | (refine oRX hq.h rfl rfl rfl rfl rfl rfl rfl rfl ?_;refine Z3r ?_)))
     exact I0 rfl (ka (ch:=c1::ch1) (en:=y.en) rfl rfl rfl rfl) rfl rfl rfl
end Go.Proofs.YtncfpmehhfdipaaGreat
