/- More rules: any operation in a region that draws its order; maps, seen. -/
import Derived.Test.YtncfpmehhfdipaaGreatA05
import Derived.ChangeSlices
import Derived.OpenShut
set_option linter.unusedSimpArgs false
set_option linter.unusedVariables false
set_option linter.unnecessarySimpa false
namespace Go.Proofs.YtncfpmehhfdipaaGreat
variable {p:bh} {k:Nat}
theorem fw {b0:Nat} {o:VOper} {os:List VOper} {e e1:Env} {s s1:aa} {Q:Env->aa->List Foot->Prop} (h:Ops p b0 [o] e s fun e' s'=>e'=e1/\s'=s1) (hq:dJ p b0 os e1 s1 fun e' s' fs=>Q e' s' (footOper false (al p) b0 o e s s1::fs)):dJ p b0 (o::os) e s Q:=rh h (fun _ _ h=>h) hq
def aaT {α:Sort _} (x:D) (K:D->α):α :=
 match x with
 | .int k n=>K (.int k n)
 | .bool b=>K (.bool b)
 | .agg cs=>K (.agg cs)
 | .slice cs=>K (.slice cs)
 | .str cs=>K (.str cs)
 | x=>K x
theorem vR {α:Sort _} (x:D) (K:D->α):aaT x K=K x:=by
 unfold aaT
 split<;>rfl
def sM {α:Sort _} : List D->(List D->α)->α
 | [],K=>K []
 | x::xs,K=>aaT x fun x=>sM xs fun xs=>K (x::xs)
theorem nw {α:Sort _} : ∀ (xs:List D) (K:List D->α),sM xs K=K xs
 | [],K=>rfl
 | x::xs,K=>by simp only [sM,vR,nw xs]
def aa5 {α:Sort _} (x:D) (K:D->α):α :=
 match x with
 | .int k n=>K (.int k n)
 | .bool b=>K (.bool b)
 | .agg cs=>sM cs fun cs=>K (.agg cs)
 | .str cs=>K (.str cs)
 | x=>K x
theorem vD {α:Sort _} (x:D) (K:D->α):aa5 x K=K x:=by
 unfold aa5
 split<;>first | rfl | simp only [nw]
def aa6 {α:Sort _} : List (D×V)->(List (D×V)->α)->α
 | [],K=>K []
 | (a,x)::xs,K=>aa5 a fun a=>gQ x fun x=>aa6 xs fun xs=>K ((a,x)::xs)
theorem qE {α:Sort _} : ∀ (xs:List (D×V)) (K:List (D×V)->α),aa6 xs K=K xs
 | [],K=>rfl
 | (a,x)::xs,K=>by simp only [aa6,bX,vD,qE xs]
def ja {α:Sort _} : aa->(aa->α)->α
 | [],K=>K []
 | none::s,K=>ja s fun s=>K (none::s)
 | some (.rows v ro e els)::s,K=>iw els fun els=>ja s fun s=>K (some (.rows v ro e els)::s)
 | some (.map es)::s,K=>aa6 es fun es=>ja s fun s=>K (some (.map es)::s)
 | some (.loop st j env ps a b)::s,K=>ja s fun s=>K (some (.loop st j env ps a b)::s)
theorem eg {α:Sort _} : ∀ (s:aa) (K:aa->α),ja s K=K s
 | [],K=>rfl
 | none::s,K=>by simp only [ja,eg s]
 | some (.rows v ro e els)::s,K=>by simp only [ja,fY,eg s]
 | some (.map es)::s,K=>by simp only [ja,qE,eg s]
 | some (.loop st j env ps a b)::s,K=>by simp only [ja,eg s]
def vP (r:Option (Res×aa)):Option (V×aa) :=
 match r with
 | some (.val x,s)=>gQ x fun x=>ja s fun s=>some (x,s)
 | some (.none,s)=>ja s fun s=>some (cA,s)
 | none=>none
theorem we (r:Option (Res×aa)):vP r=oT r:=by
 unfold vP oT
 split<;>simp only [eg,aF]
theorem ovx {b0:Nat} {d:Option Nat} {os:List VOper} {e:Env} {s s1:aa} {op:VOp} {x:V} {Q:Env->aa->Prop} (h1:vP (ae (fun _ _ _=>none) (fun _=>[]) b0 op e s)=some (x,s1)) (h:Ops p b0 os (put e d x) s1 Q):Ops p b0 (⟨d,op,none⟩::os) e s Q:=ek (by rw [<- we];exact h1) h
def uQ (k:Nat) (live:List Nat) (e:Env) (s:aa):Option (List V×aa) :=
 match eW k live e s with
 | some (vs,s)=>ja s fun s=>some (vs,s)
 | none=>none
theorem lhx {live:List Nat} {body:VCode} {e:Env} {s s1:aa} {vs:List V} {K:List Fr} {Q:Out->Env->aa->Prop} (h:uQ k live e s=some (vs,s1)) (hb:Run p k body (dQ (live.zip vs)) s1 (bl p k (.loop live body::K) Q)):Loop p k live body e s (bl p k K Q):=by
 refine af ?_ (by unfold ah;exact hb)
 unfold uQ at h
 split at h
 · rename_i x hx;rw [eg] at h;rw [hx];exact h
 · cases h
section
variable {b0:Nat} {d:Option Nat} {os:List VOper} {e:Env} {s s2:aa}
theorem cF {a b:aa} (h:ja a some=some b):dF a some=some b:=by rw [eg] at h;rw [aF];exact h
theorem oNx {Q:Env->aa->Prop} {f:Nat} {args:List Opd} {as:List V} {fz:List Nat} {r0 v:V} {bs s2:aa} (hc:ai s (al p f) (args.map (ev e))=some (as,fz)) (hr:refsL as=[]) (hret:Ret p (.fn f) as [] r0 bs) (hv:gQ (ren (am [] bs s.length) r0) some=some v)
 (hs:ja (aj [] bs (if bg [] bs r0 then s else aq s fz) (am [] bs s.length)) some=some s2) (h:Ops p b0 os (put e d v) s2 Q):Ops p b0 (⟨d,.call f args,none⟩::os) e s Q:=oN hc hr hret hv (cF hs) h
theorem oCx {Q:Env->aa->Prop} {f:Nat} {args:List Opd} {as:List V} {fz:List Nat} {r:D} (hc:ai s (al p f) (args.map (ev e))=some (as,fz)) (hr:refsL as=[]) (hret:Ret p (.fn f) as [] (.d r) []) (hs:ja (if gl r then s else aq s fz) some=some s2) (h:Ops p b0 os (put e d (.d r)) s2 Q):Ops p b0 (⟨d,.call f args,none⟩::os) e s Q:=oC hc hr hret (cF hs) h
theorem oC1 {Q:Env->aa->Prop} {f:Nat} {args:List Opd} {as:List V} {fz:List Nat} {r:D} (hret:Ret p (.fn f) as [] (.d r) []) (hc:ai s (al p f) (args.map (ev e))=some (as,fz)) (hr:refsL as=[]) (hs:ja (if gl r then s else aq s fz) some=some s2) (h:Ops p b0 os (put e d (.d r)) s2 Q):Ops p b0 (⟨d,.call f args,none⟩::os) e s Q:=oCx hc hr hret hs h
theorem oN1 {Q:Env->aa->Prop} {f:Nat} {args:List Opd} {as:List V} {fz:List Nat} {r0 v:V} {bs:aa} (hret:Ret p (.fn f) as [] r0 bs) (hc:ai s (al p f) (args.map (ev e))=some (as,fz)) (hr:refsL as=[]) (hv:gQ (ren (am [] bs s.length) r0) some=some v)
 (hs:ja (aj [] bs (if bg [] bs r0 then s else aq s fz) (am [] bs s.length)) some=some s2) (h:Ops p b0 os (put e d v) s2 Q):Ops p b0 (⟨d,.call f args,none⟩::os) e s Q:=oNx hc hr hret hv hs h
theorem oR1 {Q:Env->aa->Prop} {f:Nat} {args:List Opd} {as as':List V} {fz ids:List Nat} {r0 v:V} {bs bs0:aa} (hret:Ret p (.fn f) as' bs0 r0 bs) (hc:ai s (al p f) (args.map (ev e))=some (as,fz)) (hi:aM s (aA s) (refsL as) []=ids) (hd:(ids.all fun i => !fz.contains i)=true)
 (has:fX (renL (pos ids) as) some=some as') (hbs:dF (pack s ids (pos ids)) some=some bs0) (hl:(decide (ids.length<=bs.length)&&gT (bs.take ids.length))=true) (hv:gQ (ren (am ids bs s.length) r0) some=some v)
 (hs:ja (aj ids bs (if bg ids bs r0 then s else aq s fz) (am ids bs s.length)) some=some s2) (h:Ops p b0 os (put e d v) s2 Q):Ops p b0 (⟨d,.call f args,none⟩::os) e s Q:=oR hc hi hd has hbs hret hl hv (cF hs) h
theorem oV1 {Q:Env->aa->Prop} {fv:Opd} {f:Nat} {xa xb:List V} {args:List Opd} {as as':List V} {fz ids:List Nat} {r0 v:V} {bs bs0:aa} (ht0:target (ev e fv)=some (.fn f,xa,xb)) (hret:Ret p (.fn f) as' bs0 r0 bs) (hc:ai s (al p f) (xa++args.map (ev e)++xb)=some (as,fz)) (hi:aM s (aA s) (aN (.fn f)++refsL as) []=ids) (hd:(ids.all fun i => !fz.contains i)=true)
 (has:fX (renL (pos ids) as) some=some as') (hbs:dF (pack s ids (pos ids)) some=some bs0) (hl:(decide (ids.length<=bs.length)&&gT (bs.take ids.length))=true) (hv:gQ (ren (am ids bs s.length) r0) some=some v)
 (hs:ja (aj ids bs (if bg ids bs r0 then s else aq s fz) (am ids bs s.length)) some=some s2) (h:Ops p b0 os (put e d v) s2 Q):Ops p b0 (⟨d,.callv fv args,none⟩::os) e s Q:=oV ht0 hc hi hd rfl has hbs hret hl hv (cF hs) h
end
def uS {α:Sort _} (n:Nat) (K:Nat->α):α :=
 match n with
 | 0=>K 0
 | 1=>K 1
 | 2=>K 2
 | 3=>K 3
 | 4=>K 4
 | 5=>K 5
 | 6=>K 6
 | 7=>K 7
 | 8=>K 8
 | 9=>K 9
 | 10=>K 10
 | 11=>K 11
 | 12=>K 12
 | 13=>K 13
 | 14=>K 14
 | 15=>K 15
 | 16=>K 16
 | 17=>K 17
 | 18=>K 18
 | 19=>K 19
 | 20=>K 20
 | 21=>K 21
 | 22=>K 22
 | 23=>K 23
 | 24=>K 24
 | 25=>K 25
 | 26=>K 26
 | 27=>K 27
 | 28=>K 28
 | 29=>K 29
 | 30=>K 30
 | 31=>K 31
 | 32=>K 32
 | 33=>K 33
 | 34=>K 34
 | 35=>K 35
 | 36=>K 36
 | 37=>K 37
 | 38=>K 38
 | 39=>K 39
 | n=>K n
theorem qC {α:Sort _} (n:Nat) (K:Nat->α):uS n K=K n:=by
 unfold uS
 split<;>rfl
def cL {α:Sort _} : List Nat->(List Nat->α)->α
 | [],K=>K []
 | x::xs,K=>uS x fun x=>cL xs fun xs=>K (x::xs)
theorem km {α:Sort _} : ∀ (xs:List Nat) (K:List Nat->α),cL xs K=K xs
 | [],K=>rfl
 | x::xs,K=>by simp only [cL,qC,km xs]
def aa7 {α:Sort _} (x:V) (K:V->α):α :=
 match x with
 | .d (.int k n)=>K (.d (.int k n))
 | .d (.bool b)=>K (.d (.bool b))
 | .d (.slice es)=>K (.d (.slice es))
 | .d (.agg cs)=>K (.d (.agg cs))
 | .d (.iptr cs o)=>K (.d (.iptr cs o))
 | .d (.tuple vs)=>K (.d (.tuple vs))
 | .d (.func f a b)=>K (.d (.func f a b))
 | .d (.str b)=>K (.d (.str b))
 | .ptr a b c d=>uS a fun a=>K (.ptr a b c d)
 | .ms a b c d=>uS a fun a=>K (.ms a b c d)
 | .asl a b c d e=>uS a fun a=>K (.asl a b c d e)
 | .lit es=>K (.lit es)
 | .agg cs=>K (.agg cs)
 | .tuple cs=>K (.tuple cs)
 | .func f a b=>K (.func f a b)
 | .map i=>uS i fun i=>K (.map i)
 | .yield i=>uS i fun i=>K (.yield i)
 | .nils=>K .nils
 | .emp=>K .emp
 | x=>K x
theorem qI {α:Sort _} (x:V) (K:V->α):aa7 x K=K x:=by
 unfold aa7
 split<;>first | rfl | simp only [qC]
def mm {α:Sort _} : List V->(List V->α)->α
 | [],K=>K []
 | x::xs,K=>aa7 x fun x=>mm xs fun xs=>K (x::xs)
theorem ny {α:Sort _} : ∀ (xs:List V) (K:List V->α),mm xs K=K xs
 | [],K=>rfl
 | x::xs,K=>by simp only [mm,qI,ny xs]
def kP {α:Sort _} (x:V) (K:V->α):α :=
 aa7 x fun x=>match x with
 | .agg cs=>mm cs fun cs=>K (.agg cs)
 | .tuple cs=>mm cs fun cs=>K (.tuple cs)
 | .func f a b=>mm a fun a=>mm b fun b=>K (.func f a b)
 | x=>K x
theorem dK {α:Sort _} (x:V) (K:V->α):kP x K=K x:=by
 unfold kP
 rw [qI]
 split<;>first | rfl | simp only [ny]
def cg {α:Sort _} : List V->(List V->α)->α
 | [],K=>K []
 | x::xs,K=>kP x fun x=>cg xs fun xs=>K (x::xs)
theorem cX {α:Sort _} : ∀ (xs:List V) (K:List V->α),cg xs K=K xs
 | [],K=>rfl
 | x::xs,K=>by simp only [cg,dK,cX xs]
def sO {α:Sort _} : List (List V)->(List (List V)->α)->α
 | [],K=>K []
 | r::rs,K=>cg r fun r=>sO rs fun rs=>K (r::rs)
theorem nx {α:Sort _} : ∀ (rs:List (List V)) (K:List (List V)->α),sO rs K=K rs
 | [],K=>rfl
 | r::rs,K=>by simp only [sO,cX,nx rs]
def qG {α:Sort _} : List (D×V)->(List (D×V)->α)->α
 | [],K=>K []
 | (a,x)::xs,K=>aa5 a fun a=>kP x fun x=>qG xs fun xs=>K ((a,x)::xs)
theorem kn {α:Sort _} : ∀ (xs:List (D×V)) (K:List (D×V)->α),qG xs K=K xs
 | [],K=>rfl
 | (a,x)::xs,K=>by simp only [qG,dK,vD,kn xs]
def qH {α:Sort _} : List (Nat×V)->(List (Nat×V)->α)->α
 | [],K=>K []
 | (a,x)::xs,K=>kP x fun x=>qH xs fun xs=>K ((a,x)::xs)
theorem kp {α:Sort _} : ∀ (xs:List (Nat×V)) (K:List (Nat×V)->α),qH xs K=K xs
 | [],K=>rfl
 | (a,x)::xs,K=>by simp only [qH,dK,kp xs]
def fF {α:Sort _} : aa->(aa->α)->α
 | [],K=>K []
 | none::s,K=>fF s fun s=>K (none::s)
 | some (.rows v ro e els)::s,K=>fF s fun s=>K (some (.rows v ro e els)::s)
 | some (.map es)::s,K=>qG es fun es=>fF s fun s=>K (some (.map es)::s)
 | some (.loop st j env ps a b)::s,K=>qH env fun env=>fF s fun s=>K (some (.loop st j env ps a b)::s)
theorem ce {α:Sort _} : ∀ (s:aa) (K:aa->α),fF s K=K s
 | [],K=>rfl
 | none::s,K=>by simp only [fF,ce s]
 | some (.rows v ro e els)::s,K=>by simp only [fF,ce s]
 | some (.map es)::s,K=>by simp only [fF,kn,ce s]
 | some (.loop st j env ps a b)::s,K=>by simp only [fF,kp,ce s]
def jv {α:Sort _} : aa->(aa->α)->α
 | [],K=>K []
 | none::s,K=>jv s fun s=>K (none::s)
 | some (.rows v ro e els)::s,K=>sO els fun els=>jv s fun s=>K (some (.rows v ro e els)::s)
 | some (.map es)::s,K=>qG es fun es=>jv s fun s=>K (some (.map es)::s)
 | some (.loop st j env ps a b)::s,K=>qH env fun env=>jv s fun s=>K (some (.loop st j env ps a b)::s)
theorem eh {α:Sort _} : ∀ (s:aa) (K:aa->α),jv s K=K s
 | [],K=>rfl
 | none::s,K=>by simp only [jv,eh s]
 | some (.rows v ro e els)::s,K=>by simp only [jv,nx,eh s]
 | some (.map es)::s,K=>by simp only [jv,kn,eh s]
 | some (.loop st j env ps a b)::s,K=>by simp only [jv,kp,eh s]
theorem iE {e:Env} : ∀ live:List Nat,ei (lives e live)=refsL (live.map e)
 | []=>rfl
 | t::live=>by
   have:=iE (e:=e) live
   simp only [lives,List.map_cons,ei,refsL] at this ⊢
   rw [this]
theorem nH {m:Nat->Option Nat} : ∀ xs:List V,renL m xs=xs.map (ren m)
 | []=>rfl
 | x::xs=>by simp only [renL,List.map_cons,nH xs]
theorem lh1 {live:List Nat} {body:VCode} {e:Env} {s s1:aa} {ids:List Nat} {vs0 vs:List V} {K:List Fr} {Q:Out->Env->aa->Prop} (hv:cg (live.map e) some=some vs0) (hi:cL (ci s k (refsL vs0)) some=some ids) (hw:cg (renL (pos ids) vs0) some=some vs) (hs:jv (pack s ids (pos ids)) some=some s1)
 (hb:Run p k body (dQ (live.zip vs)) s1 (bl p k (.loop live body::K) Q)):Loop p k live body e s (bl p k K Q):=by
 rw [cX] at hv;injection hv with hv
 rw [km] at hi;injection hi with hi
 rw [cX] at hw;injection hw with hw
 rw [eh] at hs;injection hs with hs
 refine af (vs:=vs) (s1:=s1) ?_ (by unfold ah;exact hb)
 unfold eW
 rw [cm,aF,iE,hv,hi,hs]
 rw [nH,<- hv,List.map_map] at hw
 rw [<- hw];rfl
theorem hd1 {live:List Nat} {body:VCode} {e:Env} {s s1:aa} {ids:List Nat} {vs0 vs:List V} {K:List Fr} {Q:Out->Env->aa->Prop} (hv:cg (live.map e) some=some vs0) (hi:cL (ci s k (refsL vs0)) some=some ids) (hw:cg (renL (pos ids) vs0) some=some vs) (hs:jv (pack s ids (pos ids)) some=some s1)
 (hb:ah p k live body vs s1 K Q):Loop p k live body e s (bl p k K Q):=lh1 hv hi hw hs (by unfold ah at hb;exact hb)
section
variable {b0:Nat} {d:Option Nat} {os:List VOper} {e:Env} {s s1 s2:aa}
def vQ (r:Option (Res×aa)):Option (V×aa) :=
 match r with
 | some (.val x,s)=>kP x fun x=>fF s fun s=>some (x,s)
 | some (.none,s)=>fF s fun s=>some (cA,s)
 | none=>none
theorem sL (r:Option (Res×aa)):vQ r=oT r:=by
 unfold vQ oT
 split<;>simp only [dK,bX,ce,aF]
theorem ov1 {op:VOp} {x:V} {Q:Env->aa->Prop} (h1:vQ (ae (fun _ _ _=>none) (fun _=>[]) b0 op e s)=some (x,s1)) (h:Ops p b0 os (put e d x) s1 Q):Ops p b0 (⟨d,op,none⟩::os) e s Q:=ek (by rw [<- sL];exact h1) h
theorem jf {a b:aa} (h:jv a some=some b):ja a some=some b:=by rw [eh] at h;rw [eg];exact h
theorem k7 {x y:V} (h:kP x some=some y):gQ x some=some y:=by rw [dK] at h;rw [bX];exact h
theorem ir {x y:List V} (h:cg x some=some y):fX x some=some y:=by rw [cX] at h;rw [cm];exact h
theorem dn {x y:List Nat} (h:cL x some=some y):x=y:=by rw [km] at h;injection h
theorem oN2 {Q:Env->aa->Prop} {f:Nat} {args:List Opd} {as:List V} {fz:List Nat} {r0 v:V} {bs:aa} (hret:Ret p (.fn f) as [] r0 bs) (hc:ai s (al p f) (args.map (ev e))=some (as,fz)) (hr:refsL as=[]) (hv:kP (ren (am [] bs s.length) r0) some=some v)
 (hs:jv (aj [] bs (if bg [] bs r0 then s else aq s fz) (am [] bs s.length)) some=some s2) (h:Ops p b0 os (put e d v) s2 Q):Ops p b0 (⟨d,.call f args,none⟩::os) e s Q:=oN1 hret hc hr (k7 hv) (jf hs) h
theorem oR2 {Q:Env->aa->Prop} {f:Nat} {args:List Opd} {as as':List V} {fz ids:List Nat} {r0 v:V} {bs bs0:aa} (hret:Ret p (.fn f) as' bs0 r0 bs) (hc:ai s (al p f) (args.map (ev e))=some (as,fz)) (hi:cL (aM s (aA s) (refsL as) []) some=some ids) (hd:(ids.all fun i => !fz.contains i)=true)
 (has:cg (renL (pos ids) as) some=some as') (hbs:dF (pack s ids (pos ids)) some=some bs0) (hl:(decide (ids.length<=bs.length)&&gT (bs.take ids.length))=true) (hv:kP (ren (am ids bs s.length) r0) some=some v)
 (hs:jv (aj ids bs (if bg ids bs r0 then s else aq s fz) (am ids bs s.length)) some=some s2) (h:Ops p b0 os (put e d v) s2 Q):Ops p b0 (⟨d,.call f args,none⟩::os) e s Q:=oR1 hret hc (dn hi) hd (ir has) hbs hl (k7 hv) (jf hs) h
theorem oV2 {Q:Env->aa->Prop} {fv:Opd} {f:Nat} {xa xb:List V} {args:List Opd} {as as':List V} {fz ids:List Nat} {r0 v:V} {bs bs0:aa} (ht0:target (ev e fv)=some (.fn f,xa,xb)) (hret:Ret p (.fn f) as' bs0 r0 bs) (hc:ai s (al p f) (xa++args.map (ev e)++xb)=some (as,fz)) (hi:cL (aM s (aA s) (aN (.fn f)++refsL as) []) some=some ids) (hd:(ids.all fun i => !fz.contains i)=true)
 (has:cg (renL (pos ids) as) some=some as') (hbs:dF (pack s ids (pos ids)) some=some bs0) (hl:(decide (ids.length<=bs.length)&&gT (bs.take ids.length))=true) (hv:kP (ren (am ids bs s.length) r0) some=some v)
 (hs:jv (aj ids bs (if bg ids bs r0 then s else aq s fz) (am ids bs s.length)) some=some s2) (h:Ops p b0 os (put e d v) s2 Q):Ops p b0 (⟨d,.callv fv args,none⟩::os) e s Q:=oV1 ht0 hret hc (dn hi) hd (ir has) hbs hl (k7 hv) (jf hs) h
end
section
variable {b0:Nat} {d:Option Nat} {op:VOp} {os:List VOper} {e:Env} {s:aa} {Q:Env->aa->Prop} {QF:Env->aa->List Foot->Prop} {K:List Fr} {QO:Out->Env->aa->Prop} {o:Out} {c:VCode} {live:List Nat} {f:Nat} {args:List Opd} {fv x y z:Opd} {g:Nat×Bool}
theorem gO (h:Ops p b0 os e s Q):Ops p b0 os e s Q:=h
theorem gF (h:dJ p b0 os e s QF):dJ p b0 os e s QF:=h
theorem gR (h:Run p k c e s QO):Run p k c e s QO:=h
theorem gL (h:Loop p k live c e s QO):Loop p k live c e s QO:=h
theorem gK (h:bl p k K QO o e s):bl p k K QO o e s:=h
theorem gOc (h:Ops p b0 (⟨d,.call f args,none⟩::os) e s Q):Ops p b0 (⟨d,.call f args,none⟩::os) e s Q:=h
theorem gOv (h:Ops p b0 (⟨d,.callv fv args,none⟩::os) e s Q):Ops p b0 (⟨d,.callv fv args,none⟩::os) e s Q:=h
theorem gOg (h:Ops p b0 (⟨d,op,some g⟩::os) e s Q):Ops p b0 (⟨d,op,some g⟩::os) e s Q:=h
theorem gOp (h:Ops p b0 (⟨d,.pick x y z,none⟩::os) e s Q):Ops p b0 (⟨d,.pick x y z,none⟩::os) e s Q:=h
theorem gFc (h:dJ p b0 (⟨d,.call f args,none⟩::os) e s QF):dJ p b0 (⟨d,.call f args,none⟩::os) e s QF:=h
theorem gFv (h:dJ p b0 (⟨d,.callv fv args,none⟩::os) e s QF):dJ p b0 (⟨d,.callv fv args,none⟩::os) e s QF:=h
theorem gFg (h:dJ p b0 (⟨d,op,some g⟩::os) e s QF):dJ p b0 (⟨d,op,some g⟩::os) e s QF:=h
theorem gFp (h:dJ p b0 (⟨d,.pick x y z,none⟩::os) e s QF):dJ p b0 (⟨d,.pick x y z,none⟩::os) e s QF:=h
end
end Go.Proofs.YtncfpmehhfdipaaGreat
namespace Go.Proofs.YtncfpmehhfdipaaGreat
variable {p:bh} {k:Nat}
attribute [local semireducible] Run Ops Ret
def endRound (k id:Nat) (out:Out) (s2:aa):Option (V×aa) :=
 match getB s2 id with
 | some (.loop _ _ env' ps' a' b') =>
   let (st,j,r):=match out with | .normal=>(0,Jump.none,true) | .exit i=>(2,Jump.exit i,false) | .ret=>(2,Jump.ret,false)
   eo true k (.d (.bool r)) (setB s2 id (.loop st j env' ps' a' b'))
 | _=>none
theorem cq {id:Nat} {args:List V} {bs bs':aa} {r:V} {j:Jump} {env:List (Nat×V)} {params:List Nat} {assign body:VCode} (hb:getB bs id=some (.loop 0 j env params assign body)) (hl:args.length=params.length)
 (h:Run p bs.length assign ((params.zip args).foldl (fun e (t,a)=>upd e t a) (dQ env)) bs fun o e1 s1=>o = .normal /\ ∃ j' env' ps' a' b',getB s1 id=some (.loop 0 j' env' ps' a' b')/\Run p bs.length body e1 (setB s1 id (.loop 1 j' env' ps' a' b')) fun out _ s2=>endRound bs.length id out s2=some (r,bs')):Ret p (.round id) args bs r bs':=by
 obtain ⟨o,e1,s1,⟨rfl,j',env',ps',a',b',hb1,o2,e2,s2,hq,n1,hr1⟩,n0,hr0⟩:=h
 refine ⟨max n0 n1+1,fun n hn => ?_⟩
 obtain ⟨n,rfl⟩ : ∃ i,n=i+1:=⟨n - 1,by omega⟩
 have h0:=hr0 n (by omega)
 have h1:=hr1 n (by omega)
 simp only [bV,cZ,hb,hl,if_true,h0,hb1,h1]
 unfold endRound at hq
 split at hq
 · rename_i e' ps'' a'' b'' hg
   rw [hg]
   exact hq
 · cases hq
def vZ:Jump->Out
 | .none => .normal
 | .exit x => .exit x
 | .ret => .ret
theorem rg {f:Opd} {live params:List Nat} {assign body:VCode} {e:Env} {s s1 s2 s3:aa} {K:List Fr} {Q:Out->Env->aa->Prop} {g:Nat} {xa xb as as':List V} {fz ids:List Nat} {r0:V} {bs bs0:aa} {st:Nat} {j:Jump} {env':List (Nat×V)} {ps':List Nat} {a' b':VCode}
 (ht:target (ev e f)=some (.fn g,xa,xb)) (hret:Ret p (.fn g) as' bs0 r0 bs) (hs1:jv (s++[some (.loop 0 .none (lives e live) params assign body)]) some=some s1) (hc:ai s1 (al p g) (xa++[.yield s.length]++xb)=some (as,fz)) (hi:cL (aM s1 (aA s1) (aN (.fn g)++refsL as) []) some=some ids) (hd:(ids.all fun i => !fz.contains i)=true)
 (has:cg (renL (pos ids) as) some=some as') (hbs:dF (pack s1 ids (pos ids)) some=some bs0) (hl:(decide (ids.length<=bs.length)&&gT (bs.take ids.length))=true)
 (hs:jv (aj ids bs (if bg ids bs r0 then s1 else aq s1 fz) (am ids bs s1.length)) some=some s2) (hg:getB s2 s.length=some (.loop st j env' ps' a' b')) (hst:(st==1)=false) (h3:jv (setB s2 s.length (.loop 3 j env' ps' a' b')) some=some s3)
 (h:bl p k K Q (vZ j) e s3):Run p k (.rangeFunc f live params assign body) e s (bl p k K Q):=by
 rw [eh] at hs1 h3;injection hs1 with hs1;injection h3 with h3
 have hcall:=ft (p:=p) (t := .fn g) hc (dn hi) hd rfl (ir has) hbs hret hl (v:=ren (am ids bs s1.length) r0) (by rw [bX]) (cF (jf hs))
 obtain ⟨n0,hcall⟩:=hcall
 refine ⟨vZ j,e,s3,h,n0,fun n hn => ?_⟩
 have hcn:=hcall n hn
 have hst':st≠1:=by simpa using hst
 simp only [ak,dL,ht,hs1,hcn,hg,if_neg hst',h3]
 cases j<;>rfl
section
variable {b0:Nat} {d:Option Nat} {os:List VOper} {e:Env} {s s2:aa}
theorem oVr {Q:Env->aa->Prop} {fv:Opd} {id id':Nat} {args:List Opd} {as as':List V} {fz ids:List Nat} {r0 v:V} {bs bs0:aa} (ht0:ev e fv = .yield id) (hret:Ret p (.round id') as' bs0 r0 bs) (hc:ai s [] (args.map (ev e))=some (as,fz)) (hi:cL (aM s (aA s) (aN (.round id)++refsL as) []) some=some ids) (hd:(ids.all fun i => !fz.contains i)=true) (ht:pos ids id=some id')
 (has:cg (renL (pos ids) as) some=some as') (hbs:dF (pack s ids (pos ids)) some=some bs0) (hl:(decide (ids.length<=bs.length)&&gT (bs.take ids.length))=true) (hv:kP (ren (am ids bs s.length) r0) some=some v)
 (hs:jv (aj ids bs (if bg ids bs r0 then s else aq s fz) (am ids bs s.length)) some=some s2) (h:Ops p b0 os (put e d v) s2 Q):Ops p b0 (⟨d,.callv fv args,none⟩::os) e s Q:=by
 refine oV (t := .round id) (xa:=[]) (xb:=[]) (t' := .round id') (by rw [ht0];rfl) (by simpa using hc) (dn hi) hd (by simp [iq,ht]) (ir has) hbs hret hl (k7 hv) (cF (jf hs)) h
end
end Go.Proofs.YtncfpmehhfdipaaGreat
namespace Go.Proofs.YtncfpmehhfdipaaGreat
mutual
theorem ren_fix {m:Nat->Option Nat} : ∀ {x:V},(∀ i∈refs x,m i=some i)->ren m x=x
 | .ptr id _ _ _,h=>by simp only [ren,h id (by simp [refs])]
 | .ms id _ _ _,h=>by simp only [ren,h id (by simp [refs])]
 | .asl id _ _ _ _,h=>by simp only [ren,h id (by simp [refs])]
 | .map id,h=>by simp only [ren,h id (by simp [refs])]
 | .yield id,h=>by simp only [ren,h id (by simp [refs])]
 | .agg cs,h=>by simp only [refs] at h;simp only [ren,renL_fix h]
 | .tuple cs,h=>by simp only [refs] at h;simp only [ren,renL_fix h]
 | .func f a b,h=>by
   simp only [refs,List.mem_append] at h
   simp only [ren,renL_fix (fun i hi=>h i (.inl hi)),renL_fix (fun i hi=>h i (.inr hi))]
 | .poison,_=>rfl
 | .d _,_=>rfl
 | .nils,_=>rfl
 | .emp,_=>rfl
 | .non,_=>rfl
 | .lit _,_=>rfl
theorem renL_fix {m:Nat->Option Nat} : ∀ {xs:List V},(∀ i∈refsL xs,m i=some i)->renL m xs=xs
 | [],_=>rfl
 | x::xs,h=>by
   simp only [refsL,List.mem_append] at h
   simp only [renL,ren_fix (fun i hi=>h i (.inl hi)),renL_fix (fun i hi=>h i (.inr hi))]
end
theorem nF {m:Nat->Option Nat} : ∀ {rs:List (List V)},(∀ i∈eO rs,m i=some i)->rs.map (renL m)=rs
 | [],_=>rfl
 | r::rs,h=>by
   simp only [eO,List.mem_append] at h
   simp only [List.map_cons,renL_fix (fun i hi=>h i (.inl hi)),nF (fun i hi=>h i (.inr hi))]
theorem nI {m:Nat->Option Nat} : ∀ {l:List (Nat×V)},(∀ i∈ei l,m i=some i)->uV m l=l
 | [],_=>rfl
 | (t,x)::l,h=>by
   simp only [ei,List.mem_append] at h
   have:=nI (m:=m) (l:=l) fun i hi=>h i (.inr hi)
   simp only [uV,List.map_cons,ren_fix (fun i hi=>h i (.inl hi))] at this ⊢
   rw [this]
theorem nG {m:Nat->Option Nat} : ∀ {l:List (D×V)},(∀ i∈s7 l,m i=some i)->(l.map fun (k,x)=>(k,ren m x))=l
 | [],_=>rfl
 | (t,x)::l,h=>by
   simp only [s7,List.mem_append] at h
   have:=nG (m:=m) (l:=l) fun i hi=>h i (.inr hi)
   simp only [List.map_cons,ren_fix (fun i hi=>h i (.inl hi))] at this ⊢
   rw [this]
theorem kv {m:Nat->Option Nat} {b:Blk} (h : ∀ i∈du b,m i=some i):renB m b=b:=by
 cases b with
 | rows v ro e els=>simp only [du] at h;simp only [renB,nF h]
 | map es=>simp only [du] at h;simp only [renB,nG h]
 | loop st j env ps a b=>simp only [du] at h;simp only [renB,nI h]
theorem nL {s:aa} {seen:List Nat} : ∀ (n:Nat) (todo:List Nat),(∀ i∈todo,i∈seen)->aM s n todo seen=seen
 | 0,_,_=>by simp [aM]
 | n+1,[],_=>by simp [aM]
 | n+1,i::todo,h=>by
   have hc:seen.contains i=true:=by simpa using h i (by simp)
   simp only [aM,hc,if_true]
   exact nL n todo fun j hj=>h j (by simp [hj])
def closed (s:aa) (k:Nat):Prop := ∀ i,i < k -> ∃ b,s[i]?=some (some b) /\ ∀ j∈du b,j < k
theorem lp {s:aa} {k:Nat} (h:closed s k) : ∀ (l:List Nat),(∀ i∈l,i < k) -> ∀ j∈gA s l,j < k
 | [],_,j,hj=>by simp [gA] at hj
 | i::l,hl,j,hj=>by
   obtain ⟨b,hb,hr⟩:=h i (hl i (by simp))
   simp only [gA,getB,hb,Option.join_some,List.mem_append] at hj
   rcases hj with hj | hj
   · exact hr j hj
   · exact lp h l (fun x hx=>hl x (by simp [hx])) j hj
theorem iO {s:aa} {k:Nat} (h:closed s k) {roots:List Nat} (hr : ∀ i∈roots,i < k):ci s k roots=List.range k:=by
 unfold ci
 refine nL _ _ fun i hi => ?_
 rw [List.mem_append] at hi
 rw [List.mem_range]
 rcases hi with hi | hi
 · exact hr i hi
 · exact lp h _ (fun j hj=>List.mem_range.1 hj) i hi
theorem ej {k i:Nat} (h:i < k):pos (List.range k) i=some i:=by
 unfold pos
 rw [List.findIdx?_eq_some_iff_getElem]
 refine ⟨by simpa using h,by simp,fun j hj => ?_⟩
 simp;omega
theorem cP {s:aa} {k:Nat} (h:closed s k):pack s (List.range k) (pos (List.range k))=s.take k:=by
 refine List.ext_getElem? fun i => ?_
 unfold pack
 by_cases hi:i < k
 · obtain ⟨b,hb,hr⟩:=h i hi
   rw [List.getElem?_map,List.getElem?_range hi,List.getElem?_take_of_lt hi,hb]
   simp only [Option.map_some,getB,hb,Option.join_some]
   rw [kv fun j hj=>ej (hr j hj)]
 · rw [List.getElem?_eq_none (by simp;omega),List.getElem?_eq_none (by simp;omega)]
theorem gE {s:aa} {k:Nat} {x:V} (h:closed s k) (hx : ∀ i∈refs x,i < k):eo true k x s=some (x,s.take k):=by
 unfold eo
 simp only [if_true,iO h hx,cP h,ren_fix fun i hi=>ej (hx i hi)]
theorem pu {k id:Nat} {s2 s3 bs':aa} {st:Nat} {j:Jump} {env':List (Nat×V)} {ps':List Nat} {a' b':VCode} (hg:getB s2 id=some (.loop st j env' ps' a' b')) (hs:fF (setB s2 id (.loop 0 .none env' ps' a' b')) some=some s3) (hc:closed s3 k) (he:s3.take k=bs'):endRound k id .normal s2=some (.d (.bool true),bs'):=by
 rw [ce] at hs;injection hs with hs
 unfold endRound
 simp only [hg,hs]
 rw [gE hc (by simp [refs]),he]
theorem mS {k id:Nat} {s2 s3 bs':aa} {st:Nat} {j:Jump} {env':List (Nat×V)} {ps':List Nat} {a' b':VCode} (hg:getB s2 id=some (.loop st j env' ps' a' b')) (hs:setB s2 id (.loop 0 .none env' ps' a' b')=s3) (hc:closed s3 k) (he:s3.take k=bs'):endRound k id .normal s2=some (.d (.bool true),bs') :=
 pu hg (by rw [ce,hs]) hc he
end Go.Proofs.YtncfpmehhfdipaaGreat
namespace Go.Proofs.YtncfpmehhfdipaaGreat
variable {p:bh} {k:Nat}
attribute [local semireducible] Run Ops Ret
theorem jg {a b:aa} (h:fF a some=some b):jv a some=some b:=by rw [ce] at h;rw [eh];exact h
section
variable {b0:Nat} {d:Option Nat} {os:List VOper} {e:Env} {s s1 s2:aa}
theorem bR {Q:Env->aa->Prop} {f:Nat} {args:List Opd} {as:List V} {fz:List Nat} {r:D} (hret:Ret p (.fn f) as [] (.d r) []) (hc:ai s (al p f) (args.map (ev e))=some (as,fz)) (hr:refsL as=[]) (hs:fF (if gl r then s else aq s fz) some=some s2) (h:Ops p b0 os (put e d (.d r)) s2 Q):Ops p b0 (⟨d,.call f args,none⟩::os) e s Q:=oCx hc hr hret (jf (jg hs)) h
theorem je {Q:Env->aa->Prop} {f:Nat} {args:List Opd} {as:List V} {fz:List Nat} {r0 v:V} {bs:aa} (hret:Ret p (.fn f) as [] r0 bs) (hc:ai s (al p f) (args.map (ev e))=some (as,fz)) (hr:refsL as=[]) (hv:kP (ren (am [] bs s.length) r0) some=some v)
 (hs:fF (aj [] bs (if bg [] bs r0 then s else aq s fz) (am [] bs s.length)) some=some s2) (h:Ops p b0 os (put e d v) s2 Q):Ops p b0 (⟨d,.call f args,none⟩::os) e s Q:=oN1 hret hc hr (k7 hv) (jf (jg hs)) h
theorem jd {Q:Env->aa->Prop} {f:Nat} {args:List Opd} {as as':List V} {fz ids:List Nat} {r0 v:V} {bs bs0:aa} (hret:Ret p (.fn f) as' bs0 r0 bs) (hc:ai s (al p f) (args.map (ev e))=some (as,fz)) (hi:cL (aM s (aA s) (refsL as) []) some=some ids) (hd:(ids.all fun i => !fz.contains i)=true)
 (has:cg (renL (pos ids) as) some=some as') (hbs:dF (pack s ids (pos ids)) some=some bs0) (hl:(decide (ids.length<=bs.length)&&gT (bs.take ids.length))=true) (hv:kP (ren (am ids bs s.length) r0) some=some v)
 (hs:fF (aj ids bs (if bg ids bs r0 then s else aq s fz) (am ids bs s.length)) some=some s2) (h:Ops p b0 os (put e d v) s2 Q):Ops p b0 (⟨d,.call f args,none⟩::os) e s Q:=oR1 hret hc (dn hi) hd (ir has) hbs hl (k7 hv) (jf (jg hs)) h
theorem jc {Q:Env->aa->Prop} {fv:Opd} {f:Nat} {xa xb:List V} {args:List Opd} {as as':List V} {fz ids:List Nat} {r0 v:V} {bs bs0:aa} (ht0:target (ev e fv)=some (.fn f,xa,xb)) (hret:Ret p (.fn f) as' bs0 r0 bs) (hc:ai s (al p f) (xa++args.map (ev e)++xb)=some (as,fz)) (hi:cL (aM s (aA s) (aN (.fn f)++refsL as) []) some=some ids) (hd:(ids.all fun i => !fz.contains i)=true)
 (has:cg (renL (pos ids) as) some=some as') (hbs:dF (pack s ids (pos ids)) some=some bs0) (hl:(decide (ids.length<=bs.length)&&gT (bs.take ids.length))=true) (hv:kP (ren (am ids bs s.length) r0) some=some v)
 (hs:fF (aj ids bs (if bg ids bs r0 then s else aq s fz) (am ids bs s.length)) some=some s2) (h:Ops p b0 os (put e d v) s2 Q):Ops p b0 (⟨d,.callv fv args,none⟩::os) e s Q:=oV1 ht0 hret hc (dn hi) hd (ir has) hbs hl (k7 hv) (jf (jg hs)) h
theorem jb {Q:Env->aa->Prop} {fv:Opd} {id id':Nat} {args:List Opd} {as as':List V} {fz ids:List Nat} {r0 v:V} {bs bs0:aa} (ht0:ev e fv = .yield id) (hret:Ret p (.round id') as' bs0 r0 bs) (hc:ai s [] (args.map (ev e))=some (as,fz)) (hi:cL (aM s (aA s) (aN (.round id)++refsL as) []) some=some ids) (hd:(ids.all fun i => !fz.contains i)=true) (ht:pos ids id=some id')
 (has:cg (renL (pos ids) as) some=some as') (hbs:dF (pack s ids (pos ids)) some=some bs0) (hl:(decide (ids.length<=bs.length)&&gT (bs.take ids.length))=true) (hv:kP (ren (am ids bs s.length) r0) some=some v)
 (hs:fF (aj ids bs (if bg ids bs r0 then s else aq s fz) (am ids bs s.length)) some=some s2) (h:Ops p b0 os (put e d v) s2 Q):Ops p b0 (⟨d,.callv fv args,none⟩::os) e s Q:=by
 refine oV (t := .round id) (xa:=[]) (xb:=[]) (t' := .round id') (by rw [ht0];rfl) (by simpa using hc) (dn hi) hd (by simp [iq,ht]) (ir has) hbs hret hl (k7 hv) (cF (jf (jg hs))) h
theorem an4 {live:List Nat} {body:VCode} {e:Env} {s s1:aa} {ids:List Nat} {vs0 vs:List V} {K:List Fr} {Q:Out->Env->aa->Prop} (hv:cg (live.map e) some=some vs0) (hi:cL (ci s k (refsL vs0)) some=some ids) (hw:cg (renL (pos ids) vs0) some=some vs) (hs:fF (pack s ids (pos ids)) some=some s1)
 (hb:Run p k body (dQ (live.zip vs)) s1 (bl p k (.loop live body::K) Q)):Loop p k live body e s (bl p k K Q):=lh1 hv hi hw (jg hs) hb
theorem rgt {f:Opd} {live params:List Nat} {assign body:VCode} {e:Env} {s s1 s2 s3:aa} {K:List Fr} {Q:Out->Env->aa->Prop} {g:Nat} {xa xb as as':List V} {fz ids:List Nat} {r0:V} {bs bs0:aa} {st:Nat} {j:Jump} {env':List (Nat×V)} {ps':List Nat} {a' b':VCode}
 (ht:target (ev e f)=some (.fn g,xa,xb)) (hret:Ret p (.fn g) as' bs0 r0 bs) (hs1:fF (s++[some (.loop 0 .none (lives e live) params assign body)]) some=some s1) (hc:ai s1 (al p g) (xa++[.yield s.length]++xb)=some (as,fz)) (hi:cL (aM s1 (aA s1) (aN (.fn g)++refsL as) []) some=some ids) (hd:(ids.all fun i => !fz.contains i)=true)
 (has:cg (renL (pos ids) as) some=some as') (hbs:dF (pack s1 ids (pos ids)) some=some bs0) (hl:(decide (ids.length<=bs.length)&&gT (bs.take ids.length))=true)
 (hs:fF (aj ids bs (if bg ids bs r0 then s1 else aq s1 fz) (am ids bs s1.length)) some=some s2) (hg:getB s2 s.length=some (.loop st j env' ps' a' b')) (hst:(st==1)=false) (h3:fF (setB s2 s.length (.loop 3 j env' ps' a' b')) some=some s3)
 (h:bl p k K Q (vZ j) e s3):Run p k (.rangeFunc f live params assign body) e s (bl p k K Q):=rg ht hret (jg hs1) hc hi hd has hbs hl (jg hs) hg hst (jg h3) h
end
end Go.Proofs.YtncfpmehhfdipaaGreat
namespace Go.Proofs.YtncfpmehhfdipaaGreat
def tab (s:aa):List (Option (List Nat)):=s.map fun b=>b.map du
def cD (t:List (Option (List Nat))):Nat->List Nat->List Nat->List Nat
 | 0,_,seen=>seen
 | _,[],seen=>seen
 | n+1,i::todo,seen =>
   if seen.contains i then cD t n todo seen
   else match (t[i]?).join with
    | some b=>cD t n (todo++b) (seen++[i])
    | none=>cD t n todo seen
theorem qo (s:aa) (i:Nat):((tab s)[i]?).join=(getB s i).map du:=by
 unfold tab getB
 rw [List.getElem?_map]
 cases s[i]? with
 | none=>rfl
 | some b=>cases b<;>rfl
theorem cO (s:aa) : ∀ (n:Nat) (todo seen:List Nat),aM s n todo seen=cD (tab s) n todo seen
 | 0,_,_=>by simp [aM,cD]
 | n+1,[],_=>by simp [aM,cD]
 | n+1,i::todo,seen=>by
   simp only [aM,cD,qo]
   split
   · exact cO s n todo seen
   · cases getB s i with
     | none=>exact cO s n todo seen
     | some b=>exact cO s n _ _
def dM (t:List (Option (List Nat))):List Nat->List Nat
 | []=>[]
 | i::r=>(match (t[i]?).join with | some b=>b | none=>[])++dM t r
theorem jG (s:aa) : ∀ l:List Nat,gA s l=dM (tab s) l
 | []=>rfl
 | i::l=>by
   simp only [gA,dM,qo,jG s l]
   cases getB s i<;>rfl
theorem fP {s:aa} {t:List (Option (List Nat))} (h:tab s=t) (k:Nat) (roots:List Nat):ci s k roots=cD t 100000 (roots++dM t (List.range k)) (List.range k):=by
 subst h
 unfold ci
 rw [cO,jG];rfl
end Go.Proofs.YtncfpmehhfdipaaGreat
namespace Go.Proofs.YtncfpmehhfdipaaGreat
variable {p:bh}
section
variable {b0:Nat} {d:Option Nat} {os:List VOper} {e:Env} {s s1:aa} {Q:Env->aa->Prop}
theorem oln {x:Opd} {id ver off len v esz:Nat} {ro:Bool} {els:List (List V)} (hx:ev e x = .ms id ver off len) (hb:getB s id=some (.rows v ro esz els)) (hv:v=ver) (h:Ops p b0 os (put e d (.d (.int .i64 len))) s Q):Ops p b0 (⟨d,.len .slice x,none⟩::os) e s Q :=
 aZ (fun call=>by simp [az,bx,ae,hx,pi,iN,ik,hb,hv,me]) h
theorem oim {x y:Opd} {id ver off len v n i:Nat} {k:IntKind} {ro:Bool} {els:List (List V)} {esz:Nat} (hx:ev e x = .ms id ver off len) (hy:ev e y = .d (.int k i)) (hb:getB s id=some (.rows v ro n els)) (hv:v=ver) (hn:n=esz) (hi:i < len) (hl:off+len<=els.length) (h:Ops p b0 os (put e d (.ptr id ver (off+i) 0)) s Q):Ops p b0 (⟨d,.iaddrS esz x y,none⟩::os) e s Q :=
 aZ (fun call=>by simp [az,bx,ae,hx,hy,dO,idx,hb,hv,hn,hi,hl]) h
theorem olm {a:Opd} {id ver i j v esz:Nat} {ro:Bool} {els:List (List V)} {cs:List V} {x:V} (ha:ev e a = .ptr id ver i j) (hb:getB s id=some (.rows v ro esz els)) (hv:v=ver) (hi:els[i]?=some cs) (hj:cs[j]?=some x) (h:Ops p b0 os (put e d x) s Q):Ops p b0 (⟨d,.load false 1 a,none⟩::os) e s Q :=
 aZ (fun call=>by
  have hl:j+1<=cs.length:=(List.getElem?_eq_some_iff.1 hj).1
  simp [az,bx,ae,ha,iM,hb,hv,hi,hl,hj]) h
theorem osm {a y:Opd} {id ver i j v esz:Nat} {els:List (List V)} {cs:List V} {x:V} (ha:ev e a = .ptr id ver i j) (hy:ev e y=x) (hb:getB s id=some (.rows v false esz els)) (hv:v=ver) (hi:els[i]?=some cs) (hj:j < cs.length) (hx:x.cells=[x]) (hsc:aH x=true) (h:Ops p b0 os (put e d cA) (setB s id (.rows v false esz (els.set i (splice cs j [x])))) Q):Ops p b0 (⟨d,.store 1 a y,none⟩::os) e s Q :=
 aZ (fun call=>by
  have hl:j+1<=cs.length:=hj
  simp [az,bx,ae,ha,hy,jt,hb,hv,hi,hl,hx,hsc]) h
theorem obm {x y:Opd} {id ver len v esz n:Nat} {k:IntKind} {ro:Bool} {els:List (List V)} (hx:ev e x = .ms id ver 0 len) (hy:ev e y = .d (.int k (n+1:Nat))) (hb:getB s id=some (.rows v ro (esz+1) els)) (hv:v=ver) (hn:n+1<=len) (h:Ops p b0 os (put e d (.ms id ver 0 (n+1))) s Q):Ops p b0 (⟨d,.slice (esz+1) x none (some y),none⟩::os) e s Q :=
 aZ (fun call=>by
  have h1:(0:Int)<=((n+1:Nat):Int):=by omega
  have h2:((n:Int)+1).toNat=n+1:=by omega
  have h3:(0:Int)<=(n:Int)+1:=by omega
  simp [az,bx,ae,hx,hy,lK,dq,iN,ik,hb,hv,gq,hn,h1,h2,h3]) h
end
theorem oVp {b0:Nat} {d:Option Nat} {os:List VOper} {e:Env} {s s2:aa} {Q:Env->aa->Prop} {fv:Opd} {f:Nat} {xa xb:List V} {args:List Opd} {as as':List V} {fz ids:List Nat} {r0 v:V} {bs bs0:aa} (ht0:target (ev e fv)=some (.fn f,xa,xb)) (hret:Ret p (.fn f) as' bs0 r0 bs) (hc:ai s (al p f) (xa++args.map (ev e)++xb)=some (as,fz)) (hi:aM s (aA s) (refsL as) []=ids) (hd:(ids.all fun i => !fz.contains i)=true)
 (has:renL (pos ids) as=as') (hbs:pack s ids (pos ids)=bs0) (hl:(decide (ids.length<=bs.length)&&gT (bs.take ids.length))=true) (hv:ren (am ids bs s.length) r0=v) (hs:aj ids bs (if bg ids bs r0 then s else aq s fz) (am ids bs s.length)=s2) (h:Ops p b0 os (put e d v) s2 Q):Ops p b0 (⟨d,.callv fv args,none⟩::os) e s Q :=
 oV (t := .fn f) (t' := .fn f) ht0 hc hi hd rfl (by rw [cm,has]) (by rw [aF,hbs]) hret hl (by rw [bX,hv]) (by rw [aF,hs]) h
theorem amB {b0:Nat} {d:Option Nat} {os:List VOper} {e:Env} {s s2:aa} {Q:Env->aa->Prop} {fv:Opd} {id id':Nat} {args:List Opd} {as as':List V} {fz ids:List Nat} {r0 v:V} {bs bs0:aa} (ht0:ev e fv = .yield id) (hret:Ret p (.round id') as' bs0 r0 bs) (hc:ai s [] (args.map (ev e))=some (as,fz)) (hi:aM s (aA s) (id::refsL as) []=ids) (hd:(ids.all fun i => !fz.contains i)=true) (ht:pos ids id=some id')
 (has:renL (pos ids) as=as') (hbs:pack s ids (pos ids)=bs0) (hl:(decide (ids.length<=bs.length)&&gT (bs.take ids.length))=true) (hv:ren (am ids bs s.length) r0=v) (hs:aj ids bs (if bg ids bs r0 then s else aq s fz) (am ids bs s.length)=s2) (h:Ops p b0 os (put e d v) s2 Q):Ops p b0 (⟨d,.callv fv args,none⟩::os) e s Q :=
 oV (t := .round id) (xa:=[]) (xb:=[]) (t' := .round id') (by rw [ht0];rfl) (by simpa using hc) hi hd (by simp [iq,ht]) (by rw [cm,has]) (by rw [aF,hbs]) hret hl (by rw [bX,hv]) (by rw [aF,hs]) h
theorem oRp {b0:Nat} {d:Option Nat} {os:List VOper} {e:Env} {s s2:aa} {Q:Env->aa->Prop} {f:Nat} {args:List Opd} {as as':List V} {fz ids:List Nat} {r0 v:V} {bs bs0:aa} (hret:Ret p (.fn f) as' bs0 r0 bs) (hc:ai s (al p f) (args.map (ev e))=some (as,fz)) (hi:aM s (aA s) (refsL as) []=ids) (hd:(ids.all fun i => !fz.contains i)=true)
 (has:renL (pos ids) as=as') (hbs:pack s ids (pos ids)=bs0) (hl:(decide (ids.length<=bs.length)&&gT (bs.take ids.length))=true) (hv:ren (am ids bs s.length) r0=v) (hs:aj ids bs (if bg ids bs r0 then s else aq s fz) (am ids bs s.length)=s2) (h:Ops p b0 os (put e d v) s2 Q):Ops p b0 (⟨d,.call f args,none⟩::os) e s Q :=
 oR hc hi hd (by rw [cm,has]) (by rw [aF,hbs]) hret hl (by rw [bX,hv]) (by rw [aF,hs]) h
theorem gz (e:Env) : ∀ l:List Nat,ei (lives e l)=refsL (l.map e)
 | []=>rfl
 | t::l=>by
   have:=gz e l
   simp only [lives,List.map_cons,ei,refsL] at this ⊢
   rw [this]
theorem jF (m:Nat->Option Nat) (e:Env) : ∀ l:List Nat,renL m (l.map e)=l.map fun t=>ren m (e t)
 | []=>rfl
 | t::l=>by simp only [List.map_cons,renL,jF m e l]
theorem hdp {k:Nat} {live:List Nat} {body:VCode} {e:Env} {s s1:aa} {ids:List Nat} {vs0 vs:List V} {K:List Fr} {Q:Out->Env->aa->Prop} (hv:live.map e=vs0) (hi:ci s k (refsL vs0)=ids) (hw:renL (pos ids) vs0=vs) (hs:pack s ids (pos ids)=s1) (hb:ah p k live body vs s1 K Q):Loop p k live body e s (bl p k K Q):=by
 have he:ei (lives e live)=refsL vs0:=by rw [<- hv];exact gz e live
 refine af (s1:=s1) (vs:=vs) ?_ hb
 unfold eW
 rw [cm,aF,he,hi,hs,<- hw,<- hv,jF]
theorem rm {k:Nat} {res:List VRes} {e:Env} {s bs':aa} {xs:List V} {x:D} {ids:List Nat} (hr:results e s res=some xs) (hd:toD s bB (dZ xs)=some (x,[])) (hi:ci s k []=ids) (ht:pack s ids (pos ids)=bs'):fin false k res .ret e s=some (.d x,bs'):=by
 have hcl:aq s []=s:=rfl
 simp only [fin,hr,eo,Bool.false_eq_true,if_false,hd,hcl,hi,ht]
theorem ez {k:Nat} {res:List VRes} {e:Env} {s s' bs':aa} {xs:List V} {x:D} {fz ids:List Nat} (hr:results e s res=some xs) (hd:toD s bB (dZ xs)=some (x,fz)) (hs:aq s fz=s') (hi:ci s' k []=ids) (ht:pack s' ids (pos ids)=bs'):fin false k res .ret e s=some (.d x,bs'):=by
 simp only [fin,hr,eo,Bool.false_eq_true,if_false,hd,hs,hi,ht]
theorem nA {p:bh} {α:Type} {k:Nat} {c:VCode} {e:Env} {s:aa} {P:α->Out->Env->aa->Prop} (h:Run p k c e s fun o e s => ∃ x,P x o e s) : ∃ x,Run p k c e s (P x):=by
 unfold Run at h ⊢
 obtain ⟨o,e',s',⟨x,hx⟩,hr⟩:=h
 exact ⟨x,o,e',s',hx,hr⟩
theorem Jx {s:aa} {k:Nat} (h : ∀ i,i < k -> ∃ b,s[i]?=some (some b)/\(du b).all (fun j=>decide (j < k))=true):closed s k:=by
 intro i hi
 obtain ⟨b,h1,h2⟩:=h i hi
 exact ⟨b,h1,fun j hj=>of_decide_eq_true (List.all_eq_true.1 h2 j hj)⟩
end Go.Proofs.YtncfpmehhfdipaaGreat
namespace Go.Proofs.YtncfpmehhfdipaaGreat
variable {p:bh}
theorem kf {α:Type} (s:List α) (j:Nat) (x:α) (h:j < s.length):(s.set j x).take (j+1)=s.take j++[x]:=by
 rw [List.take_succ_eq_append_getElem (by rw [List.length_set];exact h),List.take_set,List.getElem_set_self,List.set_eq_of_length_le (by rw [List.length_take];omega)]
theorem j5 {m:Nat->Option Nat} : ∀ (n j:Nat) (bs s:aa),n<=bs.length->s.length=j+n->ec m (List.range' j n) bs s=s.take j++(bs.take n).map fun b=>b.map (renB m)
 | 0,j,bs,s,_,hs=>by simp only [List.range'_zero,ec,List.take_zero,List.map_nil,List.append_nil];exact (List.take_of_length_le (by omega)).symm
 | n+1,j,[],s,hb,_=>by simp at hb
 | n+1,j,b::bs,s,hb,hs=>by
   rw [List.range'_succ]
   simp only [ec]
   rw [j5 n (j+1) bs _ (by simpa using hb) (by rw [List.length_set];omega),kf _ _ _ (by omega)]
   simp
def ij (s:aa):Prop:=closed s s.length
theorem kR {s:aa} (h:ij s) {n:Nat} : gT (s.take n)=true:=by
 unfold gT
 rw [List.all_eq_true]
 intro b hb
 obtain ⟨i,hi,rfl⟩:=List.getElem_of_mem hb
 rw [List.getElem_take]
 obtain ⟨b,h1,_⟩:=h i (by rw [List.length_take] at hi;omega)
 obtain ⟨_,h2⟩:=List.getElem?_eq_some_iff.1 h1
 rw [h2];rfl
theorem wq {s:aa} {m:Nat->Option Nat} (h:ij s) (hm : ∀ i,i < s.length->m i=some i):s.map (fun b=>b.map (renB m))=s:=by
 refine List.ext_getElem? fun i => ?_
 rw [List.getElem?_map]
 by_cases hi:i < s.length
 · obtain ⟨b,hb,hr⟩:=h i hi
   rw [hb]
   simp only [Option.map_some,kv fun j hj=>hm j (hr j hj)]
 · rw [List.getElem?_eq_none (by omega)];rfl
theorem i7 {n:Nat} {bs:aa} (hn:n<=bs.length) {i:Nat} (hi:i < bs.length):am (List.range n) bs n i=some i:=by
 unfold am
 rw [List.length_range]
 by_cases h:i < n
 · rw [if_pos h,List.getElem?_range h]
 · rw [if_neg h,if_pos hi];congr 1;omega
theorem fC {s bs:aa} (hb:ij bs) (hn:s.length<=bs.length):aj (List.range s.length) bs s (am (List.range s.length) bs s.length)=bs:=by
 unfold aj
 rw [List.range_eq_range',j5 s.length 0 bs s hn (by omega),List.take_zero,List.nil_append,List.length_range',<- List.range_eq_range',<- List.map_append,List.take_append_drop]
 exact wq hb fun i hi=>i7 hn hi
section
variable {b0:Nat} {d:Option Nat} {os:List VOper} {e:Env} {s bs:aa} {Q:Env->aa->Prop}
theorem aaV {fv:Opd} {f:Nat} {xa xb:List V} {args:List Opd} {as:List V} {r:V} (hret:Ret p (.fn f) as s r bs) (ht0:target (ev e fv)=some (.fn f,xa,xb)) (hc:ai s (al p f) (xa++args.map (ev e)++xb)=some (as,[])) (hi:aM s (aA s) (refsL as) []=List.range s.length) (hs:ij s) (hb:ij bs) (hn:s.length<=bs.length) (h0:0 < s.length) (ha : ∀ i∈refsL as,i < s.length) (hr : ∀ i∈refs r,i < bs.length)
 (h:Ops p b0 os (put e d r) bs Q):Ops p b0 (⟨d,.callv fv args,none⟩::os) e s Q:=by
 refine oVp (ids:=List.range s.length) (s2:=bs) (v:=r) ht0 hret hc hi (by simp) (renL_fix fun i hi=>ej (ha i hi)) (by rw [cP hs,List.take_length]) ?_ (ren_fix fun i hi=>i7 hn (hr i hi)) ?_ h
 · rw [List.length_range,Bool.and_eq_true,decide_eq_true_eq]
   exact ⟨hn,kR hb⟩
 · have hl:bg (List.range s.length) bs r=false:=by
    unfold bg
    cases hz:s.length with
    | zero=>omega
    | succ n=>rw [List.range_succ_eq_map];rfl
   rw [hl]
   exact fC hb hn
end
theorem wV {k:Nat} {res:List VRes} {e:Env} {s bs':aa} {xs:List V} {x:D} {ids:List Nat} (hr:results e s res=some xs) (hd:toD s bB (dZ xs)=some (x,[])) (hi:ci s k []=ids) (ht:pack s ids (pos ids)=bs'):fin false k res .normal e s=some (.d x,bs'):=by
 have hcl:aq s []=s:=rfl
 simp only [fin,hr,eo,Bool.false_eq_true,if_false,hd,hcl,hi,ht]
theorem rr0 {k n:Nat} {ops:List VOper} {e:Env} {s:aa} {K:List Fr} {Q:Out->Env->aa->Prop} (hn:s.length=n) (h:Ops p n ops e s (bl p k K Q .normal)):Run p k (.region none 0 ops) e s (bl p k K Q):=by
 subst hn
 exact jx (by rw [List.replicate_zero,List.append_nil];exact h)
theorem rd0 {k n:Nat} {pairs:List (Nat×Nat)} {ops:List VOper} {e:Env} {s:aa} {K:List Fr} {Q:Out->Env->aa->Prop} (hn:s.length=n) (h:dJ p n ops e s fun e s fs=>ni fs pairs (bl p k K Q .normal e s)):Run p k (.region (some pairs) 0 ops) e s (bl p k K Q) :=
 rd (by rw [aF,List.replicate_zero,List.append_nil]) hn h
def sB (r:Option (Res×aa)):Option V :=
 match r with
 | some (.val x,_)=>kP x some
 | some (.none,_)=>some cA
 | none=>none
theorem ovp {b0:Nat} {d:Option Nat} {op:VOp} {os:List VOper} {e:Env} {s:aa} {Q:Env->aa->Prop} {x:V} (h1:sB (ae (fun _ _ _=>none) (fun _=>[]) b0 op e s)=some x) (h2:(ae (fun _ _ _=>none) (fun _=>[]) b0 op e s).map Prod.snd=some s) (h:Ops p b0 os (put e d x) s Q):Ops p b0 (⟨d,op,none⟩::os) e s Q:=by
 refine qR ?_
 unfold Io
 unfold sB at h1
 split at h1
 · rename_i y s' hr
   rw [hr] at h2 ⊢
   rw [dK] at h1
   simp only [Option.map_some,Option.some.injEq] at h1 h2
   subst h1;subst h2
   exact h
 · rename_i s' hr
   rw [hr] at h2 ⊢
   simp only [Option.map_some,Option.some.injEq] at h1 h2
   subst h1;subst h2
   exact h
 · cases h1
end Go.Proofs.YtncfpmehhfdipaaGreat
namespace Go.Proofs.YtncfpmehhfdipaaGreat
variable {p:bh}
class ZRb (b:Option Blk) (l:outParam (Option (List Nat))):Prop where
 h:b.map du=l
instance (priority:=low) zrb_any (b:Option Blk):ZRb b (b.map du):=⟨rfl⟩
instance zrb_rows (v:Nat) (ro:Bool) (e:Nat) (es:List D):ZRb (some (.rows v ro e (ao es))) (some []):=⟨by simp [du,bf]⟩
class ZTs (s:aa) (t:outParam (List (Option (List Nat)))):Prop where
 h:tab s=t
instance zts_nil:ZTs [] []:=⟨rfl⟩
instance zts_cons (b:Option Blk) (s:aa) (l:Option (List Nat)) (t:List (Option (List Nat))) [hb:ZRb b l] [hs:ZTs s t]:ZTs (b::s) (l::t):=⟨by simp only [tab,List.map_cons];rw [hb.h];exact congrArg _ hs.h⟩
class ZRr (b:Option Blk) (f:outParam ((Nat->Option Nat)->Option Blk)):Prop where
 h : ∀ m,b.map (renB m)=f m
instance (priority:=low) zrr_any (b:Option Blk):ZRr b (fun m=>b.map (renB m)):=⟨fun _=>rfl⟩
instance zrr_rows (v:Nat) (ro:Bool) (e:Nat) (es:List D):ZRr (some (.rows v ro e (ao es))) (fun _=>some (.rows v ro e (ao es))):=⟨fun m=>by simp [renB,bD]⟩
class ZRs (s:aa) (F:outParam ((Nat->Option Nat)->aa)):Prop where
 h : ∀ m,s.map (fun b=>b.map (renB m))=F m
instance zrs_nil:ZRs [] (fun _=>[]):=⟨fun _=>rfl⟩
instance zrs_cons (b:Option Blk) (s:aa) (f:(Nat->Option Nat)->Option Blk) (F:(Nat->Option Nat)->aa) [hb:ZRr b f] [hs:ZRs s F]:ZRs (b::s) (fun m=>f m::F m):=⟨fun m=>by rw [List.map_cons,hb.h,hs.h]⟩
theorem ge {s:aa} {F:(Nat->Option Nat)->aa} [hr:ZRs s F] (ids:List Nat) (m:Nat->Option Nat):pack s ids m=ids.map fun i=>getB (F m) i:=by
 unfold pack
 refine List.map_congr_left fun i _ => ?_
 rw [<- hr.h]
 unfold getB
 rw [List.getElem?_map]
 cases s[i]? with
 | none=>rfl
 | some b=>rfl
def l9:List Nat->aa->aa->aa
 | i::ids,b::bs,s=>l9 ids bs (s.set i b)
 | _,_,s=>s
theorem n9 (m:Nat->Option Nat) : ∀ (ids:List Nat) (bs s:aa),ec m ids bs s=l9 ids (bs.map fun b=>b.map (renB m)) s
 | [],_,_=>by simp [ec,l9]
 | _::_,[],_=>by simp [ec,l9]
 | i::ids,b::bs,s=>by simp only [ec,List.map_cons,l9];exact n9 m ids bs _
theorem gv {bs:aa} {G:(Nat->Option Nat)->aa} [hr:ZRs bs G] (ids:List Nat) (s:aa) (m:Nat->Option Nat):aj ids bs s m=l9 ids (G m) s++(G m).drop ids.length:=by
 unfold aj
 rw [n9,hr.h,<- hr.h m,List.map_drop]
theorem hdX {k:Nat} {live:List Nat} {body:VCode} {e:Env} {s s1:aa} {t:List (Option (List Nat))} {F:(Nat->Option Nat)->aa} {ids:List Nat} {vs0 vs:List V} {K:List Fr} {Q:Out->Env->aa->Prop} [ht:ZTs s t] [hr:ZRs s F] (hv:cg (live.map e) some=some vs0) (hi:cL (cD t 100000 (refsL vs0++dM t (List.range k)) (List.range k)) some=some ids) (hw:cg (renL (pos ids) vs0) some=some vs) (hs:fF (ids.map fun i=>getB (F (pos ids)) i) some=some s1) (hb:ah p k live body vs s1 K Q):Loop p k live body e s (bl p k K Q):=by
 rw [cX] at hv hw;rw [ce] at hs
 injection hv with hv;injection hw with hw;injection hs with hs
 exact hdp hv ((fP ht.h k _).trans (dn hi)) hw ((ge ids _).trans hs) hb
theorem lhX {k:Nat} {live:List Nat} {body:VCode} {e:Env} {s s1:aa} {t:List (Option (List Nat))} {F:(Nat->Option Nat)->aa} {ids:List Nat} {vs0 vs:List V} {K:List Fr} {Q:Out->Env->aa->Prop} [ht:ZTs s t] [hr:ZRs s F] (hv:cg (live.map e) some=some vs0) (hi:cL (cD t 100000 (refsL vs0++dM t (List.range k)) (List.range k)) some=some ids) (hw:cg (renL (pos ids) vs0) some=some vs) (hs:fF (ids.map fun i=>getB (F (pos ids)) i) some=some s1) (hb:Run p k body (dQ (live.zip vs)) s1 (bl p k (.loop live body::K) Q)):Loop p k live body e s (bl p k K Q):=hdX hv hi hw hs (by unfold ah;exact hb)
section
variable {b0:Nat} {d:Option Nat} {os:List VOper} {e:Env} {s s2:aa} {Q:Env->aa->Prop} {t:List (Option (List Nat))} {F G:(Nat->Option Nat)->aa}
theorem oRX {f:Nat} {args:List Opd} {as as':List V} {fz ids:List Nat} {r0 v:V} {bs bs0:aa} [ht:ZTs s t] [hr:ZRs s F] [hg:ZRs bs G] (hret:Ret p (.fn f) as' bs0 r0 bs) (hc:ai s (al p f) (args.map (ev e))=some (as,fz)) (hi:cL (cD t 100000 (refsL as) []) some=some ids) (hd:(ids.all fun i => !fz.contains i)=true)
 (has:cg (renL (pos ids) as) some=some as') (hbs:(ids.map fun i=>getB (F (pos ids)) i)=bs0) (hl:(decide (ids.length<=bs.length)&&gT (bs.take ids.length))=true) (hv:kP (ren (am ids bs s.length) r0) some=some v) (hs:fF (l9 ids (G (am ids bs s.length)) (if bg ids bs r0 then s else aq s fz)++(G (am ids bs s.length)).drop ids.length) some=some s2) (h:Ops p b0 os (put e d v) s2 Q):Ops p b0 (⟨d,.call f args,none⟩::os) e s Q:=by
 rw [cX] at has;rw [dK] at hv;rw [ce] at hs
 injection has with has;injection hv with hv;injection hs with hs
 exact oRp hret hc ((cO s _ _ _).trans (by rw [ht.h];exact dn hi)) hd has ((ge ids _).trans hbs) hl hv ((gv ids _ _).trans hs) h
theorem oVX {fv:Opd} {f:Nat} {xa xb:List V} {args:List Opd} {as as':List V} {fz ids:List Nat} {r0 v:V} {bs bs0:aa} [ht:ZTs s t] [hr:ZRs s F] [hg:ZRs bs G] (ht0:target (ev e fv)=some (.fn f,xa,xb)) (hret:Ret p (.fn f) as' bs0 r0 bs) (hc:ai s (al p f) (xa++args.map (ev e)++xb)=some (as,fz)) (hi:cL (cD t 100000 (refsL as) []) some=some ids) (hd:(ids.all fun i => !fz.contains i)=true)
 (has:cg (renL (pos ids) as) some=some as') (hbs:(ids.map fun i=>getB (F (pos ids)) i)=bs0) (hl:(decide (ids.length<=bs.length)&&gT (bs.take ids.length))=true) (hv:kP (ren (am ids bs s.length) r0) some=some v) (hs:fF (l9 ids (G (am ids bs s.length)) (if bg ids bs r0 then s else aq s fz)++(G (am ids bs s.length)).drop ids.length) some=some s2) (h:Ops p b0 os (put e d v) s2 Q):Ops p b0 (⟨d,.callv fv args,none⟩::os) e s Q:=by
 rw [cX] at has;rw [dK] at hv;rw [ce] at hs
 injection has with has;injection hv with hv;injection hs with hs
 exact oVp ht0 hret hc ((cO s _ _ _).trans (by rw [ht.h];exact dn hi)) hd has ((ge ids _).trans hbs) hl hv ((gv ids _ _).trans hs) h
end
theorem kG {k:Nat} {res:List VRes} {e:Env} {s bs':aa} {xs:List V} {x:D} {ids:List Nat} {t:List (Option (List Nat))} {F:(Nat->Option Nat)->aa} [ht:ZTs s t] [hr:ZRs s F] (hres:results e s res=some xs) (hd:toD s bB (dZ xs)=some (x,[])) (hi:cL (cD t 100000 ([]++dM t (List.range k)) (List.range k)) some=some ids) (hs:(ids.map fun i=>getB (F (pos ids)) i)=bs'):fin false k res .ret e s=some (.d x,bs') :=
 rm hres hd ((fP ht.h k _).trans (dn hi)) ((ge ids _).trans hs)
end Go.Proofs.YtncfpmehhfdipaaGreat
namespace Go.Proofs.YtncfpmehhfdipaaGreat
open Go.ChangeShapes Go.WideShapes
def KwM (w:World):aS:=fun B o=>match w.heap[B]? with
 | some (.cells c _ _)=>match c[o]? with
   | some v=>if v.oneCell'=true then some v else none
   | none=>none
 | _=>none
theorem aZI {w:World} : ∀ B o v,KwM w B o=some v->v.oneCell'=true /\ ∃ c t z,w.heap[B]?=some (.cells c t z)/\c[o]?=some v:=by
 intro B o v h
 unfold KwM at h
 split at h
 · rename_i c t z hb
   split at h
   · rename_i u hu
     split at h
     · rename_i h1
       cases h
       exact ⟨h1,c,t,z,hb,hu⟩
     · cases h
   · cases h
 · cases h
theorem on {w:World} {B o:Nat} {k:IntKind} {n:Int} (h:w.cell? ⟨B,o,none⟩=some (.int k n)):KwM w B o=some (.int k n):=by
 unfold World.cell? at h
 unfold KwM
 split at h<;>simp_all [Value.oneCell']
theorem it {fo:Nat->Option FuncId} {K:aS} {k:IntKind} : ∀ l:List Int,RDs fo K (l.map (fun n=>D.int k n)) (l.map (fun n=>Value.int k n))
 | [] => .nil
 | n::l => .cons _ _ _ _ (.int k n) (it l)
theorem dp {k:IntKind} : ∀ l:List Int,(l.map (fun n=>D.int k n)).flatMap D.cells=l.map (fun n=>D.int k n)
 | []=>rfl
 | n::l=>by rw [List.map_cons,List.flatMap_cons,dp l];rfl
theorem le {H:Type} {enc:TypeId×Value->H} {P:Program} {w:World} {r:Reach} {b:Nat} {fo:Nat->Option FuncId} {t e:TypeId} {k:IntKind} {v:Value} {d:DataW H} {ps:List MemPlace}
 (ht:P.underlying t=some (.slice e)) (he:P.underlying e=some (.int k)) (hc:P.cellsOf e=1) (hv:Value.okWide P w r b t v) (hd:DataW.Trod enc P w 0 (fun _=>true) true t v d ps) :
 ∃ l:List Int,RD fo (KwM w) (.slice (l.map fun n=>D.int k n)) v:=by
 obtain ⟨a0,len,cap,rfl⟩:=okWide_slice ht hv
 obtain ⟨fuel,hf⟩:=hd
 rcases open_ints ht he hc hf with ⟨hcs,_⟩ | ⟨a,len',cap',zsx,hcs,_,hle,_,hall,_,hcell,_⟩
 · simp [Value.cells] at hcs
   obtain ⟨rfl,rfl,rfl⟩:=hcs
   exact ⟨[],.sliceE _ _ (fun _=>rfl)⟩
 · simp [Value.cells] at hcs
   obtain ⟨rfl,rfl,rfl⟩:=hcs
   simp only [if_true] at hall
   rcases Nat.eq_zero_or_pos len with h0 | hp
   · subst h0
     exact ⟨[],.sliceE _ _ (fun h=>by cases h)⟩
   · obtain ⟨B,o,rfl,hat⟩:=ints_at hcell (by omega)
     have hl:((zsx.take len).map fun n=>D.int k n).length=len:=by simp;omega
     refine ⟨zsx.take len,?_⟩
     have:=RD.slice (fo:=fo) (K:=KwM w) ((zsx.take len).map fun n=>D.int k n) B o cap 1 ((zsx.take len).map fun n=>Value.int k n) (by intro h;rw [h] at hl;simp at hl;omega) (by omega)
      (by intro x hx;obtain ⟨n,_,rfl⟩:=List.mem_map.1 hx;rfl) (by rw [dp];exact it _) ?_ (by rw [hl];omega)
     · rw [hl] at this;exact this
     · intro j v hj
       rw [List.getElem?_map,List.getElem?_take] at hj
       split at hj
       · rename_i hjl
         have hz:j < zsx.length:=by omega
         rw [List.getElem?_eq_getElem hz] at hj
         simp at hj
         subst hj
         refine on ?_
         have:=hat j hz
         rw [List.getD_eq_getElem?_getD,List.getElem?_eq_getElem hz] at this
         exact this
       · simp at hj
end Go.Proofs.YtncfpmehhfdipaaGreat
