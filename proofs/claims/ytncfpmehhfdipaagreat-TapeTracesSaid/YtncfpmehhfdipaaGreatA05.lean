/- A function's run, a round's run: what the machine answers, the model does. -/
import Derived.Test.YtncfpmehhfdipaaGreatA04
import Derived.Test.YtncfpmehhfdipaaGreatA00
set_option linter.unusedSimpArgs false
set_option linter.unusedVariables false
set_option linter.unnecessarySimpa false
namespace Go.Proofs.YtncfpmehhfdipaaGreat
open Go.RowKit
variable {mu:Bool}
variable {P:Program} {fo:Nat->Option FuncId} {K K0:aS} {ρ ρ0:ax} {w w0:World} {tr:FuncId->Option Nat} {base N:Nat} {s s' s0 bs:aa} {vv:Nat->Option (Nat×Nat)}
structure ProgOK (P:Program) (fo:Nat->Option FuncId) (p:bh):Prop where
 mixed:P.follows .mixedOrders=true
 fns:su P fo
 comp : ∀ f fn g,p f=some fn->fo f=some g -> ∃ fnM lives tr,(∀ g f,tr g=some f->fo f=some g)/\P.funcs[g]?=some fnM/\jX P tr fn.byRef fn.keep fn.split lives fnM=some fn
theorem j6 : ∀ (xs:List V) (i t:Nat),cE i xs t=if i<=t then xs.getD (t - i) .poison else .poison
 | [],i,t=>by simp [cE,e0]
 | x::xs,i,t=>by
   simp only [cE,upd]
   by_cases h:t=i
   · subst h;simp
   · have:Nat.beq t i=false:=by cases hq:Nat.beq t i with | false=>rfl | true=>exact absurd (Nat.eq_of_beq_eq_true hq) h
     simp only [this,cond_false,j6 xs (i+1) t]
     by_cases h1:i+1<=t
     · rw [if_pos h1,if_pos (by omega)]
       have:t - i=(t - (i+1))+1:=by omega
       rw [this];simp
     · rw [if_neg h1,if_neg (by omega)]
theorem qt {args:List V} {vargs:Array Value} {n:Nat} (h:RVs fo K ρ vv args vargs.toList):RE fo K ρ vv (cE 0 args) (vargs++Array.replicate n undef):=by
 intro t
 rw [j6,if_pos (Nat.zero_le _),Nat.sub_zero]
 cases ht:args[t]? with
 | none=>simp only [List.getD_eq_getElem?_getD,ht,Option.getD_none];exact .poison _
 | some x =>
   obtain ⟨v,h1,h2⟩:=h.get ht
   have hlt:t < vargs.size:=by have:=(List.getElem?_eq_some_iff.1 h1).1;simpa using this
   have e:(vargs++Array.replicate n undef).getD t undef=v:=by
    rw [Array.getD_eq_getD_getElem?,Array.getElem?_append_left hlt]
    simp only [Array.getElem?_toList] at h1
    rw [h1];rfl
   rw [e]
   simp only [List.getD_eq_getElem?_getD,ht,Option.getD_some];exact h2
theorem qr {args:List V} {vargs:Array Value} (hS:RS P fo base K ρ bs w) (h:RVs fo K ρ (vo bs) args vargs.toList):Inv P fo base N K ρ bs w (cE 0 args) bs { tmps:=vargs++Array.replicate (N - vargs.size) undef,defers:=[] } w :=
 ⟨K,ρ,hS,.refl,qt h,by simp;omega,[],rfl,List.nodup_nil,by simp⟩
theorem nz {α:Type} {f:α->Sem Value} : ∀ (l:List α) (vs:List Value),l.length=vs.length->(∀ (k:Nat) a v,l[k]?=some a->vs[k]?=some v->(f a).run P w = .ok v w)->(l.mapM f).run P w = .ok vs w
 | [],[],_,_=>by simp [Sem.run_pure]
 | [],_::_,h,_=>by simp at h
 | _::_,[],h,_=>by simp at h
 | a::l,v::vs,hl,h=>by
   have h0:=h 0 a v rfl rfl
   have h1:=nz l vs (by simpa using hl) fun k a v h1 h2=>h (k+1) a v (by simpa using h1) (by simpa using h2)
   simp only [List.mapM_cons,Sem.run_bind,h0,Result.andThen_ok,h1,Sem.run_pure]
theorem my {agg:Bool} {n:Nat} {x r:V} {v:Value} (hx:RV fo K ρ vv x v) (h:iM s agg n x=some r) : ∃ a,v = .pointer (some a):=by
 unfold iM at h
 split at h
 · obtain ⟨B,o,vs,rfl,_⟩:=hx.iptr_inv;exact ⟨_,rfl⟩
 · obtain ⟨a,v0,e',rfl,_⟩:=hx.ptr_inv;exact ⟨_,rfl⟩
 · cases h
theorem iB : ∀ {rs:List VRes} {e:Env} {s:aa} {xs:List V},results e s rs=some xs->xs.length=rs.length /\ ∀ (k:Nat) r,rs[k]?=some r -> ∃ x,xs[k]?=some x/\oZ e s r=some x
 | [],e,s,xs,h=>by simp only [results] at h;injection h with h;subst h;exact ⟨rfl,by simp⟩
 | r::rs,e,s,xs,h=>by
   simp only [results] at h
   split at h<;>try (cases h;done)
   rename_i x xs' h1 h2
   injection h with h;subst h
   obtain ⟨a1,a2⟩:=iB h2
   refine ⟨by simp [a1],fun k r' hk => ?_⟩
   cases k with
   | zero=>simp only [List.getElem?_cons_zero] at hk;injection hk with hk;subst hk;exact ⟨x,rfl,h1⟩
   | succ k=>obtain ⟨y,b1,b2⟩:=a2 k r' (by simpa using hk);exact ⟨y,by simpa using b1,b2⟩
def resSem (tmps:Array Value):ResultVar->Sem Value
 | .tmp t=>pure (tmps.getD t undef)
 | .cell a t=>do loadVar t (<- asAddr (tmps.getD a undef))
theorem oX (fnM:Func) (tmps:Array Value):Go.results fnM tmps=(do let vs<-fnM.results.mapM (resSem tmps);pure (if h:vs.size=1 then vs[0] else .tuple vs)):=rfl
theorem lm {fnM:Func} {e:Env} {tmps:Array Value} {rs:List VRes} {xs:List V} (hS:RS P fo base K ρ s w) (hE:RE fo K ρ (vo s) e tmps) (hc:fnM.results.toList.mapM (kI P)=some rs) (h:results e s rs=some xs) :
 ∃ v,(Go.results fnM tmps).run P w = .ok v w/\RV fo K ρ (vo s) (dZ xs) v:=by
 obtain ⟨l1,g1⟩:=kA hc
 obtain ⟨l2,g2⟩:=iB h
 have one : ∀ (k:Nat) r,fnM.results.toList[k]?=some r -> ∃ x v,xs[k]?=some x/\RV fo K ρ (vo s) x v/\(resSem tmps r).run P w = .ok v w:=fun k r hk=>by
  obtain ⟨y,h1,h2⟩:=g1 k r hk
  obtain ⟨x,h3,h4⟩:=g2 k y h2
  cases r with
  | tmp t =>
    simp only [kI] at h1;injection h1 with h1;subst h1
    simp only [oZ] at h4;injection h4 with h4;subst h4
    exact ⟨_,_,h3,hE t,by simp [resSem,Sem.run_pure]⟩
  | cell a t =>
    simp only [kI,Option.bind_eq_bind,Option.bind_eq_some_iff] at h1
    obtain ⟨b,hb,n,hn,h1⟩:=h1
    split at h1<;>try (cases h1;done)
    rename_i hbn
    injection h1 with h1;subst h1
    simp only [oZ] at h4
    have hagg:b=false->n=1:=fun hh=>by subst hh;simpa using hbn
    obtain ⟨z,q1,q2⟩:=lF hS hb hn hagg (hE a) h4
    obtain ⟨ad,had⟩:=my (hE a) h4
    refine ⟨x,z,h3,q2,?_⟩
    simp only [resSem]
    rw [had] at q1 ⊢
    simpa [Instr.loadAt,Instr.sureAddr,asAddr,Sem.run_bind,Sem.run_pure,Result.andThen] using q1
 have hlen:xs.length=fnM.results.toList.length:=by omega
 obtain ⟨vs,hvl,hvs⟩ : ∃ vs:List Value,vs.length=xs.length /\ ∀ (k:Nat) r v,fnM.results.toList[k]?=some r->vs[k]?=some v -> ∃ x,xs[k]?=some x/\RV fo K ρ (vo s) x v/\(resSem tmps r).run P w = .ok v w:=by
  have : ∀ n,n<=fnM.results.toList.length -> ∃ vs:List Value,vs.length=n /\ ∀ (k:Nat) r v,fnM.results.toList[k]?=some r->vs[k]?=some v -> ∃ x,xs[k]?=some x/\RV fo K ρ (vo s) x v/\(resSem tmps r).run P w = .ok v w:=by
   intro n
   induction n with
   | zero=>intro _;exact ⟨[],rfl,by simp⟩
   | succ n ih =>
     intro hn
     obtain ⟨vs,a1,a2⟩:=ih (by omega)
     obtain ⟨x,v,b1,b2,b3⟩:=one n _ (List.getElem?_eq_getElem (by omega))
     refine ⟨vs++[v],by simp [a1],fun k r v' hk hv => ?_⟩
     by_cases hkn:k < n
     · rw [List.getElem?_append_left (by omega)] at hv
       exact a2 k r v' hk hv
     · have:k=n:=by have:=(List.getElem?_eq_some_iff.1 hv).1;simp at this;omega
       subst this
       rw [List.getElem?_append_right (by omega),a1] at hv
       simp at hv;subst hv
       have:r=fnM.results.toList[k]:=by rw [List.getElem?_eq_getElem (by omega)] at hk;injection hk with hk;exact hk.symm
       subst this
       exact ⟨x,b1,b2,b3⟩
  obtain ⟨vs,a1,a2⟩:=this _ (Nat.le_refl _)
  exact ⟨vs,by omega,a2⟩
 have hrun:=nz (P:=P) (w:=w) (f:=resSem tmps) fnM.results.toList vs (by omega) fun k a v h1 h2=>let ⟨x,_,_,h⟩:=hvs k a v h1 h2;h
 have hRVs:RVs fo K ρ (vo s) xs vs := .of_get hvl.symm fun k x v h1 h2=>by
  have hk:k < fnM.results.toList.length:=by have:=(List.getElem?_eq_some_iff.1 h1).1;omega
  obtain ⟨x',a1,a2,_⟩:=hvs k _ v (List.getElem?_eq_getElem hk) h2
  rw [h1] at a1;injection a1 with a1;subst a1;exact a2
 refine ⟨if h:vs.toArray.size=1 then vs.toArray[0] else .tuple vs.toArray,?_,?_⟩
 · rw [oX,Array.mapM_eq_mapM_toList]
   change Sem.run P (Sem.bind (Sem.bind (List.mapM (resSem tmps) fnM.results.toList) (Sem.pure∘List.toArray)) _) w=_
   have h1:Sem.run P (Sem.bind (List.mapM (resSem tmps) fnM.results.toList) (Sem.pure∘List.toArray)) w = .ok vs.toArray w:=by
    change Sem.run P (List.mapM (resSem tmps) fnM.results.toList >>= fun vs=>pure vs.toArray) w=_
    simp only [Sem.run_bind,hrun,Result.andThen_ok,Sem.run_pure]
   change Sem.run P ((Sem.bind (List.mapM (resSem tmps) fnM.results.toList) (Sem.pure∘List.toArray)) >>= fun vs=>pure (if h:vs.size=1 then vs[0] else .tuple vs)) w=_
   simp only [Sem.run_bind,h1,Result.andThen_ok,Sem.run_pure]
 · cases hRVs with
   | nil=>simp [dZ];exact RV.mkTuple (xs:=[]) (vs := #[]) .nil
   | cons x v xs vs hx hs =>
     cases hs with
     | nil=>simpa [dZ] using hx
     | cons y u ys us hy hs =>
       have:¬ (v::u::us).toArray.size=1:=by simp
       rw [dif_neg this]
       exact RV.mkTuple (xs:=x::y::ys) (.cons _ _ _ _ hx (.cons _ _ _ _ hy hs))
theorem jS {keep:Bool} {r r':V} {v:Value} (hS:RS P fo base K ρ s w) (hT:Stp base K0 ρ0 bs w0 K ρ s w) (hv:RV fo K ρ (vo s) r v) (h:eo keep bs.length r s=some (r',s')):Done P fo base K0 ρ0 bs w0 r' s' (.returned v) w:=by
 unfold eo at h
 split at h
 · injection h with h;injection h with h1 h2;subst h1;subst h2
   obtain ⟨g1,g2⟩:=gk s bs.length (refs r)
   exact .mk' (hS.pack g1) (hT.pack g2) (hv.ren eI)
 · split at h<;>try (cases h;done)
   rename_i d fz hd
   injection h with h;injection h with h1 h2;subst h1;subst h2
   obtain ⟨K',c1,c2,c3,c4,c5⟩:=qj hS hv hd
   obtain ⟨g1,g2⟩:=gk (aq s fz) bs.length []
   exact .mk' (c1.pack g1) ((hT.trans (Stp.close (ids:=fz) c2 c3 c4)).pack g2) (.d _ _ c5)
theorem RS.mark {b:Nat} {o:Obj} (h:RS P fo base K ρ s w) (hb:w.heap[b]?=some (.deferred (some []))) (hn : ∀ id blk,getB s id=some blk->(ρ id).1≠b):RS P fo base K ρ s (w.putObj b o) where
 known B i v hv:=by
  obtain ⟨c,t,z,h1,h2⟩:=h.known B i v hv
  refine ⟨c,t,z,(World.putObj_heap_other ?_).trans h1,h2⟩
  rintro rfl;rw [hb] at h1;cases h1
 blk id blk hid:=by
  obtain ⟨h1,h2⟩:=h.blk id blk hid
  exact ⟨h1.mono (fun _ _ _ h=>h) .refl (World.putObj_heap_other (hn id blk hid)) (fun h=>h),h2⟩
 inj:=h.inj
 base:=by simpa using h.base
 one:=h.one
theorem Stp.mark {b:Nat} {o:Obj} (h:Stp base K0 ρ0 bs w0 K ρ s w) (hb:w0.heap.size<=b) (hbase:base<=b):Stp base K0 ρ0 bs w0 K ρ s (w.putObj b o) where
 known:=h.known
 later:=h.later
 below:=⟨h.below.os,h.below.tape,h.below.output,by simpa using h.below.size,fun k hk=>(World.putObj_heap_other (by omega)).trans (h.below.block k hk)⟩
 frame B hB hn:=(World.putObj_heap_other (by omega)).trans (h.frame B hB hn)
 img:=h.img
 learn:=h.learn
theorem gD {fnM:Func} {tmps:Array Value} {R:Ending->World->Prop} (hbase:base<=w0.heap.size) (hpost : ∀ w',RS P fo base K ρ s w'->Stp base K0 ρ0 bs w0 K ρ s w' -> ∃ v,(Go.results fnM tmps).run P w' = .ok v w'/\R (.returned v) w') :
 ∀ (ds:List Nat) (w:World),RS P fo base K ρ s w->Stp base K0 ρ0 bs w0 K ρ s w->ds.Nodup->(∀ b∈ds,w0.heap.size<=b/\w.heap[b]?=some (.deferred (some [])) /\ ∀ id blk,getB s id=some blk->(ρ id).1≠b) ->
   LeavesInM Fence.wide 0 P fnM tmps R (ds.map fun b => { target := .collected b,args := #[] }) .returning w
 | [],w,hS,hT,_,_=>hpost w hS hT
 | b::ds,w,hS,hT,hn,h=>by
   obtain ⟨h1,h2,h3⟩:=h b (by simp)
   refine ⟨by simp,.inl ⟨b,w.putObj b (.deferred none),rfl,run_takeDeferred h2,?_⟩⟩
   refine gD hbase hpost ds _ (hS.mark h2 h3) (hT.mark h1 (by omega)) (List.nodup_cons.1 hn).2 fun b' hb' => ?_
   obtain ⟨q1,q2,q3⟩:=h b' (by simp [hb'])
   refine ⟨q1,(World.putObj_heap_other ?_).trans q2,q3⟩
   rintro rfl;exact (List.nodup_cons.1 hn).1 hb'
variable {p:bh} {call:CallSem}
theorem gW (hp:ProgOK P fo p) (hcall:eE P fo base call) {fuel:Nat} {f:Nat} {g:FuncId} {fn:VFun} {args:List V} {vargs:Array Value} {r:V} (hpf:p f=some fn) (hg:fo f=some g) (hS:RS P fo base K ρ bs w) (hargs:RVs fo K ρ (vo bs) args vargs.toList)
 (h:dt p call fuel fn args bs=some (r,s')):CallsIn Fence.wide 0 P g vargs w (Done P fo base K ρ bs w r s'):=by
 obtain ⟨fnM,lv,tr,htr,hfM,hcomp⟩:=hp.comp f fn g hpf hg
 simp only [jX,Option.bind_eq_bind,Option.bind_eq_some_iff] at hcomp
 obtain ⟨body,hbody,hcomp⟩:=hcomp
 split at hcomp<;>try (cases hcomp;done)
 rename_i hdst
 simp only [Option.bind_eq_some_iff] at hcomp
 obtain ⟨rs,hrs,hcomp⟩:=hcomp
 injection hcomp with hcomp
 have hb:fn.body=(compCode P tr (fn.keep && !fn.split) body lv).1:=(congrArg VFun.body hcomp).symm
 have hres:fn.res=rs:=(congrArg VFun.res hcomp).symm
 have hdst':b8 fnM.ntmps (compCode P tr (fn.keep && !fn.split) body lv).1=true:=by simpa using hdst
 have hw:Open Fence.wide := .inl rfl
 unfold dt at h
 rw [hb,hres] at h
 refine callsIn_of_wp_marks hfM hbody trivial ?_
 have post : ∀ out e s,(out = .normal\/out = .ret)->(match results e s rs with | some rs=>eo fn.keep bs.length (dZ rs) s | none=>none)=some (r,s') ->
  ∀ a' w',Inv P fo base fnM.ntmps K ρ bs w e s a' w'->bodyPostM Fence.wide 0 P fnM (Done P fo base K ρ bs w r s') (dW out) a' w':=fun out e s ho hl a' w' hI=>by
  obtain ⟨K1,ρ1,h1,h2,h3,h4,ds,d1,d2,d3⟩:=hI
  split at hl<;>try (cases hl;done)
  rename_i xs hxs
  have key:LeavesInM Fence.wide 0 P fnM a'.tmps (Done P fo base K ρ bs w r s') a'.defers .returning w':=by
   rw [d1]
   refine gD hS.base (fun w'' q1 q2 => ?_) ds w' h1 h2 d2 d3
   obtain ⟨v,v1,v2⟩:=lm q1 h3 hrs hxs
   exact ⟨v,v1,jS q1 q2 v2 hl⟩
  rcases ho with rfl | rfl<;>exact key
 split at h<;>try (cases h;done)
 rename_i out e s hne hrun
 refine kj hw hp.fns hcall htr (mT hp.mixed hw hp.fns hcall htr) (kx hp.fns hcall htr) body lv hdst' (.inr rfl) (qr hS hargs) hrun (post out e s ?_ h)
 cases out with
 | normal=>exact .inl rfl
 | ret=>exact .inr rfl
 | exit id=>exact (hne id rfl).elim
theorem envOf_mem : ∀ (l:List (Nat×V)) (t:Nat),dQ l t = .poison \/ ∃ x,(t,x)∈l/\dQ l t=x
 | [],t => .inl rfl
 | (u,y)::l,t=>by
   have ih:=envOf_mem l t
   simp only [dQ,List.foldr_cons,upd] at ih ⊢
   by_cases h:t=u
   · subst h;simp
   · have:Nat.beq t u=false:=by cases hq:Nat.beq t u with | false=>rfl | true=>exact absurd (Nat.eq_of_beq_eq_true hq) h
     simp only [this,cond_false]
     exact ih.imp id fun ⟨x,h1,h2⟩=>⟨x,by simp [h1],h2⟩
theorem jK : ∀ (ps:List Nat) (xs:List V) (vs:List Value) {e:Env} {tmps:Array Value},RVs fo K ρ vv xs vs->RE fo K ρ vv e tmps->(∀ t∈ps,t < tmps.size) ->
 RE fo K ρ vv ((ps.zip xs).foldl (fun e (t,a)=>upd e t a) e) ((ps.zip vs).foldl (fun tmps (t,a)=>tmps.setIfInBounds t a) tmps)/\((ps.zip vs).foldl (fun tmps (t,a)=>tmps.setIfInBounds t a) tmps).size=tmps.size
 | [],_,_,_,_,_,he,_=>⟨he,rfl⟩
 | p::ps,_,_,_,_,.nil,he,_=>⟨he,rfl⟩
 | p::ps,_,_,e,tmps,.cons x v xs vs hx hs,he,hp=>by
   simp only [List.zip_cons_cons,List.foldl_cons]
   obtain ⟨a1,a2⟩:=jK ps xs vs hs (he.put hx (hp p (by simp))) (fun t ht=>by simpa using hp t (by simp [ht]))
   exact ⟨a1,by simpa using a2⟩
theorem pT {α:Type} (ps:Array Nat) (vs:Array Value) (f:α->Nat×Value->α) (a:α):(ps.zip vs).foldl f a=(ps.toList.zip vs.toList).foldl f a:=by
 rw [<- Array.foldl_toList];simp
theorem mo (hp:ProgOK P fo p) (hcall:eE P fo base call) {fuel id:Nat} {args:List V} {vargs:Array Value} {r:V} (hS:RS P fo base K ρ bs w) (hargs:RVs fo K ρ (vo bs) args vargs.toList)
 (h:cZ p call fuel id args bs=some (r,s')):Called P fo ρ (.round id) vargs w (Done P fo base K ρ bs w r s'):=by
 unfold cZ at h
 split at h<;>try (cases h;done)
 rename_i j0 env params assign body hb0
 split at h<;>try (cases h;done)
 rename_i hlen
 simp only at h
 split at h<;>try (cases h;done)
 rename_i e1 s1 hrun1
 split at h<;>try (cases h;done)
 rename_i j1 env1 ps1 a1 b1 hb1
 split at h<;>try (cases h;done)
 rename_i out e2 s2 hrun2
 split at h<;>try (cases h;done)
 rename_i st2 j2 env2 ps2 a2 b2 hb2
 obtain ⟨hblk,hbs⟩:=hS.blk _ _ hb0
 have hvo:vo bs id=some (0,0):=by simp [vo,hb0]
 generalize hpp:ρ id=pp at hblk hbs
 cases hblk with
 | loop _ _ _ _ _ _ B size l N c1 c2 c3 c4 c5 c6 c7 c8 c9 c10 =>
 obtain ⟨trA,lvA,muA,htA,hcA,hdA,hnA⟩:=c6
 obtain ⟨trB,lvB,muB,htB,hcB,hdB,hnB⟩:=c7
 have hB:(ρ id).1=B:=by rw [hpp]
 show ∃ l,w.heap[(ρ id).1]?=some (.loop l)/\vargs.size=l.params.size/\RoundIn Fence.wide 0 P (ρ id).1 l.fn _ l.assign l.body w _
 rw [hB]
 refine ⟨l,c1,?_,?_⟩
 · have e1:args.length=vargs.size:=by have:=hargs.length;simpa using this
   have e2:l.params.size=params.length:=by rw [<- c5];simp
   omega
 · have hF:Open (Fence.wide.inRound B) := .inr ⟨B,rfl⟩
   refine roundIn_of_wpIn trivial ?_
   rw [pT]
   have hE0:RE fo K ρ (vo bs) (dQ env) l.tmps:=fun t=>by
    rcases envOf_mem env t with hh | ⟨x,h1,h2⟩
    · rw [hh];exact .poison _
    · rw [h2];exact c4 t x h1
   rw [c5]
   obtain ⟨hE,hsz⟩:=jK params args vargs.toList hargs hE0 c9
   have hI0:Inv P fo base N K ρ bs w ((params.zip args).foldl (fun e (t,a)=>upd e t a) (dQ env)) bs { tmps:=(params.zip vargs.toList).foldl (fun tmps (t,a)=>tmps.setIfInBounds t a) l.tmps,defers:=[] } w :=
    ⟨K,ρ,hS,.refl,hE,Nat.le_trans c8 (Nat.le_of_eq hsz.symm),[],rfl,List.nodup_nil,by simp⟩
   rw [<- hcA] at hrun1 hdA hnA
   refine kj hF hp.fns hcall htA (mT hp.mixed hF hp.fns hcall htA) (kx hp.fns hcall htA) l.assign lvA hdA (.inl hnA) hI0 hrun1 fun a3 w3 hI3 => ?_
   obtain ⟨K3,ρ3,k1,k2,k3,k4,k5⟩:=hI3
   have place : ∀ {K':aS} {ρ':ax} {s:aa} {w':World},Stp base K ρ bs w K' ρ' s w' -> ∀ {st j env ps a b},getB s id=some (.loop st j env ps a b)->(ρ' id).1=B:=fun {K' ρ' s w'} hT {st j env ps a b} hb=>by
    obtain ⟨v',q1,q2,q3,q4⟩:=hT.later id 0 0 hvo
    rw [q3 (q4 rfl).symm,hB]
   have write : ∀ {K':aS} {ρ':ax} {s:aa} {w':World} {st0:Nat} {j0:Jump} {env:List (Nat×V)} {ps:List Nat} {a b:VCode},RS P fo base K' ρ' s w'->Stp base K ρ bs w K' ρ' s w'->getB s id=some (.loop st0 j0 env ps a b) ->
    ∃ l,w'.heap[B]?=some (.loop l)/\sI l.state=st0 /\ ∀ (st:LoopState) (j:Jump),RS P fo base K' ρ' (setB s id (.loop (sI st) j env ps a b)) (w'.putObj B (.loop { l with state:=st,pending:=fO j })) /\
      Stp base K' ρ' s w' K' ρ' (setB s id (.loop (sI st) j env ps a b)) (w'.putObj B (.loop { l with state:=st,pending:=fO j })):=fun {K' ρ' s w' st0 j0 env ps a b} hS' hT' hb=>by
    have hpl:=place hT' hb
    obtain ⟨hblk,_⟩:=hS'.blk _ _ hb
    generalize hqq:ρ' id=pp at hblk
    cases hblk with
    | loop _ _ _ _ _ _ B' size l' N' y1 y2 y3 y4 y5 y6 y7 y8 y9 y10 =>
    rw [hqq] at hpl;simp only at hpl;subst hpl
    refine ⟨l',y1,y2,fun st j => ?_⟩
    have hlt:B' < w'.heap.size:=(Array.getElem?_eq_some_iff.1 y1).1
    refine RS.write (w':=w'.putObj B' (.loop { l' with state:=st,pending:=fO j })) (b := .loop (sI st) j env ps a b) (v0:=0) (v1:=0) (e:=0) hS' hb (by simp [vo,hb]) rfl (Nat.le_refl _) (fun _=>rfl)
     (by rw [hqq];exact y10)
     (by rw [hqq];exact ⟨rfl,rfl,rfl,by simp,fun k hk=>World.putObj_heap_other (by have:k < B':=hk;omega)⟩)
     (by rw [hqq];exact fun B hB=>World.putObj_heap_other hB) (by simp) ?_
    rw [hqq]
    refine .loop (sI st) j env ps a b _ _ { l' with state:=st,pending:=fO j } N' (World.putObj_heap_same hlt) rfl rfl (fun t x hx=>(y4 t x hx).mono (fun _ _ _ h=>h) ?_) y5 y6 y7 y8 y9 y10
    intro id' v e hv
    refine ⟨v,?_,Nat.le_refl _,fun _=>rfl,fun _=>rfl⟩
    rw [cC (a8 hb)]
    by_cases hid:id'=id
    · subst hid;simpa [vo,hb] using hv
    · rw [if_neg hid];exact hv
   obtain ⟨l3,p1,p2,p3⟩:=write k1 k2 hb1
   have hready:l3.state = .ready:=by cases hs:l3.state<;>simp [hs,sI] at p2;rfl
   obtain ⟨b,hbb⟩ : ∃ b,getB s1 id=some b:=⟨_,hb1⟩
   obtain ⟨hblk1,_⟩:=k1.blk _ _ hb1
   have hpend:l3.pending=fO j1:=by
    generalize hqq:ρ3 id=pp at hblk1
    have hpl:=place k2 hb1
    cases hblk1 with
    | loop _ _ _ _ _ _ B' size l' N' y1 y2 y3 y4 y5 y6 y7 y8 y9 y10 =>
      rw [hqq] at hpl;simp only at hpl;subst hpl
      rw [p1] at y1;injection y1 with y1;injection y1 with y1;rw [y1];exact y3
   obtain ⟨r1,r2⟩:=p3 .busy j1
   have hbegin:=run_beginRound (P:=P) p1 hready
   refine ⟨_,hbegin,?_⟩
   have e3:({ l3 with state := .busy } : Loop) = { l3 with state := .busy,pending:=fO j1 } := by rw [<- hpend]
   rw [e3]
   have hI3':Inv P fo base N K ρ bs w e1 (setB s1 id (.loop 1 j1 env1 ps1 a1 b1)) a3 (w3.putObj B (.loop { l3 with state := .busy,pending:=fO j1 })) :=
    ⟨K3,ρ3,r1,k2.trans r2,k3.mono r2.known r2.later,k4,k5.step r2⟩
   rw [<- hcB] at hrun2 hdB hnB
   refine kj hF hp.fns hcall htB (mT hp.mixed hF hp.fns hcall htB) (kx hp.fns hcall htB) l.body lvB hdB (.inl hnB) hI3' hrun2 fun a4 w4 hI4 => ?_
   obtain ⟨K4,ρ4,m1,m2,m3,m4,m5⟩:=hI4
   obtain ⟨l4,u1,u2,u3⟩:=write m1 m2 hb2
   have fin : ∀ (st:LoopState) (j:Jump) (b:Bool) (jump:Option Code),fO j=jump->(if jump.isNone then LoopState.ready else .done)=st->jump.isNone=b->eo true bs.length (.d (.bool b)) (setB s2 id (.loop (sI st) j env2 ps2 a2 b2))=some (r,s') ->
    ∃ v w',(Instr.endRound B jump).run P w4 = .ok v w'/\Done P fo base K ρ bs w r s' (.returned v) w':=fun st j b jump hj hst hb hl=>by
    subst hj;subst hst;subst hb
    obtain ⟨y1,y2⟩:=u3 (if (fO j).isNone then .ready else .done) j
    refine ⟨_,_,run_endRound (fO j) u1,?_⟩
    exact jS y1 (m2.trans y2) (.d _ _ (.bool _)) hl
   cases out with
   | normal=>exact fin .ready .none true none rfl rfl rfl h
   | ret=>exact fin .done .ret false (some .ret) rfl rfl rfl h
   | exit i=>exact fin .done (.exit i) false (some (.exit i)) rfl rfl rfl h
theorem RV.norm {x:V} {v:Value} (h:RV fo K ρ vv x v):RV fo K ρ vv (norm x) v:=by
 cases h with
 | nils=>exact .d _ _ (.sliceE _ _ (fun _=>rfl))
 | emp a=>exact .d _ _ (.sliceE _ _ (fun _=>rfl))
 | non a c=>exact .d _ _ (.sliceE _ _ (by simp))
 | lit es a h=>exact .d _ _ h
 | _=>simp only [YtncfpmehhfdipaaGreat.norm];constructor<;>assumption
theorem RV.bare {x:V} {v:Value} (hb:bare x=true) (h:RV fo K ρ vv x v):RV fo K ρ vv .emp v:=by
 unfold YtncfpmehhfdipaaGreat.bare at hb
 split at hb
 · cases h;exact .emp _
 · exact h
 · cases h;exact .emp _
 · cases hb
theorem n8 (hp:ProgOK P fo p) : ∀ n,eE P fo base (bV p n)
 | 0=>fun t K ρ bs w args vargs r bs' _ _ h=>by simp [bV] at h
 | n+1=>fun t K ρ bs w args vargs r bs' hS hargs h=>by
   have ih:=n8 hp n
   cases t with
   | round id=>exact mo hp ih hS hargs h
   | fn f =>
     intro g hg
     simp only [bV] at h
     split at h<;>try (cases h;done)
     rename_i fn hpf
     split at h
     · split at h
       · rename_i rest
         split at h<;>try (cases h;done)
         rename_i x y hx hy
         have hdone : ∀ z z':V,(∀ {K':aS} {ρ':ax} {v:Value},RV fo K' ρ' (vo []) z v->RV fo K' ρ' (vo []) z' v) -> ∀ e w',Done P fo base K ρ [] w z [] e w'->Done P fo base K ρ [] w z' [] e w':=fun z z' hz e w' ⟨v,K',ρ',q1,q2,q3,q4⟩=>⟨v,K',ρ',q1,q2,q3,hz q4⟩
         have hconv:bs'=[]/\(∀ {K':aS} {ρ':ax} {v:Value},RV fo K' ρ' (vo []) x v->RV fo K' ρ' (vo []) r v)/\(∀ {K':aS} {ρ':ax} {v:Value},RV fo K' ρ' (vo []) y v->RV fo K' ρ' (vo []) r v):=by
          split at h
          · rename_i hb
            simp only [Bool.and_eq_true] at hb
            injection h with h;injection h with h1 h2;subst h1
            exact ⟨h2.symm,fun hv=>hv.bare hb.1,fun hv=>hv.bare hb.2⟩
          · split at h<;>try (cases h;done)
            rename_i a b ha hb
            split at h<;>try (cases h;done)
            rename_i hab
            injection h with h;injection h with h1 h2;subst h1
            have:=beqD_eq hab;subst this
            exact ⟨h2.symm,fun hv=>ha▸hv.norm,fun hv=>hb▸hv.norm⟩
         obtain ⟨rfl,hcx,hcy⟩:=hconv
         have hvl:vargs.toList=vargs.toList:=rfl
         generalize hvs:vargs.toList=vs at hargs
         cases hargs with
         | cons _ v0 _ vs hv0 hrest =>
         cases hv0 with | d _ _ hv0 =>
         cases hv0 with
         | slice es B o cap esz vs' h0=>exact absurd rfl h0
         | sliceE a cap ha =>
           cases a with
           | none =>
             have:=ha rfl;subst this
             exact (gW hp ih hpf hg hS (by rw [hvs];exact .cons _ _ _ _ .nils hrest) hx).mono (hdone _ _ hcx)
           | some a=>exact (gW hp ih hpf hg hS (by rw [hvs];exact .cons _ _ _ _ (.non a cap) hrest) hy).mono (hdone _ _ hcy)
       · exact gW hp ih hpf hg hS hargs h
     · exact gW hp ih hpf hg hS hargs h
end Go.Proofs.YtncfpmehhfdipaaGreat
namespace Go.Proofs.YtncfpmehhfdipaaGreat
open Go.RowKit
variable {P:Program} {fo:Nat->Option FuncId}
def re (l:List (Nat×FuncId)):Nat->Option FuncId:=fun f=>l.lookup f
def RowOK (P:Program) (fo:Nat->Option FuncId) (fn:VFun) (g:FuncId):Prop :=
 ∃ fnM lives tr,(∀ g f,tr g=some f->fo f=some g)/\P.funcs[g]?=some fnM/\jX P tr fn.byRef fn.keep fn.split lives fnM=some fn/\(fnM.name == "runtime.NumGoroutine")=false
theorem RowOK.mk {fn:VFun} {g:FuncId} {fnM:Func} {lives:List (List Nat)} {tr:FuncId->Option Nat} {br:List Bool} {keep split:Bool} (htr : ∀ g f,tr g=some f->fo f=some g) (hg:P.funcs[g]?=some fnM) (hn:(fnM.name == "runtime.NumGoroutine")=false)
 (hc:jX P tr br keep split lives fnM=some fn):RowOK P fo fn g:=by
 refine ⟨fnM,lives,tr,htr,hg,?_,hn⟩
 have:fn.byRef=br/\fn.keep=keep/\fn.split=split:=by
  simp only [jX,Option.bind_eq_bind,Option.bind_eq_some_iff] at hc
  obtain ⟨body,_,hc⟩:=hc
  split at hc<;>try (cases hc;done)
  simp only [Option.bind_eq_some_iff] at hc
  obtain ⟨rs,_,hc⟩:=hc
  injection hc with hc;subst hc;exact ⟨rfl,rfl,rfl⟩
 rw [this.1,this.2.1,this.2.2];exact hc
inductive AllOK (P:Program) (fo:Nat->Option FuncId) (p:bh):List (Nat×FuncId)->Prop
 | nil:AllOK P fo p []
 | cons {z:Nat} {fn:VFun} {g:FuncId} {fs:List (Nat×FuncId)} : p z=some fn->RowOK P fo fn g->AllOK P fo p fs->AllOK P fo p ((z,g)::fs)
theorem AllOK.append {p:bh} {fs fs':List (Nat×FuncId)} (h:AllOK P fo p fs) (h':AllOK P fo p fs'):AllOK P fo p (fs++fs'):=by
 induction h with
 | nil=>exact h'
 | cons e r _ ih=>exact .cons e r ih
theorem AllOK.fn {p:bh} {fs:List (Nat×FuncId)} (h:AllOK P fo p fs) {f:Nat} {g:FuncId} (h2:re fs f=some g) : ∃ fn,p f=some fn/\RowOK P fo fn g:=by
 induction h with
 | nil=>simp [re] at h2
 | cons e r _ ih =>
   simp only [re,List.lookup_cons] at h2 ih
   split at h2
   · rename_i heq
     injection h2 with h2;subst h2
     simp at heq;subst heq
     exact ⟨_,e,r⟩
   · exact ih h2
theorem AllOK.prog {p:bh} {fs:List (Nat×FuncId)} (hm:P.follows .mixedOrders=true) (h:AllOK P (re fs) p fs):ProgOK P (re fs) p where
 mixed:=hm
 fns f g hf:=by
  obtain ⟨fn,_,fnM,lives,tr,h1,h2,h3,h4⟩:=h.fn hf
  refine ⟨fnM,h2,h4,?_⟩
  simp only [jX,Option.bind_eq_bind,Option.bind_eq_some_iff] at h3
  obtain ⟨body,hb,_⟩:=h3
  simp [hb]
 comp f fn g h1 h2:=by
  obtain ⟨fn',e,fnM,lives,tr,a,b,c,d⟩:=h.fn h2
  rw [e] at h1;injection h1 with h1;subst h1
  exact ⟨fnM,lives,tr,a,b,c⟩
theorem jR {l:List (Nat×Nat)} {g f:Nat} (h:l.lookup g=some f):(g,f)∈l:=by
 induction l with
 | nil=>simp at h
 | cons x l ih =>
   obtain ⟨a,b⟩:=x
   rw [List.lookup_cons] at h
   split at h
   · rename_i heq
     injection h with h;subst h
     simp at heq;subst heq;simp
   · simp [ih h]
def uM (l alts:List (Nat×Nat)) (g:FuncId):Option Nat:=match alts.lookup g with | some z=>some z | none=>l.lookup g
theorem Hp {l alts:List (Nat×Nat)} (hl:l.all (fun (k,z)=>fo z==some k)=true) (ha:alts.all (fun (k,z)=>fo z==some k)=true) : ∀ g f,uM l alts g=some f->fo f=some g:=by
 intro g f h
 unfold uM at h
 split at h
 · rename_i z hz
   injection h with h;subst h
   have:=List.all_eq_true.1 ha _ (jR hz)
   simpa using this
 · have:=List.all_eq_true.1 hl _ (jR h)
   simpa using this
theorem Ig {p:bh} (hp:ProgOK P fo p) {n f:Nat} {g:FuncId} {args:List D} {vargs:Array Value} {w:World} {K:aS} {r:D} (hg:fo f=some g)
 (hK : ∀ B o v,K B o=some v->v.oneCell'=true /\ ∃ c t z,w.heap[B]?=some (.cells c t z)/\c[o]?=some v) (ha:RDs fo K args vargs.toList) (h:bV p n (.fn f) (args.map .d) []=some (.d r,[])) :
 Calls P g vargs w fun e w' => ∃ v,e = .returned v/\Below w.heap.size w w' /\ ∃ K',RD fo K' r v:=by
 have hS:RS P fo w.heap.size K (fun _=>(0,0)) [] w :=
  { known:=fun B o v hv=>(hK B o v hv).2
    blk:=fun id b hb=>by simp [getB] at hb
    inj:=fun i j a b ha=>by simp [getB] at ha
    base:=Nat.le_refl _
    one:=fun B o v hv=>(hK B o v hv).1 }
 have:=n8 (base:=w.heap.size) hp n (.fn f) K (fun _=>(0,0)) [] w (args.map .d) vargs (.d r) [] hS (.of_d ha) h g hg
 refine (this.calls (fun k=>by simp [Fence.room,Fence.wide])).mono fun e w' he => ?_
 obtain ⟨v,K',ρ',rfl,h1,h2,h3⟩:=he
 cases h3 with
 | d _ _ hd=>exact ⟨v,rfl,h2.below,K',hd⟩
end Go.Proofs.YtncfpmehhfdipaaGreat
namespace Go.Proofs.YtncfpmehhfdipaaGreat
variable {p:bh} {k:Nat}
def Evt (P:Nat->Prop):Prop := ∃ n0,∀ n,n0<=n->P n
theorem Evt.and {P Q:Nat->Prop} (h:Evt P) (h':Evt Q):Evt fun n=>P n/\Q n:=by
 obtain ⟨a,h⟩:=h
 obtain ⟨b,h'⟩:=h'
 exact ⟨max a b,fun n hn=>⟨h n (by omega),h' n (by omega)⟩⟩
theorem Evt.mono {P Q:Nat->Prop} (h:Evt P) (hpq : ∀ n,P n->Q n):Evt Q:=let ⟨a,h⟩:=h;⟨a,fun n hn=>hpq n (h n hn)⟩
theorem Evt.all {P:Nat->Prop} (h : ∀ n,P n):Evt P:=⟨0,fun n _=>h n⟩
def Ret (p:bh) (t:Tgt) (args:List V) (bs:aa) (r:V) (bs':aa):Prop:=Evt fun n=>bV p n t args bs=some (r,bs')
def Run (p:bh) (k:Nat) (c:VCode) (e:Env) (s:aa) (Q:Out->Env->aa->Prop):Prop :=
 ∃ out e' s',Q out e' s'/\Evt fun n=>ak (bV p n) (al p) k n c e s=some (out,e',s')
def Ops (p:bh) (b:Nat) (os:List VOper) (e:Env) (s:aa) (Q:Env->aa->Prop):Prop :=
 ∃ e' s',Q e' s'/\Evt fun n=>co (bV p n) (al p) b os e s=some (e',s')
theorem Run.mono {c:VCode} {e:Env} {s:aa} {Q Q':Out->Env->aa->Prop} (h:Run p k c e s Q) (hq : ∀ o e s,Q o e s->Q' o e s):Run p k c e s Q':=let ⟨o,e',s',a,b⟩:=h;⟨o,e',s',hq _ _ _ a,b⟩
theorem Ops.mono {b:Nat} {os:List VOper} {e:Env} {s:aa} {Q Q':Env->aa->Prop} (h:Ops p b os e s Q) (hq : ∀ e s,Q e s->Q' e s):Ops p b os e s Q':=let ⟨e',s',a,b⟩:=h;⟨e',s',hq _ _ a,b⟩
theorem cQ {b:Nat} {e:Env} {s:aa} {Q:Env->aa->Prop} (h:Q e s):Ops p b [] e s Q:=⟨e,s,h,.all fun _=>rfl⟩
theorem aZ {b:Nat} {o:VOper} {os:List VOper} {e e1:Env} {s s1:aa} {Q:Env->aa->Prop} (h1 : ∀ call,az call (al p) b o e s=some (e1,s1)) (h:Ops p b os e1 s1 Q):Ops p b (o::os) e s Q:=by
 obtain ⟨e',s',hq,hr⟩:=h
 exact ⟨e',s',hq,hr.mono fun n hn=>by simp only [co,h1];exact hn⟩
theorem gN {t:Tgt} {flags:List Bool} {args:List V} {s:aa} : aV (fun _ _ _=>none) t flags args s=none:=by
 unfold aV
 split
 · rfl
 · unfold dl
   split
   · split<;>rfl
   · rfl
theorem jC {b:Nat} {op:VOp} {e:Env} {s:aa} {r:Res×aa} (h:ae (fun _ _ _=>none) (fun _=>[]) b op e s=some r) (call:CallSem) (flags:Nat->List Bool):ae call flags b op e s=some r:=by
 cases op with
 | call f args=>simp only [ae,gN] at h;cases h
 | callv f args =>
   simp only [ae,gN] at h
   split at h<;>cases h
 | _=>exact h
def Io (b:Nat) (op:VOp) (e:Env) (s:aa) (K:V->aa->Prop):Prop :=
 match ae (fun _ _ _=>none) (fun _=>[]) b op e s with
 | some (.val x,s')=>K x s'
 | some (.none,s')=>K cA s'
 | none=>False
theorem qR {b:Nat} {d:Option Nat} {op:VOp} {os:List VOper} {e:Env} {s:aa} {Q:Env->aa->Prop} (h:Io b op e s fun x s'=>Ops p b os (put e d x) s' Q):Ops p b (⟨d,op,none⟩::os) e s Q:=by
 unfold Io at h
 split at h
 · rename_i x s' hr;exact aZ (fun call=>by simp only [az,bx,jC hr]) h
 · rename_i s' hr;exact aZ (fun call=>by simp only [az,bx,jC hr]) h
 · exact h.elim
def gQ {α:Sort _} (x:V) (K:V->α):α :=
 match x with
 | .d (.int k n)=>K (.d (.int k n))
 | .d (.bool b)=>K (.d (.bool b))
 | .d (.slice es)=>K (.d (.slice es))
 | .d (.agg cs)=>K (.d (.agg cs))
 | .d (.iptr cs o)=>K (.d (.iptr cs o))
 | .d (.tuple vs)=>K (.d (.tuple vs))
 | .d (.func f a b)=>K (.d (.func f a b))
 | .d (.str b)=>K (.d (.str b))
 | .ptr a b c d=>K (.ptr a b c d)
 | .ms a b c d=>K (.ms a b c d)
 | .asl a b c d e=>K (.asl a b c d e)
 | .lit es=>K (.lit es)
 | .agg cs=>K (.agg cs)
 | .tuple cs=>K (.tuple cs)
 | .func f a b=>K (.func f a b)
 | .map i=>K (.map i)
 | .yield i=>K (.yield i)
 | .nils=>K .nils
 | .emp=>K .emp
 | x=>K x
theorem bX {α:Sort _} (x:V) (K:V->α):gQ x K=K x:=by
 unfold gQ
 split<;>rfl
def fX {α:Sort _} : List V->(List V->α)->α
 | [],K=>K []
 | x::xs,K=>gQ x fun x=>fX xs fun xs=>K (x::xs)
theorem cm {α:Sort _} : ∀ (xs:List V) (K:List V->α),fX xs K=K xs
 | [],K=>rfl
 | x::xs,K=>by simp only [fX,bX,cm xs]
def dF {α:Sort _} : aa->(aa->α)->α
 | [],K=>K []
 | none::s,K=>dF s fun s=>K (none::s)
 | some (.rows v ro e els)::s,K=>dF s fun s=>K (some (.rows v ro e els)::s)
 | some (.map es)::s,K=>dF s fun s=>K (some (.map es)::s)
 | some (.loop st j env ps a b)::s,K=>dF s fun s=>K (some (.loop st j env ps a b)::s)
theorem aF {α:Sort _} : ∀ (s:aa) (K:aa->α),dF s K=K s
 | [],K=>rfl
 | none::s,K=>by simp only [dF,aF s]
 | some (.rows v ro e els)::s,K=>by simp only [dF,aF s]
 | some (.map es)::s,K=>by simp only [dF,aF s]
 | some (.loop st j env ps a b)::s,K=>by simp only [dF,aF s]
def oT (r:Option (Res×aa)):Option (V×aa) :=
 match r with
 | some (.val x,s)=>gQ x fun x=>dF s fun s=>some (x,s)
 | some (.none,s)=>dF s fun s=>some (cA,s)
 | none=>none
theorem ek {b:Nat} {d:Option Nat} {op:VOp} {os:List VOper} {e:Env} {s s1:aa} {x:V} {Q:Env->aa->Prop} (h1:oT (ae (fun _ _ _=>none) (fun _=>[]) b op e s)=some (x,s1)) (h:Ops p b os (put e d x) s1 Q):Ops p b (⟨d,op,none⟩::os) e s Q:=by
 refine qR ?_
 unfold Io
 unfold oT at h1
 split at h1
 · rename_i y s' hr
   rw [bX,aF] at h1
   injection h1 with h1;injection h1 with h1 h2;subst h1;subst h2
   exact h
 · rename_i s' hr
   rw [aF] at h1
   injection h1 with h1;injection h1 with h1 h2;subst h1;subst h2
   exact h
 · cases h1
theorem iH {b:Nat} {d:Option Nat} {op:VOp} {os:List VOper} {g:Nat} {w t:Bool} {e:Env} {s:aa} {Q:Env->aa->Prop} (hg:e g = .d (.bool t)) (h:if t=w then Ops p b (⟨d,op,none⟩::os) e s Q else Ops p b os (put e d cA) s Q):Ops p b (⟨d,op,some (g,w)⟩::os) e s Q:=by
 by_cases hw:t=w
 · rw [if_pos hw] at h
   obtain ⟨e',s',hq,hr⟩:=h
   refine ⟨e',s',hq,hr.mono fun n hn => ?_⟩
   have e1:bx (some (g,w)) e=some true:=by simp [bx,hg,hw]
   simp only [co,az,e1] at hn ⊢
   exact hn
 · rw [if_neg hw] at h
   refine aZ (fun call => ?_) h
   have e1:bx (some (g,w)) e=some false:=by simp [bx,hg];cases t<;>cases w<;>simp_all
   simp only [az,e1]
theorem jh {b:Nat} {d:Option Nat} {op:VOp} {os:List VOper} {g:Nat} {w:Bool} {e:Env} {s:aa} {Q:Env->aa->Prop} (hg:e g=cA) (h:Ops p b os (put e d cA) s Q):Ops p b (⟨d,op,some (g,w)⟩::os) e s Q :=
 aZ (fun call=>by simp [az,bx,hg,cA]) h
theorem sP {e:Env} {s:aa} {Q:Out->Env->aa->Prop} (h:Q .normal e s):Run p k .skip e s Q:=⟨_,_,_,h,.all fun _=>rfl⟩
theorem sR {id:Nat} {e:Env} {s:aa} {Q:Out->Env->aa->Prop} (h:Q (.exit id) e s):Run p k (.exit id) e s Q:=⟨_,_,_,h,.all fun _=>rfl⟩
theorem vT {e:Env} {s:aa} {Q:Out->Env->aa->Prop} (h:Q .ret e s):Run p k .ret e s Q:=⟨_,_,_,h,.all fun _=>rfl⟩
theorem jx {sl:Nat} {ops:List VOper} {e:Env} {s:aa} {Q:Out->Env->aa->Prop} (h:Ops p s.length ops e (s++List.replicate sl none) (Q .normal)):Run p k (.region none sl ops) e s Q:=by
 obtain ⟨e',s',hq,hr⟩:=h
 exact ⟨_,_,_,hq,hr.mono fun n hn=>by simp only [ak,bZ,hn];rfl⟩
def nt (K:Env->aa->Prop) (Q:Out->Env->aa->Prop):Out->Env->aa->Prop
 | .normal,e,s=>K e s
 | o,e,s=>Q o e s
theorem vS {a b:VCode} {e:Env} {s:aa} {Q:Out->Env->aa->Prop} (h:Run p k a e s (nt (fun e s=>Run p k b e s Q) Q)):Run p k (.seq a b) e s Q:=by
 obtain ⟨o,e1,s1,h1,hr1⟩:=h
 cases o with
 | normal =>
   obtain ⟨o,e2,s2,h2,hr2⟩:=h1
   exact ⟨o,e2,s2,h2,(hr1.and hr2).mono fun n hn=>by simp only [ak,hn.1,hn.2]⟩
 | exit id=>exact ⟨_,_,_,h1,hr1.mono fun n hn=>by simp only [ak,hn]⟩
 | ret=>exact ⟨_,_,_,h1,hr1.mono fun n hn=>by simp only [ak,hn]⟩
theorem nB {c:Opd} {a b:VCode} {t:Bool} {e:Env} {s:aa} {Q:Out->Env->aa->Prop} (hc:ev e c = .d (.bool t)) (h:if t then Run p k a e s Q else Run p k b e s Q):Run p k (.cond c a b) e s Q:=by
 cases t with
 | true=>obtain ⟨o,e',s',hq,hr⟩:=h;exact ⟨o,e',s',hq,hr.mono fun n hn=>by simp only [ak,hc,hn]⟩
 | false=>obtain ⟨o,e',s',hq,hr⟩:=h;exact ⟨o,e',s',hq,hr.mono fun n hn=>by simp only [ak,hc,hn]⟩
def gr (id:Nat) (Q:Out->Env->aa->Prop):Out->Env->aa->Prop
 | .exit i,e,s=>if i=id then Q .normal e s else Q (.exit i) e s
 | o,e,s=>Q o e s
theorem qK {id:Nat} {a:VCode} {e:Env} {s:aa} {Q:Out->Env->aa->Prop} (h:Run p k a e s (gr id Q)):Run p k (.block id a) e s Q:=by
 obtain ⟨o,e1,s1,h1,hr1⟩:=h
 cases o with
 | normal=>exact ⟨_,_,_,h1,hr1.mono fun n hn=>by simp only [ak,hn]⟩
 | ret=>exact ⟨_,_,_,h1,hr1.mono fun n hn=>by simp only [ak,hn]⟩
 | exit i =>
   simp only [gr] at h1
   by_cases hi:i=id
   · rw [if_pos hi] at h1;exact ⟨_,_,_,h1,hr1.mono fun n hn=>by simp only [ak,hn,if_pos hi]⟩
   · rw [if_neg hi] at h1;exact ⟨_,_,_,h1,hr1.mono fun n hn=>by simp only [ak,hn,if_neg hi]⟩
def Loop (p:bh) (k:Nat) (live:List Nat) (body:VCode) (e:Env) (s:aa) (Q:Out->Env->aa->Prop):Prop :=
 ∃ out e' s',Q out e' s' /\ ∃ m,Evt fun n => ∀ j,m<=j->pQ (fun e s=>let (e1,s1):=sweep k live e s;ak (bV p n) (al p) k n body e1 s1) j e s=some (out,e',s')
theorem sQ {live:List Nat} {body:VCode} {e:Env} {s:aa} {Q:Out->Env->aa->Prop} (h:Loop p k live body e s Q):Run p k (.loop live body) e s Q:=by
 obtain ⟨o,e',s',hq,m,n0,hr⟩:=h
 exact ⟨o,e',s',hq,max m n0,fun n hn=>by simp only [ak];exact hr n (by omega) n (by omega)⟩
theorem qZ {live:List Nat} {body:VCode} {e:Env} {s:aa} {Q:Out->Env->aa->Prop} (h:Run p k body (sweep k live e s).1 (sweep k live e s).2 (nt (fun e s=>Loop p k live body e s Q) Q)):Loop p k live body e s Q:=by
 obtain ⟨o,e1,s1,h1,hr1⟩:=h
 cases o with
 | normal =>
   obtain ⟨o,e2,s2,h2,m,hr2⟩:=h1
   refine ⟨o,e2,s2,h2,m+1,(hr1.and hr2).mono fun n hn j hj => ?_⟩
   obtain ⟨j,rfl⟩ : ∃ i,j=i+1:=⟨j - 1,by omega⟩
   simp only [pQ,hn.1]
   exact hn.2 j (by omega)
 | exit id =>
   refine ⟨_,_,_,h1,1,hr1.mono fun n hn j hj => ?_⟩
   obtain ⟨j,rfl⟩ : ∃ i,j=i+1:=⟨j - 1,by omega⟩
   simp only [pQ,hn]
 | ret =>
   refine ⟨_,_,_,h1,1,hr1.mono fun n hn j hj => ?_⟩
   obtain ⟨j,rfl⟩ : ∃ i,j=i+1:=⟨j - 1,by omega⟩
   simp only [pQ,hn]
def eW (k:Nat) (live:List Nat) (e:Env) (s:aa):Option (List V×aa) :=
 fX (live.map fun t=>ren (pos (ci s k (ei (lives e live)))) (e t)) fun vs=>dF (pack s (ci s k (ei (lives e live))) (pos (ci s k (ei (lives e live))))) fun s=>some (vs,s)
def fin (keep:Bool) (k:Nat) (res:List VRes):Out->Env->aa->Option (V×aa)
 | .exit _,_,_=>none
 | _,e,s=>match results e s res with
   | some xs=>eo keep k (dZ xs) s
   | none=>none
theorem ret_of {f:Nat} {fn:VFun} {args:List V} {bs bs':aa} {r:V} (hf:p f=some fn) (hs:fn.split=false)
 (h:Run p bs.length fn.body (cE 0 args) bs fun o e s=>fin fn.keep bs.length fn.res o e s=some (r,bs')):Ret p (.fn f) args bs r bs':=by
 obtain ⟨o,e,s,hq,n0,hr⟩:=h
 refine ⟨n0+1,fun n hn => ?_⟩
 obtain ⟨n,rfl⟩ : ∃ i,n=i+1:=⟨n - 1,by omega⟩
 have hr:=hr n (by omega)
 simp only [bV,hf,hs,dt,Bool.false_eq_true,if_false,hr]
 cases o<;>first | exact hq | (simp [fin] at hq)
mutual
theorem ren_norefs {m:Nat->Option Nat} : ∀ {x:V},refs x=[]->ren m x=x
 | .agg cs,h=>by simp only [refs] at h;simp only [ren,renL_norefs h]
 | .tuple cs,h=>by simp only [refs] at h;simp only [ren,renL_norefs h]
 | .func f a b,h=>by
   simp only [refs,List.append_eq_nil_iff] at h
   simp only [ren,renL_norefs h.1,renL_norefs h.2]
 | .ptr _ _ _ _,h=>by simp [refs] at h
 | .ms _ _ _ _,h=>by simp [refs] at h
 | .asl _ _ _ _ _,h=>by simp [refs] at h
 | .map _,h=>by simp [refs] at h
 | .yield _,h=>by simp [refs] at h
 | .poison,_=>rfl
 | .d _,_=>rfl
 | .nils,_=>rfl
 | .emp,_=>rfl
 | .non,_=>rfl
 | .lit _,_=>rfl
theorem renL_norefs {m:Nat->Option Nat} : ∀ {xs:List V},refsL xs=[]->renL m xs=xs
 | [],_=>rfl
 | x::xs,h=>by
   simp only [refsL,List.append_eq_nil_iff] at h
   simp only [renL,ren_norefs h.1,renL_norefs h.2]
end
def over (l:List (Nat×V)) (e:Env):Env:=l.foldr (fun (t,v) e=>upd e t v) e
def Hi (e:Env):List (Nat×V)->Prop
 | []=>True
 | (t,v)::l=>e t=v/\Hi e l
theorem jM {e:Env} : ∀ {l:List (Nat×V)},Hi e l->over l e=e
 | [],_=>rfl
 | (t,v)::l,h=>by
   have ih:=jM h.2
   simp only [over,List.foldr_cons] at ih ⊢
   rw [ih]
   funext x
   unfold upd
   cases hq:Nat.beq x t with
   | false=>rfl
   | true=>rw [Nat.eq_of_beq_eq_true hq,cond_true,h.1]
inductive Fr where
 | seq (b:VCode)
 | block (id:Nat)
 | loop (live:List Nat) (body:VCode)
def bl (p:bh) (k:Nat):List Fr->(Out->Env->aa->Prop)->Out->Env->aa->Prop
 | [],Q=>Q
 | .seq b::K,Q=>nt (fun e s=>Run p k b e s (bl p k K Q)) (bl p k K Q)
 | .block id::K,Q=>gr id (bl p k K Q)
 | .loop live body::K,Q=>nt (fun e s=>Loop p k live body e s (bl p k K Q)) (bl p k K Q)
def ah (p:bh) (k:Nat) (live:List Nat) (body:VCode) (vs:List V) (s:aa) (K:List Fr) (Q:Out->Env->aa->Prop):Prop :=
 Run p k body (dQ (live.zip vs)) s (bl p k (.loop live body::K) Q)
theorem pS {β:Type} (f:Nat->β) : ∀ l:List Nat,l.zip (l.map f)=l.map fun t=>(t,f t)
 | []=>rfl
 | x::l=>by simp [pS f l]
theorem af {live:List Nat} {body:VCode} {e:Env} {s s1:aa} {vs:List V} {K:List Fr} {Q:Out->Env->aa->Prop} (h:eW k live e s=some (vs,s1)) (hb:ah p k live body vs s1 K Q):Loop p k live body e s (bl p k K Q):=by
 unfold eW at h
 rw [cm,aF] at h
 injection h with h;injection h with h1 h2
 refine qZ ?_
 have e1:(sweep k live e s).1=dQ (live.zip vs):=by
  rw [<- h1]
  rw [pS]
  simp only [sweep,uV,lives,List.map_map]
  rfl
 have e2:(sweep k live e s).2=s1:=by rw [<- h2];rfl
 rw [e1,e2];exact hb
section
variable {K:List Fr} {Q:Out->Env->aa->Prop} {e:Env} {s:aa} {a b:VCode} {id:Nat} {live:List Nat}
theorem r0 (h:Run p k a e s (bl p k [] Q)):Run p k a e s Q:=h
theorem rs (h:Run p k a e s (bl p k (.seq b::K) Q)):Run p k (.seq a b) e s (bl p k K Q):=vS h
theorem rb (h:Run p k a e s (bl p k (.block id::K) Q)):Run p k (.block id a) e s (bl p k K Q):=qK h
theorem rl (h:Loop p k live a e s (bl p k K Q)):Run p k (.loop live a) e s (bl p k K Q):=sQ h
theorem rr {sl n:Nat} {s1:aa} {ops:List VOper} (hs:dF (s++List.replicate sl none) some=some s1) (hn:s.length=n) (h:Ops p n ops e s1 (bl p k K Q .normal)):Run p k (.region none sl ops) e s (bl p k K Q):=by
 rw [aF] at hs;injection hs with hs;subst hs;subst hn
 exact jx h
theorem rk (h:bl p k K Q .normal e s):Run p k .skip e s (bl p k K Q):=sP h
theorem rx (h:bl p k K Q (.exit id) e s):Run p k (.exit id) e s (bl p k K Q):=sR h
theorem hZ : ∀ {K:List Fr},Q .ret e s->bl p k K Q .ret e s
 | [],h=>h
 | .seq _::K,h=>hZ (K:=K) h
 | .block _::K,h=>hZ (K:=K) h
 | .loop _ _::K,h=>hZ (K:=K) h
theorem rt (h:Q .ret e s):Run p k .ret e s (bl p k K Q):=vT (hZ h)
theorem rct {c:Opd} {t:Bool} (hc:ev e c = .d (.bool t)) (ht:t=true) (h:Run p k a e s (bl p k K Q)):Run p k (.cond c a b) e s (bl p k K Q):=nB hc (by rw [if_pos ht];exact h)
theorem rcf {c:Opd} {t:Bool} (hc:ev e c = .d (.bool t)) (ht:t=false) (h:Run p k b e s (bl p k K Q)):Run p k (.cond c a b) e s (bl p k K Q):=nB hc (by rw [if_neg (by simp [ht])];exact h)
theorem ks (h:Run p k b e s (bl p k K Q)):bl p k (.seq b::K) Q .normal e s:=h
theorem kb (h:bl p k K Q .normal e s):bl p k (.block id::K) Q .normal e s:=h
theorem kl (h:Loop p k live a e s (bl p k K Q)):bl p k (.loop live a::K) Q .normal e s:=h
theorem xb (h:bl p k K Q .normal e s):bl p k (.block id::K) Q (.exit id) e s:=by simp only [bl,gr];exact h
theorem xo {i:Nat} (hi:i≠id) (h:bl p k K Q (.exit i) e s):bl p k (.block id::K) Q (.exit i) e s:=by simp only [bl,gr,if_neg hi];exact h
theorem xs (h:bl p k K Q (.exit id) e s):bl p k (.seq b::K) Q (.exit id) e s:=h
theorem ko {o:Out} {l:List (Nat×V)} (h:Hi e l) (hq:bl p k K Q o (over l e) s):bl p k K Q o e s:=by rw [jM h] at hq;exact hq
theorem kq {o:Out} (h:Q o e s):bl p k [] Q o e s:=h
theorem xl (h:bl p k K Q (.exit id) e s):bl p k (.loop live a::K) Q (.exit id) e s:=h
end
section
variable {b0:Nat} {d:Option Nat} {op:VOp} {os:List VOper} {e:Env} {s s1:aa} {Q:Env->aa->Prop}
theorem o0 (h:Q e s):Ops p b0 [] e s Q:=cQ h
theorem og {g:Nat} {w t:Bool} (hg:e g = .d (.bool t)) (ht:t=w) (h:Ops p b0 (⟨d,op,none⟩::os) e s Q):Ops p b0 (⟨d,op,some (g,w)⟩::os) e s Q:=iH hg (by rw [if_pos ht];exact h)
theorem of' {g:Nat} {w t:Bool} (hg:e g = .d (.bool t)) (ht:t = !w) (h:Ops p b0 os (put e d cA) s Q):Ops p b0 (⟨d,op,some (g,w)⟩::os) e s Q:=iH hg (by rw [if_neg (by rw [ht];cases w<;>simp)];exact h)
theorem oz {g:Nat} {w:Bool} (hg:e g=cA) (h:Ops p b0 os (put e d cA) s Q):Ops p b0 (⟨d,op,some (g,w)⟩::os) e s Q:=jh hg h
theorem opt {c a b:Opd} {t:Bool} {x:V} (hc:ev e c = .d (.bool t)) (ht:t=true) (hx:gQ (ev e a) some=some x) (h:Ops p b0 os (put e d x) s Q):Ops p b0 (⟨d,.pick c a b,none⟩::os) e s Q:=by
 rw [bX] at hx;injection hx with hx;subst hx
 exact aZ (fun call=>by simp only [az,bx,ae,hc,ht,if_true]) h
theorem opf {c a b:Opd} {t:Bool} {x:V} (hc:ev e c = .d (.bool t)) (ht:t=false) (hx:gQ (ev e b) some=some x) (h:Ops p b0 os (put e d x) s Q):Ops p b0 (⟨d,.pick c a b,none⟩::os) e s Q:=by
 rw [bX] at hx;injection hx with hx;subst hx
 exact aZ (fun call=>by simp only [az,bx,ae,hc,ht];rfl) h
theorem oi {esz i:Nat} {x y:Opd} {es:List D} {el:D} (hx:ev e x = .d (.slice es)) (hy:ev e y = .d (.int .i64 i)) (hg:es[i]?=some el) (hc:el.cells.length=esz) (h:Ops p b0 os (put e d (.d (.iptr el.cells 0))) s Q):Ops p b0 (⟨d,.iaddrS esz x y,none⟩::os) e s Q :=
 ek (by simp only [ae,dO,hx,hy,idx,Int.natCast_nonneg,if_true,Int.toNat_natCast,hg,hc];simp only [oT,Option.map_some,gQ,aF]) h
theorem osh {esz h:Nat} {x y:Opd} {es:List D} {k:IntKind} (hx:ev e x = .d (.slice es)) (hy:ev e y = .d (.int k h)) (hh:h<=es.length) (hw:wide (esz+1) es=true) (hq:Ops p b0 os (put e d (.d (.slice (es.take h)))) s Q):Ops p b0 (⟨d,.slice (esz+1) x none (some y),none⟩::os) e s Q :=
 ek (by simp [ae,hx,hy,lK,dq,iN,gq,hh,hw,oT,gQ,aF]) hq
theorem oc {f:Nat} {args:List Opd} {as:List V} {fz:List Nat} {r:D} (hc:ai s (al p f) (args.map (ev e))=some (as,fz)) (hr:refsL as=[]) (hret:Ret p (.fn f) as [] (.d r) []) (h:Ops p b0 os (put e d (.d r)) (if gl r then s else aq s fz) Q):Ops p b0 (⟨d,.call f args,none⟩::os) e s Q:=by
 obtain ⟨e',s',hq,hrun⟩:=h
 refine ⟨e',s',hq,(hret.and hrun).mono fun n hn => ?_⟩
 have hren:renL (pos []) as=as:=by
  exact renL_norefs hr
 have hcall:aV (bV p n) (.fn f) (al p f) (args.map (ev e)) s=some (.d r,if gl r then s else aq s fz):=by
  have hreach:aM s (aA s) [] []=[]:=rfl
  simp only [aV,hc,aN,hr,List.append_nil,hreach]
  simp only [dl,List.all_nil,if_true,iq,hren,pack,List.map_nil,hn.1]
  simp only [List.length_nil,Nat.le_refl,List.take_nil,gT,List.all_nil,and_self,if_true,bg,List.isEmpty_nil,Bool.true_and,aj,ec,List.drop_nil,List.map_nil,List.append_nil,ren]
 simp only [co,az,bx,ae,hcall,Option.map_some]
 exact hn.2
end
theorem oC {b0:Nat} {d:Option Nat} {os:List VOper} {e:Env} {s s2:aa} {Q:Env->aa->Prop} {f:Nat} {args:List Opd} {as:List V} {fz:List Nat} {r:D} (hc:ai s (al p f) (args.map (ev e))=some (as,fz)) (hr:refsL as=[]) (hret:Ret p (.fn f) as [] (.d r) []) (hs:dF (if gl r then s else aq s fz) some=some s2) (h:Ops p b0 os (put e d (.d r)) s2 Q):Ops p b0 (⟨d,.call f args,none⟩::os) e s Q:=by
 rw [aF] at hs;injection hs with hs;subst hs
 exact oc hc hr hret h
def dJ (p:bh) (b:Nat) (os:List VOper) (e:Env) (s:aa) (Q:Env->aa->List Foot->Prop):Prop :=
 ∃ e' s' fs,Q e' s' fs/\Evt fun n=>bc false (bV p n) (al p) b os e s=some (e',s',fs)
def ni (fs:List Foot) (pairs:List (Nat×Nat)) (P:Prop):Prop:=lE fs pairs=true/\P
theorem lt' {fs:List Foot} {pairs:List (Nat×Nat)} {P:Prop} (h:lE fs pairs=true) (hp:P):ni fs pairs P:=⟨h,hp⟩
theorem rd {K:List Fr} {Q:Out->Env->aa->Prop} {e:Env} {s:aa} {sl n:Nat} {s1:aa} {ops:List VOper} {pairs:List (Nat×Nat)} (hs:dF (s++List.replicate sl none) some=some s1) (hn:s.length=n)
 (h:dJ p n ops e s1 fun e s fs=>ni fs pairs (bl p k K Q .normal e s)):Run p k (.region (some pairs) sl ops) e s (bl p k K Q):=by
 rw [aF] at hs;injection hs with hs;subst hs;subst hn
 obtain ⟨e',s',fs,⟨hl,hq⟩,hr⟩:=h
 exact ⟨_,_,_,hq,hr.mono fun n hn=>by simp only [ak,bZ,hn,hl,if_true];rfl⟩
section
variable {b0:Nat} {d:Option Nat} {op:VOp} {os:List VOper} {e:Env} {s s1:aa} {Q:Env->aa->List Foot->Prop}
theorem fn0 (h:Q e s []):dJ p b0 [] e s Q:=⟨e,s,[],h,.all fun _=>rfl⟩
theorem abD {o:VOper} {e1:Env} (h1:Evt fun n=>az (bV p n) (al p) b0 o e s=some (e1,s1)) (h:dJ p b0 os e1 s1 fun e' s' fs=>Q e' s' (footOper false (al p) b0 o e s s1::fs)):dJ p b0 (o::os) e s Q:=by
 obtain ⟨e',s',fs,hq,hr⟩:=h
 exact ⟨e',s',_,hq,(h1.and hr).mono fun n hn=>by simp only [bc,hn.1,hn.2,Option.map_some]⟩
theorem rh {o:VOper} {e1:Env} {P:Env->aa->Prop} (h:Ops p b0 [o] e s P) (hP : ∀ e' s',P e' s'->e'=e1/\s'=s1) (hq:dJ p b0 os e1 s1 fun e' s' fs=>Q e' s' (footOper false (al p) b0 o e s s1::fs)):dJ p b0 (o::os) e s Q:=by
 obtain ⟨e',s',h1,h2⟩:=h
 obtain ⟨rfl,rfl⟩:=hP _ _ h1
 refine abD (h2.mono fun n hn => ?_) hq
 simp only [co] at hn
 split at hn<;>try (cases hn;done)
 rename_i a b hab
 injection hn with hn;injection hn with hn1 hn2;subst hn1;subst hn2;exact hab
theorem fv {x:V} (h1:oT (ae (fun _ _ _=>none) (fun _=>[]) b0 op e s)=some (x,s1)) (h:dJ p b0 os (put e d x) s1 fun e' s' fs=>Q e' s' (footOper false (al p) b0 ⟨d,op,none⟩ e s s1::fs)):dJ p b0 (⟨d,op,none⟩::os) e s Q :=
 rh (P:=fun e' s'=>e'=put e d x/\s'=s1) (ek h1 (cQ ⟨rfl,rfl⟩)) (fun _ _ h=>h) h
theorem fg {x:V} {g:Nat} {w t:Bool} (hg:e g = .d (.bool t)) (ht:t=w) (h1:oT (ae (fun _ _ _=>none) (fun _=>[]) b0 op e s)=some (x,s1)) (h:dJ p b0 os (put e d x) s1 fun e' s' fs=>Q e' s' (footOper false (al p) b0 ⟨d,op,some (g,w)⟩ e s s1::fs)):dJ p b0 (⟨d,op,some (g,w)⟩::os) e s Q :=
 rh (P:=fun e' s'=>e'=put e d x/\s'=s1) (iH hg (by rw [if_pos ht];exact ek h1 (cQ ⟨rfl,rfl⟩))) (fun _ _ h=>h) h
theorem ff {g:Nat} {w t:Bool} (hg:e g = .d (.bool t)) (ht:t = !w) (h:dJ p b0 os (put e d cA) s fun e' s' fs=>Q e' s' (footOper false (al p) b0 ⟨d,op,some (g,w)⟩ e s s::fs)):dJ p b0 (⟨d,op,some (g,w)⟩::os) e s Q :=
 rh (P:=fun e' s'=>e'=put e d cA/\s'=s) (of' hg ht (cQ ⟨rfl,rfl⟩)) (fun _ _ h=>h) h
theorem fz' {g:Nat} {w:Bool} (hg:e g=cA) (h:dJ p b0 os (put e d cA) s fun e' s' fs=>Q e' s' (footOper false (al p) b0 ⟨d,op,some (g,w)⟩ e s s::fs)):dJ p b0 (⟨d,op,some (g,w)⟩::os) e s Q :=
 rh (P:=fun e' s'=>e'=put e d cA/\s'=s) (oz hg (cQ ⟨rfl,rfl⟩)) (fun _ _ h=>h) h
theorem fpt {c a b:Opd} {t:Bool} {x:V} (hc:ev e c = .d (.bool t)) (ht:t=true) (hx:gQ (ev e a) some=some x) (h:dJ p b0 os (put e d x) s fun e' s' fs=>Q e' s' (footOper false (al p) b0 ⟨d,.pick c a b,none⟩ e s s::fs)):dJ p b0 (⟨d,.pick c a b,none⟩::os) e s Q :=
 rh (P:=fun e' s'=>e'=put e d x/\s'=s) (opt hc ht hx (cQ ⟨rfl,rfl⟩)) (fun _ _ h=>h) h
theorem fpf {c a b:Opd} {t:Bool} {x:V} (hc:ev e c = .d (.bool t)) (ht:t=false) (hx:gQ (ev e b) some=some x) (h:dJ p b0 os (put e d x) s fun e' s' fs=>Q e' s' (footOper false (al p) b0 ⟨d,.pick c a b,none⟩ e s s::fs)):dJ p b0 (⟨d,.pick c a b,none⟩::os) e s Q :=
 rh (P:=fun e' s'=>e'=put e d x/\s'=s) (opf hc ht hx (cQ ⟨rfl,rfl⟩)) (fun _ _ h=>h) h
theorem fi {esz i:Nat} {x y:Opd} {es:List D} {el:D} (hx:ev e x = .d (.slice es)) (hy:ev e y = .d (.int .i64 i)) (hg:es[i]?=some el) (hc:el.cells.length=esz) (h:dJ p b0 os (put e d (.d (.iptr el.cells 0))) s fun e' s' fs=>Q e' s' (footOper false (al p) b0 ⟨d,.iaddrS esz x y,none⟩ e s s::fs)):dJ p b0 (⟨d,.iaddrS esz x y,none⟩::os) e s Q :=
 rh (P:=fun e' s'=>e'=put e d (.d (.iptr el.cells 0))/\s'=s) (oi hx hy hg hc (cQ ⟨rfl,rfl⟩)) (fun _ _ h=>h) h
theorem fc {f:Nat} {args:List Opd} {as:List V} {fz:List Nat} {r:D} {s2:aa} (hc:ai s (al p f) (args.map (ev e))=some (as,fz)) (hr:refsL as=[]) (hret:Ret p (.fn f) as [] (.d r) []) (hs:dF (if gl r then s else aq s fz) some=some s2) (h:dJ p b0 os (put e d (.d r)) s2 fun e' s' fs=>Q e' s' (footOper false (al p) b0 ⟨d,.call f args,none⟩ e s s2::fs)):dJ p b0 (⟨d,.call f args,none⟩::os) e s Q:=by
 rw [aF] at hs;injection hs with hs;subst hs
 exact rh (P:=fun e' s'=>e'=put e d (.d r)/\s'=if gl r then s else aq s fz) (oc hc hr hret (cQ ⟨rfl,rfl⟩)) (fun _ _ h=>h) h
end
def ao (es:List D):List (List V):=es.map fun x=>x.cells.map V.d
theorem iC : ∀ cs:List D,refsL (cs.map V.d)=[]
 | []=>rfl
 | _::cs=>by simp only [List.map_cons,refsL,refs,iC cs,List.append_nil]
theorem bf : ∀ es:List D,eO (ao es)=[]
 | []=>rfl
 | e::es=>by
   have:=bf es
   simp only [ao,List.map_cons,eO,iC,List.nil_append] at this ⊢;exact this
theorem Il {m:Nat->Option Nat} (cs:List D):renL m (cs.map V.d)=cs.map V.d:=renL_norefs (iC cs)
theorem bD {m:Nat->Option Nat} : ∀ es:List D,(ao es).map (renL m)=ao es
 | []=>rfl
 | e::es=>by
   have:=bD (m:=m) es
   simp only [ao,List.map_cons,Il] at this ⊢;rw [this]
theorem av (es:List D):(ao es).length=es.length:=List.length_map ..
def bJ (d:D):Bool:=d.cells.all bY&&(match d with | .agg [_]=>false | _=>true)
theorem o8 {d:D} (h:bJ d=true):D.ofCells d.cells=d:=by
 cases d with
 | agg cs =>
   cases cs with
   | nil=>rfl
   | cons c cs =>
     cases cs with
     | nil=>simp [bJ] at h
     | cons c' cs=>rfl
 | _=>rfl
theorem l5 {s:aa} {n:Nat} : ∀ cs:List D,aC (toD s (n+1)) (cs.map V.d)=some (cs,[])
 | []=>rfl
 | c::cs=>by
   have:=l5 (s:=s) (n:=n) cs
   simp only [List.map_cons,aC,this]
   rfl
theorem gy {s:aa} {n:Nat} : ∀ es:List D,es.all bJ=true->da (toD s (n+1)) (ao es)=some (es,[])
 | [],_=>rfl
 | e::es,h=>by
   simp only [List.all_cons,Bool.and_eq_true] at h
   have:=gy (s:=s) (n:=n) es h.2
   simp only [ao,List.map_cons,da,l5] at this ⊢
   simp only [this,o8 h.1,List.append_nil]
theorem qP {s:aa} {i:Nat} {b:Blk} (h:getB s i=some b) (hb:du b=[]):aM s (aA s) [i] []=[i]:=by
 have:aA s=99998+2:=rfl
 rw [this]
 simp only [aM,List.contains_nil,Bool.false_eq_true,if_false,h,hb,List.append_nil,List.nil_append]
theorem qi {s:aa} {n id ver off len:Nat} : toD s (n+1) (.ms id ver off len)=match getB s id with
 | some (.rows v _ esz els)=>if v=ver/\0 < esz/\off+len<=els.length then (da (toD s n) ((els.drop off).take len)).map (fun (es,a)=>(.slice es,id::a)) else none
 | _=>none:=rfl
theorem jr {s:aa} {n id ver k esz:Nat} {ro:Bool} {es:List D} (hb:getB s id=some (.rows ver ro (esz+1) (ao es))) (hk:k=es.length) (ho:es.all bJ=true):toD s (n+2) (.ms id ver 0 k)=some (.slice es,[id]):=by
 subst hk
 have e:(ao es).take es.length=ao es:=List.take_of_length_le (by rw [av];omega)
 rw [qi (n:=n+1),hb]
 simp only [Nat.zero_add,av,Nat.le_refl,Nat.zero_lt_succ,and_self,if_true,List.drop_zero,e,gy es ho,Option.map_some]
theorem sU {s:aa} {esz:Nat} {es:List D} (h:wide esz es=true):cM s esz (.d (.slice es))=some (ao es):=by simp [cM,h,ao]
theorem qM {esz:Nat} {es:List D} (h:wide esz es=true) (ho:es.all bJ=true):((ao es).all fun r=>r.length==esz&&r.all aH)=true:=by
 simp only [List.all_eq_true,ao,List.mem_map,forall_exists_index,and_imp,forall_apply_eq_imp_iff₂]
 intro x hx
 simp only [wide,List.all_eq_true] at h ho
 have h1:=h x hx
 have h2:=ho x hx
 simp only [bJ,Bool.and_eq_true,List.all_eq_true] at h2
 simp only [Bool.and_eq_true,List.all_eq_true,List.length_map,List.mem_map,forall_exists_index,and_imp,forall_apply_eq_imp_iff₂]
 exact ⟨h1,fun c hc=>h2.1 c hc⟩
section
variable {b0:Nat} {d:Option Nat} {os:List VOper} {e:Env} {s s1:aa} {Q:Env->aa->Prop}
theorem oan {slot esz bytes:Nat} {x y:Opd} {es:List D} (hx:ev e x = .nils\/ev e x = .emp\/ev e x = .lit []) (hy:ev e y = .d (.slice es)) (hne:es≠[]) (hw:wide esz es=true) (ho:es.all bJ=true) (hr:au es.length bytes=true)
 (hs:em s (b0+slot) (.rows 0 false esz (ao es))=some s1) (h:Ops p b0 os (put e d (.ms (b0+slot) 0 0 es.length)) s1 Q):Ops p b0 (⟨d,.append slot esz bytes x y,none⟩::os) e s Q:=by
 have hne':ao es≠[]:=by cases es<;>simp_all [ao]
 have hf:=qM hw ho
 have key:cT s (b0+slot) esz bytes (ev e x) (ev e y)=some (.ms (b0+slot) 0 0 es.length,s1):=by
  unfold cT
  rw [hy,sU hw]
  rcases hx with hx | hx | hx<;>simp only [hx,if_neg hne',List.map_nil,List.nil_append,av,hf,hr,Bool.and_self,if_true,hs,Option.map_some]
 refine aZ (fun call => ?_) h
 simp only [az,bx,ae,key,Option.map_some]
theorem oN {f:Nat} {args:List Opd} {as:List V} {fz:List Nat} {r0 v:V} {bs s2:aa} (hc:ai s (al p f) (args.map (ev e))=some (as,fz)) (hr:refsL as=[]) (hret:Ret p (.fn f) as [] r0 bs) (hv:gQ (ren (am [] bs s.length) r0) some=some v)
 (hs:dF (aj [] bs (if bg [] bs r0 then s else aq s fz) (am [] bs s.length)) some=some s2) (h:Ops p b0 os (put e d v) s2 Q):Ops p b0 (⟨d,.call f args,none⟩::os) e s Q:=by
 rw [bX] at hv;injection hv with hv;subst hv
 rw [aF] at hs;injection hs with hs;subst hs
 obtain ⟨e',s',hq,hrun⟩:=h
 refine ⟨e',s',hq,(hret.and hrun).mono fun n hn => ?_⟩
 have hren:renL (pos []) as=as:=renL_norefs hr
 have hcall:aV (bV p n) (.fn f) (al p f) (args.map (ev e)) s=some (ren (am [] bs s.length) r0,aj [] bs (if bg [] bs r0 then s else aq s fz) (am [] bs s.length)):=by
  have hreach:aM s (aA s) [] []=[]:=rfl
  simp only [aV,hc,aN,hr,List.append_nil,hreach]
  simp only [dl,List.all_nil,if_true,iq,hren,pack,List.map_nil,hn.1]
  simp only [List.length_nil,Nat.zero_le,List.take_zero,gT,List.all_nil,and_self,if_true]
 simp only [co,az,bx,ae,hcall,Option.map_some]
 exact hn.2
end
theorem fJ {f:Nat} {fn:VFun} {rest:List V} {x y r:V} (hf:p f=some fn) (hs:fn.split=true)
 (h1:Run p 0 fn.body (cE 0 (.nils::rest)) [] fun o e s=>fin fn.keep 0 fn.res o e s=some (x,[])) (h2:Run p 0 fn.body (cE 0 (.non::rest)) [] fun o e s=>fin fn.keep 0 fn.res o e s=some (y,[]))
 (hr:(if bare x&&bare y then some (V.emp) else match norm x,norm y with | .d a,.d b=>if beqD a b then some (.d a) else none | _,_=>none)=some r):Ret p (.fn f) (.d (.slice [])::rest) [] r []:=by
 obtain ⟨o1,e1,s1,q1,n1,r1⟩:=h1
 obtain ⟨o2,e2,s2,q2,n2,r2⟩:=h2
 refine ⟨max n1 n2+1,fun n hn => ?_⟩
 obtain ⟨n,rfl⟩ : ∃ i,n=i+1:=⟨n - 1,by omega⟩
 have k1:=r1 n (by omega)
 have k2:=r2 n (by omega)
 have g1:dt p (bV p n) n fn (.nils::rest) []=some (x,[]):=by
  simp only [dt,List.length_nil,k1]
  cases o1<;>first | exact q1 | (simp [fin] at q1)
 have g2:dt p (bV p n) n fn (.non::rest) []=some (y,[]):=by
  simp only [dt,List.length_nil,k2]
  cases o2<;>first | exact q2 | (simp [fin] at q2)
 simp only [bV,hf,hs,if_true,g1,g2]
 split at hr
 · rename_i hb;rw [if_pos hb];injection hr with hr;rw [hr]
 · rename_i hb;rw [if_neg hb]
   split at hr<;>try (cases hr;done)
   rename_i a b ha hbb
   simp only [ha,hbb]
   split at hr<;>try (cases hr;done)
   rename_i hab
   injection hr with hr
   rw [if_pos hab,hr]
theorem cN {f:Nat} {fn:VFun} {args:List V} {bs bs':aa} {r:V} (hf:p f=some fn) (hs : ∀ rest,args ≠ .d (.slice [])::rest)
 (h:Run p bs.length fn.body (cE 0 args) bs fun o e s=>fin fn.keep bs.length fn.res o e s=some (r,bs')):Ret p (.fn f) args bs r bs':=by
 obtain ⟨o,e,s,hq,n0,hr⟩:=h
 refine ⟨n0+1,fun n hn => ?_⟩
 obtain ⟨n,rfl⟩ : ∃ i,n=i+1:=⟨n - 1,by omega⟩
 have hr:=hr n (by omega)
 have g:dt p (bV p n) n fn args bs=some (r,bs'):=by
  simp only [dt,hr]
  cases o<;>first | exact hq | (simp [fin] at hq)
 simp only [bV,hf]
 split
 · split
   · exact absurd rfl (hs _)
   · exact g
 · exact g
def am9 (r:Option (V×aa)):Option (V×aa) :=
 match r with
 | some (x,s)=>gQ x fun x=>dF s fun s=>some (x,s)
 | none=>none
theorem fe {keep:Bool} {n:Nat} {res:List VRes} {o:Out} {e:Env} {s bs bs':aa} {v r:V} (h:am9 (fin keep n res o e s)=some (v,bs)) (hv:v=r) (hb:bs=bs'):fin keep n res o e s=some (r,bs'):=by
 subst hv;subst hb
 unfold am9 at h
 split at h
 · rename_i x s' hx
   rw [bX,aF] at h
   rw [hx];exact h
 · cases h
theorem IY {t n esz v:Nat} {ro:Bool} {es:List D} {e:Env} {s:aa} (h:e t = .ms 0 v 0 n) (hs:getB s 0=some (.rows v ro esz (ao es))):fin true 0 [.t t] .ret e s=some (.ms 0 v 0 n,[some (.rows v ro esz (ao es))]):=by
 have hg:ci s 0 [0]=[0]:=by
  have:ci s 0 [0]=aM s (aA s) [0] []:=rfl
  rw [this];exact qP hs (bf es)
 have hr:refs (.ms 0 v 0 n)=[0]:=rfl
 have hp:pos [0] 0=some 0:=rfl
 simp only [fin,results,oZ,h,dZ,eo,if_true,hr,hg,ren,hp,pack,List.map_cons,List.map_nil,hs,Option.map_some,renB,bD]
theorem tV {t:Nat} {e:Env} {s:aa} {d:D} {fz:List Nat} (h:toD s bB (e t)=some (d,fz)):fin false 0 [.t t] .ret e s=some (.d d,[]):=by
 have hg : ∀ s:aa,ci s 0 []=[]:=fun s=>rfl
 simp only [fin,results,oZ,dZ,eo,Bool.false_eq_true,if_false,h,hg,pack,List.map_nil]
theorem mg {s:aa} {id ver k esz:Nat} {ro:Bool} {es:List D} (hb:getB s id=some (.rows ver ro (esz+1) (ao es))) (hk:k=es.length) (ho:es.all bJ=true):toD s bB (.ms id ver 0 k)=some (.slice es,[id]):=jr (n:=28) hb hk ho
section
variable {b0:Nat} {d:Option Nat} {os:List VOper} {e:Env} {s:aa} {k:IntKind} {x y:Opd} {c:Cmp} {m n:Int}
theorem oq {Q:Env->aa->Prop} (hx:ev e x = .d (.int k m)) (hy:ev e y = .d (.int k n)) (hn:n≠0) (h:Ops p b0 os (put e d (.d (.int k (k.wrap (m.tdiv n))))) s Q):Ops p b0 (⟨d,.bin .quo c x y,none⟩::os) e s Q :=
 aZ (fun call=>by simp [az,bx,ae,hx,hy,bin,eU,hn]) h
theorem om {Q:Env->aa->Prop} (hx:ev e x = .d (.int k m)) (hy:ev e y = .d (.int k n)) (hn:n≠0) (h:Ops p b0 os (put e d (.d (.int k (m.tmod n)))) s Q):Ops p b0 (⟨d,.bin .rem c x y,none⟩::os) e s Q :=
 aZ (fun call=>by simp [az,bx,ae,hx,hy,bin,eU,hn]) h
theorem fq {Q:Env->aa->List Foot->Prop} (hx:ev e x = .d (.int k m)) (hy:ev e y = .d (.int k n)) (hn:n≠0) (h:dJ p b0 os (put e d (.d (.int k (k.wrap (m.tdiv n))))) s fun e' s' fs=>Q e' s' (footOper false (al p) b0 ⟨d,.bin .quo c x y,none⟩ e s s::fs)):dJ p b0 (⟨d,.bin .quo c x y,none⟩::os) e s Q :=
 rh (P:=fun e' s'=>e'=put e d (.d (.int k (k.wrap (m.tdiv n))))/\s'=s) (oq hx hy hn (cQ ⟨rfl,rfl⟩)) (fun _ _ h=>h) h
theorem fm {Q:Env->aa->List Foot->Prop} (hx:ev e x = .d (.int k m)) (hy:ev e y = .d (.int k n)) (hn:n≠0) (h:dJ p b0 os (put e d (.d (.int k (m.tmod n)))) s fun e' s' fs=>Q e' s' (footOper false (al p) b0 ⟨d,.bin .rem c x y,none⟩ e s s::fs)):dJ p b0 (⟨d,.bin .rem c x y,none⟩::os) e s Q :=
 rh (P:=fun e' s'=>e'=put e d (.d (.int k (m.tmod n)))/\s'=s) (om hx hy hn (cQ ⟨rfl,rfl⟩)) (fun _ _ h=>h) h
end
theorem ab {n b:Nat} (h:n<=1000000) (hb:b<=1000):au n b=true:=by
 have:(2*n+768)*b<=2000768*1000:=Nat.mul_le_mul (by omega) hb
 simp only [au,Bool.and_eq_true,decide_eq_true_eq]
 have e1:(2:Nat) ^ 47=140737488355328:=by decide
 have e2:(2:Nat) ^ 46=70368744177664:=by decide
 omega
theorem omk {b0:Nat} {d:Option Nat} {os:List VOper} {e:Env} {s s1:aa} {Q:Env->aa->Prop} {slot esz bytes n m:Nat} {z:List V} {l c:Opd} (hl:idx (ev e l)=some n) (hc:idx (ev e c)=some m) (hnm:n<=m) (hr:au m bytes=true) (hz:z.all aH=true) (hzl:z.length=esz)
 (hs:(em s (b0+slot) (.rows 0 false esz (aL n z))).bind (fun s=>dF s some)=some s1) (h:Ops p b0 os (put e d (.ms (b0+slot) 0 0 n)) s1 Q):Ops p b0 (⟨d,.mkslice slot esz bytes z l c,none⟩::os) e s Q:=by
 have hs:em s (b0+slot) (.rows 0 false esz (aL n z))=some s1:=by
  cases hq:em s (b0+slot) (.rows 0 false esz (aL n z)) with
  | none=>rw [hq] at hs;cases hs
  | some q=>rw [hq] at hs;simp only [Option.bind_some,aF] at hs;exact hs
 refine aZ (fun call => ?_) h
 simp only [az,bx,ae,hl,hc,hnm,hr,hz,hzl,and_self,if_true,hs,Option.map_some]
def iw {α:Sort _} : List (List V)->(List (List V)->α)->α
 | [],K=>K []
 | r::rs,K=>fX r fun r=>iw rs fun rs=>K (r::rs)
theorem fY {α:Sort _} : ∀ (rs:List (List V)) (K:List (List V)->α),iw rs K=K rs
 | [],K=>rfl
 | r::rs,K=>by simp only [iw,cm,fY rs]
section
variable {b0:Nat} {d:Option Nat} {os:List VOper} {e:Env} {s s2:aa}
theorem ft {t t':Tgt} {flags:List Bool} {args as as':List V} {fz ids:List Nat} {r0 v:V} {bs bs0:aa} (hc:ai s flags args=some (as,fz)) (hi:aM s (aA s) (aN t++refsL as) []=ids) (hd:(ids.all fun i => !fz.contains i)=true) (ht:iq (pos ids) t=some t')
 (has:fX (renL (pos ids) as) some=some as') (hbs:dF (pack s ids (pos ids)) some=some bs0) (hret:Ret p t' as' bs0 r0 bs) (hl:(decide (ids.length<=bs.length)&&gT (bs.take ids.length))=true) (hv:gQ (ren (am ids bs s.length) r0) some=some v)
 (hs:dF (aj ids bs (if bg ids bs r0 then s else aq s fz) (am ids bs s.length)) some=some s2):Evt fun n=>aV (bV p n) t flags args s=some (v,s2):=by
 rw [bX] at hv;injection hv with hv;subst hv
 rw [aF] at hs;injection hs with hs;subst hs
 rw [cm] at has;injection has with has;subst has
 rw [aF] at hbs;injection hbs with hbs;subst hbs
 refine Evt.mono hret fun n hn => ?_
 simp only [Bool.and_eq_true,decide_eq_true_eq] at hl
 simp only [aV,hc,hi,dl,hd,if_true,ht,hn,hl,and_self]
theorem oR {Q:Env->aa->Prop} {f:Nat} {args:List Opd} {as as':List V} {fz ids:List Nat} {r0 v:V} {bs bs0:aa} (hc:ai s (al p f) (args.map (ev e))=some (as,fz)) (hi:aM s (aA s) (refsL as) []=ids) (hd:(ids.all fun i => !fz.contains i)=true)
 (has:fX (renL (pos ids) as) some=some as') (hbs:dF (pack s ids (pos ids)) some=some bs0) (hret:Ret p (.fn f) as' bs0 r0 bs) (hl:(decide (ids.length<=bs.length)&&gT (bs.take ids.length))=true) (hv:gQ (ren (am ids bs s.length) r0) some=some v)
 (hs:dF (aj ids bs (if bg ids bs r0 then s else aq s fz) (am ids bs s.length)) some=some s2) (h:Ops p b0 os (put e d v) s2 Q):Ops p b0 (⟨d,.call f args,none⟩::os) e s Q:=by
 have hcall:=ft (t := .fn f) hc hi hd rfl has hbs hret hl hv hs
 obtain ⟨e',s',hq,hrun⟩:=h
 exact ⟨e',s',hq,(hcall.and hrun).mono fun n hn=>by simp only [co,az,bx,ae,hn.1,Option.map_some];exact hn.2⟩
theorem oV {Q:Env->aa->Prop} {fv:Opd} {t t':Tgt} {xa xb:List V} {args:List Opd} {as as':List V} {fz ids:List Nat} {r0 v:V} {bs bs0:aa} (ht0:target (ev e fv)=some (t,xa,xb)) (hc:ai s (match t with | .fn f=>al p f | .round _=>[]) (xa++args.map (ev e)++xb)=some (as,fz)) (hi:aM s (aA s) (aN t++refsL as) []=ids) (hd:(ids.all fun i => !fz.contains i)=true) (ht:iq (pos ids) t=some t')
 (has:fX (renL (pos ids) as) some=some as') (hbs:dF (pack s ids (pos ids)) some=some bs0) (hret:Ret p t' as' bs0 r0 bs) (hl:(decide (ids.length<=bs.length)&&gT (bs.take ids.length))=true) (hv:gQ (ren (am ids bs s.length) r0) some=some v)
 (hs:dF (aj ids bs (if bg ids bs r0 then s else aq s fz) (am ids bs s.length)) some=some s2) (h:Ops p b0 os (put e d v) s2 Q):Ops p b0 (⟨d,.callv fv args,none⟩::os) e s Q:=by
 have hcall:=ft hc hi hd ht has hbs hret hl hv hs
 obtain ⟨e',s',hq,hrun⟩:=h
 refine ⟨e',s',hq,(hcall.and hrun).mono fun n hn => ?_⟩
 have h1:=hn.1
 cases t with
 | fn f=>simp only [co,az,bx,ae,ht0] at h1 ⊢;simp only [h1,Option.map_some];exact hn.2
 | round id=>simp only [co,az,bx,ae,ht0] at h1 ⊢;simp only [h1,Option.map_some];exact hn.2
end
theorem oam {b0:Nat} {d:Option Nat} {os:List VOper} {e:Env} {s s1:aa} {Q:Env->aa->Prop} {slot esz bytes id ver len:Nat} {x y:Opd} {els ys:List (List V)} (hx:ev e x = .ms id ver 0 len) (hy:cM s esz (ev e y)=some ys) (hb:getB s id=some (.rows ver false esz els)) (hl:len<=els.length) (hne:ys.isEmpty=false)
 (hf:(ys.all fun r=>r.length==esz&&r.all aH)=true) (hr:au (len+ys.length) bytes=true) (hs:dF (setB s id (.rows (ver+1) false esz (els.take len++ys))) some=some s1) (h:Ops p b0 os (put e d (.ms id (ver+1) 0 (len+ys.length))) s1 Q):Ops p b0 (⟨d,.append slot esz bytes x y,none⟩::os) e s Q:=by
 rw [aF] at hs;injection hs with hs;subst hs
 have hne':ys≠[]:=by rintro rfl;simp at hne
 have key:cT s (b0+slot) esz bytes (ev e x) (ev e y)=some (.ms id (ver+1) 0 (len+ys.length),setB s id (.rows (ver+1) false esz (els.take len++ys))):=by
  unfold cT
  rw [hy]
  simp only [hx,hb,Nat.zero_add,hl,and_self,if_true,if_neg hne',hf,hr]
 refine aZ (fun call => ?_) h
 simp only [az,bx,ae,key,Option.map_some]
theorem oak {b0:Nat} {d:Option Nat} {os:List VOper} {e:Env} {s s1:aa} {Q:Env->aa->Prop} {slot esz bytes:Nat} {x y:Opd} {es:List D} {ys:List (List V)} (hx:(match ev e x with | .nils=>some [] | .emp=>some [] | .lit es=>some es | _=>none)=some es) (hy:cM s esz (ev e y)=some ys) (hne:ys.isEmpty=false)
 (hf:(((es.map fun e=>e.cells.map V.d)++ys).all fun r=>r.length==esz&&r.all aH)=true) (hr:au ((es.map fun e=>e.cells.map V.d)++ys).length bytes=true) (hs:(em s (b0+slot) (.rows 0 false esz ((es.map fun e=>e.cells.map V.d)++ys))).bind (fun s=>dF s some)=some s1)
 (h:Ops p b0 os (put e d (.ms (b0+slot) 0 0 ((es.map fun e=>e.cells.map V.d)++ys).length)) s1 Q):Ops p b0 (⟨d,.append slot esz bytes x y,none⟩::os) e s Q:=by
 have hne':ys≠[]:=by rintro rfl;simp at hne
 have hs:em s (b0+slot) (.rows 0 false esz ((es.map fun e=>e.cells.map V.d)++ys))=some s1:=by
  cases hq:em s (b0+slot) (.rows 0 false esz ((es.map fun e=>e.cells.map V.d)++ys)) with
  | none=>rw [hq] at hs;cases hs
  | some q=>rw [hq] at hs;simp only [Option.bind_some,aF] at hs;exact hs
 have key:cT s (b0+slot) esz bytes (ev e x) (ev e y)=some (.ms (b0+slot) 0 0 ((es.map fun e=>e.cells.map V.d)++ys).length,s1):=by
  unfold cT
  rw [hy]
  split at hx<;>try (cases hx;done)
  all_goals (rename_i hx0;injection hx with hx;subst hx;simp only [hx0,if_neg hne'];(try simp only [List.map_nil,List.nil_append] at hf hr hs ⊢);simp only [hf,hr,Bool.and_self,if_true,hs,Option.map_some])
 refine aZ (fun call => ?_) h
 simp only [az,bx,ae,key,Option.map_some]
theorem lh {live:List Nat} {body:VCode} {e:Env} {s s1:aa} {vs:List V} {K:List Fr} {Q:Out->Env->aa->Prop} (h:eW k live e s=some (vs,s1)) (hb:Run p k body (dQ (live.zip vs)) s1 (bl p k (.loop live body::K) Q)):Loop p k live body e s (bl p k K Q):=af h hb
attribute [irreducible] Ops dJ Run Loop Ret bl ah
end Go.Proofs.YtncfpmehhfdipaaGreat
namespace Go.Proofs.YtncfpmehhfdipaaGreat
abbrev I (n:Nat):D := .int .i64 (.ofNat n)
abbrev J (n:Nat):D := .int .i64 (.negSucc n)
abbrev W (n:Nat):D := .int .u32 (.ofNat n)
abbrev B (b:Bool):D := .bool b
abbrev S (l:List D):D := .slice l
abbrev A (l:List D):D := .agg l
abbrev U (l:List D):D := .tuple l
def CallSem.le (c c':CallSem):Prop := ∀ t a b x,c t a b=some x->c' t a b=some x
section
variable {c c':CallSem} (hc:CallSem.le c c')
include hc
theorem go {t:Tgt} {fl:List Bool} {args:List V} {s:aa} {x:V×aa} (h:aV c t fl args s=some x):aV c' t fl args s=some x:=by
 unfold aV at h ⊢
 split at h
 · cases h
 · unfold dl at h ⊢
   split at h
   · rename_i h1
     rw [if_pos h1]
     split at h
     · cases h
     · rename_i t' ht
       split at h
       · cases h
       · rename_i r bs hr
         simp only [hc _ _ _ _ hr]
         exact h
   · cases h
theorem nC {fl:Nat->List Bool} {b:Nat} {op:VOp} {e:Env} {s:aa} {x:Res×aa} (h:ae c fl b op e s=some x):ae c' fl b op e s=some x:=by
 cases op with
 | call f args =>
   simp only [ae,Option.map_eq_some_iff] at h ⊢
   obtain ⟨y,h1,h2⟩:=h
   exact ⟨y,go hc h1,h2⟩
 | callv f args =>
   simp only [ae] at h ⊢
   split at h
   · simp only [Option.map_eq_some_iff] at h ⊢
     obtain ⟨y,h1,h2⟩:=h
     exact ⟨y,go hc h1,h2⟩
   · cases h
 | _=>exact h
theorem jB {fl:Nat->List Bool} {b:Nat} {o:VOper} {e:Env} {s:aa} {x:Env×aa} (h:az c fl b o e s=some x):az c' fl b o e s=some x:=by
 unfold az at h ⊢
 split at h
 · cases h
 · exact h
 · split at h
   · rename_i h1;simp only [nC hc h1];exact h
   · rename_i h1;simp only [nC hc h1];exact h
   · cases h
theorem li {fl:Nat->List Bool} {b:Nat} : ∀ {os:List VOper} {e:Env} {s:aa} {x:Env×aa},co c fl b os e s=some x->co c' fl b os e s=some x
 | [],_,_,_,h=>h
 | o::os,e,s,x,h=>by
   simp only [co] at h ⊢
   split at h
   · rename_i h1;simp only [jB hc h1];exact li h
   · cases h
theorem f6 {fine:Bool} {fl:Nat->List Bool} {b:Nat} : ∀ {os:List VOper} {e:Env} {s:aa} {x:Env×aa×List Foot},bc fine c fl b os e s=some x->bc fine c' fl b os e s=some x
 | [],_,_,_,h=>h
 | o::os,e,s,x,h=>by
   simp only [bc] at h ⊢
   split at h
   · rename_i h1
     simp only [jB hc h1]
     simp only [Option.map_eq_some_iff] at h ⊢
     obtain ⟨y,h2,h3⟩:=h
     exact ⟨y,f6 h2,h3⟩
   · cases h
theorem lg {fl:Nat->List Bool} {dr:Option (List (Nat×Nat))} {sl:Nat} {os:List VOper} {e:Env} {s:aa} {x:Env×aa} (h:bZ c fl dr sl os e s=some x):bZ c' fl dr sl os e s=some x:=by
 unfold bZ at h ⊢
 cases dr with
 | none=>exact li hc h
 | some ps =>
   simp only at h ⊢
   split at h
   · rename_i e1 s1 f1 h1
     simp only [f6 hc h1]
     split at h
     · rename_i hl;rw [if_pos hl];exact h
     · rename_i hl
       rw [if_neg hl]
       split at h
       · rename_i h2;simp only [f6 hc h2];exact h
       · cases h
   · cases h
theorem mq {fl:Nat->List Bool} {f:V} {lv ps:List Nat} {a b:VCode} {e:Env} {s:aa} {x:Out×Env×aa} (h:dL c fl f lv ps a b e s=some x):dL c' fl f lv ps a b e s=some x:=by
 simp only [dL] at h ⊢
 split at h
 · rename_i g u v ht
   split at h
   · rename_i r s2 h1;simp only [go hc h1];exact h
   · cases h
 · cases h
end
theorem mJ {f g:Env->aa->Option (Out×Env×aa)} (hfg : ∀ e s x,f e s=some x->g e s=some x) : ∀ {n m:Nat} {e:Env} {s:aa} {x:Out×Env×aa},n<=m->pQ f n e s=some x->pQ g m e s=some x
 | 0,_,_,_,_,_,h=>by cases h
 | n+1,0,_,_,_,hm,_=>by omega
 | n+1,m+1,e,s,x,hm,h=>by
   simp only [pQ] at h ⊢
   cases h1:f e s with
   | none=>rw [h1] at h;cases h
   | some y =>
     obtain ⟨o,e',s'⟩:=y
     rw [h1] at h
     rw [hfg _ _ _ h1]
     cases o with
     | normal=>exact mJ hfg (by omega) h
     | exit i=>exact h
     | ret=>exact h
theorem bo {c c':CallSem} (hc:CallSem.le c c') {fl:Nat->List Bool} {k n m:Nat} (hm:n<=m) : ∀ {a:VCode} {e:Env} {s:aa} {x:Out×Env×aa},ak c fl k n a e s=some x->ak c' fl k m a e s=some x
 | .skip,_,_,_,h=>h
 | .exit _,_,_,_,h=>h
 | .ret,_,_,_,h=>h
 | .fail,_,_,_,h=>h
 | .region dr sl os,e,s,x,h=>by
   simp only [ak,Option.map_eq_some_iff] at h ⊢
   obtain ⟨y,h1,h2⟩:=h
   exact ⟨y,lg hc h1,h2⟩
 | .rangeFunc f lv ps a b,e,s,x,h=>by
   simp only [ak] at h ⊢
   exact mq hc h
 | .cond t a b,e,s,x,h=>by
   simp only [ak] at h ⊢
   split at h
   · exact bo hc hm h
   · exact bo hc hm h
   · cases h
 | .seq a b,e,s,x,h=>by
   simp only [ak] at h ⊢
   cases h1:ak c fl k n a e s with
   | none=>rw [h1] at h;cases h
   | some y =>
     obtain ⟨o,e',s'⟩:=y
     rw [h1] at h
     rw [bo hc hm h1]
     cases o with
     | normal=>exact bo hc hm h
     | exit i=>exact h
     | ret=>exact h
 | .block id a,e,s,x,h=>by
   simp only [ak] at h ⊢
   cases h1:ak c fl k n a e s with
   | none=>rw [h1] at h;cases h
   | some y =>
     obtain ⟨o,e',s'⟩:=y
     rw [h1] at h
     rw [bo hc hm h1]
     exact h
 | .loop lv a,e,s,x,h=>by
   simp only [ak] at h ⊢
   exact mJ (fun e s x hx=>bo hc hm hx) hm h
theorem gX {p:bh} {c c':CallSem} (hc:CallSem.le c c') {n m:Nat} (hm:n<=m) {fn:VFun} {args:List V} {bs:aa} {x:V×aa} (h:dt p c n fn args bs=some x):dt p c' m fn args bs=some x:=by
 unfold dt at h ⊢
 cases h1:ak c (al p) bs.length n fn.body (cE 0 args) bs with
 | none=>rw [h1] at h;cases h
 | some y=>rw [h1] at h;rw [bo hc hm h1];exact h
theorem mp {p:bh} {c c':CallSem} (hc:CallSem.le c c') {n m:Nat} (hm:n<=m) {id:Nat} {args:List V} {bs:aa} {x:V×aa} (h:cZ p c n id args bs=some x):cZ p c' m id args bs=some x:=by
 unfold cZ at h ⊢
 split at h
 · split at h
   · rename_i h0
     rw [if_pos h0]
     simp only at h ⊢
     split at h
     · rename_i h1
       rw [bo hc hm h1]
       simp only at h ⊢
       split at h
       · rename_i h2
         split at h
         · rename_i h3
           simp only [bo hc hm h3]
           exact h
         · cases h
       · cases h
     · cases h
   · cases h
 · cases h
def pM (p:bh) (call:CallSem) (n:Nat):CallSem:=fun t args bs =>
 match t with
 | .fn f=>match p f with
   | none=>none
   | some fn =>
     if fn.split then
      match args,bs with
      | .d (.slice [])::rest,[] =>
        match dt p call n fn (.nils::rest) [],dt p call n fn (.non::rest) [] with
        | some (x,[]),some (y,[])=>if bare x&&bare y then some (.emp,[]) else match norm x,norm y with | .d a,.d b=>if beqD a b then some (.d a,[]) else none | _,_=>none
        | _,_=>none
      | _,_=>dt p call n fn args bs
     else dt p call n fn args bs
 | .round id=>cZ p call n id args bs
theorem j3 {p:bh} {n:Nat} : bV p (n+1)=pM p (bV p n) n:=by
 rw [bV]
 funext t args bs
 cases t<;>rfl
theorem n7 {p:bh} {c c':CallSem} (hc:CallSem.le c c') {n m:Nat} (hm:n<=m):CallSem.le (pM p c n) (pM p c' m):=by
 intro t args bs x h
 unfold pM at h ⊢
 cases t with
 | round id=>exact mp hc hm h
 | fn f =>
   simp only at h ⊢
   cases hp:p f with
   | none=>rw [hp] at h;cases h
   | some fn =>
     rw [hp] at h
     simp only at h ⊢
     split at h
     · rename_i hs
       rw [if_pos hs]
       split at h
       · split at h
         · rename_i h1 h2
           simp only [gX hc hm h1,gX hc hm h2]
           exact h
         · cases h
       · rename_i hne
         exact gX hc hm h
     · rename_i hs
       rw [if_neg hs]
       exact gX hc hm h
structure Ent where
 f:Nat
 args:List V
 bs:aa
 r:V
 bs':aa
inductive Tab (p:bh):List Ent->Prop
 | n:Tab p []
 | c {f:Nat} {a:List V} {b b':aa} {r:V} {l:List Ent} : Ret p (.fn f) a b r b'->Tab p l->Tab p (⟨f,a,b,r,b'⟩::l)
def tU:List Ent->Nat->List V->aa->Option (V×aa)
 | [],_,_,_=>none
 | e::l,f,a,b=>bif Nat.beq e.f f&&(beqVs e.args a&&Hh e.bs b) then some (e.r,e.bs') else tU l f a b
def i5 (p:bh) (tab:List Ent):Nat->CallSem
 | 0=>fun _ _ _=>none
 | n+1=>fun t args bs =>
   match t with
   | .fn f=>match tU tab f args bs with
     | some r=>some r
     | none=>pM p (i5 p tab n) n (.fn f) args bs
   | .round id=>pM p (i5 p tab n) n (.round id) args bs
theorem tT {p:bh} {l:List Ent} (h:Tab p l) : ∃ m0,∀ f a b x,tU l f a b=some x -> ∀ m,m0<=m->bV p m (.fn f) a b=some x:=by
 induction h with
 | n=>exact ⟨0,fun f a b x h=>by cases h⟩
 | @c f' a' b' b2 r' l h1 _ ih =>
   unfold Ret Evt at h1
   obtain ⟨m1,h1⟩:=h1
   obtain ⟨m2,h2⟩:=ih
   refine ⟨max m1 m2,fun f a b x h m hm => ?_⟩
   simp only [tU] at h
   cases hq:(Nat.beq f' f&&(beqVs a' a&&Hh b' b)) with
   | false=>rw [hq] at h;exact h2 f a b x h m (by omega)
   | true =>
     rw [hq] at h
     simp only [Bool.and_eq_true,Nat.beq_eq] at hq
     obtain ⟨q1,q2,q3⟩:=hq
     rw [<- q1,<- beqVs_eq q2,<- kM q3]
     injection h with h
     rw [<- h]
     exact h1 m (by omega)
theorem kK {p:bh} {l:List Ent} (h:Tab p l) : ∃ m0,∀ n m,m0+n<=m->CallSem.le (i5 p l n) (bV p m):=by
 obtain ⟨m0,h0⟩:=tT h
 refine ⟨m0,fun n => ?_⟩
 induction n with
 | zero=>intro m _ t a b x hx;cases hx
 | succ n ih =>
   intro m hm t a b x hx
   obtain ⟨m,rfl⟩ : ∃ i,m=i+1:=⟨m - 1,by omega⟩
   cases t with
   | round id =>
     rw [j3]
     exact n7 (ih m (by omega)) (by omega) _ _ _ _ hx
   | fn f =>
     simp only [i5] at hx
     split at hx
     · rename_i r hr
       injection hx with hx;subst hx
       exact h0 _ _ _ _ hr _ (by omega)
     · rw [j3]
       exact n7 (ih m (by omega)) (by omega) _ _ _ _ hx
def tu (x:Option (V×aa)) (r:V) (bs:aa):Bool:=match x with | some (y,s)=>beqV r y&&Hh bs s | none=>false
theorem tb {p:bh} {l:List Ent} (h:Tab p l) {n f:Nat} {a:List V} {b b':aa} {r:V} (hx:tu (i5 p l n (.fn f) a b) r b'=true):Ret p (.fn f) a b r b':=by
 obtain ⟨m0,h0⟩:=kK h
 unfold tu at hx
 split at hx
 · rename_i y s he
   simp only [Bool.and_eq_true] at hx
   rw [beqV_eq hx.1,kM hx.2]
   unfold Ret Evt
   exact ⟨m0+n,fun m hm=>h0 n m hm _ _ _ _ he⟩
 · cases hx
end Go.Proofs.YtncfpmehhfdipaaGreat
