/- What an operation looks at, and what it leaves alone. -/
import Derived.Test.YtncfpmehhfdipaaGreatA02
import Derived.Test.YtncfpmehhfdipaaGreatA03
import Derived.RangeFuncRecord
set_option linter.unusedSimpArgs false
set_option linter.unusedVariables false
set_option linter.unnecessarySimpa false
namespace Go.Proofs.YtncfpmehhfdipaaGreat
open Go.RowKit
variable {s s' s2 s2':aa} {e e2:Env}
theorem hY {x:Opd} (h : ∀ t∈tOf x,e2 t=e t):ev e2 x=ev e x:=by
 cases x with
 | t n=>exact h n (by simp [tOf])
 | c v=>rfl
theorem dD {l:List Opd} (h : ∀ t∈np l,e2 t=e t):l.map (ev e2)=l.map (ev e) :=
 List.map_congr_left fun x hx=>hY fun t ht=>h t (List.mem_flatMap.2 ⟨x,hx,ht⟩)
theorem fQ {x:Option Opd} (h : ∀ t∈np x.toList,e2 t=e t):x.map (ev e2)=x.map (ev e):=by
 cases x with
 | none=>rfl
 | some x=>simp only [Option.map_some];rw [hY fun t ht=>h t (by simpa [np] using ht)]
theorem uY {x:Opd} {l:List Opd} {t:Nat} (hx:x∈l) (ht:t∈tOf x):t∈np l:=List.mem_flatMap.2 ⟨x,hx,ht⟩
theorem jp {a b:List Opd} {t:Nat} : t∈np (a++b) ↔ t∈np a\/t∈np b:=by simp [np]
theorem im {x:Opd} {b:List Opd} {t:Nat} : t∈np (x::b) ↔ t∈tOf x\/t∈np b:=by simp [np]
theorem e6 {α:Type} {l:List α} {g:α->Opd} {β:Type} {f:α->V->β} (h : ∀ t∈np (l.map g),e2 t=e t):(l.map fun p=>f p (ev e2 (g p)))=l.map fun p=>f p (ev e (g p)) :=
 List.map_congr_left fun p hp=>by rw [hY fun t ht=>h t (uY (List.mem_map.2 ⟨p,hp,rfl⟩) ht)]
section
variable {call:CallSem} {flags:Nat->List Bool} {base:Nat} {fine:Bool}
theorem lj {op:VOp} (h : ∀ t∈np (o7 op),e2 t=e t):ae call flags base op e2 s=ae call flags base op e s/\aI fine flags base op e2 s s'=aI fine flags base op e s s':=by
 have h1 : ∀ x∈o7 op,ev e2 x=ev e x:=fun x hx=>hY fun t ht=>h t (uY hx ht)
 cases op with
 | build z ps =>
   have:=e6 (l:=ps) (g:=fun p=>p.2.2) (f:=fun p v=>(p.1,p.2.1,v)) (by simpa [o7] using h)
   simp only [ae,aI] at this ⊢;rw [this];simp
 | bslice esz z n ps =>
   have:=e6 (l:=ps) (g:=fun p=>p.2) (f:=fun p v=>(p.1,v)) (by simpa [o7] using h)
   simp only [ae,aI] at this ⊢;rw [this];simp
 | mslice slot esz z n ps =>
   have:=e6 (l:=ps) (g:=fun p=>p.2) (f:=fun p v=>(p.1,v)) (by simpa [o7] using h)
   simp only [ae,aI] at this ⊢;rw [this];simp
 | slice esz x lo hi =>
   have a:=h1 x (by simp [o7])
   have b:lo.map (ev e2)=lo.map (ev e):=fQ fun t ht=>h t (im.2 (.inr (jp.2 (.inl ht))))
   have c:hi.map (ev e2)=hi.map (ev e):=fQ fun t ht=>h t (im.2 (.inr (jp.2 (.inr ht))))
   simp only [ae,aI,a,b,c,and_self]
 | slarr n esz x lo hi =>
   have a:=h1 x (by simp [o7])
   have b:lo.map (ev e2)=lo.map (ev e):=fQ fun t ht=>h t (im.2 (.inr (jp.2 (.inl ht))))
   have c:hi.map (ev e2)=hi.map (ev e):=fQ fun t ht=>h t (im.2 (.inr (jp.2 (.inr ht))))
   simp only [ae,aI,a,b,c,and_self]
 | mkfunc f a b =>
   have h2:a.map (ev e2)=a.map (ev e):=dD fun t ht=>h t (jp.2 (.inl ht))
   have h3:b.map (ev e2)=b.map (ev e):=dD fun t ht=>h t (jp.2 (.inr ht))
   simp only [ae,aI,h2,h3,and_self]
 | call f args =>
   have h2:args.map (ev e2)=args.map (ev e):=dD fun t ht=>h t (by simpa [o7] using ht)
   simp only [ae,aI,h2,and_self]
 | callv f args =>
   have h2:args.map (ev e2)=args.map (ev e):=dD fun t ht=>h t (im.2 (.inr ht))
   have h3:=h1 f (by simp [o7])
   simp only [ae,aI,h2,h3,and_self]
 | max xs =>
   have h2:xs.map (ev e2)=xs.map (ev e):=dD fun t ht=>h t (by simpa [o7] using ht)
   simp only [ae,aI,h2,and_self]
 | min xs =>
   have h2:xs.map (ev e2)=xs.map (ev e):=dD fun t ht=>h t (by simpa [o7] using ht)
   simp only [ae,aI,h2,and_self]
 | _=>simp only [o7,List.mem_cons,List.not_mem_nil,or_false,forall_eq_or_imp,forall_eq] at h1;simp only [ae,aI,h1,and_self]
end
theorem nU {i:Nat} : s[i]?=if i < s.length then some (getB s i) else none:=by
 unfold getB
 split
 · rename_i h;rw [List.getElem?_eq_getElem h];rfl
 · rename_i h;rw [List.getElem?_eq_none (by omega)]
theorem b7 {i:Nat} : s2[i]?=s[i]? ↔ getB s2 i=getB s i/\(i < s2.length ↔ i < s.length):=by
 constructor
 · intro h
   refine ⟨by unfold getB;rw [h],?_⟩
   rw [nU,nU] at h
   by_cases a:i < s2.length<;>by_cases b:i < s.length<;>simp_all<;>omega
 · rintro ⟨h1,h2⟩
   rw [nU,nU,h1]
   by_cases a:i < s.length
   · rw [if_pos a,if_pos (h2.2 a)]
   · rw [if_neg a,if_neg (fun h=>a (h2.1 h))]
theorem eq {i:Nat} (h:s2[i]?=s[i]?):getB s2 i=getB s i:=(b7.1 h).1
structure Loc (f:Foot) (s' s2 s2':aa):Prop where
 wr : ∀ i∈f.wr,s2'[i]?=s'[i]?
 keep : ∀ i,i ∉ f.wr->s2'[i]?=s2[i]?
 len:f.len=false->s2'.length=s2.length
theorem Loc.same {rd:List Nat} : Loc ⟨rd,[],false⟩ s' s s:=⟨by simp,fun _ _=>rfl,fun _=>rfl⟩
theorem Loc.setB {id:Nat} {rd:List Nat} {b:Blk} (h:s2[id]?=s[id]?):Loc ⟨rd,[id],false⟩ (setB s id b) s2 (setB s2 id b) where
 wr i hi:=by
  simp only [List.mem_singleton] at hi;subst hi
  have:=(b7.1 h).2
  simp only [YtncfpmehhfdipaaGreat.setB,List.getElem?_set]
  by_cases a:i < s.length
  · simp [a,this.2 a]
  · have:¬ i < s2.length:=fun x=>a (this.1 x)
    simp [a,this]
 keep i hi:=by
  simp only [List.mem_singleton] at hi
  simp only [YtncfpmehhfdipaaGreat.setB,List.getElem?_set,if_neg (Ne.symm hi)]
 len _:=by simp [YtncfpmehhfdipaaGreat.setB]
theorem Loc.more {f:Foot} {wr:List Nat} (h:Loc ⟨f.rd,wr,f.len⟩ s' s2 s2') (hsub : ∀ i∈wr,i∈f.wr) (h' : ∀ i∈f.wr,i ∉ wr->s'[i]?=s[i]?) (hs : ∀ i∈f.wr,s2[i]?=s[i]?):Loc f s' s2 s2' where
 wr i hi:=by
  by_cases hw:i∈wr
  · exact h.wr i hw
  · rw [h.keep i hw,hs i hi,h' i hi hw]
 keep i hi:=h.keep i fun hw=>hi (hsub i hw)
 len:=h.len
theorem vO {id i:Nat} {b:Option Blk} (h:i≠id):(s.set id b)[i]?=s[i]?:=by simp [List.getElem?_set,Ne.symm h]
theorem q5 {agg:Bool} {n:Nat} {a:V} (h : ∀ i∈bL a,getB s2 i=getB s i):iM s2 agg n a=iM s agg n a:=by
 cases a<;>first | rfl | (rename_i d;cases d<;>rfl) | (have h:=h _ (List.mem_singleton.2 rfl);simp only [iM,h])
theorem kV {id:Nat} (h:getB s2 id=getB s id):ik s2 id=ik s id:=by unfold ik;rw [h]
theorem nQ {a:V} (h : ∀ i∈bL a,getB s2 i=getB s i):iN s2 a=iN s a:=by
 cases a<;>first | rfl | (rename_i d;cases d<;>rfl) | (have h:=h _ (List.mem_singleton.2 rfl);simp only [iN];rw [kV h]) | (have h:=h _ (List.mem_singleton.2 rfl);simp only [iN,h])
theorem oW {esz:Nat} {a:V} (h : ∀ i∈bL a,getB s2 i=getB s i):cM s2 esz a=cM s esz a:=by
 cases a<;>first | rfl | (rename_i d;cases d<;>rfl) | (have h:=h _ (List.mem_singleton.2 rfl);simp only [cM,h])
theorem oP {esz:Nat} {a:V} {lo hi:Option V} (h : ∀ i∈bL a,getB s2 i=getB s i):dq s2 esz a lo hi=dq s esz a lo hi:=by
 unfold dq
 rw [nQ h]
 cases a<;>first | rfl | (rename_i d;cases d<;>rfl) | (have h:=h _ (List.mem_singleton.2 rfl);simp only [ h])
theorem oS {n esz:Nat} {a:V} {lo hi:Option V} (h : ∀ i∈bL a,getB s2 i=getB s i):iu s2 n esz a lo hi=iu s n esz a lo hi:=by
 unfold iu
 cases a<;>first | rfl | (rename_i d;cases d<;>rfl) | (have h:=h _ (List.mem_singleton.2 rfl);simp only [ h])
theorem mO {esz:Nat} {a i:V} (h : ∀ i∈bL a,getB s2 i=getB s i):dO s2 esz a i=dO s esz a i:=by
 unfold dO
 cases a<;>first | rfl | (rename_i d;cases d<;>rfl) | (have h:=h _ (List.mem_singleton.2 rfl);simp only [];rw [kV h]) | (have h:=h _ (List.mem_singleton.2 rfl);simp only [h])
theorem mE {c:Cmp} {z m k:V} {ok:Bool} (h : ∀ i∈bL m,getB s2 i=getB s i):e9 s2 c z m k ok=e9 s c z m k ok:=by
 unfold e9
 cases m<;>first | rfl | (rename_i d;cases d<;>rfl) | (have h:=h _ (List.mem_singleton.2 rfl);simp only [ h])
section
variable {f g:V->Option (D×List Nat)} {q:Nat->Prop}
theorem bK (hfg : ∀ x d a,f x=some (d,a)->(∀ i∈a,q i)->g x=some (d,a)) : ∀ {xs:List V} {ds:List D} {a:List Nat},aC f xs=some (ds,a)->(∀ i∈a,q i)->aC g xs=some (ds,a)
 | [],ds,a,h,_=>by simpa [aC] using h
 | x::xs,ds,a,h,hq=>by
   simp only [aC] at h ⊢
   split at h<;>try (cases h;done)
   rename_i d a1 ds1 a2 e1 e2
   injection h with h;injection h with h1 h2;subst h1;subst h2
   rw [hfg _ _ _ e1 fun i hi=>hq i (by simp [hi]),bK hfg e2 fun i hi=>hq i (by simp [hi])]
theorem gb (hfg : ∀ x d a,f x=some (d,a)->(∀ i∈a,q i)->g x=some (d,a)) : ∀ {xs:List (List V)} {ds:List D} {a:List Nat},da f xs=some (ds,a)->(∀ i∈a,q i)->da g xs=some (ds,a)
 | [],ds,a,h,_=>by simpa [da] using h
 | x::xs,ds,a,h,hq=>by
   simp only [da] at h ⊢
   split at h<;>try (cases h;done)
   rename_i d a1 ds1 a2 e1 e2
   injection h with h;injection h with h1 h2;subst h1;subst h2
   rw [bK hfg e1 fun i hi=>hq i (by simp [hi]),gb hfg e2 fun i hi=>hq i (by simp [hi])]
end
theorem ke : ∀ (n:Nat) (v:V) (d:D) (a:List Nat),toD s n v=some (d,a)->(∀ i∈a,getB s2 i=getB s i)->toD s2 n v=some (d,a)
 | 0,v,d,a,h,_=>by simp [toD] at h
 | n+1,v,d,a,h,hq=>by
   have ih:=ke n
   cases v with
   | ms id ver off len =>
     simp only [toD] at h ⊢
     split at h<;>try (cases h;done)
     rename_i v ro esz els hb
     split at h<;>try (cases h;done)
     rename_i hc
     simp only [Option.map_eq_some_iff] at h
     obtain ⟨⟨es,b⟩,h,he⟩:=h
     injection he with e1 e2;subst e1;subst e2
     rw [hq id (by simp),hb]
     simp only [hc,and_self,if_true]
     rw [gb (ih · · ·) h fun i hi=>hq i (by simp [hi])];rfl
   | asl id ver i j len =>
     simp only [toD] at h ⊢
     split at h<;>try (cases h;done)
     rename_i v ro esz els hb
     split at h<;>try (cases h;done)
     rename_i cs hcs
     split at h<;>try (cases h;done)
     rename_i hc
     simp only [Option.map_eq_some_iff] at h
     obtain ⟨⟨es,b⟩,h,he⟩:=h
     injection he with e1 e2;subst e1;subst e2
     rw [hq id (by simp),hb]
     simp only [hcs,hc,and_self,if_true]
     rw [bK (ih · · ·) h fun i hi=>hq i (by simp [hi])];rfl
   | ptr id ver i j =>
     simp only [toD] at h ⊢
     split at h<;>try (cases h;done)
     rename_i v ro esz els hb
     split at h<;>try (cases h;done)
     rename_i cs hcs
     split at h<;>try (cases h;done)
     rename_i hc
     simp only [Option.map_eq_some_iff] at h
     obtain ⟨⟨es,b⟩,h,he⟩:=h
     injection he with e1 e2;subst e1;subst e2
     rw [hq id (by simp),hb]
     simp only [hcs,hc,if_true]
     rw [bK (ih · · ·) h fun i hi=>hq i (by simp [hi])];rfl
   | agg cs =>
     simp only [toD,Option.map_eq_some_iff] at h ⊢
     obtain ⟨⟨es,b⟩,h,he⟩:=h
     injection he with e1 e2;subst e1;subst e2
     exact ⟨_,bK (ih · · ·) h hq,rfl⟩
   | tuple cs =>
     simp only [toD,Option.map_eq_some_iff] at h ⊢
     obtain ⟨⟨es,b⟩,h,he⟩:=h
     injection he with e1 e2;subst e1;subst e2
     exact ⟨_,bK (ih · · ·) h hq,rfl⟩
   | func f x y =>
     simp only [toD] at h ⊢
     split at h<;>try (cases h;done)
     rename_i p a1 r a2 e1 e2
     injection h with h;injection h with h1 h2;subst h1;subst h2
     rw [bK (ih · · ·) e1 fun i hi=>hq i (by simp [hi]),bK (ih · · ·) e2 fun i hi=>hq i (by simp [hi])]
   | _=>simpa [toD] using h
theorem cr : ∀ {flags:List Bool} {args as:List V} {a:List Nat},ai s flags args=some (as,a)->(∀ i∈a,getB s2 i=getB s i)->ai s2 flags args=some (as,a)
 | [],[],as,a,h,_=>by simpa [ai] using h
 | _::_,[],as,a,h,_=>by
   have e : ∀ (t:aa) (b:Bool) bs,ai t (b::bs) []=some ([],[]):=fun t b bs=>by cases b<;>rfl
   rw [e] at h ⊢;exact h
 | true::fs,x::xs,as,a,h,hq=>by
   simp only [ai,Option.map_eq_some_iff] at h ⊢
   obtain ⟨⟨ys,b⟩,h,he⟩:=h
   injection he with e1 e2;subst e1;subst e2
   exact ⟨_,cr h hq,rfl⟩
 | [],x::xs,as,a,h,hq=>by
   simp only [ai] at h ⊢
   split at h<;>try (cases h;done)
   rename_i d a1 ys a2 e1 e2
   injection h with h;injection h with h1 h2;subst h1;subst h2
   rw [ke _ _ _ _ e1 fun i hi=>hq i (by simp [hi]),cr e2 fun i hi=>hq i (by simp [hi])]
 | false::fs,x::xs,as,a,h,hq=>by
   simp only [ai] at h ⊢
   split at h<;>try (cases h;done)
   rename_i d a1 ys a2 e1 e2
   injection h with h;injection h with h1 h2;subst h1;subst h2
   rw [ke _ _ _ _ e1 fun i hi=>hq i (by simp [hi]),cr e2 fun i hi=>hq i (by simp [hi])]
theorem fK : ∀ (n:Nat) (todo seen:List Nat),(∀ i∈bp s n todo seen,getB s2 i=getB s i)->aM s2 n todo seen=aM s n todo seen/\bp s2 n todo seen=bp s n todo seen
 | 0,_,_,_=>⟨rfl,rfl⟩
 | n+1,[],_,_=>⟨rfl,rfl⟩
 | n+1,i::todo,seen,h=>by
   simp only [aM,bp] at h ⊢
   split
   · rename_i hc
     rw [if_pos hc] at h
     exact fK n todo seen h
   · rename_i hc
     rw [if_neg hc] at h
     cases hb:getB s i with
     | none =>
       simp only [hb,List.mem_cons,forall_eq_or_imp] at h
       simp only [h.1,hb]
       obtain ⟨a,b⟩:=fK n todo seen h.2
       exact ⟨a,by rw [b]⟩
     | some b =>
       simp only [hb,List.mem_cons,forall_eq_or_imp] at h
       simp only [h.1,hb]
       obtain ⟨a,b⟩:=fK n _ _ h.2
       exact ⟨a,by rw [b]⟩
theorem reach_looked : ∀ (n:Nat) (todo seen:List Nat) (i:Nat),i∈aM s n todo seen->i∈seen\/i∈bp s n todo seen
 | 0,_,_,i,h => .inl (by simpa [aM] using h)
 | n+1,[],_,i,h => .inl (by simpa [aM] using h)
 | n+1,j::todo,seen,i,h=>by
   simp only [aM,bp] at h ⊢
   split at h
   · rename_i hc
     rw [if_pos hc]
     exact reach_looked n todo seen i h
   · rename_i hc
     rw [if_neg hc]
     cases hb:getB s j with
     | none =>
       simp only [hb] at h ⊢
       exact (reach_looked n todo seen i h).imp id fun h=>by simp [h]
     | some b =>
       simp only [hb] at h ⊢
       rcases reach_looked n _ _ i h with h | h
       · simp only [List.mem_append,List.mem_singleton] at h
         exact h.imp id fun h=>by simp [h]
       · exact .inr (by simp [h])
def eM:Blk->Blk
 | .rows v _ e els => .rows v true e els
 | b=>b
theorem pI {id i:Nat} : getB (aq s [id]) i=if i=id then (getB s i).map eM else getB s i:=by
 unfold aq
 simp only [List.foldl_cons,List.foldl_nil]
 split
 · rename_i v ro e els hb
   by_cases hi:i=id
   · subst hi;rw [if_pos rfl,hb];simp only [YtncfpmehhfdipaaGreat.setB];rw [a9 (a8 hb)];rfl
   · rw [if_neg hi];simp only [YtncfpmehhfdipaaGreat.setB];rw [aw hi]
 · rename_i hb
   by_cases hi:i=id
   · subst hi;rw [if_pos rfl]
     cases hq:getB s i with
     | none=>rfl
     | some b=>cases b with
       | rows v ro e els=>exact absurd hq (hb v ro e els)
       | _=>rfl
   · rw [if_neg hi]
theorem eN {ids:List Nat} : ∀ {s:aa} {i:Nat},getB (aq s ids) i=if i∈ids then (getB s i).map eM else getB s i:=by
 induction ids with
 | nil=>intro s i;simp [aq]
 | cons id ids ih =>
   intro s i
   show getB (aq (aq s [id]) ids) i=_
   rw [ih,pI]
   by_cases h1:i=id<;>by_cases h2:i∈ids<;>simp [h1,h2]
   all_goals cases getB s id with
    | none=>simp
    | some b=>cases b<;>simp [eM]
theorem bb {ids:List Nat} : ∀ {s:aa},(aq s ids).length=s.length:=by
 induction ids with
 | nil=>intro s;rfl
 | cons id ids ih =>
   intro s
   rw [fr,ih]
   split<;>simp [YtncfpmehhfdipaaGreat.setB]
theorem Loc.close {ids:List Nat} (h : ∀ i∈ids,s2[i]?=s[i]?):Loc ⟨ids,ids,false⟩ (aq s ids) s2 (aq s2 ids) where
 wr i hi:=by
  have:=b7.1 (h i hi)
  rw [b7,eN,eN,bb,bb,this.1]
  exact ⟨rfl,this.2⟩
 keep i hi:=by
  rw [b7,eN,if_neg hi,bb];exact ⟨rfl,.rfl⟩
 len _:=bb
theorem cz {ids:List Nat} {bs:aa} {m:Nat->Option Nat} : (aj ids bs s m).length=s.length+(bs.length - ids.length):=by
 simp [aj,eC]
def ma (ids:List Nat) (bs:aa) (m:Nat->Option Nat) (i:Nat) (o:Option Blk):Option Blk:=match pos ids i with | some k=>(getB bs k).map (renB m) | none=>o
theorem ra {ids:List Nat} {bs:aa} {m:Nat->Option Nat} {j:Nat} (hn:ids.Nodup) (hl : ∀ i∈ids,i < s.length) (h:ids.length<=bs.length) :
 getB (aj ids bs s m) j=if j < s.length then ma ids bs m j (getB s j) else (getB bs (ids.length+(j - s.length))).map (renB m):=by
 rw [dh hn hl h]
 unfold ma
 cases pos ids j<;>rfl
theorem gP {call:CallSem} {t:Tgt} {flags:List Bool} {args:List V} {r:V} (h:aV call t flags args s=some (r,s')) (hs : ∀ i∈(aB false t flags args s s').rd,s2[i]?=s[i]?) (hl:(aB false t flags args s s').len=true->s2.length=s.length) :
 ∃ s2',aV call t flags args s2=some (r,s2')/\aB false t flags args s2 s2'=aB false t flags args s s'/\Loc (aB false t flags args s s') s' s2 s2':=by
 unfold aV at h
 cases hca:ai s flags args with
 | none=>simp [hca] at h
 | some p =>
   obtain ⟨as,fz⟩:=p
   simp only [hca] at h
   have hfoot:aB false t flags args s s'=⟨fz++bp s (aA s) (aN t++refsL as) [],(fz++bp s (aA s) (aN t++refsL as) [])++List.range' s.length (s'.length - s.length),s'.length != s.length⟩:=by
    unfold aB;rw [hca];rfl
   rw [hfoot] at hs hl ⊢
   generalize hlk:bp s (aA s) (aN t++refsL as) []=lk at hs hl hfoot ⊢
   simp only at hs hl
   have hca2:ai s2 flags args=some (as,fz):=cr hca fun i hi=>eq (hs i (by simp [hi]))
   obtain ⟨hr2,hl2⟩:=fK (s:=s) (s2:=s2) (aA s) (aN t++refsL as) [] fun i hi=>eq (hs i (by rw [hlk] at hi;simp [hi]))
   have hin : ∀ i∈aM s (aA s) (aN t++refsL as) [],i∈lk:=fun i hi=>by
    rcases reach_looked _ _ _ _ hi with h | h
    · simp at h
    · rwa [hlk] at h
   obtain ⟨hnd,hblk⟩:(aM s (aA s) (aN t++refsL as) []).Nodup /\ ∀ i∈aM s (aA s) (aN t++refsL as) [],∃ b,getB s i=some b:=by
    obtain ⟨tt,e1,e2,e3⟩:=dv s (aA s) (aN t++refsL as) []
    exact ⟨e3 (by simp),fun i hi=>e2 i (by rw [e1] at hi;simpa using hi)⟩
   have hcall2 : ∀ s2',aV call t flags args s2=some (r,s2') ↔ dl call t as fz (aM s (aA s) (aN t++refsL as) []) s2=some (r,s2'):=fun s2'=>by
    unfold aV;rw [hca2];simp only;rw [show aA s2=aA s from rfl,hr2]
   have hfoot2 : ∀ s2',aB false t flags args s2 s2'=⟨fz++lk,fz++lk++List.range' s2.length (s2'.length - s2.length),s2'.length != s2.length⟩:=fun s2'=>by
    unfold aB;rw [hca2];simp only [cond_false];rw [show aA s2=aA s from rfl,hl2,hlk]
   generalize hids:aM s (aA s) (aN t++refsL as) []=ids at *
   unfold dl at h
   split at h<;>try (cases h;done)
   rename_i hfz
   split at h<;>try (cases h;done)
   rename_i t' ht'
   split at h<;>try (cases h;done)
   rename_i r0 bs hc
   split at h<;>try (cases h;done)
   rename_i hlen
   injection h with h;injection h with h1 h2
   have hidl : ∀ i∈ids,i < s.length:=fun i hi=>let ⟨b,hb⟩:=hblk i hi;a8 hb
   have hidl2 : ∀ i∈ids,i < s2.length:=fun i hi=>(b7.1 (hs i (by simp [hin i hi]))).2.2 (hidl i hi)
   have hpk:pack s2 ids (pos ids)=pack s ids (pos ids):=jL fun i hi=>eq (hs i (by simp [hin i hi]))
   have hslen:s'.length=s.length+(bs.length - ids.length):=by
    rw [<- h2,cz];split<;>simp [bb]
   have hAB:bs.length=ids.length\/s2.length=s.length:=by
    by_cases hx:bs.length=ids.length
    · exact .inl hx
    · exact .inr (hl (by simp;omega))
   have hback:am ids bs s2.length=am ids bs s.length:=by
    rcases hAB with hx | hx
    · funext i;unfold am
      split
      · rfl
      · rw [if_neg (by omega),if_neg (by omega)]
    · rw [hx]
   refine ⟨aj ids bs (if bg ids bs r0 then s2 else aq s2 fz) (am ids bs s2.length),(hcall2 _).2 ?_,?_,?_⟩
   · unfold dl
     rw [if_pos hfz,ht'];simp only;rw [hpk,hc];simp only;rw [if_pos hlen,hback,h1]
   · have hl2':(aj ids bs (if bg ids bs r0 then s2 else aq s2 fz) (am ids bs s2.length)).length=s2.length+(bs.length - ids.length):=by
      rw [cz];split<;>simp [bb]
     rw [hfoot2,hl2',hslen]
     rcases hAB with hx | hx
     · have:bs.length - ids.length=0:=by omega
       simp [this]
     · rw [hx]
   · have hl2':(aj ids bs (if bg ids bs r0 then s2 else aq s2 fz) (am ids bs s2.length)).length=s2.length+(bs.length - ids.length):=by
      rw [cz];split<;>simp [bb]
     have hS : ∀ (s:aa) (i:Nat),getB (if bg ids bs r0 then s else aq s fz) i=if bg ids bs r0 then getB s i else if i∈fz then (getB s i).map eM else getB s i:=fun s i=>by
      split
      · rfl
      · rw [eN]
     have hSl : ∀ s:aa,(if bg ids bs r0 then s else aq s fz).length=s.length:=fun s=>by split<;>simp [bb]
     have g1 : ∀ i,getB s' i=if i < s.length then ma ids bs (am ids bs s.length) i (if bg ids bs r0 then getB s i else if i∈fz then (getB s i).map eM else getB s i) else (getB bs (ids.length+(i - s.length))).map (renB (am ids bs s.length)):=fun i=>by
      rw [<- h2,ra hnd (by rw [hSl];exact hidl) hlen.1,hSl,hS]
     have g2 : ∀ i,getB (aj ids bs (if bg ids bs r0 then s2 else aq s2 fz) (am ids bs s2.length)) i=if i < s2.length then ma ids bs (am ids bs s.length) i (if bg ids bs r0 then getB s2 i else if i∈fz then (getB s2 i).map eM else getB s2 i) else (getB bs (ids.length+(i - s2.length))).map (renB (am ids bs s.length)):=fun i=>by
      rw [ra hnd (by rw [hSl];exact hidl2) hlen.1,hSl,hS,hback]
     have hnone : ∀ k,bs.length=ids.length->getB bs (ids.length+k)=none:=fun k hx=>by
      unfold getB;rw [List.getElem?_eq_none (by omega)];rfl
     refine ⟨fun i hi => ?_,fun i hi => ?_,fun hx => ?_⟩
     · simp only at hi
       rw [b7,g1,g2,hl2',hslen]
       rw [List.mem_append] at hi
       rcases hi with hi | hi
       · have hh:=b7.1 (hs i hi)
         rcases hAB with hx | hx
         · rw [hnone _ hx,hnone _ hx,hh.1]
           refine ⟨?_,by rw [hx];simp only [Nat.sub_self,Nat.add_zero];exact hh.2⟩
           by_cases a:i < s.length
           · rw [if_pos a,if_pos (hh.2.2 a)]
           · rw [if_neg a,if_neg (fun b=>a (hh.2.1 b))]
         · rw [hx,hh.1];exact ⟨rfl,.rfl⟩
       · simp only [List.mem_range'_1] at hi
         rcases hAB with hx | hx
         · omega
         · rw [hx]
           refine ⟨?_,.rfl⟩
           rw [if_neg (by omega),if_neg (by omega)]
     · simp only [List.mem_append,not_or,List.mem_range'_1] at hi
       rw [b7,g2,hl2']
       have hp:pos ids i=none:=gZ.2 fun h=>hi.1.2 (hin i h)
       simp only [ma,hp,if_neg hi.1.1]
       rcases hAB with hx | hx
       · rw [hnone _ hx,hx]
         refine ⟨?_,by simp⟩
         by_cases a:i < s2.length
         · rw [if_pos a];split<;>rfl
         · rw [if_neg a];simp only [Option.map_none];unfold getB;rw [List.getElem?_eq_none (by omega)];rfl
       · by_cases a:i < s2.length
         · rw [if_pos a];exact ⟨by split<;>rfl,by omega⟩
         · rw [if_neg a]
           have:s.length+(bs.length - ids.length)<=i:=by omega
           refine ⟨?_,by omega⟩
           have e1:getB bs (ids.length+(i - s2.length))=none:=by unfold getB;rw [List.getElem?_eq_none (by omega)];rfl
           rw [e1];unfold getB;rw [List.getElem?_eq_none (by omega)];rfl
     · simp only [bne_eq_false_iff_eq] at hx
       rw [hl2'];omega
theorem kY {ids:List Nat} {i:Nat} (h:i ∉ ef s s' ids) (hi:i∈ids):s'[i]?=s[i]?:=by
 simp only [ef,List.mem_filter,not_and,hi,true_implies,Bool.not_eq_true',Bool.not_eq_false,Bool.and_eq_true] at h
 obtain ⟨⟨h1,h2⟩,h3⟩:=h
 rw [Nat.blt_eq] at h1
 rw [Nat.blt_eq] at h2
 exact b7.2 ⟨(rW h3).symm,by omega⟩
theorem i4 {fine:Bool} {call:CallSem} {t:Tgt} {flags:List Bool} {args:List V} {r:V} (h:aV call t flags args s=some (r,s')) (hs : ∀ i∈(aB fine t flags args s s').rd,s2[i]?=s[i]?) (hl:(aB fine t flags args s s').len=true->s2.length=s.length) :
 ∃ s2',aV call t flags args s2=some (r,s2')/\aB fine t flags args s2 s2'=aB fine t flags args s s'/\Loc (aB fine t flags args s s') s' s2 s2':=by
 cases fine with
 | false=>exact gP h hs hl
 | true =>
   have e0:(aB true t flags args s s').rd=(aB false t flags args s s').rd:=by unfold aB;split<;>rfl
   have e1:(aB true t flags args s s').len=(aB false t flags args s s').len:=by unfold aB;split<;>rfl
   obtain ⟨s2',h1,h2,h3⟩:=gP h (by rw [<- e0];exact hs) (by rw [<- e1];exact hl)
   rw [e0] at hs
   refine ⟨s2',h1,?_⟩
   have hca2:ai s2 flags args=ai s flags args:=by
    unfold aV at h
    cases hca:ai s flags args with
    | none=>simp [hca] at h
    | some q =>
      have:aB false t flags args s s'=⟨q.2++bp s (aA s) (aN t++refsL q.1) [],(q.2++bp s (aA s) (aN t++refsL q.1) [])++List.range' s.length (s'.length - s.length),s'.length != s.length⟩:=by unfold aB;rw [hca];rfl
      rw [this] at hs
      exact cr hca fun i hi=>eq (hs i (by simp [hi]))
   cases hca:ai s flags args with
   | none =>
     have q1:aB true t flags args s s'=aB false t flags args s s':=by unfold aB;rw [hca]
     have q2:aB true t flags args s2 s2'=aB false t flags args s2 s2':=by unfold aB;rw [hca2,hca]
     rw [q1,q2];exact ⟨h2,h3⟩
   | some q =>
     obtain ⟨as,fz⟩:=q
     have f1 : ∀ b,aB b t flags args s s'=⟨fz++bp s (aA s) (aN t++refsL as) [],(bif b then ef s s' (fz++bp s (aA s) (aN t++refsL as) []) else fz++bp s (aA s) (aN t++refsL as) [])++List.range' s.length (s'.length - s.length),s'.length != s.length⟩:=fun b=>by
      unfold aB;rw [hca]
     have f2 : ∀ b,aB b t flags args s2 s2'=⟨fz++bp s2 (aA s2) (aN t++refsL as) [],(bif b then ef s2 s2' (fz++bp s2 (aA s2) (aN t++refsL as) []) else fz++bp s2 (aA s2) (aN t++refsL as) [])++List.range' s2.length (s2'.length - s2.length),s2'.length != s2.length⟩:=fun b=>by
      unfold aB;rw [hca2,hca]
     rw [f1,f2] at h2
     rw [f1] at hs h3
     rw [f1,f2]
     simp only [cond_false,Foot.mk.injEq] at h2
     obtain ⟨g1,g2,g3⟩:=h2
     rw [g1] at g2
     have g4:=List.append_cancel_left g2
     have hall : ∀ i∈fz++bp s (aA s) (aN t++refsL as) [],s2[i]?=s[i]?/\s2'[i]?=s'[i]?:=fun i hi=>⟨hs i hi,h3.wr i (List.mem_append_left _ hi)⟩
     have ht:ef s2 s2' (fz++bp s (aA s) (aN t++refsL as) [])=ef s s' (fz++bp s (aA s) (aN t++refsL as) []):=by
      unfold ef
      refine List.filter_congr fun i hi => ?_
      obtain ⟨a1,a2⟩:=hall i hi
      have b1:=b7.1 a1
      have b2:=b7.1 a2
      have l1:Nat.blt i s2.length=Nat.blt i s.length:=by rw [Bool.eq_iff_iff,Nat.blt_eq,Nat.blt_eq];exact b1.2
      have l2:Nat.blt i s2'.length=Nat.blt i s'.length:=by rw [Bool.eq_iff_iff,Nat.blt_eq,Nat.blt_eq];exact b2.2
      rw [l1,l2,b1.1,b2.1]
     refine ⟨by simp only [cond_true,Foot.mk.injEq];exact ⟨g1,by rw [g1,ht,g4],g3⟩,?_⟩
     simp only [cond_true,cond_false] at h3 ⊢
     refine ⟨fun i hi => ?_,fun i hi => ?_,h3.len⟩
     · rcases List.mem_append.1 hi with hi | hi
       · exact h3.wr i (List.mem_append_left _ (List.mem_filter.1 hi).1)
       · exact h3.wr i (List.mem_append_right _ hi)
     · simp only [List.mem_append,not_or] at hi
       by_cases hm:i∈fz++bp s (aA s) (aN t++refsL as) []
       · obtain ⟨a1,a2⟩:=hall i hm
         rw [a2,kY hi.1 hm,a1]
       · exact h3.keep i (by rw [List.mem_append,not_or];exact ⟨hm,hi.2⟩)
section
variable {call:CallSem} {flags:Nat->List Bool} {base:Nat} {fine:Bool}
theorem tm {id:Nat} {b:Blk} (h:em s id b=some s') (hs:s2[id]?=s[id]?) : ∃ s2',em s2 id b=some s2'/\Loc ⟨[id],[id],false⟩ s' s2 s2':=by
 unfold em at h
 split at h<;>try (cases h;done)
 rename_i hc
 injection h with h;subst h
 have:=b7.1 hs
 refine ⟨s2.set id (some b),?_,.setB hs⟩
 unfold em
 rw [if_pos ⟨this.2.2 hc.1,by rw [this.1];exact hc.2⟩]
theorem Loc.weaken {f:Foot} {id:Nat} {rd:List Nat} {b:Blk} (h:s2[id]?=s[id]?) (hw:id∈f.wr) (hs : ∀ i∈f.wr,s2[i]?=s[i]?) (hl:f.len=false):Loc f (YtncfpmehhfdipaaGreat.setB s id b) s2 (YtncfpmehhfdipaaGreat.setB s2 id b):=by
 have:=Loc.setB (s:=s) (s2:=s2) (b:=b) (rd:=f.rd) h
 refine Loc.more (s:=s) (wr:=[id]) (by rw [hl];exact this) (by simpa using hw) (fun i _ hi => ?_) hs
 exact vO (by simpa using hi)
theorem qL {op:VOp} {r:Res} (h:ae call flags base op e s=some (r,s')) (hs : ∀ i∈(aI fine flags base op e s s').rd,s2[i]?=s[i]?) (hl:(aI fine flags base op e s s').len=true->s2.length=s.length) :
 ∃ s2',ae call flags base op e s2=some (r,s2')/\aI fine flags base op e s2 s2'=aI fine flags base op e s s'/\Loc (aI fine flags base op e s s') s' s2 s2':=by
 have pure : ∀ {x:aa->Option V} {rd:List Nat},((x s).map fun x=>(Res.val x,s))=some (r,s')->x s2=x s -> ∃ s2',((x s2).map fun x=>(Res.val x,s2))=some (r,s2')/\Loc ⟨rd,[],false⟩ s' s2 s2':=fun {x rd} h hx=>by
  simp only [Option.map_eq_some_iff] at h
  obtain ⟨y,h,he⟩:=h
  injection he with e1 e2
  exact ⟨s2,by rw [hx,h,<- e1];rfl,.same⟩
 have fresh : ∀ {slot:Nat} {b:Blk} {v:V},((em s (base+slot) b).map fun s=>(Res.val v,s))=some (r,s')->s2[base+slot]?=s[base+slot]? ->
  ∃ s2',((em s2 (base+slot) b).map fun s=>(Res.val v,s))=some (r,s2')/\Loc ⟨[base+slot],[base+slot],false⟩ s' s2 s2':=fun {slot b v} hh hx=>by
  simp only [Option.map_eq_some_iff] at hh
  obtain ⟨y,hy,he⟩:=hh
  injection he with e1 e2
  rw [e2] at hy
  obtain ⟨s2',q1,q2⟩:=tm hy hx
  exact ⟨s2',by rw [q1,<- e1];rfl,q2⟩
 cases op with
 | fail=>simp [ae] at h
 | mv x=>simp only [ae,aI] at h ⊢;injection h with h;injection h with e1 e2;exact ⟨s2,by rw [e1],by trivial,.same⟩
 | pick c a b =>
   simp only [ae,aI] at h ⊢
   split at h<;>try (cases h;done)
   injection h with h;injection h with e1 e2;exact ⟨s2,by rw [e1],by trivial,.same⟩
 | alloc slot z =>
   simp only [ae,aI,List.mem_singleton,forall_eq] at h hs ⊢
   split at h<;>try (cases h;done)
   rename_i hc
   obtain ⟨s2',q1,q2⟩:=fresh h hs
   exact ⟨s2',by rw [if_pos hc];exact q1,by trivial,q2⟩
 | box slot x =>
   simp only [ae,aI,List.mem_singleton,forall_eq] at h hs ⊢
   split at h<;>try (cases h;done)
   rename_i hc
   obtain ⟨s2',q1,q2⟩:=fresh h hs
   exact ⟨s2',by rw [if_pos hc];exact q1,by trivial,q2⟩
 | build z ps=>obtain ⟨s2',q1,q2⟩:=pure (x:=fun _=>_) h rfl;exact ⟨s2',q1,by trivial,q2⟩
 | bslice esz z n ps =>
   simp only [ae,aI] at h hs hl ⊢
   split at h<;>try (cases h;done)
   rename_i rs hrs
   split at h<;>try (cases h;done)
   rename_i hc
   simp only [Option.map_eq_some_iff] at h
   obtain ⟨⟨es,fz⟩,hr,he⟩:=h
   injection he with e1 e2;subst e2
   simp only [hrs,hr] at hs hl ⊢
   have hr2:sV s2 bB rs=some (es,fz):=gb (ke bB) hr fun i hi=>eq (hs i hi)
   refine ⟨aq s2 fz,?_,?_,.close hs⟩
   · rw [if_pos hc,hr2,<- e1];rfl
   · rw [hr2]
 | load agg n a=>obtain ⟨s2',q1,q2⟩:=pure (x:=fun s=>iM s agg n (ev e a)) h (q5 fun i hi=>eq (hs i hi));exact ⟨s2',q1,by trivial,q2⟩
 | store n a x =>
   simp only [ae,aI,Option.map_eq_some_iff] at h hs hl ⊢
   obtain ⟨y,h,he⟩:=h
   injection he with e1 e2;subst e2;subst e1
   unfold jt at h
   split at h<;>try (cases h;done)
   rename_i id ver i j hx
   simp only [hx,bL,List.mem_singleton,forall_eq] at hs ⊢
   split at h<;>try (cases h;done)
   rename_i v esz els hb
   split at h<;>try (cases h;done)
   rename_i hc
   split at h<;>try (cases h;done)
   rename_i cs hcs
   split at h<;>try (cases h;done)
   rename_i hj
   injection h with h;subst h
   refine ⟨_,⟨_,?_,rfl⟩,trivial,.setB hs⟩
   unfold jt
   simp only [eq hs,hb,hc,hcs,hj,and_self,if_true]
 | nilc x=>obtain ⟨s2',q1,q2⟩:=pure (x:=fun _=>_) h rfl;exact ⟨s2',q1,by trivial,q2⟩
 | bin op c x y=>obtain ⟨s2',q1,q2⟩:=pure (x:=fun _=>_) h rfl;exact ⟨s2',q1,by trivial,q2⟩
 | un op x=>obtain ⟨s2',q1,q2⟩:=pure (x:=fun _=>_) h rfl;exact ⟨s2',q1,by trivial,q2⟩
 | conv k x =>
   simp only [ae,aI] at h ⊢
   split at h<;>try (cases h;done)
   injection h with h;injection h with e1 e2;exact ⟨s2,by rw [e1],by trivial,.same⟩
 | mkslice slot esz bytes z l c =>
   simp only [ae,aI,List.mem_singleton,forall_eq] at h hs ⊢
   split at h<;>try (cases h;done)
   split at h<;>try (cases h;done)
   rename_i hc
   obtain ⟨s2',q1,q2⟩:=fresh h hs
   exact ⟨s2',by rw [if_pos hc];exact q1,by trivial,q2⟩
 | mslice slot esz z n ps =>
   simp only [ae,aI,List.mem_singleton,forall_eq] at h hs ⊢
   split at h<;>try (cases h;done)
   split at h<;>try (cases h;done)
   rename_i hc
   obtain ⟨s2',q1,q2⟩:=fresh h hs
   exact ⟨s2',by rw [if_pos hc];exact q1,by trivial,q2⟩
 | slice esz x lo hi =>
   simp only [ae,aI] at h hs ⊢
   split at h<;>try (cases h;done)
   rename_i hc
   obtain ⟨s2',q1,q2⟩:=pure (x:=fun s=>dq s esz (ev e x) (lo.map (ev e)) (hi.map (ev e))) h (oP fun i hi=>eq (hs i hi))
   exact ⟨s2',by rw [if_pos hc];exact q1,trivial,q2⟩
 | slarr n esz x lo hi =>
   obtain ⟨s2',q1,q2⟩:=pure (x:=fun s=>iu s n esz (ev e x) (lo.map (ev e)) (hi.map (ev e))) h (oS fun i hi=>eq (hs i hi))
   exact ⟨s2',q1,by trivial,q2⟩
 | faddr off x=>obtain ⟨s2',q1,q2⟩:=pure (x:=fun _=>_) h rfl;exact ⟨s2',q1,by trivial,q2⟩
 | iaddrS esz x i =>
   obtain ⟨s2',q1,q2⟩:=pure (x:=fun s=>dO s esz (ev e x) (ev e i)) h (mO fun i hi=>eq (hs i hi))
   exact ⟨s2',q1,by trivial,q2⟩
 | iaddrA n esz x i=>obtain ⟨s2',q1,q2⟩:=pure (x:=fun _=>_) h rfl;exact ⟨s2',q1,by trivial,q2⟩
 | index x i=>obtain ⟨s2',q1,q2⟩:=pure (x:=fun _=>_) h rfl;exact ⟨s2',q1,by trivial,q2⟩
 | indexA n x i=>obtain ⟨s2',q1,q2⟩:=pure (x:=fun _=>_) h rfl;exact ⟨s2',q1,by trivial,q2⟩
 | lookup c z m k ok =>
   obtain ⟨s2',q1,q2⟩:=pure (x:=fun s=>e9 s c z (ev e m) (ev e k) ok) h (mE fun i hi=>eq (hs i hi))
   exact ⟨s2',q1,by trivial,q2⟩
 | mapup c m k x =>
   simp only [ae,aI,Option.map_eq_some_iff] at h hs hl ⊢
   obtain ⟨y,h,he⟩:=h
   injection he with e1 e2;subst e2;subst e1
   unfold jP at h
   split at h<;>try (cases h;done)
   rename_i id kd hx hk
   simp only [hx,bL,List.mem_singleton,forall_eq] at hs ⊢
   split at h<;>try (cases h;done)
   rename_i hself
   split at h<;>try (cases h;done)
   rename_i es hb
   split at h<;>try (cases h;done)
   · rename_i i v hf
     injection h with h;subst h
     refine ⟨_,⟨_,?_,rfl⟩,trivial,.setB hs⟩
     unfold jP
     simp only [eq hs,hb,hk,hself,hf,if_true]
   · rename_i hf
     injection h with h;subst h
     refine ⟨_,⟨_,?_,rfl⟩,trivial,.setB hs⟩
     unfold jP
     simp only [eq hs,hb,hk,hself,hf,if_true]
 | mkmap slot =>
   simp only [ae,aI,List.mem_singleton,forall_eq] at h hs ⊢
   obtain ⟨s2',q1,q2⟩:=fresh h hs
   exact ⟨s2',q1,trivial,q2⟩
 | ext x i =>
   simp only [ae,aI] at h ⊢
   split at h<;>try (cases h;done)
   · obtain ⟨s2',q1,q2⟩:=pure (x:=fun _=>_) h rfl;exact ⟨s2',q1,trivial,q2⟩
   · obtain ⟨s2',q1,q2⟩:=pure (x:=fun _=>_) h rfl;exact ⟨s2',q1,trivial,q2⟩
 | mkfunc f a b=>simp only [ae,aI] at h ⊢;injection h with h;injection h with e1 e2;exact ⟨s2,by rw [e1],by trivial,.same⟩
 | call f args =>
   simp only [ae,aI,Option.map_eq_some_iff] at h hs hl ⊢
   obtain ⟨⟨x,y⟩,h,he⟩:=h
   injection he with e1 e2;subst e2
   obtain ⟨s2',q1,q2,q3⟩:=i4 h hs hl
   exact ⟨s2',⟨_,q1,by rw [<- e1]⟩,q2,q3⟩
 | callv f args =>
   simp only [ae,aI] at h hs hl ⊢
   split at h<;>try (cases h;done)
   rename_i t a b ht
   simp only [ht,Option.map_eq_some_iff] at h hs hl ⊢
   obtain ⟨⟨x,y⟩,h,he⟩:=h
   injection he with e1 e2;subst e2
   obtain ⟨s2',q1,q2,q3⟩:=i4 h hs hl
   exact ⟨s2',⟨_,q1,by rw [<- e1]⟩,q2,q3⟩
 | len c x =>
   simp only [ae,aI] at h hs ⊢
   split at h<;>try (cases h;done)
   rename_i hc
   obtain ⟨s2',q1,q2⟩:=pure (x:=fun s=>(iN s (ev e x)).map fun n=>me n) h (by rw [nQ fun i hi=>eq (hs i hi)])
   exact ⟨s2',by rw [if_pos hc];exact q1,trivial,q2⟩
 | append slot esz bytes x y =>
   simp only [ae,aI,Option.map_eq_some_iff] at h hs hl ⊢
   obtain ⟨⟨v,y1⟩,h,he⟩:=h
   injection he with e1 e2;subst e2;subst e1
   simp only [List.mem_cons,List.mem_append,forall_eq_or_imp] at hs
   have hslot:=hs.1
   have hrows:cM s2 esz (ev e y)=cM s esz (ev e y):=oW fun i hi=>eq (hs.2 i (.inr hi))
   have key : ∃ s2',cT s2 (base+slot) esz bytes (ev e x) (ev e y)=some (v,s2')/\Loc ⟨(base+slot)::(bL (ev e x)++bL (ev e y)),(base+slot)::bL (ev e x),false⟩ y1 s2 s2':=by
    have hall : ∀ i∈(base+slot)::bL (ev e x),s2[i]?=s[i]?:=fun i hi=>by
     rcases List.mem_cons.1 hi with rfl | hi
     · exact hslot
     · exact hs.2 i (.inl hi)
    have same:Loc ⟨(base+slot)::(bL (ev e x)++bL (ev e y)),(base+slot)::bL (ev e x),false⟩ s s2 s2:=⟨hall,fun _ _=>rfl,fun _=>rfl⟩
    have new : ∀ {b:Blk} {u:V} {z:aa},((em s (base+slot) b).map fun s=>(u,s))=some (v,z) -> ∃ s2',((em s2 (base+slot) b).map fun s=>(u,s))=some (v,s2')/\Loc ⟨(base+slot)::(bL (ev e x)++bL (ev e y)),(base+slot)::bL (ev e x),false⟩ z s2 s2':=fun {b u z} h=>by
     simp only [Option.map_eq_some_iff] at h
     obtain ⟨q,h,he⟩:=h
     injection he with e1 e2;subst e2
     have hlen:=b7.1 hslot
     unfold em at h
     split at h<;>try (cases h;done)
     rename_i hc
     injection h with h;subst h
     refine ⟨s2.set (base+slot) (some b),?_,Loc.weaken (rd:=[]) hslot (by simp) hall rfl⟩
     unfold em
     rw [if_pos ⟨hlen.2.2 hc.1,by rw [hlen.1];exact hc.2⟩,<- e1];rfl
    unfold cT at h ⊢
    rw [hrows]
    split at h<;>try (cases h;done)
    rename_i ys hys
    simp only
    split at h<;>try (cases h;done)
    · split at h
      · rename_i hn;rw [if_pos hn]
        injection h with h;injection h with e1 e2;subst e2;exact ⟨s2,by rw [e1],same⟩
      · rename_i hn;rw [if_neg hn]
        split at h<;>try (cases h;done)
        rename_i hc;rw [if_pos hc]
        exact new h
    · split at h
      · rename_i hn;rw [if_pos hn]
        injection h with h;injection h with e1 e2;subst e2;exact ⟨s2,by rw [e1],same⟩
      · rename_i hn;rw [if_neg hn]
        split at h<;>try (cases h;done)
        rename_i hc;rw [if_pos hc]
        exact new h
    · split at h
      · rename_i hn;rw [if_pos hn]
        injection h with h;injection h with e1 e2;subst e2;exact ⟨s2,by rw [e1],same⟩
      · rename_i hn;rw [if_neg hn]
        simp only at h ⊢
        split at h<;>try (cases h;done)
        rename_i hc;rw [if_pos hc]
        exact new h
    · rename_i b ver off len hx
      have hb2:s2[b]?=s[b]?:=hs.2 b (.inl (by simp [hx,bL]))
      rw [eq hb2]
      split at h<;>try (cases h;done)
      rename_i v0 ro n els hb
      split at h<;>try (cases h;done)
      rename_i hc;rw [if_pos hc]
      split at h
      · rename_i hn;rw [if_pos hn]
        injection h with h;injection h with e1 e2;subst e2;exact ⟨s2,by rw [e1],same⟩
      · rename_i hn;rw [if_neg hn]
        split at h<;>try (cases h;done)
        rename_i hd;rw [if_pos hd]
        injection h with h;injection h with e1 e2;subst e2
        exact ⟨_,by rw [e1],Loc.weaken (rd:=[]) hb2 (by simp [hx,bL]) hall rfl⟩
   obtain ⟨s2',q1,q2⟩:=key
   exact ⟨s2',⟨_,q1,rfl⟩,trivial,q2⟩
 | max xs =>
   simp only [ae,aI] at h ⊢
   split at h<;>try (cases h;done)
   obtain ⟨s2',q1,q2⟩:=pure (x:=fun _=>_) h rfl;exact ⟨s2',q1,trivial,q2⟩
 | min xs =>
   simp only [ae,aI] at h ⊢
   split at h<;>try (cases h;done)
   obtain ⟨s2',q1,q2⟩:=pure (x:=fun _=>_) h rfl;exact ⟨s2',q1,trivial,q2⟩
 | clear z x =>
   simp only [ae,aI,Option.map_eq_some_iff] at h hs hl ⊢
   obtain ⟨y,h,he⟩:=h
   injection he with e1 e2;subst e2;subst e1
   have hall : ∀ i∈bL (ev e x),s2[i]?=s[i]?:=hs
   have same:Loc ⟨bL (ev e x),bL (ev e x),false⟩ s s2 s2:=⟨hall,fun _ _=>rfl,fun _=>rfl⟩
   have key : ∃ s2',lZ s2 z (ev e x)=some s2'/\Loc ⟨bL (ev e x),bL (ev e x),false⟩ y s2 s2':=by
    unfold lZ at h ⊢
    split at h<;>try (cases h;done)
    · injection h with h;subst h;exact ⟨s2,rfl,same⟩
    · injection h with h;subst h;exact ⟨s2,rfl,same⟩
    · injection h with h;subst h;exact ⟨s2,rfl,same⟩
    · rename_i id ver off len hx
      have hb2:s2[id]?=s[id]?:=hs id (by simp [hx,bL])
      simp only [eq hb2]
      split at h<;>try (cases h;done)
      rename_i v n els hb
      split at h<;>try (cases h;done)
      rename_i hc
      injection h with h;subst h
      refine ⟨_,if_pos hc,?_⟩
      exact Loc.weaken (rd:=[]) hb2 (by simp [hx,bL]) hall rfl
   obtain ⟨s2',q1,q2⟩:=key
   exact ⟨s2',⟨_,q1,rfl⟩,trivial,q2⟩
end
end Go.Proofs.YtncfpmehhfdipaaGreat
namespace Go.Proofs.YtncfpmehhfdipaaGreat
open Go.RowKit
section
variable {fine:Bool}
variable {call:CallSem} {flags:Nat->List Bool} {base:Nat} {s s' s1 s2:aa} {e e' e1 e2:Env}
theorem kU {g:Option (Nat×Bool)} (h : ∀ t∈(match g with | some (t,_)=>[t] | none=>[]),e2 t=e t):bx g e2=bx g e:=by
 cases g with
 | none=>rfl
 | some g=>obtain ⟨t,w⟩:=g;simp only [List.mem_singleton,forall_eq] at h;simp only [bx,h]
theorem iz {o:VOper} (h:az call flags base o e s=some (e',s')) : ∃ x,e'=put e o.dst x /\ ∀ e2 s2,(∀ t∈jI o,e2 t=e t)->(∀ i∈(footOper fine flags base o e s s').rd,s2[i]?=s[i]?)->((footOper fine flags base o e s s').len=true->s2.length=s.length) ->
 ∃ s2',az call flags base o e2 s2=some (put e2 o.dst x,s2')/\footOper fine flags base o e2 s2 s2'=footOper fine flags base o e s s'/\Loc (footOper fine flags base o e s s') s' s2 s2':=by
 unfold az at h
 split at h<;>try (cases h;done)
 · rename_i hw
   injection h with h;injection h with h1 h2
   refine ⟨cA,h1.symm,fun e2 s2 he _ _ => ?_⟩
   have hw2:bx o.guard e2=some false:=by rw [<- hw];exact kU fun t ht=>he t (List.mem_append_right _ ht)
   refine ⟨s2,?_,?_,?_⟩
   · unfold az;rw [hw2]
   · unfold footOper;rw [hw2,hw]
   · unfold footOper;rw [hw];exact .same
 · rename_i hw
   have key : ∀ r s1,ae call flags base o.op e s=some (r,s1)->s'=s1 -> ∀ e2 s2,(∀ t∈jI o,e2 t=e t)->(∀ i∈(footOper fine flags base o e s s').rd,s2[i]?=s[i]?)->((footOper fine flags base o e s s').len=true->s2.length=s.length) ->
    bx o.guard e2=some true /\ ∃ s2',ae call flags base o.op e2 s2=some (r,s2')/\footOper fine flags base o e2 s2 s2'=footOper fine flags base o e s s'/\Loc (footOper fine flags base o e s s') s' s2 s2':=fun r s1 hr hs e2 s2 he hrd hlen=>by
    subst hs
    have hw2:bx o.guard e2=some true:=by rw [<- hw];exact kU fun t ht=>he t (List.mem_append_right _ ht)
    have hf : ∀ s s',footOper fine flags base o e s s'=aI fine flags base o.op e s s':=fun s s'=>by unfold footOper;rw [hw]
    have hf2 : ∀ s s',footOper fine flags base o e2 s s'=aI fine flags base o.op e s s':=fun s s'=>by
     unfold footOper;rw [hw2];exact (lj (fine:=fine) (call:=call) (s:=s) fun t ht=>he t (List.mem_append_left _ ht)).2
    rw [hf] at hrd hlen ⊢
    obtain ⟨s2',q1,q2,q3⟩:=qL hr hrd hlen
    exact ⟨hw2,s2',by rw [(lj (fine:=fine) (call:=call) (s:=s2) (s':=s2) fun t ht=>he t (List.mem_append_left _ ht)).1];exact q1,by rw [hf2];exact q2,q3⟩
   split at h<;>try (cases h;done)
   · rename_i x s1 hr
     injection h with h;injection h with h1 h2
     refine ⟨x,h1.symm,fun e2 s2 he hrd hlen => ?_⟩
     obtain ⟨hw2,s2',q1,q2,q3⟩:=key _ _ hr h2.symm e2 s2 he hrd hlen
     exact ⟨s2',by unfold az;rw [hw2];simp only [q1],q2,q3⟩
   · rename_i s1 hr
     injection h with h;injection h with h1 h2
     refine ⟨cA,h1.symm,fun e2 s2 he hrd hlen => ?_⟩
     obtain ⟨hw2,s2',q1,q2,q3⟩:=key _ _ hr h2.symm e2 s2 he hrd hlen
     exact ⟨s2',by unfold az;rw [hw2];simp only [q1],q2,q3⟩
theorem lr {dst:Option Nat} {t:Nat} {x:V} (h : ∀ d,dst=some d->t≠d):put e dst x t=e t:=by
 cases dst with
 | none=>rfl
 | some d =>
   have h:=h d rfl
   have:Nat.beq t d=false:=by cases hq:Nat.beq t d with | false=>rfl | true=>exact absurd (Nat.eq_of_beq_eq_true hq) h
   simp only [put,upd,this,cond_false]
theorem s8 {a b:Option Nat} {x y:V} (h : ∀ d,a=some d->b≠some d):put (put e a x) b y=put (put e b y) a x:=by
 cases a with
 | none=>rfl
 | some d =>
   cases b with
   | none=>rfl
   | some d' =>
     have h:d'≠d:=fun hh=>h d rfl (by rw [hh])
     funext t
     simp only [put,upd]
     cases h1:Nat.beq t d<;>cases h2:Nat.beq t d'<;>simp only [cond_false,cond_true]
     exact absurd ((Nat.eq_of_beq_eq_true h2).symm.trans (Nat.eq_of_beq_eq_true h1)) h
theorem gB {l:List Nat} {a:Nat} : (!l.contains a)=true ↔ a ∉ l:=by simp
theorem rX {a b:List Nat} : rY a b=true ↔ ∀ i∈a,i ∉ b:=by simp [rY]
theorem ng {a b:VOper} (h:cJ a b=true):(∀ d,a.dst=some d->d ∉ jI b/\b.dst≠some d) /\ ∀ d,b.dst=some d->d ∉ jI a:=by
 simp only [cJ,Bool.and_eq_true] at h
 constructor
 · intro d hd
   have:=h.1
   rw [hd] at this
   simp only [Bool.and_eq_true,bne_iff_ne] at this
   exact ⟨gB.1 this.1,this.2⟩
 · intro d hd
   have:=h.2
   rw [hd] at this
   exact gB.1 this
theorem lM {a b:Foot} : lN a b=true ↔ ¬ (a.len=true/\b.len=true)/\(∀ i∈a.wr,i ∉ b.rd)/\(∀ i∈a.wr,i ∉ b.wr) /\ ∀ i∈a.rd,i ∉ b.wr:=by
 simp only [lN,Bool.and_eq_true,rX,Bool.not_eq_true',Bool.and_eq_false_iff,and_assoc]
 cases a.len<;>cases b.len<;>simp
theorem amM {y x:VOper} (ht:cJ y x=true) (h1:az call flags base y e s=some (e1,s1)) (h2:az call flags base x e1 s1=some (e2,s2)) (hi:lN (footOper fine flags base y e s s1) (footOper fine flags base x e1 s1 s2)=true) :
 ∃ e1' s1',az call flags base x e s=some (e1',s1')/\footOper fine flags base x e s s1'=footOper fine flags base x e1 s1 s2/\az call flags base y e1' s1'=some (e2,s2)/\footOper fine flags base y e1' s1' s2=footOper fine flags base y e s s1:=by
 obtain ⟨ty,tx⟩:=ng ht
 obtain ⟨il,i1,i2,i3⟩:=lM.1 hi
 obtain ⟨vy,hy,ly⟩:=iz (fine:=fine) h1
 obtain ⟨vx,hx,lx⟩:=iz (fine:=fine) h2
 obtain ⟨sy,y1,y2,y3⟩:=ly e s (fun _ _=>rfl) (fun _ _=>rfl) (fun _=>rfl)
 rw [h1] at y1;injection y1 with y1;injection y1 with _ y1;subst y1
 obtain ⟨sx,x1,x2,x3⟩:=lx e1 s1 (fun _ _=>rfl) (fun _ _=>rfl) (fun _=>rfl)
 rw [h2] at x1;injection x1 with x1;injection x1 with _ x1;subst x1
 generalize footOper fine flags base y e s s1=fy at *
 generalize footOper fine flags base x e1 s1 s2=fx at *
 obtain ⟨s1',p1,p2,p3⟩:=lx e s (fun t ht=>by rw [hy];exact (lr fun d hd he=>(ty d hd).1 (he▸ht)).symm) (fun i hi=>(y3.keep i fun hw=>i1 i hw hi).symm) (fun hl=>by
  have:fy.len=false:=by cases hq:fy.len with | false=>rfl | true=>exact absurd ⟨hq,hl⟩ il
  exact (y3.len this).symm)
 obtain ⟨s2',q1,q2,q3⟩:=ly (put e x.dst vx) s1' (fun t ht=>lr fun d hd he=>tx d hd (he▸ht)) (fun i hi=>p3.keep i fun hw=>i3 i hi hw) (fun hl=>by
  have:fx.len=false:=by cases hq:fx.len with | false=>rfl | true=>exact absurd ⟨hl,hq⟩ il
  exact p3.len this)
 have hs:s2'=s2:=by
  refine List.ext_getElem? fun i => ?_
  by_cases a:i∈fy.wr
  · rw [q3.wr i a,x3.keep i (i2 i a)]
  · rw [q3.keep i a]
    by_cases b:i∈fx.wr
    · exact p3.wr i b
    · rw [p3.keep i b,x3.keep i b,y3.keep i a]
 subst hs
 refine ⟨_,s1',p1,p2,?_,q2⟩
 rw [q1,hx,hy]
 congr 2
 exact s8 fun d hd he=>(ty d he).2 hd
theorem IV : ∀ (A:List VOper) {x:VOper} {B:List VOper} {e:Env} {s:aa} {e':Env} {s':aa} {fA:List Foot} {fx:Foot} {fB:List Foot},bc fine call flags base (A++x::B) e s=some (e',s',fA++fx::fB)->fA.length=A.length ->
 (∀ (k:Nat) a fa,A[k]?=some a->fA[k]?=some fa->cJ a x=true/\lN fa fx=true) -> ∃ e1 s1,az call flags base x e s=some (e1,s1)/\bc fine call flags base (A++B) e1 s1=some (e',s',fA++fB)/\footOper fine flags base x e s s1=fx
 | [],x,B,e,s,e',s',fA,fx,fB,h,hl,_=>by
   have:fA=[]:=List.eq_nil_of_length_eq_zero hl
   subst this
   simp only [List.nil_append,bc] at h ⊢
   split at h<;>try (cases h;done)
   rename_i e1 s1 h1
   simp only [Option.map_eq_some_iff] at h
   obtain ⟨⟨e2,s2,fs⟩,h,he⟩:=h
   injection he with q1 q2;injection q2 with q2 q3;injection q3 with q3 q4
   subst q1;subst q2;subst q4
   exact ⟨e1,s1,h1,h,q3⟩
 | a::A,x,B,e,s,e',s',fA,fx,fB,h,hl,hc=>by
   cases fA with
   | nil=>simp at hl
   | cons fa fA =>
     simp only [List.cons_append,bc] at h ⊢
     split at h<;>try (cases h;done)
     rename_i e1 s1 h1
     simp only [Option.map_eq_some_iff] at h
     obtain ⟨⟨e2,s2,fs⟩,h,he⟩:=h
     injection he with q1 q2;injection q2 with q2 q3;injection q3 with q3 q4
     subst q1;subst q2;subst q4
     obtain ⟨e3,s3,r1,r2,r3⟩:=IV A h (by simpa using hl) fun k a' fa' h1 h2=>hc (k+1) a' fa' (by simpa using h1) (by simpa using h2)
     obtain ⟨c1,c2⟩:=hc 0 a fa rfl rfl
     rw [<- q3,<- r3] at c2
     obtain ⟨e4,s4,t1,t2,t3,t4⟩:=amM c1 h1 r1 c2
     refine ⟨e4,s4,t1,?_,t2.trans r3⟩
     rw [t3]
     simp only [r2,Option.map_some,t4,q3]
theorem eR : ∀ {l:List VOper} {e:Env} {s:aa} {e':Env} {s':aa} {fs:List Foot},bc fine call flags base l e s=some (e',s',fs)->fs.length=l.length
 | [],e,s,e',s',fs,h=>by simp only [bc] at h;injection h with h;injection h with _ h;injection h with _ h;subst h;rfl
 | o::os,e,s,e',s',fs,h=>by
   simp only [bc] at h
   split at h<;>try (cases h;done)
   simp only [Option.map_eq_some_iff] at h
   obtain ⟨⟨e2,s2,fs'⟩,h,he⟩:=h
   injection he with _ he;injection he with _ he;subst he
   simp [eR h]
theorem iP {o:VOper} : (wp o.op=false->(footOper fine flags base o e s s').wr=[]/\(footOper fine flags base o e s s').len=false)/\(wp o.op=false->aaB o.op=false->(footOper fine flags base o e s s').rd=[]):=by
 unfold footOper
 split
 · cases o.op<;>simp [wp,aaB,aI]
 · simp
theorem iy : ∀ {l:List VOper} {e:Env} {s:aa} {e':Env} {s':aa} {fs:List Foot},bc fine call flags base l e s=some (e',s',fs) -> ∀ (k:Nat) f,fs[k]?=some f -> ∃ o e1 s1 s2,l[k]?=some o/\f=footOper fine flags base o e1 s1 s2
 | [],e,s,e',s',fs,h,k,f,hf=>by simp only [bc] at h;injection h with h;injection h with _ h;injection h with _ h;subst h;simp at hf
 | o::os,e,s,e',s',fs,h,k,f,hf=>by
   simp only [bc] at h
   split at h<;>try (cases h;done)
   simp only [Option.map_eq_some_iff] at h
   obtain ⟨⟨e2,s2,fs'⟩,h,he⟩:=h
   injection he with _ he;injection he with _ he;subst he
   cases k with
   | zero=>simp only [List.getElem?_cons_zero] at hf;injection hf with hf;exact ⟨o,_,_,_,rfl,hf.symm⟩
   | succ k=>simpa using iy h k f (by simpa using hf)
theorem lL {a b:VOper} (h:hM a.op b.op=true) {ea eb:Env} {sa sa' sb sb':aa} : lN (footOper fine flags base a ea sa sa') (footOper fine flags base b eb sb sb')=true:=by
 rw [lM]
 simp only [hM,Bool.or_eq_true,Bool.and_eq_true,Bool.not_eq_true'] at h
 obtain ⟨a1,a2⟩:=iP (fine:=fine) (flags:=flags) (base:=base) (o:=a) (e:=ea) (s:=sa) (s':=sa')
 obtain ⟨b1,b2⟩:=iP (fine:=fine) (flags:=flags) (base:=base) (o:=b) (e:=eb) (s:=sb) (s':=sb')
 rcases h with (⟨h1,h2⟩ | ⟨h1,h2⟩) | ⟨h1,h2⟩
 · rw [(a1 h1).1,(a1 h1).2,(b1 h2).1];simp
 · rw [(a1 h1).1,(a1 h1).2,a2 h1 h2];simp
 · rw [(b1 h1).1,(b1 h1).2,b2 h1 h2];simp
end
def jW (o:Oper):List Nat:=(o.after.toList.filter fun e=>Region.binds .any e).map (·.on)
def kO (acc:List Nat) (o:Oper):List Nat:=acc++[(jW o).foldl (fun m j=>m ||| 2 ^ j ||| acc.getD j 0) 0]
theorem anc_fold {acc:List Nat} {k:Nat} : ∀ (l:List Nat) (m:Nat),(l.foldl (fun m j=>m ||| 2 ^ j ||| acc.getD j 0) m).testBit k=true->m.testBit k=true\/k∈l \/ ∃ d∈l,(acc.getD d 0).testBit k=true
 | [],m,h => .inl h
 | j::l,m,h=>by
   rw [List.foldl_cons] at h
   rcases anc_fold l _ h with h | h | ⟨d,h1,h2⟩
   · simp only [Nat.testBit_or,Bool.or_eq_true,Nat.testBit_two_pow,decide_eq_true_eq] at h
     rcases h with (h | h) | h
     · exact .inl h
     · exact .inr (.inl (by simp [h]))
     · exact .inr (.inr ⟨j,by simp,h⟩)
   · exact .inr (.inl (by simp [h]))
   · exact .inr (.inr ⟨d,by simp [h1],h2⟩)
theorem eD (l:List Oper):bP l=l.foldl kO []:=rfl
theorem j7 : ∀ (l:List Oper) (acc:List Nat),(l.foldl kO acc).length=acc.length+l.length
 | [],acc=>rfl
 | o::l,acc=>by rw [List.foldl_cons,j7];simp [kO];omega
theorem pN {S:Nat->Prop} {l:List Oper} (hS : ∀ j o,l[j]?=some o->S j -> ∀ k∈jW o,S k) : ∀ (n:Nat),n<=l.length -> ∀ j,j < n->(∀ o,l[j]?=some o -> ∀ k∈jW o,S k) -> ∀ k,((bP (l.take n)).getD j 0).testBit k=true->S k:=by
 intro n
 induction n with
 | zero=>intro _ j hj;omega
 | succ n ih =>
   intro hn j hj hd k hk
   have hlt:n < l.length:=by omega
   have htake:l.take (n+1)=l.take n++[l[n]]:=by rw [List.take_add_one,List.getElem?_eq_getElem hlt];rfl
   rw [htake,eD,List.foldl_append,List.foldl_cons,List.foldl_nil,<- eD] at hk
   have hlen:(bP (l.take n)).length=n:=by rw [eD,j7];simp;omega
   unfold kO at hk
   by_cases hjn:j < n
   · rw [List.getD_eq_getElem?_getD,List.getElem?_append_left (by omega),<- List.getD_eq_getElem?_getD] at hk
     exact ih (by omega) j hjn hd k hk
   · have:j=n:=by omega
     subst this
     rw [List.getD_eq_getElem?_getD,List.getElem?_append_right (by omega),hlen] at hk
     simp only [Nat.sub_self,List.getElem?_cons_zero,Option.getD_some] at hk
     have hget:l[j]?=some l[j]:=List.getElem?_eq_getElem hlt
     rcases anc_fold _ _ hk with hk | hk | ⟨d,h1,h2⟩
     · simp at hk
     · exact hd _ hget k hk
     · have hSd:=hd _ hget d h1
       by_cases hdn:d < j
       · exact ih (by omega) d hdn (fun o ho=>hS d o ho hSd) k h2
       · rw [List.getD_eq_getElem?_getD,List.getElem?_eq_none (by omega)] at h2;simp at h2
theorem iX {mu:Bool} {P:Program} {tr:FuncId->Option Nat} {all:Array Oper} : ∀ {os:List Oper} {slot:Nat} {k:Nat} {o:Oper},os[k]?=some o -> ∃ slot',(bq P tr mu all slot os).1[k]?=some (compOper P tr mu all slot' o)
 | [],slot,k,o,h=>by simp at h
 | x::os,slot,k,o,h=>by
   rw [dc]
   cases k with
   | zero=>simp only [List.getElem?_cons_zero] at h ⊢;injection h with h;subst h;exact ⟨slot,rfl⟩
   | succ k=>simpa using iX (os:=os) (by simpa using h)
theorem eT {mu:Bool} {P:Program} {tr:FuncId->Option Nat} {all:Array Oper} : ∀ {os:List Oper} {slot:Nat},(bq P tr mu all slot os).1.length=os.length
 | [],slot=>rfl
 | x::os,slot=>by rw [dc];simp [eT]
theorem jQ {feet:List Foot} : ∀ {ps:List (Nat×Nat)},lE feet ps=true -> ∀ i j,(i,j)∈ps -> ∃ a b,feet[i]?=some a/\feet[j]?=some b/\lN a b=true
 | [],_,i,j,h=>by simp at h
 | (a,b)::r,hl,i,j,h=>by
   simp only [lE,Bool.and_eq_true] at hl
   rcases List.mem_cons.1 h with h | h
   · injection h with h1 h2;subst h1;subst h2
     have:=hl.1
     split at this
     · rename_i x y h1 h2;exact ⟨x,y,h1,h2,this⟩
     · cases this
   · exact jQ hl.2 i j h
variable {mu:Bool}
variable {P:Program} {fo:Nat->Option FuncId} {K0:aS} {ρ0:ax} {w0:World} {tr:FuncId->Option Nat} {s0:aa} {call:CallSem} {flags:Nat->List Bool} {base b0 N:Nat} {F:Fence} {ops:Array Oper} {Q:Exit->Act->World->Prop} {e':Env} {s':aa}
theorem rZ {fine mu:Bool} (hF:Open F) (hf:su P fo) (hcall:eE P fo base call) (htr : ∀ g f,tr g=some f->fo f=some g) {vs:List VOper} {feet:List Foot} (hvs : ∀ k o,ops[k]?=some o -> ∃ slot,vs.getD k default=compOper P tr mu ops slot o)
 (hd : ∀ o∈ops.toList,∀ d,o.dst=some d->d < N) (hback:kN ops.toList=true)
 (hun : ∀ i j,i < j->j < ops.size->((bP ops.toList).getD j 0).testBit i≠true->cJ (vs.getD i default) (vs.getD j default)=true/\lN (feet.getD i default) (feet.getD j default)=true)
 (hQ : ∀ a' w',Inv P fo base N K0 ρ0 s0 w0 e' s' a' w'->Q .normal a' w') :
 ∀ (fuel:Nat) (R:List Nat) (listed:Array Bool) (e:Env) (s:aa) (a:Act) (w:World),R.length=fuel->R.Pairwise (· < ·)->(∀ j,j∈R ↔ j < ops.size/\listed.getD j true=false)->listed.size=ops.size ->
   (∀ j o,ops[j]?=some o->j ∉ R -> ∀ k∈jW o,k < ops.size/\k ∉ R)->Inv P fo base N K0 ρ0 s0 w0 e s a w ->
   bc fine call flags b0 (R.map fun i=>vs.getD i default) e s=some (e',s',R.map fun i=>feet.getD i default)->wpAnyIn F 0 P .any ops Q fuel listed a w:=by
 have hempty : ∀ (R:List Nat) (listed:Array Bool),R.Pairwise (· < ·)->(∀ j,j∈R ↔ j < ops.size/\listed.getD j true=false)->listed.size=ops.size->Region.ready .any ops listed=[]->R=[]:=fun R listed hs hR hsz hr=>by
  cases R with
  | nil=>rfl
  | cons r R =>
    exfalso
    obtain ⟨h1,h2⟩:=(hR r).1 (by simp)
    have:r∈Region.ready .any ops listed:=mem_ready.2 ⟨h2,ops[r],Array.getElem?_eq_getElem h1,fun ed hed hb=>by
     have hlt:ed.on < r:=by
      have:=List.all_eq_true.1 hback (ops[r],r) (by rw [List.mem_iff_getElem?];exact ⟨r,by simp [h1]⟩)
      simp only [Array.all_eq_true_iff_forall_mem,Bool.or_eq_true,decide_eq_true_eq] at this
      rcases this ed hed with h | h
      · simp [hb] at h
      · exact h
     have hn:ed.on ∉ r::R:=fun hm=>by
      rcases List.mem_cons.1 hm with h | h
      · omega
      · have:=(List.pairwise_cons.1 hs).1 _ h;omega
     rw [hR] at hn
     have hlt2:ed.on < listed.size:=by omega
     simp only [not_and] at hn
     have:=hn (by omega)
     simp only [Array.getD_eq_getD_getElem?,Array.getElem?_eq_getElem hlt2,Option.getD_some] at this ⊢
     simpa using this⟩
    rw [hr] at this;simp at this
 intro fuel
 induction fuel with
 | zero =>
   intro R listed e s a w hlen hs hR hsz hcl hI h
   have hR0:R=[]:=List.eq_nil_of_length_eq_zero hlen
   subst hR0
   simp only [List.map_nil,bc] at h
   injection h with h;injection h with h1 h2;injection h2 with h2 _;subst h1;subst h2
   refine ⟨?_,hQ _ _ hI⟩
   cases hr:Region.ready .any ops listed with
   | nil=>rfl
   | cons x xs =>
     have hx:x∈Region.ready .any ops listed:=by rw [hr];simp
     obtain ⟨h1,o,ho,_⟩:=mem_ready.1 hx
     have:=(hR x).2 ⟨(Array.getElem?_eq_some_iff.1 ho).1,h1⟩
     simp at this
 | succ fuel ih =>
   intro R listed e s a w hlen hs hR hsz hcl hI h
   refine ⟨fun hr => ?_,fun i hi => ?_⟩
   · have:=hempty R listed hs hR hsz hr
     rw [this] at hlen;simp at hlen
   · obtain ⟨h1,o,ho,hedges⟩:=mem_ready.1 hi
     have hin:i < ops.size:=(Array.getElem?_eq_some_iff.1 ho).1
     have hiR:i∈R:=(hR i).2 ⟨hin,h1⟩
     obtain ⟨A,B,rfl⟩:=List.append_of_mem hiR
     have hdir : ∀ k∈jW o,k < ops.size/\k ∉ A++i::B:=fun k hk=>by
      unfold jW at hk
      simp only [List.mem_map,List.mem_filter] at hk
      obtain ⟨ed,⟨h2,h3⟩,rfl⟩:=hk
      have hl1:=hedges ed (by simpa using h2) h3
      have hlt:ed.on < listed.size:=by
       rcases Nat.lt_or_ge ed.on listed.size with h | h
       · exact h
       · simp [Array.getD_eq_getD_getElem?,Array.getElem?_eq_none h] at hl1
      refine ⟨by omega,fun hm => ?_⟩
      have hl2:=((hR _).1 hm).2
      simp only [Array.getD_eq_getD_getElem?,Array.getElem?_eq_getElem hlt,Option.getD_some] at hl1 hl2
      rw [hl1] at hl2;cases hl2
     have hanc : ∀ k,((bP ops.toList).getD i 0).testBit k=true->k < ops.size/\k ∉ A++i::B:=by
      have:=pN (S:=fun k=>k < ops.size/\k ∉ A++i::B) (l:=ops.toList) (fun j o hj hS=>hcl j o (by simpa using hj) hS.2) ops.toList.length (Nat.le_refl _) i (by simpa using hin) (fun o' ho'=>by
       have:o'=o:=by have:=ho';simp [ho] at this;exact this.symm
       subst this;exact hdir)
      rwa [List.take_length] at this
     rw [List.map_append,List.map_append,List.map_cons,List.map_cons] at h
     have hfr:=IV (A.map fun i=>vs.getD i default) h (by simp) fun k va fa hk hfa=>by
      simp only [List.getElem?_map,Option.map_eq_some_iff] at hk hfa
      obtain ⟨j,hj,rfl⟩:=hk
      obtain ⟨j',hj',rfl⟩:=hfa
      rw [hj] at hj';injection hj' with hj';subst hj'
      have hjA:j∈A:=List.mem_of_getElem? hj
      have hlt:j < i:=(List.pairwise_append.1 hs).2.2 j hjA i (by simp)
      exact hun j i hlt hin fun hc=>(hanc j hc).2 (by simp [hjA])
     obtain ⟨e1,s1,r1,r2,_⟩:=hfr
     obtain ⟨slot,hslot⟩:=hvs i o ho
     rw [hslot] at r1
     refine nv hF hf hcall htr ho (hd o (by simpa using Array.mem_of_getElem? ho)) hI r1 fun a' w' hI' => ?_
     refine ih (A++B) (listed.setIfInBounds i true) e1 s1 a' w' ?_ ?_ (fun j => ?_) (by simp [hsz]) (fun j o' hj hjR => ?_) hI' ?_
     · simp at hlen ⊢;omega
     · exact hs.sublist ((List.Sublist.refl A).append (List.sublist_cons_self i B))
     · have hnd:j∈A++B ↔ j∈A++i::B/\j≠i:=by
        have hp:=List.pairwise_append.1 hs
        constructor
        · intro hj
          refine ⟨?_,?_⟩
          · simp only [List.mem_append,List.mem_cons] at hj ⊢;exact hj.imp id .inr
          · rcases List.mem_append.1 hj with h | h
            · have:=hp.2.2 j h i (by simp);omega
            · have:=(List.pairwise_cons.1 hp.2.1).1 j h;omega
        · rintro ⟨hj,hne⟩
          simp only [List.mem_append,List.mem_cons] at hj ⊢
          rcases hj with h | h | h
          · exact .inl h
          · exact absurd h hne
          · exact .inr h
       rw [hnd,hR]
       constructor
       · rintro ⟨⟨q1,q2⟩,hne⟩
         exact ⟨q1,by rw [getD_set_ne true (Ne.symm hne)];exact q2⟩
       · rintro ⟨q1,q2⟩
         by_cases hji:j=i
         · subst hji
           simp [hsz,hin] at q2
         · exact ⟨⟨q1,by rw [getD_set_ne true (Ne.symm hji)] at q2;exact q2⟩,hji⟩
     · have hsub : ∀ k,k ∉ A++i::B->k ∉ A++B:=fun k hk hm=>hk (by simp only [List.mem_append,List.mem_cons] at hm ⊢;exact hm.imp id .inr)
       intro k hk
       by_cases hji:j=i
       · subst hji
         rw [ho] at hj;injection hj with hj;subst hj
         exact ⟨(hdir k hk).1,hsub k (hdir k hk).2⟩
       · have:=hcl j o' hj (fun hm=>by
          simp only [List.mem_append,List.mem_cons] at hm
          rcases hm with h | h | h
          · exact hjR (by simp [h])
          · exact hji h
          · exact hjR (by simp [h])) k hk
         exact ⟨this.1,hsub k this.2⟩
     · rw [List.map_append,List.map_append];exact r2
theorem eS {α:Type} [Inhabited α] (l:List α):(List.range l.length).map (fun i=>l.getD i default)=l:=by
 refine List.ext_getElem (by simp) fun i h1 h2 => ?_
 simp [List.getD_eq_getElem?_getD,List.getElem?_eq_getElem h2]
theorem Inv.world {e:Env} {s:aa} {a:Act} {w w':World} (h:Inv P fo base N K0 ρ0 s0 w0 e s a w) (hb:Below base w w') (hh:w'.heap=w.heap):Inv P fo base N K0 ρ0 s0 w0 e s a w':=by
 obtain ⟨K,ρ,h1,h2,h3,h4,h5⟩:=h
 have hw:Stp base K ρ s w K ρ s w' := .world hb hh
 exact ⟨K,ρ,h1.world hh,h2.trans hw,h3,h4,h5.step hw⟩
theorem mT (hm:P.follows .mixedOrders=true) (hF:Open F) (hf:su P fo) (hcall:eE P fo base call) (htr : ∀ g f,tr g=some f->fo f=some g):vj P fo base N K0 ρ0 s0 w0 call flags tr F:=by
 intro mu id ops e s a w pairs e' s' Q hback htemps hpairs hd hI h hQ
 subst hpairs
 obtain ⟨fine,e1,s1,feet,hrun,hloose,h1,h2⟩ : ∃ fine e1 s1 feet,bc fine call flags s.length (bq P tr mu ops 0 ops.toList).1 e (s++List.replicate (bq P tr mu ops 0 ops.toList).2 none)=some (e1,s1,feet)/\lE feet (iG (bP ops.toList) (bq P tr mu ops 0 ops.toList).1)=true/\e1=e'/\s1=s':=by
  simp only [bZ] at h
  split at h<;>try (cases h;done)
  rename_i e1 s1 feet hrun
  split at h
  · rename_i hl;injection h with h;injection h with h1 h2;exact ⟨false,e1,s1,feet,hrun,hl,h1,h2⟩
  · split at h<;>try (cases h;done)
    rename_i e2 s2 feet2 hrun2
    split at h<;>try (cases h;done)
    rename_i hl
    injection h with h;injection h with h1 h2;exact ⟨true,e2,s2,feet2,hrun2,hl,h1,h2⟩
 subst h1;subst h2
 refine wpIn_region_any hm ?_
 have hl:=eT (mu:=mu) (P:=P) (tr:=tr) (all:=ops) (os:=ops.toList) (slot:=0)
 have hfl:=eR hrun
 generalize hvs:(bq P tr mu ops 0 ops.toList).1=vs at *
 have hI':Inv P fo base N K0 ρ0 s0 w0 e (s++List.replicate (bq P tr mu ops 0 ops.toList).2 none) a { w with drawn:=w.drawn+1 } := hI.reserve.world (.drew (.refl _ _)) rfl
 have hfuel:(List.range ops.size).length=ops.size:=by simp
 refine rZ (fine:=fine) (mu:=mu) (call:=call) (flags:=flags) (e':=e1) (s':=s1) (vs:=vs) (feet:=feet) (b0:=s.length) hF hf hcall htr (fun k o ho => ?_) hd hback (fun i j hij hj hna => ?_) hQ ops.size (List.range ops.size) _ _ _ a _ hfuel List.pairwise_lt_range (fun j => ?_) (by simp) (fun j o hj hn => ?_) hI' ?_
 · obtain ⟨slot,hs⟩:=iX (mu:=mu) (P:=P) (tr:=tr) (all:=ops) (slot:=0) (os:=ops.toList) (k:=k) (o:=o) (by simpa using ho)
   rw [hvs] at hs
   exact ⟨slot,by simp [List.getD_eq_getElem?_getD,hs]⟩
 · have hlen:vs.length=ops.size:=by simpa using hl
   constructor
   · have:=List.all_eq_true.1 htemps j (by simp [hlen,hj])
     have:=List.all_eq_true.1 this i (by simp [hij])
     simp only [Bool.or_eq_true] at this
     rcases this with h | h
     · exact absurd (by simpa using h) hna
     · exact h
   · have gi : ∀ k,k < ops.size -> ∃ f,feet[k]?=some f/\feet.getD k default=f /\ ∃ e1 s1 s2,f=footOper fine flags s.length (vs.getD k default) e1 s1 s2:=fun k hk=>by
      have hkl:k < feet.length:=by omega
      have hk1:feet[k]?=some feet[k]:=List.getElem?_eq_getElem hkl
      obtain ⟨o,e1,s1,s2,q1,q2⟩:=iy hrun k _ hk1
      exact ⟨_,hk1,by simp [List.getD_eq_getElem?_getD,hk1],e1,s1,s2,by rw [q2];simp [List.getD_eq_getElem?_getD,q1]⟩
     obtain ⟨f1,a1,a2,x1,x2,x3,x4⟩:=gi i (by omega)
     obtain ⟨f2,b1,b2,y1,y2,y3,y4⟩:=gi j hj
     rw [a2,b2]
     by_cases hma:hM (vs.getD i default).op (vs.getD j default).op=true
     · rw [x4,y4];exact lL hma
     · have hp:(i,j)∈iG (bP ops.toList) vs:=by
        unfold iG
        rw [List.mem_flatMap]
        refine ⟨j,by simp [hlen,hj],List.mem_map.2 ⟨i,List.mem_filter.2 ⟨by simp [hij],?_⟩,rfl⟩⟩
        simp only [Bool.and_eq_true,Bool.not_eq_true']
        refine ⟨by simpa using hna,by simpa using hma⟩
       obtain ⟨u,v,u1,v1,hi⟩:=jQ hloose i j hp
       rw [a1] at u1;injection u1 with u1;subst u1
       rw [b1] at v1;injection v1 with v1;subst v1
       exact hi
 · rw [List.mem_range]
   constructor
   · intro hj;exact ⟨hj,by simp [hj]⟩
   · exact (·.1)
 · have:=(Array.getElem?_eq_some_iff.1 hj).1
   simp [List.mem_range] at hn;omega
 · have e1:(List.range ops.size).map (fun i=>vs.getD i default)=vs:=by
    have hlen:vs.length=ops.size:=by simpa using hl
    rw [<- hlen];exact eS vs
   have e2:(List.range ops.size).map (fun i=>feet.getD i default)=feet:=by
    have hlen:feet.length=ops.size:=by rw [hfl];simpa using hl
    rw [<- hlen];exact eS feet
   rw [e1,e2];exact hrun
end Go.Proofs.YtncfpmehhfdipaaGreat
namespace Go.Proofs.YtncfpmehhfdipaaGreat
open Go.RowKit
variable {mu:Bool}
variable {P:Program} {fo:Nat->Option FuncId} {K K0:aS} {ρ ρ0:ax} {w w0:World} {tr:FuncId->Option Nat} {base N:Nat} {s s' s0:aa}
theorem RS.junk {o:Obj} (h:RS P fo base K ρ s w):RS P fo base K ρ s (w.alloc o)/\Stp base K ρ s w K ρ s (w.alloc o):=by
 have hold : ∀ B,B < w.heap.size->(w.alloc o).heap[B]?=w.heap[B]?:=fun B hB=>Below.heap_alloc _ _ _ hB
 refine ⟨⟨fun B o' v hv => ?_,fun j b hj => ?_,h.inj,?_,h.one⟩,⟨fun _ _ _ h=>h,.refl,(Below.refl _ _).alloc h.base o,fun B hB _=>hold B hB,fun j b hj _=>⟨j,b,hj,rfl⟩,fun B o v h h' _=>by rw [h] at h';cases h'⟩⟩
 · obtain ⟨c,t,z,h1,h2⟩:=h.known B o' v hv
   exact ⟨c,t,z,(hold B (Array.getElem?_eq_some_iff.1 h1).1).trans h1,h2⟩
 · obtain ⟨h1,h2⟩:=h.blk j b hj
   exact ⟨h1.mono (fun _ _ _ h=>h) .refl (hold _ h1.lt) (fun h=>h),h2⟩
 · have:=h.base;simp;omega
theorem q6 {e:Env} {live:List Nat} {t:Nat} {x:V} (h:(t,x)∈lives e live):x=e t:=by
 simp only [lives,List.mem_map] at h
 obtain ⟨u,_,h⟩:=h
 injection h with h1 h2;rw [<- h2,h1]
theorem qu {st:LoopState} (h:sI st≠1):st ≠ .busy:=by rintro rfl;exact h rfl
variable {call:CallSem} {flags:Nat->List Bool} {F:Fence}
theorem kx (hf:su P fo) (hcall:eE P fo base call) (htr : ∀ g f,tr g=some f->fo f=some g):sf P fo base N K0 ρ0 s0 w0 call flags tr F:=by
 intro mu f ps ca cb la lb live e s a w out e' s' Q hFw hdst hna hnb hI h hQ
 subst hFw
 obtain ⟨K,ρ,hS,hT,hE,hN,hds⟩:=hI
 simp only [b8,Bool.and_eq_true,List.all_eq_true,decide_eq_true_eq] at hdst
 obtain ⟨⟨hps,hda⟩,hdb⟩:=hdst
 simp only [dL] at h
 split at h<;>try (cases h;done)
 rename_i g xa xb htgt
 split at h<;>try (cases h;done)
 rename_i r s2 hcallout
 split at h<;>try (cases h;done)
 rename_i st j env' ps' a' b' hb2
 split at h<;>try (cases h;done)
 rename_i hst
 have hq:RV fo K ρ (vo s) (ev e (opd tr f)) (a.eval f):=eJ htr hE f
 have hfun : ∃ gid va vb,fo g=some gid/\a.eval f = .func (.func gid) va vb/\RVs fo K ρ (vo s) xa va.toList/\RVs fo K ρ (vo s) xb vb.toList:=by
  generalize hv:a.eval f=vf at hq
  generalize hx:ev e (opd tr f)=q at hq htgt
  cases q with
  | d z =>
    cases z with
    | func k p q =>
      simp only [target] at htgt
      injection htgt with ht;injection ht with t1 t2;injection t2 with t2 t3;subst t2;subst t3;injection t1 with t1;subst t1
      cases hq with | d _ _ hq =>
      cases hq with | func _ g _ _ va vb hk h1 h2 =>
      exact ⟨g,va,vb,hk,rfl,.of_d h1,.of_d h2⟩
    | _=>simp [target] at htgt
  | func k p q =>
    simp only [target] at htgt
    injection htgt with ht;injection ht with t1 t2;injection t2 with t2 t3;subst t2;subst t3;injection t1 with t1;subst t1
    cases hq with | func _ g _ _ va vb hk h1 h2 =>
    exact ⟨g,va,vb,hk,rfl,h1,h2⟩
  | yield id=>simp only [target] at htgt;injection htgt with ht;injection ht with t1 t2;cases t1
  | _=>simp [target] at htgt
 obtain ⟨gid,va,vb,hgo,hev,hva,hvb⟩:=hfun
 refine wpIn_rangeFunc fun fn hfn => ?_
 obtain ⟨w1,hw1⟩ : ∃ w1,w.alloc (.deferred (some []))=w1:=⟨_,rfl⟩
 have hsz1:w1.heap.size=w.heap.size+1:=by rw [<- hw1];simp
 obtain ⟨hS1,hT1⟩:=hS.junk (o := .deferred (some []))
 rw [hw1] at hS1 hT1
 obtain ⟨L,hL⟩ : ∃ L:Loop,L = { state := .ready,pending:=none,fn,tmps:=a.tmps,params:=ps,assign:=ca,body:=cb,defers:=w.heap.size } := ⟨_,rfl⟩
 have hset:(s++List.replicate 1 none).set s.length (some (Blk.loop 0 .none (lives e live) ps.toList (compCode P tr mu ca la).1 (compCode P tr mu cb lb).1))=s++[some (.loop 0 .none (lives e live) ps.toList (compCode P tr mu ca la).1 (compCode P tr mu cb lb).1)]:=by
  simp [List.set_append]
 have hidl:s.length < (s++List.replicate 1 none).length:=by simp
 have hidn:getB (s++List.replicate 1 none) s.length=none:=by rw [bz];unfold getB;simp
 have hLat:Later ρ (placed ρ s.length w1.heap.size 0) (vo (s++List.replicate 1 none)) (vo ((s++List.replicate 1 none).set s.length (some (Blk.loop 0 .none (lives e live) ps.toList (compCode P tr mu ca la).1 (compCode P tr mu cb lb).1)))) := .new hidl hidn
 have hnew:=RS.new (size:=0) (o := .loop L) (hS1.reserve (n:=1)) hidl hidn
  (b := .loop 0 .none (lives e live) ps.toList (compCode P tr mu ca la).1 (compCode P tr mu cb lb).1)
  (RBlk.loop 0 .none _ ps.toList _ _ w1.heap.size 0 L N (World.alloc_heap_new w1 _) (by rw [hL];rfl) (by rw [hL];rfl)
   (fun t x hx=>by
    rw [q6 hx,hL]
    exact (hE t).mono (fun _ _ _ h=>h) (by rw [<- ck (n:=1)];exact hLat))
   (by rw [hL]) ⟨tr,la,mu,htr,by rw [hL],hda,hna⟩ ⟨tr,lb,mu,htr,by rw [hL],hdb,hnb⟩ (by rw [hL];exact hN) (fun t ht=>by rw [hL];exact Nat.lt_of_lt_of_le (hps t ht) hN)
   (fun o=>by
    cases hk:K w1.heap.size o with
    | none=>rfl
    | some u =>
      obtain ⟨c,t,z,h1,_⟩:=hS1.known _ _ _ hk
      have:=(Array.getElem?_eq_some_iff.1 h1).1
      omega))
 rw [hset] at hnew
 obtain ⟨hS2,hT2⟩:=hnew
 have hT12:=(hT1.trans (Stp.reserve (n:=1))).trans hT2
 obtain ⟨ρ2,hρ2⟩ : ∃ ρ2,placed ρ s.length w1.heap.size 0=ρ2:=⟨_,rfl⟩
 rw [hρ2] at hS2 hT2 hT12
 have hplace:(ρ2 s.length).1=w.heap.size+1:=by rw [<- hρ2];simp [placed,hsz1]
 generalize hs1:s++[some (Blk.loop 0 .none (lives e live) ps.toList (compCode P tr mu ca la).1 (compCode P tr mu cb lb).1)]=s1 at *
 have hvo:vo s1 s.length=some (0,0):=by rw [<- hs1];simp [vo,getB]
 have hargs:RVs fo K ρ2 (vo s1) (xa++[.yield s.length]++xb) (va++(#[Value.func (.yield (w.heap.size+1)) #[] #[]]:Array Value)++vb).toList:=by
  simp only [Array.toList_append]
  refine ((hva.mono hT12.known hT12.later).append (.cons _ _ _ _ ?_ .nil)).append (hvb.mono hT12.known hT12.later)
  rw [<- hplace];exact .yield s.length 0 hvo
 have hc:=eB hcall hS2 hargs hcallout gid hgo
 refine ⟨w.heap.size+1,[{ target := .collected w.heap.size,args := #[] }],w1.alloc (.loop L),{ target := .fn (.func gid) vb,args:=va ++ #[Value.func (.yield (w.heap.size+1)) #[] #[]] },w1.alloc (.loop L),gid,
  va ++ #[Value.func (.yield (w.heap.size+1)) #[] #[]]++vb,w1.alloc (.loop L),?_,?_,?_,?_,fun hh => ?_,?_⟩
 · have:=run_enterLoop_outer (P:=P) (w:=w) fn a.tmps ps ca cb
   rw [hL,<- hw1];exact this
 · simp only [resolve,hev,Deferred.ofValue,Sem.run_pure]
   simp [go_sem]
 · intro f' _;trivial
 · simp only [invoke];exact gx hf hgo _
 · simp [Fence.wide] at hh
 · refine hc.mono fun en w3 hd => ?_
   obtain ⟨v,K3,ρ3,rfl,hS3,hT3,_⟩:=hd
   obtain ⟨v',q1,q2,q3,q4⟩:=hT3.later s.length 0 0 hvo
   have hpl:(ρ3 s.length).1=w.heap.size+1:=by rw [q3 (q4 rfl).symm,hplace]
   obtain ⟨hblk,hbs⟩:=hS3.blk _ _ hb2
   rw [vo] at q1
   simp only [hb2] at q1
   generalize hpp:ρ3 s.length=pp at hblk hpl hbs
   cases hblk with
   | loop _ _ _ _ _ _ B size l N' c1 c2 c3 c4 c5 c6 c7 c8 c9 c10 =>
     simp only at hpl
     subst hpl
     have hbusy:l.state ≠ .busy:=qu (by rw [c2];exact hst)
     have hend:=run_endLoop (P:=P) c1 hbusy
     have hlt:w.heap.size+1 < w3.heap.size:=(Array.getElem?_eq_some_iff.1 c1).1
     have hw:=RS.write (w':=w3.putObj (w.heap.size+1) (.loop { l with state := .exhausted })) (b := .loop 3 j env' ps' a' b') (v0:=0) (v1:=0) (e:=0) hS3 hb2 (by simp [vo,hb2]) rfl (Nat.le_refl _) (fun _=>rfl)
      (by rw [hpp];exact c10)
      (by rw [hpp];exact ⟨rfl,rfl,rfl,by simp,fun k hk=>World.putObj_heap_other (by omega)⟩)
      (by rw [hpp];exact fun B hB=>World.putObj_heap_other hB) (by simp)
      (by
       rw [hpp]
       refine .loop 3 j env' ps' a' b' _ _ { l with state := .exhausted } N' (World.putObj_heap_same hlt) rfl c3 (fun t x hx=>(c4 t x hx).mono (fun _ _ _ h=>h) ?_) c5 c6 c7 c8 c9 c10
       intro id v e hv
       refine ⟨v,?_,Nat.le_refl _,fun _=>rfl,fun _=>rfl⟩
       rw [cC (a8 hb2)]
       by_cases hid:id=s.length
       · subst hid;simpa [vo,hb2] using hv
       · rw [if_neg hid];exact hv)
     obtain ⟨hS4,hT4⟩:=hw
     have hTall:=hT12.trans (hT3.trans hT4)
     have hI':Inv P fo base N K0 ρ0 s0 w0 e (setB s2 s.length (.loop 3 j env' ps' a' b')) { a with defers := { target := .collected w.heap.size,args := #[] } :: a.defers } (w3.putObj (w.heap.size+1) (.loop { l with state := .exhausted })):=by
      refine ⟨K3,ρ3,hS4,hT.trans hTall,hE.mono hTall.known hTall.later,hN,?_⟩
      have hm:Marks w0 ρ s w1 ({ target := .collected w.heap.size,args := #[] } :: a.defers):=by
       obtain ⟨bs,b1,b2,b3⟩:=hds.step hT1
       obtain ⟨bs0,d1,d2,d3⟩:=hds
       have hbs0 : ∀ b∈bs,b < w.heap.size:=fun b hb=>by
        have hbb:bs=bs0:=by
         have e : ∀ (x y:List Nat),x.map (fun b=>({ target := .collected b,args := #[] } : Deferred))=y.map (fun b => { target := .collected b,args := #[] })->x=y:=fun x y h =>
          (List.map_inj_right fun a b h=>by injection h with h _;injection h).1 h
         exact e _ _ (b1.symm.trans d1)
        rw [hbb] at hb
        exact (Array.getElem?_eq_some_iff.1 (d3 b hb).2.1).1
       refine ⟨w.heap.size::bs,by rw [b1];rfl,List.nodup_cons.2 ⟨fun hb=>absurd (hbs0 _ hb) (by omega),b2⟩,fun b hb => ?_⟩
       rcases List.mem_cons.1 hb with rfl | hb
       · refine ⟨hT.below.size,by rw [<- hw1];exact World.alloc_heap_new w _,fun id blk hid he => ?_⟩
         have:=(hS.blk id blk hid).1.lt
         omega
       · exact b3 b hb
      have hT2':Stp base K ρ s w1 K ρ2 s1 (w1.alloc (.loop L)):=Stp.reserve.trans hT2
      exact (hm.step hT2').step (hT3.trans hT4)
     refine ⟨l.pending,_,hend,?_⟩
     cases j with
     | none =>
       simp only [fO] at c3
       rw [c3] at hI' ⊢
       simp only at h ⊢
       injection h with h;injection h with h1 h2;injection h2 with h2 h3;subst h1;subst h2;subst h3
       exact hQ _ _ hI'
     | exit x =>
       simp only [fO] at c3
       rw [c3] at hI' ⊢
       simp only at h ⊢
       injection h with h;injection h with h1 h2;injection h2 with h2 h3;subst h1;subst h2;subst h3
       exact wpIn_exit (hQ _ _ hI')
     | ret =>
       simp only [fO] at c3
       rw [c3] at hI' ⊢
       simp only at h ⊢
       injection h with h;injection h with h1 h2;injection h2 with h2 h3;subst h1;subst h2;subst h3
       exact wpIn_ret (hQ _ _ hI')
end Go.Proofs.YtncfpmehhfdipaaGreat
