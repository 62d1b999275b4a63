/- Modules in general: the numbers of the draws. -/
import Derived.Test.YtncfpmehhfdipaaGreatA08
import Derived.Test.YtncfpmehhfdipaaGreatA10
import Derived.Test.YtncfpmehhfdipaaGreatA09
import Derived.Test.YtncfpmehhfdipaaGreatA06
set_option linter.unusedSimpArgs false
set_option linter.unusedVariables false
set_option linter.unnecessarySimpa false
namespace Go.Proofs.YtncfpmehhfdipaaGreat
open Go.IntWalk
attribute [local irreducible] au
set_option maxHeartbeats 4000000
set_option maxRecDepth 100000
theorem lO {k:Nat} {live:List Nat} {code:VCode} {K:List Fr} {Q:Out->Env->aa->Prop} {vs vs':List V} {s s':aa} (h:ah VP k live code vs' s' K Q) (he:vs=vs') (hs:s=s'):ah VP k live code vs s K Q:=by subst he;subst hs;exact h
def pR (b:Nat):List D->V
 | [] => .nils
 | _::l => .ms b l.length 0 (l.length+1)
def oh (esz:Nat):List D->aa
 | []=>[]
 | x::l=>[some (.rows l.length false esz (ao (x::l)))]
theorem qN (l:List D) (x:D):ao (l++[x])=ao l++[x.cells.map V.d]:=by simp [ao]
theorem ga (l:List D):(ao l).take l.length=ao l:=List.take_of_length_le (by rw [av];exact Nat.le_refl _)
theorem od (b:Nat) (x:D) (l:List D) (y:D):pR b (x::l++[y]) = .ms b (l.length+1) 0 (l.length+1+1):=by simp [pR]
theorem uA (esz:Nat) (x:D) (l:List D) (y:D):oh esz (x::l++[y])=[some (.rows (l.length+1) false esz (ao (x::l)++[y.cells.map V.d]))]:=by
 rw [<- qN]
 simp [oh]
mutual
def Cm.num:Cm->Nat->Cm×Nat
 | .mk k v s f t a b g o,n=>(.mk k v (if k=2 then n else 0) f t (Cm.nums a (if k=2 then n+1 else n)).1 (Cm.nums b (Cm.nums a (if k=2 then n+1 else n)).2).1 g o,(Cm.nums b (Cm.nums a (if k=2 then n+1 else n)).2).2)
def Cm.nums:List Cm->Nat->List Cm×Nat
 | [],n=>([],n)
 | c::l,n=>((c.num n).1::(Cm.nums l (c.num n).2).1,(Cm.nums l (c.num n).2).2)
end
theorem e7 (l m:List Cm) : ∀ n,Cm.nums (l++m) n=((Cm.nums l n).1++(Cm.nums m (Cm.nums l n).2).1,(Cm.nums m (Cm.nums l n).2).2):=by
 induction l with
 | nil=>intro n;simp [Cm.nums]
 | cons c l ih=>intro n;rw [List.cons_append,Cm.nums,ih];simp [Cm.nums]
theorem iJ {l:List Cm} {i:Nat} (h:i < l.length) (n:Nat):Cm.nums (l.take (i+1)) n=((Cm.nums (l.take i) n).1++[(l[i].num (Cm.nums (l.take i) n).2).1],(l[i].num (Cm.nums (l.take i) n).2).2):=by
 rw [List.take_succ_eq_append_getElem h,e7];simp [Cm.nums]
theorem db (l:List Cm) : ∀ n,(Cm.nums l n).1.length=l.length:=by
 induction l with
 | nil=>intro n;rfl
 | cons c l ih=>intro n;simp [Cm.nums,ih]
mutual
theorem num_le : ∀ (c:Cm) (n:Nat),(c.num n).2<=n+c.cnt
 | .mk k v s f t a b g o,n=>by
   have h1:=nums_le a (if k=2 then n+1 else n)
   have h2:=nums_le b (Cm.nums a (if k=2 then n+1 else n)).2
   simp only [Cm.num,Cm.cnt]
   split at h1<;>rename_i hk<;>simp only [hk,if_true,if_false] at h2 ⊢ <;> omega
theorem nums_le : ∀ (l:List Cm) (n:Nat),(Cm.nums l n).2<=n+Cm.cnts l
 | [],n=>by simp [Cm.nums]
 | c::l,n=>by
   have h1:=num_le c n
   have h2:=nums_le l (c.num n).2
   simp only [Cm.nums,Cm.cnts];omega
end
end Go.Proofs.YtncfpmehhfdipaaGreat
namespace Go.Proofs.YtncfpmehhfdipaaGreat
open Go.IntWalk
attribute [local irreducible] au
set_option maxHeartbeats 4000000
set_option maxRecDepth 100000
theorem n6 (l:List Cm):(l.map Cm.d).all bJ=true:=by
 induction l with
 | nil=>rfl
 | cons c l ih =>
   obtain ⟨k,v,s,f,t,a,b,g,o⟩:=c
   rw [List.map_cons,List.all_cons,ih,Cm.d_eq];rfl
theorem nK {s:aa} {t:List (Option (List Nat))} (h:tab s=t) (n:Nat) (todo seen:List Nat):aM s n todo seen=cD t n todo seen:=by rw [cO,h]
theorem ns {s:aa} {id ver k esz:Nat} {ro:Bool} {es:List D} {x:Int} (hb:getB s id=some (.rows ver ro (esz+1) (ao es))) (hk:k=es.length) (ho:es.all bJ=true):toD s bB (.tuple [.ms id ver 0 k,.d (.int .i64 x)])=some (.tuple [.slice es,.int .i64 x],[id]):=by
 have h1:toD s 29 (.ms id ver 0 k)=some (.slice es,[id]):=jr (n:=27) hb hk ho
 show (aC (toD s 29) [.ms id ver 0 k,.d (.int .i64 x)]).map (fun (es,a)=>(D.tuple es,a))=_
 simp only [aC,h1]
 rfl
theorem mw (es:List D) (k:Nat) (cs:List D):eO ((ao es).take k++[cs.map V.d])=[]:=by
 have h:(ao es).take k++[cs.map V.d]=ao (es.take k)++[cs.map V.d]:=by simp [ao]
 rw [h]
 have h2 : ∀ l:List D,eO (ao l++[cs.map V.d])=[]:=by
  intro l
  induction l with
  | nil=>simp only [ao,List.map_nil,List.nil_append,eO,iC]
  | cons x l ih=>simp only [ao,List.map_cons,List.cons_append,eO,iC,List.nil_append] at ih ⊢;exact ih
 exact h2 _
theorem uU (m:Nat->Option Nat) (es:List D) (k:Nat) (cs:List D):((ao es).take k++[cs.map V.d]).map (renL m)=(ao es).take k++[cs.map V.d]:=by
 have h:renB m (.rows 0 false 1 ((ao es).take k++[cs.map V.d])) = .rows 0 false 1 ((ao es).take k++[cs.map V.d]):=kv (by simp [du,mw])
 injection h
theorem pc {W:List (List D)} {n0:Nat} : ∀ (h:Nat) (l:List Cm),h<=4->(∀ c∈l,Ok n0 W h c)->l.length<=8 -> ∀ n:Nat,n+Cm.cnts l<=100000->Ret VP (.fn 28) [.d (.slice (l.map Cm.d)),.d (.int .i64 n),.d (.bool true)] [] (.d (.tuple [.slice ((Cm.nums l n).1.map Cm.d),.int .i64 ((Cm.nums l n).2:Nat)])) []:=by
 have hnil : ∀ n:Nat,Ret VP (.fn 28) [.d (.slice (([]:List Cm).map Cm.d)),.d (.int .i64 n),.d (.bool true)] [] (.d (.tuple [.slice ((Cm.nums [] n).1.map Cm.d),.int .i64 ((Cm.nums [] n).2:Nat)])) []:=by
  intro n
  refine ret_of rfl rfl (r0 ?_)
  refine Z2 ?_
  rfl
 intro h
 induction h with
 | zero=>intro l _ hl _ n _;rw [b5 hl];exact hnil n
 | succ h ih =>
   intro l hh hl h8 n hn
   by_cases h0:l=[]
   · subst h0;exact hnil n
   refine ret_of rfl rfl (r0 ?_)
   refine Z1 ?_
   refine af rfl ?_
   refine cB (fun i=>[.d (.slice (l.map Cm.d)),.d (.int .i64 ((Cm.nums (l.take i) n).2:Nat)),.d (.bool true),pR 0 ((Cm.nums (l.take i) n).1.map Cm.d),.d (.int .i64 i)]) (fun i=>oh 23 ((Cm.nums (l.take i) n).1.map Cm.d)) l.length (fun i hi hnx => ?_) ?_
   · have hwi:=ac i (by omega)
     have hst:=iJ hi n
     have hle:=nums_le (l.take i) n
     have hlen:=db (l.take i) n
     have hct:=cu l i
     have ht:=dd (g:=Cm.d) hi
     rw [List.length_take,Nat.min_eq_left (by omega)] at hlen
     simp only [hst] at hnx
     generalize Cm.nums (l.take i) n=x at hnx hle hlen ⊢
     obtain ⟨r,m⟩:=x
     dsimp only at hnx hle hlen ⊢
     rcases hc:l[i] with ⟨k,v,s,f,t,a,b,g,o⟩
     have hg:=bH hi hc
     have hok:=hc▸hl _ (List.getElem_mem hi)
     have hv:=hok.view
     rw [hc] at hnx
     have hwm:IntKind.i64.wrap ((m:Int)+1)=((m+1:Nat):Int):=ac m (by omega)
     have hk:k=2\/(k==2)=false/\k≠2:=by cases hok<;>simp
     have hs2:=fR hi
     have hs3:=cu l (i+1)
     rw [hc,Cm.cnt] at hs2
     have hroom:au (r.length+1) 376=true:=by rw [au,Bool.and_eq_true,decide_eq_true_eq,decide_eq_true_eq];omega
     cases r with
     | nil =>
       unfold ah
       rcases hk with rfl | ⟨hk,hk'⟩
       · have hna:=nums_le a (m+1)
         have h1:=ih a (by omega) hv.ca (by have:=hv.ha;omega) (m+1) (by omega)
         have h2:=ih b (by omega) hv.cb (by have:=hv.hb;omega) (Cm.nums a (m+1)).2 (by omega)
         rw [<- hwm] at h1
         refine Z1r ?_
         refine af rfl (lO hnx ?_ ?_)
         · rw [hwi];rfl
         · simp only [List.map_append,List.map_cons,List.map_nil,List.nil_append,Cm.num,Cm.d_eq]
           rfl
       · have hna:=nums_le a m
         have h1:=ih a (by omega) hv.ca (by have:=hv.ha;omega) m (by omega)
         have h2:=ih b (by omega) hv.cb (by have:=hv.hb;omega) (Cm.nums a m).2 (by omega)
         refine Z1 ?_
         refine af rfl (lO hnx ?_ ?_)
         · rw [hwi];simp only [Cm.num,if_neg hk'];rfl
         · simp only [List.map_append,List.map_cons,List.map_nil,List.nil_append,Cm.num,if_neg hk',Cm.d_eq]
           rfl
     | cons q r =>
       have e0:((q::r).map Cm.d).length=(r.map Cm.d).length+1:=rfl
       have hle2:(r.map Cm.d).length+1<=(ao ((q::r).map Cm.d)).length:=by rw [av];simp
       rw [List.length_cons,<- List.length_map (f:=Cm.d)] at hroom
       have hV : ∀ c:Cm,pR 0 ((q::r++[c]).map Cm.d) = .ms 0 ((r.map Cm.d).length+1) 0 ((r.map Cm.d).length+1+1):=fun c=>by rw [List.map_append,List.map_cons,List.map_cons,List.map_nil,od]
       have hS : ∀ c:Cm,oh 23 ((q::r++[c]).map Cm.d)=[some (.rows ((r.map Cm.d).length+1) false 23 (ao ((q::r).map Cm.d)++[c.d.cells.map V.d]))]:=fun c=>by rw [List.map_append,List.map_cons,List.map_cons,List.map_nil,uA]
       unfold ah
       rcases hk with rfl | ⟨hk,hk'⟩
       · have hna:=nums_le a (m+1)
         have h1:=ih a (by omega) hv.ca (by have:=hv.ha;omega) (m+1) (by omega)
         have h2:=ih b (by omega) hv.cb (by have:=hv.hb;omega) (Cm.nums a (m+1)).2 (by omega)
         rw [<- hwm] at h1
         refine Z3r ?_
         refine oam rfl rfl rfl hle2 rfl rfl hroom rfl ?_
         refine Z3r ?_
         refine hdp (s1:=[some (.rows ((r.map Cm.d).length+1) false 23 ((ao ((q::r).map Cm.d)).take ((r.map Cm.d).length+1)++[(cmD 2 v m f t ((Cm.nums a (m+1)).1.map Cm.d) ((Cm.nums b (Cm.nums a (m+1)).2).1.map Cm.d) (g.map Fo.d) (o.map oD)).cells.map V.d]))]) (ids:=[0]) rfl ((fP (t:=[some [],some [],none]) ?_ 0 _).trans rfl) rfl ?_ (lO hnx ?_ ?_)
         · exact congrArg (fun z=>[some z,some [],none]) (mw _ _ (cmD 2 v m f t ((Cm.nums a (m+1)).1.map Cm.d) ((Cm.nums b (Cm.nums a (m+1)).2).1.map Cm.d) (g.map Fo.d) (o.map oD)).cells)
         · exact congrArg (fun z=>[some (Blk.rows ((r.map Cm.d).length+1) false 23 z)]) (uU _ _ _ (cmD 2 v m f t ((Cm.nums a (m+1)).1.map Cm.d) ((Cm.nums b (Cm.nums a (m+1)).2).1.map Cm.d) (g.map Fo.d) (o.map oD)).cells)
         · exact vc rfl (vc (by simp only [Cm.num];rfl) (vc rfl (vc (hV _).symm (vc (dI hwi) rfl))))
         · rw [hS,<- e0,ga];simp only [Cm.num,Cm.d_eq];try rfl
       · have hna:=nums_le a m
         have h1:=ih a (by omega) hv.ca (by have:=hv.ha;omega) m (by omega)
         have h2:=ih b (by omega) hv.cb (by have:=hv.hb;omega) (Cm.nums a m).2 (by omega)
         refine Z3r ?_
         refine oam rfl rfl rfl hle2 rfl rfl hroom rfl ?_
         refine Z3r ?_
         refine hdp (s1:=[some (.rows ((r.map Cm.d).length+1) false 23 ((ao ((q::r).map Cm.d)).take ((r.map Cm.d).length+1)++[(cmD k v 0 f t ((Cm.nums a m).1.map Cm.d) ((Cm.nums b (Cm.nums a m).2).1.map Cm.d) (g.map Fo.d) (o.map oD)).cells.map V.d]))]) (ids:=[0]) rfl ((fP (t:=[some [],some [],none]) ?_ 0 _).trans rfl) rfl ?_ (lO hnx ?_ ?_)
         · exact congrArg (fun z=>[some z,some [],none]) (mw _ _ (cmD k v 0 f t ((Cm.nums a m).1.map Cm.d) ((Cm.nums b (Cm.nums a m).2).1.map Cm.d) (g.map Fo.d) (o.map oD)).cells)
         · exact congrArg (fun z=>[some (Blk.rows ((r.map Cm.d).length+1) false 23 z)]) (uU _ _ _ (cmD k v 0 f t ((Cm.nums a m).1.map Cm.d) ((Cm.nums b (Cm.nums a m).2).1.map Cm.d) (g.map Fo.d) (o.map oD)).cells)
         · exact vc rfl (vc (by simp only [Cm.num,if_neg hk'];rfl) (vc rfl (vc (hV _).symm (vc (dI hwi) rfl))))
         · rw [hS,<- e0,ga];simp only [Cm.num,if_neg hk',Cm.d_eq];try rfl
   · have hf:=de (g:=Cm.d) (l:=l)
     rw [List.take_length]
     have hlen:=db l n
     generalize Cm.nums l n=x at hlen ⊢
     obtain ⟨r,m⟩:=x
     dsimp only at hlen ⊢
     cases r with
     | nil=>exact (h0 (List.length_eq_zero_iff.1 hlen.symm)).elim
     | cons q r =>
       unfold ah
       refine Z3r ?_
       have hk:=n6 (q::r)
       refine ez (xs:=[.ms 0 (r.map Cm.d).length 0 ((r.map Cm.d).length+1),.d (.int .i64 m)]) (ids:=[]) rfl (ns (es:=(q::r).map Cm.d) rfl (by simp) hk) rfl rfl rfl
theorem Jw (cs:List Ce) (hcs : ∀ c∈cs,c.Ok) (h4:cs.length<=4) : ∀ (h:Nat) (l:List Cm),(∀ c∈l,Ok cs.length W0 h c)->l.length<=8->Ret VP (.fn 85) [.d (scR 0 cs),.d (.slice (l.map Cm.d))] [] (.d (.bool true)) []:=by
 have hnil:Ret VP (.fn 85) [.d (scR 0 cs),.d (.slice (([]:List Cm).map Cm.d))] [] (.d (.bool true)) []:=by
  refine ret_of rfl rfl (r0 ?_)
  refine Z2 ?_
  rfl
 intro h
 induction h with
 | zero=>intro l hl _;rw [b5 hl];exact hnil
 | succ h ih =>
   have hcmd : ∀ c,Ok cs.length W0 (h+1) c->Ret VP (.fn 132) [.d (scR 0 cs),.d c.d] [] (.d (.bool true)) []:=by
    intro c hc
    have hun:=sD hc
    cases hc with
    | set o f ho hf =>
      have h1:=IR 0 cs h4 [o] (by simpa using ho) (.inl ⟨o,rfl⟩)
      have h2:=nV 0 cs hcs f hf.1
      refine ret_of rfl rfl (r0 ?_)
      refine Z2 ?_
      rfl
    | set2 o u f g ho hu hou hf hg =>
      have h1:=IR 0 cs h4 [o,u] (by simp;exact ⟨ho,hu⟩) (.inr ⟨o,u,rfl,hou⟩)
      have h2:=nV 0 cs hcs f hf.1
      have h3:=nV 0 cs hcs g hg.1
      refine ret_of rfl rfl (r0 ?_)
      refine Z2 ?_
      rfl
    | draw v s lo w hv hs hw h1 h2 =>
      have h3:=Jh cs lo h1 h2 w hw
      obtain ⟨c,hok,hg⟩:=nZ hcs hv
      have t1:¬ (v:Int) < 0:=by omega
      have t2:¬ ((v:Int)>=(((cs.map Ce.d).length:Nat):Int)):=by rw [List.length_map];omega
      rcases hok with rfl | ⟨u,u',rfl,_⟩
      all_goals (refine ret_of rfl rfl (r0 ?_);(have hz1:=decide_eq_false t1;have hz2:=decide_eq_false t2;refine Z2 ?_);rfl)
    | iff f a b hf ha hb ca cb =>
      have h1:=pU 0 cs hcs f hf.1
      have h2:=ih a ca (by omega)
      have h3:=ih b cb (by omega)
      rw [Cm.d_eq] at hun ⊢
      refine ret_of rfl rfl (r0 ?_)
      refine Z2 ?_
      rfl
    | obs f hf =>
      have h1:=pU 0 cs hcs f hf.1
      refine ret_of rfl rfl (r0 ?_)
      refine Z2 ?_
      rfl
    | cut =>
      refine ret_of rfl rfl (r0 ?_)
      refine Z2 ?_
      rfl
   intro l hl h8
   refine ret_of rfl rfl (r0 ?_)
   refine Z1 ?_
   refine af rfl ?_
   refine cB (fun i=>[.d (scR 0 cs),.d (.slice (l.map Cm.d)),.d (.int .i64 i)]) (fun _=>[]) l.length (fun i hi hn => ?_) ?_
   · have hwi:=ac i (by omega)
     rcases hc:l[i] with ⟨k,v,s,f,t,a,b,g,o⟩
     have hg:=bH hi hc
     have h1:=hcmd _ (hc▸hl _ (List.getElem_mem hi))
     rw [Cm.d_eq] at h1
     have ht:=dd (g:=Cm.d) hi
     unfold ah
     refine Z1 ?_
     rw [hwi]
     exact af rfl hn
   · have hf:=de (g:=Cm.d) (l:=l)
     unfold ah
     refine Z1 ?_
     rfl
structure GoodM (cs:List Ce) (l:List Cm) (os:List Nat) (es:List Ce):Prop where
 h1:1<=cs.length
 h4:cs.length<=4
 hcs : ∀ c∈cs,c.Ok
 hl : ∀ c∈l,Ok cs.length W0 4 c
 h8:l.length<=8
 hr:Outs cs os es
 hd:(Cm.nums l 0).2<=64
theorem sv {cs:List Ce} {l:List Cm} {os:List Nat} {es:List Ce} (G:GoodM cs l os es) (t:Ty):Ret VP (.fn 47) [.d (moD 0 cs l os t)] [] (.d (.bool true)) []:=by
 have h1:=IX (cs:=cs) G.h4 (by omega) G.hl G.h8
 have h2:=sj (by omega) G.hl G.h8
 have b1:=bU (by omega) G.hl G.h8
 have b2:=fV (by omega) G.hl G.h8
 have h3:=vu 4 l G.hl G.h8 200000 (by omega) (by omega)
 have t1:((Cm.cnts l:Nat):Int)<=2000:=by omega
 have t2:((Cm.tots l:Nat):Int)<=200000:=by omega
 refine ret_of rfl rfl (r0 ?_)
 (have hz3:=decide_eq_true t1;have hz4:=decide_eq_true t2;refine Z2 ?_)
 exact fe rfl (dB (decide_eq_true t2)) rfl
theorem kS {cs:List Ce} {l:List Cm} {os:List Nat} {es:List Ce} (G:GoodM cs l os es):Ret VP (.fn 48) [.d (moD 0 cs l os (dY es))] [] (.d (.bool true)) []:=by
 have h1:=xq cs G.hcs G.h4
 have h2:=sX 0 cs l os es G.hr
 have h3:=Jw cs G.hcs G.h4 4 l G.hl G.h8
 refine ret_of rfl rfl (r0 ?_)
 refine Z2 ?_
 rfl
theorem oJ {cs:List Ce} {l:List Cm} {os:List Nat} {es:List Ce} (G:GoodM cs l os es):Ret VP (.fn 27) [.d (moD 0 cs l os (dY es))] [] (.d (.int .i64 0)) []:=by
 have h1:=sv G (dY es)
 have h2:=kS G
 refine ret_of rfl rfl (r0 ?_)
 refine Z2 ?_
 rfl
theorem nO {cs:List Ce} {l:List Cm} {os:List Nat} {es:List Ce} (G:GoodM cs l os es):Ret VP (.fn 15) [.d (moD 0 cs l os (dY es))] [] (.d (.tuple [moD 0 cs (Cm.nums l 0).1 os (dY es),.int .i64 0])) []:=by
 have h1:=oJ G
 have b1:=bU (by omega) G.hl G.h8
 have h2:=pc 4 l (by omega) G.hl G.h8 0 (by omega)
 have t1:¬ (((Cm.nums l 0).2:Nat):Int) > 64:=by have:=G.hd;omega
 refine ret_of rfl rfl (r0 ?_)
 (have hz5:=decide_eq_false t1;refine Z2 ?_)
 rfl
theorem ut (c:Ce) (h:c.Ok):Ret VP (.fn 134) [.d c.d] [] (.d (.bool true)) []:=by
 rcases h with rfl | ⟨lo,hi,rfl,h1,h2,h3,h4⟩
 · refine ret_of rfl rfl (r0 ?_)
   refine Z2 ?_
   rfl
 · have t1:(-1000:Int)<=lo:=by omega
   have t2:lo<=hi:=by omega
   have t3:hi<=1000:=by omega
   refine ret_of rfl rfl (r0 ?_)
   (have hz1:=decide_eq_true t1;have hz2:=decide_eq_true t2;have hz3:=decide_eq_true t3;refine Z2 ?_)
   exact fe rfl (dB (decide_eq_true t3)) rfl
theorem xr (c:Ce) (h:c.Ok):Ret VP (.fn 133) [.d c.d] [] (.d (.bool false)) []:=by
 have h1:=ut c h
 refine ret_of rfl rfl (r0 ?_)
 refine Z2 ?_
 rfl
theorem Im (c:Ce) (h:c.Ok):Ret VP (.fn 32) [.d c.d] [] (.d (.bool false)) []:=by
 rcases h with rfl | ⟨lo,hi,rfl,_⟩
 all_goals (refine ret_of rfl rfl (r0 ?_);refine Z2 ?_;rfl)
theorem tI (l:List Ce) (h8:l.length<=8) (hF : ∀ c∈l,c.Ok):Ret VP (.fn 60) [.d (.slice (l.map Ce.d)),.d (.func 133 [] [])] [] (.d (.int .i64 (-1))) []:=by
 refine ret_of rfl rfl (r0 ?_)
 refine Z1 ?_
 refine af rfl ?_
 refine cB (fun i=>[.d (.slice (l.map Ce.d)),.d (.func 133 [] []),.d (.int .i64 ((l.map Ce.d).length:Nat)),.d (.int .i64 i)]) (fun _=>[]) l.length (fun i hi hn => ?_) ?_
 · have hwi:=ac i (by omega)
   have h1:=xr l[i] (hF _ (List.getElem_mem hi))
   have hg:(l.map Ce.d)[i]?=some (Ce.d l[i]):=by rw [List.getElem?_map,List.getElem?_eq_getElem hi];rfl
   have ht:=dd (g:=Ce.d) hi
   unfold ah
   refine Z1 ?_
   rw [hwi]
   exact af rfl hn
 · have hf:=de (g:=Ce.d) (l:=l)
   unfold ah
   refine Z1 ?_
   rfl
theorem tJ (l:List Ce) (h8:l.length<=8) (hF : ∀ c∈l,c.Ok):Ret VP (.fn 31) [.d (.slice (l.map Ce.d)),.d (.func 133 [] [])] [] (.d (.bool false)) []:=by
 have h:=tI l h8 hF
 refine ret_of rfl rfl (r0 ?_)
 refine Z1 ?_
 rfl
theorem wK (l:List Ce) (h8:l.length<=8) (hF : ∀ c∈l,c.Ok):Ret VP (.fn 60) [.d (.slice (l.map Ce.d)),.d (.func 32 [] [])] [] (.d (.int .i64 (-1))) []:=by
 refine ret_of rfl rfl (r0 ?_)
 refine Z1 ?_
 refine af rfl ?_
 refine cB (fun i=>[.d (.slice (l.map Ce.d)),.d (.func 32 [] []),.d (.int .i64 ((l.map Ce.d).length:Nat)),.d (.int .i64 i)]) (fun _=>[]) l.length (fun i hi hn => ?_) ?_
 · have hwi:=ac i (by omega)
   have h1:=Im l[i] (hF _ (List.getElem_mem hi))
   have hg:(l.map Ce.d)[i]?=some (Ce.d l[i]):=by rw [List.getElem?_map,List.getElem?_eq_getElem hi];rfl
   have ht:=dd (g:=Ce.d) hi
   unfold ah
   refine Z1 ?_
   rw [hwi]
   exact af rfl hn
 · have hf:=de (g:=Ce.d) (l:=l)
   unfold ah
   refine Z1 ?_
   rfl
theorem wN (l:List Ce) (h8:l.length<=8) (hF : ∀ c∈l,c.Ok):Ret VP (.fn 31) [.d (.slice (l.map Ce.d)),.d (.func 32 [] [])] [] (.d (.bool false)) []:=by
 have h:=wK l h8 hF
 refine ret_of rfl rfl (r0 ?_)
 refine Z1 ?_
 rfl
theorem rO (cs:List Ce) (h : ∀ c∈cs,c.Ok) (h4:cs.length<=4):Ret VP (.fn 93) [.d (.slice (cs.map Ce.d))] [] (.d (.bool true)) []:=by
 have h1:=tJ cs (by omega) h
 refine ret_of rfl rfl (r0 ?_)
 refine Z1 ?_
 rfl
theorem abG (l:List Ce) (h8:l.length<=8):Ret VP (.fn 136) [.d (.slice (l.map Ce.d)),.d (.slice (l.map Ce.d))] [] (.d (.bool true)) []:=by
 have t:((((l.map Ce.d).length:Nat):Int) != (((l.map Ce.d).length:Nat):Int))=false:=by simp
 refine ret_of rfl rfl (r0 ?_)
 refine Z1 ?_
 refine af rfl ?_
 refine cB (fun i=>[.d (.slice (l.map Ce.d)),.d (.slice (l.map Ce.d)),.d (.int .i64 ((l.map Ce.d).length:Nat)),.d (.int .i64 i)]) (fun _=>[]) l.length (fun i hi hn => ?_) ?_
 · have hwi:=ac i (by omega)
   have hg:(l.map Ce.d)[i]?=some (Ce.d l[i]):=by rw [List.getElem?_map,List.getElem?_eq_getElem hi];rfl
   have ht:=dd (g:=Ce.d) hi
   have h1:=rP l[i]
   unfold ah
   refine Z1 ?_
   rw [hwi]
   exact af rfl hn
 · have hf:=de (g:=Ce.d) (l:=l)
   unfold ah
   refine Z1 ?_
   rfl
theorem oY (p:Nat) (cs:List Ce) (l:List Cm) (os:List Nat) (es:List Ce) (hr:Outs cs os es):Ret VP (.fn 94) [.d (moD p cs l os (dY es))] [] (.d (.bool true)) []:=by
 have h1:=aaP es hr.h0 hr.h4 hr.ok
 rw [<- uL] at h1
 have h2:=abG es (by have:=hr.h4;omega)
 have h3:=IL cs os hr.lt (by rw [hr.hl];have:=hr.h4;omega)
 have hl:=hr.hl
 have hget : ∀ i (h:i < os.length) (h':i < es.length),(cs.map Ce.d)[os[i]]?=some (Ce.d es[i]):=fun i h h'=>by rw [List.getElem?_map,hr.get i h h'];rfl
 match os,es,hl,hr.h0,hr.h4,h1,h2,h3,hget with
 | [],[],_,h0,_,_,_,_,_=>exact absurd rfl h0
 | [o],[a],_,_,_,h1,h2,h3,hget =>
   have g0:(cs.map Ce.d)[o]?=some (Ce.d a):=hget 0 (by simp) (by simp)
   refine ret_of rfl rfl (r0 ?_)
   refine Z2 ?_
   rfl
 | [o,u],[a,b],_,_,_,h1,h2,h3,hget =>
   have g0:(cs.map Ce.d)[o]?=some (Ce.d a):=hget 0 (by simp) (by simp)
   have g1:(cs.map Ce.d)[u]?=some (Ce.d b):=hget 1 (by simp) (by simp)
   refine ret_of rfl rfl (r0 ?_)
   refine Z2 ?_
   rfl
 | [o,u,v],[a,b,c],_,_,_,h1,h2,h3,hget =>
   have g0:(cs.map Ce.d)[o]?=some (Ce.d a):=hget 0 (by simp) (by simp)
   have g1:(cs.map Ce.d)[u]?=some (Ce.d b):=hget 1 (by simp) (by simp)
   have g2:(cs.map Ce.d)[v]?=some (Ce.d c):=hget 2 (by simp) (by simp)
   refine ret_of rfl rfl (r0 ?_)
   refine Z2 ?_
   rfl
 | [o,u,v,w],[a,b,c,d],_,_,_,h1,h2,h3,hget =>
   have g0:(cs.map Ce.d)[o]?=some (Ce.d a):=hget 0 (by simp) (by simp)
   have g1:(cs.map Ce.d)[u]?=some (Ce.d b):=hget 1 (by simp) (by simp)
   have g2:(cs.map Ce.d)[v]?=some (Ce.d c):=hget 2 (by simp) (by simp)
   have g3:(cs.map Ce.d)[w]?=some (Ce.d d):=hget 3 (by simp) (by simp)
   refine ret_of rfl rfl (r0 ?_)
   refine Z2 ?_
   rfl
 | _::_::_::_::_::_,_::_::_::_::_::_,_,_,h4,_,_,_,_=>simp at h4
theorem v7:Ret VP (.fn 172) [.d Di.z.d] [] (.d (.bool true)) []:=by
 have hb:=bS
 refine ret_of rfl rfl (r0 ?_)
 refine Z2 ?_
 rfl
theorem v8 (lo:Int) (w:List D):Ret VP (.fn 172) [.d (Di.tab lo w).d] [] (.d (.bool false)) []:=by
 refine ret_of rfl rfl (r0 ?_)
 refine Z2 ?_
 rfl
theorem lV (cs:List Ce) (hcs : ∀ c∈cs,c.Ok) (h4:cs.length<=4) : ∀ (h:Nat) (l:List Cm),(∀ c∈l,Ok cs.length W0 h c)->l.length<=8->Ret VP (.fn 95) [.d (scP 0 cs),.d (.slice (l.map Cm.d))] [] (.d (.bool true)) []:=by
 have hz:=v6
 have hz2:=v7
 have hnil : ∀ l:List Cm,l.length<=8->(∀ c∈l,Ret VP (.fn 138) [.d (scP 0 cs),.d c.d] [] (.d (.bool true)) [])->Ret VP (.fn 95) [.d (scP 0 cs),.d (.slice (l.map Cm.d))] [] (.d (.bool true)) []:=by
  intro l h8 hF
  have hc:=wP [.int .i64 0,.slice (cs.map Ce.d),.slice [],.int .i64 0,.bool true] l h8 fun c hm=>by
   have h1:=hF c hm
   obtain ⟨k,v,s,f,t,a,b,g,o⟩:=c
   rw [Cm.d_eq] at h1 ⊢
   refine ret_of rfl rfl (r0 ?_)
   refine Z2 ?_
   rfl
  refine ret_of rfl rfl (r0 ?_)
  refine Z1 ?_
  rfl
 intro h
 induction h with
 | zero=>intro l hl h8;exact hnil l h8 fun c hc=>(gf (hl c hc)).elim
 | succ h ih =>
   intro l hl h8
   refine hnil l h8 fun c hm => ?_
   have hc:=hl c hm
   cases hc with
   | set o f ho hf =>
     have h1:=IL cs [o] (by simpa using ho) (by simp)
     have h2:=hU 0 cs hcs f hf.1
     have h3:=abI o (by omega)
     refine ret_of rfl rfl (r0 ?_)
     refine Z2 ?_
     rfl
   | set2 o u f g ho hu hou hf hg =>
     have h1:=IL cs [o,u] (by simp;exact ⟨ho,hu⟩) (by simp)
     have h2:=hU 0 cs hcs f hf.1
     have h3:=hU 0 cs hcs g hg.1
     have h5:=abH o u (by omega) (by omega) hou
     refine ret_of rfl rfl (r0 ?_)
     refine Z2 ?_
     rfl
   | draw v s lo w hv hs hw h1 h2 =>
     obtain ⟨c,hok,hg⟩:=nZ hcs hv
     have h3:=ud cs c hok lo h1 h2 w hw
     have h5:=IL cs [v] (by simpa using hv) (by simp)
     have h6:=v8 lo w
     refine ret_of rfl rfl (r0 ?_)
     refine Z2 ?_
     rfl
   | iff f a b hf ha hb ca cb =>
     have h1:=ls 0 cs hcs f hf.1
     have h2:=ih a ca (by omega)
     have h3:=ih b cb (by omega)
     have h5:=qV _ f hf.1
     have q1 : ∀ x:Bool,x=x:=fun _=>rfl
     rw [Cm.d_eq]
     refine ret_of rfl rfl (r0 ?_)
     refine Z2 ?_
     rfl
   | obs f hf =>
     have h1:=ls 0 cs hcs f hf.1
     have h5:=qV _ f hf.1
     refine ret_of rfl rfl (r0 ?_)
     refine Z2 ?_
     rfl
   | cut =>
     refine ret_of rfl rfl (r0 ?_)
     refine Z2 ?_
     rfl
theorem ot {cs:List Ce} {l:List Cm} {os:List Nat} {es:List Ce} (G:GoodM cs l os es):Ret VP (.fn 56) [.d (moD 0 cs l os (dY es))] [] (.d (.bool true)) []:=by
 have h1:=rO cs G.hcs G.h4
 have h2:=oY 0 cs l os es G.hr
 have h3:=lV cs G.hcs G.h4 4 l G.hl G.h8
 refine ret_of rfl rfl (r0 ?_)
 refine Z2 ?_
 rfl
theorem ee {cs:List Ce} {l:List Cm} {os:List Nat} {es:List Ce} (G:GoodM cs l os es):Ret VP (.fn 29) [.d (moD 0 cs l os (dY es))] [] (.d (.int .i64 0)) []:=by
 have hu:Ret VP (.fn 49) [.d (moD 0 cs l os (dY es))] [] (.d (.slice [.agg [.slice (cs.map Ce.d),.slice (l.map Cm.d)]])) []:=by
  refine ret_of rfl rfl (r0 ?_)
  refine Z2 ?_
  rfl
 have d1:=rI 4 l G.hl (by omega) G.h8
 have d2:=oM 4 l G.hl G.h8
 have b0:=kD 4 l G.hl
 have b1:=bU (by omega) G.hl G.h8
 have b2:=fV (by omega) G.hl G.h8
 have t0:¬ ((Cm.levs l:Nat):Int) > 200:=by omega
 have h51:Ret VP (.fn 51) [.d (.agg [.slice (cs.map Ce.d),.slice (l.map Cm.d)])] [] (.d (.bool false)) []:=by
  refine ret_of rfl rfl (r0 ?_)
  (have hz4:=decide_eq_false t0;refine Z2 ?_)
  rfl
 have h86:Ret VP (.fn 86) [.d (.slice [.agg [.slice (cs.map Ce.d),.slice (l.map Cm.d)]]),.d (.func 51 [] [])] [] (.d (.int .i64 (-1))) []:=by
  refine ret_of rfl rfl (r0 ?_)
  refine Z2 ?_
  rfl
 have h50:Ret VP (.fn 50) [.d (.slice [.agg [.slice (cs.map Ce.d),.slice (l.map Cm.d)]]),.d (.func 51 [] [])] [] (.d (.bool false)) []:=by
  refine ret_of rfl rfl (r0 ?_)
  refine Z2 ?_
  rfl
 have h3:=rK (by omega) G.hl G.h8
 have h4:=qw 4 l (by omega) G.hl G.h8
 have h5:=ot G
 have w1:IntKind.i64.wrap ((0:Int)+(Cm.cnts l:Nat))=(Cm.cnts l:Nat):=by ((try simp only [decide_eq_true_eq,gt_iff_lt]);(try simp (disch:=omega) only [i64_in]);try omega)
 have w2:IntKind.i64.wrap ((0:Int)+(Cm.tots l:Nat))=(Cm.tots l:Nat):=by ((try simp only [decide_eq_true_eq,gt_iff_lt]);(try simp (disch:=omega) only [i64_in]);try omega)
 have t1:¬ IntKind.i64.wrap ((0:Int)+(Cm.cnts l:Nat)) > 2000:=by rw [w1];omega
 have t2:¬ IntKind.i64.wrap ((0:Int)+(Cm.tots l:Nat)) > 200000:=by rw [w2];omega
 have t3:¬ (((cs.map Ce.d).length:Nat):Int) > 400:=by rw [List.length_map];have:=G.h4;omega
 refine ret_of rfl rfl (r0 ?_)
 (have hz5:=decide_eq_false t1;have hz6:=decide_eq_false t2;have hz7:=decide_eq_false t3;refine Z2 ?_)
 rfl
end Go.Proofs.YtncfpmehhfdipaaGreat
namespace Go.Proofs.YtncfpmehhfdipaaGreat
open Go.IntWalk
attribute [local irreducible] au
set_option maxHeartbeats 4000000
set_option maxRecDepth 100000
theorem aaW (k:Int) (hk:(6==k)=false) (hk':(7==k)=false) (hq:(k==6)=false) (hq':(k==7)=false):Ret VP (.fn 145) [.d (.slice [.int .i64 6,.int .i64 7]),.d (.int .i64 k)] [] (.d (.bool false)) []:=by
 have h:Ret VP (.fn 184) [.d (.slice [.int .i64 6,.int .i64 7]),.d (.int .i64 k)] [] (.d (.int .i64 (-1))) []:=by
  refine ret_of rfl rfl (r0 ?_)
  refine Z2 ?_
  rfl
 refine ret_of rfl rfl (r0 ?_)
 refine Z2 ?_
 rfl
theorem lU {n:Nat} {W:List (List D)} : ∀ (h:Nat) (l:List Cm),(∀ c∈l,Ok n W h c)->l.length<=8->Ret VP (.fn 99) [.d (.slice (l.map Cm.d)),.d (.slice [.int .i64 6,.int .i64 7])] [] (.d (.bool false)) []:=by
 have hfrom : ∀ l:List Cm,l.length<=8->(∀ c∈l,Ret VP (.fn 144) [.d c.d,.d (.iptr [.slice [.int .i64 6,.int .i64 7]] 0)] [] (.d (.bool false)) [])->Ret VP (.fn 99) [.d (.slice (l.map Cm.d)),.d (.slice [.int .i64 6,.int .i64 7])] [] (.d (.bool false)) []:=by
  intro l h8 hF
  have h:=wO [.slice [.int .i64 6,.int .i64 7]] l h8 hF
  refine ret_of rfl rfl (r0 ?_)
  refine Z1 ?_
  rfl
 intro h
 induction h with
 | zero=>intro l hl h8;exact hfrom l h8 fun c hc=>(gf (hl c hc)).elim
 | succ h ih =>
   intro l hl h8
   refine hfrom l h8 fun c hm => ?_
   have hok:=hl c hm
   obtain ⟨k,v,s,f,t,a,b,g,o⟩:=c
   have hv:=hok.view
   have h1:=ih a hv.ca (by have:=hv.ha;omega)
   have h2:=ih b hv.cb (by have:=hv.hb;omega)
   have hk:(6==k)=false/\(7==k)=false/\(k==6)=false/\(k==7)=false:=by cases hok<;>exact ⟨rfl,rfl,rfl,rfl⟩
   have h3:=aaW k hk.1 hk.2.1 hk.2.2.1 hk.2.2.2
   rw [Cm.d_eq]
   refine ret_of rfl rfl (r0 ?_)
   refine Z2 ?_
   rfl
mutual
theorem num_ge : ∀ (c:Cm) (n:Nat),n<=(c.num n).2
 | .mk k v s f t a b g o,n=>by
   have h1:=nums_ge a (if k=2 then n+1 else n)
   have h2:=nums_ge b (Cm.nums a (if k=2 then n+1 else n)).2
   simp only [Cm.num]
   split at h1<;>rename_i hk<;>simp only [hk,if_true,if_false] at h2 ⊢ <;> omega
theorem nums_ge : ∀ (l:List Cm) (n:Nat),n<=(Cm.nums l n).2
 | [],n=>by simp [Cm.nums]
 | c::l,n=>by
   have h1:=num_ge c n
   have h2:=nums_ge l (c.num n).2
   simp only [Cm.nums];omega
end
theorem lu (l:List Cm) (i n:Nat):(Cm.nums (l.take i) n).2<=(Cm.nums l n).2:=by
 have h:=e7 (l.take i) (l.drop i) n
 rw [List.take_append_drop] at h
 rw [h]
 exact nums_ge _ _
theorem tg {l:List Cm} {i:Nat} (h:i < l.length) (n:Nat):(Cm.nums l n).1[i]?=some (l[i].num (Cm.nums (l.take i) n).2).1:=by
 have h1:=e7 (l.take (i+1)) (l.drop (i+1)) n
 rw [List.take_append_drop] at h1
 have h2:=iJ h n
 have h3:=db (l.take i) n
 rw [List.length_take,Nat.min_eq_left (by omega)] at h3
 rw [h1]
 dsimp only
 rw [h2]
 dsimp only
 rw [List.getElem?_append_left (by simp;omega),List.getElem?_append_right (by omega),h3]
 simp
theorem kz {l:List Cm} {i n:Nat} (h:i < l.length) {k v s:Int} {f:Fo} {t:Di} {a b:List Cm} {g:List Fo} {o:List Nat} (he:l[i] = .mk k v s f t a b g o) {m:Nat} (hm:(Cm.nums (l.take i) n).2=m) {s':Int} {m':Nat} (hs:(if k=2 then (m:Int) else 0)=s') (hm':(if k=2 then m+1 else m)=m') :
 ((Cm.nums l n).1.map Cm.d)[i]?=some (cmD k v s' f t ((Cm.nums a m').1.map Cm.d) ((Cm.nums b (Cm.nums a m').2).1.map Cm.d) (g.map Fo.d) (o.map oD)):=by
 rw [List.getElem?_map,tg h,he,hm,Option.map_some]
 simp only [Cm.num,Cm.d_eq,hm']
 rw [<- hs]
theorem qU {l:List Cm} {i n:Nat} (h:i < l.length) {k v s:Int} {f:Fo} {t:Di} {a b:List Cm} {g:List Fo} {o:List Nat} (he:l[i] = .mk k v s f t a b g o) {m:Nat} (hm:(Cm.nums (l.take i) n).2=m) {m':Nat} (hm':(if k=2 then m+1 else m)=m'):(Cm.nums (l.take (i+1)) n).2=(Cm.nums b (Cm.nums a m').2).2:=by
 rw [iJ h,he,hm]
 simp only [Cm.num,hm']
def lpS:Blk := .loop 0 .none [(2,.ptr 1 0 0 0),(3,.ptr 2 0 0 0)] [27] xw rQ
theorem Ij (v:Int) (n:Nat) (lo:Int) (w:List D) (hn:n < 64):Ret VP (.round 0) [.d (.iptr (cmD 2 v n .z (.tab lo w) [] [] [] []).cells 0)] [some lpS,some (.rows 0 false 1 [[.d (.bool false)]]),some (.rows 0 false 1 [[.d (.int .i64 n)]])] (.d (.bool true)) [some lpS,some (.rows 0 false 1 [[.d (.bool false)]]),some (.rows 0 false 1 [[.d (.int .i64 (n+1:Nat))]])]:=by
 have hw:=ac n (by omega)
 have h1:((n:Int) != (n:Int))=false:=by simp
 have h2:((n:Int)==64)=false:=by simp;omega
 refine cq rfl rfl (r0 ?_)
 refine Z2 ?_
 refine ⟨rfl,_,_,_,_,_,rfl,r0 ?_⟩
 refine Z2 ?_
 rw [hw]
 rfl
def oI:V := .func 101 [] [.ptr 0 0 0 0,.ptr 1 0 0 0]
def lpW:Blk := .loop 0 .none [(2,.ptr 3 0 0 0),(3,.ptr 4 0 0 0)] [27] xw rQ
def stW (n:Nat):aa:=[some (.rows 0 false 1 [[.yield 2]]),some (.rows 0 false 1 [[oI]]),some lpW,some (.rows 0 false 1 [[.d (.bool false)]]),some (.rows 0 false 1 [[.d (.int .i64 n)]])]
theorem sw {n0:Nat} {W:List (List D)} : ∀ (h:Nat) (l:List Cm),(∀ c∈l,Ok n0 W h c)->l.length<=8 -> ∀ n:Nat,(Cm.nums l n).2<=64->Ret VP (.fn 101) [.d (.slice ((Cm.nums l n).1.map Cm.d)),.ptr 0 0 0 0,.ptr 1 0 0 0] (stW n) (.d (.bool true)) (stW (Cm.nums l n).2):=by
 have hnil : ∀ n:Nat,Ret VP (.fn 101) [.d (.slice ((Cm.nums [] n).1.map Cm.d)),.ptr 0 0 0 0,.ptr 1 0 0 0] (stW n) (.d (.bool true)) (stW (Cm.nums [] n).2):=by
  intro n
  refine ret_of rfl rfl (r0 ?_)
  refine Z1 ?_
  refine lh1 rfl rfl rfl rfl ?_
  refine Z1r ?_
  rfl
 intro h
 induction h with
 | zero=>intro l hl _ n _;rw [b5 hl];exact hnil n
 | succ h ih =>
   intro l hl h8 n hn
   have hlen:=db l n
   refine ret_of rfl rfl (r0 ?_)
   refine Z1 ?_
   refine hd1 rfl rfl rfl rfl ?_
   refine cB (fun i=>[.d (.slice ((Cm.nums l n).1.map Cm.d)),.ptr 0 0 0 0,.ptr 1 0 0 0,.d (.int .i64 (((Cm.nums l n).1.map Cm.d).length:Nat)),.d (.int .i64 i)]) (fun i=>stW (Cm.nums (l.take i) n).2) l.length (fun i hi hx => ?_) ?_
   · have hwi:=ac i (by omega)
     have ht:decide ((i:Int) < ((((Cm.nums l n).1.map Cm.d).length:Nat):Int))=true:=decide_eq_true (by rw [List.length_map,hlen];omega)
     have hle:=lu l (i+1) n
     generalize hm:(Cm.nums (l.take i) n).2=m at hx ⊢
     generalize hc:l[i]=c
     have hok:=hc▸hl _ (List.getElem_mem hi)
     obtain ⟨k,v,s,f,t,a,b,g,o⟩:=c
     have hv:=hok.view
     have hk:k=2/\(∃ lo w,t = .tab lo w)/\a=[]/\b=[]/\f = .z/\g=[]/\o=[]\/(k==2)=false/\k≠2:=by cases hok<;>simp
     rcases hk with ⟨rfl,⟨lo,w,rfl⟩,rfl,rfl,rfl,rfl,rfl⟩ | ⟨hk,hk'⟩
     · have hg:=kz hi hc hm (if_pos rfl) (if_pos rfl)
       have he:=qU hi hc hm (if_pos rfl)
       simp only [Cm.nums] at he hg
       rw [he] at hx hle
       have hy:=Ij v m lo w (by omega)
       have hw1:=hnil (m+1)
       simp only [Cm.nums] at hw1
       unfold ah
       refine Z1r ?_
       rw [hwi]
       refine hd1 rfl rfl rfl rfl ?_
       exact hx
     · have hg:=kz hi hc hm (if_neg hk') (if_neg hk')
       have he:=qU hi hc hm (if_neg hk')
       rw [he] at hx hle
       have h1:=ih a hv.ca (by have:=hv.ha;omega) m (by have:=nums_ge b (Cm.nums a m).2;omega)
       have h2:=ih b hv.cb (by have:=hv.hb;omega) (Cm.nums a m).2 (by omega)
       unfold ah
       refine Z1 ?_
       rw [hwi]
       refine hd1 rfl rfl rfl rfl ?_
       exact hx
   · have hf:decide ((l.length:Int) < ((((Cm.nums l n).1.map Cm.d).length:Nat):Int))=false:=decide_eq_false (by rw [List.length_map,hlen];omega)
     rw [List.take_length]
     unfold ah
     refine Z1 ?_
     rfl
theorem uc {n0:Nat} {W:List (List D)} {h:Nat} (l:List Cm) (hl : ∀ c∈l,Ok n0 W h c) (h8:l.length<=8) (hn:(Cm.nums l 0).2<=64):Ret VP (.fn 100) [.yield 0,.d (.iptr [.slice ((Cm.nums l 0).1.map Cm.d)] 0)] [some lpS,some (.rows 0 false 1 [[.d (.bool false)]]),some (.rows 0 false 1 [[.d (.int .i64 0)]])] (.d (.tuple [])) [some lpS,some (.rows 0 false 1 [[.d (.bool false)]]),some (.rows 0 false 1 [[.d (.int .i64 ((Cm.nums l 0).2:Nat))]])]:=by
 have h:=sw h l hl h8 0 hn
 refine ret_of rfl rfl (r0 ?_)
 refine Z1 ?_
 rfl
theorem ry (l:List D):Ret VP (.fn 58) [.d (.slice l)] [] (.d (.func 100 [] [.iptr [.slice l] 0])) []:=by
 refine ret_of rfl rfl (r0 ?_)
 refine Z1 ?_
 rfl
end Go.Proofs.YtncfpmehhfdipaaGreat
namespace Go.Proofs.YtncfpmehhfdipaaGreat
open Go.IntWalk
attribute [local irreducible] au
set_option maxHeartbeats 4000000
set_option maxRecDepth 100000
theorem pJ:Ret VP (.fn 146) [.d (.slice [])] [] .emp []:=by
 refine fJ (x := .nils) (y := .lit []) rfl rfl (r0 ?_) (r0 ?_) rfl
 · refine Z2 ?_
   rfl
 · refine Z2 ?_
   rfl
theorem ve (x:Int):Ret VP (.fn 146) [.d (.slice [.int .u32 x])] [] (.ms 0 0 0 1) [some (.rows 0 false 1 [[.d (.int .u32 x)]])]:=by
 refine cN rfl (fun rest hh=>by simp at hh) (r0 ?_)
 refine Z2 ?_
 rfl
theorem ba:Ret VP (.fn 102) [.d rz] [] (.d rz) []:=by
 have h:=pJ
 refine ret_of rfl rfl (r0 ?_)
 refine Z2 ?_
 rfl
theorem aD (s:Bool) (n d:Int):Ret VP (.fn 102) [.d (.agg [.bool s,.slice [.int .u32 n],.slice [.int .u32 d]])] [] (.d (.agg [.bool s,.slice [.int .u32 n],.slice [.int .u32 d]])) []:=by
 have h1:=ve n
 have h2:=ve d
 refine ret_of rfl rfl (r0 ?_)
 refine Z2 ?_
 rfl
theorem gn:Ret VP (.fn 104) [.d (.slice [])] [] .emp []:=by
 refine fJ (x := .nils) (y := .lit []) rfl rfl (r0 ?_) (r0 ?_) rfl
 · refine Z2 ?_
   rfl
 · refine Z2 ?_
   rfl
def aR (n d:Int):List D:=[.int .i64 0,.int .i64 0,.int .i64 0,.int .i64 0,.int .i64 0,.int .i64 0,.int .i64 0,.int .i64 0,.bool false,.slice [.int .u32 n],.slice [.int .u32 d]]
theorem ar (n d:Int):Ret VP (.fn 104) [.d (.slice [.agg (aR n d)])] [] (.ms 0 0 0 1) [some (.rows 0 false 11 [(aR n d).map V.d])]:=by
 refine cN rfl (fun rest hh=>by simp at hh) (r0 ?_)
 refine Z2 ?_
 rfl
theorem bt (x y:List D):Ret VP (.fn 103) [.d (.slice [.slice x,.slice y])] [] (.ms 0 0 0 2) [some (.rows 0 false 1 [[.d (.slice x)],[.d (.slice y)]])]:=by
 refine cN rfl (fun rest hh=>by simp at hh) (r0 ?_)
 refine Z2 ?_
 rfl
theorem cK (x y z:List D):Ret VP (.fn 103) [.d (.slice [.slice x,.slice y,.slice z])] [] (.ms 0 0 0 3) [some (.rows 0 false 1 [[.d (.slice x)],[.d (.slice y)],[.d (.slice z)]])]:=by
 refine cN rfl (fun rest hh=>by simp at hh) (r0 ?_)
 refine Z2 ?_
 rfl
theorem pF (lo:Int):Ret VP (.fn 59) [.d (dsD 1 lo w0)] [] (.d (dsD 1 lo w0)) []:=by
 refine ret_of rfl rfl (r0 ?_)
 (have hz1:=ba;have hz2:=cK [.agg (aR 1 2)] [] [.agg (aR 1 2)];have hz3:=ar 1 2;have hz4:=aD false 1 2;have hz5:=gn;refine Z2 ?_)
 rfl
theorem pE (lo:Int):Ret VP (.fn 59) [.d (dsD 1 lo w1)] [] (.d (dsD 1 lo w1)) []:=by
 refine ret_of rfl rfl (r0 ?_)
 (have hz6:=ba;have hz7:=cK [.agg (aR 1 2)] [.agg (aR 1 4)] [.agg (aR 1 4)];have hz8:=ar 1 2;have hz9:=aD false 1 2;have hz10:=ar 1 4;have hz11:=aD false 1 4;refine Z2 ?_)
 rfl
theorem pD (lo:Int):Ret VP (.fn 59) [.d (dsD 1 lo w2)] [] (.d (dsD 1 lo w2)) []:=by
 refine ret_of rfl rfl (r0 ?_)
 (have hz12:=ba;have hz13:=cK [.agg (aR 1 3)] [.agg (aR 1 3)] [.agg (aR 1 3)];have hz14:=ar 1 3;have hz15:=aD false 1 3;refine Z2 ?_)
 rfl
theorem pC (lo:Int):Ret VP (.fn 59) [.d (dsD 1 lo w3)] [] (.d (dsD 1 lo w3)) []:=by
 refine ret_of rfl rfl (r0 ?_)
 (have hz16:=ba;have hz17:=cK [.agg (aR 1 3)] [.agg (aR 1 2)] [.agg (aR 1 6)];have hz18:=ar 1 3;have hz19:=aD false 1 3;have hz20:=ar 1 2;have hz21:=aD false 1 2;have hz22:=ar 1 6;have hz23:=aD false 1 6;refine Z2 ?_)
 rfl
theorem pB (lo:Int):Ret VP (.fn 59) [.d (dsD 1 lo w4)] [] (.d (dsD 1 lo w4)) []:=by
 refine ret_of rfl rfl (r0 ?_)
 (have hz24:=ba;have hz25:=cK [.agg (aR 1 4)] [.agg (aR 1 2)] [.agg (aR 1 4)];have hz26:=ar 1 4;have hz27:=aD false 1 4;have hz28:=ar 1 2;have hz29:=aD false 1 2;refine Z2 ?_)
 rfl
theorem pA (lo:Int):Ret VP (.fn 59) [.d (dsD 1 lo w5)] [] (.d (dsD 1 lo w5)) []:=by
 refine ret_of rfl rfl (r0 ?_)
 (have hz30:=ba;have hz31:=cK [.agg (aR 1 4)] [.agg (aR 5 8)] [.agg (aR 1 8)];have hz32:=ar 1 4;have hz33:=aD false 1 4;have hz34:=ar 5 8;have hz35:=aD false 5 8;have hz36:=ar 1 8;have hz37:=aD false 1 8;refine Z2 ?_)
 rfl
theorem pz (lo:Int):Ret VP (.fn 59) [.d (dsD 1 lo w6)] [] (.d (dsD 1 lo w6)) []:=by
 refine ret_of rfl rfl (r0 ?_)
 (have hz38:=ba;have hz39:=bt [.agg (aR 1 1)] [];have hz40:=ar 1 1;have hz41:=aD false 1 1;have hz42:=gn;refine Z2 ?_)
 rfl
theorem px (lo:Int):Ret VP (.fn 59) [.d (dsD 1 lo w7)] [] (.d (dsD 1 lo w7)) []:=by
 refine ret_of rfl rfl (r0 ?_)
 (have hz43:=ba;have hz44:=bt [] [.agg (aR 1 1)];have hz45:=gn;have hz46:=ar 1 1;have hz47:=aD false 1 1;refine Z2 ?_)
 rfl
theorem pw (lo:Int):Ret VP (.fn 59) [.d (dsD 1 lo w8)] [] (.d (dsD 1 lo w8)) []:=by
 refine ret_of rfl rfl (r0 ?_)
 (have hz48:=ba;have hz49:=bt [.agg (aR 1 2)] [.agg (aR 1 2)];have hz50:=ar 1 2;have hz51:=aD false 1 2;refine Z2 ?_)
 rfl
theorem pv (lo:Int):Ret VP (.fn 59) [.d (dsD 1 lo w9)] [] (.d (dsD 1 lo w9)) []:=by
 refine ret_of rfl rfl (r0 ?_)
 (have hz52:=ba;have hz53:=bt [.agg (aR 2 3)] [.agg (aR 1 3)];have hz54:=ar 2 3;have hz55:=aD false 2 3;have hz56:=ar 1 3;have hz57:=aD false 1 3;refine Z2 ?_)
 rfl
theorem m7 (lo:Int):Ret VP (.fn 59) [.d (dsD 1 lo w10)] [] (.d (dsD 1 lo w10)) []:=by
 refine ret_of rfl rfl (r0 ?_)
 (have hz58:=ba;have hz59:=bt [.agg (aR 1 3)] [.agg (aR 2 3)];have hz60:=ar 1 3;have hz61:=aD false 1 3;have hz62:=ar 2 3;have hz63:=aD false 2 3;refine Z2 ?_)
 rfl
theorem m6 (lo:Int):Ret VP (.fn 59) [.d (dsD 1 lo w11)] [] (.d (dsD 1 lo w11)) []:=by
 refine ret_of rfl rfl (r0 ?_)
 (have hz64:=ba;have hz65:=bt [.agg (aR 3 4)] [.agg (aR 1 4)];have hz66:=ar 3 4;have hz67:=aD false 3 4;have hz68:=ar 1 4;have hz69:=aD false 1 4;refine Z2 ?_)
 rfl
theorem mZ (lo:Int):Ret VP (.fn 59) [.d (dsD 1 lo w12)] [] (.d (dsD 1 lo w12)) []:=by
 refine ret_of rfl rfl (r0 ?_)
 (have hz70:=ba;have hz71:=bt [.agg (aR 1 4)] [.agg (aR 3 4)];have hz72:=ar 1 4;have hz73:=aD false 1 4;have hz74:=ar 3 4;have hz75:=aD false 3 4;refine Z2 ?_)
 rfl
theorem mY (lo:Int):Ret VP (.fn 59) [.d (dsD 1 lo w13)] [] (.d (dsD 1 lo w13)) []:=by
 refine ret_of rfl rfl (r0 ?_)
 (have hz76:=ba;have hz77:=bt [.agg (aR 4 5)] [.agg (aR 1 5)];have hz78:=ar 4 5;have hz79:=aD false 4 5;have hz80:=ar 1 5;have hz81:=aD false 1 5;refine Z2 ?_)
 rfl
theorem mX (lo:Int):Ret VP (.fn 59) [.d (dsD 1 lo w14)] [] (.d (dsD 1 lo w14)) []:=by
 refine ret_of rfl rfl (r0 ?_)
 (have hz82:=ba;have hz83:=bt [.agg (aR 3 5)] [.agg (aR 2 5)];have hz84:=ar 3 5;have hz85:=aD false 3 5;have hz86:=ar 2 5;have hz87:=aD false 2 5;refine Z2 ?_)
 rfl
theorem mW (lo:Int):Ret VP (.fn 59) [.d (dsD 1 lo w15)] [] (.d (dsD 1 lo w15)) []:=by
 refine ret_of rfl rfl (r0 ?_)
 (have hz88:=ba;have hz89:=bt [.agg (aR 2 5)] [.agg (aR 3 5)];have hz90:=ar 2 5;have hz91:=aD false 2 5;have hz92:=ar 3 5;have hz93:=aD false 3 5;refine Z2 ?_)
 rfl
theorem mV (lo:Int):Ret VP (.fn 59) [.d (dsD 1 lo w16)] [] (.d (dsD 1 lo w16)) []:=by
 refine ret_of rfl rfl (r0 ?_)
 (have hz94:=ba;have hz95:=bt [.agg (aR 1 5)] [.agg (aR 4 5)];have hz96:=ar 1 5;have hz97:=aD false 1 5;have hz98:=ar 4 5;have hz99:=aD false 4 5;refine Z2 ?_)
 rfl
theorem uq (lo:Int) : ∀ w∈W0,Ret VP (.fn 59) [.d (dsD 1 lo w)] [] (.d (dsD 1 lo w)) [] :=
 md ⟨pF lo,pE lo,pD lo,pC lo,pB lo,pA lo,pz lo,px lo,pw lo,pv lo,m7 lo,m6 lo,mZ lo,mY lo,mX lo,mW lo,mV lo⟩
end Go.Proofs.YtncfpmehhfdipaaGreat
namespace Go.Proofs.YtncfpmehhfdipaaGreat
open Go.IntWalk
attribute [local irreducible] au
set_option maxHeartbeats 4000000
set_option maxRecDepth 100000
def lpT:Blk := .loop 0 .none [(5,.ptr 1 0 0 0)] [18] rS rR
def ocT (b:Nat):List D->aa
 | []=>[some (.rows 0 false 1 [[.nils]])]
 | q::qs=>[some (.rows 0 false 1 [[.ms b qs.length 0 (qs.length+1)]]),some (.rows qs.length false 10 (ao (q::qs)))]
theorem vV (v:Int) (n:Nat) (lo:Int) (w:List D) (hc:Ret VP (.fn 59) [.d (dsD 1 lo w)] [] (.d (dsD 1 lo w)) []):Ret VP (.round 0) [.d (.iptr (cmD 2 v n .z (.tab lo w) [] [] [] []).cells 0)] (some lpT::ocT 2 []) (.d (.bool true)) (some lpT::ocT 2 [dsD 1 lo w]):=by
 refine cq rfl rfl (r0 ?_)
 refine Z2 ?_
 refine ⟨rfl,_,_,_,_,_,rfl,r0 ?_⟩
 refine Z2 ?_
 rfl
theorem vU (v:Int) (n:Nat) (lo:Int) (w:List D) (hc:Ret VP (.fn 59) [.d (dsD 1 lo w)] [] (.d (dsD 1 lo w)) []) (q:D) (qs:List D) (hl:qs.length < 1000):Ret VP (.round 0) [.d (.iptr (cmD 2 v n .z (.tab lo w) [] [] [] []).cells 0)] (some lpT::ocT 2 (q::qs)) (.d (.bool true)) (some lpT::ocT 2 (q::(qs++[dsD 1 lo w]))):=by
 have hle:qs.length+1<=(ao (q::qs)).length:=by rw [av];simp
 have hroom:au (qs.length+1+1) 160=true:=ab (by omega) (by omega)
 refine cq rfl rfl (r0 ?_)
 refine Z4 ?_
 refine ⟨rfl,_,_,_,_,_,rfl,r0 ?_⟩
 (refine Z4 ?_;(repeat first | (refine fw (oam rfl rfl rfl (hle) rfl rfl (hroom) rfl (o0 ⟨rfl,rfl⟩)) ?_;refine Z4 ?_)))
 have e1:ocT 2 (q::(qs++[dsD 1 lo w]))=[some (.rows 0 false 1 [[.ms 2 (qs.length+1) 0 (qs.length+1+1)]]),some (.rows (qs.length+1) false 10 ((ao (q::qs)).take (qs.length+1)++[(dsD 1 lo w).cells.map V.d]))]:=by
  rw [List.take_of_length_le (by rw [av];simp)]
  simp [ocT,ao]
 refine mS (s3:=some lpT::ocT 2 (q::(qs++[dsD 1 lo w]))++[none]) rfl ?_ ?_ rfl
 · rw [e1];rfl
 · change closed _ 3
   intro i hi
   rcases (by omega:i=0\/i=1\/i=2) with rfl | rfl | rfl
   · exact ⟨_,rfl,by decide⟩
   · exact ⟨_,rfl,by simp [du,eO,refsL,refs]⟩
   · exact ⟨_,rfl,by
      intro j hj
      rw [show ao (q::(qs++[dsD 1 lo w]))=ao (q::(qs++[dsD 1 lo w])) from rfl] at hj
      simp only [du,bf] at hj
      cases hj⟩
theorem Ii (v:Int) (n:Nat) (lo:Int) (w:List D) (hc:Ret VP (.fn 59) [.d (dsD 1 lo w)] [] (.d (dsD 1 lo w)) []) (qs:List D) (hl:qs.length < 1000):Ret VP (.round 0) [.d (.iptr (cmD 2 v n .z (.tab lo w) [] [] [] []).cells 0)] (some lpT::ocT 2 qs) (.d (.bool true)) (some lpT::ocT 2 (qs++[dsD 1 lo w])):=by
 cases qs with
 | nil=>exact vV v n lo w hc
 | cons q qs=>exact vU v n lo w hc q qs (by simp only [List.length_cons] at hl;omega)
def lpU:Blk := .loop 0 .none [(5,.ptr 3 0 0 0)] [18] rS rR
def stU (qs:List D):aa:=some (.rows 0 false 1 [[.yield 2]])::some (.rows 0 false 1 [[oI]])::some lpU::ocT 4 qs
theorem kQ (qs:List D):ij (stU qs):=by
 unfold ij
 cases qs with
 | nil =>
   intro i hi
   replace hi:i < 4:=hi
   rcases (by omega:i=0\/i=1\/i=2\/i=3) with rfl | rfl | rfl | rfl
   all_goals exact ⟨_,rfl,by decide⟩
 | cons q qs =>
   intro i hi
   replace hi:i < 5:=hi
   rcases (by omega:i=0\/i=1\/i=2\/i=3\/i=4) with rfl | rfl | rfl | rfl | rfl
   · exact ⟨_,rfl,by show ∀ j∈[2],j < 5;decide⟩
   · exact ⟨_,rfl,by show ∀ j∈[0,1],j < 5;decide⟩
   · exact ⟨_,rfl,by show ∀ j∈[3],j < 5;decide⟩
   · exact ⟨_,rfl,by show ∀ j∈[4],j < 5;decide⟩
   · exact ⟨_,rfl,by
      intro j hj
      simp only [du,bf] at hj
      cases hj⟩
theorem qO (qs:List D) (x:D):aM (stU qs) (aA (stU qs)) (refsL [.d x,.ptr 0 0 0 0,.ptr 1 0 0 0]) []=List.range (stU qs).length:=by
 cases qs with
 | nil=>rfl
 | cons q qs =>
   refine (nK (t:=[some [2],some [0,1],some [3],some [4],some []]) ?_ _ _ _).trans rfl
   show [some [2],some [0,1],some [3],some [4],some (eO (ao (q::qs)))]=_
   rw [bf]
theorem vL {qs qs':List D} (h:qs≠[]->qs'≠[]):(stU qs).length<=(stU qs').length:=by
 cases qs with
 | nil=>cases qs'<;>simp [stU,ocT]
 | cons q qs=>cases qs' with
   | nil=>exact absurd rfl (h (by simp))
   | cons q' qs'=>simp [stU,ocT]
mutual
def Cm.tb:Cm->List D
 | .mk k _ _ _ t a b _ _=>(if k=2 then [t.d] else [])++Cm.tbs a++Cm.tbs b
def Cm.tbs:List Cm->List D
 | []=>[]
 | c::l=>c.tb++Cm.tbs l
end
theorem js (l m:List Cm):Cm.tbs (l++m)=Cm.tbs l++Cm.tbs m:=by
 induction l with
 | nil=>simp [Cm.tbs]
 | cons c l ih=>rw [List.cons_append,Cm.tbs,Cm.tbs,ih,List.append_assoc]
theorem sF {l:List Cm} {i:Nat} (h:i < l.length):Cm.tbs (l.take (i+1))=Cm.tbs (l.take i)++l[i].tb:=by
 rw [List.take_succ_eq_append_getElem h,js];simp [Cm.tbs]
theorem Ih {os:List VOper} {d:Option Nat} {e:Env} {Q:Env->aa->Prop} {b0:Nat} {fv:Opd} {x:Opd} (v:Int) (n:Nat) (lo:Int) (w:List D) (hc:Ret VP (.fn 59) [.d (dsD 1 lo w)] [] (.d (dsD 1 lo w)) []) (qs:List D) (hl:qs.length < 1000) (ht0:ev e fv = .yield 2) (hx:ev e x = .d (.iptr (cmD 2 v n .z (.tab lo w) [] [] [] []).cells 0))
 (h:Ops VP b0 os (put e d (.d (.bool true))) (stU (qs++[dsD 1 lo w])) Q):Ops VP b0 (⟨d,.callv fv [x],none⟩::os) e (stU qs) Q:=by
 have hr:=Ii v n lo w hc qs hl
 have hcv:ai (stU qs) [] ([x].map (ev e))=some ([.d (.iptr (cmD 2 v n .z (.tab lo w) [] [] [] []).cells 0)],[]):=by
  rw [List.map_cons,hx];rfl
 cases qs with
 | nil =>
   exact amB (ids:=[2,3]) (s2:=stU ([]++[dsD 1 lo w])) ht0 hr hcv rfl rfl rfl rfl rfl rfl rfl rfl h
 | cons q qs =>
   refine amB (ids:=[2,3,4]) (s2:=stU (q::qs++[dsD 1 lo w])) ht0 hr hcv ((nK (t:=[some [2],some [0,1],some [3],some [4],some []]) ?_ _ _ _).trans rfl) rfl rfl rfl ?_ rfl rfl ?_ h
   · show [some [2],some [0,1],some [3],some [4],some (eO (ao (q::qs)))]=_
     rw [bf]
   · show [some lpT,some (Blk.rows 0 false 1 [[.ms 2 qs.length 0 (qs.length+1)]]),some (.rows qs.length false 10 ((ao (q::qs)).map (renL _)))]=_
     rw [bD];rfl
   · show [some (Blk.rows 0 false 1 [[.yield 2]]),some (.rows 0 false 1 [[oI]]),some lpU,some (.rows 0 false 1 [[.ms 4 (qs++[dsD 1 lo w]).length 0 ((qs++[dsD 1 lo w]).length+1)]]),some (.rows (qs++[dsD 1 lo w]).length false 10 ((ao (q::(qs++[dsD 1 lo w]))).map (renL _)))]=_
     rw [bD];rfl
theorem vn {os:List VOper} {d:Option Nat} {e:Env} {Q:Env->aa->Prop} {b0:Nat} {fv:Opd} {x:Opd} {y:D} {qs qs':List D} (hret:Ret VP (.fn 101) [.d y,.ptr 0 0 0 0,.ptr 1 0 0 0] (stU qs) (.d (.bool true)) (stU qs')) (hq:qs≠[]->qs'≠[]) (ht0:ev e fv=oI) (hx:ev e x = .d y)
 (h:Ops VP b0 os (put e d (.d (.bool true))) (stU qs') Q):Ops VP b0 (⟨d,.callv fv [x],none⟩::os) e (stU qs) Q:=by
 refine aaV hret (xa:=[]) (xb:=[.ptr 0 0 0 0,.ptr 1 0 0 0]) (by rw [ht0];rfl) (by rw [List.map_cons,hx];rfl) (qO qs y) (kQ qs) (kQ qs') (vL hq) (by simp [stU]) ?_ (by simp [refs]) h
 intro i hi
 replace hi:i∈[0,1]:=hi
 have:4<=(stU qs).length:=by cases qs<;>simp [stU,ocT]
 rcases (by simpa using hi:i=0\/i=1) with rfl | rfl<;>omega
end Go.Proofs.YtncfpmehhfdipaaGreat
namespace Go.Proofs.YtncfpmehhfdipaaGreat
open Go.IntWalk
attribute [local irreducible] au
set_option maxHeartbeats 4000000
set_option maxRecDepth 100000
theorem hdU {k:Nat} {live:List Nat} {body:VCode} {e:Env} {vs:List V} {K:List Fr} {Q:Out->Env->aa->Prop} {qs:List D} (hk:k=4\/k=5/\qs≠[]) (hv:live.map e=vs) (hr:refsL vs=[0,1]) (hb:ah VP k live body vs (stU qs) K Q):Loop VP k live body e (stU qs) (bl VP k K Q):=by
 cases qs with
 | nil =>
   rcases hk with rfl | ⟨_,hk⟩
   · exact hdp (ids:=[0,1,2,3]) hv (by rw [hr];rfl) (renL_fix (by rw [hr];decide)) rfl hb
   · exact absurd rfl hk
 | cons q qs =>
   have ht:tab (stU (q::qs))=[some [2],some [0,1],some [3],some [4],some []]:=by
    show [some [2],some [0,1],some [3],some [4],some (eO (ao (q::qs)))]=_
    rw [bf]
   refine hdp (ids:=[0,1,2,3,4]) hv (by rw [hr,fP ht];rcases hk with rfl | ⟨rfl,_⟩<;>rfl) (renL_fix (by rw [hr];decide)) ?_ hb
   show [some (Blk.rows 0 false 1 [[.yield 2]]),some (.rows 0 false 1 [[oI]]),some lpU,some (.rows 0 false 1 [[.ms 4 qs.length 0 (qs.length+1)]]),some (.rows qs.length false 10 ((ao (q::qs)).map (renL _)))]=_
   rw [bD];rfl
theorem amH {k:Nat} {res:List VRes} {e:Env} {qs:List D} {b:Bool} (hk:k=4\/k=5/\qs≠[]) (hr:results e (stU qs) res=some [.d (.bool b)]):fin false k res .ret e (stU qs)=some (.d (.bool b),stU qs):=by
 cases qs with
 | nil =>
   rcases hk with rfl | ⟨_,hk⟩
   · exact rm (ids:=[0,1,2,3]) hr rfl rfl rfl
   · exact absurd rfl hk
 | cons q qs =>
   have ht:tab (stU (q::qs))=[some [2],some [0,1],some [3],some [4],some []]:=by
    show [some [2],some [0,1],some [3],some [4],some (eO (ao (q::qs)))]=_
    rw [bf]
   refine rm (ids:=[0,1,2,3,4]) hr rfl (by rw [fP ht];rcases hk with rfl | ⟨rfl,_⟩<;>rfl) ?_
   show [some (Blk.rows 0 false 1 [[.yield 2]]),some (.rows 0 false 1 [[oI]]),some lpU,some (.rows 0 false 1 [[.ms 4 qs.length 0 (qs.length+1)]]),some (.rows qs.length false 10 ((ao (q::qs)).map (renL _)))]=_
   rw [bD];rfl
mutual
theorem tb_le : ∀ c:Cm,c.tb.length<=c.cnt
 | .mk k v s f t a b g o=>by
   have h1:=tbs_le a
   have h2:=tbs_le b
   simp only [Cm.tb,Cm.cnt,List.length_append]
   split<;>simp<;>omega
theorem tbs_le : ∀ l:List Cm,(Cm.tbs l).length<=Cm.cnts l
 | []=>by simp [Cm.tbs]
 | c::l=>by
   have h1:=tb_le c
   have h2:=tbs_le l
   simp only [Cm.tbs,Cm.cnts,List.length_append];omega
end
theorem p9 {n0:Nat} : ∀ (h:Nat) (l:List Cm),h<=4->(∀ c∈l,Ok n0 W0 h c)->l.length<=8 -> ∀ (n:Nat) (qs:List D),qs.length+Cm.cnts l < 1000->Ret VP (.fn 101) [.d (.slice ((Cm.nums l n).1.map Cm.d)),.ptr 0 0 0 0,.ptr 1 0 0 0] (stU qs) (.d (.bool true)) (stU (qs++Cm.tbs l)):=by
 have hnil : ∀ (n:Nat) (qs:List D),Ret VP (.fn 101) [.d (.slice ((Cm.nums [] n).1.map Cm.d)),.ptr 0 0 0 0,.ptr 1 0 0 0] (stU qs) (.d (.bool true)) (stU (qs++Cm.tbs [])):=by
  intro n qs
  rw [show qs++Cm.tbs []=qs by simp [Cm.tbs]]
  have hk:(stU qs).length=4\/(stU qs).length=5/\qs≠[]:=by cases qs<;>simp [stU,ocT]
  generalize hz:(stU qs).length=k at hk
  refine ret_of rfl rfl (r0 ?_)
  rw [hz]
  refine Z3pr ?_
  refine hdU (vs:=[.d (.slice []),.ptr 0 0 0 0,.ptr 1 0 0 0,.d (.int .i64 0),.d (.int .i64 0)]) hk rfl rfl ?_
  unfold ah
  refine Z3pr ?_
  exact amH hk rfl
 intro h
 induction h with
 | zero=>intro l _ hl _ n qs _;rw [b5 hl];exact hnil n qs
 | succ h ih =>
   intro l hh hl h8 n qs hn
   have hlen:=db l n
   have hk0:(stU qs).length=4\/(stU qs).length=5/\qs≠[]:=by cases qs<;>simp [stU,ocT]
   generalize hz:(stU qs).length=k at hk0
   have hk : ∀ l:List D,k=4\/k=5/\qs++l≠[]:=fun l=>hk0.imp id fun h=>⟨h.1,by simp [h.2]⟩
   refine ret_of rfl rfl (r0 ?_)
   rw [hz]
   refine Z3pr ?_
   refine hdU (vs:=[.d (.slice ((Cm.nums l n).1.map Cm.d)),.ptr 0 0 0 0,.ptr 1 0 0 0,.d (.int .i64 (((Cm.nums l n).1.map Cm.d).length:Nat)),.d (.int .i64 0)]) hk0 rfl rfl ?_
   refine lO (cB (fun i=>[.d (.slice ((Cm.nums l n).1.map Cm.d)),.ptr 0 0 0 0,.ptr 1 0 0 0,.d (.int .i64 (((Cm.nums l n).1.map Cm.d).length:Nat)),.d (.int .i64 i)]) (fun i=>stU (qs++Cm.tbs (l.take i))) l.length (fun i hi hx => ?_) ?_) rfl (by simp [Cm.tbs])
   · have hwi:=ac i (by omega)
     have ht:decide ((i:Int) < ((((Cm.nums l n).1.map Cm.d).length:Nat):Int))=true:=decide_eq_true (by rw [List.length_map,hlen];omega)
     have hle:=cu l (i+1)
     have hcn:=fR hi
     have htb:=tbs_le (l.take i)
     have hta:=sF hi
     rw [hta] at hx
     generalize hm:(Cm.nums (l.take i) n).2=m
     generalize hts:Cm.tbs (l.take i)=ts at hx htb ⊢
     generalize hc:l[i]=c at hx hcn
     have hok:=hc▸hl _ (List.getElem_mem hi)
     obtain ⟨k',v,s,f,t,a,b,g,o⟩:=c
     have hv:=hok.view
     rw [Cm.cnt] at hcn
     have hba:=tbs_le a
     have hk':k'=2/\(∃ lo w,t = .tab lo w/\w∈W0)/\a=[]/\b=[]/\f = .z/\g=[]/\o=[]\/(k'==2)=false/\k'≠2:=by
      cases hok with
      | draw v s lo w hv hs hw h1 h2=>exact .inl ⟨rfl,⟨_,_,rfl,hw⟩,rfl,rfl,rfl,rfl,rfl⟩
      | _=>simp
     rcases hk' with ⟨rfl,⟨lo,w,rfl,hw⟩,rfl,rfl,rfl,rfl,rfl⟩ | ⟨hk',hne⟩
     · have hg:=kz hi hc hm (if_pos rfl) (if_pos rfl)
       simp only [Cm.nums] at hg
       rw [show (Cm.mk 2 v s .z (.tab lo w) [] [] [] []).tb=[dsD 1 lo w] from rfl,<- List.append_assoc] at hx
       have hcp:=uq lo w hw
       have hw1:=hnil (m+1) (qs++ts++[dsD 1 lo w])
       simp only [Cm.nums,Cm.tbs,List.append_nil] at hw1
       have hlq:(qs++ts).length < 1000:=by rw [List.length_append];omega
       unfold ah
       (refine Z3pr ?_;(repeat first | (refine fw (og rfl (rfl) (Ih v m lo w hcp (qs++ts) hlq rfl rfl (o0 ⟨rfl,rfl⟩))) ?_;refine Z3pr ?_) | (refine fw (og rfl (rfl) (vn hw1 id rfl rfl (o0 ⟨rfl,rfl⟩))) ?_;refine Z3pr ?_)))
       rw [hwi]
       refine hdU (by rw [List.append_assoc];exact hk _) rfl rfl ?_
       exact hx
     · have hg:=kz hi hc hm (if_neg hne) (if_neg hne)
       have etb:(Cm.mk k' v s f t a b g o).tb=Cm.tbs a++Cm.tbs b:=by simp [Cm.tb,if_neg hne]
       rw [etb,<- List.append_assoc,<- List.append_assoc] at hx
       have h1:=ih a (by omega) hv.ca (by have:=hv.ha;omega) m (qs++ts) (by rw [List.length_append];omega)
       have h2:=ih b (by omega) hv.cb (by have:=hv.hb;omega) (Cm.nums a m).2 (qs++ts++Cm.tbs a) (by rw [List.length_append,List.length_append];omega)
       have hq1:qs++ts≠[]->qs++ts++Cm.tbs a≠[]:=fun h h'=>h (List.append_eq_nil_iff.1 h').1
       have hq2:qs++ts++Cm.tbs a≠[]->qs++ts++Cm.tbs a++Cm.tbs b≠[]:=fun h h'=>h (List.append_eq_nil_iff.1 h').1
       unfold ah
       (refine Z3pr ?_;(repeat first | (refine fw (og rfl (rfl) (vn h1 hq1 rfl rfl (o0 ⟨rfl,rfl⟩))) ?_;refine Z3pr ?_) | (refine fw (og rfl (rfl) (vn h2 hq2 rfl rfl (o0 ⟨rfl,rfl⟩))) ?_;refine Z3pr ?_)))
       rw [hwi]
       refine hdU (by rw [List.append_assoc,List.append_assoc];exact hk _) rfl rfl ?_
       exact hx
   · have hf:decide ((l.length:Int) < ((((Cm.nums l n).1.map Cm.d).length:Nat):Int))=false:=decide_eq_false (by rw [List.length_map,hlen];omega)
     rw [List.take_length]
     unfold ah
     refine Z3pr ?_
     exact amH (hk _) rfl
end Go.Proofs.YtncfpmehhfdipaaGreat
namespace Go.Proofs.YtncfpmehhfdipaaGreat
open Go.IntWalk
attribute [local irreducible] au
set_option maxHeartbeats 4000000
set_option maxRecDepth 100000
mutual
theorem tb_ok : ∀ (c:Cm) (x:D),x∈c.tb -> ∃ t:Di,x=t.d
 | .mk k v s f t a b g o,x=>by
   have h1:=tbs_ok a x
   have h2:=tbs_ok b x
   intro h
   simp only [Cm.tb,List.mem_append] at h
   rcases h with (h | h) | h
   · split at h
     · exact ⟨t,by simpa using h⟩
     · cases h
   · exact h1 h
   · exact h2 h
theorem tbs_ok : ∀ (l:List Cm) (x:D),x∈Cm.tbs l -> ∃ t:Di,x=t.d
 | [],x=>by simp [Cm.tbs]
 | c::l,x=>by
   have h1:=tb_ok c x
   have h2:=tbs_ok l x
   intro h
   simp only [Cm.tbs,List.mem_append] at h
   exact h.elim h1 h2
end
theorem qm (l:List Cm):(Cm.tbs l).all bJ=true:=by
 rw [List.all_eq_true]
 intro x hx
 obtain ⟨t,rfl⟩:=tbs_ok l x hx
 rfl
theorem rA {n0:Nat} (l:List Cm) (hl : ∀ c∈l,Ok n0 W0 4 c) (h8:l.length<=8):Ret VP (.fn 100) [.yield 0,.d (.iptr [.slice ((Cm.nums l 0).1.map Cm.d)] 0)] (some lpT::ocT 2 []) (.d (.tuple [])) (some lpT::ocT 2 (Cm.tbs l)):=by
 have hc:=bU (by omega) hl h8
 have hw:=p9 4 l (by omega) hl h8 0 [] (by simp;omega)
 rw [List.nil_append] at hw
 cases ht:Cm.tbs l with
 | nil =>
   rw [ht] at hw
   refine ret_of rfl rfl (r0 ?_)
   refine Z1 ?_
   rfl
 | cons q qs =>
   rw [ht] at hw
   have hq:=Hd.mk hw
   clear hw
   refine ret_of rfl rfl (r0 ?_)
   refine Z3r ?_
   refine oVp (ids:=[2,3,0,1]) (s2:=[some lpT,some (.rows 0 false 1 [[.ms 4 qs.length 0 (qs.length+1)]]),some (.rows 0 false 1 [[.yield 0]]),some (.rows 0 false 1 [[.func 101 [] [.ptr 2 0 0 0,.ptr 3 0 0 0]]]),some (.rows qs.length false 10 (ao (q::qs)))]) rfl hq.h rfl rfl rfl rfl rfl rfl rfl ?_ ?_
   · show [some lpT,some (Blk.rows 0 false 1 [[.ms 4 qs.length 0 (qs.length+1)]]),some (.rows 0 false 1 [[.yield 0]]),some (.rows 0 false 1 [[.func 101 [] [.ptr 2 0 0 0,.ptr 3 0 0 0]]]),some (.rows qs.length false 10 ((ao (q::qs)).map (renL _)))]=_
     rw [bD]
   · refine Z3r ?_
     refine wV (xs:=[]) (ids:=[0,1,4]) rfl rfl ((fP (t:=[some [1],some [4],some [0],some [2,3],some []]) ?_ 2 _).trans rfl) ?_
     · show [some [1],some [4],some [0],some [2,3],some (eO (ao (q::qs)))]=_
       rw [bf]
     · show [some lpT,some (Blk.rows 0 false 1 [[.ms 2 qs.length 0 (qs.length+1)]]),some (.rows qs.length false 10 ((ao (q::qs)).map (renL _)))]=_
       rw [bD];rfl
theorem wh {n:Nat} {W:List (List D)} : ∀ (h:Nat) (l:List Cm),(∀ c∈l,Ok n W h c) -> ∀ m,(Cm.nums l m).2<=64 -> ∀ c∈(Cm.nums l m).1,Ok n W h c:=by
 intro h
 induction h with
 | zero=>intro l hl m _ c hc;rw [b5 hl] at hc;simp [Cm.nums] at hc
 | succ h ih =>
   intro l
   induction l with
   | nil=>intro _ m _ c hc;simp [Cm.nums] at hc
   | cons x l ihl =>
     intro hl m hm c hc
     simp only [Cm.nums] at hm hc
     have hge:=Nat.le_trans (nums_ge l (x.num m).2) hm
     rw [List.mem_cons] at hc
     rcases hc with rfl | hc
     · have hx:=hl x (by simp)
       cases hx with
       | set o f ho hf=>simp only [Cm.num,Cm.nums];exact .set o f ho hf
       | set2 o u f g ho hu hn hf hg=>simp only [Cm.num,Cm.nums];exact .set2 o u f g ho hu hn hf hg
       | draw v s lo w hv hs hw h1 h2 =>
         have hge2:m+1<=64:=by simp only [Cm.num,Cm.nums,if_true] at hge;omega
         exact .draw v m lo w hv (by omega) hw h1 h2
       | iff f a b hf ha hb ca cb =>
         have e3:(3:Int)≠2:=by decide
         simp only [Cm.num,if_neg e3] at hge ⊢
         have h1:=nums_ge b (Cm.nums a m).2
         exact .iff f _ _ hf (by rw [db];exact ha) (by rw [db];exact hb) (ih a ca m (by omega)) (ih b cb _ (by omega))
       | obs f hf=>simp only [Cm.num,Cm.nums];exact .obs f hf
       | cut=>simp only [Cm.num,Cm.nums];exact .cut
     · exact ihl (fun c hc=>hl c (by simp [hc])) _ hm c hc
mutual
theorem num_idem : ∀ (c:Cm) (n:Nat),(c.num n).1.num n=c.num n
 | .mk k v s f t a b g o,n=>by
   have h1:=nums_idem a (if k=2 then n+1 else n)
   have h2:=nums_idem b (Cm.nums a (if k=2 then n+1 else n)).2
   simp only [Cm.num,h1,h2]
theorem nums_idem : ∀ (l:List Cm) (n:Nat),Cm.nums (Cm.nums l n).1 n=Cm.nums l n
 | [],n=>rfl
 | c::l,n=>by
   have h1:=num_idem c n
   have h2:=nums_idem l (c.num n).2
   simp only [Cm.nums,h1,h2]
end
theorem GoodM.num {cs:List Ce} {l:List Cm} {os:List Nat} {es:List Ce} (G:GoodM cs l os es):GoodM cs (Cm.nums l 0).1 os es :=
 ⟨G.h1,G.h4,G.hcs,wh 4 l G.hl 0 G.hd,by rw [db];exact G.h8,G.hr,by rw [nums_idem];exact G.hd⟩
theorem k8 {cs:List Ce} {l:List Cm} {os:List Nat} {es:List Ce} (G:GoodM cs l os es):Ret VP (.fn 57) [.d (moD 0 cs (Cm.nums l 0).1 os (dY es))] [] (.d (.bool true)) []:=by
 have h1:=ee G.num
 have h2:=lU 4 (Cm.nums l 0).1 G.num.hl G.num.h8
 have h3:=ry ((Cm.nums l 0).1.map Cm.d)
 have h4:=uc l G.hl G.h8 G.hd
 have hw:IntKind.i64.wrap ((0:Int)+0)=0:=by rw [i64_in]<;>omega
 have ht:¬ IntKind.i64.wrap ((0:Int)+0) > 0:=by rw [hw];omega
 refine ret_of rfl rfl (r0 ?_)
 (repeat first | (apply gO;first | (apply gOc;first | refine oC1 (h1) rfl rfl rfl ?_ | refine oC1 (h2) rfl rfl rfl ?_ | refine oC1 (h3) rfl rfl rfl ?_) | (apply gOg;first | refine oz rfl ?_ | refine og rfl (decide_eq_false ht) ?_ | refine of' rfl (decide_eq_false ht) ?_ | refine og rfl (by decide) ?_ | refine of' rfl (by decide) ?_) | (apply gOp;first | refine opt rfl (decide_eq_false ht) rfl ?_ | refine opf rfl (decide_eq_false ht) rfl ?_ | refine opt rfl (by decide) rfl ?_ | refine opf rfl (by decide) rfl ?_) | refine ovx (op := .mapup _ _ _ _) rfl ?_ | refine ov1 rfl ?_ | refine omk rfl rfl (Nat.le_of_ble_eq_true rfl) (ab (Nat.le_of_ble_eq_true rfl) (by decide)) rfl rfl rfl ?_ | refine oam rfl rfl rfl (Nat.le_of_ble_eq_true rfl) rfl rfl (ab (Nat.le_of_ble_eq_true rfl) (by decide)) rfl ?_ | refine oak rfl rfl rfl rfl (ab (Nat.le_of_ble_eq_true rfl) (by decide)) rfl ?_ | apply o0) | (apply gR;first | apply rs | refine rr rfl rfl ?_ | apply rb | apply rk | apply rx | apply rl | apply rt | refine rd rfl rfl ?_ | refine rct rfl (decide_eq_false ht) ?_ | refine rcf rfl (decide_eq_false ht) ?_ | refine rct rfl (by decide) ?_ | refine rcf rfl (by decide) ?_ | refine rg rfl (h4) rfl rfl rfl rfl rfl rfl rfl rfl rfl rfl rfl ?_) | (apply gK;first | apply ks | apply kb | apply kl | apply xb | apply xs | apply xl | refine xo (by decide) ?_ | apply kq) | (apply gF;first | (apply gFc;first | refine fw (oC1 (h1) rfl rfl rfl (o0 ⟨rfl,rfl⟩)) ?_ | refine fw (oC1 (h2) rfl rfl rfl (o0 ⟨rfl,rfl⟩)) ?_ | refine fw (oC1 (h3) rfl rfl rfl (o0 ⟨rfl,rfl⟩)) ?_) | (apply gFg;first | refine fz' rfl ?_ | refine fg rfl (decide_eq_false ht) rfl ?_ | refine ff rfl (decide_eq_false ht) ?_ | refine fg rfl (by decide) rfl ?_ | refine ff rfl (by decide) ?_ | refine fw (og rfl (decide_eq_false ht) (oC1 (h1) rfl rfl rfl (o0 ⟨rfl,rfl⟩))) ?_ | refine fw (og rfl (decide_eq_false ht) (oC1 (h2) rfl rfl rfl (o0 ⟨rfl,rfl⟩))) ?_ | refine fw (og rfl (decide_eq_false ht) (oC1 (h3) rfl rfl rfl (o0 ⟨rfl,rfl⟩))) ?_ | refine fw (og rfl (by decide) (oC1 (h1) rfl rfl rfl (o0 ⟨rfl,rfl⟩))) ?_ | refine fw (og rfl (by decide) (oC1 (h2) rfl rfl rfl (o0 ⟨rfl,rfl⟩))) ?_ | refine fw (og rfl (by decide) (oC1 (h3) rfl rfl rfl (o0 ⟨rfl,rfl⟩))) ?_) | (apply gFp;first | refine fpt rfl (decide_eq_false ht) rfl ?_ | refine fpf rfl (decide_eq_false ht) rfl ?_ | refine fpt rfl (by decide) rfl ?_ | refine fpf rfl (by decide) rfl ?_) | refine fw (ovx (op := .mapup _ _ _ _) rfl (o0 ⟨rfl,rfl⟩)) ?_ | refine fw (ov1 rfl (o0 ⟨rfl,rfl⟩)) ?_ | refine fw (omk rfl rfl (Nat.le_of_ble_eq_true rfl) (ab (Nat.le_of_ble_eq_true rfl) (by decide)) rfl rfl rfl (o0 ⟨rfl,rfl⟩)) ?_ | refine fw (oam rfl rfl rfl (Nat.le_of_ble_eq_true rfl) rfl rfl (ab (Nat.le_of_ble_eq_true rfl) (by decide)) rfl (o0 ⟨rfl,rfl⟩)) ?_ | refine fw (oak rfl rfl rfl rfl (ab (Nat.le_of_ble_eq_true rfl) (by decide)) rfl (o0 ⟨rfl,rfl⟩)) ?_ | apply fn0) | refine lt' rfl ?_)
 rfl
theorem qx {cs:List Ce} {l:List Cm} {os:List Nat} {es:List Ce} (G:GoodM cs l os es):Ret VP (.fn 30) [.d (moD 0 cs (Cm.nums l 0).1 os (dY es))] [] (.d (.tuple [.slice (Cm.tbs l),.int .i64 0])) []:=by
 have h1:=ee G.num
 have h2:=k8 G
 have h3:=ry ((Cm.nums l 0).1.map Cm.d)
 have h4:=rA l G.hl G.h8
 have hk:=qm l
 cases ht:Cm.tbs l with
 | nil =>
   rw [ht] at h4
   refine ret_of rfl rfl (r0 ?_)
   (repeat first | (apply gO;first | (apply gOc;first | refine oC1 (h1) rfl rfl rfl ?_ | refine oC1 (h2) rfl rfl rfl ?_ | refine oC1 (h3) rfl rfl rfl ?_) | (apply gOg;first | refine oz rfl ?_ | refine og rfl (by decide) ?_ | refine of' rfl (by decide) ?_) | (apply gOp;first | refine opt rfl (by decide) rfl ?_ | refine opf rfl (by decide) rfl ?_) | refine ovx (op := .mapup _ _ _ _) rfl ?_ | refine ov1 rfl ?_ | refine omk rfl rfl (Nat.le_of_ble_eq_true rfl) (ab (Nat.le_of_ble_eq_true rfl) (by decide)) rfl rfl rfl ?_ | refine oam rfl rfl rfl (Nat.le_of_ble_eq_true rfl) rfl rfl (ab (Nat.le_of_ble_eq_true rfl) (by decide)) rfl ?_ | refine oak rfl rfl rfl rfl (ab (Nat.le_of_ble_eq_true rfl) (by decide)) rfl ?_ | apply o0) | (apply gR;first | apply rs | refine rr rfl rfl ?_ | apply rb | apply rk | apply rx | apply rl | apply rt | refine rd rfl rfl ?_ | refine rct rfl (by decide) ?_ | refine rcf rfl (by decide) ?_ | refine rg rfl (h4) rfl rfl rfl rfl rfl rfl rfl rfl rfl rfl rfl ?_) | (apply gK;first | apply ks | apply kb | apply kl | apply xb | apply xs | apply xl | refine xo (by decide) ?_ | apply kq) | (apply gF;first | (apply gFc;first | refine fw (oC1 (h1) rfl rfl rfl (o0 ⟨rfl,rfl⟩)) ?_ | refine fw (oC1 (h2) rfl rfl rfl (o0 ⟨rfl,rfl⟩)) ?_ | refine fw (oC1 (h3) rfl rfl rfl (o0 ⟨rfl,rfl⟩)) ?_) | (apply gFg;first | refine fz' rfl ?_ | refine fg rfl (by decide) rfl ?_ | refine ff rfl (by decide) ?_ | refine fw (og rfl (by decide) (oC1 (h1) rfl rfl rfl (o0 ⟨rfl,rfl⟩))) ?_ | refine fw (og rfl (by decide) (oC1 (h2) rfl rfl rfl (o0 ⟨rfl,rfl⟩))) ?_ | refine fw (og rfl (by decide) (oC1 (h3) rfl rfl rfl (o0 ⟨rfl,rfl⟩))) ?_) | (apply gFp;first | refine fpt rfl (by decide) rfl ?_ | refine fpf rfl (by decide) rfl ?_) | refine fw (ovx (op := .mapup _ _ _ _) rfl (o0 ⟨rfl,rfl⟩)) ?_ | refine fw (ov1 rfl (o0 ⟨rfl,rfl⟩)) ?_ | refine fw (omk rfl rfl (Nat.le_of_ble_eq_true rfl) (ab (Nat.le_of_ble_eq_true rfl) (by decide)) rfl rfl rfl (o0 ⟨rfl,rfl⟩)) ?_ | refine fw (oam rfl rfl rfl (Nat.le_of_ble_eq_true rfl) rfl rfl (ab (Nat.le_of_ble_eq_true rfl) (by decide)) rfl (o0 ⟨rfl,rfl⟩)) ?_ | refine fw (oak rfl rfl rfl rfl (ab (Nat.le_of_ble_eq_true rfl) (by decide)) rfl (o0 ⟨rfl,rfl⟩)) ?_ | apply fn0) | refine lt' rfl ?_)
   rfl
 | cons q qs =>
   rw [ht] at h4 hk
   refine ret_of rfl rfl (r0 ?_)
   (repeat first | (apply gO;first | (apply gOc;first | refine bR (h1) rfl rfl rfl ?_ | refine bR (h2) rfl rfl rfl ?_ | refine bR (h3) rfl rfl rfl ?_) | (apply gOg;first | refine oz rfl ?_ | refine og rfl (by decide) ?_ | refine of' rfl (by decide) ?_) | (apply gOp;first | refine opt rfl (by decide) rfl ?_ | refine opf rfl (by decide) rfl ?_) | refine ovx (op := .mapup _ _ _ _) rfl ?_ | refine ov1 rfl ?_ | refine omk rfl rfl (Nat.le_of_ble_eq_true rfl) (ab (Nat.le_of_ble_eq_true rfl) (by decide)) rfl rfl rfl ?_ | refine oam rfl rfl rfl (Nat.le_of_ble_eq_true rfl) rfl rfl (ab (Nat.le_of_ble_eq_true rfl) (by decide)) rfl ?_ | refine oak rfl rfl rfl rfl (ab (Nat.le_of_ble_eq_true rfl) (by decide)) rfl ?_ | apply o0) | (apply gR;first | apply rs | refine rr rfl rfl ?_ | apply rb | apply rk | apply rx | apply rl | apply rt | refine rd rfl rfl ?_ | refine rct rfl (by decide) ?_ | refine rcf rfl (by decide) ?_ | refine rgt rfl (h4) rfl rfl rfl rfl rfl rfl rfl rfl rfl rfl rfl ?_) | (apply gK;first | apply ks | apply kb | apply kl | apply xb | apply xs | apply xl | refine xo (by decide) ?_ | apply kq) | (apply gF;first | (apply gFc;first | refine fw (bR (h1) rfl rfl rfl (o0 ⟨rfl,rfl⟩)) ?_ | refine fw (bR (h2) rfl rfl rfl (o0 ⟨rfl,rfl⟩)) ?_ | refine fw (bR (h3) rfl rfl rfl (o0 ⟨rfl,rfl⟩)) ?_) | (apply gFg;first | refine fz' rfl ?_ | refine fg rfl (by decide) rfl ?_ | refine ff rfl (by decide) ?_ | refine fw (og rfl (by decide) (bR (h1) rfl rfl rfl (o0 ⟨rfl,rfl⟩))) ?_ | refine fw (og rfl (by decide) (bR (h2) rfl rfl rfl (o0 ⟨rfl,rfl⟩))) ?_ | refine fw (og rfl (by decide) (bR (h3) rfl rfl rfl (o0 ⟨rfl,rfl⟩))) ?_) | (apply gFp;first | refine fpt rfl (by decide) rfl ?_ | refine fpf rfl (by decide) rfl ?_) | refine fw (ovx (op := .mapup _ _ _ _) rfl (o0 ⟨rfl,rfl⟩)) ?_ | refine fw (ov1 rfl (o0 ⟨rfl,rfl⟩)) ?_ | refine fw (omk rfl rfl (Nat.le_of_ble_eq_true rfl) (ab (Nat.le_of_ble_eq_true rfl) (by decide)) rfl rfl rfl (o0 ⟨rfl,rfl⟩)) ?_ | refine fw (oam rfl rfl rfl (Nat.le_of_ble_eq_true rfl) rfl rfl (ab (Nat.le_of_ble_eq_true rfl) (by decide)) rfl (o0 ⟨rfl,rfl⟩)) ?_ | refine fw (oak rfl rfl rfl rfl (ab (Nat.le_of_ble_eq_true rfl) (by decide)) rfl (o0 ⟨rfl,rfl⟩)) ?_ | apply fn0) | refine lt' rfl ?_)
   exact ez (xs:=[.ms 3 qs.length 0 (qs.length+1),.d (.int .i64 0)]) (ids:=[]) rfl (ns (es:=q::qs) (ver:=qs.length) (ro:=false) (esz:=9) (by show some (Blk.rows qs.length false 10 ((ao (q::qs)).map (renL _)))=_;rw [bD]) rfl hk) rfl rfl rfl
theorem nS (f:Fo) (n:Nat):(f = .z\/FOk n f)->Ret VP (.fn 63) [.d f.d] [] (.d (.bool false)) []:=by
 have h64 : ∀ l:List D,Ret VP (.fn 105) [.d (.slice l),.d (.func 63 [] [])] [] (.d (.int .i64 (-1))) []->Ret VP (.fn 64) [.d (.slice l),.d (.func 63 [] [])] [] (.d (.bool false)) []:=by
  intro l h
  refine ret_of rfl rfl (r0 ?_)
  refine Z2 ?_
  rfl
 have h0:Ret VP (.fn 105) [.d (.slice []),.d (.func 63 [] [])] [] (.d (.int .i64 (-1))) []:=by
  refine ret_of rfl rfl (r0 ?_)
  refine Z2 ?_
  rfl
 have g0:=h64 _ h0
 induction f with
 | z =>
   intro _
   refine ret_of rfl rfl (r0 ?_)
   refine Z2 ?_
   rfl
 | int i =>
   intro _
   refine ret_of rfl rfl (r0 ?_)
   refine Z2 ?_
   rfl
 | var v =>
   intro _
   refine ret_of rfl rfl (r0 ?_)
   refine Z2 ?_
   rfl
 | no a ha =>
   intro h
   have ha:=ha (.inr (h.resolve_left (by simp)))
   have h1:Ret VP (.fn 105) [.d (.slice [a.d]),.d (.func 63 [] [])] [] (.d (.int .i64 (-1))) []:=by
    refine ret_of rfl rfl (r0 ?_)
    refine Z2 ?_
    rfl
   have h2:=h64 _ h1
   refine ret_of rfl rfl (r0 ?_)
   refine Z2 ?_
   rfl
 | bin o a b ha hb =>
   intro h
   have h:=h.resolve_left (by simp)
   have ha:=ha (.inr h.2.1)
   have hb:=hb (.inr h.2.2)
   have h1:Ret VP (.fn 105) [.d (.slice [a.d,b.d]),.d (.func 63 [] [])] [] (.d (.int .i64 (-1))) []:=by
    refine ret_of rfl rfl (r0 ?_)
    refine Z2 ?_
    rfl
   have h2:=h64 _ h1
   have t:((o:Int)==2)=false:=by have:=h.1;simp;omega
   refine ret_of rfl rfl (r0 ?_)
   refine Z2 ?_
   rfl
 | cond a b c ha hb hc =>
   intro h
   have h:=h.resolve_left (by simp)
   have ha:=ha (.inr h.1)
   have hb:=hb (.inr h.2.1)
   have hc:=hc (.inr h.2.2)
   have h1:Ret VP (.fn 105) [.d (.slice [a.d,b.d,c.d]),.d (.func 63 [] [])] [] (.d (.int .i64 (-1))) []:=by
    refine ret_of rfl rfl (r0 ?_)
    refine Z2 ?_
    rfl
   have h2:=h64 _ h1
   refine ret_of rfl rfl (r0 ?_)
   refine Z2 ?_
   rfl
end Go.Proofs.YtncfpmehhfdipaaGreat
namespace Go.Proofs.YtncfpmehhfdipaaGreat
open Go.IntWalk
attribute [local irreducible] au
set_option maxHeartbeats 4000000
set_option maxRecDepth 100000
theorem ab9 (l:List D) (h8:l.length < 1000) (hF : ∀ x∈l,∃ lo w,x=dsD 1 lo w):Ret VP (.fn 61) [.d (.slice l),.d (.func 34 [] [])] [] (.d (.int .i64 (-1))) []:=by
 have h34 : ∀ lo w,Ret VP (.fn 34) [.d (dsD 1 lo w)] [] (.d (.bool false)) []:=by
  intro lo w
  refine ret_of rfl rfl (r0 ?_)
  refine Z2 ?_
  rfl
 refine ret_of rfl rfl (r0 ?_)
 refine Z1 ?_
 refine af rfl ?_
 refine cB (fun i=>[.d (.slice l),.d (.func 34 [] []),.d (.int .i64 (l.length:Nat)),.d (.int .i64 i)]) (fun _=>[]) l.length (fun i hi hn => ?_) ?_
 · have hwi:=ac i (by omega)
   obtain ⟨lo,w,hx⟩:=hF l[i] (List.getElem_mem hi)
   have h1:=h34 lo w
   have hg:l[i]?=some (dsD 1 lo w):=by rw [List.getElem?_eq_getElem hi,hx]
   have ht:decide ((i:Int) < ((l.length:Nat):Int))=true:=decide_eq_true (by omega)
   unfold ah
   refine Z1 ?_
   rw [hwi]
   exact af rfl hn
 · have hf:decide ((l.length:Int) < ((l.length:Nat):Int))=false:=decide_eq_false (by omega)
   unfold ah
   refine Z1 ?_
   rfl
theorem vB {n:Nat} {W:List (List D)} : ∀ (h:Nat) (l:List Cm),(∀ c∈l,Ok n W h c) -> ∀ x∈Cm.tbs l,∃ lo w,x=dsD 1 lo w/\w∈W:=by
 intro h
 induction h with
 | zero=>intro l hl x hx;rw [b5 hl] at hx;simp [Cm.tbs] at hx
 | succ h ih =>
   intro l
   induction l with
   | nil=>intro _ x hx;simp [Cm.tbs] at hx
   | cons c l ihl =>
     intro hl x hx
     simp only [Cm.tbs,List.mem_append] at hx
     rcases hx with hx | hx
     · have hc:=hl c (by simp)
       cases hc with
       | draw v s lo w hv hs hw h1 h2=>simp [Cm.tb,Cm.tbs,Di.d,Di.k,Di.lo,Di.w] at hx;exact ⟨lo,w,hx,hw⟩
       | iff f a b hf ha hb ca cb =>
         simp [Cm.tb] at hx
         exact hx.elim (ih a ca x) (ih b cb x)
       | _=>simp [Cm.tb,Cm.tbs] at hx
     · exact ihl (fun c hc=>hl c (by simp [hc])) x hx
theorem o6 {n:Nat} {W:List (List D)} : ∀ (h:Nat) (l:List Cm),(∀ c∈l,Ok n W h c)->l.length<=8->Ret VP (.fn 35) [.d (.slice (l.map Cm.d)),.d (.func 36 [] [])] [] (.d (.bool false)) []:=by
 intro h
 induction h with
 | zero=>intro l hl h8;exact u5 l h8 fun c hc=>(gf (hl c hc)).elim
 | succ h ih =>
   intro l hl h8
   refine u5 l h8 fun c hm => ?_
   have hok:=hl c hm
   obtain ⟨k,v,s,f,t,a,b,g,o⟩:=c
   have hv:=hok.view
   have h1:=ih a hv.ca (by have:=hv.ha;omega)
   have h2:=ih b hv.cb (by have:=hv.hb;omega)
   have hf:f = .z\/FOk n f:=by cases hok<;>first | exact .inl rfl | exact .inr (by rename_i hf;exact hf.1) | (rename_i hf _ _ _ _;exact .inr hf.1)
   have h3:=nS f n hf
   have h4:Ret VP (.fn 64) [.d (.slice (g.map Fo.d)),.d (.func 63 [] [])] [] (.d (.bool false)) []:=by
    have h5:Ret VP (.fn 105) [.d (.slice (g.map Fo.d)),.d (.func 63 [] [])] [] (.d (.int .i64 (-1))) []:=by
     rcases hv.gg with rfl | ⟨x,rfl,hx⟩ | ⟨x,y,rfl,hx,hy⟩
     · refine ret_of rfl rfl (r0 ?_)
       refine Z2 ?_
       rfl
     · have q:=nS x n (.inr hx.1)
       refine ret_of rfl rfl (r0 ?_)
       refine Z2 ?_
       rfl
     · have q:=nS x n (.inr hx.1)
       have q2:=nS y n (.inr hy.1)
       refine ret_of rfl rfl (r0 ?_)
       (have hz1:=q2;refine Z2 ?_)
       rfl
    refine ret_of rfl rfl (r0 ?_)
    refine Z1 ?_
    rfl
   rw [Cm.d_eq]
   refine ret_of rfl rfl (r0 ?_)
   refine Z2 ?_
   rfl
theorem jk {cs:List Ce} {l:List Cm} {os:List Nat} {es:List Ce} (G:GoodM cs l os es):Ret VP (.fn 16) [.d (moD 0 cs (Cm.nums l 0).1 os (dY es))] [] (.d (.int .i64 0)) []:=by
 have h1:=ee G.num
 have h2:=qx G
 have h3:=wN cs (by have:=G.h4;omega) G.hcs
 have hc:=bU (by omega) G.hl G.h8
 have ht:=tbs_le l
 have h5:=ab9 (Cm.tbs l) (by omega) fun x hx=>by
  obtain ⟨lo,w,h,_⟩:=vB 4 l G.hl x hx
  exact ⟨lo,w,h⟩
 have h4:Ret VP (.fn 33) [.d (.slice (Cm.tbs l)),.d (.func 34 [] [])] [] (.d (.bool false)) []:=by
  refine ret_of rfl rfl (r0 ?_)
  refine Z1 ?_
  rfl
 have h6:=o6 4 (Cm.nums l 0).1 G.num.hl G.num.h8
 refine ret_of rfl rfl (r0 ?_)
 refine Z2 ?_
 rfl
theorem rN {cs:List Ce} {l:List Cm} {os:List Nat} {es:List Ce} (G:GoodM cs l os es) (b:Nat) (h1:1<=b) (h2:b<=1000):Ret VP (.fn 436) [.d (moD 0 cs (Cm.nums l 0).1 os (dY es)),.d (.int .i64 b)] [] (.d (.int .i64 0)) []:=by
 have h3:=jk G
 have h4:Ret VP (.fn 439) [.d (moD 0 cs (Cm.nums l 0).1 os (dY es))] [] (.d (.int .i64 0)) []:=by
  refine ret_of rfl rfl (r0 ?_)
  refine Z2 ?_
  rfl
 have t1:¬ (b:Int) < 1:=by omega
 have t2:¬ (b:Int) > 1048576:=by omega
 refine ret_of rfl rfl (r0 ?_)
 (have hz2:=decide_eq_false t1;have hz3:=decide_eq_false t2;refine Z2 ?_)
 rfl
def sat (n:Int):Int:=if 1073741824 < n then 1073741824 else if n < -1073741824 then -1073741824 else n
def tr (b:Bool):Int:=if b then 1 else 0
def iD (n:Int):D := .int .i64 n
def Fo.ev (st:List Int):Fo->Int
 | .z=>0
 | .int i=>sat i
 | .var v=>sat (st.getD v 0)
 | .no a=>tr (a.ev st==0)
 | .bin o a b=>match o with
   | 5=>tr (a.ev st != 0&&b.ev st != 0)
   | 6=>tr (a.ev st != 0||b.ev st != 0)
   | 7=>tr (a.ev st==b.ev st)
   | 8=>tr (decide (a.ev st < b.ev st))
   | 9=>tr (decide (a.ev st<=b.ev st))
   | 10=>sat (a.ev st+b.ev st)
   | 11=>sat (a.ev st - b.ev st)
   | _=>sat (a.ev st*b.ev st)
 | .cond a b c=>if a.ev st==0 then c.ev st else b.ev st
theorem qJ (n:Int) : -1073741824<=sat n/\sat n<=1073741824:=by unfold sat;split<;>(try split)<;>omega
theorem Ho (b:Bool) : -1073741824<=tr b/\tr b<=1073741824:=by cases b<;>decide
theorem IZ (st:List Int) (f:Fo) : -1073741824<=f.ev st/\f.ev st<=1073741824:=by
 induction f with
 | z=>simp [Fo.ev]
 | int i=>exact qJ _
 | var v=>exact qJ _
 | no a _=>exact Ho _
 | bin o a b _ _ =>
   simp only [Fo.ev]
   split<;>first | exact Ho _ | exact qJ _
 | cond a b c _ hb hc =>
   simp only [Fo.ev]
   split<;>assumption
theorem II (a b:Int) (ha : -1073741824<=a/\a<=1073741824) (hb : -1073741824<=b/\b<=1073741824) : -9223372036854775808<=a*b/\a*b<=9223372036854775807:=by
 have h1:(a*b).natAbs<=1073741824*1073741824:=by
  rw [Int.natAbs_mul]
  exact Nat.mul_le_mul (by omega) (by omega)
 omega
theorem ix (n:Int):Ret VP (.fn 194) [.d (.int .i64 n)] [] (.d (.int .i64 (sat n))) []:=by
 refine ret_of rfl rfl (r0 ?_)
 refine Z2 ?_
 refine fe rfl (dI ?_) rfl
 simp only [decide_eq_true_eq,gt_iff_lt,sat]
 (repeat' split)<;>omega
theorem bN (b:Bool):Ret VP (.fn 108) [.d (.bool b)] [] (.d (.int .i64 (tr b))) []:=by
 cases b
 all_goals (refine ret_of rfl rfl (r0 ?_);refine Z2 ?_;rfl)
theorem tX (n:Nat) (st:List Int) (hn:st.length=n) (f:Fo):FOk n f->Ret VP (.fn 153) [.d f.d,.d (.slice (st.map iD))] [] (.d (.int .i64 (f.ev st))) []:=by
 induction f with
 | z=>exact fun h=>h.elim
 | int i =>
   intro _
   have h:=ix i
   refine ret_of rfl rfl (r0 ?_)
   refine Z2 ?_
   rfl
 | var v =>
   intro hv
   have hv:v < n:=hv
   have h:=ix (st.getD v 0)
   have hg:(st.map iD)[v]?=some (iD (st.getD v 0)):=by
    rw [List.getElem?_map,List.getElem?_eq_getElem (by omega),List.getD_eq_getElem?_getD,List.getElem?_eq_getElem (by omega)];rfl
   refine ret_of rfl rfl (r0 ?_)
   refine Z2 ?_
   rfl
 | no a ha =>
   intro h
   have ha:=ha h
   have h1:=bN (a.ev st==0)
   refine ret_of rfl rfl (r0 ?_)
   refine Z2 ?_
   rfl
 | cond a b c ha hb hc =>
   intro h
   have ha:=ha h.1
   have hb:=hb h.2.1
   have hc:=hc h.2.2
   by_cases h0:a.ev st=0
   · rw [show (Fo.cond a b c).ev st=c.ev st by simp [Fo.ev,h0]]
     have t:(a.ev st != 0)=false:=by simp [h0]
     refine ret_of rfl rfl (r0 ?_)
     refine Z2 ?_
     rfl
   · rw [show (Fo.cond a b c).ev st=b.ev st by simp [Fo.ev,h0]]
     have t:(a.ev st != 0)=true:=by simp [h0]
     refine ret_of rfl rfl (r0 ?_)
     refine Z2 ?_
     rfl
 | bin o a b ha hb =>
   intro h
   have ha:=ha h.2.1
   have hb:=hb h.2.2
   have la:=IZ st a
   have lb:=IZ st b
   rcases h.1 with rfl | rfl | rfl | rfl | rfl | rfl | rfl | rfl
   · have h1:=bN (a.ev st != 0&&b.ev st != 0)
     by_cases h0:a.ev st=0
     · have t:(a.ev st != 0)=false:=by simp [h0]
       rw [show (Fo.bin 5 a b).ev st=0 by simp [Fo.ev,h0,tr]]
       have h1:=bN false
       refine ret_of rfl rfl (r0 ?_)
       refine Z2 ?_
       rfl
     · have t:(a.ev st != 0)=true:=by simp [h0]
       rw [show (Fo.bin 5 a b).ev st=tr (b.ev st != 0) by simp only [Fo.ev,t,Bool.true_and,Bool.false_or]]
       have h1:=bN (b.ev st != 0)
       refine ret_of rfl rfl (r0 ?_)
       refine Z2 ?_
       rfl
   · by_cases h0:a.ev st=0
     · have t:(a.ev st != 0)=false:=by simp [h0]
       rw [show (Fo.bin 6 a b).ev st=tr (b.ev st != 0) by simp only [Fo.ev,t,Bool.true_and,Bool.false_or]]
       have h1:=bN (b.ev st != 0)
       refine ret_of rfl rfl (r0 ?_)
       refine Z2 ?_
       rfl
     · have t:(a.ev st != 0)=true:=by simp [h0]
       rw [show (Fo.bin 6 a b).ev st=1 by simp [Fo.ev,h0,tr]]
       have h1:=bN true
       refine ret_of rfl rfl (r0 ?_)
       refine Z2 ?_
       rfl
   · have h1:=bN (a.ev st==b.ev st)
     refine ret_of rfl rfl (r0 ?_)
     refine Z2 ?_
     rfl
   · have h1:=bN (decide (a.ev st < b.ev st))
     refine ret_of rfl rfl (r0 ?_)
     refine Z2 ?_
     rfl
   · have h1:=bN (decide (a.ev st<=b.ev st))
     refine ret_of rfl rfl (r0 ?_)
     refine Z2 ?_
     rfl
   · have h1:=ix (IntKind.i64.wrap (a.ev st+b.ev st))
     have hw:IntKind.i64.wrap (a.ev st+b.ev st)=a.ev st+b.ev st:=by rw [i64_in]<;>omega
     refine ret_of rfl rfl (r0 ?_)
     refine Z2 ?_
     refine fe rfl (dI ?_) rfl
     rw [hw];rfl
   · have h1:=ix (IntKind.i64.wrap (a.ev st - b.ev st))
     have hw:IntKind.i64.wrap (a.ev st - b.ev st)=a.ev st - b.ev st:=by rw [i64_in]<;>omega
     refine ret_of rfl rfl (r0 ?_)
     refine Z2 ?_
     refine fe rfl (dI ?_) rfl
     rw [hw];rfl
   · have h1:=ix (IntKind.i64.wrap (a.ev st*b.ev st))
     have hw:IntKind.i64.wrap (a.ev st*b.ev st)=a.ev st*b.ev st:=by rw [i64_in];exact II _ _ la lb
     refine ret_of rfl rfl (r0 ?_)
     refine Z2 ?_
     refine fe rfl (dI ?_) rfl
     rw [hw];rfl
def lpE (i:Nat):Blk := .loop 0 .none [(3,.ptr i 0 0 0),(4,.ptr (i+1) 0 0 0),(5,.ptr (i+2) 0 0 0),(8,.ptr (i+3) 0 0 0)] [20] rU rT
def cI (n:Int):Option Blk:=some (.rows 0 false 1 [[.d (.int .i64 n)]])
def rdE (st:List Int):aa:=[some (lpE 1),some (.rows 0 false 1 [[.d (.slice (st.map iD))]]),cI 0,cI 0,cI 0]
theorem ll (n:Nat) (st:List Int) (hn:st.length=n) (f:Fo) (h:FOk n f):Ret VP (.round 0) [.d f.d] (rdE st) (.d (.bool true)) (rdE st):=by
 have ⟨a1,a3,a4,a13⟩:=amK
 cases f with
 | z=>exact h.elim
 | int i =>
   refine cq rfl rfl (r0 ?_)
   refine Z2 ?_
   refine ⟨rfl,_,_,_,_,_,rfl,r0 ?_⟩
   refine Z2 ?_
   rfl
 | var v =>
   have hv:v < n:=h
   have t1:¬ (v:Int) < 0:=by omega
   have t2:¬ ((v:Int)>=(((st.map iD).length:Nat):Int)):=by rw [List.length_map];omega
   refine cq rfl rfl (r0 ?_)
   refine Z2 ?_
   refine ⟨rfl,_,_,_,_,_,rfl,r0 ?_⟩
   (have hz1:=decide_eq_false t1;have hz2:=decide_eq_false t2;refine Z2 ?_)
   rfl
 | no a =>
   refine cq rfl rfl (r0 ?_)
   refine Z2 ?_
   refine ⟨rfl,_,_,_,_,_,rfl,r0 ?_⟩
   refine Z2 ?_
   rfl
 | bin o a b =>
   have h1:=ari o h.1
   have t1:((o:Int)==2)=false:=by have:=h.1;simp;omega
   have t2:((o:Int)==3)=false:=by have:=h.1;simp;omega
   refine cq rfl rfl (r0 ?_)
   refine Z2 ?_
   refine ⟨rfl,_,_,_,_,_,rfl,r0 ?_⟩
   refine Z2 ?_
   rfl
 | cond a b c =>
   refine cq rfl rfl (r0 ?_)
   refine Z2 ?_
   refine ⟨rfl,_,_,_,_,_,rfl,r0 ?_⟩
   refine Z2 ?_
   rfl
def aaI:V := .func 193 [] [.d (.iptr [.int .i64 200] 0),.ptr 0 0 0 0,.ptr 1 0 0 0]
def stG (st:List Int):aa:=[some (.rows 0 false 1 [[.yield 2]]),some (.rows 0 false 1 [[aaI]]),some (lpE 3),some (.rows 0 false 1 [[.d (.slice (st.map iD))]]),cI 0,cI 0,cI 0]
theorem aaJ (n:Nat) (st:List Int) (hn:st.length=n) (f:Fo):FOk n f -> ∀ v:Nat,v+f.dp<=200->Ret VP (.fn 193) [.d f.d,.d (.int .i64 v),.d (.iptr [.int .i64 200] 0),.ptr 0 0 0 0,.ptr 1 0 0 0] (stG st) (.d (.bool true)) (stG st):=by
 induction f with
 | z=>exact fun h=>h.elim
 | int i =>
   intro h v hv
   have hr:=ll n st hn _ h
   have t:¬ (v:Int) > 200:=by omega
   refine ret_of rfl rfl (r0 ?_)
   (have hz3:=decide_eq_false t;refine Z2 ?_)
   rfl
 | var u =>
   intro h v hv
   have hr:=ll n st hn _ h
   have t:¬ (v:Int) > 200:=by omega
   refine ret_of rfl rfl (r0 ?_)
   (have hz4:=decide_eq_false t;refine Z2 ?_)
   rfl
 | no a ha =>
   intro h v hv
   simp only [Fo.dp] at hv
   have hr:=ll n st hn _ h
   have t:¬ (v:Int) > 200:=by omega
   have ha:=ha h (v+1) (by omega)
   rw [<- ac v (by omega)] at ha
   refine ret_of rfl rfl (r0 ?_)
   (have hz5:=decide_eq_false t;refine Z2 ?_)
   rfl
 | bin o a b ha hb =>
   intro h v hv
   simp only [Fo.dp] at hv
   have hr:=ll n st hn _ h
   have t:¬ (v:Int) > 200:=by omega
   have ha:=ha h.2.1 (v+1) (by omega)
   have hb:=hb h.2.2 (v+1) (by omega)
   rw [<- ac v (by omega)] at ha hb
   refine ret_of rfl rfl (r0 ?_)
   (have hz6:=decide_eq_false t;refine Z2 ?_)
   rfl
 | cond a b c ha hb hc =>
   intro h v hv
   simp only [Fo.dp] at hv
   have hr:=ll n st hn _ h
   have t:¬ (v:Int) > 200:=by omega
   have ha:=ha h.1 (v+1) (by omega)
   have hb:=hb h.2.1 (v+1) (by omega)
   have hc:=hc h.2.2 (v+1) (by omega)
   rw [<- ac v (by omega)] at ha hb hc
   refine ret_of rfl rfl (r0 ?_)
   (have hz7:=decide_eq_false t;refine Z2 ?_)
   rfl
theorem s9 (n:Nat) (st:List Int) (hn:st.length=n) (f:Fo) (h:FOk n f) (hd:f.dp<=100):Ret VP (.fn 192) [.yield 0,.d (.iptr [.int .i64 200] 0),.d (.iptr f.d.cells 0)] (rdE st) (.d (.tuple [])) (rdE st):=by
 have h1:=aaJ n st hn f h 1 (by omega)
 refine ret_of rfl rfl (r0 ?_)
 refine Z1 ?_
 rfl
theorem aE (n:Nat) (st:List Int) (hn:st.length=n) (f:Fo) (h:FOk n f) (hd:f.dp<=10) (hs:f.sz<=100):Ret VP (.fn 109) [.d f.d,.d (.slice (st.map iD))] [] (.d (.tuple [.int .i64 (f.ev st),.int .i64 0])) []:=by
 have h1:=cj f (by omega) (by omega)
 have h2:Ret VP (.fn 151) [.d f.d,.d (.int .i64 200)] [] (.d (.func 192 [] [.iptr [.int .i64 200] 0,.iptr f.d.cells 0])) []:=by
  refine ret_of rfl rfl (r0 ?_)
  refine Z1 ?_
  rfl
 have h3:=s9 n st hn f h (by omega)
 have h4:=tX n st hn f h
 have t:¬ (f.dp:Int) > 200:=by omega
 refine ret_of rfl rfl (r0 ?_)
 (repeat first | (apply gO;first | (apply gOc;first | refine oC1 (h1) rfl rfl rfl ?_ | refine oC1 (h2) rfl rfl rfl ?_ | refine oC1 (h4) rfl rfl rfl ?_) | (apply gOg;first | refine oz rfl ?_ | refine og rfl (decide_eq_false t) ?_ | refine of' rfl (decide_eq_false t) ?_ | refine og rfl (by decide) ?_ | refine of' rfl (by decide) ?_) | (apply gOp;first | refine opt rfl (decide_eq_false t) rfl ?_ | refine opf rfl (decide_eq_false t) rfl ?_ | refine opt rfl (by decide) rfl ?_ | refine opf rfl (by decide) rfl ?_) | refine ovx (op := .mapup _ _ _ _) rfl ?_ | refine ov1 rfl ?_ | refine omk rfl rfl (Nat.le_of_ble_eq_true rfl) (ab (Nat.le_of_ble_eq_true rfl) (by decide)) rfl rfl rfl ?_ | refine oam rfl rfl rfl (Nat.le_of_ble_eq_true rfl) rfl rfl (ab (Nat.le_of_ble_eq_true rfl) (by decide)) rfl ?_ | refine oak rfl rfl rfl rfl (ab (Nat.le_of_ble_eq_true rfl) (by decide)) rfl ?_ | apply o0) | (apply gR;first | apply rs | refine rr rfl rfl ?_ | apply rb | apply rk | apply rx | apply rl | apply rt | refine rd rfl rfl ?_ | refine rct rfl (decide_eq_false t) ?_ | refine rcf rfl (decide_eq_false t) ?_ | refine rct rfl (by decide) ?_ | refine rcf rfl (by decide) ?_ | refine rg rfl (h3) rfl rfl rfl rfl rfl rfl rfl rfl rfl rfl rfl ?_) | (apply gK;first | apply ks | apply kb | apply kl | apply xb | apply xs | apply xl | refine xo (by decide) ?_ | apply kq) | (apply gF;first | (apply gFc;first | refine fw (oC1 (h1) rfl rfl rfl (o0 ⟨rfl,rfl⟩)) ?_ | refine fw (oC1 (h2) rfl rfl rfl (o0 ⟨rfl,rfl⟩)) ?_ | refine fw (oC1 (h4) rfl rfl rfl (o0 ⟨rfl,rfl⟩)) ?_) | (apply gFg;first | refine fz' rfl ?_ | refine fg rfl (decide_eq_false t) rfl ?_ | refine ff rfl (decide_eq_false t) ?_ | refine fg rfl (by decide) rfl ?_ | refine ff rfl (by decide) ?_ | refine fw (og rfl (decide_eq_false t) (oC1 (h1) rfl rfl rfl (o0 ⟨rfl,rfl⟩))) ?_ | refine fw (og rfl (decide_eq_false t) (oC1 (h2) rfl rfl rfl (o0 ⟨rfl,rfl⟩))) ?_ | refine fw (og rfl (decide_eq_false t) (oC1 (h4) rfl rfl rfl (o0 ⟨rfl,rfl⟩))) ?_ | refine fw (og rfl (by decide) (oC1 (h1) rfl rfl rfl (o0 ⟨rfl,rfl⟩))) ?_ | refine fw (og rfl (by decide) (oC1 (h2) rfl rfl rfl (o0 ⟨rfl,rfl⟩))) ?_ | refine fw (og rfl (by decide) (oC1 (h4) rfl rfl rfl (o0 ⟨rfl,rfl⟩))) ?_) | (apply gFp;first | refine fpt rfl (decide_eq_false t) rfl ?_ | refine fpf rfl (decide_eq_false t) rfl ?_ | refine fpt rfl (by decide) rfl ?_ | refine fpf rfl (by decide) rfl ?_) | refine fw (ovx (op := .mapup _ _ _ _) rfl (o0 ⟨rfl,rfl⟩)) ?_ | refine fw (ov1 rfl (o0 ⟨rfl,rfl⟩)) ?_ | refine fw (omk rfl rfl (Nat.le_of_ble_eq_true rfl) (ab (Nat.le_of_ble_eq_true rfl) (by decide)) rfl rfl rfl (o0 ⟨rfl,rfl⟩)) ?_ | refine fw (oam rfl rfl rfl (Nat.le_of_ble_eq_true rfl) rfl rfl (ab (Nat.le_of_ble_eq_true rfl) (by decide)) rfl (o0 ⟨rfl,rfl⟩)) ?_ | refine fw (oak rfl rfl rfl rfl (ab (Nat.le_of_ble_eq_true rfl) (by decide)) rfl (o0 ⟨rfl,rfl⟩)) ?_ | apply fn0) | refine lt' rfl ?_)
 rfl
def Ce.cl (c:Ce) (n:Int):Int:=if c.k=1 then tr (n != 0) else max c.lo (min n c.hi)
theorem bI (c:Ce) (hc:c.Ok) (n:Int):Ret VP (.fn 66) [.d c.d,.d (.int .i64 n)] [] (.d (.int .i64 (c.cl n))) []:=by
 rcases hc with rfl | ⟨lo,hi,rfl,_⟩
 · have h:=bN (n != 0)
   refine ret_of rfl rfl (r0 ?_)
   refine Z2 ?_
   rfl
 · refine ret_of rfl rfl (r0 ?_)
   refine Z2 ?_
   have e:(⟨2,lo,hi⟩:Ce).cl n=max lo (min n hi):=by simp [Ce.cl]
   rw [e]
   refine fe rfl (dI ?_) rfl
   simp only [decide_eq_true_eq,gt_iff_lt]
   omega
end Go.Proofs.YtncfpmehhfdipaaGreat
