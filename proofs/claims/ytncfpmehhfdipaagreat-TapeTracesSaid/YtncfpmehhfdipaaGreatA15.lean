/- Runs of the traces and of the tapes, what is observed, and where they are cut. -/
import Derived.Test.YtncfpmehhfdipaaGreatA08
import Derived.Test.YtncfpmehhfdipaaGreatA13
import Derived.Test.YtncfpmehhfdipaaGreatA14
set_option linter.unusedSimpArgs false
set_option linter.unusedVariables false
set_option linter.unnecessarySimpa false
namespace Go.Proofs.YtncfpmehhfdipaaGreat
open Go.IntWalk
attribute [local irreducible] au
set_option maxHeartbeats 16000000
set_option maxRecDepth 100000
theorem a6Z (F:Fix) (hcs : ∀ c∈F.cs,c.Ok) (x:X) (p:PSt) (shq0:Shp) (hst:x.st.length=F.cs.length) (l:List D) (i:Nat) (hi:i < l.length) (hl:l.length < 1000) (f:Fo) (hf:cU F.cs.length f) (hg:l[i]?=some (cmD 4 0 0 f .z [] [] [] [])) (h0:f.ev x.st≠0) {K:List Fr} {Q:Out->Env->aa->Prop} (h:ah VP shq0.kk [0,21,22,23] ag [.ptr 0 0 0 0,.d (.slice l),.d (.int .i64 (l.length:Nat)),.d (.int .i64 (i+1:Nat))] (stq F x p shq0) K Q):ah VP shq0.kk [0,21,22,23] ag [.ptr 0 0 0 0,.d (.slice l),.d (.int .i64 (l.length:Nat)),.d (.int .i64 i)] (stq F x p shq0) K Q:=by
 have hwi:=ac i (by omega)
 have ht:decide ((i:Int) < ((l.length:Nat):Int))=true:=decide_eq_true (by omega)
 have hE:=aE F.cs.length x.st hst f hf.1 (by have:=hf.2.1;omega) (by have:=hf.2.2;omega)
 have t0:(f.ev x.st==0)=false:=by simpa using h0
 cases shq0
 all_goals
  unfold ah
  (refine Z3r ?_;(repeat first | (refine fw (bR hE (aK rfl (by simp) (bM _)) rfl rfl (o0 ⟨rfl,rfl⟩)) ?_;refine Z3r ?_)))
  rw [hwi]
  refine hdX rfl rfl rfl rfl ?_
  exact h
theorem a8D (F:Fix) (hcs : ∀ c∈F.cs,c.Ok) (x:X) (p:PSt) (shq0:Shp) (hst:x.st.length=F.cs.length) (l:List D) (i:Nat) (hi:i < l.length) (hl:l.length < 1000) (f:Fo) (hf:cU F.cs.length f) (hg:l[i]?=some (cmD 4 0 0 f .z [] [] [] [])) (h0:f.ev x.st=0) {K:List Fr} : ah VP shq0.kk [0,21,22,23] ag [.ptr 0 0 0 0,.d (.slice l),.d (.int .i64 (l.length:Nat)),.d (.int .i64 i)] (stq F x p shq0) K (fun o e s=>fin f67.keep shq0.kk f67.res o e s=some (.d (.bool false),(stq F { x with en:=2 } p shq0))):=by
 have hwi:=ac i (by omega)
 have ht:decide ((i:Int) < ((l.length:Nat):Int))=true:=decide_eq_true (by omega)
 have hE:=aE F.cs.length x.st hst f hf.1 (by have:=hf.2.1;omega) (by have:=hf.2.2;omega)
 have t0:(f.ev x.st==0)=true:=by simpa using h0
 cases shq0
 all_goals
  unfold ah
  (refine Z3r ?_;(repeat first | (refine fw (bR hE (aK rfl (by simp) (bM _)) rfl rfl (o0 ⟨rfl,rfl⟩)) ?_;refine Z3r ?_)))
  exact kG (xs:=[.d (.bool false)]) rfl rfl rfl rfl
theorem a9B (F:Fix) (hcs : ∀ c∈F.cs,c.Ok) (x:X) (p:PSt) (shq0:Shp) (hst:x.st.length=F.cs.length) (l:List D) (i:Nat) (hi:i < l.length) (hl:l.length < 1000) (hg:l[i]?=some (cmD 5 0 0 .z .z [] [] [] [])) {K:List Fr} : ah VP shq0.kk [0,21,22,23] ag [.ptr 0 0 0 0,.d (.slice l),.d (.int .i64 (l.length:Nat)),.d (.int .i64 i)] (stq F x p shq0) K (fun o e s=>fin f67.keep shq0.kk f67.res o e s=some (.d (.bool false),(stq F { x with en:=3 } p shq0))):=by
 have hwi:=ac i (by omega)
 have ht:decide ((i:Int) < ((l.length:Nat):Int))=true:=decide_eq_true (by omega)
 cases shq0
 all_goals
  unfold ah
  refine Z3r ?_
  exact kG (xs:=[.d (.bool false)]) rfl rfl rfl rfl
end Go.Proofs.YtncfpmehhfdipaaGreat
namespace Go.Proofs.YtncfpmehhfdipaaGreat
open Go.IntWalk
attribute [local irreducible] au
set_option maxHeartbeats 4000000
set_option maxRecDepth 100000
noncomputable def drX (cs:List Ce) (v s:Int) (t:Di) (i:Nat) (x:X):X :=
 { ch:=x.ch++[(s.toNat,i)],m:=x.m*val2 (t.w.getD i p0),st:=x.st.set v.toNat (clA cs v.toNat (t.lo+(i:Nat))),en:=x.en,tk:=x.tk+1 }
def stX (cs:List Ce) (g:List Fo) (o:List Nat) (x:X):X :=
 match g,o with
 | [f1],[o1] => { x with st:=x.st.set o1 (clA cs o1 (f1.ev x.st)) }
 | [f1,f2],[o1,o2] => { x with st:=(x.st.set o1 (clA cs o1 (f1.ev x.st))).set o2 (clA cs o2 (f2.ev x.st)) }
 | _,_=>x
mutual
noncomputable def Cm.exO (cs:List Ce) (q:Nat->List D->Nat):Cm->X->X×Bool
 | .mk k v s f t a b g o,x =>
   if k=1 then (stX cs g o x,true)
   else if k=2 then (drX cs v s t (q x.tk t.w) x,true)
   else if k=3 then
    if f.ev x.st=0 then Cm.exsO cs q b x else Cm.exsO cs q a x
   else if k=4 then
    if f.ev x.st=0 then ({ x with en:=2 },false) else (x,true)
   else ({ x with en:=3 },false)
noncomputable def Cm.exsO (cs:List Ce) (q:Nat->List D->Nat):List Cm->X->X×Bool
 | [],x=>(x,true)
 | c::l,x=>if (c.exO cs q x).2 then Cm.exsO cs q l (c.exO cs q x).1 else ((c.exO cs q x).1,false)
end
mutual
noncomputable def Cm.wO (cs:List Ce) (q:Nat->List D->Nat):Cm->X->List (List D)
 | .mk k v s f t a b g o,x =>
   if k=2 then [t.w]
   else if k=3 then
    if f.ev x.st=0 then Cm.wsO cs q b x else Cm.wsO cs q a x
   else []
noncomputable def Cm.wsO (cs:List Ce) (q:Nat->List D->Nat):List Cm->X->List (List D)
 | [],_=>[]
 | c::l,x=>c.wO cs q x++(if (c.exO cs q x).2 then Cm.wsO cs q l (c.exO cs q x).1 else [])
end
inductive TreeX where
 | tip (y:X)
 | node (w:List D) (k:Nat->TreeX)
mutual
noncomputable def Cm.exT (cs:List Ce):Cm->X->(X->TreeX)->TreeX
 | .mk k v s f t a b g o,x,c =>
   if k=1 then c (stX cs g o x)
   else if k=2 then .node t.w (fun i=>c (drX cs v s t i x))
   else if k=3 then
    if f.ev x.st=0 then Cm.exsT cs b x c else Cm.exsT cs a x c
   else if k=4 then
    if f.ev x.st=0 then .tip { x with en:=2 } else c x
   else .tip { x with en:=3 }
noncomputable def Cm.exsT (cs:List Ce):List Cm->X->(X->TreeX)->TreeX
 | [],x,c=>c x
 | a::l,x,c=>a.exT cs x (fun y=>Cm.exsT cs l y c)
end
def TreeX.go (q:Nat->List D->Nat):TreeX->Nat->X
 | .tip y,_=>y
 | .node w k,n=>(k (q n w)).go q (n+1)
def TreeX.ws (q:Nat->List D->Nat):TreeX->Nat->List (List D)
 | .tip _,_=>[]
 | .node w k,n=>w::(k (q n w)).ws q (n+1)
mutual
theorem exT_go (cs:List Ce) (q:Nat->List D->Nat) : ∀ (c:Cm) (x:X) (k:X->TreeX),
 (c.exT cs x k).go q x.tk=(if (c.exO cs q x).2 then (k (c.exO cs q x).1).go q (c.exO cs q x).1.tk else (c.exO cs q x).1) /\
 (c.exT cs x k).ws q x.tk=c.wO cs q x++(if (c.exO cs q x).2 then (k (c.exO cs q x).1).ws q (c.exO cs q x).1.tk else [])
 | .mk k v s f t a b g o,x,c=>by
   have ha:=exsT_go cs q a x c
   have hb:=exsT_go cs q b x c
   have hs:(stX cs g o x).tk=x.tk:=by unfold stX;split<;>rfl
   simp only [Cm.exT,Cm.exO,Cm.wO]
   by_cases h1:k=1
   · subst h1
     simp [hs]
   · by_cases h2:k=2
     · subst h2
       simp [TreeX.go,TreeX.ws,drX]
     · by_cases h3:k=3
       · subst h3
         simp only [if_neg h1,if_neg h2,if_true]
         by_cases h0:f.ev x.st=0
         · simp only [if_pos h0];exact hb
         · simp only [if_neg h0];exact ha
       · by_cases h4:k=4
         · subst h4
           simp only [if_neg h1,if_neg h2,if_neg h3,if_true]
           by_cases h0:f.ev x.st=0
           · simp [if_pos h0,TreeX.go,TreeX.ws]
           · simp [if_neg h0]
         · simp [if_neg h1,if_neg h2,if_neg h3,if_neg h4,TreeX.go,TreeX.ws]
theorem exsT_go (cs:List Ce) (q:Nat->List D->Nat) : ∀ (l:List Cm) (x:X) (k:X->TreeX),
 (Cm.exsT cs l x k).go q x.tk=(if (Cm.exsO cs q l x).2 then (k (Cm.exsO cs q l x).1).go q (Cm.exsO cs q l x).1.tk else (Cm.exsO cs q l x).1) /\
 (Cm.exsT cs l x k).ws q x.tk=Cm.wsO cs q l x++(if (Cm.exsO cs q l x).2 then (k (Cm.exsO cs q l x).1).ws q (Cm.exsO cs q l x).1.tk else [])
 | [],x,k=>by simp [Cm.exsT,Cm.exsO,Cm.wsO]
 | c::l,x,k=>by
   have h1:=exT_go cs q c x (fun y=>Cm.exsT cs l y k)
   have h2:=exsT_go cs q l (c.exO cs q x).1 k
   simp only [Cm.exsT,Cm.exsO,Cm.wsO]
   by_cases h:(c.exO cs q x).2=true
   · simp only [h,if_true] at h1 ⊢
     exact ⟨h1.1.trans h2.1,by rw [h1.2,h2.2,List.append_assoc]⟩
   · simp only [h,if_false] at h1 ⊢
     simpa using h1
end
abbrev Pth:=List (List Nat×Nat)
section
variable (outs:List D->List Nat)
def TreeX.enum:TreeX->List X
 | .tip y=>[y]
 | .node w k=>(outs w).flatMap fun i=>(k i).enum
def TreeX.rest:TreeX->Pth->List X
 | .tip y,_=>[y]
 | .node w k,[]=>(outs w).flatMap fun i=>(k i).enum outs
 | .node w k,(l,i)::P=>(k (l.getD i 0)).rest P++(l.drop (i+1)).flatMap fun j=>(k j).enum outs
def pkP (P:Pth) (n:Nat) (w:List D):Nat:=match P[n]? with
 | some (l,i)=>l.getD i 0
 | none=>(outs w).getD 0 0
def full (P:Pth) (ws:List (List D)):Pth:=P++(ws.drop P.length).map fun w=>(outs w,0)
def a66:Pth->Option Pth
 | []=>none
 | (l,i)::P=>match a66 P with
   | some Q=>some ((l,i)::Q)
   | none=>if i+1 < l.length then some [(l,i+1)] else none
def TreeX.has:TreeX->Pth->Prop
 | _,[]=>True
 | .tip _,_::_=>False
 | .node w k,(l,i)::P=>l=outs w/\i < l.length/\(k (l.getD i 0)).has P
def TreeX.ok:TreeX->Prop
 | .tip _=>True
 | .node w k=>outs w≠[] /\ ∀ i,(k i).ok
end
theorem a63 (outs:List D->List Nat) : ∀ t:TreeX,t.rest outs []=t.enum outs
 | .tip y=>rfl
 | .node w k=>rfl
theorem a65 (outs:List D->List Nat) : ∀ (t:TreeX) (P:Pth) (n:Nat) (q:Nat->List D->Nat),t.ok outs->t.has outs P->(∀ j w,q (n+j) w=pkP outs P j w) ->
 t.rest outs P=t.go q n::(match a66 (full outs P (t.ws q n)) with | none=>[] | some Q=>t.rest outs Q)/\(∀ Q,a66 (full outs P (t.ws q n))=some Q->t.has outs Q)
 | .tip y,P,n,q,_,hP,_=>by
   cases P with
   | nil=>simp [TreeX.rest,TreeX.go,TreeX.ws,full,a66]
   | cons p P=>exact absurd hP (by simp [TreeX.has])
 | .node w k,P,n,q,hok,hP,hq=>by
   obtain ⟨ho,hk⟩:=hok
   cases P with
   | nil =>
     obtain ⟨i0q0,lsq0,hl⟩ : ∃ i lsq0,outs w=i::lsq0:=by
      cases h:outs w with
      | nil=>exact absurd h ho
      | cons i lsq0=>exact ⟨i,lsq0,rfl⟩
     have q0:q n w=i0q0:=by have:=hq 0 w;simpa [pkP,hl] using this
     have ih:=a65 outs (k i0q0) [] (n+1) q (hk i0q0) (by simp [TreeX.has]) (fun j w'=>by have:=hq (j+1) w';rw [show n+1+j=n+(j+1) by omega,this];simp [pkP])
     simp only [TreeX.rest,TreeX.go,TreeX.ws,q0,hl,List.flatMap_cons,<- a63]
     have hf:full outs [] (w::(k i0q0).ws q (n+1))=(outs w,0)::full outs [] ((k i0q0).ws q (n+1)):=by simp [full]
     rw [hf]
     simp only [a66]
     rw [ih.1]
     cases hn:a66 (full outs [] ((k i0q0).ws q (n+1))) with
     | some Q =>
       simp only []
       refine ⟨by simp [TreeX.rest,hl,a63],fun Q' h => ?_⟩
       injection h with h;subst h
       exact ⟨rfl,by rw [hl];simp,by rw [hl];simpa using ih.2 Q hn⟩
     | none =>
       simp only []
       cases lsq0 with
       | nil=>simp [hl]
       | cons i1 lsq0 =>
         simp only [hl,List.length_cons]
         rw [if_pos (by omega)]
         refine ⟨by simp [TreeX.rest,a63],fun Q' h => ?_⟩
         injection h with h;subst h
         exact ⟨hl.symm▸rfl,by simp,by simp [TreeX.has]⟩
   | cons p P =>
     obtain ⟨l,i⟩:=p
     obtain ⟨e,hi,hh⟩:=hP
     have q0:q n w=l.getD i 0:=by have:=hq 0 w;simpa [pkP] using this
     have ih:=a65 outs (k (l.getD i 0)) P (n+1) q (hk _) hh (fun j w'=>by have:=hq (j+1) w';rw [show n+1+j=n+(j+1) by omega,this];simp [pkP])
     simp only [TreeX.rest,TreeX.go,TreeX.ws,q0]
     have hf:full outs ((l,i)::P) (w::(k (l.getD i 0)).ws q (n+1))=(l,i)::full outs P ((k (l.getD i 0)).ws q (n+1)):=by simp [full]
     rw [hf]
     simp only [a66]
     rw [ih.1]
     cases hn:a66 (full outs P ((k (l.getD i 0)).ws q (n+1))) with
     | some Q =>
       simp only []
       refine ⟨by simp [TreeX.rest],fun Q' h => ?_⟩
       injection h with h;subst h
       exact ⟨e,hi,ih.2 Q hn⟩
     | none =>
       simp only []
       by_cases h1:i+1 < l.length
       · rw [if_pos h1]
         refine ⟨?_,fun Q' h => ?_⟩
         · simp [TreeX.rest,a63,List.getD_eq_getElem?_getD,List.getElem?_eq_getElem h1]
           rw [List.drop_eq_getElem_cons h1,List.flatMap_cons]
         · injection h with h;subst h
           exact ⟨e,h1,by simp [TreeX.has]⟩
       · rw [if_neg h1]
         refine ⟨?_,fun Q' h=>by cases h⟩
         rw [List.drop_eq_nil_of_le (by omega)]
         simp
theorem a6G (outs:List D->List Nat) (q:Nat->List D->Nat) : ∀ (t:TreeX) (n:Nat),(∀ (j:Nat) (w:List D),(t.ws q n)[j]?=some w->q (n+j) w∈outs w)->t.go q n∈t.enum outs
 | .tip y,_,_=>by simp [TreeX.go,TreeX.enum]
 | .node w k,n,h=>by
   have h0:=h 0 w (by simp [TreeX.ws])
   rw [Nat.add_zero] at h0
   have ih:=a6G outs q (k (q n w)) (n+1) (fun j w' hj=>by
    have:=h (j+1) w' (by simpa [TreeX.ws] using hj)
    rwa [show n+1+j=n+(j+1) by omega])
   simp only [TreeX.go,TreeX.enum,List.mem_flatMap]
   exact ⟨_,h0,ih⟩
end Go.Proofs.YtncfpmehhfdipaaGreat
namespace Go.Proofs.YtncfpmehhfdipaaGreat
open Go.IntWalk
attribute [local irreducible] au
set_option maxHeartbeats 4000000
set_option maxRecDepth 100000
def a64 (w:List D):List Nat:=(List.range w.length).filter fun i=>match w.getD i p0 with | .slice []=>false | _=>true
theorem a6S (lo:Int):Ret VP (.fn 40) [.d (dsD 1 lo w0)] [] (.d (.slice ((a64 w0).map oD))) []:=by
 refine ret_of rfl rfl (r0 ?_)
 (have hz1:=aUR;have hz2:=a6H;refine Z2 ?_)
 rfl
theorem a6R (lo:Int):Ret VP (.fn 40) [.d (dsD 1 lo w1)] [] (.d (.slice ((a64 w1).map oD))) []:=by
 refine ret_of rfl rfl (r0 ?_)
 (have hz3:=aUR;have hz4:=aUK;refine Z2 ?_)
 rfl
theorem a6Q (lo:Int):Ret VP (.fn 40) [.d (dsD 1 lo w2)] [] (.d (.slice ((a64 w2).map oD))) []:=by
 refine ret_of rfl rfl (r0 ?_)
 (have hz5:=aUE;refine Z2 ?_)
 rfl
theorem a6P (lo:Int):Ret VP (.fn 40) [.d (dsD 1 lo w3)] [] (.d (.slice ((a64 w3).map oD))) []:=by
 refine ret_of rfl rfl (r0 ?_)
 (have hz6:=aUE;have hz7:=aUR;have hz8:=aU5;refine Z2 ?_)
 rfl
theorem a6O (lo:Int):Ret VP (.fn 40) [.d (dsD 1 lo w4)] [] (.d (.slice ((a64 w4).map oD))) []:=by
 refine ret_of rfl rfl (r0 ?_)
 (have hz9:=aUK;have hz10:=aUR;refine Z2 ?_)
 rfl
theorem a6N (lo:Int):Ret VP (.fn 40) [.d (dsD 1 lo w5)] [] (.d (.slice ((a64 w5).map oD))) []:=by
 refine ret_of rfl rfl (r0 ?_)
 (have hz11:=aUK;have hz12:=aIW;have hz13:=aIS;refine Z2 ?_)
 rfl
theorem a6M (lo:Int):Ret VP (.fn 40) [.d (dsD 1 lo w6)] [] (.d (.slice ((a64 w6).map oD))) []:=by
 refine ret_of rfl rfl (r0 ?_)
 (have hz14:=aIO;have hz15:=a6H;refine Z2 ?_)
 rfl
theorem a6L (lo:Int):Ret VP (.fn 40) [.d (dsD 1 lo w7)] [] (.d (.slice ((a64 w7).map oD))) []:=by
 refine ret_of rfl rfl (r0 ?_)
 (have hz16:=a6H;have hz17:=aIO;refine Z2 ?_)
 rfl
theorem a6K (lo:Int):Ret VP (.fn 40) [.d (dsD 1 lo w8)] [] (.d (.slice ((a64 w8).map oD))) []:=by
 refine ret_of rfl rfl (r0 ?_)
 (have hz18:=aUR;refine Z2 ?_)
 rfl
theorem a6J (lo:Int):Ret VP (.fn 40) [.d (dsD 1 lo w9)] [] (.d (.slice ((a64 w9).map oD))) []:=by
 refine ret_of rfl rfl (r0 ?_)
 (have hz19:=aIY;have hz20:=aUE;refine Z2 ?_)
 rfl
theorem a6F (lo:Int):Ret VP (.fn 40) [.d (dsD 1 lo w10)] [] (.d (.slice ((a64 w10).map oD))) []:=by
 refine ret_of rfl rfl (r0 ?_)
 (have hz21:=aUE;have hz22:=aIY;refine Z2 ?_)
 rfl
theorem a6E (lo:Int):Ret VP (.fn 40) [.d (dsD 1 lo w11)] [] (.d (.slice ((a64 w11).map oD))) []:=by
 refine ret_of rfl rfl (r0 ?_)
 (have hz23:=aIM;have hz24:=aUK;refine Z2 ?_)
 rfl
theorem a6D (lo:Int):Ret VP (.fn 40) [.d (dsD 1 lo w12)] [] (.d (.slice ((a64 w12).map oD))) []:=by
 refine ret_of rfl rfl (r0 ?_)
 (have hz25:=aUK;have hz26:=aIM;refine Z2 ?_)
 rfl
theorem a6C (lo:Int):Ret VP (.fn 40) [.d (dsD 1 lo w13)] [] (.d (.slice ((a64 w13).map oD))) []:=by
 refine ret_of rfl rfl (r0 ?_)
 (have hz27:=aIK;have hz28:=aII;refine Z2 ?_)
 rfl
theorem a6B (lo:Int):Ret VP (.fn 40) [.d (dsD 1 lo w14)] [] (.d (.slice ((a64 w14).map oD))) []:=by
 refine ret_of rfl rfl (r0 ?_)
 (have hz29:=aIF;have hz30:=aID;refine Z2 ?_)
 rfl
theorem a6A (lo:Int):Ret VP (.fn 40) [.d (dsD 1 lo w15)] [] (.d (.slice ((a64 w15).map oD))) []:=by
 refine ret_of rfl rfl (r0 ?_)
 (have hz31:=aID;have hz32:=aIF;refine Z2 ?_)
 rfl
theorem a69 (lo:Int):Ret VP (.fn 40) [.d (dsD 1 lo w16)] [] (.d (.slice ((a64 w16).map oD))) []:=by
 refine ret_of rfl rfl (r0 ?_)
 (have hz33:=aII;have hz34:=aIK;refine Z2 ?_)
 rfl
theorem a6I (lo:Int) : ∀ w∈W0,Ret VP (.fn 40) [.d (dsD 1 lo w)] [] (.d (.slice ((a64 w).map oD))) [] :=
 md ⟨a6S lo,a6R lo,a6Q lo,a6P lo,a6O lo,a6N lo,a6M lo,a6L lo,a6K lo,a6J lo,a6F lo,a6E lo,a6D lo,a6C lo,a6B lo,a6A lo,a69 lo⟩
theorem a6T : ∀ w∈W0,a64 w≠[]:=md ⟨by decide +kernel,by decide +kernel,by decide +kernel,by decide +kernel,by decide +kernel,by decide +kernel,by decide +kernel,by decide +kernel,by decide +kernel,by decide +kernel,by decide +kernel,by decide +kernel,by decide +kernel,by decide +kernel,by decide +kernel,by decide +kernel,by decide +kernel⟩
structure InvX (F:Fix) (x:X):Prop where
 hst:x.st.length=F.cs.length
 hm0:x.m≠0
 hm1:x.m.num.natAbs<=8 ^ x.tk
 hm2:x.m.den<=8 ^ x.tk
 hch:x.ch.length=x.tk
theorem InvX.fit {F:Fix} {x:X} (I:InvX F x) (h:x.tk<=5):fit 65536 x.m:=by
 have h1:=I.hm1
 have h2:=I.hm2
 have h3:8 ^ x.tk<=8 ^ 5:=Nat.pow_le_pow_right (by decide) h
 have h4:(8:Nat) ^ 5=32768:=by decide
 exact ⟨by omega,by omega⟩
theorem a8J {F:Fix} {x:X} (I:InvX F x) {w:List D} {n:Nat} {p:D} (hp:w[n]?=some p) (hwn:Wn p) (ch:List (Nat×Nat)) (hch:ch.length=x.tk+1) (v:Nat) (z en:Int):InvX F { ch:=ch,m:=x.m*val2 (w.getD n p0),st:=x.st.set v z,en:=en,tk:=x.tk+1 } := by
 have ep:w.getD n p0=p:=by rw [List.getD_eq_getElem?_getD,hp];rfl
 rw [ep]
 have ⟨_,h0,h8⟩:=hwn.val
 generalize val2 p=r at h0 h8
 have hq:=lB x.m r
 refine ⟨by simpa using I.hst,?_,?_,?_,hch⟩
 · intro h
   rcases Rat.mul_eq_zero.1 h with h | h
   · exact I.hm0 h
   · exact h0 h
 · show (x.m*r).num.natAbs<=8 ^ (x.tk+1)
   rw [Nat.pow_succ]
   exact Nat.le_trans hq.1 (Nat.mul_le_mul I.hm1 h8.1)
 · show (x.m*r).den<=8 ^ (x.tk+1)
   rw [Nat.pow_succ]
   exact Nat.le_trans hq.2 (Nat.mul_le_mul I.hm2 h8.2)
theorem qQ {l pre suf:List Cm} {c:Cm} (h:l=pre++c::suf):(l.map Cm.d)[pre.length]?=some c.d:=by
 rw [h,List.getElem?_map,List.getElem?_append_right (Nat.le_refl _),Nat.sub_self];rfl
end Go.Proofs.YtncfpmehhfdipaaGreat
namespace Go.Proofs.YtncfpmehhfdipaaGreat
open Go.IntWalk
attribute [local irreducible] au
set_option maxHeartbeats 4000000
set_option maxRecDepth 100000
theorem a7C {a b:D} {P:D->Prop} (ha:P a) (hb:P b) : ∀ p∈[a,b],P p:=by
 intro p hp;simp at hp;rcases hp with rfl | rfl<;>assumption
theorem a83 {a b c:D} {P:D->Prop} (ha:P a) (hb:P b) (hc:P c) : ∀ p∈[a,b,c],P p:=by
 intro p hp;simp at hp;rcases hp with rfl | rfl | rfl<;>assumption
theorem wn_all : ∀ w∈W0,∀ p∈w,p = .slice []\/Wn p :=
 md (P:=fun w => ∀ p∈w,p = .slice []\/Wn p) ⟨a83 (.inr ii) (.inl rfl) (.inr ii),a83 (.inr ii) (.inr ig) (.inr ig),a83 (.inr jn) (.inr jn) (.inr jn),a83 (.inr jn) (.inr ii) (.inr Hn),a83 (.inr ig) (.inr ii) (.inr ig),a83 (.inr ig) (.inr Hl) (.inr Hm),a7C (.inr uI) (.inl rfl),a7C (.inl rfl) (.inr uI),a7C (.inr ii) (.inr ii),a7C (.inr uG) (.inr jn),a7C (.inr jn) (.inr uG),a7C (.inr uE) (.inr ig),a7C (.inr ig) (.inr uE),a7C (.inr uC) (.inr uH),a7C (.inr uD) (.inr uF),a7C (.inr uF) (.inr uD),a7C (.inr uH) (.inr uC)⟩
theorem a8A {w:List D} (hw:w∈W0) {n:Nat} (hn:n∈a64 w) : ∃ p,w[n]?=some p/\Wn p:=by
 unfold a64 at hn
 rw [List.mem_filter,List.mem_range] at hn
 obtain ⟨h1,h2⟩:=hn
 refine ⟨w[n],List.getElem?_eq_getElem h1,?_⟩
 rcases wn_all w hw _ (List.getElem_mem h1) with h | h
 · rw [List.getD_eq_getElem?_getD,List.getElem?_eq_getElem h1,Option.getD_some,h] at h2
   simp at h2
 · exact h
inductive GoS:Shp->Shp->Prop
 | g00:GoS .n0 .n0
 | g0a (c:Nat×Nat) (ch:List (Nat×Nat)):GoS .n0 (.a0 c ch)
 | gaa (c d:Nat×Nat) (ch dhq0:List (Nat×Nat)):GoS (.a0 c ch) (.a0 d dhq0)
 | g11:GoS .n1 .n1
 | g1b (c:Nat×Nat) (ch:List (Nat×Nat)):GoS .n1 (.a1 c ch)
 | gbb (c d:Nat×Nat) (ch dhq0:List (Nat×Nat)):GoS (.a1 c ch) (.a1 d dhq0)
 | gcc (c d:Nat×Nat) (ch dhq0:List (Nat×Nat)):GoS (.c8 c ch) (.c8 d dhq0)
 | h00:GoS .t0 .t0
 | h0a (c:Nat×Nat) (ch:List (Nat×Nat)):GoS .t0 (.ta c ch)
 | haa (c d:Nat×Nat) (ch dhq0:List (Nat×Nat)):GoS (.ta c ch) (.ta d dhq0)
 | hcc (c d:Nat×Nat) (ch dhq0:List (Nat×Nat)):GoS (.tc c ch) (.tc d dhq0)
theorem GoS.kks {a b:Shp} (h:GoS a b):b.kk=a.kk:=by cases h<;>rfl
theorem GoS.same : ∀ a:Shp,GoS a a
 | .n0 => .g00
 | .n1 => .g11
 | .a0 c ch => .gaa c c ch ch
 | .a1 c ch => .gbb c c ch ch
 | .c8 c ch => .gcc c c ch ch
 | .t0 => .h00
 | .ta c ch => .haa c c ch ch
 | .tc c ch => .hcc c c ch ch
theorem GoS.then {a b c:Shp} (h:GoS a b) (k:GoS b c):GoS a c:=by cases h<;>cases k<;>constructor
structure Orc where
 q:Nat->List D->Nat
 okp:Nat->List (List D)->Prop
 A:List (List D)->PSt->Prop
 B:List (List D)->PSt->Prop
 C:List (List D)->PSt->Prop
structure Orc.OK (O:Orc) (F:Fix):Prop where
 hcs : ∀ c∈F.cs,c.Ok
 left : ∀ (n:Nat) (X Y:List (List D)),O.okp n (X++Y)->O.okp n X
 right : ∀ (n:Nat) (X Y:List (List D)),O.okp n (X++Y)->O.okp (n+X.length) Y
 mem : ∀ (n:Nat) (w:List D),w∈W0->O.okp n [w]->O.q n w∈a64 w
 hA : ∀ (ws:List (List D)) (p:PSt) (v s:Nat) (lo:Int) (w:List D),O.A ws p->w∈W0->O.okp ws.length [w]->ws.length<=5 -> ∃ p':PSt,O.A (ws++[w]) p'/\Ret VP (.fn 39) [.d (cmD 2 v s .z (.tab lo w) [] [] [] []),.ptr 0 0 0 0,.ptr 1 0 0 0,.ptr 2 0 0 0] (pkS p.n p.v p.j p.ps p.L) (.d (.tuple [.int .i64 (O.q ws.length w:Nat),.int .i64 0])) (pkS p'.n p'.v p'.j p'.ps p'.L)
 hB : ∀ (ws:List (List D)) (p:PSt) (v s:Nat) (lo:Int) (w:List D),O.B ws p->w∈W0->O.okp ws.length [w]->O.A (ws++[w]) ⟨1,0,1,[0],[a64 w]⟩/\Ret VP (.fn 39) [.d (cmD 2 v s .z (.tab lo w) [] [] [] []),.ptr 0 0 0 0,.ptr 1 0 0 0,.ptr 2 0 0 0] (Shp.pin p .n0) (.d (.tuple [.int .i64 (O.q ws.length w:Nat),.int .i64 0])) (pkS 1 0 1 [0] [a64 w])
 hC : ∀ (ws:List (List D)) (p:PSt) (v s:Nat) (lo:Int) (w:List D),O.C ws p->w∈W0->O.okp ws.length [w]->O.C (ws++[w]) p/\Ret VP (.fn 441) [.ptr 0 0 0 0,.d (cmD 2 v s .z (.tab lo w) [] [] [] [])] [some (rdB F.b F.ts ws.length)] (.d (.tuple [.int .i64 (O.q ws.length w:Nat),.int .i64 0])) [some (rdB F.b F.ts (ws.length+1))]
def ShI (O:Orc) (ws:List (List D)) (x:X) (p:PSt):Shp->Prop
 | .n0=>O.B ws p/\x.ch=[]
 | .n1=>O.A ws p/\x.ch=[]
 | .a0 c ch=>O.A ws p/\x.ch=c::ch
 | .a1 c ch=>O.A ws p/\x.ch=c::ch
 | .c8 c ch=>O.A ws p/\x.ch=c::ch
 | .t0=>O.C ws p/\x.ch=[]
 | .ta c ch=>O.C ws p/\x.ch=c::ch
 | .tc c ch=>O.C ws p/\x.ch=c::ch
theorem ShI.goes {O:Orc} {ws:List (List D)} {x y:X} {p:PSt} {shq0:Shp} (h:ShI O ws x p shq0) (e:y.ch=x.ch):ShI O ws y p shq0:=by
 cases shq0<;>simp only [ShI,e] at h ⊢ <;> exact h
theorem ShI.inn {O:Orc} {ws:List (List D)} {x:X} {p:PSt} {shq0:Shp} (h:ShI O ws x p shq0):ShI O ws x p shq0.ent:=by
 cases shq0<;>exact h
theorem a7P {shq0 req0:Shp} (h:GoS shq0.ent req0) : ∃ sh',AftS shq0 req0 sh'/\GoS shq0 sh' /\ ∀ O ws x p,ShI O ws x p req0->ShI O ws x p sh':=by
 cases shq0<;>cases h
 · exact ⟨_,.nn0,.g00,fun _ _ _ _ h=>h⟩
 · exact ⟨_,.na0 _ _,.g0a _ _,fun _ _ _ _ h=>h⟩
 · exact ⟨_,.nn1,.g11,fun _ _ _ _ h=>h⟩
 · exact ⟨_,.na1 _ _,.g1b _ _,fun _ _ _ _ h=>h⟩
 · exact ⟨_,.aax0 _ _ _ _,.gaa _ _ _ _,fun _ _ _ _ h=>h⟩
 · exact ⟨_,.aax1 _ _ _ _,.gbb _ _ _ _,fun _ _ _ _ h=>h⟩
 · exact ⟨_,.cc _ _ _ _,.gcc _ _ _ _,fun _ _ _ _ h=>h⟩
 · exact ⟨_,.t00,.h00,fun _ _ _ _ h=>h⟩
 · exact ⟨_,.t0a _ _,.h0a _ _,fun _ _ _ _ h=>h⟩
 · exact ⟨_,.taa _ _ _ _,.haa _ _ _ _,fun _ _ _ _ h=>h⟩
 · exact ⟨_,.tcc _ _ _ _,.hcc _ _ _ _,fun _ _ _ _ h=>h⟩
structure InvT (F:Fix) (O:Orc) (ws:List (List D)) (x:X) (p:PSt) (shq0:Shp):Prop where
 I:InvX F x
 htk:x.tk=ws.length
 hs:ShI O ws x p shq0
section
variable {cs:List Ce} {q:Nat->List D->Nat}
theorem a76 (o:Nat) (f:Fo) (x:X):(Cm.mk 1 0 0 .z .z [] [] [f] [o]).exO cs q x=({ x with st:=x.st.set o (clA cs o (f.ev x.st)) },true)/\(Cm.mk 1 0 0 .z .z [] [] [f] [o]).wO cs q x=[]:=by simp [Cm.exO,Cm.wO,stX]
theorem a75 (o u:Nat) (f g:Fo) (x:X):(Cm.mk 1 0 0 .z .z [] [] [f,g] [o,u]).exO cs q x=({ x with st:=(x.st.set o (clA cs o (f.ev x.st))).set u (clA cs u (g.ev x.st)) },true)/\(Cm.mk 1 0 0 .z .z [] [] [f,g] [o,u]).wO cs q x=[]:=by simp [Cm.exO,Cm.wO,stX]
theorem a77 (v s:Nat) (lo:Int) (w:List D) (x:X):(Cm.mk 2 v s .z (.tab lo w) [] [] [] []).exO cs q x=({ ch:=x.ch++[(s,q x.tk w)],m:=x.m*val2 (w.getD (q x.tk w) p0),st:=x.st.set v (clA cs v (lo+(q x.tk w:Nat))),en:=x.en,tk:=x.tk+1 },true)/\(Cm.mk 2 v s .z (.tab lo w) [] [] [] []).wO cs q x=[w]:=by simp [Cm.exO,Cm.wO,drX,Di.w,Di.lo]
theorem a7H (f:Fo) (a b:List Cm) (x:X):(Cm.mk 3 0 0 f .z a b [] []).exO cs q x=(if f.ev x.st=0 then Cm.exsO cs q b x else Cm.exsO cs q a x)/\(Cm.mk 3 0 0 f .z a b [] []).wO cs q x=(if f.ev x.st=0 then Cm.wsO cs q b x else Cm.wsO cs q a x):=by simp [Cm.exO,Cm.wO]
theorem a7G (f:Fo) (x:X):(Cm.mk 4 0 0 f .z [] [] [] []).exO cs q x=(if f.ev x.st=0 then ({ x with en:=2 },false) else (x,true))/\(Cm.mk 4 0 0 f .z [] [] [] []).wO cs q x=[]:=by simp [Cm.exO,Cm.wO]
theorem a7I (x:X):(Cm.mk 5 0 0 .z .z [] [] [] []).exO cs q x=({ x with en:=3 },false)/\(Cm.mk 5 0 0 .z .z [] [] [] []).wO cs q x=[]:=by simp [Cm.exO,Cm.wO]
end
abbrev GTq0 (F:Fix) (k:Nat) (y:X) (ok:Bool) (p:PSt) (shq0:Shp):Out->Env->aa->Prop:=fun o e s=>fin f67.keep k f67.res o e s=some (.d (.bool ok),stq F y p shq0)
def a9I (F:Fix) (O:Orc) (h:Nat):Prop := ∀ l:List Cm,(∀ c∈l,Ok F.cs.length W0 h c)->l.length<=8 -> ∀ (ws:List (List D)) (x:X) (p:PSt) (shq0:Shp),InvT F O ws x p shq0->ws.length+(Cm.tbs l).length<=6->O.okp ws.length (Cm.wsO F.cs O.q l x)->shq0.ent=shq0 ->
 ∃ p' sh',GoS shq0 sh'/\InvT F O (ws++Cm.wsO F.cs O.q l x) (Cm.exsO F.cs O.q l x).1 p' sh'/\(Cm.wsO F.cs O.q l x).length<=(Cm.tbs l).length /\
   Ret VP (.fn 67) [.ptr 0 0 0 0,.d (.slice (l.map Cm.d))] (stq F x p shq0) (.d (.bool (Cm.exsO F.cs O.q l x).2)) (stq F (Cm.exsO F.cs O.q l x).1 p' sh')
def HdT (F:Fix) (O:Orc) (l:List Cm) (i:Nat) (ws:List (List D)) (x:X) (p:PSt) (shq0:Shp) (W:List (List D)) (R:X×Bool):Prop :=
 ∃ p' sh',GoS shq0 sh'/\InvT F O (ws++W) R.1 p' sh'/\ah VP shq0.kk [0,21,22,23] ag [.ptr 0 0 0 0,.d (.slice (l.map Cm.d)),.d (.int .i64 ((l.map Cm.d).length:Nat)),.d (.int .i64 i)] (stq F x p shq0) [.block 0,.seq aW] (GTq0 F shq0.kk R.1 R.2 p' sh')
theorem HdT.on {F:Fix} {O:Orc} {l:List Cm} {i:Nat} {ws A W:List (List D)} {x y:X} {p p1:PSt} {shq0 sh1:Shp} {R:X×Bool} (g:GoS shq0 sh1) (hn:HdT F O l (i+1) (ws++A) y p1 sh1 W R)
 (h : ∀ Q,ah VP shq0.kk [0,21,22,23] ag [.ptr 0 0 0 0,.d (.slice (l.map Cm.d)),.d (.int .i64 ((l.map Cm.d).length:Nat)),.d (.int .i64 (i+1:Nat))] (stq F y p1 sh1) [.block 0,.seq aW] Q->ah VP shq0.kk [0,21,22,23] ag [.ptr 0 0 0 0,.d (.slice (l.map Cm.d)),.d (.int .i64 ((l.map Cm.d).length:Nat)),.d (.int .i64 i)] (stq F x p shq0) [.block 0,.seq aW] Q):HdT F O l i ws x p shq0 (A++W) R:=by
 obtain ⟨p',sh',g2,I2q0,H⟩:=hn
 refine ⟨p',sh',g.then g2,by rw [<- List.append_assoc];exact I2q0,h _ ?_⟩
 rw [g.kks] at H
 exact H
theorem a79 {O:Orc} {ws ws':List (List D)} {x y:X} {p p':PSt} {shq0:Shp} {s n:Nat} (h:ShI O ws x p shq0) (h0:shq0 ≠ .n0) (hp:shq0.tp=false->O.A ws' p') (hq:shq0.tp=true->O.C ws' p') (hy:y.ch=x.ch++[(s,n)]):ShI O ws' y p' (shq0.add (s,n))/\GoS shq0 (shq0.add (s,n)):=by
 cases shq0 with
 | n0=>exact absurd rfl h0
 | n1=>exact ⟨⟨hp rfl,by rw [hy,h.2];rfl⟩,.g1b _ _⟩
 | a0 c ch=>exact ⟨⟨hp rfl,by rw [hy,h.2];rfl⟩,.gaa _ _ _ _⟩
 | a1 c ch=>exact ⟨⟨hp rfl,by rw [hy,h.2];rfl⟩,.gbb _ _ _ _⟩
 | c8 c ch=>exact ⟨⟨hp rfl,by rw [hy,h.2];rfl⟩,.gcc _ _ _ _⟩
 | t0=>exact ⟨⟨hq rfl,by rw [hy,h.2];rfl⟩,.h0a _ _⟩
 | ta c ch=>exact ⟨⟨hq rfl,by rw [hy,h.2];rfl⟩,.haa _ _ _ _⟩
 | tc c ch=>exact ⟨⟨hq rfl,by rw [hy,h.2];rfl⟩,.hcc _ _ _ _⟩
theorem a85 {O:Orc} {ws:List (List D)} {x:X} {p:PSt} {shq0:Shp} (h:ShI O ws x p shq0) (h0:shq0 ≠ .n0):(shq0.tp=false->O.A ws p/\shq0.pin p=pkS p.n p.v p.j p.ps p.L)/\(shq0.tp=true->O.C ws p)/\shq0.chl<=x.ch.length:=by
 cases shq0 with
 | n0=>exact absurd rfl h0
 | n1=>exact ⟨fun _=>⟨h.1,rfl⟩,fun e=>(by cases e),Nat.zero_le _⟩
 | a0 c ch=>exact ⟨fun _=>⟨h.1,rfl⟩,fun e=>(by cases e),by rw [h.2];exact Nat.le_succ _⟩
 | a1 c ch=>exact ⟨fun _=>⟨h.1,rfl⟩,fun e=>(by cases e),by rw [h.2];exact Nat.le_succ _⟩
 | c8 c ch=>exact ⟨fun _=>⟨h.1,rfl⟩,fun e=>(by cases e),by rw [h.2];exact Nat.le_succ _⟩
 | t0=>exact ⟨fun e=>(by cases e),fun _=>h.1,Nat.zero_le _⟩
 | ta c ch=>exact ⟨fun e=>(by cases e),fun _=>h.1,by rw [h.2];exact Nat.le_succ _⟩
 | tc c ch=>exact ⟨fun e=>(by cases e),fun _=>h.1,by rw [h.2];exact Nat.le_succ _⟩
theorem a7W {F:Fix} {O:Orc} (K:O.OK F) {l:List Cm} (h8:l.length<=8) {i:Nat} {ws:List (List D)} {x:X} {p:PSt} {shq0:Shp} (I:InvT F O ws x p shq0) (hb:ws.length<=5) {v s:Nat} {lo:Int} {w:List D} (hv:v < F.cs.length) (hw:w∈W0) (h1 : -1<=lo) (h2:lo<=1) (hg:(l.map Cm.d)[i]?=some (cmD 2 v s .z (.tab lo w) [] [] [] [])) (hok:O.okp ws.length [w]) {W:List (List D)} {R:X×Bool} {N:Nat}
 (hn : ∀ p' sh',InvT F O (ws++[w]) { ch:=x.ch++[(s,O.q x.tk w)],m:=x.m*val2 (w.getD (O.q x.tk w) p0),st:=x.st.set v (clA F.cs v (lo+(O.q x.tk w:Nat))),en:=x.en,tk:=x.tk+1 } p' sh'->HdT F O l (i+1) (ws++[w]) { ch:=x.ch++[(s,O.q x.tk w)],m:=x.m*val2 (w.getD (O.q x.tk w) p0),st:=x.st.set v (clA F.cs v (lo+(O.q x.tk w:Nat))),en:=x.en,tk:=x.tk+1 } p' sh' W R/\W.length<=N):HdT F O l i ws x p shq0 ([w]++W) R/\W.length<=N:=by
 have hi:i < (l.map Cm.d).length:=(List.getElem?_eq_some_iff.1 hg).1
 have hln:(l.map Cm.d).length < 1000:=by rw [List.length_map];omega
 have htk:=I.htk
 have hm:=K.mem _ w hw hok
 rw [<- htk] at hm
 have hch:=I.I.hch
 obtain ⟨q,hq,hwn⟩:=a8A hw hm
 have IXq0:=a8J I.I hq hwn (x.ch++[(s,O.q x.tk w)]) (by simp [hch]) v (clA F.cs v (lo+(O.q x.tk w:Nat))) x.en
 by_cases h0:shq0 = .n0
 · subst h0
   have hxc:=I.hs.2
   obtain ⟨hA',h39⟩:=K.hB ws p v s lo w I.hs.1 hw hok
   rw [<- htk] at h39
   obtain ⟨H1q0,hN⟩:=hn ⟨1,0,1,[0],[a64 w]⟩ (.a0 (s,O.q x.tk w) []) ⟨IXq0,by simp [htk],hA',by simp [hxc]⟩
   refine ⟨HdT.on (.g0a _ _) H1q0 (fun Q H => ?_),hN⟩
   refine a7V F K.hcs x p (a64 w) I.I.hst _ _ hi hln v s lo w _ q hv hw h1 h2 I.I.hm0 (I.I.fit (by omega)) hq hwn h39 hg ?_
   rw [hxc] at H;exact H
 · obtain ⟨f1,f2,hcl⟩:=a85 I.hs h0
   cases htp:shq0.tp with
   | false =>
     obtain ⟨hA,hpin⟩:=f1 htp
     obtain ⟨p',hA',h39⟩:=K.hA ws p v s lo w hA hw hok hb
     rw [<- hpin,<- htk] at h39
     obtain ⟨S1q0,G1q0⟩:=a79 (p':=p') (y := { ch:=x.ch++[(s,O.q x.tk w)],m:=x.m*val2 (w.getD (O.q x.tk w) p0),st:=x.st.set v (clA F.cs v (lo+(O.q x.tk w:Nat))),en:=x.en,tk:=x.tk+1 }) I.hs h0 (fun _=>hA') (fun e=>by rw [htp] at e;cases e) rfl
     obtain ⟨H1q0,hN⟩:=hn _ _ ⟨IXq0,by simp [htk],S1q0⟩
     refine ⟨HdT.on G1q0 H1q0 (fun Q H => ?_),hN⟩
     exact a8V F K.hcs x p shq0 I.I.hst _ _ hi hln h0 htp (by omega) v s lo w _ q p' hv hw h1 h2 I.I.hm0 (I.I.fit (by omega)) hq hwn h39 hg H
   | true =>
     obtain ⟨hC',h441⟩:=K.hC ws p v s lo w (f2 htp) hw hok
     rw [<- htk] at h441
     obtain ⟨S1q0,G1q0⟩:=a79 (p':=p) (y := { ch:=x.ch++[(s,O.q x.tk w)],m:=x.m*val2 (w.getD (O.q x.tk w) p0),st:=x.st.set v (clA F.cs v (lo+(O.q x.tk w:Nat))),en:=x.en,tk:=x.tk+1 }) I.hs h0 (fun e=>by rw [htp] at e;cases e) (fun _=>hC') rfl
     obtain ⟨H1q0,hN⟩:=hn _ _ ⟨IXq0,by simp [htk],S1q0⟩
     refine ⟨HdT.on G1q0 H1q0 (fun Q H => ?_),hN⟩
     exact a8U F K.hcs x p shq0 I.I.hst _ _ hi hln htp (by omega) v s lo w _ q hv hw h1 h2 I.I.hm0 (I.I.fit (by omega)) hq hwn h441 hg H
theorem a7U {F:Fix} {O:Orc} (K:O.OK F) (h:Nat) (ih:a9I F O h) (l:List Cm) (hl : ∀ c∈l,Ok F.cs.length W0 (h+1) c) (h8:l.length<=8) : ∀ (suf pre:List Cm) (ws:List (List D)) (x:X) (p:PSt) (shq0:Shp),l=pre++suf->InvT F O ws x p shq0->ws.length+(Cm.tbs suf).length<=6->O.okp ws.length (Cm.wsO F.cs O.q suf x) ->
 HdT F O l pre.length ws x p shq0 (Cm.wsO F.cs O.q suf x) (Cm.exsO F.cs O.q suf x)/\(Cm.wsO F.cs O.q suf x).length<=(Cm.tbs suf).length:=by
 intro suf
 induction suf with
 | nil =>
   intro pre ws x p shq0 hp I hb hok
   have hf:decide ((pre.length:Int) < (((l.map Cm.d).length:Nat):Int))=false:=by rw [hp];simp
   simp only [Cm.exsO,Cm.wsO]
   refine ⟨⟨p,shq0,GoS.same shq0,by rw [List.append_nil];exact I,?_⟩,Nat.zero_le _⟩
   cases shq0
   all_goals
    unfold ah
    refine Z3r ?_
    exact kG (xs:=[.d (.bool true)]) rfl rfl rfl rfl
 | cons c suf ihs =>
   intro pre ws x p shq0 hp I hb hok
   have hi:pre.length < (l.map Cm.d).length:=by rw [hp];simp
   have hln:(l.map Cm.d).length < 1000:=by rw [List.length_map];omega
   have hg:=qQ hp
   have hokc:=hl c (by rw [hp];simp)
   simp only [Cm.exsO,Cm.wsO] at hok ⊢
   simp only [Cm.tbs,List.length_append] at hb ⊢
   have hnext : ∀ (A:List (List D)) (y:X) (p1:PSt) (sh1:Shp),InvT F O (ws++A) y p1 sh1->A.length<=c.tb.length->O.okp (ws++A).length (Cm.wsO F.cs O.q suf y)->HdT F O l (pre.length+1) (ws++A) y p1 sh1 (Cm.wsO F.cs O.q suf y) (Cm.exsO F.cs O.q suf y)/\(Cm.wsO F.cs O.q suf y).length<=(Cm.tbs suf).length:=by
    intro A y p1 sh1 I1q0 hA hok1
    have h1:=ihs (pre++[c]) (ws++A) y p1 sh1 (by simp [hp]) I1q0 (by rw [List.length_append];omega) hok1
    rwa [List.length_append,List.length_cons,List.length_nil] at h1
   cases hokc with
   | set o f ho hf =>
     obtain ⟨e1,e2⟩:=a76 (cs:=F.cs) (q:=O.q) o f x
     rw [e1,e2] at hok ⊢
     simp only [if_true,List.nil_append,List.length_nil] at hok ⊢
     obtain ⟨H,hlen⟩:=hnext [] { x with st:=x.st.set o (clA F.cs o (f.ev x.st)) } p shq0 ⟨⟨by simpa using I.I.hst,I.I.hm0,I.I.hm1,I.I.hm2,I.I.hch⟩,by rw [List.append_nil];exact I.htk,by rw [List.append_nil];exact I.hs.goes rfl⟩ (Nat.zero_le _) (by rw [List.append_nil];exact hok)
     exact ⟨HdT.on (A:=[]) (GoS.same shq0) H (fun Q h1=>a87 F K.hcs x p shq0 I.I.hst _ _ hi hln o f ho hf hg h1),by omega⟩
   | set2 o u f g ho hu hou hf hgg =>
     obtain ⟨e1,e2⟩:=a75 (cs:=F.cs) (q:=O.q) o u f g x
     rw [e1,e2] at hok ⊢
     simp only [if_true,List.nil_append,List.length_nil] at hok ⊢
     obtain ⟨H,hlen⟩:=hnext [] { x with st:=(x.st.set o (clA F.cs o (f.ev x.st))).set u (clA F.cs u (g.ev x.st)) } p shq0 ⟨⟨by simpa using I.I.hst,I.I.hm0,I.I.hm1,I.I.hm2,I.I.hch⟩,by rw [List.append_nil];exact I.htk,by rw [List.append_nil];exact I.hs.goes rfl⟩ (Nat.zero_le _) (by rw [List.append_nil];exact hok)
     exact ⟨HdT.on (A:=[]) (GoS.same shq0) H (fun Q h1=>a86 F K.hcs x p shq0 I.I.hst _ _ hi hln o u f g ho hu hf hgg hg h1),by omega⟩
   | draw v s lo w hv hs hw h1 h2 =>
     obtain ⟨e1,e2⟩:=a77 (cs:=F.cs) (q:=O.q) v s lo w x
     rw [e1,e2] at hok ⊢
     simp only [if_true] at hok ⊢
     have etb:(Cm.mk 2 v s .z (.tab lo w) [] [] [] []).tb.length=1:=rfl
     have hsuf:=fun (p':PSt) (sh':Shp) (I':InvT F O (ws++[w]) { ch:=x.ch++[(s,O.q x.tk w)],m:=x.m*val2 (w.getD (O.q x.tk w) p0),st:=x.st.set v (clA F.cs v (lo+(O.q x.tk w:Nat))),en:=x.en,tk:=x.tk+1 } p' sh')=>hnext [w] _ p' sh' I' (Nat.le_of_eq etb.symm) (by rw [List.length_append];exact (K.right _ _ _ hok))
     obtain ⟨hd,hlen⟩:=a7W K h8 I (by rw [etb] at hb;omega) hv hw h1 h2 hg (K.left _ _ _ hok) hsuf
     refine ⟨hd,?_⟩
     rw [etb]
     simp only [List.length_cons,List.length_nil]
     omega
   | iff f a b hf ha hb' ca cb =>
     obtain ⟨e1,e2⟩:=a7H (cs:=F.cs) (q:=O.q) f a b x
     rw [e1,e2] at hok ⊢
     rw [Cm.d_eq] at hg
     have etb:(Cm.mk 3 0 0 f .z a b [] []).tb=Cm.tbs a++Cm.tbs b:=by simp [Cm.tb]
     rw [etb,List.length_append] at hb hnext ⊢
     by_cases h0:f.ev x.st=0
     · rw [if_pos h0,if_pos h0] at hok ⊢
       obtain ⟨p1,req0,g1,I1q0,hl1,hr⟩:=ih b cb (by omega) ws x p shq0.ent ⟨I.I,I.htk,I.hs.inn⟩ (by omega) (K.left _ _ _ hok) (by cases shq0<;>rfl)
       obtain ⟨sh1,hA,g2,hS⟩:=a7P g1
       have I2q0:InvT F O (ws++Cm.wsO F.cs O.q b x) (Cm.exsO F.cs O.q b x).1 p1 sh1:=⟨I1q0.I,I1q0.htk,hS _ _ _ _ I1q0.hs⟩
       generalize Cm.exsO F.cs O.q b x=r at hok hr I2q0 ⊢
       generalize Cm.wsO F.cs O.q b x=A at hok I2q0 hl1 ⊢
       obtain ⟨y,ok⟩:=r
       dsimp only at hok hr I2q0 ⊢
       cases ok with
       | false =>
         simp only [if_false,List.append_nil,List.length_nil,Bool.false_eq_true] at hok ⊢
         exact ⟨⟨p1,sh1,g2,I2q0,a7T F K.hcs x p shq0 I.I.hst _ _ hi hln y p1 req0 sh1 hA f _ _ hf hg h0 hr⟩,by omega⟩
       | true =>
         simp only [if_true] at hok ⊢
         obtain ⟨H,hlen⟩:=hnext A y p1 sh1 I2q0 (by omega) (by rw [List.length_append];exact (K.right _ _ _ hok))
         exact ⟨HdT.on g2 H (fun Q h1=>a8L F K.hcs x p shq0 I.I.hst _ _ hi hln y p1 req0 sh1 hA f _ _ hf hg h0 hr h1),by omega⟩
     · rw [if_neg h0,if_neg h0] at hok ⊢
       obtain ⟨p1,req0,g1,I1q0,hl1,hr⟩:=ih a ca (by omega) ws x p shq0.ent ⟨I.I,I.htk,I.hs.inn⟩ (by omega) (K.left _ _ _ hok) (by cases shq0<;>rfl)
       obtain ⟨sh1,hA,g2,hS⟩:=a7P g1
       have I2q0:InvT F O (ws++Cm.wsO F.cs O.q a x) (Cm.exsO F.cs O.q a x).1 p1 sh1:=⟨I1q0.I,I1q0.htk,hS _ _ _ _ I1q0.hs⟩
       generalize Cm.exsO F.cs O.q a x=r at hok hr I2q0 ⊢
       generalize Cm.wsO F.cs O.q a x=A at hok I2q0 hl1 ⊢
       obtain ⟨y,ok⟩:=r
       dsimp only at hok hr I2q0 ⊢
       cases ok with
       | false =>
         simp only [if_false,List.append_nil,List.length_nil,Bool.false_eq_true] at hok ⊢
         exact ⟨⟨p1,sh1,g2,I2q0,a7S F K.hcs x p shq0 I.I.hst _ _ hi hln y p1 req0 sh1 hA f _ _ hf hg h0 hr⟩,by omega⟩
       | true =>
         simp only [if_true] at hok ⊢
         obtain ⟨H,hlen⟩:=hnext A y p1 sh1 I2q0 (by omega) (by rw [List.length_append];exact (K.right _ _ _ hok))
         exact ⟨HdT.on g2 H (fun Q h1=>a8K F K.hcs x p shq0 I.I.hst _ _ hi hln y p1 req0 sh1 hA f _ _ hf hg h0 hr h1),by omega⟩
   | obs f hf =>
     obtain ⟨e1,e2⟩:=a7G (cs:=F.cs) (q:=O.q) f x
     rw [e1,e2] at hok ⊢
     by_cases h0:f.ev x.st=0
     · rw [if_pos h0] at hok ⊢
       simp only [if_false,List.append_nil,List.length_nil,Bool.false_eq_true] at hok ⊢
       exact ⟨⟨p,shq0,GoS.same shq0,by rw [List.append_nil];exact ⟨⟨I.I.hst,I.I.hm0,I.I.hm1,I.I.hm2,I.I.hch⟩,I.htk,I.hs.goes rfl⟩,a8D F K.hcs x p shq0 I.I.hst _ _ hi hln f hf hg h0⟩,Nat.zero_le _⟩
     · rw [if_neg h0] at hok ⊢
       simp only [if_true,List.nil_append,List.length_nil] at hok ⊢
       obtain ⟨H,hlen⟩:=hnext [] x p shq0 (by rw [List.append_nil];exact I) (Nat.zero_le _) (by rw [List.append_nil];exact hok)
       exact ⟨HdT.on (A:=[]) (GoS.same shq0) H (fun Q h1=>a6Z F K.hcs x p shq0 I.I.hst _ _ hi hln f hf hg h0 h1),by omega⟩
   | cut =>
     obtain ⟨e1,e2⟩:=a7I (cs:=F.cs) (q:=O.q) x
     rw [e1,e2] at hok ⊢
     simp only [if_false,List.append_nil,List.length_nil,Bool.false_eq_true] at hok ⊢
     exact ⟨⟨p,shq0,GoS.same shq0,by rw [List.append_nil];exact ⟨⟨I.I.hst,I.I.hm0,I.I.hm1,I.I.hm2,I.I.hch⟩,I.htk,I.hs.goes rfl⟩,a9B F K.hcs x p shq0 I.I.hst _ _ hi hln hg⟩,Nat.zero_le _⟩
theorem a8T {F:Fix} {O:Orc} (K:O.OK F) : ∀ h:Nat,a9I F O h:=by
 intro h
 induction h with
 | zero =>
   intro l hl h8 ws x p shq0 I hb hok hsh
   rw [b5 hl]
   simp only [Cm.exsO,Cm.wsO]
   refine ⟨p,shq0,GoS.same shq0,by rw [List.append_nil];exact I,Nat.zero_le _,?_⟩
   cases shq0
   case a0=>cases hsh
   case a1=>cases hsh
   case ta=>cases hsh
   all_goals
    refine ret_of rfl rfl (r0 ?_)
    refine Z3r ?_
    refine hdX rfl rfl rfl rfl ?_
    unfold ah
    refine Z3r ?_
    exact kG (xs:=[.d (.bool true)]) rfl rfl rfl rfl
 | succ h ih =>
   intro l hl h8 ws x p shq0 I hb hok hsh
   obtain ⟨⟨p',sh',g,I',H⟩,hlen⟩:=a7U K h ih l hl h8 l [] ws x p shq0 rfl I hb hok
   refine ⟨p',sh',g,I',hlen,?_⟩
   revert H
   cases shq0
   case a0=>cases hsh
   case a1=>cases hsh
   case ta=>cases hsh
   all_goals
    intro H
    refine ret_of rfl rfl (r0 ?_)
    refine Z3r ?_
    refine hdX rfl rfl rfl rfl ?_
    exact H
end Go.Proofs.YtncfpmehhfdipaaGreat
namespace Go.Proofs.YtncfpmehhfdipaaGreat
open Go.IntWalk
attribute [local irreducible] au
set_option maxHeartbeats 4000000
set_option maxRecDepth 100000
structure PInv (P:Pth) (ws:List (List D)) (n v j:Nat) (ps:List Nat) (L:List (List Nat)):Prop where
 hn:n=ws.length
 hj:j=(full a64 P ws).length
 hp:j<=ps.length
 hL:j<=L.length
 he : ∀ (k:Nat) (x:List Nat×Nat),(full a64 P ws)[k]?=some x->ps[k]?=some x.2/\L[k]?=some x.1
theorem a7D {P:Pth} {ws:List (List D)} {w:List D} (h:ws.length < P.length):full a64 P (ws++[w])=full a64 P ws:=by
 unfold full
 rw [List.drop_eq_nil_of_le (by simp;omega),List.drop_eq_nil_of_le (by omega)]
theorem a7E {P:Pth} {ws:List (List D)} {w:List D} (h:P.length<=ws.length):full a64 P (ws++[w])=full a64 P ws++[(a64 w,0)]:=by
 unfold full
 rw [List.drop_append_of_le_length h,List.map_append,<- List.append_assoc];rfl
theorem SN (P:Pth) (ws:List (List D)):(full a64 P ws).length=max P.length ws.length:=by
 unfold full
 rw [List.length_append,List.length_map,List.length_drop];omega
theorem a89 {P:Pth} {ws:List (List D)} {n v j:Nat} {ps:List Nat} {L:List (List Nat)} (I:PInv P ws n v j ps L) (hP16:P.length<=15) (hw16:ws.length<=14) (v0 s:Int) (lo:Int) (w:List D) (hw:w∈W0)
 (hP : ∀ l i,P[ws.length]?=some (l,i)->i < l.length) : ∃ (v' j':Nat) (ps':List Nat) (L':List (List Nat)),PInv P (ws++[w]) (n+1) v' j' ps' L' /\
  Ret VP (.fn 39) [.d (cmD 2 v0 s .z (.tab lo w) [] [] [] []),.ptr 0 0 0 0,.ptr 1 0 0 0,.ptr 2 0 0 0] (pkS n v j ps L) (.d (.tuple [.int .i64 (pkP a64 P ws.length w),.int .i64 0])) (pkS (n+1) v' j' ps' L'):=by
 have hjl:=I.hj
 rw [SN] at hjl
 have hn:=I.hn
 by_cases h:ws.length < P.length
 · obtain ⟨⟨l,i⟩,hq⟩ : ∃ z,P[ws.length]=z:=⟨_,rfl⟩
   have hg:P[ws.length]?=some (l,i):=by rw [List.getElem?_eq_getElem h,hq]
   have hil:=hP l i hg
   have hf:(full a64 P ws)[ws.length]?=some (l,i):=by unfold full;rw [List.getElem?_append_left h];exact hg
   obtain ⟨e1,e2⟩:=I.he _ _ hf
   have ho:l[i]?=some (pkP a64 P ws.length w):=by unfold pkP;rw [hg];simp [List.getD_eq_getElem?_getD,List.getElem?_eq_getElem hil]
   refine ⟨v,j,ps,L,⟨by simp [hn],by rw [a7D h];exact I.hj,I.hp,I.hL,by rw [a7D h];exact I.he⟩,?_⟩
   exact a6W v0 s lo w n v j i _ ps L l (by omega) (by omega) I.hp I.hL (by rw [hn];exact e1) (by rw [hn];exact e2) ho
 · have hge:P.length<=ws.length:=by omega
   have hnj:n=j:=by omega
   subst hnj
   have hne:=a6T w hw
   have ho:(a64 w)[0]?=some (pkP a64 P ws.length w):=by
    unfold pkP
    rw [List.getElem?_eq_none hge]
    cases e:a64 w with
    | nil=>exact absurd e hne
    | cons a l=>simp
   refine ⟨v+1,n+1,ps.take n++[0],L.take n++[a64 w],⟨by simp [hn],by rw [a7E hge,List.length_append,<- I.hj];rfl,by simp;have:=I.hp;omega,by simp;have:=I.hL;omega,?_⟩,?_⟩
   · intro k x hx
     rw [a7E hge,List.getElem?_append] at hx
     have hlen:=I.hj
     split at hx
     · rename_i hk
       obtain ⟨e1,e2⟩:=I.he k x hx
       rw [List.getElem?_append_left (by rw [List.length_take];have:=I.hp;omega),List.getElem?_append_left (by rw [List.length_take];have:=I.hL;omega),List.getElem?_take,List.getElem?_take,if_pos (by omega),if_pos (by omega)]
       exact ⟨e1,e2⟩
     · rename_i hk
       have hk0:k=n:=by
        rcases Nat.eq_zero_or_pos (k - (full a64 P ws).length) with h0 | h0
        · omega
        · rw [List.getElem?_eq_none (by simp;omega)] at hx;cases hx
       subst hk0
       rw [<- hlen,Nat.sub_self] at hx
       simp at hx
       subst hx
       exact ⟨a67 _ _ I.hp _,a67 _ _ I.hL _⟩
   · exact a6V v0 s lo w (a64 w) _ ho (a6I lo w hw) v n ps L (by omega) I.hp I.hL
theorem a7L (q:Nat->List D->Nat) (cs:List Ce) {n:Nat} {h:Nat} : ∀ (l:List Cm),(∀ c∈l,Ok n W0 h c) -> ∀ x,(Cm.wsO cs q l x).length<=(Cm.tbs l).length:=by
 induction h with
 | zero=>intro l hl x;rw [b5 hl];simp [Cm.wsO]
 | succ h ih =>
   intro l
   induction l with
   | nil=>intro _ x;simp [Cm.wsO]
   | cons c l ihl =>
     intro hl x
     have hc:(c.wO cs q x).length<=c.tb.length:=by
      cases hl c (by simp) with
      | set o f ho hf=>rw [(a76 o f x).2];exact Nat.zero_le _
      | set2 o u f g ho hu hn hf hg=>rw [(a75 o u f g x).2];exact Nat.zero_le _
      | draw v s lo w hv hs hw h1 h2=>rw [(a77 v s lo w x).2];exact Nat.le_refl _
      | iff f a b hf ha hb' ca cb =>
        have e:(Cm.mk 3 0 0 f .z a b [] []).tb=Cm.tbs a++Cm.tbs b:=by simp [Cm.tb]
        rw [(a7H f a b x).2,e,List.length_append]
        have h1:=ih a ca x
        have h2:=ih b cb x
        split<;>omega
      | obs f hf=>rw [(a7G f x).2];exact Nat.zero_le _
      | cut=>rw [(a7I x).2];exact Nat.zero_le _
     simp only [Cm.wsO,Cm.tbs,List.length_append]
     have h1:=ihl (fun c hc=>hl c (by simp [hc])) (c.exO cs q x).1
     split
     · omega
     · simp only [List.length_nil];omega
def PthOk (P:Pth) (n:Nat) (W:List (List D)):Prop := ∀ (j:Nat) (w:List D),W[j]?=some w -> ∀ l i,P[n+j]?=some (l,i)->l=a64 w/\i < l.length
theorem PthOk.left {P:Pth} {n:Nat} {A B:List (List D)} (h:PthOk P n (A++B)):PthOk P n A:=fun j w hj l i hq=>h j w (by rw [List.getElem?_append_left (List.getElem?_eq_some_iff.1 hj).1];exact hj) l i hq
theorem PthOk.right {P:Pth} {n:Nat} {A B:List (List D)} (h:PthOk P n (A++B)):PthOk P (n+A.length) B:=fun j w hj l i hq=>h (A.length+j) w (by rw [List.getElem?_append_right (by omega),Nat.add_sub_cancel_left];exact hj) l i (by rw [<- Nat.add_assoc];exact hq)
theorem a7R {P:Pth} {n:Nat} {w:List D} (hw:w∈W0) (h:PthOk P n [w]):pkP a64 P n w∈a64 w:=by
 unfold pkP
 cases e:P[n]? with
 | none =>
   have:=a6T w hw
   cases e2:a64 w with
   | nil=>exact absurd e2 this
   | cons a l=>simp
 | some q =>
   obtain ⟨l,i⟩:=q
   obtain ⟨h1,h2⟩:=h 0 w rfl l i (by simpa using e)
   simp only []
   rw [<- h1,List.getD_eq_getElem?_getD,List.getElem?_eq_getElem h2]
   exact List.getElem_mem h2
abbrev Otr (P:Pth):Orc where
 q:=pkP a64 P
 okp:=PthOk P
 A ws p:=PInv P ws p.n p.v p.j p.ps p.L
 B ws p:=P=[]/\ws=[]/\p.n=0
 C _ _:=False
theorem a8B {F:Fix} (hcs : ∀ c∈F.cs,c.Ok) {P:Pth} (hP:P.length<=15):(Otr P).OK F where
 hcs:=hcs
 left _ _ _ h:=h.left
 right _ _ _ h:=h.right
 mem _ _ hw h:=a7R hw h
 hA ws p v s lo w hA hw hok h5:=by
  obtain ⟨v',j',ps',L',hpi,h39⟩:=a89 hA hP (by omega) v s lo w hw (fun l' i' e=>(hok 0 w rfl l' i' (by simpa using e)).2)
  exact ⟨⟨p.n+1,v',j',ps',L'⟩,hpi,h39⟩
 hB ws p v s lo w hB hw hok:=by
  obtain ⟨hP,hws,hpn⟩:=hB
  subst hP hws
  have ho:(a64 w)[0]?=some (pkP a64 [] 0 w):=by
   have hne:=a6T w hw
   unfold pkP
   cases e:a64 w with
   | nil=>exact absurd e hne
   | cons a l=>simp
  have e:Shp.pin p .n0=[some (.rows 0 false 1 [[.d (.int .i64 (0:Nat))]]),some (.rows 0 false 1 [[.nils]]),some (.rows 0 false 1 [[.nils]])]:=by simp only [Shp.pin,hpn]
  rw [e]
  refine ⟨⟨rfl,rfl,Nat.le_refl _,Nat.le_refl _,fun k z hz => ?_⟩,a6U v s lo w (a64 w) _ ho (a6I lo w hw)⟩
  match k with
  | 0=>simp [full] at hz;subst hz;exact ⟨rfl,rfl⟩
  | k+1=>simp [full] at hz
 hC _ _ _ _ _ _ h:=h.elim
theorem a7M {w:List D} {n:Nat} {p:D} (hp:w[n]?=some p) (hwn:Wn p):n∈a64 w:=by
 obtain ⟨r,e,_⟩:=hwn
 unfold a64
 rw [List.mem_filter,List.mem_range]
 refine ⟨(List.getElem?_eq_some_iff.1 hp).1,?_⟩
 rw [List.getD_eq_getElem?_getD,hp,Option.getD_some,e]
@[reducible] noncomputable def Otp (F:Fix):Orc where
 q n w:=pk w (F.q n)
 okp n W:=n+W.length<=F.ts.length
 A _ _:=False
 B _ _:=False
 C _ _:=True
theorem a8C {F:Fix} (hcs : ∀ c∈F.cs,c.Ok) (hb:F.b<=1000) (hall : ∀ t∈F.ts,t < F.b) (h6:F.ts.length<=6):(Otp F).OK F where
 hcs:=hcs
 left n X Y h:=by
  have h:n+(X++Y).length<=F.ts.length:=h
  rw [List.length_append] at h
  show n+X.length<=F.ts.length
  omega
 right n X Y h:=by
  have h:n+(X++Y).length<=F.ts.length:=h
  rw [List.length_append] at h
  show n+X.length+Y.length<=F.ts.length
  omega
 mem n w hw h:=by
  have h:n+1<=F.ts.length:=h
  obtain ⟨_,p,hp,hwn⟩:=hH 0 0 0 F.b F.ts n hb hall (by omega) (by omega) w hw
  exact a7M hp hwn
 hA _ _ _ _ _ _ h:=h.elim
 hB _ _ _ _ _ _ h:=h.elim
 hC ws p v s lo w _ hw h:=by
  have h:ws.length+1<=F.ts.length:=h
  exact ⟨trivial,(hH v s lo F.b F.ts ws.length hb hall (by omega) (by omega) w hw).1⟩
def trD (y:X):D := .agg [.slice (y.ch.map chD),.slice [ct y.m],.slice (y.st.map iD),.int .i64 y.en]
theorem Jy (l:List (Nat×Nat)):(l.map chD).all bJ=true:=by
 induction l with
 | nil=>rfl
 | cons c l ih=>rw [List.map_cons,List.all_cons,ih];rfl
theorem kc {s:aa} {b n:Nat} {st:List Int} {mass:D} {en:Int} (h8:getB s b=some (.rows 0 false 1 (ao (st.map iD)))) (hn:n=st.length) :
 toD s bB (.tuple [.agg [.nils,.d mass,.ms b 0 0 n,.d (.int .i64 en)],.d (.int .i64 0)])=some (.tuple [.agg [.slice [],mass,.slice (st.map iD),.int .i64 en],.int .i64 0],[b]):=by
 have h2:toD s 28 (.ms b 0 0 n)=some (.slice (st.map iD),[b]):=jr (n:=26) h8 (by rw [hn,List.length_map]) (bM st)
 show (aC (toD s 29) [.agg [.nils,.d mass,.ms b 0 0 n,.d (.int .i64 en)],.d (.int .i64 0)]).map (fun (es,a)=>(D.tuple es,a))=_
 have h3:toD s 29 (.agg [.nils,.d mass,.ms b 0 0 n,.d (.int .i64 en)])=some (.agg [.slice [],mass,.slice (st.map iD),.int .i64 en],[b]):=by
  show (aC (toD s 28) [.nils,.d mass,.ms b 0 0 n,.d (.int .i64 en)]).map (fun (es,a)=>(D.agg es,a))=_
  have h1:toD s 28 .nils=some (.slice [],[]):=rfl
  simp only [aC,h1,h2]
  rfl
 simp only [aC,h3]
 rfl
theorem ka {s:aa} {a b v k n:Nat} {ch:List (Nat×Nat)} {st:List Int} {mass:D} {en:Int} (h9:getB s a=some (.rows v false 2 (ao (ch.map chD)))) (hk:k=ch.length) (h8:getB s b=some (.rows 0 false 1 (ao (st.map iD)))) (hn:n=st.length) :
 toD s bB (.tuple [.agg [.ms a v 0 k,.d mass,.ms b 0 0 n,.d (.int .i64 en)],.d (.int .i64 0)])=some (.tuple [.agg [.slice (ch.map chD),mass,.slice (st.map iD),.int .i64 en],.int .i64 0],[a,b]):=by
 have h1:toD s 28 (.ms a v 0 k)=some (.slice (ch.map chD),[a]):=jr (n:=26) h9 (by rw [hk,List.length_map]) (Jy ch)
 have h2:toD s 28 (.ms b 0 0 n)=some (.slice (st.map iD),[b]):=jr (n:=26) h8 (by rw [hn,List.length_map]) (bM st)
 show (aC (toD s 29) [.agg [.ms a v 0 k,.d mass,.ms b 0 0 n,.d (.int .i64 en)],.d (.int .i64 0)]).map (fun (es,a)=>(D.tuple es,a))=_
 have h3:toD s 29 (.agg [.ms a v 0 k,.d mass,.ms b 0 0 n,.d (.int .i64 en)])=some (.agg [.slice (ch.map chD),mass,.slice (st.map iD),.int .i64 en],[a,b]):=by
  show (aC (toD s 28) [.ms a v 0 k,.d mass,.ms b 0 0 n,.d (.int .i64 en)]).map (fun (es,a)=>(D.agg es,a))=_
  simp only [aC,h1,h2]
  rfl
 simp only [aC,h3]
 rfl
def x0 (cs:List Ce):X:=⟨[],1,cs.map fun c=>c.cl 0,1,0⟩
theorem nj (F:Fix):InvX F (x0 F.cs):=⟨by simp [x0],by show (1:Rat)≠0;decide,by show (1:Rat).num.natAbs<=1;decide,by show (1:Rat).den<=1;decide,rfl⟩
theorem tf:Ret VP (.fn 65) [.d (.int .i64 1)] [] (.d (.slice [ct 1])) []:=by
 have h:=amA 1 (by omega)
 rwa [show cp ((1:Nat):Rat) = .slice [ct 1] by unfold cp;rw [if_neg (by decide)];rfl] at h
theorem KF : ∀ (A:Pth) (l:List Nat) (i:Nat),a66 (A++[(l,i)])=if i+1 < l.length then some (A++[(l,i+1)]) else a66 A
 | [],l,i=>by simp only [List.nil_append,a66]
 | (m,k)::A,l,i=>by
   simp only [List.cons_append,a66,KF A l i]
   by_cases h:i+1 < l.length
   · simp only [if_pos h]
   · simp only [if_neg h]
theorem a7N (outs:List D->List Nat) : ∀ (t:TreeX) (P:Pth) (n:Nat) (q:Nat->List D->Nat),t.has outs P->(∀ j w,q (n+j) w=pkP outs P j w)->P.length<=(t.ws q n).length /\ ∀ (j:Nat) (w:List D),(t.ws q n)[j]?=some w -> ∀ l i,P[j]?=some (l,i)->l=outs w/\i < l.length
 | .tip y,P,n,q,hP,_=>by
   cases P with
   | nil=>exact ⟨Nat.zero_le _,fun j w h=>by simp [TreeX.ws] at h⟩
   | cons p P=>exact absurd hP (by simp [TreeX.has])
 | .node w k,P,n,q,hP,hq=>by
   cases P with
   | nil=>exact ⟨Nat.zero_le _,fun j w _ l i h=>by simp at h⟩
   | cons p P =>
     obtain ⟨l,i⟩:=p
     obtain ⟨e,hi,hh⟩:=hP
     have q0:q n w=l.getD i 0:=by have:=hq 0 w;simpa [pkP] using this
     have ih:=a7N outs (k (l.getD i 0)) P (n+1) q hh (fun j w'=>by have:=hq (j+1) w';rw [show n+1+j=n+(j+1) by omega,this];simp [pkP])
     simp only [TreeX.ws,q0]
     refine ⟨by simp only [List.length_cons];omega,fun j w' h l' i' hp => ?_⟩
     match j with
     | 0 =>
       simp at h hp
       obtain ⟨h1,h2⟩:=hp
       subst h h1 h2
       exact ⟨e,hi⟩
     | j+1=>exact ih.2 j w' (by simpa using h) l' i' (by simpa using hp)
def TreeX.tabs (A:List D->Prop):TreeX->Prop
 | .tip _=>True
 | .node w k=>A w /\ ∀ i,(k i).tabs A
theorem a78 {outs:List D->List Nat} {A:List D->Prop} (h : ∀ w,A w->outs w≠[]) : ∀ t:TreeX,t.tabs A->t.ok outs
 | .tip _,_=>trivial
 | .node w k,ht=>⟨h w ht.1,fun i=>a78 h (k i) (ht.2 i)⟩
theorem a71 {A:List D->Prop} (q:Nat->List D->Nat) : ∀ (t:TreeX) (n:Nat),t.tabs A -> ∀ w∈t.ws q n,A w
 | .tip _,_,_,w,h=>by simp [TreeX.ws] at h
 | .node w k,n,ht,w',h=>by
   simp only [TreeX.ws,List.mem_cons] at h
   rcases h with rfl | h
   · exact ht.1
   · exact a71 q _ (n+1) (ht.2 _) w' h
theorem a7K {α β:Type} (l:List α) (f:α->List β) (B:Nat) (h : ∀ x∈l,(f x).length<=B):(l.flatMap f).length<=l.length*B:=by
 induction l with
 | nil=>simp
 | cons a l ih =>
   rw [List.flatMap_cons,List.length_append,List.length_cons,Nat.succ_mul]
   have h1:=h a (by simp)
   have h2:=ih (fun x hx=>h x (by simp [hx]))
   omega
theorem a74 {w:List D} (hw:w∈W0):(a64 w).length<=3:=by
 unfold a64
 refine Nat.le_trans (List.length_filter_le _ _) ?_
 rw [List.length_range];exact se w hw
theorem a7F (cs:List Ce) {n:Nat} : ∀ (h:Nat) (l:List Cm),(∀ c∈l,Ok n W0 h c) -> ∀ (x:X) (k:X->TreeX) (B:Nat),1<=B->(∀ y,(k y).tabs (· ∈ W0)/\((k y).enum a64).length<=B)->(Cm.exsT cs l x k).tabs (· ∈ W0)/\((Cm.exsT cs l x k).enum a64).length<=3 ^ (Cm.tbs l).length*B:=by
 intro h
 induction h with
 | zero=>intro l hl x k B hB hk;rw [b5 hl];simpa [Cm.exsT,Cm.tbs] using hk x
 | succ h ih =>
   have hc : ∀ c,Ok n W0 (h+1) c -> ∀ (x:X) (k:X->TreeX) (B:Nat),1<=B->(∀ y,(k y).tabs (· ∈ W0)/\((k y).enum a64).length<=B)->(c.exT cs x k).tabs (· ∈ W0)/\((c.exT cs x k).enum a64).length<=3 ^ c.tb.length*B:=by
    intro c hc x k B hB hk
    have h3 : ∀ z:Nat,B<=3 ^ z*B:=fun z=>Nat.le_mul_of_pos_left B (Nat.pow_pos (by decide))
    cases hc with
    | set o f ho hf=>simp only [Cm.exT,if_true];exact ⟨(hk _).1,Nat.le_trans (hk _).2 (h3 _)⟩
    | set2 o u f g ho hu hn hf hg=>simp only [Cm.exT,if_true];exact ⟨(hk _).1,Nat.le_trans (hk _).2 (h3 _)⟩
    | draw v s lo w hv hs hw h1 h2 =>
      have e:(Cm.mk 2 v s .z (.tab lo w) [] [] [] []).tb.length=1:=rfl
      rw [e]
      have e1:((2:Int)=1)=False:=by simp
      simp only [Cm.exT,e1,if_false,if_true,Di.w]
      refine ⟨⟨hw,fun i=>(hk _).1⟩,?_⟩
      simp only [TreeX.enum]
      refine Nat.le_trans (a7K _ _ B fun i _=>(hk _).2) ?_
      rw [Nat.pow_one]
      exact Nat.mul_le_mul_right B (a74 hw)
    | iff f a b hf ha hb' ca cb =>
      have e:(Cm.mk 3 0 0 f .z a b [] []).tb=Cm.tbs a++Cm.tbs b:=by simp [Cm.tb]
      rw [e,List.length_append]
      have e1:((3:Int)=1)=False:=by simp
      have e2:((3:Int)=2)=False:=by simp
      simp only [Cm.exT,e1,e2,if_false,if_true]
      split
      · have:=ih b cb x k B hB hk
        exact ⟨this.1,Nat.le_trans this.2 (Nat.mul_le_mul_right B (Nat.pow_le_pow_right (by decide) (by omega)))⟩
      · have:=ih a ca x k B hB hk
        exact ⟨this.1,Nat.le_trans this.2 (Nat.mul_le_mul_right B (Nat.pow_le_pow_right (by decide) (by omega)))⟩
    | obs f hf =>
      have e1:((4:Int)=1)=False:=by simp
      have e2:((4:Int)=2)=False:=by simp
      have e3:((4:Int)=3)=False:=by simp
      simp only [Cm.exT,e1,e2,e3,if_false,if_true]
      split
      · exact ⟨trivial,Nat.le_trans hB (h3 _)⟩
      · exact ⟨(hk _).1,Nat.le_trans (hk _).2 (h3 _)⟩
    | cut =>
      have e1:((5:Int)=1)=False:=by simp
      have e2:((5:Int)=2)=False:=by simp
      have e3:((5:Int)=3)=False:=by simp
      have e4:((5:Int)=4)=False:=by simp
      simp only [Cm.exT,e1,e2,e3,e4,if_false]
      exact ⟨trivial,Nat.le_trans hB (h3 _)⟩
   intro l
   induction l with
   | nil=>intro _ x k B _ hk;simpa [Cm.exsT,Cm.tbs] using hk x
   | cons c l ihl =>
     intro hl x k B hB hk
     simp only [Cm.exsT,Cm.tbs,List.length_append]
     have h1:=hc c (hl c (by simp)) x (fun y=>Cm.exsT cs l y k) (3 ^ (Cm.tbs l).length*B) (Nat.le_trans hB (Nat.le_mul_of_pos_left B (Nat.pow_pos (by decide)))) (fun y=>ihl (fun c hc=>hl c (by simp [hc])) y k B hB hk)
     rw [Nat.pow_add,Nat.mul_assoc]
     exact h1
noncomputable def GC (cs:List Ce) (bd:List Cm):TreeX:=Cm.exsT cs bd (x0 cs) .tip
theorem Iy (cs:List Ce) (bd:List Cm) (q:Nat->List D->Nat):(GC cs bd).go q 0=(Cm.exsO cs q bd (x0 cs)).1/\(GC cs bd).ws q 0=Cm.wsO cs q bd (x0 cs):=by
 have h:=exsT_go cs q bd (x0 cs) .tip
 have e:(x0 cs).tk=0:=rfl
 rw [e] at h
 refine ⟨h.1.trans ?_,h.2.trans ?_⟩
 · simp only [TreeX.go,ite_self]
 · simp only [TreeX.ws,ite_self,List.append_nil]
theorem GN (cs:List Ce) {n:Nat} {bd:List Cm} (hbd : ∀ c∈bd,Ok n W0 4 c) (h6:(Cm.tbs bd).length<=6):(GC cs bd).ok a64/\(GC cs bd).tabs (· ∈ W0)/\((GC cs bd).enum a64).length<=729:=by
 have h:=a7F cs 4 bd hbd (x0 cs) .tip 1 (Nat.le_refl _) (fun y=>⟨trivial,by simp [TreeX.enum]⟩)
 refine ⟨a78 (fun w hw=>a6T w hw) _ h.1,h.1,Nat.le_trans h.2 ?_⟩
 rw [Nat.mul_one]
 exact Nat.le_trans (Nat.pow_le_pow_right (by decide) h6) (by decide)
end Go.Proofs.YtncfpmehhfdipaaGreat
namespace Go.Proofs.YtncfpmehhfdipaaGreat
open Go.IntWalk
attribute [local irreducible] au
set_option maxHeartbeats 4000000
set_option maxRecDepth 100000
section
variable {p:bh} {b0:Nat} {d:Option Nat} {os:List VOper} {e:Env} {s s2:aa} {Q:Env->aa->Prop} {t:List (Option (List Nat))} {F G:(Nat->Option Nat)->aa}
theorem oYX {fv:Opd} {id id':Nat} {args:List Opd} {as as':List V} {fz ids:List Nat} {r0 v:V} {bs bs0:aa} [ht:ZTs s t] [hr:ZRs s F] [hg:ZRs bs G] (ht0:ev e fv = .yield id) (hret:Ret p (.round id') as' bs0 r0 bs) (hc:ai s [] (args.map (ev e))=some (as,fz)) (hi:cL (cD t 100000 (id::refsL as) []) some=some ids) (hd:(ids.all fun i => !fz.contains i)=true) (htg:pos ids id=some id')
 (has:cg (renL (pos ids) as) some=some as') (hbs:(ids.map fun i=>getB (F (pos ids)) i)=bs0) (hl:(decide (ids.length<=bs.length)&&gT (bs.take ids.length))=true) (hv:kP (ren (am ids bs s.length) r0) some=some v) (hs:fF (l9 ids (G (am ids bs s.length)) (if bg ids bs r0 then s else aq s fz)++(G (am ids bs s.length)).drop ids.length) some=some s2) (h:Ops p b0 os (put e d v) s2 Q):Ops p b0 (⟨d,.callv fv args,none⟩::os) e s Q:=by
 rw [cX] at has;rw [dK] at hv;rw [ce] at hs
 injection has with has;injection hv with hv;injection hs with hs
 exact amB ht0 hret hc ((cO s _ _ _).trans (by rw [ht.h];exact dn hi)) hd htg has ((ge ids _).trans hbs) hl hv ((gv ids _ _).trans hs) h
end
abbrev a73 (b:Nat):List X->aa
 | []=>[a6X .nils]
 | t::ts=>[a6X (.ms b ts.length 0 (ts.length+1)),some (.rows ts.length false 4 (ao ((t::ts).map trD)))]
abbrev a9O:List (Nat×V):=[(2,.ptr 1 0 0 0),(3,.ptr 2 0 0 0),(5,.ptr 3 0 0 0)]
abbrev lpX:Option Blk:=some (.loop 0 .none a9O [14] a59 a55)
theorem a88 (t:X):Ret VP (.round 0) [.d (trD t)] (lpX::a6X .nils::a6X (.d (.int .i64 0))::[a6X .nils]) (.d (.bool true)) (lpX::a6X .nils::a6X (.d (.int .i64 0))::a73 4 [t]):=by
 have e:trD t = .agg [.slice (t.ch.map chD),.slice [ct t.m],.slice (t.st.map iD),.int .i64 t.en]:=rfl
 rw [e]
 refine cq rfl rfl (r0 ?_)
 refine Z2 ?_
 refine ⟨rfl,_,_,_,_,_,rfl,r0 ?_⟩
 refine Z2 ?_
 rfl
theorem a99 (t u:X) (ts:List X) (hl:ts.length+1 < 20000):Ret VP (.round 0) [.d (trD t)] (lpX::a6X .nils::a6X (.d (.int .i64 0))::a73 4 (u::ts)) (.d (.bool true)) (lpX::a6X .nils::a6X (.d (.int .i64 0))::a73 4 (u::(ts++[t]))):=by
 have e:trD t = .agg [.slice (t.ch.map chD),.slice [ct t.m],.slice (t.st.map iD),.int .i64 t.en]:=rfl
 have hroom:au (ts.length+1+1) 80=true:=by rw [au,Bool.and_eq_true,decide_eq_true_eq,decide_eq_true_eq];omega
 have h20:(((ts.length+1:Nat):Int)==20000)=false:=by simp;omega
 have q1:(u::ts).map trD++[trD t]=(u::(ts++[t])).map trD:=by simp
 have q2:(ts++[t]).length=ts.length+1:=by simp
 rw [e]
 refine cq rfl rfl (r0 ?_)
 refine Z4 ?_
 refine ⟨rfl,_,_,_,_,_,rfl,r0 ?_⟩
 (refine Z4 ?_;(repeat first | (refine oln rfl rfl rfl ?_;refine Z4 ?_)))
 refine oaD (trD t) rfl rfl rfl (by simp) rfl hroom rfl ?_
 rw [q1]
 refine Z4 ?_
 simp only [a73,q2]
 refine mS (s3:=(lpX::a6X .nils::a6X (.d (.int .i64 0))::a6X (.ms 4 (ts.length+1) 0 (ts.length+1+1))::[some (.rows (ts.length+1) false 4 (ao ((u::(ts++[t])).map trD)))])++[some (.rows 0 false 4 (ao [trD t])),none]) rfl rfl ?_ rfl
 refine Jx fun i hi => ?_
 replace hi:i < 5:=hi
 rcases (by omega:i=0\/i=1\/i=2\/i=3\/i=4) with rfl | rfl | rfl | rfl | rfl
 · exact ⟨_,rfl,rfl⟩
 · exact ⟨_,rfl,rfl⟩
 · exact ⟨_,rfl,rfl⟩
 · exact ⟨_,rfl,rfl⟩
 · exact ⟨_,rfl,by simp only [du,bf];rfl⟩
abbrev stY (u:X) (ts:List X) (v j:Nat) (ps:List Nat) (L:List (List Nat)):aa :=
 lpX::a6X .nils::a6X (.d (.int .i64 0))::a6X (.ms 6 ts.length 0 (ts.length+1))::a6X (.ms 7 v 0 j)::a6X (.ms 8 v 0 j)::some (.rows ts.length false 4 (ao ((u::ts).map trD)))::some (.rows v false 1 (ao (L.map iRq0)))::[some (.rows v false 1 (ao (ps.map oD)))]
theorem a8F (st:List Nat) : ∀ z∈st.map oD,z.cells.length=1:=by
 intro z hz
 obtain ⟨n,_,rfl⟩:=List.mem_map.1 hz
 rfl
theorem a8E (st:List Nat) (i z:Nat):(st.map oD).set i (.int .i64 z)=(st.set i z).map oD:=by rw [List.map_set];rfl
theorem a7O {mdq0:List D} {u:X} {ts:List X} {v:Nat} {ps:List Nat} {L:List (List Nat)} {K:List Fr} {Q:Out->Env->aa->Prop} (R:Pth) (hR:R.length<=16) (hp:R.length<=ps.length) (hm:R.length<=L.length) (he : ∀ (k:Nat) (x:List Nat×Nat),R[k]?=some x->ps[k]?=some x.2/\L[k]?=some x.1) (hsm : ∀ x∈R,x.2 < 1000)
 (hE : ∀ z l b,R[z]?=some (l,b)->a66 R=some (R.take z++[(l,b+1)]) -> ∀ e,e 0 = .yield 0->e 1 = .d (.iptr mdq0 0)->e 3 = .ptr 4 0 0 0->e 4 = .ptr 5 0 0 0->bl VP 4 K Q (.exit 1) e (stY u ts v (z+1) (ps.set z (b+1)) L))
 (hN:a66 R=none -> ∀ e,e 0 = .yield 0->e 1 = .d (.iptr mdq0 0)->e 3 = .ptr 4 0 0 0->e 4 = .ptr 5 0 0 0->bl VP 4 K Q (.exit 2) e (stY u ts v R.length ps L)) :
 ∀ n,n<=R.length->a66 R=a66 (R.take n)->ah VP 4 [0,1,3,4,8] a4Z [.yield 0,.d (.iptr mdq0 0),.ptr 4 0 0 0,.ptr 5 0 0 0,.d (.int .i64 ((n:Int) - 1))] (stY u ts v R.length ps L) K Q:=by
 intro n
 induction n with
 | zero =>
   intro _ h
   have hge:decide ((((0:Nat):Int) - 1)>=0)=false:=rfl
   unfold ah
   refine Z3r ?_
   exact hN (by rw [h];rfl) _ rfl rfl rfl rfl
 | succ n ih =>
   intro hn h
   obtain ⟨⟨l,b⟩,hx⟩ : ∃ z,R[n]=z:=⟨_,rfl⟩
   have hg:R[n]?=some (l,b):=by rw [List.getElem?_eq_getElem hn,hx]
   have hbs:b < 1000:=hsm _ (List.mem_of_getElem? hg)
   obtain ⟨hps,hL⟩:=he _ _ hg
   have htk:R.take (n+1)=R.take n++[(l,b)]:=by rw [List.take_add_one,hg];rfl
   rw [htk,KF] at h
   have g1:(ps.map oD)[n]?=some (oD b):=by rw [List.getElem?_map,hps];rfl
   have g2:(L.map iRq0)[n]?=some (iRq0 l):=by rw [List.getElem?_map,hL];rfl
   have hge:decide ((n:Int)>=0)=true:=by simp
   have hi1:((n+1:Nat):Int) - 1=(n:Int):=by omega
   have hwb:IntKind.i64.wrap ((b:Int)+1)=((b+1:Nat):Int):=by rw [i64_in]<;>omega
   have hwi:IntKind.i64.wrap ((n:Int)+1)=((n+1:Nat):Int):=by rw [i64_in]<;>omega
   have hwd:IntKind.i64.wrap ((n:Int) - 1)=(n:Int) - 1:=by rw [i64_in]<;>omega
   rw [hi1]
   by_cases hlt:b+1 < l.length
   · rw [if_pos hlt] at h
     have htt:decide (((b+1:Nat):Int) < (((l.map oD).length:Nat):Int))=true:=decide_eq_true (by rw [List.length_map];omega)
     unfold ah
     refine Z3r ?_
     refine fw (oim rfl rfl rfl rfl rfl hn (by rw [av,List.length_map];omega) (o0 ⟨rfl,rfl⟩)) ?_
     refine fw (olm rfl rfl rfl (by rw [Nat.zero_add];exact a62 g1 rfl) rfl (o0 ⟨rfl,rfl⟩)) ?_
     refine Z3r ?_
     rw [hwb]
     refine fw (oim rfl rfl rfl rfl rfl hn (by rw [av,List.length_map];omega) (o0 ⟨rfl,rfl⟩)) ?_
     refine fw (olm rfl rfl rfl (by rw [Nat.zero_add];exact a62 g2 rfl) rfl (o0 ⟨rfl,rfl⟩)) ?_
     refine Z3r ?_
     refine oim rfl rfl rfl rfl rfl hn (by rw [av,List.length_map];omega) ?_
     refine olm rfl rfl rfl (by rw [Nat.zero_add];exact a62 g1 rfl) rfl ?_
     refine Z3r ?_
     rw [hwb]
     refine oim rfl rfl rfl rfl rfl hn (by rw [av,List.length_map];omega) ?_
     refine osD rfl (Nat.zero_add _) rfl rfl rfl (by rw [List.length_map];omega) (a8F _) rfl rfl (a8E _ _ _) rfl ?_
     refine Z3r ?_
     rw [hwi]
     refine fw (obm rfl rfl rfl rfl hn (o0 ⟨rfl,rfl⟩)) ?_
     refine Z3r ?_
     rw [hwi]
     refine fw (obm rfl rfl rfl rfl hn (o0 ⟨rfl,rfl⟩)) ?_
     refine Z3r ?_
     exact hE n l b hg h _ rfl rfl rfl rfl
   · rw [if_neg hlt] at h
     have hff:decide (((b+1:Nat):Int) < (((l.map oD).length:Nat):Int))=false:=decide_eq_false (by rw [List.length_map];omega)
     unfold ah
     refine Z3r ?_
     refine fw (oim rfl rfl rfl rfl rfl hn (by rw [av,List.length_map];omega) (o0 ⟨rfl,rfl⟩)) ?_
     refine fw (olm rfl rfl rfl (by rw [Nat.zero_add];exact a62 g1 rfl) rfl (o0 ⟨rfl,rfl⟩)) ?_
     refine Z3r ?_
     rw [hwb]
     refine fw (oim rfl rfl rfl rfl rfl hn (by rw [av,List.length_map];omega) (o0 ⟨rfl,rfl⟩)) ?_
     refine fw (olm rfl rfl rfl (by rw [Nat.zero_add];exact a62 g2 rfl) rfl (o0 ⟨rfl,rfl⟩)) ?_
     refine Z3r ?_
     rw [hwd]
     refine hdX rfl rfl rfl rfl ?_
     exact ih (by omega) h
end Go.Proofs.YtncfpmehhfdipaaGreat
