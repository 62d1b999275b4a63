/- Modules in general: outcomes by the numbers of a tape. -/
import Derived.Test.YtemffeblbmimfaaGreatA08
import Derived.Test.YtemffeblbmimfaaGreatA11
import Derived.Test.YtemffeblbmimfaaGreatA12
import Derived.KernelRfl
import Derived.Test.YtemffeblbmimfaaGreatA06
set_option linter.unusedSimpArgs false
set_option linter.unusedVariables false
set_option linter.unnecessarySimpa false
namespace Go.Proofs.YtemffeblbmimfaaGreat
open Go.IntWalk
attribute [local irreducible] au
set_option maxHeartbeats 4000000
set_option maxRecDepth 100000
def am8:D->Rat
 | .slice [.agg [_,_,_,_,_,_,_,_,_,.slice [.int _ n],.slice [.int _ d]]]=>mkRat n d.toNat
 | _=>0
def pkL:List Rat->Rat->Nat
 | [],_=>0
 | s::l,q=>if 0 < sgQ (s - q) then 0 else pkL l q+1
def bW:Rat->List D->List Rat
 | _,[]=>[]
 | s,p::l=>(s+am8 p)::bW (s+am8 p) l
def pk (w:List D) (q:Rat):Nat:=pkL (bW 0 w) q
def lit (n d:Int):D := .agg [.bool false,.slice [.int .u32 n],.slice [.int .u32 d]]
def uZ:D := .agg [.bool false,.slice [],.slice [.int .u32 1]]
theorem wB:qD (mkRat 0 1)=uZ:=by kernel_rfl
theorem bE:qD (mkRat 1 1)=lit 1 1:=by kernel_rfl
theorem kB:qD (mkRat 1 2)=lit 1 2:=by kernel_rfl
theorem mH:qD (mkRat 1 3)=lit 1 3:=by kernel_rfl
theorem mG:qD (mkRat 1 4)=lit 1 4:=by kernel_rfl
theorem wz:qD (mkRat 1 5)=lit 1 5:=by kernel_rfl
theorem ab3:qD (mkRat 1 6)=lit 1 6:=by kernel_rfl
theorem ab2:qD (mkRat 1 8)=lit 1 8:=by kernel_rfl
theorem q7:qD (mkRat 2 3)=lit 2 3:=by kernel_rfl
theorem wy:qD (mkRat 2 5)=lit 2 5:=by kernel_rfl
theorem mF:qD (mkRat 3 4)=lit 3 4:=by kernel_rfl
theorem wx:qD (mkRat 3 5)=lit 3 5:=by kernel_rfl
theorem ww:qD (mkRat 4 5)=lit 4 5:=by kernel_rfl
theorem wv:qD (mkRat 5 6)=lit 5 6:=by kernel_rfl
theorem ab1:qD (mkRat 5 8)=lit 5 8:=by kernel_rfl
theorem wu:qD (mkRat 7 8)=lit 7 8:=by kernel_rfl
theorem Ju:D.agg (aR 1 1)=ct (mkRat 1 1):=by kernel_rfl
theorem Jt:D.agg (aR 1 2)=ct (mkRat 1 2):=by kernel_rfl
theorem Js:D.agg (aR 1 3)=ct (mkRat 1 3):=by kernel_rfl
theorem Jr:D.agg (aR 1 4)=ct (mkRat 1 4):=by kernel_rfl
theorem Jq:D.agg (aR 1 5)=ct (mkRat 1 5):=by kernel_rfl
theorem Jp:D.agg (aR 1 6)=ct (mkRat 1 6):=by kernel_rfl
theorem Jo:D.agg (aR 1 8)=ct (mkRat 1 8):=by kernel_rfl
theorem Jn:D.agg (aR 2 3)=ct (mkRat 2 3):=by kernel_rfl
theorem Jm:D.agg (aR 2 5)=ct (mkRat 2 5):=by kernel_rfl
theorem Jl:D.agg (aR 3 4)=ct (mkRat 3 4):=by kernel_rfl
theorem Jk:D.agg (aR 3 5)=ct (mkRat 3 5):=by kernel_rfl
theorem Jj:D.agg (aR 4 5)=ct (mkRat 4 5):=by kernel_rfl
theorem Ji:D.agg (aR 5 8)=ct (mkRat 5 8):=by kernel_rfl
def aaE (r:Rat):Prop:=r.num.natAbs<=8/\r.den<=8
def Wn (p:D):Prop := ∃ r:Rat,p = .slice [ct r]/\r≠0/\aaE r/\Ret VP (.fn 68) [.d p] [] (.d (.tuple [p,.int .i64 0])) []
theorem uI:Wn (pl 1 1):=⟨mkRat 1 1,by rw [<- Ju];rfl,by decide +kernel,by constructor<;>decide +kernel,aIO⟩
theorem ii:Wn (pl 1 2):=⟨mkRat 1 2,by rw [<- Jt];rfl,by decide +kernel,by constructor<;>decide +kernel,aUR⟩
theorem jn:Wn (pl 1 3):=⟨mkRat 1 3,by rw [<- Js];rfl,by decide +kernel,by constructor<;>decide +kernel,aUE⟩
theorem ig:Wn (pl 1 4):=⟨mkRat 1 4,by rw [<- Jr];rfl,by decide +kernel,by constructor<;>decide +kernel,aUK⟩
theorem uH:Wn (pl 1 5):=⟨mkRat 1 5,by rw [<- Jq];rfl,by decide +kernel,by constructor<;>decide +kernel,aII⟩
theorem Hn:Wn (pl 1 6):=⟨mkRat 1 6,by rw [<- Jp];rfl,by decide +kernel,by constructor<;>decide +kernel,aU5⟩
theorem Hm:Wn (pl 1 8):=⟨mkRat 1 8,by rw [<- Jo];rfl,by decide +kernel,by constructor<;>decide +kernel,aIS⟩
theorem uG:Wn (pl 2 3):=⟨mkRat 2 3,by rw [<- Jn];rfl,by decide +kernel,by constructor<;>decide +kernel,aIY⟩
theorem uF:Wn (pl 2 5):=⟨mkRat 2 5,by rw [<- Jm];rfl,by decide +kernel,by constructor<;>decide +kernel,aID⟩
theorem uE:Wn (pl 3 4):=⟨mkRat 3 4,by rw [<- Jl];rfl,by decide +kernel,by constructor<;>decide +kernel,aIM⟩
theorem uD:Wn (pl 3 5):=⟨mkRat 3 5,by rw [<- Jk];rfl,by decide +kernel,by constructor<;>decide +kernel,aIF⟩
theorem uC:Wn (pl 4 5):=⟨mkRat 4 5,by rw [<- Jj];rfl,by decide +kernel,by constructor<;>decide +kernel,aIK⟩
theorem Hl:Wn (pl 5 8):=⟨mkRat 5 8,by rw [<- Ji];rfl,by decide +kernel,by constructor<;>decide +kernel,aIW⟩
theorem bv {x:Int} (h:¬ 0 < x):decide (x > 0)=false:=decide_eq_false h
theorem aQ {x:Int} (h:0 < x):decide (x > 0)=true:=decide_eq_true h
theorem vM {r:Rat} (h:0 < r):0 < sgQ r:=by
 have h1:0 < r.num:=by
  have h2:0<=r.num:=Rat.num_nonneg.2 (Rat.le_of_lt h)
  have h3:r.num≠0:=fun h3=>by rw [Rat.num_eq_zero.1 h3] at h;exact absurd h (Rat.lt_irrefl)
  omega
 unfold sgQ
 rw [if_neg (by omega),if_neg (by omega)];decide
theorem vN {r:Rat} (h:r<=0):¬ 0 < sgQ r:=by
 have h1:¬ 0 < r.num:=fun h2=>by
  have h3:r=0:=Rat.le_antisymm h (Rat.num_nonneg.1 (by omega))
  rw [h3] at h2;exact absurd h2 (by decide)
 unfold sgQ
 split
 · omega
 · rw [if_pos (by omega)];decide
structure Frq (q:Rat):Prop where
 h0:0<=q
 h1:q < 1
 hf:fit 65536 q
theorem Frq.last {q:Rat} (h:Frq q):0 < sgQ (mkRat 1 1 - q):=vM (by
 have h1:=h.h1
 have e:(mkRat 1 1:Rat)=1:=by decide +kernel
 rw [e];grind)
theorem Frq.first {q:Rat} (h:Frq q):¬ 0 < sgQ (mkRat 0 1 - q):=vN (by
 have h1:=h.h0
 have e:(mkRat 0 1:Rat)=0:=by decide +kernel
 rw [e];grind)
def rdB (b:Nat) (ts:List Nat) (n:Nat):Blk := .rows 0 false 3 [[.d (.int .i64 b),.d (.slice (ts.map oD)),.d (.int .i64 n)]]
theorem H1:bW 0 w0=[mkRat 1 2,mkRat 1 2,mkRat 1 1]:=by decide +kernel
theorem IH (v s:Int) (lo:Int) (b:Nat) (ts:List Nat) (n t:Nat) (q:Rat) (hq:Frq q) (ht:ts[n]?=some t) (htb:t < b) (hb:b<=1000) (hn:n < 1000) (hlen:n < ts.length) (hnew:Ret VP (.fn 442) [.d (.int .i64 t),.d (.int .i64 b)] [] (.d (.tuple [qD q,.int .i64 0])) []) :
 Ret VP (.fn 441) [.ptr 0 0 0 0,.d (cmD 2 v s .z (.tab lo w0) [] [] [] [])] [some (rdB b ts n)] (.d (.tuple [.int .i64 (pk w0 q:Nat),.int .i64 0])) [some (rdB b ts (n+1))] /\ ∃ p,w0[pk w0 q]?=some p/\Wn p:=by
 have hw:=ac n (by omega)
 have g:(ts.map oD)[n]?=some (oD t):=by rw [List.getElem?_map,ht];rfl
 have t0:((n:Int)==(((ts.map oD).length:Nat):Int))=false:=by rw [List.length_map];simp;omega
 have t1:¬ (t:Int) < 0:=by omega
 have t2:¬ (t:Int)>=(b:Int):=by omega
 unfold pk
 rw [H1]
 simp only [pkL]
 have m0:Ret VP (.fn 214) [.d (lit 1 2),.d (qD q)] [] (.d (.int .i64 (sgQ (mkRat 1 2 - q)))) []:=by
  have h:=dH (mkRat 1 2) q (by constructor<;>decide +kernel) hq.hf
  rwa [kB] at h
 have m1:Ret VP (.fn 214) [.d (lit 1 2),.d (qD q)] [] (.d (.int .i64 (sgQ (mkRat 1 2 - q)))) []:=by
  have h:=dH (mkRat 1 2) q (by constructor<;>decide +kernel) hq.hf
  rwa [kB] at h
 have m2:Ret VP (.fn 214) [.d (lit 1 1),.d (qD q)] [] (.d (.int .i64 (sgQ (mkRat 1 1 - q)))) []:=by
  have h:=dH (mkRat 1 1) q (by constructor<;>decide +kernel) hq.hf
  rwa [bE] at h
 by_cases c0:0 < sgQ (mkRat 1 2 - q)
 · rw [if_pos c0]
   refine ⟨?_,pl 1 2,rfl,ii⟩
   unfold rdB
   refine ret_of rfl rfl (r0 ?_)
   (have hz880:=decide_eq_false t1;have hz881:=decide_eq_false t2;have hz882:=asM;have hz883:=atP;have hz884:=axA;have hz885:=axZ;have hz886:=aBD;have hz887:=aHE;have hz888:=aQ c0;refine Z2 ?_)
   refine fe rfl rfl ?_
   rw [hw]
   rfl
 · rw [if_neg c0]
   rw [if_neg c0]
   have c2:=hq.last
   rw [if_pos c2]
   refine ⟨?_,pl 1 2,rfl,ii⟩
   unfold rdB
   refine ret_of rfl rfl (r0 ?_)
   (have hz889:=decide_eq_false t1;have hz890:=decide_eq_false t2;have hz891:=asM;have hz892:=atP;have hz893:=axA;have hz894:=axZ;have hz895:=aBD;have hz896:=aHE;have hz897:=bv c0;have hz898:=aQ c2;refine Z2 ?_)
   refine fe rfl rfl ?_
   rw [hw]
   rfl
theorem H0:bW 0 w1=[mkRat 1 2,mkRat 3 4,mkRat 1 1]:=by decide +kernel
theorem IG (v s:Int) (lo:Int) (b:Nat) (ts:List Nat) (n t:Nat) (q:Rat) (hq:Frq q) (ht:ts[n]?=some t) (htb:t < b) (hb:b<=1000) (hn:n < 1000) (hlen:n < ts.length) (hnew:Ret VP (.fn 442) [.d (.int .i64 t),.d (.int .i64 b)] [] (.d (.tuple [qD q,.int .i64 0])) []) :
 Ret VP (.fn 441) [.ptr 0 0 0 0,.d (cmD 2 v s .z (.tab lo w1) [] [] [] [])] [some (rdB b ts n)] (.d (.tuple [.int .i64 (pk w1 q:Nat),.int .i64 0])) [some (rdB b ts (n+1))] /\ ∃ p,w1[pk w1 q]?=some p/\Wn p:=by
 have hw:=ac n (by omega)
 have g:(ts.map oD)[n]?=some (oD t):=by rw [List.getElem?_map,ht];rfl
 have t0:((n:Int)==(((ts.map oD).length:Nat):Int))=false:=by rw [List.length_map];simp;omega
 have t1:¬ (t:Int) < 0:=by omega
 have t2:¬ (t:Int)>=(b:Int):=by omega
 unfold pk
 rw [H0]
 simp only [pkL]
 have m0:Ret VP (.fn 214) [.d (lit 1 2),.d (qD q)] [] (.d (.int .i64 (sgQ (mkRat 1 2 - q)))) []:=by
  have h:=dH (mkRat 1 2) q (by constructor<;>decide +kernel) hq.hf
  rwa [kB] at h
 have m1:Ret VP (.fn 214) [.d (lit 3 4),.d (qD q)] [] (.d (.int .i64 (sgQ (mkRat 3 4 - q)))) []:=by
  have h:=dH (mkRat 3 4) q (by constructor<;>decide +kernel) hq.hf
  rwa [mF] at h
 have m2:Ret VP (.fn 214) [.d (lit 1 1),.d (qD q)] [] (.d (.int .i64 (sgQ (mkRat 1 1 - q)))) []:=by
  have h:=dH (mkRat 1 1) q (by constructor<;>decide +kernel) hq.hf
  rwa [bE] at h
 by_cases c0:0 < sgQ (mkRat 1 2 - q)
 · rw [if_pos c0]
   refine ⟨?_,pl 1 2,rfl,ii⟩
   unfold rdB
   refine ret_of rfl rfl (r0 ?_)
   (have hz899:=decide_eq_false t1;have hz900:=decide_eq_false t2;have hz901:=asM;have hz902:=atP;have hz903:=axA;have hz904:=asZ;have hz905:=aIB;have hz906:=axC;have hz907:=aQ c0;refine Z2 ?_)
   refine fe rfl rfl ?_
   rw [hw]
   rfl
 · rw [if_neg c0]
   by_cases c1:0 < sgQ (mkRat 3 4 - q)
   · rw [if_pos c1]
     refine ⟨?_,pl 1 4,rfl,ig⟩
     unfold rdB
     refine ret_of rfl rfl (r0 ?_)
     (have hz908:=decide_eq_false t1;have hz909:=decide_eq_false t2;have hz910:=asM;have hz911:=atP;have hz912:=axA;have hz913:=asZ;have hz914:=aIB;have hz915:=axC;have hz916:=bv c0;have hz917:=aQ c1;refine Z2 ?_)
     refine fe rfl rfl ?_
     rw [hw]
     rfl
   · rw [if_neg c1]
     have c2:=hq.last
     rw [if_pos c2]
     refine ⟨?_,pl 1 4,rfl,ig⟩
     unfold rdB
     refine ret_of rfl rfl (r0 ?_)
     (have hz918:=decide_eq_false t1;have hz919:=decide_eq_false t2;have hz920:=asM;have hz921:=atP;have hz922:=axA;have hz923:=asZ;have hz924:=aIB;have hz925:=axC;have hz926:=bv c0;have hz927:=bv c1;have hz928:=aQ c2;refine Z2 ?_)
     refine fe rfl rfl ?_
     rw [hw]
     rfl
theorem HZ:bW 0 w2=[mkRat 1 3,mkRat 2 3,mkRat 1 1]:=by decide +kernel
theorem IF (v s:Int) (lo:Int) (b:Nat) (ts:List Nat) (n t:Nat) (q:Rat) (hq:Frq q) (ht:ts[n]?=some t) (htb:t < b) (hb:b<=1000) (hn:n < 1000) (hlen:n < ts.length) (hnew:Ret VP (.fn 442) [.d (.int .i64 t),.d (.int .i64 b)] [] (.d (.tuple [qD q,.int .i64 0])) []) :
 Ret VP (.fn 441) [.ptr 0 0 0 0,.d (cmD 2 v s .z (.tab lo w2) [] [] [] [])] [some (rdB b ts n)] (.d (.tuple [.int .i64 (pk w2 q:Nat),.int .i64 0])) [some (rdB b ts (n+1))] /\ ∃ p,w2[pk w2 q]?=some p/\Wn p:=by
 have hw:=ac n (by omega)
 have g:(ts.map oD)[n]?=some (oD t):=by rw [List.getElem?_map,ht];rfl
 have t0:((n:Int)==(((ts.map oD).length:Nat):Int))=false:=by rw [List.length_map];simp;omega
 have t1:¬ (t:Int) < 0:=by omega
 have t2:¬ (t:Int)>=(b:Int):=by omega
 unfold pk
 rw [HZ]
 simp only [pkL]
 have m0:Ret VP (.fn 214) [.d (lit 1 3),.d (qD q)] [] (.d (.int .i64 (sgQ (mkRat 1 3 - q)))) []:=by
  have h:=dH (mkRat 1 3) q (by constructor<;>decide +kernel) hq.hf
  rwa [mH] at h
 have m1:Ret VP (.fn 214) [.d (lit 2 3),.d (qD q)] [] (.d (.int .i64 (sgQ (mkRat 2 3 - q)))) []:=by
  have h:=dH (mkRat 2 3) q (by constructor<;>decide +kernel) hq.hf
  rwa [q7] at h
 have m2:Ret VP (.fn 214) [.d (lit 1 1),.d (qD q)] [] (.d (.int .i64 (sgQ (mkRat 1 1 - q)))) []:=by
  have h:=dH (mkRat 1 1) q (by constructor<;>decide +kernel) hq.hf
  rwa [bE] at h
 by_cases c0:0 < sgQ (mkRat 1 3 - q)
 · rw [if_pos c0]
   refine ⟨?_,pl 1 3,rfl,jn⟩
   unfold rdB
   refine ret_of rfl rfl (r0 ?_)
   (have hz929:=decide_eq_false t1;have hz930:=decide_eq_false t2;have hz931:=asM;have hz932:=at6;have hz933:=at9;have hz934:=aI9;have hz935:=aA8;have hz936:=aQ c0;refine Z2 ?_)
   refine fe rfl rfl ?_
   rw [hw]
   rfl
 · rw [if_neg c0]
   by_cases c1:0 < sgQ (mkRat 2 3 - q)
   · rw [if_pos c1]
     refine ⟨?_,pl 1 3,rfl,jn⟩
     unfold rdB
     refine ret_of rfl rfl (r0 ?_)
     (have hz937:=decide_eq_false t1;have hz938:=decide_eq_false t2;have hz939:=asM;have hz940:=at6;have hz941:=at9;have hz942:=aI9;have hz943:=aA8;have hz944:=bv c0;have hz945:=aQ c1;refine Z2 ?_)
     refine fe rfl rfl ?_
     rw [hw]
     rfl
   · rw [if_neg c1]
     have c2:=hq.last
     rw [if_pos c2]
     refine ⟨?_,pl 1 3,rfl,jn⟩
     unfold rdB
     refine ret_of rfl rfl (r0 ?_)
     (have hz946:=decide_eq_false t1;have hz947:=decide_eq_false t2;have hz948:=asM;have hz949:=at6;have hz950:=at9;have hz951:=aI9;have hz952:=aA8;have hz953:=bv c0;have hz954:=bv c1;have hz955:=aQ c2;refine Z2 ?_)
     refine fe rfl rfl ?_
     rw [hw]
     rfl
theorem HY:bW 0 w3=[mkRat 1 3,mkRat 5 6,mkRat 1 1]:=by decide +kernel
theorem IE (v s:Int) (lo:Int) (b:Nat) (ts:List Nat) (n t:Nat) (q:Rat) (hq:Frq q) (ht:ts[n]?=some t) (htb:t < b) (hb:b<=1000) (hn:n < 1000) (hlen:n < ts.length) (hnew:Ret VP (.fn 442) [.d (.int .i64 t),.d (.int .i64 b)] [] (.d (.tuple [qD q,.int .i64 0])) []) :
 Ret VP (.fn 441) [.ptr 0 0 0 0,.d (cmD 2 v s .z (.tab lo w3) [] [] [] [])] [some (rdB b ts n)] (.d (.tuple [.int .i64 (pk w3 q:Nat),.int .i64 0])) [some (rdB b ts (n+1))] /\ ∃ p,w3[pk w3 q]?=some p/\Wn p:=by
 have hw:=ac n (by omega)
 have g:(ts.map oD)[n]?=some (oD t):=by rw [List.getElem?_map,ht];rfl
 have t0:((n:Int)==(((ts.map oD).length:Nat):Int))=false:=by rw [List.length_map];simp;omega
 have t1:¬ (t:Int) < 0:=by omega
 have t2:¬ (t:Int)>=(b:Int):=by omega
 unfold pk
 rw [HY]
 simp only [pkL]
 have m0:Ret VP (.fn 214) [.d (lit 1 3),.d (qD q)] [] (.d (.int .i64 (sgQ (mkRat 1 3 - q)))) []:=by
  have h:=dH (mkRat 1 3) q (by constructor<;>decide +kernel) hq.hf
  rwa [mH] at h
 have m1:Ret VP (.fn 214) [.d (lit 5 6),.d (qD q)] [] (.d (.int .i64 (sgQ (mkRat 5 6 - q)))) []:=by
  have h:=dH (mkRat 5 6) q (by constructor<;>decide +kernel) hq.hf
  rwa [wv] at h
 have m2:Ret VP (.fn 214) [.d (lit 1 1),.d (qD q)] [] (.d (.int .i64 (sgQ (mkRat 1 1 - q)))) []:=by
  have h:=dH (mkRat 1 1) q (by constructor<;>decide +kernel) hq.hf
  rwa [bE] at h
 by_cases c0:0 < sgQ (mkRat 1 3 - q)
 · rw [if_pos c0]
   refine ⟨?_,pl 1 3,rfl,jn⟩
   unfold rdB
   refine ret_of rfl rfl (r0 ?_)
   (have hz956:=decide_eq_false t1;have hz957:=decide_eq_false t2;have hz958:=asM;have hz959:=at6;have hz960:=at9;have hz961:=atP;have hz962:=aI8;have hz963:=axW;have hz964:=aI6;have hz965:=aQ c0;refine Z2 ?_)
   refine fe rfl rfl ?_
   rw [hw]
   rfl
 · rw [if_neg c0]
   by_cases c1:0 < sgQ (mkRat 5 6 - q)
   · rw [if_pos c1]
     refine ⟨?_,pl 1 2,rfl,ii⟩
     unfold rdB
     refine ret_of rfl rfl (r0 ?_)
     (have hz966:=decide_eq_false t1;have hz967:=decide_eq_false t2;have hz968:=asM;have hz969:=at6;have hz970:=at9;have hz971:=atP;have hz972:=aI8;have hz973:=axW;have hz974:=aI6;have hz975:=bv c0;have hz976:=aQ c1;refine Z2 ?_)
     refine fe rfl rfl ?_
     rw [hw]
     rfl
   · rw [if_neg c1]
     have c2:=hq.last
     rw [if_pos c2]
     refine ⟨?_,pl 1 6,rfl,Hn⟩
     unfold rdB
     refine ret_of rfl rfl (r0 ?_)
     (have hz977:=decide_eq_false t1;have hz978:=decide_eq_false t2;have hz979:=asM;have hz980:=at6;have hz981:=at9;have hz982:=atP;have hz983:=aI8;have hz984:=axW;have hz985:=aI6;have hz986:=bv c0;have hz987:=bv c1;have hz988:=aQ c2;refine Z2 ?_)
     refine fe rfl rfl ?_
     rw [hw]
     rfl
theorem HX:bW 0 w4=[mkRat 1 4,mkRat 3 4,mkRat 1 1]:=by decide +kernel
theorem ID (v s:Int) (lo:Int) (b:Nat) (ts:List Nat) (n t:Nat) (q:Rat) (hq:Frq q) (ht:ts[n]?=some t) (htb:t < b) (hb:b<=1000) (hn:n < 1000) (hlen:n < ts.length) (hnew:Ret VP (.fn 442) [.d (.int .i64 t),.d (.int .i64 b)] [] (.d (.tuple [qD q,.int .i64 0])) []) :
 Ret VP (.fn 441) [.ptr 0 0 0 0,.d (cmD 2 v s .z (.tab lo w4) [] [] [] [])] [some (rdB b ts n)] (.d (.tuple [.int .i64 (pk w4 q:Nat),.int .i64 0])) [some (rdB b ts (n+1))] /\ ∃ p,w4[pk w4 q]?=some p/\Wn p:=by
 have hw:=ac n (by omega)
 have g:(ts.map oD)[n]?=some (oD t):=by rw [List.getElem?_map,ht];rfl
 have t0:((n:Int)==(((ts.map oD).length:Nat):Int))=false:=by rw [List.length_map];simp;omega
 have t1:¬ (t:Int) < 0:=by omega
 have t2:¬ (t:Int)>=(b:Int):=by omega
 unfold pk
 rw [HX]
 simp only [pkL]
 have m0:Ret VP (.fn 214) [.d (lit 1 4),.d (qD q)] [] (.d (.int .i64 (sgQ (mkRat 1 4 - q)))) []:=by
  have h:=dH (mkRat 1 4) q (by constructor<;>decide +kernel) hq.hf
  rwa [mG] at h
 have m1:Ret VP (.fn 214) [.d (lit 3 4),.d (qD q)] [] (.d (.int .i64 (sgQ (mkRat 3 4 - q)))) []:=by
  have h:=dH (mkRat 3 4) q (by constructor<;>decide +kernel) hq.hf
  rwa [mF] at h
 have m2:Ret VP (.fn 214) [.d (lit 1 1),.d (qD q)] [] (.d (.int .i64 (sgQ (mkRat 1 1 - q)))) []:=by
  have h:=dH (mkRat 1 1) q (by constructor<;>decide +kernel) hq.hf
  rwa [bE] at h
 by_cases c0:0 < sgQ (mkRat 1 4 - q)
 · rw [if_pos c0]
   refine ⟨?_,pl 1 4,rfl,ig⟩
   unfold rdB
   refine ret_of rfl rfl (r0 ?_)
   (have hz989:=decide_eq_false t1;have hz990:=decide_eq_false t2;have hz991:=asM;have hz992:=asZ;have hz993:=atA;have hz994:=atP;have hz995:=aI5;have hz996:=axC;have hz997:=aQ c0;refine Z2 ?_)
   refine fe rfl rfl ?_
   rw [hw]
   rfl
 · rw [if_neg c0]
   by_cases c1:0 < sgQ (mkRat 3 4 - q)
   · rw [if_pos c1]
     refine ⟨?_,pl 1 2,rfl,ii⟩
     unfold rdB
     refine ret_of rfl rfl (r0 ?_)
     (have hz998:=decide_eq_false t1;have hz999:=decide_eq_false t2;have hz1000:=asM;have hz1001:=asZ;have hz1002:=atA;have hz1003:=atP;have hz1004:=aI5;have hz1005:=axC;have hz1006:=bv c0;have hz1007:=aQ c1;refine Z2 ?_)
     refine fe rfl rfl ?_
     rw [hw]
     rfl
   · rw [if_neg c1]
     have c2:=hq.last
     rw [if_pos c2]
     refine ⟨?_,pl 1 4,rfl,ig⟩
     unfold rdB
     refine ret_of rfl rfl (r0 ?_)
     (have hz1008:=decide_eq_false t1;have hz1009:=decide_eq_false t2;have hz1010:=asM;have hz1011:=asZ;have hz1012:=atA;have hz1013:=atP;have hz1014:=aI5;have hz1015:=axC;have hz1016:=bv c0;have hz1017:=bv c1;have hz1018:=aQ c2;refine Z2 ?_)
     refine fe rfl rfl ?_
     rw [hw]
     rfl
theorem HW:bW 0 w5=[mkRat 1 4,mkRat 7 8,mkRat 1 1]:=by decide +kernel
theorem IC (v s:Int) (lo:Int) (b:Nat) (ts:List Nat) (n t:Nat) (q:Rat) (hq:Frq q) (ht:ts[n]?=some t) (htb:t < b) (hb:b<=1000) (hn:n < 1000) (hlen:n < ts.length) (hnew:Ret VP (.fn 442) [.d (.int .i64 t),.d (.int .i64 b)] [] (.d (.tuple [qD q,.int .i64 0])) []) :
 Ret VP (.fn 441) [.ptr 0 0 0 0,.d (cmD 2 v s .z (.tab lo w5) [] [] [] [])] [some (rdB b ts n)] (.d (.tuple [.int .i64 (pk w5 q:Nat),.int .i64 0])) [some (rdB b ts (n+1))] /\ ∃ p,w5[pk w5 q]?=some p/\Wn p:=by
 have hw:=ac n (by omega)
 have g:(ts.map oD)[n]?=some (oD t):=by rw [List.getElem?_map,ht];rfl
 have t0:((n:Int)==(((ts.map oD).length:Nat):Int))=false:=by rw [List.length_map];simp;omega
 have t1:¬ (t:Int) < 0:=by omega
 have t2:¬ (t:Int)>=(b:Int):=by omega
 unfold pk
 rw [HW]
 simp only [pkL]
 have m0:Ret VP (.fn 214) [.d (lit 1 4),.d (qD q)] [] (.d (.int .i64 (sgQ (mkRat 1 4 - q)))) []:=by
  have h:=dH (mkRat 1 4) q (by constructor<;>decide +kernel) hq.hf
  rwa [mG] at h
 have m1:Ret VP (.fn 214) [.d (lit 7 8),.d (qD q)] [] (.d (.int .i64 (sgQ (mkRat 7 8 - q)))) []:=by
  have h:=dH (mkRat 7 8) q (by constructor<;>decide +kernel) hq.hf
  rwa [wu] at h
 have m2:Ret VP (.fn 214) [.d (lit 1 1),.d (qD q)] [] (.d (.int .i64 (sgQ (mkRat 1 1 - q)))) []:=by
  have h:=dH (mkRat 1 1) q (by constructor<;>decide +kernel) hq.hf
  rwa [bE] at h
 by_cases c0:0 < sgQ (mkRat 1 4 - q)
 · rw [if_pos c0]
   refine ⟨?_,pl 1 4,rfl,ig⟩
   unfold rdB
   refine ret_of rfl rfl (r0 ?_)
   (have hz1019:=decide_eq_false t1;have hz1020:=decide_eq_false t2;have hz1021:=asM;have hz1022:=asZ;have hz1023:=atA;have hz1024:=axS;have hz1025:=axU;have hz1026:=axR;have hz1027:=axT;have hz1028:=aQ c0;refine Z2 ?_)
   refine fe rfl rfl ?_
   rw [hw]
   rfl
 · rw [if_neg c0]
   by_cases c1:0 < sgQ (mkRat 7 8 - q)
   · rw [if_pos c1]
     refine ⟨?_,pl 5 8,rfl,Hl⟩
     unfold rdB
     refine ret_of rfl rfl (r0 ?_)
     (have hz1029:=decide_eq_false t1;have hz1030:=decide_eq_false t2;have hz1031:=asM;have hz1032:=asZ;have hz1033:=atA;have hz1034:=axS;have hz1035:=axU;have hz1036:=axR;have hz1037:=axT;have hz1038:=bv c0;have hz1039:=aQ c1;refine Z2 ?_)
     refine fe rfl rfl ?_
     rw [hw]
     rfl
   · rw [if_neg c1]
     have c2:=hq.last
     rw [if_pos c2]
     refine ⟨?_,pl 1 8,rfl,Hm⟩
     unfold rdB
     refine ret_of rfl rfl (r0 ?_)
     (have hz1040:=decide_eq_false t1;have hz1041:=decide_eq_false t2;have hz1042:=asM;have hz1043:=asZ;have hz1044:=atA;have hz1045:=axS;have hz1046:=axU;have hz1047:=axR;have hz1048:=axT;have hz1049:=bv c0;have hz1050:=bv c1;have hz1051:=aQ c2;refine Z2 ?_)
     refine fe rfl rfl ?_
     rw [hw]
     rfl
theorem HV:bW 0 w6=[mkRat 1 1,mkRat 1 1]:=by decide +kernel
theorem IB (v s:Int) (lo:Int) (b:Nat) (ts:List Nat) (n t:Nat) (q:Rat) (hq:Frq q) (ht:ts[n]?=some t) (htb:t < b) (hb:b<=1000) (hn:n < 1000) (hlen:n < ts.length) (hnew:Ret VP (.fn 442) [.d (.int .i64 t),.d (.int .i64 b)] [] (.d (.tuple [qD q,.int .i64 0])) []) :
 Ret VP (.fn 441) [.ptr 0 0 0 0,.d (cmD 2 v s .z (.tab lo w6) [] [] [] [])] [some (rdB b ts n)] (.d (.tuple [.int .i64 (pk w6 q:Nat),.int .i64 0])) [some (rdB b ts (n+1))] /\ ∃ p,w6[pk w6 q]?=some p/\Wn p:=by
 have hw:=ac n (by omega)
 have g:(ts.map oD)[n]?=some (oD t):=by rw [List.getElem?_map,ht];rfl
 have t0:((n:Int)==(((ts.map oD).length:Nat):Int))=false:=by rw [List.length_map];simp;omega
 have t1:¬ (t:Int) < 0:=by omega
 have t2:¬ (t:Int)>=(b:Int):=by omega
 unfold pk
 rw [HV]
 simp only [pkL]
 have m0:Ret VP (.fn 214) [.d (lit 1 1),.d (qD q)] [] (.d (.int .i64 (sgQ (mkRat 1 1 - q)))) []:=by
  have h:=dH (mkRat 1 1) q (by constructor<;>decide +kernel) hq.hf
  rwa [bE] at h
 have c0:=hq.last
 rw [if_pos c0]
 refine ⟨?_,pl 1 1,rfl,uI⟩
 unfold rdB
 refine ret_of rfl rfl (r0 ?_)
 (have hz1052:=decide_eq_false t1;have hz1053:=decide_eq_false t2;have hz1054:=asM;have hz1055:=aB0;have hz1056:=axQ;have hz1057:=aQ c0;refine Z2 ?_)
 refine fe rfl rfl ?_
 rw [hw]
 rfl
theorem HU:bW 0 w7=[mkRat 0 1,mkRat 1 1]:=by decide +kernel
theorem IA (v s:Int) (lo:Int) (b:Nat) (ts:List Nat) (n t:Nat) (q:Rat) (hq:Frq q) (ht:ts[n]?=some t) (htb:t < b) (hb:b<=1000) (hn:n < 1000) (hlen:n < ts.length) (hnew:Ret VP (.fn 442) [.d (.int .i64 t),.d (.int .i64 b)] [] (.d (.tuple [qD q,.int .i64 0])) []) :
 Ret VP (.fn 441) [.ptr 0 0 0 0,.d (cmD 2 v s .z (.tab lo w7) [] [] [] [])] [some (rdB b ts n)] (.d (.tuple [.int .i64 (pk w7 q:Nat),.int .i64 0])) [some (rdB b ts (n+1))] /\ ∃ p,w7[pk w7 q]?=some p/\Wn p:=by
 have hw:=ac n (by omega)
 have g:(ts.map oD)[n]?=some (oD t):=by rw [List.getElem?_map,ht];rfl
 have t0:((n:Int)==(((ts.map oD).length:Nat):Int))=false:=by rw [List.length_map];simp;omega
 have t1:¬ (t:Int) < 0:=by omega
 have t2:¬ (t:Int)>=(b:Int):=by omega
 unfold pk
 rw [HU]
 simp only [pkL]
 have m0:Ret VP (.fn 214) [.d uZ,.d (qD q)] [] (.d (.int .i64 (sgQ (mkRat 0 1 - q)))) []:=by
  have h:=dH (mkRat 0 1) q (by constructor<;>decide +kernel) hq.hf
  rwa [wB] at h
 have m1:Ret VP (.fn 214) [.d (lit 1 1),.d (qD q)] [] (.d (.int .i64 (sgQ (mkRat 1 1 - q)))) []:=by
  have h:=dH (mkRat 1 1) q (by constructor<;>decide +kernel) hq.hf
  rwa [bE] at h
 have c0:=hq.first
 rw [if_neg c0]
 have c1:=hq.last
 rw [if_pos c1]
 refine ⟨?_,pl 1 1,rfl,uI⟩
 unfold rdB
 refine ret_of rfl rfl (r0 ?_)
 (have hz1058:=decide_eq_false t1;have hz1059:=decide_eq_false t2;have hz1060:=asM;have hz1061:=axZ;have hz1062:=aIN;have hz1063:=aB0;have hz1064:=axQ;have hz1065:=bv c0;have hz1066:=aQ c1;refine Z2 ?_)
 refine fe rfl rfl ?_
 rw [hw]
 rfl
theorem HT:bW 0 w8=[mkRat 1 2,mkRat 1 1]:=by decide +kernel
theorem Iz (v s:Int) (lo:Int) (b:Nat) (ts:List Nat) (n t:Nat) (q:Rat) (hq:Frq q) (ht:ts[n]?=some t) (htb:t < b) (hb:b<=1000) (hn:n < 1000) (hlen:n < ts.length) (hnew:Ret VP (.fn 442) [.d (.int .i64 t),.d (.int .i64 b)] [] (.d (.tuple [qD q,.int .i64 0])) []) :
 Ret VP (.fn 441) [.ptr 0 0 0 0,.d (cmD 2 v s .z (.tab lo w8) [] [] [] [])] [some (rdB b ts n)] (.d (.tuple [.int .i64 (pk w8 q:Nat),.int .i64 0])) [some (rdB b ts (n+1))] /\ ∃ p,w8[pk w8 q]?=some p/\Wn p:=by
 have hw:=ac n (by omega)
 have g:(ts.map oD)[n]?=some (oD t):=by rw [List.getElem?_map,ht];rfl
 have t0:((n:Int)==(((ts.map oD).length:Nat):Int))=false:=by rw [List.length_map];simp;omega
 have t1:¬ (t:Int) < 0:=by omega
 have t2:¬ (t:Int)>=(b:Int):=by omega
 unfold pk
 rw [HT]
 simp only [pkL]
 have m0:Ret VP (.fn 214) [.d (lit 1 2),.d (qD q)] [] (.d (.int .i64 (sgQ (mkRat 1 2 - q)))) []:=by
  have h:=dH (mkRat 1 2) q (by constructor<;>decide +kernel) hq.hf
  rwa [kB] at h
 have m1:Ret VP (.fn 214) [.d (lit 1 1),.d (qD q)] [] (.d (.int .i64 (sgQ (mkRat 1 1 - q)))) []:=by
  have h:=dH (mkRat 1 1) q (by constructor<;>decide +kernel) hq.hf
  rwa [bE] at h
 by_cases c0:0 < sgQ (mkRat 1 2 - q)
 · rw [if_pos c0]
   refine ⟨?_,pl 1 2,rfl,ii⟩
   unfold rdB
   refine ret_of rfl rfl (r0 ?_)
   (have hz1067:=decide_eq_false t1;have hz1068:=decide_eq_false t2;have hz1069:=asM;have hz1070:=atP;have hz1071:=axA;have hz1072:=aHE;have hz1073:=aQ c0;refine Z2 ?_)
   refine fe rfl rfl ?_
   rw [hw]
   rfl
 · rw [if_neg c0]
   have c1:=hq.last
   rw [if_pos c1]
   refine ⟨?_,pl 1 2,rfl,ii⟩
   unfold rdB
   refine ret_of rfl rfl (r0 ?_)
   (have hz1074:=decide_eq_false t1;have hz1075:=decide_eq_false t2;have hz1076:=asM;have hz1077:=atP;have hz1078:=axA;have hz1079:=aHE;have hz1080:=bv c0;have hz1081:=aQ c1;refine Z2 ?_)
   refine fe rfl rfl ?_
   rw [hw]
   rfl
theorem HS:bW 0 w9=[mkRat 2 3,mkRat 1 1]:=by decide +kernel
theorem Ix (v s:Int) (lo:Int) (b:Nat) (ts:List Nat) (n t:Nat) (q:Rat) (hq:Frq q) (ht:ts[n]?=some t) (htb:t < b) (hb:b<=1000) (hn:n < 1000) (hlen:n < ts.length) (hnew:Ret VP (.fn 442) [.d (.int .i64 t),.d (.int .i64 b)] [] (.d (.tuple [qD q,.int .i64 0])) []) :
 Ret VP (.fn 441) [.ptr 0 0 0 0,.d (cmD 2 v s .z (.tab lo w9) [] [] [] [])] [some (rdB b ts n)] (.d (.tuple [.int .i64 (pk w9 q:Nat),.int .i64 0])) [some (rdB b ts (n+1))] /\ ∃ p,w9[pk w9 q]?=some p/\Wn p:=by
 have hw:=ac n (by omega)
 have g:(ts.map oD)[n]?=some (oD t):=by rw [List.getElem?_map,ht];rfl
 have t0:((n:Int)==(((ts.map oD).length:Nat):Int))=false:=by rw [List.length_map];simp;omega
 have t1:¬ (t:Int) < 0:=by omega
 have t2:¬ (t:Int)>=(b:Int):=by omega
 unfold pk
 rw [HS]
 simp only [pkL]
 have m0:Ret VP (.fn 214) [.d (lit 2 3),.d (qD q)] [] (.d (.int .i64 (sgQ (mkRat 2 3 - q)))) []:=by
  have h:=dH (mkRat 2 3) q (by constructor<;>decide +kernel) hq.hf
  rwa [q7] at h
 have m1:Ret VP (.fn 214) [.d (lit 1 1),.d (qD q)] [] (.d (.int .i64 (sgQ (mkRat 1 1 - q)))) []:=by
  have h:=dH (mkRat 1 1) q (by constructor<;>decide +kernel) hq.hf
  rwa [bE] at h
 by_cases c0:0 < sgQ (mkRat 2 3 - q)
 · rw [if_pos c0]
   refine ⟨?_,pl 2 3,rfl,uG⟩
   unfold rdB
   refine ret_of rfl rfl (r0 ?_)
   (have hz1082:=decide_eq_false t1;have hz1083:=decide_eq_false t2;have hz1084:=asM;have hz1085:=avZ;have hz1086:=axV;have hz1087:=at6;have hz1088:=aA8;have hz1089:=aQ c0;refine Z2 ?_)
   refine fe rfl rfl ?_
   rw [hw]
   rfl
 · rw [if_neg c0]
   have c1:=hq.last
   rw [if_pos c1]
   refine ⟨?_,pl 1 3,rfl,jn⟩
   unfold rdB
   refine ret_of rfl rfl (r0 ?_)
   (have hz1090:=decide_eq_false t1;have hz1091:=decide_eq_false t2;have hz1092:=asM;have hz1093:=avZ;have hz1094:=axV;have hz1095:=at6;have hz1096:=aA8;have hz1097:=bv c0;have hz1098:=aQ c1;refine Z2 ?_)
   refine fe rfl rfl ?_
   rw [hw]
   rfl
theorem vJ:bW 0 w10=[mkRat 1 3,mkRat 1 1]:=by decide +kernel
theorem wk (v s:Int) (lo:Int) (b:Nat) (ts:List Nat) (n t:Nat) (q:Rat) (hq:Frq q) (ht:ts[n]?=some t) (htb:t < b) (hb:b<=1000) (hn:n < 1000) (hlen:n < ts.length) (hnew:Ret VP (.fn 442) [.d (.int .i64 t),.d (.int .i64 b)] [] (.d (.tuple [qD q,.int .i64 0])) []) :
 Ret VP (.fn 441) [.ptr 0 0 0 0,.d (cmD 2 v s .z (.tab lo w10) [] [] [] [])] [some (rdB b ts n)] (.d (.tuple [.int .i64 (pk w10 q:Nat),.int .i64 0])) [some (rdB b ts (n+1))] /\ ∃ p,w10[pk w10 q]?=some p/\Wn p:=by
 have hw:=ac n (by omega)
 have g:(ts.map oD)[n]?=some (oD t):=by rw [List.getElem?_map,ht];rfl
 have t0:((n:Int)==(((ts.map oD).length:Nat):Int))=false:=by rw [List.length_map];simp;omega
 have t1:¬ (t:Int) < 0:=by omega
 have t2:¬ (t:Int)>=(b:Int):=by omega
 unfold pk
 rw [vJ]
 simp only [pkL]
 have m0:Ret VP (.fn 214) [.d (lit 1 3),.d (qD q)] [] (.d (.int .i64 (sgQ (mkRat 1 3 - q)))) []:=by
  have h:=dH (mkRat 1 3) q (by constructor<;>decide +kernel) hq.hf
  rwa [mH] at h
 have m1:Ret VP (.fn 214) [.d (lit 1 1),.d (qD q)] [] (.d (.int .i64 (sgQ (mkRat 1 1 - q)))) []:=by
  have h:=dH (mkRat 1 1) q (by constructor<;>decide +kernel) hq.hf
  rwa [bE] at h
 by_cases c0:0 < sgQ (mkRat 1 3 - q)
 · rw [if_pos c0]
   refine ⟨?_,pl 1 3,rfl,jn⟩
   unfold rdB
   refine ret_of rfl rfl (r0 ?_)
   (have hz1099:=decide_eq_false t1;have hz1100:=decide_eq_false t2;have hz1101:=asM;have hz1102:=at6;have hz1103:=at9;have hz1104:=avZ;have hz1105:=aAZ;have hz1106:=aQ c0;refine Z2 ?_)
   refine fe rfl rfl ?_
   rw [hw]
   rfl
 · rw [if_neg c0]
   have c1:=hq.last
   rw [if_pos c1]
   refine ⟨?_,pl 2 3,rfl,uG⟩
   unfold rdB
   refine ret_of rfl rfl (r0 ?_)
   (have hz1107:=decide_eq_false t1;have hz1108:=decide_eq_false t2;have hz1109:=asM;have hz1110:=at6;have hz1111:=at9;have hz1112:=avZ;have hz1113:=aAZ;have hz1114:=bv c0;have hz1115:=aQ c1;refine Z2 ?_)
   refine fe rfl rfl ?_
   rw [hw]
   rfl
theorem vI:bW 0 w11=[mkRat 3 4,mkRat 1 1]:=by decide +kernel
theorem wj (v s:Int) (lo:Int) (b:Nat) (ts:List Nat) (n t:Nat) (q:Rat) (hq:Frq q) (ht:ts[n]?=some t) (htb:t < b) (hb:b<=1000) (hn:n < 1000) (hlen:n < ts.length) (hnew:Ret VP (.fn 442) [.d (.int .i64 t),.d (.int .i64 b)] [] (.d (.tuple [qD q,.int .i64 0])) []) :
 Ret VP (.fn 441) [.ptr 0 0 0 0,.d (cmD 2 v s .z (.tab lo w11) [] [] [] [])] [some (rdB b ts n)] (.d (.tuple [.int .i64 (pk w11 q:Nat),.int .i64 0])) [some (rdB b ts (n+1))] /\ ∃ p,w11[pk w11 q]?=some p/\Wn p:=by
 have hw:=ac n (by omega)
 have g:(ts.map oD)[n]?=some (oD t):=by rw [List.getElem?_map,ht];rfl
 have t0:((n:Int)==(((ts.map oD).length:Nat):Int))=false:=by rw [List.length_map];simp;omega
 have t1:¬ (t:Int) < 0:=by omega
 have t2:¬ (t:Int)>=(b:Int):=by omega
 unfold pk
 rw [vI]
 simp only [pkL]
 have m0:Ret VP (.fn 214) [.d (lit 3 4),.d (qD q)] [] (.d (.int .i64 (sgQ (mkRat 3 4 - q)))) []:=by
  have h:=dH (mkRat 3 4) q (by constructor<;>decide +kernel) hq.hf
  rwa [mF] at h
 have m1:Ret VP (.fn 214) [.d (lit 1 1),.d (qD q)] [] (.d (.int .i64 (sgQ (mkRat 1 1 - q)))) []:=by
  have h:=dH (mkRat 1 1) q (by constructor<;>decide +kernel) hq.hf
  rwa [bE] at h
 by_cases c0:0 < sgQ (mkRat 3 4 - q)
 · rw [if_pos c0]
   refine ⟨?_,pl 3 4,rfl,uE⟩
   unfold rdB
   refine ret_of rfl rfl (r0 ?_)
   (have hz1116:=decide_eq_false t1;have hz1117:=decide_eq_false t2;have hz1118:=asM;have hz1119:=avV;have hz1120:=axP;have hz1121:=asZ;have hz1122:=axC;have hz1123:=aQ c0;refine Z2 ?_)
   refine fe rfl rfl ?_
   rw [hw]
   rfl
 · rw [if_neg c0]
   have c1:=hq.last
   rw [if_pos c1]
   refine ⟨?_,pl 1 4,rfl,ig⟩
   unfold rdB
   refine ret_of rfl rfl (r0 ?_)
   (have hz1124:=decide_eq_false t1;have hz1125:=decide_eq_false t2;have hz1126:=asM;have hz1127:=avV;have hz1128:=axP;have hz1129:=asZ;have hz1130:=axC;have hz1131:=bv c0;have hz1132:=aQ c1;refine Z2 ?_)
   refine fe rfl rfl ?_
   rw [hw]
   rfl
theorem vH:bW 0 w12=[mkRat 1 4,mkRat 1 1]:=by decide +kernel
theorem wi (v s:Int) (lo:Int) (b:Nat) (ts:List Nat) (n t:Nat) (q:Rat) (hq:Frq q) (ht:ts[n]?=some t) (htb:t < b) (hb:b<=1000) (hn:n < 1000) (hlen:n < ts.length) (hnew:Ret VP (.fn 442) [.d (.int .i64 t),.d (.int .i64 b)] [] (.d (.tuple [qD q,.int .i64 0])) []) :
 Ret VP (.fn 441) [.ptr 0 0 0 0,.d (cmD 2 v s .z (.tab lo w12) [] [] [] [])] [some (rdB b ts n)] (.d (.tuple [.int .i64 (pk w12 q:Nat),.int .i64 0])) [some (rdB b ts (n+1))] /\ ∃ p,w12[pk w12 q]?=some p/\Wn p:=by
 have hw:=ac n (by omega)
 have g:(ts.map oD)[n]?=some (oD t):=by rw [List.getElem?_map,ht];rfl
 have t0:((n:Int)==(((ts.map oD).length:Nat):Int))=false:=by rw [List.length_map];simp;omega
 have t1:¬ (t:Int) < 0:=by omega
 have t2:¬ (t:Int)>=(b:Int):=by omega
 unfold pk
 rw [vH]
 simp only [pkL]
 have m0:Ret VP (.fn 214) [.d (lit 1 4),.d (qD q)] [] (.d (.int .i64 (sgQ (mkRat 1 4 - q)))) []:=by
  have h:=dH (mkRat 1 4) q (by constructor<;>decide +kernel) hq.hf
  rwa [mG] at h
 have m1:Ret VP (.fn 214) [.d (lit 1 1),.d (qD q)] [] (.d (.int .i64 (sgQ (mkRat 1 1 - q)))) []:=by
  have h:=dH (mkRat 1 1) q (by constructor<;>decide +kernel) hq.hf
  rwa [bE] at h
 by_cases c0:0 < sgQ (mkRat 1 4 - q)
 · rw [if_pos c0]
   refine ⟨?_,pl 1 4,rfl,ig⟩
   unfold rdB
   refine ret_of rfl rfl (r0 ?_)
   (have hz1133:=decide_eq_false t1;have hz1134:=decide_eq_false t2;have hz1135:=asM;have hz1136:=asZ;have hz1137:=atA;have hz1138:=avV;have hz1139:=aAV;have hz1140:=aQ c0;refine Z2 ?_)
   refine fe rfl rfl ?_
   rw [hw]
   rfl
 · rw [if_neg c0]
   have c1:=hq.last
   rw [if_pos c1]
   refine ⟨?_,pl 3 4,rfl,uE⟩
   unfold rdB
   refine ret_of rfl rfl (r0 ?_)
   (have hz1141:=decide_eq_false t1;have hz1142:=decide_eq_false t2;have hz1143:=asM;have hz1144:=asZ;have hz1145:=atA;have hz1146:=avV;have hz1147:=aAV;have hz1148:=bv c0;have hz1149:=aQ c1;refine Z2 ?_)
   refine fe rfl rfl ?_
   rw [hw]
   rfl
theorem vG:bW 0 w13=[mkRat 4 5,mkRat 1 1]:=by decide +kernel
theorem wh (v s:Int) (lo:Int) (b:Nat) (ts:List Nat) (n t:Nat) (q:Rat) (hq:Frq q) (ht:ts[n]?=some t) (htb:t < b) (hb:b<=1000) (hn:n < 1000) (hlen:n < ts.length) (hnew:Ret VP (.fn 442) [.d (.int .i64 t),.d (.int .i64 b)] [] (.d (.tuple [qD q,.int .i64 0])) []) :
 Ret VP (.fn 441) [.ptr 0 0 0 0,.d (cmD 2 v s .z (.tab lo w13) [] [] [] [])] [some (rdB b ts n)] (.d (.tuple [.int .i64 (pk w13 q:Nat),.int .i64 0])) [some (rdB b ts (n+1))] /\ ∃ p,w13[pk w13 q]?=some p/\Wn p:=by
 have hw:=ac n (by omega)
 have g:(ts.map oD)[n]?=some (oD t):=by rw [List.getElem?_map,ht];rfl
 have t0:((n:Int)==(((ts.map oD).length:Nat):Int))=false:=by rw [List.length_map];simp;omega
 have t1:¬ (t:Int) < 0:=by omega
 have t2:¬ (t:Int)>=(b:Int):=by omega
 unfold pk
 rw [vG]
 simp only [pkL]
 have m0:Ret VP (.fn 214) [.d (lit 4 5),.d (qD q)] [] (.d (.int .i64 (sgQ (mkRat 4 5 - q)))) []:=by
  have h:=dH (mkRat 4 5) q (by constructor<;>decide +kernel) hq.hf
  rwa [ww] at h
 have m1:Ret VP (.fn 214) [.d (lit 1 1),.d (qD q)] [] (.d (.int .i64 (sgQ (mkRat 1 1 - q)))) []:=by
  have h:=dH (mkRat 1 1) q (by constructor<;>decide +kernel) hq.hf
  rwa [bE] at h
 by_cases c0:0 < sgQ (mkRat 4 5 - q)
 · rw [if_pos c0]
   refine ⟨?_,pl 4 5,rfl,uC⟩
   unfold rdB
   refine ret_of rfl rfl (r0 ?_)
   (have hz1150:=decide_eq_false t1;have hz1151:=decide_eq_false t2;have hz1152:=asM;have hz1153:=avR;have hz1154:=axO;have hz1155:=avQ;have hz1156:=aAM;have hz1157:=aQ c0;refine Z2 ?_)
   refine fe rfl rfl ?_
   rw [hw]
   rfl
 · rw [if_neg c0]
   have c1:=hq.last
   rw [if_pos c1]
   refine ⟨?_,pl 1 5,rfl,uH⟩
   unfold rdB
   refine ret_of rfl rfl (r0 ?_)
   (have hz1158:=decide_eq_false t1;have hz1159:=decide_eq_false t2;have hz1160:=asM;have hz1161:=avR;have hz1162:=axO;have hz1163:=avQ;have hz1164:=aAM;have hz1165:=bv c0;have hz1166:=aQ c1;refine Z2 ?_)
   refine fe rfl rfl ?_
   rw [hw]
   rfl
theorem vE:bW 0 w14=[mkRat 3 5,mkRat 1 1]:=by decide +kernel
theorem wg (v s:Int) (lo:Int) (b:Nat) (ts:List Nat) (n t:Nat) (q:Rat) (hq:Frq q) (ht:ts[n]?=some t) (htb:t < b) (hb:b<=1000) (hn:n < 1000) (hlen:n < ts.length) (hnew:Ret VP (.fn 442) [.d (.int .i64 t),.d (.int .i64 b)] [] (.d (.tuple [qD q,.int .i64 0])) []) :
 Ret VP (.fn 441) [.ptr 0 0 0 0,.d (cmD 2 v s .z (.tab lo w14) [] [] [] [])] [some (rdB b ts n)] (.d (.tuple [.int .i64 (pk w14 q:Nat),.int .i64 0])) [some (rdB b ts (n+1))] /\ ∃ p,w14[pk w14 q]?=some p/\Wn p:=by
 have hw:=ac n (by omega)
 have g:(ts.map oD)[n]?=some (oD t):=by rw [List.getElem?_map,ht];rfl
 have t0:((n:Int)==(((ts.map oD).length:Nat):Int))=false:=by rw [List.length_map];simp;omega
 have t1:¬ (t:Int) < 0:=by omega
 have t2:¬ (t:Int)>=(b:Int):=by omega
 unfold pk
 rw [vE]
 simp only [pkL]
 have m0:Ret VP (.fn 214) [.d (lit 3 5),.d (qD q)] [] (.d (.int .i64 (sgQ (mkRat 3 5 - q)))) []:=by
  have h:=dH (mkRat 3 5) q (by constructor<;>decide +kernel) hq.hf
  rwa [wx] at h
 have m1:Ret VP (.fn 214) [.d (lit 1 1),.d (qD q)] [] (.d (.int .i64 (sgQ (mkRat 1 1 - q)))) []:=by
  have h:=dH (mkRat 1 1) q (by constructor<;>decide +kernel) hq.hf
  rwa [bE] at h
 by_cases c0:0 < sgQ (mkRat 3 5 - q)
 · rw [if_pos c0]
   refine ⟨?_,pl 3 5,rfl,uD⟩
   unfold rdB
   refine ret_of rfl rfl (r0 ?_)
   (have hz1167:=decide_eq_false t1;have hz1168:=decide_eq_false t2;have hz1169:=asM;have hz1170:=avP;have hz1171:=axM;have hz1172:=avO;have hz1173:=aAD;have hz1174:=aQ c0;refine Z2 ?_)
   refine fe rfl rfl ?_
   rw [hw]
   rfl
 · rw [if_neg c0]
   have c1:=hq.last
   rw [if_pos c1]
   refine ⟨?_,pl 2 5,rfl,uF⟩
   unfold rdB
   refine ret_of rfl rfl (r0 ?_)
   (have hz1175:=decide_eq_false t1;have hz1176:=decide_eq_false t2;have hz1177:=asM;have hz1178:=avP;have hz1179:=axM;have hz1180:=avO;have hz1181:=aAD;have hz1182:=bv c0;have hz1183:=aQ c1;refine Z2 ?_)
   refine fe rfl rfl ?_
   rw [hw]
   rfl
theorem vD:bW 0 w15=[mkRat 2 5,mkRat 1 1]:=by decide +kernel
theorem wf (v s:Int) (lo:Int) (b:Nat) (ts:List Nat) (n t:Nat) (q:Rat) (hq:Frq q) (ht:ts[n]?=some t) (htb:t < b) (hb:b<=1000) (hn:n < 1000) (hlen:n < ts.length) (hnew:Ret VP (.fn 442) [.d (.int .i64 t),.d (.int .i64 b)] [] (.d (.tuple [qD q,.int .i64 0])) []) :
 Ret VP (.fn 441) [.ptr 0 0 0 0,.d (cmD 2 v s .z (.tab lo w15) [] [] [] [])] [some (rdB b ts n)] (.d (.tuple [.int .i64 (pk w15 q:Nat),.int .i64 0])) [some (rdB b ts (n+1))] /\ ∃ p,w15[pk w15 q]?=some p/\Wn p:=by
 have hw:=ac n (by omega)
 have g:(ts.map oD)[n]?=some (oD t):=by rw [List.getElem?_map,ht];rfl
 have t0:((n:Int)==(((ts.map oD).length:Nat):Int))=false:=by rw [List.length_map];simp;omega
 have t1:¬ (t:Int) < 0:=by omega
 have t2:¬ (t:Int)>=(b:Int):=by omega
 unfold pk
 rw [vD]
 simp only [pkL]
 have m0:Ret VP (.fn 214) [.d (lit 2 5),.d (qD q)] [] (.d (.int .i64 (sgQ (mkRat 2 5 - q)))) []:=by
  have h:=dH (mkRat 2 5) q (by constructor<;>decide +kernel) hq.hf
  rwa [wy] at h
 have m1:Ret VP (.fn 214) [.d (lit 1 1),.d (qD q)] [] (.d (.int .i64 (sgQ (mkRat 1 1 - q)))) []:=by
  have h:=dH (mkRat 1 1) q (by constructor<;>decide +kernel) hq.hf
  rwa [bE] at h
 by_cases c0:0 < sgQ (mkRat 2 5 - q)
 · rw [if_pos c0]
   refine ⟨?_,pl 2 5,rfl,uF⟩
   unfold rdB
   refine ret_of rfl rfl (r0 ?_)
   (have hz1184:=decide_eq_false t1;have hz1185:=decide_eq_false t2;have hz1186:=asM;have hz1187:=avO;have hz1188:=axL;have hz1189:=avP;have hz1190:=aAC;have hz1191:=aQ c0;refine Z2 ?_)
   refine fe rfl rfl ?_
   rw [hw]
   rfl
 · rw [if_neg c0]
   have c1:=hq.last
   rw [if_pos c1]
   refine ⟨?_,pl 3 5,rfl,uD⟩
   unfold rdB
   refine ret_of rfl rfl (r0 ?_)
   (have hz1192:=decide_eq_false t1;have hz1193:=decide_eq_false t2;have hz1194:=asM;have hz1195:=avO;have hz1196:=axL;have hz1197:=avP;have hz1198:=aAC;have hz1199:=bv c0;have hz1200:=aQ c1;refine Z2 ?_)
   refine fe rfl rfl ?_
   rw [hw]
   rfl
theorem vC:bW 0 w16=[mkRat 1 5,mkRat 1 1]:=by decide +kernel
theorem we (v s:Int) (lo:Int) (b:Nat) (ts:List Nat) (n t:Nat) (q:Rat) (hq:Frq q) (ht:ts[n]?=some t) (htb:t < b) (hb:b<=1000) (hn:n < 1000) (hlen:n < ts.length) (hnew:Ret VP (.fn 442) [.d (.int .i64 t),.d (.int .i64 b)] [] (.d (.tuple [qD q,.int .i64 0])) []) :
 Ret VP (.fn 441) [.ptr 0 0 0 0,.d (cmD 2 v s .z (.tab lo w16) [] [] [] [])] [some (rdB b ts n)] (.d (.tuple [.int .i64 (pk w16 q:Nat),.int .i64 0])) [some (rdB b ts (n+1))] /\ ∃ p,w16[pk w16 q]?=some p/\Wn p:=by
 have hw:=ac n (by omega)
 have g:(ts.map oD)[n]?=some (oD t):=by rw [List.getElem?_map,ht];rfl
 have t0:((n:Int)==(((ts.map oD).length:Nat):Int))=false:=by rw [List.length_map];simp;omega
 have t1:¬ (t:Int) < 0:=by omega
 have t2:¬ (t:Int)>=(b:Int):=by omega
 unfold pk
 rw [vC]
 simp only [pkL]
 have m0:Ret VP (.fn 214) [.d (lit 1 5),.d (qD q)] [] (.d (.int .i64 (sgQ (mkRat 1 5 - q)))) []:=by
  have h:=dH (mkRat 1 5) q (by constructor<;>decide +kernel) hq.hf
  rwa [wz] at h
 have m1:Ret VP (.fn 214) [.d (lit 1 1),.d (qD q)] [] (.d (.int .i64 (sgQ (mkRat 1 1 - q)))) []:=by
  have h:=dH (mkRat 1 1) q (by constructor<;>decide +kernel) hq.hf
  rwa [bE] at h
 by_cases c0:0 < sgQ (mkRat 1 5 - q)
 · rw [if_pos c0]
   refine ⟨?_,pl 1 5,rfl,uH⟩
   unfold rdB
   refine ret_of rfl rfl (r0 ?_)
   (have hz1201:=decide_eq_false t1;have hz1202:=decide_eq_false t2;have hz1203:=asM;have hz1204:=avQ;have hz1205:=axN;have hz1206:=avR;have hz1207:=aAB;have hz1208:=aQ c0;refine Z2 ?_)
   refine fe rfl rfl ?_
   rw [hw]
   rfl
 · rw [if_neg c0]
   have c1:=hq.last
   rw [if_pos c1]
   refine ⟨?_,pl 4 5,rfl,uC⟩
   unfold rdB
   refine ret_of rfl rfl (r0 ?_)
   (have hz1209:=decide_eq_false t1;have hz1210:=decide_eq_false t2;have hz1211:=asM;have hz1212:=avQ;have hz1213:=axN;have hz1214:=avR;have hz1215:=aAB;have hz1216:=bv c0;have hz1217:=aQ c1;refine Z2 ?_)
   refine fe rfl rfl ?_
   rw [hw]
   rfl
theorem tl (v s:Int) (lo:Int) (b:Nat) (ts:List Nat) (n t:Nat) (q:Rat) (hq:Frq q) (ht:ts[n]?=some t) (htb:t < b) (hb:b<=1000) (hn:n < 1000) (hlen:n < ts.length) (hnew:Ret VP (.fn 442) [.d (.int .i64 t),.d (.int .i64 b)] [] (.d (.tuple [qD q,.int .i64 0])) []) : ∀ w∈W0,
 Ret VP (.fn 441) [.ptr 0 0 0 0,.d (cmD 2 v s .z (.tab lo w) [] [] [] [])] [some (rdB b ts n)] (.d (.tuple [.int .i64 (pk w q:Nat),.int .i64 0])) [some (rdB b ts (n+1))] /\ ∃ p,w[pk w q]?=some p/\Wn p :=
 md ⟨IH v s lo b ts n t q hq ht htb hb hn hlen hnew,IG v s lo b ts n t q hq ht htb hb hn hlen hnew,IF v s lo b ts n t q hq ht htb hb hn hlen hnew,IE v s lo b ts n t q hq ht htb hb hn hlen hnew,ID v s lo b ts n t q hq ht htb hb hn hlen hnew,IC v s lo b ts n t q hq ht htb hb hn hlen hnew,IB v s lo b ts n t q hq ht htb hb hn hlen hnew,IA v s lo b ts n t q hq ht htb hb hn hlen hnew,Iz v s lo b ts n t q hq ht htb hb hn hlen hnew,Ix v s lo b ts n t q hq ht htb hb hn hlen hnew,wk v s lo b ts n t q hq ht htb hb hn hlen hnew,wj v s lo b ts n t q hq ht htb hb hn hlen hnew,wi v s lo b ts n t q hq ht htb hb hn hlen hnew,wh v s lo b ts n t q hq ht htb hb hn hlen hnew,wg v s lo b ts n t q hq ht htb hb hn hlen hnew,wf v s lo b ts n t q hq ht htb hb hn hlen hnew,we v s lo b ts n t q hq ht htb hb hn hlen hnew⟩
theorem Iv (t b:Nat) (hb:0 < b):(mkRat (t:Int) b).num=((t/Nat.gcd b t:Nat):Int)/\(mkRat (t:Int) b).den=b/Nat.gcd b t:=by
 have hb':b≠0:=by omega
 constructor
 · rw [Rat.num_mkRat,if_neg hb',Int.natAbs_natCast];rfl
 · rw [Rat.den_mkRat,if_neg hb',Int.natAbs_natCast,Nat.gcd_comm]
theorem IU (t b:Nat) (htb:t < b) (hb:b<=1000):Frq (mkRat (t:Int) b):=by
 have ⟨e1,e2⟩:=Iv t b (by omega)
 have hg:0 < Nat.gcd b t:=Nat.gcd_pos_of_pos_left _ (by omega)
 have l1:t/Nat.gcd b t<=t:=Nat.div_le_self _ _
 have l2:b/Nat.gcd b t<=b:=Nat.div_le_self _ _
 refine ⟨?_,?_,?_,?_⟩
 · rw [<- Rat.num_nonneg,e1];exact Int.natCast_nonneg _
 · rw [Rat.lt_iff,e1,e2]
   have h1:t/Nat.gcd b t < b/Nat.gcd b t:=by
    have h2:=Nat.div_mul_cancel (Nat.gcd_dvd_left b t)
    have h3:=Nat.div_mul_cancel (Nat.gcd_dvd_right b t)
    refine Nat.lt_of_mul_lt_mul_right (a:=Nat.gcd b t) ?_
    rw [h2,h3];exact htb
   have e3:(1:Rat).num=1:=rfl
   have e4:(1:Rat).den=1:=rfl
   rw [e3,e4];omega
 · rw [e1,Int.natAbs_natCast];omega
 · rw [e2];omega
theorem wm (t b:Nat) (htb:t < b) (hb:b<=1000):Ret VP (.fn 442) [.d (.int .i64 t),.d (.int .i64 b)] [] (.d (.tuple [qD (mkRat (t:Int) b),.int .i64 0])) []:=by
 have h1:=dN t (by omega)
 have h2:=dN b (by omega)
 have h3:=gc false t b (by omega) (by omega) (by omega)
 have e:sg false t=(t:Int):=rfl
 rw [e] at h3
 have h4:=aa8 (mkRat (t:Int) b)
 have t0:((b:Int)==0)=false:=by simp;omega
 refine ret_of rfl rfl (r0 ?_)
 refine Z2 ?_
 rfl
theorem aaA (t b f:Nat) (hf:0 < f):mkRat ((t*f:Nat):Int) (b*f)=mkRat (t:Int) b:=by
 rw [Int.natCast_mul]
 exact Rat.mkRat_mul_right (by omega)
theorem hH (v s:Int) (lo:Int) (b:Nat) (ts:List Nat) (n:Nat) (hb:b<=1000) (hall : ∀ t∈ts,t < b) (hn:n < 1000) (hlen:n < ts.length) (w:List D) (hw:w∈W0) :
 Ret VP (.fn 441) [.ptr 0 0 0 0,.d (cmD 2 v s .z (.tab lo w) [] [] [] [])] [some (rdB b ts n)] (.d (.tuple [.int .i64 (pk w (mkRat (ts.getD n 0:Nat) b):Nat),.int .i64 0])) [some (rdB b ts (n+1))] /\ ∃ p,w[pk w (mkRat (ts.getD n 0:Nat) b)]?=some p/\Wn p:=by
 have hg:ts[n]?=some (ts.getD n 0):=by rw [List.getD_eq_getElem?_getD,List.getElem?_eq_getElem hlen];rfl
 have hm:ts.getD n 0 < b:=hall _ (List.mem_of_getElem? hg)
 exact tl v s lo b ts n (ts.getD n 0) _ (IU _ b hm hb) hg hm hb hn hlen (wm _ b hm hb) w hw
end Go.Proofs.YtemffeblbmimfaaGreat
namespace Go.Proofs.YtemffeblbmimfaaGreat
open Go.IntWalk
attribute [local irreducible] au
set_option maxHeartbeats 4000000
set_option maxRecDepth 100000
theorem bM (st:List Int):(st.map iD).all bJ=true:=by
 induction st with
 | nil=>rfl
 | cons c l ih=>rw [List.map_cons,List.all_cons,ih];rfl
theorem aK {s:aa} {id ver k esz:Nat} {ro:Bool} {es:List D} {x:D} (hb:getB s id=some (.rows ver ro (esz+1) (ao es))) (hk:k=es.length) (ho:es.all bJ=true):ai s [] [.d x,.ms id ver 0 k]=some ([.d x,.d (.slice es)],[id]):=by
 have h1:=mg hb hk ho
 have h2:toD s bB (.d x)=some (x,[]):=rfl
 simp only [ai,h1,h2,List.drop_nil,List.append_nil,List.nil_append]
section
variable {p:bh} {b0:Nat} {d:Option Nat} {os:List VOper} {e:Env} {s s1:aa} {Q:Env->aa->Prop}
theorem osD {a y:Opd} {id ver i i' v:Nat} {es es':List D} {x:D} (ha:ev e a = .ptr id ver i' 0) (hii:i'=i) (hy:ev e y = .d x) (hb:getB s id=some (.rows v false 1 (ao es))) (hv:v=ver) (hi:i < es.length) (h1 : ∀ z∈es,z.cells.length=1) (hx:x.cells=[x]) (hsc:bY x=true) (he:es.set i x=es') (hs:fF (setB s id (.rows v false 1 (ao es'))) some=some s1) (h:Ops p b0 os (put e d cA) s1 Q):Ops p b0 (⟨d,.store 1 a y,none⟩::os) e s Q:=by
 subst hii
 rw [ce] at hs;injection hs with hs
 have h2:(ao es)[i']?=some (es[i'].cells.map V.d):=by simp [ao,hi]
 have h3:=h1 es[i'] (List.getElem_mem hi)
 refine osm ha hy hb hv h2 (by rw [List.length_map,h3];decide) (by simp [V.cells,hx]) (by simpa [aH] using hsc) ?_
 have h4:(ao es).set i' (splice (es[i'].cells.map V.d) 0 [.d x])=ao es':=by
  rw [<- he]
  have h5:splice (es[i'].cells.map V.d) 0 [.d x]=x.cells.map V.d:=by
   obtain ⟨z,hz⟩:=List.length_eq_one_iff.1 h3
   rw [hz,hx];rfl
  rw [h5];simp [ao,List.map_set]
 rw [h4,hs];exact h
theorem oaD {slot esz bytes id ver len:Nat} {x y:Opd} {es:List D} (z:D) (hx:ev e x = .ms id ver 0 len) (hy:cM s esz (ev e y)=some [z.cells.map V.d]) (hb:getB s id=some (.rows ver false esz (ao es))) (hl:len=es.length) (hf:([z.cells.map V.d].all fun r=>r.length==esz&&r.all aH)=true) (hr:au (len+1) bytes=true) (hs:fF (setB s id (.rows (ver+1) false esz (ao (es++[z])))) some=some s1) (h:Ops p b0 os (put e d (.ms id (ver+1) 0 (len+1))) s1 Q):Ops p b0 (⟨d,.append slot esz bytes x y,none⟩::os) e s Q:=by
 rw [ce] at hs;injection hs with hs
 refine oam hx hy hb (by rw [av];omega) rfl hf hr ?_ h
 rw [aF]
 have e1:(ao es).take len++[z.cells.map V.d]=ao (es++[z]):=by
  rw [hl,ga];simp [ao]
 rw [e1,hs]
end
theorem dV (st:List Int) : ∀ z∈st.map iD,z.cells.length=1:=by
 intro z hz
 obtain ⟨n,_,rfl⟩:=List.mem_map.1 hz
 rfl
theorem dU (st:List Int) (i:Nat) (z:Int):(st.map iD).set i (.int .i64 z)=(st.set i z).map iD:=by rw [List.map_set];rfl
theorem se : ∀ w∈W0,w.length<=3:=md ⟨by decide,by decide,by decide,by decide,by decide,by decide,by decide,by decide,by decide,by decide,by decide,by decide,by decide,by decide,by decide,by decide,by decide⟩
structure X where
 ch:List (Nat×Nat)
 m:Rat
 st:List Int
 en:Int
 tk:Nat
def chD (p:Nat×Nat):D := .agg [.int .i64 p.1,.int .i64 p.2]
open Classical in
noncomputable def val2 (p:D):Rat:=if h : ∃ r:Rat,p = .slice [ct r]/\r≠0/\aaE r then h.choose else 0
theorem Wn.val {p:D} (h:Wn p):p = .slice [ct (val2 p)]/\val2 p≠0/\aaE (val2 p):=by
 have h1 : ∃ r:Rat,p = .slice [ct r]/\r≠0/\aaE r:=let ⟨r,a,b,c,_⟩:=h;⟨r,a,b,c⟩
 unfold val2
 rw [dif_pos h1]
 exact h1.choose_spec
def clA (cs:List Ce) (o:Nat) (n:Int):Int:=(cs.getD o ⟨1,0,1⟩).cl n
mutual
noncomputable def Cm.ex (cs:List Ce) (q:Nat->Rat):Cm->X->X×Bool
 | .mk k v s f t a b g o,x =>
   if k=1 then
    match g,o with
    | [f1],[o1]=>({ x with st:=x.st.set o1 (clA cs o1 (f1.ev x.st)) },true)
    | [f1,f2],[o1,o2]=>({ x with st:=(x.st.set o1 (clA cs o1 (f1.ev x.st))).set o2 (clA cs o2 (f2.ev x.st)) },true)
    | _,_=>(x,true)
   else if k=2 then
    ({ ch:=x.ch++[(s.toNat,pk t.w (q x.tk))],m:=x.m*val2 (t.w.getD (pk t.w (q x.tk)) p0),st:=x.st.set v.toNat (clA cs v.toNat (t.lo+(pk t.w (q x.tk):Nat))),en:=x.en,tk:=x.tk+1 },true)
   else if k=3 then
    if f.ev x.st=0 then Cm.exs cs q b x else Cm.exs cs q a x
   else if k=4 then
    if f.ev x.st=0 then ({ x with en:=2 },false) else (x,true)
   else ({ x with en:=3 },false)
noncomputable def Cm.exs (cs:List Ce) (q:Nat->Rat):List Cm->X->X×Bool
 | [],x=>(x,true)
 | c::l,x=>if (c.ex cs q x).2 then Cm.exs cs q l (c.ex cs q x).1 else ((c.ex cs q x).1,false)
end
structure Fix where
 cs:List Ce
 bd:List D
 os:List Nat
 T:Ty
 b:Nat
 ts:List Nat
def Fix.q (F:Fix) (n:Nat):Rat:=mkRat (F.ts.getD n 0:Nat) F.b
@[reducible] def aaU (F:Fix) (ch:V) (m:Rat) (stp:V) (en:Int) (rd:Nat):Option Blk:=some (.rows 0 false 17 [[.d (.int .i64 0),.d (.slice (F.cs.map Ce.d)),.d (.slice []),.d (.slice []),.d (.slice F.bd),.d (.slice (F.os.map oD)),.d (.int .i64 F.T.a),.d (.int .i64 F.T.b),.d (.int .i64 F.T.c),.d (.int .i64 F.T.d),.d (.slice F.T.e),ch,.d (.slice [ct m]),stp,.d (.int .i64 en),.func 441 [.ptr rd 0 0 0] [],.d (.int .i64 0)]])
@[reducible] def stB (st:List Int):Option Blk:=some (.rows 0 false 1 (ao (st.map iD)))
@[reducible] def chB (c:Nat×Nat) (l:List (Nat×Nat)):Option Blk:=some (.rows l.length false 2 (ao ((c::l).map chD)))
inductive Sh where
 | N
 | A (c:Nat×Nat) (l:List (Nat×Nat))
 | C (c:Nat×Nat) (l:List (Nat×Nat))
def Sh.ch:Sh->List (Nat×Nat)
 | .N=>[]
 | .A c l=>c::l
 | .C c l=>c::l
@[reducible] def sN (F:Fix) (x:X):aa:=[aaU F .nils x.m (.ms 1 0 0 x.st.length) x.en 2,stB x.st,some (rdB F.b F.ts x.tk)]
@[reducible] def sA (F:Fix) (x:X) (c:Nat×Nat) (l:List (Nat×Nat)):aa:=[aaU F (.ms 3 l.length 0 (l.length+1)) x.m (.ms 1 0 0 x.st.length) x.en 2,stB x.st,some (rdB F.b F.ts x.tk),chB c l]
@[reducible] def sC (F:Fix) (x:X) (c:Nat×Nat) (l:List (Nat×Nat)):aa:=[aaU F (.ms 1 l.length 0 (l.length+1)) x.m (.ms 2 0 0 x.st.length) x.en 3,chB c l,stB x.st,some (rdB F.b F.ts x.tk)]
theorem gS {cs:List Ce} (hc : ∀ c∈cs,c.Ok) {o:Nat} (ho:o < cs.length) : ∃ c,(cs.map Ce.d)[o]?=some (Ce.d c) /\ ∀ n,Ret VP (.fn 66) [.d c.d,.d (.int .i64 n)] [] (.d (.int .i64 (clA cs o n))) []:=by
 refine ⟨cs[o],?_,fun n => ?_⟩
 · rw [List.getElem?_map,List.getElem?_eq_getElem ho];rfl
 · have h:=bI cs[o] (hc _ (List.getElem_mem ho)) n
   unfold clA
   rw [List.getD_eq_getElem?_getD,List.getElem?_eq_getElem ho]
   exact h
end Go.Proofs.YtemffeblbmimfaaGreat
namespace Go.Proofs.YtemffeblbmimfaaGreat
open Go.IntWalk
attribute [local irreducible] au
set_option maxHeartbeats 4000000
set_option maxRecDepth 100000
def sb (L:List Int) (a s:Nat):Option Blk:=some (.rows 0 false 3 [[.d (.slice (L.map iD)),.d (.int .i64 a),.d (.int .i64 s)]])
theorem vW (L:List Int) (hl:L.length<=1000) (a s:Nat) (ha:a<=L.length) : ∃ (x:Int) (b:Nat),b<=L.length/\Ret VP (.fn 25) [.ptr 0 0 0 0] [sb L a s] (.d (.int .i64 x)) [sb L b s]:=by
 by_cases hc:a=L.length
 · refine ⟨0,a,ha,?_⟩
   have t:((a:Int)>=(((L.map iD).length:Nat):Int)):=by rw [List.length_map];omega
   unfold sb
   refine ret_of rfl rfl (r0 ?_)
   (have hz1218:=decide_eq_true t;refine Z2 ?_)
   rfl
 · refine ⟨L[a]'(by omega),a+1,by omega,?_⟩
   have t:¬ ((a:Int)>=(((L.map iD).length:Nat):Int)):=by rw [List.length_map];omega
   have hw:=ac a (by omega)
   have hw2:IntKind.i64.wrap (((a+1:Nat):Int) - 1)=(a:Int):=by rw [i64_in]<;>omega
   have hg:(L.map iD)[a]?=some (iD (L[a]'(by omega))):=by rw [List.getElem?_map,List.getElem?_eq_getElem (by omega)];rfl
   unfold sb
   refine ret_of rfl rfl (r0 ?_)
   (have hz1219:=decide_eq_false t;refine Z1 ?_)
   rw [hw]
   (have hz1220:=decide_eq_false t;refine Z1 ?_)
   rw [hw2]
   refine Z1 ?_
   rfl
theorem bO (L:List Int) (hl:L.length<=1000) (n:Nat) (hn:1<=n) (hn2:n<=1000) (a s:Nat) (ha:a<=L.length) : ∃ (x b:Nat),x < n/\b<=L.length/\Ret VP (.fn 12) [.ptr 0 0 0 0,.d (.int .i64 n)] [sb L a s] (.d (.int .i64 x)) [sb L b s]:=by
 obtain ⟨x,b,hb,hr⟩:=vW L hl a s ha
 have t:¬ (n:Int) < 1:=by omega
 have n0:(n:Int)≠0:=by omega
 have l1:Int.tmod x n < n:=Int.tmod_lt_of_pos _ (by omega)
 have l2 : -(n:Int) < Int.tmod x n:=by
  have h3:Int.tmod (-x) n < n:=Int.tmod_lt_of_pos _ (by omega)
  rw [Int.neg_tmod] at h3
  omega
 unfold sb at hr ⊢
 by_cases h:Int.tmod x n < 0
 · refine ⟨(Int.tmod x n+n).toNat,b,by omega,hb,?_⟩
   have hw:IntKind.i64.wrap (Int.tmod x n+n)=((Int.tmod x n+n).toNat:Int):=by rw [i64_in]<;>omega
   refine ret_of rfl rfl (r0 ?_)
   (have hz1221:=decide_eq_false t;have hz1222:=decide_eq_true h;refine Z2 ?_)
   exact fe rfl (dI hw) rfl
 · refine ⟨(Int.tmod x n).toNat,b,by omega,hb,?_⟩
   have hw:Int.tmod x n=((Int.tmod x n).toNat:Int):=by omega
   refine ret_of rfl rfl (r0 ?_)
   (have hz1223:=decide_eq_false t;have hz1224:=decide_eq_false h;refine Z2 ?_)
   exact fe rfl (dI hw) rfl
theorem aT (L:List Int) (hl:L.length<=1000) (lo hi:Int) (n:Nat) (hn:hi - lo+1=n) (hn1:1<=n) (hn2:n<=1000) (h1 : -1000<=lo) (h2:hi<=1000) (a s:Nat) (ha:a<=L.length) : ∃ (x b:Nat),x < n/\b<=L.length/\Ret VP (.fn 8) [.ptr 0 0 0 0,.d (.int .i64 lo),.d (.int .i64 hi)] [sb L a s] (.d (.int .i64 (lo+x))) [sb L b s]:=by
 obtain ⟨x,b,hx,hb,hr⟩:=bO L hl n hn1 hn2 a s ha
 refine ⟨x,b,hx,hb,?_⟩
 have hw:IntKind.i64.wrap (IntKind.i64.wrap (hi - lo)+1)=(n:Int):=by
  have e1:IntKind.i64.wrap (hi - lo)=hi - lo:=by rw [i64_in]<;>omega
  rw [e1,i64_in]<;>omega
 rw [<- hw] at hr
 unfold sb at hr ⊢
 refine ret_of rfl rfl (r0 ?_)
 refine Z2 ?_
 refine fe rfl (dI ?_) rfl
 rw [i64_in]<;>omega
theorem iF (L:List Int) (hl:L.length<=1000) (l:List Int) (h0:1<=l.length) (h1:l.length<=1000) (a s:Nat) (ha:a<=L.length) : ∃ (x:Int) (b:Nat),x∈l/\b<=L.length/\Ret VP (.fn 26) [.ptr 0 0 0 0,.d (.slice (l.map iD))] [sb L a s] (.d (.int .i64 x)) [sb L b s]:=by
 obtain ⟨x,b,hx,hb,hr⟩:=bO L hl l.length h0 h1 a s ha
 refine ⟨l[x],b,List.getElem_mem hx,hb,?_⟩
 rw [<- List.length_map (f:=iD)] at hr
 have hg:(l.map iD)[x]?=some (iD l[x]):=by rw [List.getElem?_map,List.getElem?_eq_getElem hx];rfl
 unfold sb at hr ⊢
 refine ret_of rfl rfl (r0 ?_)
 refine Z2 ?_
 rfl
def aO (n:Nat):List Int:=(List.range n).map fun (i:Nat)=>(i:Int)
theorem j9 (n:Nat) (h1:1<=n) (h4:n<=4):Ret VP (.fn 14) [.d (.int .i64 n)] [] (.d (.slice ((aO n).map iD))) []:=by
 rcases (by omega:n=1\/n=2\/n=3\/n=4) with rfl | rfl | rfl | rfl
 all_goals (refine ret_of rfl rfl (r0 ?_);refine Z2 ?_;rfl)
theorem nn {n:Nat} {x:Int} (h:x∈aO n) : ∃ v:Nat,v < n/\x=v:=by
 obtain ⟨v,hv,rfl⟩:=List.mem_map.1 h
 exact ⟨v,List.mem_range.1 hv,rfl⟩
def si (L:List Int) (n d z:Nat):Prop := ∀ a s:Nat,a<=L.length -> ∃ (f:Fo) (b:Nat),FOk n f/\f.dp<=d/\f.sz<=z/\b<=L.length/\Ret VP (.fn 13) [.ptr 0 0 0 0,.d (.slice ((aO n).map iD)),.d (.int .i64 d)] [sb L a s] (.d f.d) [sb L b s]
theorem eF (n:Nat):(aO n).length=n:=by simp [aO]
theorem abA (L:List Int) (hl:L.length<=1000) (n:Nat) (h1:1<=n) (h4:n<=4):si L n 1 1:=by
 intro a s ha
 obtain ⟨k0,b0,hk0,hb0,r0'⟩:=bO L hl 14 (by omega) (by omega) a s ha
 obtain ⟨k,b1,hk,hb1,r1⟩:=bO L hl 4 (by omega) (by omega) b0 s hb0
 by_cases h0:k=0
 · subst h0
   obtain ⟨x,b2,hx,hb2,r2⟩:=aT L hl (-1) 3 5 (by omega) (by omega) (by omega) (by omega) (by omega) b1 s hb1
   refine ⟨.int (-1+x),b2,⟨by omega,by omega⟩,by simp [Fo.dp],by simp [Fo.sz],hb2,?_⟩
   unfold sb at r0' r1 r2 ⊢
   refine ret_of rfl rfl (r0 ?_)
   refine Z2 ?_
   rfl
 · obtain ⟨x,b2,hx,hb2,r2⟩:=iF L hl (aO n) (by rw [eF];omega) (by rw [eF];omega) b1 s hb1
   obtain ⟨v,hv,rfl⟩:=nn hx
   refine ⟨.var v,b2,hv,by simp [Fo.dp],by simp [Fo.sz],hb2,?_⟩
   have t1:((k:Int)==0)=false:=by simp;omega
   have t2:(k:Int) < 4:=by omega
   have t3:(((((aO n).map iD).length:Nat):Int)==0)=false:=by rw [List.length_map,eF];simp;omega
   unfold sb at r0' r1 r2 ⊢
   refine ret_of rfl rfl (r0 ?_)
   (have hz1225:=decide_eq_true t2;refine Z2 ?_)
   rfl
theorem IW (L:List Int) (hl:L.length<=1000) (n:Nat) (h1:1<=n) (h4:n<=4) (d z:Nat) (hd:1<=d) (hd2:d<=10) (ih:si L n d z):si L n (d+1) (3*z+1):=by
 intro a s ha
 obtain ⟨k,b1,hk,hb1,r1⟩:=bO L hl 14 (by omega) (by omega) a s ha
 have td:¬ ((d+1:Nat):Int)<=1:=by omega
 have hwd:IntKind.i64.wrap (((d+1:Nat):Int) - 1)=(d:Int):=by rw [i64_in]<;>omega
 by_cases h0:k=0
 · subst h0
   obtain ⟨x,b2,hx,hb2,r2⟩:=aT L hl (-1) 3 5 (by omega) (by omega) (by omega) (by omega) (by omega) b1 s hb1
   refine ⟨.int (-1+x),b2,⟨by omega,by omega⟩,by simp [Fo.dp],by simp [Fo.sz],hb2,?_⟩
   unfold sb at r1 r2 ⊢
   refine ret_of rfl rfl (r0 ?_)
   (have hz1226:=decide_eq_false td;refine Z2 ?_)
   rfl
 by_cases h3:k < 4
 · obtain ⟨x,b2,hx,hb2,r2⟩:=iF L hl (aO n) (by rw [eF];omega) (by rw [eF];omega) b1 s hb1
   obtain ⟨v,hv,rfl⟩:=nn hx
   refine ⟨.var v,b2,hv,by simp [Fo.dp],by simp [Fo.sz],hb2,?_⟩
   have t1:((k:Int)==0)=false:=by simp;omega
   have t2:(k:Int) < 4:=by omega
   have t3:(((((aO n).map iD).length:Nat):Int)==0)=false:=by rw [List.length_map,eF];simp;omega
   unfold sb at r1 r2 ⊢
   refine ret_of rfl rfl (r0 ?_)
   (have hz1227:=decide_eq_true t2;have hz1228:=decide_eq_false td;refine Z2 ?_)
   rfl
 obtain ⟨f1,b2,o1,d1,z1,hb2,r2⟩:=ih b1 s hb1
 obtain ⟨f2,b3,o2,d2,z2,hb3,r3⟩:=ih b2 s hb2
 obtain ⟨f3,b4,o3,d3,z3,hb4,r4⟩:=ih b3 s hb3
 rw [<- hwd] at r2 r3 r4
 unfold sb at r1 r2 r3 r4 ⊢
 rcases (by omega:k=4\/k=5\/k=6\/k=7\/k=8\/k=9\/k=10\/k=11\/k=12\/k=13) with rfl | rfl | rfl | rfl | rfl | rfl | rfl | rfl | rfl | rfl
 · refine ⟨.no f1,b2,o1,by simp [Fo.dp];omega,by simp [Fo.sz];omega,hb2,?_⟩
   refine ret_of rfl rfl (r0 ?_)
   (have hz1229:=decide_eq_false td;refine Z2 ?_)
   rfl
 · refine ⟨.cond f1 f2 f3,b4,⟨o1,o2,o3⟩,by simp [Fo.dp];omega,by simp [Fo.sz];omega,hb4,?_⟩
   refine ret_of rfl rfl (r0 ?_)
   (have hz1230:=decide_eq_false td;refine Z2 ?_)
   rfl
 · refine ⟨.bin 5 f1 f2,b3,⟨by omega,o1,o2⟩,by simp [Fo.dp];omega,by simp [Fo.sz];omega,hb3,?_⟩
   refine ret_of rfl rfl (r0 ?_)
   (have hz1231:=decide_eq_false td;refine Z2 ?_)
   rfl
 · refine ⟨.bin 6 f1 f2,b3,⟨by omega,o1,o2⟩,by simp [Fo.dp];omega,by simp [Fo.sz];omega,hb3,?_⟩
   refine ret_of rfl rfl (r0 ?_)
   (have hz1232:=decide_eq_false td;refine Z2 ?_)
   rfl
 · refine ⟨.bin 7 f1 f2,b3,⟨by omega,o1,o2⟩,by simp [Fo.dp];omega,by simp [Fo.sz];omega,hb3,?_⟩
   refine ret_of rfl rfl (r0 ?_)
   (have hz1233:=decide_eq_false td;refine Z2 ?_)
   rfl
 · refine ⟨.bin 8 f1 f2,b3,⟨by omega,o1,o2⟩,by simp [Fo.dp];omega,by simp [Fo.sz];omega,hb3,?_⟩
   refine ret_of rfl rfl (r0 ?_)
   (have hz1234:=decide_eq_false td;refine Z2 ?_)
   rfl
 · refine ⟨.bin 9 f1 f2,b3,⟨by omega,o1,o2⟩,by simp [Fo.dp];omega,by simp [Fo.sz];omega,hb3,?_⟩
   refine ret_of rfl rfl (r0 ?_)
   (have hz1235:=decide_eq_false td;refine Z2 ?_)
   rfl
 · refine ⟨.bin 10 f1 f2,b3,⟨by omega,o1,o2⟩,by simp [Fo.dp];omega,by simp [Fo.sz];omega,hb3,?_⟩
   refine ret_of rfl rfl (r0 ?_)
   (have hz1236:=decide_eq_false td;refine Z2 ?_)
   rfl
 · refine ⟨.bin 11 f1 f2,b3,⟨by omega,o1,o2⟩,by simp [Fo.dp];omega,by simp [Fo.sz];omega,hb3,?_⟩
   refine ret_of rfl rfl (r0 ?_)
   (have hz1237:=decide_eq_false td;refine Z2 ?_)
   rfl
 · refine ⟨.bin 12 f1 f2,b3,⟨by omega,o1,o2⟩,by simp [Fo.dp];omega,by simp [Fo.sz];omega,hb3,?_⟩
   refine ret_of rfl rfl (r0 ?_)
   (have hz1238:=decide_eq_false td;refine Z2 ?_)
   rfl
theorem wT (L:List Int) (hl:L.length<=1000) (n:Nat) (h1:1<=n) (h4:n<=4):si L n 2 4:=IW L hl n h1 h4 1 1 (by omega) (by omega) (abA L hl n h1 h4)
theorem wS (L:List Int) (hl:L.length<=1000) (n:Nat) (h1:1<=n) (h4:n<=4):si L n 3 13:=IW L hl n h1 h4 2 4 (by omega) (by omega) (wT L hl n h1 h4)
def chs:List D:=[uZ,(lit 1 1),(lit 1 2),(lit 1 3),(lit 2 3),(lit 1 4),(lit 3 4),(lit 1 5),(lit 2 5),(lit 3 5),(lit 4 5)]
theorem pL (L:List Int) (hl:L.length<=1000) (a s:Nat) (ha:a<=L.length) : ∃ (r:D) (b:Nat),r∈chs/\b<=L.length/\Ret VP (.fn 76) [.ptr 0 0 0 0] [sb L a s] (.d r) [sb L b s]:=by
 obtain ⟨x,b1,hx,hb1,r1⟩:=aT L hl 1 5 5 (by omega) (by omega) (by omega) (by omega) (by omega) a s ha
 rcases (by omega:x=0\/x=1\/x=2\/x=3\/x=4) with rfl | rfl | rfl | rfl | rfl
 · obtain ⟨n,b2,hn,hb2,r2⟩:=bO L hl 2 (by omega) (by omega) b1 s hb1
   unfold sb at r1 r2 ⊢
   rcases (by omega:n=0\/n=1) with rfl | rfl
   · refine ⟨uZ,b2,by simp [chs],hb2,?_⟩
     refine ret_of rfl rfl (r0 ?_)
     (have hz1239:=aNC;refine Z2 ?_)
     rfl
   · refine ⟨(lit 1 1),b2,by simp [chs],hb2,?_⟩
     refine ret_of rfl rfl (r0 ?_)
     (have hz1240:=aN8;refine Z2 ?_)
     rfl
 · obtain ⟨n,b2,hn,hb2,r2⟩:=bO L hl 3 (by omega) (by omega) b1 s hb1
   unfold sb at r1 r2 ⊢
   rcases (by omega:n=0\/n=1\/n=2) with rfl | rfl | rfl
   · refine ⟨uZ,b2,by simp [chs],hb2,?_⟩
     refine ret_of rfl rfl (r0 ?_)
     (have hz1241:=aN4;refine Z2 ?_)
     rfl
   · refine ⟨(lit 1 2),b2,by simp [chs],hb2,?_⟩
     refine ret_of rfl rfl (r0 ?_)
     (have hz1242:=aQ0;refine Z2 ?_)
     rfl
   · refine ⟨(lit 1 1),b2,by simp [chs],hb2,?_⟩
     refine ret_of rfl rfl (r0 ?_)
     (have hz1243:=aLR;refine Z2 ?_)
     rfl
 · obtain ⟨n,b2,hn,hb2,r2⟩:=bO L hl 4 (by omega) (by omega) b1 s hb1
   unfold sb at r1 r2 ⊢
   rcases (by omega:n=0\/n=1\/n=2\/n=3) with rfl | rfl | rfl | rfl
   · refine ⟨uZ,b2,by simp [chs],hb2,?_⟩
     refine ret_of rfl rfl (r0 ?_)
     (have hz1244:=aLP;refine Z2 ?_)
     rfl
   · refine ⟨(lit 1 3),b2,by simp [chs],hb2,?_⟩
     refine ret_of rfl rfl (r0 ?_)
     (have hz1245:=aJG;refine Z2 ?_)
     rfl
   · refine ⟨(lit 2 3),b2,by simp [chs],hb2,?_⟩
     refine ret_of rfl rfl (r0 ?_)
     (have hz1246:=aLO;refine Z2 ?_)
     rfl
   · refine ⟨(lit 1 1),b2,by simp [chs],hb2,?_⟩
     refine ret_of rfl rfl (r0 ?_)
     (have hz1247:=aLK;refine Z2 ?_)
     rfl
 · obtain ⟨n,b2,hn,hb2,r2⟩:=bO L hl 5 (by omega) (by omega) b1 s hb1
   unfold sb at r1 r2 ⊢
   rcases (by omega:n=0\/n=1\/n=2\/n=3\/n=4) with rfl | rfl | rfl | rfl | rfl
   · refine ⟨uZ,b2,by simp [chs],hb2,?_⟩
     refine ret_of rfl rfl (r0 ?_)
     (have hz1248:=aLB;refine Z2 ?_)
     rfl
   · refine ⟨(lit 1 4),b2,by simp [chs],hb2,?_⟩
     refine ret_of rfl rfl (r0 ?_)
     (have hz1249:=azK;refine Z2 ?_)
     rfl
   · refine ⟨(lit 1 2),b2,by simp [chs],hb2,?_⟩
     refine ret_of rfl rfl (r0 ?_)
     (have hz1250:=aL9;refine Z2 ?_)
     rfl
   · refine ⟨(lit 3 4),b2,by simp [chs],hb2,?_⟩
     refine ret_of rfl rfl (r0 ?_)
     (have hz1251:=aL8;refine Z2 ?_)
     rfl
   · refine ⟨(lit 1 1),b2,by simp [chs],hb2,?_⟩
     refine ret_of rfl rfl (r0 ?_)
     (have hz1252:=aL4;refine Z2 ?_)
     rfl
 · obtain ⟨n,b2,hn,hb2,r2⟩:=bO L hl 6 (by omega) (by omega) b1 s hb1
   unfold sb at r1 r2 ⊢
   rcases (by omega:n=0\/n=1\/n=2\/n=3\/n=4\/n=5) with rfl | rfl | rfl | rfl | rfl | rfl
   · refine ⟨uZ,b2,by simp [chs],hb2,?_⟩
     refine ret_of rfl rfl (r0 ?_)
     (have hz1253:=aKU;refine Z2 ?_)
     rfl
   · refine ⟨(lit 1 5),b2,by simp [chs],hb2,?_⟩
     refine ret_of rfl rfl (r0 ?_)
     (have hz1254:=aKT;refine Z2 ?_)
     rfl
   · refine ⟨(lit 2 5),b2,by simp [chs],hb2,?_⟩
     refine ret_of rfl rfl (r0 ?_)
     (have hz1255:=aKO;refine Z2 ?_)
     rfl
   · refine ⟨(lit 3 5),b2,by simp [chs],hb2,?_⟩
     refine ret_of rfl rfl (r0 ?_)
     (have hz1256:=aKJ;refine Z2 ?_)
     rfl
   · refine ⟨(lit 4 5),b2,by simp [chs],hb2,?_⟩
     refine ret_of rfl rfl (r0 ?_)
     (have hz1257:=aKF;refine Z2 ?_)
     rfl
   · refine ⟨(lit 1 1),b2,by simp [chs],hb2,?_⟩
     refine ret_of rfl rfl (r0 ?_)
     (have hz1258:=aJF;refine Z2 ?_)
     rfl
theorem kT (L:List Int) (hl:L.length<=1000) (a s:Nat) (ha:a<=L.length) : ∃ (w:List D) (b:Nat),w∈W0/\b<=L.length/\Ret VP (.fn 46) [.ptr 0 0 0 0,.d (.int .i64 0)] [sb L a s] (.d (.slice w)) [sb L b s]:=by
 obtain ⟨k,b0,hk,hb0,r0'⟩:=bO L hl 4 (by omega) (by omega) a s ha
 by_cases h0:k=0
 · subst h0
   obtain ⟨x,b1,hx,hb1,r1⟩:=aT L hl 2 4 3 (by omega) (by omega) (by omega) (by omega) (by omega) b0 s hb0
   obtain ⟨y,b2,hy,hb2,r2⟩:=aT L hl 1 2 2 (by omega) (by omega) (by omega) (by omega) (by omega) b1 s hb1
   unfold sb at r0' r1 r2 ⊢
   rcases (by omega:x=0\/x=1\/x=2) with rfl | rfl | rfl<;>rcases (by omega:y=0\/y=1) with rfl | rfl
   · refine ⟨w0,b2,by simp [W0],hb2,?_⟩
     refine ret_of rfl rfl (r0 ?_)
     (have hz1259:=asW;have hz1260:=aQ0;have hz1261:=ua0;have hz1262:=aV0;have hz1263:=aP8;have hz1264:=aNZ;have hz1265:=aUX;refine Z2 ?_)
     rfl
   · refine ⟨w1,b2,by simp [W0],hb2,?_⟩
     refine ret_of rfl rfl (r0 ?_)
     (have hz1266:=asW;have hz1267:=aQ0;have hz1268:=ax7;have hz1269:=aUW;have hz1270:=aP8;have hz1271:=aHM;have hz1272:=aNZ;have hz1273:=aUU;refine Z2 ?_)
     rfl
   · refine ⟨w2,b2,by simp [W0],hb2,?_⟩
     refine ret_of rfl rfl (r0 ?_)
     (have hz1274:=asW;have hz1275:=aJG;have hz1276:=ua0;have hz1277:=aUT;have hz1278:=aJE;have hz1279:=azN;have hz1280:=aQI;refine Z2 ?_)
     rfl
   · refine ⟨w3,b2,by simp [W0],hb2,?_⟩
     refine ret_of rfl rfl (r0 ?_)
     (have hz1281:=asW;have hz1282:=aJG;have hz1283:=ax7;have hz1284:=aQH;have hz1285:=aJE;have hz1286:=aQG;have hz1287:=azN;have hz1288:=aQD;refine Z2 ?_)
     rfl
   · refine ⟨w4,b2,by simp [W0],hb2,?_⟩
     refine ret_of rfl rfl (r0 ?_)
     (have hz1289:=asW;have hz1290:=azK;have hz1291:=ua0;have hz1292:=aQC;have hz1293:=aHM;have hz1294:=azI;have hz1295:=aQ7;refine Z2 ?_)
     rfl
   · refine ⟨w5,b2,by simp [W0],hb2,?_⟩
     refine ret_of rfl rfl (r0 ?_)
     (have hz1296:=asW;have hz1297:=azK;have hz1298:=ax7;have hz1299:=aNJ;have hz1300:=aHM;have hz1301:=aNH;have hz1302:=azI;have hz1303:=aND;refine Z2 ?_)
     rfl
 · obtain ⟨c,b1,hc,hb1,r1⟩:=pL L hl b0 s hb0
   have t:((k:Int)==0)=false:=by simp;omega
   unfold sb at r0' r1 ⊢
   simp only [chs,List.mem_cons,List.not_mem_nil,or_false] at hc
   rcases hc with rfl | rfl | rfl | rfl | rfl | rfl | rfl | rfl | rfl | rfl | rfl
   · refine ⟨w6,b1,by simp [W0],hb1,?_⟩
     refine ret_of rfl rfl (r0 ?_)
     (have hz1304:=asW;have hz1305:=aNB;have hz1306:=aN9;refine Z2 ?_)
     rfl
   · refine ⟨w7,b1,by simp [W0],hb1,?_⟩
     refine ret_of rfl rfl (r0 ?_)
     (have hz1307:=asW;have hz1308:=ua9;have hz1309:=aN6;refine Z2 ?_)
     rfl
   · refine ⟨w8,b1,by simp [W0],hb1,?_⟩
     refine ret_of rfl rfl (r0 ?_)
     (have hz1310:=asW;have hz1311:=aP8;have hz1312:=aNZ;refine Z2 ?_)
     rfl
   · refine ⟨w9,b1,by simp [W0],hb1,?_⟩
     refine ret_of rfl rfl (r0 ?_)
     (have hz1313:=asW;have hz1314:=aJE;have hz1315:=azN;refine Z2 ?_)
     rfl
   · refine ⟨w10,b1,by simp [W0],hb1,?_⟩
     refine ret_of rfl rfl (r0 ?_)
     (have hz1316:=asW;have hz1317:=aLN;have hz1318:=aLL;refine Z2 ?_)
     rfl
   · refine ⟨w11,b1,by simp [W0],hb1,?_⟩
     refine ret_of rfl rfl (r0 ?_)
     (have hz1319:=asW;have hz1320:=aHM;have hz1321:=azI;refine Z2 ?_)
     rfl
   · refine ⟨w12,b1,by simp [W0],hb1,?_⟩
     refine ret_of rfl rfl (r0 ?_)
     (have hz1322:=asW;have hz1323:=aL7;have hz1324:=aL5;refine Z2 ?_)
     rfl
   · refine ⟨w13,b1,by simp [W0],hb1,?_⟩
     refine ret_of rfl rfl (r0 ?_)
     (have hz1325:=asW;have hz1326:=aKS;have hz1327:=aKP;refine Z2 ?_)
     rfl
   · refine ⟨w14,b1,by simp [W0],hb1,?_⟩
     refine ret_of rfl rfl (r0 ?_)
     (have hz1328:=asW;have hz1329:=aKM;have hz1330:=aKK;refine Z2 ?_)
     rfl
   · refine ⟨w15,b1,by simp [W0],hb1,?_⟩
     refine ret_of rfl rfl (r0 ?_)
     (have hz1331:=asW;have hz1332:=aKI;have hz1333:=aKG;refine Z2 ?_)
     rfl
   · refine ⟨w16,b1,by simp [W0],hb1,?_⟩
     refine ret_of rfl rfl (r0 ?_)
     (have hz1334:=asW;have hz1335:=aKE;have hz1336:=aKC;refine Z2 ?_)
     rfl
theorem qn (L:List Int) (hl:L.length<=1000) (a s:Nat) (ha:a<=L.length) : ∃ (lo:Int) (w:List D) (b:Nat),w∈W0 /\ -1<=lo/\lo<=1/\b<=L.length/\Ret VP (.fn 23) [.ptr 0 0 0 0,.d (.int .i64 0)] [sb L a s] (.d (dsD 1 lo w)) [sb L b s]:=by
 obtain ⟨lo,b1,hlo,hb1,r1⟩:=iF L hl [0,0,0,1,-1] (by simp) (by simp) a s ha
 obtain ⟨w,b2,hw,hb2,r2⟩:=kT L hl b1 s hb1
 refine ⟨lo,w,b2,hw,by simp at hlo;omega,by simp at hlo;omega,hb2,?_⟩
 unfold sb at r1 r2 ⊢
 refine ret_of rfl rfl (r0 ?_)
 refine Z2 ?_
 rfl
@[reducible] def mdB (cs:List Ce) (os:List Nat) (T:Ty):Option Blk:=some (.rows 0 false 11 [[.d (.int .i64 (0:Nat)),.d (.slice (cs.map Ce.d)),.d (.slice []),.d (.slice []),.d (.slice []),.d (.slice (os.map oD)),.d (.int .i64 T.a),.d (.int .i64 T.b),.d (.int .i64 T.c),.d (.int .i64 T.d),.d (.slice T.e)]])
@[reducible] def sbR (L:List Int) (a s:Nat):Option Blk:=some (.rows 0 false 3 [[.d (.slice (L.map iD)),.d (.int .i64 a),.d (.int .i64 s)]])
end Go.Proofs.YtemffeblbmimfaaGreat
