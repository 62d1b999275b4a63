/- The operations that touch no memory, second part. -/
import Derived.Test.YtncfpmehhfdipaaGreatA00
set_option linter.unusedSimpArgs false
set_option linter.unusedVariables false
set_option linter.unnecessarySimpa false
namespace Go.Proofs.YtncfpmehhfdipaaGreat
open Go.RowKit
variable {P:Program} {fo:Nat->Option FuncId} {K:aS} {ρ:ax} {vv:Nat->Option (Nat×Nat)} {w:World}
theorem RV.int_inv {k:IntKind} {n:Int} {v:Value} (h:RV fo K ρ vv (.d (.int k n)) v):v = .int k n:=by
 cases h with | d _ _ h=>cases h;rfl
theorem RV.bool_inv {b:Bool} {v:Value} (h:RV fo K ρ vv (.d (.bool b)) v):v = .bool b:=by
 cases h with | d _ _ h=>cases h;rfl
theorem RV.str_inv {b:ByteArray} {v:Value} (h:RV fo K ρ vv (.d (.str b)) v):v = .string b:=by
 cases h with | d _ _ h=>cases h;rfl
theorem RV.of_int (k:IntKind) (n:Int):RV fo K ρ vv (.d (.int k n)) (.int k n) := .d _ _ (.int k n)
theorem RV.of_bool (b:Bool):RV fo K ρ vv (.d (.bool b)) (.bool b) := .d _ _ (.bool b)
theorem ne {op:BinOp} {t:TypeId} {k:IntKind} {a b:Int} {r:D} (h:eU op k a b=some r) (w:World) :
 ∃ v,(Go.binOp op t (.int k a) (.int k b)).run P w = .ok v w/\RD fo K r v:=by
 unfold eU at h
 cases op<;>simp only at h<;>(try (cases h;done))<;>(try (injection h with h;subst h)) <;>
  (try (split at h<;>(try (cases h;done))<;>injection h with h<;>subst h))
 all_goals (refine ⟨_,?_,by constructor⟩;simp_all [Go.binOp,Op.intArith,Op.intDiv,Op.intBits,Op.intCmp])
theorem fE {op:BinOp} {t:TypeId} {k k':IntKind} {a b:Int} {r:D} (h:eH op k a b=some r) (w:World) :
 ∃ v,(Go.binOp op t (.int k a) (.int k' b)).run P w = .ok v w/\RD fo K r v:=by
 unfold eH at h
 split at h
 · cases h
 · rename_i hb
   cases op<;>simp only at h<;>(try (cases h;done))<;>injection h with h<;>subst h <;>
    exact ⟨_,by simp [Go.binOp,Op.shift,hb],.int _ _⟩
theorem nY {t:TypeId} {x y:V} {v u:Value} {b:Bool} (hx:RV fo K ρ vv x v) (hy:RV fo K ρ vv y u) (h:eqV (dG P t) x y=some b) (w:World) :
 (Op.equal t v u).run P w = .ok b w/\(∀ xs ys,v = .agg xs/\u = .agg ys->P.eqGuardType P.depth t=false)/\¬ (v = .nilIface/\u = .nilIface)/\refV v=true:=by
 unfold eqV at h
 split at h
 · rename_i n xs ys hc
   split at h
   · rename_i hn
     cases hx with | d _ _ hx=>cases hx with | agg _ vs hvs =>
     cases hy with | d _ _ hy=>cases hy with | agg _ ws hws =>
     have:=eQ hc hvs hws hn h w
     exact ⟨this.1,fun _ _ _=>this.2,by simp,rfl⟩
   · cases h
 · rename_i a c hc
   injection h with h;subst h
   have ha:=hx.bool_inv;have hb:=hy.bool_inv;subst ha;subst hb
   refine ⟨?_,by simp,by simp,rfl⟩
   have hu:P.underlying t=some .bool:=by
    unfold dG at hc
    split at hc<;>first | assumption | (simp at hc;done) | (split at hc<;>simp at hc)
   show (Op.equalIn (9999+1) t _ _).run P w=_
   rw [Op.equalIn]
   simp [Sem.run_bind,run_underlying hu]
 · obtain ⟨h1,h2,h3⟩:=pd hx hy h w
   exact ⟨h1,fun xs ys e=>absurd e (h2 xs ys),h3,vH hx h⟩
theorem eY {op:BinOp} {t:TypeId} {x y:Operand} {v u:Value} (h1 : ∀ xs ys,v = .agg xs/\u = .agg ys->P.eqGuardType P.depth t=false) (h2:¬ (v = .nilIface/\u = .nilIface)) (w:World) :
 (eqGuard op t x y v u).run P w = .ok () w:=by
 by_cases ha : ∃ xs ys,v = .agg xs/\u = .agg ys
 · obtain ⟨xs,ys,rfl,rfl⟩:=ha
   exact run_eqGuard_agg w op t x y xs ys (h1 xs ys ⟨rfl,rfl⟩)
 · cases v<;>cases u<;>first | (exact absurd ⟨_,_,rfl,rfl⟩ ha) | (exact absurd ⟨rfl,rfl⟩ h2) | (cases op<;>rfl)
theorem l8 {t:TypeId} {v u:Value} (h:refV v=true):Go.binOp .eql t v u=(do pure (.bool (<- Op.equal t v u)))/\Go.binOp .neq t v u=(do pure (.bool (!(<- Op.equal t v u)))):=by
 cases v<;>first | (simp [refV] at h;done) | (cases u<;>exact ⟨rfl,rfl⟩)
theorem uy {op:BinOp} {t:TypeId} {ox oy:Operand} {x y r:V} {v u:Value} (hx:RV fo K ρ vv x v) (hy:RV fo K ρ vv y u) (h:bin op (dG P t) x y=some r) (w:World) :
 ∃ z,(do eqGuard op t ox oy v u;Go.binOp op t v u:Sem Value).run P w = .ok z w/\RV fo K ρ vv r z:=by
 have fin : ∀ {q:D},r = .d q->(∃ z,(Go.binOp op t v u).run P w = .ok z w/\RD fo K q z)->(∀ xs ys,¬ (v = .agg xs/\u = .agg ys))->¬ (v = .nilIface/\u = .nilIface) ->
  ∃ z,(do eqGuard op t ox oy v u;Go.binOp op t v u:Sem Value).run P w = .ok z w/\RV fo K ρ vv r z:=by
  rintro q rfl ⟨z,h1,h2⟩ h3 h4
  exact ⟨z,by simp [Sem.run_bind,eY (P:=P) (op:=op) (t:=t) (x:=ox) (y:=oy) (fun xs ys e=>absurd e (h3 xs ys)) h4 w,h1],.d _ _ h2⟩
 unfold bin at h
 split at h
 · rename_i k a k' b
   have:=hx.int_inv;have:=hy.int_inv;subst_vars
   cases hq:eH .shl k a b with
   | none=>simp [hq] at h
   | some q=>simp [hq] at h;exact fin h.symm (fE hq w) (by simp) (by simp)
 · rename_i k a k' b
   have:=hx.int_inv;have:=hy.int_inv;subst_vars
   cases hq:eH .shr k a b with
   | none=>simp [hq] at h
   | some q=>simp [hq] at h;exact fin h.symm (fE hq w) (by simp) (by simp)
 · rename_i k a k' b _ _
   have:=hx.int_inv;have:=hy.int_inv;subst_vars
   split at h
   · rename_i hk;subst hk
     cases hq:eU op k a b with
     | none=>simp [hq] at h
     | some q=>simp [hq] at h;exact fin h.symm (ne hq w) (by simp) (by simp)
   · cases h
 · rename_i hni
   cases hq:eqV (dG P t) x y with
   | none=>simp [hq] at h
   | some b =>
     simp [hq] at h;subst h
     obtain ⟨h1,h2,h3,h4⟩:=nY hx hy hq w
     exact ⟨_,by simp [Sem.run_bind,eY (P:=P) (op := .eql) (t:=t) (x:=ox) (y:=oy) h2 h3 w,(l8 h4).1,h1],.of_bool b⟩
 · rename_i hni
   cases hq:eqV (dG P t) x y with
   | none=>simp [hq] at h
   | some b =>
     simp [hq] at h;subst h
     obtain ⟨h1,h2,h3,h4⟩:=nY hx hy hq w
     exact ⟨_,by simp [Sem.run_bind,eY (P:=P) (op := .neq) (t:=t) (x:=ox) (y:=oy) h2 h3 w,(l8 h4).2,h1],.of_bool (!b)⟩
 · cases h
end Go.Proofs.YtncfpmehhfdipaaGreat
namespace Go.Proofs.YtncfpmehhfdipaaGreat
open Go.RowKit
variable {P:Program} {fo:Nat->Option FuncId} {K:aS} {ρ:ax} {vv:Nat->Option (Nat×Nat)} {w:World}
theorem vq {op:UnOp} {x r:V} {v:Value} (hx:RV fo K ρ vv x v) (h:un op x=some r) (w:World) : ∃ z,(Op.unary op v).run P w = .ok z w/\RV fo K ρ vv r z:=by
 unfold un at h
 split at h
 · have:=hx.int_inv;subst this
   simp [eU] at h;subst h
   exact ⟨_,by simp [Op.unary,Op.intArith],.of_int _ _⟩
 · have:=hx.int_inv;subst this
   simp [eU] at h;subst h
   exact ⟨_,by simp [Op.unary,Op.intBits],.of_int _ _⟩
 · have:=hx.bool_inv;subst this
   injection h with h;subst h
   exact ⟨_,by simp [Op.unary],.of_bool _⟩
 · cases h
theorem rL {s d:TypeId} {k k0:IntKind} {k':IntKind} {n:Int} {v:Value} (hs:P.underlying s=some (.int k0)) (hd:P.underlying d=some (.int k)) (hx:RV fo K ρ vv (.d (.int k' n)) v) (w:World) :
 (Go.convert s d v).run P w = .ok (.int k (k.wrap n)) w:=by
 have:=hx.int_inv;subst this
 simp [Go.convert,Sem.run_bind,run_underlying hs,run_underlying hd,Conv.intToInt]
theorem RV.ptr_inv {id ver i j:Nat} {v:Value} (h:RV fo K ρ vv (.ptr id ver i j) v) :
 ∃ a v0 e,v = .pointer (some a)/\vv id=some (v0,e)/\(v0<=ver->ver=v0/\a=⟨(ρ id).1,i*e+j,none⟩):=by
 cases h with | ptr _ _ _ _ v0 e a h1 h2=>exact ⟨a,v0,e,rfl,h1,h2⟩
theorem RV.ms_inv {id ver off len:Nat} {v:Value} (h:RV fo K ρ vv (.ms id ver off len) v) :
 ∃ a n cap v0 e,v = .slice (some a) n cap/\vv id=some (v0,e)/\(v0<=ver->ver=v0/\a=⟨(ρ id).1,off*e,none⟩/\n=len/\len<=cap/\(off+cap)*e<=(ρ id).2):=by
 cases h with | ms _ _ _ _ v0 e a n cap h1 h2=>exact ⟨a,n,cap,v0,e,rfl,h1,h2⟩
theorem RV.asl_inv {id ver i j len:Nat} {v:Value} (h:RV fo K ρ vv (.asl id ver i j len) v) :
 ∃ a n cap v0 e,v = .slice (some a) n cap/\vv id=some (v0,e)/\(v0<=ver->ver=v0/\a=⟨(ρ id).1,i*e+j,none⟩/\n=len/\len<=cap):=by
 cases h with | asl _ _ _ _ _ v0 e a n cap h1 h2=>exact ⟨a,n,cap,v0,e,rfl,h1,h2⟩
theorem RV.iptr_inv {cs:List D} {off:Nat} {v:Value} (h:RV fo K ρ vv (.d (.iptr cs off)) v) :
 ∃ B o vs,v = .pointer (some ⟨B,o+off,none⟩)/\RDs fo K cs vs/\(∀ (j:Nat) v,vs[j]?=some v->K B (o+j)=some v):=by
 cases h with | d _ _ h=>cases h with | iptr _ _ B o vs h1 h2=>exact ⟨B,o,vs,rfl,h1,h2⟩
theorem RV.dagg_inv {cs:List D} {v:Value} (h:RV fo K ρ vv (.d (.agg cs)) v) : ∃ vs:Array Value,v = .agg vs/\RDs fo K cs vs.toList:=by
 cases h with | d _ _ h=>cases h with | agg _ vs h1=>exact ⟨vs,rfl,h1⟩
theorem RV.dtuple_inv {cs:List D} {v:Value} (h:RV fo K ρ vv (.d (.tuple cs)) v) : ∃ vs:Array Value,v = .tuple vs/\RDs fo K cs vs.toList:=by
 cases h with | d _ _ h=>cases h with | tuple _ vs h1=>exact ⟨vs,rfl,h1⟩
theorem RV.tuple_inv {cs:List V} {v:Value} (h:RV fo K ρ vv (.tuple cs) v) : ∃ vs:Array Value,v = .tuple vs/\RVs fo K ρ vv cs vs.toList:=by
 cases h with | tuple _ vs h1=>exact ⟨vs,rfl,h1⟩
theorem eL {i:V} {v:Value} {k:Nat} (hi:RV fo K ρ vv i v) (h:idx i=some k) : ∃ q,v = .int q (k:Int):=by
 unfold idx at h
 split at h
 · rename_i q n
   split at h
   · rename_i hn
     injection h with h
     have:=hi.int_inv;subst this
     exact ⟨q,by rw [<- h,Int.toNat_of_nonneg hn]⟩
   · cases h
 · cases h
theorem bm (B o k:Nat):(⟨B,o,none⟩:Addr).add k=⟨B,o+k,none⟩:=by unfold Addr.add;split<;>simp_all
theorem RV.faddr {off:Nat} {x r:V} {v:Value} (hx:RV fo K ρ vv x v) (h:nX off x=some r) : ∃ a,v = .pointer (some a)/\RV fo K ρ vv r (.pointer (some (a.add off))):=by
 unfold nX at h
 split at h
 · injection h with h;subst h
   obtain ⟨B,p,vs,rfl,h1,h2⟩:=hx.iptr_inv
   exact ⟨_,rfl,by rw [bm,Nat.add_assoc];exact .d _ _ (.iptr _ _ B p vs h1 h2)⟩
 · injection h with h;subst h
   obtain ⟨a,v,e,rfl,h1,h2⟩:=hx.ptr_inv
   refine ⟨a,rfl,.ptr _ _ _ _ v e _ h1 fun hle => ?_⟩
   obtain ⟨r1,r2⟩:=h2 hle
   exact ⟨r1,by rw [r2,bm,Nat.add_assoc]⟩
 · cases h
theorem pr {t:TypeId} {fields:Array Field} {f:Field} {i n:Nat} {x r:V} {v:Value} (hu:P.underlying t=some (.struct fields)) (hf:fields[i]?=some f) (hn:sizeT P f.type=some n) (h0:0 < n)
 (hx:RV fo K ρ vv x v) (h:nX f.offset x=some r) (w:World) : ∃ z,(Instr.fieldAt t v i).run P w = .ok z w/\RV fo K ρ vv r z:=by
 obtain ⟨a,rfl,hr⟩:=hx.faddr h
 refine ⟨_,?_,hr⟩
 simp [Instr.fieldAt,Sem.run_bind,run_underlying hu,hf,Instr.sureAddr,fieldPlace,aP hn,show n≠0 by omega]
theorem mP {t e:TypeId} {n k:Nat} {x i r:V} {v u:Value} (hu:P.underlying t=some (.array n e)) (hk:sizeT P e=some k) (hx:RV fo K ρ vv x v) (hi:RV fo K ρ vv i u) (h:mQ n k x i=some r) (w:World) :
 ∃ z,(Instr.indexAt t v u).run P w = .ok z w/\RV fo K ρ vv r z:=by
 unfold mQ at h
 cases hq:idx i with
 | none=>simp [hq] at h
 | some m =>
   obtain ⟨q,rfl⟩:=eL hi hq
   simp only [hq] at h
   split at h<;>try (cases h;done)
   rename_i hm
   have hrun : ∀ a,v = .pointer (some a)->(Instr.indexAt t v (.int q (m:Int))).run P w = .ok (.pointer (some (a.add (m*k)))) w:=by
    rintro a rfl
    simp [Instr.indexAt,Sem.run_bind,asIntOf,run_underlying hu,Instr.sureAddr,aP hk,hm]
   split at h
   · injection h with h;subst h
     obtain ⟨B,p,vs,rfl,h1,h2⟩:=hx.iptr_inv
     exact ⟨_,hrun _ rfl,by rw [bm,Nat.add_assoc];exact .d _ _ (.iptr _ _ B p vs h1 h2)⟩
   · injection h with h;subst h
     obtain ⟨a,v,e,rfl,h1,h2⟩:=hx.ptr_inv
     refine ⟨_,hrun _ rfl,.ptr _ _ _ _ v e _ h1 fun hle => ?_⟩
     obtain ⟨r1,r2⟩:=h2 hle
     exact ⟨r1,by rw [r2,bm,Nat.add_assoc]⟩
   · cases h
theorem qW {x r:V} {v:Value} (hx:RV fo K ρ vv x v) (h:v9 x=some r):RV fo K ρ vv r v/\((∃ a,v = .pointer (some a))\/(∃ g a b,v = .func (.func g) a b)\/(∃ l,v = .func (.yield l) #[] #[])):=by
 unfold v9 at h
 split at h<;>(try (cases h;done))<;>injection h with h<;>subst h<;>refine ⟨hx,?_⟩
 · cases hx with | d _ _ hx=>cases hx;exact .inl ⟨_,rfl⟩
 · cases hx;exact .inl ⟨_,rfl⟩
 · cases hx with | d _ _ hx=>cases hx;exact .inr (.inl ⟨_,_,_,rfl⟩)
 · cases hx;exact .inr (.inl ⟨_,_,_,rfl⟩)
 · cases hx;exact .inr (.inr ⟨_,rfl⟩)
theorem tW {x:V} {i:Nat} {r:V} {v:Value} (hx:RV fo K ρ vv x v) (h:(match (generalizing:=false) x with | .d (.tuple vs)=>(vs[i]?).map V.d | .tuple vs=>vs[i]? | _=>none)=some r) (w:World) :
 ∃ z,(Instr.extract v i).run P w = .ok z w/\RV fo K ρ vv r z:=by
 have key:(∃ vs,x = .d (.tuple vs)/\(vs[i]?).map V.d=some r)\/(∃ vs,x = .tuple vs/\vs[i]?=some r):=by
  split at h
  · exact .inl ⟨_,rfl,h⟩
  · exact .inr ⟨_,rfl,h⟩
  · cases h
 rcases key with ⟨vs,rfl,h⟩ | ⟨vs,rfl,h⟩
 · obtain ⟨ws,rfl,hws⟩:=hx.dtuple_inv
   cases hq:vs[i]? with
   | none=>simp [hq] at h
   | some d =>
     simp [hq] at h;subst h
     obtain ⟨z,e1,e2⟩:=hws.get hq
     exact ⟨z,by simp [Instr.extract,<- Array.getElem?_toList,e1],.d _ _ e2⟩
 · obtain ⟨ws,rfl,hws⟩:=hx.tuple_inv
   obtain ⟨z,e1,e2⟩:=hws.get h
   exact ⟨z,by simp [Instr.extract,<- Array.getElem?_toList,e1],e2⟩
theorem RVs.splice {cs xs:List V} {vs ws:List Value} {j:Nat} (h:RVs fo K ρ vv cs vs) (h':RVs fo K ρ vv xs ws) :
 RVs fo K ρ vv (splice cs j xs) (vs.take j++ws++vs.drop (j+ws.length)):=by
 unfold YtncfpmehhfdipaaGreat.splice
 rw [h'.length]
 exact ((h.take j).append h').append (h.drop _)
theorem kF : ∀ (vs:List Value) (off i:Nat) (cs:Array Value),off+i+vs.length<=cs.size ->
 ((vs.zipIdx i).foldl (fun cs (p:Value×Nat)=>cs.setIfInBounds (off+p.2) p.1) cs).toList=cs.toList.take (off+i)++vs++cs.toList.drop (off+i+vs.length)
 | [],off,i,cs,_=>by simp
 | v::vs,off,i,cs,h=>by
   simp only [List.zipIdx_cons,List.foldl_cons]
   rw [kF vs off (i+1) _ (by simp at h ⊢;omega)]
   have e:=list_seg_step cs.toList (off+i) v vs (by simp at h ⊢;omega)
   simpa [Array.toList_setIfInBounds,Nat.add_assoc] using e
theorem iT {place:Nat->Option (Nat×Nat)} : ∀ (parts:List (Nat×Value)) (vparts:List (Nat×Nat×V)) (z:List V) (cells:Array Value) (r:List V),
 RVs fo K ρ vv z cells.toList->parts.length=vparts.length->(∀ (k i:Nat) (v:Value),parts[k]?=some (i,v) -> ∃ off size x,vparts[k]?=some (off,size,x)/\place i=some (off,size)/\RV fo K ρ vv x v) ->
 cR z vparts=some r -> ∃ cs,Instr.fill place cells parts=some cs/\RVs fo K ρ vv r cs.toList
 | [],[],z,cells,r,hz,_,_,h=>by
   simp [cR] at h;subst h
   exact ⟨cells,rfl,hz⟩
 | (i,v)::parts,(o,n,x)::vparts,z,cells,r,hz,hl,hp,h=>by
   obtain ⟨o',n',x',h1,h2,h3⟩:=hp 0 i v (by simp)
   simp at h1;obtain ⟨rfl,rfl,rfl⟩:=h1
   simp only [cR] at h
   split at h<;>try (cases h;done)
   rename_i hc
   have hcs:=h3.cells (by rintro rfl;simp [known] at hc)
   have hlen:=hcs.length
   have hzl:=hz.length
   simp only [Array.length_toList] at hlen hzl
   have hnew:RVs fo K ρ vv (splice z o x.cells) ((v.cells.zipIdx.foldl (fun cs (p:Value×Nat)=>cs.setIfInBounds (o+p.2) p.1) cells)).toList:=by
    rw [<- Array.foldl_toList,Array.toList_zipIdx,kF v.cells.toList o 0 cells (by simp;omega)]
    simpa using hz.splice hcs
   obtain ⟨cs,e1,e2⟩:=iT parts vparts _ _ r hnew (by simpa using hl) (fun k i v hk=>by simpa using hp (k+1) i v (by simpa using hk)) h
   refine ⟨cs,?_,e2⟩
   simp only [Instr.fill,h2]
   rw [if_neg (by simp;omega)]
   exact e1
 | [],_::_,_,_,_,_,hl,_,_=>by simp at hl
 | _::_,[],_,_,_,_,hl,_,_=>by simp at hl
end Go.Proofs.YtncfpmehhfdipaaGreat
namespace Go.Proofs.YtncfpmehhfdipaaGreat
open Go.RowKit
variable {P:Program} {fo:Nat->Option FuncId} {K:aS} {ρ:ax} {vv:Nat->Option (Nat×Nat)} {w:World} {tr:FuncId->Option Nat}
theorem kX (htr : ∀ g f,tr g=some f->fo f=some g) (v:Value):RV fo K ρ vv (vp tr v) v:=by
 unfold vp
 split<;>first | exact .poison _ | exact .nils | (refine .d _ _ ?_;constructor;done) | skip
 split
 · rename_i f first captured h
   simp at h
   obtain ⟨rfl,rfl⟩:=h
   split
   · rename_i k hk;exact .d _ _ (.func k f [] [] #[] #[] (htr _ _ hk) .nil .nil)
   · exact .poison _
 · exact .poison _
theorem eG (htr : ∀ g f,tr g=some f->fo f=some g) : ∀ (vs:List Value),RVs fo K ρ vv (vs.map (vp tr)) vs
 | [] => .nil
 | v::vs => .cons _ _ _ _ (kX htr v) (eG htr vs)
theorem kW (htr : ∀ g f,tr g=some f->fo f=some g) (v:Value):RV fo K ρ vv (uK tr v) v:=by
 unfold uK
 split
 · exact RV.mkAgg (eG htr _)
 · exact RV.mkTuple (eG htr _)
 · exact kX htr _
theorem b9 (htr : ∀ g f,tr g=some f->fo f=some g) {t:TypeId} {z:List V} (h:zeroT P tr t=some z) (w:World) : ∃ v,(zeroValue t).run P w = .ok v w/\RVs fo K ρ vv z v.cells.toList:=by
 unfold zeroT at h
 cases hi:P.info? t with
 | none=>simp [hi] at h
 | some i =>
   cases hz:i.zero with
   | none=>simp [hi,hz] at h
   | some v =>
     simp [hi,hz] at h;subst h
     exact ⟨v,by simp [zeroValue,typeInfo,hi,hz],eG htr _⟩
def RE (fo:Nat->Option FuncId) (K:aS) (ρ:ax) (vv:Nat->Option (Nat×Nat)) (e:Env) (tmps:Array Value):Prop := ∀ t,RV fo K ρ vv (e t) (tmps.getD t undef)
theorem eJ (htr : ∀ g f,tr g=some f->fo f=some g) {e:Env} {a:Act} (he:RE fo K ρ vv e a.tmps) (x:Operand):RV fo K ρ vv (ev e (opd tr x)) (a.eval x):=by
 cases x with
 | tmp t=>exact he t
 | const v=>exact kW htr v
 | global g=>exact .poison _
 | func f =>
   simp only [opd]
   split
   · rename_i k hk;exact .d _ _ (.func k f [] [] #[] #[] (htr _ _ hk) .nil .nil)
   · exact .poison _
theorem dw (htr : ∀ g f,tr g=some f->fo f=some g) {e:Env} {a:Act} (he:RE fo K ρ vv e a.tmps) : ∀ (xs:List Operand),RVs fo K ρ vv ((xs.map (opd tr)).map (ev e)) (xs.map a.eval)
 | [] => .nil
 | x::xs => .cons _ _ _ _ (eJ htr he x) (dw htr he xs)
theorem jy : ∀ (fs:List Field) (w:World),(∀ f∈fs,(sizeT P f.type).isSome) -> ∃ ps:List (Nat×Nat),(fs.mapM fun f=>do pure (f.offset,<- sizeOf f.type):Sem (List (Nat×Nat))).run P w = .ok ps w /\
 ps.length=fs.length /\ ∀ (i:Nat) f n,fs[i]?=some f->sizeT P f.type=some n->ps[i]?=some (f.offset,n)
 | [],w,_=>⟨[],by simp,rfl,by simp⟩
 | f::fs,w,h=>by
   obtain ⟨ps,h1,h2,h3⟩:=jy fs w (fun g hg=>h g (by simp [hg]))
   obtain ⟨n,hn⟩:=Option.isSome_iff_exists.1 (h f (by simp))
   refine ⟨(f.offset,n)::ps,?_,by simp [h2],?_⟩
   · simp only [List.mapM_cons,Sem.run_bind,aP hn w,Result.andThen_ok,Sem.run_pure,h1]
   · intro i g m hi hm
     cases i with
     | zero=>simp at hi;subst hi;rw [hn] at hm;injection hm with hm;simp [hm]
     | succ i=>simp at hi;simpa using h3 i g m hi hm
theorem l7 {t:TypeId} {fields:Array Field} {z r:List V} {parts:List (Nat×Value)} {vparts:List (Nat×Nat×V)} (htr : ∀ g f,tr g=some f->fo f=some g) (hu:P.underlying t=some (.struct fields))
 (hz:zeroT P tr t=some z) (hall : ∀ f∈fields.toList,(sizeT P f.type).isSome) (hl:parts.length=vparts.length)
 (hp : ∀ (k i:Nat) (v:Value),parts[k]?=some (i,v) -> ∃ f n x,vparts[k]?=some (f.offset,n,x)/\fields[i]?=some f/\sizeT P f.type=some n/\RV fo K ρ vv x v) (h:cR z vparts=some r) (w:World) :
 ∃ v,(Instr.build t parts.toArray).run P w = .ok v w/\RV fo K ρ vv (mkAgg r) v:=by
 obtain ⟨v0,h1,h2⟩:=b9 (fo:=fo) (K:=K) (ρ:=ρ) (vv:=vv) htr hz w
 obtain ⟨ps,g1,g2,g3⟩:=jy (P:=P) fields.toList w hall
 obtain ⟨cs,e1,e2⟩:=iT (place:=(ps.toArray[·]?)) parts vparts z v0.cells r h2 hl (fun k i v hk=>by
  obtain ⟨f,n,x,a1,a2,a3,a4⟩:=hp k i v hk
  exact ⟨f.offset,n,x,a1,by simpa using g3 i f n (by simpa using a2) a3,a4⟩) h
 refine ⟨.agg cs,?_,RV.mkAgg e2⟩
 have hm:(fields.mapM fun f=>do pure (f.offset,<- sizeOf f.type):Sem (Array (Nat×Nat))).run P w = .ok ps.toArray w:=by
  rw [Array.mapM_eq_mapM_toList]
  change Sem.run P (Sem.bind (List.mapM (fun f=>do pure (f.offset,<- sizeOf f.type)) fields.toList) (Sem.pure∘List.toArray)) w=_
  rw [Sem.run_bind',g1]
  rfl
 simp only [Instr.build,Sem.run_bind,h1,Result.andThen_ok,run_underlying hu,hm]
 generalize hq:Instr.fill _ v0.cells _=q
 have:q=some cs:=hq.symm.trans e1
 subst this
 simp
end Go.Proofs.YtncfpmehhfdipaaGreat
namespace Go.Proofs.YtncfpmehhfdipaaGreat
open Go.RowKit
variable {P:Program} {fo:Nat->Option FuncId} {K:aS} {ρ:ax} {vv:Nat->Option (Nat×Nat)} {w:World} {tr:FuncId->Option Nat} {base:Nat} {s:aa}
theorem m9 {t e:TypeId} {m n:Nat} {z r:List V} {parts:List (Nat×Value)} {vparts:List (Nat×Nat×V)} (htr : ∀ g f,tr g=some f->fo f=some g) (hu:P.underlying t=some (.array m e))
 (hz:zeroT P tr t=some z) (hn:sizeT P e=some n) (hl:parts.length=vparts.length)
 (hp : ∀ (k i:Nat) (v:Value),parts[k]?=some (i,v) -> ∃ x,vparts[k]?=some (i*n,n,x)/\RV fo K ρ vv x v) (h:cR z vparts=some r) (w:World) :
 ∃ v,(Instr.build t parts.toArray).run P w = .ok v w/\RV fo K ρ vv (mkAgg r) v:=by
 obtain ⟨v0,h1,h2⟩:=b9 (fo:=fo) (K:=K) (ρ:=ρ) (vv:=vv) htr hz w
 obtain ⟨cs,e1,e2⟩:=iT (place:=fun i=>some (i*n,n)) parts vparts z v0.cells r h2 hl (fun k i v hk=>by
  obtain ⟨x,a1,a4⟩:=hp k i v hk
  exact ⟨i*n,n,x,a1,rfl,a4⟩) h
 refine ⟨.agg cs,?_,RV.mkAgg e2⟩
 simp only [Instr.build,Sem.run_bind,h1,Result.andThen_ok,run_underlying hu,aP hn]
 generalize hq:Instr.fill _ v0.cells _=q
 have:q=some cs:=hq.symm.trans e1
 subst this
 simp
theorem e8 {less:Int->Int->Bool} {f:Value->Value->Sem Value} (hf : ∀ k a b w,(f (.int k a) (.int k b)).run P w = .ok (.int k (if less b a then b else a)) w) :
 ∀ (xs:List V) (vs:List Value) (x:V) (v:Value) (r:V),RV fo K ρ vv x v->RVs fo K ρ vv xs vs->jO less x xs=some r -> ∀ w,∃ z,(vs.foldlM f v).run P w = .ok z w/\RV fo K ρ vv r z
 | [],vs,x,v,r,hx,hs,h,w=>by
   cases hs
   simp [jO] at h;subst h
   exact ⟨v,by simp,hx⟩
 | y::ys,vs,x,v,r,hx,hs,h,w=>by
   cases hs with | cons _ u _ us hy hys =>
   unfold jO at h
   split at h
   · simp_all
   · rename_i k a k' b ys' heq
     injection heq with e1 e2;subst e1;subst e2
     split at h<;>try (cases h;done)
     rename_i hk;subst hk
     have:=hx.int_inv;have:=hy.int_inv;subst_vars
     obtain ⟨z,h1,h2⟩:=e8 hf ys us _ _ r (RV.of_int k (if less b a then b else a)) hys h w
     exact ⟨z,by simp only [List.foldlM_cons,Sem.run_bind,hf,Result.andThen_ok,h1],h2⟩
   · cases h
theorem pm {t:TypeId} {x i r:V} {v u:Value} (hu:P.underlying t=some .string)
 (hx:RV fo K ρ vv x v) (hi:RV fo K ρ vv i u) (h:q9 x i=some r) (w:World) : ∃ z,(Instr.index t v u).run P w = .ok z w/\RV fo K ρ vv r z:=by
 unfold q9 at h
 cases hq:idx i with
 | none=>simp [hq] at h
 | some m =>
   obtain ⟨q,rfl⟩:=eL hi hq
   simp only [hq] at h
   split at h
   · rename_i b
     have:=hx.str_inv;subst this
     cases hb:b[m]? with
     | none=>simp [hb] at h
     | some c =>
       simp [hb] at h;subst h
       exact ⟨_,by simp [Instr.index,Sem.run_bind,asIntOf,run_underlying hu,hb],.of_int _ _⟩
   · cases h
theorem kr {t:TypeId} (h:aggT P t=some false) {cs:Array Value} {i:Nat} {v:Value} (hv:cs[i]?=some v) (w:World):(part t cs i).run P w = .ok v w:=by
 unfold part
 simp [Sem.run_bind,ku h w,hv]
theorem mK {t e:TypeId} {n:Nat} {x i r:V} {v u:Value} (hu:P.underlying t=some (.array n e)) (hs:sizeT P e=some 1) (ha:aggT P e=some false)
 (hx:RV fo K ρ vv x v) (hi:RV fo K ρ vv i u) (h:mL n x i=some r) (w:World) : ∃ z,(Instr.index t v u).run P w = .ok z w/\RV fo K ρ vv r z:=by
 unfold mL at h
 cases hq:idx i with
 | none=>simp [hq] at h
 | some m =>
   obtain ⟨q,rfl⟩:=eL hi hq
   simp only [hq] at h
   split at h<;>try (cases h;done)
   rename_i hm
   split at h
   · rename_i cs
     obtain ⟨vs,rfl,hvs⟩:=hx.dagg_inv
     cases hb:cs[m]? with
     | none=>simp [hb] at h
     | some c =>
       simp [hb] at h;subst h
       obtain ⟨z,e1,e2⟩:=hvs.get hb
       refine ⟨z,?_,.d _ _ e2⟩
       simp only [Instr.index,Sem.run_bind,asIntOf,Sem.run_pure,Result.andThen_ok,run_underlying hu]
       rw [if_pos ⟨by omega,by omega⟩]
       simp only [Sem.run_bind,aP hs,Result.andThen_ok,Nat.mul_one]
       exact kr ha (by simpa using e1) w
   · cases h
theorem RS.kread (h:RS P fo base K ρ s w) {B o n:Nat} {vs:List Value} (hk : ∀ (j:Nat) v,vs[j]?=some v->K B (o+j)=some v) (hn:n<=vs.length) :
 (loadCells ⟨B,o,none⟩ n).run P w = .ok (vs.take n).toArray w:=by
 have:=run_loadCells_list (P:=P) w ⟨B,o,none⟩ (vs.take n) (fun j v hv=>by
  rw [bm]
  simp only [List.getElem?_take] at hv
  split at hv<;>try (cases hv;done)
  exact h.kcell (hk j v hv))
 simpa [Nat.min_eq_left hn] using this
theorem gC {t:TypeId} {agg:Bool} {n:Nat} {a:Addr} {vs:List Value} (ha:aggT P t=some agg) (hn:sizeT P t=some n) (hl:vs.length=n) (h1:agg=false->n=1)
 (hv : ∀ (j:Nat) v,vs[j]?=some v->w.cell? (a.add j)=some v):(loadVar t a).run P w = .ok (if agg then .agg vs.toArray else vs.getD 0 undef) w:=by
 unfold loadVar
 simp only [Sem.run_bind,ku ha,Result.andThen_ok]
 cases agg with
 | true =>
   have:=run_loadCells_list (P:=P) w a vs hv
   rw [hl] at this
   simp [Sem.run_bind,aP hn,this]
 | false =>
   have h1:=h1 rfl
   have h0:=hv 0 (vs.getD 0 undef) (by simp [List.getElem?_eq_getElem (show 0 < vs.length by omega)])
   have e0:a.add 0=a:=rfl
   rw [e0] at h0
   simp only [Bool.false_eq_true,if_false]
   rw [run_load,h0]
theorem sW {ver esz:Nat} {ro:Bool} {els:List (List V)} {p:Nat×Nat} (h:RBlk P fo K ρ vv w (.rows ver ro esz els) p) {i:Nat} {r:List V} (hi:els[i]?=some r) :
 ∃ (c:Array Value) (t:TypeId) (vs:List Value),w.heap[p.1]?=some (.cells c t (0,0))/\c.size=p.2/\els.length*esz<=p.2/\r.length=esz/\RVs fo K ρ vv r vs/\(∀ (j:Nat) v,vs[j]?=some v->c[i*esz+j]?=some v/\v.oneCell'=true):=by
 cases h with
 | rows _ _ _ _ B size c t h1 h2 h3 h4 h5 h6 =>
   have hr:=h4 r (List.mem_of_getElem? hi)
   refine ⟨c,t,(List.range r.length).map fun j=>c.getD (i*esz+j) undef,h1,h2,h3,hr,.of_get (by simp) fun j x v hx hv => ?_,fun j v hv => ?_⟩
   · obtain ⟨u,e1,e2,_⟩:=h5 i r hi j x hx
     have hj:=(List.getElem?_eq_some_iff.1 hx).1
     simp [hj,e1] at hv
     exact hv▸e2
   · have hj:j < r.length:=by have:=(List.getElem?_eq_some_iff.1 hv).1;simpa using this
     obtain ⟨u,e1,e2,e3⟩:=h5 i r hi j r[j] (by simp [hj])
     simp [hj,e1] at hv
     exact ⟨hv▸e1,hv▸e3⟩
theorem nE {c:Array Value} {t:TypeId} {B k:Nat} {v:Value} (h:w.heap[B]?=some (.cells c t (0,0))) (hv:c[k]?=some v):w.cell? ⟨B,k,none⟩=some v:=by simp [World.cell?,h,hv]
theorem RVs.head_getD {x:V} : ∀ {xs:List V} {vs:List Value},RVs fo K ρ vv xs vs->xs[0]?=some x->RV fo K ρ vv x (vs.getD 0 undef)
 | _,_,.nil,h=>by simp at h
 | _,_,.cons _ _ _ _ h _,h'=>by simp at h';subst h';simpa using h
theorem bC {id ver esz:Nat} {ro:Bool} {els:List (List V)} (h:getB s id=some (.rows ver ro esz els)):vo s id=some (ver,esz):=by simp [vo,h]
theorem lF {t:TypeId} {agg:Bool} {n:Nat} {x r:V} {v:Value} (hS:RS P fo base K ρ s w) (ha:aggT P t=some agg) (hn:sizeT P t=some n) (h1:agg=false->n=1)
 (hx:RV fo K ρ (vo s) x v) (h:iM s agg n x=some r) : ∃ z,(Instr.loadAt t v).run P w = .ok z w/\RV fo K ρ (vo s) r z:=by
 unfold iM at h
 split at h
 · rename_i cs off
   obtain ⟨B,o,vs,rfl,g1,g2⟩:=hx.iptr_inv
   split at h<;>try (cases h;done)
   rename_i hle
   have hl:=g1.length
   have key:=gC (P:=P) (w:=w) (a:=⟨B,o+off,none⟩) (vs:=(vs.drop off).take n) ha hn (by simp;omega) h1 (fun j v hv=>by
    rw [bm]
    simp only [List.getElem?_take,List.getElem?_drop] at hv
    split at hv<;>try (cases hv;done)
    rw [Nat.add_assoc]
    exact hS.kcell (g2 _ _ hv))
   refine ⟨_,by simp only [Instr.loadAt,Instr.sureAddr,Sem.run_bind,Sem.run_pure,Result.andThen_ok];exact key,?_⟩
   cases agg with
   | true=>simp at h;subst h;exact .d _ _ (.agg _ _ (by simpa using (g1.drop off).take n))
   | false =>
     have h1:=h1 rfl;subst h1
     simp only [Bool.false_eq_true,if_false] at h ⊢
     cases hq:cs[off]? with
     | none=>simp [hq] at h
     | some d =>
       simp [hq] at h;subst h
       have:=((g1.drop off).take 1)
       refine (RVs.of_d (ρ:=ρ) (vv:=vo s) this).head_getD ?_
       simp [hq]
 · rename_i id ver i j
   obtain ⟨a,v0,e,rfl,g1,g2⟩:=hx.ptr_inv
   split at h<;>try (cases h;done)
   rename_i v' ro esz els hb
   split at h<;>try (cases h;done)
   rename_i hv;subst hv
   split at h<;>try (cases h;done)
   rename_i cs hi
   split at h<;>try (cases h;done)
   rename_i hle
   rw [bC hb] at g1;injection g1 with g1;injection g1 with e1 e2;subst e1;subst e2
   obtain ⟨_,rfl⟩:=g2 (Nat.le_refl _)
   obtain ⟨c,ty,vs,k1,k2,k3,k4,k5,k6⟩:=sW (hS.blk id _ hb).1 hi
   have hl:=k5.length
   have key:=gC (P:=P) (w:=w) (a:=⟨(ρ id).1,i*esz+j,none⟩) (vs:=(vs.drop j).take n) ha hn (by simp;omega) h1 (fun q v hv=>by
    rw [bm]
    simp only [List.getElem?_take,List.getElem?_drop] at hv
    split at hv<;>try (cases hv;done)
    rw [Nat.add_assoc]
    exact nE k1 (k6 _ _ hv).1)
   refine ⟨_,by simp only [Instr.loadAt,Instr.sureAddr,Sem.run_bind,Sem.run_pure,Result.andThen_ok];exact key,?_⟩
   cases agg with
   | true=>simp at h;subst h;exact RV.mkAgg (by simpa using (k5.drop j).take n)
   | false =>
     have h1:=h1 rfl;subst h1
     simp only [Bool.false_eq_true,if_false] at h ⊢
     refine ((k5.drop j).take 1).head_getD ?_
     simpa using h
 · cases h
end Go.Proofs.YtncfpmehhfdipaaGreat
namespace Go.Proofs.YtncfpmehhfdipaaGreat
open Go.RowKit
variable {P:Program} {fo:Nat->Option FuncId} {K:aS} {ρ:ax} {w:World} {tr:FuncId->Option Nat} {base:Nat} {s:aa}
theorem RD.slice_at {es:List D} {v:Value} (h:RD fo K (.slice es) v) {k:Nat} {e:D} (hk:es[k]?=some e) :
 ∃ B o cap esz vs,v = .slice (some ⟨B,o,none⟩) es.length cap/\es.length<=cap/\0 < esz/\(∀ x∈es,x.cells.length=esz)/\RDs fo K (es.flatMap D.cells) vs/\(∀ (j:Nat) u,vs[j]?=some u->K B (o+j)=some u):=by
 cases h with
 | sliceE a cap hc0=>simp at hk
 | slice _ B o cap esz vs h0 h1 h2 h3 h4 h5=>exact ⟨B,o,cap,esz,vs,rfl,h5,h1,h2,h3,h4⟩
theorem iS {esz:Nat} : ∀ {es:List D},(∀ x∈es,x.cells.length=esz) -> ∀ (k:Nat),(es.flatMap D.cells).drop (k*esz)=(es.drop k).flatMap D.cells
 | [],_,k=>by simp
 | e::es,h,0=>by simp
 | e::es,h,k+1=>by
   have he:=h e (by simp)
   have ih:=iS (es:=es) (fun x hx=>h x (by simp [hx])) k
   rw [List.flatMap_cons,List.drop_succ_cons,<- ih,show (k+1)*esz=e.cells.length+k*esz by rw [he,Nat.succ_mul];omega,List.drop_append,List.drop_of_length_le (by omega)]
   simp
theorem lQ {esz:Nat} : ∀ {es:List D},(∀ x∈es,x.cells.length=esz) -> ∀ (k:Nat),(es.flatMap D.cells).take (k*esz)=(es.take k).flatMap D.cells
 | [],_,k=>by simp
 | e::es,h,0=>by simp
 | e::es,h,k+1=>by
   have he:=h e (by simp)
   have ih:=lQ (es:=es) (fun x hx=>h x (by simp [hx])) k
   rw [List.flatMap_cons,List.take_succ_cons,List.flatMap_cons,<- ih,show (k+1)*esz=e.cells.length+k*esz by rw [he,Nat.succ_mul];omega,List.take_append,List.take_of_length_le (by omega)]
   simp
theorem iR {esz:Nat} : ∀ {es:List D},(∀ x∈es,x.cells.length=esz)->(es.flatMap D.cells).length=es.length*esz
 | [],_=>by simp
 | e::es,h=>by
   have ih:=iR (es:=es) (fun x hx=>h x (by simp [hx]))
   simp [h e (by simp),ih,Nat.succ_mul];omega
theorem RV.slice_inv {es:List D} {x:V} {v:Value} {vv:Nat->Option (Nat×Nat)} (hx:RV fo K ρ vv x v) (h:x = .d (.slice es)\/x = .lit es):RD fo K (.slice es) v:=by
 rcases h with rfl | rfl
 · cases hx;assumption
 · cases hx;assumption
theorem fh {t e:TypeId} {a:Addr} {len cap k:Nat} {q:IntKind} {esz:Nat} (hu:P.underlying t=some (.slice e)) (hs:sizeT P e=some esz) (hk:k < len) (w:World) :
 (Instr.indexAt t (.slice (some a) len cap) (.int q (k:Int))).run P w = .ok (.pointer (some (a.add (k*esz)))) w:=by
 simp [Instr.indexAt,Sem.run_bind,asIntOf,run_underlying hu,aP hs,hk]
theorem mN {t e:TypeId} {esz:Nat} {x i r:V} {v u:Value} (hu:P.underlying t=some (.slice e)) (hs:sizeT P e=some esz) (h0:0 < esz)
 (hx:RV fo K ρ (vo s) x v) (hi:RV fo K ρ (vo s) i u) (h:dO s esz x i=some r) : ∃ z,(Instr.indexAt t v u).run P w = .ok z w/\RV fo K ρ (vo s) r z:=by
 unfold dO at h
 cases hq:idx i with
 | none=>simp [hq] at h
 | some k =>
   obtain ⟨q,rfl⟩:=eL hi hq
   simp only [hq] at h
   have imm : ∀ es,(x = .d (.slice es)\/x = .lit es)->(match es[k]? with | some e=>if e.cells.length=esz then some (V.d (.iptr e.cells 0)) else none | none=>none)=some r ->
    ∃ z,(Instr.indexAt t v (.int q (k:Int))).run P w = .ok z w/\RV fo K ρ (vo s) r z:=by
    intro es hes h
    split at h<;>try (cases h;done)
    rename_i d hd
    split at h<;>try (cases h;done)
    rename_i hl
    injection h with h;subst h
    obtain ⟨B,o,cap,esz',vs,rfl,g1,g2,g3,g4,g5⟩:=(hx.slice_inv hes).slice_at hd
    have hk:=(List.getElem?_eq_some_iff.1 hd).1
    have:esz'=esz:=by rw [<- hl];exact (g3 d (List.mem_of_getElem? hd)).symm
    subst this
    refine ⟨_,fh hu hs hk w,?_⟩
    rw [bm]
    have e1:((es.flatMap D.cells).drop (k*esz')).take esz'=d.cells:=by
     rw [iS g3,List.drop_eq_getElem_cons hk,List.flatMap_cons]
     have:es[k]=d:=by rw [List.getElem?_eq_getElem hk] at hd;injection hd
     rw [this,<- hl];simp
    have g6:=(g4.drop (k*esz')).take esz'
    rw [e1] at g6
    have:=RD.iptr (fo:=fo) (K:=K) d.cells 0 B (o+k*esz') _ g6 (fun j u hj=>by
     simp only [List.getElem?_take,List.getElem?_drop] at hj
     split at hj<;>try (cases hj;done)
     rw [Nat.add_assoc];exact g5 _ _ hj)
    exact .d _ _ (by simpa using this)
   split at h
   · exact imm _ (.inl rfl) h
   · exact imm _ (.inr rfl) h
   · rename_i id ver off len
     obtain ⟨a,n,cap,v0,e',rfl,g1,g2⟩:=hx.ms_inv
     split at h<;>try (cases h;done)
     rename_i v' ro n' els hb
     split at h<;>try (cases h;done)
     rename_i hc
     obtain ⟨rfl,rfl,hk,hle⟩:=hc
     injection h with h;subst h
     rw [bC hb] at g1;injection g1 with g1;injection g1 with e1 e2;subst e1;subst e2
     obtain ⟨_,rfl,rfl,_,_⟩:=g2 (Nat.le_refl _)
     refine ⟨_,fh hu hs hk w,?_⟩
     rw [bm]
     refine .ptr _ _ _ _ _ _ _ (bC hb) fun _=>⟨rfl,?_⟩
     congr 1
     rw [Nat.add_mul];omega
   · rename_i id ver a' b len
     obtain ⟨a,n,cap,v0,e',rfl,g1,g2⟩:=hx.asl_inv
     split at h<;>try (cases h;done)
     rename_i hc
     obtain ⟨hv,hk,rfl⟩:=hc
     injection h with h;subst h
     have hv':v0=ver:=by
      unfold ik at hv;unfold vo at g1
      cases hb:getB s id with
      | none=>simp [hb] at g1
      | some b=>cases b<;>simp [hb] at hv g1<;>omega
     subst hv'
     obtain ⟨_,rfl,rfl,_⟩:=g2 (Nat.le_refl _)
     refine ⟨_,fh hu hs hk w,?_⟩
     rw [bm]
     refine .ptr _ _ _ _ _ _ _ g1 fun _=>⟨rfl,?_⟩
     congr 1
     omega
   · cases h
theorem j8 {id ver v0 e:Nat} (hv:ik s id=some ver) (g:vo s id=some (v0,e)):v0=ver:=by
 unfold ik at hv;unfold vo at g
 cases hb:getB s id with
 | none=>simp [hb] at g
 | some b=>cases b<;>simp [hb] at hv g<;>omega
theorem lenV_spec {x:V} {v:Value} {n:Nat} (hS:RS P fo base K ρ s w) (hx:RV fo K ρ (vo s) x v) (h:iN s x=some n) :
 (∃ a cap,v = .slice a n cap)\/(∃ b,v = .string b/\b.size=n)\/(v = .map none/\n=0)\/(∃ r ents c,v = .map (some r)/\w.heap[r]?=some (.map ents c)/\ents.size=n):=by
 unfold iN at h
 split at h
 · injection h with h;subst h;cases hx;exact .inl ⟨_,_,rfl⟩
 · injection h with h;subst h;cases hx;exact .inl ⟨_,_,rfl⟩
 · injection h with h;subst h;cases hx;exact .inl ⟨_,_,rfl⟩
 · injection h with h;subst h
   cases hx with | d _ _ hx=>cases hx with
   | sliceE a cap hc0=>exact .inl ⟨_,_,rfl⟩
   | slice=>exact .inl ⟨_,_,rfl⟩
 · injection h with h;subst h;cases hx;exact .inl ⟨_,_,rfl⟩
 · injection h with h;subst h
   have:=hx.str_inv;subst this
   exact .inr (.inl ⟨_,rfl,rfl⟩)
 · split at h<;>try (cases h;done)
   rename_i hv
   injection h with h;subst h
   obtain ⟨a,m,cap,v0,e',rfl,g1,g2⟩:=hx.ms_inv
   have:=j8 hv g1;subst this
   obtain ⟨_,_,rfl,_⟩:=g2 (Nat.le_refl _)
   exact .inl ⟨_,_,rfl⟩
 · split at h<;>try (cases h;done)
   rename_i hv
   injection h with h;subst h
   obtain ⟨a,m,cap,v0,e',rfl,g1,g2⟩:=hx.asl_inv
   have:=j8 hv g1;subst this
   obtain ⟨_,_,rfl,_⟩:=g2 (Nat.le_refl _)
   exact .inl ⟨_,_,rfl⟩
 · injection h with h;subst h
   cases hx with | d _ _ hx=>cases hx;exact .inr (.inr (.inl ⟨rfl,rfl⟩))
 · rename_i id
   split at h<;>try (cases h;done)
   rename_i es hb
   injection h with h;subst h
   cases hx with | map _ _ hv =>
   have hB:=(hS.blk id _ hb).1
   generalize hp:ρ id=p at hB
   cases hB with
   | map es B size ents c h1 h2 h3 h4=>exact .inr (.inr (.inr ⟨_,ents,c,rfl,h1,h2.symm⟩))
 · cases h
theorem bound_run {lo:Option V} {vlo:Option Value} {d l y:Nat} {code:BoundsCode} (hl:(lo=none/\vlo=none) \/ ∃ x v,lo=some x/\vlo=some v/\RV fo K ρ (vo s) x v) (h:gq lo d=some l) :
 (vlo=none/\l=d) \/ ∃ v,vlo=some v/\(l<=y->(Instr.sliceBound v y code).run P w = .ok l w):=by
 rcases hl with ⟨rfl,rfl⟩ | ⟨x,v,rfl,rfl,hx⟩
 · simp [gq] at h;exact .inl ⟨rfl,h.symm⟩
 · right
   refine ⟨v,rfl,fun hle => ?_⟩
   unfold gq at h
   split at h<;>try (cases h;done)
   · rename_i heq;cases heq
   · rename_i q n heq
     injection heq with heq;subst heq
     split at h<;>try (cases h;done)
     rename_i hn
     injection h with h
     have:=hx.int_inv;subst this
     have e:n=(l:Int):=by omega
     subst e
     simp [Instr.sliceBound,asIntOf,hle]
theorem gp {isS:Bool} {lo hi:Option V} {vlo vhi:Option Value} {len cap l h:Nat}
 (hlo:(lo=none/\vlo=none) \/ ∃ x v,lo=some x/\vlo=some v/\RV fo K ρ (vo s) x v) (hhi:(hi=none/\vhi=none) \/ ∃ x v,hi=some x/\vhi=some v/\RV fo K ρ (vo s) x v)
 (e1:gq lo 0=some l) (e2:gq hi len=some h) (hle:l<=h/\h<=len) (hc:len<=cap) :
 (Instr.sliceBounds isS len cap vlo vhi none).run P w = .ok (l,h,cap) w:=by
 rcases bound_run (P:=P) (w:=w) (y:=cap) (code:=if isS then .sliceAcap else .sliceAlen) hhi e2 with ⟨rfl,rfl⟩ | ⟨vh,rfl,hh2⟩ <;>
 rcases bound_run (P:=P) (w:=w) (y:=h) (code := .sliceB) hlo e1 with ⟨rfl,rfl⟩ | ⟨vl,rfl,hl2⟩
 · simp [Instr.sliceBounds]
 · simp [Instr.sliceBounds,hl2 hle.1]
 · simp [Instr.sliceBounds,hh2 (by omega)]
 · simp [Instr.sliceBounds,hh2 (by omega),hl2 hle.1]
theorem oO {t e:TypeId} {esz:Nat} {x r:V} {v:Value} {lo hi:Option V} {vlo vhi:Option Value} (hu:P.underlying t=some (.slice e)) (hs:sizeT P e=some esz) (h0:0 < esz)
 (hx:RV fo K ρ (vo s) x v)
 (hlo:(lo=none/\vlo=none) \/ ∃ x v,lo=some x/\vlo=some v/\RV fo K ρ (vo s) x v) (hhi:(hi=none/\vhi=none) \/ ∃ x v,hi=some x/\vhi=some v/\RV fo K ρ (vo s) x v)
 (h:dq s esz x lo hi=some r) (hns : ∀ b,x ≠ .d (.str b)) : ∃ z,(Instr.sliceAt t v vlo vhi none).run P w = .ok z w/\RV fo K ρ (vo s) r z:=by
 unfold dq at h
 cases hq:iN s x with
 | none=>simp [hq] at h
 | some len =>
   simp only [hq] at h
   split at h<;>try (cases h;done)
   rename_i l hh e1 e2
   split at h<;>try (cases h;done)
   rename_i hle
   have run : ∀ a cap,v = .slice a len cap->len<=cap->(Instr.sliceAt t v vlo vhi none).run P w = .ok (.slice (if cap=l then a else a.map (·.add (l*esz))) (hh - l) (cap - l)) w:=by
    rintro a cap rfl hc
    simp only [Instr.sliceAt,Instr.slice,Sem.run_bind,run_underlying hu,Result.andThen_ok,gp (P:=P) (w:=w) (isS:=true) hlo hhi e1 e2 hle hc,aP hs,Sem.run_pure]
   have imm : ∀ es,(x = .d (.slice es)\/x = .lit es)->es.length=len->(if wide esz es then some (V.d (.slice ((es.drop l).take (hh - l)))) else none)=some r ->
    ∃ z,(Instr.sliceAt t v vlo vhi none).run P w = .ok z w/\RV fo K ρ (vo s) r z:=by
    intro es hes hl h
    split at h<;>try (cases h;done)
    rename_i hw
    injection h with h;subst h
    by_cases hz:es=[]
    · subst hz
      have:=hx.slice_inv hes
      cases this with
      | sliceE a cap hc0 =>
        simp at hl;subst hl
        have e0:hh=l:=by omega
        subst e0
        refine ⟨_,run a cap rfl (by omega),?_⟩
        simp;refine .d _ _ (.sliceE _ _ fun hn => ?_)
        split at hn
        · have:=hc0 hn;omega
        · have:=hc0 (by simpa using hn);omega
      | slice _ _ _ _ _ _ h0=>exact absurd rfl h0
    · obtain ⟨d,hd⟩:=List.exists_mem_of_ne_nil es hz
      obtain ⟨k,hk,rfl⟩:=List.getElem_of_mem hd
      obtain ⟨B,o,cap,esz',vs,rfl,g1,g2,g3,g4,g5⟩:=(hx.slice_inv hes).slice_at (List.getElem?_eq_getElem hk)
      have he:esz'=esz:=by
       have h1:=g3 _ hd
       simp only [wide,List.all_eq_true,beq_iff_eq] at hw
       rw [<- h1,hw _ hd]
      subst he
      refine ⟨_,run _ cap (by rw [hl]) (by omega),?_⟩
      by_cases hlh:hh=l
      · subst hlh;simp;exact .d _ _ (.sliceE _ _ fun hn=>by split at hn<;>simp at hn)
      · rw [if_neg (by omega)]
        simp only [Option.map_some,bm]
        have hlen:((es.drop l).take (hh - l)).length=hh - l:=by simp;omega
        have g6:=(g4.drop (l*esz')).take ((hh - l)*esz')
        rw [iS g3,lQ (fun x hx=>g3 x (List.mem_of_mem_drop hx))] at g6
        have:=RD.slice (fo:=fo) (K:=K) ((es.drop l).take (hh - l)) B (o+l*esz') (cap - l) esz' _ (by intro h;rw [h] at hlen;simp at hlen;omega) h0 (fun x hx=>g3 x (List.mem_of_mem_drop (List.mem_of_mem_take hx))) g6 (fun j u hj=>by
         simp only [List.getElem?_take,List.getElem?_drop] at hj
         split at hj<;>try (cases hj;done)
         rw [Nat.add_assoc];exact g5 _ _ hj) (by omega)
        rw [hlen] at this
        exact .d _ _ this
   split at h
   · exact absurd rfl (hns _)
   · injection h with h;subst h
     simp [iN] at hq;subst hq
     cases hx
     have e0:hh=l/\l=0:=by omega
     obtain ⟨rfl,rfl⟩:=e0
     refine ⟨_,run none 0 rfl (by omega),?_⟩
     simp;exact .nils
   · injection h with h;subst h
     simp [iN] at hq;subst hq
     cases hx
     have e0:hh=l/\l=0:=by omega
     obtain ⟨rfl,rfl⟩:=e0
     refine ⟨_,run _ 0 rfl (by omega),?_⟩
     simp;exact .emp _
   · injection h with h;subst h
     simp [iN] at hq;subst hq
     cases hx
     rename_i a cap
     have e0:hh=l/\l=0:=by omega
     obtain ⟨rfl,rfl⟩:=e0
     refine ⟨_,run _ cap rfl (by omega),?_⟩
     by_cases hc:cap=0<;>simp [hc]<;>exact .non _ _
   · exact imm _ (.inl rfl) (by simpa [iN] using hq) h
   · exact imm _ (.inr rfl) (by simpa [iN] using hq) h
   · rename_i id ver off len'
     obtain ⟨a,n,cap,v0,e',rfl,g1,g2⟩:=hx.ms_inv
     simp only [iN] at hq
     split at hq<;>try (cases hq;done)
     rename_i hv
     injection hq with hq;subst hq
     have:=j8 hv g1;subst this
     obtain ⟨_,rfl,rfl,k1,k2⟩:=g2 (Nat.le_refl _)
     split at h
     · rename_i hlh;subst hlh
       injection h with h;subst h
       refine ⟨_,run _ cap rfl k1,?_⟩
       simp;exact .d _ _ (.sliceE _ _ fun hn=>by split at hn<;>simp at hn)
     · rename_i hlh
       split at h<;>try (cases h;done)
       rename_i v' ro e'' els hb
       split at h<;>try (cases h;done)
       rename_i he
       injection h with h;subst h
       have g1':=g1
       rw [bC hb] at g1';injection g1' with g1';injection g1' with q1 q2;subst q1;subst q2;subst he
       refine ⟨_,run _ cap rfl k1,?_⟩
       rw [if_neg (by omega)]
       simp only [Option.map_some,bm]
       refine .ms _ _ _ _ _ _ _ _ _ g1 fun _=>⟨rfl,by congr 1;rw [Nat.add_mul],rfl,by omega,?_⟩
       rw [show off+l+(cap - l)=off+cap by omega];exact k2
   · cases h
end Go.Proofs.YtncfpmehhfdipaaGreat
namespace Go.Proofs.YtncfpmehhfdipaaGreat
open Go.RowKit
variable {P:Program} {fo:Nat->Option FuncId} {K:aS} {ρ:ax} {w:World} {tr:FuncId->Option Nat} {base:Nat} {s s':aa}
theorem qv {t:TypeId} {b:ByteArray} {r:V} {lo hi:Option V} {vlo vhi:Option Value} {esz:Nat} (hu:P.underlying t=some .string)
 (hlo:(lo=none/\vlo=none) \/ ∃ x v,lo=some x/\vlo=some v/\RV fo K ρ (vo s) x v) (hhi:(hi=none/\vhi=none) \/ ∃ x v,hi=some x/\vhi=some v/\RV fo K ρ (vo s) x v)
 (h:dq s esz (.d (.str b)) lo hi=some r) (w:World) : ∃ z,(Instr.sliceAt t (.string b) vlo vhi none).run P w = .ok z w/\RV fo K ρ (vo s) r z:=by
 unfold dq at h
 simp only [iN] at h
 split at h<;>try (cases h;done)
 rename_i l hh e1 e2
 split at h<;>try (cases h;done)
 rename_i hle
 injection h with h;subst h
 refine ⟨.string (b.extract l hh),?_,.d _ _ (.str _)⟩
 simp only [Instr.sliceAt,Instr.slice,Sem.run_bind,run_underlying hu,Result.andThen_ok,Option.isSome_none,Bool.false_eq_true,if_false,gp (P:=P) (w:=w) (isS:=false) hlo hhi e1 e2 hle (Nat.le_refl _),Sem.run_pure]
theorem cY {d:D} (h:bY d=true):d.cells=[d]:=by cases d<;>first | rfl | (simp [bY] at h)
theorem fk : ∀ {es:List D},(∀ x∈es,bY x=true)->es.flatMap D.cells=es
 | [],_=>rfl
 | e::es,h=>by rw [List.flatMap_cons,cY (h e (by simp)),fk (fun x hx=>h x (by simp [hx]))];rfl
theorem oQ {t e:TypeId} {n esz:Nat} {x r:V} {v:Value} {lo hi:Option V} {vlo vhi:Option Value} (hu:P.underlying t=some (.array n e)) (hs:sizeT P e=some esz)
 (hx:RV fo K ρ (vo s) x v)
 (hlo:(lo=none/\vlo=none) \/ ∃ x v,lo=some x/\vlo=some v/\RV fo K ρ (vo s) x v) (hhi:(hi=none/\vhi=none) \/ ∃ x v,hi=some x/\vhi=some v/\RV fo K ρ (vo s) x v)
 (h:iu s n esz x lo hi=some r) (w:World) : ∃ z,(Instr.sliceAt t v vlo vhi none).run P w = .ok z w/\RV fo K ρ (vo s) r z:=by
 unfold iu at h
 split at h<;>try (cases h;done)
 rename_i l hh e1 e2
 split at h<;>try (cases h;done)
 rename_i hle
 obtain ⟨hle1,hle2,rfl⟩:=hle
 have run : ∀ a,v = .pointer (some a)->(Instr.sliceAt t v vlo vhi none).run P w = .ok (.slice (some (if n=l then a else a.add (l*1))) (hh - l) (n - l)) w:=by
  rintro a rfl
  simp only [Instr.sliceAt,Sem.run_bind,run_underlying hu,Result.andThen_ok,Instr.sureAddr,gp (P:=P) (w:=w) (isS:=false) hlo hhi e1 e2 ⟨hle1,hle2⟩ (Nat.le_refl _),aP hs,Sem.run_pure]
 split at h
 · rename_i cs off
   obtain ⟨B,o,vs,rfl,g1,g2⟩:=hx.iptr_inv
   split at h<;>try (cases h;done)
   rename_i hfit
   injection h with h;subst h
   refine ⟨_,run _ rfl,?_⟩
   by_cases hlh:hh=l
   · subst hlh;simp;exact .d _ _ (.sliceE _ _ (by simp))
   · rw [if_neg (by omega),Nat.mul_one,bm]
     obtain ⟨hfit,hsc⟩:=hfit
     have hl:=g1.length
     have hlen:((cs.drop (off+l)).take (hh - l)).length=hh - l:=by simp;omega
     have hsc' : ∀ x∈(cs.drop (off+l)).take (hh - l),bY x=true:=by simpa using hsc
     have g6:=(g1.drop (off+l)).take (hh - l)
     have:=RD.slice (fo:=fo) (K:=K) ((cs.drop (off+l)).take (hh - l)) B (o+off+l) (n - l) 1 _ (by intro h;rw [h] at hlen;simp at hlen;omega) (by omega)
      (fun x hx=>by rw [cY (hsc' x hx)];rfl) (by rw [fk hsc'];exact g6) (fun j u hj=>by
       simp only [List.getElem?_take,List.getElem?_drop] at hj
       split at hj<;>try (cases hj;done)
       have:=g2 _ _ hj
       rwa [show o+(off+l+j)=o+off+l+j by omega] at this) (by omega)
     rw [hlen] at this
     exact .d _ _ this
 · rename_i id ver i j
   obtain ⟨a,v0,e',rfl,g1,g2⟩:=hx.ptr_inv
   split at h
   · rename_i hlh;subst hlh
     injection h with h;subst h
     refine ⟨_,run _ rfl,?_⟩
     simp;exact .d _ _ (.sliceE _ _ (by simp))
   · rename_i hlh
     split at h<;>try (cases h;done)
     rename_i v' ro e'' els hb
     split at h<;>try (cases h;done)
     rename_i cs hi'
     split at h<;>try (cases h;done)
     rename_i hc
     obtain ⟨rfl,hfit⟩:=hc
     injection h with h;subst h
     have g1':=g1
     rw [bC hb] at g1';injection g1' with g1';injection g1' with q1 q2;subst q1;subst q2
     obtain ⟨_,rfl⟩:=g2 (Nat.le_refl _)
     refine ⟨_,run _ rfl,?_⟩
     rw [if_neg (by omega),Nat.mul_one,bm]
     exact .asl _ _ _ _ _ _ _ _ _ _ g1 fun _=>⟨rfl,by congr 1;omega,rfl,by omega⟩
 · cases h
theorem dx {id:Nat} {b:Blk} (h:em s id b=some s'):id < s.length/\getB s id=none/\s'=s.set id (some b):=by
 unfold em at h
 split at h<;>try (cases h;done)
 rename_i hc
 injection h with h
 exact ⟨hc.1,by simpa using hc.2,h.symm⟩
theorem gY {id esz:Nat} {els:List (List V)} {c:Array Value} {t:TypeId} (hS:RS P fo base K ρ s w) (hid:id < s.length) (hn:getB s id=none)
 (hsz:els.length*esz<=c.size) (hw : ∀ r∈els,r.length=esz) (hr : ∀ (i:Nat) r,els[i]?=some r -> ∀ (j:Nat) x,r[j]?=some x -> ∃ v,c[i*esz+j]?=some v/\RV fo K ρ (vo s) x v/\v.oneCell'=true) :
 RS P fo base K (placed ρ id w.heap.size c.size) (s.set id (some (.rows 0 false esz els))) (w.alloc (.cells c t)) /\
 Stp base K ρ s w K (placed ρ id w.heap.size c.size) (s.set id (some (.rows 0 false esz els))) (w.alloc (.cells c t)):=by
 have hL:Later ρ (placed ρ id w.heap.size c.size) (vo s) (vo (s.set id (some (Blk.rows 0 false esz els)))) := .new hid hn
 refine hS.new hid hn (.rows 0 false esz els _ _ c t (World.alloc_heap_new w _) rfl hsz hw (fun i r hi j x hj => ?_) (fun _ o => ?_))
 · obtain ⟨v,e1,e2,e3⟩:=hr i r hi j x hj
   exact ⟨v,e1,e2.mono (fun _ _ _ h=>h) hL,e3⟩
 · cases hk:K w.heap.size o with
   | none=>rfl
   | some v =>
     obtain ⟨_,_,_,h1,_⟩:=hS.known _ _ _ hk
     have:=(Array.getElem?_eq_some_iff.1 h1).1
     omega
theorem qf {id:Nat} {z:List V} {v:Value} {t:TypeId} (hS:RS P fo base K ρ s w) (hid:id < s.length) (hn:getB s id=none) (hz:RVs fo K ρ (vo s) z v.cells.toList) (hsc:z.all aH=true) :
 ∃ ρ',RS P fo base K ρ' (s.set id (some (.rows 0 false z.length [z]))) (w.alloc (.cells v.cells t))/\Stp base K ρ s w K ρ' (s.set id (some (.rows 0 false z.length [z]))) (w.alloc (.cells v.cells t)) /\
   RV fo K ρ' (vo (s.set id (some (.rows 0 false z.length [z])))) (.ptr id 0 0 0) (.pointer (some ⟨w.heap.size,0,none⟩)):=by
 have hl:=hz.length
 simp only [Array.length_toList] at hl
 obtain ⟨h1,h2⟩:=gY (t:=t) (c:=v.cells) (els:=[z]) (esz:=z.length) hS hid hn (by simp;omega) (by simp) (fun i r hi j x hj=>by
  cases i with
  | succ i=>simp at hi
  | zero =>
    simp at hi;subst hi
    obtain ⟨u,e1,e2⟩:=hz.get hj
    refine ⟨u,by simpa using e1,e2,e2.cellV ?_⟩
    exact List.all_eq_true.1 hsc x (List.mem_of_getElem? hj))
 refine ⟨_,h1,h2,.ptr _ _ _ _ 0 z.length _ (by rw [cC hid];simp) fun _=>⟨rfl,?_⟩⟩
 simp [placed]
theorem pO (htr : ∀ g f,tr g=some f->fo f=some g) {t:TypeId} {z:List V} {id:Nat} (hS:RS P fo base K ρ s w) (hz:zeroT P tr t=some z) (hsc:z.all aH=true) (h:em s id (.rows 0 false z.length [z])=some s') :
 ∃ v ρ' w',(Instr.alloc t true (.tuple #[])).run P w = .ok v w'/\RS P fo base K ρ' s' w'/\Stp base K ρ s w K ρ' s' w'/\RV fo K ρ' (vo s') (.ptr id 0 0 0) v:=by
 obtain ⟨h1,h2,rfl⟩:=dx h
 obtain ⟨v,e1,e2⟩:=b9 (fo:=fo) (K:=K) (ρ:=ρ) (vv:=vo s) htr hz w
 obtain ⟨ρ',a1,a2,a3⟩:=qf (t:=t) hS h1 h2 e2 hsc
 exact ⟨_,ρ',_,by simp only [Instr.alloc,Sem.run_bind,e1,Result.andThen_ok];simp [newVar,newRow],a1,a2,a3⟩
theorem ux {t:TypeId} {x:V} {v:Value} {id:Nat} (hS:RS P fo base K ρ s w) (hx:RV fo K ρ (vo s) x v) (hk:known x=true) (hsc:x.cells.all aH=true) (h:em s id (.rows 0 false x.cells.length [x.cells])=some s') :
 ∃ u ρ' w',(Instr.box t v).run P w = .ok u w'/\RS P fo base K ρ' s' w'/\Stp base K ρ s w K ρ' s' w'/\RV fo K ρ' (vo s') (.ptr id 0 0 0) u:=by
 obtain ⟨h1,h2,rfl⟩:=dx h
 obtain ⟨ρ',a1,a2,a3⟩:=qf (t:=t) hS h1 h2 (hx.cells (by rintro rfl;simp [known] at hk)) hsc
 exact ⟨_,ρ',_,by simp [Instr.box,newVar,newRow],a1,a2,a3⟩
theorem pg {t:TypeId} {id:Nat} (hS:RS P fo base K ρ s w) (h:em s id (.map [])=some s') :
 ∃ u ρ' w',(Instr.makeMap t none).run P w = .ok u w'/\RS P fo base K ρ' s' w'/\Stp base K ρ s w K ρ' s' w'/\RV fo K ρ' (vo s') (.map id) u:=by
 obtain ⟨h1,h2,rfl⟩:=dx h
 obtain ⟨a1,a2⟩:=hS.new (size:=0) (b := .map []) (o := .map #[] 0) h1 h2 (.map [] _ _ #[] 0 (World.alloc_heap_new w _) rfl (by simp) (fun o=>by
  cases hk:K w.heap.size o with
  | none=>rfl
  | some v =>
    obtain ⟨_,_,_,h1,_⟩:=hS.known _ _ _ hk
    have:=(Array.getElem?_eq_some_iff.1 h1).1
    omega))
 have key:RV fo K (placed ρ id w.heap.size 0) (vo (s.set id (some (.map [])))) (.map id) (.map (some (placed ρ id w.heap.size 0 id).1)) := .map id 0 (by rw [cC h1];simp)
 refine ⟨_,_,_,by simp [Instr.makeMap];rfl,a1,a2,?_⟩
 simpa [placed] using key
theorem fW {α:Type} (l m:List α) (o k:Nat) (h:o+m.length<=l.length):(l.take o++m++l.drop (o+m.length))[k]?=if o<=k/\k < o+m.length then m[k - o]? else l[k]?:=by
 by_cases h1:k < o
 · rw [if_neg (by omega),List.append_assoc,List.getElem?_append_left (by simp;omega),List.getElem?_take,if_pos h1]
 · by_cases h2:k < o+m.length
   · rw [if_pos ⟨by omega,h2⟩,List.append_assoc,List.getElem?_append_right (by simp;omega),List.getElem?_append_left (by simp;omega)]
     congr 1;simp;omega
   · rw [if_neg (by omega),List.getElem?_append_right (by simp;omega),List.getElem?_drop]
     congr 1;simp;omega
theorem oL (cs xs:List V) (j q:Nat) (h:j+xs.length<=cs.length):(splice cs j xs)[q]?=if j<=q/\q < j+xs.length then xs[q - j]? else cs[q]?:=fW cs xs j q h
theorem ki (cs xs:List V) (j:Nat) (h:j+xs.length<=cs.length):(splice cs j xs).length=cs.length:=by simp [splice];omega
theorem oK {t:TypeId} {n:Nat} {a x:V} {va vx:Value} (hS:RS P fo base K ρ s w) (hn:sizeT P t=some n) (ha:RV fo K ρ (vo s) a va) (hx:RV fo K ρ (vo s) x vx) (h:jt s n a x=some s') :
 ∃ w',(Instr.storeAt t va vx).run P w = .ok () w'/\RS P fo base K ρ s' w'/\Stp base K ρ s w K ρ s' w':=by
 unfold jt at h
 split at h<;>try (cases h;done)
 rename_i id ver i j
 obtain ⟨ad,v0,e',rfl,g1,g2⟩:=ha.ptr_inv
 split at h<;>try (cases h;done)
 rename_i v' esz els hb
 split at h<;>try (cases h;done)
 rename_i hc
 obtain ⟨rfl,hxn,hsc⟩:=hc
 split at h<;>try (cases h;done)
 rename_i cs hi
 split at h<;>try (cases h;done)
 rename_i hfit
 injection h with h;subst h
 have g1':=g1
 rw [bC hb] at g1';injection g1' with g1';injection g1' with q1 q2;subst q1;subst q2
 obtain ⟨_,rfl⟩:=g2 (Nat.le_refl _)
 have hkn:x ≠ .poison:=by
  rintro rfl;simp [V.cells,aH] at hsc
 have hcells:=hx.cells hkn
 have hcl:=hcells.length
 simp only [Array.length_toList] at hcl
 have hB:=(hS.blk id _ hb).1
 have hbase:=(hS.blk id _ hb).2
 generalize hp:ρ id=p at hB
 cases hB with
 | rows _ _ _ _ B size c ty h1 h2 h3 h4 h5 h6 =>
   have hcs:=h4 cs (List.mem_of_getElem? hi)
   have hilt:=(List.getElem?_eq_some_iff.1 hi).1
   have hmul:(i+1)*esz<=els.length*esz:=Nat.mul_le_mul_right _ hilt
   rw [Nat.add_mul,Nat.one_mul] at hmul
   have hone : ∀ v∈vx.cells.toList,v.oneCell'=true:=fun v hv=>by
    obtain ⟨k,hk,rfl⟩:=List.getElem_of_mem hv
    have hk':k < x.cells.length:=by rw [hcl];simpa using hk
    obtain ⟨u,e1,e2⟩:=hcells.get (List.getElem?_eq_getElem hk')
    rw [List.getElem?_eq_getElem hk] at e1;injection e1 with e1
    exact e1▸e2.cellV (List.all_eq_true.1 hsc _ (List.getElem_mem hk'))
   have hrun:=run_storeCells_at P B (i*esz+j) ty vx.cells.toList 0 c w h1 (by simp;omega) hone
   simp only [Nat.add_zero] at hrun
   have hrun':(Instr.storeAt t (.pointer (some ⟨B,i*esz+j,none⟩)) vx).run P w = .ok () (w.setRow B (c.toList.take (i*esz+j)++vx.cells.toList++c.toList.drop (i*esz+j+vx.cells.toList.length)).toArray):=by
    simp only [Instr.storeAt,Instr.sureAddr,Sem.run_bind,Sem.run_pure,Result.andThen_ok,storeVar,aP hn]
    rw [if_neg (by omega)]
    exact hrun
   refine ⟨_,hrun',?_⟩
   have hrow : ∀ k,(c.toList.take (i*esz+j)++vx.cells.toList++c.toList.drop (i*esz+j+vx.cells.toList.length)).toArray[k]?=if i*esz+j<=k/\k < i*esz+j+vx.cells.toList.length then vx.cells.toList[k - (i*esz+j)]? else c[k]?:=by
    intro k
    rw [List.getElem?_toArray,fW _ _ _ _ (by simp;omega)]
    simp
   refine hS.write hb g1 rfl (Nat.le_refl _) (fun _=>rfl) (by rw [hp];exact h6 rfl) ?_ (fun B' hB'=>setRow_other w B B' _ (by rw [hp] at hB';exact hB')) (setRow_size w B _) ?_
   · rw [hp];exact below_setRow (Below.refl _ _) (Nat.le_refl _) _
   · rw [hp]
     have hv:vo (s.set id (some (.rows v' false esz (els.set i (splice cs j x.cells)))))=vo s:=by
      funext q
      rw [cC (a8 hb)]
      split
      · rename_i hq;subst hq;exact g1.symm
      · rfl
     rw [hv]
     refine .rows _ _ _ _ B size _ ty (setRow_heap w B c _ ty (0,0) h1) (by simp;omega) (by simpa using h3) (fun r hr => ?_) (fun k r hr q y hy => ?_) h6
     · rcases List.mem_or_eq_of_mem_set hr with hr | rfl
       · exact h4 r hr
       · rw [ki _ _ _ (by omega)];exact hcs
     · rw [hrow]
       by_cases hki:k=i
       · subst hki
         simp [hilt] at hr;subst hr
         rw [oL _ _ _ _ (by omega)] at hy
         split at hy
         · rename_i hq
           obtain ⟨u,e1,e2⟩:=hcells.get hy
           rw [if_pos ⟨by omega,by simp;omega⟩,show k*esz+q - (k*esz+j)=q - j by omega]
           exact ⟨u,e1,e2,e2.cellV (List.all_eq_true.1 hsc y (List.mem_of_getElem? hy))⟩
         · rename_i hq
           rw [if_neg (by simp;omega)]
           exact h5 k cs hi q y hy
       · rw [List.getElem?_set_ne (Ne.symm hki)] at hr
         have hq:q < esz:=by rw [<- h4 r (List.mem_of_getElem? hr)];exact (List.getElem?_eq_some_iff.1 hy).1
         rw [if_neg ?_]
         · exact h5 k r hr q y hy
         · simp only [Array.length_toList]
           intro hh
           rcases Nat.lt_or_gt_of_ne hki with h | h
           · have:=Nat.mul_le_mul_right esz (show k+1<=i from h);rw [Nat.add_mul,Nat.one_mul] at this;omega
           · have:=Nat.mul_le_mul_right esz (show i+1<=k from h);rw [Nat.add_mul,Nat.one_mul] at this;omega
end Go.Proofs.YtncfpmehhfdipaaGreat
namespace Go.Proofs.YtncfpmehhfdipaaGreat
open Go.RowKit
variable {P:Program} {fo:Nat->Option FuncId} {K:aS} {ρ:ax} {w:World} {tr:FuncId->Option Nat} {base:Nat} {s s':aa}
theorem jA {t:TypeId} {n:Nat} (h:fT P t=some n) (w:World) : ∃ i,(typeInfo t).run P w = .ok i w/\i.bytes=n:=by
 unfold fT at h
 cases hi:P.info? t with
 | none=>simp [hi] at h
 | some i=>simp [hi] at h;exact ⟨i,by simp [typeInfo,hi],h⟩
theorem fu {zero:Array Value} {l esz:Nat} (hz:zero.size=esz) {i j:Nat} (hi:i < l) (hj:j < esz) :
 ((Array.range (l*esz)).map (zero[· % zero.size]!))[i*esz+j]?=some zero[j]! := by
 have h1:i*esz+j < l*esz:=by
  have:=Nat.mul_le_mul_right esz (show i+1<=l from hi);rw [Nat.add_mul,Nat.one_mul] at this;omega
 have h2:(i*esz+j)%esz=j:=by rw [Nat.add_comm,Nat.add_mul_mod_self_right,Nat.mod_eq_of_lt hj]
 simp [h1,hz,h2]
theorem jD {n bytes:Nat} (h:au n bytes=true):(2*n+768)*bytes<=2 ^ 47/\n<=2 ^ 46:=by simpa [au] using h
theorem jm {n:Nat} (h:n < 2 ^ 62):IntKind.i64.wrap (n:Int)=n:=by
 have h1:(n:Int)%2 ^ 64=n:=by omega
 simp only [IntKind.wrap,IntKind.bits,IntKind.signed,h1]
 rw [if_neg]
 simp
 omega
theorem lC (htr : ∀ g f,tr g=some f->fo f=some g) {t e:TypeId} {esz bytes l c id:Nat} {z:List V} {vl vc:Value} {xl xc:V} (hS:RS P fo base K ρ s w) (hu:P.underlying t=some (.slice e)) (hs:sizeT P e=some esz) (hb:fT P e=some bytes) (hz:zeroT P tr e=some z)
 (h0:0 < esz) (hzl:z.length=esz) (hl:RV fo K ρ (vo s) xl vl) (hc:RV fo K ρ (vo s) xc vc) (il:idx xl=some l) (ic:idx xc=some c) (hlc:l<=c) (hr:au c bytes=true) (hsc:z.all aH=true)
 (h:em s id (.rows 0 false esz (aL l z))=some s') :
 ∃ u ρ' w',(Instr.makeSlice t vl vc).run P w = .ok u w'/\RS P fo base K ρ' s' w'/\Stp base K ρ s w K ρ' s' w'/\RV fo K ρ' (vo s') (.ms id 0 0 l) u:=by
 obtain ⟨n1,n2,rfl⟩:=dx h
 obtain ⟨ql,rfl⟩:=eL hl il
 obtain ⟨qc,rfl⟩:=eL hc ic
 obtain ⟨v,e1,e2⟩:=b9 (fo:=fo) (K:=K) (ρ:=ρ) (vv:=vo s) htr hz w
 obtain ⟨i,b1,b2⟩:=jA hb w
 obtain ⟨hr,hcl⟩:=jD hr
 have hsz:v.cells.size=esz:=by rw [<- hzl,e2.length];simp
 have hbc:bytes*c<=2 ^ 47:=by
  have:bytes*c<=(2*c+768)*bytes:=by rw [Nat.mul_comm];exact Nat.mul_le_mul_right _ (by omega)
  omega
 obtain ⟨h1,h2⟩:=gY (t:=e) (c:=(Array.range (c*esz)).map (v.cells[· % v.cells.size]!)) (els:=aL l z) (esz:=esz) hS n1 n2
  (by simp [aL];exact Nat.mul_le_mul_right _ hlc) (by intro r hr;simp [aL] at hr;rw [hr.2,hzl]) (fun i r hi j x hj=>by
   simp only [aL,List.getElem?_replicate] at hi
   split at hi<;>try (cases hi;done)
   rename_i hil
   injection hi with hi;subst hi
   obtain ⟨u,a1,a2⟩:=e2.get hj
   have hjl:=(List.getElem?_eq_some_iff.1 hj).1
   refine ⟨v.cells[j]!,fu hsz (by omega) (by omega),?_⟩
   have:v.cells[j]! = u:=by
    rw [Array.getElem?_toList] at a1
    simp [getElem!_def,a1]
   rw [this]
   exact ⟨a2,a2.cellV (List.all_eq_true.1 hsc x (List.mem_of_getElem? hj))⟩)
 refine ⟨.slice (some ⟨w.heap.size,0,none⟩) l c,_,_,?_,h1,h2,?_⟩
 · have hw1:=jm (n:=l) (by omega)
   have hw2:=jm (n:=c) (by omega)
   have hbi:¬ ((i.bytes:Int)*(c:Int) > 2 ^ 48):=by
    rw [b2,<- Int.natCast_mul]
    omega
   simp only [Instr.makeSlice,Sem.run_bind,run_underlying hu,Result.andThen_ok,asInt,asIntOf,Sem.run_pure,b1,hw1,hw2]
   rw [if_neg (by simp only [Bool.or_eq_true,decide_eq_true_eq];omega)]
   have hroom:(askRoom ((c:Int).toNat*i.bytes)).run P w = .ok () w:=by
    unfold askRoom
    rw [if_neg (by simp only [Int.toNat_natCast,b2,roomBytes];rw [Nat.mul_comm];omega)]
    rfl
   simp only [Sem.run_bind,hroom,Result.andThen_ok,aP hs,Int.toNat_natCast]
   by_cases hce:c*esz=0
   · rw [if_pos hce]
     have h00:Array.range 0 = #[]:=rfl
     simp [newRow,hce,h00]
   · rw [if_neg hce]
     simp [Sem.run_bind,e1,newRow]
 · refine .ms _ _ _ _ 0 esz _ _ _ (by rw [cC n1];simp) fun _=>⟨rfl,by simp [placed],rfl,hlc,?_⟩
   simp [placed]
end Go.Proofs.YtncfpmehhfdipaaGreat
namespace Go.Proofs.YtncfpmehhfdipaaGreat
open Go.RowKit
variable {P:Program} {fo:Nat->Option FuncId} {K:aS} {ρ:ax} {w:World} {tr:FuncId->Option Nat} {base:Nat} {s s':aa} {vv:Nat->Option (Nat×Nat)}
theorem fI {esz:Nat} : ∀ {rows:List (List V)} {L:List Value},(∀ r∈rows,r.length=esz)->L.length=rows.length*esz ->
 (∀ (i:Nat) r,rows[i]?=some r -> ∀ (j:Nat) x,r[j]?=some x -> ∃ v,L[i*esz+j]?=some v/\RV fo K ρ vv x v)->RVs fo K ρ vv rows.flatten L
 | [],L,_,hl,_=>by
   have:L=[]:=by simpa using hl
   subst this;exact .nil
 | r::rows,L,hw,hl,h=>by
   have hr:=hw r (by simp)
   simp only [List.length_cons,Nat.succ_mul] at hl
   rw [List.flatten_cons,<- List.take_append_drop esz L]
   refine RVs.append (.of_get (by simp;omega) fun j x v hx hv => ?_) (fI (fun r hr=>hw r (by simp [hr])) (by simp;omega) fun i r' hi j x hx => ?_)
   · obtain ⟨u,e1,e2⟩:=h 0 r (by simp) j x hx
     simp only [List.getElem?_take] at hv
     split at hv<;>try (cases hv;done)
     simp at e1;rw [hv] at e1;injection e1 with e1;exact e1▸e2
   · obtain ⟨u,e1,e2⟩:=h (i+1) r' (by simpa using hi) j x hx
     exact ⟨u,by rw [List.getElem?_drop,<- e1];congr 1;rw [Nat.add_mul];omega,e2⟩
theorem iQ {esz:Nat} : ∀ {rows:List (List V)} {L:List Value},(∀ r∈rows,r.length=esz)->RVs fo K ρ vv rows.flatten L ->
 L.length=rows.length*esz /\ ∀ (i:Nat) r,rows[i]?=some r -> ∀ (j:Nat) x,r[j]?=some x -> ∃ v,L[i*esz+j]?=some v/\RV fo K ρ vv x v
 | [],L,_,h=>by cases h;simp
 | r::rows,L,hw,h=>by
   have hr:=hw r (by simp)
   have hl:=h.length
   rw [List.flatten_cons] at h hl
   simp only [List.length_append] at hl
   have h1:=h.take esz
   have h2:=h.drop esz
   rw [<- hr,List.take_left'] at h1
   rw [<- hr,List.drop_left'] at h2
   all_goals (try rfl)
   rw [hr] at h1 h2
   obtain ⟨g1,g2⟩:=iQ (fun r hr=>hw r (by simp [hr])) h2
   simp at g1
   refine ⟨by simp [Nat.succ_mul];omega,fun i r' hi j x hx => ?_⟩
   cases i with
   | zero =>
     simp at hi;subst hi
     obtain ⟨v,e1,e2⟩:=h1.get hx
     simp only [List.getElem?_take] at e1
     split at e1<;>try (cases e1;done)
     exact ⟨v,by simpa using e1,e2⟩
   | succ i =>
     obtain ⟨v,e1,e2⟩:=g2 i r' (by simpa using hi) j x hx
     exact ⟨v,by rw [<- e1,List.getElem?_drop];congr 1;rw [Nat.add_mul];omega,e2⟩
theorem iA {esz:Nat} {y:V} {v:Value} {ys:List (List V)} (hS:RS P fo base K ρ s w) (h0:0 < esz) (hy:RV fo K ρ (vo s) y v) (h:cM s esz y=some ys) :
 ∃ a cap vs,v = .slice a ys.length cap/\ys.length<=cap/\(∀ w':World,w'.heap=w.heap->(Builtin.firstCells esz ys.length v).run P w' = .ok vs w')/\RVs fo K ρ (vo s) ys.flatten vs.toList/\(∀ r∈ys,r.length=esz)/\(∀ v∈vs.toList,v.oneCell'=true):=by
 have empty : ∀ a cap,v = .slice a 0 cap->ys=[] -> ∃ a cap vs,v = .slice a ys.length cap/\ys.length<=cap/\(∀ w':World,w'.heap=w.heap->(Builtin.firstCells esz ys.length v).run P w' = .ok vs w')/\RVs fo K ρ (vo s) ys.flatten vs.toList/\(∀ r∈ys,r.length=esz)/\(∀ v∈vs.toList,v.oneCell'=true):=by
  rintro a cap rfl rfl
  refine ⟨a,cap,#[],rfl,by simp,fun w' _ => ?_,.nil,by simp,by simp⟩
  cases a<;>simp [Builtin.firstCells,loadCells,loadCellsFrom]
 have imm : ∀ es,(y = .d (.slice es)\/y = .lit es)->(if wide esz es then some (es.map fun e=>e.cells.map V.d) else none)=some ys -> ∃ a cap vs,v = .slice a ys.length cap/\ys.length<=cap/\(∀ w':World,w'.heap=w.heap->(Builtin.firstCells esz ys.length v).run P w' = .ok vs w')/\RVs fo K ρ (vo s) ys.flatten vs.toList/\(∀ r∈ys,r.length=esz)/\(∀ v∈vs.toList,v.oneCell'=true):=by
  intro es hes hq
  split at hq<;>try (cases hq;done)
  rename_i hw
  injection hq with hq
  by_cases hz:es=[]
  · subst hz
    have hd:=hy.slice_inv hes
    cases hd with
    | sliceE a cap hc0=>exact empty a cap rfl (by simpa using hq.symm)
    | slice _ _ _ _ _ _ h0=>exact absurd rfl h0
  · obtain ⟨d,hd⟩:=List.exists_mem_of_ne_nil es hz
    obtain ⟨k,hk,rfl⟩:=List.getElem_of_mem hd
    obtain ⟨B,o,cap,esz',vs,rfl,g1,g2,g3,g4,g5⟩:=(hy.slice_inv hes).slice_at (List.getElem?_eq_getElem hk)
    have he:esz'=esz:=by
     have h1:=g3 _ hd
     simp only [wide,List.all_eq_true,beq_iff_eq] at hw
     rw [<- h1,hw _ hd]
    subst he
    have hl:vs.length=es.length*esz':=by rw [<- g4.length,iR g3]
    subst hq
    refine ⟨some ⟨B,o,none⟩,cap,vs.toArray,by simp,by simpa using g1,fun w' hw' => ?_,?_,by simpa using g3,fun v hv => ?_⟩
    · have:=(hS.world hw').kread (n:=es.length*esz') g5 (by omega)
      simp only [Builtin.firstCells,List.length_map]
      rw [this,List.take_of_length_le (by omega)]
    · have:(es.map fun e=>e.cells.map V.d).flatten=(es.flatMap D.cells).map V.d:=by
       simp [List.flatMap,List.map_flatten];rfl
      rw [this]
      exact RVs.of_d g4
    · obtain ⟨k,hk,rfl⟩:=List.getElem_of_mem hv
      exact hS.one _ _ _ (g5 k _ (List.getElem?_eq_getElem hk))
 unfold cM at h
 split at h
 · injection h with h;cases hy;exact empty _ _ rfl h.symm
 · injection h with h;cases hy;exact empty _ _ rfl h.symm
 · injection h with h;cases hy;exact empty _ _ rfl h.symm
 · exact imm _ (.inl rfl) h
 · exact imm _ (.inr rfl) h
 · rename_i id ver off len
   obtain ⟨a,n,cap,v0,e',rfl,g1,g2⟩:=hy.ms_inv
   split at h<;>try (cases h;done)
   rename_i v' ro n' els hb
   split at h<;>try (cases h;done)
   rename_i hc
   obtain ⟨rfl,rfl,hle⟩:=hc
   injection h with h;subst h
   rw [bC hb] at g1;injection g1 with g1;injection g1 with q1 q2;subst q1;subst q2
   obtain ⟨_,rfl,rfl,k1,k2⟩:=g2 (Nat.le_refl _)
   have hB:=(hS.blk id _ hb).1
   generalize hp:ρ id=p at hB k2 ⊢
   cases hB with
   | rows _ _ _ _ B size c ty h1 h2 h3 h4 h5 h6 =>
     have hlen:((els.drop off).take n).length=n:=by simp;omega
     have hmul:(off+n)*n'<=els.length*n':=Nat.mul_le_mul_right _ hle
     rw [Nat.add_mul] at hmul
     have hLl:((c.toList.drop (off*n')).take (n*n')).length=n*n':=by simp;omega
     refine ⟨_,cap,((c.toList.drop (off*n')).take (n*n')).toArray,by rw [hlen],by omega,fun w' hw' => ?_,?_,fun r hr=>h4 r (List.mem_of_mem_drop (List.mem_of_mem_take hr)),fun v hv => ?_⟩
     · have:=run_loadCells_list (P:=P) w' ⟨B,off*n',none⟩ ((c.toList.drop (off*n')).take (n*n')) (fun j v hv=>by
        rw [bm]
        simp only [List.getElem?_take,List.getElem?_drop] at hv
        split at hv<;>try (cases hv;done)
        exact nE (by rw [hw'];exact h1) (by simpa using hv))
       rw [hLl] at this
       simp only [Builtin.firstCells,hlen]
       exact this
     · refine fI (esz:=n') (fun r hr=>h4 r (List.mem_of_mem_drop (List.mem_of_mem_take hr))) (by rw [hLl,hlen]) fun i r hi j x hx => ?_
       simp only [List.getElem?_take,List.getElem?_drop] at hi
       split at hi<;>try (cases hi;done)
       rename_i hin
       obtain ⟨u,e1,e2,_⟩:=h5 _ r hi j x hx
       have hj:j < n':=by rw [<- h4 r (List.mem_of_getElem? hi)];exact (List.getElem?_eq_some_iff.1 hx).1
       have:i*n'+j < n*n':=by
        have:=Nat.mul_le_mul_right n' (show i+1<=n from hin);rw [Nat.add_mul,Nat.one_mul] at this;omega
       refine ⟨u,?_,e2⟩
       simp only [List.getElem?_take,List.getElem?_drop,this,if_true]
       rw [<- e1,Nat.add_mul]
       simp [Nat.add_assoc]
     · have hm:=List.mem_of_mem_drop (List.mem_of_mem_take hv)
       obtain ⟨k,hk,rfl⟩:=List.getElem_of_mem hv
       have hk':k < n*n':=by rw [<- hLl];exact hk
       have hi:off+k/n' < els.length:=by
        have:k/n' < n:=Nat.div_lt_of_lt_mul (by rw [Nat.mul_comm];exact hk')
        omega
       have hj:k%n' < els[off+k/n'].length:=by rw [h4 _ (List.getElem_mem hi)];exact Nat.mod_lt _ h0
       obtain ⟨u,e1,_,e3⟩:=h5 _ _ (List.getElem?_eq_getElem hi) _ _ (List.getElem?_eq_getElem hj)
       have:(off+k/n')*n'+k%n'=off*n'+k:=by
        rw [Nat.add_mul,Nat.add_assoc,Nat.mul_comm (k/n'),Nat.div_add_mod]
       rw [this] at e1
       have e4:((c.toList.drop (off*n')).take (n*n'))[k]?=some u:=by
        rw [List.getElem?_take,if_pos hk',List.getElem?_drop,Array.getElem?_toList];exact e1
       rw [List.getElem?_eq_getElem hk] at e4
       injection e4 with e4
       rw [e4];exact e3
 · cases h
theorem pe (need cap:Nat) (h:cap < need):Builtin.nextslicecap need cap<=2*need+768:=by
 have grow : ∀ (r c:Nat),c < need+need/4+192+1->Builtin.growBy need r c<=2*need+768:=by
  intro r
  induction r with
  | zero=>intro c hc;simp [Builtin.growBy];omega
  | succ r ih =>
    intro c hc
    simp only [Builtin.growBy]
    split
    · omega
    · exact ih _ (by omega)
 unfold Builtin.nextslicecap
 split
 · omega
 · split
   · omega
   · exact grow 4 cap (by omega)
theorem i8 {sT xT ty e e':TypeId} {esz:Nat} {a:Option Addr} {len cap n:Nat} {y:Value} {new:Array Value} (hu:P.underlying sT=some (.slice e)) (hu':P.underlying xT=some (.slice e')) (hs:sizeT P e=some esz)
 (hy : ∃ b cy,y = .slice b n cy) (hnew:(Builtin.firstCells esz n y).run P w = .ok new w) (hfit:len+n<=cap) :
 (Builtin.append_ #[sT,xT] ty #[.slice a len cap,y]).run P w=((match a with | some a=>storeCells (a.add (len*esz)) new.toList | none=>pure ():Sem Unit).run P w).andThen fun _ w' => .ok (.slice a (len+n) cap) w':=by
 obtain ⟨b,cy,rfl⟩:=hy
 simp only [Builtin.append_]
 simp [run_underlying hu,run_underlying hu',aP hs,Builtin.lenOf,hnew,hfit]
 cases a<;>simp
theorem mb {sT xT ty e e':TypeId} {esz bytes:Nat} {a:Option Addr} {len cap n:Nat} {y:Value} {old new:Array Value} {z:List V} (hu:P.underlying sT=some (.slice e)) (hu':P.underlying xT=some (.slice e')) (hs:sizeT P e=some esz) (hb:fT P e=some bytes)
 (hz:zeroT P tr e=some z) (hzl:z.length=esz) (hy : ∃ b cy,y = .slice b n cy)
 (hold : ∀ w',w'.heap=w.heap->(Builtin.firstCells esz len (.slice a len cap)).run P w' = .ok old w') (hnew : ∀ w',w'.heap=w.heap->(Builtin.firstCells esz n y).run P w' = .ok new w')
 (hfit:cap < len+n) (hr:au (len+n) bytes=true) :
 ∃ (w':World) (newCap:Nat) (rest:Array Value),(Builtin.append_ #[sT,xT] ty #[.slice a len cap,y]).run P w = .ok (.slice (some ⟨w.heap.size,0,none⟩) (len+n) newCap) (w'.alloc (.cells (old++new++rest) e)) /\
   w'.heap=w.heap/\w'.os=w.os/\w'.tape=w.tape/\w'.output=w.output/\len+n<=newCap/\rest.size=(newCap - (len+n))*esz:=by
 obtain ⟨b,cy,rfl⟩:=hy
 obtain ⟨r1,r2⟩:=jD hr
 obtain ⟨i,b1,b2⟩:=jA hb w
 have hinfo:P.info? e=some i:=by
  unfold typeInfo at b1
  simp [Sem.run_bind] at b1
  split at b1<;>simp_all
 have hbb:bytes*(2*(len+n)+768)<=2 ^ 47:=by rw [Nat.mul_comm];exact r1
 have hnc:Builtin.nextslicecap (len+n) cap*bytes<=2 ^ 47:=by
  have:=Nat.mul_le_mul_right bytes (pe (len+n) cap hfit)
  omega
 obtain ⟨v,z1⟩ : ∃ v,i.zero=some v:=by
  unfold zeroT at hz
  cases hq:i.zero with
  | none=>simp [hinfo,hq] at hz
  | some v=>exact ⟨v,rfl⟩
 have z2:v.cells.size=z.length:=by
  unfold zeroT at hz
  simp [hinfo,z1] at hz
  rw [<- hz];simp
 have hzv : ∀ w,(zeroValue e).run P w = .ok v w:=fun w=>by simp [zeroValue,typeInfo,hinfo,z1]
 let w':World := { w with drawn:=w.drawn+1 }
 let nc:=Question.cut (.appendCap (len+n) cap e) (w.tape w.drawn (.appendCap (len+n) cap e))
 have hch:(choose (.appendCap (len+n) cap e)).run P w = .ok nc w':=by
  simp [choose,Sem.run,Question.forced,nc,w']
 have hle:len+n<=nc:=by simp only [nc,Question.cut];omega
 have hroom : ∀ (w:World) k,(askRoom k).run P w = .ok () w:=fun w k=>by unfold askRoom;split<;>rfl
 refine ⟨w',nc,Builtin.zeroCells v.cells (nc - (len+n)),?_,rfl,rfl,rfl,rfl,hle,by simp [Builtin.zeroCells,z2,hzl]⟩
 have ho:=hold w' rfl
 have hn:=hnew w' rfl
 have hti : ∀ w,(typeInfo e).run P w = .ok i w:=fun w=>by simp [typeInfo,hinfo]
 have hbi:¬ (Builtin.nextslicecap (len+n) cap*i.bytes > 2 ^ 48):=by rw [b2];omega
 have hmx:¬ ((len+n:Nat):Int) > IntKind.i64.max:=by simp only [IntKind.max,IntKind.signed,IntKind.bits];simp;omega
 simp only [Builtin.append_,List.getElem?_toArray,Sem.run_bind,run_underlying hu,run_underlying hu',Result.andThen_ok,aP hs,Builtin.lenOf,Sem.run_pure]
 simp only [List.size_toArray,List.length_cons,List.length_nil,List.getElem?_cons_zero,List.getElem?_cons_succ,Sem.run_bind,run_underlying hu,run_underlying hu',Result.andThen_ok,aP hs,Builtin.lenOf,Sem.run_pure,Bool.false_eq_true,if_false,Bool.not_false,if_true]
 rw [if_neg (by omega)]
 simp only [Sem.run_bind,hti,Result.andThen_ok]
 rw [if_neg (by intro h;exact hmx h.1)]
 simp only [Sem.run_bind,hti,Result.andThen_ok]
 rw [if_neg hbi]
 simp only [Sem.run_bind,hch,hti,hroom,ho,hn,hzv,Result.andThen_ok,newRow,Sem.run_pure]
 rfl
theorem nf {sT xT ty e e':TypeId} {esz bytes id:Nat} {x y r:V} {vx vy:Value} {z:List V} (hS:RS P fo base K ρ s w) (hu:P.underlying sT=some (.slice e)) (hu':P.underlying xT=some (.slice e')) (hs:sizeT P e=some esz) (hb:fT P e=some bytes)
 (hz:zeroT P tr e=some z) (hzl:z.length=esz) (h0:0 < esz) (hx:RV fo K ρ (vo s) x vx) (hy:RV fo K ρ (vo s) y vy) (h:cT s id esz bytes x y=some (r,s')) :
 ∃ u ρ' w',(Builtin.append_ #[sT,xT] ty #[vx,vy]).run P w = .ok u w'/\RS P fo base K ρ' s' w'/\Stp base K ρ s w K ρ' s' w'/\RV fo K ρ' (vo s') r u:=by
 unfold cT at h
 split at h<;>try (cases h;done)
 rename_i ys hys
 obtain ⟨ay,cy,vs,rfl,y1,y2,y3,y4,y5⟩:=iA hS h0 hy hys
 obtain ⟨f1,f2⟩:=iQ y4 y3
 have grows : ∀ (a:Option Addr) (len cap:Nat) (rows:List (List V)) (old:Array Value),vx = .slice a len cap->rows.length=len->(∀ r∈rows,r.length=esz)->cap < len+ys.length->au (len+ys.length) bytes=true ->
  (∀ w':World,w'.heap=w.heap->(Builtin.firstCells esz len (.slice a len cap)).run P w' = .ok old w')->RVs fo K ρ (vo s) rows.flatten old.toList ->
  ∃ (newCap:Nat) (w1:World) (cells:Array Value),(Builtin.append_ #[sT,xT] ty #[vx,.slice ay ys.length cy]).run P w = .ok (.slice (some ⟨w.heap.size,0,none⟩) (len+ys.length) newCap) (w1.alloc (.cells cells e)) /\
    w1.heap=w.heap/\Below base w w1/\len+ys.length<=newCap/\cells.size=newCap*esz /\
    (∀ (i:Nat) r,(rows++ys)[i]?=some r -> ∀ (j:Nat) x,r[j]?=some x -> ∃ v,cells[i*esz+j]?=some v/\RV fo K ρ (vo s) x v/\((∀ v∈old.toList,v.oneCell'=true)->v.oneCell'=true)):=by
  rintro a len cap rows old rfl hrl hrw hlt hr hold hrv
  obtain ⟨w1,nc,rest,g1,g2,g3,g4,g5,g6,g7⟩:=mb (ty:=ty) (tr:=tr) (w:=w) (a:=a) (len:=len) (cap:=cap) (old:=old) (new:=vs) hu hu' hs hb hz hzl ⟨ay,cy,rfl⟩ hold y2 hlt hr
  obtain ⟨o1,o2⟩:=iQ hrw hrv
  simp only [Array.length_toList] at o1 f1
  refine ⟨nc,w1,_,g1,g2,⟨g3,g4,g5,by rw [g2];exact Nat.le_refl _,fun k _=>by rw [g2]⟩,g6,?_,fun i r hi j x hj => ?_⟩
  · simp only [Array.size_append,o1,f1,g7,hrl]
    rw [<- Nat.add_mul,<- Nat.add_mul];congr 1;omega
  · have hmul : ∀ i m:Nat,i < m->j < esz->i*esz+j < m*esz:=fun i m him hj=>by
     have:=Nat.mul_le_mul_right esz (show i+1<=m from him);rw [Nat.add_mul,Nat.one_mul] at this;omega
    by_cases hir:i < rows.length
    · rw [List.getElem?_append_left hir] at hi
      obtain ⟨v,e1,e2⟩:=o2 i r hi j x hj
      have hjl:j < esz:=by rw [<- hrw r (List.mem_of_getElem? hi)];exact (List.getElem?_eq_some_iff.1 hj).1
      refine ⟨v,?_,e2,fun ho=>ho v (List.mem_of_getElem? e1)⟩
      rw [<- Array.getElem?_toList,Array.toList_append,Array.toList_append,List.append_assoc,List.getElem?_append_left (by simp only [Array.length_toList,o1];exact hmul _ _ hir hjl)]
      exact e1
    · rw [List.getElem?_append_right (by omega)] at hi
      obtain ⟨v,e1,e2⟩:=f2 _ r hi j x hj
      have hjl:j < esz:=by rw [<- y4 r (List.mem_of_getElem? hi)];exact (List.getElem?_eq_some_iff.1 hj).1
      have hik:=(List.getElem?_eq_some_iff.1 hi).1
      refine ⟨v,?_,e2,fun _=>y5 v (List.mem_of_getElem? e1)⟩
      have hsplit:i*esz+j=rows.length*esz+((i - rows.length)*esz+j):=by
       have:i*esz=rows.length*esz+(i - rows.length)*esz:=by rw [<- Nat.add_mul];congr 1;omega
       omega
      rw [<- Array.getElem?_toList,Array.toList_append,Array.toList_append,List.append_assoc,List.getElem?_append_right (by simp only [Array.length_toList,o1];omega),List.getElem?_append_left (by simp only [Array.length_toList,o1,f1];have:=hmul _ _ hik hjl;omega)]
      simp only [Array.length_toList,o1]
      rw [show i*esz+j - rows.length*esz=(i - rows.length)*esz+j by omega]
      exact e1
 have fresh : ∀ (a:Option Addr) (len cap:Nat) (rows:List (List V)) (old:Array Value),vx = .slice a len cap->rows.length=len->(∀ r∈rows,r.length=esz)->cap < len+ys.length->au (len+ys.length) bytes=true ->
  (∀ w':World,w'.heap=w.heap->(Builtin.firstCells esz len (.slice a len cap)).run P w' = .ok old w')->RVs fo K ρ (vo s) rows.flatten old.toList->((rows++ys).all fun r=>r.length==esz&&r.all aH)=true ->
  (em s id (.rows 0 false esz (rows++ys))).map (fun s=>(V.ms id 0 0 (rows++ys).length,s))=some (r,s') ->
  ∃ u ρ' w',(Builtin.append_ #[sT,xT] ty #[vx,.slice ay ys.length cy]).run P w = .ok u w'/\RS P fo base K ρ' s' w'/\Stp base K ρ s w K ρ' s' w'/\RV fo K ρ' (vo s') r u:=by
  intro a len cap rows old e1 hrl hrw hlt hr hold hrv hall h
  obtain ⟨nc,w1,cells,g1,g2,g3,g4,g5,g6⟩:=grows a len cap rows old e1 hrl hrw hlt hr hold hrv
  cases hq:em s id (.rows 0 false esz (rows++ys)) with
  | none=>simp [hq] at h
  | some s2 =>
    simp [hq] at h
    obtain ⟨rfl,rfl⟩:=h
    obtain ⟨n1,n2,rfl⟩:=dx hq
    simp only [List.all_eq_true,Bool.and_eq_true,beq_iff_eq] at hall
    obtain ⟨b1,b2⟩:=gY (t:=e) (c:=cells) (els:=rows++ys) (esz:=esz) (hS.world g2) n1 n2 (by rw [g5];simp only [List.length_append,hrl];exact Nat.mul_le_mul_right _ g4) (fun r hr=>(hall r hr).1) (fun i r hi j x hj=>by
     obtain ⟨v,a1,a2,_⟩:=g6 i r hi j x hj
     have hm:=List.mem_of_getElem? hi
     exact ⟨v,a1,a2,a2.cellV ((hall r hm).2 x (List.mem_of_getElem? hj))⟩)
    refine ⟨_,_,_,g1,b1,(Stp.world g3 g2).trans b2,.ms _ _ _ _ 0 esz _ _ _ (by rw [cC n1];simp) fun _=>⟨rfl,by simp [placed,g2],by simp [hrl],by simp [hrl];exact g4,by simp [placed,g5]⟩⟩
 have same:ys=[] -> ∀ a len cap,vx = .slice a len cap->len<=cap->RV fo K ρ (vo s) r vx->s'=s ->
  ∃ u ρ' w',(Builtin.append_ #[sT,xT] ty #[vx,.slice ay ys.length cy]).run P w = .ok u w'/\RS P fo base K ρ' s' w'/\Stp base K ρ s w K ρ' s' w'/\RV fo K ρ' (vo s') r u:=by
  rintro rfl a len cap rfl hle hr rfl
  have hvs:vs = #[]:=by simpa using f1
  subst hvs
  have:=i8 (ty:=ty) (w:=w) (a:=a) (len:=len) (cap:=cap) (y := .slice ay 0 cy) (new := #[]) hu hu' hs ⟨ay,cy,rfl⟩ (y2 w rfl) (by simpa using hle)
  refine ⟨_,ρ,w,?_,hS,.refl,hr⟩
  simp only [List.length_nil]
  rw [this]
  cases a<;>simp [storeCells]
 have bare : ∀ a,vx = .slice a 0 0->RV fo K ρ (vo s) x vx->(if ys=[] then some (x,s) else if (ys.all (fun r=>r.length==esz&&r.all aH)&&au ys.length bytes)=true then (em s id (.rows 0 false esz ys)).map fun s=>(V.ms id 0 0 ys.length,s) else none)=some (r,s') ->
  ∃ u ρ' w',(Builtin.append_ #[sT,xT] ty #[vx,.slice ay ys.length cy]).run P w = .ok u w'/\RS P fo base K ρ' s' w'/\Stp base K ρ s w K ρ' s' w'/\RV fo K ρ' (vo s') r u:=by
  intro a e1 hx h
  split at h
  · rename_i hys0
    injection h with h;injection h with q1 q2
    exact same hys0 a 0 0 e1 (Nat.le_refl _) (q1▸hx) q2.symm
  · rename_i hys0
    split at h<;>try (cases h;done)
    rename_i hc
    simp only [Bool.and_eq_true] at hc
    have hpos:0 < ys.length:=List.length_pos_iff.2 hys0
    exact fresh a 0 0 [] #[] e1 rfl (by simp) (by omega) (by simpa using hc.2) (fun w' _=>by cases a<;>simp [Builtin.firstCells,loadCells,loadCellsFrom]) .nil hc.1 h
 split at h
 · cases hx;exact bare none rfl .nils h
 · cases hx;exact bare _ rfl (.emp _) h
 · rename_i es
   split at h
   · rename_i hys0
     injection h with h;injection h with q1 q2
     cases hx with | lit _ a hd =>
     exact same hys0 (some a) es.length es.length rfl (Nat.le_refl _) (q1 ▸ .lit es a hd) q2.symm
   · rename_i hys0
     dsimp only at h
     split at h<;>try (cases h;done)
     rename_i hc
     simp only [Bool.and_eq_true] at hc
     have hw:wide esz es=true:=by
      simp only [wide,List.all_eq_true,beq_iff_eq]
      intro d hd
      have:=List.all_eq_true.1 hc.1 (d.cells.map V.d) (by simp;exact .inl ⟨d,hd,rfl⟩)
      simp at this
      exact this.1
     obtain ⟨a,cx,old,o0,o1,o2,o3,o4,o5⟩:=iA (esz:=esz) (ys:=es.map fun e=>e.cells.map V.d) hS h0 hx (by simp [cM,hw])
     have hpos:0 < ys.length:=List.length_pos_iff.2 hys0
     have hcx:cx=es.length:=by
      cases hx with | lit _ a' hd=>injection o0 with _ _ q;exact q.symm
     subst hcx
     simp only [List.length_map] at o0 o2
     rw [o0] at o2
     exact fresh a es.length es.length _ old o0 (by simp) o4 (by omega) (by simpa using hc.2) o2 o3 hc.1 h
 · rename_i b ver off len
   split at h<;>try (cases h;done)
   rename_i v' n els hb
   split at h<;>try (cases h;done)
   rename_i hc
   obtain ⟨rfl,rfl,hle⟩:=hc
   have hx':=hx
   obtain ⟨a,m,cap,v0,e',rfl,g1,g2⟩:=hx'.ms_inv
   rw [bC hb] at g1;injection g1 with g1;injection g1 with q1 q2;subst q1;subst q2
   obtain ⟨_,rfl,rfl,k1,k2⟩:=g2 (Nat.le_refl _)
   split at h
   · rename_i hys0
     injection h with h;injection h with q1 q2
     exact same hys0 _ m cap rfl k1 (q1▸hx) q2.symm
   · rename_i hys0
     split at h<;>try (cases h;done)
     rename_i hcond
     obtain ⟨rfl,hall,hroom⟩:=hcond
     injection h with h;injection h with q1 q2;subst q1;subst q2
     have hpos:0 < ys.length:=List.length_pos_iff.2 hys0
     simp only [List.all_eq_true,Bool.and_eq_true,beq_iff_eq] at hall
     have hwid : ∀ r∈els.take m++ys,r.length=n:=fun r hr=>by
      rcases List.mem_append.1 hr with hr | hr
      · have hB:=(hS.blk b _ hb).1
        cases hB':ρ b with | mk B size =>
        rw [hB'] at hB
        cases hB with | rows _ _ _ _ _ _ c t h1 h2 h3 h4 h5 h6=>exact h4 r (List.mem_of_mem_take hr)
      · exact y4 r hr
     have htk:(els.take m).length=m:=by simp;omega
     by_cases hfit:m+ys.length<=cap
     ·
      have hB:=(hS.blk b _ hb).1
      cases hB':ρ b with | mk B size =>
      rw [hB'] at hB k2
      cases hB with
      | rows _ _ _ _ _ _ c t h1 h2 h3 h4 h5 h6 =>
        simp only [Nat.zero_add] at k2
        have hsz:m*n+ys.length*n<=c.size:=by
         have:=Nat.mul_le_mul_right n hfit;rw [Nat.add_mul] at this;omega
        have hrun:=run_storeCells_at P B (m*n) t vs.toList 0 c w h1 (by simp only [Array.length_toList] at f1;simp;omega) (fun v hv=>by
         obtain ⟨k,hk,rfl⟩:=List.getElem_of_mem hv
         have hk':k < ys.flatten.length:=by rw [y3.length];exact hk
         obtain ⟨u,e1,e2⟩:=y3.get (List.getElem?_eq_getElem hk')
         rw [List.getElem?_eq_getElem hk] at e1;injection e1 with e1
         have hmem:=List.getElem_mem hk'
         obtain ⟨r,hr,hx⟩:=List.mem_flatten.1 hmem
         exact e1▸e2.cellV ((hall r hr).2 _ hx))
        have hap:=i8 (ty:=ty) (w:=w) (a:=some ⟨B,0*n,none⟩) (len:=m) (cap:=cap) (y := .slice ay ys.length cy) (new:=vs) hu hu' hs ⟨ay,cy,rfl⟩ (y2 w rfl) hfit
        simp only [Nat.zero_mul,bm,Nat.zero_add] at hap hrun
        rw [hrun] at hap
        simp only [Result.andThen_ok] at hap
        have hrow : ∀ k,(c.toList.take (m*n+0)++vs.toList++c.toList.drop (m*n+0+vs.toList.length)).toArray[k]?=if m*n<=k/\k < m*n+vs.toList.length then vs.toList[k - m*n]? else c[k]?:=by
         intro k
         rw [List.getElem?_toArray,Nat.add_zero,fW _ _ _ _ (by rw [f1];simpa using hsz)]
         simp
        have hfin:=hS.write (v1:=v'+1) (b := .rows (v'+1) false n (els.take m++ys)) (w':=w.setRow B (c.toList.take (m*n+0)++vs.toList++c.toList.drop (m*n+0+vs.toList.length)).toArray) hb (bC hb) rfl (Nat.le_succ _) (fun hz=>absurd hz (by omega))
         (by rw [hB'];exact h6 rfl) (by rw [hB'];exact below_setRow (Below.refl _ _) (Nat.le_refl _) _) (fun B' hne=>setRow_other w B B' _ (by rw [hB'] at hne;exact hne)) (setRow_size w B _) (by
          rw [hB']
          have hL:Later ρ ρ (vo s) (vo (s.set b (some (.rows (v'+1) false n (els.take m++ys))))):=by
           have:=Later.bump (ρ:=ρ) (p:=ρ b) (b := .rows (v'+1) false n (els.take m++ys)) (v1:=v'+1) (a8 hb) (bC hb) rfl (Nat.le_succ _) (fun _=>rfl) (fun hz=>absurd hz (by omega))
           have e2:(fun j=>if j=b then ρ b else ρ j)=ρ:=by funext j;by_cases hj:j=b<;>simp [hj]
           rwa [e2] at this
          refine .rows _ _ _ _ B size _ t (setRow_heap w B c _ t (0,0) h1) (by simp only [List.size_toArray,List.length_append,List.length_take,List.length_drop,Array.length_toList,f1];simp only [Array.length_toList] at f1;omega) ?_ hwid (fun k r hr q y hy => ?_) h6
          · simp only [List.length_append,htk,Nat.add_mul];omega
          · rw [hrow]
            have hq:q < n:=by rw [<- hwid r (List.mem_of_getElem? hr)];exact (List.getElem?_eq_some_iff.1 hy).1
            by_cases hkm:k < m
            · rw [List.getElem?_append_left (by omega),List.getElem?_take,if_pos hkm] at hr
              rw [if_neg (by have:=Nat.mul_le_mul_right n (show k+1<=m from hkm);rw [Nat.add_mul,Nat.one_mul] at this;omega)]
              obtain ⟨u,e1,e2,e3⟩:=h5 k r hr q y hy
              exact ⟨u,e1,e2.mono (fun _ _ _ h=>h) hL,e3⟩
            · rw [List.getElem?_append_right (by omega),htk] at hr
              obtain ⟨u,e1,e2⟩:=f2 _ r hr q y hy
              have hklt:=(List.getElem?_eq_some_iff.1 hr).1
              have e4:k*n=m*n+(k - m)*n:=by rw [<- Nat.add_mul];congr 1;omega
              have e5:=Nat.mul_le_mul_right n (show k - m+1<=ys.length from hklt)
              rw [Nat.add_mul,Nat.one_mul] at e5
              rw [if_pos ⟨by omega,by rw [f1];omega⟩,show k*n+q - m*n=(k - m)*n+q by omega]
              exact ⟨u,e1,e2.mono (fun _ _ _ h=>h) hL,e2.cellV ((hall r (List.mem_of_getElem? hr)).2 y (List.mem_of_getElem? hy))⟩)
        have hap':(Builtin.append_ #[sT,xT] ty #[.slice (some ⟨B,0*n,none⟩) m cap,.slice ay ys.length cy]).run P w = .ok (.slice (some ⟨B,0,none⟩) (m+ys.length) cap) (w.setRow B (c.toList.take (m*n+0)++vs.toList++c.toList.drop (m*n+0+vs.toList.length)).toArray):=by
         simpa using hap
        have hvo:vo (setB s b (.rows (v'+1) false n (els.take m++ys))) b=some (v'+1,n):=by unfold setB;rw [cC (a8 hb)];simp
        have hloc:(⟨B,0,none⟩:Addr)=⟨(ρ b).1,0*n,none⟩:=by simp [hB']
        have hroom2:(0+cap)*n<=(ρ b).2:=by simpa [hB'] using k2
        exact ⟨_,ρ,_,hap',hfin.1,hfin.2,RV.ms b (v'+1) 0 (m+ys.length) (v'+1) n ⟨B,0,none⟩ (m+ys.length) cap hvo (fun _=>⟨rfl,hloc,rfl,hfit,hroom2⟩)⟩
     ·
      obtain ⟨a',cx,old,o0,o1,o2,o3,o4,o5⟩:=iA (esz:=n) (ys:=(els.drop 0).take m) hS h0 hx (by simp only [cM,hb];rw [if_pos (by simpa using hle)])
      simp only [List.drop_zero,htk] at o0 o2 o3 o4
      injection o0 with r1 _ r3;subst r3;subst r1
      obtain ⟨nc,w1,cells,g1,g2,g3,g4,g5,g6⟩:=grows _ m cap (els.take m) old rfl htk o4 (by omega) hroom o2 o3
      have hSw:=hS.world g2
      have hfin:=hSw.move (size:=cells.size) (v1:=v'+1) (b := .rows (v'+1) false n (els.take m++ys)) (o := .cells cells e) hb (bC hb) rfl (Nat.lt_succ_self _) (by omega) (by
       have hL:Later ρ (placed ρ b w1.heap.size cells.size) (vo s) (vo (s.set b (some (.rows (v'+1) false n (els.take m++ys))))) := .bump (v1:=v'+1) (a8 hb) (bC hb) rfl (Nat.le_succ _) (fun h=>absurd h (by omega)) (fun hz=>absurd hz (by omega))
       refine .rows _ _ _ _ _ _ cells e (World.alloc_heap_new w1 _) rfl (by simp only [List.length_append,htk,g5];exact Nat.mul_le_mul_right _ g4) hwid (fun k r hr q y hy => ?_) (fun _ o => ?_)
       · obtain ⟨u,e1,e2,e3⟩:=g6 k r hr q y hy
         exact ⟨u,e1,e2.mono (fun _ _ _ h=>h) hL,e3 o5⟩
       · cases hk:K w1.heap.size o with
         | none=>rfl
         | some v =>
           obtain ⟨_,_,_,h1,_⟩:=hSw.known _ _ _ hk
           have:=(Array.getElem?_eq_some_iff.1 h1).1
           omega)
      have hvo:vo (setB s b (.rows (v'+1) false n (els.take m++ys))) b=some (v'+1,n):=by unfold setB;rw [cC (a8 hb)];simp
      have hloc:(⟨w.heap.size,0,none⟩:Addr)=⟨(placed ρ b w1.heap.size cells.size b).1,0*n,none⟩:=by simp [placed,g2]
      have hroom2:(0+nc)*n<=(placed ρ b w1.heap.size cells.size b).2:=by simp [placed,g5]
      exact ⟨_,_,_,g1,hfin.1,(Stp.world g3 g2).trans hfin.2,RV.ms b (v'+1) 0 (m+ys.length) (v'+1) n ⟨w.heap.size,0,none⟩ (m+ys.length) nc hvo (fun _=>⟨rfl,hloc,rfl,g4,hroom2⟩)⟩
 · cases h
end Go.Proofs.YtncfpmehhfdipaaGreat
