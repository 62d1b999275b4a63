/- Equality of data, values and blocks, tested. -/
import Derived.Test.YtncfpmehhfdipaaGreatA01
set_option linter.unusedSimpArgs false
set_option linter.unusedVariables false
set_option linter.unnecessarySimpa false
namespace Go.Proofs.YtncfpmehhfdipaaGreat
open Go.RowKit
mutual
theorem beqD_eq : ∀ {a b:D},beqD a b=true->a=b
 | .bool a,b,h=>by cases b<;>simp_all [beqD]
 | .int k a,b,h=>by cases b<;>simp_all [beqD]
 | .str a,b,h=>by
   cases b<;>simp only [beqD] at h<;>first | (cases h;done) | skip
   rw [(MapKept.bytes_beq _ _).1 h]
 | .nilp,b,h=>by cases b<;>simp_all [beqD]
 | .nilf,b,h=>by cases b<;>simp_all [beqD]
 | .nilm,b,h=>by cases b<;>simp_all [beqD]
 | .nili,b,h=>by cases b<;>simp_all [beqD]
 | .slice a,b,h=>by cases b<;>simp only [beqD] at h<;>first | (cases h;done) | rw [beqDs_eq h]
 | .iptr a i,b,h=>by
   cases b<;>simp only [beqD] at h<;>first | (cases h;done) | skip
   simp only [Bool.and_eq_true,beq_iff_eq] at h
   rw [beqDs_eq h.1,h.2]
 | .agg a,b,h=>by cases b<;>simp only [beqD] at h<;>first | (cases h;done) | rw [beqDs_eq h]
 | .tuple a,b,h=>by cases b<;>simp only [beqD] at h<;>first | (cases h;done) | rw [beqDs_eq h]
 | .func f x y,b,h=>by
   cases b<;>simp only [beqD] at h<;>first | (cases h;done) | skip
   simp only [Bool.and_eq_true,beq_iff_eq] at h
   rw [beqDs_eq h.1.2,beqDs_eq h.2,h.1.1]
theorem beqDs_eq : ∀ {a b:List D},beqDs a b=true->a=b
 | [],b,h=>by cases b<;>simp_all [beqDs]
 | x::xs,b,h=>by
   cases b<;>simp only [beqDs] at h<;>first | (cases h;done) | skip
   simp only [Bool.and_eq_true] at h
   rw [beqD_eq h.1,beqDs_eq h.2]
end
mutual
theorem beqV_eq : ∀ {a b:V},beqV a b=true->a=b
 | .poison,b,h=>by cases b<;>simp_all [beqV]
 | .d a,b,h=>by cases b<;>simp only [beqV] at h<;>first | (cases h;done) | rw [beqD_eq h]
 | .nils,b,h=>by cases b<;>simp_all [beqV]
 | .emp,b,h=>by cases b<;>simp_all [beqV]
 | .non,b,h=>by cases b<;>simp_all [beqV]
 | .lit a,b,h=>by cases b<;>simp only [beqV] at h<;>first | (cases h;done) | rw [beqDs_eq h]
 | .ptr _ _ _ _,b,h=>by cases b<;>simp_all [beqV]
 | .ms _ _ _ _,b,h=>by cases b<;>simp_all [beqV]
 | .asl _ _ _ _ _,b,h=>by cases b<;>simp_all [beqV]
 | .map _,b,h=>by cases b<;>simp_all [beqV]
 | .yield _,b,h=>by cases b<;>simp_all [beqV]
 | .agg a,b,h=>by cases b<;>simp only [beqV] at h<;>first | (cases h;done) | rw [beqVs_eq h]
 | .tuple a,b,h=>by cases b<;>simp only [beqV] at h<;>first | (cases h;done) | rw [beqVs_eq h]
 | .func f x y,b,h=>by
   cases b<;>simp only [beqV] at h<;>first | (cases h;done) | skip
   simp only [Bool.and_eq_true,Nat.beq_eq] at h
   rw [beqVs_eq h.1.2,beqVs_eq h.2,h.1.1]
theorem beqVs_eq : ∀ {a b:List V},beqVs a b=true->a=b
 | [],b,h=>by cases b<;>simp_all [beqVs]
 | x::xs,b,h=>by
   cases b<;>simp only [beqVs] at h<;>first | (cases h;done) | skip
   simp only [Bool.and_eq_true] at h
   rw [beqV_eq h.1,beqVs_eq h.2]
end
theorem j4 : ∀ {a b:List (List V)},i6 a b=true->a=b
 | [],b,h=>by cases b<;>simp_all [i6]
 | x::xs,b,h=>by
   cases b<;>simp only [i6] at h<;>first | (cases h;done) | skip
   simp only [Bool.and_eq_true] at h
   rw [beqVs_eq h.1,j4 h.2]
theorem rV : ∀ {a b:List (D×V)},aa4 a b=true->a=b
 | [],b,h=>by cases b<;>simp_all [aa4]
 | x::xs,b,h=>by
   cases b<;>simp only [aa4] at h<;>first | (cases h;done) | skip
   simp only [Bool.and_eq_true] at h
   rw [Prod.ext (beqD_eq h.1.1) (beqV_eq h.1.2),rV h.2]
theorem rW {a b:Option Blk} (h:aaG a b=true):a=b:=by
 unfold aaG at h
 split at h
 · rfl
 · simp only [Bool.and_eq_true,Nat.beq_eq,beq_iff_eq] at h
   obtain ⟨⟨⟨rfl,rfl⟩,rfl⟩,h⟩:=h
   rw [j4 h]
 · rw [rV h]
 · cases h
theorem kM : ∀ {a b:aa},Hh a b=true->a=b
 | [],b,h=>by cases b<;>simp_all [Hh]
 | x::xs,b,h=>by
   cases b<;>simp only [Hh] at h<;>first | (cases h;done) | skip
   simp only [Bool.and_eq_true] at h
   rw [rW h.1,kM h.2]
end Go.Proofs.YtncfpmehhfdipaaGreat
namespace Go.Proofs.YtncfpmehhfdipaaGreat
open Go.RowKit
variable {P:Program} {fo:Nat->Option FuncId} {K K':aS} {ρ:ax} {w:World} {tr:FuncId->Option Nat} {base:Nat} {s s':aa} {vv:Nat->Option (Nat×Nat)}
def KnownB (fo:Nat->Option FuncId) (K:aS) (ρ:ax) (vv:Nat->Option (Nat×Nat)) (s:aa) (id:Nat):Prop :=
 ∀ v ro e els,getB s id=some (.rows v ro e els)->(∀ r∈els,r.length=e) /\ ∀ (i:Nat) r,els[i]?=some r -> ∀ (j:Nat) x,r[j]?=some x -> ∃ u,K (ρ id).1 (i*e+j)=some u/\RV fo K ρ vv x u/\u.oneCell'=true
theorem RD.scalar {d:D} {v:Value} (h:RD fo K d v) (h1:v.oneCell'=true):bY d=true:=by
 cases h<;>first | rfl | (simp [Value.oneCell'] at h1)
section
variable {f:V->Option (D×List Nat)} {T:List Nat}
def am7 (fo:Nat->Option FuncId) (K:aS) (ρ:ax) (vv:Nat->Option (Nat×Nat)) (f:V->Option (D×List Nat)) (T:List Nat):Prop :=
 ∀ x d a v,f x=some (d,a)->(∀ i∈a,i∈T)->RV fo K ρ vv x v->RD fo K d v
theorem bw (hf:am7 fo K ρ vv f T) : ∀ {xs:List V} {vs:List Value} {ds:List D} {a:List Nat},RVs fo K ρ vv xs vs->aC f xs=some (ds,a)->(∀ i∈a,i∈T)->RDs fo K ds vs
 | _,_,ds,a,.nil,h,_=>by simp [aC] at h;rw [h.1];exact .nil
 | _,_,ds,a,.cons x v xs vs hx hs,h,hT=>by
   simp only [aC] at h
   split at h<;>try (cases h;done)
   rename_i d b ds' c e1 e2
   injection h with h;injection h with q1 q2;subst q1;subst q2
   exact .cons _ _ _ _ (hf _ _ _ _ e1 (fun i hi=>hT i (by simp [hi])) hx) (bw hf hs e2 fun i hi=>hT i (by simp [hi]))
theorem fL {ds:List D} (h : ∀ d∈ds,bY d=true):(D.ofCells ds).cells=ds:=by
 match ds with
 | []=>rfl
 | [d]=>exact cY (h d (by simp))
 | _::_::_=>rfl
theorem dk : ∀ {xs:List V} {ds:List D} {a:List Nat},aC f xs=some (ds,a)->ds.length=xs.length
 | [],ds,a,h=>by simp [aC] at h;rw [h.1];rfl
 | x::xs,ds,a,h=>by
   simp only [aC] at h
   split at h<;>try (cases h;done)
   rename_i d q ds' c e1 e2
   injection h with h;injection h with q1 q2;subst q1
   simp [dk e2]
theorem eZ (hf:am7 fo K ρ vv f T) : ∀ {rows:List (List V)} {L:List Value} {es:List D} {a:List Nat},RVs fo K ρ vv rows.flatten L->(∀ v∈L,v.oneCell'=true)->da f rows=some (es,a)->(∀ i∈a,i∈T) ->
 RDs fo K (es.flatMap D.cells) L/\es.length=rows.length /\ ∀ esz,(∀ r∈rows,r.length=esz) -> ∀ e∈es,e.cells.length=esz
 | [],L,es,a,h,_,hr,_=>by simp [da] at hr;obtain ⟨rfl,rfl⟩:=hr;cases h;exact ⟨.nil,rfl,by simp⟩
 | r::rows,L,es,a,h,h1,hr,hT=>by
   simp only [da] at hr
   split at hr<;>try (cases hr;done)
   rename_i c b ds q e1 e2
   injection hr with hr;injection hr with q1 q2;subst q1;subst q2
   rw [List.flatten_cons] at h
   have hl:=h.length
   have g1:=h.take r.length
   have g2:=h.drop r.length
   rw [List.take_left'] at g1
   rw [List.drop_left'] at g2
   all_goals (try rfl)
   have k1:=bw hf g1 e1 (fun i hi=>hT i (by simp [hi]))
   have hsc : ∀ d∈c,bY d=true:=fun d hd=>by
    obtain ⟨i,hi,rfl⟩:=List.getElem_of_mem hd
    obtain ⟨u,u1,u2⟩:=k1.get (List.getElem?_eq_getElem hi)
    exact u2.scalar (h1 u (List.mem_of_mem_take (List.mem_of_getElem? u1)))
   obtain ⟨k2,k3,k4⟩:=eZ hf g2 (fun v hv=>h1 v (List.mem_of_mem_drop hv)) e2 (fun i hi=>hT i (by simp [hi]))
   refine ⟨?_,by simp [k3],fun esz hw e he => ?_⟩
   · rw [List.flatMap_cons,fL hsc,<- List.take_append_drop r.length L]
     exact k1.append k2
   · rcases List.mem_cons.1 he with rfl | he
     · rw [fL hsc,dk e1];exact hw r (by simp)
     · exact k4 esz (fun r hr=>hw r (by simp [hr])) e he
end
theorem gj {B o e:Nat} {rows:List (List V)} (he : ∀ r∈rows,r.length=e) (h : ∀ (i:Nat) r,rows[i]?=some r -> ∀ (j:Nat) x,r[j]?=some x -> ∃ u,K B (o+(i*e+j))=some u/\RV fo K ρ vv x u/\u.oneCell'=true) :
 ∃ L:List Value,RVs fo K ρ vv rows.flatten L/\(∀ v∈L,v.oneCell'=true)/\(∀ (j:Nat) v,L[j]?=some v->K B (o+j)=some v)/\L.length=rows.length*e:=by
 have key : ∀ k,k < rows.length*e -> ∃ u,K B (o+k)=some u/\u.oneCell'=true:=fun k hk=>by
  have he0:0 < e:=by
   rcases Nat.eq_zero_or_pos e with h | h
   · subst h;simp at hk
   · exact h
  have hi:k/e < rows.length:=Nat.div_lt_of_lt_mul (by rw [Nat.mul_comm];exact hk)
  have hj:k%e < rows[k/e].length:=by rw [he _ (List.getElem_mem hi)];exact Nat.mod_lt _ he0
  obtain ⟨u,e1,_,e3⟩:=h _ _ (List.getElem?_eq_getElem hi) _ _ (List.getElem?_eq_getElem hj)
  rw [Nat.mul_comm,Nat.div_add_mod] at e1
  exact ⟨u,e1,e3⟩
 have hget : ∀ (j:Nat) v,((List.range (rows.length*e)).map fun k=>(K B (o+k)).getD undef)[j]?=some v->K B (o+j)=some v/\v.oneCell'=true:=fun j v hv=>by
  have hj:=(List.getElem?_eq_some_iff.1 hv).1
  simp at hj
  obtain ⟨u,e1,e2⟩:=key j hj
  simp [hj,e1] at hv
  exact hv▸⟨e1,e2⟩
 refine ⟨(List.range (rows.length*e)).map fun k=>(K B (o+k)).getD undef,?_,fun v hv => ?_,fun j v hv=>(hget j v hv).1,by simp⟩
 · refine fI he (by simp) fun i r hi j x hx => ?_
   obtain ⟨u,e1,e2,_⟩:=h i r hi j x hx
   have hil:=(List.getElem?_eq_some_iff.1 hi).1
   have hj:j < e:=by rw [<- he r (List.mem_of_getElem? hi)];exact (List.getElem?_eq_some_iff.1 hx).1
   have:i*e+j < rows.length*e:=by
    have:=Nat.mul_le_mul_right e (show i+1<=rows.length from hil);rw [Nat.add_mul,Nat.one_mul] at this;omega
   exact ⟨u,by simp [this,e1],e2⟩
 · obtain ⟨j,hj,rfl⟩:=List.getElem_of_mem hv
   exact (hget j _ (List.getElem?_eq_getElem hj)).2
theorem gV (hvv:vv=vo s) {T:List Nat} (hK : ∀ id∈T,KnownB fo K ρ vv s id) : ∀ (n:Nat),am7 fo K ρ vv (toD s n) T
 | 0=>fun x d a v h=>by simp [toD] at h
 | n+1=>fun x d a v h hT hx=>by
   have ih:=gV hvv hK n
   subst hvv
   unfold toD at h
   split at h
   · injection h with h;injection h with q1 q2;subst q1
     cases hx;assumption
   · injection h with h;injection h with q1 q2;subst q1
     cases hx;exact .sliceE _ _ (by simp)
   · injection h with h;injection h with q1 q2;subst q1
     cases hx;exact .sliceE _ _ (by simp)
   · injection h with h;injection h with q1 q2;subst q1
     cases hx;exact .sliceE _ _ (by simp)
   · injection h with h;injection h with q1 q2;subst q1
     cases hx;assumption
   · rename_i id ver off len
     obtain ⟨ad,m,cap,v0,e',rfl,g1,g2⟩:=hx.ms_inv
     split at h<;>try (cases h;done)
     rename_i v' ro esz els hb
     split at h<;>try (cases h;done)
     rename_i hc
     obtain ⟨rfl,hz,hle⟩:=hc
     cases hq:da (toD s n) ((els.drop off).take len) with
     | none=>simp [hq] at h
     | some p =>
       obtain ⟨es,b⟩:=p
       simp [hq] at h
       obtain ⟨rfl,rfl⟩:=h
       rw [bC hb] at g1;injection g1 with g1;injection g1 with q1 q2;subst q1;subst q2
       obtain ⟨_,rfl,rfl,k1,k2⟩:=g2 (Nat.le_refl _)
       obtain ⟨kw,kk⟩:=hK id (hT id (by simp)) _ _ _ _ hb
       have hw' : ∀ r∈(els.drop off).take m,r.length=esz:=fun r hr=>kw r (List.mem_of_mem_drop (List.mem_of_mem_take hr))
       obtain ⟨L,l1,l2,l3,l4⟩:=gj (B:=(ρ id).1) (o:=off*esz) (e:=esz) (rows:=(els.drop off).take m) hw' (fun i r hi j x hx=>by
        simp only [List.getElem?_take,List.getElem?_drop] at hi
        split at hi<;>try (cases hi;done)
        obtain ⟨u,u1,u2⟩:=kk _ r hi j x hx
        exact ⟨u,by rw [<- u1,Nat.add_mul];congr 1;omega,u2⟩)
       obtain ⟨r1,r2,r3⟩:=eZ ih l1 l2 hq (fun i hi=>hT i (by simp [hi]))
       have hlen:es.length=m:=by rw [r2];simp;omega
       by_cases hm:m=0
       · subst hm
         have:es=[]:=List.length_eq_zero_iff.1 hlen
         subst this;exact .sliceE _ _ (by simp)
       · have:=RD.slice (fo:=fo) (K:=K) es (ρ id).1 (off*esz) cap esz L (by intro h;rw [h] at hlen;simp at hlen;omega) hz (r3 esz hw') r1 l3 (by omega)
         rw [hlen] at this;exact this
   · rename_i id ver i j len
     obtain ⟨ad,m,cap,v0,e',rfl,g1,g2⟩:=hx.asl_inv
     split at h<;>try (cases h;done)
     rename_i v' ro esz els hb
     split at h<;>try (cases h;done)
     rename_i cs hi
     split at h<;>try (cases h;done)
     rename_i hc
     obtain ⟨rfl,hle⟩:=hc
     cases hq:aC (toD s n) ((cs.drop j).take len) with
     | none=>simp [hq] at h
     | some p =>
       obtain ⟨es,b⟩:=p
       simp [hq] at h
       obtain ⟨rfl,rfl⟩:=h
       rw [bC hb] at g1;injection g1 with g1;injection g1 with q1 q2;subst q1;subst q2
       obtain ⟨_,rfl,rfl,k1⟩:=g2 (Nat.le_refl _)
       obtain ⟨kw,kk⟩:=hK id (hT id (by simp)) _ _ _ _ hb
       obtain ⟨L,l1,l2,l3,l4⟩:=gj (B:=(ρ id).1) (o:=i*esz+j) (e:=1) (rows:=((cs.drop j).take m).map fun x=>[x]) (fun r hr=>by obtain ⟨y,_,rfl⟩:=List.mem_map.1 hr;rfl) (fun q r hq q' x hx=>by
        simp only [List.getElem?_map,Option.map_eq_some_iff] at hq
        obtain ⟨y,hy,rfl⟩:=hq
        have:q'=0:=by have:=(List.getElem?_eq_some_iff.1 hx).1;simpa using this
        subst this
        simp at hx;subst hx
        simp only [List.getElem?_take,List.getElem?_drop] at hy
        split at hy<;>try (cases hy;done)
        obtain ⟨u,u1,u2⟩:=kk i cs hi _ _ hy
        exact ⟨u,by rw [<- u1];congr 1;omega,u2⟩)
       have hfl:(((cs.drop j).take m).map fun x=>[x]).flatten=(cs.drop j).take m:=by
        generalize (cs.drop j).take m=l
        induction l with
        | nil=>rfl
        | cons x xs ih=>simp [ih]
       rw [hfl] at l1
       have r1:=bw ih l1 hq (fun i hi=>hT i (by simp [hi]))
       have hlen:es.length=m:=by rw [dk hq];simp;omega
       have hsc : ∀ d∈es,bY d=true:=fun d hd=>by
        obtain ⟨k,hk,rfl⟩:=List.getElem_of_mem hd
        obtain ⟨u,u1,u2⟩:=r1.get (List.getElem?_eq_getElem hk)
        exact u2.scalar (l2 u (List.mem_of_getElem? u1))
       by_cases hm:m=0
       · subst hm
         have:es=[]:=List.length_eq_zero_iff.1 hlen
         subst this;exact .sliceE _ _ (by simp)
       · have:=RD.slice (fo:=fo) (K:=K) es (ρ id).1 (i*esz+j) cap 1 L (by intro h;rw [h] at hlen;simp at hlen;omega) (by omega) (fun e he=>by rw [cY (hsc e he)];rfl) (by rw [fk hsc];exact r1) l3 (by omega)
         rw [hlen] at this;exact this
   · rename_i id ver i j
     obtain ⟨ad,v0,e',rfl,g1,g2⟩:=hx.ptr_inv
     split at h<;>try (cases h;done)
     rename_i v' ro esz els hb
     split at h<;>try (cases h;done)
     rename_i cs hi
     split at h<;>try (cases h;done)
     rename_i hc
     subst hc
     cases hq:aC (toD s n) cs with
     | none=>simp [hq] at h
     | some p =>
       obtain ⟨es,b⟩:=p
       simp [hq] at h
       obtain ⟨rfl,rfl⟩:=h
       rw [bC hb] at g1;injection g1 with g1;injection g1 with q1 q2;subst q1;subst q2
       obtain ⟨_,rfl⟩:=g2 (Nat.le_refl _)
       obtain ⟨kw,kk⟩:=hK id (hT id (by simp)) _ _ _ _ hb
       have hcs:=kw cs (List.mem_of_getElem? hi)
       obtain ⟨L,l1,l2,l3,l4⟩:=gj (B:=(ρ id).1) (o:=i*esz) (e:=esz) (rows:=[cs]) (by simpa using hcs) (fun q r hq q' x hx=>by
        cases q with
        | succ q=>simp at hq
        | zero =>
          simp at hq;subst hq
          obtain ⟨u,u1,u2⟩:=kk i cs hi _ _ hx
          exact ⟨u,by rw [<- u1];congr 1;omega,u2⟩)
       simp only [List.flatten_cons,List.flatten_nil,List.append_nil] at l1
       exact .iptr es j (ρ id).1 (i*esz) L (bw ih l1 hq (fun i hi=>hT i (by simp [hi]))) l3
   · rename_i cs
     cases hq:aC (toD s n) cs with
     | none=>simp [hq] at h
     | some p =>
       obtain ⟨es,b⟩:=p
       simp [hq] at h
       obtain ⟨rfl,rfl⟩:=h
       cases hx with | agg _ vs hvs=>exact .agg _ _ (bw ih hvs hq hT)
   · rename_i cs
     cases hq:aC (toD s n) cs with
     | none=>simp [hq] at h
     | some p =>
       obtain ⟨es,b⟩:=p
       simp [hq] at h
       obtain ⟨rfl,rfl⟩:=h
       cases hx with | tuple _ vs hvs=>exact .tuple _ _ (bw ih hvs hq hT)
   · rename_i f x y
     split at h<;>try (cases h;done)
     rename_i a' p b' q e1 e2
     injection h with h;injection h with q1 q2;subst q1;subst q2
     cases hx with | func _ g _ _ va vb hf h1 h2 =>
     exact .func f g _ _ va vb hf (bw ih h1 e1 (fun i hi=>hT i (by simp [hi]))) (bw ih h2 e2 (fun i hi=>hT i (by simp [hi])))
   · cases h
def learn (K:aS) (B:Nat) (c:Array Value) (n:Nat):aS:=fun B' o=>if B'=B then (match K B o with | some v=>some v | none=>if o < n then c[o]? else none) else K B' o
theorem rM {id v e:Nat} {ro:Bool} {els:List (List V)} (h:RS P fo base K ρ s w) (hb:getB s id=some (.rows v ro e els)) :
 ∃ K',RS P fo base K' ρ (setB s id (.rows v true e els)) w/\(∀ B o v,K B o=some v->K' B o=some v)/\vo (setB s id (.rows v true e els))=vo s/\KnownB fo K' ρ (vo s) s id/\(∀ B o u,K' B o=some u->K B o=some u\/B=(ρ id).1):=by
 have hB:=(h.blk id _ hb).1
 cases hp:ρ id with | mk B size =>
 rw [hp] at hB
 cases hB with
 | rows _ _ _ _ _ _ c t h1 h2 h3 h4 h5 h6 =>
   have hv:vo (setB s id (.rows v true e els))=vo s:=by
    funext j
    unfold setB
    rw [cC (a8 hb)]
    split
    · rename_i hj;subst hj;rw [bC hb]
    · rfl
   have hcell : ∀ k,k < els.length*e -> ∃ u,c[k]?=some u/\u.oneCell'=true:=fun k hk=>by
    have he0:0 < e:=by
     rcases Nat.eq_zero_or_pos e with h | h
     · subst h;simp at hk
     · exact h
    have hi:k/e < els.length:=Nat.div_lt_of_lt_mul (by rw [Nat.mul_comm];exact hk)
    have hj:k%e < els[k/e].length:=by rw [h4 _ (List.getElem_mem hi)];exact Nat.mod_lt _ he0
    obtain ⟨u,e1,_,e3⟩:=h5 _ _ (List.getElem?_eq_getElem hi) _ _ (List.getElem?_eq_getElem hj)
    rw [Nat.mul_comm,Nat.div_add_mod] at e1
    exact ⟨u,e1,e3⟩
   have hKc : ∀ o u,K B o=some u->c[o]?=some u:=fun o u hu=>by
    obtain ⟨c',t',z',a1,a2⟩:=h.known B o u hu
    rw [h1] at a1;injection a1 with a1;injection a1 with a1;subst a1;exact a2
   have hKK : ∀ B' o u,K B' o=some u->learn K B c (els.length*e) B' o=some u:=fun B' o u hu=>by
    unfold learn
    by_cases hBB:B'=B
    · subst hBB;rw [if_pos rfl,hu]
    · rw [if_neg hBB];exact hu
   have hinv : ∀ B' o u,learn K B c (els.length*e) B' o=some u->K B' o=some u\/(B'=B/\c[o]?=some u/\u.oneCell'=true):=fun B' o u hu=>by
    unfold learn at hu
    split at hu
    · rename_i hBB
      split at hu
      · rename_i v hv;injection hu with hu;subst hu;exact .inl (hBB▸hv)
      · split at hu<;>try (cases hu;done)
        rename_i ho
        obtain ⟨u',e1,e2⟩:=hcell o ho
        rw [hu] at e1;injection e1 with e1;subst e1
        exact .inr ⟨hBB,hu,e2⟩
    · exact .inl hu
   refine ⟨learn K B c (els.length*e),⟨fun B' o u hu => ?_,fun j b hj => ?_,fun i j a b ha hb' he => ?_,h.base,fun B' o u hu => ?_⟩,hKK,hv,fun v' ro' e' els' hb' => ?_,fun B' o u hu => ?_⟩
   · rcases hinv B' o u hu with hu | ⟨rfl,hu,_⟩
     · exact h.known B' o u hu
     · exact ⟨c,t,_,h1,hu⟩
   · rw [hv]
     by_cases hji:j=id
     · subst hji
       unfold setB at hj
       rw [a9 (a8 hb)] at hj
       injection hj with hj;subst hj
       refine ⟨?_,(h.blk j _ hb).2⟩
       rw [hp]
       exact .rows _ _ _ _ B size c t h1 h2 h3 h4 (fun i r hi j x hx=>let ⟨u,a1,a2,a3⟩:=h5 i r hi j x hx;⟨u,a1,a2.mono hKK .refl,a3⟩) (fun hf=>by cases hf)
     · unfold setB at hj
       rw [aw hji] at hj
       obtain ⟨b1,b2⟩:=h.blk j b hj
       refine ⟨b1.mono hKK .refl rfl (fun hn o => ?_),b2⟩
       have hne:(ρ j).1≠B:=fun heq=>hji (h.inj j id _ _ hj hb (by rw [heq,hp]))
       unfold learn
       rw [if_neg hne]
       exact hn o
   · have key : ∀ k bk,getB (setB s id (.rows v true e els)) k=some bk -> ∃ bk',getB s k=some bk':=fun k bk hk=>by
      by_cases hk':k=id
      · subst hk';exact ⟨_,hb⟩
      · unfold setB at hk;rw [aw hk'] at hk;exact ⟨bk,hk⟩
     obtain ⟨_,ha'⟩:=key i a ha
     obtain ⟨_,hb''⟩:=key j b hb'
     exact h.inj i j _ _ ha' hb'' he
   · rcases hinv B' o u hu with hu | ⟨_,_,hu⟩
     · exact h.one B' o u hu
     · exact hu
   · rw [hb] at hb';injection hb' with hb';injection hb' with q1 q2 q3 q4;subst q1;subst q2;subst q3;subst q4
     refine ⟨h4,fun i r hi j x hx => ?_⟩
     obtain ⟨u,a1,a2,a3⟩:=h5 i r hi j x hx
     have hil:=(List.getElem?_eq_some_iff.1 hi).1
     have hjl:j < e:=by rw [<- h4 r (List.mem_of_getElem? hi)];exact (List.getElem?_eq_some_iff.1 hx).1
     have hlt:i*e+j < els.length*e:=by
      have:=Nat.mul_le_mul_right e (show i+1<=els.length from hil);rw [Nat.add_mul,Nat.one_mul] at this;omega
     refine ⟨u,?_,a2.mono hKK .refl,a3⟩
     rw [hp]
     unfold learn
     rw [if_pos rfl]
     cases hk:K B (i*e+j) with
     | some u'=>have:=hKc _ _ hk;rw [a1] at this;simpa using this.symm
     | none=>simp [hlt,a1]
   · rcases hinv B' o u hu with hu | ⟨h,_,_⟩
     · exact .inl hu
     · right;exact h
end Go.Proofs.YtncfpmehhfdipaaGreat
namespace Go.Proofs.YtncfpmehhfdipaaGreat
open Go.RowKit
variable {P:Program} {fo:Nat->Option FuncId} {K K':aS} {ρ:ax} {w:World} {tr:FuncId->Option Nat} {base:Nat} {s s':aa} {vv:Nat->Option (Nat×Nat)}
theorem KnownB.mono {id:Nat} (h:KnownB fo K ρ vv s id) (hK : ∀ B o v,K B o=some v->K' B o=some v):KnownB fo K' ρ vv s id:=fun v ro e els hb =>
 let ⟨h1,h2⟩:=h v ro e els hb
 ⟨h1,fun i r hi j x hx=>let ⟨u,a1,a2,a3⟩:=h2 i r hi j x hx;⟨u,hK _ _ _ a1,a2.mono hK .refl,a3⟩⟩
theorem fr {id:Nat} {ids:List Nat} : aq s (id::ids)=aq (match getB s id with | some (.rows v _ e els)=>setB s id (.rows v true e els) | _=>s) ids:=rfl
theorem jT {id j:Nat} : ∀ {v ro e els},getB (match getB s id with | some (.rows v _ e els)=>setB s id (.rows v true e els) | _=>s) j=some (.rows v ro e els) ↔ (∃ ro',getB s j=some (.rows v ro' e els)/\(ro=ro'\/j=id/\ro=true)/\(j=id->ro=true)):=by
 intro v ro e els
 cases hb:getB s id with
 | none =>
   simp only
   constructor
   · intro h;exact ⟨ro,h,.inl rfl,fun hj=>by subst hj;rw [hb] at h;cases h⟩
   · rintro ⟨ro',h,hr,hj⟩
     rcases hr with rfl | ⟨rfl,_⟩
     · exact h
     · rw [hb] at h;cases h
 | some b =>
   cases b with
   | rows v' ro' e' els' =>
     simp only [setB]
     by_cases hj:j=id
     · subst hj
       rw [a9 (a8 hb),hb]
       constructor
       · intro h;injection h with h;injection h with a1 a2 a3 a4;subst a1;subst a2;subst a3;subst a4
         exact ⟨ro',rfl,.inr ⟨rfl,rfl⟩,fun _=>rfl⟩
       · rintro ⟨ro2,h,hr,hj⟩
         injection h with h;injection h with a1 a2 a3 a4;subst a1;subst a3;subst a4
         rw [hj rfl]
     · rw [aw hj]
       constructor
       · intro h;exact ⟨ro,h,.inl rfl,fun h=>absurd h hj⟩
       · rintro ⟨ro2,h,hr,_⟩
         rcases hr with rfl | ⟨h',_⟩
         · exact h
         · exact absurd h' hj
   | map es =>
     simp only
     constructor
     · intro h;exact ⟨ro,h,.inl rfl,fun hj=>by subst hj;rw [hb] at h;cases h⟩
     · rintro ⟨ro',h,hr,hj⟩
       rcases hr with rfl | ⟨rfl,_⟩
       · exact h
       · rw [hb] at h;cases h
   | loop st j' env ps a b' =>
     simp only
     constructor
     · intro h;exact ⟨ro,h,.inl rfl,fun hj=>by subst hj;rw [hb] at h;cases h⟩
     · rintro ⟨ro',h,hr,hj⟩
       rcases hr with rfl | ⟨rfl,_⟩
       · exact h
       · rw [hb] at h;cases h
theorem qe {id:Nat} (hv:vo s'=vo s) {b:Blk} (h:getB s' id=some b) : ∃ b',getB s id=some b':=by
 have:vo s' id=vo s id:=by rw [hv]
 cases hb:getB s id with
 | some b'=>exact ⟨b',rfl⟩
 | none =>
   simp only [vo,h,hb] at this
   cases b<;>simp at this
theorem dS : ∀ (ids:List Nat) {K:aS} {s:aa},RS P fo base K ρ s w ->
 ∃ K',RS P fo base K' ρ (aq s ids) w/\(∀ B o v,K B o=some v->K' B o=some v)/\vo (aq s ids)=vo s/\(∀ id∈ids,KnownB fo K' ρ (vo s) s id)/\(aq s ids).length=s.length/\(∀ B o u,K' B o=some u->K B o=some u \/ ∃ i b,getB s i=some b/\(ρ i).1=B)
 | [],K,s,h=>⟨K,h,fun _ _ _ h=>h,rfl,by simp,rfl,fun _ _ _ h => .inl h⟩
 | id::ids,K,s,h=>by
   rw [fr]
   obtain ⟨K1,h1,g1,g2,g3,g4,g5⟩ : ∃ K1,RS P fo base K1 ρ (match getB s id with | some (.rows v _ e els)=>setB s id (.rows v true e els) | _=>s) w/\(∀ B o v,K B o=some v->K1 B o=some v) /\
    vo (match getB s id with | some (.rows v _ e els)=>setB s id (.rows v true e els) | _=>s)=vo s/\KnownB fo K1 ρ (vo s) s id/\(match getB s id with | some (.rows v _ e els)=>setB s id (.rows v true e els) | _=>s).length=s.length/\(∀ B o u,K1 B o=some u->K B o=some u \/ ∃ i b,getB s i=some b/\(ρ i).1=B):=by
    cases hb:getB s id with
    | none=>exact ⟨K,h,fun _ _ _ h=>h,rfl,(by intro v ro e els hb';rw [hb] at hb';cases hb'),rfl,fun _ _ _ h => .inl h⟩
    | some b =>
      cases b with
      | rows v ro e els =>
        obtain ⟨K1,a1,a2,a3,a4,a5⟩:=rM h hb
        exact ⟨K1,a1,a2,a3,a4,by simp [setB],fun B o u hu=>(a5 B o u hu).imp (fun h=>h) fun e=>⟨id,_,hb,e.symm⟩⟩
      | map es=>exact ⟨K,h,fun _ _ _ h=>h,rfl,(by intro v ro e els hb';rw [hb] at hb';cases hb'),rfl,fun _ _ _ h => .inl h⟩
      | loop=>exact ⟨K,h,fun _ _ _ h=>h,rfl,(by intro v ro e els hb';rw [hb] at hb';cases hb'),rfl,fun _ _ _ h => .inl h⟩
   obtain ⟨K2,h2,k1,k2,k3,k4,k5⟩:=dS ids h1
   refine ⟨K2,h2,fun B o v hv=>k1 _ _ _ (g1 _ _ _ hv),k2.trans g2,fun j hj => ?_,k4.trans g4,fun B o u hu => ?_⟩
   rcases List.mem_cons.1 hj with rfl | hj
   · exact g3.mono k1
   · have:=k3 j hj
     rw [g2] at this
     intro v ro e els hb'
     by_cases hji:j=id
     · exact this v true e els (jT.2 ⟨ro,hb',.inr ⟨hji,rfl⟩,fun _=>rfl⟩)
     · exact this v ro e els (jT.2 ⟨ro,hb',.inl rfl,fun h=>absurd h hji⟩)
   · rcases k5 B o u hu with hu | ⟨i,b,hi,e⟩
     · exact g5 B o u hu
     · obtain ⟨b',hb'⟩:=qe g2 hi
       exact .inr ⟨i,b',hb',e⟩
theorem Stp.close {ids:List Nat} (hK : ∀ B o v,K B o=some v->K' B o=some v) (hv:vo s'=vo s) (hl : ∀ B o u,K' B o=some u->K B o=some u \/ ∃ i b,getB s i=some b/\(ρ i).1=B):Stp base K ρ s w K' ρ s' w where
 known:=hK
 later:=by rw [hv];exact .refl
 below := .refl _ _
 frame _ _ _:=rfl
 img id b hb _:=let ⟨b',h⟩:=qe hv hb;⟨id,b',h,rfl⟩
 learn B o v h h' _:=by
  rcases hl B o v h with h | h
  · rw [h] at h';cases h'
  · exact h
theorem qj {n:Nat} {x:V} {d:D} {fz:List Nat} {v:Value} (h:RS P fo base K ρ s w) (hx:RV fo K ρ (vo s) x v) (hd:toD s n x=some (d,fz)) :
 ∃ K',RS P fo base K' ρ (aq s fz) w/\(∀ B o v,K B o=some v->K' B o=some v)/\vo (aq s fz)=vo s/\(∀ B o u,K' B o=some u->K B o=some u \/ ∃ i b,getB s i=some b/\(ρ i).1=B)/\RD fo K' d v:=by
 obtain ⟨K',h1,h2,h3,h4,_,h6⟩:=dS fz h
 exact ⟨K',h1,h2,h3,h6,gV rfl h4 n x d fz v hd (fun _ h=>h) (hx.mono h2 .refl)⟩
section
variable {m:Nat->Option Nat} {ρ':ax} {vv':Nat->Option (Nat×Nat)}
def nh (m:Nat->Option Nat) (ρ ρ':ax) (vv vv':Nat->Option (Nat×Nat)):Prop := ∀ i k p,m i=some k->vv i=some p->vv' k=some p/\ρ' k=ρ i
mutual
theorem RV.ren (hm:nh m ρ ρ' vv vv') : ∀ {x v},RV fo K ρ vv x v->RV fo K ρ' vv' (ren m x) v
 | _,_,.poison v=>by simp only [YtncfpmehhfdipaaGreat.ren];exact .poison v
 | _,_,.d x v h=>by simp only [YtncfpmehhfdipaaGreat.ren];exact .d x v h
 | _,_,.nils=>by simp only [YtncfpmehhfdipaaGreat.ren];exact .nils
 | _,_,.emp a=>by simp only [YtncfpmehhfdipaaGreat.ren];exact .emp a
 | _,_,.non a c=>by simp only [YtncfpmehhfdipaaGreat.ren];exact .non a c
 | _,_,.lit es a h=>by simp only [YtncfpmehhfdipaaGreat.ren];exact .lit es a h
 | _,_,.ptr id ver i j v e a h1 h2=>by
   simp only [YtncfpmehhfdipaaGreat.ren]
   cases hk:m id with
   | none=>exact .poison _
   | some k =>
     obtain ⟨e1,e2⟩:=hm id k _ hk h1
     exact .ptr k ver i j v e a e1 (fun h=>by rw [e2];exact h2 h)
 | _,_,.ms id ver off len v e a n cap h1 h2=>by
   simp only [YtncfpmehhfdipaaGreat.ren]
   cases hk:m id with
   | none=>exact .poison _
   | some k =>
     obtain ⟨e1,e2⟩:=hm id k _ hk h1
     exact .ms k ver off len v e a n cap e1 (fun h=>by rw [e2];exact h2 h)
 | _,_,.asl id ver i j len v e a n cap h1 h2=>by
   simp only [YtncfpmehhfdipaaGreat.ren]
   cases hk:m id with
   | none=>exact .poison _
   | some k =>
     obtain ⟨e1,e2⟩:=hm id k _ hk h1
     exact .asl k ver i j len v e a n cap e1 (fun h=>by rw [e2];exact h2 h)
 | _,_,.agg cs vs h=>by simp only [YtncfpmehhfdipaaGreat.ren];exact .agg _ vs (RVs.ren hm h)
 | _,_,.tuple cs vs h=>by simp only [YtncfpmehhfdipaaGreat.ren];exact .tuple _ vs (RVs.ren hm h)
 | _,_,.func f g a b va vb h h1 h2=>by simp only [YtncfpmehhfdipaaGreat.ren];exact .func f g _ _ va vb h (RVs.ren hm h1) (RVs.ren hm h2)
 | _,_,.map id v h=>by
   simp only [YtncfpmehhfdipaaGreat.ren]
   cases hk:m id with
   | none=>exact .poison _
   | some k =>
     obtain ⟨e1,e2⟩:=hm id k _ hk h
     rw [<- e2];exact .map k v e1
 | _,_,.yield id v h=>by
   simp only [YtncfpmehhfdipaaGreat.ren]
   cases hk:m id with
   | none=>exact .poison _
   | some k =>
     obtain ⟨e1,e2⟩:=hm id k _ hk h
     rw [<- e2];exact .yield k v e1
theorem RVs.ren (hm:nh m ρ ρ' vv vv') : ∀ {x v},RVs fo K ρ vv x v->RVs fo K ρ' vv' (renL m x) v
 | _,_,.nil=>by simp only [YtncfpmehhfdipaaGreat.renL];exact .nil
 | _,_,.cons x v xs vs h hs=>by simp only [YtncfpmehhfdipaaGreat.renL];exact .cons _ v _ vs (RV.ren hm h) (RVs.ren hm hs)
end
theorem mt : ∀ (xs:List V),renL m xs=xs.map (ren m)
 | []=>rfl
 | x::xs=>by simp [renL,mt xs]
theorem RBlk.ren (hm:nh m ρ ρ' vv vv') {b:Blk} {p:Nat×Nat} (h:RBlk P fo K ρ vv w b p):RBlk P fo K ρ' vv' w (renB m b) p:=by
 cases h with
 | rows ver ro esz els B size c t h1 h2 h3 h4 h5 h6 =>
   refine .rows ver ro esz _ B size c t h1 h2 (by simpa using h3) (fun r hr => ?_) (fun i r hi j x hj => ?_) h6
   · obtain ⟨r',hr',rfl⟩:=List.mem_map.1 hr
     rw [mt];simpa using h4 r' hr'
   · simp only [List.getElem?_map,Option.map_eq_some_iff] at hi
     obtain ⟨r',hr',rfl⟩:=hi
     rw [mt] at hj
     simp only [List.getElem?_map,Option.map_eq_some_iff] at hj
     obtain ⟨x',hx',rfl⟩:=hj
     obtain ⟨v,e1,e2,e3⟩:=h5 i r' hr' j x' hx'
     exact ⟨v,e1,e2.ren hm,e3⟩
 | map es B size ents clock h1 h2 h3 h4 =>
   refine .map _ B size ents clock h1 (by simpa using h2) (fun i k x hi => ?_) h4
   simp only [List.getElem?_map,Option.map_eq_some_iff] at hi
   obtain ⟨⟨k',x'⟩,hk,he⟩:=hi
   injection he with e1 e2;subst e1;subst e2
   obtain ⟨e,e1,e2,e3⟩:=h3 i k' x' hk
   exact ⟨e,e1,e2,e3.ren hm⟩
 | loop st j env params a b' B size l N h1 h2 h3 h4 h5 h6 h7 h8 h9 h10 =>
   refine .loop st j _ params a b' B size l N h1 h2 h3 (fun t x hx => ?_) h5 h6 h7 h8 h9 h10
   simp only [uV,List.mem_map] at hx
   obtain ⟨⟨t',x'⟩,hx',he⟩:=hx
   injection he with e1 e2;subst e1;subst e2
   exact (h4 t' x' hx').ren hm
end
end Go.Proofs.YtncfpmehhfdipaaGreat
namespace Go.Proofs.YtncfpmehhfdipaaGreat
open Go.RowKit
variable {P:Program} {fo:Nat->Option FuncId} {K K' K0:aS} {ρ ρ0:ax} {w w0:World} {base:Nat} {s s' bs:aa} {vv:Nat->Option (Nat×Nat)}
theorem dv (s:aa) : ∀ (n:Nat) (todo seen:List Nat),∃ t,aM s n todo seen=seen++t/\(∀ i∈t,∃ b,getB s i=some b)/\(seen.Nodup->(aM s n todo seen).Nodup)
 | 0,todo,seen=>⟨[],by simp [aM],by simp,by simp [aM]⟩
 | n+1,[],seen=>⟨[],by simp [aM],by simp,by simp [aM]⟩
 | n+1,i::todo,seen=>by
   simp only [aM]
   split
   · exact dv s n todo seen
   · rename_i hc
     cases hb:getB s i with
     | none=>exact dv s n todo seen
     | some b =>
       obtain ⟨t,h1,h2,h3⟩:=dv s n (todo++du b) (seen++[i])
       refine ⟨i::t,by simp only [];rw [h1];simp,fun j hj => ?_,fun hn=>h3 ?_⟩
       · rcases List.mem_cons.1 hj with rfl | hj
         · exact ⟨b,hb⟩
         · exact h2 j hj
       · have:i ∉ seen:=by simpa using hc
         rw [List.nodup_append]
         exact ⟨hn,by simp,fun a ha b hb=>by simp at hb;subst hb;rintro rfl;exact this ha⟩
theorem hG {i j:Nat} {ids:List Nat} : pos (i::ids) j=if i=j then some 0 else (pos ids j).map (· + 1):=by
 simp [pos,List.findIdx?_cons]
theorem cG : ∀ {ids:List Nat} {i k:Nat},pos ids i=some k->ids[k]?=some i
 | [],_,_,h=>by simp [pos] at h
 | a::ids,i,k,h=>by
   rw [hG] at h
   split at h
   · injection h with h;subst h;simp;assumption
   · simp only [Option.map_eq_some_iff] at h
     obtain ⟨k',h,rfl⟩:=h
     simpa using cG h
theorem ky : ∀ {ids:List Nat} {i k:Nat},ids.Nodup->ids[k]?=some i->pos ids i=some k
 | [],_,_,_,h=>by simp at h
 | a::ids,i,k,hn,h=>by
   rw [hG]
   cases k with
   | zero=>simp at h;simp [h]
   | succ k =>
     simp at h
     have hn':=List.nodup_cons.1 hn
     have hmem:=List.mem_of_getElem? h
     rw [if_neg (by intro e;rw [e] at hn';exact hn'.1 hmem),ky hn'.2 h]
     rfl
theorem gZ : ∀ {ids:List Nat} {i:Nat},pos ids i=none ↔ i ∉ ids
 | [],_=>by simp [pos]
 | a::ids,i=>by
   rw [hG]
   split
   · rename_i h;simp [h]
   · rename_i h;simp [gZ,Ne.symm h]
theorem dC {ids:List Nat} {m:Nat->Option Nat} {k:Nat} : getB (pack s ids m) k=(ids[k]?).bind fun i=>(getB s i).map (renB m):=by
 simp only [getB,pack,List.getElem?_map]
 cases ids[k]?<;>rfl
theorem mf {ids:List Nat} {m:Nat->Option Nat} {k:Nat} : vo (pack s ids m) k=(ids[k]?).bind (vo s):=by
 simp only [vo,dC]
 cases ids[k]? with
 | none=>rfl
 | some i =>
   simp only [Option.bind_some]
   unfold vo
   cases getB s i with
   | none=>rfl
   | some b=>cases b<;>rfl
def aJ (ρ:ax) (ids:List Nat):ax:=fun k=>ρ (ids.getD k 0)
theorem eI {ids:List Nat} : nh (pos ids) ρ (aJ ρ ids) (vo s) (vo (pack s ids (pos ids))):=fun i k p h h'=>by
 have:=cG h
 exact ⟨by rw [mf,this];exact h',by simp [aJ,List.getD,this]⟩
theorem RS.pack {ids:List Nat} (h:RS P fo base K ρ s w) (hn:ids.Nodup):RS P fo base K (aJ ρ ids) (pack s ids (pos ids)) w where
 known:=h.known
 blk k b hb:=by
  rw [dC] at hb
  cases hi:ids[k]? with
  | none=>simp [hi] at hb
  | some i =>
    simp only [hi,Option.bind_some,Option.map_eq_some_iff] at hb
    obtain ⟨b0,h0,rfl⟩:=hb
    obtain ⟨h1,h2⟩:=h.blk i b0 h0
    have e:aJ ρ ids k=ρ i:=by simp [aJ,List.getD,hi]
    rw [e]
    exact ⟨h1.ren eI,h2⟩
 inj j k a b ha hb he:=by
  rw [dC] at ha hb
  cases hj:ids[j]? with
  | none=>simp [hj] at ha
  | some i =>
    cases hk:ids[k]? with
    | none=>simp [hk] at hb
    | some i' =>
      simp only [hj,hk,Option.bind_some,Option.map_eq_some_iff] at ha hb
      obtain ⟨a0,ha,_⟩:=ha
      obtain ⟨b0,hb,_⟩:=hb
      have e1:aJ ρ ids j=ρ i:=by simp [aJ,List.getD,hj]
      have e2:aJ ρ ids k=ρ i':=by simp [aJ,List.getD,hk]
      rw [e1,e2] at he
      have:=h.inj i i' a0 b0 ha hb he
      subst this
      have h1:=ky hn hj
      have h2:=ky hn hk
      rw [h1] at h2;injection h2
 base:=h.base
 one:=h.one
theorem Stp.pack {ids:List Nat} (h:Stp base K0 ρ0 bs w0 K ρ s w) (hk : ∀ i,i < bs.length->ids[i]?=some i):Stp base K0 ρ0 bs w0 K (aJ ρ ids) (pack s ids (pos ids)) w where
 known:=h.known
 later id v e hv:=by
  obtain ⟨v',h1,h2,h3,h4⟩:=h.later id v e hv
  have hlt:id < bs.length:=by
   unfold vo at hv
   split at hv
   · exact a8 (by assumption)
   · exact a8 (by assumption)
   · cases hv
  exact ⟨v',by rw [mf,hk id hlt];exact h1,h2,fun he=>by rw [<- h3 he];simp [aJ,List.getD,hk id hlt],h4⟩
 below:=h.below
 frame:=h.frame
 img k b' hb hlt:=by
  rw [dC] at hb
  cases hi:ids[k]? with
  | none=>simp [hi] at hb
  | some i =>
    simp only [hi,Option.bind_some,Option.map_eq_some_iff] at hb
    obtain ⟨b0,h0,_⟩:=hb
    have e:aJ ρ ids k=ρ i:=by simp [aJ,List.getD,hi]
    rw [e] at hlt ⊢
    exact h.img i b0 h0 hlt
 learn:=h.learn
theorem gk (s:aa) (k:Nat) (roots:List Nat):(ci s k roots).Nodup /\ ∀ i,i < k->(ci s k roots)[i]?=some i:=by
 obtain ⟨t,h1,_,h3⟩:=dv s (aA s) (roots++gA s (List.range k)) (List.range k)
 refine ⟨h3 List.nodup_range,fun i hi => ?_⟩
 unfold ci
 rw [h1,List.getElem?_append_left (by simpa using hi)]
 simp [hi]
theorem tL {j i:Nat} {b:Option Blk} (h:i < s.length):getB (s.set i b) j=if j=i then b else getB s j:=by
 split
 · rename_i e;subst e;exact a9 h
 · rename_i e;exact aw e
theorem ji {b:Option Blk} : getB (b::s) 0=b:=by simp [getB]
theorem jj {b:Option Blk} {k:Nat} : getB (b::s) (k+1)=getB s k:=by simp [getB]
theorem eC {m:Nat->Option Nat} : ∀ (ids:List Nat) (bs s:aa),(ec m ids bs s).length=s.length
 | [],bs,s=>by simp [ec]
 | i::ids,[],s=>by simp [ec]
 | i::ids,b::bs,s=>by simp [ec,eC ids bs]
theorem lP {m:Nat->Option Nat} {j:Nat} : ∀ {ids:List Nat} {bs s:aa},ids.Nodup->(∀ i∈ids,i < s.length)->ids.length<=bs.length ->
 getB (ec m ids bs s) j=match pos ids j with | some k=>(getB bs k).map (renB m) | none=>getB s j
 | [],bs,s,_,_,_=>by simp [ec,pos]
 | i::ids,[],s,_,_,h=>by simp at h
 | i::ids,b::bs,s,hn,hl,h=>by
   have hn':=List.nodup_cons.1 hn
   rw [ec,lP hn'.2 (fun a ha=>by simpa using hl a (by simp [ha])) (by simpa using h),hG,tL (hl i (by simp))]
   by_cases hij:i=j
   · subst hij
     rw [gZ.2 hn'.1,if_pos rfl,if_pos rfl]
     simp [ji]
   · rw [if_neg hij]
     cases hp:pos ids j with
     | none=>simp [Ne.symm hij]
     | some k=>simp [jj]
theorem mR {a b:aa} {j:Nat} : getB (a++b) j=if j < a.length then getB a j else getB b (j - a.length):=by
 unfold getB
 split
 · rw [List.getElem?_append_left (by assumption)]
 · rw [List.getElem?_append_right (by omega)]
theorem tM {f:Blk->Blk} {k:Nat} : getB (s.map fun b=>b.map f) k=(getB s k).map f:=by
 simp only [getB,List.getElem?_map]
 cases s[k]?<;>rfl
theorem rc {n k:Nat} : getB (s.drop n) k=getB s (n+k):=by simp [getB]
theorem eA : ∀ {fz:List Nat} {s:aa} {j:Nat},j ∉ fz->getB (aq s fz) j=getB s j
 | [],_,_,_=>rfl
 | id::fz,s,j,h=>by
   rw [fr,eA (fun hh=>h (by simp [hh]))]
   have hj:j≠id:=fun e=>h (by simp [e])
   split
   · exact aw hj
   · rfl
end Go.Proofs.YtncfpmehhfdipaaGreat
namespace Go.Proofs.YtncfpmehhfdipaaGreat
open Go.RowKit
variable {P:Program} {fo:Nat->Option FuncId} {K K' K0 K1 K2:aS} {ρ ρ0 ρ2:ax} {w w' w0:World} {base:Nat} {s s' bs:aa} {vv:Nat->Option (Nat×Nat)}
def Done (P:Program) (fo:Nat->Option FuncId) (base:Nat) (K:aS) (ρ:ax) (s:aa) (w:World) (r:V) (s':aa):Ending->World->Prop:=fun e w' =>
 ∃ v K' ρ',e = .returned v/\RS P fo base K' ρ' s' w'/\Stp base K ρ s w K' ρ' s' w'/\RV fo K' ρ' (vo s') r v
def Called (P:Program) (fo:Nat->Option FuncId) (ρ:ax) (t:Tgt) (vargs:Array Value) (w:World) (R:Ending->World->Prop):Prop :=
 match t with
 | .fn f => ∀ g,fo f=some g->CallsIn Fence.wide 0 P g vargs w R
 | .round id => ∃ l,w.heap[(ρ id).1]?=some (.loop l)/\vargs.size=l.params.size/\RoundIn Fence.wide 0 P (ρ id).1 l.fn ((l.params.zip vargs).foldl (fun tmps (t,a)=>tmps.setIfInBounds t a) l.tmps) l.assign l.body w R
theorem Called.mono {t:Tgt} {vargs:Array Value} {R R':Ending->World->Prop} (h:Called P fo ρ t vargs w R) (hr : ∀ e w,R e w->R' e w):Called P fo ρ t vargs w R':=by
 cases t with
 | fn f=>exact fun g hg=>(h g hg).mono hr
 | round id=>exact let ⟨l,h1,h2,h3⟩:=h;⟨l,h1,h2,h3.mono hr⟩
def eE (P:Program) (fo:Nat->Option FuncId) (base:Nat) (call:CallSem):Prop :=
 ∀ (t:Tgt) (K:aS) (ρ:ax) (bs:aa) (w:World) (args:List V) (vargs:Array Value) (r:V) (bs':aa),
   RS P fo base K ρ bs w->RVs fo K ρ (vo bs) args vargs.toList->call t args bs=some (r,bs')->Called P fo ρ t vargs w (Done P fo base K ρ bs w r bs')
theorem dR {T:List Nat} (hK : ∀ id∈T,KnownB fo K' ρ (vo s) s id) (hKK : ∀ B o v,K B o=some v->K' B o=some v) : ∀ {args as:List V} {vs:List Value} {flags:List Bool} {fz:List Nat},RVs fo K ρ (vo s) args vs ->
 ai s flags args=some (as,fz)->(∀ i∈fz,i∈T)->RVs fo K' ρ (vo s) as vs
 | _,_,_,flags,_,.nil,h,_=>by
   have:ai s flags []=some ([],[]):=by cases flags with | nil=>rfl | cons b _=>cases b<;>rfl
   rw [this] at h;injection h with h;injection h with h1 h2;subst h1;exact .nil
 | _,as,_,flags,fz,.cons x v xs vs hx hs,h,hT=>by
   have step : ∀ fs:List Bool,(match toD s bB x,ai s fs xs with | some (d,a),some (ys,b)=>some (V.d d::ys,a++b) | _,_=>none)=some (as,fz)->RVs fo K' ρ (vo s) as (v::vs):=fun fs h=>by
    split at h<;>try (cases h;done)
    rename_i d a ys b e1 e2
    injection h with h;injection h with h1 h2;subst h1;subst h2
    exact .cons _ _ _ _ (.d _ _ (gV rfl hK bB x d a v e1 (fun i hi=>hT i (by simp [hi])) (hx.mono hKK .refl))) (dR hK hKK hs e2 fun i hi=>hT i (by simp [hi]))
   cases flags with
   | nil=>exact step [] h
   | cons b fs =>
     cases b with
     | false=>exact step fs h
     | true =>
       simp only [ai,Option.map_eq_some_iff] at h
       obtain ⟨⟨ys,a⟩,h,he⟩:=h
       injection he with h1 h2;subst h1;subst h2
       exact .cons _ _ _ _ (hx.mono hKK .refl) (dR hK hKK hs h hT)
theorem RD.flat {d:D} {v:Value} (h:RD fo K d v) (hf:gl d=true):RD fo K' d v:=by
 cases h with
 | tuple cs vs hvs =>
   simp only [gl] at hf
   refine .tuple _ _ (.of_get hvs.length fun i d v hd hv => ?_)
   obtain ⟨u,e1,e2⟩:=hvs.get hd
   rw [hv] at e1;injection e1 with e1;subst e1
   have:=List.all_eq_true.1 hf d (List.mem_of_getElem? hd)
   cases e2<;>first | exact .bool _ | exact .int _ _ | exact .str _ | (simp at this;done)
 | bool=>exact .bool _
 | int=>exact .int _ _
 | str=>exact .str _
 | nilp=>exact .nilp
 | nilf=>exact .nilf
 | nilm=>exact .nilm
 | nili=>exact .nili
 | _=>simp [gl] at hf
def aY (ρ ρ2:ax) (ids:List Nat) (n0:Nat):ax:=fun j=>if j < n0 then (match pos ids j with | some k=>ρ2 k | none=>ρ j) else ρ2 (ids.length+(j - n0))
theorem dh {m:Nat->Option Nat} {ids:List Nat} {j:Nat} (hn:ids.Nodup) (hl : ∀ i∈ids,i < s.length) (h:ids.length<=bs.length) :
 getB (aj ids bs s m) j=if j < s.length then (match pos ids j with | some k=>(getB bs k).map (renB m) | none=>getB s j) else (getB bs (ids.length+(j - s.length))).map (renB m):=by
 unfold aj
 rw [mR,eC,lP hn hl h,tM,rc]
 all_goals (cases pos ids j<;>rfl)
theorem uJ {m:Nat->Option Nat} {b:Option Blk} {a c:aa} {i j:Nat} (h:getB a i=(getB c j).map (renB m)):vo a i=vo c j:=by
 unfold vo
 rw [h]
 cases getB c j with
 | none=>rfl
 | some b=>cases b<;>rfl
theorem aaL {a c:aa} {i j:Nat} (h:getB a i=getB c j):vo a i=vo c j:=by unfold vo;rw [h]
theorem aaK {id:Nat} {p:Nat×Nat} (h:vo s id=some p) : ∃ b,getB s id=some b/\id < s.length:=by
 unfold vo at h
 cases hb:getB s id with
 | none=>simp [hb] at h
 | some b=>exact ⟨b,rfl,a8 hb⟩
section
variable {ids:List Nat}
theorem gt {m:Nat->Option Nat} {j:Nat} (hn:ids.Nodup) (hl : ∀ i∈ids,i < s.length) (h:ids.length<=bs.length) :
 vo (aj ids bs s m) j=if j < s.length then (match pos ids j with | some k=>vo bs k | none=>vo s j) else vo bs (ids.length+(j - s.length)):=by
 have:=dh (m:=m) (j:=j) hn hl h
 split at this
 · rename_i hj
   rw [if_pos hj]
   split at this
   · exact uJ (b:=none) this
   · exact aaL this
 · rename_i hj
   rw [if_neg hj]
   exact uJ (b:=none) this
theorem jE (hn:ids.Nodup) (hl : ∀ i∈ids,i < s.length) (h:ids.length<=bs.length) :
 nh (am ids bs s.length) ρ2 (aY ρ ρ2 ids s.length) (vo bs) (vo (aj ids bs s (am ids bs s.length))):=fun i k p hk hp=>by
 rw [gt hn hl h]
 unfold am at hk
 split at hk
 · have hkl:=hl k (List.mem_of_getElem? hk)
   simp only [aY,if_pos hkl,ky hn hk]
   exact ⟨hp,trivial⟩
 · rename_i hi
   split at hk<;>try (cases hk;done)
   injection hk with hk;subst hk
   have hnl:¬ (s.length+(i - ids.length) < s.length):=by omega
   have e:ids.length+(s.length+(i - ids.length) - s.length)=i:=by omega
   simp only [aY,if_neg hnl,e]
   exact ⟨hp,trivial⟩
theorem RS.back (hS:RS P fo base K1 ρ s w) (hn:ids.Nodup) (hl : ∀ i∈ids,∃ b,getB s i=some b) (hC:RS P fo base K2 ρ2 bs w')
 (hT:Stp base K1 (aJ ρ ids) (YtncfpmehhfdipaaGreat.pack s ids (pos ids)) w K2 ρ2 bs w') (h:ids.length<=bs.length) :
 RS P fo base K2 (aY ρ ρ2 ids s.length) (aj ids bs s (am ids bs s.length)) w' /\
 Stp base K1 ρ s w K2 (aY ρ ρ2 ids s.length) (aj ids bs s (am ids bs s.length)) w':=by
 have hl' : ∀ i∈ids,i < s.length:=fun i hi=>let ⟨b,hb⟩:=hl i hi;a8 hb
 have hren:nh (am ids bs s.length) ρ2 (aY ρ ρ2 ids s.length) (vo bs) (vo (aj ids bs s (am ids bs s.length))):=jE hn hl' h
 have hpk : ∀ k b,getB (YtncfpmehhfdipaaGreat.pack s ids (pos ids)) k=some b -> ∃ i b0,ids[k]?=some i/\getB s i=some b0/\aJ ρ ids k=ρ i:=fun k b hb=>by
  rw [dC] at hb
  cases hi:ids[k]? with
  | none=>simp [hi] at hb
  | some i =>
    simp only [hi,Option.bind_some,Option.map_eq_some_iff] at hb
    obtain ⟨b0,h0,_⟩:=hb
    exact ⟨i,b0,rfl,h0,by simp [aJ,List.getD,hi]⟩
 have hpriv : ∀ j b,getB s j=some b->pos ids j=none -> ∀ k b',getB (YtncfpmehhfdipaaGreat.pack s ids (pos ids)) k=some b'->(aJ ρ ids k).1≠(ρ j).1:=fun j b hj hp k b' hk he=>by
  obtain ⟨i,b0,h1,h2,h3⟩:=hpk k b' hk
  rw [h3] at he
  have:=hS.inj i j b0 b h2 hj he
  subst this
  exact (gZ.1 hp) (List.mem_of_getElem? h1)
 have hL:Later ρ (aY ρ ρ2 ids s.length) (vo s) (vo (aj ids bs s (am ids bs s.length))):=fun id v e hv=>by
  obtain ⟨b,hb,hlt⟩:=aaK hv
  rw [gt hn hl' h,if_pos hlt]
  simp only [aY,if_pos hlt]
  cases hp:pos ids id with
  | none=>exact ⟨v,hv,Nat.le_refl _,fun _=>rfl,fun _=>rfl⟩
  | some k =>
    obtain ⟨v',a1,a2,a3,a4⟩:=hT.later k v e (by rw [mf,cG hp];exact hv)
    refine ⟨v',a1,a2,fun he => ?_,a4⟩
    simp only [a3 he]
    simp [aJ,List.getD,cG hp]
 have hres : ∀ j b,getB (aj ids bs s (am ids bs s.length)) j=some b ->
  (∃ k b0,getB bs k=some b0/\b=renB (am ids bs s.length) b0/\aY ρ ρ2 ids s.length j=ρ2 k/\((j < s.length/\pos ids j=some k)\/(¬ j < s.length/\k=ids.length+(j - s.length)))) \/
  (getB s j=some b/\pos ids j=none/\aY ρ ρ2 ids s.length j=ρ j):=fun j b hj=>by
  rw [dh hn hl' h] at hj
  split at hj
  · rename_i hlt
    split at hj
    · rename_i k hk
      simp only [Option.map_eq_some_iff] at hj
      obtain ⟨b0,h0,rfl⟩:=hj
      exact .inl ⟨k,b0,h0,rfl,by simp only [aY,if_pos hlt,hk],.inl ⟨hlt,hk⟩⟩
    · rename_i hk
      exact .inr ⟨hj,hk,by simp only [aY,if_pos hlt,hk]⟩
  · rename_i hlt
    simp only [Option.map_eq_some_iff] at hj
    obtain ⟨b0,h0,rfl⟩:=hj
    exact .inl ⟨_,b0,h0,rfl,by simp only [aY,if_neg hlt],.inr ⟨hlt,rfl⟩⟩
 have hcross : ∀ k b0 j b,getB bs k=some b0->getB s j=some b->pos ids j=none->(ρ2 k).1≠(ρ j).1:=fun k b0 j b hk hj hp he=>by
  have hlt:=(hS.blk j b hj).1.lt
  obtain ⟨i,b1,h1,h2⟩:=hT.img k b0 hk (by rw [he];exact hlt)
  exact hpriv j b hj hp i b1 h1 (h2.trans he)
 refine ⟨⟨hC.known,fun j b hj => ?_,fun i j a b ha hb he => ?_,hC.base,hC.one⟩,⟨hT.known,hL,hT.below,fun B hB hno => ?_,fun j b hj hlt => ?_,fun B o v hv hv' hB => ?_⟩⟩
 · rcases hres j b hj with ⟨k,b0,h0,rfl,hp,_⟩ | ⟨h0,hp,hpl⟩
   · rw [hp]
     obtain ⟨a1,a2⟩:=hC.blk k b0 h0
     exact ⟨a1.ren hren,a2⟩
   · rw [hpl]
     obtain ⟨a1,a2⟩:=hS.blk j b h0
     refine ⟨a1.mono hT.known hL (hT.frame _ a1.lt fun k b' hk=>hpriv j b h0 hp k b' hk) (fun hno o => ?_),a2⟩
     cases hk2:K2 (ρ j).1 o with
     | none=>rfl
     | some u =>
       obtain ⟨i,b1,h1,h2⟩:=hT.learn _ o u hk2 (hno o) a1.lt
       exact absurd h2 (hpriv j b h0 hp i b1 h1)
 · rcases hres i a ha with ⟨k,b0,h0,rfl,hp,hk⟩ | ⟨h0,hp,hpl⟩<;>rcases hres j b hb with ⟨k',b0',h0',rfl,hp',hk'⟩ | ⟨h0',hp',hpl'⟩
   · rw [hp,hp'] at he
     have:=hC.inj k k' b0 b0' h0 h0' he
     subst this
     rcases hk with ⟨l1,p1⟩ | ⟨l1,p1⟩<;>rcases hk' with ⟨l2,p2⟩ | ⟨l2,p2⟩
     · have q1:=cG p1;rw [cG p2] at q1;injection q1 with q1;exact q1.symm
     · have:=(List.getElem?_eq_some_iff.1 (cG p1)).1;omega
     · have:=(List.getElem?_eq_some_iff.1 (cG p2)).1;omega
     · omega
   · rw [hp,hpl'] at he
     exact absurd he (hcross k b0 j b h0 h0' hp')
   · rw [hpl,hp'] at he
     exact absurd he.symm (hcross k' b0' i a h0' h0 hp)
   · rw [hpl,hpl'] at he
     exact hS.inj i j a b h0 h0' he
 · refine hT.frame B hB fun k b hk => ?_
   obtain ⟨i,b0,_,h2,h3⟩:=hpk k b hk
   rw [h3];exact hno i b0 h2
 · rcases hres j b hj with ⟨k,b0,h0,rfl,hp,_⟩ | ⟨h0,hp,hpl⟩
   · rw [hp] at hlt ⊢
     obtain ⟨k',b1,h1,h2⟩:=hT.img k b0 h0 hlt
     obtain ⟨i,b2,_,h4,h5⟩:=hpk k' b1 h1
     exact ⟨i,b2,h4,by rw [<- h5];exact h2⟩
   · exact ⟨j,b,h0,by rw [hpl]⟩
 · obtain ⟨k,b1,h1,h2⟩:=hT.learn B o v hv hv' hB
   obtain ⟨i,b2,_,h4,h5⟩:=hpk k b1 h1
   exact ⟨i,b2,h4,by rw [<- h5];exact h2⟩
end
theorem Done.mk' {v:Value} {r:V} (h1:RS P fo base K' ρ2 s' w') (h2:Stp base K ρ s w K' ρ2 s' w') (h3:RV fo K' ρ2 (vo s') r v):Done P fo base K ρ s w r s' (.returned v) w':=⟨v,K',ρ2,rfl,h1,h2,h3⟩
theorem Called.ren {t t':Tgt} {ρ':ax} {m:Nat->Option Nat} {vargs:Array Value} {R:Ending->World->Prop} (ht:iq m t=some t') (hm : ∀ i k,m i=some k->ρ' k=ρ i)
 (h:Called P fo ρ' t' vargs w R):Called P fo ρ t vargs w R:=by
 cases t with
 | fn f=>injection ht with ht;subst ht;exact h
 | round id =>
   simp only [iq,Option.map_eq_some_iff] at ht
   obtain ⟨k,hk,rfl⟩:=ht
   have:=hm id k hk
   simp only [Called,this] at h
   exact h
theorem jL {ids:List Nat} {m:Nat->Option Nat} (h : ∀ i∈ids,getB s i=getB s' i):pack s ids m=pack s' ids m:=by
 unfold pack
 exact List.map_congr_left fun i hi=>by rw [h i hi]
theorem sZ {m:Nat->Option Nat} {d:D} : ren m (.d d) = .d d:=by simp [ren]
theorem eB {call:CallSem} {t:Tgt} {flags:List Bool} {args:List V} {vargs:Array Value} {r:V} (hc:eE P fo base call) (hS:RS P fo base K ρ s w) (hargs:RVs fo K ρ (vo s) args vargs.toList)
 (h:aV call t flags args s=some (r,s')):Called P fo ρ t vargs w (Done P fo base K ρ s w r s'):=by
 unfold aV at h
 cases hca:ai s flags args with
 | none=>simp [hca] at h
 | some p =>
   obtain ⟨as,fz⟩:=p
   simp only [hca] at h
   generalize hids:aM s (aA s) (aN t++refsL as) []=ids at h
   unfold dl at h
   split at h<;>try (cases h;done)
   rename_i hfz
   split at h<;>try (cases h;done)
   rename_i t' ht'
   split at h<;>try (cases h;done)
   rename_i r0 bs hcall
   split at h<;>try (cases h;done)
   rename_i hlen
   injection h with h;injection h with h1 h2;subst h1;subst h2
   obtain ⟨hlen,_⟩:=hlen
   obtain ⟨K1,c1,c2,c3,c4,c5,c6⟩:=dS fz hS
   have hreach:ids.Nodup /\ ∀ i∈ids,∃ b,getB s i=some b:=by
    obtain ⟨tt,e1,e2,e3⟩:=dv s (aA s) (aN t++refsL as) []
    rw [hids] at e1 e3
    exact ⟨e3 (by simp),fun i hi=>e2 i (by rw [e1] at hi;simpa using hi)⟩
   have hdis : ∀ i∈ids,i ∉ fz:=fun i hi=>by have:=List.all_eq_true.1 hfz i hi;simpa using this
   have hpk:YtncfpmehhfdipaaGreat.pack (aq s fz) ids (pos ids)=YtncfpmehhfdipaaGreat.pack s ids (pos ids):=jL fun i hi=>eA (hdis i hi)
   have hP:=c1.pack hreach.1
   have hren:nh (pos ids) ρ (aJ ρ ids) (vo s) (vo (YtncfpmehhfdipaaGreat.pack s ids (pos ids))):=eI
   have hA:RVs fo K1 (aJ ρ ids) (vo (YtncfpmehhfdipaaGreat.pack s ids (pos ids))) (renL (pos ids) as) vargs.toList :=
    (dR c4 c2 hargs hca fun _ h=>h).ren hren
   rw [hpk] at hP
   have hmain:=hc t' K1 (aJ ρ ids) (YtncfpmehhfdipaaGreat.pack s ids (pos ids)) w _ vargs r0 bs hP hA hcall
   refine Called.ren ht' (fun i k hk=>by simp [aJ,List.getD,cG hk]) (hmain.mono fun e w' he => ?_)
   obtain ⟨v,K2,ρ2,rfl,d1,d2,d3⟩:=he
   by_cases hlend:bg ids bs r0=true
   · rw [if_pos hlend]
     simp only [bg,Bool.and_eq_true,List.isEmpty_iff] at hlend
     obtain ⟨⟨hi0,hb0⟩,hfl⟩:=hlend
     subst hi0;subst hb0
     split at hfl<;>try (cases hfl;done)
     rename_i x
     have hold : ∀ B,B < w.heap.size->w'.heap[B]?=w.heap[B]?:=fun B hB=>d2.frame B hB fun id b hb=>by simp [YtncfpmehhfdipaaGreat.pack,getB] at hb
     have hstore : ∀ m,aj [] [] s m=s:=fun m=>by simp [aj,ec]
     rw [hstore,sZ]
     refine .mk' (K':=K) (ρ2:=ρ) ⟨fun B o u hu => ?_,fun j b hj => ?_,hS.inj,d1.base,hS.one⟩ ⟨fun _ _ _ h=>h,.refl,d2.below,fun B hB _=>hold B hB,fun j b hj _=>⟨j,b,hj,rfl⟩,fun B o u h1 h2 _=>by rw [h1] at h2;cases h2⟩ ?_
     · obtain ⟨c,ty,z,e1,e2⟩:=hS.known B o u hu
       exact ⟨c,ty,z,(hold B (Array.getElem?_eq_some_iff.1 e1).1).trans e1,e2⟩
     · obtain ⟨a1,a2⟩:=hS.blk j b hj
       exact ⟨a1.mono (fun _ _ _ h=>h) .refl (hold _ a1.lt) (fun h=>h),a2⟩
     · cases d3 with
       | d _ _ hd=>exact .d _ _ (hd.flat hfl)
   · rw [if_neg hlend]
     have hl1 : ∀ i∈ids,∃ b,getB (aq s fz) i=some b:=fun i hi=>by rw [eA (hdis i hi)];exact hreach.2 i hi
     rw [<- hpk] at d2
     obtain ⟨e1,e2⟩:=c1.back hreach.1 hl1 d1 d2 hlen
     have hlt : ∀ i∈ids,i < (aq s fz).length:=fun i hi=>let ⟨b,hb⟩:=hl1 i hi;a8 hb
     have hrv:=d3.ren (jE (ρ:=ρ) hreach.1 hlt hlen)
     rw [c5] at e1 e2 hrv
     exact .mk' e1 ((Stp.close (ids:=fz) c2 c3 c6).trans e2) hrv
end Go.Proofs.YtncfpmehhfdipaaGreat
namespace Go.Proofs.YtncfpmehhfdipaaGreat
open Go.RowKit
variable {P:Program} {fo:Nat->Option FuncId} {K:aS} {ρ:ax} {w:World} {tr:FuncId->Option Nat} {base:Nat} {s s':aa} {vv:Nat->Option (Nat×Nat)}
theorem n5 {t:TypeId} (h:dG P t = .int) : ∃ k,P.underlying t=some (.int k):=by
 unfold dG at h
 split at h<;>try (cases h;done)
 · rename_i k hk;exact ⟨k,hk⟩
 all_goals (split at h<;>cases h)
theorem n4 {t:TypeId} (h:dG P t = .str):P.underlying t=some .string:=by
 unfold dG at h
 split at h<;>try (cases h;done)
 · assumption
 all_goals (split at h<;>cases h)
theorem fG (n:Nat) : ∀ (l:List (IntKind×Int×Int)),((l.map (fun q=>Value.int q.1 q.2.1)).zip (l.map (fun q=>Value.int q.1 q.2.1))).all (fun (x,y)=>Instr.sameBits n x y)=true
 | []=>rfl
 | q::l=>by simp only [List.map_cons,List.zip_cons_cons,List.all_cons,fG n l,Bool.and_true];cases n<;>simp [Instr.sameBits]
theorem tZ {c:Cmp} {x y:D} {v u:Value} (hx:RD fo K x v) (hy:RD fo K y u) (h:eqK c x y=some true):v=u/\Instr.sameBits 10000 v u=true:=by
 unfold eqK at h
 split at h<;>try (cases h;done)
 · cases hx;cases hy
   split at h<;>try (cases h;done)
   rename_i hk;subst hk
   injection h with h
   simp only [beq_iff_eq] at h
   subst h
   exact ⟨rfl,by simp [Instr.sameBits]⟩
 · cases hx;cases hy
   injection h with h
   have h1:=(MapKept.bytes_beq _ _).1 h
   subst h1
   exact ⟨rfl,by simp [Instr.sameBits,MapKept.bytes_beq]⟩
 · split at h<;>try (cases h;done)
   cases hx with | agg _ vs hvs =>
   cases hy with | agg _ ws hws =>
   obtain ⟨_,l,e1,e2,e3⟩:=fp hvs hws h
   have hall : ∀ q∈l,q.2.1=q.2.2:=fun q hq=>by have:=List.all_eq_true.1 e3.symm q hq;simpa using this
   have:ws.toList=vs.toList:=by rw [e1,e2];exact List.map_congr_left fun q hq=>by rw [hall q hq]
   have hw:ws=vs:=by cases ws;cases vs;simpa using this
   subst hw
   refine ⟨rfl,?_⟩
   simp only [Instr.sameBits,beq_self_eq_true,Bool.true_and,e1]
   exact fG 9999 l
theorem lS {t:TypeId} {x y:D} {v u:Value} {b:Bool} (hx:RD fo K x v) (hy:RD fo K y u) (h:eqK (dG P t) x y=some b) (hc : ∃ n,dG P t = .flat n) (w:World) :
 (Op.equal t v u).run P w = .ok b w:=by
 obtain ⟨n,hc⟩:=hc
 rw [hc] at h
 cases x<;>cases y<;>simp only [eqK] at h<;>try (cases h;done)
 split at h<;>try (cases h;done)
 rename_i hn
 cases hx with | agg _ vs hvs =>
 cases hy with | agg _ ws hws =>
 exact (eQ hc hvs hws hn h w).1
theorem iZ (d:Nat) (cs:Array Value) (b:Bool) (w:World) : ∀ (fs:List Field) (i:Nat),(∀ f j,(f,j)∈fs.zipIdx i->f.name ≠ "_" /\ f.offset=j/\sm P f.type=true)->i+fs.length=cs.size ->
 (forIn fs PUnit.unit fun (f:Field) _=>do
  if f.name ≠ "_" then do
   let x<-part f.type cs f.offset
   Instr.checkKey b (d+1) f.type x
   pure (ForInStep.yield PUnit.unit)
  else pure (ForInStep.yield PUnit.unit)).run P w = .ok PUnit.unit w
 | [],_,_,_=>by simp
 | f::fs,i,h,hl=>by
   obtain ⟨h1,h2,h3⟩:=h f i (by simp)
   have hi:i < cs.size:=by simp at hl;omega
   obtain ⟨⟨k,hk⟩,_⟩:=dA h3
   have ih:=iZ d cs b w fs (i+1) (fun g j hj=>h g j (by simp [hj])) (by simp at hl;omega)
   have hq : ∀ x,(Instr.checkKey b (d+1) f.type x).run P w = .ok () w:=fun x=>by
    rw [Instr.checkKey];simp [Sem.run_bind,run_underlying hk,Result.andThen_ok]
   simp only [List.forIn_cons,ne_eq,h1,not_false_eq_true,if_true,Sem.run_bind,h2,bQ h3 (Array.getElem?_eq_getElem hi) w,Result.andThen_ok,hq,Sem.run_pure]
   exact ih
theorem l0 (d:Nat) (e:TypeId) (he:sm P e=true) (cs:Array Value) (b:Bool) (w:World) : ∀ (m i:Nat),i+m=cs.size ->
 (forIn (List.range' i m 1) PUnit.unit fun i _=>do
  let sz<-sizeOf e
  let x<-part e cs (i*sz)
  Instr.checkKey b (d+1) e x
  pure (ForInStep.yield PUnit.unit)).run P w = .ok PUnit.unit w
 | 0,_,_=>by simp
 | m+1,i,hl=>by
   obtain ⟨⟨k,hk⟩,hs⟩:=dA he
   have hi:i < cs.size:=by omega
   have ih:=l0 d e he cs b w m (i+1) (by omega)
   have hq : ∀ x,(Instr.checkKey b (d+1) e x).run P w = .ok () w:=fun x=>by
    rw [Instr.checkKey];simp [Sem.run_bind,run_underlying hk,Result.andThen_ok]
   simp only [List.range'_succ,List.forIn_cons,Sem.run_bind,aP hs,Nat.mul_one,bQ he (Array.getElem?_eq_getElem hi) w,Result.andThen_ok,hq,Sem.run_pure]
   exact ih
theorem fH {t:TypeId} {k:D} {v:Value} (hk:RD fo K k v) (h:jU (dG P t) k=true) (b:Bool) (w:World):(Instr.checkKey b 10000 t v).run P w = .ok () w:=by
 unfold jU at h
 have h:eqK (dG P t) k k=some true:=by simpa using h
 generalize hc:dG P t=c at h
 unfold eqK at h
 split at h<;>try (cases h;done)
 · obtain ⟨q,hu⟩:=n5 hc
   cases hk
   rw [Instr.checkKey];simp [Sem.run_bind,run_underlying hu,Result.andThen_ok]
 · have hu:=n4 hc
   cases hk
   rw [Instr.checkKey];simp [Sem.run_bind,run_underlying hu,Result.andThen_ok]
 · rename_i n xs ys
   split at h<;>try (cases h;done)
   rename_i hn
   cases hk with | agg _ vs hvs =>
   have hsz:vs.size=n:=by rw [<- hn,hvs.length];simp
   unfold dG at hc
   split at hc<;>try (simp at hc;done)
   · rename_i fs hu
     split at hc<;>try (simp at hc;done)
     rename_i hcond
     simp only [Bool.and_eq_true,Bool.not_eq_true',List.all_eq_true] at hcond
     obtain ⟨⟨c1,c2⟩,c3⟩:=hcond
     injection hc with hc
     have key:=iZ (P:=P) 9998 vs b w fs.toList 0 (fun f j hj=>by have:=c3 (f,j) hj;simp at this;exact ⟨this.1.1,this.1.2,this.2⟩) (by simp;omega)
     rw [Instr.checkKey]
     simp only [Sem.run_bind,run_underlying hu,Result.andThen_ok,<- Array.forIn_toList] at key ⊢
     simp only [ne_eq] at key ⊢
     exact congrArg (fun r=>Result.andThen r (fun _ w'=>Sem.run P (pure ()) w')) key
   · rename_i n' e hu
     split at hc<;>try (simp at hc;done)
     rename_i hcond
     simp only [Bool.and_eq_true,Bool.not_eq_true'] at hcond
     injection hc with hc
     subst hc
     have key:=l0 (P:=P) 9998 e hcond.2 vs b w n' 0 (by omega)
     rw [Instr.checkKey]
     simp only [Sem.run_bind,run_underlying hu,Result.andThen_ok,Std.Legacy.Range.forIn_eq_forIn_range',Std.Legacy.Range.size,Nat.sub_zero,Nat.add_one_sub_one,Nat.div_one] at key ⊢
     exact congrArg (fun r=>Result.andThen r (fun _ w'=>Sem.run P (pure ()) w')) key
def REs (fo:Nat->Option FuncId) (K:aS) (ρ:ax) (vv:Nat->Option (Nat×Nat)) (es:List (D×V)) (l:List MapEntry):Prop :=
 es.length=l.length /\ ∀ (i:Nat) k x,es[i]?=some (k,x) -> ∃ e,l[i]?=some e/\RD fo K k e.key/\RV fo K ρ vv x e.val
theorem REs.tail {p:D×V} {e:MapEntry} {es:List (D×V)} {l:List MapEntry} (h:REs fo K ρ vv (p::es) (e::l)):REs fo K ρ vv es l:=⟨by simpa using h.1,fun i k x hi=>by simpa using h.2 (i+1) k x (by simpa using hi)⟩
theorem REs.head {k:D} {x:V} {e:MapEntry} {es:List (D×V)} {l:List MapEntry} (h:REs fo K ρ vv ((k,x)::es) (e::l)):RD fo K k e.key/\RV fo K ρ vv x e.val:=by
 obtain ⟨e',h1,h2⟩:=h.2 0 k x (by simp)
 simp at h1;subst h1;exact h2
def RF (fo:Nat->Option FuncId) (K:aS) (ρ:ax) (vv:Nat->Option (Nat×Nat)):Option (Nat×V)->Option (Nat×Value)->Prop
 | none,none=>True
 | some (i,x),some (j,u)=>i=j/\RV fo K ρ vv x u
 | _,_=>False
theorem gH {c:Cmp} {d:TypeDesc} {k:D} {v:Value} (hk:RD fo K k v) (hn : ∀ x u b,RD fo K x u->eqK c k x=some b->Instr.sameNow d v u=some b) : ∀ {es:List (D×V)} {l:List MapEntry} {i:Nat} {r},REs fo K ρ vv es l ->
 er c k es i=some r -> ∃ a,Instr.findNow d v l i=some a/\RF fo K ρ vv r a
 | [],[],i,r,_,h=>by simp [er] at h;subst h;exact ⟨none,rfl,trivial⟩
 | [],_::_,_,_,he,_=>by have:=he.1;simp at this
 | _::_,[],_,_,he,_=>by have:=he.1;simp at this
 | (k',x)::es,e::l,i,r,he,h=>by
   obtain ⟨h1,h2⟩:=he.head
   simp only [er] at h
   split at h<;>try (cases h;done)
   · rename_i hq
     injection h with h;subst h
     exact ⟨some (i,e.val),by simp [Instr.findNow,hn _ _ _ h1 hq],rfl,h2⟩
   · rename_i hq
     obtain ⟨a,a1,a2⟩:=gH hk hn he.tail h
     exact ⟨a,by simp [Instr.findNow,hn _ _ _ h1 hq,a1],a2⟩
theorem et {t:TypeId} {k:D} {v:Value} (hk:RD fo K k v) (hc : ∃ n,dG P t = .flat n) (w:World) : ∀ {es:List (D×V)} {l:List MapEntry} {i:Nat} {r},REs fo K ρ vv es l ->
 er (dG P t) k es i=some r -> ∃ a,(Instr.findAsking t v l i).run P w = .ok a w/\RF fo K ρ vv r a
 | [],[],i,r,_,h=>by simp [er] at h;subst h;exact ⟨none,by simp [Instr.findAsking],trivial⟩
 | [],_::_,_,_,he,_=>by have:=he.1;simp at this
 | _::_,[],_,_,he,_=>by have:=he.1;simp at this
 | (k',x)::es,e::l,i,r,he,h=>by
   obtain ⟨h1,h2⟩:=he.head
   simp only [er] at h
   split at h<;>try (cases h;done)
   · rename_i hq
     injection h with h;subst h
     exact ⟨some (i,e.val),by simp [Instr.findAsking,Sem.run_bind,lS hk h1 hq hc],rfl,h2⟩
   · rename_i hq
     obtain ⟨a,a1,a2⟩:=et hk hc w he.tail h
     exact ⟨a,by simp [Instr.findAsking,Sem.run_bind,lS hk h1 hq hc,a1],a2⟩
theorem gI {t:TypeId} {k:D} {v:Value} {es:List (D×V)} {l:List MapEntry} {r} (hk:RD fo K k v) (he:REs fo K ρ vv es l) (hs:jU (dG P t) k=true) (h:er (dG P t) k es 0=some r) (w:World) :
 ∃ a,(Instr.findKey t v l).run P w = .ok a w/\RF fo K ρ vv r a:=by
 unfold jU at hs
 have hs:eqK (dG P t) k k=some true:=by simpa using hs
 have fast : ∀ d,P.underlying t=some d->(∀ x u b,RD fo K x u->eqK (dG P t) k x=some b->Instr.sameNow d v u=some b) -> ∃ a,(Instr.findKey t v l).run P w = .ok a w/\RF fo K ρ vv r a:=fun d hd hn=>by
  obtain ⟨a,a1,a2⟩:=gH hk hn he h
  exact ⟨a,by simp [Instr.findKey,Sem.run_bind,run_underlying hd,Result.andThen_ok,a1],a2⟩
 generalize hc:dG P t=c at hs fast
 unfold eqK at hs
 split at hs<;>try (cases hs;done)
 · obtain ⟨q,hu⟩:=n5 hc
   refine fast _ hu fun x u b hx hb => ?_
   cases hk
   cases x<;>simp only [eqK] at hb<;>try (cases hb;done)
   cases hx
   simp only [Instr.sameNow];exact hb
 · have hu:=n4 hc
   refine fast _ hu fun x u b hx hb => ?_
   cases hk
   cases x<;>simp only [eqK] at hb<;>try (cases hb;done)
   cases hx
   simp only [Instr.sameNow];exact hb
 · rename_i n xs ys
   obtain ⟨a,a1,a2⟩:=et hk ⟨n,hc⟩ w he h
   cases hk with | agg _ vs hvs =>
   cases l with
   | nil =>
     cases es with
     | cons p es=>have:=he.1;simp at this
     | nil =>
       simp [er] at h;subst h
       unfold dG at hc
       have hu : ∃ d,P.underlying t=some d:=by
        cases hd:P.underlying t with
        | none=>simp [hd] at hc
        | some d=>exact ⟨d,rfl⟩
       obtain ⟨d,hu⟩:=hu
       exact ⟨none,by simp [Instr.findKey,Sem.run_bind,run_underlying hu,Result.andThen_ok,Instr.findNow],trivial⟩
   | cons e l =>
     have hu : ∃ d,P.underlying t=some d:=by
      unfold dG at hc
      cases hd:P.underlying t with
      | none=>simp [hd] at hc
      | some d=>exact ⟨d,rfl⟩
     obtain ⟨d,hu⟩:=hu
     have hsn:Instr.sameNow d (.agg vs) e.key=none:=by unfold Instr.sameNow;split<;>simp_all
     exact ⟨a,by simp [Instr.findKey,Sem.run_bind,run_underlying hu,Result.andThen_ok,Instr.findNow,hsn,a1],a2⟩
theorem lR {c:Cmp} {k:D} : ∀ {es:List (D×V)} {i j:Nat} {x:V},er c k es i=some (some (j,x))->i<=j /\ ∃ k',es[j - i]?=some (k',x)/\eqK c k k'=some true
 | [],_,_,_,h=>by simp [er] at h
 | (k',y)::es,i,j,x,h=>by
   simp only [er] at h
   split at h<;>try (cases h;done)
   · rename_i hq
     injection h with h;injection h with h;injection h with h1 h2;subst h1;subst h2
     exact ⟨Nat.le_refl _,k',by simp,hq⟩
   · obtain ⟨h1,k2,h2,h3⟩:=lR h
     refine ⟨by omega,k2,?_,h3⟩
     rw [show j - i=(j - (i+1))+1 by omega]
     simpa using h2
theorem RS.ents {id:Nat} {es:List (D×V)} (hS:RS P fo base K ρ s w) (hb:getB s id=some (.map es)) : ∃ ents clock,w.heap[(ρ id).1]?=some (.map ents clock)/\REs fo K ρ (vo s) es ents.toList /\ ∀ o,K (ρ id).1 o=none:=by
 have hB:=(hS.blk id _ hb).1
 generalize hp:ρ id=p at hB
 cases hB with
 | map _ B size ents clock h1 h2 h3 h4=>exact ⟨ents,clock,h1,⟨by simpa using h2,fun i k x hi=>by obtain ⟨e,a1,a2⟩:=h3 i k x hi;exact ⟨e,by simpa using a1,a2⟩⟩,h4⟩
theorem RV.map_inv {id:Nat} {v:Value} (h:RV fo K ρ vv (.map id) v):v = .map (some (ρ id).1):=by cases h;rfl
theorem mD (htr : ∀ g f,tr g=some f->fo f=some g) {t kt e:TypeId} {i:TypeInfo} {z:Value} {m k r:V} {vm vk:Value} {ok:Bool} (hS:RS P fo base K ρ s w) (hu:P.underlying t=some (.map kt e)) (hi:P.info? e=some i) (hz:i.zero=some z)
 (hm:RV fo K ρ (vo s) m vm) (hk:RV fo K ρ (vo s) k vk) (h:e9 s (dG P kt) (uK tr z) m k ok=some r) : ∃ u,(Instr.lookup t vm vk ok).run P w = .ok u w/\RV fo K ρ (vo s) r u:=by
 unfold e9 at h
 split at h<;>try (cases h;done)
 rename_i kd
 split at h<;>try (cases h;done)
 rename_i hself
 cases hk with | d _ _ hk =>
 have hzr:(zeroValue e).run P w = .ok z w:=by simp [zeroValue,typeInfo,hi,Sem.run_bind,hz]
 have hzv:RV fo K ρ (vo s) (uK tr z) z:=kW htr z
 obtain ⟨es,ents,hes,hru⟩ : ∃ (es:List (D×V)) (ents:Array MapEntry),REs fo K ρ (vo s) es ents.toList /\
  (match er (dG P kt) kd es 0 with
   | some (some (_,v))=>some (if ok then mkTuple [v,.d (.bool true)] else v)
   | some none=>some (if ok then mkTuple [uK tr z,.d (.bool false)] else uK tr z)
   | none=>none)=some r /\
  ∀ a,(Instr.findKey kt vk ents.toList).run P w = .ok a w->(Instr.lookup t vm vk ok).run P w = .ok (match a with
    | some (_,v)=>(if ok then Value.tuple #[v,.bool true] else v)
    | none=>(if ok then Value.tuple #[z,.bool false] else z)) w:=by
  have hck : ∀ b,(Instr.checkKey b 10000 kt vk).run P w = .ok () w:=fun b=>fH hk hself b w
  cases m with
  | d x =>
    cases x with
    | nilm =>
      cases hm with | d _ _ hm =>
      cases hm
      exact ⟨[],#[],⟨rfl,by simp⟩,h,fun a ha=>by cases a<;>simp [Instr.lookup,Sem.run_bind,run_underlying hu,Result.andThen_ok,hck,ha,hzr]⟩
    | _=>simp at h
  | map id =>
    have:=hm.map_inv;subst this
    cases hb:getB s id with
    | none=>simp [hb] at h
    | some b =>
      cases b with
      | map es =>
        obtain ⟨ents,clock,e1,e2,_⟩:=hS.ents hb
        simp only [hb] at h
        exact ⟨es,ents,e2,h,fun a ha=>by cases a<;>simp [Instr.lookup,Sem.run_bind,run_underlying hu,Result.andThen_ok,MapKept.run_getObj_map e1,hck,ha,hzr]⟩
      | _=>simp [hb] at h
  | _=>simp at h
 obtain ⟨h,hrun⟩:=hru
 cases hf:er (dG P kt) kd es 0 with
 | none=>simp [hf] at h
 | some q =>
   obtain ⟨a,a1,a2⟩:=gI hk hes hself hf w
   rw [hrun a a1]
   have fin : ∀ (x:V) (u:Value) (b:Bool),RV fo K ρ (vo s) x u->RV fo K ρ (vo s) (if ok then mkTuple [x,.d (.bool b)] else x) (if ok then Value.tuple #[u,.bool b] else u):=fun x u b hx=>by
    cases ok
    · exact hx
    · exact .mkTuple (.cons _ _ _ _ hx (.cons _ _ _ _ (.of_bool b) .nil))
   cases q with
   | none =>
     cases a with
     | some p=>cases a2
     | none =>
       rw [hf] at h
       injection h with h;subst h
       exact ⟨_,rfl,fin _ _ _ hzv⟩
   | some q =>
     obtain ⟨j,x⟩:=q
     cases a with
     | none=>cases a2
     | some p =>
       obtain ⟨j',u⟩:=p
       rw [hf] at h
       injection h with h;subst h
       exact ⟨_,rfl,fin _ _ _ a2.2⟩
theorem ph {t kt e:TypeId} {m k x:V} {vm vk vx:Value} (hS:RS P fo base K ρ s w) (hu:P.underlying t=some (.map kt e)) (hm:RV fo K ρ (vo s) m vm) (hk:RV fo K ρ (vo s) k vk) (hx:RV fo K ρ (vo s) x vx)
 (h:jP s (dG P kt) m k x=some s') : ∃ w',(Instr.mapUpdate t vm vk vx).run P w = .ok () w'/\RS P fo base K ρ s' w'/\Stp base K ρ s w K ρ s' w':=by
 unfold jP at h
 split at h<;>try (cases h;done)
 rename_i id kd
 split at h<;>try (cases h;done)
 rename_i hself
 split at h<;>try (cases h;done)
 rename_i es hb
 have:=hm.map_inv;subst this
 cases hk with | d _ _ hk =>
 obtain ⟨ents,clock,e1,e2,e3⟩:=hS.ents hb
 have hv0:vo s id=some (0,0):=by simp [vo,hb]
 have put : ∀ (es':List (D×V)) (ents':Array MapEntry) (clock':Nat),REs fo K ρ (vo s) es' ents'.toList ->
  RS P fo base K ρ (setB s id (.map es')) { w with heap:=w.heap.setIfInBounds (ρ id).1 (.map ents' clock') } /\ Stp base K ρ s w K ρ (setB s id (.map es')) { w with heap:=w.heap.setIfInBounds (ρ id).1 (.map ents' clock') } := fun es' ents' clock' he=>by
  obtain ⟨g1,g2⟩:=MapKept.heap_set (o' := .map ents' clock') e1
  have hv:vo (s.set id (some (.map es')))=vo s:=by
   funext j
   rw [cC (a8 hb)]
   split
   · rename_i hj;subst hj;exact hv0.symm
   · rfl
  refine hS.write (v1:=0) hb hv0 rfl (Nat.le_refl _) (fun _=>rfl) e3 ?_ (fun B hB=>g2 B hB) (by simp) ?_
  · exact ⟨rfl,rfl,rfl,by simp,fun k hk=>g2 k (by omega)⟩
  · rw [hv]
    cases hp:ρ id with | mk B size =>
    rw [hp] at g1 e3
    exact .map es' B size ents' clock' g1 (by simpa using he.1) (fun i k x hi=>by obtain ⟨e,a1,a2⟩:=he.2 i k x hi;exact ⟨e,by simpa using a1,a2⟩) e3
 have hrun0 : ∀ a,(Instr.findKey kt vk ents.toList).run P w = .ok a w->(Instr.mapUpdate t (.map (some (ρ id).1)) vk vx).run P w=(match a with
  | some (i,_)=>do
    let key<-Instr.keyThatStays (((ents[i]?).map (·.key)).getD vk) vk
    setObj (ρ id).1 (.map (ents.modify i fun e => { e with key,val:=vx }) clock)
  | none=>setObj (ρ id).1 (.map (ents.push { key:=vk,val:=vx,born:=clock }) (clock+1)):Sem Unit).run P w:=fun a ha=>by
  simp only [Instr.mapUpdate,Sem.run_bind,run_underlying hu,Result.andThen_ok,MapKept.run_getObj_map e1,fH hk hself,ha]
  cases a<;>rfl
 cases hf:er (dG P kt) kd es 0 with
 | none=>simp [hf] at h
 | some q =>
   obtain ⟨a,a1,a2⟩:=gI hk e2 hself hf w
   rw [hrun0 a a1]
   cases q with
   | none =>
     cases a with
     | some p=>cases a2
     | none =>
       simp only [hf] at h
       injection h with h;subst h
       refine ⟨_,MapKept.run_setObj_map _ e1,put _ _ _ ⟨by simp [e2.1],fun i k y hi => ?_⟩⟩
       rw [List.getElem?_append] at hi
       split at hi
       · rename_i hlt
         obtain ⟨en,b1,b2⟩:=e2.2 i k y hi
         exact ⟨en,by rw [Array.toList_push,List.getElem?_append_left (by rw [<- e2.1];exact hlt)];exact b1,b2⟩
       · rename_i hlt
         have h0:i - es.length=0:=by have:=(List.getElem?_eq_some_iff.1 hi).1;simpa using this
         rw [h0] at hi
         simp at hi
         obtain ⟨rfl,rfl⟩:=hi
         exact ⟨⟨vk,vx,clock⟩,by rw [Array.toList_push,List.getElem?_append_right (by rw [<- e2.1];omega),<- e2.1,h0];rfl,hk,hx⟩
   | some q =>
     obtain ⟨j,y⟩:=q
     cases a with
     | none=>cases a2
     | some p =>
       obtain ⟨j',u⟩:=p
       obtain ⟨rfl,_⟩:=a2
       simp only [hf] at h
       injection h with h;subst h
       obtain ⟨_,k',g1,g2⟩:=lR hf
       rw [Nat.sub_zero] at g1
       obtain ⟨en,b1,b2,b3⟩:=e2.2 j k' y g1
       obtain ⟨c1,c2⟩:=tZ hk b2 g2
       have b1':ents[j]?=some en:=by simpa using b1
       have hkt:(Instr.keyThatStays en.key vk).run P w = .ok vk w:=by
        rw [<- c1] at c2 ⊢
        simp [Instr.keyThatStays,c2]
       simp only [b1',Option.map_some,Option.getD_some,Sem.run_bind,hkt,Result.andThen_ok]
       refine ⟨_,MapKept.run_setObj_map _ e1,put _ _ _ ⟨by simp [e2.1],fun i k y' hi => ?_⟩⟩
       rw [List.getElem?_set] at hi
       simp only [Array.toList_modify,List.getElem?_modify]
       split at hi
       · rename_i hij
         subst hij
         split at hi<;>try (cases hi;done)
         simp at hi
         obtain ⟨rfl,rfl⟩:=hi
         exact ⟨{ en with key:=vk,val:=vx },by simp [b1],hk,hx⟩
       · rename_i hij
         obtain ⟨en',d1,d2⟩:=e2.2 i k y' hi
         exact ⟨en',by simp [d1,hij],d2⟩
end Go.Proofs.YtncfpmehhfdipaaGreat
