/- What writes memory, last part: a slice put together, clear. -/
import Derived.Test.YtncfpmehhfdipaaGreatA02
import Derived.AtR
import Derived.OrdersIn
set_option linter.unusedSimpArgs false
set_option linter.unusedVariables false
set_option linter.unnecessarySimpa false
namespace Go.Proofs.YtncfpmehhfdipaaGreat
open Go.RowKit
variable {P:Program} {fo:Nat->Option FuncId} {K:aS} {ρ:ax} {w:World} {tr:FuncId->Option Nat} {base:Nat} {s s':aa} {vv:Nat->Option (Nat×Nat)}
theorem RS.freeze (hS:RS P fo base K ρ s w) (c:Array Value) (t:TypeId) (h1 : ∀ v∈c.toList,v.oneCell'=true) :
 ∃ K',RS P fo base K' ρ s (w.alloc (.cells c t))/\Stp base K ρ s w K' ρ s (w.alloc (.cells c t))/\(∀ B o v,K B o=some v->K' B o=some v) /\ ∀ o v,c[o]?=some v->K' w.heap.size o=some v:=by
 have hfresh : ∀ o,K w.heap.size o=none:=fun o=>by
  cases hk:K w.heap.size o with
  | none=>rfl
  | some v =>
    obtain ⟨_,_,_,h1,_⟩:=hS.known _ _ _ hk
    have:=(Array.getElem?_eq_some_iff.1 h1).1
    omega
 have hold : ∀ B,B < w.heap.size->(w.alloc (.cells c t)).heap[B]?=w.heap[B]?:=fun B hB=>Below.heap_alloc _ _ _ hB
 have hKK : ∀ B o v,K B o=some v->(if B=w.heap.size then c[o]? else K B o)=some v:=fun B o v h=>by
  by_cases hB:B=w.heap.size
  · subst hB;rw [hfresh] at h;cases h
  · rw [if_neg hB];exact h
 refine ⟨fun B o=>if B=w.heap.size then c[o]? else K B o,⟨fun B o v h => ?_,fun id b hb => ?_,hS.inj,by have:=hS.base;simp;omega,fun B o v h => ?_⟩,
  ⟨hKK,.refl,(Below.refl _ _).alloc hS.base _,fun B hB _=>hold B hB,fun id b hb _=>⟨id,b,hb,rfl⟩,fun B o v h h' hB => ?_⟩,hKK,fun o v h=>by simp [h]⟩
 · split at h
   · rename_i hB;subst hB
     exact ⟨c,t,(0,0),World.alloc_heap_new w _,h⟩
   · obtain ⟨c',t',z,e1,e2⟩:=hS.known B o v h
     exact ⟨c',t',z,(hold B (Array.getElem?_eq_some_iff.1 e1).1).trans e1,e2⟩
 · obtain ⟨a1,a2⟩:=hS.blk id b hb
   refine ⟨a1.mono hKK .refl (hold _ a1.lt) (fun hn o => ?_),a2⟩
   have:=a1.lt
   rw [if_neg (by omega)];exact hn o
 · split at h
   · exact h1 v (by rw [<- Array.getElem?_toList] at h;exact List.mem_of_getElem? h)
   · exact hS.one B o v h
 · rw [if_neg (by omega),h'] at h;cases h
def sh (fo:Nat->Option FuncId) (K:aS) (ρ:ax) (vv:Nat->Option (Nat×Nat)) (esz:Nat) (rows:List (List V)) (cells:Array Value):Prop :=
 cells.size=rows.length*esz/\(∀ r∈rows,r.length=esz) /\ ∀ (i:Nat) r,rows[i]?=some r -> ∀ (j:Nat) x,r[j]?=some x -> ∃ v,cells[i*esz+j]?=some v/\RV fo K ρ vv x v
theorem nD {i esz n j:Nat} (hi:i < n) (hj:j < esz):i*esz+j < n*esz:=by
 have:=Nat.mul_le_mul_right esz (show i+1<=n from hi);rw [Nat.add_mul,Nat.one_mul] at this;omega
theorem dP {esz:Nat} : ∀ (parts:List (Nat×Value)) (vparts:List (Nat×V)) (rows rs:List (List V)) (cells:Array Value),sh fo K ρ vv esz rows cells->parts.length=vparts.length ->
 (∀ (k i:Nat) (v:Value),parts[k]?=some (i,v) -> ∃ x,vparts[k]?=some (i,x)/\RV fo K ρ vv x v)->cH esz rows vparts=some rs ->
 ∃ cs,Instr.fill (fun i=>some (i*esz,esz)) cells parts=some cs/\sh fo K ρ vv esz rs cs/\rs.length=rows.length
 | [],[],rows,rs,cells,hR,_,_,h=>by simp [cH] at h;subst h;exact ⟨cells,rfl,hR,rfl⟩
 | (i,v)::parts,(i',x)::vparts,rows,rs,cells,hR,hl,hp,h=>by
   obtain ⟨x',h1,h2⟩:=hp 0 i v (by simp)
   simp at h1;obtain ⟨rfl,rfl⟩:=h1
   simp only [cH] at h
   split at h<;>try (cases h;done)
   rename_i hc
   obtain ⟨hk,hxl,hil⟩:=hc
   have hcs:=h2.cells (by rintro rfl;simp [known] at hk)
   have hlen:=hcs.length
   simp only [Array.length_toList] at hlen
   obtain ⟨r1,r2,r3⟩:=hR
   have hfit:i'*esz+esz<=cells.size:=by
    rw [r1];have:=Nat.mul_le_mul_right esz (show i'+1<=rows.length from hil);rw [Nat.add_mul,Nat.one_mul] at this;omega
   have hfold:(v.cells.zipIdx.foldl (fun cs (p:Value×Nat)=>cs.setIfInBounds (i'*esz+p.2) p.1) cells).toList=cells.toList.take (i'*esz)++v.cells.toList++cells.toList.drop (i'*esz+v.cells.toList.length):=by
    rw [<- Array.foldl_toList,Array.toList_zipIdx,kF v.cells.toList (i'*esz) 0 cells (by simp;omega)]
    simp
   have hnew:sh fo K ρ vv esz (rows.set i' x.cells) (v.cells.zipIdx.foldl (fun cs (p:Value×Nat)=>cs.setIfInBounds (i'*esz+p.2) p.1) cells):=by
    refine ⟨?_,fun r hr => ?_,fun k r hr q y hy => ?_⟩
    · have:=congrArg List.length hfold
      simp at this ⊢
      rw [this,<- r1];omega
    · rcases List.mem_or_eq_of_mem_set hr with hr | rfl
      · exact r2 r hr
      · exact hxl
    · rw [<- Array.getElem?_toList,hfold,fW _ _ _ _ (by simp;omega)]
      simp only [Array.length_toList,Array.getElem?_toList]
      by_cases hki:k=i'
      · subst hki
        simp [hil] at hr;subst hr
        obtain ⟨u,e1,e2⟩:=hcs.get hy
        have hq:=(List.getElem?_eq_some_iff.1 hy).1
        rw [if_pos (by omega),show k*esz+q - k*esz=q by omega]
        exact ⟨u,by simpa using e1,e2⟩
      · rw [List.getElem?_set_ne (Ne.symm hki)] at hr
        have hq:q < esz:=by rw [<- r2 r (List.mem_of_getElem? hr)];exact (List.getElem?_eq_some_iff.1 hy).1
        rw [if_neg ?_]
        · exact r3 k r hr q y hy
        · intro hh
          rcases Nat.lt_or_gt_of_ne hki with h | h
          · have:=Nat.mul_le_mul_right esz (show k+1<=i' from h);rw [Nat.add_mul,Nat.one_mul] at this;omega
          · have:=Nat.mul_le_mul_right esz (show i'+1<=k from h);rw [Nat.add_mul,Nat.one_mul] at this;omega
   obtain ⟨cs,e1,e2,e3⟩:=dP parts vparts _ rs _ hnew (by simpa using hl) (fun k i v hk=>by simpa using hp (k+1) i v (by simpa using hk)) h
   refine ⟨cs,?_,e2,by simpa using e3⟩
   simp only [Instr.fill]
   rw [if_neg (by simp;omega)]
   exact e1
 | [],_::_,_,_,_,_,hl,_,_=>by simp at hl
 | _::_,[],_,_,_,_,hl,_,_=>by simp at hl
theorem nd (htr : ∀ g f,tr g=some f->fo f=some g) {t e:TypeId} {esz n:Nat} {z:List V} {parts:List (Nat×Value)} {vparts:List (Nat×V)} {rs:List (List V)} {es:List D} {fz:List Nat} (hS:RS P fo base K ρ s w)
 (hu:P.underlying t=some (.slice e)) (hs:sizeT P e=some esz) (hz:zeroT P tr e=some z) (hn:n*esz<=2 ^ 20) (hzl:z.length=esz) (h0:0 < esz) (hl:parts.length=vparts.length)
 (hp : ∀ (k i:Nat) (v:Value),parts[k]?=some (i,v) -> ∃ x,vparts[k]?=some (i,x)/\RV fo K ρ (vo s) x v) (h:cH esz (aL n z) vparts=some rs) (hsc:rs.all (·.all aH)=true) (hd:sV s bB rs=some (es,fz)) :
 ∃ v K' w',(Instr.buildSlice t n parts.toArray).run P w = .ok v w'/\RS P fo base K' ρ (aq s fz) w'/\Stp base K ρ s w K' ρ (aq s fz) w'/\RV fo K' ρ (vo (aq s fz)) (.lit es) v:=by
 obtain ⟨zv,z1,z2⟩:=b9 (fo:=fo) (K:=K) (ρ:=ρ) (vv:=vo s) htr hz w
 have hsz:zv.cells.size=esz:=by rw [<- hzl,z2.length];simp
 let zero:Array Value:=if n*esz=0 then #[] else zv.cells
 have hR0:sh fo K ρ (vo s) esz (aL n z) ((Array.range (n*esz)).map (zero[· % zero.size]!)):=by
  refine ⟨by simp [aL],fun r hr=>by simp [aL] at hr;rw [hr.2,hzl],fun i r hi j x hj => ?_⟩
  simp only [aL,List.getElem?_replicate] at hi
  split at hi<;>try (cases hi;done)
  rename_i hil
  injection hi with hi;subst hi
  obtain ⟨u,a1,a2⟩:=z2.get hj
  have hjl:=(List.getElem?_eq_some_iff.1 hj).1
  have hz0:zero=zv.cells:=by
   have:n*esz≠0:=by have:=nD (esz:=esz) hil (show 0 < esz from h0);omega
   simp [zero,this]
  refine ⟨zv.cells[j]!,by rw [hz0];exact fu hsz (by omega) (by omega),?_⟩
  have:zv.cells[j]! = u:=by
   rw [Array.getElem?_toList] at a1
   simp [getElem!_def,a1]
  rw [this];exact a2
 obtain ⟨cs,f1,⟨f2,f3,f4⟩,f5⟩:=dP parts vparts _ rs _ hR0 hl hp h
 have hrl:rs.length=n:=by rw [f5];simp [aL]
 have hflat:RVs fo K ρ (vo s) rs.flatten cs.toList:=fI f3 (by simpa using f2) fun i r hi j x hj=>by
  obtain ⟨v,e1,e2⟩:=f4 i r hi j x hj
  exact ⟨v,by simpa using e1,e2⟩
 have hone : ∀ v∈cs.toList,v.oneCell'=true:=fun v hv=>by
  obtain ⟨k,hk,rfl⟩:=List.getElem_of_mem hv
  have hk':k < rs.flatten.length:=by rw [hflat.length];exact hk
  obtain ⟨u,e1,e2⟩:=hflat.get (List.getElem?_eq_getElem hk')
  rw [List.getElem?_eq_getElem hk] at e1;injection e1 with e1
  rw [e1]
  have hm:=List.getElem_mem hk'
  obtain ⟨r,hr,hx⟩:=List.mem_flatten.1 hm
  exact e2.cellV (List.all_eq_true.1 (List.all_eq_true.1 hsc r hr) _ hx)
 obtain ⟨K1,c1,c2,c3,c4,c5,c6⟩:=dS fz hS
 obtain ⟨d1,d2,d3⟩:=eZ (gV rfl c4 bB) (hflat.mono c2 .refl) hone hd (fun _ h=>h)
 obtain ⟨K2,g1,g2,g3,g4⟩:=c1.freeze cs e hone
 refine ⟨.slice (some ⟨w.heap.size,0,none⟩) n n,K2,_,?_,g1,(Stp.close (ids:=fz) c2 c3 c6).trans g2,?_⟩
 · simp only [Instr.buildSlice,Sem.run_bind,run_underlying hu,Result.andThen_ok,aP hs]
   rw [if_neg (by omega)]
   by_cases hq:n*esz=0
   · rw [if_pos hq]
     simp only [zero,if_pos hq] at f1
     simp only [Sem.run_bind,Sem.run_pure,Result.andThen_ok]
     generalize hq:Instr.fill _ _ _=q
     have:q=some cs:=hq.symm.trans f1
     subst this
     simp [newRow,Sem.run_bind]
   · rw [if_neg hq]
     simp only [zero,if_neg hq] at f1
     simp only [Sem.run_bind,z1,Sem.run_pure,Result.andThen_ok]
     generalize hq:Instr.fill _ _ _=q
     have:q=some cs:=hq.symm.trans f1
     subst this
     simp [newRow,Sem.run_bind]
 · have hlen:es.length=n:=by rw [d2,hrl]
   have hrd:RD fo K2 (.slice es) (.slice (some ⟨w.heap.size,0,none⟩) es.length es.length):=by
    by_cases h0':es=[]
    · subst h0';exact .sliceE _ _ (by simp)
    · exact .slice es _ 0 _ esz cs.toList h0' h0 (d3 esz f3) (d1.mono g3) (fun j v hv=>by rw [Nat.zero_add];exact g4 j v (by simpa using hv)) (Nat.le_refl _)
   have:=RV.lit (fo:=fo) (K:=K2) (ρ:=ρ) (vv:=vo (aq s fz)) es ⟨w.heap.size,0,none⟩ hrd
   rw [hlen] at this
   exact this
theorem mB (htr : ∀ g f,tr g=some f->fo f=some g) {t e:TypeId} {esz n:Nat} {z:List V} {parts:List (Nat×Value)} {vparts:List (Nat×V)} {rs:List (List V)} {id:Nat} (hS:RS P fo base K ρ s w)
 (hu:P.underlying t=some (.slice e)) (hs:sizeT P e=some esz) (hz:zeroT P tr e=some z) (hn:n*esz<=2 ^ 20) (hzl:z.length=esz) (h0:0 < esz) (hl:parts.length=vparts.length)
 (hp : ∀ (k i:Nat) (v:Value),parts[k]?=some (i,v) -> ∃ x,vparts[k]?=some (i,x)/\RV fo K ρ (vo s) x v) (h:cH esz (aL n z) vparts=some rs) (hsc:rs.all (·.all aH)=true) (hd:em s id (.rows 0 false esz rs)=some s') :
 ∃ v ρ' w',(Instr.buildSlice t n parts.toArray).run P w = .ok v w'/\RS P fo base K ρ' s' w'/\Stp base K ρ s w K ρ' s' w'/\RV fo K ρ' (vo s') (.ms id 0 0 n) v:=by
 obtain ⟨n1,n2,rfl⟩:=dx hd
 obtain ⟨zv,z1,z2⟩:=b9 (fo:=fo) (K:=K) (ρ:=ρ) (vv:=vo s) htr hz w
 have hsz:zv.cells.size=esz:=by rw [<- hzl,z2.length];simp
 let zero:Array Value:=if n*esz=0 then #[] else zv.cells
 have hR0:sh fo K ρ (vo s) esz (aL n z) ((Array.range (n*esz)).map (zero[· % zero.size]!)):=by
  refine ⟨by simp [aL],fun r hr=>by simp [aL] at hr;rw [hr.2,hzl],fun i r hi j x hj => ?_⟩
  simp only [aL,List.getElem?_replicate] at hi
  split at hi<;>try (cases hi;done)
  rename_i hil
  injection hi with hi;subst hi
  obtain ⟨u,a1,a2⟩:=z2.get hj
  have hjl:=(List.getElem?_eq_some_iff.1 hj).1
  have hz0:zero=zv.cells:=by
   have:n*esz≠0:=by have:=nD (esz:=esz) hil (show 0 < esz from h0);omega
   simp [zero,this]
  refine ⟨zv.cells[j]!,by rw [hz0];exact fu hsz (by omega) (by omega),?_⟩
  have:zv.cells[j]! = u:=by
   rw [Array.getElem?_toList] at a1
   simp [getElem!_def,a1]
  rw [this];exact a2
 obtain ⟨cs,f1,⟨f2,f3,f4⟩,f5⟩:=dP parts vparts _ rs _ hR0 hl hp h
 have hrl:rs.length=n:=by rw [f5];simp [aL]
 obtain ⟨h1,h2⟩:=gY (t:=e) (c:=cs) (els:=rs) (esz:=esz) hS n1 n2 (Nat.le_of_eq f2.symm) f3 (fun i r hi j x hj=>by
  obtain ⟨v,e1,e2⟩:=f4 i r hi j x hj
  exact ⟨v,e1,e2,e2.cellV (List.all_eq_true.1 (List.all_eq_true.1 hsc r (List.mem_of_getElem? hi)) _ (List.mem_of_getElem? hj))⟩)
 refine ⟨.slice (some ⟨w.heap.size,0,none⟩) n n,_,_,?_,h1,h2,?_⟩
 · simp only [Instr.buildSlice,Sem.run_bind,run_underlying hu,Result.andThen_ok,aP hs]
   rw [if_neg (by omega)]
   by_cases hq:n*esz=0
   · rw [if_pos hq]
     simp only [zero,if_pos hq] at f1
     simp only [Sem.run_bind,Sem.run_pure,Result.andThen_ok]
     generalize hq:Instr.fill _ _ _=q
     have:q=some cs:=hq.symm.trans f1
     subst this
     simp [newRow,Sem.run_bind]
   · rw [if_neg hq]
     simp only [zero,if_neg hq] at f1
     simp only [Sem.run_bind,z1,Sem.run_pure,Result.andThen_ok]
     generalize hq:Instr.fill _ _ _=q
     have:q=some cs:=hq.symm.trans f1
     subst this
     simp [newRow,Sem.run_bind]
 · refine .ms _ _ _ _ 0 esz _ _ _ (by rw [cC n1];simp) fun _=>⟨rfl,by simp [placed],rfl,Nat.le_refl _,?_⟩
   have f2':=f2
   rw [hrl] at f2'
   simp [placed,f2']
theorem pK (htr : ∀ g f,tr g=some f->fo f=some g) {t e:TypeId} {esz:Nat} {ty:TypeId} {z:List V} {x:V} {v:Value} {tys:Array TypeId} (hS:RS P fo base K ρ s w) (ht:tys[0]?=some t) (hu:P.underlying t=some (.slice e)) (hz:zeroT P tr e=some z)
 (h0:0 < z.length) (hx:RV fo K ρ (vo s) x v) (h:lZ s z x=some s') : ∃ w',(Builtin.clear_ tys ty #[v]).run P w = .ok (.tuple #[]) w'/\RS P fo base K ρ s' w'/\Stp base K ρ s w K ρ s' w':=by
 have none_case : ∀ a c,v = .slice a 0 c->s'=s -> ∃ w',(Builtin.clear_ tys ty #[v]).run P w = .ok (.tuple #[]) w'/\RS P fo base K ρ s' w'/\Stp base K ρ s w K ρ s' w':=fun a c hv hs=>by
  subst hv;subst hs
  exact ⟨w,by cases a<;>simp [Builtin.clear_,ht,Sem.run_bind,run_underlying hu,Result.andThen_ok],hS,.refl⟩
 unfold lZ at h
 split at h<;>try (cases h;done)
 · injection h with h;cases hx;exact none_case _ _ rfl h.symm
 · injection h with h;cases hx;exact none_case _ _ rfl h.symm
 · injection h with h
   cases hx with | d _ _ hx =>
   cases hx with
   | sliceE a c hc0=>exact none_case _ _ rfl h.symm
   | slice=>simp_all
 · rename_i id ver off len
   split at h<;>try (cases h;done)
   rename_i v' esz els hb
   split at h<;>try (cases h;done)
   rename_i hc
   obtain ⟨rfl,rfl,hle,hsc⟩:=hc
   injection h with h;subst h
   obtain ⟨ad,n,cap,v0,e',rfl,g1,g2⟩:=hx.ms_inv
   have g1':=g1
   rw [bC hb] at g1';injection g1' with g1';injection g1' with q1 q2;subst q1;subst q2
   obtain ⟨_,rfl,rfl,_,_⟩:=g2 (Nat.le_refl _)
   obtain ⟨zv,z1,z2⟩:=b9 (fo:=fo) (K:=K) (ρ:=ρ) (vv:=vo s) htr hz w
   have hsz:zv.cells.size=z.length:=by rw [z2.length];simp
   have hv : ∀ els',vo (s.set id (some (.rows v' false z.length els')))=vo s:=fun els'=>by
    funext q
    rw [cC (a8 hb)]
    split
    · rename_i hq;subst hq;exact g1.symm
    · rfl
   have hB:=(hS.blk id _ hb).1
   have hbase:=(hS.blk id _ hb).2
   generalize hp:ρ id=p at hB
   cases hB with
   | rows _ _ _ _ B size c cty h1 h2 h3 h4 h5 h6 =>
     have hzc:(Builtin.zeroCells zv.cells n).toList.length=n*z.length:=by simp [Builtin.zeroCells,hsz]
     have hend:off*z.length+n*z.length<=size:=by
      have:=Nat.mul_le_mul_right z.length hle;rw [Nat.add_mul] at this;omega
     have hzget : ∀ i j,i < n->j < z.length->(Builtin.zeroCells zv.cells n).toList[i*z.length+j]?=some zv.cells[j]! := fun i j hi hj=>by
      have:=fu (zero:=zv.cells) (l:=n) (esz:=z.length) hsz hi hj
      simp only [Builtin.zeroCells,Array.getElem?_toList,hsz] at this ⊢
      exact this
     have hone : ∀ u∈(Builtin.zeroCells zv.cells n).toList,u.oneCell'=true:=fun u hu'=>by
      simp only [Builtin.zeroCells,Array.toList_map,List.mem_map,hsz] at hu'
      obtain ⟨k,hk,rfl⟩:=hu'
      have hlt:k%z.length < z.length:=Nat.mod_lt _ h0
      obtain ⟨u,a1,a2⟩:=z2.get (List.getElem?_eq_getElem hlt)
      have:zv.cells[k%z.length]! = u:=by
       rw [Array.getElem?_toList] at a1
       simp [getElem!_def,a1]
      rw [this]
      exact a2.cellV (List.all_eq_true.1 hsc _ (List.getElem_mem hlt))
     by_cases hn0:n=0
     · subst hn0
       have hels:els.take off++List.replicate 0 z++els.drop (off+0)=els:=by simp
       have hset:setB s id (.rows v' false z.length els)=s:=by
        unfold setB
        refine List.ext_getElem? fun k => ?_
        rw [List.getElem?_set]
        split
        · rename_i hk
          subst hk
          have hlt:=a8 hb
          rw [if_pos hlt]
          unfold getB at hb
          cases hq:s[id]? with
          | none=>simp [hq] at hb
          | some o=>simp [hq] at hb;rw [hb]
        · rfl
       rw [<- hp]
       exact none_case _ _ rfl (by rw [hels];exact hset)
     have hrun:=run_storeCells_at P B (off*z.length) cty (Builtin.zeroCells zv.cells n).toList 0 c w h1 (by omega) hone
     simp only [Nat.add_zero] at hrun
     have hrun':(Builtin.clear_ tys ty #[.slice (some ⟨B,off*z.length,none⟩) n cap]).run P w = .ok (.tuple #[]) (w.setRow B (c.toList.take (off*z.length)++(Builtin.zeroCells zv.cells n).toList++c.toList.drop (off*z.length+(Builtin.zeroCells zv.cells n).toList.length)).toArray):=by
      obtain ⟨n',rfl⟩ : ∃ n',n=n'+1:=⟨n - 1,by omega⟩
      simp [Builtin.clear_,ht,Sem.run_bind,run_underlying hu,Result.andThen_ok,z1,hrun]
     refine ⟨_,hrun',?_⟩
     have hrow : ∀ k,(c.toList.take (off*z.length)++(Builtin.zeroCells zv.cells n).toList++c.toList.drop (off*z.length+(Builtin.zeroCells zv.cells n).toList.length)).toArray[k]? =
      if off*z.length<=k/\k < off*z.length+n*z.length then (Builtin.zeroCells zv.cells n).toList[k - off*z.length]? else c[k]?:=by
      intro k
      rw [List.getElem?_toArray,fW _ _ _ _ (by simp at hzc ⊢;omega),hzc]
      simp
     refine hS.write hb g1 rfl (Nat.le_refl _) (fun _=>rfl) (by rw [hp];exact h6 rfl) ?_ (fun B' hB'=>setRow_other w B B' _ (by rw [hp] at hB';exact hB')) (setRow_size w B _) ?_
     · rw [hp];exact below_setRow (Below.refl _ _) (Nat.le_refl _) _
     · rw [hp,hv]
       refine .rows _ _ _ _ B size _ cty (setRow_heap w B c _ cty (0,0) h1) (by simp at hzc ⊢;omega) (by simp;have:=Nat.mul_le_mul_right z.length (show off+(n+(els.length - (off+n)))<=els.length by omega);rw [Nat.min_eq_left (by omega)];omega) (fun r hr => ?_) (fun k r hr q y hy => ?_) h6
       · simp only [List.mem_append,List.mem_replicate] at hr
         rcases hr with (hr | hr) | hr
         · exact h4 r (List.mem_of_mem_take hr)
         · rw [hr.2]
         · exact h4 r (List.mem_of_mem_drop hr)
       · rw [hrow]
         have hseg:=fW els (List.replicate n z) off k (by simp;omega)
         simp only [List.length_replicate] at hseg
         rw [hseg] at hr
         split at hr
         · rename_i hk
           simp only [List.getElem?_replicate] at hr
           split at hr<;>try (cases hr;done)
           injection hr with hr;subst hr
           have hq:=(List.getElem?_eq_some_iff.1 hy).1
           have e1:k*z.length+q - off*z.length=(k - off)*z.length+q:=by
            rw [Nat.sub_mul];have:=Nat.mul_le_mul_right z.length hk.1;omega
           have e2:=nD (esz:=z.length) (show k < off+n from hk.2) hq
           rw [Nat.add_mul] at e2
           have e3:=Nat.mul_le_mul_right z.length hk.1
           rw [if_pos ⟨by omega,e2⟩,e1,hzget _ _ (by omega) hq]
           obtain ⟨u,a1,a2⟩:=z2.get hy
           have:zv.cells[q]! = u:=by
            rw [Array.getElem?_toList] at a1
            simp [getElem!_def,a1]
           exact ⟨_,rfl,this▸a2,this▸a2.cellV (List.all_eq_true.1 hsc y (List.mem_of_getElem? hy))⟩
         · rename_i hk
           have hq:q < z.length:=by rw [<- h4 r (List.mem_of_getElem? hr)];exact (List.getElem?_eq_some_iff.1 hy).1
           rw [if_neg ?_]
           · exact h5 k r hr q y hy
           · intro hh
             rcases Nat.lt_or_ge k off with h | h
             · have:=nD (esz:=z.length) h hq;omega
             · have h':off+n<=k:=by omega
               have:=Nat.mul_le_mul_right z.length h';rw [Nat.add_mul] at this;omega
end Go.Proofs.YtncfpmehhfdipaaGreat
namespace Go.Proofs.YtncfpmehhfdipaaGreat
open Go.RowKit
variable {mu:Bool}
variable {P:Program} {fo:Nat->Option FuncId} {K:aS} {ρ:ax} {w:World} {tr:FuncId->Option Nat} {base:Nat} {s s':aa}
def sY:Res->V
 | .val v=>v
 | .none=>cA
def Ran (P:Program) (o:Oper) (η:Operand->Value) (w:World) (R:Value->World->Prop):Prop :=
 (∃ v w',(execOp η o).run P w = .ok (.value v) w'/\R v w') \/ ∃ w',(execOp η o).run P w = .ok .skip w'/\R undef w'
def gU (P:Program) (fo:Nat->Option FuncId) (base:Nat) (K:aS) (ρ:ax) (s:aa) (w:World) (r:V) (s':aa) (v:Value) (w':World):Prop :=
 ∃ K' ρ',RS P fo base K' ρ' s' w'/\Stp base K ρ s w K' ρ' s' w'/\RV fo K' ρ' (vo s') r v
section
variable {o:Oper} {η:Operand->Value} {res:Res}
theorem Ran.pure {x:Sem Value} {v:Value} {r:V} (hS:RS P fo base K ρ s w) (hx:execOp η o=(do return .value (<- x))) (h:x.run P w = .ok v w) (hv:RV fo K ρ (vo s) r v) (hs:res = .val r) (hss:s=s'):Ran P o η w (gU P fo base K ρ s w (sY res) s'):=by
 subst hs;subst hss
 exact .inl ⟨v,w,by rw [hx];simp [Sem.run_bind,h],K,ρ,hS,.refl,hv⟩
theorem Ran.val {x:Sem Value} {v:Value} {w':World} {r:V} (hx:execOp η o=(do return .value (<- x))) (h:x.run P w = .ok v w') (hv:gU P fo base K ρ s w r s' v w') (hs:res = .val r):Ran P o η w (gU P fo base K ρ s w (sY res) s'):=by
 subst hs
 exact .inl ⟨v,w',by rw [hx];simp [Sem.run_bind,h],hv⟩
theorem mn {vv:Nat->Option (Nat×Nat)} : RV fo K ρ vv cA undef := .d _ _ (.tuple [] #[] .nil)
theorem Ran.unit {x:Sem Unit} {w':World} (hx:execOp η o=(do x;return .skip)) (h:x.run P w = .ok () w') (hS:RS P fo base K ρ s' w') (hT:Stp base K ρ s w K ρ s' w') (hs:res = .none):Ran P o η w (gU P fo base K ρ s w (sY res) s'):=by
 subst hs
 exact .inr ⟨w',by rw [hx];simp [Sem.run_bind,h],K,ρ,hS,hT,mn⟩
end
theorem te {lo:Option Operand} {e:Env} {a:Act} (htr : ∀ g f,tr g=some f->fo f=some g) {vv:Nat->Option (Nat×Nat)} (he:RE fo K ρ vv e a.tmps) :
 ((lo.map (opd tr)).map (ev e)=none/\lo.map a.eval=none) \/ ∃ x v,(lo.map (opd tr)).map (ev e)=some x/\lo.map a.eval=some v/\RV fo K ρ vv x v:=by
 cases lo with
 | none=>exact .inl ⟨rfl,rfl⟩
 | some x=>exact .inr ⟨_,_,rfl,rfl,eJ htr he x⟩
theorem mc {tys:Array TypeId} {sT xT ty:TypeId} (h0:tys[0]?=some sT) (h1:tys[1]?=some xT) (args:Array Value):Builtin.append_ tys ty args=Builtin.append_ #[sT,xT] ty args:=by
 unfold Builtin.append_
 simp [h0,h1]
theorem lJ {x:V} (h:x.cells.all aH=true):known x=true:=by cases x<;>first | rfl | (simp [V.cells,aH] at h)
theorem kA {α β:Type} {f:α->Option β} : ∀ {l:List α} {r:List β},l.mapM f=some r->r.length=l.length /\ ∀ (k:Nat) x,l[k]?=some x -> ∃ y,f x=some y/\r[k]?=some y
 | [],r,h=>by simp at h;subst h;simp
 | x::l,r,h=>by
   simp only [List.mapM_cons,Option.bind_eq_bind,Option.bind_eq_some_iff,Option.pure_def,Option.some.injEq] at h
   obtain ⟨y,hy,r',hr,rfl⟩:=h
   obtain ⟨h1,h2⟩:=kA hr
   refine ⟨by simp [h1],fun k x' hk => ?_⟩
   cases k with
   | zero=>simp at hk;subst hk;exact ⟨y,hy,by simp⟩
   | succ k=>simpa using h2 k x' (by simpa using hk)
theorem fM (parts:Array (Nat×Operand)) (g:Operand->Value):(parts.map fun (i,x)=>(i,g x))=(parts.toList.map fun (i,x)=>(i,g x)).toArray:=by cases parts;simp
theorem hJ {parts:List (Nat×Operand)} {g:Operand->Value} {k i:Nat} {v:Value} (h:(parts.map fun (i,x)=>(i,g x))[k]?=some (i,v)) : ∃ x,parts[k]?=some (i,x)/\v=g x:=by
 simp only [List.getElem?_map,Option.map_eq_some_iff] at h
 obtain ⟨⟨i',x⟩,h,h'⟩:=h
 injection h' with h1 h2;subst h1;subst h2
 exact ⟨x,h,rfl⟩
theorem q8 {x:V} (h:lK x=true) : ∃ b,x = .d (.str b):=by
 unfold lK at h;split at h
 · exact ⟨_,rfl⟩
 · cases h
section
variable {call:CallSem} {flags:Nat->List Bool} {b0 slot:Nat} {o:Oper} {e:Env} {a:Act} {res:Res}
theorem qy (htr : ∀ g f,tr g=some f->fo f=some g) (hS:RS P fo base K ρ s w) (he:RE fo K ρ (vo s) e a.tmps) (hno : ∀ c f,o.op = .call c->c.callee ≠ .value f) (h:ae call flags b0 (aG P tr mu slot o).1 e s=some (res,s')) :
 Ran P o a.eval w (gU P fo base K ρ s w (sY res) s'):=by
 have hop : ∀ x,RV fo K ρ (vo s) (ev e (opd tr x)) (a.eval x):=fun x=>eJ htr he x
 have hopt : ∀ lo:Option Operand,((lo.map (opd tr)).map (ev e)=none/\lo.map a.eval=none) \/ ∃ x v,(lo.map (opd tr)).map (ev e)=some x/\lo.map a.eval=some v/\RV fo K ρ (vo s) x v:=fun lo=>te htr he
 cases ho:o.op with
 | move x =>
   simp only [aG,ho,Option.getD_some,ae] at h
   injection h with h;injection h with h1 h2
   exact .pure (x:=Pure.pure (a.eval x)) hS (by simp [execOp,ho]) (by simp) (hop x) h1.symm h2
 | assign x =>
   simp only [aG,ho,Option.getD_some,ae] at h
   injection h with h;injection h with h1 h2
   exact .pure (x:=Pure.pure (a.eval x)) hS (by simp [execOp,ho]) (by simp) (hop x) h1.symm h2
 | pick c x y =>
   simp only [aG,ho,Option.getD_some,ae] at h
   split at h<;>try (cases h;done)
   rename_i b hb
   injection h with h;injection h with h1 h2
   have hc:=hop c
   rw [hb] at hc
   have hc:=hc.bool_inv
   refine .pure (x:=do Pure.pure (if<-asBool (a.eval c) then a.eval x else a.eval y)) hS (by simp [execOp,ho]) (v:=if b then a.eval x else a.eval y) (by simp [hc,asBool,Sem.run_bind]) ?_ h1.symm h2
   cases b<;>simp [hop]
 | alloc t =>
   simp only [aG,ho] at h
   cases hz:zeroT P tr t with
   | none=>simp [hz,ae] at h
   | some z =>
     simp only [hz,Option.map_some,Option.getD_some,ae] at h
     split at h<;>try (cases h;done)
     rename_i hsc
     simp only [Option.map_eq_some_iff] at h
     obtain ⟨s1,h,h'⟩:=h
     injection h' with h1 h2;subst h2
     obtain ⟨v,ρ',w',e1,e2,e3,e4⟩:=pO htr hS hz hsc h
     exact .val (x:=Instr.alloc t true (.tuple #[])) (by simp [execOp,ho]) e1 ⟨K,ρ',e2,e3,e4⟩ h1.symm
 | box t x =>
   simp only [aG,ho,Option.getD_some,ae] at h
   split at h<;>try (cases h;done)
   rename_i hsc
   simp only [Option.map_eq_some_iff] at h
   obtain ⟨s1,h,h'⟩:=h
   injection h' with h1 h2;subst h2
   obtain ⟨v,ρ',w',e1,e2,e3,e4⟩:=ux (t:=t) hS (hop x) (lJ hsc) hsc h
   exact .val (x:=Instr.box t (a.eval x)) (by simp [execOp,ho]) e1 ⟨K,ρ',e2,e3,e4⟩ h1.symm
 | load t x =>
   simp only [aG,ho] at h
   cases hb:aggT P t with
   | none=>simp [hb,ae] at h
   | some b =>
     cases hn:sizeT P t with
     | none=>simp [hb,hn,ae] at h
     | some n =>
       by_cases hc:b||n==1
       · simp only [hb,hn,Option.bind_eq_bind,Option.bind_some,hc,if_true,Option.getD_some,ae,Option.map_eq_some_iff] at h
         obtain ⟨r,h,h'⟩:=h
         injection h' with h1 h2
         obtain ⟨z,e1,e2⟩:=lF hS hb hn (by rintro rfl;simpa using hc) (hop x) h
         exact .pure (x:=Instr.loadAt t (a.eval x)) hS (by simp [execOp,ho]) e1 e2 h1.symm h2
       · simp only [hb,hn,Option.bind_eq_bind,Option.bind_some,if_neg hc,Option.getD_none] at h
         simp [ae] at h
 | store t x y =>
   simp only [aG,ho] at h
   cases hn:sizeT P t with
   | none=>simp [hn,ae] at h
   | some n =>
     simp only [hn,Option.bind_eq_bind,Option.bind_some,Option.getD_some,ae,Option.map_eq_some_iff] at h
     obtain ⟨s1,h,h'⟩:=h
     injection h' with h1 h2;subst h2
     obtain ⟨w',e1,e2,e3⟩:=oK hS hn (hop x) (hop y) h
     exact .unit (x:=Instr.storeAt t (a.eval x) (a.eval y)) (by simp [execOp,ho]) e1 e2 e3 h1.symm
 | nilCheck x =>
   simp only [aG,ho,Option.getD_some,ae,Option.map_eq_some_iff] at h
   obtain ⟨r,h,h'⟩:=h
   injection h' with h1 h2
   obtain ⟨e1,e2⟩:=qW (hop x) h
   refine .pure (x:=Pure.pure (a.eval x)) hS ?_ (by simp) e1 h1.symm h2
   rcases e2 with ⟨q,e2⟩ | ⟨g,p,q,e2⟩ | ⟨l,e2⟩<;>simp [execOp,ho,e2]
 | binOp op t x y _ =>
   simp only [aG,ho,Option.getD_some,ae,Option.map_eq_some_iff] at h
   obtain ⟨r,h,h'⟩:=h
   injection h' with h1 h2
   obtain ⟨z,e1,e2⟩:=uy (ox:=x) (oy:=y) (hop x) (hop y) h w
   exact .pure hS (by simp [execOp,ho]) e1 e2 h1.symm h2
 | unOp op t x =>
   simp only [aG,ho,Option.getD_some,ae,Option.map_eq_some_iff] at h
   obtain ⟨r,h,h'⟩:=h
   injection h' with h1 h2
   obtain ⟨z,e1,e2⟩:=vq (hop x) h w
   exact .pure hS (by simp [execOp,ho]) e1 e2 h1.symm h2
 | convert sT dT x =>
   simp only [aG,ho] at h
   split at h
   · rename_i k0 k hs hd
     simp only [Option.getD_some,ae] at h
     split at h<;>try (cases h;done)
     rename_i k' n hx
     injection h with h;injection h with h1 h2
     have hv:=hop x
     rw [hx] at hv
     exact .pure hS (by simp [execOp,ho]) (rL hs hd hv w) (.of_int _ _) h1.symm h2
   · simp [ae] at h
 | makeSlice t l c =>
   simp only [aG,ho] at h
   cases hu:P.underlying t with
   | none=>simp [hu,ae] at h
   | some d =>
     cases d with
     | slice el =>
       cases hs:sizeT P el with
       | none=>simp [hu,hs,ae] at h
       | some n =>
         cases hz:zeroT P tr el with
         | none=>simp [hu,hs,hz,ae] at h
         | some z =>
           by_cases hc:z.length=n/\0 < n
           · cases hb:fT P el with
             | none=>simp only [hu,hs,hz,hb,Option.bind_eq_bind,Option.bind_some,if_pos hc,Option.bind_none,Option.getD_none] at h;simp [ae] at h
             | some bytes =>
               simp only [hu,hs,hz,hb,Option.bind_eq_bind,Option.bind_some,if_pos hc,Option.getD_some,ae] at h
               split at h<;>try (cases h;done)
               rename_i ln cp il ic
               split at h<;>try (cases h;done)
               rename_i hcond
               simp only [Option.map_eq_some_iff] at h
               obtain ⟨s1,h,h'⟩:=h
               injection h' with h1 h2;subst h2
               obtain ⟨u,ρ',w',e1,e2,e3,e4⟩:=lC htr hS hu hs hb hz hc.2 hc.1 (hop l) (hop c) il ic hcond.1 hcond.2.1 hcond.2.2.1 h
               exact .val (by simp [execOp,ho]) e1 ⟨K,ρ',e2,e3,e4⟩ h1.symm
           · simp only [hu,hs,hz,Option.bind_eq_bind,Option.bind_some,if_neg hc,Option.getD_none] at h;simp [ae] at h
     | _=>simp [hu,ae] at h
 | fieldAddr t x i =>
   simp only [aG,ho] at h
   cases hu:P.underlying t with
   | none=>simp [hu,ae] at h
   | some d =>
     cases d with
     | struct fields =>
       cases hf:fields[i]? with
       | none=>simp [hu,hf,ae] at h
       | some f =>
         cases hn:sizeT P f.type with
         | none=>simp [hu,hf,hn,ae] at h
         | some n =>
           by_cases hc:0 < n
           · simp only [hu,hf,hn,Option.bind_some,if_pos hc,Option.getD_some,ae,Option.map_eq_some_iff] at h
             obtain ⟨r,h,h'⟩:=h
             injection h' with h1 h2
             obtain ⟨z,e1,e2⟩:=pr hu hf hn hc (hop x) h w
             exact .pure hS (by simp [execOp,ho]) e1 e2 h1.symm h2
           · simp only [hu,hf,hn,Option.bind_some,if_neg hc,Option.getD_none] at h;simp [ae] at h
     | _=>simp [hu,ae] at h
 | indexAddr t x i =>
   simp only [aG,ho] at h
   cases hu:P.underlying t with
   | none=>simp [hu,ae] at h
   | some d =>
     cases d with
     | slice el =>
       cases hs:sizeT P el with
       | none=>simp [hu,hs,ae] at h
       | some n =>
         by_cases hc:0 < n
         · simp only [hu,hs,Option.bind_some,if_pos hc,Option.getD_some,ae,Option.map_eq_some_iff] at h
           obtain ⟨r,h,h'⟩:=h
           injection h' with h1 h2
           obtain ⟨z,e1,e2⟩:=mN (w:=w) hu hs hc (hop x) (hop i) h
           exact .pure hS (by simp [execOp,ho]) e1 e2 h1.symm h2
         · simp only [hu,hs,Option.bind_some,if_neg hc,Option.getD_none] at h;simp [ae] at h
     | array n el =>
       cases hs:sizeT P el with
       | none=>simp [hu,hs,ae] at h
       | some k =>
         simp only [hu,hs,Option.bind_some,Option.getD_some,ae,Option.map_eq_some_iff] at h
         obtain ⟨r,h,h'⟩:=h
         injection h' with h1 h2
         obtain ⟨z,e1,e2⟩:=mP hu hs (hop x) (hop i) h w
         exact .pure hS (by simp [execOp,ho]) e1 e2 h1.symm h2
     | _=>simp [hu,ae] at h
 | index t x i =>
   simp only [aG,ho] at h
   cases hu:P.underlying t with
   | none=>simp [hu,ae] at h
   | some d =>
     cases d with
     | string =>
       simp only [hu,Option.getD_some,ae,Option.map_eq_some_iff] at h
       obtain ⟨r,h,h'⟩:=h
       injection h' with h1 h2
       obtain ⟨z,e1,e2⟩:=pm hu (hop x) (hop i) h w
       exact .pure hS (by simp [execOp,ho]) e1 e2 h1.symm h2
     | array n el =>
       by_cases hc:sizeT P el=some 1/\aggT P el=some false
       · simp only [hu,if_pos hc,Option.getD_some,ae,Option.map_eq_some_iff] at h
         obtain ⟨r,h,h'⟩:=h
         injection h' with h1 h2
         obtain ⟨z,e1,e2⟩:=mK hu hc.1 hc.2 (hop x) (hop i) h w
         exact .pure hS (by simp [execOp,ho]) e1 e2 h1.symm h2
       · simp only [hu,if_neg hc,Option.getD_none] at h;simp [ae] at h
     | _=>simp [hu,ae] at h
 | lookup t m k c =>
   simp only [aG,ho] at h
   cases hu:P.underlying t with
   | none=>simp [hu,ae] at h
   | some d =>
     cases d with
     | map kt el =>
       cases hi:P.info? el with
       | none=>simp [hu,hi,ae] at h
       | some i =>
         cases hz:i.zero with
         | none=>simp [hu,hi,hz,ae] at h
         | some z =>
           simp only [hu,hi,hz,Option.bind_some,Option.map_some,Option.getD_some,ae,Option.map_eq_some_iff] at h
           obtain ⟨r,h,h'⟩:=h
           injection h' with h1 h2
           obtain ⟨u,e1,e2⟩:=mD htr hS hu hi hz (hop m) (hop k) h
           exact .pure hS (by simp [execOp,ho]) e1 e2 h1.symm h2
     | _=>simp [hu,ae] at h
 | mapUpdate t m k x =>
   simp only [aG,ho] at h
   cases hu:P.underlying t with
   | none=>simp [hu,ae] at h
   | some d =>
     cases d with
     | map kt el =>
       simp only [hu,Option.getD_some,ae,Option.map_eq_some_iff] at h
       obtain ⟨s1,h,h'⟩:=h
       injection h' with h1 h2;subst h2
       obtain ⟨w',e1,e2,e3⟩:=ph hS hu (hop m) (hop k) (hop x) h
       exact .unit (by simp [execOp,ho]) e1 e2 e3 h1.symm
     | _=>simp [hu,ae] at h
 | makeMap t r =>
   cases r with
   | some r=>simp [aG,ho,ae] at h
   | none =>
     simp only [aG,ho,Option.getD_some,ae,Option.map_eq_some_iff] at h
     obtain ⟨s1,h,h'⟩:=h
     injection h' with h1 h2;subst h2
     obtain ⟨u,ρ',w',e1,e2,e3,e4⟩:=pg (t:=t) hS h
     exact .val (by simp [execOp,ho]) e1 ⟨K,ρ',e2,e3,e4⟩ h1.symm
 | extract x i =>
   simp only [aG,ho,Option.getD_some,ae] at h
   have hx:=hop x
   generalize hq:ev e (opd tr x)=q at h hx
   have key : ∀ r,(match (generalizing:=false) q with | .d (.tuple vs)=>(vs[i]?).map V.d | .tuple vs=>vs[i]? | _=>none)=some r->res = .val r->s=s'->Ran P o a.eval w (gU P fo base K ρ s w (sY res) s'):=fun r hr h1 h2=>by
    obtain ⟨z,e1,e2⟩:=tW hx (r:=r) (i:=i) hr w
    exact .pure hS (by simp [execOp,ho]) e1 e2 h1 h2
   cases q with
   | d y =>
     cases y with
     | tuple vs =>
       simp only [Option.map_map,Option.map_eq_some_iff] at h
       obtain ⟨r,h,h'⟩:=h
       injection h' with h1 h2
       exact key (.d r) (by simp [h]) h1.symm h2
     | _=>cases h
   | tuple vs =>
     simp only [Option.map_eq_some_iff] at h
     obtain ⟨r,h,h'⟩:=h
     injection h' with h1 h2
     exact key r h h1.symm h2
   | _=>cases h
 | makeFunc f x y =>
   cases f with
   | func g =>
     simp only [aG,ho] at h
     cases hg:tr g with
     | none=>simp [hg,ae] at h
     | some k =>
       simp only [hg,Option.map_some,Option.getD_some,ae] at h
       injection h with h;injection h with h1 h2
       have e1:RVs fo K ρ (vo s) ((nR tr x).map (ev e)) (x.map a.eval).toList:=by
        rw [Array.toList_map];exact dw htr he x.toList
       have e2:RVs fo K ρ (vo s) ((nR tr y).map (ev e)) (y.map a.eval).toList:=by
        rw [Array.toList_map];exact dw htr he y.toList
       exact .pure (x:=Instr.makeFunc (.func g) (x.map a.eval) (y.map a.eval)) hS (by simp [execOp,ho]) (by simp [Instr.makeFunc]) (.mkFunc (htr _ _ hg) e1 e2) h1.symm h2
   | _=>simp [aG,ho,ae] at h
 | build t parts =>
   simp only [aG,ho] at h
   cases hz:zeroT P tr t with
   | none=>simp [hz,ae] at h
   | some z =>
     cases hu:P.underlying t with
     | none=>simp [hz,hu,ae] at h
     | some d =>
       cases d with
       | struct fields =>
         simp only [hz,hu,Option.bind_eq_bind,Option.bind_some] at h
         split at h
         · simp [ae] at h
         · rename_i hall
           cases hm:parts.toList.mapM (fun (x:Nat×Operand)=>do let f<-fields[x.1]?;some (f.offset,<- sizeT P f.type,opd tr x.2)) with
           | none =>
             simp only [Option.bind_eq_bind] at hm
             simp only [hm,Option.bind_none,Option.getD_none] at h;simp [ae] at h
           | some l =>
             have hm':=hm
             simp only [Option.bind_eq_bind] at hm
             simp only [hm,Option.bind_some,Option.getD_some,ae,Option.map_eq_some_iff] at h
             obtain ⟨r,⟨r0,h,h0⟩,h'⟩:=h
             injection h' with h1 h2
             subst h0
             obtain ⟨l1,l2⟩:=kA hm'
             obtain ⟨v,e1,e2⟩:=l7 (ρ:=ρ) (vv:=vo s) (K:=K) htr hu hz (parts:=parts.toList.map fun (i,x)=>(i,a.eval x)) (by
              have h2:(fields.toList.all fun f=>(sizeT P f.type).isSome)=true:=by
               cases hq:(fields.toList.all fun f=>(sizeT P f.type).isSome) with
               | true=>rfl
               | false=>exact absurd (by rw [hq];rfl) hall
              exact fun f hf=>List.all_eq_true.1 h2 f hf) (by simp [l1]) (fun k i v hk=>by
              obtain ⟨x,hx,rfl⟩:=hJ hk
              obtain ⟨y,hy,hy'⟩:=l2 k _ hx
              simp only [Option.bind_eq_bind,Option.bind_eq_some_iff,Option.some.injEq] at hy
              obtain ⟨f,hf,n,hn,rfl⟩:=hy
              exact ⟨f,n,_,by simp only [List.getElem?_map,hy',Option.map_some],hf,hn,hop x⟩) h w
             exact .pure hS (by simp only [execOp,ho,fM]) e1 e2 h1.symm h2
       | array m el =>
         cases hs:sizeT P el with
         | none=>simp [hz,hu,hs,ae] at h
         | some n =>
           simp only [hz,hu,hs,Option.bind_eq_bind,Option.bind_some,Option.getD_some,ae,Option.map_eq_some_iff] at h
           obtain ⟨r,⟨r0,h,h0⟩,h'⟩:=h
           injection h' with h1 h2
           subst h0
           obtain ⟨v,e1,e2⟩:=m9 (ρ:=ρ) (vv:=vo s) (K:=K) htr hu hz hs (parts:=parts.toList.map fun (i,x)=>(i,a.eval x)) (by simp) (fun k i v hk=>by
            obtain ⟨x,hx,rfl⟩:=hJ hk
            exact ⟨_,by simp only [List.getElem?_map,hx,Option.map_some],hop x⟩) h w
           exact .pure hS (by simp only [execOp,ho,fM]) e1 e2 h1.symm h2
       | _=>simp [hz,hu,ae] at h
 | buildSlice t n parts =>
   cases hmu:(mu&&Nat.blt 0 n) with
   | false =>
     simp only [aG,ho,hmu,cond_false] at h
     cases hu:P.underlying t with
     | none=>simp [hu,ae] at h
     | some d =>
       cases d with
       | slice el =>
         cases hs:sizeT P el with
         | none=>simp [hu,hs,ae] at h
         | some k =>
           cases hz:zeroT P tr el with
           | none=>simp [hu,hs,hz,ae] at h
           | some z =>
             by_cases hc:n*k<=2 ^ 20/\z.length=k/\0 < k
             · simp only [hu,hs,hz,Option.bind_eq_bind,Option.bind_some,if_pos hc,Option.getD_some,ae] at h
               split at h<;>try (cases h;done)
               rename_i rs hf
               split at h<;>try (cases h;done)
               rename_i hsc
               simp only [Option.map_eq_some_iff] at h
               obtain ⟨⟨es,fz⟩,hd,h'⟩:=h
               injection h' with h1 h2;subst h2
               obtain ⟨v,K',w',e1,e2,e3,e4⟩:=nd htr hS hu hs hz hc.1 hc.2.1 hc.2.2 (parts:=parts.toList.map fun (i,x)=>(i,a.eval x)) (by simp) (fun k i v hk=>by
                obtain ⟨x,hx,rfl⟩:=hJ hk
                exact ⟨_,by simp only [List.getElem?_map,hx,Option.map_some],hop x⟩) hf hsc hd
               exact .val (by simp only [execOp,ho,fM]) e1 ⟨K',ρ,e2,e3,e4⟩ h1.symm
             · simp only [hu,hs,hz,Option.bind_eq_bind,Option.bind_some,if_neg hc,Option.getD_none] at h;simp [ae] at h
       | _=>simp [hu,ae] at h
   | true =>
     simp only [aG,ho,hmu,cond_true] at h
     cases hu:P.underlying t with
     | none=>simp [hu,ae] at h
     | some d =>
       cases d with
       | slice el =>
         cases hs:sizeT P el with
         | none=>simp [hu,hs,ae] at h
         | some k =>
           cases hz:zeroT P tr el with
           | none=>simp [hu,hs,hz,ae] at h
           | some z =>
             by_cases hc:n*k<=2 ^ 20/\z.length=k/\0 < k
             · simp only [hu,hs,hz,Option.bind_eq_bind,Option.bind_some,if_pos hc,Option.getD_some,ae] at h
               split at h<;>try (cases h;done)
               rename_i rs hf
               split at h<;>try (cases h;done)
               rename_i hsc
               simp only [Option.map_eq_some_iff] at h
               obtain ⟨s1,hd,h'⟩:=h
               injection h' with h1 h2;subst h2
               obtain ⟨v,ρ',w',e1,e2,e3,e4⟩:=mB htr hS hu hs hz hc.1 hc.2.1 hc.2.2 (parts:=parts.toList.map fun (i,x)=>(i,a.eval x)) (by simp) (fun k i v hk=>by
                obtain ⟨x,hx,rfl⟩:=hJ hk
                exact ⟨_,by simp only [List.getElem?_map,hx,Option.map_some],hop x⟩) hf hsc hd
               exact .val (by simp only [execOp,ho,fM]) e1 ⟨K,ρ',e2,e3,e4⟩ h1.symm
             · simp only [hu,hs,hz,Option.bind_eq_bind,Option.bind_some,if_neg hc,Option.getD_none] at h;simp [ae] at h
       | _=>simp [hu,ae] at h
 | slice t x lo hi mx =>
   cases mx with
   | some m =>
     simp only [aG,ho] at h
     split at h
     · cases hs:sizeT P ‹TypeId› with
       | none=>simp [hs,ae] at h
       | some n=>simp [hs,ae] at h
     · simp [ae] at h
     · simp [ae] at h
     · simp [ae] at h
   | none =>
     simp only [aG,ho] at h
     cases hu:P.underlying t with
     | none=>simp [hu,ae] at h
     | some d =>
       cases d with
       | slice el =>
         cases hs:sizeT P el with
         | none=>simp [hu,hs,ae] at h
         | some n =>
           by_cases hc:0 < n
           · simp only [hu,hs,Option.bind_some,hc,decide_true,Option.isNone_none,Bool.and_self,if_true,Option.getD_some,ae] at h
             split at h<;>try (cases h;done)
             rename_i hst
             simp only [Option.map_eq_some_iff] at h
             obtain ⟨r,h,h'⟩:=h
             injection h' with h1 h2
             have hns : ∀ b,ev e (opd tr x) ≠ .d (.str b):=fun b hb=>by
              rw [hb] at hst
              simp [lK] at hst;omega
             obtain ⟨z,e1,e2⟩:=oO (w:=w) hu hs hc (hop x) (hopt lo) (hopt hi) h hns
             exact .pure hS (by simp [execOp,ho]) e1 e2 h1.symm h2
           · simp [hu,hs,hc,ae] at h
       | string =>
         simp only [hu,Option.isNone_none,if_true,Option.getD_some,ae] at h
         split at h<;>try (cases h;done)
         rename_i hst
         simp only [Option.map_eq_some_iff] at h
         obtain ⟨r,h,h'⟩:=h
         injection h' with h1 h2
         obtain ⟨b,hb⟩:=q8 (x:=ev e (opd tr x)) (by simpa using hst)
         rw [hb] at h
         have hx:=hop x
         rw [hb] at hx
         obtain ⟨z,e1,e2⟩:=qv hu (hopt lo) (hopt hi) h w
         exact .pure hS (by simp [execOp,ho,hx.str_inv]) e1 e2 h1.symm h2
       | array n el =>
         cases hs:sizeT P el with
         | none=>simp [hu,hs,ae] at h
         | some k =>
           simp only [hu,hs,Option.isNone_none,if_true,Option.map_some,Option.getD_some,ae,Option.map_eq_some_iff] at h
           obtain ⟨r,h,h'⟩:=h
           injection h' with h1 h2
           obtain ⟨z,e1,e2⟩:=oQ hu hs (hop x) (hopt lo) (hopt hi) h w
           exact .pure hS (by simp [execOp,ho]) e1 e2 h1.symm h2
       | _=>simp [hu,ae] at h
 | call c =>
   cases hc:c.callee with
   | value f=>exact absurd hc (hno c f ho)
   | invoke r n=>simp [aG,ho,hc,ae] at h
   | builtin b =>
     have hexec:execOp a.eval o=builtin b c.argTypes o.type (c.args.map fun | .const _=>true | _=>false) (c.args.map a.eval):=by
      simp [execOp,ho,resolve,hc,invoke]
      rfl
     have hargs : ∀ xs:List Operand,c.args.toList=xs->(c.args.map a.eval)=(xs.map a.eval).toArray:=fun xs hx=>by
      rw [<- hx];cases c.args;simp
     cases b with
     | len =>
       simp only [aG,ho,hc] at h
       split at h
       · rename_i x hx
         have ha:=hargs _ hx
         have hlen : ∀ (t:TypeId) (d:TypeDesc),c.argTypes[0]?=some t->P.underlying t=some d -> ∀ q:Nat,(match d with | .slice _ => ∃ p cap,a.eval x = .slice p q cap | .string => ∃ b,a.eval x = .string b/\b.size=q | .map _ _=>(a.eval x = .map none/\q=0) \/ ∃ r ents c,a.eval x = .map (some r)/\w.heap[r]?=some (.map ents c)/\ents.size=q | .array m _=>q=m | _=>False) ->
          (Builtin.len_ c.argTypes o.type (c.args.map a.eval)).run P w = .ok (.int .i64 q) w:=fun t d ht hd q hq=>by
          rw [ha]
          cases d with
          | slice el=>obtain ⟨p,cap,hq⟩:=hq;simp [Builtin.len_,ht,Sem.run_bind,run_underlying hd,Result.andThen_ok,hq,goInt]
          | string=>obtain ⟨b,hq,rfl⟩:=hq;simp [Builtin.len_,ht,Sem.run_bind,run_underlying hd,Result.andThen_ok,hq,goInt]
          | map kt el =>
            rcases hq with ⟨hq,rfl⟩ | ⟨r,ents,cl,hq,h1,rfl⟩
            · simp [Builtin.len_,ht,Sem.run_bind,run_underlying hd,Result.andThen_ok,hq,goInt]
            · simp [Builtin.len_,ht,Sem.run_bind,run_underlying hd,Result.andThen_ok,hq,goInt,MapKept.run_getObj_map h1]
          | array m el=>subst hq;simp [Builtin.len_,ht,Sem.run_bind,run_underlying hd,Result.andThen_ok,goInt]
          | _=>cases hq
         have hfin : ∀ (t:TypeId) (d:TypeDesc) (k:Cmp),c.argTypes[0]?=some t->P.underlying t=some d ->
          (∀ q:Nat,pi k (ev e (opd tr x))=true->iN s (ev e (opd tr x))=some q->(match d with | .slice _ => ∃ p cap,a.eval x = .slice p q cap | .string => ∃ b,a.eval x = .string b/\b.size=q | .map _ _=>(a.eval x = .map none/\q=0) \/ ∃ r ents c,a.eval x = .map (some r)/\w.heap[r]?=some (.map ents c)/\ents.size=q | .array m _=>q=m | _=>False)) ->
          ae call flags b0 (.len k (opd tr x)) e s=some (res,s')->Ran P o a.eval w (gU P fo base K ρ s w (sY res) s'):=fun t d k ht hd hq h=>by
          simp only [ae] at h
          split at h<;>try (cases h;done)
          rename_i hk
          cases hq0:iN s (ev e (opd tr x)) with
          | none=>simp [hq0] at h
          | some q =>
          simp only [hq0,Option.map_some] at h
          injection h with h;injection h with h1 h2
          exact .pure (x:=Builtin.len_ c.argTypes o.type (c.args.map a.eval)) hS (by rw [hexec];rfl) (hlen t d ht hd q (hq q hk hq0)) (.of_int _ _) h1.symm h2
         cases ht:c.argTypes[0]? with
         | none=>simp [ht,ae] at h
         | some t =>
           cases hu:P.underlying t with
           | none=>simp [ht,hu,ae] at h
           | some d =>
             have hx:=hop x
             cases d with
             | slice el =>
               simp only [ht,hu,Option.bind_some,Option.getD_some] at h
               refine hfin t _ .slice ht hu (fun q hk hq => ?_) h
               rcases lenV_spec hS (hop x) hq with h | ⟨b,h,_⟩ | ⟨h,_⟩ | ⟨r,en,cc,h,_⟩
               · exact h
               all_goals (exfalso;rw [h] at hx;generalize ev e (opd tr x)=y at hk hx;cases hx<;>first | (simp [pi] at hk;done) | (rename_i hx;cases hx<;>simp [pi] at hk))
             | string =>
               simp only [ht,hu,Option.bind_some,Option.getD_some] at h
               refine hfin t _ .str ht hu (fun q hk hq => ?_) h
               rcases lenV_spec hS (hop x) hq with ⟨p,cap,h⟩ | h | ⟨h,_⟩ | ⟨r,en,cc,h,_⟩
               · exfalso;rw [h] at hx;generalize ev e (opd tr x)=y at hk hx;cases hx<;>first | (simp [pi] at hk;done) | (rename_i hx;cases hx<;>simp [pi] at hk)
               · exact h
               all_goals (exfalso;rw [h] at hx;generalize ev e (opd tr x)=y at hk hx;cases hx<;>first | (simp [pi] at hk;done) | (rename_i hx;cases hx<;>simp [pi] at hk))
             | map kt el =>
               simp only [ht,hu,Option.bind_some,Option.getD_some] at h
               refine hfin t _ .map ht hu (fun q hk hq => ?_) h
               rcases lenV_spec hS (hop x) hq with ⟨p,cap,h⟩ | ⟨b,h,_⟩ | h | h
               · exfalso;rw [h] at hx;generalize ev e (opd tr x)=y at hk hx;cases hx<;>first | (simp [pi] at hk;done) | (rename_i hx;cases hx<;>simp [pi] at hk)
               · exfalso;rw [h] at hx;generalize ev e (opd tr x)=y at hk hx;cases hx<;>first | (simp [pi] at hk;done) | (rename_i hx;cases hx<;>simp [pi] at hk)
               · exact .inl h
               · exact .inr h
             | array m el =>
               simp only [ht,hu,Option.bind_some,Option.getD_some,ae] at h
               injection h with h;injection h with h1 h2
               exact .pure (x:=Builtin.len_ c.argTypes o.type (c.args.map a.eval)) hS (by rw [hexec];rfl) (hlen t _ ht hu m rfl) (.of_int _ _) h1.symm h2
             | _=>simp [ht,hu,ae] at h
       · simp [ae] at h
     | append =>
       simp only [aG,ho,hc] at h
       split at h
       · rename_i x y hx
         have ha:=hargs _ hx
         cases h0:c.argTypes[0]? with
         | none=>simp [h0,ae] at h
         | some t0 =>
           cases hu0:P.underlying t0 with
           | none=>simp [h0,hu0,ae] at h
           | some d0 =>
             cases d0 with
             | slice el =>
               cases h1:c.argTypes[1]? with
               | none=>simp [h0,hu0,h1,ae] at h
               | some t1 =>
                 cases hu1:P.underlying t1 with
                 | none=>simp [h0,hu0,h1,hu1,ae] at h
                 | some d1 =>
                   cases d1 with
                   | slice el' =>
                     cases hs:sizeT P el with
                     | none=>simp [h0,hu0,h1,hu1,hs,ae] at h
                     | some n =>
                       cases hz:zeroT P tr el with
                       | none=>simp [h0,hu0,h1,hu1,hs,hz,ae] at h
                       | some z =>
                         by_cases hcond:sizeT P el'=some n/\0 < n/\z.length=n
                         · cases hb:fT P el with
                           | none=>simp only [h0,hu0,h1,hu1,hs,hz,hb,Option.bind_eq_bind,Option.bind_some,if_pos hcond,Option.bind_none,Option.getD_none] at h;simp [ae] at h
                           | some bytes =>
                             simp only [h0,hu0,h1,hu1,hs,hz,hb,Option.bind_eq_bind,Option.bind_some,if_pos hcond,Option.getD_some,ae,Option.map_eq_some_iff] at h
                             obtain ⟨⟨r,s1⟩,h,h'⟩:=h
                             injection h' with q1 q2;subst q2
                             obtain ⟨u,ρ',w',e1,e2,e3,e4⟩:=nf (ty:=o.type) hS hu0 hu1 hs hb hz hcond.2.2 hcond.2.1 (hop x) (hop y) h
                             refine .val (x:=Builtin.append_ c.argTypes o.type (c.args.map a.eval)) (by rw [hexec];rfl) (w':=w') (v:=u) ?_ ⟨K,ρ',e2,e3,e4⟩ q1.symm
                             rw [mc h0 h1,ha]
                             exact e1
                         · simp only [h0,hu0,h1,hu1,hs,hz,Option.bind_eq_bind,Option.bind_some,if_neg hcond,Option.getD_none] at h;simp [ae] at h
                   | _=>simp [h0,hu0,h1,hu1,ae] at h
             | _=>simp [h0,hu0,ae] at h
       · simp [ae] at h
     | max =>
       simp only [aG,ho,hc,Option.getD_some,ae,nR] at h
       cases hx:c.args.toList with
       | nil=>simp [hx] at h
       | cons x xs =>
         simp only [hx,List.map_cons,Option.map_eq_some_iff] at h
         obtain ⟨r,h,h'⟩:=h
         injection h' with h1 h2
         obtain ⟨z,e1,e2⟩:=e8 (P:=P) (f:=Builtin.max2) (fun k p q w=>by simp [Builtin.max2]) _ _ _ _ r (hop x) (dw htr he xs) h w
         refine .pure (x:=Builtin.max_ c.argTypes o.type (c.args.map a.eval)) hS (by rw [hexec];rfl) ?_ e2 h1.symm h2
         rw [hargs _ hx]
         simpa [Builtin.max_] using e1
     | min =>
       simp only [aG,ho,hc,Option.getD_some,ae,nR] at h
       cases hx:c.args.toList with
       | nil=>simp [hx] at h
       | cons x xs =>
         simp only [hx,List.map_cons,Option.map_eq_some_iff] at h
         obtain ⟨r,h,h'⟩:=h
         injection h' with h1 h2
         obtain ⟨z,e1,e2⟩:=e8 (P:=P) (f:=Builtin.min2) (fun k p q w=>by simp [Builtin.min2]) _ _ _ _ r (hop x) (dw htr he xs) h w
         refine .pure (x:=Builtin.min_ c.argTypes o.type (c.args.map a.eval)) hS (by rw [hexec];rfl) ?_ e2 h1.symm h2
         rw [hargs _ hx]
         simpa [Builtin.min_] using e1
     | clear =>
       simp only [aG,ho,hc] at h
       split at h
       · rename_i x hx
         have ha:=hargs _ hx
         cases h0:c.argTypes[0]? with
         | none=>simp [h0,ae] at h
         | some t0 =>
           cases hu0:P.underlying t0 with
           | none=>simp [h0,hu0,ae] at h
           | some d0 =>
             cases d0 with
             | slice el =>
               cases hz:zeroT P tr el with
               | none=>simp [h0,hu0,hz,ae] at h
               | some z =>
                 by_cases hcond:sizeT P el=some z.length/\0 < z.length
                 · simp only [h0,hu0,hz,Option.bind_eq_bind,Option.bind_some,if_pos hcond,Option.getD_some,ae,Option.map_eq_some_iff] at h
                   obtain ⟨s1,h,h'⟩:=h
                   injection h' with q1 q2;subst q2
                   obtain ⟨w',e1,e2,e3⟩:=pK (esz:=0) (ty:=o.type) htr hS h0 hu0 hz hcond.2 (hop x) h
                   refine .val (x:=Builtin.clear_ c.argTypes o.type (c.args.map a.eval)) (by rw [hexec];rfl) (w':=w') (v := .tuple #[]) ?_ ⟨K,ρ,e2,e3,mn⟩ q1.symm
                   rw [ha];exact e1
                 · simp only [h0,hu0,hz,Option.bind_eq_bind,Option.bind_some,if_neg hcond,Option.getD_none] at h;simp [ae] at h
             | _=>simp [h0,hu0,ae] at h
       · simp [ae] at h
     | _=>simp [aG,ho,hc,ae] at h
 | _=>simp [aG,ho,ae] at h
def ExecOK (P:Program) (o:Oper) (η:Operand->Value) (w:World) (R:Value->World->Prop):Prop :=
 match (execOp η o).run P w with
 | .ok (.value v) w'=>R v w'
 | .ok .skip w'=>R undef w'
 | .ok (.enter f args) w'=>CallsIn Fence.wide 0 P f args w' fun e w'' => ∃ v,e = .returned v/\R v w''
 | .ok (.round l f tmps assign body) w'=>RoundIn Fence.wide 0 P l f tmps assign body w' fun e w'' => ∃ v,e = .returned v/\R v w''
 | _=>False
theorem Ran.exec {η:Operand->Value} {R:Value->World->Prop} (h:Ran P o η w R):ExecOK P o η w R:=by
 unfold ExecOK
 rcases h with ⟨v,w',h,hr⟩ | ⟨w',h,hr⟩<;>rw [h]<;>exact hr
def su (P:Program) (fo:Nat->Option FuncId):Prop := ∀ f g,fo f=some g -> ∃ fn,P.funcs[g]?=some fn/\(fn.name == "runtime.NumGoroutine")=false/\fn.body.isNone=false
theorem gx (hf:su P fo) {f:Nat} {g:FuncId} (h:fo f=some g) (args:Array Value):(callFunc g args).run P w = .ok (.enter g args) w:=by
 obtain ⟨fn,h1,h2,h3⟩:=hf f g h
 have h2':fn.name ≠ "runtime.NumGoroutine" := by simpa using h2
 have h3':fn.body≠none:=by intro hh;rw [hh] at h3;cases h3
 simp [callFunc,Sem.run_bind,program,Sem.run,h1,h2',h3']
theorem i0 (hf:su P fo) {c:Call} {f:Operand} {η:Operand->Value} {t:Tgt} {x y:List V} {q:V} {r:V} (hop:o.op = .call c) (hc:c.callee = .value f) (hq:RV fo K ρ (vo s) q (η f)) (ht:target q=some (t,x,y)) (hargs:RVs fo K ρ (vo s) (nR tr c.args |>.map (ev e)) (c.args.map η).toList)
 (h : ∀ vargs:Array Value,RVs fo K ρ (vo s) (x++(nR tr c.args).map (ev e)++y) vargs.toList->Called P fo ρ t vargs w (Done P fo base K ρ s w r s')):ExecOK P o η w (gU P fo base K ρ s w r s'):=by
 have done : ∀ e w',Done P fo base K ρ s w r s' e w' -> ∃ v,e = .returned v/\gU P fo base K ρ s w r s' v w':=fun e w' ⟨v,K',ρ',h1,h2,h3,h4⟩=>⟨v,h1,K',ρ',h2,h3,h4⟩
 have fn : ∀ (k:Nat) (g:FuncId) (va vb:Array Value),fo k=some g->t = .fn k->η f = .func (.func g) va vb->RVs fo K ρ (vo s) x va.toList->RVs fo K ρ (vo s) y vb.toList->ExecOK P o η w (gU P fo base K ρ s w r s'):=fun k g va vb hk ht hv h1 h2=>by
  subst ht
  have hcall:=h (va++c.args.map η++vb) (by simp only [Array.toList_append];exact (h1.append hargs).append h2) g hk
  have hrun:(execOp η o).run P w = .ok (.enter g (va++c.args.map η++vb)) w:=by
   simp only [execOp,hop,resolve,hc,hv,Deferred.ofValue,Sem.run_bind,Sem.run_pure,Result.andThen_ok,invoke,gx hf hk]
  unfold ExecOK
  rw [hrun]
  exact hcall.mono done
 generalize hηf:η f=vf at hq fn
 cases q with
 | d z =>
   cases z with
   | func k p q =>
     simp only [target] at ht
     injection ht with ht;injection ht with t1 t2;injection t2 with t2 t3;subst t2;subst t3
     cases hq with | d _ _ hq =>
     cases hq with | func _ g _ _ va vb hk h1 h2 =>
     exact fn k g va vb hk t1.symm rfl (.of_d h1) (.of_d h2)
   | _=>simp [target] at ht
 | func k p q =>
   simp only [target] at ht
   injection ht with ht;injection ht with t1 t2;injection t2 with t2 t3;subst t2;subst t3
   cases hq with | func _ g _ _ va vb hk h1 h2 =>
   exact fn k g va vb hk t1.symm rfl h1 h2
 | yield id =>
   simp only [target] at ht
   injection ht with ht;injection ht with t1 t2;injection t2 with t2 t3;subst t1;subst t2;subst t3
   cases hq with | yield _ v hv =>
   obtain ⟨l,h1,h2,h3⟩:=h (c.args.map η) (by simpa using hargs)
   have hrun:(execOp η o).run P w = .ok (.round (ρ id).1 l.fn ((l.params.zip (c.args.map η)).foldl (fun tmps (t,a)=>tmps.setIfInBounds t a) l.tmps) l.assign l.body) w:=by
    simp only [execOp,hop,resolve,hc,hηf,Deferred.ofValue,Sem.run_bind,Sem.run_pure,Result.andThen_ok,invoke,Array.empty_append]
    exact run_yield h1 h2
   unfold ExecOK
   rw [hrun]
   exact h3.mono done
 | _=>simp [target] at ht
theorem H4 (hf:su P fo) (hcall:eE P fo base call) (htr : ∀ g f,tr g=some f->fo f=some g) (hS:RS P fo base K ρ s w) (he:RE fo K ρ (vo s) e a.tmps) (h:ae call flags b0 (aG P tr mu slot o).1 e s=some (res,s')) :
 ExecOK P o a.eval w (gU P fo base K ρ s w (sY res) s'):=by
 by_cases hno : ∀ c f,o.op = .call c->c.callee ≠ .value f
 · exact (qy htr hS he hno h).exec
 · have : ∃ c f,o.op = .call c/\c.callee = .value f:=by
    apply Classical.byContradiction
    intro hh
    exact hno fun c f h1 h2=>hh ⟨c,f,h1,h2⟩
   obtain ⟨c,f,hop,hc⟩:=this
   have hargs:RVs fo K ρ (vo s) ((nR tr c.args).map (ev e)) (c.args.map a.eval).toList:=by
    rw [Array.toList_map];exact dw htr he c.args.toList
   have hq:RV fo K ρ (vo s) (ev e (opd tr f)) (a.eval f):=eJ htr he f
   have viaV : ∀ fo',f=fo'->ae call flags b0 (.callv (opd tr f) (nR tr c.args)) e s=some (res,s')->ExecOK P o a.eval w (gU P fo base K ρ s w (sY res) s'):=fun _ _ hv0=>by
    simp only [ae] at hv0
    split at hv0<;>try (cases hv0;done)
    rename_i t x y ht
    simp only [Option.map_eq_some_iff] at hv0
    obtain ⟨⟨r,s1⟩,hv0,h'⟩:=hv0
    injection h' with h1 h2;subst h1;subst h2
    exact i0 hf hop hc hq ht hargs fun vargs hv=>eB hcall hS hv hv0
   cases hfe:f with
   | func g =>
     subst hfe
     simp only [aG,hop,hc] at h
     cases hg:tr g with
     | none=>simp [hg,ae] at h
     | some k =>
       simp only [hg,Option.map_some,Option.getD_some,ae,Option.map_eq_some_iff] at h
       obtain ⟨⟨r,s1⟩,h,h'⟩:=h
       injection h' with h1 h2;subst h1;subst h2
       have hqe:ev e (opd tr (.func g)) = .d (.func k [] []):=by simp [opd,hg,ev]
       rw [hqe] at hq
       refine i0 (x:=[]) (y:=[]) (t := .fn k) hf hop hc hq rfl hargs fun vargs hv=>eB (flags:=flags k) hcall hS hv ?_
       rw [List.nil_append,List.append_nil]
       exact h
   | _ =>
     subst hfe
     simp only [aG,hop,hc,Option.getD_some] at h
     exact viaV _ rfl h
end
end Go.Proofs.YtncfpmehhfdipaaGreat
namespace Go.Proofs.YtncfpmehhfdipaaGreat
open Go.RowKit
variable {mu:Bool}
variable {P:Program} {fo:Nat->Option FuncId} {K K0:aS} {ρ ρ0:ax} {w w0:World} {tr:FuncId->Option Nat} {base:Nat} {s s' s0:aa} {vv:Nat->Option (Nat×Nat)}
theorem RE.put {e:Env} {tmps:Array Value} {d:Nat} {x:V} {v:Value} (he:RE fo K ρ vv e tmps) (hx:RV fo K ρ vv x v) (hd:d < tmps.size):RE fo K ρ vv (upd e d x) (tmps.setIfInBounds d v):=by
 intro t
 unfold upd
 by_cases h:t=d
 · subst h
   simp [hd,hx]
 · have:Nat.beq t d=false:=by cases hq:Nat.beq t d with | false=>rfl | true=>exact absurd (Nat.eq_of_beq_eq_true hq) h
   simp only [this,cond_false]
   have:=he t
   simpa [Array.getD_eq_getD_getElem?,Array.getElem?_setIfInBounds,Ne.symm h] using this
theorem RE.mono {K':aS} {ρ':ax} {vv':Nat->Option (Nat×Nat)} {e:Env} {tmps:Array Value} (hK : ∀ B o v,K B o=some v->K' B o=some v) (hL:Later ρ ρ' vv vv') (h:RE fo K ρ vv e tmps):RE fo K' ρ' vv' e tmps:=fun t=>(h t).mono hK hL
def Marks (w0:World) (ρ:ax) (s:aa) (w:World) (ds:List Deferred):Prop :=
 ∃ bs:List Nat,ds=bs.map (fun b => { target := .collected b,args := #[] })/\bs.Nodup /\ ∀ b∈bs,w0.heap.size<=b/\w.heap[b]?=some (.deferred (some [])) /\ ∀ id blk,getB s id=some blk->(ρ id).1≠b
theorem Marks.step {ds:List Deferred} {K':aS} {ρ':ax} {w':World} (h:Marks w0 ρ s w ds) (hT:Stp base K ρ s w K' ρ' s' w'):Marks w0 ρ' s' w' ds:=by
 obtain ⟨bs,h1,h2,h3⟩:=h
 refine ⟨bs,h1,h2,fun b hb => ?_⟩
 obtain ⟨a1,a2,a3⟩:=h3 b hb
 have hlt:=(Array.getElem?_eq_some_iff.1 a2).1
 refine ⟨a1,(hT.frame b hlt a3).trans a2,fun id blk hid he => ?_⟩
 obtain ⟨i,b0,e1,e2⟩:=hT.img id blk hid (by rw [he];exact hlt)
 exact a3 i b0 e1 (e2.trans he)
def Inv (P:Program) (fo:Nat->Option FuncId) (base N:Nat) (K0:aS) (ρ0:ax) (s0:aa) (w0:World) (e:Env) (s:aa) (a:Act) (w:World):Prop :=
 ∃ K ρ,RS P fo base K ρ s w/\Stp base K0 ρ0 s0 w0 K ρ s w/\RE fo K ρ (vo s) e a.tmps/\N<=a.tmps.size/\Marks w0 ρ s w a.defers
theorem nM {a:Act} {dst:Option Nat} {v:Value} : (a.put dst v).tmps.size=a.tmps.size:=by cases dst<;>simp [Act.put]
theorem jJ {a:Act} {dst:Option Nat} {v:Value} : (a.put dst v).defers=a.defers:=by cases dst<;>rfl
theorem RE.putO {e:Env} {a:Act} {dst:Option Nat} {x:V} {v:Value} {N:Nat} (he:RE fo K ρ vv e a.tmps) (hx:RV fo K ρ vv x v) (hN:N<=a.tmps.size) (hd : ∀ d,dst=some d->d < N):RE fo K ρ vv (YtncfpmehhfdipaaGreat.put e dst x) (a.put dst v).tmps:=by
 cases dst with
 | none=>exact he
 | some d=>exact he.put hx (Nat.lt_of_lt_of_le (hd d rfl) hN)
def Open (F:Fence):Prop:=F=Fence.wide \/ ∃ l,F=Fence.wide.inRound l
theorem Open.fn {F:Fence} (h:Open F) (f:FuncId):F.fn f:=by rcases h with rfl | ⟨l,rfl⟩<;>trivial
theorem Open.depth {F:Fence} (h:Open F):¬ F.depth.isSome=true:=by rcases h with rfl | ⟨l,rfl⟩<;>simp [Fence.wide,Fence.inRound]
theorem Open.calls {F:Fence} (h:Open F) {f:FuncId} {args:Array Value} {R:Ending->World->Prop} (hc:CallsIn Fence.wide 0 P f args w R):CallsIn F 0 P f args w R:=by
 rcases h with rfl | ⟨l,rfl⟩
 · exact hc
 · exact hc
theorem Open.rounds {F:Fence} (h:Open F) {l:Nat} {f:FuncId} {tmps:Array Value} {c d:Code} {R:Ending->World->Prop} (hc:RoundIn Fence.wide 0 P l f tmps c d w R):RoundIn F 0 P l f tmps c d w R:=by
 rcases h with rfl | ⟨l,rfl⟩
 · exact hc
 · exact hc
section
variable {F:Fence} {o:Oper} {a:Act} {next:Act->World->Prop} {Q:Exit->Act->World->Prop}
theorem ExecOK.wpIn (hF:Open F) (hd : ∀ c,o.op ≠ .defer c) {R:Value->World->Prop} (h:ExecOK P o a.eval w R) (hn : ∀ v w',R v w'->next (a.put o.dst v) w'):o.wpIn F 0 P a w next Q:=by
 refine ⟨fun f _=>hF.fn f,?_⟩
 rw [Oper.semAt_eq _ _ _ hd]
 unfold ExecOK at h
 split at h
 · rename_i he;rw [he];exact hn _ _ h
 · rename_i he;rw [he];exact hn _ _ h
 · rename_i he;rw [he]
   refine ⟨fun hh=>absurd hh hF.depth,hF.calls (h.mono fun e w'' he => ?_)⟩
   obtain ⟨v,rfl,hr⟩:=he
   exact hn _ _ hr
 · rename_i he;rw [he]
   refine ⟨fun hh=>absurd hh hF.depth,hF.rounds (h.mono fun e w'' he => ?_)⟩
   obtain ⟨v,rfl,hr⟩:=he
   exact hn _ _ hr
 · exact h.elim
end
def compOper (P:Program) (tr:FuncId->Option Nat) (mu:Bool) (all:Array Oper) (slot:Nat) (o:Oper):VOper :=
 let g:Option (Nat×Bool)×Bool:=match o.guard with
     | none=>(none,true)
     | some (j,want)=>match (all[j]?).bind (·.dst) with | some t=>(some (t,want),true) | none=>(none,false)
 { dst:=o.dst,op:=if g.2 then (aG P tr mu slot o).1 else .fail,guard:=g.1 }
theorem dc {all:Array Oper} {slot:Nat} {o:Oper} {os:List Oper} : bq P tr mu all slot (o::os)=(compOper P tr mu all slot o::(bq P tr mu all (aG P tr mu slot o).2 os).1,(bq P tr mu all (aG P tr mu slot o).2 os).2):=rfl
section
variable {call:CallSem} {flags:Nat->List Bool} {b0 slot N:Nat} {o:Oper} {ops:Array Oper} {e e':Env} {a:Act} {F:Fence} {Q:Exit->Act->World->Prop} {next:Act->World->Prop}
theorem oH {t:Nat} {b want:Bool} {j:Nat} (he:RE fo K ρ vv e a.tmps) (hj:(ops[j]?).bind (·.dst)=some t) (ho:o.guard=some (j,want)) (h:bx (some (t,want)) e=some b):Region.wanted o (yielded ops a.tmps)=b:=by
 have ht:=he t
 simp only [bx] at h
 simp only [Region.wanted,ho,yielded,hj,Option.bind_some]
 generalize hq:e t=q at h ht
 split at h<;>try (cases h;done)
 · rename_i c
   injection h with h;subst h
   have hv:=ht.bool_inv
   have hget:a.tmps[t]?=some (.bool c):=by
    cases hg:a.tmps[t]? with
    | none=>simp [Array.getD_eq_getD_getElem?,hg,undef] at hv
    | some v=>simp [Array.getD_eq_getD_getElem?,hg] at hv;rw [hv]
   rw [hget]
   cases c<;>cases want<;>rfl
 · injection h with h;subst h
   cases ht with | d _ _ ht =>
   generalize hv:a.tmps.getD t undef=v at ht
   cases ht with | tuple _ vs hvs =>
   cases hg:a.tmps[t]? with
   | none=>rfl
   | some v =>
     simp [Array.getD_eq_getD_getElem?,hg] at hv
     rw [hv];rfl
theorem nv (hF:Open F) (hf:su P fo) (hcall:eE P fo base call) (htr : ∀ g f,tr g=some f->fo f=some g) {i:Nat} (hi:ops[i]?=some o) (hd : ∀ d,o.dst=some d->d < N)
 (hI:Inv P fo base N K0 ρ0 s0 w0 e s a w) (h:az call flags b0 (compOper P tr mu ops slot o) e s=some (e',s')) (hn : ∀ a' w',Inv P fo base N K0 ρ0 s0 w0 e' s' a' w'->next a' w'):wpOpIn F 0 P ops Q i next a w:=by
 obtain ⟨K,ρ,hS,hT,hE,hN,hds⟩:=hI
 unfold wpOpIn
 simp only [hi]
 have hwant : ∀ b,bx (compOper P tr mu ops slot o).guard e=some b->(compOper P tr mu ops slot o).op ≠ .fail\/b=false->Region.wanted o (yielded ops a.tmps)=b:=fun b hb hfail=>by
  unfold compOper at hb hfail
  cases hg:o.guard with
  | none=>simp only [hg,bx] at hb;injection hb with hb;subst hb;simp [Region.wanted,hg]
  | some g =>
    obtain ⟨j,want⟩:=g
    cases hq:(ops[j]?).bind (·.dst) with
    | none =>
      simp only [hg,hq,bx] at hb hfail
      injection hb with hb;subst hb
      simp at hfail
    | some t=>simp only [hg,hq] at hb;exact oH hE hq hg hb
 unfold az at h
 split at h<;>try (cases h;done)
 · rename_i hw
   injection h with h;injection h with h1 h2;subst h1;subst h2
   rw [if_neg (by rw [hwant false hw (.inr rfl)];simp)]
   exact ⟨fun f _=>hF.fn f,hn _ _ ⟨K,ρ,hS,hT,hE.putO mn hN hd,by rw [nM];exact hN,by rw [jJ];exact hds⟩⟩
 · rename_i hw
   have hne:(compOper P tr mu ops slot o).op ≠ .fail:=fun hf=>by rw [hf] at h;simp [ae] at h
   have hop:(compOper P tr mu ops slot o).op=(aG P tr mu slot o).1:=by
    unfold compOper at hne ⊢
    cases hg:o.guard with
    | none=>simp [hg]
    | some g =>
      cases hq:(ops[g.1]?).bind (·.dst) with
      | none=>simp [hg,hq] at hne
      | some t=>simp [hg,hq]
   rw [if_pos (hwant true hw (.inl hne))]
   have hnd : ∀ c,o.op ≠ .defer c:=fun c hc=>by rw [hop] at hne;simp [aG,hc] at hne
   rw [hop] at h
   have key : ∀ res s1,ae call flags b0 (aG P tr mu slot o).1 e s=some (res,s1)->e'=put e o.dst (sY res)->s'=s1->o.wpIn F 0 P a w next Q:=fun res s1 hr h1 h2=>by
    subst h1;subst h2
    refine (H4 hf hcall htr hS hE hr).wpIn hF hnd fun v w' hv => ?_
    obtain ⟨K',ρ',q1,q2,q3⟩:=hv
    exact hn _ _ ⟨K',ρ',q1,hT.trans q2,(hE.mono q2.known q2.later).putO q3 hN hd,by rw [nM];exact hN,by rw [jJ];exact hds.step q2⟩
   split at h<;>try (cases h;done)
   · rename_i x s1 hr
     injection h with h;injection h with h1 h2
     exact key _ _ hr h1.symm h2.symm
   · rename_i s1 hr
     injection h with h;injection h with h1 h2
     exact key _ _ hr h1.symm h2.symm
theorem qz (hF:Open F) (hf:su P fo) (hcall:eE P fo base call) (htr : ∀ g f,tr g=some f->fo f=some g) : ∀ (os:List Oper) (i:Nat) {slot:Nat} {e:Env} {s:aa} {a:Act} {w:World},(∀ k,os[k]?=ops[i+k]?) ->
 (∀ o∈os,∀ d,o.dst=some d->d < N)->Inv P fo base N K0 ρ0 s0 w0 e s a w->co call flags b0 (bq P tr mu ops slot os).1 e s=some (e',s')->(∀ a' w',Inv P fo base N K0 ρ0 s0 w0 e' s' a' w'->Q .normal a' w') ->
 wpOpsIn F 0 P ops Q (List.range' i os.length) a w
 | [],i,slot,e,s,a,w,hk,hd,hI,h,hQ=>by
   simp only [bq,co] at h
   injection h with h;injection h with h1 h2;subst h1;subst h2
   exact hQ _ _ hI
 | o::os,i,slot,e,s,a,w,hk,hd,hI,h,hQ=>by
   rw [dc] at h
   simp only [co] at h
   split at h<;>try (cases h;done)
   rename_i e1 s1 h1
   rw [List.length_cons,List.range'_succ,wpOpsIn_cons]
   have hi:ops[i]?=some o:=by have:=hk 0;simpa using this.symm
   refine nv hF hf hcall htr hi (hd o (by simp)) hI h1 fun a' w' hI' => ?_
   exact qz hF hf hcall htr os (i+1) (fun k=>by have:=hk (k+1);simp at this;rw [this];congr 1;omega) (fun o ho=>hd o (by simp [ho])) hI' h hQ
end
end Go.Proofs.YtncfpmehhfdipaaGreat
namespace Go.Proofs.YtncfpmehhfdipaaGreat
open Go.RowKit
section
variable {F:Fence} {n:Nat} {P:Program} {c:Code} {Q:Exit->Act->World->Prop} {a:Act} {w:World}
def LoopAt (F:Fence) (n:Nat) (P:Program) (c:Code) (Q:Exit->Act->World->Prop) (a:Act) (w:World):Prop :=
 ∀ (b:Frame) (k:List Item) (cs:List Frame),b.roundOf=F.round->F.fn b.fn->F.room (cs.length+1+n) ->
   ∃ e a' w',Q e a' w'/\ArrivesIn (Machine.fenced P F) P (lone (b.atR a (.code c :: .inLoop c::k)) cs w) b k cs e a' w'
theorem LoopAt.wpIn (h:LoopAt F n P c Q a w):(Code.loop c).wpIn F n P Q a w:=by
 intro b k cs hro hb hr
 obtain ⟨e,a',w',hq,harr⟩:=h b k cs hro hb hr
 exact ⟨e,a',w',hq,.of_steps (.one (fenced_calm hb hr rfl) stepR_loop) harr⟩
theorem LoopAt.step (h:c.wpIn F n P (Exit.then (LoopAt F n P c Q) Q) a w):LoopAt F n P c Q a w:=by
 intro b k cs hro hb hr
 obtain ⟨e,a₁,w₁,hq,harr⟩:=h b (.inLoop c::k) cs hro hb hr
 cases e with
 | normal =>
   obtain ⟨e₂,a₂,w₂,hq₂,harr₂⟩:=hq b k cs hro hb hr
   exact ⟨e₂,a₂,w₂,hq₂,.of_steps (StepsIn.trans harr (.one (fenced_calm hb hr rfl) stepR_inLoop)) harr₂⟩
 | exit id=>exact ⟨_,a₁,w₁,hq,.pass (x := .inLoop c) rfl (fun _ _ => .inl (by simp)) harr⟩
 | goto l=>exact ⟨_,a₁,w₁,hq,.pass (x := .inLoop c) rfl (fun _ _ => .inl (by simp)) harr⟩
 | ret=>exact ⟨_,a₁,w₁,hq,.pass (x := .inLoop c) rfl (fun _ _ => .inl (by simp)) harr⟩
 | panic ch=>exact ⟨_,a₁,w₁,hq,.pass (x := .inLoop c) rfl (fun _ _ => .inl (by simp)) harr⟩
 | outgrown=>exact ⟨_,a₁,w₁,hq,.pass (x := .inLoop c) rfl (fun _ _ => .inl (by simp)) harr⟩
theorem cd {b:Frame} {k:List Item} {cs:List Frame} : step P (lone (b.atR a (.code (.scope c)::k)) cs w) = .next (lone (b.atR a (.code c :: .inScope c::k)) cs w) :=
 step_lone_go (by simp [stepG,stepG.exec,Frame.atR])
theorem kh {b:Frame} {k:List Item} {cs:List Frame} : step P (lone (b.atR a (.inScope c::k)) cs w) = .next (lone (b.atR a k) cs w) :=
 step_lone_go (by simp [stepG,stepG.exec,Frame.atR])
theorem oo (h:c.wpIn F n P (fun e a w=>match e with | .goto _=>False | e=>Q e a w) a w):(Code.scope c).wpIn F n P Q a w:=by
 intro b k cs hro hb hr
 have h0:(lone (b.atR a (.code (.scope c)::k)) cs w).fenced P F:=fenced_calm hb hr rfl
 obtain ⟨e,a₁,w₁,hq,harr⟩:=h b (.inScope c::k) cs hro hb hr
 cases e with
 | normal=>exact ⟨.normal,a₁,w₁,hq,.head h0 cd (StepsIn.trans harr (.one (fenced_calm hb hr rfl) kh))⟩
 | exit id =>
   have hx:exitTo id (.inScope c::k)=exitTo id k:=by simp [exitTo]
   exact ⟨_,a₁,w₁,hq,fun k' hk => .head h0 cd (harr.1 k' (by rw [hx];exact hk)),
    fun hr' hk=>let ⟨k₁,h1,h2⟩:=harr.2 hr' (by rw [hx];exact hk);⟨k₁,h1,.head h0 cd h2⟩⟩
 | goto l=>exact hq.elim
 | ret=>exact ⟨_,a₁,w₁,hq,.of_steps (.one h0 cd) harr⟩
 | panic ch=>exact ⟨_,a₁,w₁,hq,.of_steps (.one h0 cd) harr⟩
 | outgrown=>exact ⟨_,a₁,w₁,hq,.of_steps (.one h0 cd) harr⟩
end
variable {mu:Bool}
variable {P:Program} {fo:Nat->Option FuncId} {K K0:aS} {ρ ρ0:ax} {w w0:World} {tr:FuncId->Option Nat} {base N:Nat} {s s' s0:aa}
def dW:Out->Exit
 | .normal => .normal
 | .exit id => .exit id
 | .ret => .ret
theorem Inv.reserve {n:Nat} {e:Env} {a:Act} (h:Inv P fo base N K0 ρ0 s0 w0 e s a w):Inv P fo base N K0 ρ0 s0 w0 e (s++List.replicate n none) a w:=by
 obtain ⟨K,ρ,h1,h2,h3,h4,h5⟩:=h
 refine ⟨K,ρ,h1.reserve,h2.trans .reserve,?_,h4,h5.step (K:=K) (K':=K) (base:=base) .reserve⟩
 rw [ck];exact h3
theorem lG {e:Env} {m:Nat->Option Nat} : ∀ (live:List Nat) (t:Nat),dQ (uV m (lives e live)) t=if t∈live then ren m (e t) else .poison
 | [],t=>rfl
 | x::live,t=>by
   have ih:=lG (e:=e) (m:=m) live t
   simp only [lives,uV,List.map_cons,dQ,List.foldr_cons] at ih ⊢
   unfold upd
   by_cases h:t=x
   · subst h;simp
   · have:Nat.beq t x=false:=by cases hq:Nat.beq t x with | false=>rfl | true=>exact absurd (Nat.eq_of_beq_eq_true hq) h
     simp only [this,cond_false,List.mem_cons,h,false_or]
     exact ih
theorem Inv.sweep {live:List Nat} {e:Env} {a:Act} (h:Inv P fo base N K0 ρ0 s0 w0 e s a w) :
 Inv P fo base N K0 ρ0 s0 w0 (YtncfpmehhfdipaaGreat.sweep s0.length live e s).1 (YtncfpmehhfdipaaGreat.sweep s0.length live e s).2 a w:=by
 obtain ⟨K,ρ,h1,h2,h3,h4,h5⟩:=h
 obtain ⟨g1,g2⟩:=gk s s0.length (ei (lives e live))
 refine ⟨K,aJ ρ (ci s s0.length (ei (lives e live))),h1.pack g1,h2.pack g2,fun t => ?_,h4,?_⟩
 · simp only [YtncfpmehhfdipaaGreat.sweep,lG]
   split
   · exact (h3 t).ren eI
   · exact .poison _
 · obtain ⟨bs,b1,b2,b3⟩:=h5
   refine ⟨bs,b1,b2,fun b hb=>⟨(b3 b hb).1,(b3 b hb).2.1,fun id blk hid => ?_⟩⟩
   simp only [YtncfpmehhfdipaaGreat.sweep,dC] at hid
   cases hi:(ci s s0.length (ei (lives e live)))[id]? with
   | none=>simp [hi] at hid
   | some i =>
     simp only [hi,Option.bind_some,Option.map_eq_some_iff] at hid
     obtain ⟨b0,h0,_⟩:=hid
     have e:aJ ρ (ci s s0.length (ei (lives e live))) id=ρ i:=by simp [aJ,List.getD,hi]
     rw [e];exact (b3 b hb).2.2 i b0 h0
section
variable {call:CallSem} {flags:Nat->List Bool} {F:Fence}
theorem gJ {Q:Exit->Act->World->Prop} {id:Nat} {out:Out} {a:Act} {w:World} (h:Q (dW (if out = .exit id then .normal else out)) a w):Exit.inBlock id Q (dW out) a w:=by
 cases out with
 | normal=>simpa [dW,Exit.inBlock] using h
 | ret=>simpa [dW,Exit.inBlock] using h
 | exit i =>
   simp only [dW,Exit.inBlock]
   by_cases hi:i=id
   · subst hi;simpa [dW] using h
   · have:¬ (Out.exit i=Out.exit id):=fun hh=>hi (by injection hh)
     rw [if_neg this] at h
     simpa [hi,dW] using h
theorem iV {N:Nat} {draw:Option (List (Nat×Nat))} {slots slot:Nat} {ops:Array Oper} : ∀ {os:List Oper},b8 N (.region draw slots (bq P tr mu ops slot os).1)=true -> ∀ o∈os,∀ d,o.dst=some d->d < N:=by
 intro os
 induction os generalizing slot with
 | nil=>intro _ o ho;simp at ho
 | cons o os ih =>
   intro h o' ho' d hd
   rw [dc] at h
   simp only [b8,List.all_cons,Bool.and_eq_true] at h
   rcases List.mem_cons.1 ho' with rfl | ho'
   · have:=h.1
     simp only [compOper,hd] at this
     simpa using this
   · exact ih (slot:=(aG P tr mu slot o).2) (by simp only [b8];exact h.2) o' ho' d hd
def vj (P:Program) (fo:Nat->Option FuncId) (base N:Nat) (K0:aS) (ρ0:ax) (s0:aa) (w0:World) (call:CallSem) (flags:Nat->List Bool) (tr:FuncId->Option Nat) (F:Fence):Prop :=
 ∀ {mu:Bool} (id:Nat) (ops:Array Oper) (e:Env) (s:aa) (a:Act) (w:World) (pairs:List (Nat×Nat)) (e':Env) (s':aa) (Q:Exit->Act->World->Prop),
   kN ops.toList=true->qk (bP ops.toList) (bq P tr mu ops 0 ops.toList).1=true->pairs=iG (bP ops.toList) (bq P tr mu ops 0 ops.toList).1 ->
   (∀ o∈ops.toList,∀ d,o.dst=some d->d < N)->Inv P fo base N K0 ρ0 s0 w0 e s a w->bZ call flags (some pairs) (bq P tr mu ops 0 ops.toList).2 (bq P tr mu ops 0 ops.toList).1 e s=some (e',s') ->
   (∀ a' w',Inv P fo base N K0 ρ0 s0 w0 e' s' a' w'->Q .normal a' w')->(Code.region id ops true).wpIn F 0 P Q a w
def sf (P:Program) (fo:Nat->Option FuncId) (base N:Nat) (K0:aS) (ρ0:ax) (s0:aa) (w0:World) (call:CallSem) (flags:Nat->List Bool) (tr:FuncId->Option Nat) (F:Fence):Prop :=
 ∀ {mu:Bool} (f:Operand) (ps:Array Tmp) (ca cb:Code) (la lb:List (List Nat)) (live:List Nat) (e:Env) (s:aa) (a:Act) (w:World) (out:Out) (e':Env) (s':aa) (Q:Exit->Act->World->Prop),
   F=Fence.wide->b8 N (.rangeFunc (opd tr f) live ps.toList (compCode P tr mu ca la).1 (compCode P tr mu cb lb).1)=true->b6 (compCode P tr mu ca la).1=true->b6 (compCode P tr mu cb lb).1=true->Inv P fo base N K0 ρ0 s0 w0 e s a w ->
   dL call flags (ev e (opd tr f)) live ps.toList (compCode P tr mu ca la).1 (compCode P tr mu cb lb).1 e s=some (out,e',s') ->
   (∀ a' w',Inv P fo base N K0 ρ0 s0 w0 e' s' a' w'->Q (dW out) a' w')->(Code.rangeFunc f ps ca cb).wpIn F 0 P Q a w
theorem Out.then_spec {K:Act->World->Prop} {Q:Exit->Act->World->Prop} {out:Out} {a:Act} {w:World} (h1:out = .normal->K a w) (h2:out ≠ .normal->Q (dW out) a w):Exit.then K Q (dW out) a w:=by
 cases out with
 | normal=>exact h1 rfl
 | exit id=>exact h2 (by simp)
 | ret=>exact h2 (by simp)
theorem kj (hF:Open F) (hf:su P fo) (hcall:eE P fo base call) (htr : ∀ g f,tr g=some f->fo f=some g) (hD:vj P fo base N K0 ρ0 s0 w0 call flags tr F) (hR:sf P fo base N K0 ρ0 s0 w0 call flags tr F) {fuel:Nat} :
 ∀ (c:Code) (l:List (List Nat)) {e:Env} {s:aa} {a:Act} {w:World} {out:Out} {e':Env} {s':aa} {Q:Exit->Act->World->Prop},b8 N (compCode P tr mu c l).1=true->(b6 (compCode P tr mu c l).1=true\/F=Fence.wide) ->
   Inv P fo base N K0 ρ0 s0 w0 e s a w->ak call flags s0.length fuel (compCode P tr mu c l).1 e s=some (out,e',s')->(∀ a' w',Inv P fo base N K0 ρ0 s0 w0 e' s' a' w'->Q (dW out) a' w')->c.wpIn F 0 P Q a w:=by
 intro c
 induction c with
 | skip =>
   intro l e s a w out e' s' Q hd hn hI h hQ
   simp only [compCode,ak] at h
   injection h with h;injection h with h1 h2;injection h2 with h2 h3;subst h1;subst h2;subst h3
   exact wpIn_skip (hQ _ _ hI)
 | label id =>
   intro l e s a w out e' s' Q hd hn hI h hQ
   simp only [compCode,ak] at h
   injection h with h;injection h with h1 h2;injection h2 with h2 h3;subst h1;subst h2;subst h3
   exact wpIn_label (hQ _ _ hI)
 | exit id =>
   intro l e s a w out e' s' Q hd hn hI h hQ
   simp only [compCode,ak] at h
   injection h with h;injection h with h1 h2;injection h2 with h2 h3;subst h1;subst h2;subst h3
   exact wpIn_exit (hQ _ _ hI)
 | ret =>
   intro l e s a w out e' s' Q hd hn hI h hQ
   simp only [compCode,ak] at h
   injection h with h;injection h with h1 h2;injection h2 with h2 h3;subst h1;subst h2;subst h3
   exact wpIn_ret (hQ _ _ hI)
 | goto id =>
   intro l e s a w out e' s' Q hd hn hI h hQ
   simp [compCode,ak] at h
 | refuse why =>
   intro l e s a w out e' s' Q hd hn hI h hQ
   simp [compCode,ak] at h
 | region id ops draw =>
   intro l e s a w out e' s' Q hd hn hI h hQ
   cases draw with
   | false =>
     simp only [compCode,gm,Bool.false_eq_true,if_false,ak,Option.map_eq_some_iff] at h hd
     obtain ⟨⟨e1,s1⟩,h,h'⟩:=h
     injection h' with h1 h2;injection h2 with h2 h3;subst h1;subst h2;subst h3
     simp only [bZ] at h
     refine wpIn_region ?_
     have:=qz (Q:=Q) hF hf hcall htr ops.toList 0 (ops:=ops) (N:=N) (fun k=>by simp) (iV hd) (hI.reserve (n:=(bq P tr mu ops 0 ops.toList).2)) h (fun a' w' hI'=>hQ a' w' hI')
     rw [List.range_eq_range']
     simpa using this
   | true =>
     simp only [compCode,gm,if_true] at h hd
     split at h
     · rename_i hc
       rw [if_pos hc] at hd
       simp only [Bool.and_eq_true] at hc
       simp only [ak,Option.map_eq_some_iff] at h
       obtain ⟨⟨e1,s1⟩,h,h'⟩:=h
       injection h' with h1 h2;injection h2 with h2 h3;subst h1;subst h2;subst h3
       exact hD id ops e s a w _ _ _ Q hc.1 hc.2 rfl (iV hd) hI h hQ
     · simp [ak] at h
 | seq x y ihx ihy =>
   intro l e s a w out e' s' Q hd hn hI h hQ
   simp only [compCode,b8,b6,Bool.and_eq_true] at hd hn
   simp only [compCode,ak] at h
   split at h
   · rename_i e1 s1 h1
     refine wpIn_seq (ihx l hd.1 (hn.imp (·.1) id) hI h1 fun a1 w1 hI1 => ?_)
     exact ihy _ hd.2 (hn.imp (·.2) id) hI1 h hQ
   · rename_i hne
     refine wpIn_seq (ihx l hd.1 (hn.imp (·.1) id) hI h fun a1 w1 hI1=>Out.then_spec (fun ho => ?_) (fun _=>hQ _ _ hI1))
     subst ho
     exact absurd h (hne e' s')
 | cond c x y ihx ihy =>
   intro l e s a w out e' s' Q hd hn hI h hQ
   simp only [compCode,b8,b6,Bool.and_eq_true] at hd hn
   simp only [compCode,ak] at h
   have hc:RV _ _ _ _ _ _:=eJ htr hI.choose_spec.choose_spec.2.2.1 c
   split at h<;>try (cases h;done)
   · rename_i hb
     rw [hb] at hc
     exact wpIn_cond_true hc.bool_inv (ihx l hd.1 (hn.imp (·.1) id) hI h hQ)
   · rename_i hb
     rw [hb] at hc
     exact wpIn_cond_false hc.bool_inv (ihy _ hd.2 (hn.imp (·.2) id) hI h hQ)
 | block id x ih =>
   intro l e s a w out e' s' Q hd hn hI h hQ
   simp only [compCode,b8,b6] at hd hn
   simp only [compCode,ak] at h
   refine wpIn_block ?_
   split at h
   · rename_i i e1 s1 h1
     refine ih l hd hn hI h1 fun a1 w1 hI1=>gJ ?_
     split at h
     · rename_i hi
       injection h with h;injection h with q1 q2;injection q2 with q2 q3;subst q1;subst q2;subst q3
       rw [if_pos (by rw [hi])];exact hQ _ _ hI1
     · rename_i hi
       injection h with h;injection h with q1 q2;injection q2 with q2 q3;subst q1;subst q2;subst q3
       rw [if_neg (fun hh=>hi (by injection hh))];exact hQ _ _ hI1
   · rename_i hne
     refine ih l hd hn hI h fun a1 w1 hI1=>gJ ?_
     rw [if_neg (fun hh=>hne id e' s' (by rw [<- hh];exact h))]
     exact hQ _ _ hI1
 | loop x ih =>
   intro l e s a w out e' s' Q hd hn hI h hQ
   cases l with
   | nil=>simp [compCode,ak] at h
   | cons live l =>
     simp only [compCode,b8,b6] at hd hn
     simp only [compCode,ak] at h
     have key : ∀ (m:Nat) {e:Env} {s:aa} {a:Act} {w:World},Inv P fo base N K0 ρ0 s0 w0 e s a w ->
      pQ (fun e s=>let (e1,s1):=YtncfpmehhfdipaaGreat.sweep s0.length live e s;ak call flags s0.length fuel (compCode P tr mu x l).1 e1 s1) m e s=some (out,e',s')->LoopAt F 0 P x Q a w:=by
      intro m
      induction m with
      | zero=>intro e s a w hI h;simp [pQ] at h
      | succ m ihm =>
        intro e s a w hI h
        simp only [pQ] at h
        split at h
        · rename_i e1 s1 h1
          exact .step (ih l hd hn hI.sweep h1 fun a1 w1 hI1=>ihm hI1 h)
        · rename_i hne
          refine .step (ih l hd hn hI.sweep h fun a1 w1 hI1=>Out.then_spec (fun ho => ?_) (fun _=>hQ _ _ hI1))
          subst ho
          exact absurd h (hne e' s')
     exact (key fuel hI h).wpIn
 | scope x ih =>
   intro l e s a w out e' s' Q hd hn hI h hQ
   refine oo (ih l hd hn hI h fun a1 w1 hI1 => ?_)
   have:=hQ _ _ hI1
   cases out<;>exact this
 | rangeFunc f ps x y ihx ihy =>
   intro l e s a w out e' s' Q hd hn hI h hQ
   cases l with
   | nil=>simp [compCode,ak] at h
   | cons live l =>
     simp only [compCode] at h hd hn
     split at h
     · rename_i hc
       rw [if_pos hc] at hd hn
       simp only [Bool.and_eq_true] at hc
       simp only [ak] at h
       have hw:F=Fence.wide:=by rcases hn with hn | hn;· simp [b6] at hn
                                · exact hn
       exact hR f ps x y _ _ live e s a w out e' s' Q hw hd hc.1 hc.2 hI h hQ
     · simp [ak] at h
end
end Go.Proofs.YtncfpmehhfdipaaGreat
