/- Modules in general: forms, as the program looks at them. -/
import Derived.Test.YtncfpmehhfdipaaGreatA08
import Derived.Test.YtncfpmehhfdipaaGreatA05
import Derived.KernelRfl
set_option linter.unusedSimpArgs false
set_option linter.unusedVariables false
set_option linter.unnecessarySimpa false
namespace Go.Proofs.YtncfpmehhfdipaaGreat
open Go.IntWalk
attribute [local irreducible] au
set_option maxHeartbeats 4000000
set_option maxRecDepth 100000
theorem dII {x y x' y':Int} (h:x=x') (h':y=y'):V.d (.tuple [.int .i64 x,.int .i64 y])=V.d (.tuple [.int .i64 x',.int .i64 y']):=by rw [h,h']
def scP (p:Nat) (cs:List Ce):D := .agg [.int .i64 p,.slice (cs.map Ce.d),.slice [],.int .i64 0,.bool true]
theorem ari (o:Nat) (h:o=5\/o=6\/o=7\/o=8\/o=9\/o=10\/o=11\/o=12):Ret VP (.fn 152) [.d (.int .i64 o)] [] (.d (.int .i64 2)) []:=by
 rcases h with rfl | rfl | rfl | rfl | rfl | rfl | rfl | rfl
 all_goals (refine ret_of rfl rfl (r0 ?_);refine Z2 ?_;rfl)
theorem amK:Ret VP (.fn 152) [.d (.int .i64 1)] [] (.d (.int .i64 0)) []/\Ret VP (.fn 152) [.d (.int .i64 3)] [] (.d (.int .i64 0)) []/\Ret VP (.fn 152) [.d (.int .i64 4)] [] (.d (.int .i64 1)) []/\Ret VP (.fn 152) [.d (.int .i64 13)] [] (.d (.int .i64 3)) []:=by
 refine ⟨?_,?_,?_,?_⟩
 all_goals (refine ret_of rfl rfl (r0 ?_);refine Z2 ?_;rfl)
theorem bS:Ret VP (.fn 211) [.d rz] [] (.d (.bool true)) []:=by
 refine ret_of rfl rfl (r0 ?_)
 refine Z2 ?_
 rfl
theorem cj (f:Fo):f.sz<=1000->f.dp<=1000->Ret VP (.fn 92) [.d f.d] [] (.d (.tuple [.int .i64 f.dp,.int .i64 f.sz])) []:=by
 induction f with
 | z =>
   intro _ _
   refine ret_of rfl rfl (r0 ?_)
   refine Z2 ?_
   rfl
 | int i =>
   intro _ _
   refine ret_of rfl rfl (r0 ?_)
   refine Z2 ?_
   rfl
 | var v =>
   intro _ _
   refine ret_of rfl rfl (r0 ?_)
   refine Z2 ?_
   rfl
 | no a ha =>
   intro h h'
   simp only [Fo.sz,Fo.dp] at h h'
   have ha:=ha (by omega) (by omega)
   refine ret_of rfl rfl (r0 ?_)
   refine Z2 ?_
   refine fe rfl (dII ?_ ?_) rfl
   all_goals ((try simp only [Fo.sz,Fo.dp,decide_eq_true_eq,gt_iff_lt,IntKind.wrap_i64]);omega)
 | bin o a b ha hb =>
   intro h h'
   simp only [Fo.sz,Fo.dp] at h h'
   have ha:=ha (by omega) (by omega)
   have hb:=hb (by omega) (by omega)
   refine ret_of rfl rfl (r0 ?_)
   refine Z2 ?_
   refine fe rfl (dII ?_ ?_) rfl
   all_goals ((try simp only [Fo.sz,Fo.dp,decide_eq_true_eq,gt_iff_lt,IntKind.wrap_i64]);omega)
 | cond a b c ha hb hc =>
   intro h h'
   simp only [Fo.sz,Fo.dp] at h h'
   have ha:=ha (by omega) (by omega)
   have hb:=hb (by omega) (by omega)
   have hc:=hc (by omega) (by omega)
   refine ret_of rfl rfl (r0 ?_)
   refine Z2 ?_
   refine fe rfl (dII ?_ ?_) rfl
   all_goals ((try simp only [Fo.sz,Fo.dp,decide_eq_true_eq,gt_iff_lt,IntKind.wrap_i64]);omega)
theorem fD (f:Fo) (h:f.sz<=100) (h':f.dp<=10):Ret VP (.fn 88) [.d f.d] [] (.d (.bool true)) []:=by
 have h1:=cj f (by omega) (by omega)
 have t1:(f.dp:Int)<=200:=by omega
 have t2:(f.sz:Int)<=20000:=by omega
 refine ret_of rfl rfl (r0 ?_)
 (have hz1:=decide_eq_true t1;have hz2:=decide_eq_true t2;refine Z2 ?_)
 exact fe rfl (dB (decide_eq_true t2)) rfl
theorem IQ (cs:List Ce) (o:Nat) (h:o < cs.length):Ret VP (.fn 141) [.d (.int .i64 o),.d (.iptr [.slice (cs.map Ce.d)] 0)] [] (.d (.bool false)) []:=by
 have t1:¬ (o:Int) < 0:=by omega
 have t2:¬ ((o:Int)>=((cs.map Ce.d).length:Nat)):=by rw [List.length_map];omega
 refine ret_of rfl rfl (r0 ?_)
 (have hz3:=decide_eq_false t1;have hz4:=decide_eq_false t2;refine Z2 ?_)
 exact fe rfl (dB (decide_eq_false t2)) rfl
theorem IP (cs:List Ce) (os:List Nat) (h : ∀ o∈os,o < cs.length) (hl:os.length < 1000):Ret VP (.fn 179) [.d (.slice (os.map oD)),.d (.func 141 [] [.iptr [.slice (cs.map Ce.d)] 0])] [] (.d (.int .i64 (-1))) []:=by
 refine ret_of rfl rfl (r0 ?_)
 refine Z1 ?_
 refine af rfl ?_
 refine cB (fun i=>[.d (.slice (os.map oD)),.d (.func 141 [] [.iptr [.slice (cs.map Ce.d)] 0]),.d (.int .i64 ((os.map oD).length:Nat)),.d (.int .i64 i)]) (fun _=>[]) os.length (fun i hi hn => ?_) ?_
 · have ht:((i:Int) < ((os.map oD).length:Nat)):=by rw [List.length_map];omega
   have hw:=ac i (by omega)
   have h1:=IQ cs os[i] (h _ (List.getElem_mem _))
   have hg:(os.map oD)[i]?=some (oD os[i]):=by rw [List.getElem?_map,List.getElem?_eq_getElem hi];rfl
   unfold ah
   (have hz5:=decide_eq_true ht;refine Z1 ?_)
   rw [hw]
   exact af rfl hn
 · have hf:¬ ((os.length:Int) < ((os.map oD).length:Nat)):=by rw [List.length_map];omega
   unfold ah
   (have hz6:=decide_eq_false hf;refine Z1 ?_)
   rfl
theorem IL (cs:List Ce) (os:List Nat) (h : ∀ o∈os,o < cs.length) (hl:os.length < 1000):Ret VP (.fn 97) [.d (.slice (os.map oD)),.d (.slice (cs.map Ce.d))] [] (.d (.bool true)) []:=by
 have h1:=IP cs os h hl
 have h2:Ret VP (.fn 140) [.d (.slice (os.map oD)),.d (.func 141 [] [.iptr [.slice (cs.map Ce.d)] 0])] [] (.d (.bool false)) []:=by
  refine ret_of rfl rfl (r0 ?_)
  refine Z1 ?_
  rfl
 refine ret_of rfl rfl (r0 ?_)
 refine Z1 ?_
 rfl
theorem an8:Ret VP (.fn 212) [.d (.slice []),.d (.bool true)] [] (.d (.bool false)) []:=by
 have h:Ret VP (.fn 244) [.d (.slice []),.d (.bool true)] [] (.d (.int .i64 (-1))) []:=by
  refine ret_of rfl rfl (r0 ?_)
  refine Z2 ?_
  rfl
 refine ret_of rfl rfl (r0 ?_)
 refine Z2 ?_
 rfl
theorem amG (a:Bool):Ret VP (.fn 212) [.d (.slice [.bool a]),.d (.bool true)] [] (.d (.bool a)) []:=by
 have h:Ret VP (.fn 244) [.d (.slice [.bool a]),.d (.bool true)] [] (.d (.int .i64 (if a then 0 else -1))) []:=by
  cases a
  all_goals (refine ret_of rfl rfl (r0 ?_);refine Z2 ?_;rfl)
 cases a
 all_goals (refine ret_of rfl rfl (r0 ?_);refine Z2 ?_;rfl)
theorem amF (a b:Bool):Ret VP (.fn 212) [.d (.slice [.bool a,.bool b]),.d (.bool true)] [] (.d (.bool (a||b))) []:=by
 have h:Ret VP (.fn 244) [.d (.slice [.bool a,.bool b]),.d (.bool true)] [] (.d (.int .i64 (if a then 0 else if b then 1 else -1))) []:=by
  cases a<;>cases b
  all_goals (refine ret_of rfl rfl (r0 ?_);refine Z2 ?_;rfl)
 cases a<;>cases b
 all_goals (refine ret_of rfl rfl (r0 ?_);refine Z2 ?_;rfl)
theorem amE (a b c:Bool):Ret VP (.fn 212) [.d (.slice [.bool a,.bool b,.bool c]),.d (.bool true)] [] (.d (.bool (a||b||c))) []:=by
 have h:Ret VP (.fn 244) [.d (.slice [.bool a,.bool b,.bool c]),.d (.bool true)] [] (.d (.int .i64 (if a then 0 else if b then 1 else if c then 2 else -1))) []:=by
  cases a<;>cases b<;>cases c
  all_goals (refine ret_of rfl rfl (r0 ?_);refine Z2 ?_;rfl)
 cases a<;>cases b<;>cases c
 all_goals (refine ret_of rfl rfl (r0 ?_);refine Z2 ?_;rfl)
def Fo.nm:Fo->Bool
 | .var _=>true
 | .no a=>a.nm
 | .bin _ a b=>a.nm||b.nm
 | .cond a b c=>a.nm||b.nm||c.nm
 | _=>false
theorem hU (p:Nat) (cs:List Ce) (hcs : ∀ c∈cs,c.Ok) (f:Fo):FOk cs.length f->Ret VP (.fn 174) [.d (scP p cs),.d f.d] [] (.d (.tuple [.bool true,.bool false,.bool f.nm])) []:=by
 have ⟨a1,a3,a4,a13⟩:=amK
 have hb:=bS
 have g0:=an8
 induction f with
 | z=>exact fun h=>h.elim
 | int i =>
   intro _
   refine ret_of rfl rfl (r0 ?_)
   refine Z2 ?_
   rfl
 | var v =>
   intro h
   have hv:v < cs.length:=h
   obtain ⟨c,hok,hg⟩:=nZ hcs hv
   have g1:=IL cs [v] (by simpa using hv) (by simp)
   rcases hok with rfl | ⟨lo,hi,rfl,_⟩
   all_goals (refine ret_of rfl rfl (r0 ?_);refine Z2 ?_;rfl)
 | no a ha =>
   intro h
   have ha:=ha h
   have n1:=amG false
   have n2:=amG a.nm
   refine ret_of rfl rfl (r0 ?_)
   refine Z2 ?_
   rfl
 | bin o a b ha hb' =>
   intro h
   have h1:=ari o h.1
   have ha:=ha h.2.1
   have hb':=hb' h.2.2
   have n1:=amF false false
   have n2:=amF a.nm b.nm
   rcases h.1 with rfl | rfl | rfl | rfl | rfl | rfl | rfl | rfl
   all_goals (refine ret_of rfl rfl (r0 ?_);refine Z2 ?_;rfl)
 | cond a b c ha hb' hc =>
   intro h
   have ha:=ha h.1
   have hb':=hb' h.2.1
   have hc:=hc h.2.2
   have n1:=amE false false false
   have n2:=amE a.nm b.nm c.nm
   refine ret_of rfl rfl (r0 ?_)
   refine Z2 ?_
   rfl
theorem ls (p:Nat) (cs:List Ce) (hcs : ∀ c∈cs,c.Ok) (f:Fo) (h:FOk cs.length f):Ret VP (.fn 176) [.d (scP p cs),.d f.d] [] (.d (.bool true)) []:=by
 have h:=hU p cs hcs f h
 refine ret_of rfl rfl (r0 ?_)
 refine Z2 ?_
 rfl
theorem v6:Ret VP (.fn 171) [.d Fo.z.d] [] (.d (.bool true)) []:=by
 have hb:=bS
 refine ret_of rfl rfl (r0 ?_)
 refine Z2 ?_
 rfl
theorem qV (n:Nat) (f:Fo) (h:FOk n f):Ret VP (.fn 171) [.d f.d] [] (.d (.bool false)) []:=by
 cases f with
 | z=>exact h.elim
 | bin o a b =>
   have t:((o:Int)==0)=false:=by have:=h.1;simp;omega
   refine ret_of rfl rfl (r0 ?_)
   refine Z2 ?_
   rfl
 | _=>refine ret_of rfl rfl (r0 ?_);refine Z2 ?_;rfl
theorem abI (o:Nat) (h:o < 4):Ret VP (.fn 173) [.d (.slice [.int .i64 o])] [] (.d (.bool true)) []:=by
 rcases (by omega:o=0\/o=1\/o=2\/o=3) with rfl | rfl | rfl | rfl
 all_goals (refine ret_of rfl rfl (r0 ?_);refine Z2 ?_;rfl)
theorem abH (o u:Nat) (h:o < 4) (h':u < 4) (hn:o≠u):Ret VP (.fn 173) [.d (.slice [.int .i64 o,.int .i64 u])] [] (.d (.bool true)) []:=by
 rcases (by omega:o=0\/o=1\/o=2\/o=3) with rfl | rfl | rfl | rfl<;>rcases (by omega:u=0\/u=1\/u=2\/u=3) with rfl | rfl | rfl | rfl
 all_goals first | exact absurd rfl hn | (refine ret_of rfl rfl (r0 ?_);refine Z2 ?_;rfl)
theorem IM (l:List Cm) (h8:l.length<=8) (hF : ∀ c∈l,Ret VP (.fn 87) [.d c.d] [] (.d (.bool false)) []):Ret VP (.fn 62) [.d (.slice (l.map Cm.d)),.d (.func 87 [] [])] [] (.d (.int .i64 (-1))) []:=by
 refine ret_of rfl rfl (r0 ?_)
 refine Z1 ?_
 refine af rfl ?_
 refine cB (fun i=>[.d (.slice (l.map Cm.d)),.d (.func 87 [] []),.d (.int .i64 ((l.map Cm.d).length:Nat)),.d (.int .i64 i)]) (fun _=>[]) l.length (fun i hi hn => ?_) ?_
 · have hwi:=ac i (by omega)
   have h1:=hF _ (List.getElem_mem hi)
   rcases hc:l[i] with ⟨k,v,s,f,t,a,b,g,o⟩
   rw [hc,Cm.d_eq] at h1
   have hg:=bH hi hc
   have ht:=dd (g:=Cm.d) hi
   unfold ah
   refine Z1 ?_
   rw [hwi]
   exact af rfl hn
 · have hf:=de (g:=Cm.d) (l:=l)
   unfold ah
   refine Z1 ?_
   rfl
theorem IS (l:List Cm) (h8:l.length<=8) (hF : ∀ c∈l,Ret VP (.fn 87) [.d c.d] [] (.d (.bool false)) []):Ret VP (.fn 35) [.d (.slice (l.map Cm.d)),.d (.func 87 [] [])] [] (.d (.bool false)) []:=by
 have h:=IM l h8 hF
 refine ret_of rfl rfl (r0 ?_)
 refine Z1 ?_
 rfl
theorem IN (l:List Cm) (h8:l.length<=8) (hF : ∀ c∈l,Ret VP (.fn 36) [.d c.d] [] (.d (.bool false)) []):Ret VP (.fn 62) [.d (.slice (l.map Cm.d)),.d (.func 36 [] [])] [] (.d (.int .i64 (-1))) []:=by
 refine ret_of rfl rfl (r0 ?_)
 refine Z1 ?_
 refine af rfl ?_
 refine cB (fun i=>[.d (.slice (l.map Cm.d)),.d (.func 36 [] []),.d (.int .i64 ((l.map Cm.d).length:Nat)),.d (.int .i64 i)]) (fun _=>[]) l.length (fun i hi hn => ?_) ?_
 · have hwi:=ac i (by omega)
   have h1:=hF _ (List.getElem_mem hi)
   rcases hc:l[i] with ⟨k,v,s,f,t,a,b,g,o⟩
   rw [hc,Cm.d_eq] at h1
   have hg:=bH hi hc
   have ht:=dd (g:=Cm.d) hi
   unfold ah
   refine Z1 ?_
   rw [hwi]
   exact af rfl hn
 · have hf:=de (g:=Cm.d) (l:=l)
   unfold ah
   refine Z1 ?_
   rfl
theorem u5 (l:List Cm) (h8:l.length<=8) (hF : ∀ c∈l,Ret VP (.fn 36) [.d c.d] [] (.d (.bool false)) []):Ret VP (.fn 35) [.d (.slice (l.map Cm.d)),.d (.func 36 [] [])] [] (.d (.bool false)) []:=by
 have h:=IN l h8 hF
 refine ret_of rfl rfl (r0 ?_)
 refine Z1 ?_
 rfl
theorem wL (cap:List D) (l:List Cm) (h8:l.length<=8) (hF : ∀ c∈l,Ret VP (.fn 144) [.d c.d,.d (.iptr cap 0)] [] (.d (.bool false)) []):Ret VP (.fn 62) [.d (.slice (l.map Cm.d)),.d (.func 144 [] [.iptr cap 0])] [] (.d (.int .i64 (-1))) []:=by
 refine ret_of rfl rfl (r0 ?_)
 refine Z1 ?_
 refine af rfl ?_
 refine cB (fun i=>[.d (.slice (l.map Cm.d)),.d (.func 144 [] [.iptr cap 0]),.d (.int .i64 ((l.map Cm.d).length:Nat)),.d (.int .i64 i)]) (fun _=>[]) l.length (fun i hi hn => ?_) ?_
 · have hwi:=ac i (by omega)
   have h1:=hF _ (List.getElem_mem hi)
   rcases hc:l[i] with ⟨k,v,s,f,t,a,b,g,o⟩
   rw [hc,Cm.d_eq] at h1
   have hg:=bH hi hc
   have ht:=dd (g:=Cm.d) hi
   unfold ah
   refine Z1 ?_
   rw [hwi]
   exact af rfl hn
 · have hf:=de (g:=Cm.d) (l:=l)
   unfold ah
   refine Z1 ?_
   rfl
theorem wO (cap:List D) (l:List Cm) (h8:l.length<=8) (hF : ∀ c∈l,Ret VP (.fn 144) [.d c.d,.d (.iptr cap 0)] [] (.d (.bool false)) []):Ret VP (.fn 35) [.d (.slice (l.map Cm.d)),.d (.func 144 [] [.iptr cap 0])] [] (.d (.bool false)) []:=by
 have h:=wL cap l h8 hF
 refine ret_of rfl rfl (r0 ?_)
 refine Z1 ?_
 rfl
theorem wM (cap:List D) (l:List Cm) (h8:l.length<=8) (hF : ∀ c∈l,Ret VP (.fn 137) [.d c.d,.d (.iptr cap 0)] [] (.d (.bool false)) []):Ret VP (.fn 62) [.d (.slice (l.map Cm.d)),.d (.func 137 [] [.iptr cap 0])] [] (.d (.int .i64 (-1))) []:=by
 refine ret_of rfl rfl (r0 ?_)
 refine Z1 ?_
 refine af rfl ?_
 refine cB (fun i=>[.d (.slice (l.map Cm.d)),.d (.func 137 [] [.iptr cap 0]),.d (.int .i64 ((l.map Cm.d).length:Nat)),.d (.int .i64 i)]) (fun _=>[]) l.length (fun i hi hn => ?_) ?_
 · have hwi:=ac i (by omega)
   have h1:=hF _ (List.getElem_mem hi)
   rcases hc:l[i] with ⟨k,v,s,f,t,a,b,g,o⟩
   rw [hc,Cm.d_eq] at h1
   have hg:=bH hi hc
   have ht:=dd (g:=Cm.d) hi
   unfold ah
   refine Z1 ?_
   rw [hwi]
   exact af rfl hn
 · have hf:=de (g:=Cm.d) (l:=l)
   unfold ah
   refine Z1 ?_
   rfl
theorem wP (cap:List D) (l:List Cm) (h8:l.length<=8) (hF : ∀ c∈l,Ret VP (.fn 137) [.d c.d,.d (.iptr cap 0)] [] (.d (.bool false)) []):Ret VP (.fn 35) [.d (.slice (l.map Cm.d)),.d (.func 137 [] [.iptr cap 0])] [] (.d (.bool false)) []:=by
 have h:=wM cap l h8 hF
 refine ret_of rfl rfl (r0 ?_)
 refine Z1 ?_
 rfl
theorem rI {n:Nat} {W:List (List D)} : ∀ (h:Nat) (l:List Cm),(∀ c∈l,Ok n W h c)->h<=100->l.length<=8->Ret VP (.fn 52) [.d (.slice (l.map Cm.d))] [] (.d (.int .i64 (Cm.levs l:Nat))) []:=by
 have hnil:Ret VP (.fn 52) [.d (.slice (([]:List Cm).map Cm.d))] [] (.d (.int .i64 (Cm.levs []:Nat))) []:=by
  refine ret_of rfl rfl (r0 ?_)
  refine Z2 ?_
  rfl
 intro h
 induction h with
 | zero=>intro l hl _ _;rw [b5 hl];exact hnil
 | succ h ih =>
   intro l hl hh h8
   by_cases h0:l=[]
   · subst h0;exact hnil
   have hp:=nP h0
   have hle:=kD (h+1) l hl
   have t0:((((l.map Cm.d).length:Nat):Int)==0)=false:=by
    have:l.length≠0:=fun h=>h0 (List.length_eq_zero_iff.1 h)
    rw [List.length_map];simp;exact h0
   refine ret_of rfl rfl (r0 ?_)
   refine Z1 ?_
   refine af rfl ?_
   refine cB (fun i=>[.d (.int .i64 (Cm.levs (l.take i) - 1:Nat)),.d (.slice (l.map Cm.d)),.d (.int .i64 ((l.map Cm.d).length:Nat)),.d (.int .i64 i)]) (fun _=>[]) l.length (fun i hi hn => ?_) ?_
   · have hwi:=ac i (by omega)
     rcases hc:l[i] with ⟨k,v,s,f,t,a,b,g,o⟩
     have hg:=bH hi hc
     have hv:=(hc▸hl _ (List.getElem_mem hi)).view
     have h1:=ih a hv.ca (by omega) (by have:=hv.ha;omega)
     have h2:=ih b hv.cb (by omega) (by have:=hv.hb;omega)
     have ht:=dd (g:=Cm.d) hi
     unfold ah
     refine Z1 ?_
     refine af rfl (fj hn ?_)
     exact vc (dI (by rw [lI hi,hc];simp only [Cm.lev,decide_eq_true_eq,gt_iff_lt];omega)) (vc rfl (vc rfl (vc (dI hwi) rfl)))
   · have hf:=de (g:=Cm.d) (l:=l)
     unfold ah
     refine Z1 ?_
     refine fe rfl (dI ?_) rfl
     rw [List.take_length,i64_in]<;>omega
theorem tK (g:List Fo) (hg:g=[]\/(∃ x,g=[x]/\Ret VP (.fn 88) [.d x.d] [] (.d (.bool true)) []) \/ ∃ x y,g=[x,y]/\Ret VP (.fn 88) [.d x.d] [] (.d (.bool true)) []/\Ret VP (.fn 88) [.d y.d] [] (.d (.bool true)) []):Ret VP (.fn 64) [.d (.slice (g.map Fo.d)),.d (.func 89 [] [])] [] (.d (.bool false)) []:=by
 have h89 : ∀ x:Fo,Ret VP (.fn 88) [.d x.d] [] (.d (.bool true)) []->Ret VP (.fn 89) [.d x.d] [] (.d (.bool false)) []:=by
  intro x h
  refine ret_of rfl rfl (r0 ?_)
  refine Z2 ?_
  rfl
 have h:Ret VP (.fn 105) [.d (.slice (g.map Fo.d)),.d (.func 89 [] [])] [] (.d (.int .i64 (-1))) []:=by
  rcases hg with rfl | ⟨x,rfl,hx⟩ | ⟨x,y,rfl,hx,hy⟩
  · refine ret_of rfl rfl (r0 ?_)
    refine Z2 ?_
    rfl
  · have h1:=h89 x hx
    refine ret_of rfl rfl (r0 ?_)
    refine Z2 ?_
    rfl
  · have h1:=h89 x hx
    have h2:=h89 y hy
    refine ret_of rfl rfl (r0 ?_)
    refine Z2 ?_
    rfl
 refine ret_of rfl rfl (r0 ?_)
 refine Z1 ?_
 rfl
theorem oM {n:Nat} {W:List (List D)} : ∀ (h:Nat) (l:List Cm),(∀ c∈l,Ok n W h c)->l.length<=8->Ret VP (.fn 53) [.d (.slice (l.map Cm.d))] [] (.d (.bool true)) []:=by
 have hfrom : ∀ l:List Cm,l.length<=8->(∀ c∈l,Ret VP (.fn 87) [.d c.d] [] (.d (.bool false)) [])->Ret VP (.fn 53) [.d (.slice (l.map Cm.d))] [] (.d (.bool true)) []:=by
  intro l h8 hF
  have h:=IS l h8 hF
  refine ret_of rfl rfl (r0 ?_)
  refine Z1 ?_
  rfl
 intro h
 induction h with
 | zero=>intro l hl h8;exact hfrom l h8 fun c hc=>(gf (hl c hc)).elim
 | succ h ih =>
   intro l hl h8
   refine hfrom l h8 fun c hc => ?_
   have hok:=hl c hc
   obtain ⟨k,v,s,f,t,a,b,g,o⟩:=c
   have hv:=hok.view
   have h1:=fD f (by have:=hv.fs;omega) (by have:=hv.fd;omega)
   have h2:=ih a hv.ca (by have:=hv.ha;omega)
   have h3:=ih b hv.cb (by have:=hv.hb;omega)
   have hg:=hv.gg
   have h4:=tK g (by
    rcases hg with rfl | ⟨x,rfl,hx⟩ | ⟨x,y,rfl,hx,hy⟩
    · exact .inl rfl
    · exact .inr (.inl ⟨x,rfl,fD x (by have:=hx.2.2;omega) (by have:=hx.2.1;omega)⟩)
    · exact .inr (.inr ⟨x,y,rfl,fD x (by have:=hx.2.2;omega) (by have:=hx.2.1;omega),fD y (by have:=hy.2.2;omega) (by have:=hy.2.1;omega)⟩))
   rw [Cm.d_eq]
   refine ret_of rfl rfl (r0 ?_)
   refine Z2 ?_
   rfl
def cnB (n:Nat):Option Blk:=some (.rows 0 false 1 [[.d (.int .i64 n)]])
theorem xm (k v s:Int) (f:Fo) (t:Di) (a b g o:List D) (n:Nat) (hn:n < 1000000):Ret VP (.fn 91) [.d (cmD k v s f t a b g o),.ptr 0 0 0 0] [cnB n] (.d (.tuple [])) [cnB (n+1)]:=by
 have hw:=ac n (by omega)
 refine ret_of rfl rfl (r0 ?_)
 refine Z1 ?_
 rw [hw]
 refine Z1 ?_
 rfl
theorem t7 {n:Nat} {W:List (List D)} : ∀ (h:Nat) (l:List Cm),(∀ c∈l,Ok n W h c)->h<=4->l.length<=8 -> ∀ (v m:Nat),v+h<=100->m+Cm.cnts l<=100000->Ret VP (.fn 90) [.d (.slice (l.map Cm.d)),.d (.int .i64 v),.func 91 [] [.ptr 0 0 0 0]] [cnB m] (.d (.tuple [])) [cnB (m+Cm.cnts l)]:=by
 have hnil : ∀ v m:Nat,v<=200->Ret VP (.fn 90) [.d (.slice (([]:List Cm).map Cm.d)),.d (.int .i64 v),.func 91 [] [.ptr 0 0 0 0]] [cnB m] (.d (.tuple [])) [cnB (m+Cm.cnts [])]:=by
  intro v m hv
  have t:¬ (v:Int) > 200:=by omega
  refine ret_of rfl rfl (r0 ?_)
  (have hz1:=decide_eq_false t;refine Z2 ?_)
  rfl
 intro h
 induction h with
 | zero=>intro l hl _ _ v m hv _;rw [b5 hl];exact hnil v m (by omega)
 | succ h ih =>
   intro l hl hh h8 v m hv hm
   have t:¬ (v:Int) > 200:=by omega
   have hwv:=ac v (by omega)
   refine ret_of rfl rfl (r0 ?_)
   (have hz2:=decide_eq_false t;refine Z1 ?_)
   refine af rfl ?_
   refine cB (fun i=>[.d (.int .i64 v),.func 91 [] [.ptr 0 0 0 0],.d (.slice (l.map Cm.d)),.d (.int .i64 ((l.map Cm.d).length:Nat)),.d (.int .i64 i)]) (fun i=>[cnB (m+Cm.cnts (l.take i))]) l.length (fun i hi hn => ?_) ?_
   · have hwi:=ac i (by omega)
     have hs2:=fR hi
     have hs3:=cu l (i+1)
     rcases hc:l[i] with ⟨k,v',s,f,t,a,b,g,o⟩
     have hg:=bH hi hc
     have hvw:=(hc▸hl _ (List.getElem_mem hi)).view
     rw [hc,Cm.cnt] at hs2
     have h0:=xm k v' s f t (a.map Cm.d) (b.map Cm.d) (g.map Fo.d) (o.map oD) (m+Cm.cnts (l.take i)) (by omega)
     have h1:=ih a hvw.ca (by omega) (by have:=hvw.ha;omega) (v+1) (m+Cm.cnts (l.take i)+1) (by omega) (by omega)
     have h2:=ih b hvw.cb (by omega) (by have:=hvw.hb;omega) (v+1) (m+Cm.cnts (l.take i)+1+Cm.cnts a) (by omega) (by omega)
     rw [<- hwv] at h1 h2
     have ht:=dd (g:=Cm.d) hi
     have e:m+Cm.cnts (l.take (i+1))=m+Cm.cnts (l.take i)+1+Cm.cnts a+Cm.cnts b:=by omega
     rw [e] at hn
     unfold ah
     unfold cnB at h0 h1 h2 hn ⊢
     refine Z1 ?_
     rw [hwi]
     exact af rfl hn
   · have hf:=de (g:=Cm.d) (l:=l)
     rw [List.take_length]
     unfold ah
     unfold cnB
     refine Z1 ?_
     rfl
theorem rK {n:Nat} {W:List (List D)} {h:Nat} {l:List Cm} (hh:h<=4) (hl : ∀ c∈l,Ok n W h c) (h8:l.length<=8):Ret VP (.fn 54) [.d (.slice (l.map Cm.d))] [] (.d (.int .i64 (Cm.cnts l:Nat))) []:=by
 have b:=bU hh hl h8
 have h1:=t7 h l hl hh h8 1 0 (by omega) (by omega)
 rw [Nat.zero_add] at h1
 unfold cnB at h1
 refine ret_of rfl rfl (r0 ?_)
 refine Z1 ?_
 rfl
theorem qw {n:Nat} {W:List (List D)} : ∀ (h:Nat) (l:List Cm),h<=4->(∀ c∈l,Ok n W h c)->l.length<=8->Ret VP (.fn 55) [.d (.slice (l.map Cm.d))] [] (.d (.int .i64 (Cm.tots l:Nat))) []:=by
 have hnil:Ret VP (.fn 55) [.d (.slice (([]:List Cm).map Cm.d))] [] (.d (.int .i64 0)) []:=by
  refine ret_of rfl rfl (r0 ?_)
  refine Z2 ?_
  rfl
 intro h
 induction h with
 | zero=>intro l _ hl _;rw [b5 hl];exact hnil
 | succ h ih =>
   intro l hh hl h8
   have hsm:=fV hh hl h8
   refine ret_of rfl rfl (r0 ?_)
   refine Z1 ?_
   refine af rfl ?_
   refine cB (fun i=>[.d (.int .i64 (Cm.tots (l.take i):Nat)),.d (.slice (l.map Cm.d)),.d (.int .i64 ((l.map Cm.d).length:Nat)),.d (.int .i64 i)]) (fun _=>[]) l.length (fun i hi hn => ?_) ?_
   · have hwi:=ac i (by omega)
     have hs2:=kZ hi
     have hs3:=gu l (i+1)
     have hok:=hl _ (List.getElem_mem hi)
     have ht:=dd (g:=Cm.d) hi
     generalize hA:Cm.tots (l.take i)=A at hs2 ⊢
     generalize hc:l[i]=c at hs2 hok
     cases hok with
     | set o f ho hf =>
       have hg:=bH hi hc
       simp only [Cm.tot,gsz,Cm.tots,List.map_cons,List.map_nil,List.sum_cons,List.sum_nil] at hs2
       simp at hs2
       have e0:=cj f (by have:=hf.2.2;omega) (by have:=hf.2.1;omega)
       unfold ah
       (have hz3:=e0;refine Z1r ?_)
       refine lhx rfl ?_
       (have hz4:=e0;refine Z1r ?_)
       refine lhx rfl ?_
       (have hz5:=e0;refine Z1r ?_)
       refine af rfl (fj hn ?_)
       exact vc (dI (by rw [hs2];((try simp only [decide_eq_true_eq,gt_iff_lt]);(try simp (disch:=omega) only [i64_in]);try omega))) (vc rfl (vc rfl (vc (dI hwi) rfl)))
     | set2 o u f g ho hu hou hf hgg =>
       have hg:=bH hi hc
       simp only [Cm.tot,gsz,Cm.tots,List.map_cons,List.map_nil,List.sum_cons,List.sum_nil] at hs2
       simp at hs2
       have e0:=cj f (by have:=hf.2.2;omega) (by have:=hf.2.1;omega)
       have e1:=cj g (by have:=hgg.2.2;omega) (by have:=hgg.2.1;omega)
       unfold ah
       (have hz6:=e0;refine Z1r ?_)
       refine lhx rfl ?_
       (have hz7:=e0;refine Z1r ?_)
       refine lhx rfl ?_
       (have hz8:=e0;refine Z1r ?_)
       refine lhx rfl ?_
       (have hz9:=e0;refine Z1r ?_)
       refine af rfl (fj hn ?_)
       exact vc (dI (by rw [hs2];((try simp only [decide_eq_true_eq,gt_iff_lt]);(try simp (disch:=omega) only [i64_in]);try omega))) (vc rfl (vc rfl (vc (dI hwi) rfl)))
     | draw v s lo w hv hs hw h1 h2 =>
       have hg:=bH hi hc
       simp only [Cm.tot,gsz,Cm.tots,List.map_cons,List.map_nil,List.sum_cons,List.sum_nil] at hs2
       simp at hs2
       unfold ah
       refine Z1r ?_
       refine lhx rfl ?_
       refine Z1r ?_
       refine af rfl (fj hn ?_)
       exact vc (dI (by rw [hs2];((try simp only [decide_eq_true_eq,gt_iff_lt]);(try simp (disch:=omega) only [i64_in]);try omega))) (vc rfl (vc rfl (vc (dI hwi) rfl)))
     | iff f a b hf ha hb ca cb =>
       have hg:=bH hi hc
       simp only [Cm.tot,gsz,Cm.tots,List.map_cons,List.map_nil,List.sum_cons,List.sum_nil] at hs2
       simp at hs2
       have e0:=cj f (by have:=hf.2.2;omega) (by have:=hf.2.1;omega)
       have s1:=ih a (by omega) ca (by omega)
       have s2:=ih b (by omega) cb (by omega)
       unfold ah
       (have hz10:=e0;refine Z1r ?_)
       refine lhx rfl ?_
       (have hz11:=e0;refine Z1r ?_)
       refine af rfl (fj hn ?_)
       exact vc (dI (by rw [hs2];((try simp only [decide_eq_true_eq,gt_iff_lt]);(try simp (disch:=omega) only [i64_in]);try omega))) (vc rfl (vc rfl (vc (dI hwi) rfl)))
     | obs f hf =>
       have hg:=bH hi hc
       simp only [Cm.tot,gsz,Cm.tots,List.map_cons,List.map_nil,List.sum_cons,List.sum_nil] at hs2
       simp at hs2
       have e0:=cj f (by have:=hf.2.2;omega) (by have:=hf.2.1;omega)
       unfold ah
       (have hz12:=e0;refine Z1r ?_)
       refine lhx rfl ?_
       (have hz13:=e0;refine Z1r ?_)
       refine af rfl (fj hn ?_)
       exact vc (dI (by rw [hs2];((try simp only [decide_eq_true_eq,gt_iff_lt]);(try simp (disch:=omega) only [i64_in]);try omega))) (vc rfl (vc rfl (vc (dI hwi) rfl)))
     | cut =>
       have hg:=bH hi hc
       simp only [Cm.tot,gsz,Cm.tots,List.map_cons,List.map_nil,List.sum_cons,List.sum_nil] at hs2
       simp at hs2
       unfold ah
       refine Z1r ?_
       refine lhx rfl ?_
       refine Z1r ?_
       refine af rfl (fj hn ?_)
       exact vc (dI (by rw [hs2];((try simp only [decide_eq_true_eq,gt_iff_lt]);(try simp (disch:=omega) only [i64_in]);try omega))) (vc rfl (vc rfl (vc (dI hwi) rfl)))
   · have hf:=de (g:=Cm.d) (l:=l)
     unfold ah
     refine Z1 ?_
     refine fe rfl (dI ?_) rfl
     rw [List.take_length]
def Ce.tyc (c:Ce):List D:=[.int .i64 c.k,.int .i64 (if c.k=2 then c.lo else 0),.int .i64 (if c.k=2 then c.hi else 0),.int .i64 0,.slice []]
def Ce.ty (c:Ce):D := .agg c.tyc
def eV (es:List Ce):List D:=[.int .i64 5,.int .i64 0,.int .i64 0,.int .i64 0,.slice (es.map Ce.ty)]
def tyD:List Ce->List D
 | [c]=>c.tyc
 | es=>eV es
theorem Ce.Ok.ks {c:Ce} (h:c.Ok):(c.k==3)=false/\(c.k==4)=false:=by
 rcases h with rfl | ⟨lo,hi,rfl,_⟩<;>exact ⟨rfl,rfl⟩
theorem rP (c:Ce):(!(c.k==c.k&&(c.lo==c.lo&&(c.hi==c.hi&&true))))=false:=by simp
theorem arL (c:Ce) (h:c.Ok):Ret VP (.fn 162) [.d c.ty,.d (.int .i64 11)] [] (.d (.int .i64 1)) []:=by
 rcases h with rfl | ⟨lo,hi,rfl,_⟩
 all_goals (refine ret_of rfl rfl (r0 ?_);refine Z2 ?_;rfl)
theorem kH (c:Ce) (h:c.Ok):Ret VP (.fn 162) [.d c.ty,.d (.int .i64 10)] [] (.d (.int .i64 1)) []:=by
 rcases h with rfl | ⟨lo,hi,rfl,_⟩
 all_goals (refine ret_of rfl rfl (r0 ?_);refine Z2 ?_;rfl)
theorem ss (c:Ce) (h:c.Ok):Ret VP (.fn 163) [.d c.ty] [] (.d (.int .i64 0)) []:=by
 rcases h with rfl | ⟨lo,hi,rfl,h1,h2,h3,h4⟩
 · refine ret_of rfl rfl (r0 ?_)
   refine Z2 ?_
   rfl
 · have t1:¬ lo < -1000:=by omega
   have t2:¬ lo > hi:=by omega
   have t3:¬ hi > 1000:=by omega
   refine ret_of rfl rfl (r0 ?_)
   (have hz1:=decide_eq_false t1;have hz2:=decide_eq_false t2;have hz3:=decide_eq_false t3;refine Z2 ?_)
   rfl
theorem ru (c:Ce) (h:c.Ok):Ret VP (.fn 131) [.d c.ty] [] (.d (.slice [c.d])) []:=by
 rcases h with rfl | ⟨lo,hi,rfl,_⟩
 all_goals (refine ret_of rfl rfl (r0 ?_);refine Z2 ?_;rfl)
theorem arN (c:Ce) (h:c.Ok):Ret VP (.fn 130) [.d c.ty] [] (.d (.int .i64 0)) []:=by
 have h1:=arL c h
 have h2:=ss c h
 have h3:=ru c h
 refine ret_of rfl rfl (r0 ?_)
 refine Z2 ?_
 rfl
theorem sp (c:Ce) (h:c.Ok):Ret VP (.fn 180) [.d c.ty] [] (.d (.int .i64 1)) []:=by
 rcases h with rfl | ⟨lo,hi,rfl,_⟩
 all_goals (refine ret_of rfl rfl (r0 ?_);refine Z2 ?_;rfl)
theorem arK (c:Ce) (h:c.Ok):Ret VP (.fn 215) [.d c.ty] [] (.d (.bool false)) []:=by
 rcases h with rfl | ⟨lo,hi,rfl,_⟩
 all_goals (refine ret_of rfl rfl (r0 ?_);refine Z2 ?_;rfl)
theorem so (c:Ce) (h:c.Ok):Ret VP (.fn 181) [.d c.ty] [] (.d (.int .i64 0)) []:=by
 have h5:=arK c h
 rcases h with rfl | ⟨lo,hi,rfl,h1,h2,h3,h4⟩
 · refine ret_of rfl rfl (r0 ?_)
   refine Z2 ?_
   rfl
 · have t1:¬ lo < -1000:=by omega
   have t2:¬ lo > hi:=by omega
   have t3:¬ hi > 1000:=by omega
   refine ret_of rfl rfl (r0 ?_)
   (have hz4:=decide_eq_false t1;have hz5:=decide_eq_false t2;have hz6:=decide_eq_false t3;refine Z2 ?_)
   rfl
theorem vJ (c:Ce) (h:c.Ok):Ret VP (.fn 182) [.d c.ty] [] (.d (.int .i64 1)) []:=by
 rcases h with rfl | ⟨lo,hi,rfl,_⟩
 all_goals (refine ret_of rfl rfl (r0 ?_);refine Z2 ?_;rfl)
theorem sr (c:Ce) (h:c.Ok):Ret VP (.fn 170) [.d c.ty] [] (.d (.slice [c.d])) []:=by
 rcases h with rfl | ⟨lo,hi,rfl,_⟩
 all_goals (refine ret_of rfl rfl (r0 ?_);refine Z2 ?_;rfl)
theorem arM (c:Ce) (h:c.Ok):Ret VP (.fn 142) [.d c.ty] [] (.d (.int .i64 0)) []:=by
 have h1:=sp c h
 have h2:=so c h
 have h3:=vJ c h
 refine ret_of rfl rfl (r0 ?_)
 refine Z2 ?_
 rfl
theorem HL (a b:Ce) (ha:a.Ok) (hb:b.Ok):Ret VP (.fn 162) [.d (.agg (eV [a,b])),.d (.int .i64 11)] [] (.d (.int .i64 2)) []:=by
 have fa:=kH a ha
 have fb:=kH b hb
 refine ret_of rfl rfl (r0 ?_)
 refine Z2 ?_
 rfl
theorem HI (a b:Ce) (ha:a.Ok) (hb:b.Ok):Ret VP (.fn 163) [.d (.agg (eV [a,b]))] [] (.d (.int .i64 0)) []:=by
 have fa:=ss a ha
 have fb:=ss b hb
 have ⟨qa,wa⟩:=ha.ks
 have ⟨qb,wb⟩:=hb.ks
 refine ret_of rfl rfl (r0 ?_)
 refine Z2 ?_
 rfl
theorem uP (a b:Ce) (ha:a.Ok) (hb:b.Ok):Ret VP (.fn 131) [.d (.agg (eV [a,b]))] [] (.d (.slice [a.d,b.d])) []:=by
 have fa:=ru a ha
 have fb:=ru b hb
 refine ret_of rfl rfl (r0 ?_)
 refine Z2 ?_
 rfl
theorem HC (a b:Ce) (ha:a.Ok) (hb:b.Ok):Ret VP (.fn 180) [.d (.agg (eV [a,b]))] [] (.d (.int .i64 2)) []:=by
 have fa:=sp a ha
 have fb:=sp b hb
 refine ret_of rfl rfl (r0 ?_)
 refine Z2 ?_
 rfl
theorem Ht (a b:Ce) (ha:a.Ok) (hb:b.Ok):Ret VP (.fn 215) [.d (.agg (eV [a,b]))] [] (.d (.bool false)) []:=by
 refine ret_of rfl rfl (r0 ?_)
 refine Z2 ?_
 rfl
theorem Hz (a b:Ce) (ha:a.Ok) (hb:b.Ok):Ret VP (.fn 181) [.d (.agg (eV [a,b]))] [] (.d (.int .i64 0)) []:=by
 have h5:=Ht a b ha hb
 have fa:=so a ha
 have ⟨qa,wa⟩:=ha.ks
 have fb:=so b hb
 have ⟨qb,wb⟩:=hb.ks
 refine ret_of rfl rfl (r0 ?_)
 refine Z2 ?_
 rfl
theorem Hw (a b:Ce) (ha:a.Ok) (hb:b.Ok):Ret VP (.fn 182) [.d (.agg (eV [a,b]))] [] (.d (.int .i64 2)) []:=by
 have fa:=vJ a ha
 have fb:=vJ b hb
 refine ret_of rfl rfl (r0 ?_)
 refine Z2 ?_
 rfl
theorem HF (a b:Ce) (ha:a.Ok) (hb:b.Ok):Ret VP (.fn 170) [.d (.agg (eV [a,b]))] [] (.d (.slice [a.d,b.d])) []:=by
 have fa:=sr a ha
 have fb:=sr b hb
 refine ret_of rfl rfl (r0 ?_)
 refine Z2 ?_
 rfl
theorem HR (a b:Ce) (ha:a.Ok) (hb:b.Ok):Ret VP (.fn 130) [.d (.agg (eV [a,b]))] [] (.d (.int .i64 0)) []:=by
 have h1:=HL a b ha hb
 have h2:=HI a b ha hb
 have h3:=uP a b ha hb
 refine ret_of rfl rfl (r0 ?_)
 refine Z2 ?_
 rfl
theorem HO (a b:Ce) (ha:a.Ok) (hb:b.Ok):Ret VP (.fn 142) [.d (.agg (eV [a,b]))] [] (.d (.int .i64 0)) []:=by
 have h1:=HC a b ha hb
 have h2:=Hz a b ha hb
 have h3:=Hw a b ha hb
 refine ret_of rfl rfl (r0 ?_)
 refine Z2 ?_
 rfl
theorem HK (a b c:Ce) (ha:a.Ok) (hb:b.Ok) (hc:c.Ok):Ret VP (.fn 162) [.d (.agg (eV [a,b,c])),.d (.int .i64 11)] [] (.d (.int .i64 2)) []:=by
 have fa:=kH a ha
 have fb:=kH b hb
 have fc:=kH c hc
 refine ret_of rfl rfl (r0 ?_)
 (have hz7:=fc;refine Z2 ?_)
 rfl
theorem HH (a b c:Ce) (ha:a.Ok) (hb:b.Ok) (hc:c.Ok):Ret VP (.fn 163) [.d (.agg (eV [a,b,c]))] [] (.d (.int .i64 0)) []:=by
 have fa:=ss a ha
 have fb:=ss b hb
 have fc:=ss c hc
 have ⟨qa,wa⟩:=ha.ks
 have ⟨qb,wb⟩:=hb.ks
 have ⟨qc,wc⟩:=hc.ks
 refine ret_of rfl rfl (r0 ?_)
 (have hz8:=fc;refine Z2 ?_)
 rfl
theorem uO (a b c:Ce) (ha:a.Ok) (hb:b.Ok) (hc:c.Ok):Ret VP (.fn 131) [.d (.agg (eV [a,b,c]))] [] (.d (.slice [a.d,b.d,c.d])) []:=by
 have fa:=ru a ha
 have fb:=ru b hb
 have fc:=ru c hc
 refine ret_of rfl rfl (r0 ?_)
 (have hz9:=fc;refine Z2 ?_)
 rfl
theorem HB (a b c:Ce) (ha:a.Ok) (hb:b.Ok) (hc:c.Ok):Ret VP (.fn 180) [.d (.agg (eV [a,b,c]))] [] (.d (.int .i64 2)) []:=by
 have fa:=sp a ha
 have fb:=sp b hb
 have fc:=sp c hc
 refine ret_of rfl rfl (r0 ?_)
 (have hz10:=fc;refine Z2 ?_)
 rfl
theorem Hs (a b c:Ce) (ha:a.Ok) (hb:b.Ok) (hc:c.Ok):Ret VP (.fn 215) [.d (.agg (eV [a,b,c]))] [] (.d (.bool false)) []:=by
 refine ret_of rfl rfl (r0 ?_)
 refine Z2 ?_
 rfl
theorem Hy (a b c:Ce) (ha:a.Ok) (hb:b.Ok) (hc:c.Ok):Ret VP (.fn 181) [.d (.agg (eV [a,b,c]))] [] (.d (.int .i64 0)) []:=by
 have h5:=Hs a b c ha hb hc
 have fa:=so a ha
 have ⟨qa,wa⟩:=ha.ks
 have fb:=so b hb
 have ⟨qb,wb⟩:=hb.ks
 have fc:=so c hc
 have ⟨qc,wc⟩:=hc.ks
 refine ret_of rfl rfl (r0 ?_)
 (have hz11:=fc;refine Z2 ?_)
 rfl
theorem Hv (a b c:Ce) (ha:a.Ok) (hb:b.Ok) (hc:c.Ok):Ret VP (.fn 182) [.d (.agg (eV [a,b,c]))] [] (.d (.int .i64 3)) []:=by
 have fa:=vJ a ha
 have fb:=vJ b hb
 have fc:=vJ c hc
 refine ret_of rfl rfl (r0 ?_)
 (have hz12:=fc;refine Z2 ?_)
 rfl
theorem HE (a b c:Ce) (ha:a.Ok) (hb:b.Ok) (hc:c.Ok):Ret VP (.fn 170) [.d (.agg (eV [a,b,c]))] [] (.d (.slice [a.d,b.d,c.d])) []:=by
 have fa:=sr a ha
 have fb:=sr b hb
 have fc:=sr c hc
 refine ret_of rfl rfl (r0 ?_)
 (have hz13:=fc;refine Z2 ?_)
 rfl
theorem HQ (a b c:Ce) (ha:a.Ok) (hb:b.Ok) (hc:c.Ok):Ret VP (.fn 130) [.d (.agg (eV [a,b,c]))] [] (.d (.int .i64 0)) []:=by
 have h1:=HK a b c ha hb hc
 have h2:=HH a b c ha hb hc
 have h3:=uO a b c ha hb hc
 refine ret_of rfl rfl (r0 ?_)
 refine Z2 ?_
 rfl
theorem HN (a b c:Ce) (ha:a.Ok) (hb:b.Ok) (hc:c.Ok):Ret VP (.fn 142) [.d (.agg (eV [a,b,c]))] [] (.d (.int .i64 0)) []:=by
 have h1:=HB a b c ha hb hc
 have h2:=Hy a b c ha hb hc
 have h3:=Hv a b c ha hb hc
 refine ret_of rfl rfl (r0 ?_)
 refine Z2 ?_
 rfl
theorem HJ (a b c d:Ce) (ha:a.Ok) (hb:b.Ok) (hc:c.Ok) (hd:d.Ok):Ret VP (.fn 162) [.d (.agg (eV [a,b,c,d])),.d (.int .i64 11)] [] (.d (.int .i64 2)) []:=by
 have fa:=kH a ha
 have fb:=kH b hb
 have fc:=kH c hc
 have fd:=kH d hd
 refine ret_of rfl rfl (r0 ?_)
 (have hz14:=fc;refine Z2 ?_)
 rfl
theorem HG (a b c d:Ce) (ha:a.Ok) (hb:b.Ok) (hc:c.Ok) (hd:d.Ok):Ret VP (.fn 163) [.d (.agg (eV [a,b,c,d]))] [] (.d (.int .i64 0)) []:=by
 have fa:=ss a ha
 have fb:=ss b hb
 have fc:=ss c hc
 have fd:=ss d hd
 have ⟨qa,wa⟩:=ha.ks
 have ⟨qb,wb⟩:=hb.ks
 have ⟨qc,wc⟩:=hc.ks
 have ⟨qd,wd⟩:=hd.ks
 refine ret_of rfl rfl (r0 ?_)
 (have hz15:=fc;refine Z2 ?_)
 rfl
theorem uN (a b c d:Ce) (ha:a.Ok) (hb:b.Ok) (hc:c.Ok) (hd:d.Ok):Ret VP (.fn 131) [.d (.agg (eV [a,b,c,d]))] [] (.d (.slice [a.d,b.d,c.d,d.d])) []:=by
 have fa:=ru a ha
 have fb:=ru b hb
 have fc:=ru c hc
 have fd:=ru d hd
 refine ret_of rfl rfl (r0 ?_)
 (have hz16:=fc;refine Z2 ?_)
 rfl
theorem HA (a b c d:Ce) (ha:a.Ok) (hb:b.Ok) (hc:c.Ok) (hd:d.Ok):Ret VP (.fn 180) [.d (.agg (eV [a,b,c,d]))] [] (.d (.int .i64 2)) []:=by
 have fa:=sp a ha
 have fb:=sp b hb
 have fc:=sp c hc
 have fd:=sp d hd
 refine ret_of rfl rfl (r0 ?_)
 (have hz17:=fc;refine Z2 ?_)
 rfl
theorem Hr (a b c d:Ce) (ha:a.Ok) (hb:b.Ok) (hc:c.Ok) (hd:d.Ok):Ret VP (.fn 215) [.d (.agg (eV [a,b,c,d]))] [] (.d (.bool false)) []:=by
 refine ret_of rfl rfl (r0 ?_)
 refine Z2 ?_
 rfl
theorem Hx (a b c d:Ce) (ha:a.Ok) (hb:b.Ok) (hc:c.Ok) (hd:d.Ok):Ret VP (.fn 181) [.d (.agg (eV [a,b,c,d]))] [] (.d (.int .i64 0)) []:=by
 have h5:=Hr a b c d ha hb hc hd
 have fa:=so a ha
 have ⟨qa,wa⟩:=ha.ks
 have fb:=so b hb
 have ⟨qb,wb⟩:=hb.ks
 have fc:=so c hc
 have ⟨qc,wc⟩:=hc.ks
 have fd:=so d hd
 have ⟨qd,wd⟩:=hd.ks
 refine ret_of rfl rfl (r0 ?_)
 (have hz18:=fc;refine Z2 ?_)
 rfl
theorem Hu (a b c d:Ce) (ha:a.Ok) (hb:b.Ok) (hc:c.Ok) (hd:d.Ok):Ret VP (.fn 182) [.d (.agg (eV [a,b,c,d]))] [] (.d (.int .i64 4)) []:=by
 have fa:=vJ a ha
 have fb:=vJ b hb
 have fc:=vJ c hc
 have fd:=vJ d hd
 refine ret_of rfl rfl (r0 ?_)
 (have hz19:=fc;refine Z2 ?_)
 rfl
theorem HD (a b c d:Ce) (ha:a.Ok) (hb:b.Ok) (hc:c.Ok) (hd:d.Ok):Ret VP (.fn 170) [.d (.agg (eV [a,b,c,d]))] [] (.d (.slice [a.d,b.d,c.d,d.d])) []:=by
 have fa:=sr a ha
 have fb:=sr b hb
 have fc:=sr c hc
 have fd:=sr d hd
 refine ret_of rfl rfl (r0 ?_)
 (have hz20:=fc;refine Z2 ?_)
 rfl
theorem HP (a b c d:Ce) (ha:a.Ok) (hb:b.Ok) (hc:c.Ok) (hd:d.Ok):Ret VP (.fn 130) [.d (.agg (eV [a,b,c,d]))] [] (.d (.int .i64 0)) []:=by
 have h1:=HJ a b c d ha hb hc hd
 have h2:=HG a b c d ha hb hc hd
 have h3:=uN a b c d ha hb hc hd
 refine ret_of rfl rfl (r0 ?_)
 refine Z2 ?_
 rfl
theorem HM (a b c d:Ce) (ha:a.Ok) (hb:b.Ok) (hc:c.Ok) (hd:d.Ok):Ret VP (.fn 142) [.d (.agg (eV [a,b,c,d]))] [] (.d (.int .i64 0)) []:=by
 have h1:=HA a b c d ha hb hc hd
 have h2:=Hx a b c d ha hb hc hd
 have h3:=Hu a b c d ha hb hc hd
 refine ret_of rfl rfl (r0 ?_)
 refine Z2 ?_
 rfl
theorem aaR (es:List Ce) (h0:es≠[]) (h4:es.length<=4) (h : ∀ c∈es,c.Ok):Ret VP (.fn 130) [.d (.agg (tyD es))] [] (.d (.int .i64 0)) []:=by
 match es,h0,h4,h with
 | [],h0,_,_=>exact absurd rfl h0
 | [a],_,_,h=>exact arN a (h a (by simp))
 | [a,b],_,_,h=>exact HR a b (h a (by simp)) (h b (by simp))
 | [a,b,c],_,_,h=>exact HQ a b c (h a (by simp)) (h b (by simp)) (h c (by simp))
 | [a,b,c,d],_,_,h=>exact HP a b c d (h a (by simp)) (h b (by simp)) (h c (by simp)) (h d (by simp))
 | _::_::_::_::_::_,_,h4,_=>simp at h4
theorem aaQ (es:List Ce) (h0:es≠[]) (h4:es.length<=4) (h : ∀ c∈es,c.Ok):Ret VP (.fn 131) [.d (.agg (tyD es))] [] (.d (.slice (es.map Ce.d))) []:=by
 match es,h0,h4,h with
 | [],h0,_,_=>exact absurd rfl h0
 | [a],_,_,h=>exact ru a (h a (by simp))
 | [a,b],_,_,h=>exact uP a b (h a (by simp)) (h b (by simp))
 | [a,b,c],_,_,h=>exact uO a b c (h a (by simp)) (h b (by simp)) (h c (by simp))
 | [a,b,c,d],_,_,h=>exact uN a b c d (h a (by simp)) (h b (by simp)) (h c (by simp)) (h d (by simp))
 | _::_::_::_::_::_,_,h4,_=>simp at h4
theorem aaO (es:List Ce) (h0:es≠[]) (h4:es.length<=4) (h : ∀ c∈es,c.Ok):Ret VP (.fn 142) [.d (.agg (tyD es))] [] (.d (.int .i64 0)) []:=by
 match es,h0,h4,h with
 | [],h0,_,_=>exact absurd rfl h0
 | [a],_,_,h=>exact arM a (h a (by simp))
 | [a,b],_,_,h=>exact HO a b (h a (by simp)) (h b (by simp))
 | [a,b,c],_,_,h=>exact HN a b c (h a (by simp)) (h b (by simp)) (h c (by simp))
 | [a,b,c,d],_,_,h=>exact HM a b c d (h a (by simp)) (h b (by simp)) (h c (by simp)) (h d (by simp))
 | _::_::_::_::_::_,_,h4,_=>simp at h4
theorem aaN (es:List Ce) (h0:es≠[]) (h4:es.length<=4) (h : ∀ c∈es,c.Ok):Ret VP (.fn 170) [.d (.agg (tyD es))] [] (.d (.slice (es.map Ce.d))) []:=by
 match es,h0,h4,h with
 | [],h0,_,_=>exact absurd rfl h0
 | [a],_,_,h=>exact sr a (h a (by simp))
 | [a,b],_,_,h=>exact HF a b (h a (by simp)) (h b (by simp))
 | [a,b,c],_,_,h=>exact HE a b c (h a (by simp)) (h b (by simp)) (h c (by simp))
 | [a,b,c,d],_,_,h=>exact HD a b c d (h a (by simp)) (h b (by simp)) (h c (by simp)) (h d (by simp))
 | _::_::_::_::_::_,_,h4,_=>simp at h4
theorem sE (es:List Ce) (h0:es≠[]) : ∃ (a b c d:Int) (e:List D),tyD es=[.int .i64 a,.int .i64 b,.int .i64 c,.int .i64 d,.slice e]:=by
 match es,h0 with
 | [],h0=>exact absurd rfl h0
 | [a],_=>exact ⟨_,_,_,_,_,rfl⟩
 | a::b::l,_=>exact ⟨_,_,_,_,_,rfl⟩
theorem aaP (es:List Ce) (h0:es≠[]) (h4:es.length<=4) (h : ∀ c∈es,c.Ok):Ret VP (.fn 135) [.d (.agg (tyD es))] [] (.d (.tuple [.slice (es.map Ce.d),.int .i64 0])) []:=by
 have h1:=aaO es h0 h4 h
 have h2:=aaN es h0 h4 h
 obtain ⟨a,b,c,d,e,he⟩:=sE es h0
 rw [he] at h1 h2 ⊢
 refine ret_of rfl rfl (r0 ?_)
 refine Z2 ?_
 rfl
structure Ty where
 a:Int
 b:Int
 c:Int
 d:Int
 e:List D
def Ty.l (t:Ty):List D:=[.int .i64 t.a,.int .i64 t.b,.int .i64 t.c,.int .i64 t.d,.slice t.e]
def dY:List Ce->Ty
 | [c]=>⟨c.k,if c.k=2 then c.lo else 0,if c.k=2 then c.hi else 0,0,[]⟩
 | es=>⟨5,0,0,0,es.map Ce.ty⟩
theorem uL (es:List Ce):(dY es).l=tyD es:=by
 match es with
 | []=>rfl
 | [c]=>rfl
 | a::b::l=>rfl
def moD (p:Nat) (cs:List Ce) (l:List Cm) (os:List Nat) (t:Ty):D := .agg [.int .i64 p,.slice (cs.map Ce.d),.slice [],.slice [],.slice (l.map Cm.d),.slice (os.map oD),.int .i64 t.a,.int .i64 t.b,.int .i64 t.c,.int .i64 t.d,.slice t.e]
structure Outs (cs:List Ce) (os:List Nat) (es:List Ce):Prop where
 hl:os.length=es.length
 h0:es≠[]
 h4:es.length<=4
 get : ∀ i (h:i < os.length) (h':i < es.length),cs[os[i]]?=some es[i]
 ok : ∀ c∈es,c.Ok
theorem Outs.lt {cs:List Ce} {os:List Nat} {es:List Ce} (h:Outs cs os es) : ∀ o∈os,o < cs.length:=by
 intro o ho
 obtain ⟨i,hi,rfl⟩:=List.getElem_of_mem ho
 have:=h.get i hi (by rw [<- h.hl];exact hi)
 exact (List.getElem?_eq_some_iff.1 this).1
theorem JD (c:Ce) (h:c.Ok):Ret VP (.fn 129) [.d c.d] [] (.d (.bool true)) []:=by
 rcases h with rfl | ⟨lo,hi,rfl,h1,h2,h3,h4⟩
 · refine ret_of rfl rfl (r0 ?_)
   refine Z2 ?_
   rfl
 · have t1:lo >= -1000:=by omega
   have t2:lo<=hi:=by omega
   have t3:hi<=1000:=by omega
   refine ret_of rfl rfl (r0 ?_)
   (have hz1:=decide_eq_true t1;have hz2:=decide_eq_true t2;have hz3:=decide_eq_true t3;refine Z2 ?_)
   exact fe rfl (dB (decide_eq_true t3)) rfl
theorem xq (cs:List Ce) (h : ∀ c∈cs,c.Ok) (h4:cs.length<=4):Ret VP (.fn 81) [.d (.slice (cs.map Ce.d)),.d (.bool false)] [] (.d (.bool true)) []:=by
 refine ret_of rfl rfl (r0 ?_)
 refine Z1 ?_
 refine af rfl ?_
 refine cB (fun i=>[.d (.slice (cs.map Ce.d)),.d (.bool false),.d (.int .i64 i)]) (fun _=>[]) cs.length (fun i hi hn => ?_) ?_
 · have hwi:=ac i (by omega)
   have hg:(cs.map Ce.d)[i]?=some (Ce.d cs[i]):=by rw [List.getElem?_map,List.getElem?_eq_getElem hi];rfl
   have h1:=JD cs[i] (h _ (List.getElem_mem hi))
   have ht:=dd (g:=Ce.d) hi
   unfold ah
   refine Z1 ?_
   rw [hwi]
   exact af rfl hn
 · have hf:=de (g:=Ce.d) (l:=cs)
   unfold ah
   refine Z1 ?_
   rfl
theorem sX (p:Nat) (cs:List Ce) (l:List Cm) (os:List Nat) (es:List Ce) (hr:Outs cs os es):Ret VP (.fn 82) [.d (moD p cs l os (dY es))] [] (.d (.bool true)) []:=by
 have h1:=aaR es hr.h0 hr.h4 hr.ok
 have h2:=aaQ es hr.h0 hr.h4 hr.ok
 rw [<- uL] at h1 h2
 have h4:=hr.h4
 have hl:=hr.hl
 have t1:((((es.map Ce.d).length:Nat):Int) != (((os.map oD).length:Nat):Int))=false:=by rw [List.length_map,List.length_map,hl];simp
 refine ret_of rfl rfl (r0 ?_)
 refine Z1 ?_
 refine af rfl ?_
 refine cB (fun i=>[.ptr 0 0 0 0,.d (.slice (es.map Ce.d)),.d (.int .i64 i)]) (fun _=>[some (.rows 0 false 11 [[.d (.int .i64 p),.d (.slice (cs.map Ce.d)),.d (.slice []),.d (.slice []),.d (.slice (l.map Cm.d)),.d (.slice (os.map oD)),.d (.int .i64 (dY es).a),.d (.int .i64 (dY es).b),.d (.int .i64 (dY es).c),.d (.int .i64 (dY es).d),.d (.slice (dY es).e)]])]) es.length (fun i hi hn => ?_) ?_
 · have hwi:=ac i (by omega)
   have hio:i < os.length:=by omega
   have hg:(es.map Ce.d)[i]?=some (Ce.d es[i]):=by rw [List.getElem?_map,List.getElem?_eq_getElem hi];rfl
   have hg2:(os.map oD)[i]?=some (oD os[i]):=by rw [List.getElem?_map,List.getElem?_eq_getElem hio];rfl
   have hg3:(cs.map Ce.d)[os[i]]?=some (Ce.d es[i]):=by rw [List.getElem?_map,hr.get i hio hi];rfl
   have hlt:=hr.lt os[i] (List.getElem_mem hio)
   have ht:=dd (g:=Ce.d) hi
   have t2:¬ (os[i]:Int) < 0:=by omega
   have t3:¬ ((os[i]:Int)>=(((cs.map Ce.d).length:Nat):Int)):=by rw [List.length_map];omega
   have t4:=rP es[i]
   unfold ah
   (have hz4:=decide_eq_false t2;have hz5:=decide_eq_false t3;refine Z1 ?_)
   rw [hwi]
   exact af rfl hn
 · have hf:=de (g:=Ce.d) (l:=es)
   unfold ah
   refine Z1 ?_
   rfl
theorem tj:Ret VP (.fn 204) [.d Di.z.d] [] (.d (.bool true)) []:=by
 have hb:=bu
 refine ret_of rfl rfl (r0 ?_)
 refine Z2 ?_
 rfl
theorem sD {n:Nat} {W:List (List D)} {h:Nat} {c:Cm} (hc:Ok n W h c):Ret VP (.fn 164) [.d c.d] [] (.d (.bool true)) []:=by
 have h1:=ti
 have h2:=tj
 cases hc
 all_goals (refine ret_of rfl rfl (r0 ?_);refine Z2 ?_;rfl)
theorem IR (p:Nat) (cs:List Ce) (hcs:cs.length<=4) (os:List Nat) (h : ∀ o∈os,o < cs.length) (hd:(∃ o,os=[o]) \/ ∃ o u,os=[o,u]/\o≠u):Ret VP (.fn 165) [.d (scR p cs),.d (.slice (os.map oD))] [] (.d (.bool true)) []:=by
 rcases hd with ⟨o,rfl⟩ | ⟨o,u,rfl,hn⟩
 · have ho:=h o (by simp)
   have t1:¬ (o:Int) < 0:=by omega
   have t2:¬ ((o:Int)>=(((cs.map Ce.d).length:Nat):Int)):=by rw [List.length_map];omega
   refine ret_of rfl rfl (r0 ?_)
   (have hz6:=decide_eq_false t1;have hz7:=decide_eq_false t2;refine Z2 ?_)
   rfl
 · have ho:=h o (by simp)
   have hu:=h u (by simp)
   have t1:¬ (o:Int) < 0:=by omega
   have t2:¬ ((o:Int)>=(((cs.map Ce.d).length:Nat):Int)):=by rw [List.length_map];omega
   have t3:¬ (u:Int) < 0:=by omega
   have t4:¬ ((u:Int)>=(((cs.map Ce.d).length:Nat):Int)):=by rw [List.length_map];omega
   have t5:((u:Int)==(o:Int))=false:=by simp;omega
   refine ret_of rfl rfl (r0 ?_)
   (have hz8:=decide_eq_false t1;have hz9:=decide_eq_false t2;have hz10:=decide_eq_false t3;have hz11:=decide_eq_false t4;refine Z2 ?_)
   rfl
end Go.Proofs.YtncfpmehhfdipaaGreat
namespace Go.Proofs.YtncfpmehhfdipaaGreat
abbrev Q0 (f:Nat) (r:D):Prop:=Ret VP (.fn f) [] [] (.d r) []
abbrev Q1 (f:Nat) (x0:D) (r:D):Prop:=Ret VP (.fn f) [.d x0] [] (.d r) []
abbrev Q2 (f:Nat) (x0 x1:D) (r:D):Prop:=Ret VP (.fn f) [.d x0,.d x1] [] (.d r) []
abbrev Q3 (f:Nat) (x0 x1 x2:D) (r:D):Prop:=Ret VP (.fn f) [.d x0,.d x1,.d x2] [] (.d r) []
abbrev Q5 (f:Nat) (x0 x1 x2 x3 x4:D) (r:D):Prop:=Ret VP (.fn f) [.d x0,.d x1,.d x2,.d x3,.d x4] [] (.d r) []
theorem Tk {f:Nat} {a:List V} {r:V} {l:List Ent} (h:Tab VP l) (hx:tu (i5 VP l 1000 (.fn f) a []) r []=true:=by kernel_rfl):Ret VP (.fn f) a [] r []:=tb h hx
end Go.Proofs.YtncfpmehhfdipaaGreat
