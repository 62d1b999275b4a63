/- TraceLimits, a module of fair draws: the outcome of a draw is picked. -/
import Derived.Test.YtboekhenldifhaaGreatZvTabG
import Derived.Test.YtboekhenldifhaaGreatZvWx
import Derived.IntWalk
import Derived.Test.YtboekhenldifhaaGreatZvTl0
/- TraceLimits, a module of fair draws: the outcome of a draw is picked. -/
set_option linter.unusedSimpArgs false
set_option linter.unusedVariables false
namespace Go.Proofs.YtboekhenldifhaaGreat
open Go.IntWalk
attribute [local irreducible] roomy IntKind.wrap
set_option maxHeartbeats 4000000
set_option maxRecDepth 100000
/-- The polynomial 1 / 2^j. -/
def hP (j : Nat) : D := .slice [.agg [.int .i64 0, .int .i64 0, .int .i64 0, .int .i64 0, .int .i64 0, .int .i64 0, .int .i64 0, .int .i64 0, .bool false, .slice [.int .u32 1], .slice [.int .u32 (2 ^ j : Nat)]]]
def cmdL (i : Nat) : List D := [.int .i64 2, .int .i64 0, .int .i64 i, .int .i64 0, .int .i64 0, .bool false, .slice [], .slice [], .slice [], .int .i64 1, .int .i64 0, .int .i64 0, .slice [hP 1, hP 1], .bool false, .slice [], .slice [], .bool false, .slice [], .slice [], .slice [], .slice [], .slice [], .slice []]
def cmdD (i : Nat) : D := .agg (cmdL i)
def pR (ps : List Nat) : List (List V) := ps.map fun (b : Nat) => [V.d (.int .i64 (b : Int))]
def bothD : D := .slice [.int .i64 0, .int .i64 1]
def lR (m : Nat) : List (List V) := List.replicate m [.d bothD]
theorem pR_length (ps : List Nat) : (pR ps).length = ps.length := by simp [pR]
theorem lR_length (m : Nat) : (lR m).length = m := by simp [lR]
theorem pR_get {ps : List Nat} {n b : Nat} (h : ps[n]? = some b) : (pR ps)[n]? = some [.d (.int .i64 b)] := by simp [pR, h]
theorem lR_get {m n : Nat} (h : n < m) : (lR m)[n]? = some [.d bothD] := by simp [lR, h]
def stK (n v j : Nat) (ps : List Nat) (m : Nat) : Store := [some (.rows 0 false 1 [[.d (.int .i64 n)]]), some (.rows 0 false 1 [[.ms 3 v 0 j]]), some (.rows 0 false 1 [[.ms 4 v 0 j]]), some (.rows v false 1 (pR ps)), some (.rows v false 1 (lR m))]
theorem wrapN (n : Nat) (h : n < 1000000) : IntKind.i64.wrap (n : Int) = n := by
  have h1 : (n : Int) % 2 ^ 64 = n := by omega
  simp only [IntKind.wrap, IntKind.bits, IntKind.signed, h1]
  rw [if_neg]
  simp
  omega
theorem refsR_pR (ps : List Nat) : refsR (pR ps) = [] := by
  induction ps with
  | nil => rfl
  | cons b ps ih => simp only [pR, List.map_cons, refsR, refsL, refs, List.nil_append] at ih ⊢; exact ih
theorem refsR_lR (m : Nat) : refsR (lR m) = [] := by
  induction m with
  | zero => rfl
  | succ m ih => simp only [lR, List.replicate_succ, refsR, refsL, refs, List.nil_append] at ih ⊢; exact ih
theorem closedK {c0 c1 c2 : List (List V)} {v : Nat} {ps : List Nat} {m : Nat} {s : Store} (h0 : (refsR c0).all (fun j => decide (j < 5)) = true) (h1 : (refsR c1).all (fun j => decide (j < 5)) = true) (h2 : (refsR c2).all (fun j => decide (j < 5)) = true) :
    closed (some (.rows 0 false 1 c0) :: some (.rows 0 false 1 c1) :: some (.rows 0 false 1 c2) :: some (.rows v false 1 (pR ps)) :: some (.rows v false 1 (lR m)) :: s) 5 := by
  refine closed_of fun i hi => ?_
  rcases (by omega : i = 0 ∨ i = 1 ∨ i = 2 ∨ i = 3 ∨ i = 4) with rfl | rfl | rfl | rfl | rfl
  · exact ⟨_, rfl, h0⟩
  · exact ⟨_, rfl, h1⟩
  · exact ⟨_, rfl, h2⟩
  · exact ⟨_, rfl, by simp only [refsB, refsR_pR]; rfl⟩
  · exact ⟨_, rfl, by simp only [refsB, refsR_lR]; rfl⟩
theorem pickA (i n v j b : Nat) (ps : List Nat) (m : Nat) (hn : n < j) (hj : j ≤ 16) (hp : j ≤ ps.length) (hm : j ≤ m) (hb : ps[n]? = some b) (hb2 : b < 2) : Ret VP (.fn 39) [.d (cmdD i), .ptr 0 0 0 0, .ptr 1 0 0 0, .ptr 2 0 0 0] (stK n v j ps m) (.d (.tuple [.int .i64 b, .int .i64 0])) (stK (n + 1) v j ps m) := by
  have h1 : ((n : Int) == (j : Int)) = false := by simp; omega
  have hw : IntKind.i64.wrap ((n : Int) + 1) = ((n + 1 : Nat) : Int) := by rw [show (n : Int) + 1 = ((n + 1 : Nat) : Int) by omega]; exact wrapN _ (by omega)
  have hw2 : IntKind.i64.wrap (((n + 1 : Nat) : Int) - 1) = (n : Int) := by rw [show ((n + 1 : Nat) : Int) - 1 = (n : Int) by omega]; exact wrapN _ (by omega)
  refine ret_of rfl rfl (r0 ?_)
  (repeat first | (apply gO; first | (apply gOg; first | refine oz rfl ?_ | refine og rfl (h1) ?_ | refine of' rfl (h1) ?_ | refine og rfl (by decide) ?_ | refine of' rfl (by decide) ?_) | (apply gOp; first | refine opt rfl (h1) rfl ?_ | refine opf rfl (h1) rfl ?_ | refine opt rfl (by decide) rfl ?_ | refine opf rfl (by decide) rfl ?_) | refine ovx (op := .mapup _ _ _ _) rfl ?_ | refine ov1 rfl ?_ | refine omk rfl rfl (Nat.le_of_ble_eq_true rfl) (roomy_small (Nat.le_of_ble_eq_true rfl) (by decide)) rfl rfl rfl ?_ | refine oam rfl rfl rfl (Nat.le_of_ble_eq_true rfl) rfl rfl (roomy_small (Nat.le_of_ble_eq_true rfl) (by decide)) rfl ?_ | refine oak rfl rfl rfl rfl (roomy_small (Nat.le_of_ble_eq_true rfl) (by decide)) rfl ?_ | apply o0) | (apply gR; first | apply rs | refine rr rfl rfl ?_ | apply rb | apply rk | apply rx | apply rl | apply rt | refine rd rfl rfl ?_ | refine rct rfl (h1) ?_ | refine rcf rfl (h1) ?_ | refine rct rfl (by decide) ?_ | refine rcf rfl (by decide) ?_) | (apply gK; first | apply ks | apply kb | apply kl | apply xb | apply xs | apply xl | refine xo (by decide) ?_ | apply kq) | (apply gF; first | (apply gFg; first | refine fz' rfl ?_ | refine fg rfl (h1) rfl ?_ | refine ff rfl (h1) ?_ | refine fg rfl (by decide) rfl ?_ | refine ff rfl (by decide) ?_) | (apply gFp; first | refine fpt rfl (h1) rfl ?_ | refine fpf rfl (h1) rfl ?_ | refine fpt rfl (by decide) rfl ?_ | refine fpf rfl (by decide) rfl ?_) | refine fw (ovx (op := .mapup _ _ _ _) rfl (o0 ⟨rfl, rfl⟩)) ?_ | refine fw (ov1 rfl (o0 ⟨rfl, rfl⟩)) ?_ | refine fw (omk rfl rfl (Nat.le_of_ble_eq_true rfl) (roomy_small (Nat.le_of_ble_eq_true rfl) (by decide)) rfl rfl rfl (o0 ⟨rfl, rfl⟩)) ?_ | refine fw (oam rfl rfl rfl (Nat.le_of_ble_eq_true rfl) rfl rfl (roomy_small (Nat.le_of_ble_eq_true rfl) (by decide)) rfl (o0 ⟨rfl, rfl⟩)) ?_ | refine fw (oak rfl rfl rfl rfl (roomy_small (Nat.le_of_ble_eq_true rfl) (by decide)) rfl (o0 ⟨rfl, rfl⟩)) ?_ | apply fn0) | refine lt' rfl ?_ | refine oln rfl rfl rfl ?_)
  rw [hw, hw2]
  refine fw (oim rfl rfl rfl rfl rfl hn (by rw [lR_length]; omega) (o0 ⟨rfl, rfl⟩)) ?_
  refine fw (olm rfl rfl rfl (by rw [Nat.zero_add]; exact lR_get (by omega)) rfl (o0 ⟨rfl, rfl⟩)) ?_
  (repeat first | (apply gO; first | (apply gOg; first | refine oz rfl ?_ | refine og rfl (by decide) ?_ | refine of' rfl (by decide) ?_) | (apply gOp; first | refine opt rfl (by decide) rfl ?_ | refine opf rfl (by decide) rfl ?_) | refine ovx (op := .mapup _ _ _ _) rfl ?_ | refine ov1 rfl ?_ | refine omk rfl rfl (Nat.le_of_ble_eq_true rfl) (roomy_small (Nat.le_of_ble_eq_true rfl) (by decide)) rfl rfl rfl ?_ | refine oam rfl rfl rfl (Nat.le_of_ble_eq_true rfl) rfl rfl (roomy_small (Nat.le_of_ble_eq_true rfl) (by decide)) rfl ?_ | refine oak rfl rfl rfl rfl (roomy_small (Nat.le_of_ble_eq_true rfl) (by decide)) rfl ?_ | apply o0) | (apply gR; first | apply rs | refine rr rfl rfl ?_ | apply rb | apply rk | apply rx | apply rl | apply rt | refine rd rfl rfl ?_ | refine rct rfl (by decide) ?_ | refine rcf rfl (by decide) ?_) | (apply gK; first | apply ks | apply kb | apply kl | apply xb | apply xs | apply xl | refine xo (by decide) ?_ | apply kq) | (apply gF; first | (apply gFg; first | refine fz' rfl ?_ | refine fg rfl (by decide) rfl ?_ | refine ff rfl (by decide) ?_) | (apply gFp; first | refine fpt rfl (by decide) rfl ?_ | refine fpf rfl (by decide) rfl ?_) | refine fw (ovx (op := .mapup _ _ _ _) rfl (o0 ⟨rfl, rfl⟩)) ?_ | refine fw (ov1 rfl (o0 ⟨rfl, rfl⟩)) ?_ | refine fw (omk rfl rfl (Nat.le_of_ble_eq_true rfl) (roomy_small (Nat.le_of_ble_eq_true rfl) (by decide)) rfl rfl rfl (o0 ⟨rfl, rfl⟩)) ?_ | refine fw (oam rfl rfl rfl (Nat.le_of_ble_eq_true rfl) rfl rfl (roomy_small (Nat.le_of_ble_eq_true rfl) (by decide)) rfl (o0 ⟨rfl, rfl⟩)) ?_ | refine fw (oak rfl rfl rfl rfl (roomy_small (Nat.le_of_ble_eq_true rfl) (by decide)) rfl (o0 ⟨rfl, rfl⟩)) ?_ | apply fn0) | refine lt' rfl ?_)
  rw [hw2]
  refine fw (oim rfl rfl rfl rfl rfl hn (by rw [pR_length]; omega) (o0 ⟨rfl, rfl⟩)) ?_
  refine fw (olm rfl rfl rfl (by rw [Nat.zero_add]; exact pR_get hb) rfl (o0 ⟨rfl, rfl⟩)) ?_
  rcases (by omega : b = 0 ∨ b = 1) with rfl | rfl
  · (repeat first | (apply gO; first | (apply gOg; first | refine oz rfl ?_ | refine og rfl (by decide) ?_ | refine of' rfl (by decide) ?_) | (apply gOp; first | refine opt rfl (by decide) rfl ?_ | refine opf rfl (by decide) rfl ?_) | refine ovx (op := .mapup _ _ _ _) rfl ?_ | refine ov1 rfl ?_ | refine omk rfl rfl (Nat.le_of_ble_eq_true rfl) (roomy_small (Nat.le_of_ble_eq_true rfl) (by decide)) rfl rfl rfl ?_ | refine oam rfl rfl rfl (Nat.le_of_ble_eq_true rfl) rfl rfl (roomy_small (Nat.le_of_ble_eq_true rfl) (by decide)) rfl ?_ | refine oak rfl rfl rfl rfl (roomy_small (Nat.le_of_ble_eq_true rfl) (by decide)) rfl ?_ | apply o0) | (apply gR; first | apply rs | refine rr rfl rfl ?_ | apply rb | apply rk | apply rx | apply rl | apply rt | refine rd rfl rfl ?_ | refine rct rfl (by decide) ?_ | refine rcf rfl (by decide) ?_) | (apply gK; first | apply ks | apply kb | apply kl | apply xb | apply xs | apply xl | refine xo (by decide) ?_ | apply kq) | (apply gF; first | (apply gFg; first | refine fz' rfl ?_ | refine fg rfl (by decide) rfl ?_ | refine ff rfl (by decide) ?_) | (apply gFp; first | refine fpt rfl (by decide) rfl ?_ | refine fpf rfl (by decide) rfl ?_) | refine fw (ovx (op := .mapup _ _ _ _) rfl (o0 ⟨rfl, rfl⟩)) ?_ | refine fw (ov1 rfl (o0 ⟨rfl, rfl⟩)) ?_ | refine fw (omk rfl rfl (Nat.le_of_ble_eq_true rfl) (roomy_small (Nat.le_of_ble_eq_true rfl) (by decide)) rfl rfl rfl (o0 ⟨rfl, rfl⟩)) ?_ | refine fw (oam rfl rfl rfl (Nat.le_of_ble_eq_true rfl) rfl rfl (roomy_small (Nat.le_of_ble_eq_true rfl) (by decide)) rfl (o0 ⟨rfl, rfl⟩)) ?_ | refine fw (oak rfl rfl rfl rfl (roomy_small (Nat.le_of_ble_eq_true rfl) (by decide)) rfl (o0 ⟨rfl, rfl⟩)) ?_ | apply fn0) | refine lt' rfl ?_)
    exact fin_closed (x := .tuple [.int .i64 0, .int .i64 0]) rfl rfl (closedK rfl rfl rfl) rfl
  · (repeat first | (apply gO; first | (apply gOg; first | refine oz rfl ?_ | refine og rfl (by decide) ?_ | refine of' rfl (by decide) ?_) | (apply gOp; first | refine opt rfl (by decide) rfl ?_ | refine opf rfl (by decide) rfl ?_) | refine ovx (op := .mapup _ _ _ _) rfl ?_ | refine ov1 rfl ?_ | refine omk rfl rfl (Nat.le_of_ble_eq_true rfl) (roomy_small (Nat.le_of_ble_eq_true rfl) (by decide)) rfl rfl rfl ?_ | refine oam rfl rfl rfl (Nat.le_of_ble_eq_true rfl) rfl rfl (roomy_small (Nat.le_of_ble_eq_true rfl) (by decide)) rfl ?_ | refine oak rfl rfl rfl rfl (roomy_small (Nat.le_of_ble_eq_true rfl) (by decide)) rfl ?_ | apply o0) | (apply gR; first | apply rs | refine rr rfl rfl ?_ | apply rb | apply rk | apply rx | apply rl | apply rt | refine rd rfl rfl ?_ | refine rct rfl (by decide) ?_ | refine rcf rfl (by decide) ?_) | (apply gK; first | apply ks | apply kb | apply kl | apply xb | apply xs | apply xl | refine xo (by decide) ?_ | apply kq) | (apply gF; first | (apply gFg; first | refine fz' rfl ?_ | refine fg rfl (by decide) rfl ?_ | refine ff rfl (by decide) ?_) | (apply gFp; first | refine fpt rfl (by decide) rfl ?_ | refine fpf rfl (by decide) rfl ?_) | refine fw (ovx (op := .mapup _ _ _ _) rfl (o0 ⟨rfl, rfl⟩)) ?_ | refine fw (ov1 rfl (o0 ⟨rfl, rfl⟩)) ?_ | refine fw (omk rfl rfl (Nat.le_of_ble_eq_true rfl) (roomy_small (Nat.le_of_ble_eq_true rfl) (by decide)) rfl rfl rfl (o0 ⟨rfl, rfl⟩)) ?_ | refine fw (oam rfl rfl rfl (Nat.le_of_ble_eq_true rfl) rfl rfl (roomy_small (Nat.le_of_ble_eq_true rfl) (by decide)) rfl (o0 ⟨rfl, rfl⟩)) ?_ | refine fw (oak rfl rfl rfl rfl (roomy_small (Nat.le_of_ble_eq_true rfl) (by decide)) rfl (o0 ⟨rfl, rfl⟩)) ?_ | apply fn0) | refine lt' rfl ?_)
    exact fin_closed (x := .tuple [.int .i64 1, .int .i64 0]) rfl rfl (closedK rfl rfl rfl) rfl
def dsL : List D := [.int .i64 1, .int .i64 0, .int .i64 0, .slice [hP 1, hP 1], .bool false, .slice [], .slice [], .bool false, .slice [], .slice []]
theorem pR_take (ps : List Nat) (j : Nat) : (pR ps).take j ++ [[.d (.int .i64 0)]] = pR (ps.take j ++ [0]) := by simp [pR]
theorem lR_take {m j : Nat} (h : j ≤ m) : (lR m).take j ++ [[.d bothD]] = lR (j + 1) := by
  simp only [lR, List.take_replicate, Nat.min_eq_left h]
  rw [List.replicate_succ']
theorem snoc_get (ps : List Nat) (j : Nat) (h : j ≤ ps.length) (b : Nat) : (ps.take j ++ [b])[j]? = some b := by
  rw [List.getElem?_append_right (by rw [List.length_take]; omega), List.length_take, Nat.min_eq_left h, Nat.sub_self]; rfl
theorem pickB (hout : Ret VP (.fn 40) [.d (.agg dsL)] [] (.d bothD) []) (i v j : Nat) (ps : List Nat) (m : Nat) (hj : j < 16) (hp : j ≤ ps.length) (hm : j ≤ m) : Ret VP (.fn 39) [.d (cmdD i), .ptr 0 0 0 0, .ptr 1 0 0 0, .ptr 2 0 0 0] (stK j v j ps m) (.d (.tuple [.int .i64 0, .int .i64 0])) (stK (j + 1) (v + 1) (j + 1) (ps.take j ++ [0]) (j + 1)) := by
  have h1 : ((j : Int) == (j : Int)) = true := by simp
  have hw : IntKind.i64.wrap ((j : Int) + 1) = ((j + 1 : Nat) : Int) := by rw [show (j : Int) + 1 = ((j + 1 : Nat) : Int) by omega]; exact wrapN _ (by omega)
  have hw2 : IntKind.i64.wrap (((j + 1 : Nat) : Int) - 1) = (j : Int) := by rw [show ((j + 1 : Nat) : Int) - 1 = (j : Int) by omega]; exact wrapN _ (by omega)
  have hr1 : roomy (j + 1) 24 = true := by rw [roomy, Bool.and_eq_true, decide_eq_true_eq, decide_eq_true_eq]; omega
  have hr2 : roomy (j + 1) 8 = true := by rw [roomy, Bool.and_eq_true, decide_eq_true_eq, decide_eq_true_eq]; omega
  refine ret_of rfl rfl (r0 ?_)
  (repeat first | (apply gO; first | (apply gOc; first | refine oC1t (hout) rfl rfl rfl ?_) | (apply gOg; first | refine oz rfl ?_ | refine og rfl (h1) ?_ | refine of' rfl (h1) ?_ | refine og rfl (by decide) ?_ | refine of' rfl (by decide) ?_) | (apply gOp; first | refine opt rfl (h1) rfl ?_ | refine opf rfl (h1) rfl ?_ | refine opt rfl (by decide) rfl ?_ | refine opf rfl (by decide) rfl ?_) | refine ovx (op := .mapup _ _ _ _) rfl ?_ | refine ov1 rfl ?_ | refine omk rfl rfl (Nat.le_of_ble_eq_true rfl) (roomy_small (Nat.le_of_ble_eq_true rfl) (by decide)) rfl rfl rfl ?_ | refine oam rfl rfl rfl (Nat.le_of_ble_eq_true rfl) rfl rfl (roomy_small (Nat.le_of_ble_eq_true rfl) (by decide)) rfl ?_ | refine oak rfl rfl rfl rfl (roomy_small (Nat.le_of_ble_eq_true rfl) (by decide)) rfl ?_ | apply o0) | (apply gR; first | apply rs | refine rr rfl rfl ?_ | apply rb | apply rk | apply rx | apply rl | apply rt | refine rd rfl rfl ?_ | refine rct rfl (h1) ?_ | refine rcf rfl (h1) ?_ | refine rct rfl (by decide) ?_ | refine rcf rfl (by decide) ?_) | (apply gK; first | apply ks | apply kb | apply kl | apply xb | apply xs | apply xl | refine xo (by decide) ?_ | apply kq) | (apply gF; first | (apply gFc; first | refine fw (oC1t (hout) rfl rfl rfl (o0 ⟨rfl, rfl⟩)) ?_) | (apply gFg; first | refine fz' rfl ?_ | refine fg rfl (h1) rfl ?_ | refine ff rfl (h1) ?_ | refine fg rfl (by decide) rfl ?_ | refine ff rfl (by decide) ?_ | refine fw (og rfl (h1) (oC1t (hout) rfl rfl rfl (o0 ⟨rfl, rfl⟩))) ?_ | refine fw (og rfl (by decide) (oC1t (hout) rfl rfl rfl (o0 ⟨rfl, rfl⟩))) ?_) | (apply gFp; first | refine fpt rfl (h1) rfl ?_ | refine fpf rfl (h1) rfl ?_ | refine fpt rfl (by decide) rfl ?_ | refine fpf rfl (by decide) rfl ?_) | refine fw (ovx (op := .mapup _ _ _ _) rfl (o0 ⟨rfl, rfl⟩)) ?_ | refine fw (ov1 rfl (o0 ⟨rfl, rfl⟩)) ?_ | refine fw (omk rfl rfl (Nat.le_of_ble_eq_true rfl) (roomy_small (Nat.le_of_ble_eq_true rfl) (by decide)) rfl rfl rfl (o0 ⟨rfl, rfl⟩)) ?_ | refine fw (oam rfl rfl rfl (Nat.le_of_ble_eq_true rfl) rfl rfl (roomy_small (Nat.le_of_ble_eq_true rfl) (by decide)) rfl (o0 ⟨rfl, rfl⟩)) ?_ | refine fw (oak rfl rfl rfl rfl (roomy_small (Nat.le_of_ble_eq_true rfl) (by decide)) rfl (o0 ⟨rfl, rfl⟩)) ?_ | apply fn0) | refine lt' rfl ?_ | refine oln rfl rfl rfl ?_)
  refine fw (oam rfl rfl rfl (by rw [lR_length]; exact hm) rfl rfl hr1 rfl (o0 ⟨rfl, rfl⟩)) ?_
  (repeat first | (apply gO; first | (apply gOg; first | refine oz rfl ?_ | refine og rfl (by decide) ?_ | refine of' rfl (by decide) ?_) | (apply gOp; first | refine opt rfl (by decide) rfl ?_ | refine opf rfl (by decide) rfl ?_) | refine ovx (op := .mapup _ _ _ _) rfl ?_ | refine ov1 rfl ?_ | refine omk rfl rfl (Nat.le_of_ble_eq_true rfl) (roomy_small (Nat.le_of_ble_eq_true rfl) (by decide)) rfl rfl rfl ?_ | refine oam rfl rfl rfl (Nat.le_of_ble_eq_true rfl) rfl rfl (roomy_small (Nat.le_of_ble_eq_true rfl) (by decide)) rfl ?_ | refine oak rfl rfl rfl rfl (roomy_small (Nat.le_of_ble_eq_true rfl) (by decide)) rfl ?_ | apply o0) | (apply gR; first | apply rs | refine rr rfl rfl ?_ | apply rb | apply rk | apply rx | apply rl | apply rt | refine rd rfl rfl ?_ | refine rct rfl (by decide) ?_ | refine rcf rfl (by decide) ?_) | (apply gK; first | apply ks | apply kb | apply kl | apply xb | apply xs | apply xl | refine xo (by decide) ?_ | apply kq) | (apply gF; first | (apply gFg; first | refine fz' rfl ?_ | refine fg rfl (by decide) rfl ?_ | refine ff rfl (by decide) ?_) | (apply gFp; first | refine fpt rfl (by decide) rfl ?_ | refine fpf rfl (by decide) rfl ?_) | refine fw (ovx (op := .mapup _ _ _ _) rfl (o0 ⟨rfl, rfl⟩)) ?_ | refine fw (ov1 rfl (o0 ⟨rfl, rfl⟩)) ?_ | refine fw (omk rfl rfl (Nat.le_of_ble_eq_true rfl) (roomy_small (Nat.le_of_ble_eq_true rfl) (by decide)) rfl rfl rfl (o0 ⟨rfl, rfl⟩)) ?_ | refine fw (oam rfl rfl rfl (Nat.le_of_ble_eq_true rfl) rfl rfl (roomy_small (Nat.le_of_ble_eq_true rfl) (by decide)) rfl (o0 ⟨rfl, rfl⟩)) ?_ | refine fw (oak rfl rfl rfl rfl (roomy_small (Nat.le_of_ble_eq_true rfl) (by decide)) rfl (o0 ⟨rfl, rfl⟩)) ?_ | apply fn0) | refine lt' rfl ?_)
  refine fw (oam rfl rfl rfl (by rw [pR_length]; exact hp) rfl rfl hr2 rfl (o0 ⟨rfl, rfl⟩)) ?_
  (repeat first | (apply gO; first | (apply gOg; first | refine oz rfl ?_ | refine og rfl (by decide) ?_ | refine of' rfl (by decide) ?_) | (apply gOp; first | refine opt rfl (by decide) rfl ?_ | refine opf rfl (by decide) rfl ?_) | refine ovx (op := .mapup _ _ _ _) rfl ?_ | refine ov1 rfl ?_ | refine omk rfl rfl (Nat.le_of_ble_eq_true rfl) (roomy_small (Nat.le_of_ble_eq_true rfl) (by decide)) rfl rfl rfl ?_ | refine oam rfl rfl rfl (Nat.le_of_ble_eq_true rfl) rfl rfl (roomy_small (Nat.le_of_ble_eq_true rfl) (by decide)) rfl ?_ | refine oak rfl rfl rfl rfl (roomy_small (Nat.le_of_ble_eq_true rfl) (by decide)) rfl ?_ | apply o0) | (apply gR; first | apply rs | refine rr rfl rfl ?_ | apply rb | apply rk | apply rx | apply rl | apply rt | refine rd rfl rfl ?_ | refine rct rfl (by decide) ?_ | refine rcf rfl (by decide) ?_) | (apply gK; first | apply ks | apply kb | apply kl | apply xb | apply xs | apply xl | refine xo (by decide) ?_ | apply kq) | (apply gF; first | (apply gFg; first | refine fz' rfl ?_ | refine fg rfl (by decide) rfl ?_ | refine ff rfl (by decide) ?_) | (apply gFp; first | refine fpt rfl (by decide) rfl ?_ | refine fpf rfl (by decide) rfl ?_) | refine fw (ovx (op := .mapup _ _ _ _) rfl (o0 ⟨rfl, rfl⟩)) ?_ | refine fw (ov1 rfl (o0 ⟨rfl, rfl⟩)) ?_ | refine fw (omk rfl rfl (Nat.le_of_ble_eq_true rfl) (roomy_small (Nat.le_of_ble_eq_true rfl) (by decide)) rfl rfl rfl (o0 ⟨rfl, rfl⟩)) ?_ | refine fw (oam rfl rfl rfl (Nat.le_of_ble_eq_true rfl) rfl rfl (roomy_small (Nat.le_of_ble_eq_true rfl) (by decide)) rfl (o0 ⟨rfl, rfl⟩)) ?_ | refine fw (oak rfl rfl rfl rfl (roomy_small (Nat.le_of_ble_eq_true rfl) (by decide)) rfl (o0 ⟨rfl, rfl⟩)) ?_ | apply fn0) | refine lt' rfl ?_)
  rw [hw, hw2]
  refine fw (oim rfl rfl rfl rfl rfl (Nat.lt_succ_self j) (by simp [lR]; omega) (o0 ⟨rfl, rfl⟩)) ?_
  refine fw (olm rfl rfl rfl (by rw [Nat.zero_add]; show ((lR m).take j ++ [[V.d bothD]])[j]? = _; rw [lR_take hm]; exact lR_get (Nat.lt_succ_self j)) rfl (o0 ⟨rfl, rfl⟩)) ?_
  (repeat first | (apply gO; first | (apply gOg; first | refine oz rfl ?_ | refine og rfl (by decide) ?_ | refine of' rfl (by decide) ?_) | (apply gOp; first | refine opt rfl (by decide) rfl ?_ | refine opf rfl (by decide) rfl ?_) | refine ovx (op := .mapup _ _ _ _) rfl ?_ | refine ov1 rfl ?_ | refine omk rfl rfl (Nat.le_of_ble_eq_true rfl) (roomy_small (Nat.le_of_ble_eq_true rfl) (by decide)) rfl rfl rfl ?_ | refine oam rfl rfl rfl (Nat.le_of_ble_eq_true rfl) rfl rfl (roomy_small (Nat.le_of_ble_eq_true rfl) (by decide)) rfl ?_ | refine oak rfl rfl rfl rfl (roomy_small (Nat.le_of_ble_eq_true rfl) (by decide)) rfl ?_ | apply o0) | (apply gR; first | apply rs | refine rr rfl rfl ?_ | apply rb | apply rk | apply rx | apply rl | apply rt | refine rd rfl rfl ?_ | refine rct rfl (by decide) ?_ | refine rcf rfl (by decide) ?_) | (apply gK; first | apply ks | apply kb | apply kl | apply xb | apply xs | apply xl | refine xo (by decide) ?_ | apply kq) | (apply gF; first | (apply gFg; first | refine fz' rfl ?_ | refine fg rfl (by decide) rfl ?_ | refine ff rfl (by decide) ?_) | (apply gFp; first | refine fpt rfl (by decide) rfl ?_ | refine fpf rfl (by decide) rfl ?_) | refine fw (ovx (op := .mapup _ _ _ _) rfl (o0 ⟨rfl, rfl⟩)) ?_ | refine fw (ov1 rfl (o0 ⟨rfl, rfl⟩)) ?_ | refine fw (omk rfl rfl (Nat.le_of_ble_eq_true rfl) (roomy_small (Nat.le_of_ble_eq_true rfl) (by decide)) rfl rfl rfl (o0 ⟨rfl, rfl⟩)) ?_ | refine fw (oam rfl rfl rfl (Nat.le_of_ble_eq_true rfl) rfl rfl (roomy_small (Nat.le_of_ble_eq_true rfl) (by decide)) rfl (o0 ⟨rfl, rfl⟩)) ?_ | refine fw (oak rfl rfl rfl rfl (roomy_small (Nat.le_of_ble_eq_true rfl) (by decide)) rfl (o0 ⟨rfl, rfl⟩)) ?_ | apply fn0) | refine lt' rfl ?_)
  rw [hw2]
  refine fw (oim rfl rfl rfl rfl rfl (Nat.lt_succ_self j) (by simp [pR]; omega) (o0 ⟨rfl, rfl⟩)) ?_
  refine fw (olm rfl rfl rfl (cs := [.d (.int .i64 0)]) (by rw [Nat.zero_add]; show ((pR ps).take j ++ [[V.d (.int .i64 0)]])[j]? = _; rw [pR_take]; exact pR_get (snoc_get ps j hp 0)) rfl (o0 ⟨rfl, rfl⟩)) ?_
  (repeat first | (apply gO; first | (apply gOg; first | refine oz rfl ?_ | refine og rfl (by decide) ?_ | refine of' rfl (by decide) ?_) | (apply gOp; first | refine opt rfl (by decide) rfl ?_ | refine opf rfl (by decide) rfl ?_) | refine ovx (op := .mapup _ _ _ _) rfl ?_ | refine ov1 rfl ?_ | refine omk rfl rfl (Nat.le_of_ble_eq_true rfl) (roomy_small (Nat.le_of_ble_eq_true rfl) (by decide)) rfl rfl rfl ?_ | refine oam rfl rfl rfl (Nat.le_of_ble_eq_true rfl) rfl rfl (roomy_small (Nat.le_of_ble_eq_true rfl) (by decide)) rfl ?_ | refine oak rfl rfl rfl rfl (roomy_small (Nat.le_of_ble_eq_true rfl) (by decide)) rfl ?_ | apply o0) | (apply gR; first | apply rs | refine rr rfl rfl ?_ | apply rb | apply rk | apply rx | apply rl | apply rt | refine rd rfl rfl ?_ | refine rct rfl (by decide) ?_ | refine rcf rfl (by decide) ?_) | (apply gK; first | apply ks | apply kb | apply kl | apply xb | apply xs | apply xl | refine xo (by decide) ?_ | apply kq) | (apply gF; first | (apply gFg; first | refine fz' rfl ?_ | refine fg rfl (by decide) rfl ?_ | refine ff rfl (by decide) ?_) | (apply gFp; first | refine fpt rfl (by decide) rfl ?_ | refine fpf rfl (by decide) rfl ?_) | refine fw (ovx (op := .mapup _ _ _ _) rfl (o0 ⟨rfl, rfl⟩)) ?_ | refine fw (ov1 rfl (o0 ⟨rfl, rfl⟩)) ?_ | refine fw (omk rfl rfl (Nat.le_of_ble_eq_true rfl) (roomy_small (Nat.le_of_ble_eq_true rfl) (by decide)) rfl rfl rfl (o0 ⟨rfl, rfl⟩)) ?_ | refine fw (oam rfl rfl rfl (Nat.le_of_ble_eq_true rfl) rfl rfl (roomy_small (Nat.le_of_ble_eq_true rfl) (by decide)) rfl (o0 ⟨rfl, rfl⟩)) ?_ | refine fw (oak rfl rfl rfl rfl (roomy_small (Nat.le_of_ble_eq_true rfl) (by decide)) rfl (o0 ⟨rfl, rfl⟩)) ?_ | apply fn0) | refine lt' rfl ?_)
  refine fin_closed' (s' := some (.rows 0 false 1 [[.d (.int .i64 (j + 1 : Nat))]]) :: some (.rows 0 false 1 [[.ms 3 (v + 1) 0 (j + 1)]]) :: some (.rows 0 false 1 [[.ms 4 (v + 1) 0 (j + 1)]]) :: some (.rows (v + 1) false 1 (pR (ps.take j ++ [0]))) :: some (.rows (v + 1) false 1 (lR (j + 1))) :: [some (.rows 0 false 23 [(cmdL i).map V.d]), none, none]) (x := .tuple [.int .i64 0, .int .i64 0]) ?_ rfl rfl (closedK rfl rfl rfl) rfl
  rw [← pR_take, ← lR_take hm]
  rfl
end Go.Proofs.YtboekhenldifhaaGreat
/- TraceLimits, a module of fair draws: a round of the body's commands. -/
set_option linter.unusedSimpArgs false
set_option linter.unusedVariables false
namespace Go.Proofs.YtboekhenldifhaaGreat
open Go.IntWalk
attribute [local irreducible] roomy IntKind.wrap
set_option maxHeartbeats 4000000
set_option maxRecDepth 100000
abbrev nV (n : Nat) : V := .d (.int .i64 (n : Int))
def bodyD (N : Nat) : List D := (List.range N).map cmdD
def cellB : D := .agg [.int .i64 1, .int .i64 0, .int .i64 1]
def runB (N : Nat) (ch : V) (mass : D) : Blk := .rows 0 false 17 [[.d (.int .i64 0), .d (.slice [cellB]), .d (.slice []), .d (.slice []), .d (.slice (bodyD N)), .d (.slice [.int .i64 0]), .d (.int .i64 1), .d (.int .i64 0), .d (.int .i64 0), .d (.int .i64 0), .d (.slice []), ch, .d mass, .ms 1 0 0 1, .d (.int .i64 1), .func 39 [] [.ptr 2 0 0 0, .ptr 3 0 0 0, .ptr 4 0 0 0], .d (.int .i64 0)]]
def chR (cs : List (Nat × Nat)) : List (List V) := cs.map fun p => [nV p.1, nV p.2]
def chV (b : Nat) : List (Nat × Nat) → V
  | [] => .nils
  | _ :: cs => .ms b cs.length 0 (cs.length + 1)
def chS : List (Nat × Nat) → Store
  | [] => []
  | c :: cs => [some (.rows cs.length false 2 (chR (c :: cs)))]
def stE (N : Nat) (cs : List (Nat × Nat)) (st n v j : Nat) (ps : List Nat) (m : Nat) : Store :=
  some (runB N (chV 7 cs) (hP cs.length)) :: some (.rows 0 false 1 [[nV st]]) :: some (.rows 0 false 1 [[nV n]]) :: some (.rows 0 false 1 [[.ms 5 v 0 j]]) :: some (.rows 0 false 1 [[.ms 6 v 0 j]]) :: some (.rows v false 1 (pR ps)) :: some (.rows v false 1 (lR m)) :: chS cs
theorem bodyD_get {N i : Nat} (h : i < N) : (bodyD N)[i]? = some (cmdD i) := by simp [bodyD, h]
theorem ren_pR (m : Nat → Option Nat) (ps : List Nat) : (pR ps).map (renL m) = pR ps := by
  have h : renB m (.rows 0 false 1 (pR ps)) = .rows 0 false 1 (pR ps) := renB_fix (by simp [refsB, refsR_pR])
  injection h
theorem ren_lR (f : Nat → Option Nat) (m : Nat) : (lR m).map (renL f) = lR m := by
  have h : renB f (.rows 0 false 1 (lR m)) = .rows 0 false 1 (lR m) := renB_fix (by simp [refsB, refsR_lR])
  injection h
theorem refsR_chR (cs : List (Nat × Nat)) : refsR (chR cs) = [] := by
  induction cs with
  | nil => rfl
  | cons b ps ih => simp only [chR, List.map_cons, refsR, refsL, refs, List.nil_append] at ih ⊢; exact ih
theorem ren_chR (f : Nat → Option Nat) (cs : List (Nat × Nat)) : (chR cs).map (renL f) = chR cs := by
  have h : renB f (.rows 0 false 1 (chR cs)) = .rows 0 false 1 (chR cs) := renB_fix (by simp [refsB, refsR_chR])
  injection h
theorem reach_of {s : Store} {t : List (Option (List Nat))} (h : tab s = t) (n : Nat) (todo seen : List Nat) : reach s n todo seen = reachT t n todo seen := by rw [reach_tab, h]
def boxB (i : Nat) : Blk := .rows 0 false 23 [(cmdL i).map V.d]
theorem exec1 {N i b v j m v' j' m' st : Nat} {ps ps' : List Nat} (c : Nat × Nat) (cs : List (Nat × Nat)) {K : List Fr} {Q : Out → Env → Store → Prop} (hi : i < N) (hN : N ≤ 16) (hcs : cs.length + 1 = i) (hb : b < 2)
    (hcl : Ret VP (.fn 66) [.d cellB, nV b] [] (nV b) []) (hno : Ret VP (.fn 68) [.d (hP 1)] [] (.d (.tuple [hP 1, .int .i64 0])) []) (hmul : Ret VP (.fn 110) [.d (hP (cs.length + 1)), .d (hP 1)] [] (.d (hP (cs.length + 1 + 1))) [])
    (hpk : Ret VP (.fn 39) [.d (cmdD i), .ptr 0 0 0 0, .ptr 1 0 0 0, .ptr 2 0 0 0] (stK i v j ps m) (.d (.tuple [.int .i64 b, .int .i64 0])) (stK (i + 1) v' j' ps' m'))
    (h : Head VP 7 [0, 21, 22, 23] c67_103 [.ptr 0 0 0 0, .d (.slice (bodyD N)), nV N, nV (i + 1)] (stE N (c :: cs ++ [(i, b)]) b (i + 1) v' j' ps' m') K Q) :
    Head VP 7 [0, 21, 22, 23] c67_103 [.ptr 0 0 0 0, .d (.slice (bodyD N)), nV N, nV i] (stE N (c :: cs) st i v j ps m) K Q := by
  have hlt : decide ((i : Int) < (N : Int)) = true := by simp; omega
  have hg := bodyD_get hi
  unfold Head
  (repeat first | (apply gO; first | (apply gOg; first | refine oz rfl ?_ | refine og rfl (hlt) ?_ | refine of' rfl (hlt) ?_ | refine og rfl (by decide) ?_ | refine of' rfl (by decide) ?_) | (apply gOp; first | refine opt rfl (hlt) rfl ?_ | refine opf rfl (hlt) rfl ?_ | refine opt rfl (by decide) rfl ?_ | refine opf rfl (by decide) rfl ?_) | refine ovx (op := .mapup _ _ _ _) rfl ?_ | refine ov1 rfl ?_ | refine oi rfl rfl (hg) rfl ?_ | refine omk rfl rfl (Nat.le_of_ble_eq_true rfl) (roomy_small (Nat.le_of_ble_eq_true rfl) (by decide)) rfl rfl rfl ?_ | refine oam rfl rfl rfl (Nat.le_of_ble_eq_true rfl) rfl rfl (roomy_small (Nat.le_of_ble_eq_true rfl) (by decide)) rfl ?_ | refine oak rfl rfl rfl rfl (roomy_small (Nat.le_of_ble_eq_true rfl) (by decide)) rfl ?_ | apply o0) | (apply gR; first | apply rs | refine rr rfl rfl ?_ | apply rb | apply rk | apply rx | apply rl | apply rt | refine rd rfl rfl ?_ | refine rct rfl (hlt) ?_ | refine rcf rfl (hlt) ?_ | refine rct rfl (by decide) ?_ | refine rcf rfl (by decide) ?_) | (apply gK; first | apply ks | apply kb | apply kl | apply xb | apply xs | apply xl | refine xo (by decide) ?_ | apply kq) | (apply gF; first | (apply gFg; first | refine fz' rfl ?_ | refine fg rfl (hlt) rfl ?_ | refine ff rfl (hlt) ?_ | refine fg rfl (by decide) rfl ?_ | refine ff rfl (by decide) ?_ | refine fw (og rfl (hlt) (oi rfl rfl (hg) rfl (o0 ⟨rfl, rfl⟩))) ?_ | refine fw (og rfl (by decide) (oi rfl rfl (hg) rfl (o0 ⟨rfl, rfl⟩))) ?_) | (apply gFp; first | refine fpt rfl (hlt) rfl ?_ | refine fpf rfl (hlt) rfl ?_ | refine fpt rfl (by decide) rfl ?_ | refine fpf rfl (by decide) rfl ?_) | refine fw (ovx (op := .mapup _ _ _ _) rfl (o0 ⟨rfl, rfl⟩)) ?_ | refine fw (ov1 rfl (o0 ⟨rfl, rfl⟩)) ?_ | refine fi rfl rfl (hg) rfl ?_ | refine fw (omk rfl rfl (Nat.le_of_ble_eq_true rfl) (roomy_small (Nat.le_of_ble_eq_true rfl) (by decide)) rfl rfl rfl (o0 ⟨rfl, rfl⟩)) ?_ | refine fw (oam rfl rfl rfl (Nat.le_of_ble_eq_true rfl) rfl rfl (roomy_small (Nat.le_of_ble_eq_true rfl) (by decide)) rfl (o0 ⟨rfl, rfl⟩)) ?_ | refine fw (oak rfl rfl rfl rfl (roomy_small (Nat.le_of_ble_eq_true rfl) (by decide)) rfl (o0 ⟨rfl, rfl⟩)) ?_ | apply fn0) | refine lt' rfl ?_)
  refine fw (oVp (ids := [2, 3, 4, 5, 6]) (s2 := some (runB N (chV 7 (c :: cs)) (hP (cs.length + 1))) :: some (.rows 0 false 1 [[nV st]]) :: some (.rows 0 false 1 [[nV (i + 1)]]) :: some (.rows 0 false 1 [[.ms 5 v' 0 j']]) :: some (.rows 0 false 1 [[.ms 6 v' 0 j']]) :: some (.rows v' false 1 (pR ps')) :: some (.rows v' false 1 (lR m')) :: some (.rows cs.length false 2 (chR (c :: cs))) :: [some (boxB i)]) rfl hpk rfl
    ((reach_of (t := [some [7, 1, 2, 3, 4], some [], some [], some [5], some [6], some [], some [], some [], some []]) ?_ _ _ _).trans rfl) rfl rfl ?_ rfl rfl ?_ (o0 ⟨rfl, rfl⟩)) ?_
  · show [some [7, 1, 2, 3, 4], some [], some [], some [5], some [6], some (refsR (pR ps)), some (refsR (lR m)), some (refsR (chR (c :: cs))), some []] = _
    rw [refsR_pR, refsR_lR, refsR_chR]
  · show [some (Blk.rows 0 false 1 [[nV i]]), some (.rows 0 false 1 [[.ms 3 v 0 j]]), some (.rows 0 false 1 [[.ms 4 v 0 j]]), some (.rows v false 1 ((pR ps).map (renL _))), some (.rows v false 1 ((lR m).map (renL _)))] = _
    rw [ren_pR, ren_lR]; rfl
  · show some (runB N (chV 7 (c :: cs)) (hP (cs.length + 1))) :: some (.rows 0 false 1 [[nV st]]) :: some (.rows 0 false 1 [[nV (i + 1)]]) :: some (.rows 0 false 1 [[.ms 5 v' 0 j']]) :: some (.rows 0 false 1 [[.ms 6 v' 0 j']]) :: some (.rows v' false 1 ((pR ps').map (renL _))) :: some (.rows v' false 1 ((lR m').map (renL _))) :: some (.rows cs.length false 2 (chR (c :: cs))) :: [some (boxB i)] = _
    rw [ren_pR, ren_lR]
  have hroom : roomy (cs.length + 1 + 1) 16 = true := by rw [roomy, Bool.and_eq_true, decide_eq_true_eq, decide_eq_true_eq]; omega
  (repeat first | (apply gO; first | (apply gOg; first | refine oz rfl ?_ | refine og rfl (by decide) ?_ | refine of' rfl (by decide) ?_) | (apply gOp; first | refine opt rfl (by decide) rfl ?_ | refine opf rfl (by decide) rfl ?_) | refine ovx (op := .mapup _ _ _ _) rfl ?_ | refine ov1 rfl ?_ | refine omk rfl rfl (Nat.le_of_ble_eq_true rfl) (roomy_small (Nat.le_of_ble_eq_true rfl) (by decide)) rfl rfl rfl ?_ | refine oam rfl rfl rfl (Nat.le_of_ble_eq_true rfl) rfl rfl (roomy_small (Nat.le_of_ble_eq_true rfl) (by decide)) rfl ?_ | refine oak rfl rfl rfl rfl (roomy_small (Nat.le_of_ble_eq_true rfl) (by decide)) rfl ?_ | apply o0) | (apply gR; first | apply rs | refine rr rfl rfl ?_ | apply rb | apply rk | apply rx | apply rl | apply rt | refine rd rfl rfl ?_ | refine rct rfl (by decide) ?_ | refine rcf rfl (by decide) ?_) | (apply gK; first | apply ks | apply kb | apply kl | apply xb | apply xs | apply xl | refine xo (by decide) ?_ | apply kq) | (apply gF; first | (apply gFg; first | refine fz' rfl ?_ | refine fg rfl (by decide) rfl ?_ | refine ff rfl (by decide) ?_) | (apply gFp; first | refine fpt rfl (by decide) rfl ?_ | refine fpf rfl (by decide) rfl ?_) | refine fw (ovx (op := .mapup _ _ _ _) rfl (o0 ⟨rfl, rfl⟩)) ?_ | refine fw (ov1 rfl (o0 ⟨rfl, rfl⟩)) ?_ | refine fw (omk rfl rfl (Nat.le_of_ble_eq_true rfl) (roomy_small (Nat.le_of_ble_eq_true rfl) (by decide)) rfl rfl rfl (o0 ⟨rfl, rfl⟩)) ?_ | refine fw (oam rfl rfl rfl (Nat.le_of_ble_eq_true rfl) rfl rfl (roomy_small (Nat.le_of_ble_eq_true rfl) (by decide)) rfl (o0 ⟨rfl, rfl⟩)) ?_ | refine fw (oak rfl rfl rfl rfl (roomy_small (Nat.le_of_ble_eq_true rfl) (by decide)) rfl (o0 ⟨rfl, rfl⟩)) ?_ | apply fn0) | refine lt' rfl ?_)
  refine fw (oam rfl rfl rfl (by simp [chR]) rfl rfl hroom rfl (o0 ⟨rfl, rfl⟩)) ?_
  (repeat first | (apply gO; first | (apply gOg; first | refine oz rfl ?_ | refine og rfl (by decide) ?_ | refine of' rfl (by decide) ?_) | (apply gOp; first | refine opt rfl (by decide) rfl ?_ | refine opf rfl (by decide) rfl ?_) | refine ovx (op := .mapup _ _ _ _) rfl ?_ | refine ov1 rfl ?_ | refine omk rfl rfl (Nat.le_of_ble_eq_true rfl) (roomy_small (Nat.le_of_ble_eq_true rfl) (by decide)) rfl rfl rfl ?_ | refine oam rfl rfl rfl (Nat.le_of_ble_eq_true rfl) rfl rfl (roomy_small (Nat.le_of_ble_eq_true rfl) (by decide)) rfl ?_ | refine oak rfl rfl rfl rfl (roomy_small (Nat.le_of_ble_eq_true rfl) (by decide)) rfl ?_ | apply o0) | (apply gR; first | apply rs | refine rr rfl rfl ?_ | apply rb | apply rk | apply rx | apply rl | apply rt | refine rd rfl rfl ?_ | refine rct rfl (by decide) ?_ | refine rcf rfl (by decide) ?_) | (apply gK; first | apply ks | apply kb | apply kl | apply xb | apply xs | apply xl | refine xo (by decide) ?_ | apply kq) | (apply gF; first | (apply gFg; first | refine fz' rfl ?_ | refine fg rfl (by decide) rfl ?_ | refine ff rfl (by decide) ?_) | (apply gFp; first | refine fpt rfl (by decide) rfl ?_ | refine fpf rfl (by decide) rfl ?_) | refine fw (ovx (op := .mapup _ _ _ _) rfl (o0 ⟨rfl, rfl⟩)) ?_ | refine fw (ov1 rfl (o0 ⟨rfl, rfl⟩)) ?_ | refine fw (omk rfl rfl (Nat.le_of_ble_eq_true rfl) (roomy_small (Nat.le_of_ble_eq_true rfl) (by decide)) rfl rfl rfl (o0 ⟨rfl, rfl⟩)) ?_ | refine fw (oam rfl rfl rfl (Nat.le_of_ble_eq_true rfl) rfl rfl (roomy_small (Nat.le_of_ble_eq_true rfl) (by decide)) rfl (o0 ⟨rfl, rfl⟩)) ?_ | refine fw (oak rfl rfl rfl rfl (roomy_small (Nat.le_of_ble_eq_true rfl) (by decide)) rfl (o0 ⟨rfl, rfl⟩)) ?_ | apply fn0) | refine lt' rfl ?_)
  have hwb : IntKind.i64.wrap ((0 : Int) + (b : Int)) = (b : Int) := by rw [Int.zero_add]; exact wrapN _ (by omega)
  have hwi : ([hP 1, hP 1] : List D)[b]? = some (hP 1) := by rcases (by omega : b = 0 ∨ b = 1) with rfl | rfl <;> rfl
  rw [hwb]
  (repeat first | (apply gO; first | (apply gOc; first | refine oC1t (hcl) rfl rfl rfl ?_ | refine oC1t (hno) rfl rfl rfl ?_ | refine oC1t (hmul) rfl rfl rfl ?_) | (apply gOg; first | refine oz rfl ?_ | refine og rfl (by decide) ?_ | refine of' rfl (by decide) ?_) | (apply gOp; first | refine opt rfl (by decide) rfl ?_ | refine opf rfl (by decide) rfl ?_) | refine ovx (op := .mapup _ _ _ _) rfl ?_ | refine ov1 rfl ?_ | refine oi rfl rfl (hwi) rfl ?_ | refine omk rfl rfl (Nat.le_of_ble_eq_true rfl) (roomy_small (Nat.le_of_ble_eq_true rfl) (by decide)) rfl rfl rfl ?_ | refine oam rfl rfl rfl (Nat.le_of_ble_eq_true rfl) rfl rfl (roomy_small (Nat.le_of_ble_eq_true rfl) (by decide)) rfl ?_ | refine oak rfl rfl rfl rfl (roomy_small (Nat.le_of_ble_eq_true rfl) (by decide)) rfl ?_ | apply o0) | (apply gR; first | apply rs | refine rr rfl rfl ?_ | apply rb | apply rk | apply rx | apply rl | apply rt | refine rd rfl rfl ?_ | refine rct rfl (by decide) ?_ | refine rcf rfl (by decide) ?_) | (apply gK; first | apply ks | apply kb | apply kl | apply xb | apply xs | apply xl | refine xo (by decide) ?_ | apply kq) | (apply gF; first | (apply gFc; first | refine fw (oC1t (hcl) rfl rfl rfl (o0 ⟨rfl, rfl⟩)) ?_ | refine fw (oC1t (hno) rfl rfl rfl (o0 ⟨rfl, rfl⟩)) ?_ | refine fw (oC1t (hmul) rfl rfl rfl (o0 ⟨rfl, rfl⟩)) ?_) | (apply gFg; first | refine fz' rfl ?_ | refine fg rfl (by decide) rfl ?_ | refine ff rfl (by decide) ?_ | refine fw (og rfl (by decide) (oC1t (hcl) rfl rfl rfl (o0 ⟨rfl, rfl⟩))) ?_ | refine fw (og rfl (by decide) (oC1t (hno) rfl rfl rfl (o0 ⟨rfl, rfl⟩))) ?_ | refine fw (og rfl (by decide) (oC1t (hmul) rfl rfl rfl (o0 ⟨rfl, rfl⟩))) ?_ | refine fw (og rfl (by decide) (oi rfl rfl (hwi) rfl (o0 ⟨rfl, rfl⟩))) ?_) | (apply gFp; first | refine fpt rfl (by decide) rfl ?_ | refine fpf rfl (by decide) rfl ?_) | refine fw (ovx (op := .mapup _ _ _ _) rfl (o0 ⟨rfl, rfl⟩)) ?_ | refine fw (ov1 rfl (o0 ⟨rfl, rfl⟩)) ?_ | refine fi rfl rfl (hwi) rfl ?_ | refine fw (omk rfl rfl (Nat.le_of_ble_eq_true rfl) (roomy_small (Nat.le_of_ble_eq_true rfl) (by decide)) rfl rfl rfl (o0 ⟨rfl, rfl⟩)) ?_ | refine fw (oam rfl rfl rfl (Nat.le_of_ble_eq_true rfl) rfl rfl (roomy_small (Nat.le_of_ble_eq_true rfl) (by decide)) rfl (o0 ⟨rfl, rfl⟩)) ?_ | refine fw (oak rfl rfl rfl rfl (roomy_small (Nat.le_of_ble_eq_true rfl) (by decide)) rfl (o0 ⟨rfl, rfl⟩)) ?_ | apply fn0) | refine lt' rfl ?_)
  have hw : IntKind.i64.wrap ((i : Int) + 1) = ((i + 1 : Nat) : Int) := by rw [show (i : Int) + 1 = ((i + 1 : Nat) : Int) by omega]; exact wrapN _ (by omega)
  rw [hw]
  have hch : (chR (c :: cs)).take (cs.length + 1) ++ [[nV i, nV b]] = chR (c :: cs ++ [(i, b)]) := by
    rw [List.take_of_length_le (by simp [chR])]; simp [chR]
  have hE : stE N (c :: cs ++ [(i, b)]) b (i + 1) v' j' ps' m' = some (runB N (.ms 7 (cs.length + 1) 0 (cs.length + 1 + 1)) (hP (cs.length + 1 + 1))) :: some (.rows 0 false 1 [[nV b]]) :: some (.rows 0 false 1 [[nV (i + 1)]]) :: some (.rows 0 false 1 [[.ms 5 v' 0 j']]) :: some (.rows 0 false 1 [[.ms 6 v' 0 j']]) :: some (.rows v' false 1 (pR ps')) :: some (.rows v' false 1 (lR m')) :: [some (.rows (cs.length + 1) false 2 (chR (c :: cs ++ [(i, b)])))] := by
    simp [stE, chV, chS]
  rw [hE] at h
  refine hdp (ids := [0, 1, 2, 3, 4, 5, 6, 7]) rfl ((gc_tab (t := [some [7, 1, 2, 3, 4], some [], some [], some [5], some [6], some [], some [], some [], some [], none]) ?_ 7 _).trans rfl) rfl ?_ h
  · show [some [7, 1, 2, 3, 4], some [], some [], some [5], some [6], some (refsR (pR ps')), some (refsR (lR m')), some (refsR ((chR (c :: cs)).take (cs.length + 1) ++ [[nV i, nV b]])), some [], none] = _
    rw [refsR_pR, refsR_lR, hch, refsR_chR]
  · show some (runB N (.ms 7 (cs.length + 1) 0 (cs.length + 1 + 1)) (hP (cs.length + 1 + 1))) :: some (.rows 0 false 1 [[nV b]]) :: some (.rows 0 false 1 [[nV (i + 1)]]) :: some (.rows 0 false 1 [[.ms 5 v' 0 j']]) :: some (.rows 0 false 1 [[.ms 6 v' 0 j']]) :: some (.rows v' false 1 ((pR ps').map (renL _))) :: some (.rows v' false 1 ((lR m').map (renL _))) :: [some (.rows (cs.length + 1) false 2 (((chR (c :: cs)).take (cs.length + 1) ++ [[nV i, nV b]]).map (renL _)))] = _
    rw [ren_pR, ren_lR, hch, ren_chR]
theorem exec0 {N b v j m v' j' m' st : Nat} {ps ps' : List Nat} {K : List Fr} {Q : Out → Env → Store → Prop} (hi : 0 < N) (hN : N ≤ 16) (hb : b < 2)
    (hcl : Ret VP (.fn 66) [.d cellB, nV b] [] (nV b) []) (hno : Ret VP (.fn 68) [.d (hP 1)] [] (.d (.tuple [hP 1, .int .i64 0])) []) (hmul : Ret VP (.fn 110) [.d (hP 0), .d (hP 1)] [] (.d (hP 1)) [])
    (hpk : Ret VP (.fn 39) [.d (cmdD 0), .ptr 0 0 0 0, .ptr 1 0 0 0, .ptr 2 0 0 0] (stK 0 v j ps m) (.d (.tuple [.int .i64 b, .int .i64 0])) (stK 1 v' j' ps' m'))
    (h : Head VP 7 [0, 21, 22, 23] c67_103 [.ptr 0 0 0 0, .d (.slice (bodyD N)), nV N, nV 1] (stE N [(0, b)] b 1 v' j' ps' m') K Q) :
    Head VP 7 [0, 21, 22, 23] c67_103 [.ptr 0 0 0 0, .d (.slice (bodyD N)), nV N, nV 0] (stE N [] st 0 v j ps m) K Q := by
  have hlt : decide ((0 : Int) < (N : Int)) = true := by simp; omega
  have hg := bodyD_get hi
  unfold Head
  (repeat first | (apply gO; first | (apply gOg; first | refine oz rfl ?_ | refine og rfl (hlt) ?_ | refine of' rfl (hlt) ?_ | refine og rfl (by decide) ?_ | refine of' rfl (by decide) ?_) | (apply gOp; first | refine opt rfl (hlt) rfl ?_ | refine opf rfl (hlt) rfl ?_ | refine opt rfl (by decide) rfl ?_ | refine opf rfl (by decide) rfl ?_) | refine ovx (op := .mapup _ _ _ _) rfl ?_ | refine ov1 rfl ?_ | refine oi rfl rfl (hg) rfl ?_ | refine omk rfl rfl (Nat.le_of_ble_eq_true rfl) (roomy_small (Nat.le_of_ble_eq_true rfl) (by decide)) rfl rfl rfl ?_ | refine oam rfl rfl rfl (Nat.le_of_ble_eq_true rfl) rfl rfl (roomy_small (Nat.le_of_ble_eq_true rfl) (by decide)) rfl ?_ | refine oak rfl rfl rfl rfl (roomy_small (Nat.le_of_ble_eq_true rfl) (by decide)) rfl ?_ | apply o0) | (apply gR; first | apply rs | refine rr rfl rfl ?_ | apply rb | apply rk | apply rx | apply rl | apply rt | refine rd rfl rfl ?_ | refine rct rfl (hlt) ?_ | refine rcf rfl (hlt) ?_ | refine rct rfl (by decide) ?_ | refine rcf rfl (by decide) ?_) | (apply gK; first | apply ks | apply kb | apply kl | apply xb | apply xs | apply xl | refine xo (by decide) ?_ | apply kq) | (apply gF; first | (apply gFg; first | refine fz' rfl ?_ | refine fg rfl (hlt) rfl ?_ | refine ff rfl (hlt) ?_ | refine fg rfl (by decide) rfl ?_ | refine ff rfl (by decide) ?_ | refine fw (og rfl (hlt) (oi rfl rfl (hg) rfl (o0 ⟨rfl, rfl⟩))) ?_ | refine fw (og rfl (by decide) (oi rfl rfl (hg) rfl (o0 ⟨rfl, rfl⟩))) ?_) | (apply gFp; first | refine fpt rfl (hlt) rfl ?_ | refine fpf rfl (hlt) rfl ?_ | refine fpt rfl (by decide) rfl ?_ | refine fpf rfl (by decide) rfl ?_) | refine fw (ovx (op := .mapup _ _ _ _) rfl (o0 ⟨rfl, rfl⟩)) ?_ | refine fw (ov1 rfl (o0 ⟨rfl, rfl⟩)) ?_ | refine fi rfl rfl (hg) rfl ?_ | refine fw (omk rfl rfl (Nat.le_of_ble_eq_true rfl) (roomy_small (Nat.le_of_ble_eq_true rfl) (by decide)) rfl rfl rfl (o0 ⟨rfl, rfl⟩)) ?_ | refine fw (oam rfl rfl rfl (Nat.le_of_ble_eq_true rfl) rfl rfl (roomy_small (Nat.le_of_ble_eq_true rfl) (by decide)) rfl (o0 ⟨rfl, rfl⟩)) ?_ | refine fw (oak rfl rfl rfl rfl (roomy_small (Nat.le_of_ble_eq_true rfl) (by decide)) rfl (o0 ⟨rfl, rfl⟩)) ?_ | apply fn0) | refine lt' rfl ?_)
  refine fw (oVp (ids := [2, 3, 4, 5, 6]) (s2 := some (runB N .nils (hP 0)) :: some (.rows 0 false 1 [[nV st]]) :: some (.rows 0 false 1 [[nV 1]]) :: some (.rows 0 false 1 [[.ms 5 v' 0 j']]) :: some (.rows 0 false 1 [[.ms 6 v' 0 j']]) :: some (.rows v' false 1 (pR ps')) :: some (.rows v' false 1 (lR m')) :: [some (boxB 0)]) rfl hpk rfl
    ((reach_of (t := [some [1, 2, 3, 4], some [], some [], some [5], some [6], some [], some [], some []]) ?_ _ _ _).trans rfl) rfl rfl ?_ rfl rfl ?_ (o0 ⟨rfl, rfl⟩)) ?_
  · show [some [1, 2, 3, 4], some [], some [], some [5], some [6], some (refsR (pR ps)), some (refsR (lR m)), some []] = _
    rw [refsR_pR, refsR_lR]
  · show [some (Blk.rows 0 false 1 [[nV 0]]), some (.rows 0 false 1 [[.ms 3 v 0 j]]), some (.rows 0 false 1 [[.ms 4 v 0 j]]), some (.rows v false 1 ((pR ps).map (renL _))), some (.rows v false 1 ((lR m).map (renL _)))] = _
    rw [ren_pR, ren_lR]; rfl
  · show some (runB N .nils (hP 0)) :: some (.rows 0 false 1 [[nV st]]) :: some (.rows 0 false 1 [[nV 1]]) :: some (.rows 0 false 1 [[.ms 5 v' 0 j']]) :: some (.rows 0 false 1 [[.ms 6 v' 0 j']]) :: some (.rows v' false 1 ((pR ps').map (renL _))) :: some (.rows v' false 1 ((lR m').map (renL _))) :: [some (boxB 0)] = _
    rw [ren_pR, ren_lR]
  (repeat first | (apply gO; first | (apply gOg; first | refine oz rfl ?_ | refine og rfl (by decide) ?_ | refine of' rfl (by decide) ?_) | (apply gOp; first | refine opt rfl (by decide) rfl ?_ | refine opf rfl (by decide) rfl ?_) | refine ovx (op := .mapup _ _ _ _) rfl ?_ | refine ov1 rfl ?_ | refine omk rfl rfl (Nat.le_of_ble_eq_true rfl) (roomy_small (Nat.le_of_ble_eq_true rfl) (by decide)) rfl rfl rfl ?_ | refine oam rfl rfl rfl (Nat.le_of_ble_eq_true rfl) rfl rfl (roomy_small (Nat.le_of_ble_eq_true rfl) (by decide)) rfl ?_ | refine oak rfl rfl rfl rfl (roomy_small (Nat.le_of_ble_eq_true rfl) (by decide)) rfl ?_ | apply o0) | (apply gR; first | apply rs | refine rr rfl rfl ?_ | apply rb | apply rk | apply rx | apply rl | apply rt | refine rd rfl rfl ?_ | refine rct rfl (by decide) ?_ | refine rcf rfl (by decide) ?_) | (apply gK; first | apply ks | apply kb | apply kl | apply xb | apply xs | apply xl | refine xo (by decide) ?_ | apply kq) | (apply gF; first | (apply gFg; first | refine fz' rfl ?_ | refine fg rfl (by decide) rfl ?_ | refine ff rfl (by decide) ?_) | (apply gFp; first | refine fpt rfl (by decide) rfl ?_ | refine fpf rfl (by decide) rfl ?_) | refine fw (ovx (op := .mapup _ _ _ _) rfl (o0 ⟨rfl, rfl⟩)) ?_ | refine fw (ov1 rfl (o0 ⟨rfl, rfl⟩)) ?_ | refine fw (omk rfl rfl (Nat.le_of_ble_eq_true rfl) (roomy_small (Nat.le_of_ble_eq_true rfl) (by decide)) rfl rfl rfl (o0 ⟨rfl, rfl⟩)) ?_ | refine fw (oam rfl rfl rfl (Nat.le_of_ble_eq_true rfl) rfl rfl (roomy_small (Nat.le_of_ble_eq_true rfl) (by decide)) rfl (o0 ⟨rfl, rfl⟩)) ?_ | refine fw (oak rfl rfl rfl rfl (roomy_small (Nat.le_of_ble_eq_true rfl) (by decide)) rfl (o0 ⟨rfl, rfl⟩)) ?_ | apply fn0) | refine lt' rfl ?_)
  have hwb : IntKind.i64.wrap ((0 : Int) + (b : Int)) = (b : Int) := by rw [Int.zero_add]; exact wrapN _ (by omega)
  have hwi : ([hP 1, hP 1] : List D)[b]? = some (hP 1) := by rcases (by omega : b = 0 ∨ b = 1) with rfl | rfl <;> rfl
  rw [hwb]
  (repeat first | (apply gO; first | (apply gOc; first | refine oC1t (hcl) rfl rfl rfl ?_ | refine oC1t (hno) rfl rfl rfl ?_ | refine oC1t (hmul) rfl rfl rfl ?_) | (apply gOg; first | refine oz rfl ?_ | refine og rfl (by decide) ?_ | refine of' rfl (by decide) ?_) | (apply gOp; first | refine opt rfl (by decide) rfl ?_ | refine opf rfl (by decide) rfl ?_) | refine ovx (op := .mapup _ _ _ _) rfl ?_ | refine ov1 rfl ?_ | refine oi rfl rfl (hwi) rfl ?_ | refine omk rfl rfl (Nat.le_of_ble_eq_true rfl) (roomy_small (Nat.le_of_ble_eq_true rfl) (by decide)) rfl rfl rfl ?_ | refine oam rfl rfl rfl (Nat.le_of_ble_eq_true rfl) rfl rfl (roomy_small (Nat.le_of_ble_eq_true rfl) (by decide)) rfl ?_ | refine oak rfl rfl rfl rfl (roomy_small (Nat.le_of_ble_eq_true rfl) (by decide)) rfl ?_ | apply o0) | (apply gR; first | apply rs | refine rr rfl rfl ?_ | apply rb | apply rk | apply rx | apply rl | apply rt | refine rd rfl rfl ?_ | refine rct rfl (by decide) ?_ | refine rcf rfl (by decide) ?_) | (apply gK; first | apply ks | apply kb | apply kl | apply xb | apply xs | apply xl | refine xo (by decide) ?_ | apply kq) | (apply gF; first | (apply gFc; first | refine fw (oC1t (hcl) rfl rfl rfl (o0 ⟨rfl, rfl⟩)) ?_ | refine fw (oC1t (hno) rfl rfl rfl (o0 ⟨rfl, rfl⟩)) ?_ | refine fw (oC1t (hmul) rfl rfl rfl (o0 ⟨rfl, rfl⟩)) ?_) | (apply gFg; first | refine fz' rfl ?_ | refine fg rfl (by decide) rfl ?_ | refine ff rfl (by decide) ?_ | refine fw (og rfl (by decide) (oC1t (hcl) rfl rfl rfl (o0 ⟨rfl, rfl⟩))) ?_ | refine fw (og rfl (by decide) (oC1t (hno) rfl rfl rfl (o0 ⟨rfl, rfl⟩))) ?_ | refine fw (og rfl (by decide) (oC1t (hmul) rfl rfl rfl (o0 ⟨rfl, rfl⟩))) ?_ | refine fw (og rfl (by decide) (oi rfl rfl (hwi) rfl (o0 ⟨rfl, rfl⟩))) ?_) | (apply gFp; first | refine fpt rfl (by decide) rfl ?_ | refine fpf rfl (by decide) rfl ?_) | refine fw (ovx (op := .mapup _ _ _ _) rfl (o0 ⟨rfl, rfl⟩)) ?_ | refine fw (ov1 rfl (o0 ⟨rfl, rfl⟩)) ?_ | refine fi rfl rfl (hwi) rfl ?_ | refine fw (omk rfl rfl (Nat.le_of_ble_eq_true rfl) (roomy_small (Nat.le_of_ble_eq_true rfl) (by decide)) rfl rfl rfl (o0 ⟨rfl, rfl⟩)) ?_ | refine fw (oam rfl rfl rfl (Nat.le_of_ble_eq_true rfl) rfl rfl (roomy_small (Nat.le_of_ble_eq_true rfl) (by decide)) rfl (o0 ⟨rfl, rfl⟩)) ?_ | refine fw (oak rfl rfl rfl rfl (roomy_small (Nat.le_of_ble_eq_true rfl) (by decide)) rfl (o0 ⟨rfl, rfl⟩)) ?_ | apply fn0) | refine lt' rfl ?_)
  have hw : IntKind.i64.wrap (((0 : Nat) : Int) + 1) = ((1 : Nat) : Int) := wrapN 1 (by omega)
  rw [hw]
  refine hdp (ids := [0, 1, 2, 3, 4, 5, 6, 8]) rfl ((gc_tab (t := [some [8, 1, 2, 3, 4], some [], some [], some [5], some [6], some [], some [], some [], some []]) ?_ 7 _).trans rfl) rfl ?_ h
  · show [some [8, 1, 2, 3, 4], some [], some [], some [5], some [6], some (refsR (pR ps')), some (refsR (lR m')), some [], some []] = _
    rw [refsR_pR, refsR_lR]
  · show some (runB N (.ms 7 0 0 1) (hP 1)) :: some (.rows 0 false 1 [[nV b]]) :: some (.rows 0 false 1 [[nV 1]]) :: some (.rows 0 false 1 [[.ms 5 v' 0 j']]) :: some (.rows 0 false 1 [[.ms 6 v' 0 j']]) :: some (.rows v' false 1 ((pR ps').map (renL _))) :: some (.rows v' false 1 ((lR m').map (renL _))) :: [some (.rows 0 false 2 [[nV 0, nV b]])] = _
    rw [ren_pR, ren_lR]
    rfl
end Go.Proofs.YtboekhenldifhaaGreat
/- TraceLimits, a module of fair draws: the body is executed. -/
set_option linter.unusedSimpArgs false
set_option linter.unusedVariables false
namespace Go.Proofs.YtboekhenldifhaaGreat
open Go.IntWalk
attribute [local irreducible] roomy IntKind.wrap
set_option maxHeartbeats 4000000
set_option maxRecDepth 100000
/-- What the parts that see no place answer. -/
structure Known1 : Prop where
  one : Ret VP (.fn 65) [.d (.int .i64 1)] [] (.d (hP 0)) []
  outs : Ret VP (.fn 40) [.d (.agg dsL)] [] (.d bothD) []
  clamp : ∀ b, b < 2 → Ret VP (.fn 66) [.d cellB, nV b] [] (nV b) []
  norm : Ret VP (.fn 68) [.d (hP 1)] [] (.d (.tuple [hP 1, .int .i64 0])) []
  mul : ∀ i, i < 16 → Ret VP (.fn 110) [.d (hP i), .d (hP 1)] [] (.d (hP (i + 1))) []
/-- The outcome of a draw: what the places tell, and zero behind them. -/
def bk (ps : List Nat) (j k : Nat) : Nat := if k < j then ps.getD k 0 else 0
def csF (ps : List Nat) (j : Nat) : Nat → List (Nat × Nat)
  | 0 => []
  | i + 1 => csF ps j i ++ [(i, bk ps j i)]
theorem csF_length (ps : List Nat) (j : Nat) : ∀ i, (csF ps j i).length = i
  | 0 => rfl
  | i + 1 => by simp [csF, csF_length ps j i]
def psF (ps : List Nat) (j i : Nat) : List Nat := if i ≤ j then ps else ps.take j ++ List.replicate (i - j) 0
def mF (m j i : Nat) : Nat := if i ≤ j then m else i
def stI (N v j : Nat) (ps : List Nat) (m i : Nat) : Store := stE N (csF ps j i) (match i with | 0 => 0 | i + 1 => bk ps j i) i (v + (i - j)) (max j i) (psF ps j i) (mF m j i)
theorem bk_lt {ps : List Nat} {j k : Nat} (h : ∀ b ∈ ps, b < 2) : bk ps j k < 2 := by
  unfold bk
  split
  · rw [List.getD_eq_getElem?_getD]
    cases hk : ps[k]? with
    | none => simp
    | some b => exact h b (List.mem_of_getElem? hk)
  · omega
theorem pick {v j : Nat} {ps : List Nat} {m i : Nat} (T : Known1) (hj : j ≤ 16) (hi : i < 16) (hp : j ≤ ps.length) (hm : j ≤ m) (hb : ∀ b ∈ ps, b < 2) :
    Ret VP (.fn 39) [.d (cmdD i), .ptr 0 0 0 0, .ptr 1 0 0 0, .ptr 2 0 0 0] (stK i (v + (i - j)) (max j i) (psF ps j i) (mF m j i)) (.d (.tuple [.int .i64 (bk ps j i), .int .i64 0])) (stK (i + 1) (v + (i + 1 - j)) (max j (i + 1)) (psF ps j (i + 1)) (mF m j (i + 1))) := by
  by_cases h : i < j
  · have e1 : psF ps j i = ps := by rw [psF, if_pos (by omega)]
    have e2 : psF ps j (i + 1) = ps := by rw [psF, if_pos (by omega)]
    have e3 : mF m j i = m := by rw [mF, if_pos (by omega)]
    have e4 : mF m j (i + 1) = m := by rw [mF, if_pos (by omega)]
    have hg : ps[i]? = some (bk ps j i) := by
      rw [bk, if_pos h, List.getD_eq_getElem?_getD, List.getElem?_eq_getElem (by omega)]; rfl
    rw [e1, e2, e3, e4, show max j i = j by omega, show max j (i + 1) = j by omega, show i + 1 - j = i - j by omega]
    exact pickA i i (v + (i - j)) j (bk ps j i) ps m h hj hp hm hg (bk_lt hb)
  · have e0 : bk ps j i = 0 := by rw [bk, if_neg h]
    have e2 : psF ps j (i + 1) = (psF ps j i).take i ++ [0] := by
      unfold psF
      rw [if_neg (by omega)]
      by_cases hij : i = j
      · subst hij
        rw [if_pos (Nat.le_refl _), show i + 1 - i = 1 by omega]; rfl
      · have hle : (ps.take j ++ List.replicate (i - j) 0).take i = ps.take j ++ List.replicate (i - j) 0 := List.take_of_length_le (by rw [List.length_append, List.length_take, List.length_replicate]; omega)
        rw [if_neg (by omega), hle, show i + 1 - j = i - j + 1 by omega, List.replicate_succ', List.append_assoc]
    have e4 : mF m j (i + 1) = i + 1 := by rw [mF, if_neg (by omega)]
    rw [e0, e2, e4, show max j i = i by omega, show max j (i + 1) = i + 1 by omega, show v + (i + 1 - j) = v + (i - j) + 1 by omega]
    refine pickB T.outs i (v + (i - j)) i (psF ps j i) (mF m j i) hi ?_ ?_
    · unfold psF; split
      · omega
      · simp; omega
    · unfold mF; split <;> omega
theorem exec_loop {N v j : Nat} {ps : List Nat} {m : Nat} (T : Known1) {K : List Fr} {Q : Out → Env → Store → Prop} (h1 : 0 < N) (hN : N ≤ 16) (hj : j ≤ 16) (hp : j ≤ ps.length) (hm : j ≤ m) (hb : ∀ b ∈ ps, b < 2)
    (hQ : ∀ e, cont VP 7 K Q (.exit 0) e (stI N v j ps m N)) : ∀ d i, i + d = N → Head VP 7 [0, 21, 22, 23] c67_103 [.ptr 0 0 0 0, .d (.slice (bodyD N)), nV N, nV i] (stI N v j ps m i) K Q := by
  intro d
  induction d with
  | zero =>
    intro i hi
    have hf : decide ((i : Int) < (N : Int)) = false := by simp; omega
    obtain rfl : i = N := by omega
    cases i with
    | zero => omega
    | succ i =>
      have hl := csF_length ps j (i + 1)
      unfold stI at hQ ⊢
      simp only at hQ ⊢
      generalize hc : csF ps j (i + 1) = l at hl hQ ⊢
      cases l with
      | nil => simp at hl
      | cons c cs =>
        unfold Head
        (repeat first | (apply gO; first | (apply gOg; first | refine oz rfl ?_ | refine og rfl (hf) ?_ | refine of' rfl (hf) ?_ | refine og rfl (by decide) ?_ | refine of' rfl (by decide) ?_) | (apply gOp; first | refine opt rfl (hf) rfl ?_ | refine opf rfl (hf) rfl ?_ | refine opt rfl (by decide) rfl ?_ | refine opf rfl (by decide) rfl ?_) | refine ovx (op := .mapup _ _ _ _) rfl ?_ | refine ov1 rfl ?_ | refine omk rfl rfl (Nat.le_of_ble_eq_true rfl) (roomy_small (Nat.le_of_ble_eq_true rfl) (by decide)) rfl rfl rfl ?_ | refine oam rfl rfl rfl (Nat.le_of_ble_eq_true rfl) rfl rfl (roomy_small (Nat.le_of_ble_eq_true rfl) (by decide)) rfl ?_ | refine oak rfl rfl rfl rfl (roomy_small (Nat.le_of_ble_eq_true rfl) (by decide)) rfl ?_ | apply o0) | (apply gR; first | apply rs | refine rr rfl rfl ?_ | apply rb | apply rk | apply rx | apply rl | apply rt | refine rd rfl rfl ?_ | refine rct rfl (hf) ?_ | refine rcf rfl (hf) ?_ | refine rct rfl (by decide) ?_ | refine rcf rfl (by decide) ?_) | (apply gK; first | apply ks | apply kb | apply kl | apply xb | apply xs | apply xl | refine xo (by decide) ?_ | apply kq) | (apply gF; first | (apply gFg; first | refine fz' rfl ?_ | refine fg rfl (hf) rfl ?_ | refine ff rfl (hf) ?_ | refine fg rfl (by decide) rfl ?_ | refine ff rfl (by decide) ?_) | (apply gFp; first | refine fpt rfl (hf) rfl ?_ | refine fpf rfl (hf) rfl ?_ | refine fpt rfl (by decide) rfl ?_ | refine fpf rfl (by decide) rfl ?_) | refine fw (ovx (op := .mapup _ _ _ _) rfl (o0 ⟨rfl, rfl⟩)) ?_ | refine fw (ov1 rfl (o0 ⟨rfl, rfl⟩)) ?_ | refine fw (omk rfl rfl (Nat.le_of_ble_eq_true rfl) (roomy_small (Nat.le_of_ble_eq_true rfl) (by decide)) rfl rfl rfl (o0 ⟨rfl, rfl⟩)) ?_ | refine fw (oam rfl rfl rfl (Nat.le_of_ble_eq_true rfl) rfl rfl (roomy_small (Nat.le_of_ble_eq_true rfl) (by decide)) rfl (o0 ⟨rfl, rfl⟩)) ?_ | refine fw (oak rfl rfl rfl rfl (roomy_small (Nat.le_of_ble_eq_true rfl) (by decide)) rfl (o0 ⟨rfl, rfl⟩)) ?_ | apply fn0) | refine lt' rfl ?_)
        exact hQ _
  | succ d ih =>
    intro i hi
    have hnext := ih (i + 1) (by omega)
    cases i with
    | zero =>
      exact exec0 (by omega) hN (bk_lt hb) (T.clamp _ (bk_lt hb)) T.norm (T.mul 0 (by omega)) (pick T hj (by omega) hp hm hb) hnext
    | succ i =>
      have hl := csF_length ps j (i + 1)
      unfold stI at hnext ⊢
      simp only at hnext ⊢
      rw [show csF ps j (i + 1 + 1) = csF ps j (i + 1) ++ [(i + 1, bk ps j (i + 1))] from rfl] at hnext
      generalize hc : csF ps j (i + 1) = l at hl hnext ⊢
      cases l with
      | nil => simp at hl
      | cons c cs =>
        refine exec1 c cs (by omega) hN (by simpa using hl) (bk_lt hb) (T.clamp _ (bk_lt hb)) T.norm (T.mul _ (by simp at hl; omega)) (pick T hj (by omega) hp hm hb) hnext
/-- The body of a module of fair draws. -/
theorem execute {N v j : Nat} {ps : List Nat} {m : Nat} (T : Known1) (h1 : 0 < N) (hN : N ≤ 16) (hj : j ≤ 16) (hp : j ≤ ps.length) (hm : j ≤ m) (hb : ∀ b ∈ ps, b < 2) :
    Ret VP (.fn 67) [.ptr 0 0 0 0, .d (.slice (bodyD N))] (stI N v j ps m 0) (.d (.bool true)) (stI N v j ps m N) := by
  have hloop : ∀ (K : List Fr) (Q : Out → Env → Store → Prop), (∀ e, cont VP 7 K Q (.exit 0) e (stI N v j ps m N)) → Head VP 7 [0, 21, 22, 23] c67_103 [.ptr 0 0 0 0, .d (.slice (bodyD N)), nV N, nV 0] (stI N v j ps m 0) K Q := fun K Q hQ => exec_loop (K := K) (Q := Q) T h1 hN hj hp hm hb hQ N 0 (by omega)
  have hlen : (bodyD N).length = N := by simp [bodyD]
  refine ret_of rfl rfl (r0 ?_)
  (repeat first | (apply gO; first | (apply gOg; first | refine oz rfl ?_ | refine og rfl (by decide) ?_ | refine of' rfl (by decide) ?_) | (apply gOp; first | refine opt rfl (by decide) rfl ?_ | refine opf rfl (by decide) rfl ?_) | refine ovx (op := .mapup _ _ _ _) rfl ?_ | refine ov1 rfl ?_ | refine omk rfl rfl (Nat.le_of_ble_eq_true rfl) (roomy_small (Nat.le_of_ble_eq_true rfl) (by decide)) rfl rfl rfl ?_ | refine oam rfl rfl rfl (Nat.le_of_ble_eq_true rfl) rfl rfl (roomy_small (Nat.le_of_ble_eq_true rfl) (by decide)) rfl ?_ | refine oak rfl rfl rfl rfl (roomy_small (Nat.le_of_ble_eq_true rfl) (by decide)) rfl ?_ | apply o0) | (apply gR; first | apply rs | refine rr rfl rfl ?_ | apply rb | apply rk | apply rx | apply rl | apply rt | refine rd rfl rfl ?_ | refine rct rfl (by decide) ?_ | refine rcf rfl (by decide) ?_) | (apply gK; first | apply ks | apply kb | apply kl | apply xb | apply xs | apply xl | refine xo (by decide) ?_ | apply kq) | (apply gF; first | (apply gFg; first | refine fz' rfl ?_ | refine fg rfl (by decide) rfl ?_ | refine ff rfl (by decide) ?_) | (apply gFp; first | refine fpt rfl (by decide) rfl ?_ | refine fpf rfl (by decide) rfl ?_) | refine fw (ovx (op := .mapup _ _ _ _) rfl (o0 ⟨rfl, rfl⟩)) ?_ | refine fw (ov1 rfl (o0 ⟨rfl, rfl⟩)) ?_ | refine fw (omk rfl rfl (Nat.le_of_ble_eq_true rfl) (roomy_small (Nat.le_of_ble_eq_true rfl) (by decide)) rfl rfl rfl (o0 ⟨rfl, rfl⟩)) ?_ | refine fw (oam rfl rfl rfl (Nat.le_of_ble_eq_true rfl) rfl rfl (roomy_small (Nat.le_of_ble_eq_true rfl) (by decide)) rfl (o0 ⟨rfl, rfl⟩)) ?_ | refine fw (oak rfl rfl rfl rfl (roomy_small (Nat.le_of_ble_eq_true rfl) (by decide)) rfl (o0 ⟨rfl, rfl⟩)) ?_ | apply fn0) | refine lt' rfl ?_)
  rw [hlen]
  have k7 : List.length (stI N v j ps m 0) = 7 := rfl
  rw [k7]
  refine hdp (ids := [0, 1, 2, 3, 4, 5, 6]) rfl ((gc_tab (t := [some [1, 2, 3, 4], some [], some [], some [5], some [6], some [], some []]) ?_ 7 _).trans rfl) rfl ?_ (hloop _ _ fun e => ?_)
  · show [some [1, 2, 3, 4], some [], some [], some [5], some [6], some (refsR (pR _)), some (refsR (lR _))] = _
    rw [refsR_pR, refsR_lR]
  · show some (runB N .nils (hP 0)) :: some (.rows 0 false 1 [[nV 0]]) :: some (.rows 0 false 1 [[nV 0]]) :: some (.rows 0 false 1 [[.ms 5 (v + (0 - j)) 0 (max j 0)]]) :: some (.rows 0 false 1 [[.ms 6 (v + (0 - j)) 0 (max j 0)]]) :: some (.rows (v + (0 - j)) false 1 ((pR (psF ps j 0)).map (renL _))) :: [some (.rows (v + (0 - j)) false 1 ((lR (mF m j 0)).map (renL _)))] = stI N v j ps m 0
    rw [ren_pR, ren_lR]; rfl
  · obtain ⟨i, rfl⟩ : ∃ i, N = i + 1 := ⟨N - 1, by omega⟩
    have hl := csF_length ps j (i + 1)
    unfold stI
    simp only
    generalize hc : csF ps j (i + 1) = l at hl ⊢
    cases l with
    | nil => simp at hl
    | cons c cs =>
      (repeat first | (apply gO; first | (apply gOg; first | refine oz rfl ?_ | refine og rfl (by decide) ?_ | refine of' rfl (by decide) ?_) | (apply gOp; first | refine opt rfl (by decide) rfl ?_ | refine opf rfl (by decide) rfl ?_) | refine ovx (op := .mapup _ _ _ _) rfl ?_ | refine ov1 rfl ?_ | refine omk rfl rfl (Nat.le_of_ble_eq_true rfl) (roomy_small (Nat.le_of_ble_eq_true rfl) (by decide)) rfl rfl rfl ?_ | refine oam rfl rfl rfl (Nat.le_of_ble_eq_true rfl) rfl rfl (roomy_small (Nat.le_of_ble_eq_true rfl) (by decide)) rfl ?_ | refine oak rfl rfl rfl rfl (roomy_small (Nat.le_of_ble_eq_true rfl) (by decide)) rfl ?_ | apply o0) | (apply gR; first | apply rs | refine rr rfl rfl ?_ | apply rb | apply rk | apply rx | apply rl | apply rt | refine rd rfl rfl ?_ | refine rct rfl (by decide) ?_ | refine rcf rfl (by decide) ?_) | (apply gK; first | apply ks | apply kb | apply kl | apply xb | apply xs | apply xl | refine xo (by decide) ?_ | apply kq) | (apply gF; first | (apply gFg; first | refine fz' rfl ?_ | refine fg rfl (by decide) rfl ?_ | refine ff rfl (by decide) ?_) | (apply gFp; first | refine fpt rfl (by decide) rfl ?_ | refine fpf rfl (by decide) rfl ?_) | refine fw (ovx (op := .mapup _ _ _ _) rfl (o0 ⟨rfl, rfl⟩)) ?_ | refine fw (ov1 rfl (o0 ⟨rfl, rfl⟩)) ?_ | refine fw (omk rfl rfl (Nat.le_of_ble_eq_true rfl) (roomy_small (Nat.le_of_ble_eq_true rfl) (by decide)) rfl rfl rfl (o0 ⟨rfl, rfl⟩)) ?_ | refine fw (oam rfl rfl rfl (Nat.le_of_ble_eq_true rfl) rfl rfl (roomy_small (Nat.le_of_ble_eq_true rfl) (by decide)) rfl (o0 ⟨rfl, rfl⟩)) ?_ | refine fw (oak rfl rfl rfl rfl (roomy_small (Nat.le_of_ble_eq_true rfl) (by decide)) rfl (o0 ⟨rfl, rfl⟩)) ?_ | apply fn0) | refine lt' rfl ?_)
      refine fin_gc (ids := [0, 1, 2, 3, 4, 5, 6, 7]) rfl rfl ((gc_tab (t := [some [7, 1, 2, 3, 4], some [], some [], some [5], some [6], some [], some [], some []]) ?_ 7 _).trans rfl) ?_
      · show [some [7, 1, 2, 3, 4], some [], some [], some [5], some [6], some (refsR (pR _)), some (refsR (lR _)), some (refsR (chR (c :: cs)))] = _
        rw [refsR_pR, refsR_lR, refsR_chR]
      · show some (runB (i + 1) (.ms 7 cs.length 0 (cs.length + 1)) (hP (cs.length + 1))) :: some (.rows 0 false 1 [[nV (bk ps j i)]]) :: some (.rows 0 false 1 [[nV (i + 1)]]) :: some (.rows 0 false 1 [[.ms 5 (v + (i + 1 - j)) 0 (max j (i + 1))]]) :: some (.rows 0 false 1 [[.ms 6 (v + (i + 1 - j)) 0 (max j (i + 1))]]) :: some (.rows (v + (i + 1 - j)) false 1 ((pR (psF ps j (i + 1))).map (renL _))) :: some (.rows (v + (i + 1 - j)) false 1 ((lR (mF m j (i + 1))).map (renL _))) :: [some (.rows cs.length false 2 ((chR (c :: cs)).map (renL _)))] = _
        rw [ren_pR, ren_lR, ren_chR]; rfl
end Go.Proofs.YtboekhenldifhaaGreat
/- TraceLimits, a module of fair draws: a run that follows places. -/
set_option linter.unusedSimpArgs false
set_option linter.unusedVariables false
namespace Go.Proofs.YtboekhenldifhaaGreat
open Go.IntWalk
attribute [local irreducible] roomy IntKind.wrap
set_option maxHeartbeats 4000000
set_option maxRecDepth 100000
def modL (N : Nat) : List D := [.int .i64 0, .slice [cellB], .slice [], .slice [], .slice (bodyD N), .slice [.int .i64 0], .int .i64 1, .int .i64 0, .int .i64 0, .int .i64 0, .slice []]
def modD (N : Nat) : D := .agg (modL N)
def pairD (p : Nat × Nat) : D := .agg [.int .i64 (p.1 : Int), .int .i64 (p.2 : Int)]
def traceL (N : Nat) (ps : List Nat) (j : Nat) : List D := [.slice ((csF ps j N).map pairD), hP N, .slice [.int .i64 ((match N with | 0 => 0 | i + 1 => bk ps j i : Nat) : Int)], .int .i64 1]
theorem chR_rows (cs : List (Nat × Nat)) : chR cs = rowsV (cs.map pairD) := by simp [chR, rowsV, pairD, D.cells]
theorem toD_trace {s : Store} {a b v k : Nat} {ro : Bool} {es : List D} {mass : D} {x y z : Int} (h9 : getB s a = some (.rows v ro 2 (rowsV es))) (hk : k = es.length) (ho : es.all cellsOk = true) (h8 : getB s b = some (.rows 0 false 1 [[.d (.int .i64 x)]])) :
    toD s depthD (.tuple [.agg [.ms a v 0 k, .d mass, .ms b 0 0 1, .d (.int .i64 y)], .d (.int .i64 z)]) = some (.tuple [.agg [.slice es, mass, .slice [.int .i64 x], .int .i64 y], .int .i64 z], [a, b]) := by
  have h1 : toD s 28 (.ms a v 0 k) = some (.slice es, [a]) := toD_ms (n := 26) h9 hk ho
  have h2 : toD s 28 (.ms b 0 0 1) = some (.slice [.int .i64 x], [b]) := toD_ms (n := 26) (es := [.int .i64 x]) h8 rfl rfl
  show (cellsDW (toD s 29) [.agg [.ms a v 0 k, .d mass, .ms b 0 0 1, .d (.int .i64 y)], .d (.int .i64 z)]).map (fun (es, a) => (D.tuple es, a)) = _
  have h3 : toD s 29 (.agg [.ms a v 0 k, .d mass, .ms b 0 0 1, .d (.int .i64 y)]) = some (.agg [.slice es, mass, .slice [.int .i64 x], .int .i64 y], [a, b]) := by
    show (cellsDW (toD s 28) [.ms a v 0 k, .d mass, .ms b 0 0 1, .d (.int .i64 y)]).map (fun (es, a) => (D.agg es, a)) = _
    simp only [cellsDW, h1, h2]
    rfl
  simp only [cellsDW, h3]
  rfl
/-- The record of a run, as follow has it. -/
def runG (N : Nat) (ch : V) (mass : D) : Blk := .rows 0 false 17 [[.d (.int .i64 0), .d (.slice [cellB]), .d (.slice []), .d (.slice []), .d (.slice (bodyD N)), .d (.slice [.int .i64 0]), .d (.int .i64 1), .d (.int .i64 0), .d (.int .i64 0), .d (.int .i64 0), .d (.slice []), ch, .d mass, .ms 8 0 0 1, .d (.int .i64 1), .func 39 [] [.ptr 0 0 0 0, .ptr 1 0 0 0, .ptr 2 0 0 0], .d (.int .i64 0)]]
def stL (N n v j : Nat) (ps : List Nat) (m : Nat) (run : Blk) (st : Nat) : Store := some (.rows 0 false 1 [[nV n]]) :: some (.rows 0 false 1 [[.ms 3 v 0 j]]) :: some (.rows 0 false 1 [[.ms 4 v 0 j]]) :: some (.rows v false 1 (pR ps)) :: some (.rows v false 1 (lR m)) :: some (.rows 0 false 11 [(modL N).map V.d]) :: some (.rows 0 false 4 [[.nils, .nils, .nils, intV 0]]) :: some run :: [some (.rows 0 false 1 [[nV st]])]
theorem follow {N v j : Nat} {ps : List Nat} {m : Nat} (T : Known1) (h1 : 0 < N) (hN : N ≤ 16) (hj : j ≤ 16) (hp : j ≤ ps.length) (hm : j ≤ m) (hb : ∀ b ∈ ps, b < 2) :
    Ret VP (.fn 38) [.d (modD N), .func 39 [] [.ptr 0 0 0 0, .ptr 1 0 0 0, .ptr 2 0 0 0]] (stK 0 v j ps m) (.d (.tuple [.agg (traceL N ps j), .int .i64 0])) (stK N (v + (N - j)) (max j N) (psF ps j N) (mF m j N)) := by
  have hex := execute (v := v) T h1 hN hj hp hm hb
  have hone := T.one
  have hcl := T.clamp 0 (by omega)
  refine ret_of rfl rfl (r0 ?_)
  (repeat first | (apply gO; first | (apply gOc; first | refine oC1t (hone) rfl rfl rfl ?_ | refine oC1t (hcl) rfl rfl rfl ?_) | (apply gOg; first | refine oz rfl ?_ | refine og rfl (by decide) ?_ | refine of' rfl (by decide) ?_) | (apply gOp; first | refine opt rfl (by decide) rfl ?_ | refine opf rfl (by decide) rfl ?_) | refine ovx (op := .mapup _ _ _ _) rfl ?_ | refine ov1 rfl ?_ | refine omk rfl rfl (Nat.le_of_ble_eq_true rfl) (roomy_small (Nat.le_of_ble_eq_true rfl) (by decide)) rfl rfl rfl ?_ | refine oam rfl rfl rfl (Nat.le_of_ble_eq_true rfl) rfl rfl (roomy_small (Nat.le_of_ble_eq_true rfl) (by decide)) rfl ?_ | refine oak rfl rfl rfl rfl (roomy_small (Nat.le_of_ble_eq_true rfl) (by decide)) rfl ?_ | apply o0) | (apply gR; first | apply rs | refine rr rfl rfl ?_ | apply rb | apply rk | apply rx | apply rl | apply rt | refine rd rfl rfl ?_ | refine rct rfl (by decide) ?_ | refine rcf rfl (by decide) ?_) | (apply gK; first | apply ks | apply kb | apply kl | apply xb | apply xs | apply xl | refine xo (by decide) ?_ | apply kq) | (apply gF; first | (apply gFc; first | refine fw (oC1t (hone) rfl rfl rfl (o0 ⟨rfl, rfl⟩)) ?_ | refine fw (oC1t (hcl) rfl rfl rfl (o0 ⟨rfl, rfl⟩)) ?_) | (apply gFg; first | refine fz' rfl ?_ | refine fg rfl (by decide) rfl ?_ | refine ff rfl (by decide) ?_ | refine fw (og rfl (by decide) (oC1t (hone) rfl rfl rfl (o0 ⟨rfl, rfl⟩))) ?_ | refine fw (og rfl (by decide) (oC1t (hcl) rfl rfl rfl (o0 ⟨rfl, rfl⟩))) ?_) | (apply gFp; first | refine fpt rfl (by decide) rfl ?_ | refine fpf rfl (by decide) rfl ?_) | refine fw (ovx (op := .mapup _ _ _ _) rfl (o0 ⟨rfl, rfl⟩)) ?_ | refine fw (ov1 rfl (o0 ⟨rfl, rfl⟩)) ?_ | refine fw (omk rfl rfl (Nat.le_of_ble_eq_true rfl) (roomy_small (Nat.le_of_ble_eq_true rfl) (by decide)) rfl rfl rfl (o0 ⟨rfl, rfl⟩)) ?_ | refine fw (oam rfl rfl rfl (Nat.le_of_ble_eq_true rfl) rfl rfl (roomy_small (Nat.le_of_ble_eq_true rfl) (by decide)) rfl (o0 ⟨rfl, rfl⟩)) ?_ | refine fw (oak rfl rfl rfl rfl (roomy_small (Nat.le_of_ble_eq_true rfl) (by decide)) rfl (o0 ⟨rfl, rfl⟩)) ?_ | apply fn0) | refine lt' rfl ?_)
  have k5 : List.length (stK 0 v j ps m) = 5 := rfl
  rw [k5]
  refine hdp (s1 := stL N 0 v j ps m (runG N .nils (hP 0)) 0) (ids := [0, 1, 2, 3, 4, 5, 6, 7, 8]) rfl ((gc_tab (t := [some [], some [3], some [4], some [], some [], some [], some [], some [8, 0, 1, 2], some []]) ?_ 5 _).trans rfl) rfl ?_ ?_
  · show [some [], some [3], some [4], some (refsR (pR _)), some (refsR (lR _)), some [], some [], some [8, 0, 1, 2], some []] = _
    rw [refsR_pR, refsR_lR]
  · show some (.rows 0 false 1 [[nV 0]]) :: some (.rows 0 false 1 [[.ms 3 v 0 j]]) :: some (.rows 0 false 1 [[.ms 4 v 0 j]]) :: some (.rows v false 1 ((pR ps).map (renL _))) :: some (.rows v false 1 ((lR m).map (renL _))) :: some (.rows 0 false 11 [(modL N).map V.d]) :: some (.rows 0 false 4 [[.nils, .nils, .nils, intV 0]]) :: some (runG N .nils (hP 0)) :: [some (.rows 0 false 1 [[nV 0]])] = _
    rw [ren_pR, ren_lR]; rfl
  unfold Head
  (repeat first | (apply gO; first | (apply gOc; first | refine oC1t (hcl) rfl rfl rfl ?_) | (apply gOg; first | refine oz rfl ?_ | refine og rfl (by decide) ?_ | refine of' rfl (by decide) ?_) | (apply gOp; first | refine opt rfl (by decide) rfl ?_ | refine opf rfl (by decide) rfl ?_) | refine ovx (op := .mapup _ _ _ _) rfl ?_ | refine ov1 rfl ?_ | refine omk rfl rfl (Nat.le_of_ble_eq_true rfl) (roomy_small (Nat.le_of_ble_eq_true rfl) (by decide)) rfl rfl rfl ?_ | refine oam rfl rfl rfl (Nat.le_of_ble_eq_true rfl) rfl rfl (roomy_small (Nat.le_of_ble_eq_true rfl) (by decide)) rfl ?_ | refine oak rfl rfl rfl rfl (roomy_small (Nat.le_of_ble_eq_true rfl) (by decide)) rfl ?_ | apply o0) | (apply gR; first | apply rs | refine rr rfl rfl ?_ | apply rb | apply rk | apply rx | apply rl | apply rt | refine rd rfl rfl ?_ | refine rct rfl (by decide) ?_ | refine rcf rfl (by decide) ?_) | (apply gK; first | apply ks | apply kb | apply kl | apply xb | apply xs | apply xl | refine xo (by decide) ?_ | apply kq) | (apply gF; first | (apply gFc; first | refine fw (oC1t (hcl) rfl rfl rfl (o0 ⟨rfl, rfl⟩)) ?_) | (apply gFg; first | refine fz' rfl ?_ | refine fg rfl (by decide) rfl ?_ | refine ff rfl (by decide) ?_ | refine fw (og rfl (by decide) (oC1t (hcl) rfl rfl rfl (o0 ⟨rfl, rfl⟩))) ?_) | (apply gFp; first | refine fpt rfl (by decide) rfl ?_ | refine fpf rfl (by decide) rfl ?_) | refine fw (ovx (op := .mapup _ _ _ _) rfl (o0 ⟨rfl, rfl⟩)) ?_ | refine fw (ov1 rfl (o0 ⟨rfl, rfl⟩)) ?_ | refine fw (omk rfl rfl (Nat.le_of_ble_eq_true rfl) (roomy_small (Nat.le_of_ble_eq_true rfl) (by decide)) rfl rfl rfl (o0 ⟨rfl, rfl⟩)) ?_ | refine fw (oam rfl rfl rfl (Nat.le_of_ble_eq_true rfl) rfl rfl (roomy_small (Nat.le_of_ble_eq_true rfl) (by decide)) rfl (o0 ⟨rfl, rfl⟩)) ?_ | refine fw (oak rfl rfl rfl rfl (roomy_small (Nat.le_of_ble_eq_true rfl) (by decide)) rfl (o0 ⟨rfl, rfl⟩)) ?_ | apply fn0) | refine lt' rfl ?_)
  have hw1 : IntKind.i64.wrap ((0 : Int) + 1) = 1 := wrapN 1 (by omega)
  rw [hw1]
  refine hdp (s1 := stL N 0 v j ps m (runG N .nils (hP 0)) 0) (ids := [0, 1, 2, 3, 4, 5, 6, 7, 8]) rfl ((gc_tab (t := [some [], some [3], some [4], some [], some [], some [], some [], some [8, 0, 1, 2], some [], some []]) ?_ 5 _).trans rfl) rfl ?_ ?_
  · show [some [], some [3], some [4], some (refsR (pR _)), some (refsR (lR _)), some [], some [], some [8, 0, 1, 2], some [], some []] = _
    rw [refsR_pR, refsR_lR]
  · show some (.rows 0 false 1 [[nV 0]]) :: some (.rows 0 false 1 [[.ms 3 v 0 j]]) :: some (.rows 0 false 1 [[.ms 4 v 0 j]]) :: some (.rows v false 1 ((pR ps).map (renL _))) :: some (.rows v false 1 ((lR m).map (renL _))) :: some (.rows 0 false 11 [(modL N).map V.d]) :: some (.rows 0 false 4 [[.nils, .nils, .nils, intV 0]]) :: some (runG N .nils (hP 0)) :: [some (.rows 0 false 1 [[nV 0]])] = _
    rw [ren_pR, ren_lR]; rfl
  unfold Head
  (repeat first | (apply gO; first | (apply gOg; first | refine oz rfl ?_ | refine og rfl (by decide) ?_ | refine of' rfl (by decide) ?_) | (apply gOp; first | refine opt rfl (by decide) rfl ?_ | refine opf rfl (by decide) rfl ?_) | refine ovx (op := .mapup _ _ _ _) rfl ?_ | refine ov1 rfl ?_ | refine omk rfl rfl (Nat.le_of_ble_eq_true rfl) (roomy_small (Nat.le_of_ble_eq_true rfl) (by decide)) rfl rfl rfl ?_ | refine oam rfl rfl rfl (Nat.le_of_ble_eq_true rfl) rfl rfl (roomy_small (Nat.le_of_ble_eq_true rfl) (by decide)) rfl ?_ | refine oak rfl rfl rfl rfl (roomy_small (Nat.le_of_ble_eq_true rfl) (by decide)) rfl ?_ | apply o0) | (apply gR; first | apply rs | refine rr rfl rfl ?_ | apply rb | apply rk | apply rx | apply rl | apply rt | refine rd rfl rfl ?_ | refine rct rfl (by decide) ?_ | refine rcf rfl (by decide) ?_) | (apply gK; first | apply ks | apply kb | apply kl | apply xb | apply xs | apply xl | refine xo (by decide) ?_ | apply kq) | (apply gF; first | (apply gFg; first | refine fz' rfl ?_ | refine fg rfl (by decide) rfl ?_ | refine ff rfl (by decide) ?_) | (apply gFp; first | refine fpt rfl (by decide) rfl ?_ | refine fpf rfl (by decide) rfl ?_) | refine fw (ovx (op := .mapup _ _ _ _) rfl (o0 ⟨rfl, rfl⟩)) ?_ | refine fw (ov1 rfl (o0 ⟨rfl, rfl⟩)) ?_ | refine fw (omk rfl rfl (Nat.le_of_ble_eq_true rfl) (roomy_small (Nat.le_of_ble_eq_true rfl) (by decide)) rfl rfl rfl (o0 ⟨rfl, rfl⟩)) ?_ | refine fw (oam rfl rfl rfl (Nat.le_of_ble_eq_true rfl) rfl rfl (roomy_small (Nat.le_of_ble_eq_true rfl) (by decide)) rfl (o0 ⟨rfl, rfl⟩)) ?_ | refine fw (oak rfl rfl rfl rfl (roomy_small (Nat.le_of_ble_eq_true rfl) (by decide)) rfl (o0 ⟨rfl, rfl⟩)) ?_ | apply fn0) | refine lt' rfl ?_)
  have e0 : stI N v j ps m 0 = some (runB N .nils (hP 0)) :: some (.rows 0 false 1 [[nV 0]]) :: some (.rows 0 false 1 [[nV 0]]) :: some (.rows 0 false 1 [[.ms 5 v 0 j]]) :: some (.rows 0 false 1 [[.ms 6 v 0 j]]) :: some (.rows v false 1 (pR ps)) :: [some (.rows v false 1 (lR m))] := by
    unfold stI stE
    rw [show v + (0 - j) = v by omega, show max j 0 = j by omega, psF, if_pos (Nat.zero_le j), mF, if_pos (Nat.zero_le j)]
    rfl
  rw [e0] at hex
  obtain ⟨i, rfl⟩ : ∃ i, N = i + 1 := ⟨N - 1, by omega⟩
  have hl := csF_length ps j (i + 1)
  unfold stI at hex
  unfold traceL
  simp only at hex ⊢
  generalize hc : csF ps j (i + 1) = l at hl hex ⊢
  cases l with
  | nil => simp at hl
  | cons c cs =>
    have hl' : cs.length = i := by simpa using hl
    subst hl'
    generalize v + (cs.length + 1 - j) = v' at hex ⊢
    generalize max j (cs.length + 1) = j' at hex ⊢
    generalize psF ps j (cs.length + 1) = ps' at hex ⊢
    generalize mF m j (cs.length + 1) = m' at hex ⊢
    generalize bk ps j cs.length = b at hex ⊢
    refine oRp (ids := [7, 8, 0, 1, 2, 3, 4]) (s2 := stL (cs.length + 1) (cs.length + 1) v' j' ps' m' (runG (cs.length + 1) (.ms 9 cs.length 0 (cs.length + 1)) (hP (cs.length + 1))) b ++ [some (.rows cs.length false 2 (chR (c :: cs)))]) hex rfl
      ((reach_of (t := [some [], some [3], some [4], some [], some [], some [], some [], some [8, 0, 1, 2], some []]) ?_ _ _ _).trans rfl) rfl rfl ?_ rfl rfl ?_ ?_
    · show [some [], some [3], some [4], some (refsR (pR _)), some (refsR (lR _)), some [], some [], some [8, 0, 1, 2], some []] = _
      rw [refsR_pR, refsR_lR]
    · show some (runB (cs.length + 1) .nils (hP 0)) :: some (.rows 0 false 1 [[nV 0]]) :: some (.rows 0 false 1 [[nV 0]]) :: some (.rows 0 false 1 [[.ms 5 v 0 j]]) :: some (.rows 0 false 1 [[.ms 6 v 0 j]]) :: some (.rows v false 1 ((pR ps).map (renL _))) :: [some (.rows v false 1 ((lR m).map (renL _)))] = _
      rw [ren_pR, ren_lR]
    · show some (.rows 0 false 1 [[nV (cs.length + 1)]]) :: some (.rows 0 false 1 [[.ms 3 v' 0 j']]) :: some (.rows 0 false 1 [[.ms 4 v' 0 j']]) :: some (.rows v' false 1 ((pR ps').map (renL _))) :: some (.rows v' false 1 ((lR m').map (renL _))) :: some (.rows 0 false 11 [(modL (cs.length + 1)).map V.d]) :: some (.rows 0 false 4 [[.nils, .nils, .nils, intV 0]]) :: some (runG (cs.length + 1) (.ms 9 cs.length 0 (cs.length + 1)) (hP (cs.length + 1))) :: some (.rows 0 false 1 [[nV b]]) :: [some (.rows cs.length false 2 ((chR (c :: cs)).map (renL _)))] = _
      rw [ren_pR, ren_lR, ren_chR]; rfl
    (repeat first | (apply gO; first | (apply gOg; first | refine oz rfl ?_ | refine og rfl (by decide) ?_ | refine of' rfl (by decide) ?_) | (apply gOp; first | refine opt rfl (by decide) rfl ?_ | refine opf rfl (by decide) rfl ?_) | refine ovx (op := .mapup _ _ _ _) rfl ?_ | refine ov1 rfl ?_ | refine omk rfl rfl (Nat.le_of_ble_eq_true rfl) (roomy_small (Nat.le_of_ble_eq_true rfl) (by decide)) rfl rfl rfl ?_ | refine oam rfl rfl rfl (Nat.le_of_ble_eq_true rfl) rfl rfl (roomy_small (Nat.le_of_ble_eq_true rfl) (by decide)) rfl ?_ | refine oak rfl rfl rfl rfl (roomy_small (Nat.le_of_ble_eq_true rfl) (by decide)) rfl ?_ | apply o0) | (apply gR; first | apply rs | refine rr rfl rfl ?_ | apply rb | apply rk | apply rx | apply rl | apply rt | refine rd rfl rfl ?_ | refine rct rfl (by decide) ?_ | refine rcf rfl (by decide) ?_) | (apply gK; first | apply ks | apply kb | apply kl | apply xb | apply xs | apply xl | refine xo (by decide) ?_ | apply kq) | (apply gF; first | (apply gFg; first | refine fz' rfl ?_ | refine fg rfl (by decide) rfl ?_ | refine ff rfl (by decide) ?_) | (apply gFp; first | refine fpt rfl (by decide) rfl ?_ | refine fpf rfl (by decide) rfl ?_) | refine fw (ovx (op := .mapup _ _ _ _) rfl (o0 ⟨rfl, rfl⟩)) ?_ | refine fw (ov1 rfl (o0 ⟨rfl, rfl⟩)) ?_ | refine fw (omk rfl rfl (Nat.le_of_ble_eq_true rfl) (roomy_small (Nat.le_of_ble_eq_true rfl) (by decide)) rfl rfl rfl (o0 ⟨rfl, rfl⟩)) ?_ | refine fw (oam rfl rfl rfl (Nat.le_of_ble_eq_true rfl) rfl rfl (roomy_small (Nat.le_of_ble_eq_true rfl) (by decide)) rfl (o0 ⟨rfl, rfl⟩)) ?_ | refine fw (oak rfl rfl rfl rfl (roomy_small (Nat.le_of_ble_eq_true rfl) (by decide)) rfl (o0 ⟨rfl, rfl⟩)) ?_ | apply fn0) | refine lt' rfl ?_)
    refine fin_fz (x := .tuple [.agg [.slice ((c :: cs).map pairD), hP (cs.length + 1), .slice [.int .i64 b], .int .i64 1], .int .i64 0]) (xs := [.agg [.ms 9 cs.length 0 (cs.length + 1), .d (hP (cs.length + 1)), .ms 8 0 0 1, .d (.int .i64 1)], .d (.int .i64 0)]) (ids := [0, 1, 2, 3, 4]) rfl
      (toD_trace (es := (c :: cs).map pairD) (v := cs.length) (ro := false) ?_ (by simp) ?_ rfl) rfl ((gc_tab (t := [some [], some [3], some [4], some [], some [], some [], some [9, 8], some [9, 8, 0, 1, 2], some [], some []]) ?_ 5 _).trans rfl) ?_
    · show some (Blk.rows cs.length false 2 (chR (c :: cs))) = _
      rw [chR_rows]
    · rw [List.all_eq_true]
      intro x hx
      rw [List.mem_map] at hx
      obtain ⟨y, _, rfl⟩ := hx
      rfl
    · show [some [], some [3], some [4], some (refsR (pR _)), some (refsR (lR _)), some [], some [9, 8], some [9, 8, 0, 1, 2], some [], some (refsR (chR (c :: cs)))] = _
      rw [refsR_pR, refsR_lR, refsR_chR]
    · show some (Blk.rows 0 false 1 [[nV (cs.length + 1)]]) :: some (Blk.rows 0 false 1 [[.ms 3 v' 0 j']]) :: some (Blk.rows 0 false 1 [[.ms 4 v' 0 j']]) :: some (Blk.rows v' false 1 ((pR ps').map (renL _))) :: [some (Blk.rows v' false 1 ((lR m').map (renL _)))] = _
      rw [ren_pR, ren_lR]; rfl
end Go.Proofs.YtboekhenldifhaaGreat
/- TraceLimits, a module of fair draws: what is done with a trace. -/
set_option linter.unusedSimpArgs false
set_option linter.unusedVariables false
namespace Go.Proofs.YtboekhenldifhaaGreat
open Go.IntWalk
attribute [local irreducible] roomy IntKind.wrap
set_option maxHeartbeats 4000000
set_option maxRecDepth 100000
def trC (N : Nat) (t : List D × Int) : List D := [.slice t.1, hP N, .slice [.int .i64 t.2], .int .i64 1]
def trR (N : Nat) (ts : List (List D × Int)) : List (List V) := ts.map fun t => (trC N t).map V.d
def outS (b N : Nat) : List (List D × Int) → Store
  | [] => [some (.rows 0 false 1 [[.nils]])]
  | t :: ts => [some (.rows 0 false 1 [[.ms b ts.length 0 (ts.length + 1)]]), some (.rows ts.length false 4 (trR N (t :: ts)))]
theorem refsR_trR (N : Nat) (ts : List (List D × Int)) : refsR (trR N ts) = [] := by
  induction ts with
  | nil => rfl
  | cons t ts ih => simp only [trR, trC, List.map_cons, List.map_nil, refsR, refsL, refs, List.nil_append] at ih ⊢; exact ih
theorem ren_trR (f : Nat → Option Nat) (N : Nat) (ts : List (List D × Int)) : (trR N ts).map (renL f) = trR N ts := by
  have h : renB f (.rows 0 false 1 (trR N ts)) = .rows 0 false 1 (trR N ts) := renB_fix (by simp [refsB, refsR_trR])
  injection h
def envA : List (Nat × V) := [(2, .ptr 1 0 0 0), (3, .ptr 2 0 0 0), (5, .ptr 3 0 0 0)]
def lpA (st : Nat) (j : Jump) : Blk := .loop st j envA [14] c4_10 c4_18
def resS (a : V) (e : Int) : Store := [some (.rows 0 false 1 [[a]]), some (.rows 0 false 1 [[.d (.int .i64 e)]])]
theorem roundA0 (N : Nat) (t : List D × Int) : Ret VP (.round 0) [.d (.agg (trC N t))] (some (lpA 0 .none) :: (resS .nils 0 ++ outS 4 N [])) (.d (.bool true)) (some (lpA 0 .none) :: (resS .nils 0 ++ outS 4 N [t])) := by
  refine ret_round rfl rfl (r0 ?_)
  (repeat first | (apply gO; first | (apply gOg; first | refine oz rfl ?_ | refine og rfl (rfl) ?_ | refine of' rfl (rfl) ?_) | (apply gOp; first | refine opt rfl (rfl) rfl ?_ | refine opf rfl (rfl) rfl ?_) | refine ovx (op := .mapup _ _ _ _) rfl ?_ | refine ov1 rfl ?_ | refine omk rfl rfl (Nat.le_of_ble_eq_true rfl) (roomy_small (Nat.le_of_ble_eq_true rfl) (by decide)) rfl rfl rfl ?_ | refine oam rfl rfl rfl (Nat.le_of_ble_eq_true rfl) rfl rfl (roomy_small (Nat.le_of_ble_eq_true rfl) (by decide)) rfl ?_ | refine oak rfl rfl rfl rfl (roomy_small (Nat.le_of_ble_eq_true rfl) (by decide)) rfl ?_ | apply o0) | (apply gR; first | apply rs | refine rr rfl rfl ?_ | apply rb | apply rk | apply rx | apply rl | apply rt | refine rd rfl rfl ?_ | refine rct rfl (rfl) ?_ | refine rcf rfl (rfl) ?_) | (apply gK; first | apply ks | apply kb | apply kl | apply xb | apply xs | apply xl | refine xo (by decide) ?_ | apply kq) | (apply gF; first | (apply gFg; first | refine fz' rfl ?_ | refine fg rfl (rfl) rfl ?_ | refine ff rfl (rfl) ?_) | (apply gFp; first | refine fpt rfl (rfl) rfl ?_ | refine fpf rfl (rfl) rfl ?_) | refine fw (ovx (op := .mapup _ _ _ _) rfl (o0 ⟨rfl, rfl⟩)) ?_ | refine fw (ov1 rfl (o0 ⟨rfl, rfl⟩)) ?_ | refine fw (omk rfl rfl (Nat.le_of_ble_eq_true rfl) (roomy_small (Nat.le_of_ble_eq_true rfl) (by decide)) rfl rfl rfl (o0 ⟨rfl, rfl⟩)) ?_ | refine fw (oam rfl rfl rfl (Nat.le_of_ble_eq_true rfl) rfl rfl (roomy_small (Nat.le_of_ble_eq_true rfl) (by decide)) rfl (o0 ⟨rfl, rfl⟩)) ?_ | refine fw (oak rfl rfl rfl rfl (roomy_small (Nat.le_of_ble_eq_true rfl) (by decide)) rfl (o0 ⟨rfl, rfl⟩)) ?_ | apply fn0) | (apply gL; refine lh1 rfl rfl rfl rfl ?_) | refine lt' rfl ?_)
  refine ⟨rfl, _, _, _, _, _, rfl, r0 ?_⟩
  (repeat first | (apply gO; first | (apply gOg; first | refine oz rfl ?_ | refine og rfl (rfl) ?_ | refine of' rfl (rfl) ?_) | (apply gOp; first | refine opt rfl (rfl) rfl ?_ | refine opf rfl (rfl) rfl ?_) | refine ovx (op := .mapup _ _ _ _) rfl ?_ | refine ov1 rfl ?_ | refine omk rfl rfl (Nat.le_of_ble_eq_true rfl) (roomy_small (Nat.le_of_ble_eq_true rfl) (by decide)) rfl rfl rfl ?_ | refine oam rfl rfl rfl (Nat.le_of_ble_eq_true rfl) rfl rfl (roomy_small (Nat.le_of_ble_eq_true rfl) (by decide)) rfl ?_ | refine oak rfl rfl rfl rfl (roomy_small (Nat.le_of_ble_eq_true rfl) (by decide)) rfl ?_ | apply o0) | (apply gR; first | apply rs | refine rr rfl rfl ?_ | apply rb | apply rk | apply rx | apply rl | apply rt | refine rd rfl rfl ?_ | refine rct rfl (rfl) ?_ | refine rcf rfl (rfl) ?_) | (apply gK; first | apply ks | apply kb | apply kl | apply xb | apply xs | apply xl | refine xo (by decide) ?_ | apply kq) | (apply gF; first | (apply gFg; first | refine fz' rfl ?_ | refine fg rfl (rfl) rfl ?_ | refine ff rfl (rfl) ?_) | (apply gFp; first | refine fpt rfl (rfl) rfl ?_ | refine fpf rfl (rfl) rfl ?_) | refine fw (ovx (op := .mapup _ _ _ _) rfl (o0 ⟨rfl, rfl⟩)) ?_ | refine fw (ov1 rfl (o0 ⟨rfl, rfl⟩)) ?_ | refine fw (omk rfl rfl (Nat.le_of_ble_eq_true rfl) (roomy_small (Nat.le_of_ble_eq_true rfl) (by decide)) rfl rfl rfl (o0 ⟨rfl, rfl⟩)) ?_ | refine fw (oam rfl rfl rfl (Nat.le_of_ble_eq_true rfl) rfl rfl (roomy_small (Nat.le_of_ble_eq_true rfl) (by decide)) rfl (o0 ⟨rfl, rfl⟩)) ?_ | refine fw (oak rfl rfl rfl rfl (roomy_small (Nat.le_of_ble_eq_true rfl) (by decide)) rfl (o0 ⟨rfl, rfl⟩)) ?_ | apply fn0) | (apply gL; refine lh1 rfl rfl rfl rfl ?_) | refine lt' rfl ?_)
  rfl
theorem roundA1 (N : Nat) (t u : List D × Int) (ts : List (List D × Int)) (hl : ts.length + 1 < 20000) : Ret VP (.round 0) [.d (.agg (trC N t))] (some (lpA 0 .none) :: (resS .nils 0 ++ outS 4 N (u :: ts))) (.d (.bool true)) (some (lpA 0 .none) :: (resS .nils 0 ++ outS 4 N (u :: (ts ++ [t])))) := by
  have hle : ts.length + 1 ≤ (trR N (u :: ts)).length := by simp [trR]
  have hroom : roomy (ts.length + 1 + 1) 80 = true := by rw [roomy, Bool.and_eq_true, decide_eq_true_eq, decide_eq_true_eq]; omega
  have h20 : (((ts.length + 1 : Nat) : Int) == 20000) = false := by simp; omega
  refine ret_round rfl rfl (r0 ?_)
  (repeat first | (apply gO; first | (apply gOg; first | refine oz rfl ?_ | refine og rfl (rfl) ?_ | refine of' rfl (rfl) ?_) | (apply gOp; first | refine opt rfl (rfl) rfl ?_ | refine opf rfl (rfl) rfl ?_) | refine ovx (op := .mapup _ _ _ _) rfl ?_ | refine ov1 rfl ?_ | refine omk rfl rfl (Nat.le_of_ble_eq_true rfl) (roomy_small (Nat.le_of_ble_eq_true rfl) (by decide)) rfl rfl rfl ?_ | refine oam rfl rfl rfl (Nat.le_of_ble_eq_true rfl) rfl rfl (roomy_small (Nat.le_of_ble_eq_true rfl) (by decide)) rfl ?_ | refine oak rfl rfl rfl rfl (roomy_small (Nat.le_of_ble_eq_true rfl) (by decide)) rfl ?_ | apply o0) | (apply gR; first | apply rs | refine rr rfl rfl ?_ | apply rb | apply rk | apply rx | apply rl | apply rt | refine rd rfl rfl ?_ | refine rct rfl (rfl) ?_ | refine rcf rfl (rfl) ?_) | (apply gK; first | apply ks | apply kb | apply kl | apply xb | apply xs | apply xl | refine xo (by decide) ?_ | apply kq) | (apply gF; first | (apply gFg; first | refine fz' rfl ?_ | refine fg rfl (rfl) rfl ?_ | refine ff rfl (rfl) ?_) | (apply gFp; first | refine fpt rfl (rfl) rfl ?_ | refine fpf rfl (rfl) rfl ?_) | refine fw (ovx (op := .mapup _ _ _ _) rfl (o0 ⟨rfl, rfl⟩)) ?_ | refine fw (ov1 rfl (o0 ⟨rfl, rfl⟩)) ?_ | refine fw (omk rfl rfl (Nat.le_of_ble_eq_true rfl) (roomy_small (Nat.le_of_ble_eq_true rfl) (by decide)) rfl rfl rfl (o0 ⟨rfl, rfl⟩)) ?_ | refine fw (oam rfl rfl rfl (Nat.le_of_ble_eq_true rfl) rfl rfl (roomy_small (Nat.le_of_ble_eq_true rfl) (by decide)) rfl (o0 ⟨rfl, rfl⟩)) ?_ | refine fw (oak rfl rfl rfl rfl (roomy_small (Nat.le_of_ble_eq_true rfl) (by decide)) rfl (o0 ⟨rfl, rfl⟩)) ?_ | apply fn0) | (apply gL; refine lh1t rfl rfl rfl rfl ?_) | refine lt' rfl ?_)
  refine ⟨rfl, _, _, _, _, _, rfl, r0 ?_⟩
  (repeat first | (apply gO; first | (apply gOg; first | refine oz rfl ?_ | refine og rfl (h20) ?_ | refine of' rfl (h20) ?_ | refine og rfl (rfl) ?_ | refine of' rfl (rfl) ?_) | (apply gOp; first | refine opt rfl (h20) rfl ?_ | refine opf rfl (h20) rfl ?_ | refine opt rfl (rfl) rfl ?_ | refine opf rfl (rfl) rfl ?_) | refine ovx (op := .mapup _ _ _ _) rfl ?_ | refine ov1 rfl ?_ | refine omk rfl rfl (Nat.le_of_ble_eq_true rfl) (roomy_small (Nat.le_of_ble_eq_true rfl) (by decide)) rfl rfl rfl ?_ | refine oam rfl rfl rfl (Nat.le_of_ble_eq_true rfl) rfl rfl (roomy_small (Nat.le_of_ble_eq_true rfl) (by decide)) rfl ?_ | refine oak rfl rfl rfl rfl (roomy_small (Nat.le_of_ble_eq_true rfl) (by decide)) rfl ?_ | apply o0) | (apply gR; first | apply rs | refine rr rfl rfl ?_ | apply rb | apply rk | apply rx | apply rl | apply rt | refine rd rfl rfl ?_ | refine rct rfl (h20) ?_ | refine rcf rfl (h20) ?_ | refine rct rfl (rfl) ?_ | refine rcf rfl (rfl) ?_) | (apply gK; first | apply ks | apply kb | apply kl | apply xb | apply xs | apply xl | refine xo (by decide) ?_ | apply kq) | (apply gF; first | (apply gFg; first | refine fz' rfl ?_ | refine fg rfl (h20) rfl ?_ | refine ff rfl (h20) ?_ | refine fg rfl (rfl) rfl ?_ | refine ff rfl (rfl) ?_) | (apply gFp; first | refine fpt rfl (h20) rfl ?_ | refine fpf rfl (h20) rfl ?_ | refine fpt rfl (rfl) rfl ?_ | refine fpf rfl (rfl) rfl ?_) | refine fw (ovx (op := .mapup _ _ _ _) rfl (o0 ⟨rfl, rfl⟩)) ?_ | refine fw (ov1 rfl (o0 ⟨rfl, rfl⟩)) ?_ | refine fw (omk rfl rfl (Nat.le_of_ble_eq_true rfl) (roomy_small (Nat.le_of_ble_eq_true rfl) (by decide)) rfl rfl rfl (o0 ⟨rfl, rfl⟩)) ?_ | refine fw (oam rfl rfl rfl (Nat.le_of_ble_eq_true rfl) rfl rfl (roomy_small (Nat.le_of_ble_eq_true rfl) (by decide)) rfl (o0 ⟨rfl, rfl⟩)) ?_ | refine fw (oak rfl rfl rfl rfl (roomy_small (Nat.le_of_ble_eq_true rfl) (by decide)) rfl (o0 ⟨rfl, rfl⟩)) ?_ | apply fn0) | (apply gL; refine lh1t rfl rfl rfl rfl ?_) | refine lt' rfl ?_ | refine oln rfl rfl rfl ?_)
  refine oam rfl rfl rfl hle rfl rfl hroom rfl ?_
  (repeat first | (apply gO; first | (apply gOg; first | refine oz rfl ?_ | refine og rfl (rfl) ?_ | refine of' rfl (rfl) ?_) | (apply gOp; first | refine opt rfl (rfl) rfl ?_ | refine opf rfl (rfl) rfl ?_) | refine ovx (op := .mapup _ _ _ _) rfl ?_ | refine ov1 rfl ?_ | refine omk rfl rfl (Nat.le_of_ble_eq_true rfl) (roomy_small (Nat.le_of_ble_eq_true rfl) (by decide)) rfl rfl rfl ?_ | refine oam rfl rfl rfl (Nat.le_of_ble_eq_true rfl) rfl rfl (roomy_small (Nat.le_of_ble_eq_true rfl) (by decide)) rfl ?_ | refine oak rfl rfl rfl rfl (roomy_small (Nat.le_of_ble_eq_true rfl) (by decide)) rfl ?_ | apply o0) | (apply gR; first | apply rs | refine rr rfl rfl ?_ | apply rb | apply rk | apply rx | apply rl | apply rt | refine rd rfl rfl ?_ | refine rct rfl (rfl) ?_ | refine rcf rfl (rfl) ?_) | (apply gK; first | apply ks | apply kb | apply kl | apply xb | apply xs | apply xl | refine xo (by decide) ?_ | apply kq) | (apply gF; first | (apply gFg; first | refine fz' rfl ?_ | refine fg rfl (rfl) rfl ?_ | refine ff rfl (rfl) ?_) | (apply gFp; first | refine fpt rfl (rfl) rfl ?_ | refine fpf rfl (rfl) rfl ?_) | refine fw (ovx (op := .mapup _ _ _ _) rfl (o0 ⟨rfl, rfl⟩)) ?_ | refine fw (ov1 rfl (o0 ⟨rfl, rfl⟩)) ?_ | refine fw (omk rfl rfl (Nat.le_of_ble_eq_true rfl) (roomy_small (Nat.le_of_ble_eq_true rfl) (by decide)) rfl rfl rfl (o0 ⟨rfl, rfl⟩)) ?_ | refine fw (oam rfl rfl rfl (Nat.le_of_ble_eq_true rfl) rfl rfl (roomy_small (Nat.le_of_ble_eq_true rfl) (by decide)) rfl (o0 ⟨rfl, rfl⟩)) ?_ | refine fw (oak rfl rfl rfl rfl (roomy_small (Nat.le_of_ble_eq_true rfl) (by decide)) rfl (o0 ⟨rfl, rfl⟩)) ?_ | apply fn0) | (apply gL; refine lh1t rfl rfl rfl rfl ?_) | refine lt' rfl ?_)
  have hrow : (trR N (u :: ts)).take (ts.length + 1) ++ [(trC N t).map V.d] = trR N (u :: (ts ++ [t])) := by
    rw [List.take_of_length_le (by simp [trR])]; simp [trR]
  have e1 : outS 4 N (u :: (ts ++ [t])) = [some (.rows 0 false 1 [[.ms 4 (ts.length + 1) 0 (ts.length + 1 + 1)]]), some (.rows (ts.length + 1) false 4 ((trR N (u :: ts)).take (ts.length + 1) ++ [(trC N t).map V.d]))] := by
    rw [hrow]; simp [outS]
  refine end_closed' (s3 := some (lpA 0 .none) :: (resS .nils 0 ++ outS 4 N (u :: (ts ++ [t]))) ++ [some (.rows 0 false 4 [(trC N t).map V.d]), none]) rfl ?_ ?_ ?_
  · rw [e1]; rfl
  · rw [e1]
    refine closed_of fun i hi => ?_
    replace hi : i < 5 := hi
    rcases (by omega : i = 0 ∨ i = 1 ∨ i = 2 ∨ i = 3 ∨ i = 4) with rfl | rfl | rfl | rfl | rfl
    · exact ⟨_, rfl, rfl⟩
    · exact ⟨_, rfl, rfl⟩
    · exact ⟨_, rfl, rfl⟩
    · exact ⟨_, rfl, rfl⟩
    · exact ⟨_, rfl, by rw [hrow]; simp only [refsB, refsR_trR]; rfl⟩
  · rw [e1]; rfl
/-- All traces but the last: a trace is kept. -/
theorem roundA (N : Nat) (t : List D × Int) (ts : List (List D × Int)) (hl : ts.length < 20000) : Ret VP (.round 0) [.d (.agg (trC N t))] (some (lpA 0 .none) :: (resS .nils 0 ++ outS 4 N ts)) (.d (.bool true)) (some (lpA 0 .none) :: (resS .nils 0 ++ outS 4 N (ts ++ [t]))) := by
  cases ts with
  | nil => exact roundA0 N t
  | cons u ts => exact roundA1 N t u ts (by simpa using hl)
/-- One too many. -/
theorem roundZ (N : Nat) (t u : List D × Int) (ts : List (List D × Int)) (hl : ts.length + 1 = 20000) : Ret VP (.round 0) [.d (.agg (trC N t))] (some (lpA 0 .none) :: (resS .nils 0 ++ outS 4 N (u :: ts))) (.d (.bool false)) (some (lpA 2 .ret) :: (resS .nils 9 ++ outS 4 N (u :: ts))) := by
  have h20 : (((ts.length + 1 : Nat) : Int) == 20000) = true := by simp; omega
  refine ret_round rfl rfl (r0 ?_)
  (repeat first | (apply gO; first | (apply gOg; first | refine oz rfl ?_ | refine og rfl (rfl) ?_ | refine of' rfl (rfl) ?_) | (apply gOp; first | refine opt rfl (rfl) rfl ?_ | refine opf rfl (rfl) rfl ?_) | refine ovx (op := .mapup _ _ _ _) rfl ?_ | refine ov1 rfl ?_ | refine omk rfl rfl (Nat.le_of_ble_eq_true rfl) (roomy_small (Nat.le_of_ble_eq_true rfl) (by decide)) rfl rfl rfl ?_ | refine oam rfl rfl rfl (Nat.le_of_ble_eq_true rfl) rfl rfl (roomy_small (Nat.le_of_ble_eq_true rfl) (by decide)) rfl ?_ | refine oak rfl rfl rfl rfl (roomy_small (Nat.le_of_ble_eq_true rfl) (by decide)) rfl ?_ | apply o0) | (apply gR; first | apply rs | refine rr rfl rfl ?_ | apply rb | apply rk | apply rx | apply rl | apply rt | refine rd rfl rfl ?_ | refine rct rfl (rfl) ?_ | refine rcf rfl (rfl) ?_) | (apply gK; first | apply ks | apply kb | apply kl | apply xb | apply xs | apply xl | refine xo (by decide) ?_ | apply kq) | (apply gF; first | (apply gFg; first | refine fz' rfl ?_ | refine fg rfl (rfl) rfl ?_ | refine ff rfl (rfl) ?_) | (apply gFp; first | refine fpt rfl (rfl) rfl ?_ | refine fpf rfl (rfl) rfl ?_) | refine fw (ovx (op := .mapup _ _ _ _) rfl (o0 ⟨rfl, rfl⟩)) ?_ | refine fw (ov1 rfl (o0 ⟨rfl, rfl⟩)) ?_ | refine fw (omk rfl rfl (Nat.le_of_ble_eq_true rfl) (roomy_small (Nat.le_of_ble_eq_true rfl) (by decide)) rfl rfl rfl (o0 ⟨rfl, rfl⟩)) ?_ | refine fw (oam rfl rfl rfl (Nat.le_of_ble_eq_true rfl) rfl rfl (roomy_small (Nat.le_of_ble_eq_true rfl) (by decide)) rfl (o0 ⟨rfl, rfl⟩)) ?_ | refine fw (oak rfl rfl rfl rfl (roomy_small (Nat.le_of_ble_eq_true rfl) (by decide)) rfl (o0 ⟨rfl, rfl⟩)) ?_ | apply fn0) | (apply gL; refine lh1t rfl rfl rfl rfl ?_) | refine lt' rfl ?_)
  refine ⟨rfl, _, _, _, _, _, rfl, r0 ?_⟩
  (repeat first | (apply gO; first | (apply gOg; first | refine oz rfl ?_ | refine og rfl (h20) ?_ | refine of' rfl (h20) ?_ | refine og rfl (rfl) ?_ | refine of' rfl (rfl) ?_) | (apply gOp; first | refine opt rfl (h20) rfl ?_ | refine opf rfl (h20) rfl ?_ | refine opt rfl (rfl) rfl ?_ | refine opf rfl (rfl) rfl ?_) | refine ovx (op := .mapup _ _ _ _) rfl ?_ | refine ov1 rfl ?_ | refine omk rfl rfl (Nat.le_of_ble_eq_true rfl) (roomy_small (Nat.le_of_ble_eq_true rfl) (by decide)) rfl rfl rfl ?_ | refine oam rfl rfl rfl (Nat.le_of_ble_eq_true rfl) rfl rfl (roomy_small (Nat.le_of_ble_eq_true rfl) (by decide)) rfl ?_ | refine oak rfl rfl rfl rfl (roomy_small (Nat.le_of_ble_eq_true rfl) (by decide)) rfl ?_ | apply o0) | (apply gR; first | apply rs | refine rr rfl rfl ?_ | apply rb | apply rk | apply rx | apply rl | apply rt | refine rd rfl rfl ?_ | refine rct rfl (h20) ?_ | refine rcf rfl (h20) ?_ | refine rct rfl (rfl) ?_ | refine rcf rfl (rfl) ?_) | (apply gK; first | apply ks | apply kb | apply kl | apply xb | apply xs | apply xl | refine xo (by decide) ?_ | apply kq) | (apply gF; first | (apply gFg; first | refine fz' rfl ?_ | refine fg rfl (h20) rfl ?_ | refine ff rfl (h20) ?_ | refine fg rfl (rfl) rfl ?_ | refine ff rfl (rfl) ?_) | (apply gFp; first | refine fpt rfl (h20) rfl ?_ | refine fpf rfl (h20) rfl ?_ | refine fpt rfl (rfl) rfl ?_ | refine fpf rfl (rfl) rfl ?_) | refine fw (ovx (op := .mapup _ _ _ _) rfl (o0 ⟨rfl, rfl⟩)) ?_ | refine fw (ov1 rfl (o0 ⟨rfl, rfl⟩)) ?_ | refine fw (omk rfl rfl (Nat.le_of_ble_eq_true rfl) (roomy_small (Nat.le_of_ble_eq_true rfl) (by decide)) rfl rfl rfl (o0 ⟨rfl, rfl⟩)) ?_ | refine fw (oam rfl rfl rfl (Nat.le_of_ble_eq_true rfl) rfl rfl (roomy_small (Nat.le_of_ble_eq_true rfl) (by decide)) rfl (o0 ⟨rfl, rfl⟩)) ?_ | refine fw (oak rfl rfl rfl rfl (roomy_small (Nat.le_of_ble_eq_true rfl) (by decide)) rfl (o0 ⟨rfl, rfl⟩)) ?_ | apply fn0) | (apply gL; refine lh1t rfl rfl rfl rfl ?_) | refine lt' rfl ?_ | refine oln rfl rfl rfl ?_)
  refine end_closedR (s3 := some (lpA 2 .ret) :: (resS .nils 9 ++ outS 4 N (u :: ts)) ++ [some (.rows 0 false 4 [(trC N t).map V.d])]) rfl rfl ?_ rfl
  refine closed_of fun i hi => ?_
  replace hi : i < 5 := hi
  rcases (by omega : i = 0 ∨ i = 1 ∨ i = 2 ∨ i = 3 ∨ i = 4) with rfl | rfl | rfl | rfl | rfl
  · exact ⟨_, rfl, rfl⟩
  · exact ⟨_, rfl, rfl⟩
  · exact ⟨_, rfl, rfl⟩
  · exact ⟨_, rfl, rfl⟩
  · exact ⟨_, rfl, by simp only [refsB, refsR_trR]; rfl⟩
end Go.Proofs.YtboekhenldifhaaGreat
/- TraceLimits, a module of fair draws: back to the last draw that has a further outcome. -/
set_option linter.unusedSimpArgs false
set_option linter.unusedVariables false
namespace Go.Proofs.YtboekhenldifhaaGreat
open Go.IntWalk
attribute [local irreducible] roomy IntKind.wrap
set_option maxHeartbeats 4000000
set_option maxRecDepth 100000
def stR (N : Nat) (u : List D × Int) (ts : List (List D × Int)) (v j : Nat) (pr : List (List V)) (m : Nat) : Store :=
  some (lpA 0 .none) :: some (.rows 0 false 1 [[.nils]]) :: some (.rows 0 false 1 [[.d (.int .i64 0)]]) :: some (.rows 0 false 1 [[.ms 6 ts.length 0 (ts.length + 1)]]) :: some (.rows 0 false 1 [[.ms 7 v 0 j]]) :: some (.rows 0 false 1 [[.ms 8 v 0 j]]) ::
    some (.rows ts.length false 4 (trR N (u :: ts))) :: some (.rows v false 1 (lR m)) :: [some (.rows v false 1 pr)]
def mPtr (N : Nat) : V := .d (.iptr (modL N) 0)
theorem pR_set (ps : List Nat) (i b : Nat) : (pR ps).set i [nV b] = pR (ps.set i b) := by simp [pR, List.map_set]
theorem refsR_pRs (ps : List Nat) : refsR (pR ps) = [] := refsR_pR ps
theorem back {N v j m : Nat} {u : List D × Int} {ts : List (List D × Int)} {ps : List Nat} {K : List Fr} {Q : Out → Env → Store → Prop} (hj : j ≤ 16) (hp : j ≤ ps.length) (hm : j ≤ m) (z : Nat) (hz : z < j) (h0 : ps[z]? = some 0)
    (hQ : ∀ e, e 0 = .yield 0 → e 1 = mPtr N → e 3 = .ptr 4 0 0 0 → e 4 = .ptr 5 0 0 0 → cont VP 4 K Q (.exit 1) e (stR N u ts v (z + 1) (pR (ps.set z 1)) m)) :
    ∀ d i, z + d = i → i < j → (∀ k, z < k → k ≤ i → ps[k]? = some 1) → Head VP 4 [0, 1, 3, 4, 8] c37_21 [.yield 0, mPtr N, .ptr 4 0 0 0, .ptr 5 0 0 0, nV i] (stR N u ts v j (pR ps) m) K Q := by
  intro d
  induction d with
  | zero =>
    intro i hi hij h1
    obtain rfl : i = z := by omega
    have hge : decide ((i : Int) ≥ 0) = true := by simp
    have hlt : decide ((1 : Int) < 2) = true := rfl
    have hw0 : IntKind.i64.wrap (((0 : Nat) : Int) + 1) = ((1 : Nat) : Int) := wrapN 1 (by omega)
    unfold Head
    (repeat first | (apply gO; first | (apply gOg; first | refine oz rfl ?_ | refine og rfl (hge) ?_ | refine of' rfl (hge) ?_ | refine og rfl (by decide) ?_ | refine of' rfl (by decide) ?_) | (apply gOp; first | refine opt rfl (hge) rfl ?_ | refine opf rfl (hge) rfl ?_ | refine opt rfl (by decide) rfl ?_ | refine opf rfl (by decide) rfl ?_) | refine ovx (op := .mapup _ _ _ _) rfl ?_ | refine ov1 rfl ?_ | refine omk rfl rfl (Nat.le_of_ble_eq_true rfl) (roomy_small (Nat.le_of_ble_eq_true rfl) (by decide)) rfl rfl rfl ?_ | refine oam rfl rfl rfl (Nat.le_of_ble_eq_true rfl) rfl rfl (roomy_small (Nat.le_of_ble_eq_true rfl) (by decide)) rfl ?_ | refine oak rfl rfl rfl rfl (roomy_small (Nat.le_of_ble_eq_true rfl) (by decide)) rfl ?_ | apply o0) | (apply gR; first | apply rs | refine rr rfl rfl ?_ | apply rb | apply rk | apply rx | apply rl | apply rt | refine rd rfl rfl ?_ | refine rct rfl (hge) ?_ | refine rcf rfl (hge) ?_ | refine rct rfl (by decide) ?_ | refine rcf rfl (by decide) ?_) | (apply gK; first | apply ks | apply kb | apply kl | apply xb | apply xs | apply xl | refine xo (by decide) ?_ | apply kq) | (apply gF; first | (apply gFg; first | refine fz' rfl ?_ | refine fg rfl (hge) rfl ?_ | refine ff rfl (hge) ?_ | refine fg rfl (by decide) rfl ?_ | refine ff rfl (by decide) ?_) | (apply gFp; first | refine fpt rfl (hge) rfl ?_ | refine fpf rfl (hge) rfl ?_ | refine fpt rfl (by decide) rfl ?_ | refine fpf rfl (by decide) rfl ?_) | refine fw (ovx (op := .mapup _ _ _ _) rfl (o0 ⟨rfl, rfl⟩)) ?_ | refine fw (ov1 rfl (o0 ⟨rfl, rfl⟩)) ?_ | refine fw (omk rfl rfl (Nat.le_of_ble_eq_true rfl) (roomy_small (Nat.le_of_ble_eq_true rfl) (by decide)) rfl rfl rfl (o0 ⟨rfl, rfl⟩)) ?_ | refine fw (oam rfl rfl rfl (Nat.le_of_ble_eq_true rfl) rfl rfl (roomy_small (Nat.le_of_ble_eq_true rfl) (by decide)) rfl (o0 ⟨rfl, rfl⟩)) ?_ | refine fw (oak rfl rfl rfl rfl (roomy_small (Nat.le_of_ble_eq_true rfl) (by decide)) rfl (o0 ⟨rfl, rfl⟩)) ?_ | apply fn0) | refine lt' rfl ?_)
    refine fw (oim rfl rfl rfl rfl rfl hij (by rw [pR_length]; omega) (o0 ⟨rfl, rfl⟩)) ?_
    refine fw (olm rfl rfl rfl (by rw [Nat.zero_add]; exact pR_get h0) rfl (o0 ⟨rfl, rfl⟩)) ?_
    (repeat first | (apply gO; first | (apply gOg; first | refine oz rfl ?_ | refine og rfl (by decide) ?_ | refine of' rfl (by decide) ?_) | (apply gOp; first | refine opt rfl (by decide) rfl ?_ | refine opf rfl (by decide) rfl ?_) | refine ovx (op := .mapup _ _ _ _) rfl ?_ | refine ov1 rfl ?_ | refine omk rfl rfl (Nat.le_of_ble_eq_true rfl) (roomy_small (Nat.le_of_ble_eq_true rfl) (by decide)) rfl rfl rfl ?_ | refine oam rfl rfl rfl (Nat.le_of_ble_eq_true rfl) rfl rfl (roomy_small (Nat.le_of_ble_eq_true rfl) (by decide)) rfl ?_ | refine oak rfl rfl rfl rfl (roomy_small (Nat.le_of_ble_eq_true rfl) (by decide)) rfl ?_ | apply o0) | (apply gR; first | apply rs | refine rr rfl rfl ?_ | apply rb | apply rk | apply rx | apply rl | apply rt | refine rd rfl rfl ?_ | refine rct rfl (by decide) ?_ | refine rcf rfl (by decide) ?_) | (apply gK; first | apply ks | apply kb | apply kl | apply xb | apply xs | apply xl | refine xo (by decide) ?_ | apply kq) | (apply gF; first | (apply gFg; first | refine fz' rfl ?_ | refine fg rfl (by decide) rfl ?_ | refine ff rfl (by decide) ?_) | (apply gFp; first | refine fpt rfl (by decide) rfl ?_ | refine fpf rfl (by decide) rfl ?_) | refine fw (ovx (op := .mapup _ _ _ _) rfl (o0 ⟨rfl, rfl⟩)) ?_ | refine fw (ov1 rfl (o0 ⟨rfl, rfl⟩)) ?_ | refine fw (omk rfl rfl (Nat.le_of_ble_eq_true rfl) (roomy_small (Nat.le_of_ble_eq_true rfl) (by decide)) rfl rfl rfl (o0 ⟨rfl, rfl⟩)) ?_ | refine fw (oam rfl rfl rfl (Nat.le_of_ble_eq_true rfl) rfl rfl (roomy_small (Nat.le_of_ble_eq_true rfl) (by decide)) rfl (o0 ⟨rfl, rfl⟩)) ?_ | refine fw (oak rfl rfl rfl rfl (roomy_small (Nat.le_of_ble_eq_true rfl) (by decide)) rfl (o0 ⟨rfl, rfl⟩)) ?_ | apply fn0) | refine lt' rfl ?_)
    rw [hw0]
    refine fw (oim rfl rfl rfl rfl rfl hij (by rw [lR_length]; omega) (o0 ⟨rfl, rfl⟩)) ?_
    refine fw (olm rfl rfl rfl (by rw [Nat.zero_add]; exact lR_get (by omega)) rfl (o0 ⟨rfl, rfl⟩)) ?_
    (repeat first | (apply gO; first | (apply gOg; first | refine oz rfl ?_ | refine og rfl (by decide) ?_ | refine of' rfl (by decide) ?_) | (apply gOp; first | refine opt rfl (by decide) rfl ?_ | refine opf rfl (by decide) rfl ?_) | refine ovx (op := .mapup _ _ _ _) rfl ?_ | refine ov1 rfl ?_ | refine omk rfl rfl (Nat.le_of_ble_eq_true rfl) (roomy_small (Nat.le_of_ble_eq_true rfl) (by decide)) rfl rfl rfl ?_ | refine oam rfl rfl rfl (Nat.le_of_ble_eq_true rfl) rfl rfl (roomy_small (Nat.le_of_ble_eq_true rfl) (by decide)) rfl ?_ | refine oak rfl rfl rfl rfl (roomy_small (Nat.le_of_ble_eq_true rfl) (by decide)) rfl ?_ | apply o0) | (apply gR; first | apply rs | refine rr rfl rfl ?_ | apply rb | apply rk | apply rx | apply rl | apply rt | refine rd rfl rfl ?_ | refine rct rfl (by decide) ?_ | refine rcf rfl (by decide) ?_) | (apply gK; first | apply ks | apply kb | apply kl | apply xb | apply xs | apply xl | refine xo (by decide) ?_ | apply kq) | (apply gF; first | (apply gFg; first | refine fz' rfl ?_ | refine fg rfl (by decide) rfl ?_ | refine ff rfl (by decide) ?_) | (apply gFp; first | refine fpt rfl (by decide) rfl ?_ | refine fpf rfl (by decide) rfl ?_) | refine fw (ovx (op := .mapup _ _ _ _) rfl (o0 ⟨rfl, rfl⟩)) ?_ | refine fw (ov1 rfl (o0 ⟨rfl, rfl⟩)) ?_ | refine fw (omk rfl rfl (Nat.le_of_ble_eq_true rfl) (roomy_small (Nat.le_of_ble_eq_true rfl) (by decide)) rfl rfl rfl (o0 ⟨rfl, rfl⟩)) ?_ | refine fw (oam rfl rfl rfl (Nat.le_of_ble_eq_true rfl) rfl rfl (roomy_small (Nat.le_of_ble_eq_true rfl) (by decide)) rfl (o0 ⟨rfl, rfl⟩)) ?_ | refine fw (oak rfl rfl rfl rfl (roomy_small (Nat.le_of_ble_eq_true rfl) (by decide)) rfl (o0 ⟨rfl, rfl⟩)) ?_ | apply fn0) | refine lt' rfl ?_)
    refine oim rfl rfl rfl rfl rfl hij (by rw [pR_length]; omega) ?_
    refine olm rfl rfl rfl (by rw [Nat.zero_add]; exact pR_get h0) rfl ?_
    (repeat first | (apply gO; first | (apply gOg; first | refine oz rfl ?_ | refine og rfl (by decide) ?_ | refine of' rfl (by decide) ?_) | (apply gOp; first | refine opt rfl (by decide) rfl ?_ | refine opf rfl (by decide) rfl ?_) | refine ovx (op := .mapup _ _ _ _) rfl ?_ | refine ov1 rfl ?_ | refine omk rfl rfl (Nat.le_of_ble_eq_true rfl) (roomy_small (Nat.le_of_ble_eq_true rfl) (by decide)) rfl rfl rfl ?_ | refine oam rfl rfl rfl (Nat.le_of_ble_eq_true rfl) rfl rfl (roomy_small (Nat.le_of_ble_eq_true rfl) (by decide)) rfl ?_ | refine oak rfl rfl rfl rfl (roomy_small (Nat.le_of_ble_eq_true rfl) (by decide)) rfl ?_ | apply o0) | (apply gR; first | apply rs | refine rr rfl rfl ?_ | apply rb | apply rk | apply rx | apply rl | apply rt | refine rd rfl rfl ?_ | refine rct rfl (by decide) ?_ | refine rcf rfl (by decide) ?_) | (apply gK; first | apply ks | apply kb | apply kl | apply xb | apply xs | apply xl | refine xo (by decide) ?_ | apply kq) | (apply gF; first | (apply gFg; first | refine fz' rfl ?_ | refine fg rfl (by decide) rfl ?_ | refine ff rfl (by decide) ?_) | (apply gFp; first | refine fpt rfl (by decide) rfl ?_ | refine fpf rfl (by decide) rfl ?_) | refine fw (ovx (op := .mapup _ _ _ _) rfl (o0 ⟨rfl, rfl⟩)) ?_ | refine fw (ov1 rfl (o0 ⟨rfl, rfl⟩)) ?_ | refine fw (omk rfl rfl (Nat.le_of_ble_eq_true rfl) (roomy_small (Nat.le_of_ble_eq_true rfl) (by decide)) rfl rfl rfl (o0 ⟨rfl, rfl⟩)) ?_ | refine fw (oam rfl rfl rfl (Nat.le_of_ble_eq_true rfl) rfl rfl (roomy_small (Nat.le_of_ble_eq_true rfl) (by decide)) rfl (o0 ⟨rfl, rfl⟩)) ?_ | refine fw (oak rfl rfl rfl rfl (roomy_small (Nat.le_of_ble_eq_true rfl) (by decide)) rfl (o0 ⟨rfl, rfl⟩)) ?_ | apply fn0) | refine lt' rfl ?_)
    rw [hw0]
    refine oim rfl rfl rfl rfl rfl hij (by rw [pR_length]; omega) ?_
    refine osm (cs := [nV 0]) (x := nV 1) rfl rfl rfl rfl (by rw [Nat.zero_add]; exact pR_get h0) (by decide) rfl rfl ?_
    have hwi : IntKind.i64.wrap ((i : Int) + 1) = ((i + 1 : Nat) : Int) := by rw [show (i : Int) + 1 = ((i + 1 : Nat) : Int) by omega]; exact wrapN _ (by omega)
    (repeat first | (apply gO; first | (apply gOg; first | refine oz rfl ?_ | refine og rfl (by decide) ?_ | refine of' rfl (by decide) ?_) | (apply gOp; first | refine opt rfl (by decide) rfl ?_ | refine opf rfl (by decide) rfl ?_) | refine ovx (op := .mapup _ _ _ _) rfl ?_ | refine ov1 rfl ?_ | refine omk rfl rfl (Nat.le_of_ble_eq_true rfl) (roomy_small (Nat.le_of_ble_eq_true rfl) (by decide)) rfl rfl rfl ?_ | refine oam rfl rfl rfl (Nat.le_of_ble_eq_true rfl) rfl rfl (roomy_small (Nat.le_of_ble_eq_true rfl) (by decide)) rfl ?_ | refine oak rfl rfl rfl rfl (roomy_small (Nat.le_of_ble_eq_true rfl) (by decide)) rfl ?_ | apply o0) | (apply gR; first | apply rs | refine rr rfl rfl ?_ | apply rb | apply rk | apply rx | apply rl | apply rt | refine rd rfl rfl ?_ | refine rct rfl (by decide) ?_ | refine rcf rfl (by decide) ?_) | (apply gK; first | apply ks | apply kb | apply kl | apply xb | apply xs | apply xl | refine xo (by decide) ?_ | apply kq) | (apply gF; first | (apply gFg; first | refine fz' rfl ?_ | refine fg rfl (by decide) rfl ?_ | refine ff rfl (by decide) ?_) | (apply gFp; first | refine fpt rfl (by decide) rfl ?_ | refine fpf rfl (by decide) rfl ?_) | refine fw (ovx (op := .mapup _ _ _ _) rfl (o0 ⟨rfl, rfl⟩)) ?_ | refine fw (ov1 rfl (o0 ⟨rfl, rfl⟩)) ?_ | refine fw (omk rfl rfl (Nat.le_of_ble_eq_true rfl) (roomy_small (Nat.le_of_ble_eq_true rfl) (by decide)) rfl rfl rfl (o0 ⟨rfl, rfl⟩)) ?_ | refine fw (oam rfl rfl rfl (Nat.le_of_ble_eq_true rfl) rfl rfl (roomy_small (Nat.le_of_ble_eq_true rfl) (by decide)) rfl (o0 ⟨rfl, rfl⟩)) ?_ | refine fw (oak rfl rfl rfl rfl (roomy_small (Nat.le_of_ble_eq_true rfl) (by decide)) rfl (o0 ⟨rfl, rfl⟩)) ?_ | apply fn0) | refine lt' rfl ?_)
    rw [hwi]
    refine fw (obm rfl rfl rfl rfl (by omega) (o0 ⟨rfl, rfl⟩)) ?_
    (repeat first | (apply gO; first | (apply gOg; first | refine oz rfl ?_ | refine og rfl (by decide) ?_ | refine of' rfl (by decide) ?_) | (apply gOp; first | refine opt rfl (by decide) rfl ?_ | refine opf rfl (by decide) rfl ?_) | refine ovx (op := .mapup _ _ _ _) rfl ?_ | refine ov1 rfl ?_ | refine omk rfl rfl (Nat.le_of_ble_eq_true rfl) (roomy_small (Nat.le_of_ble_eq_true rfl) (by decide)) rfl rfl rfl ?_ | refine oam rfl rfl rfl (Nat.le_of_ble_eq_true rfl) rfl rfl (roomy_small (Nat.le_of_ble_eq_true rfl) (by decide)) rfl ?_ | refine oak rfl rfl rfl rfl (roomy_small (Nat.le_of_ble_eq_true rfl) (by decide)) rfl ?_ | apply o0) | (apply gR; first | apply rs | refine rr rfl rfl ?_ | apply rb | apply rk | apply rx | apply rl | apply rt | refine rd rfl rfl ?_ | refine rct rfl (by decide) ?_ | refine rcf rfl (by decide) ?_) | (apply gK; first | apply ks | apply kb | apply kl | apply xb | apply xs | apply xl | refine xo (by decide) ?_ | apply kq) | (apply gF; first | (apply gFg; first | refine fz' rfl ?_ | refine fg rfl (by decide) rfl ?_ | refine ff rfl (by decide) ?_) | (apply gFp; first | refine fpt rfl (by decide) rfl ?_ | refine fpf rfl (by decide) rfl ?_) | refine fw (ovx (op := .mapup _ _ _ _) rfl (o0 ⟨rfl, rfl⟩)) ?_ | refine fw (ov1 rfl (o0 ⟨rfl, rfl⟩)) ?_ | refine fw (omk rfl rfl (Nat.le_of_ble_eq_true rfl) (roomy_small (Nat.le_of_ble_eq_true rfl) (by decide)) rfl rfl rfl (o0 ⟨rfl, rfl⟩)) ?_ | refine fw (oam rfl rfl rfl (Nat.le_of_ble_eq_true rfl) rfl rfl (roomy_small (Nat.le_of_ble_eq_true rfl) (by decide)) rfl (o0 ⟨rfl, rfl⟩)) ?_ | refine fw (oak rfl rfl rfl rfl (roomy_small (Nat.le_of_ble_eq_true rfl) (by decide)) rfl (o0 ⟨rfl, rfl⟩)) ?_ | apply fn0) | refine lt' rfl ?_)
    rw [hwi]
    refine fw (obm rfl rfl rfl rfl (by omega) (o0 ⟨rfl, rfl⟩)) ?_
    (repeat first | (apply gO; first | (apply gOg; first | refine oz rfl ?_ | refine og rfl (by decide) ?_ | refine of' rfl (by decide) ?_) | (apply gOp; first | refine opt rfl (by decide) rfl ?_ | refine opf rfl (by decide) rfl ?_) | refine ovx (op := .mapup _ _ _ _) rfl ?_ | refine ov1 rfl ?_ | refine omk rfl rfl (Nat.le_of_ble_eq_true rfl) (roomy_small (Nat.le_of_ble_eq_true rfl) (by decide)) rfl rfl rfl ?_ | refine oam rfl rfl rfl (Nat.le_of_ble_eq_true rfl) rfl rfl (roomy_small (Nat.le_of_ble_eq_true rfl) (by decide)) rfl ?_ | refine oak rfl rfl rfl rfl (roomy_small (Nat.le_of_ble_eq_true rfl) (by decide)) rfl ?_ | apply o0) | (apply gR; first | apply rs | refine rr rfl rfl ?_ | apply rb | apply rk | apply rx | apply rl | apply rt | refine rd rfl rfl ?_ | refine rct rfl (by decide) ?_ | refine rcf rfl (by decide) ?_) | (apply gK; first | apply ks | apply kb | apply kl | apply xb | apply xs | apply xl | refine xo (by decide) ?_ | apply kq) | (apply gF; first | (apply gFg; first | refine fz' rfl ?_ | refine fg rfl (by decide) rfl ?_ | refine ff rfl (by decide) ?_) | (apply gFp; first | refine fpt rfl (by decide) rfl ?_ | refine fpf rfl (by decide) rfl ?_) | refine fw (ovx (op := .mapup _ _ _ _) rfl (o0 ⟨rfl, rfl⟩)) ?_ | refine fw (ov1 rfl (o0 ⟨rfl, rfl⟩)) ?_ | refine fw (omk rfl rfl (Nat.le_of_ble_eq_true rfl) (roomy_small (Nat.le_of_ble_eq_true rfl) (by decide)) rfl rfl rfl (o0 ⟨rfl, rfl⟩)) ?_ | refine fw (oam rfl rfl rfl (Nat.le_of_ble_eq_true rfl) rfl rfl (roomy_small (Nat.le_of_ble_eq_true rfl) (by decide)) rfl (o0 ⟨rfl, rfl⟩)) ?_ | refine fw (oak rfl rfl rfl rfl (roomy_small (Nat.le_of_ble_eq_true rfl) (by decide)) rfl (o0 ⟨rfl, rfl⟩)) ?_ | apply fn0) | refine lt' rfl ?_)
    have hs := pR_set ps i 1
    change cont VP 4 K Q (.exit 1) _ (some (lpA 0 .none) :: some (.rows 0 false 1 [[.nils]]) :: some (.rows 0 false 1 [[.d (.int .i64 0)]]) :: some (.rows 0 false 1 [[.ms 6 ts.length 0 (ts.length + 1)]]) :: some (.rows 0 false 1 [[.ms 7 v 0 (i + 1)]]) :: some (.rows 0 false 1 [[.ms 8 v 0 (i + 1)]]) ::
      some (.rows ts.length false 4 (trR N (u :: ts))) :: some (.rows v false 1 (lR m)) :: [some (.rows v false 1 ((pR ps).set (0 + i) [nV 1]))])
    rw [Nat.zero_add, hs]
    exact hQ _ rfl rfl rfl rfl
  | succ d ih =>
    intro i hi hij h1
    obtain ⟨i, rfl⟩ : ∃ k, i = k + 1 := ⟨i - 1, by omega⟩
    have hge : decide (((i + 1 : Nat) : Int) ≥ 0) = true := by simp; omega
    have hw1 : IntKind.i64.wrap (((1 : Nat) : Int) + 1) = ((2 : Nat) : Int) := wrapN 2 (by omega)
    have hg := pR_get (h1 (i + 1) (by omega) (Nat.le_refl _))
    unfold Head
    (repeat first | (apply gO; first | (apply gOg; first | refine oz rfl ?_ | refine og rfl (hge) ?_ | refine of' rfl (hge) ?_ | refine og rfl (by decide) ?_ | refine of' rfl (by decide) ?_) | (apply gOp; first | refine opt rfl (hge) rfl ?_ | refine opf rfl (hge) rfl ?_ | refine opt rfl (by decide) rfl ?_ | refine opf rfl (by decide) rfl ?_) | refine ovx (op := .mapup _ _ _ _) rfl ?_ | refine ov1 rfl ?_ | refine omk rfl rfl (Nat.le_of_ble_eq_true rfl) (roomy_small (Nat.le_of_ble_eq_true rfl) (by decide)) rfl rfl rfl ?_ | refine oam rfl rfl rfl (Nat.le_of_ble_eq_true rfl) rfl rfl (roomy_small (Nat.le_of_ble_eq_true rfl) (by decide)) rfl ?_ | refine oak rfl rfl rfl rfl (roomy_small (Nat.le_of_ble_eq_true rfl) (by decide)) rfl ?_ | apply o0) | (apply gR; first | apply rs | refine rr rfl rfl ?_ | apply rb | apply rk | apply rx | apply rl | apply rt | refine rd rfl rfl ?_ | refine rct rfl (hge) ?_ | refine rcf rfl (hge) ?_ | refine rct rfl (by decide) ?_ | refine rcf rfl (by decide) ?_) | (apply gK; first | apply ks | apply kb | apply kl | apply xb | apply xs | apply xl | refine xo (by decide) ?_ | apply kq) | (apply gF; first | (apply gFg; first | refine fz' rfl ?_ | refine fg rfl (hge) rfl ?_ | refine ff rfl (hge) ?_ | refine fg rfl (by decide) rfl ?_ | refine ff rfl (by decide) ?_) | (apply gFp; first | refine fpt rfl (hge) rfl ?_ | refine fpf rfl (hge) rfl ?_ | refine fpt rfl (by decide) rfl ?_ | refine fpf rfl (by decide) rfl ?_) | refine fw (ovx (op := .mapup _ _ _ _) rfl (o0 ⟨rfl, rfl⟩)) ?_ | refine fw (ov1 rfl (o0 ⟨rfl, rfl⟩)) ?_ | refine fw (omk rfl rfl (Nat.le_of_ble_eq_true rfl) (roomy_small (Nat.le_of_ble_eq_true rfl) (by decide)) rfl rfl rfl (o0 ⟨rfl, rfl⟩)) ?_ | refine fw (oam rfl rfl rfl (Nat.le_of_ble_eq_true rfl) rfl rfl (roomy_small (Nat.le_of_ble_eq_true rfl) (by decide)) rfl (o0 ⟨rfl, rfl⟩)) ?_ | refine fw (oak rfl rfl rfl rfl (roomy_small (Nat.le_of_ble_eq_true rfl) (by decide)) rfl (o0 ⟨rfl, rfl⟩)) ?_ | apply fn0) | refine lt' rfl ?_)
    refine fw (oim rfl rfl rfl rfl rfl hij (by rw [pR_length]; omega) (o0 ⟨rfl, rfl⟩)) ?_
    refine fw (olm rfl rfl rfl (by rw [Nat.zero_add]; exact hg) rfl (o0 ⟨rfl, rfl⟩)) ?_
    (repeat first | (apply gO; first | (apply gOg; first | refine oz rfl ?_ | refine og rfl (by decide) ?_ | refine of' rfl (by decide) ?_) | (apply gOp; first | refine opt rfl (by decide) rfl ?_ | refine opf rfl (by decide) rfl ?_) | refine ovx (op := .mapup _ _ _ _) rfl ?_ | refine ov1 rfl ?_ | refine omk rfl rfl (Nat.le_of_ble_eq_true rfl) (roomy_small (Nat.le_of_ble_eq_true rfl) (by decide)) rfl rfl rfl ?_ | refine oam rfl rfl rfl (Nat.le_of_ble_eq_true rfl) rfl rfl (roomy_small (Nat.le_of_ble_eq_true rfl) (by decide)) rfl ?_ | refine oak rfl rfl rfl rfl (roomy_small (Nat.le_of_ble_eq_true rfl) (by decide)) rfl ?_ | apply o0) | (apply gR; first | apply rs | refine rr rfl rfl ?_ | apply rb | apply rk | apply rx | apply rl | apply rt | refine rd rfl rfl ?_ | refine rct rfl (by decide) ?_ | refine rcf rfl (by decide) ?_) | (apply gK; first | apply ks | apply kb | apply kl | apply xb | apply xs | apply xl | refine xo (by decide) ?_ | apply kq) | (apply gF; first | (apply gFg; first | refine fz' rfl ?_ | refine fg rfl (by decide) rfl ?_ | refine ff rfl (by decide) ?_) | (apply gFp; first | refine fpt rfl (by decide) rfl ?_ | refine fpf rfl (by decide) rfl ?_) | refine fw (ovx (op := .mapup _ _ _ _) rfl (o0 ⟨rfl, rfl⟩)) ?_ | refine fw (ov1 rfl (o0 ⟨rfl, rfl⟩)) ?_ | refine fw (omk rfl rfl (Nat.le_of_ble_eq_true rfl) (roomy_small (Nat.le_of_ble_eq_true rfl) (by decide)) rfl rfl rfl (o0 ⟨rfl, rfl⟩)) ?_ | refine fw (oam rfl rfl rfl (Nat.le_of_ble_eq_true rfl) rfl rfl (roomy_small (Nat.le_of_ble_eq_true rfl) (by decide)) rfl (o0 ⟨rfl, rfl⟩)) ?_ | refine fw (oak rfl rfl rfl rfl (roomy_small (Nat.le_of_ble_eq_true rfl) (by decide)) rfl (o0 ⟨rfl, rfl⟩)) ?_ | apply fn0) | refine lt' rfl ?_)
    rw [hw1]
    refine fw (oim rfl rfl rfl rfl rfl hij (by rw [lR_length]; omega) (o0 ⟨rfl, rfl⟩)) ?_
    refine fw (olm rfl rfl rfl (by rw [Nat.zero_add]; exact lR_get (by omega)) rfl (o0 ⟨rfl, rfl⟩)) ?_
    (repeat first | (apply gO; first | (apply gOg; first | refine oz rfl ?_ | refine og rfl (by decide) ?_ | refine of' rfl (by decide) ?_) | (apply gOp; first | refine opt rfl (by decide) rfl ?_ | refine opf rfl (by decide) rfl ?_) | refine ovx (op := .mapup _ _ _ _) rfl ?_ | refine ov1 rfl ?_ | refine omk rfl rfl (Nat.le_of_ble_eq_true rfl) (roomy_small (Nat.le_of_ble_eq_true rfl) (by decide)) rfl rfl rfl ?_ | refine oam rfl rfl rfl (Nat.le_of_ble_eq_true rfl) rfl rfl (roomy_small (Nat.le_of_ble_eq_true rfl) (by decide)) rfl ?_ | refine oak rfl rfl rfl rfl (roomy_small (Nat.le_of_ble_eq_true rfl) (by decide)) rfl ?_ | apply o0) | (apply gR; first | apply rs | refine rr rfl rfl ?_ | apply rb | apply rk | apply rx | apply rl | apply rt | refine rd rfl rfl ?_ | refine rct rfl (by decide) ?_ | refine rcf rfl (by decide) ?_) | (apply gK; first | apply ks | apply kb | apply kl | apply xb | apply xs | apply xl | refine xo (by decide) ?_ | apply kq) | (apply gF; first | (apply gFg; first | refine fz' rfl ?_ | refine fg rfl (by decide) rfl ?_ | refine ff rfl (by decide) ?_) | (apply gFp; first | refine fpt rfl (by decide) rfl ?_ | refine fpf rfl (by decide) rfl ?_) | refine fw (ovx (op := .mapup _ _ _ _) rfl (o0 ⟨rfl, rfl⟩)) ?_ | refine fw (ov1 rfl (o0 ⟨rfl, rfl⟩)) ?_ | refine fw (omk rfl rfl (Nat.le_of_ble_eq_true rfl) (roomy_small (Nat.le_of_ble_eq_true rfl) (by decide)) rfl rfl rfl (o0 ⟨rfl, rfl⟩)) ?_ | refine fw (oam rfl rfl rfl (Nat.le_of_ble_eq_true rfl) rfl rfl (roomy_small (Nat.le_of_ble_eq_true rfl) (by decide)) rfl (o0 ⟨rfl, rfl⟩)) ?_ | refine fw (oak rfl rfl rfl rfl (roomy_small (Nat.le_of_ble_eq_true rfl) (by decide)) rfl (o0 ⟨rfl, rfl⟩)) ?_ | apply fn0) | refine lt' rfl ?_)
    have hwi : IntKind.i64.wrap (((i + 1 : Nat) : Int) - 1) = (i : Int) := by rw [show ((i + 1 : Nat) : Int) - 1 = (i : Int) by omega]; exact wrapN _ (by omega)
    rw [hwi]
    refine hdp (ids := [0, 1, 2, 3, 4, 5, 6, 7, 8]) rfl ((gc_tab (t := [some [1, 2, 3], some [], some [], some [6], some [7], some [8], some [], some [], some []]) ?_ 4 _).trans rfl) rfl ?_ (ih i (by omega) (by omega) (fun k a b => h1 k a (by omega)))
    · show [some [1, 2, 3], some [], some [], some [6], some [7], some [8], some (refsR (trR _ _)), some (refsR (lR _)), some (refsR (pR _))] = _
      rw [refsR_pR, refsR_lR, refsR_trR]
    · show some (lpA 0 .none) :: some (.rows 0 false 1 [[.nils]]) :: some (.rows 0 false 1 [[.d (.int .i64 0)]]) :: some (.rows 0 false 1 [[.ms 6 ts.length 0 (ts.length + 1)]]) :: some (.rows 0 false 1 [[.ms 7 v 0 j]]) :: some (.rows 0 false 1 [[.ms 8 v 0 j]]) ::
        some (.rows ts.length false 4 ((trR N (u :: ts)).map (renL _))) :: some (.rows v false 1 ((lR m).map (renL _))) :: [some (.rows v false 1 ((pR ps).map (renL _)))] = _
      rw [ren_pR, ren_lR, ren_trR]; rfl
end Go.Proofs.YtboekhenldifhaaGreat
/- TraceLimits, a module of fair draws: from one trace to the next. -/
set_option linter.unusedSimpArgs false
set_option linter.unusedVariables false
namespace Go.Proofs.YtboekhenldifhaaGreat
open Go.IntWalk
attribute [local irreducible] roomy IntKind.wrap
set_option maxHeartbeats 4000000
set_option maxRecDepth 100000
/-- The trace of a run. -/
def trT (N : Nat) (ps : List Nat) (j : Nat) : List D × Int := ((csF ps j N).map pairD, ((match N with | 0 => 0 | i + 1 => bk ps j i : Nat) : Int))
theorem turn {N v j m z : Nat} {u : List D × Int} {ts : List (List D × Int)} {ps : List Nat} (T : Known1) {K : List Fr} {Q : Out → Env → Store → Prop} (h1 : 0 < N) (hN : N ≤ 16) (hj : j ≤ N) (hp : j ≤ ps.length) (hm : j ≤ m) (hb : ∀ b ∈ ps, b < 2) (hl : ts.length + 1 < 20000)
    (hz : z < N) (h0 : (psF ps j N)[z]? = some 0) (hone : ∀ k, z < k → k ≤ N - 1 → (psF ps j N)[k]? = some 1)
    (h : Head VP 4 [0, 1, 3, 4] c37_29 [.yield 0, mPtr N, .ptr 4 0 0 0, .ptr 5 0 0 0] (stR N u (ts ++ [trT N ps j]) (v + (N - j)) (z + 1) (pR ((psF ps j N).set z 1)) (mF m j N)) K Q) :
    Head VP 4 [0, 1, 3, 4] c37_29 [.yield 0, mPtr N, .ptr 4 0 0 0, .ptr 5 0 0 0] (stR N u ts v j (pR ps) m) K Q := by
  have hf := follow (v := v) T h1 hN (by omega) hp hm hb
  rw [show max j N = N by omega] at hf
  have hr := roundA N (trT N ps j) (u :: ts) (by simp; omega)
  have hpN : N ≤ (psF ps j N).length := by
    unfold psF; split
    · omega
    · simp; omega
  have hmN : N ≤ mF m j N := by unfold mF; split <;> omega
  generalize hps : psF ps j N = ps' at *
  generalize hm' : mF m j N = m' at *
  generalize hv' : v + (N - j) = v' at *
  unfold Head
  (repeat first | (apply gO; first | (apply gOg; first | refine oz rfl ?_ | refine og rfl (by decide) ?_ | refine of' rfl (by decide) ?_) | (apply gOp; first | refine opt rfl (by decide) rfl ?_ | refine opf rfl (by decide) rfl ?_) | refine ovx (op := .mapup _ _ _ _) rfl ?_ | refine ov1 rfl ?_ | refine omk rfl rfl (Nat.le_of_ble_eq_true rfl) (roomy_small (Nat.le_of_ble_eq_true rfl) (by decide)) rfl rfl rfl ?_ | refine oam rfl rfl rfl (Nat.le_of_ble_eq_true rfl) rfl rfl (roomy_small (Nat.le_of_ble_eq_true rfl) (by decide)) rfl ?_ | refine oak rfl rfl rfl rfl (roomy_small (Nat.le_of_ble_eq_true rfl) (by decide)) rfl ?_ | apply o0) | (apply gR; first | apply rs | refine rr rfl rfl ?_ | apply rb | apply rk | apply rx | apply rl | apply rt | refine rd rfl rfl ?_ | refine rct rfl (by decide) ?_ | refine rcf rfl (by decide) ?_) | (apply gK; first | apply ks | apply kb | apply kl | apply xb | apply xs | apply xl | refine xo (by decide) ?_ | apply kq) | (apply gF; first | (apply gFg; first | refine fz' rfl ?_ | refine fg rfl (by decide) rfl ?_ | refine ff rfl (by decide) ?_) | (apply gFp; first | refine fpt rfl (by decide) rfl ?_ | refine fpf rfl (by decide) rfl ?_) | refine fw (ovx (op := .mapup _ _ _ _) rfl (o0 ⟨rfl, rfl⟩)) ?_ | refine fw (ov1 rfl (o0 ⟨rfl, rfl⟩)) ?_ | refine fw (omk rfl rfl (Nat.le_of_ble_eq_true rfl) (roomy_small (Nat.le_of_ble_eq_true rfl) (by decide)) rfl rfl rfl (o0 ⟨rfl, rfl⟩)) ?_ | refine fw (oam rfl rfl rfl (Nat.le_of_ble_eq_true rfl) rfl rfl (roomy_small (Nat.le_of_ble_eq_true rfl) (by decide)) rfl (o0 ⟨rfl, rfl⟩)) ?_ | refine fw (oak rfl rfl rfl rfl (roomy_small (Nat.le_of_ble_eq_true rfl) (by decide)) rfl (o0 ⟨rfl, rfl⟩)) ?_ | apply fn0) | refine lt' rfl ?_)
  refine oRp (ids := [9, 5, 4, 8, 7]) (s2 := some (lpA 0 .none) :: some (.rows 0 false 1 [[.nils]]) :: some (.rows 0 false 1 [[.d (.int .i64 0)]]) :: some (.rows 0 false 1 [[.ms 6 ts.length 0 (ts.length + 1)]]) :: some (.rows 0 false 1 [[.ms 7 v' 0 N]]) :: some (.rows 0 false 1 [[.ms 8 v' 0 N]]) ::
      some (.rows ts.length false 4 (trR N (u :: ts))) :: some (.rows v' false 1 (lR m')) :: some (.rows v' false 1 (pR ps')) :: [some (.rows 0 false 1 [[nV N]]), none]) hf rfl
      ((reach_of (t := [some [1, 2, 3], some [], some [], some [6], some [7], some [8], some [], some [], some [], some [], none]) ?_ _ _ _).trans rfl) rfl rfl ?_ rfl rfl ?_ ?_
  · show [some [1, 2, 3], some [], some [], some [6], some [7], some [8], some (refsR (trR _ _)), some (refsR (lR _)), some (refsR (pR _)), some [], none] = _
    rw [refsR_pR, refsR_lR, refsR_trR]
  · show some (Blk.rows 0 false 1 [[nV 0]]) :: some (.rows 0 false 1 [[.ms 3 v 0 j]]) :: some (.rows 0 false 1 [[.ms 4 v 0 j]]) :: some (.rows v false 1 ((pR ps).map (renL _))) :: [some (.rows v false 1 ((lR m).map (renL _)))] = _
    rw [ren_pR, ren_lR]; rfl
  · show some (lpA 0 .none) :: some (.rows 0 false 1 [[.nils]]) :: some (.rows 0 false 1 [[.d (.int .i64 0)]]) :: some (.rows 0 false 1 [[.ms 6 ts.length 0 (ts.length + 1)]]) :: some (.rows 0 false 1 [[.ms 7 v' 0 N]]) :: some (.rows 0 false 1 [[.ms 8 v' 0 N]]) ::
      some (.rows ts.length false 4 (trR N (u :: ts))) :: some (.rows v' false 1 ((lR m').map (renL _))) :: some (.rows v' false 1 ((pR ps').map (renL _))) :: [some (.rows 0 false 1 [[nV N]]), none] = _
    rw [ren_pR, ren_lR]
  (repeat first | (apply gO; first | (apply gOg; first | refine oz rfl ?_ | refine og rfl (by decide) ?_ | refine of' rfl (by decide) ?_) | (apply gOp; first | refine opt rfl (by decide) rfl ?_ | refine opf rfl (by decide) rfl ?_) | refine ovx (op := .mapup _ _ _ _) rfl ?_ | refine ov1 rfl ?_ | refine omk rfl rfl (Nat.le_of_ble_eq_true rfl) (roomy_small (Nat.le_of_ble_eq_true rfl) (by decide)) rfl rfl rfl ?_ | refine oam rfl rfl rfl (Nat.le_of_ble_eq_true rfl) rfl rfl (roomy_small (Nat.le_of_ble_eq_true rfl) (by decide)) rfl ?_ | refine oak rfl rfl rfl rfl (roomy_small (Nat.le_of_ble_eq_true rfl) (by decide)) rfl ?_ | apply o0) | (apply gR; first | apply rs | refine rr rfl rfl ?_ | apply rb | apply rk | apply rx | apply rl | apply rt | refine rd rfl rfl ?_ | refine rct rfl (by decide) ?_ | refine rcf rfl (by decide) ?_) | (apply gK; first | apply ks | apply kb | apply kl | apply xb | apply xs | apply xl | refine xo (by decide) ?_ | apply kq) | (apply gF; first | (apply gFg; first | refine fz' rfl ?_ | refine fg rfl (by decide) rfl ?_ | refine ff rfl (by decide) ?_) | (apply gFp; first | refine fpt rfl (by decide) rfl ?_ | refine fpf rfl (by decide) rfl ?_) | refine fw (ovx (op := .mapup _ _ _ _) rfl (o0 ⟨rfl, rfl⟩)) ?_ | refine fw (ov1 rfl (o0 ⟨rfl, rfl⟩)) ?_ | refine fw (omk rfl rfl (Nat.le_of_ble_eq_true rfl) (roomy_small (Nat.le_of_ble_eq_true rfl) (by decide)) rfl rfl rfl (o0 ⟨rfl, rfl⟩)) ?_ | refine fw (oam rfl rfl rfl (Nat.le_of_ble_eq_true rfl) rfl rfl (roomy_small (Nat.le_of_ble_eq_true rfl) (by decide)) rfl (o0 ⟨rfl, rfl⟩)) ?_ | refine fw (oak rfl rfl rfl rfl (roomy_small (Nat.le_of_ble_eq_true rfl) (by decide)) rfl (o0 ⟨rfl, rfl⟩)) ?_ | apply fn0) | refine lt' rfl ?_)
  refine oVrp (id := 0) (id' := 0) (ids := [0, 1, 2, 3, 6]) (s2 := some (lpA 0 .none) :: some (.rows 0 false 1 [[.nils]]) :: some (.rows 0 false 1 [[.d (.int .i64 0)]]) :: some (.rows 0 false 1 [[.ms 6 (ts ++ [trT N ps j]).length 0 ((ts ++ [trT N ps j]).length + 1)]]) :: some (.rows 0 false 1 [[.ms 7 v' 0 N]]) :: some (.rows 0 false 1 [[.ms 8 v' 0 N]]) ::
      some (.rows (ts ++ [trT N ps j]).length false 4 (trR N (u :: (ts ++ [trT N ps j])))) :: some (.rows v' false 1 (lR m')) :: some (.rows v' false 1 (pR ps')) :: [some (.rows 0 false 1 [[nV N]]), some (.rows 0 false 4 [(trC N (trT N ps j)).map V.d])]) rfl hr rfl
      ((reach_of (t := [some [1, 2, 3], some [], some [], some [6], some [7], some [8], some [], some [], some [], some [], some []]) ?_ _ _ _).trans rfl) rfl rfl rfl ?_ rfl rfl ?_ ?_
  · show [some [1, 2, 3], some [], some [], some [6], some [7], some [8], some (refsR (trR _ _)), some (refsR (lR _)), some (refsR (pR _)), some [], some []] = _
    rw [refsR_pR, refsR_lR, refsR_trR]
  · show some (lpA 0 .none) :: some (.rows 0 false 1 [[.nils]]) :: some (.rows 0 false 1 [[.d (.int .i64 0)]]) :: some (.rows 0 false 1 [[.ms 4 ts.length 0 (ts.length + 1)]]) :: [some (.rows ts.length false 4 ((trR N (u :: ts)).map (renL _)))] = _
    rw [ren_trR]; rfl
  · show some (lpA 0 .none) :: some (.rows 0 false 1 [[.nils]]) :: some (.rows 0 false 1 [[.d (.int .i64 0)]]) :: some (.rows 0 false 1 [[.ms 6 (ts ++ [trT N ps j]).length 0 ((ts ++ [trT N ps j]).length + 1)]]) :: some (.rows 0 false 1 [[.ms 7 v' 0 N]]) :: some (.rows 0 false 1 [[.ms 8 v' 0 N]]) ::
      some (.rows (ts ++ [trT N ps j]).length false 4 ((trR N (u :: (ts ++ [trT N ps j]))).map (renL _))) :: some (.rows v' false 1 (lR m')) :: some (.rows v' false 1 (pR ps')) :: [some (.rows 0 false 1 [[nV N]]), some (.rows 0 false 4 [(trC N (trT N ps j)).map V.d])] = _
    rw [ren_trR]
  (repeat first | (apply gO; first | (apply gOg; first | refine oz rfl ?_ | refine og rfl (by decide) ?_ | refine of' rfl (by decide) ?_) | (apply gOp; first | refine opt rfl (by decide) rfl ?_ | refine opf rfl (by decide) rfl ?_) | refine ovx (op := .mapup _ _ _ _) rfl ?_ | refine ov1 rfl ?_ | refine omk rfl rfl (Nat.le_of_ble_eq_true rfl) (roomy_small (Nat.le_of_ble_eq_true rfl) (by decide)) rfl rfl rfl ?_ | refine oam rfl rfl rfl (Nat.le_of_ble_eq_true rfl) rfl rfl (roomy_small (Nat.le_of_ble_eq_true rfl) (by decide)) rfl ?_ | refine oak rfl rfl rfl rfl (roomy_small (Nat.le_of_ble_eq_true rfl) (by decide)) rfl ?_ | apply o0) | (apply gR; first | apply rs | refine rr rfl rfl ?_ | apply rb | apply rk | apply rx | apply rl | apply rt | refine rd rfl rfl ?_ | refine rct rfl (by decide) ?_ | refine rcf rfl (by decide) ?_) | (apply gK; first | apply ks | apply kb | apply kl | apply xb | apply xs | apply xl | refine xo (by decide) ?_ | apply kq) | (apply gF; first | (apply gFg; first | refine fz' rfl ?_ | refine fg rfl (by decide) rfl ?_ | refine ff rfl (by decide) ?_) | (apply gFp; first | refine fpt rfl (by decide) rfl ?_ | refine fpf rfl (by decide) rfl ?_) | refine fw (ovx (op := .mapup _ _ _ _) rfl (o0 ⟨rfl, rfl⟩)) ?_ | refine fw (ov1 rfl (o0 ⟨rfl, rfl⟩)) ?_ | refine fw (omk rfl rfl (Nat.le_of_ble_eq_true rfl) (roomy_small (Nat.le_of_ble_eq_true rfl) (by decide)) rfl rfl rfl (o0 ⟨rfl, rfl⟩)) ?_ | refine fw (oam rfl rfl rfl (Nat.le_of_ble_eq_true rfl) rfl rfl (roomy_small (Nat.le_of_ble_eq_true rfl) (by decide)) rfl (o0 ⟨rfl, rfl⟩)) ?_ | refine fw (oak rfl rfl rfl rfl (roomy_small (Nat.le_of_ble_eq_true rfl) (by decide)) rfl (o0 ⟨rfl, rfl⟩)) ?_ | apply fn0) | refine lt' rfl ?_ | refine oln rfl rfl rfl ?_)
  have hwN : IntKind.i64.wrap ((N : Int) - 1) = ((N - 1 : Nat) : Int) := by rw [show (N : Int) - 1 = ((N - 1 : Nat) : Int) by omega]; exact wrapN _ (by omega)
  rw [hwN]
  refine hdp (s1 := stR N u (ts ++ [trT N ps j]) v' N (pR ps') m') (ids := [0, 1, 2, 3, 4, 5, 6, 7, 8]) rfl ((gc_tab (t := [some [1, 2, 3], some [], some [], some [6], some [7], some [8], some [], some [], some [], some [], some []]) ?_ 4 _).trans rfl) rfl ?_ (back (by omega) hpN hmN z hz h0 (fun e a b c d => ?_) (N - 1 - z) (N - 1) (by omega) (by omega) hone)
  · show [some [1, 2, 3], some [], some [], some [6], some [7], some [8], some (refsR (trR _ _)), some (refsR (lR _)), some (refsR (pR _)), some [], some []] = _
    rw [refsR_pR, refsR_lR, refsR_trR]
  · show some (lpA 0 .none) :: some (.rows 0 false 1 [[.nils]]) :: some (.rows 0 false 1 [[.d (.int .i64 0)]]) :: some (.rows 0 false 1 [[.ms 6 (ts ++ [trT N ps j]).length 0 ((ts ++ [trT N ps j]).length + 1)]]) :: some (.rows 0 false 1 [[.ms 7 v' 0 N]]) :: some (.rows 0 false 1 [[.ms 8 v' 0 N]]) ::
      some (.rows (ts ++ [trT N ps j]).length false 4 ((trR N (u :: (ts ++ [trT N ps j]))).map (renL _))) :: some (.rows v' false 1 ((lR m').map (renL _))) :: [some (.rows v' false 1 ((pR ps').map (renL _)))] = _
    rw [ren_trR, ren_lR, ren_pR]; rfl
  · (repeat first | (apply gO; first | (apply gOg; first | refine oz rfl ?_ | refine og rfl (by decide) ?_ | refine of' rfl (by decide) ?_) | (apply gOp; first | refine opt rfl (by decide) rfl ?_ | refine opf rfl (by decide) rfl ?_) | refine ovx (op := .mapup _ _ _ _) rfl ?_ | refine ov1 rfl ?_ | refine omk rfl rfl (Nat.le_of_ble_eq_true rfl) (roomy_small (Nat.le_of_ble_eq_true rfl) (by decide)) rfl rfl rfl ?_ | refine oam rfl rfl rfl (Nat.le_of_ble_eq_true rfl) rfl rfl (roomy_small (Nat.le_of_ble_eq_true rfl) (by decide)) rfl ?_ | refine oak rfl rfl rfl rfl (roomy_small (Nat.le_of_ble_eq_true rfl) (by decide)) rfl ?_ | apply o0) | (apply gR; first | apply rs | refine rr rfl rfl ?_ | apply rb | apply rk | apply rx | apply rl | apply rt | refine rd rfl rfl ?_ | refine rct rfl (by decide) ?_ | refine rcf rfl (by decide) ?_) | (apply gK; first | apply ks | apply kb | apply kl | apply xb | apply xs | apply xl | refine xo (by decide) ?_ | apply kq) | (apply gF; first | (apply gFg; first | refine fz' rfl ?_ | refine fg rfl (by decide) rfl ?_ | refine ff rfl (by decide) ?_) | (apply gFp; first | refine fpt rfl (by decide) rfl ?_ | refine fpf rfl (by decide) rfl ?_) | refine fw (ovx (op := .mapup _ _ _ _) rfl (o0 ⟨rfl, rfl⟩)) ?_ | refine fw (ov1 rfl (o0 ⟨rfl, rfl⟩)) ?_ | refine fw (omk rfl rfl (Nat.le_of_ble_eq_true rfl) (roomy_small (Nat.le_of_ble_eq_true rfl) (by decide)) rfl rfl rfl (o0 ⟨rfl, rfl⟩)) ?_ | refine fw (oam rfl rfl rfl (Nat.le_of_ble_eq_true rfl) rfl rfl (roomy_small (Nat.le_of_ble_eq_true rfl) (by decide)) rfl (o0 ⟨rfl, rfl⟩)) ?_ | refine fw (oak rfl rfl rfl rfl (roomy_small (Nat.le_of_ble_eq_true rfl) (by decide)) rfl (o0 ⟨rfl, rfl⟩)) ?_ | apply fn0) | refine lt' rfl ?_)
    refine hdp (vs0 := [.yield 0, mPtr N, .ptr 4 0 0 0, .ptr 5 0 0 0]) (ids := [0, 1, 2, 3, 4, 5, 6, 7, 8]) ?_ ((gc_tab (t := [some [1, 2, 3], some [], some [], some [6], some [7], some [8], some [], some [], some []]) ?_ 4 _).trans rfl) rfl ?_ h
    · show [e 0, e 1, e 3, e 4] = _
      rw [a, b, c, d]
    · show [some [1, 2, 3], some [], some [], some [6], some [7], some [8], some (refsR (trR _ _)), some (refsR (lR _)), some (refsR (pR _))] = _
      rw [refsR_pR, refsR_lR, refsR_trR]
    · show some (lpA 0 .none) :: some (.rows 0 false 1 [[.nils]]) :: some (.rows 0 false 1 [[.d (.int .i64 0)]]) :: some (.rows 0 false 1 [[.ms 6 (ts ++ [trT N ps j]).length 0 ((ts ++ [trT N ps j]).length + 1)]]) :: some (.rows 0 false 1 [[.ms 7 v' 0 (z + 1)]]) :: some (.rows 0 false 1 [[.ms 8 v' 0 (z + 1)]]) ::
        some (.rows (ts ++ [trT N ps j]).length false 4 ((trR N (u :: (ts ++ [trT N ps j]))).map (renL _))) :: some (.rows v' false 1 ((lR m').map (renL _))) :: [some (.rows v' false 1 ((pR (ps'.set z 1)).map (renL _)))] = _
      rw [ren_trR, ren_lR, ren_pR]; rfl
end Go.Proofs.YtboekhenldifhaaGreat
/- TraceLimits, a module of fair draws: one trace too many. -/
set_option linter.unusedSimpArgs false
set_option linter.unusedVariables false
namespace Go.Proofs.YtboekhenldifhaaGreat
open Go.IntWalk
attribute [local irreducible] roomy IntKind.wrap
set_option maxHeartbeats 4000000
set_option maxRecDepth 100000
theorem last {N v j m : Nat} {u : List D × Int} {ts : List (List D × Int)} {ps : List Nat} (T : Known1) {K : List Fr} {Q : Out → Env → Store → Prop} (h1 : 0 < N) (hN : N ≤ 16) (hj : j ≤ N) (hp : j ≤ ps.length) (hm : j ≤ m) (hb : ∀ b ∈ ps, b < 2) (hl : ts.length + 1 = 20000)
    (hQ : ∀ e s, fin false 4 [] .ret e s = some (.d (.tuple []), some (lpA 2 .ret) :: (resS .nils 9 ++ outS 4 N (u :: ts))) → Q .ret e s) :
    Head VP 4 [0, 1, 3, 4] c37_29 [.yield 0, mPtr N, .ptr 4 0 0 0, .ptr 5 0 0 0] (stR N u ts v j (pR ps) m) K Q := by
  have hf := follow (v := v) T h1 hN (by omega) hp hm hb
  rw [show max j N = N by omega] at hf
  have hr := roundZ N (trT N ps j) u ts hl
  have hpN : N ≤ (psF ps j N).length := by
    unfold psF; split
    · omega
    · simp; omega
  have hmN : N ≤ mF m j N := by unfold mF; split <;> omega
  generalize hps : psF ps j N = ps' at *
  generalize hm' : mF m j N = m' at *
  generalize hv' : v + (N - j) = v' at *
  unfold Head
  (repeat first | (apply gO; first | (apply gOg; first | refine oz rfl ?_ | refine og rfl (by decide) ?_ | refine of' rfl (by decide) ?_) | (apply gOp; first | refine opt rfl (by decide) rfl ?_ | refine opf rfl (by decide) rfl ?_) | refine ovx (op := .mapup _ _ _ _) rfl ?_ | refine ov1 rfl ?_ | refine omk rfl rfl (Nat.le_of_ble_eq_true rfl) (roomy_small (Nat.le_of_ble_eq_true rfl) (by decide)) rfl rfl rfl ?_ | refine oam rfl rfl rfl (Nat.le_of_ble_eq_true rfl) rfl rfl (roomy_small (Nat.le_of_ble_eq_true rfl) (by decide)) rfl ?_ | refine oak rfl rfl rfl rfl (roomy_small (Nat.le_of_ble_eq_true rfl) (by decide)) rfl ?_ | apply o0) | (apply gR; first | apply rs | refine rr rfl rfl ?_ | apply rb | apply rk | apply rx | apply rl | apply rt | refine rd rfl rfl ?_ | refine rct rfl (by decide) ?_ | refine rcf rfl (by decide) ?_) | (apply gK; first | apply ks | apply kb | apply kl | apply xb | apply xs | apply xl | refine xo (by decide) ?_ | apply kq) | (apply gF; first | (apply gFg; first | refine fz' rfl ?_ | refine fg rfl (by decide) rfl ?_ | refine ff rfl (by decide) ?_) | (apply gFp; first | refine fpt rfl (by decide) rfl ?_ | refine fpf rfl (by decide) rfl ?_) | refine fw (ovx (op := .mapup _ _ _ _) rfl (o0 ⟨rfl, rfl⟩)) ?_ | refine fw (ov1 rfl (o0 ⟨rfl, rfl⟩)) ?_ | refine fw (omk rfl rfl (Nat.le_of_ble_eq_true rfl) (roomy_small (Nat.le_of_ble_eq_true rfl) (by decide)) rfl rfl rfl (o0 ⟨rfl, rfl⟩)) ?_ | refine fw (oam rfl rfl rfl (Nat.le_of_ble_eq_true rfl) rfl rfl (roomy_small (Nat.le_of_ble_eq_true rfl) (by decide)) rfl (o0 ⟨rfl, rfl⟩)) ?_ | refine fw (oak rfl rfl rfl rfl (roomy_small (Nat.le_of_ble_eq_true rfl) (by decide)) rfl (o0 ⟨rfl, rfl⟩)) ?_ | apply fn0) | refine lt' rfl ?_)
  refine oRp (ids := [9, 5, 4, 8, 7]) (s2 := some (lpA 0 .none) :: some (.rows 0 false 1 [[.nils]]) :: some (.rows 0 false 1 [[.d (.int .i64 0)]]) :: some (.rows 0 false 1 [[.ms 6 ts.length 0 (ts.length + 1)]]) :: some (.rows 0 false 1 [[.ms 7 v' 0 N]]) :: some (.rows 0 false 1 [[.ms 8 v' 0 N]]) ::
      some (.rows ts.length false 4 (trR N (u :: ts))) :: some (.rows v' false 1 (lR m')) :: some (.rows v' false 1 (pR ps')) :: [some (.rows 0 false 1 [[nV N]]), none]) hf rfl
      ((reach_of (t := [some [1, 2, 3], some [], some [], some [6], some [7], some [8], some [], some [], some [], some [], none]) ?_ _ _ _).trans rfl) rfl rfl ?_ rfl rfl ?_ ?_
  · show [some [1, 2, 3], some [], some [], some [6], some [7], some [8], some (refsR (trR _ _)), some (refsR (lR _)), some (refsR (pR _)), some [], none] = _
    rw [refsR_pR, refsR_lR, refsR_trR]
  · show some (Blk.rows 0 false 1 [[nV 0]]) :: some (.rows 0 false 1 [[.ms 3 v 0 j]]) :: some (.rows 0 false 1 [[.ms 4 v 0 j]]) :: some (.rows v false 1 ((pR ps).map (renL _))) :: [some (.rows v false 1 ((lR m).map (renL _)))] = _
    rw [ren_pR, ren_lR]; rfl
  · show some (lpA 0 .none) :: some (.rows 0 false 1 [[.nils]]) :: some (.rows 0 false 1 [[.d (.int .i64 0)]]) :: some (.rows 0 false 1 [[.ms 6 ts.length 0 (ts.length + 1)]]) :: some (.rows 0 false 1 [[.ms 7 v' 0 N]]) :: some (.rows 0 false 1 [[.ms 8 v' 0 N]]) ::
      some (.rows ts.length false 4 (trR N (u :: ts))) :: some (.rows v' false 1 ((lR m').map (renL _))) :: some (.rows v' false 1 ((pR ps').map (renL _))) :: [some (.rows 0 false 1 [[nV N]]), none] = _
    rw [ren_pR, ren_lR]
  (repeat first | (apply gO; first | (apply gOg; first | refine oz rfl ?_ | refine og rfl (by decide) ?_ | refine of' rfl (by decide) ?_) | (apply gOp; first | refine opt rfl (by decide) rfl ?_ | refine opf rfl (by decide) rfl ?_) | refine ovx (op := .mapup _ _ _ _) rfl ?_ | refine ov1 rfl ?_ | refine omk rfl rfl (Nat.le_of_ble_eq_true rfl) (roomy_small (Nat.le_of_ble_eq_true rfl) (by decide)) rfl rfl rfl ?_ | refine oam rfl rfl rfl (Nat.le_of_ble_eq_true rfl) rfl rfl (roomy_small (Nat.le_of_ble_eq_true rfl) (by decide)) rfl ?_ | refine oak rfl rfl rfl rfl (roomy_small (Nat.le_of_ble_eq_true rfl) (by decide)) rfl ?_ | apply o0) | (apply gR; first | apply rs | refine rr rfl rfl ?_ | apply rb | apply rk | apply rx | apply rl | apply rt | refine rd rfl rfl ?_ | refine rct rfl (by decide) ?_ | refine rcf rfl (by decide) ?_) | (apply gK; first | apply ks | apply kb | apply kl | apply xb | apply xs | apply xl | refine xo (by decide) ?_ | apply kq) | (apply gF; first | (apply gFg; first | refine fz' rfl ?_ | refine fg rfl (by decide) rfl ?_ | refine ff rfl (by decide) ?_) | (apply gFp; first | refine fpt rfl (by decide) rfl ?_ | refine fpf rfl (by decide) rfl ?_) | refine fw (ovx (op := .mapup _ _ _ _) rfl (o0 ⟨rfl, rfl⟩)) ?_ | refine fw (ov1 rfl (o0 ⟨rfl, rfl⟩)) ?_ | refine fw (omk rfl rfl (Nat.le_of_ble_eq_true rfl) (roomy_small (Nat.le_of_ble_eq_true rfl) (by decide)) rfl rfl rfl (o0 ⟨rfl, rfl⟩)) ?_ | refine fw (oam rfl rfl rfl (Nat.le_of_ble_eq_true rfl) rfl rfl (roomy_small (Nat.le_of_ble_eq_true rfl) (by decide)) rfl (o0 ⟨rfl, rfl⟩)) ?_ | refine fw (oak rfl rfl rfl rfl (roomy_small (Nat.le_of_ble_eq_true rfl) (by decide)) rfl (o0 ⟨rfl, rfl⟩)) ?_ | apply fn0) | refine lt' rfl ?_)
  refine oVrp (id := 0) (id' := 0) (ids := [0, 1, 2, 3, 6]) (s2 := some (lpA 2 .ret) :: some (.rows 0 false 1 [[.nils]]) :: some (.rows 0 false 1 [[.d (.int .i64 9)]]) :: some (.rows 0 false 1 [[.ms 6 ts.length 0 (ts.length + 1)]]) :: some (.rows 0 false 1 [[.ms 7 v' 0 N]]) :: some (.rows 0 false 1 [[.ms 8 v' 0 N]]) ::
      some (.rows ts.length false 4 (trR N (u :: ts))) :: some (.rows v' false 1 (lR m')) :: some (.rows v' false 1 (pR ps')) :: [some (.rows 0 false 1 [[nV N]]), some (.rows 0 false 4 [(trC N (trT N ps j)).map V.d])]) rfl hr rfl
      ((reach_of (t := [some [1, 2, 3], some [], some [], some [6], some [7], some [8], some [], some [], some [], some [], some []]) ?_ _ _ _).trans rfl) rfl rfl rfl ?_ rfl rfl ?_ ?_
  · show [some [1, 2, 3], some [], some [], some [6], some [7], some [8], some (refsR (trR _ _)), some (refsR (lR _)), some (refsR (pR _)), some [], some []] = _
    rw [refsR_pR, refsR_lR, refsR_trR]
  · show some (lpA 0 .none) :: some (.rows 0 false 1 [[.nils]]) :: some (.rows 0 false 1 [[.d (.int .i64 0)]]) :: some (.rows 0 false 1 [[.ms 4 ts.length 0 (ts.length + 1)]]) :: [some (.rows ts.length false 4 ((trR N (u :: ts)).map (renL _)))] = _
    rw [ren_trR]; rfl
  · show some (lpA 2 .ret) :: some (.rows 0 false 1 [[.nils]]) :: some (.rows 0 false 1 [[.d (.int .i64 9)]]) :: some (.rows 0 false 1 [[.ms 6 ts.length 0 (ts.length + 1)]]) :: some (.rows 0 false 1 [[.ms 7 v' 0 N]]) :: some (.rows 0 false 1 [[.ms 8 v' 0 N]]) ::
      some (.rows ts.length false 4 ((trR N (u :: ts)).map (renL _))) :: some (.rows v' false 1 (lR m')) :: some (.rows v' false 1 (pR ps')) :: [some (.rows 0 false 1 [[nV N]]), some (.rows 0 false 4 [(trC N (trT N ps j)).map V.d])] = _
    rw [ren_trR]
  (repeat first | (apply gO; first | (apply gOg; first | refine oz rfl ?_ | refine og rfl (by decide) ?_ | refine of' rfl (by decide) ?_) | (apply gOp; first | refine opt rfl (by decide) rfl ?_ | refine opf rfl (by decide) rfl ?_) | refine ovx (op := .mapup _ _ _ _) rfl ?_ | refine ov1 rfl ?_ | refine omk rfl rfl (Nat.le_of_ble_eq_true rfl) (roomy_small (Nat.le_of_ble_eq_true rfl) (by decide)) rfl rfl rfl ?_ | refine oam rfl rfl rfl (Nat.le_of_ble_eq_true rfl) rfl rfl (roomy_small (Nat.le_of_ble_eq_true rfl) (by decide)) rfl ?_ | refine oak rfl rfl rfl rfl (roomy_small (Nat.le_of_ble_eq_true rfl) (by decide)) rfl ?_ | apply o0) | (apply gR; first | apply rs | refine rr rfl rfl ?_ | apply rb | apply rk | apply rx | apply rl | apply rt | refine rd rfl rfl ?_ | refine rct rfl (by decide) ?_ | refine rcf rfl (by decide) ?_) | (apply gK; first | apply ks | apply kb | apply kl | apply xb | apply xs | apply xl | refine xo (by decide) ?_ | apply kq) | (apply gF; first | (apply gFg; first | refine fz' rfl ?_ | refine fg rfl (by decide) rfl ?_ | refine ff rfl (by decide) ?_) | (apply gFp; first | refine fpt rfl (by decide) rfl ?_ | refine fpf rfl (by decide) rfl ?_) | refine fw (ovx (op := .mapup _ _ _ _) rfl (o0 ⟨rfl, rfl⟩)) ?_ | refine fw (ov1 rfl (o0 ⟨rfl, rfl⟩)) ?_ | refine fw (omk rfl rfl (Nat.le_of_ble_eq_true rfl) (roomy_small (Nat.le_of_ble_eq_true rfl) (by decide)) rfl rfl rfl (o0 ⟨rfl, rfl⟩)) ?_ | refine fw (oam rfl rfl rfl (Nat.le_of_ble_eq_true rfl) rfl rfl (roomy_small (Nat.le_of_ble_eq_true rfl) (by decide)) rfl (o0 ⟨rfl, rfl⟩)) ?_ | refine fw (oak rfl rfl rfl rfl (roomy_small (Nat.le_of_ble_eq_true rfl) (by decide)) rfl (o0 ⟨rfl, rfl⟩)) ?_ | apply fn0) | refine lt' rfl ?_)
  refine hQ _ _ ?_
  refine fin_gc (xs := []) (x := .tuple []) (ids := [0, 1, 2, 3, 6]) rfl rfl ((gc_tab (t := [some [1, 2, 3], some [], some [], some [6], some [7], some [8], some [], some [], some [], some [], some []]) ?_ 4 _).trans rfl) ?_
  · show [some [1, 2, 3], some [], some [], some [6], some [7], some [8], some (refsR (trR _ _)), some (refsR (lR _)), some (refsR (pR _)), some [], some []] = _
    rw [refsR_pR, refsR_lR, refsR_trR]
  · show some (lpA 2 .ret) :: some (.rows 0 false 1 [[.nils]]) :: some (.rows 0 false 1 [[.d (.int .i64 9)]]) :: some (.rows 0 false 1 [[.ms 4 ts.length 0 (ts.length + 1)]]) :: [some (.rows ts.length false 4 ((trR N (u :: ts)).map (renL _)))] = _
    rw [ren_trR]; rfl
end Go.Proofs.YtboekhenldifhaaGreat
/- TraceLimits, a module of fair draws: the first trace, and all of them. -/
set_option linter.unusedSimpArgs false
set_option linter.unusedVariables false
namespace Go.Proofs.YtboekhenldifhaaGreat
open Go.IntWalk
attribute [local irreducible] roomy IntKind.wrap
set_option maxHeartbeats 4000000
set_option maxRecDepth 100000
def stZ : Store := some (lpA 0 .none) :: some (.rows 0 false 1 [[.nils]]) :: some (.rows 0 false 1 [[.d (.int .i64 0)]]) :: some (.rows 0 false 1 [[.nils]]) :: some (.rows 0 false 1 [[.nils]]) :: [some (.rows 0 false 1 [[.nils]])]
/-- The first run, that draws zeros. -/
def First (N : Nat) (t : List D × Int) : Prop := Ret VP (.fn 38) [.d (modD N), .func 39 [] [.ptr 0 0 0 0, .ptr 1 0 0 0, .ptr 2 0 0 0]] [some (.rows 0 false 1 [[nV 0]]), some (.rows 0 false 1 [[.nils]]), some (.rows 0 false 1 [[.nils]])] (.d (.tuple [.agg (trC N t), .int .i64 0])) (stK N (N - 1) N (List.replicate N 0) N)
theorem turn0 {N : Nat} {t : List D × Int} (hF : First N t) {K : List Fr} {Q : Out → Env → Store → Prop} (h1 : 0 < N) (hN : N ≤ 16)
    (h : Head VP 4 [0, 1, 3, 4] c37_29 [.yield 0, mPtr N, .ptr 4 0 0 0, .ptr 5 0 0 0] (stR N t [] (N - 1) N (pR ((List.replicate N 0).set (N - 1) 1)) N) K Q) :
    Head VP 4 [0, 1, 3, 4] c37_29 [.yield 0, mPtr N, .ptr 4 0 0 0, .ptr 5 0 0 0] stZ K Q := by
  have hr := roundA N t [] (by show 0 < 20000; omega)
  have hf := hF
  unfold First at hf
  have hpN : N ≤ (List.replicate N 0).length := by rw [List.length_replicate]; exact Nat.le_refl _
  have hz0 : (List.replicate N 0)[N - 1]? = some 0 := by rw [List.getElem?_replicate, if_pos (by omega)]
  generalize List.replicate N 0 = ps' at *
  generalize hv' : N - 1 = v' at *
  unfold Head
  (repeat first | (apply gO; first | (apply gOg; first | refine oz rfl ?_ | refine og rfl (by decide) ?_ | refine of' rfl (by decide) ?_) | (apply gOp; first | refine opt rfl (by decide) rfl ?_ | refine opf rfl (by decide) rfl ?_) | refine ovx (op := .mapup _ _ _ _) rfl ?_ | refine ov1 rfl ?_ | refine omk rfl rfl (Nat.le_of_ble_eq_true rfl) (roomy_small (Nat.le_of_ble_eq_true rfl) (by decide)) rfl rfl rfl ?_ | refine oam rfl rfl rfl (Nat.le_of_ble_eq_true rfl) rfl rfl (roomy_small (Nat.le_of_ble_eq_true rfl) (by decide)) rfl ?_ | refine oak rfl rfl rfl rfl (roomy_small (Nat.le_of_ble_eq_true rfl) (by decide)) rfl ?_ | apply o0) | (apply gR; first | apply rs | refine rr rfl rfl ?_ | apply rb | apply rk | apply rx | apply rl | apply rt | refine rd rfl rfl ?_ | refine rct rfl (by decide) ?_ | refine rcf rfl (by decide) ?_) | (apply gK; first | apply ks | apply kb | apply kl | apply xb | apply xs | apply xl | refine xo (by decide) ?_ | apply kq) | (apply gF; first | (apply gFg; first | refine fz' rfl ?_ | refine fg rfl (by decide) rfl ?_ | refine ff rfl (by decide) ?_) | (apply gFp; first | refine fpt rfl (by decide) rfl ?_ | refine fpf rfl (by decide) rfl ?_) | refine fw (ovx (op := .mapup _ _ _ _) rfl (o0 ⟨rfl, rfl⟩)) ?_ | refine fw (ov1 rfl (o0 ⟨rfl, rfl⟩)) ?_ | refine fw (omk rfl rfl (Nat.le_of_ble_eq_true rfl) (roomy_small (Nat.le_of_ble_eq_true rfl) (by decide)) rfl rfl rfl (o0 ⟨rfl, rfl⟩)) ?_ | refine fw (oam rfl rfl rfl (Nat.le_of_ble_eq_true rfl) rfl rfl (roomy_small (Nat.le_of_ble_eq_true rfl) (by decide)) rfl (o0 ⟨rfl, rfl⟩)) ?_ | refine fw (oak rfl rfl rfl rfl (roomy_small (Nat.le_of_ble_eq_true rfl) (by decide)) rfl (o0 ⟨rfl, rfl⟩)) ?_ | apply fn0) | refine lt' rfl ?_)
  refine oRp (ids := [6, 5, 4]) (s2 := some (lpA 0 .none) :: some (.rows 0 false 1 [[.nils]]) :: some (.rows 0 false 1 [[.d (.int .i64 0)]]) :: some (.rows 0 false 1 [[.nils]]) :: some (.rows 0 false 1 [[.ms 9 v' 0 N]]) :: some (.rows 0 false 1 [[.ms 8 v' 0 N]]) ::
      some (.rows 0 false 1 [[nV N]]) :: none :: some (.rows v' false 1 (pR ps')) :: [some (.rows v' false 1 (lR N))]) hf rfl rfl rfl rfl rfl rfl rfl ?_ ?_
  · show some (lpA 0 .none) :: some (.rows 0 false 1 [[.nils]]) :: some (.rows 0 false 1 [[.d (.int .i64 0)]]) :: some (.rows 0 false 1 [[.nils]]) :: some (.rows 0 false 1 [[.ms 9 v' 0 N]]) :: some (.rows 0 false 1 [[.ms 8 v' 0 N]]) ::
      some (.rows 0 false 1 [[nV N]]) :: none :: some (.rows v' false 1 ((pR ps').map (renL _))) :: [some (.rows v' false 1 ((lR N).map (renL _)))] = _
    rw [ren_pR, ren_lR]
  (repeat first | (apply gO; first | (apply gOg; first | refine oz rfl ?_ | refine og rfl (by decide) ?_ | refine of' rfl (by decide) ?_) | (apply gOp; first | refine opt rfl (by decide) rfl ?_ | refine opf rfl (by decide) rfl ?_) | refine ovx (op := .mapup _ _ _ _) rfl ?_ | refine ov1 rfl ?_ | refine omk rfl rfl (Nat.le_of_ble_eq_true rfl) (roomy_small (Nat.le_of_ble_eq_true rfl) (by decide)) rfl rfl rfl ?_ | refine oam rfl rfl rfl (Nat.le_of_ble_eq_true rfl) rfl rfl (roomy_small (Nat.le_of_ble_eq_true rfl) (by decide)) rfl ?_ | refine oak rfl rfl rfl rfl (roomy_small (Nat.le_of_ble_eq_true rfl) (by decide)) rfl ?_ | apply o0) | (apply gR; first | apply rs | refine rr rfl rfl ?_ | apply rb | apply rk | apply rx | apply rl | apply rt | refine rd rfl rfl ?_ | refine rct rfl (by decide) ?_ | refine rcf rfl (by decide) ?_) | (apply gK; first | apply ks | apply kb | apply kl | apply xb | apply xs | apply xl | refine xo (by decide) ?_ | apply kq) | (apply gF; first | (apply gFg; first | refine fz' rfl ?_ | refine fg rfl (by decide) rfl ?_ | refine ff rfl (by decide) ?_) | (apply gFp; first | refine fpt rfl (by decide) rfl ?_ | refine fpf rfl (by decide) rfl ?_) | refine fw (ovx (op := .mapup _ _ _ _) rfl (o0 ⟨rfl, rfl⟩)) ?_ | refine fw (ov1 rfl (o0 ⟨rfl, rfl⟩)) ?_ | refine fw (omk rfl rfl (Nat.le_of_ble_eq_true rfl) (roomy_small (Nat.le_of_ble_eq_true rfl) (by decide)) rfl rfl rfl (o0 ⟨rfl, rfl⟩)) ?_ | refine fw (oam rfl rfl rfl (Nat.le_of_ble_eq_true rfl) rfl rfl (roomy_small (Nat.le_of_ble_eq_true rfl) (by decide)) rfl (o0 ⟨rfl, rfl⟩)) ?_ | refine fw (oak rfl rfl rfl rfl (roomy_small (Nat.le_of_ble_eq_true rfl) (by decide)) rfl (o0 ⟨rfl, rfl⟩)) ?_ | apply fn0) | refine lt' rfl ?_)
  refine oVrp (id := 0) (id' := 0) (ids := [0, 1, 2, 3]) (s2 := some (lpA 0 .none) :: some (.rows 0 false 1 [[.nils]]) :: some (.rows 0 false 1 [[.d (.int .i64 0)]]) :: some (.rows 0 false 1 [[.ms 10 0 0 1]]) :: some (.rows 0 false 1 [[.ms 9 v' 0 N]]) :: some (.rows 0 false 1 [[.ms 8 v' 0 N]]) ::
      some (.rows 0 false 1 [[nV N]]) :: some (.rows 0 false 4 [(trC N t).map V.d]) :: some (.rows v' false 1 (pR ps')) :: some (.rows v' false 1 (lR N)) :: [some (.rows 0 false 4 (trR N [t]))]) rfl hr rfl rfl rfl rfl rfl rfl rfl rfl rfl ?_
  (repeat first | (apply gO; first | (apply gOg; first | refine oz rfl ?_ | refine og rfl (by decide) ?_ | refine of' rfl (by decide) ?_) | (apply gOp; first | refine opt rfl (by decide) rfl ?_ | refine opf rfl (by decide) rfl ?_) | refine ovx (op := .mapup _ _ _ _) rfl ?_ | refine ov1 rfl ?_ | refine omk rfl rfl (Nat.le_of_ble_eq_true rfl) (roomy_small (Nat.le_of_ble_eq_true rfl) (by decide)) rfl rfl rfl ?_ | refine oam rfl rfl rfl (Nat.le_of_ble_eq_true rfl) rfl rfl (roomy_small (Nat.le_of_ble_eq_true rfl) (by decide)) rfl ?_ | refine oak rfl rfl rfl rfl (roomy_small (Nat.le_of_ble_eq_true rfl) (by decide)) rfl ?_ | apply o0) | (apply gR; first | apply rs | refine rr rfl rfl ?_ | apply rb | apply rk | apply rx | apply rl | apply rt | refine rd rfl rfl ?_ | refine rct rfl (by decide) ?_ | refine rcf rfl (by decide) ?_) | (apply gK; first | apply ks | apply kb | apply kl | apply xb | apply xs | apply xl | refine xo (by decide) ?_ | apply kq) | (apply gF; first | (apply gFg; first | refine fz' rfl ?_ | refine fg rfl (by decide) rfl ?_ | refine ff rfl (by decide) ?_) | (apply gFp; first | refine fpt rfl (by decide) rfl ?_ | refine fpf rfl (by decide) rfl ?_) | refine fw (ovx (op := .mapup _ _ _ _) rfl (o0 ⟨rfl, rfl⟩)) ?_ | refine fw (ov1 rfl (o0 ⟨rfl, rfl⟩)) ?_ | refine fw (omk rfl rfl (Nat.le_of_ble_eq_true rfl) (roomy_small (Nat.le_of_ble_eq_true rfl) (by decide)) rfl rfl rfl (o0 ⟨rfl, rfl⟩)) ?_ | refine fw (oam rfl rfl rfl (Nat.le_of_ble_eq_true rfl) rfl rfl (roomy_small (Nat.le_of_ble_eq_true rfl) (by decide)) rfl (o0 ⟨rfl, rfl⟩)) ?_ | refine fw (oak rfl rfl rfl rfl (roomy_small (Nat.le_of_ble_eq_true rfl) (by decide)) rfl (o0 ⟨rfl, rfl⟩)) ?_ | apply fn0) | refine lt' rfl ?_ | refine oln rfl rfl rfl ?_)
  have hwN : IntKind.i64.wrap ((N : Int) - 1) = ((N - 1 : Nat) : Int) := by rw [show (N : Int) - 1 = ((N - 1 : Nat) : Int) by omega]; exact wrapN _ (by omega)
  rw [hwN, hv']
  refine hdp (s1 := stR N t [] v' N (pR ps') N) (ids := [0, 1, 2, 3, 4, 5, 10, 9, 8]) rfl ((gc_tab (t := [some [1, 2, 3], some [], some [], some [10], some [9], some [8], some [], some [], some [], some [], some []]) ?_ 4 _).trans rfl) rfl ?_ (back (z := v') (by omega) hpN (Nat.le_refl _) (by omega) hz0 (fun e a b c d => ?_) 0 v' (by omega) (by omega) (fun k a b => by omega))
  · show [some [1, 2, 3], some [], some [], some [10], some [9], some [8], some [], some [], some (refsR (pR _)), some (refsR (lR _)), some []] = _
    rw [refsR_pR, refsR_lR]
  · show some (lpA 0 .none) :: some (.rows 0 false 1 [[.nils]]) :: some (.rows 0 false 1 [[.d (.int .i64 0)]]) :: some (.rows 0 false 1 [[.ms 6 0 0 1]]) :: some (.rows 0 false 1 [[.ms 7 v' 0 N]]) :: some (.rows 0 false 1 [[.ms 8 v' 0 N]]) ::
      some (.rows 0 false 4 (trR N [t])) :: some (.rows v' false 1 ((lR N).map (renL _))) :: [some (.rows v' false 1 ((pR ps').map (renL _)))] = _
    rw [ren_lR, ren_pR]; rfl
  · (repeat first | (apply gO; first | (apply gOg; first | refine oz rfl ?_ | refine og rfl (by decide) ?_ | refine of' rfl (by decide) ?_) | (apply gOp; first | refine opt rfl (by decide) rfl ?_ | refine opf rfl (by decide) rfl ?_) | refine ovx (op := .mapup _ _ _ _) rfl ?_ | refine ov1 rfl ?_ | refine omk rfl rfl (Nat.le_of_ble_eq_true rfl) (roomy_small (Nat.le_of_ble_eq_true rfl) (by decide)) rfl rfl rfl ?_ | refine oam rfl rfl rfl (Nat.le_of_ble_eq_true rfl) rfl rfl (roomy_small (Nat.le_of_ble_eq_true rfl) (by decide)) rfl ?_ | refine oak rfl rfl rfl rfl (roomy_small (Nat.le_of_ble_eq_true rfl) (by decide)) rfl ?_ | apply o0) | (apply gR; first | apply rs | refine rr rfl rfl ?_ | apply rb | apply rk | apply rx | apply rl | apply rt | refine rd rfl rfl ?_ | refine rct rfl (by decide) ?_ | refine rcf rfl (by decide) ?_) | (apply gK; first | apply ks | apply kb | apply kl | apply xb | apply xs | apply xl | refine xo (by decide) ?_ | apply kq) | (apply gF; first | (apply gFg; first | refine fz' rfl ?_ | refine fg rfl (by decide) rfl ?_ | refine ff rfl (by decide) ?_) | (apply gFp; first | refine fpt rfl (by decide) rfl ?_ | refine fpf rfl (by decide) rfl ?_) | refine fw (ovx (op := .mapup _ _ _ _) rfl (o0 ⟨rfl, rfl⟩)) ?_ | refine fw (ov1 rfl (o0 ⟨rfl, rfl⟩)) ?_ | refine fw (omk rfl rfl (Nat.le_of_ble_eq_true rfl) (roomy_small (Nat.le_of_ble_eq_true rfl) (by decide)) rfl rfl rfl (o0 ⟨rfl, rfl⟩)) ?_ | refine fw (oam rfl rfl rfl (Nat.le_of_ble_eq_true rfl) rfl rfl (roomy_small (Nat.le_of_ble_eq_true rfl) (by decide)) rfl (o0 ⟨rfl, rfl⟩)) ?_ | refine fw (oak rfl rfl rfl rfl (roomy_small (Nat.le_of_ble_eq_true rfl) (by decide)) rfl (o0 ⟨rfl, rfl⟩)) ?_ | apply fn0) | refine lt' rfl ?_)
    rw [show v' + 1 = N by omega]
    refine hdp (vs0 := [.yield 0, mPtr N, .ptr 4 0 0 0, .ptr 5 0 0 0]) (ids := [0, 1, 2, 3, 4, 5, 6, 7, 8]) ?_ ((gc_tab (t := [some [1, 2, 3], some [], some [], some [6], some [7], some [8], some [], some [], some []]) ?_ 4 _).trans rfl) rfl ?_ h
    · show [e 0, e 1, e 3, e 4] = _
      rw [a, b, c, d]
    · show [some [1, 2, 3], some [], some [], some [6], some [7], some [8], some (refsR (trR _ _)), some (refsR (lR _)), some (refsR (pR _))] = _
      rw [refsR_pR, refsR_lR, refsR_trR]
    · show some (lpA 0 .none) :: some (.rows 0 false 1 [[.nils]]) :: some (.rows 0 false 1 [[.d (.int .i64 0)]]) :: some (.rows 0 false 1 [[.ms 6 0 0 1]]) :: some (.rows 0 false 1 [[.ms 7 v' 0 N]]) :: some (.rows 0 false 1 [[.ms 8 v' 0 N]]) ::
        some (.rows 0 false 4 (trR N [t])) :: some (.rows v' false 1 ((lR N).map (renL _))) :: [some (.rows v' false 1 ((pR (ps'.set v' 1)).map (renL _)))] = _
      rw [ren_lR, ren_pR]; rfl
end Go.Proofs.YtboekhenldifhaaGreat
/- TraceLimits, a module of fair draws: all traces, counted. -/
set_option linter.unusedSimpArgs false
set_option linter.unusedVariables false
namespace Go.Proofs.YtboekhenldifhaaGreat
open Go.IntWalk
attribute [local irreducible] roomy IntKind.wrap
set_option maxHeartbeats 4000000
set_option maxRecDepth 100000
/-- Bits as a number, the first one the greatest. -/
def vl (f : Nat → Nat) : Nat → Nat
  | 0 => 0
  | n + 1 => 2 * vl f n + f n
theorem vl_congr {f g : Nat → Nat} : ∀ n, (∀ k, k < n → f k = g k) → vl f n = vl g n
  | 0, _ => rfl
  | n + 1, h => by simp only [vl, vl_congr n fun k hk => h k (by omega), h n (by omega)]
theorem vl_last {f : Nat → Nat} : ∀ n, (∀ k, f k < 2) → vl f n + 1 < 2 ^ n → ∃ z, z < n ∧ f z = 0 ∧ ∀ k, z < k → k < n → f k = 1
  | 0, _, h => by simp [vl] at h
  | n + 1, h2, h => by
    have hn := h2 n
    rcases (by omega : f n = 0 ∨ f n = 1) with h0 | h1
    · exact ⟨n, by omega, h0, fun k a b => by omega⟩
    · simp only [vl, h1, Nat.pow_succ] at h
      obtain ⟨z, a, b, c⟩ := vl_last n h2 (by omega)
      refine ⟨z, by omega, b, fun k x y => ?_⟩
      by_cases hk : k = n
      · rw [hk]; exact h1
      · exact c k x (by omega)
theorem vl_next {f g : Nat → Nat} {z : Nat} (h0 : f z = 0) (hz : g z = 1) (hlt : ∀ k, k < z → g k = f k) : ∀ d, (∀ k, z < k → k < z + 1 + d → f k = 1) → (∀ k, z < k → g k = 0) → vl g (z + 1 + d) = vl f (z + 1 + d) + 1
  | 0, _, _ => by
    show 2 * vl g z + g z = 2 * vl f z + f z + 1
    rw [h0, hz, vl_congr z hlt]
  | d + 1, h1, hg => by
    have ih := vl_next h0 hz hlt d (fun k a b => h1 k a (by omega)) hg
    show 2 * vl g (z + 1 + d) + g (z + 1 + d) = 2 * vl f (z + 1 + d) + f (z + 1 + d) + 1
    rw [ih, h1 (z + 1 + d) (by omega) (by omega), hg (z + 1 + d) (by omega)]; omega
theorem psF_get {ps : List Nat} {j N k : Nat} (hp : j ≤ ps.length) (hj : j ≤ N) (hk : k < N) : (psF ps j N)[k]? = some (bk ps j k) := by
  unfold psF bk
  by_cases h : N ≤ j
  · rw [if_pos h, if_pos (by omega), List.getD_eq_getElem?_getD, List.getElem?_eq_getElem (by omega)]; rfl
  · rw [if_neg h]
    by_cases hkj : k < j
    · rw [if_pos hkj, List.getElem?_append_left (by rw [List.length_take]; omega), List.getElem?_take, if_pos hkj, List.getD_eq_getElem?_getD, List.getElem?_eq_getElem (by omega)]; rfl
    · rw [if_neg hkj, List.getElem?_append_right (by rw [List.length_take]; omega), List.getElem?_replicate, if_pos (by rw [List.length_take]; omega)]
theorem psF_lt {ps : List Nat} {j N : Nat} (hb : ∀ b ∈ ps, b < 2) : ∀ b ∈ psF ps j N, b < 2 := by
  unfold psF
  split
  · exact hb
  · intro b h
    rcases List.mem_append.1 h with h | h
    · exact hb b (List.mem_of_mem_take h)
    · have := List.eq_of_mem_replicate h; omega
theorem set_lt {l : List Nat} (hb : ∀ b ∈ l, b < 2) (z : Nat) : ∀ b ∈ l.set z 1, b < 2 := by
  intro b h
  rcases List.mem_or_eq_of_mem_set h with h | rfl
  · exact hb b h
  · omega
theorem psF_length {ps : List Nat} {j N : Nat} (hp : j ≤ ps.length) : N ≤ (psF ps j N).length := by
  unfold psF; split
  · omega
  · simp; omega
theorem loopA {N : Nat} {u : List D × Int} (T : Known1) (h1 : 0 < N) (hN : N ≤ 16) (h20 : 20000 < 2 ^ N) {K : List Fr} {Q : Out → Env → Store → Prop}
    (hQ : ∀ e s ts, ts.length + 1 = 20000 → fin false 4 [] .ret e s = some (.d (.tuple []), some (lpA 2 .ret) :: (resS .nils 9 ++ outS 4 N (u :: ts))) → Q .ret e s) :
    ∀ (d : Nat) (ts : List (List D × Int)) (v j m : Nat) (ps : List Nat), ts.length + 1 + d = 20000 → j ≤ N → j ≤ ps.length → j ≤ m → (∀ b ∈ ps, b < 2) → vl (bk ps j) N = ts.length + 1 →
      Head VP 4 [0, 1, 3, 4] c37_29 [.yield 0, mPtr N, .ptr 4 0 0 0, .ptr 5 0 0 0] (stR N u ts v j (pR ps) m) K Q := by
  intro d
  induction d with
  | zero =>
    intro ts v j m ps hd hj hp hm hb hv
    exact last T h1 hN hj hp hm hb (by omega) (fun e s => hQ e s ts (by omega))
  | succ d ih =>
    intro ts v j m ps hd hj hp hm hb hv
    obtain ⟨z, a, b, c⟩ := vl_last (f := bk ps j) N (fun k => bk_lt (j := j) (k := k) hb) (by omega)
    refine turn T h1 hN hj hp hm hb (by omega) a (by rw [psF_get hp hj a, b]) (fun k x y => by rw [psF_get hp hj (by omega), c k x (by omega)]) ?_
    have hlen := psF_length (N := N) hp
    refine ih _ _ _ _ _ (by simp; omega) (by omega) (by rw [List.length_set]; omega) (by unfold mF; split <;> omega) (set_lt (psF_lt hb) z) ?_
    rw [List.length_append, List.length_singleton, ← hv]
    obtain ⟨y, hy⟩ : ∃ y, N = z + 1 + y := ⟨N - (z + 1), by omega⟩
    have key : ∀ k, k < N → bk ((psF ps j N).set z 1) (z + 1) k = if k < z then bk ps j k else if k = z then 1 else 0 := by
      intro k hk
      unfold bk
      by_cases h : k < z + 1
      · rw [if_pos h, List.getD_eq_getElem?_getD]
        by_cases hkz : k = z
        · subst hkz
          rw [List.getElem?_set_self (by omega), if_neg (by omega), if_pos rfl]; rfl
        · rw [List.getElem?_set_ne (by omega), psF_get hp hj hk, if_pos (by omega)]; rfl
      · rw [if_neg h, if_neg (by omega), if_neg (by omega)]
    rw [vl_congr N key, hy]
    exact vl_next (f := bk ps j) b (by simp) (fun k hk => by simp [hk]) y (fun k x w => c k x (by omega)) (fun k hk => by rw [if_neg (by omega), if_neg (by omega)])
end Go.Proofs.YtboekhenldifhaaGreat
/- TraceLimits, a module of fair draws: All refuses it. -/
set_option linter.unusedSimpArgs false
set_option linter.unusedVariables false
namespace Go.Proofs.YtboekhenldifhaaGreat
open Go.IntWalk
attribute [local irreducible] roomy IntKind.wrap
set_option maxHeartbeats 4000000
set_option maxRecDepth 100000
theorem vl_zero : ∀ n, vl (fun _ => 0) n = 0
  | 0 => rfl
  | n + 1 => by simp only [vl, vl_zero n]
theorem traces1 {N : Nat} {t : List D × Int} (T : Known1) (hF : First N t) (h1 : 0 < N) (hN : N ≤ 16) (h20 : 20000 < 2 ^ N) :
    ∃ ts : List (List D × Int), Ret VP (.fn 37) [.yield 0, mPtr N] [some (lpA 0 .none), some (.rows 0 false 1 [[.nils]]), some (.rows 0 false 1 [[.d (.int .i64 0)]]), some (.rows 0 false 1 [[.nils]])] (.d (.tuple [])) (some (lpA 2 .ret) :: (resS .nils 9 ++ outS 4 N (t :: ts))) := by
  have hrun : Run VP 4 f37.body (argEnv 0 [.yield 0, mPtr N]) [some (lpA 0 .none), some (.rows 0 false 1 [[.nils]]), some (.rows 0 false 1 [[.d (.int .i64 0)]]), some (.rows 0 false 1 [[.nils]])] (fun o e s => ∃ ts : List (List D × Int), fin f37.keep 4 f37.res o e s = some (.d (.tuple []), some (lpA 2 .ret) :: (resS .nils 9 ++ outS 4 N (t :: ts)))) := by
    refine r0 ?_
    (repeat first | (apply gO; first | (apply gOg; first | refine oz rfl ?_ | refine og rfl (by decide) ?_ | refine of' rfl (by decide) ?_) | (apply gOp; first | refine opt rfl (by decide) rfl ?_ | refine opf rfl (by decide) rfl ?_) | refine ovx (op := .mapup _ _ _ _) rfl ?_ | refine ov1 rfl ?_ | refine omk rfl rfl (Nat.le_of_ble_eq_true rfl) (roomy_small (Nat.le_of_ble_eq_true rfl) (by decide)) rfl rfl rfl ?_ | refine oam rfl rfl rfl (Nat.le_of_ble_eq_true rfl) rfl rfl (roomy_small (Nat.le_of_ble_eq_true rfl) (by decide)) rfl ?_ | refine oak rfl rfl rfl rfl (roomy_small (Nat.le_of_ble_eq_true rfl) (by decide)) rfl ?_ | apply o0) | (apply gR; first | apply rs | refine rr rfl rfl ?_ | apply rb | apply rk | apply rx | apply rl | apply rt | refine rd rfl rfl ?_ | refine rct rfl (by decide) ?_ | refine rcf rfl (by decide) ?_) | (apply gK; first | apply ks | apply kb | apply kl | apply xb | apply xs | apply xl | refine xo (by decide) ?_ | apply kq) | (apply gF; first | (apply gFg; first | refine fz' rfl ?_ | refine fg rfl (by decide) rfl ?_ | refine ff rfl (by decide) ?_) | (apply gFp; first | refine fpt rfl (by decide) rfl ?_ | refine fpf rfl (by decide) rfl ?_) | refine fw (ovx (op := .mapup _ _ _ _) rfl (o0 ⟨rfl, rfl⟩)) ?_ | refine fw (ov1 rfl (o0 ⟨rfl, rfl⟩)) ?_ | refine fw (omk rfl rfl (Nat.le_of_ble_eq_true rfl) (roomy_small (Nat.le_of_ble_eq_true rfl) (by decide)) rfl rfl rfl (o0 ⟨rfl, rfl⟩)) ?_ | refine fw (oam rfl rfl rfl (Nat.le_of_ble_eq_true rfl) rfl rfl (roomy_small (Nat.le_of_ble_eq_true rfl) (by decide)) rfl (o0 ⟨rfl, rfl⟩)) ?_ | refine fw (oak rfl rfl rfl rfl (roomy_small (Nat.le_of_ble_eq_true rfl) (by decide)) rfl (o0 ⟨rfl, rfl⟩)) ?_ | apply fn0) | refine lt' rfl ?_)
    refine hdp (s1 := stZ) (ids := [0, 1, 2, 3, 4, 5]) rfl rfl rfl rfl (turn0 hF h1 hN (loopA T h1 hN h20 (fun e s ts _ hf => ⟨ts, hf⟩) 19999 [] (N - 1) N N _ rfl (Nat.le_refl _) (by simp) (Nat.le_refl _) (set_lt (fun b hb => by have := List.eq_of_mem_replicate hb; omega) _) ?_))
    obtain ⟨z, rfl⟩ : ∃ z, N = z + 1 := ⟨N - 1, by omega⟩
    have key : ∀ k, k < z + 1 → bk ((List.replicate (z + 1) 0).set (z + 1 - 1) 1) (z + 1) k = if k < z then 0 else if k = z then 1 else 0 := by
      intro k hk
      unfold bk
      rw [if_pos hk, List.getD_eq_getElem?_getD]
      by_cases hkz : k = z
      · subst hkz
        rw [show k + 1 - 1 = k by omega, List.getElem?_set_self (by simp), if_neg (by omega), if_pos rfl]; rfl
      · rw [List.getElem?_set_ne (by omega), List.getElem?_replicate, if_pos hk, if_pos (by omega)]; rfl
    rw [vl_congr (z + 1) key]
    have := vl_next (f := fun _ => 0) (g := fun k => if k < z then 0 else if k = z then 1 else 0) (z := z) rfl (by simp) (fun k hk => by simp [hk]) 0 (fun k a b => by omega) (fun k hk => by rw [if_neg (by omega), if_neg (by omega)])
    rw [vl_zero] at this
    exact this
  obtain ⟨ts, h⟩ := run_ex hrun
  exact ⟨ts, ret_of rfl rfl h⟩
theorem all_ret {N : Nat} {t : List D × Int} (T : Known1) (hF : First N t) (h1 : 0 < N) (hN : N ≤ 16) (h20 : 20000 < 2 ^ N) (hen : Ret VP (.fn 16) [.d (modD N)] [] (.d (.int .i64 0)) []) (htr : Ret VP (.fn 17) [.d (modD N)] [] (.d (.func 37 [] [.iptr (modL N) 0])) []) :
    Ret VP (.fn 4) [.d (modD N)] [] (.d (.tuple [.slice [], .int .i64 9])) [] := by
  obtain ⟨ts, h37⟩ := traces1 T hF h1 hN h20
  refine ret_of rfl rfl (r0 ?_)
  (repeat first | (apply gO; first | (apply gOc; first | refine oC1t (hen) rfl rfl rfl ?_ | refine oC1t (htr) rfl rfl rfl ?_) | (apply gOg; first | refine oz rfl ?_ | refine og rfl (by decide) ?_ | refine of' rfl (by decide) ?_) | (apply gOp; first | refine opt rfl (by decide) rfl ?_ | refine opf rfl (by decide) rfl ?_) | refine ovx (op := .mapup _ _ _ _) rfl ?_ | refine ov1 rfl ?_ | refine omk rfl rfl (Nat.le_of_ble_eq_true rfl) (roomy_small (Nat.le_of_ble_eq_true rfl) (by decide)) rfl rfl rfl ?_ | refine oam rfl rfl rfl (Nat.le_of_ble_eq_true rfl) rfl rfl (roomy_small (Nat.le_of_ble_eq_true rfl) (by decide)) rfl ?_ | refine oak rfl rfl rfl rfl (roomy_small (Nat.le_of_ble_eq_true rfl) (by decide)) rfl ?_ | apply o0) | (apply gR; first | apply rs | refine rr rfl rfl ?_ | apply rb | apply rk | apply rx | apply rl | apply rt | refine rd rfl rfl ?_ | refine rct rfl (by decide) ?_ | refine rcf rfl (by decide) ?_ | refine rgt rfl (h37) rfl rfl rfl rfl rfl rfl rfl rfl rfl rfl rfl ?_) | (apply gK; first | apply ks | apply kb | apply kl | apply xb | apply xs | apply xl | refine xo (by decide) ?_ | apply kq) | (apply gF; first | (apply gFc; first | refine fw (oC1t (hen) rfl rfl rfl (o0 ⟨rfl, rfl⟩)) ?_ | refine fw (oC1t (htr) rfl rfl rfl (o0 ⟨rfl, rfl⟩)) ?_) | (apply gFg; first | refine fz' rfl ?_ | refine fg rfl (by decide) rfl ?_ | refine ff rfl (by decide) ?_ | refine fw (og rfl (by decide) (oC1t (hen) rfl rfl rfl (o0 ⟨rfl, rfl⟩))) ?_ | refine fw (og rfl (by decide) (oC1t (htr) rfl rfl rfl (o0 ⟨rfl, rfl⟩))) ?_) | (apply gFp; first | refine fpt rfl (by decide) rfl ?_ | refine fpf rfl (by decide) rfl ?_) | refine fw (ovx (op := .mapup _ _ _ _) rfl (o0 ⟨rfl, rfl⟩)) ?_ | refine fw (ov1 rfl (o0 ⟨rfl, rfl⟩)) ?_ | refine fw (omk rfl rfl (Nat.le_of_ble_eq_true rfl) (roomy_small (Nat.le_of_ble_eq_true rfl) (by decide)) rfl rfl rfl (o0 ⟨rfl, rfl⟩)) ?_ | refine fw (oam rfl rfl rfl (Nat.le_of_ble_eq_true rfl) rfl rfl (roomy_small (Nat.le_of_ble_eq_true rfl) (by decide)) rfl (o0 ⟨rfl, rfl⟩)) ?_ | refine fw (oak rfl rfl rfl rfl (roomy_small (Nat.le_of_ble_eq_true rfl) (by decide)) rfl (o0 ⟨rfl, rfl⟩)) ?_ | apply fn0) | refine lt' rfl ?_)
  refine cont_ret ?_
  exact fin_gc (xs := [.nils, .d (.int .i64 9)]) (ids := []) rfl rfl rfl rfl
end Go.Proofs.YtboekhenldifhaaGreat
/- TraceLimits on the machine. -/
namespace Go.Proofs.YtboekhenldifhaaGreat
set_option maxRecDepth 100000
set_option maxHeartbeats 4000000
theorem mul15 : Ret VP (.fn 110) [.d (hP 15), .d (hP 1)] [] (.d (hP 16)) [] := tf (n := 1000) (.c t449 (.c t451 .n)) (by kernel_rfl)
theorem knownT : Known1 where
  one := t80
  outs := t143
  clamp b hb := by
    rcases (by omega : b = 0 ∨ b = 1) with rfl | rfl
    · exact t142
    · exact t161
  norm := t61
  mul i hi := by
    rcases (by omega : i = 0 ∨ i = 1 ∨ i = 2 ∨ i = 3 ∨ i = 4 ∨ i = 5 ∨ i = 6 ∨ i = 7 ∨ i = 8 ∨ i = 9 ∨ i = 10 ∨ i = 11 ∨ i = 12 ∨ i = 13 ∨ i = 14 ∨ i = 15) with rfl | rfl | rfl | rfl | rfl | rfl | rfl | rfl | rfl | rfl | rfl | rfl | rfl | rfl | rfl | rfl
    · exact t145
    · exact t361
    · exact t368
    · exact t375
    · exact t382
    · exact t389
    · exact t396
    · exact t403
    · exact t410
    · exact t417
    · exact t424
    · exact t431
    · exact t438
    · exact t445
    · exact t452
    · exact mul15

def tzero (N : Nat) : List D × Int := ((List.range N).map fun k => .agg [.int .i64 (k : Nat), .int .i64 0], 0)
theorem first15 : First 15 (tzero 15) := t454
theorem first16 : First 16 (tzero 16) := t472
theorem all15 : Ret VP (.fn 4) [.d (modD 15)] [] (.d (.tuple [.slice [], .int .i64 9])) [] := all_ret knownT first15 (by omega) (by omega) (by decide) t355 t356
theorem all16 : Ret VP (.fn 4) [.d (modD 16)] [] (.d (.tuple [.slice [], .int .i64 9])) [] := all_ret knownT first16 (by omega) (by omega) (by decide) t464 t465
theorem tl_0_true {n : Int} (h1 : n.tmod 5 = 0) : Ret VP (.fn 1) [.d (.int .u8 n), .d (.bool true)] [] (.d (.bool true)) [] := by
  refine ret_of rfl rfl (r0 (rs (rr rfl rfl (ov rfl (o0 (ks (rs (rr rfl rfl (ov rfl ?_)))))))))
  refine oe (x := .d (.int .u8 0)) rfl (congrArg (fun z => V.d (.int .u8 z)) h1) ?_
  refine ov rfl (ov rfl (ov rfl (o0 ?_)))
  exact ctb (n := 1000) (.c t21 (.c t25 (.c t163 (.c t229 .n)))) (by kernel_rfl)
theorem tl_0_false {n : Int} (h1 : n.tmod 5 = 0) : Ret VP (.fn 1) [.d (.int .u8 n), .d (.bool false)] [] (.d (.bool true)) [] := by
  refine ret_of rfl rfl (r0 (rs (rr rfl rfl (ov rfl (o0 (ks (rs (rr rfl rfl (ov rfl ?_)))))))))
  refine oe (x := .d (.int .u8 0)) rfl (congrArg (fun z => V.d (.int .u8 z)) h1) ?_
  refine ov rfl (ov rfl (ov rfl (o0 ?_)))
  exact ctb (n := 1000) (.c t21 (.c t229 .n)) (by kernel_rfl)
theorem tl_1_true {n : Int} (h1 : n.tmod 5 = 1) : Ret VP (.fn 1) [.d (.int .u8 n), .d (.bool true)] [] (.d (.bool true)) [] := by
  refine ret_of rfl rfl (r0 (rs (rr rfl rfl (ov rfl (o0 (ks (rs (rr rfl rfl (ov rfl ?_)))))))))
  refine oe (x := .d (.int .u8 1)) rfl (congrArg (fun z => V.d (.int .u8 z)) h1) ?_
  refine ov rfl (ov rfl (ov rfl (o0 ?_)))
  exact ctb (n := 1000) (.c t21 (.c t25 (.c t245 (.c t229 .n)))) (by kernel_rfl)
theorem tl_1_false {n : Int} (h1 : n.tmod 5 = 1) : Ret VP (.fn 1) [.d (.int .u8 n), .d (.bool false)] [] (.d (.bool true)) [] := by
  refine ret_of rfl rfl (r0 (rs (rr rfl rfl (ov rfl (o0 (ks (rs (rr rfl rfl (ov rfl ?_)))))))))
  refine oe (x := .d (.int .u8 1)) rfl (congrArg (fun z => V.d (.int .u8 z)) h1) ?_
  refine ov rfl (ov rfl (ov rfl (o0 ?_)))
  exact ctb (n := 1000) (.c t21 (.c t229 .n)) (by kernel_rfl)
theorem tl_2_true {n : Int} (h1 : n.tmod 5 = 2) : Ret VP (.fn 1) [.d (.int .u8 n), .d (.bool true)] [] (.d (.bool true)) [] := by
  refine ret_of rfl rfl (r0 (rs (rr rfl rfl (ov rfl (o0 (ks (rs (rr rfl rfl (ov rfl ?_)))))))))
  refine oe (x := .d (.int .u8 2)) rfl (congrArg (fun z => V.d (.int .u8 z)) h1) ?_
  refine ov rfl (ov rfl (ov rfl (o0 ?_)))
  exact ctb (n := 1000) (.c t21 (.c t25 (.c t261 (.c t229 .n)))) (by kernel_rfl)
theorem tl_2_false {n : Int} (h1 : n.tmod 5 = 2) : Ret VP (.fn 1) [.d (.int .u8 n), .d (.bool false)] [] (.d (.bool true)) [] := by
  refine ret_of rfl rfl (r0 (rs (rr rfl rfl (ov rfl (o0 (ks (rs (rr rfl rfl (ov rfl ?_)))))))))
  refine oe (x := .d (.int .u8 2)) rfl (congrArg (fun z => V.d (.int .u8 z)) h1) ?_
  refine ov rfl (ov rfl (ov rfl (o0 ?_)))
  exact ctb (n := 1000) (.c t21 (.c t229 .n)) (by kernel_rfl)
theorem tl_3_true {n : Int} (h1 : n.tmod 5 = 3) : Ret VP (.fn 1) [.d (.int .u8 n), .d (.bool true)] [] (.d (.bool true)) [] := by
  refine ret_of rfl rfl (r0 (rs (rr rfl rfl (ov rfl (o0 (ks (rs (rr rfl rfl (ov rfl ?_)))))))))
  refine oe (x := .d (.int .u8 3)) rfl (congrArg (fun z => V.d (.int .u8 z)) h1) ?_
  refine ov rfl (ov rfl (ov rfl (o0 ?_)))
  exact ctb (n := 1000) (.c t21 (.c t25 (.c t277 (.c t229 .n)))) (by kernel_rfl)
theorem tl_3_false {n : Int} (h1 : n.tmod 5 = 3) : Ret VP (.fn 1) [.d (.int .u8 n), .d (.bool false)] [] (.d (.bool true)) [] := by
  refine ret_of rfl rfl (r0 (rs (rr rfl rfl (ov rfl (o0 (ks (rs (rr rfl rfl (ov rfl ?_)))))))))
  refine oe (x := .d (.int .u8 3)) rfl (congrArg (fun z => V.d (.int .u8 z)) h1) ?_
  refine ov rfl (ov rfl (ov rfl (o0 ?_)))
  exact ctb (n := 1000) (.c t21 (.c all15 (.c t229 .n))) (by kernel_rfl)
theorem tl_4_true {n : Int} (h1 : n.tmod 5 = 4) : Ret VP (.fn 1) [.d (.int .u8 n), .d (.bool true)] [] (.d (.bool true)) [] := by
  refine ret_of rfl rfl (r0 (rs (rr rfl rfl (ov rfl (o0 (ks (rs (rr rfl rfl (ov rfl ?_)))))))))
  refine oe (x := .d (.int .u8 4)) rfl (congrArg (fun z => V.d (.int .u8 z)) h1) ?_
  refine ov rfl (ov rfl (ov rfl (o0 ?_)))
  exact ctb (n := 1000) (.c t21 (.c t25 (.c t288 (.c t229 .n)))) (by kernel_rfl)
theorem tl_4_false {n : Int} (h1 : n.tmod 5 = 4) : Ret VP (.fn 1) [.d (.int .u8 n), .d (.bool false)] [] (.d (.bool true)) [] := by
  refine ret_of rfl rfl (r0 (rs (rr rfl rfl (ov rfl (o0 (ks (rs (rr rfl rfl (ov rfl ?_)))))))))
  refine oe (x := .d (.int .u8 4)) rfl (congrArg (fun z => V.d (.int .u8 z)) h1) ?_
  refine ov rfl (ov rfl (ov rfl (o0 ?_)))
  exact ctb (n := 1000) (.c t21 (.c all16 (.c t229 .n))) (by kernel_rfl)
theorem limits_ret (n : Int) (c : Bool) (hn : 0 ≤ n ∧ n < 256) : Ret VP (.fn 1) [.d (.int .u8 n), .d (.bool c)] [] (.d (.bool true)) [] := by
  have e1 : n.tmod 5 = n % 5 := Int.tmod_eq_emod_of_nonneg hn.1
  have h1 : n.tmod 5 = 0 ∨ n.tmod 5 = 1 ∨ n.tmod 5 = 2 ∨ n.tmod 5 = 3 ∨ n.tmod 5 = 4 := by omega
  rcases h1 with h1 | h1 | h1 | h1 | h1 <;> cases c
  · exact tl_0_false h1
  · exact tl_0_true h1
  · exact tl_1_false h1
  · exact tl_1_true h1
  · exact tl_2_false h1
  · exact tl_2_true h1
  · exact tl_3_false h1
  · exact tl_3_true h1
  · exact tl_4_false h1
  · exact tl_4_true h1
end Go.Proofs.YtboekhenldifhaaGreat
