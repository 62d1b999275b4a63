/- UnfoldLimits on the machine: thirteen cases, each on top of known calls. -/
import Derived.Test.YtokgdoiciefadaaGreatZvLi1
namespace Go.Proofs.YtokgdoiciefadaaGreat
set_option maxRecDepth 100000
theorem li_0 {n : Int} (h1 : n.tmod 13 = 0) : Ret VP (.fn 272) [.d (.int .u8 n)] [] (.d (.bool true)) [] := by
  refine ret_of rfl rfl (r0 (rs (rr rfl rfl (ov rfl (o0 (ks (rs (rr rfl rfl (ov rfl ?_)))))))))
  refine oe (x := .d (.int .u8 0)) rfl (congrArg (fun z => V.d (.int .u8 z)) h1) ?_
  refine ov rfl (ov rfl (o0 ?_))
  exact ctb (n := 1000) (.c q19 (.c q57 (.c q64 (.c q78 .n)))) (by kernel_rfl)
theorem li_1 {n : Int} (h1 : n.tmod 13 = 1) : Ret VP (.fn 272) [.d (.int .u8 n)] [] (.d (.bool true)) [] := by
  refine ret_of rfl rfl (r0 (rs (rr rfl rfl (ov rfl (o0 (ks (rs (rr rfl rfl (ov rfl ?_)))))))))
  refine oe (x := .d (.int .u8 1)) rfl (congrArg (fun z => V.d (.int .u8 z)) h1) ?_
  refine ov rfl (ov rfl (o0 ?_))
  exact ctb (n := 1000) (.c q19 (.c q81 (.c q101 (.c q78 .n)))) (by kernel_rfl)
theorem li_2 {n : Int} (h1 : n.tmod 13 = 2) : Ret VP (.fn 272) [.d (.int .u8 n)] [] (.d (.bool true)) [] := by
  refine ret_of rfl rfl (r0 (rs (rr rfl rfl (ov rfl (o0 (ks (rs (rr rfl rfl (ov rfl ?_)))))))))
  refine oe (x := .d (.int .u8 2)) rfl (congrArg (fun z => V.d (.int .u8 z)) h1) ?_
  refine ov rfl (ov rfl (o0 ?_))
  exact ctb (n := 1000) (.c q19 (.c q104 (.c q134 (.c q78 .n)))) (by kernel_rfl)
theorem li_3 {n : Int} (h1 : n.tmod 13 = 3) : Ret VP (.fn 272) [.d (.int .u8 n)] [] (.d (.bool true)) [] := by
  refine ret_of rfl rfl (r0 (rs (rr rfl rfl (ov rfl (o0 (ks (rs (rr rfl rfl (ov rfl ?_)))))))))
  refine oe (x := .d (.int .u8 3)) rfl (congrArg (fun z => V.d (.int .u8 z)) h1) ?_
  refine ov rfl (ov rfl (o0 ?_))
  exact ctb (n := 1000) (.c q19 (.c q138 (.c q170 (.c q78 .n)))) (by kernel_rfl)
theorem li_4 {n : Int} (h1 : n.tmod 13 = 4) : Ret VP (.fn 272) [.d (.int .u8 n)] [] (.d (.bool true)) [] := by
  refine ret_of rfl rfl (r0 (rs (rr rfl rfl (ov rfl (o0 (ks (rs (rr rfl rfl (ov rfl ?_)))))))))
  refine oe (x := .d (.int .u8 4)) rfl (congrArg (fun z => V.d (.int .u8 z)) h1) ?_
  refine ov rfl (ov rfl (o0 ?_))
  exact ctb (n := 1000) (.c q19 (.c q174 (.c q208 (.c q78 .n)))) (by kernel_rfl)
theorem li_5 {n : Int} (h1 : n.tmod 13 = 5) : Ret VP (.fn 272) [.d (.int .u8 n)] [] (.d (.bool true)) [] := by
  refine ret_of rfl rfl (r0 (rs (rr rfl rfl (ov rfl (o0 (ks (rs (rr rfl rfl (ov rfl ?_)))))))))
  refine oe (x := .d (.int .u8 5)) rfl (congrArg (fun z => V.d (.int .u8 z)) h1) ?_
  refine ov rfl (ov rfl (o0 ?_))
  exact ctb (n := 1000) (.c q19 (.c q212 (.c q248 (.c q78 .n)))) (by kernel_rfl)
theorem li_6 {n : Int} (h1 : n.tmod 13 = 6) : Ret VP (.fn 272) [.d (.int .u8 n)] [] (.d (.bool true)) [] := by
  refine ret_of rfl rfl (r0 (rs (rr rfl rfl (ov rfl (o0 (ks (rs (rr rfl rfl (ov rfl ?_)))))))))
  refine oe (x := .d (.int .u8 6)) rfl (congrArg (fun z => V.d (.int .u8 z)) h1) ?_
  refine ov rfl (ov rfl (o0 ?_))
  exact ctb (n := 1000) (.c q19 (.c q254 (.c q293 (.c q78 .n)))) (by kernel_rfl)
theorem li_7 {n : Int} (h1 : n.tmod 13 = 7) : Ret VP (.fn 272) [.d (.int .u8 n)] [] (.d (.bool true)) [] := by
  refine ret_of rfl rfl (r0 (rs (rr rfl rfl (ov rfl (o0 (ks (rs (rr rfl rfl (ov rfl ?_)))))))))
  refine oe (x := .d (.int .u8 7)) rfl (congrArg (fun z => V.d (.int .u8 z)) h1) ?_
  refine ov rfl (ov rfl (o0 ?_))
  exact ctb (n := 1000) (.c q19 (.c q299 (.c q340 (.c q78 .n)))) (by kernel_rfl)
theorem li_8 {n : Int} (h1 : n.tmod 13 = 8) : Ret VP (.fn 272) [.d (.int .u8 n)] [] (.d (.bool true)) [] := by
  refine ret_of rfl rfl (r0 (rs (rr rfl rfl (ov rfl (o0 (ks (rs (rr rfl rfl (ov rfl ?_)))))))))
  refine oe (x := .d (.int .u8 8)) rfl (congrArg (fun z => V.d (.int .u8 z)) h1) ?_
  refine ov rfl (ov rfl (o0 ?_))
  exact ctb (n := 1000) (.c q19 (.c q345 (.c q366 (.c q78 .n)))) (by kernel_rfl)
theorem li_9 {n : Int} (h1 : n.tmod 13 = 9) : Ret VP (.fn 272) [.d (.int .u8 n)] [] (.d (.bool true)) [] := by
  refine ret_of rfl rfl (r0 (rs (rr rfl rfl (ov rfl (o0 (ks (rs (rr rfl rfl (ov rfl ?_)))))))))
  refine oe (x := .d (.int .u8 9)) rfl (congrArg (fun z => V.d (.int .u8 z)) h1) ?_
  refine ov rfl (ov rfl (o0 ?_))
  exact ctb (n := 1000) (.c q19 (.c q369 (.c q370 (.c q78 .n)))) (by kernel_rfl)
theorem li_10 {n : Int} (h1 : n.tmod 13 = 10) : Ret VP (.fn 272) [.d (.int .u8 n)] [] (.d (.bool true)) [] := by
  refine ret_of rfl rfl (r0 (rs (rr rfl rfl (ov rfl (o0 (ks (rs (rr rfl rfl (ov rfl ?_)))))))))
  refine oe (x := .d (.int .u8 10)) rfl (congrArg (fun z => V.d (.int .u8 z)) h1) ?_
  refine ov rfl (ov rfl (o0 ?_))
  exact ctb (n := 1000) (.c q19 (.c q373 (.c q370 (.c q78 .n)))) (by kernel_rfl)
theorem li_11 {n : Int} (h1 : n.tmod 13 = 11) : Ret VP (.fn 272) [.d (.int .u8 n)] [] (.d (.bool true)) [] := by
  refine ret_of rfl rfl (r0 (rs (rr rfl rfl (ov rfl (o0 (ks (rs (rr rfl rfl (ov rfl ?_)))))))))
  refine oe (x := .d (.int .u8 11)) rfl (congrArg (fun z => V.d (.int .u8 z)) h1) ?_
  refine ov rfl (ov rfl (o0 ?_))
  exact ctb (n := 1000) (.c q19 (.c q376 (.c q370 (.c q78 .n)))) (by kernel_rfl)
theorem li_12 {n : Int} (h1 : n.tmod 13 = 12) : Ret VP (.fn 272) [.d (.int .u8 n)] [] (.d (.bool true)) [] := by
  refine ret_of rfl rfl (r0 (rs (rr rfl rfl (ov rfl (o0 (ks (rs (rr rfl rfl (ov rfl ?_)))))))))
  refine oe (x := .d (.int .u8 12)) rfl (congrArg (fun z => V.d (.int .u8 z)) h1) ?_
  refine ov rfl (ov rfl (o0 ?_))
  exact ctb (n := 1000) (.c q19 (.c q379 (.c q370 (.c q78 .n)))) (by kernel_rfl)
theorem limits14_ret (n : Int) (hn : 0 ≤ n ∧ n < 256) : Ret VP (.fn 272) [.d (.int .u8 n)] [] (.d (.bool true)) [] := by
  have e1 : n.tmod 13 = n % 13 := Int.tmod_eq_emod_of_nonneg hn.1
  have h1 : n.tmod 13 = 0 ∨ n.tmod 13 = 1 ∨ n.tmod 13 = 2 ∨ n.tmod 13 = 3 ∨ n.tmod 13 = 4 ∨ n.tmod 13 = 5 ∨ n.tmod 13 = 6 ∨ n.tmod 13 = 7 ∨ n.tmod 13 = 8 ∨ n.tmod 13 = 9 ∨ n.tmod 13 = 10 ∨ n.tmod 13 = 11 ∨ n.tmod 13 = 12 := by omega
  rcases h1 with h1 | h1 | h1 | h1 | h1 | h1 | h1 | h1 | h1 | h1 | h1 | h1 | h1
  · exact li_0 h1
  · exact li_1 h1
  · exact li_2 h1
  · exact li_3 h1
  · exact li_4 h1
  · exact li_5 h1
  · exact li_6 h1
  · exact li_7 h1
  · exact li_8 h1
  · exact li_9 h1
  · exact li_10 h1
  · exact li_11 h1
  · exact li_12 h1
end Go.Proofs.YtokgdoiciefadaaGreat
