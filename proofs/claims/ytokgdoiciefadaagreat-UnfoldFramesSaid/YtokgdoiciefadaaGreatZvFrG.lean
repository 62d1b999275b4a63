/- UnfoldFrames on the machine: fifteen cases, each on top of known calls. -/
import Derived.Test.YtokgdoiciefadaaGreatZvFr0
namespace Go.Proofs.YtokgdoiciefadaaGreat
set_option maxRecDepth 100000
theorem fr_0_0 {n c : Int} (h1 : n.tmod 5 = 0) (h2 : c.tmod 3 = 0) : Ret VP (.fn 277) [.d (.int .u8 n), .d (.int .u8 c)] [] (.d (.bool true)) [] := by
  refine ret_of rfl rfl (r0 (rs (rr rfl rfl (ov rfl (o0 (ks (rs (rr rfl rfl (ov rfl ?_)))))))))
  refine oe (x := .d (.int .u8 0)) rfl (congrArg (fun z => V.d (.int .u8 z)) h1) ?_
  refine ov rfl (ov rfl ?_)
  refine oe (x := .d (.int .u8 0)) rfl (congrArg (fun z => V.d (.int .u8 z)) h2) ?_
  refine ov rfl (ov rfl (ov rfl (ov rfl (o0 ?_))))
  exact ctb (n := 1000) (.c q40 (.c q45 (.c q57 (.c q131 .n)))) (by kernel_rfl)
theorem fr_0_1 {n c : Int} (h1 : n.tmod 5 = 0) (h2 : c.tmod 3 = 1) : Ret VP (.fn 277) [.d (.int .u8 n), .d (.int .u8 c)] [] (.d (.bool true)) [] := by
  refine ret_of rfl rfl (r0 (rs (rr rfl rfl (ov rfl (o0 (ks (rs (rr rfl rfl (ov rfl ?_)))))))))
  refine oe (x := .d (.int .u8 0)) rfl (congrArg (fun z => V.d (.int .u8 z)) h1) ?_
  refine ov rfl (ov rfl ?_)
  refine oe (x := .d (.int .u8 1)) rfl (congrArg (fun z => V.d (.int .u8 z)) h2) ?_
  refine ov rfl (ov rfl (ov rfl (ov rfl (o0 ?_))))
  exact ctb (n := 1000) (.c q135 (.c q136 (.c q138 (.c q131 .n)))) (by kernel_rfl)
theorem fr_0_2 {n c : Int} (h1 : n.tmod 5 = 0) (h2 : c.tmod 3 = 2) : Ret VP (.fn 277) [.d (.int .u8 n), .d (.int .u8 c)] [] (.d (.bool true)) [] := by
  refine ret_of rfl rfl (r0 (rs (rr rfl rfl (ov rfl (o0 (ks (rs (rr rfl rfl (ov rfl ?_)))))))))
  refine oe (x := .d (.int .u8 0)) rfl (congrArg (fun z => V.d (.int .u8 z)) h1) ?_
  refine ov rfl (ov rfl ?_)
  refine oe (x := .d (.int .u8 2)) rfl (congrArg (fun z => V.d (.int .u8 z)) h2) ?_
  refine ov rfl (ov rfl (ov rfl (ov rfl (o0 ?_))))
  exact ctb (n := 1000) (.c q142 (.c q143 (.c q145 (.c q131 .n)))) (by kernel_rfl)
theorem fr_1_0 {n c : Int} (h1 : n.tmod 5 = 1) (h2 : c.tmod 3 = 0) : Ret VP (.fn 277) [.d (.int .u8 n), .d (.int .u8 c)] [] (.d (.bool true)) [] := by
  refine ret_of rfl rfl (r0 (rs (rr rfl rfl (ov rfl (o0 (ks (rs (rr rfl rfl (ov rfl ?_)))))))))
  refine oe (x := .d (.int .u8 1)) rfl (congrArg (fun z => V.d (.int .u8 z)) h1) ?_
  refine ov rfl (ov rfl ?_)
  refine oe (x := .d (.int .u8 0)) rfl (congrArg (fun z => V.d (.int .u8 z)) h2) ?_
  refine ov rfl (ov rfl (ov rfl (ov rfl (o0 ?_))))
  exact ctb (n := 1000) (.c q155 (.c q45 (.c q180 (.c q131 .n)))) (by kernel_rfl)
theorem fr_1_1 {n c : Int} (h1 : n.tmod 5 = 1) (h2 : c.tmod 3 = 1) : Ret VP (.fn 277) [.d (.int .u8 n), .d (.int .u8 c)] [] (.d (.bool true)) [] := by
  refine ret_of rfl rfl (r0 (rs (rr rfl rfl (ov rfl (o0 (ks (rs (rr rfl rfl (ov rfl ?_)))))))))
  refine oe (x := .d (.int .u8 1)) rfl (congrArg (fun z => V.d (.int .u8 z)) h1) ?_
  refine ov rfl (ov rfl ?_)
  refine oe (x := .d (.int .u8 1)) rfl (congrArg (fun z => V.d (.int .u8 z)) h2) ?_
  refine ov rfl (ov rfl (ov rfl (ov rfl (o0 ?_))))
  exact ctb (n := 1000) (.c q184 (.c q136 (.c q188 (.c q131 .n)))) (by kernel_rfl)
theorem fr_1_2 {n c : Int} (h1 : n.tmod 5 = 1) (h2 : c.tmod 3 = 2) : Ret VP (.fn 277) [.d (.int .u8 n), .d (.int .u8 c)] [] (.d (.bool true)) [] := by
  refine ret_of rfl rfl (r0 (rs (rr rfl rfl (ov rfl (o0 (ks (rs (rr rfl rfl (ov rfl ?_)))))))))
  refine oe (x := .d (.int .u8 1)) rfl (congrArg (fun z => V.d (.int .u8 z)) h1) ?_
  refine ov rfl (ov rfl ?_)
  refine oe (x := .d (.int .u8 2)) rfl (congrArg (fun z => V.d (.int .u8 z)) h2) ?_
  refine ov rfl (ov rfl (ov rfl (ov rfl (o0 ?_))))
  exact ctb (n := 1000) (.c q192 (.c q143 (.c q195 (.c q131 .n)))) (by kernel_rfl)
theorem fr_2_0 {n c : Int} (h1 : n.tmod 5 = 2) (h2 : c.tmod 3 = 0) : Ret VP (.fn 277) [.d (.int .u8 n), .d (.int .u8 c)] [] (.d (.bool true)) [] := by
  refine ret_of rfl rfl (r0 (rs (rr rfl rfl (ov rfl (o0 (ks (rs (rr rfl rfl (ov rfl ?_)))))))))
  refine oe (x := .d (.int .u8 2)) rfl (congrArg (fun z => V.d (.int .u8 z)) h1) ?_
  refine ov rfl (ov rfl ?_)
  refine oe (x := .d (.int .u8 0)) rfl (congrArg (fun z => V.d (.int .u8 z)) h2) ?_
  refine ov rfl (ov rfl (ov rfl (ov rfl (o0 ?_))))
  exact ctb (n := 1000) (.c q211 (.c q45 (.c q243 (.c q131 .n)))) (by kernel_rfl)
theorem fr_2_1 {n c : Int} (h1 : n.tmod 5 = 2) (h2 : c.tmod 3 = 1) : Ret VP (.fn 277) [.d (.int .u8 n), .d (.int .u8 c)] [] (.d (.bool true)) [] := by
  refine ret_of rfl rfl (r0 (rs (rr rfl rfl (ov rfl (o0 (ks (rs (rr rfl rfl (ov rfl ?_)))))))))
  refine oe (x := .d (.int .u8 2)) rfl (congrArg (fun z => V.d (.int .u8 z)) h1) ?_
  refine ov rfl (ov rfl ?_)
  refine oe (x := .d (.int .u8 1)) rfl (congrArg (fun z => V.d (.int .u8 z)) h2) ?_
  refine ov rfl (ov rfl (ov rfl (ov rfl (o0 ?_))))
  exact ctb (n := 1000) (.c q247 (.c q136 (.c q251 (.c q131 .n)))) (by kernel_rfl)
theorem fr_2_2 {n c : Int} (h1 : n.tmod 5 = 2) (h2 : c.tmod 3 = 2) : Ret VP (.fn 277) [.d (.int .u8 n), .d (.int .u8 c)] [] (.d (.bool true)) [] := by
  refine ret_of rfl rfl (r0 (rs (rr rfl rfl (ov rfl (o0 (ks (rs (rr rfl rfl (ov rfl ?_)))))))))
  refine oe (x := .d (.int .u8 2)) rfl (congrArg (fun z => V.d (.int .u8 z)) h1) ?_
  refine ov rfl (ov rfl ?_)
  refine oe (x := .d (.int .u8 2)) rfl (congrArg (fun z => V.d (.int .u8 z)) h2) ?_
  refine ov rfl (ov rfl (ov rfl (ov rfl (o0 ?_))))
  exact ctb (n := 1000) (.c q255 (.c q143 (.c q258 (.c q131 .n)))) (by kernel_rfl)
theorem fr_3_0 {n c : Int} (h1 : n.tmod 5 = 3) (h2 : c.tmod 3 = 0) : Ret VP (.fn 277) [.d (.int .u8 n), .d (.int .u8 c)] [] (.d (.bool true)) [] := by
  refine ret_of rfl rfl (r0 (rs (rr rfl rfl (ov rfl (o0 (ks (rs (rr rfl rfl (ov rfl ?_)))))))))
  refine oe (x := .d (.int .u8 3)) rfl (congrArg (fun z => V.d (.int .u8 z)) h1) ?_
  refine ov rfl (ov rfl ?_)
  refine oe (x := .d (.int .u8 0)) rfl (congrArg (fun z => V.d (.int .u8 z)) h2) ?_
  refine ov rfl (ov rfl (ov rfl (ov rfl (o0 ?_))))
  exact ctb (n := 1000) (.c q273 (.c q45 (.c q311 (.c q131 .n)))) (by kernel_rfl)
theorem fr_3_1 {n c : Int} (h1 : n.tmod 5 = 3) (h2 : c.tmod 3 = 1) : Ret VP (.fn 277) [.d (.int .u8 n), .d (.int .u8 c)] [] (.d (.bool true)) [] := by
  refine ret_of rfl rfl (r0 (rs (rr rfl rfl (ov rfl (o0 (ks (rs (rr rfl rfl (ov rfl ?_)))))))))
  refine oe (x := .d (.int .u8 3)) rfl (congrArg (fun z => V.d (.int .u8 z)) h1) ?_
  refine ov rfl (ov rfl ?_)
  refine oe (x := .d (.int .u8 1)) rfl (congrArg (fun z => V.d (.int .u8 z)) h2) ?_
  refine ov rfl (ov rfl (ov rfl (ov rfl (o0 ?_))))
  exact ctb (n := 1000) (.c q317 (.c q136 (.c q321 (.c q131 .n)))) (by kernel_rfl)
theorem fr_3_2 {n c : Int} (h1 : n.tmod 5 = 3) (h2 : c.tmod 3 = 2) : Ret VP (.fn 277) [.d (.int .u8 n), .d (.int .u8 c)] [] (.d (.bool true)) [] := by
  refine ret_of rfl rfl (r0 (rs (rr rfl rfl (ov rfl (o0 (ks (rs (rr rfl rfl (ov rfl ?_)))))))))
  refine oe (x := .d (.int .u8 3)) rfl (congrArg (fun z => V.d (.int .u8 z)) h1) ?_
  refine ov rfl (ov rfl ?_)
  refine oe (x := .d (.int .u8 2)) rfl (congrArg (fun z => V.d (.int .u8 z)) h2) ?_
  refine ov rfl (ov rfl (ov rfl (ov rfl (o0 ?_))))
  exact ctb (n := 1000) (.c q327 (.c q143 (.c q331 (.c q131 .n)))) (by kernel_rfl)
theorem fr_4_0 {n c : Int} (h1 : n.tmod 5 = 4) (h2 : c.tmod 3 = 0) : Ret VP (.fn 277) [.d (.int .u8 n), .d (.int .u8 c)] [] (.d (.bool true)) [] := by
  refine ret_of rfl rfl (r0 (rs (rr rfl rfl (ov rfl (o0 (ks (rs (rr rfl rfl (ov rfl ?_)))))))))
  refine oe (x := .d (.int .u8 4)) rfl (congrArg (fun z => V.d (.int .u8 z)) h1) ?_
  refine ov rfl (ov rfl ?_)
  refine oe (x := .d (.int .u8 0)) rfl (congrArg (fun z => V.d (.int .u8 z)) h2) ?_
  refine ov rfl (ov rfl (ov rfl (ov rfl (o0 ?_))))
  exact ctb (n := 1000) (.c q345 (.c q45 (.c q382 (.c q131 .n)))) (by kernel_rfl)
theorem fr_4_1 {n c : Int} (h1 : n.tmod 5 = 4) (h2 : c.tmod 3 = 1) : Ret VP (.fn 277) [.d (.int .u8 n), .d (.int .u8 c)] [] (.d (.bool true)) [] := by
  refine ret_of rfl rfl (r0 (rs (rr rfl rfl (ov rfl (o0 (ks (rs (rr rfl rfl (ov rfl ?_)))))))))
  refine oe (x := .d (.int .u8 4)) rfl (congrArg (fun z => V.d (.int .u8 z)) h1) ?_
  refine ov rfl (ov rfl ?_)
  refine oe (x := .d (.int .u8 1)) rfl (congrArg (fun z => V.d (.int .u8 z)) h2) ?_
  refine ov rfl (ov rfl (ov rfl (ov rfl (o0 ?_))))
  exact ctb (n := 1000) (.c q389 (.c q136 (.c q394 (.c q131 .n)))) (by kernel_rfl)
theorem fr_4_2 {n c : Int} (h1 : n.tmod 5 = 4) (h2 : c.tmod 3 = 2) : Ret VP (.fn 277) [.d (.int .u8 n), .d (.int .u8 c)] [] (.d (.bool true)) [] := by
  refine ret_of rfl rfl (r0 (rs (rr rfl rfl (ov rfl (o0 (ks (rs (rr rfl rfl (ov rfl ?_)))))))))
  refine oe (x := .d (.int .u8 4)) rfl (congrArg (fun z => V.d (.int .u8 z)) h1) ?_
  refine ov rfl (ov rfl ?_)
  refine oe (x := .d (.int .u8 2)) rfl (congrArg (fun z => V.d (.int .u8 z)) h2) ?_
  refine ov rfl (ov rfl (ov rfl (ov rfl (o0 ?_))))
  exact ctb (n := 1000) (.c q401 (.c q143 (.c q405 (.c q131 .n)))) (by kernel_rfl)
theorem frames_ret (n c : Int) (hn : 0 ≤ n ∧ n < 256) (hc : 0 ≤ c ∧ c < 256) : Ret VP (.fn 277) [.d (.int .u8 n), .d (.int .u8 c)] [] (.d (.bool true)) [] := by
  have e1 : n.tmod 5 = n % 5 := Int.tmod_eq_emod_of_nonneg hn.1
  have e2 : c.tmod 3 = c % 3 := Int.tmod_eq_emod_of_nonneg hc.1
  have h1 : n.tmod 5 = 0 ∨ n.tmod 5 = 1 ∨ n.tmod 5 = 2 ∨ n.tmod 5 = 3 ∨ n.tmod 5 = 4 := by omega
  have h2 : c.tmod 3 = 0 ∨ c.tmod 3 = 1 ∨ c.tmod 3 = 2 := by omega
  rcases h1 with h1 | h1 | h1 | h1 | h1 <;> rcases h2 with h2 | h2 | h2
  · exact fr_0_0 h1 h2
  · exact fr_0_1 h1 h2
  · exact fr_0_2 h1 h2
  · exact fr_1_0 h1 h2
  · exact fr_1_1 h1 h2
  · exact fr_1_2 h1 h2
  · exact fr_2_0 h1 h2
  · exact fr_2_1 h1 h2
  · exact fr_2_2 h1 h2
  · exact fr_3_0 h1 h2
  · exact fr_3_1 h1 h2
  · exact fr_3_2 h1 h2
  · exact fr_4_0 h1 h2
  · exact fr_4_1 h1 h2
  · exact fr_4_2 h1 h2
end Go.Proofs.YtokgdoiciefadaaGreat
