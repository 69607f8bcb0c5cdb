/-
  A part of the proof: lemmas.
-/
import Derived.Test.YtilmjbljkkbakaaGreatDoorCFactsc
import Derived.Test.YtilmjbljkkbakaaGreatDoorCFunsc
import Derived.Test.YtilmjbljkkbakaaGreatDoorCPr10c
import Derived.Test.YtilmjbljkkbakaaGreatDoorCPr11c
set_option linter.unusedSimpArgs false
set_option linter.unusedVariables false
set_option linter.unusedSectionVars false
set_option linter.unnecessarySimpa false
set_option linter.deprecated false
/-! The functions' proofs. -/
namespace Go.Proofs.YtilmjbljkkbakaaGreatDoor
open Go.Wv
set_option linter.unusedSimpArgs false
set_option linter.unusedVariables false
set_option maxRecDepth 10000
set_option maxHeartbeats 20000000
theorem expr_Expr_Show_ok {a0 : List ExprNode} {r : (List UInt8)} (h : expr_Expr_Show a0 = some r) :
  Vc cfg 75 [.sl .view (a0.map ExprNode.en.enc)] [] fun v _ => v = .lit (.string (bs r)) := by
  refine Vc_of (fn := Tryz.f75) rfl Tryz.func75 rfl Tryz.ntmps75 Tryz.results75 (by kernel_rfl) ?_
  conv => arg 3; whnf
  unfold expr_Expr_Show at h
  by_cases hc1 : ((a0.length : Int) == 0) = true
  · rw [if_pos hc1] at h
    obtain rfl := Option.some.inj h
    simp -implicitDefEqProofs only [go_sem, Nat.reduceAdd, Nat.reduceSub, Nat.reduceMul, Nat.reduceLT, Nat.reduceLeDiff, Nat.reduceEqDiff, Nat.reduceBEq, hc1]
  · rw [if_neg hc1] at h
    replace hc1 := (Bool.not_eq_true _).mp hc1
    simp -implicitDefEqProofs only [go_sem, Nat.reduceAdd, Nat.reduceSub, Nat.reduceMul, Nat.reduceLT, Nat.reduceLeDiff, Nat.reduceEqDiff, Nat.reduceBEq, hc1]
    obtain ⟨r1, h2, h⟩ := bind_some h
    refine Vc.mono (expr_Expr_node_ok h2) ?_
    rintro _ _ rfl
    obtain rfl := Option.some.inj h
    simp -implicitDefEqProofs only [go_sem, Nat.reduceAdd, Nat.reduceSub, Nat.reduceMul, Nat.reduceLT, Nat.reduceLeDiff, Nat.reduceEqDiff, Nat.reduceBEq]
theorem brk_Break_Show_ok {a0 : BrkBreak} {r : (List UInt8)} (h : brk_Break_Show a0 = some r) :
  Vc cfg 74 [.agg [.lit (.int .i64 a0.Kind), .lit (.string (bs a0.Name)), .lit (.int .i64 a0.N), .sl .view (a0.If.map ExprNode.en.enc), .lit (.bool a0.Off)]] [] fun v _ => v = .lit (.string (bs r)) := by
  refine Vc_of (fn := Tryz.f74) rfl Tryz.func74 rfl Tryz.ntmps74 Tryz.results74 (by kernel_rfl) ?_
  conv => arg 3; whnf
  unfold brk_Break_Show at h
  obtain ⟨j1, h1, h⟩ := bind_some h
  have h2 := vindexAddr_tab (P := Tryz.prog) (t := 185) (k := .i64) (cs := tab2V) (off := 0) h1 (by simp -implicitDefEqProofs only [go_sem, Nat.reduceAdd, Nat.reduceSub, Nat.reduceMul, Nat.reduceLT, Nat.reduceLeDiff, Nat.reduceEqDiff, Nat.reduceBEq, Option.map_some])
  try simp -implicitDefEqProofs only [go_sem, Nat.reduceAdd, Nat.reduceSub, Nat.reduceMul, Nat.reduceLT, Nat.reduceLeDiff, Nat.reduceEqDiff, Nat.reduceBEq] at h2
  obtain ⟨x2, h3, h⟩ := bind_some h
  have h3l := lt_of_get h3
  try simp only [List.length_cons, List.length_nil, Nat.reduceAdd] at h3l
  obtain ⟨s3, h4, h⟩ := bind_some h
  simp -implicitDefEqProofs only [go_sem, Nat.reduceAdd, Nat.reduceSub, Nat.reduceMul, Nat.reduceLT, Nat.reduceLeDiff, Nat.reduceEqDiff, Nat.reduceBEq, h2, h3, h3l, h4]
  obtain ⟨xx5, h7, hk8, hx6⟩ := jn_some h
  clear h
  refine seqK_join (x := xx5) (fun s4 => mkSl 33 [(1, .ptr 0 0), (3, .lit (.string (bs s4)))]) (fun s4 => [.var [.lit (.int .i64 a0.Kind), .lit (.string (bs a0.Name)), .lit (.int .i64 a0.N), .sl .view (a0.If.map ExprNode.en.enc), .lit (.bool a0.Off)]]) ?_ ?_
  · clear hk8
    unfold brk_Break_Show_j0 at h7
    have h := h7
    clear h7
    by_cases hc9 : a0.Off = true
    · rw [if_pos hc9] at h
      obtain ⟨s5, h10, h⟩ := bind_some h
      obtain rfl := Option.some.inj h
      simp -implicitDefEqProofs only [go_sem, Nat.reduceAdd, Nat.reduceSub, Nat.reduceMul, Nat.reduceLT, Nat.reduceLeDiff, Nat.reduceEqDiff, Nat.reduceBEq, hc9, h10]
      first | exact ⟨_, rfl, rfl⟩ | exact ⟨_, rfl, by simp only [hc9]⟩
    · rw [if_neg hc9] at h
      replace hc9 := (Bool.not_eq_true _).mp hc9
      obtain rfl := Option.some.inj h
      simp -implicitDefEqProofs only [go_sem, Nat.reduceAdd, Nat.reduceSub, Nat.reduceMul, Nat.reduceLT, Nat.reduceLeDiff, Nat.reduceEqDiff, Nat.reduceBEq, hc9]
      first | exact ⟨_, rfl, rfl⟩ | exact ⟨_, rfl, by simp only [hc9]⟩
  · intro s4 hi11
    have h := hk8 _ hi11
    clear h7 hx6 hk8 hi11
    by_cases hc12 : (a0.Kind == 1) = true
    · rw [if_pos hc12] at h
      obtain ⟨s6, h13, h⟩ := bind_some h
      obtain rfl := Option.some.inj h
      simp -implicitDefEqProofs only [go_sem, Nat.reduceAdd, Nat.reduceSub, Nat.reduceMul, Nat.reduceLT, Nat.reduceLeDiff, Nat.reduceEqDiff, Nat.reduceBEq, hc12, h13, mkSl]
    · rw [if_neg hc12] at h
      replace hc12 := (Bool.not_eq_true _).mp hc12
      by_cases hc14 : (a0.Kind == 2) = true
      · rw [if_pos hc14] at h
        simp -implicitDefEqProofs only [go_sem, Nat.reduceAdd, Nat.reduceSub, Nat.reduceMul, Nat.reduceLT, Nat.reduceLeDiff, Nat.reduceEqDiff, Nat.reduceBEq, hc12, hc14, mkSl]
        obtain ⟨r7, h15, h⟩ := bind_some h
        refine Vc.mono (strconv_Itoa_ok h15) ?_
        rintro _ _ rfl
        obtain ⟨s8, h16, h⟩ := bind_some h
        obtain rfl := Option.some.inj h
        simp -implicitDefEqProofs only [go_sem, Nat.reduceAdd, Nat.reduceSub, Nat.reduceMul, Nat.reduceLT, Nat.reduceLeDiff, Nat.reduceEqDiff, Nat.reduceBEq, h16, mkSl]
      · rw [if_neg hc14] at h
        replace hc14 := (Bool.not_eq_true _).mp hc14
        simp -implicitDefEqProofs only [go_sem, Nat.reduceAdd, Nat.reduceSub, Nat.reduceMul, Nat.reduceLT, Nat.reduceLeDiff, Nat.reduceEqDiff, Nat.reduceBEq, hc12, hc14, mkSl]
        obtain ⟨r9, h17, h⟩ := bind_some h
        refine Vc.mono (expr_Expr_Show_ok h17) ?_
        rintro _ _ rfl
        obtain ⟨s10, h18, h⟩ := bind_some h
        obtain rfl := Option.some.inj h
        simp -implicitDefEqProofs only [go_sem, Nat.reduceAdd, Nat.reduceSub, Nat.reduceMul, Nat.reduceLT, Nat.reduceLeDiff, Nat.reduceEqDiff, Nat.reduceBEq, h18, mkSl]
theorem cmd_Command_Show_ok {a0 : CmdCommand} {r : (List UInt8)} (h : cmd_Command_Show a0 = some r) :
  Vc cfg 43 [.agg [.lit (.int .i64 a0.Kind), .sl .view (a0.N.map (En.int .i64).enc), .lit (.string (bs a0.Name)), .lit (.int .i64 a0.Break.Kind), .lit (.string (bs a0.Break.Name)), .lit (.int .i64 a0.Break.N), .sl .view (a0.Break.If.map ExprNode.en.enc), .lit (.bool a0.Break.Off), .sl .view (a0.Watch.map ExprNode.en.enc)]] [] fun v _ => v = .lit (.string (bs r)) := by
  refine Vc_of (fn := Tryz.f43) rfl Tryz.func43 rfl Tryz.ntmps43 Tryz.results43 (by kernel_rfl) ?_
  conv => arg 3; whnf
  unfold cmd_Command_Show at h
  obtain ⟨j1, h1, h⟩ := bind_some h
  have h2 := vindexAddr_tab (P := Tryz.prog) (t := 72) (k := .i64) (cs := tab1V) (off := 0) h1 (by simp -implicitDefEqProofs only [go_sem, Nat.reduceAdd, Nat.reduceSub, Nat.reduceMul, Nat.reduceLT, Nat.reduceLeDiff, Nat.reduceEqDiff, Nat.reduceBEq, Option.map_some])
  try simp -implicitDefEqProofs only [go_sem, Nat.reduceAdd, Nat.reduceSub, Nat.reduceMul, Nat.reduceLT, Nat.reduceLeDiff, Nat.reduceEqDiff, Nat.reduceBEq] at h2
  obtain ⟨x2, h3, h⟩ := bind_some h
  have h3l := lt_of_get h3
  try simp only [List.length_cons, List.length_nil, Nat.reduceAdd] at h3l
  simp -implicitDefEqProofs only [go_sem, Nat.reduceAdd, Nat.reduceSub, Nat.reduceMul, Nat.reduceLT, Nat.reduceLeDiff, Nat.reduceEqDiff, Nat.reduceBEq, h2, h3, h3l]
  obtain ⟨xx4, h6, hk7, hx5⟩ := jn_some h
  clear h
  refine seqK_join (x := xx4) (fun s3 => mkSl 51 [(1, .ptr 0 0), (3, .sl .own (s3.map En.str.enc))]) (fun s3 => [.var [.lit (.int .i64 a0.Kind), .sl .view (a0.N.map (En.int .i64).enc), .lit (.string (bs a0.Name)), .lit (.int .i64 a0.Break.Kind), .lit (.string (bs a0.Break.Name)), .lit (.int .i64 a0.Break.N), .sl .view (a0.Break.If.map ExprNode.en.enc), .lit (.bool a0.Break.Off), .sl .view (a0.Watch.map ExprNode.en.enc)]]) ?_ ?_
  · clear hk7
    unfold cmd_Command_Show_j0 at h6
    have h := h6
    clear h6
    simp -implicitDefEqProofs only [go_sem, Nat.reduceAdd, Nat.reduceSub, Nat.reduceMul, Nat.reduceLT, Nat.reduceLeDiff, Nat.reduceEqDiff, Nat.reduceBEq]
    refine wpLoop_run' (step := cmd_Command_Show_l1_step a0) (fun s4 => mkSl 51 [(1, .ptr 0 0), (3, .sl .own (s4.1.map En.str.enc)), (12, .sl .view (a0.N.map (En.int .i64).enc)), (13, .lit (.int .i64 (a0.N.length : Int))), (14, .lit (.int .i64 s4.2))]) (fun s4 => [.var [.lit (.int .i64 a0.Kind), .sl .view (a0.N.map (En.int .i64).enc), .lit (.string (bs a0.Name)), .lit (.int .i64 a0.Break.Kind), .lit (.string (bs a0.Break.Name)), .lit (.int .i64 a0.Break.N), .sl .view (a0.Break.If.map ExprNode.en.enc), .lit (.bool a0.Break.Off), .sl .view (a0.Watch.map ExprNode.en.enc)]]) h (by kernel_rfl) (by first | rfl | simp -implicitDefEqProofs only [go_sem, Nat.reduceAdd, Nat.reduceSub, Nat.reduceMul, Nat.reduceLT, Nat.reduceLeDiff, Nat.reduceEqDiff, Nat.reduceBEq, mkSl]) (by first | rfl | simp -implicitDefEqProofs only [go_sem, Nat.reduceAdd, Nat.reduceSub, Nat.reduceMul, Nat.reduceLT, Nat.reduceLeDiff, Nat.reduceEqDiff, Nat.reduceBEq]) ?_
    clear h
    intro s4 xx8 h hx9
    unfold cmd_Command_Show_l1_step at h
    by_cases hc10 : s4.2 < (a0.N.length : Int)
    · rw [if_pos hc10] at h
      obtain ⟨x5, h11, h⟩ := bind_some h
      simp -implicitDefEqProofs only [go_sem, Nat.reduceAdd, Nat.reduceSub, Nat.reduceMul, Nat.reduceLT, Nat.reduceLeDiff, Nat.reduceEqDiff, Nat.reduceBEq, hc10, h11, mkSl]
      obtain ⟨r6, h12, h⟩ := bind_some h
      refine Vc.mono (strconv_Itoa_ok h12) ?_
      rintro _ _ rfl
      obtain ⟨l7, h13, h⟩ := bind_some h
      have h14 := vappend_en En.str (P := Tryz.prog) (t := 30) (f := .own) h13 (by simp -implicitDefEqProofs only [go_sem, Nat.reduceAdd, Nat.reduceSub, Nat.reduceMul, Nat.reduceLT, Nat.reduceLeDiff, Nat.reduceEqDiff, Nat.reduceBEq, Option.map_some])
      simp -implicitDefEqProofs only [go_sem, Nat.reduceAdd, Nat.reduceSub, Nat.reduceMul, Nat.reduceLT, Nat.reduceLeDiff, Nat.reduceEqDiff, Nat.reduceBEq] at h14
      obtain rfl := Option.some.inj h
      simp -implicitDefEqProofs only [go_sem, Nat.reduceAdd, Nat.reduceSub, Nat.reduceMul, Nat.reduceLT, Nat.reduceLeDiff, Nat.reduceEqDiff, Nat.reduceBEq, h14, mkSl]
      exact ⟨_, rfl, rfl⟩
    · rw [if_neg hc10] at h
      obtain rfl := Option.some.inj h
      obtain rfl := hx9 _ rfl
      simp -implicitDefEqProofs only [go_sem, Nat.reduceAdd, Nat.reduceSub, Nat.reduceMul, Nat.reduceLT, Nat.reduceLeDiff, Nat.reduceEqDiff, Nat.reduceBEq, hc10, mkSl]
      exact ⟨_, rfl, rfl⟩
  · intro s3 hi15
    have h := hk7 _ hi15
    clear h6 hx5 hk7 hi15
    by_cases hc16 : (a0.Kind == 23) = true
    · rw [if_pos hc16] at h
      obtain ⟨l8, h17, h⟩ := bind_some h
      have h18 := vappend_en En.str (P := Tryz.prog) (t := 30) (f := .own) h17 (by simp -implicitDefEqProofs only [go_sem, Nat.reduceAdd, Nat.reduceSub, Nat.reduceMul, Nat.reduceLT, Nat.reduceLeDiff, Nat.reduceEqDiff, Nat.reduceBEq, Option.map_some])
      simp -implicitDefEqProofs only [go_sem, Nat.reduceAdd, Nat.reduceSub, Nat.reduceMul, Nat.reduceLT, Nat.reduceLeDiff, Nat.reduceEqDiff, Nat.reduceBEq] at h18
      simp -implicitDefEqProofs only [go_sem, Nat.reduceAdd, Nat.reduceSub, Nat.reduceMul, Nat.reduceLT, Nat.reduceLeDiff, Nat.reduceEqDiff, Nat.reduceBEq, hc16, h18, mkSl]
      obtain ⟨r9, h19, h⟩ := bind_some h
      refine Vc.mono (strings_Join_ok h19) ?_
      rintro _ _ rfl
      obtain rfl := Option.some.inj h
      simp -implicitDefEqProofs only [go_sem, Nat.reduceAdd, Nat.reduceSub, Nat.reduceMul, Nat.reduceLT, Nat.reduceLeDiff, Nat.reduceEqDiff, Nat.reduceBEq, mkSl]
    · rw [if_neg hc16] at h
      replace hc16 := (Bool.not_eq_true _).mp hc16
      by_cases hc20 : (a0.Kind == 24) = true
      · rw [if_pos hc20] at h
        simp -implicitDefEqProofs only [go_sem, Nat.reduceAdd, Nat.reduceSub, Nat.reduceMul, Nat.reduceLT, Nat.reduceLeDiff, Nat.reduceEqDiff, Nat.reduceBEq, hc16, hc20, mkSl]
        obtain ⟨r10, h21, h⟩ := bind_some h
        refine Vc.mono (brk_Break_Show_ok h21) ?_
        rintro _ _ rfl
        obtain ⟨l11, h22, h⟩ := bind_some h
        have h23 := vappend_en En.str (P := Tryz.prog) (t := 30) (f := .own) h22 (by simp -implicitDefEqProofs only [go_sem, Nat.reduceAdd, Nat.reduceSub, Nat.reduceMul, Nat.reduceLT, Nat.reduceLeDiff, Nat.reduceEqDiff, Nat.reduceBEq, Option.map_some])
        simp -implicitDefEqProofs only [go_sem, Nat.reduceAdd, Nat.reduceSub, Nat.reduceMul, Nat.reduceLT, Nat.reduceLeDiff, Nat.reduceEqDiff, Nat.reduceBEq] at h23
        simp -implicitDefEqProofs only [go_sem, Nat.reduceAdd, Nat.reduceSub, Nat.reduceMul, Nat.reduceLT, Nat.reduceLeDiff, Nat.reduceEqDiff, Nat.reduceBEq, h23, mkSl]
        obtain ⟨r12, h24, h⟩ := bind_some h
        refine Vc.mono (strings_Join_ok h24) ?_
        rintro _ _ rfl
        obtain rfl := Option.some.inj h
        simp -implicitDefEqProofs only [go_sem, Nat.reduceAdd, Nat.reduceSub, Nat.reduceMul, Nat.reduceLT, Nat.reduceLeDiff, Nat.reduceEqDiff, Nat.reduceBEq, mkSl]
      · rw [if_neg hc20] at h
        replace hc20 := (Bool.not_eq_true _).mp hc20
        by_cases hc25 : (a0.Kind == 25) = true
        · rw [if_pos hc25] at h
          simp -implicitDefEqProofs only [go_sem, Nat.reduceAdd, Nat.reduceSub, Nat.reduceMul, Nat.reduceLT, Nat.reduceLeDiff, Nat.reduceEqDiff, Nat.reduceBEq, hc16, hc20, hc25, mkSl]
          obtain ⟨r13, h26, h⟩ := bind_some h
          refine Vc.mono (expr_Expr_Show_ok h26) ?_
          rintro _ _ rfl
          obtain ⟨l14, h27, h⟩ := bind_some h
          have h28 := vappend_en En.str (P := Tryz.prog) (t := 30) (f := .own) h27 (by simp -implicitDefEqProofs only [go_sem, Nat.reduceAdd, Nat.reduceSub, Nat.reduceMul, Nat.reduceLT, Nat.reduceLeDiff, Nat.reduceEqDiff, Nat.reduceBEq, Option.map_some])
          simp -implicitDefEqProofs only [go_sem, Nat.reduceAdd, Nat.reduceSub, Nat.reduceMul, Nat.reduceLT, Nat.reduceLeDiff, Nat.reduceEqDiff, Nat.reduceBEq] at h28
          simp -implicitDefEqProofs only [go_sem, Nat.reduceAdd, Nat.reduceSub, Nat.reduceMul, Nat.reduceLT, Nat.reduceLeDiff, Nat.reduceEqDiff, Nat.reduceBEq, h28, mkSl]
          obtain ⟨r15, h29, h⟩ := bind_some h
          refine Vc.mono (strings_Join_ok h29) ?_
          rintro _ _ rfl
          obtain rfl := Option.some.inj h
          simp -implicitDefEqProofs only [go_sem, Nat.reduceAdd, Nat.reduceSub, Nat.reduceMul, Nat.reduceLT, Nat.reduceLeDiff, Nat.reduceEqDiff, Nat.reduceBEq, mkSl]
        · rw [if_neg hc25] at h
          replace hc25 := (Bool.not_eq_true _).mp hc25
          simp -implicitDefEqProofs only [go_sem, Nat.reduceAdd, Nat.reduceSub, Nat.reduceMul, Nat.reduceLT, Nat.reduceLeDiff, Nat.reduceEqDiff, Nat.reduceBEq, hc16, hc20, hc25, mkSl]
          obtain ⟨r16, h30, h⟩ := bind_some h
          refine Vc.mono (strings_Join_ok h30) ?_
          rintro _ _ rfl
          obtain rfl := Option.some.inj h
          simp -implicitDefEqProofs only [go_sem, Nat.reduceAdd, Nat.reduceSub, Nat.reduceMul, Nat.reduceLT, Nat.reduceLeDiff, Nat.reduceEqDiff, Nat.reduceBEq, mkSl]
end Go.Proofs.YtilmjbljkkbakaaGreatDoor
