/-
  A part of the proof: our library of the interpreter.
-/
import Derived.Test.YtilmjbljkkbakaaDoorS26
import Derived.LoopN
set_option linter.unusedSimpArgs false
set_option linter.unusedVariables false
set_option linter.unusedSectionVars false
set_option linter.unnecessarySimpa false
set_option linter.deprecated false
namespace Go.Wv

/-! The interpreter is right about the model. -/

def exitOf : Ex → Exit
  | .normal => .normal
  | .exit i => .exit i
  | .ret => .ret

section
variable {C : Cfg}

def CodeOk (C : Cfg) (k : Nat) : Prop := ∀ (f : FuncId) (c : Code) (sl : List VV) (B : List Blk) (e : Ex) (sl' : List VV) (B' : List Blk), vcode C k f c sl B = some (e, sl', B') →
  ∀ (Pr : Nat → Prop) (g : G) (a : Act) (w : World) (Q : Exit → Act → World → Prop), GlobOk C g → Inv Pr g sl B a.tmps.toList w →
    (∀ a' w', Done C Pr B.length g w a.defers sl' B' a' w' → Q (exitOf e) a' w') → c.wp C.P Q a w
def LoopOk (C : Cfg) (k : Nat) : Prop := ∀ (f : FuncId) (b : Code) (ks : List Nat) (n : Nat) (sl : List VV) (B : List Blk) (e : Ex) (sl' : List VV) (B' : List Blk), vloop C k f b ks n sl B = some (e, sl', B') → n ≤ B.length →
  ∀ (Pr : Nat → Prop) (g : G) (a : Act) (w : World) (Q : Exit → Act → World → Prop), GlobOk C g → Inv Pr g sl B a.tmps.toList w →
    (∀ a' w', Done C Pr n g w a.defers sl' B' a' w' → Q (exitOf e) a' w') → Code.rounds C.P b Q k a w
def CallsOk (C : Cfg) (k : Nat) : Prop := ∀ (f : FuncId) (vs : List VV) (B : List Blk) (r : VV) (B' : List Blk), vcall C k f vs B = some (r, B') → CallOk C f vs B r B'

theorem Inv.drawn {Pr : Nat → Prop} {g : G} {sl : List VV} {B : List Blk} {tm : List Value} {w : World} (hi : Inv Pr g sl B tm w) (n : Nat) : Inv Pr g sl B tm { w with drawn := n } := by
  have hcb : ∀ b, cntB b g { w with drawn := n } 0 B = cntB b g w 0 B := fun b => cntB_congr B 0 fun _ _ _ => rfl
  exact ⟨hi.rep, hi.ok, ⟨hi.sto.comm, hi.sto.var, hi.sto.ro, hi.sto.inj⟩, fun b => by rw [hcb]; exact hi.uniq b, fun b hb => ⟨(hi.prot b hb).1, by rw [hcb]; exact (hi.prot b hb).2.1, (hi.prot b hb).2.2⟩⟩

theorem code_step (hC : CfgOk C) {k : Nat} (ihc : CodeOk C k) (ihl : LoopOk C k) (ihk : CallsOk C k) : CodeOk C (k + 1) := by
  intro f c sl B e sl' B' h Pr g a w Q hg hi hq
  cases c <;> simp only [vcode, reduceCtorEq] at h
  case skip =>
    simp only [Option.some.injEq, Prod.mk.injEq] at h
    obtain ⟨rfl, rfl, rfl⟩ := h
    exact wp_skip (hq a w ⟨rfl, g, Ext.refl _ _ _ _, hi⟩)
  case ret =>
    simp only [Option.some.injEq, Prod.mk.injEq] at h
    obtain ⟨rfl, rfl, rfl⟩ := h
    exact wp_ret (hq a w ⟨rfl, g, Ext.refl _ _ _ _, hi⟩)
  case exit i =>
    simp only [Option.some.injEq, Prod.mk.injEq] at h
    obtain ⟨rfl, rfl, rfl⟩ := h
    exact wp_exit (hq a w ⟨rfl, g, Ext.refl _ _ _ _, hi⟩)
  case seq x y =>
    refine wp_seq ?_
    cases ha : vcode C k f x sl B with
    | none => rw [ha] at h; cases h
    | some p =>
      obtain ⟨e1, sl1, B1⟩ := p
      rw [ha] at h
      have hl := vcode_len ha
      refine ihc f x sl B e1 sl1 B1 ha Pr g a w _ hg hi fun a1 w1 ⟨d1, g1, x1, i1⟩ => ?_
      cases e1 with
      | normal => exact ihc f y sl1 B1 e sl' B' h Pr g1 a1 w1 Q (x1.glob hg) i1 fun a2 w2 ⟨d2, g2, x2, i2⟩ => hq a2 w2 ⟨d2.trans d1, g2, x1.trans x2 hl, i2⟩
      | exit i =>
        simp only [Option.some.injEq, Prod.mk.injEq] at h
        obtain ⟨rfl, rfl, rfl⟩ := h
        exact hq a1 w1 ⟨d1, g1, x1, i1⟩
      | ret =>
        simp only [Option.some.injEq, Prod.mk.injEq] at h
        obtain ⟨rfl, rfl, rfl⟩ := h
        exact hq a1 w1 ⟨d1, g1, x1, i1⟩
  case cond x y z =>
    split at h <;> first | (cases h; done) | skip
    rename_i t ht
    have hx : a.eval x = .bool t := by rw [eval_evR]; exact ev_lit hg hi ht
    refine wp_cond hx ?_
    cases t with
    | true => exact ihc f y sl B e sl' B' h Pr g a w Q hg hi hq
    | false => exact ihc f z sl B e sl' B' h Pr g a w Q hg hi hq
  case block i b =>
    refine wp_block ?_
    cases ha : vcode C k f b sl B with
    | none => rw [ha] at h; cases h
    | some p =>
      obtain ⟨e1, sl1, B1⟩ := p
      rw [ha] at h
      refine ihc f b sl B e1 sl1 B1 ha Pr g a w _ hg hi fun a1 w1 hd1 => ?_
      cases e1 with
      | exit j =>
        simp only at h
        by_cases hj : j = i
        · rw [if_pos hj] at h
          simp only [Option.some.injEq, Prod.mk.injEq] at h
          obtain ⟨rfl, rfl, rfl⟩ := h
          simp only [exitOf, Exit.inBlock, hj, if_true]
          exact hq a1 w1 hd1
        · rw [if_neg hj] at h
          simp only [Option.some.injEq, Prod.mk.injEq] at h
          obtain ⟨rfl, rfl, rfl⟩ := h
          simp only [exitOf, Exit.inBlock, hj, if_false]
          exact hq a1 w1 hd1
      | normal =>
        simp only [Option.some.injEq, Prod.mk.injEq] at h
        obtain ⟨rfl, rfl, rfl⟩ := h
        exact hq a1 w1 hd1
      | ret =>
        simp only [Option.some.injEq, Prod.mk.injEq] at h
        obtain ⟨rfl, rfl, rfl⟩ := h
        exact hq a1 w1 hd1
  case region i ops draw =>
    split at h <;> first | (cases h; done) | skip
    rename_i hd
    obtain ⟨rfl, hr⟩ := vops_run (Nat.le_refl k) h
    rw [vrun_all] at hr
    cases draw with
    | false => exact wp_region (runI_ok hC ihk _ hg hi hr hq)
    | true =>
      have hd : drawOk C f i ops = true := by simpa using hd
      refine wp_region_any hC.mixed ?_
      refine any_ok hC ihk hd ops.size _ (List.range ops.size) (by simp) List.pairwise_lt_range (fun j => ?_) (by simp) (fun j hj => ?_) hg (hi.drawn (w.drawn + 1)) hr fun a' w' ⟨d', g', x', i'⟩ => hq a' w' ⟨d', g', ⟨x'.comm, x'.prot, x'.size, x'.phi, x'.out⟩, i'⟩
      · rw [List.mem_range]
        constructor
        · intro hj
          refine ⟨hj, ?_⟩
          simp [Array.getD_eq_getD_getElem?, hj]
        · exact fun h => h.1
      · exfalso
        rw [Array.getD_eq_getD_getElem?, Array.getElem?_replicate] at hj
        split at hj <;> simp at hj
  case loop b =>
    split at h <;> first | (cases h; done) | skip
    rename_i ks hks
    split at h <;> first | (cases h; done) | skip
    rename_i sl1 B1 hn
    obtain ⟨i1, l1⟩ := norm_ok hi (Nat.le_refl _) hn
    exact wp_loop_rounds k (ihl f b ks B.length sl1 B1 e sl' B' h (by omega) Pr g a w Q hg i1 hq)

theorem loop_step {k : Nat} (ihc : CodeOk C k) (ihl : LoopOk C k) : LoopOk C (k + 1) := by
  intro f b ks n sl B e sl' B' h hn Pr g a w Q hg hi hq
  rw [rounds_succ]
  simp only [vloop] at h
  cases ha : vcode C k f b sl B with
  | none => rw [ha] at h; cases h
  | some p =>
    obtain ⟨e1, sl1, B1⟩ := p
    rw [ha] at h
    have hl := vcode_len ha
    refine ihc f b sl B e1 sl1 B1 ha Pr g a w _ hg hi fun a1 w1 ⟨d1, g1, x1, i1⟩ => ?_
    have x1' : Ext Pr n g w g1 w1 := ⟨x1.comm, x1.prot, x1.size, fun i hi => x1.phi i (by omega), x1.out⟩
    cases e1 with
    | normal =>
      simp only at h
      split at h <;> first | (cases h; done) | skip
      rename_i sl2 B2 hno
      obtain ⟨i2, l2⟩ := norm_ok i1 (by omega) hno
      exact ihl f b ks n sl2 B2 e sl' B' h (by omega) Pr g1 a1 w1 Q (x1.glob hg) i2 fun a2 w2 ⟨d2, g2, x2, i3⟩ => hq a2 w2 ⟨d2.trans d1, g2, x1'.trans x2 (Nat.le_refl n), i3⟩
    | exit i =>
      simp only [Option.some.injEq, Prod.mk.injEq] at h
      obtain ⟨rfl, rfl, rfl⟩ := h
      exact hq a1 w1 ⟨d1, g1, x1', i1⟩
    | ret =>
      simp only [Option.some.injEq, Prod.mk.injEq] at h
      obtain ⟨rfl, rfl, rfl⟩ := h
      exact hq a1 w1 ⟨d1, g1, x1', i1⟩

theorem cntS_undef {b : Nat} : ∀ n : Nat, cntS b (List.replicate n (.tup [])) (List.replicate n undef) = 0
  | 0 => rfl
  | n + 1 => by
    simp only [List.replicate_succ, cntS, cntS_undef n, Nat.add_zero]
    exact cnt_zero rfl

theorem call_step (hC : CfgOk C) {k : Nat} (ihc : CodeOk C k) : CallsOk C (k + 1) := by
  intro f vs B r B' h
  simp only [vcall] at h
  split at h
  · rename_i e he
    split at h <;> first | (cases h; done) | skip
    rename_i v hv
    simp only [Option.some.injEq, Prod.mk.injEq] at h
    obtain ⟨rfl, rfl⟩ := h
    exact hC.ext f e vs v B he hv
  · split at h <;> first | (cases h; done) | skip
    rename_i fn hf
    split at h <;> first | (cases h; done) | skip
    rename_i c hb
    intro Pr g us w hg hi
    have hrun : (callFunc f us.toArray).run C.P w = .ok (.enter f us.toArray) w := by
      have h1 : fn.name ≠ "runtime.NumGoroutine" := by simpa using hC.ng f fn hf
      simp [callFunc, hf, h1, hb]
    rw [hrun]
    show Calls _ _ _ _ _
    refine calls_of_wp hf hb ?_
    have hl := hi.rep.length
    cases hcode : vcode C k f c (vs ++ List.replicate (fn.ntmps - vs.length) (.tup [])) B with
    | none => rw [hcode] at h; cases h
    | some p =>
      obtain ⟨e, sl1, B1⟩ := p
      rw [hcode] at h
      have hlen := vcode_len hcode
      have hi0 : Inv Pr g (vs ++ List.replicate (fn.ntmps - vs.length) (.tup [])) B (us.toArray ++ Array.replicate (fn.ntmps - us.toArray.size) undef).toList w := by
        have e1 : (us.toArray ++ Array.replicate (fn.ntmps - us.toArray.size) undef).toList = us ++ List.replicate (fn.ntmps - vs.length) undef := by simp [hl]
        rw [e1]
        refine hi.change (hi.rep.append (All2.replicate (show Rep g (.tup []) undef from ⟨#[], rfl, .nil⟩) _)) ?_ fun b => ?_
        · rw [okRs_append, hi.ok]
          simp only [Bool.true_and, okRs]
          exact List.all_eq_true.2 fun x hx => by rw [List.eq_of_mem_replicate hx]; rfl
        · rw [cntS_append hl, cntS_undef]; omega
      refine ihc f c _ B e sl1 B1 hcode Pr g { tmps := us.toArray ++ Array.replicate (fn.ntmps - us.toArray.size) undef, defers := [] } w _ hg hi0 fun a1 w1 ⟨d1, g1, x1, i1⟩ => ?_
      have fin : (match resL C sl1 B1 fn.results.toList with
          | none => none
          | some vs => if C.raw f then some (tuple1 vs, B1) else
            match freezeR (C.resm f == .own) B1 vs with
            | none => none
            | some (vs', B'') => if okRs B.length vs' then some (tuple1 vs', B''.take B.length) else none : Option (VV × List Blk)) = some (r, B') →
          ∃ v, (results fn a1.tmps).run C.P w1 = .ok v w1 ∧ ∃ g', Ext Pr B.length g w g' w1 ∧ Inv Pr g' [r] B' [v] w1 := by
        intro h
        split at h <;> first | (cases h; done) | skip
        rename_i rs hrs
        obtain ⟨ur, r1, r2, r3⟩ := results_run (x1.glob hg) i1 hrs
        refine ⟨_, r1, ?_⟩
        split at h
        · simp only [Option.some.injEq, Prod.mk.injEq] at h
          obtain ⟨rfl, rfl⟩ := h
          exact ⟨g1, x1, tuple1_ok r3 r2⟩
        · split at h <;> first | (cases h; done) | skip
          rename_i rs' B2 hfz
          split at h <;> first | (cases h; done) | skip
          rename_i hok
          simp only [Option.some.injEq, Prod.mk.injEq] at h
          obtain ⟨rfl, rfl⟩ := h
          obtain ⟨g2, gr2, i2, v2⟩ := freezeR_ok (acc := []) (uacc := []) rfl (by simpa using r3) r2 hfz
          simp only [List.nil_append] at i2
          have hl2 := freezeR_len hfz
          exact ⟨g2, x1.trans (gr2.ext B.length w1) (Nat.le_refl _), tuple1_ok (i2.take B.length hok (by omega)) v2⟩
      cases e with
      | exit i => cases h
      | normal =>
        obtain ⟨v, hv, g', x', i'⟩ := fin h
        exact ⟨d1, v, hv, g', x', i'⟩
      | ret =>
        obtain ⟨v, hv, g', x', i'⟩ := fin h
        exact ⟨d1, v, hv, g', x', i'⟩

theorem all_ok (hC : CfgOk C) : ∀ k, CodeOk C k ∧ LoopOk C k ∧ CallsOk C k
  | 0 => ⟨fun _ _ _ _ _ _ _ h => (by rw [vcode] at h; cases h), fun _ _ _ _ _ _ _ _ _ h => (by rw [vloop] at h; cases h), fun _ _ _ _ _ h => (by rw [vcall] at h; cases h)⟩
  | k + 1 => let ⟨h1, h2, h3⟩ := all_ok hC k; ⟨code_step hC h1 h2 h3, loop_step h1 h2, call_step hC h1⟩

/-- What the interpreter says of a call holds of the model. -/
theorem vcall_sound (hC : CfgOk C) {k : Nat} {f : FuncId} {vs : List VV} {B B' : List Blk} {r : VV} (h : vcall C k f vs B = some (r, B')) : CallOk C f vs B r B' := (all_ok hC k).2.2 f vs B r B' h

theorem Vc_sound (hC : CfgOk C) {f : FuncId} {vs : List VV} {B : List Blk} {R : VV → List Blk → Prop} (h : Vc C f vs B R) : ∃ r B', R r B' ∧ CallOk C f vs B r B' := by
  obtain ⟨⟨r, B'⟩, hR, k, hk⟩ := h
  exact ⟨r, B', hR, vcall_sound hC (hk k (Nat.le_refl k))⟩
end
end Go.Wv
