/-
  A part of the proof: our library of the interpreter.
-/
import Derived.Test.YtilmjbljkkbakaaDoorS16
set_option linter.unusedSimpArgs false
set_option linter.unusedVariables false
set_option linter.unusedSectionVars false
set_option linter.unnecessarySimpa false
set_option linter.deprecated false
namespace Go.Wv

section
variable {C : Cfg}

/-- one operation -/
def vstep (C : Cfg) (K : Nat) (f : FuncId) (ops : Array Oper) (o : Oper) (sl : List VV) (B : List Blk) : Option (List VV × List Blk) :=
  match gate ops sl o with
  | none => none
  | some false => some (putS sl o.dst (.tup []), B)
  | some true => match o.op with
    | .call { callee := .value x, args, argTypes } => match callee C sl { callee := .value x, args, argTypes } with
      | none => none
      | some (g, as, caps) => if C.pure g then
          (if okRs 0 (pargs C g sl 0 as).1 && okRs 0 caps then
             match vcall C K g ((pargs C g sl 0 as).1 ++ caps) [] with
             | none => none
             | some (r, _) => some (putS (pargs C g sl 0 as).2 o.dst r, B)
           else none)
        else match vargs C g sl B 0 as with
        | none => none
        | some (vs, sl', B') => match vcall C K g (vs ++ caps) B' with
          | none => none
          | some (r, B'') => some (putS sl' o.dst r, B'')
    | _ => match vop C f o sl B with
      | none => none
      | some (v, sl', B') => some (putS sl' o.dst v, B')

theorem vops_step (k : Nat) (f : FuncId) (ops : Array Oper) (o : Oper) (rest : List Oper) (sl : List VV) (B : List Blk) :
    vops C (k + 1) f ops (o :: rest) sl B = match vstep C k f ops o sl B with
      | none => none
      | some (sl', B') => vops C k f ops rest sl' B' := by
  rw [vops_cons]
  unfold vstep
  cases gate ops sl o with
  | none => rfl
  | some b =>
    cases b with
    | false => rfl
    | true =>
      simp only
      obtain ⟨dst, op, type, pos, after, guard⟩ := o
      cases op
      case call c =>
        obtain ⟨cal, args, argTypes⟩ := c
        cases cal
        case value x =>
          simp only
          cases callee C sl { callee := .value x, args, argTypes } with
          | none => rfl
          | some p =>
            obtain ⟨g, as, caps⟩ := p
            simp only
            by_cases hp : C.pure g = true
            · simp only [hp, if_true]
              by_cases hk : (okRs 0 (pargs C g sl 0 as).1 && okRs 0 caps) = true
              · simp only [hk, if_true]
                cases vcall C k g ((pargs C g sl 0 as).1 ++ caps) [] <;> rfl
              · simp only [hk]; rfl
            · simp only [hp]
              simp only [Bool.false_eq_true, if_false]
              cases vargs C g sl B 0 as with
              | none => rfl
              | some q =>
                obtain ⟨vs, sl', B'⟩ := q
                simp only
                cases vcall C k g (vs ++ caps) B' <;> rfl
        all_goals (simp only; generalize vop C f _ sl B = z; cases z <;> rfl)
      all_goals (simp only; generalize vop C f _ sl B = z; cases z <;> rfl)

/-- a list of operations, all with the same fuel for what they call -/
def vrun (C : Cfg) (K : Nat) (f : FuncId) (ops : Array Oper) : List Oper → List VV → List Blk → Option (List VV × List Blk)
  | [], sl, B => some (sl, B)
  | o :: rest, sl, B => match vstep C K f ops o sl B with
    | none => none
    | some (sl', B') => vrun C K f ops rest sl' B'

theorem vstep_mono {K K' : Nat} (hc : ∀ g vs B r, vcall C K g vs B = some r → vcall C K' g vs B = some r) {f : FuncId} {ops : Array Oper} {o : Oper} {sl : List VV} {B : List Blk} {r : List VV × List Blk}
    (h : vstep C K f ops o sl B = some r) : vstep C K' f ops o sl B = some r := by
  unfold vstep at h ⊢
  cases hg : gate ops sl o with
  | none => rw [hg] at h; cases h
  | some b =>
    rw [hg] at h
    cases b with
    | false => exact h
    | true =>
      simp only at h ⊢
      obtain ⟨dst, op, type, pos, after, guard⟩ := o
      cases op
      case call c =>
        obtain ⟨cal, args, argTypes⟩ := c
        cases cal
        case value x =>
          simp only at h ⊢
          cases hcal : callee C sl { callee := .value x, args, argTypes } with
          | none => rw [hcal] at h; cases h
          | some p =>
            obtain ⟨g, as, caps⟩ := p
            rw [hcal] at h
            simp only at h ⊢
            by_cases hp : C.pure g = true
            · simp only [hp, if_true] at h ⊢
              by_cases hk : (okRs 0 (pargs C g sl 0 as).1 && okRs 0 caps) = true
              · simp only [hk, if_true] at h ⊢
                cases hv : vcall C K g ((pargs C g sl 0 as).1 ++ caps) [] with
                | none => rw [hv] at h; cases h
                | some p => rw [hv] at h; rw [hc _ _ _ _ hv]; exact h
              · simp only [hk] at h; cases h
            · simp only [hp] at h ⊢
              simp only [Bool.false_eq_true, if_false] at h ⊢
              cases hv : vargs C g sl B 0 as with
              | none => rw [hv] at h; cases h
              | some q =>
                obtain ⟨vs, sl', B'⟩ := q
                rw [hv] at h
                simp only at h ⊢
                cases hw : vcall C K g (vs ++ caps) B' with
                | none => rw [hw] at h; cases h
                | some p => rw [hw] at h; rw [hc _ _ _ _ hw]; exact h
        all_goals exact h
      all_goals exact h

theorem mono_all (k : Nat) : (∀ f c sl B r, vcode C k f c sl B = some r → vcode C (k + 1) f c sl B = some r) ∧
    (∀ f b ks n sl B r, vloop C k f b ks n sl B = some r → vloop C (k + 1) f b ks n sl B = some r) ∧
    (∀ f ops l sl B r, vops C k f ops l sl B = some r → vops C (k + 1) f ops l sl B = some r) ∧
    (∀ g vs B r, vcall C k g vs B = some r → vcall C (k + 1) g vs B = some r) := by
  induction k with
  | zero => refine ⟨?_, ?_, ?_, ?_⟩ <;> (intros; rename_i h; first | (rw [vcode] at h; cases h; done) | (rw [vloop] at h; cases h; done) | (rw [vops] at h; cases h; done) | (rw [vcall] at h; cases h; done))
  | succ k ih =>
    obtain ⟨ihc, ihl, iho, ihk⟩ := ih
    refine ⟨?_, ?_, ?_, ?_⟩
    · intro f c sl B r h
      cases c <;> simp only [vcode] at h ⊢ <;> try exact h
      case seq a b =>
        cases ha : vcode C k f a sl B with
        | none => rw [ha] at h; cases h
        | some p =>
          obtain ⟨e, sl', B'⟩ := p
          rw [ha] at h; rw [ihc _ _ _ _ _ ha]
          cases e with
          | normal => exact ihc _ _ _ _ _ h
          | exit i => exact h
          | ret => exact h
      case cond x a b =>
        split at h
        · rename_i t ht
          split at h
          · rename_i htt; simp only [htt, if_true]; exact ihc _ _ _ _ _ h
          · rename_i htt; simp only [htt]; exact ihc _ _ _ _ _ h
        · cases h
      case block i b =>
        cases ha : vcode C k f b sl B with
        | none => rw [ha] at h; cases h
        | some p => rw [ha] at h; rw [ihc _ _ _ _ _ ha]; exact h
      case region i ops dr =>
        split at h
        · cases h
        · rename_i hd; simp only [hd]; exact iho _ _ _ _ _ _ h
      case loop b =>
        split at h
        · cases h
        · rename_i ks hks
          split at h
          · rename_i sl1 B1 hn; exact ihl _ _ _ _ _ _ _ h
          · cases h
    · intro f b ks n sl B r h
      simp only [vloop] at h
      rw [vloop]
      cases ha : vcode C k f b sl B with
      | none => rw [ha] at h; cases h
      | some p =>
        obtain ⟨e, sl', B'⟩ := p
        rw [ha] at h; rw [ihc _ _ _ _ _ ha]
        cases e with
        | normal =>
          simp only at h ⊢
          split at h
          · rename_i sl1 B1 hn; exact ihl _ _ _ _ _ _ _ h
          · cases h
        | exit i => exact h
        | ret => exact h
    · intro f ops l sl B r h
      cases l with
      | nil => rw [vops] at h ⊢; exact h
      | cons o rest =>
        rw [vops_step] at h ⊢
        cases hs : vstep C k f ops o sl B with
        | none => rw [hs] at h; cases h
        | some p =>
          rw [hs] at h; rw [vstep_mono ihk hs]
          exact iho _ _ _ _ _ _ h
    · intro g vs B r h
      simp only [vcall] at h
      rw [vcall]
      split at h
      · exact h
      · split at h
        · cases h
        · rename_i fn hfn
          split at h
          · cases h
          · rename_i c hc
            cases ha : vcode C k g c (vs ++ List.replicate (fn.ntmps - vs.length) (.tup [])) B with
            | none => rw [ha] at h; cases h
            | some p => rw [ha] at h; rw [ihc _ _ _ _ _ ha]; exact h

theorem vcall_mono {k k' : Nat} (hk : k ≤ k') {g : FuncId} {vs : List VV} {B : List Blk} {r : VV × List Blk} (h : vcall C k g vs B = some r) : vcall C k' g vs B = some r := by
  induction hk with
  | refl => exact h
  | step _ ih => exact (mono_all _).2.2.2 _ _ _ _ ih

theorem vops_run {K : Nat} {f : FuncId} {ops : Array Oper} : ∀ {k : Nat} (_ : k ≤ K) {l : List Oper} {sl : List VV} {B : List Blk} {e : Ex} {sl' : List VV} {B' : List Blk},
    vops C k f ops l sl B = some (e, sl', B') → e = .normal ∧ vrun C K f ops l sl B = some (sl', B')
  | 0, _, l, sl, B, e, sl', B', h => by rw [vops] at h; cases h
  | k + 1, hk, [], sl, B, e, sl', B', h => by
    rw [vops] at h
    simp only [Option.some.injEq, Prod.mk.injEq] at h
    obtain ⟨rfl, rfl, rfl⟩ := h
    exact ⟨rfl, rfl⟩
  | k + 1, hk, o :: rest, sl, B, e, sl', B', h => by
    rw [vops_step] at h
    cases hs : vstep C k f ops o sl B with
    | none => rw [hs] at h; cases h
    | some p =>
      obtain ⟨sl1, B1⟩ := p
      rw [hs] at h
      have := vops_run (k := k) (K := K) (by omega) h
      refine ⟨this.1, ?_⟩
      rw [vrun, vstep_mono (K := k) (K' := K) (fun _ _ _ _ h => vcall_mono (by omega) h) hs]
      exact this.2

/-! No step loses a block. -/
theorem norm_len {ks : List Nat} {n : Nat} {sl sl1 : List VV} {B B1 : List Blk} (h : norm ks n sl B = some (sl1, B1)) : B1 = B.take n := by
  unfold norm at h
  split at h
  · simp only [Option.some.injEq, Prod.mk.injEq] at h; exact h.2.symm
  · cases h

theorem vstep_len {K : Nat} (hc : ∀ g vs B r B', vcall C K g vs B = some (r, B') → B.length ≤ B'.length) {f : FuncId} {ops : Array Oper} {o : Oper} {sl sl' : List VV} {B B' : List Blk}
    (h : vstep C K f ops o sl B = some (sl', B')) : B.length ≤ B'.length := by
  unfold vstep at h
  split at h
  · cases h
  · simp only [Option.some.injEq, Prod.mk.injEq] at h; rw [← h.2]; exact Nat.le_refl _
  · split at h
    · split at h
      · cases h
      · split at h
        · split at h
          · split at h
            · cases h
            · simp only [Option.some.injEq, Prod.mk.injEq] at h; rw [← h.2]; exact Nat.le_refl _
          · cases h
        · split at h
          · cases h
          · rename_i hv
            split at h
            · cases h
            · rename_i hw
              simp only [Option.some.injEq, Prod.mk.injEq] at h
              rw [← h.2, ← vargs_len hv]
              exact hc _ _ _ _ _ hw
    · split at h
      · cases h
      · rename_i hv
        simp only [Option.some.injEq, Prod.mk.injEq] at h
        rw [← h.2]
        exact vop_len hv

theorem len_all (k : Nat) : (∀ f c sl B e sl' B', vcode C k f c sl B = some (e, sl', B') → B.length ≤ B'.length) ∧
    (∀ f b ks n sl B e sl' B', n ≤ B.length → vloop C k f b ks n sl B = some (e, sl', B') → n ≤ B'.length) ∧
    (∀ f ops l sl B e sl' B', vops C k f ops l sl B = some (e, sl', B') → B.length ≤ B'.length) ∧
    (∀ g vs B r B', vcall C k g vs B = some (r, B') → B.length ≤ B'.length) := by
  induction k with
  | zero => refine ⟨?_, ?_, ?_, ?_⟩ <;> (intros; rename_i h; first | (rw [vcode] at h; cases h; done) | (rw [vloop] at h; cases h; done) | (rw [vops] at h; cases h; done) | (rw [vcall] at h; cases h; done))
  | succ k ih =>
    obtain ⟨ihc, ihl, iho, ihk⟩ := ih
    refine ⟨?_, ?_, ?_, ?_⟩
    · intro f c sl B e sl' B' h
      cases c <;> simp only [vcode, reduceCtorEq] at h
      case seq a b =>
        cases ha : vcode C k f a sl B with
        | none => rw [ha] at h; cases h
        | some p =>
          obtain ⟨e1, sl1, B1⟩ := p
          rw [ha] at h
          have h1 := ihc _ _ _ _ _ _ _ ha
          cases e1 with
          | normal => exact Nat.le_trans h1 (ihc _ _ _ _ _ _ _ h)
          | exit i => simp only [Option.some.injEq, Prod.mk.injEq] at h; rw [← h.2.2]; exact h1
          | ret => simp only [Option.some.injEq, Prod.mk.injEq] at h; rw [← h.2.2]; exact h1
      case cond x a b =>
        split at h
        · split at h <;> exact ihc _ _ _ _ _ _ _ h
        · cases h
      case block i b =>
        cases ha : vcode C k f b sl B with
        | none => rw [ha] at h; cases h
        | some p =>
          obtain ⟨e1, sl1, B1⟩ := p
          rw [ha] at h
          have h1 := ihc _ _ _ _ _ _ _ ha
          cases e1 with
          | exit j => simp only at h; split at h <;> (simp only [Option.some.injEq, Prod.mk.injEq] at h; rw [← h.2.2]; exact h1)
          | normal => simp only [Option.some.injEq, Prod.mk.injEq] at h; rw [← h.2.2]; exact h1
          | ret => simp only [Option.some.injEq, Prod.mk.injEq] at h; rw [← h.2.2]; exact h1
      case region i ops dr =>
        split at h
        · cases h
        · exact iho _ _ _ _ _ _ _ _ h
      case loop b =>
        split at h
        · cases h
        · split at h
          · rename_i hn
            have := norm_len hn
            exact ihl _ _ _ _ _ _ _ _ _ (by rw [this, List.length_take]; omega) h
          · cases h
      all_goals (simp only [Option.some.injEq, Prod.mk.injEq] at h; rw [← h.2.2]; exact Nat.le_refl _)
    · intro f b ks n sl B e sl' B' hle h
      simp only [vloop] at h
      cases ha : vcode C k f b sl B with
      | none => rw [ha] at h; cases h
      | some p =>
        obtain ⟨e1, sl1, B1⟩ := p
        rw [ha] at h
        have h1 := ihc _ _ _ _ _ _ _ ha
        cases e1 with
        | normal =>
          simp only at h
          split at h
          · rename_i hn
            have := norm_len hn
            exact ihl _ _ _ _ _ _ _ _ _ (by rw [this, List.length_take]; omega) h
          · cases h
        | exit i => simp only [Option.some.injEq, Prod.mk.injEq] at h; rw [← h.2.2]; omega
        | ret => simp only [Option.some.injEq, Prod.mk.injEq] at h; rw [← h.2.2]; omega
    · intro f ops l sl B e sl' B' h
      cases l with
      | nil => rw [vops] at h; simp only [Option.some.injEq, Prod.mk.injEq] at h; rw [← h.2.2]; exact Nat.le_refl _
      | cons o rest =>
        rw [vops_step] at h
        cases hs : vstep C k f ops o sl B with
        | none => rw [hs] at h; cases h
        | some p =>
          obtain ⟨sl1, B1⟩ := p
          rw [hs] at h
          exact Nat.le_trans (vstep_len ihk hs) (iho _ _ _ _ _ _ _ _ h)
    · intro g vs B r B' h
      simp only [vcall] at h
      split at h
      · split at h
        · simp only [Option.some.injEq, Prod.mk.injEq] at h; rw [← h.2]; exact Nat.le_refl _
        · cases h
      · split at h
        · cases h
        · split at h
          · cases h
          · split at h
            · cases h
            · cases h
            · rename_i hc
              have h1 := ihc _ _ _ _ _ _ _ hc
              split at h
              · cases h
              · split at h
                · simp only [Option.some.injEq, Prod.mk.injEq] at h; rw [← h.2]; exact h1
                · split at h
                  · cases h
                  · rename_i hf
                    split at h
                    · simp only [Option.some.injEq, Prod.mk.injEq] at h
                      rw [← h.2, List.length_take, freezeR_len hf]
                      omega
                    · cases h

theorem vcode_len {k : Nat} {f : FuncId} {c : Code} {sl sl' : List VV} {B B' : List Blk} {e : Ex} (h : vcode C k f c sl B = some (e, sl', B')) : B.length ≤ B'.length := (len_all k).1 _ _ _ _ _ _ _ h
theorem vcall_len {k : Nat} {g : FuncId} {vs : List VV} {B B' : List Blk} {r : VV} (h : vcall C k g vs B = some (r, B')) : B.length ≤ B'.length := (len_all k).2.2.2 _ _ _ _ _ h

/-! guards -/
theorem gate_wanted {ops : Array Oper} {o : Oper} {g : G} {sl : List VV} {a : Act} {b : Bool} (hr : All2 (Rep g) sl a.tmps.toList) (h : gate ops sl o = some b) :
    Region.wanted o (yielded ops a.tmps) = b := by
  unfold gate at h
  unfold Region.wanted
  cases hg : o.guard with
  | none => rw [hg] at h; simpa using h
  | some jw =>
    obtain ⟨j, want⟩ := jw
    rw [hg] at h
    simp only at h ⊢
    unfold yielded
    cases hd : (ops[j]?).bind (·.dst) with
    | none => rw [hd] at h; cases h
    | some d =>
      rw [hd] at h
      simp only at h
      have hlt : ∀ v, getS sl d = v → v ≠ .gone → ∃ u, a.tmps[d]? = some u ∧ Rep g v u := by
        intro v hv hne
        unfold getS at hv
        rw [List.getD_eq_getElem?_getD] at hv
        cases hs : sl[d]? with
        | none => rw [hs] at hv; exact absurd hv.symm hne
        | some v' =>
          rw [hs] at hv
          obtain ⟨u, hu, hru⟩ := hr.get hs
          refine ⟨u, by simpa using hu, ?_⟩
          rw [← show v' = v from hv]; exact hru
      cases hv : getS sl d <;> rw [hv] at h <;> try (cases h; done)
      case lit v =>
        obtain ⟨u, hu, hru⟩ := hlt _ hv (by simp)
        cases v <;> simp only [reduceCtorEq] at h
        rename_i b0
        simp only [Option.some.injEq] at h
        obtain ⟨rfl, _⟩ := Rep_lit hru
        simp only [Option.bind_some, hu]
        subst h
        simp
      case tup vs =>
        obtain ⟨u, hu, hru⟩ := hlt _ hv (by simp)
        cases vs with
        | cons => simp at h
        | nil =>
          simp only [Option.some.injEq] at h
          subst h
          obtain ⟨arr, rfl, _⟩ := hru
          simp only [Option.bind_some, hu]
          rfl
end
end Go.Wv
