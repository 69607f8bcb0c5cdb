/-
  A part of the proof: our library of the interpreter.
-/
import Derived.Test.YtilmjbljkkbakaaGreatDoorV0
set_option linter.unusedSimpArgs false
set_option linter.unusedVariables false
set_option linter.unusedSectionVars false
set_option linter.unnecessarySimpa false
set_option linter.deprecated false
namespace Go.Wv

/-- From some number of rounds on, x comes to one thing, of which Q holds. -/
def W {α : Type} (x : Nat → Option α) (Q : α → Prop) : Prop := ∃ a, Q a ∧ ∃ k0, ∀ k, k0 ≤ k → x k = some a

theorem W.mono {α : Type} {x : Nat → Option α} {Q Q' : α → Prop} (h : W x Q) (hq : ∀ a, Q a → Q' a) : W x Q' := by
  obtain ⟨a, q, h⟩ := h
  exact ⟨a, hq a q, h⟩

theorem W.succ {α : Type} {x : Nat → Option α} {Q : α → Prop} (h : W (fun k => x (k + 1)) Q) : W x Q := by
  obtain ⟨a, q, k0, h⟩ := h
  refine ⟨a, q, k0 + 1, fun k hk => ?_⟩
  obtain ⟨j, rfl⟩ : ∃ j, k = j + 1 := ⟨k - 1, by omega⟩
  exact h j (by omega)

/-- first x, then f of it -/
theorem W.then {α β : Type} {x : Nat → Option α} {y : Nat → Option β} {Q : β → Prop} (f : α → Nat → Option β)
    (h : W x fun a => W (f a) Q) (hy : ∀ k a, x k = some a → y k = f a k) : W y Q := by
  obtain ⟨a, ⟨b, q, k1, h1⟩, k0, h0⟩ := h
  exact ⟨b, q, max k0 k1, fun k hk => by rw [hy k a (h0 k (by omega)), h1 k (by omega)]⟩

theorem W.ret {α : Type} {x : Nat → Option α} {a : α} {Q : α → Prop} (h : Q a) (hx : ∀ k, x k = some a) : W x Q := ⟨a, h, 0, fun k _ => hx k⟩

section
variable (C : Cfg)

abbrev Post := Ex → List VV → List Blk → Prop

/-- a call of a function with a text -/
def Vc (g : FuncId) (args : List VV) (B : List Blk) (R : VV → List Blk → Prop) : Prop :=
  W (fun k => vcall C k g args B) fun r => R r.1 r.2

theorem Vc.mono {C : Cfg} {g : FuncId} {args : List VV} {B : List Blk} {R R' : VV → List Blk → Prop} (h : Vc C g args B R) (hr : ∀ v B', R v B' → R' v B') :
    Vc C g args B R' := W.mono h fun a => hr a.1 a.2

/-- is an operation wanted? -/
def gate (ops : Array Oper) (sl : List VV) (o : Oper) : Option Bool :=
  match o.guard with
  | none => some true
  | some (j, want) => match (ops[j]?).bind (·.dst) with
    | some d => match getS sl d with
      | .lit (.bool b) => some (b == want)
      | .tup [] => some false
      | _ => none
    | none => none

def isCall (o : Oper) : Bool :=
  match o.op with
  | .call { callee := .value _, .. } => true
  | _ => false

/-- an operation that calls -/
def wpCall (_f : FuncId) (o : Oper) (sl : List VV) (B : List Blk) (K : List VV → List Blk → Prop) : Prop :=
  match o.op with
  | .call { callee := .value x, args, argTypes } => match callee C sl { callee := .value x, args, argTypes } with
    | none => False
    | some (g, as, caps) => if C.pure g then
        okRs 0 (pargs C g sl 0 as).1 = true ∧ okRs 0 caps = true ∧ Vc C g ((pargs C g sl 0 as).1 ++ caps) [] fun r _ => K (putS (pargs C g sl 0 as).2 o.dst r) B
      else match vargs C g sl B 0 as with
        | none => False
        | some (vs, sl', B') => Vc C g (vs ++ caps) B' fun r B'' => K (putS sl' o.dst r) B''
  | _ => False

def wpO (f : FuncId) (ops : Array Oper) (Q : Post) : List Oper → List VV → List Blk → Prop
  | [], sl, B => Q .normal sl B
  | o :: rest, sl, B =>
    match gate ops sl o with
    | none => False
    | some false => wpO f ops Q rest (putS sl o.dst (.tup [])) B
    | some true => if isCall o then wpCall C f o sl B (wpO f ops Q rest) else
        match vop C f o sl B with
        | none => False
        | some (v, sl', B') => wpO f ops Q rest (putS sl' o.dst v) B'

/-- a loop, from a normal state on -/
def wpLoop (f : FuncId) (b : Code) (ks : List (Nat × Bool)) (n : Nat) (Q : Post) (sl : List VV) (B : List Blk) : Prop :=
  W (fun k => vloop C k f b ks n sl B) fun r => Q r.1 r.2.1 r.2.2

/-- all regions that draw their order may do so -/
def drawsOk (f : FuncId) : Code → Bool
  | .seq a b => drawsOk f a && drawsOk f b
  | .cond _ a b => drawsOk f a && drawsOk f b
  | .block _ b => drawsOk f b
  | .loop b => drawsOk f b
  | .region id ops draw => !draw || drawOk C f id ops
  | _ => true

/-- what a region's end shows -/
def dynQ (ds : List (Tmp × Tmp)) (Q : Post) : Post := fun e sl B => dynAll ds sl = true ∧ Q e sl B

def wpC (f : FuncId) : Code → Post → List VV → List Blk → Prop
  | .skip, Q, sl, B => Q .normal sl B
  | .ret, Q, sl, B => Q .ret sl B
  | .exit i, Q, sl, B => Q (.exit i) sl B
  | .seq a b, Q, sl, B => wpC f a (fun e sl' B' => match e with
      | .normal => match joinS C f b sl' B' with
        | some (sl1, B1) => wpC f b Q sl1 B1
        | none => False
      | e => Q e sl' B') sl B
  | .cond x a b, Q, sl, B => match ev C sl x with
    | .lit (.bool t) => if t = true then wpC f a Q sl B else wpC f b Q sl B
    | _ => False
  | .block i b, Q, sl, B => wpC f b (fun e sl' B' => match e with
      | .exit j => if j = i then Q .normal sl' B' else Q (.exit j) sl' B'
      | e => Q e sl' B') sl B
  | .region id ops _, Q, sl, B => wpO C f ops (dynQ (C.dyn f id) Q) ops.toList sl B
  | .loop b, Q, sl, B => match C.keep f (firstRegion b) with
    | none => False
    | some ks => match norm ks B.length sl B with
      | some (sl1, B1) => wpLoop C f b ks B.length Q sl1 B1
      | none => False
  | _, _, _, _ => False

variable {C}

theorem vops_cons (k : Nat) (f : FuncId) (ops : Array Oper) (o : Oper) (rest : List Oper) (sl : List VV) (B : List Blk) :
    vops C (k + 1) f ops (o :: rest) sl B = match gate ops sl o with
      | none => none
      | some false => vops C k f ops rest (putS sl o.dst (.tup [])) B
      | some true => match o.op with
        | .call { callee := .value x, args, argTypes } => match callee C sl { callee := .value x, args, argTypes } with
          | none => none
          | some (g, as, caps) => if C.pure g then
              (if okRs 0 (pargs C g sl 0 as).1 && okRs 0 caps then
                 match vcall C k g ((pargs C g sl 0 as).1 ++ caps) [] with
                 | none => none
                 | some (r, _) => vops C k f ops rest (putS (pargs C g sl 0 as).2 o.dst r) B
               else none)
            else match vargs C g sl B 0 as with
            | none => none
            | some (vs, sl', B') => match vcall C k g (vs ++ caps) B' with
              | none => none
              | some (r, B'') => vops C k f ops rest (putS sl' o.dst r) B''
        | _ => match vop C f o sl B with
          | none => none
          | some (v, sl', B') => vops C k f ops rest (putS sl' o.dst v) B' := by
  rw [vops]; rfl

theorem wpO_sound (f : FuncId) (ops : Array Oper) (Q : Post) : ∀ (l : List Oper) (sl : List VV) (B : List Blk), wpO C f ops Q l sl B →
    W (fun k => vops C k f ops l sl B) fun r => Q r.1 r.2.1 r.2.2
  | [], sl, B, h => W.succ (W.ret (a := ((.normal, sl, B) : Ex × List VV × List Blk)) (Q := fun r => Q r.1 r.2.1 r.2.2) (by simpa only [wpO] using h) fun _ => by rw [vops])
  | o :: rest, sl, B, h => by
    refine W.succ ?_
    simp only [vops_cons]
    unfold wpO at h
    cases hg : gate ops sl o with
    | none => rw [hg] at h; exact h.elim
    | some b =>
      cases b with
      | false => rw [hg] at h; exact wpO_sound f ops Q rest _ _ h
      | true =>
        rw [hg] at h
        simp only at h ⊢
        by_cases hc : isCall o = true
        · rw [if_pos hc] at h
          obtain ⟨dst, op, type, pos, after, guard⟩ := o
          cases op <;> simp only [isCall, Bool.false_eq_true] at hc
          rename_i c
          obtain ⟨cal, args, argTypes⟩ := c
          cases cal <;> simp only [Bool.false_eq_true] at hc
          simp only [wpCall] at h ⊢
          split at h
          · exact h.elim
          · rename_i g as caps heq
            by_cases hp : C.pure g = true
            · rw [if_pos hp] at h
              simp only [hp, if_true]
              obtain ⟨h1, h2, h3⟩ := h
              simp only [h1, h2, Bool.and_self, if_true]
              refine W.then (fun (r : VV × List Blk) k => vops C k f ops rest (putS (pargs C g sl 0 as).2 dst r.1) B) (W.mono h3 fun r hr => wpO_sound f ops Q rest _ _ hr) ?_
              intro k a hk
              rw [hk]
            · rw [if_neg hp] at h
              simp only [hp, if_false]
              split at h
              · exact h.elim
              · rename_i vs sl' B' hv
                simp only [Bool.false_eq_true, if_false]
                refine W.then (fun (r : VV × List Blk) k => vops C k f ops rest (putS sl' dst r.1) r.2) (W.mono h fun r hr => wpO_sound f ops Q rest _ _ hr) ?_
                intro k a hk
                simp [hk]
        · rw [if_neg hc] at h
          cases hv : vop C f o sl B with
          | none => rw [hv] at h; exact h.elim
          | some r =>
            obtain ⟨v, sl', B'⟩ := r
            rw [hv] at h
            simp only at h
            refine W.mono (x := fun k => vops C k f ops rest (putS sl' o.dst v) B') (wpO_sound f ops Q rest _ _ h) (fun _ h => h) |> fun hw => ?_
            obtain ⟨a, q, k0, hk⟩ := hw
            refine ⟨a, q, k0, fun k hk0 => ?_⟩
            rw [← hk k hk0]
            obtain ⟨dst, op, type, pos, after, guard⟩ := o
            cases op <;> first | rfl | skip
            rename_i c
            obtain ⟨cal, args, argTypes⟩ := c
            cases cal <;> first | rfl | exact absurd rfl hc

theorem wpC_sound (f : FuncId) : ∀ (c : Code) (_ : drawsOk C f c = true) (Q : Post) (sl : List VV) (B : List Blk), wpC C f c Q sl B →
    W (fun k => vcode C k f c sl B) fun r => Q r.1 r.2.1 r.2.2 := by
  intro c
  induction c with
  | skip => exact fun _ Q sl B h => W.succ (W.ret (a := ((.normal, sl, B) : Ex × List VV × List Blk)) (Q := fun r => Q r.1 r.2.1 r.2.2) (by simpa only [wpC] using h) fun _ => by simp only [vcode])
  | ret => exact fun _ Q sl B h => W.succ (W.ret (a := ((.ret, sl, B) : Ex × List VV × List Blk)) (Q := fun r => Q r.1 r.2.1 r.2.2) (by simpa only [wpC] using h) fun _ => by simp only [vcode])
  | exit i => exact fun _ Q sl B h => W.succ (W.ret (a := ((.exit i, sl, B) : Ex × List VV × List Blk)) (Q := fun r => Q r.1 r.2.1 r.2.2) (by simpa only [wpC] using h) fun _ => by simp only [vcode])
  | seq a b iha ihb =>
    intro hd Q sl B h
    simp only [drawsOk, Bool.and_eq_true] at hd
    refine W.succ ?_
    simp only [vcode]
    refine W.then (fun (r : Ex × List VV × List Blk) k => match r with
      | (.normal, sl', B') => match joinS C f b sl' B' with
        | some (sl1, B1) => vcode C k f b sl1 B1
        | none => none
      | r => some r) (W.mono (iha hd.1 _ sl B h) ?_) ?_
    · rintro ⟨e, sl', B'⟩ hq
      cases e with
      | normal =>
        cases hj : joinS C f b sl' B' with
        | none => simp only [hj] at hq
        | some p =>
          obtain ⟨sl1, B1⟩ := p
          simp only [hj] at hq ⊢
          exact ihb hd.2 Q sl1 B1 hq
      | exit i => exact W.ret hq fun _ => rfl
      | ret => exact W.ret hq fun _ => rfl
    · rintro k ⟨e, sl', B'⟩ hk
      rw [hk]
      cases e <;> rfl
  | cond x a b iha ihb =>
    intro hd Q sl B h
    simp only [drawsOk, Bool.and_eq_true] at hd
    refine W.succ ?_
    simp only [vcode]
    unfold wpC at h
    split at h
    · rename_i t ht
      rw [ht]
      simp only
      cases t with
      | true => exact iha hd.1 Q sl B (by simpa using h)
      | false => exact ihb hd.2 Q sl B (by simpa using h)
    · exact h.elim
  | block i b ih =>
    intro hd Q sl B h
    simp only [drawsOk] at hd
    refine W.succ ?_
    simp only [vcode]
    refine W.then (fun (r : Ex × List VV × List Blk) _ => match r with
      | (.exit j, sl', B') => if j = i then some (.normal, sl', B') else some (.exit j, sl', B')
      | r => some r) (W.mono (ih hd _ sl B h) ?_) ?_
    · rintro ⟨e, sl', B'⟩ hq
      cases e with
      | exit j =>
        simp only at hq ⊢
        by_cases hj : j = i
        · rw [if_pos hj] at hq; simp only [hj, if_true]; exact W.ret hq fun _ => rfl
        · rw [if_neg hj] at hq; simp only [hj, if_false]; exact W.ret hq fun _ => rfl
      | normal => exact W.ret hq fun _ => rfl
      | ret => exact W.ret hq fun _ => rfl
    · rintro k ⟨e, sl', B'⟩ hk
      rw [hk]
      cases e <;> rfl
  | region id ops draw =>
    intro hd Q sl B h
    refine W.succ ?_
    simp only [vcode]
    have : (draw && !drawOk C f id ops) = false := by
      cases draw with
      | false => rfl
      | true => simpa [drawsOk] using hd
    simp only [this, Bool.false_eq_true, if_false]
    refine W.then (fun (r : Ex × List VV × List Blk) _ => if dynAll (C.dyn f id) r.2.1 then some r else none) (W.mono (wpO_sound f ops (dynQ (C.dyn f id) Q) _ _ _ (by simpa only [wpC] using h)) ?_) ?_
    · rintro ⟨e, sl', B'⟩ ⟨h1, h2⟩
      exact W.ret (a := ((e, sl', B') : Ex × List VV × List Blk)) h2 fun _ => by simp only [h1, if_true]
    · rintro k ⟨e, sl', B'⟩ hk
      rw [hk]
  | loop b ih =>
    intro _ Q sl B h
    refine W.succ ?_
    simp only [vcode]
    unfold wpC at h
    split at h
    · exact h.elim
    · rename_i ks hks
      rw [hks]
      simp only
      split at h
      · rename_i sl1 B1 hn
        rw [hn]
        exact h
      · exact h.elim
  | _ => exact fun _ Q sl B h => h.elim

/-- a loop: an invariant, and a measure -/
theorem wpLoop_of {α : Type} {f : FuncId} {b : Code} {ks : List (Nat × Bool)} {n : Nat} {Q : Post} (I : α → List VV → List Blk → Prop) (μ : α → Nat)
    (hd : drawsOk C f b = true) (round : ∀ a sl B, I a sl B → wpC C f b (fun e sl' B' => match e with
      | .normal => ∃ sl1 B1, norm ks n sl' B' = some (sl1, B1) ∧ ∃ a', I a' sl1 B1 ∧ μ a' < μ a
      | e => Q e sl' B') sl B) :
    ∀ (a : α) (sl : List VV) (B : List Blk), I a sl B → wpLoop C f b ks n Q sl B := by
  intro a
  induction hm : μ a using Nat.strongRecOn generalizing a with
  | _ m ih =>
    intro sl B hI
    subst hm
    unfold wpLoop
    refine W.succ ?_
    simp only [vloop]
    refine W.then (fun (r : Ex × List VV × List Blk) k => match r with
      | (.normal, sl', B') => match norm ks n sl' B' with
        | some (sl1, B1) => vloop C k f b ks n sl1 B1
        | none => none
      | r => some r) (W.mono (wpC_sound f b hd _ sl B (round a sl B hI)) ?_) ?_
    · rintro ⟨e, sl', B'⟩ hq
      cases e with
      | normal =>
        obtain ⟨sl1, B1, hn, a', hI', hlt⟩ := hq
        simp only [hn]
        exact ih (μ a') hlt a' rfl sl1 B1 hI'
      | exit i => exact W.ret hq fun _ => rfl
      | ret => exact W.ret hq fun _ => rfl
    · rintro k ⟨e, sl', B'⟩ hk
      rw [hk]
      cases e <;> rfl

/-- a function's end -/
def fin (C : Cfg) (g : FuncId) (rs : Array ResultVar) (n : Nat) (R : VV → List Blk → Prop) : Post := fun e sl B =>
  (∀ i, e ≠ .exit i) ∧ match resL C sl B rs.toList with
    | none => False
    | some vs => if C.raw g = true then R (tuple1 vs) B else
      match freezeR (C.resm g == .own) B vs with
      | none => False
      | some (vs', B') => okRs n vs' = true ∧ R (tuple1 vs') (B'.take n)

theorem Vc_of {g : FuncId} {fn : Func} {c : Code} {rs : Array ResultVar} {n : Nat} {args : List VV} {B : List Blk} {R : VV → List Blk → Prop} (he : C.ext g = none)
    (hf : C.P.funcs[g]? = some fn) (hb : fn.body = some c) (hn : fn.ntmps = n) (hr : fn.results = rs) (hd : drawsOk C g c = true)
    (h : wpC C g c (fin C g rs B.length R) (args ++ List.replicate (n - args.length) (.tup [])) B) : Vc C g args B R := by
  subst hn hr
  unfold Vc
  refine W.succ ?_
  simp only [vcall, he, hf, hb]
  refine W.then (fun (r : Ex × List VV × List Blk) _ => match r with
    | (.exit _, _, _) => none
    | (_, sl, B') => match resL C sl B' fn.results.toList with
      | none => none
      | some vs => if C.raw g then some (tuple1 vs, B') else
        match freezeR (C.resm g == .own) B' vs with
        | none => none
        | some (vs', B'') => if okRs B.length vs' then some (tuple1 vs', B''.take B.length) else none) (W.mono (wpC_sound g c hd _ _ _ h) ?_) ?_
  · rintro ⟨e, sl, B'⟩ ⟨hx, hq⟩
    have key : W (fun _ => (match resL C sl B' fn.results.toList with
      | none => none
      | some vs => if C.raw g then some (tuple1 vs, B') else
        match freezeR (C.resm g == .own) B' vs with
        | none => none
        | some (vs', B'') => if okRs B.length vs' then some (tuple1 vs', B''.take B.length) else none : Option (VV × List Blk))) fun r => R r.1 r.2 := by
      split at hq
      · exact hq.elim
      · rename_i vs hvs
        simp only at hvs ⊢
        rw [hvs]
        simp only
        by_cases hr : C.raw g = true
        · rw [if_pos hr] at hq
          simp only [hr, if_true]
          exact W.ret (a := (tuple1 vs, B')) hq fun _ => rfl
        · rw [if_neg hr] at hq
          simp only [hr, if_false]
          split at hq
          · exact hq.elim
          · rename_i vs' B'' hz
            simp only at hz ⊢
            rw [hz]
            simp only [hq.1, if_true]
            exact W.ret (a := (tuple1 vs', B''.take B.length)) hq.2 fun _ => rfl
    cases e with
    | normal => exact key
    | ret => exact key
    | exit i => exact absurd rfl (hx i)
  · rintro k ⟨e, sl, B'⟩ hk
    rw [hk]
    cases e <;> rfl

end
end Go.Wv
