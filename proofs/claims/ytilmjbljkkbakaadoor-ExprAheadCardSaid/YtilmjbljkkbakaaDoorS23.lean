/-
  A part of the proof: our library of the interpreter.
-/
import Derived.Test.YtilmjbljkkbakaaDoorS22
set_option linter.unusedSimpArgs false
set_option linter.unusedVariables false
set_option linter.unusedSectionVars false
set_option linter.unnecessarySimpa false
set_option linter.deprecated false
namespace Go.Wv

/-! Operations that only read see no rights to append. -/

theorem viewC_idem (v : VV) : viewC (viewC v) = viewC v := by
  cases v <;> first | rfl | skip
  rename_i f xs; cases f <;> rfl
theorem map_viewC_idem (cs : List VV) : (cs.map viewC).map viewC = cs.map viewC := by
  rw [List.map_map]; exact List.map_congr_left fun v _ => viewC_idem v
theorem viewV_idem (v : VV) : viewV (viewV v) = viewV v := by
  cases v <;> first | rfl | skip
  · exact congrArg VV.agg (map_viewC_idem _)
  · rename_i f xs; cases f <;> rfl
theorem map_viewV_idem (vs : List VV) : (vs.map viewV).map viewV = vs.map viewV := by
  rw [List.map_map]; exact List.map_congr_left fun v _ => viewV_idem v
theorem toView_idem (v : VV) : toView (toView v) = toView v := by
  cases v <;> first | rfl | skip
  · exact congrArg VV.agg (map_viewC_idem _)
  · exact congrArg VV.tup (map_viewV_idem _)
  · rename_i f xs; cases f <;> rfl

/-- alike, but for rights to append -/
def Alike (a b : VV) : Prop := toView a = toView b
theorem Alike.refl (a : VV) : Alike a a := rfl
theorem Alike.symm {a b : VV} (h : Alike a b) : Alike b a := Eq.symm h
theorem alike_view (a : VV) : Alike (toView a) a := toView_idem a

theorem eqC_view (k : CK) (a b : VV) : eqC k (viewC a) (viewC b) = eqC k a b := by
  have hsl : ∀ f xs, viewC (.sl f xs) = .sl .view xs := fun f xs => by cases f <;> rfl
  cases a <;> try (cases k <;> first | rfl | (rw [hsl]; rfl))
  rename_i v
  cases b <;> try (cases k <;> cases v <;> first | rfl | (rw [hsl]; rfl))
theorem eqCs_view : ∀ (ks : List CK) (as bs : List VV), eqCs ks (as.map viewC) (bs.map viewC) = eqCs ks as bs
  | [], [], [] => rfl
  | [], [], _ :: _ => rfl
  | [], _ :: _, _ => rfl
  | _ :: _, [], _ => rfl
  | _ :: _, _ :: _, [] => rfl
  | k :: ks, a :: as, b :: bs => by simp only [List.map_cons, eqCs, eqC_view, eqCs_view ks as bs]

theorem vbin_view (P : Program) (t : TypeId) (op : BinOp) (x y : VV) : vbin P t op (toView x) (toView y) = vbin P t op x y := by
  have hsl : ∀ f xs, toView (.sl f xs) = .sl .view xs := fun f xs => by cases f <;> rfl
  cases x <;> cases y <;> first | rfl | skip
  all_goals first
    | (simp only [hsl]; rfl)
    | (simp only [hsl]; rename_i a _ _; cases a <;> rfl)
    | (simp only [hsl]; rename_i _ _ a; cases a <;> rfl)
    | (rename_i a b; show vbin P t op (.agg (a.map viewC)) (.agg (b.map viewC)) = _; simp only [vbin, eqCs_view]; done)
    | (rename_i a b; show vbin P t op (.lit a) (.agg (b.map viewC)) = _; cases a <;> rfl)
    | (rename_i a b; show vbin P t op (.agg (a.map viewC)) (.lit b) = _; cases b <;> rfl)
    | (rename_i a b; show vbin P t op (.lit a) (.tup (b.map viewV)) = _; cases a <;> rfl)
    | skip
theorem vun_view (op : UnOp) (x : VV) : vun op (toView x) = vun op x := by
  cases x <;> first | rfl | (rename_i f xs; cases f <;> rfl)
theorem vconv_view (P : Program) (s d : TypeId) (x : VV) : vconv P s d (toView x) = vconv P s d x := by
  cases x <;> first | rfl | (rename_i f xs; cases f <;> rfl)
theorem vlen_view (P : Program) (t : TypeId) (x : VV) : vlen P t (toView x) = vlen P t x := by
  cases x <;> first | rfl | (rename_i f xs; cases f <;> rfl)
theorem asIx_view (x : VV) : asIx (toView x) = asIx x := by
  cases x <;> first | rfl | (rename_i f xs; cases f <;> rfl)
theorem vslice_view (P : Program) (t : TypeId) (x : VV) (lo hi : Option VV) : vslice P t (toView x) (lo.map toView) (hi.map toView) = vslice P t x lo hi := by
  have hb : ∀ (n : Nat) (v : Option VV), bound n (v.map toView) = bound n v := fun n v => by
    cases v with
    | none => rfl
    | some v => simp only [Option.map_some, bound, asIx_view]
  have hl : ∀ (n : Nat), bound n (some ((lo.map toView).getD (.lit (.int .i64 0)))) = bound n (some (lo.getD (.lit (.int .i64 0)))) := fun n => by
    cases lo with
    | none => rfl
    | some v => exact hb n (some v)
  have hx : vslice P t (toView x) (lo.map toView) (hi.map toView) = vslice P t (toView x) lo hi := by
    cases x <;> first
      | rfl
      | (rename_i f xs; cases f <;> simp only [toView, viewV, viewC, vslice, hb, hl]; done)
      | (simp only [toView, viewV, viewC, vslice, hb, hl]; done)
      | (rename_i v; cases v <;> simp only [toView, viewV, viewC, vslice, hb, hl]; done)
      | skip
  rw [hx]
  cases x <;> first | rfl | (rename_i f xs; cases f <;> rfl)
theorem vindexAddr_view (P : Program) (t : TypeId) (x i : VV) : vindexAddr P t (toView x) (toView i) = vindexAddr P t x i := by
  unfold vindexAddr
  rw [asIx_view]
  cases x <;> first | rfl | (rename_i f xs; cases f <;> rfl)
theorem vmin2_view (mx : Bool) (x y : VV) : vmin2 mx (toView x) (toView y) = vmin2 mx x y := by
  have hsl : ∀ f xs, toView (.sl f xs) = .sl .view xs := fun f xs => by cases f <;> rfl
  cases x <;> first | rfl | (simp only [hsl]; rfl) | skip
  rename_i v
  cases y <;> first | rfl | (simp only [hsl]; cases v <;> rfl) | (cases v <;> rfl)
theorem vminL_view (mx : Bool) : ∀ (l : List VV) (x : VV), l ≠ [] → vminL mx (toView x) (l.map toView) = vminL mx x l
  | [], _, h => absurd rfl h
  | [y], x, _ => by simp only [List.map_cons, List.map_nil, vminL, vmin2_view]
  | y :: z :: l, x, _ => by
    simp only [List.map_cons, vminL, vmin2_view]
    have hlit : ∀ {r : VV}, vmin2 mx x y = some r → toView r = r := fun {r} h => by
      unfold vmin2 at h
      split at h
      · obtain rfl := Option.some.inj h; rfl
      · cases h
    cases h0 : vmin2 mx x y with
    | none => rfl
    | some r =>
      simp only
      have := vminL_view mx (z :: l) r (by simp)
      simp only [List.map_cons, vminL] at this
      have hr : toView r = r := hlit h0
      rw [hr] at this
      exact this
theorem viewV_viewC (v : VV) : viewV (viewC v) = viewV v := by
  cases v <;> first | rfl | (rename_i f xs; cases f <;> rfl)
theorem readAt_view (P : Program) (t : TypeId) (cs : List VV) (off : Nat) : (readAt P t (cs.map viewC) off).map viewV = (readAt P t cs off).map viewV := by
  unfold readAt
  split
  · simp only [List.length_map]
    split
    · simp only [Option.map_some, viewV, List.map_drop, List.map_take, map_viewC_idem]
    · rfl
  · simp only [List.getElem?_map]
    cases cs[off]? with
    | none => rfl
    | some v =>
      simp only [Option.map_some, viewV_viewC]
  · rfl
theorem vindex_view (P : Program) (t : TypeId) (x i : VV) : (vindex P t (toView x) (toView i)).map viewV = (vindex P t x i).map viewV := by
  unfold vindex
  rw [asIx_view]
  cases asIx i with
  | none => rfl
  | some i =>
    cases x <;> first | rfl | (rename_i f xs; cases f <;> rfl) | skip
    simp only [toView, viewV]
    split
    · split
      · exact readAt_view P _ _ _
      · rfl
    · rfl
end Go.Wv
