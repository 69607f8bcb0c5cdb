/-
  A part of the proof: our library of the interpreter.
-/
import Derived.Attr
import Derived.Test.YtilmjbljkkbakaaGreatDoorV1
set_option linter.unusedSimpArgs false
set_option linter.unusedVariables false
set_option linter.unusedSectionVars false
set_option linter.unnecessarySimpa false
set_option linter.deprecated false
namespace Go.Wv
/-! The interpreter's rules, as rules of a simp set of our own. -/
section
variable (C : Cfg)
@[go_sem] theorem toView_lit (v : Value) : toView (.lit v) = .lit v := rfl
@[go_sem] theorem toView_agg (cs : List VV) : toView (.agg cs) = .agg (cs.map viewC) := rfl
@[go_sem] theorem toView_sl (f : Fl) (xs : List VV) : toView (.sl f xs) = .sl .view xs := by cases f <;> rfl
@[go_sem] theorem toView_ptr (i o : Nat) : toView (.ptr i o) = .ptr i o := rfl
@[go_sem] theorem toView_elp (cs : List VV) (o : Nat) : toView (.elp cs o) = .elp cs o := rfl
@[go_sem] theorem toView_mref (i : Nat) (g : Bool) (s o n : Nat) : toView (.mref i g s o n) = .mref i g s o n := rfl
@[go_sem] theorem toView_clo (f : Fn) (a b : List VV) : toView (.clo f a b) = .clo f a b := rfl
@[go_sem] theorem toView_tup (vs : List VV) : toView (.tup vs) = .tup (vs.map viewV) := rfl
@[go_sem] theorem viewC_lit (v : Value) : viewC (.lit v) = .lit v := rfl
@[go_sem] theorem viewC_sl (f : Fl) (xs : List VV) : viewC (.sl f xs) = .sl .view xs := by cases f <;> rfl
@[go_sem] theorem viewC_ptr (i o : Nat) : viewC (.ptr i o) = .ptr i o := rfl
@[go_sem] theorem viewC_clo (f : Fn) (a b : List VV) : viewC (.clo f a b) = .clo f a b := rfl
@[go_sem] theorem viewV_lit (v : Value) : viewV (.lit v) = .lit v := rfl
@[go_sem] theorem viewV_agg (cs : List VV) : viewV (.agg cs) = .agg (cs.map viewC) := rfl
@[go_sem] theorem viewV_sl (f : Fl) (xs : List VV) : viewV (.sl f xs) = .sl .view xs := by cases f <;> rfl
@[go_sem] theorem viewV_ptr (i o : Nat) : viewV (.ptr i o) = .ptr i o := rfl
@[go_sem] theorem viewV_elp (cs : List VV) (o : Nat) : viewV (.elp cs o) = .elp cs o := rfl
@[go_sem] theorem viewV_mref (i : Nat) (g : Bool) (s o n : Nat) : viewV (.mref i g s o n) = .mref i g s o n := rfl
@[go_sem] theorem viewV_clo (f : Fn) (a b : List VV) : viewV (.clo f a b) = .clo f a b := rfl
@[go_sem] theorem ownV_lit (v : Value) : ownV (.lit v) = false := rfl
@[go_sem] theorem ownV_agg (cs : List VV) : ownV (.agg cs) = cs.any ownC := rfl
@[go_sem] theorem ownV_view (xs : List VV) : ownV (.sl .view xs) = false := rfl
@[go_sem] theorem ownV_nil : ownV (.sl .own []) = false := rfl
@[go_sem] theorem ownV_ptr (i o : Nat) : ownV (.ptr i o) = false := rfl
@[go_sem] theorem toView_gone : toView .gone = .gone := rfl
@[go_sem] theorem isOwn_gone : isOwn .gone = false := rfl
@[go_sem] theorem isOwn_lit (v : Value) : isOwn (.lit v) = false := rfl
@[go_sem] theorem isOwn_agg (cs : List VV) : isOwn (.agg cs) = cs.any ownC := rfl
@[go_sem] theorem isOwn_view (xs : List VV) : isOwn (.sl .view xs) = false := rfl
@[go_sem] theorem isOwn_nil : isOwn (.sl .own []) = false := rfl
@[go_sem] theorem isOwn_ptr (i o : Nat) : isOwn (.ptr i o) = false := rfl
@[go_sem] theorem isOwn_elp (cs : List VV) (o : Nat) : isOwn (.elp cs o) = false := rfl
@[go_sem] theorem isOwn_mref (i : Nat) (g : Bool) (s o n : Nat) : isOwn (.mref i g s o n) = false := rfl
@[go_sem] theorem isOwn_clo (f : Fn) (a b : List VV) : isOwn (.clo f a b) = false := rfl
@[go_sem] theorem isOwn_tup (vs : List VV) : isOwn (.tup vs) = vs.any ownV := rfl
@[go_sem] theorem ownC_lit (v : Value) : ownC (.lit v) = false := rfl
@[go_sem] theorem ownC_view (xs : List VV) : ownC (.sl .view xs) = false := rfl
@[go_sem] theorem ownC_nil : ownC (.sl .own []) = false := rfl
@[go_sem] theorem ownC_ptr (i o : Nat) : ownC (.ptr i o) = false := rfl
@[go_sem] theorem ownC_mref (i : Nat) (g : Bool) (s o n : Nat) : ownC (.mref i g s o n) = false := rfl
@[go_sem] theorem cells_lit (v : Value) : (VV.lit v).cells = [.lit v] := rfl
@[go_sem] theorem cells_agg (cs : List VV) : (VV.agg cs).cells = cs := rfl
@[go_sem] theorem cells_sl (f : Fl) (xs : List VV) : (VV.sl f xs).cells = [.sl f xs] := rfl
@[go_sem] theorem cells_ptr (i o : Nat) : (VV.ptr i o).cells = [.ptr i o] := rfl
@[go_sem] theorem cells_mref (i : Nat) (g : Bool) (s o n : Nat) : (VV.mref i g s o n).cells = [.mref i g s o n] := rfl
@[go_sem] theorem ev_tmp (sl : List VV) (t : Tmp) : ev C sl (.tmp t) = getS sl t := rfl
@[go_sem] theorem ev_func (sl : List VV) (f : FuncId) : ev C sl (.func f) = .lit (.func (.func f) #[] #[]) := rfl
@[go_sem] theorem ev_const (sl : List VV) (v : Value) : ev C sl (.const v) = ofV v := rfl
@[go_sem] theorem ofV_int (k : IntKind) (n : Int) : ofV (.int k n) = .lit (.int k n) := rfl
@[go_sem] theorem ofV_bool (b : Bool) : ofV (.bool b) = .lit (.bool b) := rfl
@[go_sem] theorem ofV_string (s : ByteArray) : ofV (.string s) = .lit (.string s) := rfl
@[go_sem] theorem ofV_nil : ofV (.slice none 0 0) = .sl .own [] := rfl
@[go_sem] theorem ofV_nilptr : ofV (.pointer none) = .lit (.pointer none) := rfl
@[go_sem] theorem ofV_nilf : ofV .nilFunc = .lit .nilFunc := rfl
theorem tr_tmp (sl : List VV) (t : Tmp) : tr C sl (.tmp t) = if isOwn (getS sl t) = true then (getS sl t, sl.set t (toView (getS sl t))) else (getS sl t, sl) := rfl
@[go_sem] theorem tr_const (sl : List VV) (v : Value) : tr C sl (.const v) = (ofV v, sl) := rfl
@[go_sem] theorem tr_func (sl : List VV) (f : FuncId) : tr C sl (.func f) = (.lit (.func (.func f) #[] #[]), sl) := rfl
@[go_sem] theorem asIx_int (k : IntKind) (i : Int) : asIx (.lit (.int k i)) = if 0 ≤ i then some i.toNat else none := rfl
@[go_sem] theorem Blk_var (cs : List VV) : (Blk.var cs).cells = cs := rfl
@[go_sem] theorem Blk_ro (cs : List VV) : (Blk.ro cs).cells = cs := rfl
@[go_sem] theorem callee_func (sl : List VV) (g : FuncId) (args : Array Operand) (ts : Array TypeId) : callee C sl { callee := .value (.func g), args := args, argTypes := ts } = some (g, args.toList, []) := rfl
@[go_sem] theorem freeze_lit (B : List Blk) (v : Value) : freeze B (.lit v) = some (.lit v, B) := rfl
@[go_sem] theorem freeze_sl (B : List Blk) (f : Fl) (xs : List VV) : freeze B (.sl f xs) = some (.sl .view xs, B) := by cases f <;> rfl
@[go_sem] theorem freeze_agg (B : List Blk) (cs : List VV) : freeze B (.agg cs) = match freezeL B cs with
    | some (cs', B') => some (.agg cs', B')
    | none => none := rfl
@[go_sem] theorem freeze_ptr (B : List Blk) (i o : Nat) : freeze B (.ptr i o) = some (.ptr i o, B) := rfl
@[go_sem] theorem freeze_clo (B : List Blk) (f : Fn) (x y : List VV) : freeze B (.clo f x y) = some (.clo f x y, B) := rfl
@[go_sem] theorem freezeC_lit (B : List Blk) (v : Value) : freezeC B (.lit v) = some (.lit v, B) := rfl
@[go_sem] theorem freezeC_sl (B : List Blk) (f : Fl) (xs : List VV) : freezeC B (.sl f xs) = some (.sl .view xs, B) := by cases f <;> rfl
@[go_sem] theorem freezeC_ptr (B : List Blk) (i o : Nat) : freezeC B (.ptr i o) = some (.ptr i o, B) := rfl
theorem headOk_map {α : Type} (f : α → VV) (n : Nat) (h : ∀ a, (f a).cells.length = n) : ∀ l : List α, headOk n (l.map f) = true
  | [] => rfl
  | a :: l => by simp only [List.map_cons, headOk, h a, beq_self_eq_true]
end
attribute [go_sem] isVal0 firstRegion cellOk gate isCall vop getS putS vbin vun vlen readAt splice okP okC okV okR okRs isVal resL freezeR freezeL tuple1 fillS setAt callee vargs pargs trL eqC eqCs vminL vmin2 asIx_int norm mask keepS ownZ List.contains_cons List.contains_nil List.mapIdx_cons List.mapIdx_nil
attribute [go_sem] Option.map_some Option.getD_some Option.map_none Option.getD_none Option.bind_some List.getD_cons_zero List.getD_cons_succ List.set_cons_zero List.set_cons_succ Bool.false_eq_true if_false if_true reduceCtorEq List.length_cons List.length_nil List.getElem?_cons_zero List.getElem?_cons_succ
  Array.toList_map List.map_cons List.map_nil List.drop_succ_cons List.drop_zero List.take_succ_cons List.take_zero List.nil_append List.cons_append List.append_nil List.replicate_succ List.replicate_zero List.length_map List.getElem?_map List.any_cons List.any_nil Bool.or_self List.getElem?_toArray List.size_toArray
  List.all_cons List.all_nil Bool.and_self Bool.and_true Bool.true_and List.zip_cons_cons List.zip_nil_left and_self and_true true_and List.headD_cons List.isEmpty_nil decide_true decide_false not_false_eq_true implies_true ne_eq List.length_append List.length_set Bool.or_false Bool.false_or
  List.foldl_cons List.foldl_nil beq_self_eq_true Bool.not_true Bool.not_false
@[go_sem] theorem isEmpty0 : (#[] : Array Value).isEmpty = true := rfl
attribute [go_sem] List.take_length List.append_assoc
@[go_sem] theorem beq_ft : (false == true) = false := rfl
@[go_sem] theorem beq_tf : (true == false) = false := rfl
@[go_sem] theorem app_get0 (L M : List Blk) : (L ++ M)[L.length]? = M[0]? := by
  rw [List.getElem?_append_right (Nat.le_refl _), Nat.sub_self]
@[go_sem] theorem app_get (L M : List Blk) (k : Nat) : (L ++ M)[L.length + k]? = M[k]? := by
  rw [List.getElem?_append_right (by omega)]; congr 1; omega
@[go_sem] theorem app_set0 (L M : List Blk) (b : Blk) : (L ++ M).set L.length b = L ++ M.set 0 b := by
  rw [List.set_append_right _ _ (Nat.le_refl _), Nat.sub_self]
@[go_sem] theorem app_set (L M : List Blk) (k : Nat) (b : Blk) : (L ++ M).set (L.length + k) b = L ++ M.set k b := by
  rw [List.set_append_right _ _ (by omega)]; congr 2; omega
@[go_sem] theorem app_take (L M : List Blk) : (L ++ M).take L.length = L := by simp
end Go.Wv
