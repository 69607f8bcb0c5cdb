/-
  A part of the proof: our library of the interpreter.
-/
import Derived.Test.YtilmjbljkkbakaaDoorV1
import Derived.Laws.AppendOwn
import Derived.Laws.AppendOwnNone
import Derived.Deep.MidRow
set_option linter.unusedSimpArgs false
set_option linter.unusedVariables false
set_option linter.unusedSectionVars false
set_option linter.unnecessarySimpa false
set_option linter.deprecated false
namespace Go.Wv

/-! What a value without addresses stands for in a world. -/

inductive All2 {α β : Type} (R : α → β → Prop) : List α → List β → Prop
  | nil : All2 R [] []
  | cons {a b as bs} : R a b → All2 R as bs → All2 R (a :: as) (b :: bs)

section
variable {α β : Type} {R R' : α → β → Prop} {as : List α} {bs : List β}

theorem All2.length (h : All2 R as bs) : as.length = bs.length := by induction h <;> simp_all
theorem All2.mono (h : All2 R as bs) (hr : ∀ a b, a ∈ as → R a b → R' a b) : All2 R' as bs := by
  induction h with
  | nil => exact .nil
  | cons h _ ih => exact .cons (hr _ _ (by simp) h) (ih fun a b ha => hr a b (by simp [ha]))
theorem All2.get (h : All2 R as bs) : ∀ {i : Nat} {a : α}, as[i]? = some a → ∃ b, bs[i]? = some b ∧ R a b := by
  induction h with
  | nil => intro i a h; simp at h
  | cons h _ ih =>
    intro i a hi
    cases i with
    | zero => simp at hi; subst hi; exact ⟨_, by simp, h⟩
    | succ i => simpa using ih (by simpa using hi)
theorem All2.set (h : All2 R as bs) {a : α} {b : β} (hr : R a b) : ∀ (i : Nat), All2 R (as.set i a) (bs.set i b) := by
  induction h with
  | nil => intro i; simp; exact .nil
  | cons h h' ih =>
    intro i
    cases i with
    | zero => simpa using .cons hr h'
    | succ i => simpa using .cons h (ih i)
theorem All2.append {cs : List α} {ds : List β} (h : All2 R as bs) (h' : All2 R cs ds) : All2 R (as ++ cs) (bs ++ ds) := by
  induction h with
  | nil => simpa
  | cons h _ ih => exact .cons h ih
theorem All2.take (h : All2 R as bs) : ∀ n, All2 R (as.take n) (bs.take n) := by
  induction h with
  | nil => intro n; simp; exact .nil
  | cons h _ ih => intro n; cases n with
    | zero => exact .nil
    | succ n => exact .cons h (ih n)
theorem All2.drop (h : All2 R as bs) : ∀ n, All2 R (as.drop n) (bs.drop n) := by
  induction h with
  | nil => intro n; simp; exact .nil
  | cons h h' ih => intro n; cases n with
    | zero => exact .cons h h'
    | succ n => exact ih n
theorem All2.replicate {a : α} {b : β} (h : R a b) : ∀ n, All2 R (List.replicate n a) (List.replicate n b)
  | 0 => .nil
  | n + 1 => .cons h (All2.replicate h n)
theorem All2.of_get (hl : as.length = bs.length) (h : ∀ (i : Nat) (a : α) (b : β), as[i]? = some a → bs[i]? = some b → R a b) : All2 R as bs := by
  induction as generalizing bs with
  | nil => cases bs with
    | nil => exact .nil
    | cons => simp at hl
  | cons a as ih => cases bs with
    | nil => simp at hl
    | cons b bs => exact .cons (h 0 a b rfl rfl) (ih (by simpa using hl) fun i a' b' ha hb => h (i + 1) a' b' (by simpa using ha) (by simpa using hb))
end

/-- a block whose first cells stay as they are; 'own': whoever owns it may append behind them: capacity, cells an element -/
structure Com where
  cs : List VV
  own : Option (Nat × Nat)

/-- what lies where: what is told of blocks; where the interpreter's blocks lie -/
structure G where
  comm : Nat → Option Com
  phi : Nat → Nat

def flatC (xs : List VV) : List VV := xs.flatMap VV.cells

def RepSl (g : G) (f : Fl) (xs : List VV) (w : Value) : Prop :=
  match xs with
  | [] => match f with
    | .own => w = .slice none 0 0
    | .view => ∃ a c, w = .slice a 0 c
  | xs => ∃ B off c com sz, w = .slice (some ⟨B, off, none⟩) xs.length c ∧ xs.length ≤ c ∧ g.comm B = some com ∧ 0 < sz ∧ (∀ x ∈ xs, x.cells.length = sz) ∧
      off + xs.length * sz ≤ com.cs.length ∧ (com.cs.drop off).take (xs.length * sz) = flatC xs ∧
      (f = .own → off = 0 ∧ com.cs = flatC xs ∧ com.own = some (c, sz))

def RepP (g : G) : VV → Value → Prop
  | .lit v, w => w = v ∧ v.oneCell' = true
  | .ptr id off, w => w = .pointer (some ⟨g.phi id, off, none⟩)
  | _, _ => False

def RepC (g : G) : VV → Value → Prop
  | .lit v, w => w = v ∧ v.oneCell' = true
  | .sl f xs, w => RepSl g f xs w
  | .mref id _ sz off n, w => ∃ c, w = .slice (some ⟨g.phi id, off * sz, none⟩) n c ∧ n ≤ c
  | .ptr id off, w => w = .pointer (some ⟨g.phi id, off, none⟩)
  | .elp cells off, w => ∃ B base com, g.comm B = some com ∧ w = .pointer (some ⟨B, base + off, none⟩) ∧ (com.cs.drop base).take cells.length = cells
  | .clo fn first caps, w => ∃ a b, w = .func fn a b ∧ All2 (RepP g) first a.toList ∧ All2 (RepP g) caps b.toList
  | _, _ => False

def RepV (g : G) : VV → Value → Prop
  | .agg cs, w => ∃ a, w = .agg a ∧ All2 (RepC g) cs a.toList
  | v, w => RepC g v w

def Rep (g : G) : VV → Value → Prop
  | .gone, _ => True
  | .tup vs, w => ∃ a, w = .tuple a ∧ All2 (RepV g) vs a.toList
  | v, w => RepV g v w

/-! How many rights to append to a block a value holds. -/
def cntC (b : Nat) : VV → Value → Nat
  | .sl .own (_ :: _), .slice (some a) _ _ => if a.block = b then 1 else 0
  | _, _ => 0
def cntL (b : Nat) : List VV → List Value → Nat
  | v :: vs, w :: ws => cntC b v w + cntL b vs ws
  | _, _ => 0
def cntV (b : Nat) : VV → Value → Nat
  | .agg cs, .agg a => cntL b cs a.toList
  | v, w => cntC b v w
def cntVL (b : Nat) : List VV → List Value → Nat
  | v :: vs, w :: ws => cntV b v w + cntVL b vs ws
  | _, _ => 0
def cnt (b : Nat) : VV → Value → Nat
  | .tup vs, .tuple a => cntVL b vs a.toList
  | v, w => cntV b v w
def cntS (b : Nat) : List VV → List Value → Nat
  | v :: vs, w :: ws => cnt b v w + cntS b vs ws
  | _, _ => 0
def cellsAt (w : World) (b : Nat) : List Value :=
  match w.heap[b]? with
  | some (.cells arr _ _) => arr.toList
  | _ => []
def cntB (b : Nat) (g : G) (w : World) : Nat → List Blk → Nat
  | _, [] => 0
  | k, .var cs :: r => cntL b cs (cellsAt w (g.phi k)) + cntB b g w (k + 1) r
  | k, .ro _ :: r => cntB b g w (k + 1) r

theorem cntC_zero {b : Nat} {v : VV} {w : Value} (h : ownC v = false) : cntC b v w = 0 := by
  unfold cntC
  split
  · simp [ownC] at h
  · rfl
theorem cntL_zero {b : Nat} {vs : List VV} {ws : List Value} (h : vs.any ownC = false) : cntL b vs ws = 0 := by
  induction vs generalizing ws with
  | nil => cases ws <;> rfl
  | cons v vs ih =>
    simp only [List.any_cons, Bool.or_eq_false_iff] at h
    cases ws with
    | nil => rfl
    | cons w ws => simp only [cntL, cntC_zero h.1, ih h.2]
theorem cntV_zero {b : Nat} {v : VV} {w : Value} (h : ownV v = false) : cntV b v w = 0 := by
  unfold cntV
  split
  · exact cntL_zero (by simpa [ownV] using h)
  · rename_i hne
    by_cases hv : ∃ cs, v = .agg cs
    · obtain ⟨cs, rfl⟩ := hv
      unfold cntC; split <;> simp_all
    · exact cntC_zero (by cases v <;> first | exact h | exact absurd ⟨_, rfl⟩ hv)

theorem ownC_viewC (v : VV) : ownC (viewC v) = false := by
  cases v <;> first | rfl | skip
  rename_i f xs
  cases f <;> rfl
theorem any_viewC (cs : List VV) : (cs.map viewC).any ownC = false := by
  induction cs with
  | nil => rfl
  | cons c cs ih => simp only [List.map_cons, List.any_cons, ownC_viewC, ih, Bool.or_self]
theorem ownV_viewV (v : VV) : ownV (viewV v) = false := by
  cases v <;> first | rfl | skip
  · exact any_viewC _
  · rename_i f xs
    cases f <;> rfl
theorem isOwn_toView (v : VV) : isOwn (toView v) = false := by
  cases v <;> first | rfl | exact ownV_viewV (.agg _) | skip
  · rename_i vs
    simp only [toView, isOwn, List.any_map]
    exact List.any_eq_false.2 fun x _ => by simp [ownV_viewV]
  · rename_i f xs
    cases f <;> rfl

theorem RepSl_view {g : G} {f : Fl} {xs : List VV} {w : Value} (h : RepSl g f xs w) : RepSl g .view xs w := by
  cases xs with
  | nil => cases f with
    | view => exact h
    | own => exact ⟨none, 0, h⟩
  | cons x xs =>
    obtain ⟨B, off, c, com, sz, h1, h2, h3, h4, h5, h6, h7, _⟩ := h
    exact ⟨B, off, c, com, sz, h1, h2, h3, h4, h5, h6, h7, fun h => by cases h⟩
theorem RepC_viewC {g : G} {v : VV} {w : Value} (h : RepC g v w) : RepC g (viewC v) w := by
  cases v <;> first | exact h | skip
  rename_i f xs
  cases f with
  | view => exact h
  | own => exact RepSl_view (f := .own) h
theorem All2_viewC {g : G} {cs : List VV} {ws : List Value} (h : All2 (RepC g) cs ws) : All2 (RepC g) (cs.map viewC) ws := by
  induction h with
  | nil => exact .nil
  | cons h _ ih => exact .cons (RepC_viewC h) ih
theorem RepV_viewV {g : G} {v : VV} {w : Value} (h : RepV g v w) : RepV g (viewV v) w := by
  cases v <;> first | exact h | exact h.elim | skip
  · obtain ⟨a, rfl, h⟩ := h
    exact ⟨a, rfl, All2_viewC h⟩
  · rename_i f xs
    cases f with
    | view => exact h
    | own => exact RepSl_view (f := .own) h
theorem All2_viewV {g : G} {cs : List VV} {ws : List Value} (h : All2 (RepV g) cs ws) : All2 (RepV g) (cs.map viewV) ws := by
  induction h with
  | nil => exact .nil
  | cons h _ ih => exact .cons (RepV_viewV h) ih
theorem Rep_toView {g : G} {v : VV} {w : Value} (h : Rep g v w) : Rep g (toView v) w := by
  cases v <;> first | exact h | trivial | skip
  · exact RepV_viewV (v := .agg _) h
  · obtain ⟨a, rfl, h⟩ := h
    exact ⟨a, rfl, All2_viewV h⟩
  · rename_i f xs
    cases f with
    | view => exact h
    | own => exact RepSl_view (f := .own) h

end Go.Wv
