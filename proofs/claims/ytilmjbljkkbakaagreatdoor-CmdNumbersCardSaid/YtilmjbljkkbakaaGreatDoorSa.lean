/-
  A part of the proof: our library of the interpreter.
-/
import Derived.Test.YtilmjbljkkbakaaGreatDoorV1
import Derived.Laws.AppendOwn
import Derived.Laws.AppendOwnNone
import Derived.Deep.MidRow
import Derived.Laws.Entries
import Derived.Laws.Slices
import Derived.Laws.StructEq
import Derived.Laws.Tables
set_option linter.unusedSimpArgs false
set_option linter.unusedVariables false
set_option linter.unusedSectionVars false
set_option linter.unnecessarySimpa false
set_option linter.deprecated false
namespace Go.Wv

/-! What a value without addresses stands for in a world. -/

inductive All2 {α β : Type} (R : α → β → Prop) : List α → List β → Prop
  | nil : All2 R [] []
  | cons {a b as bs} : R a b → All2 R as bs → All2 R (a :: as) (b :: bs)

section
variable {α β : Type} {R R' : α → β → Prop} {as : List α} {bs : List β}

theorem All2.length (h : All2 R as bs) : as.length = bs.length := by induction h <;> simp_all
theorem All2.mono (h : All2 R as bs) (hr : ∀ a b, a ∈ as → R a b → R' a b) : All2 R' as bs := by
  induction h with
  | nil => exact .nil
  | cons h _ ih => exact .cons (hr _ _ (by simp) h) (ih fun a b ha => hr a b (by simp [ha]))
theorem All2.get (h : All2 R as bs) : ∀ {i : Nat} {a : α}, as[i]? = some a → ∃ b, bs[i]? = some b ∧ R a b := by
  induction h with
  | nil => intro i a h; simp at h
  | cons h _ ih =>
    intro i a hi
    cases i with
    | zero => simp at hi; subst hi; exact ⟨_, by simp, h⟩
    | succ i => simpa using ih (by simpa using hi)
theorem All2.set (h : All2 R as bs) {a : α} {b : β} (hr : R a b) : ∀ (i : Nat), All2 R (as.set i a) (bs.set i b) := by
  induction h with
  | nil => intro i; simp; exact .nil
  | cons h h' ih =>
    intro i
    cases i with
    | zero => simpa using .cons hr h'
    | succ i => simpa using .cons h (ih i)
theorem All2.append {cs : List α} {ds : List β} (h : All2 R as bs) (h' : All2 R cs ds) : All2 R (as ++ cs) (bs ++ ds) := by
  induction h with
  | nil => simpa
  | cons h _ ih => exact .cons h ih
theorem All2.take (h : All2 R as bs) : ∀ n, All2 R (as.take n) (bs.take n) := by
  induction h with
  | nil => intro n; simp; exact .nil
  | cons h _ ih => intro n; cases n with
    | zero => exact .nil
    | succ n => exact .cons h (ih n)
theorem All2.drop (h : All2 R as bs) : ∀ n, All2 R (as.drop n) (bs.drop n) := by
  induction h with
  | nil => intro n; simp; exact .nil
  | cons h h' ih => intro n; cases n with
    | zero => exact .cons h h'
    | succ n => exact ih n
theorem All2.replicate {a : α} {b : β} (h : R a b) : ∀ n, All2 R (List.replicate n a) (List.replicate n b)
  | 0 => .nil
  | n + 1 => .cons h (All2.replicate h n)
theorem All2.of_get (hl : as.length = bs.length) (h : ∀ (i : Nat) (a : α) (b : β), as[i]? = some a → bs[i]? = some b → R a b) : All2 R as bs := by
  induction as generalizing bs with
  | nil => cases bs with
    | nil => exact .nil
    | cons => simp at hl
  | cons a as ih => cases bs with
    | nil => simp at hl
    | cons b bs => exact .cons (h 0 a b rfl rfl) (ih (by simpa using hl) fun i a' b' ha hb => h (i + 1) a' b' (by simpa using ha) (by simpa using hb))
end

/-- a block whose first cells stay as they are; 'own': whoever owns it may append behind them: capacity, cells an element -/
structure Com where
  cs : List VV
  own : Option (Nat × Nat)

/-- what lies where: what is told of blocks; where the interpreter's blocks lie -/
structure G where
  comm : Nat → Option Com
  phi : Nat → Nat

def flatC (xs : List VV) : List VV := xs.flatMap VV.cells

def RepSl (g : G) (f : Fl) (xs : List VV) (w : Value) : Prop :=
  match xs with
  | [] => match f with
    | .own => w = .slice none 0 0
    | .view => ∃ a c, w = .slice a 0 c
  | xs => ∃ B off c com sz, w = .slice (some ⟨B, off, none⟩) xs.length c ∧ xs.length ≤ c ∧ g.comm B = some com ∧ 0 < sz ∧ (∀ x ∈ xs, x.cells.length = sz) ∧
      off + xs.length * sz ≤ com.cs.length ∧ (com.cs.drop off).take (xs.length * sz) = flatC xs ∧
      (f = .own → off = 0 ∧ com.cs = flatC xs ∧ com.own = some (c, sz)) ∧ ∀ c ∈ flatC xs, c ≠ .gone

def RepP (g : G) : VV → Value → Prop
  | .lit v, w => w = v ∧ v.oneCell' = true
  | .ptr id off, w => w = .pointer (some ⟨g.phi id, off, none⟩)
  | _, _ => False

def RepC (g : G) : VV → Value → Prop
  | .lit v, w => w = v ∧ v.oneCell' = true
  | .sl f xs, w => RepSl g f xs w
  | .mref id _ sz off n, w => ∃ c, w = .slice (some ⟨g.phi id, off * sz, none⟩) n c ∧ n ≤ c
  | .ptr id off, w => w = .pointer (some ⟨g.phi id, off, none⟩)
  | .elp cells off, w => ∃ B base com, g.comm B = some com ∧ w = .pointer (some ⟨B, base + off, none⟩) ∧ (com.cs.drop base).take cells.length = cells ∧ ∀ c ∈ cells, c ≠ .gone
  | .clo fn first caps, w => ∃ a b, w = .func fn a b ∧ All2 (RepP g) first a.toList ∧ All2 (RepP g) caps b.toList
  | _, _ => False

def RepV (g : G) : VV → Value → Prop
  | .agg cs, w => ∃ a, w = .agg a ∧ All2 (RepC g) cs a.toList
  | v, w => RepC g v w

def Rep (g : G) : VV → Value → Prop
  | .gone, _ => True
  | .tup vs, w => ∃ a, w = .tuple a ∧ All2 (RepV g) vs a.toList
  | v, w => RepV g v w

/-! How many rights to append to a block a value holds. -/
def cntC (b : Nat) : VV → Value → Nat
  | .sl .own (_ :: _), .slice (some a) _ _ => if a.block = b then 1 else 0
  | _, _ => 0
def cntL (b : Nat) : List VV → List Value → Nat
  | v :: vs, w :: ws => cntC b v w + cntL b vs ws
  | _, _ => 0
def cntV (b : Nat) : VV → Value → Nat
  | .agg cs, .agg a => cntL b cs a.toList
  | v, w => cntC b v w
def cntVL (b : Nat) : List VV → List Value → Nat
  | v :: vs, w :: ws => cntV b v w + cntVL b vs ws
  | _, _ => 0
def cnt (b : Nat) : VV → Value → Nat
  | .tup vs, .tuple a => cntVL b vs a.toList
  | v, w => cntV b v w
def cntS (b : Nat) : List VV → List Value → Nat
  | v :: vs, w :: ws => cnt b v w + cntS b vs ws
  | _, _ => 0
def cellsAt (w : World) (b : Nat) : List Value :=
  match w.heap[b]? with
  | some (.cells arr _ _) => arr.toList
  | _ => []
def cntB (b : Nat) (g : G) (w : World) : Nat → List Blk → Nat
  | _, [] => 0
  | k, .var cs :: r => cntL b cs (cellsAt w (g.phi k)) + cntB b g w (k + 1) r
  | k, .ro _ :: r => cntB b g w (k + 1) r

theorem cntC_zero {b : Nat} {v : VV} {w : Value} (h : ownC v = false) : cntC b v w = 0 := by
  unfold cntC
  split
  · simp [ownC] at h
  · rfl
theorem cntL_zero {b : Nat} {vs : List VV} {ws : List Value} (h : vs.any ownC = false) : cntL b vs ws = 0 := by
  induction vs generalizing ws with
  | nil => cases ws <;> rfl
  | cons v vs ih =>
    simp only [List.any_cons, Bool.or_eq_false_iff] at h
    cases ws with
    | nil => rfl
    | cons w ws => simp only [cntL, cntC_zero h.1, ih h.2]
theorem cntV_zero {b : Nat} {v : VV} {w : Value} (h : ownV v = false) : cntV b v w = 0 := by
  unfold cntV
  split
  · exact cntL_zero (by simpa [ownV] using h)
  · rename_i hne
    by_cases hv : ∃ cs, v = .agg cs
    · obtain ⟨cs, rfl⟩ := hv
      unfold cntC; split <;> simp_all
    · exact cntC_zero (by cases v <;> first | exact h | exact absurd ⟨_, rfl⟩ hv)

theorem ownC_viewC (v : VV) : ownC (viewC v) = false := by
  cases v <;> first | rfl | skip
  rename_i f xs
  cases f <;> rfl
theorem any_viewC (cs : List VV) : (cs.map viewC).any ownC = false := by
  induction cs with
  | nil => rfl
  | cons c cs ih => simp only [List.map_cons, List.any_cons, ownC_viewC, ih, Bool.or_self]
theorem ownV_viewV (v : VV) : ownV (viewV v) = false := by
  cases v <;> first | rfl | skip
  · exact any_viewC _
  · rename_i f xs
    cases f <;> rfl
theorem isOwn_toView (v : VV) : isOwn (toView v) = false := by
  cases v <;> first | rfl | exact ownV_viewV (.agg _) | skip
  · rename_i vs
    simp only [toView, isOwn, List.any_map]
    exact List.any_eq_false.2 fun x _ => by simp [ownV_viewV]
  · rename_i f xs
    cases f <;> rfl

theorem RepSl_view {g : G} {f : Fl} {xs : List VV} {w : Value} (h : RepSl g f xs w) : RepSl g .view xs w := by
  cases xs with
  | nil => cases f with
    | view => exact h
    | own => exact ⟨none, 0, h⟩
  | cons x xs =>
    obtain ⟨B, off, c, com, sz, h1, h2, h3, h4, h5, h6, h7, _, h8⟩ := h
    exact ⟨B, off, c, com, sz, h1, h2, h3, h4, h5, h6, h7, (fun h => by cases h), h8⟩
theorem RepC_viewC {g : G} {v : VV} {w : Value} (h : RepC g v w) : RepC g (viewC v) w := by
  cases v <;> first | exact h | skip
  rename_i f xs
  cases f with
  | view => exact h
  | own => exact RepSl_view (f := .own) h
theorem All2_viewC {g : G} {cs : List VV} {ws : List Value} (h : All2 (RepC g) cs ws) : All2 (RepC g) (cs.map viewC) ws := by
  induction h with
  | nil => exact .nil
  | cons h _ ih => exact .cons (RepC_viewC h) ih
theorem RepV_viewV {g : G} {v : VV} {w : Value} (h : RepV g v w) : RepV g (viewV v) w := by
  cases v <;> first | exact h | exact h.elim | skip
  · obtain ⟨a, rfl, h⟩ := h
    exact ⟨a, rfl, All2_viewC h⟩
  · rename_i f xs
    cases f with
    | view => exact h
    | own => exact RepSl_view (f := .own) h
theorem All2_viewV {g : G} {cs : List VV} {ws : List Value} (h : All2 (RepV g) cs ws) : All2 (RepV g) (cs.map viewV) ws := by
  induction h with
  | nil => exact .nil
  | cons h _ ih => exact .cons (RepV_viewV h) ih
theorem Rep_toView {g : G} {v : VV} {w : Value} (h : Rep g v w) : Rep g (toView v) w := by
  cases v <;> first | exact h | trivial | skip
  · exact RepV_viewV (v := .agg _) h
  · obtain ⟨a, rfl, h⟩ := h
    exact ⟨a, rfl, All2_viewV h⟩
  · rename_i f xs
    cases f with
    | view => exact h
    | own => exact RepSl_view (f := .own) h


/-! What is told of a block may leave cells out: '.gone'. What a value holds leaves none out. -/
theorem RepC_ng {g : G} {c : VV} {u : Value} (h : RepC g c u) : c ≠ .gone := by rintro rfl; exact h
theorem All2_ng {g : G} {cs : List VV} {us : List Value} (h : All2 (RepC g) cs us) : ∀ c ∈ cs, c ≠ .gone := by
  induction h with
  | nil => intro c hc; cases hc
  | cons h _ ih =>
    intro c hc
    rcases List.mem_cons.1 hc with rfl | hc
    · exact RepC_ng h
    · exact ih c hc
theorem RepV_ng {g : G} {v : VV} {u : Value} (h : RepV g v u) : ∀ c ∈ v.cells, c ≠ .gone := by
  by_cases hv : ∃ cs, v = .agg cs
  · obtain ⟨cs, rfl⟩ := hv
    obtain ⟨a, rfl, h⟩ := h
    exact All2_ng h
  · have h1 : v.cells = [v] := by cases v <;> first | rfl | exact absurd ⟨_, rfl⟩ hv
    have h2 : RepC g v u := by cases v <;> first | exact h | exact absurd ⟨_, rfl⟩ hv
    rw [h1]
    intro c hc
    rw [List.mem_singleton.1 hc]
    exact RepC_ng h2
theorem flat_ng {g : G} {xs : List VV} (h : ∀ x ∈ xs, ∃ u, RepV g x u) : ∀ c ∈ flatC xs, c ≠ .gone := by
  intro c hc
  obtain ⟨x, hx, hc⟩ := List.mem_flatMap.1 hc
  obtain ⟨u, hu⟩ := h x hx
  exact RepV_ng hu c hc
theorem ng_sub {xs ys : List VV} (h : ∀ c ∈ flatC ys, c ≠ .gone) (hs : ∀ x ∈ xs, x ∈ ys) : ∀ c ∈ flatC xs, c ≠ .gone := by
  intro c hc
  obtain ⟨x, hx, hc⟩ := List.mem_flatMap.1 hc
  exact h c (List.mem_flatMap.2 ⟨x, hs x hx, hc⟩)
end Go.Wv
namespace Go.Wv

/-! What stays true when the world goes on. -/

structure Sto (g : G) (B : List Blk) (w : World) : Prop where
  comm : ∀ b com, g.comm b = some com → ∃ arr T fz, w.heap[b]? = some (.cells arr T fz) ∧ com.cs.length ≤ arr.size ∧
    (∀ (j : Nat) c, com.cs[j]? = some c → c ≠ .gone → ∃ u, arr[j]? = some u ∧ RepC g c u ∧ ownC c = false ∧ okC 0 c = true) ∧
    (∀ cap sz, com.own = some (cap, sz) → fz = (0, 0) ∧ arr.size = cap * sz ∧ cap ≤ maxLen)
  var : ∀ (id : Nat) cs, B[id]? = some (.var cs) → (∃ arr T, w.heap[g.phi id]? = some (.cells arr T (0, 0)) ∧ All2 (RepC g) cs arr.toList) ∧
    g.comm (g.phi id) = none ∧ cs.all (okC (id + 1)) = true
  ro : ∀ (id : Nat) cs, B[id]? = some (.ro cs) → ∃ com, g.comm (g.phi id) = some com ∧ cs <+: com.cs ∧ ∀ c ∈ cs, c ≠ .gone
  inj : ∀ (i j : Nat) ci cj, B[i]? = some (.var ci) → B[j]? = some (.var cj) → g.phi i = g.phi j → i = j

structure Inv (Pr : Nat → Prop) (g : G) (sl : List VV) (B : List Blk) (tm : List Value) (w : World) : Prop where
  rep : All2 (Rep g) sl tm
  ok : okRs B.length sl = true
  sto : Sto g B w
  uniq : ∀ b, cntS b sl tm + cntB b g w 0 B ≤ 1
  prot : ∀ b, Pr b → b < w.heap.size ∧ cntS b sl tm + cntB b g w 0 B = 0 ∧ ∀ (id : Nat) cs, B[id]? = some (.var cs) → g.phi id ≠ b

structure Ext (Pr : Nat → Prop) (n : Nat) (g : G) (w : World) (g' : G) (w' : World) : Prop where
  comm : ∀ b com, g.comm b = some com → ∃ com', g'.comm b = some com' ∧ com.cs <+: com'.cs
  prot : ∀ b, Pr b → g'.comm b = g.comm b ∧ w'.heap[b]? = w.heap[b]?
  size : w.heap.size ≤ w'.heap.size
  phi : ∀ i, i < n → g'.phi i = g.phi i
  out : w'.os = w.os ∧ w'.output = w.output

theorem Ext.refl (Pr : Nat → Prop) (n : Nat) (g : G) (w : World) : Ext Pr n g w g w :=
  ⟨fun _ com h => ⟨com, h, List.prefix_refl _⟩, fun _ _ => ⟨rfl, rfl⟩, Nat.le_refl _, fun _ _ => rfl, rfl, rfl⟩
theorem Ext.trans {Pr : Nat → Prop} {n n' : Nat} {g g1 g2 : G} {w w1 w2 : World} (h : Ext Pr n g w g1 w1) (h' : Ext Pr n' g1 w1 g2 w2) (hn : n ≤ n') : Ext Pr n g w g2 w2 :=
  ⟨fun b com hc => let ⟨c1, e1, p1⟩ := h.comm b com hc; let ⟨c2, e2, p2⟩ := h'.comm b c1 e1; ⟨c2, e2, p1.trans p2⟩,
   fun b hb => ⟨(h'.prot b hb).1.trans (h.prot b hb).1, (h'.prot b hb).2.trans (h.prot b hb).2⟩, Nat.le_trans h.size h'.size,
   fun i hi => (h'.phi i (Nat.lt_of_lt_of_le hi hn)).trans (h.phi i hi), h'.out.1.trans h.out.1, h'.out.2.trans h.out.2⟩

theorem window_prefix {l l' : List VV} (h : l <+: l') {off k : Nat} (hk : off + k ≤ l.length) : (l'.drop off).take k = (l.drop off).take k := by
  obtain ⟨t, rfl⟩ := h
  rw [List.drop_append_of_le_length (by omega), List.take_append_of_le_length (by simp; omega)]

theorem RepP_phi {n : Nat} {g g' : G} (hphi : ∀ i, i < n → g'.phi i = g.phi i) {v : VV} {u : Value} (hok : okP n v = true) (h : RepP g v u) : RepP g' v u := by
  cases v <;> first | exact h | skip
  rename_i id off
  have : id < n := by simpa [okP] using hok
  simp only [RepP, hphi id this] at h ⊢
  exact h

theorem All2_RepP {n : Nat} {g g' : G} (hphi : ∀ i, i < n → g'.phi i = g.phi i) {vs : List VV} {us : List Value} (hok : vs.all (okP n) = true) (h : All2 (RepP g) vs us) : All2 (RepP g') vs us :=
  h.mono fun _ _ ha hr => RepP_phi hphi (List.all_eq_true.1 hok _ ha) hr

/-- A cell's value is told by a later world, too, if nobody else has appended to what it owns. -/
theorem RepC_ext {n : Nat} {g g' : G} (hcomm : ∀ b com, g.comm b = some com → ∃ com', g'.comm b = some com' ∧ com.cs <+: com'.cs)
    (hphi : ∀ i, i < n → g'.phi i = g.phi i) {v : VV} {u : Value} (hown : ∀ b, 0 < cntC b v u → g'.comm b = g.comm b) (hok : okC n v = true) (h : RepC g v u) : RepC g' v u := by
  cases v <;> first | exact h | skip
  · rename_i f xs
    simp only [RepC] at h ⊢
    cases xs with
    | nil => exact h
    | cons x xs =>
      obtain ⟨B, off, c, com, sz, rfl, h2, h3, h4, h5, h6, h7, h8⟩ := h
      cases f with
      | view =>
        obtain ⟨com', h3', hp⟩ := hcomm B com h3
        exact ⟨B, off, c, com', sz, rfl, h2, h3', h4, h5, Nat.le_trans h6 hp.length_le, by rw [window_prefix hp h6]; exact h7, (fun h => by cases h), h8.2⟩
      | own =>
        have := hown B (by simp [cntC])
        exact ⟨B, off, c, com, sz, rfl, h2, by rw [this]; exact h3, h4, h5, h6, h7, h8⟩
  · rename_i id ag sz off n'
    have : id < n := by simpa [okC] using hok
    simp only [RepC, hphi id this] at h ⊢
    exact h
  · rename_i id off
    have : id < n := by simpa [okC] using hok
    simp only [RepC, hphi id this] at h ⊢
    exact h
  · rename_i cells off
    obtain ⟨B, base, com, h1, rfl, h3, h4⟩ := h
    obtain ⟨com', h1', hp⟩ := hcomm B com h1
    refine ⟨B, base, com', h1', rfl, ?_, h4⟩
    by_cases hk : cells.length = 0
    · rw [hk]; rw [List.length_eq_zero_iff.1 hk]; rfl
    · have hl := congrArg List.length h3
      simp only [List.length_take, List.length_drop] at hl
      rw [window_prefix hp (by omega)]
      exact h3
  · rename_i fn first caps
    obtain ⟨a, b, rfl, h1, h2⟩ := h
    simp only [okC, Bool.and_eq_true] at hok
    exact ⟨a, b, rfl, All2_RepP hphi hok.1 h1, All2_RepP hphi hok.2 h2⟩

theorem All2_RepC_ext {n : Nat} {g g' : G} (hcomm : ∀ b com, g.comm b = some com → ∃ com', g'.comm b = some com' ∧ com.cs <+: com'.cs)
    (hphi : ∀ i, i < n → g'.phi i = g.phi i) {vs : List VV} {us : List Value} (hown : ∀ b, 0 < cntL b vs us → g'.comm b = g.comm b) (hok : vs.all (okC n) = true) (h : All2 (RepC g) vs us) :
    All2 (RepC g') vs us := by
  induction h with
  | nil => exact .nil
  | cons h _ ih =>
    simp only [List.all_cons, Bool.and_eq_true] at hok
    exact .cons (RepC_ext hcomm hphi (fun b hb => hown b (by simp only [cntL]; omega)) hok.1 h) (ih (fun b hb => hown b (by simp only [cntL]; omega)) hok.2)

theorem RepV_ext {n : Nat} {g g' : G} (hcomm : ∀ b com, g.comm b = some com → ∃ com', g'.comm b = some com' ∧ com.cs <+: com'.cs)
    (hphi : ∀ i, i < n → g'.phi i = g.phi i) {v : VV} {u : Value} (hown : ∀ b, 0 < cntV b v u → g'.comm b = g.comm b) (hok : okV n v = true) (h : RepV g v u) : RepV g' v u := by
  by_cases hv : ∃ cs, v = .agg cs
  · obtain ⟨cs, rfl⟩ := hv
    obtain ⟨a, rfl, h⟩ := h
    exact ⟨a, rfl, All2_RepC_ext hcomm hphi (fun b hb => hown b (by simpa [cntV] using hb)) (by simpa [okV] using hok) h⟩
  · have h1 : ∀ g : G, RepV g v u = RepC g v u := fun g => by cases v <;> first | rfl | exact absurd ⟨_, rfl⟩ hv
    rw [h1] at h ⊢
    refine RepC_ext hcomm hphi (fun b hb => hown b ?_) ?_ h
    · cases v <;> first | exact hb | exact absurd ⟨_, rfl⟩ hv
    · cases v <;> first | exact hok | exact absurd ⟨_, rfl⟩ hv

theorem All2_RepV_ext {n : Nat} {g g' : G} (hcomm : ∀ b com, g.comm b = some com → ∃ com', g'.comm b = some com' ∧ com.cs <+: com'.cs)
    (hphi : ∀ i, i < n → g'.phi i = g.phi i) {vs : List VV} {us : List Value} (hown : ∀ b, 0 < cntVL b vs us → g'.comm b = g.comm b) (hok : vs.all (okV n) = true) (h : All2 (RepV g) vs us) :
    All2 (RepV g') vs us := by
  induction h with
  | nil => exact .nil
  | cons h _ ih =>
    simp only [List.all_cons, Bool.and_eq_true] at hok
    exact .cons (RepV_ext hcomm hphi (fun b hb => hown b (by simp only [cntVL]; omega)) hok.1 h) (ih (fun b hb => hown b (by simp only [cntVL]; omega)) hok.2)

theorem Rep_ext {n : Nat} {g g' : G} (hcomm : ∀ b com, g.comm b = some com → ∃ com', g'.comm b = some com' ∧ com.cs <+: com'.cs)
    (hphi : ∀ i, i < n → g'.phi i = g.phi i) {v : VV} {u : Value} (hown : ∀ b, 0 < cnt b v u → g'.comm b = g.comm b) (hok : okR n v = true) (h : Rep g v u) : Rep g' v u := by
  by_cases hg : v = .gone
  · subst hg; trivial
  by_cases hv : ∃ cs, v = .tup cs
  · obtain ⟨cs, rfl⟩ := hv
    obtain ⟨a, rfl, h⟩ := h
    exact ⟨a, rfl, All2_RepV_ext hcomm hphi (fun b hb => hown b (by simpa [cnt] using hb)) (by simpa [okR] using hok) h⟩
  · have h1 : ∀ g : G, Rep g v u = RepV g v u := fun g => by cases v <;> first | rfl | exact absurd ⟨_, rfl⟩ hv | exact absurd rfl hg
    rw [h1] at h ⊢
    refine RepV_ext hcomm hphi (fun b hb => hown b ?_) ?_ h
    · cases v <;> first | exact hb | exact absurd ⟨_, rfl⟩ hv
    · cases v <;> first | exact hok | exact absurd ⟨_, rfl⟩ hv

theorem All2_Rep_ext {n : Nat} {g g' : G} (hcomm : ∀ b com, g.comm b = some com → ∃ com', g'.comm b = some com' ∧ com.cs <+: com'.cs)
    (hphi : ∀ i, i < n → g'.phi i = g.phi i) {vs : List VV} {us : List Value} (hown : ∀ b, 0 < cntS b vs us → g'.comm b = g.comm b) (hok : okRs n vs = true) (h : All2 (Rep g) vs us) :
    All2 (Rep g') vs us := by
  induction h with
  | nil => exact .nil
  | cons h _ ih =>
    simp only [okRs, List.all_cons, Bool.and_eq_true] at hok
    exact .cons (Rep_ext hcomm hphi (fun b hb => hown b (by simp only [cntS]; omega)) hok.1 h) (ih (fun b hb => hown b (by simp only [cntS]; omega)) hok.2)

/-! counts -/
theorem cnt_eq {b : Nat} {v : VV} {u : Value} (h : ¬ ∃ vs, v = .tup vs) : cnt b v u = cntV b v u := by
  unfold cnt
  split
  · exact absurd ⟨_, rfl⟩ h
  · rfl
theorem cntVL_zero {b : Nat} {vs : List VV} {us : List Value} (h : vs.any ownV = false) : cntVL b vs us = 0 := by
  induction vs generalizing us with
  | nil => cases us <;> rfl
  | cons v vs ih =>
    simp only [List.any_cons, Bool.or_eq_false_iff] at h
    cases us with
    | nil => rfl
    | cons u us => simp only [cntVL, cntV_zero h.1, ih h.2]
theorem cnt_zero {b : Nat} {v : VV} {u : Value} (h : isOwn v = false) : cnt b v u = 0 := by
  by_cases hv : ∃ vs, v = .tup vs
  · obtain ⟨vs, rfl⟩ := hv
    cases u <;> first | exact cntVL_zero (show vs.any ownV = false from h) | rfl
  · rw [cnt_eq hv]
    exact cntV_zero (by cases v <;> first | exact h | exact absurd ⟨_, rfl⟩ hv)
theorem cntS_append {b : Nat} {vs vs' : List VV} {us us' : List Value} (h : vs.length = us.length) : cntS b (vs ++ vs') (us ++ us') = cntS b vs us + cntS b vs' us' := by
  induction vs generalizing us with
  | nil => cases us with
    | nil => simp [cntS]
    | cons => simp at h
  | cons v vs ih => cases us with
    | nil => simp at h
    | cons u us => simp only [List.cons_append, cntS, ih (by simpa using h)]; omega
theorem cntS_set {b : Nat} {vs : List VV} {us : List Value} (h : vs.length = us.length) (v : VV) (u : Value) {i : Nat} (hi : i < vs.length) :
    ∃ v0 u0, vs[i]? = some v0 ∧ us[i]? = some u0 ∧ cntS b (vs.set i v) (us.set i u) + cnt b v0 u0 = cntS b vs us + cnt b v u := by
  induction vs generalizing us i with
  | nil => simp at hi
  | cons v1 vs ih => cases us with
    | nil => simp at h
    | cons u1 us =>
      cases i with
      | zero => exact ⟨v1, u1, rfl, rfl, by simp only [List.set_cons_zero, cntS]; omega⟩
      | succ i =>
        obtain ⟨v0, u0, e1, e2, e3⟩ := ih (us := us) (by simpa using h) (i := i) (by simpa using hi)
        exact ⟨v0, u0, by simpa using e1, by simpa using e2, by simp only [List.set_cons_succ, cntS]; omega⟩
theorem cntS_set_le {b : Nat} {vs : List VV} {us : List Value} (h : vs.length = us.length) (v : VV) (u : Value) (i : Nat) :
    cntS b (vs.set i v) (us.set i u) ≤ cntS b vs us + cnt b v u := by
  by_cases hi : i < vs.length
  · obtain ⟨_, _, _, _, e⟩ := cntS_set (b := b) h v u hi
    omega
  · rw [List.set_eq_of_length_le (by omega), List.set_eq_of_length_le (by omega)]
    omega
theorem cntS_get {b : Nat} {vs : List VV} {us : List Value} {i : Nat} {v : VV} {u : Value} (hv : vs[i]? = some v) (hu : us[i]? = some u) : cnt b v u ≤ cntS b vs us := by
  induction vs generalizing us i with
  | nil => simp at hv
  | cons v1 vs ih => cases us with
    | nil => simp at hu
    | cons u1 us =>
      cases i with
      | zero => simp at hv hu; subst hv hu; simp only [cntS]; omega
      | succ i => have := ih (by simpa using hv) (by simpa using hu); simp only [cntS]; omega

/-- The blocks' rights, where the world goes on without touching them. -/
theorem cntB_congr {b : Nat} {g g' : G} {w w' : World} : ∀ (B : List Blk) (k : Nat), (∀ (i : Nat) cs, B[i]? = some (.var cs) → cellsAt w' (g'.phi (k + i)) = cellsAt w (g.phi (k + i))) → cntB b g' w' k B = cntB b g w k B
  | [], _, _ => rfl
  | x :: r, k, h => by
    have e : cntB b g' w' (k + 1) r = cntB b g w (k + 1) r := cntB_congr r (k + 1) fun i cs hi => by
      have h1 := h (i + 1) cs (by simpa using hi)
      have e1 : k + (i + 1) = k + 1 + i := by omega
      rw [e1] at h1
      exact h1
    cases x with
    | var cs =>
      have h0 := h 0 cs rfl
      simp only [Nat.add_zero] at h0
      simp only [cntB, h0, e]
    | ro cs => simp only [cntB, e]
theorem cntB_append {b : Nat} {g : G} {w : World} : ∀ (B : List Blk) (k : Nat) (L : List Blk), cntB b g w k (B ++ L) = cntB b g w k B + cntB b g w (k + B.length) L
  | [], k, L => by simp [cntB]
  | .var cs :: r, k, L => by simp only [List.cons_append, cntB, cntB_append r (k + 1) L, List.length_cons]; rw [show k + 1 + r.length = k + (r.length + 1) by omega]; omega
  | .ro cs :: r, k, L => by simp only [List.cons_append, cntB, cntB_append r (k + 1) L, List.length_cons]; rw [show k + 1 + r.length = k + (r.length + 1) by omega]
theorem cntB_take {b : Nat} {g : G} {w : World} (B : List Blk) (k n : Nat) : cntB b g w k (B.take n) ≤ cntB b g w k B := by
  have h := cntB_append (b := b) (g := g) (w := w) (B.take n) k (B.drop n)
  rw [List.take_append_drop] at h
  omega

/-- what one block holds -/
def cntBlk (b : Nat) (g : G) (w : World) (k : Nat) : Blk → Nat
  | .var cs => cntL b cs (cellsAt w (g.phi k))
  | .ro _ => 0
theorem cntB_cons {b : Nat} {g : G} {w : World} (k : Nat) (x : Blk) (r : List Blk) : cntB b g w k (x :: r) = cntBlk b g w k x + cntB b g w (k + 1) r := by
  cases x <;> simp [cntB, cntBlk]
theorem cntB_set {b : Nat} {g : G} {w : World} : ∀ (B : List Blk) (k i : Nat) (x x0 : Blk), B[i]? = some x0 → cntB b g w k (B.set i x) + cntBlk b g w (k + i) x0 = cntB b g w k B + cntBlk b g w (k + i) x
  | [], k, i, x, x0, h => by simp at h
  | y :: r, k, 0, x, x0, h => by simp at h; subst h; simp only [List.set_cons_zero, cntB_cons, Nat.add_zero]; omega
  | y :: r, k, i + 1, x, x0, h => by
    have := cntB_set (b := b) (g := g) (w := w) r (k + 1) i x x0 (by simpa using h)
    rw [show k + 1 + i = k + (i + 1) by omega] at this
    simp only [List.set_cons_succ, cntB_cons]
    omega
theorem cntB_get {b : Nat} {g : G} {w : World} : ∀ (B : List Blk) (k i : Nat) (x : Blk), B[i]? = some x → cntBlk b g w (k + i) x ≤ cntB b g w k B
  | [], k, i, x, h => by simp at h
  | y :: r, k, 0, x, h => by simp at h; subst h; simp only [cntB_cons, Nat.add_zero]; omega
  | y :: r, k, i + 1, x, h => by
    have := cntB_get (b := b) (g := g) (w := w) r (k + 1) i x (by simpa using h)
    rw [show k + 1 + i = k + (i + 1) by omega] at this
    simp only [cntB_cons]
    omega

/-! ok -/
theorem okP_mono {n m : Nat} (hnm : n ≤ m) {v : VV} (h : okP n v = true) : okP m v = true := by
  cases v <;> first | rfl | skip
  simp [okP] at h ⊢; omega
theorem okC_mono {n m : Nat} (hnm : n ≤ m) {v : VV} (h : okC n v = true) : okC m v = true := by
  cases v <;> first | rfl | skip
  · simp [okC] at h ⊢; omega
  · simp [okC] at h ⊢; omega
  · simp only [okC, Bool.and_eq_true] at h ⊢
    exact ⟨List.all_eq_true.2 fun x hx => okP_mono hnm (List.all_eq_true.1 h.1 x hx), List.all_eq_true.2 fun x hx => okP_mono hnm (List.all_eq_true.1 h.2 x hx)⟩
theorem all_okC_mono {n m : Nat} (hnm : n ≤ m) {l : List VV} (h : l.all (okC n) = true) : l.all (okC m) = true :=
  List.all_eq_true.2 fun x hx => okC_mono hnm (List.all_eq_true.1 h x hx)
theorem okV_eq {n : Nat} {v : VV} (h : ¬ ∃ cs, v = .agg cs) : okV n v = okC n v := by cases v <;> first | rfl | exact absurd ⟨_, rfl⟩ h
theorem okR_eq {n : Nat} {v : VV} (h : ¬ ∃ cs, v = .tup cs) : okR n v = okV n v := by cases v <;> first | rfl | exact absurd ⟨_, rfl⟩ h
theorem okV_mono {n m : Nat} (hnm : n ≤ m) {v : VV} (h : okV n v = true) : okV m v = true := by
  by_cases hv : ∃ cs, v = .agg cs
  · obtain ⟨cs, rfl⟩ := hv; exact all_okC_mono (l := cs) hnm h
  · rw [okV_eq hv] at h ⊢; exact okC_mono hnm h
theorem okR_mono {n m : Nat} (hnm : n ≤ m) {v : VV} (h : okR n v = true) : okR m v = true := by
  by_cases hv : ∃ cs, v = .tup cs
  · obtain ⟨cs, rfl⟩ := hv; exact List.all_eq_true.2 fun x hx => okV_mono hnm (List.all_eq_true.1 (show cs.all (okV n) = true from h) x hx)
  · rw [okR_eq hv] at h ⊢; exact okV_mono hnm h
theorem okRs_mono {n m : Nat} (hnm : n ≤ m) {l : List VV} (h : okRs n l = true) : okRs m l = true :=
  List.all_eq_true.2 fun x hx => okR_mono hnm (List.all_eq_true.1 h x hx)
theorem okC_viewC {n : Nat} {v : VV} (h : okC n v = true) : okC n (viewC v) = true := by
  cases v <;> first | exact h | skip
  rename_i f xs
  cases f <;> rfl
theorem okV_viewV {n : Nat} {v : VV} (h : okV n v = true) : okV n (viewV v) = true := by
  cases v <;> first | exact h | skip
  · rename_i cs
    simp only [okV, viewV, List.all_map] at h ⊢
    exact List.all_eq_true.2 fun x hx => okC_viewC (List.all_eq_true.1 h x hx)
  · rename_i f xs
    cases f <;> rfl
theorem viewV_tup {v : VV} (h : ¬ ∃ cs, v = .tup cs) : ¬ ∃ cs, viewV v = .tup cs := by
  rintro ⟨cs, e⟩
  cases v <;> first | (cases e; done) | exact absurd ⟨_, rfl⟩ h | skip
  rename_i f xs
  cases f <;> cases e
theorem okR_toView {n : Nat} {v : VV} (h : okR n v = true) : okR n (toView v) = true := by
  by_cases hv : ∃ cs, v = .tup cs
  · obtain ⟨cs, rfl⟩ := hv
    simp only [okR, toView, List.all_map] at h ⊢
    exact List.all_eq_true.2 fun x hx => okV_viewV (List.all_eq_true.1 h x hx)
  · have e : toView v = viewV v := by cases v <;> first | rfl | exact absurd ⟨_, rfl⟩ hv
    rw [okR_eq hv] at h; rw [e, okR_eq (viewV_tup hv)]; exact okV_viewV h
theorem okRs_set {n : Nat} {l : List VV} (h : okRs n l = true) {v : VV} (hv : okR n v = true) (i : Nat) : okRs n (l.set i v) = true :=
  List.all_eq_true.2 fun x hx => by
    rcases List.mem_or_eq_of_mem_set hx with h1 | h1
    · exact List.all_eq_true.1 h x h1
    · subst h1; exact hv
theorem okRs_get {n : Nat} {l : List VV} (h : okRs n l = true) {v : VV} {i : Nat} (hv : l[i]? = some v) : okR n v = true :=
  List.all_eq_true.1 h v (List.mem_of_getElem? hv)

end Go.Wv
namespace Go.Wv

/-! Steps of the invariant. -/

def putL (tm : List Value) (d : Option Tmp) (u : Value) : List Value :=
  match d with
  | some i => tm.set i u
  | none => tm

theorem Inv.change {Pr : Nat → Prop} {g : G} {sl sl2 : List VV} {B : List Blk} {tm tm2 : List Value} {w : World} (h : Inv Pr g sl B tm w)
    (hr : All2 (Rep g) sl2 tm2) (ho : okRs B.length sl2 = true) (hc : ∀ b, cntS b sl2 tm2 ≤ cntS b sl tm) : Inv Pr g sl2 B tm2 w :=
  ⟨hr, ho, h.sto, fun b => by have := h.uniq b; have := hc b; omega, fun b hb => ⟨(h.prot b hb).1, by have := (h.prot b hb).2.1; have := hc b; omega, (h.prot b hb).2.2⟩⟩

theorem All2_put {g : G} {sl : List VV} {tm : List Value} (h : All2 (Rep g) sl tm) {v : VV} {u : Value} (hv : Rep g v u) (d : Option Tmp) : All2 (Rep g) (putS sl d v) (putL tm d u) := by
  cases d with
  | none => exact h
  | some i => exact h.set hv i
theorem okRs_put {n : Nat} {sl : List VV} (h : okRs n sl = true) {v : VV} (hv : okR n v = true) (d : Option Tmp) : okRs n (putS sl d v) = true := by
  cases d with
  | none => exact h
  | some i => exact okRs_set h hv i
theorem cntS_put {b : Nat} {sl : List VV} {tm : List Value} (h : sl.length = tm.length) (v : VV) (u : Value) (d : Option Tmp) : cntS b (putS sl d v) (putL tm d u) ≤ cntS b sl tm + cnt b v u := by
  cases d with
  | none => simp only [putS, putL]; omega
  | some i => exact cntS_set_le h v u i

/-- A value that holds no right is put into a slot. -/
theorem Inv.put {Pr : Nat → Prop} {g : G} {sl : List VV} {B : List Blk} {tm : List Value} {w : World} (h : Inv Pr g sl B tm w) {v : VV} {u : Value} (hv : Rep g v u)
    (ho : okR B.length v = true) (hc : ∀ b, cnt b v u = 0) (d : Option Tmp) : Inv Pr g (putS sl d v) B (putL tm d u) w :=
  h.change (All2_put h.rep hv d) (okRs_put h.ok ho d) fun b => by have := cntS_put (b := b) h.rep.length v u d; rw [hc b] at this; omega

/-! operands -/
theorem getS_rep {g : G} {sl : List VV} {tm : List Value} (h : All2 (Rep g) sl tm) (t : Nat) : Rep g (getS sl t) (tm.getD t undef) := by
  unfold getS
  cases hv : sl[t]? with
  | none => rw [List.getD_eq_getElem?_getD, hv]; trivial
  | some v =>
    obtain ⟨u, hu, hr⟩ := h.get hv
    rw [List.getD_eq_getElem?_getD, List.getD_eq_getElem?_getD, hv, hu]
    exact hr
theorem getS_ok {n : Nat} {sl : List VV} (h : okRs n sl = true) (t : Nat) : okR n (getS sl t) = true := by
  unfold getS
  cases hv : sl[t]? with
  | none => rw [List.getD_eq_getElem?_getD, hv]; rfl
  | some v => rw [List.getD_eq_getElem?_getD, hv]; exact okRs_get h hv

/-- what an operand holds -/
def evR (tm : List Value) : Operand → Value
  | .tmp t => tm.getD t undef
  | .const v => v
  | .global g => .pointer (some ⟨g, 0, none⟩)
  | .func f => .func (.func f) #[] #[]

theorem eval_evR (a : Act) (x : Operand) : a.eval x = evR a.tmps.toList x := by
  cases x <;> first | rfl | skip
  rename_i t
  simp only [Act.eval, evR, Array.getD_eq_getD_getElem?, List.getD_eq_getElem?_getD, Array.getElem?_toList]

theorem RepC_ofCell (g : G) (v : Value) : isVal0 (ofCell v) = true → RepC g (ofCell v) v := by
  intro h
  unfold ofCell at h ⊢
  split <;> first | exact ⟨rfl, rfl⟩ | rfl | skip
  simp [isVal0] at h
theorem RepV_ofV (g : G) (v : Value) : isVal0 (ofV v) = true → RepV g (ofV v) v := by
  intro h
  unfold ofV at h ⊢
  split
  · rename_i cs
    simp only at h
    split at h
    · rename_i hall
      rw [if_pos hall]
      refine ⟨cs, rfl, ?_⟩
      have : ∀ l : List Value, (l.map ofCell).all isVal0 = true → All2 (RepC g) (l.map ofCell) l := by
        intro l
        induction l with
        | nil => intro _; exact .nil
        | cons x l ih =>
          intro hl
          simp only [List.map_cons, List.all_cons, Bool.and_eq_true] at hl
          exact .cons (RepC_ofCell g x hl.1) (ih hl.2)
      exact this _ hall
    · simp [isVal0] at h
  · rename_i hne
    have hc := RepC_ofCell g v (by simpa using h)
    generalize ofCell v = x at hc
    cases x <;> first | exact hc | exact hc.elim
theorem ofC_ok (n : Nat) (v : Value) : okC n (ofCell v) = true := by
  unfold ofCell
  split <;> rfl
theorem ofV_ok (n : Nat) (v : Value) : okV n (ofV v) = true := by
  unfold ofV
  split
  · split
    · simp only [okV, List.all_map]
      exact List.all_eq_true.2 fun x _ => ofC_ok n x
    · rfl
  · generalize hx : ofCell v = x
    have := ofC_ok n v
    rw [hx] at this
    cases x <;> first | exact this | (unfold ofCell at hx; split at hx <;> cases hx)
theorem ofC_own (v : Value) : ownC (ofCell v) = false := by
  unfold ofCell
  split <;> rfl
theorem ofV_own (v : Value) : isOwn (ofV v) = false := by
  unfold ofV
  split
  · rename_i cs
    split
    · show (cs.toList.map ofCell).any ownC = false
      simp only [List.any_map]
      exact List.any_eq_false.2 fun x _ => by simp [ofC_own]
    · rfl
  · generalize hx : ofCell v = x
    have := ofC_own v
    rw [hx] at this
    cases x <;> first | exact this | (unfold ofCell at hx; split at hx <;> cases hx)
theorem ofV_tup (v : Value) : ¬ ∃ vs, ofV v = .tup vs := by
  rintro ⟨vs, h⟩
  unfold ofV at h
  split at h
  · split at h <;> cases h
  · unfold ofCell at h
    split at h <;> cases h
theorem Rep_of_RepV {g : G} {v : VV} {u : Value} (h : RepV g v u) : Rep g v u := by
  cases v <;> first | exact h | trivial | exact h.elim
theorem ofV_rep (g : G) (v : Value) : Rep g (ofV v) v := by
  by_cases h : isVal0 (ofV v) = true
  · exact Rep_of_RepV (RepV_ofV g v h)
  · have : ofV v = .gone := by
      generalize ofV v = x at h
      cases x <;> first | rfl | exact absurd rfl h
    rw [this]
    trivial

/-- what the interpreter knows of package-level variables -/
def GlobOk (C : Cfg) (g : G) : Prop := ∀ i cs, C.glob i = some cs → ∃ com, g.comm i = some com ∧ cs <+: com.cs ∧ ∀ c ∈ cs, c ≠ .gone

theorem ev_rep {C : Cfg} {g : G} (hg : GlobOk C g) {sl : List VV} {tm : List Value} (h : All2 (Rep g) sl tm) (x : Operand) : Rep g (ev C sl x) (evR tm x) := by
  cases x with
  | tmp t => exact getS_rep h t
  | const v => exact ofV_rep g v
  | func f => exact ⟨rfl, rfl⟩
  | global i =>
    cases hc : C.glob i with
    | none => simp only [ev, hc]; trivial
    | some cs =>
      simp only [ev, hc]
      obtain ⟨com, h1, h2, h3⟩ := hg i cs hc
      exact ⟨i, 0, com, h1, rfl, by rw [List.drop_zero]; exact (List.prefix_iff_eq_take.1 h2).symm, h3⟩
theorem ev_ok {C : Cfg} {n : Nat} {sl : List VV} (h : okRs n sl = true) (x : Operand) : okR n (ev C sl x) = true := by
  cases x with
  | tmp t => exact getS_ok h t
  | const v =>
    show okR n (ofV v) = true
    rw [okR_eq (ofV_tup v)]
    exact ofV_ok n v
  | func f => rfl
  | global i =>
    cases hc : C.glob i <;> simp only [ev, hc] <;> rfl
theorem toView_cnt {b : Nat} {v : VV} {u : Value} : cnt b (toView v) u = 0 := cnt_zero (isOwn_toView v)

end Go.Wv
namespace Go.Wv

/-! Each operation that hangs on its operands alone. -/

def OpOk (C : Cfg) (Pr : Nat → Prop) (o : Oper) (g : G) (n : Nat) (sl' : List VV) (v : VV) (B' : List Blk) (a : Act) (w : World) : Prop :=
  ∃ nx u w' g', (execOp a.eval o).run C.P w = .ok nx w' ∧ (nx = .value u ∨ (nx = .skip ∧ u = undef)) ∧ Ext Pr n g w g' w' ∧
    Inv Pr g' (putS sl' o.dst v) B' (putL a.tmps.toList o.dst u) w'

section
variable {C : Cfg} {Pr : Nat → Prop} {f : FuncId} {o : Oper} {g : G} {sl sl' : List VV} {B B' : List Blk} {a : Act} {w : World} {v : VV}

theorem OpOk.pure {u : Value} (hi : Inv Pr g sl B a.tmps.toList w) (hrun : (execOp a.eval o).run C.P w = .ok (.value u) w) (hr : Rep g v u) (ho : okR B.length v = true) (hc : isOwn v = false) :
    OpOk C Pr o g B.length sl v B a w :=
  ⟨_, u, w, g, hrun, .inl rfl, Ext.refl _ _ _ _, hi.put hr ho (fun _ => cnt_zero hc) o.dst⟩

theorem set_evR (tm : List Value) (t : Nat) : tm.set t (evR tm (.tmp t)) = tm := by
  apply List.ext_getElem?
  intro i
  rw [List.getElem?_set]
  split
  · rename_i hti
    subst hti
    split
    · rename_i ht
      simp only [evR, List.getD_eq_getElem?_getD, List.getElem?_eq_getElem ht, Option.getD_some]
    · rename_i ht
      rw [List.getElem?_eq_none (by omega)]
  · rfl

theorem tr_ok (hg : GlobOk C g) {tm : List Value} (hi : Inv Pr g sl B tm w) {x : Operand} (h : tr C sl x = (v, sl')) :
    Rep g v (evR tm x) ∧ okR B.length v = true ∧ All2 (Rep g) sl' tm ∧ okRs B.length sl' = true ∧ ∀ b, cntS b sl' tm + cnt b v (evR tm x) ≤ cntS b sl tm := by
  have hrep := ev_rep hg hi.rep x
  have hok := ev_ok (C := C) hi.ok x
  cases x with
  | tmp t =>
    simp only [tr] at h
    by_cases ho : isOwn (getS sl t) = true
    · rw [if_pos ho] at h
      obtain ⟨rfl, rfl⟩ := Prod.mk.inj h
      have hl := hi.rep.length
      have ht : t < sl.length := by
        rcases Nat.lt_or_ge t sl.length with h | h
        · exact h
        · rw [show getS sl t = .gone by simp [getS, List.getD_eq_getElem?_getD, List.getElem?_eq_none h]] at ho
          cases ho
      have hs : tm.set t (evR tm (.tmp t)) = tm := set_evR tm t
      refine ⟨hrep, hok, ?_, okRs_set hi.ok (okR_toView hok) t, ?_⟩
      · have := hi.rep.set (Rep_toView hrep) t
        rwa [hs] at this
      · intro b
        obtain ⟨v0, u0, e1, e2, e3⟩ := cntS_set (b := b) hl (toView (getS sl t)) (evR tm (.tmp t)) ht
        rw [hs, toView_cnt] at e3
        have h0 : v0 = getS sl t := by simp [getS, List.getD_eq_getElem?_getD, e1]
        have h1 : u0 = evR tm (.tmp t) := by simp [evR, List.getD_eq_getElem?_getD, e2]
        rw [h0, h1] at e3
        omega
    · rw [if_neg ho] at h
      obtain ⟨rfl, rfl⟩ := Prod.mk.inj h
      exact ⟨hrep, hok, hi.rep, hi.ok, fun b => by rw [cnt_zero (by simpa using ho)]; exact Nat.le_refl _⟩
  | const c =>
    obtain ⟨rfl, rfl⟩ := Prod.mk.inj h
    exact ⟨hrep, hok, hi.rep, hi.ok, fun b => by rw [show ev C sl (.const c) = ofV c from rfl, cnt_zero (ofV_own c)]; exact Nat.le_refl _⟩
  | func i =>
    obtain ⟨rfl, rfl⟩ := Prod.mk.inj h
    exact ⟨hrep, hok, hi.rep, hi.ok, fun b => by rw [cnt_zero rfl]; exact Nat.le_refl _⟩
  | global i =>
    obtain ⟨rfl, rfl⟩ := Prod.mk.inj h
    refine ⟨hrep, hok, hi.rep, hi.ok, fun b => ?_⟩
    rw [cnt_zero]
    · exact Nat.le_refl _
    · cases hc : C.glob i <;> simp only [ev, hc] <;> rfl

/-- a value that is handed on is put into a slot -/
theorem OpOk.tr {x : Operand} (hg : GlobOk C g) (hi : Inv Pr g sl B a.tmps.toList w) (h : tr C sl x = (v, sl')) (hrun : (execOp a.eval o).run C.P w = .ok (.value (evR a.tmps.toList x)) w) :
    OpOk C Pr o g B.length sl' v B a w := by
  obtain ⟨h1, h2, h3, h4, h5⟩ := tr_ok hg hi h
  exact ⟨_, _, w, g, hrun, .inl rfl, Ext.refl _ _ _ _, hi.change (All2_put h3 h1 o.dst) (okRs_put h4 h2 o.dst) fun b => by
    have := cntS_put (b := b) h3.length v (evR a.tmps.toList x) o.dst
    have := h5 b
    omega⟩

theorem Rep_lit {g : G} {x : Value} {u : Value} (h : Rep g (.lit x) u) : u = x ∧ x.oneCell' = true := h

/-! numbers, truths, texts -/
theorem lit_one {x : Value} : (∃ b, x = .bool b) ∨ (∃ k n, x = .int k n) ∨ (∃ s, x = .string s) → x.oneCell' = true := by
  rintro (⟨_, rfl⟩ | ⟨_, _, rfl⟩ | ⟨_, rfl⟩) <;> rfl

theorem beq_bytes (a b : ByteArray) : (a.toList == b.toList) = (a == b) := (beq_toListBytes a b).symm

theorem litBin_run {op : BinOp} {x y r : Value} (t : TypeId) (h : litBin op x y = some r) : (binOp op t x y).run C.P w = .ok r w ∧ r.oneCell' = true := by
  unfold litBin at h
  split at h
  · rename_i k n k' m
    by_cases hs : op = .shl ∨ op = .shr
    · rcases hs with rfl | rfl
      · simp only at h
        split at h
        · cases h
        · rename_i hb
          obtain rfl := Option.some.inj h
          constructor
          · simp [binOp, Op.shift, hb]
          · rfl
      · simp only at h
        split at h
        · cases h
        · rename_i hb
          obtain rfl := Option.some.inj h
          constructor
          · simp [binOp, Op.shift, hb]
          · rfl
    · have h' : (if k = k' then intBin op k n m else none) = some r := by
        cases op <;> first | exact h | (simp at hs)
      split at h'
      · rename_i hk
        subst hk
        cases op <;> simp only [intBin, reduceCtorEq] at h' <;> first
          | (obtain rfl := Option.some.inj h'; constructor <;> first | rfl | (simp [binOp, Op.intArith, Op.intCmp, Op.intBits]; done))
          | (split at h' <;> first | (cases h'; done) | (rename_i hz; obtain rfl := Option.some.inj h'; constructor <;> first | rfl | (simp [binOp, Op.intDiv, hz]; done)))
          | (simp at hs; done)
      · cases h'
  · rename_i s u
    cases op <;> simp only [strBin, reduceCtorEq] at h <;> first
      | (obtain rfl := Option.some.inj h; constructor <;> first | rfl | (simp [binOp, Op.stringOp, beq_bytes]; done))
      | skip
    split at h
    · rename_i hz
      obtain rfl := Option.some.inj h
      constructor
      · have : ¬ ((s.size + u.size : Nat) : Int) > IntKind.i64.max := by rw [IntKind.max_i64]; omega
        simp [binOp, Op.stringOp]
        omega
      · rfl
    · cases h
  · cases h

end
end Go.Wv
namespace Go.Wv

section
variable {P : Program} {w : World}

theorem szT_info {t : TypeId} (h : szT P t ≠ 0) : ∃ i, P.info? t = some i ∧ i.size = szT P t := by
  unfold szT at h ⊢
  cases hi : P.info? t with
  | none => simp [hi] at h
  | some i => exact ⟨i, rfl, by simp⟩
theorem sizeOf_run {t : TypeId} (h : szT P t ≠ 0) : (sizeOf t).run P w = .ok (szT P t) w := by
  obtain ⟨i, hi, hs⟩ := szT_info h
  simp [sizeOf, typeInfo, hi, hs]
theorem elemT_spec {t e : TypeId} (h : elemT P t = some e) : P.underlying t = some (.slice e) ∧ szT P e ≠ 0 := by
  unfold elemT at h
  split at h
  · rename_i e' hu
    split at h
    · cases h
    · rename_i hs
      obtain rfl := Option.some.inj h
      exact ⟨hu, hs⟩
  · cases h
theorem arrT_spec {t e : TypeId} {n : Nat} (h : arrT P t = some (n, e)) : P.underlying t = some (.array n e) ∧ szT P e ≠ 0 := by
  unfold arrT at h
  split at h
  · rename_i n' e' hu
    split at h
    · cases h
    · rename_i hs
      obtain ⟨rfl, rfl⟩ := Prod.mk.inj (Option.some.inj h)
      exact ⟨hu, hs⟩
  · cases h
theorem fldT_spec {s : TypeId} {i : Nat} {off sz : Nat} (h : fldT P s i = some (off, sz)) :
    ∃ fs x, P.underlying s = some (.struct fs) ∧ fs[i]? = some x ∧ x.offset = off ∧ szT P x.type = sz ∧ sz ≠ 0 := by
  unfold fldT at h
  split at h
  · rename_i fs hu
    split at h
    · rename_i x hx
      split at h
      · cases h
      · rename_i hs
        obtain ⟨rfl, rfl⟩ := Prod.mk.inj (Option.some.inj h)
        exact ⟨fs, x, hu, hx, rfl, rfl, hs⟩
    · cases h
  · cases h
theorem strT_spec {t : TypeId} (h : strT P t = true) : P.underlying t = some .string := by
  unfold strT at h
  split at h
  · assumption
  · cases h
theorem boolT_spec {t : TypeId} (h : boolT P t = true) : P.underlying t = some .bool := by
  unfold boolT at h
  split at h
  · assumption
  · cases h
theorem intT_spec {t : TypeId} {k : IntKind} (h : intT P t = some k) : P.underlying t = some (.int k) := by
  unfold intT at h
  split at h
  · rename_i k' hu; obtain rfl := Option.some.inj h; exact hu
  · cases h
theorem aggT_run {t : TypeId} {b : Bool} (h : aggT P t = some b) : (isAgg t).run P w = .ok b w := by
  unfold aggT at h
  unfold isAgg
  split at h
  · rename_i fs hu; obtain rfl := Option.some.inj h; simp [run_underlying hu]
  · rename_i n e hu; obtain rfl := Option.some.inj h; simp [run_underlying hu]
  · rename_i d h1 h2 hu
    obtain rfl := Option.some.inj h
    rw [Sem.run_bind, run_underlying hu]
    cases d <;> first | rfl | exact absurd rfl (h1 _) | exact absurd rfl (h2 _ _)
  · cases h

theorem Addr_add' (b o n : Nat) : Addr.add ⟨b, o, none⟩ n = ⟨b, o + n, none⟩ := Addr.add_lit b o n

theorem asIx_spec {v : VV} {i : Nat} (h : asIx v = some i) : ∃ k, v = .lit (.int k (i : Int)) := by
  unfold asIx at h
  split at h
  · rename_i k n
    split at h
    · rename_i h0
      obtain rfl := Option.some.inj h
      exact ⟨k, by rw [Int.toNat_of_nonneg h0]⟩
    · cases h
  · cases h

end

section
variable {C : Cfg} {Pr : Nat → Prop} {f : FuncId} {o : Oper} {g : G} {sl sl' : List VV} {B B' : List Blk} {a : Act} {w : World} {v : VV}

theorem Rep_cell {g : G} {v : VV} {u : Value} (h : Rep g v u) (h1 : ∀ vs, v ≠ .tup vs) (h2 : ∀ cs, v ≠ .agg cs) (h3 : v ≠ .gone) : RepC g v u := by
  cases v <;> first | exact h | exact absurd rfl (h1 _) | exact absurd rfl (h2 _) | exact absurd rfl h3

theorem ev_lit (hg : GlobOk C g) {tm : List Value} (hi : Inv Pr g sl B tm w) {x : Operand} {c : Value} (h : ev C sl x = .lit c) : evR tm x = c := by
  have := ev_rep hg hi.rep x
  rw [h] at this
  exact this.1
theorem ev_lit1 (hg : GlobOk C g) {tm : List Value} (hi : Inv Pr g sl B tm w) {x : Operand} {c : Value} (h : ev C sl x = .lit c) : c.oneCell' = true := by
  have := ev_rep hg hi.rep x
  rw [h] at this
  exact this.2

theorem move_ok (hg : GlobOk C g) (hi : Inv Pr g sl B a.tmps.toList w) {x : Operand} (ho : o.op = .move x) (h : vop C f o sl B = some (v, sl', B')) : OpOk C Pr o g B.length sl' v B' a w := by
  have hrun : (execOp a.eval o).run C.P w = .ok (.value (evR a.tmps.toList x)) w := by simp [execOp, ho, eval_evR]
  simp only [vop, ho] at h
  split at h
  · obtain ⟨rfl, rfl, rfl⟩ : v = (tr C sl x).1 ∧ sl' = (tr C sl x).2 ∧ B' = B := by
      have := Option.some.inj h
      simp only [Prod.mk.injEq] at this
      exact ⟨this.1.symm, this.2.1.symm, this.2.2.symm⟩
    exact OpOk.tr hg hi rfl hrun
  · simp only [Option.some.injEq, Prod.mk.injEq] at h
    obtain ⟨rfl, rfl, rfl⟩ := h
    exact OpOk.pure hi hrun (Rep_toView (ev_rep hg hi.rep x)) (okR_toView (ev_ok hi.ok x)) (isOwn_toView _)

theorem assign_ok (hg : GlobOk C g) (hi : Inv Pr g sl B a.tmps.toList w) {x : Operand} (ho : o.op = .assign x) (h : vop C f o sl B = some (v, sl', B')) : OpOk C Pr o g B.length sl' v B' a w := by
  have hrun : (execOp a.eval o).run C.P w = .ok (.value (evR a.tmps.toList x)) w := by simp [execOp, ho, eval_evR]
  simp only [vop, ho, Option.some.injEq, Prod.mk.injEq] at h
  obtain ⟨rfl, rfl, rfl⟩ := h
  exact OpOk.tr hg hi rfl hrun

theorem pick_ok (hg : GlobOk C g) (hi : Inv Pr g sl B a.tmps.toList w) {c x y : Operand} (ho : o.op = .pick c x y) (h : vop C f o sl B = some (v, sl', B')) : OpOk C Pr o g B.length sl' v B' a w := by
  simp only [vop, ho] at h
  split at h
  · rename_i t ht
    simp only [Option.some.injEq, Prod.mk.injEq] at h
    obtain ⟨rfl, rfl, rfl⟩ := h
    have hc := ev_lit hg hi ht
    have hrun : (execOp a.eval o).run C.P w = .ok (.value (evR a.tmps.toList (if t then x else y))) w := by
      simp only [execOp, ho, eval_evR, hc, asBool]
      cases t <;> simp
    exact OpOk.pure hi hrun (Rep_toView (ev_rep hg hi.rep _)) (okR_toView (ev_ok hi.ok _)) (isOwn_toView _)
  · cases h

theorem unOp_ok (hg : GlobOk C g) (hi : Inv Pr g sl B a.tmps.toList w) {op : UnOp} {t : TypeId} {x : Operand} (ho : o.op = .unOp op t x) (h : vop C f o sl B = some (v, sl', B')) : OpOk C Pr o g B.length sl' v B' a w := by
  simp only [vop, ho] at h
  split at h
  · rename_i r hr
    simp only [Option.some.injEq, Prod.mk.injEq] at h
    obtain ⟨rfl, rfl, rfl⟩ := h
    unfold vun at hr
    split at hr
    · rename_i b hx
      have hx' := ev_lit hg hi hx
      cases op <;> simp only [reduceCtorEq] at hr
      obtain rfl := Option.some.inj hr
      exact OpOk.pure hi (u := .bool (!b)) (by simp [execOp, ho, eval_evR, hx', Op.unary]) ⟨rfl, rfl⟩ rfl rfl
    · rename_i k n hx
      have hx' := ev_lit hg hi hx
      cases op <;> simp only [reduceCtorEq] at hr <;> obtain rfl := Option.some.inj hr
      · exact OpOk.pure hi (u := _) (by simp [execOp, ho, eval_evR, hx', Op.unary, Op.intArith]; rfl) ⟨by simp, rfl⟩ rfl rfl
      · exact OpOk.pure hi (u := _) (by simp [execOp, ho, eval_evR, hx', Op.unary, Op.intBits]; rfl) ⟨by simp, rfl⟩ rfl rfl
    · cases hr
  · cases h

theorem nilCheck_ok (hg : GlobOk C g) (hi : Inv Pr g sl B a.tmps.toList w) {x : Operand} (ho : o.op = .nilCheck x) (h : vop C f o sl B = some (v, sl', B')) : OpOk C Pr o g B.length sl' v B' a w := by
  have hrep := ev_rep hg hi.rep x
  have hok := ev_ok (C := C) hi.ok x
  simp only [vop, ho] at h
  split at h <;> first | (cases h; done) | skip
  all_goals
    rename_i he
    simp only [Option.some.injEq, Prod.mk.injEq] at h
    obtain ⟨rfl, rfl, rfl⟩ := h
    rw [he] at hrep hok
  · have hu : evR a.tmps.toList x = _ := hrep
    exact OpOk.pure hi (u := evR a.tmps.toList x) (by simp only [execOp, ho, eval_evR, hu]; rfl) hrep hok rfl
  · obtain ⟨b, base, com, h1, h2, h3⟩ := id hrep
    exact OpOk.pure hi (u := evR a.tmps.toList x) (by simp only [execOp, ho, eval_evR, h2]; rfl) hrep hok rfl
  · obtain ⟨p, q, h2, h3, h4⟩ := id hrep
    exact OpOk.pure hi (u := evR a.tmps.toList x) (by simp only [execOp, ho, eval_evR, h2]; rfl) hrep hok rfl
  · have h2 : evR a.tmps.toList x = _ := hrep.1
    exact OpOk.pure hi (u := evR a.tmps.toList x) (by simp only [execOp, ho, eval_evR, h2]; rfl) hrep hok rfl

theorem set_self {α : Type} {l : List α} {i : Nat} {x : α} (h : l[i]? = some x) : l.set i x = l := by
  apply List.ext_getElem?
  intro j
  rw [List.getElem?_set]
  split
  · rename_i hij
    subst hij
    obtain ⟨h1, h2⟩ := List.getElem?_eq_some_iff.1 h
    rw [if_pos h1, h]
  · rfl

theorem cntVL_set {b : Nat} {vs : List VV} {us : List Value} (x : VV) {i : Nat} {v0 : VV} {u0 : Value} (hv : vs[i]? = some v0) (hu : us[i]? = some u0) :
    cntVL b (vs.set i x) us + cntV b v0 u0 = cntVL b vs us + cntV b x u0 := by
  induction vs generalizing us i with
  | nil => simp at hv
  | cons v1 vs ih => cases us with
    | nil => simp at hu
    | cons u1 us =>
      cases i with
      | zero => simp at hv hu; subst hv hu; simp only [List.set_cons_zero, cntVL]; omega
      | succ i => have := ih (us := us) (i := i) (by simpa using hv) (by simpa using hu); simp only [List.set_cons_succ, cntVL]; omega

theorem isOwn_viewV {v : VV} (h : ¬ ∃ vs, v = .tup vs) : isOwn (viewV v) = false := by
  have := ownV_viewV v
  cases hx : viewV v <;> first | (rw [hx] at this; exact this) | exact absurd ⟨_, hx⟩ (viewV_tup h)

theorem RepV_not_tup {g : G} {v : VV} {u : Value} (h : RepV g v u) : ¬ ∃ vs, v = .tup vs := by
  rintro ⟨vs, rfl⟩; exact h

theorem extract_ok (hg : GlobOk C g) (hi : Inv Pr g sl B a.tmps.toList w) {x : Operand} {i : Nat} (ho : o.op = .extract x i) (h : vop C f o sl B = some (v, sl', B')) : OpOk C Pr o g B.length sl' v B' a w := by
  have hrep := ev_rep hg hi.rep x
  have hok := ev_ok (C := C) hi.ok x
  simp only [vop, ho] at h
  split at h
  · rename_i t vs he
    split at h
    · rename_i v0 hv0
      rw [he] at hrep hok
      obtain ⟨us, hu, h2⟩ := hrep
      obtain ⟨u0, hu0, h3⟩ := h2.get hv0
      have hok0 : okV B.length v0 = true := List.all_eq_true.1 (show vs.all (okV B.length) = true from hok) v0 (List.mem_of_getElem? hv0)
      have hnt := RepV_not_tup h3
      have hrun : (execOp a.eval o).run C.P w = .ok (.value u0) w := by
        simp only [execOp, ho, eval_evR, hu, Instr.extract]
        rw [← Array.getElem?_toList, hu0]
        rfl
      split at h
      · simp only [Option.some.injEq, Prod.mk.injEq] at h
        obtain ⟨rfl, rfl, rfl⟩ := h
        have hs := set_evR a.tmps.toList t
        have hl := hi.rep.length
        have ht : t < sl.length := by
          rcases Nat.lt_or_ge t sl.length with h | h
          · exact h
          · rw [show ev C sl (.tmp t) = getS sl t from rfl, show getS sl t = .gone by simp [getS, List.getD_eq_getElem?_getD, List.getElem?_eq_none h]] at he
            cases he
        have hnew : Rep g (.tup (vs.set i (viewV v0))) (evR a.tmps.toList (.tmp t)) := by
          refine ⟨us, hu, ?_⟩
          have := h2.set (RepV_viewV h3) i
          rwa [set_self hu0] at this
        have hoknew : okR B.length (.tup (vs.set i (viewV v0))) = true := by
          refine List.all_eq_true.2 fun y hy => ?_
          rcases List.mem_or_eq_of_mem_set hy with h1 | h1
          · exact List.all_eq_true.1 (show vs.all (okV B.length) = true from hok) y h1
          · subst h1; exact okV_viewV hok0
        have h1 : All2 (Rep g) (sl.set t (.tup (vs.set i (viewV v0)))) a.tmps.toList := by
          have := hi.rep.set hnew t
          rwa [hs] at this
        have hokv : okR B.length v0 = true := by rw [okR_eq hnt]; exact hok0
        refine ⟨_, u0, w, g, hrun, .inl rfl, Ext.refl _ _ _ _, hi.change (All2_put h1 (Rep_of_RepV h3) o.dst) (okRs_put (okRs_set hi.ok hoknew t) hokv o.dst) fun b => ?_⟩
        have c1 := cntS_put (b := b) h1.length v0 u0 o.dst
        obtain ⟨w0, z0, e1, e2, e3⟩ := cntS_set (b := b) hl (.tup (vs.set i (viewV v0))) (evR a.tmps.toList (.tmp t)) ht
        rw [hs] at e3
        have d0 : w0 = .tup vs := by
          have : ev C sl (.tmp t) = w0 := by show getS sl t = w0; simp [getS, List.getD_eq_getElem?_getD, e1]
          rw [← this]; exact he
        have d1 : z0 = .tuple us := by
          have : evR a.tmps.toList (.tmp t) = z0 := by simp [evR, List.getD_eq_getElem?_getD, e2]
          rw [← this]; exact hu
        rw [d0, d1, hu] at e3
        have e4 := cntVL_set (b := b) (viewV v0) hv0 hu0
        have e5 : cntV b (viewV v0) u0 = 0 := cntV_zero (ownV_viewV v0)
        have e6 : cnt b v0 u0 = cntV b v0 u0 := cnt_eq hnt
        simp only [cnt] at e3 e6
        simp only [cnt] at c1
        omega
      · simp only [Option.some.injEq, Prod.mk.injEq] at h
        obtain ⟨rfl, rfl, rfl⟩ := h
        exact OpOk.pure hi hrun (Rep_of_RepV (RepV_viewV h3)) (by rw [okR_eq (viewV_tup hnt)]; exact okV_viewV hok0) (isOwn_viewV hnt)
    · cases h
  · cases h

theorem fieldAddr_ok (hg : GlobOk C g) (hi : Inv Pr g sl B a.tmps.toList w) {s : TypeId} {x : Operand} {i : Nat} (ho : o.op = .fieldAddr s x i) (h : vop C f o sl B = some (v, sl', B')) : OpOk C Pr o g B.length sl' v B' a w := by
  have hrep := ev_rep hg hi.rep x
  have hok := ev_ok (C := C) hi.ok x
  simp only [vop, ho] at h
  have key : ∀ (b off fo sz : Nat), fldT C.P s i = some (fo, sz) → evR a.tmps.toList x = .pointer (some ⟨b, off, none⟩) →
      (execOp a.eval o).run C.P w = .ok (.value (.pointer (some ⟨b, off + fo, none⟩))) w := by
    intro b off fo sz hf hu
    obtain ⟨fs, fl, h1, h2, h3, h4, h5⟩ := fldT_spec hf
    simp only [execOp, ho, eval_evR, hu, Instr.fieldAt, Sem.run_bind, run_underlying h1, Result.andThen_ok, h2, Instr.sureAddr, Sem.run_pure, fieldPlace, sizeOf_run (w := w) (show szT C.P fl.type ≠ 0 by rw [h4]; exact h5), h4, h5, if_false, Addr_add', h3]
  split at h <;> first | (cases h; done) | skip
  · rename_i fo sz id off hf he
    simp only [Option.some.injEq, Prod.mk.injEq] at h
    obtain ⟨rfl, rfl, rfl⟩ := h
    rw [he] at hrep hok
    exact OpOk.pure hi (key _ _ _ _ hf hrep) rfl hok rfl
  · rename_i fo sz cs off hf he
    simp only [Option.some.injEq, Prod.mk.injEq] at h
    obtain ⟨rfl, rfl, rfl⟩ := h
    rw [he] at hrep hok
    obtain ⟨b, base, com, h1, h2, h3⟩ := hrep
    exact OpOk.pure hi (key _ _ _ _ hf h2) ⟨b, base, com, h1, by rw [Nat.add_assoc], h3⟩ hok rfl

theorem vlen_run {t : TypeId} {x r : VV} {u : Value} (h : vlen C.P t x = some r) (hx : Rep g x u) (ty : TypeId) :
    ∃ z, (Builtin.len_ #[t] ty #[u]).run C.P w = .ok z w ∧ r = .lit z ∧ z.oneCell' = true := by
  unfold vlen at h
  split at h
  · obtain ⟨rfl, _⟩ := hx
    split at h
    · rename_i hs
      obtain rfl := Option.some.inj h
      exact ⟨_, by simp [Builtin.len_, run_underlying (strT_spec hs), goInt], rfl, rfl⟩
    · cases h
  · rename_i fl xs
    split at h
    · rename_i e he
      obtain rfl := Option.some.inj h
      have hu := (elemT_spec he).1
      have : ∃ b c, u = .slice b xs.length c := by
        have h1 := RepSl_view (show RepSl g fl xs u from hx)
        cases xs with
        | nil => obtain ⟨b, c, e⟩ := h1; exact ⟨b, c, e⟩
        | cons y ys => obtain ⟨b, off, c, com, sz, e, _⟩ := h1; exact ⟨_, c, e⟩
      obtain ⟨b, c, rfl⟩ := this
      exact ⟨_, by simp [Builtin.len_, run_underlying hu, goInt], rfl, rfl⟩
    · cases h
  · rename_i id ag sz off n
    split at h
    · rename_i e he
      obtain rfl := Option.some.inj h
      have hu := (elemT_spec he).1
      obtain ⟨c, rfl, _⟩ := hx
      exact ⟨_, by simp [Builtin.len_, run_underlying hu, goInt], rfl, rfl⟩
    · cases h
  · cases h

end
end Go.Wv
namespace Go.Wv

theorem flatC_length {sz : Nat} {xs : List VV} (h : ∀ x ∈ xs, x.cells.length = sz) : (flatC xs).length = xs.length * sz := by
  induction xs with
  | nil => simp [flatC]
  | cons x xs ih =>
    have h1 := ih fun y hy => h y (by simp [hy])
    simp only [flatC, List.flatMap_cons, List.length_append, List.length_cons, h x (by simp)] at h1 ⊢
    rw [h1, Nat.add_mul]
    omega
theorem flatC_window {sz : Nat} : ∀ {xs : List VV} {i : Nat} {x : VV}, (∀ x ∈ xs, x.cells.length = sz) → xs[i]? = some x → ((flatC xs).drop (i * sz)).take sz = x.cells
  | [], i, x, _, hi => by simp at hi
  | y :: xs, 0, x, h, hi => by
    simp at hi; subst hi
    simp only [flatC, List.flatMap_cons, Nat.zero_mul, List.drop_zero]
    rw [← h y (by simp), List.take_left]
  | y :: xs, i + 1, x, h, hi => by
    have ih := flatC_window (xs := xs) (i := i) (x := x) (fun z hz => h z (by simp [hz])) (by simpa using hi)
    simp only [flatC, List.flatMap_cons] at ih ⊢
    rw [show (i + 1) * sz = y.cells.length + i * sz by rw [h y (by simp), Nat.add_mul]; omega, List.drop_append_of_le_length' ]
    exact ih
where
  List.drop_append_of_le_length' {α : Type} {l r : List α} {k : Nat} : (l ++ r).drop (l.length + k) = r.drop k := by
    rw [← List.drop_drop, List.drop_left]

section
variable {C : Cfg} {Pr : Nat → Prop} {f : FuncId} {o : Oper} {g : G} {sl sl' : List VV} {B B' : List Blk} {a : Act} {w : World} {v : VV}

theorem ev_ix (hg : GlobOk C g) {tm : List Value} (hi : Inv Pr g sl B tm w) {x : Operand} {i : Nat} (h : asIx (ev C sl x) = some i) : ∃ k, evR tm x = .int k (i : Int) := by
  obtain ⟨k, e⟩ := asIx_spec h
  exact ⟨k, ev_lit hg hi e⟩

theorem window_window {l m : List VV} {base off k n : Nat} (h : (l.drop base).take n = m) (hk : off + k ≤ n) : (l.drop (base + off)).take k = (m.drop off).take k := by
  subst h
  rw [List.drop_take, List.take_take, List.drop_drop, Nat.min_eq_left (by omega)]

theorem vindexAddr_run {t : TypeId} {x y r : VV} {u : Value} {k : IntKind} {i : Nat} (h : vindexAddr C.P t x y = some r) (hy : asIx y = some i) (hx : Rep g x u) (n : Nat) (hok : okR n x = true) :
    ∃ z, (Instr.indexAt t u (.int k (i : Int))).run C.P w = .ok z w ∧ RepC g r z ∧ okC n r = true ∧ ownC r = false ∧ (∀ cs, r ≠ .agg cs) ∧ (∀ vs, r ≠ .tup vs) := by
  unfold vindexAddr at h
  rw [hy] at h
  simp only at h
  split at h <;> first | (cases h; done) | skip
  · rename_i fl xs
    split at h <;> first | (cases h; done) | skip
    rename_i x0 hx0
    split at h <;> first | (cases h; done) | skip
    rename_i e he
    split at h <;> first | (cases h; done) | skip
    rename_i hsz
    obtain rfl := Option.some.inj h
    obtain ⟨hu, hne⟩ := elemT_spec he
    have hxv := RepSl_view (show RepSl g fl xs u from hx)
    have hne' : xs ≠ [] := by rintro rfl; simp at hx0
    obtain ⟨y0, ys, rfl⟩ := List.exists_cons_of_ne_nil hne'
    obtain ⟨b, off, c, com, sz, rfl, h2, h3, h4, h5, h6, h7, _, h9⟩ := hxv
    obtain ⟨hi1, hi2⟩ := List.getElem?_eq_some_iff.1 hx0
    have hsz' : sz = szT C.P e := by rw [← hsz]; exact (h5 x0 (List.mem_of_getElem? hx0)).symm
    refine ⟨.pointer (some ⟨b, off + i * szT C.P e, none⟩), ?_, ?_, rfl, rfl, by simp, by simp⟩
    · have hlt : (i : Int) < ((y0 :: ys).length : Nat) := by exact_mod_cast hi1
      simp only [Instr.indexAt, asIntOf, Sem.run_bind, Sem.run_pure, Result.andThen_ok, run_underlying hu]
      rw [if_pos ⟨Int.natCast_nonneg i, hlt⟩]
      simp only [Sem.run_bind, sizeOf_run hne, Result.andThen_ok, Sem.run_pure, Int.toNat_natCast, Addr_add']
    · refine ⟨b, off + i * szT C.P e, com, h3, by rw [Nat.add_zero], ?_⟩
      rw [hsz, ← hsz', window_window h7 (off := i * sz) (k := sz) (by
        have : (i + 1) * sz ≤ (y0 :: ys).length * sz := Nat.mul_le_mul_right _ hi1
        rw [Nat.add_mul] at this; omega)]
      exact ⟨flatC_window h5 hx0, fun c hc => h9 c (List.mem_flatMap.2 ⟨x0, List.mem_of_getElem? hx0, hc⟩)⟩
  · rename_i id ag sz off n'
    split at h <;> first | (cases h; done) | skip
    rename_i e he
    split at h <;> first | (cases h; done) | skip
    rename_i hc
    obtain ⟨hlt, hsz⟩ := hc
    obtain rfl := Option.some.inj h
    obtain ⟨hu, hne⟩ := elemT_spec he
    obtain ⟨c, rfl, hnc⟩ := hx
    refine ⟨.pointer (some ⟨g.phi id, (off + i) * sz, none⟩), ?_, rfl, hok, rfl, by simp, by simp⟩
    have hlt' : (i : Int) < (n' : Nat) := by exact_mod_cast hlt
    simp only [Instr.indexAt, asIntOf, Sem.run_bind, Sem.run_pure, Result.andThen_ok, run_underlying hu]
    rw [if_pos ⟨Int.natCast_nonneg i, hlt'⟩]
    simp only [Sem.run_bind, sizeOf_run hne, Result.andThen_ok, Sem.run_pure, Int.toNat_natCast, Addr_add', hsz, Nat.add_mul]
  · rename_i id off
    split at h <;> first | (cases h; done) | skip
    rename_i m e he
    split at h <;> first | (cases h; done) | skip
    rename_i hlt
    obtain rfl := Option.some.inj h
    obtain ⟨hu, hne⟩ := arrT_spec he
    obtain rfl : u = _ := hx
    refine ⟨.pointer (some ⟨g.phi id, off + i * szT C.P e, none⟩), ?_, rfl, hok, rfl, by simp, by simp⟩
    have hlt' : (i : Int) < (m : Nat) := by exact_mod_cast hlt
    simp only [Instr.indexAt, asIntOf, Sem.run_bind, Sem.run_pure, Result.andThen_ok, run_underlying hu, Instr.sureAddr]
    rw [if_pos ⟨Int.natCast_nonneg i, hlt'⟩]
    simp only [Sem.run_bind, sizeOf_run hne, Result.andThen_ok, Sem.run_pure, Int.toNat_natCast, Addr_add']
  · rename_i cs off
    split at h <;> first | (cases h; done) | skip
    rename_i m e he
    split at h <;> first | (cases h; done) | skip
    rename_i hlt
    obtain rfl := Option.some.inj h
    obtain ⟨hu, hne⟩ := arrT_spec he
    obtain ⟨b, base, com, h1, rfl, h3⟩ := hx
    refine ⟨.pointer (some ⟨b, base + (off + i * szT C.P e), none⟩), ?_, ⟨b, base, com, h1, rfl, h3⟩, rfl, rfl, by simp, by simp⟩
    have hlt' : (i : Int) < (m : Nat) := by exact_mod_cast hlt
    simp only [Instr.indexAt, asIntOf, Sem.run_bind, Sem.run_pure, Result.andThen_ok, run_underlying hu, Instr.sureAddr]
    rw [if_pos ⟨Int.natCast_nonneg i, hlt'⟩]
    simp only [Sem.run_bind, sizeOf_run hne, Result.andThen_ok, Sem.run_pure, Int.toNat_natCast, Addr_add', Nat.add_assoc]

theorem cell_rep {r : VV} {z : Value} (h : RepC g r z) : Rep g r z := by
  cases r <;> first | exact h | exact h.elim
theorem cell_ok {n : Nat} {r : VV} (h : okC n r = true) (h1 : ∀ cs, r ≠ .agg cs) (h2 : ∀ vs, r ≠ .tup vs) : okR n r = true := by
  cases r <;> first | exact h | exact absurd rfl (h1 _) | exact absurd rfl (h2 _)
theorem cell_own {r : VV} (h : ownC r = false) (h1 : ∀ cs, r ≠ .agg cs) (h2 : ∀ vs, r ≠ .tup vs) : isOwn r = false := by
  cases r <;> first | exact h | exact absurd rfl (h1 _) | exact absurd rfl (h2 _)

/-- a part of a struct or array that lies in slots -/
theorem part_run {e : TypeId} {cs : List VV} {us : Array Value} {off : Nat} {r : VV} (h : readAt C.P e cs off = some r) (h2 : All2 (RepC g) cs us.toList) :
    ∃ z, (part e us off).run C.P w = .ok z w ∧ RepV g r z ∧ ((∃ cs', r = .agg cs' ∧ ∀ c ∈ cs', c ∈ cs) ∨ r ∈ cs) := by
  unfold readAt at h
  split at h <;> first | (cases h; done) | skip
  · rename_i ha
    split at h <;> first | (cases h; done) | skip
    rename_i hlen
    obtain rfl := Option.some.inj h
    refine ⟨.agg (us.extract off (off + szT C.P e)), ?_, ⟨_, rfl, ?_⟩, .inl ⟨_, rfl, fun c hc => List.mem_of_mem_drop (List.mem_of_mem_take hc)⟩⟩
    · simp only [part, Sem.run_bind, aggT_run ha, Result.andThen_ok, sizeOf_run (w := w) (show szT C.P e ≠ 0 by omega), if_true, Sem.run_pure]
    · have := (h2.drop off).take (szT C.P e)
      simpa [Array.toList_extract, List.extract_eq_drop_take] using this
  · rename_i ha
    obtain ⟨z, hz, hr⟩ := h2.get h
    refine ⟨z, ?_, ?_, .inr (List.mem_of_getElem? h)⟩
    · simp only [part, Sem.run_bind, aggT_run ha, Result.andThen_ok, Bool.false_eq_true, if_false]
      rw [← Array.getElem?_toList, hz]
      rfl
    · cases r <;> first | exact hr | exact hr.elim

theorem indexAddr_ok (hg : GlobOk C g) (hi : Inv Pr g sl B a.tmps.toList w) {t : TypeId} {x y : Operand} (ho : o.op = .indexAddr t x y) (h : vop C f o sl B = some (v, sl', B')) : OpOk C Pr o g B.length sl' v B' a w := by
  simp only [vop, ho] at h
  split at h
  · rename_i r hr
    simp only [Option.some.injEq, Prod.mk.injEq] at h
    obtain ⟨rfl, rfl, rfl⟩ := h
    cases hy : asIx (ev C sl y) with
    | none => unfold vindexAddr at hr; rw [hy] at hr; cases hr
    | some i =>
      obtain ⟨k, hk⟩ := ev_ix hg hi hy
      obtain ⟨z, h1, h2, h3, h4, h5, h6⟩ := vindexAddr_run (w := w) (k := k) hr hy (ev_rep hg hi.rep x) B.length (ev_ok hi.ok x)
      exact OpOk.pure hi (u := z) (by simp only [execOp, ho, eval_evR, hk, Sem.run_bind, h1]; rfl) (cell_rep h2) (cell_ok h3 h5 h6) (cell_own h4 h5 h6)
  · cases h

theorem index_ok (hg : GlobOk C g) (hi : Inv Pr g sl B a.tmps.toList w) {t : TypeId} {x y : Operand} (ho : o.op = .index t x y) (h : vop C f o sl B = some (v, sl', B')) : OpOk C Pr o g B.length sl' v B' a w := by
  simp only [vop, ho] at h
  split at h
  · rename_i r hr
    simp only [Option.some.injEq, Prod.mk.injEq] at h
    obtain ⟨rfl, rfl, rfl⟩ := h
    unfold vindex at hr
    split at hr <;> first | (cases hr; done) | skip
    rename_i i hy
    obtain ⟨k, hk⟩ := ev_ix hg hi hy
    split at hr <;> first | (cases hr; done) | skip
    · rename_i s hx
      have hx' := ev_lit hg hi hx
      split at hr <;> first | (cases hr; done) | skip
      rename_i hc
      split at hr <;> first | (cases hr; done) | skip
      rename_i hlt
      obtain rfl := Option.some.inj hr
      refine OpOk.pure hi (u := .int .u8 (s[i]'hlt).toNat) ?_ (show Rep g (.lit _) _ from ⟨rfl, rfl⟩) rfl rfl
      have hu := strT_spec hc
      simp only [execOp, ho, eval_evR, hx', hk, Instr.index, asIntOf, Sem.run_bind, Sem.run_pure, Result.andThen_ok, run_underlying hu]
      rw [if_pos (Int.natCast_nonneg i), Int.toNat_natCast]
      have : s[i]? = some (s[i]'hlt) := by simp [getElem?_pos, hlt]
      rw [this]
      rfl
    · rename_i cs hx
      split at hr <;> first | (cases hr; done) | skip
      rename_i n e he
      split at hr <;> first | (cases hr; done) | skip
      rename_i hlt
      have hrep := ev_rep hg hi.rep x
      have hok := ev_ok (C := C) hi.ok x
      rw [hx] at hrep hok
      obtain ⟨us, hus, h2⟩ := hrep
      obtain ⟨hu, hne⟩ := arrT_spec he
      obtain ⟨z, h3, h4, h5⟩ := part_run (w := w) hr h2
      have hlt' : (i : Int) < (n : Nat) := by exact_mod_cast hlt
      have hokr : okV B.length r = true := by
        have hall : cs.all (okC B.length) = true := hok
        rcases h5 with ⟨cs', rfl, h6⟩ | h6
        · exact List.all_eq_true.2 fun c hc => List.all_eq_true.1 hall c (h6 c hc)
        · have h7 := List.all_eq_true.1 hall r h6
          have h8 : ¬ ∃ cs', r = .agg cs' := by
            rintro ⟨cs', rfl⟩
            obtain ⟨j, hj⟩ := List.getElem?_of_mem h6
            obtain ⟨_, _, h9⟩ := h2.get hj
            exact h9
          rw [okV_eq h8]; exact h7
      have hnt := RepV_not_tup h4
      refine OpOk.pure hi (u := z) ?_ (Rep_of_RepV (RepV_viewV h4)) (by rw [okR_eq (viewV_tup hnt)]; exact okV_viewV hokr) (isOwn_viewV hnt)
      simp only [execOp, ho, eval_evR, hus, hk, Instr.index, asIntOf, Sem.run_bind, Sem.run_pure, Result.andThen_ok, run_underlying hu]
      rw [if_pos ⟨Int.natCast_nonneg i, hlt'⟩]
      simp only [Sem.run_bind, sizeOf_run (w := w) hne, Result.andThen_ok, Int.toNat_natCast, h3]
  · cases h


theorem bound_run {n h : Nat} {v : Option VV} (hb : bound n v = some h) {x : Value} {y : VV} (hv : v = some y) (hx : Rep g y x) {m : Nat} (hm : n ≤ m) (code : BoundsCode) :
    (Instr.sliceBound x m code).run C.P w = .ok h w := by
  subst hv
  unfold bound at hb
  simp only at hb
  split at hb <;> first | (cases hb; done) | skip
  rename_i i hi
  split at hb <;> first | (cases hb; done) | skip
  rename_i hle
  obtain rfl := Option.some.inj hb
  obtain ⟨k, rfl⟩ := asIx_spec hi
  obtain ⟨rfl, _⟩ := hx
  have : (i : Int) ≤ (m : Nat) := by exact_mod_cast Nat.le_trans hle hm
  simp only [Instr.sliceBound, asIntOf, Sem.run_bind, Sem.run_pure, Result.andThen_ok]
  rw [if_pos ⟨Int.natCast_nonneg i, this⟩, Int.toNat_natCast]
  rfl

theorem sliceBounds_run {len cap h l : Nat} {vlo vhi : Option VV} {lo hi : Option Value} (hh : bound len vhi = some h) (hl : bound h (some (vlo.getD (.lit (.int .i64 0)))) = some l) (hcap : len ≤ cap)
    (rlo : (vlo = none ∧ lo = none) ∨ ∃ y x, vlo = some y ∧ lo = some x ∧ Rep g y x) (rhi : (vhi = none ∧ hi = none) ∨ ∃ y x, vhi = some y ∧ hi = some x ∧ Rep g y x) (isSlice : Bool) :
    (Instr.sliceBounds isSlice len cap lo hi none).run C.P w = .ok (l, h, cap) w ∧ l ≤ h ∧ h ≤ len := by
  have hhl : h ≤ len := by
    unfold bound at hh
    split at hh
    · simp at hh; omega
    · split at hh <;> first | (cases hh; done) | skip
      split at hh <;> first | (cases hh; done) | skip
      simp at hh; omega
  have hlh : l ≤ h := by
    unfold bound at hl
    simp only at hl
    split at hl <;> first | (cases hl; done) | skip
    split at hl <;> first | (cases hl; done) | skip
    simp at hl; omega
  refine ⟨?_, hlh, hhl⟩
  have hl0 : vlo = none → l = 0 := by
    rintro rfl
    simp [bound, asIx] at hl
    exact hl.symm
  rcases rhi with ⟨rfl, rfl⟩ | ⟨y, x, rfl, rfl, hr⟩
  · simp only [bound, Option.some.injEq] at hh
    subst hh
    rcases rlo with ⟨rfl, rfl⟩ | ⟨y', x', rfl, rfl, hr'⟩
    · rw [hl0 rfl]; rfl
    · have e2 := bound_run (C := C) (w := w) hl rfl hr' (Nat.le_refl len) (if (none : Option Value).isSome then .slice3C else .sliceB)
      simp only [Instr.sliceBounds, Sem.run_bind, Sem.run_pure, Result.andThen_ok, e2]
  · have e1 := bound_run (C := C) (w := w) hh rfl hr hcap (if isSlice then .sliceAcap else .sliceAlen)
    rcases rlo with ⟨rfl, rfl⟩ | ⟨y', x', rfl, rfl, hr'⟩
    · rw [hl0 rfl]
      simp only [Instr.sliceBounds, Sem.run_bind, Sem.run_pure, Result.andThen_ok, e1]
    · have e2 := bound_run (C := C) (w := w) hl rfl hr' (Nat.le_refl h) (if (none : Option Value).isSome then .slice3C else .sliceB)
      simp only [Instr.sliceBounds, Sem.run_bind, Sem.run_pure, Result.andThen_ok, e1, e2]

theorem rep_map (hg : GlobOk C g) (hi : Inv Pr g sl B a.tmps.toList w) (x : Option Operand) :
    (x.map (ev C sl) = none ∧ x.map a.eval = none) ∨ ∃ y z, x.map (ev C sl) = some y ∧ x.map a.eval = some z ∧ Rep g y z := by
  cases x with
  | none => exact .inl ⟨rfl, rfl⟩
  | some x => exact .inr ⟨_, _, rfl, rfl, by rw [eval_evR]; exact ev_rep hg hi.rep x⟩

theorem flatC_cut {sz : Nat} : ∀ {xs : List VV}, (∀ x ∈ xs, x.cells.length = sz) → ∀ l k, flatC ((xs.drop l).take k) = ((flatC xs).drop (l * sz)).take (k * sz)
  | [], _, l, k => by simp [flatC]
  | x :: xs, h, 0, 0 => by simp [flatC]
  | x :: xs, h, 0, k + 1 => by
    have ih := flatC_cut (xs := xs) (fun y hy => h y (by simp [hy])) 0 k
    simp only [List.drop_zero, Nat.zero_mul] at ih ⊢
    simp only [flatC, List.take_succ_cons, List.flatMap_cons] at ih ⊢
    rw [ih, show (k + 1) * sz = x.cells.length + k * sz by rw [h x (by simp), Nat.add_mul]; omega, List.take_length_add_append]
  | x :: xs, h, l + 1, k => by
    have ih := flatC_cut (xs := xs) (fun y hy => h y (by simp [hy])) l k
    simp only [List.drop_succ_cons]
    rw [ih]
    simp only [flatC, List.flatMap_cons]
    rw [show (l + 1) * sz = x.cells.length + l * sz by rw [h x (by simp), Nat.add_mul]; omega, ← List.drop_drop, List.drop_left]

theorem slice_ok (hg : GlobOk C g) (hi : Inv Pr g sl B a.tmps.toList w) {t : TypeId} {x : Operand} {lo hi' mx : Option Operand} (ho : o.op = .slice t x lo hi' mx) (h : vop C f o sl B = some (v, sl', B')) : OpOk C Pr o g B.length sl' v B' a w := by
  simp only [vop, ho] at h
  split at h <;> first | (cases h; done) | skip
  split at h <;> first | (cases h; done) | skip
  rename_i r hr
  simp only [Option.some.injEq, Prod.mk.injEq] at h
  obtain ⟨rfl, rfl, rfl⟩ := h
  have hrep := ev_rep hg hi.rep x
  have hok := ev_ok (C := C) hi.ok x
  unfold vslice at hr
  split at hr <;> first | (cases hr; done) | skip
  · rename_i s hx
    split at hr <;> first | (cases hr; done) | skip
    rename_i hb hhb
    split at hr <;> first | (cases hr; done) | skip
    rename_i lb hlb
    split at hr <;> first | (cases hr; done) | skip
    rename_i hs
    obtain rfl := Option.some.inj hr
    have hx' := ev_lit hg hi hx
    obtain ⟨h1, h2, h3⟩ := sliceBounds_run (C := C) (w := w) hhb hlb (Nat.le_refl _) (rep_map hg hi lo) (rep_map hg hi hi') false
    refine OpOk.pure hi (u := .string (s.extract lb hb)) ?_ ⟨rfl, rfl⟩ rfl rfl
    have hu := strT_spec hs
    simp only [execOp, ho, Option.map_none, eval_evR a x, hx', Instr.sliceAt, Sem.run_bind, run_underlying hu, Result.andThen_ok, Instr.slice, Option.isSome_none, Bool.false_eq_true, if_false, Sem.run_pure, h1]
  · rename_i fl xs hx
    split at hr <;> first | (cases hr; done) | skip
    rename_i hb hhb
    split at hr <;> first | (cases hr; done) | skip
    rename_i lb hlb
    split at hr <;> first | (cases hr; done) | skip
    rename_i e he
    split at hr <;> first | (cases hr; done) | skip
    rename_i hhd
    obtain rfl := Option.some.inj hr
    obtain ⟨hu, hne⟩ := elemT_spec he
    rw [hx] at hrep
    have hv := RepSl_view (show RepSl g fl xs _ from hrep)
    have hbl : hb ≤ xs.length := (sliceBounds_run (C := C) (w := w) (cap := xs.length) hhb hlb (Nat.le_refl _) (rep_map hg hi lo) (rep_map hg hi hi') false).2.2
    cases hxs : xs with
    | nil =>
      subst hxs
      obtain ⟨b, c, hbc⟩ := hv
      obtain ⟨h1, h2, h3⟩ := sliceBounds_run (C := C) (w := w) (cap := c) hhb hlb (Nat.zero_le _) (rep_map hg hi lo) (rep_map hg hi hi') true
      have : hb = 0 := by simpa using hbl
      subst this
      have : lb = 0 := by omega
      subst this
      refine OpOk.pure hi (u := .slice (if c = 0 then b else b.map (·.add (0 * szT C.P e))) (0 - 0) (c - 0)) ?_ (by show RepSl g .view [] _; exact ⟨_, _, rfl⟩) rfl rfl
      simp only [execOp, ho, Option.map_none, eval_evR a x, hbc, Instr.sliceAt, Sem.run_bind, run_underlying hu, Result.andThen_ok, Instr.slice, List.length_nil] at h1 ⊢
      simp only [h1, Result.andThen_ok, sizeOf_run (w := w) hne, Sem.run_pure]
    | cons y ys =>
      rw [← hxs]
      have hv' : ∃ B off c com sz, evR a.tmps.toList x = .slice (some ⟨B, off, none⟩) xs.length c ∧ xs.length ≤ c ∧ g.comm B = some com ∧ 0 < sz ∧ (∀ x ∈ xs, x.cells.length = sz) ∧
          off + xs.length * sz ≤ com.cs.length ∧ (com.cs.drop off).take (xs.length * sz) = flatC xs ∧ ∀ c ∈ flatC xs, c ≠ .gone := by
        rw [hxs] at hv ⊢
        obtain ⟨b, off, c, com, sz, h1, h2, h3, h4, h5, h6, h7, _, h9⟩ := hv
        exact ⟨b, off, c, com, sz, h1, h2, h3, h4, h5, h6, h7, h9⟩
      obtain ⟨b, off, c, com, sz, hbc, hc, hcom, hsz, huni, hlen, hwin, hng⟩ := hv'
      have hszt : sz = szT C.P e := by
        have := huni y (by rw [hxs]; simp)
        rw [hxs] at hhd
        simp only [headOk, beq_iff_eq] at hhd
        omega
      obtain ⟨h1, h2, h3⟩ := sliceBounds_run (C := C) (w := w) (cap := c) hhb hlb hc (rep_map hg hi lo) (rep_map hg hi hi') true
      refine OpOk.pure hi (u := .slice (if c = lb then some ⟨b, off, none⟩ else some ⟨b, off + lb * szT C.P e, none⟩) (hb - lb) (c - lb)) ?_ ?_ rfl rfl
      · simp only [execOp, ho, Option.map_none, eval_evR a x, hbc, Instr.sliceAt, Sem.run_bind, run_underlying hu, Result.andThen_ok, Instr.slice, h1, sizeOf_run (w := w) hne, Sem.run_pure, Option.map_some, Addr_add']
      · show RepSl g .view _ _
        have hl1 : ((xs.drop lb).take (hb - lb)).length = hb - lb := by simp; omega
        cases hys : (xs.drop lb).take (hb - lb) with
        | nil =>
          rw [hys] at hl1
          simp only [List.length_nil] at hl1
          rw [← hl1]
          exact ⟨_, _, rfl⟩
        | cons z zs =>
          have hpos : 0 < hb - lb := by rw [← hl1, hys]; simp
          have hcne : c ≠ lb := by omega
          rw [if_neg hcne]
          rw [hys] at hl1
          refine ⟨b, off + lb * szT C.P e, c - lb, com, sz, by rw [hl1], by rw [hl1]; omega, hcom, hsz, ?_, ?_, ?_, (fun h => by cases h), ng_sub hng fun q hq => List.mem_of_mem_drop (List.mem_of_mem_take (by rw [hys]; exact hq))⟩
          · intro q hq
            rw [← hys] at hq
            exact huni q (List.mem_of_mem_drop (List.mem_of_mem_take hq))
          · rw [hl1, ← hszt]
            have : hb * sz ≤ xs.length * sz := Nat.mul_le_mul_right _ h3
            have e3 : hb * sz = lb * sz + (hb - lb) * sz := by rw [← Nat.add_mul]; congr 1; omega
            omega
          · rw [hl1, ← hys, flatC_cut huni, ← hszt]
            refine window_window hwin ?_
            rw [← Nat.add_mul]
            exact Nat.mul_le_mul_right _ (by omega)
  · rename_i id ag sz off n hx
    split at hr <;> first | (cases hr; done) | skip
    rename_i hb hhb
    split at hr <;> first | (cases hr; done) | skip
    rename_i lb hlb
    split at hr <;> first | (cases hr; done) | skip
    rename_i e he
    split at hr <;> first | (cases hr; done) | skip
    rename_i hsz
    obtain ⟨hu, hne⟩ := elemT_spec he
    rw [hx] at hrep hok
    obtain ⟨c, hbc, hc⟩ := hrep
    obtain ⟨h1, h2, h3⟩ := sliceBounds_run (C := C) (w := w) (cap := c) hhb hlb hc (rep_map hg hi lo) (rep_map hg hi hi') true
    have hrun : (execOp a.eval o).run C.P w = .ok (.value (.slice (if c = lb then some ⟨g.phi id, off * sz, none⟩ else some ⟨g.phi id, off * sz + lb * szT C.P e, none⟩) (hb - lb) (c - lb))) w := by
      simp only [execOp, ho, Option.map_none, eval_evR a x, hbc, Instr.sliceAt, Sem.run_bind, run_underlying hu, Result.andThen_ok, Instr.slice, h1, sizeOf_run (w := w) hne, Sem.run_pure, Option.map_some, Addr_add']
    split at hr
    · rename_i hlt
      obtain rfl := Option.some.inj hr
      refine OpOk.pure hi hrun ?_ hok rfl
      rw [if_neg (by omega)]
      exact ⟨c - lb, by rw [hsz, Nat.add_mul], by omega⟩
    · rename_i hlt
      obtain rfl := Option.some.inj hr
      refine OpOk.pure hi hrun ?_ rfl rfl
      show RepSl g .view [] _
      rw [show hb - lb = 0 by omega]
      exact ⟨_, _, rfl⟩

theorem convert_ok (hg : GlobOk C g) (hi : Inv Pr g sl B a.tmps.toList w) {s d : TypeId} {x : Operand} (ho : o.op = .convert s d x) (hb : ∀ xs, v ≠ .sl .view xs) (hs : ∀ f xs, ev C sl x ≠ .sl f xs) (h : vop C f o sl B = some (v, sl', B')) : OpOk C Pr o g B.length sl' v B' a w := by
  simp only [vop, ho] at h
  split at h <;> first | (cases h; done) | skip
  rename_i r hr
  simp only [Option.some.injEq, Prod.mk.injEq] at h
  obtain ⟨rfl, rfl, rfl⟩ := h
  unfold vconv at hr
  split at hr <;> first | (cases hr; done) | skip
  · rename_i k n hx
    split at hr <;> first | (cases hr; done) | skip
    rename_i k1 h1
    split at hr <;> first | (cases hr; done) | skip
    rename_i k2 h2
    obtain rfl := Option.some.inj hr
    have hx' := ev_lit hg hi hx
    exact OpOk.pure hi (u := .int k2 (k2.wrap n)) (by simp [execOp, ho, eval_evR, hx', convert, run_underlying (intT_spec h1), run_underlying (intT_spec h2), Conv.intToInt]) ⟨rfl, rfl⟩ rfl rfl
  · rename_i t hx
    split at hr <;> first | (cases hr; done) | skip
    rename_i h1
    split at hr
    · rename_i h2
      obtain rfl := Option.some.inj hr
      have hx' := ev_lit hg hi hx
      exact OpOk.pure hi (u := .string t) (by simp [execOp, ho, eval_evR, hx', convert, run_underlying (strT_spec h1), run_underlying (strT_spec h2)]) ⟨rfl, rfl⟩ rfl rfl
    · split at hr <;> first | (cases hr; done) | skip
      split at hr <;> first | (cases hr; done) | skip
      split at hr <;> first | (cases hr; done) | skip
      exact absurd (Option.some.inj hr).symm (hb _)
  · rename_i f xs hx
    exact absurd hx (hs f xs)

theorem eqCs_split : ∀ {m l : List CK} {as bs : List VV} {b : Bool}, eqCs (m ++ l) as bs = some b →
    ∃ b1 b2, eqCs m (as.take m.length) (bs.take m.length) = some b1 ∧ eqCs l (as.drop m.length) (bs.drop m.length) = some b2 ∧ b = (b1 && b2)
  | [], l, as, bs, b, h => ⟨true, b, by simp [eqCs], by simpa using h, by simp⟩
  | k :: m, l, [], bs, b, h => by simp only [List.cons_append, eqCs, reduceCtorEq] at h
  | k :: m, l, a :: as, [], b, h => by simp only [List.cons_append, eqCs, reduceCtorEq] at h
  | k :: m, l, a :: as, b' :: bs, b, h => by
    simp only [List.cons_append, eqCs] at h
    split at h <;> first | (cases h; done) | skip
    rename_i x y hx hy
    obtain rfl := Option.some.inj h
    obtain ⟨b1, b2, h1, h2, rfl⟩ := eqCs_split hy
    refine ⟨x && b1, b2, ?_, by simpa using h2, by rw [Bool.and_assoc]⟩
    simp only [List.length_cons, List.take_succ_cons, eqCs, hx, h1]

theorem eqCs_length : ∀ {m : List CK} {as bs : List VV} {b : Bool}, eqCs m as bs = some b → as.length = m.length ∧ bs.length = m.length
  | [], [], [], _, _ => ⟨rfl, rfl⟩
  | [], [], _ :: _, _, h => by simp only [eqCs, reduceCtorEq] at h
  | [], _ :: _, _, _, h => by simp only [eqCs, reduceCtorEq] at h
  | _ :: _, [], _, _, h => by simp only [eqCs, reduceCtorEq] at h
  | _ :: _, _ :: _, [], _, h => by simp only [eqCs, reduceCtorEq] at h
  | k :: m, a :: as, b' :: bs, b, h => by
    simp only [eqCs] at h
    split at h <;> first | (cases h; done) | skip
    rename_i x y hx hy
    have := eqCs_length hy
    simp [this.1, this.2]

/-- Values that are compared cell by cell. -/
theorem eq_run : ∀ (d : Nat) (t : TypeId) (ks : List CK), cellKs C.P d t = some ks → ∀ (cs ds : List VV) (b : Bool), eqCs ks cs ds = some b → ∀ n, d ≤ n →
    (∀ us us' : Array Value, All2 (RepC g) cs us.toList → All2 (RepC g) ds us'.toList → (aggT C.P t = some false ∨ (Op.equalIn n t (.agg us) (.agg us')).run C.P w = .ok b w)) ∧
    (aggT C.P t = some false → ∀ c c' u u', cs = [c] → ds = [c'] → RepC g c u → RepC g c' u' → (Op.equalIn n t u u').run C.P w = .ok b w) ∧ (aggT C.P t = some true ∨ aggT C.P t = some false)
  | 0, t, ks, h, _, _, _, _, _, _ => by simp only [cellKs, reduceCtorEq] at h
  | d + 1, t, ks, h, cs, ds, b, hb, 0, hn => by omega
  | d + 1, t, ks, h, cs, ds, b, hb, n + 1, hn => by
    unfold cellKs at h
    have one : ∀ k, ks = [k] → ∀ c c', cs = [c] → ds = [c'] → eqC k c c' = some b := by
      rintro k rfl c c' rfl rfl
      simp only [eqCs] at hb
      split at hb <;> first | (cases hb; done) | skip
      rename_i x y hx hy
      obtain rfl := Option.some.inj hy
      simpa [hx] using hb
    split at h <;> first | (cases h; done) | skip
    · rename_i hu
      obtain rfl := Option.some.inj h
      have ha : aggT C.P t = some false := by simp only [aggT, hu]
      refine ⟨fun _ _ _ _ => .inl ha, fun _ c c' u u' e1 e2 r1 r2 => ?_, .inr ha⟩
      have := one _ rfl c c' e1 e2
      unfold eqC at this
      split at this <;> first | contradiction | (cases this; done) | skip
      obtain rfl := Option.some.inj this
      obtain ⟨rfl, _⟩ := r1
      obtain ⟨rfl, _⟩ := r2
      exact run_equalIn_bool' w n t _ _ hu
    · rename_i k hu
      obtain rfl := Option.some.inj h
      have ha : aggT C.P t = some false := by simp only [aggT, hu]
      refine ⟨fun _ _ _ _ => .inl ha, fun _ c c' u u' e1 e2 r1 r2 => ?_, .inr ha⟩
      have := one _ rfl c c' e1 e2
      unfold eqC at this
      split at this <;> first | contradiction | (cases this; done) | skip
      split at this <;> first | (cases this; done) | skip
      rename_i hjk
      subst hjk
      obtain rfl := Option.some.inj this
      obtain ⟨rfl, _⟩ := r1
      obtain ⟨rfl, _⟩ := r2
      exact run_equalIn_int w n t _ _ _ _ hu
    · rename_i hu
      obtain rfl := Option.some.inj h
      have ha : aggT C.P t = some false := by simp only [aggT, hu]
      refine ⟨fun _ _ _ _ => .inl ha, fun _ c c' u u' e1 e2 r1 r2 => ?_, .inr ha⟩
      have := one _ rfl c c' e1 e2
      unfold eqC at this
      split at this <;> first | contradiction | (cases this; done) | skip
      obtain rfl := Option.some.inj this
      obtain ⟨rfl, _⟩ := r1
      obtain ⟨rfl, _⟩ := r2
      rw [run_equalIn_string w n t _ _ hu, beq_bytes]
    · rename_i fs hu
      split at h <;> first | (cases h; done) | skip
      rename_i hst
      have hst : C.P.stoodInHeld t = false := by simpa using hst
      have ha : aggT C.P t = some true := by simp only [aggT, hu]
      refine ⟨fun us us' r1 r2 => .inr ?_, fun h0 => (by rw [ha] at h0; cases h0), .inl ha⟩
      have hfo : C.P.fieldsOf t = fs := by simp only [Program.fieldsOf, hu]
      rw [run_equalIn_agg w n t us us' (by rw [hfo]; exact hu) hst, hfo]
      have key : ∀ (l : List Field) (off : Nat) (ks : List CK) (b : Bool), ksF C.P (cellKs C.P d) off l = some ks → eqCs ks (cs.drop off) (ds.drop off) = some b → (Op.eqFields n us us' l).run C.P w = .ok b w := by
        intro l
        induction l with
        | nil =>
          intro off ks b h1 h2
          simp only [ksF, Option.some.injEq] at h1
          subst h1
          have : b = true := by
            generalize cs.drop off = x at h2
            generalize ds.drop off = y at h2
            cases x <;> cases y <;> simp_all [eqCs]
          subst this
          rfl
        | cons f l ih =>
          intro off ks b h1 h2
          unfold ksF at h1
          split at h1 <;> first | (cases h1; done) | skip
          rename_i m hm
          split at h1 <;> first | (cases h1; done) | skip
          rename_i hcond
          simp only [not_or, Decidable.not_not] at hcond
          obtain ⟨hname, hoff, hsz, hne⟩ := hcond
          split at h1 <;> first | (cases h1; done) | skip
          rename_i l' hl'
          obtain rfl := Option.some.inj h1
          obtain ⟨b1, b2, e1, e2, rfl⟩ := eqCs_split h2
          rw [List.drop_drop, List.drop_drop] at e2
          have hrest := ih (off + m.length) l' b2 hl' e2
          have hlen := eqCs_length e1
          have hml : 0 < m.length := List.length_pos_iff.2 hne
          have hlc : off + m.length ≤ cs.length := by have := hlen.1; simp at this; omega
          have hld : off + m.length ≤ ds.length := by have := hlen.2; simp at this; omega
          have hrec := eq_run d f.type m hm ((cs.drop off).take m.length) ((ds.drop off).take m.length) b1 e1 n (by omega)
          have hpart : ∃ z z', (part f.type us f.offset).run C.P w = .ok z w ∧ (part f.type us' f.offset).run C.P w = .ok z' w ∧ (Op.equalIn n f.type z z').run C.P w = .ok b1 w := by
            rcases hrec.2.2 with ha | ha
            · obtain ⟨z, p1, p2, _⟩ := part_run (w := w) (e := f.type) (off := f.offset) (r := .agg ((cs.drop off).take m.length)) (show readAt C.P f.type cs f.offset = _ by simp only [readAt, ha, hsz, hoff]; rw [if_pos ⟨hlc, hml⟩]) r1
              obtain ⟨z', p1', p2', _⟩ := part_run (w := w) (e := f.type) (off := f.offset) (r := .agg ((ds.drop off).take m.length)) (show readAt C.P f.type ds f.offset = _ by simp only [readAt, ha, hsz, hoff]; rw [if_pos ⟨hld, hml⟩]) r2
              obtain ⟨a1, rfl, q1⟩ := p2
              obtain ⟨a2, rfl, q2⟩ := p2'
              refine ⟨_, _, p1, p1', (hrec.1 a1 a2 q1 q2).resolve_left fun h => ?_⟩
              rw [ha] at h; cases h
            · have hone : m.length = 1 := by
                have hd : ∀ d, cellKs C.P d f.type = some m → m.length = 1 := by
                  intro d hd
                  cases d with
                  | zero => simp only [cellKs, reduceCtorEq] at hd
                  | succ d =>
                    unfold cellKs at hd
                    split at hd <;> first | (cases hd; done) | (obtain rfl := Option.some.inj hd; rfl) | skip
                    rename_i fs' hu'
                    simp only [aggT, hu', Option.some.injEq, reduceCtorEq] at ha
                exact hd d hm
              have hc1 : ∃ c, cs[off]? = some c := ⟨_, List.getElem?_eq_getElem (by omega)⟩
              have hc2 : ∃ c, ds[off]? = some c := ⟨_, List.getElem?_eq_getElem (by omega)⟩
              obtain ⟨c, hc⟩ := hc1
              obtain ⟨c', hc'⟩ := hc2
              have hw : ∀ {l : List VV} {c : VV}, l[off]? = some c → (l.drop off).take m.length = [c] := by
                intro l c hc
                obtain ⟨hlt, hz⟩ := List.getElem?_eq_some_iff.1 hc
                rw [hone, List.drop_eq_getElem_cons hlt, hz]; rfl
              obtain ⟨u, hu1, hr1⟩ := r1.get hc
              obtain ⟨u', hu1', hr1'⟩ := r2.get hc'
              have pc : ∀ (us : Array Value) u, us.toList[off]? = some u → (part f.type us f.offset).run C.P w = .ok u w := by
                intro us u hu
                simp only [part, Sem.run_bind, aggT_run ha, Result.andThen_ok, Bool.false_eq_true, if_false]
                rw [hoff, ← Array.getElem?_toList, hu]
                rfl
              exact ⟨u, u', pc us u hu1, pc us' u' hu1', hrec.2.1 ha c c' u u' (hw hc) (hw hc') hr1 hr1'⟩
          obtain ⟨z, z', p1, p2, p3⟩ := hpart
          simp only [Op.eqFields]
          rw [if_pos hname]
          simp only [Sem.run_bind, p1, p2, p3, Result.andThen_ok]
          cases b1 with
          | false => simp
          | true => simpa using hrest
      exact key fs.toList 0 ks b h (by simpa using hb)

theorem binOp_run {op : BinOp} {t : TypeId} {x y r : VV} {u u' : Value} (h : vbin C.P t op x y = some r) (hx : Rep g x u) (hy : Rep g y u') (ex ey : Operand) :
    ∃ z, (do eqGuard op t ex ey u u'; binOp op t u u' : Sem Value).run C.P w = .ok z w ∧ r = .lit z ∧ z.oneCell' = true := by
  unfold vbin at h
  split at h
  · rename_i b c
    obtain ⟨rfl, _⟩ := hx
    obtain ⟨rfl, _⟩ := hy
    split at h
    · rename_i hb
      have hu := boolT_spec hb
      cases op <;> simp only [reduceCtorEq] at h <;> (obtain rfl := Option.some.inj h)
      · refine ⟨.bool (b == c), ?_, rfl, rfl⟩
        rw [show eqGuard .eql t ex ey (.bool b) (.bool c) = Pure.pure () from rfl, show binOp .eql t (.bool b) (.bool c) = (do Pure.pure (.bool (← Op.equalIn (9999 + 1) t (.bool b) (.bool c)))) from rfl]
        simp only [Sem.run_bind, Sem.run_pure, Result.andThen_ok, run_equalIn_bool' w 9999 t b c hu]
      · refine ⟨.bool (!(b == c)), ?_, rfl, rfl⟩
        rw [show eqGuard .neq t ex ey (.bool b) (.bool c) = Pure.pure () from rfl, show binOp .neq t (.bool b) (.bool c) = (do Pure.pure (.bool (!(← Op.equalIn (9999 + 1) t (.bool b) (.bool c))))) from rfl]
        simp only [Sem.run_bind, Sem.run_pure, Result.andThen_ok, run_equalIn_bool' w 9999 t b c hu]
    · cases h
  · rename_i c d hne
    obtain ⟨rfl, _⟩ := hx
    obtain ⟨rfl, _⟩ := hy
    split at h
    · rename_i z hz
      obtain rfl := Option.some.inj h
      have := litBin_run (C := C) (w := w) t hz
      refine ⟨z, ?_, rfl, this.2⟩
      have hguard : (eqGuard op t ex ey u u') = pure () := by
        unfold litBin at hz
        split at hz <;> first | (cases op <;> rfl) | cases hz
      rw [hguard]
      simpa using this.1
    · cases h
  · rename_i cs ds
    obtain ⟨us, rfl, hus⟩ := hx
    obtain ⟨us', rfl, hus'⟩ := hy
    split at h <;> first | (cases h; done) | skip
    rename_i ks hks
    unfold eqT at hks
    split at hks <;> first | (cases hks; done) | skip
    rename_i hgd
    simp only [Bool.or_eq_true, not_or, bne_iff_ne, ne_eq, Decidable.not_not] at hgd
    have hag := hgd.2
    have hgd : C.P.eqGuardType C.P.depth t = false := by simpa using hgd.1
    have hnf : ¬ aggT C.P t = some false := by rw [hag]; simp
    split at h <;> first | (cases h; done) | skip
    · rename_i b hb
      obtain rfl := Option.some.inj h
      have := (eq_run (w := w) 6 t ks hks cs ds b hb 10000 (by omega)).1 us us' hus hus' |>.resolve_left hnf
      exact ⟨.bool b, by rw [Sem.run_bind, run_eqGuard_agg w _ t ex ey us us' hgd, Result.andThen_ok, run_eql_struct, this]; rfl, rfl, rfl⟩
    · rename_i b hb
      obtain rfl := Option.some.inj h
      have := (eq_run (w := w) 6 t ks hks cs ds b hb 10000 (by omega)).1 us us' hus hus' |>.resolve_left hnf
      exact ⟨.bool (!b), by rw [Sem.run_bind, run_eqGuard_agg w _ t ex ey us us' hgd, Result.andThen_ok, run_neq_struct, this]; rfl, rfl, rfl⟩
  · cases h

theorem binOp_ok (hg : GlobOk C g) (hi : Inv Pr g sl B a.tmps.toList w) {op : BinOp} {t t' : TypeId} {x y : Operand} (ho : o.op = .binOp op t x y t') (h : vop C f o sl B = some (v, sl', B')) : OpOk C Pr o g B.length sl' v B' a w := by
  simp only [vop, ho] at h
  split at h
  · rename_i r hr
    simp only [Option.some.injEq, Prod.mk.injEq] at h
    obtain ⟨rfl, rfl, rfl⟩ := h
    obtain ⟨z, h1, rfl, h2⟩ := binOp_run (w := w) hr (ev_rep hg hi.rep x) (ev_rep hg hi.rep y) x y
    refine OpOk.pure hi (u := z) ?_ ⟨rfl, h2⟩ rfl rfl
    simp only [execOp, ho, eval_evR] 
    rw [Sem.run_bind, h1]
    rfl
  · cases h


theorem vmin_run {mx : Bool} {t : TypeId} : ∀ {l : List VV} {us : List Value} {x r : VV} {u : Value}, vminL mx x l = some r → Rep g x u → All2 (Rep g) l us →
    ∃ z, (us.foldlM (if mx then Builtin.max2 else Builtin.min2) u).run C.P w = .ok z w ∧ Rep g r z ∧ (l ≠ [] → ∃ k n, r = .lit (.int k n))
  | [], _, x, r, u, h, hx, .nil => by
    obtain rfl := Option.some.inj h
    exact ⟨u, rfl, hx, fun h => absurd rfl h⟩
  | y :: l, _, x, r, u, h, hx, .cons (b := u') (bs := us) hy hl => by
    unfold vminL at h
    split at h <;> first | (cases h; done) | skip
    rename_i z hz
    unfold vmin2 at hz
    split at hz <;> first | (cases hz; done) | skip
    rename_i k p k' q
    obtain rfl := Option.some.inj hz
    obtain ⟨rfl, _⟩ := hx
    obtain ⟨rfl, _⟩ := hy
    obtain ⟨z', h1, h2, h3⟩ := vmin_run (t := t) h (u := .int k (if mx then (if p < q then q else p) else (if q < p then q else p))) ⟨rfl, rfl⟩ hl
    refine ⟨z', ?_, h2, fun _ => ?_⟩
    · simp only [List.foldlM_cons, Sem.run_bind]
      cases mx
      · simp only [Bool.false_eq_true, if_false, Builtin.min2, Sem.run_pure, Result.andThen_ok] at h1 ⊢
        exact h1
      · simp only [if_true, Builtin.max2, Sem.run_pure, Result.andThen_ok] at h1 ⊢
        exact h1
    · cases l with
      | nil => simp only [vminL, Option.some.injEq] at h; exact ⟨_, _, h.symm⟩
      | cons => exact h3 (by simp)

end
end Go.Wv
namespace Go.Wv

/-! cells of values; structs that are put together -/

theorem cntL_append {b : Nat} {vs vs' : List VV} {us us' : List Value} (h : vs.length = us.length) : cntL b (vs ++ vs') (us ++ us') = cntL b vs us + cntL b vs' us' := by
  induction vs generalizing us with
  | nil => cases us with
    | nil => simp [cntL]
    | cons => simp at h
  | cons v vs ih => cases us with
    | nil => simp at h
    | cons u us => simp only [List.cons_append, cntL, ih (by simpa using h)]; omega
theorem cntL_split {b : Nat} {vs : List VV} {us : List Value} (h : vs.length = us.length) (n : Nat) : cntL b (vs.take n) (us.take n) + cntL b (vs.drop n) (us.drop n) = cntL b vs us := by
  have := cntL_append (b := b) (vs := vs.take n) (vs' := vs.drop n) (us := us.take n) (us' := us.drop n) (by simp [h])
  rw [List.take_append_drop, List.take_append_drop] at this
  exact this.symm

def spliceR (us : List Value) (off : Nat) (zs : List Value) : List Value := us.take off ++ zs ++ us.drop (off + zs.length)

theorem All2_splice {g : G} {cs vs : List VV} {us zs : List Value} (h : All2 (RepC g) cs us) (h' : All2 (RepC g) vs zs) (off : Nat) : All2 (RepC g) (splice cs off vs) (spliceR us off zs) := by
  unfold splice spliceR
  rw [h'.length]
  exact ((h.take off).append h').append (h.drop _)
theorem cntL_splice {b : Nat} {cs vs : List VV} {us zs : List Value} (h : cs.length = us.length) (h' : vs.length = zs.length) {off : Nat} (ho : off + vs.length ≤ cs.length) :
    cntL b (splice cs off vs) (spliceR us off zs) + cntL b ((cs.drop off).take vs.length) ((us.drop off).take zs.length) = cntL b cs us + cntL b vs zs := by
  unfold splice spliceR
  rw [cntL_append (by simp; omega), cntL_append (by simp; omega)]
  have e1 := cntL_split (b := b) h off
  have e2 := cntL_split (b := b) (vs := cs.drop off) (us := us.drop off) (by simp [h]) vs.length
  rw [List.drop_drop, List.drop_drop] at e2
  rw [← h']
  omega
theorem length_splice {cs vs : List VV} {off : Nat} (ho : off + vs.length ≤ cs.length) : (splice cs off vs).length = cs.length := by
  unfold splice; simp; omega
theorem length_spliceR {us zs : List Value} {off : Nat} (ho : off + zs.length ≤ us.length) : (spliceR us off zs).length = us.length := by
  unfold spliceR; simp; omega
theorem all_splice {p : VV → Bool} {cs vs : List VV} (h : cs.all p = true) (h' : vs.all p = true) (off : Nat) : (splice cs off vs).all p = true := by
  unfold splice
  refine List.all_eq_true.2 fun x hx => ?_
  simp only [List.mem_append] at hx
  rcases hx with (hx | hx) | hx
  · exact List.all_eq_true.1 h x (List.mem_of_mem_take hx)
  · exact List.all_eq_true.1 h' x hx
  · exact List.all_eq_true.1 h x (List.mem_of_mem_drop hx)

theorem RepSl_one {g : G} {f : Fl} {xs : List VV} {z : Value} (h : RepSl g f xs z) : z.oneCell' = true := by
  cases xs with
  | nil => cases f with
    | own => rw [show z = _ from h]; rfl
    | view => obtain ⟨_, _, e⟩ := h; rw [e]; rfl
  | cons x xs => obtain ⟨_, _, _, _, _, e, _⟩ := h; rw [e]; rfl
theorem RepC_one {g : G} {c : VV} {z : Value} (h : RepC g c z) : z.oneCell' = true := by
  cases c with
  | lit v => rw [h.1]; exact h.2
  | sl f xs => exact RepSl_one h
  | mref => obtain ⟨c, e, _⟩ := h; rw [e]; rfl
  | ptr => rw [show z = _ from h]; rfl
  | elp => obtain ⟨_, _, _, _, e, _⟩ := h; rw [e]; rfl
  | clo => obtain ⟨_, _, e, _⟩ := h; rw [e]; rfl
  | agg => exact h.elim
  | tup => exact h.elim
  | gone => exact h.elim

/-- the cells of a value that may lie in memory -/
theorem cells_rep {g : G} {v : VV} {u : Value} (h : Rep g v u) (hv : isVal v = true) : All2 (RepC g) v.cells u.cells.toList ∧ (∀ b, cntL b v.cells u.cells.toList = cnt b v u) := by
  by_cases ha : ∃ cs, v = .agg cs
  · obtain ⟨cs, rfl⟩ := ha
    obtain ⟨us, rfl, h⟩ := h
    exact ⟨h, fun b => rfl⟩
  · have hc : RepC g v u := Rep_cell h (by rintro vs rfl; cases hv) (fun cs e => ha ⟨cs, e⟩) (by rintro rfl; cases hv)
    have hcell : v.cells = [v] := by cases v <;> first | rfl | exact absurd ⟨_, rfl⟩ ha
    have hu : u.cells = #[u] := by
      have h1 := RepC_one hc
      cases u <;> first | rfl | cases h1
    rw [hcell, hu]
    refine ⟨.cons hc .nil, fun b => ?_⟩
    have : cnt b v u = cntC b v u := by
      have hnt : ¬ ∃ vs, v = .tup vs := by rintro ⟨vs, rfl⟩; cases hv
      rw [cnt_eq hnt]
      cases v <;> first | rfl | exact absurd ⟨_, rfl⟩ ha
    rw [this]
    simp [cntL]
theorem cells_ok {n : Nat} {v : VV} (h : okR n v = true) (hv : isVal v = true) : v.cells.all (okC n) = true := by
  cases v <;> first | exact h | (simp only [VV.cells, List.all_cons, List.all_nil, Bool.and_true]; exact h) | cases hv
theorem All2_one {g : G} {cs : List VV} {us : List Value} (h : All2 (RepC g) cs us) : ∀ z ∈ us, z.oneCell' = true := by
  induction h with
  | nil => intro z hz; cases hz
  | cons h _ ih =>
    intro z hz
    rcases List.mem_cons.1 hz with rfl | hz
    · exact RepC_one h
    · exact ih z hz

theorem spliceR_cons {us : List Value} {z : Value} {zs : List Value} {p : Nat} (h : p + 1 + zs.length ≤ us.length) : spliceR (us.set p z) (p + 1) zs = spliceR us p (z :: zs) := by
  unfold spliceR
  rw [List.set_eq_take_append_cons_drop, if_pos (by omega)]
  have h1 : (us.take p).length = p := by simp; omega
  have e1 : (us.take p ++ z :: us.drop (p + 1)).take (p + 1) = us.take p ++ [z] := by
    rw [List.take_append, h1, List.take_of_length_le (by omega), show p + 1 - p = 1 by omega]
    rfl
  have e2 : (us.take p ++ z :: us.drop (p + 1)).drop (p + 1 + zs.length) = us.drop (p + (z :: zs).length) := by
    rw [List.drop_append, h1, List.drop_of_length_le (by omega), List.nil_append, show p + 1 + zs.length - p = zs.length + 1 by omega, List.drop_succ_cons, List.drop_drop, List.length_cons]
    congr 1; omega
  rw [e1, e2]
  simp

theorem fold_splice (off : Nat) : ∀ (zs : List Value) (k : Nat) (us : Array Value), off + k + zs.length ≤ us.size →
    ((zs.zipIdx k).foldl (fun cs (p : Value × Nat) => cs.setIfInBounds (off + p.2) p.1) us).toList = spliceR us.toList (off + k) zs
  | [], k, us, _ => by simp [spliceR]
  | z :: zs, k, us, h => by
    simp only [List.length_cons] at h
    simp only [List.zipIdx_cons, List.foldl_cons]
    rw [fold_splice off zs (k + 1) _ (by simp; omega), Array.toList_setIfInBounds, show off + (k + 1) = off + k + 1 by omega]
    exact spliceR_cons (by simp; omega)

theorem fill_step (off : Nat) (u : Value) (us : Array Value) (h : off + u.cells.size ≤ us.size) :
    (u.cells.zipIdx.foldl (fun cs (c, j) => cs.setIfInBounds (off + j) c) us).toList = spliceR us.toList off u.cells.toList := by
  rw [← Array.foldl_toList, Array.toList_zipIdx]
  exact fold_splice off u.cells.toList 0 us (by simpa using h)

/-- what becomes of a struct's cells when parts are filled in -/
theorem fillS_run {P : Program} {g : G} {t : TypeId} {place : Nat → Option (Nat × Nat)}
    (hpl : ∀ i off sz, (match arrT P t with | some (n, e) => if i < n then some (i * szT P e, szT P e) else none | none => fldT P t i) = some (off, sz) → place i = some (off, sz)) :
    ∀ (ps : List (Nat × VV)) (qs : List (Nat × Value)) (cs cs' : List VV) (us : Array Value), fillS P t cs ps = some cs' → All2 (fun (p : Nat × VV) (q : Nat × Value) => p.1 = q.1 ∧ Rep g p.2 q.2) ps qs → All2 (RepC g) cs us.toList →
      ∃ us', Instr.fill place us qs = some us' ∧ All2 (RepC g) cs' us'.toList ∧ cs'.length = cs.length ∧ (∀ b, cntL b cs' us'.toList ≤ cntL b cs us.toList + cntS b (ps.map (·.2)) (qs.map (·.2))) ∧
        ∀ n, cs.all (okC n) = true → okRs n (ps.map (·.2)) = true → cs'.all (okC n) = true
  | [], _, cs, cs', us, h, .nil, h2 => by
    obtain rfl := Option.some.inj h
    exact ⟨us, rfl, h2, rfl, fun b => by simp [cntS], fun n h _ => h⟩
  | (i, v) :: ps, _, cs, cs', us, h, .cons (b := (j, u)) (bs := qs) ⟨hij, hr⟩ hl, h2 => by
    simp only at hij hr
    subst hij
    unfold fillS at h
    split at h <;> first | (cases h; done) | skip
    rename_i off sz hp
    split at h <;> first | (cases h; done) | skip
    rename_i hc
    obtain ⟨hv, hsz, hle⟩ := hc
    obtain ⟨h3, h4⟩ := cells_rep hr hv
    have hl3 := h3.length
    have hl2 := h2.length
    simp only [Array.length_toList] at hl3 hl2
    have hle' : off + u.cells.size ≤ us.size := by omega
    have hstep := fill_step off u us hle'
    have h5 : All2 (RepC g) (splice cs off v.cells) (u.cells.zipIdx.foldl (fun cs (c, j) => cs.setIfInBounds (off + j) c) us).toList := by
      rw [hstep]; exact All2_splice h2 h3 off
    obtain ⟨us', e1, e2, e3, e4, e5⟩ := fillS_run hpl ps qs _ cs' _ h hl h5
    refine ⟨us', ?_, e2, by rw [e3, length_splice (by omega)], ?_, ?_⟩
    · simp only [Instr.fill, hpl i off sz hp]
      rw [if_neg (by simp; omega)]
      exact e1
    · intro b
      have := e4 b
      rw [hstep] at this
      have c1 := cntL_splice (b := b) h2.length h3.length (off := off) (by omega)
      simp only [List.map_cons, cntS]
      rw [h4 b] at c1
      omega
    · intro n hn hps
      simp only [List.map_cons, okRs, List.all_cons, Bool.and_eq_true] at hps
      exact e5 n (all_splice hn (cells_ok hps.1 hv) off) hps.2

end Go.Wv
namespace Go.Wv

section
variable {C : Cfg} {Pr : Nat → Prop} {f : FuncId} {o : Oper} {g : G} {sl sl' : List VV} {B B' : List Blk} {a : Act} {w : World} {v : VV}

theorem trL_ok (hg : GlobOk C g) {tm : List Value} : ∀ {xs : List Operand} {sl sl' : List VV} {vs : List VV}, Inv Pr g sl B tm w → trL C sl xs = (vs, sl') →
    All2 (Rep g) vs (xs.map (evR tm)) ∧ okRs B.length vs = true ∧ All2 (Rep g) sl' tm ∧ okRs B.length sl' = true ∧ ∀ b, cntS b sl' tm + cntS b vs (xs.map (evR tm)) ≤ cntS b sl tm
  | [], sl, sl', vs, hi, h => by
    obtain ⟨rfl, rfl⟩ := Prod.mk.inj h
    exact ⟨.nil, rfl, hi.rep, hi.ok, fun b => by simp [cntS]⟩
  | x :: xs, sl, sl', vs, hi, h => by
    simp only [trL] at h
    obtain ⟨rfl, rfl⟩ := Prod.mk.inj h
    obtain ⟨h1, h2, h3, h4, h5⟩ := tr_ok hg hi (x := x) (v := (tr C sl x).1) (sl' := (tr C sl x).2) rfl
    have hi' : Inv Pr g (tr C sl x).2 B tm w := hi.change h3 h4 fun b => by have := h5 b; omega
    obtain ⟨k1, k2, k3, k4, k5⟩ := trL_ok hg (xs := xs) hi' (vs := (trL C (tr C sl x).2 xs).1) (sl' := (trL C (tr C sl x).2 xs).2) rfl
    refine ⟨.cons h1 k1, ?_, k3, k4, fun b => ?_⟩
    · simp only [okRs, List.all_cons, Bool.and_eq_true] at k2 ⊢
      exact ⟨h2, k2⟩
    · have := h5 b
      have := k5 b
      simp only [List.map_cons, cntS]
      omega

theorem zeroT_spec {P : Program} {t : TypeId} {z : VV} (h : zeroT P t = some z) : ∃ i zv, P.info? t = some i ∧ i.zero = some zv ∧ z = ofV zv := by
  unfold zeroT at h
  cases hi : P.info? t with
  | none => simp [hi] at h
  | some i =>
    cases hz : i.zero with
    | none => simp [hi, hz] at h
    | some zv => simp [hi, hz] at h; exact ⟨i, zv, rfl, hz, h.symm⟩

theorem zero_cells {g : G} {zv : Value} (h : isVal0 (ofV zv) = true) : All2 (RepC g) (ofV zv).cells zv.cells.toList ∧ (∀ b, cntL b (ofV zv).cells zv.cells.toList = 0) ∧ ∀ n, (ofV zv).cells.all (okC n) = true := by
  have hv : isVal (ofV zv) = true := by
    have := ofV_tup zv
    generalize ofV zv = x at *
    cases x <;> first | rfl | (cases h; done) | exact (this ⟨_, rfl⟩).elim
  obtain ⟨h1, h2⟩ := cells_rep (ofV_rep g zv) hv
  refine ⟨h1, fun b => by rw [h2 b, cnt_zero (ofV_own zv)], fun n => cells_ok ?_ hv⟩
  rw [okR_eq (ofV_tup zv)]
  exact ofV_ok n zv

theorem ownZ_cells {g : G} (ks : Option (List Nat)) {cs : List VV} {us : List Value} (h1 : All2 (RepC g) cs us) (h2 : ∀ b, cntL b cs us = 0) (h3 : ∀ n, cs.all (okC n) = true) :
    All2 (RepC g) (ownZ ks cs) us ∧ (∀ b, cntL b (ownZ ks cs) us = 0) ∧ ∀ n, (ownZ ks cs).all (okC n) = true := by
  cases ks with
  | none => exact ⟨h1, h2, h3⟩
  | some ks =>
    have key : ∀ {cs : List VV} {us : List Value} (p : Nat → Bool), All2 (RepC g) cs us → All2 (RepC g) (cs.mapIdx fun i c => if p i = true then c else viewC c) us := by
      intro cs us p h
      induction h generalizing p with
      | nil => exact .nil
      | cons h _ ih =>
        rw [List.mapIdx_cons]
        refine .cons ?_ (ih (fun i => p (i + 1)))
        split
        · exact h
        · exact RepC_viewC h
    have kcnt : ∀ {cs : List VV} {us : List Value} (p : Nat → Bool) (b : Nat), cntL b (cs.mapIdx fun i c => if p i = true then c else viewC c) us ≤ cntL b cs us := by
      intro cs
      induction cs with
      | nil => intro us p b; exact Nat.le_refl _
      | cons c cs ih =>
        intro us p b
        cases us with
        | nil => rw [List.mapIdx_cons]; exact Nat.le_refl _
        | cons u us =>
          rw [List.mapIdx_cons]
          have := ih (us := us) (fun i => p (i + 1)) b
          simp only [cntL]
          split
          · omega
          · rw [cntC_zero (ownC_viewC c)]; omega
    refine ⟨key (fun i => ks.contains i) h1, fun b => ?_, fun n => ?_⟩
    · have := kcnt (cs := cs) (us := us) (fun i => ks.contains i) b
      have := h2 b
      show cntL b (cs.mapIdx fun i c => if ks.contains i = true then c else viewC c) us = 0
      omega
    · refine List.all_eq_true.2 fun x hx => ?_
      have hx : x ∈ cs.mapIdx fun i c => if ks.contains i = true then c else viewC c := hx
      obtain ⟨i, hi, rfl⟩ := List.mem_mapIdx.1 hx
      have h0 := List.all_eq_true.1 (h3 n) _ (List.getElem_mem hi)
      split
      · exact h0
      · exact okC_viewC h0
theorem built_of {P : Program} {t : TypeId} {z : VV} {ps : List (Nat × VV)} {qs : List (Nat × Value)} {cs' : List VV} {own : Option (List Nat)} (hz : zeroT P t = some z) (hf : fldsT P t = true) (hv : isVal0 z = true)
    (h : fillS P t (ownZ own z.cells) ps = some cs') (h2 : All2 (fun (p : Nat × VV) (q : Nat × Value) => p.1 = q.1 ∧ Rep g p.2 q.2) ps qs) :
    ∃ us', P.built t qs = some us' ∧ All2 (RepC g) cs' us'.toList ∧ (∀ b, cntL b cs' us'.toList ≤ cntS b (ps.map (·.2)) (qs.map (·.2))) ∧ ∀ n, okRs n (ps.map (·.2)) = true → cs'.all (okC n) = true := by
  obtain ⟨i, zv, hi, hzv, rfl⟩ := zeroT_spec hz
  obtain ⟨y1, y2, y3⟩ := zero_cells (g := g) hv
  obtain ⟨z1, z2, z3⟩ := ownZ_cells own y1 y2 y3
  unfold fldsT at hf
  split at hf <;> first | (cases hf; done) | skip
  · rename_i fs hu
    have hplaces : fs.toList.mapM (fun f => (P.info? f.type).map fun i => (f.offset, i.size)) = some (fs.toList.map fun f => (f.offset, szT P f.type)) := by
      rw [← Array.all_toList] at hf
      revert hf
      generalize fs.toList = l
      induction l with
      | nil => intro _; rfl
      | cons x l ih =>
        intro hl
        simp only [List.all_cons, Bool.and_eq_true] at hl
        obtain ⟨ix, hix⟩ := Option.isSome_iff_exists.1 hl.1
        simp [List.mapM_cons, hix, ih hl.2, szT]
    obtain ⟨us', e1, e2, _, e4, e5⟩ := fillS_run (P := P) (g := g) (t := t) (place := fun x => (fs.toList.map fun f => (f.offset, szT P f.type)).toArray[x]?) (fun j off sz hp => by
      have ha : arrT P t = none := by unfold arrT; rw [hu]
      rw [ha] at hp
      simp only at hp
      obtain ⟨fs', x, k1, k2, k3, k4, _⟩ := fldT_spec hp
      rw [hu] at k1
      obtain rfl := (TypeDesc.struct.inj (Option.some.inj k1))
      simp [k2, k3, k4]) ps qs _ cs' zv.cells h h2 z1
    refine ⟨us', ?_, e2, fun b => by have := e4 b; rw [z2 b] at this; omega, fun n hn => e5 n (z3 n) hn⟩
    unfold Program.built
    simp only [hi, hu, hzv, hplaces]
    exact e1
  · rename_i m e hu
    have hne : szT P e ≠ 0 := by simpa using hf
    obtain ⟨ie, hie, hse⟩ := szT_info hne
    obtain ⟨us', e1, e2, _, e4, e5⟩ := fillS_run (P := P) (g := g) (t := t) (place := fun x => some (x * szT P e, szT P e)) (fun j off sz hp => by
      have ha : arrT P t = some (m, e) := by unfold arrT; rw [hu]; simp [hne]
      rw [ha] at hp
      simp only at hp
      split at hp <;> first | (cases hp; done) | exact hp) ps qs _ cs' zv.cells h h2 z1
    refine ⟨us', ?_, e2, fun b => by have := e4 b; rw [z2 b] at this; omega, fun n hn => e5 n (z3 n) hn⟩
    unfold Program.built
    simp only [hi, hu, hzv, hie, hse]
    exact e1

theorem zip_parts {tm : List Value} : ∀ (l : List (Nat × Operand)) (vs : List VV), All2 (Rep g) vs ((l.map (·.2)).map (evR tm)) →
    All2 (fun (p : Nat × VV) (q : Nat × Value) => p.1 = q.1 ∧ Rep g p.2 q.2) ((l.map (·.1)).zip vs) (l.map fun p => (p.1, evR tm p.2))
  | [], _, .nil => .nil
  | p :: l, _, .cons q1 q2 => .cons ⟨rfl, q1⟩ (zip_parts l _ q2)

theorem build_ok (hg : GlobOk C g) (hi : Inv Pr g sl B a.tmps.toList w) {t : TypeId} {parts : Array (Nat × Operand)} (ho : o.op = .build t parts) (h : vop C f o sl B = some (v, sl', B')) : OpOk C Pr o g B.length sl' v B' a w := by
  simp only [vop, ho] at h
  split at h <;> first | (cases h; done) | skip
  rename_i z hz
  have key : ∀ (vs : List VV) (sl1 : List VV), vs.length = parts.toList.length → All2 (Rep g) vs ((parts.toList.map (·.2)).map (evR a.tmps.toList)) → okRs B.length vs = true → All2 (Rep g) sl1 a.tmps.toList → okRs B.length sl1 = true →
      (∀ b, cntS b sl1 a.tmps.toList + cntS b vs ((parts.toList.map (·.2)).map (evR a.tmps.toList)) ≤ cntS b sl a.tmps.toList) →
      (if fldsT C.P t = true ∧ isVal0 z = true then
        match fillS C.P t (ownZ (C.own0 t) z.cells) ((parts.toList.map (·.1)).zip vs) with
        | some cs => some (VV.agg cs, sl1, B)
        | none => none
      else none) = some (v, sl', B') → OpOk C Pr o g B.length sl' v B' a w := by
    intro vs sl1 hlen hvs hok hs1 hs2 hcnt h
    split at h <;> first | (cases h; done) | skip
    rename_i hc
    split at h <;> first | (cases h; done) | skip
    rename_i cs hcs
    simp only [Option.some.injEq, Prod.mk.injEq] at h
    obtain ⟨rfl, rfl, rfl⟩ := h
    have h2 := zip_parts parts.toList vs hvs
    have hm : ((parts.toList.map (·.1)).zip vs).map (·.2) = vs := by
      rw [← List.unzip_snd, List.unzip_zip_right]
      simp [hlen]
    obtain ⟨us', e1, e2, e3, e4⟩ := built_of (g := g) hz hc.1 hc.2 hcs h2
    rw [hm] at e3 e4
    have hq : (parts.toList.map fun p => (p.1, evR a.tmps.toList p.2)).map (·.2) = (parts.toList.map (·.2)).map (evR a.tmps.toList) := by simp
    rw [hq] at e3
    refine ⟨_, .agg us', w, g, ?_, .inl rfl, Ext.refl _ _ _ _, hi.change (All2_put hs1 (show Rep g (.agg cs) (.agg us') from ⟨us', rfl, e2⟩) o.dst) (okRs_put hs2 (show okR B.length (.agg cs) = true from e4 _ hok) o.dst) fun b => ?_⟩
    · have hp : (parts.map fun (i, x) => (i, a.eval x)).toList = parts.toList.map fun p => (p.1, evR a.tmps.toList p.2) := by
        simp [eval_evR]
      simp only [execOp, ho, Sem.run_bind, run_build w t _ us' (by rw [hp]; exact e1), Result.andThen_ok, Sem.run_pure]
    · have c1 := cntS_put (b := b) hs1.length (.agg cs) (.agg us') o.dst
      have c2 := e3 b
      have c3 := hcnt b
      simp only [cnt, cntV] at c1
      omega
  by_cases ht : (o.dst.map (C.take f)).getD false = true
  · rw [if_pos ht] at h
    obtain ⟨k1, k2, k3, k4, k5⟩ := trL_ok hg hi (xs := parts.toList.map (·.2)) (vs := (trL C sl (parts.toList.map (·.2))).1) (sl' := (trL C sl (parts.toList.map (·.2))).2) rfl
    exact key _ _ (by have := k1.length; simpa using this) k1 k2 k3 k4 k5 h
  · rw [if_neg ht] at h
    refine key (parts.toList.map fun p => toView (ev C sl p.2)) sl (by simp) ?_ ?_ hi.rep hi.ok ?_ h
    · generalize parts.toList = l
      induction l with
      | nil => exact .nil
      | cons p l ih => exact .cons (Rep_toView (ev_rep hg hi.rep p.2)) ih
    · refine List.all_eq_true.2 fun x hx => ?_
      obtain ⟨p, _, rfl⟩ := List.mem_map.1 hx
      exact okR_toView (ev_ok hi.ok p.2)
    · intro b
      have : ∀ l : List (Nat × Operand), cntS b (l.map fun p => toView (ev C sl p.2)) ((l.map (·.2)).map (evR a.tmps.toList)) = 0 := by
        intro l
        induction l with
        | nil => rfl
        | cons p l ih => simp only [List.map_cons, cntS, toView_cnt, ih]
      rw [this]
      omega

end
end Go.Wv
namespace Go.Wv

theorem heap_lt {w : World} {b : Nat} {o : Obj} (h : w.heap[b]? = some o) : b < w.heap.size := (Array.getElem?_eq_some_iff.1 h).1
theorem heap_old (w : World) (o : Obj) {b : Nat} (h : b < w.heap.size) : (w.alloc o).heap[b]? = w.heap[b]? := heap_alloc_old w o b h

def G.at (g : G) (n b : Nat) : G := { g with phi := fun i => if i = n then b else g.phi i }
theorem G.at_phi {g : G} {n b i : Nat} (h : i < n) : (g.at n b).phi i = g.phi i := by simp only [G.at]; rw [if_neg (by omega)]
theorem G.at_self {g : G} {n b : Nat} : (g.at n b).phi n = b := by simp [G.at]

section
variable {Pr : Nat → Prop} {g g' : G} {sl : List VV} {B : List Blk} {tm : List Value} {w w' : World}

theorem comm_same (h : ∀ b, g'.comm b = g.comm b) : ∀ b com, g.comm b = some com → ∃ com', g'.comm b = some com' ∧ com.cs <+: com'.cs :=
  fun b com hc => ⟨com, by rw [h]; exact hc, List.prefix_refl _⟩

theorem Sto.lt (h : Sto g B w) {b : Nat} {com : Com} (hc : g.comm b = some com) : b < w.heap.size := by
  obtain ⟨arr, T, fz, hh, _⟩ := h.comm b com hc
  exact heap_lt hh
theorem Sto.phi_lt (h : Sto g B w) {id : Nat} {cs : List VV} (hb : B[id]? = some (.var cs)) : g.phi id < w.heap.size := by
  obtain ⟨⟨arr, T, hh, _⟩, _⟩ := h.var id cs hb
  exact heap_lt hh

/-- A comm's cells, told of later. -/
theorem comm_cells {com : Com} {arr : Array Value} (hcomm : ∀ b com, g.comm b = some com → ∃ com', g'.comm b = some com' ∧ com.cs <+: com'.cs)
    (h : ∀ (j : Nat) c, com.cs[j]? = some c → c ≠ .gone → ∃ u, arr[j]? = some u ∧ RepC g c u ∧ ownC c = false ∧ okC 0 c = true) :
    ∀ (j : Nat) c, com.cs[j]? = some c → c ≠ .gone → ∃ u, arr[j]? = some u ∧ RepC g' c u ∧ ownC c = false ∧ okC 0 c = true := by
  intro j c hc hn
  obtain ⟨u, h1, h2, h3, h4⟩ := h j c hc hn
  exact ⟨u, h1, RepC_ext (n := 0) hcomm (fun i hi => absurd hi (Nat.not_lt_zero i)) (fun b hb => by rw [cntC_zero h3] at hb; omega) h4 h2, h3, h4⟩

theorem get_append_one {x : Blk} {i : Nat} {y : Blk} (h : (B ++ [x])[i]? = some y) : (i < B.length ∧ B[i]? = some y) ∨ (i = B.length ∧ y = x) := by
  rcases Nat.lt_or_ge i B.length with hl | hl
  · rw [List.getElem?_append_left hl] at h; exact .inl ⟨hl, h⟩
  · rw [List.getElem?_append_right hl] at h
    cases hk : i - B.length with
    | zero => rw [hk] at h; simp at h; exact .inr ⟨by omega, h.symm⟩
    | succ k => rw [hk] at h; simp at h

theorem cellsAt_of {w : World} {b : Nat} {arr : Array Value} {T : TypeId} {fz : Nat × Nat} (h : w.heap[b]? = some (.cells arr T fz)) : cellsAt w b = arr.toList := by
  simp only [cellsAt, h]

/-- A new variable. -/
theorem Inv.newVar (h : Inv Pr g sl B tm w) {cs : List VV} {arr : Array Value} (T : TypeId) (hr : All2 (RepC g) cs arr.toList) (ho : cs.all (okC B.length) = true)
    {sl2 : List VV} {tm2 : List Value} (hrep2 : All2 (Rep g) sl2 tm2) (hok2 : okRs B.length sl2 = true) (hcnt : ∀ b, cntS b sl2 tm2 + cntL b cs arr.toList ≤ cntS b sl tm) :
    Ext Pr B.length g w (g.at B.length w.heap.size) (w.alloc (.cells arr T)) ∧ Inv Pr (g.at B.length w.heap.size) sl2 (B ++ [.var cs]) tm2 (w.alloc (.cells arr T)) := by
  have hcomm : ∀ b com, g.comm b = some com → ∃ com', (g.at B.length w.heap.size).comm b = some com' ∧ com.cs <+: com'.cs := comm_same fun _ => rfl
  have hphi : ∀ i, i < B.length → (g.at B.length w.heap.size).phi i = g.phi i := fun i hi => G.at_phi hi
  have hnew : (w.alloc (.cells arr T)).heap[w.heap.size]? = some (.cells arr T) := heap_alloc_new w _
  have hsto : Sto (g.at B.length w.heap.size) (B ++ [.var cs]) (w.alloc (.cells arr T)) := by
    refine ⟨?_, ?_, ?_, ?_⟩
    · intro b com hc
      obtain ⟨ar, T', fz, h1, h2, h3, h4⟩ := h.sto.comm b com hc
      exact ⟨ar, T', fz, by rw [heap_old w _ (heap_lt h1)]; exact h1, h2, comm_cells hcomm h3, h4⟩
    · intro id cs' hb
      rcases get_append_one hb with ⟨hl, hb⟩ | ⟨rfl, hb2⟩
      · obtain ⟨⟨ar, T', h1, h2⟩, h3, h4⟩ := h.sto.var id cs' hb
        rw [hphi id hl]
        exact ⟨⟨ar, T', by rw [heap_old w _ (heap_lt h1)]; exact h1, All2_RepC_ext hcomm (n := id + 1) (fun i hi => hphi i (by omega)) (fun _ _ => rfl) h4 h2⟩, h3, h4⟩
      · obtain rfl := Blk.var.inj hb2
        rw [G.at_self]
        refine ⟨⟨arr, T, hnew, All2_RepC_ext hcomm hphi (fun _ _ => rfl) ho hr⟩, ?_, all_okC_mono (by omega) ho⟩
        cases hc : g.comm w.heap.size with
        | none => exact hc
        | some com => exact absurd (h.sto.lt hc) (Nat.lt_irrefl _)
    · intro id cs' hb
      rcases get_append_one hb with ⟨hl, hb⟩ | ⟨rfl, hb2⟩
      · rw [hphi id hl]; exact h.sto.ro id cs' hb
      · cases hb2
    · intro i j ci cj hbi hbj e
      rcases get_append_one hbi with ⟨hli, hbi⟩ | ⟨rfl, hbi⟩ <;> rcases get_append_one hbj with ⟨hlj, hbj⟩ | ⟨rfl, hbj⟩
      · rw [hphi i hli, hphi j hlj] at e; exact h.sto.inj i j ci cj hbi hbj e
      · rw [hphi i hli, G.at_self] at e; have := h.sto.phi_lt hbi; omega
      · rw [hphi j hlj, G.at_self] at e; have := h.sto.phi_lt hbj; omega
      · rfl
  have hcb : ∀ b, cntB b (g.at B.length w.heap.size) (w.alloc (.cells arr T)) 0 (B ++ [.var cs]) = cntB b g w 0 B + cntL b cs arr.toList := by
    intro b
    rw [cntB_append, Nat.zero_add]
    have e1 : cntB b (g.at B.length w.heap.size) (w.alloc (.cells arr T)) 0 B = cntB b g w 0 B := cntB_congr B 0 fun i cs' hb => by
      have hl : i < B.length := (List.getElem?_eq_some_iff.1 hb).1
      rw [Nat.zero_add, hphi i hl]
      simp only [cellsAt, heap_old w _ (h.sto.phi_lt hb)]
    rw [e1]
    simp only [cntB, G.at_self, cellsAt_of hnew, Nat.add_zero]
  refine ⟨⟨hcomm, fun b hb => ⟨rfl, heap_old w _ (h.prot b hb).1⟩, by simp, hphi, rfl, rfl⟩, ⟨All2_Rep_ext hcomm hphi (fun _ _ => rfl) hok2 hrep2, okRs_mono (by simp) hok2, hsto, ?_, ?_⟩⟩
  · intro b
    have := h.uniq b
    have := hcnt b
    rw [hcb]
    omega
  · intro b hb
    obtain ⟨p1, p2, p3⟩ := h.prot b hb
    refine ⟨by simp; omega, by have := hcnt b; rw [hcb]; omega, ?_⟩
    intro id cs' hbi
    rcases get_append_one hbi with ⟨hl, hbi⟩ | ⟨rfl, hbi⟩
    · rw [hphi id hl]; exact p3 id cs' hbi
    · rw [G.at_self]; omega

theorem RepSl_own {x : VV} {xs : List VV} {a : Addr} {n c : Nat} (h : RepC g (.sl .own (x :: xs)) (.slice (some a) n c)) : ∃ com, g.comm a.block = some com := by
  obtain ⟨B', off, c', com, sz, e, _, h3, _⟩ := h
  cases e
  exact ⟨com, h3⟩

theorem cntC_known {v : VV} {u : Value} {b : Nat} (hv : RepC g v u) (hc : 0 < cntC b v u) : ∃ com, g.comm b = some com := by
  unfold cntC at hc
  split at hc
  · split at hc
    · rename_i e; subst e; exact RepSl_own hv
    · omega
  · omega
theorem cntL_known {vs : List VV} {us : List Value} {b : Nat} (hv : All2 (RepC g) vs us) (hc : 0 < cntL b vs us) : ∃ com, g.comm b = some com := by
  induction hv with
  | nil => simp [cntL] at hc
  | @cons v u vs us hv _ ih =>
    simp only [cntL] at hc
    by_cases h0 : 0 < cntC b v u
    · exact cntC_known hv h0
    · exact ih (by omega)
theorem cntV_known {v : VV} {u : Value} {b : Nat} (hv : RepV g v u) (hc : 0 < cntV b v u) : ∃ com, g.comm b = some com := by
  by_cases ha : ∃ cs, v = .agg cs
  · obtain ⟨cs', rfl⟩ := ha
    obtain ⟨us, rfl, hv⟩ := hv
    exact cntL_known hv hc
  · have e : cntV b v u = cntC b v u := by cases v <;> first | rfl | exact absurd ⟨_, rfl⟩ ha
    rw [e] at hc
    exact cntC_known (by cases v <;> first | exact hv | exact absurd ⟨_, rfl⟩ ha) hc
theorem cntVL_known {vs : List VV} {us : List Value} {b : Nat} (hv : All2 (RepV g) vs us) (hc : 0 < cntVL b vs us) : ∃ com, g.comm b = some com := by
  induction hv with
  | nil => simp [cntVL] at hc
  | @cons v u vs us hv _ ih =>
    simp only [cntVL] at hc
    by_cases h0 : 0 < cntV b v u
    · exact cntV_known hv h0
    · exact ih (by omega)
theorem cnt_known {v : VV} {u : Value} {b : Nat} (hv : Rep g v u) (hc : 0 < cnt b v u) : ∃ com, g.comm b = some com := by
  by_cases hg : v = .gone
  · subst hg; simp [cnt, cntV, cntC] at hc
  by_cases ha : ∃ cs, v = .tup cs
  · obtain ⟨cs', rfl⟩ := ha
    obtain ⟨us, rfl, hv⟩ := hv
    exact cntVL_known hv hc
  · rw [cnt_eq ha] at hc
    exact cntV_known (by cases v <;> first | exact hv | exact absurd ⟨_, rfl⟩ ha | exact absurd rfl hg) hc
theorem cntS_known {vs : List VV} {us : List Value} {b : Nat} (hv : All2 (Rep g) vs us) (hc : 0 < cntS b vs us) : ∃ com, g.comm b = some com := by
  induction hv with
  | nil => simp [cntS] at hc
  | @cons v u vs us hv _ ih =>
    simp only [cntS] at hc
    by_cases h0 : 0 < cnt b v u
    · exact cnt_known hv h0
    · exact ih (by omega)

/-- A block whose cells stay. -/
def G.told (g : G) (b : Nat) (com : Com) : G := { g with comm := fun x => if x = b then some com else g.comm x }
theorem G.told_other {g : G} {b x : Nat} {com : Com} (h : x ≠ b) : (g.told b com).comm x = g.comm x := by simp [G.told, h]
theorem G.told_self {g : G} {b : Nat} {com : Com} : (g.told b com).comm b = some com := by simp [G.told]

theorem Inv.newCom (h : Inv Pr g sl B tm w) {cs : List VV} {own : Option (Nat × Nat)} {arr : Array Value} (T : TypeId) (fz : Nat × Nat) (hlen : cs.length ≤ arr.size)
    (hr : ∀ (j : Nat) c, cs[j]? = some c → ∃ u, arr[j]? = some u ∧ RepC g c u ∧ ownC c = false ∧ okC 0 c = true)
    (hown : ∀ cap sz, own = some (cap, sz) → fz = (0, 0) ∧ arr.size = cap * sz ∧ cap ≤ maxLen) {w1 : World} (hw1 : w1.heap = w.heap) (hw2 : w1.os = w.os ∧ w1.output = w.output := by exact ⟨rfl, rfl⟩) :
    Ext Pr B.length g w (g.told w.heap.size ⟨cs, own⟩) (w1.alloc (.cells arr T fz)) ∧ Inv Pr (g.told w.heap.size ⟨cs, own⟩) sl B tm (w1.alloc (.cells arr T fz)) := by
  have hfresh : g.comm w.heap.size = none := by
    cases hc : g.comm w.heap.size with
    | none => rfl
    | some com => exact absurd (h.sto.lt hc) (Nat.lt_irrefl _)
  have hold : ∀ b, b < w.heap.size → (w1.alloc (.cells arr T fz)).heap[b]? = w.heap[b]? := fun b hb => by
    rw [heap_old w1 _ (by rw [hw1]; exact hb), hw1]
  have hnew : (w1.alloc (.cells arr T fz)).heap[w.heap.size]? = some (.cells arr T fz) := by
    rw [← hw1]; exact heap_alloc_new w1 _
  have hcomm : ∀ b com, g.comm b = some com → ∃ com', (g.told w.heap.size ⟨cs, own⟩).comm b = some com' ∧ com.cs <+: com'.cs := by
    intro b com hc
    have : b ≠ w.heap.size := by rintro rfl; rw [hfresh] at hc; cases hc
    exact ⟨com, by rw [G.told_other this]; exact hc, List.prefix_refl _⟩
  have hsame : ∀ b, b < w.heap.size → (g.told w.heap.size ⟨cs, own⟩).comm b = g.comm b := fun b hb => G.told_other (by omega)
  have hphi : ∀ (n i : Nat), i < n → (g.told w.heap.size ⟨cs, own⟩).phi i = g.phi i := fun _ _ _ => rfl
  have hownL : ∀ {vs : List VV} {us : List Value} {b : Nat}, All2 (RepC g) vs us → 0 < cntL b vs us → b < w.heap.size := fun h1 h2 => let ⟨_, hc⟩ := cntL_known h1 h2; h.sto.lt hc
  have hownS : ∀ {vs : List VV} {us : List Value} {b : Nat}, All2 (Rep g) vs us → 0 < cntS b vs us → b < w.heap.size := fun h1 h2 => let ⟨_, hc⟩ := cntS_known h1 h2; h.sto.lt hc
  have hsto : Sto (g.told w.heap.size ⟨cs, own⟩) B (w1.alloc (.cells arr T fz)) := by
    refine ⟨?_, ?_, ?_, h.sto.inj⟩
    · intro b com hc
      by_cases hb : b = w.heap.size
      · subst hb
        rw [G.told_self] at hc
        obtain rfl := Option.some.inj hc
        exact ⟨arr, T, fz, hnew, hlen, comm_cells (com := ⟨cs, own⟩) hcomm (fun j c hc _ => hr j c hc), hown⟩
      · rw [G.told_other hb] at hc
        obtain ⟨ar, T', fz', h1, h2, h3, h4⟩ := h.sto.comm b com hc
        exact ⟨ar, T', fz', by rw [hold b (heap_lt h1)]; exact h1, h2, comm_cells hcomm h3, h4⟩
    · intro id cs' hb
      obtain ⟨⟨ar, T', h1, h2⟩, h3, h4⟩ := h.sto.var id cs' hb
      refine ⟨⟨ar, T', by rw [show (g.told w.heap.size ⟨cs, own⟩).phi id = g.phi id from rfl, hold _ (heap_lt h1)]; exact h1, All2_RepC_ext hcomm (hphi _) (fun b hb => hsame b (hownL h2 hb)) h4 h2⟩, ?_, h4⟩
      rw [show (g.told w.heap.size ⟨cs, own⟩).phi id = g.phi id from rfl, hsame _ (heap_lt h1)]
      exact h3
    · intro id cs' hb
      obtain ⟨com, h1, h2⟩ := h.sto.ro id cs' hb
      exact ⟨com, by rw [show (g.told w.heap.size ⟨cs, own⟩).phi id = g.phi id from rfl, hsame _ (h.sto.lt h1)]; exact h1, h2⟩
  have hcb : ∀ b, cntB b (g.told w.heap.size ⟨cs, own⟩) (w1.alloc (.cells arr T fz)) 0 B = cntB b g w 0 B := fun b => cntB_congr B 0 fun i cs' hb => by
    rw [Nat.zero_add, show (g.told w.heap.size ⟨cs, own⟩).phi i = g.phi i from rfl]
    simp only [cellsAt, hold _ (h.sto.phi_lt hb)]
  refine ⟨⟨hcomm, fun b hb => ⟨hsame b (h.prot b hb).1, hold b (h.prot b hb).1⟩, by simp [hw1], fun _ _ => rfl, hw2⟩, ⟨All2_Rep_ext hcomm (hphi B.length) (fun b hb => hsame b (hownS h.rep hb)) h.ok h.rep, h.ok, hsto, ?_, ?_⟩⟩
  · intro b; rw [hcb]; exact h.uniq b
  · intro b hb
    obtain ⟨p1, p2, p3⟩ := h.prot b hb
    exact ⟨by simp [hw1]; omega, by rw [hcb]; exact p2, p3⟩

end
end Go.Wv
namespace Go.Wv

theorem prefix_get {l m : List VV} (h : l <+: m) {j : Nat} {c : VV} (hc : l[j]? = some c) : m[j]? = some c := by
  obtain ⟨t, rfl⟩ := h
  rw [List.getElem?_append_left (List.getElem?_eq_some_iff.1 hc).1]
  exact hc

theorem set_get {B : List Blk} {id : Nat} {x : Blk} (hid : id < B.length) {i : Nat} {y : Blk} (h : (B.set id x)[i]? = some y) : (i = id ∧ y = x) ∨ (i ≠ id ∧ B[i]? = some y) := by
  by_cases e : i = id
  · subst e
    rw [List.getElem?_set_self hid] at h
    exact .inl ⟨rfl, (Option.some.inj h).symm⟩
  · rw [List.getElem?_set_ne (fun h => e h.symm)] at h
    exact .inr ⟨e, h⟩

section
variable {C : Cfg} {Pr : Nat → Prop} {f : FuncId} {o : Oper} {g : G} {sl sl' : List VV} {B B' : List Blk} {a : Act} {w : World} {v : VV}

/-- a new variable's address is put into the slot -/
theorem OpOk.newVar (hi : Inv Pr g sl B a.tmps.toList w) {cs : List VV} {arr : Array Value} {T : TypeId} (hr : All2 (RepC g) cs arr.toList) (ho : cs.all (okC B.length) = true)
    (hrep2 : All2 (Rep g) sl' a.tmps.toList) (hok2 : okRs B.length sl' = true) (hcnt : ∀ b, cntS b sl' a.tmps.toList + cntL b cs arr.toList ≤ cntS b sl a.tmps.toList)
    (hrun : (execOp a.eval o).run C.P w = .ok (.value (.pointer (some ⟨w.heap.size, 0, none⟩))) (w.alloc (.cells arr T))) :
    OpOk C Pr o g B.length sl' (.ptr B.length 0) (B ++ [.var cs]) a w := by
  obtain ⟨h1, h2⟩ := hi.newVar T hr ho hrep2 hok2 hcnt
  refine ⟨_, _, _, _, hrun, .inl rfl, h1, h2.put ?_ ?_ (fun _ => cnt_zero rfl) o.dst⟩
  · show _ = _
    rw [G.at_self]
  · simp [okR, okV, okC]

theorem alloc_ok (hi : Inv Pr g sl B a.tmps.toList w) {t : TypeId} (ho : o.op = .alloc t) (h : vop C f o sl B = some (v, sl', B')) : OpOk C Pr o g B.length sl' v B' a w := by
  simp only [vop, ho] at h
  split at h <;> first | (cases h; done) | skip
  rename_i z hz
  split at h <;> first | (cases h; done) | skip
  rename_i hv
  simp only [Option.some.injEq, Prod.mk.injEq] at h
  obtain ⟨rfl, rfl, rfl⟩ := h
  obtain ⟨i, zv, hi', hzv, rfl⟩ := zeroT_spec hz
  have hv0 : isVal0 (ofV zv) = true := by generalize ofV zv = x at hv; cases x <;> first | rfl | cases hv
  obtain ⟨z1, z2, z3⟩ := zero_cells (g := g) hv0
  obtain ⟨y1, y2, y3⟩ := ownZ_cells (C.own0 t) z1 z2 z3
  refine OpOk.newVar (T := t) hi y1 (y3 _) hi.rep hi.ok (fun b => by rw [y2 b]; omega) ?_
  simp only [execOp, ho, Instr.alloc, Sem.run_bind, zeroValue, typeInfo, run_program, Result.andThen_ok, hi', Sem.run_pure, hzv, newVar, newRow, run_newObj, World.alloc_eq]

theorem box_ok (hg : GlobOk C g) (hi : Inv Pr g sl B a.tmps.toList w) {t : TypeId} {x : Operand} (ho : o.op = .box t x) (h : vop C f o sl B = some (v, sl', B')) : OpOk C Pr o g B.length sl' v B' a w := by
  simp only [vop, ho] at h
  split at h <;> first | (cases h; done) | skip
  rename_i hc
  simp only [Option.some.injEq, Prod.mk.injEq] at h
  obtain ⟨rfl, rfl, rfl⟩ := h
  obtain ⟨h1, h2, h3, h4, h5⟩ := tr_ok hg hi (x := x) (v := (tr C sl x).1) (sl' := (tr C sl x).2) rfl
  obtain ⟨k1, k2⟩ := cells_rep h1 hc.1
  refine OpOk.newVar (T := t) hi k1 (cells_ok h2 hc.1) h3 h4 (fun b => by rw [k2 b]; exact h5 b) ?_
  simp only [execOp, ho, Instr.box, Sem.run_bind, newVar, newRow, run_newObj, World.alloc_eq, Result.andThen_ok, Sem.run_pure, eval_evR]

theorem loadVar_run {t : TypeId} {b off : Nat} {arr : Array Value} {T : TypeId} {fz : Nat × Nat} (hh : w.heap[b]? = some (.cells arr T fz)) :
    (aggT C.P t = some true → 0 < szT C.P t → off + szT C.P t ≤ arr.size → (loadVar t ⟨b, off, none⟩).run C.P w = .ok (.agg ((arr.toList.drop off).take (szT C.P t)).toArray) w) ∧
    (aggT C.P t = some false → ∀ z, arr[off]? = some z → (loadVar t ⟨b, off, none⟩).run C.P w = .ok z w) := by
  constructor
  · intro ha hpos hle
    have hl : (loadCells ⟨b, off, none⟩ ((arr.toList.drop off).take (szT C.P t)).length).run C.P w = .ok ((arr.toList.drop off).take (szT C.P t)).toArray w :=
      run_loadCells_list (P := C.P) w ⟨b, off, none⟩ _ (fun j z hz => by
        rw [Addr_add', cell_of_row w b (off + j) arr T fz hh]
        rw [List.getElem?_take] at hz
        split at hz
        · rw [List.getElem?_drop] at hz; simpa using hz
        · cases hz)
    have hlen : ((arr.toList.drop off).take (szT C.P t)).length = szT C.P t := by simp; omega
    rw [hlen] at hl
    simp only [loadVar, Sem.run_bind, aggT_run ha, Result.andThen_ok, if_true, sizeOf_run (w := w) (show szT C.P t ≠ 0 by omega), hl, Sem.run_pure]
  · intro ha z hz
    simp only [loadVar, Sem.run_bind, aggT_run ha, Result.andThen_ok, Bool.false_eq_true, if_false, run_load, cell_of_row w b off arr T fz hh, hz]

/-- what is read at a place of told cells -/
theorem readAt_run {t : TypeId} {b base : Nat} {cs : List VV} {off : Nat} {arr : Array Value} {T : TypeId} {fz : Nat × Nat} {v0 : VV} (hh : w.heap[b]? = some (.cells arr T fz))
    (hcs : ∀ (j : Nat) c, cs[j]? = some c → ∃ u, arr[base + j]? = some u ∧ RepC g c u) (h : readAt C.P t cs off = some v0) :
    ∃ z, (loadVar t ⟨b, base + off, none⟩).run C.P w = .ok z w ∧ RepV g v0 z ∧
      ((aggT C.P t = some true ∧ v0 = .agg ((cs.drop off).take (szT C.P t)) ∧ off + szT C.P t ≤ cs.length ∧ z = .agg ((arr.toList.drop (base + off)).take (szT C.P t)).toArray) ∨ (aggT C.P t = some false ∧ cs[off]? = some v0 ∧ arr[base + off]? = some z)) := by
  unfold readAt at h
  split at h <;> first | (cases h; done) | skip
  · rename_i ha
    split at h <;> first | (cases h; done) | skip
    rename_i hc
    obtain rfl := Option.some.inj h
    obtain ⟨hle, hpos⟩ := hc
    have hsz : base + off + szT C.P t ≤ arr.size := by
      obtain ⟨u, hu, _⟩ := hcs (off + szT C.P t - 1) _ (List.getElem?_eq_getElem (by omega))
      have := (Array.getElem?_eq_some_iff.1 hu).1
      omega
    refine ⟨_, (loadVar_run hh).1 ha hpos hsz, ⟨_, rfl, ?_⟩, .inl ⟨ha, rfl, hle, rfl⟩⟩
    refine All2.of_get (by simp; omega) fun j c z hc hz => ?_
    rw [List.getElem?_take] at hc hz
    split at hc <;> first | (cases hc; done) | skip
    rename_i hj
    rw [if_pos hj] at hz
    rw [List.getElem?_drop] at hc hz
    obtain ⟨u, hu, hr⟩ := hcs _ _ hc
    rw [← Array.getElem?_toList, ← Nat.add_assoc, hz] at hu
    obtain rfl := Option.some.inj hu
    exact hr
  · rename_i ha
    obtain ⟨u, hu, hr⟩ := hcs off v0 h
    refine ⟨u, (loadVar_run hh).2 ha u hu, ?_, .inr ⟨ha, h, hu⟩⟩
    cases v0 <;> first | exact hr | exact hr.elim

theorem load_run {t : TypeId} {x : Operand} {b off : Nat} {z : Value} (ho : o.op = .load t x) (hx : evR a.tmps.toList x = .pointer (some ⟨b, off, none⟩))
    (hl : (loadVar t ⟨b, off, none⟩).run C.P w = .ok z w) : (execOp a.eval o).run C.P w = .ok (.value z) w := by
  simp only [execOp, ho, eval_evR, hx, Instr.loadAt, Instr.sureAddr, Sem.run_bind, Sem.run_pure, Result.andThen_ok, hl]

theorem viewV_cells {v0 : VV} (h : ¬ ∃ vs, v0 = .tup vs) : (viewV v0).cells = v0.cells.map viewC := by
  cases v0 <;> first | rfl | exact absurd ⟨_, rfl⟩ h | skip
  rename_i fl xs
  cases fl <;> rfl
theorem toView_viewV {v0 : VV} (h : ¬ ∃ vs, v0 = .tup vs) : toView v0 = viewV v0 := by
  cases v0 <;> first | rfl | exact absurd ⟨_, rfl⟩ h

theorem load_ok (hg : GlobOk C g) (hi : Inv Pr g sl B a.tmps.toList w) {t : TypeId} {x : Operand} (ho : o.op = .load t x) (h : vop C f o sl B = some (v, sl', B')) : OpOk C Pr o g B.length sl' v B' a w := by
  have hrep := ev_rep hg hi.rep x
  have hok := ev_ok (C := C) hi.ok x
  simp only [vop, ho] at h
  split at h <;> first | (cases h; done) | skip
  · rename_i id off he
    rw [he] at hrep hok
    have hx : evR a.tmps.toList x = .pointer (some ⟨g.phi id, off, none⟩) := hrep
    split at h <;> first | (cases h; done) | skip
    rename_i b hb
    split at h <;> first | (cases h; done) | skip
    rename_i v0 hv0
    have hidl : id < B.length := (List.getElem?_eq_some_iff.1 hb).1
    have hbok : b.cells.all (okC (id + 1)) = true := by
      cases b with
      | var cs => exact (hi.sto.var id cs hb).2.2
      | ro cs =>
        obtain ⟨com, h1, h2, hn⟩ := hi.sto.ro id cs hb
        obtain ⟨arr, T, fz, _, _, h3, _⟩ := hi.sto.comm _ com h1
        refine List.all_eq_true.2 fun c hc => ?_
        obtain ⟨j, hj⟩ := List.getElem?_of_mem hc
        obtain ⟨u, _, _, _, h4⟩ := h3 j c (prefix_get h2 hj) (hn c hc)
        exact okC_mono (by omega) h4
    have hheap : ∃ arr T fz, w.heap[g.phi id]? = some (.cells arr T fz) ∧ ∀ (j : Nat) c, b.cells[j]? = some c → ∃ u, arr[0 + j]? = some u ∧ RepC g c u := by
      cases b with
      | var cs =>
        obtain ⟨⟨arr, T, h1, h2⟩, _, _⟩ := hi.sto.var id cs hb
        refine ⟨arr, T, _, h1, fun j c hc => ?_⟩
        obtain ⟨u, hu, hr⟩ := h2.get hc
        exact ⟨u, by rw [Nat.zero_add, ← Array.getElem?_toList]; exact hu, hr⟩
      | ro cs =>
        obtain ⟨com, h1, h2, hn⟩ := hi.sto.ro id cs hb
        obtain ⟨arr, T, fz, h3, _, h4, _⟩ := hi.sto.comm _ com h1
        refine ⟨arr, T, fz, h3, fun j c hc => ?_⟩
        obtain ⟨u, hu, hr, _⟩ := h4 j c (prefix_get h2 hc) (hn c (List.mem_of_getElem? hc))
        exact ⟨u, by rw [Nat.zero_add]; exact hu, hr⟩
    obtain ⟨arr, T, fz, hh, hcs⟩ := hheap
    obtain ⟨z, hz1, hz2, hz3⟩ := readAt_run (C := C) (base := 0) hh hcs hv0
    rw [Nat.zero_add] at hz1 hz3
    have hrun := load_run (C := C) ho hx hz1
    have hnt := RepV_not_tup hz2
    have hv0ok : okV (id + 1) v0 = true := by
      rcases hz3 with ⟨_, rfl, _, _⟩ | ⟨_, h1, _⟩
      · exact List.all_eq_true.2 fun c hc => List.all_eq_true.1 hbok c (List.mem_of_mem_drop (List.mem_of_mem_take hc))
      · have h2 : ¬ ∃ cs', v0 = .agg cs' := by
          rintro ⟨cs', rfl⟩
          obtain ⟨_, _, h3⟩ := hcs _ _ h1
          exact h3
        rw [okV_eq h2]
        exact List.all_eq_true.1 hbok v0 (List.mem_of_getElem? h1)
    have hv0ok' : okR B.length v0 = true := by rw [okR_eq hnt]; exact okV_mono (by omega) hv0ok
    split at h
    · split at h <;> first | (cases h; done) | skip
      rename_i cs
      split at h <;> first | (cases h; done) | skip
      simp only [Blk.cells] at hv0 hcs hz3 hbok
      simp only [Option.some.injEq, Prod.mk.injEq] at h
      obtain ⟨rfl, rfl, rfl⟩ := h
      obtain ⟨⟨arr', T', h1, h2⟩, hcn, hcok⟩ := hi.sto.var id cs hb
      rw [hh] at h1
      cases h1
      have hsp : All2 (RepC g) (splice cs off (toView v0).cells) arr.toList ∧ ∀ b, cntL b (splice cs off (toView v0).cells) arr.toList + cnt b v0 z = cntL b cs arr.toList := by
        rw [toView_viewV hnt, viewV_cells hnt]
        have hlen2 := h2.length
        have hz4 : All2 (RepC g) v0.cells ((arr.toList.drop off).take v0.cells.length) ∧ off + v0.cells.length ≤ cs.length ∧ (cs.drop off).take v0.cells.length = v0.cells ∧ ∀ b, cntL b v0.cells ((arr.toList.drop off).take v0.cells.length) = cnt b v0 z := by
          rcases hz3 with ⟨_, rfl, hle, rfl⟩ | ⟨_, e1, e2⟩
          · have hl : ((cs.drop off).take (szT C.P t)).length = szT C.P t := by simp; omega
            refine ⟨?_, ?_, ?_, fun b => ?_⟩
            · show All2 (RepC g) ((cs.drop off).take (szT C.P t)) _
              rw [show (VV.agg ((cs.drop off).take (szT C.P t))).cells.length = szT C.P t from hl]
              exact (h2.drop off).take _
            · show off + ((cs.drop off).take (szT C.P t)).length ≤ _; omega
            · show (cs.drop off).take ((cs.drop off).take (szT C.P t)).length = _; rw [hl]; rfl
            · show cntL b ((cs.drop off).take (szT C.P t)) _ = cntL b _ _; rw [show (VV.agg ((cs.drop off).take (szT C.P t))).cells.length = szT C.P t from hl]
          · have e3 := (List.getElem?_eq_some_iff.1 e1).1
            have hna : ¬ ∃ cs', v0 = .agg cs' := by
              rintro ⟨cs', rfl⟩
              obtain ⟨_, _, h3⟩ := hcs _ _ e1
              exact h3
            have hcell : v0.cells = [v0] := by cases v0 <;> first | rfl | exact absurd ⟨_, rfl⟩ hna
            have hzl : (arr.toList.drop off).take 1 = [z] := by
              have : arr.toList[off]? = some z := by rw [Array.getElem?_toList]; exact e2
              obtain ⟨hlt, hzz⟩ := List.getElem?_eq_some_iff.1 this
              rw [List.drop_eq_getElem_cons hlt, hzz]; rfl
            have hcl : (cs.drop off).take 1 = [v0] := by
              obtain ⟨hlt, hzz⟩ := List.getElem?_eq_some_iff.1 e1
              rw [List.drop_eq_getElem_cons hlt, hzz]; rfl
            have hr1 : RepC g v0 z := by
              obtain ⟨u, hu, hr⟩ := hcs _ _ e1
              rw [Nat.zero_add, e2] at hu
              obtain rfl := Option.some.inj hu
              exact hr
            rw [hcell]
            refine ⟨by rw [show [v0].length = 1 from rfl, hzl]; exact .cons hr1 .nil, by simp; omega, by simpa using hcl, fun b => ?_⟩
            rw [show [v0].length = 1 from rfl, hzl, cnt_eq hnt]
            have : cntV b v0 z = cntC b v0 z := by cases v0 <;> first | rfl | exact absurd ⟨_, rfl⟩ hna
            rw [this]; simp [cntL]
        obtain ⟨q1, q2, q3, q4⟩ := hz4
        have hsame : spliceR arr.toList off ((arr.toList.drop off).take v0.cells.length) = arr.toList := by
          unfold spliceR
          rw [show ((arr.toList.drop off).take v0.cells.length).length = v0.cells.length from q1.length.symm, ← List.drop_drop, List.append_assoc, List.take_append_drop, List.take_append_drop]
        have q5 := All2_splice h2 (All2_viewC q1) off
        rw [hsame] at q5
        refine ⟨q5, fun b => ?_⟩
        have q6 := cntL_splice (b := b) (vs := v0.cells.map viewC) (zs := (arr.toList.drop off).take v0.cells.length) h2.length (by rw [List.length_map]; exact q1.length) (off := off) (by simpa using q2)
        rw [hsame, cntL_zero (any_viewC _), List.length_map, q3, show ((arr.toList.drop off).take v0.cells.length).length = v0.cells.length from q1.length.symm, q4 b] at q6
        omega
      obtain ⟨s1, s2⟩ := hsp
      have hokc : (splice cs off (toView v0).cells).all (okC (id + 1)) = true := by
        refine all_splice hcok ?_ off
        rw [toView_viewV hnt, viewV_cells hnt]
        refine List.all_eq_true.2 fun c hc => ?_
        obtain ⟨c0, hc0, rfl⟩ := List.mem_map.1 hc
        have h3 : v0.cells.all (okC (id + 1)) = true := by
          by_cases hval : isVal v0 = true
          · exact cells_ok (by rw [okR_eq hnt]; exact hv0ok) hval
          · cases v0 <;> first | exact absurd rfl hval | exact hz2.elim
        exact okC_viewC (List.all_eq_true.1 h3 c0 hc0)
      have hget : ∀ (i : Nat) y, (B.set id (.var (splice cs off (toView v0).cells)))[i]? = some y → (i = id ∧ y = .var (splice cs off (toView v0).cells)) ∨ (i ≠ id ∧ B[i]? = some y) := fun i y hy => set_get hidl hy
      have hsto : Sto g (B.set id (.var (splice cs off (toView v0).cells))) w := by
        refine ⟨hi.sto.comm, ?_, ?_, ?_⟩
        · intro i cs' hy
          rcases hget i _ hy with ⟨rfl, e⟩ | ⟨_, e⟩
          · obtain rfl := Blk.var.inj e
            exact ⟨⟨arr, _, hh, s1⟩, hcn, hokc⟩
          · exact hi.sto.var i cs' e
        · intro i cs' hy
          rcases hget i _ hy with ⟨rfl, e⟩ | ⟨_, e⟩
          · cases e
          · exact hi.sto.ro i cs' e
        · intro i j ci cj hyi hyj e
          have : ∀ (k : Nat) ck, (B.set id (.var (splice cs off (toView v0).cells)))[k]? = some (.var ck) → ∃ ck', B[k]? = some (.var ck') := by
            intro k ck hk
            rcases hget k _ hk with ⟨rfl, _⟩ | ⟨_, e⟩
            · exact ⟨_, hb⟩
            · exact ⟨_, e⟩
          obtain ⟨ci', ei⟩ := this i ci hyi
          obtain ⟨cj', ej⟩ := this j cj hyj
          exact hi.sto.inj i j ci' cj' ei ej e
      have hcb : ∀ b, cntB b g w 0 (B.set id (.var (splice cs off (toView v0).cells))) + cnt b v0 z = cntB b g w 0 B := by
        intro b
        have := cntB_set (b := b) (g := g) (w := w) B 0 id (.var (splice cs off (toView v0).cells)) _ hb
        rw [Nat.zero_add] at this
        simp only [cntBlk, cellsAt_of hh] at this
        have := s2 b
        omega
      have hcs' : ∀ b, cntS b (putS sl o.dst v0) (putL a.tmps.toList o.dst z) ≤ cntS b sl a.tmps.toList + cnt b v0 z := fun b => cntS_put hi.rep.length v0 z o.dst
      refine ⟨_, z, w, g, hrun, .inl rfl, Ext.refl _ _ _ _, ⟨All2_put hi.rep (Rep_of_RepV hz2) o.dst, ?_, hsto, ?_, ?_⟩⟩
      · rw [List.length_set]; exact okRs_put hi.ok hv0ok' o.dst
      · intro b
        have := hi.uniq b
        have := hcb b
        have := hcs' b
        omega
      · intro b hp
        obtain ⟨p1, p2, p3⟩ := hi.prot b hp
        refine ⟨p1, by have := hcb b; have := hcs' b; omega, ?_⟩
        intro i cs' hy
        rcases hget i _ hy with ⟨rfl, e⟩ | ⟨_, e⟩
        · exact p3 _ _ hb
        · exact p3 i cs' e
    · simp only [Option.some.injEq, Prod.mk.injEq] at h
      obtain ⟨rfl, rfl, rfl⟩ := h
      exact OpOk.pure hi hrun (Rep_toView (Rep_of_RepV hz2)) (okR_toView hv0ok') (isOwn_toView _)
  · rename_i cs off he
    rw [he] at hrep
    split at h <;> first | (cases h; done) | skip
    rename_i v0 hv0
    simp only [Option.some.injEq, Prod.mk.injEq] at h
    obtain ⟨rfl, rfl, rfl⟩ := h
    obtain ⟨b, base, com, h1, hx, h3, hn⟩ := hrep
    obtain ⟨arr, T, fz, hh, hlen, hcs, _⟩ := hi.sto.comm b com h1
    have hcs2 : ∀ (j : Nat) c, cs[j]? = some c → com.cs[base + j]? = some c := by
      intro j c hc
      rw [← h3, List.getElem?_take] at hc
      split at hc
      · rw [List.getElem?_drop] at hc; exact hc
      · cases hc
    obtain ⟨z, hz1, hz2, hz3⟩ := readAt_run (C := C) (base := base) hh (fun j c hc => let ⟨u, e1, e2, _⟩ := hcs _ _ (hcs2 j c hc) (hn c (List.mem_of_getElem? hc)); ⟨u, e1, e2⟩) hv0
    have hrun := load_run (C := C) ho hx hz1
    have hall : ∀ c ∈ cs, ownC c = false ∧ okC 0 c = true := by
      intro c hc
      obtain ⟨j, hj⟩ := List.getElem?_of_mem hc
      obtain ⟨u, _, _, e3, e4⟩ := hcs _ _ (hcs2 j c hj) (hn c hc)
      exact ⟨e3, e4⟩
    rcases hz3 with ⟨_, rfl, _, _⟩ | ⟨_, e1, _⟩
    · refine OpOk.pure hi hrun (Rep_of_RepV hz2) ?_ ?_
      · show List.all _ _ = true
        exact List.all_eq_true.2 fun c hc => okC_mono (Nat.zero_le _) (hall c (List.mem_of_mem_drop (List.mem_of_mem_take hc))).2
      · show List.any _ _ = false
        exact List.any_eq_false.2 fun c hc => by simp [(hall c (List.mem_of_mem_drop (List.mem_of_mem_take hc))).1]
    · have hm := List.mem_of_getElem? e1
      have hc : RepC g v0 z := by
        obtain ⟨u, e4, e5, _⟩ := hcs _ _ (hcs2 _ _ e1) (hn _ hm)
        cases v0 <;> first | exact hz2 | exact e5.elim
      have hna : ∀ cs', v0 ≠ .agg cs' := by rintro cs' rfl; exact hc
      have hnt : ∀ vs', v0 ≠ .tup vs' := by rintro vs' rfl; exact hc
      exact OpOk.pure hi hrun (Rep_of_RepV hz2) (cell_ok (okC_mono (Nat.zero_le _) (hall _ hm).2) hna hnt) (cell_own (hall _ hm).1 hna hnt)

end
end Go.Wv
