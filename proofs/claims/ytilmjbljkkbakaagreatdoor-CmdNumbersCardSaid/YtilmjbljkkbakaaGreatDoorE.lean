/-
  A part of the proof: our library of the interpreter.
-/
import Derived.Test.YtilmjbljkkbakaaGreatDoorL
import Derived.Lib.Join
import Derived.Lib.Bytealg
import Derived.Lib.ItoaNum
import Derived.Lib.TrimByte
set_option linter.unusedSimpArgs false
set_option linter.unusedVariables false
set_option linter.unusedSectionVars false
set_option linter.unnecessarySimpa false
set_option linter.deprecated false
/-! Functions that the interpreter does not step through, over plain data and over its values; functions with fuel. -/
namespace Go.Wv
theorem Vc_ext {C : Cfg} {g : FuncId} {vs : List VV} {v : VV} {B : List Blk} {R : VV → List Blk → Prop} {e : List VV → Option VV} (he : C.ext g = some e) (hv : e vs = some v) (hR : R v B) : Vc C g vs B R :=
  ⟨(v, B), hR, 1, fun k hk => by
    obtain ⟨j, rfl⟩ : ∃ j, k = j + 1 := ⟨k - 1, by omega⟩
    simp only [vcall, he, hv]⟩

/-! x tells no more than y -/
def Le {α : Type} (x y : Option α) : Prop := ∀ r, x = some r → y = some r
theorem Le.refl {α : Type} (x : Option α) : Le x x := fun _ h => h
theorem Le.bind {α β : Type} {x y : Option α} {f g : α → Option β} (h : Le x y) (hf : ∀ a, Le (f a) (g a)) : Le (x.bind f) (y.bind g) := by
  intro r hr
  obtain ⟨a, h1, h2⟩ := Option.bind_eq_some_iff.1 hr
  rw [h a h1]; exact hf a r h2
theorem Le.map {α β : Type} {x y : Option α} {f : α → β} (h : Le x y) : Le (x.map f) (y.map f) := by
  intro r hr
  obtain ⟨a, h1, rfl⟩ := Option.map_eq_some_iff.1 hr
  rw [h a h1]; rfl
theorem Le.jn {S R : Type} {x y : Option (S ⊕ R)} {f g : S → Option R} (h : Le x y) (hf : ∀ a, Le (f a) (g a)) : Le (jn x f) (jn y g) := by
  intro r hr
  obtain ⟨z, h1, h2, h3⟩ := jn_some hr
  rw [h z h1]
  cases z with
  | inl s => rw [jn_inl]; exact hf s r (h2 s rfl)
  | inr r0 => rw [jn_inr, h3 r0 rfl]
theorem Le.ite {α : Type} {c : Prop} [Decidable c] {x y x' y' : Option α} (h : Le x y) (h' : Le x' y') : Le (if c then x else x') (if c then y else y') := by
  by_cases hc : c
  · rw [if_pos hc, if_pos hc]; exact h
  · rw [if_neg hc, if_neg hc]; exact h'
theorem Le.run {S R : Type} {f g : S → Option (S ⊕ R)} (h : ∀ s, Le (f s) (g s)) (n : Nat) (s : S) : Le (iter f n s) (run g s) := by
  intro r hr
  induction n generalizing s with
  | zero => simp [iter] at hr
  | succ n ih =>
    simp only [iter] at hr
    cases hf : f s with
    | none => simp [hf] at hr
    | some x =>
      rw [hf] at hr
      rw [run_eq, h s x hf]
      cases x with
      | inl s' => exact ih s' hr
      | inr r0 => exact hr

/-! strings.Join -/
def strCells : List VV → Option (List ByteArray)
  | [] => some []
  | .lit (.string s) :: r => (strCells r).map (s :: ·)
  | _ => none
theorem strCells_eq : ∀ {cs : List VV} {ss : List ByteArray}, strCells cs = some ss → cs = ss.map fun s => VV.lit (.string s)
  | [], ss, h => by cases h; rfl
  | c :: r, ss, h => by
    unfold strCells at h
    split at h
    · rename_i e; cases e
    · rename_i s r' e
      cases e
      obtain ⟨ss', h1, rfl⟩ := Option.map_eq_some_iff.1 h
      rw [strCells_eq h1]; rfl
    · cases h
def joinX : List VV → Option VV
  | [.sl _ cs, .lit (.string sep)] => match strCells cs with
    | some ss => if ss.isEmpty = false ∧ ss.length ≤ 140737488355328 ∧ (Lib.join (ss.map (·.data.toList)) sep.data.toList).length ≤ 281474976710656 then some (.lit (.string ⟨(Lib.join (ss.map (·.data.toList)) sep.data.toList).toArray⟩)) else none
    | none => none
  | _ => none
def joinP (ss : List (List UInt8)) (sep : List UInt8) : Option (List UInt8) :=
  if ss.isEmpty = false ∧ ss.length ≤ 140737488355328 ∧ (Lib.join ss sep).length ≤ 281474976710656 then some (Lib.join ss sep) else none
theorem strCells_bs : ∀ ss : List (List UInt8), strCells (ss.map En.str.enc) = some (ss.map bs)
  | [] => rfl
  | s :: ss => by simp only [List.map_cons, En.str_enc, strCells, strCells_bs ss, Option.map_some]
theorem joinX_of {f : Fl} {ss : List (List UInt8)} {sep r : List UInt8} (h : joinP ss sep = some r) : joinX [.sl f (ss.map En.str.enc), .lit (.string (bs sep))] = some (.lit (.string (bs r))) := by
  unfold joinP at h
  split at h
  · rename_i hc
    cases h
    have e1 : (ss.map bs).map (·.data.toList) = ss := by
      rw [List.map_map]; exact (List.map_congr_left fun s _ => bs_toList s).trans (List.map_id _)
    have e2 : (bs sep).data.toList = sep := bs_toList sep
    have e3 : (ss.map bs).isEmpty = ss.isEmpty := by cases ss <;> rfl
    simp only [joinX, strCells_bs, e1, e2, e3, List.length_map, hc, and_self, if_true]
    rfl
  · cases h

theorem freezeL_lits {B : List Blk} : ∀ {cs : List VV}, cs.all (fun c => match c with | .lit _ => true | _ => false) = true → freezeL B cs = some (cs, B)
  | [], _ => rfl
  | c :: cs, h => by
    simp only [List.all_cons, Bool.and_eq_true] at h
    have h2 := freezeL_lits (B := B) h.2
    cases c <;> simp only [Bool.false_eq_true, false_and] at h
    simp only [freezeL, freezeC, viewC, h2]

/-! strings.Index, Count, TrimLeft at one byte; strconv.Itoa, FormatInt -/
def indexX : List VV → Option VV
  | [.lit (.string s), .lit (.string sep)] => match sep.data.toList with
    | [c] => some (.lit (.int .i64 (Lib.indexByte s.data.toList c)))
    | _ => none
  | _ => none
def indexP (s sep : List UInt8) : Option Int := match sep with
  | [c] => some (Lib.indexByte s c)
  | _ => none
theorem indexX_of {s sep : List UInt8} {r : Int} (h : indexP s sep = some r) : indexX [.lit (.string (bs s)), .lit (.string (bs sep))] = some (.lit (.int .i64 r)) := by
  unfold indexP at h
  split at h
  · rename_i c
    cases h
    simp only [indexX, bs_toList]
  · cases h
def countX : List VV → Option VV
  | [.lit (.string s), .lit (.string sep)] => match sep.data.toList with
    | [c] => some (.lit (.int .i64 (Lib.countByte s.data.toList c)))
    | _ => none
  | _ => none
def countP (s sep : List UInt8) : Option Int := match sep with
  | [c] => some (Lib.countByte s c)
  | _ => none
theorem countX_of {s sep : List UInt8} {r : Int} (h : countP s sep = some r) : countX [.lit (.string (bs s)), .lit (.string (bs sep))] = some (.lit (.int .i64 r)) := by
  unfold countP at h
  split at h
  · rename_i c
    cases h
    simp only [countX, bs_toList]
  · cases h
def trimLeftX : List VV → Option VV
  | [.lit (.string s), .lit (.string sep)] => match sep.data.toList with
    | [c] => if c.toNat < 128 then some (.lit (.string ⟨(Lib.trimLeftB s.data.toList c).toArray⟩)) else none
    | _ => none
  | _ => none
def trimLeftP (s sep : List UInt8) : Option (List UInt8) := match sep with
  | [c] => if c.toNat < 128 then some (Lib.trimLeftB s c) else none
  | _ => none
theorem trimLeftX_of {s sep r : List UInt8} (h : trimLeftP s sep = some r) : trimLeftX [.lit (.string (bs s)), .lit (.string (bs sep))] = some (.lit (.string (bs r))) := by
  unfold trimLeftP at h
  split at h
  · rename_i c
    split at h
    · rename_i hc
      cases h
      simp only [trimLeftX, bs_toList, hc, if_true]; rfl
    · cases h
  · cases h
def itoaX : List VV → Option VV
  | [.lit (.int .i64 n)] => if -9223372036854775808 ≤ n ∧ n ≤ 9223372036854775807 then some (.lit (.string ⟨(Lib.itoa n).toArray⟩)) else none
  | _ => none
def itoaP (n : Int) : Option (List UInt8) := if -9223372036854775808 ≤ n ∧ n ≤ 9223372036854775807 then some (Lib.itoa n) else none
theorem itoaX_of {n : Int} {r : List UInt8} (h : itoaP n = some r) : itoaX [.lit (.int .i64 n)] = some (.lit (.string (bs r))) := by
  unfold itoaP at h
  split at h
  · rename_i hc
    cases h
    simp only [itoaX, hc, and_self, if_true]; rfl
  · cases h
def fmtIntX : List VV → Option VV
  | [.lit (.int .i64 n), .lit (.int .i64 b)] => if b = 10 ∧ -9223372036854775808 ≤ n ∧ n ≤ 9223372036854775807 then some (.lit (.string ⟨(Lib.itoa n).toArray⟩)) else none
  | _ => none
def fmtIntP (n b : Int) : Option (List UInt8) := if b = 10 ∧ -9223372036854775808 ≤ n ∧ n ≤ 9223372036854775807 then some (Lib.itoa n) else none
theorem fmtIntX_of {n b : Int} {r : List UInt8} (h : fmtIntP n b = some r) : fmtIntX [.lit (.int .i64 n), .lit (.int .i64 b)] = some (.lit (.string (bs r))) := by
  unfold fmtIntP at h
  split at h
  · rename_i hc
    cases h
    simp only [fmtIntX, hc, and_self, if_true]; rfl
  · cases h
end Go.Wv
