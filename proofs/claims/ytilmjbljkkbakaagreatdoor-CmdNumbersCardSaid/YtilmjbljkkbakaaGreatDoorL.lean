/-
  A part of the proof: our library of the interpreter.
-/
import Derived.Test.YtilmjbljkkbakaaGreatDoorV2
import Derived.Lib.Strings
set_option linter.unusedSimpArgs false
set_option linter.unusedVariables false
set_option linter.unusedSectionVars false
set_option linter.unnecessarySimpa false
set_option linter.deprecated false
namespace Go.Wv
set_option linter.unusedSimpArgs false
/-! What printed functions are made of: partial operations, loops, encodings. -/

/-- bytes as a string -/
def bs (l : List UInt8) : ByteArray := ⟨l.toArray⟩
theorem mk_bs (a : Array UInt8) : ByteArray.mk a = bs a.toList := rfl
theorem bs_size (l : List UInt8) : (bs l).size = l.length := rfl
theorem bs_append (a b : List UInt8) : bs a ++ bs b = bs (a ++ b) := by
  apply ByteArray.ext
  simp [bs]
theorem bs_inj {a b : List UInt8} : bs a = bs b ↔ a = b := by
  constructor
  · intro h
    have := congrArg (fun x : ByteArray => x.data.toList) h
    simpa [bs] using this
  · rintro rfl; rfl
theorem bs_beq (a b : List UInt8) : (bs a == bs b) = (a == b) := by
  have h : (bs a == bs b) = (a.toArray == b.toArray) := rfl
  rw [h]; simp
theorem bs_extract (l : List UInt8) (i j : Nat) : (bs l).extract i j = bs ((l.drop i).take (j - i)) := by
  apply ByteArray.ext
  simp [bs, List.extract_eq_take_drop]
theorem bs_toList (l : List UInt8) : (bs l).data.toList = l := by simp [bs]

/-! Partial operations -/
def idx {α : Type} (l : List α) (i : Int) : Option α := if 0 ≤ i then l[i.toNat]? else none
def subF {α : Type} (l : List α) (i : Int) : Option (List α) := if 0 ≤ i ∧ i ≤ l.length then some (l.drop i.toNat) else none
def subT {α : Type} (l : List α) (j : Int) : Option (List α) := if 0 ≤ j ∧ j ≤ l.length then some (l.take j.toNat) else none
def sub {α : Type} (l : List α) (i j : Int) : Option (List α) := if 0 ≤ i ∧ i ≤ j ∧ j ≤ l.length then some ((l.drop i.toNat).take (j.toNat - i.toNat)) else none
def cat (a b : List UInt8) : Option (List UInt8) := if a.length + b.length ≤ 9223372036854775807 then some (a ++ b) else none
/-- elements of so many bytes are appended -/
def app {α : Type} (n : Nat) (xs ys : List α) : Option (List α) := if (xs.length + ys.length) * n ≤ lim ∧ xs.length + ys.length ≤ lim then some (xs ++ ys) else none
def quo (k : IntKind) (a b : Int) : Option Int := if b = 0 then none else some (k.wrap (a.tdiv b))
def rem (a b : Int) : Option Int := if b = 0 then none else some (a.tmod b)
def shl (k : IntKind) (a b : Int) : Option Int := if b < 0 then none else some (k.wrap (a * 2 ^ (min b.toNat k.bits)))
def shr (k : IntKind) (a b : Int) : Option Int := if b < 0 then none else some (a.fdiv (2 ^ (min b.toNat k.bits)))
def byts (s : List UInt8) : Option (List Int) := if s.length ≤ lim then some (s.map fun b => (b.toNat : Int)) else none

theorem idx_some {α : Type} {l : List α} {i : Int} {x : α} : idx l i = some x ↔ 0 ≤ i ∧ l[i.toNat]? = some x := by
  unfold idx; split <;> simp [*]
theorem subF_some {α : Type} {l m : List α} {i : Int} : subF l i = some m ↔ (0 ≤ i ∧ i ≤ l.length) ∧ m = l.drop i.toNat := by
  unfold subF; split <;> simp [*, eq_comm]
theorem subT_some {α : Type} {l m : List α} {i : Int} : subT l i = some m ↔ (0 ≤ i ∧ i ≤ l.length) ∧ m = l.take i.toNat := by
  unfold subT; split <;> simp [*, eq_comm]
theorem sub_some {α : Type} {l m : List α} {i j : Int} : sub l i j = some m ↔ (0 ≤ i ∧ i ≤ j ∧ j ≤ l.length) ∧ m = (l.drop i.toNat).take (j.toNat - i.toNat) := by
  unfold sub; split <;> simp [*, eq_comm]

/-! Loops -/
def iter {S R : Type} (f : S → Option (S ⊕ R)) : Nat → S → Option R
  | 0, _ => none
  | n + 1, s => match f s with
    | none => none
    | some (.inl s') => iter f n s'
    | some (.inr r) => some r

theorem iter_det {S R : Type} {f : S → Option (S ⊕ R)} : ∀ {n m : Nat} {s : S} {r r' : R}, iter f n s = some r → iter f m s = some r' → r = r'
  | 0, _, _, _, _, h, _ => by simp [iter] at h
  | _ + 1, 0, _, _, _, _, h => by simp [iter] at h
  | n + 1, m + 1, s, r, r', h, h' => by
    simp only [iter] at h h'
    cases hf : f s with
    | none => simp [hf] at h
    | some x =>
      rw [hf] at h h'
      cases x with
      | inl s' => exact iter_det h h'
      | inr r0 => simp at h h'; rw [← h, ← h']

open Classical in
noncomputable def run {S R : Type} (f : S → Option (S ⊕ R)) (s : S) : Option R :=
  if h : ∃ r n, iter f n s = some r then some h.choose else none

theorem run_some {S R : Type} {f : S → Option (S ⊕ R)} {s : S} {r : R} : run f s = some r ↔ ∃ n, iter f n s = some r := by
  unfold run
  split
  · rename_i h
    obtain ⟨n, hn⟩ := h.choose_spec
    constructor
    · intro e; cases e; exact ⟨n, hn⟩
    · rintro ⟨m, hm⟩; rw [iter_det hn hm]
  · rename_i h
    constructor
    · intro e; cases e
    · rintro ⟨n, hn⟩; exact (h ⟨r, n, hn⟩).elim

theorem run_eq {S R : Type} (f : S → Option (S ⊕ R)) (s : S) : run f s = match f s with
    | none => none
    | some (.inl s') => run f s'
    | some (.inr r) => some r := by
  apply Option.ext
  intro r
  rw [run_some]
  constructor
  · rintro ⟨n, hn⟩
    cases n with
    | zero => simp [iter] at hn
    | succ n =>
      simp only [iter] at hn
      cases hf : f s with
      | none => simp [hf] at hn
      | some x =>
        rw [hf] at hn
        cases x with
        | inl s' => exact run_some.2 ⟨n, hn⟩
        | inr r0 => exact hn
  · intro h
    cases hf : f s with
    | none => simp [hf] at h
    | some x =>
      rw [hf] at h
      cases x with
      | inl s' =>
        obtain ⟨n, hn⟩ := run_some.1 h
        exact ⟨n + 1, by simp only [iter, hf]; exact hn⟩
      | inr r0 => exact ⟨1, by simp only [iter, hf]; exact h⟩

/-- what holds of a loop's answer: an invariant that the rounds keep -/
theorem run_ind {S R : Type} {f : S → Option (S ⊕ R)} (I : S → Prop) (P : R → Prop) (hl : ∀ s s', I s → f s = some (.inl s') → I s') (hr : ∀ s r, I s → f s = some (.inr r) → P r) {s : S} {r : R} (hs : I s) (h : run f s = some r) : P r := by
  obtain ⟨n, hn⟩ := run_some.1 h
  clear h
  induction n generalizing s with
  | zero => simp [iter] at hn
  | succ n ih =>
    simp only [iter] at hn
    cases hf : f s with
    | none => simp [hf] at hn
    | some x =>
      rw [hf] at hn
      cases x with
      | inl s' => exact ih (hl s s' hs hf) hn
      | inr r0 => cases hn; exact hr s _ hs hf

theorem wpO_mono {C : Cfg} {f : FuncId} {ops : Array Oper} {Q Q' : Post} (hQ : ∀ e sl B, Q e sl B → Q' e sl B) : ∀ (l : List Oper) (sl : List VV) (B : List Blk), wpO C f ops Q l sl B → wpO C f ops Q' l sl B
  | [], sl, B, h => by simp only [wpO] at h ⊢; exact hQ _ _ _ h
  | o :: rest, sl, B, h => by
    unfold wpO at h ⊢
    split at h
    · exact h
    · exact wpO_mono hQ rest _ _ h
    · by_cases hc : isCall o = true
      · rw [if_pos hc] at h ⊢
        unfold wpCall at h ⊢
        split at h
        · split at h
          · exact h
          · split at h
            · rename_i hp
              rw [if_pos hp]
              exact ⟨h.1, h.2.1, h.2.2.mono fun v B' hv => wpO_mono hQ rest _ _ hv⟩
            · rename_i hp
              rw [if_neg hp]
              split at h
              · exact h
              · exact h.mono fun v B' hv => wpO_mono hQ rest _ _ hv
        · exact h
      · rw [if_neg hc] at h ⊢
        split at h
        · exact h
        · exact wpO_mono hQ rest _ _ h

theorem wpC_mono {C : Cfg} {f : FuncId} : ∀ {c : Code} {Q Q' : Post} {sl : List VV} {B : List Blk}, wpC C f c Q sl B → (∀ e sl B, Q e sl B → Q' e sl B) → wpC C f c Q' sl B := by
  intro c
  induction c with
  | skip => intro Q Q' sl B h hQ; simp only [wpC] at h ⊢; exact hQ _ _ _ h
  | ret => intro Q Q' sl B h hQ; simp only [wpC] at h ⊢; exact hQ _ _ _ h
  | exit i => intro Q Q' sl B h hQ; simp only [wpC] at h ⊢; exact hQ _ _ _ h
  | seq a b iha ihb =>
    intro Q Q' sl B h hQ
    simp only [wpC] at h ⊢
    refine iha h fun e sl' B' hq => ?_
    cases e with
    | normal =>
      simp only at hq ⊢
      split at hq
      · exact ihb hq hQ
      · exact hq.elim
    | exit i => exact hQ _ _ _ hq
    | ret => exact hQ _ _ _ hq
  | cond x a b iha ihb =>
    intro Q Q' sl B h hQ
    unfold wpC at h ⊢
    split at h
    · split at h
      · rename_i ht; rw [if_pos ht]; exact iha h hQ
      · rename_i ht; rw [if_neg ht]; exact ihb h hQ
    · exact h
  | block i b ih =>
    intro Q Q' sl B h hQ
    simp only [wpC] at h ⊢
    refine ih h fun e sl' B' hq => ?_
    cases e with
    | normal => exact hQ _ _ _ hq
    | ret => exact hQ _ _ _ hq
    | exit j =>
      simp only at hq ⊢
      by_cases hj : j = i
      · rw [if_pos hj] at hq ⊢; exact hQ _ _ _ hq
      · rw [if_neg hj] at hq ⊢; exact hQ _ _ _ hq
  | region id ops draw => intro Q Q' sl B h hQ; simp only [wpC] at h ⊢; exact wpO_mono (fun e sl B hq => ⟨hq.1, hQ _ _ _ hq.2⟩) _ _ _ h
  | loop b ih =>
    intro Q Q' sl B h hQ
    unfold wpC at h ⊢
    split at h
    · exact h
    · split at h
      · exact W.mono h fun a ha => hQ _ _ _ ha
      · exact h
  | _ => intro Q Q' sl B h hQ; exact h.elim

theorem wpLoop_run {C : Cfg} {S R : Type} {f : FuncId} {b : Code} {ks : List (Nat × Bool)} {n : Nat} {Q : Post} {step : S → Option (S ⊕ R)} {r : R} (eS : S → List VV) (eB : S → List Blk) {s : S} {sl : List VV} {B : List Blk}
    (h : run step s = some r) (hd : drawsOk C f b = true) (hs : sl = eS s) (hB : B = eB s)
    (round : ∀ s x, step s = some x → (∀ r', x = .inr r' → r' = r) → wpC C f b (fun e sl' B' => match e with
      | .normal => ∃ s', x = .inl s' ∧ norm ks n sl' B' = some (eS s', eB s')
      | e => Q e sl' B') (eS s) (eB s)) : wpLoop C f b ks n Q sl B := by
  obtain ⟨k, hk⟩ := run_some.1 h
  subst hs hB
  refine wpLoop_of (I := fun (m : Nat) sl B => ∃ s, iter step m s = some r ∧ sl = eS s ∧ B = eB s) (μ := fun m => m) hd ?_ k _ _ ⟨s, hk, rfl, rfl⟩
  rintro m _ _ ⟨s, hm, rfl, rfl⟩
  cases m with
  | zero => simp [iter] at hm
  | succ m =>
    simp only [iter] at hm
    cases hf : step s with
    | none => simp [hf] at hm
    | some x =>
      rw [hf] at hm
      refine wpC_mono (round s x hf ?_) ?_
      · rintro r' rfl; simpa using hm
      · intro e sl' B' hq
        cases e with
        | normal =>
          obtain ⟨s', rfl, hn⟩ := hq
          exact ⟨_, _, hn, m, ⟨s', hm, rfl, rfl⟩, Nat.lt_succ_self m⟩
        | exit i => exact hq
        | ret => exact hq
/-! Encodings of typed values -/
structure En (α : Type) where
  enc : α → VV
  sz : Nat
  len : ∀ a, (enc a).cells.length = sz
  val : ∀ a, isVal (enc a) = true
  okz : ∀ n a, okR n (enc a) = true
  vw : ∀ a, toView (enc a) = enc a
  own : ∀ a, isOwn (enc a) = false

def En.int (k : IntKind) : En Int := ⟨fun n => .lit (.int k n), 1, fun _ => rfl, fun _ => rfl, fun _ _ => rfl, fun _ => rfl, fun _ => rfl⟩
def En.bool : En Bool := ⟨fun b => .lit (.bool b), 1, fun _ => rfl, fun _ => rfl, fun _ _ => rfl, fun _ => rfl, fun _ => rfl⟩
def En.str : En (List UInt8) := ⟨fun s => .lit (.string (bs s)), 1, fun _ => rfl, fun _ => rfl, fun _ _ => rfl, fun _ => rfl, fun _ => rfl⟩
def En.list {α : Type} (e : En α) : En (List α) := ⟨fun l => .sl .view (l.map e.enc), 1, fun _ => rfl, fun _ => rfl, fun _ _ => rfl, fun _ => rfl, fun _ => rfl⟩
@[go_sem] theorem En.int_enc (k : IntKind) (n : Int) : (En.int k).enc n = .lit (.int k n) := rfl
@[go_sem] theorem En.bool_enc (b : Bool) : En.bool.enc b = .lit (.bool b) := rfl
@[go_sem] theorem En.str_enc (s : List UInt8) : En.str.enc s = .lit (.string (bs s)) := rfl
@[go_sem] theorem En.list_enc {α : Type} (e : En α) (l : List α) : (En.list e).enc l = .sl .view (l.map e.enc) := rfl
@[go_sem] theorem En.int_sz (k : IntKind) : (En.int k).sz = 1 := rfl
@[go_sem] theorem En.bool_sz : En.bool.sz = 1 := rfl
@[go_sem] theorem En.str_sz : En.str.sz = 1 := rfl
@[go_sem] theorem En.list_sz {α : Type} (e : En α) : (En.list e).sz = 1 := rfl

theorem head_en {α : Type} (e : En α) (l : List α) : headOk e.sz (l.map e.enc) = true := headOk_map _ _ e.len l

theorem vindexAddr_en {α : Type} (e : En α) {P : Program} {t : TypeId} {f : Fl} {xs : List α} {k : IntKind} {i : Int} (hz : (elemT P t).map (szT P) = some e.sz) :
    vindexAddr P t (.sl f (xs.map e.enc)) (.lit (.int k i)) = (idx xs i).map fun x => .elp (e.enc x).cells 0 := by
  obtain ⟨u, hu, hz⟩ := Option.map_eq_some_iff.1 hz
  unfold vindexAddr asIx idx
  by_cases h0 : 0 ≤ i
  · simp only [h0, if_true, List.getElem?_map]
    cases xs[i.toNat]? with
    | none => rfl
    | some x => simp only [Option.map_some, hu, e.len, hz, if_true]
  · simp only [h0, if_false, Option.map_none]

theorem vindex_str {P : Program} {t : TypeId} {s : List UInt8} {k : IntKind} {i : Int} (ht : strT P t = true) :
    vindex P t (.lit (.string (bs s))) (.lit (.int k i)) = (idx s i).map fun c => .lit (.int .u8 c.toNat) := by
  have hz : (bs s).size = s.length := rfl
  unfold vindex asIx idx
  by_cases h0 : 0 ≤ i
  · simp only [h0, if_true, ht]
    by_cases hl : i.toNat < s.length
    · have hl' : i.toNat < (bs s).size := hl
      rw [dif_pos hl', List.getElem?_eq_getElem hl]; rfl
    · have hl' : ¬ i.toNat < (bs s).size := hl
      rw [dif_neg hl', List.getElem?_eq_none (Nat.le_of_not_lt hl)]; rfl
  · simp only [h0, if_false, Option.map_none]

theorem bound_int {n : Nat} {k : IntKind} {i : Int} : bound n (some (.lit (.int k i))) = if 0 ≤ i ∧ i ≤ n then some i.toNat else none := by
  unfold bound asIx
  by_cases h0 : 0 ≤ i
  · simp only [h0, if_true, true_and]
    by_cases h1 : i.toNat ≤ n
    · have : i ≤ n := by omega
      simp only [h1, this, if_true]
    · have : ¬ i ≤ n := by omega
      simp only [h1, this, if_false]
  · simp only [h0, if_false, false_and]
theorem bound_none {n : Nat} : bound n none = some n := rfl

theorem vslice_str_F {P : Program} {t : TypeId} {s : List UInt8} {k : IntKind} {i : Int} (ht : strT P t = true) :
    vslice P t (.lit (.string (bs s))) (some (.lit (.int k i))) none = (subF s i).map fun m => .lit (.string (bs m)) := by
  simp only [vslice, bound_none, Option.getD_some, bound_int, bs_size, subF]
  by_cases h : 0 ≤ i ∧ i ≤ s.length
  · simp only [h, and_self, if_true, ht, Option.map_some, bs_extract]
    rw [List.take_of_length_le (by simp)]
  · simp only [h, if_false, Option.map_none]
theorem vslice_str_T {P : Program} {t : TypeId} {s : List UInt8} {k : IntKind} {i : Int} (ht : strT P t = true) :
    vslice P t (.lit (.string (bs s))) none (some (.lit (.int k i))) = (subT s i).map fun m => .lit (.string (bs m)) := by
  simp only [vslice, Option.getD_none, bound_int, bs_size, subT]
  by_cases h : 0 ≤ i ∧ i ≤ s.length
  · have h1 : (0 : Int) ≤ 0 ∧ (0 : Int) ≤ (i.toNat : Int) := by omega
    simp only [h, and_self, if_true, h1, ht, Option.map_some, bs_extract]
    simp
  · simp only [h, if_false, Option.map_none]
theorem vslice_str_B {P : Program} {t : TypeId} {s : List UInt8} {k k' : IntKind} {i j : Int} (ht : strT P t = true) :
    vslice P t (.lit (.string (bs s))) (some (.lit (.int k i))) (some (.lit (.int k' j))) = (sub s i j).map fun m => .lit (.string (bs m)) := by
  simp only [vslice, Option.getD_some, bound_int, bs_size, sub]
  by_cases h : 0 ≤ j ∧ j ≤ s.length
  · rw [if_pos h]
    by_cases h' : 0 ≤ i ∧ i ≤ j
    · have h1 : 0 ≤ i ∧ i ≤ (j.toNat : Int) := by omega
      have h2 : 0 ≤ i ∧ i ≤ j ∧ j ≤ s.length := by omega
      rw [if_pos h2]
      simp only [h1, and_self, if_true, ht, Option.map_some, bs_extract]
    · have h1 : ¬ (0 ≤ i ∧ i ≤ (j.toNat : Int)) := by omega
      have h2 : ¬ (0 ≤ i ∧ i ≤ j ∧ j ≤ s.length) := by omega
      rw [if_neg h2]
      simp only [h1, if_false, Option.map_none]
  · have h2 : ¬ (0 ≤ i ∧ i ≤ j ∧ j ≤ s.length) := by omega
    rw [if_neg h, if_neg h2]
    rfl
theorem vslice_str_N {P : Program} {t : TypeId} {s : List UInt8} (ht : strT P t = true) :
    vslice P t (.lit (.string (bs s))) none none = some (.lit (.string (bs s))) := by
  have h1 : (0 : Int) ≤ 0 ∧ (0 : Int) ≤ (s.length : Int) := by omega
  simp only [vslice, Option.getD_none, bound_none, bound_int, bs_size, h1, and_self, if_true, ht, bs_extract]
  simp

theorem vslice_en_F {α : Type} (e : En α) {P : Program} {t : TypeId} {f : Fl} {xs : List α} {k : IntKind} {i : Int} (hz : (elemT P t).map (szT P) = some e.sz) :
    vslice P t (.sl f (xs.map e.enc)) (some (.lit (.int k i))) none = (subF xs i).map fun m => .sl .view (m.map e.enc) := by
  obtain ⟨u, hu, hz⟩ := Option.map_eq_some_iff.1 hz
  simp only [vslice, bound_none, Option.getD_some, bound_int, List.length_map, subF]
  by_cases h : 0 ≤ i ∧ i ≤ xs.length
  · simp only [h, and_self, if_true, hu, hz, head_en, Option.map_some, List.map_drop]
    rw [List.take_of_length_le (by simp)]
  · simp only [h, if_false, Option.map_none]
theorem vslice_en_T {α : Type} (e : En α) {P : Program} {t : TypeId} {f : Fl} {xs : List α} {k : IntKind} {i : Int} (hz : (elemT P t).map (szT P) = some e.sz) :
    vslice P t (.sl f (xs.map e.enc)) none (some (.lit (.int k i))) = (subT xs i).map fun m => .sl .view (m.map e.enc) := by
  obtain ⟨u, hu, hz⟩ := Option.map_eq_some_iff.1 hz
  simp only [vslice, Option.getD_none, bound_int, List.length_map, subT]
  by_cases h : 0 ≤ i ∧ i ≤ xs.length
  · have h1 : (0 : Int) ≤ 0 ∧ (0 : Int) ≤ (i.toNat : Int) := by omega
    simp only [h, and_self, if_true, h1, hu, hz, head_en, Option.map_some]
    simp
  · simp only [h, if_false, Option.map_none]
theorem vslice_en_B {α : Type} (e : En α) {P : Program} {t : TypeId} {f : Fl} {xs : List α} {k k' : IntKind} {i j : Int} (hz : (elemT P t).map (szT P) = some e.sz) :
    vslice P t (.sl f (xs.map e.enc)) (some (.lit (.int k i))) (some (.lit (.int k' j))) = (sub xs i j).map fun m => .sl .view (m.map e.enc) := by
  obtain ⟨u, hu, hz⟩ := Option.map_eq_some_iff.1 hz
  simp only [vslice, Option.getD_some, bound_int, List.length_map, sub]
  by_cases h : 0 ≤ j ∧ j ≤ xs.length
  · rw [if_pos h]
    by_cases h' : 0 ≤ i ∧ i ≤ j
    · have h1 : 0 ≤ i ∧ i ≤ (j.toNat : Int) := by omega
      have h2 : 0 ≤ i ∧ i ≤ j ∧ j ≤ xs.length := by omega
      rw [if_pos h2]
      simp only [h1, and_self, if_true, hu, hz, head_en, Option.map_some, List.map_take, List.map_drop]
    · have h1 : ¬ (0 ≤ i ∧ i ≤ (j.toNat : Int)) := by omega
      have h2 : ¬ (0 ≤ i ∧ i ≤ j ∧ j ≤ xs.length) := by omega
      rw [if_neg h2]
      simp only [h1, if_false, Option.map_none]
  · have h2 : ¬ (0 ≤ i ∧ i ≤ j ∧ j ≤ xs.length) := by omega
    rw [if_neg h, if_neg h2]
    rfl
theorem vslice_en_N {α : Type} (e : En α) {P : Program} {t : TypeId} {f : Fl} {xs : List α} (hz : (elemT P t).map (szT P) = some e.sz) :
    vslice P t (.sl f (xs.map e.enc)) none none = some (.sl .view (xs.map e.enc)) := by
  obtain ⟨u, hu, hz⟩ := Option.map_eq_some_iff.1 hz
  have h1 : (0 : Int) ≤ 0 ∧ (0 : Int) ≤ (xs.length : Int) := by omega
  simp only [vslice, Option.getD_none, bound_none, bound_int, List.length_map, h1, and_self, if_true, hu, hz, head_en]
  simp [List.take_of_length_le]

theorem vappend_en {α : Type} (e : En α) {P : Program} {t : TypeId} {f : Fl} {xs ys zs : List α} {n : Nat} (h : app n xs ys = some zs) (hz : (elemT P t).map (fun u => (szT P u, byT P u, zOk P u)) = some (e.sz, n, true)) :
    vappend P t (.sl .own (xs.map e.enc)) (.sl f (ys.map e.enc)) = some (.sl .own (zs.map e.enc)) := by
  obtain ⟨u, hu, hz⟩ := Option.map_eq_some_iff.1 hz
  simp only [Prod.mk.injEq] at hz
  obtain ⟨h1, h2, h3⟩ := hz
  unfold app at h
  split at h
  · rename_i hc
    cases h
    simp only [vappend, hu, appended, h2, h3, h1, head_en, and_true, List.length_map, hc, if_true, and_self, List.map_append]
  · cases h

/-- what a slot still holds when its right is handed on -/
def half (v : VV) : VV := if isOwn v = true then toView v else v
@[go_sem] theorem tr_half (C : Cfg) (sl : List VV) (t : Tmp) : tr C sl (.tmp t) = (getS sl t, sl.set t (half (getS sl t))) := by
  rw [tr_tmp]
  by_cases h : isOwn (getS sl t) = true
  · rw [half, if_pos h, if_pos h]
  · rw [half, if_neg h, if_neg h]
    congr 1
    apply List.ext_getElem?
    intro i
    by_cases hi : t = i
    · subst hi
      by_cases hl : t < sl.length
      · simp [getS, hl]
      · rw [List.set_eq_of_length_le (Nat.le_of_not_lt hl)]
    · simp [List.getElem?_set_ne hi]
@[go_sem] theorem half_lit (v : Value) : half (.lit v) = .lit v := rfl
@[go_sem] theorem half_view (xs : List VV) : half (.sl .view xs) = .sl .view xs := rfl
@[go_sem] theorem half_nil : half (.sl .own []) = .sl .own [] := rfl
@[go_sem] theorem half_ptr (i o : Nat) : half (.ptr i o) = .ptr i o := rfl
@[go_sem] theorem half_elp (cs : List VV) (o : Nat) : half (.elp cs o) = .elp cs o := rfl
@[go_sem] theorem half_mref (i : Nat) (g : Bool) (s o n : Nat) : half (.mref i g s o n) = .mref i g s o n := rfl
@[go_sem] theorem half_clo (f : Fn) (a b : List VV) : half (.clo f a b) = .clo f a b := rfl
@[go_sem] theorem half_agg (cs : List VV) : half (.agg cs) = if cs.any ownC = true then .agg (cs.map viewC) else .agg cs := rfl
@[go_sem] theorem half_tup0 : half (.tup []) = .tup [] := rfl
@[go_sem] theorem half_gone : half .gone = .gone := rfl
theorem bind_some {α β : Type} {x : Option α} {f : α → Option β} {b : β} (h : x.bind f = some b) : ∃ a, x = some a ∧ f a = some b := Option.bind_eq_some_iff.1 h
attribute [go_sem] mk_bs bs_size bs_append bs_beq

/-! Operations, one by one -/
section
variable (k j : IntKind) (a b : Int) (x y : List UInt8)
@[go_sem] theorem litBin_add : litBin .add (.int k a) (.int k b) = some (.int k (k.wrap (a + b))) := by simp [litBin, intBin]
@[go_sem] theorem litBin_sub : litBin .sub (.int k a) (.int k b) = some (.int k (k.wrap (a - b))) := by simp [litBin, intBin]
@[go_sem] theorem litBin_mul : litBin .mul (.int k a) (.int k b) = some (.int k (k.wrap (a * b))) := by simp [litBin, intBin]
@[go_sem] theorem litBin_quo : litBin .quo (.int k a) (.int k b) = (quo k a b).map (.int k) := by simp only [litBin, intBin, if_true, quo]; split <;> rfl
@[go_sem] theorem litBin_rem : litBin .rem (.int k a) (.int k b) = (rem a b).map (.int k) := by simp only [litBin, intBin, if_true, rem]; split <;> rfl
@[go_sem] theorem litBin_and : litBin .and (.int k a) (.int k b) = some (.int k (k.wrap (BitVec.ofInt k.bits a &&& BitVec.ofInt k.bits b).toNat)) := by simp [litBin, intBin]
@[go_sem] theorem litBin_or : litBin .or (.int k a) (.int k b) = some (.int k (k.wrap (BitVec.ofInt k.bits a ||| BitVec.ofInt k.bits b).toNat)) := by simp [litBin, intBin]
@[go_sem] theorem litBin_xor : litBin .xor (.int k a) (.int k b) = some (.int k (k.wrap (BitVec.ofInt k.bits a ^^^ BitVec.ofInt k.bits b).toNat)) := by simp [litBin, intBin]
@[go_sem] theorem litBin_andNot : litBin .andNot (.int k a) (.int k b) = some (.int k (k.wrap (BitVec.ofInt k.bits a &&& ~~~ BitVec.ofInt k.bits b).toNat)) := by simp [litBin, intBin]
@[go_sem] theorem litBin_eql : litBin .eql (.int k a) (.int k b) = some (.bool (a == b)) := by simp [litBin, intBin]
@[go_sem] theorem litBin_neq : litBin .neq (.int k a) (.int k b) = some (.bool (a != b)) := by simp [litBin, intBin]
@[go_sem] theorem litBin_lss : litBin .lss (.int k a) (.int k b) = some (.bool (decide (a < b))) := by simp [litBin, intBin]
@[go_sem] theorem litBin_leq : litBin .leq (.int k a) (.int k b) = some (.bool (decide (a ≤ b))) := by simp [litBin, intBin]
@[go_sem] theorem litBin_gtr : litBin .gtr (.int k a) (.int k b) = some (.bool (decide (b < a))) := by simp [litBin, intBin]
@[go_sem] theorem litBin_geq : litBin .geq (.int k a) (.int k b) = some (.bool (decide (b ≤ a))) := by simp [litBin, intBin]
@[go_sem] theorem litBin_shl : litBin .shl (.int k a) (.int j b) = (shl k a b).map (.int k) := by simp only [litBin, shl]; split <;> rfl
@[go_sem] theorem litBin_shr : litBin .shr (.int k a) (.int j b) = (shr k a b).map (.int k) := by simp only [litBin, shr]; split <;> rfl
@[go_sem] theorem litBin_sadd : litBin .add (.string (bs x)) (.string (bs y)) = (cat x y).map fun z => .string (bs z) := by
  simp only [litBin, strBin, bs_size, bs_append, cat]; split <;> rfl
@[go_sem] theorem litBin_seql : litBin .eql (.string (bs x)) (.string (bs y)) = some (.bool (x == y)) := by simp only [litBin, strBin, bs_beq]
@[go_sem] theorem litBin_sneq : litBin .neq (.string (bs x)) (.string (bs y)) = some (.bool (!(x == y))) := by simp only [litBin, strBin, bs_beq]
theorem bs_lst (l : List UInt8) : (bs l).toList = l := by
  rw [ByteArray.toList_eq, bs_toList]
@[go_sem] theorem litBin_slss : litBin .lss (.string (bs x)) (.string (bs y)) = some (.bool (Op.bytesLess x y)) := by simp only [litBin, strBin, bs_lst]
@[go_sem] theorem litBin_sgtr : litBin .gtr (.string (bs x)) (.string (bs y)) = some (.bool (!(Op.bytesLess x y || x == y))) := by simp only [litBin, strBin, bs_lst]
@[go_sem] theorem litBin_sleq : litBin .leq (.string (bs x)) (.string (bs y)) = some (.bool (Op.bytesLess x y || x == y)) := by simp only [litBin, strBin, bs_lst]
@[go_sem] theorem litBin_sgeq : litBin .geq (.string (bs x)) (.string (bs y)) = some (.bool (!(Op.bytesLess x y))) := by simp only [litBin, strBin, bs_lst]
end
section
variable {P : Program} {src dst : TypeId}
@[go_sem] theorem vconv_int (k : IntKind) (n : Int) : vconv P src dst (.lit (.int k n)) = match intT P src, intT P dst with
    | some _, some k => some (.lit (.int k (k.wrap n)))
    | _, _ => none := by
  unfold vconv
  cases intT P src <;> cases intT P dst <;> rfl
@[go_sem] theorem vconv_str (s : List UInt8) (h : strT P src = true) (h' : strT P dst = true) : vconv P src dst (.lit (.string (bs s))) = some (.lit (.string (bs s))) := by
  simp only [vconv, h, h', if_true]
@[go_sem] theorem vconv_byts (s : List UInt8) (h : strT P src = true) (h' : strT P dst = false) (he : (elemT P dst).bind (intT P) = some .u8) :
    vconv P src dst (.lit (.string (bs s))) = (byts s).map fun b => .sl .view (b.map (En.int .u8).enc) := by
  obtain ⟨e, h1, h2⟩ := Option.bind_eq_some_iff.1 he
  simp only [vconv, h, h', if_true, Bool.false_eq_true, if_false, h1, h2, byts]
  by_cases hl : s.length ≤ lim
  · have hl' : (bs s).size ≤ lim := hl
    rw [if_pos hl, if_pos hl']
    simp only [Option.map_some, bytesVV, bs_toList, List.map_map]; rfl
  · have hl' : ¬ (bs s).size ≤ lim := hl
    rw [if_neg hl, if_neg hl']; rfl
end
attribute [go_sem] vindexAddr_en vindex_str vslice_str_F vslice_str_T vslice_str_B vslice_str_N vslice_en_F vslice_en_T vslice_en_B vslice_en_N
/-- a list of slots by places -/
def mkSl (n : Nat) (l : List (Nat × VV)) : List VV := l.foldl (fun acc p => acc.set p.1 p.2) (List.replicate n .gone)
theorem lt_of_get {α : Type} {l : List α} {i : Nat} {x : α} (h : l[i]? = some x) : i < l.length := by
  rcases Nat.lt_or_ge i l.length with hl | hl
  · exact hl
  · rw [List.getElem?_eq_none hl] at h; cases h
@[go_sem] theorem get_set_self {l : List Blk} {i : Nat} {x : Blk} (h : i < l.length) : (l.set i x)[i]? = some x := by simp [h]
@[go_sem] theorem get_set_other {l : List Blk} {i j : Nat} {x : Blk} (h : i ≠ j) : (l.set i x)[j]? = l[j]? := List.getElem?_set_ne h
@[go_sem] theorem set_comm_blk {l : List Blk} {i j : Nat} {x y : Blk} (h : i ≠ j) : (l.set i x).set j y = (l.set j y).set i x := List.set_comm x y h
section
variable {A l : List Blk} (m : List Blk) (h : A.length = l.length)
include h
@[go_sem] theorem take_gen : A.take l.length = A := List.take_of_length_le (by omega)
@[go_sem] theorem takeapp_gen : (A ++ m).take l.length = A := by rw [← h]; simp
@[go_sem] theorem takeapp_add_gen (k : Nat) : (A ++ m).take (l.length + k) = A ++ m.take k := by rw [← h]; exact List.take_length_add_append k
@[go_sem] theorem getapp0_gen : (A ++ m)[l.length]? = m[0]? := by rw [← h, List.getElem?_append_right (Nat.le_refl _), Nat.sub_self]
@[go_sem] theorem getapp_gen (k : Nat) : (A ++ m)[l.length + k]? = m[k]? := by rw [← h, List.getElem?_append_right (by omega)]; congr 1; omega
@[go_sem] theorem setapp0_gen (x : Blk) : (A ++ m).set l.length x = A ++ m.set 0 x := by rw [← h, List.set_append_right _ _ (Nat.le_refl _), Nat.sub_self]
@[go_sem] theorem setapp_gen (k : Nat) (x : Blk) : (A ++ m).set (l.length + k) x = A ++ m.set k x := by rw [← h, List.set_append_right _ _ (by omega)]; congr 2; omega
end
@[go_sem] theorem take_set_len (l : List Blk) (i : Nat) (x : Blk) : (l.set i x).take l.length = l.set i x := List.take_of_length_le (by simp)
@[go_sem] theorem take_set_app (l m : List Blk) (i : Nat) (x : Blk) : (l.set i x ++ m).take l.length = l.set i x := by
  rw [List.take_append_of_le_length (by simp)]; exact take_set_len l i x
@[go_sem] theorem take_app_add (l m : List Blk) (k : Nat) : (l ++ m).take (l.length + k) = l ++ m.take k := List.take_length_add_append k
@[go_sem] theorem take_setapp_add (l m : List Blk) (i : Nat) (x : Blk) (k : Nat) : (l.set i x ++ m).take (l.length + k) = l.set i x ++ m.take k := by
  have := take_app_add (l.set i x) m k
  rwa [List.length_set] at this
@[go_sem] theorem get_app_left {l m : List Blk} {i : Nat} (h : i < l.length) : (l ++ m)[i]? = l[i]? := List.getElem?_append_left h
@[go_sem] theorem set_app_left {l m : List Blk} {i : Nat} {x : Blk} (h : i < l.length) : (l ++ m).set i x = l.set i x ++ m := List.set_append_left _ _ h
@[go_sem] theorem setapp_get0 (l m : List Blk) (i : Nat) (x : Blk) : (l.set i x ++ m)[l.length]? = m[0]? := by
  rw [List.getElem?_append_right (by simp)]; simp
@[go_sem] theorem setapp_get (l m : List Blk) (i : Nat) (x : Blk) (k : Nat) : (l.set i x ++ m)[l.length + k]? = m[k]? := by
  rw [List.getElem?_append_right (by simp)]; simp
@[go_sem] theorem setapp_set0 (l m : List Blk) (i : Nat) (x y : Blk) : (l.set i x ++ m).set l.length y = l.set i x ++ m.set 0 y := by
  rw [List.set_append_right _ _ (by simp)]; simp
@[go_sem] theorem setapp_set (l m : List Blk) (i : Nat) (x y : Blk) (k : Nat) : (l.set i x ++ m).set (l.length + k) y = l.set i x ++ m.set k y := by
  rw [List.set_append_right _ _ (by simp)]; simp
attribute [go_sem] List.set_set List.length_set
@[go_sem] theorem toList_lit (l : List UInt8) : l.toArray.toList = l := rfl
@[go_sem] theorem set_self_of {l : List Blk} {i : Nat} {x : Blk} (h : l[i]? = some x) : l.set i x = l := by
  apply List.ext_getElem?
  intro j
  by_cases hj : i = j
  · subst hj; rw [List.getElem?_set_self (lt_of_get h), h]
  · rw [List.getElem?_set_ne hj]
@[go_sem] theorem lt_add_of {a n k : Nat} (h : a < n) : a < n + k := by omega
attribute [go_sem] Nat.add_lt_add_iff_left Nat.lt_add_right_iff_pos

/-! The rules of the interpreter; what comes behind is named, so that a rewriting does not run ahead in it -/
section
variable (C : Cfg) (f : FuncId)
def seqQ (b : Code) (Q : Post) : Post := fun e sl B => match e with
  | .normal => wpC C f b Q sl B
  | e => Q e sl B
def joinQ {S R : Type} (ks : List (Nat × Bool)) (x : S ⊕ R) (eS : S → List VV) (eB : S → List Blk) (Q : Post) : Post := fun e sl B => match e with
  | .normal => ∃ s', x = .inl s' ∧ norm ks B.length sl B = some (eS s', eB s')
  | e => Q e sl B
def seqK (a b : Code) (Q : Post) (sl : List VV) (B : List Blk) (j : Option (List (Nat × Bool))) : Prop := match j with
  | none => wpC C f a (seqQ C f b Q) sl B
  | some ks => wpC C f a (fun e sl' B' => match e with
      | .normal => match norm ks B'.length sl' B' with
        | some (sl1, B1) => wpC C f b Q sl1 B1
        | none => False
      | e => Q e sl' B') sl B
def blkQ (i : Nat) (Q : Post) : Post := fun e sl B => match e with
  | .exit j => if j = i then Q .normal sl B else Q (.exit j) sl B
  | e => Q e sl B
def loopQ {S R : Type} (ks : List (Nat × Bool)) (n : Nat) (x : S ⊕ R) (eS : S → List VV) (eB : S → List Blk) (Q : Post) : Post := fun e sl B => match e with
  | .normal => ∃ s', x = .inl s' ∧ norm ks n sl B = some (eS s', eB s')
  | e => Q e sl B
def opsK (ops : Array Oper) (Q : Post) (rest : List Oper) (d : Option Tmp) (x : Option (VV × List VV × List Blk)) : Prop := match x with
  | none => False
  | some (v, sl, B) => wpO C f ops Q rest (putS sl d v) B
def retK (ops : Array Oper) (Q : Post) (rest : List Oper) (d : Option Tmp) (sl : List VV) (r : VV) (B : List Blk) : Prop := wpO C f ops Q rest (putS sl d r) B
def retP (ops : Array Oper) (Q : Post) (rest : List Oper) (d : Option Tmp) (sl : List VV) (B : List Blk) (r : VV) (_ : List Blk) : Prop := wpO C f ops Q rest (putS sl d r) B
def gateK (ops : Array Oper) (Q : Post) (o : Oper) (rest : List Oper) (sl : List VV) (B : List Blk) (x : Option Bool) : Prop := match x with
  | none => False
  | some false => wpO C f ops Q rest (putS sl o.dst (.tup [])) B
  | some true => if isCall o = true then wpCall C f o sl B (wpO C f ops Q rest) else opsK C f ops Q rest o.dst (vop C f o sl B)
def condK (a b : Code) (Q : Post) (sl : List VV) (B : List Blk) (v : VV) : Prop := match v with
  | .lit (.bool t) => if t = true then wpC C f a Q sl B else wpC C f b Q sl B
  | _ => False
def keepK (b : Code) (Q : Post) (sl : List VV) (B : List Blk) (x : Option (List (Nat × Bool))) : Prop := match x with
  | none => False
  | some ks => match norm ks B.length sl B with
    | some (sl1, B1) => wpLoop C f b ks B.length Q sl1 B1
    | none => False
def normK (b : Code) (Q : Post) (ks : List (Nat × Bool)) (n : Nat) (x : Option (List VV × List Blk)) : Prop := match x with
  | some (sl1, B1) => wpLoop C f b ks n Q sl1 B1
  | none => False
def argsK (ops : Array Oper) (Q : Post) (rest : List Oper) (d : Option Tmp) (g : FuncId) (caps : List VV) (x : Option (List VV × List VV × List Blk)) : Prop := match x with
  | none => False
  | some (vs, sl, B) => Vc C g (vs ++ caps) B (retK C f ops Q rest d sl)
def pargK (ops : Array Oper) (Q : Post) (rest : List Oper) (d : Option Tmp) (g : FuncId) (caps : List VV) (B : List Blk) (x : List VV × List VV) : Prop :=
  okRs 0 x.1 = true ∧ okRs 0 caps = true ∧ Vc C g (x.1 ++ caps) [] (retP C f ops Q rest d x.2 B)
def pureK (ops : Array Oper) (Q : Post) (rest : List Oper) (d : Option Tmp) (sl : List VV) (B : List Blk) (g : FuncId) (as : List Operand) (caps : List VV) (p : Bool) : Prop :=
  if p = true then pargK C f ops Q rest d g caps B (pargs C g sl 0 as) else argsK C f ops Q rest d g caps (vargs C g sl B 0 as)
def callK (ops : Array Oper) (Q : Post) (rest : List Oper) (d : Option Tmp) (sl : List VV) (B : List Blk) (x : Option (FuncId × List Operand × List VV)) : Prop := match x with
  | none => False
  | some (g, as, caps) => pureK C f ops Q rest d sl B g as caps (C.pure g)
def okK (n : Nat) (R : VV → List Blk → Prop) (x : Option (List VV × List Blk)) : Prop := match x with
  | none => False
  | some (vs, B) => okRs n vs = true ∧ R (tuple1 vs) (B.take n)
def rawK (g : FuncId) (n : Nat) (R : VV → List Blk → Prop) (B : List Blk) (vs : List VV) (p : Bool) : Prop :=
  if p = true then R (tuple1 vs) B else okK n R (freezeR (C.resm g == .own) B vs)
def resK (g : FuncId) (n : Nat) (R : VV → List Blk → Prop) (B : List Blk) (x : Option (List VV)) : Prop := match x with
  | none => False
  | some vs => rawK C g n R B vs (C.raw g)
end
section
variable (C : Cfg) (f : FuncId) (Q : Post) (sl : List VV) (B : List Blk)
@[go_sem] theorem seqQ_normal (b : Code) : seqQ C f b Q .normal sl B = wpC C f b Q sl B := rfl
@[go_sem] theorem seqQ_ret (b : Code) : seqQ C f b Q .ret sl B = Q .ret sl B := rfl
@[go_sem] theorem seqQ_exit (b : Code) (i : Nat) : seqQ C f b Q (.exit i) sl B = Q (.exit i) sl B := rfl
section
variable {S R : Type} (ks : List (Nat × Bool)) (x : S ⊕ R) (eS : S → List VV) (eB : S → List Blk)
@[go_sem] theorem joinQ_normal : joinQ ks x eS eB Q .normal sl B = ∃ s', x = .inl s' ∧ norm ks B.length sl B = some (eS s', eB s') := rfl
@[go_sem] theorem joinQ_ret : joinQ ks x eS eB Q .ret sl B = Q .ret sl B := rfl
@[go_sem] theorem joinQ_exit (i : Nat) : joinQ ks x eS eB Q (.exit i) sl B = Q (.exit i) sl B := rfl
end
@[go_sem] theorem blkQ_normal (i : Nat) : blkQ i Q .normal sl B = Q .normal sl B := rfl
@[go_sem] theorem blkQ_ret (i : Nat) : blkQ i Q .ret sl B = Q .ret sl B := rfl
@[go_sem] theorem blkQ_same (i : Nat) : blkQ i Q (.exit i) sl B = Q .normal sl B := by simp [blkQ]
@[go_sem] theorem blkQ_other (i j : Nat) (h : (j == i) = false) : blkQ i Q (.exit j) sl B = Q (.exit j) sl B := by
  have : j ≠ i := by simpa using h
  simp [blkQ, this]
section
variable {S R : Type} (ks : List (Nat × Bool)) (n : Nat) (x : S ⊕ R) (eS : S → List VV) (eB : S → List Blk)
@[go_sem] theorem loopQ_normal : loopQ ks n x eS eB Q .normal sl B = ∃ s', x = .inl s' ∧ norm ks n sl B = some (eS s', eB s') := rfl
@[go_sem] theorem loopQ_ret : loopQ ks n x eS eB Q .ret sl B = Q .ret sl B := rfl
@[go_sem] theorem loopQ_exit (i : Nat) : loopQ ks n x eS eB Q (.exit i) sl B = Q (.exit i) sl B := rfl
end
@[go_sem] theorem opsK_some (ops : Array Oper) (rest : List Oper) (d : Option Tmp) (v : VV) : opsK C f ops Q rest d (some (v, sl, B)) = wpO C f ops Q rest (putS sl d v) B := rfl
theorem retK_eq (ops : Array Oper) (rest : List Oper) (d : Option Tmp) (r : VV) : retK C f ops Q rest d sl r B = wpO C f ops Q rest (putS sl d r) B := rfl
theorem retP_eq (ops : Array Oper) (rest : List Oper) (d : Option Tmp) (r : VV) (B' : List Blk) : retP C f ops Q rest d sl B r B' = wpO C f ops Q rest (putS sl d r) B := rfl
attribute [go_sem] retK_eq retP_eq
@[go_sem] theorem gateK_false (ops : Array Oper) (o : Oper) (rest : List Oper) : gateK C f ops Q o rest sl B (some false) = wpO C f ops Q rest (putS sl o.dst (.tup [])) B := rfl
def goK (ops : Array Oper) (Q : Post) (o : Oper) (rest : List Oper) (sl : List VV) (B : List Blk) (x : Bool) : Prop :=
  if x = true then wpCall C f o sl B (wpO C f ops Q rest) else opsK C f ops Q rest o.dst (vop C f o sl B)
@[go_sem] theorem gateK_true (ops : Array Oper) (o : Oper) (rest : List Oper) : gateK C f ops Q o rest sl B (some true) = goK C f ops Q o rest sl B (isCall o) := rfl
@[go_sem] theorem goK_false (ops : Array Oper) (o : Oper) (rest : List Oper) : goK C f ops Q o rest sl B false = opsK C f ops Q rest o.dst (vop C f o sl B) := by simp [goK]
@[go_sem] theorem goK_call (ops : Array Oper) (rest : List Oper) (d : Option Tmp) (t : TypeId) (p : String) (af : Array Edge) (gd : Option (Nat × Bool)) (x : Operand) (args : Array Operand) (ts : Array TypeId) :
    goK C f ops Q { dst := d, op := .call { callee := .value x, args := args, argTypes := ts }, type := t, pos := p, after := af, guard := gd } rest sl B true =
      callK C f ops Q rest d sl B (callee C sl { callee := .value x, args := args, argTypes := ts }) := by
  show wpCall C f { dst := d, op := .call { callee := .value x, args := args, argTypes := ts }, type := t, pos := p, after := af, guard := gd } sl B (wpO C f ops Q rest) = _
  unfold wpCall callK
  simp only
  cases callee C sl { callee := .value x, args := args, argTypes := ts } with
  | none => rfl
  | some r =>
    obtain ⟨g, as, caps⟩ := r
    simp only [pureK]
    split
    · rfl
    · rfl
@[go_sem] theorem condK_true (a b : Code) : condK C f a b Q sl B (.lit (.bool true)) = wpC C f a Q sl B := by simp [condK]
@[go_sem] theorem condK_false (a b : Code) : condK C f a b Q sl B (.lit (.bool false)) = wpC C f b Q sl B := by simp [condK]
@[go_sem] theorem keepK_some (b : Code) (ks : List (Nat × Bool)) : keepK C f b Q sl B (some ks) = normK C f b Q ks B.length (norm ks B.length sl B) := by
  unfold keepK normK
  rfl
@[go_sem] theorem normK_some (b : Code) (ks : List (Nat × Bool)) (n : Nat) : normK C f b Q ks n (some (sl, B)) = wpLoop C f b ks n Q sl B := rfl
@[go_sem] theorem argsK_some (ops : Array Oper) (rest : List Oper) (d : Option Tmp) (g : FuncId) (caps vs : List VV) : argsK C f ops Q rest d g caps (some (vs, sl, B)) = Vc C g (vs ++ caps) B (retK C f ops Q rest d sl) := rfl
@[go_sem] theorem pargK_some (ops : Array Oper) (rest : List Oper) (d : Option Tmp) (g : FuncId) (caps vs : List VV) : pargK C f ops Q rest d g caps B (vs, sl) = (okRs 0 vs = true ∧ okRs 0 caps = true ∧ Vc C g (vs ++ caps) [] (retP C f ops Q rest d sl B)) := rfl
@[go_sem] theorem pureK_true (ops : Array Oper) (rest : List Oper) (d : Option Tmp) (g : FuncId) (as : List Operand) (caps : List VV) : pureK C f ops Q rest d sl B g as caps true = pargK C f ops Q rest d g caps B (pargs C g sl 0 as) := by simp [pureK]
@[go_sem] theorem pureK_false (ops : Array Oper) (rest : List Oper) (d : Option Tmp) (g : FuncId) (as : List Operand) (caps : List VV) : pureK C f ops Q rest d sl B g as caps false = argsK C f ops Q rest d g caps (vargs C g sl B 0 as) := by simp [pureK]
@[go_sem] theorem callK_some (ops : Array Oper) (rest : List Oper) (d : Option Tmp) (g : FuncId) (as : List Operand) (caps : List VV) : callK C f ops Q rest d sl B (some (g, as, caps)) = pureK C f ops Q rest d sl B g as caps (C.pure g) := rfl
@[go_sem] theorem wpO_nil (ops : Array Oper) : wpO C f ops Q [] sl B = Q .normal sl B := by simp only [wpO]
@[go_sem] theorem wpO_cons (ops : Array Oper) (o : Oper) (rest : List Oper) : wpO C f ops Q (o :: rest) sl B = gateK C f ops Q o rest sl B (gate ops sl o) := by
  conv => lhs; unfold wpO
  unfold gateK
  cases gate ops sl o with
  | none => rfl
  | some b => cases b <;> rfl
@[go_sem] theorem wpC_skip : wpC C f .skip Q sl B = Q .normal sl B := by simp only [wpC]
@[go_sem] theorem wpC_ret : wpC C f .ret Q sl B = Q .ret sl B := by simp only [wpC]
@[go_sem] theorem wpC_exit (i : Nat) : wpC C f (.exit i) Q sl B = Q (.exit i) sl B := by simp only [wpC]
@[go_sem] theorem wpC_seq (a b : Code) : wpC C f (.seq a b) Q sl B = seqK C f a b Q sl B (C.join f (firstRegion b)) := by
  conv => lhs; unfold wpC
  unfold seqK joinS
  cases C.join f (firstRegion b) with
  | none => rfl
  | some ks => rfl
@[go_sem] theorem seqK_none (a b : Code) : seqK C f a b Q sl B none = wpC C f a (seqQ C f b Q) sl B := rfl
@[go_sem] theorem wpC_cond (x : Operand) (a b : Code) : wpC C f (.cond x a b) Q sl B = condK C f a b Q sl B (ev C sl x) := by
  conv => lhs; unfold wpC
  rfl
@[go_sem] theorem wpC_block (i : Nat) (b : Code) : wpC C f (.block i b) Q sl B = wpC C f b (blkQ i Q) sl B := by
  conv => lhs; unfold wpC
  rfl
@[go_sem] theorem wpC_region (i : Nat) (ops : Array Oper) (d : Bool) : wpC C f (.region i ops d) Q sl B = wpO C f ops (dynQ (C.dyn f i) Q) ops.toList sl B := by simp only [wpC]
@[go_sem] theorem dynQ_nil : dynQ [] Q = Q := by
  funext e sl B
  simp [dynQ, dynAll]
@[go_sem] theorem dynQ_cons (a b : Tmp) (ds : List (Tmp × Tmp)) (e : Ex) : dynQ ((a, b) :: ds) Q e sl B = (ptrNe (getS sl a) (getS sl b) = true ∧ dynQ ds Q e sl B) := by
  simp [dynQ, dynAll, and_assoc]
@[go_sem] theorem ptrNe_ptr (p q o o' : Nat) : (ptrNe (.ptr p o) (.ptr q o') = true) = (p ≠ q) := by simp [ptrNe]
@[go_sem] theorem wpC_loop (b : Code) : wpC C f (.loop b) Q sl B = keepK C f b Q sl B (C.keep f (firstRegion b)) := by
  conv => lhs; unfold wpC
  unfold keepK
  rfl
variable (g : FuncId) (rs : Array ResultVar) (n : Nat) (R : VV → List Blk → Prop)
theorem fin_any (e : Ex) (h : ∀ i, e ≠ .exit i) : fin C g rs n R e sl B = resK C g n R B (resL C sl B rs.toList) := by
  unfold fin resK
  cases resL C sl B rs.toList with
  | none => simp
  | some vs =>
    simp only [h, ne_eq, not_false_eq_true, implies_true, true_and, rawK]
    split
    · rfl
    · unfold okK; rfl
@[go_sem] theorem fin_normal : fin C g rs n R .normal sl B = resK C g n R B (resL C sl B rs.toList) := fin_any _ _ _ _ _ _ _ _ (by simp)
@[go_sem] theorem fin_ret : fin C g rs n R .ret sl B = resK C g n R B (resL C sl B rs.toList) := fin_any _ _ _ _ _ _ _ _ (by simp)
@[go_sem] theorem resK_some (vs : List VV) : resK C g n R B (some vs) = rawK C g n R B vs (C.raw g) := rfl
@[go_sem] theorem rawK_true (vs : List VV) : rawK C g n R B vs true = R (tuple1 vs) B := by simp [rawK]
@[go_sem] theorem rawK_false (vs : List VV) : rawK C g n R B vs false = okK n R (freezeR (C.resm g == .own) B vs) := by simp [rawK]
@[go_sem] theorem okK_some (vs : List VV) : okK n R (some (vs, B)) = (okRs n vs = true ∧ R (tuple1 vs) (B.take n)) := rfl
end
/-- ways meet -/
theorem seqK_join {C : Cfg} {S R : Type} {f : FuncId} {a b : Code} {ks : List (Nat × Bool)} {Q : Post} {x : S ⊕ R} (eS : S → List VV) (eB : S → List Blk) {sl : List VV} {B : List Blk}
    (h1 : wpC C f a (joinQ ks x eS eB Q) sl B) (h2 : ∀ s, x = .inl s → wpC C f b Q (eS s) (eB s)) : seqK C f a b Q sl B (some ks) := by
  unfold seqK
  refine wpC_mono h1 fun e sl' B' hq => ?_
  cases e with
  | normal =>
    obtain ⟨s', rfl, hn⟩ := hq
    simp only [hn]
    exact h2 s' rfl
  | exit i => exact hq
  | ret => exact hq
/-- a value of ways that meet, and what is done with it -/
def jn {S R : Type} (x : Option (S ⊕ R)) (k : S → Option R) : Option R := x.bind fun y => match y with
  | .inl s => k s
  | .inr r => some r
theorem jn_some {S R : Type} {x : Option (S ⊕ R)} {k : S → Option R} {r : R} (h : jn x k = some r) : ∃ y, x = some y ∧ (∀ s, y = .inl s → k s = some r) ∧ ∀ r', y = .inr r' → r' = r := by
  unfold jn at h
  obtain ⟨y, h1, h2⟩ := Option.bind_eq_some_iff.1 h
  refine ⟨y, h1, ?_, ?_⟩
  · rintro s rfl; exact h2
  · rintro r' rfl; simpa using h2
theorem jn_inl {S R : Type} {s : S} {k : S → Option R} : jn (some (.inl s)) k = k s := rfl
theorem jn_inr {S R : Type} {r : R} {k : S → Option R} : jn (some (.inr r)) k = some r := rfl
theorem jn_ite {S R : Type} {c : Prop} [Decidable c] {x y : Option (S ⊕ R)} {k : S → Option R} : jn (if c then x else y) k = if c then jn x k else jn y k := by split <;> rfl
theorem jn_bind {A S R : Type} {x : Option A} {g : A → Option (S ⊕ R)} {k : S → Option R} : jn (x.bind g) k = x.bind fun a => jn (g a) k := by cases x <;> rfl
theorem wpLoop_run' {C : Cfg} {S R : Type} {f : FuncId} {b : Code} {ks : List (Nat × Bool)} {n : Nat} {Q : Post} {step : S → Option (S ⊕ R)} {r : R} (eS : S → List VV) (eB : S → List Blk) {s : S} {sl : List VV} {B : List Blk}
    (h : run step s = some r) (hd : drawsOk C f b = true) (hs : sl = eS s) (hB : B = eB s)
    (round : ∀ s x, step s = some x → (∀ r', x = .inr r' → r' = r) → wpC C f b (loopQ ks n x eS eB Q) (eS s) (eB s)) : wpLoop C f b ks n Q sl B :=
  wpLoop_run eS eB h hd hs hB fun s x h1 h2 => wpC_mono (round s x h1 h2) fun e sl' B' hq => by cases e <;> exact hq

/-! Made arrays, arrays, tables -/
def inM (n : Nat) (i : Int) : Option Nat := if 0 ≤ i ∧ i.toNat < n then some i.toNat else none
def setJ {α : Type} (xs : List α) (j : Nat) (v : α) : Option (List α) := if j < xs.length then some (xs.set j v) else none
def frz {α : Type} (n : Nat) (xs : List α) : Option (List α) := if n ≤ xs.length then some (xs.take n) else none
/-- a made array: elements of so many bytes -/
def mkA {α : Type} (n : Nat) (l : Int) (z : α) : Option (List α) := if 0 ≤ l ∧ l.toNat ≤ lim ∧ l.toNat * n ≤ lim then some (List.replicate l.toNat z) else none
theorem inM_some {n j : Nat} {i : Int} : inM n i = some j ↔ (0 ≤ i ∧ i.toNat < n) ∧ j = i.toNat := by
  unfold inM; split <;> simp [*, eq_comm]
theorem setJ_some {α : Type} {xs ys : List α} {j : Nat} {v : α} : setJ xs j v = some ys ↔ j < xs.length ∧ ys = xs.set j v := by
  unfold setJ; split <;> simp [*, eq_comm]
theorem frz_some {α : Type} {xs ys : List α} {n : Nat} : frz n xs = some ys ↔ n ≤ xs.length ∧ ys = xs.take n := by
  unfold frz; split <;> simp [*, eq_comm]
theorem mkA_some {α : Type} {xs : List α} {n : Nat} {l : Int} {z : α} : mkA n l z = some xs ↔ (0 ≤ l ∧ l.toNat ≤ lim ∧ l.toNat * n ≤ lim) ∧ xs = List.replicate l.toNat z := by
  unfold mkA
  split
  · rename_i h; simp [h, eq_comm]
  · rename_i h; constructor
    · intro h'; cases h'
    · rintro ⟨h', _⟩; exact (h h').elim
/-- the first elements of a made array -/
def upM (n : Nat) (i : Int) : Option Nat := if 0 < i ∧ i ≤ n then some i.toNat else none
theorem upM_some {n j : Nat} {i : Int} : upM n i = some j ↔ (0 < i ∧ i ≤ n) ∧ j = i.toNat := by
  unfold upM; split <;> simp [*, eq_comm]
theorem vslice_mref {P : Program} {t : TypeId} {id n j : Nat} {ag : Bool} {k : IntKind} {i : Int} (hj : upM n i = some j) (hz : (elemT P t).map (szT P) = some 1) :
    vslice P t (.mref id ag 1 0 n) none (some (.lit (.int k i))) = some (.mref id ag 1 0 j) := by
  obtain ⟨u, hu, hz⟩ := Option.map_eq_some_iff.1 hz
  obtain ⟨⟨h1, h2⟩, rfl⟩ := upM_some.1 hj
  have e1 : (0 : Int) ≤ i ∧ i ≤ n := by omega
  have e2 : (0 : Int) ≤ 0 ∧ (0 : Int) ≤ (i.toNat : Int) := by omega
  have e3 : 0 < i.toNat := by omega
  simp only [vslice, Option.getD_none, bound_int, e1, and_self, if_true, e2, hu, hz, Int.toNat_zero, e3, Nat.add_zero, Nat.sub_zero]
/-- bytes as a string -/
def str8 (xs : List Int) : Option (List UInt8) := if xs.length ≤ lim ∧ xs.all (fun n => decide (0 ≤ n ∧ n ≤ 255)) = true then some (xs.map fun n => UInt8.ofNat n.toNat) else none
theorem bytesOf_map : ∀ (xs : List Int), bytesOf (xs.map (En.int .u8).enc) = if xs.all (fun n => decide (0 ≤ n ∧ n ≤ 255)) = true then some (xs.map fun n => UInt8.ofNat n.toNat) else none
  | [] => rfl
  | x :: xs => by
    simp only [List.map_cons, En.int_enc, bytesOf]
    rw [show List.map (En.int .u8).enc xs = xs.map (En.int .u8).enc from rfl, bytesOf_map xs, List.all_cons]
    generalize xs.all (fun n => decide (0 ≤ n ∧ n ≤ 255)) = p
    cases p
    · simp only [Bool.false_eq_true, if_false, Bool.and_false]
    · by_cases hx : 0 ≤ x ∧ x ≤ 255
      · simp only [if_true, hx, and_self, decide_true, Bool.and_true]
      · simp only [if_true, hx, if_false, decide_false, Bool.and_true, Bool.false_eq_true]
theorem vconv_str8 {P : Program} {src dst : TypeId} {f : Fl} {xs : List Int} {s : List UInt8} (h : str8 xs = some s) (he : (elemT P src).bind (intT P) = some .u8) (h' : strT P dst = true) :
    vconv P src dst (.sl f (xs.map (En.int .u8).enc)) = some (.lit (.string (bs s))) := by
  obtain ⟨e, h1, h2⟩ := Option.bind_eq_some_iff.1 he
  unfold str8 at h
  split at h
  · rename_i hc
    cases h
    simp only [vconv, h1, h2, h', List.length_map, hc.1, and_self, if_true, bytesOf_map, hc.2]
    rfl
  · cases h
theorem vindexAddr_mref {P : Program} {t : TypeId} {id n j : Nat} {ag : Bool} {k : IntKind} {i : Int} (hj : inM n i = some j) (hz : (elemT P t).map (szT P) = some 1) :
    vindexAddr P t (.mref id ag 1 0 n) (.lit (.int k i)) = some (.ptr id j) := by
  obtain ⟨u, hu, hz⟩ := Option.map_eq_some_iff.1 hz
  obtain ⟨⟨h1, h2⟩, rfl⟩ := inM_some.1 hj
  simp only [vindexAddr, asIx, h1, h2, hu, hz, if_true, Nat.mul_one, Nat.zero_add, and_self]
theorem vindexAddr_arr {P : Program} {t : TypeId} {id off n j : Nat} {k : IntKind} {i : Int} (hj : inM n i = some j) (hz : (arrT P t).map (fun p => (p.1, szT P p.2)) = some (n, 1)) :
    vindexAddr P t (.ptr id off) (.lit (.int k i)) = some (.ptr id (off + j)) := by
  obtain ⟨⟨m, u⟩, hu, hz⟩ := Option.map_eq_some_iff.1 hz
  simp only [Prod.mk.injEq] at hz
  obtain ⟨rfl, hz2⟩ := hz
  obtain ⟨⟨h1, h2⟩, rfl⟩ := inM_some.1 hj
  simp only [vindexAddr, asIx, h1, h2, hu, hz2, if_true, Nat.mul_one, Nat.zero_add, and_self]
theorem vindexAddr_tab {P : Program} {t : TypeId} {cs : List VV} {off n j : Nat} {k : IntKind} {i : Int} (hj : inM n i = some j) (hz : (arrT P t).map (fun p => (p.1, szT P p.2)) = some (n, 1)) :
    vindexAddr P t (.elp cs off) (.lit (.int k i)) = some (.elp cs (off + j)) := by
  obtain ⟨⟨m, u⟩, hu, hz⟩ := Option.map_eq_some_iff.1 hz
  simp only [Prod.mk.injEq] at hz
  obtain ⟨rfl, hz2⟩ := hz
  obtain ⟨⟨h1, h2⟩, rfl⟩ := inM_some.1 hj
  simp only [vindexAddr, asIx, h1, h2, hu, hz2, if_true, Nat.mul_one, Nat.zero_add, and_self]
/-- an element of an array of cells -/
theorem vindex_tab {α : Type} (e : En α) {P : Program} {t : TypeId} {xs : List α} {k : IntKind} {i : Int} (hz : (arrT P t).map (fun p => (p.1, szT P p.2, aggT P p.2)) = some (xs.length, 1, some false)) :
    vindex P t (.agg (xs.map e.enc)) (.lit (.int k i)) = (idx xs i).map e.enc := by
  obtain ⟨⟨m, u⟩, hu, hz⟩ := Option.map_eq_some_iff.1 hz
  simp only [Prod.mk.injEq] at hz
  obtain ⟨rfl, hz, hg⟩ := hz
  unfold vindex asIx idx
  by_cases h0 : 0 ≤ i
  · simp only [h0, if_true, hu, hz, readAt, hg, Nat.mul_one]
    by_cases hl : i.toNat < xs.length
    · simp only [hl, if_true, List.getElem?_map]
    · simp only [hl, if_false, List.getElem?_eq_none (Nat.le_of_not_lt hl), Option.map_none]
  · simp only [h0, if_false, Option.map_none]
theorem splice_en {α : Type} (e : En α) {xs ys : List α} {j : Nat} {v : α} (h : setJ xs j v = some ys) : splice (xs.map e.enc) j [e.enc v] = ys.map e.enc := by
  obtain ⟨h1, rfl⟩ := setJ_some.1 h
  apply List.ext_getElem?
  intro i
  unfold splice
  simp only [List.length_cons, List.length_nil, List.getElem?_map, List.append_assoc]
  by_cases h2 : i < j
  · rw [List.getElem?_append_left (by simp; omega), List.getElem?_take_of_lt h2, List.getElem?_map, List.getElem?_set_ne (by omega)]
  · rw [List.getElem?_append_right (by simp; omega)]
    have hl : (List.take j (List.map e.enc xs)).length = j := by simp; omega
    rw [hl]
    by_cases h3 : i = j
    · subst h3
      rw [Nat.sub_self, List.getElem?_set_self h1]; rfl
    · obtain ⟨d, hd⟩ : ∃ d, i - j = d + 1 := ⟨i - j - 1, by omega⟩
      rw [hd, List.getElem?_set_ne (by omega)]
      simp only [List.singleton_append, List.getElem?_cons_succ, List.getElem?_drop, List.getElem?_map]
      congr 2; omega
def frzK (B : List Blk) (id n : Nat) (x : Option Blk) : Option (VV × List Blk) := match x with
  | some b => if n ≤ b.cells.length ∧ b.cells.all (fun c => okC 0 c && !ownC c) = true then some (.sl .view (b.cells.take n), B.set id (.ro b.cells)) else none
  | none => none
theorem groupN_one : ∀ (n : Nat) (cs : List VV), n ≤ cs.length → groupN false 1 n cs = cs.take n
  | 0, _, _ => rfl
  | n + 1, [], h => by simp at h
  | n + 1, c :: cs, h => by
    simp only [groupN, Bool.false_eq_true, if_false, List.headD_cons, List.take_succ_cons, List.drop_succ_cons, List.drop_zero]
    rw [groupN_one n cs (by simpa using h)]
@[go_sem] theorem freezeC_mref (B : List Blk) (id n : Nat) : freezeC B (.mref id false 1 0 n) = frzK B id n B[id]? := by
  simp only [freezeC]
  unfold frzK
  cases B[id]? with
  | none => rfl
  | some b =>
    simp only [Nat.zero_add, Nat.mul_one, Nat.lt_add_one, true_and, Nat.zero_mul, List.drop_zero, or_true]
    by_cases h : n ≤ b.cells.length
    · simp only [h, true_and, groupN_one n _ h]
    · simp only [h, false_and, if_false]
@[go_sem] theorem freeze_mref (B : List Blk) (id n : Nat) : freeze B (.mref id false 1 0 n) = frzK B id n B[id]? := freezeC_mref B id n
theorem frzK_en {α : Type} (e : En α) (h1 : ∀ a, okC 0 (e.enc a) = true) (h2 : ∀ a, ownC (e.enc a) = false) (B : List Blk) (id n : Nat) (xs : List α) :
    frzK B id n (some (.var (xs.map e.enc))) = (frz n xs).map fun zs => (.sl .view (zs.map e.enc), B.set id (.ro (xs.map e.enc))) := by
  unfold frzK frz
  have : (xs.map e.enc).all (fun c => okC 0 c && !ownC c) = true := by
    rw [List.all_map, List.all_eq_true]
    intro a _
    simp [h1, h2]
  simp only [Blk.cells, List.length_map, this, and_true]
  split
  · simp
  · rfl
@[go_sem] theorem frzK_int (k : IntKind) (B : List Blk) (id n : Nat) (xs : List Int) : frzK B id n (some (.var (xs.map (En.int k).enc))) = (frz n xs).map fun zs => (.sl .view (zs.map (En.int k).enc), B.set id (.ro (xs.map (En.int k).enc))) := frzK_en _ (fun _ => rfl) (fun _ => rfl) B id n xs
@[go_sem] theorem frzK_bool (B : List Blk) (id n : Nat) (xs : List Bool) : frzK B id n (some (.var (xs.map En.bool.enc))) = (frz n xs).map fun zs => (.sl .view (zs.map En.bool.enc), B.set id (.ro (xs.map En.bool.enc))) := frzK_en _ (fun _ => rfl) (fun _ => rfl) B id n xs
@[go_sem] theorem frzK_str (B : List Blk) (id n : Nat) (xs : List (List UInt8)) : frzK B id n (some (.var (xs.map En.str.enc))) = (frz n xs).map fun zs => (.sl .view (zs.map En.str.enc), B.set id (.ro (xs.map En.str.enc))) := frzK_en _ (fun _ => rfl) (fun _ => rfl) B id n xs
theorem flat_rep (n : Nat) (v : VV) : (List.replicate n [v]).flatten = List.replicate n v := by
  induction n with
  | zero => rfl
  | succ n ih => simp only [List.replicate_succ, List.flatten_cons, ih, List.singleton_append]
attribute [go_sem] flat_rep Nat.zero_add Nat.mul_one
def globV (x : Option (List VV)) : VV := match x with
  | some cs => .elp cs 0
  | none => .gone
@[go_sem] theorem ev_global (C : Cfg) (sl : List VV) (g : Nat) : ev C sl (.global g) = globV (C.glob g) := by
  unfold ev globV; rfl
@[go_sem] theorem globV_some (cs : List VV) : globV (some cs) = .elp cs 0 := rfl

/-! Recursion: what the answers with more and more rounds come to -/
def Lm {α : Type} (g : Nat → Option α) (l : Option α) : Prop := (∀ r, l = some r → ∃ k0, ∀ k, k0 ≤ k → g k = some r) ∧ ∀ k r, g k = some r → l = some r
theorem Lm.const {α : Type} (l : Option α) : Lm (fun _ => l) l := ⟨fun _ h => ⟨0, fun _ _ => h⟩, fun _ _ h => h⟩
theorem Lm.bind {α β : Type} {g : Nat → Option α} {l : Option α} {F : Nat → α → Option β} {F' : α → Option β} (h : Lm g l) (hF : ∀ a, Lm (fun k => F k a) (F' a)) : Lm (fun k => (g k).bind (F k)) (l.bind F') := by
  constructor
  · intro r hr
    obtain ⟨a, ha, hr⟩ := Option.bind_eq_some_iff.1 hr
    obtain ⟨k0, h0⟩ := h.1 a ha
    obtain ⟨k1, h1⟩ := (hF a).1 r hr
    exact ⟨max k0 k1, fun k hk => by show (g k).bind (F k) = some r; rw [h0 k (by omega)]; exact h1 k (by omega)⟩
  · intro k r hr
    obtain ⟨a, ha, hr⟩ := Option.bind_eq_some_iff.1 hr
    rw [h.2 k a ha]
    exact (hF a).2 k r hr
theorem Lm.map {α β : Type} {g : Nat → Option α} {l : Option α} {F : α → β} (h : Lm g l) : Lm (fun k => (g k).map F) (l.map F) := by
  have := Lm.bind (F := fun _ a => some (F a)) (F' := fun a => some (F a)) h fun a => Lm.const _
  simpa [Option.map_eq_bind, Function.comp_def] using this
theorem Lm.jn {S R : Type} {g : Nat → Option (S ⊕ R)} {l : Option (S ⊕ R)} {F : Nat → S → Option R} {F' : S → Option R} (h : Lm g l) (hF : ∀ a, Lm (fun k => F k a) (F' a)) : Lm (fun k => jn (g k) (F k)) (jn l F') := by
  unfold Go.Wv.jn
  refine Lm.bind h fun a => ?_
  cases a with
  | inl s => exact hF s
  | inr r => exact Lm.const _
theorem Lm.ite {α : Type} {c : Prop} [Decidable c] {g g' : Nat → Option α} {l l' : Option α} (h : Lm g l) (h' : Lm g' l') : Lm (fun k => if c then g k else g' k) (if c then l else l') := by
  by_cases hc : c
  · simpa only [hc, if_true] using h
  · simpa only [hc, if_false] using h'
theorem Lm.run {S R : Type} {f : Nat → S → Option (S ⊕ R)} {f' : S → Option (S ⊕ R)} (h : ∀ s, Lm (fun k => f k s) (f' s)) (s : S) : Lm (fun k => run (f k) s) (run f' s) := by
  constructor
  · intro r hr
    obtain ⟨n, hn⟩ := run_some.1 hr
    clear hr
    induction n generalizing s with
    | zero => simp [iter] at hn
    | succ n ih =>
      simp only [iter] at hn
      cases hf : f' s with
      | none => simp [hf] at hn
      | some x =>
        rw [hf] at hn
        obtain ⟨k0, h0⟩ := (h s).1 x hf
        cases x with
        | inl s' =>
          obtain ⟨k1, h1⟩ := ih s' hn
          exact ⟨max k0 k1, fun k hk => by show Go.Wv.run (f k) s = some r; have e0 : f k s = _ := h0 k (by omega); rw [run_eq, e0]; exact h1 k (by omega)⟩
        | inr r0 => exact ⟨k0, fun k hk => by show Go.Wv.run (f k) s = some r; have e0 : f k s = _ := h0 k hk; rw [run_eq, e0]; exact hn⟩
  · intro k r hr
    obtain ⟨n, hn⟩ := run_some.1 hr
    clear hr
    induction n generalizing s with
    | zero => simp [iter] at hn
    | succ n ih =>
      simp only [iter] at hn
      cases hf : f k s with
      | none => simp [hf] at hn
      | some x =>
        rw [hf] at hn
        have := (h s).2 k x hf
        show Go.Wv.run f' s = some r
        rw [run_eq, this]
        cases x with
        | inl s' => exact ih s' hn
        | inr r0 => exact hn
open Classical in
noncomputable def lim? {α : Type} (g : Nat → Option α) : Option α := if h : ∃ r k, g k = some r then some h.choose else none
theorem lim_Lm {α : Type} {g : Nat → Option α} (hm : ∀ k r, g k = some r → g (k + 1) = some r) : Lm g (lim? g) := by
  have hm' : ∀ k d r, g k = some r → g (k + d) = some r := by
    intro k d r h
    induction d with
    | zero => exact h
    | succ d ih => exact hm _ _ ih
  have key : ∀ k r, g k = some r → lim? g = some r := by
    intro k r h
    unfold lim?
    have hx : ∃ r k, g k = some r := ⟨r, k, h⟩
    rw [dif_pos hx]
    obtain ⟨k', h'⟩ := hx.choose_spec
    have h1 := hm' k k' _ h
    have h2 := hm' k' k _ h'
    rw [Nat.add_comm, h1] at h2
    exact h2.symm
  refine ⟨fun r h => ?_, key⟩
  unfold lim? at h
  split at h
  · rename_i hx
    obtain ⟨k', h'⟩ := hx.choose_spec
    cases h
    exact ⟨k', fun k hk => by obtain ⟨d, rfl⟩ : ∃ d, k = k' + d := ⟨k - k', by omega⟩; exact hm' _ _ _ h'⟩
  · cases h
theorem Lm.uniq {α : Type} {g : Nat → Option α} {l l' : Option α} (h : Lm g l) (h' : Lm (fun k => g (k + 1)) l') : l = l' := by
  apply Option.ext
  intro r
  constructor
  · intro hr
    obtain ⟨k0, h0⟩ := h.1 r hr
    exact h'.2 k0 r (h0 (k0 + 1) (by omega))
  · intro hr
    obtain ⟨k0, h0⟩ := h'.1 r hr
    exact h.2 (k0 + 1) r (h0 k0 (Nat.le_refl _))
theorem Lm.step {α : Type} {F : Nat → Option α} {a b : Option α} (h : ∀ r, a = some r → b = some r) (hF : ∀ j, F j = if j = 0 then a else b) : Lm F b := by
  constructor
  · intro r hr
    exact ⟨1, fun k hk => by rw [hF, if_neg (by omega)]; exact hr⟩
  · intro k r hr
    rw [hF] at hr
    split at hr
    · exact h r hr
    · exact hr
theorem Vc_closed {C : Cfg} {g : FuncId} {b : Bool} {k : Nat} (h : (vcall C k g [] []).map (fun r => match r.1 with
    | .lit (.bool x) => some x
    | _ => none) = some (some b)) (hm : ∀ k j r, vcall C k g [] [] = some r → k ≤ j → vcall C j g [] [] = some r) : Vc C g [] [] fun v _ => v = .lit (.bool b) := by
  obtain ⟨⟨v, B⟩, hr, h2⟩ := Option.map_eq_some_iff.1 h
  refine ⟨(v, B), ?_, k, fun j hj => hm k j _ hr hj⟩
  show v = _
  simp only at h2
  cases v with
  | lit x => cases x with
    | bool y => simp at h2; rw [h2]
    | _ => simp at h2
  | _ => simp at h2
theorem Vc_closedV {C : Cfg} {g : FuncId} {args : List VV} {v : VV} {k : Nat} (h : (vcall C k g args []).map Prod.fst = some v) (hm : ∀ k j r, vcall C k g args [] = some r → k ≤ j → vcall C j g args [] = some r) : Vc C g args [] fun r _ => r = v := by
  obtain ⟨⟨v', B⟩, hr, h2⟩ := Option.map_eq_some_iff.1 h
  exact ⟨(v', B), h2, k, fun j hj => hm k j _ hr hj⟩
attribute [go_sem] Int.cast_ofNat_Int
attribute [go_sem] Array.append_eq_append List.append_toArray List.append_eq
attribute [irreducible] jn
attribute [irreducible] retP retK opsK gateK goK condK callK pureK pargK argsK seqQ blkQ loopQ joinQ seqK
end Go.Wv
