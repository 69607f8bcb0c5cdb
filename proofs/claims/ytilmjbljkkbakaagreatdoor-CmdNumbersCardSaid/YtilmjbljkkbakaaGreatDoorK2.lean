/-
  A part of the proof: our library of the interpreter.
-/
import Derived.Test.YtilmjbljkkbakaaGreatDoorK
import Derived.ChangeSlices
set_option linter.unusedSimpArgs false
set_option linter.unusedVariables false
set_option linter.unusedSectionVars false
set_option linter.unnecessarySimpa false
set_option linter.deprecated false
/-! An argument that is a slice of integers: read in the world before the call, told to the interpreter, read again behind the call. -/
namespace Go.Wv
open Go.ChangeShapes Go.WideShapes Go.ChangeAt Go.RowKit Go.ChangeMaps
section
variable {H : Type} {enc : TypeId × Value → H} {P : Program}
theorem cell_heap {w : World} {b off : Nat} {v : Value} (h : w.cell? ⟨b, off, none⟩ = some v) : ∃ arr T fz, w.heap[b]? = some (.cells arr T fz) ∧ arr[off]? = some v := by
  unfold World.cell? at h
  split at h
  · rename_i c T fz hc
    exact ⟨c, T, fz, hc, by simpa using h⟩
  · cases h

theorem laid_ints {W : World} {name : String} {k : IntKind} {zs : List Int} {rest : List (String × DataW Unit)} {g : Nat} {t e : TypeId} {n : Nat}
    (hg : P.globalNamed name = some g) (hty : (P.globals[g]?).map (·.type) = some t) (ht : P.underlying t = some (.array n e)) (he : P.underlying e = some (.int k)) (hce : P.cellsOf e = 1) (hct : P.cellsOf t = n)
    (h : ∃ ps, DataW.LaidVars P W ((name, Lib.tabData k zs) :: rest) ps) : ∃ T fz, W.heap[g]? = some (.cells (zs.map fun z => Value.int k z).toArray T fz) := by
  obtain ⟨ps, g', t', cs, fuel, p, q, hg', ht', hvar, hd, _, _⟩ := h
  obtain rfl := Option.some.inj (hg.symm.trans hg')
  obtain rfl := Option.some.inj (hty.symm.trans ht')
  have hc := Lib.cells_of_tab ht he hce hct hd
  unfold World.var? at hvar
  rw [hg] at hvar
  simp only [Option.bind_some] at hvar
  split at hvar
  · rename_i arr T fz hw
    have := Option.some.inj hvar
    rw [hw, this, ← hc]
    exact ⟨T, fz, rfl⟩
  · cases hvar
/-- the cells of a table -/
def litCells : DataW Unit → List Value
  | .lit (.int k n) => [Value.int k n]
  | .lit (.string s) => [Value.string (bs s)]
  | .agg ds => ds.flatMap fun
    | .lit (.int k n) => [Value.int k n]
    | .lit (.string s) => [Value.string (bs s)]
    | _ => []
  | _ => []
def tabFlat : DataW Unit → Array Value
  | .agg ds => (ds.flatMap litCells).toArray
  | _ => #[]

/-- a slice of integers in a world -/
structure IntsAt (w : World) (k : IntKind) (v : Value) (zs : List Int) (b off len cap : Nat) : Prop where
  is : v = .slice (some ⟨b, off, none⟩) len cap
  le : len ≤ cap
  max : cap ≤ maxLen
  length : zs.length = cap
  cell : ∀ i, i < zs.length → w.cell? ⟨b, off + i, none⟩ = some (.int k (zs.getD i 0))
  wf : ∀ n ∈ zs, (Lit.int k n).wf = true

theorem okWide_slice {w : World} {r : Reach} {b0 : Nat} {t e : TypeId} {v : Value} (ht : P.underlying t = some (.slice e)) (h : Value.okWide P w r b0 t v) : v = .slice none 0 0 ∨ ∃ b off len cap, v = .slice (some ⟨b, off, none⟩) len cap := by
  unfold Value.okWide at h
  simp only [ht] at h
  unfold Cell.okWide at h
  simp only [ht] at h
  unfold Cell.ok at h
  rw [ht] at h
  split at h <;> first | exact h.elim | skip
  all_goals first | (rename_i h1; cases h1; done) | skip
  all_goals first | exact .inl rfl | skip
  rename_i a len cap h1
  obtain ⟨_, _, _, hs, _⟩ := h
  obtain ⟨b, off, sp⟩ := a
  simp only at hs
  subst hs
  exact .inr ⟨b, off, len, cap, rfl⟩

theorem open_ints_arg {w : World} {r : Reach} {b0 : Nat} {t e : TypeId} {k : IntKind} {v : Value} {d : DataW H} {ps : List MemPlace} (ht : P.underlying t = some (.slice e)) (he : P.underlying e = some (.int k)) (hc : P.cellsOf e = 1)
    (hval : Value.okWide P w r b0 t v) (hd : DataW.Trod enc P w 0 (fun _ => true) true t v d ps) :
    (v = .slice none 0 0 ∧ d = .nil ∧ ps = []) ∨
    ∃ (b off len cap : Nat) (zs : List Int), IntsAt w k v zs b off len cap ∧ d = .slice (lits k (zs.take len)) (lits k (zs.drop len)) ∧ ps = MemPlace.row ⟨b, off, none⟩ zs.length := by
  obtain ⟨fuel, hf⟩ := hd
  rcases open_ints ht he hc hf with ⟨h1, h2⟩ | ⟨a, len, cap, zs, h1, _, h3, h4, h5, h6, h7, h8⟩
  · rcases okWide_slice ht hval with rfl | ⟨b, off, len, cap, rfl⟩
    · cases h2; exact .inl ⟨rfl, rfl, rfl⟩
    · simp [Value.cells] at h1
  · rcases okWide_slice ht hval with rfl | ⟨b, off, len', cap', rfl⟩
    · simp [Value.cells] at h1
    · simp only [Value.cells, List.cons.injEq, Value.slice.injEq, Option.some.injEq, and_true] at h1
      obtain ⟨rfl, rfl, rfl⟩ := h1
      cases h6
      exact .inr ⟨b, off, len', cap', zs, ⟨rfl, h3, h4, by simpa using h5, fun i hi => by have := h7 i hi; rwa [add_plain] at this, h8⟩, rfl, rfl⟩

theorem IntsAt.shut {w : World} {t e : TypeId} {k : IntKind} {v : Value} {zs : List Int} {b off len cap : Nat} (h : IntsAt w k v zs b off len cap) (ht : P.underlying t = some (.slice e)) (he : P.underlying e = some (.int k)) (hc : P.cellsOf e = 1)
    {sp : Nat → Bool} (hsp : ∀ p ∈ MemPlace.row ⟨b, off, none⟩ zs.length, sp p.block = true) :
    DataW.Trod enc P w 0 sp true t v (.slice (lits k (zs.take len)) (lits k (zs.drop len))) (MemPlace.row ⟨b, off, none⟩ zs.length) := by
  have hz : zs.length = if sp b then cap else len := by
    by_cases h0 : cap = 0
    · have := h.le; have := h.length; split <;> omega
    · have : sp b = true := hsp (.cell b off) (List.mem_map.2 ⟨0, List.mem_range.2 (by have := h.length; omega), rfl⟩)
      rw [if_pos this]; exact h.length
  rw [h.is]
  exact ⟨_, shut_ints' 0 ht he hc (Nat.zero_le _) h.le h.max hz h.cell h.wf⟩
theorem nil_shut {w : World} {t e : TypeId} (ht : P.underlying t = some (.slice e)) {base : Nat} {sp : Nat → Bool} {hd : Bool} : DataW.Trod enc P w base sp hd t (.slice none 0 0) .nil [] :=
  ⟨1, by simp [DataW.trod, ht, Value.cells]⟩

theorem IntsAt.kept {w w' : World} {k : IntKind} {v : Value} {zs : List Int} {b off len cap : Nat} (h : IntsAt w k v zs b off len cap) (hk : ∀ i : Nat, i < w.heap.size → w'.heap[i]? = w.heap[i]?) : IntsAt w' k v zs b off len cap := by
  refine ⟨h.is, h.le, h.max, h.length, fun i hi => ?_, h.wf⟩
  have h1 := h.cell i hi
  obtain ⟨arr, T, fz, h2, _⟩ := cell_heap h1
  have h3 := hk b (heap_lt h2)
  rw [← h1]
  unfold World.cell?
  rw [h3]

/-- what is told of the block -/
def intsCells (k : IntKind) (off : Nat) (zs : List Int) : List VV := List.replicate off .gone ++ zs.map (En.int k).enc
def intsMore (k : IntKind) (b off : Nat) (zs : List Int) : Nat → Option (List VV) := fun x => if x = b then some (intsCells k off zs) else none

theorem IntsAt.told {w : World} {g : G} {k : IntKind} {v : Value} {zs : List Int} {b off len cap : Nat} (h : IntsAt w k v zs b off len cap) (hl : len ≠ 0) :
    ∀ x cs, intsMore k b off (zs.take len) x = some cs → ∃ arr T fz, w.heap[x]? = some (.cells arr T fz) ∧ cs.length ≤ arr.size ∧ ∀ (j : Nat) c, cs[j]? = some c → c ≠ .gone → ∃ u, arr[j]? = some u ∧ RepC g c u ∧ ownC c = false ∧ okC 0 c = true := by
  intro x cs hx
  unfold intsMore at hx
  split at hx
  · rename_i e
    subst e
    cases hx
    have hcap := h.le
    have hlen := h.length
    obtain ⟨arr, T, fz, h1, h2⟩ := cell_heap (h.cell (len - 1) (by omega))
    refine ⟨arr, T, fz, h1, ?_, ?_⟩
    · have := (Array.getElem?_eq_some_iff.1 h2).1
      simp only [intsCells, List.length_append, List.length_replicate, List.length_map, List.length_take]
      omega
    · intro j c hj hn
      rcases Nat.lt_or_ge j off with hlt | hge
      · rw [intsCells, List.getElem?_append_left (by simpa using hlt), List.getElem?_replicate, if_pos hlt] at hj
        exact absurd (Option.some.inj hj).symm hn
      · rw [intsCells, List.getElem?_append_right (by simpa using hge), List.length_replicate, List.getElem?_map] at hj
        obtain ⟨z, hz, rfl⟩ := Option.map_eq_some_iff.1 hj
        have hjl : j - off < len := by
          have := (List.getElem?_eq_some_iff.1 hz).1
          rw [List.length_take] at this; omega
        rw [List.getElem?_take_of_lt hjl] at hz
        have h3 := h.cell (j - off) (by omega)
        obtain ⟨arr', T', fz', h4, h5⟩ := cell_heap h3
        rw [h1] at h4
        cases h4
        rw [show off + (j - off) = j by omega] at h5
        exact ⟨_, h5, ⟨by rw [List.getD, hz]; rfl, rfl⟩, rfl, rfl⟩
  · cases hx

theorem IntsAt.rep {w : World} {g : G} {k : IntKind} {v : Value} {zs : List Int} {b off len cap : Nat} (h : IntsAt w k v zs b off len cap) (hg : len ≠ 0 → g.comm b = some ⟨intsCells k off (zs.take len), none⟩) :
    Rep g (.sl .view ((zs.take len).map (En.int k).enc)) v := by
  have hl : (zs.take len).length = len := by rw [List.length_take]; have := h.le; have := h.length; omega
  rw [h.is]
  show RepSl g .view _ _
  cases hz : zs.take len with
  | nil =>
    rw [hz] at hl
    simp only [List.length_nil] at hl
    subst hl
    exact ⟨_, _, rfl⟩
  | cons z r =>
    rw [hz] at hl
    have h0 : len ≠ 0 := by rw [← hl]; simp
    have hgc := hg h0
    rw [hz] at hgc
    have hfl : ∀ l : List Int, flatC (l.map (En.int k).enc) = l.map (En.int k).enc := by
      intro l
      unfold flatC
      induction l with
      | nil => rfl
      | cons a l ih => rw [List.map_cons, List.flatMap_cons, ih]; rfl
    have hle := h.le
    refine ⟨b, off, cap, _, 1, by rw [List.length_map, hl], by rw [List.length_map, hl]; exact hle, hgc, Nat.one_pos, ?_, ?_, ?_, (fun h => by cases h), ?_⟩
    · intro x hx
      obtain ⟨y, _, rfl⟩ := List.mem_map.1 (show x ∈ (z :: r).map (En.int k).enc from hx)
      rfl
    · simp [intsCells]
    · rw [hfl, Nat.mul_one]
      show List.take ((z :: r).map (En.int k).enc).length (List.drop off (List.replicate off .gone ++ (z :: r).map (En.int k).enc)) = _
      rw [List.drop_left' (by simp)]
      exact List.take_length
    · rw [hfl]
      intro c hc
      obtain ⟨y, _, rfl⟩ := List.mem_map.1 hc
      intro h; cases h
end
end Go.Wv
