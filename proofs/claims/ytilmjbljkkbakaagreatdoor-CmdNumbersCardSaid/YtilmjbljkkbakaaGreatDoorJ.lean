/-
  A part of the proof: our library of the interpreter.
-/
import Derived.Test.YtilmjbljkkbakaaGreatDoorX
set_option linter.unusedSimpArgs false
set_option linter.unusedVariables false
set_option linter.unusedSectionVars false
set_option linter.unnecessarySimpa false
set_option linter.deprecated false
/-! strings as a slice's elements -/
namespace Go.Wv
/-- the elements of a slice of strings, where they lie -/
theorem RepSl.strs {g : G} {B : List Blk} {w : World} (hs : Sto g B w) {f : Fl} {ss : List ByteArray} {u : Value} (h : RepSl g f (ss.map fun s => VV.lit (.string s)) u) (hne : ss ≠ []) :
    ∃ bk o c, u = .slice (some ⟨bk, o, none⟩) ss.length c ∧ ss.length ≤ c ∧ bk < w.heap.size ∧ ∀ (j : Nat) x, ss[j]? = some x → w.cell? ⟨bk, o + j, none⟩ = some (.string x) := by
  cases ss with
  | nil => exact absurd rfl hne
  | cons s ss =>
    obtain ⟨bk, o, c, com, sz, rfl, h1, h2, h3, h4, h5, h6, _⟩ := h
    have hsz : sz = 1 := by
      have := h4 (VV.lit (.string s)) (by simp)
      simpa [VV.cells] using this.symm
    subst hsz
    obtain ⟨arr, T, fz, k1, k2, k3, _⟩ := hs.comm bk com h2
    refine ⟨bk, o, c, by simp, by simpa using h1, heap_lt k1, fun j x hx => ?_⟩
    have hj : j < (s :: ss).length := by
      rcases Nat.lt_or_ge j (s :: ss).length with h | h
      · exact h
      · rw [List.getElem?_eq_none h] at hx; cases hx
    have hflat : flatC ((s :: ss).map fun s => VV.lit (.string s)) = (s :: ss).map fun s => VV.lit (.string s) := by
      unfold flatC
      induction (s :: ss) with
      | nil => rfl
      | cons a l ih => rw [List.map_cons, List.flatMap_cons, ih]; rfl
    have hcs : com.cs[o + j]? = some (VV.lit (.string x)) := by
      have h7 := congrArg (·[j]?) h6
      simp only [Nat.mul_one] at h7
      rw [List.getElem?_take_of_lt (by simpa using hj), List.getElem?_drop] at h7
      rw [h7]
      show (flatC ((s :: ss).map fun s => VV.lit (.string s)))[j]? = _
      rw [hflat, List.getElem?_map, hx]; rfl
    obtain ⟨u, hu, hr, _⟩ := k3 _ _ hcs (by intro h; cases h)
    obtain ⟨rfl, _⟩ := hr
    simp [World.cell?, k1, hu]
end Go.Wv
