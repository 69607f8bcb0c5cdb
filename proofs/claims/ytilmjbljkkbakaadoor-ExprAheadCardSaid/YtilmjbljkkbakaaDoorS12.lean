/-
  A part of the proof: our library of the interpreter.
-/
import Derived.Test.YtilmjbljkkbakaaDoorS11
set_option linter.unusedSimpArgs false
set_option linter.unusedVariables false
set_option linter.unusedSectionVars false
set_option linter.unnecessarySimpa false
set_option linter.deprecated false
namespace Go.Wv

theorem flatC_append (xs ys : List VV) : flatC (xs ++ ys) = flatC xs ++ flatC ys := by simp [flatC]
theorem flatC_set {sz : Nat} : ∀ {xs : List VV} {i : Nat} {v : VV}, (∀ x ∈ xs, x.cells.length = sz) → i < xs.length → v.cells.length = sz → flatC (xs.set i v) = splice (flatC xs) (i * sz) v.cells
  | [], i, v, _, h, _ => by simp at h
  | x :: xs, 0, v, h, _, hv => by
    have hx := h x (by simp)
    simp only [List.set_cons_zero, flatC, List.flatMap_cons, splice, Nat.zero_mul, List.take_zero, List.nil_append, Nat.zero_add]
    rw [hv, ← hx, List.drop_left]
  | x :: xs, i + 1, v, h, hi, hv => by
    have ih := flatC_set (xs := xs) (i := i) (fun y hy => h y (by simp [hy])) (by simpa using hi) hv
    have hx := h x (by simp)
    simp only [List.set_cons_succ, flatC, List.flatMap_cons] at ih ⊢
    rw [ih]
    unfold splice
    have hd : ∀ k, (x.cells ++ List.flatMap VV.cells xs).drop (x.cells.length + k) = (List.flatMap VV.cells xs).drop k := fun k => by rw [← List.drop_drop, List.drop_left]
    rw [show (i + 1) * sz = x.cells.length + i * sz by rw [hx, Nat.add_mul]; omega, List.take_length_add_append, Nat.add_assoc, hd]
    simp

section
variable {C : Cfg} {Pr : Nat → Prop} {f : FuncId} {o : Oper} {g : G} {sl sl' : List VV} {B B' : List Blk} {a : Act} {w : World} {v : VV}

theorem run_append_room' {P : Program} (t ty e : TypeId) (T : TypeId) (i : TypeInfo) (ht : P.underlying t = some (.slice e)) (hi : P.info? e = some i)
    (g sLen sCap : Nat) (cur : Array Value) (hg : w.heap[g]? = some (.cells cur T (0, 0)))
    (a : Addr) (m c : Nat) (news : List Value) (hl : news.length = m * i.size) (hnews : ∀ j u, news[j]? = some u → w.cell? (a.add j) = some u) (h1 : ∀ u ∈ news, u.oneCell' = true)
    (hroom : sLen + m ≤ sCap) (hfit : sLen * i.size + news.length ≤ cur.size) :
    (Builtin.append_ #[t, t] ty #[.slice (some ⟨g, 0, none⟩) sLen sCap, .slice (some a) m c]).run P w =
      .ok (.slice (some ⟨g, 0, none⟩) (sLen + m) sCap) (w.setRow g (cur.toList.take (sLen * i.size) ++ news ++ cur.toList.drop (sLen * i.size + news.length)).toArray) := by
  have hf := run_firstCells_some (P := P) w i.size m a m c news hl hnews
  have hst := run_storeCells_at P g (sLen * i.size) T news 0 cur w hg (by simpa using hfit) h1
  simp only [Nat.add_zero] at hst
  simp [Builtin.append_, run_underlying ht, sizeOf, typeInfo, hi, Builtin.lenOf, hroom, hf, Addr.add_lit, hst]

theorem run_append_zero {P : Program} (t ty e : TypeId) (i : TypeInfo) (ht : P.underlying t = some (.slice e)) (hi : P.info? e = some i) (b : Option Addr) (n c : Nat) (hc : n ≤ c) (b' : Option Addr) (c' : Nat) :
    (Builtin.append_ #[t, t] ty #[.slice b n c, .slice b' 0 c']).run P w = .ok (.slice b n c) w := by
  cases b <;> cases b' <;> simp [Builtin.append_, run_underlying ht, sizeOf, typeInfo, hi, Builtin.lenOf, hc, Builtin.firstCells, loadCells, loadCellsFrom, storeCells]

/-- the cells that a slice shows -/
theorem RepSl_cells (hs : Sto g B w) {fl : Fl} {xs : List VV} {u : Value} (h : RepSl g fl xs u) (hne : xs ≠ []) :
    ∃ b off c sz zs, u = .slice (some ⟨b, off, none⟩) xs.length c ∧ xs.length ≤ c ∧ 0 < sz ∧ (∀ x ∈ xs, x.cells.length = sz) ∧ zs.length = xs.length * sz ∧
      (∀ (j : Nat) u, zs[j]? = some u → w.cell? ((⟨b, off, none⟩ : Addr).add j) = some u) ∧ All2 (RepC g) (flatC xs) zs ∧ (∀ (j : Nat) c, (flatC xs)[j]? = some c → ownC c = false ∧ okC 0 c = true) := by
  have hv := RepSl_view h
  obtain ⟨y, ys, rfl⟩ := List.exists_cons_of_ne_nil hne
  obtain ⟨b, off, c, com, sz, rfl, h2, h3, h4, h5, h6, h7, _⟩ := hv
  obtain ⟨arr, T, fz, hh, hlen, hcs, _⟩ := hs.comm b com h3
  have hfl := flatC_length h5
  have hget : ∀ (j : Nat) c, (flatC (y :: ys))[j]? = some c → j < (y :: ys).length * sz ∧ com.cs[off + j]? = some c := by
    intro j c hc
    rw [← h7, List.getElem?_take] at hc
    split at hc
    · rw [List.getElem?_drop] at hc; exact ⟨by assumption, hc⟩
    · cases hc
  refine ⟨b, off, c, sz, (arr.toList.drop off).take ((y :: ys).length * sz), rfl, h2, h4, h5, by simp; simp at h6; omega, ?_, ?_, ?_⟩
  · intro j u hu
    rw [List.getElem?_take] at hu
    split at hu
    · rw [List.getElem?_drop] at hu
      rw [Addr_add', cell_of_row w b (off + j) arr T fz hh]
      simpa using hu
    · cases hu
  · refine All2.of_get (by rw [hfl]; simp; simp at h6; omega) fun j c' u hc hu => ?_
    obtain ⟨hj, hc'⟩ := hget j c' hc
    obtain ⟨u', e1, e2, _⟩ := hcs _ _ hc'
    rw [List.getElem?_take, if_pos hj, List.getElem?_drop] at hu
    rw [← Array.getElem?_toList, hu] at e1
    obtain rfl := Option.some.inj e1
    exact e2
  · intro j c' hc
    obtain ⟨_, hc'⟩ := hget j c' hc
    obtain ⟨u', _, _, e3, e4⟩ := hcs _ _ hc'
    exact ⟨e3, e4⟩

end
end Go.Wv
