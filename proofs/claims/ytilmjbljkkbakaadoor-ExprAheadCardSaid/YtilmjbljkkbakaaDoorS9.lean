/-
  A part of the proof: our library of the interpreter.
-/
import Derived.Test.YtilmjbljkkbakaaDoorS8
set_option linter.unusedSimpArgs false
set_option linter.unusedVariables false
set_option linter.unusedSectionVars false
set_option linter.unnecessarySimpa false
set_option linter.deprecated false
namespace Go.Wv

theorem heap_lt {w : World} {b : Nat} {o : Obj} (h : w.heap[b]? = some o) : b < w.heap.size := (Array.getElem?_eq_some_iff.1 h).1
theorem heap_old (w : World) (o : Obj) {b : Nat} (h : b < w.heap.size) : (w.alloc o).heap[b]? = w.heap[b]? := heap_alloc_old w o b h

def G.at (g : G) (n b : Nat) : G := { g with phi := fun i => if i = n then b else g.phi i }
theorem G.at_phi {g : G} {n b i : Nat} (h : i < n) : (g.at n b).phi i = g.phi i := by simp only [G.at]; rw [if_neg (by omega)]
theorem G.at_self {g : G} {n b : Nat} : (g.at n b).phi n = b := by simp [G.at]

section
variable {Pr : Nat → Prop} {g g' : G} {sl : List VV} {B : List Blk} {tm : List Value} {w w' : World}

theorem comm_same (h : ∀ b, g'.comm b = g.comm b) : ∀ b com, g.comm b = some com → ∃ com', g'.comm b = some com' ∧ com.cs <+: com'.cs :=
  fun b com hc => ⟨com, by rw [h]; exact hc, List.prefix_refl _⟩

theorem Sto.lt (h : Sto g B w) {b : Nat} {com : Com} (hc : g.comm b = some com) : b < w.heap.size := by
  obtain ⟨arr, T, fz, hh, _⟩ := h.comm b com hc
  exact heap_lt hh
theorem Sto.phi_lt (h : Sto g B w) {id : Nat} {cs : List VV} (hb : B[id]? = some (.var cs)) : g.phi id < w.heap.size := by
  obtain ⟨⟨arr, T, hh, _⟩, _⟩ := h.var id cs hb
  exact heap_lt hh

/-- A comm's cells, told of later. -/
theorem comm_cells {com : Com} {arr : Array Value} (hcomm : ∀ b com, g.comm b = some com → ∃ com', g'.comm b = some com' ∧ com.cs <+: com'.cs)
    (h : ∀ (j : Nat) c, com.cs[j]? = some c → ∃ u, arr[j]? = some u ∧ RepC g c u ∧ ownC c = false ∧ okC 0 c = true) :
    ∀ (j : Nat) c, com.cs[j]? = some c → ∃ u, arr[j]? = some u ∧ RepC g' c u ∧ ownC c = false ∧ okC 0 c = true := by
  intro j c hc
  obtain ⟨u, h1, h2, h3, h4⟩ := h j c hc
  exact ⟨u, h1, RepC_ext (n := 0) hcomm (fun i hi => absurd hi (Nat.not_lt_zero i)) (fun b hb => by rw [cntC_zero h3] at hb; omega) h4 h2, h3, h4⟩

theorem get_append_one {x : Blk} {i : Nat} {y : Blk} (h : (B ++ [x])[i]? = some y) : (i < B.length ∧ B[i]? = some y) ∨ (i = B.length ∧ y = x) := by
  rcases Nat.lt_or_ge i B.length with hl | hl
  · rw [List.getElem?_append_left hl] at h; exact .inl ⟨hl, h⟩
  · rw [List.getElem?_append_right hl] at h
    cases hk : i - B.length with
    | zero => rw [hk] at h; simp at h; exact .inr ⟨by omega, h.symm⟩
    | succ k => rw [hk] at h; simp at h

theorem cellsAt_of {w : World} {b : Nat} {arr : Array Value} {T : TypeId} {fz : Nat × Nat} (h : w.heap[b]? = some (.cells arr T fz)) : cellsAt w b = arr.toList := by
  simp only [cellsAt, h]

/-- A new variable. -/
theorem Inv.newVar (h : Inv Pr g sl B tm w) {cs : List VV} {arr : Array Value} (T : TypeId) (hr : All2 (RepC g) cs arr.toList) (ho : cs.all (okC B.length) = true)
    {sl2 : List VV} {tm2 : List Value} (hrep2 : All2 (Rep g) sl2 tm2) (hok2 : okRs B.length sl2 = true) (hcnt : ∀ b, cntS b sl2 tm2 + cntL b cs arr.toList ≤ cntS b sl tm) :
    Ext Pr B.length g w (g.at B.length w.heap.size) (w.alloc (.cells arr T)) ∧ Inv Pr (g.at B.length w.heap.size) sl2 (B ++ [.var cs]) tm2 (w.alloc (.cells arr T)) := by
  have hcomm : ∀ b com, g.comm b = some com → ∃ com', (g.at B.length w.heap.size).comm b = some com' ∧ com.cs <+: com'.cs := comm_same fun _ => rfl
  have hphi : ∀ i, i < B.length → (g.at B.length w.heap.size).phi i = g.phi i := fun i hi => G.at_phi hi
  have hnew : (w.alloc (.cells arr T)).heap[w.heap.size]? = some (.cells arr T) := heap_alloc_new w _
  have hsto : Sto (g.at B.length w.heap.size) (B ++ [.var cs]) (w.alloc (.cells arr T)) := by
    refine ⟨?_, ?_, ?_, ?_⟩
    · intro b com hc
      obtain ⟨ar, T', fz, h1, h2, h3, h4⟩ := h.sto.comm b com hc
      exact ⟨ar, T', fz, by rw [heap_old w _ (heap_lt h1)]; exact h1, h2, comm_cells hcomm h3, h4⟩
    · intro id cs' hb
      rcases get_append_one hb with ⟨hl, hb⟩ | ⟨rfl, hb2⟩
      · obtain ⟨⟨ar, T', h1, h2⟩, h3, h4⟩ := h.sto.var id cs' hb
        rw [hphi id hl]
        exact ⟨⟨ar, T', by rw [heap_old w _ (heap_lt h1)]; exact h1, All2_RepC_ext hcomm (n := id + 1) (fun i hi => hphi i (by omega)) (fun _ _ => rfl) h4 h2⟩, h3, h4⟩
      · obtain rfl := Blk.var.inj hb2
        rw [G.at_self]
        refine ⟨⟨arr, T, hnew, All2_RepC_ext hcomm hphi (fun _ _ => rfl) ho hr⟩, ?_, all_okC_mono (by omega) ho⟩
        cases hc : g.comm w.heap.size with
        | none => exact hc
        | some com => exact absurd (h.sto.lt hc) (Nat.lt_irrefl _)
    · intro id cs' hb
      rcases get_append_one hb with ⟨hl, hb⟩ | ⟨rfl, hb2⟩
      · rw [hphi id hl]; exact h.sto.ro id cs' hb
      · cases hb2
    · intro i j ci cj hbi hbj e
      rcases get_append_one hbi with ⟨hli, hbi⟩ | ⟨rfl, hbi⟩ <;> rcases get_append_one hbj with ⟨hlj, hbj⟩ | ⟨rfl, hbj⟩
      · rw [hphi i hli, hphi j hlj] at e; exact h.sto.inj i j ci cj hbi hbj e
      · rw [hphi i hli, G.at_self] at e; have := h.sto.phi_lt hbi; omega
      · rw [hphi j hlj, G.at_self] at e; have := h.sto.phi_lt hbj; omega
      · rfl
  have hcb : ∀ b, cntB b (g.at B.length w.heap.size) (w.alloc (.cells arr T)) 0 (B ++ [.var cs]) = cntB b g w 0 B + cntL b cs arr.toList := by
    intro b
    rw [cntB_append, Nat.zero_add]
    have e1 : cntB b (g.at B.length w.heap.size) (w.alloc (.cells arr T)) 0 B = cntB b g w 0 B := cntB_congr B 0 fun i cs' hb => by
      have hl : i < B.length := (List.getElem?_eq_some_iff.1 hb).1
      rw [Nat.zero_add, hphi i hl]
      simp only [cellsAt, heap_old w _ (h.sto.phi_lt hb)]
    rw [e1]
    simp only [cntB, G.at_self, cellsAt_of hnew, Nat.add_zero]
  refine ⟨⟨hcomm, fun b hb => ⟨rfl, heap_old w _ (h.prot b hb).1⟩, by simp, hphi, rfl, rfl⟩, ⟨All2_Rep_ext hcomm hphi (fun _ _ => rfl) hok2 hrep2, okRs_mono (by simp) hok2, hsto, ?_, ?_⟩⟩
  · intro b
    have := h.uniq b
    have := hcnt b
    rw [hcb]
    omega
  · intro b hb
    obtain ⟨p1, p2, p3⟩ := h.prot b hb
    refine ⟨by simp; omega, by have := hcnt b; rw [hcb]; omega, ?_⟩
    intro id cs' hbi
    rcases get_append_one hbi with ⟨hl, hbi⟩ | ⟨rfl, hbi⟩
    · rw [hphi id hl]; exact p3 id cs' hbi
    · rw [G.at_self]; omega

theorem RepSl_own {x : VV} {xs : List VV} {a : Addr} {n c : Nat} (h : RepC g (.sl .own (x :: xs)) (.slice (some a) n c)) : ∃ com, g.comm a.block = some com := by
  obtain ⟨B', off, c', com, sz, e, _, h3, _⟩ := h
  cases e
  exact ⟨com, h3⟩

theorem cntC_known {v : VV} {u : Value} {b : Nat} (hv : RepC g v u) (hc : 0 < cntC b v u) : ∃ com, g.comm b = some com := by
  unfold cntC at hc
  split at hc
  · split at hc
    · rename_i e; subst e; exact RepSl_own hv
    · omega
  · omega
theorem cntL_known {vs : List VV} {us : List Value} {b : Nat} (hv : All2 (RepC g) vs us) (hc : 0 < cntL b vs us) : ∃ com, g.comm b = some com := by
  induction hv with
  | nil => simp [cntL] at hc
  | @cons v u vs us hv _ ih =>
    simp only [cntL] at hc
    by_cases h0 : 0 < cntC b v u
    · exact cntC_known hv h0
    · exact ih (by omega)
theorem cntV_known {v : VV} {u : Value} {b : Nat} (hv : RepV g v u) (hc : 0 < cntV b v u) : ∃ com, g.comm b = some com := by
  by_cases ha : ∃ cs, v = .agg cs
  · obtain ⟨cs', rfl⟩ := ha
    obtain ⟨us, rfl, hv⟩ := hv
    exact cntL_known hv hc
  · have e : cntV b v u = cntC b v u := by cases v <;> first | rfl | exact absurd ⟨_, rfl⟩ ha
    rw [e] at hc
    exact cntC_known (by cases v <;> first | exact hv | exact absurd ⟨_, rfl⟩ ha) hc
theorem cntVL_known {vs : List VV} {us : List Value} {b : Nat} (hv : All2 (RepV g) vs us) (hc : 0 < cntVL b vs us) : ∃ com, g.comm b = some com := by
  induction hv with
  | nil => simp [cntVL] at hc
  | @cons v u vs us hv _ ih =>
    simp only [cntVL] at hc
    by_cases h0 : 0 < cntV b v u
    · exact cntV_known hv h0
    · exact ih (by omega)
theorem cnt_known {v : VV} {u : Value} {b : Nat} (hv : Rep g v u) (hc : 0 < cnt b v u) : ∃ com, g.comm b = some com := by
  by_cases hg : v = .gone
  · subst hg; simp [cnt, cntV, cntC] at hc
  by_cases ha : ∃ cs, v = .tup cs
  · obtain ⟨cs', rfl⟩ := ha
    obtain ⟨us, rfl, hv⟩ := hv
    exact cntVL_known hv hc
  · rw [cnt_eq ha] at hc
    exact cntV_known (by cases v <;> first | exact hv | exact absurd ⟨_, rfl⟩ ha | exact absurd rfl hg) hc
theorem cntS_known {vs : List VV} {us : List Value} {b : Nat} (hv : All2 (Rep g) vs us) (hc : 0 < cntS b vs us) : ∃ com, g.comm b = some com := by
  induction hv with
  | nil => simp [cntS] at hc
  | @cons v u vs us hv _ ih =>
    simp only [cntS] at hc
    by_cases h0 : 0 < cnt b v u
    · exact cnt_known hv h0
    · exact ih (by omega)

/-- A block whose cells stay. -/
def G.told (g : G) (b : Nat) (com : Com) : G := { g with comm := fun x => if x = b then some com else g.comm x }
theorem G.told_other {g : G} {b x : Nat} {com : Com} (h : x ≠ b) : (g.told b com).comm x = g.comm x := by simp [G.told, h]
theorem G.told_self {g : G} {b : Nat} {com : Com} : (g.told b com).comm b = some com := by simp [G.told]

theorem Inv.newCom (h : Inv Pr g sl B tm w) {cs : List VV} {own : Option (Nat × Nat)} {arr : Array Value} (T : TypeId) (fz : Nat × Nat) (hlen : cs.length ≤ arr.size)
    (hr : ∀ (j : Nat) c, cs[j]? = some c → ∃ u, arr[j]? = some u ∧ RepC g c u ∧ ownC c = false ∧ okC 0 c = true)
    (hown : ∀ cap sz, own = some (cap, sz) → fz = (0, 0) ∧ arr.size = cap * sz ∧ cap ≤ maxLen) {w1 : World} (hw1 : w1.heap = w.heap) (hw2 : w1.os = w.os ∧ w1.output = w.output := by exact ⟨rfl, rfl⟩) :
    Ext Pr B.length g w (g.told w.heap.size ⟨cs, own⟩) (w1.alloc (.cells arr T fz)) ∧ Inv Pr (g.told w.heap.size ⟨cs, own⟩) sl B tm (w1.alloc (.cells arr T fz)) := by
  have hfresh : g.comm w.heap.size = none := by
    cases hc : g.comm w.heap.size with
    | none => rfl
    | some com => exact absurd (h.sto.lt hc) (Nat.lt_irrefl _)
  have hold : ∀ b, b < w.heap.size → (w1.alloc (.cells arr T fz)).heap[b]? = w.heap[b]? := fun b hb => by
    rw [heap_old w1 _ (by rw [hw1]; exact hb), hw1]
  have hnew : (w1.alloc (.cells arr T fz)).heap[w.heap.size]? = some (.cells arr T fz) := by
    rw [← hw1]; exact heap_alloc_new w1 _
  have hcomm : ∀ b com, g.comm b = some com → ∃ com', (g.told w.heap.size ⟨cs, own⟩).comm b = some com' ∧ com.cs <+: com'.cs := by
    intro b com hc
    have : b ≠ w.heap.size := by rintro rfl; rw [hfresh] at hc; cases hc
    exact ⟨com, by rw [G.told_other this]; exact hc, List.prefix_refl _⟩
  have hsame : ∀ b, b < w.heap.size → (g.told w.heap.size ⟨cs, own⟩).comm b = g.comm b := fun b hb => G.told_other (by omega)
  have hphi : ∀ (n i : Nat), i < n → (g.told w.heap.size ⟨cs, own⟩).phi i = g.phi i := fun _ _ _ => rfl
  have hownL : ∀ {vs : List VV} {us : List Value} {b : Nat}, All2 (RepC g) vs us → 0 < cntL b vs us → b < w.heap.size := fun h1 h2 => let ⟨_, hc⟩ := cntL_known h1 h2; h.sto.lt hc
  have hownS : ∀ {vs : List VV} {us : List Value} {b : Nat}, All2 (Rep g) vs us → 0 < cntS b vs us → b < w.heap.size := fun h1 h2 => let ⟨_, hc⟩ := cntS_known h1 h2; h.sto.lt hc
  have hsto : Sto (g.told w.heap.size ⟨cs, own⟩) B (w1.alloc (.cells arr T fz)) := by
    refine ⟨?_, ?_, ?_, h.sto.inj⟩
    · intro b com hc
      by_cases hb : b = w.heap.size
      · subst hb
        rw [G.told_self] at hc
        obtain rfl := Option.some.inj hc
        exact ⟨arr, T, fz, hnew, hlen, comm_cells (com := ⟨cs, own⟩) hcomm hr, hown⟩
      · rw [G.told_other hb] at hc
        obtain ⟨ar, T', fz', h1, h2, h3, h4⟩ := h.sto.comm b com hc
        exact ⟨ar, T', fz', by rw [hold b (heap_lt h1)]; exact h1, h2, comm_cells hcomm h3, h4⟩
    · intro id cs' hb
      obtain ⟨⟨ar, T', h1, h2⟩, h3, h4⟩ := h.sto.var id cs' hb
      refine ⟨⟨ar, T', by rw [show (g.told w.heap.size ⟨cs, own⟩).phi id = g.phi id from rfl, hold _ (heap_lt h1)]; exact h1, All2_RepC_ext hcomm (hphi _) (fun b hb => hsame b (hownL h2 hb)) h4 h2⟩, ?_, h4⟩
      rw [show (g.told w.heap.size ⟨cs, own⟩).phi id = g.phi id from rfl, hsame _ (heap_lt h1)]
      exact h3
    · intro id cs' hb
      obtain ⟨com, h1, h2⟩ := h.sto.ro id cs' hb
      exact ⟨com, by rw [show (g.told w.heap.size ⟨cs, own⟩).phi id = g.phi id from rfl, hsame _ (h.sto.lt h1)]; exact h1, h2⟩
  have hcb : ∀ b, cntB b (g.told w.heap.size ⟨cs, own⟩) (w1.alloc (.cells arr T fz)) 0 B = cntB b g w 0 B := fun b => cntB_congr B 0 fun i cs' hb => by
    rw [Nat.zero_add, show (g.told w.heap.size ⟨cs, own⟩).phi i = g.phi i from rfl]
    simp only [cellsAt, hold _ (h.sto.phi_lt hb)]
  refine ⟨⟨hcomm, fun b hb => ⟨hsame b (h.prot b hb).1, hold b (h.prot b hb).1⟩, by simp [hw1], fun _ _ => rfl, hw2⟩, ⟨All2_Rep_ext hcomm (hphi B.length) (fun b hb => hsame b (hownS h.rep hb)) h.ok h.rep, h.ok, hsto, ?_, ?_⟩⟩
  · intro b; rw [hcb]; exact h.uniq b
  · intro b hb
    obtain ⟨p1, p2, p3⟩ := h.prot b hb
    exact ⟨by simp [hw1]; omega, by rw [hcb]; exact p2, p3⟩

end
end Go.Wv
