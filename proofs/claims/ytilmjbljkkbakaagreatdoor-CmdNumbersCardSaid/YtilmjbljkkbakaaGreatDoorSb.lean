/-
  A part of the proof: our library of the interpreter.
-/
import Derived.Test.YtilmjbljkkbakaaGreatDoorSa
import Derived.Laws.MakeOwn
import Derived.Laws.IdiomStrings
import Derived.Laws.BytesArg
set_option linter.unusedSimpArgs false
set_option linter.unusedVariables false
set_option linter.unusedSectionVars false
set_option linter.unnecessarySimpa false
set_option linter.deprecated false
namespace Go.Wv

section
variable {C : Cfg} {Pr : Nat → Prop} {f : FuncId} {o : Oper} {g : G} {sl sl' : List VV} {B B' : List Blk} {a : Act} {w : World} {v : VV}

theorem store_ok (hg : GlobOk C g) (hi : Inv Pr g sl B a.tmps.toList w) {t : TypeId} {x y : Operand} (ho : o.op = .store t x y) (h : vop C f o sl B = some (v, sl', B')) : OpOk C Pr o g B.length sl' v B' a w := by
  have hrep := ev_rep hg hi.rep x
  simp only [vop, ho] at h
  split at h <;> first | (cases h; done) | skip
  rename_i id off he
  rw [he] at hrep
  have hx : evR a.tmps.toList x = .pointer (some ⟨g.phi id, off, none⟩) := hrep
  split at h <;> first | (cases h; done) | skip
  rename_i cs hb
  split at h <;> first | (cases h; done) | skip
  rename_i hc
  obtain ⟨hv, hlen, hne, hle, hok1⟩ := hc
  simp only [Option.some.injEq, Prod.mk.injEq] at h
  obtain ⟨rfl, rfl, rfl⟩ := h
  have hidl : id < B.length := (List.getElem?_eq_some_iff.1 hb).1
  obtain ⟨h1, h2, h3, h4, h5⟩ := tr_ok hg hi (x := y) (v := (tr C sl y).1) (sl' := (tr C sl y).2) rfl
  obtain ⟨k1, k2⟩ := cells_rep h1 hv
  obtain ⟨⟨arr, T, hh, hcs⟩, hcn, hcok⟩ := hi.sto.var id cs hb
  have hl1 := k1.length
  have hl2 := hcs.length
  simp only [Array.length_toList] at hl1 hl2
  let arr' : Array Value := (arr.toList.take (off + 0) ++ (evR a.tmps.toList y).cells.toList ++ arr.toList.drop (off + 0 + (evR a.tmps.toList y).cells.toList.length)).toArray
  have harr : arr'.toList = spliceR arr.toList off (evR a.tmps.toList y).cells.toList := by simp [arr', spliceR]
  have hst := run_storeCells_at C.P (g.phi id) off T (evR a.tmps.toList y).cells.toList 0 arr w hh (by simp only [Array.length_toList]; omega) (All2_one k1)
  have hrun : (execOp a.eval o).run C.P w = .ok .skip (w.setRow (g.phi id) arr') := by
    simp only [execOp, ho, eval_evR, hx, Instr.storeAt, Instr.sureAddr, Sem.run_bind, Sem.run_pure, Result.andThen_ok, storeVar, sizeOf_run (w := w) hne]
    rw [if_neg (by omega)]
    simp only [hst, Result.andThen_ok, arr']
  have hself : (w.setRow (g.phi id) arr').heap[g.phi id]? = some (.cells arr' T (0, 0)) := setRow_heap w _ arr arr' T (0, 0) hh
  have hoth : ∀ b, b ≠ g.phi id → (w.setRow (g.phi id) arr').heap[b]? = w.heap[b]? := fun b hb => setRow_other w _ b arr' hb
  have hsize : (w.setRow (g.phi id) arr').heap.size = w.heap.size := by simp [World.setRow]
  have hnew : All2 (RepC g) (splice cs off (tr C sl y).1.cells) arr'.toList := by rw [harr]; exact All2_splice hcs k1 off
  have hcommne : ∀ b com, g.comm b = some com → b ≠ g.phi id := by rintro b com hb rfl; rw [hcn] at hb; cases hb
  have hsto : Sto g (B.set id (.var (splice cs off (tr C sl y).1.cells))) (w.setRow (g.phi id) arr') := by
    refine ⟨?_, ?_, ?_, ?_⟩
    · intro b com hb
      obtain ⟨ar, T', fz, e1, e2, e3, e4⟩ := hi.sto.comm b com hb
      exact ⟨ar, T', fz, by rw [hoth b (hcommne b com hb)]; exact e1, e2, e3, e4⟩
    · intro i cs' hy
      rcases set_get hidl hy with ⟨rfl, e⟩ | ⟨hne', e⟩
      · obtain rfl := Blk.var.inj e
        exact ⟨⟨arr', T, hself, hnew⟩, hcn, all_splice hcok (cells_ok hok1 hv) off⟩
      · obtain ⟨⟨ar, T', e1, e2⟩, e3, e4⟩ := hi.sto.var i cs' e
        exact ⟨⟨ar, T', by rw [hoth _ fun h => hne' (hi.sto.inj i id cs' cs e hb h)]; exact e1, e2⟩, e3, e4⟩
    · intro i cs' hy
      rcases set_get hidl hy with ⟨rfl, e⟩ | ⟨_, e⟩
      · cases e
      · exact hi.sto.ro i cs' e
    · intro i j ci cj hyi hyj e
      have : ∀ (k : Nat) ck, (B.set id (.var (splice cs off (tr C sl y).1.cells)))[k]? = some (.var ck) → ∃ ck', B[k]? = some (.var ck') := by
        intro k ck hk
        rcases set_get hidl hk with ⟨rfl, _⟩ | ⟨_, e⟩
        · exact ⟨_, hb⟩
        · exact ⟨_, e⟩
      obtain ⟨ci', ei⟩ := this i ci hyi
      obtain ⟨cj', ej⟩ := this j cj hyj
      exact hi.sto.inj i j ci' cj' ei ej e
  have hcb : ∀ b, cntB b g (w.setRow (g.phi id) arr') 0 (B.set id (.var (splice cs off (tr C sl y).1.cells))) ≤ cntB b g w 0 B + cnt b (tr C sl y).1 (evR a.tmps.toList y) := by
    intro b
    have e1 := cntB_set (b := b) (g := g) (w := w) B 0 id (.var (splice cs off (tr C sl y).1.cells)) _ hb
    rw [Nat.zero_add] at e1
    simp only [cntBlk, cellsAt_of hh] at e1
    -- the same count, in the world behind the store
    have e2 : cntB b g (w.setRow (g.phi id) arr') 0 (B.set id (.var (splice cs off (tr C sl y).1.cells))) + cntL b cs arr.toList = cntB b g w 0 B + cntL b (splice cs off (tr C sl y).1.cells) arr'.toList := by
      have e3 := cntB_set (b := b) (g := g) (w := w.setRow (g.phi id) arr') (B.set id (.ro [])) 0 id (.var (splice cs off (tr C sl y).1.cells)) (.ro []) (List.getElem?_set_self hidl)
      have e4 := cntB_set (b := b) (g := g) (w := w) B 0 id (.ro []) _ hb
      rw [Nat.zero_add, List.set_set] at e3
      rw [Nat.zero_add] at e4
      simp only [cntBlk, cellsAt_of hh, cellsAt_of hself, Nat.add_zero] at e3 e4
      have e5 : cntB b g (w.setRow (g.phi id) arr') 0 (B.set id (.ro [])) = cntB b g w 0 (B.set id (.ro [])) := cntB_congr _ 0 fun i cs' hy => by
        rcases set_get hidl hy with ⟨rfl, e⟩ | ⟨hne', e⟩
        · cases e
        · rw [Nat.zero_add]
          simp only [cellsAt, hoth _ fun h => hne' (hi.sto.inj i id cs' cs e hb h)]
      omega
    have e6 := cntL_splice (b := b) hcs.length k1.length (off := off) (by omega)
    rw [← harr, k2 b] at e6
    omega
  refine ⟨_, undef, _, g, hrun, .inr ⟨rfl, rfl⟩, ⟨comm_same fun _ => rfl, fun b hp => ⟨rfl, hoth b fun h => (hi.prot b hp).2.2 id cs hb h.symm⟩, by omega, fun _ _ => rfl, rfl, rfl⟩, ⟨All2_put h3 (show Rep g (.tup []) undef from ⟨#[], rfl, .nil⟩) o.dst, ?_, hsto, ?_, ?_⟩⟩
  · rw [List.length_set]; exact okRs_put h4 rfl o.dst
  · intro b
    have := cntS_put (b := b) h3.length (.tup []) undef o.dst
    have : cnt b (.tup []) undef = 0 := cnt_zero rfl
    have := hi.uniq b
    have := h5 b
    have := hcb b
    omega
  · intro b hp
    obtain ⟨p1, p2, p3⟩ := hi.prot b hp
    refine ⟨by omega, ?_, ?_⟩
    · have := cntS_put (b := b) h3.length (.tup []) undef o.dst
      have : cnt b (.tup []) undef = 0 := cnt_zero rfl
      have := h5 b
      have := hcb b
      omega
    · intro i cs' hy
      rcases set_get hidl hy with ⟨rfl, e⟩ | ⟨_, e⟩
      · exact p3 _ _ hb
      · exact p3 i cs' e

end
end Go.Wv
namespace Go.Wv

theorem flatC_append (xs ys : List VV) : flatC (xs ++ ys) = flatC xs ++ flatC ys := by simp [flatC]
theorem flatC_set {sz : Nat} : ∀ {xs : List VV} {i : Nat} {v : VV}, (∀ x ∈ xs, x.cells.length = sz) → i < xs.length → v.cells.length = sz → flatC (xs.set i v) = splice (flatC xs) (i * sz) v.cells
  | [], i, v, _, h, _ => by simp at h
  | x :: xs, 0, v, h, _, hv => by
    have hx := h x (by simp)
    simp only [List.set_cons_zero, flatC, List.flatMap_cons, splice, Nat.zero_mul, List.take_zero, List.nil_append, Nat.zero_add]
    rw [hv, ← hx, List.drop_left]
  | x :: xs, i + 1, v, h, hi, hv => by
    have ih := flatC_set (xs := xs) (i := i) (fun y hy => h y (by simp [hy])) (by simpa using hi) hv
    have hx := h x (by simp)
    simp only [List.set_cons_succ, flatC, List.flatMap_cons] at ih ⊢
    rw [ih]
    unfold splice
    have hd : ∀ k, (x.cells ++ List.flatMap VV.cells xs).drop (x.cells.length + k) = (List.flatMap VV.cells xs).drop k := fun k => by rw [← List.drop_drop, List.drop_left]
    rw [show (i + 1) * sz = x.cells.length + i * sz by rw [hx, Nat.add_mul]; omega, List.take_length_add_append, Nat.add_assoc, hd]
    simp

section
variable {C : Cfg} {Pr : Nat → Prop} {f : FuncId} {o : Oper} {g : G} {sl sl' : List VV} {B B' : List Blk} {a : Act} {w : World} {v : VV}

theorem run_append_room' {P : Program} (t ty e : TypeId) (T : TypeId) (i : TypeInfo) (ht : P.underlying t = some (.slice e)) (hi : P.info? e = some i)
    (g sLen sCap : Nat) (cur : Array Value) (hg : w.heap[g]? = some (.cells cur T (0, 0)))
    (a : Addr) (m c : Nat) (news : List Value) (hl : news.length = m * i.size) (hnews : ∀ j u, news[j]? = some u → w.cell? (a.add j) = some u) (h1 : ∀ u ∈ news, u.oneCell' = true)
    (hroom : sLen + m ≤ sCap) (hfit : sLen * i.size + news.length ≤ cur.size) :
    (Builtin.append_ #[t, t] ty #[.slice (some ⟨g, 0, none⟩) sLen sCap, .slice (some a) m c]).run P w =
      .ok (.slice (some ⟨g, 0, none⟩) (sLen + m) sCap) (w.setRow g (cur.toList.take (sLen * i.size) ++ news ++ cur.toList.drop (sLen * i.size + news.length)).toArray) := by
  have hf := run_firstCells_some (P := P) w i.size m a m c news hl hnews
  have hst := run_storeCells_at P g (sLen * i.size) T news 0 cur w hg (by simpa using hfit) h1
  simp only [Nat.add_zero] at hst
  simp [Builtin.append_, run_underlying ht, sizeOf, typeInfo, hi, Builtin.lenOf, hroom, hf, Addr.add_lit, hst]

theorem run_append_zero {P : Program} (t ty e : TypeId) (i : TypeInfo) (ht : P.underlying t = some (.slice e)) (hi : P.info? e = some i) (b : Option Addr) (n c : Nat) (hc : n ≤ c) (b' : Option Addr) (c' : Nat) :
    (Builtin.append_ #[t, t] ty #[.slice b n c, .slice b' 0 c']).run P w = .ok (.slice b n c) w := by
  cases b <;> cases b' <;> simp [Builtin.append_, run_underlying ht, sizeOf, typeInfo, hi, Builtin.lenOf, hc, Builtin.firstCells, loadCells, loadCellsFrom, storeCells]

/-- the cells that a slice shows -/
theorem RepSl_cells (hs : Sto g B w) {fl : Fl} {xs : List VV} {u : Value} (h : RepSl g fl xs u) (hne : xs ≠ []) :
    ∃ b off c sz zs, u = .slice (some ⟨b, off, none⟩) xs.length c ∧ xs.length ≤ c ∧ 0 < sz ∧ (∀ x ∈ xs, x.cells.length = sz) ∧ zs.length = xs.length * sz ∧
      (∀ (j : Nat) u, zs[j]? = some u → w.cell? ((⟨b, off, none⟩ : Addr).add j) = some u) ∧ All2 (RepC g) (flatC xs) zs ∧ (∀ (j : Nat) c, (flatC xs)[j]? = some c → ownC c = false ∧ okC 0 c = true) := by
  have hv := RepSl_view h
  obtain ⟨y, ys, rfl⟩ := List.exists_cons_of_ne_nil hne
  obtain ⟨b, off, c, com, sz, rfl, h2, h3, h4, h5, h6, h7, _, hn⟩ := hv
  obtain ⟨arr, T, fz, hh, hlen, hcs, _⟩ := hs.comm b com h3
  have hfl := flatC_length h5
  have hget : ∀ (j : Nat) c, (flatC (y :: ys))[j]? = some c → j < (y :: ys).length * sz ∧ com.cs[off + j]? = some c := by
    intro j c hc
    rw [← h7, List.getElem?_take] at hc
    split at hc
    · rw [List.getElem?_drop] at hc; exact ⟨by assumption, hc⟩
    · cases hc
  refine ⟨b, off, c, sz, (arr.toList.drop off).take ((y :: ys).length * sz), rfl, h2, h4, h5, by simp; simp at h6; omega, ?_, ?_, ?_⟩
  · intro j u hu
    rw [List.getElem?_take] at hu
    split at hu
    · rw [List.getElem?_drop] at hu
      rw [Addr_add', cell_of_row w b (off + j) arr T fz hh]
      simpa using hu
    · cases hu
  · refine All2.of_get (by rw [hfl]; simp; simp at h6; omega) fun j c' u hc hu => ?_
    obtain ⟨hj, hc'⟩ := hget j c' hc
    obtain ⟨u', e1, e2, _⟩ := hcs _ _ hc' (hn _ (List.mem_of_getElem? hc))
    rw [List.getElem?_take, if_pos hj, List.getElem?_drop] at hu
    rw [← Array.getElem?_toList, hu] at e1
    obtain rfl := Option.some.inj e1
    exact e2
  · intro j c' hc
    obtain ⟨_, hc'⟩ := hget j c' hc
    obtain ⟨u', _, _, e3, e4⟩ := hcs _ _ hc' (hn _ (List.mem_of_getElem? hc))
    exact ⟨e3, e4⟩

end
end Go.Wv
namespace Go.Wv

section
variable {C : Cfg} {Pr : Nat → Prop} {f : FuncId} {o : Oper} {g : G} {sl sl' : List VV} {B B' : List Blk} {a : Act} {tm : List Value} {w : World} {v : VV}

/-- A value with rights of its own is put into a slot. -/
theorem Inv.put1 (h : Inv Pr g sl B tm w) {u : Value} (hv : Rep g v u) (ho : okR B.length v = true) (hc : ∀ b, cnt b v u + (cntS b sl tm + cntB b g w 0 B) ≤ 1) (hp : ∀ b, Pr b → cnt b v u = 0) (d : Option Tmp) :
    Inv Pr g (putS sl d v) B (putL tm d u) w :=
  ⟨All2_put h.rep hv d, okRs_put h.ok ho d, h.sto, fun b => by have := cntS_put (b := b) h.rep.length v u d; have := hc b; omega,
   fun b hb => ⟨(h.prot b hb).1, by have := cntS_put (b := b) h.rep.length v u d; have := hp b hb; have := (h.prot b hb).2.1; omega, (h.prot b hb).2.2⟩⟩

/-- The owner of a block goes on behind what is told of it. -/
theorem Inv.extend (h : Inv Pr g sl B tm w) {b0 : Nat} {cs0 cs1 : List VV} {cap sz : Nat} {arr arr' : Array Value} {T : TypeId} (hc : g.comm b0 = some ⟨cs0, some (cap, sz)⟩) (hpre : cs0 <+: cs1)
    (hh : w.heap[b0]? = some (.cells arr T (0, 0))) (hsz : arr'.size = cap * sz) (hcap : cap ≤ maxLen) (hlen : cs1.length ≤ arr'.size) (hno : cntS b0 sl tm + cntB b0 g w 0 B = 0) (hnp : ¬ Pr b0)
    (hr : ∀ (j : Nat) c, cs1[j]? = some c → ∃ u, arr'[j]? = some u ∧ RepC g c u ∧ ownC c = false ∧ okC 0 c = true) :
    Ext Pr B.length g w (g.told b0 ⟨cs1, some (cap, sz)⟩) (w.setRow b0 arr') ∧ Inv Pr (g.told b0 ⟨cs1, some (cap, sz)⟩) sl B tm (w.setRow b0 arr') := by
  have hself : (w.setRow b0 arr').heap[b0]? = some (.cells arr' T (0, 0)) := setRow_heap w _ arr arr' T (0, 0) hh
  have hoth : ∀ b, b ≠ b0 → (w.setRow b0 arr').heap[b]? = w.heap[b]? := fun b hb => setRow_other w _ b arr' hb
  have hsize : (w.setRow b0 arr').heap.size = w.heap.size := by simp [World.setRow]
  have hcomm : ∀ b com, g.comm b = some com → ∃ com', (g.told b0 ⟨cs1, some (cap, sz)⟩).comm b = some com' ∧ com.cs <+: com'.cs := by
    intro b com hb
    by_cases e : b = b0
    · subst e
      rw [hc] at hb
      obtain rfl := Option.some.inj hb
      exact ⟨_, G.told_self, hpre⟩
    · exact ⟨com, by rw [G.told_other e]; exact hb, List.prefix_refl _⟩
  have hphi : ∀ (n i : Nat), i < n → (g.told b0 ⟨cs1, some (cap, sz)⟩).phi i = g.phi i := fun _ _ _ => rfl
  have hvar : ∀ (id : Nat) cs, B[id]? = some (.var cs) → g.phi id ≠ b0 := by
    rintro id cs hb rfl
    rw [(h.sto.var id cs hb).2.1] at hc
    cases hc
  have hcb : ∀ b, cntB b (g.told b0 ⟨cs1, some (cap, sz)⟩) (w.setRow b0 arr') 0 B = cntB b g w 0 B := fun b => cntB_congr B 0 fun i cs' hb => by
    rw [Nat.zero_add, show (g.told b0 ⟨cs1, some (cap, sz)⟩).phi i = g.phi i from rfl]
    simp only [cellsAt, hoth _ (hvar i cs' hb)]
  have hblk : ∀ (id : Nat) cs arr1 T1, B[id]? = some (.var cs) → w.heap[g.phi id]? = some (.cells arr1 T1 (0, 0)) → ∀ b, 0 < cntL b cs arr1.toList → b ≠ b0 := by
    rintro id cs arr1 T1 hb hh1 b hcnt rfl
    have := cntB_get (b := b) (g := g) (w := w) B 0 id _ hb
    rw [Nat.zero_add] at this
    simp only [cntBlk, cellsAt_of hh1] at this
    omega
  have hsto : Sto (g.told b0 ⟨cs1, some (cap, sz)⟩) B (w.setRow b0 arr') := by
    refine ⟨?_, ?_, ?_, h.sto.inj⟩
    · intro b com hb
      by_cases e : b = b0
      · subst e
        rw [G.told_self] at hb
        obtain rfl := Option.some.inj hb
        refine ⟨arr', T, (0, 0), hself, hlen, comm_cells (com := ⟨cs1, some (cap, sz)⟩) hcomm (fun j c hc _ => hr j c hc), ?_⟩
        rintro cap' sz' e
        cases e
        exact ⟨rfl, hsz, hcap⟩
      · rw [G.told_other e] at hb
        obtain ⟨ar, T', fz', h1, h2, h3, h4⟩ := h.sto.comm b com hb
        exact ⟨ar, T', fz', by rw [hoth b e]; exact h1, h2, comm_cells hcomm h3, h4⟩
    · intro id cs' hb
      obtain ⟨⟨ar, T', h1, h2⟩, h3, h4⟩ := h.sto.var id cs' hb
      have e := hvar id cs' hb
      exact ⟨⟨ar, T', by rw [show (g.told b0 ⟨cs1, some (cap, sz)⟩).phi id = g.phi id from rfl, hoth _ e]; exact h1,
        All2_RepC_ext hcomm (hphi _) (fun b hcnt => G.told_other (hblk id cs' ar T' hb h1 b hcnt)) h4 h2⟩,
        by rw [show (g.told b0 ⟨cs1, some (cap, sz)⟩).phi id = g.phi id from rfl, G.told_other e]; exact h3, h4⟩
    · intro id cs' hb
      obtain ⟨com, h1, h2, hn⟩ := h.sto.ro id cs' hb
      obtain ⟨com', h3, h4⟩ := hcomm _ com h1
      exact ⟨com', h3, h2.trans h4, hn⟩
  refine ⟨⟨hcomm, fun b hb => ?_, by omega, fun _ _ => rfl, rfl, rfl⟩, ⟨All2_Rep_ext hcomm (hphi B.length) (fun b hb => G.told_other (by rintro rfl; omega)) h.ok h.rep, h.ok, hsto, ?_, ?_⟩⟩
  · have e : b ≠ b0 := by rintro rfl; exact hnp hb
    exact ⟨G.told_other e, hoth b e⟩
  · intro b; rw [hcb]; exact h.uniq b
  · intro b hb
    obtain ⟨p1, p2, p3⟩ := h.prot b hb
    exact ⟨by omega, by rw [hcb]; exact p2, p3⟩

theorem cnt_own {b : Nat} {x : VV} {xs : List VV} {ad : Addr} {n c : Nat} : cnt b (.sl .own (x :: xs)) (.slice (some ad) n c) = if ad.block = b then 1 else 0 := rfl

theorem cnt_own' {b : Nat} {l : List VV} {ad : Addr} {n c : Nat} (h : l ≠ []) : cnt b (.sl .own l) (.slice (some ad) n c) = if ad.block = b then 1 else 0 := by
  cases l with
  | nil => exact absurd rfl h
  | cons => rfl

theorem zOk_spec {P : Program} {t : TypeId} (h : zOk P t = true) : ∃ i zv, P.info? t = some i ∧ i.zero = some zv ∧ zv.cells.size = szT P t := by
  unfold zOk at h
  split at h <;> first | (cases h; done) | skip
  rename_i z hz
  obtain ⟨i, zv, h1, h2, rfl⟩ := zeroT_spec hz
  simp only [Bool.and_eq_true, beq_iff_eq] at h
  obtain ⟨z1, _, _⟩ := zero_cells (g := ⟨fun _ => none, fun _ => 0⟩) h.1
  have := z1.length
  simp only [Array.length_toList] at this
  exact ⟨i, zv, h1, h2, by omega⟩

theorem append_ok (hg : GlobOk C g) (hi : Inv Pr g sl B a.tmps.toList w) {x y : Operand} {t : TypeId} (ho : o.op = .call { callee := .builtin .append, args := #[x, y], argTypes := #[t, t] }) (h : vop C f o sl B = some (v, sl', B')) :
    OpOk C Pr o g B.length sl' v B' a w := by
  simp only [vop, ho, if_true] at h
  split at h <;> first | (cases h; done) | skip
  rename_i r hr
  simp only [Option.some.injEq, Prod.mk.injEq] at h
  obtain ⟨rfl, rfl, rfl⟩ := h
  obtain ⟨h1, h2, h3, h4, h5⟩ := tr_ok hg hi (x := x) (v := (tr C sl x).1) (sl' := (tr C sl x).2) rfl
  have hy := ev_rep hg hi.rep y
  unfold vappend at hr
  split at hr <;> first | (cases hr; done) | skip
  rename_i e he
  split at hr <;> first | (cases hr; done) | skip
  rename_i xs ys hx' hys'
  split at hr <;> first | (cases hr; done) | skip
  rename_i hc
  obtain ⟨c1, c2, c3, c4, c5⟩ := hc
  obtain rfl := Option.some.inj hr
  obtain ⟨hu, hne⟩ := elemT_spec he
  obtain ⟨i, zv, hinf, hz, hzs⟩ := zOk_spec c3
  have his : i.size = szT C.P e := by simp [szT, hinf]
  have hib : i.bytes = byT C.P e := by simp [byT, hinf]
  have hlim : lim = 70368744177664 := rfl
  rw [hx'] at h1 h2 h5
  obtain ⟨fl, hys⟩ : ∃ fl, ev C sl y = .sl fl ys := by
    unfold appended at hys'
    split at hys'
    · rename_i fl zs hz'; obtain rfl := Option.some.inj hys'; exact ⟨fl, hz'⟩
    · cases hys'
  rw [hys] at hy
  have hi2 : Inv Pr g (tr C sl x).2 B a.tmps.toList w := hi.change h3 h4 fun b => by have := h5 b; omega
  have hexec : ∀ (u' : Value) (w' : World), (Builtin.append_ #[t, t] o.type #[evR a.tmps.toList x, evR a.tmps.toList y]).run C.P w = .ok u' w' → (execOp a.eval o).run C.P w = .ok (.value u') w' := by
    intro u' w' hrun
    unfold execOp
    simp only [ho, resolve, invoke, builtin, Sem.run_bind, Sem.run_pure, Result.andThen_ok, List.map_toArray, List.map_cons, List.map_nil, eval_evR, hrun]
  -- nothing is appended
  by_cases hynil : ys = []
  · subst hynil
    obtain ⟨b', c', hb'⟩ : ∃ b' c', evR a.tmps.toList y = .slice b' 0 c' := RepSl_view (show RepSl g fl [] _ from hy)
    obtain ⟨b, n, c, hbc, hle⟩ : ∃ b n c, evR a.tmps.toList x = .slice b n c ∧ n ≤ c := by
      cases xs with
      | nil => exact ⟨none, 0, 0, h1, Nat.le_refl _⟩
      | cons x0 xs0 => obtain ⟨b, off, c, com, sz, e1, e2, _⟩ := (show RepSl g .own (x0 :: xs0) _ from h1); exact ⟨_, _, c, e1, e2⟩
    rw [List.append_nil]
    refine ⟨_, evR a.tmps.toList x, w, g, hexec _ w (by rw [hbc, hb']; exact run_append_zero t _ e i hu hinf b n c hle b' c'), .inl rfl, Ext.refl _ _ _ _, hi.change (All2_put h3 h1 o.dst) (okRs_put h4 h2 o.dst) fun b => ?_⟩
    have := cntS_put (b := b) h3.length (.sl .own xs) (evR a.tmps.toList x) o.dst
    have := h5 b
    omega
  obtain ⟨y0, ys0, hys0⟩ := List.exists_cons_of_ne_nil hynil
  obtain ⟨b2, off2, cap2, sz2, zs, hyv, hle2, hpos2, huni2, hzl, hzc, hzr, hzo⟩ := RepSl_cells hi.sto (show RepSl g fl ys _ from hy) hynil
  have hsz2 : sz2 = szT C.P e := by
    have := huni2 y0 (by rw [hys0]; simp)
    rw [hys0] at c5
    simp only [headOk, beq_iff_eq] at c5
    omega
  subst hsz2
  have hfy := flatC_length huni2
  have hzone := All2_one hzr
  -- the cells of all
  have hnewrep : ∀ {xs : List VV} {os : List Value}, All2 (RepC g) (flatC xs) os → (∀ (j : Nat) c, (flatC xs)[j]? = some c → ownC c = false ∧ okC 0 c = true) → ∀ (rest : List Value) (j : Nat) c, (flatC (xs ++ ys))[j]? = some c →
      ∃ u, (os ++ zs ++ rest)[j]? = some u ∧ RepC g c u ∧ ownC c = false ∧ okC 0 c = true := by
    intro xs os hos hoo rest j c hc
    rw [flatC_append] at hc
    obtain ⟨u, hu1, hu2⟩ := (hos.append hzr).get hc
    refine ⟨u, ?_, hu2, ?_⟩
    · rw [List.getElem?_append_left (List.getElem?_eq_some_iff.1 hu1).1]; exact hu1
    · rcases Nat.lt_or_ge j (flatC xs).length with hl | hl
      · rw [List.getElem?_append_left hl] at hc; exact hoo j c hc
      · rw [List.getElem?_append_right hl] at hc; exact hzo _ c hc
  have hng : ∀ {xs : List VV} {os : List Value}, All2 (RepC g) (flatC xs) os → ∀ c ∈ flatC (xs ++ ys), c ≠ .gone := by
    intro xs os hos
    rw [flatC_append]
    exact All2_ng (hos.append hzr)
  have hgrown : ∀ (os : List Value) (capOld : Nat), os.length = xs.length * szT C.P e → All2 (RepC g) (flatC xs) os → (∀ (j : Nat) c, (flatC xs)[j]? = some c → ownC c = false ∧ okC 0 c = true) → (∀ x ∈ xs, x.cells.length = szT C.P e) →
      (Builtin.append_ #[t, t] o.type #[evR a.tmps.toList x, evR a.tmps.toList y]).run C.P w = .ok (.slice (some ⟨w.heap.size, 0, none⟩) (xs.length + ys.length) (grownCap w (xs.length + ys.length) capOld e))
        (w.drew.alloc (.cells (os.toArray ++ zs.toArray ++ Builtin.zeroCells zv.cells (grownCap w (xs.length + ys.length) capOld e - (xs.length + ys.length))) e)) → OpOk C Pr o g B.length (tr C sl x).2 (.sl .own (xs ++ ys)) B a w := by
    intro os capOld hol hos hoo huni hrun
    have hge := grownCap_ge w (xs.length + ys.length) capOld e
    have hml : xs.length + ys.length ≤ maxLen := by simp only [maxLen]; omega
    have hcm := grownCap_le_maxLen w (xs.length + ys.length) capOld e hml
    have hsize : (os.toArray ++ zs.toArray ++ Builtin.zeroCells zv.cells (grownCap w (xs.length + ys.length) capOld e - (xs.length + ys.length))).size = grownCap w (xs.length + ys.length) capOld e * szT C.P e := by
      simp only [Array.size_append, List.size_toArray, size_zeroCells, hzs, hol, hzl, ← Nat.add_mul]
      congr 1
      omega
    have hfl : (flatC (xs ++ ys)).length = (xs.length + ys.length) * szT C.P e := by
      rw [flatC_append, List.length_append, flatC_length huni, hfy, Nat.add_mul]
    obtain ⟨q1, q2⟩ := hi2.newCom (cs := flatC (xs ++ ys)) (own := some (grownCap w (xs.length + ys.length) capOld e, szT C.P e)) (arr := os.toArray ++ zs.toArray ++ Builtin.zeroCells zv.cells (grownCap w (xs.length + ys.length) capOld e - (xs.length + ys.length))) e (0, 0)
      (by rw [hfl, hsize]; exact Nat.mul_le_mul_right _ hge)
      (fun j c hc => by
        obtain ⟨u, hu1, hu2⟩ := hnewrep hos hoo (Builtin.zeroCells zv.cells (grownCap w (xs.length + ys.length) capOld e - (xs.length + ys.length))).toList j c hc
        refine ⟨u, ?_, hu2⟩
        rw [← Array.getElem?_toList]
        simpa using hu1)
      (by rintro cap' sz' e'; cases e'; exact ⟨rfl, hsize, hcm⟩) (w1 := w.drew) rfl
    have hxy : ∃ z zs', xs ++ ys = z :: zs' := List.exists_cons_of_ne_nil (by simp [hynil])
    obtain ⟨z0, zs0, hz0⟩ := hxy
    have hrepv : Rep (g.told w.heap.size ⟨flatC (xs ++ ys), some (grownCap w (xs.length + ys.length) capOld e, szT C.P e)⟩) (.sl .own (xs ++ ys)) (.slice (some ⟨w.heap.size, 0, none⟩) (xs.length + ys.length) (grownCap w (xs.length + ys.length) capOld e)) := by
      have hall : ∀ q ∈ xs ++ ys, q.cells.length = szT C.P e := by
        intro q hq
        rcases List.mem_append.1 hq with h | h
        · exact huni q h
        · exact huni2 q h
      have hl' : (xs ++ ys).length = xs.length + ys.length := List.length_append
      show RepSl _ .own (xs ++ ys) _
      rw [← hl'] at hge ⊢
      rw [← hl', ] at hfl
      have hng' := hng hos
      rw [hz0] at hall hge hfl hng' ⊢
      exact ⟨w.heap.size, 0, _, _, szT C.P e, rfl, hge, G.told_self, by omega, hall, by simp only [Nat.zero_add]; rw [hfl]; exact Nat.le_refl _, by rw [List.drop_zero, ← hfl, List.take_length], (fun _ => ⟨rfl, rfl, rfl⟩), hng'⟩
    have hcnt0 : cntS w.heap.size (tr C sl x).2 a.tmps.toList = 0 := by
      rcases Nat.eq_zero_or_pos (cntS w.heap.size (tr C sl x).2 a.tmps.toList) with h | h
      · exact h
      · obtain ⟨com, hk⟩ := cntS_known h3 h; exact absurd (hi.sto.lt hk) (Nat.lt_irrefl _)
    have hcnt1 : cntB w.heap.size (g.told w.heap.size ⟨flatC (xs ++ ys), some (grownCap w (xs.length + ys.length) capOld e, szT C.P e)⟩) (w.drew.alloc (.cells (os.toArray ++ zs.toArray ++ Builtin.zeroCells zv.cells (grownCap w (xs.length + ys.length) capOld e - (xs.length + ys.length))) e)) 0 B = 0 := by
      have : ∀ (B : List Blk) (k : Nat), (∀ (i : Nat) cs, B[i]? = some (.var cs) → ∃ arr T, w.heap[g.phi (k + i)]? = some (.cells arr T (0, 0)) ∧ All2 (RepC g) cs arr.toList) → cntB w.heap.size g w k B = 0 := by
        intro B
        induction B with
        | nil => intro k _; rfl
        | cons b B ih =>
          intro k hk
          rw [cntB_cons, ih (k + 1) fun i cs hb => by have := hk (i + 1) cs (by simpa using hb); rwa [show k + (i + 1) = k + 1 + i by omega] at this]
          cases b with
          | ro => rfl
          | var cs =>
            obtain ⟨arr, T, e1, e2⟩ := hk 0 cs rfl
            rw [Nat.add_zero] at e1
            simp only [cntBlk, cellsAt_of e1, Nat.add_zero]
            rcases Nat.eq_zero_or_pos (cntL w.heap.size cs arr.toList) with h | h
            · exact h
            · obtain ⟨com, hk⟩ := cntL_known e2 h; exact absurd (hi.sto.lt hk) (Nat.lt_irrefl _)
      rw [cntB_congr (g := g) (w := w) B 0 fun i cs hb => by
        rw [Nat.zero_add, show (g.told w.heap.size ⟨flatC (xs ++ ys), some (grownCap w (xs.length + ys.length) capOld e, szT C.P e)⟩).phi i = g.phi i from rfl]
        have hlt := hi.sto.phi_lt hb
        simp only [cellsAt, heap_old w.drew _ (show g.phi i < w.drew.heap.size from hlt)]
        rfl]
      exact this B 0 fun i cs hb => by rw [Nat.zero_add]; exact (hi.sto.var i cs hb).1
    refine ⟨_, _, _, _, hexec _ _ hrun, .inl rfl, q1, q2.put1 hrepv rfl ?_ ?_ o.dst⟩
    · intro b
      rw [cnt_own' (by simp [hynil])]
      split
      · rename_i e'
        simp only at e'
        subst e'
        rw [hcnt0, hcnt1]
        omega
      · have := q2.uniq b; omega
    · intro b hb
      rw [cnt_own' (by simp [hynil]), if_neg]
      have := (hi.prot b hb).1
      simp only
      omega
  by_cases hxnil : xs = []
  · subst hxnil
    have hxv : evR a.tmps.toList x = .slice none 0 0 := h1
    refine hgrown [] 0 (by simp) .nil (by simp [flatC]) (by simp) ?_
    rw [hxv, hyv]
    have hr := run_append_nil (P := C.P) w t o.type e i zv hu hinf hz ⟨b2, off2, none⟩ ys.length cap2 zs (by rw [his]; exact hzl) hzc (by rw [hys0]; simp) (by rw [hlim] at c2; simp at c2; omega) (by rw [hib]; rw [hlim] at c1; simp at c1; omega)
    simpa using hr
  · obtain ⟨x0, xs0, hx0⟩ := List.exists_cons_of_ne_nil hxnil
    have h1' : RepSl g .own xs (evR a.tmps.toList x) := h1
    obtain ⟨b0, c0, com, sz, hxv, hle0, hcom, hpos, huni, hcs, hown, hngx⟩ : ∃ b0 c0 com sz, evR a.tmps.toList x = .slice (some ⟨b0, 0, none⟩) xs.length c0 ∧ xs.length ≤ c0 ∧ g.comm b0 = some com ∧ 0 < sz ∧ (∀ x ∈ xs, x.cells.length = sz) ∧ com.cs = flatC xs ∧ com.own = some (c0, sz) ∧ ∀ c ∈ flatC xs, c ≠ .gone := by
      rw [hx0] at h1' ⊢
      obtain ⟨b, off, c, com, sz, e1, e2, e3, e4, e5, e6, e7, e8, e11⟩ := h1'
      obtain ⟨rfl, e9, e10⟩ := e8 rfl
      exact ⟨b, c, com, sz, e1, e2, e3, e4, e5, e9, e10, e11⟩
    have hszx : sz = szT C.P e := by
      have := huni x0 (by rw [hx0]; simp)
      rw [hx0] at c4
      simp only [headOk, beq_iff_eq] at c4
      omega
    subst hszx
    obtain ⟨arr, T, fz, hh, hlen, hcells, hfz⟩ := hi.sto.comm b0 com hcom
    obtain ⟨rfl, hasz, hcm⟩ := hfz c0 _ hown
    have hfx := flatC_length huni
    have hos : All2 (RepC g) (flatC xs) (arr.toList.take (xs.length * szT C.P e)) := by
      refine All2.of_get (by rw [hcs, hfx] at hlen; rw [hfx]; simp; omega) fun j c u hc hu => ?_
      obtain ⟨u', e1, e2, _⟩ := hcells j c (by rw [hcs]; exact hc) (hngx c (List.mem_of_getElem? hc))
      rw [List.getElem?_take] at hu
      split at hu
      · rw [← Array.getElem?_toList, hu] at e1
        obtain rfl := Option.some.inj e1
        exact e2
      · cases hu
    have hoo : ∀ (j : Nat) c, (flatC xs)[j]? = some c → ownC c = false ∧ okC 0 c = true := fun j c hc => by
      obtain ⟨_, _, _, e3, e4⟩ := hcells j c (by rw [hcs]; exact hc) (hngx c (List.mem_of_getElem? hc))
      exact ⟨e3, e4⟩
    by_cases hroom : xs.length + ys.length ≤ c0
    · have hfit : xs.length * szT C.P e + zs.length ≤ arr.size := by rw [hzl, hasz, ← Nat.add_mul]; exact Nat.mul_le_mul_right _ hroom
      have hrun := run_append_room' (P := C.P) (w := w) t o.type e T i hu hinf b0 xs.length c0 arr hh ⟨b2, off2, none⟩ ys.length cap2 zs (by rw [his]; exact hzl) hzc hzone hroom (by rw [his]; exact hfit)
      rw [his] at hrun
      have hcnt0 : cntS b0 (tr C sl x).2 a.tmps.toList + cntB b0 g w 0 B = 0 := by
        have e1 := h5 b0
        have e2 := hi.uniq b0
        rw [hxv, hx0, cnt_own, if_pos rfl] at e1
        omega
      have hnp : ¬ Pr b0 := by
        intro hp
        have e1 := h5 b0
        have e2 := (hi.prot b0 hp).2.1
        rw [hxv, hx0, cnt_own, if_pos rfl] at e1
        omega
      have hcom' : g.comm b0 = some ⟨flatC xs, some (c0, szT C.P e)⟩ := by rw [hcom]; cases com; simp only at hcs hown; subst hcs hown; rfl
      have hasz' : (arr.toList.take (xs.length * szT C.P e) ++ zs ++ arr.toList.drop (xs.length * szT C.P e + zs.length)).toArray.size = c0 * szT C.P e := by
        simp only [List.size_toArray, List.length_append, List.length_take, List.length_drop, Array.length_toList]
        omega
      have hfl : (flatC (xs ++ ys)).length = (xs.length + ys.length) * szT C.P e := by
        rw [flatC_append, List.length_append, hfx, hfy, Nat.add_mul]
      obtain ⟨q1, q2⟩ := hi2.extend (cs1 := flatC (xs ++ ys)) (arr' := (arr.toList.take (xs.length * szT C.P e) ++ zs ++ arr.toList.drop (xs.length * szT C.P e + zs.length)).toArray) hcom' (by rw [flatC_append]; exact List.prefix_append _ _) hh hasz' hcm
        (by rw [hfl, hasz']; exact Nat.mul_le_mul_right _ hroom) hcnt0 hnp (fun j c hc => by
          obtain ⟨u, hu1, hu2⟩ := hnewrep hos hoo (arr.toList.drop (xs.length * szT C.P e + zs.length)) j c hc
          exact ⟨u, by simpa using hu1, hu2⟩)
      have hrepv : Rep (g.told b0 ⟨flatC (xs ++ ys), some (c0, szT C.P e)⟩) (.sl .own (xs ++ ys)) (.slice (some ⟨b0, 0, none⟩) (xs.length + ys.length) c0) := by
        have hall : ∀ q ∈ xs ++ ys, q.cells.length = szT C.P e := by
          intro q hq
          rcases List.mem_append.1 hq with h | h
          · exact huni q h
          · exact huni2 q h
        have hl' : (xs ++ ys).length = xs.length + ys.length := List.length_append
        show RepSl _ .own (xs ++ ys) _
        rw [← hl'] at hroom hfl ⊢
        have hz0 : xs ++ ys = x0 :: (xs0 ++ ys) := by rw [hx0]; rfl
        have hng' := hng hos
        rw [hz0] at hall hroom hfl hng' ⊢
        exact ⟨b0, 0, _, _, szT C.P e, rfl, hroom, G.told_self, by omega, hall, by simp only [Nat.zero_add]; rw [hfl]; exact Nat.le_refl _, by rw [List.drop_zero, ← hfl, List.take_length], (fun _ => ⟨rfl, rfl, rfl⟩), hng'⟩
      refine ⟨_, _, _, _, hexec _ _ (by rw [hxv, hyv]; exact hrun), .inl rfl, q1, q2.put1 hrepv rfl ?_ ?_ o.dst⟩
      · intro b
        have hcb : cntB b (g.told b0 ⟨flatC (xs ++ ys), some (c0, szT C.P e)⟩) (w.setRow b0 (arr.toList.take (xs.length * szT C.P e) ++ zs ++ arr.toList.drop (xs.length * szT C.P e + zs.length)).toArray) 0 B = cntB b g w 0 B := cntB_congr B 0 fun i cs' hb => by
          rw [Nat.zero_add, show (g.told b0 ⟨flatC (xs ++ ys), some (c0, szT C.P e)⟩).phi i = g.phi i from rfl]
          have hne' : g.phi i ≠ b0 := by rintro rfl; rw [(hi.sto.var i cs' hb).2.1] at hcom; cases hcom
          simp only [cellsAt, setRow_other w _ _ _ hne']
        rw [cnt_own' (by simp [hynil]), hcb]
        split
        · rename_i e'; simp only at e'; subst e'; omega
        · have := hi2.uniq b; omega
      · intro b hb
        rw [cnt_own' (by simp [hynil]), if_neg]
        simp only
        rintro rfl
        exact hnp hb
    · have hole : (arr.toList.take (xs.length * szT C.P e)).length = xs.length * szT C.P e := by
        rw [List.length_take]; exact Nat.min_eq_left (by rw [← hfx, ← hcs]; simpa using hlen)
      refine hgrown (arr.toList.take (xs.length * szT C.P e)) c0 hole hos hoo huni ?_
      rw [hxv, hyv]
      have holds : ∀ (j : Nat) v, (arr.toList.take (xs.length * szT C.P e))[j]? = some v → w.cell? ((⟨b0, 0, none⟩ : Addr).add j) = some v := by
        intro j v hv
        rw [List.getElem?_take] at hv
        split at hv
        · rw [Addr_add', Nat.zero_add, cell_of_row w b0 j arr T _ hh]; simpa using hv
        · cases hv
      exact run_append_grow (P := C.P) w t o.type e i zv hu hinf hz ⟨b0, 0, none⟩ xs.length c0 _ (by rw [his]; exact hole) holds ⟨b2, off2, none⟩ ys.length cap2 zs (by rw [his]; exact hzl) hzc (by omega)
        (by rw [hlim] at c2; omega) (growslice_fits (by omega) (by rw [hib]; rw [hlim] at c1; omega))

end
end Go.Wv
namespace Go.Wv

theorem flatten_get {α : Type} (l : List α) : ∀ (n j : Nat), j < n * l.length → ((List.replicate n l).flatten)[j]? = l[j % l.length]?
  | 0, j, h => by simp at h
  | n + 1, j, h => by
    rw [List.replicate_succ, List.flatten_cons]
    rcases Nat.lt_or_ge j l.length with hl | hl
    · rw [List.getElem?_append_left hl, Nat.mod_eq_of_lt hl]
    · rw [List.getElem?_append_right hl, flatten_get l n (j - l.length) (by rw [Nat.add_mul] at h; omega)]
      congr 1
      exact (Nat.mod_eq_sub_mod hl).symm
theorem zero_rows {g : G} {cs : List VV} {zs : Array Value} (h : All2 (RepC g) cs zs.toList) (n : Nat) :
    All2 (RepC g) (List.replicate n cs).flatten ((Array.range (n * zs.size)).map (zs[· % zs.size]!)).toList := by
  have hl := h.length
  simp only [Array.length_toList] at hl
  have hlen : (List.replicate n cs).flatten.length = n * cs.length := by simp
  refine All2.of_get (by rw [hlen, hl]; simp) fun j c u hc hu => ?_
  have hj : j < n * cs.length := by rw [← hlen]; exact (List.getElem?_eq_some_iff.1 hc).1
  have hpos : 0 < cs.length := Nat.pos_of_ne_zero (by rintro e; rw [e] at hj; simp at hj)
  rw [flatten_get cs n j hj] at hc
  obtain ⟨z, hz, hr⟩ := h.get hc
  have hmod : j % zs.size < zs.size := Nat.mod_lt _ (by omega)
  have : u = zs[j % zs.size]! := by
    have hj' : j < n * zs.size := by rw [← hl]; exact hj
    simp [hj'] at hu
    exact hu.symm
  rw [this, getElem!_pos zs _ hmod]
  rw [hl] at hz
  have : zs[j % zs.size]? = some z := by rw [← Array.getElem?_toList]; exact hz
  rw [Array.getElem?_eq_getElem hmod] at this
  rw [Option.some.inj this]
  exact hr

section
variable {C : Cfg} {Pr : Nat → Prop} {f : FuncId} {o : Oper} {g : G} {sl sl' : List VV} {B B' : List Blk} {a : Act} {w : World} {v : VV}

theorem setAt_run {sz : Nat} : ∀ {ps : List (Nat × VV)} {qs : List (Nat × Value)} {xs xs' : List VV} {us : Array Value}, setAt sz xs ps = some xs' → All2 (fun (p : Nat × VV) (q : Nat × Value) => p.1 = q.1 ∧ Rep g p.2 q.2 ∧ isOwn p.2 = false) ps qs →
    All2 (RepC g) (flatC xs) us.toList → (∀ x ∈ xs, x.cells.length = sz) → (∀ c ∈ flatC xs, ownC c = false ∧ okC 0 c = true) →
    ∃ us', Instr.fill (fun i => some (i * sz, sz)) us qs = some us' ∧ All2 (RepC g) (flatC xs') us'.toList ∧ (∀ x ∈ xs', x.cells.length = sz) ∧ (∀ c ∈ flatC xs', ownC c = false ∧ okC 0 c = true) ∧ xs'.length = xs.length
  | [], _, xs, xs', us, h, .nil, h2, h3, h4 => by
    obtain rfl := Option.some.inj h
    exact ⟨us, rfl, h2, h3, h4, rfl⟩
  | (i, v) :: ps, _, xs, xs', us, h, .cons (b := (j, u)) (bs := qs) ⟨hij, hr, hown⟩ hl, h2, h3, h4 => by
    simp only at hij hr hown
    subst hij
    unfold setAt at h
    split at h <;> first | (cases h; done) | skip
    rename_i hc
    obtain ⟨hi, hv, hok, hsz⟩ := hc
    obtain ⟨k1, k2⟩ := cells_rep hr hv
    have hfl := flatC_length h3
    have hl2 := h2.length
    have hl1 := k1.length
    simp only [Array.length_toList] at hl1 hl2
    have hle : i * sz + sz ≤ xs.length * sz := by
      have := Nat.mul_le_mul_right sz (show i + 1 ≤ xs.length from hi)
      rw [Nat.add_mul] at this; omega
    have hstep := fill_step (i * sz) u us (by omega)
    have hfs := flatC_set h3 hi hsz
    have h5 : All2 (RepC g) (flatC (xs.set i v)) (u.cells.zipIdx.foldl (fun cs (c, j) => cs.setIfInBounds (i * sz + j) c) us).toList := by
      rw [hstep, hfs]; exact All2_splice h2 k1 _
    have h6 : ∀ x ∈ xs.set i v, x.cells.length = sz := fun x hx => by
      rcases List.mem_or_eq_of_mem_set hx with h | h
      · exact h3 x h
      · rw [h]; exact hsz
    have h7 : ∀ c ∈ flatC (xs.set i v), ownC c = false ∧ okC 0 c = true := by
      intro c hc
      rw [hfs] at hc
      unfold splice at hc
      simp only [List.mem_append] at hc
      rcases hc with (hc | hc) | hc
      · exact h4 c (List.mem_of_mem_take hc)
      · refine ⟨?_, List.all_eq_true.1 (cells_ok hok hv) c hc⟩
        cases v <;> first | (simp only [VV.cells, List.mem_singleton] at hc; subst hc; exact hown) | (have := List.any_eq_false.1 (show List.any _ ownC = false from hown) c hc; simpa using this) | cases hv
      · exact h4 c (List.mem_of_mem_drop hc)
    obtain ⟨us', e1, e2, e3, e4, e5⟩ := setAt_run h hl h5 h6 h7
    refine ⟨us', ?_, e2, e3, e4, by rw [e5, List.length_set]⟩
    simp only [Instr.fill]
    rw [if_neg (by simp; omega)]
    exact e1

theorem toView_cells_rep {zv : Value} (hv : isVal (ofV zv) = true) : All2 (RepC g) (toView (ofV zv)).cells zv.cells.toList ∧ (toView (ofV zv)).cells.length = (ofV zv).cells.length ∧ ∀ c ∈ (toView (ofV zv)).cells, ownC c = false ∧ okC 0 c = true := by
  have hnt := ofV_tup zv
  have hv0 : isVal0 (ofV zv) = true := by generalize ofV zv = x at hv; cases x <;> first | rfl | cases hv
  obtain ⟨z1, _, z3⟩ := zero_cells (g := g) hv0
  rw [toView_viewV hnt, viewV_cells hnt]
  refine ⟨All2_viewC z1, by simp, fun c hc => ?_⟩
  obtain ⟨c0, hc0, rfl⟩ := List.mem_map.1 hc
  exact ⟨ownC_viewC c0, okC_viewC (List.all_eq_true.1 (z3 0) c0 hc0)⟩

theorem buildSlice_ok (hg : GlobOk C g) (hi : Inv Pr g sl B a.tmps.toList w) {t : TypeId} {len : Nat} {parts : Array (Nat × Operand)} (ho : o.op = .buildSlice t len parts) (h : vop C f o sl B = some (v, sl', B')) :
    OpOk C Pr o g B.length sl' v B' a w := by
  simp only [vop, ho] at h
  split at h <;> first | (cases h; done) | skip
  rename_i e he
  split at h <;> first | (cases h; done) | skip
  rename_i z hz
  split at h <;> first | (cases h; done) | skip
  rename_i hc
  obtain ⟨hv, hzl, hsmall⟩ := hc
  split at h <;> first | (cases h; done) | skip
  rename_i xs hxs
  simp only [Option.some.injEq, Prod.mk.injEq] at h
  obtain ⟨rfl, rfl, rfl⟩ := h
  obtain ⟨hu, hne⟩ := elemT_spec he
  obtain ⟨i, zv, hinf, hzv, rfl⟩ := zeroT_spec hz
  obtain ⟨t1, t2, t3⟩ := toView_cells_rep (g := g) hv
  have hzs : zv.cells.size = szT C.P e := by have := t1.length; simp only [Array.length_toList] at this; omega
  have hq : All2 (fun (p : Nat × VV) (q : Nat × Value) => p.1 = q.1 ∧ Rep g p.2 q.2 ∧ isOwn p.2 = false) (parts.toList.map fun p => (p.1, toView (ev C sl p.2))) (parts.toList.map fun p => (p.1, evR a.tmps.toList p.2)) := by
    generalize parts.toList = l
    induction l with
    | nil => exact .nil
    | cons p l ih => exact .cons ⟨rfl, Rep_toView (ev_rep hg hi.rep p.2), isOwn_toView _⟩ ih
  have hfr : flatC (List.replicate len (toView (ofV zv))) = (List.replicate len (toView (ofV zv)).cells).flatten := by
    simp [flatC, List.flatMap, List.map_replicate]
  have hinit : All2 (RepC g) (flatC (List.replicate len (toView (ofV zv)))) ((Array.range (len * szT C.P e)).map ((if len * szT C.P e = 0 then #[] else zv.cells)[· % (if len * szT C.P e = 0 then #[] else zv.cells).size]!)).toList := by
    by_cases h0 : len * szT C.P e = 0
    · have : len = 0 := by rcases Nat.mul_eq_zero.1 h0 with h | h; exact h; exact absurd h hne
      subst this
      simp [flatC]
      exact .nil
    · rw [if_neg h0, hfr, ← hzs]
      exact zero_rows t1 len
  obtain ⟨us', e1, e2, e3, e4, e5⟩ := setAt_run hxs hq hinit
    (fun x hx => by rw [List.eq_of_mem_replicate hx, t2]; exact hzl)
    (fun c hc => by
      rw [hfr] at hc
      obtain ⟨l, hl, hcl⟩ := List.mem_flatten.1 hc
      rw [List.eq_of_mem_replicate hl] at hcl
      exact t3 c hcl)
  have hxl : xs.length = len := by rw [e5]; simp
  have hus : us'.size = len * szT C.P e := by
    have := e2.length
    rw [flatC_length e3, hxl] at this
    simpa using this.symm
  have hrun : (execOp a.eval o).run C.P w = .ok (.value (.slice (some ⟨w.heap.size, 0, none⟩) len len)) (w.alloc (.cells us' e)) := by
    have hp : (parts.map fun (i, x) => (i, a.eval x)).toList = parts.toList.map fun p => (p.1, evR a.tmps.toList p.2) := by simp [eval_evR]
    simp only [execOp, ho, Instr.buildSlice, Sem.run_bind, run_underlying hu, Result.andThen_ok, sizeOf_run (w := w) hne]
    rw [if_neg (by omega)]
    by_cases h0 : len * szT C.P e = 0
    · rw [if_pos h0] at e1 ⊢
      simp only [Sem.run_pure, Result.andThen_ok, hp, e1, Sem.run_bind, newRow, run_newObj, World.alloc_eq]
    · rw [if_neg h0] at e1 ⊢
      simp only [Sem.run_bind, zeroValue, typeInfo, run_program, Result.andThen_ok, hinf, Sem.run_pure, hzv, hp, e1, newRow, run_newObj, World.alloc_eq]
  obtain ⟨q1, q2⟩ := hi.newCom (cs := flatC xs) (own := if len = 0 then none else some (len, szT C.P e)) (arr := us') e (0, 0) (by have := e2.length; simp at this; omega)
    (fun j c hc => by
      obtain ⟨u, hu1, hu2⟩ := e2.get hc
      have := e4 c (List.mem_of_getElem? hc)
      exact ⟨u, by rw [← Array.getElem?_toList]; exact hu1, hu2, this.1, this.2⟩)
    (by
      intro cap sz e'
      split at e' <;> first | (cases e'; done) | skip
      cases e'
      refine ⟨rfl, hus, ?_⟩
      have : len * 1 ≤ len * szT C.P e := Nat.mul_le_mul_left _ (by omega)
      simp only [maxLen]; omega) (w1 := w) rfl
  have hfresh0 : cntS w.heap.size sl a.tmps.toList = 0 := by
    rcases Nat.eq_zero_or_pos (cntS w.heap.size sl a.tmps.toList) with h | h
    · exact h
    · obtain ⟨com, hk⟩ := cntS_known hi.rep h; exact absurd (hi.sto.lt hk) (Nat.lt_irrefl _)
  by_cases h0 : len = 0
  · subst h0
    have : xs = [] := List.eq_nil_of_length_eq_zero hxl
    subst this
    rw [if_pos rfl]
    exact ⟨_, _, _, _, hrun, .inl rfl, q1, q2.put (v := .sl .view []) (u := .slice (some ⟨w.heap.size, 0, none⟩) 0 0) (⟨_, _, rfl⟩ : ∃ a c, Value.slice (some ⟨w.heap.size, 0, none⟩) 0 0 = .slice a 0 c) rfl (fun _ => cnt_zero rfl) o.dst⟩
  · rw [if_neg h0]
    rw [if_neg h0] at q1 q2
    have hxne : xs ≠ [] := by rintro rfl; simp at hxl; exact h0 hxl.symm
    obtain ⟨x0, xs0, hx0⟩ := List.exists_cons_of_ne_nil hxne
    have hrepv : Rep (g.told w.heap.size ⟨flatC xs, some (len, szT C.P e)⟩) (.sl .own xs) (.slice (some ⟨w.heap.size, 0, none⟩) len len) := by
      show RepSl _ .own xs _
      rw [← hxl] at *
      have hfl := flatC_length e3
      have hng := All2_ng e2
      rw [hx0] at e3 hfl hng ⊢
      exact ⟨w.heap.size, 0, _, _, szT C.P e, rfl, Nat.le_refl _, G.told_self, by omega, e3, by simp only [Nat.zero_add]; rw [hfl]; exact Nat.le_refl _, by rw [List.drop_zero, ← hfl, List.take_length], (fun _ => ⟨rfl, rfl, rfl⟩), hng⟩
    have hcb := fresh_cntB hi (g' := g.told w.heap.size ⟨flatC xs, some (len, szT C.P e)⟩) (w' := w.alloc (.cells us' e)) (fun _ => rfl) (fun b hb => heap_old w _ hb)
    refine ⟨_, _, _, _, hrun, .inl rfl, q1, q2.put1 hrepv rfl ?_ ?_ o.dst⟩
    · intro b
      rw [cnt_own' hxne]
      split
      · rename_i e'; simp only at e'; subst e'; rw [hfresh0, hcb]; omega
      · have := q2.uniq b; omega
    · intro b hb
      rw [cnt_own' hxne, if_neg]
      have := (hi.prot b hb).1
      simp only
      omega
where
  fresh_cntB {Pr : Nat → Prop} {g g' : G} {sl : List VV} {B : List Blk} {tm : List Value} {w w' : World} (hi : Inv Pr g sl B tm w) (hphi : ∀ i, g'.phi i = g.phi i) (hh : ∀ b, b < w.heap.size → w'.heap[b]? = w.heap[b]?) :
      cntB w.heap.size g' w' 0 B = 0 := by
    rw [cntB_congr (g := g) (w := w) B 0 fun i cs hb => by
      rw [Nat.zero_add, hphi]
      simp only [cellsAt, hh _ (hi.sto.phi_lt hb)]]
    have : ∀ (B : List Blk) (k : Nat), (∀ (i : Nat) cs, B[i]? = some (.var cs) → ∃ arr T, w.heap[g.phi (k + i)]? = some (.cells arr T (0, 0)) ∧ All2 (RepC g) cs arr.toList) → cntB w.heap.size g w k B = 0 := by
      intro B
      induction B with
      | nil => intro k _; rfl
      | cons b B ih =>
        intro k hk
        rw [cntB_cons, ih (k + 1) fun i cs hb => by have := hk (i + 1) cs (by simpa using hb); rwa [show k + (i + 1) = k + 1 + i by omega] at this]
        cases b with
        | ro => rfl
        | var cs =>
          obtain ⟨arr, T, e1, e2⟩ := hk 0 cs rfl
          rw [Nat.add_zero] at e1
          simp only [cntBlk, cellsAt_of e1, Nat.add_zero]
          rcases Nat.eq_zero_or_pos (cntL w.heap.size cs arr.toList) with h | h
          · exact h
          · obtain ⟨com, hk⟩ := cntL_known e2 h; exact absurd (hi.sto.lt hk) (Nat.lt_irrefl _)
    exact this B 0 fun i cs hb => by rw [Nat.zero_add]; exact (hi.sto.var i cs hb).1

end
end Go.Wv
namespace Go.Wv

section
variable {C : Cfg} {Pr : Nat → Prop} {f : FuncId} {o : Oper} {g : G} {sl sl' : List VV} {B B' : List Blk} {a : Act} {w : World} {v : VV}

theorem len_ok (hg : GlobOk C g) (hi : Inv Pr g sl B a.tmps.toList w) {x : Operand} {t : TypeId} (ho : o.op = .call { callee := .builtin .len, args := #[x], argTypes := #[t] }) (h : vop C f o sl B = some (v, sl', B')) : OpOk C Pr o g B.length sl' v B' a w := by
  simp only [vop, ho] at h
  split at h <;> first | (cases h; done) | skip
  rename_i r hr
  simp only [Option.some.injEq, Prod.mk.injEq] at h
  obtain ⟨rfl, rfl, rfl⟩ := h
  obtain ⟨z, h1, rfl, h2⟩ := vlen_run (w := w) hr (ev_rep hg hi.rep x) o.type
  refine OpOk.pure hi (u := z) ?_ ⟨rfl, h2⟩ rfl rfl
  unfold execOp
  simp only [ho, resolve, invoke, builtin, Sem.run_bind, Sem.run_pure, Result.andThen_ok, List.map_toArray, List.map_cons, List.map_nil, eval_evR, h1]

theorem minmax_ok (hg : GlobOk C g) (hi : Inv Pr g sl B a.tmps.toList w) {mx : Bool} {x y : Operand} {r : List Operand} {ts : Array TypeId} (ho : o.op = .call { callee := .builtin (if mx then .max else .min), args := (x :: y :: r).toArray, argTypes := ts })
    (h : vop C f o sl B = some (v, sl', B')) : OpOk C Pr o g B.length sl' v B' a w := by
  obtain ⟨z, hz, hv1, hv2, hv3⟩ : ∃ z, vminL mx (ev C sl x) ((y :: r).map (ev C sl)) = some z ∧ v = z ∧ sl' = sl ∧ B' = B := by
    cases hz : vminL mx (ev C sl x) ((y :: r).map (ev C sl)) with
    | none => cases mx <;> simp only [vop, ho, if_true, if_false, Bool.false_eq_true, hz, reduceCtorEq] at h
    | some z =>
      cases mx <;> simp only [vop, ho, if_true, if_false, Bool.false_eq_true, hz, Option.some.injEq, Prod.mk.injEq] at h <;>
        exact ⟨z, rfl, h.1.symm, h.2.1.symm, h.2.2.symm⟩
  rw [hv1, hv2, hv3]
  have hl : All2 (Rep g) ((y :: r).map (ev C sl)) ((y :: r).map (evR a.tmps.toList)) := by
    generalize y :: r = l
    induction l with
    | nil => exact .nil
    | cons p l ih => exact .cons (ev_rep hg hi.rep p) ih
  obtain ⟨u, h1, h2, h3⟩ := vmin_run (C := C) (w := w) (t := 0) hz (ev_rep hg hi.rep x) hl
  obtain ⟨k, n, rfl⟩ := h3 (by simp)
  refine OpOk.pure hi (u := u) ?_ h2 rfl rfl
  have hargs : ((x :: y :: r).toArray.map a.eval).toList = evR a.tmps.toList x :: (y :: r).map (evR a.tmps.toList) := by simp [eval_evR]
  cases mx
  · have h4 : (Builtin.min_ ts o.type ((x :: y :: r).toArray.map a.eval)).run C.P w = .ok u w := by
      unfold Builtin.min_
      rw [hargs]
      simpa using h1
    simp only [execOp, ho, Bool.false_eq_true, if_false, resolve, invoke, builtin, Sem.run_bind, Sem.run_pure, Result.andThen_ok, h4]
  · have h4 : (Builtin.max_ ts o.type ((x :: y :: r).toArray.map a.eval)).run C.P w = .ok u w := by
      unfold Builtin.max_
      rw [hargs]
      simpa using h1
    simp only [execOp, ho, if_true, resolve, invoke, builtin, Sem.run_bind, Sem.run_pure, Result.andThen_ok, h4]

end
end Go.Wv
namespace Go.Wv

section
variable {C : Cfg} {Pr : Nat → Prop} {f : FuncId} {o : Oper} {g : G} {sl sl' : List VV} {B B' : List Blk} {a : Act} {w : World} {v : VV}

theorem toList_one {α : Type} {xs : Array α} {x : α} (h : xs.toList = [x]) : xs = #[x] := by
  cases xs; simp only at h; subst h; rfl
theorem toList_two {α : Type} {xs : Array α} {x y : α} (h : xs.toList = [x, y]) : xs = #[x, y] := by
  cases xs; simp only at h; subst h; rfl

theorem flatten_all {p : VV → Bool} {cs : List VV} (h : cs.all p = true) (n : Nat) : (List.replicate n cs).flatten.all p = true := by
  refine List.all_eq_true.2 fun x hx => ?_
  obtain ⟨l, hl, hx⟩ := List.mem_flatten.1 hx
  rw [List.eq_of_mem_replicate hl] at hx
  exact List.all_eq_true.1 h x hx
theorem flatten_cnt {b : Nat} {cs : List VV} {us : List Value} (h : cs.any ownC = false) (n : Nat) : cntL b (List.replicate n cs).flatten us = 0 := by
  refine cntL_zero (List.any_eq_false.2 fun x hx => ?_)
  obtain ⟨l, hl, hx⟩ := List.mem_flatten.1 hx
  rw [List.eq_of_mem_replicate hl] at hx
  exact List.any_eq_false.1 h x hx
theorem ofV_cells_own (zv : Value) : (ofV zv).cells.any ownC = false := by
  have h := ofV_own zv
  have ht := ofV_tup zv
  generalize ofV zv = z at h ht
  cases z <;> first | (simp only [VV.cells, List.any_cons, List.any_nil, Bool.or_false]; exact h) | exact h | exact absurd ⟨_, rfl⟩ ht

theorem makeSlice_ok (hg : GlobOk C g) (hi : Inv Pr g sl B a.tmps.toList w) {t : TypeId} {x y : Operand} (ho : o.op = .makeSlice t x y) (h : vop C f o sl B = some (v, sl', B')) : OpOk C Pr o g B.length sl' v B' a w := by
  simp only [vop, ho] at h
  split at h <;> first | (cases h; done) | skip
  rename_i l c e hl hc he
  split at h <;> first | (cases h; done) | skip
  rename_i z hz
  split at h <;> first | (cases h; done) | skip
  rename_i ag hag
  split at h <;> first | (cases h; done) | skip
  rename_i hcond
  obtain ⟨hlc, hcl, hcb, hv, hsz⟩ := hcond
  simp only [Option.some.injEq, Prod.mk.injEq] at h
  obtain ⟨rfl, rfl, rfl⟩ := h
  obtain ⟨kl, hx⟩ := ev_ix hg hi hl
  obtain ⟨kc, hy⟩ := ev_ix hg hi hc
  obtain ⟨i, zv, hi', hzv, rfl⟩ := zeroT_spec hz
  obtain ⟨ht, hne⟩ := elemT_spec he
  have hv0 : isVal0 (ofV zv) = true := by generalize ofV zv = x at hv; cases x <;> first | rfl | cases hv
  obtain ⟨z1, z2, z3⟩ := zero_cells (g := g) hv0
  have hsize : i.size = szT C.P e := by simp only [szT, hi', Option.map_some, Option.getD_some]
  have hbyte : i.bytes = byT C.P e := by simp only [byT, hi', Option.map_some, Option.getD_some]
  have hzs : zv.cells.size = szT C.P e := by have := z1.length; simp only [Array.length_toList] at this; omega
  simp only [lim] at hcl hcb
  have hrun := run_make (P := C.P) w t e i zv ht hi' hzv kl kc l c (by omega) (by omega) (by rw [hbyte, ← Int.natCast_mul]; have : byT C.P e * c ≤ 70368744177664 := by rw [Nat.mul_comm]; exact hcb
                                                                                             omega) (by omega)
  simp only [Int.toNat_natCast] at hrun
  have hrep : All2 (RepC g) (List.replicate c (ofV zv).cells).flatten (madeCells zv.cells (c * i.size)).toList := by
    rw [hsize, ← hzs]; exact zero_rows z1 c
  obtain ⟨h1, h2⟩ := hi.newVar e hrep (flatten_all (z3 _) c) hi.rep hi.ok (fun b => by rw [flatten_cnt (ofV_cells_own zv)]; omega)
  refine ⟨_, .slice (some ⟨w.heap.size, 0, none⟩) l c, _, _, ?_, .inl rfl, h1, h2.put (v := .mref B.length ag (szT C.P e) 0 l) ?_ ?_ (fun _ => cnt_zero rfl) o.dst⟩
  · simp only [execOp, ho, eval_evR, hx, hy, Sem.run_bind, hrun, Result.andThen_ok, Sem.run_pure]
  · exact ⟨c, by rw [G.at_self, Nat.zero_mul], hlc⟩
  · simp [okR, okV, okC]

theorem bytesVV_get {s : ByteArray} {j : Nat} {c : VV} (h : (bytesVV s)[j]? = some c) : ∃ b : UInt8, s.data[j]? = some b ∧ c = .lit (.int .u8 b.toNat) := by
  simp only [bytesVV, List.getElem?_map, Option.map_eq_some_iff] at h
  obtain ⟨b, hb, rfl⟩ := h
  exact ⟨b, by simpa using hb, rfl⟩
theorem bytesVV_length (s : ByteArray) : (bytesVV s).length = s.size := by
  simp only [bytesVV, List.length_map, Array.length_toList]; rfl
theorem bytesVV_flat (s : ByteArray) : flatC (bytesVV s) = bytesVV s := by
  unfold bytesVV flatC
  induction s.data.toList with
  | nil => rfl
  | cons b l ih => simp only [List.map_cons, List.flatMap_cons, ih]; rfl

theorem bytesOf_spec : ∀ {xs : List VV} {bs : List UInt8}, bytesOf xs = some bs → ∃ ns : List Int, xs = ns.map (fun n => VV.lit (.int .u8 n)) ∧ bs = ns.map fun n => UInt8.ofNat n.toNat
  | [], bs, h => by cases h; exact ⟨[], rfl, rfl⟩
  | c :: r, bs, h => by
    unfold bytesOf at h
    split at h
    · rename_i e; cases e
    · rename_i n r' e
      cases e
      split at h
      · rename_i l hl
        split at h
        · cases h
          obtain ⟨ns, rfl, rfl⟩ := bytesOf_spec hl
          exact ⟨n :: ns, rfl, rfl⟩
        · cases h
      · cases h
    · cases h
theorem RepSl_bytes {g : G} {B : List Blk} {w : World} (hs : Sto g B w) {f : Fl} {ns : List Int} {u : Value} (h : RepSl g f (ns.map fun n => VV.lit (.int .u8 n)) u) (hne : ns ≠ []) :
    ∃ bk off c, u = .slice (some ⟨bk, off, none⟩) ns.length c ∧ ∀ (j : Nat) n, ns[j]? = some n → w.cell? ⟨bk, off + j, none⟩ = some (.int .u8 n) := by
  cases ns with
  | nil => exact absurd rfl hne
  | cons s ss =>
    obtain ⟨bk, o, c, com, sz, rfl, h1, h2, h3, h4, h5, h6, _⟩ := h
    have hsz : sz = 1 := by
      have := h4 (VV.lit (.int .u8 s)) (by simp)
      simpa [VV.cells] using this.symm
    subst hsz
    obtain ⟨arr, T, fz, k1, k2, k3, _⟩ := hs.comm bk com h2
    refine ⟨bk, o, c, by simp, fun j x hx => ?_⟩
    have hj : j < (s :: ss).length := by
      rcases Nat.lt_or_ge j (s :: ss).length with h | h
      · exact h
      · rw [List.getElem?_eq_none h] at hx; cases hx
    have hflat : flatC ((s :: ss).map fun s => VV.lit (.int .u8 s)) = (s :: ss).map fun s => VV.lit (.int .u8 s) := by
      unfold flatC
      induction (s :: ss) with
      | nil => rfl
      | cons a l ih => rw [List.map_cons, List.flatMap_cons, ih]; rfl
    have hcs : com.cs[o + j]? = some (VV.lit (.int .u8 x)) := by
      have h7 := congrArg (·[j]?) h6
      simp only [Nat.mul_one] at h7
      rw [List.getElem?_take_of_lt (by simpa using hj), List.getElem?_drop] at h7
      rw [h7]
      show (flatC ((s :: ss).map fun s => VV.lit (.int .u8 s)))[j]? = _
      rw [hflat, List.getElem?_map, hx]; rfl
    obtain ⟨u, hu, hr, _⟩ := k3 _ _ hcs (by intro h; cases h)
    obtain ⟨rfl, _⟩ := hr
    simp [World.cell?, k1, hu]
theorem toString_ok (hg : GlobOk C g) (hi : Inv Pr g sl B a.tmps.toList w) {s d : TypeId} {x : Operand} {f' : Fl} {xs : List VV} (ho : o.op = .convert s d x) (hx : ev C sl x = .sl f' xs) (h : vop C f o sl B = some (v, sl', B')) : OpOk C Pr o g B.length sl' v B' a w := by
  simp only [vop, ho] at h
  split at h <;> first | (cases h; done) | skip
  rename_i r hr
  simp only [Option.some.injEq, Prod.mk.injEq] at h
  obtain ⟨rfl, rfl, rfl⟩ := h
  rw [hx] at hr
  simp only [vconv] at hr
  split at hr <;> first | (cases hr; done) | skip
  rename_i e he
  split at hr <;> first | (cases hr; done) | skip
  rename_i hu8
  split at hr <;> first | (cases hr; done) | skip
  rename_i hc
  split at hr <;> first | (cases hr; done) | skip
  rename_i bs hbs
  obtain rfl := Option.some.inj hr
  obtain ⟨ns, rfl, rfl⟩ := bytesOf_spec hbs
  obtain ⟨hd, hne⟩ := elemT_spec he
  have hrep : Rep g (ev C sl x) (evR a.tmps.toList x) := ev_rep hg hi.rep x
  rw [hx] at hrep
  have hrep : RepSl g f' (ns.map fun n => VV.lit (.int .u8 n)) (evR a.tmps.toList x) := hrep
  have key : (convert s d (evR a.tmps.toList x)).run C.P w = .ok (.string ⟨(ns.map fun n => UInt8.ofNat n.toNat).toArray⟩) w := by
    by_cases hnil : ns = []
    · subst hnil
      have : ∃ p c, evR a.tmps.toList x = .slice p 0 c := by
        cases f' with
        | own => exact ⟨none, 0, hrep⟩
        | view => exact hrep
      obtain ⟨p, c, hp⟩ := this
      rw [hp, run_convert_bytes_string w s d e p 0 c hd (intT_spec hu8) (strT_spec hc.1)]
      cases p with
      | none => simp [Conv.bytesToString, Sem.run_pure]; rfl
      | some p => exact run_bytesToString w p 0 c [] (by simp [loadCells, loadCellsFrom, Sem.run_pure])
    · obtain ⟨bk, off, c, hu, hcell⟩ := RepSl_bytes hi.sto hrep hnil
      rw [hu]
      exact run_convert_bytes_arg w s e hd (intT_spec hu8) bk off ns.length c ns rfl (fun i hi' => by rw [hcell i ns[i] (List.getElem?_eq_getElem hi')]; simp [List.getD, List.getElem?_eq_getElem hi']) d (strT_spec hc.1)
  exact OpOk.pure hi (u := .string _) (by simp [execOp, ho, eval_evR, key, Sem.run_bind, Result.andThen_ok, Sem.run_pure]) ⟨rfl, rfl⟩ rfl rfl

theorem convertAll_ok (hg : GlobOk C g) (hi : Inv Pr g sl B a.tmps.toList w) {s d : TypeId} {x : Operand} (ho : o.op = .convert s d x) (h : vop C f o sl B = some (v, sl', B')) : OpOk C Pr o g B.length sl' v B' a w := by
  by_cases hs : ∃ f xs, ev C sl x = .sl f xs
  · obtain ⟨f, xs, hx⟩ := hs; exact toString_ok hg hi ho hx h
  have hs : ∀ f xs, ev C sl x ≠ .sl f xs := fun f xs e => hs ⟨f, xs, e⟩
  by_cases hb : ∀ xs, v ≠ .sl .view xs
  · exact convert_ok hg hi ho hb hs h
  · simp only [vop, ho] at h
    split at h <;> first | (cases h; done) | skip
    rename_i r hr
    simp only [Option.some.injEq, Prod.mk.injEq] at h
    obtain ⟨rfl, rfl, rfl⟩ := h
    unfold vconv at hr
    split at hr <;> first | (cases hr; done) | skip
    · split at hr <;> first | (cases hr; done) | skip
      split at hr <;> first | (cases hr; done) | skip
      obtain rfl := Option.some.inj hr
      exact absurd (fun _ => by simp) hb
    · rename_i t hx
      split at hr <;> first | (cases hr; done) | skip
      rename_i h1
      split at hr
      · obtain rfl := Option.some.inj hr
        exact absurd (fun _ => by simp) hb
      · split at hr <;> first | (cases hr; done) | skip
        rename_i e he
        split at hr <;> first | (cases hr; done) | skip
        rename_i hu8
        split at hr <;> first | (cases hr; done) | skip
        rename_i hlim
        obtain rfl := Option.some.inj hr
        have hx' := ev_lit hg hi hx
        obtain ⟨hd, hne⟩ := elemT_spec he
        have hrun := run_bytes_of_string (P := C.P) w s d e t (strT_spec h1) hd (intT_spec hu8)
        have hge := grownCap_ge w t.size 0 e
        have hrow : (bytesRow t (grownCap w t.size 0 e)).size = grownCap w t.size 0 e := by
          simp only [bytesRow, Array.size_append, Array.size_map, Array.size_replicate]
          show t.size + _ = _
          omega
        have hcell : ∀ (j : Nat) c, (bytesVV t)[j]? = some c → ∃ u, (bytesRow t (grownCap w t.size 0 e))[j]? = some u ∧ RepC g c u ∧ ownC c = false ∧ okC 0 c = true := by
          intro j c hc
          obtain ⟨b, hb, rfl⟩ := bytesVV_get hc
          have hj := (Array.getElem?_eq_some_iff.1 hb).1
          refine ⟨.int .u8 b.toNat, ?_, ⟨rfl, rfl⟩, rfl, rfl⟩
          rw [bytesRow, Array.getElem?_append_left (by simpa using hj), Array.getElem?_map, hb]
          rfl
        obtain ⟨k1, k2⟩ := hi.newCom (own := none) e ((bytesRow t (grownCap w t.size 0 e)).size, (bytesRow t (grownCap w t.size 0 e)).size + 1) (by rw [bytesVV_length, hrow]; exact hge) hcell (fun _ _ h => by cases h) (w1 := w.drew) rfl
        refine ⟨_, .slice (some ⟨w.heap.size, 0, none⟩) t.size (grownCap w t.size 0 e), _, _, ?_, .inl rfl, k1, k2.put (v := .sl .view (bytesVV t)) ?_ rfl (fun _ => cnt_zero rfl) o.dst⟩
        · simp only [execOp, ho, eval_evR, hx', Sem.run_bind, hrun, Result.andThen_ok, Sem.run_pure]
        · refine cell_rep (r := .sl .view (bytesVV t)) ?_
          show RepSl (g.told w.heap.size ⟨bytesVV t, none⟩) .view (bytesVV t) _
          have hl := bytesVV_length t
          have hfl := bytesVV_flat t
          have hall : ∀ x ∈ bytesVV t, x.cells.length = 1 := by
            intro x hx
            obtain ⟨j, hj⟩ := List.getElem?_of_mem hx
            obtain ⟨b, _, rfl⟩ := bytesVV_get hj
            rfl
          have hng : ∀ x ∈ flatC (bytesVV t), x ≠ .gone := by
            rw [hfl]
            intro x hx
            obtain ⟨j, hj⟩ := List.getElem?_of_mem hx
            obtain ⟨b, _, rfl⟩ := bytesVV_get hj
            intro h; cases h
          generalize hcs : bytesVV t = cs at hl hfl hall hng
          cases cs with
          | nil => exact ⟨some ⟨w.heap.size, 0, none⟩, grownCap w t.size 0 e, by rw [← hl]; rfl⟩
          | cons c cs =>
            refine ⟨w.heap.size, 0, grownCap w t.size 0 e, ⟨c :: cs, none⟩, 1, by rw [hl], by rw [hl]; exact hge, G.told_self, Nat.one_pos, hall, by simp, ?_, (fun h => by cases h), hng⟩
            rw [hfl]
            simp
    · rename_i f0 xs0 hx0; exact absurd hx0 (hs f0 xs0)

/-- Each operation that is no call of a function with a text. -/
theorem vop_sound (hg : GlobOk C g) (hi : Inv Pr g sl B a.tmps.toList w) (h : vop C f o sl B = some (v, sl', B')) : OpOk C Pr o g B.length sl' v B' a w := by
  cases ho : o.op with
  | move x => exact move_ok hg hi ho h
  | assign x => exact assign_ok hg hi ho h
  | pick c x y => exact pick_ok hg hi ho h
  | alloc t => exact alloc_ok hi ho h
  | box t x => exact box_ok hg hi ho h
  | build t ps => exact build_ok hg hi ho h
  | buildSlice t n ps => exact buildSlice_ok hg hi ho h
  | load t x => exact load_ok hg hi ho h
  | store t x y => exact store_ok hg hi ho h
  | nilCheck x => exact nilCheck_ok hg hi ho h
  | binOp op t x y t' => exact binOp_ok hg hi ho h
  | unOp op t x => exact unOp_ok hg hi ho h
  | convert s d x => exact convertAll_ok hg hi ho h
  | makeSlice t x y => exact makeSlice_ok hg hi ho h
  | slice t x lo hi' mx => exact slice_ok hg hi ho h
  | fieldAddr s x i => exact fieldAddr_ok hg hi ho h
  | indexAddr t x i => exact indexAddr_ok hg hi ho h
  | index t x i => exact index_ok hg hi ho h
  | extract x i => exact extract_ok hg hi ho h
  | call c =>
    obtain ⟨cal, args, ts⟩ := c
    cases cal with
    | value x => simp only [vop, ho, reduceCtorEq] at h
    | invoke x m => simp only [vop, ho, reduceCtorEq] at h
    | builtin b =>
      cases b <;> try (simp only [vop, ho, reduceCtorEq] at h; done)
      case append =>
        cases hargs : args.toList with
        | nil => simp only [vop, ho, hargs, reduceCtorEq] at h
        | cons x l => cases l with
          | nil => simp only [vop, ho, hargs, reduceCtorEq] at h
          | cons y l => cases l with
            | cons => simp only [vop, ho, hargs, reduceCtorEq] at h
            | nil => cases hts : ts.toList with
              | nil => simp only [vop, ho, hargs, hts, reduceCtorEq] at h
              | cons t m => cases m with
                | nil => simp only [vop, ho, hargs, hts, reduceCtorEq] at h
                | cons t' m => cases m with
                  | cons => simp only [vop, ho, hargs, hts, reduceCtorEq] at h
                  | nil =>
                    by_cases e : t = t'
                    · subst e
                      obtain rfl := toList_two hargs
                      obtain rfl := toList_two hts
                      exact append_ok hg hi ho h
                    · simp only [vop, ho, hargs, hts, e, if_false, reduceCtorEq] at h
      case len =>
        cases hargs : args.toList with
        | nil => simp only [vop, ho, hargs, reduceCtorEq] at h
        | cons x l => cases l with
          | cons => simp only [vop, ho, hargs, reduceCtorEq] at h
          | nil => cases hts : ts.toList with
            | nil => simp only [vop, ho, hargs, hts, reduceCtorEq] at h
            | cons t m => cases m with
              | cons => simp only [vop, ho, hargs, hts, reduceCtorEq] at h
              | nil =>
                obtain rfl := toList_one hargs
                obtain rfl := toList_one hts
                exact len_ok hg hi ho h
      case max =>
        cases hargs : args.toList with
        | nil => simp only [vop, ho, hargs, reduceCtorEq] at h
        | cons x l => cases l with
          | nil => simp only [vop, ho, hargs, reduceCtorEq] at h
          | cons y l => exact minmax_ok (mx := true) (x := x) (y := y) (r := l) (ts := ts) hg hi (by rw [ho, ← hargs]; simp) h
      case min =>
        cases hargs : args.toList with
        | nil => simp only [vop, ho, hargs, reduceCtorEq] at h
        | cons x l => cases l with
          | nil => simp only [vop, ho, hargs, reduceCtorEq] at h
          | cons y l => exact minmax_ok (mx := false) (x := x) (y := y) (r := l) (ts := ts) hg hi (by rw [ho, ← hargs]; simp) h
  | _ => simp only [vop, ho, reduceCtorEq] at h

theorem freezeC_len {B B' : List Blk} {v v' : VV} (h : freezeC B v = some (v', B')) : B'.length = B.length := by
  unfold freezeC at h
  split at h
  · split at h <;> first | (cases h; done) | skip
    split at h <;> first | (cases h; done) | skip
    simp only [Option.some.injEq, Prod.mk.injEq] at h
    rw [← h.2, List.length_set]
  · simp only [Option.some.injEq, Prod.mk.injEq] at h
    rw [← h.2]
theorem freezeL_len : ∀ {vs : List VV} {B B' : List Blk} {vs' : List VV}, freezeL B vs = some (vs', B') → B'.length = B.length
  | [], B, B', vs', h => by simp only [freezeL, Option.some.injEq, Prod.mk.injEq] at h; rw [← h.2]
  | v :: vs, B, B', vs', h => by
    unfold freezeL at h
    split at h <;> first | (cases h; done) | skip
    rename_i v1 B1 h1
    split at h <;> first | (cases h; done) | skip
    rename_i vs2 B2 h2
    simp only [Option.some.injEq, Prod.mk.injEq] at h
    rw [← h.2, freezeL_len h2, freezeC_len h1]
theorem freeze_len {B B' : List Blk} {v v' : VV} (h : freeze B v = some (v', B')) : B'.length = B.length := by
  unfold freeze at h
  split at h
  · split at h <;> first | (cases h; done) | skip
    rename_i h1
    simp only [Option.some.injEq, Prod.mk.injEq] at h
    rw [← h.2, freezeL_len h1]
  · cases h
  · exact freezeC_len h
theorem freezeR_len {own : Bool} : ∀ {vs : List VV} {B B' : List Blk} {vs' : List VV}, freezeR own B vs = some (vs', B') → B'.length = B.length
  | [], B, B', vs', h => by simp only [freezeR, Option.some.injEq, Prod.mk.injEq] at h; rw [← h.2]
  | v :: vs, B, B', vs', h => by
    unfold freezeR at h
    split at h <;> first | (cases h; done) | skip
    rename_i v1 B1 h1
    split at h <;> first | (cases h; done) | skip
    rename_i vs2 B2 h2
    simp only [Option.some.injEq, Prod.mk.injEq] at h
    rw [← h.2, freezeR_len h2]
    split at h1
    · simp only [Option.some.injEq, Prod.mk.injEq] at h1; rw [← h1.2]
    · exact freeze_len h1
theorem vargs_len {gg : FuncId} : ∀ {xs : List Operand} {i : Nat} {sl sl' : List VV} {B B' : List Blk} {vs : List VV}, vargs C gg sl B i xs = some (vs, sl', B') → B'.length = B.length
  | [], i, sl, sl', B, B', vs, h => by simp only [vargs, Option.some.injEq, Prod.mk.injEq] at h; rw [← h.2.2]
  | x :: xs, i, sl, sl', B, B', vs, h => by
    unfold vargs at h
    split at h
    · split at h <;> first | (cases h; done) | skip
      rename_i h1
      split at h <;> first | (cases h; done) | skip
      rename_i h2
      simp only [Option.some.injEq, Prod.mk.injEq] at h
      rw [← h.2.2, vargs_len h2, freeze_len h1]
    · simp only at h
      split at h <;> first | (cases h; done) | skip
      rename_i h2
      simp only [Option.some.injEq, Prod.mk.injEq] at h
      rw [← h.2.2, vargs_len h2]
    · split at h <;> first | (cases h; done) | skip
      rename_i h2
      simp only [Option.some.injEq, Prod.mk.injEq] at h
      rw [← h.2.2, vargs_len h2]

theorem vop_len (h : vop C f o sl B = some (v, sl', B')) : B.length ≤ B'.length := by
  obtain ⟨dst, op, type, pos, after, guard⟩ := o
  cases op <;> simp only [vop, reduceCtorEq] at h <;> (repeat' (split at h)) <;> first
    | (cases h; done)
    | (simp only [Option.some.injEq, Prod.mk.injEq] at h; rw [← h.2.2]; simp; done)

end
end Go.Wv
namespace Go.Wv

section
variable {C : Cfg}

/-- one operation -/
def vstep (C : Cfg) (K : Nat) (f : FuncId) (ops : Array Oper) (o : Oper) (sl : List VV) (B : List Blk) : Option (List VV × List Blk) :=
  match gate ops sl o with
  | none => none
  | some false => some (putS sl o.dst (.tup []), B)
  | some true => match o.op with
    | .call { callee := .value x, args, argTypes } => match callee C sl { callee := .value x, args, argTypes } with
      | none => none
      | some (g, as, caps) => if C.pure g then
          (if okRs 0 (pargs C g sl 0 as).1 && okRs 0 caps then
             match vcall C K g ((pargs C g sl 0 as).1 ++ caps) [] with
             | none => none
             | some (r, _) => some (putS (pargs C g sl 0 as).2 o.dst r, B)
           else none)
        else match vargs C g sl B 0 as with
        | none => none
        | some (vs, sl', B') => match vcall C K g (vs ++ caps) B' with
          | none => none
          | some (r, B'') => some (putS sl' o.dst r, B'')
    | _ => match vop C f o sl B with
      | none => none
      | some (v, sl', B') => some (putS sl' o.dst v, B')

theorem vops_step (k : Nat) (f : FuncId) (ops : Array Oper) (o : Oper) (rest : List Oper) (sl : List VV) (B : List Blk) :
    vops C (k + 1) f ops (o :: rest) sl B = match vstep C k f ops o sl B with
      | none => none
      | some (sl', B') => vops C k f ops rest sl' B' := by
  rw [vops_cons]
  unfold vstep
  cases gate ops sl o with
  | none => rfl
  | some b =>
    cases b with
    | false => rfl
    | true =>
      simp only
      obtain ⟨dst, op, type, pos, after, guard⟩ := o
      cases op
      case call c =>
        obtain ⟨cal, args, argTypes⟩ := c
        cases cal
        case value x =>
          simp only
          cases callee C sl { callee := .value x, args, argTypes } with
          | none => rfl
          | some p =>
            obtain ⟨g, as, caps⟩ := p
            simp only
            by_cases hp : C.pure g = true
            · simp only [hp, if_true]
              by_cases hk : (okRs 0 (pargs C g sl 0 as).1 && okRs 0 caps) = true
              · simp only [hk, if_true]
                cases vcall C k g ((pargs C g sl 0 as).1 ++ caps) [] <;> rfl
              · simp only [hk]; rfl
            · simp only [hp]
              simp only [Bool.false_eq_true, if_false]
              cases vargs C g sl B 0 as with
              | none => rfl
              | some q =>
                obtain ⟨vs, sl', B'⟩ := q
                simp only
                cases vcall C k g (vs ++ caps) B' <;> rfl
        all_goals (simp only; generalize vop C f _ sl B = z; cases z <;> rfl)
      all_goals (simp only; generalize vop C f _ sl B = z; cases z <;> rfl)

/-- a list of operations, all with the same fuel for what they call -/
def vrun (C : Cfg) (K : Nat) (f : FuncId) (ops : Array Oper) : List Oper → List VV → List Blk → Option (List VV × List Blk)
  | [], sl, B => some (sl, B)
  | o :: rest, sl, B => match vstep C K f ops o sl B with
    | none => none
    | some (sl', B') => vrun C K f ops rest sl' B'

theorem vstep_mono {K K' : Nat} (hc : ∀ g vs B r, vcall C K g vs B = some r → vcall C K' g vs B = some r) {f : FuncId} {ops : Array Oper} {o : Oper} {sl : List VV} {B : List Blk} {r : List VV × List Blk}
    (h : vstep C K f ops o sl B = some r) : vstep C K' f ops o sl B = some r := by
  unfold vstep at h ⊢
  cases hg : gate ops sl o with
  | none => rw [hg] at h; cases h
  | some b =>
    rw [hg] at h
    cases b with
    | false => exact h
    | true =>
      simp only at h ⊢
      obtain ⟨dst, op, type, pos, after, guard⟩ := o
      cases op
      case call c =>
        obtain ⟨cal, args, argTypes⟩ := c
        cases cal
        case value x =>
          simp only at h ⊢
          cases hcal : callee C sl { callee := .value x, args, argTypes } with
          | none => rw [hcal] at h; cases h
          | some p =>
            obtain ⟨g, as, caps⟩ := p
            rw [hcal] at h
            simp only at h ⊢
            by_cases hp : C.pure g = true
            · simp only [hp, if_true] at h ⊢
              by_cases hk : (okRs 0 (pargs C g sl 0 as).1 && okRs 0 caps) = true
              · simp only [hk, if_true] at h ⊢
                cases hv : vcall C K g ((pargs C g sl 0 as).1 ++ caps) [] with
                | none => rw [hv] at h; cases h
                | some p => rw [hv] at h; rw [hc _ _ _ _ hv]; exact h
              · simp only [hk] at h; cases h
            · simp only [hp] at h ⊢
              simp only [Bool.false_eq_true, if_false] at h ⊢
              cases hv : vargs C g sl B 0 as with
              | none => rw [hv] at h; cases h
              | some q =>
                obtain ⟨vs, sl', B'⟩ := q
                rw [hv] at h
                simp only at h ⊢
                cases hw : vcall C K g (vs ++ caps) B' with
                | none => rw [hw] at h; cases h
                | some p => rw [hw] at h; rw [hc _ _ _ _ hw]; exact h
        all_goals exact h
      all_goals exact h

theorem mono_all (k : Nat) : (∀ f c sl B r, vcode C k f c sl B = some r → vcode C (k + 1) f c sl B = some r) ∧
    (∀ f b ks n sl B r, vloop C k f b ks n sl B = some r → vloop C (k + 1) f b ks n sl B = some r) ∧
    (∀ f ops l sl B r, vops C k f ops l sl B = some r → vops C (k + 1) f ops l sl B = some r) ∧
    (∀ g vs B r, vcall C k g vs B = some r → vcall C (k + 1) g vs B = some r) := by
  induction k with
  | zero => refine ⟨?_, ?_, ?_, ?_⟩ <;> (intros; rename_i h; first | (rw [vcode] at h; cases h; done) | (rw [vloop] at h; cases h; done) | (rw [vops] at h; cases h; done) | (rw [vcall] at h; cases h; done))
  | succ k ih =>
    obtain ⟨ihc, ihl, iho, ihk⟩ := ih
    refine ⟨?_, ?_, ?_, ?_⟩
    · intro f c sl B r h
      cases c <;> simp only [vcode] at h ⊢ <;> try exact h
      case seq a b =>
        cases ha : vcode C k f a sl B with
        | none => rw [ha] at h; cases h
        | some p =>
          obtain ⟨e, sl', B'⟩ := p
          rw [ha] at h; rw [ihc _ _ _ _ _ ha]
          cases e with
          | normal =>
            simp only at h ⊢
            split at h
            · rename_i sl1 B1 hj; exact ihc _ _ _ _ _ h
            · cases h
          | exit i => exact h
          | ret => exact h
      case cond x a b =>
        split at h
        · rename_i t ht
          split at h
          · rename_i htt; simp only [htt, if_true]; exact ihc _ _ _ _ _ h
          · rename_i htt; simp only [htt]; exact ihc _ _ _ _ _ h
        · cases h
      case block i b =>
        cases ha : vcode C k f b sl B with
        | none => rw [ha] at h; cases h
        | some p => rw [ha] at h; rw [ihc _ _ _ _ _ ha]; exact h
      case region i ops dr =>
        split at h
        · cases h
        · rename_i hd
          simp only [hd]
          split at h
          · rename_i e sl' B' hv
            rw [iho _ _ _ _ _ _ hv]; exact h
          · cases h
      case loop b =>
        split at h
        · cases h
        · rename_i ks hks
          split at h
          · rename_i sl1 B1 hn; exact ihl _ _ _ _ _ _ _ h
          · cases h
    · intro f b ks n sl B r h
      simp only [vloop] at h
      rw [vloop]
      cases ha : vcode C k f b sl B with
      | none => rw [ha] at h; cases h
      | some p =>
        obtain ⟨e, sl', B'⟩ := p
        rw [ha] at h; rw [ihc _ _ _ _ _ ha]
        cases e with
        | normal =>
          simp only at h ⊢
          split at h
          · rename_i sl1 B1 hn; exact ihl _ _ _ _ _ _ _ h
          · cases h
        | exit i => exact h
        | ret => exact h
    · intro f ops l sl B r h
      cases l with
      | nil => rw [vops] at h ⊢; exact h
      | cons o rest =>
        rw [vops_step] at h ⊢
        cases hs : vstep C k f ops o sl B with
        | none => rw [hs] at h; cases h
        | some p =>
          rw [hs] at h; rw [vstep_mono ihk hs]
          exact iho _ _ _ _ _ _ h
    · intro g vs B r h
      simp only [vcall] at h
      rw [vcall]
      split at h
      · exact h
      · split at h
        · cases h
        · rename_i fn hfn
          split at h
          · cases h
          · rename_i c hc
            cases ha : vcode C k g c (vs ++ List.replicate (fn.ntmps - vs.length) (.tup [])) B with
            | none => rw [ha] at h; cases h
            | some p => rw [ha] at h; rw [ihc _ _ _ _ _ ha]; exact h

theorem vcall_mono {k k' : Nat} (hk : k ≤ k') {g : FuncId} {vs : List VV} {B : List Blk} {r : VV × List Blk} (h : vcall C k g vs B = some r) : vcall C k' g vs B = some r := by
  induction hk with
  | refl => exact h
  | step _ ih => exact (mono_all _).2.2.2 _ _ _ _ ih

theorem vops_run {K : Nat} {f : FuncId} {ops : Array Oper} : ∀ {k : Nat} (_ : k ≤ K) {l : List Oper} {sl : List VV} {B : List Blk} {e : Ex} {sl' : List VV} {B' : List Blk},
    vops C k f ops l sl B = some (e, sl', B') → e = .normal ∧ vrun C K f ops l sl B = some (sl', B')
  | 0, _, l, sl, B, e, sl', B', h => by rw [vops] at h; cases h
  | k + 1, hk, [], sl, B, e, sl', B', h => by
    rw [vops] at h
    simp only [Option.some.injEq, Prod.mk.injEq] at h
    obtain ⟨rfl, rfl, rfl⟩ := h
    exact ⟨rfl, rfl⟩
  | k + 1, hk, o :: rest, sl, B, e, sl', B', h => by
    rw [vops_step] at h
    cases hs : vstep C k f ops o sl B with
    | none => rw [hs] at h; cases h
    | some p =>
      obtain ⟨sl1, B1⟩ := p
      rw [hs] at h
      have := vops_run (k := k) (K := K) (by omega) h
      refine ⟨this.1, ?_⟩
      rw [vrun, vstep_mono (K := k) (K' := K) (fun _ _ _ _ h => vcall_mono (by omega) h) hs]
      exact this.2

/-! No step loses a block. -/
theorem norm_len {ks : List (Nat × Bool)} {n : Nat} {sl sl1 : List VV} {B B1 : List Blk} (h : norm ks n sl B = some (sl1, B1)) : B1 = B.take n := by
  unfold norm at h
  split at h
  · simp only [Option.some.injEq, Prod.mk.injEq] at h; exact h.2.symm
  · cases h

theorem joinS_len {f : FuncId} {b : Code} {sl sl1 : List VV} {B B1 : List Blk} (h : joinS C f b sl B = some (sl1, B1)) : B1 = B := by
  unfold joinS at h
  split at h
  · simp only [Option.some.injEq, Prod.mk.injEq] at h; exact h.2.symm
  · rw [norm_len h, List.take_length]

theorem vstep_len {K : Nat} (hc : ∀ g vs B r B', vcall C K g vs B = some (r, B') → B.length ≤ B'.length) {f : FuncId} {ops : Array Oper} {o : Oper} {sl sl' : List VV} {B B' : List Blk}
    (h : vstep C K f ops o sl B = some (sl', B')) : B.length ≤ B'.length := by
  unfold vstep at h
  split at h
  · cases h
  · simp only [Option.some.injEq, Prod.mk.injEq] at h; rw [← h.2]; exact Nat.le_refl _
  · split at h
    · split at h
      · cases h
      · split at h
        · split at h
          · split at h
            · cases h
            · simp only [Option.some.injEq, Prod.mk.injEq] at h; rw [← h.2]; exact Nat.le_refl _
          · cases h
        · split at h
          · cases h
          · rename_i hv
            split at h
            · cases h
            · rename_i hw
              simp only [Option.some.injEq, Prod.mk.injEq] at h
              rw [← h.2, ← vargs_len hv]
              exact hc _ _ _ _ _ hw
    · split at h
      · cases h
      · rename_i hv
        simp only [Option.some.injEq, Prod.mk.injEq] at h
        rw [← h.2]
        exact vop_len hv

theorem len_all (k : Nat) : (∀ f c sl B e sl' B', vcode C k f c sl B = some (e, sl', B') → B.length ≤ B'.length) ∧
    (∀ f b ks n sl B e sl' B', n ≤ B.length → vloop C k f b ks n sl B = some (e, sl', B') → n ≤ B'.length) ∧
    (∀ f ops l sl B e sl' B', vops C k f ops l sl B = some (e, sl', B') → B.length ≤ B'.length) ∧
    (∀ g vs B r B', vcall C k g vs B = some (r, B') → B.length ≤ B'.length) := by
  induction k with
  | zero => refine ⟨?_, ?_, ?_, ?_⟩ <;> (intros; rename_i h; first | (rw [vcode] at h; cases h; done) | (rw [vloop] at h; cases h; done) | (rw [vops] at h; cases h; done) | (rw [vcall] at h; cases h; done))
  | succ k ih =>
    obtain ⟨ihc, ihl, iho, ihk⟩ := ih
    refine ⟨?_, ?_, ?_, ?_⟩
    · intro f c sl B e sl' B' h
      cases c <;> simp only [vcode, reduceCtorEq] at h
      case seq a b =>
        cases ha : vcode C k f a sl B with
        | none => rw [ha] at h; cases h
        | some p =>
          obtain ⟨e1, sl1, B1⟩ := p
          rw [ha] at h
          have h1 := ihc _ _ _ _ _ _ _ ha
          cases e1 with
          | normal =>
            simp only at h
            split at h
            · rename_i sl2 B2 hj
              have hb := joinS_len hj
              subst hb
              exact Nat.le_trans h1 (ihc _ _ _ _ _ _ _ h)
            · cases h
          | exit i => simp only [Option.some.injEq, Prod.mk.injEq] at h; rw [← h.2.2]; exact h1
          | ret => simp only [Option.some.injEq, Prod.mk.injEq] at h; rw [← h.2.2]; exact h1
      case cond x a b =>
        split at h
        · split at h <;> exact ihc _ _ _ _ _ _ _ h
        · cases h
      case block i b =>
        cases ha : vcode C k f b sl B with
        | none => rw [ha] at h; cases h
        | some p =>
          obtain ⟨e1, sl1, B1⟩ := p
          rw [ha] at h
          have h1 := ihc _ _ _ _ _ _ _ ha
          cases e1 with
          | exit j => simp only at h; split at h <;> (simp only [Option.some.injEq, Prod.mk.injEq] at h; rw [← h.2.2]; exact h1)
          | normal => simp only [Option.some.injEq, Prod.mk.injEq] at h; rw [← h.2.2]; exact h1
          | ret => simp only [Option.some.injEq, Prod.mk.injEq] at h; rw [← h.2.2]; exact h1
      case region i ops dr =>
        split at h
        · cases h
        · split at h
          · rename_i e1 sl1 B1 hv
            split at h
            · simp only [Option.some.injEq, Prod.mk.injEq] at h
              obtain ⟨rfl, rfl, rfl⟩ := h
              exact iho _ _ _ _ _ _ _ _ hv
            · cases h
          · cases h
      case loop b =>
        split at h
        · cases h
        · split at h
          · rename_i hn
            have := norm_len hn
            exact ihl _ _ _ _ _ _ _ _ _ (by rw [this, List.length_take]; omega) h
          · cases h
      all_goals (simp only [Option.some.injEq, Prod.mk.injEq] at h; rw [← h.2.2]; exact Nat.le_refl _)
    · intro f b ks n sl B e sl' B' hle h
      simp only [vloop] at h
      cases ha : vcode C k f b sl B with
      | none => rw [ha] at h; cases h
      | some p =>
        obtain ⟨e1, sl1, B1⟩ := p
        rw [ha] at h
        have h1 := ihc _ _ _ _ _ _ _ ha
        cases e1 with
        | normal =>
          simp only at h
          split at h
          · rename_i hn
            have := norm_len hn
            exact ihl _ _ _ _ _ _ _ _ _ (by rw [this, List.length_take]; omega) h
          · cases h
        | exit i => simp only [Option.some.injEq, Prod.mk.injEq] at h; rw [← h.2.2]; omega
        | ret => simp only [Option.some.injEq, Prod.mk.injEq] at h; rw [← h.2.2]; omega
    · intro f ops l sl B e sl' B' h
      cases l with
      | nil => rw [vops] at h; simp only [Option.some.injEq, Prod.mk.injEq] at h; rw [← h.2.2]; exact Nat.le_refl _
      | cons o rest =>
        rw [vops_step] at h
        cases hs : vstep C k f ops o sl B with
        | none => rw [hs] at h; cases h
        | some p =>
          obtain ⟨sl1, B1⟩ := p
          rw [hs] at h
          exact Nat.le_trans (vstep_len ihk hs) (iho _ _ _ _ _ _ _ _ h)
    · intro g vs B r B' h
      simp only [vcall] at h
      split at h
      · split at h
        · simp only [Option.some.injEq, Prod.mk.injEq] at h; rw [← h.2]; exact Nat.le_refl _
        · cases h
      · split at h
        · cases h
        · split at h
          · cases h
          · split at h
            · cases h
            · cases h
            · rename_i hc
              have h1 := ihc _ _ _ _ _ _ _ hc
              split at h
              · cases h
              · split at h
                · simp only [Option.some.injEq, Prod.mk.injEq] at h; rw [← h.2]; exact h1
                · split at h
                  · cases h
                  · rename_i hf
                    split at h
                    · simp only [Option.some.injEq, Prod.mk.injEq] at h
                      rw [← h.2, List.length_take, freezeR_len hf]
                      omega
                    · cases h

theorem vcode_len {k : Nat} {f : FuncId} {c : Code} {sl sl' : List VV} {B B' : List Blk} {e : Ex} (h : vcode C k f c sl B = some (e, sl', B')) : B.length ≤ B'.length := (len_all k).1 _ _ _ _ _ _ _ h
theorem vcall_len {k : Nat} {g : FuncId} {vs : List VV} {B B' : List Blk} {r : VV} (h : vcall C k g vs B = some (r, B')) : B.length ≤ B'.length := (len_all k).2.2.2 _ _ _ _ _ h

/-! guards -/
theorem gate_wanted {ops : Array Oper} {o : Oper} {g : G} {sl : List VV} {a : Act} {b : Bool} (hr : All2 (Rep g) sl a.tmps.toList) (h : gate ops sl o = some b) :
    Region.wanted o (yielded ops a.tmps) = b := by
  unfold gate at h
  unfold Region.wanted
  cases hg : o.guard with
  | none => rw [hg] at h; simpa using h
  | some jw =>
    obtain ⟨j, want⟩ := jw
    rw [hg] at h
    simp only at h ⊢
    unfold yielded
    cases hd : (ops[j]?).bind (·.dst) with
    | none => rw [hd] at h; cases h
    | some d =>
      rw [hd] at h
      simp only at h
      have hlt : ∀ v, getS sl d = v → v ≠ .gone → ∃ u, a.tmps[d]? = some u ∧ Rep g v u := by
        intro v hv hne
        unfold getS at hv
        rw [List.getD_eq_getElem?_getD] at hv
        cases hs : sl[d]? with
        | none => rw [hs] at hv; exact absurd hv.symm hne
        | some v' =>
          rw [hs] at hv
          obtain ⟨u, hu, hru⟩ := hr.get hs
          refine ⟨u, by simpa using hu, ?_⟩
          rw [← show v' = v from hv]; exact hru
      cases hv : getS sl d <;> rw [hv] at h <;> try (cases h; done)
      case lit v =>
        obtain ⟨u, hu, hru⟩ := hlt _ hv (by simp)
        cases v <;> simp only [reduceCtorEq] at h
        rename_i b0
        simp only [Option.some.injEq] at h
        obtain ⟨rfl, _⟩ := Rep_lit hru
        simp only [Option.bind_some, hu]
        subst h
        simp
      case tup vs =>
        obtain ⟨u, hu, hru⟩ := hlt _ hv (by simp)
        cases vs with
        | cons => simp at h
        | nil =>
          simp only [Option.some.injEq] at h
          subst h
          obtain ⟨arr, rfl, _⟩ := hru
          simp only [Option.bind_some, hu]
          rfl
end
end Go.Wv
namespace Go.Wv

/-! Blocks that are not written any more. -/
structure Grow (Pr : Nat → Prop) (g g' : G) : Prop where
  phi : ∀ i, g'.phi i = g.phi i
  comm : ∀ b com, g.comm b = some com → g'.comm b = some com
  prot : ∀ b, Pr b → g'.comm b = g.comm b

theorem Grow.refl {Pr : Nat → Prop} (g : G) : Grow Pr g g := ⟨fun _ => rfl, fun _ _ h => h, fun _ _ => rfl⟩
theorem Grow.trans {Pr : Nat → Prop} {g g1 g2 : G} (h : Grow Pr g g1) (h' : Grow Pr g1 g2) : Grow Pr g g2 :=
  ⟨fun i => (h'.phi i).trans (h.phi i), fun b com hc => h'.comm b com (h.comm b com hc), fun b hb => (h'.prot b hb).trans (h.prot b hb)⟩

section
variable {C : Cfg} {Pr : Nat → Prop} {g g' : G} {sl sl' : List VV} {B B' : List Blk} {tm : List Value} {w : World} {v : VV}

theorem Grow.pre (h : Grow Pr g g') : ∀ b com, g.comm b = some com → ∃ com', g'.comm b = some com' ∧ com.cs <+: com'.cs :=
  fun b com hc => ⟨com, h.comm b com hc, List.prefix_refl _⟩
theorem Grow.same (h : Grow Pr g g') {b : Nat} (hb : ∃ com, g.comm b = some com) : g'.comm b = g.comm b := by
  obtain ⟨com, hc⟩ := hb
  rw [hc, h.comm b com hc]
theorem Grow.repC (h : Grow Pr g g') {n : Nat} {v : VV} {u : Value} (ho : okC n v = true) (hr : RepC g v u) : RepC g' v u :=
  RepC_ext (n := n) h.pre (fun i _ => h.phi i) (fun _ hb => h.same (cntC_known hr hb)) ho hr
theorem Grow.rep (h : Grow Pr g g') {n : Nat} {v : VV} {u : Value} (ho : okR n v = true) (hr : Rep g v u) : Rep g' v u :=
  Rep_ext (n := n) h.pre (fun i _ => h.phi i) (fun _ hb => h.same (cnt_known hr hb)) ho hr
theorem Grow.reps (h : Grow Pr g g') {n : Nat} {vs : List VV} {us : List Value} (ho : okRs n vs = true) (hr : All2 (Rep g) vs us) : All2 (Rep g') vs us :=
  All2_Rep_ext (n := n) h.pre (fun i _ => h.phi i) (fun _ hb => h.same (cntS_known hr hb)) ho hr
theorem Grow.repCs (h : Grow Pr g g') {n : Nat} {vs : List VV} {us : List Value} (ho : vs.all (okC n) = true) (hr : All2 (RepC g) vs us) : All2 (RepC g') vs us :=
  All2_RepC_ext (n := n) h.pre (fun i _ => h.phi i) (fun _ hb => h.same (cntL_known hr hb)) ho hr
theorem Grow.glob (h : Grow Pr g g') (hg : GlobOk C g) : GlobOk C g' := fun i cs hc => let ⟨com, h1, h2, h3⟩ := hg i cs hc; ⟨com, h.comm i com h1, h2, h3⟩
theorem Ext.glob {n : Nat} {w' : World} (h : Ext Pr n g w g' w') (hg : GlobOk C g) : GlobOk C g' := fun i cs hc =>
  let ⟨com, h1, h2, hn⟩ := hg i cs hc; let ⟨com', h3, h4⟩ := h.comm i com h1; ⟨com', h3, h2.trans h4, hn⟩
theorem Grow.ext (h : Grow Pr g g') (n : Nat) (w : World) : Ext Pr n g w g' w := ⟨h.pre, fun b hb => ⟨h.prot b hb, rfl⟩, Nat.le_refl _, fun i _ => h.phi i, rfl, rfl⟩

theorem cntB_ro {b : Nat} {id : Nat} {cs : List VV} (hb : B[id]? = some (.var cs)) (hall : cs.any ownC = false) : cntB b g w 0 (B.set id (.ro cs)) = cntB b g w 0 B := by
  have := cntB_set (b := b) (g := g) (w := w) B 0 id (.ro cs) _ hb
  simp only [cntBlk, cntL_zero hall] at this
  omega

theorem Inv.freeze (hi : Inv Pr g sl B tm w) {id : Nat} {cs : List VV} (hb : B[id]? = some (.var cs)) (hall : cs.all (fun c => okC 0 c && !ownC c) = true) :
    Grow Pr g (g.told (g.phi id) ⟨cs, none⟩) ∧ Inv Pr (g.told (g.phi id) ⟨cs, none⟩) sl (B.set id (.ro cs)) tm w := by
  obtain ⟨⟨arr, T, hh, hcs⟩, hcn, hok⟩ := hi.sto.var id cs hb
  have hidl : id < B.length := (List.getElem?_eq_some_iff.1 hb).1
  have hall' : ∀ c ∈ cs, ownC c = false ∧ okC 0 c = true := fun c hc => by
    have := List.all_eq_true.1 hall c hc
    simp only [Bool.and_eq_true, Bool.not_eq_true'] at this
    exact ⟨this.2, this.1⟩
  have hany : cs.any ownC = false := List.any_eq_false.2 fun c hc => by simp [(hall' c hc).1]
  have hgr : Grow Pr g (g.told (g.phi id) ⟨cs, none⟩) := by
    refine ⟨fun _ => rfl, fun b com hc => ?_, fun b hp => ?_⟩
    · have : b ≠ g.phi id := by rintro rfl; rw [hcn] at hc; cases hc
      rw [G.told_other this]; exact hc
    · exact G.told_other (fun e => (hi.prot b hp).2.2 id cs hb e.symm)
  have hget : ∀ (i : Nat) cs', (B.set id (.ro cs))[i]? = some (.var cs') → i ≠ id ∧ B[i]? = some (.var cs') := by
    intro i cs' h
    rcases set_get hidl h with ⟨_, e⟩ | h
    · cases e
    · exact h
  have hcntB : ∀ b, cntB b (g.told (g.phi id) ⟨cs, none⟩) w 0 (B.set id (.ro cs)) = cntB b g w 0 B := fun b => by
    rw [cntB_congr (g := g) (g' := g.told (g.phi id) ⟨cs, none⟩) (w := w) (w' := w) (B.set id (.ro cs)) 0 fun _ _ _ => rfl]
    exact cntB_ro hb hany
  refine ⟨hgr, ⟨hgr.reps hi.ok hi.rep, by rw [List.length_set]; exact hi.ok, ⟨?_, ?_, ?_, ?_⟩, fun b => by rw [hcntB]; exact hi.uniq b, fun b hp => ⟨(hi.prot b hp).1, by rw [hcntB]; exact (hi.prot b hp).2.1, fun i cs' h => (hi.prot b hp).2.2 i cs' (hget i cs' h).2⟩⟩⟩
  · intro b com hc
    by_cases e : b = g.phi id
    · subst e
      rw [G.told_self] at hc
      obtain rfl := Option.some.inj hc
      have hl := hcs.length
      refine ⟨arr, T, (0, 0), hh, by simpa using Nat.le_of_eq hl, fun j c hj _ => ?_, fun _ _ h => by cases h⟩
      obtain ⟨u, hu, hr⟩ := hcs.get hj
      have hm := hall' c (List.mem_of_getElem? hj)
      exact ⟨u, by simpa using hu, hgr.repC hm.2 hr, hm.1, hm.2⟩
    · rw [G.told_other e] at hc
      obtain ⟨ar, T', fz, h1, h2, h3, h4⟩ := hi.sto.comm b com hc
      exact ⟨ar, T', fz, h1, h2, comm_cells hgr.pre h3, h4⟩
  · intro i cs' h
    obtain ⟨hne, h⟩ := hget i cs' h
    obtain ⟨⟨ar, T', h1, h2⟩, h3, h4⟩ := hi.sto.var i cs' h
    refine ⟨⟨ar, T', h1, hgr.repCs h4 h2⟩, ?_, h4⟩
    show (g.told (g.phi id) ⟨cs, none⟩).comm (g.phi i) = none
    rw [G.told_other fun e => hne (hi.sto.inj i id _ _ h hb e)]
    exact h3
  · intro i cs' h
    rcases set_get hidl h with ⟨rfl, e⟩ | ⟨_, h⟩
    · obtain rfl := Blk.ro.inj e
      exact ⟨_, G.told_self, List.prefix_refl _, All2_ng hcs⟩
    · obtain ⟨com, h1, h2⟩ := hi.sto.ro i cs' h
      exact ⟨com, hgr.comm _ _ h1, h2⟩
  · intro i j ci cj h1 h2 e
    exact hi.sto.inj i j _ _ (hget i ci h1).2 (hget j cj h2).2 e

theorem groupN_length (ag : Bool) (sz : Nat) : ∀ (n : Nat) (cs : List VV), (groupN ag sz n cs).length = n
  | 0, _ => rfl
  | n + 1, cs => by simp only [groupN, List.length_cons, groupN_length ag sz n]
theorem groupN_flat {ag : Bool} {sz : Nat} (hag : ag = true ∨ sz = 1) : ∀ (n : Nat) (cs : List VV), (∀ c ∈ cs, c.cells = [c]) → n * sz ≤ cs.length →
    flatC (groupN ag sz n cs) = cs.take (n * sz) ∧ ∀ x ∈ groupN ag sz n cs, x.cells.length = sz
  | 0, cs, _, _ => by simp [groupN, flatC]
  | n + 1, cs, h1, hl => by
    rw [Nat.succ_mul] at hl
    obtain ⟨e1, e2⟩ := groupN_flat hag n (cs.drop sz) (fun c hc => h1 c (List.mem_of_mem_drop hc)) (by simp; omega)
    have hx : (if ag then VV.agg (cs.take sz) else cs.headD .gone).cells = cs.take sz := by
      cases ag with
      | true => rfl
      | false =>
        have : sz = 1 := hag.resolve_left (by simp)
        subst this
        cases cs with
        | nil => simp at hl
        | cons c cs => simpa using h1 c (by simp)
    refine ⟨?_, ?_⟩
    · simp only [groupN, flatC, List.flatMap_cons, hx]
      rw [show (groupN ag sz n (cs.drop sz)).flatMap VV.cells = flatC (groupN ag sz n (cs.drop sz)) from rfl, e1, Nat.succ_mul, Nat.add_comm, List.take_add]
    · intro x hx'
      simp only [groupN, List.mem_cons] at hx'
      rcases hx' with rfl | hx'
      · rw [hx, List.length_take]; omega
      · exact e2 x hx'

theorem RepC_cells1 {c : VV} {u : Value} (h : RepC g c u) : c.cells = [c] := by cases c <;> first | rfl | exact h.elim

/-- what a told block's window is a slice of -/
theorem groupN_rep {id sz off n : Nat} {ag : Bool} {cs : List VV} {com : Com} {u : Value} (hc : g.comm (g.phi id) = some com) (hp : cs <+: com.cs) (hng : ∀ c ∈ cs, c ≠ .gone) (hcells : ∀ c ∈ cs, c.cells = [c])
    (hu : RepC g (.mref id ag sz off n) u) (hle : (off + n) * sz ≤ cs.length) (hsz : 0 < sz) (hag : ag = true ∨ sz = 1) : RepSl g .view (groupN ag sz n (cs.drop (off * sz))) u := by
  obtain ⟨c, rfl, hnc⟩ := hu
  rw [Nat.add_mul] at hle
  obtain ⟨e1, e2⟩ := groupN_flat hag n (cs.drop (off * sz)) (fun c hc => hcells c (List.mem_of_mem_drop hc)) (by simp; omega)
  have e3 := groupN_length ag sz n (cs.drop (off * sz))
  generalize groupN ag sz n (cs.drop (off * sz)) = xs at e1 e2 e3
  cases xs with
  | nil =>
    simp only [List.length_nil] at e3
    subst e3
    exact ⟨_, c, rfl⟩
  | cons x xs =>
    refine ⟨g.phi id, off * sz, c, com, sz, by rw [e3], by rw [e3]; exact hnc, hc, hsz, e2, ?_, ?_, (fun h => by cases h), fun q hq => ?_⟩
    · rw [e3]; exact Nat.le_trans hle hp.length_le
    · rw [e3, e1]; exact window_prefix hp hle
    · rw [e1] at hq; exact hng q (List.mem_of_mem_drop (List.mem_of_mem_take hq))

/-- a value after freezing: what it stands for, and where -/
structure Frz (Pr : Nat → Prop) (g g' : G) (sl : List VV) (B' : List Blk) (tm : List Value) (w : World) : Prop where
  grow : Grow Pr g g'
  inv : Inv Pr g' sl B' tm w

theorem freezeC_ok (hi : Inv Pr g sl B tm w) {u : Value} (hv : RepC g v u) (hok : okC B.length v = true) {v' : VV} (h : freezeC B v = some (v', B')) :
    ∃ g', Frz Pr g g' sl B' tm w ∧ RepC g' v' u ∧ ownC v' = false ∧ okC B.length v' = true := by
  have plain : v' = viewC v → B' = B → ∃ g', Frz Pr g g' sl B' tm w ∧ RepC g' v' u ∧ ownC v' = false ∧ okC B.length v' = true := by
    rintro rfl rfl
    exact ⟨g, ⟨Grow.refl g, hi⟩, RepC_viewC hv, ownC_viewC v, okC_viewC hok⟩
  cases v <;> simp only [freezeC] at h <;> try (simp only [Option.some.injEq, Prod.mk.injEq] at h; exact plain h.1.symm h.2.symm)
  rename_i id ag sz off n
  split at h <;> first | (cases h; done) | skip
  rename_i b hb
  split at h <;> first | (cases h; done) | skip
  rename_i hc
  obtain ⟨hle, hsz, hag, hall⟩ := hc
  simp only [Option.some.injEq, Prod.mk.injEq] at h
  obtain ⟨rfl, rfl⟩ := h
  cases b with
  | var cs =>
    obtain ⟨hgr, hinv⟩ := hi.freeze hb hall
    obtain ⟨⟨arr, T, hh, hcs⟩, _, _⟩ := hi.sto.var id cs hb
    refine ⟨_, ⟨hgr, hinv⟩, ?_, rfl, rfl⟩
    exact groupN_rep (g := g.told (g.phi id) ⟨cs, none⟩) G.told_self (List.prefix_refl _) (All2_ng hcs) (fun c hc => by
      obtain ⟨j, hj⟩ := List.getElem?_of_mem hc
      obtain ⟨u, _, hr⟩ := hcs.get hj
      exact RepC_cells1 hr) hv hle hsz hag
  | ro cs =>
    have e : B.set id (.ro cs) = B := set_self hb
    rw [show Blk.ro (Blk.ro cs).cells = Blk.ro cs from rfl, e]
    obtain ⟨com, h1, h2, hn⟩ := hi.sto.ro id cs hb
    refine ⟨g, ⟨Grow.refl g, hi⟩, ?_, rfl, rfl⟩
    refine groupN_rep h1 h2 hn (fun c hc => ?_) hv hle hsz hag
    obtain ⟨j, hj⟩ := List.getElem?_of_mem hc
    obtain ⟨arr, T, fz, _, _, h3, _⟩ := hi.sto.comm _ _ h1
    obtain ⟨u, _, hr, _⟩ := h3 j c (prefix_get h2 hj) (hn c hc)
    exact RepC_cells1 hr

theorem freezeL_ok : ∀ {vs vs' : List VV} {us : List Value} {g : G} {B B' : List Blk}, Inv Pr g sl B tm w → All2 (RepC g) vs us → vs.all (okC B.length) = true → freezeL B vs = some (vs', B') →
    ∃ g', Frz Pr g g' sl B' tm w ∧ All2 (RepC g') vs' us ∧ vs'.any ownC = false ∧ vs'.all (okC B.length) = true
  | [], vs', us, g, B, B', hi, hr, hok, h => by
    simp only [freezeL, Option.some.injEq, Prod.mk.injEq] at h
    obtain ⟨rfl, rfl⟩ := h
    exact ⟨g, ⟨Grow.refl g, hi⟩, hr, rfl, rfl⟩
  | v :: vs, vs', us, g, B, B', hi, hr, hok, h => by
    unfold freezeL at h
    split at h <;> first | (cases h; done) | skip
    rename_i v1 B1 h1
    split at h <;> first | (cases h; done) | skip
    rename_i vs2 B2 h2
    simp only [Option.some.injEq, Prod.mk.injEq] at h
    obtain ⟨rfl, rfl⟩ := h
    cases hr with
    | cons hr hrs =>
      simp only [List.all_cons, Bool.and_eq_true] at hok
      obtain ⟨g1, f1, r1, o1, k1⟩ := freezeC_ok hi hr hok.1 h1
      have hl := freezeC_len h1
      obtain ⟨g2, f2, r2, o2, k2⟩ := freezeL_ok f1.inv (f1.grow.repCs hok.2 hrs) (by rw [hl]; exact hok.2) h2
      rw [hl] at k2
      exact ⟨g2, ⟨f1.grow.trans f2.grow, f2.inv⟩, .cons (f2.grow.repC k1 r1) r2, by simp [o1, o2], by simp only [List.all_cons, k1, k2, Bool.and_self]⟩

theorem freeze_ok (hi : Inv Pr g sl B tm w) {u : Value} (hv : Rep g v u) (hok : okR B.length v = true) {v' : VV} (h : freeze B v = some (v', B')) :
    ∃ g', Frz Pr g g' sl B' tm w ∧ Rep g' v' u ∧ isOwn v' = false ∧ okR B.length v' = true := by
  have hnt : ∀ vs, v ≠ .tup vs := by rintro vs rfl; cases h
  by_cases ha : ∃ cs, v = .agg cs
  · obtain ⟨cs, rfl⟩ := ha
    simp only [freeze] at h
    split at h <;> first | (cases h; done) | skip
    rename_i cs1 B1 h1
    simp only [Option.some.injEq, Prod.mk.injEq] at h
    obtain ⟨rfl, rfl⟩ := h
    obtain ⟨arr, rfl, hr⟩ := hv
    obtain ⟨g', f, r, o, k⟩ := freezeL_ok hi hr hok h1
    exact ⟨g', f, ⟨arr, rfl, r⟩, o, k⟩
  · have e : freeze B v = freezeC B v := by cases v <;> first | rfl | exact absurd ⟨_, rfl⟩ ha | exact absurd rfl (hnt _)
    rw [e] at h
    by_cases hgone : v = .gone
    · subst hgone
      simp only [freezeC, Option.some.injEq, Prod.mk.injEq] at h
      obtain ⟨rfl, rfl⟩ := h
      exact ⟨g, ⟨Grow.refl g, hi⟩, trivial, rfl, rfl⟩
    · have hna : ∀ cs, v ≠ .agg cs := fun cs e => ha ⟨cs, e⟩
      have hc := Rep_cell hv hnt hna hgone
      have hokc : okC B.length v = true := by rw [okR_eq (fun ⟨vs, e⟩ => hnt vs e), okV_eq ha] at hok; exact hok
      obtain ⟨g', f, r, o, k⟩ := freezeC_ok hi hc hokc h
      have h1 : ∀ cs, v' ≠ .agg cs := by
        rintro cs rfl
        exact r.elim
      have h2 : ∀ cs, v' ≠ .tup cs := by
        rintro cs rfl
        exact r.elim
      exact ⟨g', f, cell_rep r, cell_own o h1 h2, cell_ok k h1 h2⟩
end
end Go.Wv
namespace Go.Wv

/-! Arguments, kept slots. -/

theorem All2.split {α β : Type} {R : α → β → Prop} : ∀ {as cs : List α} {bs ds : List β}, as.length = bs.length → All2 R (as ++ cs) (bs ++ ds) → All2 R as bs ∧ All2 R cs ds
  | [], _, [], _, _, h => ⟨.nil, h⟩
  | [], _, _ :: _, _, hl, _ => by simp at hl
  | _ :: _, _, [], _, hl, _ => by simp at hl
  | a :: as, cs, b :: bs, ds, hl, h => by
    cases h with
    | cons h h' =>
      obtain ⟨h1, h2⟩ := All2.split (by simpa using hl) h'
      exact ⟨.cons h h1, h2⟩

theorem okRs_append {n : Nat} {a b : List VV} : okRs n (a ++ b) = (okRs n a && okRs n b) := by simp [okRs]

section
variable {C : Cfg} {Pr : Nat → Prop} {g g' : G} {sl sl' acc : List VV} {B B' : List Blk} {tm uacc : List Value} {w : World} {v : VV}

theorem Inv.right (hl : acc.length = uacc.length) (hi : Inv Pr g (acc ++ sl) B (uacc ++ tm) w) : Inv Pr g sl B tm w := by
  obtain ⟨h1, h2⟩ := All2.split hl hi.rep
  have ho := hi.ok
  rw [okRs_append, Bool.and_eq_true] at ho
  exact hi.change h2 ho.2 fun b => by rw [cntS_append hl]; omega
theorem Inv.left (hl : acc.length = uacc.length) (hi : Inv Pr g (acc ++ sl) B (uacc ++ tm) w) : Inv Pr g acc B uacc w := by
  obtain ⟨h1, h2⟩ := All2.split hl hi.rep
  have ho := hi.ok
  rw [okRs_append, Bool.and_eq_true] at ho
  exact hi.change h1 ho.1 fun b => by rw [cntS_append hl]; omega

/-- Something is put between. -/
theorem Inv.insert (hl : acc.length = uacc.length) (hi : Inv Pr g (acc ++ sl) B (uacc ++ tm) w) {vs : List VV} {us : List Value} (hv : All2 (Rep g) vs us) (ho : okRs B.length vs = true)
    (hs : All2 (Rep g) sl' tm) (hso : okRs B.length sl' = true) (hc : ∀ b, cntS b vs us + cntS b sl' tm ≤ cntS b sl tm) : Inv Pr g ((acc ++ vs) ++ sl') B ((uacc ++ us) ++ tm) w := by
  obtain ⟨h1, h2⟩ := All2.split hl hi.rep
  have ho' := hi.ok
  rw [okRs_append, Bool.and_eq_true] at ho'
  refine hi.change ((h1.append hv).append hs) ?_ fun b => ?_
  · rw [okRs_append, okRs_append, ho'.1, ho, hso]; rfl
  · rw [cntS_append (by simp [hl, hv.length]), cntS_append hl, cntS_append hl]
    have := hc b
    omega

theorem cntS_one {b : Nat} {v : VV} {u : Value} : cntS b [v] [u] = cnt b v u := by simp [cntS]

theorem vargs_ok {gg : FuncId} : ∀ {xs : List Operand} {i : Nat} {g : G} {sl sl' : List VV} {B B' : List Blk} {vs acc : List VV} {uacc : List Value}, GlobOk C g → acc.length = uacc.length → Inv Pr g (acc ++ sl) B (uacc ++ tm) w →
    vargs C gg sl B i xs = some (vs, sl', B') → ∃ g', Grow Pr g g' ∧ Inv Pr g' ((acc ++ vs) ++ sl') B' ((uacc ++ xs.map (evR tm)) ++ tm) w ∧ vs.length = xs.length
  | [], i, g, sl, sl', B, B', vs, acc, uacc, hg, hl, hi, h => by
    simp only [vargs, Option.some.injEq, Prod.mk.injEq] at h
    obtain ⟨rfl, rfl, rfl⟩ := h
    exact ⟨g, Grow.refl g, by simpa using hi, rfl⟩
  | x :: xs, i, g, sl, sl', B, B', vs, acc, uacc, hg, hl, hi, h => by
    have hr := hi.right hl
    unfold vargs at h
    split at h
    · split at h <;> first | (cases h; done) | skip
      rename_i v1 B1 h1
      split at h <;> first | (cases h; done) | skip
      rename_i vs2 sl2 B2 h2
      simp only [Option.some.injEq, Prod.mk.injEq] at h
      obtain ⟨rfl, rfl, rfl⟩ := h
      obtain ⟨g1, f1, r1, o1, k1⟩ := freeze_ok hi (ev_rep hg hr.rep x) (ev_ok (C := C) hr.ok x) h1
      have hlb := freeze_len h1
      have hr1 := f1.inv.right hl
      have hi1 := f1.inv.insert hl (vs := [v1]) (us := [evR tm x]) (.cons r1 .nil) (by simp [okRs, hlb, k1]) hr1.rep hr1.ok (fun b => by rw [cntS_one, cnt_zero o1]; omega)
      obtain ⟨g2, f2, hi2, hl2⟩ := vargs_ok (f1.grow.glob hg) (by simp [hl]) hi1 h2
      exact ⟨g2, f1.grow.trans f2, by simpa using hi2, by simp [hl2]⟩
    · simp only at h
      split at h <;> first | (cases h; done) | skip
      rename_i vs2 sl2 B2 h2
      simp only [Option.some.injEq, Prod.mk.injEq] at h
      obtain ⟨rfl, rfl, rfl⟩ := h
      obtain ⟨t1, t2, t3, t4, t5⟩ := tr_ok hg hr (x := x) (v := (tr C sl x).1) (sl' := (tr C sl x).2) rfl
      have hi1 := hi.insert hl (vs := [(tr C sl x).1]) (us := [evR tm x]) (.cons t1 .nil) (by simp [okRs, t2]) t3 t4 (fun b => by have := t5 b; rw [cntS_one]; omega)
      obtain ⟨g2, f2, hi2, hl2⟩ := vargs_ok hg (by simp [hl]) hi1 h2
      exact ⟨g2, f2, by simpa using hi2, by simp [hl2]⟩
    · split at h <;> first | (cases h; done) | skip
      rename_i vs2 sl2 B2 h2
      simp only [Option.some.injEq, Prod.mk.injEq] at h
      obtain ⟨rfl, rfl, rfl⟩ := h
      have hi1 := hi.insert hl (vs := [toView (ev C sl x)]) (us := [evR tm x]) (.cons (Rep_toView (ev_rep hg hr.rep x)) .nil) (by simp [okRs, okR_toView (ev_ok (C := C) hr.ok x)]) hr.rep hr.ok
        (fun b => by rw [cntS_one, toView_cnt]; omega)
      obtain ⟨g2, f2, hi2, hl2⟩ := vargs_ok hg (by simp [hl]) hi1 h2
      exact ⟨g2, f2, by simpa using hi2, by simp [hl2]⟩

theorem pargs_ok {gg : FuncId} (hg : GlobOk C g) : ∀ {xs : List Operand} {i : Nat} {sl acc : List VV} {uacc : List Value}, acc.length = uacc.length → Inv Pr g (acc ++ sl) B (uacc ++ tm) w →
    Inv Pr g ((acc ++ (pargs C gg sl i xs).1) ++ (pargs C gg sl i xs).2) B ((uacc ++ xs.map (evR tm)) ++ tm) w ∧ (pargs C gg sl i xs).1.length = xs.length
  | [], i, sl, acc, uacc, hl, hi => ⟨by simpa [pargs] using hi, rfl⟩
  | x :: xs, i, sl, acc, uacc, hl, hi => by
    have hr := hi.right hl
    unfold pargs
    split
    · simp only
      obtain ⟨t1, t2, t3, t4, t5⟩ := tr_ok hg hr (x := x) (v := (tr C sl x).1) (sl' := (tr C sl x).2) rfl
      have hi1 := hi.insert hl (vs := [(tr C sl x).1]) (us := [evR tm x]) (.cons t1 .nil) (by simp [okRs, t2]) t3 t4 (fun b => by have := t5 b; rw [cntS_one]; omega)
      obtain ⟨hi2, hl2⟩ := pargs_ok hg (xs := xs) (i := i + 1) (by simp [hl]) hi1
      exact ⟨by simpa using hi2, by simp [hl2]⟩
    · simp only
      have hi1 := hi.insert hl (vs := [toView (ev C sl x)]) (us := [evR tm x]) (.cons (Rep_toView (ev_rep hg hr.rep x)) .nil) (by simp [okRs, okR_toView (ev_ok (C := C) hr.ok x)]) hr.rep hr.ok
        (fun b => by rw [cntS_one, toView_cnt]; omega)
      obtain ⟨hi2, hl2⟩ := pargs_ok hg (xs := xs) (i := i + 1) (by simp [hl]) hi1
      exact ⟨by simpa using hi2, by simp [hl2]⟩

/-! masked slots -/
theorem getS_set_eq {sl : List VV} {i : Nat} {v : VV} (j : Nat) : getS (sl.set i v) j = if i = j ∧ i < sl.length then v else getS sl j := by
  unfold getS
  rw [List.getD_eq_getElem?_getD, List.getD_eq_getElem?_getD, List.getElem?_set]
  by_cases e : i = j
  · subst e
    by_cases hl : i < sl.length
    · simp [hl]
    · simp [hl, List.getElem?_eq_none (Nat.le_of_not_lt hl)]
  · simp [e]

/-- v holds as much as x, or less -/
def Less (v x : VV) : Prop := v = .gone ∨ v = x ∨ v = toView x
theorem mask_spec (sl : List VV) : ∀ (ks : List (Nat × Bool)) (acc : List VV), acc.length = sl.length → (∀ j, Less (getS acc j) (getS sl j)) →
    (ks.foldl (fun acc k => acc.set k.1 (keepS sl k)) acc).length = sl.length ∧ ∀ j, Less (getS (ks.foldl (fun acc k => acc.set k.1 (keepS sl k)) acc) j) (getS sl j)
  | [], acc, hl, h => ⟨hl, h⟩
  | k :: ks, acc, hl, h => mask_spec sl ks (acc.set k.1 (keepS sl k)) (by simpa using hl) fun j => by
    rw [getS_set_eq]
    split
    · rename_i e; unfold keepS; rw [e.1]; split
      · exact .inr (.inr rfl)
      · exact .inr (.inl rfl)
    · exact h j

theorem getS_replicate (n j : Nat) : getS (List.replicate n .gone) j = .gone := by
  unfold getS
  rw [List.getD_eq_getElem?_getD, List.getElem?_replicate]
  split <;> rfl

theorem mask_getS (ks : List (Nat × Bool)) (sl : List VV) : (mask ks sl.length sl).length = sl.length ∧ ∀ j, Less (getS (mask ks sl.length sl) j) (getS sl j) :=
  mask_spec sl ks _ (by simp) fun j => .inl (getS_replicate _ j)

theorem getS_get {sl : List VV} {j : Nat} {v : VV} (h : sl[j]? = some v) : getS sl j = v := by
  unfold getS; rw [List.getD_eq_getElem?_getD, h]; rfl

theorem mask_mem {ks : List (Nat × Bool)} {sl : List VV} : ∀ (acc : List VV), (∀ x ∈ acc, x = .gone ∨ ∃ k ∈ ks, x = keepS sl k) → ∀ (ls : List (Nat × Bool)), (∀ k ∈ ls, k ∈ ks) →
    ∀ x ∈ ls.foldl (fun acc k => acc.set k.1 (keepS sl k)) acc, x = .gone ∨ ∃ k ∈ ks, x = keepS sl k
  | acc, h, [], _, x, hx => h x hx
  | acc, h, k :: ls, hk, x, hx => mask_mem (acc.set k.1 (keepS sl k)) (fun y hy => by
      rcases List.mem_or_eq_of_mem_set hy with h1 | rfl
      · exact h y h1
      · exact .inr ⟨k, hk k (by simp), rfl⟩) ls (fun k' hk' => hk k' (by simp [hk'])) x hx

theorem cnt_gone {b : Nat} {u : Value} : cnt b .gone u = 0 := cnt_zero rfl

/-- slots that hold less -/
theorem cntS_less {b : Nat} : ∀ {sl sl2 : List VV} {tm : List Value}, sl2.length = sl.length → (∀ j, Less (getS sl2 j) (getS sl j)) → cntS b sl2 tm ≤ cntS b sl tm
  | [], [], _, _, _ => Nat.le_refl _
  | [], _ :: _, _, hl, _ => by simp at hl
  | _ :: _, [], _, hl, _ => by simp at hl
  | v :: sl, v2 :: sl2, [], _, _ => Nat.le_refl _
  | v :: sl, v2 :: sl2, u :: tm, hl, h => by
    have h0 := h 0
    have := cntS_less (b := b) (sl := sl) (sl2 := sl2) (tm := tm) (by simpa using hl) fun j => h (j + 1)
    simp only [cntS]
    rcases h0 with e | e | e
    · rw [show v2 = .gone from e, cnt_gone]; omega
    · rw [show v2 = v from e]; omega
    · rw [show v2 = toView v from e, toView_cnt]; omega
theorem All2_less : ∀ {sl sl2 : List VV} {tm : List Value}, All2 (Rep g) sl tm → sl2.length = sl.length → (∀ j, Less (getS sl2 j) (getS sl j)) → All2 (Rep g) sl2 tm
  | [], [], _, h, _, _ => h
  | [], _ :: _, _, _, hl, _ => by simp at hl
  | _ :: _, [], _, _, hl, _ => by simp at hl
  | v :: sl, v2 :: sl2, _, .cons hr hrs, hl, h => by
    refine .cons ?_ (All2_less hrs (by simpa using hl) fun j => h (j + 1))
    rcases h 0 with e | e | e
    · rw [show v2 = .gone from e]; trivial
    · rw [show v2 = v from e]; exact hr
    · rw [show v2 = toView v from e]; exact Rep_toView hr

theorem take_get {B : List Blk} {n i : Nat} {x : Blk} (h : (B.take n)[i]? = some x) : B[i]? = some x := by
  rw [List.getElem?_take] at h
  split at h
  · exact h
  · cases h

theorem Sto.take (h : Sto g B w) (n : Nat) : Sto g (B.take n) w :=
  ⟨h.comm, fun id cs hb => h.var id cs (take_get hb), fun id cs hb => h.ro id cs (take_get hb), fun i j ci cj hi hj => h.inj i j ci cj (take_get hi) (take_get hj)⟩

/-- Blocks that are not reached any more are forgotten. -/
theorem Inv.take (hi : Inv Pr g sl B tm w) (n : Nat) (ho : okRs n sl = true) (hn : n ≤ B.length) : Inv Pr g sl (B.take n) tm w :=
  ⟨hi.rep, by rw [List.length_take, Nat.min_eq_left hn]; exact ho, hi.sto.take n, fun b => by have := hi.uniq b; have := cntB_take (b := b) (g := g) (w := w) B 0 n; omega,
   fun b hp => ⟨(hi.prot b hp).1, by have := (hi.prot b hp).2.1; have := cntB_take (b := b) (g := g) (w := w) B 0 n; omega, fun id cs hb => (hi.prot b hp).2.2 id cs (take_get hb)⟩⟩

theorem norm_ok (hi : Inv Pr g sl B tm w) {ks : List (Nat × Bool)} {n : Nat} (hn : n ≤ B.length) (h : norm ks n sl B = some (sl', B')) : Inv Pr g sl' B' tm w ∧ B'.length = n := by
  unfold norm at h
  split at h <;> first | (cases h; done) | skip
  rename_i hk
  simp only [Option.some.injEq, Prod.mk.injEq] at h
  obtain ⟨rfl, rfl⟩ := h
  obtain ⟨m1, m2⟩ := mask_getS ks sl
  have hok : okRs n (mask ks sl.length sl) = true := by
    refine List.all_eq_true.2 fun x hx => ?_
    rcases mask_mem (ks := ks) (sl := sl) (List.replicate sl.length .gone) (fun x hx => .inl (List.eq_of_mem_replicate hx)) ks (fun _ h => h) x hx with rfl | ⟨k, hk', rfl⟩
    · rfl
    · have h0 := List.all_eq_true.1 hk k hk'
      unfold keepS; split
      · exact okR_toView h0
      · exact h0
  have h1 : Inv Pr g (mask ks sl.length sl) B tm w := hi.change (All2_less hi.rep m1 m2) (okRs_mono hn hok) fun b => cntS_less m1 m2
  exact ⟨h1.take n hok hn, by rw [List.length_take, Nat.min_eq_left hn]⟩
theorem joinS_ok {C : Cfg} {f : FuncId} {b : Code} (hi : Inv Pr g sl B tm w) (h : joinS C f b sl B = some (sl', B')) : Inv Pr g sl' B' tm w ∧ B' = B := by
  unfold joinS at h
  split at h
  · simp only [Option.some.injEq, Prod.mk.injEq] at h
    obtain ⟨rfl, rfl⟩ := h
    exact ⟨hi, rfl⟩
  · obtain ⟨h1, h2⟩ := norm_ok hi (Nat.le_refl _) h
    refine ⟨h1, ?_⟩
    unfold norm at h
    split at h
    · simp only [Option.some.injEq, Prod.mk.injEq] at h; rw [← h.2, List.take_length]
    · cases h
end
end Go.Wv
namespace Go.Wv

/-! What a function returns. -/
section
variable {C : Cfg} {Pr : Nat → Prop} {g g' : G} {sl sl' acc : List VV} {B B' : List Blk} {tm uacc : List Value} {w : World} {v : VV}

theorem RepV_isVal {v : VV} {u : Value} (h : RepV g v u) : isVal v = true := by cases v <;> first | rfl | exact h.elim
theorem Rep_isVal {v : VV} {u : Value} (h : Rep g v u) (hv : isVal v = true) : RepV g v u := by cases v <;> first | exact h | cases hv
theorem isVal_notTup {v : VV} (hv : isVal v = true) : ¬ ∃ vs, v = .tup vs := by rintro ⟨vs, rfl⟩; cases hv
theorem isVal_viewC {v : VV} (hv : isVal v = true) : isVal (viewC v) = true := by
  cases v <;> first | rfl | cases hv | skip
  rename_i f xs
  cases f <;> rfl
theorem isVal_viewV {v : VV} (hv : isVal v = true) : isVal (viewV v) = true := by
  cases v <;> first | rfl | cases hv | skip
  rename_i f xs
  cases f <;> rfl
theorem isVal_toView {v : VV} (hv : isVal v = true) : isVal (toView v) = true := by
  rw [toView_viewV (isVal_notTup hv)]; exact isVal_viewV hv

/-- what is read of a block -/
theorem readB_run (hi : Inv Pr g sl B tm w) {id off : Nat} {b : Blk} {t : TypeId} {v0 : VV} (hb : B[id]? = some b) (h : readAt C.P t b.cells off = some v0) (hid : id < B.length) :
    ∃ z, (loadVar t ⟨g.phi id, off, none⟩).run C.P w = .ok z w ∧ RepV g v0 z ∧ okR B.length v0 = true := by
  have key : ∃ arr T fz, w.heap[g.phi id]? = some (.cells arr T fz) ∧ (∀ (j : Nat) c, b.cells[j]? = some c → ∃ u, arr[j]? = some u ∧ RepC g c u) ∧ b.cells.all (okC B.length) = true := by
    cases b with
    | var cs =>
      obtain ⟨⟨arr, T, hh, hcs⟩, _, hok⟩ := hi.sto.var id cs hb
      exact ⟨arr, T, _, hh, fun j c hc => let ⟨u, hu, hr⟩ := hcs.get hc; ⟨u, by simpa using hu, hr⟩, all_okC_mono (by omega) hok⟩
    | ro cs =>
      obtain ⟨com, h1, h2, hn⟩ := hi.sto.ro id cs hb
      obtain ⟨arr, T, fz, hh, _, hcs, _⟩ := hi.sto.comm _ _ h1
      refine ⟨arr, T, fz, hh, fun j c hc => let ⟨u, hu, hr, _⟩ := hcs j c (prefix_get h2 hc) (hn c (List.mem_of_getElem? hc)); ⟨u, hu, hr⟩, List.all_eq_true.2 fun c hc => ?_⟩
      obtain ⟨j, hj⟩ := List.getElem?_of_mem hc
      obtain ⟨_, _, _, _, hk⟩ := hcs j c (prefix_get h2 hj) (hn c hc)
      exact okC_mono (Nat.zero_le _) hk
  obtain ⟨arr, T, fz, hh, hcs, hok⟩ := key
  obtain ⟨z, hz1, hz2, hz3⟩ := readAt_run (C := C) (base := 0) hh (fun j c hc => by rw [Nat.zero_add]; exact hcs j c hc) h
  rw [Nat.zero_add] at hz1
  refine ⟨z, hz1, hz2, ?_⟩
  rw [okR_eq (isVal_notTup (RepV_isVal hz2))]
  rcases hz3 with ⟨_, rfl, _, _⟩ | ⟨_, e1, e2⟩
  · exact List.all_eq_true.2 fun c hc => List.all_eq_true.1 hok c (List.mem_of_mem_drop (List.mem_of_mem_take hc))
  · obtain ⟨u, _, hr⟩ := hcs _ _ e1
    rw [okV_eq (by rintro ⟨cs, rfl⟩; exact hr.elim)]
    exact List.all_eq_true.1 hok _ (List.mem_of_getElem? e1)

theorem tr_fst (sl : List VV) (t : Nat) : (tr C sl (.tmp t)).1 = getS sl t := by
  simp only [tr]; split <;> rfl

theorem resL_ok (hg : GlobOk C g) {fr : ResultVar → Sem Value} (hf1 : ∀ t, fr (.tmp t) = pure (evR tm (.tmp t))) (hf2 : ∀ a t, fr (.cell a t) = do loadVar t (← asAddr (evR tm (.tmp a)))) :
    ∀ {rs : List ResultVar} {sl vs : List VV}, Inv Pr g sl B tm w → resL C sl B rs = some vs →
    ∃ us, (rs.mapM fr).run C.P w = .ok us w ∧ All2 (Rep g) vs us ∧ okRs B.length vs = true ∧ vs.all isVal = true ∧ ∀ b, cntS b vs us ≤ cntS b sl tm
  | [], sl, vs, hi, h => by
    simp only [resL, Option.some.injEq] at h
    subst h
    exact ⟨[], by simp only [List.mapM_nil, Sem.run_pure], .nil, rfl, rfl, fun b => by simp [cntS]⟩
  | .tmp t :: rs, sl, vs, hi, h => by
    unfold resL at h
    split at h <;> first | (cases h; done) | skip
    rename_i hv
    split at h <;> first | (cases h; done) | skip
    rename_i vs2 h2
    simp only [Option.some.injEq] at h
    subst h
    obtain ⟨t1, t2, t3, t4, t5⟩ := tr_ok hg hi (x := .tmp t) (v := (tr C sl (.tmp t)).1) (sl' := (tr C sl (.tmp t)).2) rfl
    rw [tr_fst] at t1 t2 t5
    obtain ⟨us, r1, r2, r3, r4, r5⟩ := resL_ok hg hf1 hf2 (hi.change t3 t4 fun b => by have := t5 b; omega) h2
    refine ⟨evR tm (.tmp t) :: us, ?_, .cons t1 r2, ?_, ?_, fun b => ?_⟩
    · simp only [List.mapM_cons, Sem.run_bind, hf1, Sem.run_pure, Result.andThen_ok, r1]
    · simp only [okRs, List.all_cons, t2, Bool.true_and]; exact r3
    · simp only [List.all_cons, hv, r4, Bool.and_self]
    · have := t5 b; have := r5 b; simp only [cntS]; omega
  | .cell a t :: rs, sl, vs, hi, h => by
    unfold resL at h
    split at h <;> first | (cases h; done) | skip
    rename_i id off ha
    split at h <;> first | (cases h; done) | skip
    rename_i b hb
    split at h <;> first | (cases h; done) | skip
    rename_i v0 vs2 h1 h2
    simp only [Option.some.injEq] at h
    subst h
    have hrep := getS_rep hi.rep a
    rw [ha] at hrep
    have hid : id < B.length := (List.getElem?_eq_some_iff.1 hb).1
    obtain ⟨z, z1, z2, z3⟩ := readB_run hi hb h1 hid
    obtain ⟨us, r1, r2, r3, r4, r5⟩ := resL_ok hg hf1 hf2 hi h2
    refine ⟨z :: us, ?_, .cons (Rep_toView (Rep_of_RepV z2)) r2, ?_, ?_, fun b => ?_⟩
    · have hp : evR tm (.tmp a) = .pointer (some ⟨g.phi id, off, none⟩) := hrep
      simp only [List.mapM_cons, Sem.run_bind, hf2, hp, asAddr, Sem.run_pure, Result.andThen_ok, z1, r1]
    · simp only [okRs, List.all_cons, okR_toView z3, Bool.true_and]; exact r3
    · simp only [List.all_cons, isVal_toView (RepV_isVal z2), r4, Bool.and_self]
    · have := r5 b; simp only [cntS, toView_cnt]; omega

theorem freeze_isVal {v v' : VV} (hv : isVal v = true) (h : freeze B v = some (v', B')) : isVal v' = true := by
  have hC : ∀ {v : VV}, isVal v = true → (∀ cs, v ≠ .agg cs) → freezeC B v = some (v', B') → isVal v' = true := by
    intro v hv hna h
    have plain : v' = viewC v → isVal v' = true := by
      rintro rfl
      exact isVal_viewC hv
    cases v <;> simp only [freezeC] at h <;> try (simp only [Option.some.injEq, Prod.mk.injEq] at h; exact plain h.1.symm)
    split at h <;> first | (cases h; done) | skip
    split at h <;> first | (cases h; done) | skip
    simp only [Option.some.injEq, Prod.mk.injEq] at h
    rw [← h.1]; rfl
  cases v <;> first | (cases hv; done) | (exact hC hv (by simp) h) | skip
  simp only [freeze] at h
  split at h <;> first | (cases h; done) | skip
  simp only [Option.some.injEq, Prod.mk.injEq] at h
  rw [← h.1]; rfl

theorem freezeR_ok {own : Bool} : ∀ {vs vs' acc : List VV} {us uacc : List Value} {g : G} {B B' : List Blk}, acc.length = uacc.length → Inv Pr g (acc ++ vs) B (uacc ++ us) w → vs.all isVal = true →
    freezeR own B vs = some (vs', B') → ∃ g', Grow Pr g g' ∧ Inv Pr g' (acc ++ vs') B' (uacc ++ us) w ∧ vs'.all isVal = true
  | [], vs', acc, us, uacc, g, B, B', hl, hi, hv, h => by
    simp only [freezeR, Option.some.injEq, Prod.mk.injEq] at h
    obtain ⟨rfl, rfl⟩ := h
    exact ⟨g, Grow.refl g, hi, rfl⟩
  | v :: vs, vs', acc, [], uacc, g, B, B', hl, hi, hv, h => by
    obtain ⟨_, h2⟩ := All2.split hl hi.rep
    cases h2
  | v :: vs, vs', acc, u :: us, uacc, g, B, B', hl, hi, hv, h => by
    unfold freezeR at h
    split at h <;> first | (cases h; done) | skip
    rename_i v1 B1 h1
    split at h <;> first | (cases h; done) | skip
    rename_i vs2 B2 h2
    simp only [Option.some.injEq, Prod.mk.injEq] at h
    obtain ⟨rfl, rfl⟩ := h
    simp only [List.all_cons, Bool.and_eq_true] at hv
    have step : ∃ g1, Grow Pr g g1 ∧ Inv Pr g1 ((acc ++ [v1]) ++ vs) B1 ((uacc ++ [u]) ++ us) w ∧ isVal v1 = true := by
      split at h1
      · simp only [Option.some.injEq, Prod.mk.injEq] at h1
        obtain ⟨rfl, rfl⟩ := h1
        exact ⟨g, Grow.refl g, by simpa using hi, hv.1⟩
      · have hr := hi.right hl
        cases hr.rep with
        | cons hrv hrs =>
          have hok := hr.ok
          simp only [okRs, List.all_cons, Bool.and_eq_true] at hok
          obtain ⟨g1, f1, r1, o1, k1⟩ := freeze_ok hi hrv hok.1 h1
          have hlb := freeze_len h1
          refine ⟨g1, f1.grow, ?_, freeze_isVal hv.1 h1⟩
          obtain ⟨q1, q2⟩ := All2.split hl f1.inv.rep
          have q3 := f1.inv.ok
          rw [okRs_append, Bool.and_eq_true] at q3
          cases q2 with
          | cons q4 q5 =>
            refine f1.inv.change ((q1.append (.cons r1 .nil)).append q5) ?_ fun b => ?_
            · rw [okRs_append, okRs_append, q3.1]
              have := q3.2
              simp only [okRs, List.all_cons, List.all_nil, Bool.and_eq_true, Bool.and_true] at this ⊢
              rw [hlb]
              exact ⟨⟨trivial, k1⟩, by rw [← hlb]; exact this.2⟩
            · rw [cntS_append (by simp [hl]), cntS_append hl, cntS_append hl, cntS_one, cnt_zero o1]
              simp only [cntS]; omega
    obtain ⟨g1, gr1, hi1, hv1⟩ := step
    obtain ⟨g2, gr2, hi2, hv2⟩ := freezeR_ok (by simp [hl]) hi1 hv.2 h2
    exact ⟨g2, gr1.trans gr2, by simpa using hi2, by simp only [List.all_cons, hv1, hv2, Bool.and_self]⟩

/-- the value of several -/
def tupR (us : List Value) : Value := if h : us.toArray.size = 1 then us.toArray[0] else .tuple us.toArray

theorem cntVL_cntS {b : Nat} : ∀ {vs : List VV} {us : List Value}, vs.all isVal = true → cntVL b vs us = cntS b vs us
  | [], us, _ => by cases us <;> rfl
  | v :: vs, [], _ => rfl
  | v :: vs, u :: us, h => by
    simp only [List.all_cons, Bool.and_eq_true] at h
    simp only [cntVL, cntS, cntVL_cntS h.2, cnt_eq (isVal_notTup h.1)]

theorem tuple1_ok {vs : List VV} {us : List Value} (hi : Inv Pr g vs B us w) (hv : vs.all isVal = true) : Inv Pr g [tuple1 vs] B [tupR us] w := by
  have hl := hi.rep.length
  have hr := hi.rep
  have ho := hi.ok
  have multi : vs.length ≠ 1 → Inv Pr g [tuple1 vs] B [tupR us] w := by
    intro hne
    have e1 : tuple1 vs = .tup vs := by
      cases vs with
      | nil => rfl
      | cons v vs => cases vs with
        | nil => exact absurd rfl hne
        | cons => rfl
    have e2 : tupR us = .tuple us.toArray := by
      unfold tupR
      rw [dif_neg (by simpa [← hl] using hne)]
    rw [e1, e2]
    refine hi.change (.cons ⟨us.toArray, rfl, ?_⟩ .nil) ?_ fun b => ?_
    · exact hr.mono fun v u hm h => Rep_isVal h (List.all_eq_true.1 hv v hm)
    · simp only [okRs, List.all_cons, List.all_nil, Bool.and_true, okR]
      refine List.all_eq_true.2 fun v hm => ?_
      have := List.all_eq_true.1 ho v hm
      rwa [okR_eq (isVal_notTup (List.all_eq_true.1 hv v hm))] at this
    · rw [cntS_one]
      show cntVL b vs us ≤ _
      rw [cntVL_cntS hv]
      exact Nat.le_refl _
  by_cases h1 : vs.length = 1
  · cases vs with
    | nil => simp at h1
    | cons v vs => cases vs with
      | cons => simp at h1
      | nil => cases us with
        | nil => simp at hl
        | cons u us => cases us with
          | cons => simp at hl
          | nil => exact hi
  · exact multi h1

def resF (tmps : Array Value) : ResultVar → Sem Value
  | .tmp t => pure (tmps.getD t undef)
  | .cell a t => do loadVar t (← asAddr (tmps.getD a undef))

theorem results_run (hg : GlobOk C g) {fn : Func} {tmps : Array Value} (hi : Inv Pr g sl B tmps.toList w) {vs : List VV} (h : resL C sl B fn.results.toList = some vs) :
    ∃ us, (results fn tmps).run C.P w = .ok (tupR us) w ∧ vs.all isVal = true ∧ Inv Pr g vs B us w := by
  obtain ⟨us, r1, r2, r3, r4, r5⟩ := resL_ok hg (fr := resF tmps) (tm := tmps.toList) (fun t => by
      simp only [resF, evR, Array.getD_eq_getD_getElem?, List.getD_eq_getElem?_getD, Array.getElem?_toList]) (fun a t => by
      simp only [resF, evR, Array.getD_eq_getD_getElem?, List.getD_eq_getElem?_getD, Array.getElem?_toList]) hi h
  refine ⟨us, ?_, r4, hi.change r2 r3 r5⟩
  unfold results
  rw [Array.mapM_eq_mapM_toList]
  simp only [Sem.run_bind, Sem.run_map]
  show (((Sem.run C.P (List.mapM (resF tmps) fn.results.toList) w).andThen (fun a w' => .ok a.toArray w')).andThen (fun a w' => Sem.run C.P (pure (if h : a.size = 1 then a[0] else Value.tuple a)) w')) = _
  rw [r1]
  simp only [Result.andThen_ok, Sem.run_pure]
  rfl
end
end Go.Wv
