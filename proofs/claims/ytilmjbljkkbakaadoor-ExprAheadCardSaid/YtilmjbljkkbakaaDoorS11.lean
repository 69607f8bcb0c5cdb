/-
  A part of the proof: our library of the interpreter.
-/
import Derived.Test.YtilmjbljkkbakaaDoorS10
set_option linter.unusedSimpArgs false
set_option linter.unusedVariables false
set_option linter.unusedSectionVars false
set_option linter.unnecessarySimpa false
set_option linter.deprecated false
namespace Go.Wv

section
variable {C : Cfg} {Pr : Nat → Prop} {f : FuncId} {o : Oper} {g : G} {sl sl' : List VV} {B B' : List Blk} {a : Act} {w : World} {v : VV}

theorem store_ok (hg : GlobOk C g) (hi : Inv Pr g sl B a.tmps.toList w) {t : TypeId} {x y : Operand} (ho : o.op = .store t x y) (h : vop C f o sl B = some (v, sl', B')) : OpOk C Pr o g B.length sl' v B' a w := by
  have hrep := ev_rep hg hi.rep x
  simp only [vop, ho] at h
  split at h <;> first | (cases h; done) | skip
  rename_i id off he
  rw [he] at hrep
  have hx : evR a.tmps.toList x = .pointer (some ⟨g.phi id, off, none⟩) := hrep
  split at h <;> first | (cases h; done) | skip
  rename_i cs hb
  split at h <;> first | (cases h; done) | skip
  rename_i hc
  obtain ⟨hv, hlen, hne, hle, hok1⟩ := hc
  simp only [Option.some.injEq, Prod.mk.injEq] at h
  obtain ⟨rfl, rfl, rfl⟩ := h
  have hidl : id < B.length := (List.getElem?_eq_some_iff.1 hb).1
  obtain ⟨h1, h2, h3, h4, h5⟩ := tr_ok hg hi (x := y) (v := (tr C sl y).1) (sl' := (tr C sl y).2) rfl
  obtain ⟨k1, k2⟩ := cells_rep h1 hv
  obtain ⟨⟨arr, T, hh, hcs⟩, hcn, hcok⟩ := hi.sto.var id cs hb
  have hl1 := k1.length
  have hl2 := hcs.length
  simp only [Array.length_toList] at hl1 hl2
  let arr' : Array Value := (arr.toList.take (off + 0) ++ (evR a.tmps.toList y).cells.toList ++ arr.toList.drop (off + 0 + (evR a.tmps.toList y).cells.toList.length)).toArray
  have harr : arr'.toList = spliceR arr.toList off (evR a.tmps.toList y).cells.toList := by simp [arr', spliceR]
  have hst := run_storeCells_at C.P (g.phi id) off T (evR a.tmps.toList y).cells.toList 0 arr w hh (by simp only [Array.length_toList]; omega) (All2_one k1)
  have hrun : (execOp a.eval o).run C.P w = .ok .skip (w.setRow (g.phi id) arr') := by
    simp only [execOp, ho, eval_evR, hx, Instr.storeAt, Instr.sureAddr, Sem.run_bind, Sem.run_pure, Result.andThen_ok, storeVar, sizeOf_run (w := w) hne]
    rw [if_neg (by omega)]
    simp only [hst, Result.andThen_ok, arr']
  have hself : (w.setRow (g.phi id) arr').heap[g.phi id]? = some (.cells arr' T (0, 0)) := setRow_heap w _ arr arr' T (0, 0) hh
  have hoth : ∀ b, b ≠ g.phi id → (w.setRow (g.phi id) arr').heap[b]? = w.heap[b]? := fun b hb => setRow_other w _ b arr' hb
  have hsize : (w.setRow (g.phi id) arr').heap.size = w.heap.size := by simp [World.setRow]
  have hnew : All2 (RepC g) (splice cs off (tr C sl y).1.cells) arr'.toList := by rw [harr]; exact All2_splice hcs k1 off
  have hcommne : ∀ b com, g.comm b = some com → b ≠ g.phi id := by rintro b com hb rfl; rw [hcn] at hb; cases hb
  have hsto : Sto g (B.set id (.var (splice cs off (tr C sl y).1.cells))) (w.setRow (g.phi id) arr') := by
    refine ⟨?_, ?_, ?_, ?_⟩
    · intro b com hb
      obtain ⟨ar, T', fz, e1, e2, e3, e4⟩ := hi.sto.comm b com hb
      exact ⟨ar, T', fz, by rw [hoth b (hcommne b com hb)]; exact e1, e2, e3, e4⟩
    · intro i cs' hy
      rcases set_get hidl hy with ⟨rfl, e⟩ | ⟨hne', e⟩
      · obtain rfl := Blk.var.inj e
        exact ⟨⟨arr', T, hself, hnew⟩, hcn, all_splice hcok (cells_ok hok1 hv) off⟩
      · obtain ⟨⟨ar, T', e1, e2⟩, e3, e4⟩ := hi.sto.var i cs' e
        exact ⟨⟨ar, T', by rw [hoth _ fun h => hne' (hi.sto.inj i id cs' cs e hb h)]; exact e1, e2⟩, e3, e4⟩
    · intro i cs' hy
      rcases set_get hidl hy with ⟨rfl, e⟩ | ⟨_, e⟩
      · cases e
      · exact hi.sto.ro i cs' e
    · intro i j ci cj hyi hyj e
      have : ∀ (k : Nat) ck, (B.set id (.var (splice cs off (tr C sl y).1.cells)))[k]? = some (.var ck) → ∃ ck', B[k]? = some (.var ck') := by
        intro k ck hk
        rcases set_get hidl hk with ⟨rfl, _⟩ | ⟨_, e⟩
        · exact ⟨_, hb⟩
        · exact ⟨_, e⟩
      obtain ⟨ci', ei⟩ := this i ci hyi
      obtain ⟨cj', ej⟩ := this j cj hyj
      exact hi.sto.inj i j ci' cj' ei ej e
  have hcb : ∀ b, cntB b g (w.setRow (g.phi id) arr') 0 (B.set id (.var (splice cs off (tr C sl y).1.cells))) ≤ cntB b g w 0 B + cnt b (tr C sl y).1 (evR a.tmps.toList y) := by
    intro b
    have e1 := cntB_set (b := b) (g := g) (w := w) B 0 id (.var (splice cs off (tr C sl y).1.cells)) _ hb
    rw [Nat.zero_add] at e1
    simp only [cntBlk, cellsAt_of hh] at e1
    -- the same count, in the world behind the store
    have e2 : cntB b g (w.setRow (g.phi id) arr') 0 (B.set id (.var (splice cs off (tr C sl y).1.cells))) + cntL b cs arr.toList = cntB b g w 0 B + cntL b (splice cs off (tr C sl y).1.cells) arr'.toList := by
      have e3 := cntB_set (b := b) (g := g) (w := w.setRow (g.phi id) arr') (B.set id (.ro [])) 0 id (.var (splice cs off (tr C sl y).1.cells)) (.ro []) (List.getElem?_set_self hidl)
      have e4 := cntB_set (b := b) (g := g) (w := w) B 0 id (.ro []) _ hb
      rw [Nat.zero_add, List.set_set] at e3
      rw [Nat.zero_add] at e4
      simp only [cntBlk, cellsAt_of hh, cellsAt_of hself, Nat.add_zero] at e3 e4
      have e5 : cntB b g (w.setRow (g.phi id) arr') 0 (B.set id (.ro [])) = cntB b g w 0 (B.set id (.ro [])) := cntB_congr _ 0 fun i cs' hy => by
        rcases set_get hidl hy with ⟨rfl, e⟩ | ⟨hne', e⟩
        · cases e
        · rw [Nat.zero_add]
          simp only [cellsAt, hoth _ fun h => hne' (hi.sto.inj i id cs' cs e hb h)]
      omega
    have e6 := cntL_splice (b := b) hcs.length k1.length (off := off) (by omega)
    rw [← harr, k2 b] at e6
    omega
  refine ⟨_, undef, _, g, hrun, .inr ⟨rfl, rfl⟩, ⟨comm_same fun _ => rfl, fun b hp => ⟨rfl, hoth b fun h => (hi.prot b hp).2.2 id cs hb h.symm⟩, by omega, fun _ _ => rfl, rfl, rfl⟩, ⟨All2_put h3 (show Rep g (.tup []) undef from ⟨#[], rfl, .nil⟩) o.dst, ?_, hsto, ?_, ?_⟩⟩
  · rw [List.length_set]; exact okRs_put h4 rfl o.dst
  · intro b
    have := cntS_put (b := b) h3.length (.tup []) undef o.dst
    have : cnt b (.tup []) undef = 0 := cnt_zero rfl
    have := hi.uniq b
    have := h5 b
    have := hcb b
    omega
  · intro b hp
    obtain ⟨p1, p2, p3⟩ := hi.prot b hp
    refine ⟨by omega, ?_, ?_⟩
    · have := cntS_put (b := b) h3.length (.tup []) undef o.dst
      have : cnt b (.tup []) undef = 0 := cnt_zero rfl
      have := h5 b
      have := hcb b
      omega
    · intro i cs' hy
      rcases set_get hidl hy with ⟨rfl, e⟩ | ⟨_, e⟩
      · exact p3 _ _ hb
      · exact p3 i cs' e

end
end Go.Wv
