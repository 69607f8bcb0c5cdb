/-
  A part of the proof: our library of the interpreter.
-/
import Derived.Test.YtilmjbljkkbakaaDoorS12
set_option linter.unusedSimpArgs false
set_option linter.unusedVariables false
set_option linter.unusedSectionVars false
set_option linter.unnecessarySimpa false
set_option linter.deprecated false
namespace Go.Wv

section
variable {C : Cfg} {Pr : Nat → Prop} {f : FuncId} {o : Oper} {g : G} {sl sl' : List VV} {B B' : List Blk} {a : Act} {tm : List Value} {w : World} {v : VV}

/-- A value with rights of its own is put into a slot. -/
theorem Inv.put1 (h : Inv Pr g sl B tm w) {u : Value} (hv : Rep g v u) (ho : okR B.length v = true) (hc : ∀ b, cnt b v u + (cntS b sl tm + cntB b g w 0 B) ≤ 1) (hp : ∀ b, Pr b → cnt b v u = 0) (d : Option Tmp) :
    Inv Pr g (putS sl d v) B (putL tm d u) w :=
  ⟨All2_put h.rep hv d, okRs_put h.ok ho d, h.sto, fun b => by have := cntS_put (b := b) h.rep.length v u d; have := hc b; omega,
   fun b hb => ⟨(h.prot b hb).1, by have := cntS_put (b := b) h.rep.length v u d; have := hp b hb; have := (h.prot b hb).2.1; omega, (h.prot b hb).2.2⟩⟩

/-- The owner of a block goes on behind what is told of it. -/
theorem Inv.extend (h : Inv Pr g sl B tm w) {b0 : Nat} {cs0 cs1 : List VV} {cap sz : Nat} {arr arr' : Array Value} {T : TypeId} (hc : g.comm b0 = some ⟨cs0, some (cap, sz)⟩) (hpre : cs0 <+: cs1)
    (hh : w.heap[b0]? = some (.cells arr T (0, 0))) (hsz : arr'.size = cap * sz) (hcap : cap ≤ maxLen) (hlen : cs1.length ≤ arr'.size) (hno : cntS b0 sl tm + cntB b0 g w 0 B = 0) (hnp : ¬ Pr b0)
    (hr : ∀ (j : Nat) c, cs1[j]? = some c → ∃ u, arr'[j]? = some u ∧ RepC g c u ∧ ownC c = false ∧ okC 0 c = true) :
    Ext Pr B.length g w (g.told b0 ⟨cs1, some (cap, sz)⟩) (w.setRow b0 arr') ∧ Inv Pr (g.told b0 ⟨cs1, some (cap, sz)⟩) sl B tm (w.setRow b0 arr') := by
  have hself : (w.setRow b0 arr').heap[b0]? = some (.cells arr' T (0, 0)) := setRow_heap w _ arr arr' T (0, 0) hh
  have hoth : ∀ b, b ≠ b0 → (w.setRow b0 arr').heap[b]? = w.heap[b]? := fun b hb => setRow_other w _ b arr' hb
  have hsize : (w.setRow b0 arr').heap.size = w.heap.size := by simp [World.setRow]
  have hcomm : ∀ b com, g.comm b = some com → ∃ com', (g.told b0 ⟨cs1, some (cap, sz)⟩).comm b = some com' ∧ com.cs <+: com'.cs := by
    intro b com hb
    by_cases e : b = b0
    · subst e
      rw [hc] at hb
      obtain rfl := Option.some.inj hb
      exact ⟨_, G.told_self, hpre⟩
    · exact ⟨com, by rw [G.told_other e]; exact hb, List.prefix_refl _⟩
  have hphi : ∀ (n i : Nat), i < n → (g.told b0 ⟨cs1, some (cap, sz)⟩).phi i = g.phi i := fun _ _ _ => rfl
  have hvar : ∀ (id : Nat) cs, B[id]? = some (.var cs) → g.phi id ≠ b0 := by
    rintro id cs hb rfl
    rw [(h.sto.var id cs hb).2.1] at hc
    cases hc
  have hcb : ∀ b, cntB b (g.told b0 ⟨cs1, some (cap, sz)⟩) (w.setRow b0 arr') 0 B = cntB b g w 0 B := fun b => cntB_congr B 0 fun i cs' hb => by
    rw [Nat.zero_add, show (g.told b0 ⟨cs1, some (cap, sz)⟩).phi i = g.phi i from rfl]
    simp only [cellsAt, hoth _ (hvar i cs' hb)]
  have hblk : ∀ (id : Nat) cs arr1 T1, B[id]? = some (.var cs) → w.heap[g.phi id]? = some (.cells arr1 T1 (0, 0)) → ∀ b, 0 < cntL b cs arr1.toList → b ≠ b0 := by
    rintro id cs arr1 T1 hb hh1 b hcnt rfl
    have := cntB_get (b := b) (g := g) (w := w) B 0 id _ hb
    rw [Nat.zero_add] at this
    simp only [cntBlk, cellsAt_of hh1] at this
    omega
  have hsto : Sto (g.told b0 ⟨cs1, some (cap, sz)⟩) B (w.setRow b0 arr') := by
    refine ⟨?_, ?_, ?_, h.sto.inj⟩
    · intro b com hb
      by_cases e : b = b0
      · subst e
        rw [G.told_self] at hb
        obtain rfl := Option.some.inj hb
        refine ⟨arr', T, (0, 0), hself, hlen, comm_cells (com := ⟨cs1, some (cap, sz)⟩) hcomm hr, ?_⟩
        rintro cap' sz' e
        cases e
        exact ⟨rfl, hsz, hcap⟩
      · rw [G.told_other e] at hb
        obtain ⟨ar, T', fz', h1, h2, h3, h4⟩ := h.sto.comm b com hb
        exact ⟨ar, T', fz', by rw [hoth b e]; exact h1, h2, comm_cells hcomm h3, h4⟩
    · intro id cs' hb
      obtain ⟨⟨ar, T', h1, h2⟩, h3, h4⟩ := h.sto.var id cs' hb
      have e := hvar id cs' hb
      exact ⟨⟨ar, T', by rw [show (g.told b0 ⟨cs1, some (cap, sz)⟩).phi id = g.phi id from rfl, hoth _ e]; exact h1,
        All2_RepC_ext hcomm (hphi _) (fun b hcnt => G.told_other (hblk id cs' ar T' hb h1 b hcnt)) h4 h2⟩,
        by rw [show (g.told b0 ⟨cs1, some (cap, sz)⟩).phi id = g.phi id from rfl, G.told_other e]; exact h3, h4⟩
    · intro id cs' hb
      obtain ⟨com, h1, h2⟩ := h.sto.ro id cs' hb
      obtain ⟨com', h3, h4⟩ := hcomm _ com h1
      exact ⟨com', h3, h2.trans h4⟩
  refine ⟨⟨hcomm, fun b hb => ?_, by omega, fun _ _ => rfl, rfl, rfl⟩, ⟨All2_Rep_ext hcomm (hphi B.length) (fun b hb => G.told_other (by rintro rfl; omega)) h.ok h.rep, h.ok, hsto, ?_, ?_⟩⟩
  · have e : b ≠ b0 := by rintro rfl; exact hnp hb
    exact ⟨G.told_other e, hoth b e⟩
  · intro b; rw [hcb]; exact h.uniq b
  · intro b hb
    obtain ⟨p1, p2, p3⟩ := h.prot b hb
    exact ⟨by omega, by rw [hcb]; exact p2, p3⟩

theorem cnt_own {b : Nat} {x : VV} {xs : List VV} {ad : Addr} {n c : Nat} : cnt b (.sl .own (x :: xs)) (.slice (some ad) n c) = if ad.block = b then 1 else 0 := rfl

theorem cnt_own' {b : Nat} {l : List VV} {ad : Addr} {n c : Nat} (h : l ≠ []) : cnt b (.sl .own l) (.slice (some ad) n c) = if ad.block = b then 1 else 0 := by
  cases l with
  | nil => exact absurd rfl h
  | cons => rfl

theorem zOk_spec {P : Program} {t : TypeId} (h : zOk P t = true) : ∃ i zv, P.info? t = some i ∧ i.zero = some zv ∧ zv.cells.size = szT P t := by
  unfold zOk at h
  split at h <;> first | (cases h; done) | skip
  rename_i z hz
  obtain ⟨i, zv, h1, h2, rfl⟩ := zeroT_spec hz
  simp only [Bool.and_eq_true, beq_iff_eq] at h
  obtain ⟨z1, _, _⟩ := zero_cells (g := ⟨fun _ => none, fun _ => 0⟩) h.1
  have := z1.length
  simp only [Array.length_toList] at this
  exact ⟨i, zv, h1, h2, by omega⟩

theorem append_ok (hg : GlobOk C g) (hi : Inv Pr g sl B a.tmps.toList w) {x y : Operand} {t : TypeId} (ho : o.op = .call { callee := .builtin .append, args := #[x, y], argTypes := #[t, t] }) (h : vop C f o sl B = some (v, sl', B')) :
    OpOk C Pr o g B.length sl' v B' a w := by
  simp only [vop, ho, if_true] at h
  split at h <;> first | (cases h; done) | skip
  rename_i r hr
  simp only [Option.some.injEq, Prod.mk.injEq] at h
  obtain ⟨rfl, rfl, rfl⟩ := h
  obtain ⟨h1, h2, h3, h4, h5⟩ := tr_ok hg hi (x := x) (v := (tr C sl x).1) (sl' := (tr C sl x).2) rfl
  have hy := ev_rep hg hi.rep y
  unfold vappend at hr
  split at hr <;> first | (cases hr; done) | skip
  rename_i e he
  split at hr <;> first | (cases hr; done) | skip
  rename_i xs ys hx' hys'
  split at hr <;> first | (cases hr; done) | skip
  rename_i hc
  obtain ⟨c1, c2, c3, c4, c5⟩ := hc
  obtain rfl := Option.some.inj hr
  obtain ⟨hu, hne⟩ := elemT_spec he
  obtain ⟨i, zv, hinf, hz, hzs⟩ := zOk_spec c3
  have his : i.size = szT C.P e := by simp [szT, hinf]
  have hib : i.bytes = byT C.P e := by simp [byT, hinf]
  have hlim : lim = 70368744177664 := rfl
  rw [hx'] at h1 h2 h5
  obtain ⟨fl, hys⟩ : ∃ fl, ev C sl y = .sl fl ys := by
    unfold appended at hys'
    split at hys'
    · rename_i fl zs hz'; obtain rfl := Option.some.inj hys'; exact ⟨fl, hz'⟩
    · cases hys'
  rw [hys] at hy
  have hi2 : Inv Pr g (tr C sl x).2 B a.tmps.toList w := hi.change h3 h4 fun b => by have := h5 b; omega
  have hexec : ∀ (u' : Value) (w' : World), (Builtin.append_ #[t, t] o.type #[evR a.tmps.toList x, evR a.tmps.toList y]).run C.P w = .ok u' w' → (execOp a.eval o).run C.P w = .ok (.value u') w' := by
    intro u' w' hrun
    unfold execOp
    simp only [ho, resolve, invoke, builtin, Sem.run_bind, Sem.run_pure, Result.andThen_ok, List.map_toArray, List.map_cons, List.map_nil, eval_evR, hrun]
  -- nothing is appended
  by_cases hynil : ys = []
  · subst hynil
    obtain ⟨b', c', hb'⟩ : ∃ b' c', evR a.tmps.toList y = .slice b' 0 c' := RepSl_view (show RepSl g fl [] _ from hy)
    obtain ⟨b, n, c, hbc, hle⟩ : ∃ b n c, evR a.tmps.toList x = .slice b n c ∧ n ≤ c := by
      cases xs with
      | nil => exact ⟨none, 0, 0, h1, Nat.le_refl _⟩
      | cons x0 xs0 => obtain ⟨b, off, c, com, sz, e1, e2, _⟩ := (show RepSl g .own (x0 :: xs0) _ from h1); exact ⟨_, _, c, e1, e2⟩
    rw [List.append_nil]
    refine ⟨_, evR a.tmps.toList x, w, g, hexec _ w (by rw [hbc, hb']; exact run_append_zero t _ e i hu hinf b n c hle b' c'), .inl rfl, Ext.refl _ _ _ _, hi.change (All2_put h3 h1 o.dst) (okRs_put h4 h2 o.dst) fun b => ?_⟩
    have := cntS_put (b := b) h3.length (.sl .own xs) (evR a.tmps.toList x) o.dst
    have := h5 b
    omega
  obtain ⟨y0, ys0, hys0⟩ := List.exists_cons_of_ne_nil hynil
  obtain ⟨b2, off2, cap2, sz2, zs, hyv, hle2, hpos2, huni2, hzl, hzc, hzr, hzo⟩ := RepSl_cells hi.sto (show RepSl g fl ys _ from hy) hynil
  have hsz2 : sz2 = szT C.P e := by
    have := huni2 y0 (by rw [hys0]; simp)
    rw [hys0] at c5
    simp only [headOk, beq_iff_eq] at c5
    omega
  subst hsz2
  have hfy := flatC_length huni2
  have hzone := All2_one hzr
  -- the cells of all
  have hnewrep : ∀ {xs : List VV} {os : List Value}, All2 (RepC g) (flatC xs) os → (∀ (j : Nat) c, (flatC xs)[j]? = some c → ownC c = false ∧ okC 0 c = true) → ∀ (rest : List Value) (j : Nat) c, (flatC (xs ++ ys))[j]? = some c →
      ∃ u, (os ++ zs ++ rest)[j]? = some u ∧ RepC g c u ∧ ownC c = false ∧ okC 0 c = true := by
    intro xs os hos hoo rest j c hc
    rw [flatC_append] at hc
    obtain ⟨u, hu1, hu2⟩ := (hos.append hzr).get hc
    refine ⟨u, ?_, hu2, ?_⟩
    · rw [List.getElem?_append_left (List.getElem?_eq_some_iff.1 hu1).1]; exact hu1
    · rcases Nat.lt_or_ge j (flatC xs).length with hl | hl
      · rw [List.getElem?_append_left hl] at hc; exact hoo j c hc
      · rw [List.getElem?_append_right hl] at hc; exact hzo _ c hc
  have hgrown : ∀ (os : List Value) (capOld : Nat), os.length = xs.length * szT C.P e → All2 (RepC g) (flatC xs) os → (∀ (j : Nat) c, (flatC xs)[j]? = some c → ownC c = false ∧ okC 0 c = true) → (∀ x ∈ xs, x.cells.length = szT C.P e) →
      (Builtin.append_ #[t, t] o.type #[evR a.tmps.toList x, evR a.tmps.toList y]).run C.P w = .ok (.slice (some ⟨w.heap.size, 0, none⟩) (xs.length + ys.length) (grownCap w (xs.length + ys.length) capOld e))
        (w.drew.alloc (.cells (os.toArray ++ zs.toArray ++ Builtin.zeroCells zv.cells (grownCap w (xs.length + ys.length) capOld e - (xs.length + ys.length))) e)) → OpOk C Pr o g B.length (tr C sl x).2 (.sl .own (xs ++ ys)) B a w := by
    intro os capOld hol hos hoo huni hrun
    have hge := grownCap_ge w (xs.length + ys.length) capOld e
    have hml : xs.length + ys.length ≤ maxLen := by simp only [maxLen]; omega
    have hcm := grownCap_le_maxLen w (xs.length + ys.length) capOld e hml
    have hsize : (os.toArray ++ zs.toArray ++ Builtin.zeroCells zv.cells (grownCap w (xs.length + ys.length) capOld e - (xs.length + ys.length))).size = grownCap w (xs.length + ys.length) capOld e * szT C.P e := by
      simp only [Array.size_append, List.size_toArray, size_zeroCells, hzs, hol, hzl, ← Nat.add_mul]
      congr 1
      omega
    have hfl : (flatC (xs ++ ys)).length = (xs.length + ys.length) * szT C.P e := by
      rw [flatC_append, List.length_append, flatC_length huni, hfy, Nat.add_mul]
    obtain ⟨q1, q2⟩ := hi2.newCom (cs := flatC (xs ++ ys)) (own := some (grownCap w (xs.length + ys.length) capOld e, szT C.P e)) (arr := os.toArray ++ zs.toArray ++ Builtin.zeroCells zv.cells (grownCap w (xs.length + ys.length) capOld e - (xs.length + ys.length))) e (0, 0)
      (by rw [hfl, hsize]; exact Nat.mul_le_mul_right _ hge)
      (fun j c hc => by
        obtain ⟨u, hu1, hu2⟩ := hnewrep hos hoo (Builtin.zeroCells zv.cells (grownCap w (xs.length + ys.length) capOld e - (xs.length + ys.length))).toList j c hc
        refine ⟨u, ?_, hu2⟩
        rw [← Array.getElem?_toList]
        simpa using hu1)
      (by rintro cap' sz' e'; cases e'; exact ⟨rfl, hsize, hcm⟩) (w1 := w.drew) rfl
    have hxy : ∃ z zs', xs ++ ys = z :: zs' := List.exists_cons_of_ne_nil (by simp [hynil])
    obtain ⟨z0, zs0, hz0⟩ := hxy
    have hrepv : Rep (g.told w.heap.size ⟨flatC (xs ++ ys), some (grownCap w (xs.length + ys.length) capOld e, szT C.P e)⟩) (.sl .own (xs ++ ys)) (.slice (some ⟨w.heap.size, 0, none⟩) (xs.length + ys.length) (grownCap w (xs.length + ys.length) capOld e)) := by
      have hall : ∀ q ∈ xs ++ ys, q.cells.length = szT C.P e := by
        intro q hq
        rcases List.mem_append.1 hq with h | h
        · exact huni q h
        · exact huni2 q h
      have hl' : (xs ++ ys).length = xs.length + ys.length := List.length_append
      show RepSl _ .own (xs ++ ys) _
      rw [← hl'] at hge ⊢
      rw [← hl', ] at hfl
      rw [hz0] at hall hge hfl ⊢
      exact ⟨w.heap.size, 0, _, _, szT C.P e, rfl, hge, G.told_self, by omega, hall, by simp only [Nat.zero_add]; rw [hfl]; exact Nat.le_refl _, by rw [List.drop_zero, ← hfl, List.take_length], fun _ => ⟨rfl, rfl, rfl⟩⟩
    have hcnt0 : cntS w.heap.size (tr C sl x).2 a.tmps.toList = 0 := by
      rcases Nat.eq_zero_or_pos (cntS w.heap.size (tr C sl x).2 a.tmps.toList) with h | h
      · exact h
      · obtain ⟨com, hk⟩ := cntS_known h3 h; exact absurd (hi.sto.lt hk) (Nat.lt_irrefl _)
    have hcnt1 : cntB w.heap.size (g.told w.heap.size ⟨flatC (xs ++ ys), some (grownCap w (xs.length + ys.length) capOld e, szT C.P e)⟩) (w.drew.alloc (.cells (os.toArray ++ zs.toArray ++ Builtin.zeroCells zv.cells (grownCap w (xs.length + ys.length) capOld e - (xs.length + ys.length))) e)) 0 B = 0 := by
      have : ∀ (B : List Blk) (k : Nat), (∀ (i : Nat) cs, B[i]? = some (.var cs) → ∃ arr T, w.heap[g.phi (k + i)]? = some (.cells arr T (0, 0)) ∧ All2 (RepC g) cs arr.toList) → cntB w.heap.size g w k B = 0 := by
        intro B
        induction B with
        | nil => intro k _; rfl
        | cons b B ih =>
          intro k hk
          rw [cntB_cons, ih (k + 1) fun i cs hb => by have := hk (i + 1) cs (by simpa using hb); rwa [show k + (i + 1) = k + 1 + i by omega] at this]
          cases b with
          | ro => rfl
          | var cs =>
            obtain ⟨arr, T, e1, e2⟩ := hk 0 cs rfl
            rw [Nat.add_zero] at e1
            simp only [cntBlk, cellsAt_of e1, Nat.add_zero]
            rcases Nat.eq_zero_or_pos (cntL w.heap.size cs arr.toList) with h | h
            · exact h
            · obtain ⟨com, hk⟩ := cntL_known e2 h; exact absurd (hi.sto.lt hk) (Nat.lt_irrefl _)
      rw [cntB_congr (g := g) (w := w) B 0 fun i cs hb => by
        rw [Nat.zero_add, show (g.told w.heap.size ⟨flatC (xs ++ ys), some (grownCap w (xs.length + ys.length) capOld e, szT C.P e)⟩).phi i = g.phi i from rfl]
        have hlt := hi.sto.phi_lt hb
        simp only [cellsAt, heap_old w.drew _ (show g.phi i < w.drew.heap.size from hlt)]
        rfl]
      exact this B 0 fun i cs hb => by rw [Nat.zero_add]; exact (hi.sto.var i cs hb).1
    refine ⟨_, _, _, _, hexec _ _ hrun, .inl rfl, q1, q2.put1 hrepv rfl ?_ ?_ o.dst⟩
    · intro b
      rw [cnt_own' (by simp [hynil])]
      split
      · rename_i e'
        simp only at e'
        subst e'
        rw [hcnt0, hcnt1]
        omega
      · have := q2.uniq b; omega
    · intro b hb
      rw [cnt_own' (by simp [hynil]), if_neg]
      have := (hi.prot b hb).1
      simp only
      omega
  by_cases hxnil : xs = []
  · subst hxnil
    have hxv : evR a.tmps.toList x = .slice none 0 0 := h1
    refine hgrown [] 0 (by simp) .nil (by simp [flatC]) (by simp) ?_
    rw [hxv, hyv]
    have hr := run_append_nil (P := C.P) w t o.type e i zv hu hinf hz ⟨b2, off2, none⟩ ys.length cap2 zs (by rw [his]; exact hzl) hzc (by rw [hys0]; simp) (by rw [hlim] at c2; simp at c2; omega) (by rw [hib]; rw [hlim] at c1; simp at c1; omega)
    simpa using hr
  · obtain ⟨x0, xs0, hx0⟩ := List.exists_cons_of_ne_nil hxnil
    have h1' : RepSl g .own xs (evR a.tmps.toList x) := h1
    obtain ⟨b0, c0, com, sz, hxv, hle0, hcom, hpos, huni, hcs, hown⟩ : ∃ b0 c0 com sz, evR a.tmps.toList x = .slice (some ⟨b0, 0, none⟩) xs.length c0 ∧ xs.length ≤ c0 ∧ g.comm b0 = some com ∧ 0 < sz ∧ (∀ x ∈ xs, x.cells.length = sz) ∧ com.cs = flatC xs ∧ com.own = some (c0, sz) := by
      rw [hx0] at h1' ⊢
      obtain ⟨b, off, c, com, sz, e1, e2, e3, e4, e5, e6, e7, e8⟩ := h1'
      obtain ⟨rfl, e9, e10⟩ := e8 rfl
      exact ⟨b, c, com, sz, e1, e2, e3, e4, e5, e9, e10⟩
    have hszx : sz = szT C.P e := by
      have := huni x0 (by rw [hx0]; simp)
      rw [hx0] at c4
      simp only [headOk, beq_iff_eq] at c4
      omega
    subst hszx
    obtain ⟨arr, T, fz, hh, hlen, hcells, hfz⟩ := hi.sto.comm b0 com hcom
    obtain ⟨rfl, hasz, hcm⟩ := hfz c0 _ hown
    have hfx := flatC_length huni
    have hos : All2 (RepC g) (flatC xs) (arr.toList.take (xs.length * szT C.P e)) := by
      refine All2.of_get (by rw [hcs, hfx] at hlen; rw [hfx]; simp; omega) fun j c u hc hu => ?_
      obtain ⟨u', e1, e2, _⟩ := hcells j c (by rw [hcs]; exact hc)
      rw [List.getElem?_take] at hu
      split at hu
      · rw [← Array.getElem?_toList, hu] at e1
        obtain rfl := Option.some.inj e1
        exact e2
      · cases hu
    have hoo : ∀ (j : Nat) c, (flatC xs)[j]? = some c → ownC c = false ∧ okC 0 c = true := fun j c hc => by
      obtain ⟨_, _, _, e3, e4⟩ := hcells j c (by rw [hcs]; exact hc)
      exact ⟨e3, e4⟩
    by_cases hroom : xs.length + ys.length ≤ c0
    · have hfit : xs.length * szT C.P e + zs.length ≤ arr.size := by rw [hzl, hasz, ← Nat.add_mul]; exact Nat.mul_le_mul_right _ hroom
      have hrun := run_append_room' (P := C.P) (w := w) t o.type e T i hu hinf b0 xs.length c0 arr hh ⟨b2, off2, none⟩ ys.length cap2 zs (by rw [his]; exact hzl) hzc hzone hroom (by rw [his]; exact hfit)
      rw [his] at hrun
      have hcnt0 : cntS b0 (tr C sl x).2 a.tmps.toList + cntB b0 g w 0 B = 0 := by
        have e1 := h5 b0
        have e2 := hi.uniq b0
        rw [hxv, hx0, cnt_own, if_pos rfl] at e1
        omega
      have hnp : ¬ Pr b0 := by
        intro hp
        have e1 := h5 b0
        have e2 := (hi.prot b0 hp).2.1
        rw [hxv, hx0, cnt_own, if_pos rfl] at e1
        omega
      have hcom' : g.comm b0 = some ⟨flatC xs, some (c0, szT C.P e)⟩ := by rw [hcom]; cases com; simp only at hcs hown; subst hcs hown; rfl
      have hasz' : (arr.toList.take (xs.length * szT C.P e) ++ zs ++ arr.toList.drop (xs.length * szT C.P e + zs.length)).toArray.size = c0 * szT C.P e := by
        simp only [List.size_toArray, List.length_append, List.length_take, List.length_drop, Array.length_toList]
        omega
      have hfl : (flatC (xs ++ ys)).length = (xs.length + ys.length) * szT C.P e := by
        rw [flatC_append, List.length_append, hfx, hfy, Nat.add_mul]
      obtain ⟨q1, q2⟩ := hi2.extend (cs1 := flatC (xs ++ ys)) (arr' := (arr.toList.take (xs.length * szT C.P e) ++ zs ++ arr.toList.drop (xs.length * szT C.P e + zs.length)).toArray) hcom' (by rw [flatC_append]; exact List.prefix_append _ _) hh hasz' hcm
        (by rw [hfl, hasz']; exact Nat.mul_le_mul_right _ hroom) hcnt0 hnp (fun j c hc => by
          obtain ⟨u, hu1, hu2⟩ := hnewrep hos hoo (arr.toList.drop (xs.length * szT C.P e + zs.length)) j c hc
          exact ⟨u, by simpa using hu1, hu2⟩)
      have hrepv : Rep (g.told b0 ⟨flatC (xs ++ ys), some (c0, szT C.P e)⟩) (.sl .own (xs ++ ys)) (.slice (some ⟨b0, 0, none⟩) (xs.length + ys.length) c0) := by
        have hall : ∀ q ∈ xs ++ ys, q.cells.length = szT C.P e := by
          intro q hq
          rcases List.mem_append.1 hq with h | h
          · exact huni q h
          · exact huni2 q h
        have hl' : (xs ++ ys).length = xs.length + ys.length := List.length_append
        show RepSl _ .own (xs ++ ys) _
        rw [← hl'] at hroom hfl ⊢
        have hz0 : xs ++ ys = x0 :: (xs0 ++ ys) := by rw [hx0]; rfl
        rw [hz0] at hall hroom hfl ⊢
        exact ⟨b0, 0, _, _, szT C.P e, rfl, hroom, G.told_self, by omega, hall, by simp only [Nat.zero_add]; rw [hfl]; exact Nat.le_refl _, by rw [List.drop_zero, ← hfl, List.take_length], fun _ => ⟨rfl, rfl, rfl⟩⟩
      refine ⟨_, _, _, _, hexec _ _ (by rw [hxv, hyv]; exact hrun), .inl rfl, q1, q2.put1 hrepv rfl ?_ ?_ o.dst⟩
      · intro b
        have hcb : cntB b (g.told b0 ⟨flatC (xs ++ ys), some (c0, szT C.P e)⟩) (w.setRow b0 (arr.toList.take (xs.length * szT C.P e) ++ zs ++ arr.toList.drop (xs.length * szT C.P e + zs.length)).toArray) 0 B = cntB b g w 0 B := cntB_congr B 0 fun i cs' hb => by
          rw [Nat.zero_add, show (g.told b0 ⟨flatC (xs ++ ys), some (c0, szT C.P e)⟩).phi i = g.phi i from rfl]
          have hne' : g.phi i ≠ b0 := by rintro rfl; rw [(hi.sto.var i cs' hb).2.1] at hcom; cases hcom
          simp only [cellsAt, setRow_other w _ _ _ hne']
        rw [cnt_own' (by simp [hynil]), hcb]
        split
        · rename_i e'; simp only at e'; subst e'; omega
        · have := hi2.uniq b; omega
      · intro b hb
        rw [cnt_own' (by simp [hynil]), if_neg]
        simp only
        rintro rfl
        exact hnp hb
    · have hole : (arr.toList.take (xs.length * szT C.P e)).length = xs.length * szT C.P e := by
        rw [List.length_take]; exact Nat.min_eq_left (by rw [← hfx, ← hcs]; simpa using hlen)
      refine hgrown (arr.toList.take (xs.length * szT C.P e)) c0 hole hos hoo huni ?_
      rw [hxv, hyv]
      have holds : ∀ (j : Nat) v, (arr.toList.take (xs.length * szT C.P e))[j]? = some v → w.cell? ((⟨b0, 0, none⟩ : Addr).add j) = some v := by
        intro j v hv
        rw [List.getElem?_take] at hv
        split at hv
        · rw [Addr_add', Nat.zero_add, cell_of_row w b0 j arr T _ hh]; simpa using hv
        · cases hv
      exact run_append_grow (P := C.P) w t o.type e i zv hu hinf hz ⟨b0, 0, none⟩ xs.length c0 _ (by rw [his]; exact hole) holds ⟨b2, off2, none⟩ ys.length cap2 zs (by rw [his]; exact hzl) hzc (by omega)
        (by rw [hlim] at c2; omega) (growslice_fits (by omega) (by rw [hib]; rw [hlim] at c1; omega))

end
end Go.Wv
