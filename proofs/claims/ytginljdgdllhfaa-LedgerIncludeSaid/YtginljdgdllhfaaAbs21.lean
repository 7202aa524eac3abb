/- Slices whose elements may be written: they lie in a box, the spare cells are their slot's own. -/
import Derived.Test.YtginljdgdllhfaaAbs20
set_option linter.unusedVariables false
set_option linter.unusedSimpArgs false
namespace Go.Abs
variable {Z : Pg}

def St.boxes2 (st : St) (n' n : Nm) (cs : List C) : St := { st with bx := (n', cs) :: (n, []) :: st.bx }
theorem St.boxes2_box (st : St) (n' n : Nm) (cs : List C) (m : Nm) : (st.boxes2 n' n cs).box m = if n' = m then some cs else if n = m then some [] else st.box m := by
  show getB ((n', cs) :: (n, []) :: st.bx) m = _
  rw [getB_cons, getB_cons]; rfl

/-- In place: the cells from the row's beginning on, a box's or one's own, become a new box. -/
theorem Rel.intoBox {E : Env} {G : Gh} {st : St} {a : Act} {w w1 : World} (h : Rel E G st a w) {n' n : Nm} {p : Pl} {blk L : Nat} {cs : List C} (hloc : ∀ j, n' ≠ .o j) (hnl : ∀ j, n ≠ .o j)
    (hfr : FreshG st (n', true)) (hfo : FreshG st (n, false)) (hF : ∀ o, o < L → G.W blk o = .box n ∨ G.W blk o = .own p)
    (h1 : w1.os = w.os) (h2 : w1.tape = w.tape) (h3 : w1.output = w.output) (h4 : w1.heap.size = w.heap.size) (h5 : ∀ b, (∀ o, ¬ (b = blk ∧ o < L ∧ G.W b o = .own p)) → w1.heap[b]? = w.heap[b]?)
    (h6 : ∀ b o, ¬ (b = blk ∧ o < L ∧ G.W b o = .own p) → w1.cell? ⟨b, o, none⟩ = w.cell? ⟨b, o, none⟩) (h8 : ∀ x, w1.frozen? x = w.frozen? x) (h9 : ∀ b, w1.shape? b = w.shape? b)
    (hcs : ∀ (j : Nat) (c : C), cs[j]? = some c → j < L ∧ w.frozen? ⟨blk, j, none⟩ = false ∧ ∃ v, w1.cell? ⟨blk, j, none⟩ = some v ∧ CRep w G.S c v) :
    Rel E { W := fun b o => if b = blk ∧ o < L then .box n' else G.W b o, A := fun m => if m = n' then (blk, 0) else G.A m } ((st.unown p).boxes2 n' n cs) a w1 := by
  have hS : ∀ b o, G.S b o → Gh.S { W := fun b o => if b = blk ∧ o < L then .box n' else G.W b o, A := fun m => if m = n' then (blk, 0) else G.A m } b o := fun b o hs => by
    unfold Gh.S at *
    dsimp only
    rw [if_neg (by rintro ⟨rfl, ho⟩; rcases hF o ho with e | e <;> rw [e] at hs <;> simp at hs)]
    exact hs
  have hcell : ∀ b o, G.W b o ≠ .own p → w1.cell? ⟨b, o, none⟩ = w.cell? ⟨b, o, none⟩ := fun b o hne => h6 b o fun hh => hne hh.2.2
  have hc : ∀ b o, G.S b o → w1.cell? ⟨b, o, none⟩ = w.cell? ⟨b, o, none⟩ := fun b o hs => hcell b o (by unfold Gh.S at hs; rw [hs]; simp)
  constructor
  · exact h.df
  · intro k g x hk
    obtain ⟨u, hu, q1, q2⟩ := h.tm k g x hk
    refine ⟨u, hu, fun hg => (q1 hg).mono hS hc (fun m hm => ?_), q2⟩
    have : m ≠ n' := fun e => by subst e; have := hfr.1 rfl k g x hk; rw [hm] at this; simp at this
    simp [this]
  · intro m ds hm j c hj
    rw [St.boxes2_box] at hm
    split at hm
    · rename_i he; subst he
      simp only [Option.some.injEq] at hm; subst hm
      obtain ⟨q1, q2, v, q3, q4⟩ := hcs j c hj
      dsimp only
      rw [if_pos rfl]
      dsimp only
      rw [Nat.zero_add, if_pos ⟨rfl, q1⟩]
      exact ⟨rfl, by rw [h8]; exact q2, v, q3, q4.mono hS hc⟩
    · rename_i hne
      split at hm
      · simp only [Option.some.injEq] at hm; subst hm; simp at hj
      · rename_i hne2
        obtain ⟨q1, q2, u, q3, q4⟩ := h.bx m ds hm j c hj
        have hne' : ¬ m = n' := fun e => hne e.symm
        dsimp only
        rw [if_neg hne']
        refine ⟨?_, by rw [h8]; exact q2, u, by rw [hcell _ _ (by rw [q1]; simp)]; exact q3, q4.mono hS hc⟩
        rw [if_neg]
        · exact q1
        · rintro ⟨e1, ho⟩
          rcases hF _ ho with e | e <;> rw [← e1, q1] at e
          · injection e with e; exact hne2 e.symm
          · simp at e
  · intro r s hr
    have hr2 : (st.unown p).own r = some s := hr
    rw [St.unown_own] at hr2
    split at hr2
    · simp at hr2
    · rename_i hrp
      obtain ⟨u, hu, ho⟩ := h.ow r s hr2
      refine ⟨u, ?_, ?_⟩
      · cases r with
        | t k => exact hu
        | b m off =>
          have hm1 : ¬ m = n' := fun e => by
            have := hfr.2 _ _ hr2; subst e; simp [Pl.inBox, Nm.beq_self] at this
          have hm2 : ¬ m = n := fun e => by
            have := hfo.2 _ _ hr2; subst e; simp [Pl.inBox, Nm.beq_self] at this
          refine ⟨?_, ?_⟩
          · dsimp only; rw [if_neg hm1, hcell _ _ (by rw [hu.2]; simp)]; exact hu.1
          · dsimp only
            rw [if_neg hm1, if_neg]
            · exact hu.2
            · rintro ⟨e1, ho'⟩
              rcases hF _ ho' with e | e <;> rw [← e1, hu.2] at e
              · injection e with e; exact hm2 e
              · simp at e
      · rcases ho with ho | ⟨b2, len, cap, e, q1, q2, q3, q4⟩
        · exact .inl ho
        · refine .inr ⟨b2, len, cap, e, q1, q2, by rw [h9]; exact q3, fun o ho1 ho2 => ?_⟩
          obtain ⟨q5, q6⟩ := q4 o ho1 ho2
          refine ⟨?_, by rw [h8]; exact q6⟩
          dsimp only
          rw [if_neg]
          · exact q5
          · rintro ⟨e1, ho'⟩
            rcases hF _ ho' with e | e <;> rw [← e1, q5] at e
            · simp at e
            · injection e with e; exact hrp e
  · intro b o hb
    rw [h4]
    dsimp only at hb
    split at hb
    · rename_i hf
      obtain ⟨rfl, ho⟩ := hf
      refine h.wf b o ?_
      rcases hF o ho with e | e <;> rw [e] <;> simp
    · exact h.wf b o hb
  · intro b o m hb hn
    dsimp only at hn
    split at hn
    · rename_i hf
      obtain ⟨rfl, ho⟩ := hf
      rcases hF o ho with e | e
      · exact h.olB b o _ hb e
      · exact .inr (h.olO b o _ hb e)
    · exact h.olB b o m hb hn
  · intro b o q hb hn
    dsimp only at hn
    split at hn
    · simp at hn
    · exact h.olO b o q hb hn
  · exact h.nt
  · intro j
    dsimp only
    rw [if_neg (fun e => hloc j e.symm)]
    exact h.oA j
  · intro b o hi
    exact hS b o (h.im b o hi)
  · intro b o hb hi
    dsimp only at hi
    split at hi
    · simp at hi
    · exact h.im' b o hb hi
  · refine h.fr.trans ⟨h1, h2, h3, by rw [h4]; exact Nat.le_refl _, ?_, ?_, fun b o _ => h8 _, fun b _ => h9 _⟩
    · intro b hb hM
      refine h5 b fun o hf => hM o (.inr ?_)
      exact h.olO b o p hb hf.2.2
    · intro b o hb hM
      refine h6 b o fun hf => hM (.inr ?_)
      exact h.olO b o p hb hf.2.2
  · exact h.hB
  · intro b o hb
    dsimp only
    split
    · rename_i hf
      obtain ⟨rfl, ho⟩ := hf
      exfalso
      rcases hF o ho with e | e
      · cases n with
        | l k => exact (h.lo b o hb).1 k e
        | o j => exact hnl j rfl
      · exact (h.lo b o hb).2 _ e
    · exact h.lo b o hb

/-- A box without cells says nothing. -/
theorem Rel.emptyBox {E : Env} {G : Gh} {st : St} {a : Act} {w : World} (h : Rel E G st a w) (n : Nm) : Rel E G { st with bx := (n, []) :: st.bx } a w where
  df := h.df
  tm := h.tm
  bx := by
    intro m cs hm
    have : St.box { st with bx := (n, []) :: st.bx } m = if n = m then some [] else st.box m := getB_cons _ _ _ _
    rw [this] at hm
    split at hm
    · simp only [Option.some.injEq] at hm; subst hm; intro j c hj; simp at hj
    · exact h.bx m cs hm
  ow := h.ow
  wf := h.wf
  olB := h.olB
  olO := h.olO
  nt := h.nt
  oA := h.oA
  im := h.im
  im' := h.im'
  fr := h.fr
  hB := h.hB
  lo := h.lo

/-- A new row whose first cells are a box; 'p' owns the rest. -/
theorem Rel.newMs {E : Env} {G : Gh} {st : St} {a : Act} {w : World} (h : Rel E G st a w) (p : Pl) {j' : Nat} (hfr : FreshG st (.l j', true)) {cells : Array Value} {e : TypeId} {sz len cap : Nat} {cs : List C} (hc : len ≤ cap) (hsz : cells.size = cap * sz) (hl : cs.length = len * sz)
    (hrep : ∀ (j : Nat) (c : C), cs[j]? = some c → ∃ v, cells[j]? = some v ∧ CRep w G.S c v) :
    ∃ G1, Rel E G1 ((st.unown p).addBox (.l j') cs) a (w.drew.alloc (.cells cells e)) ∧ G1.A (.l j') = (w.heap.size, 0) ∧ OwnAt (w.drew.alloc (.cells cells e)) G1 p sz (.slice (some ⟨w.heap.size, 0, none⟩) len cap) := by
  let f : Nat → Who := fun o => if o < len * sz then .box (.l j') else if o < cap * sz then .own p else .none
  have hfr' : Fr (fun _ _ => False) w.heap.size w (w.drew.alloc (.cells cells e)) := by
    have h1 := fr_alloc w.drew (.cells cells e)
    exact ⟨h1.os, h1.tape, h1.output, h1.size, h1.block, h1.cell, h1.frozen, h1.shape⟩
  refine ⟨(G.push w.heap.size f).name (.l j') (w.heap.size, 0), ?_, by simp [Gh.name], ?_⟩
  · refine Rel.addBox ?_ ?_
    · refine ((h.sub (st.unown_sub p)).sub (St.drop_sub _ (.l j'))).grow hfr' ?_ (St.drop_same (st := st.unown p) rfl (fun k g x hk => hfr.1 rfl k g x hk) _ _) ?_
      · intro b o hb
        have : ¬ b = w.heap.size := by omega
        simp [Gh.name, Gh.push, this]
      · intro b o hne
        simp only [Gh.name, Gh.push] at hne
        split at hne
        · rename_i hb; subst hb; simp
        · have := h.wf b o hne; simp; omega
    · intro j c hj
      have hjl : j < len * sz := by rw [← hl]; exact (List.getElem?_eq_some_iff.1 hj).1
      obtain ⟨v, hv', hr⟩ := hrep j c hj
      refine ⟨by simp [Gh.name, Gh.push, f, hjl], by simp only [Gh.name, if_true]; exact World.frozen?_alloc_new w.drew cells e _, v, ?_, ?_⟩
      · simp only [Gh.name, if_true]
        rw [Nat.zero_add]
        exact (World.cell?_alloc_new w.drew cells e j).trans hv'
      · refine hr.mono ?_ ?_
        · intro b o hs
          have hb := h.wf b o (by unfold Gh.S at hs; rw [hs]; simp)
          have : ¬ b = w.heap.size := by omega
          simpa [Gh.S, Gh.name, Gh.push, this] using hs
        · intro b o hs
          have hb := h.wf b o (by unfold Gh.S at hs; rw [hs]; simp)
          exact hfr'.cell b o hb (fun x => x)
  · refine .inr ⟨w.heap.size, len, cap, e, rfl, hc, ?_, fun o' h1 h2 => ?_⟩
    · unfold World.shape?
      rw [show (w.drew.alloc (.cells cells e)).heap[w.heap.size]? = some (.cells cells e) from Array.getElem?_push_size]
      simp [hsz]
    · have hn : ¬ o' < len * sz := by omega
      exact ⟨by simp [Gh.name, Gh.push, f, hn, h2], World.frozen?_alloc_new w.drew cells e o'⟩

theorem flat_get {sz : Nat} : ∀ {xs : List (List C)} {m : Nat} {c : C}, (∀ (i : Nat) (row : List C), xs[i]? = some row → row.length = sz) → xs.flatten[m]? = some c →
    ∃ (i j : Nat) (row : List C), m = i * sz + j ∧ j < sz ∧ xs[i]? = some row ∧ row[j]? = some c
  | [], m, c, _, h => by simp at h
  | r :: xs, m, c, hr, h => by
    have h0 : r.length = sz := hr 0 r rfl
    rw [List.flatten_cons, List.getElem?_append] at h
    split at h
    · rename_i hm
      exact ⟨0, m, r, by simp, by omega, rfl, h⟩
    · rename_i hm
      obtain ⟨i, j, row, e, hj, h1, h2⟩ := flat_get (xs := xs) (fun i row hi => hr (i + 1) row (by simpa using hi)) h
      exact ⟨i + 1, j, row, by rw [Nat.succ_mul]; omega, hj, by simpa using h1, h2⟩
theorem flat_len {sz : Nat} : ∀ {xs : List (List C)}, (∀ (i : Nat) (row : List C), xs[i]? = some row → row.length = sz) → xs.flatten.length = xs.length * sz
  | [], _ => by simp
  | r :: xs, hr => by
    have h0 : r.length = sz := hr 0 r rfl
    rw [List.flatten_cons, List.length_append, flat_len (xs := xs) (fun i row hi => hr (i + 1) row (by simpa using hi)), List.length_cons, Nat.succ_mul]; omega

theorem append_ms {E : Env} {G : Gh} {st : St} {a : Act} {w : World} (hr : Rel E G st a w) {p : Pl} {j' : Nat} {n : Nm} {sz e by' L : Nat} {cs : List C} {xs : List (List C)} {v' xv : Value} {t ty : TypeId} {jf : TypeInfo} {ze : Value}
    (hu : Z.P.underlying t = some (.slice e)) (hinfo : Z.P.info? e = some jf) (hsz : jf.size = sz) (hby : jf.bytes = by') (hsz0 : sz ≠ 0) (hze : jf.zero = some ze) (hzec : ze.cells.size = sz)
    (hown : OwnAt w G p sz v') (hnlo : ∀ j, n ≠ .o j) (hfr : FreshG st (.l j', true)) (hfo : FreshG st (n, false))
    (hv : (v' = .slice none 0 0 ∧ L = 0 ∧ cs = []) ∨ ∃ blk cap, v' = .slice (some ⟨blk, 0, none⟩) L cap ∧ ∀ (j : Nat) (c : C), cs[j]? = some c → G.W blk j = .box n ∧ w.frozen? ⟨blk, j, none⟩ = false ∧ ∃ v, w.cell? ⟨blk, j, none⟩ = some v ∧ CRep w G.S c v)
    (hcl : cs.length = L * sz) (hxr : CRep w G.S (.sl sz xs) xv) (hx1 : 1 ≤ xs.length) (hbig : (L + xs.length) * by' ≤ 140737488355328) (hmax : L + xs.length ≤ 9223372036854775807) :
    ∃ G1 w1 u cap', (Builtin.append_ #[t, t] ty #[v', xv]).run Z.P w = .ok u w1 ∧ Rel E G1 ((st.unown p).boxes2 (.l j') n (cs ++ xs.flatten)) a w1 ∧
      u = .slice (some ⟨(G1.A (.l j')).1, (G1.A (.l j')).2 + 0, none⟩) (L + xs.length) cap' ∧ L + xs.length ≤ cap' ∧ OwnAt w1 G1 p sz u := by
  rcases CRep.sl_cases hxr with ⟨xa, hxv, rfl⟩ | ⟨xb, xo, m, mc, hxv, hxl⟩
  · simp at hx1
  rw [hxv] at hxr
  obtain ⟨news, hnl, hncell, hnone, hnrep⟩ := slice_vals hxr
  subst hxl
  have hrow : ∀ (i : Nat) (row : List C), xs[i]? = some row → row.length = sz := fun i row hi => (hxr.elem.2.2.2 i row hi).1
  have hfl := flat_len hrow
  have hnew : ∀ (j : Nat) (c : C), xs.flatten[j]? = some c → ∃ v, news[j]? = some v ∧ CRep w G.S c v := by
    intro j c hj
    obtain ⟨i, k, row, rfl, hk, h1, h2⟩ := flat_get hrow hj
    exact hnrep i k row c h1 h2
  -- a row of its own, out of these cells
  have grow : ∀ (olds : List Value) (cap : Nat), olds.length = L * sz → (∀ (j : Nat) (c : C), cs[j]? = some c → ∃ v, olds[j]? = some v ∧ CRep w G.S c v) → L + xs.length ≤ cap →
      ∃ G1, Rel E G1 ((st.unown p).boxes2 (.l j') n (cs ++ xs.flatten)) a (w.drew.alloc (.cells (olds.toArray ++ news.toArray ++ Builtin.zeroCells ze.cells (cap - (L + xs.length))) e)) ∧
        G1.A (.l j') = (w.heap.size, 0) ∧ OwnAt (w.drew.alloc (.cells (olds.toArray ++ news.toArray ++ Builtin.zeroCells ze.cells (cap - (L + xs.length))) e)) G1 p sz (.slice (some ⟨w.heap.size, 0, none⟩) (L + xs.length) cap) := by
    intro olds cap hol horep hge
    obtain ⟨G1, q1, q2, q3⟩ := hr.newMs p hfr (e := e) (sz := sz) (len := L + xs.length) (cap := cap) (cs := cs ++ xs.flatten) (cells := olds.toArray ++ news.toArray ++ Builtin.zeroCells ze.cells (cap - (L + xs.length))) hge
      (by simp only [Array.size_append, List.size_toArray, size_zeroCells, hzec, hnl, hol, ← Nat.add_mul]; congr 1; omega) (by rw [List.length_append, hcl, hfl, Nat.add_mul]) (fun j c hj => by
        rw [List.getElem?_append] at hj
        split at hj
        · obtain ⟨v, h1, h2⟩ := horep j c hj
          have hlt := (List.getElem?_eq_some_iff.1 h1).1
          refine ⟨v, ?_, h2⟩
          rw [Array.getElem?_append_left (by simp; omega), Array.getElem?_append_left (by simpa using hlt)]
          simpa using h1
        · rename_i hge2
          obtain ⟨v, h1, h2⟩ := hnew _ c hj
          have hlt := (List.getElem?_eq_some_iff.1 h1).1
          refine ⟨v, ?_, h2⟩
          rw [Array.getElem?_append_left (by simp; omega), Array.getElem?_append_right (by simp; omega)]
          have : j - olds.toArray.size = j - cs.length := by simp [hol, hcl]
          rw [this]
          simpa using h1)
    refine ⟨G1, ?_, q2, q3⟩
    by_cases hnn : n = .l j'
    · refine Rel.sub (st := (st.unown p).addBox (.l j') (cs ++ xs.flatten)) (st' := (st.unown p).boxes2 (.l j') n (cs ++ xs.flatten)) ⟨fun k e hk => hk, fun m ds hm => ?_, fun q s hq => ?_⟩ q1
      · rw [St.boxes2_box] at hm
        have hb : ((st.unown p).addBox (.l j') (cs ++ xs.flatten)).box m = if Nm.l j' = m then some (cs ++ xs.flatten) else ((st.unown p).drop (.l j')).box m := getB_cons _ _ _ _
        rw [hb]
        split at hm
        · rename_i he; rw [if_pos he]; exact hm
        · rename_i he
          rw [hnn, if_neg he] at hm
          rw [if_neg he, St.drop_box, if_neg (fun e => he e.symm)]; exact hm
      · show ((st.unown p).drop (.l j')).own q = _
        rw [St.drop_own]
        have hq' : (st.unown p).own q = some s := hq
        have hq2 := hq'
        rw [St.unown_own] at hq2
        split at hq2
        · simp at hq2
        · rw [if_neg (by rw [hfr.2 _ _ hq2]; simp)]; exact hq'
    · refine Rel.sub (st := { (st.unown p).addBox (.l j') (cs ++ xs.flatten) with bx := (n, []) :: ((st.unown p).addBox (.l j') (cs ++ xs.flatten)).bx }) (st' := (st.unown p).boxes2 (.l j') n (cs ++ xs.flatten)) ⟨fun k e hk => hk, fun m ds hm => ?_, fun q s hq => ?_⟩ (q1.emptyBox n)
      · rw [St.boxes2_box] at hm
        show getB ((n, []) :: (Nm.l j', cs ++ xs.flatten) :: _) m = _
        rw [getB_cons, getB_cons]
        split at hm
        · rename_i he
          subst he
          rw [if_neg hnn, if_pos rfl]; exact hm
        · rename_i he
          split at hm
          · rename_i he2; rw [if_pos he2]; exact hm
          · rename_i he2
            rw [if_neg he2, if_neg he]
            show ((st.unown p).drop (.l j')).box m = _
            rw [St.drop_box, if_neg (fun e => he e.symm)]; exact hm
      · show ((st.unown p).drop (.l j')).own q = _
        rw [St.drop_own]
        have hq' : (st.unown p).own q = some s := hq
        have hq2 := hq'
        rw [St.unown_own] at hq2
        split at hq2
        · simp at hq2
        · rw [if_neg (by rw [hfr.2 _ _ hq2]; simp)]; exact hq'
  rcases hv with ⟨hvn, hL, hcs⟩ | ⟨blk, cap, hvs, hbox⟩
  · subst hvn; subst hL; subst hcs
    have hrun := run_append_nil (P := Z.P) w t ty e jf ze hu hinfo hze ⟨xb, xo, none⟩ xs.length mc news (by rw [hnl, hsz]) hncell (by omega) (by omega) (by rw [hby]; simp only [Nat.zero_add] at hbig; omega)
    have hge := grownCap_ge w xs.length 0 e
    obtain ⟨G1, q1, q2, q3⟩ := grow [] (grownCap w xs.length 0 e) (by simp) (fun j c hj => by simp at hj) (by omega)
    rw [Nat.zero_add] at q1 q3 ⊢
    refine ⟨G1, _, _, _, by rw [hxv]; exact hrun, by simpa using q1, ?_, hge, by simpa using q3⟩
    rw [q2]
  · subst hvs
    rcases hown with ha0 | ⟨blk2, len2, cap2, e2, hv2, hlc2, hshape, hspare⟩
    · simp at ha0
    simp only [Value.slice.injEq, Option.some.injEq, Addr.mk.injEq] at hv2
    obtain ⟨⟨rfl, _⟩, rfl, rfl⟩ := hv2
    by_cases hroom : L + xs.length ≤ cap
    · have hfit : (L + xs.length) * sz ≤ cap * sz := Nat.mul_le_mul_right _ hroom
      rw [Nat.add_mul] at hfit
      have hsome : ∀ j, j < news.length → (w.cell? ⟨blk, L * sz + j, none⟩).isSome = true := by
        intro j hj
        unfold World.shape? at hshape
        unfold World.cell?
        split at hshape
        · rename_i c e3 fz hheap
          simp only [Option.some.injEq, Prod.mk.injEq] at hshape
          obtain ⟨_, hcs⟩ := hshape
          simp only [hheap]
          simp
          omega
        · simp at hshape
      have hst := run_storeCells_cells (P := Z.P) blk (L * sz) news 0 w (by simpa using hsome) (fun j hj => by
        simpa using (hspare (L * sz + j) (by omega) (by omega)).2) hnone
      rw [Nat.add_zero] at hst
      obtain ⟨f1, f2, f3, f4, f5, f6, f7, f8, f9⟩ := setCells_facts blk news (L * sz) w hsome
      have hrun : (Builtin.append_ #[t, t] ty #[.slice (some ⟨blk, 0, none⟩) L cap, .slice (some ⟨xb, xo, none⟩) xs.length mc]).run Z.P w = .ok (.slice (some ⟨blk, 0, none⟩) (L + xs.length) cap) (w.setCells blk (L * sz) news) := by
        have hf := run_firstCells_some (P := Z.P) w sz xs.length ⟨xb, xo, none⟩ xs.length mc news hnl hncell
        simp [Builtin.append_, run_underlying hu, sizeOf, typeInfo, hinfo, hsz, Builtin.lenOf, hroom, hf, addr_add, hst]
      have hF : ∀ o, o < (L + xs.length) * sz → G.W blk o = .box n ∨ G.W blk o = .own p := by
        intro o ho
        rw [Nat.add_mul] at ho
        by_cases hol : o < L * sz
        · exact .inl (hbox o _ (List.getElem?_eq_getElem (by omega))).1
        · exact .inr (hspare o (by omega) (by omega)).1
      have hrange : ∀ b o, ¬ (b = blk ∧ o < (L + xs.length) * sz ∧ G.W b o = .own p) → ¬ (b = blk ∧ L * sz ≤ o ∧ o < L * sz + news.length) := by
        rintro b o hn ⟨rfl, h1, h2⟩
        exact hn ⟨rfl, by rw [Nat.add_mul]; omega, (hspare o h1 (by omega)).1⟩
      have hrel := hr.intoBox (n' := .l j') (n := n) (p := p) (blk := blk) (L := (L + xs.length) * sz) (cs := cs ++ xs.flatten) (w1 := w.setCells blk (L * sz) news) (fun j => by simp) hnlo hfr hfo hF f1 f2 f3 f4 (fun b hb => by
          by_cases hbb : b = blk
          · subst hbb
            by_cases hz : news.length = 0
            · have hn0 : news = [] := List.eq_nil_of_length_eq_zero hz
              rw [hn0]; rfl
            · exact absurd ⟨rfl, Nat.le_refl _, by omega⟩ (hrange b (L * sz) (hb (L * sz)))
          · exact f5 b hbb) (fun b o hb => f6 b o (hrange b o hb)) f8 f9 (fun j c hj => by
            rw [List.getElem?_append] at hj
            split at hj
            · rename_i hlt
              obtain ⟨q1, q2, v, q3, q4⟩ := hbox j c hj
              refine ⟨by rw [Nat.add_mul]; omega, q2, v, ?_, q4⟩
              rw [f6 blk j (by rintro ⟨_, h1, _⟩; omega)]; exact q3
            · rename_i hge
              obtain ⟨v, h1, h2⟩ := hnew _ c hj
              have hlt := (List.getElem?_eq_some_iff.1 h1).1
              have hj2 : j = L * sz + (j - cs.length) := by omega
              refine ⟨by rw [Nat.add_mul]; omega, (hspare j (by omega) (by omega)).2, v, ?_, h2⟩
              rw [hj2]; exact f7 _ v h1)
      refine ⟨_, _, _, _, by rw [hxv]; exact hrun, hrel, ?_, hroom, .inr ⟨blk, L + xs.length, cap, e2, rfl, hroom, by rw [f9]; exact hshape, fun o' h1 h2 => ?_⟩⟩
      · dsimp only; rw [if_pos rfl]
      · have h1' := h1
        rw [Nat.add_mul] at h1
        obtain ⟨q5, q6⟩ := hspare o' (by omega) h2
        refine ⟨?_, by rw [f8]; exact q6⟩
        dsimp only
        rw [if_neg (by rintro ⟨_, h3⟩; omega)]
        exact q5
    · obtain ⟨olds, hol, hor⟩ := vals_of (R := fun j v => w.cell? ⟨blk, j, none⟩ = some v ∧ ∃ c, cs[j]? = some c ∧ CRep w G.S c v) (L * sz) fun j hj => by
        have hc := List.getElem?_eq_getElem (l := cs) (i := j) (by omega)
        obtain ⟨_, _, v, q3, q4⟩ := hbox j _ hc
        exact ⟨v, q3, _, hc, q4⟩
      have hrun := run_append_grow (P := Z.P) w t ty e jf ze hu hinfo hze ⟨blk, 0, none⟩ L cap olds (by rw [hol, hsz]) (fun j v hj => by rw [addr_add, Nat.zero_add]; exact (hor j v hj).1) ⟨xb, xo, none⟩ xs.length mc news (by rw [hnl, hsz]) hncell (by omega) (by omega) (growslice_fits (by omega) (by rw [hby]; exact hbig))
      have hge := grownCap_ge w (L + xs.length) cap e
      obtain ⟨G1, q1, q2, q3⟩ := grow olds (grownCap w (L + xs.length) cap e) hol (fun j c hj => by
        have hlt := (List.getElem?_eq_some_iff.1 hj).1
        have hv := List.getElem?_eq_getElem (l := olds) (i := j) (by omega)
        obtain ⟨_, c', h1, h2⟩ := hor j _ hv
        rw [hj] at h1; simp only [Option.some.injEq] at h1; subst h1
        exact ⟨_, hv, h2⟩) hge
      refine ⟨G1, _, _, _, by rw [hxv]; exact hrun, q1, ?_, hge, q3⟩
      rw [q2]

section
variable {N : Nat} {st : St} {ty : TypeId}
def St.msApp (st : St) (d k j' : Nat) (n : Nm) (sz L : Nat) (cs : List C) : St := (((st.unown (.t k)).boxes2 (.l j') n cs).put d (true, .v (.ms (.l j') sz 0 L))).addOwn (.t d) sz

theorem does_msApp {d k j' : Nat} {x : Operand} {t : TypeId} {sz e by' L : Nat} {n : Nm} {cs : List C} {xs : List (List C)} {ti : TyI} {y : Y} (hs : st.get k = some (true, .v y)) (hw : st.own (.t k) = some sz)
    (hx : lk Z.T st t x = some (true, .v (.c (.sl sz xs)))) (ht : tyAt Z.T t = some ti) (hel : ti.el = some (e, sz, by')) (hN : Nat.ble (d + 1) N = true) (hkd : Nat.beq k d = false)
    (hnl : ∀ j, n ≠ .o j) (hfr : FreshG st (.l j', true)) (hfo : FreshG st (n, false)) (hcl : cs.length = L * sz) (hx1 : 1 ≤ xs.length) (hbig : (L + xs.length) * by' ≤ 140737488355328) (hmax : L + xs.length ≤ 9223372036854775807)
    (hy : ∀ (E : Env) (G : Gh) (a : Act) (w : World) (v' : Value), Rel E G st a w → YRep w G y v' → OwnAt w G (.t k) sz v' → (v' = .slice none 0 0 ∧ L = 0 ∧ cs = []) ∨ ∃ blk cap, v' = .slice (some ⟨blk, 0, none⟩) L cap ∧ ∀ (j : Nat) (c : C), cs[j]? = some c → G.W blk j = .box n ∧ w.frozen? ⟨blk, j, none⟩ = false ∧ ∃ v, w.cell? ⟨blk, j, none⟩ = some v ∧ CRep w G.S c v) :
    Does Z N st (some d) (.call { callee := .builtin .append, args := #[.tmp k, x], argTypes := #[t, t] }) ty (st.msApp d k j' n sz (L + xs.length) (cs ++ xs.flatten)) := by
  intro o E G a w hd ho _ hr hE K Q hK
  have hdN : d < E.nt := by rw [hE]; exact Nat.le_of_ble_eq_true hN
  have hkd' : ¬ d = k := fun e => by subst e; simp at hkd
  obtain ⟨hu, jf, ze, hinfo, hsz, hby, hsz0, hze, hzec⟩ := (Z.tyOk ht).sl e sz by' hel
  obtain ⟨v, hv, hv1, _⟩ := hr.tm k true _ hs
  obtain ⟨v', hv', hown⟩ := hr.ow _ _ hw
  have : v' = v := by
    have hv2 : a.tmps[k]? = some v' := hv'
    rw [hv] at hv2; simpa using hv2.symm
  subst this
  have hxr : CRep w G.S (.sl sz xs) (a.eval x) := lk_rep hr hx rfl
  have hev : a.eval (.tmp k) = v' := by simp [Act.eval, Array.getD_eq_getD_getElem?, hv]
  have hexec : (execOp a.eval o).run Z.P w = ((Builtin.append_ #[t, t] o.type #[v', a.eval x]).run Z.P w).andThen fun u w' => .ok (.value u) w' := by
    simp [execOp, ho, Go.resolve, invoke, builtin, hev]
  obtain ⟨G1, w1, u, cap', hrun, hrel, hu1, hcap, ho'⟩ := append_ms hr (p := .t k) (ty := o.type) hu hinfo hsz hby hsz0 hze hzec hown hnl hfr hfo (hy E G a w v' hr (hv1 rfl) hown) hcl hxr hx1 hbig hmax
  unfold Oper.wp
  rw [hexec, hrun]
  simp only [Result.andThen_ok]
  rw [Oper.upon_value, hd]
  have hput := hrel.put hdN (g := true) (x := .v (.ms (.l j') sz 0 (L + xs.length))) (v := u) (fun _ => .inr ⟨cap', hcap, hu1⟩) (fun hf => by simp at hf)
  have := hput.relabel (q := .t d) ho' (by rw [St.put_own, if_pos rfl]) (by
    show (a.put (some d) u).tmps[d]? = _
    rw [act_put_get (by rw [hr.nt]; exact hdN)]; simp)
  refine hK (G1.relabel (.t k) (.t d)) u w1 (Rel.sub (st := (((((st.unown (.t k)).boxes2 (.l j') n (cs ++ xs.flatten)).put d (true, .v (.ms (.l j') sz 0 (L + xs.length)))).unown (.t k)).addOwn (.t d) sz)) (st' := st.msApp d k j' n sz (L + xs.length) (cs ++ xs.flatten)) ⟨fun _ _ q => q, fun _ _ q => q, ?_⟩ this)
  intro r s hrs
  unfold St.msApp at hrs
  rw [St.addOwn_own] at hrs ⊢
  split at hrs
  · rename_i he; rw [if_pos he]; exact hrs
  · rename_i he
    rw [if_neg he, St.unown_own]
    split
    · rename_i hk
      subst hk
      rw [St.put_own, if_neg (by simp; exact fun e => hkd' e.symm)] at hrs
      have h2 : (st.unown (.t k)).own (.t k) = some s := hrs
      rw [St.unown_own, if_pos rfl] at h2
      simp at h2
    · exact hrs

theorem msApp_sub {s2 : St} {d k j' : Nat} {n : Nm} {sz L : Nat} {cs : List C} : Sub (ap { d := some (d, true, .v (.ms (.l j') sz 0 L)), b := some (.l j', cs), b2 := some (n, []), drop := [.t d, .t k], gain := some (.t d, sz) } s2) (s2.msApp d k j' n sz L cs) where
  t := fun j e hj => by
    rw [ap_get] at hj
    show (((s2.unown (.t k)).boxes2 (.l j') n cs).put d _).get j = _
    rw [St.put_get]
    simp only [Eff.gt] at hj
    by_cases h : d = j
    · subst h; simpa using hj
    · have h' : ¬ j = d := fun e => h e.symm
      rw [if_neg h']
      have hj' : s2.get j = some e := by simpa [h] using hj
      exact hj'
  bx := fun m ds hm => by
    rw [ap_box] at hm
    show ((s2.unown (.t k)).boxes2 (.l j') n cs).box m = _
    rw [St.boxes2_box]
    simp only [Eff.gb] at hm
    split
    · rename_i he; rw [if_pos he] at hm; exact hm
    · rename_i he
      rw [if_neg he] at hm
      split
      · rename_i h2; rw [if_pos h2] at hm; exact hm
      · rename_i h2; rw [if_neg h2] at hm; exact hm
  ow := fun p s hp => by
    rw [ap_own] at hp
    unfold St.msApp
    rw [St.addOwn_own]
    simp only [Eff.go, List.mem_cons, List.not_mem_nil, or_false] at hp
    split
    · rename_i he; rw [if_pos he] at hp; exact hp
    · rename_i he
      rw [if_neg he] at hp
      rw [St.put_own]
      split
      · rename_i h2; rw [if_pos (.inl h2)] at hp; exact hp
      · rename_i h2
        show (s2.unown (.t k)).own p = _
        rw [St.unown_own]
        split
        · rename_i h3; rw [if_pos (.inr h3)] at hp; exact hp
        · rename_i h3; rw [if_neg (by rintro (h | h) <;> contradiction)] at hp; exact hp

/-- What the slice that is appended to stands for: in a box. -/
theorem ms_hy {k L sz : Nat} {n : Nm} {cs : List C} {st : St} (hb : st.box n = some cs) (hcl : cs.length = L * sz) : ∀ (E : Env) (G : Gh) (a : Act) (w : World) (v' : Value), Rel E G st a w → YRep w G (.ms n sz 0 L) v' → OwnAt w G (.t k) sz v' →
    (v' = .slice none 0 0 ∧ L = 0 ∧ cs = []) ∨ ∃ blk cap, v' = .slice (some ⟨blk, 0, none⟩) L cap ∧ ∀ (j : Nat) (c : C), cs[j]? = some c → G.W blk j = .box n ∧ w.frozen? ⟨blk, j, none⟩ = false ∧ ∃ v, w.cell? ⟨blk, j, none⟩ = some v ∧ CRep w G.S c v := by
  intro E G a w v' hr hy ho
  rcases hy with ⟨rfl, rfl⟩ | ⟨cap, hcap, rfl⟩
  · exact .inl ⟨rfl, rfl, List.eq_nil_of_length_eq_zero (by rw [hcl, Nat.zero_mul])⟩
  rcases ho with ho | ⟨blk, len, cap2, e, hv, _⟩
  · simp at ho
  · simp only [Value.slice.injEq, Option.some.injEq, Addr.mk.injEq, Nat.add_zero] at hv
    obtain ⟨⟨h1, h2, _⟩, _⟩ := hv
    refine .inr ⟨(G.A n).1, cap, by simp [h2], fun j c hj => ?_⟩
    have := hr.bx n cs hb j c hj
    rw [h2, Nat.zero_add] at this
    exact this
/-- .. or it is empty yet. -/
theorem nil_hy {k sz : Nat} {n : Nm} {st : St} : ∀ (E : Env) (G : Gh) (a : Act) (w : World) (v' : Value), Rel E G st a w → YRep w G (.c (.sl sz [])) v' → OwnAt w G (.t k) sz v' →
    (v' = .slice none 0 0 ∧ 0 = 0 ∧ ([] : List C) = []) ∨ ∃ blk cap, v' = .slice (some ⟨blk, 0, none⟩) 0 cap ∧ ∀ (j : Nat) (c : C), ([] : List C)[j]? = some c → G.W blk j = .box n ∧ w.frozen? ⟨blk, j, none⟩ = false ∧ ∃ v, w.cell? ⟨blk, j, none⟩ = some v ∧ CRep w G.S c v := by
  intro E G a w v' hr hy ho
  rcases ho with ho | ⟨blk, len, cap2, e, hv, _⟩
  · exact .inl ⟨ho, rfl, rfl⟩
  · subst hv
    have : len = 0 := by have := (CRep.elem hy).1; simpa using this.symm
    subst this
    exact .inr ⟨blk, cap2, rfl, fun j c hj => by simp at hj⟩

section
variable {s0 : St} {ops : Array Oper} {B : List Nat} {q : Nat} {rest : List Oper} {acc : List Lnk} {o : Oper} {Q : St → Prop} {d : Nat}
theorem dr_appendMs (j' : Nat) {k : Nat} {x : Operand} {t : TypeId} {sz e by' L m0 : Nat} {cs : List C} {xs : List (List C)} {ti : TyI} (hk : ops[q]? = some o) (ho : o.op = .call { callee := .builtin .append, args := #[.tmp k, x], argTypes := #[t, t] }) (hg : gateOf ops (rs (foot ops o [] [.t k]) st) o = some true) (hd : o.dst = some d)
    (hs0 : st.get k = some (true, .v (.ms (.l m0) sz 0 L))) (hs : (rs (foot ops o [.l m0] [.t k]) st).get k = some (true, .v (.ms (.l m0) sz 0 L))) (hw : (rs (foot ops o [.l m0] [.t k]) st).own (.t k) = some sz) (hb : (rs (foot ops o [.l m0] [.t k]) st).box (.l m0) = some cs) (hx : lk Z.T (rs (foot ops o [.l m0] [.t k]) st) t x = some (true, .v (.c (.sl sz xs))))
    (ht : tyAt Z.T t = some ti) (hel : ti.el = some (e, sz, by')) (hN : Nat.ble (d + 1) N = true) (hkd : Nat.beq k d = false) (hf1 : s0.freshO (.l j', true) = true) (hf2 : s0.freshO (.l m0, false) = true) (hcl : cs.length = L * sz) (hx1 : 1 ≤ xs.length) (hbig : (L + xs.length) * by' ≤ 140737488355328) (hmax : L + xs.length ≤ 9223372036854775807)
    (hr : Draw Z N s0 ops B (q + 1) rest (acc ++ [(q, { d := some (d, true, .v (.ms (.l j') sz 0 (L + xs.length))), b := some (.l j', cs ++ xs.flatten), b2 := some (.l m0, []), drop := [.t d, .t k], gain := some (.t d, sz) }, { foot ops o [.l m0] [.t k] with rn := [(.l j', true), (.l m0, false)] })])
      (ap { d := some (d, true, .v (.ms (.l j') sz 0 (L + xs.length))), b := some (.l j', cs ++ xs.flatten), b2 := some (.l m0, []), drop := [.t d, .t k], gain := some (.t d, sz) } st) Q) : Draw Z N s0 ops B q (o :: rest) acc st Q := by
  refine dr_cons hk (R := { foot ops o [.l m0] [.t k] with rn := [(.l j', true), (.l m0, false)] }) ?_ hr (by
    intro m hm
    simp only [List.mem_cons, List.not_mem_nil, or_false] at hm
    rcases hm with rfl | rfl
    · exact hf1
    · exact hf2)
  intro s2 hag hfr
  have hsub : Sub (rs (foot ops o [.l m0] [.t k]) st) s2 := hag.sub
  refine (op1_do (gateOf_sub (s := rs (foot ops o [] [.t k]) st) ⟨fun j e h => hsub.t j e h, fun m cs h => by simp [rs, foot, pickB, St.box, getB] at h, fun p s h => hsub.ow p s h⟩ hg) (by
    rw [hd, ho]
    exact does_msApp (hsub.t _ _ hs) (hsub.ow _ _ hw) (lk_sub hsub hx) ht hel hN hkd (fun j => by simp) (hfr _ (by simp)) (hfr _ (by simp)) hcl hx1 hbig hmax (ms_hy (hsub.bx _ _ hb) hcl))).sub msApp_sub
theorem dr_appendMsNil (j' : Nat) {k : Nat} {x : Operand} {t : TypeId} {sz e by' : Nat} {xs : List (List C)} {ti : TyI} (hk : ops[q]? = some o) (ho : o.op = .call { callee := .builtin .append, args := #[.tmp k, x], argTypes := #[t, t] }) (hg : gateOf ops (rs (foot ops o [] [.t k]) st) o = some true) (hd : o.dst = some d)
    (hs : (rs (foot ops o [] [.t k]) st).get k = some (true, .v (.c (.sl sz [])))) (hw : (rs (foot ops o [] [.t k]) st).own (.t k) = some sz) (hx : lk Z.T (rs (foot ops o [] [.t k]) st) t x = some (true, .v (.c (.sl sz xs))))
    (ht : tyAt Z.T t = some ti) (hel : ti.el = some (e, sz, by')) (hN : Nat.ble (d + 1) N = true) (hkd : Nat.beq k d = false) (hf1 : s0.freshO (.l j', true) = true) (hx1 : 1 ≤ xs.length) (hbig : (0 + xs.length) * by' ≤ 140737488355328) (hmax : 0 + xs.length ≤ 9223372036854775807)
    (hr : Draw Z N s0 ops B (q + 1) rest (acc ++ [(q, { d := some (d, true, .v (.ms (.l j') sz 0 (0 + xs.length))), b := some (.l j', [] ++ xs.flatten), b2 := some (.l j', []), drop := [.t d, .t k], gain := some (.t d, sz) }, { foot ops o [] [.t k] with rn := [(.l j', true)] })])
      (ap { d := some (d, true, .v (.ms (.l j') sz 0 (0 + xs.length))), b := some (.l j', [] ++ xs.flatten), b2 := some (.l j', []), drop := [.t d, .t k], gain := some (.t d, sz) } st) Q) : Draw Z N s0 ops B q (o :: rest) acc st Q := by
  refine dr_cons hk (R := { foot ops o [] [.t k] with rn := [(.l j', true)] }) ?_ hr (by
    intro m hm
    simp only [List.mem_cons, List.not_mem_nil, or_false] at hm
    subst hm
    exact hf1)
  intro s2 hag hfr
  have hsub : Sub (rs (foot ops o [] [.t k]) st) s2 := hag.sub
  have hfr' := hfr (.l j', true) (by simp)
  refine (op1_do (gateOf_sub hsub hg) (by
    rw [hd, ho]
    exact does_msApp (n := .l j') (cs := []) (L := 0) (hsub.t _ _ hs) (hsub.ow _ _ hw) (lk_sub hsub hx) ht hel hN hkd (fun j => by simp) hfr' ⟨fun h => by simp at h, hfr'.2⟩ (by simp) hx1 hbig hmax nil_hy)).sub msApp_sub
end

/-- The length of such a slice. -/
theorem pure_lenMs {x : Operand} {t : TypeId} {g gate : Bool} {n : Nm} {sz off L : Nat} {ti : TyI} {el : Nat × Nat × Nat} (h : lk Z.T st ty x = some (g, .v (.ms n sz off L))) (hg : gate = true → g = true)
    (ht : tyAt Z.T t = some ti) (hel : ti.el = some el) : PureOk Z st (.call { callee := .builtin .len, args := #[x], argTypes := #[t] }) ty gate (.v (.c (.i .i64 (L : Int)))) := by
  intro o E G a w ho _ hr hgt
  obtain ⟨e, s, by'⟩ := el
  have hu := ((Z.tyOk ht).sl e s by' hel).1
  refine ⟨.int .i64 L, CRep.i _ _, ?_⟩
  rcases lk_rep hr h (hg hgt) with ⟨rfl, h2⟩ | ⟨cap, _, h2⟩
  · simp [execOp, ho, h2, Go.resolve, invoke, builtin, Builtin.len_, underlying, hu, goInt]
  · simp [execOp, ho, h2, Go.resolve, invoke, builtin, Builtin.len_, underlying, hu, goInt]
/-- The address of an element: in the box. -/
theorem pure_indexMs {x i : Operand} {t : TypeId} {g gi gate : Bool} {n : Nm} {sz off L : Nat} {k : IntKind} {m : Int} {j : Nat} {ti : TyI} {e by' : Nat} (h : lk Z.T st ty x = some (g, .v (.ms n sz off L))) (hi : lk Z.T st ty i = some (gi, .v (.c (.i k m))))
    (hg : gate = true → g = true) (hgi : gate = true → gi = true) (ht : tyAt Z.T t = some ti) (hel : ti.el = some (e, sz, by')) (hn : m = (j : Int)) (hj : gate = true → j < L) : PureOk Z st (.indexAddr t x i) ty gate (.v (.ptr n (off + j * sz))) := by
  intro o E G a w ho _ hr hgt
  have hj := hj hgt
  rcases lk_rep hr h (hg hgt) with ⟨rfl, h1⟩ | ⟨cap, _, h1⟩
  · omega
  have h2 := XRep.int (lk_rep hr hi (hgi hgt))
  subst hn
  obtain ⟨hu, jf, ze, hinfo, hsz, _, _, _, _⟩ := (Z.tyOk ht).sl e sz by' hel
  refine ⟨.pointer (some ⟨(G.A n).1, (G.A n).2 + (off + j * sz), none⟩), rfl, ?_⟩
  simp [execOp, ho, h1, h2, Instr.indexAt, asIntOf, underlying, hu, hj, sizeOf, typeInfo, hinfo, hsz, addr_add, Nat.add_assoc]
end
end Go.Abs
