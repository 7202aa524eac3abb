/- A box whose cells are written no more: the slice over it is a value. -/
import Derived.Test.YtginljdgdllhfaaAbs21
set_option linter.unusedVariables false
set_option linter.unusedSimpArgs false
namespace Go.Abs
variable {Z : Pg}

/-- 'st' behind the freezing of the box 'l m', over which slot 'k' holds a slice of rows. -/
def St.frz (st : St) (k m sz : Nat) (es : List (List C)) : St := { st with t := (k, true, .v (.c (.sl sz es))) :: st.t, bx := (.l m, []) :: st.bx }
open Classical in
/-- The cells of a box are written no more. -/
noncomputable def Gh.frz (G : Gh) (n : Nm) : Gh := { G with W := fun b o => if G.W b o = .box n then .imm else G.W b o }

theorem flat_at {sz : Nat} : ∀ {xs : List (List C)} {i j : Nat} {row : List C} {c : C}, (∀ (i : Nat) (row : List C), xs[i]? = some row → row.length = sz) → xs[i]? = some row → row[j]? = some c → xs.flatten[i * sz + j]? = some c
  | [], i, j, row, c, _, h, _ => by simp at h
  | x :: xs, 0, j, row, c, hr, h, hc => by
    simp only [List.getElem?_cons_zero, Option.some.injEq] at h
    subst h
    have hj := (List.getElem?_eq_some_iff.1 hc).1
    rw [List.flatten_cons, Nat.zero_mul, Nat.zero_add, List.getElem?_append_left hj, hc]
  | x :: xs, i + 1, j, row, c, hr, h, hc => by
    have hx := hr 0 x rfl
    rw [List.flatten_cons, List.getElem?_append_right (by rw [hx, Nat.add_mul]; omega)]
    have := flat_at (xs := xs) (i := i) (fun i row hi => hr (i + 1) row (by simpa using hi)) (by simpa using h) hc
    rw [← this]
    congr 1
    rw [hx, Nat.add_mul]; omega

theorem Gh.frz_S {G : Gh} {n : Nm} {b o : Nat} (h : G.S b o) : (G.frz n).S b o := by
  unfold Gh.S Gh.frz at *
  dsimp only
  rw [if_neg (by rw [h]; simp)]
  exact h

theorem Rel.freeze {E : Env} {G : Gh} {st : St} {a : Act} {w : World} (h : Rel E G st a w) {k m sz L : Nat} {es : List (List C)} (hs : st.get k = some (true, .v (.ms (.l m) sz 0 L)))
    (hb : st.box (.l m) = some es.flatten) (hL : es.length = L) (hm : L ≤ 9223372036854775807) (hrow : ∀ (i : Nat) (row : List C), es[i]? = some row → row.length = sz) (hfo : FreshG st (.l m, false)) :
    Rel E (G.frz (.l m)) (st.frz k m sz es) a w := by
  have hmono : ∀ {y : C} {v : Value}, CRep w G.S y v → CRep w (G.frz (.l m)).S y v := fun hc => hc.mono (fun _ _ => Gh.frz_S) (fun _ _ _ => rfl)
  have hbox := h.bx _ _ hb
  have hne : ∀ {b o : Nat} {x : Who}, G.W b o = x → x ≠ .box (.l m) → (G.frz (.l m)).W b o = x := fun {b o x} e hx => by
    unfold Gh.frz; dsimp only; rw [if_neg (by rw [e]; exact hx)]; exact e
  constructor
  · exact h.df
  · intro j g x hj
    have hj2 : getT ((k, true, .v (.c (.sl sz es))) :: st.t) j = some (g, x) := hj
    rw [getT_cons] at hj2
    split at hj2
    · rename_i he; subst he
      simp only [Option.some.injEq, Prod.mk.injEq] at hj2
      obtain ⟨rfl, rfl⟩ := hj2
      obtain ⟨v, hv, hv1, _⟩ := h.tm _ _ _ hs
      refine ⟨v, hv, fun _ => ?_, fun hg => by simp at hg⟩
      rcases hv1 rfl with ⟨rfl, rfl⟩ | ⟨cap, hc, rfl⟩
      · rw [List.eq_nil_of_length_eq_zero hL]; exact CRep.nil sz
      refine CRep.mk_sl hL hc hm fun i row hi => ⟨hrow i row hi, fun j' c hj' => ?_⟩
      obtain ⟨q1, q2, v, q3, q4⟩ := hbox _ c (flat_at hrow hi hj')
      rw [Nat.add_zero, Nat.add_assoc]
      refine ⟨?_, v, q3, hmono q4⟩
      unfold Gh.S Gh.frz; dsimp only; rw [if_pos q1]
    · obtain ⟨u, hu, q1, q2⟩ := h.tm j g x hj2
      exact ⟨u, hu, fun hg => (q1 hg).mono (fun _ _ => Gh.frz_S) (fun _ _ _ => rfl) (fun _ _ => rfl), q2⟩
  · intro n ds hn j c hj
    have hn2 : getB ((.l m, []) :: st.bx) n = some ds := hn
    rw [getB_cons] at hn2
    split at hn2
    · simp only [Option.some.injEq] at hn2; subst hn2; simp at hj
    · rename_i hx
      obtain ⟨q1, q2, v, q3, q4⟩ := h.bx n ds hn2 j c hj
      exact ⟨hne q1 (by intro e; injection e with e; exact hx e.symm), q2, v, q3, hmono q4⟩
  · intro p s hp
    have hp2 : st.own p = some s := hp
    obtain ⟨u, hu, ho⟩ := h.ow p s hp2
    refine ⟨u, ?_, ?_⟩
    · cases p with
      | t k' => exact hu
      | b n off =>
        refine ⟨hu.1, hne hu.2 ?_⟩
        intro e; injection e with e
        have := hfo.2 _ _ hp2
        subst e; simp [Pl.inBox, Nm.beq_self] at this
    · rcases ho with ho | ⟨b2, len, cap, e, q1, q2, q3, q4⟩
      · exact .inl ho
      · exact .inr ⟨b2, len, cap, e, q1, q2, q3, fun o h1 h2 => ⟨hne (q4 o h1 h2).1 (by simp), (q4 o h1 h2).2⟩⟩
  · intro b o hw
    refine h.wf b o fun e => hw (hne e (by simp))
  · intro b o n hb' hn
    unfold Gh.frz at hn; dsimp only at hn
    split at hn
    · simp at hn
    · exact h.olB b o n hb' hn
  · intro b o p hb' hn
    unfold Gh.frz at hn; dsimp only at hn
    split at hn
    · simp at hn
    · exact h.olO b o p hb' hn
  · exact h.nt
  · exact h.oA
  · intro b o hi
    exact hne (h.im b o hi) (by simp)
  · intro b o hb' hi
    unfold Gh.frz at hi; dsimp only at hi
    split at hi
    · rename_i e
      exact absurd e ((h.lo b o hb').1 m)
    · exact h.im' b o hb' hi
  · exact h.fr
  · exact h.hB
  · intro b o hb'
    unfold Gh.frz; dsimp only
    split
    · simp
    · exact h.lo b o hb'

theorem awp_freeze {N : Nat} {c : Code} {Q : Exit → St → Prop} {st : St} (k m : Nat) {sz L : Nat} (es : List (List C)) (hs : st.get k = some (true, .v (.ms (.l m) sz 0 L)))
    (hb : st.box (.l m) = some es.flatten) (hL : es.length = L) (hm : L ≤ 9223372036854775807) (hrow : ∀ (i : Nat) (row : List C), es[i]? = some row → row.length = sz) (hfo : st.freshO (.l m, false) = true)
    (h : AWP Z N c Q (st.frz k m sz es)) : AWP Z N c Q st :=
  fun E G a w hr hE => h E _ a w (hr.freeze hs hb hL hm hrow (St.freshO_ok hfo)) hE
theorem al_freeze {N : Nat} {ops : Array Oper} {rest : List Oper} {K : St → Prop} {st : St} (k m : Nat) {sz L : Nat} (es : List (List C)) (hs : st.get k = some (true, .v (.ms (.l m) sz 0 L)))
    (hb : st.box (.l m) = some es.flatten) (hL : es.length = L) (hm : L ≤ 9223372036854775807) (hrow : ∀ (i : Nat) (row : List C), es[i]? = some row → row.length = sz) (hfo : st.freshO (.l m, false) = true)
    (h : AL Z N ops rest K (st.frz k m sz es)) : AL Z N ops rest K st :=
  fun E G a w hr hE => h E _ a w (hr.freeze hs hb hL hm hrow (St.freshO_ok hfo)) hE

/-! ### An owned empty slice as a slice over a box, and another name for a box -/
def St.thw (st : St) (k m sz : Nat) : St := { st with t := (k, true, .v (.ms (.l m) sz 0 0)) :: st.t, bx := (.l m, []) :: st.bx }

theorem Rel.thaw {E : Env} {G : Gh} {st : St} {a : Act} {w : World} (h : Rel E G st a w) {k m sz : Nat} (hs : st.get k = some (true, .v (.c (.sl sz [])))) (hw : st.own (.t k) = some sz) (hfr : FreshG st (.l m, true)) :
    ∃ G', Rel E G' (st.thw k m sz) a w := by
  obtain ⟨v, hv, hv1, _⟩ := h.tm _ _ _ hs
  obtain ⟨v', hv', ho⟩ := h.ow _ _ hw
  have : v' = v := by have h1 : a.tmps[k]? = some v' := hv'; rw [hv] at h1; exact (Option.some.inj h1).symm
  subst this
  have hx : CRep w G.S (.sl sz []) v' := hv1 rfl
  obtain ⟨A, hA⟩ : ∃ A : Nat × Nat, v' = .slice none 0 0 ∨ ∃ cap, v' = .slice (some ⟨A.1, A.2 + 0, none⟩) 0 cap := by
    rcases ho with rfl | ⟨blk, len, cap, e, rfl, _⟩
    · exact ⟨(0, 0), .inl rfl⟩
    · have : len = 0 := by have := (CRep.elem hx).1; simpa using this.symm
      subst this
      exact ⟨(blk, 0), .inr ⟨cap, rfl⟩⟩
  refine ⟨{ W := G.W, A := fun n => if n = .l m then A else G.A n }, ?_⟩
  have hy : ∀ {y : X} {u : Value}, y.has (.l m) = false → XRep w G y u → XRep w { W := G.W, A := fun n => if n = .l m then A else G.A n } y u := fun {y u} hy hu =>
    XRep.mono (G := G) (G' := { W := G.W, A := fun n => if n = .l m then A else G.A n }) (fun _ _ e => e) (fun _ _ _ => rfl) (fun n hn => by
      have : ¬ n = .l m := fun e => by subst e; rw [hy] at hn; simp at hn
      dsimp only; rw [if_neg this]) hu
  constructor
  · exact h.df
  · intro j g x hj
    have hj2 : getT ((k, true, .v (.ms (.l m) sz 0 0)) :: st.t) j = some (g, x) := hj
    rw [getT_cons] at hj2
    split at hj2
    · rename_i he; subst he
      simp only [Option.some.injEq, Prod.mk.injEq] at hj2
      obtain ⟨rfl, rfl⟩ := hj2
      refine ⟨v', hv, fun _ => ?_, fun hg => by simp at hg⟩
      rcases hA with e | ⟨cap, e⟩
      · exact .inl ⟨rfl, e⟩
      · exact .inr ⟨cap, Nat.zero_le _, by dsimp only; rw [if_pos rfl]; exact e⟩
    · obtain ⟨u, hu, q1, q2⟩ := h.tm j g x hj2
      exact ⟨u, hu, fun hg => hy (hfr.1 rfl j g x hj2) (q1 hg), q2⟩
  · intro n ds hn j c hj
    have hn2 : getB ((.l m, []) :: st.bx) n = some ds := hn
    rw [getB_cons] at hn2
    split at hn2
    · simp only [Option.some.injEq] at hn2; subst hn2; simp at hj
    · rename_i hx2
      have : ¬ n = .l m := fun e => hx2 e.symm
      dsimp only; rw [if_neg this]
      exact h.bx n ds hn2 j c hj
  · intro p s hp
    have hp2 : st.own p = some s := hp
    obtain ⟨u, hu, ho⟩ := h.ow p s hp2
    refine ⟨u, ?_, ho⟩
    cases p with
    | t k' => exact hu
    | b n off =>
      have : ¬ n = .l m := fun e => by
        have := hfr.2 _ _ hp2
        subst e; simp [Pl.inBox, Nm.beq_self] at this
      show w.cell? _ = _ ∧ G.W _ _ = _
      dsimp only; rw [if_neg this]
      exact hu
  · exact h.wf
  · exact h.olB
  · exact h.olO
  · exact h.nt
  · intro j
    dsimp only
    rw [if_neg (by simp)]
    exact h.oA j
  · exact h.im
  · exact h.im'
  · exact h.fr
  · exact h.hB
  · exact h.lo

theorem awp_thaw {N : Nat} {c : Code} {Q : Exit → St → Prop} {st : St} (k m : Nat) {sz : Nat} (hs : st.get k = some (true, .v (.c (.sl sz [])))) (hw : st.own (.t k) = some sz) (hfr : st.freshO (.l m, true) = true)
    (h : AWP Z N c Q (st.thw k m sz)) : AWP Z N c Q st := fun E G a w hr hE => by
  obtain ⟨G', h'⟩ := hr.thaw hs hw (St.freshO_ok hfr)
  exact h E G' a w h' hE

def St.ren (st : St) (k m m' sz L : Nat) (cs : List C) : St :=
  { t := (k, true, .v (.ms (.l m') sz 0 L)) :: st.t.filter (fun q => !Nat.beq q.1 k), bx := (.l m', cs) :: st.bx.filter (fun q => !Nm.beq q.1 (.l m)), ow := st.ow }

theorem getT_filterNe (k : Nat) : ∀ (l : List (Nat × Bool × X)) (j : Nat), getT (l.filter fun q => !Nat.beq q.1 k) j = if j = k then none else getT l j
  | [], j => by simp [getT]
  | (i, e) :: r, j => by
    by_cases hi : i = k
    · subst hi
      have hb : Nat.beq i i = true := Nat.beq_refl i
      rw [List.filter_cons, if_neg (by simp [hb]), getT_filterNe i r j, getT_cons]
      by_cases hj : j = i
      · subst hj; simp
      · have : ¬ i = j := fun e => hj e.symm
        simp [hj, this]
    · rw [List.filter_cons, if_pos (by simp [nat_beq_ne hi]), getT_cons, getT_cons, getT_filterNe k r j]
      by_cases hj : i = j
      · subst hj; simp [hi]
      · simp [hj]
open Classical in
theorem Rel.rename {E : Env} {G : Gh} {st : St} {a : Act} {w : World} (h : Rel E G st a w) {k m m' sz L : Nat} {cs : List C} (hs : st.get k = some (true, .v (.ms (.l m) sz 0 L))) (hb : st.box (.l m) = some cs)
    (hfr : FreshG st (.l m', true)) (hfo : FreshG st (.l m, false)) :
    Rel E { W := fun b o => if G.W b o = .box (.l m) then .box (.l m') else G.W b o, A := fun n => if n = .l m' then G.A (.l m) else G.A n } (st.ren k m m' sz L cs) a w := by
  have hS : ∀ b o, G.S b o → Gh.S { W := fun b o => if G.W b o = .box (.l m) then .box (.l m') else G.W b o, A := fun n => if n = .l m' then G.A (.l m) else G.A n } b o := fun b o hs => by
    unfold Gh.S at *
    dsimp only
    rw [if_neg (by rw [hs]; simp)]
    exact hs
  constructor
  · exact h.df
  · intro j g x hj
    have hj2 : getT ((k, true, .v (.ms (.l m') sz 0 L)) :: st.t.filter (fun q => !Nat.beq q.1 k)) j = some (g, x) := hj
    rw [getT_cons] at hj2
    split at hj2
    · rename_i he; subst he
      simp only [Option.some.injEq, Prod.mk.injEq] at hj2
      obtain ⟨rfl, rfl⟩ := hj2
      obtain ⟨u, hu, q1, q2⟩ := h.tm _ _ _ hs
      refine ⟨u, hu, fun _ => ?_, fun hg => by simp at hg⟩
      rcases q1 rfl with e | ⟨cap, hc, e⟩
      · exact .inl e
      · exact .inr ⟨cap, hc, by dsimp only; rw [if_pos rfl]; exact e⟩
    · rw [getT_filterNe] at hj2
      split at hj2
      · simp at hj2
      · obtain ⟨u, hu, q1, q2⟩ := h.tm j g x hj2
        refine ⟨u, hu, fun hg => (q1 hg).mono hS (fun _ _ _ => rfl) fun n hn => ?_, q2⟩
        have : ¬ n = .l m' := fun e => by subst e; have := hfr.1 rfl j g x hj2; rw [hn] at this; simp at this
        dsimp only; rw [if_neg this]
  · intro n ds hn j c hj
    have hn2 : getB ((.l m', cs) :: st.bx.filter (fun q => !Nm.beq q.1 (.l m))) n = some ds := hn
    rw [getB_cons] at hn2
    split at hn2
    · rename_i he; subst he
      simp only [Option.some.injEq] at hn2; subst hn2
      obtain ⟨q1, q2, u, q3, q4⟩ := h.bx _ _ hb j c hj
      dsimp only
      rw [if_pos rfl, if_pos q1]
      exact ⟨rfl, q2, u, q3, q4.mono hS (fun _ _ _ => rfl)⟩
    · rename_i hne
      rw [getB_filter (fun q => !Nm.beq q (.l m))] at hn2
      split at hn2
      · rename_i hf2
        have hne2 : ¬ n = .l m := fun e => by subst e; simp [Nm.beq_self] at hf2
        obtain ⟨q1, q2, u, q3, q4⟩ := h.bx n ds hn2 j c hj
        have hn3 : ¬ n = .l m' := fun e => hne e.symm
        dsimp only
        rw [if_neg hn3, if_neg (by rw [q1]; intro e; injection e with e; exact hne2 e)]
        exact ⟨q1, q2, u, q3, q4.mono hS (fun _ _ _ => rfl)⟩
      · simp at hn2
  · intro p s hp
    have hp2 : st.own p = some s := hp
    obtain ⟨u, hu, ho⟩ := h.ow p s hp2
    refine ⟨u, ?_, ?_⟩
    · cases p with
      | t k' => exact hu
      | b n off =>
        have h1 : ¬ n = .l m' := fun e => by have := hfr.2 _ _ hp2; subst e; simp [Pl.inBox, Nm.beq_self] at this
        have h2 : ¬ n = .l m := fun e => by have := hfo.2 _ _ hp2; subst e; simp [Pl.inBox, Nm.beq_self] at this
        refine ⟨?_, ?_⟩
        · dsimp only; rw [if_neg h1]; exact hu.1
        · dsimp only; rw [if_neg h1, if_neg (by rw [hu.2]; intro e; injection e with e; exact h2 e)]; exact hu.2
    · rcases ho with ho | ⟨b2, len, cap, e, q1, q2, q3, q4⟩
      · exact .inl ho
      · exact .inr ⟨b2, len, cap, e, q1, q2, q3, fun o h1 h2 => ⟨by dsimp only; rw [if_neg (by rw [(q4 o h1 h2).1]; simp)]; exact (q4 o h1 h2).1, (q4 o h1 h2).2⟩⟩
  · intro b o hw
    refine h.wf b o fun e => hw ?_
    dsimp only; rw [if_neg (by rw [e]; simp)]; exact e
  · intro b o n hb' hn
    dsimp only at hn
    split at hn
    · rename_i e; exact h.olB b o _ hb' e
    · exact h.olB b o n hb' hn
  · intro b o p hb' hn
    dsimp only at hn
    split at hn
    · simp at hn
    · exact h.olO b o p hb' hn
  · exact h.nt
  · intro j
    dsimp only
    rw [if_neg (by simp)]
    exact h.oA j
  · intro b o hi
    exact hS b o (h.im b o hi)
  · intro b o hb' hi
    dsimp only at hi
    split at hi
    · simp at hi
    · exact h.im' b o hb' hi
  · exact h.fr
  · exact h.hB
  · intro b o hb'
    dsimp only
    split
    · rename_i e; exact absurd e ((h.lo b o hb').1 m)
    · exact h.lo b o hb'

theorem awp_rename {N : Nat} {c : Code} {Q : Exit → St → Prop} {st : St} (k m m' : Nat) {sz L : Nat} {cs : List C} (hs : st.get k = some (true, .v (.ms (.l m) sz 0 L))) (hb : st.box (.l m) = some cs)
    (hfr : st.freshO (.l m', true) = true) (hfo : st.freshO (.l m, false) = true) (h : AWP Z N c Q (st.ren k m m' sz L cs)) : AWP Z N c Q st :=
  fun E G a w hr hE => h E _ a w (hr.rename hs hb (St.freshO_ok hfr) (St.freshO_ok hfo)) hE

/-! ### Rows in a box -/
theorem flat_row {sz : Nat} : ∀ {xs : List (List C)} {i : Nat} {row : List C}, (∀ (i : Nat) (row : List C), xs[i]? = some row → row.length = sz) → xs[i]? = some row → (xs.flatten.drop (i * sz)).take sz = row
  | [], i, row, _, h => by simp at h
  | x :: xs, 0, row, hr, h => by
    simp only [List.getElem?_cons_zero, Option.some.injEq] at h
    subst h
    rw [Nat.zero_mul, List.drop_zero, List.flatten_cons, ← hr 0 x rfl, List.take_left]
  | x :: xs, i + 1, row, hr, h => by
    have hx := hr 0 x rfl
    rw [List.flatten_cons, List.drop_append, List.drop_eq_nil_of_le (by rw [hx, Nat.add_mul]; omega), List.nil_append, hx, Nat.add_mul, Nat.one_mul, Nat.add_sub_cancel]
    exact flat_row (fun i row hi => hr (i + 1) row (by simpa using hi)) (by simpa using h)
theorem setAt_mid : ∀ (ds p m s : List C), m.length = ds.length → setAt (p ++ (m ++ s)) p.length ds = p ++ (ds ++ s)
  | [], p, m, s, h => by rw [List.eq_nil_of_length_eq_zero h]; rfl
  | d :: ds, p, [], s, h => by simp at h
  | d :: ds, p, x :: m, s, h => by
    have h' : m.length = ds.length := by simpa using h
    rw [setAt, List.cons_append, List.set_append_right _ _ (Nat.le_refl _), Nat.sub_self, List.set_cons_zero]
    have := setAt_mid ds (p ++ [d]) m s h'
    rw [List.append_assoc, List.length_append] at this
    simpa using this
theorem setAt_flat {sz : Nat} : ∀ {xs : List (List C)} {i : Nat} {ds : List C}, (∀ (i : Nat) (row : List C), xs[i]? = some row → row.length = sz) → i < xs.length → ds.length = sz → setAt xs.flatten (i * sz) ds = (xs.set i ds).flatten := by
  intro xs i ds hr hi hd
  have hx := List.getElem?_eq_getElem hi
  have hl := hr i _ hx
  have e1 : xs = xs.take i ++ xs[i] :: xs.drop (i + 1) := by rw [← List.drop_eq_getElem_cons hi, List.take_append_drop]
  have hti : (xs.take i).flatten.length = i * sz := by
    rw [flat_len (sz := sz) (fun j row hj => by
      rw [List.getElem?_take] at hj
      split at hj
      · exact hr j row hj
      · simp at hj), List.length_take, Nat.min_eq_left (by omega)]
  have e2 : xs.flatten = (xs.take i).flatten ++ (xs[i] ++ (xs.drop (i + 1)).flatten) := by
    conv => lhs; rw [e1]
    rw [List.flatten_append, List.flatten_cons]
  rw [e2, ← hti, setAt_mid _ _ _ _ (by rw [hl, hd]), List.set_eq_take_append_cons_drop, if_pos hi, List.flatten_append, List.flatten_cons]
end Go.Abs
