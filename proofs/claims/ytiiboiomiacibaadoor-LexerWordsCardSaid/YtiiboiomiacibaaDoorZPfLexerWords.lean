/- The given statement LexerWords: for every input the law returns true, and the input reads as before. No condition. -/
import Derived.Test.YtiiboiomiacibaaDoorM5
import Derived.SizedLaws
import Derived.Test.YtiiboiomiacibaaDoorRows
import Derived.Test.YtiiboiomiacibaaDoorCards
import Derived.Test.YtiiboiomiacibaaDoorTie
import Derived.LaidMore
import Derived.Lay
import Derived.MakeChecks
import Derived.SevenTiedAt
import Derived.Stop.Joined
import Derived.ProofKit
import Derived.OpenShut
import Derived.ChangeOld
/- From the reading of the arguments to a contract, with a bound on the lengths of strings and slices. -/
set_option linter.unusedVariables false
set_option linter.unusedSimpArgs false
namespace Go.Abs
/-- The cells are of the type, and no string and no slice is longer than the bound. -/
def hasTyS (P : Program) (M : Nat) : Nat → TypeId → List C → Prop
  | 0, _, _ => False
  | n + 1, t, cs => match P.underlying t with
    | some .bool => ∃ x, cs = [.b x]
    | some (.int k) => ∃ m, cs = [.i k m] ∧ (Lit.int k m).wf = true
    | some .string => ∃ l, cs = [.s l] ∧ l.length ≤ M
    | some (.slice e) => ∃ es, cs = [.sl (P.cellsOf e) es] ∧ es.length ≤ M ∧ ∀ row, row ∈ es → hasTyS P M n e row
    | some (.struct fs) => hasFs (hasTyS P M n) fs.toList cs
    | some (.array m e) => hasN (hasTyS P M n e) m cs
    | _ => False
section
variable {H : Type} {enc : TypeId × Value → H} {P : Program} {L : List TypeId} {w : World}
/-- What a bound on data must give: it goes down into the parts. -/
structure Bnd (P : Program) (L : List TypeId) (M : Nat) (B : TypeId → DataW H → Prop) : Prop where
  str : ∀ {t : TypeId} {s : List UInt8}, P.underlying t = some .string → B t (.lit (.string s)) → s.length ≤ M
  sl : ∀ {t e : TypeId} {es sp : List (DataW H)}, t ∈ L → P.underlying t = some (.slice e) → B t (.slice es sp) → es.length ≤ M ∧ ∀ x ∈ es, B e x
  st : ∀ {t : TypeId} {fs : Array Field} {ps : List (DataW H)}, P.underlying t = some (.struct fs) → B t (.agg ps) → ∀ (j : Nat) (f : Field) (x : DataW H), fs.toList[j]? = some f → ps[j]? = some x → B f.type x
  arr : ∀ {t e : TypeId} {n : Nat} {ps : List (DataW H)}, P.underlying t = some (.array n e) → B t (.agg ps) → ∀ x ∈ ps, B e x
theorem weights_all {e : TypeId} : ∀ {es : List (DataW H)} {x : DataW H}, x ∈ es → ∀ n ∈ x.weights P e, n ∈ DataW.weightsAll P e es
  | [], _, h, _, _ => by cases h
  | y :: es, x, h, n, hn => by
    simp only [DataW.weightsAll, List.mem_append]
    rcases List.mem_cons.1 h with q | q
    · exact .inl (q ▸ hn)
    · exact .inr (weights_all q n hn)
/-- The form's own reach, as a bound. -/
theorem bnd_weights {R : Nat} (hb : (L.all fun t => match P.underlying t with | some (.slice e) => Nat.ble 1 (P.bytesOf e) | _ => true) = true) : Bnd P L R (fun t (d : DataW H) => ∀ n ∈ d.weights P t, n ≤ R) where
  str := fun _ h => h _ (by simp [DataW.weights])
  sl := fun {t e es sp} ht hu h => by
    have h1 := List.all_eq_true.1 hb t ht
    simp only [hu] at h1
    have h1 := Nat.le_of_ble_eq_true h1
    refine ⟨?_, fun x hx n hn => h n ?_⟩
    · have h2 := h ((es.length + sp.length) * P.bytesOf e) (by simp [DataW.weights, hu])
      have h3 := Nat.le_mul_of_pos_right (es.length + sp.length) h1
      omega
    · simp only [DataW.weights, hu, List.mem_cons, List.mem_append]
      exact .inr (.inl (weights_all hx n hn))
  st := fun {t fs ps} hu h j f x hf hx n hn => h n (by
    simp only [DataW.weights, hu]
    exact DataW.weights_mem_each (by rw [List.getElem?_map, hf]; rfl) hx n hn)
  arr := fun {t e n ps} hu h x hx m hm => h m (by
    simp only [DataW.weights, hu]
    exact weights_all hx m hm)
/-- A reading's cells stand for cells of the abstract machine; strings and slices are no longer than the bound. -/
theorem trod_hasS {M : Nat} {B : TypeId → DataW H → Prop} (hB : Bnd P L M B) (hL : closedB P L = true) : ∀ (fuel : Nat) (t : TypeId) (vs : List Value) (d : DataW H) (p : List MemPlace), t ∈ L → B t d →
    DataW.trod enc P w 0 (fun _ => true) true fuel t vs = some (d, p) → ∃ cs, hasTyS P M fuel t cs ∧ All2 (CRep w (topG w).S) cs vs ∧ cs.length = P.cellsOf t
  | 0, t, vs, d, p, _, _, h => by simp [DataW.trod] at h
  | fuel + 1, t, vs, d, p, ht, hbd, h => by
    have IH := trod_hasS hB hL fuel
    have hc := List.all_eq_true.1 hL t ht
    unfold DataW.trod at h
    split at h
    · rename_i b hu
      simp only [hu, beq_iff_eq] at hc
      exact ⟨[.b b], by simp only [hasTyS, hu]; exact ⟨_, rfl⟩, ⟨.b b, trivial⟩, hc.symm⟩
    · rename_i k k' n hu
      simp only [hu, beq_iff_eq] at hc
      split at h
      · rename_i hk
        obtain ⟨rfl, hwf⟩ := hk
        exact ⟨[.i k' n], by simp only [hasTyS, hu]; exact ⟨n, rfl, hwf⟩, ⟨.i _ n, trivial⟩, hc.symm⟩
      · simp at h
    · rename_i hu; simp only [hu] at hc; simp at hc
    · rename_i s hu
      simp only [hu, beq_iff_eq] at hc
      split at h
      · rename_i hs
        have hs' : s.data.toList.length ≤ 9223372036854775807 := by
          have h1 : s.data.toList.length = s.size := rfl
          have h2 : maxLen = 9223372036854775807 := by decide
          omega
        simp only [Option.some.injEq, Prod.mk.injEq] at h
        obtain ⟨rfl, _⟩ := h
        refine ⟨[.s s.data.toList], by simp only [hasTyS, hu]; exact ⟨_, rfl, hB.str hu hbd⟩, ⟨?_, trivial⟩, hc.symm⟩
        have := CRep.s (w := w) (S := (topG w).S) s.data.toList hs'
        rwa [str_eta] at this
      · simp at h
    · rename_i hu; simp only [hu] at hc; simp at hc
    · rename_i hu; simp only [hu] at hc; simp at hc
    · rename_i e hu
      simp only [hu, Bool.and_eq_true, beq_iff_eq] at hc
      exact ⟨[.sl (P.cellsOf e) []], by simp [hasTyS, hu], ⟨.nil _, trivial⟩, hc.1.1.symm⟩
    · rename_i e a len cap hu
      simp only [hu, Bool.and_eq_true, beq_iff_eq, decide_eq_true_eq, bne_iff_ne] at hc
      obtain ⟨⟨hc1, heL⟩, hsz0⟩ := hc
      simp only at h
      split at h
      · rename_i hb
        obtain ⟨_, hlc, hcm⟩ := hb
        have hmax : len ≤ 9223372036854775807 := by
          have h2 : maxLen = 9223372036854775807 := by decide
          omega
        simp only [Option.bind_eq_some_iff, if_true, Option.map_eq_some_iff] at h
        obtain ⟨elems, h1, rest, h2, hd⟩ := h
        simp only [Prod.mk.injEq] at hd
        obtain ⟨rfl, _⟩ := hd
        have hbs := hB.sl ht hu hbd
        have hel0 : ∀ i, i < len → ∃ ci y, w.cells? 0 (a.add (i * P.cellsOf e)) (P.cellsOf e) = some ci ∧ DataW.trod enc P w 0 (fun _ => true) true fuel e ci = some y ∧ B e y.1 := by
          intro i hil
          obtain ⟨y, hy, hy2⟩ := mapM_at h1 (i := i) (x := i) (by simp [hil])
          simp only [Option.bind_eq_some_iff] at hy
          obtain ⟨ci, q1, q2⟩ := hy
          exact ⟨ci, y, q1, q2, hbs.2 _ (List.mem_map.2 ⟨y, List.mem_of_getElem? hy2, rfl⟩)⟩
        have hlen0 : elems.length = len := by have := Go.mapM_some_length h1; simpa using this
        have hel : ∀ i, i < cap → ∃ ci y, w.cells? 0 (a.add (i * P.cellsOf e)) (P.cellsOf e) = some ci ∧ DataW.trod enc P w 0 (fun _ => true) true fuel e ci = some y := by
          intro i hi
          by_cases hil : i < len
          · obtain ⟨y, hy, _⟩ := mapM_at h1 (i := i) (x := i) (by simp [hil])
            simp only [Option.bind_eq_some_iff] at hy
            obtain ⟨ci, q1, q2⟩ := hy
            exact ⟨ci, y, q1, q2⟩
          · obtain ⟨y, hy, _⟩ := mapM_at h2 (i := i - len) (x := i - len) (by simp [show i - len < cap - len by omega])
            rw [show len + (i - len) = i by omega] at hy
            simp only [Option.bind_eq_some_iff] at hy
            obtain ⟨ci, q1, q2⟩ := hy
            exact ⟨ci, y, q1, q2⟩
        have hspot : cap ≠ 0 → a.spot = none := by
          intro h0
          obtain ⟨ci, y, q1, _⟩ := hel 0 (by omega)
          obtain ⟨q3, q4⟩ := cells_at q1
          have hlt : 0 < ci.length := by omega
          have := q4 0 _ (List.getElem?_eq_getElem hlt)
          simpa [Addr.add] using World.cell?_spot this
        obtain ⟨es, hesl, hes⟩ := list_of (R := fun i row => hasTyS P M fuel e row ∧ row.length = P.cellsOf e ∧ RowAt w (topG w).S a.block (a.off + i * P.cellsOf e) row) len (by
          intro i hi
          obtain ⟨ci, ⟨y1, y2⟩, q1, q2, q3⟩ := hel0 i (by omega)
          obtain ⟨row, r1, r2, r3⟩ := IH e ci y1 y2 heL q3 q2
          refine ⟨row, r1, r3, fun j c hj => ?_⟩
          obtain ⟨v, hv, hrep⟩ := r2.get j c hj
          have hcell := (cells_at q1).2 j v hv
          have hsp := hspot (by omega)
          obtain ⟨b, o, sp⟩ := a
          simp only at hsp
          subst hsp
          rw [add_add] at hcell
          exact ⟨topG_S (World.block_lt_of_cell? w ⟨b, o + i * P.cellsOf e + j, none⟩ hcell), v, hcell, hrep⟩)
        refine ⟨[.sl (P.cellsOf e) es], ?_, ⟨?_, trivial⟩, hc1.symm⟩
        · simp only [hasTyS, hu]
          refine ⟨es, rfl, by have := hbs.1; rw [List.length_map] at this; omega, fun row hr => ?_⟩
          obtain ⟨i, hi⟩ := List.getElem?_of_mem hr
          exact (hes i row hi).1
        · exact CRep.mk_any hesl hlc hmax hspot fun i row hi => (hes i row hi).2
      · simp at h
    · rename_i vs _ _ fs hu
      simp only [hu, beq_iff_eq] at hc
      split at h
      · rename_i hlen
        simp only [Option.map_eq_some_iff] at h
        obtain ⟨xs, hxs, hd⟩ := h
        simp only [Prod.mk.injEq] at hd
        obtain ⟨rfl, _⟩ := hd
        have hbs := hB.st hu hbd
        have key : ∀ (fs : List Field) (off : Nat) (xs : List (DataW H × List MemPlace)), flatB P L fs off = some (P.cellsOf t) →
            (fs.mapM fun f => DataW.trod enc P w 0 (fun _ => true) true fuel f.type ((vs.drop f.offset).take (P.cellsOf f.type))) = some xs → (∀ (j : Nat) (f : Field) (x : DataW H), fs[j]? = some f → (xs.map (·.1))[j]? = some x → B f.type x) →
            ∃ cs, hasFs (hasTyS P M fuel) fs cs ∧ All2 (CRep w (topG w).S) cs (vs.drop off) ∧ cs.length = P.cellsOf t - off := by
          intro fs
          induction fs with
          | nil =>
            intro off xs hf _ _
            simp only [flatB, Option.some.injEq] at hf
            refine ⟨[], rfl, ?_, by simp; omega⟩
            rw [List.drop_eq_nil_of_le (by omega)]
            trivial
          | cons f r ih =>
            intro off xs hf hm hbb
            simp only [flatB] at hf
            split at hf
            · rename_i hfo
              obtain ⟨rfl, hfL⟩ := hfo
              simp only [List.mapM_cons, Option.bind_eq_bind, Option.bind_eq_some_iff] at hm
              obtain ⟨⟨y1, y2⟩, hy, ys, hys, hxs2⟩ := hm
              have hxs2 : (y1, y2) :: ys = xs := by simpa using hxs2
              subst hxs2
              obtain ⟨a, a1, a2, a3⟩ := IH _ _ _ _ hfL (hbb 0 f y1 rfl rfl) hy
              obtain ⟨b, b1, b2, b3⟩ := ih _ _ hf hys (fun j f x h1 h2 => hbb (j + 1) f x (by simpa using h1) (by simpa using h2))
              have hle := flatB_le hf
              refine ⟨a ++ b, ⟨a, b, rfl, a1, b1⟩, ?_, by simp; omega⟩
              have := a2.append b2
              rwa [← List.drop_drop, List.take_append_drop] at this
            · simp at hf
        obtain ⟨cs, c1, c2, c3⟩ := key fs.toList 0 xs hc hxs hbs
        exact ⟨cs, by simp only [hasTyS, hu]; exact c1, by simpa using c2, by simpa using c3⟩
      · simp at h
    · rename_i vs _ _ n e hu
      simp only [hu, Bool.and_eq_true, beq_iff_eq, decide_eq_true_eq] at hc
      obtain ⟨heL, hct⟩ := hc
      split at h
      · rename_i hlen
        simp only [Option.map_eq_some_iff] at h
        obtain ⟨xs, hxs, hd⟩ := h
        simp only [Prod.mk.injEq] at hd
        obtain ⟨rfl, _⟩ := hd
        have hbs := hB.arr hu hbd
        have key : ∀ (m k : Nat), k + m = n → ∃ cs, hasN (hasTyS P M fuel e) m cs ∧ All2 (CRep w (topG w).S) cs (vs.drop (k * P.cellsOf e)) ∧ cs.length = m * P.cellsOf e := by
          intro m
          induction m with
          | zero =>
            intro k hk
            refine ⟨[], rfl, ?_, by simp⟩
            have : k = n := by omega
            subst this
            rw [List.drop_eq_nil_of_le (by omega)]
            trivial
          | succ m ih =>
            intro k hk
            obtain ⟨⟨y1, y2⟩, hy, hy2⟩ := mapM_at hxs (i := k) (x := k) (by simp [show k < n by omega])
            obtain ⟨a, a1, a2, a3⟩ := IH _ _ _ _ heL (hbs _ (List.mem_map.2 ⟨(y1, y2), List.mem_of_getElem? hy2, rfl⟩)) hy
            obtain ⟨b, b1, b2, b3⟩ := ih (k + 1) (by omega)
            refine ⟨a ++ b, ⟨a, b, rfl, a1, b1⟩, ?_, by simp [a3, b3, Nat.succ_mul]; omega⟩
            have := a2.append b2
            rwa [Nat.succ_mul, ← List.drop_drop, List.take_append_drop] at this
        obtain ⟨cs, c1, c2, c3⟩ := key n 0 (by omega)
        exact ⟨cs, by simp only [hasTyS, hu]; exact c1, by simpa using c2, by rw [c3, hct]⟩
      · simp at h
    all_goals first | (rename_i hu; simp only [hu] at hc; simp at hc) | (simp at h) | trace_state
/-- An argument of one cell, with a bound. -/
theorem argS_one {M : Nat} {B : TypeId → DataW H → Prop} (hB : Bnd P L M B) (hL : closedB P L = true) {t : TypeId} {v : Value} {base : Nat} {d : TypeDesc} {x : DataW H} {p : List MemPlace} (ht : t ∈ L) (hd : P.underlying t = some d) (hp : plainD d = true) (hok : Value.okWide P w .any base t v)
    (hbd : B t x) (h : DataW.Trod enc P w 0 (fun _ => true) true t v x p) : ∃ n c, hasTyS P M n t [c] ∧ XRep w (topG w) (.v (.c c)) v := by
  obtain ⟨n, hn⟩ := h
  rw [cells_one (okWide_plain hd hp hok)] at hn
  obtain ⟨cs, h1, h2, _⟩ := trod_hasS hB hL n t _ _ _ ht hbd hn
  match cs, h2 with
  | [c], h2 => exact ⟨n, c, h1, h2.1⟩
/-- An argument that is a row of cells, with a bound. -/
theorem argS_row {M : Nat} {B : TypeId → DataW H → Prop} (hB : Bnd P L M B) (hL : closedB P L = true) {t : TypeId} {v : Value} {base : Nat} {d : TypeDesc} {x : DataW H} {p : List MemPlace} (ht : t ∈ L) (hd : P.underlying t = some d) (hp : rowD d = true) (hok : Value.okWide P w .any base t v)
    (hbd : B t x) (h : DataW.Trod enc P w 0 (fun _ => true) true t v x p) : ∃ n cs, hasTyS P M n t cs ∧ XRep w (topG w) (.v (.agg cs)) v := by
  obtain ⟨n, hn⟩ := h
  obtain ⟨vs, rfl⟩ := okWide_row hd hp hok
  obtain ⟨cs, h1, h2, _⟩ := trod_hasS hB hL n t _ _ _ ht hbd hn
  exact ⟨n, cs, h1, vs.toList, by simp, by simpa [Value.cells] using h2⟩
end
end Go.Abs
/- Contracts: few tokens; the law on words. -/
set_option linter.unusedVariables false
set_option linter.unusedSimpArgs false
namespace Go.Proofs.YtiiboiomiacibaaDoor
open Go Go.Abs
def nsum (l : List Tk) : Nat → Int
  | 0 => 0
  | k + 1 => IntKind.i64.wrap (IntKind.i64.wrap (nsum l k + ((l.getD k tk0).text.length : Int)) + ((l.getD k tk0).str.length : Int))
def fewT (l : List Tk) : Bool := decide ((l.length : Int) ≤ 200) && decide (nsum l l.length ≤ 4000)
theorem few_spec (l : List Tk) : Ctr sys 27 [xts l] [] (xb (fewT l)) none [] := by
  have hr := Tk.rows_len l
  refine spec_intro Tryd.func27 rfl rfl rfl rfl rfl rfl ?_
  refine awp_seq (awp_region ?_)
  refine al_pure rfl rfl rfl (pure_assign rfl gU) ?_
  refine al_nil ?_
  refine awp_seq (awp_region ?_)
  refine al_pure rfl rfl rfl (pure_assign rfl gU) ?_
  refine al_nil ?_
  refine awp_seq ?_
  refine awp_seq (awp_region ?_)
  refine al_pure rfl rfl rfl (pure_assign rfl gU) ?_
  refine al_nil ?_
  refine awp_block ?_
  refine awp_for (ι := Nat) { t := [(0, _, _)], bx := [], ow := [] } (fun k => [(4, true, xi (k : Int)), (3, true, xi (nsum l k))]) (fun k => []) (fun k => k ≤ l.length) (fun k => l.length - k) (0) (by simp) (sub_mk (⟨sx rfl, ⟨sx rfl, ⟨sx rfl, trivial⟩⟩⟩) trivial trivial) ?_
  intro k hok
  dsimp only [List.cons_append, List.nil_append]
  refine awp_seq ?_
  refine awp_seq (awp_region ?_)
  refine al_pure rfl rfl rfl (pure_move rfl gU) ?_
  refine al_pure rfl rfl rfl (pure_move rfl gU) ?_
  refine al_lenSl rfl rfl rfl rfl rfl gU rfl rfl ?_ (fun hh => by simp at hh); intro hlen
  refine al_pure rfl rfl rfl (pure_cmp rfl rfl gU gU rfl) ?_
  refine al_nil ?_
  refine awp_cond rfl (fun hc => ?_) (fun hc => ?_)
  · try simp only [nn, strR_len, Tk.rows_len] at hc
    refine awp_skip ?_
    refine awp_seq ?_
    refine awp_block ?_
    refine awp_drawn' (by kernel_rfl) ?_
    refine dr_pure rfl rfl rfl rfl (pure_move rfl gU) ?_
    refine dr_pure rfl rfl rfl rfl (pure_move rfl gU) ?_
    refine dr_pure rfl rfl rfl rfl (pure_move rfl gU) ?_
    refine dr_pure rfl rfl rfl rfl (pure_indexAddr rfl rfl gU gU rfl rfl rfl (fun hh => Tk.rows_at (by first | omega | (simp at hh ⊢; omega)))) ?_
    refine dr_pure rfl rfl rfl rfl (pure_fieldRo rfl gU rfl rfl) ?_
    refine dr_pure rfl rfl rfl rfl (pure_loadRo rfl gU rfl rfl rfl) ?_
    refine dr_pure rfl rfl rfl rfl (pure_lenS rfl gU (Tryd.underlying9)) ?_
    refine dr_pure rfl rfl rfl rfl (pure_arith rfl rfl gU gU rfl rfl) ?_
    refine dr_pure rfl rfl rfl rfl (pure_move rfl gU) ?_
    refine dr_pure rfl rfl rfl rfl (pure_move rfl gU) ?_
    refine dr_pure rfl rfl rfl rfl (pure_indexAddr rfl rfl gU gU rfl rfl rfl (fun hh => Tk.rows_at (by first | omega | (simp at hh ⊢; omega)))) ?_
    refine dr_pure rfl rfl rfl rfl (pure_fieldRo rfl gU rfl rfl) ?_
    refine dr_pure rfl rfl rfl rfl (pure_loadRo rfl gU rfl rfl rfl) ?_
    refine dr_pure rfl rfl rfl rfl (pure_lenS rfl gU (Tryd.underlying9)) ?_
    refine dr_pure rfl rfl rfl rfl (pure_arith rfl rfl gU gU rfl rfl) ?_
    refine dr_pure rfl rfl rfl rfl (pure_assign rfl gU) ?_
    refine dr_nil (by kernel_rfl) ?_
    refine awp_sub (s := { t := [(0, _, _), (3, _, _), (4, _, _)], bx := [], ow := [] }) (sub_mk (⟨sx rfl, ⟨sx rfl, ⟨sx rfl, trivial⟩⟩⟩) trivial trivial) ?_
    refine awp_region ?_
    refine al_pure rfl rfl rfl (pure_move rfl gU) ?_
    refine al_pure rfl rfl rfl (pure_arith rfl rfl gU gU rfl (IntWalk.i64_in _ (by omega))) ?_
    refine al_pure rfl rfl rfl (pure_assign rfl gU) ?_
    refine al_nil ?_
    refine ⟨k + 1, ?_, ?_, sub_mk (⟨⟨_, rfl, ?_⟩, ⟨⟨_, rfl, ?_⟩, ⟨sx rfl, trivial⟩⟩⟩) trivial trivial⟩
    all_goals (first | rfl | omega)
  · try simp only [nn, strR_len, Tk.rows_len] at hc
    have hk : k = l.length := by omega
    subst hk
    refine awp_exit ?_
    repeat (first | refine thenS_exit ?_ | refine blockS_hit ?_ | refine blockS_miss rfl ?_)
    refine awp_seq (awp_region ?_)
    refine al_pure rfl rfl rfl (pure_move rfl gU) ?_
    refine al_lenSl rfl rfl rfl rfl rfl gU rfl rfl ?_ (fun hh => by simp at hh); intro hlen
    refine al_pure rfl rfl rfl (pure_cmp rfl rfl gU gU rfl) ?_
    refine al_pure rfl rfl rfl (pure_move rfl gU) ?_
    refine al_pure rfl rfl rfl (pure_move rfl gU) ?_
    refine al_pure rfl rfl rfl (pure_cmp rfl rfl (fun hh => hh) gU rfl) ?_
    refine al_pure rfl rfl rfl (pure_and rfl rfl gU (fun _ hi => gP rfl hi)) ?_
    refine al_pure rfl rfl rfl (pure_assign rfl gU) ?_
    refine al_nil ?_
    refine awp_ret ?_
    repeat (first | refine tR ?_ | refine bR ?_)
    refine ret_ok rfl ?_ trivial
    (refine xb_eq ?_; unfold fewT; rw [Tk.rows_len])
/-- A token that lies in memory. -/
def Tk.okZ (t : Tk) : Prop := (-9223372036854775808 ≤ t.int ∧ t.int ≤ 9223372036854775807) ∧ t.text.length ≤ 140737488351232 ∧ t.str.length ≤ 140737488351232
theorem nsum_eq {l : List Tk} (h : ∀ t ∈ l, t.okZ) (h2 : l.length ≤ 200) : ∀ k, k ≤ l.length → 0 ≤ nsum l k ∧ nsum l k ≤ 281474976702464 * k ∧ ∀ j, j < k → ((l.getD j tk0).text.length : Int) ≤ nsum l k ∧ ((l.getD j tk0).str.length : Int) ≤ nsum l k
  | 0, _ => ⟨by simp [nsum], by simp [nsum], fun j hj => by omega⟩
  | k + 1, hk => by
    obtain ⟨h3, h4, h5⟩ := nsum_eq h h2 k (by omega)
    have hm : l.getD k tk0 ∈ l := by
      rw [List.getD_eq_getElem?_getD, List.getElem?_eq_getElem (by omega)]
      exact List.getElem_mem _
    obtain ⟨_, h6, h7⟩ := h _ hm
    have e : nsum l (k + 1) = nsum l k + ((l.getD k tk0).text.length : Int) + ((l.getD k tk0).str.length : Int) := by
      have w1 := IntWalk.i64_in (nsum l k + ((l.getD k tk0).text.length : Int)) (by omega)
      rw [nsum, w1, IntWalk.i64_in _ (by omega)]
    rw [e]
    refine ⟨by omega, by omega, fun j hj => ?_⟩
    by_cases hjk : j = k
    · subst hjk; omega
    · have := h5 j (by omega); omega
theorem few_small {l : List Tk} (h : ∀ t ∈ l, t.okZ) (hf : fewT l = true) : l.length ≤ 200 ∧ ∀ t ∈ l, TkS t := by
  simp only [fewT, Bool.and_eq_true, decide_eq_true_eq] at hf
  have h2 : l.length ≤ 200 := by omega
  obtain ⟨_, _, h5⟩ := nsum_eq h h2 l.length (Nat.le_refl _)
  refine ⟨h2, fun t ht => ?_⟩
  obtain ⟨j, hj, e⟩ := List.mem_iff_getElem.1 ht
  have h6 := h5 j hj
  have hg : l.getD j tk0 = t := by rw [List.getD_eq_getElem?_getD, List.getElem?_eq_getElem hj, e]; rfl
  rw [hg] at h6
  exact ⟨(h t ht).1.2, by omega, by omega⟩
theorem LexerWords_spec (l : List Tk) (hok : ∀ t ∈ l, t.okZ) : Ctr sysW 10 [xts l] [] (xb true) none [] := by
  have hr := Tk.rows_len l
  refine spec_intro Tryd.func10 rfl rfl rfl rfl rfl rfl ?_
  refine awp_seq (awp_region ?_)
  refine al_pure rfl rfl rfl (pure_assign rfl gU) ?_
  refine al_nil ?_
  refine awp_seq ?_
  refine awp_seq (awp_region ?_)
  refine al_call rfl rfl rfl rfl rfl rfl gU gU (Ctr.wk (Z := sys) rfl hsub awake_spec) rfl ?_
  refine al_pure rfl rfl rfl (pure_not rfl gU) ?_
  refine al_pure rfl rfl rfl (pure_move rfl gU) ?_
  refine al_pure rfl rfl rfl (pure_move rfl gU) ?_
  refine al_call rfl rfl rfl rfl rfl rfl gU (fun hh => gA ((fun hh => hh) hh) (rfl)) (Ctr.wk (Z := sys) rfl hsub (few_spec _)) rfl ?_
  refine al_pure rfl rfl rfl (pure_not rfl (fun hh => hh)) ?_
  refine al_pure rfl rfl rfl (pure_or rfl rfl gU (fun _ hi => gP rfl hi)) ?_
  refine al_nil ?_
  refine awp_sub (s := { t := [(0, _, _), (11, _, _)], bx := [], ow := [] }) (sub_mk (⟨sx rfl, ⟨sx rfl, trivial⟩⟩) trivial trivial) ?_
  refine awp_cond rfl (fun hc => ?_) (fun hc => ?_)
  · try simp only [nn, strR_len, Tk.rows_len] at hc
    refine awp_seq (awp_region ?_)
    refine al_call rfl rfl rfl rfl rfl rfl gU gU (Ctr.wk (Z := sys) rfl hsub awake_spec) rfl ?_
    refine al_pure rfl rfl rfl (pure_assign rfl gU) ?_
    refine al_nil ?_
    refine awp_ret ?_
    repeat (first | refine tR ?_ | refine bR ?_)
    refine ret_ok rfl ?_ trivial
    rfl
  · try simp only [nn, strR_len, Tk.rows_len] at hc
    have hf : fewT l = true := by simpa using hc
    obtain ⟨hl, hg⟩ := few_small hok hf
    have hm := tks_at hg
    refine awp_skip ?_
    refine awp_seq ?_
    refine awp_seq (awp_region ?_)
    refine al_pure rfl rfl rfl (pure_move rfl gU) ?_
    refine al_lenSl rfl rfl rfl rfl rfl gU rfl rfl ?_ (fun hh => by simp at hh); intro hlen
    refine al_pure rfl rfl rfl (pure_move rfl gU) ?_
    refine al_nil ?_
    refine awp_block ?_
    refine awp_for (ι := Nat) { t := [(0, _, _), (13, _, _), (14, _, _)], bx := [], ow := [] } (fun k => [(15, true, xi (k : Int))]) (fun k => []) (fun k => k ≤ l.length) (fun k => l.length - k) (0) (by simp) (sub_mk (⟨sx rfl, ⟨sx rfl, ⟨sx rfl, ⟨sx rfl, trivial⟩⟩⟩⟩) trivial trivial) ?_
    intro k hok
    dsimp only [List.cons_append, List.nil_append]
    refine awp_seq (awp_region ?_)
    refine al_pure rfl rfl rfl (pure_cmp rfl rfl gU gU rfl) ?_
    refine al_nil ?_
    refine awp_seq ?_
    refine awp_cond rfl (fun hc2 => ?_) (fun hc2 => ?_)
    · try simp only [nn, strR_len, Tk.rows_len] at hc2
      have hk := hm k (by omega)
      refine awp_skip ?_
      refine awp_seq ?_
      refine awp_block ?_
      refine awp_seq (awp_region ?_)
      refine al_pure rfl rfl rfl (pure_indexAddr rfl rfl gU gU rfl rfl rfl (fun hh => Tk.rows_at (by first | omega | (simp at hh ⊢; omega)))) ?_
      refine al_pure rfl rfl rfl (pure_loadRoRow rfl gU rfl rfl rfl rfl) ?_
      refine al_do rfl (does_alloc rfl rfl rfl) ?_
      refine al_do rfl (does_store rfl rfl rfl rfl rfl rfl rfl) ?_
      refine al_nil ?_
      refine awp_seq ?_
      refine awp_drawn' (by kernel_rfl) ?_
      refine dr_loadRow rfl rfl rfl rfl rfl rfl rfl gU rfl rfl rfl rfl rfl ?_
      refine dr_callN rfl rfl rfl rfl rfl rfl rfl gU gU (lword_spec _ hk) rfl ?_
      refine dr_loadRow rfl rfl rfl rfl rfl rfl rfl gU rfl rfl rfl rfl rfl ?_
      refine dr_callN rfl rfl rfl rfl rfl rfl rfl gU gU (rword_spec _ hk) rfl ?_
      refine dr_pure rfl rfl rfl rfl (pure_cmpS rfl rfl gU gU rfl) ?_
      refine dr_nil (by kernel_rfl) ?_
      refine awp_sub (s := { t := [(0, _, _), (13, _, _), (14, _, _), (15, _, _), (23, _, _)], bx := [], ow := [] }) (sub_mk (⟨sx rfl, ⟨sx rfl, ⟨sx rfl, ⟨sx rfl, ⟨sx rfl, trivial⟩⟩⟩⟩⟩) trivial trivial) ?_
      refine awp_cond rfl (fun hc3 => ?_) (fun hc3 => ?_)
      · try simp only [nn, strR_len, Tk.rows_len] at hc3
        exact absurd hc3 (by simp)
      · try simp only [nn, strR_len, Tk.rows_len] at hc3
        refine awp_skip ?_
        refine awp_region ?_
        refine al_pure rfl rfl rfl (pure_arith rfl rfl gU gU rfl (IntWalk.i64_in _ (by omega))) ?_
        refine al_pure rfl rfl rfl (pure_move rfl gU) ?_
        refine al_nil ?_
        refine ⟨k + 1, ?_, ?_, sub_mk (⟨⟨_, rfl, ?_⟩, ⟨sx rfl, ⟨sx rfl, ⟨sx rfl, trivial⟩⟩⟩⟩) trivial trivial⟩
        all_goals (first | rfl | omega)
    · try simp only [nn, strR_len, Tk.rows_len] at hc2
      refine awp_exit ?_
      repeat (first | refine thenS_exit ?_ | refine blockS_hit ?_ | refine blockS_miss rfl ?_)
      refine awp_seq (awp_region ?_)
      refine al_pure rfl rfl rfl (pure_move rfl gU) ?_
      refine al_call rfl rfl rfl rfl rfl rfl gU gU (ljoin_spec _ hg (by omega)) rfl ?_
      refine al_pure rfl rfl rfl (pure_move rfl gU) ?_
      refine al_call rfl rfl rfl rfl rfl rfl gU gU (rjoin_spec _ hg (by omega)) rfl ?_
      refine al_pure rfl rfl rfl (pure_cmpS rfl rfl gU gU rfl) ?_
      refine al_pure rfl rfl rfl (pure_assign rfl gU) ?_
      refine al_nil ?_
      refine awp_ret ?_
      repeat (first | refine tR ?_ | refine bR ?_)
      refine ret_ok rfl ?_ trivial
      (refine xb_eq ?_; simp)
theorem tokS_of {n : Nat} {cs : List C} (h : hasTyS Tryd.prog reachBytes n 37 cs) : ∃ t : {t : Tk // t.okZ}, cs = t.1.cells := by
  have hR : reachBytes = 140737488351232 := by kernel_rfl
  cases n with
  | zero => exact h.elim
  | succ n =>
    simp only [hasTyS, Tryd.underlying37, hasFs] at h
    obtain ⟨a, b, rfl, h1, c, d, rfl, h2, e, f, rfl, h3, g, k, rfl, h4, u, v, rfl, h5, rfl⟩ := h
    cases n with
    | zero => exact h1.elim
    | succ n =>
      simp only [hasTyS, Tryd.underlying3] at h1 h5
      simp only [hasTyS, Tryd.underlying2] at h3
      simp only [hasTyS, Tryd.underlying9] at h2 h4
      obtain ⟨m1, rfl, _⟩ := h1
      obtain ⟨m2, rfl, w2⟩ := h2
      obtain ⟨m3, rfl, w3⟩ := h3
      obtain ⟨m4, rfl, w4⟩ := h4
      obtain ⟨m5, rfl, _⟩ := h5
      exact ⟨⟨⟨m1, m2, m3, m4, m5⟩, wf_i64 w3, by rw [hR] at w2; exact w2, by rw [hR] at w4; exact w4⟩, rfl⟩
theorem toksS_of {n : Nat} {c : C} (h : hasTyS Tryd.prog reachBytes n 23 [c]) : ∃ l : {l : List Tk // ∀ t ∈ l, t.okZ}, c = .sl 5 (Tk.rows l.1) := by
  cases n with
  | zero => exact h.elim
  | succ n =>
    simp only [hasTyS, Tryd.underlying23, cellsTk] at h
    obtain ⟨es, h1, _, h5⟩ := h
    obtain ⟨ts, rfl⟩ := list_of (f := fun t : {t : Tk // t.okZ} => t.1.cells) (fun row hr => tokS_of hr) es h5
    refine ⟨⟨ts.map (·.1), fun t ht => ?_⟩, ?_⟩
    · obtain ⟨u, _, rfl⟩ := List.mem_map.1 ht
      exact u.2
    · simp only [List.cons.injEq, and_true] at h1
      rw [h1, Tk.rows, List.map_map]; rfl
theorem bndW : closedB Tryd.prog [2, 3, 4, 5, 9, 35, 37, 23] = true ∧ (([2, 3, 4, 5, 9, 35, 37, 23] : List TypeId).all fun t => match Tryd.prog.underlying t with | some (.slice e) => Nat.ble 1 (Tryd.prog.bytesOf e) | _ => true) = true := ⟨plainL, by kernel_rfl⟩
theorem returnsShapedS {H : Type} {enc : TypeId × Value → H} {a : Assume} {C : Checked} {os : Os} {f : FuncId} {fn : Func} {s : ChangeSpec} {conds : List PathCond} {apart fresh handsOn again : Bool} {X : World → Array Value → Prop}
    (hX : ∀ (w w' : World) (args : Array Value), w.heap = w'.heap → X w args → X w' args)
    (own : ownKnob C.prog.godebug = none) (started : os.Started) (noInit : C.prog.inits.idxOf? f = none) (hfn : C.prog.funcs[f]? = some fn)
    (witness : ∃ (w : World) (tape : Tape) (i : Input), w.os = os ∧ (w.forCall tape i).Shaped C.prog ∧ i.vars = [] ∧ Input.okWide C.prog (w.forCall tape i) .any w.heap.size f i ∧
      ((s.pre enc C.prog fn conds apart (w.forCall tape i).memory i.args ∧ X (w.forCall tape i).memory i.args) ∧ sizedMet enc C.prog fn (OpenSpec.ofChange s) apart (w.forCall tape i).memory i.args) ∧ a.holds C.prog (lone (Frame.enter C.prog f i.args .normal) [] (w.forCall tape i)))
    (contract : ∀ (W : World) (base : Nat) (args : Array Value) (ds gs : List (DataW H)) (before : List MemPlace),
      (∀ (j : Nat) t v, fn.params[j]? = some t → args[j]? = some v → Value.okWide C.prog W .any base t v) →
      DataW.Whole enc C.prog fn.params.toList s.vars apart W args.toList ds gs before → X W args → W.ShapedOpen C.prog →
      (DataW.weightsEach C.prog (fn.params.toList ++ s.plain.varTypes C.prog) (ds ++ gs)).all (· ≤ reachBytes) = true →
      Calls C.prog f args W fun e W' => ∃ v, e = .returned v ∧ s.post enc C.prog fn apart fresh handsOn again W args v W') :
    ReturnsInHanded a C os f .any (fun w args => (s.pre enc C.prog fn conds apart w args ∧ X w args) ∧ sizedMet enc C.prog fn (OpenSpec.ofChange s) apart w args) (s.post enc C.prog fn apart fresh handsOn again) := by
  refine returnsInHanded_of_calls own started noInit witness ?_
  intro w tape i _ hsh _ hok hpre hholds
  obtain ⟨_, _, _, fn', hfn', _, _, _, _, hval⟩ := hok
  have e : fn' = fn := Option.some.inj (hfn'.symm.trans hfn)
  subst e
  obtain ⟨⟨⟨ds, gs, before, hw, hc⟩, hx⟩, hz⟩ := hpre
  have hw' := DataW.Whole.of_heap (w' := w.forCall tape i) (by rfl) hw
  refine (contract (w.forCall tape i) w.heap.size i.args ds gs before hval hw' (hX _ _ _ (by rfl) hx) hsh (hz.weights hw)).mono fun e W' ⟨v, he, hp⟩ => ?_
  subst he
  exact ChangeSpec.post_blind hp
theorem sized_arg {H : Type} {P : Program} {ts : List TypeId} {ds : List (DataW H)} (h : (DataW.weightsEach P ts ds).all (· ≤ reachBytes) = true) {j : Nat} {t : TypeId} {d : DataW H} (ht : ts[j]? = some t) (hd : ds[j]? = some d) : ∀ n ∈ d.weights P t, n ≤ reachBytes := by
  intro n hn
  have := List.all_eq_true.1 h n (DataW.weights_mem_each ht hd n hn)
  simpa using this
end Go.Proofs.YtiiboiomiacibaaDoor
/- The given statement LexerWords: for every input the law returns true, and the input reads as before. No condition. -/
namespace Go.Proofs.YtiiboiomiacibaaDoor.lexerWordsDone
open Go Go.Abs Go.Proofs Go.Proofs.YtiiboiomiacibaaDoor
open Go.ChangeShapes Go.WideShapes Go.ChangeAt Go.RowKit
set_option linter.unusedVariables false
set_option linter.unusedSimpArgs false
set_option maxRecDepth 100000 in
theorem lifted (os : Os) (started : os.Started) (H : Type) (enc : TypeId × Value → H) :
    ReturnsInHanded {} Tryd.checked os 10 .any (fun w args => (Rows.lexerWordsSpec.pre enc Tryd.prog Tryd.f10 [] false w args ∧ laidMetH Tryd.prog Rows.lexerWordsRow.laid w) ∧ sizedMet enc Tryd.prog Tryd.f10 (OpenSpec.ofChange Rows.lexerWordsSpec) false w args) (Rows.lexerWordsSpec.post enc Tryd.prog Tryd.f10 false true false false) := by
  refine returnsShapedS (C := Tryd.checked) (X := fun w _ => laidMetH Tryd.prog Rows.lexerWordsRow.laid w) (fun _ _ _ hh h => h.of_heap hh) own started (by kernel_rfl) Tryd.func10
    (ChangeSpec.witness_shaped (enc := enc) (C := Tryd.checked) (os := os) (X := fun w _ => laidMetH Tryd.prog Rows.lexerWordsRow.laid w) false (World.laidAll Tryd.prog os Rows.lexerWordsRow.laid) #[.slice none 0 0] 8 (World.laidAll_os _ _ _) (World.shaped_of_ZipB (by kernel_rfl) (by kernel_rfl)) (by kernel_rfl) (by kernel_rfl) (by kernel_rfl)
      (by rw [MakeChecks.laidMetH_plain _ _ _ (by kernel_rfl)]; exact laidMet_laidAll _ (by kernel_rfl) (by kernel_rfl))) ?_
  intro W base args ds gs before hval0 hW hL hsh hsz0
  have hval : ∀ (j : Nat) t v, Tryd.f10.params[j]? = some t → args[j]? = some v → Value.okWide Tryd.prog W .any base t v := hval0
  have hsz : (DataW.weightsEach Tryd.prog (Tryd.f10.params.toList ++ Rows.lexerWordsSpec.plain.varTypes Tryd.prog) (ds ++ gs)).all (· ≤ reachBytes) = true := hsz0
  have hW' := hW
  obtain ⟨p, q, hA0, hV, rfl, hfz, hnd⟩ := hW
  have hA : DataW.TrodAll enc Tryd.prog W 0 (fun _ => true) true Tryd.f10.params.toList args.toList ds p := hA0
  rw [Tryd.params10] at hA hval hsz
  obtain ⟨v0, vs0, d0, ds0, p0, q0, hargs, rfl, rfl, h0, r0⟩ := trodAll_cons hA
  obtain ⟨rfl, rfl, rfl⟩ := trodAll_nil r0
  obtain rfl : args = #[v0] := by cases args; simp_all
  obtain ⟨rfl, rfl⟩ := trodVars_none hV
  have lt0 : ∀ x ∈ p0, x.block < W.heap.size := by obtain ⟨m, hm⟩ := h0; exact DataW.trod_lt m _ _ _ hm
  obtain ⟨n0, c0, ht0, hx0⟩ := argS_one (bnd_weights bndW.2) bndW.1 (by decide) Tryd.underlying23 rfl (hval 0 23 v0 rfl rfl) (sized_arg hsz (j := 0) rfl rfl) h0
  obtain ⟨x0_0, rfl⟩ := toksS_of ht0
  refine (calls_true (LexerWords_spec x0_0.1 x0_0.2) (W := W) (vs := [v0]) ⟨hx0, trivial⟩ (gl_tab rfl hL hsh)).mono fun e W' ⟨he, bel⟩ => ?_
  subst he
  exact ⟨_, rfl, _, _, _, [], _, [], hW', trodAll_mk1 (shut_bool Tryd.underlying4 _),
    (trodAll_cons_mk (Below.trod laidOut (by kernel_rfl) (of_decide_eq_true (by kernel_rfl)) h0 bel lt0) trodAll_mk0), rfl, bel.frame _, fun h => by cases h⟩
theorem over : Rows.lexerWordsRow.holds Tryd.pinned (OpenSpec.ofChange Rows.lexerWordsSpec) :=
  OpenClaim.holds_of_wide 10 Tryd.f10 rfl rfl rfl rfl rfl rfl rfl ⟨rfl, rfl, rfl, rfl, rfl⟩ rfl rfl rfl rfl rfl (by kernel_rfl) Tryd.func10 (by kernel_rfl)
    (of_decide_eq_true (by kernel_rfl)) (by unfold Func.isWrapper; first | (rw [if_pos (by decide +kernel)]; kernel_rfl) | (rw [if_neg (by decide +kernel)]; exact ⟨rfl, rfl⟩))
    (fun os started H enc _ => lifted os started H enc)
theorem proved : Rows.LexerWordsCardSaid :=
  Claim7.holds_tied_plain_at .later [] [.data, .data, .data, .data, .pinned] true (true, Rows.lexerWordsCard.stood.harness.2) false
    over (fun _ h => by cases h) (by kernel_rfl) (fun _ h => by cases h) lexerWords_row_tie rfl ⟨rfl, rfl⟩ (by kernel_rfl) rfl
    (fun f fn hf hfn => by
      obtain rfl : f = 10 := Option.some.inj ((show Tryd.prog.funcNamed "sealring/sealringlaw21.LexerWords" = some 10 by kernel_rfl).symm.trans hf) |>.symm
      obtain rfl : fn = Tryd.f10 := (Option.some.inj (Tryd.func10.symm.trans hfn)).symm
      exact ⟨by kernel_rfl, fun j t ht => by
        rw [Tryd.params10] at ht
        have hm : t ∈ [23] := by simpa using Array.mem_of_getElem? ht
        have hall : ([23].all fun u => !Tryd.prog.wantsStandIn u) = true := by kernel_rfl
        exact (show Tryd.prog.wantsStandIn t = false by simpa using List.all_eq_true.1 hall t hm)⟩)
    (by kernel_rfl)
#print axioms proved
end Go.Proofs.YtiiboiomiacibaaDoor.lexerWordsDone
