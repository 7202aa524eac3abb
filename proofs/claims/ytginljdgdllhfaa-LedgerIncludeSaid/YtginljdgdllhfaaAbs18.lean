/- From the reading of the arguments to a contract: every value that reads as data of plain types stands for cells of the abstract machine. -/
import Derived.Test.YtginljdgdllhfaaAbs17
import Derived.Handed
import Derived.Carry
set_option linter.unusedVariables false
set_option linter.unusedSimpArgs false
namespace Go.Abs

def hasFs (R : TypeId → List C → Prop) : List Field → List C → Prop
  | [], cs => cs = []
  | f :: r, cs => ∃ a b, cs = a ++ b ∧ R f.type a ∧ hasFs R r b
def hasN (R : List C → Prop) : Nat → List C → Prop
  | 0, cs => cs = []
  | n + 1, cs => ∃ a b, cs = a ++ b ∧ R a ∧ hasN R n b

/-- The cells are of the type. -/
def hasTy (P : Program) : Nat → TypeId → List C → Prop
  | 0, _, _ => False
  | n + 1, t, cs => match P.underlying t with
    | some .bool => ∃ x, cs = [.b x]
    | some (.int k) => ∃ m, cs = [.i k m] ∧ (Lit.int k m).wf = true
    | some .string => ∃ l, cs = [.s l]
    | some (.slice e) => ∃ es, cs = [.sl (P.cellsOf e) es] ∧ ∀ row, row ∈ es → hasTy P n e row
    | some (.struct fs) => hasFs (hasTy P n) fs.toList cs
    | some (.array m e) => hasN (hasTy P n e) m cs
    | _ => False

def flatB (P : Program) (L : List TypeId) : List Field → Nat → Option Nat
  | [], off => some off
  | f :: r, off => if f.offset = off ∧ f.type ∈ L then flatB P L r (off + P.cellsOf f.type) else none

/-- The types of the list are plain, and closed. -/
def closedB (P : Program) (L : List TypeId) : Bool := L.all fun t => match P.underlying t with
  | some .bool | some (.int _) | some .string => P.cellsOf t == 1
  | some (.slice e) => P.cellsOf t == 1 && decide (e ∈ L) && P.cellsOf e != 0
  | some (.struct fs) => flatB P L fs.toList 0 == some (P.cellsOf t)
  | some (.array n e) => decide (e ∈ L) && P.cellsOf t == n * P.cellsOf e
  | _ => false

theorem flatB_le {P : Program} {L : List TypeId} : ∀ {fs : List Field} {off tot : Nat}, flatB P L fs off = some tot → off ≤ tot
  | [], off, tot, h => by simp [flatB] at h; omega
  | f :: r, off, tot, h => by
    simp only [flatB] at h
    split at h
    · have := flatB_le h; omega
    · simp at h

theorem list_of {α : Type} {R : Nat → α → Prop} : ∀ (n : Nat), (∀ j, j < n → ∃ v, R j v) → ∃ vs : List α, vs.length = n ∧ ∀ (j : Nat) (v : α), vs[j]? = some v → R j v
  | 0, _ => ⟨[], rfl, fun j v h => by simp at h⟩
  | n + 1, h => by
    obtain ⟨vs, h1, h2⟩ := list_of n fun j hj => h j (by omega)
    obtain ⟨v, hv⟩ := h n (by omega)
    refine ⟨vs ++ [v], by simp [h1], fun j u hu => ?_⟩
    rw [List.getElem?_append] at hu
    split at hu
    · exact h2 j u hu
    · have : j = n := by
        have := (List.getElem?_eq_some_iff.1 hu).1
        simp at this; omega
      subst this
      simp [h1] at hu
      subst hu
      exact hv

def topG (w : World) : Gh := { W := fun b _ => if b < w.heap.size then .imm else .none, A := fun _ => (0, 0) }
theorem topG_S {w : World} {b o : Nat} (h : b < w.heap.size) : (topG w).S b o := by
  show (if b < w.heap.size then Who.imm else Who.none) = _
  rw [if_pos h]

section
variable {H : Type} {enc : TypeId × Value → H} {P : Program} {L : List TypeId} {w : World}

theorem mapM_at {α β : Type} {f : α → Option β} {l : List α} {r : List β} (h : l.mapM f = some r) {i : Nat} {x : α} (hx : l[i]? = some x) : ∃ y, f x = some y ∧ r[i]? = some y := by
  have h1 := Go.mapM_some_get h i x hx
  have h2 := Go.mapM_some_length h
  have hi : i < r.length := by rw [h2]; exact (List.getElem?_eq_some_iff.1 hx).1
  exact ⟨r[i], by rw [h1, List.getElem?_eq_getElem hi], List.getElem?_eq_getElem hi⟩

theorem cells_at {a : Addr} {n : Nat} {vs : List Value} (h : w.cells? 0 a n = some vs) : vs.length = n ∧ ∀ (j : Nat) (v : Value), vs[j]? = some v → w.cell? (a.add j) = some v := by
  simp only [World.cells?, Nat.zero_le, if_true] at h
  have hl := Go.mapM_some_length h
  simp only [List.length_range] at hl
  refine ⟨hl, fun j v hv => ?_⟩
  have hj : j < n := by rw [← hl]; exact (List.getElem?_eq_some_iff.1 hv).1
  have := Go.mapM_some_get h j j (by simp [hj])
  rw [this]; exact hv

theorem add_add (b o x y : Nat) : ((⟨b, o, none⟩ : Addr).add x).add y = ⟨b, o + x + y, none⟩ := by
  rw [addr_add, addr_add]

theorem CRep.mk_any {S : Nat → Nat → Prop} {sz : Nat} {es : List (List C)} {a : Addr} {len cap : Nat} (hl : es.length = len) (hc : len ≤ cap) (hm : len ≤ 9223372036854775807) (hs : cap ≠ 0 → a.spot = none)
    (h : ∀ (i : Nat) (row : List C), es[i]? = some row → row.length = sz ∧ RowAt w S a.block (a.off + i * sz) row) : CRep w S (.sl sz es) (.slice (some a) len cap) := by
  by_cases h0 : cap = 0
  · subst h0
    have : len = 0 := by omega
    subst this
    have : es = [] := List.eq_nil_of_length_eq_zero hl
    subst this
    exact .emp sz _
  · obtain ⟨b, o, sp⟩ := a
    have := hs h0
    simp only at this
    subst this
    exact CRep.mk_sl hl hc hm h

/-- A reading's cells stand for cells of the abstract machine. -/
theorem trod_has (hL : closedB P L = true) : ∀ (fuel : Nat) (t : TypeId) (vs : List Value) (d : DataW H) (p : List MemPlace), t ∈ L →
    DataW.trod enc P w 0 (fun _ => true) true fuel t vs = some (d, p) → ∃ cs, hasTy P fuel t cs ∧ All2 (CRep w (topG w).S) cs vs ∧ cs.length = P.cellsOf t
  | 0, t, vs, d, p, _, h => by simp [DataW.trod] at h
  | fuel + 1, t, vs, d, p, ht, h => by
    have IH := trod_has hL fuel
    have hc := List.all_eq_true.1 hL t ht
    unfold DataW.trod at h
    split at h
    · rename_i b hu
      simp only [hu, beq_iff_eq] at hc
      exact ⟨[.b b], by simp only [hasTy, hu]; exact ⟨_, rfl⟩, ⟨.b b, trivial⟩, hc.symm⟩
    · rename_i k k' n hu
      simp only [hu, beq_iff_eq] at hc
      split at h
      · rename_i hk
        obtain ⟨rfl, hwf⟩ := hk
        exact ⟨[.i k' n], by simp only [hasTy, hu]; exact ⟨n, rfl, hwf⟩, ⟨.i _ n, trivial⟩, hc.symm⟩
      · simp at h
    · rename_i hu; simp only [hu] at hc; simp at hc
    · rename_i s hu
      simp only [hu, beq_iff_eq] at hc
      split at h
      · rename_i hs
        have hs' : s.data.toList.length ≤ 9223372036854775807 := by
          have h1 : s.data.toList.length = s.size := rfl
          have h2 : maxLen = 9223372036854775807 := by decide
          omega
        refine ⟨[.s s.data.toList], by simp only [hasTy, hu]; exact ⟨_, rfl⟩, ⟨?_, trivial⟩, hc.symm⟩
        have := CRep.s (w := w) (S := (topG w).S) s.data.toList hs'
        rwa [str_eta] at this
      · simp at h
    · rename_i hu; simp only [hu] at hc; simp at hc
    · rename_i hu; simp only [hu] at hc; simp at hc
    · rename_i e hu
      simp only [hu, Bool.and_eq_true, beq_iff_eq] at hc
      exact ⟨[.sl (P.cellsOf e) []], by simp [hasTy, hu], ⟨.nil _, trivial⟩, hc.1.1.symm⟩
    · rename_i e a len cap hu
      simp only [hu, Bool.and_eq_true, beq_iff_eq, decide_eq_true_eq, bne_iff_ne] at hc
      obtain ⟨⟨hc1, heL⟩, hsz0⟩ := hc
      simp only at h
      split at h
      · rename_i hb
        obtain ⟨_, hlc, hcm⟩ := hb
        have hmax : len ≤ 9223372036854775807 := by
          have h2 : maxLen = 9223372036854775807 := by decide
          omega
        simp only [Option.bind_eq_some_iff, if_true, Option.map_eq_some_iff] at h
        obtain ⟨elems, h1, rest, h2, _⟩ := h
        have hel : ∀ i, i < cap → ∃ ci y, w.cells? 0 (a.add (i * P.cellsOf e)) (P.cellsOf e) = some ci ∧ DataW.trod enc P w 0 (fun _ => true) true fuel e ci = some y := by
          intro i hi
          by_cases hil : i < len
          · obtain ⟨y, hy, _⟩ := mapM_at h1 (i := i) (x := i) (by simp [hil])
            simp only [Option.bind_eq_some_iff] at hy
            obtain ⟨ci, q1, q2⟩ := hy
            exact ⟨ci, y, q1, q2⟩
          · obtain ⟨y, hy, _⟩ := mapM_at h2 (i := i - len) (x := i - len) (by simp [show i - len < cap - len by omega])
            rw [show len + (i - len) = i by omega] at hy
            simp only [Option.bind_eq_some_iff] at hy
            obtain ⟨ci, q1, q2⟩ := hy
            exact ⟨ci, y, q1, q2⟩
        have hspot : cap ≠ 0 → a.spot = none := by
          intro h0
          obtain ⟨ci, y, q1, _⟩ := hel 0 (by omega)
          obtain ⟨q3, q4⟩ := cells_at q1
          have hlt : 0 < ci.length := by omega
          have := q4 0 _ (List.getElem?_eq_getElem hlt)
          simpa [Addr.add] using World.cell?_spot this
        obtain ⟨es, hesl, hes⟩ := list_of (R := fun i row => hasTy P fuel e row ∧ row.length = P.cellsOf e ∧ RowAt w (topG w).S a.block (a.off + i * P.cellsOf e) row) len (by
          intro i hi
          obtain ⟨ci, ⟨y1, y2⟩, q1, q2⟩ := hel i (by omega)
          obtain ⟨row, r1, r2, r3⟩ := IH e ci y1 y2 heL q2
          refine ⟨row, r1, r3, fun j c hj => ?_⟩
          obtain ⟨v, hv, hrep⟩ := r2.get j c hj
          have hcell := (cells_at q1).2 j v hv
          have hsp := hspot (by omega)
          obtain ⟨b, o, sp⟩ := a
          simp only at hsp
          subst hsp
          rw [add_add] at hcell
          exact ⟨topG_S (World.block_lt_of_cell? w ⟨b, o + i * P.cellsOf e + j, none⟩ hcell), v, hcell, hrep⟩)
        refine ⟨[.sl (P.cellsOf e) es], ?_, ⟨?_, trivial⟩, hc1.symm⟩
        · simp only [hasTy, hu]
          refine ⟨es, rfl, fun row hr => ?_⟩
          obtain ⟨i, hi⟩ := List.getElem?_of_mem hr
          exact (hes i row hi).1
        · exact CRep.mk_any hesl hlc hmax hspot fun i row hi => (hes i row hi).2
      · simp at h
    · rename_i vs _ _ fs hu
      simp only [hu, beq_iff_eq] at hc
      split at h
      · rename_i hlen
        simp only [Option.map_eq_some_iff] at h
        obtain ⟨xs, hxs, _⟩ := h
        have key : ∀ (fs : List Field) (off : Nat) (xs : List (DataW H × List MemPlace)), flatB P L fs off = some (P.cellsOf t) →
            (fs.mapM fun f => DataW.trod enc P w 0 (fun _ => true) true fuel f.type ((vs.drop f.offset).take (P.cellsOf f.type))) = some xs →
            ∃ cs, hasFs (hasTy P fuel) fs cs ∧ All2 (CRep w (topG w).S) cs (vs.drop off) ∧ cs.length = P.cellsOf t - off := by
          intro fs
          induction fs with
          | nil =>
            intro off xs hf _
            simp only [flatB, Option.some.injEq] at hf
            refine ⟨[], rfl, ?_, by simp; omega⟩
            rw [List.drop_eq_nil_of_le (by omega)]
            trivial
          | cons f r ih =>
            intro off xs hf hm
            simp only [flatB] at hf
            split at hf
            · rename_i hfo
              obtain ⟨rfl, hfL⟩ := hfo
              simp only [List.mapM_cons, Option.bind_eq_bind, Option.bind_eq_some_iff] at hm
              obtain ⟨⟨y1, y2⟩, hy, ys, hys, _⟩ := hm
              obtain ⟨a, a1, a2, a3⟩ := IH _ _ _ _ hfL hy
              obtain ⟨b, b1, b2, b3⟩ := ih _ _ hf hys
              have hle := flatB_le hf
              refine ⟨a ++ b, ⟨a, b, rfl, a1, b1⟩, ?_, by simp; omega⟩
              have := a2.append b2
              rwa [← List.drop_drop, List.take_append_drop] at this
            · simp at hf
        obtain ⟨cs, c1, c2, c3⟩ := key fs.toList 0 xs hc hxs
        exact ⟨cs, by simp only [hasTy, hu]; exact c1, by simpa using c2, by simpa using c3⟩
      · simp at h
    · rename_i vs _ _ n e hu
      simp only [hu, Bool.and_eq_true, beq_iff_eq, decide_eq_true_eq] at hc
      obtain ⟨heL, hct⟩ := hc
      split at h
      · rename_i hlen
        simp only [Option.map_eq_some_iff] at h
        obtain ⟨xs, hxs, _⟩ := h
        have key : ∀ (m k : Nat), k + m = n → ∃ cs, hasN (hasTy P fuel e) m cs ∧ All2 (CRep w (topG w).S) cs (vs.drop (k * P.cellsOf e)) ∧ cs.length = m * P.cellsOf e := by
          intro m
          induction m with
          | zero =>
            intro k hk
            refine ⟨[], rfl, ?_, by simp⟩
            have : k = n := by omega
            subst this
            rw [List.drop_eq_nil_of_le (by omega)]
            trivial
          | succ m ih =>
            intro k hk
            obtain ⟨⟨y1, y2⟩, hy, _⟩ := mapM_at hxs (i := k) (x := k) (by simp [show k < n by omega])
            obtain ⟨a, a1, a2, a3⟩ := IH _ _ _ _ heL hy
            obtain ⟨b, b1, b2, b3⟩ := ih (k + 1) (by omega)
            refine ⟨a ++ b, ⟨a, b, rfl, a1, b1⟩, ?_, by simp [a3, b3, Nat.succ_mul]; omega⟩
            have := a2.append b2
            rwa [Nat.succ_mul, ← List.drop_drop, List.take_append_drop] at this
        obtain ⟨cs, c1, c2, c3⟩ := key n 0 (by omega)
        exact ⟨cs, by simp only [hasTy, hu]; exact c1, by simpa using c2, by rw [c3, hct]⟩
      · simp at h
    all_goals first | (rename_i hu; simp only [hu] at hc; simp at hc) | (simp at h) | trace_state
end
end Go.Abs
