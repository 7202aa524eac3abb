/- The abstract state, and when a frame and a world stand for it. -/
import Derived.Test.YtginljdgdllhfaaAbs1
import Derived.Below
import Derived.Deep.MidRow
set_option linter.unusedVariables false
set_option linter.unusedSimpArgs false
namespace Go.Abs

theorem nat_beq_ne {x y : Nat} (h : ¬ x = y) : Nat.beq x y = false := by
  cases hb : Nat.beq x y with
  | true => exact absurd (Nat.eq_of_beq_eq_true hb) h
  | false => rfl
def Nm.beq : Nm → Nm → Bool
  | .l x, .l y => Nat.beq x y
  | .o x, .o y => Nat.beq x y
  | _, _ => false
theorem Nm.beq_iff {m n : Nm} : Nm.beq m n = true ↔ m = n := by
  cases m <;> cases n <;> simp [Nm.beq]
theorem Nm.beq_self (n : Nm) : Nm.beq n n = true := Nm.beq_iff.2 rfl
theorem Nm.beq_ne {m n : Nm} (h : m ≠ n) : Nm.beq m n = false := by
  cases hb : Nm.beq m n with
  | true => exact absurd (Nm.beq_iff.1 hb) h
  | false => rfl
def Pl.beq : Pl → Pl → Bool
  | .t x, .t y => Nat.beq x y
  | .b m x, .b n y => Nm.beq m n && Nat.beq x y
  | _, _ => false
theorem Pl.beq_iff {p q : Pl} : Pl.beq p q = true ↔ p = q := by
  cases p <;> cases q <;> simp [Pl.beq, Nm.beq_iff]
theorem Pl.beq_self (p : Pl) : Pl.beq p p = true := Pl.beq_iff.2 rfl
theorem Pl.beq_ne {p q : Pl} (h : p ≠ q) : Pl.beq p q = false := by
  cases hb : Pl.beq p q with
  | true => exact absurd (Pl.beq_iff.1 hb) h
  | false => rfl

/-- The abstract state: what stands in the slots (under a gate: 'false' says that the operation was passed over), in the boxes, and which places own the row behind their slice (with the element's size). -/
structure St where
  t : List (Nat × Bool × X)
  bx : List (Nm × List C)
  ow : List (Pl × Nat)

def getT : List (Nat × Bool × X) → Nat → Option (Bool × X)
  | [], _ => none
  | (j, e) :: r, k => cond (Nat.beq j k) (some e) (getT r k)
def getB : List (Nm × List C) → Nm → Option (List C)
  | [], _ => none
  | (m, e) :: r, n => cond (Nm.beq m n) (some e) (getB r n)
def getO : List (Pl × Nat) → Pl → Option Nat
  | [], _ => none
  | (q, e) :: r, p => cond (Pl.beq q p) (some e) (getO r p)
def St.get (st : St) (k : Nat) : Option (Bool × X) := getT st.t k
def St.box (st : St) (n : Nm) : Option (List C) := getB st.bx n
def St.own (st : St) (p : Pl) : Option Nat := getO st.ow p

theorem getT_cons (j : Nat) (e : Bool × X) (r : List (Nat × Bool × X)) (k : Nat) : getT ((j, e) :: r) k = if j = k then some e else getT r k := by
  by_cases h : j = k
  · subst h; simp [getT]
  · simp [getT, h, nat_beq_ne h]
theorem getB_cons (m : Nm) (e : List C) (r : List (Nm × List C)) (n : Nm) : getB ((m, e) :: r) n = if m = n then some e else getB r n := by
  by_cases h : m = n
  · subst h; simp [getB, Nm.beq_self]
  · simp [getB, h, Nm.beq_ne h]
theorem getO_cons (q : Pl) (e : Nat) (r : List (Pl × Nat)) (p : Pl) : getO ((q, e) :: r) p = if q = p then some e else getO r p := by
  by_cases h : q = p
  · subst h; simp [getO, Pl.beq_self]
  · simp [getO, h, Pl.beq_ne h]
theorem getO_filter (f : Pl → Bool) : ∀ (l : List (Pl × Nat)) (p : Pl), getO (l.filter fun q => f q.1) p = if f p = true then getO l p else none
  | [], p => by simp [getO]
  | (q, e) :: r, p => by
    simp only [List.filter_cons]
    by_cases hq : q = p
    · subst hq
      by_cases hf : f q = true
      · simp [hf, getO_cons]
      · simp only [hf]
        rw [if_neg (by simp), getO_filter f r q]
        simp [hf]
    · split
      · rw [getO_cons, getO_cons, if_neg hq, if_neg hq, getO_filter f r p]
      · rw [getO_cons, if_neg hq, getO_filter f r p]

/-- The run's frame: the heap's size and the world at the entry, what may be written of what was there, and whose the cells were. -/
structure Env where
  B : Nat
  w0 : World
  W0 : Nat → Nat → Who
  A0 : Nat → Nat × Nat
  nt : Nat
/-- What the run may write of what was there. -/
def Env.M (E : Env) (b o : Nat) : Prop := (∃ n, E.W0 b o = .box n) ∨ ∃ p, E.W0 b o = .own p

/-- Nothing below 'B' has turned but what 'M' says. -/
structure Fr (M : Nat → Nat → Prop) (B : Nat) (w w' : World) : Prop where
  os : w'.os = w.os
  tape : w'.tape = w.tape
  output : w'.output = w.output
  size : w.heap.size ≤ w'.heap.size
  block : ∀ b, b < B → (∀ o, ¬ M b o) → w'.heap[b]? = w.heap[b]?
  cell : ∀ b o, b < B → ¬ M b o → w'.cell? ⟨b, o, none⟩ = w.cell? ⟨b, o, none⟩
  frozen : ∀ b o, b < B → w'.frozen? ⟨b, o, none⟩ = w.frozen? ⟨b, o, none⟩
  shape : ∀ b, b < B → w'.shape? b = w.shape? b

theorem Fr.refl (M : Nat → Nat → Prop) (B : Nat) (w : World) : Fr M B w w :=
  ⟨rfl, rfl, rfl, Nat.le_refl _, fun _ _ _ => rfl, fun _ _ _ _ => rfl, fun _ _ _ => rfl, fun _ _ => rfl⟩
theorem Fr.trans {M : Nat → Nat → Prop} {B : Nat} {a b c : World} (h : Fr M B a b) (k : Fr M B b c) : Fr M B a c :=
  ⟨k.os.trans h.os, k.tape.trans h.tape, k.output.trans h.output, Nat.le_trans h.size k.size, fun i hi hm => (k.block i hi hm).trans (h.block i hi hm),
    fun i o hi hm => (k.cell i o hi hm).trans (h.cell i o hi hm), fun i o hi => (k.frozen i o hi).trans (h.frozen i o hi), fun i hi => (k.shape i hi).trans (h.shape i hi)⟩
theorem Fr.mono {M M' : Nat → Nat → Prop} {B B' : Nat} {w w' : World} (h : Fr M B w w') (hB : B' ≤ B) (hM : ∀ b o, b < B' → M b o → M' b o) : Fr M' B' w w' :=
  ⟨h.os, h.tape, h.output, h.size, fun i hi hm => h.block i (by omega) (fun o hmo => hm o (hM _ _ hi hmo)), fun i o hi hm => h.cell i o (by omega) (fun hmo => hm (hM _ _ hi hmo)),
    fun i o hi => h.frozen i o (by omega), fun i hi => h.shape i (by omega)⟩

/-- A box: its cells, none of them shared. -/
def BoxAt (w : World) (G : Gh) (n : Nm) (cs : List C) : Prop :=
  ∀ (j : Nat) (c : C), cs[j]? = some c → G.W (G.A n).1 ((G.A n).2 + j) = .box n ∧ w.frozen? ⟨(G.A n).1, (G.A n).2 + j, none⟩ = false ∧
    ∃ v, w.cell? ⟨(G.A n).1, (G.A n).2 + j, none⟩ = some v ∧ CRep w G.S c v

/-- A slice that owns the spare cells behind it. -/
def OwnAt (w : World) (G : Gh) (p : Pl) (sz : Nat) (v : Value) : Prop :=
  v = .slice none 0 0 ∨ ∃ blk len cap e, v = .slice (some ⟨blk, 0, none⟩) len cap ∧ len ≤ cap ∧ w.shape? blk = some (e, cap * sz) ∧
    ∀ o, len * sz ≤ o → o < cap * sz → G.W blk o = .own p ∧ w.frozen? ⟨blk, o, none⟩ = false

/-- The value at a place. -/
def ValAt (a : Act) (w : World) (G : Gh) : Pl → Value → Prop
  | .t k, v => a.tmps[k]? = some v
  | .b n off, v => w.cell? ⟨(G.A n).1, (G.A n).2 + off, none⟩ = some v ∧ G.W (G.A n).1 ((G.A n).2 + off) = .box n

structure Rel (E : Env) (G : Gh) (st : St) (a : Act) (w : World) : Prop where
  df : a.defers = []
  tm : ∀ k g x, st.get k = some (g, x) → ∃ v, a.tmps[k]? = some v ∧ (g = true → XRep w G x v) ∧ (g = false → v = undef)
  bx : ∀ n cs, st.box n = some cs → BoxAt w G n cs
  ow : ∀ p sz, st.own p = some sz → ∃ v, ValAt a w G p v ∧ OwnAt w G p sz v
  wf : ∀ b o, G.W b o ≠ .none → b < w.heap.size
  olB : ∀ b o n, b < E.B → G.W b o = .box n → E.M b o
  olO : ∀ b o p, b < E.B → G.W b o = .own p → ∃ q, E.W0 b o = .own q
  nt : a.tmps.size = E.nt
  oA : ∀ j, G.A (.o j) = E.A0 j
  im : ∀ b o, E.W0 b o = .imm → G.W b o = .imm
  im' : ∀ b o, b < E.B → G.W b o = .imm → E.W0 b o = .imm ∨ ∃ p, E.W0 b o = .own p
  fr : Fr E.M E.B E.w0 w
  hB : E.B ≤ E.w0.heap.size
  lo : ∀ b o, b < E.B → (∀ k, G.W b o ≠ .box (.l k)) ∧ ∀ p, G.W b o ≠ .own p

def St.put (st : St) (k : Nat) (e : Bool × X) : St :=
  { st with t := (k, e) :: st.t, ow := st.ow.filter fun q => !Pl.beq q.1 (.t k) }

theorem St.put_get (st : St) (k : Nat) (e : Bool × X) (j : Nat) : (st.put k e).get j = if j = k then some e else st.get j := by
  show getT ((k, e) :: st.t) j = _
  rw [getT_cons]
  by_cases h : k = j
  · subst h; simp
  · have h' : ¬ j = k := fun e => h e.symm
    simp [h, h', St.get]
theorem St.put_own (st : St) (k : Nat) (e : Bool × X) (p : Pl) : (st.put k e).own p = if p = .t k then none else st.own p := by
  show getO (st.ow.filter fun q => !Pl.beq q.1 (.t k)) p = _
  rw [getO_filter (fun q => !Pl.beq q (.t k))]
  by_cases h : p = .t k
  · subst h; simp [Pl.beq_self]
  · simp [h, Pl.beq_ne h, St.own]

theorem act_put_get {a : Act} {d : Nat} {v : Value} {k : Nat} (hk : k < a.tmps.size) : (a.put (some d) v).tmps[k]? = if k = d then some v else a.tmps[k]? := by
  simp only [Act.put, Array.getElem?_setIfInBounds]
  by_cases h : d = k
  · subst h; simp [hk]
  · have h' : ¬ k = d := fun e => h e.symm
    simp [h, h']

theorem lt_of_get {α : Type} {xs : Array α} {k : Nat} {v : α} (h : xs[k]? = some v) : k < xs.size := by
  rcases Nat.lt_or_ge k xs.size with h' | h'
  · exact h'
  · simp [Array.getElem?_eq_none h'] at h

/-- A slot is written: the world stands. -/
theorem Rel.put {E : Env} {G : Gh} {st : St} {a : Act} {w : World} (h : Rel E G st a w) {d : Nat} (hd' : d < E.nt) {g : Bool} {x : X} {v : Value}
    (hx : g = true → XRep w G x v) (hu : g = false → v = undef) : Rel E G (st.put d (g, x)) (a.put (some d) v) w where
  df := h.df
  tm := by
    have hd : d < a.tmps.size := by rw [h.nt]; exact hd'
    intro k g' x' hk
    rw [St.put_get] at hk
    split at hk
    · rename_i he; subst he
      simp only [Option.some.injEq, Prod.mk.injEq] at hk
      obtain ⟨rfl, rfl⟩ := hk
      exact ⟨v, by rw [act_put_get hd]; simp, hx, hu⟩
    · rename_i he
      obtain ⟨u, hu', h1, h2⟩ := h.tm k g' x' hk
      exact ⟨u, by rw [act_put_get (lt_of_get hu')]; simp [he, hu'], h1, h2⟩
  bx := h.bx
  ow := by
    have hd : d < a.tmps.size := by rw [h.nt]; exact hd'
    intro p sz hp
    rw [St.put_own] at hp
    split at hp
    · simp at hp
    · rename_i hne
      obtain ⟨u, hu', ho⟩ := h.ow p sz hp
      refine ⟨u, ?_, ho⟩
      cases p with
      | t k =>
        have hk : ¬ k = d := fun e => hne (by rw [e])
        show (a.put (some d) v).tmps[k]? = _
        rw [act_put_get (lt_of_get hu')]
        simp only [hk, if_false]
        exact hu'
      | b n off => exact hu'
  wf := h.wf
  olB := h.olB
  olO := h.olO
  nt := by rw [← h.nt]; simp [Act.put]
  oA := h.oA
  im := h.im
  im' := h.im'
  fr := h.fr
  hB := h.hB
  lo := h.lo

/-- Nothing is written: an operation without a slot. -/
theorem Rel.putNone {E : Env} {G : Gh} {st : St} {a : Act} {w : World} (h : Rel E G st a w) (v : Value) : Rel E G st (a.put none v) w := h

/-- Less is known. -/
structure Sub (s s' : St) : Prop where
  t : ∀ k e, s.get k = some e → s'.get k = some e
  bx : ∀ n cs, s.box n = some cs → s'.box n = some cs
  ow : ∀ p sz, s.own p = some sz → s'.own p = some sz
theorem Sub.refl (s : St) : Sub s s := ⟨fun _ _ h => h, fun _ _ h => h, fun _ _ h => h⟩
theorem Sub.trans {a b c : St} (h : Sub a b) (k : Sub b c) : Sub a c := ⟨fun _ _ x => k.t _ _ (h.t _ _ x), fun _ _ x => k.bx _ _ (h.bx _ _ x), fun _ _ x => k.ow _ _ (h.ow _ _ x)⟩
theorem Rel.sub {E : Env} {G : Gh} {st st' : St} {a : Act} {w : World} (hs : Sub st' st) (h : Rel E G st a w) : Rel E G st' a w where
  df := h.df
  tm := fun k g x hk => h.tm k g x (hs.t _ _ hk)
  bx := fun n cs hn => h.bx n cs (hs.bx _ _ hn)
  ow := fun p sz hp => h.ow p sz (hs.ow _ _ hp)
  wf := h.wf
  olB := h.olB
  olO := h.olO
  nt := h.nt
  oA := h.oA
  im := h.im
  im' := h.im'
  fr := h.fr
  hB := h.hB
  lo := h.lo

end Go.Abs
