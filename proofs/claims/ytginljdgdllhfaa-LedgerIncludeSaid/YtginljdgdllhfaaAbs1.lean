/- Values of the abstract machine, and what they stand for in a world. -/
import Derived.Calls
import Derived.Orders
import Derived.Laws.Sem
import Derived.Laws.World
import Derived.Laws.Cells
set_option linter.unusedVariables false
set_option linter.unusedSimpArgs false
namespace Go.Abs

/-- One cell: a bool, an integer, a string, a slice (as the list of its elements, each a list of cells), or a value that is carried along. -/
inductive C where
  | b (x : Bool)
  | i (k : IntKind) (n : Int)
  | s (l : List UInt8)
  | sl (sz : Nat) (es : List (List C))
  | o (v : Value)
  deriving Inhabited

/-- Pointwise. -/
def All2 {α β : Type} (R : α → β → Prop) : List α → List β → Prop
  | [], [] => True
  | a :: as, b :: bs => R a b ∧ All2 R as bs
  | _, _ => False

section
variable {α β : Type} {R R' : α → β → Prop}
theorem All2.len : ∀ {as : List α} {bs : List β}, All2 R as bs → as.length = bs.length
  | [], [], _ => rfl
  | _ :: _, _ :: _, h => by simp [All2.len h.2]
  | [], _ :: _, h => h.elim
  | _ :: _, [], h => h.elim
theorem All2.mono (hr : ∀ a b, R a b → R' a b) : ∀ {as : List α} {bs : List β}, All2 R as bs → All2 R' as bs
  | [], [], _ => trivial
  | _ :: _, _ :: _, h => ⟨hr _ _ h.1, All2.mono hr h.2⟩
  | [], _ :: _, h => h.elim
  | _ :: _, [], h => h.elim
theorem All2.get : ∀ {as : List α} {bs : List β}, All2 R as bs → ∀ (j : Nat) (a : α), as[j]? = some a → ∃ b, bs[j]? = some b ∧ R a b
  | [], [], _, j, a, h => by simp at h
  | a :: as, b :: bs, h, 0, a', e => by simp at e; subst e; exact ⟨b, rfl, h.1⟩
  | a :: as, b :: bs, h, j + 1, a', e => by simpa using All2.get h.2 j a' (by simpa using e)
  | [], _ :: _, h, _, _, _ => h.elim
  | _ :: _, [], h, _, _, _ => h.elim
theorem All2.mk : ∀ {as : List α} {bs : List β}, as.length = bs.length → (∀ (j : Nat) (a : α) (b : β), as[j]? = some a → bs[j]? = some b → R a b) → All2 R as bs
  | [], [], _, _ => trivial
  | a :: as, b :: bs, hl, h => ⟨h 0 a b rfl rfl, All2.mk (by simpa using hl) fun j a b ha hb => h (j + 1) a b (by simpa using ha) (by simpa using hb)⟩
  | [], _ :: _, hl, _ => by simp at hl
  | _ :: _, [], hl, _ => by simp at hl
theorem All2.append : ∀ {as as' : List α} {bs bs' : List β}, All2 R as bs → All2 R as' bs' → All2 R (as ++ as') (bs ++ bs')
  | [], _, [], _, _, h' => h'
  | _ :: _, _, _ :: _, _, h, h' => ⟨h.1, All2.append h.2 h'⟩
  | [], _, _ :: _, _, h, _ => h.elim
  | _ :: _, _, [], _, h, _ => h.elim
theorem All2.take (n : Nat) {as : List α} {bs : List β} (h : All2 R as bs) : All2 R (as.take n) (bs.take n) :=
  All2.mk (by simp [h.len]) fun j a b ha hb => by
    simp only [List.getElem?_take] at ha hb
    split at ha
    · rename_i hj
      simp only [hj, if_true] at hb
      obtain ⟨b', hb', hr⟩ := h.get j a ha
      rw [hb] at hb'
      simp at hb'
      subst hb'
      exact hr
    · simp at ha
theorem All2.drop (n : Nat) {as : List α} {bs : List β} (h : All2 R as bs) : All2 R (as.drop n) (bs.drop n) :=
  All2.mk (by simp [h.len]) fun j a b ha hb => by
    simp only [List.getElem?_drop] at ha hb
    obtain ⟨b', hb', hr⟩ := h.get _ a ha
    rw [hb] at hb'
    simp at hb'
    subst hb'
    exact hr
end

/-- What a cell stands for: 'S' says which cells of the heap never change again. -/
inductive CRep (w : World) (S : Nat → Nat → Prop) : C → Value → Prop where
  | b (x : Bool) : CRep w S (.b x) (.bool x)
  | i (k : IntKind) (n : Int) : CRep w S (.i k n) (.int k n)
  | s (l : List UInt8) (hm : l.length ≤ 9223372036854775807) : CRep w S (.s l) (.string ⟨l.toArray⟩)
  | emp (sz : Nat) (a : Option Addr) : CRep w S (.sl sz []) (.slice a 0 0)
  | sl (sz : Nat) (es : List (List C)) (blk off len cap : Nat) (vals : Nat → Nat → Value) (hl : es.length = len) (hc : len ≤ cap) (hm : len ≤ 9223372036854775807)
      (hsz : ∀ (i : Nat) (row : List C), es[i]? = some row → row.length = sz)
      (hcell : ∀ i j, i < len → j < sz → S blk (off + i * sz + j) ∧ w.cell? ⟨blk, off + i * sz + j, none⟩ = some (vals i j))
      (hrep : ∀ (i : Nat) (row : List C) (j : Nat) (c : C), es[i]? = some row → row[j]? = some c → CRep w S c (vals i j)) : CRep w S (.sl sz es) (.slice (some ⟨blk, off, none⟩) len cap)
  | o (v : Value) (h1 : v.oneCell' = true) : CRep w S (.o v) v

theorem CRep.nil {w : World} {S : Nat → Nat → Prop} (sz : Nat) : CRep w S (.sl sz []) (.slice none 0 0) := .emp sz none

theorem CRep.one {w : World} {S : Nat → Nat → Prop} {c : C} {v : Value} (h : CRep w S c v) : v.oneCell' = true := by
  cases h <;> first | rfl | assumption

theorem CRep.mono {w w' : World} {S S' : Nat → Nat → Prop} {c : C} {v : Value} (hS : ∀ b o, S b o → S' b o)
    (hw : ∀ b o, S b o → w'.cell? ⟨b, o, none⟩ = w.cell? ⟨b, o, none⟩) (h : CRep w S c v) : CRep w' S' c v := by
  induction h with
  | b x => exact .b x
  | i k n => exact .i k n
  | s l hm => exact .s l hm
  | emp sz a => exact .emp sz a
  | sl sz es blk off len cap vals hl hc hm hsz hcell hrep ih =>
    exact .sl sz es blk off len cap vals hl hc hm hsz (fun i j hi hj => by
      obtain ⟨h1, h2⟩ := hcell i j hi hj
      exact ⟨hS _ _ h1, by rw [hw _ _ h1, h2]⟩) (fun i row j c hi hj => ih i row j c hi hj)
  | o v h1 => exact .o v h1

/-- Cells that never change again, in a row from 'off' on. -/
def RowAt (w : World) (S : Nat → Nat → Prop) (blk off : Nat) (cs : List C) : Prop :=
  ∀ (j : Nat) (c : C), cs[j]? = some c → S blk (off + j) ∧ ∃ v, w.cell? ⟨blk, off + j, none⟩ = some v ∧ CRep w S c v

theorem RowAt.mono {w w' : World} {S S' : Nat → Nat → Prop} {blk off : Nat} {cs : List C} (hS : ∀ b o, S b o → S' b o)
    (hw : ∀ b o, S b o → w'.cell? ⟨b, o, none⟩ = w.cell? ⟨b, o, none⟩) (h : RowAt w S blk off cs) : RowAt w' S' blk off cs := by
  intro j c hj
  obtain ⟨h1, v, h2, h3⟩ := h j c hj
  exact ⟨hS _ _ h1, v, by rw [hw _ _ h1, h2], h3.mono hS hw⟩

/-- A slice's element. -/
theorem CRep.elem {w : World} {S : Nat → Nat → Prop} {sz : Nat} {es : List (List C)} {blk off len cap : Nat}
    (h : CRep w S (.sl sz es) (.slice (some ⟨blk, off, none⟩) len cap)) : es.length = len ∧ len ≤ cap ∧ len ≤ 9223372036854775807 ∧ (∀ (i : Nat) (row : List C), es[i]? = some row → row.length = sz ∧ RowAt w S blk (off + i * sz) row) := by
  cases h with
  | emp => exact ⟨rfl, Nat.le_refl _, by omega, fun i row hi => by simp at hi⟩
  | sl _ _ _ _ _ _ vals hl hc hm hsz hcell hrep =>
    refine ⟨hl, hc, hm, fun i row hi => ⟨hsz i row hi, fun j c hj => ?_⟩⟩
    have hi' : i < len := by rw [← hl]; exact (List.getElem?_eq_some_iff.1 hi).1
    have hj' : j < sz := by rw [← hsz i row hi]; exact (List.getElem?_eq_some_iff.1 hj).1
    obtain ⟨h1, h2⟩ := hcell i j hi' hj'
    exact ⟨h1, _, h2, hrep i row j c hi hj⟩

/-- A slice out of its elements. -/
theorem CRep.mk_sl {w : World} {S : Nat → Nat → Prop} {sz : Nat} {es : List (List C)} {blk off len cap : Nat} (hl : es.length = len) (hc : len ≤ cap) (hm : len ≤ 9223372036854775807)
    (h : ∀ (i : Nat) (row : List C), es[i]? = some row → row.length = sz ∧ RowAt w S blk (off + i * sz) row) : CRep w S (.sl sz es) (.slice (some ⟨blk, off, none⟩) len cap) := by
  refine .sl sz es blk off len cap (fun i j => (w.cell? ⟨blk, off + i * sz + j, none⟩).getD default) hl hc hm (fun i row hi => (h i row hi).1) ?_ ?_
  · intro i j hi hj
    have hi' : es[i]? = some (es[i]'(by omega)) := List.getElem?_eq_getElem (by omega)
    obtain ⟨h1, h2⟩ := h i _ hi'
    have hj' : (es[i]'(by omega))[j]? = some ((es[i]'(by omega))[j]'(by omega)) := List.getElem?_eq_getElem (by omega)
    obtain ⟨h3, v, h4, _⟩ := h2 j _ hj'
    exact ⟨h3, by rw [h4]; rfl⟩
  · intro i row j c hi hj
    obtain ⟨h1, h2⟩ := h i row hi
    obtain ⟨h3, v, h4, h5⟩ := h2 j c hj
    rw [h4]
    exact h5

theorem CRep.lenMax {w : World} {S : Nat → Nat → Prop} {sz : Nat} {es : List (List C)} {v : Value} (h : CRep w S (.sl sz es) v) : es.length ≤ 9223372036854775807 := by
  cases h with
  | emp => simp
  | sl _ _ blk off len cap vals hl hc hm hsz hcell hrep => omega
theorem CRep.strMax {w : World} {S : Nat → Nat → Prop} {l : List UInt8} {v : Value} (h : CRep w S (.s l) v) : l.length ≤ 9223372036854775807 := by
  cases h; assumption
/-- Either nil or somewhere. -/
theorem CRep.sl_cases {w : World} {S : Nat → Nat → Prop} {sz : Nat} {es : List (List C)} {v : Value} (h : CRep w S (.sl sz es) v) :
    (∃ a, v = .slice a 0 0 ∧ es = []) ∨ ∃ blk off len cap, v = .slice (some ⟨blk, off, none⟩) len cap ∧ es.length = len := by
  cases h with
  | emp _ a => exact .inl ⟨a, rfl, rfl⟩
  | sl _ _ blk off len cap vals hl hc hm hsz hcell hrep => exact .inr ⟨blk, off, len, cap, rfl, hl⟩

/-- The names of boxes: a local one by the slot that holds its address, one that was handed in by its number. -/
inductive Nm where
  | l (k : Nat)
  | o (j : Nat)
  deriving DecidableEq
/-- Where a slice lies that may grow in place: in a slot, or in a box. -/
inductive Pl where
  | t (k : Nat)
  | b (n : Nm) (off : Nat)
  deriving DecidableEq
/-- Whose is a cell of the heap? -/
inductive Who where
  | none
  | imm
  | box (n : Nm)
  | own (p : Pl)
structure Gh where
  W : Nat → Nat → Who
  A : Nm → Nat × Nat
def Gh.S (G : Gh) (b o : Nat) : Prop := G.W b o = .imm

/-- What stands in a slot. 'ro': the address of cells that never change again; 'ptr': an address in a box; 'ms': a slice over a box. -/
inductive Y where
  | c (x : C)
  | agg (cs : List C)
  | ro (cs : List C)
  | ptr (n : Nm) (off : Nat)
  | ms (n : Nm) (sz off len : Nat)
  deriving Inhabited
inductive X where
  | v (y : Y)
  | tup (ys : List Y)
  | fn (f : FuncId) (caps : List Y)
  deriving Inhabited

def YRep (w : World) (G : Gh) : Y → Value → Prop
  | .c x, v => CRep w G.S x v
  | .agg cs, v => ∃ vs : List Value, v = .agg vs.toArray ∧ All2 (CRep w G.S) cs vs
  | .ro cs, v => ∃ blk off, v = .pointer (some ⟨blk, off, none⟩) ∧ RowAt w G.S blk off cs
  | .ptr n off, v => v = .pointer (some ⟨(G.A n).1, (G.A n).2 + off, none⟩)
  | .ms n _ off len, v => (len = 0 ∧ v = .slice none 0 0) ∨ ∃ cap, len ≤ cap ∧ v = .slice (some ⟨(G.A n).1, (G.A n).2 + off, none⟩) len cap
def XRep (w : World) (G : Gh) : X → Value → Prop
  | .v z, u => YRep w G z u
  | .tup ys, v => ∃ vs : List Value, v = .tuple vs.toArray ∧ All2 (YRep w G) ys vs
  | .fn f caps, v => ∃ vs : List Value, v = .func (.func f) #[] vs.toArray ∧ All2 (YRep w G) caps vs

/-- The names that a value bears. -/
def Y.has (n : Nm) : Y → Bool
  | .ptr m _ | .ms m _ _ _ => m == n
  | _ => false
def X.has (n : Nm) : X → Bool
  | .v z => z.has n
  | .tup ys | .fn _ ys => ys.any (·.has n)

theorem YRep.mono {w w' : World} {G G' : Gh} (hS : ∀ b o, G.S b o → G'.S b o) (hw : ∀ b o, G.S b o → w'.cell? ⟨b, o, none⟩ = w.cell? ⟨b, o, none⟩)
    {y : Y} {v : Value} (hA : ∀ n, y.has n = true → G'.A n = G.A n) (h : YRep w G y v) : YRep w' G' y v := by
  cases y with
  | c x => exact CRep.mono hS hw h
  | agg cs => obtain ⟨vs, h1, h2⟩ := h; exact ⟨vs, h1, h2.mono fun _ _ => CRep.mono hS hw⟩
  | ro cs => obtain ⟨blk, off, h1, h2⟩ := h; exact ⟨blk, off, h1, h2.mono hS hw⟩
  | ptr n off => simp only [YRep] at h ⊢; rw [hA n (by simp [Y.has])]; exact h
  | ms n sz off len => simp only [YRep] at h ⊢; rw [hA n (by simp [Y.has])]; exact h

theorem All2.mem_mono {α β : Type} {R R' : α → β → Prop} : ∀ {as : List α} {bs : List β}, (∀ a b, a ∈ as → R a b → R' a b) → All2 R as bs → All2 R' as bs
  | [], [], _, _ => trivial
  | _ :: _, _ :: _, hr, h => ⟨hr _ _ (by simp) h.1, All2.mem_mono (fun a b ha => hr a b (by simp [ha])) h.2⟩
  | [], _ :: _, _, h => h.elim
  | _ :: _, [], _, h => h.elim

theorem XRep.mono {w w' : World} {G G' : Gh} (hS : ∀ b o, G.S b o → G'.S b o) (hw : ∀ b o, G.S b o → w'.cell? ⟨b, o, none⟩ = w.cell? ⟨b, o, none⟩)
    {x : X} {v : Value} (hA : ∀ n, x.has n = true → G'.A n = G.A n) (h : XRep w G x v) : XRep w' G' x v := by
  cases x with
  | v z => exact YRep.mono hS hw hA h
  | tup ys =>
    obtain ⟨vs, h1, h2⟩ := h
    exact ⟨vs, h1, All2.mem_mono (fun a b ha => YRep.mono hS hw fun n hn => hA n (by simp only [X.has, List.any_eq_true]; exact ⟨a, ha, hn⟩)) h2⟩
  | fn f caps =>
    obtain ⟨vs, h1, h2⟩ := h
    exact ⟨vs, h1, All2.mem_mono (fun a b ha => YRep.mono hS hw fun n hn => hA n (by simp only [X.has, List.any_eq_true]; exact ⟨a, ha, hn⟩)) h2⟩

end Go.Abs
