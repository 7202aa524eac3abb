/- The program's types, and the operations that only compute or read. -/
import Derived.Test.YtginljdgdllhfaaAbs2
import Derived.Tactics
set_option linter.unusedVariables false
set_option linter.unusedSimpArgs false
namespace Go.Abs

structure TyI where
  n : Nat
  agg : Bool
  offs : List Nat
  el : Option (Nat × Nat × Nat)
  z : List C

def tyAt : List (Option TyI) → Nat → Option TyI
  | [], _ => none
  | x :: _, 0 => x
  | _ :: r, n + 1 => tyAt r n

def constV : C → Value → Bool
  | .b x, .bool y => x == y
  | .i k n, .int k' m => decide (k = k') && decide (n = m)
  | .s l, .string t => t.data.toList == l && Nat.ble t.data.toList.length 1000000
  | .sl _ [], .slice none 0 0 => true
  | .o (.pointer none), .pointer none => true
  | .o .nilFunc, .nilFunc => true
  | .o (.map none), .map none => true
  | .o .nilIface, .nilIface => true
  | _, _ => false

theorem str_eta (t : ByteArray) : (⟨t.data.toList.toArray⟩ : ByteArray) = t := by cases t; simp

theorem CRep.str {w : World} {S : Nat → Nat → Prop} (t : ByteArray) (h : Nat.ble t.data.toList.length 1000000 = true) : CRep w S (.s t.data.toList) (.string t) := by
  have := CRep.s (w := w) (S := S) t.data.toList (by have := Nat.le_of_ble_eq_true h; omega)
  rwa [str_eta] at this
theorem CRep.ofConst {w : World} {S : Nat → Nat → Prop} {c : C} {v : Value} (h : constV c v = true) : CRep w S c v := by
  unfold constV at h
  split at h
  · simp at h; subst h; exact .b _
  · simp at h; obtain ⟨rfl, rfl⟩ := h; exact .i _ _
  · rename_i l t
    rw [Bool.and_eq_true] at h
    have : l = t.data.toList := by simpa using (beq_iff_eq.1 h.1).symm
    subst this
    exact CRep.str t h.2
  · exact .nil _
  · exact .o _ rfl
  · exact .o _ rfl
  · exact .o _ rfl
  · exact .o _ rfl
  · simp at h

def all2B {α β : Type} (f : α → β → Bool) : List α → List β → Bool
  | [], [] => true
  | a :: as, b :: bs => f a b && all2B f as bs
  | _, _ => false
theorem All2.ofB {α β : Type} {f : α → β → Bool} : ∀ {as : List α} {bs : List β}, all2B f as bs = true → All2 (fun a b => f a b = true) as bs
  | [], [], _ => trivial
  | _ :: _, _ :: _, h => by simp only [all2B, Bool.and_eq_true] at h; exact ⟨h.1, All2.ofB h.2⟩
  | [], _ :: _, h => by simp [all2B] at h
  | _ :: _, [], h => by simp [all2B] at h

def isAggV : Value → Bool
  | .agg _ => true
  | _ => false

def tyB (P : Program) (t : TypeId) (ti : TyI) : Bool :=
  match P.info? t, P.underlying t with
  | some i, some d =>
    i.size == ti.n && d.isRow == ti.agg &&
    (match i.zero with | some zv => isAggV zv == ti.agg && all2B constV ti.z zv.cells.toList | none => false) &&
    (match d with
      | .struct fs => fs.size == ti.offs.length && all2B (fun (off : Nat) (f : Field) => f.offset == off && (match P.info? f.type with | some j => j.size != 0 | none => false)) ti.offs fs.toList && ti.el.isNone
      | .slice e => ti.offs.isEmpty && (match ti.el, P.info? e with
        | some (e', sz, by'), some j => e' == e && j.size == sz && j.bytes == by' && sz != 0 && (match j.zero with | some ze => ze.cells.size == sz | none => false)
        | _, _ => false)
      | _ => ti.offs.isEmpty && ti.el.isNone)
  | _, _ => false

def tabFrom (P : Program) : Nat → List (Option TyI) → Bool
  | _, [] => true
  | n, none :: r => tabFrom P (n + 1) r
  | n, some ti :: r => tyB P n ti && tabFrom P (n + 1) r

theorem tabFrom_at {P : Program} : ∀ {l : List (Option TyI)} {n : Nat}, tabFrom P n l = true → ∀ {k : Nat} {ti : TyI}, tyAt l k = some ti → tyB P (n + k) ti = true
  | [], _, _, k, _, h => by simp [tyAt] at h
  | none :: r, n, hb, 0, _, h => by simp [tyAt] at h
  | none :: r, n, hb, k + 1, _, h => by
    have := tabFrom_at (l := r) (n := n + 1) hb (k := k) h
    rwa [show n + 1 + k = n + (k + 1) by omega] at this
  | some ti :: r, n, hb, 0, _, h => by
    simp only [tabFrom, Bool.and_eq_true] at hb
    simp [tyAt] at h
    subst h
    exact hb.1
  | some ti :: r, n, hb, k + 1, _, h => by
    simp only [tabFrom, Bool.and_eq_true] at hb
    have := tabFrom_at (l := r) (n := n + 1) hb.2 (k := k) h
    rwa [show n + 1 + k = n + (k + 1) by omega] at this

/-- The program, a table of its types, and that the table is right. -/
structure Pg where
  P : Program
  T : List (Option TyI)
  ok : tabFrom P 0 T = true
  mix : P.follows .mixedOrders = true

variable {Z : Pg}

theorem Pg.ty (Z : Pg) {t : Nat} {ti : TyI} (h : tyAt Z.T t = some ti) : tyB Z.P t ti = true := by
  simpa using tabFrom_at Z.ok h

structure TyOk (P : Program) (t : TypeId) (ti : TyI) : Prop where
  info : ∃ i d zv, P.info? t = some i ∧ P.underlying t = some d ∧ i.size = ti.n ∧ d.isRow = ti.agg ∧ i.zero = some zv ∧ isAggV zv = ti.agg ∧ All2 (fun c v => constV c v = true) ti.z zv.cells.toList
  fld : ∀ (j off : Nat), ti.offs[j]? = some off → ∃ (fs : Array Field) (f : Field) (i : TypeInfo), P.underlying t = some (.struct fs) ∧ fs[j]? = some f ∧ f.offset = off ∧ P.info? f.type = some i ∧ i.size ≠ 0
  sl : ∀ e sz by', ti.el = some (e, sz, by') → P.underlying t = some (.slice e) ∧ ∃ j ze, P.info? e = some j ∧ j.size = sz ∧ j.bytes = by' ∧ sz ≠ 0 ∧ j.zero = some ze ∧ ze.cells.size = sz

theorem TyOk.ofB {P : Program} {t : TypeId} {ti : TyI} (h : tyB P t ti = true) : TyOk P t ti := by
  unfold tyB at h
  split at h
  · rename_i i d hi hd
    simp only [Bool.and_eq_true, beq_iff_eq] at h
    obtain ⟨⟨⟨h1, h2⟩, h3⟩, h4⟩ := h
    constructor
    · split at h3
      · rename_i zv hz
        simp only [Bool.and_eq_true, beq_iff_eq] at h3
        exact ⟨i, d, zv, hi, hd, h1, h2, hz, h3.1, All2.ofB h3.2⟩
      · simp at h3
    · intro j off hj
      split at h4
      · rename_i fs
        simp only [Bool.and_eq_true] at h4
        obtain ⟨f, hf, hr⟩ := (All2.ofB h4.1.2).get j off hj
        simp only [Bool.and_eq_true, beq_iff_eq] at hr
        obtain ⟨hr1, hr2⟩ := hr
        split at hr2
        · rename_i k hk
          exact ⟨fs, f, k, hd, by simpa using hf, hr1, hk, by simpa using hr2⟩
        · simp at hr2
      · simp only [Bool.and_eq_true, List.isEmpty_iff] at h4
        simp [h4.1] at hj
      · simp only [Bool.and_eq_true, List.isEmpty_iff] at h4
        simp [h4.1] at hj
    · intro e sz by' he
      split at h4
      · simp only [Bool.and_eq_true] at h4
        simp [he] at h4
      · rename_i e'
        simp only [Bool.and_eq_true] at h4
        obtain ⟨_, h4⟩ := h4
        rw [he] at h4
        split at h4
        · rename_i a b c k hk1 hk
          simp only [Option.some.injEq, Prod.mk.injEq] at hk1
          obtain ⟨rfl, rfl, rfl⟩ := hk1
          simp only [Bool.and_eq_true, beq_iff_eq, bne_iff_ne] at h4
          obtain ⟨⟨⟨⟨ha, hb⟩, hc⟩, hd'⟩, hz⟩ := h4
          subst ha
          split at hz
          · rename_i ze hze
            exact ⟨hd, k, ze, hk, hb, hc, hd', hze, by simpa using hz⟩
          · simp at hz
        · simp at h4
      · simp only [Bool.and_eq_true] at h4
        simp [he] at h4
  · simp at h

theorem Pg.tyOk (Z : Pg) {t : Nat} {ti : TyI} (h : tyAt Z.T t = some ti) : TyOk Z.P t ti := .ofB (Z.ty h)

/-! ### What an operand stands for -/
def lk (T : List (Option TyI)) (st : St) (ty : TypeId) : Operand → Option (Bool × X)
  | .tmp k => st.get k
  | .const v => match v with
    | .bool x => some (true, .v (.c (.b x)))
    | .int k n => some (true, .v (.c (.i k n)))
    | .string t => cond (Nat.ble t.data.toList.length 1000000) (some (true, .v (.c (.s t.data.toList)))) none
    | .slice none 0 0 => match tyAt T ty with | some ti => (match ti.el with | some (_, sz, _) => some (true, .v (.c (.sl sz []))) | none => none) | none => none
    | .nilFunc => some (true, .v (.c (.o .nilFunc)))
    | .pointer none => some (true, .v (.c (.o (.pointer none))))
    | .map none => some (true, .v (.c (.o (.map none))))
    | _ => none
  | .func f => some (true, .fn f [])
  | .global _ => none

theorem lk_rep {E : Env} {G : Gh} {st : St} {a : Act} {w : World} (hr : Rel E G st a w) {T : List (Option TyI)} {ty : TypeId} {o : Operand} {g : Bool} {x : X}
    (h : lk T st ty o = some (g, x)) (hg : g = true) : XRep w G x (a.eval o) := by
  unfold lk at h
  split at h
  · rename_i k
    obtain ⟨v, hv, h1, _⟩ := hr.tm k g x h
    have : a.eval (.tmp k) = v := by simp [Act.eval, Array.getD_eq_getD_getElem?, hv]
    rw [this]
    exact h1 hg
  · rename_i v
    split at h
    all_goals first
      | (simp only [Option.some.injEq, Prod.mk.injEq] at h; obtain ⟨_, rfl⟩ := h; first
          | exact CRep.b _
          | exact CRep.i _ _
          | exact CRep.o _ rfl)
      | (rename_i t
         cases hb : Nat.ble t.data.toList.length 1000000 with
         | false => simp only [hb, cond_false] at h; simp at h
         | true => simp only [hb, cond_true, Option.some.injEq, Prod.mk.injEq] at h; obtain ⟨_, rfl⟩ := h; exact CRep.str _ hb)
      | (split at h
         · split at h
           · simp only [Option.some.injEq, Prod.mk.injEq] at h; obtain ⟨_, rfl⟩ := h; exact CRep.nil _
           · simp at h
         · simp at h)
      | simp at h
  · simp only [Option.some.injEq, Prod.mk.injEq] at h
    obtain ⟨_, rfl⟩ := h
    exact ⟨[], rfl, trivial⟩
  · simp at h

/-- The operation yields a value that stands for 'x', in the world as it is. -/
def PureOk (Z : Pg) (st : St) (op : Op) (ty : TypeId) (gate : Bool) (x : X) : Prop :=
  ∀ (o : Oper) (E : Env) (G : Gh) (a : Act) (w : World), o.op = op → o.type = ty → Rel E G st a w → gate = true → ∃ v, XRep w G x v ∧ (execOp a.eval o).run Z.P w = .ok (.value v) w

section
variable {st : St} {ty : TypeId} {gate : Bool}

theorem pure_move {x : Operand} {g : Bool} {X' : X} (h : lk Z.T st ty x = some (g, X')) (hg : gate = true → g = true) : PureOk Z st (.move x) ty gate X' := by
  intro o E G a w ho _ hr hgt
  exact ⟨a.eval x, lk_rep hr h (hg hgt), by simp [execOp, ho]⟩
theorem pure_assign {x : Operand} {g : Bool} {X' : X} (h : lk Z.T st ty x = some (g, X')) (hg : gate = true → g = true) : PureOk Z st (.assign x) ty gate X' := by
  intro o E G a w ho _ hr hgt
  exact ⟨a.eval x, lk_rep hr h (hg hgt), by simp [execOp, ho]⟩

theorem XRep.bool {w : World} {G : Gh} {x : Bool} {v : Value} (h : XRep w G (.v (.c (.b x))) v) : v = .bool x := by
  cases h; rfl
theorem XRep.int {w : World} {G : Gh} {k : IntKind} {n : Int} {v : Value} (h : XRep w G (.v (.c (.i k n))) v) : v = .int k n := by
  cases h; rfl
theorem XRep.str {w : World} {G : Gh} {l : List UInt8} {v : Value} (h : XRep w G (.v (.c (.s l))) v) : v = .string ⟨l.toArray⟩ := by
  cases h; rfl

theorem eval_const (a : Act) (v : Value) : a.eval (.const v) = v := rfl
theorem XRep.mkBool {w : World} {G : Gh} (x : Bool) : XRep w G (.v (.c (.b x))) (.bool x) := CRep.b x
/-- 'a || b' -/
theorem pure_or {c b : Operand} {gc gb : Bool} {x y : Bool} (hc : lk Z.T st ty c = some (gc, .v (.c (.b x)))) (hb : lk Z.T st ty b = some (gb, .v (.c (.b y))))
    (hgc : gate = true → gc = true) (hgb : gate = true → x = false → gb = true) : PureOk Z st (.pick c (.const (.bool true)) b) ty gate (.v (.c (.b (x || y)))) := by
  intro o E G a w ho _ hr hgt
  have h1 := XRep.bool (lk_rep hr hc (hgc hgt))
  cases x with
  | true => exact ⟨.bool true, by simpa using XRep.mkBool true, by simp [execOp, ho, h1, asBool, eval_const]⟩
  | false =>
    have h2 := XRep.bool (lk_rep hr hb (hgb hgt rfl))
    exact ⟨.bool y, by simpa using XRep.mkBool y, by simp [execOp, ho, h1, h2, asBool]⟩
/-- 'a && b' -/
theorem pure_and {c b : Operand} {gc gb : Bool} {x y : Bool} (hc : lk Z.T st ty c = some (gc, .v (.c (.b x)))) (hb : lk Z.T st ty b = some (gb, .v (.c (.b y))))
    (hgc : gate = true → gc = true) (hgb : gate = true → x = true → gb = true) : PureOk Z st (.pick c b (.const (.bool false))) ty gate (.v (.c (.b (x && y)))) := by
  intro o E G a w ho _ hr hgt
  have h1 := XRep.bool (lk_rep hr hc (hgc hgt))
  cases x with
  | false => exact ⟨.bool false, by simpa using XRep.mkBool false, by simp [execOp, ho, h1, asBool, eval_const]⟩
  | true =>
    have h2 := XRep.bool (lk_rep hr hb (hgb hgt rfl))
    exact ⟨.bool y, by simpa using XRep.mkBool y, by simp [execOp, ho, h1, h2, asBool]⟩

theorem pure_not {x : Operand} {t : TypeId} {g : Bool} {y : Bool} (h : lk Z.T st ty x = some (g, .v (.c (.b y)))) (hg : gate = true → g = true) :
    PureOk Z st (.unOp .not t x) ty gate (.v (.c (.b (!y)))) := by
  intro o E G a w ho _ hr hgt
  have h1 := XRep.bool (lk_rep hr h (hg hgt))
  exact ⟨.bool (!y), CRep.b _, by simp [execOp, ho, h1, Op.unary]⟩

/-- The address of a field: in a box. -/
theorem pure_fieldPtr {s : TypeId} {x : Operand} {f : Nat} {g : Bool} {n : Nm} {off foff : Nat} {ti : TyI} (h : lk Z.T st ty x = some (g, .v (.ptr n off))) (hg : gate = true → g = true)
    (ht : tyAt Z.T s = some ti) (hf : ti.offs[f]? = some foff) : PureOk Z st (.fieldAddr s x f) ty gate (.v (.ptr n (off + foff))) := by
  intro o E G a w ho _ hr hgt
  have h1 : a.eval x = _ := lk_rep hr h (hg hgt)
  obtain ⟨fs, fl, i, hu, hfs, hoff, hi, hne⟩ := (Z.tyOk ht).fld f foff hf
  refine ⟨.pointer (some ⟨(G.A n).1, (G.A n).2 + (off + foff), none⟩), rfl, ?_⟩
  have hadd : (⟨(G.A n).1, (G.A n).2 + off, none⟩ : Addr).add fl.offset = ⟨(G.A n).1, (G.A n).2 + (off + foff), none⟩ := by
    unfold Addr.add; subst hoff; split
    · rename_i hz; simp [hz]
    · simp; omega
  simp [execOp, ho, Instr.fieldAt, underlying, hu, hfs, h1, Instr.sureAddr, fieldPlace, sizeOf, typeInfo, hi, hne, hadd]
/-- The address of a field: of cells that never change. -/
theorem pure_fieldRo {s : TypeId} {x : Operand} {f : Nat} {g : Bool} {cs : List C} {foff : Nat} {ti : TyI} (h : lk Z.T st ty x = some (g, .v (.ro cs))) (hg : gate = true → g = true)
    (ht : tyAt Z.T s = some ti) (hf : ti.offs[f]? = some foff) : PureOk Z st (.fieldAddr s x f) ty gate (.v (.ro (cs.drop foff))) := by
  intro o E G a w ho _ hr hgt
  obtain ⟨blk, off, h1, h2⟩ := lk_rep hr h (hg hgt)
  obtain ⟨fs, fl, i, hu, hfs, hoff, hi, hne⟩ := (Z.tyOk ht).fld f foff hf
  refine ⟨.pointer (some ⟨blk, off + foff, none⟩), ⟨blk, off + foff, rfl, ?_⟩, ?_⟩
  · intro j c hj
    rw [List.getElem?_drop] at hj
    have := h2 _ _ hj
    rwa [show off + (foff + j) = off + foff + j by omega] at this
  · have hadd : (⟨blk, off, none⟩ : Addr).add fl.offset = ⟨blk, off + foff, none⟩ := by
      unfold Addr.add; subst hoff; split
      · rename_i hz; simp [hz]
      · simp
    simp [execOp, ho, Instr.fieldAt, underlying, hu, hfs, h1, Instr.sureAddr, fieldPlace, sizeOf, typeInfo, hi, hne, hadd]

theorem pure_nilCheck {x : Operand} {g : Bool} {n : Nm} {off : Nat} (h : lk Z.T st ty x = some (g, .v (.ptr n off))) (hg : gate = true → g = true) :
    PureOk Z st (.nilCheck x) ty gate (.v (.ptr n off)) := by
  intro o E G a w ho _ hr hgt
  have h1 : a.eval x = _ := lk_rep hr h (hg hgt)
  exact ⟨_, rfl, by simp [execOp, ho, h1]⟩
theorem pure_nilCheckRo {x : Operand} {g : Bool} {cs : List C} (h : lk Z.T st ty x = some (g, .v (.ro cs))) (hg : gate = true → g = true) :
    PureOk Z st (.nilCheck x) ty gate (.v (.ro cs)) := by
  intro o E G a w ho _ hr hgt
  obtain ⟨blk, off, h1, h2⟩ := lk_rep hr h (hg hgt)
  exact ⟨_, ⟨blk, off, rfl, h2⟩, by simp [execOp, ho, h1]⟩

end
end Go.Abs
