/- More operations that only compute or read: loads, numbers, strings, slices. -/
import Derived.Test.YtginljdgdllhfaaAbs3
import Derived.IntWalk
import Derived.Lib.Strings
set_option linter.unusedVariables false
set_option linter.unusedSimpArgs false
namespace Go.Abs
variable {Z : Pg}

theorem vals_of {R : Nat → Value → Prop} : ∀ (n : Nat), (∀ j, j < n → ∃ v, R j v) → ∃ vs : List Value, vs.length = n ∧ ∀ (j : Nat) (v : Value), vs[j]? = some v → R j v
  | 0, _ => ⟨[], rfl, fun j v h => by simp at h⟩
  | n + 1, h => by
    obtain ⟨vs, hl, hv⟩ := vals_of n fun j hj => h j (by omega)
    obtain ⟨v, hv'⟩ := h n (by omega)
    refine ⟨vs ++ [v], by simp [hl], fun j u hj => ?_⟩
    rcases Nat.lt_or_ge j n with hlt | hge
    · exact hv j u (by rwa [List.getElem?_append_left (by omega)] at hj)
    · have : j = n := by
        have := (List.getElem?_eq_some_iff.1 hj).1
        simp at this; omega
      subst this
      rw [List.getElem?_append_right (by omega), hl] at hj
      simp at hj
      subst hj
      exact hv'

section
variable {st : St} {ty : TypeId} {gate : Bool}

theorem run_load_row {w : World} {t : TypeId} {ti : TyI} (ht : tyAt Z.T t = some ti) (hagg : ti.agg = true) {blk off : Nat} {vs : List Value} (hl : vs.length = ti.n)
    (hv : ∀ (j : Nat) (v : Value), vs[j]? = some v → w.cell? ⟨blk, off + j, none⟩ = some v) :
    (Instr.loadAt t (.pointer (some ⟨blk, off, none⟩))).run Z.P w = .ok (.agg vs.toArray) w := by
  obtain ⟨i, d, zv, hi, hd, hn, hrow, _⟩ := (Z.tyOk ht).info
  exact run_loadAt_mid w blk off t vs d hv hd (by rw [hrow, hagg]) (by rw [hi]; simp [hn, hl])

theorem run_load_cell {w : World} {t : TypeId} {ti : TyI} (ht : tyAt Z.T t = some ti) (hagg : ti.agg = false) {blk off : Nat} {v : Value}
    (hv : w.cell? ⟨blk, off, none⟩ = some v) : (Instr.loadAt t (.pointer (some ⟨blk, off, none⟩))).run Z.P w = .ok v w := by
  obtain ⟨i, d, zv, hi, hd, hn, hrow, _⟩ := (Z.tyOk ht).info
  have hA : (isAgg t).run Z.P w = .ok false w := by
    unfold isAgg underlying
    rw [hagg] at hrow
    cases d <;> simp_all
  simp [Instr.loadAt, Instr.sureAddr, loadVar, hA, hv]

theorem pure_loadBox {t : TypeId} {x : Operand} {g : Bool} {n : Nm} {off : Nat} {ti : TyI} {cs : List C} {c : C} (h : lk Z.T st ty x = some (g, .v (.ptr n off))) (hg : gate = true → g = true)
    (ht : tyAt Z.T t = some ti) (hagg : ti.agg = false) (hb : st.box n = some cs) (hc : cs[off]? = some c) : PureOk Z st (.load t x) ty gate (.v (.c c)) := by
  intro o E G a w ho _ hr hgt
  have h1 : a.eval x = _ := lk_rep hr h (hg hgt)
  obtain ⟨_, _, v, hv, hcr⟩ := hr.bx n cs hb off c hc
  exact ⟨v, hcr, by simp [execOp, ho, h1, run_load_cell ht hagg hv]⟩

theorem pure_loadBoxRow {t : TypeId} {x : Operand} {g : Bool} {n : Nm} {off : Nat} {ti : TyI} {cs ds : List C} (h : lk Z.T st ty x = some (g, .v (.ptr n off))) (hg : gate = true → g = true)
    (ht : tyAt Z.T t = some ti) (hagg : ti.agg = true) (hb : st.box n = some cs) (hd : (cs.drop off).take ti.n = ds) (hl : ds.length = ti.n) : PureOk Z st (.load t x) ty gate (.v (.agg ds)) := by
  intro o E G a w ho _ hr hgt
  have h1 : a.eval x = _ := lk_rep hr h (hg hgt)
  have hget : ∀ (j : Nat) (c : C), ds[j]? = some c → cs[off + j]? = some c := by
    intro j c hj
    rw [← hd, List.getElem?_take] at hj
    split at hj
    · rwa [List.getElem?_drop] at hj
    · simp at hj
  obtain ⟨vs, hvl, hvs⟩ := vals_of (R := fun j v => w.cell? ⟨(G.A n).1, (G.A n).2 + off + j, none⟩ = some v ∧ ∀ c, ds[j]? = some c → CRep w G.S c v) ti.n fun j hj => by
    have hj' : ds[j]? = some (ds[j]'(by omega)) := List.getElem?_eq_getElem (by omega)
    obtain ⟨_, _, v, hv, hcr⟩ := hr.bx n cs hb _ _ (hget j _ hj')
    exact ⟨v, by rwa [Nat.add_assoc], fun c hc => by rw [hj'] at hc; simp at hc; subst hc; exact hcr⟩
  refine ⟨.agg vs.toArray, ⟨vs, rfl, All2.mk (by omega) fun j c v hc hv => (hvs j v hv).2 c hc⟩, ?_⟩
  simp [execOp, ho, h1, run_load_row ht hagg hvl fun j v hv => (hvs j v hv).1]

theorem pure_loadRo {t : TypeId} {x : Operand} {g : Bool} {ti : TyI} {cs : List C} {c : C} (h : lk Z.T st ty x = some (g, .v (.ro cs))) (hg : gate = true → g = true)
    (ht : tyAt Z.T t = some ti) (hagg : ti.agg = false) (hc : cs[0]? = some c) : PureOk Z st (.load t x) ty gate (.v (.c c)) := by
  intro o E G a w ho _ hr hgt
  obtain ⟨blk, off, h1, h2⟩ := lk_rep hr h (hg hgt)
  obtain ⟨_, v, hv, hcr⟩ := h2 0 c hc
  exact ⟨v, hcr, by simp [execOp, ho, h1, run_load_cell ht hagg (blk := blk) (off := off) (v := v) (by simpa using hv)]⟩

theorem pure_loadRoRow {t : TypeId} {x : Operand} {g : Bool} {ti : TyI} {cs ds : List C} (h : lk Z.T st ty x = some (g, .v (.ro cs))) (hg : gate = true → g = true)
    (ht : tyAt Z.T t = some ti) (hagg : ti.agg = true) (hd : cs.take ti.n = ds) (hl : ds.length = ti.n) : PureOk Z st (.load t x) ty gate (.v (.agg ds)) := by
  intro o E G a w ho _ hr hgt
  obtain ⟨blk, off, h1, h2⟩ := lk_rep hr h (hg hgt)
  have hget : ∀ (j : Nat) (c : C), ds[j]? = some c → cs[j]? = some c := by
    intro j c hj
    rw [← hd, List.getElem?_take] at hj
    split at hj
    · exact hj
    · simp at hj
  obtain ⟨vs, hvl, hvs⟩ := vals_of (R := fun j v => w.cell? ⟨blk, off + j, none⟩ = some v ∧ ∀ c, ds[j]? = some c → CRep w G.S c v) ti.n fun j hj => by
    have hj' : ds[j]? = some (ds[j]'(by omega)) := List.getElem?_eq_getElem (by omega)
    obtain ⟨_, v, hv, hcr⟩ := h2 _ _ (hget j _ hj')
    exact ⟨v, hv, fun c hc => by rw [hj'] at hc; simp at hc; subst hc; exact hcr⟩
  refine ⟨.agg vs.toArray, ⟨vs, rfl, All2.mk (by omega) fun j c v hc hv => (hvs j v hv).2 c hc⟩, ?_⟩
  simp [execOp, ho, h1, run_load_row ht hagg hvl fun j v hv => (hvs j v hv).1]

/-! ### Numbers -/
def cmpI : BinOp → Int → Int → Option Bool
  | .eql, x, y => some (x == y)
  | .neq, x, y => some (x != y)
  | .lss, x, y => some (decide (x < y))
  | .leq, x, y => some (decide (x ≤ y))
  | .gtr, x, y => some (decide (y < x))
  | .geq, x, y => some (decide (y ≤ x))
  | _, _, _ => none
theorem pure_cmp {op : BinOp} {t t' : TypeId} {x y : Operand} {gx gy : Bool} {k : IntKind} {m n : Int} {r : Bool} (hx : lk Z.T st ty x = some (gx, .v (.c (.i k m)))) (hy : lk Z.T st ty y = some (gy, .v (.c (.i k n))))
    (hgx : gate = true → gx = true) (hgy : gate = true → gy = true) (hr' : cmpI op m n = some r) : PureOk Z st (.binOp op t x y t') ty gate (.v (.c (.b r))) := by
  intro o E G a w ho _ hr hgt
  have h1 := XRep.int (lk_rep hr hx (hgx hgt))
  have h2 := XRep.int (lk_rep hr hy (hgy hgt))
  refine ⟨.bool r, CRep.b _, ?_⟩
  cases op <;> simp only [cmpI, Option.some.injEq, reduceCtorEq] at hr' <;> subst hr' <;> simp [execOp, ho, h1, h2, binOp, eqGuard, Op.intCmp]

def arithI : BinOp → Int → Int → Option Int
  | .add, x, y => some (x + y)
  | .sub, x, y => some (x - y)
  | .mul, x, y => some (x * y)
  | _, _, _ => none
theorem pure_arith {op : BinOp} {t t' : TypeId} {x y : Operand} {gx gy : Bool} {k : IntKind} {m n r s : Int} (hx : lk Z.T st ty x = some (gx, .v (.c (.i k m)))) (hy : lk Z.T st ty y = some (gy, .v (.c (.i k n))))
    (hgx : gate = true → gx = true) (hgy : gate = true → gy = true) (hr' : arithI op m n = some r) (hs : k.wrap r = s) : PureOk Z st (.binOp op t x y t') ty gate (.v (.c (.i k s))) := by
  intro o E G a w ho _ hr hgt
  have h1 := XRep.int (lk_rep hr hx (hgx hgt))
  have h2 := XRep.int (lk_rep hr hy (hgy hgt))
  refine ⟨.int k s, CRep.i _ _, ?_⟩
  cases op <;> simp only [arithI, Option.some.injEq, reduceCtorEq] at hr' <;> subst hr' <;> subst hs <;> simp [execOp, ho, h1, h2, binOp, eqGuard, Op.intArith]
theorem pure_quo {t t' : TypeId} {x y : Operand} {gx gy : Bool} {k : IntKind} {m n s : Int} (hx : lk Z.T st ty x = some (gx, .v (.c (.i k m)))) (hy : lk Z.T st ty y = some (gy, .v (.c (.i k n))))
    (hgx : gate = true → gx = true) (hgy : gate = true → gy = true) (hn : n ≠ 0) (hs : k.wrap (m.tdiv n) = s) : PureOk Z st (.binOp .quo t x y t') ty gate (.v (.c (.i k s))) := by
  intro o E G a w ho _ hr hgt
  have h1 := XRep.int (lk_rep hr hx (hgx hgt))
  have h2 := XRep.int (lk_rep hr hy (hgy hgt))
  exact ⟨.int k s, CRep.i _ _, by subst hs; simp [execOp, ho, h1, h2, binOp, eqGuard, Op.intDiv, hn]⟩
theorem pure_rem {t t' : TypeId} {x y : Operand} {gx gy : Bool} {k : IntKind} {m n s : Int} (hx : lk Z.T st ty x = some (gx, .v (.c (.i k m)))) (hy : lk Z.T st ty y = some (gy, .v (.c (.i k n))))
    (hgx : gate = true → gx = true) (hgy : gate = true → gy = true) (hn : n ≠ 0) (hs : m.tmod n = s) : PureOk Z st (.binOp .rem t x y t') ty gate (.v (.c (.i k s))) := by
  intro o E G a w ho _ hr hgt
  have h1 := XRep.int (lk_rep hr hx (hgx hgt))
  have h2 := XRep.int (lk_rep hr hy (hgy hgt))
  exact ⟨.int k s, CRep.i _ _, by subst hs; simp [execOp, ho, h1, h2, binOp, eqGuard, Op.intDiv, hn]⟩
theorem pure_shr {t t' : TypeId} {x y : Operand} {gx gy : Bool} {k k' : IntKind} {m n s : Int} (hx : lk Z.T st ty x = some (gx, .v (.c (.i k m)))) (hy : lk Z.T st ty y = some (gy, .v (.c (.i k' n))))
    (hgx : gate = true → gx = true) (hgy : gate = true → gy = true) (hn : 0 ≤ n) (hs : m.fdiv (2 ^ (min n.toNat k.bits)) = s) : PureOk Z st (.binOp .shr t x y t') ty gate (.v (.c (.i k s))) := by
  intro o E G a w ho _ hr hgt
  have h1 := XRep.int (lk_rep hr hx (hgx hgt))
  have h2 := XRep.int (lk_rep hr hy (hgy hgt))
  exact ⟨.int k s, CRep.i _ _, by subst hs; have : ¬ n < 0 := by omega
                                  simp [execOp, ho, h1, h2, binOp, eqGuard, Op.shift, this]⟩
theorem pure_bitAnd {t t' : TypeId} {x y : Operand} {gx gy : Bool} {k : IntKind} {m n s : Int} (hx : lk Z.T st ty x = some (gx, .v (.c (.i k m)))) (hy : lk Z.T st ty y = some (gy, .v (.c (.i k n))))
    (hgx : gate = true → gx = true) (hgy : gate = true → gy = true) (hs : k.wrap (BitVec.ofInt k.bits m &&& BitVec.ofInt k.bits n).toNat = s) : PureOk Z st (.binOp .and t x y t') ty gate (.v (.c (.i k s))) := by
  intro o E G a w ho _ hr hgt
  have h1 := XRep.int (lk_rep hr hx (hgx hgt))
  have h2 := XRep.int (lk_rep hr hy (hgy hgt))
  exact ⟨.int k s, CRep.i _ _, by subst hs; simp [execOp, ho, h1, h2, binOp, eqGuard, Op.intBits]⟩
theorem pure_neg {x : Operand} {t : TypeId} {g : Bool} {k : IntKind} {n s : Int} (h : lk Z.T st ty x = some (g, .v (.c (.i k n)))) (hg : gate = true → g = true) (hs : k.wrap (0 - n) = s) :
    PureOk Z st (.unOp .neg t x) ty gate (.v (.c (.i k s))) := by
  intro o E G a w ho _ hr hgt
  have h1 := XRep.int (lk_rep hr h (hg hgt))
  exact ⟨.int k s, CRep.i _ _, by subst hs; simp [execOp, ho, h1, Op.unary, Op.intArith]⟩
theorem pure_convInt {x : Operand} {src dst : TypeId} {g : Bool} {k k' : IntKind} {n s : Int} (h : lk Z.T st ty x = some (g, .v (.c (.i k n)))) (hg : gate = true → g = true)
    (hd : ∃ d, Z.P.underlying src = some d) (hu : Z.P.underlying dst = some (.int k')) (hs : k'.wrap n = s) : PureOk Z st (.convert src dst x) ty gate (.v (.c (.i k' s))) := by
  intro o E G a w ho _ hr hgt
  have h1 := XRep.int (lk_rep hr h (hg hgt))
  obtain ⟨d, hd⟩ := hd
  exact ⟨.int k' s, CRep.i _ _, by subst hs; simp [execOp, ho, h1, convert, underlying, hd, hu, Conv.intToInt]⟩

/-! ### Bools -/
theorem run_equal_bool {P : Program} {t : TypeId} (hu : P.underlying t = some .bool) (m n : Bool) (w : World) : (Op.equal t (.bool m) (.bool n)).run P w = .ok (m == n) w := by
  show (Op.equalIn (9999 + 1) t (.bool m) (.bool n)).run P w = _
  rw [Op.equalIn]
  simp only [underlying, Sem.run_bind, run_program, Result.andThen_ok, hu, Sem.run_pure]

theorem pure_eqBool {t t' : TypeId} {x y : Operand} {gx gy : Bool} {m n : Bool} (hx : lk Z.T st ty x = some (gx, .v (.c (.b m)))) (hy : lk Z.T st ty y = some (gy, .v (.c (.b n))))
    (hgx : gate = true → gx = true) (hgy : gate = true → gy = true) (hu : Z.P.underlying t = some .bool) : PureOk Z st (.binOp .eql t x y t') ty gate (.v (.c (.b (m == n)))) := by
  intro o E G a w ho _ hr hgt
  have h1 := XRep.bool (lk_rep hr hx (hgx hgt))
  have h2 := XRep.bool (lk_rep hr hy (hgy hgt))
  exact ⟨.bool (m == n), CRep.b _, by simp [execOp, ho, h1, h2, binOp, eqGuard, run_equal_bool hu]⟩
theorem pure_neBool {t t' : TypeId} {x y : Operand} {gx gy : Bool} {m n : Bool} (hx : lk Z.T st ty x = some (gx, .v (.c (.b m)))) (hy : lk Z.T st ty y = some (gy, .v (.c (.b n))))
    (hgx : gate = true → gx = true) (hgy : gate = true → gy = true) (hu : Z.P.underlying t = some .bool) : PureOk Z st (.binOp .neq t x y t') ty gate (.v (.c (.b (!(m == n))))) := by
  intro o E G a w ho _ hr hgt
  have h1 := XRep.bool (lk_rep hr hx (hgx hgt))
  have h2 := XRep.bool (lk_rep hr hy (hgy hgt))
  exact ⟨.bool (!(m == n)), CRep.b _, by simp [execOp, ho, h1, h2, binOp, eqGuard, run_equal_bool hu]⟩

/-! ### Strings -/
def cmpS : BinOp → List UInt8 → List UInt8 → Option Bool
  | .eql, x, y => some (x == y)
  | .neq, x, y => some (!(x == y))
  | .lss, x, y => some (Op.bytesLess x y)
  | .leq, x, y => some (Op.bytesLess x y || x == y)
  | .gtr, x, y => some (!(Op.bytesLess x y || x == y))
  | .geq, x, y => some (!(Op.bytesLess x y))
  | _, _, _ => none
theorem toList_mk (l : List UInt8) : (⟨l.toArray⟩ : ByteArray).toList = l := by rw [Lib.toList_data]
theorem size_mk (l : List UInt8) : (⟨l.toArray⟩ : ByteArray).size = l.length := rfl
theorem pure_cmpS {op : BinOp} {t t' : TypeId} {x y : Operand} {gx gy : Bool} {m n : List UInt8} {r : Bool} (hx : lk Z.T st ty x = some (gx, .v (.c (.s m)))) (hy : lk Z.T st ty y = some (gy, .v (.c (.s n))))
    (hgx : gate = true → gx = true) (hgy : gate = true → gy = true) (hr' : cmpS op m n = some r) : PureOk Z st (.binOp op t x y t') ty gate (.v (.c (.b r))) := by
  intro o E G a w ho _ hr hgt
  have h1 := XRep.str (lk_rep hr hx (hgx hgt))
  have h2 := XRep.str (lk_rep hr hy (hgy hgt))
  refine ⟨.bool r, CRep.b _, ?_⟩
  cases op <;> simp only [cmpS, Option.some.injEq, reduceCtorEq] at hr' <;> subst hr' <;> simp [execOp, ho, h1, h2, binOp, eqGuard, Op.stringOp, toList_mk]
theorem pure_concat {t t' : TypeId} {x y : Operand} {gx gy : Bool} {m n : List UInt8} (hx : lk Z.T st ty x = some (gx, .v (.c (.s m)))) (hy : lk Z.T st ty y = some (gy, .v (.c (.s n))))
    (hgx : gate = true → gx = true) (hgy : gate = true → gy = true) (hl : m.length + n.length ≤ 9223372036854775807) : PureOk Z st (.binOp .add t x y t') ty gate (.v (.c (.s (m ++ n)))) := by
  intro o E G a w ho _ hr hgt
  have h1 := XRep.str (lk_rep hr hx (hgx hgt))
  have h2 := XRep.str (lk_rep hr hy (hgy hgt))
  refine ⟨.string ⟨(m ++ n).toArray⟩, CRep.s _ (by simpa using hl), ?_⟩
  have hsz : ¬ ((((⟨m.toArray⟩ : ByteArray).size + (⟨n.toArray⟩ : ByteArray).size : Nat) : Int) > IntKind.i64.max) := by
    rw [size_mk, size_mk]; simp [IntKind.max, IntKind.signed, IntKind.bits]; omega
  have happ : ((⟨m.toArray⟩ : ByteArray) ++ ⟨n.toArray⟩) = ⟨(m ++ n).toArray⟩ := by
    apply ByteArray.ext; simp
  simp only [execOp, ho, h1, h2, binOp, eqGuard, Op.stringOp]
  simp only [Sem.run_bind, Sem.run_ite, hsz, if_false]
  simp [happ]
theorem pure_lenS {x : Operand} {t : TypeId} {g : Bool} {l : List UInt8} (h : lk Z.T st ty x = some (g, .v (.c (.s l)))) (hg : gate = true → g = true) (hu : Z.P.underlying t = some .string) :
    PureOk Z st (.call { callee := .builtin .len, args := #[x], argTypes := #[t] }) ty gate (.v (.c (.i .i64 (l.length : Int)))) := by
  intro o E G a w ho _ hr hgt
  have h1 := XRep.str (lk_rep hr h (hg hgt))
  exact ⟨.int .i64 l.length, CRep.i _ _, by simp [execOp, ho, h1, Go.resolve, invoke, builtin, Builtin.len_, underlying, hu, goInt, size_mk]⟩
theorem pure_lenSl {x : Operand} {t : TypeId} {g : Bool} {sz : Nat} {es : List (List C)} {ti : TyI} {el : Nat × Nat × Nat} (h : lk Z.T st ty x = some (g, .v (.c (.sl sz es)))) (hg : gate = true → g = true)
    (ht : tyAt Z.T t = some ti) (hel : ti.el = some el) : PureOk Z st (.call { callee := .builtin .len, args := #[x], argTypes := #[t] }) ty gate (.v (.c (.i .i64 (es.length : Int)))) := by
  intro o E G a w ho _ hr hgt
  obtain ⟨e, s, by'⟩ := el
  have hu := ((Z.tyOk ht).sl e s by' hel).1
  refine ⟨.int .i64 es.length, CRep.i _ _, ?_⟩
  have h1 := lk_rep hr h (hg hgt)
  rcases CRep.sl_cases h1 with ⟨_, h2, rfl⟩ | ⟨blk, off, len, cap, h2, hl⟩
  · simp [execOp, ho, h2, Go.resolve, invoke, builtin, Builtin.len_, underlying, hu, goInt]
  · simp [execOp, ho, h2, Go.resolve, invoke, builtin, Builtin.len_, underlying, hu, goInt, hl]
theorem pure_indexS {x i : Operand} {t : TypeId} {g gi : Bool} {l : List UInt8} {k : IntKind} {n : Int} {j : Nat} {b : UInt8} (h : lk Z.T st ty x = some (g, .v (.c (.s l)))) (hi : lk Z.T st ty i = some (gi, .v (.c (.i k n))))
    (hg : gate = true → g = true) (hgi : gate = true → gi = true) (hu : Z.P.underlying t = some .string) (hn : n = (j : Int)) (hj : l[j]? = some b) : PureOk Z st (.index t x i) ty gate (.v (.c (.i .u8 (b.toNat : Int)))) := by
  intro o E G a w ho _ hr hgt
  have h1 := XRep.str (lk_rep hr h (hg hgt))
  have h2 := XRep.int (lk_rep hr hi (hgi hgt))
  subst hn
  have hlt : j < l.length := (List.getElem?_eq_some_iff.1 hj).1
  have hget : (⟨l.toArray⟩ : ByteArray)[j]? = some b := by
    have hlt' : j < (⟨l.toArray⟩ : ByteArray).size := by simpa [size_mk] using hlt
    rw [getElem?_pos _ j hlt']
    have := (List.getElem?_eq_some_iff.1 hj).2
    simp only [Option.some.injEq]
    rw [← this]
    rfl
  exact ⟨.int .u8 b.toNat, CRep.i _ _, by simp [execOp, ho, h1, h2, Instr.index, asIntOf, underlying, hu, hget]⟩
end
end Go.Abs
