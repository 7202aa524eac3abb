/- Gates, and bytes of strings behind gates. -/
import Derived.Test.YtginljdgdllhfaaAbs16
set_option linter.unusedVariables false
set_option linter.unusedSimpArgs false
namespace Go.Abs
variable {Z : Pg}
theorem gL {a b : Bool} (h : (a && b) = true) : a = true := by cases a <;> simp_all
theorem gA {a b : Bool} (h : a = true) (k : b = true) : (a && b) = true := by subst h; subst k; rfl
theorem gP {g x b : Bool} (h : g = true) (hi : x = b) : (g && (x == b)) = true := by subst h; subst hi; simp
/-- Where branches meet: a state that all of them reach. -/
theorem awp_cut {N : Nat} {x y : Code} {Q : Exit → St → Prop} {st : St} (S : St) (P : Prop) (h1 : AWP Z N x (thenS (fun s => P ∧ Sub S s) Q) st) (h2 : P → AWP Z N y Q S) : AWP Z N (x.seq y) Q st :=
  awp_seq (awp_mono h1 fun e s h => by
    cases e with
    | normal => exact awp_sub h.2 (h2 h.1)
    | _ => exact h)
section
variable {st : St} {ty : TypeId} {gate : Bool}
theorem pure_indexSg {x i : Operand} {t : TypeId} {g gi : Bool} {l : List UInt8} {k : IntKind} {n : Int} {j : Nat} (h : lk Z.T st ty x = some (g, .v (.c (.s l)))) (hi : lk Z.T st ty i = some (gi, .v (.c (.i k n))))
    (hg : gate = true → g = true) (hgi : gate = true → gi = true) (hu : Z.P.underlying t = some .string) (hn : n = (j : Int)) (hj : gate = true → j < l.length) : PureOk Z st (.index t x i) ty gate (.v (.c (.i .u8 ((l.getD j 0).toNat : Int)))) := by
  intro o E G a w ho hty hr hgt
  have hlt := hj hgt
  have hget : l[j]? = some (l.getD j 0) := by rw [List.getD_eq_getElem?_getD, List.getElem?_eq_getElem hlt]; rfl
  exact pure_indexS h hi hg hgi hu hn hget o E G a w ho hty hr hgt
end
end Go.Abs
