/- Terms: as data, and what the functions on them compute (plain). -/
import Derived.Test.YtginljdgdllhfaaSys
set_option linter.unusedVariables false
set_option linter.unusedSimpArgs false
namespace Go.Proofs.Ytginljdgdllhfaa
open Go Go.Abs
inductive T where
  | mk (kind : Int) (name : List UInt8) (sort : Int) (kids : List T)
  deriving Inhabited
namespace T
def kind : T → Int | mk k _ _ _ => k
def name : T → List UInt8 | mk _ n _ _ => n
def sort : T → Int | mk _ _ s _ => s
def kids : T → List T | mk _ _ _ ks => ks
mutual
def cells' : T → List C
  | mk k n s ks => [.i .i64 k, .s n, .i .i64 s, .sl 4 (rows ks)]
def rows : List T → List (List C)
  | [] => []
  | t :: ts => cells' t :: rows ts
end
def cells (t : T) : List C := [.i .i64 t.kind, .s t.name, .i .i64 t.sort, .sl 4 (rows t.kids)]
theorem cells_eq (t : T) : cells' t = t.cells := by cases t; rw [cells']; rfl
theorem rows_eq : ∀ ts : List T, rows ts = ts.map cells
  | [] => by rw [rows]; rfl
  | t :: ts => by rw [rows, rows_eq ts, cells_eq]; rfl
theorem rows_get {ts : List T} {k : Nat} {t : T} (h : ts[k]? = some t) : (rows ts)[k]? = some t.cells := by
  rw [rows_eq, List.getElem?_map, h]; rfl
theorem rows_len (ts : List T) : (rows ts).length = ts.length := by rw [rows_eq]; simp
theorem eta (t : T) : mk t.kind t.name t.sort t.kids = t := by cases t; rfl
mutual
def size : T → Nat
  | mk _ _ _ ks => 1 + sizes ks
def sizes : List T → Nat
  | [] => 0
  | t :: ts => size t + sizes ts
end
theorem size_pos (t : T) : 1 ≤ t.size := by cases t; rw [size]; omega
theorem size_eq (t : T) : t.size = 1 + sizes t.kids := by cases t; rw [size]; rfl
theorem sizes_take : ∀ (ts : List T) (k : Nat) (t : T), ts[k]? = some t → sizes (ts.take (k + 1)) = sizes (ts.take k) + t.size
  | [], k, t, h => by simp at h
  | x :: xs, 0, t, h => by simp at h; subst h; simp [sizes]
  | x :: xs, k + 1, t, h => by
    have := sizes_take xs k t (by simpa using h)
    simp only [List.take_succ_cons, sizes]
    omega
theorem sizes_take_le : ∀ (ts : List T) (k : Nat), sizes (ts.take k) ≤ sizes ts
  | [], k => by simp
  | x :: xs, 0 => by simp [sizes]
  | x :: xs, k + 1 => by
    have := sizes_take_le xs k
    simp only [List.take_succ_cons, sizes]
    omega
theorem size_kid {t x : T} {k : Nat} (h : t.kids[k]? = some x) : x.size < t.size := by
  have h1 := sizes_take _ _ _ h
  have h2 := sizes_take_le t.kids (k + 1)
  have h3 := t.size_eq
  omega
end T
end Go.Proofs.Ytginljdgdllhfaa
