/- Our abstract program logic and contracts of this seat's functions, part 5: no statement of its own. -/
import Derived.Test.YtgjclggjkhapfaaM4
/- Values: as data; their errors (plain). -/
set_option linter.unusedVariables false
set_option linter.unusedSimpArgs false
namespace Go.Proofs.Ytgjclggjkhapfaa
open Go Go.Abs
inductive V where
  | mk (bytes : List UInt8) (number : Int) (kids : List V)
  deriving Inhabited
namespace V
def bytes : V → List UInt8 | mk b _ _ => b
def number : V → Int | mk _ n _ => n
def kids : V → List V | mk _ _ ks => ks
mutual
def cells' : V → List C
  | mk b n ks => [.s b, .i .i64 n, .sl 3 (rows ks)]
def rows : List V → List (List C)
  | [] => []
  | t :: ts => cells' t :: rows ts
end
def cells (v : V) : List C := [.s v.bytes, .i .i64 v.number, .sl 3 (rows v.kids)]
theorem cells_eq (t : V) : cells' t = t.cells := by cases t; rw [cells']; rfl
theorem rows_eq : ∀ ts : List V, rows ts = ts.map cells
  | [] => by rw [rows]; rfl
  | t :: ts => by rw [rows, rows_eq ts, cells_eq]; rfl
theorem rows_len (ts : List V) : (rows ts).length = ts.length := by rw [rows_eq]; simp
theorem rows_at {l : List V} {k : Nat} (h : k < l.length) : (rows l)[k]? = some (l.getD k default).cells := by
  rw [rows_eq, List.getElem?_map, List.getD_eq_getElem?_getD, List.getElem?_eq_getElem h]; rfl
theorem rows_snoc (l : List V) (v : V) : rows l ++ [v.cells] = rows (l ++ [v]) := by simp [rows_eq]
theorem eta (t : V) : mk t.bytes t.number t.kids = t := by cases t; rfl
mutual
def size : V → Nat
  | mk _ _ ks => 1 + sizes ks
def sizes : List V → Nat
  | [] => 0
  | t :: ts => size t + sizes ts
end
theorem size_eq (t : V) : t.size = 1 + sizes t.kids := by cases t; rw [size]; rfl
theorem size_pos (t : V) : 1 ≤ t.size := by rw [size_eq]; omega
theorem size_get : ∀ {l : List V} {k : Nat}, k < l.length → (l.getD k default).size ≤ sizes l
  | [], k, h => by simp at h
  | t :: ts, 0, h => by rw [sizes, List.getD_cons_zero]; omega
  | t :: ts, k + 1, h => by have := size_get (l := ts) (k := k) (by simpa using h); rw [sizes, List.getD_cons_succ]; omega
theorem size_kid {v : V} {k : Nat} (h : k < v.kids.length) : (v.kids.getD k default).size < v.size := by
  have := size_get h; rw [size_eq v]; omega
end V
abbrev xv (v : V) : X := .v (.agg v.cells)
abbrev xvs (l : List V) : X := .v (.c (.sl 3 (V.rows l)))
/-- The zero value. -/
def v0 : V := .mk [] 0 []
def zeroB (v : V) : Bool := decide (v.bytes = []) && decide (v.number = 0) && decide (v.kids.length = 0)
def fitsB (f : Fd) (v : V) : Bool :=
  if f.kind = 1 then zeroB v else if f.kind = 4 then decide (v.bytes = []) && decide (v.kids.length = 0) else if f.kind = 5 then true else decide (v.number = 0) && decide (v.kids.length = 0)
def rngB (f : Fd) (v : V) : Bool :=
  if f.kind = 2 then decide ((v.bytes.length : Int) = f.n) else if f.kind = 3 then decide ((v.bytes.length : Int) ≤ f.n) else if f.kind = 4 then decide (f.low ≤ v.number) && decide (v.number ≤ f.high)
  else if f.kind = 6 then decide (f.low ≤ (v.bytes.length : Int)) && decide ((v.bytes.length : Int) ≤ f.high) else true
/-- The error of a field's value; 'rec': that of a nested format's. -/
def fvE (rec : Int → V → Int) (f : Fd) (v : V) : Int := if fitsB f v = false then 1 else if rngB f v = false then 7 else if f.kind = 5 then rec f.n v else 0
def kidsE (rec : Int → V → Int) : List Fd → List V → Int
  | f :: fs, v :: vs => if fvE rec f v ≠ 0 then fvE rec f v else kidsE rec fs vs
  | _, _ => 0
def valG (rec : Int → V → Int) (t : List Fm) (i : Int) (v : V) : Int :=
  if v.bytes ≠ [] ∨ v.number ≠ 0 then 1 else if v.kids.length ≠ (t.getD i.toNat default).fields.length then 6 else kidsE rec (t.getD i.toNat default).fields v.kids
def val0 (t : List Fm) (i : Int) (v : V) : Int := valG (fun _ _ => 0) t i v
def valT (t : List Fm) (i : Int) (v : V) : Int := valG (val0 t) t i v
def valE (t : List Fm) (i : Int) (v : V) : Int := if errE t i ≠ 0 then errE t i else valT t i v
theorem zero_spec (v : V) : Ctr sys 85 [xv v] [] (xb (zeroB v)) none [] := by
  have hr := V.rows_len v.kids
  refine spec_intro Try.func85 rfl rfl rfl rfl rfl rfl ?_
  refine awp_seq ?_
  refine awp_region ?_
  refine al_do rfl (does_box rfl rfl rfl rfl) ?_
  refine al_pure rfl rfl rfl (pure_assign rfl (fun _ => rfl)) ?_
  refine al_nil ?_
  refine awp_seq ?_
  refine awp_region ?_
  refine al_pure rfl rfl rfl (pure_fieldPtr rfl (fun _ => rfl) rfl rfl) ?_
  refine al_pure rfl rfl rfl (pure_loadBox rfl (fun _ => rfl) rfl rfl rfl rfl) ?_
  refine al_pure rfl rfl rfl (pure_cmpS rfl rfl (fun _ => rfl) (fun _ => rfl) rfl) ?_
  refine al_pure rfl rfl rfl (pure_move rfl (fun _ => rfl)) ?_
  refine al_pure rfl rfl rfl (pure_fieldPtr rfl (fun _ => rfl) rfl rfl) ?_
  refine al_pure rfl rfl rfl (pure_loadBox rfl (fun hh => hh) rfl rfl rfl rfl) ?_
  refine al_pure rfl rfl rfl (pure_cmp rfl rfl (fun hh => hh) (fun _ => rfl) rfl) ?_
  refine al_pure rfl rfl rfl (pure_and rfl rfl (fun _ => rfl) (fun _ hi => gP rfl hi)) ?_
  refine al_pure rfl rfl rfl (pure_move rfl (fun _ => rfl)) ?_
  refine al_pure rfl rfl rfl (pure_fieldPtr rfl (fun _ => rfl) rfl rfl) ?_
  refine al_sub (s := { t := [(11, _, _), (12, _, _)], bx := [((.l 1), _)], ow := [] }) (sub_mk (⟨⟨_, rfl, rfl⟩, ⟨⟨_, rfl, rfl⟩, trivial⟩⟩) (⟨⟨_, rfl, rfl⟩, trivial⟩) trivial) ?_
  refine al_pure rfl rfl rfl (pure_loadBox rfl (fun hh => hh) rfl rfl rfl rfl) ?_
  refine al_pure rfl rfl rfl (pure_lenSl rfl (fun hh => hh) rfl rfl) ?_
  refine al_pure rfl rfl rfl (pure_cmp rfl rfl (fun hh => hh) (fun _ => rfl) rfl) ?_
  refine al_pure rfl rfl rfl (pure_and rfl rfl (fun _ => rfl) (fun _ hi => gP rfl hi)) ?_
  refine al_pure rfl rfl rfl (pure_assign rfl (fun _ => rfl)) ?_
  refine al_nil ?_
  refine awp_ret ?_
  repeat (first | refine thenS_ret ?_ | refine blockS_ret ?_)
  refine ret_ok rfl ?_ trivial
  exact xb_eq (by simp only [zeroB]; grind)
theorem fits_spec (f : Fd) (v : V) (hf : FdOk f) : Ctr sys 60 [xf f, xv v] [] (xb (fitsB f v)) none [] := by
  have hr := V.rows_len v.kids
  obtain ⟨hk, _, _, _, _, _, _⟩ := hf
  refine spec_intro Try.func60 rfl rfl rfl rfl rfl rfl ?_
  refine awp_seq ?_
  refine awp_region ?_
  refine al_do rfl (does_box rfl rfl rfl rfl) ?_
  refine al_do rfl (does_box rfl rfl rfl rfl) ?_
  refine al_pure rfl rfl rfl (pure_assign rfl (fun _ => rfl)) ?_
  refine al_nil ?_
  refine awp_seq ?_
  refine awp_seq ?_
  refine awp_region ?_
  refine al_pure rfl rfl rfl (pure_fieldPtr rfl (fun _ => rfl) rfl rfl) ?_
  refine al_pure rfl rfl rfl (pure_loadBox rfl (fun _ => rfl) rfl rfl rfl rfl) ?_
  refine al_nil ?_
  refine awp_sub (s := { t := [(3, _, _), (6, _, _)], bx := [((.l 3), _)], ow := [] }) (sub_mk (⟨⟨_, rfl, rfl⟩, ⟨⟨_, rfl, rfl⟩, trivial⟩⟩) (⟨⟨_, rfl, rfl⟩, trivial⟩) trivial) ?_
  refine awp_block ?_
  refine awp_seq ?_
  refine awp_region ?_
  refine al_pure rfl rfl rfl (pure_cmp rfl rfl (fun _ => rfl) (fun _ => rfl) rfl) ?_
  refine al_pure rfl rfl rfl (pure_assign rfl (fun _ => rfl)) ?_
  refine al_nil ?_
  refine awp_cond rfl (fun hc1 => ?_) (fun hc1 => ?_)
  · try simp only [n1, n2, n3, n4, n5, n6, n7, n8, n9, n10, n11, n12, n13, n14, n15, n16, Fd.rows_len, Fm.rows_len, V.rows_len] at hc1
    refine awp_seq ?_
    refine awp_region ?_
    refine al_pure rfl rfl rfl (pure_fieldPtr rfl (fun _ => rfl) rfl rfl) ?_
    refine al_pure rfl rfl rfl (pure_loadBox rfl (fun _ => rfl) rfl rfl rfl rfl) ?_
    refine al_pure rfl rfl rfl (pure_cmpS rfl rfl (fun _ => rfl) (fun _ => rfl) rfl) ?_
    refine al_pure rfl rfl rfl (pure_move rfl (fun _ => rfl)) ?_
    refine al_pure rfl rfl rfl (pure_fieldPtr rfl (fun _ => rfl) rfl rfl) ?_
    refine al_pure rfl rfl rfl (pure_loadBox rfl (fun hh => hh) rfl rfl rfl rfl) ?_
    refine al_pure rfl rfl rfl (pure_cmp rfl rfl (fun hh => hh) (fun _ => rfl) rfl) ?_
    refine al_pure rfl rfl rfl (pure_and rfl rfl (fun _ => rfl) (fun _ hi => gP rfl hi)) ?_
    refine al_pure rfl rfl rfl (pure_move rfl (fun _ => rfl)) ?_
    refine al_pure rfl rfl rfl (pure_fieldPtr rfl (fun _ => rfl) rfl rfl) ?_
    refine al_sub (s := { t := [(17, _, _), (18, _, _)], bx := [((.l 3), _)], ow := [] }) (sub_mk (⟨⟨_, rfl, rfl⟩, ⟨⟨_, rfl, rfl⟩, trivial⟩⟩) (⟨⟨_, rfl, rfl⟩, trivial⟩) trivial) ?_
    refine al_pure rfl rfl rfl (pure_loadBox rfl (fun hh => hh) rfl rfl rfl rfl) ?_
    refine al_pure rfl rfl rfl (pure_lenSl rfl (fun hh => hh) rfl rfl) ?_
    refine al_pure rfl rfl rfl (pure_cmp rfl rfl (fun hh => hh) (fun _ => rfl) rfl) ?_
    refine al_pure rfl rfl rfl (pure_and rfl rfl (fun _ => rfl) (fun _ hi => gP rfl hi)) ?_
    refine al_pure rfl rfl rfl (pure_assign rfl (fun _ => rfl)) ?_
    refine al_nil ?_
    refine awp_ret ?_
    repeat (first | refine thenS_ret ?_ | refine blockS_ret ?_)
    refine ret_ok rfl ?_ trivial
    exact xb_eq (by simp only [fitsB, zeroB]; grind)
  · try simp only [n1, n2, n3, n4, n5, n6, n7, n8, n9, n10, n11, n12, n13, n14, n15, n16, Fd.rows_len, Fm.rows_len, V.rows_len] at hc1
    refine awp_seq ?_
    refine awp_region ?_
    refine al_pure rfl rfl rfl (pure_cmp rfl rfl (fun _ => rfl) (fun _ => rfl) rfl) ?_
    refine al_pure rfl rfl rfl (pure_assign rfl (fun _ => rfl)) ?_
    refine al_nil ?_
    refine awp_cond rfl (fun hc2 => ?_) (fun hc2 => ?_)
    · try simp only [n1, n2, n3, n4, n5, n6, n7, n8, n9, n10, n11, n12, n13, n14, n15, n16, Fd.rows_len, Fm.rows_len, V.rows_len] at hc2
      refine awp_seq ?_
      refine awp_region ?_
      refine al_pure rfl rfl rfl (pure_fieldPtr rfl (fun _ => rfl) rfl rfl) ?_
      refine al_pure rfl rfl rfl (pure_loadBox rfl (fun _ => rfl) rfl rfl rfl rfl) ?_
      refine al_pure rfl rfl rfl (pure_cmpS rfl rfl (fun _ => rfl) (fun _ => rfl) rfl) ?_
      refine al_pure rfl rfl rfl (pure_move rfl (fun _ => rfl)) ?_
      refine al_pure rfl rfl rfl (pure_fieldPtr rfl (fun _ => rfl) rfl rfl) ?_
      refine al_pure rfl rfl rfl (pure_loadBox rfl (fun hh => hh) rfl rfl rfl rfl) ?_
      refine al_pure rfl rfl rfl (pure_lenSl rfl (fun hh => hh) rfl rfl) ?_
      refine al_pure rfl rfl rfl (pure_cmp rfl rfl (fun hh => hh) (fun _ => rfl) rfl) ?_
      refine al_sub (s := { t := [(28, _, _), (32, _, _)], bx := [], ow := [] }) (sub_mk (⟨⟨_, rfl, rfl⟩, ⟨⟨_, rfl, rfl⟩, trivial⟩⟩) trivial trivial) ?_
      refine al_pure rfl rfl rfl (pure_and rfl rfl (fun _ => rfl) (fun _ hi => gP rfl hi)) ?_
      refine al_pure rfl rfl rfl (pure_assign rfl (fun _ => rfl)) ?_
      refine al_nil ?_
      refine awp_ret ?_
      repeat (first | refine thenS_ret ?_ | refine blockS_ret ?_)
      refine ret_ok rfl ?_ trivial
      exact xb_eq (by simp only [fitsB, zeroB]; grind)
    · try simp only [n1, n2, n3, n4, n5, n6, n7, n8, n9, n10, n11, n12, n13, n14, n15, n16, Fd.rows_len, Fm.rows_len, V.rows_len] at hc2
      refine awp_seq ?_
      refine awp_region ?_
      refine al_pure rfl rfl rfl (pure_cmp rfl rfl (fun _ => rfl) (fun _ => rfl) rfl) ?_
      refine al_pure rfl rfl rfl (pure_assign rfl (fun _ => rfl)) ?_
      refine al_nil ?_
      refine awp_sub (s := { t := [(3, _, _), (34, _, _)], bx := [((.l 3), _)], ow := [] }) (sub_mk (⟨⟨_, rfl, rfl⟩, ⟨⟨_, rfl, rfl⟩, trivial⟩⟩) (⟨⟨_, rfl, rfl⟩, trivial⟩) trivial) ?_
      refine awp_cond rfl (fun hc3 => ?_) (fun hc3 => ?_)
      · try simp only [n1, n2, n3, n4, n5, n6, n7, n8, n9, n10, n11, n12, n13, n14, n15, n16, Fd.rows_len, Fm.rows_len, V.rows_len] at hc3
        refine awp_seq ?_
        refine awp_region ?_
        refine al_pure rfl rfl rfl (pure_assign rfl (fun _ => rfl)) ?_
        refine al_nil ?_
        refine awp_ret ?_
        repeat (first | refine thenS_ret ?_ | refine blockS_ret ?_)
        refine ret_ok rfl ?_ trivial
        exact xb_eq (by simp only [fitsB, zeroB]; grind)
      · try simp only [n1, n2, n3, n4, n5, n6, n7, n8, n9, n10, n11, n12, n13, n14, n15, n16, Fd.rows_len, Fm.rows_len, V.rows_len] at hc3
        refine awp_skip ?_
        refine awp_seq ?_
        refine awp_region ?_
        refine al_pure rfl rfl rfl (pure_fieldPtr rfl (fun _ => rfl) rfl rfl) ?_
        refine al_pure rfl rfl rfl (pure_loadBox rfl (fun _ => rfl) rfl rfl rfl rfl) ?_
        refine al_pure rfl rfl rfl (pure_cmp rfl rfl (fun _ => rfl) (fun _ => rfl) rfl) ?_
        refine al_pure rfl rfl rfl (pure_move rfl (fun _ => rfl)) ?_
        refine al_pure rfl rfl rfl (pure_fieldPtr rfl (fun _ => rfl) rfl rfl) ?_
        refine al_pure rfl rfl rfl (pure_loadBox rfl (fun hh => hh) rfl rfl rfl rfl) ?_
        refine al_pure rfl rfl rfl (pure_lenSl rfl (fun hh => hh) rfl rfl) ?_
        refine al_pure rfl rfl rfl (pure_cmp rfl rfl (fun hh => hh) (fun _ => rfl) rfl) ?_
        refine al_pure rfl rfl rfl (pure_and rfl rfl (fun _ => rfl) (fun _ hi => gP rfl hi)) ?_
        refine al_pure rfl rfl rfl (pure_assign rfl (fun _ => rfl)) ?_
        refine al_nil ?_
        refine awp_ret ?_
        repeat (first | refine thenS_ret ?_ | refine blockS_ret ?_)
        refine ret_ok rfl ?_ trivial
        exact xb_eq (by simp only [fitsB, zeroB]; grind)
theorem rngs_spec (f : Fd) (v : V) (hf : FdOk f) : Ctr sys 61 [xf f, xv v] [] (xb (rngB f v)) none [] := by
  have hr := V.rows_len v.kids
  obtain ⟨hk, _, _, _, _, _, _⟩ := hf
  refine spec_intro Try.func61 rfl rfl rfl rfl rfl rfl ?_
  refine awp_seq ?_
  refine awp_region ?_
  refine al_do rfl (does_box rfl rfl rfl rfl) ?_
  refine al_do rfl (does_box rfl rfl rfl rfl) ?_
  refine al_pure rfl rfl rfl (pure_assign rfl (fun _ => rfl)) ?_
  refine al_nil ?_
  refine awp_seq ?_
  refine awp_region ?_
  refine al_pure rfl rfl rfl (pure_fieldPtr rfl (fun _ => rfl) rfl rfl) ?_
  refine al_pure rfl rfl rfl (pure_loadBox rfl (fun _ => rfl) rfl rfl rfl rfl) ?_
  refine al_lenS rfl rfl rfl rfl rfl (fun _ => rfl) (Try.underlying9) ?_ (fun hh => by simp at hh); intro hlen
  refine al_pure rfl rfl rfl (pure_assign rfl (fun _ => rfl)) ?_
  refine al_nil ?_
  refine awp_sub (s := { t := [(2, _, _), (3, _, _), (5, _, _)], bx := [((.l 2), _), ((.l 3), _)], ow := [] }) (sub_mk (⟨⟨_, rfl, rfl⟩, ⟨⟨_, rfl, rfl⟩, ⟨⟨_, rfl, rfl⟩, trivial⟩⟩⟩) (⟨⟨_, rfl, rfl⟩, ⟨⟨_, rfl, rfl⟩, trivial⟩⟩) trivial) ?_
  refine awp_seq ?_
  refine awp_seq ?_
  refine awp_region ?_
  refine al_pure rfl rfl rfl (pure_fieldPtr rfl (fun _ => rfl) rfl rfl) ?_
  refine al_pure rfl rfl rfl (pure_loadBox rfl (fun _ => rfl) rfl rfl rfl rfl) ?_
  refine al_nil ?_
  refine awp_block ?_
  refine awp_seq ?_
  refine awp_region ?_
  refine al_pure rfl rfl rfl (pure_cmp rfl rfl (fun _ => rfl) (fun _ => rfl) rfl) ?_
  refine al_pure rfl rfl rfl (pure_assign rfl (fun _ => rfl)) ?_
  refine al_nil ?_
  refine awp_cond rfl (fun hc1 => ?_) (fun hc1 => ?_)
  · try simp only [n1, n2, n3, n4, n5, n6, n7, n8, n9, n10, n11, n12, n13, n14, n15, n16, Fd.rows_len, Fm.rows_len, V.rows_len] at hc1
    refine awp_seq ?_
    refine awp_region ?_
    refine al_pure rfl rfl rfl (pure_move rfl (fun _ => rfl)) ?_
    refine al_pure rfl rfl rfl (pure_fieldPtr rfl (fun _ => rfl) rfl rfl) ?_
    refine al_pure rfl rfl rfl (pure_loadBox rfl (fun _ => rfl) rfl rfl rfl rfl) ?_
    refine al_pure rfl rfl rfl (pure_cmp rfl rfl (fun _ => rfl) (fun _ => rfl) rfl) ?_
    refine al_pure rfl rfl rfl (pure_assign rfl (fun _ => rfl)) ?_
    refine al_nil ?_
    refine awp_ret ?_
    repeat (first | refine thenS_ret ?_ | refine blockS_ret ?_)
    refine ret_ok rfl ?_ trivial
    exact xb_eq (by simp only [rngB]; grind)
  · try simp only [n1, n2, n3, n4, n5, n6, n7, n8, n9, n10, n11, n12, n13, n14, n15, n16, Fd.rows_len, Fm.rows_len, V.rows_len] at hc1
    refine awp_seq ?_
    refine awp_region ?_
    refine al_pure rfl rfl rfl (pure_cmp rfl rfl (fun _ => rfl) (fun _ => rfl) rfl) ?_
    refine al_pure rfl rfl rfl (pure_assign rfl (fun _ => rfl)) ?_
    refine al_nil ?_
    refine awp_sub (s := { t := [(2, _, _), (3, _, _), (5, _, _), (10, _, _), (17, _, _)], bx := [((.l 2), _), ((.l 3), _)], ow := [] }) (sub_mk (⟨⟨_, rfl, rfl⟩, ⟨⟨_, rfl, rfl⟩, ⟨⟨_, rfl, rfl⟩, ⟨⟨_, rfl, rfl⟩, ⟨⟨_, rfl, rfl⟩, trivial⟩⟩⟩⟩⟩) (⟨⟨_, rfl, rfl⟩, ⟨⟨_, rfl, rfl⟩, trivial⟩⟩) trivial) ?_
    refine awp_cond rfl (fun hc2 => ?_) (fun hc2 => ?_)
    · try simp only [n1, n2, n3, n4, n5, n6, n7, n8, n9, n10, n11, n12, n13, n14, n15, n16, Fd.rows_len, Fm.rows_len, V.rows_len] at hc2
      refine awp_seq ?_
      refine awp_region ?_
      refine al_pure rfl rfl rfl (pure_move rfl (fun _ => rfl)) ?_
      refine al_pure rfl rfl rfl (pure_fieldPtr rfl (fun _ => rfl) rfl rfl) ?_
      refine al_pure rfl rfl rfl (pure_loadBox rfl (fun _ => rfl) rfl rfl rfl rfl) ?_
      refine al_pure rfl rfl rfl (pure_cmp rfl rfl (fun _ => rfl) (fun _ => rfl) rfl) ?_
      refine al_pure rfl rfl rfl (pure_assign rfl (fun _ => rfl)) ?_
      refine al_nil ?_
      refine awp_ret ?_
      repeat (first | refine thenS_ret ?_ | refine blockS_ret ?_)
      refine ret_ok rfl ?_ trivial
      exact xb_eq (by simp only [rngB]; grind)
    · try simp only [n1, n2, n3, n4, n5, n6, n7, n8, n9, n10, n11, n12, n13, n14, n15, n16, Fd.rows_len, Fm.rows_len, V.rows_len] at hc2
      refine awp_seq ?_
      refine awp_region ?_
      refine al_pure rfl rfl rfl (pure_cmp rfl rfl (fun _ => rfl) (fun _ => rfl) rfl) ?_
      refine al_pure rfl rfl rfl (pure_assign rfl (fun _ => rfl)) ?_
      refine al_nil ?_
      refine awp_cond rfl (fun hc3 => ?_) (fun hc3 => ?_)
      · try simp only [n1, n2, n3, n4, n5, n6, n7, n8, n9, n10, n11, n12, n13, n14, n15, n16, Fd.rows_len, Fm.rows_len, V.rows_len] at hc3
        refine awp_seq ?_
        refine awp_region ?_
        refine al_pure rfl rfl rfl (pure_fieldPtr rfl (fun _ => rfl) rfl rfl) ?_
        refine al_pure rfl rfl rfl (pure_loadBox rfl (fun _ => rfl) rfl rfl rfl rfl) ?_
        refine al_pure rfl rfl rfl (pure_fieldPtr rfl (fun _ => rfl) rfl rfl) ?_
        refine al_pure rfl rfl rfl (pure_loadBox rfl (fun _ => rfl) rfl rfl rfl rfl) ?_
        refine al_pure rfl rfl rfl (pure_cmp rfl rfl (fun _ => rfl) (fun _ => rfl) rfl) ?_
        refine al_pure rfl rfl rfl (pure_move rfl (fun _ => rfl)) ?_
        refine al_pure rfl rfl rfl (pure_fieldPtr rfl (fun _ => rfl) rfl rfl) ?_
        refine al_pure rfl rfl rfl (pure_loadBox rfl (fun hh => hh) rfl rfl rfl rfl) ?_
        refine al_pure rfl rfl rfl (pure_fieldPtr rfl (fun _ => rfl) rfl rfl) ?_
        refine al_pure rfl rfl rfl (pure_loadBox rfl (fun hh => hh) rfl rfl rfl rfl) ?_
        refine al_sub (s := { t := [(30, _, _), (32, _, _), (34, _, _)], bx := [], ow := [] }) (sub_mk (⟨⟨_, rfl, rfl⟩, ⟨⟨_, rfl, rfl⟩, ⟨⟨_, rfl, rfl⟩, trivial⟩⟩⟩) trivial trivial) ?_
        refine al_pure rfl rfl rfl (pure_cmp rfl rfl (fun hh => hh) (fun hh => hh) rfl) ?_
        refine al_pure rfl rfl rfl (pure_and rfl rfl (fun _ => rfl) (fun _ hi => gP rfl hi)) ?_
        refine al_pure rfl rfl rfl (pure_assign rfl (fun _ => rfl)) ?_
        refine al_nil ?_
        refine awp_ret ?_
        repeat (first | refine thenS_ret ?_ | refine blockS_ret ?_)
        refine ret_ok rfl ?_ trivial
        exact xb_eq (by simp only [rngB]; grind)
      · try simp only [n1, n2, n3, n4, n5, n6, n7, n8, n9, n10, n11, n12, n13, n14, n15, n16, Fd.rows_len, Fm.rows_len, V.rows_len] at hc3
        refine awp_seq ?_
        refine awp_region ?_
        refine al_pure rfl rfl rfl (pure_cmp rfl rfl (fun _ => rfl) (fun _ => rfl) rfl) ?_
        refine al_pure rfl rfl rfl (pure_assign rfl (fun _ => rfl)) ?_
        refine al_nil ?_
        refine awp_cond rfl (fun hc4 => ?_) (fun hc4 => ?_)
        · try simp only [n1, n2, n3, n4, n5, n6, n7, n8, n9, n10, n11, n12, n13, n14, n15, n16, Fd.rows_len, Fm.rows_len, V.rows_len] at hc4
          refine awp_seq ?_
          refine awp_region ?_
          refine al_pure rfl rfl rfl (pure_move rfl (fun _ => rfl)) ?_
          refine al_pure rfl rfl rfl (pure_fieldPtr rfl (fun _ => rfl) rfl rfl) ?_
          refine al_pure rfl rfl rfl (pure_loadBox rfl (fun _ => rfl) rfl rfl rfl rfl) ?_
          refine al_pure rfl rfl rfl (pure_cmp rfl rfl (fun _ => rfl) (fun _ => rfl) rfl) ?_
          refine al_pure rfl rfl rfl (pure_move rfl (fun _ => rfl)) ?_
          refine al_pure rfl rfl rfl (pure_move rfl (fun _ => rfl)) ?_
          refine al_pure rfl rfl rfl (pure_fieldPtr rfl (fun _ => rfl) rfl rfl) ?_
          refine al_pure rfl rfl rfl (pure_loadBox rfl (fun hh => hh) rfl rfl rfl rfl) ?_
          refine al_sub (s := { t := [(43, _, _), (44, _, _), (46, _, _)], bx := [], ow := [] }) (sub_mk (⟨⟨_, rfl, rfl⟩, ⟨⟨_, rfl, rfl⟩, ⟨⟨_, rfl, rfl⟩, trivial⟩⟩⟩) trivial trivial) ?_
          refine al_pure rfl rfl rfl (pure_cmp rfl rfl (fun hh => hh) (fun hh => hh) rfl) ?_
          refine al_pure rfl rfl rfl (pure_and rfl rfl (fun _ => rfl) (fun _ hi => gP rfl hi)) ?_
          refine al_pure rfl rfl rfl (pure_assign rfl (fun _ => rfl)) ?_
          refine al_nil ?_
          refine awp_ret ?_
          repeat (first | refine thenS_ret ?_ | refine blockS_ret ?_)
          refine ret_ok rfl ?_ trivial
          exact xb_eq (by simp only [rngB]; grind)
        · try simp only [n1, n2, n3, n4, n5, n6, n7, n8, n9, n10, n11, n12, n13, n14, n15, n16, Fd.rows_len, Fm.rows_len, V.rows_len] at hc4
          refine awp_skip ?_
          refine awp_seq ?_
          refine awp_region ?_
          refine al_pure rfl rfl rfl (pure_assign rfl (fun _ => rfl)) ?_
          refine al_nil ?_
          refine awp_ret ?_
          repeat (first | refine thenS_ret ?_ | refine blockS_ret ?_)
          refine ret_ok rfl ?_ trivial
          exact xb_eq (by simp only [rngB]; grind)
theorem cfield_gen (t : List Fm) (f : Fd) (v : V) (rec : Int → V → Int) (hf : FdOk f) (hrec : f.kind = 5 → Ctr sys 38 [xtab t, xi f.n, xv v] [] (xi (rec f.n v)) none []) :
    Ctr sys 59 [xtab t, xf f, xv v] [] (xi (fvE rec f v)) none [] := by
  have hr := V.rows_len v.kids
  obtain ⟨hk, _, _, _, _, _, _⟩ := hf
  refine spec_intro Try.func59 rfl rfl rfl rfl rfl rfl ?_
  refine awp_seq ?_
  refine awp_region ?_
  refine al_do rfl (does_box rfl rfl rfl rfl) ?_
  refine al_do rfl (does_box rfl rfl rfl rfl) ?_
  refine al_pure rfl rfl rfl (pure_assign rfl (fun _ => rfl)) ?_
  refine al_nil ?_
  refine awp_seq ?_
  refine awp_seq ?_
  refine awp_region ?_
  refine al_pure rfl rfl rfl (pure_fieldPtr rfl (fun _ => rfl) rfl rfl) ?_
  refine al_pure rfl rfl rfl (pure_loadBox rfl (fun _ => rfl) rfl rfl rfl rfl) ?_
  refine al_nil ?_
  refine awp_sub (s := { t := [(0, _, _), (4, _, _), (5, _, _), (10, _, _)], bx := [((.l 4), _), ((.l 5), _)], ow := [] }) (sub_mk (⟨⟨_, rfl, rfl⟩, ⟨⟨_, rfl, rfl⟩, ⟨⟨_, rfl, rfl⟩, ⟨⟨_, rfl, rfl⟩, trivial⟩⟩⟩⟩) (⟨⟨_, rfl, rfl⟩, ⟨⟨_, rfl, rfl⟩, trivial⟩⟩) trivial) ?_
  refine awp_block ?_
  refine awp_seq ?_
  refine awp_region ?_
  refine al_pure rfl rfl rfl (pure_cmp rfl rfl (fun _ => rfl) (fun _ => rfl) rfl) ?_
  refine al_pure rfl rfl rfl (pure_assign rfl (fun _ => rfl)) ?_
  refine al_nil ?_
  refine awp_cond rfl (fun hc1 => ?_) (fun hc1 => ?_)
  · try simp only [n1, n2, n3, n4, n5, n6, n7, n8, n9, n10, n11, n12, n13, n14, n15, n16, Fd.rows_len, Fm.rows_len, V.rows_len] at hc1
    refine awp_seq ?_
    refine awp_region ?_
    refine al_pure rfl rfl rfl (pure_loadBoxRow rfl (fun _ => rfl) rfl rfl rfl rfl rfl) ?_
    refine al_call rfl rfl rfl rfl rfl rfl (fun _ => rfl) (fun _ => rfl) (zero_spec _) rfl ?_
    refine al_pure rfl rfl rfl (pure_not rfl (fun _ => rfl)) ?_
    refine al_nil ?_
    refine awp_sub (s := { t := [(15, _, _)], bx := [], ow := [] }) (sub_mk (⟨⟨_, rfl, rfl⟩, trivial⟩) trivial trivial) ?_
    refine awp_cond rfl (fun hc2 => ?_) (fun hc2 => ?_)
    · try simp only [n1, n2, n3, n4, n5, n6, n7, n8, n9, n10, n11, n12, n13, n14, n15, n16, Fd.rows_len, Fm.rows_len, V.rows_len] at hc2
      refine awp_seq ?_
      refine awp_region ?_
      refine al_pure rfl rfl rfl (pure_assign rfl (fun _ => rfl)) ?_
      refine al_nil ?_
      refine awp_ret ?_
      repeat (first | refine thenS_ret ?_ | refine blockS_ret ?_)
      refine ret_ok rfl ?_ trivial
      exact xi_eq (by simp only [fvE, fitsB, rngB, zeroB] at *; grind)
    · try simp only [n1, n2, n3, n4, n5, n6, n7, n8, n9, n10, n11, n12, n13, n14, n15, n16, Fd.rows_len, Fm.rows_len, V.rows_len] at hc2
      refine awp_skip ?_
      refine awp_seq ?_
      refine awp_region ?_
      refine al_pure rfl rfl rfl (pure_assign rfl (fun _ => rfl)) ?_
      refine al_nil ?_
      refine awp_ret ?_
      repeat (first | refine thenS_ret ?_ | refine blockS_ret ?_)
      refine ret_ok rfl ?_ trivial
      exact xi_eq (by simp only [fvE, fitsB, rngB, zeroB] at *; grind)
  · try simp only [n1, n2, n3, n4, n5, n6, n7, n8, n9, n10, n11, n12, n13, n14, n15, n16, Fd.rows_len, Fm.rows_len, V.rows_len] at hc1
    refine awp_seq ?_
    refine awp_seq ?_
    refine awp_region ?_
    refine al_pure rfl rfl rfl (pure_cmp rfl rfl (fun _ => rfl) (fun _ => rfl) rfl) ?_
    refine al_pure rfl rfl rfl (pure_assign rfl (fun _ => rfl)) ?_
    refine al_nil ?_
    refine awp_cond rfl (fun hc3 => ?_) (fun hc3 => ?_)
    · try simp only [n1, n2, n3, n4, n5, n6, n7, n8, n9, n10, n11, n12, n13, n14, n15, n16, Fd.rows_len, Fm.rows_len, V.rows_len] at hc3
      refine awp_skip ?_
      refine awp_cond rfl (fun hc4 => ?_) (fun hc4 => ?_)
      · try simp only [n1, n2, n3, n4, n5, n6, n7, n8, n9, n10, n11, n12, n13, n14, n15, n16, Fd.rows_len, Fm.rows_len, V.rows_len] at hc4
        refine awp_seq ?_
        refine awp_seq ?_
        refine awp_region ?_
        refine al_pure rfl rfl rfl (pure_fieldPtr rfl (fun _ => rfl) rfl rfl) ?_
        refine al_pure rfl rfl rfl (pure_loadBox rfl (fun _ => rfl) rfl rfl rfl rfl) ?_
        refine al_pure rfl rfl rfl (pure_cmp rfl rfl (fun _ => rfl) (fun _ => rfl) rfl) ?_
        refine al_pure rfl rfl rfl (pure_move rfl (fun _ => rfl)) ?_
        refine al_pure rfl rfl rfl (pure_fieldPtr rfl (fun _ => rfl) rfl rfl) ?_
        refine al_pure rfl rfl rfl (pure_loadBox rfl (fun hh => hh) rfl rfl rfl rfl) ?_
        refine al_pure rfl rfl rfl (pure_lenSl rfl (fun hh => hh) rfl rfl) ?_
        refine al_pure rfl rfl rfl (pure_cmp rfl rfl (fun hh => hh) (fun _ => rfl) rfl) ?_
        refine al_sub (s := { t := [(4, _, _), (5, _, _), (23, _, _), (27, _, _)], bx := [((.l 4), _), ((.l 5), _)], ow := [] }) (sub_mk (⟨⟨_, rfl, rfl⟩, ⟨⟨_, rfl, rfl⟩, ⟨⟨_, rfl, rfl⟩, ⟨⟨_, rfl, rfl⟩, trivial⟩⟩⟩⟩) (⟨⟨_, rfl, rfl⟩, ⟨⟨_, rfl, rfl⟩, trivial⟩⟩) trivial) ?_
        refine al_pure rfl rfl rfl (pure_or rfl rfl (fun _ => rfl) (fun _ hi => gP rfl hi)) ?_
        refine al_nil ?_
        refine awp_cond rfl (fun hc5 => ?_) (fun hc5 => ?_)
        · try simp only [n1, n2, n3, n4, n5, n6, n7, n8, n9, n10, n11, n12, n13, n14, n15, n16, Fd.rows_len, Fm.rows_len, V.rows_len] at hc5
          refine awp_seq ?_
          refine awp_region ?_
          refine al_pure rfl rfl rfl (pure_assign rfl (fun _ => rfl)) ?_
          refine al_nil ?_
          refine awp_ret ?_
          repeat (first | refine thenS_ret ?_ | refine blockS_ret ?_)
          refine ret_ok rfl ?_ trivial
          exact xi_eq (by simp only [fvE, fitsB, rngB, zeroB] at *; grind)
        · try simp only [n1, n2, n3, n4, n5, n6, n7, n8, n9, n10, n11, n12, n13, n14, n15, n16, Fd.rows_len, Fm.rows_len, V.rows_len] at hc5
          refine awp_skip ?_
          refine awp_seq ?_
          refine awp_drawn' (by kernel_rfl) ?_
          refine dr_pure rfl rfl rfl rfl (pure_fieldPtr rfl (fun _ => rfl) rfl rfl) ?_
          refine dr_load rfl rfl rfl rfl rfl rfl rfl (fun _ => rfl) rfl rfl rfl rfl ?_
          refine dr_pure rfl rfl rfl rfl (pure_fieldPtr rfl (fun _ => rfl) rfl rfl) ?_
          refine dr_load rfl rfl rfl rfl rfl rfl rfl (fun _ => rfl) rfl rfl rfl rfl ?_
          refine dr_pure rfl rfl rfl rfl (pure_assign rfl (fun _ => rfl)) ?_
          refine dr_pure rfl rfl rfl rfl (pure_assign rfl (fun _ => rfl)) ?_
          refine dr_nil (by kernel_rfl) ?_
          refine awp_sub (s := { t := [(4, _, _), (5, _, _), (7, _, _), (8, _, _)], bx := [((.l 4), _), ((.l 5), _)], ow := [] }) (sub_mk (⟨⟨_, rfl, rfl⟩, ⟨⟨_, rfl, rfl⟩, ⟨⟨_, rfl, rfl⟩, ⟨⟨_, rfl, rfl⟩, trivial⟩⟩⟩⟩) (⟨⟨_, rfl, rfl⟩, ⟨⟨_, rfl, rfl⟩, trivial⟩⟩) trivial) ?_
          refine awp_seq ?_
          refine awp_seq ?_
          refine awp_region ?_
          refine al_pure rfl rfl rfl (pure_fieldPtr rfl (fun _ => rfl) rfl rfl) ?_
          refine al_pure rfl rfl rfl (pure_loadBox rfl (fun _ => rfl) rfl rfl rfl rfl) ?_
          refine al_nil ?_
          refine awp_block ?_
          refine awp_seq ?_
          refine awp_region ?_
          refine al_pure rfl rfl rfl (pure_cmp rfl rfl (fun _ => rfl) (fun _ => rfl) rfl) ?_
          refine al_pure rfl rfl rfl (pure_assign rfl (fun _ => rfl)) ?_
          refine al_nil ?_
          refine awp_cond rfl (fun hc6 => ?_) (fun hc6 => ?_)
          · try simp only [n1, n2, n3, n4, n5, n6, n7, n8, n9, n10, n11, n12, n13, n14, n15, n16, Fd.rows_len, Fm.rows_len, V.rows_len] at hc6
            refine awp_region ?_
            refine al_pure rfl rfl rfl (pure_assign rfl (fun _ => rfl)) ?_
            refine al_nil ?_
            refine awp_sub (s := { t := [(5, _, _), (7, _, _), (8, _, _)], bx := [((.l 5), _)], ow := [] }) (sub_mk (⟨⟨_, rfl, rfl⟩, ⟨⟨_, rfl, rfl⟩, ⟨⟨_, rfl, rfl⟩, trivial⟩⟩⟩) (⟨⟨_, rfl, rfl⟩, trivial⟩) trivial) ?_
            refine awp_seq ?_
            refine awp_region ?_
            refine al_pure rfl rfl rfl (pure_fieldPtr rfl (fun _ => rfl) rfl rfl) ?_
            refine al_pure rfl rfl rfl (pure_loadBox rfl (fun _ => rfl) rfl rfl rfl rfl) ?_
            refine al_lenS rfl rfl rfl rfl rfl (fun _ => rfl) (Try.underlying9) ?_ (fun hh => by simp at hh); intro hlen
            refine al_pure rfl rfl rfl (pure_move rfl (fun _ => rfl)) ?_
            refine al_pure rfl rfl rfl (pure_cmp rfl rfl (fun _ => rfl) (fun _ => rfl) rfl) ?_
            refine al_pure rfl rfl rfl (pure_move rfl (fun _ => rfl)) ?_
            refine al_pure rfl rfl rfl (pure_fieldPtr rfl (fun _ => rfl) rfl rfl) ?_
            refine al_pure rfl rfl rfl (pure_loadBox rfl (fun hh => hh) rfl rfl rfl rfl) ?_
            refine al_pure rfl rfl rfl (pure_lenS rfl (fun hh => hh) (Try.underlying9)) ?_
            refine al_pure rfl rfl rfl (pure_move rfl (fun _ => rfl)) ?_
            refine al_pure rfl rfl rfl (pure_cmp rfl rfl (fun hh => hh) (fun hh => hh) rfl) ?_
            refine al_pure rfl rfl rfl (pure_or rfl rfl (fun _ => rfl) (fun _ hi => gP rfl hi)) ?_
            refine al_nil ?_
            refine awp_sub (s := { t := [(54, _, _)], bx := [], ow := [] }) (sub_mk (⟨⟨_, rfl, rfl⟩, trivial⟩) trivial trivial) ?_
            refine awp_cond rfl (fun hc7 => ?_) (fun hc7 => ?_)
            · try simp only [n1, n2, n3, n4, n5, n6, n7, n8, n9, n10, n11, n12, n13, n14, n15, n16, Fd.rows_len, Fm.rows_len, V.rows_len] at hc7
              refine awp_seq ?_
              refine awp_region ?_
              refine al_pure rfl rfl rfl (pure_assign rfl (fun _ => rfl)) ?_
              refine al_nil ?_
              refine awp_ret ?_
              repeat (first | refine thenS_ret ?_ | refine blockS_ret ?_)
              refine ret_ok rfl ?_ trivial
              exact xi_eq (by simp only [fvE, fitsB, rngB, zeroB] at *; grind)
            · try simp only [n1, n2, n3, n4, n5, n6, n7, n8, n9, n10, n11, n12, n13, n14, n15, n16, Fd.rows_len, Fm.rows_len, V.rows_len] at hc7
              refine awp_skip ?_
              refine awp_seq ?_
              refine awp_region ?_
              refine al_pure rfl rfl rfl (pure_assign rfl (fun _ => rfl)) ?_
              refine al_nil ?_
              refine awp_ret ?_
              repeat (first | refine thenS_ret ?_ | refine blockS_ret ?_)
              refine ret_ok rfl ?_ trivial
              exact xi_eq (by simp only [fvE, fitsB, rngB, zeroB] at *; grind)
          · try simp only [n1, n2, n3, n4, n5, n6, n7, n8, n9, n10, n11, n12, n13, n14, n15, n16, Fd.rows_len, Fm.rows_len, V.rows_len] at hc6
            refine awp_seq ?_
            refine awp_region ?_
            refine al_pure rfl rfl rfl (pure_cmp rfl rfl (fun _ => rfl) (fun _ => rfl) rfl) ?_
            refine al_pure rfl rfl rfl (pure_assign rfl (fun _ => rfl)) ?_
            refine al_nil ?_
            refine awp_sub (s := { t := [(4, _, _), (5, _, _), (7, _, _), (8, _, _), (37, _, _)], bx := [((.l 4), _), ((.l 5), _)], ow := [] }) (sub_mk (⟨⟨_, rfl, rfl⟩, ⟨⟨_, rfl, rfl⟩, ⟨⟨_, rfl, rfl⟩, ⟨⟨_, rfl, rfl⟩, ⟨⟨_, rfl, rfl⟩, trivial⟩⟩⟩⟩⟩) (⟨⟨_, rfl, rfl⟩, ⟨⟨_, rfl, rfl⟩, trivial⟩⟩) trivial) ?_
            refine awp_cond rfl (fun hc8 => ?_) (fun hc8 => ?_)
            · try simp only [n1, n2, n3, n4, n5, n6, n7, n8, n9, n10, n11, n12, n13, n14, n15, n16, Fd.rows_len, Fm.rows_len, V.rows_len] at hc8
              refine awp_drawn' (by kernel_rfl) ?_
              refine dr_pure rfl rfl rfl rfl (pure_fieldPtr rfl (fun _ => rfl) rfl rfl) ?_
              refine dr_load rfl rfl rfl rfl rfl rfl rfl (fun _ => rfl) rfl rfl rfl rfl ?_
              refine dr_pure rfl rfl rfl rfl (pure_fieldPtr rfl (fun _ => rfl) rfl rfl) ?_
              refine dr_load rfl rfl rfl rfl rfl rfl rfl (fun _ => rfl) rfl rfl rfl rfl ?_
              refine dr_pure rfl rfl rfl rfl (pure_assign rfl (fun _ => rfl)) ?_
              refine dr_pure rfl rfl rfl rfl (pure_assign rfl (fun _ => rfl)) ?_
              refine dr_nil (by kernel_rfl) ?_
              refine awp_sub (s := { t := [(5, _, _), (7, _, _), (8, _, _)], bx := [((.l 5), _)], ow := [] }) (sub_mk (⟨⟨_, rfl, rfl⟩, ⟨⟨_, rfl, rfl⟩, ⟨⟨_, rfl, rfl⟩, trivial⟩⟩⟩) (⟨⟨_, rfl, rfl⟩, trivial⟩) trivial) ?_
              refine awp_seq ?_
              refine awp_region ?_
              refine al_pure rfl rfl rfl (pure_fieldPtr rfl (fun _ => rfl) rfl rfl) ?_
              refine al_pure rfl rfl rfl (pure_loadBox rfl (fun _ => rfl) rfl rfl rfl rfl) ?_
              refine al_lenS rfl rfl rfl rfl rfl (fun _ => rfl) (Try.underlying9) ?_ (fun hh => by simp at hh); intro hlen
              refine al_pure rfl rfl rfl (pure_move rfl (fun _ => rfl)) ?_
              refine al_pure rfl rfl rfl (pure_cmp rfl rfl (fun _ => rfl) (fun _ => rfl) rfl) ?_
              refine al_pure rfl rfl rfl (pure_move rfl (fun _ => rfl)) ?_
              refine al_pure rfl rfl rfl (pure_fieldPtr rfl (fun _ => rfl) rfl rfl) ?_
              refine al_pure rfl rfl rfl (pure_loadBox rfl (fun hh => hh) rfl rfl rfl rfl) ?_
              refine al_pure rfl rfl rfl (pure_lenS rfl (fun hh => hh) (Try.underlying9)) ?_
              refine al_pure rfl rfl rfl (pure_move rfl (fun _ => rfl)) ?_
              refine al_pure rfl rfl rfl (pure_cmp rfl rfl (fun hh => hh) (fun hh => hh) rfl) ?_
              refine al_pure rfl rfl rfl (pure_or rfl rfl (fun _ => rfl) (fun _ hi => gP rfl hi)) ?_
              refine al_nil ?_
              refine awp_sub (s := { t := [(54, _, _)], bx := [], ow := [] }) (sub_mk (⟨⟨_, rfl, rfl⟩, trivial⟩) trivial trivial) ?_
              refine awp_cond rfl (fun hc9 => ?_) (fun hc9 => ?_)
              · try simp only [n1, n2, n3, n4, n5, n6, n7, n8, n9, n10, n11, n12, n13, n14, n15, n16, Fd.rows_len, Fm.rows_len, V.rows_len] at hc9
                refine awp_seq ?_
                refine awp_region ?_
                refine al_pure rfl rfl rfl (pure_assign rfl (fun _ => rfl)) ?_
                refine al_nil ?_
                refine awp_ret ?_
                repeat (first | refine thenS_ret ?_ | refine blockS_ret ?_)
                refine ret_ok rfl ?_ trivial
                exact xi_eq (by simp only [fvE, fitsB, rngB, zeroB] at *; grind)
              · try simp only [n1, n2, n3, n4, n5, n6, n7, n8, n9, n10, n11, n12, n13, n14, n15, n16, Fd.rows_len, Fm.rows_len, V.rows_len] at hc9
                refine awp_skip ?_
                refine awp_seq ?_
                refine awp_region ?_
                refine al_pure rfl rfl rfl (pure_assign rfl (fun _ => rfl)) ?_
                refine al_nil ?_
                refine awp_ret ?_
                repeat (first | refine thenS_ret ?_ | refine blockS_ret ?_)
                refine ret_ok rfl ?_ trivial
                exact xi_eq (by simp only [fvE, fitsB, rngB, zeroB] at *; grind)
            · try simp only [n1, n2, n3, n4, n5, n6, n7, n8, n9, n10, n11, n12, n13, n14, n15, n16, Fd.rows_len, Fm.rows_len, V.rows_len] at hc8
              refine awp_skip ?_
              refine awp_seq ?_
              refine awp_region ?_
              refine al_pure rfl rfl rfl (pure_fieldPtr rfl (fun _ => rfl) rfl rfl) ?_
              refine al_pure rfl rfl rfl (pure_loadBox rfl (fun _ => rfl) rfl rfl rfl rfl) ?_
              refine al_lenS rfl rfl rfl rfl rfl (fun _ => rfl) (Try.underlying9) ?_ (fun hh => by simp at hh); intro hlen
              refine al_pure rfl rfl rfl (pure_move rfl (fun _ => rfl)) ?_
              refine al_pure rfl rfl rfl (pure_cmp rfl rfl (fun _ => rfl) (fun _ => rfl) rfl) ?_
              refine al_pure rfl rfl rfl (pure_move rfl (fun _ => rfl)) ?_
              refine al_pure rfl rfl rfl (pure_fieldPtr rfl (fun _ => rfl) rfl rfl) ?_
              refine al_pure rfl rfl rfl (pure_loadBox rfl (fun hh => hh) rfl rfl rfl rfl) ?_
              refine al_pure rfl rfl rfl (pure_lenS rfl (fun hh => hh) (Try.underlying9)) ?_
              refine al_pure rfl rfl rfl (pure_move rfl (fun _ => rfl)) ?_
              refine al_pure rfl rfl rfl (pure_cmp rfl rfl (fun hh => hh) (fun hh => hh) rfl) ?_
              refine al_pure rfl rfl rfl (pure_or rfl rfl (fun _ => rfl) (fun _ hi => gP rfl hi)) ?_
              refine al_nil ?_
              refine awp_sub (s := { t := [(54, _, _)], bx := [], ow := [] }) (sub_mk (⟨⟨_, rfl, rfl⟩, trivial⟩) trivial trivial) ?_
              refine awp_cond rfl (fun hc10 => ?_) (fun hc10 => ?_)
              · try simp only [n1, n2, n3, n4, n5, n6, n7, n8, n9, n10, n11, n12, n13, n14, n15, n16, Fd.rows_len, Fm.rows_len, V.rows_len] at hc10
                refine awp_seq ?_
                refine awp_region ?_
                refine al_pure rfl rfl rfl (pure_assign rfl (fun _ => rfl)) ?_
                refine al_nil ?_
                refine awp_ret ?_
                repeat (first | refine thenS_ret ?_ | refine blockS_ret ?_)
                refine ret_ok rfl ?_ trivial
                exact xi_eq (by simp only [fvE, fitsB, rngB, zeroB] at *; grind)
              · try simp only [n1, n2, n3, n4, n5, n6, n7, n8, n9, n10, n11, n12, n13, n14, n15, n16, Fd.rows_len, Fm.rows_len, V.rows_len] at hc10
                refine awp_skip ?_
                refine awp_seq ?_
                refine awp_region ?_
                refine al_pure rfl rfl rfl (pure_assign rfl (fun _ => rfl)) ?_
                refine al_nil ?_
                refine awp_ret ?_
                repeat (first | refine thenS_ret ?_ | refine blockS_ret ?_)
                refine ret_ok rfl ?_ trivial
                exact xi_eq (by simp only [fvE, fitsB, rngB, zeroB] at *; grind)
      · try simp only [n1, n2, n3, n4, n5, n6, n7, n8, n9, n10, n11, n12, n13, n14, n15, n16, Fd.rows_len, Fm.rows_len, V.rows_len] at hc4
        refine awp_seq ?_
        refine awp_region ?_
        refine al_pure rfl rfl rfl (pure_cmp rfl rfl (fun _ => rfl) (fun _ => rfl) rfl) ?_
        refine al_pure rfl rfl rfl (pure_assign rfl (fun _ => rfl)) ?_
        refine al_nil ?_
        refine awp_sub (s := { t := [(0, _, _), (4, _, _), (5, _, _), (10, _, _), (55, _, _)], bx := [((.l 4), _), ((.l 5), _)], ow := [] }) (sub_mk (⟨⟨_, rfl, rfl⟩, ⟨⟨_, rfl, rfl⟩, ⟨⟨_, rfl, rfl⟩, ⟨⟨_, rfl, rfl⟩, ⟨⟨_, rfl, rfl⟩, trivial⟩⟩⟩⟩⟩) (⟨⟨_, rfl, rfl⟩, ⟨⟨_, rfl, rfl⟩, trivial⟩⟩) trivial) ?_
        refine awp_cond rfl (fun hc11 => ?_) (fun hc11 => ?_)
        · try simp only [n1, n2, n3, n4, n5, n6, n7, n8, n9, n10, n11, n12, n13, n14, n15, n16, Fd.rows_len, Fm.rows_len, V.rows_len] at hc11
          refine awp_seq ?_
          refine awp_seq ?_
          refine awp_region ?_
          refine al_pure rfl rfl rfl (pure_fieldPtr rfl (fun _ => rfl) rfl rfl) ?_
          refine al_pure rfl rfl rfl (pure_loadBox rfl (fun _ => rfl) rfl rfl rfl rfl) ?_
          refine al_pure rfl rfl rfl (pure_cmpS rfl rfl (fun _ => rfl) (fun _ => rfl) rfl) ?_
          refine al_pure rfl rfl rfl (pure_move rfl (fun _ => rfl)) ?_
          refine al_pure rfl rfl rfl (pure_fieldPtr rfl (fun _ => rfl) rfl rfl) ?_
          refine al_pure rfl rfl rfl (pure_loadBox rfl (fun hh => hh) rfl rfl rfl rfl) ?_
          refine al_pure rfl rfl rfl (pure_lenSl rfl (fun hh => hh) rfl rfl) ?_
          refine al_pure rfl rfl rfl (pure_cmp rfl rfl (fun hh => hh) (fun _ => rfl) rfl) ?_
          refine al_pure rfl rfl rfl (pure_or rfl rfl (fun _ => rfl) (fun _ hi => gP rfl hi)) ?_
          refine al_nil ?_
          refine awp_sub (s := { t := [(4, _, _), (5, _, _), (65, _, _)], bx := [((.l 4), _), ((.l 5), _)], ow := [] }) (sub_mk (⟨⟨_, rfl, rfl⟩, ⟨⟨_, rfl, rfl⟩, ⟨⟨_, rfl, rfl⟩, trivial⟩⟩⟩) (⟨⟨_, rfl, rfl⟩, ⟨⟨_, rfl, rfl⟩, trivial⟩⟩) trivial) ?_
          refine awp_cond rfl (fun hc12 => ?_) (fun hc12 => ?_)
          · try simp only [n1, n2, n3, n4, n5, n6, n7, n8, n9, n10, n11, n12, n13, n14, n15, n16, Fd.rows_len, Fm.rows_len, V.rows_len] at hc12
            refine awp_seq ?_
            refine awp_region ?_
            refine al_pure rfl rfl rfl (pure_assign rfl (fun _ => rfl)) ?_
            refine al_nil ?_
            refine awp_ret ?_
            repeat (first | refine thenS_ret ?_ | refine blockS_ret ?_)
            refine ret_ok rfl ?_ trivial
            exact xi_eq (by simp only [fvE, fitsB, rngB, zeroB] at *; grind)
          · try simp only [n1, n2, n3, n4, n5, n6, n7, n8, n9, n10, n11, n12, n13, n14, n15, n16, Fd.rows_len, Fm.rows_len, V.rows_len] at hc12
            refine awp_skip ?_
            refine awp_seq ?_
            refine awp_region ?_
            refine al_pure rfl rfl rfl (pure_fieldPtr rfl (fun _ => rfl) rfl rfl) ?_
            refine al_pure rfl rfl rfl (pure_loadBox rfl (fun _ => rfl) rfl rfl rfl rfl) ?_
            refine al_pure rfl rfl rfl (pure_fieldPtr rfl (fun _ => rfl) rfl rfl) ?_
            refine al_pure rfl rfl rfl (pure_loadBox rfl (fun _ => rfl) rfl rfl rfl rfl) ?_
            refine al_pure rfl rfl rfl (pure_cmp rfl rfl (fun _ => rfl) (fun _ => rfl) rfl) ?_
            refine al_pure rfl rfl rfl (pure_move rfl (fun _ => rfl)) ?_
            refine al_pure rfl rfl rfl (pure_fieldPtr rfl (fun _ => rfl) rfl rfl) ?_
            refine al_pure rfl rfl rfl (pure_loadBox rfl (fun hh => hh) rfl rfl rfl rfl) ?_
            refine al_pure rfl rfl rfl (pure_fieldPtr rfl (fun _ => rfl) rfl rfl) ?_
            refine al_pure rfl rfl rfl (pure_loadBox rfl (fun hh => hh) rfl rfl rfl rfl) ?_
            refine al_pure rfl rfl rfl (pure_cmp rfl rfl (fun hh => hh) (fun hh => hh) rfl) ?_
            refine al_pure rfl rfl rfl (pure_or rfl rfl (fun _ => rfl) (fun _ hi => gP rfl hi)) ?_
            refine al_nil ?_
            refine awp_sub (s := { t := [(77, _, _)], bx := [], ow := [] }) (sub_mk (⟨⟨_, rfl, rfl⟩, trivial⟩) trivial trivial) ?_
            refine awp_cond rfl (fun hc13 => ?_) (fun hc13 => ?_)
            · try simp only [n1, n2, n3, n4, n5, n6, n7, n8, n9, n10, n11, n12, n13, n14, n15, n16, Fd.rows_len, Fm.rows_len, V.rows_len] at hc13
              refine awp_seq ?_
              refine awp_region ?_
              refine al_pure rfl rfl rfl (pure_assign rfl (fun _ => rfl)) ?_
              refine al_nil ?_
              refine awp_ret ?_
              repeat (first | refine thenS_ret ?_ | refine blockS_ret ?_)
              refine ret_ok rfl ?_ trivial
              exact xi_eq (by simp only [fvE, fitsB, rngB, zeroB] at *; grind)
            · try simp only [n1, n2, n3, n4, n5, n6, n7, n8, n9, n10, n11, n12, n13, n14, n15, n16, Fd.rows_len, Fm.rows_len, V.rows_len] at hc13
              refine awp_skip ?_
              refine awp_seq ?_
              refine awp_region ?_
              refine al_pure rfl rfl rfl (pure_assign rfl (fun _ => rfl)) ?_
              refine al_nil ?_
              refine awp_ret ?_
              repeat (first | refine thenS_ret ?_ | refine blockS_ret ?_)
              refine ret_ok rfl ?_ trivial
              exact xi_eq (by simp only [fvE, fitsB, rngB, zeroB] at *; grind)
        · try simp only [n1, n2, n3, n4, n5, n6, n7, n8, n9, n10, n11, n12, n13, n14, n15, n16, Fd.rows_len, Fm.rows_len, V.rows_len] at hc11
          refine awp_seq ?_
          refine awp_region ?_
          refine al_pure rfl rfl rfl (pure_cmp rfl rfl (fun _ => rfl) (fun _ => rfl) rfl) ?_
          refine al_pure rfl rfl rfl (pure_assign rfl (fun _ => rfl)) ?_
          refine al_nil ?_
          refine awp_cond rfl (fun hc14 => ?_) (fun hc14 => ?_)
          · try simp only [n1, n2, n3, n4, n5, n6, n7, n8, n9, n10, n11, n12, n13, n14, n15, n16, Fd.rows_len, Fm.rows_len, V.rows_len] at hc14
            refine awp_seq ?_
            refine awp_region ?_
            refine al_pure rfl rfl rfl (pure_move rfl (fun _ => rfl)) ?_
            refine al_pure rfl rfl rfl (pure_fieldPtr rfl (fun _ => rfl) rfl rfl) ?_
            refine al_pure rfl rfl rfl (pure_loadBox rfl (fun _ => rfl) rfl rfl rfl rfl) ?_
            refine al_pure rfl rfl rfl (pure_loadBoxRow rfl (fun _ => rfl) rfl rfl rfl rfl rfl) ?_
            refine al_call rfl rfl rfl rfl rfl rfl (fun _ => rfl) (fun _ => rfl) (hrec (by assumption)) rfl ?_
            refine al_pure rfl rfl rfl (pure_assign rfl (fun _ => rfl)) ?_
            refine al_nil ?_
            refine awp_ret ?_
            repeat (first | refine thenS_ret ?_ | refine blockS_ret ?_)
            refine ret_ok rfl ?_ trivial
            exact xi_eq (by simp only [fvE, fitsB, rngB, zeroB] at *; grind)
          · try simp only [n1, n2, n3, n4, n5, n6, n7, n8, n9, n10, n11, n12, n13, n14, n15, n16, Fd.rows_len, Fm.rows_len, V.rows_len] at hc14
            refine awp_skip ?_
            refine awp_seq ?_
            refine awp_region ?_
            refine al_pure rfl rfl rfl (pure_assign rfl (fun _ => rfl)) ?_
            refine al_nil ?_
            refine awp_ret ?_
            repeat (first | refine thenS_ret ?_ | refine blockS_ret ?_)
            refine ret_ok rfl ?_ trivial
            exact xi_eq (by simp only [fvE, fitsB, rngB, zeroB] at *; grind)
    · try simp only [n1, n2, n3, n4, n5, n6, n7, n8, n9, n10, n11, n12, n13, n14, n15, n16, Fd.rows_len, Fm.rows_len, V.rows_len] at hc3
      refine awp_seq ?_
      refine awp_region ?_
      refine al_pure rfl rfl rfl (pure_cmp rfl rfl (fun _ => rfl) (fun _ => rfl) rfl) ?_
      refine al_pure rfl rfl rfl (pure_assign rfl (fun _ => rfl)) ?_
      refine al_nil ?_
      refine awp_sub (s := { t := [(0, _, _), (4, _, _), (5, _, _), (10, _, _), (16, _, _)], bx := [((.l 4), _), ((.l 5), _)], ow := [] }) (sub_mk (⟨⟨_, rfl, rfl⟩, ⟨⟨_, rfl, rfl⟩, ⟨⟨_, rfl, rfl⟩, ⟨⟨_, rfl, rfl⟩, ⟨⟨_, rfl, rfl⟩, trivial⟩⟩⟩⟩⟩) (⟨⟨_, rfl, rfl⟩, ⟨⟨_, rfl, rfl⟩, trivial⟩⟩) trivial) ?_
      refine awp_cond rfl (fun hc15 => ?_) (fun hc15 => ?_)
      · try simp only [n1, n2, n3, n4, n5, n6, n7, n8, n9, n10, n11, n12, n13, n14, n15, n16, Fd.rows_len, Fm.rows_len, V.rows_len] at hc15
        refine awp_skip ?_
        refine awp_cond rfl (fun hc16 => ?_) (fun hc16 => ?_)
        · try simp only [n1, n2, n3, n4, n5, n6, n7, n8, n9, n10, n11, n12, n13, n14, n15, n16, Fd.rows_len, Fm.rows_len, V.rows_len] at hc16
          refine awp_seq ?_
          refine awp_seq ?_
          refine awp_region ?_
          refine al_pure rfl rfl rfl (pure_fieldPtr rfl (fun _ => rfl) rfl rfl) ?_
          refine al_pure rfl rfl rfl (pure_loadBox rfl (fun _ => rfl) rfl rfl rfl rfl) ?_
          refine al_pure rfl rfl rfl (pure_cmp rfl rfl (fun _ => rfl) (fun _ => rfl) rfl) ?_
          refine al_pure rfl rfl rfl (pure_move rfl (fun _ => rfl)) ?_
          refine al_pure rfl rfl rfl (pure_fieldPtr rfl (fun _ => rfl) rfl rfl) ?_
          refine al_pure rfl rfl rfl (pure_loadBox rfl (fun hh => hh) rfl rfl rfl rfl) ?_
          refine al_pure rfl rfl rfl (pure_lenSl rfl (fun hh => hh) rfl rfl) ?_
          refine al_pure rfl rfl rfl (pure_cmp rfl rfl (fun hh => hh) (fun _ => rfl) rfl) ?_
          refine al_pure rfl rfl rfl (pure_or rfl rfl (fun _ => rfl) (fun _ hi => gP rfl hi)) ?_
          refine al_nil ?_
          refine awp_sub (s := { t := [(4, _, _), (5, _, _), (28, _, _)], bx := [((.l 4), _), ((.l 5), _)], ow := [] }) (sub_mk (⟨⟨_, rfl, rfl⟩, ⟨⟨_, rfl, rfl⟩, ⟨⟨_, rfl, rfl⟩, trivial⟩⟩⟩) (⟨⟨_, rfl, rfl⟩, ⟨⟨_, rfl, rfl⟩, trivial⟩⟩) trivial) ?_
          refine awp_cond rfl (fun hc17 => ?_) (fun hc17 => ?_)
          · try simp only [n1, n2, n3, n4, n5, n6, n7, n8, n9, n10, n11, n12, n13, n14, n15, n16, Fd.rows_len, Fm.rows_len, V.rows_len] at hc17
            refine awp_seq ?_
            refine awp_region ?_
            refine al_pure rfl rfl rfl (pure_assign rfl (fun _ => rfl)) ?_
            refine al_nil ?_
            refine awp_ret ?_
            repeat (first | refine thenS_ret ?_ | refine blockS_ret ?_)
            refine ret_ok rfl ?_ trivial
            exact xi_eq (by simp only [fvE, fitsB, rngB, zeroB] at *; grind)
          · try simp only [n1, n2, n3, n4, n5, n6, n7, n8, n9, n10, n11, n12, n13, n14, n15, n16, Fd.rows_len, Fm.rows_len, V.rows_len] at hc17
            refine awp_skip ?_
            refine awp_seq ?_
            refine awp_drawn' (by kernel_rfl) ?_
            refine dr_pure rfl rfl rfl rfl (pure_fieldPtr rfl (fun _ => rfl) rfl rfl) ?_
            refine dr_load rfl rfl rfl rfl rfl rfl rfl (fun _ => rfl) rfl rfl rfl rfl ?_
            refine dr_pure rfl rfl rfl rfl (pure_fieldPtr rfl (fun _ => rfl) rfl rfl) ?_
            refine dr_load rfl rfl rfl rfl rfl rfl rfl (fun _ => rfl) rfl rfl rfl rfl ?_
            refine dr_pure rfl rfl rfl rfl (pure_assign rfl (fun _ => rfl)) ?_
            refine dr_pure rfl rfl rfl rfl (pure_assign rfl (fun _ => rfl)) ?_
            refine dr_nil (by kernel_rfl) ?_
            refine awp_sub (s := { t := [(4, _, _), (5, _, _), (7, _, _), (8, _, _)], bx := [((.l 4), _), ((.l 5), _)], ow := [] }) (sub_mk (⟨⟨_, rfl, rfl⟩, ⟨⟨_, rfl, rfl⟩, ⟨⟨_, rfl, rfl⟩, ⟨⟨_, rfl, rfl⟩, trivial⟩⟩⟩⟩) (⟨⟨_, rfl, rfl⟩, ⟨⟨_, rfl, rfl⟩, trivial⟩⟩) trivial) ?_
            refine awp_seq ?_
            refine awp_seq ?_
            refine awp_region ?_
            refine al_pure rfl rfl rfl (pure_fieldPtr rfl (fun _ => rfl) rfl rfl) ?_
            refine al_pure rfl rfl rfl (pure_loadBox rfl (fun _ => rfl) rfl rfl rfl rfl) ?_
            refine al_nil ?_
            refine awp_block ?_
            refine awp_seq ?_
            refine awp_region ?_
            refine al_pure rfl rfl rfl (pure_cmp rfl rfl (fun _ => rfl) (fun _ => rfl) rfl) ?_
            refine al_pure rfl rfl rfl (pure_assign rfl (fun _ => rfl)) ?_
            refine al_nil ?_
            refine awp_cond rfl (fun hc18 => ?_) (fun hc18 => ?_)
            · try simp only [n1, n2, n3, n4, n5, n6, n7, n8, n9, n10, n11, n12, n13, n14, n15, n16, Fd.rows_len, Fm.rows_len, V.rows_len] at hc18
              refine awp_region ?_
              refine al_pure rfl rfl rfl (pure_assign rfl (fun _ => rfl)) ?_
              refine al_nil ?_
              refine awp_sub (s := { t := [(5, _, _), (7, _, _), (8, _, _)], bx := [((.l 5), _)], ow := [] }) (sub_mk (⟨⟨_, rfl, rfl⟩, ⟨⟨_, rfl, rfl⟩, ⟨⟨_, rfl, rfl⟩, trivial⟩⟩⟩) (⟨⟨_, rfl, rfl⟩, trivial⟩) trivial) ?_
              refine awp_seq ?_
              refine awp_region ?_
              refine al_pure rfl rfl rfl (pure_fieldPtr rfl (fun _ => rfl) rfl rfl) ?_
              refine al_pure rfl rfl rfl (pure_loadBox rfl (fun _ => rfl) rfl rfl rfl rfl) ?_
              refine al_lenS rfl rfl rfl rfl rfl (fun _ => rfl) (Try.underlying9) ?_ (fun hh => by simp at hh); intro hlen
              refine al_pure rfl rfl rfl (pure_move rfl (fun _ => rfl)) ?_
              refine al_pure rfl rfl rfl (pure_cmp rfl rfl (fun _ => rfl) (fun _ => rfl) rfl) ?_
              refine al_pure rfl rfl rfl (pure_move rfl (fun _ => rfl)) ?_
              refine al_pure rfl rfl rfl (pure_fieldPtr rfl (fun _ => rfl) rfl rfl) ?_
              refine al_pure rfl rfl rfl (pure_loadBox rfl (fun hh => hh) rfl rfl rfl rfl) ?_
              refine al_pure rfl rfl rfl (pure_lenS rfl (fun hh => hh) (Try.underlying9)) ?_
              refine al_pure rfl rfl rfl (pure_move rfl (fun _ => rfl)) ?_
              refine al_pure rfl rfl rfl (pure_cmp rfl rfl (fun hh => hh) (fun hh => hh) rfl) ?_
              refine al_pure rfl rfl rfl (pure_or rfl rfl (fun _ => rfl) (fun _ hi => gP rfl hi)) ?_
              refine al_nil ?_
              refine awp_sub (s := { t := [(54, _, _)], bx := [], ow := [] }) (sub_mk (⟨⟨_, rfl, rfl⟩, trivial⟩) trivial trivial) ?_
              refine awp_cond rfl (fun hc19 => ?_) (fun hc19 => ?_)
              · try simp only [n1, n2, n3, n4, n5, n6, n7, n8, n9, n10, n11, n12, n13, n14, n15, n16, Fd.rows_len, Fm.rows_len, V.rows_len] at hc19
                refine awp_seq ?_
                refine awp_region ?_
                refine al_pure rfl rfl rfl (pure_assign rfl (fun _ => rfl)) ?_
                refine al_nil ?_
                refine awp_ret ?_
                repeat (first | refine thenS_ret ?_ | refine blockS_ret ?_)
                refine ret_ok rfl ?_ trivial
                exact xi_eq (by simp only [fvE, fitsB, rngB, zeroB] at *; grind)
              · try simp only [n1, n2, n3, n4, n5, n6, n7, n8, n9, n10, n11, n12, n13, n14, n15, n16, Fd.rows_len, Fm.rows_len, V.rows_len] at hc19
                refine awp_skip ?_
                refine awp_seq ?_
                refine awp_region ?_
                refine al_pure rfl rfl rfl (pure_assign rfl (fun _ => rfl)) ?_
                refine al_nil ?_
                refine awp_ret ?_
                repeat (first | refine thenS_ret ?_ | refine blockS_ret ?_)
                refine ret_ok rfl ?_ trivial
                exact xi_eq (by simp only [fvE, fitsB, rngB, zeroB] at *; grind)
            · try simp only [n1, n2, n3, n4, n5, n6, n7, n8, n9, n10, n11, n12, n13, n14, n15, n16, Fd.rows_len, Fm.rows_len, V.rows_len] at hc18
              refine awp_seq ?_
              refine awp_region ?_
              refine al_pure rfl rfl rfl (pure_cmp rfl rfl (fun _ => rfl) (fun _ => rfl) rfl) ?_
              refine al_pure rfl rfl rfl (pure_assign rfl (fun _ => rfl)) ?_
              refine al_nil ?_
              refine awp_sub (s := { t := [(4, _, _), (5, _, _), (7, _, _), (8, _, _), (37, _, _)], bx := [((.l 4), _), ((.l 5), _)], ow := [] }) (sub_mk (⟨⟨_, rfl, rfl⟩, ⟨⟨_, rfl, rfl⟩, ⟨⟨_, rfl, rfl⟩, ⟨⟨_, rfl, rfl⟩, ⟨⟨_, rfl, rfl⟩, trivial⟩⟩⟩⟩⟩) (⟨⟨_, rfl, rfl⟩, ⟨⟨_, rfl, rfl⟩, trivial⟩⟩) trivial) ?_
              refine awp_cond rfl (fun hc20 => ?_) (fun hc20 => ?_)
              · try simp only [n1, n2, n3, n4, n5, n6, n7, n8, n9, n10, n11, n12, n13, n14, n15, n16, Fd.rows_len, Fm.rows_len, V.rows_len] at hc20
                refine awp_drawn' (by kernel_rfl) ?_
                refine dr_pure rfl rfl rfl rfl (pure_fieldPtr rfl (fun _ => rfl) rfl rfl) ?_
                refine dr_load rfl rfl rfl rfl rfl rfl rfl (fun _ => rfl) rfl rfl rfl rfl ?_
                refine dr_pure rfl rfl rfl rfl (pure_fieldPtr rfl (fun _ => rfl) rfl rfl) ?_
                refine dr_load rfl rfl rfl rfl rfl rfl rfl (fun _ => rfl) rfl rfl rfl rfl ?_
                refine dr_pure rfl rfl rfl rfl (pure_assign rfl (fun _ => rfl)) ?_
                refine dr_pure rfl rfl rfl rfl (pure_assign rfl (fun _ => rfl)) ?_
                refine dr_nil (by kernel_rfl) ?_
                refine awp_sub (s := { t := [(5, _, _), (7, _, _), (8, _, _)], bx := [((.l 5), _)], ow := [] }) (sub_mk (⟨⟨_, rfl, rfl⟩, ⟨⟨_, rfl, rfl⟩, ⟨⟨_, rfl, rfl⟩, trivial⟩⟩⟩) (⟨⟨_, rfl, rfl⟩, trivial⟩) trivial) ?_
                refine awp_seq ?_
                refine awp_region ?_
                refine al_pure rfl rfl rfl (pure_fieldPtr rfl (fun _ => rfl) rfl rfl) ?_
                refine al_pure rfl rfl rfl (pure_loadBox rfl (fun _ => rfl) rfl rfl rfl rfl) ?_
                refine al_lenS rfl rfl rfl rfl rfl (fun _ => rfl) (Try.underlying9) ?_ (fun hh => by simp at hh); intro hlen
                refine al_pure rfl rfl rfl (pure_move rfl (fun _ => rfl)) ?_
                refine al_pure rfl rfl rfl (pure_cmp rfl rfl (fun _ => rfl) (fun _ => rfl) rfl) ?_
                refine al_pure rfl rfl rfl (pure_move rfl (fun _ => rfl)) ?_
                refine al_pure rfl rfl rfl (pure_fieldPtr rfl (fun _ => rfl) rfl rfl) ?_
                refine al_pure rfl rfl rfl (pure_loadBox rfl (fun hh => hh) rfl rfl rfl rfl) ?_
                refine al_pure rfl rfl rfl (pure_lenS rfl (fun hh => hh) (Try.underlying9)) ?_
                refine al_pure rfl rfl rfl (pure_move rfl (fun _ => rfl)) ?_
                refine al_pure rfl rfl rfl (pure_cmp rfl rfl (fun hh => hh) (fun hh => hh) rfl) ?_
                refine al_pure rfl rfl rfl (pure_or rfl rfl (fun _ => rfl) (fun _ hi => gP rfl hi)) ?_
                refine al_nil ?_
                refine awp_sub (s := { t := [(54, _, _)], bx := [], ow := [] }) (sub_mk (⟨⟨_, rfl, rfl⟩, trivial⟩) trivial trivial) ?_
                refine awp_cond rfl (fun hc21 => ?_) (fun hc21 => ?_)
                · try simp only [n1, n2, n3, n4, n5, n6, n7, n8, n9, n10, n11, n12, n13, n14, n15, n16, Fd.rows_len, Fm.rows_len, V.rows_len] at hc21
                  refine awp_seq ?_
                  refine awp_region ?_
                  refine al_pure rfl rfl rfl (pure_assign rfl (fun _ => rfl)) ?_
                  refine al_nil ?_
                  refine awp_ret ?_
                  repeat (first | refine thenS_ret ?_ | refine blockS_ret ?_)
                  refine ret_ok rfl ?_ trivial
                  exact xi_eq (by simp only [fvE, fitsB, rngB, zeroB] at *; grind)
                · try simp only [n1, n2, n3, n4, n5, n6, n7, n8, n9, n10, n11, n12, n13, n14, n15, n16, Fd.rows_len, Fm.rows_len, V.rows_len] at hc21
                  refine awp_skip ?_
                  refine awp_seq ?_
                  refine awp_region ?_
                  refine al_pure rfl rfl rfl (pure_assign rfl (fun _ => rfl)) ?_
                  refine al_nil ?_
                  refine awp_ret ?_
                  repeat (first | refine thenS_ret ?_ | refine blockS_ret ?_)
                  refine ret_ok rfl ?_ trivial
                  exact xi_eq (by simp only [fvE, fitsB, rngB, zeroB] at *; grind)
              · try simp only [n1, n2, n3, n4, n5, n6, n7, n8, n9, n10, n11, n12, n13, n14, n15, n16, Fd.rows_len, Fm.rows_len, V.rows_len] at hc20
                refine awp_skip ?_
                refine awp_seq ?_
                refine awp_region ?_
                refine al_pure rfl rfl rfl (pure_fieldPtr rfl (fun _ => rfl) rfl rfl) ?_
                refine al_pure rfl rfl rfl (pure_loadBox rfl (fun _ => rfl) rfl rfl rfl rfl) ?_
                refine al_lenS rfl rfl rfl rfl rfl (fun _ => rfl) (Try.underlying9) ?_ (fun hh => by simp at hh); intro hlen
                refine al_pure rfl rfl rfl (pure_move rfl (fun _ => rfl)) ?_
                refine al_pure rfl rfl rfl (pure_cmp rfl rfl (fun _ => rfl) (fun _ => rfl) rfl) ?_
                refine al_pure rfl rfl rfl (pure_move rfl (fun _ => rfl)) ?_
                refine al_pure rfl rfl rfl (pure_fieldPtr rfl (fun _ => rfl) rfl rfl) ?_
                refine al_pure rfl rfl rfl (pure_loadBox rfl (fun hh => hh) rfl rfl rfl rfl) ?_
                refine al_pure rfl rfl rfl (pure_lenS rfl (fun hh => hh) (Try.underlying9)) ?_
                refine al_pure rfl rfl rfl (pure_move rfl (fun _ => rfl)) ?_
                refine al_pure rfl rfl rfl (pure_cmp rfl rfl (fun hh => hh) (fun hh => hh) rfl) ?_
                refine al_pure rfl rfl rfl (pure_or rfl rfl (fun _ => rfl) (fun _ hi => gP rfl hi)) ?_
                refine al_nil ?_
                refine awp_sub (s := { t := [(54, _, _)], bx := [], ow := [] }) (sub_mk (⟨⟨_, rfl, rfl⟩, trivial⟩) trivial trivial) ?_
                refine awp_cond rfl (fun hc22 => ?_) (fun hc22 => ?_)
                · try simp only [n1, n2, n3, n4, n5, n6, n7, n8, n9, n10, n11, n12, n13, n14, n15, n16, Fd.rows_len, Fm.rows_len, V.rows_len] at hc22
                  refine awp_seq ?_
                  refine awp_region ?_
                  refine al_pure rfl rfl rfl (pure_assign rfl (fun _ => rfl)) ?_
                  refine al_nil ?_
                  refine awp_ret ?_
                  repeat (first | refine thenS_ret ?_ | refine blockS_ret ?_)
                  refine ret_ok rfl ?_ trivial
                  exact xi_eq (by simp only [fvE, fitsB, rngB, zeroB] at *; grind)
                · try simp only [n1, n2, n3, n4, n5, n6, n7, n8, n9, n10, n11, n12, n13, n14, n15, n16, Fd.rows_len, Fm.rows_len, V.rows_len] at hc22
                  refine awp_skip ?_
                  refine awp_seq ?_
                  refine awp_region ?_
                  refine al_pure rfl rfl rfl (pure_assign rfl (fun _ => rfl)) ?_
                  refine al_nil ?_
                  refine awp_ret ?_
                  repeat (first | refine thenS_ret ?_ | refine blockS_ret ?_)
                  refine ret_ok rfl ?_ trivial
                  exact xi_eq (by simp only [fvE, fitsB, rngB, zeroB] at *; grind)
        · try simp only [n1, n2, n3, n4, n5, n6, n7, n8, n9, n10, n11, n12, n13, n14, n15, n16, Fd.rows_len, Fm.rows_len, V.rows_len] at hc16
          refine awp_seq ?_
          refine awp_region ?_
          refine al_pure rfl rfl rfl (pure_cmp rfl rfl (fun _ => rfl) (fun _ => rfl) rfl) ?_
          refine al_pure rfl rfl rfl (pure_assign rfl (fun _ => rfl)) ?_
          refine al_nil ?_
          refine awp_cond rfl (fun hc23 => ?_) (fun hc23 => ?_)
          · try simp only [n1, n2, n3, n4, n5, n6, n7, n8, n9, n10, n11, n12, n13, n14, n15, n16, Fd.rows_len, Fm.rows_len, V.rows_len] at hc23
            refine awp_seq ?_
            refine awp_seq ?_
            refine awp_region ?_
            refine al_pure rfl rfl rfl (pure_fieldPtr rfl (fun _ => rfl) rfl rfl) ?_
            refine al_pure rfl rfl rfl (pure_loadBox rfl (fun _ => rfl) rfl rfl rfl rfl) ?_
            refine al_pure rfl rfl rfl (pure_cmpS rfl rfl (fun _ => rfl) (fun _ => rfl) rfl) ?_
            refine al_pure rfl rfl rfl (pure_move rfl (fun _ => rfl)) ?_
            refine al_pure rfl rfl rfl (pure_fieldPtr rfl (fun _ => rfl) rfl rfl) ?_
            refine al_pure rfl rfl rfl (pure_loadBox rfl (fun hh => hh) rfl rfl rfl rfl) ?_
            refine al_pure rfl rfl rfl (pure_lenSl rfl (fun hh => hh) rfl rfl) ?_
            refine al_pure rfl rfl rfl (pure_cmp rfl rfl (fun hh => hh) (fun _ => rfl) rfl) ?_
            refine al_pure rfl rfl rfl (pure_or rfl rfl (fun _ => rfl) (fun _ hi => gP rfl hi)) ?_
            refine al_nil ?_
            refine awp_sub (s := { t := [(4, _, _), (5, _, _), (65, _, _)], bx := [((.l 4), _), ((.l 5), _)], ow := [] }) (sub_mk (⟨⟨_, rfl, rfl⟩, ⟨⟨_, rfl, rfl⟩, ⟨⟨_, rfl, rfl⟩, trivial⟩⟩⟩) (⟨⟨_, rfl, rfl⟩, ⟨⟨_, rfl, rfl⟩, trivial⟩⟩) trivial) ?_
            refine awp_cond rfl (fun hc24 => ?_) (fun hc24 => ?_)
            · try simp only [n1, n2, n3, n4, n5, n6, n7, n8, n9, n10, n11, n12, n13, n14, n15, n16, Fd.rows_len, Fm.rows_len, V.rows_len] at hc24
              refine awp_seq ?_
              refine awp_region ?_
              refine al_pure rfl rfl rfl (pure_assign rfl (fun _ => rfl)) ?_
              refine al_nil ?_
              refine awp_ret ?_
              repeat (first | refine thenS_ret ?_ | refine blockS_ret ?_)
              refine ret_ok rfl ?_ trivial
              exact xi_eq (by simp only [fvE, fitsB, rngB, zeroB] at *; grind)
            · try simp only [n1, n2, n3, n4, n5, n6, n7, n8, n9, n10, n11, n12, n13, n14, n15, n16, Fd.rows_len, Fm.rows_len, V.rows_len] at hc24
              refine awp_skip ?_
              refine awp_seq ?_
              refine awp_region ?_
              refine al_pure rfl rfl rfl (pure_fieldPtr rfl (fun _ => rfl) rfl rfl) ?_
              refine al_pure rfl rfl rfl (pure_loadBox rfl (fun _ => rfl) rfl rfl rfl rfl) ?_
              refine al_pure rfl rfl rfl (pure_fieldPtr rfl (fun _ => rfl) rfl rfl) ?_
              refine al_pure rfl rfl rfl (pure_loadBox rfl (fun _ => rfl) rfl rfl rfl rfl) ?_
              refine al_pure rfl rfl rfl (pure_cmp rfl rfl (fun _ => rfl) (fun _ => rfl) rfl) ?_
              refine al_pure rfl rfl rfl (pure_move rfl (fun _ => rfl)) ?_
              refine al_pure rfl rfl rfl (pure_fieldPtr rfl (fun _ => rfl) rfl rfl) ?_
              refine al_pure rfl rfl rfl (pure_loadBox rfl (fun hh => hh) rfl rfl rfl rfl) ?_
              refine al_pure rfl rfl rfl (pure_fieldPtr rfl (fun _ => rfl) rfl rfl) ?_
              refine al_pure rfl rfl rfl (pure_loadBox rfl (fun hh => hh) rfl rfl rfl rfl) ?_
              refine al_pure rfl rfl rfl (pure_cmp rfl rfl (fun hh => hh) (fun hh => hh) rfl) ?_
              refine al_pure rfl rfl rfl (pure_or rfl rfl (fun _ => rfl) (fun _ hi => gP rfl hi)) ?_
              refine al_nil ?_
              refine awp_sub (s := { t := [(77, _, _)], bx := [], ow := [] }) (sub_mk (⟨⟨_, rfl, rfl⟩, trivial⟩) trivial trivial) ?_
              refine awp_cond rfl (fun hc25 => ?_) (fun hc25 => ?_)
              · try simp only [n1, n2, n3, n4, n5, n6, n7, n8, n9, n10, n11, n12, n13, n14, n15, n16, Fd.rows_len, Fm.rows_len, V.rows_len] at hc25
                refine awp_seq ?_
                refine awp_region ?_
                refine al_pure rfl rfl rfl (pure_assign rfl (fun _ => rfl)) ?_
                refine al_nil ?_
                refine awp_ret ?_
                repeat (first | refine thenS_ret ?_ | refine blockS_ret ?_)
                refine ret_ok rfl ?_ trivial
                exact xi_eq (by simp only [fvE, fitsB, rngB, zeroB] at *; grind)
              · try simp only [n1, n2, n3, n4, n5, n6, n7, n8, n9, n10, n11, n12, n13, n14, n15, n16, Fd.rows_len, Fm.rows_len, V.rows_len] at hc25
                refine awp_skip ?_
                refine awp_seq ?_
                refine awp_region ?_
                refine al_pure rfl rfl rfl (pure_assign rfl (fun _ => rfl)) ?_
                refine al_nil ?_
                refine awp_ret ?_
                repeat (first | refine thenS_ret ?_ | refine blockS_ret ?_)
                refine ret_ok rfl ?_ trivial
                exact xi_eq (by simp only [fvE, fitsB, rngB, zeroB] at *; grind)
          · try simp only [n1, n2, n3, n4, n5, n6, n7, n8, n9, n10, n11, n12, n13, n14, n15, n16, Fd.rows_len, Fm.rows_len, V.rows_len] at hc23
            refine awp_seq ?_
            refine awp_region ?_
            refine al_pure rfl rfl rfl (pure_cmp rfl rfl (fun _ => rfl) (fun _ => rfl) rfl) ?_
            refine al_pure rfl rfl rfl (pure_assign rfl (fun _ => rfl)) ?_
            refine al_nil ?_
            refine awp_cond rfl (fun hc26 => ?_) (fun hc26 => ?_)
            · try simp only [n1, n2, n3, n4, n5, n6, n7, n8, n9, n10, n11, n12, n13, n14, n15, n16, Fd.rows_len, Fm.rows_len, V.rows_len] at hc26
              refine awp_seq ?_
              refine awp_region ?_
              refine al_pure rfl rfl rfl (pure_move rfl (fun _ => rfl)) ?_
              refine al_pure rfl rfl rfl (pure_fieldPtr rfl (fun _ => rfl) rfl rfl) ?_
              refine al_pure rfl rfl rfl (pure_loadBox rfl (fun _ => rfl) rfl rfl rfl rfl) ?_
              refine al_pure rfl rfl rfl (pure_loadBoxRow rfl (fun _ => rfl) rfl rfl rfl rfl rfl) ?_
              refine al_call rfl rfl rfl rfl rfl rfl (fun _ => rfl) (fun _ => rfl) (hrec (by assumption)) rfl ?_
              refine al_pure rfl rfl rfl (pure_assign rfl (fun _ => rfl)) ?_
              refine al_nil ?_
              refine awp_ret ?_
              repeat (first | refine thenS_ret ?_ | refine blockS_ret ?_)
              refine ret_ok rfl ?_ trivial
              exact xi_eq (by simp only [fvE, fitsB, rngB, zeroB] at *; grind)
            · try simp only [n1, n2, n3, n4, n5, n6, n7, n8, n9, n10, n11, n12, n13, n14, n15, n16, Fd.rows_len, Fm.rows_len, V.rows_len] at hc26
              refine awp_skip ?_
              refine awp_seq ?_
              refine awp_region ?_
              refine al_pure rfl rfl rfl (pure_assign rfl (fun _ => rfl)) ?_
              refine al_nil ?_
              refine awp_ret ?_
              repeat (first | refine thenS_ret ?_ | refine blockS_ret ?_)
              refine ret_ok rfl ?_ trivial
              exact xi_eq (by simp only [fvE, fitsB, rngB, zeroB] at *; grind)
      · try simp only [n1, n2, n3, n4, n5, n6, n7, n8, n9, n10, n11, n12, n13, n14, n15, n16, Fd.rows_len, Fm.rows_len, V.rows_len] at hc15
        refine awp_region ?_
        refine al_pure rfl rfl rfl (pure_cmp rfl rfl (fun _ => rfl) (fun _ => rfl) rfl) ?_
        refine al_pure rfl rfl rfl (pure_assign rfl (fun _ => rfl)) ?_
        refine al_nil ?_
        refine awp_cond rfl (fun hc27 => ?_) (fun hc27 => ?_)
        · try simp only [n1, n2, n3, n4, n5, n6, n7, n8, n9, n10, n11, n12, n13, n14, n15, n16, Fd.rows_len, Fm.rows_len, V.rows_len] at hc27
          refine awp_seq ?_
          refine awp_seq ?_
          refine awp_region ?_
          refine al_pure rfl rfl rfl (pure_fieldPtr rfl (fun _ => rfl) rfl rfl) ?_
          refine al_pure rfl rfl rfl (pure_loadBox rfl (fun _ => rfl) rfl rfl rfl rfl) ?_
          refine al_pure rfl rfl rfl (pure_cmp rfl rfl (fun _ => rfl) (fun _ => rfl) rfl) ?_
          refine al_pure rfl rfl rfl (pure_move rfl (fun _ => rfl)) ?_
          refine al_pure rfl rfl rfl (pure_fieldPtr rfl (fun _ => rfl) rfl rfl) ?_
          refine al_pure rfl rfl rfl (pure_loadBox rfl (fun hh => hh) rfl rfl rfl rfl) ?_
          refine al_pure rfl rfl rfl (pure_lenSl rfl (fun hh => hh) rfl rfl) ?_
          refine al_pure rfl rfl rfl (pure_cmp rfl rfl (fun hh => hh) (fun _ => rfl) rfl) ?_
          refine al_pure rfl rfl rfl (pure_or rfl rfl (fun _ => rfl) (fun _ hi => gP rfl hi)) ?_
          refine al_nil ?_
          refine awp_sub (s := { t := [(4, _, _), (5, _, _), (28, _, _)], bx := [((.l 4), _), ((.l 5), _)], ow := [] }) (sub_mk (⟨⟨_, rfl, rfl⟩, ⟨⟨_, rfl, rfl⟩, ⟨⟨_, rfl, rfl⟩, trivial⟩⟩⟩) (⟨⟨_, rfl, rfl⟩, ⟨⟨_, rfl, rfl⟩, trivial⟩⟩) trivial) ?_
          refine awp_cond rfl (fun hc28 => ?_) (fun hc28 => ?_)
          · try simp only [n1, n2, n3, n4, n5, n6, n7, n8, n9, n10, n11, n12, n13, n14, n15, n16, Fd.rows_len, Fm.rows_len, V.rows_len] at hc28
            refine awp_seq ?_
            refine awp_region ?_
            refine al_pure rfl rfl rfl (pure_assign rfl (fun _ => rfl)) ?_
            refine al_nil ?_
            refine awp_ret ?_
            repeat (first | refine thenS_ret ?_ | refine blockS_ret ?_)
            refine ret_ok rfl ?_ trivial
            exact xi_eq (by simp only [fvE, fitsB, rngB, zeroB] at *; grind)
          · try simp only [n1, n2, n3, n4, n5, n6, n7, n8, n9, n10, n11, n12, n13, n14, n15, n16, Fd.rows_len, Fm.rows_len, V.rows_len] at hc28
            refine awp_skip ?_
            refine awp_seq ?_
            refine awp_drawn' (by kernel_rfl) ?_
            refine dr_pure rfl rfl rfl rfl (pure_fieldPtr rfl (fun _ => rfl) rfl rfl) ?_
            refine dr_load rfl rfl rfl rfl rfl rfl rfl (fun _ => rfl) rfl rfl rfl rfl ?_
            refine dr_pure rfl rfl rfl rfl (pure_fieldPtr rfl (fun _ => rfl) rfl rfl) ?_
            refine dr_load rfl rfl rfl rfl rfl rfl rfl (fun _ => rfl) rfl rfl rfl rfl ?_
            refine dr_pure rfl rfl rfl rfl (pure_assign rfl (fun _ => rfl)) ?_
            refine dr_pure rfl rfl rfl rfl (pure_assign rfl (fun _ => rfl)) ?_
            refine dr_nil (by kernel_rfl) ?_
            refine awp_sub (s := { t := [(4, _, _), (5, _, _), (7, _, _), (8, _, _)], bx := [((.l 4), _), ((.l 5), _)], ow := [] }) (sub_mk (⟨⟨_, rfl, rfl⟩, ⟨⟨_, rfl, rfl⟩, ⟨⟨_, rfl, rfl⟩, ⟨⟨_, rfl, rfl⟩, trivial⟩⟩⟩⟩) (⟨⟨_, rfl, rfl⟩, ⟨⟨_, rfl, rfl⟩, trivial⟩⟩) trivial) ?_
            refine awp_seq ?_
            refine awp_seq ?_
            refine awp_region ?_
            refine al_pure rfl rfl rfl (pure_fieldPtr rfl (fun _ => rfl) rfl rfl) ?_
            refine al_pure rfl rfl rfl (pure_loadBox rfl (fun _ => rfl) rfl rfl rfl rfl) ?_
            refine al_nil ?_
            refine awp_block ?_
            refine awp_seq ?_
            refine awp_region ?_
            refine al_pure rfl rfl rfl (pure_cmp rfl rfl (fun _ => rfl) (fun _ => rfl) rfl) ?_
            refine al_pure rfl rfl rfl (pure_assign rfl (fun _ => rfl)) ?_
            refine al_nil ?_
            refine awp_cond rfl (fun hc29 => ?_) (fun hc29 => ?_)
            · try simp only [n1, n2, n3, n4, n5, n6, n7, n8, n9, n10, n11, n12, n13, n14, n15, n16, Fd.rows_len, Fm.rows_len, V.rows_len] at hc29
              refine awp_region ?_
              refine al_pure rfl rfl rfl (pure_assign rfl (fun _ => rfl)) ?_
              refine al_nil ?_
              refine awp_sub (s := { t := [(5, _, _), (7, _, _), (8, _, _)], bx := [((.l 5), _)], ow := [] }) (sub_mk (⟨⟨_, rfl, rfl⟩, ⟨⟨_, rfl, rfl⟩, ⟨⟨_, rfl, rfl⟩, trivial⟩⟩⟩) (⟨⟨_, rfl, rfl⟩, trivial⟩) trivial) ?_
              refine awp_seq ?_
              refine awp_region ?_
              refine al_pure rfl rfl rfl (pure_fieldPtr rfl (fun _ => rfl) rfl rfl) ?_
              refine al_pure rfl rfl rfl (pure_loadBox rfl (fun _ => rfl) rfl rfl rfl rfl) ?_
              refine al_lenS rfl rfl rfl rfl rfl (fun _ => rfl) (Try.underlying9) ?_ (fun hh => by simp at hh); intro hlen
              refine al_pure rfl rfl rfl (pure_move rfl (fun _ => rfl)) ?_
              refine al_pure rfl rfl rfl (pure_cmp rfl rfl (fun _ => rfl) (fun _ => rfl) rfl) ?_
              refine al_pure rfl rfl rfl (pure_move rfl (fun _ => rfl)) ?_
              refine al_pure rfl rfl rfl (pure_fieldPtr rfl (fun _ => rfl) rfl rfl) ?_
              refine al_pure rfl rfl rfl (pure_loadBox rfl (fun hh => hh) rfl rfl rfl rfl) ?_
              refine al_pure rfl rfl rfl (pure_lenS rfl (fun hh => hh) (Try.underlying9)) ?_
              refine al_pure rfl rfl rfl (pure_move rfl (fun _ => rfl)) ?_
              refine al_pure rfl rfl rfl (pure_cmp rfl rfl (fun hh => hh) (fun hh => hh) rfl) ?_
              refine al_pure rfl rfl rfl (pure_or rfl rfl (fun _ => rfl) (fun _ hi => gP rfl hi)) ?_
              refine al_nil ?_
              refine awp_sub (s := { t := [(54, _, _)], bx := [], ow := [] }) (sub_mk (⟨⟨_, rfl, rfl⟩, trivial⟩) trivial trivial) ?_
              refine awp_cond rfl (fun hc30 => ?_) (fun hc30 => ?_)
              · try simp only [n1, n2, n3, n4, n5, n6, n7, n8, n9, n10, n11, n12, n13, n14, n15, n16, Fd.rows_len, Fm.rows_len, V.rows_len] at hc30
                refine awp_seq ?_
                refine awp_region ?_
                refine al_pure rfl rfl rfl (pure_assign rfl (fun _ => rfl)) ?_
                refine al_nil ?_
                refine awp_ret ?_
                repeat (first | refine thenS_ret ?_ | refine blockS_ret ?_)
                refine ret_ok rfl ?_ trivial
                exact xi_eq (by simp only [fvE, fitsB, rngB, zeroB] at *; grind)
              · try simp only [n1, n2, n3, n4, n5, n6, n7, n8, n9, n10, n11, n12, n13, n14, n15, n16, Fd.rows_len, Fm.rows_len, V.rows_len] at hc30
                refine awp_skip ?_
                refine awp_seq ?_
                refine awp_region ?_
                refine al_pure rfl rfl rfl (pure_assign rfl (fun _ => rfl)) ?_
                refine al_nil ?_
                refine awp_ret ?_
                repeat (first | refine thenS_ret ?_ | refine blockS_ret ?_)
                refine ret_ok rfl ?_ trivial
                exact xi_eq (by simp only [fvE, fitsB, rngB, zeroB] at *; grind)
            · try simp only [n1, n2, n3, n4, n5, n6, n7, n8, n9, n10, n11, n12, n13, n14, n15, n16, Fd.rows_len, Fm.rows_len, V.rows_len] at hc29
              refine awp_seq ?_
              refine awp_region ?_
              refine al_pure rfl rfl rfl (pure_cmp rfl rfl (fun _ => rfl) (fun _ => rfl) rfl) ?_
              refine al_pure rfl rfl rfl (pure_assign rfl (fun _ => rfl)) ?_
              refine al_nil ?_
              refine awp_sub (s := { t := [(4, _, _), (5, _, _), (7, _, _), (8, _, _), (37, _, _)], bx := [((.l 4), _), ((.l 5), _)], ow := [] }) (sub_mk (⟨⟨_, rfl, rfl⟩, ⟨⟨_, rfl, rfl⟩, ⟨⟨_, rfl, rfl⟩, ⟨⟨_, rfl, rfl⟩, ⟨⟨_, rfl, rfl⟩, trivial⟩⟩⟩⟩⟩) (⟨⟨_, rfl, rfl⟩, ⟨⟨_, rfl, rfl⟩, trivial⟩⟩) trivial) ?_
              refine awp_cond rfl (fun hc31 => ?_) (fun hc31 => ?_)
              · try simp only [n1, n2, n3, n4, n5, n6, n7, n8, n9, n10, n11, n12, n13, n14, n15, n16, Fd.rows_len, Fm.rows_len, V.rows_len] at hc31
                refine awp_drawn' (by kernel_rfl) ?_
                refine dr_pure rfl rfl rfl rfl (pure_fieldPtr rfl (fun _ => rfl) rfl rfl) ?_
                refine dr_load rfl rfl rfl rfl rfl rfl rfl (fun _ => rfl) rfl rfl rfl rfl ?_
                refine dr_pure rfl rfl rfl rfl (pure_fieldPtr rfl (fun _ => rfl) rfl rfl) ?_
                refine dr_load rfl rfl rfl rfl rfl rfl rfl (fun _ => rfl) rfl rfl rfl rfl ?_
                refine dr_pure rfl rfl rfl rfl (pure_assign rfl (fun _ => rfl)) ?_
                refine dr_pure rfl rfl rfl rfl (pure_assign rfl (fun _ => rfl)) ?_
                refine dr_nil (by kernel_rfl) ?_
                refine awp_sub (s := { t := [(5, _, _), (7, _, _), (8, _, _)], bx := [((.l 5), _)], ow := [] }) (sub_mk (⟨⟨_, rfl, rfl⟩, ⟨⟨_, rfl, rfl⟩, ⟨⟨_, rfl, rfl⟩, trivial⟩⟩⟩) (⟨⟨_, rfl, rfl⟩, trivial⟩) trivial) ?_
                refine awp_seq ?_
                refine awp_region ?_
                refine al_pure rfl rfl rfl (pure_fieldPtr rfl (fun _ => rfl) rfl rfl) ?_
                refine al_pure rfl rfl rfl (pure_loadBox rfl (fun _ => rfl) rfl rfl rfl rfl) ?_
                refine al_lenS rfl rfl rfl rfl rfl (fun _ => rfl) (Try.underlying9) ?_ (fun hh => by simp at hh); intro hlen
                refine al_pure rfl rfl rfl (pure_move rfl (fun _ => rfl)) ?_
                refine al_pure rfl rfl rfl (pure_cmp rfl rfl (fun _ => rfl) (fun _ => rfl) rfl) ?_
                refine al_pure rfl rfl rfl (pure_move rfl (fun _ => rfl)) ?_
                refine al_pure rfl rfl rfl (pure_fieldPtr rfl (fun _ => rfl) rfl rfl) ?_
                refine al_pure rfl rfl rfl (pure_loadBox rfl (fun hh => hh) rfl rfl rfl rfl) ?_
                refine al_pure rfl rfl rfl (pure_lenS rfl (fun hh => hh) (Try.underlying9)) ?_
                refine al_pure rfl rfl rfl (pure_move rfl (fun _ => rfl)) ?_
                refine al_pure rfl rfl rfl (pure_cmp rfl rfl (fun hh => hh) (fun hh => hh) rfl) ?_
                refine al_pure rfl rfl rfl (pure_or rfl rfl (fun _ => rfl) (fun _ hi => gP rfl hi)) ?_
                refine al_nil ?_
                refine awp_sub (s := { t := [(54, _, _)], bx := [], ow := [] }) (sub_mk (⟨⟨_, rfl, rfl⟩, trivial⟩) trivial trivial) ?_
                refine awp_cond rfl (fun hc32 => ?_) (fun hc32 => ?_)
                · try simp only [n1, n2, n3, n4, n5, n6, n7, n8, n9, n10, n11, n12, n13, n14, n15, n16, Fd.rows_len, Fm.rows_len, V.rows_len] at hc32
                  refine awp_seq ?_
                  refine awp_region ?_
                  refine al_pure rfl rfl rfl (pure_assign rfl (fun _ => rfl)) ?_
                  refine al_nil ?_
                  refine awp_ret ?_
                  repeat (first | refine thenS_ret ?_ | refine blockS_ret ?_)
                  refine ret_ok rfl ?_ trivial
                  exact xi_eq (by simp only [fvE, fitsB, rngB, zeroB] at *; grind)
                · try simp only [n1, n2, n3, n4, n5, n6, n7, n8, n9, n10, n11, n12, n13, n14, n15, n16, Fd.rows_len, Fm.rows_len, V.rows_len] at hc32
                  refine awp_skip ?_
                  refine awp_seq ?_
                  refine awp_region ?_
                  refine al_pure rfl rfl rfl (pure_assign rfl (fun _ => rfl)) ?_
                  refine al_nil ?_
                  refine awp_ret ?_
                  repeat (first | refine thenS_ret ?_ | refine blockS_ret ?_)
                  refine ret_ok rfl ?_ trivial
                  exact xi_eq (by simp only [fvE, fitsB, rngB, zeroB] at *; grind)
              · try simp only [n1, n2, n3, n4, n5, n6, n7, n8, n9, n10, n11, n12, n13, n14, n15, n16, Fd.rows_len, Fm.rows_len, V.rows_len] at hc31
                refine awp_skip ?_
                refine awp_seq ?_
                refine awp_region ?_
                refine al_pure rfl rfl rfl (pure_fieldPtr rfl (fun _ => rfl) rfl rfl) ?_
                refine al_pure rfl rfl rfl (pure_loadBox rfl (fun _ => rfl) rfl rfl rfl rfl) ?_
                refine al_lenS rfl rfl rfl rfl rfl (fun _ => rfl) (Try.underlying9) ?_ (fun hh => by simp at hh); intro hlen
                refine al_pure rfl rfl rfl (pure_move rfl (fun _ => rfl)) ?_
                refine al_pure rfl rfl rfl (pure_cmp rfl rfl (fun _ => rfl) (fun _ => rfl) rfl) ?_
                refine al_pure rfl rfl rfl (pure_move rfl (fun _ => rfl)) ?_
                refine al_pure rfl rfl rfl (pure_fieldPtr rfl (fun _ => rfl) rfl rfl) ?_
                refine al_pure rfl rfl rfl (pure_loadBox rfl (fun hh => hh) rfl rfl rfl rfl) ?_
                refine al_pure rfl rfl rfl (pure_lenS rfl (fun hh => hh) (Try.underlying9)) ?_
                refine al_pure rfl rfl rfl (pure_move rfl (fun _ => rfl)) ?_
                refine al_pure rfl rfl rfl (pure_cmp rfl rfl (fun hh => hh) (fun hh => hh) rfl) ?_
                refine al_pure rfl rfl rfl (pure_or rfl rfl (fun _ => rfl) (fun _ hi => gP rfl hi)) ?_
                refine al_nil ?_
                refine awp_sub (s := { t := [(54, _, _)], bx := [], ow := [] }) (sub_mk (⟨⟨_, rfl, rfl⟩, trivial⟩) trivial trivial) ?_
                refine awp_cond rfl (fun hc33 => ?_) (fun hc33 => ?_)
                · try simp only [n1, n2, n3, n4, n5, n6, n7, n8, n9, n10, n11, n12, n13, n14, n15, n16, Fd.rows_len, Fm.rows_len, V.rows_len] at hc33
                  refine awp_seq ?_
                  refine awp_region ?_
                  refine al_pure rfl rfl rfl (pure_assign rfl (fun _ => rfl)) ?_
                  refine al_nil ?_
                  refine awp_ret ?_
                  repeat (first | refine thenS_ret ?_ | refine blockS_ret ?_)
                  refine ret_ok rfl ?_ trivial
                  exact xi_eq (by simp only [fvE, fitsB, rngB, zeroB] at *; grind)
                · try simp only [n1, n2, n3, n4, n5, n6, n7, n8, n9, n10, n11, n12, n13, n14, n15, n16, Fd.rows_len, Fm.rows_len, V.rows_len] at hc33
                  refine awp_skip ?_
                  refine awp_seq ?_
                  refine awp_region ?_
                  refine al_pure rfl rfl rfl (pure_assign rfl (fun _ => rfl)) ?_
                  refine al_nil ?_
                  refine awp_ret ?_
                  repeat (first | refine thenS_ret ?_ | refine blockS_ret ?_)
                  refine ret_ok rfl ?_ trivial
                  exact xi_eq (by simp only [fvE, fitsB, rngB, zeroB] at *; grind)
        · try simp only [n1, n2, n3, n4, n5, n6, n7, n8, n9, n10, n11, n12, n13, n14, n15, n16, Fd.rows_len, Fm.rows_len, V.rows_len] at hc27
          refine awp_seq ?_
          refine awp_region ?_
          refine al_pure rfl rfl rfl (pure_cmp rfl rfl (fun _ => rfl) (fun _ => rfl) rfl) ?_
          refine al_pure rfl rfl rfl (pure_assign rfl (fun _ => rfl)) ?_
          refine al_nil ?_
          refine awp_cond rfl (fun hc34 => ?_) (fun hc34 => ?_)
          · try simp only [n1, n2, n3, n4, n5, n6, n7, n8, n9, n10, n11, n12, n13, n14, n15, n16, Fd.rows_len, Fm.rows_len, V.rows_len] at hc34
            refine awp_seq ?_
            refine awp_seq ?_
            refine awp_region ?_
            refine al_pure rfl rfl rfl (pure_fieldPtr rfl (fun _ => rfl) rfl rfl) ?_
            refine al_pure rfl rfl rfl (pure_loadBox rfl (fun _ => rfl) rfl rfl rfl rfl) ?_
            refine al_pure rfl rfl rfl (pure_cmpS rfl rfl (fun _ => rfl) (fun _ => rfl) rfl) ?_
            refine al_pure rfl rfl rfl (pure_move rfl (fun _ => rfl)) ?_
            refine al_pure rfl rfl rfl (pure_fieldPtr rfl (fun _ => rfl) rfl rfl) ?_
            refine al_pure rfl rfl rfl (pure_loadBox rfl (fun hh => hh) rfl rfl rfl rfl) ?_
            refine al_pure rfl rfl rfl (pure_lenSl rfl (fun hh => hh) rfl rfl) ?_
            refine al_pure rfl rfl rfl (pure_cmp rfl rfl (fun hh => hh) (fun _ => rfl) rfl) ?_
            refine al_sub (s := { t := [(4, _, _), (5, _, _), (60, _, _), (64, _, _)], bx := [((.l 4), _), ((.l 5), _)], ow := [] }) (sub_mk (⟨⟨_, rfl, rfl⟩, ⟨⟨_, rfl, rfl⟩, ⟨⟨_, rfl, rfl⟩, ⟨⟨_, rfl, rfl⟩, trivial⟩⟩⟩⟩) (⟨⟨_, rfl, rfl⟩, ⟨⟨_, rfl, rfl⟩, trivial⟩⟩) trivial) ?_
            refine al_pure rfl rfl rfl (pure_or rfl rfl (fun _ => rfl) (fun _ hi => gP rfl hi)) ?_
            refine al_nil ?_
            refine awp_cond rfl (fun hc35 => ?_) (fun hc35 => ?_)
            · try simp only [n1, n2, n3, n4, n5, n6, n7, n8, n9, n10, n11, n12, n13, n14, n15, n16, Fd.rows_len, Fm.rows_len, V.rows_len] at hc35
              refine awp_seq ?_
              refine awp_region ?_
              refine al_pure rfl rfl rfl (pure_assign rfl (fun _ => rfl)) ?_
              refine al_nil ?_
              refine awp_ret ?_
              repeat (first | refine thenS_ret ?_ | refine blockS_ret ?_)
              refine ret_ok rfl ?_ trivial
              exact xi_eq (by simp only [fvE, fitsB, rngB, zeroB] at *; grind)
            · try simp only [n1, n2, n3, n4, n5, n6, n7, n8, n9, n10, n11, n12, n13, n14, n15, n16, Fd.rows_len, Fm.rows_len, V.rows_len] at hc35
              refine awp_skip ?_
              refine awp_seq ?_
              refine awp_region ?_
              refine al_pure rfl rfl rfl (pure_fieldPtr rfl (fun _ => rfl) rfl rfl) ?_
              refine al_pure rfl rfl rfl (pure_loadBox rfl (fun _ => rfl) rfl rfl rfl rfl) ?_
              refine al_pure rfl rfl rfl (pure_fieldPtr rfl (fun _ => rfl) rfl rfl) ?_
              refine al_pure rfl rfl rfl (pure_loadBox rfl (fun _ => rfl) rfl rfl rfl rfl) ?_
              refine al_pure rfl rfl rfl (pure_cmp rfl rfl (fun _ => rfl) (fun _ => rfl) rfl) ?_
              refine al_pure rfl rfl rfl (pure_move rfl (fun _ => rfl)) ?_
              refine al_pure rfl rfl rfl (pure_fieldPtr rfl (fun _ => rfl) rfl rfl) ?_
              refine al_pure rfl rfl rfl (pure_loadBox rfl (fun hh => hh) rfl rfl rfl rfl) ?_
              refine al_pure rfl rfl rfl (pure_fieldPtr rfl (fun _ => rfl) rfl rfl) ?_
              refine al_pure rfl rfl rfl (pure_loadBox rfl (fun hh => hh) rfl rfl rfl rfl) ?_
              refine al_pure rfl rfl rfl (pure_cmp rfl rfl (fun hh => hh) (fun hh => hh) rfl) ?_
              refine al_sub (s := { t := [(71, _, _), (76, _, _)], bx := [], ow := [] }) (sub_mk (⟨⟨_, rfl, rfl⟩, ⟨⟨_, rfl, rfl⟩, trivial⟩⟩) trivial trivial) ?_
              refine al_pure rfl rfl rfl (pure_or rfl rfl (fun _ => rfl) (fun _ hi => gP rfl hi)) ?_
              refine al_nil ?_
              refine awp_cond rfl (fun hc36 => ?_) (fun hc36 => ?_)
              · try simp only [n1, n2, n3, n4, n5, n6, n7, n8, n9, n10, n11, n12, n13, n14, n15, n16, Fd.rows_len, Fm.rows_len, V.rows_len] at hc36
                refine awp_seq ?_
                refine awp_region ?_
                refine al_pure rfl rfl rfl (pure_assign rfl (fun _ => rfl)) ?_
                refine al_nil ?_
                refine awp_ret ?_
                repeat (first | refine thenS_ret ?_ | refine blockS_ret ?_)
                refine ret_ok rfl ?_ trivial
                exact xi_eq (by simp only [fvE, fitsB, rngB, zeroB] at *; grind)
              · try simp only [n1, n2, n3, n4, n5, n6, n7, n8, n9, n10, n11, n12, n13, n14, n15, n16, Fd.rows_len, Fm.rows_len, V.rows_len] at hc36
                refine awp_skip ?_
                refine awp_seq ?_
                refine awp_region ?_
                refine al_pure rfl rfl rfl (pure_assign rfl (fun _ => rfl)) ?_
                refine al_nil ?_
                refine awp_ret ?_
                repeat (first | refine thenS_ret ?_ | refine blockS_ret ?_)
                refine ret_ok rfl ?_ trivial
                exact xi_eq (by simp only [fvE, fitsB, rngB, zeroB] at *; grind)
          · try simp only [n1, n2, n3, n4, n5, n6, n7, n8, n9, n10, n11, n12, n13, n14, n15, n16, Fd.rows_len, Fm.rows_len, V.rows_len] at hc34
            refine awp_seq ?_
            refine awp_region ?_
            refine al_pure rfl rfl rfl (pure_cmp rfl rfl (fun _ => rfl) (fun _ => rfl) rfl) ?_
            refine al_pure rfl rfl rfl (pure_assign rfl (fun _ => rfl)) ?_
            refine al_nil ?_
            refine awp_sub (s := { t := [(0, _, _), (4, _, _), (5, _, _), (78, _, _)], bx := [((.l 4), _), ((.l 5), _)], ow := [] }) (sub_mk (⟨⟨_, rfl, rfl⟩, ⟨⟨_, rfl, rfl⟩, ⟨⟨_, rfl, rfl⟩, ⟨⟨_, rfl, rfl⟩, trivial⟩⟩⟩⟩) (⟨⟨_, rfl, rfl⟩, ⟨⟨_, rfl, rfl⟩, trivial⟩⟩) trivial) ?_
            refine awp_cond rfl (fun hc37 => ?_) (fun hc37 => ?_)
            · try simp only [n1, n2, n3, n4, n5, n6, n7, n8, n9, n10, n11, n12, n13, n14, n15, n16, Fd.rows_len, Fm.rows_len, V.rows_len] at hc37
              refine awp_seq ?_
              refine awp_region ?_
              refine al_pure rfl rfl rfl (pure_move rfl (fun _ => rfl)) ?_
              refine al_pure rfl rfl rfl (pure_fieldPtr rfl (fun _ => rfl) rfl rfl) ?_
              refine al_pure rfl rfl rfl (pure_loadBox rfl (fun _ => rfl) rfl rfl rfl rfl) ?_
              refine al_pure rfl rfl rfl (pure_loadBoxRow rfl (fun _ => rfl) rfl rfl rfl rfl rfl) ?_
              refine al_call rfl rfl rfl rfl rfl rfl (fun _ => rfl) (fun _ => rfl) (hrec (by assumption)) rfl ?_
              refine al_pure rfl rfl rfl (pure_assign rfl (fun _ => rfl)) ?_
              refine al_nil ?_
              refine awp_ret ?_
              repeat (first | refine thenS_ret ?_ | refine blockS_ret ?_)
              refine ret_ok rfl ?_ trivial
              exact xi_eq (by simp only [fvE, fitsB, rngB, zeroB] at *; grind)
            · try simp only [n1, n2, n3, n4, n5, n6, n7, n8, n9, n10, n11, n12, n13, n14, n15, n16, Fd.rows_len, Fm.rows_len, V.rows_len] at hc37
              refine awp_skip ?_
              refine awp_seq ?_
              refine awp_region ?_
              refine al_pure rfl rfl rfl (pure_assign rfl (fun _ => rfl)) ?_
              refine al_nil ?_
              refine awp_ret ?_
              repeat (first | refine thenS_ret ?_ | refine blockS_ret ?_)
              refine ret_ok rfl ?_ trivial
              exact xi_eq (by simp only [fvE, fitsB, rngB, zeroB] at *; grind)
theorem cvalue_gen (t : List Fm) (i : Int) (v : V) (rec : Int → V → Int) (hi : 0 ≤ i ∧ i < t.length) (hfd : ∀ k, k < (t.getD i.toNat default).fields.length → FdOk ((t.getD i.toNat default).fields.getD k default))
    (hrec : ∀ k, k < (t.getD i.toNat default).fields.length → ((t.getD i.toNat default).fields.getD k default).kind = 5 → ∀ u, Ctr sys 38 [xtab t, xi ((t.getD i.toNat default).fields.getD k default).n, xv u] [] (xi (rec ((t.getD i.toNat default).fields.getD k default).n u)) none []) :
    Ctr sys 38 [xtab t, xi i, xv v] [] (xi (valG rec t i v)) none [] := by
  have hr := V.rows_len v.kids
  have hrl := Fm.rows_len t
  have hrf := Fd.rows_len (t.getD i.toNat default).fields
  refine spec_intro Try.func38 rfl rfl rfl rfl rfl rfl ?_
  refine awp_seq ?_
  refine awp_region ?_
  refine al_do rfl (does_box rfl rfl rfl rfl) ?_
  refine al_pure rfl rfl rfl (pure_assign rfl (fun _ => rfl)) ?_
  refine al_nil ?_
  refine awp_seq ?_
  refine awp_seq ?_
  refine awp_region ?_
  refine al_pure rfl rfl rfl (pure_fieldPtr rfl (fun _ => rfl) rfl rfl) ?_
  refine al_pure rfl rfl rfl (pure_loadBox rfl (fun _ => rfl) rfl rfl rfl rfl) ?_
  refine al_pure rfl rfl rfl (pure_cmpS rfl rfl (fun _ => rfl) (fun _ => rfl) rfl) ?_
  refine al_pure rfl rfl rfl (pure_move rfl (fun _ => rfl)) ?_
  refine al_pure rfl rfl rfl (pure_fieldPtr rfl (fun _ => rfl) rfl rfl) ?_
  refine al_pure rfl rfl rfl (pure_loadBox rfl (fun hh => hh) rfl rfl rfl rfl) ?_
  refine al_pure rfl rfl rfl (pure_cmp rfl rfl (fun hh => hh) (fun _ => rfl) rfl) ?_
  refine al_pure rfl rfl rfl (pure_or rfl rfl (fun _ => rfl) (fun _ hi => gP rfl hi)) ?_
  refine al_nil ?_
  refine awp_sub (s := { t := [(0, _, _), (1, _, _), (5, _, _), (18, _, _)], bx := [((.l 5), _)], ow := [] }) (sub_mk (⟨⟨_, rfl, rfl⟩, ⟨⟨_, rfl, rfl⟩, ⟨⟨_, rfl, rfl⟩, ⟨⟨_, rfl, rfl⟩, trivial⟩⟩⟩⟩) (⟨⟨_, rfl, rfl⟩, trivial⟩) trivial) ?_
  refine awp_cond rfl (fun hc => ?_) (fun hc => ?_)
  · try simp only [n1, n2, n3, n4, n5, n6, n7, n8, n9, n10, n11, n12, n13, n14, n15, n16, Fd.rows_len, Fm.rows_len, V.rows_len] at hc
    refine awp_seq ?_
    refine awp_region ?_
    refine al_pure rfl rfl rfl (pure_assign rfl (fun _ => rfl)) ?_
    refine al_nil ?_
    refine awp_ret ?_
    repeat (first | refine thenS_ret ?_ | refine blockS_ret ?_)
    refine ret_ok rfl ?_ trivial
    exact xi_eq (by rw [valG, if_pos]; grind)
  · try simp only [n1, n2, n3, n4, n5, n6, n7, n8, n9, n10, n11, n12, n13, n14, n15, n16, Fd.rows_len, Fm.rows_len, V.rows_len] at hc
    rw [valG, if_neg (by grind)]
    refine awp_skip ?_
    refine awp_seq ?_
    refine awp_region ?_
    refine al_pure rfl rfl rfl (pure_move rfl (fun _ => rfl)) ?_
    refine al_pure rfl rfl rfl (pure_move rfl (fun _ => rfl)) ?_
    refine al_pure rfl rfl rfl (pure_indexAddr (j := i.toNat) rfl rfl (fun _ => rfl) (fun _ => rfl) rfl rfl (by omega) (fun hh => Fm.rows_at (by omega))) ?_
    refine al_pure rfl rfl rfl (pure_fieldRo rfl (fun _ => rfl) rfl rfl) ?_
    refine al_pure rfl rfl rfl (pure_loadRo rfl (fun _ => rfl) rfl rfl rfl) ?_
    refine al_pure rfl rfl rfl (pure_assign rfl (fun _ => rfl)) ?_
    refine al_nil ?_
    refine awp_sub (s := { t := [(0, _, _), (5, _, _), (7, _, _)], bx := [((.l 5), _)], ow := [] }) (sub_mk (⟨⟨_, rfl, rfl⟩, ⟨⟨_, rfl, rfl⟩, ⟨⟨_, rfl, rfl⟩, trivial⟩⟩⟩) (⟨⟨_, rfl, rfl⟩, trivial⟩) trivial) ?_
    refine awp_seq ?_
    refine awp_seq ?_
    refine awp_region ?_
    refine al_pure rfl rfl rfl (pure_fieldPtr rfl (fun _ => rfl) rfl rfl) ?_
    refine al_pure rfl rfl rfl (pure_loadBox rfl (fun _ => rfl) rfl rfl rfl rfl) ?_
    refine al_lenSl rfl rfl rfl rfl rfl (fun _ => rfl) rfl rfl ?_ (fun hh => by simp at hh); intro hlen
    refine al_pure rfl rfl rfl (pure_move rfl (fun _ => rfl)) ?_
    refine al_lenSl rfl rfl rfl rfl rfl (fun _ => rfl) rfl rfl ?_ (fun hh => by simp at hh); intro hlen
    refine al_pure rfl rfl rfl (pure_cmp rfl rfl (fun _ => rfl) (fun _ => rfl) rfl) ?_
    refine al_nil ?_
    refine awp_sub (s := { t := [(0, _, _), (5, _, _), (7, _, _), (29, _, _)], bx := [((.l 5), _)], ow := [] }) (sub_mk (⟨⟨_, rfl, rfl⟩, ⟨⟨_, rfl, rfl⟩, ⟨⟨_, rfl, rfl⟩, ⟨⟨_, rfl, rfl⟩, trivial⟩⟩⟩⟩) (⟨⟨_, rfl, rfl⟩, trivial⟩) trivial) ?_
    refine awp_cond rfl (fun hc2 => ?_) (fun hc2 => ?_)
    · try simp only [n1, n2, n3, n4, n5, n6, n7, n8, n9, n10, n11, n12, n13, n14, n15, n16, Fd.rows_len, Fm.rows_len, V.rows_len] at hc2
      refine awp_seq ?_
      refine awp_region ?_
      refine al_pure rfl rfl rfl (pure_assign rfl (fun _ => rfl)) ?_
      refine al_nil ?_
      refine awp_ret ?_
      repeat (first | refine thenS_ret ?_ | refine blockS_ret ?_)
      refine ret_ok rfl ?_ trivial
      exact xi_eq (by rw [if_pos]; omega)
    · try simp only [n1, n2, n3, n4, n5, n6, n7, n8, n9, n10, n11, n12, n13, n14, n15, n16, Fd.rows_len, Fm.rows_len, V.rows_len] at hc2
      rw [if_neg (by omega)]
      refine awp_skip ?_
      refine awp_seq ?_
      refine awp_seq ?_
      refine awp_region ?_
      refine al_pure rfl rfl rfl (pure_move rfl (fun _ => rfl)) ?_
      refine al_lenSl rfl rfl rfl rfl rfl (fun _ => rfl) rfl rfl ?_ (fun hh => by simp at hh); intro hlen
      refine al_pure rfl rfl rfl (pure_move rfl (fun _ => rfl)) ?_
      refine al_nil ?_
      refine awp_block ?_
      refine awp_for (ι := Nat) { t := [(0, _, _), (5, _, _), (30, _, _), (31, _, _)], bx := [((.l 5), _)], ow := [] } (fun k => [(32, true, xi (k : Int))]) (fun k => []) (fun k => k ≤ (t.getD i.toNat default).fields.length ∧ kidsE rec ((t.getD i.toNat default).fields.drop k) (v.kids.drop k) = kidsE rec (t.getD i.toNat default).fields v.kids) (fun k => (t.getD i.toNat default).fields.length - k) (0) (by simp) (sub_mk (⟨⟨_, rfl, rfl⟩, ⟨⟨_, rfl, rfl⟩, ⟨⟨_, rfl, rfl⟩, ⟨⟨_, rfl, rfl⟩, ⟨⟨_, rfl, rfl⟩, trivial⟩⟩⟩⟩⟩) (⟨⟨_, rfl, rfl⟩, trivial⟩) trivial) ?_
      intro k hok
      dsimp only [List.cons_append, List.nil_append]
      obtain ⟨hk, hi2⟩ := hok
      refine awp_seq ?_
      refine awp_region ?_
      refine al_pure rfl rfl rfl (pure_cmp rfl rfl (fun _ => rfl) (fun _ => rfl) rfl) ?_
      refine al_nil ?_
      refine awp_seq ?_
      refine awp_cond rfl (fun hc3 => ?_) (fun hc3 => ?_)
      · try simp only [n1, n2, n3, n4, n5, n6, n7, n8, n9, n10, n11, n12, n13, n14, n15, n16, Fd.rows_len, Fm.rows_len, V.rows_len] at hc3
        rw [drop_getD (l := (t.getD i.toNat default).fields) (by omega), drop_getD (l := v.kids) (by omega), kidsE] at hi2
        refine awp_skip ?_
        refine awp_seq ?_
        refine awp_block ?_
        refine awp_seq ?_
        refine awp_region ?_
        refine al_pure rfl rfl rfl (pure_move rfl (fun _ => rfl)) ?_
        refine al_pure rfl rfl rfl (pure_indexAddr rfl rfl (fun _ => rfl) (fun _ => rfl) rfl rfl rfl (fun hh => Fd.rows_at (by omega))) ?_
        refine al_pure rfl rfl rfl (pure_loadRoRow rfl (fun _ => rfl) rfl rfl rfl rfl) ?_
        refine al_do rfl (does_alloc rfl rfl rfl) ?_
        refine al_pure rfl rfl rfl (pure_assign rfl (fun _ => rfl)) ?_
        refine al_do rfl (does_store rfl rfl rfl rfl rfl rfl rfl) ?_
        refine al_nil ?_
        refine awp_sub (s := { t := [(0, _, _), (5, _, _), (8, _, _), (9, _, _), (30, _, _), (31, _, _), (32, _, _)], bx := [((.l 5), _), ((.l 9), _)], ow := [] }) (sub_mk (⟨⟨_, rfl, rfl⟩, ⟨⟨_, rfl, rfl⟩, ⟨⟨_, rfl, rfl⟩, ⟨⟨_, rfl, rfl⟩, ⟨⟨_, rfl, rfl⟩, ⟨⟨_, rfl, rfl⟩, ⟨⟨_, rfl, rfl⟩, trivial⟩⟩⟩⟩⟩⟩⟩) (⟨⟨_, rfl, rfl⟩, ⟨⟨_, rfl, rfl⟩, trivial⟩⟩) trivial) ?_
        refine awp_seq ?_
        refine awp_drawn' (by kernel_rfl) ?_
        refine dr_pure rfl rfl rfl rfl (pure_move rfl (fun _ => rfl)) ?_
        refine dr_loadRow rfl rfl rfl rfl rfl rfl rfl (fun _ => rfl) rfl rfl rfl rfl rfl ?_
        refine dr_pure rfl rfl rfl rfl (pure_fieldPtr rfl (fun _ => rfl) rfl rfl) ?_
        refine dr_load rfl rfl rfl rfl rfl rfl rfl (fun _ => rfl) rfl rfl rfl rfl ?_
        refine dr_pure rfl rfl rfl rfl (pure_move rfl (fun _ => rfl)) ?_
        refine dr_pure rfl rfl rfl rfl (pure_indexAddr rfl rfl (fun _ => rfl) (fun _ => rfl) rfl rfl rfl (fun hh => V.rows_at (by omega))) ?_
        refine dr_pure rfl rfl rfl rfl (pure_loadRoRow rfl (fun _ => rfl) rfl rfl rfl rfl) ?_
        refine dr_callN rfl rfl rfl rfl rfl rfl rfl (fun _ => rfl) (fun _ => rfl) (cfield_gen _ _ _ rec (hfd k (by omega)) (fun h5 => hrec k (by omega) h5 _)) rfl ?_
        refine dr_pure rfl rfl rfl rfl (pure_assign rfl (fun _ => rfl)) ?_
        refine dr_nil (by kernel_rfl) ?_
        refine awp_sub (s := { t := [(0, _, _), (5, _, _), (10, _, _), (30, _, _), (31, _, _), (32, _, _)], bx := [((.l 5), _)], ow := [] }) (sub_mk (⟨⟨_, rfl, rfl⟩, ⟨⟨_, rfl, rfl⟩, ⟨⟨_, rfl, rfl⟩, ⟨⟨_, rfl, rfl⟩, ⟨⟨_, rfl, rfl⟩, ⟨⟨_, rfl, rfl⟩, trivial⟩⟩⟩⟩⟩⟩) (⟨⟨_, rfl, rfl⟩, trivial⟩) trivial) ?_
        refine awp_seq ?_
        refine awp_region ?_
        refine al_pure rfl rfl rfl (pure_move rfl (fun _ => rfl)) ?_
        refine al_pure rfl rfl rfl (pure_cmp rfl rfl (fun _ => rfl) (fun _ => rfl) rfl) ?_
        refine al_nil ?_
        refine awp_cond rfl (fun hc1 => ?_) (fun hc1 => ?_)
        · try simp only [n1, n2, n3, n4, n5, n6, n7, n8, n9, n10, n11, n12, n13, n14, n15, n16, Fd.rows_len, Fm.rows_len, V.rows_len] at hc1
          refine awp_seq ?_
          refine awp_region ?_
          refine al_pure rfl rfl rfl (pure_move rfl (fun _ => rfl)) ?_
          refine al_pure rfl rfl rfl (pure_assign rfl (fun _ => rfl)) ?_
          refine al_nil ?_
          refine awp_ret ?_
          repeat (first | refine thenS_ret ?_ | refine blockS_ret ?_)
          refine ret_ok rfl ?_ trivial
          exact xi_eq (by grind)
        · try simp only [n1, n2, n3, n4, n5, n6, n7, n8, n9, n10, n11, n12, n13, n14, n15, n16, Fd.rows_len, Fm.rows_len, V.rows_len] at hc1
          refine awp_skip ?_
          refine awp_region ?_
          refine al_pure rfl rfl rfl (pure_arith rfl rfl (fun _ => rfl) (fun _ => rfl) rfl (IntWalk.i64_in _ (by omega))) ?_
          refine al_pure rfl rfl rfl (pure_move rfl (fun _ => rfl)) ?_
          refine al_nil ?_
          refine ⟨k + 1, ?_, ?_, sub_mk (⟨⟨_, rfl, ?_⟩, ⟨⟨_, rfl, rfl⟩, ⟨⟨_, rfl, rfl⟩, ⟨⟨_, rfl, rfl⟩, ⟨⟨_, rfl, rfl⟩, trivial⟩⟩⟩⟩⟩) (⟨⟨_, rfl, rfl⟩, trivial⟩) trivial⟩
          all_goals (first | rfl | omega | grind)
      · try simp only [n1, n2, n3, n4, n5, n6, n7, n8, n9, n10, n11, n12, n13, n14, n15, n16, Fd.rows_len, Fm.rows_len, V.rows_len] at hc3
        rw [List.drop_of_length_le (l := (t.getD i.toNat default).fields) (by omega), kidsE] at hi2
        · refine awp_exit ?_
          repeat (first | refine thenS_exit ?_ | refine blockS_hit ?_ | refine blockS_miss rfl ?_)
          refine awp_seq ?_
          refine awp_region ?_
          refine al_pure rfl rfl rfl (pure_assign rfl (fun _ => rfl)) ?_
          refine al_nil ?_
          refine awp_ret ?_
          repeat (first | refine thenS_ret ?_ | refine blockS_ret ?_)
          refine ret_ok rfl ?_ trivial
          exact xi_eq hi2
        · intro a b c d e; simp at e
end Go.Proofs.Ytgjclggjkhapfaa
/- Contracts: the errors of values, on both sides. -/
set_option linter.unusedVariables false
set_option linter.unusedSimpArgs false
namespace Go.Proofs.Ytgjclggjkhapfaa
open Go Go.Abs
theorem rvalue_gen (t : List Fm) (i : Int) (v : V) (rec : Int → V → Int) (hi : 0 ≤ i ∧ i < t.length) (hfd : ∀ k, k < (t.getD i.toNat default).fields.length → FdOk ((t.getD i.toNat default).fields.getD k default))
    (hrec : ∀ k, k < (t.getD i.toNat default).fields.length → ((t.getD i.toNat default).fields.getD k default).kind = 5 → ∀ u, Ctr sys 40 [xtab t, xi ((t.getD i.toNat default).fields.getD k default).n, xv u] [] (xi (rec ((t.getD i.toNat default).fields.getD k default).n u)) none []) :
    Ctr sys 40 [xtab t, xi i, xv v] [] (xi (valG rec t i v)) none [] := by
  have hr := V.rows_len v.kids
  have hrl := Fm.rows_len t
  have hrf := Fd.rows_len (t.getD i.toNat default).fields
  refine spec_intro Try.func40 rfl rfl rfl rfl rfl rfl ?_
  refine awp_seq ?_
  refine awp_region ?_
  refine al_do rfl (does_box rfl rfl rfl rfl) ?_
  refine al_pure rfl rfl rfl (pure_assign rfl (fun _ => rfl)) ?_
  refine al_nil ?_
  refine awp_seq ?_
  refine awp_seq ?_
  refine awp_region ?_
  refine al_pure rfl rfl rfl (pure_fieldPtr rfl (fun _ => rfl) rfl rfl) ?_
  refine al_pure rfl rfl rfl (pure_loadBox rfl (fun _ => rfl) rfl rfl rfl rfl) ?_
  refine al_pure rfl rfl rfl (pure_cmpS rfl rfl (fun _ => rfl) (fun _ => rfl) rfl) ?_
  refine al_pure rfl rfl rfl (pure_move rfl (fun _ => rfl)) ?_
  refine al_pure rfl rfl rfl (pure_fieldPtr rfl (fun _ => rfl) rfl rfl) ?_
  refine al_pure rfl rfl rfl (pure_loadBox rfl (fun hh => hh) rfl rfl rfl rfl) ?_
  refine al_pure rfl rfl rfl (pure_cmp rfl rfl (fun hh => hh) (fun _ => rfl) rfl) ?_
  refine al_pure rfl rfl rfl (pure_or rfl rfl (fun _ => rfl) (fun _ hi => gP rfl hi)) ?_
  refine al_nil ?_
  refine awp_sub (s := { t := [(0, _, _), (1, _, _), (5, _, _), (17, _, _)], bx := [((.l 5), _)], ow := [] }) (sub_mk (⟨⟨_, rfl, rfl⟩, ⟨⟨_, rfl, rfl⟩, ⟨⟨_, rfl, rfl⟩, ⟨⟨_, rfl, rfl⟩, trivial⟩⟩⟩⟩) (⟨⟨_, rfl, rfl⟩, trivial⟩) trivial) ?_
  refine awp_cond rfl (fun hc => ?_) (fun hc => ?_)
  · try simp only [n1, n2, n3, n4, n5, n6, n7, n8, n9, n10, n11, n12, n13, n14, n15, n16, Fd.rows_len, Fm.rows_len, V.rows_len] at hc
    refine awp_seq ?_
    refine awp_region ?_
    refine al_pure rfl rfl rfl (pure_assign rfl (fun _ => rfl)) ?_
    refine al_nil ?_
    refine awp_ret ?_
    repeat (first | refine thenS_ret ?_ | refine blockS_ret ?_)
    refine ret_ok rfl ?_ trivial
    exact xi_eq (by rw [valG, if_pos]; grind)
  · try simp only [n1, n2, n3, n4, n5, n6, n7, n8, n9, n10, n11, n12, n13, n14, n15, n16, Fd.rows_len, Fm.rows_len, V.rows_len] at hc
    rw [valG, if_neg (by grind)]
    refine awp_skip ?_
    refine awp_seq ?_
    refine awp_seq ?_
    refine awp_drawn' (by kernel_rfl) ?_
    refine dr_pure rfl rfl rfl rfl (pure_fieldPtr rfl (fun _ => rfl) rfl rfl) ?_
    refine dr_load rfl rfl rfl rfl rfl rfl rfl (fun _ => rfl) rfl rfl rfl rfl ?_
    refine dr_pure rfl rfl rfl rfl (pure_lenSl rfl (fun _ => rfl) rfl rfl) ?_
    refine dr_pure rfl rfl rfl rfl (pure_move rfl (fun _ => rfl)) ?_
    refine dr_pure rfl rfl rfl rfl (pure_move rfl (fun _ => rfl)) ?_
    refine dr_pure rfl rfl rfl rfl (pure_indexAddr (j := i.toNat) rfl rfl (fun _ => rfl) (fun _ => rfl) rfl rfl (by omega) (fun hh => Fm.rows_at (by omega))) ?_
    refine dr_pure rfl rfl rfl rfl (pure_fieldRo rfl (fun _ => rfl) rfl rfl) ?_
    refine dr_pure rfl rfl rfl rfl (pure_loadRo rfl (fun _ => rfl) rfl rfl rfl) ?_
    refine dr_pure rfl rfl rfl rfl (pure_lenSl rfl (fun _ => rfl) rfl rfl) ?_
    refine dr_pure rfl rfl rfl rfl (pure_cmp rfl rfl (fun _ => rfl) (fun _ => rfl) rfl) ?_
    refine dr_nil (by kernel_rfl) ?_
    refine awp_sub (s := { t := [(0, _, _), (1, _, _), (5, _, _), (27, _, _)], bx := [((.l 5), _)], ow := [] }) (sub_mk (⟨⟨_, rfl, rfl⟩, ⟨⟨_, rfl, rfl⟩, ⟨⟨_, rfl, rfl⟩, ⟨⟨_, rfl, rfl⟩, trivial⟩⟩⟩⟩) (⟨⟨_, rfl, rfl⟩, trivial⟩) trivial) ?_
    refine awp_cond rfl (fun hc2 => ?_) (fun hc2 => ?_)
    · try simp only [n1, n2, n3, n4, n5, n6, n7, n8, n9, n10, n11, n12, n13, n14, n15, n16, Fd.rows_len, Fm.rows_len, V.rows_len] at hc2
      refine awp_seq ?_
      refine awp_region ?_
      refine al_pure rfl rfl rfl (pure_assign rfl (fun _ => rfl)) ?_
      refine al_nil ?_
      refine awp_ret ?_
      repeat (first | refine thenS_ret ?_ | refine blockS_ret ?_)
      refine ret_ok rfl ?_ trivial
      exact xi_eq (by rw [if_pos]; omega)
    · try simp only [n1, n2, n3, n4, n5, n6, n7, n8, n9, n10, n11, n12, n13, n14, n15, n16, Fd.rows_len, Fm.rows_len, V.rows_len] at hc2
      rw [if_neg (by omega)]
      refine awp_skip ?_
      refine awp_seq ?_
      refine awp_seq ?_
      refine awp_region ?_
      refine al_pure rfl rfl rfl (pure_assign rfl (fun _ => rfl)) ?_
      refine al_nil ?_
      refine awp_block ?_
      refine awp_for (ι := Nat) { t := [(0, _, _), (1, _, _), (5, _, _)], bx := [((.l 5), _)], ow := [] } (fun k => [(7, true, xi (k : Int))]) (fun k => []) (fun k => k ≤ (t.getD i.toNat default).fields.length ∧ kidsE rec ((t.getD i.toNat default).fields.drop k) (v.kids.drop k) = kidsE rec (t.getD i.toNat default).fields v.kids) (fun k => (t.getD i.toNat default).fields.length - k) (0) (by simp) (sub_mk (⟨⟨_, rfl, rfl⟩, ⟨⟨_, rfl, rfl⟩, ⟨⟨_, rfl, rfl⟩, ⟨⟨_, rfl, rfl⟩, trivial⟩⟩⟩⟩) (⟨⟨_, rfl, rfl⟩, trivial⟩) trivial) ?_
      intro k hok
      dsimp only [List.cons_append, List.nil_append]
      obtain ⟨hk, hi2⟩ := hok
      refine awp_seq ?_
      refine awp_seq ?_
      refine awp_region ?_
      refine al_pure rfl rfl rfl (pure_move rfl (fun _ => rfl)) ?_
      refine al_pure rfl rfl rfl (pure_fieldPtr rfl (fun _ => rfl) rfl rfl) ?_
      refine al_pure rfl rfl rfl (pure_loadBox rfl (fun _ => rfl) rfl rfl rfl rfl) ?_
      refine al_lenSl rfl rfl rfl rfl rfl (fun _ => rfl) rfl rfl ?_ (fun hh => by simp at hh); intro hlen
      refine al_pure rfl rfl rfl (pure_cmp rfl rfl (fun _ => rfl) (fun _ => rfl) rfl) ?_
      refine al_nil ?_
      refine awp_sub (s := { t := [(0, _, _), (1, _, _), (5, _, _), (7, _, _), (32, _, _)], bx := [((.l 5), _)], ow := [] }) (sub_mk (⟨⟨_, rfl, rfl⟩, ⟨⟨_, rfl, rfl⟩, ⟨⟨_, rfl, rfl⟩, ⟨⟨_, rfl, rfl⟩, ⟨⟨_, rfl, rfl⟩, trivial⟩⟩⟩⟩⟩) (⟨⟨_, rfl, rfl⟩, trivial⟩) trivial) ?_
      refine awp_cond rfl (fun hc3 => ?_) (fun hc3 => ?_)
      · try simp only [n1, n2, n3, n4, n5, n6, n7, n8, n9, n10, n11, n12, n13, n14, n15, n16, Fd.rows_len, Fm.rows_len, V.rows_len] at hc3
        rw [drop_getD (l := (t.getD i.toNat default).fields) (by omega), drop_getD (l := v.kids) (by omega), kidsE] at hi2
        unfold fvE at hi2
        refine awp_skip ?_
        refine awp_seq ?_
        refine awp_block ?_
        refine awp_seq ?_
        refine awp_region ?_
        refine al_pure rfl rfl rfl (pure_move rfl (fun _ => rfl)) ?_
        refine al_pure rfl rfl rfl (pure_move rfl (fun _ => rfl)) ?_
        refine al_pure rfl rfl rfl (pure_indexAddr (j := i.toNat) rfl rfl (fun _ => rfl) (fun _ => rfl) rfl rfl (by omega) (fun hh => Fm.rows_at (by omega))) ?_
        refine al_pure rfl rfl rfl (pure_fieldRo rfl (fun _ => rfl) rfl rfl) ?_
        refine al_pure rfl rfl rfl (pure_loadRo rfl (fun _ => rfl) rfl rfl rfl) ?_
        refine al_pure rfl rfl rfl (pure_move rfl (fun _ => rfl)) ?_
        refine al_pure rfl rfl rfl (pure_indexAddr rfl rfl (fun _ => rfl) (fun _ => rfl) rfl rfl rfl (fun hh => Fd.rows_at (by omega))) ?_
        refine al_pure rfl rfl rfl (pure_loadRoRow rfl (fun _ => rfl) rfl rfl rfl rfl) ?_
        refine al_do rfl (does_alloc rfl rfl rfl) ?_
        refine al_do rfl (does_store rfl rfl rfl rfl rfl rfl rfl) ?_
        refine al_nil ?_
        refine awp_sub (s := { t := [(0, _, _), (1, _, _), (5, _, _), (7, _, _), (8, _, _)], bx := [((.l 5), _), ((.l 8), _)], ow := [] }) (sub_mk (⟨⟨_, rfl, rfl⟩, ⟨⟨_, rfl, rfl⟩, ⟨⟨_, rfl, rfl⟩, ⟨⟨_, rfl, rfl⟩, ⟨⟨_, rfl, rfl⟩, trivial⟩⟩⟩⟩⟩) (⟨⟨_, rfl, rfl⟩, ⟨⟨_, rfl, rfl⟩, trivial⟩⟩) trivial) ?_
        refine awp_seq ?_
        refine awp_seq ?_
        refine awp_drawn' (by kernel_rfl) ?_
        refine dr_loadRow rfl rfl rfl rfl rfl rfl rfl (fun _ => rfl) rfl rfl rfl rfl rfl ?_
        refine dr_pure rfl rfl rfl rfl (pure_fieldPtr rfl (fun _ => rfl) rfl rfl) ?_
        refine dr_load rfl rfl rfl rfl rfl rfl rfl (fun _ => rfl) rfl rfl rfl rfl ?_
        refine dr_pure rfl rfl rfl rfl (pure_move rfl (fun _ => rfl)) ?_
        refine dr_pure rfl rfl rfl rfl (pure_indexAddr rfl rfl (fun _ => rfl) (fun _ => rfl) rfl rfl rfl (fun hh => V.rows_at (by omega))) ?_
        refine dr_pure rfl rfl rfl rfl (pure_loadRoRow rfl (fun _ => rfl) rfl rfl rfl rfl) ?_
        refine dr_callN rfl rfl rfl rfl rfl rfl rfl (fun _ => rfl) (fun _ => rfl) (fits_spec _ _ (hfd k (by omega))) rfl ?_
        refine dr_pure rfl rfl rfl rfl (pure_not rfl (fun _ => rfl)) ?_
        refine dr_nil (by kernel_rfl) ?_
        refine awp_sub (s := { t := [(0, _, _), (1, _, _), (5, _, _), (7, _, _), (8, _, _), (50, _, _)], bx := [((.l 5), _), ((.l 8), _)], ow := [] }) (sub_mk (⟨⟨_, rfl, rfl⟩, ⟨⟨_, rfl, rfl⟩, ⟨⟨_, rfl, rfl⟩, ⟨⟨_, rfl, rfl⟩, ⟨⟨_, rfl, rfl⟩, ⟨⟨_, rfl, rfl⟩, trivial⟩⟩⟩⟩⟩⟩) (⟨⟨_, rfl, rfl⟩, ⟨⟨_, rfl, rfl⟩, trivial⟩⟩) trivial) ?_
        refine awp_cond rfl (fun hc1 => ?_) (fun hc1 => ?_)
        · try simp only [n1, n2, n3, n4, n5, n6, n7, n8, n9, n10, n11, n12, n13, n14, n15, n16, Fd.rows_len, Fm.rows_len, V.rows_len] at hc1
          refine awp_seq ?_
          refine awp_region ?_
          refine al_pure rfl rfl rfl (pure_assign rfl (fun _ => rfl)) ?_
          refine al_nil ?_
          refine awp_ret ?_
          repeat (first | refine thenS_ret ?_ | refine blockS_ret ?_)
          refine ret_ok rfl ?_ trivial
          exact xi_eq (by grind)
        · try simp only [n1, n2, n3, n4, n5, n6, n7, n8, n9, n10, n11, n12, n13, n14, n15, n16, Fd.rows_len, Fm.rows_len, V.rows_len] at hc1
          refine awp_skip ?_
          refine awp_seq ?_
          refine awp_seq ?_
          refine awp_drawn' (by kernel_rfl) ?_
          refine dr_loadRow rfl rfl rfl rfl rfl rfl rfl (fun _ => rfl) rfl rfl rfl rfl rfl ?_
          refine dr_pure rfl rfl rfl rfl (pure_fieldPtr rfl (fun _ => rfl) rfl rfl) ?_
          refine dr_load rfl rfl rfl rfl rfl rfl rfl (fun _ => rfl) rfl rfl rfl rfl ?_
          refine dr_pure rfl rfl rfl rfl (pure_move rfl (fun _ => rfl)) ?_
          refine dr_pure rfl rfl rfl rfl (pure_indexAddr rfl rfl (fun _ => rfl) (fun _ => rfl) rfl rfl rfl (fun hh => V.rows_at (by omega))) ?_
          refine dr_pure rfl rfl rfl rfl (pure_loadRoRow rfl (fun _ => rfl) rfl rfl rfl rfl) ?_
          refine dr_callN rfl rfl rfl rfl rfl rfl rfl (fun _ => rfl) (fun _ => rfl) (rngs_spec _ _ (hfd k (by omega))) rfl ?_
          refine dr_pure rfl rfl rfl rfl (pure_not rfl (fun _ => rfl)) ?_
          refine dr_nil (by kernel_rfl) ?_
          refine awp_sub (s := { t := [(0, _, _), (1, _, _), (5, _, _), (7, _, _), (8, _, _), (58, _, _)], bx := [((.l 5), _), ((.l 8), _)], ow := [] }) (sub_mk (⟨⟨_, rfl, rfl⟩, ⟨⟨_, rfl, rfl⟩, ⟨⟨_, rfl, rfl⟩, ⟨⟨_, rfl, rfl⟩, ⟨⟨_, rfl, rfl⟩, ⟨⟨_, rfl, rfl⟩, trivial⟩⟩⟩⟩⟩⟩) (⟨⟨_, rfl, rfl⟩, ⟨⟨_, rfl, rfl⟩, trivial⟩⟩) trivial) ?_
          refine awp_cond rfl (fun hc2 => ?_) (fun hc2 => ?_)
          · try simp only [n1, n2, n3, n4, n5, n6, n7, n8, n9, n10, n11, n12, n13, n14, n15, n16, Fd.rows_len, Fm.rows_len, V.rows_len] at hc2
            refine awp_seq ?_
            refine awp_region ?_
            refine al_pure rfl rfl rfl (pure_assign rfl (fun _ => rfl)) ?_
            refine al_nil ?_
            refine awp_ret ?_
            repeat (first | refine thenS_ret ?_ | refine blockS_ret ?_)
            refine ret_ok rfl ?_ trivial
            exact xi_eq (by grind)
          · try simp only [n1, n2, n3, n4, n5, n6, n7, n8, n9, n10, n11, n12, n13, n14, n15, n16, Fd.rows_len, Fm.rows_len, V.rows_len] at hc2
            refine awp_skip ?_
            refine awp_seq ?_
            refine awp_region ?_
            refine al_pure rfl rfl rfl (pure_fieldPtr rfl (fun _ => rfl) rfl rfl) ?_
            refine al_pure rfl rfl rfl (pure_loadBox rfl (fun _ => rfl) rfl rfl rfl rfl) ?_
            refine al_pure rfl rfl rfl (pure_cmp rfl rfl (fun _ => rfl) (fun _ => rfl) rfl) ?_
            refine al_nil ?_
            refine awp_cond rfl (fun hc3 => ?_) (fun hc3 => ?_)
            · try simp only [n1, n2, n3, n4, n5, n6, n7, n8, n9, n10, n11, n12, n13, n14, n15, n16, Fd.rows_len, Fm.rows_len, V.rows_len] at hc3
              refine awp_seq ?_
              refine awp_drawn' (by kernel_rfl) ?_
              refine dr_pure rfl rfl rfl rfl (pure_move rfl (fun _ => rfl)) ?_
              refine dr_pure rfl rfl rfl rfl (pure_fieldPtr rfl (fun _ => rfl) rfl rfl) ?_
              refine dr_load rfl rfl rfl rfl rfl rfl rfl (fun _ => rfl) rfl rfl rfl rfl ?_
              refine dr_pure rfl rfl rfl rfl (pure_fieldPtr rfl (fun _ => rfl) rfl rfl) ?_
              refine dr_load rfl rfl rfl rfl rfl rfl rfl (fun _ => rfl) rfl rfl rfl rfl ?_
              refine dr_pure rfl rfl rfl rfl (pure_move rfl (fun _ => rfl)) ?_
              refine dr_pure rfl rfl rfl rfl (pure_indexAddr rfl rfl (fun _ => rfl) (fun _ => rfl) rfl rfl rfl (fun hh => V.rows_at (by omega))) ?_
              refine dr_pure rfl rfl rfl rfl (pure_loadRoRow rfl (fun _ => rfl) rfl rfl rfl rfl) ?_
              refine dr_callN rfl rfl rfl rfl rfl rfl rfl (fun _ => rfl) (fun _ => rfl) (hrec k (by omega) (by assumption) _) rfl ?_
              refine dr_pure rfl rfl rfl rfl (pure_assign rfl (fun _ => rfl)) ?_
              refine dr_nil (by kernel_rfl) ?_
              refine awp_sub (s := { t := [(0, _, _), (1, _, _), (5, _, _), (7, _, _), (9, _, _)], bx := [((.l 5), _)], ow := [] }) (sub_mk (⟨⟨_, rfl, rfl⟩, ⟨⟨_, rfl, rfl⟩, ⟨⟨_, rfl, rfl⟩, ⟨⟨_, rfl, rfl⟩, ⟨⟨_, rfl, rfl⟩, trivial⟩⟩⟩⟩⟩) (⟨⟨_, rfl, rfl⟩, trivial⟩) trivial) ?_
              refine awp_seq ?_
              refine awp_region ?_
              refine al_pure rfl rfl rfl (pure_move rfl (fun _ => rfl)) ?_
              refine al_pure rfl rfl rfl (pure_cmp rfl rfl (fun _ => rfl) (fun _ => rfl) rfl) ?_
              refine al_nil ?_
              refine awp_cond rfl (fun hc4 => ?_) (fun hc4 => ?_)
              · try simp only [n1, n2, n3, n4, n5, n6, n7, n8, n9, n10, n11, n12, n13, n14, n15, n16, Fd.rows_len, Fm.rows_len, V.rows_len] at hc4
                refine awp_seq ?_
                refine awp_region ?_
                refine al_pure rfl rfl rfl (pure_move rfl (fun _ => rfl)) ?_
                refine al_pure rfl rfl rfl (pure_assign rfl (fun _ => rfl)) ?_
                refine al_nil ?_
                refine awp_ret ?_
                repeat (first | refine thenS_ret ?_ | refine blockS_ret ?_)
                refine ret_ok rfl ?_ trivial
                exact xi_eq (by grind)
              · try simp only [n1, n2, n3, n4, n5, n6, n7, n8, n9, n10, n11, n12, n13, n14, n15, n16, Fd.rows_len, Fm.rows_len, V.rows_len] at hc4
                refine awp_skip ?_
                refine awp_region ?_
                refine al_pure rfl rfl rfl (pure_move rfl (fun _ => rfl)) ?_
                refine al_pure rfl rfl rfl (pure_arith rfl rfl (fun _ => rfl) (fun _ => rfl) rfl (IntWalk.i64_in _ (by omega))) ?_
                refine al_pure rfl rfl rfl (pure_assign rfl (fun _ => rfl)) ?_
                refine al_nil ?_
                refine ⟨k + 1, ?_, ?_, sub_mk (⟨⟨_, rfl, ?_⟩, ⟨⟨_, rfl, rfl⟩, ⟨⟨_, rfl, rfl⟩, ⟨⟨_, rfl, rfl⟩, trivial⟩⟩⟩⟩) (⟨⟨_, rfl, rfl⟩, trivial⟩) trivial⟩
                all_goals (first | rfl | omega | grind)
            · try simp only [n1, n2, n3, n4, n5, n6, n7, n8, n9, n10, n11, n12, n13, n14, n15, n16, Fd.rows_len, Fm.rows_len, V.rows_len] at hc3
              refine awp_skip ?_
              refine awp_region ?_
              refine al_pure rfl rfl rfl (pure_move rfl (fun _ => rfl)) ?_
              refine al_pure rfl rfl rfl (pure_arith rfl rfl (fun _ => rfl) (fun _ => rfl) rfl (IntWalk.i64_in _ (by omega))) ?_
              refine al_pure rfl rfl rfl (pure_assign rfl (fun _ => rfl)) ?_
              refine al_nil ?_
              refine ⟨k + 1, ?_, ?_, sub_mk (⟨⟨_, rfl, ?_⟩, ⟨⟨_, rfl, rfl⟩, ⟨⟨_, rfl, rfl⟩, ⟨⟨_, rfl, rfl⟩, trivial⟩⟩⟩⟩) (⟨⟨_, rfl, rfl⟩, trivial⟩) trivial⟩
              all_goals (first | rfl | omega | grind)
      · try simp only [n1, n2, n3, n4, n5, n6, n7, n8, n9, n10, n11, n12, n13, n14, n15, n16, Fd.rows_len, Fm.rows_len, V.rows_len] at hc3
        rw [List.drop_of_length_le (l := (t.getD i.toNat default).fields) (by omega), kidsE] at hi2
        · refine awp_exit ?_
          repeat (first | refine thenS_exit ?_ | refine blockS_hit ?_ | refine blockS_miss rfl ?_)
          refine awp_seq ?_
          refine awp_region ?_
          refine al_pure rfl rfl rfl (pure_assign rfl (fun _ => rfl)) ?_
          refine al_nil ?_
          refine awp_ret ?_
          repeat (first | refine thenS_ret ?_ | refine blockS_ret ?_)
          refine ret_ok rfl ?_ trivial
          exact xi_eq hi2
        · intro a b c d e; simp at e
theorem cvalue_spec (t : List Fm) (i : Int) (v : V) (hi : 0 ≤ i ∧ i < t.length) (h : Fds t (t.getD i.toNat default).fields) : Ctr sys 38 [xtab t, xi i, xv v] [] (xi (valT t i v)) none [] := by
  refine cvalue_gen t i v (val0 t) hi h.ok fun k hk h5 u => ?_
  obtain ⟨h1, h2⟩ := h.nest k hk h5
  have h3 := (h.ok k hk).n
  exact cvalue_gen t _ u (fun _ _ => 0) (by omega) (fun j hj => (h2.ok j hj).1) fun j hj h6 => absurd h6 (h2.ok j hj).2.1
theorem rvalue_spec (t : List Fm) (i : Int) (v : V) (hi : 0 ≤ i ∧ i < t.length) (h : Fds t (t.getD i.toNat default).fields) : Ctr sys 40 [xtab t, xi i, xv v] [] (xi (valT t i v)) none [] := by
  refine rvalue_gen t i v (val0 t) hi h.ok fun k hk h5 u => ?_
  obtain ⟨h1, h2⟩ := h.nest k hk h5
  have h3 := (h.ok k hk).n
  exact rvalue_gen t _ u (fun _ _ => 0) (by omega) (fun j hj => (h2.ok j hj).1) fun j hj h6 => absurd h6 (h2.ok j hj).2.1
theorem errE_fds {t : List Fm} {i : Int} (h : errE t i = 0) : (0 ≤ i ∧ i < t.length) ∧ Fds t (t.getD i.toNat default).fields := by
  obtain ⟨h1, h2, h3⟩ := errE_zero h
  exact ⟨⟨h2, h3⟩, h1.fds (by omega)⟩
theorem boundsE_err (t : List Fm) (i : Int) : (boundsE t i).2.2 = errE t i := by
  unfold boundsE; split
  · rfl
  · dsimp only; omega
theorem cValid_spec (t : List Fm) (i : Int) (v : V) : Ctr sys 15 [xtab t, xi i, xv v] [] (xi (valE t i v)) none [] := by
  have hb := boundsE_err t i
  refine spec_intro Try.func15 rfl rfl rfl rfl rfl rfl ?_
  refine awp_seq ?_
  refine awp_region ?_
  refine al_do rfl (does_box rfl rfl rfl rfl) ?_
  refine al_pure rfl rfl rfl (pure_assign rfl (fun _ => rfl)) ?_
  refine al_nil ?_
  refine awp_seq ?_
  refine awp_seq ?_
  refine awp_region ?_
  refine al_pure rfl rfl rfl (pure_move rfl (fun _ => rfl)) ?_
  refine al_pure rfl rfl rfl (pure_move rfl (fun _ => rfl)) ?_
  refine al_call rfl rfl rfl rfl rfl rfl (fun _ => rfl) (fun _ => rfl) (fBounds_spec _ _) rfl ?_
  refine al_pure rfl rfl rfl (pure_move rfl (fun _ => rfl)) ?_
  refine al_pure rfl rfl rfl (pure_extract rfl (fun _ => rfl) rfl) ?_
  refine al_pure rfl rfl rfl (pure_extract rfl (fun _ => rfl) rfl) ?_
  refine al_pure rfl rfl rfl (pure_extract rfl (fun _ => rfl) rfl) ?_
  refine al_pure rfl rfl rfl (pure_assign rfl (fun _ => rfl)) ?_
  refine al_pure rfl rfl rfl (pure_assign rfl (fun _ => rfl)) ?_
  refine al_pure rfl rfl rfl (pure_assign rfl (fun _ => rfl)) ?_
  refine al_nil ?_
  refine awp_sub (s := { t := [(0, _, _), (1, _, _), (5, _, _), (9, _, _)], bx := [((.l 5), _)], ow := [] }) (sub_mk (⟨⟨_, rfl, rfl⟩, ⟨⟨_, rfl, rfl⟩, ⟨⟨_, rfl, rfl⟩, ⟨⟨_, rfl, rfl⟩, trivial⟩⟩⟩⟩) (⟨⟨_, rfl, rfl⟩, trivial⟩) trivial) ?_
  refine awp_seq ?_
  refine awp_region ?_
  refine al_pure rfl rfl rfl (pure_move rfl (fun _ => rfl)) ?_
  refine al_pure rfl rfl rfl (pure_cmp rfl rfl (fun _ => rfl) (fun _ => rfl) rfl) ?_
  refine al_nil ?_
  refine awp_cond rfl (fun hc => ?_) (fun hc => ?_)
  · try simp only [n1, n2, n3, n4, n5, n6, n7, n8, n9, n10, n11, n12, n13, n14, n15, n16, Fd.rows_len, Fm.rows_len, V.rows_len] at hc
    refine awp_seq ?_
    refine awp_region ?_
    refine al_pure rfl rfl rfl (pure_move rfl (fun _ => rfl)) ?_
    refine al_pure rfl rfl rfl (pure_assign rfl (fun _ => rfl)) ?_
    refine al_nil ?_
    refine awp_ret ?_
    repeat (first | refine thenS_ret ?_ | refine blockS_ret ?_)
    refine ret_ok rfl ?_ trivial
    exact xi_eq (by rw [valE, if_pos (by omega), hb])
  · try simp only [n1, n2, n3, n4, n5, n6, n7, n8, n9, n10, n11, n12, n13, n14, n15, n16, Fd.rows_len, Fm.rows_len, V.rows_len] at hc
    have he : errE t i = 0 := by omega
    refine awp_skip ?_
    refine awp_seq ?_
    refine awp_region ?_
    refine al_pure rfl rfl rfl (pure_move rfl (fun _ => rfl)) ?_
    refine al_pure rfl rfl rfl (pure_move rfl (fun _ => rfl)) ?_
    refine al_pure rfl rfl rfl (pure_loadBoxRow rfl (fun _ => rfl) rfl rfl rfl rfl rfl) ?_
    refine al_call rfl rfl rfl rfl rfl rfl (fun _ => rfl) (fun _ => rfl) (cvalue_spec _ _ _ (errE_fds he).1 (errE_fds he).2) rfl ?_
    refine al_pure rfl rfl rfl (pure_assign rfl (fun _ => rfl)) ?_
    refine al_nil ?_
    refine awp_ret ?_
    repeat (first | refine thenS_ret ?_ | refine blockS_ret ?_)
    refine ret_ok rfl ?_ trivial
    exact xi_eq (by rw [valE, if_neg (by omega)])
theorem rVal_spec (t : List Fm) (i : Int) (v : V) : Ctr sys 16 [xtab t, xi i, xv v] [] (xi (valE t i v)) none [] := by
  refine spec_intro Try.func16 rfl rfl rfl rfl rfl rfl ?_
  refine awp_seq ?_
  refine awp_region ?_
  refine al_do rfl (does_box rfl rfl rfl rfl) ?_
  refine al_pure rfl rfl rfl (pure_assign rfl (fun _ => rfl)) ?_
  refine al_nil ?_
  refine awp_seq ?_
  refine awp_seq ?_
  refine awp_region ?_
  refine al_pure rfl rfl rfl (pure_move rfl (fun _ => rfl)) ?_
  refine al_pure rfl rfl rfl (pure_move rfl (fun _ => rfl)) ?_
  refine al_call rfl rfl rfl rfl rfl rfl (fun _ => rfl) (fun _ => rfl) (rError_spec _ _) rfl ?_
  refine al_pure rfl rfl rfl (pure_assign rfl (fun _ => rfl)) ?_
  refine al_nil ?_
  refine awp_sub (s := { t := [(0, _, _), (1, _, _), (5, _, _), (7, _, _)], bx := [((.l 5), _)], ow := [] }) (sub_mk (⟨⟨_, rfl, rfl⟩, ⟨⟨_, rfl, rfl⟩, ⟨⟨_, rfl, rfl⟩, ⟨⟨_, rfl, rfl⟩, trivial⟩⟩⟩⟩) (⟨⟨_, rfl, rfl⟩, trivial⟩) trivial) ?_
  refine awp_seq ?_
  refine awp_region ?_
  refine al_pure rfl rfl rfl (pure_move rfl (fun _ => rfl)) ?_
  refine al_pure rfl rfl rfl (pure_cmp rfl rfl (fun _ => rfl) (fun _ => rfl) rfl) ?_
  refine al_nil ?_
  refine awp_cond rfl (fun hc => ?_) (fun hc => ?_)
  · try simp only [n1, n2, n3, n4, n5, n6, n7, n8, n9, n10, n11, n12, n13, n14, n15, n16, Fd.rows_len, Fm.rows_len, V.rows_len] at hc
    refine awp_seq ?_
    refine awp_region ?_
    refine al_pure rfl rfl rfl (pure_move rfl (fun _ => rfl)) ?_
    refine al_pure rfl rfl rfl (pure_assign rfl (fun _ => rfl)) ?_
    refine al_nil ?_
    refine awp_ret ?_
    repeat (first | refine thenS_ret ?_ | refine blockS_ret ?_)
    refine ret_ok rfl ?_ trivial
    exact xi_eq (by rw [valE, if_pos (by omega)])
  · try simp only [n1, n2, n3, n4, n5, n6, n7, n8, n9, n10, n11, n12, n13, n14, n15, n16, Fd.rows_len, Fm.rows_len, V.rows_len] at hc
    have he : errE t i = 0 := by omega
    refine awp_skip ?_
    refine awp_seq ?_
    refine awp_region ?_
    refine al_pure rfl rfl rfl (pure_move rfl (fun _ => rfl)) ?_
    refine al_pure rfl rfl rfl (pure_move rfl (fun _ => rfl)) ?_
    refine al_pure rfl rfl rfl (pure_loadBoxRow rfl (fun _ => rfl) rfl rfl rfl rfl rfl) ?_
    refine al_call rfl rfl rfl rfl rfl rfl (fun _ => rfl) (fun _ => rfl) (rvalue_spec _ _ _ (errE_fds he).1 (errE_fds he).2) rfl ?_
    refine al_pure rfl rfl rfl (pure_assign rfl (fun _ => rfl)) ?_
    refine al_nil ?_
    refine awp_ret ?_
    repeat (first | refine thenS_ret ?_ | refine blockS_ret ?_)
    refine ret_ok rfl ?_ trivial
    exact xi_eq (by rw [valE, if_neg (by omega)])
end Go.Proofs.Ytgjclggjkhapfaa
/- Reading strings of formats: what both sides compute (plain). -/
set_option linter.unusedVariables false
set_option linter.unusedSimpArgs false
namespace Go.Proofs.Ytgjclggjkhapfaa
open Go Go.Abs
/-- A result of reading. -/
structure Pl where
  v : V
  p : Nat
  ok : Bool
  deriving Inhabited
def Pl.cells (p : Pl) : List C := p.v.cells ++ [.i .i64 p.p, .b p.ok]
abbrev failP (a : Nat) : Pl := ⟨v0, a, false⟩
abbrev bv (s : List UInt8) : V := .mk s 0 []
def takeP (s : List UInt8) (a n e : Nat) : Pl := if e < a + n then failP e else ⟨bv ((s.take (a + n)).drop a), a + n, true⟩
def tagP (s : List UInt8) (e : Nat) : List UInt8 → Nat → Pl
  | [], a => ⟨v0, a, true⟩
  | c :: l, a => if e ≤ a ∨ s.getD a 0 ≠ c then failP a else tagP s e l (a + 1)
/-- 'k': what was read is kept where it is too short; 'rec': reading a format. -/
def nestP (k : Bool) (rec : Int → Nat → Nat → Pl) (t : List Fm) (i : Int) (s : List UInt8) (a e : Nat) : Pl :=
  if e ≤ a then failP e else if ((s.getD a 0).toNat : Int) < (boundsE t i).1 ∨ (boundsE t i).2.1 < (s.getD a 0).toNat then failP a
  else if e < a + 1 + (s.getD a 0).toNat then failP e
  else if (rec i (a + 1) (a + 1 + (s.getD a 0).toNat)).ok = true ∧ (rec i (a + 1) (a + 1 + (s.getD a 0).toNat)).p < a + 1 + (s.getD a 0).toNat then
    ⟨if k then (rec i (a + 1) (a + 1 + (s.getD a 0).toNat)).v else v0, (rec i (a + 1) (a + 1 + (s.getD a 0).toNat)).p, false⟩
  else rec i (a + 1) (a + 1 + (s.getD a 0).toNat)
def fldP (k : Bool) (rec : Int → Nat → Nat → Pl) (t : List Fm) (f : Fd) (s : List UInt8) (a e : Nat) (pre : Bool) : Pl :=
  if f.kind = 1 then tagP s e f.bytes a
  else if f.kind = 2 then takeP s a f.n.toNat e
  else if f.kind = 3 then (if e ≤ a then failP e else if f.n < (s.getD a 0).toNat then failP a else takeP s (a + 1) (s.getD a 0).toNat e)
  else if f.kind = 4 then (if e ≤ a then failP e else if ((s.getD a 0).toNat : Int) < f.low ∨ f.high < (s.getD a 0).toNat then failP a else ⟨.mk [] (s.getD a 0).toNat [], a + 1, true⟩)
  else if f.kind = 5 then nestP k rec t f.n s a e
  else if ((e - a : Nat) : Int) < f.low then failP e else if f.high < ((e - a : Nat) : Int) ∧ pre = false then failP (a + f.high.toNat) else takeP s a (min (e - a) f.high.toNat) e
def readL (k : Bool) (rec : Int → Nat → Nat → Pl) (t : List Fm) (s : List UInt8) (e : Nat) (pre : Bool) : List Fd → List V → Nat → Pl
  | [], vs, a => ⟨.mk [] 0 vs, a, true⟩
  | f :: fs, vs, a => if (fldP k rec t f s a e pre).ok = true then readL k rec t s e pre fs (vs ++ [(fldP k rec t f s a e pre).v]) (fldP k rec t f s a e pre).p else failP (fldP k rec t f s a e pre).p
def read0 (k : Bool) (t : List Fm) (s : List UInt8) (i : Int) (a e : Nat) : Pl := readL k (fun _ _ _ => failP 0) t s e false (t.getD i.toNat default).fields [] a
def readT (k : Bool) (t : List Fm) (s : List UInt8) (pre : Bool) (i : Int) (a e : Nat) : Pl := readL k (read0 k t s) t s e pre (t.getD i.toNat default).fields [] a
/-- What is known of a result's position. -/
theorem takeP_le {s : List UInt8} {a n e : Nat} (h : a ≤ e) : a ≤ (takeP s a n e).p ∧ (takeP s a n e).p ≤ e := by
  unfold takeP; split <;> dsimp only <;> omega
theorem tagP_le {s : List UInt8} {e : Nat} : ∀ {l : List UInt8} {a : Nat}, a ≤ e → a ≤ (tagP s e l a).p ∧ (tagP s e l a).p ≤ e
  | [], a, h => by rw [tagP]; dsimp only; omega
  | c :: l, a, h => by
    rw [tagP]; split
    · dsimp only; omega
    · rename_i h1
      have := tagP_le (s := s) (e := e) (l := l) (a := a + 1) (by omega)
      omega
theorem nestP_le {k : Bool} {rec : Int → Nat → Nat → Pl} {t : List Fm} {i : Int} {s : List UInt8} {a e : Nat} (h : a ≤ e) (hr : ∀ b c, b ≤ c → b ≤ (rec i b c).p ∧ (rec i b c).p ≤ c) :
    a ≤ (nestP k rec t i s a e).p ∧ (nestP k rec t i s a e).p ≤ e := by
  have := hr (a + 1) (a + 1 + (s.getD a 0).toNat) (by omega)
  unfold nestP; split
  · dsimp only; omega
  split
  · dsimp only; omega
  split
  · dsimp only; omega
  split
  · dsimp only; omega
  · omega
theorem fldP_le {k : Bool} {rec : Int → Nat → Nat → Pl} {t : List Fm} {f : Fd} {s : List UInt8} {a e : Nat} {pre : Bool} (h : a ≤ e) (hr : f.kind = 5 → ∀ b c, b ≤ c → b ≤ (rec f.n b c).p ∧ (rec f.n b c).p ≤ c) :
    a ≤ (fldP k rec t f s a e pre).p ∧ (fldP k rec t f s a e pre).p ≤ e := by
  unfold fldP; split
  · exact tagP_le h
  split
  · exact takeP_le h
  split
  · split
    · dsimp only; omega
    split
    · dsimp only; omega
    · have := takeP_le (s := s) (a := a + 1) (n := (s.getD a 0).toNat) (e := e) (by omega); omega
  split
  · split
    · dsimp only; omega
    split
    · dsimp only; omega
    · dsimp only; omega
  split
  · rename_i h5; exact nestP_le h (hr h5)
  split
  · dsimp only; omega
  split
  · dsimp only; omega
  · exact takeP_le h
theorem readL_le {k : Bool} {rec : Int → Nat → Nat → Pl} {t : List Fm} {s : List UInt8} {e : Nat} {pre : Bool} : ∀ {fs : List Fd} {vs : List V} {a : Nat}, a ≤ e → (∀ j, j < fs.length → (fs.getD j default).kind = 5 → ∀ b c, b ≤ c → b ≤ (rec (fs.getD j default).n b c).p ∧ (rec (fs.getD j default).n b c).p ≤ c) →
    a ≤ (readL k rec t s e pre fs vs a).p ∧ (readL k rec t s e pre fs vs a).p ≤ e
  | [], vs, a, h, _ => by rw [readL]; dsimp only; omega
  | f :: fs, vs, a, h, hr => by
    have h1 := fldP_le (k := k) (t := t) (s := s) (pre := pre) h fun h5 b c hbc => by have := hr 0 (by simp) (by simpa using h5) b c hbc; simpa using this
    rw [readL]; split
    · have := readL_le (k := k) (rec := rec) (t := t) (s := s) (e := e) (pre := pre) (fs := fs) (vs := vs ++ [(fldP k rec t f s a e pre).v]) (a := (fldP k rec t f s a e pre).p) h1.2 fun j hj h5 b c hbc => by
        have := hr (j + 1) (by simpa using hj) (by simpa using h5) b c hbc; simpa using this
      omega
    · dsimp only; omega
theorem read0_le {k : Bool} {t : List Fm} {s : List UInt8} {i : Int} {a e : Nat} (h : a ≤ e) (hp : Plain1 (t.getD i.toNat default).fields) : a ≤ (read0 k t s i a e).p ∧ (read0 k t s i a e).p ≤ e :=
  readL_le h fun j hj h5 => absurd h5 (hp.ok j hj).2.1
theorem readT_le {k : Bool} {t : List Fm} {s : List UInt8} {pre : Bool} {i : Int} {a e : Nat} (h : a ≤ e) (hp : Fds t (t.getD i.toNat default).fields) : a ≤ (readT k t s pre i a e).p ∧ (readT k t s pre i a e).p ≤ e :=
  readL_le h fun j hj h5 b c hbc => read0_le hbc (hp.nest j hj h5).2
/-- Whether what was read is kept plays no part, but in what fails. -/
def Pl.sim (p q : Pl) : Prop := p.p = q.p ∧ p.ok = q.ok ∧ (q.ok = true → p.v = q.v)
theorem nestP_sim {rec rec' : Int → Nat → Nat → Pl} {t : List Fm} {i : Int} {s : List UInt8} {a e : Nat} (h : ∀ b c, rec i b c = rec' i b c) : (nestP true rec t i s a e).sim (nestP false rec' t i s a e) := by
  unfold nestP
  simp only [h]
  split
  · exact ⟨rfl, rfl, fun _ => rfl⟩
  split
  · exact ⟨rfl, rfl, fun _ => rfl⟩
  split
  · exact ⟨rfl, rfl, fun _ => rfl⟩
  split
  · exact ⟨rfl, rfl, fun h => by simp at h⟩
  · exact ⟨rfl, rfl, fun _ => rfl⟩
theorem fldP_sim {rec rec' : Int → Nat → Nat → Pl} {t : List Fm} {f : Fd} {s : List UInt8} {a e : Nat} {pre : Bool} (h : f.kind = 5 → ∀ b c, rec f.n b c = rec' f.n b c) : (fldP true rec t f s a e pre).sim (fldP false rec' t f s a e pre) := by
  by_cases h5 : f.kind = 5
  · simp only [fldP, h5]
    exact nestP_sim (h h5)
  · have : fldP true rec t f s a e pre = fldP false rec' t f s a e pre := by simp only [fldP, if_neg h5]
    rw [this]; exact ⟨rfl, rfl, fun _ => rfl⟩
theorem readL_sim {rec rec' : Int → Nat → Nat → Pl} {t : List Fm} {s : List UInt8} {e : Nat} {pre : Bool} : ∀ {fs : List Fd} {vs : List V} {a : Nat}, (∀ j, j < fs.length → (fs.getD j default).kind = 5 → ∀ b c, rec (fs.getD j default).n b c = rec' (fs.getD j default).n b c) →
    readL true rec t s e pre fs vs a = readL false rec' t s e pre fs vs a
  | [], vs, a, _ => by rw [readL, readL]
  | f :: fs, vs, a, h => by
    obtain ⟨h1, h2, h3⟩ := fldP_sim (t := t) (s := s) (a := a) (e := e) (pre := pre) (rec := rec) (rec' := rec') (f := f) fun h5 b c => by have := h 0 (by simp) (by simpa using h5) b c; simpa using this
    rw [readL, readL, h1, h2]
    split
    · rename_i h4
      rw [h3 h4]
      exact readL_sim fun j hj h5 b c => by have := h (j + 1) (by simpa using hj) (by simpa using h5) b c; simpa using this
    · rfl
theorem readT_sim {t : List Fm} {s : List UInt8} {pre : Bool} {i : Int} {a e : Nat} (h : Fds t (t.getD i.toNat default).fields) : readT true t s pre i a e = readT false t s pre i a e :=
  readL_sim fun j hj h5 b c => readL_sim fun l hl h6 => absurd h6 ((h.nest j hj h5).2.ok l hl).2.1
end Go.Proofs.Ytgjclggjkhapfaa
/- The end of functions without results; calls that are handed one whole box. -/
set_option linter.unusedVariables false
set_option linter.unusedSimpArgs false
namespace Go.Abs
theorem retn_ok {T : List (Option TyI)} {rs : List ResultVar} {res x : X} {bs' : List (List C)} {s : St} (h : resX T s rs = some x) (hx : x = res) (hb : subB s (boxesB 0 bs')) : retS T rs res none bs' .normal s :=
  ret_ok (rs := rs) h hx hb
theorem setAt_whole {cs ds : List C} (h : ds.length = cs.length) : setAt cs 0 ds = ds := by
  apply List.ext_getElem?
  intro j
  rw [setAt_get cs ds 0 j (by omega)]
  split
  · rfl
  · rename_i hj
    rw [List.getElem?_eq_none (by omega), List.getElem?_eq_none (by omega)]
theorem old_whole {n : Nm} {cs ds : List C} (h : ds.length = cs.length) : (⟨n, 0, cs, ds⟩ : Pass).old = cs := by
  simp [Pass.old, h]
section
variable {Z : Pg} {N : Nat} {ops : Array Oper} {K : St → Prop} {st : St} {o : Oper} {d : Nat}
theorem al_callB1 {rest : List Oper} {fo : Operand} {args : Array Operand} {ts : Array TypeId} {f : FuncId} {xs cxs : List X} {res : X} (n : Nm) {cs ds : List C}
    (ho : o.op = .call { callee := .value fo, args := args, argTypes := ts }) (hg : gateOf ops st o = some true)
    (hf : lk Z.T st 0 fo = some (true, .fn f [])) (ha : lkAll Z.T st ts.toList args.toList = some (true, xs)) (hb : st.box n = some cs) (hd : o.dst = some d)
    (hs : Ctr Z f cxs [cs] res none [ds]) (hl : ds.length = cs.length) (htr : cxs.map (X.tr [⟨n, 0, cs, ds⟩]) = xs) (htrok : trAll [⟨n, 0, cs, ds⟩] cxs = true) (hnb : n.isBd = false) (hc : res.clean = true) (hN : Nat.ble (d + 1) N = true)
    (h : AL Z N ops rest K ((st.store n ds 0 ds.length).put d (true, res))) : AL Z N ops (o :: rest) K st := by
  refine al_callB [⟨n, 0, cs, ds⟩] ho hg hf ha htr htrok (by intro p hp; simp at hp; subst hp; exact hb) ?_ ?_ hc hd hN ?_
  · simp [passB, hl, hnb]
  · simpa [old_whole hl] using hs
  · simpa [St.stores, setAt_whole hl] using h
theorem dr_callB1 {rest : List Oper} {B : List Nat} {s0 : St} {k : Nat} {acc : List (Nat × Eff × Foot)} {Q : St → Prop} {fo : Operand} {args : Array Operand} {ts : Array TypeId} {f : FuncId} {xs cxs : List X} {res : X} (n : Nm) {cs ds : List C} (hk : ops[k]? = some o)
    (ho : o.op = .call { callee := .value fo, args := args, argTypes := ts }) (hg : gateOf ops (rs (foot ops o [n] []) st) o = some true)
    (hf : lk Z.T (rs (foot ops o [n] []) st) 0 fo = some (true, .fn f [])) (ha : lkAll Z.T (rs (foot ops o [n] []) st) ts.toList args.toList = some (true, xs)) (hb : (rs (foot ops o [n] []) st).box n = some cs) (hd : o.dst = some d)
    (hs : Ctr Z f cxs [cs] res none [ds]) (hl : ds.length = cs.length) (htr : cxs.map (X.tr [⟨n, 0, cs, ds⟩]) = xs) (htrok : trAll [⟨n, 0, cs, ds⟩] cxs = true) (hnb : n.isBd = false) (hc : res.clean = true) (hN : Nat.ble (d + 1) N = true)
    (hr : Draw Z N s0 ops B (k + 1) rest (acc ++ [(k, { d := some (d, true, res), b := some (n, ds), drop := .t d :: cellPls n 0 ds.length }, foot ops o [n] [])]) (ap { d := some (d, true, res), b := some (n, ds), drop := .t d :: cellPls n 0 ds.length } st) Q) :
    Draw Z N s0 ops B k (o :: rest) acc st Q := by
  refine dr_callB ⟨n, 0, cs, ds⟩ hk ho hg hf ha htr htrok hb (by simp [hl]) ?_ hc hd hN ?_ hnb
  · simpa [old_whole hl] using hs
  · simpa [setAt_whole hl] using hr
end
end Go.Abs
/- Contracts: reading strings of formats, as codec does. -/
set_option linter.unusedVariables false
set_option linter.unusedSimpArgs false
namespace Go.Proofs.Ytgjclggjkhapfaa
open Go Go.Abs
abbrev pp : X := .v (.ptr (.o 0) 0)
abbrev xnil : X := .tup []
abbrev rc (t : List Fm) (s : List UInt8) (a : Int) (b : Bool) : List C := [.sl 2 (Fm.rows t), .s s, .i .i64 a, .b b]
theorem rc_eq {t : List Fm} {s : List UInt8} {a a' : Int} {b b' : Bool} (h1 : a = a') (h2 : b = b') : some (rc t s a b) = some (rc t s a' b') := by rw [h1, h2]
theorem rc_eq' {t : List Fm} {s : List UInt8} {a a' : Int} {b b' : Bool} (h1 : a = a') (h2 : b = b') : rc t s a b = rc t s a' b' := by rw [h1, h2]
theorem u8_lt' (b : UInt8) : (b.toNat : Int) < 256 := by have := b.toNat_lt; omega
theorem cfail_spec (t : List Fm) (s : List UInt8) (a n : Int) (b : Bool) : Ctr sys 90 [pp, xi n] [rc t s a b] xnil none [rc t s n true] := by
  refine spec_intro Try.func90 rfl rfl rfl rfl rfl rfl ?_
  refine awp_region ?_
  refine al_pure rfl rfl rfl (pure_move rfl (fun _ => rfl)) ?_
  refine al_pure rfl rfl rfl (pure_move rfl (fun _ => rfl)) ?_
  refine al_pure rfl rfl rfl (pure_move rfl (fun _ => rfl)) ?_
  refine al_pure rfl rfl rfl (pure_nilCheck rfl (fun _ => rfl)) ?_
  refine al_pure rfl rfl rfl (pure_fieldPtr rfl (fun _ => rfl) rfl rfl) ?_
  refine al_do rfl (does_store rfl rfl rfl rfl rfl rfl rfl) ?_
  refine al_pure rfl rfl rfl (pure_nilCheck rfl (fun _ => rfl)) ?_
  refine al_pure rfl rfl rfl (pure_fieldPtr rfl (fun _ => rfl) rfl rfl) ?_
  refine al_do rfl (does_store rfl rfl rfl rfl rfl rfl rfl) ?_
  refine al_nil ?_
  refine retn_ok rfl ?_ (⟨⟨_, rfl, ?_⟩, trivial⟩)
  · rfl
  · rfl
theorem ctake_spec (t : List Fm) (s : List UInt8) (a n e : Nat) (ai ni ei : Int) (ha : ai = a) (hn : ni = n) (he : ei = e) (h1 : a ≤ e) (h2 : e ≤ s.length) (hs : s.length ≤ 100000) (hn2 : n ≤ 100000) :
    Ctr sys 87 [pp, xi ni, xi ei] [rc t s ai false] (xs (takeP s a n e).v.bytes) none [rc t s (takeP s a n e).p (!(takeP s a n e).ok)] := by
  subst ha; subst hn; subst he
  refine spec_intro Try.func87 rfl rfl rfl rfl rfl rfl ?_
  refine awp_seq ?_
  refine awp_region ?_
  refine al_pure rfl rfl rfl (pure_assign rfl (fun _ => rfl)) ?_
  refine al_nil ?_
  refine awp_seq ?_
  refine awp_seq ?_
  refine awp_region ?_
  refine al_pure rfl rfl rfl (pure_move rfl (fun _ => rfl)) ?_
  refine al_pure rfl rfl rfl (pure_move rfl (fun _ => rfl)) ?_
  refine al_pure rfl rfl rfl (pure_move rfl (fun _ => rfl)) ?_
  refine al_pure rfl rfl rfl (pure_nilCheck rfl (fun _ => rfl)) ?_
  refine al_pure rfl rfl rfl (pure_fieldPtr rfl (fun _ => rfl) rfl rfl) ?_
  refine al_pure rfl rfl rfl (pure_loadBox rfl (fun _ => rfl) rfl rfl rfl rfl) ?_
  refine al_pure rfl rfl rfl (pure_arith rfl rfl (fun _ => rfl) (fun _ => rfl) rfl (IntWalk.i64_in _ (by omega))) ?_
  refine al_pure rfl rfl rfl (pure_cmp rfl rfl (fun _ => rfl) (fun _ => rfl) rfl) ?_
  refine al_nil ?_
  refine awp_sub (s := { t := [(0, _, _), (1, _, _), (2, _, _), (15, _, _)], bx := [((.o 0), _)], ow := [] }) (sub_mk (⟨⟨_, rfl, rfl⟩, ⟨⟨_, rfl, rfl⟩, ⟨⟨_, rfl, rfl⟩, ⟨⟨_, rfl, rfl⟩, trivial⟩⟩⟩⟩) (⟨⟨_, rfl, rfl⟩, trivial⟩) trivial) ?_
  refine awp_cond rfl (fun hc => ?_) (fun hc => ?_)
  · try simp only [n1, n2, n3, n4, n5, n6, n7, n8, n9, n10, n11, n12, n13, n14, n15, n16, Fd.rows_len, Fm.rows_len, V.rows_len] at hc
    rw [takeP, if_pos (by omega)]
    refine awp_seq ?_
    refine awp_region ?_
    refine al_pure rfl rfl rfl (pure_move rfl (fun _ => rfl)) ?_
    refine al_pure rfl rfl rfl (pure_move rfl (fun _ => rfl)) ?_
    refine al_callB1 (.o 0) rfl rfl rfl rfl rfl rfl (cfail_spec _ _ _ _ _) rfl (by rfl) (by rfl) rfl rfl rfl ?_
    refine al_nil ?_
    refine awp_seq ?_
    refine awp_region ?_
    refine al_pure rfl rfl rfl (pure_assign rfl (fun _ => rfl)) ?_
    refine al_nil ?_
    refine awp_ret ?_
    repeat (first | refine thenS_ret ?_ | refine blockS_ret ?_)
    refine ret_ok rfl ?_ (⟨⟨_, rfl, ?_⟩, trivial⟩)
    · rfl
    · rfl
  · try simp only [n1, n2, n3, n4, n5, n6, n7, n8, n9, n10, n11, n12, n13, n14, n15, n16, Fd.rows_len, Fm.rows_len, V.rows_len] at hc
    rw [takeP, if_neg (by omega)]
    refine awp_skip ?_
    refine awp_seq ?_
    refine awp_drawn' (by kernel_rfl) ?_
    refine dr_pure rfl rfl rfl rfl (pure_move rfl (fun _ => rfl)) ?_
    refine dr_pure rfl rfl rfl rfl (pure_nilCheck rfl (fun _ => rfl)) ?_
    refine dr_pure rfl rfl rfl rfl (pure_fieldPtr rfl (fun _ => rfl) rfl rfl) ?_
    refine dr_load rfl rfl rfl rfl rfl rfl rfl (fun _ => rfl) rfl rfl rfl rfl ?_
    refine dr_pure rfl rfl rfl rfl (pure_move rfl (fun _ => rfl)) ?_
    refine dr_pure rfl rfl rfl rfl (pure_nilCheck rfl (fun _ => rfl)) ?_
    refine dr_pure rfl rfl rfl rfl (pure_fieldPtr rfl (fun _ => rfl) rfl rfl) ?_
    refine dr_load rfl rfl rfl rfl rfl rfl rfl (fun _ => rfl) rfl rfl rfl rfl ?_
    refine dr_pure rfl rfl rfl rfl (pure_move rfl (fun _ => rfl)) ?_
    refine dr_pure rfl rfl rfl rfl (pure_nilCheck rfl (fun _ => rfl)) ?_
    refine dr_pure rfl rfl rfl rfl (pure_fieldPtr rfl (fun _ => rfl) rfl rfl) ?_
    refine dr_load rfl rfl rfl rfl rfl rfl rfl (fun _ => rfl) rfl rfl rfl rfl ?_
    refine dr_pure rfl rfl rfl rfl (pure_move rfl (fun _ => rfl)) ?_
    refine dr_pure rfl rfl rfl rfl (pure_arith rfl rfl (fun _ => rfl) (fun _ => rfl) rfl (IntWalk.i64_in _ (by omega))) ?_
    refine dr_pure rfl rfl rfl rfl (pure_sliceS (l := a) (h' := (a + n)) rfl (fun _ => rfl) Try.underlying9 (fun _ => ⟨_, _, _, rfl, (fun _ => rfl), by first | omega | (simp at hh; omega)⟩) (fun _ => ⟨_, _, _, rfl, (fun _ => rfl), by first | omega | (simp at hh; omega)⟩) (fun hh => by first | omega | (simp at hh; omega)) (fun hh => by first | omega | (simp at hh; omega))) ?_
    refine dr_pure rfl rfl rfl rfl (pure_assign rfl (fun _ => rfl)) ?_
    refine dr_nil (by kernel_rfl) ?_
    refine awp_sub (s := { t := [(0, _, _), (1, _, _), (7, _, _)], bx := [((.o 0), _)], ow := [] }) (sub_mk (⟨⟨_, rfl, rfl⟩, ⟨⟨_, rfl, rfl⟩, ⟨⟨_, rfl, rfl⟩, trivial⟩⟩⟩) (⟨⟨_, rfl, rfl⟩, trivial⟩) trivial) ?_
    refine awp_seq ?_
    refine awp_region ?_
    refine al_pure rfl rfl rfl (pure_move rfl (fun _ => rfl)) ?_
    refine al_pure rfl rfl rfl (pure_nilCheck rfl (fun _ => rfl)) ?_
    refine al_pure rfl rfl rfl (pure_fieldPtr rfl (fun _ => rfl) rfl rfl) ?_
    refine al_pure rfl rfl rfl (pure_loadBox rfl (fun _ => rfl) rfl rfl rfl rfl) ?_
    refine al_pure rfl rfl rfl (pure_move rfl (fun _ => rfl)) ?_
    refine al_pure rfl rfl rfl (pure_arith rfl rfl (fun _ => rfl) (fun _ => rfl) rfl (IntWalk.i64_in _ (by omega))) ?_
    refine al_pure rfl rfl rfl (pure_nilCheck rfl (fun _ => rfl)) ?_
    refine al_pure rfl rfl rfl (pure_fieldPtr rfl (fun _ => rfl) rfl rfl) ?_
    refine al_do rfl (does_store rfl rfl rfl rfl rfl rfl rfl) ?_
    refine al_nil ?_
    refine awp_sub (s := { t := [(7, _, _)], bx := [((.o 0), _)], ow := [] }) (sub_mk (⟨⟨_, rfl, rfl⟩, trivial⟩) (⟨⟨_, rfl, rfl⟩, trivial⟩) trivial) ?_
    refine awp_seq ?_
    refine awp_region ?_
    refine al_pure rfl rfl rfl (pure_move rfl (fun _ => rfl)) ?_
    refine al_pure rfl rfl rfl (pure_assign rfl (fun _ => rfl)) ?_
    refine al_nil ?_
    refine awp_ret ?_
    repeat (first | refine thenS_ret ?_ | refine blockS_ret ?_)
    refine ret_ok rfl ?_ (⟨⟨_, rfl, ?_⟩, trivial⟩)
    · rfl
    · exact rc_eq' (by dsimp only; omega) rfl
def numP (s : List UInt8) (a e : Nat) (low high : Int) : Int × Nat × Bool := if e ≤ a then (0, e, false) else if ((s.getD a 0).toNat : Int) < low ∨ high < (s.getD a 0).toNat then (0, a, false) else ((s.getD a 0).toNat, a + 1, true)
theorem cnum_spec (t : List Fm) (s : List UInt8) (a e : Nat) (ai ei low high : Int) (ha : ai = a) (he : ei = e) (h1 : a ≤ e) (h2 : e ≤ s.length) (hs : s.length ≤ 100000) :
    Ctr sys 88 [pp, xi low, xi high, xi ei] [rc t s ai false] (xi (numP s a e low high).1) none [rc t s (numP s a e low high).2.1 (!(numP s a e low high).2.2)] := by
  subst ha; subst he
  have hu := u8_lt' (s.getD a 0)
  refine spec_intro Try.func88 rfl rfl rfl rfl rfl rfl ?_
  refine awp_seq ?_
  refine awp_region ?_
  refine al_pure rfl rfl rfl (pure_assign rfl (fun _ => rfl)) ?_
  refine al_nil ?_
  refine awp_seq ?_
  refine awp_seq ?_
  refine awp_region ?_
  refine al_pure rfl rfl rfl (pure_move rfl (fun _ => rfl)) ?_
  refine al_pure rfl rfl rfl (pure_nilCheck rfl (fun _ => rfl)) ?_
  refine al_pure rfl rfl rfl (pure_fieldPtr rfl (fun _ => rfl) rfl rfl) ?_
  refine al_pure rfl rfl rfl (pure_loadBox rfl (fun _ => rfl) rfl rfl rfl rfl) ?_
  refine al_pure rfl rfl rfl (pure_move rfl (fun _ => rfl)) ?_
  refine al_pure rfl rfl rfl (pure_cmp rfl rfl (fun _ => rfl) (fun _ => rfl) rfl) ?_
  refine al_nil ?_
  refine awp_sub (s := { t := [(0, _, _), (1, _, _), (2, _, _), (3, _, _), (15, _, _)], bx := [((.o 0), _)], ow := [] }) (sub_mk (⟨⟨_, rfl, rfl⟩, ⟨⟨_, rfl, rfl⟩, ⟨⟨_, rfl, rfl⟩, ⟨⟨_, rfl, rfl⟩, ⟨⟨_, rfl, rfl⟩, trivial⟩⟩⟩⟩⟩) (⟨⟨_, rfl, rfl⟩, trivial⟩) trivial) ?_
  refine awp_cond rfl (fun hc => ?_) (fun hc => ?_)
  · try simp only [n1, n2, n3, n4, n5, n6, n7, n8, n9, n10, n11, n12, n13, n14, n15, n16, Fd.rows_len, Fm.rows_len, V.rows_len] at hc
    rw [numP, if_pos (by omega)]
    refine awp_seq ?_
    refine awp_region ?_
    refine al_pure rfl rfl rfl (pure_move rfl (fun _ => rfl)) ?_
    refine al_pure rfl rfl rfl (pure_move rfl (fun _ => rfl)) ?_
    refine al_callB1 (.o 0) rfl rfl rfl rfl rfl rfl (cfail_spec _ _ _ _ _) rfl (by rfl) (by rfl) rfl rfl rfl ?_
    refine al_nil ?_
    refine awp_seq ?_
    refine awp_region ?_
    refine al_pure rfl rfl rfl (pure_assign rfl (fun _ => rfl)) ?_
    refine al_nil ?_
    refine awp_ret ?_
    repeat (first | refine thenS_ret ?_ | refine blockS_ret ?_)
    refine ret_ok rfl ?_ (⟨⟨_, rfl, ?_⟩, trivial⟩)
    · rfl
    · rfl
  · try simp only [n1, n2, n3, n4, n5, n6, n7, n8, n9, n10, n11, n12, n13, n14, n15, n16, Fd.rows_len, Fm.rows_len, V.rows_len] at hc
    rw [numP, if_neg (by omega)]
    refine awp_skip ?_
    refine awp_seq ?_
    refine awp_drawn' (by kernel_rfl) ?_
    refine dr_pure rfl rfl rfl rfl (pure_move rfl (fun _ => rfl)) ?_
    refine dr_pure rfl rfl rfl rfl (pure_nilCheck rfl (fun _ => rfl)) ?_
    refine dr_pure rfl rfl rfl rfl (pure_fieldPtr rfl (fun _ => rfl) rfl rfl) ?_
    refine dr_load rfl rfl rfl rfl rfl rfl rfl (fun _ => rfl) rfl rfl rfl rfl ?_
    refine dr_pure rfl rfl rfl rfl (pure_move rfl (fun _ => rfl)) ?_
    refine dr_pure rfl rfl rfl rfl (pure_nilCheck rfl (fun _ => rfl)) ?_
    refine dr_pure rfl rfl rfl rfl (pure_fieldPtr rfl (fun _ => rfl) rfl rfl) ?_
    refine dr_load rfl rfl rfl rfl rfl rfl rfl (fun _ => rfl) rfl rfl rfl rfl ?_
    refine dr_pure rfl rfl rfl rfl (pure_indexSg (j := a) rfl rfl (fun _ => rfl) (fun _ => rfl) Try.underlying9 (by first | omega | (simp at hh; omega)) (fun hh => by first | omega | (simp at hh; omega))) ?_
    refine dr_pure rfl rfl rfl rfl (pure_convInt rfl (fun _ => rfl) ⟨_, Try.underlying5⟩ (Try.underlying3) (IntWalk.i64_in _ (by omega))) ?_
    refine dr_pure rfl rfl rfl rfl (pure_assign rfl (fun _ => rfl)) ?_
    refine dr_nil (by kernel_rfl) ?_
    refine awp_sub (s := { t := [(0, _, _), (1, _, _), (2, _, _), (9, _, _)], bx := [((.o 0), _)], ow := [] }) (sub_mk (⟨⟨_, rfl, rfl⟩, ⟨⟨_, rfl, rfl⟩, ⟨⟨_, rfl, rfl⟩, ⟨⟨_, rfl, rfl⟩, trivial⟩⟩⟩⟩) (⟨⟨_, rfl, rfl⟩, trivial⟩) trivial) ?_
    refine awp_seq ?_
    refine awp_seq ?_
    refine awp_region ?_
    refine al_pure rfl rfl rfl (pure_move rfl (fun _ => rfl)) ?_
    refine al_pure rfl rfl rfl (pure_move rfl (fun _ => rfl)) ?_
    refine al_pure rfl rfl rfl (pure_cmp rfl rfl (fun _ => rfl) (fun _ => rfl) rfl) ?_
    refine al_pure rfl rfl rfl (pure_move rfl (fun _ => rfl)) ?_
    refine al_pure rfl rfl rfl (pure_move rfl (fun _ => rfl)) ?_
    refine al_pure rfl rfl rfl (pure_move rfl (fun _ => rfl)) ?_
    refine al_pure rfl rfl rfl (pure_cmp rfl rfl (fun hh => hh) (fun hh => hh) rfl) ?_
    refine al_pure rfl rfl rfl (pure_or rfl rfl (fun _ => rfl) (fun _ hi => gP rfl hi)) ?_
    refine al_nil ?_
    refine awp_sub (s := { t := [(0, _, _), (9, _, _), (36, _, _)], bx := [((.o 0), _)], ow := [] }) (sub_mk (⟨⟨_, rfl, rfl⟩, ⟨⟨_, rfl, rfl⟩, ⟨⟨_, rfl, rfl⟩, trivial⟩⟩⟩) (⟨⟨_, rfl, rfl⟩, trivial⟩) trivial) ?_
    refine awp_cond rfl (fun hc2 => ?_) (fun hc2 => ?_)
    · try simp only [n1, n2, n3, n4, n5, n6, n7, n8, n9, n10, n11, n12, n13, n14, n15, n16, Fd.rows_len, Fm.rows_len, V.rows_len] at hc2
      rw [if_pos (by omega)]
      refine awp_seq ?_
      refine awp_region ?_
      refine al_pure rfl rfl rfl (pure_move rfl (fun _ => rfl)) ?_
      refine al_pure rfl rfl rfl (pure_move rfl (fun _ => rfl)) ?_
      refine al_pure rfl rfl rfl (pure_nilCheck rfl (fun _ => rfl)) ?_
      refine al_pure rfl rfl rfl (pure_fieldPtr rfl (fun _ => rfl) rfl rfl) ?_
      refine al_pure rfl rfl rfl (pure_loadBox rfl (fun _ => rfl) rfl rfl rfl rfl) ?_
      refine al_callB1 (.o 0) rfl rfl rfl rfl rfl rfl (cfail_spec _ _ _ _ _) rfl (by rfl) (by rfl) rfl rfl rfl ?_
      refine al_nil ?_
      refine awp_sub (s := { t := [], bx := [((.o 0), _)], ow := [] }) (sub_mk trivial (⟨⟨_, rfl, rfl⟩, trivial⟩) trivial) ?_
      refine awp_seq ?_
      refine awp_region ?_
      refine al_pure rfl rfl rfl (pure_assign rfl (fun _ => rfl)) ?_
      refine al_nil ?_
      refine awp_ret ?_
      repeat (first | refine thenS_ret ?_ | refine blockS_ret ?_)
      refine ret_ok rfl ?_ (⟨⟨_, rfl, ?_⟩, trivial⟩)
      · rfl
      · rfl
    · try simp only [n1, n2, n3, n4, n5, n6, n7, n8, n9, n10, n11, n12, n13, n14, n15, n16, Fd.rows_len, Fm.rows_len, V.rows_len] at hc2
      rw [if_neg (by omega)]
      refine awp_skip ?_
      refine awp_seq ?_
      refine awp_region ?_
      refine al_pure rfl rfl rfl (pure_move rfl (fun _ => rfl)) ?_
      refine al_pure rfl rfl rfl (pure_nilCheck rfl (fun _ => rfl)) ?_
      refine al_pure rfl rfl rfl (pure_fieldPtr rfl (fun _ => rfl) rfl rfl) ?_
      refine al_pure rfl rfl rfl (pure_loadBox rfl (fun _ => rfl) rfl rfl rfl rfl) ?_
      refine al_pure rfl rfl rfl (pure_arith rfl rfl (fun _ => rfl) (fun _ => rfl) rfl (IntWalk.i64_in _ (by omega))) ?_
      refine al_pure rfl rfl rfl (pure_nilCheck rfl (fun _ => rfl)) ?_
      refine al_pure rfl rfl rfl (pure_fieldPtr rfl (fun _ => rfl) rfl rfl) ?_
      refine al_do rfl (does_store rfl rfl rfl rfl rfl rfl rfl) ?_
      refine al_nil ?_
      refine awp_sub (s := { t := [(9, _, _)], bx := [((.o 0), _)], ow := [] }) (sub_mk (⟨⟨_, rfl, rfl⟩, trivial⟩) (⟨⟨_, rfl, rfl⟩, trivial⟩) trivial) ?_
      refine awp_seq ?_
      refine awp_region ?_
      refine al_pure rfl rfl rfl (pure_move rfl (fun _ => rfl)) ?_
      refine al_pure rfl rfl rfl (pure_assign rfl (fun _ => rfl)) ?_
      refine al_nil ?_
      refine awp_ret ?_
      repeat (first | refine thenS_ret ?_ | refine blockS_ret ?_)
      refine ret_ok rfl ?_ (⟨⟨_, rfl, ?_⟩, trivial⟩)
      · rfl
      · exact rc_eq' (by dsimp only; omega) rfl
theorem ctag_spec (t : List Fm) (s w : List UInt8) (a e : Nat) (ai ei : Int) (ha : ai = a) (he : ei = e) (h1 : a ≤ e) (h2 : e ≤ s.length) (hs : s.length ≤ 100000) (hw : w.length ≤ 100000) :
    Ctr sys 86 [pp, xs w, xi ei] [rc t s ai false] xnil none [rc t s (tagP s e w a).p (!(tagP s e w a).ok)] := by
  subst ha; subst he
  refine spec_intro Try.func86 rfl rfl rfl rfl rfl rfl ?_
  refine awp_seq ?_
  refine awp_region ?_
  refine al_pure rfl rfl rfl (pure_move rfl (fun _ => rfl)) ?_
  refine al_lenS rfl rfl rfl rfl rfl (fun _ => rfl) (Try.underlying9) ?_ (fun hh => by simp at hh); intro hlen
  refine al_pure rfl rfl rfl (pure_move rfl (fun _ => rfl)) ?_
  refine al_nil ?_
  refine awp_block ?_
  refine awp_for (ι := Nat) { t := [(0, _, _), (1, _, _), (2, _, _), (8, _, _)], bx := [], ow := [] } (fun k => [(9, true, xi (k : Int))]) (fun k => [((.o 0), rc t s ((a + k : Nat) : Int) false)]) (fun k => k ≤ w.length ∧ a + k ≤ e ∧ tagP s e (w.drop k) (a + k) = tagP s e w a) (fun k => w.length - k) (0) (⟨by omega, by omega, rfl⟩) (sub_mk (⟨⟨_, rfl, rfl⟩, ⟨⟨_, rfl, rfl⟩, ⟨⟨_, rfl, rfl⟩, ⟨⟨_, rfl, rfl⟩, ⟨⟨_, rfl, rfl⟩, trivial⟩⟩⟩⟩⟩) (⟨⟨_, rfl, rfl⟩, trivial⟩) trivial) ?_
  intro k hok
  dsimp only [List.cons_append, List.nil_append]
  obtain ⟨hk, hk2, hi⟩ := hok
  refine awp_seq ?_
  refine awp_region ?_
  refine al_pure rfl rfl rfl (pure_cmp rfl rfl (fun _ => rfl) (fun _ => rfl) rfl) ?_
  refine al_nil ?_
  refine awp_seq ?_
  refine awp_cond rfl (fun hc => ?_) (fun hc => ?_)
  · try simp only [n1, n2, n3, n4, n5, n6, n7, n8, n9, n10, n11, n12, n13, n14, n15, n16, Fd.rows_len, Fm.rows_len, V.rows_len] at hc
    rw [drop_get0 (by omega), tagP] at hi
    refine awp_skip ?_
    refine awp_seq ?_
    refine awp_block ?_
    refine awp_seq ?_
    refine awp_region ?_
    refine al_pure rfl rfl rfl (pure_move rfl (fun _ => rfl)) ?_
    refine al_pure rfl rfl rfl (pure_assign rfl (fun _ => rfl)) ?_
    refine al_nil ?_
    refine awp_seq ?_
    refine awp_seq ?_
    refine awp_drawn' (by kernel_rfl) ?_
    refine dr_pure rfl rfl rfl rfl (pure_move rfl (fun _ => rfl)) ?_
    refine dr_pure rfl rfl rfl rfl (pure_nilCheck rfl (fun _ => rfl)) ?_
    refine dr_pure rfl rfl rfl rfl (pure_fieldPtr rfl (fun _ => rfl) rfl rfl) ?_
    refine dr_load rfl rfl rfl rfl rfl rfl rfl (fun _ => rfl) rfl rfl rfl rfl ?_
    refine dr_pure rfl rfl rfl rfl (pure_move rfl (fun _ => rfl)) ?_
    refine dr_pure rfl rfl rfl rfl (pure_cmp rfl rfl (fun _ => rfl) (fun _ => rfl) rfl) ?_
    refine dr_pure rfl rfl rfl rfl (pure_move rfl (fun _ => rfl)) ?_
    refine dr_pure rfl rfl rfl rfl (pure_move rfl (fun _ => rfl)) ?_
    refine dr_pure rfl rfl rfl rfl (pure_nilCheck rfl (fun hh => hh)) ?_
    refine dr_pure rfl rfl rfl rfl (pure_fieldPtr rfl (fun hh => hh) rfl rfl) ?_
    refine dr_load rfl rfl rfl rfl rfl rfl rfl (fun hh => hh) rfl rfl rfl rfl ?_
    refine dr_pure rfl rfl rfl rfl (pure_move rfl (fun _ => rfl)) ?_
    refine dr_pure rfl rfl rfl rfl (pure_nilCheck rfl (fun hh => hh)) ?_
    refine dr_pure rfl rfl rfl rfl (pure_fieldPtr rfl (fun hh => hh) rfl rfl) ?_
    refine dr_load rfl rfl rfl rfl rfl rfl rfl (fun hh => hh) rfl rfl rfl rfl ?_
    refine dr_pure rfl rfl rfl rfl (pure_indexSg (j := (a + k)) rfl rfl (fun hh => hh) (fun hh => hh) Try.underlying9 (by first | omega | (simp at hh; omega)) (fun hh => by first | omega | (simp at hh; omega))) ?_
    refine dr_pure rfl rfl rfl rfl (pure_move rfl (fun _ => rfl)) ?_
    refine dr_pure rfl rfl rfl rfl (pure_move rfl (fun _ => rfl)) ?_
    refine dr_pure rfl rfl rfl rfl (pure_indexSg (j := k) rfl rfl (fun hh => hh) (fun hh => hh) Try.underlying9 (by first | omega | (simp at hh; omega)) (fun hh => by first | omega | (simp at hh; omega))) ?_
    refine dr_pure rfl rfl rfl rfl (pure_cmp rfl rfl (fun hh => hh) (fun hh => hh) rfl) ?_
    refine dr_pure rfl rfl rfl rfl (pure_or rfl rfl (fun _ => rfl) (fun _ hi => gP rfl hi)) ?_
    refine dr_nil (by kernel_rfl) ?_
    refine awp_sub (s := { t := [(0, _, _), (1, _, _), (2, _, _), (8, _, _), (9, _, _), (32, _, _)], bx := [((.o 0), _)], ow := [] }) (sub_mk (⟨⟨_, rfl, rfl⟩, ⟨⟨_, rfl, rfl⟩, ⟨⟨_, rfl, rfl⟩, ⟨⟨_, rfl, rfl⟩, ⟨⟨_, rfl, rfl⟩, ⟨⟨_, rfl, rfl⟩, trivial⟩⟩⟩⟩⟩⟩) (⟨⟨_, rfl, rfl⟩, trivial⟩) trivial) ?_
    refine awp_cond rfl (fun hc2 => ?_) (fun hc2 => ?_)
    · try simp only [n1, n2, n3, n4, n5, n6, n7, n8, n9, n10, n11, n12, n13, n14, n15, n16, Fd.rows_len, Fm.rows_len, V.rows_len] at hc2
      have hq : e ≤ a + k ∨ s.getD (a + k) 0 ≠ w.getD k 0 := by
        rcases hc2 with h | h
        · left; omega
        · right; intro hq; rw [hq] at h; exact h rfl
      rw [if_pos hq] at hi
      rw [← hi]
      refine awp_seq ?_
      refine awp_region ?_
      refine al_pure rfl rfl rfl (pure_move rfl (fun _ => rfl)) ?_
      refine al_pure rfl rfl rfl (pure_move rfl (fun _ => rfl)) ?_
      refine al_pure rfl rfl rfl (pure_nilCheck rfl (fun _ => rfl)) ?_
      refine al_pure rfl rfl rfl (pure_fieldPtr rfl (fun _ => rfl) rfl rfl) ?_
      refine al_pure rfl rfl rfl (pure_loadBox rfl (fun _ => rfl) rfl rfl rfl rfl) ?_
      refine al_pure rfl rfl rfl (pure_move rfl (fun _ => rfl)) ?_
      refine al_pure rfl rfl rfl (pure_min rfl rfl (fun _ => rfl) (fun _ => rfl)) ?_
      refine al_callB1 (.o 0) rfl rfl rfl rfl rfl rfl (cfail_spec _ _ _ _ _) rfl (by rfl) (by rfl) rfl rfl rfl ?_
      refine al_nil ?_
      refine awp_ret ?_
      repeat (first | refine thenS_ret ?_ | refine blockS_ret ?_)
      refine ret_ok rfl ?_ (⟨⟨_, rfl, ?_⟩, trivial⟩)
      · rfl
      · exact rc_eq' (by dsimp only; omega) rfl
    · try simp only [n1, n2, n3, n4, n5, n6, n7, n8, n9, n10, n11, n12, n13, n14, n15, n16, Fd.rows_len, Fm.rows_len, V.rows_len] at hc2
      have hq : s.getD (a + k) 0 = w.getD k 0 := UInt8.toNat_inj.1 (by omega)
      rw [if_neg (by intro h; rcases h with h | h; omega; exact h hq)] at hi
      refine awp_skip ?_
      refine awp_region ?_
      refine al_pure rfl rfl rfl (pure_move rfl (fun _ => rfl)) ?_
      refine al_pure rfl rfl rfl (pure_nilCheck rfl (fun _ => rfl)) ?_
      refine al_pure rfl rfl rfl (pure_fieldPtr rfl (fun _ => rfl) rfl rfl) ?_
      refine al_pure rfl rfl rfl (pure_loadBox rfl (fun _ => rfl) rfl rfl rfl rfl) ?_
      refine al_pure rfl rfl rfl (pure_arith rfl rfl (fun _ => rfl) (fun _ => rfl) rfl (IntWalk.i64_in _ (by omega))) ?_
      refine al_pure rfl rfl rfl (pure_nilCheck rfl (fun _ => rfl)) ?_
      refine al_pure rfl rfl rfl (pure_fieldPtr rfl (fun _ => rfl) rfl rfl) ?_
      refine al_do rfl (does_store rfl rfl rfl rfl rfl rfl rfl) ?_
      refine al_nil ?_
      refine awp_sub (s := { t := [(0, _, _), (1, _, _), (2, _, _), (8, _, _), (9, _, _)], bx := [((.o 0), _)], ow := [] }) (sub_mk (⟨⟨_, rfl, rfl⟩, ⟨⟨_, rfl, rfl⟩, ⟨⟨_, rfl, rfl⟩, ⟨⟨_, rfl, rfl⟩, ⟨⟨_, rfl, rfl⟩, trivial⟩⟩⟩⟩⟩) (⟨⟨_, rfl, rfl⟩, trivial⟩) trivial) ?_
      refine awp_region ?_
      refine al_pure rfl rfl rfl (pure_arith rfl rfl (fun _ => rfl) (fun _ => rfl) rfl (IntWalk.i64_in _ (by omega))) ?_
      refine al_pure rfl rfl rfl (pure_move rfl (fun _ => rfl)) ?_
      refine al_nil ?_
      refine ⟨k + 1, ?_, ?_, sub_mk (⟨⟨_, rfl, ?_⟩, ⟨⟨_, rfl, rfl⟩, ⟨⟨_, rfl, rfl⟩, ⟨⟨_, rfl, rfl⟩, ⟨⟨_, rfl, rfl⟩, trivial⟩⟩⟩⟩⟩) (⟨⟨_, rfl, ?_⟩, trivial⟩) trivial⟩
      all_goals (first | rfl | omega | exact ⟨by omega, by omega, hi⟩ | exact rc_eq' (by omega) rfl)
  · try simp only [n1, n2, n3, n4, n5, n6, n7, n8, n9, n10, n11, n12, n13, n14, n15, n16, Fd.rows_len, Fm.rows_len, V.rows_len] at hc
    rw [List.drop_of_length_le (by omega), tagP] at hi
    rw [← hi]
    refine awp_exit ?_
    repeat (first | refine thenS_exit ?_ | refine blockS_hit ?_ | refine blockS_miss rfl ?_)
    refine retn_ok rfl ?_ (⟨⟨_, rfl, ?_⟩, trivial⟩)
    · rfl
    · rfl
end Go.Proofs.Ytgjclggjkhapfaa
/- Contracts: reading fields and formats, as codec does. -/
set_option linter.unusedVariables false
set_option linter.unusedSimpArgs false
namespace Go.Proofs.Ytgjclggjkhapfaa
open Go Go.Abs
theorem tagP_v {s : List UInt8} {e : Nat} : ∀ {l : List UInt8} {a : Nat}, (tagP s e l a).v = v0
  | [], a => rfl
  | c :: l, a => by
    rw [tagP]; split
    · rfl
    · exact tagP_v
theorem takeP_v (s : List UInt8) (a n e : Nat) : (takeP s a n e).v = bv (takeP s a n e).v.bytes := by
  unfold takeP; split <;> rfl
theorem xv_eq {u v : V} (h : u = v) : xv u = xv v := by rw [h]
theorem numP_cases (s : List UInt8) (a e : Nat) (low high : Int) : (e ≤ a ∧ numP s a e low high = (0, e, false)) ∨ (a < e ∧ (((s.getD a 0).toNat : Int) < low ∨ high < (s.getD a 0).toNat) ∧ numP s a e low high = (0, a, false)) ∨
    (a < e ∧ ¬ (((s.getD a 0).toNat : Int) < low ∨ high < (s.getD a 0).toNat) ∧ numP s a e low high = (((s.getD a 0).toNat : Int), a + 1, true)) := by
  by_cases h1 : e ≤ a
  · exact .inl ⟨h1, by rw [numP, if_pos h1]⟩
  · by_cases h2 : ((s.getD a 0).toNat : Int) < low ∨ high < (s.getD a 0).toNat
    · exact .inr (.inl ⟨by omega, h2, by rw [numP, if_neg h1, if_pos h2]⟩)
    · exact .inr (.inr ⟨by omega, h2, by rw [numP, if_neg h1, if_neg h2]⟩)
theorem cnest_gen (t : List Fm) (i : Int) (s : List UInt8) (a e : Nat) (ai ei : Int) (rec : Int → Nat → Nat → Pl) (ha : ai = a) (he : ei = e) (h1 : a ≤ e) (h2 : e ≤ s.length) (hs : s.length ≤ 100000)
    (hle : ∀ b c, b ≤ c → b ≤ (rec i b c).p ∧ (rec i b c).p ≤ c)
    (hrec : ∀ b c, b ≤ c → c ≤ s.length → ∀ bi ci : Int, bi = b → ci = c → Ctr sys 41 [pp, xi i, xi ci, xb false] [rc t s bi false] (xv (rec i b c).v) none [rc t s (rec i b c).p (!(rec i b c).ok)]) :
    Ctr sys 89 [pp, xi i, xi ei] [rc t s ai false] (xv (nestP true rec t i s a e).v) none [rc t s (nestP true rec t i s a e).p (!(nestP true rec t i s a e).ok)] := by
  subst ha; subst he
  have hu := u8_lt' (s.getD a 0)
  have hN := cnum_spec t s a e _ _ (boundsE t i).1 (boundsE t i).2.1 rfl rfl h1 h2 hs
  refine spec_intro Try.func89 rfl rfl rfl rfl rfl rfl ?_
  rcases numP_cases s a e (boundsE t i).1 (boundsE t i).2.1 with ⟨q1, q2⟩ | ⟨q1, q3, q2⟩ | ⟨q1, q3, q2⟩
  · rw [q2] at hN; dsimp only at hN
    rw [nestP, if_pos q1]
    refine awp_seq ?_
    refine awp_region ?_
    refine al_do rfl (does_alloc rfl rfl rfl) ?_
    refine al_nil ?_
    refine awp_seq ?_
    refine awp_region ?_
    refine al_pure rfl rfl rfl (pure_move rfl (fun _ => rfl)) ?_
    refine al_pure rfl rfl rfl (pure_nilCheck rfl (fun _ => rfl)) ?_
    refine al_pure rfl rfl rfl (pure_fieldPtr rfl (fun _ => rfl) rfl rfl) ?_
    refine al_pure rfl rfl rfl (pure_loadBox rfl (fun _ => rfl) rfl rfl rfl rfl) ?_
    refine al_pure rfl rfl rfl (pure_move rfl (fun _ => rfl)) ?_
    refine al_call rfl rfl rfl rfl rfl rfl (fun _ => rfl) (fun _ => rfl) (fBounds_spec _ _) rfl ?_
    refine al_pure rfl rfl rfl (pure_move rfl (fun _ => rfl)) ?_
    refine al_pure rfl rfl rfl (pure_extract rfl (fun _ => rfl) rfl) ?_
    refine al_pure rfl rfl rfl (pure_extract rfl (fun _ => rfl) rfl) ?_
    refine al_pure rfl rfl rfl (pure_extract rfl (fun _ => rfl) rfl) ?_
    refine al_pure rfl rfl rfl (pure_assign rfl (fun _ => rfl)) ?_
    refine al_sub (s := { t := [(0, _, _), (1, _, _), (2, _, _), (6, _, _), (7, _, _), (21, _, _), (22, _, _)], bx := [((.l 6), _), ((.o 0), _)], ow := [] }) (sub_mk (⟨⟨_, rfl, rfl⟩, ⟨⟨_, rfl, rfl⟩, ⟨⟨_, rfl, rfl⟩, ⟨⟨_, rfl, rfl⟩, ⟨⟨_, rfl, rfl⟩, ⟨⟨_, rfl, rfl⟩, ⟨⟨_, rfl, rfl⟩, trivial⟩⟩⟩⟩⟩⟩⟩) (⟨⟨_, rfl, rfl⟩, ⟨⟨_, rfl, rfl⟩, trivial⟩⟩) trivial) ?_
    refine al_pure rfl rfl rfl (pure_assign rfl (fun _ => rfl)) ?_
    refine al_pure rfl rfl rfl (pure_assign rfl (fun _ => rfl)) ?_
    refine al_nil ?_
    refine awp_seq ?_
    refine awp_region ?_
    refine al_pure rfl rfl rfl (pure_move rfl (fun _ => rfl)) ?_
    refine al_pure rfl rfl rfl (pure_move rfl (fun _ => rfl)) ?_
    refine al_pure rfl rfl rfl (pure_move rfl (fun _ => rfl)) ?_
    refine al_pure rfl rfl rfl (pure_move rfl (fun _ => rfl)) ?_
    refine al_callB1 (.o 0) rfl rfl rfl rfl rfl rfl (hN) rfl (by rfl) (by rfl) rfl rfl rfl ?_
    refine al_pure rfl rfl rfl (pure_assign rfl (fun _ => rfl)) ?_
    refine al_nil ?_
    refine awp_sub (s := { t := [(0, _, _), (1, _, _), (2, _, _), (6, _, _), (10, _, _)], bx := [((.l 6), _), ((.o 0), _)], ow := [] }) (sub_mk (⟨⟨_, rfl, rfl⟩, ⟨⟨_, rfl, rfl⟩, ⟨⟨_, rfl, rfl⟩, ⟨⟨_, rfl, rfl⟩, ⟨⟨_, rfl, rfl⟩, trivial⟩⟩⟩⟩⟩) (⟨⟨_, rfl, rfl⟩, ⟨⟨_, rfl, rfl⟩, trivial⟩⟩) trivial) ?_
    refine awp_seq ?_
    refine awp_seq ?_
    refine awp_region ?_
    refine al_pure rfl rfl rfl (pure_move rfl (fun _ => rfl)) ?_
    refine al_pure rfl rfl rfl (pure_nilCheck rfl (fun _ => rfl)) ?_
    refine al_pure rfl rfl rfl (pure_fieldPtr rfl (fun _ => rfl) rfl rfl) ?_
    refine al_pure rfl rfl rfl (pure_loadBox rfl (fun _ => rfl) rfl rfl rfl rfl) ?_
    refine al_nil ?_
    refine awp_cond rfl (fun hc => ?_) (fun hc => ?_)
    · try simp only [n1, n2, n3, n4, n5, n6, n7, n8, n9, n10, n11, n12, n13, n14, n15, n16, Fd.rows_len, Fm.rows_len, V.rows_len] at hc
      refine awp_seq ?_
      refine awp_region ?_
      refine al_pure rfl rfl rfl (pure_build rfl Try.underlying25 rfl (fun _ => rfl)) ?_
      refine al_do rfl (does_store rfl rfl rfl rfl rfl rfl rfl) ?_
      refine al_nil ?_
      refine awp_ret ?_
      repeat (first | refine thenS_ret ?_ | refine blockS_ret ?_)
      refine ret_ok rfl ?_ (⟨⟨_, rfl, ?_⟩, trivial⟩)
      · rfl
      · rfl
    · simp at hc
  · rw [q2] at hN; dsimp only at hN
    rw [nestP, if_neg (by omega), if_pos q3]
    refine awp_seq ?_
    refine awp_region ?_
    refine al_do rfl (does_alloc rfl rfl rfl) ?_
    refine al_nil ?_
    refine awp_seq ?_
    refine awp_region ?_
    refine al_pure rfl rfl rfl (pure_move rfl (fun _ => rfl)) ?_
    refine al_pure rfl rfl rfl (pure_nilCheck rfl (fun _ => rfl)) ?_
    refine al_pure rfl rfl rfl (pure_fieldPtr rfl (fun _ => rfl) rfl rfl) ?_
    refine al_pure rfl rfl rfl (pure_loadBox rfl (fun _ => rfl) rfl rfl rfl rfl) ?_
    refine al_pure rfl rfl rfl (pure_move rfl (fun _ => rfl)) ?_
    refine al_call rfl rfl rfl rfl rfl rfl (fun _ => rfl) (fun _ => rfl) (fBounds_spec _ _) rfl ?_
    refine al_pure rfl rfl rfl (pure_move rfl (fun _ => rfl)) ?_
    refine al_pure rfl rfl rfl (pure_extract rfl (fun _ => rfl) rfl) ?_
    refine al_pure rfl rfl rfl (pure_extract rfl (fun _ => rfl) rfl) ?_
    refine al_pure rfl rfl rfl (pure_extract rfl (fun _ => rfl) rfl) ?_
    refine al_pure rfl rfl rfl (pure_assign rfl (fun _ => rfl)) ?_
    refine al_sub (s := { t := [(0, _, _), (1, _, _), (2, _, _), (6, _, _), (7, _, _), (21, _, _), (22, _, _)], bx := [((.l 6), _), ((.o 0), _)], ow := [] }) (sub_mk (⟨⟨_, rfl, rfl⟩, ⟨⟨_, rfl, rfl⟩, ⟨⟨_, rfl, rfl⟩, ⟨⟨_, rfl, rfl⟩, ⟨⟨_, rfl, rfl⟩, ⟨⟨_, rfl, rfl⟩, ⟨⟨_, rfl, rfl⟩, trivial⟩⟩⟩⟩⟩⟩⟩) (⟨⟨_, rfl, rfl⟩, ⟨⟨_, rfl, rfl⟩, trivial⟩⟩) trivial) ?_
    refine al_pure rfl rfl rfl (pure_assign rfl (fun _ => rfl)) ?_
    refine al_pure rfl rfl rfl (pure_assign rfl (fun _ => rfl)) ?_
    refine al_nil ?_
    refine awp_seq ?_
    refine awp_region ?_
    refine al_pure rfl rfl rfl (pure_move rfl (fun _ => rfl)) ?_
    refine al_pure rfl rfl rfl (pure_move rfl (fun _ => rfl)) ?_
    refine al_pure rfl rfl rfl (pure_move rfl (fun _ => rfl)) ?_
    refine al_pure rfl rfl rfl (pure_move rfl (fun _ => rfl)) ?_
    refine al_callB1 (.o 0) rfl rfl rfl rfl rfl rfl (hN) rfl (by rfl) (by rfl) rfl rfl rfl ?_
    refine al_pure rfl rfl rfl (pure_assign rfl (fun _ => rfl)) ?_
    refine al_nil ?_
    refine awp_sub (s := { t := [(0, _, _), (1, _, _), (2, _, _), (6, _, _), (10, _, _)], bx := [((.l 6), _), ((.o 0), _)], ow := [] }) (sub_mk (⟨⟨_, rfl, rfl⟩, ⟨⟨_, rfl, rfl⟩, ⟨⟨_, rfl, rfl⟩, ⟨⟨_, rfl, rfl⟩, ⟨⟨_, rfl, rfl⟩, trivial⟩⟩⟩⟩⟩) (⟨⟨_, rfl, rfl⟩, ⟨⟨_, rfl, rfl⟩, trivial⟩⟩) trivial) ?_
    refine awp_seq ?_
    refine awp_seq ?_
    refine awp_region ?_
    refine al_pure rfl rfl rfl (pure_move rfl (fun _ => rfl)) ?_
    refine al_pure rfl rfl rfl (pure_nilCheck rfl (fun _ => rfl)) ?_
    refine al_pure rfl rfl rfl (pure_fieldPtr rfl (fun _ => rfl) rfl rfl) ?_
    refine al_pure rfl rfl rfl (pure_loadBox rfl (fun _ => rfl) rfl rfl rfl rfl) ?_
    refine al_nil ?_
    refine awp_cond rfl (fun hc => ?_) (fun hc => ?_)
    · try simp only [n1, n2, n3, n4, n5, n6, n7, n8, n9, n10, n11, n12, n13, n14, n15, n16, Fd.rows_len, Fm.rows_len, V.rows_len] at hc
      refine awp_seq ?_
      refine awp_region ?_
      refine al_pure rfl rfl rfl (pure_build rfl Try.underlying25 rfl (fun _ => rfl)) ?_
      refine al_do rfl (does_store rfl rfl rfl rfl rfl rfl rfl) ?_
      refine al_nil ?_
      refine awp_ret ?_
      repeat (first | refine thenS_ret ?_ | refine blockS_ret ?_)
      refine ret_ok rfl ?_ (⟨⟨_, rfl, ?_⟩, trivial⟩)
      · rfl
      · rfl
    · simp at hc
  · rw [q2] at hN; dsimp only at hN
    rw [nestP, if_neg (by omega), if_neg q3]
    refine awp_seq ?_
    refine awp_region ?_
    refine al_do rfl (does_alloc rfl rfl rfl) ?_
    refine al_nil ?_
    refine awp_seq ?_
    refine awp_region ?_
    refine al_pure rfl rfl rfl (pure_move rfl (fun _ => rfl)) ?_
    refine al_pure rfl rfl rfl (pure_nilCheck rfl (fun _ => rfl)) ?_
    refine al_pure rfl rfl rfl (pure_fieldPtr rfl (fun _ => rfl) rfl rfl) ?_
    refine al_pure rfl rfl rfl (pure_loadBox rfl (fun _ => rfl) rfl rfl rfl rfl) ?_
    refine al_pure rfl rfl rfl (pure_move rfl (fun _ => rfl)) ?_
    refine al_call rfl rfl rfl rfl rfl rfl (fun _ => rfl) (fun _ => rfl) (fBounds_spec _ _) rfl ?_
    refine al_pure rfl rfl rfl (pure_move rfl (fun _ => rfl)) ?_
    refine al_pure rfl rfl rfl (pure_extract rfl (fun _ => rfl) rfl) ?_
    refine al_pure rfl rfl rfl (pure_extract rfl (fun _ => rfl) rfl) ?_
    refine al_pure rfl rfl rfl (pure_extract rfl (fun _ => rfl) rfl) ?_
    refine al_pure rfl rfl rfl (pure_assign rfl (fun _ => rfl)) ?_
    refine al_sub (s := { t := [(0, _, _), (1, _, _), (2, _, _), (6, _, _), (7, _, _), (21, _, _), (22, _, _)], bx := [((.l 6), _), ((.o 0), _)], ow := [] }) (sub_mk (⟨⟨_, rfl, rfl⟩, ⟨⟨_, rfl, rfl⟩, ⟨⟨_, rfl, rfl⟩, ⟨⟨_, rfl, rfl⟩, ⟨⟨_, rfl, rfl⟩, ⟨⟨_, rfl, rfl⟩, ⟨⟨_, rfl, rfl⟩, trivial⟩⟩⟩⟩⟩⟩⟩) (⟨⟨_, rfl, rfl⟩, ⟨⟨_, rfl, rfl⟩, trivial⟩⟩) trivial) ?_
    refine al_pure rfl rfl rfl (pure_assign rfl (fun _ => rfl)) ?_
    refine al_pure rfl rfl rfl (pure_assign rfl (fun _ => rfl)) ?_
    refine al_nil ?_
    refine awp_seq ?_
    refine awp_region ?_
    refine al_pure rfl rfl rfl (pure_move rfl (fun _ => rfl)) ?_
    refine al_pure rfl rfl rfl (pure_move rfl (fun _ => rfl)) ?_
    refine al_pure rfl rfl rfl (pure_move rfl (fun _ => rfl)) ?_
    refine al_pure rfl rfl rfl (pure_move rfl (fun _ => rfl)) ?_
    refine al_callB1 (.o 0) rfl rfl rfl rfl rfl rfl (hN) rfl (by rfl) (by rfl) rfl rfl rfl ?_
    refine al_pure rfl rfl rfl (pure_assign rfl (fun _ => rfl)) ?_
    refine al_nil ?_
    refine awp_sub (s := { t := [(0, _, _), (1, _, _), (2, _, _), (6, _, _), (10, _, _)], bx := [((.l 6), _), ((.o 0), _)], ow := [] }) (sub_mk (⟨⟨_, rfl, rfl⟩, ⟨⟨_, rfl, rfl⟩, ⟨⟨_, rfl, rfl⟩, ⟨⟨_, rfl, rfl⟩, ⟨⟨_, rfl, rfl⟩, trivial⟩⟩⟩⟩⟩) (⟨⟨_, rfl, rfl⟩, ⟨⟨_, rfl, rfl⟩, trivial⟩⟩) trivial) ?_
    refine awp_seq ?_
    refine awp_seq ?_
    refine awp_region ?_
    refine al_pure rfl rfl rfl (pure_move rfl (fun _ => rfl)) ?_
    refine al_pure rfl rfl rfl (pure_nilCheck rfl (fun _ => rfl)) ?_
    refine al_pure rfl rfl rfl (pure_fieldPtr rfl (fun _ => rfl) rfl rfl) ?_
    refine al_pure rfl rfl rfl (pure_loadBox rfl (fun _ => rfl) rfl rfl rfl rfl) ?_
    refine al_nil ?_
    refine awp_cond rfl (fun hc => ?_) (fun hc => ?_)
    · simp at hc
    · try simp only [n1, n2, n3, n4, n5, n6, n7, n8, n9, n10, n11, n12, n13, n14, n15, n16, Fd.rows_len, Fm.rows_len, V.rows_len] at hc
      refine awp_skip ?_
      refine awp_seq ?_
      refine awp_seq ?_
      refine awp_region ?_
      refine al_pure rfl rfl rfl (pure_move rfl (fun _ => rfl)) ?_
      refine al_pure rfl rfl rfl (pure_move rfl (fun _ => rfl)) ?_
      refine al_pure rfl rfl rfl (pure_move rfl (fun _ => rfl)) ?_
      refine al_pure rfl rfl rfl (pure_nilCheck rfl (fun _ => rfl)) ?_
      refine al_pure rfl rfl rfl (pure_fieldPtr rfl (fun _ => rfl) rfl rfl) ?_
      refine al_pure rfl rfl rfl (pure_loadBox rfl (fun _ => rfl) rfl rfl rfl rfl) ?_
      refine al_pure rfl rfl rfl (pure_arith rfl rfl (fun _ => rfl) (fun _ => rfl) rfl (IntWalk.i64_in _ (by omega))) ?_
      refine al_pure rfl rfl rfl (pure_cmp rfl rfl (fun _ => rfl) (fun _ => rfl) rfl) ?_
      refine al_nil ?_
      refine awp_sub (s := { t := [(0, _, _), (1, _, _), (2, _, _), (6, _, _), (10, _, _), (40, _, _)], bx := [((.l 6), _), ((.o 0), _)], ow := [] }) (sub_mk (⟨⟨_, rfl, rfl⟩, ⟨⟨_, rfl, rfl⟩, ⟨⟨_, rfl, rfl⟩, ⟨⟨_, rfl, rfl⟩, ⟨⟨_, rfl, rfl⟩, ⟨⟨_, rfl, rfl⟩, trivial⟩⟩⟩⟩⟩⟩) (⟨⟨_, rfl, rfl⟩, ⟨⟨_, rfl, rfl⟩, trivial⟩⟩) trivial) ?_
      refine awp_cond rfl (fun hc2 => ?_) (fun hc2 => ?_)
      · try simp only [n1, n2, n3, n4, n5, n6, n7, n8, n9, n10, n11, n12, n13, n14, n15, n16, Fd.rows_len, Fm.rows_len, V.rows_len] at hc2
        rw [if_pos (by omega)]
        refine awp_seq ?_
        refine awp_region ?_
        refine al_pure rfl rfl rfl (pure_move rfl (fun _ => rfl)) ?_
        refine al_pure rfl rfl rfl (pure_move rfl (fun _ => rfl)) ?_
        refine al_callB1 (.o 0) rfl rfl rfl rfl rfl rfl (cfail_spec _ _ _ _ _) rfl (by rfl) (by rfl) rfl rfl rfl ?_
        refine al_nil ?_
        refine awp_seq ?_
        refine awp_region ?_
        refine al_pure rfl rfl rfl (pure_build rfl Try.underlying25 rfl (fun _ => rfl)) ?_
        refine al_do rfl (does_store rfl rfl rfl rfl rfl rfl rfl) ?_
        refine al_nil ?_
        refine awp_ret ?_
        repeat (first | refine thenS_ret ?_ | refine blockS_ret ?_)
        refine ret_ok rfl ?_ (⟨⟨_, rfl, ?_⟩, trivial⟩)
        · rfl
        · rfl
      · try simp only [n1, n2, n3, n4, n5, n6, n7, n8, n9, n10, n11, n12, n13, n14, n15, n16, Fd.rows_len, Fm.rows_len, V.rows_len] at hc2
        rw [if_neg (by omega)]
        have hpl := hle (a + 1) (a + 1 + (s.getD a 0).toNat) (by omega)
        refine awp_skip ?_
        refine awp_seq ?_
        refine awp_region ?_
        refine al_pure rfl rfl rfl (pure_move rfl (fun _ => rfl)) ?_
        refine al_pure rfl rfl rfl (pure_nilCheck rfl (fun _ => rfl)) ?_
        refine al_pure rfl rfl rfl (pure_fieldPtr rfl (fun _ => rfl) rfl rfl) ?_
        refine al_pure rfl rfl rfl (pure_loadBox rfl (fun _ => rfl) rfl rfl rfl rfl) ?_
        refine al_pure rfl rfl rfl (pure_move rfl (fun _ => rfl)) ?_
        refine al_pure rfl rfl rfl (pure_arith rfl rfl (fun _ => rfl) (fun _ => rfl) rfl (IntWalk.i64_in _ (by omega))) ?_
        refine al_pure rfl rfl rfl (pure_assign rfl (fun _ => rfl)) ?_
        refine al_nil ?_
        refine awp_sub (s := { t := [(0, _, _), (1, _, _), (6, _, _), (11, _, _)], bx := [((.l 6), _), ((.o 0), _)], ow := [] }) (sub_mk (⟨⟨_, rfl, rfl⟩, ⟨⟨_, rfl, rfl⟩, ⟨⟨_, rfl, rfl⟩, ⟨⟨_, rfl, rfl⟩, trivial⟩⟩⟩⟩) (⟨⟨_, rfl, rfl⟩, ⟨⟨_, rfl, rfl⟩, trivial⟩⟩) trivial) ?_
        refine awp_seq ?_
        refine awp_region ?_
        refine al_pure rfl rfl rfl (pure_move rfl (fun _ => rfl)) ?_
        refine al_pure rfl rfl rfl (pure_move rfl (fun _ => rfl)) ?_
        refine al_pure rfl rfl rfl (pure_move rfl (fun _ => rfl)) ?_
        refine al_callB1 (.o 0) rfl rfl rfl rfl rfl rfl (hrec (a + 1) (a + 1 + (s.getD a 0).toNat) (by omega) (by omega) _ (((a + 1 : Nat) : Int) + ((s.getD a 0).toNat : Int)) rfl (by omega)) rfl (by rfl) (by rfl) rfl rfl rfl ?_
        refine al_do rfl (does_alloc rfl rfl rfl) ?_
        refine al_do rfl (does_store rfl rfl rfl rfl rfl rfl rfl) ?_
        refine al_nil ?_
        refine awp_sub (s := { t := [(0, _, _), (6, _, _), (11, _, _), (12, _, _)], bx := [((.l 12), _), ((.l 6), _), ((.o 0), _)], ow := [] }) (sub_mk (⟨⟨_, rfl, rfl⟩, ⟨⟨_, rfl, rfl⟩, ⟨⟨_, rfl, rfl⟩, ⟨⟨_, rfl, rfl⟩, trivial⟩⟩⟩⟩) (⟨⟨_, rfl, rfl⟩, ⟨⟨_, rfl, rfl⟩, ⟨⟨_, rfl, rfl⟩, trivial⟩⟩⟩) trivial) ?_
        refine awp_seq ?_
        refine awp_seq ?_
        refine awp_region ?_
        refine al_pure rfl rfl rfl (pure_move rfl (fun _ => rfl)) ?_
        refine al_pure rfl rfl rfl (pure_nilCheck rfl (fun _ => rfl)) ?_
        refine al_pure rfl rfl rfl (pure_fieldPtr rfl (fun _ => rfl) rfl rfl) ?_
        refine al_pure rfl rfl rfl (pure_loadBox rfl (fun _ => rfl) rfl rfl rfl rfl) ?_
        refine al_pure rfl rfl rfl (pure_not rfl (fun _ => rfl)) ?_
        refine al_pure rfl rfl rfl (pure_move rfl (fun _ => rfl)) ?_
        refine al_pure rfl rfl rfl (pure_move rfl (fun _ => rfl)) ?_
        refine al_pure rfl rfl rfl (pure_nilCheck rfl (fun hh => hh)) ?_
        refine al_pure rfl rfl rfl (pure_fieldPtr rfl (fun hh => hh) rfl rfl) ?_
        refine al_pure rfl rfl rfl (pure_loadBox rfl (fun hh => hh) rfl rfl rfl rfl) ?_
        refine al_pure rfl rfl rfl (pure_move rfl (fun _ => rfl)) ?_
        refine al_pure rfl rfl rfl (pure_cmp rfl rfl (fun hh => hh) (fun hh => hh) rfl) ?_
        refine al_sub (s := { t := [(0, _, _), (6, _, _), (12, _, _), (60, _, _), (66, _, _)], bx := [((.l 12), _), ((.l 6), _), ((.o 0), _)], ow := [] }) (sub_mk (⟨⟨_, rfl, rfl⟩, ⟨⟨_, rfl, rfl⟩, ⟨⟨_, rfl, rfl⟩, ⟨⟨_, rfl, rfl⟩, ⟨⟨_, rfl, rfl⟩, trivial⟩⟩⟩⟩⟩) (⟨⟨_, rfl, rfl⟩, ⟨⟨_, rfl, rfl⟩, ⟨⟨_, rfl, rfl⟩, trivial⟩⟩⟩) trivial) ?_
        refine al_pure rfl rfl rfl (pure_and rfl rfl (fun _ => rfl) (fun _ hi => gP rfl hi)) ?_
        refine al_nil ?_
        refine awp_cond rfl (fun hc3 => ?_) (fun hc3 => ?_)
        · try simp only [n1, n2, n3, n4, n5, n6, n7, n8, n9, n10, n11, n12, n13, n14, n15, n16, Fd.rows_len, Fm.rows_len, V.rows_len] at hc3
          rw [if_pos ⟨hc3.1, by omega⟩]
          refine awp_region ?_
          refine al_pure rfl rfl rfl (pure_move rfl (fun _ => rfl)) ?_
          refine al_pure rfl rfl rfl (pure_move rfl (fun _ => rfl)) ?_
          refine al_pure rfl rfl rfl (pure_nilCheck rfl (fun _ => rfl)) ?_
          refine al_pure rfl rfl rfl (pure_fieldPtr rfl (fun _ => rfl) rfl rfl) ?_
          refine al_pure rfl rfl rfl (pure_loadBox rfl (fun _ => rfl) rfl rfl rfl rfl) ?_
          refine al_callB1 (.o 0) rfl rfl rfl rfl rfl rfl (cfail_spec _ _ _ _ _) rfl (by rfl) (by rfl) rfl rfl rfl ?_
          refine al_nil ?_
          refine awp_sub (s := { t := [(6, _, _), (12, _, _)], bx := [((.l 12), _), ((.l 6), _), ((.o 0), _)], ow := [] }) (sub_mk (⟨⟨_, rfl, rfl⟩, ⟨⟨_, rfl, rfl⟩, trivial⟩⟩) (⟨⟨_, rfl, rfl⟩, ⟨⟨_, rfl, rfl⟩, ⟨⟨_, rfl, rfl⟩, trivial⟩⟩⟩) trivial) ?_
          refine awp_seq ?_
          refine awp_region ?_
          refine al_pure rfl rfl rfl (pure_loadBoxRow rfl (fun _ => rfl) rfl rfl rfl rfl rfl) ?_
          refine al_do rfl (does_store rfl rfl rfl rfl rfl rfl rfl) ?_
          refine al_nil ?_
          refine awp_ret ?_
          repeat (first | refine thenS_ret ?_ | refine blockS_ret ?_)
          refine ret_ok rfl ?_ (⟨⟨_, rfl, ?_⟩, trivial⟩)
          · rfl
          · rfl
        · try simp only [n1, n2, n3, n4, n5, n6, n7, n8, n9, n10, n11, n12, n13, n14, n15, n16, Fd.rows_len, Fm.rows_len, V.rows_len] at hc3
          rw [if_neg (by intro hq; apply hc3.elim <;> simp_all <;> omega)]
          refine awp_skip ?_
          refine awp_seq ?_
          refine awp_region ?_
          refine al_pure rfl rfl rfl (pure_loadBoxRow rfl (fun _ => rfl) rfl rfl rfl rfl rfl) ?_
          refine al_do rfl (does_store rfl rfl rfl rfl rfl rfl rfl) ?_
          refine al_nil ?_
          refine awp_ret ?_
          repeat (first | refine thenS_ret ?_ | refine blockS_ret ?_)
          refine ret_ok rfl ?_ (⟨⟨_, rfl, ?_⟩, trivial⟩)
          · rfl
          · rfl
theorem cfield_rd (t : List Fm) (f : Fd) (s : List UInt8) (a e : Nat) (ai ei : Int) (pre : Bool) (rec : Int → Nat → Nat → Pl) (hf : FdOk f) (ha : ai = a) (he : ei = e) (h1 : a ≤ e) (h2 : e ≤ s.length) (hs : s.length ≤ 100000)
    (hle : f.kind = 5 → ∀ b c, b ≤ c → b ≤ (rec f.n b c).p ∧ (rec f.n b c).p ≤ c)
    (hrec : f.kind = 5 → ∀ b c, b ≤ c → c ≤ s.length → ∀ bi ci : Int, bi = b → ci = c → Ctr sys 41 [pp, xi f.n, xi ci, xb false] [rc t s bi false] (xv (rec f.n b c).v) none [rc t s (rec f.n b c).p (!(rec f.n b c).ok)]) :
    Ctr sys 62 [pp, xf f, xi ei, xb pre] [rc t s ai false] (xv (fldP true rec t f s a e pre).v) none [rc t s (fldP true rec t f s a e pre).p (!(fldP true rec t f s a e pre).ok)] := by
  subst ha; subst he
  obtain ⟨hk, hb, hn, hl, hh, hlh, _⟩ := hf
  have hu := u8_lt' (s.getD a 0)
  refine spec_intro Try.func62 rfl rfl rfl rfl rfl rfl ?_
  refine awp_seq ?_
  refine awp_region ?_
  refine al_do rfl (does_box rfl rfl rfl rfl) ?_
  refine al_do rfl (does_alloc rfl rfl rfl) ?_
  refine al_nil ?_
  refine awp_seq ?_
  refine awp_seq ?_
  refine awp_region ?_
  refine al_pure rfl rfl rfl (pure_fieldPtr rfl (fun _ => rfl) rfl rfl) ?_
  refine al_pure rfl rfl rfl (pure_loadBox rfl (fun _ => rfl) rfl rfl rfl rfl) ?_
  refine al_nil ?_
  refine awp_block ?_
  refine awp_seq ?_
  refine awp_region ?_
  refine al_pure rfl rfl rfl (pure_cmp rfl rfl (fun _ => rfl) (fun _ => rfl) rfl) ?_
  refine al_pure rfl rfl rfl (pure_assign rfl (fun _ => rfl)) ?_
  refine al_nil ?_
  refine awp_sub (s := { t := [(0, _, _), (2, _, _), (3, _, _), (5, _, _), (8, _, _), (12, _, _), (13, _, _)], bx := [((.l 5), _), ((.l 8), _), ((.o 0), _)], ow := [] }) (sub_mk (⟨⟨_, rfl, rfl⟩, ⟨⟨_, rfl, rfl⟩, ⟨⟨_, rfl, rfl⟩, ⟨⟨_, rfl, rfl⟩, ⟨⟨_, rfl, rfl⟩, ⟨⟨_, rfl, rfl⟩, ⟨⟨_, rfl, rfl⟩, trivial⟩⟩⟩⟩⟩⟩⟩) (⟨⟨_, rfl, rfl⟩, ⟨⟨_, rfl, rfl⟩, ⟨⟨_, rfl, rfl⟩, trivial⟩⟩⟩) trivial) ?_
  refine awp_cond rfl (fun hc => ?_) (fun hc => ?_)
  · try simp only [n1, n2, n3, n4, n5, n6, n7, n8, n9, n10, n11, n12, n13, n14, n15, n16, Fd.rows_len, Fm.rows_len, V.rows_len] at hc
    rw [fldP, if_pos hc]
    refine awp_region ?_
    refine al_pure rfl rfl rfl (pure_move rfl (fun _ => rfl)) ?_
    refine al_pure rfl rfl rfl (pure_fieldPtr rfl (fun _ => rfl) rfl rfl) ?_
    refine al_pure rfl rfl rfl (pure_loadBox rfl (fun _ => rfl) rfl rfl rfl rfl) ?_
    refine al_pure rfl rfl rfl (pure_move rfl (fun _ => rfl)) ?_
    refine al_callB1 (.o 0) rfl rfl rfl rfl rfl rfl (ctag_spec t s f.bytes a e _ _ rfl rfl h1 h2 hs (by omega)) rfl (by rfl) (by rfl) rfl rfl rfl ?_
    refine al_nil ?_
    refine awp_sub (s := { t := [(8, _, _)], bx := [((.l 8), _), ((.o 0), _)], ow := [] }) (sub_mk (⟨⟨_, rfl, rfl⟩, trivial⟩) (⟨⟨_, rfl, rfl⟩, ⟨⟨_, rfl, rfl⟩, trivial⟩⟩) trivial) ?_
    refine awp_seq ?_
    refine awp_region ?_
    refine al_pure rfl rfl rfl (pure_build rfl Try.underlying25 rfl (fun _ => rfl)) ?_
    refine al_do rfl (does_store rfl rfl rfl rfl rfl rfl rfl) ?_
    refine al_nil ?_
    refine awp_ret ?_
    repeat (first | refine thenS_ret ?_ | refine blockS_ret ?_)
    refine ret_ok rfl ?_ (⟨⟨_, rfl, ?_⟩, trivial⟩)
    · exact xv_eq tagP_v.symm
    · rfl
  · try simp only [n1, n2, n3, n4, n5, n6, n7, n8, n9, n10, n11, n12, n13, n14, n15, n16, Fd.rows_len, Fm.rows_len, V.rows_len] at hc
    rw [fldP, if_neg hc]
    refine awp_seq ?_
    refine awp_region ?_
    refine al_pure rfl rfl rfl (pure_cmp rfl rfl (fun _ => rfl) (fun _ => rfl) rfl) ?_
    refine al_pure rfl rfl rfl (pure_assign rfl (fun _ => rfl)) ?_
    refine al_nil ?_
    refine awp_cond rfl (fun hc2 => ?_) (fun hc2 => ?_)
    · try simp only [n1, n2, n3, n4, n5, n6, n7, n8, n9, n10, n11, n12, n13, n14, n15, n16, Fd.rows_len, Fm.rows_len, V.rows_len] at hc2
      rw [if_pos hc2]
      refine awp_seq ?_
      refine awp_region ?_
      refine al_pure rfl rfl rfl (pure_move rfl (fun _ => rfl)) ?_
      refine al_pure rfl rfl rfl (pure_fieldPtr rfl (fun _ => rfl) rfl rfl) ?_
      refine al_pure rfl rfl rfl (pure_loadBox rfl (fun _ => rfl) rfl rfl rfl rfl) ?_
      refine al_pure rfl rfl rfl (pure_move rfl (fun _ => rfl)) ?_
      refine al_callB1 (.o 0) rfl rfl rfl rfl rfl rfl (ctake_spec t s a f.n.toNat e _ f.n _ rfl (by omega) rfl h1 h2 hs (by omega)) rfl (by rfl) (by rfl) rfl rfl rfl ?_
      refine al_pure rfl rfl rfl (pure_build rfl Try.underlying25 rfl (fun _ => rfl)) ?_
      refine al_do rfl (does_store rfl rfl rfl rfl rfl rfl rfl) ?_
      refine al_nil ?_
      refine awp_ret ?_
      repeat (first | refine thenS_ret ?_ | refine blockS_ret ?_)
      refine ret_ok rfl ?_ (⟨⟨_, rfl, ?_⟩, trivial⟩)
      · exact xv_eq (takeP_v _ _ _ _).symm
      · rfl
    · try simp only [n1, n2, n3, n4, n5, n6, n7, n8, n9, n10, n11, n12, n13, n14, n15, n16, Fd.rows_len, Fm.rows_len, V.rows_len] at hc2
      rw [if_neg hc2]
      refine awp_seq ?_
      refine awp_region ?_
      refine al_pure rfl rfl rfl (pure_cmp rfl rfl (fun _ => rfl) (fun _ => rfl) rfl) ?_
      refine al_pure rfl rfl rfl (pure_assign rfl (fun _ => rfl)) ?_
      refine al_nil ?_
      refine awp_cond rfl (fun hc3 => ?_) (fun hc3 => ?_)
      · try simp only [n1, n2, n3, n4, n5, n6, n7, n8, n9, n10, n11, n12, n13, n14, n15, n16, Fd.rows_len, Fm.rows_len, V.rows_len] at hc3
        rw [if_pos hc3]
        have hN := cnum_spec t s a e _ _ 0 f.n rfl rfl h1 h2 hs
        rcases numP_cases s a e 0 f.n with ⟨q1, q2⟩ | ⟨q1, q3, q2⟩ | ⟨q1, q3, q2⟩
        · rw [q2] at hN; dsimp only at hN
          rw [if_pos q1]
          refine awp_seq ?_
          refine awp_region ?_
          refine al_pure rfl rfl rfl (pure_move rfl (fun _ => rfl)) ?_
          refine al_pure rfl rfl rfl (pure_fieldPtr rfl (fun _ => rfl) rfl rfl) ?_
          refine al_pure rfl rfl rfl (pure_loadBox rfl (fun _ => rfl) rfl rfl rfl rfl) ?_
          refine al_pure rfl rfl rfl (pure_move rfl (fun _ => rfl)) ?_
          refine al_callB1 (.o 0) rfl rfl rfl rfl rfl rfl (hN) rfl (by rfl) (by rfl) rfl rfl rfl ?_
          refine al_pure rfl rfl rfl (pure_assign rfl (fun _ => rfl)) ?_
          refine al_nil ?_
          refine awp_sub (s := { t := [(0, _, _), (2, _, _), (8, _, _), (9, _, _)], bx := [((.l 8), _), ((.o 0), _)], ow := [] }) (sub_mk (⟨⟨_, rfl, rfl⟩, ⟨⟨_, rfl, rfl⟩, ⟨⟨_, rfl, rfl⟩, ⟨⟨_, rfl, rfl⟩, trivial⟩⟩⟩⟩) (⟨⟨_, rfl, rfl⟩, ⟨⟨_, rfl, rfl⟩, trivial⟩⟩) trivial) ?_
          refine awp_seq ?_
          refine awp_region ?_
          refine al_pure rfl rfl rfl (pure_move rfl (fun _ => rfl)) ?_
          refine al_pure rfl rfl rfl (pure_nilCheck rfl (fun _ => rfl)) ?_
          refine al_pure rfl rfl rfl (pure_fieldPtr rfl (fun _ => rfl) rfl rfl) ?_
          refine al_pure rfl rfl rfl (pure_loadBox rfl (fun _ => rfl) rfl rfl rfl rfl) ?_
          refine al_pure rfl rfl rfl (pure_not rfl (fun _ => rfl)) ?_
          refine al_nil ?_
          refine awp_sub (s := { t := [(0, _, _), (2, _, _), (8, _, _), (9, _, _), (39, _, _)], bx := [((.l 8), _), ((.o 0), _)], ow := [] }) (sub_mk (⟨⟨_, rfl, rfl⟩, ⟨⟨_, rfl, rfl⟩, ⟨⟨_, rfl, rfl⟩, ⟨⟨_, rfl, rfl⟩, ⟨⟨_, rfl, rfl⟩, trivial⟩⟩⟩⟩⟩) (⟨⟨_, rfl, rfl⟩, ⟨⟨_, rfl, rfl⟩, trivial⟩⟩) trivial) ?_
          refine awp_cond rfl (fun hc4 => ?_) (fun hc4 => ?_)
          · simp at hc4
          · refine awp_skip ?_
            refine awp_seq ?_
            refine awp_region ?_
            refine al_pure rfl rfl rfl (pure_build rfl Try.underlying25 rfl (fun _ => rfl)) ?_
            refine al_do rfl (does_store rfl rfl rfl rfl rfl rfl rfl) ?_
            refine al_nil ?_
            refine awp_ret ?_
            repeat (first | refine thenS_ret ?_ | refine blockS_ret ?_)
            refine ret_ok rfl ?_ (⟨⟨_, rfl, ?_⟩, trivial⟩)
            · rfl
            · rfl
        · rw [q2] at hN; dsimp only at hN
          rw [if_neg (by omega), if_pos (by omega)]
          refine awp_seq ?_
          refine awp_region ?_
          refine al_pure rfl rfl rfl (pure_move rfl (fun _ => rfl)) ?_
          refine al_pure rfl rfl rfl (pure_fieldPtr rfl (fun _ => rfl) rfl rfl) ?_
          refine al_pure rfl rfl rfl (pure_loadBox rfl (fun _ => rfl) rfl rfl rfl rfl) ?_
          refine al_pure rfl rfl rfl (pure_move rfl (fun _ => rfl)) ?_
          refine al_callB1 (.o 0) rfl rfl rfl rfl rfl rfl (hN) rfl (by rfl) (by rfl) rfl rfl rfl ?_
          refine al_pure rfl rfl rfl (pure_assign rfl (fun _ => rfl)) ?_
          refine al_nil ?_
          refine awp_sub (s := { t := [(0, _, _), (2, _, _), (8, _, _), (9, _, _)], bx := [((.l 8), _), ((.o 0), _)], ow := [] }) (sub_mk (⟨⟨_, rfl, rfl⟩, ⟨⟨_, rfl, rfl⟩, ⟨⟨_, rfl, rfl⟩, ⟨⟨_, rfl, rfl⟩, trivial⟩⟩⟩⟩) (⟨⟨_, rfl, rfl⟩, ⟨⟨_, rfl, rfl⟩, trivial⟩⟩) trivial) ?_
          refine awp_seq ?_
          refine awp_region ?_
          refine al_pure rfl rfl rfl (pure_move rfl (fun _ => rfl)) ?_
          refine al_pure rfl rfl rfl (pure_nilCheck rfl (fun _ => rfl)) ?_
          refine al_pure rfl rfl rfl (pure_fieldPtr rfl (fun _ => rfl) rfl rfl) ?_
          refine al_pure rfl rfl rfl (pure_loadBox rfl (fun _ => rfl) rfl rfl rfl rfl) ?_
          refine al_pure rfl rfl rfl (pure_not rfl (fun _ => rfl)) ?_
          refine al_nil ?_
          refine awp_sub (s := { t := [(0, _, _), (2, _, _), (8, _, _), (9, _, _), (39, _, _)], bx := [((.l 8), _), ((.o 0), _)], ow := [] }) (sub_mk (⟨⟨_, rfl, rfl⟩, ⟨⟨_, rfl, rfl⟩, ⟨⟨_, rfl, rfl⟩, ⟨⟨_, rfl, rfl⟩, ⟨⟨_, rfl, rfl⟩, trivial⟩⟩⟩⟩⟩) (⟨⟨_, rfl, rfl⟩, ⟨⟨_, rfl, rfl⟩, trivial⟩⟩) trivial) ?_
          refine awp_cond rfl (fun hc4 => ?_) (fun hc4 => ?_)
          · simp at hc4
          · refine awp_skip ?_
            refine awp_seq ?_
            refine awp_region ?_
            refine al_pure rfl rfl rfl (pure_build rfl Try.underlying25 rfl (fun _ => rfl)) ?_
            refine al_do rfl (does_store rfl rfl rfl rfl rfl rfl rfl) ?_
            refine al_nil ?_
            refine awp_ret ?_
            repeat (first | refine thenS_ret ?_ | refine blockS_ret ?_)
            refine ret_ok rfl ?_ (⟨⟨_, rfl, ?_⟩, trivial⟩)
            · rfl
            · rfl
        · rw [q2] at hN; dsimp only at hN
          rw [if_neg (by omega), if_neg (by omega)]
          refine awp_seq ?_
          refine awp_region ?_
          refine al_pure rfl rfl rfl (pure_move rfl (fun _ => rfl)) ?_
          refine al_pure rfl rfl rfl (pure_fieldPtr rfl (fun _ => rfl) rfl rfl) ?_
          refine al_pure rfl rfl rfl (pure_loadBox rfl (fun _ => rfl) rfl rfl rfl rfl) ?_
          refine al_pure rfl rfl rfl (pure_move rfl (fun _ => rfl)) ?_
          refine al_callB1 (.o 0) rfl rfl rfl rfl rfl rfl (hN) rfl (by rfl) (by rfl) rfl rfl rfl ?_
          refine al_pure rfl rfl rfl (pure_assign rfl (fun _ => rfl)) ?_
          refine al_nil ?_
          refine awp_sub (s := { t := [(0, _, _), (2, _, _), (8, _, _), (9, _, _)], bx := [((.l 8), _), ((.o 0), _)], ow := [] }) (sub_mk (⟨⟨_, rfl, rfl⟩, ⟨⟨_, rfl, rfl⟩, ⟨⟨_, rfl, rfl⟩, ⟨⟨_, rfl, rfl⟩, trivial⟩⟩⟩⟩) (⟨⟨_, rfl, rfl⟩, ⟨⟨_, rfl, rfl⟩, trivial⟩⟩) trivial) ?_
          refine awp_seq ?_
          refine awp_region ?_
          refine al_pure rfl rfl rfl (pure_move rfl (fun _ => rfl)) ?_
          refine al_pure rfl rfl rfl (pure_nilCheck rfl (fun _ => rfl)) ?_
          refine al_pure rfl rfl rfl (pure_fieldPtr rfl (fun _ => rfl) rfl rfl) ?_
          refine al_pure rfl rfl rfl (pure_loadBox rfl (fun _ => rfl) rfl rfl rfl rfl) ?_
          refine al_pure rfl rfl rfl (pure_not rfl (fun _ => rfl)) ?_
          refine al_nil ?_
          refine awp_sub (s := { t := [(0, _, _), (2, _, _), (8, _, _), (9, _, _), (39, _, _)], bx := [((.l 8), _), ((.o 0), _)], ow := [] }) (sub_mk (⟨⟨_, rfl, rfl⟩, ⟨⟨_, rfl, rfl⟩, ⟨⟨_, rfl, rfl⟩, ⟨⟨_, rfl, rfl⟩, ⟨⟨_, rfl, rfl⟩, trivial⟩⟩⟩⟩⟩) (⟨⟨_, rfl, rfl⟩, ⟨⟨_, rfl, rfl⟩, trivial⟩⟩) trivial) ?_
          refine awp_cond rfl (fun hc4 => ?_) (fun hc4 => ?_)
          · skip
            refine awp_seq ?_
            refine awp_region ?_
            refine al_pure rfl rfl rfl (pure_move rfl (fun _ => rfl)) ?_
            refine al_pure rfl rfl rfl (pure_move rfl (fun _ => rfl)) ?_
            refine al_pure rfl rfl rfl (pure_move rfl (fun _ => rfl)) ?_
            refine al_callB1 (.o 0) rfl rfl rfl rfl rfl rfl (ctake_spec t s (a + 1) (s.getD a 0).toNat e _ _ _ rfl rfl rfl (by omega) h2 hs (by omega)) rfl (by rfl) (by rfl) rfl rfl rfl ?_
            refine al_pure rfl rfl rfl (pure_build rfl Try.underlying25 rfl (fun _ => rfl)) ?_
            refine al_do rfl (does_store rfl rfl rfl rfl rfl rfl rfl) ?_
            refine al_nil ?_
            refine awp_ret ?_
            repeat (first | refine thenS_ret ?_ | refine blockS_ret ?_)
            refine ret_ok rfl ?_ (⟨⟨_, rfl, ?_⟩, trivial⟩)
            · exact xv_eq (takeP_v _ _ _ _).symm
            · rfl
          · simp at hc4
      · try simp only [n1, n2, n3, n4, n5, n6, n7, n8, n9, n10, n11, n12, n13, n14, n15, n16, Fd.rows_len, Fm.rows_len, V.rows_len] at hc3
        rw [if_neg hc3]
        refine awp_seq ?_
        refine awp_region ?_
        refine al_pure rfl rfl rfl (pure_cmp rfl rfl (fun _ => rfl) (fun _ => rfl) rfl) ?_
        refine al_pure rfl rfl rfl (pure_assign rfl (fun _ => rfl)) ?_
        refine al_nil ?_
        refine awp_sub (s := { t := [(0, _, _), (2, _, _), (3, _, _), (5, _, _), (8, _, _), (12, _, _), (45, _, _)], bx := [((.l 5), _), ((.l 8), _), ((.o 0), _)], ow := [] }) (sub_mk (⟨⟨_, rfl, rfl⟩, ⟨⟨_, rfl, rfl⟩, ⟨⟨_, rfl, rfl⟩, ⟨⟨_, rfl, rfl⟩, ⟨⟨_, rfl, rfl⟩, ⟨⟨_, rfl, rfl⟩, ⟨⟨_, rfl, rfl⟩, trivial⟩⟩⟩⟩⟩⟩⟩) (⟨⟨_, rfl, rfl⟩, ⟨⟨_, rfl, rfl⟩, ⟨⟨_, rfl, rfl⟩, trivial⟩⟩⟩) trivial) ?_
        refine awp_cond rfl (fun hc5 => ?_) (fun hc5 => ?_)
        · try simp only [n1, n2, n3, n4, n5, n6, n7, n8, n9, n10, n11, n12, n13, n14, n15, n16, Fd.rows_len, Fm.rows_len, V.rows_len] at hc5
          rw [if_pos hc5]
          have hN := cnum_spec t s a e _ _ f.low f.high rfl rfl h1 h2 hs
          rcases numP_cases s a e f.low f.high with ⟨q1, q2⟩ | ⟨q1, q3, q2⟩ | ⟨q1, q3, q2⟩
          · rw [q2] at hN; dsimp only at hN
            rw [if_pos q1]
            refine awp_seq ?_
            refine awp_region ?_
            refine al_pure rfl rfl rfl (pure_move rfl (fun _ => rfl)) ?_
            refine al_pure rfl rfl rfl (pure_fieldPtr rfl (fun _ => rfl) rfl rfl) ?_
            refine al_pure rfl rfl rfl (pure_loadBox rfl (fun _ => rfl) rfl rfl rfl rfl) ?_
            refine al_pure rfl rfl rfl (pure_fieldPtr rfl (fun _ => rfl) rfl rfl) ?_
            refine al_pure rfl rfl rfl (pure_loadBox rfl (fun _ => rfl) rfl rfl rfl rfl) ?_
            refine al_pure rfl rfl rfl (pure_move rfl (fun _ => rfl)) ?_
            refine al_callB1 (.o 0) rfl rfl rfl rfl rfl rfl (hN) rfl (by rfl) (by rfl) rfl rfl rfl ?_
            refine al_pure rfl rfl rfl (pure_build rfl Try.underlying25 rfl (fun _ => rfl)) ?_
            refine al_do rfl (does_store rfl rfl rfl rfl rfl rfl rfl) ?_
            refine al_nil ?_
            refine awp_ret ?_
            repeat (first | refine thenS_ret ?_ | refine blockS_ret ?_)
            refine ret_ok rfl ?_ (⟨⟨_, rfl, ?_⟩, trivial⟩)
            · rfl
            · rfl
          · rw [q2] at hN; dsimp only at hN
            rw [if_neg (by omega), if_pos q3]
            refine awp_seq ?_
            refine awp_region ?_
            refine al_pure rfl rfl rfl (pure_move rfl (fun _ => rfl)) ?_
            refine al_pure rfl rfl rfl (pure_fieldPtr rfl (fun _ => rfl) rfl rfl) ?_
            refine al_pure rfl rfl rfl (pure_loadBox rfl (fun _ => rfl) rfl rfl rfl rfl) ?_
            refine al_pure rfl rfl rfl (pure_fieldPtr rfl (fun _ => rfl) rfl rfl) ?_
            refine al_pure rfl rfl rfl (pure_loadBox rfl (fun _ => rfl) rfl rfl rfl rfl) ?_
            refine al_pure rfl rfl rfl (pure_move rfl (fun _ => rfl)) ?_
            refine al_callB1 (.o 0) rfl rfl rfl rfl rfl rfl (hN) rfl (by rfl) (by rfl) rfl rfl rfl ?_
            refine al_pure rfl rfl rfl (pure_build rfl Try.underlying25 rfl (fun _ => rfl)) ?_
            refine al_do rfl (does_store rfl rfl rfl rfl rfl rfl rfl) ?_
            refine al_nil ?_
            refine awp_ret ?_
            repeat (first | refine thenS_ret ?_ | refine blockS_ret ?_)
            refine ret_ok rfl ?_ (⟨⟨_, rfl, ?_⟩, trivial⟩)
            · rfl
            · rfl
          · rw [q2] at hN; dsimp only at hN
            rw [if_neg (by omega), if_neg q3]
            refine awp_seq ?_
            refine awp_region ?_
            refine al_pure rfl rfl rfl (pure_move rfl (fun _ => rfl)) ?_
            refine al_pure rfl rfl rfl (pure_fieldPtr rfl (fun _ => rfl) rfl rfl) ?_
            refine al_pure rfl rfl rfl (pure_loadBox rfl (fun _ => rfl) rfl rfl rfl rfl) ?_
            refine al_pure rfl rfl rfl (pure_fieldPtr rfl (fun _ => rfl) rfl rfl) ?_
            refine al_pure rfl rfl rfl (pure_loadBox rfl (fun _ => rfl) rfl rfl rfl rfl) ?_
            refine al_pure rfl rfl rfl (pure_move rfl (fun _ => rfl)) ?_
            refine al_callB1 (.o 0) rfl rfl rfl rfl rfl rfl (hN) rfl (by rfl) (by rfl) rfl rfl rfl ?_
            refine al_pure rfl rfl rfl (pure_build rfl Try.underlying25 rfl (fun _ => rfl)) ?_
            refine al_do rfl (does_store rfl rfl rfl rfl rfl rfl rfl) ?_
            refine al_nil ?_
            refine awp_ret ?_
            repeat (first | refine thenS_ret ?_ | refine blockS_ret ?_)
            refine ret_ok rfl ?_ (⟨⟨_, rfl, ?_⟩, trivial⟩)
            · rfl
            · rfl
        · try simp only [n1, n2, n3, n4, n5, n6, n7, n8, n9, n10, n11, n12, n13, n14, n15, n16, Fd.rows_len, Fm.rows_len, V.rows_len] at hc5
          rw [if_neg hc5]
          refine awp_seq ?_
          refine awp_region ?_
          refine al_pure rfl rfl rfl (pure_cmp rfl rfl (fun _ => rfl) (fun _ => rfl) rfl) ?_
          refine al_pure rfl rfl rfl (pure_assign rfl (fun _ => rfl)) ?_
          refine al_nil ?_
          refine awp_cond rfl (fun hc6 => ?_) (fun hc6 => ?_)
          · try simp only [n1, n2, n3, n4, n5, n6, n7, n8, n9, n10, n11, n12, n13, n14, n15, n16, Fd.rows_len, Fm.rows_len, V.rows_len] at hc6
            rw [if_pos hc6]
            refine awp_seq ?_
            refine awp_region ?_
            refine al_pure rfl rfl rfl (pure_move rfl (fun _ => rfl)) ?_
            refine al_pure rfl rfl rfl (pure_fieldPtr rfl (fun _ => rfl) rfl rfl) ?_
            refine al_pure rfl rfl rfl (pure_loadBox rfl (fun _ => rfl) rfl rfl rfl rfl) ?_
            refine al_pure rfl rfl rfl (pure_move rfl (fun _ => rfl)) ?_
            refine al_callB1 (.o 0) rfl rfl rfl rfl rfl rfl (cnest_gen t f.n s a e _ _ rec rfl rfl h1 h2 hs (hle (by assumption)) (hrec (by assumption))) rfl (by rfl) (by rfl) rfl rfl rfl ?_
            refine al_do rfl (does_store rfl rfl rfl rfl rfl rfl rfl) ?_
            refine al_nil ?_
            refine awp_ret ?_
            repeat (first | refine thenS_ret ?_ | refine blockS_ret ?_)
            refine ret_ok rfl ?_ (⟨⟨_, rfl, ?_⟩, trivial⟩)
            · rfl
            · rfl
          · try simp only [n1, n2, n3, n4, n5, n6, n7, n8, n9, n10, n11, n12, n13, n14, n15, n16, Fd.rows_len, Fm.rows_len, V.rows_len] at hc6
            rw [if_neg hc6]
            refine awp_seq ?_
            refine awp_region ?_
            refine al_pure rfl rfl rfl (pure_cmp rfl rfl (fun _ => rfl) (fun _ => rfl) rfl) ?_
            refine al_pure rfl rfl rfl (pure_assign rfl (fun _ => rfl)) ?_
            refine al_nil ?_
            refine awp_cond rfl (fun hc7 => ?_) (fun hc7 => ?_)
            · try simp only [n1, n2, n3, n4, n5, n6, n7, n8, n9, n10, n11, n12, n13, n14, n15, n16, Fd.rows_len, Fm.rows_len, V.rows_len] at hc7
              refine awp_seq ?_
              refine awp_region ?_
              refine al_pure rfl rfl rfl (pure_move rfl (fun _ => rfl)) ?_
              refine al_pure rfl rfl rfl (pure_move rfl (fun _ => rfl)) ?_
              refine al_pure rfl rfl rfl (pure_nilCheck rfl (fun _ => rfl)) ?_
              refine al_pure rfl rfl rfl (pure_fieldPtr rfl (fun _ => rfl) rfl rfl) ?_
              refine al_pure rfl rfl rfl (pure_loadBox rfl (fun _ => rfl) rfl rfl rfl rfl) ?_
              refine al_pure rfl rfl rfl (pure_arith rfl rfl (fun _ => rfl) (fun _ => rfl) rfl (IntWalk.i64_in _ (by omega))) ?_
              refine al_pure rfl rfl rfl (pure_assign rfl (fun _ => rfl)) ?_
              refine al_nil ?_
              refine awp_sub (s := { t := [(0, _, _), (2, _, _), (3, _, _), (5, _, _), (8, _, _), (10, _, _)], bx := [((.l 5), _), ((.l 8), _), ((.o 0), _)], ow := [] }) (sub_mk (⟨⟨_, rfl, rfl⟩, ⟨⟨_, rfl, rfl⟩, ⟨⟨_, rfl, rfl⟩, ⟨⟨_, rfl, rfl⟩, ⟨⟨_, rfl, rfl⟩, ⟨⟨_, rfl, rfl⟩, trivial⟩⟩⟩⟩⟩⟩) (⟨⟨_, rfl, rfl⟩, ⟨⟨_, rfl, rfl⟩, ⟨⟨_, rfl, rfl⟩, trivial⟩⟩⟩) trivial) ?_
              refine awp_seq ?_
              refine awp_seq ?_
              refine awp_region ?_
              refine al_pure rfl rfl rfl (pure_move rfl (fun _ => rfl)) ?_
              refine al_nil ?_
              refine awp_cond rfl (fun hc8 => ?_) (fun hc8 => ?_)
              · try simp only [n1, n2, n3, n4, n5, n6, n7, n8, n9, n10, n11, n12, n13, n14, n15, n16, Fd.rows_len, Fm.rows_len, V.rows_len] at hc8
                subst hc8
                refine awp_region ?_
                refine al_pure rfl rfl rfl (pure_move rfl (fun _ => rfl)) ?_
                refine al_pure rfl rfl rfl (pure_fieldPtr rfl (fun _ => rfl) rfl rfl) ?_
                refine al_pure rfl rfl rfl (pure_loadBox rfl (fun _ => rfl) rfl rfl rfl rfl) ?_
                refine al_pure rfl rfl rfl (pure_min rfl rfl (fun _ => rfl) (fun _ => rfl)) ?_
                refine al_pure rfl rfl rfl (pure_assign rfl (fun _ => rfl)) ?_
                refine al_nil ?_
                refine awp_sub (s := { t := [(0, _, _), (2, _, _), (5, _, _), (8, _, _), (10, _, _)], bx := [((.l 5), _), ((.l 8), _), ((.o 0), _)], ow := [] }) (sub_mk (⟨⟨_, rfl, rfl⟩, ⟨⟨_, rfl, rfl⟩, ⟨⟨_, rfl, rfl⟩, ⟨⟨_, rfl, rfl⟩, ⟨⟨_, rfl, rfl⟩, trivial⟩⟩⟩⟩⟩) (⟨⟨_, rfl, rfl⟩, ⟨⟨_, rfl, rfl⟩, ⟨⟨_, rfl, rfl⟩, trivial⟩⟩⟩) trivial) ?_
                refine awp_block ?_
                refine awp_seq ?_
                refine awp_region ?_
                refine al_pure rfl rfl rfl (pure_move rfl (fun _ => rfl)) ?_
                refine al_pure rfl rfl rfl (pure_fieldPtr rfl (fun _ => rfl) rfl rfl) ?_
                refine al_pure rfl rfl rfl (pure_loadBox rfl (fun _ => rfl) rfl rfl rfl rfl) ?_
                refine al_pure rfl rfl rfl (pure_cmp rfl rfl (fun _ => rfl) (fun _ => rfl) rfl) ?_
                refine al_pure rfl rfl rfl (pure_assign rfl (fun _ => rfl)) ?_
                refine al_nil ?_
                refine awp_sub (s := { t := [(0, _, _), (2, _, _), (5, _, _), (8, _, _), (10, _, _), (80, _, _)], bx := [((.l 5), _), ((.l 8), _), ((.o 0), _)], ow := [] }) (sub_mk (⟨⟨_, rfl, rfl⟩, ⟨⟨_, rfl, rfl⟩, ⟨⟨_, rfl, rfl⟩, ⟨⟨_, rfl, rfl⟩, ⟨⟨_, rfl, rfl⟩, ⟨⟨_, rfl, rfl⟩, trivial⟩⟩⟩⟩⟩⟩) (⟨⟨_, rfl, rfl⟩, ⟨⟨_, rfl, rfl⟩, ⟨⟨_, rfl, rfl⟩, trivial⟩⟩⟩) trivial) ?_
                refine awp_cond rfl (fun hc9 => ?_) (fun hc9 => ?_)
                · try simp only [n1, n2, n3, n4, n5, n6, n7, n8, n9, n10, n11, n12, n13, n14, n15, n16, Fd.rows_len, Fm.rows_len, V.rows_len] at hc9
                  rw [if_pos (by omega)]
                  refine awp_region ?_
                  refine al_pure rfl rfl rfl (pure_move rfl (fun _ => rfl)) ?_
                  refine al_pure rfl rfl rfl (pure_move rfl (fun _ => rfl)) ?_
                  refine al_callB1 (.o 0) rfl rfl rfl rfl rfl rfl (cfail_spec _ _ _ _ _) rfl (by rfl) (by rfl) rfl rfl rfl ?_
                  refine al_nil ?_
                  refine awp_seq ?_
                  refine awp_region ?_
                  refine al_pure rfl rfl rfl (pure_build rfl Try.underlying25 rfl (fun _ => rfl)) ?_
                  refine al_do rfl (does_store rfl rfl rfl rfl rfl rfl rfl) ?_
                  refine al_nil ?_
                  refine awp_ret ?_
                  repeat (first | refine thenS_ret ?_ | refine blockS_ret ?_)
                  refine ret_ok rfl ?_ (⟨⟨_, rfl, ?_⟩, trivial⟩)
                  · rfl
                  · rfl
                · try simp only [n1, n2, n3, n4, n5, n6, n7, n8, n9, n10, n11, n12, n13, n14, n15, n16, Fd.rows_len, Fm.rows_len, V.rows_len] at hc9
                  refine awp_seq ?_
                  refine awp_region ?_
                  refine al_pure rfl rfl rfl (pure_move rfl (fun _ => rfl)) ?_
                  refine al_pure rfl rfl rfl (pure_fieldPtr rfl (fun _ => rfl) rfl rfl) ?_
                  refine al_pure rfl rfl rfl (pure_loadBox rfl (fun _ => rfl) rfl rfl rfl rfl) ?_
                  refine al_pure rfl rfl rfl (pure_cmp rfl rfl (fun _ => rfl) (fun _ => rfl) rfl) ?_
                  refine al_pure rfl rfl rfl (pure_assign rfl (fun _ => rfl)) ?_
                  refine al_nil ?_
                  refine awp_sub (s := { t := [(0, _, _), (2, _, _), (5, _, _), (8, _, _), (10, _, _), (88, _, _)], bx := [((.l 5), _), ((.l 8), _), ((.o 0), _)], ow := [] }) (sub_mk (⟨⟨_, rfl, rfl⟩, ⟨⟨_, rfl, rfl⟩, ⟨⟨_, rfl, rfl⟩, ⟨⟨_, rfl, rfl⟩, ⟨⟨_, rfl, rfl⟩, ⟨⟨_, rfl, rfl⟩, trivial⟩⟩⟩⟩⟩⟩) (⟨⟨_, rfl, rfl⟩, ⟨⟨_, rfl, rfl⟩, ⟨⟨_, rfl, rfl⟩, trivial⟩⟩⟩) trivial) ?_
                  refine awp_cond rfl (fun hc10 => ?_) (fun hc10 => ?_)
                  · exfalso
                    try simp only [n1, n2, n3, n4, n5, n6, n7, n8, n9, n10, n11, n12, n13, n14, n15, n16, Fd.rows_len, Fm.rows_len, V.rows_len] at hc10
                    omega
                  · rw [if_neg (by omega), if_neg (by simp)]
                    refine awp_seq ?_
                    refine awp_region ?_
                    refine al_pure rfl rfl rfl (pure_move rfl (fun _ => rfl)) ?_
                    refine al_pure rfl rfl rfl (pure_move rfl (fun _ => rfl)) ?_
                    refine al_pure rfl rfl rfl (pure_move rfl (fun _ => rfl)) ?_
                    refine al_callB1 (.o 0) rfl rfl rfl rfl rfl rfl (ctake_spec t s a (min (e - a) f.high.toNat) e _ (min ((e : Int) - (a : Int)) f.high) _ rfl (by omega) rfl h1 h2 hs (by omega)) rfl (by rfl) (by rfl) rfl rfl rfl ?_
                    refine al_pure rfl rfl rfl (pure_build rfl Try.underlying25 rfl (fun _ => rfl)) ?_
                    refine al_do rfl (does_store rfl rfl rfl rfl rfl rfl rfl) ?_
                    refine al_nil ?_
                    refine awp_ret ?_
                    repeat (first | refine thenS_ret ?_ | refine blockS_ret ?_)
                    refine ret_ok rfl ?_ (⟨⟨_, rfl, ?_⟩, trivial⟩)
                    · exact xv_eq (takeP_v _ _ _ _).symm
                    · rfl
              · try simp only [n1, n2, n3, n4, n5, n6, n7, n8, n9, n10, n11, n12, n13, n14, n15, n16, Fd.rows_len, Fm.rows_len, V.rows_len] at hc8
                subst hc8
                refine awp_skip ?_
                refine awp_block ?_
                refine awp_seq ?_
                refine awp_region ?_
                refine al_pure rfl rfl rfl (pure_move rfl (fun _ => rfl)) ?_
                refine al_pure rfl rfl rfl (pure_fieldPtr rfl (fun _ => rfl) rfl rfl) ?_
                refine al_pure rfl rfl rfl (pure_loadBox rfl (fun _ => rfl) rfl rfl rfl rfl) ?_
                refine al_pure rfl rfl rfl (pure_cmp rfl rfl (fun _ => rfl) (fun _ => rfl) rfl) ?_
                refine al_pure rfl rfl rfl (pure_assign rfl (fun _ => rfl)) ?_
                refine al_nil ?_
                refine awp_sub (s := { t := [(0, _, _), (2, _, _), (5, _, _), (8, _, _), (10, _, _), (80, _, _)], bx := [((.l 5), _), ((.l 8), _), ((.o 0), _)], ow := [] }) (sub_mk (⟨⟨_, rfl, rfl⟩, ⟨⟨_, rfl, rfl⟩, ⟨⟨_, rfl, rfl⟩, ⟨⟨_, rfl, rfl⟩, ⟨⟨_, rfl, rfl⟩, ⟨⟨_, rfl, rfl⟩, trivial⟩⟩⟩⟩⟩⟩) (⟨⟨_, rfl, rfl⟩, ⟨⟨_, rfl, rfl⟩, ⟨⟨_, rfl, rfl⟩, trivial⟩⟩⟩) trivial) ?_
                refine awp_cond rfl (fun hc9 => ?_) (fun hc9 => ?_)
                · try simp only [n1, n2, n3, n4, n5, n6, n7, n8, n9, n10, n11, n12, n13, n14, n15, n16, Fd.rows_len, Fm.rows_len, V.rows_len] at hc9
                  rw [if_pos (by omega)]
                  refine awp_region ?_
                  refine al_pure rfl rfl rfl (pure_move rfl (fun _ => rfl)) ?_
                  refine al_pure rfl rfl rfl (pure_move rfl (fun _ => rfl)) ?_
                  refine al_callB1 (.o 0) rfl rfl rfl rfl rfl rfl (cfail_spec _ _ _ _ _) rfl (by rfl) (by rfl) rfl rfl rfl ?_
                  refine al_nil ?_
                  refine awp_seq ?_
                  refine awp_region ?_
                  refine al_pure rfl rfl rfl (pure_build rfl Try.underlying25 rfl (fun _ => rfl)) ?_
                  refine al_do rfl (does_store rfl rfl rfl rfl rfl rfl rfl) ?_
                  refine al_nil ?_
                  refine awp_ret ?_
                  repeat (first | refine thenS_ret ?_ | refine blockS_ret ?_)
                  refine ret_ok rfl ?_ (⟨⟨_, rfl, ?_⟩, trivial⟩)
                  · rfl
                  · rfl
                · try simp only [n1, n2, n3, n4, n5, n6, n7, n8, n9, n10, n11, n12, n13, n14, n15, n16, Fd.rows_len, Fm.rows_len, V.rows_len] at hc9
                  rw [if_neg (by omega)]
                  refine awp_seq ?_
                  refine awp_region ?_
                  refine al_pure rfl rfl rfl (pure_move rfl (fun _ => rfl)) ?_
                  refine al_pure rfl rfl rfl (pure_fieldPtr rfl (fun _ => rfl) rfl rfl) ?_
                  refine al_pure rfl rfl rfl (pure_loadBox rfl (fun _ => rfl) rfl rfl rfl rfl) ?_
                  refine al_pure rfl rfl rfl (pure_cmp rfl rfl (fun _ => rfl) (fun _ => rfl) rfl) ?_
                  refine al_pure rfl rfl rfl (pure_assign rfl (fun _ => rfl)) ?_
                  refine al_nil ?_
                  refine awp_sub (s := { t := [(0, _, _), (2, _, _), (5, _, _), (8, _, _), (10, _, _), (88, _, _)], bx := [((.l 5), _), ((.l 8), _), ((.o 0), _)], ow := [] }) (sub_mk (⟨⟨_, rfl, rfl⟩, ⟨⟨_, rfl, rfl⟩, ⟨⟨_, rfl, rfl⟩, ⟨⟨_, rfl, rfl⟩, ⟨⟨_, rfl, rfl⟩, ⟨⟨_, rfl, rfl⟩, trivial⟩⟩⟩⟩⟩⟩) (⟨⟨_, rfl, rfl⟩, ⟨⟨_, rfl, rfl⟩, ⟨⟨_, rfl, rfl⟩, trivial⟩⟩⟩) trivial) ?_
                  refine awp_cond rfl (fun hc10 => ?_) (fun hc10 => ?_)
                  · try simp only [n1, n2, n3, n4, n5, n6, n7, n8, n9, n10, n11, n12, n13, n14, n15, n16, Fd.rows_len, Fm.rows_len, V.rows_len] at hc10
                    rw [if_pos ⟨by omega, rfl⟩]
                    refine awp_drawn' (by kernel_rfl) ?_
                    refine dr_pure rfl rfl rfl rfl (pure_move rfl (fun _ => rfl)) ?_
                    refine dr_pure rfl rfl rfl rfl (pure_move rfl (fun _ => rfl)) ?_
                    refine dr_pure rfl rfl rfl rfl (pure_nilCheck rfl (fun _ => rfl)) ?_
                    refine dr_pure rfl rfl rfl rfl (pure_fieldPtr rfl (fun _ => rfl) rfl rfl) ?_
                    refine dr_load rfl rfl rfl rfl rfl rfl rfl (fun _ => rfl) rfl rfl rfl rfl ?_
                    refine dr_pure rfl rfl rfl rfl (pure_fieldPtr rfl (fun _ => rfl) rfl rfl) ?_
                    refine dr_load rfl rfl rfl rfl rfl rfl rfl (fun _ => rfl) rfl rfl rfl rfl ?_
                    refine dr_pure rfl rfl rfl rfl (pure_arith rfl rfl (fun _ => rfl) (fun _ => rfl) rfl (IntWalk.i64_in _ (by omega))) ?_
                    refine dr_callB1 (.o 0) rfl rfl rfl rfl rfl rfl rfl (cfail_spec _ _ _ _ _) rfl (by rfl) (by rfl) rfl rfl rfl ?_
                    refine dr_nil (by kernel_rfl) ?_
                    refine awp_sub (s := { t := [(8, _, _)], bx := [((.l 8), _), ((.o 0), _)], ow := [] }) (sub_mk (⟨⟨_, rfl, rfl⟩, trivial⟩) (⟨⟨_, rfl, rfl⟩, ⟨⟨_, rfl, rfl⟩, trivial⟩⟩) trivial) ?_
                    refine awp_seq ?_
                    refine awp_region ?_
                    refine al_pure rfl rfl rfl (pure_build rfl Try.underlying25 rfl (fun _ => rfl)) ?_
                    refine al_do rfl (does_store rfl rfl rfl rfl rfl rfl rfl) ?_
                    refine al_nil ?_
                    refine awp_ret ?_
                    repeat (first | refine thenS_ret ?_ | refine blockS_ret ?_)
                    refine ret_ok rfl ?_ (⟨⟨_, rfl, ?_⟩, trivial⟩)
                    · rfl
                    · exact rc_eq' (by dsimp only; omega) rfl
                  · try simp only [n1, n2, n3, n4, n5, n6, n7, n8, n9, n10, n11, n12, n13, n14, n15, n16, Fd.rows_len, Fm.rows_len, V.rows_len] at hc10
                    rw [if_neg (by omega)]
                    refine awp_seq ?_
                    refine awp_region ?_
                    refine al_pure rfl rfl rfl (pure_move rfl (fun _ => rfl)) ?_
                    refine al_pure rfl rfl rfl (pure_move rfl (fun _ => rfl)) ?_
                    refine al_pure rfl rfl rfl (pure_move rfl (fun _ => rfl)) ?_
                    refine al_callB1 (.o 0) rfl rfl rfl rfl rfl rfl (ctake_spec t s a (min (e - a) f.high.toNat) e _ ((e : Int) - (a : Int)) _ rfl (by omega) rfl h1 h2 hs (by omega)) rfl (by rfl) (by rfl) rfl rfl rfl ?_
                    refine al_pure rfl rfl rfl (pure_build rfl Try.underlying25 rfl (fun _ => rfl)) ?_
                    refine al_do rfl (does_store rfl rfl rfl rfl rfl rfl rfl) ?_
                    refine al_nil ?_
                    refine awp_ret ?_
                    repeat (first | refine thenS_ret ?_ | refine blockS_ret ?_)
                    refine ret_ok rfl ?_ (⟨⟨_, rfl, ?_⟩, trivial⟩)
                    · exact xv_eq (takeP_v _ _ _ _).symm
                    · rfl
            · try simp only [n1, n2, n3, n4, n5, n6, n7, n8, n9, n10, n11, n12, n13, n14, n15, n16, Fd.rows_len, Fm.rows_len, V.rows_len] at hc7
              exfalso; omega
theorem cread_gen (t : List Fm) (i : Int) (s : List UInt8) (a0 e : Nat) (ai ei : Int) (pre : Bool) (rec : Int → Nat → Nat → Pl) (ha : ai = a0) (he : ei = e) (h1 : a0 ≤ e) (h2 : e ≤ s.length) (hs : s.length ≤ 100000) (hi : 0 ≤ i ∧ i < t.length)
    (hl6 : (t.getD i.toNat default).fields.length ≤ 6)
    (hfd : ∀ k, k < (t.getD i.toNat default).fields.length → FdOk ((t.getD i.toNat default).fields.getD k default))
    (hle : ∀ k, k < (t.getD i.toNat default).fields.length → ((t.getD i.toNat default).fields.getD k default).kind = 5 → ∀ b c, b ≤ c → b ≤ (rec ((t.getD i.toNat default).fields.getD k default).n b c).p ∧ (rec ((t.getD i.toNat default).fields.getD k default).n b c).p ≤ c)
    (hrec : ∀ k, k < (t.getD i.toNat default).fields.length → ((t.getD i.toNat default).fields.getD k default).kind = 5 → ∀ b c, b ≤ c → c ≤ s.length → ∀ bi ci : Int, bi = b → ci = c →
      Ctr sys 41 [pp, xi ((t.getD i.toNat default).fields.getD k default).n, xi ci, xb false] [rc t s bi false] (xv (rec ((t.getD i.toNat default).fields.getD k default).n b c).v) none
        [rc t s (rec ((t.getD i.toNat default).fields.getD k default).n b c).p (!(rec ((t.getD i.toNat default).fields.getD k default).n b c).ok)]) :
    Ctr sys 41 [pp, xi i, xi ei, xb pre] [rc t s ai false] (xv (readL true rec t s e pre (t.getD i.toNat default).fields [] a0).v) none
      [rc t s (readL true rec t s e pre (t.getD i.toNat default).fields [] a0).p (!(readL true rec t s e pre (t.getD i.toNat default).fields [] a0).ok)] := by
  subst ha; subst he
  have he : (e : Int) = e := rfl
  have hrl := Fm.rows_len t
  have hrf := Fd.rows_len (t.getD i.toNat default).fields
  refine spec_intro Try.func41 rfl rfl rfl rfl rfl rfl ?_
  refine awp_seq ?_
  refine awp_region ?_
  refine al_do rfl (does_alloc rfl rfl rfl) ?_
  refine al_nil ?_
  refine awp_seq ?_
  refine awp_region ?_
  refine al_do rfl (does_allocX rfl rfl rfl rfl) ?_
  refine al_nil ?_
  refine awp_seq ?_
  refine awp_seq ?_
  refine awp_region ?_
  refine al_pure rfl rfl rfl (pure_move rfl (fun _ => rfl)) ?_
  refine al_pure rfl rfl rfl (pure_nilCheck rfl (fun _ => rfl)) ?_
  refine al_pure rfl rfl rfl (pure_fieldPtr rfl (fun _ => rfl) rfl rfl) ?_
  refine al_pure rfl rfl rfl (pure_loadBox rfl (fun _ => rfl) rfl rfl rfl rfl) ?_
  refine al_pure rfl rfl rfl (pure_move rfl (fun _ => rfl)) ?_
  refine al_pure rfl rfl rfl (pure_indexAddr (j := i.toNat) rfl rfl (fun _ => rfl) (fun _ => rfl) rfl rfl (by first | omega | (simp at hh; omega)) (fun hh => Fm.rows_at (by first | omega | (simp at hh; omega)))) ?_
  refine al_pure rfl rfl rfl (pure_fieldRo rfl (fun _ => rfl) rfl rfl) ?_
  refine al_pure rfl rfl rfl (pure_loadRo rfl (fun _ => rfl) rfl rfl rfl) ?_
  refine al_lenSl rfl rfl rfl rfl rfl (fun _ => rfl) rfl rfl ?_ (fun hh => by simp at hh); intro hlen
  refine al_pure rfl rfl rfl (pure_move rfl (fun _ => rfl)) ?_
  refine al_nil ?_
  refine awp_sub (s := { t := [(0, _, _), (2, _, _), (3, _, _), (8, _, _), (9, _, _), (20, _, _), (21, _, _), (22, _, _)], bx := [((.l 8), _), ((.l 9), _), ((.o 0), _)], ow := [] }) (sub_mk (⟨⟨_, rfl, rfl⟩, ⟨⟨_, rfl, rfl⟩, ⟨⟨_, rfl, rfl⟩, ⟨⟨_, rfl, rfl⟩, ⟨⟨_, rfl, rfl⟩, ⟨⟨_, rfl, rfl⟩, ⟨⟨_, rfl, rfl⟩, ⟨⟨_, rfl, rfl⟩, trivial⟩⟩⟩⟩⟩⟩⟩⟩) (⟨⟨_, rfl, rfl⟩, ⟨⟨_, rfl, rfl⟩, ⟨⟨_, rfl, rfl⟩, trivial⟩⟩⟩) trivial) ?_
  refine awp_block ?_
  refine awp_own (.l 9) 2 3 rfl rfl rfl ?_
  refine awp_for (ι := Nat × List V × Nat) { t := [(0, _, _), (2, _, _), (3, _, _), (8, _, _), (9, _, _), (20, _, _), (21, _, _)], bx := [((.l 8), _)], ow := [((.b (.l 9) 2), _)] } (fun p => [(22, true, xi (p.1 : Int))]) (fun p => [((.l 9), [.s [], .i .i64 0, .sl 3 (V.rows p.2.1)]), ((.o 0), rc t s (p.2.2 : Int) false)]) (fun p => p.1 ≤ (t.getD i.toNat default).fields.length ∧ p.2.1.length ≤ p.1 ∧ p.2.2 ≤ e ∧ readL true rec t s e pre ((t.getD i.toNat default).fields.drop p.1) p.2.1 p.2.2 = readL true rec t s e pre (t.getD i.toNat default).fields [] a0) (fun p => (t.getD i.toNat default).fields.length - p.1) ((0, [], a0)) (⟨by simp, by simp, h1, rfl⟩) (sub_mk (⟨⟨_, rfl, rfl⟩, ⟨⟨_, rfl, rfl⟩, ⟨⟨_, rfl, rfl⟩, ⟨⟨_, rfl, rfl⟩, ⟨⟨_, rfl, rfl⟩, ⟨⟨_, rfl, rfl⟩, ⟨⟨_, rfl, rfl⟩, ⟨⟨_, rfl, rfl⟩, trivial⟩⟩⟩⟩⟩⟩⟩⟩) (⟨⟨_, rfl, rfl⟩, ⟨⟨_, rfl, rfl⟩, ⟨⟨_, rfl, rfl⟩, trivial⟩⟩⟩) (⟨rfl, trivial⟩)) ?_
  intro p hok
  dsimp only [List.cons_append, List.nil_append] at *
  obtain ⟨k, vs, a⟩ := p
  dsimp only at hok ⊢
  obtain ⟨hk, hvk, hae, hinv⟩ := hok
  have hvr := V.rows_len vs
  refine awp_seq ?_
  refine awp_region ?_
  refine al_pure rfl rfl rfl (pure_cmp rfl rfl (fun _ => rfl) (fun _ => rfl) rfl) ?_
  refine al_nil ?_
  refine awp_seq ?_
  refine awp_cond rfl (fun hc => ?_) (fun hc => ?_)
  · try simp only [n1, n2, n3, n4, n5, n6, n7, n8, n9, n10, n11, n12, n13, n14, n15, n16, Fd.rows_len, Fm.rows_len, V.rows_len] at hc
    have hfl := fldP_le (k := true) (t := t) (s := s) (pre := pre) hae (hle k (by omega))
    rw [drop_getD (l := (t.getD i.toNat default).fields) (by omega), readL] at hinv
    refine awp_skip ?_
    refine awp_seq ?_
    refine awp_block ?_
    refine awp_seq ?_
    refine awp_region ?_
    refine al_pure rfl rfl rfl (pure_indexAddr rfl rfl (fun _ => rfl) (fun _ => rfl) rfl rfl rfl (fun hh => Fd.rows_at (by first | omega | (simp at hh; omega)))) ?_
    refine al_pure rfl rfl rfl (pure_loadRoRow rfl (fun _ => rfl) rfl rfl rfl rfl) ?_
    refine al_do rfl (does_alloc rfl rfl rfl) ?_
    refine al_do rfl (does_store rfl rfl rfl rfl rfl rfl rfl) ?_
    refine al_nil ?_
    refine awp_seq ?_
    refine awp_region ?_
    refine al_pure rfl rfl rfl (pure_move rfl (fun _ => rfl)) ?_
    refine al_pure rfl rfl rfl (pure_loadBoxRow rfl (fun _ => rfl) rfl rfl rfl rfl rfl) ?_
    refine al_pure rfl rfl rfl (pure_move rfl (fun _ => rfl)) ?_
    refine al_pure rfl rfl rfl (pure_move rfl (fun _ => rfl)) ?_
    refine al_callB1 (.o 0) rfl rfl rfl rfl rfl rfl (cfield_rd _ _ _ _ _ _ _ _ rec (hfd k (by omega)) rfl he hae h2 hs (hle k (by omega)) (hrec k (by omega))) rfl (by rfl) (by rfl) rfl rfl rfl ?_
    refine al_do rfl (does_alloc rfl rfl rfl) ?_
    refine al_do rfl (does_store rfl rfl rfl rfl rfl rfl rfl) ?_
    refine al_nil ?_
    refine awp_sub (s := { t := [(0, _, _), (2, _, _), (3, _, _), (8, _, _), (9, _, _), (12, _, _), (20, _, _), (21, _, _), (22, _, _)], bx := [((.l 12), _), ((.l 8), _), ((.l 9), _), ((.o 0), _)], ow := [((.b (.l 9) 2), _)] }) (sub_mk (⟨⟨_, rfl, rfl⟩, ⟨⟨_, rfl, rfl⟩, ⟨⟨_, rfl, rfl⟩, ⟨⟨_, rfl, rfl⟩, ⟨⟨_, rfl, rfl⟩, ⟨⟨_, rfl, rfl⟩, ⟨⟨_, rfl, rfl⟩, ⟨⟨_, rfl, rfl⟩, ⟨⟨_, rfl, rfl⟩, trivial⟩⟩⟩⟩⟩⟩⟩⟩⟩) (⟨⟨_, rfl, rfl⟩, ⟨⟨_, rfl, rfl⟩, ⟨⟨_, rfl, rfl⟩, ⟨⟨_, rfl, rfl⟩, trivial⟩⟩⟩⟩) (⟨rfl, trivial⟩)) ?_
    refine awp_seq ?_
    refine awp_seq ?_
    refine awp_region ?_
    refine al_pure rfl rfl rfl (pure_move rfl (fun _ => rfl)) ?_
    refine al_pure rfl rfl rfl (pure_nilCheck rfl (fun _ => rfl)) ?_
    refine al_pure rfl rfl rfl (pure_fieldPtr rfl (fun _ => rfl) rfl rfl) ?_
    refine al_pure rfl rfl rfl (pure_loadBox rfl (fun _ => rfl) rfl rfl rfl rfl) ?_
    refine al_nil ?_
    refine awp_cond rfl (fun hc2 => ?_) (fun hc2 => ?_)
    · try simp only [n1, n2, n3, n4, n5, n6, n7, n8, n9, n10, n11, n12, n13, n14, n15, n16, Fd.rows_len, Fm.rows_len, V.rows_len] at hc2
      rw [if_neg (by rw [hc2]; exact Bool.false_ne_true)] at hinv
      rw [← hinv]
      refine awp_seq ?_
      refine awp_region ?_
      refine al_pure rfl rfl rfl (pure_build rfl Try.underlying25 rfl (fun _ => rfl)) ?_
      refine al_do rfl (does_store rfl rfl rfl rfl rfl rfl rfl) ?_
      refine al_nil ?_
      refine awp_ret ?_
      repeat (first | refine thenS_ret ?_ | refine blockS_ret ?_)
      refine ret_ok rfl ?_ (⟨⟨_, rfl, ?_⟩, trivial⟩)
      · rfl
      · exact rc_eq' rfl (congrArg not hc2)
    · try simp only [n1, n2, n3, n4, n5, n6, n7, n8, n9, n10, n11, n12, n13, n14, n15, n16, Fd.rows_len, Fm.rows_len, V.rows_len] at hc2
      rw [if_pos hc2] at hinv
      refine awp_skip ?_
      refine awp_region ?_
      refine al_pure rfl rfl rfl (pure_fieldPtr rfl (fun _ => rfl) rfl rfl) ?_
      refine al_do rfl (does_loadTake rfl rfl rfl rfl rfl rfl rfl) ?_
      refine al_pure rfl rfl rfl (pure_loadBoxRow rfl (fun _ => rfl) rfl rfl rfl rfl rfl) ?_
      refine al_buildSlice (xs := [_]) rfl rfl rfl rfl rfl rfl rfl rfl rfl (fun _ => rfl) rfl ?_
      refine al_do rfl (does_append rfl rfl rfl rfl rfl rfl rfl (by simp [V.rows_len]; omega) (by simp [V.rows_len]; omega)) ?_
      refine al_pure rfl rfl rfl (pure_fieldPtr rfl (fun _ => rfl) rfl rfl) ?_
      refine al_do rfl (does_storeOwn rfl rfl rfl rfl rfl rfl rfl) ?_
      refine al_nil ?_
      refine awp_sub (s := { t := [(0, _, _), (2, _, _), (3, _, _), (8, _, _), (9, _, _), (20, _, _), (21, _, _), (22, _, _)], bx := [((.l 8), _), ((.l 9), _), ((.o 0), _)], ow := [((.b (.l 9) 2), _)] }) (sub_mk (⟨⟨_, rfl, rfl⟩, ⟨⟨_, rfl, rfl⟩, ⟨⟨_, rfl, rfl⟩, ⟨⟨_, rfl, rfl⟩, ⟨⟨_, rfl, rfl⟩, ⟨⟨_, rfl, rfl⟩, ⟨⟨_, rfl, rfl⟩, ⟨⟨_, rfl, rfl⟩, trivial⟩⟩⟩⟩⟩⟩⟩⟩) (⟨⟨_, rfl, rfl⟩, ⟨⟨_, rfl, rfl⟩, ⟨⟨_, rfl, rfl⟩, trivial⟩⟩⟩) (⟨rfl, trivial⟩)) ?_
      refine awp_region ?_
      refine al_pure rfl rfl rfl (pure_arith rfl rfl (fun _ => rfl) (fun _ => rfl) rfl (IntWalk.i64_in _ (by omega))) ?_
      refine al_pure rfl rfl rfl (pure_move rfl (fun _ => rfl)) ?_
      refine al_nil ?_
      refine ⟨(k + 1, vs ++ [(fldP true rec t ((t.getD i.toNat default).fields.getD k default) s a e pre).v], (fldP true rec t ((t.getD i.toNat default).fields.getD k default) s a e pre).p), ?_, ?_, sub_mk (⟨⟨_, rfl, ?_⟩, ⟨⟨_, rfl, rfl⟩, ⟨⟨_, rfl, rfl⟩, ⟨⟨_, rfl, rfl⟩, ⟨⟨_, rfl, rfl⟩, ⟨⟨_, rfl, rfl⟩, ⟨⟨_, rfl, rfl⟩, ⟨⟨_, rfl, rfl⟩, trivial⟩⟩⟩⟩⟩⟩⟩⟩) (⟨⟨_, rfl, ?_⟩, ⟨⟨_, rfl, ?_⟩, ⟨⟨_, rfl, rfl⟩, trivial⟩⟩⟩) (⟨rfl, trivial⟩)⟩
      · exact ⟨by dsimp only; omega, by simp; omega, hfl.2, hinv⟩
      · dsimp only; omega
      · rfl
      · show [C.s [], C.i .i64 0, C.sl 3 (V.rows vs ++ [_])] = _
        rw [← V.rows_snoc]; rfl
      · exact rc_eq' rfl (congrArg not hc2)
  · try simp only [n1, n2, n3, n4, n5, n6, n7, n8, n9, n10, n11, n12, n13, n14, n15, n16, Fd.rows_len, Fm.rows_len, V.rows_len] at hc
    rw [List.drop_of_length_le (by omega), readL] at hinv
    rw [← hinv]
    refine awp_exit ?_
    repeat (first | refine thenS_exit ?_ | refine blockS_hit ?_ | refine blockS_miss rfl ?_)
    refine awp_seq ?_
    refine awp_region ?_
    refine al_pure rfl rfl rfl (pure_loadBoxRow rfl (fun _ => rfl) rfl rfl rfl rfl rfl) ?_
    refine al_do rfl (does_store rfl rfl rfl rfl rfl rfl rfl) ?_
    refine al_nil ?_
    refine awp_ret ?_
    repeat (first | refine thenS_ret ?_ | refine blockS_ret ?_)
    refine ret_ok rfl ?_ (⟨⟨_, rfl, ?_⟩, trivial⟩)
    · rfl
    · rfl
theorem cread_spec (t : List Fm) (i : Int) (s : List UInt8) (a e : Nat) (ai ei : Int) (pre : Bool) (ha : ai = a) (he : ei = e) (h1 : a ≤ e) (h2 : e ≤ s.length) (hs : s.length ≤ 100000) (hi : 0 ≤ i ∧ i < t.length) (h : Fds t (t.getD i.toNat default).fields) :
    Ctr sys 41 [pp, xi i, xi ei, xb pre] [rc t s ai false] (xv (readT false t s pre i a e).v) none [rc t s (readT false t s pre i a e).p (!(readT false t s pre i a e).ok)] := by
  rw [← readT_sim h]
  refine cread_gen t i s a e ai ei pre (read0 true t s) ha he h1 h2 hs hi h.len.2 h.ok (fun k hk h5 b c hbc => read0_le hbc (h.nest k hk h5).2) fun k hk h5 b c hbc hc bi ci hb hci => ?_
  obtain ⟨q1, q2⟩ := h.nest k hk h5
  have q3 := (h.ok k hk).n
  exact cread_gen t _ s b c bi ci false (fun _ _ _ => failP 0) hb hci hbc hc hs (by omega) q2.len.2 (fun j hj => (q2.ok j hj).1) (fun j hj h6 => absurd h6 (q2.ok j hj).2.1) fun j hj h6 => absurd h6 (q2.ok j hj).2.1
end Go.Proofs.Ytgjclggjkhapfaa
