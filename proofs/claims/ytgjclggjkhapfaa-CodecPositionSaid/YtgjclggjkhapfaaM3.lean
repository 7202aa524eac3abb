/- Our abstract program logic and contracts of this seat's functions, part 3: no statement of its own. -/
import Derived.Test.YtgjclggjkhapfaaM2
/- Names: of the reference, and of formats. -/
set_option linter.unusedVariables false
set_option linter.unusedSimpArgs false
namespace Go.Proofs.Ytgjclggjkhapfaa
open Go Go.Abs
abbrev xu (n : Int) : X := .v (.c (.i .u8 n))
def letterB (n : Int) : Bool := (decide (97 ≤ n) && decide (n ≤ 122)) || (decide (65 ≤ n) && decide (n ≤ 90))
def digitB (n : Int) : Bool := decide (48 ≤ n) && decide (n ≤ 57)
def partB (n : Int) : Bool := ((letterB n || digitB n) || n == 95) || n == 35
def nameB (l : List UInt8) : Bool := decide (l.length ≠ 0) && decide (l.length ≤ 24) && letterB ((l.getD 0 0).toNat : Int) && l.all fun b => partB (b.toNat : Int)
def noHash (l : List UInt8) : Bool := l.all fun b => (b.toNat : Int) != 35
/-- The name of a format. -/
def fnameB (l : List UInt8) : Bool := noHash l && nameB l
theorem drop_getD {α : Type} [Inhabited α] {l : List α} {k : Nat} (h : k < l.length) : l.drop k = l.getD k default :: l.drop (k + 1) := by
  rw [List.drop_eq_getElem_cons h, List.getD_eq_getElem?_getD, List.getElem?_eq_getElem h]; rfl
theorem drop_get0 {l : List UInt8} {k : Nat} (h : k < l.length) : l.drop k = l.getD k 0 :: l.drop (k + 1) := by
  rw [List.drop_eq_getElem_cons h, List.getD_eq_getElem?_getD, List.getElem?_eq_getElem h]; rfl
theorem all_get {l : List UInt8} {p : UInt8 → Bool} (h : ∀ j, j < l.length → p (l.getD j 0) = true) : l.all p = true := by
  rw [List.all_eq_true]
  intro x hx
  obtain ⟨j, hj⟩ := List.getElem?_of_mem hx
  have hlt := (List.getElem?_eq_some_iff.1 hj).1
  have := h j hlt
  rwa [List.getD_eq_getElem?_getD, hj] at this
theorem all_get_not {l : List UInt8} {p : UInt8 → Bool} {j : Nat} (hj : j < l.length) (h : p (l.getD j 0) = false) : l.all p = false := by
  rw [List.all_eq_false]
  refine ⟨l.getD j 0, ?_, by rw [h]; simp⟩
  rw [List.getD_eq_getElem?_getD, List.getElem?_eq_getElem hj]
  exact List.getElem_mem hj
theorem letter_spec (n : Int) : Ctr sys 102 [xu n] [] (xb (letterB n)) none [] := by
  refine spec_intro Try.func102 rfl rfl rfl rfl rfl rfl ?_
  refine awp_seq (awp_region ?_)
  refine al_pure rfl rfl rfl (pure_assign rfl gU) ?_
  refine al_nil ?_
  refine awp_seq (awp_region ?_)
  refine al_pure rfl rfl rfl (pure_move rfl gU) ?_
  refine al_pure rfl rfl rfl (pure_cmp rfl rfl gU gU rfl) ?_
  refine al_pure rfl rfl rfl (pure_move rfl gU) ?_
  refine al_pure rfl rfl rfl (pure_move rfl gU) ?_
  refine al_pure rfl rfl rfl (pure_cmp rfl rfl (fun hh => hh) gU rfl) ?_
  refine al_pure rfl rfl rfl (pure_and rfl rfl gU (fun _ hi => gP rfl hi)) ?_
  refine al_pure rfl rfl rfl (pure_move rfl gU) ?_
  refine al_pure rfl rfl rfl (pure_move rfl gU) ?_
  refine al_pure rfl rfl rfl (pure_cmp rfl rfl (fun hh => hh) gU rfl) ?_
  refine al_pure rfl rfl rfl (pure_move rfl (fun hh => hh)) ?_
  refine al_pure rfl rfl rfl (pure_move rfl gU) ?_
  refine al_pure rfl rfl rfl (pure_cmp rfl rfl (fun hh => hh) gU rfl) ?_
  refine al_pure rfl rfl rfl (pure_and rfl rfl (fun hh => hh) (fun hh hi => gP hh hi)) ?_
  refine al_pure rfl rfl rfl (pure_or rfl rfl gU (fun _ hi => gP rfl hi)) ?_
  refine al_pure rfl rfl rfl (pure_assign rfl gU) ?_
  refine al_nil ?_
  refine awp_ret ?_
  repeat (first | refine tR ?_ | refine bR ?_)
  refine ret_ok rfl ?_ trivial
  rfl
theorem digit_spec (n : Int) : Ctr sys 103 [xu n] [] (xb (digitB n)) none [] := by
  refine spec_intro Try.func103 rfl rfl rfl rfl rfl rfl ?_
  refine awp_seq (awp_region ?_)
  refine al_pure rfl rfl rfl (pure_assign rfl gU) ?_
  refine al_nil ?_
  refine awp_seq (awp_region ?_)
  refine al_pure rfl rfl rfl (pure_move rfl gU) ?_
  refine al_pure rfl rfl rfl (pure_cmp rfl rfl gU gU rfl) ?_
  refine al_pure rfl rfl rfl (pure_move rfl gU) ?_
  refine al_pure rfl rfl rfl (pure_move rfl gU) ?_
  refine al_pure rfl rfl rfl (pure_cmp rfl rfl (fun hh => hh) gU rfl) ?_
  refine al_pure rfl rfl rfl (pure_and rfl rfl gU (fun _ hi => gP rfl hi)) ?_
  refine al_pure rfl rfl rfl (pure_assign rfl gU) ?_
  refine al_nil ?_
  refine awp_ret ?_
  repeat (first | refine tR ?_ | refine bR ?_)
  refine ret_ok rfl ?_ trivial
  rfl
theorem isName_spec (l : List UInt8) : Ctr sys 98 [xs l] [] (xb (nameB l)) none [] := by
  refine spec_intro Try.func98 rfl rfl rfl rfl rfl rfl ?_
  refine awp_seq (awp_region ?_)
  refine al_pure rfl rfl rfl (pure_assign rfl gU) ?_
  refine al_nil ?_
  refine awp_seq ?_
  refine awp_seq (awp_region ?_)
  refine al_pure rfl rfl rfl (pure_move rfl gU) ?_
  refine al_lenS rfl rfl rfl rfl rfl gU (Try.underlying9) ?_ (fun hh => by simp at hh); intro hlen
  refine al_pure rfl rfl rfl (pure_cmp rfl rfl gU gU rfl) ?_
  refine al_pure rfl rfl rfl (pure_move rfl gU) ?_
  refine al_pure rfl rfl rfl (pure_move rfl gU) ?_
  refine al_pure rfl rfl rfl (pure_lenS rfl (fun hh => hh) (Try.underlying9)) ?_
  refine al_pure rfl rfl rfl (pure_cmp rfl rfl (fun hh => hh) gU rfl) ?_
  refine al_pure rfl rfl rfl (pure_or rfl rfl gU (fun _ hi => gP rfl hi)) ?_
  refine al_pure rfl rfl rfl (pure_move rfl gU) ?_
  refine al_pure rfl rfl rfl (pure_move rfl gU) ?_
  refine al_pure rfl rfl rfl (pure_indexSg (j := 0) rfl rfl (fun hh => hh) gU Try.underlying9 (by first | omega | (simp at hh; exact List.length_pos_iff.2 hh.1)) (fun hh => by first | omega | (simp at hh; exact List.length_pos_iff.2 hh.1))) ?_
  refine al_sub (s := { t := [(0, _, _), (12, _, _), (14, _, _)], bx := [], ow := [] }) (sub_mk (⟨sx rfl, ⟨sx rfl, ⟨sx rfl, trivial⟩⟩⟩) trivial trivial) ?_
  refine al_call rfl rfl rfl rfl rfl rfl gU (fun hh => gA ((fun hh => hh) hh) (rfl)) (letter_spec _) rfl ?_
  refine al_pure rfl rfl rfl (pure_not rfl (fun hh => hh)) ?_
  refine al_pure rfl rfl rfl (pure_or rfl rfl gU (fun _ hi => gP rfl hi)) ?_
  refine al_nil ?_
  refine awp_cond rfl (fun hc => ?_) (fun hc => ?_)
  · refine awp_seq (awp_region ?_)
    refine al_pure rfl rfl rfl (pure_assign rfl gU) ?_
    refine al_nil ?_
    refine awp_ret ?_
    repeat (first | refine tR ?_ | refine bR ?_)
    refine ret_ok rfl ?_ trivial
    exact xb_eq (by simp [nameB]; grind)
  · refine awp_skip ?_
    refine awp_seq ?_
    refine awp_seq (awp_region ?_)
    refine al_pure rfl rfl rfl (pure_assign rfl gU) ?_
    refine al_nil ?_
    refine awp_block ?_
    refine awp_for (ι := Nat) { t := [(0, _, _)], bx := [], ow := [] } (fun k => [(3, true, xi (k : Int))]) (fun k => []) (fun k => k ≤ l.length ∧ (l.drop k).all (fun b => partB (b.toNat : Int)) = l.all (fun b => partB (b.toNat : Int))) (fun k => l.length - k) (0) (by simp) (sub_mk (⟨sx rfl, ⟨sx rfl, trivial⟩⟩) trivial trivial) ?_
    intro k hok
    dsimp only [List.cons_append, List.nil_append]
    obtain ⟨hk, hi⟩ := hok
    refine awp_seq ?_
    refine awp_seq (awp_region ?_)
    refine al_pure rfl rfl rfl (pure_move rfl gU) ?_
    refine al_pure rfl rfl rfl (pure_move rfl gU) ?_
    refine al_lenS rfl rfl rfl rfl rfl gU (Try.underlying9) ?_ (fun hh => by simp at hh); intro hlen
    refine al_pure rfl rfl rfl (pure_cmp rfl rfl gU gU rfl) ?_
    refine al_nil ?_
    refine awp_cond rfl (fun hc2 => ?_) (fun hc2 => ?_)
    · have hlt : k < l.length := by simpa using hc2
      rw [drop_get0 hlt, List.all_cons] at hi
      refine awp_skip ?_
      refine awp_seq ?_
      refine awp_block ?_
      refine awp_seq (awp_region ?_)
      refine al_pure rfl rfl rfl (pure_move rfl gU) ?_
      refine al_pure rfl rfl rfl (pure_move rfl gU) ?_
      refine al_pure rfl rfl rfl (pure_indexSg rfl rfl gU gU Try.underlying9 rfl (fun hh => by first | omega | (simp at hh; exact List.length_pos_iff.2 hh.1))) ?_
      refine al_call rfl rfl rfl rfl rfl rfl gU gU (letter_spec _) rfl ?_
      refine al_pure rfl rfl rfl (pure_not rfl gU) ?_
      refine al_pure rfl rfl rfl (pure_move rfl gU) ?_
      refine al_pure rfl rfl rfl (pure_move rfl gU) ?_
      refine al_pure rfl rfl rfl (pure_move rfl gU) ?_
      refine al_sub (s := { t := [(0, _, _), (3, _, _), (29, _, _), (30, _, _), (31, _, _)], bx := [], ow := [] }) (sub_mk (⟨sx rfl, ⟨sx rfl, ⟨sx rfl, ⟨sx rfl, ⟨sx rfl, trivial⟩⟩⟩⟩⟩) trivial trivial) ?_
      refine al_pure rfl rfl rfl (pure_indexSg rfl rfl (fun hh => hh) (fun hh => hh) Try.underlying9 rfl (fun hh => by first | omega | (simp at hh; exact List.length_pos_iff.2 hh.1))) ?_
      refine al_call rfl rfl rfl rfl rfl rfl gU (fun hh => gA ((fun hh => hh) hh) (rfl)) (digit_spec _) rfl ?_
      refine al_pure rfl rfl rfl (pure_not rfl (fun hh => hh)) ?_
      refine al_pure rfl rfl rfl (pure_and rfl rfl gU (fun _ hi => gP rfl hi)) ?_
      refine al_pure rfl rfl rfl (pure_move rfl gU) ?_
      refine al_pure rfl rfl rfl (pure_move rfl gU) ?_
      refine al_pure rfl rfl rfl (pure_move rfl gU) ?_
      refine al_pure rfl rfl rfl (pure_indexSg rfl rfl (fun hh => hh) (fun hh => hh) Try.underlying9 rfl (fun hh => by first | omega | (simp at hh; exact List.length_pos_iff.2 hh.1))) ?_
      refine al_pure rfl rfl rfl (pure_cmp rfl rfl (fun hh => hh) gU rfl) ?_
      refine al_pure rfl rfl rfl (pure_and rfl rfl gU (fun _ hi => gP rfl hi)) ?_
      refine al_pure rfl rfl rfl (pure_move rfl gU) ?_
      refine al_pure rfl rfl rfl (pure_move rfl gU) ?_
      refine al_sub (s := { t := [(0, _, _), (3, _, _), (42, _, _), (43, _, _)], bx := [], ow := [] }) (sub_mk (⟨sx rfl, ⟨sx rfl, ⟨sx rfl, ⟨sx rfl, trivial⟩⟩⟩⟩) trivial trivial) ?_
      refine al_pure rfl rfl rfl (pure_move rfl gU) ?_
      refine al_pure rfl rfl rfl (pure_indexSg rfl rfl (fun hh => hh) (fun hh => hh) Try.underlying9 rfl (fun hh => by first | omega | (simp at hh; exact List.length_pos_iff.2 hh.1))) ?_
      refine al_pure rfl rfl rfl (pure_cmp rfl rfl (fun hh => hh) gU rfl) ?_
      refine al_pure rfl rfl rfl (pure_and rfl rfl gU (fun _ hi => gP rfl hi)) ?_
      refine al_nil ?_
      refine awp_cond rfl (fun hc1 => ?_) (fun hc1 => ?_)
      · try simp only [nn] at hc1
        refine awp_seq (awp_region ?_)
        refine al_pure rfl rfl rfl (pure_assign rfl gU) ?_
        refine al_nil ?_
        refine awp_ret ?_
        repeat (first | refine tR ?_ | refine bR ?_)
        refine ret_ok rfl ?_ trivial
        exact xb_eq (by simp [nameB]; grind [partB])
      · try simp only [nn] at hc1
        refine awp_skip ?_
        refine awp_region ?_
        refine al_pure rfl rfl rfl (pure_move rfl gU) ?_
        refine al_pure rfl rfl rfl (pure_arith rfl rfl gU gU rfl (IntWalk.i64_in _ (by omega))) ?_
        refine al_pure rfl rfl rfl (pure_assign rfl gU) ?_
        refine al_nil ?_
        refine ⟨k + 1, ?_, ?_, sub_mk (⟨⟨_, rfl, ?_⟩, ⟨sx rfl, trivial⟩⟩) trivial trivial⟩
        all_goals (grind [partB])
    · refine awp_exit ?_
      repeat (first | refine thenS_exit ?_ | refine blockS_hit ?_ | refine blockS_miss rfl ?_)
      refine awp_seq (awp_region ?_)
      refine al_pure rfl rfl rfl (pure_assign rfl gU) ?_
      refine al_nil ?_
      refine awp_ret ?_
      repeat (first | refine tR ?_ | refine bR ?_)
      refine ret_ok rfl ?_ trivial
      have : l.drop k = [] := by simp at hc2 ⊢; omega
      rw [this] at hi
      exact xb_eq (by simp [nameB]; grind)
theorem rname_spec (l : List UInt8) : Ctr sys 79 [xs l] [] (xb (fnameB l)) none [] := by
  refine spec_intro Try.func79 rfl rfl rfl rfl rfl rfl ?_
  refine awp_seq (awp_region ?_)
  refine al_pure rfl rfl rfl (pure_assign rfl gU) ?_
  refine al_nil ?_
  refine awp_seq ?_
  refine awp_seq (awp_region ?_)
  refine al_pure rfl rfl rfl (pure_assign rfl gU) ?_
  refine al_nil ?_
  refine awp_block ?_
  refine awp_for (ι := Nat) { t := [(0, _, _)], bx := [], ow := [] } (fun k => [(3, true, xi (k : Int))]) (fun k => []) (fun k => k ≤ l.length ∧ noHash (l.drop k) = noHash l) (fun k => l.length - k) (0) (by simp) (sub_mk (⟨sx rfl, ⟨sx rfl, trivial⟩⟩) trivial trivial) ?_
  intro k hok
  dsimp only [List.cons_append, List.nil_append]
  obtain ⟨hk, hi⟩ := hok
  refine awp_seq ?_
  refine awp_seq (awp_region ?_)
  refine al_pure rfl rfl rfl (pure_move rfl gU) ?_
  refine al_pure rfl rfl rfl (pure_move rfl gU) ?_
  refine al_lenS rfl rfl rfl rfl rfl gU (Try.underlying9) ?_ (fun hh => by simp at hh); intro hlen
  refine al_pure rfl rfl rfl (pure_cmp rfl rfl gU gU rfl) ?_
  refine al_nil ?_
  refine awp_cond rfl (fun hc => ?_) (fun hc => ?_)
  · have hlt : k < l.length := by simpa using hc
    rw [drop_get0 hlt, noHash, List.all_cons] at hi
    refine awp_skip ?_
    refine awp_seq ?_
    refine awp_block ?_
    refine awp_seq (awp_region ?_)
    refine al_pure rfl rfl rfl (pure_move rfl gU) ?_
    refine al_pure rfl rfl rfl (pure_move rfl gU) ?_
    refine al_pure rfl rfl rfl (pure_indexSg rfl rfl gU gU Try.underlying9 rfl (fun hh => by first | omega | (simp at hh; exact List.length_pos_iff.2 hh.1))) ?_
    refine al_pure rfl rfl rfl (pure_cmp rfl rfl gU gU rfl) ?_
    refine al_nil ?_
    refine awp_sub (s := { t := [(0, _, _), (3, _, _), (13, _, _)], bx := [], ow := [] }) (sub_mk (⟨sx rfl, ⟨sx rfl, ⟨sx rfl, trivial⟩⟩⟩) trivial trivial) ?_
    refine awp_cond rfl (fun hc1 => ?_) (fun hc1 => ?_)
    · try simp only [nn] at hc1
      refine awp_seq (awp_region ?_)
      refine al_pure rfl rfl rfl (pure_assign rfl gU) ?_
      refine al_nil ?_
      refine awp_ret ?_
      repeat (first | refine tR ?_ | refine bR ?_)
      refine ret_ok rfl ?_ trivial
      exact xb_eq (by simp [fnameB]; grind)
    · try simp only [nn] at hc1
      refine awp_skip ?_
      refine awp_region ?_
      refine al_pure rfl rfl rfl (pure_move rfl gU) ?_
      refine al_pure rfl rfl rfl (pure_arith rfl rfl gU gU rfl (IntWalk.i64_in _ (by omega))) ?_
      refine al_pure rfl rfl rfl (pure_assign rfl gU) ?_
      refine al_nil ?_
      refine ⟨k + 1, ?_, ?_, sub_mk (⟨⟨_, rfl, ?_⟩, ⟨sx rfl, trivial⟩⟩) trivial trivial⟩
      all_goals (grind [noHash])
  · refine awp_exit ?_
    repeat (first | refine thenS_exit ?_ | refine blockS_hit ?_ | refine blockS_miss rfl ?_)
    refine awp_seq (awp_region ?_)
    refine al_pure rfl rfl rfl (pure_move rfl gU) ?_
    refine al_call rfl rfl rfl rfl rfl rfl gU gU (isName_spec _) rfl ?_
    refine al_pure rfl rfl rfl (pure_assign rfl gU) ?_
    refine al_nil ?_
    refine awp_ret ?_
    repeat (first | refine tR ?_ | refine bR ?_)
    refine ret_ok rfl ?_ trivial
    have : l.drop k = [] := by simp at hc ⊢; omega
    rw [this] at hi
    exact xb_eq (by simp [fnameB]; grind [noHash])
def fpartB (k : Nat) (n : Int) : Bool := letterB n || (decide (k ≠ 0) && (n == 95 || digitB n))
def fpartsB : Nat → List UInt8 → Bool
  | _, [] => true
  | k, b :: l => fpartB k (b.toNat : Int) && fpartsB (k + 1) l
theorem fparts_tail : ∀ (l : List UInt8) (k : Nat), fpartsB (k + 1) l = l.all fun b => partB (b.toNat : Int) && (b.toNat : Int) != 35
  | [], k => rfl
  | b :: l, k => by
    rw [fpartsB, fparts_tail l (k + 1), List.all_cons]
    congr 1
    simp only [fpartB, partB, letterB, digitB]
    grind
theorem fname_eq (l : List UInt8) : fnameB l = (decide (0 < l.length) && decide (l.length ≤ 24) && fpartsB 0 l) := by
  cases l with
  | nil => rfl
  | cons b l =>
    rw [fpartsB, fparts_tail]
    simp only [fnameB, nameB, noHash, List.all_cons, fpartB, partB, letterB, digitB, List.getD_cons_zero, List.length_cons]
    rw [Bool.eq_iff_iff]
    simp only [List.all_eq_true, Bool.and_eq_true, decide_eq_true_eq, bne_iff_ne, Bool.or_eq_true]
    grind
theorem fisName_spec (l : List UInt8) : Ctr sys 82 [xs l] [] (xb (fnameB l)) none [] := by
  rw [fname_eq]
  refine spec_intro Try.func82 rfl rfl rfl rfl rfl rfl ?_
  refine awp_seq (awp_region ?_)
  refine al_pure rfl rfl rfl (pure_assign rfl gU) ?_
  refine al_nil ?_
  refine awp_seq ?_
  refine awp_seq (awp_region ?_)
  refine al_pure rfl rfl rfl (pure_move rfl gU) ?_
  refine al_lenS rfl rfl rfl rfl rfl gU (Try.underlying9) ?_ (fun hh => by simp at hh); intro hlen
  refine al_pure rfl rfl rfl (pure_move rfl gU) ?_
  refine al_nil ?_
  refine awp_block ?_
  refine awp_for (ι := Nat) { t := [(0, _, _), (7, _, _)], bx := [], ow := [] } (fun k => [(8, true, xi (k : Int))]) (fun k => []) (fun k => k ≤ l.length ∧ fpartsB k (l.drop k) = fpartsB 0 l) (fun k => l.length - k) (0) (by simp) (sub_mk (⟨sx rfl, ⟨sx rfl, ⟨sx rfl, trivial⟩⟩⟩) trivial trivial) ?_
  intro k hok
  dsimp only [List.cons_append, List.nil_append]
  obtain ⟨hk, hi⟩ := hok
  refine awp_seq (awp_region ?_)
  refine al_pure rfl rfl rfl (pure_cmp rfl rfl gU gU rfl) ?_
  refine al_nil ?_
  refine awp_seq ?_
  refine awp_cond rfl (fun hc => ?_) (fun hc => ?_)
  · have hlt : k < l.length := by simpa using hc
    rw [drop_get0 hlt, fpartsB] at hi
    refine awp_skip ?_
    refine awp_seq ?_
    refine awp_block ?_
    refine awp_seq (awp_region ?_)
    refine al_pure rfl rfl rfl (pure_move rfl gU) ?_
    refine al_pure rfl rfl rfl (pure_assign rfl gU) ?_
    refine al_nil ?_
    refine awp_seq (awp_region ?_)
    refine al_pure rfl rfl rfl (pure_move rfl gU) ?_
    refine al_pure rfl rfl rfl (pure_move rfl gU) ?_
    refine al_pure rfl rfl rfl (pure_indexSg rfl rfl gU gU Try.underlying9 rfl (fun hh => by first | omega | (simp at hh; exact List.length_pos_iff.2 hh.1))) ?_
    refine al_pure rfl rfl rfl (pure_assign rfl gU) ?_
    refine al_nil ?_
    refine awp_sub (s := { t := [(0, _, _), (3, _, _), (4, _, _), (7, _, _), (8, _, _)], bx := [], ow := [] }) (sub_mk (⟨sx rfl, ⟨sx rfl, ⟨sx rfl, ⟨sx rfl, ⟨sx rfl, trivial⟩⟩⟩⟩⟩) trivial trivial) ?_
    refine awp_seq (awp_region ?_)
    refine al_pure rfl rfl rfl (pure_move rfl gU) ?_
    refine al_pure rfl rfl rfl (pure_cmp rfl rfl gU gU rfl) ?_
    refine al_pure rfl rfl rfl (pure_move rfl gU) ?_
    refine al_pure rfl rfl rfl (pure_move rfl gU) ?_
    refine al_pure rfl rfl rfl (pure_cmp rfl rfl (fun hh => hh) gU rfl) ?_
    refine al_pure rfl rfl rfl (pure_and rfl rfl gU (fun _ hi => gP rfl hi)) ?_
    refine al_pure rfl rfl rfl (pure_move rfl gU) ?_
    refine al_pure rfl rfl rfl (pure_move rfl gU) ?_
    refine al_pure rfl rfl rfl (pure_cmp rfl rfl (fun hh => hh) gU rfl) ?_
    refine al_pure rfl rfl rfl (pure_move rfl (fun hh => hh)) ?_
    refine al_pure rfl rfl rfl (pure_move rfl gU) ?_
    refine al_pure rfl rfl rfl (pure_cmp rfl rfl (fun hh => hh) gU rfl) ?_
    refine al_sub (s := { t := [(0, _, _), (3, _, _), (4, _, _), (7, _, _), (8, _, _), (20, _, _), (23, _, _), (25, _, _)], bx := [], ow := [] }) (sub_mk (⟨sx rfl, ⟨sx rfl, ⟨sx rfl, ⟨sx rfl, ⟨sx rfl, ⟨sx rfl, ⟨sx rfl, ⟨sx rfl, trivial⟩⟩⟩⟩⟩⟩⟩⟩) trivial trivial) ?_
    refine al_pure rfl rfl rfl (pure_and rfl rfl (fun hh => hh) (fun hh hi => gP hh hi)) ?_
    refine al_pure rfl rfl rfl (pure_or rfl rfl gU (fun _ hi => gP rfl hi)) ?_
    refine al_pure rfl rfl rfl (pure_assign rfl gU) ?_
    refine al_nil ?_
    refine awp_seq (awp_region ?_)
    refine al_pure rfl rfl rfl (pure_move rfl gU) ?_
    refine al_pure rfl rfl rfl (pure_not rfl gU) ?_
    refine al_pure rfl rfl rfl (pure_move rfl gU) ?_
    refine al_pure rfl rfl rfl (pure_move rfl gU) ?_
    refine al_pure rfl rfl rfl (pure_cmp rfl rfl (fun hh => hh) gU rfl) ?_
    refine al_pure rfl rfl rfl (pure_move rfl (fun hh => hh)) ?_
    refine al_pure rfl rfl rfl (pure_move rfl gU) ?_
    refine al_pure rfl rfl rfl (pure_cmp rfl rfl (fun hh => hh) gU rfl) ?_
    refine al_pure rfl rfl rfl (pure_move rfl (fun hh => hh)) ?_
    refine al_sub (s := { t := [(0, _, _), (4, _, _), (7, _, _), (8, _, _), (30, _, _), (33, _, _), (36, _, _)], bx := [], ow := [] }) (sub_mk (⟨sx rfl, ⟨sx rfl, ⟨sx rfl, ⟨sx rfl, ⟨sx rfl, ⟨sx rfl, ⟨sx rfl, trivial⟩⟩⟩⟩⟩⟩⟩) trivial trivial) ?_
    refine al_pure rfl rfl rfl (pure_move rfl gU) ?_
    refine al_pure rfl rfl rfl (pure_cmp rfl rfl (fun hh => hh) gU rfl) ?_
    refine al_pure rfl rfl rfl (pure_move rfl (fun hh => hh)) ?_
    refine al_pure rfl rfl rfl (pure_move rfl gU) ?_
    refine al_pure rfl rfl rfl (pure_cmp rfl rfl (fun hh => hh) gU rfl) ?_
    refine al_pure rfl rfl rfl (pure_or rfl rfl (fun hh => hh) (fun hh hi => gP hh hi)) ?_
    refine al_pure rfl rfl rfl (pure_and rfl rfl (fun hh => hh) (fun hh hi => gP hh hi)) ?_
    refine al_pure rfl rfl rfl (pure_or rfl rfl (fun hh => hh) (fun hh hi => gP hh hi)) ?_
    refine al_pure rfl rfl rfl (pure_and rfl rfl gU (fun _ hi => gP rfl hi)) ?_
    refine al_nil ?_
    refine awp_sub (s := { t := [(0, _, _), (7, _, _), (8, _, _), (45, _, _)], bx := [], ow := [] }) (sub_mk (⟨sx rfl, ⟨sx rfl, ⟨sx rfl, ⟨sx rfl, trivial⟩⟩⟩⟩) trivial trivial) ?_
    refine awp_cond rfl (fun hc1 => ?_) (fun hc1 => ?_)
    · try simp only [nn] at hc1
      refine awp_seq (awp_region ?_)
      refine al_pure rfl rfl rfl (pure_assign rfl gU) ?_
      refine al_nil ?_
      refine awp_ret ?_
      repeat (first | refine tR ?_ | refine bR ?_)
      refine ret_ok rfl ?_ trivial
      exact xb_eq (by grind [fpartB, letterB, digitB])
    · try simp only [nn] at hc1
      refine awp_skip ?_
      refine awp_region ?_
      refine al_pure rfl rfl rfl (pure_arith rfl rfl gU gU rfl (IntWalk.i64_in _ (by omega))) ?_
      refine al_pure rfl rfl rfl (pure_move rfl gU) ?_
      refine al_nil ?_
      refine ⟨k + 1, ?_, ?_, sub_mk (⟨⟨_, rfl, ?_⟩, ⟨sx rfl, ⟨sx rfl, trivial⟩⟩⟩) trivial trivial⟩
      all_goals (grind [fpartB, letterB, digitB])
  · refine awp_exit ?_
    repeat (first | refine thenS_exit ?_ | refine blockS_hit ?_ | refine blockS_miss rfl ?_)
    refine awp_seq (awp_region ?_)
    refine al_pure rfl rfl rfl (pure_move rfl gU) ?_
    refine al_lenS rfl rfl rfl rfl rfl gU (Try.underlying9) ?_ (fun hh => by simp at hh); intro hlen
    refine al_pure rfl rfl rfl (pure_cmp rfl rfl gU gU rfl) ?_
    refine al_pure rfl rfl rfl (pure_move rfl gU) ?_
    refine al_pure rfl rfl rfl (pure_move rfl gU) ?_
    refine al_pure rfl rfl rfl (pure_lenS rfl (fun hh => hh) (Try.underlying9)) ?_
    refine al_pure rfl rfl rfl (pure_cmp rfl rfl (fun hh => hh) gU rfl) ?_
    refine al_pure rfl rfl rfl (pure_and rfl rfl gU (fun _ hi => gP rfl hi)) ?_
    refine al_pure rfl rfl rfl (pure_assign rfl gU) ?_
    refine al_nil ?_
    refine awp_ret ?_
    repeat (first | refine tR ?_ | refine bR ?_)
    refine ret_ok rfl ?_ trivial
    have : l.drop k = [] := by simp at hc ⊢; omega
    rw [this, fpartsB] at hi
    exact xb_eq (by grind)
end Go.Proofs.Ytgjclggjkhapfaa
/- Tables of formats: as data, and what the functions on them compute (plain). -/
set_option linter.unusedVariables false
set_option linter.unusedSimpArgs false
namespace Go.Proofs.Ytgjclggjkhapfaa
open Go Go.Abs
structure Fd where
  kind : Int
  bytes : List UInt8
  n : Int
  low : Int
  high : Int
  deriving Inhabited
theorem Fd.ext' {a b : Fd} (h1 : a.kind = b.kind) (h2 : a.bytes = b.bytes) (h3 : a.n = b.n) (h4 : a.low = b.low) (h5 : a.high = b.high) : a = b := by
  cases a; cases b; simp_all
def Fd.cells (f : Fd) : List C := [.i .i64 f.kind, .s f.bytes, .i .i64 f.n, .i .i64 f.low, .i .i64 f.high]
def Fd.rows (l : List Fd) : List (List C) := l.map Fd.cells
theorem Fd.rows_len (l : List Fd) : (Fd.rows l).length = l.length := by simp [Fd.rows]
theorem Fd.rows_at {l : List Fd} {k : Nat} (h : k < l.length) : (Fd.rows l)[k]? = some (l.getD k default).cells := by
  rw [Fd.rows, List.getElem?_map, List.getD_eq_getElem?_getD, List.getElem?_eq_getElem h]; rfl
theorem Fd.rows_app (a b : List Fd) : Fd.rows (a ++ b) = Fd.rows a ++ Fd.rows b := by simp [Fd.rows]
theorem Fd.rows_take (l : List Fd) (k : Nat) : (Fd.rows l).take k = Fd.rows (l.take k) := by simp [Fd.rows, List.map_take]
abbrev xf (f : Fd) : X := .v (.agg f.cells)
abbrev xfs (l : List Fd) : X := .v (.c (.sl 5 (Fd.rows l)))
structure Fm where
  name : List UInt8
  fields : List Fd
  deriving Inhabited
def Fm.cells (f : Fm) : List C := [.s f.name, .sl 5 (Fd.rows f.fields)]
def Fm.rows (l : List Fm) : List (List C) := l.map Fm.cells
theorem Fm.rows_len (l : List Fm) : (Fm.rows l).length = l.length := by simp [Fm.rows]
theorem Fm.rows_at {l : List Fm} {k : Nat} (h : k < l.length) : (Fm.rows l)[k]? = some (l.getD k default).cells := by
  rw [Fm.rows, List.getElem?_map, List.getD_eq_getElem?_getD, List.getElem?_eq_getElem h]; rfl
theorem Fm.rows_app (a b : List Fm) : Fm.rows (a ++ b) = Fm.rows a ++ Fm.rows b := by simp [Fm.rows]
theorem Fm.rows_take (l : List Fm) (k : Nat) : (Fm.rows l).take k = Fm.rows (l.take k) := by simp [Fm.rows, List.map_take]
abbrev xtab (t : List Fm) : X := .v (.c (.sl 2 (Fm.rows t)))
/-- The format with an index. -/
abbrev fmAt (t : List Fm) (i : Int) : Fm := t.getD i.toNat default
def shapeB (f : Fd) : Bool :=
  (f.kind == 1 && f.n == 0 && f.low == 0 && f.high == 0) || ((f.kind == 2 || f.kind == 3 || f.kind == 5) && f.bytes == [] && f.low == 0 && f.high == 0) || ((f.kind == 4 || f.kind == 6) && f.bytes == [] && f.n == 0)
def rangeB (f : Fd) (last : Bool) : Bool :=
  if f.kind = 1 then decide (1 ≤ f.bytes.length) && decide (f.bytes.length ≤ 8)
  else if f.kind = 2 then decide (1 ≤ f.n) && decide (f.n ≤ 15)
  else if f.kind = 3 then decide (0 ≤ f.n) && decide (f.n ≤ 15)
  else if f.kind = 4 then decide (0 ≤ f.low) && decide (f.low ≤ f.high) && decide (f.high ≤ 255)
  else if f.kind = 6 then last && decide (0 ≤ f.low) && decide (f.low ≤ f.high) && decide (f.high ≤ 1000)
  else true
def plainB (l : List Fd) : Bool := l.all fun f => f.kind != 5 && f.kind != 6
def fieldE (t : List Fm) (f : Fd) (last : Bool) : Int :=
  if shapeB f = false then 1 else if rangeB f last = false then 7 else if f.kind ≠ 5 then 0 else if f.n < 0 ∨ (t.length : Int) ≤ f.n then 4 else if plainB (fmAt t f.n).fields = false then 10 else 0
def findF (nm : List UInt8) : Int → List Fm → Int
  | _, [] => -1
  | k, f :: l => if f.name = nm then k else findF nm (k + 1) l
def fieldsE (t : List Fm) : List Fd → Int
  | [] => 0
  | f :: l => if fieldE t f l.isEmpty ≠ 0 then fieldE t f l.isEmpty else fieldsE t l
def fmE (t : List Fm) (f : Fm) : Int :=
  if fnameB f.name = false then 2 else if 0 ≤ findF f.name 0 t then 5 else if f.fields.length = 0 then 8 else if 6 < f.fields.length then 3 else fieldsE t f.fields
def tableE (t : List Fm) : List Fm → Nat → Int
  | [], _ => 0
  | f :: l, k => if fmE (t.take k) f ≠ 0 then fmE (t.take k) f else tableE t l (k + 1)
def validE (t : List Fm) : Int := if 8 < t.length then 3 else tableE t t 0
/-- What a valid table is. -/
structure Tab (t : List Fm) : Prop where
  len : t.length ≤ 8
  nf : ∀ i, i < t.length → 1 ≤ (t.getD i default).fields.length ∧ (t.getD i default).fields.length ≤ 6
  fd : ∀ i, i < t.length → ∀ k, k < (t.getD i default).fields.length → fieldE (t.take i) ((t.getD i default).fields.getD k default) (decide (k + 1 = (t.getD i default).fields.length)) = 0
theorem fieldsE_zero : ∀ {t : List Fm} {l : List Fd}, fieldsE t l = 0 → ∀ k, k < l.length → fieldE t (l.getD k default) (decide (k + 1 = l.length)) = 0
  | t, [], _, k, hk => by simp at hk
  | t, f :: l, h, k, hk => by
    rw [fieldsE] at h
    split at h
    · rename_i h1; exact absurd h h1
    · rename_i h1
      have h1 := Decidable.not_not.1 h1
      cases k with
      | zero =>
        rw [List.getD_cons_zero, ← h1]
        cases l <;> rfl
      | succ k =>
        rw [List.getD_cons_succ]
        have := fieldsE_zero h k (by simpa using hk)
        simpa using this
theorem tableE_zero : ∀ {t l : List Fm} {k : Nat}, tableE t l k = 0 → ∀ i, i < l.length → fmE (t.take (k + i)) (l.getD i default) = 0
  | t, [], k, _, i, hi => by simp at hi
  | t, f :: l, k, h, i, hi => by
    rw [tableE] at h
    split at h
    · rename_i h1; exact absurd h h1
    · rename_i h1
      have h1 := Decidable.not_not.1 h1
      cases i with
      | zero => simpa using h1
      | succ i =>
        have := tableE_zero h i (by simpa using hi)
        rw [List.getD_cons_succ, ← this]
        congr 2; omega
theorem fmE_zero {t : List Fm} {f : Fm} (h : fmE t f = 0) : 1 ≤ f.fields.length ∧ f.fields.length ≤ 6 ∧ fieldsE t f.fields = 0 ∧ fnameB f.name = true ∧ findF f.name 0 t < 0 := by
  unfold fmE at h
  split at h
  · simp at h
  split at h
  · simp at h
  split at h
  · simp at h
  split at h
  · simp at h
  refine ⟨by omega, by omega, h, by simp_all, by omega⟩
theorem validE_fm {t : List Fm} (h : validE t = 0) (i : Nat) (hi : i < t.length) : fmE (t.take i) (t.getD i default) = 0 := by
  unfold validE at h
  split at h
  · simp at h
  · have := tableE_zero h i hi
    simpa using this
theorem Tab.of {t : List Fm} (h : validE t = 0) : Tab t where
  len := by
    unfold validE at h
    split at h
    · simp at h
    · omega
  nf i hi := ⟨(fmE_zero (validE_fm h i hi)).1, (fmE_zero (validE_fm h i hi)).2.1⟩
  fd i hi k hk := fieldsE_zero (fmE_zero (validE_fm h i hi)).2.2.1 k hk
/-- The ranges of a field without an error. -/
theorem fieldE_rng {t : List Fm} {f : Fd} {last : Bool} (h : fieldE t f last = 0) : shapeB f = true ∧ rangeB f last = true ∧ (f.kind = 5 → 0 ≤ f.n ∧ f.n < t.length ∧ plainB (fmAt t f.n).fields = true) := by
  unfold fieldE at h
  grind
/-- What the walks need to know of a field. -/
structure FdOk (f : Fd) : Prop where
  k : 1 ≤ f.kind ∧ f.kind ≤ 6
  bytes : f.bytes.length ≤ 8
  n : 0 ≤ f.n ∧ f.n ≤ 15
  low : 0 ≤ f.low ∧ f.low ≤ 1000
  high : 0 ≤ f.high ∧ f.high ≤ 1000
  lh : f.low ≤ f.high
  h4 : f.kind = 4 → f.high ≤ 255
theorem fieldE_ok {t : List Fm} {f : Fd} {last : Bool} (ht : t.length ≤ 8) (h : fieldE t f last = 0) : FdOk f := by
  obtain ⟨h1, h2, h3⟩ := fieldE_rng h
  unfold shapeB at h1
  unfold rangeB at h2
  simp only [Bool.or_eq_true, Bool.and_eq_true, beq_iff_eq] at h1
  rcases h1 with ((h1 | h1) | h1)
  · obtain ⟨⟨⟨q1, q2⟩, q3⟩, q4⟩ := h1
    rw [if_pos q1] at h2
    simp only [Bool.and_eq_true, decide_eq_true_eq] at h2
    constructor <;> omega
  · obtain ⟨⟨⟨q1, q2⟩, q3⟩, q4⟩ := h1
    have hb : f.bytes.length = 0 := by rw [q2]; rfl
    rcases q1 with (q1 | q1) | q1 <;> (simp [q1] at h2 h3; constructor <;> omega)
  · obtain ⟨⟨q1, q2⟩, q3⟩ := h1
    have hb : f.bytes.length = 0 := by rw [q2]; rfl
    rcases q1 with q1 | q1 <;> (simp [q1] at h2; constructor <;> omega)
theorem Tab.fdOk {t : List Fm} (h : Tab t) {i k : Nat} (hi : i < t.length) (hk : k < (t.getD i default).fields.length) : FdOk ((t.getD i default).fields.getD k default) :=
  fieldE_ok (by have := h.len; simp; omega) (h.fd i hi k hk)
/-- A nested format. -/
theorem Tab.nest {t : List Fm} (h : Tab t) {i k : Nat} (hi : i < t.length) (hk : k < (t.getD i default).fields.length) (h5 : ((t.getD i default).fields.getD k default).kind = 5) :
    0 ≤ ((t.getD i default).fields.getD k default).n ∧ ((t.getD i default).fields.getD k default).n < i ∧ plainB (fmAt t ((t.getD i default).fields.getD k default).n).fields = true := by
  obtain ⟨_, _, h3⟩ := fieldE_rng (h.fd i hi k hk)
  obtain ⟨q1, q2, q3⟩ := h3 h5
  have hl : (t.take i).length = i := by simp; omega
  rw [hl] at q2
  refine ⟨q1, q2, ?_⟩
  have key : ∀ n : Int, n < i → 0 ≤ n → fmAt (t.take i) n = fmAt t n := by
    intro n h1 h2
    simp only [fmAt, List.getD_eq_getElem?_getD]
    rw [List.getElem?_take, if_pos (by omega)]
  rw [← key _ q2 q1]; exact q3
theorem plainB_kind {l : List Fd} (h : plainB l = true) {k : Nat} (hk : k < l.length) : (l.getD k default).kind ≠ 5 ∧ (l.getD k default).kind ≠ 6 := by
  unfold plainB at h
  rw [List.all_eq_true] at h
  have := h (l.getD k default) (by rw [List.getD_eq_getElem?_getD, List.getElem?_eq_getElem hk]; exact List.getElem_mem hk)
  simpa using this
/-- Bounds. -/
def bnd1 (f : Fd) : Int × Int :=
  if f.kind = 1 then (f.bytes.length, f.bytes.length) else if f.kind = 2 then (f.n, f.n) else if f.kind = 3 then (1, 1 + f.n) else if f.kind = 6 then (f.low, f.high) else (1, 1)
/-- The sum of the bounds; 'rec': those of a nested format. -/
def bndF (rec : Int → Int × Int) (f : Fd) : Int × Int := if f.kind = 5 then (1 + (rec f.n).1, 1 + (rec f.n).2) else bnd1 f
def bndL (rec : Int → Int × Int) : List Fd → Int × Int
  | [] => (0, 0)
  | f :: l => ((bndF rec f).1 + (bndL rec l).1, (bndF rec f).2 + (bndL rec l).2)
def bnd0 (t : List Fm) (i : Int) : Int × Int := bndL (fun _ => (0, 0)) (fmAt t i).fields
def bndT (t : List Fm) (i : Int) : Int × Int := bndL (bnd0 t) (fmAt t i).fields
def errE (t : List Fm) (i : Int) : Int := if validE t ≠ 0 then validE t else if i < 0 ∨ (t.length : Int) ≤ i then 7 else 0
def boundsE (t : List Fm) (i : Int) : Int × Int × Int := if errE t i ≠ 0 then (0, 0, errE t i) else ((bndT t i).1, (bndT t i).2, 0)
theorem bnd1_le {f : Fd} (h : FdOk f) : 0 ≤ (bnd1 f).1 ∧ (bnd1 f).1 ≤ (bnd1 f).2 ∧ (bnd1 f).2 ≤ 1000 := by
  obtain ⟨h1, h2, h3, h4, h5, h6, _⟩ := h
  unfold bnd1
  grind
theorem bndL_le {rec : Int → Int × Int} {B : Int} : ∀ {l : List Fd}, (∀ k, k < l.length → 0 ≤ (bndF rec (l.getD k default)).1 ∧ (bndF rec (l.getD k default)).1 ≤ (bndF rec (l.getD k default)).2 ∧ (bndF rec (l.getD k default)).2 ≤ B) →
    0 ≤ (bndL rec l).1 ∧ (bndL rec l).1 ≤ (bndL rec l).2 ∧ (bndL rec l).2 ≤ B * l.length
  | [], _ => by simp [bndL]
  | f :: l, h => by
    have h0 := h 0 (by simp)
    have ih := bndL_le (rec := rec) (B := B) (l := l) fun k hk => by have := h (k + 1) (by simpa using hk); simpa using this
    simp only [List.getD_cons_zero] at h0
    rw [bndL, List.length_cons]
    have : B * ((l.length + 1 : Nat) : Int) = B * l.length + B := by rw [Int.natCast_add, Int.mul_add]; simp
    dsimp only
    omega
theorem bndL_take {rec : Int → Int × Int} : ∀ {l : List Fd} {k : Nat}, k < l.length → (bndL rec (l.take (k + 1))).1 = (bndL rec (l.take k)).1 + (bndF rec (l.getD k default)).1 ∧ (bndL rec (l.take (k + 1))).2 = (bndL rec (l.take k)).2 + (bndF rec (l.getD k default)).2
  | [], k, h => by simp at h
  | f :: l, 0, h => by simp [bndL]
  | f :: l, k + 1, h => by
    obtain ⟨h1, h2⟩ := bndL_take (rec := rec) (l := l) (k := k) (by simpa using h)
    simp only [List.take_succ_cons, bndL, List.getD_cons_succ] at *
    omega
/-- Fields without nested formats; and with such that are plain. -/
structure Plain1 (l : List Fd) : Prop where
  len : 1 ≤ l.length ∧ l.length ≤ 6
  ok : ∀ k, k < l.length → FdOk (l.getD k default) ∧ (l.getD k default).kind ≠ 5 ∧ (l.getD k default).kind ≠ 6
structure Fds (t : List Fm) (l : List Fd) : Prop where
  len : 1 ≤ l.length ∧ l.length ≤ 6
  ok : ∀ k, k < l.length → FdOk (l.getD k default)
  nest : ∀ k, k < l.length → (l.getD k default).kind = 5 → (l.getD k default).n < t.length ∧ Plain1 (t.getD (l.getD k default).n.toNat default).fields
theorem Tab.fds {t : List Fm} (h : Tab t) {i : Nat} (hi : i < t.length) : Fds t (t.getD i default).fields where
  len := h.nf i hi
  ok k hk := h.fdOk hi hk
  nest k hk h5 := by
    obtain ⟨q1, q2, q3⟩ := h.nest hi hk h5
    have hlt : ((t.getD i default).fields.getD k default).n.toNat < t.length := by omega
    exact ⟨by omega, h.nf _ hlt, fun j hj => ⟨h.fdOk hlt hj, plainB_kind q3 hj⟩⟩
theorem Plain1.bnd {l : List Fd} {rec : Int → Int × Int} (h : Plain1 l) (k : Nat) : 0 ≤ (bndL rec (l.take k)).1 ∧ (bndL rec (l.take k)).1 ≤ (bndL rec (l.take k)).2 ∧ (bndL rec (l.take k)).2 ≤ 6000 := by
  have := bndL_le (rec := rec) (B := 1000) (l := l.take k) fun j hj => by
    simp only [List.length_take] at hj
    obtain ⟨h1, h2, h3⟩ := h.ok j (by omega)
    have he : (l.take k).getD j default = l.getD j default := by simp only [List.getD_eq_getElem?_getD]; rw [List.getElem?_take, if_pos (by omega)]
    rw [he]
    unfold bndF
    rw [if_neg h2]
    exact bnd1_le h1
  have hl := h.len
  simp only [List.length_take] at this
  omega
theorem Plain1.bndAll {l : List Fd} {rec : Int → Int × Int} (h : Plain1 l) : 0 ≤ (bndL rec l).1 ∧ (bndL rec l).1 ≤ (bndL rec l).2 ∧ (bndL rec l).2 ≤ 6000 := by
  have := h.bnd (rec := rec) l.length
  rwa [List.take_length] at this
theorem Fds.bndF {t : List Fm} {l : List Fd} (h : Fds t l) {k : Nat} (hk : k < l.length) : 0 ≤ (bndF (bnd0 t) (l.getD k default)).1 ∧ (bndF (bnd0 t) (l.getD k default)).1 ≤ (bndF (bnd0 t) (l.getD k default)).2 ∧ (bndF (bnd0 t) (l.getD k default)).2 ≤ 7000 := by
  unfold Go.Proofs.Ytgjclggjkhapfaa.bndF
  split
  · rename_i h5
    have := (h.nest k hk h5).2.bndAll (rec := fun _ => (0, 0))
    unfold bnd0 fmAt
    dsimp only
    omega
  · have := bnd1_le (h.ok k hk)
    omega
theorem Fds.bnd {t : List Fm} {l : List Fd} (h : Fds t l) (k : Nat) : 0 ≤ (bndL (bnd0 t) (l.take k)).1 ∧ (bndL (bnd0 t) (l.take k)).1 ≤ (bndL (bnd0 t) (l.take k)).2 ∧ (bndL (bnd0 t) (l.take k)).2 ≤ 42000 := by
  have := bndL_le (rec := bnd0 t) (B := 7000) (l := l.take k) fun j hj => by
    simp only [List.length_take] at hj
    have he : (l.take k).getD j default = l.getD j default := by simp only [List.getD_eq_getElem?_getD]; rw [List.getElem?_take, if_pos (by omega)]
    rw [he]
    exact h.bndF (by omega)
  have hl := h.len
  simp only [List.length_take] at this
  omega
theorem bndF_eq {rec : Int → Int × Int} {f : Fd} (h : f.kind ≠ 5) : bndF rec f = bnd1 f := by rw [bndF, if_neg h]
theorem errE_zero {t : List Fm} {i : Int} (h : errE t i = 0) : Tab t ∧ 0 ≤ i ∧ i < t.length := by
  unfold errE at h
  split at h
  · rename_i h1; exact absurd h h1
  · rename_i h1
    split at h
    · simp at h
    · exact ⟨Tab.of (Decidable.not_not.1 h1), by omega, by omega⟩
end Go.Proofs.Ytgjclggjkhapfaa
/- Contracts: the errors of tables of formats, on both sides. -/
set_option linter.unusedVariables false
set_option linter.unusedSimpArgs false
namespace Go.Proofs.Ytgjclggjkhapfaa
open Go Go.Abs
theorem find_spec (t : List Fm) (nm : List UInt8) (rs : List (List C)) (hrs : rs = Fm.rows t) : Ctr sys 78 [.v (.c (.sl 2 rs)), xs nm] [] (xi (findF nm 0 t)) none [] := by
  subst hrs
  have hrl := Fm.rows_len t
  refine spec_intro Try.func78 rfl rfl rfl rfl rfl rfl ?_
  refine awp_seq (awp_region ?_)
  refine al_pure rfl rfl rfl (pure_assign rfl gU) ?_
  refine al_nil ?_
  refine awp_seq ?_
  refine awp_seq (awp_region ?_)
  refine al_pure rfl rfl rfl (pure_assign rfl gU) ?_
  refine al_nil ?_
  refine awp_block ?_
  refine awp_for (ι := Nat) { t := [(0, _, _), (1, _, _)], bx := [], ow := [] } (fun k => [(5, true, xi (k : Int))]) (fun k => []) (fun k => k ≤ t.length ∧ findF nm k (t.drop k) = findF nm 0 t) (fun k => t.length - k) (0) (by simp) (sub_mk (⟨sx rfl, ⟨sx rfl, ⟨sx rfl, trivial⟩⟩⟩) trivial trivial) ?_
  intro k hok
  dsimp only [List.cons_append, List.nil_append]
  obtain ⟨hk, hi⟩ := hok
  refine awp_seq ?_
  refine awp_seq (awp_region ?_)
  refine al_pure rfl rfl rfl (pure_move rfl gU) ?_
  refine al_pure rfl rfl rfl (pure_move rfl gU) ?_
  refine al_lenSl rfl rfl rfl rfl rfl gU rfl rfl ?_ (fun hh => by simp at hh); intro hlen
  refine al_pure rfl rfl rfl (pure_cmp rfl rfl gU gU rfl) ?_
  refine al_nil ?_
  refine awp_cond rfl (fun hc => ?_) (fun hc => ?_)
  · simp only [decide_eq_true_eq] at hc
    rw [drop_getD (by omega), findF] at hi
    refine awp_skip ?_
    refine awp_seq ?_
    refine awp_block ?_
    refine awp_seq (awp_region ?_)
    refine al_pure rfl rfl rfl (pure_move rfl gU) ?_
    refine al_pure rfl rfl rfl (pure_move rfl gU) ?_
    refine al_pure rfl rfl rfl (pure_indexAddr rfl rfl gU gU rfl rfl rfl (fun hh => Fm.rows_at (by omega))) ?_
    refine al_pure rfl rfl rfl (pure_fieldRo rfl gU rfl rfl) ?_
    refine al_pure rfl rfl rfl (pure_loadRo rfl gU rfl rfl rfl) ?_
    refine al_pure rfl rfl rfl (pure_move rfl gU) ?_
    refine al_pure rfl rfl rfl (pure_cmpS rfl rfl gU gU rfl) ?_
    refine al_nil ?_
    refine awp_sub (s := { t := [(0, _, _), (1, _, _), (5, _, _), (18, _, _)], bx := [], ow := [] }) (sub_mk (⟨sx rfl, ⟨sx rfl, ⟨sx rfl, ⟨sx rfl, trivial⟩⟩⟩⟩) trivial trivial) ?_
    refine awp_cond rfl (fun hc1 => ?_) (fun hc1 => ?_)
    · try simp only [nn] at hc1
      refine awp_seq (awp_region ?_)
      refine al_pure rfl rfl rfl (pure_move rfl gU) ?_
      refine al_pure rfl rfl rfl (pure_assign rfl gU) ?_
      refine al_nil ?_
      refine awp_ret ?_
      repeat (first | refine tR ?_ | refine bR ?_)
      refine ret_ok rfl ?_ trivial
      exact xi_eq (by grind)
    · try simp only [nn] at hc1
      refine awp_skip ?_
      refine awp_region ?_
      refine al_pure rfl rfl rfl (pure_move rfl gU) ?_
      refine al_pure rfl rfl rfl (pure_arith rfl rfl gU gU rfl (IntWalk.i64_in _ (by omega))) ?_
      refine al_pure rfl rfl rfl (pure_assign rfl gU) ?_
      refine al_nil ?_
      refine ⟨k + 1, ?_, ?_, sub_mk (⟨⟨_, rfl, ?_⟩, ⟨sx rfl, ⟨sx rfl, trivial⟩⟩⟩) trivial trivial⟩
      all_goals (first | rfl | omega | grind)
  · simp only [decide_eq_false_iff_not] at hc
    rw [List.drop_of_length_le (by omega), findF] at hi
    refine awp_exit ?_
    repeat (first | refine thenS_exit ?_ | refine blockS_hit ?_ | refine blockS_miss rfl ?_)
    refine awp_seq (awp_region ?_)
    refine al_pure rfl rfl rfl (pure_assign rfl gU) ?_
    refine al_nil ?_
    refine awp_ret ?_
    repeat (first | refine tR ?_ | refine bR ?_)
    refine ret_ok rfl ?_ trivial
    exact xi_eq hi
theorem index_spec (t : List Fm) (nm : List UInt8) (rs : List (List C)) (hrs : rs = Fm.rows t) : Ctr sys 83 [.v (.c (.sl 2 rs)), xs nm] [] (xi (findF nm 0 t)) none [] := by
  subst hrs
  have hrl := Fm.rows_len t
  refine spec_intro Try.func83 rfl rfl rfl rfl rfl rfl ?_
  refine awp_seq (awp_region ?_)
  refine al_pure rfl rfl rfl (pure_assign rfl gU) ?_
  refine al_nil ?_
  refine awp_seq ?_
  refine awp_seq (awp_region ?_)
  refine al_pure rfl rfl rfl (pure_move rfl gU) ?_
  refine al_lenSl rfl rfl rfl rfl rfl gU rfl rfl ?_ (fun hh => by simp at hh); intro hlen
  refine al_pure rfl rfl rfl (pure_move rfl gU) ?_
  refine al_nil ?_
  refine awp_block ?_
  refine awp_for (ι := Nat) { t := [(1, _, _), (7, _, _), (8, _, _)], bx := [], ow := [] } (fun k => [(9, true, xi (k : Int))]) (fun k => []) (fun k => k ≤ t.length ∧ findF nm k (t.drop k) = findF nm 0 t) (fun k => t.length - k) (0) (by simp) (sub_mk (⟨sx rfl, ⟨sx rfl, ⟨sx rfl, ⟨sx rfl, trivial⟩⟩⟩⟩) trivial trivial) ?_
  intro k hok
  dsimp only [List.cons_append, List.nil_append]
  obtain ⟨hk, hi⟩ := hok
  refine awp_seq (awp_region ?_)
  refine al_pure rfl rfl rfl (pure_cmp rfl rfl gU gU rfl) ?_
  refine al_nil ?_
  refine awp_seq ?_
  refine awp_cond rfl (fun hc => ?_) (fun hc => ?_)
  · simp only [decide_eq_true_eq] at hc
    rw [drop_getD (by omega), findF] at hi
    refine awp_skip ?_
    refine awp_seq ?_
    refine awp_block ?_
    refine awp_seq (awp_region ?_)
    refine al_pure rfl rfl rfl (pure_move rfl gU) ?_
    refine al_pure rfl rfl rfl (pure_indexAddr rfl rfl gU gU rfl rfl rfl (fun hh => Fm.rows_at (by omega))) ?_
    refine al_pure rfl rfl rfl (pure_loadRoRow rfl gU rfl rfl rfl rfl) ?_
    refine al_do rfl (does_alloc rfl rfl rfl) ?_
    refine al_pure rfl rfl rfl (pure_assign rfl gU) ?_
    refine al_do rfl (does_store rfl rfl rfl rfl rfl rfl rfl) ?_
    refine al_nil ?_
    refine awp_sub (s := { t := [(1, _, _), (5, _, _), (6, _, _), (7, _, _), (8, _, _), (9, _, _)], bx := [((.l 6), _)], ow := [] }) (sub_mk (⟨sx rfl, ⟨sx rfl, ⟨sx rfl, ⟨sx rfl, ⟨sx rfl, ⟨sx rfl, trivial⟩⟩⟩⟩⟩⟩) (⟨sx rfl, trivial⟩) trivial) ?_
    refine awp_seq (awp_region ?_)
    refine al_pure rfl rfl rfl (pure_fieldPtr rfl gU rfl rfl) ?_
    refine al_pure rfl rfl rfl (pure_loadBox rfl gU rfl rfl rfl rfl) ?_
    refine al_pure rfl rfl rfl (pure_move rfl gU) ?_
    refine al_pure rfl rfl rfl (pure_cmpS rfl rfl gU gU rfl) ?_
    refine al_nil ?_
    refine awp_cond rfl (fun hc1 => ?_) (fun hc1 => ?_)
    · try simp only [nn] at hc1
      refine awp_seq (awp_region ?_)
      refine al_pure rfl rfl rfl (pure_move rfl gU) ?_
      refine al_pure rfl rfl rfl (pure_assign rfl gU) ?_
      refine al_nil ?_
      refine awp_ret ?_
      repeat (first | refine tR ?_ | refine bR ?_)
      refine ret_ok rfl ?_ trivial
      exact xi_eq (by grind)
    · try simp only [nn] at hc1
      refine awp_skip ?_
      refine awp_region ?_
      refine al_pure rfl rfl rfl (pure_arith rfl rfl gU gU rfl (IntWalk.i64_in _ (by omega))) ?_
      refine al_pure rfl rfl rfl (pure_move rfl gU) ?_
      refine al_nil ?_
      refine ⟨k + 1, ?_, ?_, sub_mk (⟨⟨_, rfl, ?_⟩, ⟨sx rfl, ⟨sx rfl, ⟨sx rfl, trivial⟩⟩⟩⟩) trivial trivial⟩
      all_goals (first | rfl | omega | grind)
  · simp only [decide_eq_false_iff_not] at hc
    rw [List.drop_of_length_le (by omega), findF] at hi
    refine awp_exit ?_
    repeat (first | refine thenS_exit ?_ | refine blockS_hit ?_ | refine blockS_miss rfl ?_)
    refine awp_seq (awp_region ?_)
    refine al_pure rfl rfl rfl (pure_assign rfl gU) ?_
    refine al_nil ?_
    refine awp_ret ?_
    repeat (first | refine tR ?_ | refine bR ?_)
    refine ret_ok rfl ?_ trivial
    exact xi_eq hi
theorem plain_spec (f : Fm) : Ctr sys 65 [.v (.agg f.cells)] [] (xb (plainB f.fields)) none [] := by
  have hrl := Fd.rows_len f.fields
  refine spec_intro Try.func65 rfl rfl rfl rfl rfl rfl ?_
  refine awp_seq (awp_region ?_)
  refine al_do rfl (does_box rfl rfl rfl rfl) ?_
  refine al_pure rfl rfl rfl (pure_assign rfl gU) ?_
  refine al_nil ?_
  refine awp_seq ?_
  refine awp_seq (awp_region ?_)
  refine al_pure rfl rfl rfl (pure_assign rfl gU) ?_
  refine al_nil ?_
  refine awp_block ?_
  refine awp_for (ι := Nat) { t := [(1, _, _)], bx := [((.l 1), _)], ow := [] } (fun k => [(3, true, xi (k : Int))]) (fun k => []) (fun k => k ≤ f.fields.length ∧ plainB (f.fields.drop k) = plainB f.fields) (fun k => f.fields.length - k) (0) (by simp) (sub_mk (⟨sx rfl, ⟨sx rfl, trivial⟩⟩) (⟨sx rfl, trivial⟩) trivial) ?_
  intro k hok
  dsimp only [List.cons_append, List.nil_append]
  obtain ⟨hk, hi⟩ := hok
  refine awp_seq ?_
  refine awp_seq (awp_region ?_)
  refine al_pure rfl rfl rfl (pure_move rfl gU) ?_
  refine al_pure rfl rfl rfl (pure_fieldPtr rfl gU rfl rfl) ?_
  refine al_pure rfl rfl rfl (pure_loadBox rfl gU rfl rfl rfl rfl) ?_
  refine al_lenSl rfl rfl rfl rfl rfl gU rfl rfl ?_ (fun hh => by simp at hh); intro hlen
  refine al_pure rfl rfl rfl (pure_cmp rfl rfl gU gU rfl) ?_
  refine al_nil ?_
  refine awp_sub (s := { t := [(1, _, _), (3, _, _), (8, _, _)], bx := [((.l 1), _)], ow := [] }) (sub_mk (⟨sx rfl, ⟨sx rfl, ⟨sx rfl, trivial⟩⟩⟩) (⟨sx rfl, trivial⟩) trivial) ?_
  refine awp_cond rfl (fun hc => ?_) (fun hc => ?_)
  · simp only [decide_eq_true_eq] at hc
    rw [drop_getD (by omega), plainB, List.all_cons] at hi
    refine awp_skip ?_
    refine awp_seq ?_
    refine awp_block ?_
    refine awp_seq (awp_region ?_)
    refine al_pure rfl rfl rfl (pure_fieldPtr rfl gU rfl rfl) ?_
    refine al_pure rfl rfl rfl (pure_loadBox rfl gU rfl rfl rfl rfl) ?_
    refine al_pure rfl rfl rfl (pure_move rfl gU) ?_
    refine al_pure rfl rfl rfl (pure_indexAddr rfl rfl gU gU rfl rfl rfl (fun hh => Fd.rows_at (by omega))) ?_
    refine al_pure rfl rfl rfl (pure_fieldRo rfl gU rfl rfl) ?_
    refine al_pure rfl rfl rfl (pure_loadRo rfl gU rfl rfl rfl) ?_
    refine al_pure rfl rfl rfl (pure_cmp rfl rfl gU gU rfl) ?_
    refine al_pure rfl rfl rfl (pure_move rfl gU) ?_
    refine al_pure rfl rfl rfl (pure_fieldPtr rfl gU rfl rfl) ?_
    refine al_pure rfl rfl rfl (pure_loadBox rfl (fun hh => hh) rfl rfl rfl rfl) ?_
    refine al_pure rfl rfl rfl (pure_move rfl gU) ?_
    refine al_pure rfl rfl rfl (pure_indexAddr rfl rfl (fun hh => hh) (fun hh => hh) rfl rfl rfl (fun hh => Fd.rows_at (by omega))) ?_
    refine al_sub (s := { t := [(1, _, _), (3, _, _), (18, _, _), (22, _, _)], bx := [((.l 1), _)], ow := [] }) (sub_mk (⟨sx rfl, ⟨sx rfl, ⟨sx rfl, ⟨sx rfl, trivial⟩⟩⟩⟩) (⟨sx rfl, trivial⟩) trivial) ?_
    refine al_pure rfl rfl rfl (pure_fieldRo rfl (fun hh => hh) rfl rfl) ?_
    refine al_pure rfl rfl rfl (pure_loadRo rfl (fun hh => hh) rfl rfl rfl) ?_
    refine al_pure rfl rfl rfl (pure_cmp rfl rfl (fun hh => hh) gU rfl) ?_
    refine al_pure rfl rfl rfl (pure_or rfl rfl gU (fun _ hi => gP rfl hi)) ?_
    refine al_nil ?_
    refine awp_cond rfl (fun hc1 => ?_) (fun hc1 => ?_)
    · try simp only [nn] at hc1
      refine awp_seq (awp_region ?_)
      refine al_pure rfl rfl rfl (pure_assign rfl gU) ?_
      refine al_nil ?_
      refine awp_ret ?_
      repeat (first | refine tR ?_ | refine bR ?_)
      refine ret_ok rfl ?_ trivial
      exact xb_eq (by grind)
    · try simp only [nn] at hc1
      refine awp_skip ?_
      refine awp_region ?_
      refine al_pure rfl rfl rfl (pure_move rfl gU) ?_
      refine al_pure rfl rfl rfl (pure_arith rfl rfl gU gU rfl (IntWalk.i64_in _ (by omega))) ?_
      refine al_pure rfl rfl rfl (pure_assign rfl gU) ?_
      refine al_nil ?_
      refine ⟨k + 1, ?_, ?_, sub_mk (⟨⟨_, rfl, ?_⟩, ⟨sx rfl, trivial⟩⟩) (⟨sx rfl, trivial⟩) trivial⟩
      all_goals (first | rfl | omega | grind [plainB])
  · simp only [decide_eq_false_iff_not] at hc
    rw [List.drop_of_length_le (by omega)] at hi
    refine awp_exit ?_
    repeat (first | refine thenS_exit ?_ | refine blockS_hit ?_ | refine blockS_miss rfl ?_)
    refine awp_seq (awp_region ?_)
    refine al_pure rfl rfl rfl (pure_assign rfl gU) ?_
    refine al_nil ?_
    refine awp_ret ?_
    repeat (first | refine tR ?_ | refine bR ?_)
    refine ret_ok rfl ?_ trivial
    exact xb_eq (by rw [← hi]; rfl)
theorem shape_spec (f : Fd) : Ctr sys 99 [xf f] [] (xb (shapeB f)) none [] := by
  refine spec_intro Try.func99 rfl rfl rfl rfl rfl rfl ?_
  refine awp_seq (awp_region ?_)
  refine al_do rfl (does_box rfl rfl rfl rfl) ?_
  refine al_pure rfl rfl rfl (pure_assign rfl gU) ?_
  refine al_nil ?_
  refine awp_seq ?_
  refine awp_drawn' (by kernel_rfl) ?_
  refine dr_pure rfl rfl rfl rfl (pure_fieldPtr rfl gU rfl rfl) ?_
  refine dr_load rfl rfl rfl rfl rfl rfl rfl gU rfl rfl rfl rfl ?_
  refine dr_pure rfl rfl rfl rfl (pure_cmpS rfl rfl gU gU rfl) ?_
  refine dr_pure rfl rfl rfl rfl (pure_fieldPtr rfl gU rfl rfl) ?_
  refine dr_load rfl rfl rfl rfl rfl rfl rfl gU rfl rfl rfl rfl ?_
  refine dr_pure rfl rfl rfl rfl (pure_cmp rfl rfl gU gU rfl) ?_
  refine dr_pure rfl rfl rfl rfl (pure_fieldPtr rfl gU rfl rfl) ?_
  refine dr_load rfl rfl rfl rfl rfl rfl rfl gU rfl rfl rfl rfl ?_
  refine dr_pure rfl rfl rfl rfl (pure_cmp rfl rfl gU gU rfl) ?_
  refine dr_pure rfl rfl rfl rfl (pure_move rfl gU) ?_
  refine dr_pure rfl rfl rfl rfl (pure_fieldPtr rfl gU rfl rfl) ?_
  refine dr_load rfl rfl rfl rfl rfl rfl rfl (fun hh => hh) rfl rfl rfl rfl ?_
  refine dr_pure rfl rfl rfl rfl (pure_cmp rfl rfl (fun hh => hh) gU rfl) ?_
  refine dr_pure rfl rfl rfl rfl (pure_or rfl rfl gU (fun _ hi => gP rfl hi)) ?_
  refine dr_pure rfl rfl rfl rfl (pure_assign rfl gU) ?_
  refine dr_pure rfl rfl rfl rfl (pure_assign rfl gU) ?_
  refine dr_pure rfl rfl rfl rfl (pure_assign rfl gU) ?_
  refine dr_nil (by kernel_rfl) ?_
  refine awp_sub (s := { t := [(1, _, _), (3, _, _), (4, _, _), (5, _, _)], bx := [((.l 1), _)], ow := [] }) (sub_mk (⟨sx rfl, ⟨sx rfl, ⟨sx rfl, ⟨sx rfl, trivial⟩⟩⟩⟩) (⟨sx rfl, trivial⟩) trivial) ?_
  refine awp_seq ?_
  refine awp_seq (awp_region ?_)
  refine al_pure rfl rfl rfl (pure_fieldPtr rfl gU rfl rfl) ?_
  refine al_pure rfl rfl rfl (pure_loadBox rfl gU rfl rfl rfl rfl) ?_
  refine al_nil ?_
  refine awp_block ?_
  refine awp_seq (awp_region ?_)
  refine al_pure rfl rfl rfl (pure_cmp rfl rfl gU gU rfl) ?_
  refine al_pure rfl rfl rfl (pure_assign rfl gU) ?_
  refine al_nil ?_
  refine awp_cond rfl (fun hc1 => ?_) (fun hc1 => ?_)
  · try simp only [nn] at hc1
    refine awp_seq (awp_region ?_)
    refine al_pure rfl rfl rfl (pure_move rfl gU) ?_
    refine al_pure rfl rfl rfl (pure_not rfl gU) ?_
    refine al_pure rfl rfl rfl (pure_move rfl gU) ?_
    refine al_pure rfl rfl rfl (pure_move rfl gU) ?_
    refine al_pure rfl rfl rfl (pure_not rfl (fun hh => hh)) ?_
    refine al_pure rfl rfl rfl (pure_and rfl rfl gU (fun _ hi => gP rfl hi)) ?_
    refine al_pure rfl rfl rfl (pure_assign rfl gU) ?_
    refine al_nil ?_
    refine awp_ret ?_
    repeat (first | refine tR ?_ | refine bR ?_)
    refine ret_ok rfl ?_ trivial
    exact xb_eq (by simp only [shapeB]; grind)
  · try simp only [nn] at hc1
    refine awp_seq ?_
    refine awp_seq (awp_region ?_)
    refine al_pure rfl rfl rfl (pure_cmp rfl rfl gU gU rfl) ?_
    refine al_pure rfl rfl rfl (pure_assign rfl gU) ?_
    refine al_nil ?_
    refine awp_sub (s := { t := [(3, _, _), (4, _, _), (5, _, _), (21, _, _), (30, _, _)], bx := [], ow := [] }) (sub_mk (⟨sx rfl, ⟨sx rfl, ⟨sx rfl, ⟨sx rfl, ⟨sx rfl, trivial⟩⟩⟩⟩⟩) trivial trivial) ?_
    refine awp_cond rfl (fun hc2 => ?_) (fun hc2 => ?_)
    · try simp only [nn] at hc2
      refine awp_skip ?_
      refine awp_cond rfl (fun hc3 => ?_) (fun hc3 => ?_)
      · try simp only [nn] at hc3
        refine awp_seq (awp_region ?_)
        refine al_pure rfl rfl rfl (pure_move rfl gU) ?_
        refine al_pure rfl rfl rfl (pure_not rfl gU) ?_
        refine al_pure rfl rfl rfl (pure_move rfl gU) ?_
        refine al_pure rfl rfl rfl (pure_move rfl gU) ?_
        refine al_pure rfl rfl rfl (pure_not rfl (fun hh => hh)) ?_
        refine al_pure rfl rfl rfl (pure_and rfl rfl gU (fun _ hi => gP rfl hi)) ?_
        refine al_pure rfl rfl rfl (pure_assign rfl gU) ?_
        refine al_nil ?_
        refine awp_ret ?_
        repeat (first | refine tR ?_ | refine bR ?_)
        refine ret_ok rfl ?_ trivial
        exact xb_eq (by simp only [shapeB]; grind)
      · try simp only [nn] at hc3
        refine awp_seq ?_
        refine awp_seq (awp_region ?_)
        refine al_pure rfl rfl rfl (pure_cmp rfl rfl gU gU rfl) ?_
        refine al_pure rfl rfl rfl (pure_assign rfl gU) ?_
        refine al_nil ?_
        refine awp_cond rfl (fun hc4 => ?_) (fun hc4 => ?_)
        · try simp only [nn] at hc4
          refine awp_skip ?_
          refine awp_cond rfl (fun hc5 => ?_) (fun hc5 => ?_)
          · try simp only [nn] at hc5
            refine awp_seq (awp_region ?_)
            refine al_pure rfl rfl rfl (pure_move rfl gU) ?_
            refine al_pure rfl rfl rfl (pure_not rfl gU) ?_
            refine al_pure rfl rfl rfl (pure_move rfl gU) ?_
            refine al_pure rfl rfl rfl (pure_move rfl gU) ?_
            refine al_pure rfl rfl rfl (pure_not rfl (fun hh => hh)) ?_
            refine al_pure rfl rfl rfl (pure_and rfl rfl gU (fun _ hi => gP rfl hi)) ?_
            refine al_pure rfl rfl rfl (pure_assign rfl gU) ?_
            refine al_nil ?_
            refine awp_ret ?_
            repeat (first | refine tR ?_ | refine bR ?_)
            refine ret_ok rfl ?_ trivial
            exact xb_eq (by simp only [shapeB]; grind)
          · try simp only [nn] at hc5
            refine awp_skip ?_
            refine awp_seq (awp_region ?_)
            refine al_pure rfl rfl rfl (pure_assign rfl gU) ?_
            refine al_nil ?_
            refine awp_ret ?_
            repeat (first | refine tR ?_ | refine bR ?_)
            refine ret_ok rfl ?_ trivial
            exact xb_eq (by simp only [shapeB]; grind)
        · try simp only [nn] at hc4
          refine awp_region ?_
          refine al_pure rfl rfl rfl (pure_cmp rfl rfl gU gU rfl) ?_
          refine al_pure rfl rfl rfl (pure_assign rfl gU) ?_
          refine al_nil ?_
          refine awp_cond rfl (fun hc6 => ?_) (fun hc6 => ?_)
          · try simp only [nn] at hc6
            refine awp_seq (awp_region ?_)
            refine al_pure rfl rfl rfl (pure_move rfl gU) ?_
            refine al_pure rfl rfl rfl (pure_not rfl gU) ?_
            refine al_pure rfl rfl rfl (pure_move rfl gU) ?_
            refine al_pure rfl rfl rfl (pure_move rfl gU) ?_
            refine al_pure rfl rfl rfl (pure_not rfl (fun hh => hh)) ?_
            refine al_pure rfl rfl rfl (pure_and rfl rfl gU (fun _ hi => gP rfl hi)) ?_
            refine al_pure rfl rfl rfl (pure_assign rfl gU) ?_
            refine al_nil ?_
            refine awp_ret ?_
            repeat (first | refine tR ?_ | refine bR ?_)
            refine ret_ok rfl ?_ trivial
            exact xb_eq (by simp only [shapeB]; grind)
          · try simp only [nn] at hc6
            refine awp_skip ?_
            refine awp_seq (awp_region ?_)
            refine al_pure rfl rfl rfl (pure_assign rfl gU) ?_
            refine al_nil ?_
            refine awp_ret ?_
            repeat (first | refine tR ?_ | refine bR ?_)
            refine ret_ok rfl ?_ trivial
            exact xb_eq (by simp only [shapeB]; grind)
    · try simp only [nn] at hc2
      refine awp_seq (awp_region ?_)
      refine al_pure rfl rfl rfl (pure_cmp rfl rfl gU gU rfl) ?_
      refine al_pure rfl rfl rfl (pure_assign rfl gU) ?_
      refine al_nil ?_
      refine awp_cond rfl (fun hc7 => ?_) (fun hc7 => ?_)
      · try simp only [nn] at hc7
        refine awp_skip ?_
        refine awp_cond rfl (fun hc8 => ?_) (fun hc8 => ?_)
        · try simp only [nn] at hc8
          refine awp_seq (awp_region ?_)
          refine al_pure rfl rfl rfl (pure_move rfl gU) ?_
          refine al_pure rfl rfl rfl (pure_not rfl gU) ?_
          refine al_pure rfl rfl rfl (pure_move rfl gU) ?_
          refine al_pure rfl rfl rfl (pure_move rfl gU) ?_
          refine al_pure rfl rfl rfl (pure_not rfl (fun hh => hh)) ?_
          refine al_pure rfl rfl rfl (pure_and rfl rfl gU (fun _ hi => gP rfl hi)) ?_
          refine al_pure rfl rfl rfl (pure_assign rfl gU) ?_
          refine al_nil ?_
          refine awp_ret ?_
          repeat (first | refine tR ?_ | refine bR ?_)
          refine ret_ok rfl ?_ trivial
          exact xb_eq (by simp only [shapeB]; grind)
        · try simp only [nn] at hc8
          refine awp_seq ?_
          refine awp_seq (awp_region ?_)
          refine al_pure rfl rfl rfl (pure_cmp rfl rfl gU gU rfl) ?_
          refine al_pure rfl rfl rfl (pure_assign rfl gU) ?_
          refine al_nil ?_
          refine awp_cond rfl (fun hc9 => ?_) (fun hc9 => ?_)
          · try simp only [nn] at hc9
            refine awp_skip ?_
            refine awp_cond rfl (fun hc10 => ?_) (fun hc10 => ?_)
            · try simp only [nn] at hc10
              refine awp_seq (awp_region ?_)
              refine al_pure rfl rfl rfl (pure_move rfl gU) ?_
              refine al_pure rfl rfl rfl (pure_not rfl gU) ?_
              refine al_pure rfl rfl rfl (pure_move rfl gU) ?_
              refine al_pure rfl rfl rfl (pure_move rfl gU) ?_
              refine al_pure rfl rfl rfl (pure_not rfl (fun hh => hh)) ?_
              refine al_pure rfl rfl rfl (pure_and rfl rfl gU (fun _ hi => gP rfl hi)) ?_
              refine al_pure rfl rfl rfl (pure_assign rfl gU) ?_
              refine al_nil ?_
              refine awp_ret ?_
              repeat (first | refine tR ?_ | refine bR ?_)
              refine ret_ok rfl ?_ trivial
              exact xb_eq (by simp only [shapeB]; grind)
            · try simp only [nn] at hc10
              refine awp_skip ?_
              refine awp_seq (awp_region ?_)
              refine al_pure rfl rfl rfl (pure_assign rfl gU) ?_
              refine al_nil ?_
              refine awp_ret ?_
              repeat (first | refine tR ?_ | refine bR ?_)
              refine ret_ok rfl ?_ trivial
              exact xb_eq (by simp only [shapeB]; grind)
          · try simp only [nn] at hc9
            refine awp_region ?_
            refine al_pure rfl rfl rfl (pure_cmp rfl rfl gU gU rfl) ?_
            refine al_pure rfl rfl rfl (pure_assign rfl gU) ?_
            refine al_nil ?_
            refine awp_sub (s := { t := [(3, _, _), (4, _, _), (40, _, _)], bx := [], ow := [] }) (sub_mk (⟨sx rfl, ⟨sx rfl, ⟨sx rfl, trivial⟩⟩⟩) trivial trivial) ?_
            refine awp_cond rfl (fun hc11 => ?_) (fun hc11 => ?_)
            · try simp only [nn] at hc11
              refine awp_seq (awp_region ?_)
              refine al_pure rfl rfl rfl (pure_move rfl gU) ?_
              refine al_pure rfl rfl rfl (pure_not rfl gU) ?_
              refine al_pure rfl rfl rfl (pure_move rfl gU) ?_
              refine al_pure rfl rfl rfl (pure_move rfl gU) ?_
              refine al_pure rfl rfl rfl (pure_not rfl (fun hh => hh)) ?_
              refine al_pure rfl rfl rfl (pure_and rfl rfl gU (fun _ hi => gP rfl hi)) ?_
              refine al_pure rfl rfl rfl (pure_assign rfl gU) ?_
              refine al_nil ?_
              refine awp_ret ?_
              repeat (first | refine tR ?_ | refine bR ?_)
              refine ret_ok rfl ?_ trivial
              exact xb_eq (by simp only [shapeB]; grind)
            · try simp only [nn] at hc11
              refine awp_skip ?_
              refine awp_seq (awp_region ?_)
              refine al_pure rfl rfl rfl (pure_assign rfl gU) ?_
              refine al_nil ?_
              refine awp_ret ?_
              repeat (first | refine tR ?_ | refine bR ?_)
              refine ret_ok rfl ?_ trivial
              exact xb_eq (by simp only [shapeB]; grind)
      · try simp only [nn] at hc7
        refine awp_region ?_
        refine al_pure rfl rfl rfl (pure_cmp rfl rfl gU gU rfl) ?_
        refine al_pure rfl rfl rfl (pure_assign rfl gU) ?_
        refine al_nil ?_
        refine awp_cond rfl (fun hc12 => ?_) (fun hc12 => ?_)
        · try simp only [nn] at hc12
          refine awp_seq (awp_region ?_)
          refine al_pure rfl rfl rfl (pure_move rfl gU) ?_
          refine al_pure rfl rfl rfl (pure_not rfl gU) ?_
          refine al_pure rfl rfl rfl (pure_move rfl gU) ?_
          refine al_pure rfl rfl rfl (pure_move rfl gU) ?_
          refine al_pure rfl rfl rfl (pure_not rfl (fun hh => hh)) ?_
          refine al_pure rfl rfl rfl (pure_and rfl rfl gU (fun _ hi => gP rfl hi)) ?_
          refine al_pure rfl rfl rfl (pure_assign rfl gU) ?_
          refine al_nil ?_
          refine awp_ret ?_
          repeat (first | refine tR ?_ | refine bR ?_)
          refine ret_ok rfl ?_ trivial
          exact xb_eq (by simp only [shapeB]; grind)
        · try simp only [nn] at hc12
          refine awp_seq ?_
          refine awp_seq (awp_region ?_)
          refine al_pure rfl rfl rfl (pure_cmp rfl rfl gU gU rfl) ?_
          refine al_pure rfl rfl rfl (pure_assign rfl gU) ?_
          refine al_nil ?_
          refine awp_sub (s := { t := [(3, _, _), (4, _, _), (21, _, _), (40, _, _)], bx := [], ow := [] }) (sub_mk (⟨sx rfl, ⟨sx rfl, ⟨sx rfl, ⟨sx rfl, trivial⟩⟩⟩⟩) trivial trivial) ?_
          refine awp_cond rfl (fun hc13 => ?_) (fun hc13 => ?_)
          · try simp only [nn] at hc13
            refine awp_skip ?_
            refine awp_cond rfl (fun hc14 => ?_) (fun hc14 => ?_)
            · try simp only [nn] at hc14
              refine awp_seq (awp_region ?_)
              refine al_pure rfl rfl rfl (pure_move rfl gU) ?_
              refine al_pure rfl rfl rfl (pure_not rfl gU) ?_
              refine al_pure rfl rfl rfl (pure_move rfl gU) ?_
              refine al_pure rfl rfl rfl (pure_move rfl gU) ?_
              refine al_pure rfl rfl rfl (pure_not rfl (fun hh => hh)) ?_
              refine al_pure rfl rfl rfl (pure_and rfl rfl gU (fun _ hi => gP rfl hi)) ?_
              refine al_pure rfl rfl rfl (pure_assign rfl gU) ?_
              refine al_nil ?_
              refine awp_ret ?_
              repeat (first | refine tR ?_ | refine bR ?_)
              refine ret_ok rfl ?_ trivial
              exact xb_eq (by simp only [shapeB]; grind)
            · try simp only [nn] at hc14
              refine awp_skip ?_
              refine awp_seq (awp_region ?_)
              refine al_pure rfl rfl rfl (pure_assign rfl gU) ?_
              refine al_nil ?_
              refine awp_ret ?_
              repeat (first | refine tR ?_ | refine bR ?_)
              refine ret_ok rfl ?_ trivial
              exact xb_eq (by simp only [shapeB]; grind)
          · try simp only [nn] at hc13
            refine awp_region ?_
            refine al_pure rfl rfl rfl (pure_cmp rfl rfl gU gU rfl) ?_
            refine al_pure rfl rfl rfl (pure_assign rfl gU) ?_
            refine al_nil ?_
            refine awp_cond rfl (fun hc15 => ?_) (fun hc15 => ?_)
            · try simp only [nn] at hc15
              refine awp_seq (awp_region ?_)
              refine al_pure rfl rfl rfl (pure_move rfl gU) ?_
              refine al_pure rfl rfl rfl (pure_not rfl gU) ?_
              refine al_pure rfl rfl rfl (pure_move rfl gU) ?_
              refine al_pure rfl rfl rfl (pure_move rfl gU) ?_
              refine al_pure rfl rfl rfl (pure_not rfl (fun hh => hh)) ?_
              refine al_pure rfl rfl rfl (pure_and rfl rfl gU (fun _ hi => gP rfl hi)) ?_
              refine al_pure rfl rfl rfl (pure_assign rfl gU) ?_
              refine al_nil ?_
              refine awp_ret ?_
              repeat (first | refine tR ?_ | refine bR ?_)
              refine ret_ok rfl ?_ trivial
              exact xb_eq (by simp only [shapeB]; grind)
            · try simp only [nn] at hc15
              refine awp_skip ?_
              refine awp_seq (awp_region ?_)
              refine al_pure rfl rfl rfl (pure_assign rfl gU) ?_
              refine al_nil ?_
              refine awp_ret ?_
              repeat (first | refine tR ?_ | refine bR ?_)
              refine ret_ok rfl ?_ trivial
              exact xb_eq (by simp only [shapeB]; grind)
theorem ranges_spec (f : Fd) (last : Bool) : Ctr sys 100 [xf f, xb last] [] (xb (rangeB f last)) none [] := by
  refine spec_intro Try.func100 rfl rfl rfl rfl rfl rfl ?_
  refine awp_seq (awp_region ?_)
  refine al_do rfl (does_box rfl rfl rfl rfl) ?_
  refine al_pure rfl rfl rfl (pure_assign rfl gU) ?_
  refine al_nil ?_
  refine awp_seq ?_
  refine awp_seq (awp_region ?_)
  refine al_pure rfl rfl rfl (pure_fieldPtr rfl gU rfl rfl) ?_
  refine al_pure rfl rfl rfl (pure_loadBox rfl gU rfl rfl rfl rfl) ?_
  refine al_nil ?_
  refine awp_block ?_
  refine awp_seq (awp_region ?_)
  refine al_pure rfl rfl rfl (pure_cmp rfl rfl gU gU rfl) ?_
  refine al_pure rfl rfl rfl (pure_assign rfl gU) ?_
  refine al_nil ?_
  refine awp_sub (s := { t := [(1, _, _), (2, _, _), (6, _, _), (7, _, _)], bx := [((.l 2), _)], ow := [] }) (sub_mk (⟨sx rfl, ⟨sx rfl, ⟨sx rfl, ⟨sx rfl, trivial⟩⟩⟩⟩) (⟨sx rfl, trivial⟩) trivial) ?_
  refine awp_cond rfl (fun hc1 => ?_) (fun hc1 => ?_)
  · try simp only [nn] at hc1
    refine awp_seq (awp_region ?_)
    refine al_pure rfl rfl rfl (pure_fieldPtr rfl gU rfl rfl) ?_
    refine al_pure rfl rfl rfl (pure_loadBox rfl gU rfl rfl rfl rfl) ?_
    refine al_lenS rfl rfl rfl rfl rfl gU (Try.underlying9) ?_ (fun hh => by simp at hh); intro hlen
    refine al_pure rfl rfl rfl (pure_cmp rfl rfl gU gU rfl) ?_
    refine al_pure rfl rfl rfl (pure_move rfl gU) ?_
    refine al_pure rfl rfl rfl (pure_fieldPtr rfl gU rfl rfl) ?_
    refine al_pure rfl rfl rfl (pure_loadBox rfl (fun hh => hh) rfl rfl rfl rfl) ?_
    refine al_pure rfl rfl rfl (pure_lenS rfl (fun hh => hh) (Try.underlying9)) ?_
    refine al_pure rfl rfl rfl (pure_cmp rfl rfl (fun hh => hh) gU rfl) ?_
    refine al_pure rfl rfl rfl (pure_and rfl rfl gU (fun _ hi => gP rfl hi)) ?_
    refine al_pure rfl rfl rfl (pure_assign rfl gU) ?_
    refine al_nil ?_
    refine awp_ret ?_
    repeat (first | refine tR ?_ | refine bR ?_)
    refine ret_ok rfl ?_ trivial
    exact xb_eq (by simp only [rangeB]; grind)
  · try simp only [nn] at hc1
    refine awp_seq (awp_region ?_)
    refine al_pure rfl rfl rfl (pure_cmp rfl rfl gU gU rfl) ?_
    refine al_pure rfl rfl rfl (pure_assign rfl gU) ?_
    refine al_nil ?_
    refine awp_cond rfl (fun hc2 => ?_) (fun hc2 => ?_)
    · try simp only [nn] at hc2
      refine awp_seq (awp_region ?_)
      refine al_pure rfl rfl rfl (pure_fieldPtr rfl gU rfl rfl) ?_
      refine al_pure rfl rfl rfl (pure_loadBox rfl gU rfl rfl rfl rfl) ?_
      refine al_pure rfl rfl rfl (pure_cmp rfl rfl gU gU rfl) ?_
      refine al_pure rfl rfl rfl (pure_move rfl gU) ?_
      refine al_pure rfl rfl rfl (pure_fieldPtr rfl gU rfl rfl) ?_
      refine al_pure rfl rfl rfl (pure_loadBox rfl (fun hh => hh) rfl rfl rfl rfl) ?_
      refine al_pure rfl rfl rfl (pure_cmp rfl rfl (fun hh => hh) gU rfl) ?_
      refine al_pure rfl rfl rfl (pure_and rfl rfl gU (fun _ hi => gP rfl hi)) ?_
      refine al_pure rfl rfl rfl (pure_assign rfl gU) ?_
      refine al_nil ?_
      refine awp_ret ?_
      repeat (first | refine tR ?_ | refine bR ?_)
      refine ret_ok rfl ?_ trivial
      exact xb_eq (by simp only [rangeB]; grind)
    · try simp only [nn] at hc2
      refine awp_seq (awp_region ?_)
      refine al_pure rfl rfl rfl (pure_cmp rfl rfl gU gU rfl) ?_
      refine al_pure rfl rfl rfl (pure_assign rfl gU) ?_
      refine al_nil ?_
      refine awp_cond rfl (fun hc3 => ?_) (fun hc3 => ?_)
      · try simp only [nn] at hc3
        refine awp_seq (awp_region ?_)
        refine al_pure rfl rfl rfl (pure_fieldPtr rfl gU rfl rfl) ?_
        refine al_pure rfl rfl rfl (pure_loadBox rfl gU rfl rfl rfl rfl) ?_
        refine al_pure rfl rfl rfl (pure_cmp rfl rfl gU gU rfl) ?_
        refine al_pure rfl rfl rfl (pure_move rfl gU) ?_
        refine al_pure rfl rfl rfl (pure_fieldPtr rfl gU rfl rfl) ?_
        refine al_pure rfl rfl rfl (pure_loadBox rfl (fun hh => hh) rfl rfl rfl rfl) ?_
        refine al_pure rfl rfl rfl (pure_cmp rfl rfl (fun hh => hh) gU rfl) ?_
        refine al_pure rfl rfl rfl (pure_and rfl rfl gU (fun _ hi => gP rfl hi)) ?_
        refine al_sub (s := { t := [(38, _, _)], bx := [], ow := [] }) (sub_mk (⟨sx rfl, trivial⟩) trivial trivial) ?_
        refine al_pure rfl rfl rfl (pure_assign rfl gU) ?_
        refine al_nil ?_
        refine awp_ret ?_
        repeat (first | refine tR ?_ | refine bR ?_)
        refine ret_ok rfl ?_ trivial
        exact xb_eq (by simp only [rangeB]; grind)
      · try simp only [nn] at hc3
        refine awp_seq (awp_region ?_)
        refine al_pure rfl rfl rfl (pure_cmp rfl rfl gU gU rfl) ?_
        refine al_pure rfl rfl rfl (pure_assign rfl gU) ?_
        refine al_nil ?_
        refine awp_sub (s := { t := [(1, _, _), (2, _, _), (6, _, _), (39, _, _)], bx := [((.l 2), _)], ow := [] }) (sub_mk (⟨sx rfl, ⟨sx rfl, ⟨sx rfl, ⟨sx rfl, trivial⟩⟩⟩⟩) (⟨sx rfl, trivial⟩) trivial) ?_
        refine awp_cond rfl (fun hc4 => ?_) (fun hc4 => ?_)
        · try simp only [nn] at hc4
          refine awp_seq (awp_region ?_)
          refine al_pure rfl rfl rfl (pure_fieldPtr rfl gU rfl rfl) ?_
          refine al_pure rfl rfl rfl (pure_loadBox rfl gU rfl rfl rfl rfl) ?_
          refine al_pure rfl rfl rfl (pure_cmp rfl rfl gU gU rfl) ?_
          refine al_pure rfl rfl rfl (pure_move rfl gU) ?_
          refine al_pure rfl rfl rfl (pure_fieldPtr rfl gU rfl rfl) ?_
          refine al_pure rfl rfl rfl (pure_loadBox rfl (fun hh => hh) rfl rfl rfl rfl) ?_
          refine al_pure rfl rfl rfl (pure_fieldPtr rfl gU rfl rfl) ?_
          refine al_pure rfl rfl rfl (pure_loadBox rfl (fun hh => hh) rfl rfl rfl rfl) ?_
          refine al_pure rfl rfl rfl (pure_cmp rfl rfl (fun hh => hh) (fun hh => hh) rfl) ?_
          refine al_pure rfl rfl rfl (pure_and rfl rfl gU (fun _ hi => gP rfl hi)) ?_
          refine al_pure rfl rfl rfl (pure_move rfl gU) ?_
          refine al_pure rfl rfl rfl (pure_fieldPtr rfl gU rfl rfl) ?_
          refine al_sub (s := { t := [(51, _, _), (52, _, _)], bx := [((.l 2), _)], ow := [] }) (sub_mk (⟨sx rfl, ⟨sx rfl, trivial⟩⟩) (⟨sx rfl, trivial⟩) trivial) ?_
          refine al_pure rfl rfl rfl (pure_loadBox rfl (fun hh => hh) rfl rfl rfl rfl) ?_
          refine al_pure rfl rfl rfl (pure_cmp rfl rfl (fun hh => hh) gU rfl) ?_
          refine al_pure rfl rfl rfl (pure_and rfl rfl gU (fun _ hi => gP rfl hi)) ?_
          refine al_pure rfl rfl rfl (pure_assign rfl gU) ?_
          refine al_nil ?_
          refine awp_ret ?_
          repeat (first | refine tR ?_ | refine bR ?_)
          refine ret_ok rfl ?_ trivial
          exact xb_eq (by simp only [rangeB]; grind)
        · try simp only [nn] at hc4
          refine awp_seq (awp_region ?_)
          refine al_pure rfl rfl rfl (pure_cmp rfl rfl gU gU rfl) ?_
          refine al_pure rfl rfl rfl (pure_assign rfl gU) ?_
          refine al_nil ?_
          refine awp_cond rfl (fun hc5 => ?_) (fun hc5 => ?_)
          · try simp only [nn] at hc5
            refine awp_seq (awp_region ?_)
            refine al_pure rfl rfl rfl (pure_move rfl gU) ?_
            refine al_pure rfl rfl rfl (pure_move rfl gU) ?_
            refine al_pure rfl rfl rfl (pure_fieldPtr rfl gU rfl rfl) ?_
            refine al_pure rfl rfl rfl (pure_loadBox rfl (fun hh => hh) rfl rfl rfl rfl) ?_
            refine al_pure rfl rfl rfl (pure_cmp rfl rfl (fun hh => hh) gU rfl) ?_
            refine al_pure rfl rfl rfl (pure_and rfl rfl gU (fun _ hi => gP rfl hi)) ?_
            refine al_pure rfl rfl rfl (pure_move rfl gU) ?_
            refine al_pure rfl rfl rfl (pure_fieldPtr rfl gU rfl rfl) ?_
            refine al_pure rfl rfl rfl (pure_loadBox rfl (fun hh => hh) rfl rfl rfl rfl) ?_
            refine al_pure rfl rfl rfl (pure_fieldPtr rfl gU rfl rfl) ?_
            refine al_sub (s := { t := [(2, _, _), (64, _, _), (66, _, _), (67, _, _)], bx := [((.l 2), _)], ow := [] }) (sub_mk (⟨sx rfl, ⟨sx rfl, ⟨sx rfl, ⟨sx rfl, trivial⟩⟩⟩⟩) (⟨sx rfl, trivial⟩) trivial) ?_
            refine al_pure rfl rfl rfl (pure_loadBox rfl (fun hh => hh) rfl rfl rfl rfl) ?_
            refine al_pure rfl rfl rfl (pure_cmp rfl rfl (fun hh => hh) (fun hh => hh) rfl) ?_
            refine al_pure rfl rfl rfl (pure_and rfl rfl gU (fun _ hi => gP rfl hi)) ?_
            refine al_pure rfl rfl rfl (pure_move rfl gU) ?_
            refine al_pure rfl rfl rfl (pure_fieldPtr rfl gU rfl rfl) ?_
            refine al_pure rfl rfl rfl (pure_loadBox rfl (fun hh => hh) rfl rfl rfl rfl) ?_
            refine al_pure rfl rfl rfl (pure_cmp rfl rfl (fun hh => hh) gU rfl) ?_
            refine al_pure rfl rfl rfl (pure_and rfl rfl gU (fun _ hi => gP rfl hi)) ?_
            refine al_pure rfl rfl rfl (pure_assign rfl gU) ?_
            refine al_nil ?_
            refine awp_ret ?_
            repeat (first | refine tR ?_ | refine bR ?_)
            refine ret_ok rfl ?_ trivial
            exact xb_eq (by simp only [rangeB]; grind)
          · try simp only [nn] at hc5
            refine awp_skip ?_
            refine awp_seq (awp_region ?_)
            refine al_pure rfl rfl rfl (pure_assign rfl gU) ?_
            refine al_nil ?_
            refine awp_ret ?_
            repeat (first | refine tR ?_ | refine bR ?_)
            refine ret_ok rfl ?_ trivial
            exact xb_eq (by simp only [rangeB]; grind)
end Go.Proofs.Ytgjclggjkhapfaa
/- Contracts: the errors of tables of formats, on both sides (fields, tables). -/
set_option linter.unusedVariables false
set_option linter.unusedSimpArgs false
namespace Go.Proofs.Ytgjclggjkhapfaa
open Go Go.Abs
theorem field_spec (t : List Fm) (f : Fd) (last : Bool) (rs : List (List C)) (hrs : rs = Fm.rows t) : Ctr sys 80 [.v (.c (.sl 2 rs)), xf f, xb last] [] (xi (fieldE t f last)) none [] := by
  subst hrs
  have hrl := Fm.rows_len t
  refine spec_intro Try.func80 rfl rfl rfl rfl rfl rfl ?_
  refine awp_seq (awp_region ?_)
  refine al_do rfl (does_box rfl rfl rfl rfl) ?_
  refine al_pure rfl rfl rfl (pure_assign rfl gU) ?_
  refine al_nil ?_
  refine awp_seq ?_
  refine awp_seq (awp_region ?_)
  refine al_pure rfl rfl rfl (pure_loadBoxRow rfl gU rfl rfl rfl rfl rfl) ?_
  refine al_call rfl rfl rfl rfl rfl rfl gU gU (shape_spec _) rfl ?_
  refine al_pure rfl rfl rfl (pure_not rfl gU) ?_
  refine al_nil ?_
  refine awp_sub (s := { t := [(0, _, _), (2, _, _), (4, _, _), (9, _, _)], bx := [((.l 4), _)], ow := [] }) (sub_mk (⟨sx rfl, ⟨sx rfl, ⟨sx rfl, ⟨sx rfl, trivial⟩⟩⟩⟩) (⟨sx rfl, trivial⟩) trivial) ?_
  refine awp_cond rfl (fun hc1 => ?_) (fun hc1 => ?_)
  · try simp only [nn, Fm.rows_len] at hc1
    refine awp_seq (awp_region ?_)
    refine al_pure rfl rfl rfl (pure_assign rfl gU) ?_
    refine al_nil ?_
    refine awp_ret ?_
    repeat (first | refine tR ?_ | refine bR ?_)
    refine ret_ok rfl ?_ trivial
    exact xi_eq (by simp only [fieldE]; grind)
  · try simp only [nn, Fm.rows_len] at hc1
    refine awp_skip ?_
    refine awp_seq ?_
    refine awp_seq (awp_region ?_)
    refine al_pure rfl rfl rfl (pure_loadBoxRow rfl gU rfl rfl rfl rfl rfl) ?_
    refine al_pure rfl rfl rfl (pure_move rfl gU) ?_
    refine al_call rfl rfl rfl rfl rfl rfl gU gU (ranges_spec _ _) rfl ?_
    refine al_pure rfl rfl rfl (pure_not rfl gU) ?_
    refine al_nil ?_
    refine awp_cond rfl (fun hc2 => ?_) (fun hc2 => ?_)
    · try simp only [nn, Fm.rows_len] at hc2
      refine awp_seq (awp_region ?_)
      refine al_pure rfl rfl rfl (pure_assign rfl gU) ?_
      refine al_nil ?_
      refine awp_ret ?_
      repeat (first | refine tR ?_ | refine bR ?_)
      refine ret_ok rfl ?_ trivial
      exact xi_eq (by simp only [fieldE]; grind)
    · try simp only [nn, Fm.rows_len] at hc2
      refine awp_skip ?_
      refine awp_seq ?_
      refine awp_seq (awp_region ?_)
      refine al_pure rfl rfl rfl (pure_fieldPtr rfl gU rfl rfl) ?_
      refine al_pure rfl rfl rfl (pure_loadBox rfl gU rfl rfl rfl rfl) ?_
      refine al_pure rfl rfl rfl (pure_cmp rfl rfl gU gU rfl) ?_
      refine al_nil ?_
      refine awp_sub (s := { t := [(0, _, _), (4, _, _), (16, _, _)], bx := [((.l 4), _)], ow := [] }) (sub_mk (⟨sx rfl, ⟨sx rfl, ⟨sx rfl, trivial⟩⟩⟩) (⟨sx rfl, trivial⟩) trivial) ?_
      refine awp_cond rfl (fun hc3 => ?_) (fun hc3 => ?_)
      · try simp only [nn, Fm.rows_len] at hc3
        refine awp_seq (awp_region ?_)
        refine al_pure rfl rfl rfl (pure_assign rfl gU) ?_
        refine al_nil ?_
        refine awp_ret ?_
        repeat (first | refine tR ?_ | refine bR ?_)
        refine ret_ok rfl ?_ trivial
        exact xi_eq (by simp only [fieldE]; grind)
      · try simp only [nn, Fm.rows_len] at hc3
        refine awp_skip ?_
        refine awp_seq ?_
        refine awp_seq (awp_region ?_)
        refine al_pure rfl rfl rfl (pure_fieldPtr rfl gU rfl rfl) ?_
        refine al_pure rfl rfl rfl (pure_loadBox rfl gU rfl rfl rfl rfl) ?_
        refine al_pure rfl rfl rfl (pure_cmp rfl rfl gU gU rfl) ?_
        refine al_pure rfl rfl rfl (pure_move rfl gU) ?_
        refine al_pure rfl rfl rfl (pure_fieldPtr rfl gU rfl rfl) ?_
        refine al_pure rfl rfl rfl (pure_loadBox rfl (fun hh => hh) rfl rfl rfl rfl) ?_
        refine al_pure rfl rfl rfl (pure_move rfl gU) ?_
        refine al_pure rfl rfl rfl (pure_lenSl rfl (fun hh => hh) rfl rfl) ?_
        refine al_pure rfl rfl rfl (pure_cmp rfl rfl (fun hh => hh) (fun hh => hh) rfl) ?_
        refine al_pure rfl rfl rfl (pure_or rfl rfl gU (fun _ hi => gP rfl hi)) ?_
        refine al_nil ?_
        refine awp_sub (s := { t := [(0, _, _), (4, _, _), (26, _, _)], bx := [((.l 4), _)], ow := [] }) (sub_mk (⟨sx rfl, ⟨sx rfl, ⟨sx rfl, trivial⟩⟩⟩) (⟨sx rfl, trivial⟩) trivial) ?_
        refine awp_cond rfl (fun hc4 => ?_) (fun hc4 => ?_)
        · try simp only [nn, Fm.rows_len] at hc4
          refine awp_seq (awp_region ?_)
          refine al_pure rfl rfl rfl (pure_assign rfl gU) ?_
          refine al_nil ?_
          refine awp_ret ?_
          repeat (first | refine tR ?_ | refine bR ?_)
          refine ret_ok rfl ?_ trivial
          exact xi_eq (by simp only [fieldE]; grind)
        · try simp only [nn, Fm.rows_len] at hc4
          refine awp_skip ?_
          refine awp_seq ?_
          refine awp_seq (awp_region ?_)
          refine al_pure rfl rfl rfl (pure_move rfl gU) ?_
          refine al_pure rfl rfl rfl (pure_fieldPtr rfl gU rfl rfl) ?_
          refine al_pure rfl rfl rfl (pure_loadBox rfl gU rfl rfl rfl rfl) ?_
          refine al_pure rfl rfl rfl (pure_indexAddr (j := f.n.toNat) rfl rfl gU gU rfl rfl (by omega) (fun hh => Fm.rows_at (by omega))) ?_
          refine al_pure rfl rfl rfl (pure_loadRoRow rfl gU rfl rfl rfl rfl) ?_
          refine al_call rfl rfl rfl rfl rfl rfl gU gU (plain_spec _) rfl ?_
          refine al_pure rfl rfl rfl (pure_not rfl gU) ?_
          refine al_nil ?_
          refine awp_sub (s := { t := [(33, _, _)], bx := [], ow := [] }) (sub_mk (⟨sx rfl, trivial⟩) trivial trivial) ?_
          refine awp_cond rfl (fun hc5 => ?_) (fun hc5 => ?_)
          · try simp only [nn, Fm.rows_len] at hc5
            refine awp_seq (awp_region ?_)
            refine al_pure rfl rfl rfl (pure_assign rfl gU) ?_
            refine al_nil ?_
            refine awp_ret ?_
            repeat (first | refine tR ?_ | refine bR ?_)
            refine ret_ok rfl ?_ trivial
            exact xi_eq (by simp only [fieldE]; grind)
          · try simp only [nn, Fm.rows_len] at hc5
            refine awp_skip ?_
            refine awp_seq (awp_region ?_)
            refine al_pure rfl rfl rfl (pure_assign rfl gU) ?_
            refine al_nil ?_
            refine awp_ret ?_
            repeat (first | refine tR ?_ | refine bR ?_)
            refine ret_ok rfl ?_ trivial
            exact xi_eq (by simp only [fieldE]; grind)
theorem one_spec (t : List Fm) (f : Fd) (last : Bool) (rs : List (List C)) (hrs : rs = Fm.rows t) : Ctr sys 84 [.v (.c (.sl 2 rs)), xf f, xb last] [] (xi (fieldE t f last)) none [] := by
  subst hrs
  have hrl := Fm.rows_len t
  refine spec_intro Try.func84 rfl rfl rfl rfl rfl rfl ?_
  refine awp_seq (awp_region ?_)
  refine al_do rfl (does_box rfl rfl rfl rfl) ?_
  refine al_pure rfl rfl rfl (pure_assign rfl gU) ?_
  refine al_nil ?_
  refine awp_seq (awp_region ?_)
  refine al_pure rfl rfl rfl (pure_fieldPtr rfl gU rfl rfl) ?_
  refine al_pure rfl rfl rfl (pure_loadBox rfl gU rfl rfl rfl rfl) ?_
  refine al_pure rfl rfl rfl (pure_build rfl Try.underlying62 rfl gU) ?_
  refine al_do rfl (does_alloc rfl rfl rfl) ?_
  refine al_do rfl (does_store rfl rfl rfl rfl rfl rfl rfl) ?_
  refine al_nil ?_
  refine awp_sub (s := { t := [(0, _, _), (2, _, _), (4, _, _), (7, _, _)], bx := [((.l 4), _), ((.l 7), _)], ow := [] }) (sub_mk (⟨sx rfl, ⟨sx rfl, ⟨sx rfl, ⟨sx rfl, trivial⟩⟩⟩⟩) (⟨sx rfl, ⟨sx rfl, trivial⟩⟩) trivial) ?_
  refine awp_seq (awp_region ?_)
  refine al_pure rfl rfl rfl (pure_assign rfl gU) ?_
  refine al_nil ?_
  refine awp_seq ?_
  refine awp_seq (awp_region ?_)
  refine al_pure rfl rfl rfl (pure_fieldPtr rfl gU rfl rfl) ?_
  refine al_pure rfl rfl rfl (pure_loadBox rfl gU rfl rfl rfl rfl) ?_
  refine al_nil ?_
  refine awp_block ?_
  refine awp_seq (awp_region ?_)
  refine al_pure rfl rfl rfl (pure_cmp rfl rfl gU gU rfl) ?_
  refine al_pure rfl rfl rfl (pure_assign rfl gU) ?_
  refine al_nil ?_
  refine awp_sub (s := { t := [(0, _, _), (2, _, _), (4, _, _), (7, _, _), (8, _, _), (15, _, _), (16, _, _)], bx := [((.l 4), _), ((.l 7), _)], ow := [] }) (sub_mk (⟨sx rfl, ⟨sx rfl, ⟨sx rfl, ⟨sx rfl, ⟨sx rfl, ⟨sx rfl, ⟨sx rfl, trivial⟩⟩⟩⟩⟩⟩⟩) (⟨sx rfl, ⟨sx rfl, trivial⟩⟩) trivial) ?_
  refine awp_cond rfl (fun hc => ?_) (fun hc => ?_)
  · try simp only [nn, Fm.rows_len, Bool.and_true] at hc
    refine awp_seq (awp_region ?_)
    refine al_pure rfl rfl rfl (pure_fieldPtr rfl gU rfl rfl) ?_
    refine al_pure rfl rfl rfl (pure_loadBox rfl gU rfl rfl rfl rfl) ?_
    refine al_pure rfl rfl rfl (pure_fieldPtr rfl gU rfl rfl) ?_
    refine al_do rfl (does_store rfl rfl rfl rfl rfl rfl rfl) ?_
    refine al_nil ?_
    refine awp_region ?_
    refine al_pure rfl rfl rfl (pure_fieldPtr rfl gU rfl rfl) ?_
    refine al_pure rfl rfl rfl (pure_loadBox rfl gU rfl rfl rfl rfl) ?_
    refine al_lenS rfl rfl rfl rfl rfl gU (Try.underlying9) ?_ (fun hh => by simp at hh); intro hlen
    refine al_pure rfl rfl rfl (pure_cmp rfl rfl gU gU rfl) ?_
    refine al_pure rfl rfl rfl (pure_move rfl gU) ?_
    refine al_pure rfl rfl rfl (pure_fieldPtr rfl gU rfl rfl) ?_
    refine al_pure rfl rfl rfl (pure_loadBox rfl (fun hh => hh) rfl rfl rfl rfl) ?_
    refine al_pure rfl rfl rfl (pure_lenS rfl (fun hh => hh) (Try.underlying9)) ?_
    refine al_pure rfl rfl rfl (pure_cmp rfl rfl (fun hh => hh) gU rfl) ?_
    refine al_sub (s := { t := [(0, _, _), (4, _, _), (7, _, _), (25, _, _), (29, _, _)], bx := [((.l 4), _), ((.l 7), _)], ow := [] }) (sub_mk (⟨sx rfl, ⟨sx rfl, ⟨sx rfl, ⟨sx rfl, ⟨sx rfl, trivial⟩⟩⟩⟩⟩) (⟨sx rfl, ⟨sx rfl, trivial⟩⟩) trivial) ?_
    refine al_pure rfl rfl rfl (pure_and rfl rfl gU (fun _ hi => gP rfl hi)) ?_
    refine al_pure rfl rfl rfl (pure_assign rfl gU) ?_
    refine al_nil ?_
    refine awp_seq ?_
    refine awp_block ?_
    refine awp_seq (awp_region ?_)
    refine al_pure rfl rfl rfl (pure_loadBoxRow rfl gU rfl rfl rfl rfl rfl) ?_
    refine al_pure rfl rfl rfl (pure_loadBoxRow rfl gU rfl rfl rfl rfl rfl) ?_
    refine al_pure rfl rfl rfl (pure_eqStruct (ks := [1, 2, 1, 1, 1]) (.inr ⟨rfl, rfl⟩) rfl rfl gU gU Try.underlying62 (by kernel_rfl) (by kernel_rfl) (by kernel_rfl) rfl) ?_
    refine al_pure rfl rfl rfl (pure_assign rfl gU) ?_
    refine al_nil ?_
    refine awp_sub (s := { t := [(0, _, _), (4, _, _), (8, _, _), (111, _, _)], bx := [((.l 4), _)], ow := [] }) (sub_mk (⟨sx rfl, ⟨sx rfl, ⟨sx rfl, ⟨sx rfl, trivial⟩⟩⟩⟩) (⟨sx rfl, trivial⟩) trivial) ?_
    refine awp_cond rfl (fun hc1 => ?_) (fun hc1 => ?_)
    · try simp only [nn, Fm.rows_len, Bool.and_true] at hc1
      refine awp_seq (awp_region ?_)
      refine al_pure rfl rfl rfl (pure_assign rfl gU) ?_
      refine al_nil ?_
      refine awp_ret ?_
      repeat (first | refine tR ?_ | refine bR ?_)
      refine ret_ok rfl ?_ trivial
      exact xi_eq (by simp [fieldE, shapeB, rangeB, *] <;> grind)
    · try simp only [nn, Fm.rows_len, Bool.and_true] at hc1
      refine awp_seq (awp_region ?_)
      refine al_pure rfl rfl rfl (pure_move rfl gU) ?_
      refine al_pure rfl rfl rfl (pure_not rfl gU) ?_
      refine al_pure rfl rfl rfl (pure_assign rfl gU) ?_
      refine al_nil ?_
      refine awp_cond rfl (fun hc2 => ?_) (fun hc2 => ?_)
      · try simp only [nn, Fm.rows_len, Bool.and_true] at hc2
        refine awp_seq (awp_region ?_)
        refine al_pure rfl rfl rfl (pure_assign rfl gU) ?_
        refine al_nil ?_
        refine awp_ret ?_
        repeat (first | refine tR ?_ | refine bR ?_)
        refine ret_ok rfl ?_ trivial
        exact xi_eq (by simp [fieldE, shapeB, rangeB, *] <;> grind)
      · try simp only [nn, Fm.rows_len, Bool.and_true] at hc2
        refine awp_seq (awp_region ?_)
        refine al_pure rfl rfl rfl (pure_fieldPtr rfl gU rfl rfl) ?_
        refine al_pure rfl rfl rfl (pure_loadBox rfl gU rfl rfl rfl rfl) ?_
        refine al_pure rfl rfl rfl (pure_cmp rfl rfl gU gU rfl) ?_
        refine al_pure rfl rfl rfl (pure_assign rfl gU) ?_
        refine al_nil ?_
        refine awp_sub (s := { t := [(0, _, _), (4, _, _), (118, _, _)], bx := [((.l 4), _)], ow := [] }) (sub_mk (⟨sx rfl, ⟨sx rfl, ⟨sx rfl, trivial⟩⟩⟩) (⟨sx rfl, trivial⟩) trivial) ?_
        refine awp_cond rfl (fun hc3 => ?_) (fun hc3 => ?_)
        · try simp only [nn, Fm.rows_len, Bool.and_true] at hc3
          refine awp_seq (awp_region ?_)
          refine al_pure rfl rfl rfl (pure_assign rfl gU) ?_
          refine al_nil ?_
          refine awp_ret ?_
          repeat (first | refine tR ?_ | refine bR ?_)
          refine ret_ok rfl ?_ trivial
          exact xi_eq (by simp [fieldE, shapeB, rangeB, *] <;> grind)
        · try simp only [nn, Fm.rows_len, Bool.and_true] at hc3
          refine awp_seq (awp_region ?_)
          refine al_pure rfl rfl rfl (pure_fieldPtr rfl gU rfl rfl) ?_
          refine al_pure rfl rfl rfl (pure_loadBox rfl gU rfl rfl rfl rfl) ?_
          refine al_pure rfl rfl rfl (pure_cmp rfl rfl gU gU rfl) ?_
          refine al_pure rfl rfl rfl (pure_move rfl gU) ?_
          refine al_pure rfl rfl rfl (pure_fieldPtr rfl gU rfl rfl) ?_
          refine al_pure rfl rfl rfl (pure_loadBox rfl (fun hh => hh) rfl rfl rfl rfl) ?_
          refine al_pure rfl rfl rfl (pure_move rfl gU) ?_
          refine al_pure rfl rfl rfl (pure_lenSl rfl (fun hh => hh) rfl rfl) ?_
          refine al_pure rfl rfl rfl (pure_cmp rfl rfl (fun hh => hh) (fun hh => hh) rfl) ?_
          refine al_pure rfl rfl rfl (pure_or rfl rfl gU (fun _ hi => gP rfl hi)) ?_
          refine al_pure rfl rfl rfl (pure_assign rfl gU) ?_
          refine al_nil ?_
          refine awp_sub (s := { t := [(0, _, _), (4, _, _), (122, _, _)], bx := [((.l 4), _)], ow := [] }) (sub_mk (⟨sx rfl, ⟨sx rfl, ⟨sx rfl, trivial⟩⟩⟩) (⟨sx rfl, trivial⟩) trivial) ?_
          refine awp_cond rfl (fun hc4 => ?_) (fun hc4 => ?_)
          · try simp only [nn, Fm.rows_len, Bool.and_true] at hc4
            refine awp_seq (awp_region ?_)
            refine al_pure rfl rfl rfl (pure_assign rfl gU) ?_
            refine al_nil ?_
            refine awp_ret ?_
            repeat (first | refine tR ?_ | refine bR ?_)
            refine ret_ok rfl ?_ trivial
            exact xi_eq (by simp [fieldE, shapeB, rangeB, *] <;> grind)
          · try simp only [nn, Fm.rows_len, Bool.and_true] at hc4
            refine awp_skip ?_
            refine awp_seq ?_
            refine awp_seq (awp_region ?_)
            refine al_pure rfl rfl rfl (pure_move rfl gU) ?_
            refine al_pure rfl rfl rfl (pure_fieldPtr rfl gU rfl rfl) ?_
            refine al_pure rfl rfl rfl (pure_loadBox rfl gU rfl rfl rfl rfl) ?_
            refine al_pure rfl rfl rfl (pure_indexAddr (j := f.n.toNat) rfl rfl gU gU rfl rfl (by omega) (fun hh => Fm.rows_at (by omega))) ?_
            refine al_pure rfl rfl rfl (pure_fieldRo rfl gU rfl rfl) ?_
            refine al_pure rfl rfl rfl (pure_loadRo rfl gU rfl rfl rfl) ?_
            refine al_lenSl rfl rfl rfl rfl rfl gU rfl rfl ?_ (fun hh => by simp at hh); intro hlen
            refine al_pure rfl rfl rfl (pure_move rfl gU) ?_
            refine al_nil ?_
            refine awp_sub (s := { t := [(138, _, _), (139, _, _), (140, _, _)], bx := [], ow := [] }) (sub_mk (⟨sx rfl, ⟨sx rfl, ⟨sx rfl, trivial⟩⟩⟩) trivial trivial) ?_
            refine awp_block ?_
            exfalso
            grind
  · try simp only [nn, Fm.rows_len, Bool.and_true] at hc
    refine awp_seq (awp_region ?_)
    refine al_pure rfl rfl rfl (pure_cmp rfl rfl gU gU rfl) ?_
    refine al_pure rfl rfl rfl (pure_assign rfl gU) ?_
    refine al_nil ?_
    refine awp_cond rfl (fun hc2 => ?_) (fun hc2 => ?_)
    · try simp only [nn, Fm.rows_len, Bool.and_true] at hc2
      refine awp_seq (awp_region ?_)
      refine al_pure rfl rfl rfl (pure_fieldPtr rfl gU rfl rfl) ?_
      refine al_pure rfl rfl rfl (pure_loadBox rfl gU rfl rfl rfl rfl) ?_
      refine al_pure rfl rfl rfl (pure_fieldPtr rfl gU rfl rfl) ?_
      refine al_do rfl (does_store rfl rfl rfl rfl rfl rfl rfl) ?_
      refine al_nil ?_
      refine awp_sub (s := { t := [(0, _, _), (4, _, _), (7, _, _)], bx := [((.l 4), _), ((.l 7), _)], ow := [] }) (sub_mk (⟨sx rfl, ⟨sx rfl, ⟨sx rfl, trivial⟩⟩⟩) (⟨sx rfl, ⟨sx rfl, trivial⟩⟩) trivial) ?_
      refine awp_region ?_
      refine al_pure rfl rfl rfl (pure_fieldPtr rfl gU rfl rfl) ?_
      refine al_pure rfl rfl rfl (pure_loadBox rfl gU rfl rfl rfl rfl) ?_
      refine al_pure rfl rfl rfl (pure_cmp rfl rfl gU gU rfl) ?_
      refine al_pure rfl rfl rfl (pure_move rfl gU) ?_
      refine al_pure rfl rfl rfl (pure_fieldPtr rfl gU rfl rfl) ?_
      refine al_pure rfl rfl rfl (pure_loadBox rfl (fun hh => hh) rfl rfl rfl rfl) ?_
      refine al_pure rfl rfl rfl (pure_cmp rfl rfl (fun hh => hh) gU rfl) ?_
      refine al_pure rfl rfl rfl (pure_and rfl rfl gU (fun _ hi => gP rfl hi)) ?_
      refine al_pure rfl rfl rfl (pure_assign rfl gU) ?_
      refine al_nil ?_
      refine awp_sub (s := { t := [(0, _, _), (4, _, _), (7, _, _), (8, _, _)], bx := [((.l 4), _), ((.l 7), _)], ow := [] }) (sub_mk (⟨sx rfl, ⟨sx rfl, ⟨sx rfl, ⟨sx rfl, trivial⟩⟩⟩⟩) (⟨sx rfl, ⟨sx rfl, trivial⟩⟩) trivial) ?_
      refine awp_seq ?_
      refine awp_block ?_
      refine awp_seq (awp_region ?_)
      refine al_pure rfl rfl rfl (pure_loadBoxRow rfl gU rfl rfl rfl rfl rfl) ?_
      refine al_pure rfl rfl rfl (pure_loadBoxRow rfl gU rfl rfl rfl rfl rfl) ?_
      refine al_pure rfl rfl rfl (pure_eqStruct (ks := [1, 2, 1, 1, 1]) (.inr ⟨rfl, rfl⟩) rfl rfl gU gU Try.underlying62 (by kernel_rfl) (by kernel_rfl) (by kernel_rfl) rfl) ?_
      refine al_pure rfl rfl rfl (pure_assign rfl gU) ?_
      refine al_nil ?_
      refine awp_cond rfl (fun hc5 => ?_) (fun hc5 => ?_)
      · try simp only [nn, Fm.rows_len, Bool.and_true] at hc5
        refine awp_seq (awp_region ?_)
        refine al_pure rfl rfl rfl (pure_assign rfl gU) ?_
        refine al_nil ?_
        refine awp_ret ?_
        repeat (first | refine tR ?_ | refine bR ?_)
        refine ret_ok rfl ?_ trivial
        exact xi_eq (by simp [fieldE, shapeB, rangeB, *] <;> grind)
      · try simp only [nn, Fm.rows_len, Bool.and_true] at hc5
        refine awp_seq (awp_region ?_)
        refine al_pure rfl rfl rfl (pure_move rfl gU) ?_
        refine al_pure rfl rfl rfl (pure_not rfl gU) ?_
        refine al_pure rfl rfl rfl (pure_assign rfl gU) ?_
        refine al_nil ?_
        refine awp_sub (s := { t := [(0, _, _), (4, _, _), (115, _, _)], bx := [((.l 4), _)], ow := [] }) (sub_mk (⟨sx rfl, ⟨sx rfl, ⟨sx rfl, trivial⟩⟩⟩) (⟨sx rfl, trivial⟩) trivial) ?_
        refine awp_cond rfl (fun hc6 => ?_) (fun hc6 => ?_)
        · try simp only [nn, Fm.rows_len, Bool.and_true] at hc6
          refine awp_seq (awp_region ?_)
          refine al_pure rfl rfl rfl (pure_assign rfl gU) ?_
          refine al_nil ?_
          refine awp_ret ?_
          repeat (first | refine tR ?_ | refine bR ?_)
          refine ret_ok rfl ?_ trivial
          exact xi_eq (by simp [fieldE, shapeB, rangeB, *] <;> grind)
        · try simp only [nn, Fm.rows_len, Bool.and_true] at hc6
          refine awp_seq (awp_region ?_)
          refine al_pure rfl rfl rfl (pure_fieldPtr rfl gU rfl rfl) ?_
          refine al_pure rfl rfl rfl (pure_loadBox rfl gU rfl rfl rfl rfl) ?_
          refine al_pure rfl rfl rfl (pure_cmp rfl rfl gU gU rfl) ?_
          refine al_pure rfl rfl rfl (pure_assign rfl gU) ?_
          refine al_nil ?_
          refine awp_cond rfl (fun hc7 => ?_) (fun hc7 => ?_)
          · try simp only [nn, Fm.rows_len, Bool.and_true] at hc7
            refine awp_seq (awp_region ?_)
            refine al_pure rfl rfl rfl (pure_assign rfl gU) ?_
            refine al_nil ?_
            refine awp_ret ?_
            repeat (first | refine tR ?_ | refine bR ?_)
            refine ret_ok rfl ?_ trivial
            exact xi_eq (by simp [fieldE, shapeB, rangeB, *] <;> grind)
          · try simp only [nn, Fm.rows_len, Bool.and_true] at hc7
            refine awp_seq (awp_region ?_)
            refine al_pure rfl rfl rfl (pure_fieldPtr rfl gU rfl rfl) ?_
            refine al_pure rfl rfl rfl (pure_loadBox rfl gU rfl rfl rfl rfl) ?_
            refine al_pure rfl rfl rfl (pure_cmp rfl rfl gU gU rfl) ?_
            refine al_pure rfl rfl rfl (pure_move rfl gU) ?_
            refine al_pure rfl rfl rfl (pure_fieldPtr rfl gU rfl rfl) ?_
            refine al_pure rfl rfl rfl (pure_loadBox rfl (fun hh => hh) rfl rfl rfl rfl) ?_
            refine al_pure rfl rfl rfl (pure_move rfl gU) ?_
            refine al_pure rfl rfl rfl (pure_lenSl rfl (fun hh => hh) rfl rfl) ?_
            refine al_sub (s := { t := [(0, _, _), (4, _, _), (126, _, _), (128, _, _), (130, _, _)], bx := [((.l 4), _)], ow := [] }) (sub_mk (⟨sx rfl, ⟨sx rfl, ⟨sx rfl, ⟨sx rfl, ⟨sx rfl, trivial⟩⟩⟩⟩⟩) (⟨sx rfl, trivial⟩) trivial) ?_
            refine al_pure rfl rfl rfl (pure_cmp rfl rfl (fun hh => hh) (fun hh => hh) rfl) ?_
            refine al_pure rfl rfl rfl (pure_or rfl rfl gU (fun _ hi => gP rfl hi)) ?_
            refine al_pure rfl rfl rfl (pure_assign rfl gU) ?_
            refine al_nil ?_
            refine awp_cond rfl (fun hc8 => ?_) (fun hc8 => ?_)
            · try simp only [nn, Fm.rows_len, Bool.and_true] at hc8
              refine awp_seq (awp_region ?_)
              refine al_pure rfl rfl rfl (pure_assign rfl gU) ?_
              refine al_nil ?_
              refine awp_ret ?_
              repeat (first | refine tR ?_ | refine bR ?_)
              refine ret_ok rfl ?_ trivial
              exact xi_eq (by simp [fieldE, shapeB, rangeB, *] <;> grind)
            · try simp only [nn, Fm.rows_len, Bool.and_true] at hc8
              refine awp_skip ?_
              refine awp_seq ?_
              refine awp_seq (awp_region ?_)
              refine al_pure rfl rfl rfl (pure_move rfl gU) ?_
              refine al_pure rfl rfl rfl (pure_fieldPtr rfl gU rfl rfl) ?_
              refine al_pure rfl rfl rfl (pure_loadBox rfl gU rfl rfl rfl rfl) ?_
              refine al_pure rfl rfl rfl (pure_indexAddr (j := f.n.toNat) rfl rfl gU gU rfl rfl (by omega) (fun hh => Fm.rows_at (by omega))) ?_
              refine al_pure rfl rfl rfl (pure_fieldRo rfl gU rfl rfl) ?_
              refine al_pure rfl rfl rfl (pure_loadRo rfl gU rfl rfl rfl) ?_
              refine al_lenSl rfl rfl rfl rfl rfl gU rfl rfl ?_ (fun hh => by simp at hh); intro hlen
              refine al_pure rfl rfl rfl (pure_move rfl gU) ?_
              refine al_nil ?_
              refine awp_sub (s := { t := [(138, _, _), (139, _, _), (140, _, _)], bx := [], ow := [] }) (sub_mk (⟨sx rfl, ⟨sx rfl, ⟨sx rfl, trivial⟩⟩⟩) trivial trivial) ?_
              refine awp_block ?_
              exfalso
              grind
    · try simp only [nn, Fm.rows_len, Bool.and_true] at hc2
      refine awp_seq (awp_region ?_)
      refine al_pure rfl rfl rfl (pure_cmp rfl rfl gU gU rfl) ?_
      refine al_pure rfl rfl rfl (pure_assign rfl gU) ?_
      refine al_nil ?_
      refine awp_cond rfl (fun hc3 => ?_) (fun hc3 => ?_)
      · try simp only [nn, Fm.rows_len, Bool.and_true] at hc3
        refine awp_seq (awp_region ?_)
        refine al_pure rfl rfl rfl (pure_fieldPtr rfl gU rfl rfl) ?_
        refine al_pure rfl rfl rfl (pure_loadBox rfl gU rfl rfl rfl rfl) ?_
        refine al_pure rfl rfl rfl (pure_fieldPtr rfl gU rfl rfl) ?_
        refine al_do rfl (does_store rfl rfl rfl rfl rfl rfl rfl) ?_
        refine al_nil ?_
        refine awp_sub (s := { t := [(0, _, _), (4, _, _), (7, _, _)], bx := [((.l 4), _), ((.l 7), _)], ow := [] }) (sub_mk (⟨sx rfl, ⟨sx rfl, ⟨sx rfl, trivial⟩⟩⟩) (⟨sx rfl, ⟨sx rfl, trivial⟩⟩) trivial) ?_
        refine awp_region ?_
        refine al_pure rfl rfl rfl (pure_fieldPtr rfl gU rfl rfl) ?_
        refine al_pure rfl rfl rfl (pure_loadBox rfl gU rfl rfl rfl rfl) ?_
        refine al_pure rfl rfl rfl (pure_cmp rfl rfl gU gU rfl) ?_
        refine al_pure rfl rfl rfl (pure_move rfl gU) ?_
        refine al_pure rfl rfl rfl (pure_fieldPtr rfl gU rfl rfl) ?_
        refine al_pure rfl rfl rfl (pure_loadBox rfl (fun hh => hh) rfl rfl rfl rfl) ?_
        refine al_pure rfl rfl rfl (pure_cmp rfl rfl (fun hh => hh) gU rfl) ?_
        refine al_pure rfl rfl rfl (pure_and rfl rfl gU (fun _ hi => gP rfl hi)) ?_
        refine al_pure rfl rfl rfl (pure_assign rfl gU) ?_
        refine al_nil ?_
        refine awp_sub (s := { t := [(0, _, _), (4, _, _), (7, _, _), (8, _, _)], bx := [((.l 4), _), ((.l 7), _)], ow := [] }) (sub_mk (⟨sx rfl, ⟨sx rfl, ⟨sx rfl, ⟨sx rfl, trivial⟩⟩⟩⟩) (⟨sx rfl, ⟨sx rfl, trivial⟩⟩) trivial) ?_
        refine awp_seq ?_
        refine awp_block ?_
        refine awp_seq (awp_region ?_)
        refine al_pure rfl rfl rfl (pure_loadBoxRow rfl gU rfl rfl rfl rfl rfl) ?_
        refine al_pure rfl rfl rfl (pure_loadBoxRow rfl gU rfl rfl rfl rfl rfl) ?_
        refine al_pure rfl rfl rfl (pure_eqStruct (ks := [1, 2, 1, 1, 1]) (.inr ⟨rfl, rfl⟩) rfl rfl gU gU Try.underlying62 (by kernel_rfl) (by kernel_rfl) (by kernel_rfl) rfl) ?_
        refine al_pure rfl rfl rfl (pure_assign rfl gU) ?_
        refine al_nil ?_
        refine awp_cond rfl (fun hc9 => ?_) (fun hc9 => ?_)
        · try simp only [nn, Fm.rows_len, Bool.and_true] at hc9
          refine awp_seq (awp_region ?_)
          refine al_pure rfl rfl rfl (pure_assign rfl gU) ?_
          refine al_nil ?_
          refine awp_ret ?_
          repeat (first | refine tR ?_ | refine bR ?_)
          refine ret_ok rfl ?_ trivial
          exact xi_eq (by simp [fieldE, shapeB, rangeB, *] <;> grind)
        · try simp only [nn, Fm.rows_len, Bool.and_true] at hc9
          refine awp_seq (awp_region ?_)
          refine al_pure rfl rfl rfl (pure_move rfl gU) ?_
          refine al_pure rfl rfl rfl (pure_not rfl gU) ?_
          refine al_pure rfl rfl rfl (pure_assign rfl gU) ?_
          refine al_nil ?_
          refine awp_sub (s := { t := [(0, _, _), (4, _, _), (115, _, _)], bx := [((.l 4), _)], ow := [] }) (sub_mk (⟨sx rfl, ⟨sx rfl, ⟨sx rfl, trivial⟩⟩⟩) (⟨sx rfl, trivial⟩) trivial) ?_
          refine awp_cond rfl (fun hc10 => ?_) (fun hc10 => ?_)
          · try simp only [nn, Fm.rows_len, Bool.and_true] at hc10
            refine awp_seq (awp_region ?_)
            refine al_pure rfl rfl rfl (pure_assign rfl gU) ?_
            refine al_nil ?_
            refine awp_ret ?_
            repeat (first | refine tR ?_ | refine bR ?_)
            refine ret_ok rfl ?_ trivial
            exact xi_eq (by simp [fieldE, shapeB, rangeB, *] <;> grind)
          · try simp only [nn, Fm.rows_len, Bool.and_true] at hc10
            refine awp_seq (awp_region ?_)
            refine al_pure rfl rfl rfl (pure_fieldPtr rfl gU rfl rfl) ?_
            refine al_pure rfl rfl rfl (pure_loadBox rfl gU rfl rfl rfl rfl) ?_
            refine al_pure rfl rfl rfl (pure_cmp rfl rfl gU gU rfl) ?_
            refine al_pure rfl rfl rfl (pure_assign rfl gU) ?_
            refine al_nil ?_
            refine awp_cond rfl (fun hc11 => ?_) (fun hc11 => ?_)
            · try simp only [nn, Fm.rows_len, Bool.and_true] at hc11
              refine awp_seq (awp_region ?_)
              refine al_pure rfl rfl rfl (pure_assign rfl gU) ?_
              refine al_nil ?_
              refine awp_ret ?_
              repeat (first | refine tR ?_ | refine bR ?_)
              refine ret_ok rfl ?_ trivial
              exact xi_eq (by simp [fieldE, shapeB, rangeB, *] <;> grind)
            · try simp only [nn, Fm.rows_len, Bool.and_true] at hc11
              refine awp_seq (awp_region ?_)
              refine al_pure rfl rfl rfl (pure_fieldPtr rfl gU rfl rfl) ?_
              refine al_pure rfl rfl rfl (pure_loadBox rfl gU rfl rfl rfl rfl) ?_
              refine al_pure rfl rfl rfl (pure_cmp rfl rfl gU gU rfl) ?_
              refine al_pure rfl rfl rfl (pure_move rfl gU) ?_
              refine al_pure rfl rfl rfl (pure_fieldPtr rfl gU rfl rfl) ?_
              refine al_pure rfl rfl rfl (pure_loadBox rfl (fun hh => hh) rfl rfl rfl rfl) ?_
              refine al_pure rfl rfl rfl (pure_move rfl gU) ?_
              refine al_pure rfl rfl rfl (pure_lenSl rfl (fun hh => hh) rfl rfl) ?_
              refine al_sub (s := { t := [(0, _, _), (4, _, _), (126, _, _), (128, _, _), (130, _, _)], bx := [((.l 4), _)], ow := [] }) (sub_mk (⟨sx rfl, ⟨sx rfl, ⟨sx rfl, ⟨sx rfl, ⟨sx rfl, trivial⟩⟩⟩⟩⟩) (⟨sx rfl, trivial⟩) trivial) ?_
              refine al_pure rfl rfl rfl (pure_cmp rfl rfl (fun hh => hh) (fun hh => hh) rfl) ?_
              refine al_pure rfl rfl rfl (pure_or rfl rfl gU (fun _ hi => gP rfl hi)) ?_
              refine al_pure rfl rfl rfl (pure_assign rfl gU) ?_
              refine al_nil ?_
              refine awp_cond rfl (fun hc12 => ?_) (fun hc12 => ?_)
              · try simp only [nn, Fm.rows_len, Bool.and_true] at hc12
                refine awp_seq (awp_region ?_)
                refine al_pure rfl rfl rfl (pure_assign rfl gU) ?_
                refine al_nil ?_
                refine awp_ret ?_
                repeat (first | refine tR ?_ | refine bR ?_)
                refine ret_ok rfl ?_ trivial
                exact xi_eq (by simp [fieldE, shapeB, rangeB, *] <;> grind)
              · try simp only [nn, Fm.rows_len, Bool.and_true] at hc12
                refine awp_skip ?_
                refine awp_seq ?_
                refine awp_seq (awp_region ?_)
                refine al_pure rfl rfl rfl (pure_move rfl gU) ?_
                refine al_pure rfl rfl rfl (pure_fieldPtr rfl gU rfl rfl) ?_
                refine al_pure rfl rfl rfl (pure_loadBox rfl gU rfl rfl rfl rfl) ?_
                refine al_pure rfl rfl rfl (pure_indexAddr (j := f.n.toNat) rfl rfl gU gU rfl rfl (by omega) (fun hh => Fm.rows_at (by omega))) ?_
                refine al_pure rfl rfl rfl (pure_fieldRo rfl gU rfl rfl) ?_
                refine al_pure rfl rfl rfl (pure_loadRo rfl gU rfl rfl rfl) ?_
                refine al_lenSl rfl rfl rfl rfl rfl gU rfl rfl ?_ (fun hh => by simp at hh); intro hlen
                refine al_pure rfl rfl rfl (pure_move rfl gU) ?_
                refine al_nil ?_
                refine awp_sub (s := { t := [(138, _, _), (139, _, _), (140, _, _)], bx := [], ow := [] }) (sub_mk (⟨sx rfl, ⟨sx rfl, ⟨sx rfl, trivial⟩⟩⟩) trivial trivial) ?_
                refine awp_block ?_
                exfalso
                grind
      · try simp only [nn, Fm.rows_len, Bool.and_true] at hc3
        refine awp_seq (awp_region ?_)
        refine al_pure rfl rfl rfl (pure_cmp rfl rfl gU gU rfl) ?_
        refine al_pure rfl rfl rfl (pure_assign rfl gU) ?_
        refine al_nil ?_
        refine awp_sub (s := { t := [(0, _, _), (2, _, _), (4, _, _), (7, _, _), (8, _, _), (15, _, _), (57, _, _)], bx := [((.l 4), _), ((.l 7), _)], ow := [] }) (sub_mk (⟨sx rfl, ⟨sx rfl, ⟨sx rfl, ⟨sx rfl, ⟨sx rfl, ⟨sx rfl, ⟨sx rfl, trivial⟩⟩⟩⟩⟩⟩⟩) (⟨sx rfl, ⟨sx rfl, trivial⟩⟩) trivial) ?_
        refine awp_cond rfl (fun hc4 => ?_) (fun hc4 => ?_)
        · try simp only [nn, Fm.rows_len, Bool.and_true] at hc4
          refine awp_region ?_
          refine al_pure rfl rfl rfl (pure_fieldPtr rfl gU rfl rfl) ?_
          refine al_pure rfl rfl rfl (pure_loadBox rfl gU rfl rfl rfl rfl) ?_
          refine al_pure rfl rfl rfl (pure_fieldPtr rfl gU rfl rfl) ?_
          refine al_do rfl (does_store rfl rfl rfl rfl rfl rfl rfl) ?_
          refine al_nil ?_
          refine awp_seq ?_
          refine awp_block ?_
          refine awp_seq (awp_region ?_)
          refine al_pure rfl rfl rfl (pure_loadBoxRow rfl gU rfl rfl rfl rfl rfl) ?_
          refine al_pure rfl rfl rfl (pure_loadBoxRow rfl gU rfl rfl rfl rfl rfl) ?_
          refine al_pure rfl rfl rfl (pure_eqStruct (ks := [1, 2, 1, 1, 1]) (.inr ⟨rfl, rfl⟩) rfl rfl gU gU Try.underlying62 (by kernel_rfl) (by kernel_rfl) (by kernel_rfl) rfl) ?_
          refine al_pure rfl rfl rfl (pure_assign rfl gU) ?_
          refine al_nil ?_
          refine awp_sub (s := { t := [(0, _, _), (4, _, _), (8, _, _), (111, _, _)], bx := [((.l 4), _)], ow := [] }) (sub_mk (⟨sx rfl, ⟨sx rfl, ⟨sx rfl, ⟨sx rfl, trivial⟩⟩⟩⟩) (⟨sx rfl, trivial⟩) trivial) ?_
          refine awp_cond rfl (fun hc5 => ?_) (fun hc5 => ?_)
          · try simp only [nn, Fm.rows_len, Bool.and_true] at hc5
            refine awp_seq (awp_region ?_)
            refine al_pure rfl rfl rfl (pure_assign rfl gU) ?_
            refine al_nil ?_
            refine awp_ret ?_
            repeat (first | refine tR ?_ | refine bR ?_)
            refine ret_ok rfl ?_ trivial
            exact xi_eq (by simp [fieldE, shapeB, rangeB, *] <;> grind)
          · try simp only [nn, Fm.rows_len, Bool.and_true] at hc5
            refine awp_seq (awp_region ?_)
            refine al_pure rfl rfl rfl (pure_move rfl gU) ?_
            refine al_pure rfl rfl rfl (pure_not rfl gU) ?_
            refine al_pure rfl rfl rfl (pure_assign rfl gU) ?_
            refine al_nil ?_
            refine awp_cond rfl (fun hc6 => ?_) (fun hc6 => ?_)
            · try simp only [nn, Fm.rows_len, Bool.and_true] at hc6
              refine awp_seq (awp_region ?_)
              refine al_pure rfl rfl rfl (pure_assign rfl gU) ?_
              refine al_nil ?_
              refine awp_ret ?_
              repeat (first | refine tR ?_ | refine bR ?_)
              refine ret_ok rfl ?_ trivial
              exact xi_eq (by simp [fieldE, shapeB, rangeB, *] <;> grind)
            · try simp only [nn, Fm.rows_len, Bool.and_true] at hc6
              refine awp_seq (awp_region ?_)
              refine al_pure rfl rfl rfl (pure_fieldPtr rfl gU rfl rfl) ?_
              refine al_pure rfl rfl rfl (pure_loadBox rfl gU rfl rfl rfl rfl) ?_
              refine al_pure rfl rfl rfl (pure_cmp rfl rfl gU gU rfl) ?_
              refine al_pure rfl rfl rfl (pure_assign rfl gU) ?_
              refine al_nil ?_
              refine awp_sub (s := { t := [(0, _, _), (4, _, _), (118, _, _)], bx := [((.l 4), _)], ow := [] }) (sub_mk (⟨sx rfl, ⟨sx rfl, ⟨sx rfl, trivial⟩⟩⟩) (⟨sx rfl, trivial⟩) trivial) ?_
              refine awp_cond rfl (fun hc7 => ?_) (fun hc7 => ?_)
              · try simp only [nn, Fm.rows_len, Bool.and_true] at hc7
                refine awp_seq (awp_region ?_)
                refine al_pure rfl rfl rfl (pure_assign rfl gU) ?_
                refine al_nil ?_
                refine awp_ret ?_
                repeat (first | refine tR ?_ | refine bR ?_)
                refine ret_ok rfl ?_ trivial
                exact xi_eq (by simp [fieldE, shapeB, rangeB, *] <;> grind)
              · try simp only [nn, Fm.rows_len, Bool.and_true] at hc7
                refine awp_seq (awp_region ?_)
                refine al_pure rfl rfl rfl (pure_fieldPtr rfl gU rfl rfl) ?_
                refine al_pure rfl rfl rfl (pure_loadBox rfl gU rfl rfl rfl rfl) ?_
                refine al_pure rfl rfl rfl (pure_cmp rfl rfl gU gU rfl) ?_
                refine al_pure rfl rfl rfl (pure_move rfl gU) ?_
                refine al_pure rfl rfl rfl (pure_fieldPtr rfl gU rfl rfl) ?_
                refine al_pure rfl rfl rfl (pure_loadBox rfl (fun hh => hh) rfl rfl rfl rfl) ?_
                refine al_pure rfl rfl rfl (pure_move rfl gU) ?_
                refine al_pure rfl rfl rfl (pure_lenSl rfl (fun hh => hh) rfl rfl) ?_
                refine al_pure rfl rfl rfl (pure_cmp rfl rfl (fun hh => hh) (fun hh => hh) rfl) ?_
                refine al_pure rfl rfl rfl (pure_or rfl rfl gU (fun _ hi => gP rfl hi)) ?_
                refine al_pure rfl rfl rfl (pure_assign rfl gU) ?_
                refine al_nil ?_
                refine awp_sub (s := { t := [(0, _, _), (4, _, _), (122, _, _)], bx := [((.l 4), _)], ow := [] }) (sub_mk (⟨sx rfl, ⟨sx rfl, ⟨sx rfl, trivial⟩⟩⟩) (⟨sx rfl, trivial⟩) trivial) ?_
                refine awp_cond rfl (fun hc8 => ?_) (fun hc8 => ?_)
                · try simp only [nn, Fm.rows_len, Bool.and_true] at hc8
                  refine awp_seq (awp_region ?_)
                  refine al_pure rfl rfl rfl (pure_assign rfl gU) ?_
                  refine al_nil ?_
                  refine awp_ret ?_
                  repeat (first | refine tR ?_ | refine bR ?_)
                  refine ret_ok rfl ?_ trivial
                  exact xi_eq (by simp [fieldE, shapeB, rangeB, *] <;> grind)
                · try simp only [nn, Fm.rows_len, Bool.and_true] at hc8
                  have hF : fieldE t f last = if plainB (t.getD f.n.toNat default).fields = false then 10 else 0 := by simp [fieldE, shapeB, rangeB, *] <;> grind
                  have hrf := Fd.rows_len (t.getD f.n.toNat default).fields
                  rw [hF]
                  refine awp_skip ?_
                  refine awp_seq ?_
                  refine awp_seq (awp_region ?_)
                  refine al_pure rfl rfl rfl (pure_move rfl gU) ?_
                  refine al_pure rfl rfl rfl (pure_fieldPtr rfl gU rfl rfl) ?_
                  refine al_pure rfl rfl rfl (pure_loadBox rfl gU rfl rfl rfl rfl) ?_
                  refine al_pure rfl rfl rfl (pure_indexAddr (j := f.n.toNat) rfl rfl gU gU rfl rfl (by omega) (fun hh => Fm.rows_at (by omega))) ?_
                  refine al_pure rfl rfl rfl (pure_fieldRo rfl gU rfl rfl) ?_
                  refine al_pure rfl rfl rfl (pure_loadRo rfl gU rfl rfl rfl) ?_
                  refine al_lenSl rfl rfl rfl rfl rfl gU rfl rfl ?_ (fun hh => by simp at hh); intro hlen
                  refine al_pure rfl rfl rfl (pure_move rfl gU) ?_
                  refine al_nil ?_
                  refine awp_sub (s := { t := [(138, _, _), (139, _, _), (140, _, _)], bx := [], ow := [] }) (sub_mk (⟨sx rfl, ⟨sx rfl, ⟨sx rfl, trivial⟩⟩⟩) trivial trivial) ?_
                  refine awp_block ?_
                  refine awp_for (ι := Nat) { t := [(138, _, _), (139, _, _)], bx := [], ow := [] } (fun k => [(140, true, xi (k : Int))]) (fun k => []) (fun k => k ≤ (t.getD f.n.toNat default).fields.length ∧ plainB ((t.getD f.n.toNat default).fields.drop k) = plainB (t.getD f.n.toNat default).fields) (fun k => (t.getD f.n.toNat default).fields.length - k) (0) (by simp) (sub_mk (⟨sx rfl, ⟨sx rfl, ⟨sx rfl, trivial⟩⟩⟩) trivial trivial) ?_
                  intro k hok
                  dsimp only [List.cons_append, List.nil_append]
                  obtain ⟨hk, hi⟩ := hok
                  refine awp_seq (awp_region ?_)
                  refine al_pure rfl rfl rfl (pure_cmp rfl rfl gU gU rfl) ?_
                  refine al_nil ?_
                  refine awp_seq ?_
                  refine awp_cond rfl (fun hc9 => ?_) (fun hc9 => ?_)
                  · simp only [decide_eq_true_eq, hrf] at hc9
                    rw [drop_getD (by omega), plainB, List.all_cons] at hi
                    refine awp_skip ?_
                    refine awp_seq ?_
                    refine awp_block ?_
                    refine awp_seq (awp_region ?_)
                    refine al_pure rfl rfl rfl (pure_indexAddr rfl rfl gU gU rfl rfl rfl (fun hh => Fd.rows_at (by omega))) ?_
                    refine al_pure rfl rfl rfl (pure_loadRoRow rfl gU rfl rfl rfl rfl) ?_
                    refine al_do rfl (does_alloc rfl rfl rfl) ?_
                    refine al_do rfl (does_store rfl rfl rfl rfl rfl rfl rfl) ?_
                    refine al_nil ?_
                    refine awp_seq (awp_region ?_)
                    refine al_pure rfl rfl rfl (pure_fieldPtr rfl gU rfl rfl) ?_
                    refine al_pure rfl rfl rfl (pure_loadBox rfl gU rfl rfl rfl rfl) ?_
                    refine al_pure rfl rfl rfl (pure_cmp rfl rfl gU gU rfl) ?_
                    refine al_pure rfl rfl rfl (pure_move rfl gU) ?_
                    refine al_pure rfl rfl rfl (pure_fieldPtr rfl gU rfl rfl) ?_
                    refine al_pure rfl rfl rfl (pure_loadBox rfl (fun hh => hh) rfl rfl rfl rfl) ?_
                    refine al_pure rfl rfl rfl (pure_cmp rfl rfl (fun hh => hh) gU rfl) ?_
                    refine al_pure rfl rfl rfl (pure_or rfl rfl gU (fun _ hi => gP rfl hi)) ?_
                    refine al_nil ?_
                    refine awp_sub (s := { t := [(138, _, _), (139, _, _), (140, _, _), (151, _, _)], bx := [], ow := [] }) (sub_mk (⟨sx rfl, ⟨sx rfl, ⟨sx rfl, ⟨sx rfl, trivial⟩⟩⟩⟩) trivial trivial) ?_
                    refine awp_cond rfl (fun hc13 => ?_) (fun hc13 => ?_)
                    · try simp only [nn, Fm.rows_len, Bool.and_true] at hc13
                      refine awp_seq (awp_region ?_)
                      refine al_pure rfl rfl rfl (pure_assign rfl gU) ?_
                      refine al_nil ?_
                      refine awp_ret ?_
                      repeat (first | refine tR ?_ | refine bR ?_)
                      refine ret_ok rfl ?_ trivial
                      exact xi_eq (by grind)
                    · try simp only [nn, Fm.rows_len, Bool.and_true] at hc13
                      refine awp_skip ?_
                      refine awp_region ?_
                      refine al_pure rfl rfl rfl (pure_arith rfl rfl gU gU rfl (IntWalk.i64_in _ (by omega))) ?_
                      refine al_pure rfl rfl rfl (pure_move rfl gU) ?_
                      refine al_nil ?_
                      refine ⟨k + 1, ?_, ?_, sub_mk (⟨⟨_, rfl, ?_⟩, ⟨sx rfl, ⟨sx rfl, trivial⟩⟩⟩) trivial trivial⟩
                      all_goals (first | rfl | omega | grind [plainB])
                  · simp only [decide_eq_false_iff_not, hrf] at hc9
                    rw [List.drop_of_length_le (by omega)] at hi
                    refine awp_exit ?_
                    repeat (first | refine thenS_exit ?_ | refine blockS_hit ?_ | refine blockS_miss rfl ?_)
                    refine awp_seq (awp_region ?_)
                    refine al_pure rfl rfl rfl (pure_assign rfl gU) ?_
                    refine al_nil ?_
                    refine awp_ret ?_
                    repeat (first | refine tR ?_ | refine bR ?_)
                    refine ret_ok rfl ?_ trivial
                    exact xi_eq (by rw [← hi]; rfl)
        · try simp only [nn, Fm.rows_len, Bool.and_true] at hc4
          refine awp_seq (awp_region ?_)
          refine al_pure rfl rfl rfl (pure_cmp rfl rfl gU gU rfl) ?_
          refine al_pure rfl rfl rfl (pure_assign rfl gU) ?_
          refine al_nil ?_
          refine awp_cond rfl (fun hc14 => ?_) (fun hc14 => ?_)
          · try simp only [nn, Fm.rows_len, Bool.and_true] at hc14
            refine awp_seq ?_
            refine awp_drawn' (by kernel_rfl) ?_
            refine dr_pure rfl rfl rfl rfl (pure_fieldPtr rfl gU rfl rfl) ?_
            refine dr_load rfl rfl rfl rfl rfl rfl rfl gU rfl rfl rfl rfl ?_
            refine dr_pure rfl rfl rfl rfl (pure_fieldPtr rfl gU rfl rfl) ?_
            refine dr_load rfl rfl rfl rfl rfl rfl rfl gU rfl rfl rfl rfl ?_
            refine dr_pure rfl rfl rfl rfl (pure_fieldPtr rfl gU rfl rfl) ?_
            refine dr_store rfl rfl rfl rfl rfl rfl rfl rfl rfl rfl rfl rfl ?_
            refine dr_pure rfl rfl rfl rfl (pure_fieldPtr rfl gU rfl rfl) ?_
            refine dr_store rfl rfl rfl rfl rfl rfl rfl rfl rfl rfl rfl rfl ?_
            refine dr_nil (by kernel_rfl) ?_
            refine awp_sub (s := { t := [(0, _, _), (4, _, _), (7, _, _)], bx := [((.l 4), _), ((.l 7), _)], ow := [] }) (sub_mk (⟨sx rfl, ⟨sx rfl, ⟨sx rfl, trivial⟩⟩⟩) (⟨sx rfl, ⟨sx rfl, trivial⟩⟩) trivial) ?_
            refine awp_region ?_
            refine al_pure rfl rfl rfl (pure_fieldPtr rfl gU rfl rfl) ?_
            refine al_pure rfl rfl rfl (pure_loadBox rfl gU rfl rfl rfl rfl) ?_
            refine al_pure rfl rfl rfl (pure_cmp rfl rfl gU gU rfl) ?_
            refine al_pure rfl rfl rfl (pure_move rfl gU) ?_
            refine al_pure rfl rfl rfl (pure_fieldPtr rfl gU rfl rfl) ?_
            refine al_pure rfl rfl rfl (pure_loadBox rfl (fun hh => hh) rfl rfl rfl rfl) ?_
            refine al_pure rfl rfl rfl (pure_fieldPtr rfl gU rfl rfl) ?_
            refine al_pure rfl rfl rfl (pure_loadBox rfl (fun hh => hh) rfl rfl rfl rfl) ?_
            refine al_pure rfl rfl rfl (pure_cmp rfl rfl (fun hh => hh) (fun hh => hh) rfl) ?_
            refine al_pure rfl rfl rfl (pure_and rfl rfl gU (fun _ hi => gP rfl hi)) ?_
            refine al_pure rfl rfl rfl (pure_move rfl gU) ?_
            refine al_pure rfl rfl rfl (pure_fieldPtr rfl gU rfl rfl) ?_
            refine al_sub (s := { t := [(0, _, _), (4, _, _), (7, _, _), (80, _, _), (81, _, _)], bx := [((.l 4), _), ((.l 7), _)], ow := [] }) (sub_mk (⟨sx rfl, ⟨sx rfl, ⟨sx rfl, ⟨sx rfl, ⟨sx rfl, trivial⟩⟩⟩⟩⟩) (⟨sx rfl, ⟨sx rfl, trivial⟩⟩) trivial) ?_
            refine al_pure rfl rfl rfl (pure_loadBox rfl (fun hh => hh) rfl rfl rfl rfl) ?_
            refine al_pure rfl rfl rfl (pure_cmp rfl rfl (fun hh => hh) gU rfl) ?_
            refine al_pure rfl rfl rfl (pure_and rfl rfl gU (fun _ hi => gP rfl hi)) ?_
            refine al_pure rfl rfl rfl (pure_assign rfl gU) ?_
            refine al_nil ?_
            refine awp_seq ?_
            refine awp_block ?_
            refine awp_seq (awp_region ?_)
            refine al_pure rfl rfl rfl (pure_loadBoxRow rfl gU rfl rfl rfl rfl rfl) ?_
            refine al_pure rfl rfl rfl (pure_loadBoxRow rfl gU rfl rfl rfl rfl rfl) ?_
            refine al_pure rfl rfl rfl (pure_eqStruct (ks := [1, 2, 1, 1, 1]) (.inr ⟨rfl, rfl⟩) rfl rfl gU gU Try.underlying62 (by kernel_rfl) (by kernel_rfl) (by kernel_rfl) rfl) ?_
            refine al_pure rfl rfl rfl (pure_assign rfl gU) ?_
            refine al_nil ?_
            refine awp_sub (s := { t := [(0, _, _), (4, _, _), (8, _, _), (111, _, _)], bx := [((.l 4), _)], ow := [] }) (sub_mk (⟨sx rfl, ⟨sx rfl, ⟨sx rfl, ⟨sx rfl, trivial⟩⟩⟩⟩) (⟨sx rfl, trivial⟩) trivial) ?_
            refine awp_cond rfl (fun hc15 => ?_) (fun hc15 => ?_)
            · try simp only [nn, Fm.rows_len, Bool.and_true] at hc15
              refine awp_seq (awp_region ?_)
              refine al_pure rfl rfl rfl (pure_assign rfl gU) ?_
              refine al_nil ?_
              refine awp_ret ?_
              repeat (first | refine tR ?_ | refine bR ?_)
              refine ret_ok rfl ?_ trivial
              exact xi_eq (by simp [fieldE, shapeB, rangeB, *] <;> grind)
            · try simp only [nn, Fm.rows_len, Bool.and_true] at hc15
              refine awp_seq (awp_region ?_)
              refine al_pure rfl rfl rfl (pure_move rfl gU) ?_
              refine al_pure rfl rfl rfl (pure_not rfl gU) ?_
              refine al_pure rfl rfl rfl (pure_assign rfl gU) ?_
              refine al_nil ?_
              refine awp_cond rfl (fun hc16 => ?_) (fun hc16 => ?_)
              · try simp only [nn, Fm.rows_len, Bool.and_true] at hc16
                refine awp_seq (awp_region ?_)
                refine al_pure rfl rfl rfl (pure_assign rfl gU) ?_
                refine al_nil ?_
                refine awp_ret ?_
                repeat (first | refine tR ?_ | refine bR ?_)
                refine ret_ok rfl ?_ trivial
                exact xi_eq (by simp [fieldE, shapeB, rangeB, *] <;> grind)
              · try simp only [nn, Fm.rows_len, Bool.and_true] at hc16
                refine awp_seq (awp_region ?_)
                refine al_pure rfl rfl rfl (pure_fieldPtr rfl gU rfl rfl) ?_
                refine al_pure rfl rfl rfl (pure_loadBox rfl gU rfl rfl rfl rfl) ?_
                refine al_pure rfl rfl rfl (pure_cmp rfl rfl gU gU rfl) ?_
                refine al_pure rfl rfl rfl (pure_assign rfl gU) ?_
                refine al_nil ?_
                refine awp_sub (s := { t := [(0, _, _), (4, _, _), (118, _, _)], bx := [((.l 4), _)], ow := [] }) (sub_mk (⟨sx rfl, ⟨sx rfl, ⟨sx rfl, trivial⟩⟩⟩) (⟨sx rfl, trivial⟩) trivial) ?_
                refine awp_cond rfl (fun hc17 => ?_) (fun hc17 => ?_)
                · try simp only [nn, Fm.rows_len, Bool.and_true] at hc17
                  refine awp_seq (awp_region ?_)
                  refine al_pure rfl rfl rfl (pure_assign rfl gU) ?_
                  refine al_nil ?_
                  refine awp_ret ?_
                  repeat (first | refine tR ?_ | refine bR ?_)
                  refine ret_ok rfl ?_ trivial
                  exact xi_eq (by simp [fieldE, shapeB, rangeB, *] <;> grind)
                · try simp only [nn, Fm.rows_len, Bool.and_true] at hc17
                  refine awp_seq (awp_region ?_)
                  refine al_pure rfl rfl rfl (pure_fieldPtr rfl gU rfl rfl) ?_
                  refine al_pure rfl rfl rfl (pure_loadBox rfl gU rfl rfl rfl rfl) ?_
                  refine al_pure rfl rfl rfl (pure_cmp rfl rfl gU gU rfl) ?_
                  refine al_pure rfl rfl rfl (pure_move rfl gU) ?_
                  refine al_pure rfl rfl rfl (pure_fieldPtr rfl gU rfl rfl) ?_
                  refine al_pure rfl rfl rfl (pure_loadBox rfl (fun hh => hh) rfl rfl rfl rfl) ?_
                  refine al_pure rfl rfl rfl (pure_move rfl gU) ?_
                  refine al_pure rfl rfl rfl (pure_lenSl rfl (fun hh => hh) rfl rfl) ?_
                  refine al_pure rfl rfl rfl (pure_cmp rfl rfl (fun hh => hh) (fun hh => hh) rfl) ?_
                  refine al_pure rfl rfl rfl (pure_or rfl rfl gU (fun _ hi => gP rfl hi)) ?_
                  refine al_pure rfl rfl rfl (pure_assign rfl gU) ?_
                  refine al_nil ?_
                  refine awp_sub (s := { t := [(0, _, _), (4, _, _), (122, _, _)], bx := [((.l 4), _)], ow := [] }) (sub_mk (⟨sx rfl, ⟨sx rfl, ⟨sx rfl, trivial⟩⟩⟩) (⟨sx rfl, trivial⟩) trivial) ?_
                  refine awp_cond rfl (fun hc18 => ?_) (fun hc18 => ?_)
                  · try simp only [nn, Fm.rows_len, Bool.and_true] at hc18
                    refine awp_seq (awp_region ?_)
                    refine al_pure rfl rfl rfl (pure_assign rfl gU) ?_
                    refine al_nil ?_
                    refine awp_ret ?_
                    repeat (first | refine tR ?_ | refine bR ?_)
                    refine ret_ok rfl ?_ trivial
                    exact xi_eq (by simp [fieldE, shapeB, rangeB, *] <;> grind)
                  · try simp only [nn, Fm.rows_len, Bool.and_true] at hc18
                    refine awp_skip ?_
                    refine awp_seq ?_
                    refine awp_seq (awp_region ?_)
                    refine al_pure rfl rfl rfl (pure_move rfl gU) ?_
                    refine al_pure rfl rfl rfl (pure_fieldPtr rfl gU rfl rfl) ?_
                    refine al_pure rfl rfl rfl (pure_loadBox rfl gU rfl rfl rfl rfl) ?_
                    refine al_pure rfl rfl rfl (pure_indexAddr (j := f.n.toNat) rfl rfl gU gU rfl rfl (by omega) (fun hh => Fm.rows_at (by omega))) ?_
                    refine al_pure rfl rfl rfl (pure_fieldRo rfl gU rfl rfl) ?_
                    refine al_pure rfl rfl rfl (pure_loadRo rfl gU rfl rfl rfl) ?_
                    refine al_lenSl rfl rfl rfl rfl rfl gU rfl rfl ?_ (fun hh => by simp at hh); intro hlen
                    refine al_pure rfl rfl rfl (pure_move rfl gU) ?_
                    refine al_nil ?_
                    refine awp_sub (s := { t := [(138, _, _), (139, _, _), (140, _, _)], bx := [], ow := [] }) (sub_mk (⟨sx rfl, ⟨sx rfl, ⟨sx rfl, trivial⟩⟩⟩) trivial trivial) ?_
                    refine awp_block ?_
                    exfalso
                    grind
          · try simp only [nn, Fm.rows_len, Bool.and_true] at hc14
            refine awp_seq (awp_region ?_)
            refine al_pure rfl rfl rfl (pure_cmp rfl rfl gU gU rfl) ?_
            refine al_pure rfl rfl rfl (pure_assign rfl gU) ?_
            refine al_nil ?_
            refine awp_cond rfl (fun hc19 => ?_) (fun hc19 => ?_)
            · try simp only [nn, Fm.rows_len, Bool.and_true] at hc19
              refine awp_seq ?_
              refine awp_drawn' (by kernel_rfl) ?_
              refine dr_pure rfl rfl rfl rfl (pure_fieldPtr rfl gU rfl rfl) ?_
              refine dr_load rfl rfl rfl rfl rfl rfl rfl gU rfl rfl rfl rfl ?_
              refine dr_pure rfl rfl rfl rfl (pure_fieldPtr rfl gU rfl rfl) ?_
              refine dr_load rfl rfl rfl rfl rfl rfl rfl gU rfl rfl rfl rfl ?_
              refine dr_pure rfl rfl rfl rfl (pure_fieldPtr rfl gU rfl rfl) ?_
              refine dr_store rfl rfl rfl rfl rfl rfl rfl rfl rfl rfl rfl rfl ?_
              refine dr_pure rfl rfl rfl rfl (pure_fieldPtr rfl gU rfl rfl) ?_
              refine dr_store rfl rfl rfl rfl rfl rfl rfl rfl rfl rfl rfl rfl ?_
              refine dr_nil (by kernel_rfl) ?_
              refine awp_sub (s := { t := [(0, _, _), (2, _, _), (4, _, _), (7, _, _)], bx := [((.l 4), _), ((.l 7), _)], ow := [] }) (sub_mk (⟨sx rfl, ⟨sx rfl, ⟨sx rfl, ⟨sx rfl, trivial⟩⟩⟩⟩) (⟨sx rfl, ⟨sx rfl, trivial⟩⟩) trivial) ?_
              refine awp_region ?_
              refine al_pure rfl rfl rfl (pure_move rfl gU) ?_
              refine al_pure rfl rfl rfl (pure_move rfl gU) ?_
              refine al_pure rfl rfl rfl (pure_fieldPtr rfl gU rfl rfl) ?_
              refine al_pure rfl rfl rfl (pure_loadBox rfl (fun hh => hh) rfl rfl rfl rfl) ?_
              refine al_pure rfl rfl rfl (pure_cmp rfl rfl (fun hh => hh) gU rfl) ?_
              refine al_pure rfl rfl rfl (pure_and rfl rfl gU (fun _ hi => gP rfl hi)) ?_
              refine al_pure rfl rfl rfl (pure_move rfl gU) ?_
              refine al_pure rfl rfl rfl (pure_fieldPtr rfl gU rfl rfl) ?_
              refine al_pure rfl rfl rfl (pure_loadBox rfl (fun hh => hh) rfl rfl rfl rfl) ?_
              refine al_pure rfl rfl rfl (pure_fieldPtr rfl gU rfl rfl) ?_
              refine al_pure rfl rfl rfl (pure_loadBox rfl (fun hh => hh) rfl rfl rfl rfl) ?_
              refine al_pure rfl rfl rfl (pure_cmp rfl rfl (fun hh => hh) (fun hh => hh) rfl) ?_
              refine al_sub (s := { t := [(0, _, _), (4, _, _), (7, _, _), (99, _, _), (104, _, _)], bx := [((.l 4), _), ((.l 7), _)], ow := [] }) (sub_mk (⟨sx rfl, ⟨sx rfl, ⟨sx rfl, ⟨sx rfl, ⟨sx rfl, trivial⟩⟩⟩⟩⟩) (⟨sx rfl, ⟨sx rfl, trivial⟩⟩) trivial) ?_
              refine al_pure rfl rfl rfl (pure_and rfl rfl gU (fun _ hi => gP rfl hi)) ?_
              refine al_pure rfl rfl rfl (pure_move rfl gU) ?_
              refine al_pure rfl rfl rfl (pure_fieldPtr rfl gU rfl rfl) ?_
              refine al_pure rfl rfl rfl (pure_loadBox rfl (fun hh => hh) rfl rfl rfl rfl) ?_
              refine al_pure rfl rfl rfl (pure_cmp rfl rfl (fun hh => hh) gU rfl) ?_
              refine al_pure rfl rfl rfl (pure_and rfl rfl gU (fun _ hi => gP rfl hi)) ?_
              refine al_pure rfl rfl rfl (pure_assign rfl gU) ?_
              refine al_nil ?_
              refine awp_sub (s := { t := [(0, _, _), (4, _, _), (7, _, _), (8, _, _)], bx := [((.l 4), _), ((.l 7), _)], ow := [] }) (sub_mk (⟨sx rfl, ⟨sx rfl, ⟨sx rfl, ⟨sx rfl, trivial⟩⟩⟩⟩) (⟨sx rfl, ⟨sx rfl, trivial⟩⟩) trivial) ?_
              refine awp_seq ?_
              refine awp_block ?_
              refine awp_seq (awp_region ?_)
              refine al_pure rfl rfl rfl (pure_loadBoxRow rfl gU rfl rfl rfl rfl rfl) ?_
              refine al_pure rfl rfl rfl (pure_loadBoxRow rfl gU rfl rfl rfl rfl rfl) ?_
              refine al_pure rfl rfl rfl (pure_eqStruct (ks := [1, 2, 1, 1, 1]) (.inr ⟨rfl, rfl⟩) rfl rfl gU gU Try.underlying62 (by kernel_rfl) (by kernel_rfl) (by kernel_rfl) rfl) ?_
              refine al_pure rfl rfl rfl (pure_assign rfl gU) ?_
              refine al_nil ?_
              refine awp_cond rfl (fun hc20 => ?_) (fun hc20 => ?_)
              · try simp only [nn, Fm.rows_len, Bool.and_true] at hc20
                refine awp_seq (awp_region ?_)
                refine al_pure rfl rfl rfl (pure_assign rfl gU) ?_
                refine al_nil ?_
                refine awp_ret ?_
                repeat (first | refine tR ?_ | refine bR ?_)
                refine ret_ok rfl ?_ trivial
                exact xi_eq (by simp [fieldE, shapeB, rangeB, *] <;> grind)
              · try simp only [nn, Fm.rows_len, Bool.and_true] at hc20
                refine awp_seq (awp_region ?_)
                refine al_pure rfl rfl rfl (pure_move rfl gU) ?_
                refine al_pure rfl rfl rfl (pure_not rfl gU) ?_
                refine al_pure rfl rfl rfl (pure_assign rfl gU) ?_
                refine al_nil ?_
                refine awp_sub (s := { t := [(0, _, _), (4, _, _), (115, _, _)], bx := [((.l 4), _)], ow := [] }) (sub_mk (⟨sx rfl, ⟨sx rfl, ⟨sx rfl, trivial⟩⟩⟩) (⟨sx rfl, trivial⟩) trivial) ?_
                refine awp_cond rfl (fun hc21 => ?_) (fun hc21 => ?_)
                · try simp only [nn, Fm.rows_len, Bool.and_true] at hc21
                  refine awp_seq (awp_region ?_)
                  refine al_pure rfl rfl rfl (pure_assign rfl gU) ?_
                  refine al_nil ?_
                  refine awp_ret ?_
                  repeat (first | refine tR ?_ | refine bR ?_)
                  refine ret_ok rfl ?_ trivial
                  exact xi_eq (by simp [fieldE, shapeB, rangeB, *] <;> grind)
                · try simp only [nn, Fm.rows_len, Bool.and_true] at hc21
                  refine awp_seq (awp_region ?_)
                  refine al_pure rfl rfl rfl (pure_fieldPtr rfl gU rfl rfl) ?_
                  refine al_pure rfl rfl rfl (pure_loadBox rfl gU rfl rfl rfl rfl) ?_
                  refine al_pure rfl rfl rfl (pure_cmp rfl rfl gU gU rfl) ?_
                  refine al_pure rfl rfl rfl (pure_assign rfl gU) ?_
                  refine al_nil ?_
                  refine awp_cond rfl (fun hc22 => ?_) (fun hc22 => ?_)
                  · try simp only [nn, Fm.rows_len, Bool.and_true] at hc22
                    refine awp_seq (awp_region ?_)
                    refine al_pure rfl rfl rfl (pure_assign rfl gU) ?_
                    refine al_nil ?_
                    refine awp_ret ?_
                    repeat (first | refine tR ?_ | refine bR ?_)
                    refine ret_ok rfl ?_ trivial
                    exact xi_eq (by simp [fieldE, shapeB, rangeB, *] <;> grind)
                  · try simp only [nn, Fm.rows_len, Bool.and_true] at hc22
                    refine awp_seq (awp_region ?_)
                    refine al_pure rfl rfl rfl (pure_fieldPtr rfl gU rfl rfl) ?_
                    refine al_pure rfl rfl rfl (pure_loadBox rfl gU rfl rfl rfl rfl) ?_
                    refine al_pure rfl rfl rfl (pure_cmp rfl rfl gU gU rfl) ?_
                    refine al_pure rfl rfl rfl (pure_move rfl gU) ?_
                    refine al_pure rfl rfl rfl (pure_fieldPtr rfl gU rfl rfl) ?_
                    refine al_pure rfl rfl rfl (pure_loadBox rfl (fun hh => hh) rfl rfl rfl rfl) ?_
                    refine al_pure rfl rfl rfl (pure_move rfl gU) ?_
                    refine al_pure rfl rfl rfl (pure_lenSl rfl (fun hh => hh) rfl rfl) ?_
                    refine al_sub (s := { t := [(0, _, _), (4, _, _), (126, _, _), (128, _, _), (130, _, _)], bx := [((.l 4), _)], ow := [] }) (sub_mk (⟨sx rfl, ⟨sx rfl, ⟨sx rfl, ⟨sx rfl, ⟨sx rfl, trivial⟩⟩⟩⟩⟩) (⟨sx rfl, trivial⟩) trivial) ?_
                    refine al_pure rfl rfl rfl (pure_cmp rfl rfl (fun hh => hh) (fun hh => hh) rfl) ?_
                    refine al_pure rfl rfl rfl (pure_or rfl rfl gU (fun _ hi => gP rfl hi)) ?_
                    refine al_pure rfl rfl rfl (pure_assign rfl gU) ?_
                    refine al_nil ?_
                    refine awp_cond rfl (fun hc23 => ?_) (fun hc23 => ?_)
                    · try simp only [nn, Fm.rows_len, Bool.and_true] at hc23
                      refine awp_seq (awp_region ?_)
                      refine al_pure rfl rfl rfl (pure_assign rfl gU) ?_
                      refine al_nil ?_
                      refine awp_ret ?_
                      repeat (first | refine tR ?_ | refine bR ?_)
                      refine ret_ok rfl ?_ trivial
                      exact xi_eq (by simp [fieldE, shapeB, rangeB, *] <;> grind)
                    · try simp only [nn, Fm.rows_len, Bool.and_true] at hc23
                      refine awp_skip ?_
                      refine awp_seq ?_
                      refine awp_seq (awp_region ?_)
                      refine al_pure rfl rfl rfl (pure_move rfl gU) ?_
                      refine al_pure rfl rfl rfl (pure_fieldPtr rfl gU rfl rfl) ?_
                      refine al_pure rfl rfl rfl (pure_loadBox rfl gU rfl rfl rfl rfl) ?_
                      refine al_pure rfl rfl rfl (pure_indexAddr (j := f.n.toNat) rfl rfl gU gU rfl rfl (by omega) (fun hh => Fm.rows_at (by omega))) ?_
                      refine al_pure rfl rfl rfl (pure_fieldRo rfl gU rfl rfl) ?_
                      refine al_pure rfl rfl rfl (pure_loadRo rfl gU rfl rfl rfl) ?_
                      refine al_lenSl rfl rfl rfl rfl rfl gU rfl rfl ?_ (fun hh => by simp at hh); intro hlen
                      refine al_pure rfl rfl rfl (pure_move rfl gU) ?_
                      refine al_nil ?_
                      refine awp_sub (s := { t := [(138, _, _), (139, _, _), (140, _, _)], bx := [], ow := [] }) (sub_mk (⟨sx rfl, ⟨sx rfl, ⟨sx rfl, trivial⟩⟩⟩) trivial trivial) ?_
                      refine awp_block ?_
                      exfalso
                      grind
            · try simp only [nn, Fm.rows_len, Bool.and_true] at hc19
              refine awp_seq (awp_region ?_)
              refine al_pure rfl rfl rfl (pure_assign rfl gU) ?_
              refine al_nil ?_
              refine awp_ret ?_
              repeat (first | refine tR ?_ | refine bR ?_)
              refine ret_ok rfl ?_ trivial
              exact xi_eq (by simp [fieldE, shapeB, rangeB, *] <;> grind)
end Go.Proofs.Ytgjclggjkhapfaa
/- Contracts: the errors of tables, and the bounds of formats, on both sides. -/
set_option linter.unusedVariables false
set_option linter.unusedSimpArgs false
namespace Go.Proofs.Ytgjclggjkhapfaa
open Go Go.Abs
theorem last_eq {α : Type} {l : List α} {k n : Nat} (hn : n = l.length) (h : k < l.length) : ((k : Int) == (n : Int) - 1) = (l.drop (k + 1)).isEmpty := by
  rw [Bool.eq_iff_iff, List.isEmpty_iff, List.drop_eq_nil_iff, beq_iff_eq]; omega
theorem take_rows (t : List Fm) (k : Nat) : ((Fm.rows t).take k).drop 0 = Fm.rows (t.take k) := by rw [List.drop_zero, Fm.rows_take]
theorem rValid_spec (t : List Fm) : Ctr sys 53 [xtab t] [] (xi (validE t)) none [] := by
  have hrl := Fm.rows_len t
  refine spec_intro Try.func53 rfl rfl rfl rfl rfl rfl ?_
  refine awp_seq (awp_region ?_)
  refine al_pure rfl rfl rfl (pure_assign rfl gU) ?_
  refine al_nil ?_
  refine awp_seq ?_
  refine awp_seq (awp_region ?_)
  refine al_pure rfl rfl rfl (pure_move rfl gU) ?_
  refine al_lenSl rfl rfl rfl rfl rfl gU rfl rfl ?_ (fun hh => by simp at hh); intro hlen
  refine al_pure rfl rfl rfl (pure_cmp rfl rfl gU gU rfl) ?_
  refine al_nil ?_
  refine awp_cond rfl (fun hc => ?_) (fun hc => ?_)
  · try simp only [nn, Fm.rows_len, Fd.rows_len] at hc
    refine awp_seq (awp_region ?_)
    refine al_pure rfl rfl rfl (pure_assign rfl gU) ?_
    refine al_nil ?_
    refine awp_ret ?_
    repeat (first | refine tR ?_ | refine bR ?_)
    refine ret_ok rfl ?_ trivial
    exact xi_eq (by rw [validE, if_pos (by omega)])
  · try simp only [nn, Fm.rows_len, Fd.rows_len] at hc
    rw [validE, if_neg (by omega)]
    refine awp_skip ?_
    refine awp_seq ?_
    refine awp_seq (awp_region ?_)
    refine al_pure rfl rfl rfl (pure_assign rfl gU) ?_
    refine al_nil ?_
    refine awp_sub (s := { t := [(0, _, _), (3, _, _)], bx := [], ow := [] }) (sub_mk (⟨sx rfl, ⟨sx rfl, trivial⟩⟩) trivial trivial) ?_
    refine awp_block ?_
    refine awp_for (ι := Nat) { t := [(0, _, _)], bx := [], ow := [] } (fun k => [(3, true, xi (k : Int))]) (fun k => []) (fun k => k ≤ t.length ∧ tableE t (t.drop k) k = tableE t t 0) (fun k => t.length - k) (0) (by simp) (sub_mk (⟨sx rfl, ⟨sx rfl, trivial⟩⟩) trivial trivial) ?_
    intro k hok
    dsimp only [List.cons_append, List.nil_append]
    obtain ⟨hk, hi⟩ := hok
    refine awp_seq ?_
    refine awp_seq (awp_region ?_)
    refine al_pure rfl rfl rfl (pure_move rfl gU) ?_
    refine al_pure rfl rfl rfl (pure_move rfl gU) ?_
    refine al_lenSl rfl rfl rfl rfl rfl gU rfl rfl ?_ (fun hh => by simp at hh); intro hlen
    refine al_pure rfl rfl rfl (pure_cmp rfl rfl gU gU rfl) ?_
    refine al_nil ?_
    refine awp_cond rfl (fun hc2 => ?_) (fun hc2 => ?_)
    · try simp only [nn, Fm.rows_len, Fd.rows_len] at hc2
      rw [drop_getD (by omega), tableE, fmE] at hi
      have hrf := Fd.rows_len (t.getD k default).fields
      refine awp_skip ?_
      refine awp_seq ?_
      refine awp_block ?_
      refine awp_seq ?_
      refine awp_seq (awp_region ?_)
      refine al_pure rfl rfl rfl (pure_move rfl gU) ?_
      refine al_pure rfl rfl rfl (pure_move rfl gU) ?_
      refine al_pure rfl rfl rfl (pure_indexAddr rfl rfl gU gU rfl rfl rfl (fun hh => Fm.rows_at (by omega))) ?_
      refine al_pure rfl rfl rfl (pure_fieldRo rfl gU rfl rfl) ?_
      refine al_pure rfl rfl rfl (pure_loadRo rfl gU rfl rfl rfl) ?_
      refine al_call rfl rfl rfl rfl rfl rfl gU gU (rname_spec _) rfl ?_
      refine al_pure rfl rfl rfl (pure_not rfl gU) ?_
      refine al_nil ?_
      refine awp_sub (s := { t := [(0, _, _), (3, _, _), (22, _, _)], bx := [], ow := [] }) (sub_mk (⟨sx rfl, ⟨sx rfl, ⟨sx rfl, trivial⟩⟩⟩) trivial trivial) ?_
      refine awp_cond rfl (fun hc3 => ?_) (fun hc3 => ?_)
      · try simp only [nn, Fm.rows_len, Fd.rows_len] at hc3
        refine awp_seq (awp_region ?_)
        refine al_pure rfl rfl rfl (pure_assign rfl gU) ?_
        refine al_nil ?_
        refine awp_ret ?_
        repeat (first | refine tR ?_ | refine bR ?_)
        refine ret_ok rfl ?_ trivial
        exact xi_eq (by grind)
      · try simp only [nn, Fm.rows_len, Fd.rows_len] at hc3
        refine awp_skip ?_
        refine awp_seq ?_
        refine awp_seq ?_
        refine awp_drawn' (by kernel_rfl) ?_
        refine dr_pure rfl rfl rfl rfl (pure_move rfl gU) ?_
        refine dr_pure rfl rfl rfl rfl (pure_move rfl gU) ?_
        refine dr_pure rfl rfl rfl rfl (pure_slice rfl gU rfl rfl (fun _ => rfl) (fun _ => ⟨_, _, _, rfl, gU, rfl⟩) (fun hh => by omega) (fun hh => by omega)) ?_
        refine dr_pure rfl rfl rfl rfl (pure_move rfl gU) ?_
        refine dr_pure rfl rfl rfl rfl (pure_move rfl gU) ?_
        refine dr_pure rfl rfl rfl rfl (pure_indexAddr rfl rfl gU gU rfl rfl rfl (fun hh => Fm.rows_at (by omega))) ?_
        refine dr_pure rfl rfl rfl rfl (pure_fieldRo rfl gU rfl rfl) ?_
        refine dr_pure rfl rfl rfl rfl (pure_loadRo rfl gU rfl rfl rfl) ?_
        refine dr_callN rfl rfl rfl rfl rfl rfl rfl gU gU (find_spec (t.take k) _ _ (take_rows t k)) rfl ?_
        refine dr_pure rfl rfl rfl rfl (pure_cmp rfl rfl gU gU rfl) ?_
        refine dr_nil (by kernel_rfl) ?_
        refine awp_sub (s := { t := [(0, _, _), (3, _, _), (32, _, _)], bx := [], ow := [] }) (sub_mk (⟨sx rfl, ⟨sx rfl, ⟨sx rfl, trivial⟩⟩⟩) trivial trivial) ?_
        refine awp_cond rfl (fun hc4 => ?_) (fun hc4 => ?_)
        · try simp only [nn, Fm.rows_len, Fd.rows_len] at hc4
          refine awp_seq (awp_region ?_)
          refine al_pure rfl rfl rfl (pure_assign rfl gU) ?_
          refine al_nil ?_
          refine awp_ret ?_
          repeat (first | refine tR ?_ | refine bR ?_)
          refine ret_ok rfl ?_ trivial
          exact xi_eq (by grind)
        · try simp only [nn, Fm.rows_len, Fd.rows_len] at hc4
          refine awp_skip ?_
          refine awp_seq (awp_region ?_)
          refine al_pure rfl rfl rfl (pure_move rfl gU) ?_
          refine al_pure rfl rfl rfl (pure_move rfl gU) ?_
          refine al_pure rfl rfl rfl (pure_indexAddr rfl rfl gU gU rfl rfl rfl (fun hh => Fm.rows_at (by omega))) ?_
          refine al_pure rfl rfl rfl (pure_fieldRo rfl gU rfl rfl) ?_
          refine al_pure rfl rfl rfl (pure_loadRo rfl gU rfl rfl rfl) ?_
          refine al_lenSl rfl rfl rfl rfl rfl gU rfl rfl ?_ (fun hh => by simp at hh); intro hlen
          refine al_pure rfl rfl rfl (pure_assign rfl gU) ?_
          refine al_nil ?_
          refine awp_sub (s := { t := [(0, _, _), (3, _, _), (4, _, _)], bx := [], ow := [] }) (sub_mk (⟨sx rfl, ⟨sx rfl, ⟨sx rfl, trivial⟩⟩⟩) trivial trivial) ?_
          refine awp_seq ?_
          refine awp_seq (awp_region ?_)
          refine al_pure rfl rfl rfl (pure_move rfl gU) ?_
          refine al_pure rfl rfl rfl (pure_cmp rfl rfl gU gU rfl) ?_
          refine al_nil ?_
          refine awp_cond rfl (fun hc5 => ?_) (fun hc5 => ?_)
          · try simp only [nn, Fm.rows_len, Fd.rows_len] at hc5
            refine awp_seq (awp_region ?_)
            refine al_pure rfl rfl rfl (pure_assign rfl gU) ?_
            refine al_nil ?_
            refine awp_ret ?_
            repeat (first | refine tR ?_ | refine bR ?_)
            refine ret_ok rfl ?_ trivial
            exact xi_eq (by grind)
          · try simp only [nn, Fm.rows_len, Fd.rows_len] at hc5
            refine awp_skip ?_
            refine awp_seq ?_
            refine awp_seq (awp_region ?_)
            refine al_pure rfl rfl rfl (pure_move rfl gU) ?_
            refine al_pure rfl rfl rfl (pure_cmp rfl rfl gU gU rfl) ?_
            refine al_nil ?_
            refine awp_cond rfl (fun hc6 => ?_) (fun hc6 => ?_)
            · try simp only [nn, Fm.rows_len, Fd.rows_len] at hc6
              refine awp_seq (awp_region ?_)
              refine al_pure rfl rfl rfl (pure_assign rfl gU) ?_
              refine al_nil ?_
              refine awp_ret ?_
              repeat (first | refine tR ?_ | refine bR ?_)
              refine ret_ok rfl ?_ trivial
              exact xi_eq (by grind)
            · try simp only [nn, Fm.rows_len, Fd.rows_len] at hc6
              refine awp_skip ?_
              refine awp_seq (awp_region ?_)
              refine al_pure rfl rfl rfl (pure_assign rfl gU) ?_
              refine al_nil ?_
              refine awp_sub (s := { t := [(0, _, _), (3, _, _), (4, _, _), (5, _, _)], bx := [], ow := [] }) (sub_mk (⟨sx rfl, ⟨sx rfl, ⟨sx rfl, ⟨sx rfl, trivial⟩⟩⟩⟩) trivial trivial) ?_
              refine awp_block ?_
              refine awp_for (ι := Nat) { t := [(0, _, _), (3, _, _), (4, _, _)], bx := [], ow := [] } (fun j => [(5, true, xi (j : Int))]) (fun j => []) (fun j => j ≤ (t.getD k default).fields.length ∧ fieldsE (t.take k) ((t.getD k default).fields.drop j) = fieldsE (t.take k) (t.getD k default).fields) (fun j => (t.getD k default).fields.length - j) (0) (by simp) (sub_mk (⟨sx rfl, ⟨sx rfl, ⟨sx rfl, ⟨sx rfl, trivial⟩⟩⟩⟩) trivial trivial) ?_
              intro j hok2
              dsimp only [List.cons_append, List.nil_append]
              obtain ⟨hj, hi2⟩ := hok2
              refine awp_seq ?_
              refine awp_seq (awp_region ?_)
              refine al_pure rfl rfl rfl (pure_move rfl gU) ?_
              refine al_pure rfl rfl rfl (pure_move rfl gU) ?_
              refine al_pure rfl rfl rfl (pure_cmp rfl rfl gU gU rfl) ?_
              refine al_nil ?_
              refine awp_cond rfl (fun hc7 => ?_) (fun hc7 => ?_)
              · try simp only [nn, Fm.rows_len, Fd.rows_len] at hc7
                rw [drop_getD (by omega), fieldsE] at hi2
                have hlast := last_eq (k := j) hrf (by omega)
                refine awp_skip ?_
                refine awp_seq ?_
                refine awp_block ?_
                refine awp_seq ?_
                refine awp_drawn' (by kernel_rfl) ?_
                refine dr_pure rfl rfl rfl rfl (pure_move rfl gU) ?_
                refine dr_pure rfl rfl rfl rfl (pure_move rfl gU) ?_
                refine dr_pure rfl rfl rfl rfl (pure_slice rfl gU rfl rfl (fun _ => rfl) (fun _ => ⟨_, _, _, rfl, gU, rfl⟩) (fun hh => by omega) (fun hh => by omega)) ?_
                refine dr_pure rfl rfl rfl rfl (pure_move rfl gU) ?_
                refine dr_pure rfl rfl rfl rfl (pure_move rfl gU) ?_
                refine dr_pure rfl rfl rfl rfl (pure_indexAddr rfl rfl gU gU rfl rfl rfl (fun hh => Fm.rows_at (by omega))) ?_
                refine dr_pure rfl rfl rfl rfl (pure_fieldRo rfl gU rfl rfl) ?_
                refine dr_pure rfl rfl rfl rfl (pure_loadRo rfl gU rfl rfl rfl) ?_
                refine dr_pure rfl rfl rfl rfl (pure_move rfl gU) ?_
                refine dr_pure rfl rfl rfl rfl (pure_indexAddr rfl rfl gU gU rfl rfl rfl (fun hh => Fd.rows_at (by omega))) ?_
                refine dr_pure rfl rfl rfl rfl (pure_loadRoRow rfl gU rfl rfl rfl rfl) ?_
                refine dr_pure rfl rfl rfl rfl (pure_move rfl gU) ?_
                refine dr_pure rfl rfl rfl rfl (pure_move rfl gU) ?_
                refine dr_pure rfl rfl rfl rfl (pure_arith rfl rfl gU gU rfl (IntWalk.i64_in _ (by omega))) ?_
                refine dr_pure rfl rfl rfl rfl (pure_cmp rfl rfl gU gU rfl) ?_
                refine dr_callN rfl rfl rfl rfl rfl rfl rfl gU gU (field_spec (t.take k) _ _ _ (take_rows t k)) rfl ?_
                refine dr_pure rfl rfl rfl rfl (pure_assign rfl gU) ?_
                refine dr_nil (by kernel_rfl) ?_
                refine awp_sub (s := { t := [(0, _, _), (3, _, _), (4, _, _), (5, _, _), (6, _, _)], bx := [], ow := [] }) (sub_mk (⟨sx rfl, ⟨sx rfl, ⟨sx rfl, ⟨sx rfl, ⟨sx rfl, trivial⟩⟩⟩⟩⟩) trivial trivial) ?_
                refine awp_seq (awp_region ?_)
                refine al_pure rfl rfl rfl (pure_move rfl gU) ?_
                refine al_pure rfl rfl rfl (pure_cmp rfl rfl gU gU rfl) ?_
                refine al_nil ?_
                refine awp_cond rfl (fun hc1 => ?_) (fun hc1 => ?_)
                · try simp only [nn, Fm.rows_len, Fd.rows_len] at hc1
                  refine awp_seq (awp_region ?_)
                  refine al_pure rfl rfl rfl (pure_move rfl gU) ?_
                  refine al_pure rfl rfl rfl (pure_assign rfl gU) ?_
                  refine al_nil ?_
                  refine awp_ret ?_
                  repeat (first | refine tR ?_ | refine bR ?_)
                  refine ret_ok rfl ?_ trivial
                  exact xi_eq (by grind)
                · try simp only [nn, Fm.rows_len, Fd.rows_len] at hc1
                  refine awp_skip ?_
                  refine awp_region ?_
                  refine al_pure rfl rfl rfl (pure_move rfl gU) ?_
                  refine al_pure rfl rfl rfl (pure_arith rfl rfl gU gU rfl (IntWalk.i64_in _ (by omega))) ?_
                  refine al_pure rfl rfl rfl (pure_assign rfl gU) ?_
                  refine al_nil ?_
                  refine ⟨j + 1, ?_, ?_, sub_mk (⟨⟨_, rfl, ?_⟩, ⟨sx rfl, ⟨sx rfl, ⟨sx rfl, trivial⟩⟩⟩⟩) trivial trivial⟩
                  all_goals (first | rfl | omega | grind)
              · try simp only [nn, Fm.rows_len, Fd.rows_len] at hc7
                rw [List.drop_of_length_le (by omega), fieldsE] at hi2
                refine awp_exit ?_
                repeat (first | refine thenS_exit ?_ | refine blockS_hit ?_ | refine blockS_miss rfl ?_)
                refine awp_region ?_
                refine al_pure rfl rfl rfl (pure_move rfl gU) ?_
                refine al_pure rfl rfl rfl (pure_arith rfl rfl gU gU rfl (IntWalk.i64_in _ (by omega))) ?_
                refine al_pure rfl rfl rfl (pure_assign rfl gU) ?_
                refine al_nil ?_
                refine ⟨k + 1, ?_, ?_, sub_mk (⟨⟨_, rfl, ?_⟩, ⟨sx rfl, trivial⟩⟩) trivial trivial⟩
                all_goals (first | rfl | omega | grind)
    · try simp only [nn, Fm.rows_len, Fd.rows_len] at hc2
      rw [List.drop_of_length_le (by omega), tableE] at hi
      refine awp_exit ?_
      repeat (first | refine thenS_exit ?_ | refine blockS_hit ?_ | refine blockS_miss rfl ?_)
      refine awp_seq (awp_region ?_)
      refine al_pure rfl rfl rfl (pure_assign rfl gU) ?_
      refine al_nil ?_
      refine awp_ret ?_
      repeat (first | refine tR ?_ | refine bR ?_)
      refine ret_ok rfl ?_ trivial
      exact xi_eq hi
theorem fValid_spec (t : List Fm) : Ctr sys 57 [xtab t] [] (xi (validE t)) none [] := by
  have hrl := Fm.rows_len t
  refine spec_intro Try.func57 rfl rfl rfl rfl rfl rfl ?_
  refine awp_seq (awp_region ?_)
  refine al_pure rfl rfl rfl (pure_assign rfl gU) ?_
  refine al_nil ?_
  refine awp_seq ?_
  refine awp_seq (awp_region ?_)
  refine al_pure rfl rfl rfl (pure_move rfl gU) ?_
  refine al_lenSl rfl rfl rfl rfl rfl gU rfl rfl ?_ (fun hh => by simp at hh); intro hlen
  refine al_pure rfl rfl rfl (pure_cmp rfl rfl gU gU rfl) ?_
  refine al_nil ?_
  refine awp_cond rfl (fun hc => ?_) (fun hc => ?_)
  · try simp only [nn, Fm.rows_len, Fd.rows_len] at hc
    refine awp_seq (awp_region ?_)
    refine al_pure rfl rfl rfl (pure_assign rfl gU) ?_
    refine al_nil ?_
    refine awp_ret ?_
    repeat (first | refine tR ?_ | refine bR ?_)
    refine ret_ok rfl ?_ trivial
    exact xi_eq (by rw [validE, if_pos (by omega)])
  · try simp only [nn, Fm.rows_len, Fd.rows_len] at hc
    rw [validE, if_neg (by omega)]
    refine awp_skip ?_
    refine awp_seq ?_
    refine awp_seq (awp_region ?_)
    refine al_pure rfl rfl rfl (pure_move rfl gU) ?_
    refine al_lenSl rfl rfl rfl rfl rfl gU rfl rfl ?_ (fun hh => by simp at hh); intro hlen
    refine al_pure rfl rfl rfl (pure_move rfl gU) ?_
    refine al_nil ?_
    refine awp_sub (s := { t := [(0, _, _), (11, _, _), (12, _, _), (13, _, _)], bx := [], ow := [] }) (sub_mk (⟨sx rfl, ⟨sx rfl, ⟨sx rfl, ⟨sx rfl, trivial⟩⟩⟩⟩) trivial trivial) ?_
    refine awp_block ?_
    refine awp_for (ι := Nat) { t := [(0, _, _), (11, _, _), (12, _, _)], bx := [], ow := [] } (fun k => [(13, true, xi (k : Int))]) (fun k => []) (fun k => k ≤ t.length ∧ tableE t (t.drop k) k = tableE t t 0) (fun k => t.length - k) (0) (by simp) (sub_mk (⟨sx rfl, ⟨sx rfl, ⟨sx rfl, ⟨sx rfl, trivial⟩⟩⟩⟩) trivial trivial) ?_
    intro k hok
    dsimp only [List.cons_append, List.nil_append]
    obtain ⟨hk, hi⟩ := hok
    refine awp_seq (awp_region ?_)
    refine al_pure rfl rfl rfl (pure_cmp rfl rfl gU gU rfl) ?_
    refine al_nil ?_
    refine awp_seq ?_
    refine awp_cond rfl (fun hc2 => ?_) (fun hc2 => ?_)
    · try simp only [nn, Fm.rows_len, Fd.rows_len] at hc2
      rw [drop_getD (by omega), tableE, fmE] at hi
      have hrf := Fd.rows_len (t.getD k default).fields
      refine awp_skip ?_
      refine awp_seq ?_
      refine awp_block ?_
      refine awp_seq (awp_region ?_)
      refine al_pure rfl rfl rfl (pure_move rfl gU) ?_
      refine al_pure rfl rfl rfl (pure_indexAddr rfl rfl gU gU rfl rfl rfl (fun hh => Fm.rows_at (by omega))) ?_
      refine al_pure rfl rfl rfl (pure_loadRoRow rfl gU rfl rfl rfl rfl) ?_
      refine al_do rfl (does_alloc rfl rfl rfl) ?_
      refine al_pure rfl rfl rfl (pure_assign rfl gU) ?_
      refine al_do rfl (does_store rfl rfl rfl rfl rfl rfl rfl) ?_
      refine al_nil ?_
      refine awp_sub (s := { t := [(0, _, _), (3, _, _), (4, _, _), (11, _, _), (12, _, _), (13, _, _)], bx := [((.l 4), _)], ow := [] }) (sub_mk (⟨sx rfl, ⟨sx rfl, ⟨sx rfl, ⟨sx rfl, ⟨sx rfl, ⟨sx rfl, trivial⟩⟩⟩⟩⟩⟩) (⟨sx rfl, trivial⟩) trivial) ?_
      refine awp_seq ?_
      refine awp_block ?_
      refine awp_seq (awp_region ?_)
      refine al_pure rfl rfl rfl (pure_fieldPtr rfl gU rfl rfl) ?_
      refine al_pure rfl rfl rfl (pure_loadBox rfl gU rfl rfl rfl rfl) ?_
      refine al_call rfl rfl rfl rfl rfl rfl gU gU (fisName_spec _) rfl ?_
      refine al_pure rfl rfl rfl (pure_not rfl gU) ?_
      refine al_pure rfl rfl rfl (pure_assign rfl gU) ?_
      refine al_nil ?_
      refine awp_sub (s := { t := [(0, _, _), (3, _, _), (4, _, _), (11, _, _), (12, _, _), (13, _, _), (18, _, _)], bx := [((.l 4), _)], ow := [] }) (sub_mk (⟨sx rfl, ⟨sx rfl, ⟨sx rfl, ⟨sx rfl, ⟨sx rfl, ⟨sx rfl, ⟨sx rfl, trivial⟩⟩⟩⟩⟩⟩⟩) (⟨sx rfl, trivial⟩) trivial) ?_
      refine awp_cond rfl (fun hc3 => ?_) (fun hc3 => ?_)
      · try simp only [nn, Fm.rows_len, Fd.rows_len] at hc3
        refine awp_seq (awp_region ?_)
        refine al_pure rfl rfl rfl (pure_assign rfl gU) ?_
        refine al_nil ?_
        refine awp_ret ?_
        repeat (first | refine tR ?_ | refine bR ?_)
        refine ret_ok rfl ?_ trivial
        exact xi_eq (by grind)
      · try simp only [nn, Fm.rows_len, Fd.rows_len] at hc3
        refine awp_seq ?_
        refine awp_drawn' (by kernel_rfl) ?_
        refine dr_pure rfl rfl rfl rfl (pure_move rfl gU) ?_
        refine dr_pure rfl rfl rfl rfl (pure_move rfl gU) ?_
        refine dr_pure rfl rfl rfl rfl (pure_slice rfl gU rfl rfl (fun _ => rfl) (fun _ => ⟨_, _, _, rfl, gU, rfl⟩) (fun hh => by omega) (fun hh => by omega)) ?_
        refine dr_pure rfl rfl rfl rfl (pure_fieldPtr rfl gU rfl rfl) ?_
        refine dr_load rfl rfl rfl rfl rfl rfl rfl gU rfl rfl rfl rfl ?_
        refine dr_callN rfl rfl rfl rfl rfl rfl rfl gU gU (index_spec (t.take k) _ _ (take_rows t k)) rfl ?_
        refine dr_pure rfl rfl rfl rfl (pure_cmp rfl rfl gU gU rfl) ?_
        refine dr_pure rfl rfl rfl rfl (pure_assign rfl gU) ?_
        refine dr_nil (by kernel_rfl) ?_
        refine awp_sub (s := { t := [(0, _, _), (3, _, _), (4, _, _), (11, _, _), (12, _, _), (13, _, _), (23, _, _)], bx := [((.l 4), _)], ow := [] }) (sub_mk (⟨sx rfl, ⟨sx rfl, ⟨sx rfl, ⟨sx rfl, ⟨sx rfl, ⟨sx rfl, ⟨sx rfl, trivial⟩⟩⟩⟩⟩⟩⟩) (⟨sx rfl, trivial⟩) trivial) ?_
        refine awp_cond rfl (fun hc4 => ?_) (fun hc4 => ?_)
        · try simp only [nn, Fm.rows_len, Fd.rows_len] at hc4
          refine awp_seq (awp_region ?_)
          refine al_pure rfl rfl rfl (pure_assign rfl gU) ?_
          refine al_nil ?_
          refine awp_ret ?_
          repeat (first | refine tR ?_ | refine bR ?_)
          refine ret_ok rfl ?_ trivial
          exact xi_eq (by grind)
        · try simp only [nn, Fm.rows_len, Fd.rows_len] at hc4
          refine awp_seq (awp_region ?_)
          refine al_pure rfl rfl rfl (pure_fieldPtr rfl gU rfl rfl) ?_
          refine al_pure rfl rfl rfl (pure_loadBox rfl gU rfl rfl rfl rfl) ?_
          refine al_lenSl rfl rfl rfl rfl rfl gU rfl rfl ?_ (fun hh => by simp at hh); intro hlen
          refine al_pure rfl rfl rfl (pure_cmp rfl rfl gU gU rfl) ?_
          refine al_pure rfl rfl rfl (pure_assign rfl gU) ?_
          refine al_nil ?_
          refine awp_sub (s := { t := [(0, _, _), (3, _, _), (4, _, _), (11, _, _), (12, _, _), (13, _, _), (31, _, _)], bx := [((.l 4), _)], ow := [] }) (sub_mk (⟨sx rfl, ⟨sx rfl, ⟨sx rfl, ⟨sx rfl, ⟨sx rfl, ⟨sx rfl, ⟨sx rfl, trivial⟩⟩⟩⟩⟩⟩⟩) (⟨sx rfl, trivial⟩) trivial) ?_
          refine awp_cond rfl (fun hc5 => ?_) (fun hc5 => ?_)
          · try simp only [nn, Fm.rows_len, Fd.rows_len] at hc5
            refine awp_seq (awp_region ?_)
            refine al_pure rfl rfl rfl (pure_assign rfl gU) ?_
            refine al_nil ?_
            refine awp_ret ?_
            repeat (first | refine tR ?_ | refine bR ?_)
            refine ret_ok rfl ?_ trivial
            exact xi_eq (by grind)
          · try simp only [nn, Fm.rows_len, Fd.rows_len] at hc5
            refine awp_seq (awp_region ?_)
            refine al_pure rfl rfl rfl (pure_fieldPtr rfl gU rfl rfl) ?_
            refine al_pure rfl rfl rfl (pure_loadBox rfl gU rfl rfl rfl rfl) ?_
            refine al_lenSl rfl rfl rfl rfl rfl gU rfl rfl ?_ (fun hh => by simp at hh); intro hlen
            refine al_pure rfl rfl rfl (pure_cmp rfl rfl gU gU rfl) ?_
            refine al_pure rfl rfl rfl (pure_assign rfl gU) ?_
            refine al_nil ?_
            refine awp_sub (s := { t := [(0, _, _), (3, _, _), (4, _, _), (11, _, _), (12, _, _), (13, _, _), (36, _, _)], bx := [((.l 4), _)], ow := [] }) (sub_mk (⟨sx rfl, ⟨sx rfl, ⟨sx rfl, ⟨sx rfl, ⟨sx rfl, ⟨sx rfl, ⟨sx rfl, trivial⟩⟩⟩⟩⟩⟩⟩) (⟨sx rfl, trivial⟩) trivial) ?_
            refine awp_cond rfl (fun hc6 => ?_) (fun hc6 => ?_)
            · try simp only [nn, Fm.rows_len, Fd.rows_len] at hc6
              refine awp_seq (awp_region ?_)
              refine al_pure rfl rfl rfl (pure_assign rfl gU) ?_
              refine al_nil ?_
              refine awp_ret ?_
              repeat (first | refine tR ?_ | refine bR ?_)
              refine ret_ok rfl ?_ trivial
              exact xi_eq (by grind)
            · try simp only [nn, Fm.rows_len, Fd.rows_len] at hc6
              refine awp_skip ?_
              refine awp_seq (awp_region ?_)
              refine al_pure rfl rfl rfl (pure_fieldPtr rfl gU rfl rfl) ?_
              refine al_pure rfl rfl rfl (pure_loadBox rfl gU rfl rfl rfl rfl) ?_
              refine al_lenSl rfl rfl rfl rfl rfl gU rfl rfl ?_ (fun hh => by simp at hh); intro hlen
              refine al_pure rfl rfl rfl (pure_move rfl gU) ?_
              refine al_nil ?_
              refine awp_block ?_
              refine awp_for (ι := Nat) { t := [(0, _, _), (3, _, _), (4, _, _), (11, _, _), (12, _, _), (13, _, _), (42, _, _), (43, _, _)], bx := [((.l 4), _)], ow := [] } (fun j => [(44, true, xi (j : Int))]) (fun j => []) (fun j => j ≤ (t.getD k default).fields.length ∧ fieldsE (t.take k) ((t.getD k default).fields.drop j) = fieldsE (t.take k) (t.getD k default).fields) (fun j => (t.getD k default).fields.length - j) (0) (by simp) (sub_mk (⟨sx rfl, ⟨sx rfl, ⟨sx rfl, ⟨sx rfl, ⟨sx rfl, ⟨sx rfl, ⟨sx rfl, ⟨sx rfl, ⟨sx rfl, trivial⟩⟩⟩⟩⟩⟩⟩⟩⟩) (⟨sx rfl, trivial⟩) trivial) ?_
              intro j hok2
              dsimp only [List.cons_append, List.nil_append]
              obtain ⟨hj, hi2⟩ := hok2
              refine awp_seq (awp_region ?_)
              refine al_pure rfl rfl rfl (pure_cmp rfl rfl gU gU rfl) ?_
              refine al_nil ?_
              refine awp_seq ?_
              refine awp_cond rfl (fun hc7 => ?_) (fun hc7 => ?_)
              · try simp only [nn, Fm.rows_len, Fd.rows_len] at hc7
                rw [drop_getD (by omega), fieldsE] at hi2
                have hlast := last_eq (k := j) hrf (by omega)
                refine awp_skip ?_
                refine awp_seq ?_
                refine awp_block ?_
                refine awp_seq (awp_region ?_)
                refine al_pure rfl rfl rfl (pure_move rfl gU) ?_
                refine al_pure rfl rfl rfl (pure_indexAddr rfl rfl gU gU rfl rfl rfl (fun hh => Fd.rows_at (by omega))) ?_
                refine al_pure rfl rfl rfl (pure_loadRoRow rfl gU rfl rfl rfl rfl) ?_
                refine al_do rfl (does_alloc rfl rfl rfl) ?_
                refine al_pure rfl rfl rfl (pure_assign rfl gU) ?_
                refine al_do rfl (does_store rfl rfl rfl rfl rfl rfl rfl) ?_
                refine al_nil ?_
                refine awp_sub (s := { t := [(0, _, _), (3, _, _), (4, _, _), (5, _, _), (6, _, _), (11, _, _), (12, _, _), (13, _, _), (42, _, _), (43, _, _), (44, _, _)], bx := [((.l 4), _), ((.l 6), _)], ow := [] }) (sub_mk (⟨sx rfl, ⟨sx rfl, ⟨sx rfl, ⟨sx rfl, ⟨sx rfl, ⟨sx rfl, ⟨sx rfl, ⟨sx rfl, ⟨sx rfl, ⟨sx rfl, ⟨sx rfl, trivial⟩⟩⟩⟩⟩⟩⟩⟩⟩⟩⟩) (⟨sx rfl, ⟨sx rfl, trivial⟩⟩) trivial) ?_
                refine awp_seq ?_
                refine awp_drawn' (by kernel_rfl) ?_
                refine dr_pure rfl rfl rfl rfl (pure_move rfl gU) ?_
                refine dr_pure rfl rfl rfl rfl (pure_move rfl gU) ?_
                refine dr_pure rfl rfl rfl rfl (pure_slice rfl gU rfl rfl (fun _ => rfl) (fun _ => ⟨_, _, _, rfl, gU, rfl⟩) (fun hh => by omega) (fun hh => by omega)) ?_
                refine dr_loadRow rfl rfl rfl rfl rfl rfl rfl gU rfl rfl rfl rfl rfl ?_
                refine dr_pure rfl rfl rfl rfl (pure_move rfl gU) ?_
                refine dr_pure rfl rfl rfl rfl (pure_fieldPtr rfl gU rfl rfl) ?_
                refine dr_load rfl rfl rfl rfl rfl rfl rfl gU rfl rfl rfl rfl ?_
                refine dr_pure rfl rfl rfl rfl (pure_lenSl rfl gU rfl rfl) ?_
                refine dr_pure rfl rfl rfl rfl (pure_arith rfl rfl gU gU rfl (IntWalk.i64_in _ (by omega))) ?_
                refine dr_pure rfl rfl rfl rfl (pure_cmp rfl rfl gU gU rfl) ?_
                refine dr_callN rfl rfl rfl rfl rfl rfl rfl gU gU (one_spec (t.take k) _ _ _ (take_rows t k)) rfl ?_
                refine dr_pure rfl rfl rfl rfl (pure_assign rfl gU) ?_
                refine dr_nil (by kernel_rfl) ?_
                refine awp_sub (s := { t := [(0, _, _), (3, _, _), (4, _, _), (7, _, _), (11, _, _), (12, _, _), (13, _, _), (42, _, _), (43, _, _), (44, _, _)], bx := [((.l 4), _)], ow := [] }) (sub_mk (⟨sx rfl, ⟨sx rfl, ⟨sx rfl, ⟨sx rfl, ⟨sx rfl, ⟨sx rfl, ⟨sx rfl, ⟨sx rfl, ⟨sx rfl, ⟨sx rfl, trivial⟩⟩⟩⟩⟩⟩⟩⟩⟩⟩) (⟨sx rfl, trivial⟩) trivial) ?_
                refine awp_seq (awp_region ?_)
                refine al_pure rfl rfl rfl (pure_move rfl gU) ?_
                refine al_pure rfl rfl rfl (pure_cmp rfl rfl gU gU rfl) ?_
                refine al_nil ?_
                refine awp_cond rfl (fun hc1 => ?_) (fun hc1 => ?_)
                · try simp only [nn, Fm.rows_len, Fd.rows_len] at hc1
                  refine awp_seq (awp_region ?_)
                  refine al_pure rfl rfl rfl (pure_move rfl gU) ?_
                  refine al_pure rfl rfl rfl (pure_assign rfl gU) ?_
                  refine al_nil ?_
                  refine awp_ret ?_
                  repeat (first | refine tR ?_ | refine bR ?_)
                  refine ret_ok rfl ?_ trivial
                  exact xi_eq (by grind)
                · try simp only [nn, Fm.rows_len, Fd.rows_len] at hc1
                  refine awp_skip ?_
                  refine awp_region ?_
                  refine al_pure rfl rfl rfl (pure_arith rfl rfl gU gU rfl (IntWalk.i64_in _ (by omega))) ?_
                  refine al_pure rfl rfl rfl (pure_move rfl gU) ?_
                  refine al_nil ?_
                  refine ⟨j + 1, ?_, ?_, sub_mk (⟨⟨_, rfl, ?_⟩, ⟨sx rfl, ⟨sx rfl, ⟨sx rfl, ⟨sx rfl, ⟨sx rfl, ⟨sx rfl, ⟨sx rfl, ⟨sx rfl, trivial⟩⟩⟩⟩⟩⟩⟩⟩⟩) (⟨sx rfl, trivial⟩) trivial⟩
                  all_goals (first | rfl | omega | grind)
              · try simp only [nn, Fm.rows_len, Fd.rows_len] at hc7
                rw [List.drop_of_length_le (by omega), fieldsE] at hi2
                refine awp_exit ?_
                repeat (first | refine thenS_exit ?_ | refine blockS_hit ?_ | refine blockS_miss rfl ?_)
                refine awp_region ?_
                refine al_pure rfl rfl rfl (pure_arith rfl rfl gU gU rfl (IntWalk.i64_in _ (by omega))) ?_
                refine al_pure rfl rfl rfl (pure_move rfl gU) ?_
                refine al_nil ?_
                refine ⟨k + 1, ?_, ?_, sub_mk (⟨⟨_, rfl, ?_⟩, ⟨sx rfl, ⟨sx rfl, ⟨sx rfl, trivial⟩⟩⟩⟩) trivial trivial⟩
                all_goals (first | rfl | omega | grind)
    · try simp only [nn, Fm.rows_len, Fd.rows_len] at hc2
      rw [List.drop_of_length_le (by omega), tableE] at hi
      refine awp_exit ?_
      repeat (first | refine thenS_exit ?_ | refine blockS_hit ?_ | refine blockS_miss rfl ?_)
      refine awp_seq (awp_region ?_)
      refine al_pure rfl rfl rfl (pure_assign rfl gU) ?_
      refine al_nil ?_
      refine awp_ret ?_
      repeat (first | refine tR ?_ | refine bR ?_)
      refine ret_ok rfl ?_ trivial
      exact xi_eq hi
theorem rError_spec (t : List Fm) (i : Int) : Ctr sys 39 [xtab t, xi i] [] (xi (errE t i)) none [] := by
  have hrl := Fm.rows_len t
  refine spec_intro Try.func39 rfl rfl rfl rfl rfl rfl ?_
  refine awp_seq (awp_region ?_)
  refine al_pure rfl rfl rfl (pure_assign rfl gU) ?_
  refine al_nil ?_
  refine awp_seq ?_
  refine awp_seq (awp_region ?_)
  refine al_pure rfl rfl rfl (pure_move rfl gU) ?_
  refine al_call rfl rfl rfl rfl rfl rfl gU gU (rValid_spec _) rfl ?_
  refine al_pure rfl rfl rfl (pure_assign rfl gU) ?_
  refine al_nil ?_
  refine awp_seq (awp_region ?_)
  refine al_pure rfl rfl rfl (pure_move rfl gU) ?_
  refine al_pure rfl rfl rfl (pure_cmp rfl rfl gU gU rfl) ?_
  refine al_nil ?_
  refine awp_sub (s := { t := [(0, _, _), (1, _, _), (5, _, _), (9, _, _)], bx := [], ow := [] }) (sub_mk (⟨sx rfl, ⟨sx rfl, ⟨sx rfl, ⟨sx rfl, trivial⟩⟩⟩⟩) trivial trivial) ?_
  refine awp_cond rfl (fun hc1 => ?_) (fun hc1 => ?_)
  · try simp only [nn, Fm.rows_len, Fd.rows_len] at hc1
    refine awp_seq (awp_region ?_)
    refine al_pure rfl rfl rfl (pure_move rfl gU) ?_
    refine al_pure rfl rfl rfl (pure_assign rfl gU) ?_
    refine al_nil ?_
    refine awp_ret ?_
    repeat (first | refine tR ?_ | refine bR ?_)
    refine ret_ok rfl ?_ trivial
    exact xi_eq (by simp only [errE]; grind)
  · try simp only [nn, Fm.rows_len, Fd.rows_len] at hc1
    refine awp_skip ?_
    refine awp_seq ?_
    refine awp_seq (awp_region ?_)
    refine al_pure rfl rfl rfl (pure_move rfl gU) ?_
    refine al_pure rfl rfl rfl (pure_cmp rfl rfl gU gU rfl) ?_
    refine al_pure rfl rfl rfl (pure_move rfl gU) ?_
    refine al_pure rfl rfl rfl (pure_move rfl gU) ?_
    refine al_pure rfl rfl rfl (pure_move rfl gU) ?_
    refine al_pure rfl rfl rfl (pure_lenSl rfl (fun hh => hh) rfl rfl) ?_
    refine al_pure rfl rfl rfl (pure_cmp rfl rfl (fun hh => hh) (fun hh => hh) rfl) ?_
    refine al_pure rfl rfl rfl (pure_or rfl rfl gU (fun _ hi => gP rfl hi)) ?_
    refine al_nil ?_
    refine awp_sub (s := { t := [(18, _, _)], bx := [], ow := [] }) (sub_mk (⟨sx rfl, trivial⟩) trivial trivial) ?_
    refine awp_cond rfl (fun hc2 => ?_) (fun hc2 => ?_)
    · try simp only [nn, Fm.rows_len, Fd.rows_len] at hc2
      refine awp_seq (awp_region ?_)
      refine al_pure rfl rfl rfl (pure_assign rfl gU) ?_
      refine al_nil ?_
      refine awp_ret ?_
      repeat (first | refine tR ?_ | refine bR ?_)
      refine ret_ok rfl ?_ trivial
      exact xi_eq (by simp only [errE]; grind)
    · try simp only [nn, Fm.rows_len, Fd.rows_len] at hc2
      refine awp_skip ?_
      refine awp_seq (awp_region ?_)
      refine al_pure rfl rfl rfl (pure_assign rfl gU) ?_
      refine al_nil ?_
      refine awp_ret ?_
      repeat (first | refine tR ?_ | refine bR ?_)
      refine ret_ok rfl ?_ trivial
      exact xi_eq (by simp only [errE]; grind)
end Go.Proofs.Ytgjclggjkhapfaa
/- Contracts: the bounds of formats, on both sides. -/
set_option linter.unusedVariables false
set_option linter.unusedSimpArgs false
namespace Go.Proofs.Ytgjclggjkhapfaa
open Go Go.Abs
abbrev xii (p : Int × Int) : X := .tup [.c (.i .i64 p.1), .c (.i .i64 p.2)]
abbrev xiie (p : Int × Int × Int) : X := .tup [.c (.i .i64 p.1), .c (.i .i64 p.2.1), .c (.i .i64 p.2.2)]
theorem xii_eq {a b : Int} {p : Int × Int} (h1 : a = p.1) (h2 : b = p.2) : X.tup [.c (.i .i64 a), .c (.i .i64 b)] = xii p := by rw [h1, h2]
theorem xiie_eq {a b c : Int} {p : Int × Int × Int} (h1 : a = p.1) (h2 : b = p.2.1) (h3 : c = p.2.2) : X.tup [.c (.i .i64 a), .c (.i .i64 b), .c (.i .i64 c)] = xiie p := by rw [h1, h2, h3]
theorem fbounds1_spec (t : List Fm) (f : Fd) (hf : FdOk f) (h5 : f.kind ≠ 5) : Ctr sys 58 [xtab t, xf f] [] (xii (bnd1 f)) none [] := by
  have hn := hf.n
  have hk := hf.k
  refine spec_intro Try.func58 rfl rfl rfl rfl rfl rfl ?_
  refine awp_seq (awp_region ?_)
  refine al_do rfl (does_box rfl rfl rfl rfl) ?_
  refine al_pure rfl rfl rfl (pure_assign rfl gU) ?_
  refine al_pure rfl rfl rfl (pure_assign rfl gU) ?_
  refine al_nil ?_
  refine awp_seq ?_
  refine awp_seq (awp_region ?_)
  refine al_pure rfl rfl rfl (pure_fieldPtr rfl gU rfl rfl) ?_
  refine al_pure rfl rfl rfl (pure_loadBox rfl gU rfl rfl rfl rfl) ?_
  refine al_nil ?_
  refine awp_sub (s := { t := [(0, _, _), (3, _, _), (13, _, _)], bx := [((.l 3), _)], ow := [] }) (sub_mk (⟨sx rfl, ⟨sx rfl, ⟨sx rfl, trivial⟩⟩⟩) (⟨sx rfl, trivial⟩) trivial) ?_
  refine awp_block ?_
  refine awp_seq (awp_region ?_)
  refine al_pure rfl rfl rfl (pure_cmp rfl rfl gU gU rfl) ?_
  refine al_pure rfl rfl rfl (pure_assign rfl gU) ?_
  refine al_nil ?_
  refine awp_cond rfl (fun hc => ?_) (fun hc => ?_)
  · try simp only [nn, Fm.rows_len, Fd.rows_len] at hc
    refine awp_seq ?_
    refine awp_drawn' (by kernel_rfl) ?_
    refine dr_pure rfl rfl rfl rfl (pure_fieldPtr rfl gU rfl rfl) ?_
    refine dr_load rfl rfl rfl rfl rfl rfl rfl gU rfl rfl rfl rfl ?_
    refine dr_pure rfl rfl rfl rfl (pure_lenS rfl gU (Try.underlying9)) ?_
    refine dr_pure rfl rfl rfl rfl (pure_fieldPtr rfl gU rfl rfl) ?_
    refine dr_load rfl rfl rfl rfl rfl rfl rfl gU rfl rfl rfl rfl ?_
    refine dr_pure rfl rfl rfl rfl (pure_lenS rfl gU (Try.underlying9)) ?_
    refine dr_pure rfl rfl rfl rfl (pure_assign rfl gU) ?_
    refine dr_pure rfl rfl rfl rfl (pure_assign rfl gU) ?_
    refine dr_nil (by kernel_rfl) ?_
    refine awp_ret ?_
    repeat (first | refine tR ?_ | refine bR ?_)
    refine ret_ok rfl ?_ trivial
    exact xii_eq (by simp [bnd1, *]) (by simp [bnd1, *])
  · try simp only [nn, Fm.rows_len, Fd.rows_len] at hc
    refine awp_seq (awp_region ?_)
    refine al_pure rfl rfl rfl (pure_cmp rfl rfl gU gU rfl) ?_
    refine al_pure rfl rfl rfl (pure_assign rfl gU) ?_
    refine al_nil ?_
    refine awp_cond rfl (fun hc2 => ?_) (fun hc2 => ?_)
    · try simp only [nn, Fm.rows_len, Fd.rows_len] at hc2
      refine awp_seq ?_
      refine awp_drawn' (by kernel_rfl) ?_
      refine dr_pure rfl rfl rfl rfl (pure_fieldPtr rfl gU rfl rfl) ?_
      refine dr_load rfl rfl rfl rfl rfl rfl rfl gU rfl rfl rfl rfl ?_
      refine dr_pure rfl rfl rfl rfl (pure_fieldPtr rfl gU rfl rfl) ?_
      refine dr_load rfl rfl rfl rfl rfl rfl rfl gU rfl rfl rfl rfl ?_
      refine dr_pure rfl rfl rfl rfl (pure_assign rfl gU) ?_
      refine dr_pure rfl rfl rfl rfl (pure_assign rfl gU) ?_
      refine dr_nil (by kernel_rfl) ?_
      refine awp_ret ?_
      repeat (first | refine tR ?_ | refine bR ?_)
      refine ret_ok rfl ?_ trivial
      exact xii_eq (by simp [bnd1, *]) (by simp [bnd1, *])
    · try simp only [nn, Fm.rows_len, Fd.rows_len] at hc2
      refine awp_seq (awp_region ?_)
      refine al_pure rfl rfl rfl (pure_cmp rfl rfl gU gU rfl) ?_
      refine al_pure rfl rfl rfl (pure_assign rfl gU) ?_
      refine al_nil ?_
      refine awp_sub (s := { t := [(0, _, _), (3, _, _), (13, _, _), (28, _, _)], bx := [((.l 3), _)], ow := [] }) (sub_mk (⟨sx rfl, ⟨sx rfl, ⟨sx rfl, ⟨sx rfl, trivial⟩⟩⟩⟩) (⟨sx rfl, trivial⟩) trivial) ?_
      refine awp_cond rfl (fun hc3 => ?_) (fun hc3 => ?_)
      · try simp only [nn, Fm.rows_len, Fd.rows_len] at hc3
        refine awp_seq ?_
        refine awp_drawn' (by kernel_rfl) ?_
        refine dr_pure rfl rfl rfl rfl (pure_fieldPtr rfl gU rfl rfl) ?_
        refine dr_load rfl rfl rfl rfl rfl rfl rfl gU rfl rfl rfl rfl ?_
        refine dr_pure rfl rfl rfl rfl (pure_arith rfl rfl gU gU rfl (IntWalk.i64_in _ (by omega))) ?_
        refine dr_pure rfl rfl rfl rfl (pure_assign rfl gU) ?_
        refine dr_pure rfl rfl rfl rfl (pure_assign rfl gU) ?_
        refine dr_nil (by kernel_rfl) ?_
        refine awp_ret ?_
        repeat (first | refine tR ?_ | refine bR ?_)
        refine ret_ok rfl ?_ trivial
        exact xii_eq (by simp [bnd1, *]) (by simp [bnd1, *])
      · try simp only [nn, Fm.rows_len, Fd.rows_len] at hc3
        refine awp_seq (awp_region ?_)
        refine al_pure rfl rfl rfl (pure_cmp rfl rfl gU gU rfl) ?_
        refine al_pure rfl rfl rfl (pure_assign rfl gU) ?_
        refine al_nil ?_
        refine awp_cond rfl (fun hc4 => ?_) (fun hc4 => ?_)
        · try simp only [nn, Fm.rows_len, Fd.rows_len] at hc4
          exact absurd hc4 h5
        · try simp only [nn, Fm.rows_len, Fd.rows_len] at hc4
          refine awp_seq (awp_region ?_)
          refine al_pure rfl rfl rfl (pure_cmp rfl rfl gU gU rfl) ?_
          refine al_pure rfl rfl rfl (pure_assign rfl gU) ?_
          refine al_nil ?_
          refine awp_cond rfl (fun hc1 => ?_) (fun hc1 => ?_)
          · try simp only [nn, Fm.rows_len, Fd.rows_len] at hc1
            refine awp_seq ?_
            refine awp_drawn' (by kernel_rfl) ?_
            refine dr_pure rfl rfl rfl rfl (pure_fieldPtr rfl gU rfl rfl) ?_
            refine dr_load rfl rfl rfl rfl rfl rfl rfl gU rfl rfl rfl rfl ?_
            refine dr_pure rfl rfl rfl rfl (pure_fieldPtr rfl gU rfl rfl) ?_
            refine dr_load rfl rfl rfl rfl rfl rfl rfl gU rfl rfl rfl rfl ?_
            refine dr_pure rfl rfl rfl rfl (pure_assign rfl gU) ?_
            refine dr_pure rfl rfl rfl rfl (pure_assign rfl gU) ?_
            refine dr_nil (by kernel_rfl) ?_
            refine awp_ret ?_
            repeat (first | refine tR ?_ | refine bR ?_)
            refine ret_ok rfl ?_ trivial
            exact xii_eq (by simp [bnd1, *]) (by simp [bnd1, *])
          · try simp only [nn, Fm.rows_len, Fd.rows_len] at hc1
            refine awp_skip ?_
            refine awp_seq (awp_region ?_)
            refine al_pure rfl rfl rfl (pure_assign rfl gU) ?_
            refine al_pure rfl rfl rfl (pure_assign rfl gU) ?_
            refine al_nil ?_
            refine awp_ret ?_
            repeat (first | refine tR ?_ | refine bR ?_)
            refine ret_ok rfl ?_ trivial
            exact xii_eq (by simp [bnd1, *]) (by simp [bnd1, *])
theorem fbounds_spec (t : List Fm) (f : Fd) (hf : FdOk f) (hnest : f.kind = 5 → f.n < t.length ∧ Plain1 (t.getD f.n.toNat default).fields) : Ctr sys 58 [xtab t, xf f] [] (xii (bndF (bnd0 t) f)) none [] := by
  by_cases h5 : f.kind = 5
  · obtain ⟨h1, h2⟩ := hnest h5
    have hn := hf.n
    have hrl := Fm.rows_len t
    have hrf := Fd.rows_len (t.getD f.n.toNat default).fields
    refine spec_intro Try.func58 rfl rfl rfl rfl rfl rfl ?_
    refine awp_seq (awp_region ?_)
    refine al_do rfl (does_box rfl rfl rfl rfl) ?_
    refine al_pure rfl rfl rfl (pure_assign rfl gU) ?_
    refine al_pure rfl rfl rfl (pure_assign rfl gU) ?_
    refine al_nil ?_
    refine awp_seq ?_
    refine awp_seq (awp_region ?_)
    refine al_pure rfl rfl rfl (pure_fieldPtr rfl gU rfl rfl) ?_
    refine al_pure rfl rfl rfl (pure_loadBox rfl gU rfl rfl rfl rfl) ?_
    refine al_nil ?_
    refine awp_sub (s := { t := [(0, _, _), (3, _, _), (13, _, _)], bx := [((.l 3), _)], ow := [] }) (sub_mk (⟨sx rfl, ⟨sx rfl, ⟨sx rfl, trivial⟩⟩⟩) (⟨sx rfl, trivial⟩) trivial) ?_
    refine awp_block ?_
    refine awp_seq (awp_region ?_)
    refine al_pure rfl rfl rfl (pure_cmp rfl rfl gU gU rfl) ?_
    refine al_pure rfl rfl rfl (pure_assign rfl gU) ?_
    refine al_nil ?_
    refine awp_cond rfl (fun hc => ?_) (fun hc => ?_)
    · try simp only [nn, Fm.rows_len, Fd.rows_len] at hc
      exfalso; omega
    · try simp only [nn, Fm.rows_len, Fd.rows_len] at hc
      refine awp_seq (awp_region ?_)
      refine al_pure rfl rfl rfl (pure_cmp rfl rfl gU gU rfl) ?_
      refine al_pure rfl rfl rfl (pure_assign rfl gU) ?_
      refine al_nil ?_
      refine awp_cond rfl (fun hc2 => ?_) (fun hc2 => ?_)
      · try simp only [nn, Fm.rows_len, Fd.rows_len] at hc2
        exfalso; omega
      · try simp only [nn, Fm.rows_len, Fd.rows_len] at hc2
        refine awp_seq (awp_region ?_)
        refine al_pure rfl rfl rfl (pure_cmp rfl rfl gU gU rfl) ?_
        refine al_pure rfl rfl rfl (pure_assign rfl gU) ?_
        refine al_nil ?_
        refine awp_sub (s := { t := [(0, _, _), (3, _, _), (13, _, _), (28, _, _)], bx := [((.l 3), _)], ow := [] }) (sub_mk (⟨sx rfl, ⟨sx rfl, ⟨sx rfl, ⟨sx rfl, trivial⟩⟩⟩⟩) (⟨sx rfl, trivial⟩) trivial) ?_
        refine awp_cond rfl (fun hc3 => ?_) (fun hc3 => ?_)
        · try simp only [nn, Fm.rows_len, Fd.rows_len] at hc3
          exfalso; omega
        · try simp only [nn, Fm.rows_len, Fd.rows_len] at hc3
          refine awp_seq (awp_region ?_)
          refine al_pure rfl rfl rfl (pure_cmp rfl rfl gU gU rfl) ?_
          refine al_pure rfl rfl rfl (pure_assign rfl gU) ?_
          refine al_nil ?_
          refine awp_cond rfl (fun hc4 => ?_) (fun hc4 => ?_)
          · try simp only [nn, Fm.rows_len, Fd.rows_len] at hc4
            refine awp_seq (awp_region ?_)
            refine al_pure rfl rfl rfl (pure_assign rfl gU) ?_
            refine al_pure rfl rfl rfl (pure_assign rfl gU) ?_
            refine al_nil ?_
            refine awp_seq ?_
            refine awp_seq (awp_region ?_)
            refine al_pure rfl rfl rfl (pure_move rfl gU) ?_
            refine al_pure rfl rfl rfl (pure_fieldPtr rfl gU rfl rfl) ?_
            refine al_pure rfl rfl rfl (pure_loadBox rfl gU rfl rfl rfl rfl) ?_
            refine al_pure rfl rfl rfl (pure_indexAddr (j := f.n.toNat) rfl rfl gU gU rfl rfl (by omega) (fun hh => Fm.rows_at (by omega))) ?_
            refine al_pure rfl rfl rfl (pure_fieldRo rfl gU rfl rfl) ?_
            refine al_pure rfl rfl rfl (pure_loadRo rfl gU rfl rfl rfl) ?_
            refine al_lenSl rfl rfl rfl rfl rfl gU rfl rfl ?_ (fun hh => by simp at hh); intro hlen
            refine al_pure rfl rfl rfl (pure_move rfl gU) ?_
            refine al_nil ?_
            refine awp_sub (s := { t := [(0, _, _), (6, _, _), (7, _, _), (40, _, _), (41, _, _), (42, _, _)], bx := [], ow := [] }) (sub_mk (⟨sx rfl, ⟨sx rfl, ⟨sx rfl, ⟨sx rfl, ⟨sx rfl, ⟨sx rfl, trivial⟩⟩⟩⟩⟩⟩) trivial trivial) ?_
            refine awp_block ?_
            refine awp_for (ι := Nat) { t := [(0, _, _), (40, _, _), (41, _, _)], bx := [], ow := [] } (fun k => [(42, true, xi (k : Int)), (6, true, xi (1 + (bndL (fun _ => (0, 0)) ((t.getD f.n.toNat default).fields.take k)).1)), (7, true, xi (1 + (bndL (fun _ => (0, 0)) ((t.getD f.n.toNat default).fields.take k)).2))]) (fun k => []) (fun k => k ≤ (t.getD f.n.toNat default).fields.length) (fun k => (t.getD f.n.toNat default).fields.length - k) (0) (by simp) (sub_mk (⟨sx rfl, ⟨sx rfl, ⟨sx rfl, ⟨sx rfl, ⟨sx rfl, ⟨sx rfl, trivial⟩⟩⟩⟩⟩⟩) trivial trivial) ?_
            intro k hok
            dsimp only [List.cons_append, List.nil_append]
            have hb := h2.bnd (rec := fun _ => (0, 0)) k
            refine awp_seq (awp_region ?_)
            refine al_pure rfl rfl rfl (pure_cmp rfl rfl gU gU rfl) ?_
            refine al_nil ?_
            refine awp_seq ?_
            refine awp_cond rfl (fun hc5 => ?_) (fun hc5 => ?_)
            · have hc5 : k < (t.getD f.n.toNat default).fields.length := by simp only [decide_eq_true_eq, hrf] at hc5; omega
              obtain ⟨q1, q2⟩ := bndL_take (rec := fun _ => (0, 0)) hc5
              have hb' := h2.bnd (rec := fun _ => (0, 0)) (k + 1)
              have hbe := bndF_eq (rec := fun _ => (0, 0)) (h2.ok k hc5).2.1
              have hb1 := bnd1_le (h2.ok k hc5).1
              rw [hbe] at q1 q2
              refine awp_skip ?_
              refine awp_seq ?_
              refine awp_block ?_
              refine awp_seq (awp_region ?_)
              refine al_pure rfl rfl rfl (pure_indexAddr rfl rfl gU gU rfl rfl rfl (fun hh => Fd.rows_at (by omega))) ?_
              refine al_pure rfl rfl rfl (pure_loadRoRow rfl gU rfl rfl rfl rfl) ?_
              refine al_do rfl (does_alloc rfl rfl rfl) ?_
              refine al_do rfl (does_store rfl rfl rfl rfl rfl rfl rfl) ?_
              refine al_nil ?_
              refine awp_seq (awp_region ?_)
              refine al_pure rfl rfl rfl (pure_move rfl gU) ?_
              refine al_pure rfl rfl rfl (pure_loadBoxRow rfl gU rfl rfl rfl rfl rfl) ?_
              refine al_call rfl rfl rfl rfl rfl rfl gU gU (fbounds1_spec _ _ (h2.ok k hc5).1 (h2.ok k hc5).2.1) rfl ?_
              refine al_pure rfl rfl rfl (pure_move rfl gU) ?_
              refine al_pure rfl rfl rfl (pure_extract rfl gU rfl) ?_
              refine al_pure rfl rfl rfl (pure_extract rfl gU rfl) ?_
              refine al_pure rfl rfl rfl (pure_assign rfl gU) ?_
              refine al_pure rfl rfl rfl (pure_assign rfl gU) ?_
              refine al_nil ?_
              refine awp_sub (s := { t := [(0, _, _), (6, _, _), (7, _, _), (10, _, _), (11, _, _), (40, _, _), (41, _, _), (42, _, _)], bx := [], ow := [] }) (sub_mk (⟨sx rfl, ⟨sx rfl, ⟨sx rfl, ⟨sx rfl, ⟨sx rfl, ⟨sx rfl, ⟨sx rfl, ⟨sx rfl, trivial⟩⟩⟩⟩⟩⟩⟩⟩) trivial trivial) ?_
              refine awp_region ?_
              refine al_pure rfl rfl rfl (pure_move rfl gU) ?_
              refine al_pure rfl rfl rfl (pure_move rfl gU) ?_
              refine al_pure rfl rfl rfl (pure_arith rfl rfl gU gU rfl (IntWalk.i64_in _ (by omega))) ?_
              refine al_pure rfl rfl rfl (pure_move rfl gU) ?_
              refine al_pure rfl rfl rfl (pure_move rfl gU) ?_
              refine al_pure rfl rfl rfl (pure_arith rfl rfl gU gU rfl (IntWalk.i64_in _ (by omega))) ?_
              refine al_pure rfl rfl rfl (pure_assign rfl gU) ?_
              refine al_pure rfl rfl rfl (pure_assign rfl gU) ?_
              refine al_nil ?_
              refine awp_sub (s := { t := [(0, _, _), (6, _, _), (7, _, _), (40, _, _), (41, _, _), (42, _, _)], bx := [], ow := [] }) (sub_mk (⟨sx rfl, ⟨sx rfl, ⟨sx rfl, ⟨sx rfl, ⟨sx rfl, ⟨sx rfl, trivial⟩⟩⟩⟩⟩⟩) trivial trivial) ?_
              refine awp_region ?_
              refine al_pure rfl rfl rfl (pure_arith rfl rfl gU gU rfl (IntWalk.i64_in _ (by omega))) ?_
              refine al_pure rfl rfl rfl (pure_move rfl gU) ?_
              refine al_nil ?_
              refine ⟨k + 1, ?_, ?_, sub_mk (⟨⟨_, rfl, ?_⟩, ⟨⟨_, rfl, ?_⟩, ⟨⟨_, rfl, ?_⟩, ⟨sx rfl, ⟨sx rfl, ⟨sx rfl, trivial⟩⟩⟩⟩⟩⟩) trivial trivial⟩
              all_goals (first | omega | rfl | exact tx (xi_eq (by omega)))
            · try simp only [nn, Fm.rows_len, Fd.rows_len] at hc5
              refine awp_exit ?_
              repeat (first | refine thenS_exit ?_ | refine blockS_hit ?_ | refine blockS_miss rfl ?_)
              refine awp_seq (awp_region ?_)
              refine al_pure rfl rfl rfl (pure_move rfl gU) ?_
              refine al_pure rfl rfl rfl (pure_move rfl gU) ?_
              refine al_pure rfl rfl rfl (pure_assign rfl gU) ?_
              refine al_pure rfl rfl rfl (pure_assign rfl gU) ?_
              refine al_nil ?_
              refine awp_ret ?_
              repeat (first | refine tR ?_ | refine bR ?_)
              refine ret_ok rfl ?_ trivial
              have : k = (t.getD f.n.toNat default).fields.length := by omega
              rw [this, List.take_length]
              exact xii_eq (by rw [bndF, if_pos h5]; rfl) (by rw [bndF, if_pos h5]; rfl)
          · try simp only [nn, Fm.rows_len, Fd.rows_len] at hc4
            exact absurd h5 hc4
  · rw [bndF_eq h5]
    exact fbounds1_spec t f hf h5
theorem fBounds_spec (t : List Fm) (i : Int) : Ctr sys 37 [xtab t, xi i] [] (xiie (boundsE t i)) none [] := by
  have hrl := Fm.rows_len t
  refine spec_intro Try.func37 rfl rfl rfl rfl rfl rfl ?_
  refine awp_seq (awp_region ?_)
  refine al_pure rfl rfl rfl (pure_assign rfl gU) ?_
  refine al_pure rfl rfl rfl (pure_assign rfl gU) ?_
  refine al_pure rfl rfl rfl (pure_assign rfl gU) ?_
  refine al_nil ?_
  refine awp_seq ?_
  refine awp_seq (awp_region ?_)
  refine al_pure rfl rfl rfl (pure_move rfl gU) ?_
  refine al_call rfl rfl rfl rfl rfl rfl gU gU (fValid_spec _) rfl ?_
  refine al_pure rfl rfl rfl (pure_assign rfl gU) ?_
  refine al_nil ?_
  refine awp_sub (s := { t := [(0, _, _), (1, _, _), (7, _, _)], bx := [], ow := [] }) (sub_mk (⟨sx rfl, ⟨sx rfl, ⟨sx rfl, trivial⟩⟩⟩) trivial trivial) ?_
  refine awp_seq (awp_region ?_)
  refine al_pure rfl rfl rfl (pure_move rfl gU) ?_
  refine al_pure rfl rfl rfl (pure_cmp rfl rfl gU gU rfl) ?_
  refine al_nil ?_
  refine awp_cond rfl (fun hc => ?_) (fun hc => ?_)
  · try simp only [nn, Fm.rows_len, Fd.rows_len] at hc
    refine awp_seq (awp_region ?_)
    refine al_pure rfl rfl rfl (pure_move rfl gU) ?_
    refine al_pure rfl rfl rfl (pure_assign rfl gU) ?_
    refine al_pure rfl rfl rfl (pure_assign rfl gU) ?_
    refine al_pure rfl rfl rfl (pure_assign rfl gU) ?_
    refine al_nil ?_
    refine awp_ret ?_
    repeat (first | refine tR ?_ | refine bR ?_)
    refine ret_ok rfl ?_ trivial
    exact xiie_eq (by simp [boundsE, errE, hc]) (by simp [boundsE, errE, hc]) (by simp [boundsE, errE, hc])
  · try simp only [nn, Fm.rows_len, Fd.rows_len] at hc
    refine awp_skip ?_
    refine awp_seq ?_
    refine awp_seq (awp_region ?_)
    refine al_pure rfl rfl rfl (pure_move rfl gU) ?_
    refine al_pure rfl rfl rfl (pure_cmp rfl rfl gU gU rfl) ?_
    refine al_pure rfl rfl rfl (pure_move rfl gU) ?_
    refine al_pure rfl rfl rfl (pure_move rfl gU) ?_
    refine al_pure rfl rfl rfl (pure_move rfl gU) ?_
    refine al_pure rfl rfl rfl (pure_lenSl rfl (fun hh => hh) rfl rfl) ?_
    refine al_pure rfl rfl rfl (pure_cmp rfl rfl (fun hh => hh) (fun hh => hh) rfl) ?_
    refine al_pure rfl rfl rfl (pure_or rfl rfl gU (fun _ hi => gP rfl hi)) ?_
    refine al_nil ?_
    refine awp_sub (s := { t := [(0, _, _), (1, _, _), (26, _, _)], bx := [], ow := [] }) (sub_mk (⟨sx rfl, ⟨sx rfl, ⟨sx rfl, trivial⟩⟩⟩) trivial trivial) ?_
    refine awp_cond rfl (fun hc2 => ?_) (fun hc2 => ?_)
    · try simp only [nn, Fm.rows_len, Fd.rows_len] at hc2
      have he : errE t i = 7 := by rw [errE, if_neg (by omega), if_pos (by omega)]
      refine awp_seq (awp_region ?_)
      refine al_pure rfl rfl rfl (pure_assign rfl gU) ?_
      refine al_pure rfl rfl rfl (pure_assign rfl gU) ?_
      refine al_pure rfl rfl rfl (pure_assign rfl gU) ?_
      refine al_nil ?_
      refine awp_ret ?_
      repeat (first | refine tR ?_ | refine bR ?_)
      refine ret_ok rfl ?_ trivial
      exact xiie_eq (by simp [boundsE, *]) (by simp [boundsE, *]) (by simp [boundsE, *])
    · try simp only [nn, Fm.rows_len, Fd.rows_len] at hc2
      have he : errE t i = 0 := by rw [errE, if_neg (by omega), if_neg (by omega)]
      obtain ⟨ht, _, _⟩ := errE_zero he
      have hfs := ht.fds (i := i.toNat) (by omega)
      have hrf := Fd.rows_len (t.getD i.toNat default).fields
      refine awp_skip ?_
      refine awp_seq (awp_region ?_)
      refine al_pure rfl rfl rfl (pure_assign rfl gU) ?_
      refine al_pure rfl rfl rfl (pure_assign rfl gU) ?_
      refine al_nil ?_
      refine awp_seq ?_
      refine awp_seq (awp_region ?_)
      refine al_pure rfl rfl rfl (pure_move rfl gU) ?_
      refine al_pure rfl rfl rfl (pure_move rfl gU) ?_
      refine al_pure rfl rfl rfl (pure_indexAddr (j := i.toNat) rfl rfl gU gU rfl rfl (by omega) (fun hh => Fm.rows_at (by omega))) ?_
      refine al_pure rfl rfl rfl (pure_fieldRo rfl gU rfl rfl) ?_
      refine al_pure rfl rfl rfl (pure_loadRo rfl gU rfl rfl rfl) ?_
      refine al_lenSl rfl rfl rfl rfl rfl gU rfl rfl ?_ (fun hh => by simp at hh); intro hlen
      refine al_pure rfl rfl rfl (pure_move rfl gU) ?_
      refine al_nil ?_
      refine awp_sub (s := { t := [(0, _, _), (8, _, _), (9, _, _), (31, _, _), (32, _, _), (33, _, _)], bx := [], ow := [] }) (sub_mk (⟨sx rfl, ⟨sx rfl, ⟨sx rfl, ⟨sx rfl, ⟨sx rfl, ⟨sx rfl, trivial⟩⟩⟩⟩⟩⟩) trivial trivial) ?_
      refine awp_block ?_
      refine awp_for (ι := Nat) { t := [(0, _, _), (31, _, _), (32, _, _)], bx := [], ow := [] } (fun k => [(33, true, xi (k : Int)), (8, true, xi (bndL (bnd0 t) ((t.getD i.toNat default).fields.take k)).1), (9, true, xi (bndL (bnd0 t) ((t.getD i.toNat default).fields.take k)).2)]) (fun k => []) (fun k => k ≤ (t.getD i.toNat default).fields.length) (fun k => (t.getD i.toNat default).fields.length - k) (0) (by simp) (sub_mk (⟨sx rfl, ⟨sx rfl, ⟨sx rfl, ⟨sx rfl, ⟨sx rfl, ⟨sx rfl, trivial⟩⟩⟩⟩⟩⟩) trivial trivial) ?_
      intro k hok
      dsimp only [List.cons_append, List.nil_append]
      have hb := hfs.bnd k
      refine awp_seq (awp_region ?_)
      refine al_pure rfl rfl rfl (pure_cmp rfl rfl gU gU rfl) ?_
      refine al_nil ?_
      refine awp_seq ?_
      refine awp_cond rfl (fun hc3 => ?_) (fun hc3 => ?_)
      · have hc3 : k < (t.getD i.toNat default).fields.length := by simp only [decide_eq_true_eq, hrf] at hc3; omega
        obtain ⟨q1, q2⟩ := bndL_take (rec := bnd0 t) hc3
        have hb' := hfs.bnd (k + 1)
        have hb1 := hfs.bndF hc3
        refine awp_skip ?_
        refine awp_seq ?_
        refine awp_block ?_
        refine awp_seq (awp_region ?_)
        refine al_pure rfl rfl rfl (pure_indexAddr rfl rfl gU gU rfl rfl rfl (fun hh => Fd.rows_at (by omega))) ?_
        refine al_pure rfl rfl rfl (pure_loadRoRow rfl gU rfl rfl rfl rfl) ?_
        refine al_do rfl (does_alloc rfl rfl rfl) ?_
        refine al_do rfl (does_store rfl rfl rfl rfl rfl rfl rfl) ?_
        refine al_nil ?_
        refine awp_seq (awp_region ?_)
        refine al_pure rfl rfl rfl (pure_move rfl gU) ?_
        refine al_pure rfl rfl rfl (pure_loadBoxRow rfl gU rfl rfl rfl rfl rfl) ?_
        refine al_call rfl rfl rfl rfl rfl rfl gU gU (fbounds_spec _ _ (hfs.ok k hc3) (hfs.nest k hc3)) rfl ?_
        refine al_pure rfl rfl rfl (pure_move rfl gU) ?_
        refine al_pure rfl rfl rfl (pure_extract rfl gU rfl) ?_
        refine al_pure rfl rfl rfl (pure_extract rfl gU rfl) ?_
        refine al_pure rfl rfl rfl (pure_assign rfl gU) ?_
        refine al_pure rfl rfl rfl (pure_assign rfl gU) ?_
        refine al_nil ?_
        refine awp_sub (s := { t := [(0, _, _), (8, _, _), (9, _, _), (12, _, _), (13, _, _), (31, _, _), (32, _, _), (33, _, _)], bx := [], ow := [] }) (sub_mk (⟨sx rfl, ⟨sx rfl, ⟨sx rfl, ⟨sx rfl, ⟨sx rfl, ⟨sx rfl, ⟨sx rfl, ⟨sx rfl, trivial⟩⟩⟩⟩⟩⟩⟩⟩) trivial trivial) ?_
        refine awp_region ?_
        refine al_pure rfl rfl rfl (pure_move rfl gU) ?_
        refine al_pure rfl rfl rfl (pure_move rfl gU) ?_
        refine al_pure rfl rfl rfl (pure_arith rfl rfl gU gU rfl (IntWalk.i64_in _ (by omega))) ?_
        refine al_pure rfl rfl rfl (pure_move rfl gU) ?_
        refine al_pure rfl rfl rfl (pure_move rfl gU) ?_
        refine al_pure rfl rfl rfl (pure_arith rfl rfl gU gU rfl (IntWalk.i64_in _ (by omega))) ?_
        refine al_pure rfl rfl rfl (pure_assign rfl gU) ?_
        refine al_pure rfl rfl rfl (pure_assign rfl gU) ?_
        refine al_nil ?_
        refine awp_sub (s := { t := [(0, _, _), (8, _, _), (9, _, _), (31, _, _), (32, _, _), (33, _, _)], bx := [], ow := [] }) (sub_mk (⟨sx rfl, ⟨sx rfl, ⟨sx rfl, ⟨sx rfl, ⟨sx rfl, ⟨sx rfl, trivial⟩⟩⟩⟩⟩⟩) trivial trivial) ?_
        refine awp_region ?_
        refine al_pure rfl rfl rfl (pure_arith rfl rfl gU gU rfl (IntWalk.i64_in _ (by omega))) ?_
        refine al_pure rfl rfl rfl (pure_move rfl gU) ?_
        refine al_nil ?_
        refine ⟨k + 1, ?_, ?_, sub_mk (⟨⟨_, rfl, ?_⟩, ⟨⟨_, rfl, ?_⟩, ⟨⟨_, rfl, ?_⟩, ⟨sx rfl, ⟨sx rfl, ⟨sx rfl, trivial⟩⟩⟩⟩⟩⟩) trivial trivial⟩
        all_goals (first | omega | rfl | exact tx (xi_eq (by omega)))
      · try simp only [nn, Fm.rows_len, Fd.rows_len] at hc3
        refine awp_exit ?_
        repeat (first | refine thenS_exit ?_ | refine blockS_hit ?_ | refine blockS_miss rfl ?_)
        refine awp_seq (awp_region ?_)
        refine al_pure rfl rfl rfl (pure_move rfl gU) ?_
        refine al_pure rfl rfl rfl (pure_move rfl gU) ?_
        refine al_pure rfl rfl rfl (pure_assign rfl gU) ?_
        refine al_pure rfl rfl rfl (pure_assign rfl gU) ?_
        refine al_pure rfl rfl rfl (pure_assign rfl gU) ?_
        refine al_nil ?_
        refine awp_ret ?_
        repeat (first | refine tR ?_ | refine bR ?_)
        refine ret_ok rfl ?_ trivial
        have : k = (t.getD i.toNat default).fields.length := by omega
        rw [this, List.take_length]
        refine xiie_eq ?_ ?_ ?_
        all_goals (rw [boundsE, if_neg (by omega)]; try rfl)
theorem bndF_cases (rec : Int → Int × Int) (f : Fd) : (f.kind = 1 → (bndF rec f).1 = f.bytes.length ∧ (bndF rec f).2 = f.bytes.length) ∧ (f.kind = 2 → (bndF rec f).1 = f.n ∧ (bndF rec f).2 = f.n) ∧
    (f.kind = 3 → (bndF rec f).1 = 1 ∧ (bndF rec f).2 = 1 + f.n) ∧ (f.kind = 4 → (bndF rec f).1 = 1 ∧ (bndF rec f).2 = 1) ∧ (f.kind = 5 → (bndF rec f).1 = 1 + (rec f.n).1 ∧ (bndF rec f).2 = 1 + (rec f.n).2) ∧
    (f.kind = 6 → (bndF rec f).1 = f.low ∧ (bndF rec f).2 = f.high) := by
  refine ⟨?_, ?_, ?_, ?_, ?_, ?_⟩ <;> (intro h; simp [bndF, bnd1, h])
theorem rlen_gen (t : List Fm) (i : Int) (rec : Int → Int × Int) (hi : 0 ≤ i ∧ i < t.length) (hlen : (t.getD i.toNat default).fields.length ≤ 6)
    (hfd : ∀ k, k < (t.getD i.toNat default).fields.length → FdOk ((t.getD i.toNat default).fields.getD k default))
    (hbd : ∀ k, 0 ≤ (bndL rec ((t.getD i.toNat default).fields.take k)).1 ∧ (bndL rec ((t.getD i.toNat default).fields.take k)).1 ≤ (bndL rec ((t.getD i.toNat default).fields.take k)).2 ∧ (bndL rec ((t.getD i.toNat default).fields.take k)).2 ≤ 42000)
    (hb1 : ∀ k, k < (t.getD i.toNat default).fields.length → 0 ≤ (bndF rec ((t.getD i.toNat default).fields.getD k default)).1 ∧ (bndF rec ((t.getD i.toNat default).fields.getD k default)).1 ≤ (bndF rec ((t.getD i.toNat default).fields.getD k default)).2 ∧ (bndF rec ((t.getD i.toNat default).fields.getD k default)).2 ≤ 7000)
    (hrec : ∀ k, k < (t.getD i.toNat default).fields.length → ((t.getD i.toNat default).fields.getD k default).kind = 5 → Ctr sys 49 [xtab t, xi ((t.getD i.toNat default).fields.getD k default).n] [] (xii (rec ((t.getD i.toNat default).fields.getD k default).n)) none []) :
    Ctr sys 49 [xtab t, xi i] [] (xii (bndL rec (t.getD i.toNat default).fields)) none [] := by
  have hrl := Fm.rows_len t
  have hrf := Fd.rows_len (t.getD i.toNat default).fields
  refine spec_intro Try.func49 rfl rfl rfl rfl rfl rfl ?_
  refine awp_seq (awp_region ?_)
  refine al_pure rfl rfl rfl (pure_assign rfl gU) ?_
  refine al_pure rfl rfl rfl (pure_assign rfl gU) ?_
  refine al_nil ?_
  refine awp_seq (awp_region ?_)
  refine al_pure rfl rfl rfl (pure_assign rfl gU) ?_
  refine al_pure rfl rfl rfl (pure_assign rfl gU) ?_
  refine al_nil ?_
  refine awp_seq ?_
  refine awp_seq (awp_region ?_)
  refine al_pure rfl rfl rfl (pure_assign rfl gU) ?_
  refine al_nil ?_
  refine awp_sub (s := { t := [(0, _, _), (1, _, _), (6, _, _), (7, _, _), (8, _, _)], bx := [], ow := [] }) (sub_mk (⟨sx rfl, ⟨sx rfl, ⟨sx rfl, ⟨sx rfl, ⟨sx rfl, trivial⟩⟩⟩⟩⟩) trivial trivial) ?_
  refine awp_block ?_
  refine awp_for (ι := Nat) { t := [(0, _, _), (1, _, _)], bx := [], ow := [] } (fun k => [(8, true, xi (k : Int)), (6, true, xi (bndL rec ((t.getD i.toNat default).fields.take k)).1), (7, true, xi (bndL rec ((t.getD i.toNat default).fields.take k)).2)]) (fun k => []) (fun k => k ≤ (t.getD i.toNat default).fields.length) (fun k => (t.getD i.toNat default).fields.length - k) (0) (by simp) (sub_mk (⟨sx rfl, ⟨sx rfl, ⟨sx rfl, ⟨sx rfl, ⟨sx rfl, trivial⟩⟩⟩⟩⟩) trivial trivial) ?_
  intro k hok
  dsimp only [List.cons_append, List.nil_append]
  have hb := hbd k
  refine awp_seq ?_
  refine awp_seq (awp_region ?_)
  refine al_pure rfl rfl rfl (pure_move rfl gU) ?_
  refine al_pure rfl rfl rfl (pure_move rfl gU) ?_
  refine al_pure rfl rfl rfl (pure_move rfl gU) ?_
  refine al_pure rfl rfl rfl (pure_indexAddr (j := i.toNat) rfl rfl gU gU rfl rfl (by omega) (fun hh => Fm.rows_at (by omega))) ?_
  refine al_pure rfl rfl rfl (pure_fieldRo rfl gU rfl rfl) ?_
  refine al_pure rfl rfl rfl (pure_loadRo rfl gU rfl rfl rfl) ?_
  refine al_lenSl rfl rfl rfl rfl rfl gU rfl rfl ?_ (fun hh => by simp at hh); intro hlen
  refine al_pure rfl rfl rfl (pure_cmp rfl rfl gU gU rfl) ?_
  refine al_nil ?_
  refine awp_sub (s := { t := [(0, _, _), (1, _, _), (6, _, _), (7, _, _), (8, _, _), (19, _, _)], bx := [], ow := [] }) (sub_mk (⟨sx rfl, ⟨sx rfl, ⟨sx rfl, ⟨sx rfl, ⟨sx rfl, ⟨sx rfl, trivial⟩⟩⟩⟩⟩⟩) trivial trivial) ?_
  refine awp_cond rfl (fun hc => ?_) (fun hc => ?_)
  · try simp only [nn, Fm.rows_len, Fd.rows_len] at hc
    obtain ⟨q1, q2⟩ := bndL_take (rec := rec) (l := (t.getD i.toNat default).fields) (k := k) (by omega)
    have hb' := hbd (k + 1)
    have hb1' := hb1 k (by omega)
    have hfk := hfd k (by omega)
    obtain ⟨f1, f2, f3, f4, f5, f6, _⟩ := hfk
    obtain ⟨c1, c2, c3, c4, c5, c6⟩ := bndF_cases rec ((t.getD i.toNat default).fields.getD k default)
    refine awp_skip ?_
    refine awp_seq ?_
    refine awp_block ?_
    refine awp_seq (awp_region ?_)
    refine al_pure rfl rfl rfl (pure_move rfl gU) ?_
    refine al_pure rfl rfl rfl (pure_move rfl gU) ?_
    refine al_pure rfl rfl rfl (pure_indexAddr (j := i.toNat) rfl rfl gU gU rfl rfl (by omega) (fun hh => Fm.rows_at (by omega))) ?_
    refine al_pure rfl rfl rfl (pure_fieldRo rfl gU rfl rfl) ?_
    refine al_pure rfl rfl rfl (pure_loadRo rfl gU rfl rfl rfl) ?_
    refine al_pure rfl rfl rfl (pure_move rfl gU) ?_
    refine al_pure rfl rfl rfl (pure_indexAddr rfl rfl gU gU rfl rfl rfl (fun hh => Fd.rows_at (by omega))) ?_
    refine al_pure rfl rfl rfl (pure_loadRoRow rfl gU rfl rfl rfl rfl) ?_
    refine al_do rfl (does_alloc rfl rfl rfl) ?_
    refine al_do rfl (does_store rfl rfl rfl rfl rfl rfl rfl) ?_
    refine al_nil ?_
    refine awp_sub (s := { t := [(0, _, _), (1, _, _), (6, _, _), (7, _, _), (8, _, _), (9, _, _)], bx := [((.l 9), _)], ow := [] }) (sub_mk (⟨sx rfl, ⟨sx rfl, ⟨sx rfl, ⟨sx rfl, ⟨sx rfl, ⟨sx rfl, trivial⟩⟩⟩⟩⟩⟩) (⟨sx rfl, trivial⟩) trivial) ?_
    refine awp_seq (awp_region ?_)
    refine al_pure rfl rfl rfl (pure_fieldPtr rfl gU rfl rfl) ?_
    refine al_pure rfl rfl rfl (pure_loadBox rfl gU rfl rfl rfl rfl) ?_
    refine al_nil ?_
    refine awp_block ?_
    refine awp_seq (awp_region ?_)
    refine al_pure rfl rfl rfl (pure_cmp rfl rfl gU gU rfl) ?_
    refine al_pure rfl rfl rfl (pure_assign rfl gU) ?_
    refine al_nil ?_
    refine awp_cond rfl (fun hc1 => ?_) (fun hc1 => ?_)
    · try simp only [nn, Fm.rows_len, Fd.rows_len] at hc1
      refine awp_drawn' (by kernel_rfl) ?_
      refine dr_pure rfl rfl rfl rfl (pure_move rfl gU) ?_
      refine dr_pure rfl rfl rfl rfl (pure_fieldPtr rfl gU rfl rfl) ?_
      refine dr_load rfl rfl rfl rfl rfl rfl rfl gU rfl rfl rfl rfl ?_
      refine dr_pure rfl rfl rfl rfl (pure_lenS rfl gU (Try.underlying9)) ?_
      refine dr_pure rfl rfl rfl rfl (pure_arith rfl rfl gU gU rfl (IntWalk.i64_in _ (by omega))) ?_
      refine dr_pure rfl rfl rfl rfl (pure_move rfl gU) ?_
      refine dr_pure rfl rfl rfl rfl (pure_fieldPtr rfl gU rfl rfl) ?_
      refine dr_load rfl rfl rfl rfl rfl rfl rfl gU rfl rfl rfl rfl ?_
      refine dr_pure rfl rfl rfl rfl (pure_lenS rfl gU (Try.underlying9)) ?_
      refine dr_pure rfl rfl rfl rfl (pure_arith rfl rfl gU gU rfl (IntWalk.i64_in _ (by omega))) ?_
      refine dr_pure rfl rfl rfl rfl (pure_assign rfl gU) ?_
      refine dr_pure rfl rfl rfl rfl (pure_assign rfl gU) ?_
      refine dr_nil (by kernel_rfl) ?_
      refine awp_sub (s := { t := [(0, _, _), (1, _, _), (6, _, _), (7, _, _), (8, _, _)], bx := [], ow := [] }) (sub_mk (⟨sx rfl, ⟨sx rfl, ⟨sx rfl, ⟨sx rfl, ⟨sx rfl, trivial⟩⟩⟩⟩⟩) trivial trivial) ?_
      refine awp_region ?_
      refine al_pure rfl rfl rfl (pure_move rfl gU) ?_
      refine al_pure rfl rfl rfl (pure_arith rfl rfl gU gU rfl (IntWalk.i64_in _ (by omega))) ?_
      refine al_pure rfl rfl rfl (pure_assign rfl gU) ?_
      refine al_nil ?_
      refine ⟨k + 1, ?_, ?_, sub_mk (⟨⟨_, rfl, ?_⟩, ⟨⟨_, rfl, ?_⟩, ⟨⟨_, rfl, ?_⟩, ⟨sx rfl, ⟨sx rfl, trivial⟩⟩⟩⟩⟩) trivial trivial⟩
      all_goals (first | omega | rfl | exact tx (xi_eq (by omega)))
    · try simp only [nn, Fm.rows_len, Fd.rows_len] at hc1
      refine awp_seq (awp_region ?_)
      refine al_pure rfl rfl rfl (pure_cmp rfl rfl gU gU rfl) ?_
      refine al_pure rfl rfl rfl (pure_assign rfl gU) ?_
      refine al_nil ?_
      refine awp_sub (s := { t := [(0, _, _), (1, _, _), (6, _, _), (7, _, _), (8, _, _), (9, _, _), (31, _, _), (52, _, _)], bx := [((.l 9), _)], ow := [] }) (sub_mk (⟨sx rfl, ⟨sx rfl, ⟨sx rfl, ⟨sx rfl, ⟨sx rfl, ⟨sx rfl, ⟨sx rfl, ⟨sx rfl, trivial⟩⟩⟩⟩⟩⟩⟩⟩) (⟨sx rfl, trivial⟩) trivial) ?_
      refine awp_cond rfl (fun hc2 => ?_) (fun hc2 => ?_)
      · try simp only [nn, Fm.rows_len, Fd.rows_len] at hc2
        refine awp_drawn' (by kernel_rfl) ?_
        refine dr_pure rfl rfl rfl rfl (pure_move rfl gU) ?_
        refine dr_pure rfl rfl rfl rfl (pure_fieldPtr rfl gU rfl rfl) ?_
        refine dr_load rfl rfl rfl rfl rfl rfl rfl gU rfl rfl rfl rfl ?_
        refine dr_pure rfl rfl rfl rfl (pure_arith rfl rfl gU gU rfl (IntWalk.i64_in _ (by omega))) ?_
        refine dr_pure rfl rfl rfl rfl (pure_move rfl gU) ?_
        refine dr_pure rfl rfl rfl rfl (pure_fieldPtr rfl gU rfl rfl) ?_
        refine dr_load rfl rfl rfl rfl rfl rfl rfl gU rfl rfl rfl rfl ?_
        refine dr_pure rfl rfl rfl rfl (pure_arith rfl rfl gU gU rfl (IntWalk.i64_in _ (by omega))) ?_
        refine dr_pure rfl rfl rfl rfl (pure_assign rfl gU) ?_
        refine dr_pure rfl rfl rfl rfl (pure_assign rfl gU) ?_
        refine dr_nil (by kernel_rfl) ?_
        refine awp_sub (s := { t := [(0, _, _), (1, _, _), (6, _, _), (7, _, _), (8, _, _)], bx := [], ow := [] }) (sub_mk (⟨sx rfl, ⟨sx rfl, ⟨sx rfl, ⟨sx rfl, ⟨sx rfl, trivial⟩⟩⟩⟩⟩) trivial trivial) ?_
        refine awp_region ?_
        refine al_pure rfl rfl rfl (pure_move rfl gU) ?_
        refine al_pure rfl rfl rfl (pure_arith rfl rfl gU gU rfl (IntWalk.i64_in _ (by omega))) ?_
        refine al_pure rfl rfl rfl (pure_assign rfl gU) ?_
        refine al_nil ?_
        refine ⟨k + 1, ?_, ?_, sub_mk (⟨⟨_, rfl, ?_⟩, ⟨⟨_, rfl, ?_⟩, ⟨⟨_, rfl, ?_⟩, ⟨sx rfl, ⟨sx rfl, trivial⟩⟩⟩⟩⟩) trivial trivial⟩
        all_goals (first | omega | rfl | exact tx (xi_eq (by omega)))
      · try simp only [nn, Fm.rows_len, Fd.rows_len] at hc2
        refine awp_seq (awp_region ?_)
        refine al_pure rfl rfl rfl (pure_cmp rfl rfl gU gU rfl) ?_
        refine al_pure rfl rfl rfl (pure_assign rfl gU) ?_
        refine al_nil ?_
        refine awp_cond rfl (fun hc3 => ?_) (fun hc3 => ?_)
        · try simp only [nn, Fm.rows_len, Fd.rows_len] at hc3
          refine awp_drawn' (by kernel_rfl) ?_
          refine dr_pure rfl rfl rfl rfl (pure_move rfl gU) ?_
          refine dr_pure rfl rfl rfl rfl (pure_arith rfl rfl gU gU rfl (IntWalk.i64_in _ (by omega))) ?_
          refine dr_pure rfl rfl rfl rfl (pure_move rfl gU) ?_
          refine dr_pure rfl rfl rfl rfl (pure_arith rfl rfl gU gU rfl (IntWalk.i64_in _ (by omega))) ?_
          refine dr_pure rfl rfl rfl rfl (pure_fieldPtr rfl gU rfl rfl) ?_
          refine dr_load rfl rfl rfl rfl rfl rfl rfl gU rfl rfl rfl rfl ?_
          refine dr_pure rfl rfl rfl rfl (pure_arith rfl rfl gU gU rfl (IntWalk.i64_in _ (by omega))) ?_
          refine dr_pure rfl rfl rfl rfl (pure_assign rfl gU) ?_
          refine dr_pure rfl rfl rfl rfl (pure_assign rfl gU) ?_
          refine dr_nil (by kernel_rfl) ?_
          refine awp_sub (s := { t := [(0, _, _), (1, _, _), (6, _, _), (7, _, _), (8, _, _)], bx := [], ow := [] }) (sub_mk (⟨sx rfl, ⟨sx rfl, ⟨sx rfl, ⟨sx rfl, ⟨sx rfl, trivial⟩⟩⟩⟩⟩) trivial trivial) ?_
          refine awp_region ?_
          refine al_pure rfl rfl rfl (pure_move rfl gU) ?_
          refine al_pure rfl rfl rfl (pure_arith rfl rfl gU gU rfl (IntWalk.i64_in _ (by omega))) ?_
          refine al_pure rfl rfl rfl (pure_assign rfl gU) ?_
          refine al_nil ?_
          refine ⟨k + 1, ?_, ?_, sub_mk (⟨⟨_, rfl, ?_⟩, ⟨⟨_, rfl, ?_⟩, ⟨⟨_, rfl, ?_⟩, ⟨sx rfl, ⟨sx rfl, trivial⟩⟩⟩⟩⟩) trivial trivial⟩
          all_goals (first | omega | rfl | exact tx (xi_eq (by omega)))
        · try simp only [nn, Fm.rows_len, Fd.rows_len] at hc3
          refine awp_seq (awp_region ?_)
          refine al_pure rfl rfl rfl (pure_cmp rfl rfl gU gU rfl) ?_
          refine al_pure rfl rfl rfl (pure_assign rfl gU) ?_
          refine al_nil ?_
          refine awp_cond rfl (fun hc4 => ?_) (fun hc4 => ?_)
          · try simp only [nn, Fm.rows_len, Fd.rows_len] at hc4
            refine awp_region ?_
            refine al_pure rfl rfl rfl (pure_move rfl gU) ?_
            refine al_pure rfl rfl rfl (pure_arith rfl rfl gU gU rfl (IntWalk.i64_in _ (by omega))) ?_
            refine al_pure rfl rfl rfl (pure_move rfl gU) ?_
            refine al_pure rfl rfl rfl (pure_arith rfl rfl gU gU rfl (IntWalk.i64_in _ (by omega))) ?_
            refine al_pure rfl rfl rfl (pure_assign rfl gU) ?_
            refine al_pure rfl rfl rfl (pure_assign rfl gU) ?_
            refine al_nil ?_
            refine awp_sub (s := { t := [(0, _, _), (1, _, _), (6, _, _), (7, _, _), (8, _, _)], bx := [], ow := [] }) (sub_mk (⟨sx rfl, ⟨sx rfl, ⟨sx rfl, ⟨sx rfl, ⟨sx rfl, trivial⟩⟩⟩⟩⟩) trivial trivial) ?_
            refine awp_region ?_
            refine al_pure rfl rfl rfl (pure_move rfl gU) ?_
            refine al_pure rfl rfl rfl (pure_arith rfl rfl gU gU rfl (IntWalk.i64_in _ (by omega))) ?_
            refine al_pure rfl rfl rfl (pure_assign rfl gU) ?_
            refine al_nil ?_
            refine ⟨k + 1, ?_, ?_, sub_mk (⟨⟨_, rfl, ?_⟩, ⟨⟨_, rfl, ?_⟩, ⟨⟨_, rfl, ?_⟩, ⟨sx rfl, ⟨sx rfl, trivial⟩⟩⟩⟩⟩) trivial trivial⟩
            all_goals (first | omega | rfl | exact tx (xi_eq (by omega)))
          · try simp only [nn, Fm.rows_len, Fd.rows_len] at hc4
            refine awp_seq (awp_region ?_)
            refine al_pure rfl rfl rfl (pure_cmp rfl rfl gU gU rfl) ?_
            refine al_pure rfl rfl rfl (pure_assign rfl gU) ?_
            refine al_nil ?_
            refine awp_sub (s := { t := [(0, _, _), (1, _, _), (6, _, _), (7, _, _), (8, _, _), (9, _, _), (77, _, _)], bx := [((.l 9), _)], ow := [] }) (sub_mk (⟨sx rfl, ⟨sx rfl, ⟨sx rfl, ⟨sx rfl, ⟨sx rfl, ⟨sx rfl, ⟨sx rfl, trivial⟩⟩⟩⟩⟩⟩⟩) (⟨sx rfl, trivial⟩) trivial) ?_
            refine awp_cond rfl (fun hc5 => ?_) (fun hc5 => ?_)
            · try simp only [nn, Fm.rows_len, Fd.rows_len] at hc5
              refine awp_seq (awp_region ?_)
              refine al_pure rfl rfl rfl (pure_move rfl gU) ?_
              refine al_pure rfl rfl rfl (pure_fieldPtr rfl gU rfl rfl) ?_
              refine al_pure rfl rfl rfl (pure_loadBox rfl gU rfl rfl rfl rfl) ?_
              refine al_call rfl rfl rfl rfl rfl rfl gU gU (hrec k (by omega) (by assumption)) rfl ?_
              refine al_pure rfl rfl rfl (pure_move rfl gU) ?_
              refine al_pure rfl rfl rfl (pure_extract rfl gU rfl) ?_
              refine al_pure rfl rfl rfl (pure_extract rfl gU rfl) ?_
              refine al_pure rfl rfl rfl (pure_assign rfl gU) ?_
              refine al_pure rfl rfl rfl (pure_assign rfl gU) ?_
              refine al_nil ?_
              refine awp_sub (s := { t := [(0, _, _), (1, _, _), (6, _, _), (7, _, _), (8, _, _), (10, _, _), (11, _, _)], bx := [], ow := [] }) (sub_mk (⟨sx rfl, ⟨sx rfl, ⟨sx rfl, ⟨sx rfl, ⟨sx rfl, ⟨sx rfl, ⟨sx rfl, trivial⟩⟩⟩⟩⟩⟩⟩) trivial trivial) ?_
              refine awp_region ?_
              refine al_pure rfl rfl rfl (pure_move rfl gU) ?_
              refine al_pure rfl rfl rfl (pure_arith rfl rfl gU gU rfl (IntWalk.i64_in _ (by omega))) ?_
              refine al_pure rfl rfl rfl (pure_move rfl gU) ?_
              refine al_pure rfl rfl rfl (pure_arith rfl rfl gU gU rfl (IntWalk.i64_in _ (by omega))) ?_
              refine al_pure rfl rfl rfl (pure_move rfl gU) ?_
              refine al_pure rfl rfl rfl (pure_arith rfl rfl gU gU rfl (IntWalk.i64_in _ (by omega))) ?_
              refine al_pure rfl rfl rfl (pure_move rfl gU) ?_
              refine al_pure rfl rfl rfl (pure_arith rfl rfl gU gU rfl (IntWalk.i64_in _ (by omega))) ?_
              refine al_pure rfl rfl rfl (pure_assign rfl gU) ?_
              refine al_pure rfl rfl rfl (pure_assign rfl gU) ?_
              refine al_nil ?_
              refine awp_sub (s := { t := [(0, _, _), (1, _, _), (6, _, _), (7, _, _), (8, _, _)], bx := [], ow := [] }) (sub_mk (⟨sx rfl, ⟨sx rfl, ⟨sx rfl, ⟨sx rfl, ⟨sx rfl, trivial⟩⟩⟩⟩⟩) trivial trivial) ?_
              refine awp_region ?_
              refine al_pure rfl rfl rfl (pure_move rfl gU) ?_
              refine al_pure rfl rfl rfl (pure_arith rfl rfl gU gU rfl (IntWalk.i64_in _ (by omega))) ?_
              refine al_pure rfl rfl rfl (pure_assign rfl gU) ?_
              refine al_nil ?_
              refine ⟨k + 1, ?_, ?_, sub_mk (⟨⟨_, rfl, ?_⟩, ⟨⟨_, rfl, ?_⟩, ⟨⟨_, rfl, ?_⟩, ⟨sx rfl, ⟨sx rfl, trivial⟩⟩⟩⟩⟩) trivial trivial⟩
              all_goals (first | omega | rfl | exact tx (xi_eq (by omega)))
            · try simp only [nn, Fm.rows_len, Fd.rows_len] at hc5
              refine awp_drawn' (by kernel_rfl) ?_
              refine dr_pure rfl rfl rfl rfl (pure_move rfl gU) ?_
              refine dr_pure rfl rfl rfl rfl (pure_fieldPtr rfl gU rfl rfl) ?_
              refine dr_load rfl rfl rfl rfl rfl rfl rfl gU rfl rfl rfl rfl ?_
              refine dr_pure rfl rfl rfl rfl (pure_arith rfl rfl gU gU rfl (IntWalk.i64_in _ (by omega))) ?_
              refine dr_pure rfl rfl rfl rfl (pure_move rfl gU) ?_
              refine dr_pure rfl rfl rfl rfl (pure_fieldPtr rfl gU rfl rfl) ?_
              refine dr_load rfl rfl rfl rfl rfl rfl rfl gU rfl rfl rfl rfl ?_
              refine dr_pure rfl rfl rfl rfl (pure_arith rfl rfl gU gU rfl (IntWalk.i64_in _ (by omega))) ?_
              refine dr_pure rfl rfl rfl rfl (pure_assign rfl gU) ?_
              refine dr_pure rfl rfl rfl rfl (pure_assign rfl gU) ?_
              refine dr_nil (by kernel_rfl) ?_
              refine awp_sub (s := { t := [(0, _, _), (1, _, _), (6, _, _), (7, _, _), (8, _, _)], bx := [], ow := [] }) (sub_mk (⟨sx rfl, ⟨sx rfl, ⟨sx rfl, ⟨sx rfl, ⟨sx rfl, trivial⟩⟩⟩⟩⟩) trivial trivial) ?_
              refine awp_region ?_
              refine al_pure rfl rfl rfl (pure_move rfl gU) ?_
              refine al_pure rfl rfl rfl (pure_arith rfl rfl gU gU rfl (IntWalk.i64_in _ (by omega))) ?_
              refine al_pure rfl rfl rfl (pure_assign rfl gU) ?_
              refine al_nil ?_
              refine ⟨k + 1, ?_, ?_, sub_mk (⟨⟨_, rfl, ?_⟩, ⟨⟨_, rfl, ?_⟩, ⟨⟨_, rfl, ?_⟩, ⟨sx rfl, ⟨sx rfl, trivial⟩⟩⟩⟩⟩) trivial trivial⟩
              all_goals (first | omega | rfl | exact tx (xi_eq (by omega)))
  · try simp only [nn, Fm.rows_len, Fd.rows_len] at hc
    refine awp_exit ?_
    repeat (first | refine thenS_exit ?_ | refine blockS_hit ?_ | refine blockS_miss rfl ?_)
    refine awp_seq (awp_region ?_)
    refine al_pure rfl rfl rfl (pure_move rfl gU) ?_
    refine al_pure rfl rfl rfl (pure_move rfl gU) ?_
    refine al_pure rfl rfl rfl (pure_assign rfl gU) ?_
    refine al_pure rfl rfl rfl (pure_assign rfl gU) ?_
    refine al_nil ?_
    refine awp_ret ?_
    repeat (first | refine tR ?_ | refine bR ?_)
    refine ret_ok rfl ?_ trivial
    have : k = (t.getD i.toNat default).fields.length := by omega
    rw [this, List.take_length]
    rfl
theorem rlen_spec (t : List Fm) (i : Int) (hi : 0 ≤ i ∧ i < t.length) (h : Fds t (t.getD i.toNat default).fields) : Ctr sys 49 [xtab t, xi i] [] (xii (bndT t i)) none [] := by
  refine rlen_gen t i (bnd0 t) hi h.len.2 h.ok h.bnd (fun k hk => h.bndF hk) fun k hk h5 => ?_
  obtain ⟨h1, h2⟩ := h.nest k hk h5
  have h3 := (h.ok k hk).n
  refine rlen_gen t _ (fun _ => (0, 0)) (by omega) h2.len.2 (fun j hj => (h2.ok j hj).1) (fun j => by have := h2.bnd (rec := fun _ => (0, 0)) j; omega) (fun j hj => ?_) fun j hj h6 => absurd h6 (h2.ok j hj).2.1
  rw [bndF_eq (h2.ok j hj).2.1]
  have := bnd1_le (h2.ok j hj).1
  omega
theorem rBounds_spec (t : List Fm) (i : Int) : Ctr sys 32 [xtab t, xi i] [] (xiie (boundsE t i)) none [] := by
  have hrl := Fm.rows_len t
  refine spec_intro Try.func32 rfl rfl rfl rfl rfl rfl ?_
  refine awp_seq (awp_region ?_)
  refine al_pure rfl rfl rfl (pure_assign rfl gU) ?_
  refine al_pure rfl rfl rfl (pure_assign rfl gU) ?_
  refine al_pure rfl rfl rfl (pure_assign rfl gU) ?_
  refine al_nil ?_
  refine awp_seq ?_
  refine awp_seq (awp_region ?_)
  refine al_pure rfl rfl rfl (pure_move rfl gU) ?_
  refine al_pure rfl rfl rfl (pure_move rfl gU) ?_
  refine al_call rfl rfl rfl rfl rfl rfl gU gU (rError_spec _ _) rfl ?_
  refine al_pure rfl rfl rfl (pure_assign rfl gU) ?_
  refine al_nil ?_
  refine awp_sub (s := { t := [(0, _, _), (1, _, _), (7, _, _)], bx := [], ow := [] }) (sub_mk (⟨sx rfl, ⟨sx rfl, ⟨sx rfl, trivial⟩⟩⟩) trivial trivial) ?_
  refine awp_seq (awp_region ?_)
  refine al_pure rfl rfl rfl (pure_move rfl gU) ?_
  refine al_pure rfl rfl rfl (pure_cmp rfl rfl gU gU rfl) ?_
  refine al_nil ?_
  refine awp_cond rfl (fun hc => ?_) (fun hc => ?_)
  · try simp only [nn, Fm.rows_len, Fd.rows_len] at hc
    refine awp_seq (awp_region ?_)
    refine al_pure rfl rfl rfl (pure_move rfl gU) ?_
    refine al_pure rfl rfl rfl (pure_assign rfl gU) ?_
    refine al_pure rfl rfl rfl (pure_assign rfl gU) ?_
    refine al_pure rfl rfl rfl (pure_assign rfl gU) ?_
    refine al_nil ?_
    refine awp_ret ?_
    repeat (first | refine tR ?_ | refine bR ?_)
    refine ret_ok rfl ?_ trivial
    exact xiie_eq (by simp [boundsE, *]) (by simp [boundsE, *]) (by simp [boundsE, *])
  · try simp only [nn, Fm.rows_len, Fd.rows_len] at hc
    refine awp_skip ?_
    refine awp_seq (awp_region ?_)
    refine al_pure rfl rfl rfl (pure_move rfl gU) ?_
    refine al_pure rfl rfl rfl (pure_move rfl gU) ?_
    refine al_call rfl rfl rfl rfl rfl rfl gU gU (rlen_spec _ _ (errE_zero hc).2 ((errE_zero hc).1.fds (by have := (errE_zero hc).2; omega))) rfl ?_
    refine al_pure rfl rfl rfl (pure_move rfl gU) ?_
    refine al_pure rfl rfl rfl (pure_extract rfl gU rfl) ?_
    refine al_pure rfl rfl rfl (pure_extract rfl gU rfl) ?_
    refine al_pure rfl rfl rfl (pure_assign rfl gU) ?_
    refine al_pure rfl rfl rfl (pure_assign rfl gU) ?_
    refine al_nil ?_
    refine awp_sub (s := { t := [(8, _, _), (9, _, _)], bx := [], ow := [] }) (sub_mk (⟨sx rfl, ⟨sx rfl, trivial⟩⟩) trivial trivial) ?_
    refine awp_seq (awp_region ?_)
    refine al_pure rfl rfl rfl (pure_move rfl gU) ?_
    refine al_pure rfl rfl rfl (pure_move rfl gU) ?_
    refine al_pure rfl rfl rfl (pure_assign rfl gU) ?_
    refine al_pure rfl rfl rfl (pure_assign rfl gU) ?_
    refine al_pure rfl rfl rfl (pure_assign rfl gU) ?_
    refine al_nil ?_
    refine awp_ret ?_
    repeat (first | refine tR ?_ | refine bR ?_)
    refine ret_ok rfl ?_ trivial
    exact xiie_eq (by simp [boundsE, *]) (by simp [boundsE, *]) (by simp [boundsE, *])
end Go.Proofs.Ytgjclggjkhapfaa
/- Lists of strings and numbers: as rows of cells (plain). -/
set_option linter.unusedVariables false
set_option linter.unusedSimpArgs false
namespace Go.Proofs.Ytgjclggjkhapfaa
open Go Go.Abs
def strR (l : List (List UInt8)) : List (List C) := l.map fun s => [.s s]
theorem strR_len (l : List (List UInt8)) : (strR l).length = l.length := by simp [strR]
theorem strR_at {l : List (List UInt8)} {k : Nat} (h : k < l.length) : (strR l)[k]? = some [.s (l.getD k [])] := by
  rw [strR, List.getElem?_map, List.getD_eq_getElem?_getD, List.getElem?_eq_getElem h]; rfl
theorem strR_app (a b : List (List UInt8)) : strR (a ++ b) = strR a ++ strR b := by simp [strR]
abbrev xss (l : List (List UInt8)) : X := .v (.c (.sl 1 (strR l)))
def intR (l : List Int) : List (List C) := l.map fun n => [.i .i64 n]
theorem intR_len (l : List Int) : (intR l).length = l.length := by simp [intR]
theorem intR_at {l : List Int} {k : Nat} (h : k < l.length) : (intR l)[k]? = some [.i .i64 (l.getD k 0)] := by
  rw [intR, List.getElem?_map, List.getD_eq_getElem?_getD, List.getElem?_eq_getElem h]; rfl
theorem intR_app (a b : List Int) : intR (a ++ b) = intR a ++ intR b := by simp [intR]
abbrev xis (l : List Int) : X := .v (.c (.sl 1 (intR l)))
theorem bytesR_at {l : List UInt8} {k : Nat} (h : k < l.length) : (bytesR l)[k]? = some [.i .u8 ((l.getD k 0).toNat : Int)] := by
  rw [bytesR, List.getElem?_map, List.getD_eq_getElem?_getD, List.getElem?_eq_getElem h]; rfl
abbrev xbs (l : List UInt8) : X := .v (.c (.sl 1 (bytesR l)))
theorem xss_snoc (l : List (List UInt8)) (s : List UInt8) : X.v (.c (.sl 1 (strR l ++ [[.s s]]))) = xss (l ++ [s]) := by simp [xss, strR]
theorem xis_snoc (l : List Int) (n : Int) : X.v (.c (.sl 1 (intR l ++ [[.i .i64 n]]))) = xis (l ++ [n]) := by simp [xis, intR]
theorem xbs_snoc (l : List UInt8) (b : UInt8) (n : Int) (h : (b.toNat : Int) = n) : X.v (.c (.sl 1 (bytesR l ++ [[.i .u8 n]]))) = xbs (l ++ [b]) := by simp [xbs, bytesR, h]
theorem getD_take {α : Type} (l : List α) (d : α) {j k : Nat} (h : j < k) : (l.take k).getD j d = l.getD j d := by
  simp only [List.getD_eq_getElem?_getD]; rw [List.getElem?_take, if_pos h]
theorem getD_drop {α : Type} (l : List α) (d : α) (j k : Nat) : (l.drop k).getD j d = l.getD (k + j) d := by
  simp only [List.getD_eq_getElem?_getD]; rw [List.getElem?_drop]
theorem take_getD {α : Type} {l : List α} {d : α} {k : Nat} (h : k < l.length) : l.take (k + 1) = l.take k ++ [l.getD k d] := by
  rw [List.take_add_one, List.getD_eq_getElem?_getD, List.getElem?_eq_getElem h]; rfl
theorem dropD {α : Type} {l : List α} {d : α} {k : Nat} (h : k < l.length) : l.drop k = l.getD k d :: l.drop (k + 1) := by
  rw [List.drop_eq_getElem_cons h, List.getD_eq_getElem?_getD, List.getElem?_eq_getElem h]; rfl
/-- The parts of a string between separators, as the loop goes. -/
def splitF (s sep : List UInt8) : Nat → Nat → Nat → List (List UInt8) → List (List UInt8)
  | 0, _, b, out => out ++ [s.drop b]
  | n + 1, i, b, out => if i + sep.length ≤ s.length then
      (if b ≤ i ∧ (s.take (i + sep.length)).drop i = sep then splitF s sep n (i + 1) (i + sep.length) (out ++ [(s.take i).drop b]) else splitF s sep n (i + 1) b out)
    else out ++ [s.drop b]
def splitE (s sep : List UInt8) : List (List UInt8) := splitF s sep (s.length + 1) 0 0 []
theorem splitF_one (s sep : List UInt8) : ∀ (n i b : Nat) (out : List (List UInt8)), out.length + 1 ≤ (splitF s sep n i b out).length ∧ (splitF s sep n i b out).length ≤ out.length + n + 1
  | 0, _, _, out => by simp [splitF]
  | n + 1, i, b, out => by
    rw [splitF]
    split
    · split
      · have := splitF_one s sep n (i + 1) (i + sep.length) (out ++ [(s.take i).drop b]); simp at this; omega
      · have := splitF_one s sep n (i + 1) b out; omega
    · simp
theorem splitF_mem (s sep : List UInt8) : ∀ (n i b : Nat) (out : List (List UInt8)), (∀ x ∈ out, x.length ≤ s.length) → ∀ x ∈ splitF s sep n i b out, x.length ≤ s.length
  | 0, _, b, out, h, x, hx => by
    rw [splitF] at hx
    rcases List.mem_append.1 hx with hx | hx
    · exact h x hx
    · simp at hx; subst hx; simp
  | n + 1, i, b, out, h, x, hx => by
    rw [splitF] at hx
    split at hx
    · split at hx
      · refine splitF_mem s sep n _ _ _ (fun y hy => ?_) x hx
        rcases List.mem_append.1 hy with hy | hy
        · exact h y hy
        · simp at hy; subst hy; simp; omega
      · exact splitF_mem s sep n _ _ _ h x hx
    · rcases List.mem_append.1 hx with hx | hx
      · exact h x hx
      · simp at hx; subst hx; simp
theorem splitE_len (s sep : List UInt8) : 1 ≤ (splitE s sep).length ∧ (splitE s sep).length ≤ s.length + 2 := by
  have := splitF_one s sep (s.length + 1) 0 0 []; simp at this; unfold splitE; omega
theorem splitE_get (s sep : List UInt8) (k : Nat) : ((splitE s sep).getD k []).length ≤ s.length := by
  rw [List.getD_eq_getElem?_getD]
  cases h : (splitE s sep)[k]? with
  | none => simp
  | some x => exact splitF_mem s sep _ _ _ _ (by simp) x (List.mem_of_getElem? h)
/-- Hexadecimal digits. -/
def hexB (b : UInt8) : Bool := (decide (48 ≤ (b.toNat : Int)) && decide ((b.toNat : Int) ≤ 57)) || (decide (97 ≤ (b.toNat : Int)) && decide ((b.toNat : Int) ≤ 102))
def hexV (b : UInt8) : Int := if (b.toNat : Int) ≤ 57 then b.toNat - 48 else b.toNat - 87
def unhexF : List UInt8 → List UInt8 → List UInt8 × Bool
  | a :: b :: l, out => if hexB a = true ∧ hexB b = true then unhexF l (out ++ [UInt8.ofNat (16 * hexV a + hexV b).toNat]) else ([], false)
  | [_], out => (out, false)
  | [], out => (out, true)
def numF : Int → List UInt8 → Int
  | n, [] => n
  | n, b :: l => if (b.toNat : Int) < 48 ∨ 57 < (b.toNat : Int) then -1 else numF (10 * n + (b.toNat - 48)) l
def numE (s : List UInt8) : Int := if s.length = 0 ∨ 6 < s.length ∨ (1 < s.length ∧ (s.getD 0 0).toNat = 48) then -1 else numF 0 s
def pw10 (k : Nat) : Int := 10 ^ k
theorem pw10_succ (k : Nat) : pw10 (k + 1) = 10 * pw10 k := by simp [pw10, Int.pow_succ, Int.mul_comm]
theorem pw10_le {k : Nat} (h : k ≤ 6) : 1 ≤ pw10 k ∧ pw10 k ≤ 1000000 := by
  match k, h with
  | 0, _ => decide
  | 1, _ => decide
  | 2, _ => decide
  | 3, _ => decide
  | 4, _ => decide
  | 5, _ => decide
  | 6, _ => decide
end Go.Proofs.Ytgjclggjkhapfaa
