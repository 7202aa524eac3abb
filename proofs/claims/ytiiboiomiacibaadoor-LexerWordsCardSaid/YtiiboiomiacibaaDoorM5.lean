/- Our abstract program logic and contracts of this seat's functions, part 5: no statement of its own. -/
import Derived.Test.YtiiboiomiacibaaDoorM4
import Derived.Lib.Join
import Derived.Lib.LaidTab
import Derived.Test.YtiiboiomiacibaaDoorChecked
import Derived.Handed
import Derived.LaidSub
import Derived.MakeChecks
import Derived.Test.YtiiboiomiacibaaDoorRows
import Derived.Stop.LaidErr
/- Contracts: the examples, and the statements on tokens, names, lines and literals. -/
set_option linter.unusedVariables false
set_option linter.unusedSimpArgs false
namespace Go.Proofs.YtiiboiomiacibaaDoor
open Go Go.Abs
theorem letter1_spec (n : Int) : Ctr sys 57 [xu n] [] (xb (letterB n)) none [] := letter_spec n
theorem risName_spec (s : List UInt8) (hs : s.length ≤ 1000000) : Ctr sys 16 [xs s] [] (xb (rnmE s)) none [] := by
  have hr := Tk.rows_len (tokR s).1
  refine spec_intro Tryd.func16 rfl rfl rfl rfl rfl rfl ?_
  refine awp_seq (awp_region ?_)
  refine al_pure rfl rfl rfl (pure_assign rfl gU) ?_
  refine al_nil ?_
  refine awp_seq (awp_region ?_)
  refine al_pure rfl rfl rfl (pure_move rfl gU) ?_
  refine al_call rfl rfl rfl rfl rfl rfl gU gU (rtokens_spec _ (by omega)) rfl ?_
  refine al_pure rfl rfl rfl (pure_move rfl gU) ?_
  refine al_pure rfl rfl rfl (pure_extract rfl gU rfl) ?_
  refine al_pure rfl rfl rfl (pure_extract rfl gU rfl) ?_
  refine al_pure rfl rfl rfl (pure_extract rfl gU rfl) ?_
  refine al_pure rfl rfl rfl (pure_assign rfl gU) ?_
  refine al_pure rfl rfl rfl (pure_assign rfl gU) ?_
  refine al_pure rfl rfl rfl (pure_assign rfl gU) ?_
  refine al_nil ?_
  refine awp_sub (s := { t := [(0, _, _), (3, _, _), (5, _, _)], bx := [], ow := [] }) (sub_mk (⟨sx rfl, ⟨sx rfl, ⟨sx rfl, trivial⟩⟩⟩) trivial trivial) ?_
  refine awp_seq (awp_region ?_)
  refine al_pure rfl rfl rfl (pure_move rfl gU) ?_
  refine al_pure rfl rfl rfl (pure_cmp rfl rfl gU gU rfl) ?_
  refine al_pure rfl rfl rfl (pure_move rfl gU) ?_
  refine al_pure rfl rfl rfl (pure_move rfl gU) ?_
  refine al_pure rfl rfl rfl (pure_lenSl rfl (fun hh => hh) rfl rfl) ?_
  refine al_pure rfl rfl rfl (pure_cmp rfl rfl (fun hh => hh) gU rfl) ?_
  refine al_pure rfl rfl rfl (pure_and rfl rfl gU (fun _ hi => gP rfl hi)) ?_
  refine al_pure rfl rfl rfl (pure_move rfl gU) ?_
  refine al_pure rfl rfl rfl (pure_move rfl gU) ?_
  refine al_pure rfl rfl rfl (pure_indexAddr (j := 0) rfl rfl (fun hh => hh) gU rfl rfl (by first | omega | (simp at hh ⊢; omega) | (simp at hh; omega)) (fun hh => Tk.rows_at (by first | omega | (simp at hh ⊢; omega) | (simp at hh; omega)))) ?_
  refine al_pure rfl rfl rfl (pure_fieldRo rfl (fun hh => hh) rfl rfl) ?_
  refine al_pure rfl rfl rfl (pure_loadRo rfl (fun hh => hh) rfl rfl rfl) ?_
  refine al_sub (s := { t := [(0, _, _), (3, _, _), (19, _, _), (23, _, _)], bx := [], ow := [] }) (sub_mk (⟨sx rfl, ⟨sx rfl, ⟨sx rfl, ⟨sx rfl, trivial⟩⟩⟩⟩) trivial trivial) ?_
  refine al_pure rfl rfl rfl (pure_cmp rfl rfl (fun hh => hh) gU rfl) ?_
  refine al_pure rfl rfl rfl (pure_and rfl rfl gU (fun _ hi => gP rfl hi)) ?_
  refine al_pure rfl rfl rfl (pure_move rfl gU) ?_
  refine al_pure rfl rfl rfl (pure_move rfl gU) ?_
  refine al_pure rfl rfl rfl (pure_indexAddr (j := 0) rfl rfl (fun hh => hh) gU rfl rfl (by first | omega | (simp at hh ⊢; omega) | (simp at hh; omega)) (fun hh => Tk.rows_at (by first | omega | (simp at hh ⊢; omega) | (simp at hh; omega)))) ?_
  refine al_pure rfl rfl rfl (pure_fieldRo rfl (fun hh => hh) rfl rfl) ?_
  refine al_pure rfl rfl rfl (pure_loadRo rfl (fun hh => hh) rfl rfl rfl) ?_
  refine al_pure rfl rfl rfl (pure_move rfl gU) ?_
  refine al_pure rfl rfl rfl (pure_cmpS rfl rfl (fun hh => hh) (fun hh => hh) rfl) ?_
  refine al_pure rfl rfl rfl (pure_and rfl rfl gU (fun _ hi => gP rfl hi)) ?_
  refine al_pure rfl rfl rfl (pure_move rfl gU) ?_
  refine al_pure rfl rfl rfl (pure_move rfl gU) ?_
  refine al_sub (s := { t := [(34, _, _), (35, _, _)], bx := [], ow := [] }) (sub_mk (⟨sx rfl, ⟨sx rfl, trivial⟩⟩) trivial trivial) ?_
  refine al_call rfl rfl rfl rfl rfl rfl gU (fun hh => gA ((fun hh => hh) hh) (rfl)) (isName_spec _) rfl ?_
  refine al_pure rfl rfl rfl (pure_and rfl rfl gU (fun _ hi => gP rfl hi)) ?_
  refine al_pure rfl rfl rfl (pure_assign rfl gU) ?_
  refine al_nil ?_
  refine awp_ret ?_
  repeat (first | refine tR ?_ | refine bR ?_)
  refine ret_ok rfl ?_ trivial
  refine xb_eq ?_
  unfold rnmE
  rw [Bool.eq_iff_iff]
  simp only [Bool.and_eq_true, decide_eq_true_eq, beq_iff_eq]
  constructor
  · rintro ⟨⟨⟨⟨a, b⟩, c⟩, d⟩, e⟩
    exact ⟨⟨⟨⟨by simpa using a, by have := b; simp [Tk.rows_len] at this; omega⟩, by simpa using c⟩, by simpa using d⟩, e⟩
  · rintro ⟨⟨⟨⟨a, b⟩, c⟩, d⟩, e⟩
    exact ⟨⟨⟨⟨by simpa using a, by simp [Tk.rows_len]; omega⟩, by simpa using c⟩, by simpa using d⟩, e⟩
def exS : List UInt8 := [97, 35, 49, 32, 45, 62, 32, 98, 58, 32, 55]
def exL : List Tk := [⟨1, [97, 35, 49], 0, [], 1⟩, ⟨4, [45], 0, [], 1⟩, ⟨4, [62], 0, [], 1⟩, ⟨1, [98], 0, [], 1⟩, ⟨4, [58], 0, [], 1⟩, ⟨2, [], 7, [], 1⟩]
theorem ex1 : tokP exS = (exL, 0, 0) := by kernel_rfl
theorem ex2 : tokP [97, 35, 35, 98] = ([⟨1, [97], 0, [], 1⟩], 0, 0) := by kernel_rfl
theorem ex3 : quoE [34, 1] = [34, 92, 34, 92, 120, 48, 49, 34] := by kernel_rfl
theorem awake_spec : Ctr sys 11 [] [] (xb true) none [] := by
  have h1 := tokens_spec exS (by decide)
  rw [ex1] at h1
  have h2 := tokens_spec [97, 35, 35, 98] (by decide)
  rw [ex2] at h2
  have h3 := lquote_spec [34, 1] (by decide)
  rw [ex3] at h3
  refine spec_intro Tryd.func11 rfl rfl rfl rfl rfl rfl ?_
  refine awp_seq (awp_region ?_)
  refine al_pure rfl rfl rfl (pure_assign rfl gU) ?_
  refine al_nil ?_
  refine awp_seq (awp_region ?_)
  refine al_call rfl rfl rfl rfl rfl rfl gU gU (h1) rfl ?_
  refine al_pure rfl rfl rfl (pure_move rfl gU) ?_
  refine al_pure rfl rfl rfl (pure_extract rfl gU rfl) ?_
  refine al_pure rfl rfl rfl (pure_extract rfl gU rfl) ?_
  refine al_pure rfl rfl rfl (pure_extract rfl gU rfl) ?_
  refine al_pure rfl rfl rfl (pure_assign rfl gU) ?_
  refine al_pure rfl rfl rfl (pure_assign rfl gU) ?_
  refine al_pure rfl rfl rfl (pure_assign rfl gU) ?_
  refine al_nil ?_
  refine awp_sub (s := { t := [(1, _, _), (2, _, _), (3, _, _)], bx := [], ow := [] }) (sub_mk (⟨sx rfl, ⟨sx rfl, ⟨sx rfl, trivial⟩⟩⟩) trivial trivial) ?_
  refine awp_seq ?_
  refine awp_seq (awp_region ?_)
  refine al_pure rfl rfl rfl (pure_move rfl gU) ?_
  refine al_pure rfl rfl rfl (pure_cmp rfl rfl gU gU rfl) ?_
  refine al_pure rfl rfl rfl (pure_move rfl gU) ?_
  refine al_pure rfl rfl rfl (pure_move rfl gU) ?_
  refine al_pure rfl rfl rfl (pure_cmp rfl rfl (fun hh => hh) gU rfl) ?_
  refine al_pure rfl rfl rfl (pure_or rfl rfl gU (fun _ hi => gP rfl hi)) ?_
  refine al_pure rfl rfl rfl (pure_move rfl gU) ?_
  refine al_pure rfl rfl rfl (pure_move rfl gU) ?_
  refine al_pure rfl rfl rfl (pure_lenSl rfl (fun hh => hh) rfl rfl) ?_
  refine al_pure rfl rfl rfl (pure_cmp rfl rfl (fun hh => hh) gU rfl) ?_
  refine al_pure rfl rfl rfl (pure_or rfl rfl gU (fun _ hi => gP rfl hi)) ?_
  refine al_pure rfl rfl rfl (pure_move rfl gU) ?_
  refine al_sub (s := { t := [(1, _, _), (23, _, _)], bx := [], ow := [] }) (sub_mk (⟨sx rfl, ⟨sx rfl, trivial⟩⟩) trivial trivial) ?_
  refine al_pure rfl rfl rfl (pure_move rfl gU) ?_
  refine al_pure rfl rfl rfl (pure_indexAddr (j := 0) rfl rfl (fun hh => hh) gU rfl rfl (by decide) (fun hh => Tk.rows_at (by decide))) ?_
  refine al_pure rfl rfl rfl (pure_fieldRo rfl (fun hh => hh) rfl rfl) ?_
  refine al_pure rfl rfl rfl (pure_loadRo rfl (fun hh => hh) rfl rfl rfl) ?_
  refine al_pure rfl rfl rfl (pure_cmpS rfl rfl (fun hh => hh) gU rfl) ?_
  refine al_pure rfl rfl rfl (pure_or rfl rfl gU (fun _ hi => gP rfl hi)) ?_
  refine al_pure rfl rfl rfl (pure_move rfl gU) ?_
  refine al_pure rfl rfl rfl (pure_move rfl gU) ?_
  refine al_pure rfl rfl rfl (pure_indexAddr (j := 1) rfl rfl (fun hh => hh) gU rfl rfl (by decide) (fun hh => Tk.rows_at (by decide))) ?_
  refine al_pure rfl rfl rfl (pure_fieldRo rfl (fun hh => hh) rfl rfl) ?_
  refine al_pure rfl rfl rfl (pure_loadRo rfl (fun hh => hh) rfl rfl rfl) ?_
  refine al_pure rfl rfl rfl (pure_cmpS rfl rfl (fun hh => hh) gU rfl) ?_
  refine al_sub (s := { t := [(1, _, _), (30, _, _), (35, _, _)], bx := [], ow := [] }) (sub_mk (⟨sx rfl, ⟨sx rfl, ⟨sx rfl, trivial⟩⟩⟩) trivial trivial) ?_
  refine al_pure rfl rfl rfl (pure_or rfl rfl gU (fun _ hi => gP rfl hi)) ?_
  refine al_pure rfl rfl rfl (pure_move rfl gU) ?_
  refine al_pure rfl rfl rfl (pure_move rfl gU) ?_
  refine al_pure rfl rfl rfl (pure_indexAddr (j := 2) rfl rfl (fun hh => hh) gU rfl rfl (by decide) (fun hh => Tk.rows_at (by decide))) ?_
  refine al_pure rfl rfl rfl (pure_fieldRo rfl (fun hh => hh) rfl rfl) ?_
  refine al_pure rfl rfl rfl (pure_loadRo rfl (fun hh => hh) rfl rfl rfl) ?_
  refine al_pure rfl rfl rfl (pure_cmpS rfl rfl (fun hh => hh) gU rfl) ?_
  refine al_pure rfl rfl rfl (pure_or rfl rfl gU (fun _ hi => gP rfl hi)) ?_
  refine al_pure rfl rfl rfl (pure_move rfl gU) ?_
  refine al_pure rfl rfl rfl (pure_move rfl gU) ?_
  refine al_pure rfl rfl rfl (pure_indexAddr (j := 4) rfl rfl (fun hh => hh) gU rfl rfl (by decide) (fun hh => Tk.rows_at (by decide))) ?_
  refine al_pure rfl rfl rfl (pure_fieldRo rfl (fun hh => hh) rfl rfl) ?_
  refine al_sub (s := { t := [(1, _, _), (44, _, _), (47, _, _)], bx := [], ow := [] }) (sub_mk (⟨sx rfl, ⟨sx rfl, ⟨sx rfl, trivial⟩⟩⟩) trivial trivial) ?_
  refine al_pure rfl rfl rfl (pure_loadRo rfl (fun hh => hh) rfl rfl rfl) ?_
  refine al_pure rfl rfl rfl (pure_cmpS rfl rfl (fun hh => hh) gU rfl) ?_
  refine al_pure rfl rfl rfl (pure_or rfl rfl gU (fun _ hi => gP rfl hi)) ?_
  refine al_pure rfl rfl rfl (pure_move rfl gU) ?_
  refine al_pure rfl rfl rfl (pure_move rfl gU) ?_
  refine al_pure rfl rfl rfl (pure_indexAddr (j := 5) rfl rfl (fun hh => hh) gU rfl rfl (by decide) (fun hh => Tk.rows_at (by decide))) ?_
  refine al_pure rfl rfl rfl (pure_fieldRo rfl (fun hh => hh) rfl rfl) ?_
  refine al_pure rfl rfl rfl (pure_loadRo rfl (fun hh => hh) rfl rfl rfl) ?_
  refine al_pure rfl rfl rfl (pure_cmp rfl rfl (fun hh => hh) gU rfl) ?_
  refine al_pure rfl rfl rfl (pure_or rfl rfl gU (fun _ hi => gP rfl hi)) ?_
  refine al_pure rfl rfl rfl (pure_move rfl gU) ?_
  refine al_pure rfl rfl rfl (pure_move rfl gU) ?_
  refine al_sub (s := { t := [(58, _, _), (59, _, _)], bx := [], ow := [] }) (sub_mk (⟨sx rfl, ⟨sx rfl, trivial⟩⟩) trivial trivial) ?_
  refine al_pure rfl rfl rfl (pure_indexAddr (j := 5) rfl rfl (fun hh => hh) gU rfl rfl (by decide) (fun hh => Tk.rows_at (by decide))) ?_
  refine al_pure rfl rfl rfl (pure_fieldRo rfl (fun hh => hh) rfl rfl) ?_
  refine al_pure rfl rfl rfl (pure_loadRo rfl (fun hh => hh) rfl rfl rfl) ?_
  refine al_pure rfl rfl rfl (pure_cmp rfl rfl (fun hh => hh) gU rfl) ?_
  refine al_pure rfl rfl rfl (pure_or rfl rfl gU (fun _ hi => gP rfl hi)) ?_
  refine al_nil ?_
  refine awp_sub (s := { t := [(64, _, _)], bx := [], ow := [] }) (sub_mk (⟨sx rfl, trivial⟩) trivial trivial) ?_
  refine awp_cond rfl (fun hc => ?_) (fun hc => ?_)
  · exfalso
    revert hc
    decide
  · skip
    refine awp_skip ?_
    refine awp_seq (awp_region ?_)
    refine al_call rfl rfl rfl rfl rfl rfl gU gU (h2) rfl ?_
    refine al_pure rfl rfl rfl (pure_move rfl gU) ?_
    refine al_pure rfl rfl rfl (pure_extract rfl gU rfl) ?_
    refine al_pure rfl rfl rfl (pure_extract rfl gU rfl) ?_
    refine al_pure rfl rfl rfl (pure_extract rfl gU rfl) ?_
    refine al_pure rfl rfl rfl (pure_assign rfl gU) ?_
    refine al_pure rfl rfl rfl (pure_assign rfl gU) ?_
    refine al_pure rfl rfl rfl (pure_assign rfl gU) ?_
    refine al_nil ?_
    refine awp_sub (s := { t := [(4, _, _), (6, _, _)], bx := [], ow := [] }) (sub_mk (⟨sx rfl, ⟨sx rfl, trivial⟩⟩) trivial trivial) ?_
    refine awp_seq (awp_region ?_)
    refine al_pure rfl rfl rfl (pure_move rfl gU) ?_
    refine al_pure rfl rfl rfl (pure_cmp rfl rfl gU gU rfl) ?_
    refine al_pure rfl rfl rfl (pure_move rfl gU) ?_
    refine al_pure rfl rfl rfl (pure_move rfl gU) ?_
    refine al_pure rfl rfl rfl (pure_lenSl rfl (fun hh => hh) rfl rfl) ?_
    refine al_pure rfl rfl rfl (pure_cmp rfl rfl (fun hh => hh) gU rfl) ?_
    refine al_pure rfl rfl rfl (pure_and rfl rfl gU (fun _ hi => gP rfl hi)) ?_
    refine al_pure rfl rfl rfl (pure_move rfl gU) ?_
    refine al_pure rfl rfl rfl (pure_move rfl gU) ?_
    refine al_pure rfl rfl rfl (pure_indexAddr (j := 0) rfl rfl (fun hh => hh) gU rfl rfl (by decide) (fun hh => Tk.rows_at (by decide))) ?_
    refine al_pure rfl rfl rfl (pure_fieldRo rfl (fun hh => hh) rfl rfl) ?_
    refine al_pure rfl rfl rfl (pure_loadRo rfl (fun hh => hh) rfl rfl rfl) ?_
    refine al_sub (s := { t := [(77, _, _), (81, _, _)], bx := [], ow := [] }) (sub_mk (⟨sx rfl, ⟨sx rfl, trivial⟩⟩) trivial trivial) ?_
    refine al_pure rfl rfl rfl (pure_cmpS rfl rfl (fun hh => hh) gU rfl) ?_
    refine al_pure rfl rfl rfl (pure_and rfl rfl gU (fun _ hi => gP rfl hi)) ?_
    refine al_pure rfl rfl rfl (pure_move rfl gU) ?_
    refine al_call rfl rfl rfl rfl rfl rfl gU gU (h3) rfl ?_
    refine al_pure rfl rfl rfl (pure_cmpS rfl rfl (fun hh => hh) gU rfl) ?_
    refine al_pure rfl rfl rfl (pure_and rfl rfl gU (fun _ hi => gP rfl hi)) ?_
    refine al_pure rfl rfl rfl (pure_assign rfl gU) ?_
    refine al_nil ?_
    refine awp_ret ?_
    repeat (first | refine tR ?_ | refine bR ?_)
    refine ret_ok rfl ?_ trivial
    rfl
theorem LexerTokens_spec (s : List UInt8) : Ctr sys 3 [xs s] [] (xb true) none [] := by
  refine spec_intro Tryd.func3 rfl rfl rfl rfl rfl rfl ?_
  refine awp_seq (awp_region ?_)
  refine al_pure rfl rfl rfl (pure_assign rfl gU) ?_
  refine al_nil ?_
  refine awp_seq ?_
  refine awp_seq (awp_region ?_)
  refine al_call rfl rfl rfl rfl rfl rfl gU gU (awake_spec) rfl ?_
  refine al_pure rfl rfl rfl (pure_not rfl gU) ?_
  refine al_pure rfl rfl rfl (pure_move rfl gU) ?_
  refine al_pure rfl rfl rfl (pure_move rfl gU) ?_
  refine al_pure rfl rfl rfl (pure_lenS rfl (fun hh => hh) (Tryd.underlying9)) ?_
  refine al_pure rfl rfl rfl (pure_cmp rfl rfl (fun hh => hh) gU rfl) ?_
  refine al_pure rfl rfl rfl (pure_or rfl rfl gU (fun _ hi => gP rfl hi)) ?_
  refine al_nil ?_
  refine awp_sub (s := { t := [(0, _, _), (15, _, _)], bx := [], ow := [] }) (sub_mk (⟨sx rfl, ⟨sx rfl, trivial⟩⟩) trivial trivial) ?_
  refine awp_cond rfl (fun hc => ?_) (fun hc => ?_)
  · try simp only [nn, strR_len, Tk.rows_len] at hc
    refine awp_seq (awp_region ?_)
    refine al_call rfl rfl rfl rfl rfl rfl gU gU (awake_spec) rfl ?_
    refine al_pure rfl rfl rfl (pure_assign rfl gU) ?_
    refine al_nil ?_
    refine awp_ret ?_
    repeat (first | refine tR ?_ | refine bR ?_)
    refine ret_ok rfl ?_ trivial
    rfl
  · try simp only [nn, strR_len, Tk.rows_len] at hc
    have hs : s.length ≤ 2000 := by simp at hc; omega
    refine awp_skip ?_
    refine awp_seq (awp_region ?_)
    refine al_pure rfl rfl rfl (pure_move rfl gU) ?_
    refine al_call rfl rfl rfl rfl rfl rfl gU gU (tokens_spec _ (by omega)) rfl ?_
    refine al_pure rfl rfl rfl (pure_move rfl gU) ?_
    refine al_pure rfl rfl rfl (pure_extract rfl gU rfl) ?_
    refine al_pure rfl rfl rfl (pure_extract rfl gU rfl) ?_
    refine al_pure rfl rfl rfl (pure_extract rfl gU rfl) ?_
    refine al_pure rfl rfl rfl (pure_assign rfl gU) ?_
    refine al_pure rfl rfl rfl (pure_assign rfl gU) ?_
    refine al_pure rfl rfl rfl (pure_assign rfl gU) ?_
    refine al_nil ?_
    refine awp_sub (s := { t := [(0, _, _), (3, _, _), (4, _, _), (5, _, _)], bx := [], ow := [] }) (sub_mk (⟨sx rfl, ⟨sx rfl, ⟨sx rfl, ⟨sx rfl, trivial⟩⟩⟩⟩) trivial trivial) ?_
    refine awp_seq (awp_region ?_)
    refine al_pure rfl rfl rfl (pure_move rfl gU) ?_
    refine al_call rfl rfl rfl rfl rfl rfl gU gU (rtokens_spec _ (by omega)) rfl ?_
    refine al_pure rfl rfl rfl (pure_move rfl gU) ?_
    refine al_pure rfl rfl rfl (pure_extract rfl gU rfl) ?_
    refine al_pure rfl rfl rfl (pure_extract rfl gU rfl) ?_
    refine al_pure rfl rfl rfl (pure_extract rfl gU rfl) ?_
    refine al_pure rfl rfl rfl (pure_assign rfl gU) ?_
    refine al_pure rfl rfl rfl (pure_assign rfl gU) ?_
    refine al_pure rfl rfl rfl (pure_assign rfl gU) ?_
    refine al_nil ?_
    refine awp_sub (s := { t := [(3, _, _), (4, _, _), (5, _, _), (6, _, _), (7, _, _), (8, _, _)], bx := [], ow := [] }) (sub_mk (⟨sx rfl, ⟨sx rfl, ⟨sx rfl, ⟨sx rfl, ⟨sx rfl, ⟨sx rfl, trivial⟩⟩⟩⟩⟩⟩) trivial trivial) ?_
    refine awp_seq (awp_region ?_)
    refine al_pure rfl rfl rfl (pure_move rfl gU) ?_
    refine al_pure rfl rfl rfl (pure_move rfl gU) ?_
    refine al_pure rfl rfl rfl (pure_cmp rfl rfl gU gU rfl) ?_
    refine al_pure rfl rfl rfl (pure_move rfl gU) ?_
    refine al_pure rfl rfl rfl (pure_move rfl gU) ?_
    refine al_pure rfl rfl rfl (pure_move rfl gU) ?_
    refine al_pure rfl rfl rfl (pure_cmp rfl rfl (fun hh => hh) (fun hh => hh) rfl) ?_
    refine al_pure rfl rfl rfl (pure_and rfl rfl gU (fun _ hi => gP rfl hi)) ?_
    refine al_pure rfl rfl rfl (pure_move rfl gU) ?_
    refine al_pure rfl rfl rfl (pure_move rfl gU) ?_
    refine al_pure rfl rfl rfl (pure_move rfl gU) ?_
    refine al_call rfl rfl rfl rfl rfl rfl gU (fun hh => gA ((fun hh => hh) hh) (gA ((fun hh => hh) hh) (gA rfl (rfl)))) (rsame_spec _ _ _) rfl ?_
    refine al_sub (s := { t := [(37, _, _), (40, _, _)], bx := [], ow := [] }) (sub_mk (⟨sx rfl, ⟨sx rfl, trivial⟩⟩) trivial trivial) ?_
    refine al_pure rfl rfl rfl (pure_and rfl rfl gU (fun _ hi => gP rfl hi)) ?_
    refine al_pure rfl rfl rfl (pure_assign rfl gU) ?_
    refine al_nil ?_
    refine awp_ret ?_
    repeat (first | refine tR ?_ | refine bR ?_)
    refine ret_ok rfl ?_ trivial
    refine xb_eq ?_
    rw [tok_eq s]
    simp [sameE]
theorem LexerNames_spec (s : List UInt8) : Ctr sys 4 [xs s] [] (xb true) none [] := by
  refine spec_intro Tryd.func4 rfl rfl rfl rfl rfl rfl ?_
  refine awp_seq (awp_region ?_)
  refine al_pure rfl rfl rfl (pure_assign rfl gU) ?_
  refine al_nil ?_
  refine awp_seq ?_
  refine awp_seq (awp_region ?_)
  refine al_call rfl rfl rfl rfl rfl rfl gU gU (awake_spec) rfl ?_
  refine al_pure rfl rfl rfl (pure_not rfl gU) ?_
  refine al_pure rfl rfl rfl (pure_move rfl gU) ?_
  refine al_pure rfl rfl rfl (pure_move rfl gU) ?_
  refine al_pure rfl rfl rfl (pure_lenS rfl (fun hh => hh) (Tryd.underlying9)) ?_
  refine al_pure rfl rfl rfl (pure_cmp rfl rfl (fun hh => hh) gU rfl) ?_
  refine al_pure rfl rfl rfl (pure_or rfl rfl gU (fun _ hi => gP rfl hi)) ?_
  refine al_nil ?_
  refine awp_sub (s := { t := [(0, _, _), (9, _, _)], bx := [], ow := [] }) (sub_mk (⟨sx rfl, ⟨sx rfl, trivial⟩⟩) trivial trivial) ?_
  refine awp_cond rfl (fun hc => ?_) (fun hc => ?_)
  · try simp only [nn, strR_len, Tk.rows_len] at hc
    refine awp_seq (awp_region ?_)
    refine al_call rfl rfl rfl rfl rfl rfl gU gU (awake_spec) rfl ?_
    refine al_pure rfl rfl rfl (pure_assign rfl gU) ?_
    refine al_nil ?_
    refine awp_ret ?_
    repeat (first | refine tR ?_ | refine bR ?_)
    refine ret_ok rfl ?_ trivial
    rfl
  · try simp only [nn, strR_len, Tk.rows_len] at hc
    have hs : s.length ≤ 100 := by simp at hc; omega
    refine awp_skip ?_
    refine awp_seq (awp_region ?_)
    refine al_pure rfl rfl rfl (pure_move rfl gU) ?_
    refine al_call rfl rfl rfl rfl rfl rfl gU gU (lisName_spec _ (by omega)) rfl ?_
    refine al_pure rfl rfl rfl (pure_move rfl gU) ?_
    refine al_call rfl rfl rfl rfl rfl rfl gU gU (risName_spec _ (by omega)) rfl ?_
    refine al_pure rfl rfl rfl (pure_eqBool rfl rfl gU gU (Tryd.underlying4)) ?_
    refine al_pure rfl rfl rfl (pure_assign rfl gU) ?_
    refine al_nil ?_
    refine awp_ret ?_
    repeat (first | refine tR ?_ | refine bR ?_)
    refine ret_ok rfl ?_ trivial
    refine xb_eq ?_
    rw [names_eq s (by omega)]
    simp
theorem LexerQuote_spec (s : List UInt8) : Ctr sys 6 [xs s] [] (xb true) none [] := by
  refine spec_intro Tryd.func6 rfl rfl rfl rfl rfl rfl ?_
  refine awp_seq (awp_region ?_)
  refine al_pure rfl rfl rfl (pure_assign rfl gU) ?_
  refine al_nil ?_
  refine awp_seq ?_
  refine awp_seq (awp_region ?_)
  refine al_call rfl rfl rfl rfl rfl rfl gU gU (awake_spec) rfl ?_
  refine al_pure rfl rfl rfl (pure_not rfl gU) ?_
  refine al_pure rfl rfl rfl (pure_move rfl gU) ?_
  refine al_pure rfl rfl rfl (pure_move rfl gU) ?_
  refine al_pure rfl rfl rfl (pure_lenS rfl (fun hh => hh) (Tryd.underlying9)) ?_
  refine al_pure rfl rfl rfl (pure_cmp rfl rfl (fun hh => hh) gU rfl) ?_
  refine al_pure rfl rfl rfl (pure_or rfl rfl gU (fun _ hi => gP rfl hi)) ?_
  refine al_nil ?_
  refine awp_sub (s := { t := [(0, _, _), (12, _, _)], bx := [], ow := [] }) (sub_mk (⟨sx rfl, ⟨sx rfl, trivial⟩⟩) trivial trivial) ?_
  refine awp_cond rfl (fun hc => ?_) (fun hc => ?_)
  · try simp only [nn, strR_len, Tk.rows_len] at hc
    refine awp_seq (awp_region ?_)
    refine al_call rfl rfl rfl rfl rfl rfl gU gU (awake_spec) rfl ?_
    refine al_pure rfl rfl rfl (pure_assign rfl gU) ?_
    refine al_nil ?_
    refine awp_ret ?_
    repeat (first | refine tR ?_ | refine bR ?_)
    refine ret_ok rfl ?_ trivial
    rfl
  · try simp only [nn, strR_len, Tk.rows_len] at hc
    have hs : s.length ≤ 400 := by simp at hc; omega
    have hq := quoB_len s
    have hq2 := quoE_len s
    refine awp_skip ?_
    refine awp_seq (awp_region ?_)
    refine al_pure rfl rfl rfl (pure_move rfl gU) ?_
    refine al_call rfl rfl rfl rfl rfl rfl gU gU (lquote_spec _ (by omega)) rfl ?_
    refine al_pure rfl rfl rfl (pure_assign rfl gU) ?_
    refine al_nil ?_
    refine awp_seq (awp_region ?_)
    refine al_pure rfl rfl rfl (pure_move rfl gU) ?_
    refine al_call rfl rfl rfl rfl rfl rfl gU gU (lunq_spec _ (by omega)) rfl ?_
    refine al_pure rfl rfl rfl (pure_move rfl gU) ?_
    refine al_pure rfl rfl rfl (pure_extract rfl gU rfl) ?_
    refine al_pure rfl rfl rfl (pure_extract rfl gU rfl) ?_
    refine al_pure rfl rfl rfl (pure_assign rfl gU) ?_
    refine al_pure rfl rfl rfl (pure_assign rfl gU) ?_
    refine al_nil ?_
    refine awp_sub (s := { t := [(0, _, _), (3, _, _), (4, _, _), (5, _, _)], bx := [], ow := [] }) (sub_mk (⟨sx rfl, ⟨sx rfl, ⟨sx rfl, ⟨sx rfl, trivial⟩⟩⟩⟩) trivial trivial) ?_
    refine awp_seq (awp_region ?_)
    refine al_pure rfl rfl rfl (pure_move rfl gU) ?_
    refine al_pure rfl rfl rfl (pure_move rfl gU) ?_
    refine al_call rfl rfl rfl rfl rfl rfl gU gU (rquote_spec _ (by omega)) rfl ?_
    refine al_pure rfl rfl rfl (pure_cmpS rfl rfl gU gU rfl) ?_
    refine al_pure rfl rfl rfl (pure_move rfl gU) ?_
    refine al_pure rfl rfl rfl (pure_move rfl gU) ?_
    refine al_pure rfl rfl rfl (pure_move rfl gU) ?_
    refine al_pure rfl rfl rfl (pure_cmpS rfl rfl (fun hh => hh) (fun hh => hh) rfl) ?_
    refine al_pure rfl rfl rfl (pure_and rfl rfl gU (fun _ hi => gP rfl hi)) ?_
    refine al_pure rfl rfl rfl (pure_move rfl gU) ?_
    refine al_pure rfl rfl rfl (pure_move rfl gU) ?_
    refine al_pure rfl rfl rfl (pure_cmp rfl rfl (fun hh => hh) gU rfl) ?_
    refine al_sub (s := { t := [(30, _, _), (32, _, _)], bx := [], ow := [] }) (sub_mk (⟨sx rfl, ⟨sx rfl, trivial⟩⟩) trivial trivial) ?_
    refine al_pure rfl rfl rfl (pure_and rfl rfl gU (fun _ hi => gP rfl hi)) ?_
    refine al_pure rfl rfl rfl (pure_assign rfl gU) ?_
    refine al_nil ?_
    refine awp_ret ?_
    repeat (first | refine tR ?_ | refine bR ?_)
    refine ret_ok rfl ?_ trivial
    refine xb_eq ?_
    rw [unq_quo s]
    simp
theorem LexerUnquote_spec (s : List UInt8) : Ctr sys 7 [xs s] [] (xb true) none [] := by
  refine spec_intro Tryd.func7 rfl rfl rfl rfl rfl rfl ?_
  refine awp_seq (awp_region ?_)
  refine al_pure rfl rfl rfl (pure_assign rfl gU) ?_
  refine al_nil ?_
  refine awp_seq ?_
  refine awp_seq (awp_region ?_)
  refine al_call rfl rfl rfl rfl rfl rfl gU gU (awake_spec) rfl ?_
  refine al_pure rfl rfl rfl (pure_not rfl gU) ?_
  refine al_pure rfl rfl rfl (pure_move rfl gU) ?_
  refine al_pure rfl rfl rfl (pure_move rfl gU) ?_
  refine al_pure rfl rfl rfl (pure_lenS rfl (fun hh => hh) (Tryd.underlying9)) ?_
  refine al_pure rfl rfl rfl (pure_cmp rfl rfl (fun hh => hh) gU rfl) ?_
  refine al_pure rfl rfl rfl (pure_or rfl rfl gU (fun _ hi => gP rfl hi)) ?_
  refine al_nil ?_
  refine awp_sub (s := { t := [(0, _, _), (13, _, _)], bx := [], ow := [] }) (sub_mk (⟨sx rfl, ⟨sx rfl, trivial⟩⟩) trivial trivial) ?_
  refine awp_cond rfl (fun hc => ?_) (fun hc => ?_)
  · try simp only [nn, strR_len, Tk.rows_len] at hc
    refine awp_seq (awp_region ?_)
    refine al_call rfl rfl rfl rfl rfl rfl gU gU (awake_spec) rfl ?_
    refine al_pure rfl rfl rfl (pure_assign rfl gU) ?_
    refine al_nil ?_
    refine awp_ret ?_
    repeat (first | refine tR ?_ | refine bR ?_)
    refine ret_ok rfl ?_ trivial
    rfl
  · try simp only [nn, strR_len, Tk.rows_len] at hc
    have hs : s.length ≤ 400 := by simp at hc; omega
    refine awp_skip ?_
    refine awp_seq (awp_region ?_)
    refine al_pure rfl rfl rfl (pure_move rfl gU) ?_
    refine al_call rfl rfl rfl rfl rfl rfl gU gU (lunq_spec _ (by omega)) rfl ?_
    refine al_pure rfl rfl rfl (pure_move rfl gU) ?_
    refine al_pure rfl rfl rfl (pure_extract rfl gU rfl) ?_
    refine al_pure rfl rfl rfl (pure_extract rfl gU rfl) ?_
    refine al_pure rfl rfl rfl (pure_assign rfl gU) ?_
    refine al_pure rfl rfl rfl (pure_assign rfl gU) ?_
    refine al_nil ?_
    refine awp_sub (s := { t := [(0, _, _), (3, _, _), (4, _, _)], bx := [], ow := [] }) (sub_mk (⟨sx rfl, ⟨sx rfl, ⟨sx rfl, trivial⟩⟩⟩) trivial trivial) ?_
    refine awp_seq (awp_region ?_)
    refine al_pure rfl rfl rfl (pure_move rfl gU) ?_
    refine al_call rfl rfl rfl rfl rfl rfl gU gU (runq_spec _ (by omega)) rfl ?_
    refine al_pure rfl rfl rfl (pure_move rfl gU) ?_
    refine al_pure rfl rfl rfl (pure_extract rfl gU rfl) ?_
    refine al_pure rfl rfl rfl (pure_extract rfl gU rfl) ?_
    refine al_pure rfl rfl rfl (pure_assign rfl gU) ?_
    refine al_pure rfl rfl rfl (pure_assign rfl gU) ?_
    refine al_nil ?_
    refine awp_sub (s := { t := [(3, _, _), (4, _, _), (5, _, _), (6, _, _)], bx := [], ow := [] }) (sub_mk (⟨sx rfl, ⟨sx rfl, ⟨sx rfl, ⟨sx rfl, trivial⟩⟩⟩⟩) trivial trivial) ?_
    refine awp_seq (awp_region ?_)
    refine al_pure rfl rfl rfl (pure_move rfl gU) ?_
    refine al_pure rfl rfl rfl (pure_move rfl gU) ?_
    refine al_pure rfl rfl rfl (pure_cmpS rfl rfl gU gU rfl) ?_
    refine al_pure rfl rfl rfl (pure_move rfl gU) ?_
    refine al_pure rfl rfl rfl (pure_move rfl gU) ?_
    refine al_pure rfl rfl rfl (pure_move rfl gU) ?_
    refine al_pure rfl rfl rfl (pure_cmp rfl rfl (fun hh => hh) (fun hh => hh) rfl) ?_
    refine al_pure rfl rfl rfl (pure_and rfl rfl gU (fun _ hi => gP rfl hi)) ?_
    refine al_pure rfl rfl rfl (pure_assign rfl gU) ?_
    refine al_nil ?_
    refine awp_ret ?_
    repeat (first | refine tR ?_ | refine bR ?_)
    refine ret_ok rfl ?_ trivial
    refine xb_eq ?_
    simp
theorem joinNL_len (L : List (List UInt8)) (N : Nat) (h : ∀ x ∈ L, x.length ≤ N) : (joinNL L).length ≤ (N + 1) * L.length := by
  induction L with
  | nil => simp [joinNL]
  | cons x L ih =>
    have h1 := h x (by simp)
    have h2 := ih fun y hy => h y (by simp [hy])
    have e : joinNL (x :: L) = x ++ [10] ++ joinNL L := rfl
    rw [e]
    simp only [List.length_append, List.length_cons, List.length_nil, Nat.mul_succ]
    omega
theorem joinNL_snoc (L : List (List UInt8)) (x : List UInt8) : joinNL (L ++ [x]) = joinNL L ++ x ++ [10] := by simp [joinNL]
theorem lns_eq (s : List UInt8) : lnsP s = lnsR s := by
  rw [lnsR_fin, fin_last _ (spl_ne s)]; rfl
theorem LexerLines_spec (s : List UInt8) : Ctr sys 5 [xs s] [] (xb true) none [] := by
  refine spec_intro Tryd.func5 rfl rfl rfl rfl rfl rfl ?_
  refine awp_seq (awp_region ?_)
  refine al_pure rfl rfl rfl (pure_assign rfl gU) ?_
  refine al_nil ?_
  refine awp_seq ?_
  refine awp_seq (awp_region ?_)
  refine al_call rfl rfl rfl rfl rfl rfl gU gU (awake_spec) rfl ?_
  refine al_pure rfl rfl rfl (pure_not rfl gU) ?_
  refine al_pure rfl rfl rfl (pure_move rfl gU) ?_
  refine al_pure rfl rfl rfl (pure_move rfl gU) ?_
  refine al_pure rfl rfl rfl (pure_lenS rfl (fun hh => hh) (Tryd.underlying9)) ?_
  refine al_pure rfl rfl rfl (pure_cmp rfl rfl (fun hh => hh) gU rfl) ?_
  refine al_pure rfl rfl rfl (pure_or rfl rfl gU (fun _ hi => gP rfl hi)) ?_
  refine al_nil ?_
  refine awp_sub (s := { t := [(0, _, _), (13, _, _)], bx := [], ow := [] }) (sub_mk (⟨sx rfl, ⟨sx rfl, trivial⟩⟩) trivial trivial) ?_
  refine awp_cond rfl (fun hc => ?_) (fun hc => ?_)
  · try simp only [nn, strR_len, Tk.rows_len] at hc
    refine awp_seq (awp_region ?_)
    refine al_call rfl rfl rfl rfl rfl rfl gU gU (awake_spec) rfl ?_
    refine al_pure rfl rfl rfl (pure_assign rfl gU) ?_
    refine al_nil ?_
    refine awp_ret ?_
    repeat (first | refine tR ?_ | refine bR ?_)
    refine ret_ok rfl ?_ trivial
    rfl
  · try simp only [nn, strR_len, Tk.rows_len] at hc
    have hs : s.length ≤ 2000 := by simp at hc; omega
    have hj : ∀ k, (joinNL ((lnsP s).take k)).length ≤ 2001 * 2001 := by
      intro k
      rw [lns_eq]
      have h1 := joinNL_len ((lnsR s).take k) 2000 fun x hx => by
        have := lnsA_mem s [] [] s.length (by simp) (by simp) x (List.mem_of_mem_take hx)
        omega
      have h2 := lnsR_len s
      rw [List.length_take] at h1
      have h3 : 2001 * (min k (lnsR s).length) ≤ 2001 * 2001 := Nat.mul_le_mul_left _ (by omega)
      omega
    have hl := strR_len (lnsP s)
    refine awp_skip ?_
    refine awp_seq (awp_region ?_)
    refine al_pure rfl rfl rfl (pure_move rfl gU) ?_
    refine al_call rfl rfl rfl rfl rfl rfl gU gU (llines_spec _ (by omega)) rfl ?_
    refine al_pure rfl rfl rfl (pure_assign rfl gU) ?_
    refine al_nil ?_
    refine awp_seq (awp_region ?_)
    refine al_pure rfl rfl rfl (pure_assign rfl gU) ?_
    refine al_nil ?_
    refine awp_seq ?_
    refine awp_seq (awp_region ?_)
    refine al_pure rfl rfl rfl (pure_move rfl gU) ?_
    refine al_lenSl rfl rfl rfl rfl rfl gU rfl rfl ?_ (fun hh => by simp at hh); intro hlen
    refine al_pure rfl rfl rfl (pure_move rfl gU) ?_
    refine al_nil ?_
    refine awp_sub (s := { t := [(0, _, _), (3, _, _), (4, _, _), (17, _, _), (18, _, _), (19, _, _)], bx := [], ow := [] }) (sub_mk (⟨sx rfl, ⟨sx rfl, ⟨sx rfl, ⟨sx rfl, ⟨sx rfl, ⟨sx rfl, trivial⟩⟩⟩⟩⟩⟩) trivial trivial) ?_
    refine awp_block ?_
    refine awp_for (ι := Nat) { t := [(0, _, _), (3, _, _), (17, _, _), (18, _, _)], bx := [], ow := [] } (fun k => [(19, true, xi (k : Int)), (4, true, xs (joinNL ((lnsP s).take k)))]) (fun k => []) (fun k => k ≤ (lnsP s).length) (fun k => (lnsP s).length - k) (0) (by simp) (sub_mk (⟨sx rfl, ⟨sx rfl, ⟨sx rfl, ⟨sx rfl, ⟨sx rfl, ⟨sx rfl, trivial⟩⟩⟩⟩⟩⟩) trivial trivial) ?_
    intro k hok
    dsimp only [List.cons_append, List.nil_append]
    have hjk := hj k
    refine awp_seq (awp_region ?_)
    refine al_pure rfl rfl rfl (pure_cmp rfl rfl gU gU rfl) ?_
    refine al_nil ?_
    refine awp_seq ?_
    refine awp_cond rfl (fun hc2 => ?_) (fun hc2 => ?_)
    · try simp only [nn, strR_len, Tk.rows_len] at hc2
      have hg : ((lnsP s).getD k []).length ≤ 2000 := by
        rw [lns_eq]
        have := lnsR_get s k
        omega
      have hT : joinNL ((lnsP s).take (k + 1)) = joinNL ((lnsP s).take k) ++ ((lnsP s).getD k [] ++ [10]) := by
        rw [take_getD (d := []) (by omega), joinNL_snoc, List.append_assoc]
      refine awp_skip ?_
      refine awp_seq ?_
      refine awp_block ?_
      refine awp_seq (awp_region ?_)
      refine al_pure rfl rfl rfl (pure_indexAddr rfl rfl gU gU rfl rfl rfl (fun hh => strR_at (by first | omega | (simp at hh ⊢; omega)))) ?_
      refine al_pure rfl rfl rfl (pure_loadRo rfl gU rfl rfl rfl) ?_
      refine al_pure rfl rfl rfl (pure_assign rfl gU) ?_
      refine al_nil ?_
      refine awp_region ?_
      refine al_pure rfl rfl rfl (pure_move rfl gU) ?_
      refine al_pure rfl rfl rfl (pure_move rfl gU) ?_
      refine al_pure rfl rfl rfl (pure_concat rfl rfl gU gU (by first | (simp only [List.length_append, List.length_cons, List.length_nil]; omega) | (show _ + 1 ≤ _; omega) | (simp only [List.length_append]; show _ + (_ + 1) ≤ _; omega))) ?_
      refine al_pure rfl rfl rfl (pure_concat rfl rfl gU gU (by first | (simp only [List.length_append, List.length_cons, List.length_nil]; omega) | (show _ + 1 ≤ _; omega) | (simp only [List.length_append]; show _ + (_ + 1) ≤ _; omega))) ?_
      refine al_pure rfl rfl rfl (pure_assign rfl gU) ?_
      refine al_nil ?_
      refine awp_sub (s := { t := [(0, _, _), (3, _, _), (4, _, _), (17, _, _), (18, _, _), (19, _, _)], bx := [], ow := [] }) (sub_mk (⟨sx rfl, ⟨sx rfl, ⟨sx rfl, ⟨sx rfl, ⟨sx rfl, ⟨sx rfl, trivial⟩⟩⟩⟩⟩⟩) trivial trivial) ?_
      refine awp_region ?_
      refine al_pure rfl rfl rfl (pure_arith rfl rfl gU gU rfl (IntWalk.i64_in _ (by omega))) ?_
      refine al_pure rfl rfl rfl (pure_move rfl gU) ?_
      refine al_nil ?_
      refine ⟨k + 1, ?_, ?_, sub_mk (⟨⟨_, rfl, ?_⟩, ⟨⟨_, rfl, ?_⟩, ⟨sx rfl, ⟨sx rfl, ⟨sx rfl, ⟨sx rfl, trivial⟩⟩⟩⟩⟩⟩) trivial trivial⟩
      all_goals (first | rfl | omega | exact tx (congrArg xs (by rw [hT])))
    · try simp only [nn, strR_len, Tk.rows_len] at hc2
      have hk : k = (lnsP s).length := by omega
      rw [hk, List.take_length, lns_eq]
      refine awp_exit ?_
      repeat (first | refine thenS_exit ?_ | refine blockS_hit ?_ | refine blockS_miss rfl ?_)
      refine awp_seq (awp_region ?_)
      refine al_pure rfl rfl rfl (pure_move rfl gU) ?_
      refine al_pure rfl rfl rfl (pure_move rfl gU) ?_
      refine al_call rfl rfl rfl rfl rfl rfl gU gU (rlines_spec _ (by omega)) rfl ?_
      refine al_call rfl rfl rfl rfl rfl rfl gU gU (rstrings_spec _ _) rfl ?_
      refine al_pure rfl rfl rfl (pure_move rfl gU) ?_
      refine al_pure rfl rfl rfl (pure_move rfl gU) ?_
      refine al_pure rfl rfl rfl (pure_move rfl gU) ?_
      refine al_pure rfl rfl rfl (pure_cmpS rfl rfl (fun hh => hh) (fun hh => hh) rfl) ?_
      refine al_pure rfl rfl rfl (pure_move rfl (fun hh => hh)) ?_
      refine al_pure rfl rfl rfl (pure_move rfl gU) ?_
      refine al_pure rfl rfl rfl (pure_move rfl gU) ?_
      refine al_sub (s := { t := [(32, _, _), (36, _, _), (37, _, _), (38, _, _)], bx := [], ow := [] }) (sub_mk (⟨sx rfl, ⟨sx rfl, ⟨sx rfl, ⟨sx rfl, trivial⟩⟩⟩⟩) trivial trivial) ?_
      refine al_pure rfl rfl rfl (pure_concat rfl rfl (fun hh => hh) gU (by first | (simp only [List.length_append, List.length_cons, List.length_nil]; omega) | (show _ + 1 ≤ _; omega) | (simp only [List.length_append]; show _ + (_ + 1) ≤ _; omega))) ?_
      refine al_pure rfl rfl rfl (pure_cmpS rfl rfl (fun hh => hh) (fun hh => hh) rfl) ?_
      refine al_pure rfl rfl rfl (pure_or rfl rfl (fun hh => hh) (fun hh hi => gP hh hi)) ?_
      refine al_pure rfl rfl rfl (pure_and rfl rfl gU (fun _ hi => gP rfl hi)) ?_
      refine al_pure rfl rfl rfl (pure_assign rfl gU) ?_
      refine al_nil ?_
      refine awp_ret ?_
      repeat (first | refine tR ?_ | refine bR ?_)
      refine ret_ok rfl ?_ trivial
      refine xb_eq ?_
      rcases lnsR_join s with q | q
      · rw [q]; simp [strsE]
      · rw [q]; simp [strsE]
end Go.Proofs.YtiiboiomiacibaaDoor
/- Contracts: the texts of tokens, on both sides; where the table of powers of ten is known. -/
set_option linter.unusedVariables false
set_option linter.unusedSimpArgs false
namespace Go.Proofs.YtiiboiomiacibaaDoor
open Go Go.Abs
open Go.RowKit (Below)
noncomputable def sysW : Pg := { P := Tryd.prog, T := tab, ok := tab_ok, mix := mix_ok, gv := [(1, intAt), (0, rowIs (Lib.pow10Tab.map fun z => Value.int .u64 z).toArray)] }
theorem hsub : ∀ g ∈ sys.gv, g ∈ sysW.gv := by
  intro g hg
  have hg : g ∈ ([(1, intAt)] : List (Nat × (Option Obj → Prop))) := hg
  obtain rfl : g = (1, intAt) := by simpa using hg
  exact List.mem_cons_self ..
theorem dec_len : ∀ (k u : Nat), u < 10 ^ (k + 1) → (Lib.decDigits u).length ≤ k + 1
  | 0, u, h => by rw [Lib.decDigits, dif_pos (by simpa using h)]; simp
  | k + 1, u, h => by
    rw [Lib.decDigits]
    split
    · simp
    · have := dec_len k (u / 10) (by rw [Nat.pow_succ] at h; omega)
      simp only [List.length_append, List.length_singleton]
      omega
theorem dec_len19 {n : Int} (h0 : 0 ≤ n) (h1 : n ≤ 9223372036854775807) : (Lib.decDigits n.toNat).length ≤ 20 := dec_len 19 n.toNat (by omega)
theorem grow_below (w : World) (k : Nat) (os : Array Obj) : Below w.heap.size w (Sort.grow (w.drewN k) os) :=
  ⟨rfl, rfl, rfl, by show w.heap.size ≤ (w.heap ++ os).size; rw [Array.size_append]; omega, fun i hi => by show (w.heap ++ os)[i]? = _; rw [Array.getElem?_append_left hi]⟩
theorem formatInt_spec (n : Int) (h0 : 0 ≤ n) (h1 : n ≤ 9223372036854775807) : Ctr sysW 44 [xi n, xi 10] [] (xs (Lib.decDigits n.toNat)) none [] := by
  have hl := dec_len19 h0 h1
  refine ctr_below (v := .string ⟨(Lib.decDigits n.toNat).toArray⟩) ⟨_, Tryd.func44, by kernel_rfl, by kernel_rfl⟩ (fun w G vs hv hwf hgl => ?_) (fun w G => CRep.s _ (by omega))
  obtain ⟨t, s, hb⟩ := (hgl (0, rowIs (Lib.pow10Tab.map fun z => Value.int .u64 z).toArray) (by simp [sysW])).2.1
  have htab : Lib.TabIs Tryd.prog w "internal/strconv.uint64pow10" .u64 Lib.pow10Tab := by
    unfold Lib.TabIs World.var?
    rw [show Tryd.prog.globalNamed "internal/strconv.uint64pow10" = some 0 by kernel_rfl]
    show (match w.heap[0]? with | some (.cells cs _ _) => some cs | _ => none) = _
    rw [hb]
  have := Any.strconv_FormatInt_10 laysM173 n (by omega) h1 w htab
  match vs, hv with
  | [u, v], ⟨e1, e2, _⟩ =>
    rw [XRep.int e1, XRep.int e2]
    refine this.mono ?_
    rintro e w' ⟨he, k, os, hw⟩
    subst hw
    refine ⟨?_, grow_below w k os⟩
    rw [he, Lib.itoa, if_neg (by omega)]
theorem back_map : ∀ (L : List (List UInt8)), (L.map fun s : List UInt8 => (⟨s.toArray⟩ : ByteArray)).map (·.data.toList) = L
  | [] => rfl
  | s :: L => by rw [List.map_cons, List.map_cons, back_map L]
theorem join_spec (L : List (List UInt8)) (hL : L.length ≤ 1000000) (hj : (Lib.join L [32]).length ≤ 140737488355328) : Ctr sysW 45 [xss L, xs [32]] [] (xs (Lib.join L [32])) none [] := by
  refine ctr_below (v := .string ⟨(Lib.join L [32]).toArray⟩) ⟨_, Tryd.func45, by kernel_rfl, by kernel_rfl⟩ (fun w G vs hv hwf hgl => ?_) (fun w G => CRep.s _ (by omega))
  match vs, hv with
  | [u, v], ⟨h1, h2, _⟩ =>
    rw [XRep.str h2]
    have h1 : CRep w G.S (.sl 1 (strR L)) u := h1
    have hnone : ∀ (a : Option Addr) (c : Nat), L = [] → Calls Tryd.prog 45 #[.slice a 0 c, .string ⟨#[32]⟩] w fun e w' => e = .returned (.string ⟨(Lib.join L [32]).toArray⟩) ∧ Below w.heap.size w w' := by
      intro a c hnil
      subst hnil
      refine (Any.strings_Join_none lays156 builderExtra156 a c ⟨#[32]⟩ w).mono ?_
      rintro e w' ⟨he, hw⟩
      subst hw
      exact ⟨he, Below.refl _ _⟩
    generalize hes : strR L = es at h1
    cases h1 with
    | emp sz a => exact hnone a 0 (by simpa [strR] using hes)
    | sl sz es blk off len cap vals hl hc hm hsz hcell hrep =>
      by_cases hnil : L = []
      · have : len = 0 := by rw [← hl, ← hes, hnil]; rfl
        subst this
        exact hnone _ cap hnil
      · have hlen : len = L.length := by rw [← hl, ← hes, strR_len]
        subst hlen
        have hpos : 0 < L.length := List.length_pos_iff.2 hnil
        have hx : (L.map fun s : List UInt8 => (⟨s.toArray⟩ : ByteArray)).map (·.data.toList) = L := back_map L
        have key := Any.strings_Join lays156 builderExtra156 blk off cap (L.map fun s : List UInt8 => (⟨s.toArray⟩ : ByteArray)) ⟨#[32]⟩ w (fun j x hj => by
            rw [List.getElem?_map, Option.map_eq_some_iff] at hj
            obtain ⟨s, hs, rfl⟩ := hj
            have hjl := (List.getElem?_eq_some_iff.1 hs).1
            obtain ⟨_, h5⟩ := hcell j 0 (by omega) (by omega)
            have hrow : es[j]? = some [.s s] := by rw [← hes, strR, List.getElem?_map, hs]; rfl
            have h6 := hrep j _ 0 (.s s) hrow rfl
            have h7 : vals j 0 = .string ⟨s.toArray⟩ := XRep.str (G := G) (w := w) h6
            rw [show off + j = off + j * 1 + 0 by omega, h5, h7]) (by
            obtain ⟨_, h5⟩ := hcell 0 0 (by omega) (by omega)
            exact World.block_lt_of_cell? (a := ⟨blk, off + 0 * 1 + 0, none⟩) w h5) (by rw [List.length_map]; omega) (by rw [List.length_map]; omega) (by rw [hx]; exact hj)
        rw [hx, List.length_map] at key
        exact key
/-- Digits, as the reference writes them. -/
theorem dig1I : ∀ n : Fin 10, (([48, 49, 50, 51, 52, 53, 54, 55, 56, 57] : List UInt8).take (n.val + 1)).drop n.val = [UInt8.ofNat (48 + n.val)] := by decide +kernel
theorem rdig_spec (u : Nat) : u ≤ 9223372036854775807 → ∀ n : Int, n = u → Ctr sysW 46 [xi n] [] (xs (Lib.decDigits u)) none [] := by
  induction u using Nat.strongRecOn with
  | ind u ih =>
    intro hu n hn
    subst hn
    refine spec_intro Tryd.func46 rfl rfl rfl rfl rfl rfl ?_
    refine awp_seq (awp_region ?_)
    refine al_pure rfl rfl rfl (pure_assign rfl gU) ?_
    refine al_nil ?_
    refine awp_seq ?_
    refine awp_seq (awp_region ?_)
    refine al_pure rfl rfl rfl (pure_move rfl gU) ?_
    refine al_pure rfl rfl rfl (pure_cmp rfl rfl gU gU rfl) ?_
    refine al_nil ?_
    refine awp_cond rfl (fun hc => ?_) (fun hc => ?_)
    · try simp only [nn] at hc
      have e := dig1I ⟨u, by omega⟩
      refine awp_seq (awp_region ?_)
      refine al_pure rfl rfl rfl (pure_move rfl gU) ?_
      refine al_pure rfl rfl rfl (pure_move rfl gU) ?_
      refine al_pure rfl rfl rfl (pure_arith rfl rfl gU gU rfl (IntWalk.i64_in _ (by omega))) ?_
      refine al_pure rfl rfl rfl (pure_sliceS (l := u) (h' := (u + 1)) rfl gU Tryd.underlying9 (fun _ => ⟨_, _, _, rfl, gU, by first | omega | (show _ ≤ 10; omega) | (simp at hh ⊢; omega)⟩) (fun _ => ⟨_, _, _, rfl, gU, by first | omega | (show _ ≤ 10; omega) | (simp at hh ⊢; omega)⟩) (fun hh => by first | omega | (show _ ≤ 10; omega) | (simp at hh ⊢; omega)) (fun hh => by first | omega | (show _ ≤ 10; omega) | (simp at hh ⊢; omega))) ?_
      refine al_pure rfl rfl rfl (pure_assign rfl gU) ?_
      refine al_nil ?_
      refine awp_ret ?_
      repeat (first | refine tR ?_ | refine bR ?_)
      refine ret_ok rfl ?_ trivial
      (rw [Lib.decDigits, dif_pos (by omega)]; exact congrArg xs e)
    · try simp only [nn] at hc
      have h1 := ih (u / 10) (by omega) (by omega) ((u : Int) / 10) (by omega)
      have h2 := ih (u % 10) (by omega) (by omega) ((u : Int) % 10) (by omega)
      have l1 := dec_len 19 (u / 10) (by omega)
      have l2 := dec_len 19 (u % 10) (by omega)
      refine awp_skip ?_
      refine awp_seq (awp_region ?_)
      refine al_pure rfl rfl rfl (pure_move rfl gU) ?_
      refine al_pure rfl rfl rfl (pure_quoG rfl rfl gU gU (fun hh => by first | omega | (show _ ≤ 10; omega) | (simp at hh ⊢; omega)) (fun hh => (congrArg IntKind.i64.wrap (Int.tdiv_eq_ediv_of_nonneg (by first | omega | (show _ ≤ 10; omega) | (simp at hh ⊢; omega)))).trans (IntWalk.i64_in _ (by omega)))) ?_
      refine al_call rfl rfl rfl rfl rfl rfl gU gU (h1) rfl ?_
      refine al_pure rfl rfl rfl (pure_move rfl gU) ?_
      refine al_pure rfl rfl rfl (pure_remG rfl rfl gU gU (fun hh => by first | omega | (show _ ≤ 10; omega) | (simp at hh ⊢; omega)) (fun hh => Int.tmod_eq_emod_of_nonneg (by first | omega | (show _ ≤ 10; omega) | (simp at hh ⊢; omega)))) ?_
      refine al_call rfl rfl rfl rfl rfl rfl gU gU (h2) rfl ?_
      refine al_pure rfl rfl rfl (pure_concat rfl rfl gU gU (by first | omega | (simp only [List.length_append]; omega))) ?_
      refine al_pure rfl rfl rfl (pure_assign rfl gU) ?_
      refine al_nil ?_
      refine awp_ret ?_
      repeat (first | refine tR ?_ | refine bR ?_)
      refine ret_ok rfl ?_ trivial
      rw [show Lib.decDigits u = Lib.decDigits (u / 10) ++ [UInt8.ofNat (48 + u % 10)] by rw [Lib.decDigits, dif_neg (by omega)], show Lib.decDigits (u % 10) = [UInt8.ofNat (48 + u % 10)] by rw [Lib.decDigits, dif_pos (by omega)]]
      rfl
structure TkS (t : Tk) : Prop where
  i : t.int ≤ 9223372036854775807
  s : t.str.length ≤ 100000
  x : t.text.length ≤ 1000000
theorem wordE_len {t : Tk} (h : TkS t) : (wordE t).length ≤ 1000000 := by
  obtain ⟨h1, h2, h3⟩ := h
  have := quoB_len t.str
  have := quoE_len t.str
  unfold wordE
  split
  · omega
  split
  · omega
  split
  · rename_i q; have := dec_len19 q.2 h1; omega
  · simp
theorem lword_spec (t : Tk) (h : TkS t) : Ctr sysW 24 [xt t] [] (xs (wordE t)) none [] := by
  obtain ⟨h1, h2, h3⟩ := h
  refine spec_intro Tryd.func24 rfl rfl rfl rfl rfl rfl ?_
  refine awp_seq (awp_region ?_)
  refine al_do rfl (does_box rfl rfl rfl rfl) ?_
  refine al_pure rfl rfl rfl (pure_assign rfl gU) ?_
  refine al_nil ?_
  refine awp_seq ?_
  refine awp_seq (awp_region ?_)
  refine al_pure rfl rfl rfl (pure_fieldPtr rfl gU rfl rfl) ?_
  refine al_pure rfl rfl rfl (pure_loadBox rfl gU rfl rfl rfl rfl) ?_
  refine al_nil ?_
  refine awp_block ?_
  refine awp_seq ?_
  refine awp_seq (awp_region ?_)
  refine al_pure rfl rfl rfl (pure_cmp rfl rfl gU gU rfl) ?_
  refine al_pure rfl rfl rfl (pure_assign rfl gU) ?_
  refine al_nil ?_
  refine awp_sub (s := { t := [(1, _, _), (4, _, _), (5, _, _)], bx := [((.l 1), _)], ow := [] }) (sub_mk (⟨sx rfl, ⟨sx rfl, ⟨sx rfl, trivial⟩⟩⟩) (⟨sx rfl, trivial⟩) trivial) ?_
  refine awp_cond rfl (fun hc => ?_) (fun hc => ?_)
  · try simp only [nn] at hc
    rw [wordE, if_pos (.inl hc)]
    refine awp_skip ?_
    refine awp_cond rfl (fun hc2 => ?_) (fun hc2 => ?_)
    · refine awp_seq (awp_region ?_)
      refine al_pure rfl rfl rfl (pure_fieldPtr rfl gU rfl rfl) ?_
      refine al_pure rfl rfl rfl (pure_loadBox rfl gU rfl rfl rfl rfl) ?_
      refine al_pure rfl rfl rfl (pure_assign rfl gU) ?_
      refine al_nil ?_
      refine awp_ret ?_
      repeat (first | refine tR ?_ | refine bR ?_)
      refine ret_ok rfl ?_ trivial
      rfl
    · try simp only [nn] at hc2
      exact absurd hc hc2
  · try simp only [nn] at hc
    refine awp_region ?_
    refine al_pure rfl rfl rfl (pure_cmp rfl rfl gU gU rfl) ?_
    refine al_pure rfl rfl rfl (pure_assign rfl gU) ?_
    refine al_nil ?_
    refine awp_cond rfl (fun hc2 => ?_) (fun hc2 => ?_)
    · try simp only [nn] at hc2
      refine awp_seq (awp_region ?_)
      refine al_pure rfl rfl rfl (pure_fieldPtr rfl gU rfl rfl) ?_
      refine al_pure rfl rfl rfl (pure_loadBox rfl gU rfl rfl rfl rfl) ?_
      refine al_pure rfl rfl rfl (pure_assign rfl gU) ?_
      refine al_nil ?_
      refine awp_ret ?_
      repeat (first | refine tR ?_ | refine bR ?_)
      refine ret_ok rfl ?_ trivial
      (rw [wordE, if_pos (.inr hc2)]; rfl)
    · try simp only [nn] at hc2
      rw [wordE, if_neg (by omega)]
      refine awp_seq (awp_region ?_)
      refine al_pure rfl rfl rfl (pure_cmp rfl rfl gU gU rfl) ?_
      refine al_pure rfl rfl rfl (pure_assign rfl gU) ?_
      refine al_nil ?_
      refine awp_cond rfl (fun hc3 => ?_) (fun hc3 => ?_)
      · try simp only [nn] at hc3
        refine awp_seq (awp_region ?_)
        refine al_pure rfl rfl rfl (pure_fieldPtr rfl gU rfl rfl) ?_
        refine al_pure rfl rfl rfl (pure_loadBox rfl gU rfl rfl rfl rfl) ?_
        refine al_call rfl rfl rfl rfl rfl rfl gU gU (Ctr.wk (Z := sys) rfl hsub (lquote_spec _ (by omega))) rfl ?_
        refine al_pure rfl rfl rfl (pure_assign rfl gU) ?_
        refine al_nil ?_
        refine awp_ret ?_
        repeat (first | refine tR ?_ | refine bR ?_)
        refine ret_ok rfl ?_ trivial
        (rw [if_pos hc3]; rfl)
      · try simp only [nn] at hc3
        rw [if_neg hc3]
        refine awp_seq (awp_region ?_)
        refine al_pure rfl rfl rfl (pure_cmp rfl rfl gU gU rfl) ?_
        refine al_pure rfl rfl rfl (pure_assign rfl gU) ?_
        refine al_nil ?_
        refine awp_sub (s := { t := [(1, _, _), (15, _, _)], bx := [((.l 1), _)], ow := [] }) (sub_mk (⟨sx rfl, ⟨sx rfl, trivial⟩⟩) (⟨sx rfl, trivial⟩) trivial) ?_
        refine awp_cond rfl (fun hc4 => ?_) (fun hc4 => ?_)
        · try simp only [nn] at hc4
          refine awp_seq (awp_region ?_)
          refine al_pure rfl rfl rfl (pure_fieldPtr rfl gU rfl rfl) ?_
          refine al_pure rfl rfl rfl (pure_loadBox rfl gU rfl rfl rfl rfl) ?_
          refine al_pure rfl rfl rfl (pure_cmp rfl rfl gU gU rfl) ?_
          refine al_nil ?_
          refine awp_cond rfl (fun hc5 => ?_) (fun hc5 => ?_)
          · try simp only [nn] at hc5
            refine awp_seq (awp_region ?_)
            refine al_pure rfl rfl rfl (pure_fieldPtr rfl gU rfl rfl) ?_
            refine al_pure rfl rfl rfl (pure_loadBox rfl gU rfl rfl rfl rfl) ?_
            refine al_call rfl rfl rfl rfl rfl rfl gU gU (formatInt_spec _ (by omega) (by omega)) rfl ?_
            refine al_pure rfl rfl rfl (pure_assign rfl gU) ?_
            refine al_nil ?_
            refine awp_ret ?_
            repeat (first | refine tR ?_ | refine bR ?_)
            refine ret_ok rfl ?_ trivial
            (rw [if_pos ⟨hc4, hc5⟩]; rfl)
          · try simp only [nn] at hc5
            refine awp_skip ?_
            refine awp_seq (awp_region ?_)
            refine al_pure rfl rfl rfl (pure_assign rfl gU) ?_
            refine al_nil ?_
            refine awp_ret ?_
            repeat (first | refine tR ?_ | refine bR ?_)
            refine ret_ok rfl ?_ trivial
            (rw [if_neg (by omega)]; rfl)
        · try simp only [nn] at hc4
          refine awp_skip ?_
          refine awp_seq (awp_region ?_)
          refine al_pure rfl rfl rfl (pure_assign rfl gU) ?_
          refine al_nil ?_
          refine awp_ret ?_
          repeat (first | refine tR ?_ | refine bR ?_)
          refine ret_ok rfl ?_ trivial
          (rw [if_neg (by omega)]; rfl)
theorem rword_spec (t : Tk) (h : TkS t) : Ctr sysW 28 [xt t] [] (xs (wordE t)) none [] := by
  obtain ⟨h1, h2, h3⟩ := h
  refine spec_intro Tryd.func28 rfl rfl rfl rfl rfl rfl ?_
  refine awp_seq (awp_region ?_)
  refine al_do rfl (does_box rfl rfl rfl rfl) ?_
  refine al_pure rfl rfl rfl (pure_assign rfl gU) ?_
  refine al_nil ?_
  refine awp_seq ?_
  refine awp_seq (awp_region ?_)
  refine al_pure rfl rfl rfl (pure_fieldPtr rfl gU rfl rfl) ?_
  refine al_pure rfl rfl rfl (pure_loadBox rfl gU rfl rfl rfl rfl) ?_
  refine al_nil ?_
  refine awp_block ?_
  refine awp_seq ?_
  refine awp_seq (awp_region ?_)
  refine al_pure rfl rfl rfl (pure_cmp rfl rfl gU gU rfl) ?_
  refine al_pure rfl rfl rfl (pure_assign rfl gU) ?_
  refine al_nil ?_
  refine awp_sub (s := { t := [(1, _, _), (4, _, _), (5, _, _)], bx := [((.l 1), _)], ow := [] }) (sub_mk (⟨sx rfl, ⟨sx rfl, ⟨sx rfl, trivial⟩⟩⟩) (⟨sx rfl, trivial⟩) trivial) ?_
  refine awp_cond rfl (fun hc => ?_) (fun hc => ?_)
  · try simp only [nn] at hc
    rw [wordE, if_pos (.inl hc)]
    refine awp_skip ?_
    refine awp_cond rfl (fun hc2 => ?_) (fun hc2 => ?_)
    · refine awp_seq (awp_region ?_)
      refine al_pure rfl rfl rfl (pure_fieldPtr rfl gU rfl rfl) ?_
      refine al_pure rfl rfl rfl (pure_loadBox rfl gU rfl rfl rfl rfl) ?_
      refine al_pure rfl rfl rfl (pure_assign rfl gU) ?_
      refine al_nil ?_
      refine awp_ret ?_
      repeat (first | refine tR ?_ | refine bR ?_)
      refine ret_ok rfl ?_ trivial
      rfl
    · try simp only [nn] at hc2
      exact absurd hc hc2
  · try simp only [nn] at hc
    refine awp_region ?_
    refine al_pure rfl rfl rfl (pure_cmp rfl rfl gU gU rfl) ?_
    refine al_pure rfl rfl rfl (pure_assign rfl gU) ?_
    refine al_nil ?_
    refine awp_cond rfl (fun hc2 => ?_) (fun hc2 => ?_)
    · try simp only [nn] at hc2
      refine awp_seq (awp_region ?_)
      refine al_pure rfl rfl rfl (pure_fieldPtr rfl gU rfl rfl) ?_
      refine al_pure rfl rfl rfl (pure_loadBox rfl gU rfl rfl rfl rfl) ?_
      refine al_pure rfl rfl rfl (pure_assign rfl gU) ?_
      refine al_nil ?_
      refine awp_ret ?_
      repeat (first | refine tR ?_ | refine bR ?_)
      refine ret_ok rfl ?_ trivial
      (rw [wordE, if_pos (.inr hc2)]; rfl)
    · try simp only [nn] at hc2
      rw [wordE, if_neg (by omega)]
      refine awp_seq (awp_region ?_)
      refine al_pure rfl rfl rfl (pure_cmp rfl rfl gU gU rfl) ?_
      refine al_pure rfl rfl rfl (pure_assign rfl gU) ?_
      refine al_nil ?_
      refine awp_cond rfl (fun hc3 => ?_) (fun hc3 => ?_)
      · try simp only [nn] at hc3
        rw [if_neg (by omega)]
        refine awp_seq (awp_region ?_)
        refine al_pure rfl rfl rfl (pure_fieldPtr rfl gU rfl rfl) ?_
        refine al_pure rfl rfl rfl (pure_loadBox rfl gU rfl rfl rfl rfl) ?_
        refine al_pure rfl rfl rfl (pure_cmp rfl rfl gU gU rfl) ?_
        refine al_nil ?_
        refine awp_sub (s := { t := [(1, _, _), (14, _, _)], bx := [((.l 1), _)], ow := [] }) (sub_mk (⟨sx rfl, ⟨sx rfl, trivial⟩⟩) (⟨sx rfl, trivial⟩) trivial) ?_
        refine awp_cond rfl (fun hc4 => ?_) (fun hc4 => ?_)
        · try simp only [nn] at hc4
          refine awp_seq (awp_region ?_)
          refine al_pure rfl rfl rfl (pure_fieldPtr rfl gU rfl rfl) ?_
          refine al_pure rfl rfl rfl (pure_loadBox rfl gU rfl rfl rfl rfl) ?_
          refine al_call rfl rfl rfl rfl rfl rfl gU gU (rdig_spec t.int.toNat (by omega) _ (by omega)) rfl ?_
          refine al_pure rfl rfl rfl (pure_assign rfl gU) ?_
          refine al_nil ?_
          refine awp_ret ?_
          repeat (first | refine tR ?_ | refine bR ?_)
          refine ret_ok rfl ?_ trivial
          (rw [if_pos ⟨hc3, hc4⟩]; rfl)
        · try simp only [nn] at hc4
          refine awp_skip ?_
          refine awp_seq (awp_region ?_)
          refine al_pure rfl rfl rfl (pure_assign rfl gU) ?_
          refine al_nil ?_
          refine awp_ret ?_
          repeat (first | refine tR ?_ | refine bR ?_)
          refine ret_ok rfl ?_ trivial
          (rw [if_neg (by omega)]; rfl)
      · try simp only [nn] at hc3
        refine awp_seq (awp_region ?_)
        refine al_pure rfl rfl rfl (pure_cmp rfl rfl gU gU rfl) ?_
        refine al_pure rfl rfl rfl (pure_assign rfl gU) ?_
        refine al_nil ?_
        refine awp_sub (s := { t := [(1, _, _), (18, _, _)], bx := [((.l 1), _)], ow := [] }) (sub_mk (⟨sx rfl, ⟨sx rfl, trivial⟩⟩) (⟨sx rfl, trivial⟩) trivial) ?_
        refine awp_cond rfl (fun hc4 => ?_) (fun hc4 => ?_)
        · try simp only [nn] at hc4
          refine awp_seq (awp_region ?_)
          refine al_pure rfl rfl rfl (pure_fieldPtr rfl gU rfl rfl) ?_
          refine al_pure rfl rfl rfl (pure_loadBox rfl gU rfl rfl rfl rfl) ?_
          refine al_call rfl rfl rfl rfl rfl rfl gU gU (Ctr.wk (Z := sys) rfl hsub (rquote_spec _ (by omega))) rfl ?_
          refine al_pure rfl rfl rfl (pure_assign rfl gU) ?_
          refine al_nil ?_
          refine awp_ret ?_
          repeat (first | refine tR ?_ | refine bR ?_)
          refine ret_ok rfl ?_ trivial
          (rw [if_pos hc4]; rfl)
        · try simp only [nn] at hc4
          refine awp_skip ?_
          refine awp_seq (awp_region ?_)
          refine al_pure rfl rfl rfl (pure_assign rfl gU) ?_
          refine al_nil ?_
          refine awp_ret ?_
          repeat (first | refine tR ?_ | refine bR ?_)
          refine ret_ok rfl ?_ trivial
          (rw [if_neg hc4, if_neg (by omega)]; rfl)
end Go.Proofs.YtiiboiomiacibaaDoor
/- Texts of tokens, read again (plain). -/
set_option linter.unusedVariables false
set_option linter.unusedSimpArgs false
namespace Go.Proofs.YtiiboiomiacibaaDoor
open Go Go.Abs
/-- A token as the lexer makes it. -/
structure GoodTk (N : Nat) (t : Tk) : Prop where
  form : (t.kind = 1 ∧ t.int = 0 ∧ t.str = [] ∧ letterB ((t.text.getD 0 0).toNat : Int) = true ∧ nlE t.text = t.text.length ∧ t.text ≠ [] ∧ t.text.length ≤ 24) ∨
    (t.kind = 2 ∧ t.text = [] ∧ t.str = [] ∧ 0 ≤ t.int ∧ t.int ≤ 9223372036854775807) ∨ (t.kind = 3 ∧ t.text = [] ∧ t.int = 0) ∨
    (t.kind = 4 ∧ t.int = 0 ∧ t.str = [] ∧ ∃ c, t.text = [c] ∧ symB c = true)
  s : t.str.length ≤ N
theorem nmP_cut : ∀ (l : List UInt8), nmP (l.take (nmP l)) = nmP l
  | [] => rfl
  | b :: l => by
    rw [nmP]
    split
    · rename_i h
      rw [List.take_succ_cons, nmP, if_pos, nmP_cut l]
      refine ⟨h.1, fun q => h.2 ⟨q.1, ?_⟩⟩
      obtain ⟨q1, q2⟩ := q
      by_cases hz : 0 < (l.take (nmP l)).length
      · rw [(take_getD' (l := l) (d := 0) hz).1] at q2; exact q2
      · have : l.take (nmP l) = [] := List.eq_nil_of_length_eq_zero (by omega)
        rw [this] at q2; simp at q2
    · rfl
theorem sym_no {c : UInt8} (h : symB c = true) : letterB (c.toNat : Int) ≠ true ∧ digitB (c.toNat : Int) ≠ true ∧ c.toNat ≠ 34 ∧ c.toNat ≠ 35 ∧ c.toNat ≠ 10 ∧ whiteB c = false := by
  have hm : c ∈ syms := by simpa [symB] using h
  simp only [syms, List.mem_cons, List.not_mem_nil, or_false] at hm
  rcases hm with rfl | rfl | rfl | rfl | rfl | rfl | rfl | rfl | rfl | rfl | rfl | rfl | rfl | rfl | rfl | rfl | rfl | rfl <;> decide
theorem nextE_good {s : List UInt8} (h : 0 < s.length) (he : (nextE s).2.2 = 0) : GoodTk s.length (nextE s).1 := by
  have h1 := nlE_le h
  have h2 := numA_le s 0 0 (by omega)
  have h3 := litE_le s h
  unfold nextE at he ⊢
  split
  · rename_i hl
    rw [if_pos hl] at he
    split
    · rename_i q; rw [if_pos q] at he; simp at he
    · rename_i q
      obtain ⟨c, r, rfl⟩ : ∃ c r, s = c :: r := by
        cases s with
        | nil => simp at h
        | cons c r => exact ⟨c, r, rfl⟩
      have e1 : nlE (c :: r) = nmP r + 1 := by simp [nlE]; omega
      have e2 : (c :: r).take (nlE (c :: r)) = c :: r.take (nmP r) := by rw [e1, List.take_succ_cons]
      have e3 : nlE (c :: r.take (nmP r)) = nmP r + 1 := by
        have : nlE (c :: r.take (nmP r)) = 1 + nmP (r.take (nmP r)) := by simp [nlE]
        rw [this, nmP_cut]; omega
      refine ⟨.inl ⟨rfl, rfl, rfl, ?_, ?_, ?_, ?_⟩, by simp⟩
      · dsimp only; rw [e2]; exact hl
      · dsimp only; rw [e2, e3]; have := nmP_le r; simp; omega
      · dsimp only; rw [e2]; simp
      · dsimp only; rw [List.length_take]; omega
  split
  · split
    · exact ⟨.inr (.inl ⟨rfl, rfl, rfl, h2.2.2.1, h2.2.2.2 (by omega)⟩), by simp⟩
    · rename_i hl hd hq
      rw [if_neg hl, if_pos hd, if_neg hq] at he; simp at he
  split
  · split
    · rename_i hl hd hq hz
      rw [if_neg hl, if_neg hd, if_pos hq, if_pos hz] at he; simp at he
    · exact ⟨.inr (.inr (.inl ⟨rfl, rfl, rfl⟩)), h3.2⟩
  split
  · rename_i hl hd hq hz
    obtain ⟨c, r, rfl⟩ : ∃ c r, s = c :: r := by
      cases s with
      | nil => simp at h
      | cons c r => exact ⟨c, r, rfl⟩
    exact ⟨.inr (.inr (.inr ⟨rfl, rfl, rfl, c, rfl, by simpa using hz⟩)), by simp⟩
  · rename_i hl hd hq hz
    rw [if_neg hl, if_neg hd, if_neg hq, if_neg hz] at he; simp at he
theorem GoodTk.onl {N : Nat} {t : Tk} (h : GoodTk N t) (k : Int) : GoodTk N (t.onl k) := ⟨h.form, h.s⟩
theorem GoodTk.mono {N M : Nat} {t : Tk} (h : GoodTk N t) (hm : N ≤ M) : GoodTk M t := ⟨h.form, Nat.le_trans h.s hm⟩
theorem lineP_good : ∀ (n : Nat) (l : List UInt8) (k : Int) (out : List Tk) (N : Nat), l.length ≤ N → (∀ t ∈ out, GoodTk N t) → ∀ t ∈ (lineP n l k out).1, GoodTk N t
  | 0, l, k, out, N, _, ho => ho
  | n + 1, l, k, out, N, hl, ho => by
    have ht := trimE_len l
    rw [lineP]
    split
    · exact ho
    · rename_i h1
      have hne : 0 < (trimE l).length := List.length_pos_iff.2 fun q => h1 (.inl q)
      split
      · intro t ht; simp at ht
      · rename_i h2
        have h2 := Decidable.not_not.1 h2
        refine lineP_good n _ k _ N (by rw [List.length_drop]; omega) fun t ht2 => ?_
        rcases List.mem_append.1 ht2 with q | q
        · exact ho t q
        · simp only [List.mem_singleton] at q
          subst q
          exact ((nextE_good hne h2).mono (by omega)).onl k
theorem toksP_good : ∀ (L : List (List UInt8)) (k : Nat) (out : List Tk) (N : Nat), (∀ l ∈ L, l.length ≤ N) → (∀ t ∈ out, GoodTk N t) → ∀ t ∈ (toksP L k out).1, GoodTk N t
  | [], k, out, N, _, ho => ho
  | l :: L, k, out, N, hl, ho => by
    rw [toksP]
    split
    · intro t ht; simp at ht
    · exact toksP_good L (k + 1) _ N (fun x hx => hl x (List.mem_cons_of_mem _ hx)) (lineP_good _ _ _ _ N (hl l (List.mem_cons_self ..)) ho)
theorem tokP_good (s : List UInt8) : ∀ t ∈ (tokP s).1, GoodTk s.length t := by
  unfold tokP
  split
  · intro t ht; simp at ht
  · exact toksP_good _ _ _ _ (fun l hl => spl_mem s l hl) (by simp)
theorem lineP_len' : ∀ (n : Nat) (l : List UInt8) (k : Int) (out : List Tk), (lineP n l k out).1.length ≤ out.length + l.length
  | 0, l, k, out => by simp [lineP]
  | n + 1, l, k, out => by
    have h1 := trimE_len l
    rw [lineP]
    split
    · simp
    · rename_i hq
      have hne : 0 < (trimE l).length := List.length_pos_iff.2 fun h => hq (.inl h)
      split
      · simp
      · rename_i he
        have h2 := nextE_le hne
        have h3 := h2.2 (Decidable.not_not.1 he)
        have ih := lineP_len' n ((trimE l).drop (nextE (trimE l)).2.1) k (out ++ [(nextE (trimE l)).1.onl k])
        simp only [List.length_drop, List.length_append, List.length_singleton] at ih
        omega
/-- How much a text's lines hold. -/
def sumL (L : List (List UInt8)) : Nat := (L.map List.length).sum
theorem spl_sum : ∀ (s : List UInt8), sumL (spl s) ≤ s.length
  | [] => by simp [sumL, spl]
  | b :: l => by
    have ih := spl_sum l
    rw [spl]
    split
    · simp only [sumL, List.map_cons, List.sum_cons, List.length_nil, List.length_cons] at ih ⊢; omega
    · split
      · simp [sumL]
      · rename_i h; rw [h] at ih
        simp only [sumL, List.map_cons, List.sum_cons, List.length_cons] at ih ⊢; omega
/-- Sums over the tokens of a text. -/
def wl (t : Tk) : Nat := (wordE t).length + 1
def sumW (l : List Tk) : Nat := (l.map wl).sum
theorem sumW_app (a b : List Tk) : sumW (a ++ b) = sumW a + sumW b := by simp [sumW]
theorem dec_len' : ∀ (k u : Nat), u < 10 ^ (k + 1) → (Lib.decDigits u).length ≤ k + 1
  | 0, u, h => by rw [Lib.decDigits, dif_pos (by simpa using h)]; simp
  | k + 1, u, h => by
    rw [Lib.decDigits]
    split
    · simp
    · have := dec_len' k (u / 10) (by rw [Nat.pow_succ] at h; omega)
      simp only [List.length_append, List.length_singleton]
      omega
theorem litA_sub : ∀ (n : Nat) (l : List UInt8) (i : Nat) (out : List UInt8), (litA n l i out).2 ≠ 0 → (litA n l i out).1.length + i + 1 ≤ out.length + (litA n l i out).2
  | 0, l, i, out, h => by simp [litA] at h
  | n + 1, [], i, out, h => by simp [litA] at h
  | n + 1, c :: l, i, out, h => by
    rw [litA] at h ⊢
    split
    · simp; omega
    · rename_i h1
      rw [if_neg h1] at h
      split
      · rename_i h2
        rw [if_pos h2] at h
        split
        · rename_i h3; rw [if_pos h3] at h; simp at h
        · rename_i h3
          rw [if_neg h3] at h
          have := litA_sub n _ _ _ h
          simp only [List.length_append, List.length_singleton] at this
          omega
      · rename_i h2
        rw [if_neg h2] at h
        split
        · rename_i h3; rw [if_pos h3] at h; simp at h
        · rename_i h3
          rw [if_neg h3] at h
          have := litA_sub n _ _ _ h
          simp only [List.length_append, List.length_singleton] at this
          omega
theorem next_word_len {s : List UInt8} (h : 0 < s.length) (he : (nextE s).2.2 = 0) : wl (nextE s).1 ≤ 21 * (nextE s).2.1 := by
  have h0 := (nextE_le h).2 he
  have h1 := nlE_le h
  have h2 := numA_le s 0 0 (by omega)
  unfold nextE at he h0 ⊢
  unfold wl wordE
  split
  · rename_i hl
    rw [if_pos hl] at he h0
    split
    · rename_i q; rw [if_pos q] at he; simp at he
    · rename_i q
      rw [if_pos (.inl rfl)]
      dsimp only
      rw [List.length_take]; omega
  · rename_i hl
    rw [if_neg hl] at he h0
    split
    · rename_i hd
      rw [if_pos hd] at he h0
      split
      · rename_i hq
        rw [if_pos hq] at h0
        rw [if_neg (by simp), if_neg (by simp), if_pos ⟨rfl, h2.2.2.1⟩]
        have hm := h2.2.2.2 (by omega)
        have := dec_len' 19 (numA s 0 0).2.2.toNat (by omega)
        dsimp only at h0 ⊢
        omega
      · rename_i hq
        rw [if_neg hq] at he; simp at he
    · rename_i hd
      rw [if_neg hd] at he h0
      split
      · rename_i hq
        rw [if_pos hq] at he h0
        split
        · rename_i hz; rw [if_pos hz] at he; simp at he
        · rename_i hz
          rw [if_neg (by simp), if_pos rfl]
          have h3 := litA_sub (s.length + 1) (s.drop 1) 1 [] hz
          have h4 := quoB_len (litE s).1
          have h5 := quoE_len (litE s).1
          dsimp only
          have h6 : (litE s).1.length + 1 + 1 ≤ 0 + (litE s).2 := h3
          omega
      · rename_i hq
        rw [if_neg hq] at he h0
        split
        · rw [if_pos (.inr rfl)]
          dsimp only
          rw [List.length_take]; omega
        · rename_i hz; rw [if_neg hz] at he; simp at he
theorem wl_onl (t : Tk) (k : Int) : wl (t.onl k) = wl t := rfl
theorem lineP_words : ∀ (n : Nat) (l : List UInt8) (k : Int) (out : List Tk), sumW (lineP n l k out).1 ≤ sumW out + 21 * l.length
  | 0, l, k, out => by simp [lineP]
  | n + 1, l, k, out => by
    have h1 := trimE_len l
    rw [lineP]
    split
    · simp
    · rename_i hq
      have hne : 0 < (trimE l).length := List.length_pos_iff.2 fun h => hq (.inl h)
      split
      · simp [sumW]
      · rename_i he
        have he := Decidable.not_not.1 he
        have h2 := nextE_le hne
        have h3 := next_word_len hne he
        have ih := lineP_words n ((trimE l).drop (nextE (trimE l)).2.1) k (out ++ [(nextE (trimE l)).1.onl k])
        rw [sumW_app, List.length_drop] at ih
        have e : sumW [(nextE (trimE l)).1.onl k] = wl (nextE (trimE l)).1 := by simp [sumW, wl_onl]
        rw [e] at ih
        have h4 := h2.1
        omega
theorem toksP_words : ∀ (L : List (List UInt8)) (k : Nat) (out : List Tk), sumW (toksP L k out).1 ≤ sumW out + 21 * sumL L
  | [], k, out => by simp [toksP]
  | l :: L, k, out => by
    rw [toksP]
    split
    · simp [sumW]
    · have h1 := lineP_words (l.length + 1) l (k : Nat) out
      have ih := toksP_words L (k + 1) (lineP (l.length + 1) l (k : Nat) out).1
      simp only [sumL, List.map_cons, List.sum_cons] at ih ⊢
      omega
theorem tokP_words (s : List UInt8) : sumW (tokP s).1 ≤ 21 * s.length := by
  unfold tokP
  split
  · simp [sumW]
  · have h1 := toksP_words (spl s) 1 []
    have h2 := spl_sum s
    simp only [sumW, List.map_nil, List.sum_nil] at h1 ⊢
    omega
theorem sumW_len (l : List Tk) : l.length ≤ sumW l := by
  induction l with
  | nil => simp [sumW]
  | cons t l ih => simp only [sumW, List.map_cons, List.sum_cons, List.length_cons, wl] at ih ⊢; omega
/-- What stands behind a word. -/
def Apart (r : List UInt8) : Prop := r = [] ∨ whiteB (r.getD 0 0) = true
theorem white_no {c : UInt8} (h : whiteB c = true) : partB (c.toNat : Int) ≠ true ∧ digitB (c.toNat : Int) ≠ true := by
  have : c.toNat = 32 ∨ c.toNat = 9 ∨ c.toNat = 10 ∨ c.toNat = 13 := by simp [whiteB] at h; omega
  rcases this with q | q | q | q <;> rw [q] <;> decide
theorem nmP_app : ∀ (l r : List UInt8), nmP l = l.length → Apart r → nmP (l ++ r) = l.length
  | [], r, _, hr => by
    rcases hr with h | h
    · subst h; rfl
    · cases r with
      | nil => rfl
      | cons c r =>
        rw [List.getD_cons_zero] at h
        show nmP (c :: r) = 0
        rw [nmP, if_neg (fun q => (white_no h).1 q.1)]
  | b :: l, r, h, hr => by
    rw [nmP] at h
    split at h
    · rename_i hq
      have ih := nmP_app l r (by simpa using h) hr
      show nmP (b :: (l ++ r)) = _
      rw [nmP, if_pos, ih]; rfl
      refine ⟨hq.1, fun q => ?_⟩
      cases l with
      | cons d l => exact hq.2 q
      | nil =>
        obtain ⟨q1, q2⟩ := q
        rcases hr with z | z
        · subst z; simp at q2
        · have := (white_no z).1
          rw [List.nil_append] at q2
          rw [q2] at this
          exact this (by decide)
    · simp at h
theorem nlE_app {l r : List UInt8} (h : nlE l = l.length) (hl : l ≠ []) (hr : Apart r) : nlE (l ++ r) = l.length := by
  cases l with
  | nil => exact absurd rfl hl
  | cons c l =>
    have h1 : nmP l = l.length := by simp [nlE] at h; omega
    have h2 := nmP_app l r h1 hr
    simp [nlE, h2]; omega
/-- Digits, read again. -/
theorem decD_digit : ∀ (k u : Nat), u < 10 ^ (k + 1) → ∀ b ∈ Lib.decDigits u, digitB (b.toNat : Int) = true
  | 0, u, h, b, hb => by
    rw [Lib.decDigits, dif_pos (by simpa using h)] at hb
    rw [List.mem_singleton] at hb; subst hb
    have : u < 10 := by simpa using h
    simp only [digitB, UInt8.toNat_ofNat', Bool.and_eq_true, decide_eq_true_eq]
    omega
  | k + 1, u, h, b, hb => by
    rw [Lib.decDigits] at hb
    split at hb
    · rw [List.mem_singleton] at hb; subst hb
      simp only [digitB, UInt8.toNat_ofNat', Bool.and_eq_true, decide_eq_true_eq]
      omega
    · rcases List.mem_append.1 hb with q | q
      · exact decD_digit k (u / 10) (by rw [Nat.pow_succ] at h; omega) b q
      · rw [List.mem_singleton] at q; subst q
        simp only [digitB, UInt8.toNat_ofNat', Bool.and_eq_true, decide_eq_true_eq]
        omega
theorem numA_dec : ∀ (k u : Nat), u < 10 ^ (k + 1) → u ≤ 9223372036854775807 → ∀ (r : List UInt8) (n : Nat), numA (Lib.decDigits u ++ r) n 0 = numA r (n + (Lib.decDigits u).length) (u : Int)
  | 0, u, h, hu, r, n => by
    have h10 : u < 10 := by simpa using h
    rw [Lib.decDigits, dif_pos h10]
    show numA (UInt8.ofNat (48 + u) :: r) n 0 = _
    have e : ((UInt8.ofNat (48 + u)).toNat : Int) = 48 + u := by rw [UInt8.toNat_ofNat']; omega
    rw [numA, e, if_pos (by simp [digitB]; omega), if_neg (by omega)]
    congr 1; omega
  | k + 1, u, h, hu, r, n => by
    by_cases h10 : u < 10
    · exact numA_dec 0 u (by simpa using h10) hu r n
    · have e0 : Lib.decDigits u = Lib.decDigits (u / 10) ++ [UInt8.ofNat (48 + u % 10)] := by rw [Lib.decDigits, dif_neg h10]
      rw [e0, List.append_assoc, numA_dec k (u / 10) (by rw [Nat.pow_succ] at h; omega) (by omega)]
      show numA (UInt8.ofNat (48 + u % 10) :: r) _ _ = _
      have e : ((UInt8.ofNat (48 + u % 10)).toNat : Int) = 48 + (u % 10 : Nat) := by rw [UInt8.toNat_ofNat']; omega
      rw [numA, e, if_pos (by simp [digitB]; omega), if_neg (by omega)]
      simp only [List.length_append, List.length_singleton]
      congr 1; omega
theorem decD_ne (u : Nat) : Lib.decDigits u ≠ [] := by
  rw [Lib.decDigits]
  split <;> simp
theorem letter_digit {n : Int} (h : digitB n = true) : letterB n ≠ true := by
  have : 48 ≤ n ∧ n ≤ 57 := by simpa [digitB] using h
  simp [letterB]; omega
/-- A word, read again. -/
theorem next_word {N : Nat} {t : Tk} (ht : GoodTk N t) {r : List UInt8} (hr : Apart r) : nextE (wordE t ++ r) = (t.onl 0, (wordE t).length, 0) ∧ ∃ c l, wordE t = c :: l ∧ whiteB c = false ∧ c.toNat ≠ 35 := by
  obtain ⟨form, hs⟩ := ht
  obtain ⟨kind, text, int, str, line⟩ := t
  dsimp only at form hs
  rcases form with ⟨rfl, rfl, rfl, h4, h5, h6, h7⟩ | ⟨rfl, rfl, rfl, h4, h5⟩ | ⟨rfl, rfl, rfl⟩ | ⟨rfl, rfl, rfl, c, rfl, hc⟩
  · have hw : wordE ⟨1, text, 0, [], line⟩ = text := by unfold wordE; rw [if_pos (.inl rfl)]
    rw [hw]
    obtain ⟨c, l, rfl⟩ : ∃ c l, text = c :: l := by
      cases text with
      | nil => exact absurd rfl h6
      | cons c l => exact ⟨c, l, rfl⟩
    rw [List.getD_cons_zero] at h4
    have e1 := nlE_app h5 h6 hr
    refine ⟨?_, c, l, rfl, ?_, ?_⟩
    · unfold nextE
      have e2 : ((c :: l) ++ r).getD 0 0 = c := rfl
      rw [e2, if_pos h4, e1, if_neg (by omega), List.take_left' rfl]; rfl
    · rw [Bool.eq_false_iff]; intro q
      have : c.toNat = 32 ∨ c.toNat = 9 ∨ c.toNat = 10 ∨ c.toNat = 13 := by simp [whiteB] at q; omega
      rcases this with q | q | q | q <;> rw [q] at h4 <;> revert h4 <;> decide
    · intro q; rw [q] at h4; revert h4; decide
  · have hw : wordE ⟨2, [], int, [], line⟩ = Lib.decDigits int.toNat := by unfold wordE; rw [if_neg (by simp), if_neg (by simp), if_pos ⟨rfl, h4⟩]
    rw [hw]
    have hbig : int.toNat < 10 ^ (19 + 1) := by omega
    obtain ⟨c, l, hcl⟩ : ∃ c l, Lib.decDigits int.toNat = c :: l := by
      cases h : Lib.decDigits int.toNat with
      | nil => exact absurd h (decD_ne _)
      | cons c l => exact ⟨c, l, rfl⟩
    have hd := decD_digit 19 int.toNat hbig c (by rw [hcl]; simp)
    have hstop : ∀ (n : Nat) (v : Int), numA r n v = (true, n, v) := by
      intro n v
      rcases hr with z | z
      · subst z; rfl
      · cases r with
        | nil => rfl
        | cons d r =>
          rw [List.getD_cons_zero] at z
          rw [numA, if_neg (white_no z).2]
    have hnum := numA_dec 19 int.toNat hbig (by omega) r 0
    rw [hstop, Nat.zero_add] at hnum
    have e0 : (Lib.decDigits int.toNat ++ r).getD 0 0 = c := by rw [hcl]; rfl
    refine ⟨?_, c, l, hcl, ?_, ?_⟩
    · unfold nextE
      rw [e0, if_neg (letter_digit hd), if_pos hd, hnum, if_pos rfl]
      have e3 : ((int.toNat : Nat) : Int) = int := by omega
      dsimp only
      rw [e3]; rfl
    · rw [Bool.eq_false_iff]; intro q; exact (white_no q).2 hd
    · intro q; rw [q] at hd; revert hd; decide
  · have hw : wordE ⟨3, [], 0, str, line⟩ = quoE str := by unfold wordE; rw [if_neg (by simp), if_pos rfl]
    rw [hw]
    have e0 : (quoE str ++ r).getD 0 0 = 34 := by simp [quoE]
    refine ⟨?_, 34, quoB str ++ [34], by simp [quoE], by decide, by decide⟩
    unfold nextE
    rw [e0, if_neg (by decide), if_neg (by decide), if_pos (by decide), litE_quo, if_neg (by rw [quoE_len]; simp)]; rfl
  · have hw : wordE ⟨4, [c], 0, [], line⟩ = [c] := by unfold wordE; rw [if_pos (.inr rfl)]
    rw [hw]
    obtain ⟨s1, s2, s3, s4, s5, s6⟩ := sym_no hc
    refine ⟨?_, c, [], rfl, s6, s4⟩
    unfold nextE
    have e0 : ([c] ++ r).getD 0 0 = c := rfl
    rw [e0, if_neg s1, if_neg s2, if_neg s3, if_pos hc]; rfl
end Go.Proofs.YtiiboiomiacibaaDoor
/- Texts made of tokens, read again (plain). -/
set_option linter.unusedVariables false
set_option linter.unusedSimpArgs false
namespace Go.Proofs.YtiiboiomiacibaaDoor
open Go Go.Abs
def TT (s : List UInt8) (k : Nat) (out : List Tk) : List Tk × Nat × Int := toksP (spl s) k out
theorem lineP_fuel {l : List UInt8} (h : ∀ b ∈ l, b.toNat ≠ 10) {n m : Nat} (k : Int) (out : List Tk) (hn : l.length < n) (hm : l.length < m) : lineP n l k out = lineP m l k out := by
  rw [← line_bare l.length l (Nat.le_refl _) h n ((bareE l).length + 1) k out hn (by omega), ← line_bare l.length l (Nat.le_refl _) h m ((bareE l).length + 1) k out hm (by omega)]
theorem spl_cons {b : UInt8} {l x : List UInt8} {r : List (List UInt8)} (hb : b.toNat ≠ 10) (h : spl l = x :: r) : spl (b :: l) = (b :: x) :: r := by
  rw [spl, if_neg hb, h]
theorem spl_nl {b : UInt8} {l : List UInt8} (hb : b.toNat = 10) : spl (b :: l) = [] :: spl l := by rw [spl, if_pos hb]
theorem spl_app : ∀ (w : List UInt8) {l x : List UInt8} {r : List (List UInt8)}, (∀ b ∈ w, b.toNat ≠ 10) → spl l = x :: r → spl (w ++ l) = (w ++ x) :: r
  | [], _, _, _, _, h => h
  | b :: w, l, x, r, hw, h => spl_cons (hw b (by simp)) (spl_app w (fun c hc => hw c (by simp [hc])) h)
theorem spl_some (s : List UInt8) : ∃ x r, spl s = x :: r := by
  cases h : spl s with
  | nil => exact absurd h (spl_ne s)
  | cons x r => exact ⟨x, r, rfl⟩
theorem lineP_trim {n : Nat} {l l' : List UInt8} {k : Int} {out : List Tk} (h : trimE l = trimE l') : lineP (n + 1) l k out = lineP (n + 1) l' k out := by simp only [lineP, h]
theorem tokP_TT {s : List UInt8} (h : s.length ≤ 65536) : tokP s = TT s 1 [] := by
  unfold tokP TT
  rw [if_neg (by omega)]
theorem toksP_cons {l l' : List UInt8} {L : List (List UInt8)} {k : Nat} {out out' : List Tk} (h : lineP (l.length + 1) l (k : Int) out = lineP (l'.length + 1) l' (k : Int) out') : toksP (l :: L) k out = toksP (l' :: L) k out' := by
  rw [toksP, toksP, h]
theorem TT_white {w : UInt8} (hw : w.toNat = 32 ∨ w.toNat = 9 ∨ w.toNat = 13) (r : List UInt8) (k : Nat) (out : List Tk) : TT (w :: r) k out = TT r k out := by
  obtain ⟨x, xs', h⟩ := spl_some r
  have hin : wsp.contains w = true := by
    rcases hw with q | q | q
    · rw [show w = 32 from UInt8.toNat_inj.1 q]; rfl
    · rw [show w = 9 from UInt8.toNat_inj.1 q]; rfl
    · rw [show w = 13 from UInt8.toNat_inj.1 q]; rfl
  have ht : trimE (w :: x) = trimE x := by unfold trimE; rw [List.dropWhile_cons, if_pos hin]
  have hno : ∀ b ∈ x, b.toNat ≠ 10 := spl_no10 r x (by rw [h]; simp)
  unfold TT
  rw [spl_cons (by omega) h, h]
  refine toksP_cons ?_
  rw [← lineP_fuel hno (n := x.length + 1 + 1) (m := x.length + 1) _ _ (by omega) (by omega)]
  exact lineP_trim ht
theorem TT_nl {b : UInt8} (hb : b.toNat = 10) (r : List UInt8) (k : Nat) (out : List Tk) : TT (b :: r) k out = TT r (k + 1) out := by
  unfold TT
  rw [spl_nl hb, toksP, lineP_nil, if_neg (by simp)]
theorem line_comment (c : List UInt8) (n : Nat) (k : Int) (out : List Tk) : lineP n (35 :: 35 :: c) k out = (out, 0) := by
  cases n with
  | zero => rfl
  | succ n =>
    have ht : trimE (35 :: 35 :: c) = 35 :: 35 :: c := by unfold trimE; rw [List.dropWhile_cons, if_neg (by decide)]
    rw [lineP, ht, if_pos (.inr (by rw [pre35]; rfl))]
theorem TT_comment {c : List UInt8} (hc : ∀ b ∈ c, b.toNat ≠ 10) {b : UInt8} (hb : b.toNat = 10) (r : List UInt8) (k : Nat) (out : List Tk) : TT (35 :: 35 :: c ++ b :: r) k out = TT r (k + 1) out := by
  unfold TT
  rw [spl_app (35 :: 35 :: c) (fun x hx => by
    rcases List.mem_cons.1 hx with q | q
    · subst q; decide
    · rcases List.mem_cons.1 q with q | q
      · subst q; decide
      · exact hc x q) (spl_nl hb), List.append_nil, toksP, line_comment, if_neg (by simp)]
theorem TT_last {c : List UInt8} (hc : ∀ b ∈ c, b.toNat ≠ 10) (k : Nat) (out : List Tk) : TT (35 :: 35 :: c) k out = (out, 0, 0) := by
  unfold TT
  have h := spl_app (35 :: 35 :: c) (l := []) (x := []) (r := []) (fun x hx => by
    rcases List.mem_cons.1 hx with q | q
    · subst q; decide
    · rcases List.mem_cons.1 q with q | q
      · subst q; decide
      · exact hc x q) rfl
  rw [List.append_nil] at h
  rw [h, toksP, line_comment, if_neg (by simp)]; rfl
theorem TT_nil (k : Nat) (out : List Tk) : TT [] k out = (out, 0, 0) := by
  unfold TT
  rw [spl, toksP, lineP_nil, if_neg (by simp)]; rfl
theorem quo1_no10 (c : UInt8) : ∀ b ∈ quo1 c, b.toNat ≠ 10 := by
  obtain ⟨x1, x2, x3, x4, x5⟩ := hexd c
  have hx : ∀ d : UInt8, hexB d = true → d.toNat ≠ 10 := by intro d hd; simp [hexB] at hd; omega
  intro b hb
  unfold quo1 at hb
  split at hb
  · simp at hb; rcases hb with rfl | rfl <;> decide
  split at hb
  · simp at hb; rcases hb with rfl | rfl <;> decide
  split at hb
  · rename_i h
    simp at hb
    rcases hb with rfl | rfl
    · decide
    · omega
  split at hb
  · rename_i h
    simp at hb; subst hb; omega
  · rw [x4, x5] at hb
    simp only [List.mem_append, List.mem_cons, List.not_mem_nil, or_false] at hb
    rcases hb with ((rfl | rfl) | rfl) | rfl
    · decide
    · decide
    · exact hx _ x1
    · exact hx _ x2
theorem quoB_no10 : ∀ (s : List UInt8), ∀ b ∈ quoB s, b.toNat ≠ 10
  | [], b, hb => by simp [quoB] at hb
  | c :: s, b, hb => by
    rw [quoB] at hb
    rcases List.mem_append.1 hb with q | q
    · exact quo1_no10 c b q
    · exact quoB_no10 s b q
theorem word_no10 {N : Nat} {t : Tk} (ht : GoodTk N t) : ∀ b ∈ wordE t, b.toNat ≠ 10 := by
  obtain ⟨form, hs⟩ := ht
  obtain ⟨kind, text, int, str, line⟩ := t
  dsimp only at form hs
  intro b hb
  rcases form with ⟨rfl, rfl, rfl, h4, h5, h6, h7⟩ | ⟨rfl, rfl, rfl, h4, h5⟩ | ⟨rfl, rfl, rfl⟩ | ⟨rfl, rfl, rfl, c, rfl, hc⟩
  · have hw : wordE ⟨1, text, 0, [], line⟩ = text := by unfold wordE; rw [if_pos (.inl rfl)]
    rw [hw] at hb
    cases text with
    | nil => exact absurd rfl h6
    | cons c l =>
      rw [List.getD_cons_zero] at h4
      rcases List.mem_cons.1 hb with q | q
      · subst q; intro z; rw [z] at h4; revert h4; decide
      · have := nmP_all l (by simp [nlE] at h5; omega)
        exact part_no10 (by have := List.all_eq_true.1 this b q; exact this)
  · have hw : wordE ⟨2, [], int, [], line⟩ = Lib.decDigits int.toNat := by unfold wordE; rw [if_neg (by simp), if_neg (by simp), if_pos ⟨rfl, h4⟩]
    rw [hw] at hb
    have := decD_digit 19 int.toNat (by omega) b hb
    intro z; rw [z] at this; revert this; decide
  · have hw : wordE ⟨3, [], 0, str, line⟩ = quoE str := by unfold wordE; rw [if_neg (by simp), if_pos rfl]
    rw [hw] at hb
    unfold quoE at hb
    rcases List.mem_append.1 hb with q | q
    · rcases List.mem_append.1 q with q | q
      · simp at q; subst q; decide
      · exact quoB_no10 str b q
    · simp at q; subst q; decide
  · have hw : wordE ⟨4, [c], 0, [], line⟩ = [c] := by unfold wordE; rw [if_pos (.inr rfl)]
    rw [hw] at hb
    simp at hb; subst hb
    exact (sym_no hc).2.2.2.2.1
theorem TT_word {N : Nat} {t : Tk} (ht : GoodTk N t) {r : List UInt8} (hr : Apart r) (k : Nat) (out : List Tk) : TT (wordE t ++ r) k out = TT r k (out ++ [t.onl k]) := by
  obtain ⟨x, xs', h⟩ := spl_some r
  have hx : Apart x := by
    rcases hr with q | q
    · subst q
      simp only [spl, List.cons.injEq] at h
      exact .inl h.1.symm
    · cases r with
      | nil => simp only [spl, List.cons.injEq] at h; exact .inl h.1.symm
      | cons c r =>
        rw [List.getD_cons_zero] at q
        by_cases hc : c.toNat = 10
        · rw [spl_nl hc] at h
          simp only [List.cons.injEq] at h
          exact .inl h.1.symm
        · obtain ⟨y, ys, hy⟩ := spl_some r
          rw [spl_cons hc hy] at h
          simp only [List.cons.injEq] at h
          rw [← h.1]
          exact .inr q
  have hno := spl_no10 r x (by rw [h]; simp)
  obtain ⟨e1, c, l, e2, e3, e4⟩ := next_word ht hx
  have hin : ¬wsp.contains c = true := by
    intro q
    have : c = 32 ∨ c = 9 ∨ c = 13 := by simpa [wsp] using q
    rcases this with rfl | rfl | rfl <;> simp [whiteB] at e3
  have ht2 : trimE (wordE t ++ x) = wordE t ++ x := by
    rw [e2]
    unfold trimE
    show List.dropWhile _ (c :: (l ++ x)) = _
    rw [List.dropWhile_cons, if_neg hin]; rfl
  have hcut : ¬(wordE t ++ x = [] ∨ [35, 35].isPrefixOf (wordE t ++ x) = true) := by
    rw [e2]
    rintro (q | q)
    · cases q
    · have q : ([35, 35] : List UInt8).isPrefixOf (c :: (l ++ x)) = true := q
      rw [pre35] at q
      simp only [Bool.and_eq_true, decide_eq_true_eq] at q
      exact e4 q.1
  unfold TT
  rw [spl_app (wordE t) (word_no10 ht) h, h]
  refine toksP_cons ?_
  rw [lineP, ht2, if_neg hcut, e1, if_neg (by simp)]
  dsimp only
  rw [List.drop_left' rfl]
  refine lineP_fuel hno _ _ ?_ (by omega)
  rw [List.length_append, e2]; simp only [List.length_cons]; omega
/-- What may stand between tokens. -/
def gapL : List (List UInt8) := [[32], [10], [9, 13, 32], [32, 35, 35, 32, 120, 32, 34, 32, 10], [10, 35, 35, 10]]
theorem gap_len {j : Nat} (h : j < 5) : 1 ≤ (gapL.getD j []).length ∧ (gapL.getD j []).length ≤ 9 ∧ whiteB ((gapL.getD j []).getD 0 0) = true := by
  match j, h with
  | 0, _ => decide
  | 1, _ => decide
  | 2, _ => decide
  | 3, _ => decide
  | 4, _ => decide
theorem TT_gap {j : Nat} (h : j < 5) (r : List UInt8) (k : Nat) (out : List Tk) : ∃ d, TT (gapL.getD j [] ++ r) k out = TT r (k + d) out := by
  match j, h with
  | 0, _ => exact ⟨0, TT_white (.inl rfl) r k out⟩
  | 1, _ => exact ⟨1, TT_nl rfl r k out⟩
  | 2, _ =>
    refine ⟨0, ?_⟩
    show TT (9 :: 13 :: 32 :: r) k out = _
    rw [TT_white (.inr (.inl rfl)), TT_white (.inr (.inr rfl)), TT_white (.inl rfl)]; rfl
  | 3, _ =>
    refine ⟨1, ?_⟩
    show TT (32 :: (35 :: 35 :: [32, 120, 32, 34, 32] ++ 10 :: r)) k out = _
    rw [TT_white (.inl rfl), TT_comment (by decide) rfl]
  | 4, _ =>
    refine ⟨2, ?_⟩
    show TT (10 :: (35 :: 35 :: [] ++ 10 :: r)) k out = _
    rw [TT_nl rfl, TT_comment (by simp) rfl]
def gapI (g : List UInt8) (i : Nat) : Nat := (g.getD (i % g.length) 0).toNat % 5
def textP (l : List Tk) (g : List UInt8) : Nat → List UInt8
  | 0 => []
  | k + 1 => textP l g k ++ (gapL.getD (gapI g k) [] ++ wordE (l.getD k tk0))
theorem apart_gap {j : Nat} (h : j < 5) (r : List UInt8) : Apart (gapL.getD j [] ++ r) := by
  right
  match j, h with
  | 0, _ => rfl
  | 1, _ => rfl
  | 2, _ => rfl
  | 3, _ => rfl
  | 4, _ => rfl
theorem nl_onl (t : Tk) (k : Int) : (t.onl k).nl false = t.nl false := rfl
theorem TT_text {N : Nat} {l : List Tk} (hl : ∀ t ∈ l, GoodTk N t) (g : List UInt8) : ∀ (k : Nat), k ≤ l.length → ∀ r, Apart r → ∃ d l', l'.map (·.nl false) = (l.take k).map (·.nl false) ∧ TT (textP l g k ++ r) 1 [] = TT r d l'
  | 0, _, r, _ => ⟨1, [], rfl, rfl⟩
  | k + 1, hk, r, hr => by
    have hj : gapI g k < 5 := Nat.mod_lt _ (by omega)
    obtain ⟨d, l', h1, h2⟩ := TT_text hl g k (by omega) (gapL.getD (gapI g k) [] ++ (wordE (l.getD k tk0) ++ r)) (apart_gap hj _)
    obtain ⟨d2, h3⟩ := TT_gap hj (wordE (l.getD k tk0) ++ r) d l'
    have hg : GoodTk N (l.getD k tk0) := hl _ (by
      rw [List.getD_eq_getElem?_getD, List.getElem?_eq_getElem (by omega)]; exact List.getElem_mem _)
    refine ⟨d + d2, l' ++ [(l.getD k tk0).onl (d + d2 : Nat)], ?_, ?_⟩
    · rw [take_getD (d := tk0) (by omega), List.map_append, List.map_append, h1]; rfl
    · have e : textP l g (k + 1) ++ r = textP l g k ++ (gapL.getD (gapI g k) [] ++ (wordE (l.getD k tk0) ++ r)) := by rw [textP, List.append_assoc, List.append_assoc]
      rw [e, h2, h3, TT_word hg hr]
theorem textP_len (l : List Tk) (g : List UInt8) : ∀ (k : Nat), k ≤ l.length → (textP l g k).length ≤ sumW (l.take k) + 9 * k
  | 0, _ => by simp [textP]
  | k + 1, hk => by
    have ih := textP_len l g k (by omega)
    have hg := gap_len (j := gapI g k) (Nat.mod_lt _ (by omega))
    rw [textP, take_getD (d := tk0) (by omega), sumW_app]
    simp only [List.length_append, sumW, List.map_cons, List.map_nil, List.sum_cons, List.sum_nil, wl] at ih ⊢
    omega
theorem sumW_take (l : List Tk) (k : Nat) : sumW (l.take k) ≤ sumW l := by
  have : sumW l = sumW (l.take k) + sumW (l.drop k) := by rw [← sumW_app, List.take_append_drop]
  omega
theorem toksP_count : ∀ (L : List (List UInt8)) (k : Nat) (out : List Tk), (toksP L k out).1.length ≤ out.length + sumL L
  | [], k, out => by simp [toksP]
  | l :: L, k, out => by
    rw [toksP]
    split
    · simp
    · have h1 := lineP_len' (l.length + 1) l (k : Nat) out
      have ih := toksP_count L (k + 1) (lineP (l.length + 1) l (k : Nat) out).1
      simp only [sumL, List.map_cons, List.sum_cons] at ih ⊢
      omega
theorem tokP_count (s : List UInt8) : (tokP s).1.length ≤ s.length := by
  unfold tokP
  split
  · simp
  · have h1 := toksP_count (spl s) 1 []
    have h2 := spl_sum s
    simp only [List.length_nil] at h1
    omega
def endC : List UInt8 := [32, 35, 35, 32, 101, 110, 100]
theorem space_law (s g : List UInt8) (hs : s.length ≤ 500) (he : (tokP s).2.2 = 0) : (tokP (textP (tokP s).1 g (tokP s).1.length ++ endC)).2.2 = 0 ∧
    (tokP (textP (tokP s).1 g (tokP s).1.length ++ endC)).1.map (·.nl false) = (tokP s).1.map (·.nl false) := by
  have h1 := textP_len (tokP s).1 g (tokP s).1.length (Nat.le_refl _)
  rw [List.take_length] at h1
  have h2 := tokP_words s
  have h3 := tokP_count s
  obtain ⟨d, l', h4, h5⟩ := TT_text (tokP_good s) g (tokP s).1.length (Nat.le_refl _) endC (.inr rfl)
  rw [List.take_length] at h4
  have h6 : TT endC d l' = (l', 0, 0) := by
    show TT (32 :: (35 :: 35 :: [32, 101, 110, 100])) d l' = _
    rw [TT_white (.inl rfl), TT_last (by decide)]
  have h7 : tokP (textP (tokP s).1 g (tokP s).1.length ++ endC) = (l', 0, 0) := by
    rw [tokP_TT (by rw [List.length_append]; show _ + 7 ≤ 65536; omega), h5, h6]
  rw [h7]
  exact ⟨rfl, h4⟩
/-- Tokens with spaces in between. -/
theorem joinA_snoc : ∀ (a : List Tk) (t : Tk) (k : Nat) (out : List UInt8), joinA (a ++ [t]) k out = (if 0 < k + a.length then joinA a k out ++ [32] else joinA a k out) ++ wordE t
  | [], t, k, out => by simp [joinA]
  | b :: a, t, k, out => by
    show joinA (a ++ [t]) (k + 1) _ = _
    rw [joinA_snoc a t (k + 1), List.length_cons, if_pos (c := 0 < k + 1 + a.length) (by omega), if_pos (c := 0 < k + (a.length + 1)) (by omega)]
    rfl
def joinP (l : List Tk) (k : Nat) : List UInt8 := joinA (l.take k) 0 []
theorem joinP_snoc {l : List Tk} {k : Nat} (h : k < l.length) : joinP l (k + 1) = (if 0 < k then joinP l k ++ [32] else joinP l k) ++ wordE (l.getD k tk0) := by
  unfold joinP
  rw [take_getD (d := tk0) h, joinA_snoc, List.length_take]
  have : min k l.length = k := by omega
  rw [this, Nat.zero_add]
theorem joinP_len (l : List Tk) : ∀ (k : Nat), k ≤ l.length → (joinP l k).length ≤ sumW (l.take k)
  | 0, _ => by simp [joinP, joinA]
  | k + 1, hk => by
    have ih := joinP_len l k (by omega)
    rw [joinP_snoc (by omega), take_getD (d := tk0) (by omega), sumW_app]
    simp only [sumW, List.map_cons, List.map_nil, List.sum_cons, List.sum_nil, wl, List.length_append] at ih ⊢
    split
    · simp only [List.length_append, List.length_singleton]; omega
    · omega
theorem joinE_P (l : List Tk) : joinE l = joinP l l.length := by unfold joinE joinP; rw [List.take_length]
theorem TT_join {N : Nat} {l : List Tk} (hl : ∀ t ∈ l, GoodTk N t) : ∀ (k : Nat), k ≤ l.length → ∀ r, Apart r → TT (joinP l k ++ r) 1 [] = TT r 1 ((l.take k).map (·.onl (1 : Nat)))
  | 0, _, r, _ => rfl
  | k + 1, hk, r, hr => by
    have hg : GoodTk N (l.getD k tk0) := hl _ (by
      rw [List.getD_eq_getElem?_getD, List.getElem?_eq_getElem (by omega)]; exact List.getElem_mem _)
    have hT : (l.take (k + 1)).map (·.onl ((1 : Nat) : Int)) = (l.take k).map (·.onl ((1 : Nat) : Int)) ++ [(l.getD k tk0).onl ((1 : Nat) : Int)] := by
      rw [take_getD (d := tk0) (by omega), List.map_append]; rfl
    rw [joinP_snoc (by omega), hT]
    split
    · have e : joinP l k ++ [32] ++ wordE (l.getD k tk0) ++ r = joinP l k ++ (32 :: (wordE (l.getD k tk0) ++ r)) := by simp
      rw [e, TT_join hl k (by omega) _ (.inr rfl), TT_white (.inl rfl), TT_word hg hr]
    · obtain rfl : k = 0 := by omega
      show TT (wordE (l.getD 0 tk0) ++ r) 1 [] = _
      rw [TT_word hg hr]; rfl
theorem join_law (s : List UInt8) (hs : s.length ≤ 1000) : (tokP (joinE (tokP s).1)).2 = (0, 0) ∧ (tokP (joinE (tokP s).1)).1.map (·.nl false) = (tokP s).1.map (·.nl false) := by
  have h1 := joinP_len (tokP s).1 (tokP s).1.length (Nat.le_refl _)
  rw [List.take_length] at h1
  have h2 := tokP_words s
  have h5 := TT_join (tokP_good s) (tokP s).1.length (Nat.le_refl _) [] (.inl rfl)
  rw [List.append_nil, TT_nil, List.take_length] at h5
  have h7 : tokP (joinE (tokP s).1) = ((tokP s).1.map (·.onl ((1 : Nat) : Int)), 0, 0) := by
    rw [joinE_P]
    rw [tokP_TT (by omega)]
    exact h5
  rw [h7]
  refine ⟨rfl, ?_⟩
  show ((tokP s).1.map (·.onl ((1 : Nat) : Int))).map (·.nl false) = _
  rw [List.map_map]
  rfl
theorem joinA_tail : ∀ (l : List Tk) (k : Nat) (out : List UInt8), joinA l (k + 1) out = out ++ Lib.joinTail [32] (l.map wordE)
  | [], k, out => by simp [joinA, Lib.joinTail]
  | t :: l, k, out => by
    rw [joinA, if_pos (by omega), joinA_tail l]
    simp [Lib.joinTail]
theorem joinE_lib (l : List Tk) : joinE l = Lib.join (l.map wordE) [32] := by
  cases l with
  | nil => rfl
  | cons t l =>
    rw [List.map_cons, Lib.join_cons]
    unfold joinE
    rw [joinA, if_neg (by omega), joinA_tail]; rfl
end Go.Proofs.YtiiboiomiacibaaDoor
/- Contracts: texts made of tokens. -/
set_option linter.unusedVariables false
set_option linter.unusedSimpArgs false
namespace Go.Proofs.YtiiboiomiacibaaDoor
open Go Go.Abs
theorem tks_at {l : List Tk} (h : ∀ t ∈ l, TkS t) : ∀ k, k < l.length → TkS (l.getD k tk0) := by
  intro k hk
  apply h
  rw [List.getD_eq_getElem?_getD, List.getElem?_eq_getElem hk]
  exact List.getElem_mem _
theorem tks_of {N : Nat} {t : Tk} (h : GoodTk N t) (hN : N ≤ 100000) : TkS t := by
  obtain ⟨form, hs⟩ := h
  rcases form with ⟨h1, h2, h3, h4, h5, h6, h7⟩ | ⟨h1, h2, h3, h4, h5⟩ | ⟨h1, h2, h3⟩ | ⟨h1, h2, h3, c, h4, h5⟩
  · exact ⟨by omega, by omega, by omega⟩
  · exact ⟨by omega, by omega, by rw [h2]; simp⟩
  · exact ⟨by omega, by omega, by rw [h2]; simp⟩
  · exact ⟨by omega, by omega, by rw [h4]; simp⟩
theorem sumW_le {l : List Tk} (h : ∀ t ∈ l, TkS t) : sumW l ≤ 1000001 * l.length := by
  induction l with
  | nil => simp [sumW]
  | cons t l ih =>
    have h1 := wordE_len (h t (List.mem_cons_self ..))
    have h2 := ih fun x hx => h x (List.mem_cons_of_mem _ hx)
    simp only [sumW, List.map_cons, List.sum_cons, List.length_cons, wl] at h2 ⊢
    omega
theorem rjoin_spec (l : List Tk) (h : ∀ t ∈ l, TkS t) (hl : l.length ≤ 1000) : Ctr sysW 26 [xts l] [] (xs (joinE l)) none [] := by
  have hm := tks_at h
  have hS := sumW_le h
  have hj : ∀ k, k ≤ l.length → (joinP l k).length ≤ 1000001 * 1000 := by
    intro k hk
    have := joinP_len l k hk
    have := sumW_take l k
    omega
  have hr := Tk.rows_len l
  refine spec_intro Tryd.func26 rfl rfl rfl rfl rfl rfl ?_
  refine awp_seq (awp_region ?_)
  refine al_pure rfl rfl rfl (pure_assign rfl gU) ?_
  refine al_nil ?_
  refine awp_seq (awp_region ?_)
  refine al_pure rfl rfl rfl (pure_assign rfl gU) ?_
  refine al_nil ?_
  refine awp_seq ?_
  refine awp_seq (awp_region ?_)
  refine al_pure rfl rfl rfl (pure_assign rfl gU) ?_
  refine al_nil ?_
  refine awp_block ?_
  refine awp_for (ι := Nat) { t := [(0, _, _)], bx := [], ow := [] } (fun k => [(4, true, xi (k : Int)), (3, true, xs (joinP l k))]) (fun k => []) (fun k => k ≤ l.length) (fun k => l.length - k) (0) (by simp) (sub_mk (⟨sx rfl, ⟨sx rfl, ⟨sx rfl, trivial⟩⟩⟩) trivial trivial) ?_
  intro k hok
  dsimp only [List.cons_append, List.nil_append]
  have hjk := hj k hok
  refine awp_seq ?_
  refine awp_seq (awp_region ?_)
  refine al_pure rfl rfl rfl (pure_move rfl gU) ?_
  refine al_pure rfl rfl rfl (pure_move rfl gU) ?_
  refine al_lenSl rfl rfl rfl rfl rfl gU rfl rfl ?_ (fun hh => by simp at hh); intro hlen
  refine al_pure rfl rfl rfl (pure_cmp rfl rfl gU gU rfl) ?_
  refine al_nil ?_
  refine awp_cond rfl (fun hc => ?_) (fun hc => ?_)
  · try simp only [nn, strR_len, Tk.rows_len] at hc
    have hk := hm k (by omega)
    have hw := wordE_len hk
    have hT := joinP_snoc (l := l) (k := k) (by omega)
    refine awp_skip ?_
    refine awp_seq ?_
    refine awp_block ?_
    refine awp_seq ?_
    refine awp_seq (awp_region ?_)
    refine al_pure rfl rfl rfl (pure_move rfl gU) ?_
    refine al_pure rfl rfl rfl (pure_cmp rfl rfl gU gU rfl) ?_
    refine al_nil ?_
    refine awp_sub (s := { t := [(0, _, _), (3, _, _), (4, _, _), (12, _, _)], bx := [], ow := [] }) (sub_mk (⟨sx rfl, ⟨sx rfl, ⟨sx rfl, ⟨sx rfl, trivial⟩⟩⟩⟩) trivial trivial) ?_
    refine awp_cond rfl (fun hc2 => ?_) (fun hc2 => ?_)
    · try simp only [nn, strR_len, Tk.rows_len] at hc2
      rw [if_pos (by omega)] at hT
      refine awp_region ?_
      refine al_pure rfl rfl rfl (pure_move rfl gU) ?_
      refine al_pure rfl rfl rfl (pure_concat rfl rfl gU gU (by first | omega | (simp only [List.length_append, List.length_singleton]; omega))) ?_
      refine al_pure rfl rfl rfl (pure_assign rfl gU) ?_
      refine al_nil ?_
      refine awp_region ?_
      refine al_pure rfl rfl rfl (pure_move rfl gU) ?_
      refine al_pure rfl rfl rfl (pure_move rfl gU) ?_
      refine al_pure rfl rfl rfl (pure_move rfl gU) ?_
      refine al_pure rfl rfl rfl (pure_indexAddr rfl rfl gU gU rfl rfl rfl (fun hh => Tk.rows_at (by first | omega | (simp at hh ⊢; omega)))) ?_
      refine al_pure rfl rfl rfl (pure_loadRoRow rfl gU rfl rfl rfl rfl) ?_
      refine al_call rfl rfl rfl rfl rfl rfl gU gU (rword_spec _ hk) rfl ?_
      refine al_pure rfl rfl rfl (pure_concat rfl rfl gU gU (by first | omega | (simp only [List.length_append, List.length_singleton]; omega))) ?_
      refine al_pure rfl rfl rfl (pure_assign rfl gU) ?_
      refine al_nil ?_
      refine awp_sub (s := { t := [(0, _, _), (3, _, _), (4, _, _)], bx := [], ow := [] }) (sub_mk (⟨sx rfl, ⟨sx rfl, ⟨sx rfl, trivial⟩⟩⟩) trivial trivial) ?_
      refine awp_region ?_
      refine al_pure rfl rfl rfl (pure_move rfl gU) ?_
      refine al_pure rfl rfl rfl (pure_arith rfl rfl gU gU rfl (IntWalk.i64_in _ (by omega))) ?_
      refine al_pure rfl rfl rfl (pure_assign rfl gU) ?_
      refine al_nil ?_
      refine ⟨k + 1, ?_, ?_, sub_mk (⟨⟨_, rfl, ?_⟩, ⟨⟨_, rfl, ?_⟩, ⟨sx rfl, trivial⟩⟩⟩) trivial trivial⟩
      all_goals (first | rfl | omega | exact tx (congrArg xs (by rw [hT])))
    · try simp only [nn, strR_len, Tk.rows_len] at hc2
      rw [if_neg (by omega)] at hT
      refine awp_skip ?_
      refine awp_region ?_
      refine al_pure rfl rfl rfl (pure_move rfl gU) ?_
      refine al_pure rfl rfl rfl (pure_move rfl gU) ?_
      refine al_pure rfl rfl rfl (pure_move rfl gU) ?_
      refine al_pure rfl rfl rfl (pure_indexAddr rfl rfl gU gU rfl rfl rfl (fun hh => Tk.rows_at (by first | omega | (simp at hh ⊢; omega)))) ?_
      refine al_pure rfl rfl rfl (pure_loadRoRow rfl gU rfl rfl rfl rfl) ?_
      refine al_call rfl rfl rfl rfl rfl rfl gU gU (rword_spec _ hk) rfl ?_
      refine al_pure rfl rfl rfl (pure_concat rfl rfl gU gU (by first | omega | (simp only [List.length_append, List.length_singleton]; omega))) ?_
      refine al_pure rfl rfl rfl (pure_assign rfl gU) ?_
      refine al_nil ?_
      refine awp_sub (s := { t := [(0, _, _), (3, _, _), (4, _, _)], bx := [], ow := [] }) (sub_mk (⟨sx rfl, ⟨sx rfl, ⟨sx rfl, trivial⟩⟩⟩) trivial trivial) ?_
      refine awp_region ?_
      refine al_pure rfl rfl rfl (pure_move rfl gU) ?_
      refine al_pure rfl rfl rfl (pure_arith rfl rfl gU gU rfl (IntWalk.i64_in _ (by omega))) ?_
      refine al_pure rfl rfl rfl (pure_assign rfl gU) ?_
      refine al_nil ?_
      refine ⟨k + 1, ?_, ?_, sub_mk (⟨⟨_, rfl, ?_⟩, ⟨⟨_, rfl, ?_⟩, ⟨sx rfl, trivial⟩⟩⟩) trivial trivial⟩
      all_goals (first | rfl | omega | exact tx (congrArg xs (by rw [hT])))
  · try simp only [nn, strR_len, Tk.rows_len] at hc
    refine awp_exit ?_
    repeat (first | refine thenS_exit ?_ | refine blockS_hit ?_ | refine blockS_miss rfl ?_)
    refine awp_seq (awp_region ?_)
    refine al_pure rfl rfl rfl (pure_move rfl gU) ?_
    refine al_pure rfl rfl rfl (pure_assign rfl gU) ?_
    refine al_nil ?_
    refine awp_ret ?_
    repeat (first | refine tR ?_ | refine bR ?_)
    refine ret_ok rfl ?_ trivial
    (rw [joinE_P, show k = l.length by omega]; rfl)
theorem map_snoc {l : List Tk} {k : Nat} (h : k < l.length) : (l.take (k + 1)).map wordE = (l.take k).map wordE ++ [wordE (l.getD k tk0)] := by
  rw [take_getD (d := tk0) h, List.map_append]; rfl
theorem ljoin_spec (l : List Tk) (h : ∀ t ∈ l, TkS t) (hl : l.length ≤ 1000) : Ctr sysW 25 [xts l] [] (xs (joinE l)) none [] := by
  have hm := tks_at h
  have hS := sumW_le h
  have hj := joinP_len l l.length (Nat.le_refl _)
  rw [List.take_length] at hj
  have hr := Tk.rows_len l
  refine spec_intro Tryd.func25 rfl rfl rfl rfl rfl rfl ?_
  refine awp_seq (awp_region ?_)
  refine al_pure rfl rfl rfl (pure_assign rfl gU) ?_
  refine al_nil ?_
  refine awp_seq (awp_region ?_)
  refine al_do rfl (does_nil (.inr rfl) rfl rfl) ?_
  refine al_nil ?_
  refine awp_seq ?_
  refine awp_seq (awp_region ?_)
  refine al_pure rfl rfl rfl (pure_move rfl gU) ?_
  refine al_lenSl rfl rfl rfl rfl rfl gU rfl rfl ?_ (fun hh => by simp at hh); intro hlen
  refine al_pure rfl rfl rfl (pure_move rfl gU) ?_
  refine al_nil ?_
  refine awp_sub (s := { t := [(3, _, _), (6, _, _), (7, _, _), (8, _, _)], bx := [], ow := [((.t 3), _)] }) (sub_mk (⟨sx rfl, ⟨sx rfl, ⟨sx rfl, ⟨sx rfl, trivial⟩⟩⟩⟩) trivial (⟨rfl, trivial⟩)) ?_
  refine awp_block ?_
  refine awp_for (ι := Nat) { t := [(6, _, _), (7, _, _)], bx := [], ow := [((.t 3), _)] } (fun k => [(8, true, xi (k : Int)), (3, true, xss ((l.take k).map wordE))]) (fun k => []) (fun k => k ≤ l.length) (fun k => l.length - k) (0) (by simp) (sub_mk (⟨sx rfl, ⟨sx rfl, ⟨sx rfl, ⟨sx rfl, trivial⟩⟩⟩⟩) trivial (⟨rfl, trivial⟩)) ?_
  intro k hok
  dsimp only [List.cons_append, List.nil_append]
  have ht : ((l.take k).map wordE).length = k := by rw [List.length_map, List.length_take]; omega
  refine awp_seq (awp_region ?_)
  refine al_pure rfl rfl rfl (pure_cmp rfl rfl gU gU rfl) ?_
  refine al_nil ?_
  refine awp_seq ?_
  refine awp_cond rfl (fun hc => ?_) (fun hc => ?_)
  · try simp only [nn, strR_len, Tk.rows_len] at hc
    have hk := hm k (by omega)
    have hT := map_snoc (l := l) (k := k) (by omega)
    refine awp_skip ?_
    refine awp_seq ?_
    refine awp_block ?_
    refine awp_seq (awp_region ?_)
    refine al_pure rfl rfl rfl (pure_indexAddr rfl rfl gU gU rfl rfl rfl (fun hh => Tk.rows_at (by first | omega | (simp at hh ⊢; omega)))) ?_
    refine al_pure rfl rfl rfl (pure_loadRoRow rfl gU rfl rfl rfl rfl) ?_
    refine al_do rfl (does_alloc rfl rfl rfl) ?_
    refine al_do rfl (does_store rfl rfl rfl rfl rfl rfl rfl) ?_
    refine al_nil ?_
    refine awp_region ?_
    refine al_do rfl (does_take (.inl rfl) rfl rfl rfl) ?_
    refine al_pure rfl rfl rfl (pure_loadBoxRow rfl gU rfl rfl rfl rfl rfl) ?_
    refine al_call rfl rfl rfl rfl rfl rfl gU gU (lword_spec _ hk) rfl ?_
    refine al_buildSlice (xs := [_]) rfl rfl rfl rfl rfl rfl rfl rfl rfl gU rfl ?_
    refine al_do rfl (does_append rfl rfl rfl rfl rfl rfl rfl (by first | omega | (simp only [List.length_append, List.length_singleton, Tk.rows_len, strR_len, List.length_map, List.length_take]; omega)) (by first | omega | (simp only [List.length_append, List.length_singleton, Tk.rows_len, strR_len, List.length_map, List.length_take]; omega))) ?_
    refine al_do rfl (does_take (.inr rfl) rfl rfl rfl) ?_
    refine al_nil ?_
    refine awp_sub (s := { t := [(3, _, _), (6, _, _), (7, _, _), (8, _, _)], bx := [], ow := [((.t 3), _)] }) (sub_mk (⟨sx rfl, ⟨sx rfl, ⟨sx rfl, ⟨sx rfl, trivial⟩⟩⟩⟩) trivial (⟨rfl, trivial⟩)) ?_
    refine awp_region ?_
    refine al_pure rfl rfl rfl (pure_arith rfl rfl gU gU rfl (IntWalk.i64_in _ (by omega))) ?_
    refine al_pure rfl rfl rfl (pure_move rfl gU) ?_
    refine al_nil ?_
    refine ⟨k + 1, ?_, ?_, sub_mk (⟨⟨_, rfl, ?_⟩, ⟨⟨_, rfl, ?_⟩, ⟨sx rfl, ⟨sx rfl, trivial⟩⟩⟩⟩) trivial (⟨rfl, trivial⟩)⟩
    all_goals (first | rfl | omega | exact tx (by rw [hT]; exact xss_snoc _ _))
  · try simp only [nn, strR_len, Tk.rows_len] at hc
    have e : (l.take k).map wordE = l.map wordE := by rw [List.take_of_length_le (by omega)]
    rw [e]
    refine awp_exit ?_
    repeat (first | refine thenS_exit ?_ | refine blockS_hit ?_ | refine blockS_miss rfl ?_)
    refine awp_seq (awp_region ?_)
    refine al_pure rfl rfl rfl (pure_move rfl gU) ?_
    refine al_call rfl rfl rfl rfl rfl rfl gU gU (join_spec _ (by rw [List.length_map]; omega) (by rw [← joinE_lib, joinE_P]; omega)) rfl ?_
    refine al_pure rfl rfl rfl (pure_assign rfl gU) ?_
    refine al_nil ?_
    refine awp_ret ?_
    repeat (first | refine tR ?_ | refine bR ?_)
    refine ret_ok rfl ?_ trivial
    (rw [joinE_lib]; rfl)
theorem LexerJoin_spec (s : List UInt8) : Ctr sysW 9 [xs s] [] (xb true) none [] := by
  refine spec_intro Tryd.func9 rfl rfl rfl rfl rfl rfl ?_
  refine awp_seq (awp_region ?_)
  refine al_pure rfl rfl rfl (pure_assign rfl gU) ?_
  refine al_nil ?_
  refine awp_seq ?_
  refine awp_seq (awp_region ?_)
  refine al_call rfl rfl rfl rfl rfl rfl gU gU (Ctr.wk (Z := sys) rfl hsub awake_spec) rfl ?_
  refine al_pure rfl rfl rfl (pure_not rfl gU) ?_
  refine al_pure rfl rfl rfl (pure_move rfl gU) ?_
  refine al_pure rfl rfl rfl (pure_move rfl gU) ?_
  refine al_pure rfl rfl rfl (pure_lenS rfl (fun hh => hh) (Tryd.underlying9)) ?_
  refine al_pure rfl rfl rfl (pure_cmp rfl rfl (fun hh => hh) gU rfl) ?_
  refine al_pure rfl rfl rfl (pure_or rfl rfl gU (fun _ hi => gP rfl hi)) ?_
  refine al_nil ?_
  refine awp_sub (s := { t := [(0, _, _), (16, _, _)], bx := [], ow := [] }) (sub_mk (⟨sx rfl, ⟨sx rfl, trivial⟩⟩) trivial trivial) ?_
  refine awp_cond rfl (fun hc => ?_) (fun hc => ?_)
  · try simp only [nn, strR_len, Tk.rows_len] at hc
    refine awp_seq (awp_region ?_)
    refine al_call rfl rfl rfl rfl rfl rfl gU gU (Ctr.wk (Z := sys) rfl hsub awake_spec) rfl ?_
    refine al_pure rfl rfl rfl (pure_assign rfl gU) ?_
    refine al_nil ?_
    refine awp_ret ?_
    repeat (first | refine tR ?_ | refine bR ?_)
    refine ret_ok rfl ?_ trivial
    rfl
  · try simp only [nn, strR_len, Tk.rows_len] at hc
    have hs : s.length ≤ 1000 := by simp at hc; omega
    have hg : ∀ t ∈ (tokP s).1, TkS t := fun t ht => tks_of (tokP_good s t ht) (by omega)
    have hcnt := tokP_count s
    have hwd := tokP_words s
    have hjl := joinP_len (tokP s).1 (tokP s).1.length (Nat.le_refl _)
    rw [List.take_length, ← joinE_P] at hjl
    obtain ⟨j1, j2⟩ := join_law s hs
    refine awp_skip ?_
    refine awp_seq (awp_region ?_)
    refine al_pure rfl rfl rfl (pure_move rfl gU) ?_
    refine al_call rfl rfl rfl rfl rfl rfl gU gU (Ctr.wk (Z := sys) rfl hsub (tokens_spec _ (by omega))) rfl ?_
    refine al_pure rfl rfl rfl (pure_move rfl gU) ?_
    refine al_pure rfl rfl rfl (pure_extract rfl gU rfl) ?_
    refine al_pure rfl rfl rfl (pure_extract rfl gU rfl) ?_
    refine al_pure rfl rfl rfl (pure_extract rfl gU rfl) ?_
    refine al_pure rfl rfl rfl (pure_assign rfl gU) ?_
    refine al_pure rfl rfl rfl (pure_assign rfl gU) ?_
    refine al_pure rfl rfl rfl (pure_assign rfl gU) ?_
    refine al_nil ?_
    refine awp_sub (s := { t := [(3, _, _), (5, _, _)], bx := [], ow := [] }) (sub_mk (⟨sx rfl, ⟨sx rfl, trivial⟩⟩) trivial trivial) ?_
    refine awp_seq ?_
    refine awp_seq (awp_region ?_)
    refine al_pure rfl rfl rfl (pure_move rfl gU) ?_
    refine al_pure rfl rfl rfl (pure_cmp rfl rfl gU gU rfl) ?_
    refine al_nil ?_
    refine awp_cond rfl (fun hc2 => ?_) (fun hc2 => ?_)
    · try simp only [nn, strR_len, Tk.rows_len] at hc2
      have hnil : (tokP s).1 = [] := by
        have key : ∀ (L : List (List UInt8)) (k : Nat) (out : List Tk), (toksP L k out).2.2 ≠ 0 → (toksP L k out).1 = [] := by
          intro L
          induction L with
          | nil => intro k out h; simp [toksP] at h
          | cons l L ih =>
            intro k out h
            rw [toksP] at h ⊢
            split
            · rfl
            · rename_i q; rw [if_neg q] at h; exact ih _ _ h
        unfold tokP at hc2 ⊢
        split
        · rfl
        · rename_i q; rw [if_neg q] at hc2; exact key _ _ _ hc2
      rw [hnil]
      refine awp_seq (awp_region ?_)
      refine al_pure rfl rfl rfl (pure_move rfl gU) ?_
      refine al_lenSl rfl rfl rfl rfl rfl gU rfl rfl ?_ (fun hh => by simp at hh); intro hlen
      refine al_pure rfl rfl rfl (pure_cmp rfl rfl gU gU rfl) ?_
      refine al_pure rfl rfl rfl (pure_assign rfl gU) ?_
      refine al_nil ?_
      refine awp_ret ?_
      repeat (first | refine tR ?_ | refine bR ?_)
      refine ret_ok rfl ?_ trivial
      rfl
    · try simp only [nn, strR_len, Tk.rows_len] at hc2
      refine awp_skip ?_
      refine awp_seq (awp_region ?_)
      refine al_pure rfl rfl rfl (pure_move rfl gU) ?_
      refine al_call rfl rfl rfl rfl rfl rfl gU gU (ljoin_spec _ hg (by omega)) rfl ?_
      refine al_pure rfl rfl rfl (pure_assign rfl gU) ?_
      refine al_nil ?_
      refine awp_sub (s := { t := [(3, _, _), (6, _, _)], bx := [], ow := [] }) (sub_mk (⟨sx rfl, ⟨sx rfl, trivial⟩⟩) trivial trivial) ?_
      refine awp_seq (awp_region ?_)
      refine al_pure rfl rfl rfl (pure_move rfl gU) ?_
      refine al_call rfl rfl rfl rfl rfl rfl gU gU (Ctr.wk (Z := sys) rfl hsub (tokens_spec _ (by omega))) rfl ?_
      refine al_pure rfl rfl rfl (pure_move rfl gU) ?_
      refine al_pure rfl rfl rfl (pure_extract rfl gU rfl) ?_
      refine al_pure rfl rfl rfl (pure_extract rfl gU rfl) ?_
      refine al_pure rfl rfl rfl (pure_extract rfl gU rfl) ?_
      refine al_pure rfl rfl rfl (pure_assign rfl gU) ?_
      refine al_pure rfl rfl rfl (pure_assign rfl gU) ?_
      refine al_pure rfl rfl rfl (pure_assign rfl gU) ?_
      refine al_nil ?_
      refine awp_sub (s := { t := [(3, _, _), (6, _, _), (7, _, _), (8, _, _), (9, _, _)], bx := [], ow := [] }) (sub_mk (⟨sx rfl, ⟨sx rfl, ⟨sx rfl, ⟨sx rfl, ⟨sx rfl, trivial⟩⟩⟩⟩⟩) trivial trivial) ?_
      refine awp_seq (awp_region ?_)
      refine al_pure rfl rfl rfl (pure_move rfl gU) ?_
      refine al_pure rfl rfl rfl (pure_move rfl gU) ?_
      refine al_call rfl rfl rfl rfl rfl rfl gU gU (rjoin_spec _ hg (by omega)) rfl ?_
      refine al_pure rfl rfl rfl (pure_cmpS rfl rfl gU gU rfl) ?_
      refine al_pure rfl rfl rfl (pure_move rfl gU) ?_
      refine al_pure rfl rfl rfl (pure_move rfl gU) ?_
      refine al_pure rfl rfl rfl (pure_cmp rfl rfl (fun hh => hh) gU rfl) ?_
      refine al_pure rfl rfl rfl (pure_and rfl rfl gU (fun _ hi => gP rfl hi)) ?_
      refine al_pure rfl rfl rfl (pure_move rfl gU) ?_
      refine al_pure rfl rfl rfl (pure_move rfl gU) ?_
      refine al_pure rfl rfl rfl (pure_cmp rfl rfl (fun hh => hh) gU rfl) ?_
      refine al_pure rfl rfl rfl (pure_and rfl rfl gU (fun _ hi => gP rfl hi)) ?_
      refine al_sub (s := { t := [(3, _, _), (7, _, _), (48, _, _)], bx := [], ow := [] }) (sub_mk (⟨sx rfl, ⟨sx rfl, ⟨sx rfl, trivial⟩⟩⟩) trivial trivial) ?_
      refine al_pure rfl rfl rfl (pure_move rfl gU) ?_
      refine al_pure rfl rfl rfl (pure_move rfl gU) ?_
      refine al_pure rfl rfl rfl (pure_move rfl gU) ?_
      refine al_call rfl rfl rfl rfl rfl rfl gU (fun hh => gA ((fun hh => hh) hh) (gA ((fun hh => hh) hh) (gA rfl (rfl)))) (Ctr.wk (Z := sys) rfl hsub (rsame_spec _ _ _)) rfl ?_
      refine al_pure rfl rfl rfl (pure_and rfl rfl gU (fun _ hi => gP rfl hi)) ?_
      refine al_pure rfl rfl rfl (pure_assign rfl gU) ?_
      refine al_nil ?_
      refine awp_ret ?_
      repeat (first | refine tR ?_ | refine bR ?_)
      refine ret_ok rfl ?_ trivial
      refine xb_eq ?_
      rw [j1]
      simp [sameE, j2]
theorem LexerSpace_spec (s g : List UInt8) : Ctr sysW 8 [xs s, xbs g] [] (xb true) none [] := by
  have hgr := bytesR_len g
  refine spec_intro Tryd.func8 rfl rfl rfl rfl rfl rfl ?_
  refine awp_seq (awp_region ?_)
  refine al_pure rfl rfl rfl (pure_assign rfl gU) ?_
  refine al_nil ?_
  refine awp_seq ?_
  refine awp_seq (awp_region ?_)
  refine al_call rfl rfl rfl rfl rfl rfl gU gU (Ctr.wk (Z := sys) rfl hsub awake_spec) rfl ?_
  refine al_pure rfl rfl rfl (pure_not rfl gU) ?_
  refine al_pure rfl rfl rfl (pure_move rfl gU) ?_
  refine al_pure rfl rfl rfl (pure_move rfl gU) ?_
  refine al_pure rfl rfl rfl (pure_lenS rfl (fun hh => hh) (Tryd.underlying9)) ?_
  refine al_pure rfl rfl rfl (pure_cmp rfl rfl (fun hh => hh) gU rfl) ?_
  refine al_pure rfl rfl rfl (pure_or rfl rfl gU (fun _ hi => gP rfl hi)) ?_
  refine al_pure rfl rfl rfl (pure_move rfl gU) ?_
  refine al_pure rfl rfl rfl (pure_move rfl gU) ?_
  refine al_pure rfl rfl rfl (pure_lenSl rfl (fun hh => hh) rfl rfl) ?_
  refine al_pure rfl rfl rfl (pure_cmp rfl rfl (fun hh => hh) gU rfl) ?_
  refine al_sub (s := { t := [(0, _, _), (1, _, _), (22, _, _), (25, _, _)], bx := [], ow := [] }) (sub_mk (⟨sx rfl, ⟨sx rfl, ⟨sx rfl, ⟨sx rfl, trivial⟩⟩⟩⟩) trivial trivial) ?_
  refine al_pure rfl rfl rfl (pure_or rfl rfl gU (fun _ hi => gP rfl hi)) ?_
  refine al_nil ?_
  refine awp_cond rfl (fun hc => ?_) (fun hc => ?_)
  · try simp only [nn, strR_len, Tk.rows_len, bytesR_len] at hc
    refine awp_seq (awp_region ?_)
    refine al_call rfl rfl rfl rfl rfl rfl gU gU (Ctr.wk (Z := sys) rfl hsub awake_spec) rfl ?_
    refine al_pure rfl rfl rfl (pure_assign rfl gU) ?_
    refine al_nil ?_
    refine awp_ret ?_
    repeat (first | refine tR ?_ | refine bR ?_)
    refine ret_ok rfl ?_ trivial
    rfl
  · try simp only [nn, strR_len, Tk.rows_len, bytesR_len] at hc
    have hs : s.length ≤ 500 := by simp at hc; omega
    have hgl : 0 < g.length := by
      rcases Nat.eq_zero_or_pos g.length with q | q
      · exfalso; simp [q] at hc
      · exact q
    have hg : ∀ t ∈ (tokP s).1, TkS t := fun t ht => tks_of (tokP_good s t ht) (by omega)
    have hm := tks_at hg
    have hcnt := tokP_count s
    have hwd := tokP_words s
    have hr := Tk.rows_len (tokP s).1
    refine awp_skip ?_
    refine awp_seq (awp_region ?_)
    refine al_pure rfl rfl rfl (pure_move rfl gU) ?_
    refine al_call rfl rfl rfl rfl rfl rfl gU gU (Ctr.wk (Z := sys) rfl hsub (tokens_spec _ (by omega))) rfl ?_
    refine al_pure rfl rfl rfl (pure_move rfl gU) ?_
    refine al_pure rfl rfl rfl (pure_extract rfl gU rfl) ?_
    refine al_pure rfl rfl rfl (pure_extract rfl gU rfl) ?_
    refine al_pure rfl rfl rfl (pure_extract rfl gU rfl) ?_
    refine al_pure rfl rfl rfl (pure_assign rfl gU) ?_
    refine al_pure rfl rfl rfl (pure_assign rfl gU) ?_
    refine al_pure rfl rfl rfl (pure_assign rfl gU) ?_
    refine al_nil ?_
    refine awp_sub (s := { t := [(1, _, _), (5, _, _), (7, _, _)], bx := [], ow := [] }) (sub_mk (⟨sx rfl, ⟨sx rfl, ⟨sx rfl, trivial⟩⟩⟩) trivial trivial) ?_
    refine awp_seq ?_
    refine awp_seq (awp_region ?_)
    refine al_pure rfl rfl rfl (pure_move rfl gU) ?_
    refine al_pure rfl rfl rfl (pure_cmp rfl rfl gU gU rfl) ?_
    refine al_nil ?_
    refine awp_cond rfl (fun hc2 => ?_) (fun hc2 => ?_)
    · try simp only [nn, strR_len, Tk.rows_len, bytesR_len] at hc2
      refine awp_seq (awp_region ?_)
      refine al_pure rfl rfl rfl (pure_assign rfl gU) ?_
      refine al_nil ?_
      refine awp_ret ?_
      repeat (first | refine tR ?_ | refine bR ?_)
      refine ret_ok rfl ?_ trivial
      rfl
    · try simp only [nn, strR_len, Tk.rows_len, bytesR_len] at hc2
      obtain ⟨j1, j2⟩ := space_law s g hs hc2
      have htl : ∀ k, k ≤ (tokP s).1.length → (textP (tokP s).1 g k).length ≤ 15000 := by
        intro k hk
        have h1 := textP_len (tokP s).1 g k hk
        have h2 := sumW_take (tokP s).1 k
        omega
      refine awp_skip ?_
      refine awp_seq (awp_region ?_)
      refine al_pure rfl rfl rfl (pure_assign rfl gU) ?_
      refine al_nil ?_
      refine awp_seq ?_
      refine awp_seq (awp_region ?_)
      refine al_pure rfl rfl rfl (pure_move rfl gU) ?_
      refine al_lenSl rfl rfl rfl rfl rfl gU rfl rfl ?_ (fun hh => by simp at hh); intro hlen
      refine al_pure rfl rfl rfl (pure_move rfl gU) ?_
      refine al_nil ?_
      refine awp_sub (s := { t := [(1, _, _), (5, _, _), (8, _, _), (36, _, _), (37, _, _), (38, _, _)], bx := [], ow := [] }) (sub_mk (⟨sx rfl, ⟨sx rfl, ⟨sx rfl, ⟨sx rfl, ⟨sx rfl, ⟨sx rfl, trivial⟩⟩⟩⟩⟩⟩) trivial trivial) ?_
      refine awp_block ?_
      refine awp_for (ι := Nat) { t := [(1, _, _), (5, _, _), (36, _, _), (37, _, _)], bx := [], ow := [] } (fun k => [(38, true, xi (k : Int)), (8, true, xs (textP (tokP s).1 g k))]) (fun k => []) (fun k => k ≤ (tokP s).1.length) (fun k => (tokP s).1.length - k) (0) (by simp) (sub_mk (⟨sx rfl, ⟨sx rfl, ⟨sx rfl, ⟨sx rfl, ⟨sx rfl, ⟨sx rfl, trivial⟩⟩⟩⟩⟩⟩) trivial trivial) ?_
      intro k hok
      dsimp only [List.cons_append, List.nil_append]
      have htk := htl k hok
      refine awp_seq (awp_region ?_)
      refine al_pure rfl rfl rfl (pure_cmp rfl rfl gU gU rfl) ?_
      refine al_nil ?_
      refine awp_seq ?_
      refine awp_cond rfl (fun hc3 => ?_) (fun hc3 => ?_)
      · try simp only [nn, strR_len, Tk.rows_len, bytesR_len] at hc3
        have hk := hm k (by omega)
        have hw := wordE_len hk
        have hmod : (k : Int) % (g.length : Int) = ((k % g.length : Nat) : Int) := (Int.natCast_emod k g.length).symm
        have hmod2 := Nat.mod_lt k hgl
        have hmod3 : (k : Int) % ((bytesR g).length : Int) = ((k % g.length : Nat) : Int) := by rw [hgr]; exact hmod
        have hu := (g.getD (k % g.length) 0).toNat_lt
        have hj : gapI g k < 5 := Nat.mod_lt _ (by omega)
        have hgp := gap_len hj
        have hgi : ((g.getD (k % g.length) 0).toNat : Int) % 5 = ((gapI g k : Nat) : Int) := by unfold gapI; omega
        refine awp_skip ?_
        refine awp_seq ?_
        refine awp_block ?_
        refine awp_seq (awp_region ?_)
        refine al_pure rfl rfl rfl (pure_move rfl gU) ?_
        refine al_pure rfl rfl rfl (pure_indexAddr rfl rfl gU gU rfl rfl rfl (fun hh => Tk.rows_at (by first | omega | (simp at hh ⊢; omega)))) ?_
        refine al_pure rfl rfl rfl (pure_loadRoRow rfl gU rfl rfl rfl rfl) ?_
        refine al_do rfl (does_alloc rfl rfl rfl) ?_
        refine al_pure rfl rfl rfl (pure_assign rfl gU) ?_
        refine al_do rfl (does_store rfl rfl rfl rfl rfl rfl rfl) ?_
        refine al_nil ?_
        refine awp_sub (s := { t := [(1, _, _), (5, _, _), (8, _, _), (9, _, _), (10, _, _), (36, _, _), (37, _, _), (38, _, _)], bx := [((.l 10), _)], ow := [] }) (sub_mk (⟨sx rfl, ⟨sx rfl, ⟨sx rfl, ⟨sx rfl, ⟨sx rfl, ⟨sx rfl, ⟨sx rfl, ⟨sx rfl, trivial⟩⟩⟩⟩⟩⟩⟩⟩) (⟨sx rfl, trivial⟩) trivial) ?_
        refine awp_seq (awp_region ?_)
        refine al_buildSlice (xs := [_, _, _, _, _]) rfl rfl rfl rfl rfl rfl rfl rfl rfl gU rfl ?_
        refine al_pure rfl rfl rfl (pure_move rfl gU) ?_
        refine al_pure rfl rfl rfl (pure_move rfl gU) ?_
        refine al_pure rfl rfl rfl (pure_move rfl gU) ?_
        refine al_lenSl rfl rfl rfl rfl rfl gU rfl rfl ?_ (fun hh => by simp at hh); intro hlen
        refine al_pure rfl rfl rfl (pure_remG rfl rfl gU gU (fun hh => by first | omega | (simp at hh ⊢; omega)) (fun hh => Int.tmod_eq_emod_of_nonneg (by first | omega | (simp at hh ⊢; omega)))) ?_
        refine al_pure rfl rfl rfl (pure_indexAddr (j := k % g.length) rfl rfl gU gU rfl rfl (by first | omega | (simp at hh ⊢; omega)) (fun hh => bytesR_at (by first | omega | (simp at hh ⊢; omega)))) ?_
        refine al_pure rfl rfl rfl (pure_loadRo rfl gU rfl rfl rfl) ?_
        refine al_pure rfl rfl rfl (pure_remG rfl rfl gU gU (fun hh => by first | omega | (simp at hh ⊢; omega)) (fun hh => Int.tmod_eq_emod_of_nonneg (by first | omega | (simp at hh ⊢; omega)))) ?_
        refine al_pure rfl rfl rfl (pure_indexAddr (j := gapI g k) rfl rfl gU gU rfl rfl hgi (fun hh => strR_at (l := gapL) (k := gapI g k) hj)) ?_
        refine al_pure rfl rfl rfl (pure_loadRo rfl gU rfl rfl rfl) ?_
        refine al_pure rfl rfl rfl (pure_assign rfl gU) ?_
        refine al_nil ?_
        refine awp_sub (s := { t := [(1, _, _), (5, _, _), (8, _, _), (10, _, _), (11, _, _), (36, _, _), (37, _, _), (38, _, _)], bx := [((.l 10), _)], ow := [] }) (sub_mk (⟨sx rfl, ⟨sx rfl, ⟨sx rfl, ⟨sx rfl, ⟨sx rfl, ⟨sx rfl, ⟨sx rfl, ⟨sx rfl, trivial⟩⟩⟩⟩⟩⟩⟩⟩) (⟨sx rfl, trivial⟩) trivial) ?_
        refine awp_region ?_
        refine al_pure rfl rfl rfl (pure_move rfl gU) ?_
        refine al_pure rfl rfl rfl (pure_move rfl gU) ?_
        refine al_pure rfl rfl rfl (pure_loadBoxRow rfl gU rfl rfl rfl rfl rfl) ?_
        refine al_call rfl rfl rfl rfl rfl rfl gU gU (lword_spec _ hk) rfl ?_
        refine al_pure rfl rfl rfl (pure_concat rfl rfl gU gU (by first | omega | (simp only [List.length_append, List.length_singleton]; omega) | (simp only [List.length_append]; show _ + 7 ≤ _; omega))) ?_
        refine al_pure rfl rfl rfl (pure_concat rfl rfl gU gU (by first | omega | (simp only [List.length_append, List.length_singleton]; omega) | (simp only [List.length_append]; show _ + 7 ≤ _; omega))) ?_
        refine al_pure rfl rfl rfl (pure_assign rfl gU) ?_
        refine al_nil ?_
        refine awp_sub (s := { t := [(1, _, _), (5, _, _), (8, _, _), (36, _, _), (37, _, _), (38, _, _)], bx := [], ow := [] }) (sub_mk (⟨sx rfl, ⟨sx rfl, ⟨sx rfl, ⟨sx rfl, ⟨sx rfl, ⟨sx rfl, trivial⟩⟩⟩⟩⟩⟩) trivial trivial) ?_
        refine awp_region ?_
        refine al_pure rfl rfl rfl (pure_arith rfl rfl gU gU rfl (IntWalk.i64_in _ (by omega))) ?_
        refine al_pure rfl rfl rfl (pure_move rfl gU) ?_
        refine al_nil ?_
        refine ⟨k + 1, ?_, ?_, sub_mk (⟨⟨_, rfl, ?_⟩, ⟨⟨_, rfl, ?_⟩, ⟨sx rfl, ⟨sx rfl, ⟨sx rfl, ⟨sx rfl, trivial⟩⟩⟩⟩⟩⟩) trivial trivial⟩
        all_goals (first | rfl | omega)
      · try simp only [nn, strR_len, Tk.rows_len, bytesR_len] at hc3
        have hk : k = (tokP s).1.length := by omega
        rw [hk] at htk ⊢
        refine awp_exit ?_
        repeat (first | refine thenS_exit ?_ | refine blockS_hit ?_ | refine blockS_miss rfl ?_)
        refine awp_seq (awp_region ?_)
        refine al_pure rfl rfl rfl (pure_move rfl gU) ?_
        refine al_pure rfl rfl rfl (pure_concat rfl rfl gU gU (by first | omega | (simp only [List.length_append, List.length_singleton]; omega) | (simp only [List.length_append]; show _ + 7 ≤ _; omega))) ?_
        refine al_call rfl rfl rfl rfl rfl rfl gU gU (Ctr.wk (Z := sys) rfl hsub (tokens_spec _ (by simp only [List.length_append]; show _ + 7 ≤ _; omega))) rfl ?_
        refine al_pure rfl rfl rfl (pure_move rfl gU) ?_
        refine al_pure rfl rfl rfl (pure_extract rfl gU rfl) ?_
        refine al_pure rfl rfl rfl (pure_extract rfl gU rfl) ?_
        refine al_pure rfl rfl rfl (pure_extract rfl gU rfl) ?_
        refine al_pure rfl rfl rfl (pure_assign rfl gU) ?_
        refine al_pure rfl rfl rfl (pure_assign rfl gU) ?_
        refine al_pure rfl rfl rfl (pure_assign rfl gU) ?_
        refine al_nil ?_
        refine awp_sub (s := { t := [(5, _, _), (12, _, _), (14, _, _)], bx := [], ow := [] }) (sub_mk (⟨sx rfl, ⟨sx rfl, ⟨sx rfl, trivial⟩⟩⟩) trivial trivial) ?_
        refine awp_seq (awp_region ?_)
        refine al_pure rfl rfl rfl (pure_move rfl gU) ?_
        refine al_pure rfl rfl rfl (pure_cmp rfl rfl gU gU rfl) ?_
        refine al_pure rfl rfl rfl (pure_move rfl gU) ?_
        refine al_pure rfl rfl rfl (pure_move rfl gU) ?_
        refine al_pure rfl rfl rfl (pure_move rfl gU) ?_
        refine al_call rfl rfl rfl rfl rfl rfl gU (fun hh => gA ((fun hh => hh) hh) (gA ((fun hh => hh) hh) (gA rfl (rfl)))) (Ctr.wk (Z := sys) rfl hsub (rsame_spec _ _ _)) rfl ?_
        refine al_pure rfl rfl rfl (pure_and rfl rfl gU (fun _ hi => gP rfl hi)) ?_
        refine al_pure rfl rfl rfl (pure_assign rfl gU) ?_
        refine al_nil ?_
        refine awp_ret ?_
        repeat (first | refine tR ?_ | refine bR ?_)
        refine ret_ok rfl ?_ trivial
        refine xb_eq ?_
        have e : textP (tokP s).1 g (tokP s).1.length ++ [32, 35, 35, 32, 101, 110, 100] = textP (tokP s).1 g (tokP s).1.length ++ endC := rfl
        simp only [e, j1]
        simp [sameE, j2]
end Go.Proofs.YtiiboiomiacibaaDoor
/- From readings to texts, tokens and bytes; what the package's variables hold. -/
set_option linter.unusedVariables false
set_option linter.unusedSimpArgs false
namespace Go.Proofs.YtiiboiomiacibaaDoor
open Go Go.Abs
theorem plainL : closedB Tryd.prog [2, 3, 4, 5, 9, 35, 37, 23] = true := by kernel_rfl
theorem cellsTk : Tryd.prog.cellsOf 37 = 5 := by kernel_rfl
theorem cellsU : Tryd.prog.cellsOf 5 = 1 := by kernel_rfl
theorem int_of {n : Nat} {cs : List C} (h : hasTy Tryd.prog n 3 cs) : ∃ m, cs = [.i .i64 m] ∧ (Lit.int .i64 m).wf = true := by
  cases n with
  | zero => exact h.elim
  | succ n => simp only [hasTy, Tryd.underlying3] at h; exact h
theorem int64_of {n : Nat} {cs : List C} (h : hasTy Tryd.prog n 2 cs) : ∃ m, cs = [.i .i64 m] ∧ (Lit.int .i64 m).wf = true := by
  cases n with
  | zero => exact h.elim
  | succ n => simp only [hasTy, Tryd.underlying2] at h; exact h
theorem str_of {n : Nat} {cs : List C} (h : hasTy Tryd.prog n 9 cs) : ∃ l, cs = [.s l] := by
  cases n with
  | zero => exact h.elim
  | succ n => simp only [hasTy, Tryd.underlying9] at h; exact h
theorem str1_of {n : Nat} {c : C} (h : hasTy Tryd.prog n 9 [c]) : ∃ l, c = .s l := by
  obtain ⟨l, hl⟩ := str_of h
  exact ⟨l, by simpa using hl⟩
theorem list_of {α : Type} {f : α → List C} {R : List C → Prop} (h : ∀ row, R row → ∃ t : α, row = f t) : ∀ es : List (List C), (∀ row, row ∈ es → R row) → ∃ ts : List α, es = ts.map f
  | [], _ => ⟨[], rfl⟩
  | e :: es, he => by
    obtain ⟨t, ht⟩ := h e (he e (List.mem_cons_self ..))
    obtain ⟨ts, hts⟩ := list_of h es fun row hr => he row (List.mem_cons_of_mem _ hr)
    exact ⟨t :: ts, by rw [List.map_cons, ← hts, ht]⟩
theorem byte_of {n : Nat} {cs : List C} (h : hasTy Tryd.prog n 5 cs) : ∃ b : UInt8, cs = [.i .u8 (b.toNat : Int)] := by
  cases n with
  | zero => exact h.elim
  | succ n =>
    simp only [hasTy, Tryd.underlying5] at h
    obtain ⟨m, rfl, hm⟩ := h
    have hb : 0 ≤ m ∧ m < 256 := by
      have h1 : IntKind.u8.min = 0 := by kernel_rfl
      have h2 : IntKind.u8.max = 255 := by kernel_rfl
      simp only [Lit.wf, h1, h2, Bool.and_eq_true, decide_eq_true_eq] at hm
      omega
    exact ⟨UInt8.ofNat m.toNat, by rw [UInt8.toNat_ofNat']; congr 2; omega⟩
theorem bytes_of {n : Nat} {c : C} (h : hasTy Tryd.prog n 35 [c]) : ∃ l : List UInt8, c = .sl 1 (bytesR l) := by
  cases n with
  | zero => exact h.elim
  | succ n =>
    simp only [hasTy, Tryd.underlying35, cellsU] at h
    obtain ⟨es, h1, h5⟩ := h
    obtain ⟨ts, rfl⟩ := list_of (f := fun b : UInt8 => [C.i .u8 (b.toNat : Int)]) (fun row hr => byte_of hr) es h5
    exact ⟨ts, by simp only [List.cons.injEq, and_true] at h1; exact h1⟩
/-- A token whose number is an int64. -/
def Tk.ok (t : Tk) : Prop := -9223372036854775808 ≤ t.int ∧ t.int ≤ 9223372036854775807
theorem wf_i64 {m : Int} (h : (Lit.int .i64 m).wf = true) : -9223372036854775808 ≤ m ∧ m ≤ 9223372036854775807 := by
  have h1 : IntKind.i64.min = -9223372036854775808 := by kernel_rfl
  have h2 : IntKind.i64.max = 9223372036854775807 := by kernel_rfl
  simp only [Lit.wf, h1, h2, Bool.and_eq_true, decide_eq_true_eq] at h
  exact h
theorem tok_of {n : Nat} {cs : List C} (h : hasTy Tryd.prog n 37 cs) : ∃ t : {t : Tk // t.ok}, cs = t.1.cells := by
  cases n with
  | zero => exact h.elim
  | succ n =>
    simp only [hasTy, Tryd.underlying37, hasFs] at h
    obtain ⟨a, b, rfl, h1, c, d, rfl, h2, e, f, rfl, h3, g, k, rfl, h4, u, v, rfl, h5, rfl⟩ := h
    obtain ⟨m1, rfl, _⟩ := int_of h1
    obtain ⟨m2, rfl⟩ := str_of h2
    obtain ⟨m3, rfl, w3⟩ := int64_of h3
    obtain ⟨m4, rfl⟩ := str_of h4
    obtain ⟨m5, rfl, _⟩ := int_of h5
    exact ⟨⟨⟨m1, m2, m3, m4, m5⟩, wf_i64 w3⟩, rfl⟩
theorem toks_of {n : Nat} {c : C} (h : hasTy Tryd.prog n 23 [c]) : ∃ l : {l : List Tk // ∀ t ∈ l, t.ok}, c = .sl 5 (Tk.rows l.1) := by
  cases n with
  | zero => exact h.elim
  | succ n =>
    simp only [hasTy, Tryd.underlying23, cellsTk] at h
    obtain ⟨es, h1, h5⟩ := h
    obtain ⟨ts, rfl⟩ := list_of (f := fun t : {t : Tk // t.ok} => t.1.cells) (fun row hr => tok_of hr) es h5
    refine ⟨⟨ts.map (·.1), fun t ht => ?_⟩, ?_⟩
    · obtain ⟨u, _, rfl⟩ := List.mem_map.1 ht
      exact u.2
    · simp only [List.cons.injEq, and_true] at h1
      rw [h1, Tk.rows, List.map_map]; rfl
theorem own : ownKnob Tryd.prog.godebug = none := by kernel_rfl
theorem laidOut : laidOutB Tryd.prog = true := by kernel_rfl
/-- What a package's variable holds, out of the world's shape and the laid conditions. -/
theorem gl_int {W : World} (h : W.ShapedOpen Tryd.prog) : ∀ g ∈ sys.gv, g.1 < W.heap.size ∧ g.2 W.heap[g.1]? := by
  intro g hg
  have hg : g ∈ ([(1, intAt)] : List (Nat × (Option Obj → Prop))) := hg
  obtain rfl : g = (1, intAt) := by simpa using hg
  obtain ⟨m, hm⟩ : ∃ m, W.cell? ⟨1, 0, none⟩ = some (.int .i64 m) := laysM146.s1_3 W h
  exact ⟨World.block_lt_of_cell? (a := ⟨1, 0, none⟩) W hm, intAt.of hm⟩
theorem returnsShaped {H : Type} {enc : TypeId × Value → H} {a : Assume} {C : Checked} {os : Os} {f : FuncId} {fn : Func} {s : ChangeSpec} {conds : List PathCond} {apart fresh handsOn again : Bool} {X : World → Array Value → Prop}
    (hX : ∀ (w w' : World) (args : Array Value), w.heap = w'.heap → X w args → X w' args)
    (own : ownKnob C.prog.godebug = none) (started : os.Started) (noInit : C.prog.inits.idxOf? f = none) (hfn : C.prog.funcs[f]? = some fn)
    (witness : ∃ (w : World) (tape : Tape) (i : Input), w.os = os ∧ (w.forCall tape i).Shaped C.prog ∧ i.vars = [] ∧ Input.okWide C.prog (w.forCall tape i) .any w.heap.size f i ∧
      ((s.pre enc C.prog fn conds apart (w.forCall tape i).memory i.args ∧ X (w.forCall tape i).memory i.args) ∧ sizedMet enc C.prog fn (OpenSpec.ofChange s) apart (w.forCall tape i).memory i.args) ∧ a.holds C.prog (lone (Frame.enter C.prog f i.args .normal) [] (w.forCall tape i)))
    (contract : ∀ (W : World) (base : Nat) (args : Array Value) (ds gs : List (DataW H)) (before : List MemPlace),
      (∀ (j : Nat) t v, fn.params[j]? = some t → args[j]? = some v → Value.okWide C.prog W .any base t v) →
      DataW.Whole enc C.prog fn.params.toList s.vars apart W args.toList ds gs before → X W args → W.ShapedOpen C.prog →
      Calls C.prog f args W fun e W' => ∃ v, e = .returned v ∧ s.post enc C.prog fn apart fresh handsOn again W args v W') :
    ReturnsInHanded a C os f .any (fun w args => (s.pre enc C.prog fn conds apart w args ∧ X w args) ∧ sizedMet enc C.prog fn (OpenSpec.ofChange s) apart w args) (s.post enc C.prog fn apart fresh handsOn again) := by
  refine returnsInHanded_of_calls own started noInit witness ?_
  intro w tape i _ hsh _ hok hpre hholds
  obtain ⟨_, _, _, fn', hfn', _, _, _, _, hval⟩ := hok
  have e : fn' = fn := Option.some.inj (hfn'.symm.trans hfn)
  subst e
  obtain ⟨⟨⟨ds, gs, before, hw, hc⟩, hx⟩, hz⟩ := hpre
  have hw' := DataW.Whole.of_heap (w' := w.forCall tape i) (by rfl) hw
  refine (contract (w.forCall tape i) w.heap.size i.args ds gs before hval hw' (hX _ _ _ (by rfl) hx) hsh).mono fun e W' ⟨v, he, hp⟩ => ?_
  subst he
  exact ChangeSpec.post_blind hp
end Go.Proofs.YtiiboiomiacibaaDoor
/- What the table of powers of ten holds, out of the laid conditions. -/
set_option linter.unusedVariables false
set_option linter.unusedSimpArgs false
namespace Go.Proofs.YtiiboiomiacibaaDoor
open Go Go.Abs
theorem pow_named : Tryd.prog.globalNamed "internal/strconv.uint64pow10" = some 0 := by kernel_rfl
theorem pow_type : (Tryd.prog.globals[0]?).map (·.type) = some 98 := by kernel_rfl
theorem pow_cells : Tryd.prog.cellsOf 98 = 20 := by kernel_rfl
theorem pow_cell : Tryd.prog.cellsOf 90 = 1 := by kernel_rfl
theorem gl_tab {W : World} {l : List (String × DataW Unit)} (hl : l = Rows.lexerSpaceRow.laid) (hL : laidMetH Tryd.prog l W) (h : W.ShapedOpen Tryd.prog) : ∀ g ∈ sysW.gv, g.1 < W.heap.size ∧ g.2 W.heap[g.1]? := by
  intro g hg
  have hg : g ∈ ([(1, intAt), (0, rowIs (Lib.pow10Tab.map fun z => Value.int .u64 z).toArray)] : List (Nat × (Option Obj → Prop))) := hg
  rcases List.mem_cons.1 hg with q | q
  · exact gl_int h g (by rw [q]; exact List.mem_cons_self ..)
  · obtain rfl : g = (0, rowIs (Lib.pow10Tab.map fun z => Value.int .u64 z).toArray) := by simpa using q
    subst hl
    rw [MakeChecks.laidMetH_plain _ _ _ (by kernel_rfl)] at hL
    have ht : Lib.TabIs Tryd.prog W "internal/strconv.uint64pow10" .u64 Lib.pow10Tab :=
      Lib.tabIs_of_head pow_named pow_type Tryd.underlying98 Tryd.underlying90 pow_cell pow_cells (laidMet.tail (laidMet.tail hL))
    unfold Lib.TabIs World.var? at ht
    rw [pow_named] at ht
    have ht : (match W.heap[0]? with | some (Obj.cells cs _ _) => some cs | _ => none) = some (Lib.pow10Tab.map fun z => Value.int .u64 z).toArray := ht
    split at ht
    · rename_i cs t s hc
      simp only [Option.some.injEq] at ht
      subst ht
      exact ⟨(Array.getElem?_eq_some_iff.1 hc).1, t, s, hc⟩
    · cases ht
end Go.Proofs.YtiiboiomiacibaaDoor
