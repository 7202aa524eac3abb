/- Our abstract program logic and contracts of this seat's functions, part 5: no statement of its own. -/
import Derived.Test.YtgjclggjkhapfaaM4
import Derived.WalkKit
import Derived.Lib.Builder
import Derived.Lib.UnsafeStr
import Derived.Laws.Externs
import Derived.KernelRfl
/- Contracts: reading fields and formats, as codec does. -/
set_option linter.unusedVariables false
set_option linter.unusedSimpArgs false
namespace Go.Proofs.Ytgjclggjkhapfaa
open Go Go.Abs
theorem tagP_v {s : List UInt8} {e : Nat} : ∀ {l : List UInt8} {a : Nat}, (tagP s e l a).v = v0
  | [], a => rfl
  | c :: l, a => by
    rw [tagP]; split
    · rfl
    · exact tagP_v
theorem takeP_v (s : List UInt8) (a n e : Nat) : (takeP s a n e).v = bv (takeP s a n e).v.bytes := by
  unfold takeP; split <;> rfl
theorem xv_eq {u v : V} (h : u = v) : xv u = xv v := by rw [h]
theorem numP_cases (s : List UInt8) (a e : Nat) (low high : Int) : (e ≤ a ∧ numP s a e low high = (0, e, false)) ∨ (a < e ∧ (((s.getD a 0).toNat : Int) < low ∨ high < (s.getD a 0).toNat) ∧ numP s a e low high = (0, a, false)) ∨
    (a < e ∧ ¬ (((s.getD a 0).toNat : Int) < low ∨ high < (s.getD a 0).toNat) ∧ numP s a e low high = (((s.getD a 0).toNat : Int), a + 1, true)) := by
  by_cases h1 : e ≤ a
  · exact .inl ⟨h1, by rw [numP, if_pos h1]⟩
  · by_cases h2 : ((s.getD a 0).toNat : Int) < low ∨ high < (s.getD a 0).toNat
    · exact .inr (.inl ⟨by omega, h2, by rw [numP, if_neg h1, if_pos h2]⟩)
    · exact .inr (.inr ⟨by omega, h2, by rw [numP, if_neg h1, if_neg h2]⟩)
theorem cnest_gen (t : List Fm) (i : Int) (s : List UInt8) (a e : Nat) (ai ei : Int) (rec : Int → Nat → Nat → Pl) (ha : ai = a) (he : ei = e) (h1 : a ≤ e) (h2 : e ≤ s.length) (hs : s.length ≤ 100000)
    (hle : ∀ b c, b ≤ c → b ≤ (rec i b c).p ∧ (rec i b c).p ≤ c)
    (hrec : ∀ b c, b ≤ c → c ≤ s.length → ∀ bi ci : Int, bi = b → ci = c → Ctr sys 41 [pp, xi i, xi ci, xb false] [rc t s bi false] (xv (rec i b c).v) none [rc t s (rec i b c).p (!(rec i b c).ok)]) :
    Ctr sys 89 [pp, xi i, xi ei] [rc t s ai false] (xv (nestP true rec t i s a e).v) none [rc t s (nestP true rec t i s a e).p (!(nestP true rec t i s a e).ok)] := by
  subst ha; subst he
  have hu := u8_lt' (s.getD a 0)
  have hN := cnum_spec t s a e _ _ (boundsE t i).1 (boundsE t i).2.1 rfl rfl h1 h2 hs
  refine spec_intro Try.func89 rfl rfl rfl rfl rfl rfl ?_
  rcases numP_cases s a e (boundsE t i).1 (boundsE t i).2.1 with ⟨q1, q2⟩ | ⟨q1, q3, q2⟩ | ⟨q1, q3, q2⟩
  · rw [q2] at hN; dsimp only at hN
    rw [nestP, if_pos q1]
    refine awp_seq (awp_region ?_)
    refine al_do rfl (does_alloc rfl rfl rfl) ?_
    refine al_nil ?_
    refine awp_seq (awp_region ?_)
    refine al_pure rfl rfl rfl (pure_move rfl gU) ?_
    refine al_pure rfl rfl rfl (pure_nilCheck rfl gU) ?_
    refine al_pure rfl rfl rfl (pure_fieldPtr rfl gU rfl rfl) ?_
    refine al_pure rfl rfl rfl (pure_loadBox rfl gU rfl rfl rfl rfl) ?_
    refine al_pure rfl rfl rfl (pure_move rfl gU) ?_
    refine al_call rfl rfl rfl rfl rfl rfl gU gU (fBounds_spec _ _) rfl ?_
    refine al_pure rfl rfl rfl (pure_move rfl gU) ?_
    refine al_pure rfl rfl rfl (pure_extract rfl gU rfl) ?_
    refine al_pure rfl rfl rfl (pure_extract rfl gU rfl) ?_
    refine al_pure rfl rfl rfl (pure_extract rfl gU rfl) ?_
    refine al_pure rfl rfl rfl (pure_assign rfl gU) ?_
    refine al_sub (s := { t := [(0, _, _), (1, _, _), (2, _, _), (6, _, _), (7, _, _), (21, _, _), (22, _, _)], bx := [((.l 6), _), ((.o 0), _)], ow := [] }) (sub_mk (⟨sx rfl, ⟨sx rfl, ⟨sx rfl, ⟨sx rfl, ⟨sx rfl, ⟨sx rfl, ⟨sx rfl, trivial⟩⟩⟩⟩⟩⟩⟩) (⟨sx rfl, ⟨sx rfl, trivial⟩⟩) trivial) ?_
    refine al_pure rfl rfl rfl (pure_assign rfl gU) ?_
    refine al_pure rfl rfl rfl (pure_assign rfl gU) ?_
    refine al_nil ?_
    refine awp_seq (awp_region ?_)
    refine al_pure rfl rfl rfl (pure_move rfl gU) ?_
    refine al_pure rfl rfl rfl (pure_move rfl gU) ?_
    refine al_pure rfl rfl rfl (pure_move rfl gU) ?_
    refine al_pure rfl rfl rfl (pure_move rfl gU) ?_
    refine al_callB1 (.o 0) rfl rfl rfl rfl rfl rfl (hN) rfl (by rfl) (by rfl) rfl rfl rfl ?_
    refine al_pure rfl rfl rfl (pure_assign rfl gU) ?_
    refine al_nil ?_
    refine awp_sub (s := { t := [(0, _, _), (1, _, _), (2, _, _), (6, _, _), (10, _, _)], bx := [((.l 6), _), ((.o 0), _)], ow := [] }) (sub_mk (⟨sx rfl, ⟨sx rfl, ⟨sx rfl, ⟨sx rfl, ⟨sx rfl, trivial⟩⟩⟩⟩⟩) (⟨sx rfl, ⟨sx rfl, trivial⟩⟩) trivial) ?_
    refine awp_seq ?_
    refine awp_seq (awp_region ?_)
    refine al_pure rfl rfl rfl (pure_move rfl gU) ?_
    refine al_pure rfl rfl rfl (pure_nilCheck rfl gU) ?_
    refine al_pure rfl rfl rfl (pure_fieldPtr rfl gU rfl rfl) ?_
    refine al_pure rfl rfl rfl (pure_loadBox rfl gU rfl rfl rfl rfl) ?_
    refine al_nil ?_
    refine awp_cond rfl (fun hc => ?_) (fun hc => ?_)
    · try simp only [nn, Fd.rows_len, Fm.rows_len, V.rows_len] at hc
      refine awp_seq (awp_region ?_)
      refine al_pure rfl rfl rfl (pure_build rfl Try.underlying25 rfl gU) ?_
      refine al_do rfl (does_store rfl rfl rfl rfl rfl rfl rfl) ?_
      refine al_nil ?_
      refine awp_ret ?_
      repeat (first | refine tR ?_ | refine bR ?_)
      refine ret_ok rfl ?_ (⟨⟨_, rfl, ?_⟩, trivial⟩)
      · rfl
      · rfl
    · simp at hc
  · rw [q2] at hN; dsimp only at hN
    rw [nestP, if_neg (by omega), if_pos q3]
    refine awp_seq (awp_region ?_)
    refine al_do rfl (does_alloc rfl rfl rfl) ?_
    refine al_nil ?_
    refine awp_seq (awp_region ?_)
    refine al_pure rfl rfl rfl (pure_move rfl gU) ?_
    refine al_pure rfl rfl rfl (pure_nilCheck rfl gU) ?_
    refine al_pure rfl rfl rfl (pure_fieldPtr rfl gU rfl rfl) ?_
    refine al_pure rfl rfl rfl (pure_loadBox rfl gU rfl rfl rfl rfl) ?_
    refine al_pure rfl rfl rfl (pure_move rfl gU) ?_
    refine al_call rfl rfl rfl rfl rfl rfl gU gU (fBounds_spec _ _) rfl ?_
    refine al_pure rfl rfl rfl (pure_move rfl gU) ?_
    refine al_pure rfl rfl rfl (pure_extract rfl gU rfl) ?_
    refine al_pure rfl rfl rfl (pure_extract rfl gU rfl) ?_
    refine al_pure rfl rfl rfl (pure_extract rfl gU rfl) ?_
    refine al_pure rfl rfl rfl (pure_assign rfl gU) ?_
    refine al_sub (s := { t := [(0, _, _), (1, _, _), (2, _, _), (6, _, _), (7, _, _), (21, _, _), (22, _, _)], bx := [((.l 6), _), ((.o 0), _)], ow := [] }) (sub_mk (⟨sx rfl, ⟨sx rfl, ⟨sx rfl, ⟨sx rfl, ⟨sx rfl, ⟨sx rfl, ⟨sx rfl, trivial⟩⟩⟩⟩⟩⟩⟩) (⟨sx rfl, ⟨sx rfl, trivial⟩⟩) trivial) ?_
    refine al_pure rfl rfl rfl (pure_assign rfl gU) ?_
    refine al_pure rfl rfl rfl (pure_assign rfl gU) ?_
    refine al_nil ?_
    refine awp_seq (awp_region ?_)
    refine al_pure rfl rfl rfl (pure_move rfl gU) ?_
    refine al_pure rfl rfl rfl (pure_move rfl gU) ?_
    refine al_pure rfl rfl rfl (pure_move rfl gU) ?_
    refine al_pure rfl rfl rfl (pure_move rfl gU) ?_
    refine al_callB1 (.o 0) rfl rfl rfl rfl rfl rfl (hN) rfl (by rfl) (by rfl) rfl rfl rfl ?_
    refine al_pure rfl rfl rfl (pure_assign rfl gU) ?_
    refine al_nil ?_
    refine awp_sub (s := { t := [(0, _, _), (1, _, _), (2, _, _), (6, _, _), (10, _, _)], bx := [((.l 6), _), ((.o 0), _)], ow := [] }) (sub_mk (⟨sx rfl, ⟨sx rfl, ⟨sx rfl, ⟨sx rfl, ⟨sx rfl, trivial⟩⟩⟩⟩⟩) (⟨sx rfl, ⟨sx rfl, trivial⟩⟩) trivial) ?_
    refine awp_seq ?_
    refine awp_seq (awp_region ?_)
    refine al_pure rfl rfl rfl (pure_move rfl gU) ?_
    refine al_pure rfl rfl rfl (pure_nilCheck rfl gU) ?_
    refine al_pure rfl rfl rfl (pure_fieldPtr rfl gU rfl rfl) ?_
    refine al_pure rfl rfl rfl (pure_loadBox rfl gU rfl rfl rfl rfl) ?_
    refine al_nil ?_
    refine awp_cond rfl (fun hc => ?_) (fun hc => ?_)
    · try simp only [nn, Fd.rows_len, Fm.rows_len, V.rows_len] at hc
      refine awp_seq (awp_region ?_)
      refine al_pure rfl rfl rfl (pure_build rfl Try.underlying25 rfl gU) ?_
      refine al_do rfl (does_store rfl rfl rfl rfl rfl rfl rfl) ?_
      refine al_nil ?_
      refine awp_ret ?_
      repeat (first | refine tR ?_ | refine bR ?_)
      refine ret_ok rfl ?_ (⟨⟨_, rfl, ?_⟩, trivial⟩)
      · rfl
      · rfl
    · simp at hc
  · rw [q2] at hN; dsimp only at hN
    rw [nestP, if_neg (by omega), if_neg q3]
    refine awp_seq (awp_region ?_)
    refine al_do rfl (does_alloc rfl rfl rfl) ?_
    refine al_nil ?_
    refine awp_seq (awp_region ?_)
    refine al_pure rfl rfl rfl (pure_move rfl gU) ?_
    refine al_pure rfl rfl rfl (pure_nilCheck rfl gU) ?_
    refine al_pure rfl rfl rfl (pure_fieldPtr rfl gU rfl rfl) ?_
    refine al_pure rfl rfl rfl (pure_loadBox rfl gU rfl rfl rfl rfl) ?_
    refine al_pure rfl rfl rfl (pure_move rfl gU) ?_
    refine al_call rfl rfl rfl rfl rfl rfl gU gU (fBounds_spec _ _) rfl ?_
    refine al_pure rfl rfl rfl (pure_move rfl gU) ?_
    refine al_pure rfl rfl rfl (pure_extract rfl gU rfl) ?_
    refine al_pure rfl rfl rfl (pure_extract rfl gU rfl) ?_
    refine al_pure rfl rfl rfl (pure_extract rfl gU rfl) ?_
    refine al_pure rfl rfl rfl (pure_assign rfl gU) ?_
    refine al_sub (s := { t := [(0, _, _), (1, _, _), (2, _, _), (6, _, _), (7, _, _), (21, _, _), (22, _, _)], bx := [((.l 6), _), ((.o 0), _)], ow := [] }) (sub_mk (⟨sx rfl, ⟨sx rfl, ⟨sx rfl, ⟨sx rfl, ⟨sx rfl, ⟨sx rfl, ⟨sx rfl, trivial⟩⟩⟩⟩⟩⟩⟩) (⟨sx rfl, ⟨sx rfl, trivial⟩⟩) trivial) ?_
    refine al_pure rfl rfl rfl (pure_assign rfl gU) ?_
    refine al_pure rfl rfl rfl (pure_assign rfl gU) ?_
    refine al_nil ?_
    refine awp_seq (awp_region ?_)
    refine al_pure rfl rfl rfl (pure_move rfl gU) ?_
    refine al_pure rfl rfl rfl (pure_move rfl gU) ?_
    refine al_pure rfl rfl rfl (pure_move rfl gU) ?_
    refine al_pure rfl rfl rfl (pure_move rfl gU) ?_
    refine al_callB1 (.o 0) rfl rfl rfl rfl rfl rfl (hN) rfl (by rfl) (by rfl) rfl rfl rfl ?_
    refine al_pure rfl rfl rfl (pure_assign rfl gU) ?_
    refine al_nil ?_
    refine awp_sub (s := { t := [(0, _, _), (1, _, _), (2, _, _), (6, _, _), (10, _, _)], bx := [((.l 6), _), ((.o 0), _)], ow := [] }) (sub_mk (⟨sx rfl, ⟨sx rfl, ⟨sx rfl, ⟨sx rfl, ⟨sx rfl, trivial⟩⟩⟩⟩⟩) (⟨sx rfl, ⟨sx rfl, trivial⟩⟩) trivial) ?_
    refine awp_seq ?_
    refine awp_seq (awp_region ?_)
    refine al_pure rfl rfl rfl (pure_move rfl gU) ?_
    refine al_pure rfl rfl rfl (pure_nilCheck rfl gU) ?_
    refine al_pure rfl rfl rfl (pure_fieldPtr rfl gU rfl rfl) ?_
    refine al_pure rfl rfl rfl (pure_loadBox rfl gU rfl rfl rfl rfl) ?_
    refine al_nil ?_
    refine awp_cond rfl (fun hc => ?_) (fun hc => ?_)
    · simp at hc
    · try simp only [nn, Fd.rows_len, Fm.rows_len, V.rows_len] at hc
      refine awp_skip ?_
      refine awp_seq ?_
      refine awp_seq (awp_region ?_)
      refine al_pure rfl rfl rfl (pure_move rfl gU) ?_
      refine al_pure rfl rfl rfl (pure_move rfl gU) ?_
      refine al_pure rfl rfl rfl (pure_move rfl gU) ?_
      refine al_pure rfl rfl rfl (pure_nilCheck rfl gU) ?_
      refine al_pure rfl rfl rfl (pure_fieldPtr rfl gU rfl rfl) ?_
      refine al_pure rfl rfl rfl (pure_loadBox rfl gU rfl rfl rfl rfl) ?_
      refine al_pure rfl rfl rfl (pure_arith rfl rfl gU gU rfl (IntWalk.i64_in _ (by omega))) ?_
      refine al_pure rfl rfl rfl (pure_cmp rfl rfl gU gU rfl) ?_
      refine al_nil ?_
      refine awp_sub (s := { t := [(0, _, _), (1, _, _), (2, _, _), (6, _, _), (10, _, _), (40, _, _)], bx := [((.l 6), _), ((.o 0), _)], ow := [] }) (sub_mk (⟨sx rfl, ⟨sx rfl, ⟨sx rfl, ⟨sx rfl, ⟨sx rfl, ⟨sx rfl, trivial⟩⟩⟩⟩⟩⟩) (⟨sx rfl, ⟨sx rfl, trivial⟩⟩) trivial) ?_
      refine awp_cond rfl (fun hc2 => ?_) (fun hc2 => ?_)
      · try simp only [nn, Fd.rows_len, Fm.rows_len, V.rows_len] at hc2
        rw [if_pos (by omega)]
        refine awp_seq (awp_region ?_)
        refine al_pure rfl rfl rfl (pure_move rfl gU) ?_
        refine al_pure rfl rfl rfl (pure_move rfl gU) ?_
        refine al_callB1 (.o 0) rfl rfl rfl rfl rfl rfl (cfail_spec _ _ _ _ _) rfl (by rfl) (by rfl) rfl rfl rfl ?_
        refine al_nil ?_
        refine awp_seq (awp_region ?_)
        refine al_pure rfl rfl rfl (pure_build rfl Try.underlying25 rfl gU) ?_
        refine al_do rfl (does_store rfl rfl rfl rfl rfl rfl rfl) ?_
        refine al_nil ?_
        refine awp_ret ?_
        repeat (first | refine tR ?_ | refine bR ?_)
        refine ret_ok rfl ?_ (⟨⟨_, rfl, ?_⟩, trivial⟩)
        · rfl
        · rfl
      · try simp only [nn, Fd.rows_len, Fm.rows_len, V.rows_len] at hc2
        rw [if_neg (by omega)]
        have hpl := hle (a + 1) (a + 1 + (s.getD a 0).toNat) (by omega)
        refine awp_skip ?_
        refine awp_seq (awp_region ?_)
        refine al_pure rfl rfl rfl (pure_move rfl gU) ?_
        refine al_pure rfl rfl rfl (pure_nilCheck rfl gU) ?_
        refine al_pure rfl rfl rfl (pure_fieldPtr rfl gU rfl rfl) ?_
        refine al_pure rfl rfl rfl (pure_loadBox rfl gU rfl rfl rfl rfl) ?_
        refine al_pure rfl rfl rfl (pure_move rfl gU) ?_
        refine al_pure rfl rfl rfl (pure_arith rfl rfl gU gU rfl (IntWalk.i64_in _ (by omega))) ?_
        refine al_pure rfl rfl rfl (pure_assign rfl gU) ?_
        refine al_nil ?_
        refine awp_sub (s := { t := [(0, _, _), (1, _, _), (6, _, _), (11, _, _)], bx := [((.l 6), _), ((.o 0), _)], ow := [] }) (sub_mk (⟨sx rfl, ⟨sx rfl, ⟨sx rfl, ⟨sx rfl, trivial⟩⟩⟩⟩) (⟨sx rfl, ⟨sx rfl, trivial⟩⟩) trivial) ?_
        refine awp_seq (awp_region ?_)
        refine al_pure rfl rfl rfl (pure_move rfl gU) ?_
        refine al_pure rfl rfl rfl (pure_move rfl gU) ?_
        refine al_pure rfl rfl rfl (pure_move rfl gU) ?_
        refine al_callB1 (.o 0) rfl rfl rfl rfl rfl rfl (hrec (a + 1) (a + 1 + (s.getD a 0).toNat) (by omega) (by omega) _ (((a + 1 : Nat) : Int) + ((s.getD a 0).toNat : Int)) rfl (by omega)) rfl (by rfl) (by rfl) rfl rfl rfl ?_
        refine al_do rfl (does_alloc rfl rfl rfl) ?_
        refine al_do rfl (does_store rfl rfl rfl rfl rfl rfl rfl) ?_
        refine al_nil ?_
        refine awp_sub (s := { t := [(0, _, _), (6, _, _), (11, _, _), (12, _, _)], bx := [((.l 12), _), ((.l 6), _), ((.o 0), _)], ow := [] }) (sub_mk (⟨sx rfl, ⟨sx rfl, ⟨sx rfl, ⟨sx rfl, trivial⟩⟩⟩⟩) (⟨sx rfl, ⟨sx rfl, ⟨sx rfl, trivial⟩⟩⟩) trivial) ?_
        refine awp_seq ?_
        refine awp_seq (awp_region ?_)
        refine al_pure rfl rfl rfl (pure_move rfl gU) ?_
        refine al_pure rfl rfl rfl (pure_nilCheck rfl gU) ?_
        refine al_pure rfl rfl rfl (pure_fieldPtr rfl gU rfl rfl) ?_
        refine al_pure rfl rfl rfl (pure_loadBox rfl gU rfl rfl rfl rfl) ?_
        refine al_pure rfl rfl rfl (pure_not rfl gU) ?_
        refine al_pure rfl rfl rfl (pure_move rfl gU) ?_
        refine al_pure rfl rfl rfl (pure_move rfl gU) ?_
        refine al_pure rfl rfl rfl (pure_nilCheck rfl (fun hh => hh)) ?_
        refine al_pure rfl rfl rfl (pure_fieldPtr rfl (fun hh => hh) rfl rfl) ?_
        refine al_pure rfl rfl rfl (pure_loadBox rfl (fun hh => hh) rfl rfl rfl rfl) ?_
        refine al_pure rfl rfl rfl (pure_move rfl gU) ?_
        refine al_pure rfl rfl rfl (pure_cmp rfl rfl (fun hh => hh) (fun hh => hh) rfl) ?_
        refine al_sub (s := { t := [(0, _, _), (6, _, _), (12, _, _), (60, _, _), (66, _, _)], bx := [((.l 12), _), ((.l 6), _), ((.o 0), _)], ow := [] }) (sub_mk (⟨sx rfl, ⟨sx rfl, ⟨sx rfl, ⟨sx rfl, ⟨sx rfl, trivial⟩⟩⟩⟩⟩) (⟨sx rfl, ⟨sx rfl, ⟨sx rfl, trivial⟩⟩⟩) trivial) ?_
        refine al_pure rfl rfl rfl (pure_and rfl rfl gU (fun _ hi => gP rfl hi)) ?_
        refine al_nil ?_
        refine awp_cond rfl (fun hc3 => ?_) (fun hc3 => ?_)
        · try simp only [nn, Fd.rows_len, Fm.rows_len, V.rows_len] at hc3
          rw [if_pos ⟨hc3.1, by omega⟩]
          refine awp_region ?_
          refine al_pure rfl rfl rfl (pure_move rfl gU) ?_
          refine al_pure rfl rfl rfl (pure_move rfl gU) ?_
          refine al_pure rfl rfl rfl (pure_nilCheck rfl gU) ?_
          refine al_pure rfl rfl rfl (pure_fieldPtr rfl gU rfl rfl) ?_
          refine al_pure rfl rfl rfl (pure_loadBox rfl gU rfl rfl rfl rfl) ?_
          refine al_callB1 (.o 0) rfl rfl rfl rfl rfl rfl (cfail_spec _ _ _ _ _) rfl (by rfl) (by rfl) rfl rfl rfl ?_
          refine al_nil ?_
          refine awp_sub (s := { t := [(6, _, _), (12, _, _)], bx := [((.l 12), _), ((.l 6), _), ((.o 0), _)], ow := [] }) (sub_mk (⟨sx rfl, ⟨sx rfl, trivial⟩⟩) (⟨sx rfl, ⟨sx rfl, ⟨sx rfl, trivial⟩⟩⟩) trivial) ?_
          refine awp_seq (awp_region ?_)
          refine al_pure rfl rfl rfl (pure_loadBoxRow rfl gU rfl rfl rfl rfl rfl) ?_
          refine al_do rfl (does_store rfl rfl rfl rfl rfl rfl rfl) ?_
          refine al_nil ?_
          refine awp_ret ?_
          repeat (first | refine tR ?_ | refine bR ?_)
          refine ret_ok rfl ?_ (⟨⟨_, rfl, ?_⟩, trivial⟩)
          · rfl
          · rfl
        · try simp only [nn, Fd.rows_len, Fm.rows_len, V.rows_len] at hc3
          rw [if_neg (by intro hq; apply hc3.elim <;> simp_all <;> omega)]
          refine awp_skip ?_
          refine awp_seq (awp_region ?_)
          refine al_pure rfl rfl rfl (pure_loadBoxRow rfl gU rfl rfl rfl rfl rfl) ?_
          refine al_do rfl (does_store rfl rfl rfl rfl rfl rfl rfl) ?_
          refine al_nil ?_
          refine awp_ret ?_
          repeat (first | refine tR ?_ | refine bR ?_)
          refine ret_ok rfl ?_ (⟨⟨_, rfl, ?_⟩, trivial⟩)
          · rfl
          · rfl
theorem cfield_rd (t : List Fm) (f : Fd) (s : List UInt8) (a e : Nat) (ai ei : Int) (pre : Bool) (rec : Int → Nat → Nat → Pl) (hf : FdOk f) (ha : ai = a) (he : ei = e) (h1 : a ≤ e) (h2 : e ≤ s.length) (hs : s.length ≤ 100000)
    (hle : f.kind = 5 → ∀ b c, b ≤ c → b ≤ (rec f.n b c).p ∧ (rec f.n b c).p ≤ c)
    (hrec : f.kind = 5 → ∀ b c, b ≤ c → c ≤ s.length → ∀ bi ci : Int, bi = b → ci = c → Ctr sys 41 [pp, xi f.n, xi ci, xb false] [rc t s bi false] (xv (rec f.n b c).v) none [rc t s (rec f.n b c).p (!(rec f.n b c).ok)]) :
    Ctr sys 62 [pp, xf f, xi ei, xb pre] [rc t s ai false] (xv (fldP true rec t f s a e pre).v) none [rc t s (fldP true rec t f s a e pre).p (!(fldP true rec t f s a e pre).ok)] := by
  subst ha; subst he
  obtain ⟨hk, hb, hn, hl, hh, hlh, _⟩ := hf
  have hu := u8_lt' (s.getD a 0)
  refine spec_intro Try.func62 rfl rfl rfl rfl rfl rfl ?_
  refine awp_seq (awp_region ?_)
  refine al_do rfl (does_box rfl rfl rfl rfl) ?_
  refine al_do rfl (does_alloc rfl rfl rfl) ?_
  refine al_nil ?_
  refine awp_seq ?_
  refine awp_seq (awp_region ?_)
  refine al_pure rfl rfl rfl (pure_fieldPtr rfl gU rfl rfl) ?_
  refine al_pure rfl rfl rfl (pure_loadBox rfl gU rfl rfl rfl rfl) ?_
  refine al_nil ?_
  refine awp_block ?_
  refine awp_seq (awp_region ?_)
  refine al_pure rfl rfl rfl (pure_cmp rfl rfl gU gU rfl) ?_
  refine al_pure rfl rfl rfl (pure_assign rfl gU) ?_
  refine al_nil ?_
  refine awp_sub (s := { t := [(0, _, _), (2, _, _), (3, _, _), (5, _, _), (8, _, _), (12, _, _), (13, _, _)], bx := [((.l 5), _), ((.l 8), _), ((.o 0), _)], ow := [] }) (sub_mk (⟨sx rfl, ⟨sx rfl, ⟨sx rfl, ⟨sx rfl, ⟨sx rfl, ⟨sx rfl, ⟨sx rfl, trivial⟩⟩⟩⟩⟩⟩⟩) (⟨sx rfl, ⟨sx rfl, ⟨sx rfl, trivial⟩⟩⟩) trivial) ?_
  refine awp_cond rfl (fun hc => ?_) (fun hc => ?_)
  · try simp only [nn, Fd.rows_len, Fm.rows_len, V.rows_len] at hc
    rw [fldP, if_pos hc]
    refine awp_region ?_
    refine al_pure rfl rfl rfl (pure_move rfl gU) ?_
    refine al_pure rfl rfl rfl (pure_fieldPtr rfl gU rfl rfl) ?_
    refine al_pure rfl rfl rfl (pure_loadBox rfl gU rfl rfl rfl rfl) ?_
    refine al_pure rfl rfl rfl (pure_move rfl gU) ?_
    refine al_callB1 (.o 0) rfl rfl rfl rfl rfl rfl (ctag_spec t s f.bytes a e _ _ rfl rfl h1 h2 hs (by omega)) rfl (by rfl) (by rfl) rfl rfl rfl ?_
    refine al_nil ?_
    refine awp_sub (s := { t := [(8, _, _)], bx := [((.l 8), _), ((.o 0), _)], ow := [] }) (sub_mk (⟨sx rfl, trivial⟩) (⟨sx rfl, ⟨sx rfl, trivial⟩⟩) trivial) ?_
    refine awp_seq (awp_region ?_)
    refine al_pure rfl rfl rfl (pure_build rfl Try.underlying25 rfl gU) ?_
    refine al_do rfl (does_store rfl rfl rfl rfl rfl rfl rfl) ?_
    refine al_nil ?_
    refine awp_ret ?_
    repeat (first | refine tR ?_ | refine bR ?_)
    refine ret_ok rfl ?_ (⟨⟨_, rfl, ?_⟩, trivial⟩)
    · exact xv_eq tagP_v.symm
    · rfl
  · try simp only [nn, Fd.rows_len, Fm.rows_len, V.rows_len] at hc
    rw [fldP, if_neg hc]
    refine awp_seq (awp_region ?_)
    refine al_pure rfl rfl rfl (pure_cmp rfl rfl gU gU rfl) ?_
    refine al_pure rfl rfl rfl (pure_assign rfl gU) ?_
    refine al_nil ?_
    refine awp_cond rfl (fun hc2 => ?_) (fun hc2 => ?_)
    · try simp only [nn, Fd.rows_len, Fm.rows_len, V.rows_len] at hc2
      rw [if_pos hc2]
      refine awp_seq (awp_region ?_)
      refine al_pure rfl rfl rfl (pure_move rfl gU) ?_
      refine al_pure rfl rfl rfl (pure_fieldPtr rfl gU rfl rfl) ?_
      refine al_pure rfl rfl rfl (pure_loadBox rfl gU rfl rfl rfl rfl) ?_
      refine al_pure rfl rfl rfl (pure_move rfl gU) ?_
      refine al_callB1 (.o 0) rfl rfl rfl rfl rfl rfl (ctake_spec t s a f.n.toNat e _ f.n _ rfl (by omega) rfl h1 h2 hs (by omega)) rfl (by rfl) (by rfl) rfl rfl rfl ?_
      refine al_pure rfl rfl rfl (pure_build rfl Try.underlying25 rfl gU) ?_
      refine al_do rfl (does_store rfl rfl rfl rfl rfl rfl rfl) ?_
      refine al_nil ?_
      refine awp_ret ?_
      repeat (first | refine tR ?_ | refine bR ?_)
      refine ret_ok rfl ?_ (⟨⟨_, rfl, ?_⟩, trivial⟩)
      · exact xv_eq (takeP_v _ _ _ _).symm
      · rfl
    · try simp only [nn, Fd.rows_len, Fm.rows_len, V.rows_len] at hc2
      rw [if_neg hc2]
      refine awp_seq (awp_region ?_)
      refine al_pure rfl rfl rfl (pure_cmp rfl rfl gU gU rfl) ?_
      refine al_pure rfl rfl rfl (pure_assign rfl gU) ?_
      refine al_nil ?_
      refine awp_cond rfl (fun hc3 => ?_) (fun hc3 => ?_)
      · try simp only [nn, Fd.rows_len, Fm.rows_len, V.rows_len] at hc3
        rw [if_pos hc3]
        have hN := cnum_spec t s a e _ _ 0 f.n rfl rfl h1 h2 hs
        rcases numP_cases s a e 0 f.n with ⟨q1, q2⟩ | ⟨q1, q3, q2⟩ | ⟨q1, q3, q2⟩
        · rw [q2] at hN; dsimp only at hN
          rw [if_pos q1]
          refine awp_seq (awp_region ?_)
          refine al_pure rfl rfl rfl (pure_move rfl gU) ?_
          refine al_pure rfl rfl rfl (pure_fieldPtr rfl gU rfl rfl) ?_
          refine al_pure rfl rfl rfl (pure_loadBox rfl gU rfl rfl rfl rfl) ?_
          refine al_pure rfl rfl rfl (pure_move rfl gU) ?_
          refine al_callB1 (.o 0) rfl rfl rfl rfl rfl rfl (hN) rfl (by rfl) (by rfl) rfl rfl rfl ?_
          refine al_pure rfl rfl rfl (pure_assign rfl gU) ?_
          refine al_nil ?_
          refine awp_sub (s := { t := [(0, _, _), (2, _, _), (8, _, _), (9, _, _)], bx := [((.l 8), _), ((.o 0), _)], ow := [] }) (sub_mk (⟨sx rfl, ⟨sx rfl, ⟨sx rfl, ⟨sx rfl, trivial⟩⟩⟩⟩) (⟨sx rfl, ⟨sx rfl, trivial⟩⟩) trivial) ?_
          refine awp_seq (awp_region ?_)
          refine al_pure rfl rfl rfl (pure_move rfl gU) ?_
          refine al_pure rfl rfl rfl (pure_nilCheck rfl gU) ?_
          refine al_pure rfl rfl rfl (pure_fieldPtr rfl gU rfl rfl) ?_
          refine al_pure rfl rfl rfl (pure_loadBox rfl gU rfl rfl rfl rfl) ?_
          refine al_pure rfl rfl rfl (pure_not rfl gU) ?_
          refine al_nil ?_
          refine awp_sub (s := { t := [(0, _, _), (2, _, _), (8, _, _), (9, _, _), (39, _, _)], bx := [((.l 8), _), ((.o 0), _)], ow := [] }) (sub_mk (⟨sx rfl, ⟨sx rfl, ⟨sx rfl, ⟨sx rfl, ⟨sx rfl, trivial⟩⟩⟩⟩⟩) (⟨sx rfl, ⟨sx rfl, trivial⟩⟩) trivial) ?_
          refine awp_cond rfl (fun hc4 => ?_) (fun hc4 => ?_)
          · simp at hc4
          · refine awp_skip ?_
            refine awp_seq (awp_region ?_)
            refine al_pure rfl rfl rfl (pure_build rfl Try.underlying25 rfl gU) ?_
            refine al_do rfl (does_store rfl rfl rfl rfl rfl rfl rfl) ?_
            refine al_nil ?_
            refine awp_ret ?_
            repeat (first | refine tR ?_ | refine bR ?_)
            refine ret_ok rfl ?_ (⟨⟨_, rfl, ?_⟩, trivial⟩)
            · rfl
            · rfl
        · rw [q2] at hN; dsimp only at hN
          rw [if_neg (by omega), if_pos (by omega)]
          refine awp_seq (awp_region ?_)
          refine al_pure rfl rfl rfl (pure_move rfl gU) ?_
          refine al_pure rfl rfl rfl (pure_fieldPtr rfl gU rfl rfl) ?_
          refine al_pure rfl rfl rfl (pure_loadBox rfl gU rfl rfl rfl rfl) ?_
          refine al_pure rfl rfl rfl (pure_move rfl gU) ?_
          refine al_callB1 (.o 0) rfl rfl rfl rfl rfl rfl (hN) rfl (by rfl) (by rfl) rfl rfl rfl ?_
          refine al_pure rfl rfl rfl (pure_assign rfl gU) ?_
          refine al_nil ?_
          refine awp_sub (s := { t := [(0, _, _), (2, _, _), (8, _, _), (9, _, _)], bx := [((.l 8), _), ((.o 0), _)], ow := [] }) (sub_mk (⟨sx rfl, ⟨sx rfl, ⟨sx rfl, ⟨sx rfl, trivial⟩⟩⟩⟩) (⟨sx rfl, ⟨sx rfl, trivial⟩⟩) trivial) ?_
          refine awp_seq (awp_region ?_)
          refine al_pure rfl rfl rfl (pure_move rfl gU) ?_
          refine al_pure rfl rfl rfl (pure_nilCheck rfl gU) ?_
          refine al_pure rfl rfl rfl (pure_fieldPtr rfl gU rfl rfl) ?_
          refine al_pure rfl rfl rfl (pure_loadBox rfl gU rfl rfl rfl rfl) ?_
          refine al_pure rfl rfl rfl (pure_not rfl gU) ?_
          refine al_nil ?_
          refine awp_sub (s := { t := [(0, _, _), (2, _, _), (8, _, _), (9, _, _), (39, _, _)], bx := [((.l 8), _), ((.o 0), _)], ow := [] }) (sub_mk (⟨sx rfl, ⟨sx rfl, ⟨sx rfl, ⟨sx rfl, ⟨sx rfl, trivial⟩⟩⟩⟩⟩) (⟨sx rfl, ⟨sx rfl, trivial⟩⟩) trivial) ?_
          refine awp_cond rfl (fun hc4 => ?_) (fun hc4 => ?_)
          · simp at hc4
          · refine awp_skip ?_
            refine awp_seq (awp_region ?_)
            refine al_pure rfl rfl rfl (pure_build rfl Try.underlying25 rfl gU) ?_
            refine al_do rfl (does_store rfl rfl rfl rfl rfl rfl rfl) ?_
            refine al_nil ?_
            refine awp_ret ?_
            repeat (first | refine tR ?_ | refine bR ?_)
            refine ret_ok rfl ?_ (⟨⟨_, rfl, ?_⟩, trivial⟩)
            · rfl
            · rfl
        · rw [q2] at hN; dsimp only at hN
          rw [if_neg (by omega), if_neg (by omega)]
          refine awp_seq (awp_region ?_)
          refine al_pure rfl rfl rfl (pure_move rfl gU) ?_
          refine al_pure rfl rfl rfl (pure_fieldPtr rfl gU rfl rfl) ?_
          refine al_pure rfl rfl rfl (pure_loadBox rfl gU rfl rfl rfl rfl) ?_
          refine al_pure rfl rfl rfl (pure_move rfl gU) ?_
          refine al_callB1 (.o 0) rfl rfl rfl rfl rfl rfl (hN) rfl (by rfl) (by rfl) rfl rfl rfl ?_
          refine al_pure rfl rfl rfl (pure_assign rfl gU) ?_
          refine al_nil ?_
          refine awp_sub (s := { t := [(0, _, _), (2, _, _), (8, _, _), (9, _, _)], bx := [((.l 8), _), ((.o 0), _)], ow := [] }) (sub_mk (⟨sx rfl, ⟨sx rfl, ⟨sx rfl, ⟨sx rfl, trivial⟩⟩⟩⟩) (⟨sx rfl, ⟨sx rfl, trivial⟩⟩) trivial) ?_
          refine awp_seq (awp_region ?_)
          refine al_pure rfl rfl rfl (pure_move rfl gU) ?_
          refine al_pure rfl rfl rfl (pure_nilCheck rfl gU) ?_
          refine al_pure rfl rfl rfl (pure_fieldPtr rfl gU rfl rfl) ?_
          refine al_pure rfl rfl rfl (pure_loadBox rfl gU rfl rfl rfl rfl) ?_
          refine al_pure rfl rfl rfl (pure_not rfl gU) ?_
          refine al_nil ?_
          refine awp_sub (s := { t := [(0, _, _), (2, _, _), (8, _, _), (9, _, _), (39, _, _)], bx := [((.l 8), _), ((.o 0), _)], ow := [] }) (sub_mk (⟨sx rfl, ⟨sx rfl, ⟨sx rfl, ⟨sx rfl, ⟨sx rfl, trivial⟩⟩⟩⟩⟩) (⟨sx rfl, ⟨sx rfl, trivial⟩⟩) trivial) ?_
          refine awp_cond rfl (fun hc4 => ?_) (fun hc4 => ?_)
          · skip
            refine awp_seq (awp_region ?_)
            refine al_pure rfl rfl rfl (pure_move rfl gU) ?_
            refine al_pure rfl rfl rfl (pure_move rfl gU) ?_
            refine al_pure rfl rfl rfl (pure_move rfl gU) ?_
            refine al_callB1 (.o 0) rfl rfl rfl rfl rfl rfl (ctake_spec t s (a + 1) (s.getD a 0).toNat e _ _ _ rfl rfl rfl (by omega) h2 hs (by omega)) rfl (by rfl) (by rfl) rfl rfl rfl ?_
            refine al_pure rfl rfl rfl (pure_build rfl Try.underlying25 rfl gU) ?_
            refine al_do rfl (does_store rfl rfl rfl rfl rfl rfl rfl) ?_
            refine al_nil ?_
            refine awp_ret ?_
            repeat (first | refine tR ?_ | refine bR ?_)
            refine ret_ok rfl ?_ (⟨⟨_, rfl, ?_⟩, trivial⟩)
            · exact xv_eq (takeP_v _ _ _ _).symm
            · rfl
          · simp at hc4
      · try simp only [nn, Fd.rows_len, Fm.rows_len, V.rows_len] at hc3
        rw [if_neg hc3]
        refine awp_seq (awp_region ?_)
        refine al_pure rfl rfl rfl (pure_cmp rfl rfl gU gU rfl) ?_
        refine al_pure rfl rfl rfl (pure_assign rfl gU) ?_
        refine al_nil ?_
        refine awp_sub (s := { t := [(0, _, _), (2, _, _), (3, _, _), (5, _, _), (8, _, _), (12, _, _), (45, _, _)], bx := [((.l 5), _), ((.l 8), _), ((.o 0), _)], ow := [] }) (sub_mk (⟨sx rfl, ⟨sx rfl, ⟨sx rfl, ⟨sx rfl, ⟨sx rfl, ⟨sx rfl, ⟨sx rfl, trivial⟩⟩⟩⟩⟩⟩⟩) (⟨sx rfl, ⟨sx rfl, ⟨sx rfl, trivial⟩⟩⟩) trivial) ?_
        refine awp_cond rfl (fun hc5 => ?_) (fun hc5 => ?_)
        · try simp only [nn, Fd.rows_len, Fm.rows_len, V.rows_len] at hc5
          rw [if_pos hc5]
          have hN := cnum_spec t s a e _ _ f.low f.high rfl rfl h1 h2 hs
          rcases numP_cases s a e f.low f.high with ⟨q1, q2⟩ | ⟨q1, q3, q2⟩ | ⟨q1, q3, q2⟩
          · rw [q2] at hN; dsimp only at hN
            rw [if_pos q1]
            refine awp_seq (awp_region ?_)
            refine al_pure rfl rfl rfl (pure_move rfl gU) ?_
            refine al_pure rfl rfl rfl (pure_fieldPtr rfl gU rfl rfl) ?_
            refine al_pure rfl rfl rfl (pure_loadBox rfl gU rfl rfl rfl rfl) ?_
            refine al_pure rfl rfl rfl (pure_fieldPtr rfl gU rfl rfl) ?_
            refine al_pure rfl rfl rfl (pure_loadBox rfl gU rfl rfl rfl rfl) ?_
            refine al_pure rfl rfl rfl (pure_move rfl gU) ?_
            refine al_callB1 (.o 0) rfl rfl rfl rfl rfl rfl (hN) rfl (by rfl) (by rfl) rfl rfl rfl ?_
            refine al_pure rfl rfl rfl (pure_build rfl Try.underlying25 rfl gU) ?_
            refine al_do rfl (does_store rfl rfl rfl rfl rfl rfl rfl) ?_
            refine al_nil ?_
            refine awp_ret ?_
            repeat (first | refine tR ?_ | refine bR ?_)
            refine ret_ok rfl ?_ (⟨⟨_, rfl, ?_⟩, trivial⟩)
            · rfl
            · rfl
          · rw [q2] at hN; dsimp only at hN
            rw [if_neg (by omega), if_pos q3]
            refine awp_seq (awp_region ?_)
            refine al_pure rfl rfl rfl (pure_move rfl gU) ?_
            refine al_pure rfl rfl rfl (pure_fieldPtr rfl gU rfl rfl) ?_
            refine al_pure rfl rfl rfl (pure_loadBox rfl gU rfl rfl rfl rfl) ?_
            refine al_pure rfl rfl rfl (pure_fieldPtr rfl gU rfl rfl) ?_
            refine al_pure rfl rfl rfl (pure_loadBox rfl gU rfl rfl rfl rfl) ?_
            refine al_pure rfl rfl rfl (pure_move rfl gU) ?_
            refine al_callB1 (.o 0) rfl rfl rfl rfl rfl rfl (hN) rfl (by rfl) (by rfl) rfl rfl rfl ?_
            refine al_pure rfl rfl rfl (pure_build rfl Try.underlying25 rfl gU) ?_
            refine al_do rfl (does_store rfl rfl rfl rfl rfl rfl rfl) ?_
            refine al_nil ?_
            refine awp_ret ?_
            repeat (first | refine tR ?_ | refine bR ?_)
            refine ret_ok rfl ?_ (⟨⟨_, rfl, ?_⟩, trivial⟩)
            · rfl
            · rfl
          · rw [q2] at hN; dsimp only at hN
            rw [if_neg (by omega), if_neg q3]
            refine awp_seq (awp_region ?_)
            refine al_pure rfl rfl rfl (pure_move rfl gU) ?_
            refine al_pure rfl rfl rfl (pure_fieldPtr rfl gU rfl rfl) ?_
            refine al_pure rfl rfl rfl (pure_loadBox rfl gU rfl rfl rfl rfl) ?_
            refine al_pure rfl rfl rfl (pure_fieldPtr rfl gU rfl rfl) ?_
            refine al_pure rfl rfl rfl (pure_loadBox rfl gU rfl rfl rfl rfl) ?_
            refine al_pure rfl rfl rfl (pure_move rfl gU) ?_
            refine al_callB1 (.o 0) rfl rfl rfl rfl rfl rfl (hN) rfl (by rfl) (by rfl) rfl rfl rfl ?_
            refine al_pure rfl rfl rfl (pure_build rfl Try.underlying25 rfl gU) ?_
            refine al_do rfl (does_store rfl rfl rfl rfl rfl rfl rfl) ?_
            refine al_nil ?_
            refine awp_ret ?_
            repeat (first | refine tR ?_ | refine bR ?_)
            refine ret_ok rfl ?_ (⟨⟨_, rfl, ?_⟩, trivial⟩)
            · rfl
            · rfl
        · try simp only [nn, Fd.rows_len, Fm.rows_len, V.rows_len] at hc5
          rw [if_neg hc5]
          refine awp_seq (awp_region ?_)
          refine al_pure rfl rfl rfl (pure_cmp rfl rfl gU gU rfl) ?_
          refine al_pure rfl rfl rfl (pure_assign rfl gU) ?_
          refine al_nil ?_
          refine awp_cond rfl (fun hc6 => ?_) (fun hc6 => ?_)
          · try simp only [nn, Fd.rows_len, Fm.rows_len, V.rows_len] at hc6
            rw [if_pos hc6]
            refine awp_seq (awp_region ?_)
            refine al_pure rfl rfl rfl (pure_move rfl gU) ?_
            refine al_pure rfl rfl rfl (pure_fieldPtr rfl gU rfl rfl) ?_
            refine al_pure rfl rfl rfl (pure_loadBox rfl gU rfl rfl rfl rfl) ?_
            refine al_pure rfl rfl rfl (pure_move rfl gU) ?_
            refine al_callB1 (.o 0) rfl rfl rfl rfl rfl rfl (cnest_gen t f.n s a e _ _ rec rfl rfl h1 h2 hs (hle (by assumption)) (hrec (by assumption))) rfl (by rfl) (by rfl) rfl rfl rfl ?_
            refine al_do rfl (does_store rfl rfl rfl rfl rfl rfl rfl) ?_
            refine al_nil ?_
            refine awp_ret ?_
            repeat (first | refine tR ?_ | refine bR ?_)
            refine ret_ok rfl ?_ (⟨⟨_, rfl, ?_⟩, trivial⟩)
            · rfl
            · rfl
          · try simp only [nn, Fd.rows_len, Fm.rows_len, V.rows_len] at hc6
            rw [if_neg hc6]
            refine awp_seq (awp_region ?_)
            refine al_pure rfl rfl rfl (pure_cmp rfl rfl gU gU rfl) ?_
            refine al_pure rfl rfl rfl (pure_assign rfl gU) ?_
            refine al_nil ?_
            refine awp_cond rfl (fun hc7 => ?_) (fun hc7 => ?_)
            · try simp only [nn, Fd.rows_len, Fm.rows_len, V.rows_len] at hc7
              refine awp_seq (awp_region ?_)
              refine al_pure rfl rfl rfl (pure_move rfl gU) ?_
              refine al_pure rfl rfl rfl (pure_move rfl gU) ?_
              refine al_pure rfl rfl rfl (pure_nilCheck rfl gU) ?_
              refine al_pure rfl rfl rfl (pure_fieldPtr rfl gU rfl rfl) ?_
              refine al_pure rfl rfl rfl (pure_loadBox rfl gU rfl rfl rfl rfl) ?_
              refine al_pure rfl rfl rfl (pure_arith rfl rfl gU gU rfl (IntWalk.i64_in _ (by omega))) ?_
              refine al_pure rfl rfl rfl (pure_assign rfl gU) ?_
              refine al_nil ?_
              refine awp_sub (s := { t := [(0, _, _), (2, _, _), (3, _, _), (5, _, _), (8, _, _), (10, _, _)], bx := [((.l 5), _), ((.l 8), _), ((.o 0), _)], ow := [] }) (sub_mk (⟨sx rfl, ⟨sx rfl, ⟨sx rfl, ⟨sx rfl, ⟨sx rfl, ⟨sx rfl, trivial⟩⟩⟩⟩⟩⟩) (⟨sx rfl, ⟨sx rfl, ⟨sx rfl, trivial⟩⟩⟩) trivial) ?_
              refine awp_seq ?_
              refine awp_seq (awp_region ?_)
              refine al_pure rfl rfl rfl (pure_move rfl gU) ?_
              refine al_nil ?_
              refine awp_cond rfl (fun hc8 => ?_) (fun hc8 => ?_)
              · try simp only [nn, Fd.rows_len, Fm.rows_len, V.rows_len] at hc8
                subst hc8
                refine awp_region ?_
                refine al_pure rfl rfl rfl (pure_move rfl gU) ?_
                refine al_pure rfl rfl rfl (pure_fieldPtr rfl gU rfl rfl) ?_
                refine al_pure rfl rfl rfl (pure_loadBox rfl gU rfl rfl rfl rfl) ?_
                refine al_pure rfl rfl rfl (pure_min rfl rfl gU gU) ?_
                refine al_pure rfl rfl rfl (pure_assign rfl gU) ?_
                refine al_nil ?_
                refine awp_sub (s := { t := [(0, _, _), (2, _, _), (5, _, _), (8, _, _), (10, _, _)], bx := [((.l 5), _), ((.l 8), _), ((.o 0), _)], ow := [] }) (sub_mk (⟨sx rfl, ⟨sx rfl, ⟨sx rfl, ⟨sx rfl, ⟨sx rfl, trivial⟩⟩⟩⟩⟩) (⟨sx rfl, ⟨sx rfl, ⟨sx rfl, trivial⟩⟩⟩) trivial) ?_
                refine awp_block ?_
                refine awp_seq (awp_region ?_)
                refine al_pure rfl rfl rfl (pure_move rfl gU) ?_
                refine al_pure rfl rfl rfl (pure_fieldPtr rfl gU rfl rfl) ?_
                refine al_pure rfl rfl rfl (pure_loadBox rfl gU rfl rfl rfl rfl) ?_
                refine al_pure rfl rfl rfl (pure_cmp rfl rfl gU gU rfl) ?_
                refine al_pure rfl rfl rfl (pure_assign rfl gU) ?_
                refine al_nil ?_
                refine awp_sub (s := { t := [(0, _, _), (2, _, _), (5, _, _), (8, _, _), (10, _, _), (80, _, _)], bx := [((.l 5), _), ((.l 8), _), ((.o 0), _)], ow := [] }) (sub_mk (⟨sx rfl, ⟨sx rfl, ⟨sx rfl, ⟨sx rfl, ⟨sx rfl, ⟨sx rfl, trivial⟩⟩⟩⟩⟩⟩) (⟨sx rfl, ⟨sx rfl, ⟨sx rfl, trivial⟩⟩⟩) trivial) ?_
                refine awp_cond rfl (fun hc9 => ?_) (fun hc9 => ?_)
                · try simp only [nn, Fd.rows_len, Fm.rows_len, V.rows_len] at hc9
                  rw [if_pos (by omega)]
                  refine awp_region ?_
                  refine al_pure rfl rfl rfl (pure_move rfl gU) ?_
                  refine al_pure rfl rfl rfl (pure_move rfl gU) ?_
                  refine al_callB1 (.o 0) rfl rfl rfl rfl rfl rfl (cfail_spec _ _ _ _ _) rfl (by rfl) (by rfl) rfl rfl rfl ?_
                  refine al_nil ?_
                  refine awp_seq (awp_region ?_)
                  refine al_pure rfl rfl rfl (pure_build rfl Try.underlying25 rfl gU) ?_
                  refine al_do rfl (does_store rfl rfl rfl rfl rfl rfl rfl) ?_
                  refine al_nil ?_
                  refine awp_ret ?_
                  repeat (first | refine tR ?_ | refine bR ?_)
                  refine ret_ok rfl ?_ (⟨⟨_, rfl, ?_⟩, trivial⟩)
                  · rfl
                  · rfl
                · try simp only [nn, Fd.rows_len, Fm.rows_len, V.rows_len] at hc9
                  refine awp_seq (awp_region ?_)
                  refine al_pure rfl rfl rfl (pure_move rfl gU) ?_
                  refine al_pure rfl rfl rfl (pure_fieldPtr rfl gU rfl rfl) ?_
                  refine al_pure rfl rfl rfl (pure_loadBox rfl gU rfl rfl rfl rfl) ?_
                  refine al_pure rfl rfl rfl (pure_cmp rfl rfl gU gU rfl) ?_
                  refine al_pure rfl rfl rfl (pure_assign rfl gU) ?_
                  refine al_nil ?_
                  refine awp_sub (s := { t := [(0, _, _), (2, _, _), (5, _, _), (8, _, _), (10, _, _), (88, _, _)], bx := [((.l 5), _), ((.l 8), _), ((.o 0), _)], ow := [] }) (sub_mk (⟨sx rfl, ⟨sx rfl, ⟨sx rfl, ⟨sx rfl, ⟨sx rfl, ⟨sx rfl, trivial⟩⟩⟩⟩⟩⟩) (⟨sx rfl, ⟨sx rfl, ⟨sx rfl, trivial⟩⟩⟩) trivial) ?_
                  refine awp_cond rfl (fun hc10 => ?_) (fun hc10 => ?_)
                  · exfalso
                    try simp only [nn, Fd.rows_len, Fm.rows_len, V.rows_len] at hc10
                    omega
                  · rw [if_neg (by omega), if_neg (by simp)]
                    refine awp_seq (awp_region ?_)
                    refine al_pure rfl rfl rfl (pure_move rfl gU) ?_
                    refine al_pure rfl rfl rfl (pure_move rfl gU) ?_
                    refine al_pure rfl rfl rfl (pure_move rfl gU) ?_
                    refine al_callB1 (.o 0) rfl rfl rfl rfl rfl rfl (ctake_spec t s a (min (e - a) f.high.toNat) e _ (min ((e : Int) - (a : Int)) f.high) _ rfl (by omega) rfl h1 h2 hs (by omega)) rfl (by rfl) (by rfl) rfl rfl rfl ?_
                    refine al_pure rfl rfl rfl (pure_build rfl Try.underlying25 rfl gU) ?_
                    refine al_do rfl (does_store rfl rfl rfl rfl rfl rfl rfl) ?_
                    refine al_nil ?_
                    refine awp_ret ?_
                    repeat (first | refine tR ?_ | refine bR ?_)
                    refine ret_ok rfl ?_ (⟨⟨_, rfl, ?_⟩, trivial⟩)
                    · exact xv_eq (takeP_v _ _ _ _).symm
                    · rfl
              · try simp only [nn, Fd.rows_len, Fm.rows_len, V.rows_len] at hc8
                subst hc8
                refine awp_skip ?_
                refine awp_block ?_
                refine awp_seq (awp_region ?_)
                refine al_pure rfl rfl rfl (pure_move rfl gU) ?_
                refine al_pure rfl rfl rfl (pure_fieldPtr rfl gU rfl rfl) ?_
                refine al_pure rfl rfl rfl (pure_loadBox rfl gU rfl rfl rfl rfl) ?_
                refine al_pure rfl rfl rfl (pure_cmp rfl rfl gU gU rfl) ?_
                refine al_pure rfl rfl rfl (pure_assign rfl gU) ?_
                refine al_nil ?_
                refine awp_sub (s := { t := [(0, _, _), (2, _, _), (5, _, _), (8, _, _), (10, _, _), (80, _, _)], bx := [((.l 5), _), ((.l 8), _), ((.o 0), _)], ow := [] }) (sub_mk (⟨sx rfl, ⟨sx rfl, ⟨sx rfl, ⟨sx rfl, ⟨sx rfl, ⟨sx rfl, trivial⟩⟩⟩⟩⟩⟩) (⟨sx rfl, ⟨sx rfl, ⟨sx rfl, trivial⟩⟩⟩) trivial) ?_
                refine awp_cond rfl (fun hc9 => ?_) (fun hc9 => ?_)
                · try simp only [nn, Fd.rows_len, Fm.rows_len, V.rows_len] at hc9
                  rw [if_pos (by omega)]
                  refine awp_region ?_
                  refine al_pure rfl rfl rfl (pure_move rfl gU) ?_
                  refine al_pure rfl rfl rfl (pure_move rfl gU) ?_
                  refine al_callB1 (.o 0) rfl rfl rfl rfl rfl rfl (cfail_spec _ _ _ _ _) rfl (by rfl) (by rfl) rfl rfl rfl ?_
                  refine al_nil ?_
                  refine awp_seq (awp_region ?_)
                  refine al_pure rfl rfl rfl (pure_build rfl Try.underlying25 rfl gU) ?_
                  refine al_do rfl (does_store rfl rfl rfl rfl rfl rfl rfl) ?_
                  refine al_nil ?_
                  refine awp_ret ?_
                  repeat (first | refine tR ?_ | refine bR ?_)
                  refine ret_ok rfl ?_ (⟨⟨_, rfl, ?_⟩, trivial⟩)
                  · rfl
                  · rfl
                · try simp only [nn, Fd.rows_len, Fm.rows_len, V.rows_len] at hc9
                  rw [if_neg (by omega)]
                  refine awp_seq (awp_region ?_)
                  refine al_pure rfl rfl rfl (pure_move rfl gU) ?_
                  refine al_pure rfl rfl rfl (pure_fieldPtr rfl gU rfl rfl) ?_
                  refine al_pure rfl rfl rfl (pure_loadBox rfl gU rfl rfl rfl rfl) ?_
                  refine al_pure rfl rfl rfl (pure_cmp rfl rfl gU gU rfl) ?_
                  refine al_pure rfl rfl rfl (pure_assign rfl gU) ?_
                  refine al_nil ?_
                  refine awp_sub (s := { t := [(0, _, _), (2, _, _), (5, _, _), (8, _, _), (10, _, _), (88, _, _)], bx := [((.l 5), _), ((.l 8), _), ((.o 0), _)], ow := [] }) (sub_mk (⟨sx rfl, ⟨sx rfl, ⟨sx rfl, ⟨sx rfl, ⟨sx rfl, ⟨sx rfl, trivial⟩⟩⟩⟩⟩⟩) (⟨sx rfl, ⟨sx rfl, ⟨sx rfl, trivial⟩⟩⟩) trivial) ?_
                  refine awp_cond rfl (fun hc10 => ?_) (fun hc10 => ?_)
                  · try simp only [nn, Fd.rows_len, Fm.rows_len, V.rows_len] at hc10
                    rw [if_pos ⟨by omega, rfl⟩]
                    refine awp_drawn' (by kernel_rfl) ?_
                    refine dr_pure rfl rfl rfl rfl (pure_move rfl gU) ?_
                    refine dr_pure rfl rfl rfl rfl (pure_move rfl gU) ?_
                    refine dr_pure rfl rfl rfl rfl (pure_nilCheck rfl gU) ?_
                    refine dr_pure rfl rfl rfl rfl (pure_fieldPtr rfl gU rfl rfl) ?_
                    refine dr_load rfl rfl rfl rfl rfl rfl rfl gU rfl rfl rfl rfl ?_
                    refine dr_pure rfl rfl rfl rfl (pure_fieldPtr rfl gU rfl rfl) ?_
                    refine dr_load rfl rfl rfl rfl rfl rfl rfl gU rfl rfl rfl rfl ?_
                    refine dr_pure rfl rfl rfl rfl (pure_arith rfl rfl gU gU rfl (IntWalk.i64_in _ (by omega))) ?_
                    refine dr_callB1 (.o 0) rfl rfl rfl rfl rfl rfl rfl (cfail_spec _ _ _ _ _) rfl (by rfl) (by rfl) rfl rfl rfl ?_
                    refine dr_nil (by kernel_rfl) ?_
                    refine awp_sub (s := { t := [(8, _, _)], bx := [((.l 8), _), ((.o 0), _)], ow := [] }) (sub_mk (⟨sx rfl, trivial⟩) (⟨sx rfl, ⟨sx rfl, trivial⟩⟩) trivial) ?_
                    refine awp_seq (awp_region ?_)
                    refine al_pure rfl rfl rfl (pure_build rfl Try.underlying25 rfl gU) ?_
                    refine al_do rfl (does_store rfl rfl rfl rfl rfl rfl rfl) ?_
                    refine al_nil ?_
                    refine awp_ret ?_
                    repeat (first | refine tR ?_ | refine bR ?_)
                    refine ret_ok rfl ?_ (⟨⟨_, rfl, ?_⟩, trivial⟩)
                    · rfl
                    · exact rc_eq' (by dsimp only; omega) rfl
                  · try simp only [nn, Fd.rows_len, Fm.rows_len, V.rows_len] at hc10
                    rw [if_neg (by omega)]
                    refine awp_seq (awp_region ?_)
                    refine al_pure rfl rfl rfl (pure_move rfl gU) ?_
                    refine al_pure rfl rfl rfl (pure_move rfl gU) ?_
                    refine al_pure rfl rfl rfl (pure_move rfl gU) ?_
                    refine al_callB1 (.o 0) rfl rfl rfl rfl rfl rfl (ctake_spec t s a (min (e - a) f.high.toNat) e _ ((e : Int) - (a : Int)) _ rfl (by omega) rfl h1 h2 hs (by omega)) rfl (by rfl) (by rfl) rfl rfl rfl ?_
                    refine al_pure rfl rfl rfl (pure_build rfl Try.underlying25 rfl gU) ?_
                    refine al_do rfl (does_store rfl rfl rfl rfl rfl rfl rfl) ?_
                    refine al_nil ?_
                    refine awp_ret ?_
                    repeat (first | refine tR ?_ | refine bR ?_)
                    refine ret_ok rfl ?_ (⟨⟨_, rfl, ?_⟩, trivial⟩)
                    · exact xv_eq (takeP_v _ _ _ _).symm
                    · rfl
            · try simp only [nn, Fd.rows_len, Fm.rows_len, V.rows_len] at hc7
              exfalso; omega
theorem cread_gen (t : List Fm) (i : Int) (s : List UInt8) (a0 e : Nat) (ai ei : Int) (pre : Bool) (rec : Int → Nat → Nat → Pl) (ha : ai = a0) (he : ei = e) (h1 : a0 ≤ e) (h2 : e ≤ s.length) (hs : s.length ≤ 100000) (hi : 0 ≤ i ∧ i < t.length)
    (hl6 : (t.getD i.toNat default).fields.length ≤ 6)
    (hfd : ∀ k, k < (t.getD i.toNat default).fields.length → FdOk ((t.getD i.toNat default).fields.getD k default))
    (hle : ∀ k, k < (t.getD i.toNat default).fields.length → ((t.getD i.toNat default).fields.getD k default).kind = 5 → ∀ b c, b ≤ c → b ≤ (rec ((t.getD i.toNat default).fields.getD k default).n b c).p ∧ (rec ((t.getD i.toNat default).fields.getD k default).n b c).p ≤ c)
    (hrec : ∀ k, k < (t.getD i.toNat default).fields.length → ((t.getD i.toNat default).fields.getD k default).kind = 5 → ∀ b c, b ≤ c → c ≤ s.length → ∀ bi ci : Int, bi = b → ci = c →
      Ctr sys 41 [pp, xi ((t.getD i.toNat default).fields.getD k default).n, xi ci, xb false] [rc t s bi false] (xv (rec ((t.getD i.toNat default).fields.getD k default).n b c).v) none
        [rc t s (rec ((t.getD i.toNat default).fields.getD k default).n b c).p (!(rec ((t.getD i.toNat default).fields.getD k default).n b c).ok)]) :
    Ctr sys 41 [pp, xi i, xi ei, xb pre] [rc t s ai false] (xv (readL true rec t s e pre (t.getD i.toNat default).fields [] a0).v) none
      [rc t s (readL true rec t s e pre (t.getD i.toNat default).fields [] a0).p (!(readL true rec t s e pre (t.getD i.toNat default).fields [] a0).ok)] := by
  subst ha; subst he
  have he : (e : Int) = e := rfl
  have hrl := Fm.rows_len t
  have hrf := Fd.rows_len (t.getD i.toNat default).fields
  refine spec_intro Try.func41 rfl rfl rfl rfl rfl rfl ?_
  refine awp_seq (awp_region ?_)
  refine al_do rfl (does_alloc rfl rfl rfl) ?_
  refine al_nil ?_
  refine awp_seq (awp_region ?_)
  refine al_do rfl (does_allocX rfl rfl rfl rfl) ?_
  refine al_nil ?_
  refine awp_seq ?_
  refine awp_seq (awp_region ?_)
  refine al_pure rfl rfl rfl (pure_move rfl gU) ?_
  refine al_pure rfl rfl rfl (pure_nilCheck rfl gU) ?_
  refine al_pure rfl rfl rfl (pure_fieldPtr rfl gU rfl rfl) ?_
  refine al_pure rfl rfl rfl (pure_loadBox rfl gU rfl rfl rfl rfl) ?_
  refine al_pure rfl rfl rfl (pure_move rfl gU) ?_
  refine al_pure rfl rfl rfl (pure_indexAddr (j := i.toNat) rfl rfl gU gU rfl rfl (by first | omega | (simp at hh; omega)) (fun hh => Fm.rows_at (by first | omega | (simp at hh; omega)))) ?_
  refine al_pure rfl rfl rfl (pure_fieldRo rfl gU rfl rfl) ?_
  refine al_pure rfl rfl rfl (pure_loadRo rfl gU rfl rfl rfl) ?_
  refine al_lenSl rfl rfl rfl rfl rfl gU rfl rfl ?_ (fun hh => by simp at hh); intro hlen
  refine al_pure rfl rfl rfl (pure_move rfl gU) ?_
  refine al_nil ?_
  refine awp_sub (s := { t := [(0, _, _), (2, _, _), (3, _, _), (8, _, _), (9, _, _), (20, _, _), (21, _, _), (22, _, _)], bx := [((.l 8), _), ((.l 9), _), ((.o 0), _)], ow := [] }) (sub_mk (⟨sx rfl, ⟨sx rfl, ⟨sx rfl, ⟨sx rfl, ⟨sx rfl, ⟨sx rfl, ⟨sx rfl, ⟨sx rfl, trivial⟩⟩⟩⟩⟩⟩⟩⟩) (⟨sx rfl, ⟨sx rfl, ⟨sx rfl, trivial⟩⟩⟩) trivial) ?_
  refine awp_block ?_
  refine awp_own (.l 9) 2 3 rfl rfl rfl ?_
  refine awp_for (ι := Nat × List V × Nat) { t := [(0, _, _), (2, _, _), (3, _, _), (8, _, _), (9, _, _), (20, _, _), (21, _, _)], bx := [((.l 8), _)], ow := [((.b (.l 9) 2), _)] } (fun p => [(22, true, xi (p.1 : Int))]) (fun p => [((.l 9), [.s [], .i .i64 0, .sl 3 (V.rows p.2.1)]), ((.o 0), rc t s (p.2.2 : Int) false)]) (fun p => p.1 ≤ (t.getD i.toNat default).fields.length ∧ p.2.1.length ≤ p.1 ∧ p.2.2 ≤ e ∧ readL true rec t s e pre ((t.getD i.toNat default).fields.drop p.1) p.2.1 p.2.2 = readL true rec t s e pre (t.getD i.toNat default).fields [] a0) (fun p => (t.getD i.toNat default).fields.length - p.1) ((0, [], a0)) (⟨by simp, by simp, h1, rfl⟩) (sub_mk (⟨sx rfl, ⟨sx rfl, ⟨sx rfl, ⟨sx rfl, ⟨sx rfl, ⟨sx rfl, ⟨sx rfl, ⟨sx rfl, trivial⟩⟩⟩⟩⟩⟩⟩⟩) (⟨sx rfl, ⟨sx rfl, ⟨sx rfl, trivial⟩⟩⟩) (⟨rfl, trivial⟩)) ?_
  intro p hok
  dsimp only [List.cons_append, List.nil_append] at *
  obtain ⟨k, vs, a⟩ := p
  dsimp only at hok ⊢
  obtain ⟨hk, hvk, hae, hinv⟩ := hok
  have hvr := V.rows_len vs
  refine awp_seq (awp_region ?_)
  refine al_pure rfl rfl rfl (pure_cmp rfl rfl gU gU rfl) ?_
  refine al_nil ?_
  refine awp_seq ?_
  refine awp_cond rfl (fun hc => ?_) (fun hc => ?_)
  · try simp only [nn, Fd.rows_len, Fm.rows_len, V.rows_len] at hc
    have hfl := fldP_le (k := true) (t := t) (s := s) (pre := pre) hae (hle k (by omega))
    rw [drop_getD (l := (t.getD i.toNat default).fields) (by omega), readL] at hinv
    refine awp_skip ?_
    refine awp_seq ?_
    refine awp_block ?_
    refine awp_seq (awp_region ?_)
    refine al_pure rfl rfl rfl (pure_indexAddr rfl rfl gU gU rfl rfl rfl (fun hh => Fd.rows_at (by first | omega | (simp at hh; omega)))) ?_
    refine al_pure rfl rfl rfl (pure_loadRoRow rfl gU rfl rfl rfl rfl) ?_
    refine al_do rfl (does_alloc rfl rfl rfl) ?_
    refine al_do rfl (does_store rfl rfl rfl rfl rfl rfl rfl) ?_
    refine al_nil ?_
    refine awp_seq (awp_region ?_)
    refine al_pure rfl rfl rfl (pure_move rfl gU) ?_
    refine al_pure rfl rfl rfl (pure_loadBoxRow rfl gU rfl rfl rfl rfl rfl) ?_
    refine al_pure rfl rfl rfl (pure_move rfl gU) ?_
    refine al_pure rfl rfl rfl (pure_move rfl gU) ?_
    refine al_callB1 (.o 0) rfl rfl rfl rfl rfl rfl (cfield_rd _ _ _ _ _ _ _ _ rec (hfd k (by omega)) rfl he hae h2 hs (hle k (by omega)) (hrec k (by omega))) rfl (by rfl) (by rfl) rfl rfl rfl ?_
    refine al_do rfl (does_alloc rfl rfl rfl) ?_
    refine al_do rfl (does_store rfl rfl rfl rfl rfl rfl rfl) ?_
    refine al_nil ?_
    refine awp_sub (s := { t := [(0, _, _), (2, _, _), (3, _, _), (8, _, _), (9, _, _), (12, _, _), (20, _, _), (21, _, _), (22, _, _)], bx := [((.l 12), _), ((.l 8), _), ((.l 9), _), ((.o 0), _)], ow := [((.b (.l 9) 2), _)] }) (sub_mk (⟨sx rfl, ⟨sx rfl, ⟨sx rfl, ⟨sx rfl, ⟨sx rfl, ⟨sx rfl, ⟨sx rfl, ⟨sx rfl, ⟨sx rfl, trivial⟩⟩⟩⟩⟩⟩⟩⟩⟩) (⟨sx rfl, ⟨sx rfl, ⟨sx rfl, ⟨sx rfl, trivial⟩⟩⟩⟩) (⟨rfl, trivial⟩)) ?_
    refine awp_seq ?_
    refine awp_seq (awp_region ?_)
    refine al_pure rfl rfl rfl (pure_move rfl gU) ?_
    refine al_pure rfl rfl rfl (pure_nilCheck rfl gU) ?_
    refine al_pure rfl rfl rfl (pure_fieldPtr rfl gU rfl rfl) ?_
    refine al_pure rfl rfl rfl (pure_loadBox rfl gU rfl rfl rfl rfl) ?_
    refine al_nil ?_
    refine awp_cond rfl (fun hc2 => ?_) (fun hc2 => ?_)
    · try simp only [nn, Fd.rows_len, Fm.rows_len, V.rows_len] at hc2
      rw [if_neg (by rw [hc2]; exact Bool.false_ne_true)] at hinv
      rw [← hinv]
      refine awp_seq (awp_region ?_)
      refine al_pure rfl rfl rfl (pure_build rfl Try.underlying25 rfl gU) ?_
      refine al_do rfl (does_store rfl rfl rfl rfl rfl rfl rfl) ?_
      refine al_nil ?_
      refine awp_ret ?_
      repeat (first | refine tR ?_ | refine bR ?_)
      refine ret_ok rfl ?_ (⟨⟨_, rfl, ?_⟩, trivial⟩)
      · rfl
      · exact rc_eq' rfl (congrArg not hc2)
    · try simp only [nn, Fd.rows_len, Fm.rows_len, V.rows_len] at hc2
      rw [if_pos hc2] at hinv
      refine awp_skip ?_
      refine awp_region ?_
      refine al_pure rfl rfl rfl (pure_fieldPtr rfl gU rfl rfl) ?_
      refine al_do rfl (does_loadTake rfl rfl rfl rfl rfl rfl rfl) ?_
      refine al_pure rfl rfl rfl (pure_loadBoxRow rfl gU rfl rfl rfl rfl rfl) ?_
      refine al_buildSlice (xs := [_]) rfl rfl rfl rfl rfl rfl rfl rfl rfl gU rfl ?_
      refine al_do rfl (does_append rfl rfl rfl rfl rfl rfl rfl (by simp [V.rows_len]; omega) (by simp [V.rows_len]; omega)) ?_
      refine al_pure rfl rfl rfl (pure_fieldPtr rfl gU rfl rfl) ?_
      refine al_do rfl (does_storeOwn rfl rfl rfl rfl rfl rfl rfl) ?_
      refine al_nil ?_
      refine awp_sub (s := { t := [(0, _, _), (2, _, _), (3, _, _), (8, _, _), (9, _, _), (20, _, _), (21, _, _), (22, _, _)], bx := [((.l 8), _), ((.l 9), _), ((.o 0), _)], ow := [((.b (.l 9) 2), _)] }) (sub_mk (⟨sx rfl, ⟨sx rfl, ⟨sx rfl, ⟨sx rfl, ⟨sx rfl, ⟨sx rfl, ⟨sx rfl, ⟨sx rfl, trivial⟩⟩⟩⟩⟩⟩⟩⟩) (⟨sx rfl, ⟨sx rfl, ⟨sx rfl, trivial⟩⟩⟩) (⟨rfl, trivial⟩)) ?_
      refine awp_region ?_
      refine al_pure rfl rfl rfl (pure_arith rfl rfl gU gU rfl (IntWalk.i64_in _ (by omega))) ?_
      refine al_pure rfl rfl rfl (pure_move rfl gU) ?_
      refine al_nil ?_
      refine ⟨(k + 1, vs ++ [(fldP true rec t ((t.getD i.toNat default).fields.getD k default) s a e pre).v], (fldP true rec t ((t.getD i.toNat default).fields.getD k default) s a e pre).p), ?_, ?_, sub_mk (⟨⟨_, rfl, ?_⟩, ⟨sx rfl, ⟨sx rfl, ⟨sx rfl, ⟨sx rfl, ⟨sx rfl, ⟨sx rfl, ⟨sx rfl, trivial⟩⟩⟩⟩⟩⟩⟩⟩) (⟨⟨_, rfl, ?_⟩, ⟨⟨_, rfl, ?_⟩, ⟨sx rfl, trivial⟩⟩⟩) (⟨rfl, trivial⟩)⟩
      · exact ⟨by dsimp only; omega, by simp; omega, hfl.2, hinv⟩
      · dsimp only; omega
      · rfl
      · show [C.s [], C.i .i64 0, C.sl 3 (V.rows vs ++ [_])] = _
        rw [← V.rows_snoc]; rfl
      · exact rc_eq' rfl (congrArg not hc2)
  · try simp only [nn, Fd.rows_len, Fm.rows_len, V.rows_len] at hc
    rw [List.drop_of_length_le (by omega), readL] at hinv
    rw [← hinv]
    refine awp_exit ?_
    repeat (first | refine thenS_exit ?_ | refine blockS_hit ?_ | refine blockS_miss rfl ?_)
    refine awp_seq (awp_region ?_)
    refine al_pure rfl rfl rfl (pure_loadBoxRow rfl gU rfl rfl rfl rfl rfl) ?_
    refine al_do rfl (does_store rfl rfl rfl rfl rfl rfl rfl) ?_
    refine al_nil ?_
    refine awp_ret ?_
    repeat (first | refine tR ?_ | refine bR ?_)
    refine ret_ok rfl ?_ (⟨⟨_, rfl, ?_⟩, trivial⟩)
    · rfl
    · rfl
theorem cread_spec (t : List Fm) (i : Int) (s : List UInt8) (a e : Nat) (ai ei : Int) (pre : Bool) (ha : ai = a) (he : ei = e) (h1 : a ≤ e) (h2 : e ≤ s.length) (hs : s.length ≤ 100000) (hi : 0 ≤ i ∧ i < t.length) (h : Fds t (t.getD i.toNat default).fields) :
    Ctr sys 41 [pp, xi i, xi ei, xb pre] [rc t s ai false] (xv (readT false t s pre i a e).v) none [rc t s (readT false t s pre i a e).p (!(readT false t s pre i a e).ok)] := by
  rw [← readT_sim h]
  refine cread_gen t i s a e ai ei pre (read0 true t s) ha he h1 h2 hs hi h.len.2 h.ok (fun k hk h5 b c hbc => read0_le hbc (h.nest k hk h5).2) fun k hk h5 b c hbc hc bi ci hb hci => ?_
  obtain ⟨q1, q2⟩ := h.nest k hk h5
  have q3 := (h.ok k hk).n
  exact cread_gen t _ s b c bi ci false (fun _ _ _ => failP 0) hb hci hbc hc hs (by omega) q2.len.2 (fun j hj => (q2.ok j hj).1) (fun j hj h6 => absurd h6 (q2.ok j hj).2.1) fun j hj h6 => absurd h6 (q2.ok j hj).2.1
end Go.Proofs.Ytgjclggjkhapfaa
/- Contracts: reading strings of formats, as the reference does. -/
set_option linter.unusedVariables false
set_option linter.unusedSimpArgs false
namespace Go.Proofs.Ytgjclggjkhapfaa
open Go Go.Abs
abbrev xpl (p : Pl) : X := .v (.agg p.cells)
theorem xpl_eq {v : V} {a : Int} {ok : Bool} {p : Pl} (h1 : v = p.v) (h2 : a = p.p) (h3 : ok = p.ok) : X.v (.agg (v.cells ++ [.i .i64 a, .b ok])) = xpl p := by
  rw [xpl, Pl.cells, h1, h2, h3]
theorem rfail_spec (a : Int) (n : Nat) (h : a = n) : Ctr sys 64 [xi a] [] (xpl (failP n)) none [] := by
  subst h
  refine spec_intro Try.func64 rfl rfl rfl rfl rfl rfl ?_
  refine awp_seq (awp_region ?_)
  refine al_do rfl (does_alloc rfl rfl rfl) ?_
  refine al_nil ?_
  refine awp_seq (awp_region ?_)
  refine al_pure rfl rfl rfl (pure_move rfl gU) ?_
  refine al_pure rfl rfl rfl (pure_build rfl Try.underlying70 rfl gU) ?_
  refine al_do rfl (does_store rfl rfl rfl rfl rfl rfl rfl) ?_
  refine al_nil ?_
  refine awp_ret ?_
  repeat (first | refine tR ?_ | refine bR ?_)
  refine ret_ok rfl ?_ trivial
  rfl
theorem u8_lt (b : UInt8) : (b.toNat : Int) < 256 := by have := b.toNat_lt; omega
theorem rtake_spec (s : List UInt8) (a n e : Nat) (ai ni ei : Int) (ha : ai = a) (hn : ni = n) (he : ei = e) (h1 : a ≤ e) (h2 : e ≤ s.length) (hs : s.length ≤ 100000) (hn2 : n ≤ 100000) :
    Ctr sys 92 [xs s, xi ai, xi ni, xi ei] [] (xpl (takeP s a n e)) none [] := by
  subst ha; subst hn; subst he
  refine spec_intro Try.func92 rfl rfl rfl rfl rfl rfl ?_
  refine awp_seq (awp_region ?_)
  refine al_do rfl (does_alloc rfl rfl rfl) ?_
  refine al_nil ?_
  refine awp_seq ?_
  refine awp_seq (awp_region ?_)
  refine al_pure rfl rfl rfl (pure_move rfl gU) ?_
  refine al_pure rfl rfl rfl (pure_move rfl gU) ?_
  refine al_pure rfl rfl rfl (pure_arith rfl rfl gU gU rfl (IntWalk.i64_in _ (by omega))) ?_
  refine al_pure rfl rfl rfl (pure_move rfl gU) ?_
  refine al_pure rfl rfl rfl (pure_cmp rfl rfl gU gU rfl) ?_
  refine al_nil ?_
  refine awp_sub (s := { t := [(0, _, _), (1, _, _), (2, _, _), (3, _, _), (8, _, _), (13, _, _)], bx := [((.l 8), _)], ow := [] }) (sub_mk (⟨sx rfl, ⟨sx rfl, ⟨sx rfl, ⟨sx rfl, ⟨sx rfl, ⟨sx rfl, trivial⟩⟩⟩⟩⟩⟩) (⟨sx rfl, trivial⟩) trivial) ?_
  refine awp_cond rfl (fun hc => ?_) (fun hc => ?_)
  · try simp only [nn, Fd.rows_len, Fm.rows_len, V.rows_len] at hc
    refine awp_seq (awp_region ?_)
    refine al_pure rfl rfl rfl (pure_move rfl gU) ?_
    refine al_call rfl rfl rfl rfl rfl rfl gU gU (rfail_spec _ _ rfl) rfl ?_
    refine al_do rfl (does_store rfl rfl rfl rfl rfl rfl rfl) ?_
    refine al_nil ?_
    refine awp_ret ?_
    repeat (first | refine tR ?_ | refine bR ?_)
    refine ret_ok rfl ?_ trivial
    (rw [takeP, if_pos (by omega)]; rfl)
  · try simp only [nn, Fd.rows_len, Fm.rows_len, V.rows_len] at hc
    refine awp_skip ?_
    refine awp_seq (awp_region ?_)
    refine al_pure rfl rfl rfl (pure_move rfl gU) ?_
    refine al_pure rfl rfl rfl (pure_move rfl gU) ?_
    refine al_pure rfl rfl rfl (pure_move rfl gU) ?_
    refine al_pure rfl rfl rfl (pure_move rfl gU) ?_
    refine al_pure rfl rfl rfl (pure_arith rfl rfl gU gU rfl (IntWalk.i64_in _ (by omega))) ?_
    refine al_pure rfl rfl rfl (pure_sliceS (l := a) (h' := (a + n)) rfl gU Try.underlying9 (fun _ => ⟨_, _, _, rfl, gU, by first | omega | (simp at hh; omega)⟩) (fun _ => ⟨_, _, _, rfl, gU, by first | omega | (simp at hh; omega)⟩) (fun hh => by first | omega | (simp at hh; omega)) (fun hh => by first | omega | (simp at hh; omega))) ?_
    refine al_pure rfl rfl rfl (pure_build rfl Try.underlying25 rfl gU) ?_
    refine al_pure rfl rfl rfl (pure_move rfl gU) ?_
    refine al_pure rfl rfl rfl (pure_move rfl gU) ?_
    refine al_pure rfl rfl rfl (pure_arith rfl rfl gU gU rfl (IntWalk.i64_in _ (by omega))) ?_
    refine al_pure rfl rfl rfl (pure_build rfl Try.underlying70 rfl gU) ?_
    refine al_do rfl (does_store rfl rfl rfl rfl rfl rfl rfl) ?_
    refine al_nil ?_
    refine awp_ret ?_
    repeat (first | refine tR ?_ | refine bR ?_)
    refine ret_ok rfl ?_ trivial
    (rw [takeP, if_neg (by omega)]; rfl)
theorem rtag_spec (s w : List UInt8) (a e : Nat) (h1 : a ≤ e) (h2 : e ≤ s.length) (hs : s.length ≤ 100000) (hw : w.length ≤ 100000) :
    Ctr sys 91 [xs s, xi (a : Int), xi (e : Int), xs w] [] (xpl (tagP s e w a)) none [] := by
  refine spec_intro Try.func91 rfl rfl rfl rfl rfl rfl ?_
  refine awp_seq (awp_region ?_)
  refine al_do rfl (does_alloc rfl rfl rfl) ?_
  refine al_nil ?_
  refine awp_seq ?_
  refine awp_seq (awp_region ?_)
  refine al_pure rfl rfl rfl (pure_assign rfl gU) ?_
  refine al_nil ?_
  refine awp_block ?_
  refine awp_for (ι := Nat) { t := [(0, _, _), (1, _, _), (2, _, _), (3, _, _), (8, _, _)], bx := [((.l 8), _)], ow := [] } (fun k => [(9, true, xi (k : Int))]) (fun k => []) (fun k => k ≤ w.length ∧ a + k ≤ e ∧ tagP s e (w.drop k) (a + k) = tagP s e w a) (fun k => w.length - k) (0) (⟨by omega, by omega, rfl⟩) (sub_mk (⟨sx rfl, ⟨sx rfl, ⟨sx rfl, ⟨sx rfl, ⟨sx rfl, ⟨sx rfl, trivial⟩⟩⟩⟩⟩⟩) (⟨sx rfl, trivial⟩) trivial) ?_
  intro k hok
  dsimp only [List.cons_append, List.nil_append]
  obtain ⟨hk, hk2, hi⟩ := hok
  refine awp_seq ?_
  refine awp_seq (awp_region ?_)
  refine al_pure rfl rfl rfl (pure_move rfl gU) ?_
  refine al_pure rfl rfl rfl (pure_move rfl gU) ?_
  refine al_lenS rfl rfl rfl rfl rfl gU (Try.underlying9) ?_ (fun hh => by simp at hh); intro hlen
  refine al_pure rfl rfl rfl (pure_cmp rfl rfl gU gU rfl) ?_
  refine al_nil ?_
  refine awp_cond rfl (fun hc => ?_) (fun hc => ?_)
  · try simp only [nn, Fd.rows_len, Fm.rows_len, V.rows_len] at hc
    rw [drop_get0 (by omega), tagP] at hi
    refine awp_skip ?_
    refine awp_seq ?_
    refine awp_block ?_
    refine awp_seq ?_
    refine awp_drawn' (by kernel_rfl) ?_
    refine dr_pure rfl rfl rfl rfl (pure_move rfl gU) ?_
    refine dr_pure rfl rfl rfl rfl (pure_move rfl gU) ?_
    refine dr_pure rfl rfl rfl rfl (pure_arith rfl rfl gU gU rfl (IntWalk.i64_in _ (by omega))) ?_
    refine dr_pure rfl rfl rfl rfl (pure_move rfl gU) ?_
    refine dr_pure rfl rfl rfl rfl (pure_cmp rfl rfl gU gU rfl) ?_
    refine dr_pure rfl rfl rfl rfl (pure_move rfl gU) ?_
    refine dr_pure rfl rfl rfl rfl (pure_move rfl gU) ?_
    refine dr_pure rfl rfl rfl rfl (pure_move rfl gU) ?_
    refine dr_pure rfl rfl rfl rfl (pure_move rfl gU) ?_
    refine dr_pure rfl rfl rfl rfl (pure_arith rfl rfl (fun hh => hh) (fun hh => hh) rfl (IntWalk.i64_in _ (by omega))) ?_
    refine dr_pure rfl rfl rfl rfl (pure_indexSg (j := (a + k)) rfl rfl (fun hh => hh) (fun hh => hh) Try.underlying9 (by first | omega | (simp at hh; omega)) (fun hh => by first | omega | (simp at hh; omega))) ?_
    refine dr_pure rfl rfl rfl rfl (pure_move rfl gU) ?_
    refine dr_pure rfl rfl rfl rfl (pure_move rfl gU) ?_
    refine dr_pure rfl rfl rfl rfl (pure_indexSg (j := k) rfl rfl (fun hh => hh) (fun hh => hh) Try.underlying9 (by first | omega | (simp at hh; omega)) (fun hh => by first | omega | (simp at hh; omega))) ?_
    refine dr_pure rfl rfl rfl rfl (pure_cmp rfl rfl (fun hh => hh) (fun hh => hh) rfl) ?_
    refine dr_pure rfl rfl rfl rfl (pure_or rfl rfl gU (fun _ hi => gP rfl hi)) ?_
    refine dr_nil (by kernel_rfl) ?_
    refine awp_sub (s := { t := [(0, _, _), (1, _, _), (2, _, _), (3, _, _), (8, _, _), (9, _, _), (31, _, _)], bx := [((.l 8), _)], ow := [] }) (sub_mk (⟨sx rfl, ⟨sx rfl, ⟨sx rfl, ⟨sx rfl, ⟨sx rfl, ⟨sx rfl, ⟨sx rfl, trivial⟩⟩⟩⟩⟩⟩⟩) (⟨sx rfl, trivial⟩) trivial) ?_
    refine awp_cond rfl (fun hc2 => ?_) (fun hc2 => ?_)
    · try simp only [nn, Fd.rows_len, Fm.rows_len, V.rows_len] at hc2
      have hq : e ≤ a + k ∨ s.getD (a + k) 0 ≠ w.getD k 0 := by
        rcases hc2 with h | h
        · left; omega
        · right; intro hq; rw [hq] at h; exact h rfl
      rw [if_pos hq] at hi
      refine awp_seq (awp_region ?_)
      refine al_pure rfl rfl rfl (pure_move rfl gU) ?_
      refine al_pure rfl rfl rfl (pure_move rfl gU) ?_
      refine al_pure rfl rfl rfl (pure_arith rfl rfl gU gU rfl (IntWalk.i64_in _ (by omega))) ?_
      refine al_call rfl rfl rfl rfl rfl rfl gU gU (rfail_spec _ (a + k) (by omega)) rfl ?_
      refine al_do rfl (does_store rfl rfl rfl rfl rfl rfl rfl) ?_
      refine al_nil ?_
      refine awp_ret ?_
      repeat (first | refine tR ?_ | refine bR ?_)
      refine ret_ok rfl ?_ trivial
      (rw [← hi]; rfl)
    · try simp only [nn, Fd.rows_len, Fm.rows_len, V.rows_len] at hc2
      have hq : s.getD (a + k) 0 = w.getD k 0 := UInt8.toNat_inj.1 (by omega)
      rw [if_neg (by intro h; rcases h with h | h; omega; exact h hq)] at hi
      refine awp_skip ?_
      refine awp_region ?_
      refine al_pure rfl rfl rfl (pure_move rfl gU) ?_
      refine al_pure rfl rfl rfl (pure_arith rfl rfl gU gU rfl (IntWalk.i64_in _ (by omega))) ?_
      refine al_pure rfl rfl rfl (pure_assign rfl gU) ?_
      refine al_nil ?_
      refine ⟨k + 1, ?_, ?_, sub_mk (⟨⟨_, rfl, ?_⟩, ⟨sx rfl, ⟨sx rfl, ⟨sx rfl, ⟨sx rfl, ⟨sx rfl, trivial⟩⟩⟩⟩⟩⟩) (⟨sx rfl, trivial⟩) trivial⟩
      all_goals (first | rfl | omega | exact ⟨by omega, by omega, hi⟩)
  · try simp only [nn, Fd.rows_len, Fm.rows_len, V.rows_len] at hc
    rw [List.drop_of_length_le (by omega), tagP] at hi
    refine awp_exit ?_
    repeat (first | refine thenS_exit ?_ | refine blockS_hit ?_ | refine blockS_miss rfl ?_)
    refine awp_seq (awp_region ?_)
    refine al_pure rfl rfl rfl (pure_build rfl Try.underlying25 rfl gU) ?_
    refine al_pure rfl rfl rfl (pure_move rfl gU) ?_
    refine al_pure rfl rfl rfl (pure_move rfl gU) ?_
    refine al_lenS rfl rfl rfl rfl rfl gU (Try.underlying9) ?_ (fun hh => by simp at hh); intro hlen
    refine al_pure rfl rfl rfl (pure_arith rfl rfl gU gU rfl (IntWalk.i64_in _ (by omega))) ?_
    refine al_pure rfl rfl rfl (pure_build rfl Try.underlying70 rfl gU) ?_
    refine al_do rfl (does_store rfl rfl rfl rfl rfl rfl rfl) ?_
    refine al_nil ?_
    refine awp_ret ?_
    repeat (first | refine tR ?_ | refine bR ?_)
    refine ret_ok rfl ?_ trivial
    (rw [← hi]; exact xpl_eq (v := v0) (ok := true) rfl (by dsimp only; omega) rfl)
theorem rnest_gen (t : List Fm) (i : Int) (s : List UInt8) (a e : Nat) (rec : Int → Nat → Nat → Pl) (h1 : a ≤ e) (h2 : e ≤ s.length) (hs : s.length ≤ 100000)
    (hle : ∀ b c, b ≤ c → b ≤ (rec i b c).p ∧ (rec i b c).p ≤ c)
    (hrec : ∀ b c, b ≤ c → c ≤ s.length → ∀ bi ci : Int, bi = b → ci = c → Ctr sys 42 [xtab t, xi i, xs s, xi bi, xi ci, xb false] [] (xpl (rec i b c)) none []) :
    Ctr sys 93 [xtab t, xi i, xs s, xi (a : Int), xi (e : Int)] [] (xpl (nestP false rec t i s a e)) none [] := by
  have hu := u8_lt (s.getD a 0)
  have hn := hle (a + 1) (a + 1 + (s.getD a 0).toNat) (by omega)
  refine spec_intro Try.func93 rfl rfl rfl rfl rfl rfl ?_
  refine awp_seq (awp_region ?_)
  refine al_do rfl (does_alloc rfl rfl rfl) ?_
  refine al_nil ?_
  refine awp_seq ?_
  refine awp_seq (awp_region ?_)
  refine al_pure rfl rfl rfl (pure_move rfl gU) ?_
  refine al_pure rfl rfl rfl (pure_move rfl gU) ?_
  refine al_pure rfl rfl rfl (pure_cmp rfl rfl gU gU rfl) ?_
  refine al_nil ?_
  refine awp_cond rfl (fun hc => ?_) (fun hc => ?_)
  · try simp only [nn, Fd.rows_len, Fm.rows_len, V.rows_len] at hc
    refine awp_seq (awp_region ?_)
    refine al_pure rfl rfl rfl (pure_move rfl gU) ?_
    refine al_call rfl rfl rfl rfl rfl rfl gU gU (rfail_spec _ _ rfl) rfl ?_
    refine al_do rfl (does_store rfl rfl rfl rfl rfl rfl rfl) ?_
    refine al_nil ?_
    refine awp_ret ?_
    repeat (first | refine tR ?_ | refine bR ?_)
    refine ret_ok rfl ?_ trivial
    (rw [nestP, if_pos (by omega)]; rfl)
  · try simp only [nn, Fd.rows_len, Fm.rows_len, V.rows_len] at hc
    rw [nestP, if_neg (by omega)]
    refine awp_skip ?_
    refine awp_seq (awp_region ?_)
    refine al_pure rfl rfl rfl (pure_move rfl gU) ?_
    refine al_pure rfl rfl rfl (pure_move rfl gU) ?_
    refine al_pure rfl rfl rfl (pure_indexSg (j := a) rfl rfl gU gU Try.underlying9 (by first | omega | (simp at hh; omega)) (fun hh => by first | omega | (simp at hh; omega))) ?_
    refine al_pure rfl rfl rfl (pure_convInt rfl gU ⟨_, Try.underlying5⟩ (Try.underlying3) (IntWalk.i64_in _ (by omega))) ?_
    refine al_pure rfl rfl rfl (pure_assign rfl gU) ?_
    refine al_nil ?_
    refine awp_sub (s := { t := [(0, _, _), (1, _, _), (2, _, _), (3, _, _), (4, _, _), (10, _, _), (11, _, _)], bx := [((.l 10), _)], ow := [] }) (sub_mk (⟨sx rfl, ⟨sx rfl, ⟨sx rfl, ⟨sx rfl, ⟨sx rfl, ⟨sx rfl, ⟨sx rfl, trivial⟩⟩⟩⟩⟩⟩⟩) (⟨sx rfl, trivial⟩) trivial) ?_
    refine awp_seq (awp_region ?_)
    refine al_pure rfl rfl rfl (pure_move rfl gU) ?_
    refine al_pure rfl rfl rfl (pure_move rfl gU) ?_
    refine al_call rfl rfl rfl rfl rfl rfl gU gU (rBounds_spec _ _) rfl ?_
    refine al_pure rfl rfl rfl (pure_move rfl gU) ?_
    refine al_pure rfl rfl rfl (pure_extract rfl gU rfl) ?_
    refine al_pure rfl rfl rfl (pure_extract rfl gU rfl) ?_
    refine al_pure rfl rfl rfl (pure_extract rfl gU rfl) ?_
    refine al_pure rfl rfl rfl (pure_assign rfl gU) ?_
    refine al_pure rfl rfl rfl (pure_assign rfl gU) ?_
    refine al_pure rfl rfl rfl (pure_assign rfl gU) ?_
    refine al_nil ?_
    refine awp_sub (s := { t := [(0, _, _), (1, _, _), (2, _, _), (3, _, _), (4, _, _), (10, _, _), (11, _, _), (12, _, _), (13, _, _)], bx := [((.l 10), _)], ow := [] }) (sub_mk (⟨sx rfl, ⟨sx rfl, ⟨sx rfl, ⟨sx rfl, ⟨sx rfl, ⟨sx rfl, ⟨sx rfl, ⟨sx rfl, ⟨sx rfl, trivial⟩⟩⟩⟩⟩⟩⟩⟩⟩) (⟨sx rfl, trivial⟩) trivial) ?_
    refine awp_seq ?_
    refine awp_seq (awp_region ?_)
    refine al_pure rfl rfl rfl (pure_move rfl gU) ?_
    refine al_pure rfl rfl rfl (pure_move rfl gU) ?_
    refine al_pure rfl rfl rfl (pure_cmp rfl rfl gU gU rfl) ?_
    refine al_pure rfl rfl rfl (pure_move rfl gU) ?_
    refine al_pure rfl rfl rfl (pure_move rfl gU) ?_
    refine al_pure rfl rfl rfl (pure_move rfl gU) ?_
    refine al_pure rfl rfl rfl (pure_cmp rfl rfl (fun hh => hh) (fun hh => hh) rfl) ?_
    refine al_pure rfl rfl rfl (pure_or rfl rfl gU (fun _ hi => gP rfl hi)) ?_
    refine al_nil ?_
    refine awp_sub (s := { t := [(0, _, _), (1, _, _), (2, _, _), (3, _, _), (4, _, _), (10, _, _), (11, _, _), (39, _, _)], bx := [((.l 10), _)], ow := [] }) (sub_mk (⟨sx rfl, ⟨sx rfl, ⟨sx rfl, ⟨sx rfl, ⟨sx rfl, ⟨sx rfl, ⟨sx rfl, ⟨sx rfl, trivial⟩⟩⟩⟩⟩⟩⟩⟩) (⟨sx rfl, trivial⟩) trivial) ?_
    refine awp_cond rfl (fun hc2 => ?_) (fun hc2 => ?_)
    · try simp only [nn, Fd.rows_len, Fm.rows_len, V.rows_len] at hc2
      refine awp_seq (awp_region ?_)
      refine al_pure rfl rfl rfl (pure_move rfl gU) ?_
      refine al_call rfl rfl rfl rfl rfl rfl gU gU (rfail_spec _ _ rfl) rfl ?_
      refine al_do rfl (does_store rfl rfl rfl rfl rfl rfl rfl) ?_
      refine al_nil ?_
      refine awp_ret ?_
      repeat (first | refine tR ?_ | refine bR ?_)
      refine ret_ok rfl ?_ trivial
      (rw [if_pos (by omega)]; rfl)
    · try simp only [nn, Fd.rows_len, Fm.rows_len, V.rows_len] at hc2
      rw [if_neg (by omega)]
      refine awp_skip ?_
      refine awp_seq ?_
      refine awp_seq (awp_region ?_)
      refine al_pure rfl rfl rfl (pure_move rfl gU) ?_
      refine al_pure rfl rfl rfl (pure_arith rfl rfl gU gU rfl (IntWalk.i64_in _ (by omega))) ?_
      refine al_pure rfl rfl rfl (pure_move rfl gU) ?_
      refine al_pure rfl rfl rfl (pure_arith rfl rfl gU gU rfl (IntWalk.i64_in _ (by omega))) ?_
      refine al_pure rfl rfl rfl (pure_move rfl gU) ?_
      refine al_pure rfl rfl rfl (pure_cmp rfl rfl gU gU rfl) ?_
      refine al_nil ?_
      refine awp_sub (s := { t := [(0, _, _), (1, _, _), (2, _, _), (3, _, _), (4, _, _), (10, _, _), (11, _, _), (47, _, _)], bx := [((.l 10), _)], ow := [] }) (sub_mk (⟨sx rfl, ⟨sx rfl, ⟨sx rfl, ⟨sx rfl, ⟨sx rfl, ⟨sx rfl, ⟨sx rfl, ⟨sx rfl, trivial⟩⟩⟩⟩⟩⟩⟩⟩) (⟨sx rfl, trivial⟩) trivial) ?_
      refine awp_cond rfl (fun hc3 => ?_) (fun hc3 => ?_)
      · try simp only [nn, Fd.rows_len, Fm.rows_len, V.rows_len] at hc3
        refine awp_seq (awp_region ?_)
        refine al_pure rfl rfl rfl (pure_move rfl gU) ?_
        refine al_call rfl rfl rfl rfl rfl rfl gU gU (rfail_spec _ _ rfl) rfl ?_
        refine al_do rfl (does_store rfl rfl rfl rfl rfl rfl rfl) ?_
        refine al_nil ?_
        refine awp_ret ?_
        repeat (first | refine tR ?_ | refine bR ?_)
        refine ret_ok rfl ?_ trivial
        (rw [if_pos (by omega)]; rfl)
      · try simp only [nn, Fd.rows_len, Fm.rows_len, V.rows_len] at hc3
        rw [if_neg (by omega)]
        refine awp_skip ?_
        refine awp_seq (awp_region ?_)
        refine al_pure rfl rfl rfl (pure_move rfl gU) ?_
        refine al_pure rfl rfl rfl (pure_move rfl gU) ?_
        refine al_pure rfl rfl rfl (pure_move rfl gU) ?_
        refine al_pure rfl rfl rfl (pure_move rfl gU) ?_
        refine al_pure rfl rfl rfl (pure_arith rfl rfl gU gU rfl (IntWalk.i64_in _ (by omega))) ?_
        refine al_pure rfl rfl rfl (pure_move rfl gU) ?_
        refine al_pure rfl rfl rfl (pure_arith rfl rfl gU gU rfl (IntWalk.i64_in _ (by omega))) ?_
        refine al_pure rfl rfl rfl (pure_move rfl gU) ?_
        refine al_pure rfl rfl rfl (pure_arith rfl rfl gU gU rfl (IntWalk.i64_in _ (by omega))) ?_
        refine al_call rfl rfl rfl rfl rfl rfl gU gU (hrec (a + 1) (a + 1 + (s.getD a 0).toNat) (by omega) (by omega) _ _ (by omega) (by omega)) rfl ?_
        refine al_do rfl (does_alloc rfl rfl rfl) ?_
        refine al_do rfl (does_store rfl rfl rfl rfl rfl rfl rfl) ?_
        refine al_nil ?_
        refine awp_sub (s := { t := [(3, _, _), (10, _, _), (11, _, _), (15, _, _)], bx := [((.l 10), _), ((.l 15), _)], ow := [] }) (sub_mk (⟨sx rfl, ⟨sx rfl, ⟨sx rfl, ⟨sx rfl, trivial⟩⟩⟩⟩) (⟨sx rfl, ⟨sx rfl, trivial⟩⟩) trivial) ?_
        refine awp_seq ?_
        refine awp_seq (awp_region ?_)
        refine al_pure rfl rfl rfl (pure_fieldPtr rfl gU rfl rfl) ?_
        refine al_pure rfl rfl rfl (pure_loadBox rfl gU rfl rfl rfl rfl) ?_
        refine al_pure rfl rfl rfl (pure_move rfl gU) ?_
        refine al_pure rfl rfl rfl (pure_fieldPtr rfl gU rfl rfl) ?_
        refine al_pure rfl rfl rfl (pure_loadBox rfl (fun hh => hh) rfl rfl rfl rfl) ?_
        refine al_pure rfl rfl rfl (pure_move rfl gU) ?_
        refine al_pure rfl rfl rfl (pure_arith rfl rfl (fun hh => hh) gU rfl (IntWalk.i64_in _ (by omega))) ?_
        refine al_pure rfl rfl rfl (pure_move rfl gU) ?_
        refine al_pure rfl rfl rfl (pure_arith rfl rfl (fun hh => hh) (fun hh => hh) rfl (IntWalk.i64_in _ (by omega))) ?_
        refine al_pure rfl rfl rfl (pure_cmp rfl rfl (fun hh => hh) (fun hh => hh) rfl) ?_
        refine al_pure rfl rfl rfl (pure_and rfl rfl gU (fun _ hi => gP rfl hi)) ?_
        refine al_nil ?_
        refine awp_sub (s := { t := [(10, _, _), (15, _, _), (70, _, _)], bx := [((.l 10), _), ((.l 15), _)], ow := [] }) (sub_mk (⟨sx rfl, ⟨sx rfl, ⟨sx rfl, trivial⟩⟩⟩) (⟨sx rfl, ⟨sx rfl, trivial⟩⟩) trivial) ?_
        refine awp_cond rfl (fun hc4 => ?_) (fun hc4 => ?_)
        · try simp only [nn, Fd.rows_len, Fm.rows_len, V.rows_len] at hc4
          refine awp_seq (awp_region ?_)
          refine al_pure rfl rfl rfl (pure_fieldPtr rfl gU rfl rfl) ?_
          refine al_pure rfl rfl rfl (pure_loadBox rfl gU rfl rfl rfl rfl) ?_
          refine al_call rfl rfl rfl rfl rfl rfl gU gU (rfail_spec _ _ rfl) rfl ?_
          refine al_do rfl (does_store rfl rfl rfl rfl rfl rfl rfl) ?_
          refine al_nil ?_
          refine awp_ret ?_
          repeat (first | refine tR ?_ | refine bR ?_)
          refine ret_ok rfl ?_ trivial
          (rw [if_pos ⟨hc4.1, by omega⟩]; rfl)
        · try simp only [nn, Fd.rows_len, Fm.rows_len, V.rows_len] at hc4
          refine awp_skip ?_
          refine awp_seq (awp_region ?_)
          refine al_pure rfl rfl rfl (pure_loadBoxRow rfl gU rfl rfl rfl rfl rfl) ?_
          refine al_do rfl (does_store rfl rfl rfl rfl rfl rfl rfl) ?_
          refine al_nil ?_
          refine awp_ret ?_
          repeat (first | refine tR ?_ | refine bR ?_)
          refine ret_ok rfl ?_ trivial
          (rw [if_neg (by intro hq; apply hc4.elim <;> simp_all <;> omega)]; rfl)
theorem rfield_gen (t : List Fm) (f : Fd) (s : List UInt8) (a e : Nat) (ai : Int) (pre : Bool) (rec : Int → Nat → Nat → Pl) (hf : FdOk f) (ha : ai = a) (h1 : a ≤ e) (h2 : e ≤ s.length) (hs : s.length ≤ 100000)
    (hle : f.kind = 5 → ∀ b c, b ≤ c → b ≤ (rec f.n b c).p ∧ (rec f.n b c).p ≤ c)
    (hrec : f.kind = 5 → ∀ b c, b ≤ c → c ≤ s.length → ∀ bi ci : Int, bi = b → ci = c → Ctr sys 42 [xtab t, xi f.n, xs s, xi bi, xi ci, xb false] [] (xpl (rec f.n b c)) none []) :
    Ctr sys 63 [xtab t, xf f, xs s, xi ai, xi (e : Int), xb pre] [] (xpl (fldP false rec t f s a e pre)) none [] := by
  subst ha
  obtain ⟨hk, hb, hn, hl, hh, hlh, _⟩ := hf
  have hu := u8_lt (s.getD a 0)
  refine spec_intro Try.func63 rfl rfl rfl rfl rfl rfl ?_
  refine awp_seq (awp_region ?_)
  refine al_do rfl (does_box rfl rfl rfl rfl) ?_
  refine al_do rfl (does_alloc rfl rfl rfl) ?_
  refine al_nil ?_
  refine awp_seq ?_
  refine awp_seq (awp_region ?_)
  refine al_pure rfl rfl rfl (pure_fieldPtr rfl gU rfl rfl) ?_
  refine al_pure rfl rfl rfl (pure_loadBox rfl gU rfl rfl rfl rfl) ?_
  refine al_nil ?_
  refine awp_block ?_
  refine awp_seq (awp_region ?_)
  refine al_pure rfl rfl rfl (pure_cmp rfl rfl gU gU rfl) ?_
  refine al_pure rfl rfl rfl (pure_assign rfl gU) ?_
  refine al_nil ?_
  refine awp_sub (s := { t := [(0, _, _), (2, _, _), (3, _, _), (4, _, _), (5, _, _), (7, _, _), (12, _, _), (16, _, _), (17, _, _)], bx := [((.l 12), _), ((.l 7), _)], ow := [] }) (sub_mk (⟨sx rfl, ⟨sx rfl, ⟨sx rfl, ⟨sx rfl, ⟨sx rfl, ⟨sx rfl, ⟨sx rfl, ⟨sx rfl, ⟨sx rfl, trivial⟩⟩⟩⟩⟩⟩⟩⟩⟩) (⟨sx rfl, ⟨sx rfl, trivial⟩⟩) trivial) ?_
  refine awp_cond rfl (fun hc => ?_) (fun hc => ?_)
  · try simp only [nn, Fd.rows_len, Fm.rows_len, V.rows_len] at hc
    refine awp_seq (awp_region ?_)
    refine al_pure rfl rfl rfl (pure_move rfl gU) ?_
    refine al_pure rfl rfl rfl (pure_move rfl gU) ?_
    refine al_pure rfl rfl rfl (pure_move rfl gU) ?_
    refine al_pure rfl rfl rfl (pure_fieldPtr rfl gU rfl rfl) ?_
    refine al_pure rfl rfl rfl (pure_loadBox rfl gU rfl rfl rfl rfl) ?_
    refine al_call rfl rfl rfl rfl rfl rfl gU gU (rtag_spec _ _ _ _ (by omega) (by omega) (by omega) (by omega)) rfl ?_
    refine al_do rfl (does_store rfl rfl rfl rfl rfl rfl rfl) ?_
    refine al_nil ?_
    refine awp_ret ?_
    repeat (first | refine tR ?_ | refine bR ?_)
    refine ret_ok rfl ?_ trivial
    (rw [fldP, if_pos hc]; rfl)
  · try simp only [nn, Fd.rows_len, Fm.rows_len, V.rows_len] at hc
    rw [fldP, if_neg hc]
    refine awp_seq (awp_region ?_)
    refine al_pure rfl rfl rfl (pure_cmp rfl rfl gU gU rfl) ?_
    refine al_pure rfl rfl rfl (pure_assign rfl gU) ?_
    refine al_nil ?_
    refine awp_cond rfl (fun hc2 => ?_) (fun hc2 => ?_)
    · try simp only [nn, Fd.rows_len, Fm.rows_len, V.rows_len] at hc2
      refine awp_seq (awp_region ?_)
      refine al_pure rfl rfl rfl (pure_move rfl gU) ?_
      refine al_pure rfl rfl rfl (pure_move rfl gU) ?_
      refine al_pure rfl rfl rfl (pure_fieldPtr rfl gU rfl rfl) ?_
      refine al_pure rfl rfl rfl (pure_loadBox rfl gU rfl rfl rfl rfl) ?_
      refine al_pure rfl rfl rfl (pure_move rfl gU) ?_
      refine al_call rfl rfl rfl rfl rfl rfl gU gU (rtake_spec _ _ f.n.toNat _ _ _ _ rfl (by omega) rfl (by omega) (by omega) (by omega) (by omega)) rfl ?_
      refine al_do rfl (does_store rfl rfl rfl rfl rfl rfl rfl) ?_
      refine al_nil ?_
      refine awp_ret ?_
      repeat (first | refine tR ?_ | refine bR ?_)
      refine ret_ok rfl ?_ trivial
      (rw [if_pos hc2]; rfl)
    · try simp only [nn, Fd.rows_len, Fm.rows_len, V.rows_len] at hc2
      rw [if_neg hc2]
      refine awp_seq (awp_region ?_)
      refine al_pure rfl rfl rfl (pure_cmp rfl rfl gU gU rfl) ?_
      refine al_pure rfl rfl rfl (pure_assign rfl gU) ?_
      refine al_nil ?_
      refine awp_cond rfl (fun hc3 => ?_) (fun hc3 => ?_)
      · try simp only [nn, Fd.rows_len, Fm.rows_len, V.rows_len] at hc3
        refine awp_seq (awp_region ?_)
        refine al_pure rfl rfl rfl (pure_move rfl gU) ?_
        refine al_pure rfl rfl rfl (pure_fieldPtr rfl gU rfl rfl) ?_
        refine al_pure rfl rfl rfl (pure_loadBox rfl gU rfl rfl rfl rfl) ?_
        refine al_pure rfl rfl rfl (pure_move rfl gU) ?_
        refine al_pure rfl rfl rfl (pure_move rfl gU) ?_
        refine al_pure rfl rfl rfl (pure_move rfl gU) ?_
        refine al_call rfl rfl rfl rfl rfl rfl gU gU (rnest_gen _ _ _ _ _ rec (by omega) (by omega) (by omega) (hle (by assumption)) (hrec (by assumption))) rfl ?_
        refine al_do rfl (does_store rfl rfl rfl rfl rfl rfl rfl) ?_
        refine al_nil ?_
        refine awp_ret ?_
        repeat (first | refine tR ?_ | refine bR ?_)
        refine ret_ok rfl ?_ trivial
        (rw [if_neg (by omega), if_neg (by omega), if_pos hc3]; rfl)
      · try simp only [nn, Fd.rows_len, Fm.rows_len, V.rows_len] at hc3
        refine awp_seq (awp_region ?_)
        refine al_pure rfl rfl rfl (pure_cmp rfl rfl gU gU rfl) ?_
        refine al_pure rfl rfl rfl (pure_assign rfl gU) ?_
        refine al_nil ?_
        refine awp_sub (s := { t := [(2, _, _), (3, _, _), (4, _, _), (5, _, _), (7, _, _), (12, _, _), (42, _, _)], bx := [((.l 12), _), ((.l 7), _)], ow := [] }) (sub_mk (⟨sx rfl, ⟨sx rfl, ⟨sx rfl, ⟨sx rfl, ⟨sx rfl, ⟨sx rfl, ⟨sx rfl, trivial⟩⟩⟩⟩⟩⟩⟩) (⟨sx rfl, ⟨sx rfl, trivial⟩⟩) trivial) ?_
        refine awp_cond rfl (fun hc4 => ?_) (fun hc4 => ?_)
        · try simp only [nn, Fd.rows_len, Fm.rows_len, V.rows_len] at hc4
          rw [if_neg (by omega), if_neg (by omega), if_neg hc3]
          refine awp_seq (awp_region ?_)
          refine al_pure rfl rfl rfl (pure_move rfl gU) ?_
          refine al_pure rfl rfl rfl (pure_move rfl gU) ?_
          refine al_pure rfl rfl rfl (pure_arith rfl rfl gU gU rfl (IntWalk.i64_in _ (by omega))) ?_
          refine al_pure rfl rfl rfl (pure_assign rfl gU) ?_
          refine al_nil ?_
          refine awp_seq ?_
          refine awp_seq (awp_region ?_)
          refine al_pure rfl rfl rfl (pure_move rfl gU) ?_
          refine al_pure rfl rfl rfl (pure_fieldPtr rfl gU rfl rfl) ?_
          refine al_pure rfl rfl rfl (pure_loadBox rfl gU rfl rfl rfl rfl) ?_
          refine al_pure rfl rfl rfl (pure_cmp rfl rfl gU gU rfl) ?_
          refine al_nil ?_
          refine awp_sub (s := { t := [(2, _, _), (3, _, _), (4, _, _), (5, _, _), (7, _, _), (12, _, _), (13, _, _), (50, _, _)], bx := [((.l 12), _), ((.l 7), _)], ow := [] }) (sub_mk (⟨sx rfl, ⟨sx rfl, ⟨sx rfl, ⟨sx rfl, ⟨sx rfl, ⟨sx rfl, ⟨sx rfl, ⟨sx rfl, trivial⟩⟩⟩⟩⟩⟩⟩⟩) (⟨sx rfl, ⟨sx rfl, trivial⟩⟩) trivial) ?_
          refine awp_cond rfl (fun hc5 => ?_) (fun hc5 => ?_)
          · try simp only [nn, Fd.rows_len, Fm.rows_len, V.rows_len] at hc5
            refine awp_seq (awp_region ?_)
            refine al_pure rfl rfl rfl (pure_move rfl gU) ?_
            refine al_call rfl rfl rfl rfl rfl rfl gU gU (rfail_spec _ _ rfl) rfl ?_
            refine al_do rfl (does_store rfl rfl rfl rfl rfl rfl rfl) ?_
            refine al_nil ?_
            refine awp_ret ?_
            repeat (first | refine tR ?_ | refine bR ?_)
            refine ret_ok rfl ?_ trivial
            (rw [if_pos (by omega)]; rfl)
          · try simp only [nn, Fd.rows_len, Fm.rows_len, V.rows_len] at hc5
            rw [if_neg (by omega)]
            refine awp_skip ?_
            refine awp_seq ?_
            refine awp_seq (awp_region ?_)
            refine al_pure rfl rfl rfl (pure_move rfl gU) ?_
            refine al_pure rfl rfl rfl (pure_fieldPtr rfl gU rfl rfl) ?_
            refine al_pure rfl rfl rfl (pure_loadBox rfl gU rfl rfl rfl rfl) ?_
            refine al_pure rfl rfl rfl (pure_cmp rfl rfl gU gU rfl) ?_
            refine al_pure rfl rfl rfl (pure_move rfl gU) ?_
            refine al_pure rfl rfl rfl (pure_move rfl gU) ?_
            refine al_pure rfl rfl rfl (pure_not rfl (fun hh => hh)) ?_
            refine al_pure rfl rfl rfl (pure_and rfl rfl gU (fun _ hi => gP rfl hi)) ?_
            refine al_nil ?_
            refine awp_sub (s := { t := [(2, _, _), (3, _, _), (4, _, _), (7, _, _), (12, _, _), (13, _, _), (60, _, _)], bx := [((.l 12), _), ((.l 7), _)], ow := [] }) (sub_mk (⟨sx rfl, ⟨sx rfl, ⟨sx rfl, ⟨sx rfl, ⟨sx rfl, ⟨sx rfl, ⟨sx rfl, trivial⟩⟩⟩⟩⟩⟩⟩) (⟨sx rfl, ⟨sx rfl, trivial⟩⟩) trivial) ?_
            refine awp_cond rfl (fun hc6 => ?_) (fun hc6 => ?_)
            · try simp only [nn, Fd.rows_len, Fm.rows_len, V.rows_len] at hc6
              refine awp_seq (awp_region ?_)
              refine al_pure rfl rfl rfl (pure_move rfl gU) ?_
              refine al_pure rfl rfl rfl (pure_fieldPtr rfl gU rfl rfl) ?_
              refine al_pure rfl rfl rfl (pure_loadBox rfl gU rfl rfl rfl rfl) ?_
              refine al_pure rfl rfl rfl (pure_arith rfl rfl gU gU rfl (IntWalk.i64_in _ (by omega))) ?_
              refine al_call rfl rfl rfl rfl rfl rfl gU gU (rfail_spec _ (a + f.high.toNat) (by omega)) rfl ?_
              refine al_do rfl (does_store rfl rfl rfl rfl rfl rfl rfl) ?_
              refine al_nil ?_
              refine awp_ret ?_
              repeat (first | refine tR ?_ | refine bR ?_)
              refine ret_ok rfl ?_ trivial
              (rw [if_pos ⟨by omega, hc6.2⟩]; rfl)
            · try simp only [nn, Fd.rows_len, Fm.rows_len, V.rows_len] at hc6
              refine awp_skip ?_
              refine awp_seq (awp_region ?_)
              refine al_pure rfl rfl rfl (pure_move rfl gU) ?_
              refine al_pure rfl rfl rfl (pure_move rfl gU) ?_
              refine al_pure rfl rfl rfl (pure_move rfl gU) ?_
              refine al_pure rfl rfl rfl (pure_fieldPtr rfl gU rfl rfl) ?_
              refine al_pure rfl rfl rfl (pure_loadBox rfl gU rfl rfl rfl rfl) ?_
              refine al_pure rfl rfl rfl (pure_min rfl rfl gU gU) ?_
              refine al_pure rfl rfl rfl (pure_move rfl gU) ?_
              refine al_call rfl rfl rfl rfl rfl rfl gU gU (rtake_spec _ _ (min (e - a) f.high.toNat) _ _ _ _ rfl (by omega) rfl (by omega) (by omega) (by omega) (by omega)) rfl ?_
              refine al_do rfl (does_store rfl rfl rfl rfl rfl rfl rfl) ?_
              refine al_nil ?_
              refine awp_ret ?_
              repeat (first | refine tR ?_ | refine bR ?_)
              refine ret_ok rfl ?_ trivial
              (rw [if_neg (by intro hq; apply hc6.elim <;> simp_all <;> omega)]; rfl)
        · try simp only [nn, Fd.rows_len, Fm.rows_len, V.rows_len] at hc4
          obtain h3 | h3 : f.kind = 3 ∨ f.kind = 4 := by omega
          · rw [if_pos h3]
            refine awp_skip ?_
            refine awp_seq ?_
            refine awp_seq (awp_region ?_)
            refine al_pure rfl rfl rfl (pure_move rfl gU) ?_
            refine al_pure rfl rfl rfl (pure_move rfl gU) ?_
            refine al_pure rfl rfl rfl (pure_cmp rfl rfl gU gU rfl) ?_
            refine al_nil ?_
            refine awp_cond rfl (fun hc1 => ?_) (fun hc1 => ?_)
            · try simp only [nn, Fd.rows_len, Fm.rows_len, V.rows_len] at hc1
              refine awp_seq (awp_region ?_)
              refine al_pure rfl rfl rfl (pure_move rfl gU) ?_
              refine al_call rfl rfl rfl rfl rfl rfl gU gU (rfail_spec _ _ rfl) rfl ?_
              refine al_do rfl (does_store rfl rfl rfl rfl rfl rfl rfl) ?_
              refine al_nil ?_
              refine awp_ret ?_
              repeat (first | refine tR ?_ | refine bR ?_)
              refine ret_ok rfl ?_ trivial
              first | (exfalso; omega) | (rw [if_pos (by omega)]; rfl) | (rw [if_neg (by omega), if_pos (by omega)]; rfl) | (rw [if_neg (by omega), if_neg (by omega)]; rfl)
            · try simp only [nn, Fd.rows_len, Fm.rows_len, V.rows_len] at hc1
              refine awp_skip ?_
              refine awp_seq (awp_region ?_)
              refine al_pure rfl rfl rfl (pure_move rfl gU) ?_
              refine al_pure rfl rfl rfl (pure_move rfl gU) ?_
              refine al_pure rfl rfl rfl (pure_indexSg (j := a) rfl rfl gU gU Try.underlying9 (by first | omega | (simp at hh; omega)) (fun hh => by first | omega | (simp at hh; omega))) ?_
              refine al_pure rfl rfl rfl (pure_convInt rfl gU ⟨_, Try.underlying5⟩ (Try.underlying3) (IntWalk.i64_in _ (by omega))) ?_
              refine al_pure rfl rfl rfl (pure_assign rfl gU) ?_
              refine al_nil ?_
              refine awp_sub (s := { t := [(2, _, _), (3, _, _), (4, _, _), (7, _, _), (12, _, _), (14, _, _)], bx := [((.l 12), _), ((.l 7), _)], ow := [] }) (sub_mk (⟨sx rfl, ⟨sx rfl, ⟨sx rfl, ⟨sx rfl, ⟨sx rfl, ⟨sx rfl, trivial⟩⟩⟩⟩⟩⟩) (⟨sx rfl, ⟨sx rfl, trivial⟩⟩) trivial) ?_
              refine awp_seq ?_
              refine awp_seq (awp_region ?_)
              refine al_pure rfl rfl rfl (pure_fieldPtr rfl gU rfl rfl) ?_
              refine al_pure rfl rfl rfl (pure_loadBox rfl gU rfl rfl rfl rfl) ?_
              refine al_pure rfl rfl rfl (pure_cmp rfl rfl gU gU rfl) ?_
              refine al_nil ?_
              refine awp_cond rfl (fun hc2 => ?_) (fun hc2 => ?_)
              · try simp only [nn, Fd.rows_len, Fm.rows_len, V.rows_len] at hc2
                refine awp_seq ?_
                refine awp_seq (awp_region ?_)
                refine al_pure rfl rfl rfl (pure_move rfl gU) ?_
                refine al_pure rfl rfl rfl (pure_fieldPtr rfl gU rfl rfl) ?_
                refine al_pure rfl rfl rfl (pure_loadBox rfl gU rfl rfl rfl rfl) ?_
                refine al_pure rfl rfl rfl (pure_cmp rfl rfl gU gU rfl) ?_
                refine al_pure rfl rfl rfl (pure_move rfl gU) ?_
                refine al_pure rfl rfl rfl (pure_move rfl gU) ?_
                refine al_pure rfl rfl rfl (pure_fieldPtr rfl gU rfl rfl) ?_
                refine al_pure rfl rfl rfl (pure_loadBox rfl (fun hh => hh) rfl rfl rfl rfl) ?_
                refine al_pure rfl rfl rfl (pure_cmp rfl rfl (fun hh => hh) (fun hh => hh) rfl) ?_
                refine al_sub (s := { t := [(3, _, _), (12, _, _), (14, _, _), (90, _, _), (94, _, _)], bx := [((.l 12), _)], ow := [] }) (sub_mk (⟨sx rfl, ⟨sx rfl, ⟨sx rfl, ⟨sx rfl, ⟨sx rfl, trivial⟩⟩⟩⟩⟩) (⟨sx rfl, trivial⟩) trivial) ?_
                refine al_pure rfl rfl rfl (pure_or rfl rfl gU (fun _ hi => gP rfl hi)) ?_
                refine al_nil ?_
                refine awp_cond rfl (fun hc3 => ?_) (fun hc3 => ?_)
                · try simp only [nn, Fd.rows_len, Fm.rows_len, V.rows_len] at hc3
                  refine awp_seq (awp_region ?_)
                  refine al_pure rfl rfl rfl (pure_move rfl gU) ?_
                  refine al_call rfl rfl rfl rfl rfl rfl gU gU (rfail_spec _ _ rfl) rfl ?_
                  refine al_do rfl (does_store rfl rfl rfl rfl rfl rfl rfl) ?_
                  refine al_nil ?_
                  refine awp_ret ?_
                  repeat (first | refine tR ?_ | refine bR ?_)
                  refine ret_ok rfl ?_ trivial
                  first | (exfalso; omega) | (rw [if_pos (by omega)]; rfl) | (rw [if_neg (by omega), if_pos (by omega)]; rfl) | (rw [if_neg (by omega), if_neg (by omega)]; rfl)
                · try simp only [nn, Fd.rows_len, Fm.rows_len, V.rows_len] at hc3
                  refine awp_skip ?_
                  refine awp_seq (awp_region ?_)
                  refine al_pure rfl rfl rfl (pure_move rfl gU) ?_
                  refine al_pure rfl rfl rfl (pure_build rfl Try.underlying25 rfl gU) ?_
                  refine al_pure rfl rfl rfl (pure_move rfl gU) ?_
                  refine al_pure rfl rfl rfl (pure_arith rfl rfl gU gU rfl (IntWalk.i64_in _ (by omega))) ?_
                  refine al_pure rfl rfl rfl (pure_build rfl Try.underlying70 rfl gU) ?_
                  refine al_do rfl (does_store rfl rfl rfl rfl rfl rfl rfl) ?_
                  refine al_nil ?_
                  refine awp_ret ?_
                  repeat (first | refine tR ?_ | refine bR ?_)
                  refine ret_ok rfl ?_ trivial
                  first | (exfalso; omega) | (rw [if_pos (by omega)]; rfl) | (rw [if_neg (by omega), if_pos (by omega)]; rfl) | (rw [if_neg (by omega), if_neg (by omega)]; rfl)
              · try simp only [nn, Fd.rows_len, Fm.rows_len, V.rows_len] at hc2
                refine awp_skip ?_
                refine awp_seq ?_
                refine awp_seq (awp_region ?_)
                refine al_pure rfl rfl rfl (pure_move rfl gU) ?_
                refine al_pure rfl rfl rfl (pure_fieldPtr rfl gU rfl rfl) ?_
                refine al_pure rfl rfl rfl (pure_loadBox rfl gU rfl rfl rfl rfl) ?_
                refine al_pure rfl rfl rfl (pure_cmp rfl rfl gU gU rfl) ?_
                refine al_nil ?_
                refine awp_sub (s := { t := [(2, _, _), (3, _, _), (4, _, _), (12, _, _), (14, _, _), (106, _, _)], bx := [((.l 12), _)], ow := [] }) (sub_mk (⟨sx rfl, ⟨sx rfl, ⟨sx rfl, ⟨sx rfl, ⟨sx rfl, ⟨sx rfl, trivial⟩⟩⟩⟩⟩⟩) (⟨sx rfl, trivial⟩) trivial) ?_
                refine awp_cond rfl (fun hc4 => ?_) (fun hc4 => ?_)
                · try simp only [nn, Fd.rows_len, Fm.rows_len, V.rows_len] at hc4
                  refine awp_seq (awp_region ?_)
                  refine al_pure rfl rfl rfl (pure_move rfl gU) ?_
                  refine al_call rfl rfl rfl rfl rfl rfl gU gU (rfail_spec _ _ rfl) rfl ?_
                  refine al_do rfl (does_store rfl rfl rfl rfl rfl rfl rfl) ?_
                  refine al_nil ?_
                  refine awp_ret ?_
                  repeat (first | refine tR ?_ | refine bR ?_)
                  refine ret_ok rfl ?_ trivial
                  first | (exfalso; omega) | (rw [if_pos (by omega)]; rfl) | (rw [if_neg (by omega), if_pos (by omega)]; rfl) | (rw [if_neg (by omega), if_neg (by omega)]; rfl)
                · try simp only [nn, Fd.rows_len, Fm.rows_len, V.rows_len] at hc4
                  refine awp_skip ?_
                  refine awp_seq (awp_region ?_)
                  refine al_pure rfl rfl rfl (pure_move rfl gU) ?_
                  refine al_pure rfl rfl rfl (pure_move rfl gU) ?_
                  refine al_pure rfl rfl rfl (pure_arith rfl rfl gU gU rfl (IntWalk.i64_in _ (by omega))) ?_
                  refine al_pure rfl rfl rfl (pure_move rfl gU) ?_
                  refine al_pure rfl rfl rfl (pure_move rfl gU) ?_
                  refine al_call rfl rfl rfl rfl rfl rfl gU gU (rtake_spec _ (a + 1) (s.getD a 0).toNat _ _ _ _ (by omega) rfl rfl (by omega) (by omega) (by omega) (by omega)) rfl ?_
                  refine al_do rfl (does_store rfl rfl rfl rfl rfl rfl rfl) ?_
                  refine al_nil ?_
                  refine awp_ret ?_
                  repeat (first | refine tR ?_ | refine bR ?_)
                  refine ret_ok rfl ?_ trivial
                  first | (exfalso; omega) | (rw [if_pos (by omega)]; rfl) | (rw [if_neg (by omega), if_pos (by omega)]; rfl) | (rw [if_neg (by omega), if_neg (by omega)]; rfl)
          · rw [if_neg (by omega), if_pos h3]
            refine awp_skip ?_
            refine awp_seq ?_
            refine awp_seq (awp_region ?_)
            refine al_pure rfl rfl rfl (pure_move rfl gU) ?_
            refine al_pure rfl rfl rfl (pure_move rfl gU) ?_
            refine al_pure rfl rfl rfl (pure_cmp rfl rfl gU gU rfl) ?_
            refine al_nil ?_
            refine awp_cond rfl (fun hc5 => ?_) (fun hc5 => ?_)
            · try simp only [nn, Fd.rows_len, Fm.rows_len, V.rows_len] at hc5
              refine awp_seq (awp_region ?_)
              refine al_pure rfl rfl rfl (pure_move rfl gU) ?_
              refine al_call rfl rfl rfl rfl rfl rfl gU gU (rfail_spec _ _ rfl) rfl ?_
              refine al_do rfl (does_store rfl rfl rfl rfl rfl rfl rfl) ?_
              refine al_nil ?_
              refine awp_ret ?_
              repeat (first | refine tR ?_ | refine bR ?_)
              refine ret_ok rfl ?_ trivial
              first | (exfalso; omega) | (rw [if_pos (by omega)]; rfl) | (rw [if_neg (by omega), if_pos (by omega)]; rfl) | (rw [if_neg (by omega), if_neg (by omega)]; rfl)
            · try simp only [nn, Fd.rows_len, Fm.rows_len, V.rows_len] at hc5
              refine awp_skip ?_
              refine awp_seq (awp_region ?_)
              refine al_pure rfl rfl rfl (pure_move rfl gU) ?_
              refine al_pure rfl rfl rfl (pure_move rfl gU) ?_
              refine al_pure rfl rfl rfl (pure_indexSg (j := a) rfl rfl gU gU Try.underlying9 (by first | omega | (simp at hh; omega)) (fun hh => by first | omega | (simp at hh; omega))) ?_
              refine al_pure rfl rfl rfl (pure_convInt rfl gU ⟨_, Try.underlying5⟩ (Try.underlying3) (IntWalk.i64_in _ (by omega))) ?_
              refine al_pure rfl rfl rfl (pure_assign rfl gU) ?_
              refine al_nil ?_
              refine awp_sub (s := { t := [(2, _, _), (3, _, _), (4, _, _), (7, _, _), (12, _, _), (14, _, _)], bx := [((.l 12), _), ((.l 7), _)], ow := [] }) (sub_mk (⟨sx rfl, ⟨sx rfl, ⟨sx rfl, ⟨sx rfl, ⟨sx rfl, ⟨sx rfl, trivial⟩⟩⟩⟩⟩⟩) (⟨sx rfl, ⟨sx rfl, trivial⟩⟩) trivial) ?_
              refine awp_seq ?_
              refine awp_seq (awp_region ?_)
              refine al_pure rfl rfl rfl (pure_fieldPtr rfl gU rfl rfl) ?_
              refine al_pure rfl rfl rfl (pure_loadBox rfl gU rfl rfl rfl rfl) ?_
              refine al_pure rfl rfl rfl (pure_cmp rfl rfl gU gU rfl) ?_
              refine al_nil ?_
              refine awp_cond rfl (fun hc6 => ?_) (fun hc6 => ?_)
              · try simp only [nn, Fd.rows_len, Fm.rows_len, V.rows_len] at hc6
                refine awp_seq ?_
                refine awp_seq (awp_region ?_)
                refine al_pure rfl rfl rfl (pure_move rfl gU) ?_
                refine al_pure rfl rfl rfl (pure_fieldPtr rfl gU rfl rfl) ?_
                refine al_pure rfl rfl rfl (pure_loadBox rfl gU rfl rfl rfl rfl) ?_
                refine al_pure rfl rfl rfl (pure_cmp rfl rfl gU gU rfl) ?_
                refine al_pure rfl rfl rfl (pure_move rfl gU) ?_
                refine al_pure rfl rfl rfl (pure_move rfl gU) ?_
                refine al_pure rfl rfl rfl (pure_fieldPtr rfl gU rfl rfl) ?_
                refine al_pure rfl rfl rfl (pure_loadBox rfl (fun hh => hh) rfl rfl rfl rfl) ?_
                refine al_pure rfl rfl rfl (pure_cmp rfl rfl (fun hh => hh) (fun hh => hh) rfl) ?_
                refine al_sub (s := { t := [(3, _, _), (12, _, _), (14, _, _), (90, _, _), (94, _, _)], bx := [((.l 12), _)], ow := [] }) (sub_mk (⟨sx rfl, ⟨sx rfl, ⟨sx rfl, ⟨sx rfl, ⟨sx rfl, trivial⟩⟩⟩⟩⟩) (⟨sx rfl, trivial⟩) trivial) ?_
                refine al_pure rfl rfl rfl (pure_or rfl rfl gU (fun _ hi => gP rfl hi)) ?_
                refine al_nil ?_
                refine awp_cond rfl (fun hc7 => ?_) (fun hc7 => ?_)
                · try simp only [nn, Fd.rows_len, Fm.rows_len, V.rows_len] at hc7
                  refine awp_seq (awp_region ?_)
                  refine al_pure rfl rfl rfl (pure_move rfl gU) ?_
                  refine al_call rfl rfl rfl rfl rfl rfl gU gU (rfail_spec _ _ rfl) rfl ?_
                  refine al_do rfl (does_store rfl rfl rfl rfl rfl rfl rfl) ?_
                  refine al_nil ?_
                  refine awp_ret ?_
                  repeat (first | refine tR ?_ | refine bR ?_)
                  refine ret_ok rfl ?_ trivial
                  first | (exfalso; omega) | (rw [if_pos (by omega)]; rfl) | (rw [if_neg (by omega), if_pos (by omega)]; rfl) | (rw [if_neg (by omega), if_neg (by omega)]; rfl)
                · try simp only [nn, Fd.rows_len, Fm.rows_len, V.rows_len] at hc7
                  refine awp_skip ?_
                  refine awp_seq (awp_region ?_)
                  refine al_pure rfl rfl rfl (pure_move rfl gU) ?_
                  refine al_pure rfl rfl rfl (pure_build rfl Try.underlying25 rfl gU) ?_
                  refine al_pure rfl rfl rfl (pure_move rfl gU) ?_
                  refine al_pure rfl rfl rfl (pure_arith rfl rfl gU gU rfl (IntWalk.i64_in _ (by omega))) ?_
                  refine al_pure rfl rfl rfl (pure_build rfl Try.underlying70 rfl gU) ?_
                  refine al_do rfl (does_store rfl rfl rfl rfl rfl rfl rfl) ?_
                  refine al_nil ?_
                  refine awp_ret ?_
                  repeat (first | refine tR ?_ | refine bR ?_)
                  refine ret_ok rfl ?_ trivial
                  first | (exfalso; omega) | (rw [if_pos (by omega)]; rfl) | (rw [if_neg (by omega), if_pos (by omega)]; rfl) | (rw [if_neg (by omega), if_neg (by omega)]; rfl)
              · try simp only [nn, Fd.rows_len, Fm.rows_len, V.rows_len] at hc6
                refine awp_skip ?_
                refine awp_seq ?_
                refine awp_seq (awp_region ?_)
                refine al_pure rfl rfl rfl (pure_move rfl gU) ?_
                refine al_pure rfl rfl rfl (pure_fieldPtr rfl gU rfl rfl) ?_
                refine al_pure rfl rfl rfl (pure_loadBox rfl gU rfl rfl rfl rfl) ?_
                refine al_pure rfl rfl rfl (pure_cmp rfl rfl gU gU rfl) ?_
                refine al_nil ?_
                refine awp_sub (s := { t := [(2, _, _), (3, _, _), (4, _, _), (12, _, _), (14, _, _), (106, _, _)], bx := [((.l 12), _)], ow := [] }) (sub_mk (⟨sx rfl, ⟨sx rfl, ⟨sx rfl, ⟨sx rfl, ⟨sx rfl, ⟨sx rfl, trivial⟩⟩⟩⟩⟩⟩) (⟨sx rfl, trivial⟩) trivial) ?_
                refine awp_cond rfl (fun hc8 => ?_) (fun hc8 => ?_)
                · try simp only [nn, Fd.rows_len, Fm.rows_len, V.rows_len] at hc8
                  refine awp_seq (awp_region ?_)
                  refine al_pure rfl rfl rfl (pure_move rfl gU) ?_
                  refine al_call rfl rfl rfl rfl rfl rfl gU gU (rfail_spec _ _ rfl) rfl ?_
                  refine al_do rfl (does_store rfl rfl rfl rfl rfl rfl rfl) ?_
                  refine al_nil ?_
                  refine awp_ret ?_
                  repeat (first | refine tR ?_ | refine bR ?_)
                  refine ret_ok rfl ?_ trivial
                  first | (exfalso; omega) | (rw [if_pos (by omega)]; rfl) | (rw [if_neg (by omega), if_pos (by omega)]; rfl) | (rw [if_neg (by omega), if_neg (by omega)]; rfl)
                · try simp only [nn, Fd.rows_len, Fm.rows_len, V.rows_len] at hc8
                  refine awp_skip ?_
                  refine awp_seq (awp_region ?_)
                  refine al_pure rfl rfl rfl (pure_move rfl gU) ?_
                  refine al_pure rfl rfl rfl (pure_move rfl gU) ?_
                  refine al_pure rfl rfl rfl (pure_arith rfl rfl gU gU rfl (IntWalk.i64_in _ (by omega))) ?_
                  refine al_pure rfl rfl rfl (pure_move rfl gU) ?_
                  refine al_pure rfl rfl rfl (pure_move rfl gU) ?_
                  refine al_call rfl rfl rfl rfl rfl rfl gU gU (rtake_spec _ (a + 1) (s.getD a 0).toNat _ _ _ _ (by omega) rfl rfl (by omega) (by omega) (by omega) (by omega)) rfl ?_
                  refine al_do rfl (does_store rfl rfl rfl rfl rfl rfl rfl) ?_
                  refine al_nil ?_
                  refine awp_ret ?_
                  repeat (first | refine tR ?_ | refine bR ?_)
                  refine ret_ok rfl ?_ trivial
                  first | (exfalso; omega) | (rw [if_pos (by omega)]; rfl) | (rw [if_neg (by omega), if_pos (by omega)]; rfl) | (rw [if_neg (by omega), if_neg (by omega)]; rfl)
end Go.Proofs.Ytgjclggjkhapfaa
/- Contracts: Decode, Prefix, as the reference does. -/
set_option linter.unusedVariables false
set_option linter.unusedSimpArgs false
namespace Go.Proofs.Ytgjclggjkhapfaa
open Go Go.Abs
theorem rread_gen (t : List Fm) (i : Int) (s : List UInt8) (a0 e : Nat) (ai ei : Int) (pre : Bool) (rec : Int → Nat → Nat → Pl) (ha : ai = a0) (he : ei = e) (h1 : a0 ≤ e) (h2 : e ≤ s.length) (hs : s.length ≤ 100000) (hi : 0 ≤ i ∧ i < t.length)
    (hl6 : (t.getD i.toNat default).fields.length ≤ 6)
    (hfd : ∀ k, k < (t.getD i.toNat default).fields.length → FdOk ((t.getD i.toNat default).fields.getD k default))
    (hle : ∀ k, k < (t.getD i.toNat default).fields.length → ((t.getD i.toNat default).fields.getD k default).kind = 5 → ∀ b c, b ≤ c → b ≤ (rec ((t.getD i.toNat default).fields.getD k default).n b c).p ∧ (rec ((t.getD i.toNat default).fields.getD k default).n b c).p ≤ c)
    (hrec : ∀ k, k < (t.getD i.toNat default).fields.length → ((t.getD i.toNat default).fields.getD k default).kind = 5 → ∀ b c, b ≤ c → c ≤ s.length → ∀ bi ci : Int, bi = b → ci = c →
      Ctr sys 42 [xtab t, xi ((t.getD i.toNat default).fields.getD k default).n, xs s, xi bi, xi ci, xb false] [] (xpl (rec ((t.getD i.toNat default).fields.getD k default).n b c)) none []) :
    Ctr sys 42 [xtab t, xi i, xs s, xi ai, xi ei, xb pre] [] (xpl (readL false rec t s e pre (t.getD i.toNat default).fields [] a0)) none [] := by
  subst ha; subst he
  have hrl := Fm.rows_len t
  have hrf := Fd.rows_len (t.getD i.toNat default).fields
  refine spec_intro Try.func42 rfl rfl rfl rfl rfl rfl ?_
  refine awp_seq (awp_region ?_)
  refine al_do rfl (does_alloc rfl rfl rfl) ?_
  refine al_nil ?_
  refine awp_seq (awp_region ?_)
  refine al_do rfl (does_allocX rfl rfl rfl rfl) ?_
  refine al_nil ?_
  refine awp_seq ?_
  refine awp_seq (awp_region ?_)
  refine al_pure rfl rfl rfl (pure_assign rfl gU) ?_
  refine al_nil ?_
  refine awp_block ?_
  refine awp_own (.l 13) 2 3 rfl rfl rfl ?_
  refine awp_for (ι := Nat × List V × Nat) { t := [(0, _, _), (1, _, _), (2, _, _), (4, _, _), (5, _, _), (12, _, _), (13, _, _)], bx := [((.l 12), _)], ow := [((.b (.l 13) 2), _)] } (fun p => [(14, true, xi (p.1 : Int)), (3, true, xi (p.2.2 : Int))]) (fun p => [((.l 13), [.s [], .i .i64 0, .sl 3 (V.rows p.2.1)])]) (fun p => p.1 ≤ (t.getD i.toNat default).fields.length ∧ p.2.1.length ≤ p.1 ∧ p.2.2 ≤ e ∧ readL false rec t s e pre ((t.getD i.toNat default).fields.drop p.1) p.2.1 p.2.2 = readL false rec t s e pre (t.getD i.toNat default).fields [] a0) (fun p => (t.getD i.toNat default).fields.length - p.1) ((0, [], a0)) (⟨by simp, by simp, h1, rfl⟩) (sub_mk (⟨sx rfl, ⟨sx rfl, ⟨sx rfl, ⟨sx rfl, ⟨sx rfl, ⟨sx rfl, ⟨sx rfl, ⟨sx rfl, ⟨sx rfl, trivial⟩⟩⟩⟩⟩⟩⟩⟩⟩) (⟨sx rfl, ⟨sx rfl, trivial⟩⟩) (⟨rfl, trivial⟩)) ?_
  intro p hok
  dsimp only [List.cons_append, List.nil_append] at *
  obtain ⟨k, vs, a⟩ := p
  dsimp only at hok ⊢
  obtain ⟨hk, hvk, hae, hinv⟩ := hok
  have hvr := V.rows_len vs
  refine awp_seq ?_
  refine awp_seq (awp_region ?_)
  refine al_pure rfl rfl rfl (pure_move rfl gU) ?_
  refine al_pure rfl rfl rfl (pure_move rfl gU) ?_
  refine al_pure rfl rfl rfl (pure_move rfl gU) ?_
  refine al_pure rfl rfl rfl (pure_indexAddr (j := i.toNat) rfl rfl gU gU rfl rfl (by omega) (fun hh => Fm.rows_at (by omega))) ?_
  refine al_pure rfl rfl rfl (pure_fieldRo rfl gU rfl rfl) ?_
  refine al_pure rfl rfl rfl (pure_loadRo rfl gU rfl rfl rfl) ?_
  refine al_lenSl rfl rfl rfl rfl rfl gU rfl rfl ?_ (fun hh => by simp at hh); intro hlen
  refine al_pure rfl rfl rfl (pure_cmp rfl rfl gU gU rfl) ?_
  refine al_nil ?_
  refine awp_sub (s := { t := [(0, _, _), (1, _, _), (2, _, _), (3, _, _), (4, _, _), (5, _, _), (12, _, _), (13, _, _), (14, _, _), (23, _, _)], bx := [((.l 12), _), ((.l 13), _)], ow := [((.b (.l 13) 2), _)] }) (sub_mk (⟨sx rfl, ⟨sx rfl, ⟨sx rfl, ⟨sx rfl, ⟨sx rfl, ⟨sx rfl, ⟨sx rfl, ⟨sx rfl, ⟨sx rfl, ⟨sx rfl, trivial⟩⟩⟩⟩⟩⟩⟩⟩⟩⟩) (⟨sx rfl, ⟨sx rfl, trivial⟩⟩) (⟨rfl, trivial⟩)) ?_
  refine awp_cond rfl (fun hc => ?_) (fun hc => ?_)
  · try simp only [nn, Fd.rows_len, Fm.rows_len, V.rows_len] at hc
    have hfl := fldP_le (k := false) (t := t) (s := s) (pre := pre) hae (hle k (by omega))
    rw [drop_getD (l := (t.getD i.toNat default).fields) (by omega), readL] at hinv
    refine awp_skip ?_
    refine awp_seq ?_
    refine awp_block ?_
    refine awp_seq (awp_region ?_)
    refine al_pure rfl rfl rfl (pure_move rfl gU) ?_
    refine al_pure rfl rfl rfl (pure_move rfl gU) ?_
    refine al_pure rfl rfl rfl (pure_move rfl gU) ?_
    refine al_pure rfl rfl rfl (pure_indexAddr (j := i.toNat) rfl rfl gU gU rfl rfl (by omega) (fun hh => Fm.rows_at (by omega))) ?_
    refine al_pure rfl rfl rfl (pure_fieldRo rfl gU rfl rfl) ?_
    refine al_pure rfl rfl rfl (pure_loadRo rfl gU rfl rfl rfl) ?_
    refine al_pure rfl rfl rfl (pure_move rfl gU) ?_
    refine al_pure rfl rfl rfl (pure_indexAddr rfl rfl gU gU rfl rfl rfl (fun hh => Fd.rows_at (by omega))) ?_
    refine al_pure rfl rfl rfl (pure_loadRoRow rfl gU rfl rfl rfl rfl) ?_
    refine al_pure rfl rfl rfl (pure_move rfl gU) ?_
    refine al_pure rfl rfl rfl (pure_move rfl gU) ?_
    refine al_pure rfl rfl rfl (pure_move rfl gU) ?_
    refine al_sub (s := { t := [(0, _, _), (1, _, _), (2, _, _), (4, _, _), (5, _, _), (12, _, _), (13, _, _), (14, _, _), (26, _, _), (34, _, _), (35, _, _), (36, _, _), (37, _, _)], bx := [((.l 12), _), ((.l 13), _)], ow := [((.b (.l 13) 2), _)] }) (sub_mk (⟨sx rfl, ⟨sx rfl, ⟨sx rfl, ⟨sx rfl, ⟨sx rfl, ⟨sx rfl, ⟨sx rfl, ⟨sx rfl, ⟨sx rfl, ⟨sx rfl, ⟨sx rfl, ⟨sx rfl, ⟨sx rfl, trivial⟩⟩⟩⟩⟩⟩⟩⟩⟩⟩⟩⟩⟩) (⟨sx rfl, ⟨sx rfl, trivial⟩⟩) (⟨rfl, trivial⟩)) ?_
    refine al_pure rfl rfl rfl (pure_move rfl gU) ?_
    refine al_call rfl rfl rfl rfl rfl rfl gU gU (rfield_gen _ _ _ _ _ _ _ rec (hfd k (by omega)) (by first | rfl | omega) hae h2 hs (hle k (by omega)) (hrec k (by omega))) rfl ?_
    refine al_do rfl (does_alloc rfl rfl rfl) ?_
    refine al_do rfl (does_store rfl rfl rfl rfl rfl rfl rfl) ?_
    refine al_nil ?_
    refine awp_seq ?_
    refine awp_seq (awp_region ?_)
    refine al_pure rfl rfl rfl (pure_fieldPtr rfl gU rfl rfl) ?_
    refine al_pure rfl rfl rfl (pure_loadBox rfl gU rfl rfl rfl rfl) ?_
    refine al_pure rfl rfl rfl (pure_not rfl gU) ?_
    refine al_nil ?_
    refine awp_sub (s := { t := [(0, _, _), (1, _, _), (2, _, _), (4, _, _), (5, _, _), (12, _, _), (13, _, _), (14, _, _), (15, _, _), (42, _, _)], bx := [((.l 12), _), ((.l 13), _), ((.l 15), _)], ow := [((.b (.l 13) 2), _)] }) (sub_mk (⟨sx rfl, ⟨sx rfl, ⟨sx rfl, ⟨sx rfl, ⟨sx rfl, ⟨sx rfl, ⟨sx rfl, ⟨sx rfl, ⟨sx rfl, ⟨sx rfl, trivial⟩⟩⟩⟩⟩⟩⟩⟩⟩⟩) (⟨sx rfl, ⟨sx rfl, ⟨sx rfl, trivial⟩⟩⟩) (⟨rfl, trivial⟩)) ?_
    refine awp_cond rfl (fun hc2 => ?_) (fun hc2 => ?_)
    · try simp only [nn, Fd.rows_len, Fm.rows_len, V.rows_len] at hc2
      rw [if_neg (by rw [hc2]; exact Bool.false_ne_true)] at hinv
      refine awp_seq (awp_region ?_)
      refine al_pure rfl rfl rfl (pure_fieldPtr rfl gU rfl rfl) ?_
      refine al_pure rfl rfl rfl (pure_loadBox rfl gU rfl rfl rfl rfl) ?_
      refine al_call rfl rfl rfl rfl rfl rfl gU gU (rfail_spec _ _ rfl) rfl ?_
      refine al_do rfl (does_store rfl rfl rfl rfl rfl rfl rfl) ?_
      refine al_nil ?_
      refine awp_ret ?_
      repeat (first | refine tR ?_ | refine bR ?_)
      refine ret_ok rfl ?_ trivial
      (rw [← hinv]; rfl)
    · try simp only [nn, Fd.rows_len, Fm.rows_len, V.rows_len] at hc2
      rw [if_pos hc2] at hinv
      refine awp_skip ?_
      refine awp_seq (awp_region ?_)
      refine al_pure rfl rfl rfl (pure_fieldPtr rfl gU rfl rfl) ?_
      refine al_do rfl (does_loadTake rfl rfl rfl rfl rfl rfl rfl) ?_
      refine al_pure rfl rfl rfl (pure_fieldPtr rfl gU rfl rfl) ?_
      refine al_pure rfl rfl rfl (pure_loadBoxRow rfl gU rfl rfl rfl rfl rfl) ?_
      refine al_buildSlice (xs := [_]) rfl rfl rfl rfl rfl rfl rfl rfl rfl gU rfl ?_
      refine al_do rfl (does_append rfl rfl rfl rfl rfl rfl rfl (by simp [V.rows_len]; omega) (by simp [V.rows_len]; omega)) ?_
      refine al_pure rfl rfl rfl (pure_fieldPtr rfl gU rfl rfl) ?_
      refine al_do rfl (does_storeOwn rfl rfl rfl rfl rfl rfl rfl) ?_
      refine al_nil ?_
      refine awp_sub (s := { t := [(0, _, _), (1, _, _), (2, _, _), (4, _, _), (5, _, _), (12, _, _), (13, _, _), (14, _, _), (15, _, _)], bx := [((.l 12), _), ((.l 13), _), ((.l 15), _)], ow := [((.b (.l 13) 2), _)] }) (sub_mk (⟨sx rfl, ⟨sx rfl, ⟨sx rfl, ⟨sx rfl, ⟨sx rfl, ⟨sx rfl, ⟨sx rfl, ⟨sx rfl, ⟨sx rfl, trivial⟩⟩⟩⟩⟩⟩⟩⟩⟩) (⟨sx rfl, ⟨sx rfl, ⟨sx rfl, trivial⟩⟩⟩) (⟨rfl, trivial⟩)) ?_
      refine awp_region ?_
      refine al_pure rfl rfl rfl (pure_fieldPtr rfl gU rfl rfl) ?_
      refine al_pure rfl rfl rfl (pure_loadBox rfl gU rfl rfl rfl rfl) ?_
      refine al_pure rfl rfl rfl (pure_assign rfl gU) ?_
      refine al_nil ?_
      refine awp_region ?_
      refine al_pure rfl rfl rfl (pure_move rfl gU) ?_
      refine al_pure rfl rfl rfl (pure_arith rfl rfl gU gU rfl (IntWalk.i64_in _ (by omega))) ?_
      refine al_pure rfl rfl rfl (pure_assign rfl gU) ?_
      refine al_nil ?_
      refine ⟨(k + 1, vs ++ [(fldP false rec t (((t.getD i.toNat default).fields.getD k default)) s a e pre).v], (fldP false rec t (((t.getD i.toNat default).fields.getD k default)) s a e pre).p), ?_, ?_, sub_mk (⟨⟨_, rfl, ?_⟩, ⟨⟨_, rfl, ?_⟩, ⟨sx rfl, ⟨sx rfl, ⟨sx rfl, ⟨sx rfl, ⟨sx rfl, ⟨sx rfl, ⟨sx rfl, trivial⟩⟩⟩⟩⟩⟩⟩⟩⟩) (⟨⟨_, rfl, ?_⟩, ⟨sx rfl, trivial⟩⟩) (⟨rfl, trivial⟩)⟩
      · exact ⟨by dsimp only; omega, by simp; omega, hfl.2, hinv⟩
      · dsimp only; omega
      · rfl
      · rfl
      · show [C.s [], C.i .i64 0, C.sl 3 (V.rows vs ++ [_])] = _
        rw [← V.rows_snoc]; rfl
  · try simp only [nn, Fd.rows_len, Fm.rows_len, V.rows_len] at hc
    rw [List.drop_of_length_le (by omega), readL] at hinv
    refine awp_exit ?_
    repeat (first | refine thenS_exit ?_ | refine blockS_hit ?_ | refine blockS_miss rfl ?_)
    refine awp_seq (awp_region ?_)
    refine al_pure rfl rfl rfl (pure_loadBoxRow rfl gU rfl rfl rfl rfl rfl) ?_
    refine al_pure rfl rfl rfl (pure_move rfl gU) ?_
    refine al_pure rfl rfl rfl (pure_build rfl Try.underlying70 rfl gU) ?_
    refine al_do rfl (does_store rfl rfl rfl rfl rfl rfl rfl) ?_
    refine al_nil ?_
    refine awp_ret ?_
    repeat (first | refine tR ?_ | refine bR ?_)
    refine ret_ok rfl ?_ trivial
    (rw [← hinv]; rfl)
theorem rread_spec (t : List Fm) (i : Int) (s : List UInt8) (a e : Nat) (ai ei : Int) (pre : Bool) (ha : ai = a) (he : ei = e) (h1 : a ≤ e) (h2 : e ≤ s.length) (hs : s.length ≤ 100000) (hi : 0 ≤ i ∧ i < t.length) (h : Fds t (t.getD i.toNat default).fields) :
    Ctr sys 42 [xtab t, xi i, xs s, xi ai, xi ei, xb pre] [] (xpl (readT false t s pre i a e)) none [] := by
  refine rread_gen t i s a e ai ei pre (read0 false t s) ha he h1 h2 hs hi h.len.2 h.ok (fun k hk h5 b c hbc => read0_le hbc (h.nest k hk h5).2) fun k hk h5 b c hbc hc bi ci hb hci => ?_
  obtain ⟨q1, q2⟩ := h.nest k hk h5
  have q3 := (h.ok k hk).n
  exact rread_gen t _ s b c bi ci false (fun _ _ _ => failP 0) hb hci hbc hc hs (by omega) q2.len.2 (fun j hj => (q2.ok j hj).1) (fun j hj h6 => absurd h6 (q2.ok j hj).2.1) fun j hj h6 => absurd h6 (q2.ok j hj).2.1
/-- Decode's answer: value, position, error. -/
abbrev D3 := V × Int × Int
def decE (t : List Fm) (i : Int) (s : List UInt8) : D3 := if errE t i ≠ 0 then (v0, 0, errE t i) else
  if (readT false t s false i 0 s.length).ok = false ∨ (readT false t s false i 0 s.length).p < s.length then (v0, (readT false t s false i 0 s.length).p, 2) else ((readT false t s false i 0 s.length).v, 0, 0)
def preE (t : List Fm) (i : Int) (s : List UInt8) : D3 := if errE t i ≠ 0 then (v0, 0, errE t i) else
  if (readT false t s true i 0 s.length).ok = false then (v0, (readT false t s true i 0 s.length).p, 2) else ((readT false t s true i 0 s.length).v, (readT false t s true i 0 s.length).p, 0)
abbrev xd3 (d : D3) : X := .tup [.agg d.1.cells, .c (.i .i64 d.2.1), .c (.i .i64 d.2.2)]
theorem rDecode_spec (t : List Fm) (i : Int) (s : List UInt8) (hs : s.length ≤ 100000) : Ctr sys 20 [xtab t, xi i, xs s] [] (xd3 (decE t i s)) none [] := by
  refine spec_intro Try.func20 rfl rfl rfl rfl rfl rfl ?_
  refine awp_seq (awp_region ?_)
  refine al_do rfl (does_alloc rfl rfl rfl) ?_
  refine al_pure rfl rfl rfl (pure_assign rfl gU) ?_
  refine al_pure rfl rfl rfl (pure_assign rfl gU) ?_
  refine al_nil ?_
  refine awp_seq ?_
  refine awp_seq (awp_region ?_)
  refine al_pure rfl rfl rfl (pure_move rfl gU) ?_
  refine al_pure rfl rfl rfl (pure_move rfl gU) ?_
  refine al_call rfl rfl rfl rfl rfl rfl gU gU (rError_spec _ _) rfl ?_
  refine al_pure rfl rfl rfl (pure_assign rfl gU) ?_
  refine al_nil ?_
  refine awp_sub (s := { t := [(0, _, _), (1, _, _), (2, _, _), (6, _, _), (9, _, _)], bx := [((.l 6), _)], ow := [] }) (sub_mk (⟨sx rfl, ⟨sx rfl, ⟨sx rfl, ⟨sx rfl, ⟨sx rfl, trivial⟩⟩⟩⟩⟩) (⟨sx rfl, trivial⟩) trivial) ?_
  refine awp_seq (awp_region ?_)
  refine al_pure rfl rfl rfl (pure_move rfl gU) ?_
  refine al_pure rfl rfl rfl (pure_cmp rfl rfl gU gU rfl) ?_
  refine al_nil ?_
  refine awp_cond rfl (fun hc => ?_) (fun hc => ?_)
  · try simp only [nn, Fd.rows_len, Fm.rows_len, V.rows_len] at hc
    refine awp_seq (awp_region ?_)
    refine al_pure rfl rfl rfl (pure_build rfl Try.underlying25 rfl gU) ?_
    refine al_pure rfl rfl rfl (pure_move rfl gU) ?_
    refine al_do rfl (does_store rfl rfl rfl rfl rfl rfl rfl) ?_
    refine al_pure rfl rfl rfl (pure_assign rfl gU) ?_
    refine al_pure rfl rfl rfl (pure_assign rfl gU) ?_
    refine al_nil ?_
    refine awp_ret ?_
    repeat (first | refine tR ?_ | refine bR ?_)
    refine ret_ok rfl ?_ trivial
    (rw [decE, if_pos hc]; rfl)
  · try simp only [nn, Fd.rows_len, Fm.rows_len, V.rows_len] at hc
    have he : errE t i = 0 := hc
    rw [decE, if_neg (by omega)]
    refine awp_skip ?_
    refine awp_seq (awp_region ?_)
    refine al_pure rfl rfl rfl (pure_move rfl gU) ?_
    refine al_pure rfl rfl rfl (pure_move rfl gU) ?_
    refine al_pure rfl rfl rfl (pure_move rfl gU) ?_
    refine al_pure rfl rfl rfl (pure_move rfl gU) ?_
    refine al_lenS rfl rfl rfl rfl rfl gU (Try.underlying9) ?_ (fun hh => by simp at hh); intro hlen
    refine al_call rfl rfl rfl rfl rfl rfl gU gU (rread_spec _ _ _ 0 s.length _ _ _ rfl rfl (by omega) (by omega) (by omega) (errE_fds he).1 (errE_fds he).2) rfl ?_
    refine al_do rfl (does_alloc rfl rfl rfl) ?_
    refine al_do rfl (does_store rfl rfl rfl rfl rfl rfl rfl) ?_
    refine al_nil ?_
    refine awp_sub (s := { t := [(2, _, _), (6, _, _), (10, _, _)], bx := [((.l 10), _), ((.l 6), _)], ow := [] }) (sub_mk (⟨sx rfl, ⟨sx rfl, ⟨sx rfl, trivial⟩⟩⟩) (⟨sx rfl, ⟨sx rfl, trivial⟩⟩) trivial) ?_
    refine awp_seq ?_
    refine awp_seq (awp_region ?_)
    refine al_pure rfl rfl rfl (pure_fieldPtr rfl gU rfl rfl) ?_
    refine al_pure rfl rfl rfl (pure_loadBox rfl gU rfl rfl rfl rfl) ?_
    refine al_pure rfl rfl rfl (pure_not rfl gU) ?_
    refine al_pure rfl rfl rfl (pure_move rfl gU) ?_
    refine al_pure rfl rfl rfl (pure_fieldPtr rfl gU rfl rfl) ?_
    refine al_pure rfl rfl rfl (pure_loadBox rfl (fun hh => hh) rfl rfl rfl rfl) ?_
    refine al_pure rfl rfl rfl (pure_move rfl gU) ?_
    refine al_pure rfl rfl rfl (pure_lenS rfl (fun hh => hh) (Try.underlying9)) ?_
    refine al_pure rfl rfl rfl (pure_cmp rfl rfl (fun hh => hh) (fun hh => hh) rfl) ?_
    refine al_pure rfl rfl rfl (pure_or rfl rfl gU (fun _ hi => gP rfl hi)) ?_
    refine al_nil ?_
    refine awp_sub (s := { t := [(6, _, _), (10, _, _), (33, _, _)], bx := [((.l 10), _), ((.l 6), _)], ow := [] }) (sub_mk (⟨sx rfl, ⟨sx rfl, ⟨sx rfl, trivial⟩⟩⟩) (⟨sx rfl, ⟨sx rfl, trivial⟩⟩) trivial) ?_
    refine awp_cond rfl (fun hc2 => ?_) (fun hc2 => ?_)
    · try simp only [nn, Fd.rows_len, Fm.rows_len, V.rows_len] at hc2
      refine awp_seq ?_
      refine awp_drawn' (by kernel_rfl) ?_
      refine dr_pure rfl rfl rfl rfl (pure_build rfl Try.underlying25 rfl gU) ?_
      refine dr_pure rfl rfl rfl rfl (pure_fieldPtr rfl gU rfl rfl) ?_
      refine dr_load rfl rfl rfl rfl rfl rfl rfl gU rfl rfl rfl rfl ?_
      refine dr_store rfl rfl rfl rfl rfl rfl rfl rfl rfl rfl rfl rfl ?_
      refine dr_pure rfl rfl rfl rfl (pure_assign rfl gU) ?_
      refine dr_pure rfl rfl rfl rfl (pure_assign rfl gU) ?_
      refine dr_nil (by kernel_rfl) ?_
      refine awp_ret ?_
      repeat (first | refine tR ?_ | refine bR ?_)
      refine ret_ok rfl ?_ trivial
      (rw [if_pos (by rcases hc2 with h | h; exact .inl h; exact .inr (by omega))]; rfl)
    · try simp only [nn, Fd.rows_len, Fm.rows_len, V.rows_len] at hc2
      refine awp_skip ?_
      refine awp_seq (awp_region ?_)
      refine al_pure rfl rfl rfl (pure_fieldPtr rfl gU rfl rfl) ?_
      refine al_pure rfl rfl rfl (pure_loadBoxRow rfl gU rfl rfl rfl rfl rfl) ?_
      refine al_do rfl (does_store rfl rfl rfl rfl rfl rfl rfl) ?_
      refine al_pure rfl rfl rfl (pure_assign rfl gU) ?_
      refine al_pure rfl rfl rfl (pure_assign rfl gU) ?_
      refine al_nil ?_
      refine awp_ret ?_
      repeat (first | refine tR ?_ | refine bR ?_)
      refine ret_ok rfl ?_ trivial
      (rw [if_neg (by intro h; rcases h with h | h; rw [h] at hc2; exact absurd hc2.1 (by decide); omega)]; rfl)
theorem rPrefix_spec (t : List Fm) (i : Int) (s : List UInt8) (hs : s.length ≤ 100000) : Ctr sys 25 [xtab t, xi i, xs s] [] (xd3 (preE t i s)) none [] := by
  refine spec_intro Try.func25 rfl rfl rfl rfl rfl rfl ?_
  refine awp_seq (awp_region ?_)
  refine al_do rfl (does_alloc rfl rfl rfl) ?_
  refine al_pure rfl rfl rfl (pure_assign rfl gU) ?_
  refine al_pure rfl rfl rfl (pure_assign rfl gU) ?_
  refine al_nil ?_
  refine awp_seq ?_
  refine awp_seq (awp_region ?_)
  refine al_pure rfl rfl rfl (pure_move rfl gU) ?_
  refine al_pure rfl rfl rfl (pure_move rfl gU) ?_
  refine al_call rfl rfl rfl rfl rfl rfl gU gU (rError_spec _ _) rfl ?_
  refine al_pure rfl rfl rfl (pure_assign rfl gU) ?_
  refine al_nil ?_
  refine awp_sub (s := { t := [(0, _, _), (1, _, _), (2, _, _), (6, _, _), (9, _, _)], bx := [((.l 6), _)], ow := [] }) (sub_mk (⟨sx rfl, ⟨sx rfl, ⟨sx rfl, ⟨sx rfl, ⟨sx rfl, trivial⟩⟩⟩⟩⟩) (⟨sx rfl, trivial⟩) trivial) ?_
  refine awp_seq (awp_region ?_)
  refine al_pure rfl rfl rfl (pure_move rfl gU) ?_
  refine al_pure rfl rfl rfl (pure_cmp rfl rfl gU gU rfl) ?_
  refine al_nil ?_
  refine awp_cond rfl (fun hc => ?_) (fun hc => ?_)
  · try simp only [nn, Fd.rows_len, Fm.rows_len, V.rows_len] at hc
    refine awp_seq (awp_region ?_)
    refine al_pure rfl rfl rfl (pure_build rfl Try.underlying25 rfl gU) ?_
    refine al_pure rfl rfl rfl (pure_move rfl gU) ?_
    refine al_do rfl (does_store rfl rfl rfl rfl rfl rfl rfl) ?_
    refine al_pure rfl rfl rfl (pure_assign rfl gU) ?_
    refine al_pure rfl rfl rfl (pure_assign rfl gU) ?_
    refine al_nil ?_
    refine awp_ret ?_
    repeat (first | refine tR ?_ | refine bR ?_)
    refine ret_ok rfl ?_ trivial
    (rw [preE, if_pos hc]; rfl)
  · try simp only [nn, Fd.rows_len, Fm.rows_len, V.rows_len] at hc
    have he : errE t i = 0 := hc
    rw [preE, if_neg (by omega)]
    refine awp_skip ?_
    refine awp_seq (awp_region ?_)
    refine al_pure rfl rfl rfl (pure_move rfl gU) ?_
    refine al_pure rfl rfl rfl (pure_move rfl gU) ?_
    refine al_pure rfl rfl rfl (pure_move rfl gU) ?_
    refine al_pure rfl rfl rfl (pure_move rfl gU) ?_
    refine al_lenS rfl rfl rfl rfl rfl gU (Try.underlying9) ?_ (fun hh => by simp at hh); intro hlen
    refine al_call rfl rfl rfl rfl rfl rfl gU gU (rread_spec _ _ _ 0 s.length _ _ _ rfl rfl (by omega) (by omega) (by omega) (errE_fds he).1 (errE_fds he).2) rfl ?_
    refine al_do rfl (does_alloc rfl rfl rfl) ?_
    refine al_do rfl (does_store rfl rfl rfl rfl rfl rfl rfl) ?_
    refine al_nil ?_
    refine awp_sub (s := { t := [(6, _, _), (10, _, _)], bx := [((.l 10), _), ((.l 6), _)], ow := [] }) (sub_mk (⟨sx rfl, ⟨sx rfl, trivial⟩⟩) (⟨sx rfl, ⟨sx rfl, trivial⟩⟩) trivial) ?_
    refine awp_seq ?_
    refine awp_seq (awp_region ?_)
    refine al_pure rfl rfl rfl (pure_fieldPtr rfl gU rfl rfl) ?_
    refine al_pure rfl rfl rfl (pure_loadBox rfl gU rfl rfl rfl rfl) ?_
    refine al_pure rfl rfl rfl (pure_not rfl gU) ?_
    refine al_nil ?_
    refine awp_cond rfl (fun hc2 => ?_) (fun hc2 => ?_)
    · try simp only [nn, Fd.rows_len, Fm.rows_len, V.rows_len] at hc2
      refine awp_seq ?_
      refine awp_drawn' (by kernel_rfl) ?_
      refine dr_pure rfl rfl rfl rfl (pure_build rfl Try.underlying25 rfl gU) ?_
      refine dr_pure rfl rfl rfl rfl (pure_fieldPtr rfl gU rfl rfl) ?_
      refine dr_load rfl rfl rfl rfl rfl rfl rfl gU rfl rfl rfl rfl ?_
      refine dr_store rfl rfl rfl rfl rfl rfl rfl rfl rfl rfl rfl rfl ?_
      refine dr_pure rfl rfl rfl rfl (pure_assign rfl gU) ?_
      refine dr_pure rfl rfl rfl rfl (pure_assign rfl gU) ?_
      refine dr_nil (by kernel_rfl) ?_
      refine awp_ret ?_
      repeat (first | refine tR ?_ | refine bR ?_)
      refine ret_ok rfl ?_ trivial
      (rw [if_pos hc2]; rfl)
    · try simp only [nn, Fd.rows_len, Fm.rows_len, V.rows_len] at hc2
      refine awp_skip ?_
      refine awp_seq ?_
      refine awp_drawn' (by kernel_rfl) ?_
      refine dr_pure rfl rfl rfl rfl (pure_fieldPtr rfl gU rfl rfl) ?_
      refine dr_loadRow rfl rfl rfl rfl rfl rfl rfl gU rfl rfl rfl rfl rfl ?_
      refine dr_pure rfl rfl rfl rfl (pure_fieldPtr rfl gU rfl rfl) ?_
      refine dr_load rfl rfl rfl rfl rfl rfl rfl gU rfl rfl rfl rfl ?_
      refine dr_store rfl rfl rfl rfl rfl rfl rfl rfl rfl rfl rfl rfl ?_
      refine dr_pure rfl rfl rfl rfl (pure_assign rfl gU) ?_
      refine dr_pure rfl rfl rfl rfl (pure_assign rfl gU) ?_
      refine dr_nil (by kernel_rfl) ?_
      refine awp_ret ?_
      repeat (first | refine tR ?_ | refine bR ?_)
      refine ret_ok rfl ?_ trivial
      (rw [if_neg (by rw [hc2]; simp)]; rfl)
def whichL (t : List Fm) (s : List UInt8) : Nat → Nat → List Int → List Int
  | 0, _, out => out
  | n + 1, k, out => whichL t s n (k + 1) (if (decE t k s).2.2 = 0 then out ++ [(k : Int)] else out)
def whichE (t : List Fm) (s : List UInt8) : List Int := whichL t s t.length 0 []
theorem rWhich_spec (t : List Fm) (s : List UInt8) (hs : s.length ≤ 100000) (ht : t.length ≤ 1000) : Ctr sys 28 [xtab t, xs s] [] (xis (whichE t s)) none [] := by
  have hrl := Fm.rows_len t
  refine spec_intro Try.func28 rfl rfl rfl rfl rfl rfl ?_
  refine awp_seq (awp_region ?_)
  refine al_do rfl (does_nil (.inr rfl) rfl rfl) ?_
  refine al_nil ?_
  refine awp_seq (awp_region ?_)
  refine al_do rfl (does_nil (.inr rfl) rfl rfl) ?_
  refine al_nil ?_
  refine awp_seq ?_
  refine awp_seq (awp_region ?_)
  refine al_pure rfl rfl rfl (pure_assign rfl gU) ?_
  refine al_nil ?_
  refine awp_block ?_
  refine awp_for (ι := Nat × List Int) { t := [(0, _, _), (1, _, _)], bx := [], ow := [((.t 5), _)] } (fun p => [(6, true, xi (p.1 : Int)), (5, true, xis p.2)]) (fun p => []) (fun p => p.1 ≤ t.length ∧ p.2.length ≤ p.1 ∧ whichL t s (t.length - p.1) p.1 p.2 = whichE t s) (fun p => t.length - p.1) ((0, [])) (⟨by simp, by simp, rfl⟩) (sub_mk (⟨sx rfl, ⟨sx rfl, ⟨sx rfl, ⟨sx rfl, trivial⟩⟩⟩⟩) trivial (⟨rfl, trivial⟩)) ?_
  intro p hok
  dsimp only [List.cons_append, List.nil_append] at *
  obtain ⟨k, out⟩ := p
  dsimp only at hok ⊢
  obtain ⟨hk, hvk, hinv⟩ := hok
  refine awp_seq ?_
  refine awp_seq (awp_region ?_)
  refine al_pure rfl rfl rfl (pure_move rfl gU) ?_
  refine al_pure rfl rfl rfl (pure_move rfl gU) ?_
  refine al_lenSl rfl rfl rfl rfl rfl gU rfl rfl ?_ (fun hh => by simp at hh); intro hlen
  refine al_pure rfl rfl rfl (pure_cmp rfl rfl gU gU rfl) ?_
  refine al_nil ?_
  refine awp_cond rfl (fun hc => ?_) (fun hc => ?_)
  · try simp only [nn, Fd.rows_len, Fm.rows_len, V.rows_len] at hc
    rw [show t.length - k = (t.length - (k + 1)) + 1 by omega, whichL] at hinv
    refine awp_skip ?_
    refine awp_seq ?_
    refine awp_block ?_
    refine awp_seq (awp_region ?_)
    refine al_pure rfl rfl rfl (pure_move rfl gU) ?_
    refine al_pure rfl rfl rfl (pure_move rfl gU) ?_
    refine al_pure rfl rfl rfl (pure_move rfl gU) ?_
    refine al_call rfl rfl rfl rfl rfl rfl gU gU (rDecode_spec _ _ _ hs) rfl ?_
    refine al_pure rfl rfl rfl (pure_move rfl gU) ?_
    refine al_pure rfl rfl rfl (pure_extract rfl gU rfl) ?_
    refine al_pure rfl rfl rfl (pure_extract rfl gU rfl) ?_
    refine al_pure rfl rfl rfl (pure_extract rfl gU rfl) ?_
    refine al_sub (s := { t := [(0, _, _), (1, _, _), (5, _, _), (6, _, _), (21, _, _), (22, _, _), (23, _, _)], bx := [], ow := [((.t 5), _)] }) (sub_mk (⟨sx rfl, ⟨sx rfl, ⟨sx rfl, ⟨sx rfl, ⟨sx rfl, ⟨sx rfl, ⟨sx rfl, trivial⟩⟩⟩⟩⟩⟩⟩) trivial (⟨rfl, trivial⟩)) ?_
    refine al_do rfl (does_alloc rfl rfl rfl) ?_
    refine al_do rfl (does_store rfl rfl rfl rfl rfl rfl rfl) ?_
    refine al_pure rfl rfl rfl (pure_assign rfl gU) ?_
    refine al_pure rfl rfl rfl (pure_assign rfl gU) ?_
    refine al_nil ?_
    refine awp_seq (awp_region ?_)
    refine al_pure rfl rfl rfl (pure_move rfl gU) ?_
    refine al_pure rfl rfl rfl (pure_cmp rfl rfl gU gU rfl) ?_
    refine al_nil ?_
    refine awp_sub (s := { t := [(0, _, _), (1, _, _), (5, _, _), (6, _, _), (25, _, _)], bx := [], ow := [((.t 5), _)] }) (sub_mk (⟨sx rfl, ⟨sx rfl, ⟨sx rfl, ⟨sx rfl, ⟨sx rfl, trivial⟩⟩⟩⟩⟩) trivial (⟨rfl, trivial⟩)) ?_
    refine awp_cond rfl (fun hc2 => ?_) (fun hc2 => ?_)
    · try simp only [nn, Fd.rows_len, Fm.rows_len, V.rows_len] at hc2
      rw [if_pos hc2] at hinv
      refine awp_region ?_
      refine al_do rfl (does_take (.inl rfl) rfl rfl rfl) ?_
      refine al_pure rfl rfl rfl (pure_move rfl gU) ?_
      refine al_buildSlice (xs := [_]) rfl rfl rfl rfl rfl rfl rfl rfl rfl gU rfl ?_
      refine al_do rfl (does_append rfl rfl rfl rfl rfl rfl rfl (by simp [intR_len]; omega) (by simp [intR_len]; omega)) ?_
      refine al_do rfl (does_take (.inr rfl) rfl rfl rfl) ?_
      refine al_nil ?_
      refine awp_sub (s := { t := [(0, _, _), (1, _, _), (5, _, _), (6, _, _)], bx := [], ow := [((.t 5), _)] }) (sub_mk (⟨sx rfl, ⟨sx rfl, ⟨sx rfl, ⟨sx rfl, trivial⟩⟩⟩⟩) trivial (⟨rfl, trivial⟩)) ?_
      refine awp_region ?_
      refine al_pure rfl rfl rfl (pure_move rfl gU) ?_
      refine al_pure rfl rfl rfl (pure_arith rfl rfl gU gU rfl (IntWalk.i64_in _ (by omega))) ?_
      refine al_pure rfl rfl rfl (pure_assign rfl gU) ?_
      refine al_nil ?_
      refine ⟨(k + 1, out ++ [(k : Int)]), ?_, ?_, sub_mk (⟨⟨_, rfl, ?_⟩, ⟨⟨_, rfl, ?_⟩, ⟨sx rfl, ⟨sx rfl, trivial⟩⟩⟩⟩) trivial (⟨rfl, trivial⟩)⟩
      · exact ⟨by dsimp only; omega, by simp; omega, hinv⟩
      · dsimp only; omega
      · rfl
      · exact tx (xis_snoc _ _)
    · try simp only [nn, Fd.rows_len, Fm.rows_len, V.rows_len] at hc2
      rw [if_neg hc2] at hinv
      refine awp_skip ?_
      refine awp_region ?_
      refine al_pure rfl rfl rfl (pure_move rfl gU) ?_
      refine al_pure rfl rfl rfl (pure_arith rfl rfl gU gU rfl (IntWalk.i64_in _ (by omega))) ?_
      refine al_pure rfl rfl rfl (pure_assign rfl gU) ?_
      refine al_nil ?_
      refine ⟨(k + 1, out), ?_, ?_, sub_mk (⟨⟨_, rfl, ?_⟩, ⟨⟨_, rfl, ?_⟩, ⟨sx rfl, ⟨sx rfl, trivial⟩⟩⟩⟩) trivial (⟨rfl, trivial⟩)⟩
      · exact ⟨by dsimp only; omega, by dsimp only; omega, hinv⟩
      · dsimp only; omega
      · rfl
      · rfl
  · try simp only [nn, Fd.rows_len, Fm.rows_len, V.rows_len] at hc
    rw [show t.length - k = 0 by omega, whichL] at hinv
    refine awp_exit ?_
    repeat (first | refine thenS_exit ?_ | refine blockS_hit ?_ | refine blockS_miss rfl ?_)
    refine awp_seq (awp_region ?_)
    refine al_do rfl (does_take (.inl rfl) rfl rfl rfl) ?_
    refine al_do rfl (does_take (.inr rfl) rfl rfl rfl) ?_
    refine al_nil ?_
    refine awp_ret ?_
    repeat (first | refine tR ?_ | refine bR ?_)
    refine ret_ok rfl ?_ trivial
    (rw [← hinv]; rfl)
end Go.Proofs.Ytgjclggjkhapfaa
/- Contracts: Decode, Prefix, Which, as codec does. -/
set_option linter.unusedVariables false
set_option linter.unusedSimpArgs false
namespace Go.Proofs.Ytgjclggjkhapfaa
open Go Go.Abs
theorem cDecode_spec (t : List Fm) (i : Int) (s : List UInt8) (hs : s.length ≤ 100000) : Ctr sys 17 [xtab t, xi i, xs s] [] (xd3 (decE t i s)) none [] := by
  have hb := boundsE_err t i
  refine spec_intro Try.func17 rfl rfl rfl rfl rfl rfl ?_
  refine awp_seq (awp_region ?_)
  refine al_do rfl (does_alloc rfl rfl rfl) ?_
  refine al_pure rfl rfl rfl (pure_assign rfl gU) ?_
  refine al_pure rfl rfl rfl (pure_assign rfl gU) ?_
  refine al_nil ?_
  refine awp_seq ?_
  refine awp_seq (awp_region ?_)
  refine al_pure rfl rfl rfl (pure_move rfl gU) ?_
  refine al_pure rfl rfl rfl (pure_move rfl gU) ?_
  refine al_call rfl rfl rfl rfl rfl rfl gU gU (fBounds_spec _ _) rfl ?_
  refine al_pure rfl rfl rfl (pure_move rfl gU) ?_
  refine al_pure rfl rfl rfl (pure_extract rfl gU rfl) ?_
  refine al_pure rfl rfl rfl (pure_extract rfl gU rfl) ?_
  refine al_pure rfl rfl rfl (pure_extract rfl gU rfl) ?_
  refine al_pure rfl rfl rfl (pure_assign rfl gU) ?_
  refine al_pure rfl rfl rfl (pure_assign rfl gU) ?_
  refine al_sub (s := { t := [(0, _, _), (1, _, _), (2, _, _), (6, _, _), (20, _, _)], bx := [((.l 6), _)], ow := [] }) (sub_mk (⟨sx rfl, ⟨sx rfl, ⟨sx rfl, ⟨sx rfl, ⟨sx rfl, trivial⟩⟩⟩⟩⟩) (⟨sx rfl, trivial⟩) trivial) ?_
  refine al_pure rfl rfl rfl (pure_assign rfl gU) ?_
  refine al_nil ?_
  refine awp_seq (awp_region ?_)
  refine al_pure rfl rfl rfl (pure_move rfl gU) ?_
  refine al_pure rfl rfl rfl (pure_cmp rfl rfl gU gU rfl) ?_
  refine al_nil ?_
  refine awp_cond rfl (fun hc => ?_) (fun hc => ?_)
  · try simp only [nn, Fd.rows_len, Fm.rows_len, V.rows_len] at hc
    refine awp_seq (awp_region ?_)
    refine al_pure rfl rfl rfl (pure_build rfl Try.underlying25 rfl gU) ?_
    refine al_pure rfl rfl rfl (pure_move rfl gU) ?_
    refine al_do rfl (does_store rfl rfl rfl rfl rfl rfl rfl) ?_
    refine al_pure rfl rfl rfl (pure_assign rfl gU) ?_
    refine al_pure rfl rfl rfl (pure_assign rfl gU) ?_
    refine al_nil ?_
    refine awp_ret ?_
    repeat (first | refine tR ?_ | refine bR ?_)
    refine ret_ok rfl ?_ trivial
    (rw [decE, if_pos (by omega), hb]; rfl)
  · try simp only [nn, Fd.rows_len, Fm.rows_len, V.rows_len] at hc
    have he : errE t i = 0 := by omega
    rw [decE, if_neg (by omega)]
    refine awp_skip ?_
    refine awp_seq (awp_region ?_)
    refine al_pure rfl rfl rfl (pure_move rfl gU) ?_
    refine al_pure rfl rfl rfl (pure_move rfl gU) ?_
    refine al_pure rfl rfl rfl (pure_build rfl Try.underlying67 rfl gU) ?_
    refine al_do rfl (does_box rfl rfl rfl rfl) ?_
    refine al_pure rfl rfl rfl (pure_assign rfl gU) ?_
    refine al_nil ?_
    refine awp_sub (s := { t := [(1, _, _), (2, _, _), (6, _, _), (12, _, _)], bx := [((.l 28), _), ((.l 6), _)], ow := [] }) (sub_mk (⟨sx rfl, ⟨sx rfl, ⟨sx rfl, ⟨sx rfl, trivial⟩⟩⟩⟩) (⟨sx rfl, ⟨sx rfl, trivial⟩⟩) trivial) ?_
    refine awp_seq (awp_region ?_)
    refine al_pure rfl rfl rfl (pure_move rfl gU) ?_
    refine al_pure rfl rfl rfl (pure_move rfl gU) ?_
    refine al_pure rfl rfl rfl (pure_move rfl gU) ?_
    refine al_lenS rfl rfl rfl rfl rfl gU (Try.underlying9) ?_ (fun hh => by simp at hh); intro hlen
    refine al_callB1 (.l 28) rfl rfl rfl rfl rfl rfl (cread_spec t i s 0 s.length _ _ _ rfl rfl (by omega) (by omega) hs (errE_fds he).1 (errE_fds he).2) rfl (by rfl) (by rfl) rfl rfl rfl ?_
    refine al_do rfl (does_alloc rfl rfl rfl) ?_
    refine al_do rfl (does_store rfl rfl rfl rfl rfl rfl rfl) ?_
    refine al_nil ?_
    refine awp_sub (s := { t := [(2, _, _), (6, _, _), (12, _, _), (13, _, _)], bx := [((.l 13), _), ((.l 28), _), ((.l 6), _)], ow := [] }) (sub_mk (⟨sx rfl, ⟨sx rfl, ⟨sx rfl, ⟨sx rfl, trivial⟩⟩⟩⟩) (⟨sx rfl, ⟨sx rfl, ⟨sx rfl, trivial⟩⟩⟩) trivial) ?_
    refine awp_seq ?_
    refine awp_seq (awp_region ?_)
    refine al_pure rfl rfl rfl (pure_move rfl gU) ?_
    refine al_pure rfl rfl rfl (pure_nilCheck rfl gU) ?_
    refine al_pure rfl rfl rfl (pure_fieldPtr rfl gU rfl rfl) ?_
    refine al_pure rfl rfl rfl (pure_loadBox rfl gU rfl rfl rfl rfl) ?_
    refine al_pure rfl rfl rfl (pure_move rfl gU) ?_
    refine al_pure rfl rfl rfl (pure_move rfl gU) ?_
    refine al_pure rfl rfl rfl (pure_nilCheck rfl (fun hh => hh)) ?_
    refine al_pure rfl rfl rfl (pure_fieldPtr rfl (fun hh => hh) rfl rfl) ?_
    refine al_pure rfl rfl rfl (pure_loadBox rfl (fun hh => hh) rfl rfl rfl rfl) ?_
    refine al_pure rfl rfl rfl (pure_move rfl gU) ?_
    refine al_pure rfl rfl rfl (pure_lenS rfl (fun hh => hh) (Try.underlying9)) ?_
    refine al_pure rfl rfl rfl (pure_cmp rfl rfl (fun hh => hh) (fun hh => hh) rfl) ?_
    refine al_sub (s := { t := [(6, _, _), (12, _, _), (13, _, _), (38, _, _), (45, _, _)], bx := [((.l 13), _), ((.l 28), _), ((.l 6), _)], ow := [] }) (sub_mk (⟨sx rfl, ⟨sx rfl, ⟨sx rfl, ⟨sx rfl, ⟨sx rfl, trivial⟩⟩⟩⟩⟩) (⟨sx rfl, ⟨sx rfl, ⟨sx rfl, trivial⟩⟩⟩) trivial) ?_
    refine al_pure rfl rfl rfl (pure_or rfl rfl gU (fun _ hi => gP rfl hi)) ?_
    refine al_nil ?_
    refine awp_cond rfl (fun hc2 => ?_) (fun hc2 => ?_)
    · try simp only [nn, Fd.rows_len, Fm.rows_len, V.rows_len] at hc2
      refine awp_seq ?_
      refine awp_drawn' (by kernel_rfl) ?_
      refine dr_pure rfl rfl rfl rfl (pure_build rfl Try.underlying25 rfl gU) ?_
      refine dr_pure rfl rfl rfl rfl (pure_move rfl gU) ?_
      refine dr_pure rfl rfl rfl rfl (pure_nilCheck rfl gU) ?_
      refine dr_pure rfl rfl rfl rfl (pure_fieldPtr rfl gU rfl rfl) ?_
      refine dr_load rfl rfl rfl rfl rfl rfl rfl gU rfl rfl rfl rfl ?_
      refine dr_store rfl rfl rfl rfl rfl rfl rfl rfl rfl rfl rfl rfl ?_
      refine dr_pure rfl rfl rfl rfl (pure_assign rfl gU) ?_
      refine dr_pure rfl rfl rfl rfl (pure_assign rfl gU) ?_
      refine dr_nil (by kernel_rfl) ?_
      refine awp_ret ?_
      repeat (first | refine tR ?_ | refine bR ?_)
      refine ret_ok rfl ?_ trivial
      (rw [if_pos (by rcases hc2 with h | h; exact .inl h; exact .inr (by omega))]; rfl)
    · try simp only [nn, Fd.rows_len, Fm.rows_len, V.rows_len] at hc2
      refine awp_skip ?_
      refine awp_seq (awp_region ?_)
      refine al_pure rfl rfl rfl (pure_loadBoxRow rfl gU rfl rfl rfl rfl rfl) ?_
      refine al_do rfl (does_store rfl rfl rfl rfl rfl rfl rfl) ?_
      refine al_pure rfl rfl rfl (pure_assign rfl gU) ?_
      refine al_pure rfl rfl rfl (pure_assign rfl gU) ?_
      refine al_nil ?_
      refine awp_ret ?_
      repeat (first | refine tR ?_ | refine bR ?_)
      refine ret_ok rfl ?_ trivial
      (rw [if_neg (by intro h; rcases h with h | h; rw [h] at hc2; exact absurd hc2.1 (by decide); omega)]; rfl)
theorem cPrefix_spec (t : List Fm) (i : Int) (s : List UInt8) (hs : s.length ≤ 100000) : Ctr sys 24 [xtab t, xi i, xs s] [] (xd3 (preE t i s)) none [] := by
  have hb := boundsE_err t i
  refine spec_intro Try.func24 rfl rfl rfl rfl rfl rfl ?_
  refine awp_seq (awp_region ?_)
  refine al_do rfl (does_alloc rfl rfl rfl) ?_
  refine al_pure rfl rfl rfl (pure_assign rfl gU) ?_
  refine al_pure rfl rfl rfl (pure_assign rfl gU) ?_
  refine al_nil ?_
  refine awp_seq ?_
  refine awp_seq (awp_region ?_)
  refine al_pure rfl rfl rfl (pure_move rfl gU) ?_
  refine al_pure rfl rfl rfl (pure_move rfl gU) ?_
  refine al_call rfl rfl rfl rfl rfl rfl gU gU (fBounds_spec _ _) rfl ?_
  refine al_pure rfl rfl rfl (pure_move rfl gU) ?_
  refine al_pure rfl rfl rfl (pure_extract rfl gU rfl) ?_
  refine al_pure rfl rfl rfl (pure_extract rfl gU rfl) ?_
  refine al_pure rfl rfl rfl (pure_extract rfl gU rfl) ?_
  refine al_pure rfl rfl rfl (pure_assign rfl gU) ?_
  refine al_pure rfl rfl rfl (pure_assign rfl gU) ?_
  refine al_sub (s := { t := [(0, _, _), (1, _, _), (2, _, _), (6, _, _), (20, _, _)], bx := [((.l 6), _)], ow := [] }) (sub_mk (⟨sx rfl, ⟨sx rfl, ⟨sx rfl, ⟨sx rfl, ⟨sx rfl, trivial⟩⟩⟩⟩⟩) (⟨sx rfl, trivial⟩) trivial) ?_
  refine al_pure rfl rfl rfl (pure_assign rfl gU) ?_
  refine al_nil ?_
  refine awp_seq (awp_region ?_)
  refine al_pure rfl rfl rfl (pure_move rfl gU) ?_
  refine al_pure rfl rfl rfl (pure_cmp rfl rfl gU gU rfl) ?_
  refine al_nil ?_
  refine awp_cond rfl (fun hc => ?_) (fun hc => ?_)
  · try simp only [nn, Fd.rows_len, Fm.rows_len, V.rows_len] at hc
    refine awp_seq (awp_region ?_)
    refine al_pure rfl rfl rfl (pure_build rfl Try.underlying25 rfl gU) ?_
    refine al_pure rfl rfl rfl (pure_move rfl gU) ?_
    refine al_do rfl (does_store rfl rfl rfl rfl rfl rfl rfl) ?_
    refine al_pure rfl rfl rfl (pure_assign rfl gU) ?_
    refine al_pure rfl rfl rfl (pure_assign rfl gU) ?_
    refine al_nil ?_
    refine awp_ret ?_
    repeat (first | refine tR ?_ | refine bR ?_)
    refine ret_ok rfl ?_ trivial
    (rw [preE, if_pos (by omega), hb]; rfl)
  · try simp only [nn, Fd.rows_len, Fm.rows_len, V.rows_len] at hc
    have he : errE t i = 0 := by omega
    rw [preE, if_neg (by omega)]
    refine awp_skip ?_
    refine awp_seq (awp_region ?_)
    refine al_pure rfl rfl rfl (pure_move rfl gU) ?_
    refine al_pure rfl rfl rfl (pure_move rfl gU) ?_
    refine al_pure rfl rfl rfl (pure_build rfl Try.underlying67 rfl gU) ?_
    refine al_do rfl (does_box rfl rfl rfl rfl) ?_
    refine al_pure rfl rfl rfl (pure_assign rfl gU) ?_
    refine al_nil ?_
    refine awp_sub (s := { t := [(1, _, _), (2, _, _), (6, _, _), (12, _, _)], bx := [((.l 28), _), ((.l 6), _)], ow := [] }) (sub_mk (⟨sx rfl, ⟨sx rfl, ⟨sx rfl, ⟨sx rfl, trivial⟩⟩⟩⟩) (⟨sx rfl, ⟨sx rfl, trivial⟩⟩) trivial) ?_
    refine awp_seq (awp_region ?_)
    refine al_pure rfl rfl rfl (pure_move rfl gU) ?_
    refine al_pure rfl rfl rfl (pure_move rfl gU) ?_
    refine al_pure rfl rfl rfl (pure_move rfl gU) ?_
    refine al_lenS rfl rfl rfl rfl rfl gU (Try.underlying9) ?_ (fun hh => by simp at hh); intro hlen
    refine al_callB1 (.l 28) rfl rfl rfl rfl rfl rfl (cread_spec t i s 0 s.length _ _ _ rfl rfl (by omega) (by omega) hs (errE_fds he).1 (errE_fds he).2) rfl (by rfl) (by rfl) rfl rfl rfl ?_
    refine al_do rfl (does_alloc rfl rfl rfl) ?_
    refine al_do rfl (does_store rfl rfl rfl rfl rfl rfl rfl) ?_
    refine al_nil ?_
    refine awp_sub (s := { t := [(6, _, _), (12, _, _), (13, _, _)], bx := [((.l 13), _), ((.l 28), _), ((.l 6), _)], ow := [] }) (sub_mk (⟨sx rfl, ⟨sx rfl, ⟨sx rfl, trivial⟩⟩⟩) (⟨sx rfl, ⟨sx rfl, ⟨sx rfl, trivial⟩⟩⟩) trivial) ?_
    refine awp_seq ?_
    refine awp_seq (awp_region ?_)
    refine al_pure rfl rfl rfl (pure_move rfl gU) ?_
    refine al_pure rfl rfl rfl (pure_nilCheck rfl gU) ?_
    refine al_pure rfl rfl rfl (pure_fieldPtr rfl gU rfl rfl) ?_
    refine al_pure rfl rfl rfl (pure_loadBox rfl gU rfl rfl rfl rfl) ?_
    refine al_nil ?_
    refine awp_cond rfl (fun hc2 => ?_) (fun hc2 => ?_)
    · try simp only [nn, Fd.rows_len, Fm.rows_len, V.rows_len] at hc2
      refine awp_seq ?_
      refine awp_drawn' (by kernel_rfl) ?_
      refine dr_pure rfl rfl rfl rfl (pure_build rfl Try.underlying25 rfl gU) ?_
      refine dr_pure rfl rfl rfl rfl (pure_move rfl gU) ?_
      refine dr_pure rfl rfl rfl rfl (pure_nilCheck rfl gU) ?_
      refine dr_pure rfl rfl rfl rfl (pure_fieldPtr rfl gU rfl rfl) ?_
      refine dr_load rfl rfl rfl rfl rfl rfl rfl gU rfl rfl rfl rfl ?_
      refine dr_store rfl rfl rfl rfl rfl rfl rfl rfl rfl rfl rfl rfl ?_
      refine dr_pure rfl rfl rfl rfl (pure_assign rfl gU) ?_
      refine dr_pure rfl rfl rfl rfl (pure_assign rfl gU) ?_
      refine dr_nil (by kernel_rfl) ?_
      refine awp_ret ?_
      repeat (first | refine tR ?_ | refine bR ?_)
      refine ret_ok rfl ?_ trivial
      (rw [if_pos hc2]; rfl)
    · try simp only [nn, Fd.rows_len, Fm.rows_len, V.rows_len] at hc2
      refine awp_skip ?_
      refine awp_seq ?_
      refine awp_drawn' (by kernel_rfl) ?_
      refine dr_loadRow rfl rfl rfl rfl rfl rfl rfl gU rfl rfl rfl rfl rfl ?_
      refine dr_pure rfl rfl rfl rfl (pure_move rfl gU) ?_
      refine dr_pure rfl rfl rfl rfl (pure_nilCheck rfl gU) ?_
      refine dr_pure rfl rfl rfl rfl (pure_fieldPtr rfl gU rfl rfl) ?_
      refine dr_load rfl rfl rfl rfl rfl rfl rfl gU rfl rfl rfl rfl ?_
      refine dr_store rfl rfl rfl rfl rfl rfl rfl rfl rfl rfl rfl rfl ?_
      refine dr_pure rfl rfl rfl rfl (pure_assign rfl gU) ?_
      refine dr_pure rfl rfl rfl rfl (pure_assign rfl gU) ?_
      refine dr_nil (by kernel_rfl) ?_
      refine awp_ret ?_
      repeat (first | refine tR ?_ | refine bR ?_)
      refine ret_ok rfl ?_ trivial
      (rw [if_neg (by rw [hc2]; simp)]; rfl)
theorem cWhich_spec (t : List Fm) (s : List UInt8) (hs : s.length ≤ 100000) (ht : t.length ≤ 1000) : Ctr sys 27 [xtab t, xs s] [] (xis (whichE t s)) none [] := by
  have hrl := Fm.rows_len t
  refine spec_intro Try.func27 rfl rfl rfl rfl rfl rfl ?_
  refine awp_seq (awp_region ?_)
  refine al_do rfl (does_nil (.inr rfl) rfl rfl) ?_
  refine al_nil ?_
  refine awp_seq (awp_region ?_)
  refine al_do rfl (does_nil (.inr rfl) rfl rfl) ?_
  refine al_nil ?_
  refine awp_seq ?_
  refine awp_seq (awp_region ?_)
  refine al_pure rfl rfl rfl (pure_move rfl gU) ?_
  refine al_lenSl rfl rfl rfl rfl rfl gU rfl rfl ?_ (fun hh => by simp at hh); intro hlen
  refine al_pure rfl rfl rfl (pure_move rfl gU) ?_
  refine al_nil ?_
  refine awp_sub (s := { t := [(0, _, _), (1, _, _), (5, _, _), (11, _, _), (12, _, _)], bx := [], ow := [((.t 5), _)] }) (sub_mk (⟨sx rfl, ⟨sx rfl, ⟨sx rfl, ⟨sx rfl, ⟨sx rfl, trivial⟩⟩⟩⟩⟩) trivial (⟨rfl, trivial⟩)) ?_
  refine awp_block ?_
  refine awp_for (ι := Nat × List Int) { t := [(0, _, _), (1, _, _), (11, _, _)], bx := [], ow := [((.t 5), _)] } (fun p => [(12, true, xi (p.1 : Int)), (5, true, xis p.2)]) (fun p => []) (fun p => p.1 ≤ t.length ∧ p.2.length ≤ p.1 ∧ whichL t s (t.length - p.1) p.1 p.2 = whichE t s) (fun p => t.length - p.1) ((0, [])) (⟨by simp, by simp, rfl⟩) (sub_mk (⟨sx rfl, ⟨sx rfl, ⟨sx rfl, ⟨sx rfl, ⟨sx rfl, trivial⟩⟩⟩⟩⟩) trivial (⟨rfl, trivial⟩)) ?_
  intro p hok
  dsimp only [List.cons_append, List.nil_append] at *
  obtain ⟨k, out⟩ := p
  dsimp only at hok ⊢
  obtain ⟨hk, hvk, hinv⟩ := hok
  refine awp_seq (awp_region ?_)
  refine al_pure rfl rfl rfl (pure_cmp rfl rfl gU gU rfl) ?_
  refine al_nil ?_
  refine awp_seq ?_
  refine awp_cond rfl (fun hc => ?_) (fun hc => ?_)
  · try simp only [nn, Fd.rows_len, Fm.rows_len, V.rows_len] at hc
    rw [show t.length - k = (t.length - (k + 1)) + 1 by omega, whichL] at hinv
    refine awp_skip ?_
    refine awp_seq ?_
    refine awp_block ?_
    refine awp_seq (awp_region ?_)
    refine al_pure rfl rfl rfl (pure_move rfl gU) ?_
    refine al_pure rfl rfl rfl (pure_assign rfl gU) ?_
    refine al_nil ?_
    refine awp_seq (awp_region ?_)
    refine al_pure rfl rfl rfl (pure_move rfl gU) ?_
    refine al_pure rfl rfl rfl (pure_move rfl gU) ?_
    refine al_pure rfl rfl rfl (pure_move rfl gU) ?_
    refine al_call rfl rfl rfl rfl rfl rfl gU gU (cDecode_spec _ _ _ hs) rfl ?_
    refine al_pure rfl rfl rfl (pure_move rfl gU) ?_
    refine al_pure rfl rfl rfl (pure_extract rfl gU rfl) ?_
    refine al_pure rfl rfl rfl (pure_extract rfl gU rfl) ?_
    refine al_pure rfl rfl rfl (pure_extract rfl gU rfl) ?_
    refine al_do rfl (does_alloc rfl rfl rfl) ?_
    refine al_sub (s := { t := [(0, _, _), (1, _, _), (5, _, _), (6, _, _), (7, _, _), (11, _, _), (12, _, _), (20, _, _), (21, _, _), (22, _, _)], bx := [((.l 7), _)], ow := [((.t 5), _)] }) (sub_mk (⟨sx rfl, ⟨sx rfl, ⟨sx rfl, ⟨sx rfl, ⟨sx rfl, ⟨sx rfl, ⟨sx rfl, ⟨sx rfl, ⟨sx rfl, ⟨sx rfl, trivial⟩⟩⟩⟩⟩⟩⟩⟩⟩⟩) (⟨sx rfl, trivial⟩) (⟨rfl, trivial⟩)) ?_
    refine al_do rfl (does_store rfl rfl rfl rfl rfl rfl rfl) ?_
    refine al_pure rfl rfl rfl (pure_assign rfl gU) ?_
    refine al_pure rfl rfl rfl (pure_assign rfl gU) ?_
    refine al_nil ?_
    refine awp_seq (awp_region ?_)
    refine al_pure rfl rfl rfl (pure_move rfl gU) ?_
    refine al_pure rfl rfl rfl (pure_cmp rfl rfl gU gU rfl) ?_
    refine al_nil ?_
    refine awp_cond rfl (fun hc2 => ?_) (fun hc2 => ?_)
    · try simp only [nn, Fd.rows_len, Fm.rows_len, V.rows_len] at hc2
      rw [if_pos hc2] at hinv
      refine awp_region ?_
      refine al_do rfl (does_take (.inl rfl) rfl rfl rfl) ?_
      refine al_pure rfl rfl rfl (pure_move rfl gU) ?_
      refine al_buildSlice (xs := [_]) rfl rfl rfl rfl rfl rfl rfl rfl rfl gU rfl ?_
      refine al_do rfl (does_append rfl rfl rfl rfl rfl rfl rfl (by simp [intR_len]; omega) (by simp [intR_len]; omega)) ?_
      refine al_do rfl (does_take (.inr rfl) rfl rfl rfl) ?_
      refine al_nil ?_
      refine awp_sub (s := { t := [(0, _, _), (1, _, _), (5, _, _), (11, _, _), (12, _, _)], bx := [], ow := [((.t 5), _)] }) (sub_mk (⟨sx rfl, ⟨sx rfl, ⟨sx rfl, ⟨sx rfl, ⟨sx rfl, trivial⟩⟩⟩⟩⟩) trivial (⟨rfl, trivial⟩)) ?_
      refine awp_region ?_
      refine al_pure rfl rfl rfl (pure_arith rfl rfl gU gU rfl (IntWalk.i64_in _ (by omega))) ?_
      refine al_pure rfl rfl rfl (pure_move rfl gU) ?_
      refine al_nil ?_
      refine ⟨(k + 1, out ++ [(k : Int)]), ?_, ?_, sub_mk (⟨⟨_, rfl, ?_⟩, ⟨⟨_, rfl, ?_⟩, ⟨sx rfl, ⟨sx rfl, ⟨sx rfl, trivial⟩⟩⟩⟩⟩) trivial (⟨rfl, trivial⟩)⟩
      · exact ⟨by dsimp only; omega, by simp; omega, hinv⟩
      · dsimp only; omega
      · rfl
      · exact tx (xis_snoc _ _)
    · try simp only [nn, Fd.rows_len, Fm.rows_len, V.rows_len] at hc2
      rw [if_neg hc2] at hinv
      refine awp_skip ?_
      refine awp_region ?_
      refine al_pure rfl rfl rfl (pure_arith rfl rfl gU gU rfl (IntWalk.i64_in _ (by omega))) ?_
      refine al_pure rfl rfl rfl (pure_move rfl gU) ?_
      refine al_nil ?_
      refine ⟨(k + 1, out), ?_, ?_, sub_mk (⟨⟨_, rfl, ?_⟩, ⟨⟨_, rfl, ?_⟩, ⟨sx rfl, ⟨sx rfl, ⟨sx rfl, trivial⟩⟩⟩⟩⟩) trivial (⟨rfl, trivial⟩)⟩
      · exact ⟨by dsimp only; omega, by dsimp only; omega, hinv⟩
      · dsimp only; omega
      · rfl
      · rfl
  · try simp only [nn, Fd.rows_len, Fm.rows_len, V.rows_len] at hc
    rw [show t.length - k = 0 by omega, whichL] at hinv
    refine awp_exit ?_
    repeat (first | refine thenS_exit ?_ | refine blockS_hit ?_ | refine blockS_miss rfl ?_)
    refine awp_seq (awp_region ?_)
    refine al_do rfl (does_take (.inl rfl) rfl rfl rfl) ?_
    refine al_do rfl (does_take (.inr rfl) rfl rfl rfl) ?_
    refine al_nil ?_
    refine awp_ret ?_
    repeat (first | refine tR ?_ | refine bR ?_)
    refine ret_ok rfl ?_ trivial
    (rw [← hinv]; rfl)
end Go.Proofs.Ytgjclggjkhapfaa
/- The methods of strings.Builder, step by step: what they do to a world. -/
set_option linter.unusedVariables false
set_option linter.unusedSimpArgs false
namespace Go.Proofs.Ytgjclggjkhapfaa
open Go Go.Proofs Go.RowKit
open Go.Abs (Checked1 BdSys)
theorem infoB0 : (Try.prog.info? 99).map (·.size) = some 2 := by kernel_rfl
theorem infoB : ∃ j, Try.prog.info? 99 = some j ∧ j.size = 2 := Option.map_eq_some_iff.1 infoB0
set_option maxHeartbeats 1000000 in
set_option maxRecDepth 100000 in
theorem copyCheck_used (b : Nat) (w : World) (h0 : w.cell? ⟨b, 0, none⟩ = some (.pointer (some ⟨b, 0, none⟩))) :
    Calls Try.prog 81 #[.pointer (some ⟨b, 0, none⟩)] w fun e w' => e = .returned (.tuple #[]) ∧ w' = w := by
  obtain ⟨j, hj, _⟩ := infoB
  go_enter Try.func81, Try.ntmps81
  go_wp2
  rw [Lib.run_neq_ptr_same w _ Try.underlying97 hj]
  go_wp2
  go_end0
  exact ⟨rfl, rfl⟩
set_option maxHeartbeats 1000000 in
set_option maxRecDepth 100000 in
theorem copyCheck_fresh (b : Nat) (w : World) (h0 : w.cell? ⟨b, 0, none⟩ = some (.pointer none)) (hsh : w.shape? b = some (99, 2)) (hfz : w.frozen? ⟨b, 0, none⟩ = false) :
    Calls Try.prog 81 #[.pointer (some ⟨b, 0, none⟩)] w fun e w' => e = .returned (.tuple #[]) ∧ w' = w.setCell ⟨b, 0, none⟩ (.pointer (some ⟨b, 0, none⟩)) := by
  obtain ⟨j, hj, hjs⟩ := infoB
  go_enter Try.func81, Try.ntmps81
  go_wp2
  rw [Lib.run_to_unsafe w ⟨b, 0, none⟩ Try.underlying97 Try.underlying145 hj (by rw [hjs]; decide) hsh (Nat.zero_lt_succ 1)]
  simp only [Result.andThen]
  rw [Oper.upon_value]
  go_wp2
  rw [run_callFunc_extern Try.func101 (by kernel_rfl) (by kernel_rfl) (by kernel_rfl) (e := Extern.AbiNoEscape.same) (by kernel_rfl)]
  rw [Lib.run_noEscape]
  simp only [Result.andThen]
  rw [Oper.upon_value]
  go_wp2
  rw [Lib.run_from_unsafe w ⟨b, 0, none⟩ Try.underlying145 Try.underlying97 hj hsh (by kernel_rfl)]
  simp only [Result.andThen]
  rw [Oper.upon_value]
  go_wp2
  go_end0
  exact ⟨rfl, rfl⟩
theorem wpList_run {P : Program} {ops : Array Oper} {rest : List Oper} {o : Oper} {a : Act} {w w1 : World} {Q : Exit → Act → World → Prop} {v : Value} (hgd : o.guard = none)
    (hrun : (execOp a.eval o).run P w = .ok (.value v) w1) (h : wpList P ops Q rest (a.put o.dst v) w1) : wpList P ops Q (o :: rest) a w := by
  unfold wpList
  have hw : Region.wanted o (yielded ops a.tmps) = true := by simp [Region.wanted, hgd]
  rw [hw]
  simp only [if_true]
  refine .inl ?_
  unfold Oper.wp
  rw [hrun, Oper.upon_value]
  exact h
theorem copyCheck_any (b : Nat) (w w0 : World) (h : Checked1 b w w0) (hsh : w.shape? b = some (99, 2)) (hfz : w.frozen? ⟨b, 0, none⟩ = false) :
    Calls Try.prog 81 #[.pointer (some ⟨b, 0, none⟩)] w fun e w' => e = .returned (.tuple #[]) ∧ w' = w0 := by
  rcases h with ⟨h, rfl⟩ | ⟨h, rfl⟩
  · exact copyCheck_fresh b w h hsh hfz
  · exact copyCheck_used b _ h
set_option maxHeartbeats 1000000 in
set_option maxRecDepth 100000 in
theorem writeString_walk (b : Nat) (w w0 w1 : World) (v' : Value) (uo : Option Addr) (un uc : Nat) (s : ByteArray) (h : Checked1 b w w0) (hsh : w.shape? b = some (99, 2)) (hfz : w.frozen? ⟨b, 0, none⟩ = false)
    (h1 : w0.cell? ⟨b, 1, none⟩ = some v') (hap : (Builtin.append_ #[48, 9] 48 #[v', .string s]).run Try.prog w0 = .ok (.slice uo un uc) w1) (h2 : w1.cell? ⟨b, 1, none⟩ = some v') (hf1 : w1.frozen? ⟨b, 1, none⟩ = false) :
    Calls Try.prog 54 #[.pointer (some ⟨b, 0, none⟩), .string s] w fun e w' => e = .returned (.tuple #[.int .i64 s.size, .nilIface]) ∧ w' = w1.setCell ⟨b, 1, none⟩ (.slice uo un uc) := by
  go_enter Try.func54, Try.ntmps54
  go_wp2_with (go_at_call 81; refine (copyCheck_any b w w0 h hsh hfz).mono ?_)
  rintro e w' ⟨rfl, rfl⟩
  go_wp2_with (at_builtin; refine wpList_run rfl (v := .slice uo un uc) (w1 := w1) ?hr ?_)
  case hr => simp [execOp, Go.resolve, invoke, builtin, Act.eval, Act.put, hap]
  go_wp2
  go_ret2
  exact ⟨rfl, rfl⟩
set_option maxHeartbeats 1000000 in
set_option maxRecDepth 100000 in
theorem writeByte_walk (b : Nat) (w w0 w1 : World) (v' : Value) (uo : Option Addr) (un uc : Nat) (c : Int) (h : Checked1 b w w0) (hsh : w.shape? b = some (99, 2)) (hfz : w.frozen? ⟨b, 0, none⟩ = false)
    (h1 : w0.cell? ⟨b, 1, none⟩ = some v') (hap : (Builtin.append_ #[48, 48] 48 #[v', .slice (some ⟨w0.heap.size, 0, none⟩) 1 1]).run Try.prog (w0.alloc (.cells #[.int .u8 c] 5)) = .ok (.slice uo un uc) w1) (h2 : w1.cell? ⟨b, 1, none⟩ = some v') (hf1 : w1.frozen? ⟨b, 1, none⟩ = false) :
    Calls Try.prog 55 #[.pointer (some ⟨b, 0, none⟩), .int .u8 c] w fun e w' => e = .returned .nilIface ∧ w' = w1.setCell ⟨b, 1, none⟩ (.slice uo un uc) := by
  go_enter Try.func55, Try.ntmps55
  go_wp2_with (go_at_call 81; refine (copyCheck_any b w w0 h hsh hfz).mono ?_)
  rintro e w' ⟨rfl, rfl⟩
  go_wp2_with (at_builtin; refine wpList_run rfl (v := .slice uo un uc) (w1 := w1) ?hr ?_)
  case hr => simp [execOp, Go.resolve, invoke, builtin, Act.eval, Act.put, hap]
  go_wp2
  go_ret
  exact ⟨rfl, rfl⟩
set_option maxHeartbeats 1000000 in
set_option maxRecDepth 100000 in
theorem string_walk (b : Nat) (w w1 w2 : World) (ao : Option Addr) (n cap : Nat) (p : Value) (s : ByteArray) (h1 : w.cell? ⟨b, 1, none⟩ = some (.slice ao n cap))
    (hsd : (Builtin.unsafeSliceData_ #[48] 128 #[.slice ao n cap]).run Try.prog w.drew = .ok p w1) (h2 : w1.cell? ⟨b, 1, none⟩ = some (.slice ao n cap))
    (hus : (Builtin.unsafeString_ #[128, 3] 9 #[p, .int .i64 n]).run Try.prog w1 = .ok (.string s) w2) :
    Calls Try.prog 56 #[.pointer (some ⟨b, 0, none⟩)] w fun e w' => e = .returned (.string s) ∧ w' = w2 := by
  have c1 : w.drew.cell? ⟨b, 1, none⟩ = some (.slice ao n cap) := h1
  go_enter Try.func56, Try.ntmps56
  go_wp2
  go_region
  all_goals (go_wp2; go_ret; exact ⟨rfl, rfl⟩)
theorem infoU0 : (Try.prog.info? 5).map (fun j => (j.size, j.bytes, j.zero)) = some (1, 1, some (.int .u8 0)) := by kernel_rfl
theorem infoU : ∃ j, Try.prog.info? 5 = some j ∧ j.size = 1 ∧ j.bytes = 1 ∧ j.zero = some (.int .u8 0) := by
  obtain ⟨j, h1, h2⟩ := Option.map_eq_some_iff.1 infoU0
  simp only [Prod.mk.injEq] at h2
  exact ⟨j, h1, h2⟩
theorem enW0 : Abs.Enters sys 54 := ⟨_, Try.func54, by kernel_rfl, by kernel_rfl⟩
theorem enB0 : Abs.Enters sys 55 := ⟨_, Try.func55, by kernel_rfl, by kernel_rfl⟩
theorem enS0 : Abs.Enters sys 56 := ⟨_, Try.func56, by kernel_rfl, by kernel_rfl⟩
/-- What the steps of a Builder lean on, of this program. -/
noncomputable def bds : BdSys sys where
  tB := 99
  tS := 48
  tStr := 9
  tU := 5
  tPU := 128
  tI := 3
  tN := 99 * 4096 + 5
  hN1 := rfl
  hN2 := rfl
  fW := 54
  fB := 55
  fS := 56
  jf := infoU.choose
  hu := Try.underlying48
  hstr := Try.underlying9
  hpu := Try.underlying128
  hinfo := infoU.choose_spec.1
  hsz := infoU.choose_spec.2.1
  hby := infoU.choose_spec.2.2.1
  hze := infoU.choose_spec.2.2.2
  hcells := (show Try.prog.cellsOf 5 = 1 by kernel_rfl)
  enW := enW0
  enB := enB0
  enS := enS0
  ws := fun b w w0 w1 v' uo un uc s h1 h2 h3 h4 h5 h6 h7 => writeString_walk b w w0 w1 v' uo un uc s h1 h2 h3 h4 h5 h6 h7
  wb := fun b w w0 w1 v' uo un uc c h1 h2 h3 h4 h5 h6 h7 => writeByte_walk b w w0 w1 v' uo un uc c h1 h2 h3 h4 h5 h6 h7
  st := fun b w w1 w2 ao n cap p s h1 h2 h3 h4 => string_walk b w w1 w2 ao n cap p s h1 h2 h3 h4
end Go.Proofs.Ytgjclggjkhapfaa
/- Contracts: the strings of values, on both sides. -/
set_option linter.unusedVariables false
set_option linter.unusedSimpArgs false
namespace Go.Proofs.Ytgjclggjkhapfaa
open Go Go.Abs
def encF (rec : Int → V → List UInt8) (f : Fd) (v : V) : List UInt8 :=
  if f.kind = 1 then f.bytes else if f.kind = 3 then UInt8.ofNat v.bytes.length :: v.bytes else if f.kind = 4 then [UInt8.ofNat v.number.toNat]
  else if f.kind = 5 then UInt8.ofNat (rec f.n v).length :: rec f.n v else v.bytes
def encL (rec : Int → V → List UInt8) : List Fd → List V → List UInt8
  | f :: fs, v :: vs => encF rec f v ++ encL rec fs vs
  | _, _ => []
def enc0 (t : List Fm) (i : Int) (v : V) : List UInt8 := encL (fun _ _ => []) (t.getD i.toNat default).fields v.kids
def encT (t : List Fm) (i : Int) (v : V) : List UInt8 := encL (enc0 t) (t.getD i.toNat default).fields v.kids
def encE (t : List Fm) (i : Int) (v : V) : List UInt8 × Int := if valE t i v ≠ 0 then ([], valE t i v) else (encT t i v, 0)
theorem encL_take {rec : Int → V → List UInt8} : ∀ {fs : List Fd} {vs : List V} {k : Nat}, k < fs.length → k < vs.length →
    encL rec (fs.take (k + 1)) (vs.take (k + 1)) = encL rec (fs.take k) (vs.take k) ++ encF rec (fs.getD k default) (vs.getD k default)
  | [], _, k, h, _ => by simp at h
  | _ :: _, [], k, _, h => by simp at h
  | f :: fs, v :: vs, 0, _, _ => by simp [encL]
  | f :: fs, v :: vs, k + 1, h1, h2 => by
    have ih := encL_take (rec := rec) (fs := fs) (vs := vs) (k := k) (by simpa using h1) (by simpa using h2)
    simp only [List.take_succ_cons, encL, List.getD_cons_succ, ih, List.append_assoc]
theorem kidsE_zero {rec : Int → V → Int} : ∀ {fs : List Fd} {vs : List V}, kidsE rec fs vs = 0 → ∀ k, k < fs.length → k < vs.length → fvE rec (fs.getD k default) (vs.getD k default) = 0
  | [], _, _, k, h, _ => by simp at h
  | _ :: _, [], _, k, _, h => by simp at h
  | f :: fs, v :: vs, h, k, h1, h2 => by
    rw [kidsE] at h
    split at h
    · rename_i h0; exact absurd h h0
    · rename_i h0
      cases k with
      | zero => simpa using h0
      | succ k =>
        have := kidsE_zero h k (by simpa using h1) (by simpa using h2)
        simpa using this
/-- What is known of a field's valid value. -/
structure VOk (f : Fd) (v : V) : Prop where
  b : (v.bytes.length : Int) ≤ 1000
  b3 : f.kind = 3 → (v.bytes.length : Int) ≤ 15
  b2 : f.kind = 2 → (v.bytes.length : Int) ≤ 15
  n : f.kind = 4 → 0 ≤ v.number ∧ v.number ≤ 255
theorem fvE_ok {rec : Int → V → Int} {f : Fd} {v : V} (hf : FdOk f) (h : fvE rec f v = 0) (h5 : f.kind = 5 → v.bytes = []) : VOk f v := by
  obtain ⟨k, b, n, l, hh, lh, h4⟩ := hf
  unfold fvE at h
  split at h
  · simp at h
  · rename_i h1
    split at h
    · simp at h
    · rename_i h2
      have h1 : fitsB f v = true := by simpa using h1
      have h2 : rngB f v = true := by simpa using h2
      unfold fitsB zeroB at h1
      unfold rngB at h2
      obtain hk | hk | hk | hk | hk | hk : f.kind = 1 ∨ f.kind = 2 ∨ f.kind = 3 ∨ f.kind = 4 ∨ f.kind = 5 ∨ f.kind = 6 := by omega
      all_goals (simp [hk] at h1 h2 h5 h4; constructor <;> simp_all <;> omega)
theorem bdc {a b : List UInt8} (h : a = b) : [C.bl, C.sl 1 (bytesR a)] = [C.bl, C.sl 1 (bytesR b)] := by rw [h]
theorem u8_nat {x : Int} {n : Nat} (h : x = n) (hn : n < 256) : x = ((UInt8.ofNat n).toNat : Int) := by
  rw [h, UInt8.toNat_ofNat']; omega
theorem byte1 {x : Int} {n : Nat} (h : x = n) (hn : n < 256) : [[C.i .u8 x]] = bytesR [UInt8.ofNat n] := by
  rw [u8_nat h hn]; rfl
theorem encL_len {rec : Int → V → List UInt8} : ∀ {fs : List Fd} {vs : List V}, (∀ k, k < fs.length → k < vs.length → (encF rec (fs.getD k default) (vs.getD k default)).length ≤ 2000) → (encL rec fs vs).length ≤ 2000 * fs.length
  | [], _, _ => by simp [encL]
  | _ :: _, [], _ => by simp [encL]
  | f :: fs, v :: vs, h => by
    have h0 := h 0 (by simp) (by simp)
    have ih := encL_len (rec := rec) (fs := fs) (vs := vs) fun k h1 h2 => by have := h (k + 1) (by simpa using h1) (by simpa using h2); simpa using this
    simp only [List.getD_cons_zero] at h0
    simp only [encL, List.length_append, List.length_cons]; omega
theorem encode_gen (t : List Fm) (i : Int) (v : V) (rec : Int → V → List UInt8) (hi : 0 ≤ i ∧ i < t.length) (hl6 : (t.getD i.toNat default).fields.length ≤ 6) (hkl : v.kids.length = (t.getD i.toNat default).fields.length)
    (hfd : ∀ k, k < (t.getD i.toNat default).fields.length → FdOk ((t.getD i.toNat default).fields.getD k default))
    (hv : ∀ k, k < (t.getD i.toNat default).fields.length → VOk ((t.getD i.toNat default).fields.getD k default) (v.kids.getD k default))
    (hln : ∀ k, k < (t.getD i.toNat default).fields.length → ((t.getD i.toNat default).fields.getD k default).kind = 5 → (rec ((t.getD i.toNat default).fields.getD k default).n (v.kids.getD k default)).length ≤ 255)
    (hrec : ∀ k, k < (t.getD i.toNat default).fields.length → ((t.getD i.toNat default).fields.getD k default).kind = 5 → Ctr sys 35 [xtab t, xi ((t.getD i.toNat default).fields.getD k default).n, xv (v.kids.getD k default)] [] (xs (rec ((t.getD i.toNat default).fields.getD k default).n (v.kids.getD k default))) none []) :
    Ctr sys 35 [xtab t, xi i, xv v] [] (xs (encL rec (t.getD i.toNat default).fields v.kids)) none [] := by
  have hr := V.rows_len v.kids
  have hrl := Fm.rows_len t
  have hrf := Fd.rows_len (t.getD i.toNat default).fields
  have hel : ∀ k, k ≤ (t.getD i.toNat default).fields.length → (encL rec ((t.getD i.toNat default).fields.take k) (v.kids.take k)).length ≤ 12000 := by
    intro k hk
    have := encL_len (rec := rec) (fs := (t.getD i.toNat default).fields.take k) (vs := v.kids.take k) fun j h1 h2 => by
      simp only [List.length_take] at h1 h2
      rw [getD_take _ _ (by omega), getD_take _ _ (by omega)]
      obtain ⟨w1, w2, w3, w4⟩ := hv j (by omega)
      have w5 := (hfd j (by omega)).bytes
      have w6 := hln j (by omega)
      unfold encF
      split
      · omega
      · split
        · simp only [List.length_cons]; omega
        · split
          · simp only [List.length_cons, List.length_nil]; omega
          · split
            · rename_i q; have := w6 q; simp only [List.length_cons]; omega
            · omega
    simp only [List.length_take] at this
    omega
  refine spec_intro Try.func35 rfl rfl rfl rfl rfl rfl ?_
  refine awp_seq (awp_region ?_)
  refine al_do rfl (does_box rfl rfl rfl rfl) ?_
  refine al_pure rfl rfl rfl (pure_assign rfl gU) ?_
  refine al_nil ?_
  refine awp_seq (awp_region ?_)
  refine al_do rfl (does_allocBd (u := 405509) rfl rfl rfl rfl rfl) ?_
  refine al_nil ?_
  refine awp_seq ?_
  refine awp_seq (awp_region ?_)
  refine al_pure rfl rfl rfl (pure_move rfl gU) ?_
  refine al_pure rfl rfl rfl (pure_move rfl gU) ?_
  refine al_pure rfl rfl rfl (pure_indexAddr (j := i.toNat) rfl rfl gU gU rfl rfl (by omega) (fun hh => Fm.rows_at (by omega))) ?_
  refine al_pure rfl rfl rfl (pure_fieldRo rfl gU rfl rfl) ?_
  refine al_pure rfl rfl rfl (pure_loadRo rfl gU rfl rfl rfl) ?_
  refine al_lenSl rfl rfl rfl rfl rfl gU rfl rfl ?_ (fun hh => by simp at hh); intro hlen
  refine al_pure rfl rfl rfl (pure_move rfl gU) ?_
  refine al_nil ?_
  refine awp_sub (s := { t := [(0, _, _), (5, _, _), (7, _, _), (16, _, _), (17, _, _), (18, _, _)], bx := [((.bd 405509 7), _), ((.l 5), _)], ow := [((.b (.bd 405509 7) 1), _)] }) (sub_mk (⟨sx rfl, ⟨sx rfl, ⟨sx rfl, ⟨sx rfl, ⟨sx rfl, ⟨sx rfl, trivial⟩⟩⟩⟩⟩⟩) (⟨sx rfl, ⟨sx rfl, trivial⟩⟩) (⟨rfl, trivial⟩)) ?_
  refine awp_block ?_
  refine awp_for (ι := Nat) { t := [(0, _, _), (5, _, _), (7, _, _), (16, _, _), (17, _, _)], bx := [((.l 5), _)], ow := [((.b (.bd 405509 7) 1), _)] } (fun k => [(18, true, xi (k : Int))]) (fun k => [((.bd 405509 7), [.bl, .sl 1 (bytesR (encL rec ((t.getD i.toNat default).fields.take k) (v.kids.take k)))])]) (fun k => k ≤ (t.getD i.toNat default).fields.length) (fun k => (t.getD i.toNat default).fields.length - k) (0) (by simp) (sub_mk (⟨sx rfl, ⟨sx rfl, ⟨sx rfl, ⟨sx rfl, ⟨sx rfl, ⟨sx rfl, trivial⟩⟩⟩⟩⟩⟩) (⟨sx rfl, ⟨sx rfl, trivial⟩⟩) (⟨rfl, trivial⟩)) ?_
  intro k hok
  dsimp only [List.cons_append, List.nil_append]
  have hek := hel k hok
  refine awp_seq (awp_region ?_)
  refine al_pure rfl rfl rfl (pure_cmp rfl rfl gU gU rfl) ?_
  refine al_nil ?_
  refine awp_seq ?_
  refine awp_cond rfl (fun hc => ?_) (fun hc => ?_)
  · try simp only [nn, Fd.rows_len, Fm.rows_len, V.rows_len] at hc
    obtain ⟨w1, w2, w3, w4⟩ := hv k (by omega)
    have w5 := (hfd k (by omega)).bytes
    have w6 := hln k (by omega)
    have hT := encL_take (rec := rec) (fs := (t.getD i.toNat default).fields) (vs := v.kids) (k := k) (by omega) (by omega)
    refine awp_skip ?_
    refine awp_seq ?_
    refine awp_block ?_
    refine awp_seq (awp_region ?_)
    refine al_pure rfl rfl rfl (pure_move rfl gU) ?_
    refine al_pure rfl rfl rfl (pure_indexAddr rfl rfl gU gU rfl rfl rfl (fun hh => Fd.rows_at (by omega))) ?_
    refine al_pure rfl rfl rfl (pure_loadRoRow rfl gU rfl rfl rfl rfl) ?_
    refine al_do rfl (does_alloc rfl rfl rfl) ?_
    refine al_pure rfl rfl rfl (pure_assign rfl gU) ?_
    refine al_do rfl (does_store rfl rfl rfl rfl rfl rfl rfl) ?_
    refine al_nil ?_
    refine awp_sub (s := { t := [(0, _, _), (5, _, _), (7, _, _), (8, _, _), (9, _, _), (16, _, _), (17, _, _), (18, _, _)], bx := [((.bd 405509 7), _), ((.l 5), _), ((.l 9), _)], ow := [((.b (.bd 405509 7) 1), _)] }) (sub_mk (⟨sx rfl, ⟨sx rfl, ⟨sx rfl, ⟨sx rfl, ⟨sx rfl, ⟨sx rfl, ⟨sx rfl, ⟨sx rfl, trivial⟩⟩⟩⟩⟩⟩⟩⟩) (⟨sx rfl, ⟨sx rfl, ⟨sx rfl, trivial⟩⟩⟩) (⟨rfl, trivial⟩)) ?_
    refine awp_seq (awp_region ?_)
    refine al_pure rfl rfl rfl (pure_fieldPtr rfl gU rfl rfl) ?_
    refine al_pure rfl rfl rfl (pure_loadBox rfl gU rfl rfl rfl rfl) ?_
    refine al_pure rfl rfl rfl (pure_move rfl gU) ?_
    refine al_pure rfl rfl rfl (pure_indexAddr rfl rfl gU gU rfl rfl rfl (fun hh => V.rows_at (by omega))) ?_
    refine al_pure rfl rfl rfl (pure_loadRoRow rfl gU rfl rfl rfl rfl) ?_
    refine al_do rfl (does_alloc rfl rfl rfl) ?_
    refine al_do rfl (does_store rfl rfl rfl rfl rfl rfl rfl) ?_
    refine al_nil ?_
    refine awp_sub (s := { t := [(0, _, _), (5, _, _), (7, _, _), (9, _, _), (10, _, _), (16, _, _), (17, _, _), (18, _, _)], bx := [((.bd 405509 7), _), ((.l 10), _), ((.l 5), _), ((.l 9), _)], ow := [((.b (.bd 405509 7) 1), _)] }) (sub_mk (⟨sx rfl, ⟨sx rfl, ⟨sx rfl, ⟨sx rfl, ⟨sx rfl, ⟨sx rfl, ⟨sx rfl, ⟨sx rfl, trivial⟩⟩⟩⟩⟩⟩⟩⟩) (⟨sx rfl, ⟨sx rfl, ⟨sx rfl, ⟨sx rfl, trivial⟩⟩⟩⟩) (⟨rfl, trivial⟩)) ?_
    refine awp_seq (awp_region ?_)
    refine al_pure rfl rfl rfl (pure_fieldPtr rfl gU rfl rfl) ?_
    refine al_pure rfl rfl rfl (pure_loadBox rfl gU rfl rfl rfl rfl) ?_
    refine al_nil ?_
    refine awp_block ?_
    refine awp_seq (awp_region ?_)
    refine al_pure rfl rfl rfl (pure_cmp rfl rfl gU gU rfl) ?_
    refine al_pure rfl rfl rfl (pure_assign rfl gU) ?_
    refine al_nil ?_
    refine awp_cond rfl (fun hc1 => ?_) (fun hc1 => ?_)
    · try simp only [nn, Fd.rows_len, Fm.rows_len, V.rows_len] at hc1
      refine awp_region ?_
      refine al_pure rfl rfl rfl (pure_fieldPtr rfl gU rfl rfl) ?_
      refine al_pure rfl rfl rfl (pure_loadBox rfl gU rfl rfl rfl rfl) ?_
      refine al_bws bds rfl rfl rfl rfl rfl rfl rfl rfl (by (try simp only [List.length_append, List.length_singleton]); omega) ?_
      refine al_nil ?_
      refine awp_sub (s := { t := [(0, _, _), (5, _, _), (7, _, _), (16, _, _), (17, _, _), (18, _, _)], bx := [((.bd 405509 7), _), ((.l 5), _)], ow := [((.b (.bd 405509 7) 1), _)] }) (sub_mk (⟨sx rfl, ⟨sx rfl, ⟨sx rfl, ⟨sx rfl, ⟨sx rfl, ⟨sx rfl, trivial⟩⟩⟩⟩⟩⟩) (⟨sx rfl, ⟨sx rfl, trivial⟩⟩) (⟨rfl, trivial⟩)) ?_
      refine awp_region ?_
      refine al_pure rfl rfl rfl (pure_arith rfl rfl gU gU rfl (IntWalk.i64_in _ (by omega))) ?_
      refine al_pure rfl rfl rfl (pure_move rfl gU) ?_
      refine al_nil ?_
      refine ⟨k + 1, ?_, ?_, sub_mk (⟨⟨_, rfl, ?_⟩, ⟨sx rfl, ⟨sx rfl, ⟨sx rfl, ⟨sx rfl, ⟨sx rfl, trivial⟩⟩⟩⟩⟩⟩) (⟨⟨_, rfl, ?_⟩, ⟨sx rfl, trivial⟩⟩) (⟨rfl, trivial⟩)⟩
      all_goals (first | omega | rfl | (refine bdc ?_; rw [hT]; unfold encF; simp only [*, if_true, if_false, List.append_assoc, List.singleton_append] <;> rfl))
    · try simp only [nn, Fd.rows_len, Fm.rows_len, V.rows_len] at hc1
      refine awp_seq (awp_region ?_)
      refine al_pure rfl rfl rfl (pure_cmp rfl rfl gU gU rfl) ?_
      refine al_pure rfl rfl rfl (pure_assign rfl gU) ?_
      refine al_nil ?_
      refine awp_sub (s := { t := [(0, _, _), (5, _, _), (7, _, _), (9, _, _), (10, _, _), (16, _, _), (17, _, _), (18, _, _), (29, _, _), (38, _, _)], bx := [((.bd 405509 7), _), ((.l 10), _), ((.l 5), _), ((.l 9), _)], ow := [((.b (.bd 405509 7) 1), _)] }) (sub_mk (⟨sx rfl, ⟨sx rfl, ⟨sx rfl, ⟨sx rfl, ⟨sx rfl, ⟨sx rfl, ⟨sx rfl, ⟨sx rfl, ⟨sx rfl, ⟨sx rfl, trivial⟩⟩⟩⟩⟩⟩⟩⟩⟩⟩) (⟨sx rfl, ⟨sx rfl, ⟨sx rfl, ⟨sx rfl, trivial⟩⟩⟩⟩) (⟨rfl, trivial⟩)) ?_
      refine awp_cond rfl (fun hc2 => ?_) (fun hc2 => ?_)
      · try simp only [nn, Fd.rows_len, Fm.rows_len, V.rows_len] at hc2
        refine awp_seq (awp_region ?_)
        refine al_pure rfl rfl rfl (pure_fieldPtr rfl gU rfl rfl) ?_
        refine al_pure rfl rfl rfl (pure_loadBox rfl gU rfl rfl rfl rfl) ?_
        refine al_lenS rfl rfl rfl rfl rfl gU (Try.underlying9) ?_ (fun hh => by simp at hh); intro hlen
        refine al_pure rfl rfl rfl (pure_convInt rfl gU ⟨_, Try.underlying3⟩ (Try.underlying5) (IntWalk.u8_in _ (by omega))) ?_
        refine al_bwb bds (c := UInt8.ofNat (v.kids.getD k default).bytes.length) rfl rfl rfl rfl rfl rfl (by exact u8_nat (by omega) (by omega)) rfl rfl (by (try simp only [List.length_append, List.length_singleton]); omega) ?_
        refine al_nil ?_
        refine awp_sub (s := { t := [(0, _, _), (5, _, _), (7, _, _), (10, _, _), (16, _, _), (17, _, _), (18, _, _)], bx := [((.bd 405509 7), _), ((.l 10), _), ((.l 5), _)], ow := [((.b (.bd 405509 7) 1), _)] }) (sub_mk (⟨sx rfl, ⟨sx rfl, ⟨sx rfl, ⟨sx rfl, ⟨sx rfl, ⟨sx rfl, ⟨sx rfl, trivial⟩⟩⟩⟩⟩⟩⟩) (⟨sx rfl, ⟨sx rfl, ⟨sx rfl, trivial⟩⟩⟩) (⟨rfl, trivial⟩)) ?_
        refine awp_region ?_
        refine al_pure rfl rfl rfl (pure_fieldPtr rfl gU rfl rfl) ?_
        refine al_pure rfl rfl rfl (pure_loadBox rfl gU rfl rfl rfl rfl) ?_
        refine al_bws bds rfl rfl rfl rfl rfl rfl rfl rfl (by (try simp only [List.length_append, List.length_singleton]); omega) ?_
        refine al_nil ?_
        refine awp_region ?_
        refine al_pure rfl rfl rfl (pure_arith rfl rfl gU gU rfl (IntWalk.i64_in _ (by omega))) ?_
        refine al_pure rfl rfl rfl (pure_move rfl gU) ?_
        refine al_nil ?_
        refine ⟨k + 1, ?_, ?_, sub_mk (⟨⟨_, rfl, ?_⟩, ⟨sx rfl, ⟨sx rfl, ⟨sx rfl, ⟨sx rfl, ⟨sx rfl, trivial⟩⟩⟩⟩⟩⟩) (⟨⟨_, rfl, ?_⟩, ⟨sx rfl, trivial⟩⟩) (⟨rfl, trivial⟩)⟩
        all_goals (first | omega | rfl | (refine bdc ?_; rw [hT]; unfold encF; simp only [*, if_true, if_false, List.append_assoc, List.singleton_append] <;> rfl))
      · try simp only [nn, Fd.rows_len, Fm.rows_len, V.rows_len] at hc2
        refine awp_seq (awp_region ?_)
        refine al_pure rfl rfl rfl (pure_cmp rfl rfl gU gU rfl) ?_
        refine al_pure rfl rfl rfl (pure_assign rfl gU) ?_
        refine al_nil ?_
        refine awp_cond rfl (fun hc3 => ?_) (fun hc3 => ?_)
        · try simp only [nn, Fd.rows_len, Fm.rows_len, V.rows_len] at hc3
          refine awp_region ?_
          refine al_pure rfl rfl rfl (pure_fieldPtr rfl gU rfl rfl) ?_
          refine al_pure rfl rfl rfl (pure_loadBox rfl gU rfl rfl rfl rfl) ?_
          refine al_pure rfl rfl rfl (pure_convInt rfl gU ⟨_, Try.underlying3⟩ (Try.underlying5) (IntWalk.u8_in _ (by omega))) ?_
          refine al_bwb bds (c := UInt8.ofNat (v.kids.getD k default).number.toNat) rfl rfl rfl rfl rfl rfl (by exact u8_nat (by omega) (by omega)) rfl rfl (by (try simp only [List.length_append, List.length_singleton]); omega) ?_
          refine al_nil ?_
          refine awp_sub (s := { t := [(0, _, _), (5, _, _), (7, _, _), (16, _, _), (17, _, _), (18, _, _)], bx := [((.bd 405509 7), _), ((.l 5), _)], ow := [((.b (.bd 405509 7) 1), _)] }) (sub_mk (⟨sx rfl, ⟨sx rfl, ⟨sx rfl, ⟨sx rfl, ⟨sx rfl, ⟨sx rfl, trivial⟩⟩⟩⟩⟩⟩) (⟨sx rfl, ⟨sx rfl, trivial⟩⟩) (⟨rfl, trivial⟩)) ?_
          refine awp_region ?_
          refine al_pure rfl rfl rfl (pure_arith rfl rfl gU gU rfl (IntWalk.i64_in _ (by omega))) ?_
          refine al_pure rfl rfl rfl (pure_move rfl gU) ?_
          refine al_nil ?_
          refine ⟨k + 1, ?_, ?_, sub_mk (⟨⟨_, rfl, ?_⟩, ⟨sx rfl, ⟨sx rfl, ⟨sx rfl, ⟨sx rfl, ⟨sx rfl, trivial⟩⟩⟩⟩⟩⟩) (⟨⟨_, rfl, ?_⟩, ⟨sx rfl, trivial⟩⟩) (⟨rfl, trivial⟩)⟩
          all_goals (first | omega | rfl | (refine bdc ?_; rw [hT]; unfold encF; simp only [*, if_true, if_false, List.append_assoc, List.singleton_append] <;> rfl))
        · try simp only [nn, Fd.rows_len, Fm.rows_len, V.rows_len] at hc3
          refine awp_seq (awp_region ?_)
          refine al_pure rfl rfl rfl (pure_cmp rfl rfl gU gU rfl) ?_
          refine al_pure rfl rfl rfl (pure_assign rfl gU) ?_
          refine al_nil ?_
          refine awp_cond rfl (fun hc4 => ?_) (fun hc4 => ?_)
          · try simp only [nn, Fd.rows_len, Fm.rows_len, V.rows_len] at hc4
            refine awp_seq (awp_region ?_)
            refine al_pure rfl rfl rfl (pure_move rfl gU) ?_
            refine al_pure rfl rfl rfl (pure_fieldPtr rfl gU rfl rfl) ?_
            refine al_pure rfl rfl rfl (pure_loadBox rfl gU rfl rfl rfl rfl) ?_
            refine al_pure rfl rfl rfl (pure_loadBoxRow rfl gU rfl rfl rfl rfl rfl) ?_
            refine al_call rfl rfl rfl rfl rfl rfl gU gU (hrec k (by omega) (by assumption)) rfl ?_
            refine al_pure rfl rfl rfl (pure_assign rfl gU) ?_
            refine al_nil ?_
            refine awp_sub (s := { t := [(0, _, _), (5, _, _), (7, _, _), (11, _, _), (16, _, _), (17, _, _), (18, _, _)], bx := [((.bd 405509 7), _), ((.l 5), _)], ow := [((.b (.bd 405509 7) 1), _)] }) (sub_mk (⟨sx rfl, ⟨sx rfl, ⟨sx rfl, ⟨sx rfl, ⟨sx rfl, ⟨sx rfl, ⟨sx rfl, trivial⟩⟩⟩⟩⟩⟩⟩) (⟨sx rfl, ⟨sx rfl, trivial⟩⟩) (⟨rfl, trivial⟩)) ?_
            refine awp_seq (awp_region ?_)
            refine al_pure rfl rfl rfl (pure_move rfl gU) ?_
            refine al_lenS rfl rfl rfl rfl rfl gU (Try.underlying9) ?_ (fun hh => by simp at hh); intro hlen
            refine al_pure rfl rfl rfl (pure_convInt rfl gU ⟨_, Try.underlying3⟩ (Try.underlying5) (IntWalk.u8_in _ (by omega))) ?_
            refine al_bwb bds (c := UInt8.ofNat (rec ((t.getD i.toNat default).fields.getD k default).n (v.kids.getD k default)).length) rfl rfl rfl rfl rfl rfl (by exact u8_nat (by omega) (by omega)) rfl rfl (by (try simp only [List.length_append, List.length_singleton]); omega) ?_
            refine al_nil ?_
            refine awp_region ?_
            refine al_pure rfl rfl rfl (pure_move rfl gU) ?_
            refine al_bws bds rfl rfl rfl rfl rfl rfl rfl rfl (by (try simp only [List.length_append, List.length_singleton]); omega) ?_
            refine al_nil ?_
            refine awp_sub (s := { t := [(0, _, _), (5, _, _), (7, _, _), (16, _, _), (17, _, _), (18, _, _)], bx := [((.bd 405509 7), _), ((.l 5), _)], ow := [((.b (.bd 405509 7) 1), _)] }) (sub_mk (⟨sx rfl, ⟨sx rfl, ⟨sx rfl, ⟨sx rfl, ⟨sx rfl, ⟨sx rfl, trivial⟩⟩⟩⟩⟩⟩) (⟨sx rfl, ⟨sx rfl, trivial⟩⟩) (⟨rfl, trivial⟩)) ?_
            refine awp_region ?_
            refine al_pure rfl rfl rfl (pure_arith rfl rfl gU gU rfl (IntWalk.i64_in _ (by omega))) ?_
            refine al_pure rfl rfl rfl (pure_move rfl gU) ?_
            refine al_nil ?_
            refine ⟨k + 1, ?_, ?_, sub_mk (⟨⟨_, rfl, ?_⟩, ⟨sx rfl, ⟨sx rfl, ⟨sx rfl, ⟨sx rfl, ⟨sx rfl, trivial⟩⟩⟩⟩⟩⟩) (⟨⟨_, rfl, ?_⟩, ⟨sx rfl, trivial⟩⟩) (⟨rfl, trivial⟩)⟩
            all_goals (first | omega | rfl | (refine bdc ?_; rw [hT]; unfold encF; simp only [*, if_true, if_false, List.append_assoc, List.singleton_append] <;> rfl))
          · try simp only [nn, Fd.rows_len, Fm.rows_len, V.rows_len] at hc4
            refine awp_region ?_
            refine al_pure rfl rfl rfl (pure_fieldPtr rfl gU rfl rfl) ?_
            refine al_pure rfl rfl rfl (pure_loadBox rfl gU rfl rfl rfl rfl) ?_
            refine al_bws bds rfl rfl rfl rfl rfl rfl rfl rfl (by (try simp only [List.length_append, List.length_singleton]); omega) ?_
            refine al_nil ?_
            refine awp_sub (s := { t := [(0, _, _), (5, _, _), (7, _, _), (16, _, _), (17, _, _), (18, _, _)], bx := [((.bd 405509 7), _), ((.l 5), _)], ow := [((.b (.bd 405509 7) 1), _)] }) (sub_mk (⟨sx rfl, ⟨sx rfl, ⟨sx rfl, ⟨sx rfl, ⟨sx rfl, ⟨sx rfl, trivial⟩⟩⟩⟩⟩⟩) (⟨sx rfl, ⟨sx rfl, trivial⟩⟩) (⟨rfl, trivial⟩)) ?_
            refine awp_region ?_
            refine al_pure rfl rfl rfl (pure_arith rfl rfl gU gU rfl (IntWalk.i64_in _ (by omega))) ?_
            refine al_pure rfl rfl rfl (pure_move rfl gU) ?_
            refine al_nil ?_
            refine ⟨k + 1, ?_, ?_, sub_mk (⟨⟨_, rfl, ?_⟩, ⟨sx rfl, ⟨sx rfl, ⟨sx rfl, ⟨sx rfl, ⟨sx rfl, trivial⟩⟩⟩⟩⟩⟩) (⟨⟨_, rfl, ?_⟩, ⟨sx rfl, trivial⟩⟩) (⟨rfl, trivial⟩)⟩
            all_goals (first | omega | rfl | (refine bdc ?_; rw [hT]; unfold encF; simp only [*, if_true, if_false, List.append_assoc, List.singleton_append] <;> rfl))
  · try simp only [nn, Fd.rows_len, Fm.rows_len, V.rows_len] at hc
    refine awp_exit ?_
    repeat (first | refine thenS_exit ?_ | refine blockS_hit ?_ | refine blockS_miss rfl ?_)
    refine awp_seq (awp_region ?_)
    refine al_bst bds rfl rfl rfl rfl rfl rfl rfl rfl ?_
    refine al_pure rfl rfl rfl (pure_assign rfl gU) ?_
    refine al_nil ?_
    refine awp_ret ?_
    repeat (first | refine tR ?_ | refine bR ?_)
    refine ret_ok rfl ?_ trivial
    have : k = (t.getD i.toNat default).fields.length := by omega
    rw [this, List.take_length, ← hkl, List.take_length]
    rfl
end Go.Proofs.Ytgjclggjkhapfaa
/- Contracts: Encode, on both sides. -/
set_option linter.unusedVariables false
set_option linter.unusedSimpArgs false
namespace Go.Proofs.Ytgjclggjkhapfaa
open Go Go.Abs
theorem encL_lenB {B : Nat} {rec : Int → V → List UInt8} : ∀ {fs : List Fd} {vs : List V}, (∀ k, k < fs.length → k < vs.length → (encF rec (fs.getD k default) (vs.getD k default)).length ≤ B) → (encL rec fs vs).length ≤ B * fs.length
  | [], _, _ => by simp [encL]
  | _ :: _, [], _ => by simp [encL]
  | f :: fs, v :: vs, h => by
    have h0 := h 0 (by simp) (by simp)
    have ih := encL_lenB (rec := rec) (fs := fs) (vs := vs) fun k h1 h2 => by have := h (k + 1) (by simpa using h1) (by simpa using h2); simpa using this
    simp only [List.getD_cons_zero] at h0
    simp only [encL, List.length_append, List.length_cons, Nat.mul_add]; omega
theorem valG_ok {rec : Int → V → Int} {t : List Fm} {i : Int} {v : V} (h : valG rec t i v = 0) : v.bytes = [] ∧ v.number = 0 ∧ v.kids.length = (t.getD i.toNat default).fields.length ∧
    ∀ k, k < (t.getD i.toNat default).fields.length → fvE rec ((t.getD i.toNat default).fields.getD k default) (v.kids.getD k default) = 0 := by
  unfold valG at h
  split at h
  · simp at h
  · rename_i h1
    split at h
    · simp at h
    · rename_i h2
      have h2 := Decidable.not_not.1 h2
      refine ⟨Decidable.not_not.1 fun q => h1 (.inl q), Decidable.not_not.1 fun q => h1 (.inr q), h2, fun k hk => kidsE_zero h k hk (by omega)⟩
theorem fvE_five {rec : Int → V → Int} {f : Fd} {v : V} (h5 : f.kind = 5) (h : fvE rec f v = 0) : rec f.n v = 0 := by
  unfold fvE at h
  have h1 : fitsB f v = true := by simp [fitsB, h5]
  have h2 : rngB f v = true := by simp [rngB, h5]
  rw [h1, h2] at h
  simpa [h5] using h
theorem vok_plain {t : List Fm} {i : Int} {v : V} (hp : Plain1 (t.getD i.toNat default).fields) (h : val0 t i v = 0) (k : Nat) (hk : k < (t.getD i.toNat default).fields.length) : VOk ((t.getD i.toNat default).fields.getD k default) (v.kids.getD k default) :=
  fvE_ok (hp.ok k hk).1 ((valG_ok h).2.2.2 k hk) fun h5 => absurd h5 (hp.ok k hk).2.1
theorem vok_fds {t : List Fm} {i : Int} {v : V} (hf : Fds t (t.getD i.toNat default).fields) (h : valT t i v = 0) (k : Nat) (hk : k < (t.getD i.toNat default).fields.length) : VOk ((t.getD i.toNat default).fields.getD k default) (v.kids.getD k default) :=
  fvE_ok (hf.ok k hk) ((valG_ok h).2.2.2 k hk) fun h5 => (valG_ok (fvE_five h5 ((valG_ok h).2.2.2 k hk))).1
theorem enc0_len {t : List Fm} {i : Int} {v : V} (hp : Plain1 (t.getD i.toNat default).fields) (h : val0 t i v = 0) : (enc0 t i v).length ≤ 96 := by
  have := encL_lenB (B := 16) (rec := fun _ _ => []) (fs := (t.getD i.toNat default).fields) (vs := v.kids) fun k hk _ => by
    obtain ⟨w1, w3, w2, w4⟩ := vok_plain hp h k hk
    obtain ⟨h1, h2, h3, h4, h5, h6, _⟩ := (hp.ok k hk).1
    have h7 := (hp.ok k hk).2
    unfold encF
    split
    · omega
    · split
      · simp only [List.length_cons]; omega
      · split
        · simp
        · split
          · omega
          · have : ((t.getD i.toNat default).fields.getD k default).kind = 2 := by omega
            have := w2 this
            omega
  have := hp.len
  unfold enc0; omega
theorem encT_len {t : List Fm} {i : Int} {v : V} (hf : Fds t (t.getD i.toNat default).fields) (h : valT t i v = 0) : (encT t i v).length ≤ 12000 := by
  have := encL_lenB (B := 2000) (rec := enc0 t) (fs := (t.getD i.toNat default).fields) (vs := v.kids) fun k hk _ => by
    obtain ⟨w1, w3, w2, w4⟩ := vok_fds hf h k hk
    obtain ⟨h1, h2, h3, h4, h5, h6, _⟩ := hf.ok k hk
    unfold encF
    split
    · omega
    · split
      · simp only [List.length_cons]; omega
      · split
        · simp
        · split
          · rename_i q
            have := enc0_len (hf.nest k hk q).2 (fvE_five q ((valG_ok h).2.2.2 k hk))
            simp only [List.length_cons]; omega
          · omega
  have := hf.len
  unfold encT; omega
theorem encode_spec (t : List Fm) (i : Int) (v : V) (hi : 0 ≤ i ∧ i < t.length) (hf : Fds t (t.getD i.toNat default).fields) (hv : valT t i v = 0) :
    Ctr sys 35 [xtab t, xi i, xv v] [] (xs (encT t i v)) none [] := by
  have hk := valG_ok hv
  refine encode_gen t i v (enc0 t) hi hf.len.2 hk.2.2.1 hf.ok (vok_fds hf hv) (fun k hk' h5 => by have := enc0_len (hf.nest k hk' h5).2 (fvE_five h5 (hk.2.2.2 k hk')); omega) fun k hk' h5 => ?_
  obtain ⟨q1, q2⟩ := hf.nest k hk' h5
  have q3 := (hf.ok k hk').n
  have q4 : val0 t ((t.getD i.toNat default).fields.getD k default).n (v.kids.getD k default) = 0 := fvE_five h5 (hk.2.2.2 k hk')
  exact encode_gen t _ _ (fun _ _ => []) (by omega) q2.len.2 (valG_ok q4).2.2.1 (fun j hj => (q2.ok j hj).1) (vok_plain q2 q4) (fun j hj h6 => absurd h6 (q2.ok j hj).2.1) fun j hj h6 => absurd h6 (q2.ok j hj).2.1
theorem text_gen (t : List Fm) (i : Int) (v : V) (rec : Int → V → List UInt8) (hi : 0 ≤ i ∧ i < t.length) (hl6 : (t.getD i.toNat default).fields.length ≤ 6) (hkl : v.kids.length = (t.getD i.toNat default).fields.length)
    (hfd : ∀ k, k < (t.getD i.toNat default).fields.length → FdOk ((t.getD i.toNat default).fields.getD k default))
    (hv : ∀ k, k < (t.getD i.toNat default).fields.length → VOk ((t.getD i.toNat default).fields.getD k default) (v.kids.getD k default))
    (hln : ∀ k, k < (t.getD i.toNat default).fields.length → ((t.getD i.toNat default).fields.getD k default).kind = 5 → (rec ((t.getD i.toNat default).fields.getD k default).n (v.kids.getD k default)).length ≤ 255)
    (hrec : ∀ k, k < (t.getD i.toNat default).fields.length → ((t.getD i.toNat default).fields.getD k default).kind = 5 → Ctr sys 36 [xtab t, xi ((t.getD i.toNat default).fields.getD k default).n, xv (v.kids.getD k default)] [] (xs (rec ((t.getD i.toNat default).fields.getD k default).n (v.kids.getD k default))) none []) :
    Ctr sys 36 [xtab t, xi i, xv v] [] (xs (encL rec (t.getD i.toNat default).fields v.kids)) none [] := by
  have hr := V.rows_len v.kids
  have hrl := Fm.rows_len t
  have hrf := Fd.rows_len (t.getD i.toNat default).fields
  have hel : ∀ k, k ≤ (t.getD i.toNat default).fields.length → (encL rec ((t.getD i.toNat default).fields.take k) (v.kids.take k)).length ≤ 12000 := by
    intro k hk
    have := encL_len (rec := rec) (fs := (t.getD i.toNat default).fields.take k) (vs := v.kids.take k) fun j h1 h2 => by
      simp only [List.length_take] at h1 h2
      rw [getD_take _ _ (by omega), getD_take _ _ (by omega)]
      obtain ⟨w1, w2, w3, w4⟩ := hv j (by omega)
      have w5 := (hfd j (by omega)).bytes
      have w6 := hln j (by omega)
      unfold encF
      split
      · omega
      · split
        · simp only [List.length_cons]; omega
        · split
          · simp only [List.length_cons, List.length_nil]; omega
          · split
            · rename_i q; have := w6 q; simp only [List.length_cons]; omega
            · omega
    simp only [List.length_take] at this
    omega
  refine spec_intro Try.func36 rfl rfl rfl rfl rfl rfl ?_
  refine awp_seq (awp_region ?_)
  refine al_do rfl (does_box rfl rfl rfl rfl) ?_
  refine al_pure rfl rfl rfl (pure_assign rfl gU) ?_
  refine al_nil ?_
  refine awp_seq (awp_region ?_)
  refine al_pure rfl rfl rfl (pure_assign rfl gU) ?_
  refine al_nil ?_
  refine awp_seq ?_
  refine awp_seq (awp_region ?_)
  refine al_pure rfl rfl rfl (pure_assign rfl gU) ?_
  refine al_nil ?_
  refine awp_block ?_
  refine awp_for (ι := Nat) { t := [(0, _, _), (1, _, _), (5, _, _)], bx := [((.l 5), _)], ow := [] } (fun k => [(8, true, xi (k : Int)), (7, true, xs (encL rec ((t.getD i.toNat default).fields.take k) (v.kids.take k)))]) (fun k => []) (fun k => k ≤ (t.getD i.toNat default).fields.length) (fun k => (t.getD i.toNat default).fields.length - k) (0) (by simp) (sub_mk (⟨sx rfl, ⟨sx rfl, ⟨sx rfl, ⟨sx rfl, ⟨sx rfl, trivial⟩⟩⟩⟩⟩) (⟨sx rfl, trivial⟩) trivial) ?_
  intro k hok
  dsimp only [List.cons_append, List.nil_append]
  have hek := hel k hok
  refine awp_seq ?_
  refine awp_seq (awp_region ?_)
  refine al_pure rfl rfl rfl (pure_move rfl gU) ?_
  refine al_pure rfl rfl rfl (pure_fieldPtr rfl gU rfl rfl) ?_
  refine al_pure rfl rfl rfl (pure_loadBox rfl gU rfl rfl rfl rfl) ?_
  refine al_lenSl rfl rfl rfl rfl rfl gU rfl rfl ?_ (fun hh => by simp at hh); intro hlen
  refine al_pure rfl rfl rfl (pure_cmp rfl rfl gU gU rfl) ?_
  refine al_nil ?_
  refine awp_sub (s := { t := [(0, _, _), (1, _, _), (5, _, _), (7, _, _), (8, _, _), (16, _, _)], bx := [((.l 5), _)], ow := [] }) (sub_mk (⟨sx rfl, ⟨sx rfl, ⟨sx rfl, ⟨sx rfl, ⟨sx rfl, ⟨sx rfl, trivial⟩⟩⟩⟩⟩⟩) (⟨sx rfl, trivial⟩) trivial) ?_
  refine awp_cond rfl (fun hc => ?_) (fun hc => ?_)
  · try simp only [nn, Fd.rows_len, Fm.rows_len, V.rows_len] at hc
    obtain ⟨w1, w2, w3, w4⟩ := hv k (by omega)
    have w5 := (hfd k (by omega)).bytes
    have w6 := hln k (by omega)
    have hT := encL_take (rec := rec) (fs := (t.getD i.toNat default).fields) (vs := v.kids) (k := k) (by omega) (by omega)
    refine awp_skip ?_
    refine awp_seq ?_
    refine awp_block ?_
    refine awp_seq ?_
    refine awp_drawn' (by kernel_rfl) ?_
    refine dr_pure rfl rfl rfl rfl (pure_move rfl gU) ?_
    refine dr_pure rfl rfl rfl rfl (pure_move rfl gU) ?_
    refine dr_pure rfl rfl rfl rfl (pure_indexAddr (j := i.toNat) rfl rfl gU gU rfl rfl (by omega) (fun hh => Fm.rows_at (by omega))) ?_
    refine dr_pure rfl rfl rfl rfl (pure_fieldRo rfl gU rfl rfl) ?_
    refine dr_pure rfl rfl rfl rfl (pure_loadRo rfl gU rfl rfl rfl) ?_
    refine dr_pure rfl rfl rfl rfl (pure_move rfl gU) ?_
    refine dr_pure rfl rfl rfl rfl (pure_indexAddr rfl rfl gU gU rfl rfl rfl (fun hh => Fd.rows_at (by omega))) ?_
    refine dr_pure rfl rfl rfl rfl (pure_loadRoRow rfl gU rfl rfl rfl rfl) ?_
    refine dr_pure rfl rfl rfl rfl (pure_fieldPtr rfl gU rfl rfl) ?_
    refine dr_load rfl rfl rfl rfl rfl rfl rfl gU rfl rfl rfl rfl ?_
    refine dr_pure rfl rfl rfl rfl (pure_move rfl gU) ?_
    refine dr_pure rfl rfl rfl rfl (pure_indexAddr rfl rfl gU gU rfl rfl rfl (fun hh => V.rows_at (by omega))) ?_
    refine dr_pure rfl rfl rfl rfl (pure_loadRoRow rfl gU rfl rfl rfl rfl) ?_
    refine dr_alloc rfl rfl rfl rfl rfl rfl rfl ?_
    refine dr_alloc rfl rfl rfl rfl rfl rfl rfl ?_
    refine dr_store rfl rfl rfl rfl rfl rfl rfl rfl rfl rfl rfl rfl ?_
    refine dr_store rfl rfl rfl rfl rfl rfl rfl rfl rfl rfl rfl rfl ?_
    refine dr_nil (by kernel_rfl) ?_
    refine awp_sub (s := { t := [(0, _, _), (1, _, _), (5, _, _), (7, _, _), (8, _, _), (9, _, _), (10, _, _)], bx := [((.l 10), _), ((.l 5), _), ((.l 9), _)], ow := [] }) (sub_mk (⟨sx rfl, ⟨sx rfl, ⟨sx rfl, ⟨sx rfl, ⟨sx rfl, ⟨sx rfl, ⟨sx rfl, trivial⟩⟩⟩⟩⟩⟩⟩) (⟨sx rfl, ⟨sx rfl, ⟨sx rfl, trivial⟩⟩⟩) trivial) ?_
    refine awp_seq (awp_region ?_)
    refine al_pure rfl rfl rfl (pure_fieldPtr rfl gU rfl rfl) ?_
    refine al_pure rfl rfl rfl (pure_loadBox rfl gU rfl rfl rfl rfl) ?_
    refine al_nil ?_
    refine awp_block ?_
    refine awp_seq (awp_region ?_)
    refine al_pure rfl rfl rfl (pure_cmp rfl rfl gU gU rfl) ?_
    refine al_pure rfl rfl rfl (pure_assign rfl gU) ?_
    refine al_nil ?_
    refine awp_cond rfl (fun hc1 => ?_) (fun hc1 => ?_)
    · try simp only [nn, Fd.rows_len, Fm.rows_len, V.rows_len] at hc1
      refine awp_region ?_
      refine al_pure rfl rfl rfl (pure_move rfl gU) ?_
      refine al_pure rfl rfl rfl (pure_fieldPtr rfl gU rfl rfl) ?_
      refine al_pure rfl rfl rfl (pure_loadBox rfl gU rfl rfl rfl rfl) ?_
      refine al_pure rfl rfl rfl (pure_concat rfl rfl gU gU (by (try simp only [List.length_append, List.length_singleton]); omega)) ?_
      refine al_pure rfl rfl rfl (pure_assign rfl gU) ?_
      refine al_nil ?_
      refine awp_sub (s := { t := [(0, _, _), (1, _, _), (5, _, _), (7, _, _), (8, _, _)], bx := [((.l 5), _)], ow := [] }) (sub_mk (⟨sx rfl, ⟨sx rfl, ⟨sx rfl, ⟨sx rfl, ⟨sx rfl, trivial⟩⟩⟩⟩⟩) (⟨sx rfl, trivial⟩) trivial) ?_
      refine awp_region ?_
      refine al_pure rfl rfl rfl (pure_move rfl gU) ?_
      refine al_pure rfl rfl rfl (pure_arith rfl rfl gU gU rfl (IntWalk.i64_in _ (by omega))) ?_
      refine al_pure rfl rfl rfl (pure_assign rfl gU) ?_
      refine al_nil ?_
      refine ⟨k + 1, ?_, ?_, sub_mk (⟨⟨_, rfl, ?_⟩, ⟨⟨_, rfl, ?_⟩, ⟨sx rfl, ⟨sx rfl, ⟨sx rfl, trivial⟩⟩⟩⟩⟩) (⟨sx rfl, trivial⟩) trivial⟩
      all_goals (first | omega | rfl | (refine tx (congrArg xs ?_); rw [hT]; unfold encF; simp only [*, if_true, if_false, List.append_assoc, List.singleton_append] <;> rfl))
    · try simp only [nn, Fd.rows_len, Fm.rows_len, V.rows_len] at hc1
      refine awp_seq (awp_region ?_)
      refine al_pure rfl rfl rfl (pure_cmp rfl rfl gU gU rfl) ?_
      refine al_pure rfl rfl rfl (pure_assign rfl gU) ?_
      refine al_nil ?_
      refine awp_sub (s := { t := [(0, _, _), (1, _, _), (5, _, _), (7, _, _), (8, _, _), (9, _, _), (10, _, _), (33, _, _), (44, _, _)], bx := [((.l 10), _), ((.l 5), _), ((.l 9), _)], ow := [] }) (sub_mk (⟨sx rfl, ⟨sx rfl, ⟨sx rfl, ⟨sx rfl, ⟨sx rfl, ⟨sx rfl, ⟨sx rfl, ⟨sx rfl, ⟨sx rfl, trivial⟩⟩⟩⟩⟩⟩⟩⟩⟩) (⟨sx rfl, ⟨sx rfl, ⟨sx rfl, trivial⟩⟩⟩) trivial) ?_
      refine awp_cond rfl (fun hc2 => ?_) (fun hc2 => ?_)
      · try simp only [nn, Fd.rows_len, Fm.rows_len, V.rows_len] at hc2
        refine awp_region ?_
        refine al_pure rfl rfl rfl (pure_move rfl gU) ?_
        refine al_pure rfl rfl rfl (pure_fieldPtr rfl gU rfl rfl) ?_
        refine al_pure rfl rfl rfl (pure_loadBox rfl gU rfl rfl rfl rfl) ?_
        refine al_lenS rfl rfl rfl rfl rfl gU (Try.underlying9) ?_ (fun hh => by simp at hh); intro hlen
        refine al_pure rfl rfl rfl (pure_convInt rfl gU ⟨_, Try.underlying3⟩ (Try.underlying5) (IntWalk.u8_in _ (by omega))) ?_
        refine al_buildSlice (xs := [_]) rfl rfl rfl rfl rfl rfl rfl rfl rfl gU rfl ?_
        refine al_pure rfl rfl rfl (pure_bytesStr (l := [UInt8.ofNat (v.kids.getD k default).bytes.length]) rfl (by exact byte1 (by omega) (by omega)) gU Try.underlying48 Try.underlying5 Try.underlying9) ?_
        refine al_pure rfl rfl rfl (pure_concat rfl rfl gU gU (by (try simp only [List.length_append, List.length_singleton]); omega)) ?_
        refine al_pure rfl rfl rfl (pure_fieldPtr rfl gU rfl rfl) ?_
        refine al_pure rfl rfl rfl (pure_loadBox rfl gU rfl rfl rfl rfl) ?_
        refine al_pure rfl rfl rfl (pure_concat rfl rfl gU gU (by (try simp only [List.length_append, List.length_singleton]); omega)) ?_
        refine al_pure rfl rfl rfl (pure_assign rfl gU) ?_
        refine al_nil ?_
        refine awp_sub (s := { t := [(0, _, _), (1, _, _), (5, _, _), (7, _, _), (8, _, _)], bx := [((.l 5), _)], ow := [] }) (sub_mk (⟨sx rfl, ⟨sx rfl, ⟨sx rfl, ⟨sx rfl, ⟨sx rfl, trivial⟩⟩⟩⟩⟩) (⟨sx rfl, trivial⟩) trivial) ?_
        refine awp_region ?_
        refine al_pure rfl rfl rfl (pure_move rfl gU) ?_
        refine al_pure rfl rfl rfl (pure_arith rfl rfl gU gU rfl (IntWalk.i64_in _ (by omega))) ?_
        refine al_pure rfl rfl rfl (pure_assign rfl gU) ?_
        refine al_nil ?_
        refine ⟨k + 1, ?_, ?_, sub_mk (⟨⟨_, rfl, ?_⟩, ⟨⟨_, rfl, ?_⟩, ⟨sx rfl, ⟨sx rfl, ⟨sx rfl, trivial⟩⟩⟩⟩⟩) (⟨sx rfl, trivial⟩) trivial⟩
        all_goals (first | omega | rfl | (refine tx (congrArg xs ?_); rw [hT]; unfold encF; simp only [*, if_true, if_false, List.append_assoc, List.singleton_append] <;> rfl))
      · try simp only [nn, Fd.rows_len, Fm.rows_len, V.rows_len] at hc2
        refine awp_seq (awp_region ?_)
        refine al_pure rfl rfl rfl (pure_cmp rfl rfl gU gU rfl) ?_
        refine al_pure rfl rfl rfl (pure_assign rfl gU) ?_
        refine al_nil ?_
        refine awp_cond rfl (fun hc3 => ?_) (fun hc3 => ?_)
        · try simp only [nn, Fd.rows_len, Fm.rows_len, V.rows_len] at hc3
          refine awp_region ?_
          refine al_pure rfl rfl rfl (pure_move rfl gU) ?_
          refine al_pure rfl rfl rfl (pure_fieldPtr rfl gU rfl rfl) ?_
          refine al_pure rfl rfl rfl (pure_loadBox rfl gU rfl rfl rfl rfl) ?_
          refine al_pure rfl rfl rfl (pure_convInt rfl gU ⟨_, Try.underlying3⟩ (Try.underlying5) (IntWalk.u8_in _ (by omega))) ?_
          refine al_buildSlice (xs := [_]) rfl rfl rfl rfl rfl rfl rfl rfl rfl gU rfl ?_
          refine al_pure rfl rfl rfl (pure_bytesStr (l := [UInt8.ofNat (v.kids.getD k default).number.toNat]) rfl (by exact byte1 (by omega) (by omega)) gU Try.underlying48 Try.underlying5 Try.underlying9) ?_
          refine al_pure rfl rfl rfl (pure_concat rfl rfl gU gU (by (try simp only [List.length_append, List.length_singleton]); omega)) ?_
          refine al_pure rfl rfl rfl (pure_assign rfl gU) ?_
          refine al_nil ?_
          refine awp_sub (s := { t := [(0, _, _), (1, _, _), (5, _, _), (7, _, _), (8, _, _)], bx := [((.l 5), _)], ow := [] }) (sub_mk (⟨sx rfl, ⟨sx rfl, ⟨sx rfl, ⟨sx rfl, ⟨sx rfl, trivial⟩⟩⟩⟩⟩) (⟨sx rfl, trivial⟩) trivial) ?_
          refine awp_region ?_
          refine al_pure rfl rfl rfl (pure_move rfl gU) ?_
          refine al_pure rfl rfl rfl (pure_arith rfl rfl gU gU rfl (IntWalk.i64_in _ (by omega))) ?_
          refine al_pure rfl rfl rfl (pure_assign rfl gU) ?_
          refine al_nil ?_
          refine ⟨k + 1, ?_, ?_, sub_mk (⟨⟨_, rfl, ?_⟩, ⟨⟨_, rfl, ?_⟩, ⟨sx rfl, ⟨sx rfl, ⟨sx rfl, trivial⟩⟩⟩⟩⟩) (⟨sx rfl, trivial⟩) trivial⟩
          all_goals (first | omega | rfl | (refine tx (congrArg xs ?_); rw [hT]; unfold encF; simp only [*, if_true, if_false, List.append_assoc, List.singleton_append] <;> rfl))
        · try simp only [nn, Fd.rows_len, Fm.rows_len, V.rows_len] at hc3
          refine awp_seq (awp_region ?_)
          refine al_pure rfl rfl rfl (pure_cmp rfl rfl gU gU rfl) ?_
          refine al_pure rfl rfl rfl (pure_assign rfl gU) ?_
          refine al_nil ?_
          refine awp_cond rfl (fun hc4 => ?_) (fun hc4 => ?_)
          · try simp only [nn, Fd.rows_len, Fm.rows_len, V.rows_len] at hc4
            refine awp_seq (awp_region ?_)
            refine al_pure rfl rfl rfl (pure_move rfl gU) ?_
            refine al_pure rfl rfl rfl (pure_fieldPtr rfl gU rfl rfl) ?_
            refine al_pure rfl rfl rfl (pure_loadBox rfl gU rfl rfl rfl rfl) ?_
            refine al_pure rfl rfl rfl (pure_loadBoxRow rfl gU rfl rfl rfl rfl rfl) ?_
            refine al_call rfl rfl rfl rfl rfl rfl gU gU (hrec k (by omega) (by assumption)) rfl ?_
            refine al_pure rfl rfl rfl (pure_assign rfl gU) ?_
            refine al_nil ?_
            refine awp_sub (s := { t := [(0, _, _), (1, _, _), (5, _, _), (7, _, _), (8, _, _), (11, _, _)], bx := [((.l 5), _)], ow := [] }) (sub_mk (⟨sx rfl, ⟨sx rfl, ⟨sx rfl, ⟨sx rfl, ⟨sx rfl, ⟨sx rfl, trivial⟩⟩⟩⟩⟩⟩) (⟨sx rfl, trivial⟩) trivial) ?_
            refine awp_region ?_
            refine al_pure rfl rfl rfl (pure_move rfl gU) ?_
            refine al_pure rfl rfl rfl (pure_move rfl gU) ?_
            refine al_lenS rfl rfl rfl rfl rfl gU (Try.underlying9) ?_ (fun hh => by simp at hh); intro hlen
            refine al_pure rfl rfl rfl (pure_convInt rfl gU ⟨_, Try.underlying3⟩ (Try.underlying5) (IntWalk.u8_in _ (by omega))) ?_
            refine al_buildSlice (xs := [_]) rfl rfl rfl rfl rfl rfl rfl rfl rfl gU rfl ?_
            refine al_pure rfl rfl rfl (pure_bytesStr (l := [UInt8.ofNat (rec ((t.getD i.toNat default).fields.getD k default).n (v.kids.getD k default)).length]) rfl (by exact byte1 (by omega) (by omega)) gU Try.underlying48 Try.underlying5 Try.underlying9) ?_
            refine al_pure rfl rfl rfl (pure_concat rfl rfl gU gU (by (try simp only [List.length_append, List.length_singleton]); omega)) ?_
            refine al_pure rfl rfl rfl (pure_move rfl gU) ?_
            refine al_pure rfl rfl rfl (pure_concat rfl rfl gU gU (by (try simp only [List.length_append, List.length_singleton]); omega)) ?_
            refine al_pure rfl rfl rfl (pure_assign rfl gU) ?_
            refine al_nil ?_
            refine awp_sub (s := { t := [(0, _, _), (1, _, _), (5, _, _), (7, _, _), (8, _, _)], bx := [((.l 5), _)], ow := [] }) (sub_mk (⟨sx rfl, ⟨sx rfl, ⟨sx rfl, ⟨sx rfl, ⟨sx rfl, trivial⟩⟩⟩⟩⟩) (⟨sx rfl, trivial⟩) trivial) ?_
            refine awp_region ?_
            refine al_pure rfl rfl rfl (pure_move rfl gU) ?_
            refine al_pure rfl rfl rfl (pure_arith rfl rfl gU gU rfl (IntWalk.i64_in _ (by omega))) ?_
            refine al_pure rfl rfl rfl (pure_assign rfl gU) ?_
            refine al_nil ?_
            refine ⟨k + 1, ?_, ?_, sub_mk (⟨⟨_, rfl, ?_⟩, ⟨⟨_, rfl, ?_⟩, ⟨sx rfl, ⟨sx rfl, ⟨sx rfl, trivial⟩⟩⟩⟩⟩) (⟨sx rfl, trivial⟩) trivial⟩
            all_goals (first | omega | rfl | (refine tx (congrArg xs ?_); rw [hT]; unfold encF; simp only [*, if_true, if_false, List.append_assoc, List.singleton_append] <;> rfl))
          · try simp only [nn, Fd.rows_len, Fm.rows_len, V.rows_len] at hc4
            refine awp_region ?_
            refine al_pure rfl rfl rfl (pure_move rfl gU) ?_
            refine al_pure rfl rfl rfl (pure_fieldPtr rfl gU rfl rfl) ?_
            refine al_pure rfl rfl rfl (pure_loadBox rfl gU rfl rfl rfl rfl) ?_
            refine al_pure rfl rfl rfl (pure_concat rfl rfl gU gU (by (try simp only [List.length_append, List.length_singleton]); omega)) ?_
            refine al_pure rfl rfl rfl (pure_assign rfl gU) ?_
            refine al_nil ?_
            refine awp_sub (s := { t := [(0, _, _), (1, _, _), (5, _, _), (7, _, _), (8, _, _)], bx := [((.l 5), _)], ow := [] }) (sub_mk (⟨sx rfl, ⟨sx rfl, ⟨sx rfl, ⟨sx rfl, ⟨sx rfl, trivial⟩⟩⟩⟩⟩) (⟨sx rfl, trivial⟩) trivial) ?_
            refine awp_region ?_
            refine al_pure rfl rfl rfl (pure_move rfl gU) ?_
            refine al_pure rfl rfl rfl (pure_arith rfl rfl gU gU rfl (IntWalk.i64_in _ (by omega))) ?_
            refine al_pure rfl rfl rfl (pure_assign rfl gU) ?_
            refine al_nil ?_
            refine ⟨k + 1, ?_, ?_, sub_mk (⟨⟨_, rfl, ?_⟩, ⟨⟨_, rfl, ?_⟩, ⟨sx rfl, ⟨sx rfl, ⟨sx rfl, trivial⟩⟩⟩⟩⟩) (⟨sx rfl, trivial⟩) trivial⟩
            all_goals (first | omega | rfl | (refine tx (congrArg xs ?_); rw [hT]; unfold encF; simp only [*, if_true, if_false, List.append_assoc, List.singleton_append] <;> rfl))
  · try simp only [nn, Fd.rows_len, Fm.rows_len, V.rows_len] at hc
    refine awp_exit ?_
    repeat (first | refine thenS_exit ?_ | refine blockS_hit ?_ | refine blockS_miss rfl ?_)
    refine awp_seq (awp_region ?_)
    refine al_pure rfl rfl rfl (pure_move rfl gU) ?_
    refine al_pure rfl rfl rfl (pure_assign rfl gU) ?_
    refine al_nil ?_
    refine awp_ret ?_
    repeat (first | refine tR ?_ | refine bR ?_)
    refine ret_ok rfl ?_ trivial
    have : k = (t.getD i.toNat default).fields.length := by omega
    rw [this, List.take_length, ← hkl, List.take_length]
    rfl
theorem text_spec (t : List Fm) (i : Int) (v : V) (hi : 0 ≤ i ∧ i < t.length) (hf : Fds t (t.getD i.toNat default).fields) (hv : valT t i v = 0) :
    Ctr sys 36 [xtab t, xi i, xv v] [] (xs (encT t i v)) none [] := by
  have hk := valG_ok hv
  refine text_gen t i v (enc0 t) hi hf.len.2 hk.2.2.1 hf.ok (vok_fds hf hv) (fun k hk' h5 => by have := enc0_len (hf.nest k hk' h5).2 (fvE_five h5 (hk.2.2.2 k hk')); omega) fun k hk' h5 => ?_
  obtain ⟨q1, q2⟩ := hf.nest k hk' h5
  have q3 := (hf.ok k hk').n
  have q4 : val0 t ((t.getD i.toNat default).fields.getD k default).n (v.kids.getD k default) = 0 := fvE_five h5 (hk.2.2.2 k hk')
  exact text_gen t _ _ (fun _ _ => []) (by omega) q2.len.2 (valG_ok q4).2.2.1 (fun j hj => (q2.ok j hj).1) (vok_plain q2 q4) (fun j hj h6 => absurd h6 (q2.ok j hj).2.1) fun j hj h6 => absurd h6 (q2.ok j hj).2.1
abbrev xse (p : List UInt8 × Int) : X := .tup [.c (.s p.1), .c (.i .i64 p.2)]
theorem valE_zero {t : List Fm} {i : Int} {v : V} (h : valE t i v = 0) : ((0 ≤ i ∧ i < t.length) ∧ Fds t (t.getD i.toNat default).fields) ∧ valT t i v = 0 := by
  unfold valE at h
  split at h
  · rename_i h1; exact absurd h h1
  · rename_i h1; exact ⟨errE_fds (Decidable.not_not.1 h1), h⟩
theorem cEncode_spec (t : List Fm) (i : Int) (v : V) : Ctr sys 13 [xtab t, xi i, xv v] [] (xse (encE t i v)) none [] := by
  refine spec_intro Try.func13 rfl rfl rfl rfl rfl rfl ?_
  refine awp_seq (awp_region ?_)
  refine al_do rfl (does_box rfl rfl rfl rfl) ?_
  refine al_pure rfl rfl rfl (pure_assign rfl gU) ?_
  refine al_pure rfl rfl rfl (pure_assign rfl gU) ?_
  refine al_nil ?_
  refine awp_seq ?_
  refine awp_seq (awp_region ?_)
  refine al_pure rfl rfl rfl (pure_move rfl gU) ?_
  refine al_pure rfl rfl rfl (pure_move rfl gU) ?_
  refine al_pure rfl rfl rfl (pure_loadBoxRow rfl gU rfl rfl rfl rfl rfl) ?_
  refine al_call rfl rfl rfl rfl rfl rfl gU gU (cValid_spec _ _ _) rfl ?_
  refine al_pure rfl rfl rfl (pure_assign rfl gU) ?_
  refine al_nil ?_
  refine awp_sub (s := { t := [(0, _, _), (1, _, _), (5, _, _), (8, _, _)], bx := [((.l 5), _)], ow := [] }) (sub_mk (⟨sx rfl, ⟨sx rfl, ⟨sx rfl, ⟨sx rfl, trivial⟩⟩⟩⟩) (⟨sx rfl, trivial⟩) trivial) ?_
  refine awp_seq (awp_region ?_)
  refine al_pure rfl rfl rfl (pure_move rfl gU) ?_
  refine al_pure rfl rfl rfl (pure_cmp rfl rfl gU gU rfl) ?_
  refine al_nil ?_
  refine awp_cond rfl (fun hc => ?_) (fun hc => ?_)
  · try simp only [nn, Fd.rows_len, Fm.rows_len, V.rows_len] at hc
    refine awp_seq (awp_region ?_)
    refine al_pure rfl rfl rfl (pure_move rfl gU) ?_
    refine al_pure rfl rfl rfl (pure_assign rfl gU) ?_
    refine al_pure rfl rfl rfl (pure_assign rfl gU) ?_
    refine al_nil ?_
    refine awp_ret ?_
    repeat (first | refine tR ?_ | refine bR ?_)
    refine ret_ok rfl ?_ trivial
    (rw [encE, if_pos hc]; rfl)
  · try simp only [nn, Fd.rows_len, Fm.rows_len, V.rows_len] at hc
    have he : valE t i v = 0 := hc
    refine awp_skip ?_
    refine awp_seq (awp_region ?_)
    refine al_pure rfl rfl rfl (pure_move rfl gU) ?_
    refine al_pure rfl rfl rfl (pure_move rfl gU) ?_
    refine al_pure rfl rfl rfl (pure_loadBoxRow rfl gU rfl rfl rfl rfl rfl) ?_
    refine al_call rfl rfl rfl rfl rfl rfl gU gU (encode_spec _ _ _ (valE_zero he).1.1 (valE_zero he).1.2 (valE_zero he).2) rfl ?_
    refine al_pure rfl rfl rfl (pure_assign rfl gU) ?_
    refine al_pure rfl rfl rfl (pure_assign rfl gU) ?_
    refine al_nil ?_
    refine awp_ret ?_
    repeat (first | refine tR ?_ | refine bR ?_)
    refine ret_ok rfl ?_ trivial
    (rw [encE, if_neg (by omega)]; rfl)
theorem rEncode_spec (t : List Fm) (i : Int) (v : V) : Ctr sys 14 [xtab t, xi i, xv v] [] (xse (encE t i v)) none [] := by
  refine spec_intro Try.func14 rfl rfl rfl rfl rfl rfl ?_
  refine awp_seq (awp_region ?_)
  refine al_do rfl (does_box rfl rfl rfl rfl) ?_
  refine al_pure rfl rfl rfl (pure_assign rfl gU) ?_
  refine al_pure rfl rfl rfl (pure_assign rfl gU) ?_
  refine al_nil ?_
  refine awp_seq ?_
  refine awp_seq (awp_region ?_)
  refine al_pure rfl rfl rfl (pure_move rfl gU) ?_
  refine al_pure rfl rfl rfl (pure_move rfl gU) ?_
  refine al_pure rfl rfl rfl (pure_loadBoxRow rfl gU rfl rfl rfl rfl rfl) ?_
  refine al_call rfl rfl rfl rfl rfl rfl gU gU (rVal_spec _ _ _) rfl ?_
  refine al_pure rfl rfl rfl (pure_assign rfl gU) ?_
  refine al_nil ?_
  refine awp_sub (s := { t := [(0, _, _), (1, _, _), (5, _, _), (8, _, _)], bx := [((.l 5), _)], ow := [] }) (sub_mk (⟨sx rfl, ⟨sx rfl, ⟨sx rfl, ⟨sx rfl, trivial⟩⟩⟩⟩) (⟨sx rfl, trivial⟩) trivial) ?_
  refine awp_seq (awp_region ?_)
  refine al_pure rfl rfl rfl (pure_move rfl gU) ?_
  refine al_pure rfl rfl rfl (pure_cmp rfl rfl gU gU rfl) ?_
  refine al_nil ?_
  refine awp_cond rfl (fun hc => ?_) (fun hc => ?_)
  · try simp only [nn, Fd.rows_len, Fm.rows_len, V.rows_len] at hc
    refine awp_seq (awp_region ?_)
    refine al_pure rfl rfl rfl (pure_move rfl gU) ?_
    refine al_pure rfl rfl rfl (pure_assign rfl gU) ?_
    refine al_pure rfl rfl rfl (pure_assign rfl gU) ?_
    refine al_nil ?_
    refine awp_ret ?_
    repeat (first | refine tR ?_ | refine bR ?_)
    refine ret_ok rfl ?_ trivial
    (rw [encE, if_pos hc]; rfl)
  · try simp only [nn, Fd.rows_len, Fm.rows_len, V.rows_len] at hc
    have he : valE t i v = 0 := hc
    refine awp_skip ?_
    refine awp_seq (awp_region ?_)
    refine al_pure rfl rfl rfl (pure_move rfl gU) ?_
    refine al_pure rfl rfl rfl (pure_move rfl gU) ?_
    refine al_pure rfl rfl rfl (pure_loadBoxRow rfl gU rfl rfl rfl rfl rfl) ?_
    refine al_call rfl rfl rfl rfl rfl rfl gU gU (text_spec _ _ _ (valE_zero he).1.1 (valE_zero he).1.2 (valE_zero he).2) rfl ?_
    refine al_pure rfl rfl rfl (pure_assign rfl gU) ?_
    refine al_pure rfl rfl rfl (pure_assign rfl gU) ?_
    refine al_nil ?_
    refine awp_ret ?_
    repeat (first | refine tR ?_ | refine bR ?_)
    refine ret_ok rfl ?_ trivial
    (rw [encE, if_neg (by omega)]; rfl)
end Go.Proofs.Ytgjclggjkhapfaa
/- Contracts: Same, Few, few. -/
set_option linter.unusedVariables false
set_option linter.unusedSimpArgs false
namespace Go.Proofs.Ytgjclggjkhapfaa
open Go Go.Abs
noncomputable def sameB (a b : V) : Bool := @decide (a = b) (Classical.propDecidable _)
theorem sameB_eq (a : V) : sameB a a = true := by unfold sameB; exact @decide_eq_true _ (Classical.propDecidable _) rfl
theorem sameB_true {a b : V} (h : a = b) : sameB a b = true := by subst h; exact sameB_eq a
theorem sameB_false {a b : V} (h : a ≠ b) : sameB a b = false := by unfold sameB; exact @decide_eq_false _ (Classical.propDecidable _) h
theorem sameB_iff {a b : V} : sameB a b = true ↔ a = b := by
  constructor
  · intro h
    by_cases e : a = b
    · exact e
    · rw [sameB_false e] at h; simp at h
  · exact sameB_true
theorem V.ext' {a b : V} (h1 : a.bytes = b.bytes) (h2 : a.number = b.number) (h3 : a.kids = b.kids) : a = b := by
  cases a; cases b; simp_all [V.bytes, V.number, V.kids]
theorem Same_spec : ∀ (n : Nat) (a b : V), a.size ≤ n → Ctr sys 18 [xv a, xv b] [] (xb (sameB a b)) none [] := by
  intro n
  induction n with
  | zero => intro a b h; have := a.size_pos; omega
  | succ n ih =>
    intro a b h
    have hra := V.rows_len a.kids
    have hrb := V.rows_len b.kids
    refine spec_intro Try.func18 rfl rfl rfl rfl rfl rfl ?_
    refine awp_seq (awp_region ?_)
    refine al_do rfl (does_box rfl rfl rfl rfl) ?_
    refine al_do rfl (does_box rfl rfl rfl rfl) ?_
    refine al_pure rfl rfl rfl (pure_assign rfl gU) ?_
    refine al_nil ?_
    refine awp_seq ?_
    refine awp_seq (awp_region ?_)
    refine al_pure rfl rfl rfl (pure_fieldPtr rfl gU rfl rfl) ?_
    refine al_pure rfl rfl rfl (pure_loadBox rfl gU rfl rfl rfl rfl) ?_
    refine al_pure rfl rfl rfl (pure_fieldPtr rfl gU rfl rfl) ?_
    refine al_pure rfl rfl rfl (pure_loadBox rfl gU rfl rfl rfl rfl) ?_
    refine al_pure rfl rfl rfl (pure_cmpS rfl rfl gU gU rfl) ?_
    refine al_pure rfl rfl rfl (pure_move rfl gU) ?_
    refine al_pure rfl rfl rfl (pure_fieldPtr rfl gU rfl rfl) ?_
    refine al_pure rfl rfl rfl (pure_loadBox rfl (fun hh => hh) rfl rfl rfl rfl) ?_
    refine al_pure rfl rfl rfl (pure_fieldPtr rfl gU rfl rfl) ?_
    refine al_sub (s := { t := [(2, _, _), (3, _, _), (11, _, _), (13, _, _), (14, _, _)], bx := [((.l 2), _), ((.l 3), _)], ow := [] }) (sub_mk (⟨sx rfl, ⟨sx rfl, ⟨sx rfl, ⟨sx rfl, ⟨sx rfl, trivial⟩⟩⟩⟩⟩) (⟨sx rfl, ⟨sx rfl, trivial⟩⟩) trivial) ?_
    refine al_pure rfl rfl rfl (pure_loadBox rfl (fun hh => hh) rfl rfl rfl rfl) ?_
    refine al_pure rfl rfl rfl (pure_cmp rfl rfl (fun hh => hh) (fun hh => hh) rfl) ?_
    refine al_pure rfl rfl rfl (pure_or rfl rfl gU (fun _ hi => gP rfl hi)) ?_
    refine al_pure rfl rfl rfl (pure_move rfl gU) ?_
    refine al_pure rfl rfl rfl (pure_fieldPtr rfl gU rfl rfl) ?_
    refine al_pure rfl rfl rfl (pure_loadBox rfl (fun hh => hh) rfl rfl rfl rfl) ?_
    refine al_pure rfl rfl rfl (pure_lenSl rfl (fun hh => hh) rfl rfl) ?_
    refine al_pure rfl rfl rfl (pure_fieldPtr rfl gU rfl rfl) ?_
    refine al_pure rfl rfl rfl (pure_loadBox rfl (fun hh => hh) rfl rfl rfl rfl) ?_
    refine al_pure rfl rfl rfl (pure_lenSl rfl (fun hh => hh) rfl rfl) ?_
    refine al_pure rfl rfl rfl (pure_cmp rfl rfl (fun hh => hh) (fun hh => hh) rfl) ?_
    refine al_pure rfl rfl rfl (pure_or rfl rfl gU (fun _ hi => gP rfl hi)) ?_
    refine al_nil ?_
    refine awp_sub (s := { t := [(2, _, _), (3, _, _), (26, _, _)], bx := [((.l 2), _), ((.l 3), _)], ow := [] }) (sub_mk (⟨sx rfl, ⟨sx rfl, ⟨sx rfl, trivial⟩⟩⟩) (⟨sx rfl, ⟨sx rfl, trivial⟩⟩) trivial) ?_
    refine awp_cond rfl (fun hc => ?_) (fun hc => ?_)
    · try simp only [nn, Fd.rows_len, Fm.rows_len, V.rows_len] at hc
      have hne : a ≠ b := by
        intro e; subst e
        rcases hc with (h1 | h1) | h1
        · exact h1 rfl
        · exact h1 rfl
        · exact h1 rfl
      refine awp_seq (awp_region ?_)
      refine al_pure rfl rfl rfl (pure_assign rfl gU) ?_
      refine al_nil ?_
      refine awp_ret ?_
      repeat (first | refine tR ?_ | refine bR ?_)
      refine ret_ok rfl ?_ trivial
      exact xb_eq (sameB_false hne).symm
    · try simp only [nn, Fd.rows_len, Fm.rows_len, V.rows_len] at hc
      have hl : a.kids.length = b.kids.length := by omega
      refine awp_skip ?_
      refine awp_seq ?_
      refine awp_seq (awp_region ?_)
      refine al_pure rfl rfl rfl (pure_assign rfl gU) ?_
      refine al_nil ?_
      refine awp_block ?_
      refine awp_for (ι := Nat) { t := [(2, _, _), (3, _, _)], bx := [((.l 2), _), ((.l 3), _)], ow := [] } (fun k => [(5, true, xi (k : Int))]) (fun k => []) (fun k => k ≤ a.kids.length ∧ ∀ j, j < k → a.kids.getD j default = b.kids.getD j default) (fun k => a.kids.length - k) (0) (⟨by omega, fun j hj => by omega⟩) (sub_mk (⟨sx rfl, ⟨sx rfl, ⟨sx rfl, trivial⟩⟩⟩) (⟨sx rfl, ⟨sx rfl, trivial⟩⟩) trivial) ?_
      intro k hok
      dsimp only [List.cons_append, List.nil_append]
      obtain ⟨hk, hinv⟩ := hok
      refine awp_seq ?_
      refine awp_seq (awp_region ?_)
      refine al_pure rfl rfl rfl (pure_move rfl gU) ?_
      refine al_pure rfl rfl rfl (pure_fieldPtr rfl gU rfl rfl) ?_
      refine al_pure rfl rfl rfl (pure_loadBox rfl gU rfl rfl rfl rfl) ?_
      refine al_lenSl rfl rfl rfl rfl rfl gU rfl rfl ?_ (fun hh => by simp at hh); intro hlen
      refine al_pure rfl rfl rfl (pure_cmp rfl rfl gU gU rfl) ?_
      refine al_nil ?_
      refine awp_sub (s := { t := [(2, _, _), (3, _, _), (5, _, _), (31, _, _)], bx := [((.l 2), _), ((.l 3), _)], ow := [] }) (sub_mk (⟨sx rfl, ⟨sx rfl, ⟨sx rfl, ⟨sx rfl, trivial⟩⟩⟩⟩) (⟨sx rfl, ⟨sx rfl, trivial⟩⟩) trivial) ?_
      refine awp_cond rfl (fun hca => ?_) (fun hca => ?_)
      · try simp only [nn, Fd.rows_len, Fm.rows_len, V.rows_len] at hca
        refine awp_skip ?_
        refine awp_seq ?_
        refine awp_block ?_
        refine awp_seq ?_
        refine awp_drawn' (by kernel_rfl) ?_
        refine dr_pure rfl rfl rfl rfl (pure_fieldPtr rfl gU rfl rfl) ?_
        refine dr_load rfl rfl rfl rfl rfl rfl rfl gU rfl rfl rfl rfl ?_
        refine dr_pure rfl rfl rfl rfl (pure_move rfl gU) ?_
        refine dr_pure rfl rfl rfl rfl (pure_indexAddr rfl rfl gU gU rfl rfl rfl (fun hh => V.rows_at (by first | omega | (simp at hh; omega)))) ?_
        refine dr_pure rfl rfl rfl rfl (pure_loadRoRow rfl gU rfl rfl rfl rfl) ?_
        refine dr_pure rfl rfl rfl rfl (pure_fieldPtr rfl gU rfl rfl) ?_
        refine dr_load rfl rfl rfl rfl rfl rfl rfl gU rfl rfl rfl rfl ?_
        refine dr_pure rfl rfl rfl rfl (pure_move rfl gU) ?_
        refine dr_pure rfl rfl rfl rfl (pure_indexAddr rfl rfl gU gU rfl rfl rfl (fun hh => V.rows_at (by first | omega | (simp at hh; omega)))) ?_
        refine dr_pure rfl rfl rfl rfl (pure_loadRoRow rfl gU rfl rfl rfl rfl) ?_
        refine dr_callN rfl rfl rfl rfl rfl rfl rfl gU gU (ih _ _ (by have := V.size_kid (v := a) (k := k) (by omega); omega)) rfl ?_
        refine dr_pure rfl rfl rfl rfl (pure_not rfl gU) ?_
        refine dr_nil (by kernel_rfl) ?_
        refine awp_sub (s := { t := [(2, _, _), (3, _, _), (5, _, _), (45, _, _)], bx := [((.l 2), _), ((.l 3), _)], ow := [] }) (sub_mk (⟨sx rfl, ⟨sx rfl, ⟨sx rfl, ⟨sx rfl, trivial⟩⟩⟩⟩) (⟨sx rfl, ⟨sx rfl, trivial⟩⟩) trivial) ?_
        refine awp_cond rfl (fun hcb => ?_) (fun hcb => ?_)
        · try simp only [nn, Fd.rows_len, Fm.rows_len, V.rows_len] at hcb
          have hne : a ≠ b := by
            intro e; subst e
            rw [sameB_eq] at hcb; simp at hcb
          refine awp_seq (awp_region ?_)
          refine al_pure rfl rfl rfl (pure_assign rfl gU) ?_
          refine al_nil ?_
          refine awp_ret ?_
          repeat (first | refine tR ?_ | refine bR ?_)
          refine ret_ok rfl ?_ trivial
          exact xb_eq (sameB_false hne).symm
        · try simp only [nn, Fd.rows_len, Fm.rows_len, V.rows_len] at hcb
          have hkk := sameB_iff.1 hcb
          refine awp_skip ?_
          refine awp_region ?_
          refine al_pure rfl rfl rfl (pure_move rfl gU) ?_
          refine al_pure rfl rfl rfl (pure_arith rfl rfl gU gU rfl (IntWalk.i64_in _ (by omega))) ?_
          refine al_pure rfl rfl rfl (pure_assign rfl gU) ?_
          refine al_nil ?_
          refine ⟨k + 1, ?_, ?_, sub_mk (⟨⟨_, rfl, ?_⟩, ⟨sx rfl, ⟨sx rfl, trivial⟩⟩⟩) (⟨sx rfl, ⟨sx rfl, trivial⟩⟩) trivial⟩
          · refine ⟨by omega, fun j hj => ?_⟩
            by_cases e : j = k
            · subst e; exact hkk
            · exact hinv j (by omega)
          · omega
          · rfl
      · try simp only [nn, Fd.rows_len, Fm.rows_len, V.rows_len] at hca
        have he : a = b := by
          refine V.ext' hc.1.1 hc.1.2 (List.ext_getElem? fun j => ?_)
          by_cases hj : j < a.kids.length
          · have := hinv j (by omega)
            rw [List.getD_eq_getElem?_getD, List.getD_eq_getElem?_getD, List.getElem?_eq_getElem hj, List.getElem?_eq_getElem (by omega)] at this
            rw [List.getElem?_eq_getElem hj, List.getElem?_eq_getElem (by omega)]
            exact congrArg some this
          · rw [List.getElem?_eq_none (by omega), List.getElem?_eq_none (by omega)]
        refine awp_exit ?_
        repeat (first | refine thenS_exit ?_ | refine blockS_hit ?_ | refine blockS_miss rfl ?_)
        refine awp_seq (awp_region ?_)
        refine al_pure rfl rfl rfl (pure_assign rfl gU) ?_
        refine al_nil ?_
        refine awp_ret ?_
        repeat (first | refine tR ?_ | refine bR ?_)
        refine ret_ok rfl ?_ trivial
        exact xb_eq (sameB_true he).symm
def fewV : Nat → V → Bool
  | 0, _ => false
  | n + 1, v => decide (v.kids.length ≤ 10) && decide (v.bytes.length ≤ 1100) && v.kids.all (fewV n)
theorem fewV_spec : ∀ (n : Nat) (v : V) (ni : Int), ni = n → n ≤ 100 → Ctr sys 12 [xv v, xi ni] [] (xb (fewV n v)) none [] := by
  intro n
  induction n with
  | zero =>
    intro v ni hn _
    subst hn
    refine spec_intro Try.func12 rfl rfl rfl rfl rfl rfl ?_
    refine awp_seq (awp_region ?_)
    refine al_do rfl (does_box rfl rfl rfl rfl) ?_
    refine al_pure rfl rfl rfl (pure_assign rfl gU) ?_
    refine al_nil ?_
    refine awp_seq ?_
    refine awp_seq (awp_region ?_)
    refine al_pure rfl rfl rfl (pure_move rfl gU) ?_
    refine al_pure rfl rfl rfl (pure_cmp rfl rfl gU gU rfl) ?_
    refine al_pure rfl rfl rfl (pure_move rfl gU) ?_
    refine al_pure rfl rfl rfl (pure_fieldPtr rfl gU rfl rfl) ?_
    refine al_pure rfl rfl rfl (pure_loadBox rfl (fun hh => hh) rfl rfl rfl rfl) ?_
    refine al_pure rfl rfl rfl (pure_lenSl rfl (fun hh => hh) rfl rfl) ?_
    refine al_pure rfl rfl rfl (pure_cmp rfl rfl (fun hh => hh) gU rfl) ?_
    refine al_pure rfl rfl rfl (pure_or rfl rfl gU (fun _ hi => gP rfl hi)) ?_
    refine al_pure rfl rfl rfl (pure_move rfl gU) ?_
    refine al_pure rfl rfl rfl (pure_fieldPtr rfl gU rfl rfl) ?_
    refine al_sub (s := { t := [(1, _, _), (2, _, _), (14, _, _), (15, _, _)], bx := [((.l 2), _)], ow := [] }) (sub_mk (⟨sx rfl, ⟨sx rfl, ⟨sx rfl, ⟨sx rfl, trivial⟩⟩⟩⟩) (⟨sx rfl, trivial⟩) trivial) ?_
    refine al_pure rfl rfl rfl (pure_loadBox rfl (fun hh => hh) rfl rfl rfl rfl) ?_
    refine al_pure rfl rfl rfl (pure_lenS rfl (fun hh => hh) (Try.underlying9)) ?_
    refine al_pure rfl rfl rfl (pure_cmp rfl rfl (fun hh => hh) gU rfl) ?_
    refine al_pure rfl rfl rfl (pure_or rfl rfl gU (fun _ hi => gP rfl hi)) ?_
    refine al_nil ?_
    refine awp_cond rfl (fun hc => ?_) (fun hc => ?_)
    · refine awp_seq (awp_region ?_)
      refine al_pure rfl rfl rfl (pure_assign rfl gU) ?_
      refine al_nil ?_
      refine awp_ret ?_
      repeat (first | refine tR ?_ | refine bR ?_)
      refine ret_ok rfl ?_ trivial
      rfl
    · try simp only [nn, Fd.rows_len, Fm.rows_len, V.rows_len] at hc
      exfalso; omega
  | succ n ih =>
    intro v ni hn hn2
    subst hn
    have hr := V.rows_len v.kids
    refine spec_intro Try.func12 rfl rfl rfl rfl rfl rfl ?_
    refine awp_seq (awp_region ?_)
    refine al_do rfl (does_box rfl rfl rfl rfl) ?_
    refine al_pure rfl rfl rfl (pure_assign rfl gU) ?_
    refine al_nil ?_
    refine awp_seq ?_
    refine awp_seq (awp_region ?_)
    refine al_pure rfl rfl rfl (pure_move rfl gU) ?_
    refine al_pure rfl rfl rfl (pure_cmp rfl rfl gU gU rfl) ?_
    refine al_pure rfl rfl rfl (pure_move rfl gU) ?_
    refine al_pure rfl rfl rfl (pure_fieldPtr rfl gU rfl rfl) ?_
    refine al_pure rfl rfl rfl (pure_loadBox rfl (fun hh => hh) rfl rfl rfl rfl) ?_
    refine al_pure rfl rfl rfl (pure_lenSl rfl (fun hh => hh) rfl rfl) ?_
    refine al_pure rfl rfl rfl (pure_cmp rfl rfl (fun hh => hh) gU rfl) ?_
    refine al_pure rfl rfl rfl (pure_or rfl rfl gU (fun _ hi => gP rfl hi)) ?_
    refine al_pure rfl rfl rfl (pure_move rfl gU) ?_
    refine al_pure rfl rfl rfl (pure_fieldPtr rfl gU rfl rfl) ?_
    refine al_sub (s := { t := [(1, _, _), (2, _, _), (14, _, _), (15, _, _)], bx := [((.l 2), _)], ow := [] }) (sub_mk (⟨sx rfl, ⟨sx rfl, ⟨sx rfl, ⟨sx rfl, trivial⟩⟩⟩⟩) (⟨sx rfl, trivial⟩) trivial) ?_
    refine al_pure rfl rfl rfl (pure_loadBox rfl (fun hh => hh) rfl rfl rfl rfl) ?_
    refine al_pure rfl rfl rfl (pure_lenS rfl (fun hh => hh) (Try.underlying9)) ?_
    refine al_pure rfl rfl rfl (pure_cmp rfl rfl (fun hh => hh) gU rfl) ?_
    refine al_pure rfl rfl rfl (pure_or rfl rfl gU (fun _ hi => gP rfl hi)) ?_
    refine al_nil ?_
    refine awp_cond rfl (fun hc => ?_) (fun hc => ?_)
    · try simp only [nn, Fd.rows_len, Fm.rows_len, V.rows_len] at hc
      have hd : ¬ v.kids.length ≤ 10 ∨ ¬ v.bytes.length ≤ 1100 := by omega
      have he : fewV (n + 1) v = false := by
        rw [fewV]
        rcases hd with h | h
        · rw [decide_eq_false h]; rfl
        · rw [decide_eq_false h, Bool.and_false]; rfl
      refine awp_seq (awp_region ?_)
      refine al_pure rfl rfl rfl (pure_assign rfl gU) ?_
      refine al_nil ?_
      refine awp_ret ?_
      repeat (first | refine tR ?_ | refine bR ?_)
      refine ret_ok rfl ?_ trivial
      exact xb_eq he.symm
    · try simp only [nn, Fd.rows_len, Fm.rows_len, V.rows_len] at hc
      have he : fewV (n + 1) v = v.kids.all (fewV n) := by
        rw [fewV, decide_eq_true (by omega), decide_eq_true (by omega)]; rfl
      rw [he]
      refine awp_skip ?_
      refine awp_seq ?_
      refine awp_seq (awp_region ?_)
      refine al_pure rfl rfl rfl (pure_assign rfl gU) ?_
      refine al_nil ?_
      refine awp_sub (s := { t := [(1, _, _), (2, _, _), (5, _, _)], bx := [((.l 2), _)], ow := [] }) (sub_mk (⟨sx rfl, ⟨sx rfl, ⟨sx rfl, trivial⟩⟩⟩) (⟨sx rfl, trivial⟩) trivial) ?_
      refine awp_block ?_
      refine awp_for (ι := Nat) { t := [(1, _, _), (2, _, _)], bx := [((.l 2), _)], ow := [] } (fun k => [(5, true, xi (k : Int))]) (fun k => []) (fun k => k ≤ v.kids.length ∧ (v.kids.drop k).all (fewV n) = v.kids.all (fewV n)) (fun k => v.kids.length - k) (0) (by simp) (sub_mk (⟨sx rfl, ⟨sx rfl, ⟨sx rfl, trivial⟩⟩⟩) (⟨sx rfl, trivial⟩) trivial) ?_
      intro k hok
      dsimp only [List.cons_append, List.nil_append]
      obtain ⟨hk, hinv⟩ := hok
      refine awp_seq ?_
      refine awp_seq (awp_region ?_)
      refine al_pure rfl rfl rfl (pure_move rfl gU) ?_
      refine al_pure rfl rfl rfl (pure_fieldPtr rfl gU rfl rfl) ?_
      refine al_pure rfl rfl rfl (pure_loadBox rfl gU rfl rfl rfl rfl) ?_
      refine al_lenSl rfl rfl rfl rfl rfl gU rfl rfl ?_ (fun hh => by simp at hh); intro hlen
      refine al_pure rfl rfl rfl (pure_cmp rfl rfl gU gU rfl) ?_
      refine al_nil ?_
      refine awp_sub (s := { t := [(1, _, _), (2, _, _), (5, _, _), (24, _, _)], bx := [((.l 2), _)], ow := [] }) (sub_mk (⟨sx rfl, ⟨sx rfl, ⟨sx rfl, ⟨sx rfl, trivial⟩⟩⟩⟩) (⟨sx rfl, trivial⟩) trivial) ?_
      refine awp_cond rfl (fun hca => ?_) (fun hca => ?_)
      · try simp only [nn, Fd.rows_len, Fm.rows_len, V.rows_len] at hca
        rw [drop_getD (by omega), List.all_cons] at hinv
        refine awp_skip ?_
        refine awp_seq ?_
        refine awp_block ?_
        refine awp_seq (awp_region ?_)
        refine al_pure rfl rfl rfl (pure_fieldPtr rfl gU rfl rfl) ?_
        refine al_pure rfl rfl rfl (pure_loadBox rfl gU rfl rfl rfl rfl) ?_
        refine al_pure rfl rfl rfl (pure_move rfl gU) ?_
        refine al_pure rfl rfl rfl (pure_indexAddr rfl rfl gU gU rfl rfl rfl (fun hh => V.rows_at (by first | omega | (simp at hh; omega)))) ?_
        refine al_pure rfl rfl rfl (pure_loadRoRow rfl gU rfl rfl rfl rfl) ?_
        refine al_pure rfl rfl rfl (pure_move rfl gU) ?_
        refine al_pure rfl rfl rfl (pure_arith rfl rfl gU gU rfl (IntWalk.i64_in _ (by omega))) ?_
        refine al_call rfl rfl rfl rfl rfl rfl gU gU (ih _ _ (by omega) (by omega)) rfl ?_
        refine al_pure rfl rfl rfl (pure_not rfl gU) ?_
        refine al_nil ?_
        refine awp_sub (s := { t := [(1, _, _), (2, _, _), (5, _, _), (35, _, _)], bx := [((.l 2), _)], ow := [] }) (sub_mk (⟨sx rfl, ⟨sx rfl, ⟨sx rfl, ⟨sx rfl, trivial⟩⟩⟩⟩) (⟨sx rfl, trivial⟩) trivial) ?_
        refine awp_cond rfl (fun hc1 => ?_) (fun hc1 => ?_)
        · try simp only [nn, Fd.rows_len, Fm.rows_len, V.rows_len] at hc1
          refine awp_seq (awp_region ?_)
          refine al_pure rfl rfl rfl (pure_assign rfl gU) ?_
          refine al_nil ?_
          refine awp_ret ?_
          repeat (first | refine tR ?_ | refine bR ?_)
          refine ret_ok rfl ?_ trivial
          exact xb_eq (by grind)
        · try simp only [nn, Fd.rows_len, Fm.rows_len, V.rows_len] at hc1
          refine awp_skip ?_
          refine awp_region ?_
          refine al_pure rfl rfl rfl (pure_move rfl gU) ?_
          refine al_pure rfl rfl rfl (pure_arith rfl rfl gU gU rfl (IntWalk.i64_in _ (by omega))) ?_
          refine al_pure rfl rfl rfl (pure_assign rfl gU) ?_
          refine al_nil ?_
          refine ⟨k + 1, ?_, ?_, sub_mk (⟨⟨_, rfl, ?_⟩, ⟨sx rfl, ⟨sx rfl, trivial⟩⟩⟩) (⟨sx rfl, trivial⟩) trivial⟩
          all_goals (first | rfl | omega | grind)
      · try simp only [nn, Fd.rows_len, Fm.rows_len, V.rows_len] at hca
        rw [List.drop_of_length_le (by omega)] at hinv
        refine awp_exit ?_
        repeat (first | refine thenS_exit ?_ | refine blockS_hit ?_ | refine blockS_miss rfl ?_)
        refine awp_seq (awp_region ?_)
        refine al_pure rfl rfl rfl (pure_assign rfl gU) ?_
        refine al_nil ?_
        refine awp_ret ?_
        repeat (first | refine tR ?_ | refine bR ?_)
        refine ret_ok rfl ?_ trivial
        exact xb_eq (by rw [← hinv]; rfl)
def few1 (t : List Fm) (s : List UInt8) : Bool := fewT t && decide (s.length ≤ 300)
theorem few_spec (t : List Fm) (s : List UInt8) : Ctr sys 19 [xtab t, xs s] [] (xb (few1 t s)) none [] := by
  refine spec_intro Try.func19 rfl rfl rfl rfl rfl rfl ?_
  refine awp_seq (awp_region ?_)
  refine al_pure rfl rfl rfl (pure_assign rfl gU) ?_
  refine al_nil ?_
  refine awp_seq (awp_region ?_)
  refine al_pure rfl rfl rfl (pure_move rfl gU) ?_
  refine al_call rfl rfl rfl rfl rfl rfl gU gU (Few_spec _) rfl ?_
  refine al_pure rfl rfl rfl (pure_move rfl gU) ?_
  refine al_pure rfl rfl rfl (pure_move rfl gU) ?_
  refine al_pure rfl rfl rfl (pure_lenS rfl (fun hh => hh) (Try.underlying9)) ?_
  refine al_pure rfl rfl rfl (pure_cmp rfl rfl (fun hh => hh) gU rfl) ?_
  refine al_pure rfl rfl rfl (pure_and rfl rfl gU (fun _ hi => gP rfl hi)) ?_
  refine al_pure rfl rfl rfl (pure_assign rfl gU) ?_
  refine al_nil ?_
  refine awp_ret ?_
  repeat (first | refine tR ?_ | refine bR ?_)
  refine ret_ok rfl ?_ trivial
  exact xb_eq (by unfold few1; congr 1; exact decide_eq_decide.2 (by omega))
end Go.Proofs.Ytgjclggjkhapfaa
