/- Our abstract program logic and contracts of this seat's functions, part 4: no statement of its own. -/
import Derived.Test.YtgjclggjkhapfaaM3
/- Contracts: the reference's parts of texts. -/
set_option linter.unusedVariables false
set_option linter.unusedSimpArgs false
namespace Go.Proofs.Ytgjclggjkhapfaa
open Go Go.Abs
theorem split_spec (s sep : List UInt8) (hs : s.length ≤ 10000) (hp : 1 ≤ sep.length) (hp2 : sep.length ≤ 100) : Ctr sys 51 [xs s, xs sep] [] (xss (splitE s sep)) none [] := by
  refine spec_intro Try.func51 rfl rfl rfl rfl rfl rfl ?_
  refine awp_seq (awp_region ?_)
  refine al_do rfl (does_nil (.inr rfl) rfl rfl) ?_
  refine al_nil ?_
  refine awp_seq (awp_region ?_)
  refine al_do rfl (does_nil (.inr rfl) rfl rfl) ?_
  refine al_nil ?_
  refine awp_seq (awp_region ?_)
  refine al_pure rfl rfl rfl (pure_assign rfl gU) ?_
  refine al_nil ?_
  refine awp_seq ?_
  refine awp_seq (awp_region ?_)
  refine al_pure rfl rfl rfl (pure_assign rfl gU) ?_
  refine al_nil ?_
  refine awp_block ?_
  refine awp_for (ι := Nat × Nat × List (List UInt8)) { t := [(0, _, _), (1, _, _)], bx := [], ow := [((.t 5), _)] } (fun p => [(7, true, xi (p.1 : Int)), (6, true, xi (p.2.1 : Int)), (5, true, xss p.2.2)]) (fun p => []) (fun p => p.1 ≤ s.length ∧ p.2.1 ≤ s.length ∧ p.2.2.length ≤ p.1 ∧ splitF s sep (s.length + 1 - p.1) p.1 p.2.1 p.2.2 = splitE s sep) (fun p => s.length + 1 - p.1) ((0, 0, [])) (⟨by simp, by simp, by simp, rfl⟩) (sub_mk (⟨sx rfl, ⟨sx rfl, ⟨sx rfl, ⟨sx rfl, ⟨sx rfl, trivial⟩⟩⟩⟩⟩) trivial (⟨rfl, trivial⟩)) ?_
  intro p hok
  dsimp only [List.cons_append, List.nil_append] at *
  obtain ⟨i, b, out⟩ := p
  dsimp only at hok ⊢
  obtain ⟨h1, h2, h3, h4⟩ := hok
  rw [show s.length + 1 - i = (s.length - i) + 1 by omega, splitF] at h4
  refine awp_seq ?_
  refine awp_seq (awp_region ?_)
  refine al_pure rfl rfl rfl (pure_move rfl gU) ?_
  refine al_pure rfl rfl rfl (pure_move rfl gU) ?_
  refine al_lenS rfl rfl rfl rfl rfl gU (Try.underlying9) ?_ (fun hh => by simp at hh); intro hlen
  refine al_pure rfl rfl rfl (pure_arith rfl rfl gU gU rfl (IntWalk.i64_in _ (by omega))) ?_
  refine al_pure rfl rfl rfl (pure_move rfl gU) ?_
  refine al_lenS rfl rfl rfl rfl rfl gU (Try.underlying9) ?_ (fun hh => by simp at hh); intro hlen
  refine al_pure rfl rfl rfl (pure_cmp rfl rfl gU gU rfl) ?_
  refine al_nil ?_
  refine awp_sub (s := { t := [(0, _, _), (1, _, _), (5, _, _), (6, _, _), (7, _, _), (14, _, _)], bx := [], ow := [((.t 5), _)] }) (sub_mk (⟨sx rfl, ⟨sx rfl, ⟨sx rfl, ⟨sx rfl, ⟨sx rfl, ⟨sx rfl, trivial⟩⟩⟩⟩⟩⟩) trivial (⟨rfl, trivial⟩)) ?_
  refine awp_cond rfl (fun hc => ?_) (fun hc => ?_)
  · try simp only [nn] at hc
    rw [if_pos (by omega)] at h4
    refine awp_skip ?_
    refine awp_seq ?_
    refine awp_block ?_
    refine awp_seq (awp_region ?_)
    refine al_pure rfl rfl rfl (pure_move rfl gU) ?_
    refine al_pure rfl rfl rfl (pure_move rfl gU) ?_
    refine al_pure rfl rfl rfl (pure_cmp rfl rfl gU gU rfl) ?_
    refine al_pure rfl rfl rfl (pure_move rfl gU) ?_
    refine al_pure rfl rfl rfl (pure_move rfl gU) ?_
    refine al_pure rfl rfl rfl (pure_move rfl gU) ?_
    refine al_pure rfl rfl rfl (pure_move rfl gU) ?_
    refine al_pure rfl rfl rfl (pure_move rfl gU) ?_
    refine al_pure rfl rfl rfl (pure_lenS rfl (fun hh => hh) (Try.underlying9)) ?_
    refine al_pure rfl rfl rfl (pure_arith rfl rfl (fun hh => hh) (fun hh => hh) rfl (IntWalk.i64_in _ (by omega))) ?_
    refine al_pure rfl rfl rfl (pure_sliceS (l := i) (h' := (i + sep.length)) rfl (fun hh => hh) Try.underlying9 (fun _ => ⟨_, _, _, rfl, (fun hh => hh), by omega⟩) (fun _ => ⟨_, _, _, rfl, (fun hh => hh), by omega⟩) (fun hh => by omega) (fun hh => by omega)) ?_
    refine al_pure rfl rfl rfl (pure_move rfl gU) ?_
    refine al_sub (s := { t := [(0, _, _), (1, _, _), (5, _, _), (6, _, _), (7, _, _), (20, _, _), (27, _, _), (28, _, _)], bx := [], ow := [((.t 5), _)] }) (sub_mk (⟨sx rfl, ⟨sx rfl, ⟨sx rfl, ⟨sx rfl, ⟨sx rfl, ⟨sx rfl, ⟨sx rfl, ⟨sx rfl, trivial⟩⟩⟩⟩⟩⟩⟩⟩) trivial (⟨rfl, trivial⟩)) ?_
    refine al_pure rfl rfl rfl (pure_cmpS rfl rfl (fun hh => hh) (fun hh => hh) rfl) ?_
    refine al_pure rfl rfl rfl (pure_and rfl rfl gU (fun _ hi => gP rfl hi)) ?_
    refine al_nil ?_
    refine awp_cond rfl (fun hc2 => ?_) (fun hc2 => ?_)
    · try simp only [nn] at hc2
      rw [if_pos (by refine ⟨by omega, hc2.2⟩)] at h4
      refine awp_seq (awp_region ?_)
      refine al_do rfl (does_take (.inl rfl) rfl rfl rfl) ?_
      refine al_pure rfl rfl rfl (pure_move rfl gU) ?_
      refine al_pure rfl rfl rfl (pure_move rfl gU) ?_
      refine al_pure rfl rfl rfl (pure_move rfl gU) ?_
      refine al_pure rfl rfl rfl (pure_sliceS (l := b) (h' := i) rfl gU Try.underlying9 (fun _ => ⟨_, _, _, rfl, gU, by omega⟩) (fun _ => ⟨_, _, _, rfl, gU, by omega⟩) (fun hh => by omega) (fun hh => by omega)) ?_
      refine al_buildSlice (xs := [_]) rfl rfl rfl rfl rfl rfl rfl rfl rfl gU rfl ?_
      refine al_do rfl (does_append rfl rfl rfl rfl rfl rfl rfl (by simp [strR_len]; omega) (by simp [strR_len]; omega)) ?_
      refine al_do rfl (does_take (.inr rfl) rfl rfl rfl) ?_
      refine al_nil ?_
      refine awp_sub (s := { t := [(0, _, _), (1, _, _), (5, _, _), (7, _, _)], bx := [], ow := [((.t 5), _)] }) (sub_mk (⟨sx rfl, ⟨sx rfl, ⟨sx rfl, ⟨sx rfl, trivial⟩⟩⟩⟩) trivial (⟨rfl, trivial⟩)) ?_
      refine awp_region ?_
      refine al_pure rfl rfl rfl (pure_move rfl gU) ?_
      refine al_pure rfl rfl rfl (pure_move rfl gU) ?_
      refine al_lenS rfl rfl rfl rfl rfl gU (Try.underlying9) ?_ (fun hh => by simp at hh); intro hlen
      refine al_pure rfl rfl rfl (pure_arith rfl rfl gU gU rfl (IntWalk.i64_in _ (by omega))) ?_
      refine al_pure rfl rfl rfl (pure_assign rfl gU) ?_
      refine al_nil ?_
      refine awp_sub (s := { t := [(0, _, _), (1, _, _), (5, _, _), (6, _, _), (7, _, _)], bx := [], ow := [((.t 5), _)] }) (sub_mk (⟨sx rfl, ⟨sx rfl, ⟨sx rfl, ⟨sx rfl, ⟨sx rfl, trivial⟩⟩⟩⟩⟩) trivial (⟨rfl, trivial⟩)) ?_
      refine awp_region ?_
      refine al_pure rfl rfl rfl (pure_move rfl gU) ?_
      refine al_pure rfl rfl rfl (pure_arith rfl rfl gU gU rfl (IntWalk.i64_in _ (by omega))) ?_
      refine al_pure rfl rfl rfl (pure_assign rfl gU) ?_
      refine al_nil ?_
      refine ⟨(i + 1, i + sep.length, out ++ [(s.take i).drop b]), ?_, ?_, sub_mk (⟨⟨_, rfl, ?_⟩, ⟨⟨_, rfl, ?_⟩, ⟨⟨_, rfl, ?_⟩, ⟨sx rfl, ⟨sx rfl, trivial⟩⟩⟩⟩⟩) trivial (⟨rfl, trivial⟩)⟩
      · refine ⟨by dsimp only; omega, by dsimp only; omega, by simp; omega, ?_⟩
        rw [← h4]; dsimp only; congr 1; omega
      · dsimp only; omega
      · rfl
      · rfl
      · exact tx (xss_snoc _ _)
    · try simp only [nn] at hc2
      rw [if_neg (by grind)] at h4
      refine awp_skip ?_
      refine awp_region ?_
      refine al_pure rfl rfl rfl (pure_move rfl gU) ?_
      refine al_pure rfl rfl rfl (pure_arith rfl rfl gU gU rfl (IntWalk.i64_in _ (by omega))) ?_
      refine al_pure rfl rfl rfl (pure_assign rfl gU) ?_
      refine al_nil ?_
      refine ⟨(i + 1, b, out), ?_, ?_, sub_mk (⟨⟨_, rfl, ?_⟩, ⟨⟨_, rfl, ?_⟩, ⟨⟨_, rfl, ?_⟩, ⟨sx rfl, ⟨sx rfl, trivial⟩⟩⟩⟩⟩) trivial (⟨rfl, trivial⟩)⟩
      · refine ⟨by dsimp only; omega, by dsimp only; omega, by dsimp only; omega, ?_⟩
        rw [← h4]; dsimp only; congr 1; omega
      · dsimp only; omega
      · rfl
      · rfl
      · rfl
  · try simp only [nn] at hc
    rw [if_neg (by omega)] at h4
    refine awp_exit ?_
    repeat (first | refine thenS_exit ?_ | refine blockS_hit ?_ | refine blockS_miss rfl ?_)
    refine awp_seq (awp_region ?_)
    refine al_do rfl (does_take (.inl rfl) rfl rfl rfl) ?_
    refine al_pure rfl rfl rfl (pure_move rfl gU) ?_
    refine al_pure rfl rfl rfl (pure_move rfl gU) ?_
    refine al_pure rfl rfl rfl (pure_sliceS (l := b) rfl gU Try.underlying9 (fun _ => ⟨_, _, _, rfl, gU, by omega⟩) (fun _ => rfl) (fun hh => by omega) (fun hh => by omega)) ?_
    refine al_buildSlice (xs := [_]) rfl rfl rfl rfl rfl rfl rfl rfl rfl gU rfl ?_
    refine al_do rfl (does_append rfl rfl rfl rfl rfl rfl rfl (by simp [strR_len]; omega) (by simp [strR_len]; omega)) ?_
    refine al_do rfl (does_take (.inr rfl) rfl rfl rfl) ?_
    refine al_nil ?_
    refine awp_ret ?_
    repeat (first | refine tR ?_ | refine bR ?_)
    refine ret_ok rfl ?_ trivial
    rw [← h4]
    refine Eq.trans ?_ (xss_snoc _ _)
    rw [List.take_length]
    rfl
theorem number_spec (s : List UInt8) : Ctr sys 76 [xs s] [] (xi (numE s)) none [] := by
  refine spec_intro Try.func76 rfl rfl rfl rfl rfl rfl ?_
  refine awp_seq (awp_region ?_)
  refine al_pure rfl rfl rfl (pure_assign rfl gU) ?_
  refine al_nil ?_
  refine awp_seq ?_
  refine awp_seq (awp_region ?_)
  refine al_pure rfl rfl rfl (pure_move rfl gU) ?_
  refine al_lenS rfl rfl rfl rfl rfl gU (Try.underlying9) ?_ (fun hh => by simp at hh); intro hlen
  refine al_pure rfl rfl rfl (pure_cmp rfl rfl gU gU rfl) ?_
  refine al_pure rfl rfl rfl (pure_move rfl gU) ?_
  refine al_pure rfl rfl rfl (pure_move rfl gU) ?_
  refine al_pure rfl rfl rfl (pure_lenS rfl (fun hh => hh) (Try.underlying9)) ?_
  refine al_pure rfl rfl rfl (pure_cmp rfl rfl (fun hh => hh) gU rfl) ?_
  refine al_pure rfl rfl rfl (pure_or rfl rfl gU (fun _ hi => gP rfl hi)) ?_
  refine al_pure rfl rfl rfl (pure_move rfl gU) ?_
  refine al_pure rfl rfl rfl (pure_move rfl gU) ?_
  refine al_pure rfl rfl rfl (pure_lenS rfl (fun hh => hh) (Try.underlying9)) ?_
  refine al_sub (s := { t := [(0, _, _), (13, _, _), (15, _, _)], bx := [], ow := [] }) (sub_mk (⟨sx rfl, ⟨sx rfl, ⟨sx rfl, trivial⟩⟩⟩) trivial trivial) ?_
  refine al_pure rfl rfl rfl (pure_cmp rfl rfl (fun hh => hh) gU rfl) ?_
  refine al_pure rfl rfl rfl (pure_move rfl (fun hh => hh)) ?_
  refine al_pure rfl rfl rfl (pure_move rfl gU) ?_
  refine al_pure rfl rfl rfl (pure_indexSg (j := 0) rfl rfl (fun hh => hh) gU Try.underlying9 (by first | omega | (simp at hh; omega)) (fun hh => by first | omega | (simp at hh; omega))) ?_
  refine al_pure rfl rfl rfl (pure_cmp rfl rfl (fun hh => hh) gU rfl) ?_
  refine al_pure rfl rfl rfl (pure_and rfl rfl (fun hh => hh) (fun hh hi => gP hh hi)) ?_
  refine al_pure rfl rfl rfl (pure_or rfl rfl gU (fun _ hi => gP rfl hi)) ?_
  refine al_nil ?_
  refine awp_sub (s := { t := [(0, _, _), (22, _, _)], bx := [], ow := [] }) (sub_mk (⟨sx rfl, ⟨sx rfl, trivial⟩⟩) trivial trivial) ?_
  refine awp_cond rfl (fun hc => ?_) (fun hc => ?_)
  · try simp only [nn] at hc
    refine awp_seq (awp_region ?_)
    refine al_pure rfl rfl rfl (pure_assign rfl gU) ?_
    refine al_nil ?_
    refine awp_ret ?_
    repeat (first | refine tR ?_ | refine bR ?_)
    refine ret_ok rfl ?_ trivial
    exact xi_eq (by rw [numE, if_pos]; omega)
  · try simp only [nn] at hc
    have hl : 1 ≤ s.length ∧ s.length ≤ 6 := by omega
    have he : numE s = numF 0 s := by rw [numE, if_neg]; omega
    rw [he]
    refine awp_skip ?_
    refine awp_seq (awp_region ?_)
    refine al_pure rfl rfl rfl (pure_assign rfl gU) ?_
    refine al_nil ?_
    refine awp_seq ?_
    refine awp_seq (awp_region ?_)
    refine al_pure rfl rfl rfl (pure_assign rfl gU) ?_
    refine al_nil ?_
    refine awp_block ?_
    refine awp_for (ι := Nat × Int) { t := [(0, _, _)], bx := [], ow := [] } (fun p => [(4, true, xi (p.1 : Int)), (3, true, xi p.2)]) (fun p => []) (fun p => p.1 ≤ s.length ∧ 0 ≤ p.2 ∧ p.2 + 1 ≤ pw10 p.1 ∧ numF p.2 (s.drop p.1) = numF 0 s) (fun p => s.length - p.1) ((0, 0)) (⟨by simp, by simp, by simp [pw10], rfl⟩) (sub_mk (⟨sx rfl, ⟨sx rfl, ⟨sx rfl, trivial⟩⟩⟩) trivial trivial) ?_
    intro p hok
    dsimp only [List.cons_append, List.nil_append] at *
    obtain ⟨k, n⟩ := p
    dsimp only at hok ⊢
    obtain ⟨h1, h2, h3, h4⟩ := hok
    have hpw := pw10_le (k := k) (by omega)
    have hpw1 := pw10_succ k
    have hb := (s.getD k 0).toNat_lt
    refine awp_seq ?_
    refine awp_seq (awp_region ?_)
    refine al_pure rfl rfl rfl (pure_move rfl gU) ?_
    refine al_pure rfl rfl rfl (pure_move rfl gU) ?_
    refine al_lenS rfl rfl rfl rfl rfl gU (Try.underlying9) ?_ (fun hh => by simp at hh); intro hlen
    refine al_pure rfl rfl rfl (pure_cmp rfl rfl gU gU rfl) ?_
    refine al_nil ?_
    refine awp_cond rfl (fun hc2 => ?_) (fun hc2 => ?_)
    · try simp only [nn] at hc2
      rw [drop_get0 (by omega), numF] at h4
      refine awp_skip ?_
      refine awp_seq ?_
      refine awp_block ?_
      refine awp_seq ?_
      refine awp_seq (awp_region ?_)
      refine al_pure rfl rfl rfl (pure_move rfl gU) ?_
      refine al_pure rfl rfl rfl (pure_move rfl gU) ?_
      refine al_pure rfl rfl rfl (pure_indexSg rfl rfl gU gU Try.underlying9 rfl (fun hh => by first | omega | (simp at hh; omega))) ?_
      refine al_pure rfl rfl rfl (pure_cmp rfl rfl gU gU rfl) ?_
      refine al_pure rfl rfl rfl (pure_move rfl gU) ?_
      refine al_pure rfl rfl rfl (pure_move rfl gU) ?_
      refine al_pure rfl rfl rfl (pure_move rfl gU) ?_
      refine al_pure rfl rfl rfl (pure_indexSg rfl rfl (fun hh => hh) (fun hh => hh) Try.underlying9 rfl (fun hh => by first | omega | (simp at hh; omega))) ?_
      refine al_sub (s := { t := [(0, _, _), (3, _, _), (4, _, _), (33, _, _), (36, _, _)], bx := [], ow := [] }) (sub_mk (⟨sx rfl, ⟨sx rfl, ⟨sx rfl, ⟨sx rfl, ⟨sx rfl, trivial⟩⟩⟩⟩⟩) trivial trivial) ?_
      refine al_pure rfl rfl rfl (pure_cmp rfl rfl (fun hh => hh) gU rfl) ?_
      refine al_pure rfl rfl rfl (pure_or rfl rfl gU (fun _ hi => gP rfl hi)) ?_
      refine al_nil ?_
      refine awp_cond rfl (fun hc3 => ?_) (fun hc3 => ?_)
      · try simp only [nn] at hc3
        rw [if_pos (by omega)] at h4
        refine awp_seq (awp_region ?_)
        refine al_pure rfl rfl rfl (pure_assign rfl gU) ?_
        refine al_nil ?_
        refine awp_ret ?_
        repeat (first | refine tR ?_ | refine bR ?_)
        refine ret_ok rfl ?_ trivial
        exact xi_eq h4
      · try simp only [nn] at hc3
        rw [if_neg (by omega)] at h4
        refine awp_skip ?_
        refine awp_region ?_
        refine al_pure rfl rfl rfl (pure_move rfl gU) ?_
        refine al_pure rfl rfl rfl (pure_arith rfl rfl gU gU rfl (IntWalk.i64_in _ (by omega))) ?_
        refine al_pure rfl rfl rfl (pure_move rfl gU) ?_
        refine al_pure rfl rfl rfl (pure_move rfl gU) ?_
        refine al_pure rfl rfl rfl (pure_indexSg rfl rfl gU gU Try.underlying9 rfl (fun hh => by first | omega | (simp at hh; omega))) ?_
        refine al_pure rfl rfl rfl (pure_arith rfl rfl gU gU rfl (IntWalk.u8_in _ (by omega))) ?_
        refine al_pure rfl rfl rfl (pure_convInt rfl gU ⟨_, Try.underlying5⟩ (Try.underlying3) (IntWalk.i64_in _ (by omega))) ?_
        refine al_pure rfl rfl rfl (pure_arith rfl rfl gU gU rfl (IntWalk.i64_in _ (by omega))) ?_
        refine al_pure rfl rfl rfl (pure_assign rfl gU) ?_
        refine al_nil ?_
        refine awp_sub (s := { t := [(0, _, _), (3, _, _), (4, _, _)], bx := [], ow := [] }) (sub_mk (⟨sx rfl, ⟨sx rfl, ⟨sx rfl, trivial⟩⟩⟩) trivial trivial) ?_
        refine awp_region ?_
        refine al_pure rfl rfl rfl (pure_move rfl gU) ?_
        refine al_pure rfl rfl rfl (pure_arith rfl rfl gU gU rfl (IntWalk.i64_in _ (by omega))) ?_
        refine al_pure rfl rfl rfl (pure_assign rfl gU) ?_
        refine al_nil ?_
        refine ⟨(k + 1, 10 * n + ((s.getD k 0).toNat - 48)), ?_, ?_, sub_mk (⟨⟨_, rfl, ?_⟩, ⟨⟨_, rfl, ?_⟩, ⟨sx rfl, trivial⟩⟩⟩) trivial trivial⟩
        · exact ⟨by dsimp only; omega, by dsimp only; omega, by dsimp only; omega, h4⟩
        · dsimp only; omega
        · rfl
        · rfl
    · try simp only [nn] at hc2
      rw [List.drop_of_length_le (by omega), numF] at h4
      refine awp_exit ?_
      repeat (first | refine thenS_exit ?_ | refine blockS_hit ?_ | refine blockS_miss rfl ?_)
      refine awp_seq (awp_region ?_)
      refine al_pure rfl rfl rfl (pure_move rfl gU) ?_
      refine al_pure rfl rfl rfl (pure_assign rfl gU) ?_
      refine al_nil ?_
      refine awp_ret ?_
      repeat (first | refine tR ?_ | refine bR ?_)
      refine ret_ok rfl ?_ trivial
      exact xi_eq h4
theorem hexV_rng {b : UInt8} (h : hexB b = true) : 0 ≤ hexV b ∧ hexV b ≤ 15 := by
  simp only [hexB, hexV, Bool.or_eq_true, Bool.and_eq_true, decide_eq_true_eq] at *
  split <;> omega
/-- The number that two digits give, after 'j' of them. -/
def hex2 (a b : UInt8) (j : Nat) : Int := if j = 0 then 0 else if j = 1 then hexV a else 16 * hexV a + hexV b
theorem hex2_0 (a b : UInt8) : hex2 a b 0 = 0 := rfl
theorem hex2_1 (a b : UInt8) : hex2 a b 1 = hexV a := rfl
theorem hex2_2 (a b : UInt8) : hex2 a b 2 = 16 * hexV a + hexV b := rfl
theorem unhex_spec (s : List UInt8) (hs : s.length ≤ 10000) : Ctr sys 77 [xs s] [] (.tup [.c (.s (unhexF s []).1), .c (.b (unhexF s []).2)]) none [] := by
  refine spec_intro Try.func77 rfl rfl rfl rfl rfl rfl ?_
  refine awp_seq (awp_region ?_)
  refine al_pure rfl rfl rfl (pure_assign rfl gU) ?_
  refine al_pure rfl rfl rfl (pure_assign rfl gU) ?_
  refine al_nil ?_
  refine awp_seq (awp_region ?_)
  refine al_do rfl (does_nil (.inr rfl) rfl rfl) ?_
  refine al_nil ?_
  refine awp_seq ?_
  refine awp_seq (awp_region ?_)
  refine al_pure rfl rfl rfl (pure_assign rfl gU) ?_
  refine al_nil ?_
  refine awp_block ?_
  refine awp_for (ι := Nat × List UInt8) { t := [(0, _, _)], bx := [], ow := [((.t 4), _)] } (fun p => [(5, true, xi (p.1 : Int)), (4, true, xbs p.2)]) (fun p => []) (fun p => p.1 ≤ s.length ∧ p.2.length ≤ p.1 ∧ p.1 % 2 = 0 ∧ unhexF (s.drop p.1) p.2 = unhexF s []) (fun p => s.length - p.1) ((0, [])) (⟨by simp, by simp, by simp, rfl⟩) (sub_mk (⟨sx rfl, ⟨sx rfl, ⟨sx rfl, trivial⟩⟩⟩) trivial (⟨rfl, trivial⟩)) ?_
  intro p hok
  dsimp only [List.cons_append, List.nil_append] at *
  obtain ⟨k, out⟩ := p
  dsimp only at hok ⊢
  obtain ⟨h1, h2, h0, h4⟩ := hok
  refine awp_seq ?_
  refine awp_seq (awp_region ?_)
  refine al_pure rfl rfl rfl (pure_move rfl gU) ?_
  refine al_pure rfl rfl rfl (pure_arith rfl rfl gU gU rfl (IntWalk.i64_in _ (by omega))) ?_
  refine al_pure rfl rfl rfl (pure_move rfl gU) ?_
  refine al_lenS rfl rfl rfl rfl rfl gU (Try.underlying9) ?_ (fun hh => by simp at hh); intro hlen
  refine al_pure rfl rfl rfl (pure_cmp rfl rfl gU gU rfl) ?_
  refine al_nil ?_
  refine awp_sub (s := { t := [(0, _, _), (4, _, _), (5, _, _), (12, _, _)], bx := [], ow := [((.t 4), _)] }) (sub_mk (⟨sx rfl, ⟨sx rfl, ⟨sx rfl, ⟨sx rfl, trivial⟩⟩⟩⟩) trivial (⟨rfl, trivial⟩)) ?_
  refine awp_cond rfl (fun hc => ?_) (fun hc => ?_)
  · try simp only [nn] at hc
    rw [drop_get0 (by omega), drop_get0 (by omega), unhexF] at h4
    refine awp_skip ?_
    refine awp_seq ?_
    refine awp_block ?_
    refine awp_seq (awp_region ?_)
    refine al_pure rfl rfl rfl (pure_assign rfl gU) ?_
    refine al_nil ?_
    refine awp_seq ?_
    refine awp_seq (awp_region ?_)
    refine al_pure rfl rfl rfl (pure_move rfl gU) ?_
    refine al_pure rfl rfl rfl (pure_assign rfl gU) ?_
    refine al_nil ?_
    refine awp_block ?_
    refine awp_for (ι := Nat) { t := [(0, _, _), (4, _, _), (5, _, _)], bx := [], ow := [((.t 4), _)] } (fun j => [(7, true, xi ((k + j : Nat) : Int)), (6, true, xi (hex2 (s.getD k 0) (s.getD (k + 1) 0) j))]) (fun j => []) (fun j => j ≤ 2 ∧ (1 ≤ j → hexB (s.getD k 0) = true) ∧ (2 ≤ j → hexB (s.getD (k + 1) 0) = true)) (fun j => 2 - j) (0) (by simp) (sub_mk (⟨sx rfl, ⟨sx rfl, ⟨sx rfl, ⟨sx rfl, ⟨sx rfl, trivial⟩⟩⟩⟩⟩) trivial (⟨rfl, trivial⟩)) ?_
    intro j hok2
    dsimp only [List.cons_append, List.nil_append]
    obtain ⟨g1, g2, g3⟩ := hok2
    refine awp_seq ?_
    refine awp_seq (awp_region ?_)
    refine al_pure rfl rfl rfl (pure_move rfl gU) ?_
    refine al_pure rfl rfl rfl (pure_move rfl gU) ?_
    refine al_pure rfl rfl rfl (pure_arith rfl rfl gU gU rfl (IntWalk.i64_in _ (by omega))) ?_
    refine al_pure rfl rfl rfl (pure_cmp rfl rfl gU gU rfl) ?_
    refine al_nil ?_
    refine awp_cond rfl (fun hc2 => ?_) (fun hc2 => ?_)
    · try simp only [nn] at hc2
      have hb := (s.getD (k + j) 0).toNat_lt
      have hx : j = 0 ∨ j = 1 := by omega
      have hr : 0 ≤ hex2 (s.getD k 0) (s.getD (k + 1) 0) j ∧ hex2 (s.getD k 0) (s.getD (k + 1) 0) j ≤ 15 := by
        rcases hx with rfl | rfl
        · rw [hex2_0]; omega
        · have := hexV_rng (g2 (by omega)); rw [hex2_1]; omega
      have hn : hexB (s.getD (k + j) 0) = true → hex2 (s.getD k 0) (s.getD (k + 1) 0) (j + 1) = 16 * hex2 (s.getD k 0) (s.getD (k + 1) 0) j + hexV (s.getD (k + j) 0) := by
        intro _
        rcases hx with rfl | rfl
        · rw [hex2_1, hex2_0]; simp only [Nat.add_zero, Int.mul_zero, Int.zero_add]
        · rw [hex2_2, hex2_1]
      have hj : hexB (s.getD (k + j) 0) = true → (1 ≤ j + 1 → hexB (s.getD k 0) = true) ∧ (2 ≤ j + 1 → hexB (s.getD (k + 1) 0) = true) := by
        intro h
        rcases hx with rfl | rfl
        · exact ⟨fun _ => h, fun h => by omega⟩
        · exact ⟨fun _ => g2 (by omega), fun _ => h⟩
      refine awp_skip ?_
      refine awp_seq ?_
      refine awp_block ?_
      refine awp_block ?_
      refine awp_seq (awp_region ?_)
      refine al_pure rfl rfl rfl (pure_move rfl gU) ?_
      refine al_pure rfl rfl rfl (pure_move rfl gU) ?_
      refine al_pure rfl rfl rfl (pure_indexSg rfl rfl gU gU Try.underlying9 rfl (fun hh => by first | omega | (simp at hh; omega))) ?_
      refine al_pure rfl rfl rfl (pure_cmp rfl rfl gU gU rfl) ?_
      refine al_pure rfl rfl rfl (pure_move rfl gU) ?_
      refine al_pure rfl rfl rfl (pure_move rfl gU) ?_
      refine al_pure rfl rfl rfl (pure_move rfl gU) ?_
      refine al_pure rfl rfl rfl (pure_indexSg rfl rfl (fun hh => hh) (fun hh => hh) Try.underlying9 rfl (fun hh => by first | omega | (simp at hh; omega))) ?_
      refine al_sub (s := { t := [(0, _, _), (4, _, _), (5, _, _), (6, _, _), (7, _, _), (27, _, _), (30, _, _)], bx := [], ow := [((.t 4), _)] }) (sub_mk (⟨sx rfl, ⟨sx rfl, ⟨sx rfl, ⟨sx rfl, ⟨sx rfl, ⟨sx rfl, ⟨sx rfl, trivial⟩⟩⟩⟩⟩⟩⟩) trivial (⟨rfl, trivial⟩)) ?_
      refine al_pure rfl rfl rfl (pure_cmp rfl rfl (fun hh => hh) gU rfl) ?_
      refine al_pure rfl rfl rfl (pure_and rfl rfl gU (fun _ hi => gP rfl hi)) ?_
      refine al_pure rfl rfl rfl (pure_assign rfl gU) ?_
      refine al_nil ?_
      refine awp_cond rfl (fun hc3 => ?_) (fun hc3 => ?_)
      · try simp only [nn] at hc3
        have hh : hexB (s.getD (k + j) 0) = true := by simp only [hexB, Bool.or_eq_true, Bool.and_eq_true, decide_eq_true_eq]; omega
        have hv : hexV (s.getD (k + j) 0) = (s.getD (k + j) 0).toNat - 48 := by rw [hexV, if_pos]; omega
        refine awp_region ?_
        refine al_pure rfl rfl rfl (pure_move rfl gU) ?_
        refine al_pure rfl rfl rfl (pure_arith rfl rfl gU gU rfl (IntWalk.i64_in _ (by omega))) ?_
        refine al_pure rfl rfl rfl (pure_move rfl gU) ?_
        refine al_pure rfl rfl rfl (pure_move rfl gU) ?_
        refine al_pure rfl rfl rfl (pure_indexSg rfl rfl gU gU Try.underlying9 rfl (fun hh => by first | omega | (simp at hh; omega))) ?_
        refine al_pure rfl rfl rfl (pure_arith rfl rfl gU gU rfl (IntWalk.u8_in _ (by omega))) ?_
        refine al_pure rfl rfl rfl (pure_convInt rfl gU ⟨_, Try.underlying5⟩ (Try.underlying3) (IntWalk.i64_in _ (by omega))) ?_
        refine al_pure rfl rfl rfl (pure_arith rfl rfl gU gU rfl (IntWalk.i64_in _ (by omega))) ?_
        refine al_pure rfl rfl rfl (pure_assign rfl gU) ?_
        refine al_nil ?_
        refine awp_sub (s := { t := [(0, _, _), (4, _, _), (5, _, _), (6, _, _), (7, _, _)], bx := [], ow := [((.t 4), _)] }) (sub_mk (⟨sx rfl, ⟨sx rfl, ⟨sx rfl, ⟨sx rfl, ⟨sx rfl, trivial⟩⟩⟩⟩⟩) trivial (⟨rfl, trivial⟩)) ?_
        refine awp_region ?_
        refine al_pure rfl rfl rfl (pure_move rfl gU) ?_
        refine al_pure rfl rfl rfl (pure_arith rfl rfl gU gU rfl (IntWalk.i64_in _ (by omega))) ?_
        refine al_pure rfl rfl rfl (pure_assign rfl gU) ?_
        refine al_nil ?_
        refine ⟨j + 1, ?_, ?_, sub_mk (⟨⟨_, rfl, ?_⟩, ⟨⟨_, rfl, ?_⟩, ⟨sx rfl, ⟨sx rfl, ⟨sx rfl, trivial⟩⟩⟩⟩⟩) trivial (⟨rfl, trivial⟩)⟩
        · exact ⟨by omega, hj hh⟩
        · omega
        · rfl
        · exact tx (xi_eq (by rw [hn hh, hv]; try omega))
      · try simp only [nn] at hc3
        refine awp_seq (awp_region ?_)
        refine al_pure rfl rfl rfl (pure_move rfl gU) ?_
        refine al_pure rfl rfl rfl (pure_move rfl gU) ?_
        refine al_pure rfl rfl rfl (pure_indexSg rfl rfl gU gU Try.underlying9 rfl (fun hh => by first | omega | (simp at hh; omega))) ?_
        refine al_pure rfl rfl rfl (pure_cmp rfl rfl gU gU rfl) ?_
        refine al_pure rfl rfl rfl (pure_move rfl gU) ?_
        refine al_pure rfl rfl rfl (pure_move rfl gU) ?_
        refine al_pure rfl rfl rfl (pure_move rfl gU) ?_
        refine al_pure rfl rfl rfl (pure_indexSg rfl rfl (fun hh => hh) (fun hh => hh) Try.underlying9 rfl (fun hh => by first | omega | (simp at hh; omega))) ?_
        refine al_pure rfl rfl rfl (pure_cmp rfl rfl (fun hh => hh) gU rfl) ?_
        refine al_sub (s := { t := [(0, _, _), (4, _, _), (5, _, _), (6, _, _), (7, _, _), (46, _, _), (50, _, _)], bx := [], ow := [((.t 4), _)] }) (sub_mk (⟨sx rfl, ⟨sx rfl, ⟨sx rfl, ⟨sx rfl, ⟨sx rfl, ⟨sx rfl, ⟨sx rfl, trivial⟩⟩⟩⟩⟩⟩⟩) trivial (⟨rfl, trivial⟩)) ?_
        refine al_pure rfl rfl rfl (pure_and rfl rfl gU (fun _ hi => gP rfl hi)) ?_
        refine al_pure rfl rfl rfl (pure_assign rfl gU) ?_
        refine al_nil ?_
        refine awp_cond rfl (fun hc4 => ?_) (fun hc4 => ?_)
        · try simp only [nn] at hc4
          have hh : hexB (s.getD (k + j) 0) = true := by simp only [hexB, Bool.or_eq_true, Bool.and_eq_true, decide_eq_true_eq]; omega
          have hv : hexV (s.getD (k + j) 0) = (s.getD (k + j) 0).toNat - 87 := by rw [hexV, if_neg]; omega
          refine awp_region ?_
          refine al_pure rfl rfl rfl (pure_move rfl gU) ?_
          refine al_pure rfl rfl rfl (pure_arith rfl rfl gU gU rfl (IntWalk.i64_in _ (by omega))) ?_
          refine al_pure rfl rfl rfl (pure_move rfl gU) ?_
          refine al_pure rfl rfl rfl (pure_move rfl gU) ?_
          refine al_pure rfl rfl rfl (pure_indexSg rfl rfl gU gU Try.underlying9 rfl (fun hh => by first | omega | (simp at hh; omega))) ?_
          refine al_pure rfl rfl rfl (pure_arith rfl rfl gU gU rfl (IntWalk.u8_in _ (by omega))) ?_
          refine al_pure rfl rfl rfl (pure_convInt rfl gU ⟨_, Try.underlying5⟩ (Try.underlying3) (IntWalk.i64_in _ (by omega))) ?_
          refine al_pure rfl rfl rfl (pure_arith rfl rfl gU gU rfl (IntWalk.i64_in _ (by omega))) ?_
          refine al_pure rfl rfl rfl (pure_arith rfl rfl gU gU rfl (IntWalk.i64_in _ (by omega))) ?_
          refine al_pure rfl rfl rfl (pure_assign rfl gU) ?_
          refine al_nil ?_
          refine awp_sub (s := { t := [(0, _, _), (4, _, _), (5, _, _), (6, _, _), (7, _, _)], bx := [], ow := [((.t 4), _)] }) (sub_mk (⟨sx rfl, ⟨sx rfl, ⟨sx rfl, ⟨sx rfl, ⟨sx rfl, trivial⟩⟩⟩⟩⟩) trivial (⟨rfl, trivial⟩)) ?_
          refine awp_region ?_
          refine al_pure rfl rfl rfl (pure_move rfl gU) ?_
          refine al_pure rfl rfl rfl (pure_arith rfl rfl gU gU rfl (IntWalk.i64_in _ (by omega))) ?_
          refine al_pure rfl rfl rfl (pure_assign rfl gU) ?_
          refine al_nil ?_
          refine ⟨j + 1, ?_, ?_, sub_mk (⟨⟨_, rfl, ?_⟩, ⟨⟨_, rfl, ?_⟩, ⟨sx rfl, ⟨sx rfl, ⟨sx rfl, trivial⟩⟩⟩⟩⟩) trivial (⟨rfl, trivial⟩)⟩
          · exact ⟨by omega, hj hh⟩
          · omega
          · rfl
          · exact tx (xi_eq (by rw [hn hh, hv]; try omega))
        · try simp only [nn] at hc4
          have hh : hexB (s.getD (k + j) 0) = false := by simp only [hexB, Bool.or_eq_false_iff, Bool.and_eq_false_iff, decide_eq_false_iff_not]; omega
          have hne : ¬ (hexB (s.getD k 0) = true ∧ hexB (s.getD (k + 1) 0) = true) := by
            rintro ⟨q1, q2⟩
            rcases hx with rfl | rfl
            · rw [Nat.add_zero, q1] at hh; simp at hh
            · rw [q2] at hh; simp at hh
          rw [if_neg hne] at h4
          refine awp_seq (awp_region ?_)
          refine al_pure rfl rfl rfl (pure_assign rfl gU) ?_
          refine al_pure rfl rfl rfl (pure_assign rfl gU) ?_
          refine al_nil ?_
          refine awp_ret ?_
          repeat (first | refine tR ?_ | refine bR ?_)
          refine ret_ok rfl ?_ trivial
          rw [← h4]; rfl
    · try simp only [nn] at hc2
      obtain rfl : j = 2 := by omega
      have r1 := hexV_rng (g2 (by omega))
      have r2 := hexV_rng (g3 (by omega))
      have hbv : ((UInt8.ofNat (16 * hexV (s.getD k 0) + hexV (s.getD (k + 1) 0)).toNat).toNat : Int) = hex2 (s.getD k 0) (s.getD (k + 1) 0) 2 := by
        rw [hex2_2, UInt8.toNat_ofNat']; omega
      rw [if_pos ⟨g2 (by omega), g3 (by omega)⟩] at h4
      have hr : 0 ≤ hex2 (s.getD k 0) (s.getD (k + 1) 0) 2 ∧ hex2 (s.getD k 0) (s.getD (k + 1) 0) 2 ≤ 255 := by rw [hex2_2]; omega
      refine awp_exit ?_
      repeat (first | refine thenS_exit ?_ | refine blockS_hit ?_ | refine blockS_miss rfl ?_)
      refine awp_region ?_
      refine al_do rfl (does_take (.inl rfl) rfl rfl rfl) ?_
      refine al_pure rfl rfl rfl (pure_move rfl gU) ?_
      refine al_pure rfl rfl rfl (pure_convInt rfl gU ⟨_, Try.underlying3⟩ (Try.underlying5) (IntWalk.u8_in _ (by omega))) ?_
      refine al_buildSlice (xs := [_]) rfl rfl rfl rfl rfl rfl rfl rfl rfl gU rfl ?_
      refine al_do rfl (does_append rfl rfl rfl rfl rfl rfl rfl (by simp [bytesR_len]; omega) (by simp [bytesR_len]; omega)) ?_
      refine al_do rfl (does_take (.inr rfl) rfl rfl rfl) ?_
      refine al_nil ?_
      refine awp_sub (s := { t := [(0, _, _), (4, _, _), (5, _, _)], bx := [], ow := [((.t 4), _)] }) (sub_mk (⟨sx rfl, ⟨sx rfl, ⟨sx rfl, trivial⟩⟩⟩) trivial (⟨rfl, trivial⟩)) ?_
      refine awp_region ?_
      refine al_pure rfl rfl rfl (pure_move rfl gU) ?_
      refine al_pure rfl rfl rfl (pure_arith rfl rfl gU gU rfl (IntWalk.i64_in _ (by omega))) ?_
      refine al_pure rfl rfl rfl (pure_assign rfl gU) ?_
      refine al_nil ?_
      refine ⟨(k + 2, out ++ [UInt8.ofNat (16 * hexV (s.getD k 0) + hexV (s.getD (k + 1) 0)).toNat]), ?_, ?_, sub_mk (⟨⟨_, rfl, ?_⟩, ⟨⟨_, rfl, ?_⟩, ⟨sx rfl, trivial⟩⟩⟩) trivial (⟨rfl, trivial⟩)⟩
      · exact ⟨by dsimp only; omega, by simp; omega, by dsimp only; omega, h4⟩
      · dsimp only; omega
      · rfl
      · exact tx (xbs_snoc _ _ _ hbv)
  · try simp only [nn] at hc
    have hend : unhexF (s.drop k) out = (out, decide (s.length % 2 = 0)) := by
      have hl : (s.drop k).length = 0 ∨ (s.drop k).length = 1 := by simp; omega
      have hk : s.length = k + (s.drop k).length := by simp; omega
      rcases hl with hl | hl
      · rw [List.eq_nil_of_length_eq_zero hl, unhexF]
        congr 1; simp; omega
      · obtain ⟨b, hb⟩ := List.length_eq_one_iff.1 hl
        rw [hb, unhexF]
        congr 1; simp; omega
    rw [hend] at h4
    refine awp_exit ?_
    repeat (first | refine thenS_exit ?_ | refine blockS_hit ?_ | refine blockS_miss rfl ?_)
    refine awp_seq (awp_region ?_)
    refine al_pure rfl rfl rfl (pure_move rfl gU) ?_
    refine al_pure rfl rfl rfl (pure_bytesStr rfl (rfl) gU Try.underlying48 Try.underlying5 Try.underlying9) ?_
    refine al_pure rfl rfl rfl (pure_move rfl gU) ?_
    refine al_lenS rfl rfl rfl rfl rfl gU (Try.underlying9) ?_ (fun hh => by simp at hh); intro hlen
    refine al_pure rfl rfl rfl (pure_remG rfl rfl gU gU (fun hh => by first | omega | (simp at hh; omega)) (fun hh => Int.tmod_eq_emod_of_nonneg (by first | omega | (simp at hh; omega)))) ?_
    refine al_pure rfl rfl rfl (pure_cmp rfl rfl gU gU rfl) ?_
    refine al_pure rfl rfl rfl (pure_assign rfl gU) ?_
    refine al_pure rfl rfl rfl (pure_assign rfl gU) ?_
    refine al_nil ?_
    refine awp_ret ?_
    repeat (first | refine tR ?_ | refine bR ?_)
    refine ret_ok rfl ?_ trivial
    rw [← h4]
    have : ((s.length : Int) % 2 == 0) = decide (s.length % 2 = 0) := by rw [Bool.eq_iff_iff]; simp; omega
    rw [← this]; rfl
end Go.Proofs.Ytgjclggjkhapfaa
/- Contracts: the reference reads tables of formats. -/
set_option linter.unusedVariables false
set_option linter.unusedSimpArgs false
namespace Go.Proofs.Ytgjclggjkhapfaa
open Go Go.Abs
def fd0 : Fd := ⟨0, [], 0, 0, 0⟩
def readW (t : List Fm) (w : List (List UInt8)) : Fd × Bool :=
  if (w.length : Int) = 3 ∧ (w.getD 0 [] = [110, 117, 109, 98, 101, 114] ∨ w.getD 0 [] = [114, 101, 115, 116]) then
    (⟨if w.getD 0 [] = [114, 101, 115, 116] then 6 else 4, [], 0, numE (w.getD 1 []), numE (w.getD 2 [])⟩, decide (0 ≤ numE (w.getD 1 [])) && decide (0 ≤ numE (w.getD 2 [])))
  else if ¬ (w.length : Int) = 2 then (fd0, false)
  else if w.getD 0 [] = [116, 97, 103] then (⟨1, (unhexF (w.getD 1 []) []).1, 0, 0, 0⟩, (unhexF (w.getD 1 []) []).2)
  else if w.getD 0 [] = [102, 105, 120, 101, 100] then (⟨2, [], numE (w.getD 1 []), 0, 0⟩, decide (0 ≤ numE (w.getD 1 [])))
  else if w.getD 0 [] = [98, 121, 116, 101, 115] then (⟨3, [], numE (w.getD 1 []), 0, 0⟩, decide (0 ≤ numE (w.getD 1 [])))
  else if w.getD 0 [] = [110, 101, 115, 116, 101, 100] then (⟨5, [], findF (w.getD 1 []) 0 t, 0, 0⟩, decide (0 ≤ findF (w.getD 1 []) 0 t))
  else (fd0, false)
def readE (t : List Fm) (s : List UInt8) : Fd × Bool := readW t (splitE s [32])
abbrev xfb (p : Fd × Bool) : X := .tup [.agg p.1.cells, .c (.b p.2)]
theorem xfb_eq {p q : Fd × Bool} {x : X} (hx : x = xfb p) (h : p = q) : x = xfb q := by rw [hx, h]
theorem read_spec (t : List Fm) (s : List UInt8) (hs : s.length ≤ 10000) : Ctr sys 52 [xtab t, xs s] [] (xfb (readE t s)) none [] := by
  have hsl := splitE_len s [32]
  have hg1 := splitE_get s [32] 1
  have hsp := split_spec s [32] hs (by decide) (by decide)
  unfold readE
  generalize splitE s [32] = w at *
  have hwl := strR_len w
  refine spec_intro Try.func52 rfl rfl rfl rfl rfl rfl ?_
  refine awp_seq (awp_region ?_)
  refine al_do rfl (does_alloc rfl rfl rfl) ?_
  refine al_pure rfl rfl rfl (pure_assign rfl gU) ?_
  refine al_nil ?_
  refine awp_seq (awp_region ?_)
  refine al_pure rfl rfl rfl (pure_move rfl gU) ?_
  refine al_call rfl rfl rfl rfl rfl rfl gU gU (hsp) rfl ?_
  refine al_pure rfl rfl rfl (pure_assign rfl gU) ?_
  refine al_nil ?_
  refine awp_sub (s := { t := [(0, _, _), (4, _, _), (6, _, _)], bx := [((.l 4), _)], ow := [] }) (sub_mk (⟨sx rfl, ⟨sx rfl, ⟨sx rfl, trivial⟩⟩⟩) (⟨sx rfl, trivial⟩) trivial) ?_
  refine awp_seq ?_
  refine awp_seq (awp_region ?_)
  refine al_pure rfl rfl rfl (pure_move rfl gU) ?_
  refine al_lenSl rfl rfl rfl rfl rfl gU rfl rfl ?_ (fun hh => by simp at hh); intro hlen
  refine al_pure rfl rfl rfl (pure_cmp rfl rfl gU gU rfl) ?_
  refine al_pure rfl rfl rfl (pure_move rfl gU) ?_
  refine al_pure rfl rfl rfl (pure_move rfl gU) ?_
  refine al_pure rfl rfl rfl (pure_indexAddr (j := 0) rfl rfl (fun hh => hh) gU rfl rfl (by first | omega | (simp at hh; omega)) (fun hh => strR_at (by first | omega | (simp at hh; omega)))) ?_
  refine al_pure rfl rfl rfl (pure_loadRo rfl (fun hh => hh) rfl rfl rfl) ?_
  refine al_pure rfl rfl rfl (pure_cmpS rfl rfl (fun hh => hh) gU rfl) ?_
  refine al_pure rfl rfl rfl (pure_move rfl (fun hh => hh)) ?_
  refine al_pure rfl rfl rfl (pure_move rfl gU) ?_
  refine al_pure rfl rfl rfl (pure_indexAddr (j := 0) rfl rfl (fun hh => hh) gU rfl rfl (by first | omega | (simp at hh; omega)) (fun hh => strR_at (by first | omega | (simp at hh; omega)))) ?_
  refine al_pure rfl rfl rfl (pure_loadRo rfl (fun hh => hh) rfl rfl rfl) ?_
  refine al_sub (s := { t := [(0, _, _), (4, _, _), (6, _, _), (16, _, _), (21, _, _), (24, _, _)], bx := [((.l 4), _)], ow := [] }) (sub_mk (⟨sx rfl, ⟨sx rfl, ⟨sx rfl, ⟨sx rfl, ⟨sx rfl, ⟨sx rfl, trivial⟩⟩⟩⟩⟩⟩) (⟨sx rfl, trivial⟩) trivial) ?_
  refine al_pure rfl rfl rfl (pure_cmpS rfl rfl (fun hh => hh) gU rfl) ?_
  refine al_pure rfl rfl rfl (pure_or rfl rfl (fun hh => hh) (fun hh hi => gP hh hi)) ?_
  refine al_pure rfl rfl rfl (pure_and rfl rfl gU (fun _ hi => gP rfl hi)) ?_
  refine al_nil ?_
  refine awp_cond rfl (fun hc => ?_) (fun hc => ?_)
  · try simp only [nn, strR_len] at hc
    refine awp_seq ?_
    refine awp_drawn' (by kernel_rfl) ?_
    refine dr_pure rfl rfl rfl rfl (pure_move rfl gU) ?_
    refine dr_pure rfl rfl rfl rfl (pure_indexAddr (j := 1) rfl rfl gU gU rfl rfl (by first | omega | (simp at hh; omega)) (fun hh => strR_at (by first | omega | (simp at hh; omega)))) ?_
    refine dr_pure rfl rfl rfl rfl (pure_loadRo rfl gU rfl rfl rfl) ?_
    refine dr_callN rfl rfl rfl rfl rfl rfl rfl gU gU (number_spec _) rfl ?_
    refine dr_pure rfl rfl rfl rfl (pure_move rfl gU) ?_
    refine dr_pure rfl rfl rfl rfl (pure_indexAddr (j := 2) rfl rfl gU gU rfl rfl (by first | omega | (simp at hh; omega)) (fun hh => strR_at (by first | omega | (simp at hh; omega)))) ?_
    refine dr_pure rfl rfl rfl rfl (pure_loadRo rfl gU rfl rfl rfl) ?_
    refine dr_callN rfl rfl rfl rfl rfl rfl rfl gU gU (number_spec _) rfl ?_
    refine dr_pure rfl rfl rfl rfl (pure_build rfl Try.underlying62 rfl gU) ?_
    refine dr_alloc rfl rfl rfl rfl rfl rfl rfl ?_
    refine dr_store rfl rfl rfl rfl rfl rfl rfl rfl rfl rfl rfl rfl ?_
    refine dr_nil (by kernel_rfl) ?_
    refine awp_sub (s := { t := [(4, _, _), (6, _, _), (7, _, _)], bx := [((.l 4), _), ((.l 7), _)], ow := [] }) (sub_mk (⟨sx rfl, ⟨sx rfl, ⟨sx rfl, trivial⟩⟩⟩) (⟨sx rfl, ⟨sx rfl, trivial⟩⟩) trivial) ?_
    refine awp_seq ?_
    refine awp_seq (awp_region ?_)
    refine al_pure rfl rfl rfl (pure_move rfl gU) ?_
    refine al_pure rfl rfl rfl (pure_indexAddr (j := 0) rfl rfl gU gU rfl rfl (by first | omega | (simp at hh; omega)) (fun hh => strR_at (by first | omega | (simp at hh; omega)))) ?_
    refine al_pure rfl rfl rfl (pure_loadRo rfl gU rfl rfl rfl) ?_
    refine al_pure rfl rfl rfl (pure_cmpS rfl rfl gU gU rfl) ?_
    refine al_nil ?_
    refine awp_cond rfl (fun hc2 => ?_) (fun hc2 => ?_)
    · try simp only [nn, strR_len] at hc2
      refine awp_region ?_
      refine al_pure rfl rfl rfl (pure_fieldPtr rfl gU rfl rfl) ?_
      refine al_do rfl (does_store rfl rfl rfl rfl rfl rfl rfl) ?_
      refine al_nil ?_
      refine awp_sub (s := { t := [(4, _, _), (7, _, _)], bx := [((.l 4), _), ((.l 7), _)], ow := [] }) (sub_mk (⟨sx rfl, ⟨sx rfl, trivial⟩⟩) (⟨sx rfl, ⟨sx rfl, trivial⟩⟩) trivial) ?_
      refine awp_seq ?_
      refine awp_drawn' (by kernel_rfl) ?_
      refine dr_loadRow rfl rfl rfl rfl rfl rfl rfl gU rfl rfl rfl rfl rfl ?_
      refine dr_pure rfl rfl rfl rfl (pure_fieldPtr rfl gU rfl rfl) ?_
      refine dr_load rfl rfl rfl rfl rfl rfl rfl gU rfl rfl rfl rfl ?_
      refine dr_pure rfl rfl rfl rfl (pure_cmp rfl rfl gU gU rfl) ?_
      refine dr_pure rfl rfl rfl rfl (pure_move rfl gU) ?_
      refine dr_pure rfl rfl rfl rfl (pure_fieldPtr rfl gU rfl rfl) ?_
      refine dr_load rfl rfl rfl rfl rfl rfl rfl (fun hh => hh) rfl rfl rfl rfl ?_
      refine dr_pure rfl rfl rfl rfl (pure_cmp rfl rfl (fun hh => hh) gU rfl) ?_
      refine dr_pure rfl rfl rfl rfl (pure_and rfl rfl gU (fun _ hi => gP rfl hi)) ?_
      refine dr_store rfl rfl rfl rfl rfl rfl rfl rfl rfl rfl rfl rfl ?_
      refine dr_pure rfl rfl rfl rfl (pure_assign rfl gU) ?_
      refine dr_nil (by kernel_rfl) ?_
      refine awp_ret ?_
      repeat (first | refine tR ?_ | refine bR ?_)
      refine ret_ok rfl ?_ trivial
      (unfold readW; rw [if_pos hc, if_pos hc2]; rfl)
    · try simp only [nn, strR_len] at hc2
      refine awp_skip ?_
      refine awp_seq ?_
      refine awp_drawn' (by kernel_rfl) ?_
      refine dr_loadRow rfl rfl rfl rfl rfl rfl rfl gU rfl rfl rfl rfl rfl ?_
      refine dr_pure rfl rfl rfl rfl (pure_fieldPtr rfl gU rfl rfl) ?_
      refine dr_load rfl rfl rfl rfl rfl rfl rfl gU rfl rfl rfl rfl ?_
      refine dr_pure rfl rfl rfl rfl (pure_cmp rfl rfl gU gU rfl) ?_
      refine dr_pure rfl rfl rfl rfl (pure_move rfl gU) ?_
      refine dr_pure rfl rfl rfl rfl (pure_fieldPtr rfl gU rfl rfl) ?_
      refine dr_load rfl rfl rfl rfl rfl rfl rfl (fun hh => hh) rfl rfl rfl rfl ?_
      refine dr_pure rfl rfl rfl rfl (pure_cmp rfl rfl (fun hh => hh) gU rfl) ?_
      refine dr_pure rfl rfl rfl rfl (pure_and rfl rfl gU (fun _ hi => gP rfl hi)) ?_
      refine dr_store rfl rfl rfl rfl rfl rfl rfl rfl rfl rfl rfl rfl ?_
      refine dr_pure rfl rfl rfl rfl (pure_assign rfl gU) ?_
      refine dr_nil (by kernel_rfl) ?_
      refine awp_ret ?_
      repeat (first | refine tR ?_ | refine bR ?_)
      refine ret_ok rfl ?_ trivial
      (unfold readW; rw [if_pos hc, if_neg hc2]; rfl)
  · try simp only [nn, strR_len] at hc
    have hcn : ¬ ((w.length : Int) = 3 ∧ (w.getD 0 [] = [110, 117, 109, 98, 101, 114] ∨ w.getD 0 [] = [114, 101, 115, 116])) := by grind
    unfold readW
    rw [if_neg hcn]
    refine awp_skip ?_
    refine awp_seq ?_
    refine awp_seq (awp_region ?_)
    refine al_pure rfl rfl rfl (pure_move rfl gU) ?_
    refine al_lenSl rfl rfl rfl rfl rfl gU rfl rfl ?_ (fun hh => by simp at hh); intro hlen
    refine al_pure rfl rfl rfl (pure_cmp rfl rfl gU gU rfl) ?_
    refine al_nil ?_
    refine awp_sub (s := { t := [(0, _, _), (4, _, _), (6, _, _), (53, _, _)], bx := [((.l 4), _)], ow := [] }) (sub_mk (⟨sx rfl, ⟨sx rfl, ⟨sx rfl, ⟨sx rfl, trivial⟩⟩⟩⟩) (⟨sx rfl, trivial⟩) trivial) ?_
    refine awp_cond rfl (fun hc3 => ?_) (fun hc3 => ?_)
    · try simp only [nn, strR_len] at hc3
      refine awp_seq (awp_region ?_)
      refine al_pure rfl rfl rfl (pure_build rfl Try.underlying62 rfl gU) ?_
      refine al_do rfl (does_store rfl rfl rfl rfl rfl rfl rfl) ?_
      refine al_pure rfl rfl rfl (pure_assign rfl gU) ?_
      refine al_nil ?_
      refine awp_ret ?_
      repeat (first | refine tR ?_ | refine bR ?_)
      refine ret_ok rfl ?_ trivial
      (rw [if_pos hc3]; rfl)
    · try simp only [nn, strR_len] at hc3
      rw [if_neg (by omega)]
      refine awp_skip ?_
      refine awp_seq ?_
      refine awp_seq (awp_region ?_)
      refine al_pure rfl rfl rfl (pure_move rfl gU) ?_
      refine al_pure rfl rfl rfl (pure_indexAddr (j := 0) rfl rfl gU gU rfl rfl (by first | omega | (simp at hh; omega)) (fun hh => strR_at (by first | omega | (simp at hh; omega)))) ?_
      refine al_pure rfl rfl rfl (pure_loadRo rfl gU rfl rfl rfl) ?_
      refine al_nil ?_
      refine awp_block ?_
      refine awp_seq (awp_region ?_)
      refine al_pure rfl rfl rfl (pure_cmpS rfl rfl gU gU rfl) ?_
      refine al_pure rfl rfl rfl (pure_assign rfl gU) ?_
      refine al_nil ?_
      refine awp_sub (s := { t := [(0, _, _), (4, _, _), (6, _, _), (57, _, _), (58, _, _)], bx := [((.l 4), _)], ow := [] }) (sub_mk (⟨sx rfl, ⟨sx rfl, ⟨sx rfl, ⟨sx rfl, ⟨sx rfl, trivial⟩⟩⟩⟩⟩) (⟨sx rfl, trivial⟩) trivial) ?_
      refine awp_cond rfl (fun hc1 => ?_) (fun hc1 => ?_)
      · try simp only [nn, strR_len] at hc1
        refine awp_seq (awp_region ?_)
        refine al_pure rfl rfl rfl (pure_move rfl gU) ?_
        refine al_pure rfl rfl rfl (pure_indexAddr (j := 1) rfl rfl gU gU rfl rfl (by first | omega | (simp at hh; omega)) (fun hh => strR_at (by first | omega | (simp at hh; omega)))) ?_
        refine al_pure rfl rfl rfl (pure_loadRo rfl gU rfl rfl rfl) ?_
        refine al_call rfl rfl rfl rfl rfl rfl gU gU (unhex_spec _ (by omega)) rfl ?_
        refine al_pure rfl rfl rfl (pure_move rfl gU) ?_
        refine al_pure rfl rfl rfl (pure_extract rfl gU rfl) ?_
        refine al_pure rfl rfl rfl (pure_extract rfl gU rfl) ?_
        refine al_pure rfl rfl rfl (pure_assign rfl gU) ?_
        refine al_pure rfl rfl rfl (pure_assign rfl gU) ?_
        refine al_nil ?_
        refine awp_sub (s := { t := [(4, _, _), (8, _, _), (9, _, _)], bx := [((.l 4), _)], ow := [] }) (sub_mk (⟨sx rfl, ⟨sx rfl, ⟨sx rfl, trivial⟩⟩⟩) (⟨sx rfl, trivial⟩) trivial) ?_
        refine awp_seq (awp_region ?_)
        refine al_pure rfl rfl rfl (pure_move rfl gU) ?_
        refine al_pure rfl rfl rfl (pure_build rfl Try.underlying62 rfl gU) ?_
        refine al_pure rfl rfl rfl (pure_move rfl gU) ?_
        refine al_do rfl (does_store rfl rfl rfl rfl rfl rfl rfl) ?_
        refine al_pure rfl rfl rfl (pure_assign rfl gU) ?_
        refine al_nil ?_
        refine awp_ret ?_
        repeat (first | refine tR ?_ | refine bR ?_)
        refine ret_ok rfl ?_ trivial
        ((repeat' (first | contradiction | split)) <;> rfl)
      · try simp only [nn, strR_len] at hc1
        refine awp_seq (awp_region ?_)
        refine al_pure rfl rfl rfl (pure_cmpS rfl rfl gU gU rfl) ?_
        refine al_pure rfl rfl rfl (pure_assign rfl gU) ?_
        refine al_nil ?_
        refine awp_cond rfl (fun hc2 => ?_) (fun hc2 => ?_)
        · try simp only [nn, strR_len] at hc2
          refine awp_seq ?_
          refine awp_drawn' (by kernel_rfl) ?_
          refine dr_pure rfl rfl rfl rfl (pure_move rfl gU) ?_
          refine dr_pure rfl rfl rfl rfl (pure_indexAddr (j := 1) rfl rfl gU gU rfl rfl (by first | omega | (simp at hh; omega)) (fun hh => strR_at (by first | omega | (simp at hh; omega)))) ?_
          refine dr_pure rfl rfl rfl rfl (pure_loadRo rfl gU rfl rfl rfl) ?_
          refine dr_callN rfl rfl rfl rfl rfl rfl rfl gU gU (number_spec _) rfl ?_
          refine dr_pure rfl rfl rfl rfl (pure_build rfl Try.underlying62 rfl gU) ?_
          refine dr_pure rfl rfl rfl rfl (pure_move rfl gU) ?_
          refine dr_pure rfl rfl rfl rfl (pure_indexAddr (j := 1) rfl rfl gU gU rfl rfl (by first | omega | (simp at hh; omega)) (fun hh => strR_at (by first | omega | (simp at hh; omega)))) ?_
          refine dr_pure rfl rfl rfl rfl (pure_loadRo rfl gU rfl rfl rfl) ?_
          refine dr_callN rfl rfl rfl rfl rfl rfl rfl gU gU (number_spec _) rfl ?_
          refine dr_pure rfl rfl rfl rfl (pure_cmp rfl rfl gU gU rfl) ?_
          refine dr_store rfl rfl rfl rfl rfl rfl rfl rfl rfl rfl rfl rfl ?_
          refine dr_pure rfl rfl rfl rfl (pure_assign rfl gU) ?_
          refine dr_nil (by kernel_rfl) ?_
          refine awp_ret ?_
          repeat (first | refine tR ?_ | refine bR ?_)
          refine ret_ok rfl ?_ trivial
          ((repeat' (first | contradiction | split)) <;> rfl)
        · try simp only [nn, strR_len] at hc2
          refine awp_seq (awp_region ?_)
          refine al_pure rfl rfl rfl (pure_cmpS rfl rfl gU gU rfl) ?_
          refine al_pure rfl rfl rfl (pure_assign rfl gU) ?_
          refine al_nil ?_
          refine awp_cond rfl (fun hc3 => ?_) (fun hc3 => ?_)
          · try simp only [nn, strR_len] at hc3
            refine awp_seq ?_
            refine awp_drawn' (by kernel_rfl) ?_
            refine dr_pure rfl rfl rfl rfl (pure_move rfl gU) ?_
            refine dr_pure rfl rfl rfl rfl (pure_indexAddr (j := 1) rfl rfl gU gU rfl rfl (by first | omega | (simp at hh; omega)) (fun hh => strR_at (by first | omega | (simp at hh; omega)))) ?_
            refine dr_pure rfl rfl rfl rfl (pure_loadRo rfl gU rfl rfl rfl) ?_
            refine dr_callN rfl rfl rfl rfl rfl rfl rfl gU gU (number_spec _) rfl ?_
            refine dr_pure rfl rfl rfl rfl (pure_build rfl Try.underlying62 rfl gU) ?_
            refine dr_pure rfl rfl rfl rfl (pure_move rfl gU) ?_
            refine dr_pure rfl rfl rfl rfl (pure_indexAddr (j := 1) rfl rfl gU gU rfl rfl (by first | omega | (simp at hh; omega)) (fun hh => strR_at (by first | omega | (simp at hh; omega)))) ?_
            refine dr_pure rfl rfl rfl rfl (pure_loadRo rfl gU rfl rfl rfl) ?_
            refine dr_callN rfl rfl rfl rfl rfl rfl rfl gU gU (number_spec _) rfl ?_
            refine dr_pure rfl rfl rfl rfl (pure_cmp rfl rfl gU gU rfl) ?_
            refine dr_store rfl rfl rfl rfl rfl rfl rfl rfl rfl rfl rfl rfl ?_
            refine dr_pure rfl rfl rfl rfl (pure_assign rfl gU) ?_
            refine dr_nil (by kernel_rfl) ?_
            refine awp_ret ?_
            repeat (first | refine tR ?_ | refine bR ?_)
            refine ret_ok rfl ?_ trivial
            ((repeat' (first | contradiction | split)) <;> rfl)
          · try simp only [nn, strR_len] at hc3
            refine awp_seq (awp_region ?_)
            refine al_pure rfl rfl rfl (pure_cmpS rfl rfl gU gU rfl) ?_
            refine al_pure rfl rfl rfl (pure_assign rfl gU) ?_
            refine al_nil ?_
            refine awp_sub (s := { t := [(0, _, _), (4, _, _), (6, _, _), (94, _, _)], bx := [((.l 4), _)], ow := [] }) (sub_mk (⟨sx rfl, ⟨sx rfl, ⟨sx rfl, ⟨sx rfl, trivial⟩⟩⟩⟩) (⟨sx rfl, trivial⟩) trivial) ?_
            refine awp_cond rfl (fun hc4 => ?_) (fun hc4 => ?_)
            · try simp only [nn, strR_len] at hc4
              refine awp_seq (awp_region ?_)
              refine al_pure rfl rfl rfl (pure_move rfl gU) ?_
              refine al_pure rfl rfl rfl (pure_move rfl gU) ?_
              refine al_pure rfl rfl rfl (pure_indexAddr (j := 1) rfl rfl gU gU rfl rfl (by first | omega | (simp at hh; omega)) (fun hh => strR_at (by first | omega | (simp at hh; omega)))) ?_
              refine al_pure rfl rfl rfl (pure_loadRo rfl gU rfl rfl rfl) ?_
              refine al_call rfl rfl rfl rfl rfl rfl gU gU (find_spec _ _ _ rfl) rfl ?_
              refine al_pure rfl rfl rfl (pure_assign rfl gU) ?_
              refine al_nil ?_
              refine awp_sub (s := { t := [(4, _, _), (10, _, _)], bx := [((.l 4), _)], ow := [] }) (sub_mk (⟨sx rfl, ⟨sx rfl, trivial⟩⟩) (⟨sx rfl, trivial⟩) trivial) ?_
              refine awp_seq (awp_region ?_)
              refine al_pure rfl rfl rfl (pure_move rfl gU) ?_
              refine al_pure rfl rfl rfl (pure_build rfl Try.underlying62 rfl gU) ?_
              refine al_pure rfl rfl rfl (pure_move rfl gU) ?_
              refine al_pure rfl rfl rfl (pure_cmp rfl rfl gU gU rfl) ?_
              refine al_do rfl (does_store rfl rfl rfl rfl rfl rfl rfl) ?_
              refine al_pure rfl rfl rfl (pure_assign rfl gU) ?_
              refine al_nil ?_
              refine awp_ret ?_
              repeat (first | refine tR ?_ | refine bR ?_)
              refine ret_ok rfl ?_ trivial
              ((repeat' (first | contradiction | split)) <;> rfl)
            · try simp only [nn, strR_len] at hc4
              refine awp_skip ?_
              refine awp_seq (awp_region ?_)
              refine al_pure rfl rfl rfl (pure_build rfl Try.underlying62 rfl gU) ?_
              refine al_do rfl (does_store rfl rfl rfl rfl rfl rfl rfl) ?_
              refine al_pure rfl rfl rfl (pure_assign rfl gU) ?_
              refine al_nil ?_
              refine awp_ret ?_
              repeat (first | refine tR ?_ | refine bR ?_)
              refine ret_ok rfl ?_ trivial
              ((repeat' (first | contradiction | split)) <;> rfl)
end Go.Proofs.Ytgjclggjkhapfaa
/- Contracts: the reference reads tables of formats from texts; small tables. -/
set_option linter.unusedVariables false
set_option linter.unusedSimpArgs false
namespace Go.Proofs.Ytgjclggjkhapfaa
open Go Go.Abs
def parseFields (t : List Fm) : List (List UInt8) → List Fd → Option (List Fd)
  | [], acc => some acc
  | w :: ws, acc => if (readE t w).2 = true then parseFields t ws (acc ++ [(readE t w).1]) else none
def parseLines : List (List UInt8) → List Fm → Option (List Fm)
  | [], out => some out
  | l :: ls, out => if (splitE l [58, 32]).length ≠ 2 then none else match parseFields out (splitE ((splitE l [58, 32]).getD 1 []) [44, 32]) [] with
    | none => none
    | some fs => parseLines ls (out ++ [⟨(splitE l [58, 32]).getD 0 [], fs⟩])
def parseE (s : List UInt8) : List Fm × Int :=
  if 2000 < s.length then ([], 3) else if (splitE s [10]).getD ((splitE s [10]).length - 1) [] ≠ [] then ([], 2)
  else match parseLines ((splitE s [10]).take ((splitE s [10]).length - 1)) [] with
    | none => ([], 2)
    | some out => if validE out ≠ 0 then ([], validE out) else (out, 0)
theorem Fd.rows_snoc (l : List Fd) (f : Fd) : Fd.rows l ++ [f.cells] = Fd.rows (l ++ [f]) := by simp [Fd.rows]
theorem Fm.rows_snoc (l : List Fm) (f : Fm) : Fm.rows l ++ [f.cells] = Fm.rows (l ++ [f]) := by simp [Fm.rows]
theorem xfd_snoc (l : List Fd) (f : Fd) : X.v (.c (.sl 5 (Fd.rows l ++ [f.cells]))) = xfs (l ++ [f]) := by simp [xfs, Fd.rows]
theorem xfm_snoc (l : List Fm) (f : Fm) : X.v (.c (.sl 2 (Fm.rows l ++ [f.cells]))) = xtab (l ++ [f]) := by simp [xtab, Fm.rows]
theorem parseFields_none {t : List Fm} {ws : List (List UInt8)} {acc : List Fd} {R : Option (List Fd)} (h : parseFields t ws acc = R) : parseFields t ws acc = R := h
abbrev xtabe (p : List Fm × Int) : X := .tup [.c (.sl 2 (Fm.rows p.1)), .c (.i .i64 p.2)]
theorem Parse_spec (s : List UInt8) : Ctr sys 34 [xs s] [] (xtabe (parseE s)) none [] := by
  unfold parseE
  have hsl := splitE_len s [10]
  have hg := splitE_get s [10]
  have hrl := strR_len (splitE s [10])
  refine spec_intro Try.func34 rfl rfl rfl rfl rfl rfl ?_
  refine awp_seq (awp_region ?_)
  refine al_do rfl (does_nil (.inr rfl) rfl rfl) ?_
  refine al_pure rfl rfl rfl (pure_assign rfl gU) ?_
  refine al_nil ?_
  refine awp_seq ?_
  refine awp_seq (awp_region ?_)
  refine al_pure rfl rfl rfl (pure_move rfl gU) ?_
  refine al_lenS rfl rfl rfl rfl rfl gU (Try.underlying9) ?_ (fun hh => by simp at hh); intro hlen
  refine al_pure rfl rfl rfl (pure_cmp rfl rfl gU gU rfl) ?_
  refine al_nil ?_
  refine awp_sub (s := { t := [(0, _, _), (16, _, _)], bx := [], ow := [] }) (sub_mk (⟨sx rfl, ⟨sx rfl, trivial⟩⟩) trivial trivial) ?_
  refine awp_cond rfl (fun hc => ?_) (fun hc => ?_)
  · try simp only [nn, strR_len] at hc
    refine awp_seq (awp_region ?_)
    refine al_do rfl (does_nil (.inr rfl) rfl rfl) ?_
    refine al_pure rfl rfl rfl (pure_assign rfl gU) ?_
    refine al_nil ?_
    refine awp_ret ?_
    repeat (first | refine tR ?_ | refine bR ?_)
    refine ret_ok rfl ?_ trivial
    (rw [if_pos (by omega)]; rfl)
  · try simp only [nn, strR_len] at hc
    rw [if_neg (by omega)]
    refine awp_skip ?_
    refine awp_seq (awp_region ?_)
    refine al_pure rfl rfl rfl (pure_move rfl gU) ?_
    refine al_call rfl rfl rfl rfl rfl rfl gU gU (split_spec s [10] (by omega) (by decide) (by decide)) rfl ?_
    refine al_pure rfl rfl rfl (pure_assign rfl gU) ?_
    refine al_nil ?_
    refine awp_seq ?_
    refine awp_seq (awp_region ?_)
    refine al_pure rfl rfl rfl (pure_move rfl gU) ?_
    refine al_pure rfl rfl rfl (pure_move rfl gU) ?_
    refine al_lenSl rfl rfl rfl rfl rfl gU rfl rfl ?_ (fun hh => by simp at hh); intro hlen
    refine al_pure rfl rfl rfl (pure_arith rfl rfl gU gU rfl (IntWalk.i64_in _ (by omega))) ?_
    refine al_pure rfl rfl rfl (pure_indexAddr (j := (splitE s [10]).length - 1) rfl rfl gU gU rfl rfl (by omega) (fun hh => strR_at (by omega))) ?_
    refine al_pure rfl rfl rfl (pure_loadRo rfl gU rfl rfl rfl) ?_
    refine al_pure rfl rfl rfl (pure_cmpS rfl rfl gU gU rfl) ?_
    refine al_nil ?_
    refine awp_sub (s := { t := [(4, _, _), (25, _, _)], bx := [], ow := [] }) (sub_mk (⟨sx rfl, ⟨sx rfl, trivial⟩⟩) trivial trivial) ?_
    refine awp_cond rfl (fun hc2 => ?_) (fun hc2 => ?_)
    · try simp only [nn, strR_len] at hc2
      refine awp_seq (awp_region ?_)
      refine al_do rfl (does_nil (.inr rfl) rfl rfl) ?_
      refine al_pure rfl rfl rfl (pure_assign rfl gU) ?_
      refine al_nil ?_
      refine awp_ret ?_
      repeat (first | refine tR ?_ | refine bR ?_)
      refine ret_ok rfl ?_ trivial
      (rw [if_pos (by exact hc2)]; rfl)
    · try simp only [nn, strR_len] at hc2
      rw [if_neg (by simpa using hc2)]
      generalize hL : splitE s [10] = L at *
      refine awp_skip ?_
      refine awp_seq (awp_region ?_)
      refine al_do rfl (does_nil (.inr rfl) rfl rfl) ?_
      refine al_nil ?_
      refine awp_seq ?_
      refine awp_seq (awp_region ?_)
      refine al_pure rfl rfl rfl (pure_assign rfl gU) ?_
      refine al_nil ?_
      refine awp_block ?_
      refine awp_for (ι := Nat × List Fm) { t := [(4, _, _)], bx := [], ow := [((.t 5), _)] } (fun p => [(6, true, xi (p.1 : Int)), (5, true, xtab p.2)]) (fun p => []) (fun p => p.1 + 1 ≤ L.length ∧ p.2.length ≤ p.1 ∧ parseLines ((L.take (L.length - 1)).drop p.1) p.2 = parseLines (L.take (L.length - 1)) []) (fun p => L.length - p.1) ((0, [])) (⟨by simp; omega, by simp, rfl⟩) (sub_mk (⟨sx rfl, ⟨sx rfl, ⟨sx rfl, trivial⟩⟩⟩) trivial (⟨rfl, trivial⟩)) ?_
      intro p hok
      dsimp only [List.cons_append, List.nil_append] at *
      obtain ⟨k, out⟩ := p
      dsimp only at hok ⊢
      obtain ⟨h1, h2, h3⟩ := hok
      refine awp_seq ?_
      refine awp_seq (awp_region ?_)
      refine al_pure rfl rfl rfl (pure_move rfl gU) ?_
      refine al_pure rfl rfl rfl (pure_move rfl gU) ?_
      refine al_lenSl rfl rfl rfl rfl rfl gU rfl rfl ?_ (fun hh => by simp at hh); intro hlen
      refine al_pure rfl rfl rfl (pure_arith rfl rfl gU gU rfl (IntWalk.i64_in _ (by omega))) ?_
      refine al_pure rfl rfl rfl (pure_cmp rfl rfl gU gU rfl) ?_
      refine al_nil ?_
      refine awp_sub (s := { t := [(4, _, _), (5, _, _), (6, _, _), (30, _, _)], bx := [], ow := [((.t 5), _)] }) (sub_mk (⟨sx rfl, ⟨sx rfl, ⟨sx rfl, ⟨sx rfl, trivial⟩⟩⟩⟩) trivial (⟨rfl, trivial⟩)) ?_
      refine awp_cond rfl (fun hc3 => ?_) (fun hc3 => ?_)
      · try simp only [nn, strR_len] at hc3
        have hk : (L.take (L.length - 1)).getD k [] = L.getD k [] := getD_take _ _ (by omega)
        rw [dropD (d := []) (by simp; omega), hk, parseLines] at h3
        have hgk := hg k
        have hpl := splitE_len (L.getD k []) [58, 32]
        have hpg := splitE_get (L.getD k []) [58, 32] 1
        have hpr := strR_len (splitE (L.getD k []) [58, 32])
        refine awp_skip ?_
        refine awp_seq ?_
        refine awp_block ?_
        refine awp_seq (awp_region ?_)
        refine al_pure rfl rfl rfl (pure_move rfl gU) ?_
        refine al_pure rfl rfl rfl (pure_move rfl gU) ?_
        refine al_pure rfl rfl rfl (pure_indexAddr rfl rfl gU gU rfl rfl rfl (fun hh => strR_at (by omega))) ?_
        refine al_pure rfl rfl rfl (pure_loadRo rfl gU rfl rfl rfl) ?_
        refine al_call rfl rfl rfl rfl rfl rfl gU gU (split_spec _ [58, 32] (by omega) (by decide) (by decide)) rfl ?_
        refine al_pure rfl rfl rfl (pure_assign rfl gU) ?_
        refine al_nil ?_
        refine awp_sub (s := { t := [(4, _, _), (5, _, _), (6, _, _), (7, _, _)], bx := [], ow := [((.t 5), _)] }) (sub_mk (⟨sx rfl, ⟨sx rfl, ⟨sx rfl, ⟨sx rfl, trivial⟩⟩⟩⟩) trivial (⟨rfl, trivial⟩)) ?_
        refine awp_seq ?_
        refine awp_seq (awp_region ?_)
        refine al_pure rfl rfl rfl (pure_move rfl gU) ?_
        refine al_lenSl rfl rfl rfl rfl rfl gU rfl rfl ?_ (fun hh => by simp at hh); intro hlen
        refine al_pure rfl rfl rfl (pure_cmp rfl rfl gU gU rfl) ?_
        refine al_nil ?_
        refine awp_cond rfl (fun hc4 => ?_) (fun hc4 => ?_)
        · try simp only [nn, strR_len] at hc4
          rw [if_pos (by omega)] at h3
          refine awp_seq (awp_region ?_)
          refine al_do rfl (does_nil (.inr rfl) rfl rfl) ?_
          refine al_pure rfl rfl rfl (pure_assign rfl gU) ?_
          refine al_nil ?_
          refine awp_ret ?_
          repeat (first | refine tR ?_ | refine bR ?_)
          refine ret_ok rfl ?_ trivial
          (rw [← h3]; rfl)
        · try simp only [nn, strR_len] at hc4
          rw [if_neg (by omega)] at h3
          generalize hP : splitE (L.getD k []) [58, 32] = P at *
          have hwl := splitE_len (P.getD 1 []) [44, 32]
          have hwg := splitE_get (P.getD 1 []) [44, 32]
          have hwr := strR_len (splitE (P.getD 1 []) [44, 32])
          refine awp_skip ?_
          refine awp_seq (awp_region ?_)
          refine al_pure rfl rfl rfl (pure_move rfl gU) ?_
          refine al_pure rfl rfl rfl (pure_indexAddr (j := 0) rfl rfl gU gU rfl rfl (by omega) (fun hh => strR_at (by omega))) ?_
          refine al_pure rfl rfl rfl (pure_loadRo rfl gU rfl rfl rfl) ?_
          refine al_pure rfl rfl rfl (pure_buildX rfl Try.underlying60 rfl gU) ?_
          refine al_do rfl (does_alloc rfl rfl rfl) ?_
          refine al_do rfl (does_store rfl rfl rfl rfl rfl rfl rfl) ?_
          refine al_nil ?_
          refine awp_sub (s := { t := [(4, _, _), (5, _, _), (6, _, _), (7, _, _), (8, _, _)], bx := [((.l 8), _)], ow := [((.t 5), _)] }) (sub_mk (⟨sx rfl, ⟨sx rfl, ⟨sx rfl, ⟨sx rfl, ⟨sx rfl, trivial⟩⟩⟩⟩⟩) (⟨sx rfl, trivial⟩) (⟨rfl, trivial⟩)) ?_
          refine awp_seq (awp_region ?_)
          refine al_pure rfl rfl rfl (pure_move rfl gU) ?_
          refine al_pure rfl rfl rfl (pure_indexAddr (j := 1) rfl rfl gU gU rfl rfl (by omega) (fun hh => strR_at (by omega))) ?_
          refine al_pure rfl rfl rfl (pure_loadRo rfl gU rfl rfl rfl) ?_
          refine al_call rfl rfl rfl rfl rfl rfl gU gU (split_spec _ [44, 32] (by omega) (by decide) (by decide)) rfl ?_
          refine al_pure rfl rfl rfl (pure_assign rfl gU) ?_
          refine al_nil ?_
          refine awp_sub (s := { t := [(4, _, _), (5, _, _), (6, _, _), (8, _, _), (9, _, _)], bx := [((.l 8), _)], ow := [((.t 5), _)] }) (sub_mk (⟨sx rfl, ⟨sx rfl, ⟨sx rfl, ⟨sx rfl, ⟨sx rfl, trivial⟩⟩⟩⟩⟩) (⟨sx rfl, trivial⟩) (⟨rfl, trivial⟩)) ?_
          refine awp_seq ?_
          refine awp_seq (awp_region ?_)
          refine al_pure rfl rfl rfl (pure_assign rfl gU) ?_
          refine al_nil ?_
          refine awp_block ?_
          generalize hW : splitE (P.getD 1 []) [44, 32] = W at *
          refine awp_own (.l 8) 1 5 rfl rfl rfl ?_
          refine awp_for (ι := Nat × List Fd) { t := [(4, _, _), (5, _, _), (6, _, _), (8, _, _), (9, _, _)], bx := [], ow := [((.b (.l 8) 1), _), ((.t 5), _)] } (fun q => [(10, true, xi (q.1 : Int))]) (fun q => [((.l 8), [.s (P.getD 0 []), .sl 5 (Fd.rows q.2)])]) (fun q => q.1 ≤ W.length ∧ q.2.length ≤ q.1 ∧ parseFields out (W.drop q.1) q.2 = parseFields out W []) (fun q => W.length - q.1) ((0, [])) (⟨by simp, by simp, rfl⟩) (sub_mk (⟨sx rfl, ⟨sx rfl, ⟨sx rfl, ⟨sx rfl, ⟨sx rfl, ⟨sx rfl, trivial⟩⟩⟩⟩⟩⟩) (⟨sx rfl, trivial⟩) (⟨rfl, ⟨rfl, trivial⟩⟩)) ?_
          intro q hok2
          dsimp only [List.cons_append, List.nil_append] at *
          obtain ⟨j, fs⟩ := q
          dsimp only at hok2 ⊢
          obtain ⟨g1, g2, g3⟩ := hok2
          have hwj := hwg j
          refine awp_seq ?_
          refine awp_seq (awp_region ?_)
          refine al_pure rfl rfl rfl (pure_move rfl gU) ?_
          refine al_pure rfl rfl rfl (pure_move rfl gU) ?_
          refine al_lenSl rfl rfl rfl rfl rfl gU rfl rfl ?_ (fun hh => by simp at hh); intro hlen
          refine al_pure rfl rfl rfl (pure_cmp rfl rfl gU gU rfl) ?_
          refine al_nil ?_
          refine awp_cond rfl (fun hc5 => ?_) (fun hc5 => ?_)
          · try simp only [nn, strR_len] at hc5
            rw [dropD (d := []) (by omega), parseFields] at g3
            refine awp_skip ?_
            refine awp_seq ?_
            refine awp_block ?_
            refine awp_seq (awp_region ?_)
            refine al_pure rfl rfl rfl (pure_move rfl gU) ?_
            refine al_pure rfl rfl rfl (pure_move rfl gU) ?_
            refine al_pure rfl rfl rfl (pure_move rfl gU) ?_
            refine al_pure rfl rfl rfl (pure_indexAddr rfl rfl gU gU rfl rfl rfl (fun hh => strR_at (by omega))) ?_
            refine al_pure rfl rfl rfl (pure_loadRo rfl gU rfl rfl rfl) ?_
            refine al_call rfl rfl rfl rfl rfl rfl gU gU (read_spec _ _ (by omega)) rfl ?_
            refine al_pure rfl rfl rfl (pure_move rfl gU) ?_
            refine al_pure rfl rfl rfl (pure_extract rfl gU rfl) ?_
            refine al_sub (s := { t := [(4, _, _), (5, _, _), (6, _, _), (8, _, _), (9, _, _), (10, _, _), (55, _, _), (62, _, _)], bx := [((.l 8), _)], ow := [((.b (.l 8) 1), _), ((.t 5), _)] }) (sub_mk (⟨sx rfl, ⟨sx rfl, ⟨sx rfl, ⟨sx rfl, ⟨sx rfl, ⟨sx rfl, ⟨sx rfl, ⟨sx rfl, trivial⟩⟩⟩⟩⟩⟩⟩⟩) (⟨sx rfl, trivial⟩) (⟨rfl, ⟨rfl, trivial⟩⟩)) ?_
            refine al_pure rfl rfl rfl (pure_extract rfl gU rfl) ?_
            refine al_do rfl (does_alloc rfl rfl rfl) ?_
            refine al_do rfl (does_store rfl rfl rfl rfl rfl rfl rfl) ?_
            refine al_pure rfl rfl rfl (pure_assign rfl gU) ?_
            refine al_nil ?_
            refine awp_seq ?_
            refine awp_seq (awp_region ?_)
            refine al_pure rfl rfl rfl (pure_move rfl gU) ?_
            refine al_pure rfl rfl rfl (pure_not rfl gU) ?_
            refine al_nil ?_
            refine awp_sub (s := { t := [(4, _, _), (5, _, _), (6, _, _), (8, _, _), (9, _, _), (10, _, _), (11, _, _), (65, _, _)], bx := [((.l 11), _), ((.l 8), _)], ow := [((.b (.l 8) 1), _), ((.t 5), _)] }) (sub_mk (⟨sx rfl, ⟨sx rfl, ⟨sx rfl, ⟨sx rfl, ⟨sx rfl, ⟨sx rfl, ⟨sx rfl, ⟨sx rfl, trivial⟩⟩⟩⟩⟩⟩⟩⟩) (⟨sx rfl, ⟨sx rfl, trivial⟩⟩) (⟨rfl, ⟨rfl, trivial⟩⟩)) ?_
            refine awp_cond rfl (fun hc6 => ?_) (fun hc6 => ?_)
            · try simp only [nn, strR_len] at hc6
              rw [if_neg (by rw [hc6]; simp)] at g3
              rw [← g3] at h3
              refine awp_seq (awp_region ?_)
              refine al_do rfl (does_nil (.inr rfl) rfl rfl) ?_
              refine al_pure rfl rfl rfl (pure_assign rfl gU) ?_
              refine al_nil ?_
              refine awp_ret ?_
              repeat (first | refine tR ?_ | refine bR ?_)
              refine ret_ok rfl ?_ trivial
              (rw [← h3]; rfl)
            · try simp only [nn, strR_len] at hc6
              rw [if_pos hc6] at g3
              refine awp_skip ?_
              refine awp_region ?_
              refine al_pure rfl rfl rfl (pure_fieldPtr rfl gU rfl rfl) ?_
              refine al_do rfl (does_loadTake rfl rfl rfl rfl rfl rfl rfl) ?_
              refine al_pure rfl rfl rfl (pure_loadBoxRow rfl gU rfl rfl rfl rfl rfl) ?_
              refine al_buildSlice (xs := [_]) rfl rfl rfl rfl rfl rfl rfl rfl rfl gU rfl ?_
              refine al_do rfl (does_append rfl rfl rfl rfl rfl rfl rfl (by simp [Fd.rows_len, Fm.rows_len]; omega) (by simp [Fd.rows_len, Fm.rows_len]; omega)) ?_
              refine al_pure rfl rfl rfl (pure_fieldPtr rfl gU rfl rfl) ?_
              refine al_do rfl (does_storeOwn rfl rfl rfl rfl rfl rfl rfl) ?_
              refine al_nil ?_
              refine awp_sub (s := { t := [(4, _, _), (5, _, _), (6, _, _), (8, _, _), (9, _, _), (10, _, _)], bx := [((.l 8), _)], ow := [((.b (.l 8) 1), _), ((.t 5), _)] }) (sub_mk (⟨sx rfl, ⟨sx rfl, ⟨sx rfl, ⟨sx rfl, ⟨sx rfl, ⟨sx rfl, trivial⟩⟩⟩⟩⟩⟩) (⟨sx rfl, trivial⟩) (⟨rfl, ⟨rfl, trivial⟩⟩)) ?_
              refine awp_region ?_
              refine al_pure rfl rfl rfl (pure_move rfl gU) ?_
              refine al_pure rfl rfl rfl (pure_arith rfl rfl gU gU rfl (IntWalk.i64_in _ (by omega))) ?_
              refine al_pure rfl rfl rfl (pure_assign rfl gU) ?_
              refine al_nil ?_
              refine ⟨(j + 1, fs ++ [(readE out (W.getD j [])).1]), ?_, ?_, sub_mk (⟨⟨_, rfl, ?_⟩, ⟨sx rfl, ⟨sx rfl, ⟨sx rfl, ⟨sx rfl, ⟨sx rfl, trivial⟩⟩⟩⟩⟩⟩) (⟨⟨_, rfl, ?_⟩, trivial⟩) (⟨rfl, ⟨rfl, trivial⟩⟩)⟩
              · exact ⟨by dsimp only; omega, by simp; omega, g3⟩
              · dsimp only; omega
              · rfl
              · show [C.s _, C.sl 5 (Fd.rows fs ++ [(readE out (W.getD j [])).1.cells])] = _
                rw [Fd.rows_snoc]
          · try simp only [nn, strR_len] at hc5
            rw [List.drop_of_length_le (by omega), parseFields] at g3
            rw [← g3] at h3
            refine awp_exit ?_
            repeat (first | refine thenS_exit ?_ | refine blockS_hit ?_ | refine blockS_miss rfl ?_)
            refine awp_region ?_
            refine al_do rfl (does_take (.inl rfl) rfl rfl rfl) ?_
            refine al_pure rfl rfl rfl (pure_loadBoxRow rfl gU rfl rfl rfl rfl rfl) ?_
            refine al_buildSlice (xs := [_]) rfl rfl rfl rfl rfl rfl rfl rfl rfl gU rfl ?_
            refine al_do rfl (does_append rfl rfl rfl rfl rfl rfl rfl (by simp [Fd.rows_len, Fm.rows_len]; omega) (by simp [Fd.rows_len, Fm.rows_len]; omega)) ?_
            refine al_do rfl (does_take (.inr rfl) rfl rfl rfl) ?_
            refine al_nil ?_
            refine awp_sub (s := { t := [(4, _, _), (5, _, _), (6, _, _)], bx := [], ow := [((.t 5), _)] }) (sub_mk (⟨sx rfl, ⟨sx rfl, ⟨sx rfl, trivial⟩⟩⟩) trivial (⟨rfl, trivial⟩)) ?_
            refine awp_region ?_
            refine al_pure rfl rfl rfl (pure_move rfl gU) ?_
            refine al_pure rfl rfl rfl (pure_arith rfl rfl gU gU rfl (IntWalk.i64_in _ (by omega))) ?_
            refine al_pure rfl rfl rfl (pure_assign rfl gU) ?_
            refine al_nil ?_
            refine ⟨(k + 1, out ++ [⟨P.getD 0 [], fs⟩]), ?_, ?_, sub_mk (⟨⟨_, rfl, ?_⟩, ⟨⟨_, rfl, ?_⟩, ⟨sx rfl, trivial⟩⟩⟩) trivial (⟨rfl, trivial⟩)⟩
            · exact ⟨by dsimp only; omega, by simp; omega, h3⟩
            · dsimp only; omega
            · rfl
            · exact tx (xfm_snoc _ ⟨P.getD 0 [], fs⟩)
      · try simp only [nn, strR_len] at hc3
        rw [List.drop_of_length_le (by simp; omega), parseLines] at h3
        rw [← h3]
        dsimp only
        refine awp_exit ?_
        repeat (first | refine thenS_exit ?_ | refine blockS_hit ?_ | refine blockS_miss rfl ?_)
        refine awp_seq ?_
        refine awp_seq (awp_region ?_)
        refine al_pure rfl rfl rfl (pure_move rfl gU) ?_
        refine al_call rfl rfl rfl rfl rfl rfl gU gU (rValid_spec _) rfl ?_
        refine al_pure rfl rfl rfl (pure_assign rfl gU) ?_
        refine al_nil ?_
        refine awp_seq (awp_region ?_)
        refine al_pure rfl rfl rfl (pure_move rfl gU) ?_
        refine al_pure rfl rfl rfl (pure_cmp rfl rfl gU gU rfl) ?_
        refine al_nil ?_
        refine awp_sub (s := { t := [(5, _, _), (13, _, _), (79, _, _)], bx := [], ow := [((.t 5), _)] }) (sub_mk (⟨sx rfl, ⟨sx rfl, ⟨sx rfl, trivial⟩⟩⟩) trivial (⟨rfl, trivial⟩)) ?_
        refine awp_cond rfl (fun hc4 => ?_) (fun hc4 => ?_)
        · try simp only [nn, strR_len] at hc4
          refine awp_seq (awp_region ?_)
          refine al_pure rfl rfl rfl (pure_move rfl gU) ?_
          refine al_do rfl (does_nil (.inr rfl) rfl rfl) ?_
          refine al_pure rfl rfl rfl (pure_assign rfl gU) ?_
          refine al_nil ?_
          refine awp_ret ?_
          repeat (first | refine tR ?_ | refine bR ?_)
          refine ret_ok rfl ?_ trivial
          (rw [if_pos hc4]; rfl)
        · try simp only [nn, strR_len] at hc4
          refine awp_skip ?_
          refine awp_seq (awp_region ?_)
          refine al_do rfl (does_take (.inl rfl) rfl rfl rfl) ?_
          refine al_do rfl (does_take (.inr rfl) rfl rfl rfl) ?_
          refine al_pure rfl rfl rfl (pure_assign rfl gU) ?_
          refine al_nil ?_
          refine awp_ret ?_
          repeat (first | refine tR ?_ | refine bR ?_)
          refine ret_ok rfl ?_ trivial
          (rw [if_neg (by simpa using hc4)]; rfl)
def fewF (f : Fm) : Bool := decide (f.name.length ≤ 100) && decide (f.fields.length ≤ 12) && f.fields.all fun x => decide (x.bytes.length ≤ 40)
def fewT (t : List Fm) : Bool := decide (t.length ≤ 12) && t.all fewF
theorem Few_spec (t : List Fm) : Ctr sys 11 [xtab t] [] (xb (fewT t)) none [] := by
  have hrl := Fm.rows_len t
  refine spec_intro Try.func11 rfl rfl rfl rfl rfl rfl ?_
  refine awp_seq (awp_region ?_)
  refine al_pure rfl rfl rfl (pure_assign rfl gU) ?_
  refine al_nil ?_
  refine awp_seq ?_
  refine awp_seq (awp_region ?_)
  refine al_pure rfl rfl rfl (pure_move rfl gU) ?_
  refine al_lenSl rfl rfl rfl rfl rfl gU rfl rfl ?_ (fun hh => by simp at hh); intro hlen
  refine al_pure rfl rfl rfl (pure_cmp rfl rfl gU gU rfl) ?_
  refine al_nil ?_
  refine awp_cond rfl (fun hc => ?_) (fun hc => ?_)
  · try simp only [nn, Fm.rows_len, Fd.rows_len] at hc
    refine awp_seq (awp_region ?_)
    refine al_pure rfl rfl rfl (pure_assign rfl gU) ?_
    refine al_nil ?_
    refine awp_ret ?_
    repeat (first | refine tR ?_ | refine bR ?_)
    refine ret_ok rfl ?_ trivial
    exact xb_eq (by simp [fewT]; omega)
  · try simp only [nn, Fm.rows_len, Fd.rows_len] at hc
    have he : fewT t = t.all fewF := by simp [fewT]; omega
    rw [he]
    refine awp_skip ?_
    refine awp_seq ?_
    refine awp_seq (awp_region ?_)
    refine al_pure rfl rfl rfl (pure_assign rfl gU) ?_
    refine al_nil ?_
    refine awp_sub (s := { t := [(0, _, _), (3, _, _)], bx := [], ow := [] }) (sub_mk (⟨sx rfl, ⟨sx rfl, trivial⟩⟩) trivial trivial) ?_
    refine awp_block ?_
    refine awp_for (ι := Nat) { t := [(0, _, _)], bx := [], ow := [] } (fun k => [(3, true, xi (k : Int))]) (fun k => []) (fun k => k ≤ t.length ∧ (t.drop k).all fewF = t.all fewF) (fun k => t.length - k) (0) (by simp) (sub_mk (⟨sx rfl, ⟨sx rfl, trivial⟩⟩) trivial trivial) ?_
    intro k hok
    dsimp only [List.cons_append, List.nil_append]
    obtain ⟨hk, hi⟩ := hok
    refine awp_seq ?_
    refine awp_seq (awp_region ?_)
    refine al_pure rfl rfl rfl (pure_move rfl gU) ?_
    refine al_pure rfl rfl rfl (pure_move rfl gU) ?_
    refine al_lenSl rfl rfl rfl rfl rfl gU rfl rfl ?_ (fun hh => by simp at hh); intro hlen
    refine al_pure rfl rfl rfl (pure_cmp rfl rfl gU gU rfl) ?_
    refine al_nil ?_
    refine awp_cond rfl (fun hc2 => ?_) (fun hc2 => ?_)
    · try simp only [nn, Fm.rows_len, Fd.rows_len] at hc2
      rw [drop_getD (by omega), List.all_cons] at hi
      have hrf := Fd.rows_len (t.getD k default).fields
      refine awp_skip ?_
      refine awp_seq ?_
      refine awp_block ?_
      refine awp_seq ?_
      refine awp_seq (awp_region ?_)
      refine al_pure rfl rfl rfl (pure_move rfl gU) ?_
      refine al_pure rfl rfl rfl (pure_move rfl gU) ?_
      refine al_pure rfl rfl rfl (pure_indexAddr rfl rfl gU gU rfl rfl rfl (fun hh => Fm.rows_at (by omega))) ?_
      refine al_pure rfl rfl rfl (pure_fieldRo rfl gU rfl rfl) ?_
      refine al_pure rfl rfl rfl (pure_loadRo rfl gU rfl rfl rfl) ?_
      refine al_lenS rfl rfl rfl rfl rfl gU (Try.underlying9) ?_ (fun hh => by simp at hh); intro hlen
      refine al_pure rfl rfl rfl (pure_cmp rfl rfl gU gU rfl) ?_
      refine al_pure rfl rfl rfl (pure_move rfl gU) ?_
      refine al_sub (s := { t := [(0, _, _), (3, _, _), (21, _, _)], bx := [], ow := [] }) (sub_mk (⟨sx rfl, ⟨sx rfl, ⟨sx rfl, trivial⟩⟩⟩) trivial trivial) ?_
      refine al_pure rfl rfl rfl (pure_move rfl gU) ?_
      refine al_pure rfl rfl rfl (pure_move rfl gU) ?_
      refine al_pure rfl rfl rfl (pure_indexAddr rfl rfl (fun hh => hh) (fun hh => hh) rfl rfl rfl (fun hh => Fm.rows_at (by omega))) ?_
      refine al_pure rfl rfl rfl (pure_fieldRo rfl (fun hh => hh) rfl rfl) ?_
      refine al_pure rfl rfl rfl (pure_loadRo rfl (fun hh => hh) rfl rfl rfl) ?_
      refine al_pure rfl rfl rfl (pure_lenSl rfl (fun hh => hh) rfl rfl) ?_
      refine al_pure rfl rfl rfl (pure_cmp rfl rfl (fun hh => hh) gU rfl) ?_
      refine al_pure rfl rfl rfl (pure_or rfl rfl gU (fun _ hi => gP rfl hi)) ?_
      refine al_nil ?_
      refine awp_sub (s := { t := [(0, _, _), (3, _, _), (29, _, _)], bx := [], ow := [] }) (sub_mk (⟨sx rfl, ⟨sx rfl, ⟨sx rfl, trivial⟩⟩⟩) trivial trivial) ?_
      refine awp_cond rfl (fun hc3 => ?_) (fun hc3 => ?_)
      · try simp only [nn, Fm.rows_len, Fd.rows_len] at hc3
        have : fewF (t.getD k default) = false := by simp only [fewF, Bool.and_eq_false_iff, decide_eq_false_iff_not]; omega
        refine awp_seq (awp_region ?_)
        refine al_pure rfl rfl rfl (pure_assign rfl gU) ?_
        refine al_nil ?_
        refine awp_ret ?_
        repeat (first | refine tR ?_ | refine bR ?_)
        refine ret_ok rfl ?_ trivial
        exact xb_eq (by rw [← hi, this]; rfl)
      · try simp only [nn, Fm.rows_len, Fd.rows_len] at hc3
        have hf : fewF (t.getD k default) = (t.getD k default).fields.all fun x => decide (x.bytes.length ≤ 40) := by
          unfold fewF
          rw [decide_eq_true (by omega), decide_eq_true (by omega)]; rfl
        refine awp_skip ?_
        refine awp_seq (awp_region ?_)
        refine al_pure rfl rfl rfl (pure_assign rfl gU) ?_
        refine al_nil ?_
        refine awp_block ?_
        refine awp_for (ι := Nat) { t := [(0, _, _), (3, _, _)], bx := [], ow := [] } (fun j => [(4, true, xi (j : Int))]) (fun j => []) (fun j => j ≤ (t.getD k default).fields.length ∧ ((t.getD k default).fields.drop j).all (fun x => decide (x.bytes.length ≤ 40)) = fewF (t.getD k default)) (fun j => (t.getD k default).fields.length - j) (0) (⟨by simp, by rw [hf]; rfl⟩) (sub_mk (⟨sx rfl, ⟨sx rfl, ⟨sx rfl, trivial⟩⟩⟩) trivial trivial) ?_
        intro j hok2
        dsimp only [List.cons_append, List.nil_append]
        obtain ⟨hj, hi2⟩ := hok2
        refine awp_seq ?_
        refine awp_seq (awp_region ?_)
        refine al_pure rfl rfl rfl (pure_move rfl gU) ?_
        refine al_pure rfl rfl rfl (pure_move rfl gU) ?_
        refine al_pure rfl rfl rfl (pure_move rfl gU) ?_
        refine al_pure rfl rfl rfl (pure_indexAddr rfl rfl gU gU rfl rfl rfl (fun hh => Fm.rows_at (by omega))) ?_
        refine al_pure rfl rfl rfl (pure_fieldRo rfl gU rfl rfl) ?_
        refine al_pure rfl rfl rfl (pure_loadRo rfl gU rfl rfl rfl) ?_
        refine al_lenSl rfl rfl rfl rfl rfl gU rfl rfl ?_ (fun hh => by simp at hh); intro hlen
        refine al_pure rfl rfl rfl (pure_cmp rfl rfl gU gU rfl) ?_
        refine al_nil ?_
        refine awp_sub (s := { t := [(0, _, _), (3, _, _), (4, _, _), (37, _, _)], bx := [], ow := [] }) (sub_mk (⟨sx rfl, ⟨sx rfl, ⟨sx rfl, ⟨sx rfl, trivial⟩⟩⟩⟩) trivial trivial) ?_
        refine awp_cond rfl (fun hc4 => ?_) (fun hc4 => ?_)
        · try simp only [nn, Fm.rows_len, Fd.rows_len] at hc4
          rw [drop_getD (by omega), List.all_cons] at hi2
          refine awp_skip ?_
          refine awp_seq ?_
          refine awp_block ?_
          refine awp_seq (awp_region ?_)
          refine al_pure rfl rfl rfl (pure_move rfl gU) ?_
          refine al_pure rfl rfl rfl (pure_move rfl gU) ?_
          refine al_pure rfl rfl rfl (pure_indexAddr rfl rfl gU gU rfl rfl rfl (fun hh => Fm.rows_at (by omega))) ?_
          refine al_pure rfl rfl rfl (pure_fieldRo rfl gU rfl rfl) ?_
          refine al_pure rfl rfl rfl (pure_loadRo rfl gU rfl rfl rfl) ?_
          refine al_pure rfl rfl rfl (pure_move rfl gU) ?_
          refine al_pure rfl rfl rfl (pure_indexAddr rfl rfl gU gU rfl rfl rfl (fun hh => Fd.rows_at (by omega))) ?_
          refine al_pure rfl rfl rfl (pure_fieldRo rfl gU rfl rfl) ?_
          refine al_pure rfl rfl rfl (pure_loadRo rfl gU rfl rfl rfl) ?_
          refine al_lenS rfl rfl rfl rfl rfl gU (Try.underlying9) ?_ (fun hh => by simp at hh); intro hlen
          refine al_pure rfl rfl rfl (pure_cmp rfl rfl gU gU rfl) ?_
          refine al_nil ?_
          refine awp_sub (s := { t := [(0, _, _), (3, _, _), (4, _, _), (50, _, _)], bx := [], ow := [] }) (sub_mk (⟨sx rfl, ⟨sx rfl, ⟨sx rfl, ⟨sx rfl, trivial⟩⟩⟩⟩) trivial trivial) ?_
          refine awp_cond rfl (fun hc5 => ?_) (fun hc5 => ?_)
          · try simp only [nn, Fm.rows_len, Fd.rows_len] at hc5
            rw [decide_eq_false (by omega)] at hi2
            refine awp_seq (awp_region ?_)
            refine al_pure rfl rfl rfl (pure_assign rfl gU) ?_
            refine al_nil ?_
            refine awp_ret ?_
            repeat (first | refine tR ?_ | refine bR ?_)
            refine ret_ok rfl ?_ trivial
            exact xb_eq (by rw [← hi, ← hi2]; rfl)
          · try simp only [nn, Fm.rows_len, Fd.rows_len] at hc5
            rw [decide_eq_true (by omega), Bool.true_and] at hi2
            refine awp_skip ?_
            refine awp_region ?_
            refine al_pure rfl rfl rfl (pure_move rfl gU) ?_
            refine al_pure rfl rfl rfl (pure_arith rfl rfl gU gU rfl (IntWalk.i64_in _ (by omega))) ?_
            refine al_pure rfl rfl rfl (pure_assign rfl gU) ?_
            refine al_nil ?_
            refine ⟨j + 1, ?_, ?_, sub_mk (⟨⟨_, rfl, ?_⟩, ⟨sx rfl, ⟨sx rfl, trivial⟩⟩⟩) trivial trivial⟩
            · exact ⟨by omega, hi2⟩
            · omega
            · rfl
        · try simp only [nn, Fm.rows_len, Fd.rows_len] at hc4
          rw [List.drop_of_length_le (by omega)] at hi2
          refine awp_exit ?_
          repeat (first | refine thenS_exit ?_ | refine blockS_hit ?_ | refine blockS_miss rfl ?_)
          refine awp_region ?_
          refine al_pure rfl rfl rfl (pure_move rfl gU) ?_
          refine al_pure rfl rfl rfl (pure_arith rfl rfl gU gU rfl (IntWalk.i64_in _ (by omega))) ?_
          refine al_pure rfl rfl rfl (pure_assign rfl gU) ?_
          refine al_nil ?_
          refine ⟨k + 1, ?_, ?_, sub_mk (⟨⟨_, rfl, ?_⟩, ⟨sx rfl, trivial⟩⟩) trivial trivial⟩
          · refine ⟨by omega, ?_⟩
            rw [← hi2] at hi; simpa using hi
          · omega
          · rfl
    · try simp only [nn, Fm.rows_len, Fd.rows_len] at hc2
      rw [List.drop_of_length_le (by omega)] at hi
      refine awp_exit ?_
      repeat (first | refine thenS_exit ?_ | refine blockS_hit ?_ | refine blockS_miss rfl ?_)
      refine awp_seq (awp_region ?_)
      refine al_pure rfl rfl rfl (pure_assign rfl gU) ?_
      refine al_nil ?_
      refine awp_ret ?_
      repeat (first | refine tR ?_ | refine bR ?_)
      refine ret_ok rfl ?_ trivial
      exact xb_eq (by rw [← hi]; rfl)
end Go.Proofs.Ytgjclggjkhapfaa
/- Values: as data; their errors (plain). -/
set_option linter.unusedVariables false
set_option linter.unusedSimpArgs false
namespace Go.Proofs.Ytgjclggjkhapfaa
open Go Go.Abs
inductive V where
  | mk (bytes : List UInt8) (number : Int) (kids : List V)
  deriving Inhabited
namespace V
def bytes : V → List UInt8 | mk b _ _ => b
def number : V → Int | mk _ n _ => n
def kids : V → List V | mk _ _ ks => ks
mutual
def cells' : V → List C
  | mk b n ks => [.s b, .i .i64 n, .sl 3 (rows ks)]
def rows : List V → List (List C)
  | [] => []
  | t :: ts => cells' t :: rows ts
end
def cells (v : V) : List C := [.s v.bytes, .i .i64 v.number, .sl 3 (rows v.kids)]
theorem cells_eq (t : V) : cells' t = t.cells := by cases t; rw [cells']; rfl
theorem rows_eq : ∀ ts : List V, rows ts = ts.map cells
  | [] => by rw [rows]; rfl
  | t :: ts => by rw [rows, rows_eq ts, cells_eq]; rfl
theorem rows_len (ts : List V) : (rows ts).length = ts.length := by rw [rows_eq]; simp
theorem rows_at {l : List V} {k : Nat} (h : k < l.length) : (rows l)[k]? = some (l.getD k default).cells := by
  rw [rows_eq, List.getElem?_map, List.getD_eq_getElem?_getD, List.getElem?_eq_getElem h]; rfl
theorem rows_snoc (l : List V) (v : V) : rows l ++ [v.cells] = rows (l ++ [v]) := by simp [rows_eq]
theorem eta (t : V) : mk t.bytes t.number t.kids = t := by cases t; rfl
mutual
def size : V → Nat
  | mk _ _ ks => 1 + sizes ks
def sizes : List V → Nat
  | [] => 0
  | t :: ts => size t + sizes ts
end
theorem size_eq (t : V) : t.size = 1 + sizes t.kids := by cases t; rw [size]; rfl
theorem size_pos (t : V) : 1 ≤ t.size := by rw [size_eq]; omega
theorem size_get : ∀ {l : List V} {k : Nat}, k < l.length → (l.getD k default).size ≤ sizes l
  | [], k, h => by simp at h
  | t :: ts, 0, h => by rw [sizes, List.getD_cons_zero]; omega
  | t :: ts, k + 1, h => by have := size_get (l := ts) (k := k) (by simpa using h); rw [sizes, List.getD_cons_succ]; omega
theorem size_kid {v : V} {k : Nat} (h : k < v.kids.length) : (v.kids.getD k default).size < v.size := by
  have := size_get h; rw [size_eq v]; omega
end V
abbrev xv (v : V) : X := .v (.agg v.cells)
abbrev xvs (l : List V) : X := .v (.c (.sl 3 (V.rows l)))
/-- The zero value. -/
def v0 : V := .mk [] 0 []
def zeroB (v : V) : Bool := decide (v.bytes = []) && decide (v.number = 0) && decide (v.kids.length = 0)
def fitsB (f : Fd) (v : V) : Bool :=
  if f.kind = 1 then zeroB v else if f.kind = 4 then decide (v.bytes = []) && decide (v.kids.length = 0) else if f.kind = 5 then true else decide (v.number = 0) && decide (v.kids.length = 0)
def rngB (f : Fd) (v : V) : Bool :=
  if f.kind = 2 then decide ((v.bytes.length : Int) = f.n) else if f.kind = 3 then decide ((v.bytes.length : Int) ≤ f.n) else if f.kind = 4 then decide (f.low ≤ v.number) && decide (v.number ≤ f.high)
  else if f.kind = 6 then decide (f.low ≤ (v.bytes.length : Int)) && decide ((v.bytes.length : Int) ≤ f.high) else true
/-- The error of a field's value; 'rec': that of a nested format's. -/
def fvE (rec : Int → V → Int) (f : Fd) (v : V) : Int := if fitsB f v = false then 1 else if rngB f v = false then 7 else if f.kind = 5 then rec f.n v else 0
def kidsE (rec : Int → V → Int) : List Fd → List V → Int
  | f :: fs, v :: vs => if fvE rec f v ≠ 0 then fvE rec f v else kidsE rec fs vs
  | _, _ => 0
def valG (rec : Int → V → Int) (t : List Fm) (i : Int) (v : V) : Int :=
  if v.bytes ≠ [] ∨ v.number ≠ 0 then 1 else if v.kids.length ≠ (t.getD i.toNat default).fields.length then 6 else kidsE rec (t.getD i.toNat default).fields v.kids
def val0 (t : List Fm) (i : Int) (v : V) : Int := valG (fun _ _ => 0) t i v
def valT (t : List Fm) (i : Int) (v : V) : Int := valG (val0 t) t i v
def valE (t : List Fm) (i : Int) (v : V) : Int := if errE t i ≠ 0 then errE t i else valT t i v
theorem zero_spec (v : V) : Ctr sys 85 [xv v] [] (xb (zeroB v)) none [] := by
  have hr := V.rows_len v.kids
  refine spec_intro Try.func85 rfl rfl rfl rfl rfl rfl ?_
  refine awp_seq (awp_region ?_)
  refine al_do rfl (does_box rfl rfl rfl rfl) ?_
  refine al_pure rfl rfl rfl (pure_assign rfl gU) ?_
  refine al_nil ?_
  refine awp_seq (awp_region ?_)
  refine al_pure rfl rfl rfl (pure_fieldPtr rfl gU rfl rfl) ?_
  refine al_pure rfl rfl rfl (pure_loadBox rfl gU rfl rfl rfl rfl) ?_
  refine al_pure rfl rfl rfl (pure_cmpS rfl rfl gU gU rfl) ?_
  refine al_pure rfl rfl rfl (pure_move rfl gU) ?_
  refine al_pure rfl rfl rfl (pure_fieldPtr rfl gU rfl rfl) ?_
  refine al_pure rfl rfl rfl (pure_loadBox rfl (fun hh => hh) rfl rfl rfl rfl) ?_
  refine al_pure rfl rfl rfl (pure_cmp rfl rfl (fun hh => hh) gU rfl) ?_
  refine al_pure rfl rfl rfl (pure_and rfl rfl gU (fun _ hi => gP rfl hi)) ?_
  refine al_pure rfl rfl rfl (pure_move rfl gU) ?_
  refine al_pure rfl rfl rfl (pure_fieldPtr rfl gU rfl rfl) ?_
  refine al_sub (s := { t := [(11, _, _), (12, _, _)], bx := [((.l 1), _)], ow := [] }) (sub_mk (⟨sx rfl, ⟨sx rfl, trivial⟩⟩) (⟨sx rfl, trivial⟩) trivial) ?_
  refine al_pure rfl rfl rfl (pure_loadBox rfl (fun hh => hh) rfl rfl rfl rfl) ?_
  refine al_pure rfl rfl rfl (pure_lenSl rfl (fun hh => hh) rfl rfl) ?_
  refine al_pure rfl rfl rfl (pure_cmp rfl rfl (fun hh => hh) gU rfl) ?_
  refine al_pure rfl rfl rfl (pure_and rfl rfl gU (fun _ hi => gP rfl hi)) ?_
  refine al_pure rfl rfl rfl (pure_assign rfl gU) ?_
  refine al_nil ?_
  refine awp_ret ?_
  repeat (first | refine tR ?_ | refine bR ?_)
  refine ret_ok rfl ?_ trivial
  exact xb_eq (by simp only [zeroB]; grind)
theorem fits_spec (f : Fd) (v : V) (hf : FdOk f) : Ctr sys 60 [xf f, xv v] [] (xb (fitsB f v)) none [] := by
  have hr := V.rows_len v.kids
  obtain ⟨hk, _, _, _, _, _, _⟩ := hf
  refine spec_intro Try.func60 rfl rfl rfl rfl rfl rfl ?_
  refine awp_seq (awp_region ?_)
  refine al_do rfl (does_box rfl rfl rfl rfl) ?_
  refine al_do rfl (does_box rfl rfl rfl rfl) ?_
  refine al_pure rfl rfl rfl (pure_assign rfl gU) ?_
  refine al_nil ?_
  refine awp_seq ?_
  refine awp_seq (awp_region ?_)
  refine al_pure rfl rfl rfl (pure_fieldPtr rfl gU rfl rfl) ?_
  refine al_pure rfl rfl rfl (pure_loadBox rfl gU rfl rfl rfl rfl) ?_
  refine al_nil ?_
  refine awp_sub (s := { t := [(3, _, _), (6, _, _)], bx := [((.l 3), _)], ow := [] }) (sub_mk (⟨sx rfl, ⟨sx rfl, trivial⟩⟩) (⟨sx rfl, trivial⟩) trivial) ?_
  refine awp_block ?_
  refine awp_seq (awp_region ?_)
  refine al_pure rfl rfl rfl (pure_cmp rfl rfl gU gU rfl) ?_
  refine al_pure rfl rfl rfl (pure_assign rfl gU) ?_
  refine al_nil ?_
  refine awp_cond rfl (fun hc1 => ?_) (fun hc1 => ?_)
  · try simp only [nn, Fd.rows_len, Fm.rows_len, V.rows_len] at hc1
    refine awp_seq (awp_region ?_)
    refine al_pure rfl rfl rfl (pure_fieldPtr rfl gU rfl rfl) ?_
    refine al_pure rfl rfl rfl (pure_loadBox rfl gU rfl rfl rfl rfl) ?_
    refine al_pure rfl rfl rfl (pure_cmpS rfl rfl gU gU rfl) ?_
    refine al_pure rfl rfl rfl (pure_move rfl gU) ?_
    refine al_pure rfl rfl rfl (pure_fieldPtr rfl gU rfl rfl) ?_
    refine al_pure rfl rfl rfl (pure_loadBox rfl (fun hh => hh) rfl rfl rfl rfl) ?_
    refine al_pure rfl rfl rfl (pure_cmp rfl rfl (fun hh => hh) gU rfl) ?_
    refine al_pure rfl rfl rfl (pure_and rfl rfl gU (fun _ hi => gP rfl hi)) ?_
    refine al_pure rfl rfl rfl (pure_move rfl gU) ?_
    refine al_pure rfl rfl rfl (pure_fieldPtr rfl gU rfl rfl) ?_
    refine al_sub (s := { t := [(17, _, _), (18, _, _)], bx := [((.l 3), _)], ow := [] }) (sub_mk (⟨sx rfl, ⟨sx rfl, trivial⟩⟩) (⟨sx rfl, trivial⟩) trivial) ?_
    refine al_pure rfl rfl rfl (pure_loadBox rfl (fun hh => hh) rfl rfl rfl rfl) ?_
    refine al_pure rfl rfl rfl (pure_lenSl rfl (fun hh => hh) rfl rfl) ?_
    refine al_pure rfl rfl rfl (pure_cmp rfl rfl (fun hh => hh) gU rfl) ?_
    refine al_pure rfl rfl rfl (pure_and rfl rfl gU (fun _ hi => gP rfl hi)) ?_
    refine al_pure rfl rfl rfl (pure_assign rfl gU) ?_
    refine al_nil ?_
    refine awp_ret ?_
    repeat (first | refine tR ?_ | refine bR ?_)
    refine ret_ok rfl ?_ trivial
    exact xb_eq (by simp only [fitsB, zeroB]; grind)
  · try simp only [nn, Fd.rows_len, Fm.rows_len, V.rows_len] at hc1
    refine awp_seq (awp_region ?_)
    refine al_pure rfl rfl rfl (pure_cmp rfl rfl gU gU rfl) ?_
    refine al_pure rfl rfl rfl (pure_assign rfl gU) ?_
    refine al_nil ?_
    refine awp_cond rfl (fun hc2 => ?_) (fun hc2 => ?_)
    · try simp only [nn, Fd.rows_len, Fm.rows_len, V.rows_len] at hc2
      refine awp_seq (awp_region ?_)
      refine al_pure rfl rfl rfl (pure_fieldPtr rfl gU rfl rfl) ?_
      refine al_pure rfl rfl rfl (pure_loadBox rfl gU rfl rfl rfl rfl) ?_
      refine al_pure rfl rfl rfl (pure_cmpS rfl rfl gU gU rfl) ?_
      refine al_pure rfl rfl rfl (pure_move rfl gU) ?_
      refine al_pure rfl rfl rfl (pure_fieldPtr rfl gU rfl rfl) ?_
      refine al_pure rfl rfl rfl (pure_loadBox rfl (fun hh => hh) rfl rfl rfl rfl) ?_
      refine al_pure rfl rfl rfl (pure_lenSl rfl (fun hh => hh) rfl rfl) ?_
      refine al_pure rfl rfl rfl (pure_cmp rfl rfl (fun hh => hh) gU rfl) ?_
      refine al_sub (s := { t := [(28, _, _), (32, _, _)], bx := [], ow := [] }) (sub_mk (⟨sx rfl, ⟨sx rfl, trivial⟩⟩) trivial trivial) ?_
      refine al_pure rfl rfl rfl (pure_and rfl rfl gU (fun _ hi => gP rfl hi)) ?_
      refine al_pure rfl rfl rfl (pure_assign rfl gU) ?_
      refine al_nil ?_
      refine awp_ret ?_
      repeat (first | refine tR ?_ | refine bR ?_)
      refine ret_ok rfl ?_ trivial
      exact xb_eq (by simp only [fitsB, zeroB]; grind)
    · try simp only [nn, Fd.rows_len, Fm.rows_len, V.rows_len] at hc2
      refine awp_seq (awp_region ?_)
      refine al_pure rfl rfl rfl (pure_cmp rfl rfl gU gU rfl) ?_
      refine al_pure rfl rfl rfl (pure_assign rfl gU) ?_
      refine al_nil ?_
      refine awp_sub (s := { t := [(3, _, _), (34, _, _)], bx := [((.l 3), _)], ow := [] }) (sub_mk (⟨sx rfl, ⟨sx rfl, trivial⟩⟩) (⟨sx rfl, trivial⟩) trivial) ?_
      refine awp_cond rfl (fun hc3 => ?_) (fun hc3 => ?_)
      · try simp only [nn, Fd.rows_len, Fm.rows_len, V.rows_len] at hc3
        refine awp_seq (awp_region ?_)
        refine al_pure rfl rfl rfl (pure_assign rfl gU) ?_
        refine al_nil ?_
        refine awp_ret ?_
        repeat (first | refine tR ?_ | refine bR ?_)
        refine ret_ok rfl ?_ trivial
        exact xb_eq (by simp only [fitsB, zeroB]; grind)
      · try simp only [nn, Fd.rows_len, Fm.rows_len, V.rows_len] at hc3
        refine awp_skip ?_
        refine awp_seq (awp_region ?_)
        refine al_pure rfl rfl rfl (pure_fieldPtr rfl gU rfl rfl) ?_
        refine al_pure rfl rfl rfl (pure_loadBox rfl gU rfl rfl rfl rfl) ?_
        refine al_pure rfl rfl rfl (pure_cmp rfl rfl gU gU rfl) ?_
        refine al_pure rfl rfl rfl (pure_move rfl gU) ?_
        refine al_pure rfl rfl rfl (pure_fieldPtr rfl gU rfl rfl) ?_
        refine al_pure rfl rfl rfl (pure_loadBox rfl (fun hh => hh) rfl rfl rfl rfl) ?_
        refine al_pure rfl rfl rfl (pure_lenSl rfl (fun hh => hh) rfl rfl) ?_
        refine al_pure rfl rfl rfl (pure_cmp rfl rfl (fun hh => hh) gU rfl) ?_
        refine al_pure rfl rfl rfl (pure_and rfl rfl gU (fun _ hi => gP rfl hi)) ?_
        refine al_pure rfl rfl rfl (pure_assign rfl gU) ?_
        refine al_nil ?_
        refine awp_ret ?_
        repeat (first | refine tR ?_ | refine bR ?_)
        refine ret_ok rfl ?_ trivial
        exact xb_eq (by simp only [fitsB, zeroB]; grind)
theorem rngs_spec (f : Fd) (v : V) (hf : FdOk f) : Ctr sys 61 [xf f, xv v] [] (xb (rngB f v)) none [] := by
  have hr := V.rows_len v.kids
  obtain ⟨hk, _, _, _, _, _, _⟩ := hf
  refine spec_intro Try.func61 rfl rfl rfl rfl rfl rfl ?_
  refine awp_seq (awp_region ?_)
  refine al_do rfl (does_box rfl rfl rfl rfl) ?_
  refine al_do rfl (does_box rfl rfl rfl rfl) ?_
  refine al_pure rfl rfl rfl (pure_assign rfl gU) ?_
  refine al_nil ?_
  refine awp_seq (awp_region ?_)
  refine al_pure rfl rfl rfl (pure_fieldPtr rfl gU rfl rfl) ?_
  refine al_pure rfl rfl rfl (pure_loadBox rfl gU rfl rfl rfl rfl) ?_
  refine al_lenS rfl rfl rfl rfl rfl gU (Try.underlying9) ?_ (fun hh => by simp at hh); intro hlen
  refine al_pure rfl rfl rfl (pure_assign rfl gU) ?_
  refine al_nil ?_
  refine awp_sub (s := { t := [(2, _, _), (3, _, _), (5, _, _)], bx := [((.l 2), _), ((.l 3), _)], ow := [] }) (sub_mk (⟨sx rfl, ⟨sx rfl, ⟨sx rfl, trivial⟩⟩⟩) (⟨sx rfl, ⟨sx rfl, trivial⟩⟩) trivial) ?_
  refine awp_seq ?_
  refine awp_seq (awp_region ?_)
  refine al_pure rfl rfl rfl (pure_fieldPtr rfl gU rfl rfl) ?_
  refine al_pure rfl rfl rfl (pure_loadBox rfl gU rfl rfl rfl rfl) ?_
  refine al_nil ?_
  refine awp_block ?_
  refine awp_seq (awp_region ?_)
  refine al_pure rfl rfl rfl (pure_cmp rfl rfl gU gU rfl) ?_
  refine al_pure rfl rfl rfl (pure_assign rfl gU) ?_
  refine al_nil ?_
  refine awp_cond rfl (fun hc1 => ?_) (fun hc1 => ?_)
  · try simp only [nn, Fd.rows_len, Fm.rows_len, V.rows_len] at hc1
    refine awp_seq (awp_region ?_)
    refine al_pure rfl rfl rfl (pure_move rfl gU) ?_
    refine al_pure rfl rfl rfl (pure_fieldPtr rfl gU rfl rfl) ?_
    refine al_pure rfl rfl rfl (pure_loadBox rfl gU rfl rfl rfl rfl) ?_
    refine al_pure rfl rfl rfl (pure_cmp rfl rfl gU gU rfl) ?_
    refine al_pure rfl rfl rfl (pure_assign rfl gU) ?_
    refine al_nil ?_
    refine awp_ret ?_
    repeat (first | refine tR ?_ | refine bR ?_)
    refine ret_ok rfl ?_ trivial
    exact xb_eq (by simp only [rngB]; grind)
  · try simp only [nn, Fd.rows_len, Fm.rows_len, V.rows_len] at hc1
    refine awp_seq (awp_region ?_)
    refine al_pure rfl rfl rfl (pure_cmp rfl rfl gU gU rfl) ?_
    refine al_pure rfl rfl rfl (pure_assign rfl gU) ?_
    refine al_nil ?_
    refine awp_sub (s := { t := [(2, _, _), (3, _, _), (5, _, _), (10, _, _), (17, _, _)], bx := [((.l 2), _), ((.l 3), _)], ow := [] }) (sub_mk (⟨sx rfl, ⟨sx rfl, ⟨sx rfl, ⟨sx rfl, ⟨sx rfl, trivial⟩⟩⟩⟩⟩) (⟨sx rfl, ⟨sx rfl, trivial⟩⟩) trivial) ?_
    refine awp_cond rfl (fun hc2 => ?_) (fun hc2 => ?_)
    · try simp only [nn, Fd.rows_len, Fm.rows_len, V.rows_len] at hc2
      refine awp_seq (awp_region ?_)
      refine al_pure rfl rfl rfl (pure_move rfl gU) ?_
      refine al_pure rfl rfl rfl (pure_fieldPtr rfl gU rfl rfl) ?_
      refine al_pure rfl rfl rfl (pure_loadBox rfl gU rfl rfl rfl rfl) ?_
      refine al_pure rfl rfl rfl (pure_cmp rfl rfl gU gU rfl) ?_
      refine al_pure rfl rfl rfl (pure_assign rfl gU) ?_
      refine al_nil ?_
      refine awp_ret ?_
      repeat (first | refine tR ?_ | refine bR ?_)
      refine ret_ok rfl ?_ trivial
      exact xb_eq (by simp only [rngB]; grind)
    · try simp only [nn, Fd.rows_len, Fm.rows_len, V.rows_len] at hc2
      refine awp_seq (awp_region ?_)
      refine al_pure rfl rfl rfl (pure_cmp rfl rfl gU gU rfl) ?_
      refine al_pure rfl rfl rfl (pure_assign rfl gU) ?_
      refine al_nil ?_
      refine awp_cond rfl (fun hc3 => ?_) (fun hc3 => ?_)
      · try simp only [nn, Fd.rows_len, Fm.rows_len, V.rows_len] at hc3
        refine awp_seq (awp_region ?_)
        refine al_pure rfl rfl rfl (pure_fieldPtr rfl gU rfl rfl) ?_
        refine al_pure rfl rfl rfl (pure_loadBox rfl gU rfl rfl rfl rfl) ?_
        refine al_pure rfl rfl rfl (pure_fieldPtr rfl gU rfl rfl) ?_
        refine al_pure rfl rfl rfl (pure_loadBox rfl gU rfl rfl rfl rfl) ?_
        refine al_pure rfl rfl rfl (pure_cmp rfl rfl gU gU rfl) ?_
        refine al_pure rfl rfl rfl (pure_move rfl gU) ?_
        refine al_pure rfl rfl rfl (pure_fieldPtr rfl gU rfl rfl) ?_
        refine al_pure rfl rfl rfl (pure_loadBox rfl (fun hh => hh) rfl rfl rfl rfl) ?_
        refine al_pure rfl rfl rfl (pure_fieldPtr rfl gU rfl rfl) ?_
        refine al_pure rfl rfl rfl (pure_loadBox rfl (fun hh => hh) rfl rfl rfl rfl) ?_
        refine al_sub (s := { t := [(30, _, _), (32, _, _), (34, _, _)], bx := [], ow := [] }) (sub_mk (⟨sx rfl, ⟨sx rfl, ⟨sx rfl, trivial⟩⟩⟩) trivial trivial) ?_
        refine al_pure rfl rfl rfl (pure_cmp rfl rfl (fun hh => hh) (fun hh => hh) rfl) ?_
        refine al_pure rfl rfl rfl (pure_and rfl rfl gU (fun _ hi => gP rfl hi)) ?_
        refine al_pure rfl rfl rfl (pure_assign rfl gU) ?_
        refine al_nil ?_
        refine awp_ret ?_
        repeat (first | refine tR ?_ | refine bR ?_)
        refine ret_ok rfl ?_ trivial
        exact xb_eq (by simp only [rngB]; grind)
      · try simp only [nn, Fd.rows_len, Fm.rows_len, V.rows_len] at hc3
        refine awp_seq (awp_region ?_)
        refine al_pure rfl rfl rfl (pure_cmp rfl rfl gU gU rfl) ?_
        refine al_pure rfl rfl rfl (pure_assign rfl gU) ?_
        refine al_nil ?_
        refine awp_cond rfl (fun hc4 => ?_) (fun hc4 => ?_)
        · try simp only [nn, Fd.rows_len, Fm.rows_len, V.rows_len] at hc4
          refine awp_seq (awp_region ?_)
          refine al_pure rfl rfl rfl (pure_move rfl gU) ?_
          refine al_pure rfl rfl rfl (pure_fieldPtr rfl gU rfl rfl) ?_
          refine al_pure rfl rfl rfl (pure_loadBox rfl gU rfl rfl rfl rfl) ?_
          refine al_pure rfl rfl rfl (pure_cmp rfl rfl gU gU rfl) ?_
          refine al_pure rfl rfl rfl (pure_move rfl gU) ?_
          refine al_pure rfl rfl rfl (pure_move rfl gU) ?_
          refine al_pure rfl rfl rfl (pure_fieldPtr rfl gU rfl rfl) ?_
          refine al_pure rfl rfl rfl (pure_loadBox rfl (fun hh => hh) rfl rfl rfl rfl) ?_
          refine al_sub (s := { t := [(43, _, _), (44, _, _), (46, _, _)], bx := [], ow := [] }) (sub_mk (⟨sx rfl, ⟨sx rfl, ⟨sx rfl, trivial⟩⟩⟩) trivial trivial) ?_
          refine al_pure rfl rfl rfl (pure_cmp rfl rfl (fun hh => hh) (fun hh => hh) rfl) ?_
          refine al_pure rfl rfl rfl (pure_and rfl rfl gU (fun _ hi => gP rfl hi)) ?_
          refine al_pure rfl rfl rfl (pure_assign rfl gU) ?_
          refine al_nil ?_
          refine awp_ret ?_
          repeat (first | refine tR ?_ | refine bR ?_)
          refine ret_ok rfl ?_ trivial
          exact xb_eq (by simp only [rngB]; grind)
        · try simp only [nn, Fd.rows_len, Fm.rows_len, V.rows_len] at hc4
          refine awp_skip ?_
          refine awp_seq (awp_region ?_)
          refine al_pure rfl rfl rfl (pure_assign rfl gU) ?_
          refine al_nil ?_
          refine awp_ret ?_
          repeat (first | refine tR ?_ | refine bR ?_)
          refine ret_ok rfl ?_ trivial
          exact xb_eq (by simp only [rngB]; grind)
theorem cfield_gen (t : List Fm) (f : Fd) (v : V) (rec : Int → V → Int) (hf : FdOk f) (hrec : f.kind = 5 → Ctr sys 38 [xtab t, xi f.n, xv v] [] (xi (rec f.n v)) none []) :
    Ctr sys 59 [xtab t, xf f, xv v] [] (xi (fvE rec f v)) none [] := by
  have hr := V.rows_len v.kids
  obtain ⟨hk, _, _, _, _, _, _⟩ := hf
  refine spec_intro Try.func59 rfl rfl rfl rfl rfl rfl ?_
  refine awp_seq (awp_region ?_)
  refine al_do rfl (does_box rfl rfl rfl rfl) ?_
  refine al_do rfl (does_box rfl rfl rfl rfl) ?_
  refine al_pure rfl rfl rfl (pure_assign rfl gU) ?_
  refine al_nil ?_
  refine awp_seq ?_
  refine awp_seq (awp_region ?_)
  refine al_pure rfl rfl rfl (pure_fieldPtr rfl gU rfl rfl) ?_
  refine al_pure rfl rfl rfl (pure_loadBox rfl gU rfl rfl rfl rfl) ?_
  refine al_nil ?_
  refine awp_sub (s := { t := [(0, _, _), (4, _, _), (5, _, _), (10, _, _)], bx := [((.l 4), _), ((.l 5), _)], ow := [] }) (sub_mk (⟨sx rfl, ⟨sx rfl, ⟨sx rfl, ⟨sx rfl, trivial⟩⟩⟩⟩) (⟨sx rfl, ⟨sx rfl, trivial⟩⟩) trivial) ?_
  refine awp_block ?_
  refine awp_seq (awp_region ?_)
  refine al_pure rfl rfl rfl (pure_cmp rfl rfl gU gU rfl) ?_
  refine al_pure rfl rfl rfl (pure_assign rfl gU) ?_
  refine al_nil ?_
  refine awp_cond rfl (fun hc1 => ?_) (fun hc1 => ?_)
  · try simp only [nn, Fd.rows_len, Fm.rows_len, V.rows_len] at hc1
    refine awp_seq (awp_region ?_)
    refine al_pure rfl rfl rfl (pure_loadBoxRow rfl gU rfl rfl rfl rfl rfl) ?_
    refine al_call rfl rfl rfl rfl rfl rfl gU gU (zero_spec _) rfl ?_
    refine al_pure rfl rfl rfl (pure_not rfl gU) ?_
    refine al_nil ?_
    refine awp_sub (s := { t := [(15, _, _)], bx := [], ow := [] }) (sub_mk (⟨sx rfl, trivial⟩) trivial trivial) ?_
    refine awp_cond rfl (fun hc2 => ?_) (fun hc2 => ?_)
    · try simp only [nn, Fd.rows_len, Fm.rows_len, V.rows_len] at hc2
      refine awp_seq (awp_region ?_)
      refine al_pure rfl rfl rfl (pure_assign rfl gU) ?_
      refine al_nil ?_
      refine awp_ret ?_
      repeat (first | refine tR ?_ | refine bR ?_)
      refine ret_ok rfl ?_ trivial
      exact xi_eq (by simp only [fvE, fitsB, rngB, zeroB] at *; grind)
    · try simp only [nn, Fd.rows_len, Fm.rows_len, V.rows_len] at hc2
      refine awp_skip ?_
      refine awp_seq (awp_region ?_)
      refine al_pure rfl rfl rfl (pure_assign rfl gU) ?_
      refine al_nil ?_
      refine awp_ret ?_
      repeat (first | refine tR ?_ | refine bR ?_)
      refine ret_ok rfl ?_ trivial
      exact xi_eq (by simp only [fvE, fitsB, rngB, zeroB] at *; grind)
  · try simp only [nn, Fd.rows_len, Fm.rows_len, V.rows_len] at hc1
    refine awp_seq ?_
    refine awp_seq (awp_region ?_)
    refine al_pure rfl rfl rfl (pure_cmp rfl rfl gU gU rfl) ?_
    refine al_pure rfl rfl rfl (pure_assign rfl gU) ?_
    refine al_nil ?_
    refine awp_cond rfl (fun hc3 => ?_) (fun hc3 => ?_)
    · try simp only [nn, Fd.rows_len, Fm.rows_len, V.rows_len] at hc3
      refine awp_skip ?_
      refine awp_cond rfl (fun hc4 => ?_) (fun hc4 => ?_)
      · try simp only [nn, Fd.rows_len, Fm.rows_len, V.rows_len] at hc4
        refine awp_seq ?_
        refine awp_seq (awp_region ?_)
        refine al_pure rfl rfl rfl (pure_fieldPtr rfl gU rfl rfl) ?_
        refine al_pure rfl rfl rfl (pure_loadBox rfl gU rfl rfl rfl rfl) ?_
        refine al_pure rfl rfl rfl (pure_cmp rfl rfl gU gU rfl) ?_
        refine al_pure rfl rfl rfl (pure_move rfl gU) ?_
        refine al_pure rfl rfl rfl (pure_fieldPtr rfl gU rfl rfl) ?_
        refine al_pure rfl rfl rfl (pure_loadBox rfl (fun hh => hh) rfl rfl rfl rfl) ?_
        refine al_pure rfl rfl rfl (pure_lenSl rfl (fun hh => hh) rfl rfl) ?_
        refine al_pure rfl rfl rfl (pure_cmp rfl rfl (fun hh => hh) gU rfl) ?_
        refine al_sub (s := { t := [(4, _, _), (5, _, _), (23, _, _), (27, _, _)], bx := [((.l 4), _), ((.l 5), _)], ow := [] }) (sub_mk (⟨sx rfl, ⟨sx rfl, ⟨sx rfl, ⟨sx rfl, trivial⟩⟩⟩⟩) (⟨sx rfl, ⟨sx rfl, trivial⟩⟩) trivial) ?_
        refine al_pure rfl rfl rfl (pure_or rfl rfl gU (fun _ hi => gP rfl hi)) ?_
        refine al_nil ?_
        refine awp_cond rfl (fun hc5 => ?_) (fun hc5 => ?_)
        · try simp only [nn, Fd.rows_len, Fm.rows_len, V.rows_len] at hc5
          refine awp_seq (awp_region ?_)
          refine al_pure rfl rfl rfl (pure_assign rfl gU) ?_
          refine al_nil ?_
          refine awp_ret ?_
          repeat (first | refine tR ?_ | refine bR ?_)
          refine ret_ok rfl ?_ trivial
          exact xi_eq (by simp only [fvE, fitsB, rngB, zeroB] at *; grind)
        · try simp only [nn, Fd.rows_len, Fm.rows_len, V.rows_len] at hc5
          refine awp_skip ?_
          refine awp_seq ?_
          refine awp_drawn' (by kernel_rfl) ?_
          refine dr_pure rfl rfl rfl rfl (pure_fieldPtr rfl gU rfl rfl) ?_
          refine dr_load rfl rfl rfl rfl rfl rfl rfl gU rfl rfl rfl rfl ?_
          refine dr_pure rfl rfl rfl rfl (pure_fieldPtr rfl gU rfl rfl) ?_
          refine dr_load rfl rfl rfl rfl rfl rfl rfl gU rfl rfl rfl rfl ?_
          refine dr_pure rfl rfl rfl rfl (pure_assign rfl gU) ?_
          refine dr_pure rfl rfl rfl rfl (pure_assign rfl gU) ?_
          refine dr_nil (by kernel_rfl) ?_
          refine awp_sub (s := { t := [(4, _, _), (5, _, _), (7, _, _), (8, _, _)], bx := [((.l 4), _), ((.l 5), _)], ow := [] }) (sub_mk (⟨sx rfl, ⟨sx rfl, ⟨sx rfl, ⟨sx rfl, trivial⟩⟩⟩⟩) (⟨sx rfl, ⟨sx rfl, trivial⟩⟩) trivial) ?_
          refine awp_seq ?_
          refine awp_seq (awp_region ?_)
          refine al_pure rfl rfl rfl (pure_fieldPtr rfl gU rfl rfl) ?_
          refine al_pure rfl rfl rfl (pure_loadBox rfl gU rfl rfl rfl rfl) ?_
          refine al_nil ?_
          refine awp_block ?_
          refine awp_seq (awp_region ?_)
          refine al_pure rfl rfl rfl (pure_cmp rfl rfl gU gU rfl) ?_
          refine al_pure rfl rfl rfl (pure_assign rfl gU) ?_
          refine al_nil ?_
          refine awp_cond rfl (fun hc6 => ?_) (fun hc6 => ?_)
          · try simp only [nn, Fd.rows_len, Fm.rows_len, V.rows_len] at hc6
            refine awp_region ?_
            refine al_pure rfl rfl rfl (pure_assign rfl gU) ?_
            refine al_nil ?_
            refine awp_sub (s := { t := [(5, _, _), (7, _, _), (8, _, _)], bx := [((.l 5), _)], ow := [] }) (sub_mk (⟨sx rfl, ⟨sx rfl, ⟨sx rfl, trivial⟩⟩⟩) (⟨sx rfl, trivial⟩) trivial) ?_
            refine awp_seq (awp_region ?_)
            refine al_pure rfl rfl rfl (pure_fieldPtr rfl gU rfl rfl) ?_
            refine al_pure rfl rfl rfl (pure_loadBox rfl gU rfl rfl rfl rfl) ?_
            refine al_lenS rfl rfl rfl rfl rfl gU (Try.underlying9) ?_ (fun hh => by simp at hh); intro hlen
            refine al_pure rfl rfl rfl (pure_move rfl gU) ?_
            refine al_pure rfl rfl rfl (pure_cmp rfl rfl gU gU rfl) ?_
            refine al_pure rfl rfl rfl (pure_move rfl gU) ?_
            refine al_pure rfl rfl rfl (pure_fieldPtr rfl gU rfl rfl) ?_
            refine al_pure rfl rfl rfl (pure_loadBox rfl (fun hh => hh) rfl rfl rfl rfl) ?_
            refine al_pure rfl rfl rfl (pure_lenS rfl (fun hh => hh) (Try.underlying9)) ?_
            refine al_pure rfl rfl rfl (pure_move rfl gU) ?_
            refine al_pure rfl rfl rfl (pure_cmp rfl rfl (fun hh => hh) (fun hh => hh) rfl) ?_
            refine al_pure rfl rfl rfl (pure_or rfl rfl gU (fun _ hi => gP rfl hi)) ?_
            refine al_nil ?_
            refine awp_sub (s := { t := [(54, _, _)], bx := [], ow := [] }) (sub_mk (⟨sx rfl, trivial⟩) trivial trivial) ?_
            refine awp_cond rfl (fun hc7 => ?_) (fun hc7 => ?_)
            · try simp only [nn, Fd.rows_len, Fm.rows_len, V.rows_len] at hc7
              refine awp_seq (awp_region ?_)
              refine al_pure rfl rfl rfl (pure_assign rfl gU) ?_
              refine al_nil ?_
              refine awp_ret ?_
              repeat (first | refine tR ?_ | refine bR ?_)
              refine ret_ok rfl ?_ trivial
              exact xi_eq (by simp only [fvE, fitsB, rngB, zeroB] at *; grind)
            · try simp only [nn, Fd.rows_len, Fm.rows_len, V.rows_len] at hc7
              refine awp_skip ?_
              refine awp_seq (awp_region ?_)
              refine al_pure rfl rfl rfl (pure_assign rfl gU) ?_
              refine al_nil ?_
              refine awp_ret ?_
              repeat (first | refine tR ?_ | refine bR ?_)
              refine ret_ok rfl ?_ trivial
              exact xi_eq (by simp only [fvE, fitsB, rngB, zeroB] at *; grind)
          · try simp only [nn, Fd.rows_len, Fm.rows_len, V.rows_len] at hc6
            refine awp_seq (awp_region ?_)
            refine al_pure rfl rfl rfl (pure_cmp rfl rfl gU gU rfl) ?_
            refine al_pure rfl rfl rfl (pure_assign rfl gU) ?_
            refine al_nil ?_
            refine awp_sub (s := { t := [(4, _, _), (5, _, _), (7, _, _), (8, _, _), (37, _, _)], bx := [((.l 4), _), ((.l 5), _)], ow := [] }) (sub_mk (⟨sx rfl, ⟨sx rfl, ⟨sx rfl, ⟨sx rfl, ⟨sx rfl, trivial⟩⟩⟩⟩⟩) (⟨sx rfl, ⟨sx rfl, trivial⟩⟩) trivial) ?_
            refine awp_cond rfl (fun hc8 => ?_) (fun hc8 => ?_)
            · try simp only [nn, Fd.rows_len, Fm.rows_len, V.rows_len] at hc8
              refine awp_drawn' (by kernel_rfl) ?_
              refine dr_pure rfl rfl rfl rfl (pure_fieldPtr rfl gU rfl rfl) ?_
              refine dr_load rfl rfl rfl rfl rfl rfl rfl gU rfl rfl rfl rfl ?_
              refine dr_pure rfl rfl rfl rfl (pure_fieldPtr rfl gU rfl rfl) ?_
              refine dr_load rfl rfl rfl rfl rfl rfl rfl gU rfl rfl rfl rfl ?_
              refine dr_pure rfl rfl rfl rfl (pure_assign rfl gU) ?_
              refine dr_pure rfl rfl rfl rfl (pure_assign rfl gU) ?_
              refine dr_nil (by kernel_rfl) ?_
              refine awp_sub (s := { t := [(5, _, _), (7, _, _), (8, _, _)], bx := [((.l 5), _)], ow := [] }) (sub_mk (⟨sx rfl, ⟨sx rfl, ⟨sx rfl, trivial⟩⟩⟩) (⟨sx rfl, trivial⟩) trivial) ?_
              refine awp_seq (awp_region ?_)
              refine al_pure rfl rfl rfl (pure_fieldPtr rfl gU rfl rfl) ?_
              refine al_pure rfl rfl rfl (pure_loadBox rfl gU rfl rfl rfl rfl) ?_
              refine al_lenS rfl rfl rfl rfl rfl gU (Try.underlying9) ?_ (fun hh => by simp at hh); intro hlen
              refine al_pure rfl rfl rfl (pure_move rfl gU) ?_
              refine al_pure rfl rfl rfl (pure_cmp rfl rfl gU gU rfl) ?_
              refine al_pure rfl rfl rfl (pure_move rfl gU) ?_
              refine al_pure rfl rfl rfl (pure_fieldPtr rfl gU rfl rfl) ?_
              refine al_pure rfl rfl rfl (pure_loadBox rfl (fun hh => hh) rfl rfl rfl rfl) ?_
              refine al_pure rfl rfl rfl (pure_lenS rfl (fun hh => hh) (Try.underlying9)) ?_
              refine al_pure rfl rfl rfl (pure_move rfl gU) ?_
              refine al_pure rfl rfl rfl (pure_cmp rfl rfl (fun hh => hh) (fun hh => hh) rfl) ?_
              refine al_pure rfl rfl rfl (pure_or rfl rfl gU (fun _ hi => gP rfl hi)) ?_
              refine al_nil ?_
              refine awp_sub (s := { t := [(54, _, _)], bx := [], ow := [] }) (sub_mk (⟨sx rfl, trivial⟩) trivial trivial) ?_
              refine awp_cond rfl (fun hc9 => ?_) (fun hc9 => ?_)
              · try simp only [nn, Fd.rows_len, Fm.rows_len, V.rows_len] at hc9
                refine awp_seq (awp_region ?_)
                refine al_pure rfl rfl rfl (pure_assign rfl gU) ?_
                refine al_nil ?_
                refine awp_ret ?_
                repeat (first | refine tR ?_ | refine bR ?_)
                refine ret_ok rfl ?_ trivial
                exact xi_eq (by simp only [fvE, fitsB, rngB, zeroB] at *; grind)
              · try simp only [nn, Fd.rows_len, Fm.rows_len, V.rows_len] at hc9
                refine awp_skip ?_
                refine awp_seq (awp_region ?_)
                refine al_pure rfl rfl rfl (pure_assign rfl gU) ?_
                refine al_nil ?_
                refine awp_ret ?_
                repeat (first | refine tR ?_ | refine bR ?_)
                refine ret_ok rfl ?_ trivial
                exact xi_eq (by simp only [fvE, fitsB, rngB, zeroB] at *; grind)
            · try simp only [nn, Fd.rows_len, Fm.rows_len, V.rows_len] at hc8
              refine awp_skip ?_
              refine awp_seq (awp_region ?_)
              refine al_pure rfl rfl rfl (pure_fieldPtr rfl gU rfl rfl) ?_
              refine al_pure rfl rfl rfl (pure_loadBox rfl gU rfl rfl rfl rfl) ?_
              refine al_lenS rfl rfl rfl rfl rfl gU (Try.underlying9) ?_ (fun hh => by simp at hh); intro hlen
              refine al_pure rfl rfl rfl (pure_move rfl gU) ?_
              refine al_pure rfl rfl rfl (pure_cmp rfl rfl gU gU rfl) ?_
              refine al_pure rfl rfl rfl (pure_move rfl gU) ?_
              refine al_pure rfl rfl rfl (pure_fieldPtr rfl gU rfl rfl) ?_
              refine al_pure rfl rfl rfl (pure_loadBox rfl (fun hh => hh) rfl rfl rfl rfl) ?_
              refine al_pure rfl rfl rfl (pure_lenS rfl (fun hh => hh) (Try.underlying9)) ?_
              refine al_pure rfl rfl rfl (pure_move rfl gU) ?_
              refine al_pure rfl rfl rfl (pure_cmp rfl rfl (fun hh => hh) (fun hh => hh) rfl) ?_
              refine al_pure rfl rfl rfl (pure_or rfl rfl gU (fun _ hi => gP rfl hi)) ?_
              refine al_nil ?_
              refine awp_sub (s := { t := [(54, _, _)], bx := [], ow := [] }) (sub_mk (⟨sx rfl, trivial⟩) trivial trivial) ?_
              refine awp_cond rfl (fun hc10 => ?_) (fun hc10 => ?_)
              · try simp only [nn, Fd.rows_len, Fm.rows_len, V.rows_len] at hc10
                refine awp_seq (awp_region ?_)
                refine al_pure rfl rfl rfl (pure_assign rfl gU) ?_
                refine al_nil ?_
                refine awp_ret ?_
                repeat (first | refine tR ?_ | refine bR ?_)
                refine ret_ok rfl ?_ trivial
                exact xi_eq (by simp only [fvE, fitsB, rngB, zeroB] at *; grind)
              · try simp only [nn, Fd.rows_len, Fm.rows_len, V.rows_len] at hc10
                refine awp_skip ?_
                refine awp_seq (awp_region ?_)
                refine al_pure rfl rfl rfl (pure_assign rfl gU) ?_
                refine al_nil ?_
                refine awp_ret ?_
                repeat (first | refine tR ?_ | refine bR ?_)
                refine ret_ok rfl ?_ trivial
                exact xi_eq (by simp only [fvE, fitsB, rngB, zeroB] at *; grind)
      · try simp only [nn, Fd.rows_len, Fm.rows_len, V.rows_len] at hc4
        refine awp_seq (awp_region ?_)
        refine al_pure rfl rfl rfl (pure_cmp rfl rfl gU gU rfl) ?_
        refine al_pure rfl rfl rfl (pure_assign rfl gU) ?_
        refine al_nil ?_
        refine awp_sub (s := { t := [(0, _, _), (4, _, _), (5, _, _), (10, _, _), (55, _, _)], bx := [((.l 4), _), ((.l 5), _)], ow := [] }) (sub_mk (⟨sx rfl, ⟨sx rfl, ⟨sx rfl, ⟨sx rfl, ⟨sx rfl, trivial⟩⟩⟩⟩⟩) (⟨sx rfl, ⟨sx rfl, trivial⟩⟩) trivial) ?_
        refine awp_cond rfl (fun hc11 => ?_) (fun hc11 => ?_)
        · try simp only [nn, Fd.rows_len, Fm.rows_len, V.rows_len] at hc11
          refine awp_seq ?_
          refine awp_seq (awp_region ?_)
          refine al_pure rfl rfl rfl (pure_fieldPtr rfl gU rfl rfl) ?_
          refine al_pure rfl rfl rfl (pure_loadBox rfl gU rfl rfl rfl rfl) ?_
          refine al_pure rfl rfl rfl (pure_cmpS rfl rfl gU gU rfl) ?_
          refine al_pure rfl rfl rfl (pure_move rfl gU) ?_
          refine al_pure rfl rfl rfl (pure_fieldPtr rfl gU rfl rfl) ?_
          refine al_pure rfl rfl rfl (pure_loadBox rfl (fun hh => hh) rfl rfl rfl rfl) ?_
          refine al_pure rfl rfl rfl (pure_lenSl rfl (fun hh => hh) rfl rfl) ?_
          refine al_pure rfl rfl rfl (pure_cmp rfl rfl (fun hh => hh) gU rfl) ?_
          refine al_pure rfl rfl rfl (pure_or rfl rfl gU (fun _ hi => gP rfl hi)) ?_
          refine al_nil ?_
          refine awp_sub (s := { t := [(4, _, _), (5, _, _), (65, _, _)], bx := [((.l 4), _), ((.l 5), _)], ow := [] }) (sub_mk (⟨sx rfl, ⟨sx rfl, ⟨sx rfl, trivial⟩⟩⟩) (⟨sx rfl, ⟨sx rfl, trivial⟩⟩) trivial) ?_
          refine awp_cond rfl (fun hc12 => ?_) (fun hc12 => ?_)
          · try simp only [nn, Fd.rows_len, Fm.rows_len, V.rows_len] at hc12
            refine awp_seq (awp_region ?_)
            refine al_pure rfl rfl rfl (pure_assign rfl gU) ?_
            refine al_nil ?_
            refine awp_ret ?_
            repeat (first | refine tR ?_ | refine bR ?_)
            refine ret_ok rfl ?_ trivial
            exact xi_eq (by simp only [fvE, fitsB, rngB, zeroB] at *; grind)
          · try simp only [nn, Fd.rows_len, Fm.rows_len, V.rows_len] at hc12
            refine awp_skip ?_
            refine awp_seq (awp_region ?_)
            refine al_pure rfl rfl rfl (pure_fieldPtr rfl gU rfl rfl) ?_
            refine al_pure rfl rfl rfl (pure_loadBox rfl gU rfl rfl rfl rfl) ?_
            refine al_pure rfl rfl rfl (pure_fieldPtr rfl gU rfl rfl) ?_
            refine al_pure rfl rfl rfl (pure_loadBox rfl gU rfl rfl rfl rfl) ?_
            refine al_pure rfl rfl rfl (pure_cmp rfl rfl gU gU rfl) ?_
            refine al_pure rfl rfl rfl (pure_move rfl gU) ?_
            refine al_pure rfl rfl rfl (pure_fieldPtr rfl gU rfl rfl) ?_
            refine al_pure rfl rfl rfl (pure_loadBox rfl (fun hh => hh) rfl rfl rfl rfl) ?_
            refine al_pure rfl rfl rfl (pure_fieldPtr rfl gU rfl rfl) ?_
            refine al_pure rfl rfl rfl (pure_loadBox rfl (fun hh => hh) rfl rfl rfl rfl) ?_
            refine al_pure rfl rfl rfl (pure_cmp rfl rfl (fun hh => hh) (fun hh => hh) rfl) ?_
            refine al_pure rfl rfl rfl (pure_or rfl rfl gU (fun _ hi => gP rfl hi)) ?_
            refine al_nil ?_
            refine awp_sub (s := { t := [(77, _, _)], bx := [], ow := [] }) (sub_mk (⟨sx rfl, trivial⟩) trivial trivial) ?_
            refine awp_cond rfl (fun hc13 => ?_) (fun hc13 => ?_)
            · try simp only [nn, Fd.rows_len, Fm.rows_len, V.rows_len] at hc13
              refine awp_seq (awp_region ?_)
              refine al_pure rfl rfl rfl (pure_assign rfl gU) ?_
              refine al_nil ?_
              refine awp_ret ?_
              repeat (first | refine tR ?_ | refine bR ?_)
              refine ret_ok rfl ?_ trivial
              exact xi_eq (by simp only [fvE, fitsB, rngB, zeroB] at *; grind)
            · try simp only [nn, Fd.rows_len, Fm.rows_len, V.rows_len] at hc13
              refine awp_skip ?_
              refine awp_seq (awp_region ?_)
              refine al_pure rfl rfl rfl (pure_assign rfl gU) ?_
              refine al_nil ?_
              refine awp_ret ?_
              repeat (first | refine tR ?_ | refine bR ?_)
              refine ret_ok rfl ?_ trivial
              exact xi_eq (by simp only [fvE, fitsB, rngB, zeroB] at *; grind)
        · try simp only [nn, Fd.rows_len, Fm.rows_len, V.rows_len] at hc11
          refine awp_seq (awp_region ?_)
          refine al_pure rfl rfl rfl (pure_cmp rfl rfl gU gU rfl) ?_
          refine al_pure rfl rfl rfl (pure_assign rfl gU) ?_
          refine al_nil ?_
          refine awp_cond rfl (fun hc14 => ?_) (fun hc14 => ?_)
          · try simp only [nn, Fd.rows_len, Fm.rows_len, V.rows_len] at hc14
            refine awp_seq (awp_region ?_)
            refine al_pure rfl rfl rfl (pure_move rfl gU) ?_
            refine al_pure rfl rfl rfl (pure_fieldPtr rfl gU rfl rfl) ?_
            refine al_pure rfl rfl rfl (pure_loadBox rfl gU rfl rfl rfl rfl) ?_
            refine al_pure rfl rfl rfl (pure_loadBoxRow rfl gU rfl rfl rfl rfl rfl) ?_
            refine al_call rfl rfl rfl rfl rfl rfl gU gU (hrec (by assumption)) rfl ?_
            refine al_pure rfl rfl rfl (pure_assign rfl gU) ?_
            refine al_nil ?_
            refine awp_ret ?_
            repeat (first | refine tR ?_ | refine bR ?_)
            refine ret_ok rfl ?_ trivial
            exact xi_eq (by simp only [fvE, fitsB, rngB, zeroB] at *; grind)
          · try simp only [nn, Fd.rows_len, Fm.rows_len, V.rows_len] at hc14
            refine awp_skip ?_
            refine awp_seq (awp_region ?_)
            refine al_pure rfl rfl rfl (pure_assign rfl gU) ?_
            refine al_nil ?_
            refine awp_ret ?_
            repeat (first | refine tR ?_ | refine bR ?_)
            refine ret_ok rfl ?_ trivial
            exact xi_eq (by simp only [fvE, fitsB, rngB, zeroB] at *; grind)
    · try simp only [nn, Fd.rows_len, Fm.rows_len, V.rows_len] at hc3
      refine awp_seq (awp_region ?_)
      refine al_pure rfl rfl rfl (pure_cmp rfl rfl gU gU rfl) ?_
      refine al_pure rfl rfl rfl (pure_assign rfl gU) ?_
      refine al_nil ?_
      refine awp_sub (s := { t := [(0, _, _), (4, _, _), (5, _, _), (10, _, _), (16, _, _)], bx := [((.l 4), _), ((.l 5), _)], ow := [] }) (sub_mk (⟨sx rfl, ⟨sx rfl, ⟨sx rfl, ⟨sx rfl, ⟨sx rfl, trivial⟩⟩⟩⟩⟩) (⟨sx rfl, ⟨sx rfl, trivial⟩⟩) trivial) ?_
      refine awp_cond rfl (fun hc15 => ?_) (fun hc15 => ?_)
      · try simp only [nn, Fd.rows_len, Fm.rows_len, V.rows_len] at hc15
        refine awp_skip ?_
        refine awp_cond rfl (fun hc16 => ?_) (fun hc16 => ?_)
        · try simp only [nn, Fd.rows_len, Fm.rows_len, V.rows_len] at hc16
          refine awp_seq ?_
          refine awp_seq (awp_region ?_)
          refine al_pure rfl rfl rfl (pure_fieldPtr rfl gU rfl rfl) ?_
          refine al_pure rfl rfl rfl (pure_loadBox rfl gU rfl rfl rfl rfl) ?_
          refine al_pure rfl rfl rfl (pure_cmp rfl rfl gU gU rfl) ?_
          refine al_pure rfl rfl rfl (pure_move rfl gU) ?_
          refine al_pure rfl rfl rfl (pure_fieldPtr rfl gU rfl rfl) ?_
          refine al_pure rfl rfl rfl (pure_loadBox rfl (fun hh => hh) rfl rfl rfl rfl) ?_
          refine al_pure rfl rfl rfl (pure_lenSl rfl (fun hh => hh) rfl rfl) ?_
          refine al_pure rfl rfl rfl (pure_cmp rfl rfl (fun hh => hh) gU rfl) ?_
          refine al_pure rfl rfl rfl (pure_or rfl rfl gU (fun _ hi => gP rfl hi)) ?_
          refine al_nil ?_
          refine awp_sub (s := { t := [(4, _, _), (5, _, _), (28, _, _)], bx := [((.l 4), _), ((.l 5), _)], ow := [] }) (sub_mk (⟨sx rfl, ⟨sx rfl, ⟨sx rfl, trivial⟩⟩⟩) (⟨sx rfl, ⟨sx rfl, trivial⟩⟩) trivial) ?_
          refine awp_cond rfl (fun hc17 => ?_) (fun hc17 => ?_)
          · try simp only [nn, Fd.rows_len, Fm.rows_len, V.rows_len] at hc17
            refine awp_seq (awp_region ?_)
            refine al_pure rfl rfl rfl (pure_assign rfl gU) ?_
            refine al_nil ?_
            refine awp_ret ?_
            repeat (first | refine tR ?_ | refine bR ?_)
            refine ret_ok rfl ?_ trivial
            exact xi_eq (by simp only [fvE, fitsB, rngB, zeroB] at *; grind)
          · try simp only [nn, Fd.rows_len, Fm.rows_len, V.rows_len] at hc17
            refine awp_skip ?_
            refine awp_seq ?_
            refine awp_drawn' (by kernel_rfl) ?_
            refine dr_pure rfl rfl rfl rfl (pure_fieldPtr rfl gU rfl rfl) ?_
            refine dr_load rfl rfl rfl rfl rfl rfl rfl gU rfl rfl rfl rfl ?_
            refine dr_pure rfl rfl rfl rfl (pure_fieldPtr rfl gU rfl rfl) ?_
            refine dr_load rfl rfl rfl rfl rfl rfl rfl gU rfl rfl rfl rfl ?_
            refine dr_pure rfl rfl rfl rfl (pure_assign rfl gU) ?_
            refine dr_pure rfl rfl rfl rfl (pure_assign rfl gU) ?_
            refine dr_nil (by kernel_rfl) ?_
            refine awp_sub (s := { t := [(4, _, _), (5, _, _), (7, _, _), (8, _, _)], bx := [((.l 4), _), ((.l 5), _)], ow := [] }) (sub_mk (⟨sx rfl, ⟨sx rfl, ⟨sx rfl, ⟨sx rfl, trivial⟩⟩⟩⟩) (⟨sx rfl, ⟨sx rfl, trivial⟩⟩) trivial) ?_
            refine awp_seq ?_
            refine awp_seq (awp_region ?_)
            refine al_pure rfl rfl rfl (pure_fieldPtr rfl gU rfl rfl) ?_
            refine al_pure rfl rfl rfl (pure_loadBox rfl gU rfl rfl rfl rfl) ?_
            refine al_nil ?_
            refine awp_block ?_
            refine awp_seq (awp_region ?_)
            refine al_pure rfl rfl rfl (pure_cmp rfl rfl gU gU rfl) ?_
            refine al_pure rfl rfl rfl (pure_assign rfl gU) ?_
            refine al_nil ?_
            refine awp_cond rfl (fun hc18 => ?_) (fun hc18 => ?_)
            · try simp only [nn, Fd.rows_len, Fm.rows_len, V.rows_len] at hc18
              refine awp_region ?_
              refine al_pure rfl rfl rfl (pure_assign rfl gU) ?_
              refine al_nil ?_
              refine awp_sub (s := { t := [(5, _, _), (7, _, _), (8, _, _)], bx := [((.l 5), _)], ow := [] }) (sub_mk (⟨sx rfl, ⟨sx rfl, ⟨sx rfl, trivial⟩⟩⟩) (⟨sx rfl, trivial⟩) trivial) ?_
              refine awp_seq (awp_region ?_)
              refine al_pure rfl rfl rfl (pure_fieldPtr rfl gU rfl rfl) ?_
              refine al_pure rfl rfl rfl (pure_loadBox rfl gU rfl rfl rfl rfl) ?_
              refine al_lenS rfl rfl rfl rfl rfl gU (Try.underlying9) ?_ (fun hh => by simp at hh); intro hlen
              refine al_pure rfl rfl rfl (pure_move rfl gU) ?_
              refine al_pure rfl rfl rfl (pure_cmp rfl rfl gU gU rfl) ?_
              refine al_pure rfl rfl rfl (pure_move rfl gU) ?_
              refine al_pure rfl rfl rfl (pure_fieldPtr rfl gU rfl rfl) ?_
              refine al_pure rfl rfl rfl (pure_loadBox rfl (fun hh => hh) rfl rfl rfl rfl) ?_
              refine al_pure rfl rfl rfl (pure_lenS rfl (fun hh => hh) (Try.underlying9)) ?_
              refine al_pure rfl rfl rfl (pure_move rfl gU) ?_
              refine al_pure rfl rfl rfl (pure_cmp rfl rfl (fun hh => hh) (fun hh => hh) rfl) ?_
              refine al_pure rfl rfl rfl (pure_or rfl rfl gU (fun _ hi => gP rfl hi)) ?_
              refine al_nil ?_
              refine awp_sub (s := { t := [(54, _, _)], bx := [], ow := [] }) (sub_mk (⟨sx rfl, trivial⟩) trivial trivial) ?_
              refine awp_cond rfl (fun hc19 => ?_) (fun hc19 => ?_)
              · try simp only [nn, Fd.rows_len, Fm.rows_len, V.rows_len] at hc19
                refine awp_seq (awp_region ?_)
                refine al_pure rfl rfl rfl (pure_assign rfl gU) ?_
                refine al_nil ?_
                refine awp_ret ?_
                repeat (first | refine tR ?_ | refine bR ?_)
                refine ret_ok rfl ?_ trivial
                exact xi_eq (by simp only [fvE, fitsB, rngB, zeroB] at *; grind)
              · try simp only [nn, Fd.rows_len, Fm.rows_len, V.rows_len] at hc19
                refine awp_skip ?_
                refine awp_seq (awp_region ?_)
                refine al_pure rfl rfl rfl (pure_assign rfl gU) ?_
                refine al_nil ?_
                refine awp_ret ?_
                repeat (first | refine tR ?_ | refine bR ?_)
                refine ret_ok rfl ?_ trivial
                exact xi_eq (by simp only [fvE, fitsB, rngB, zeroB] at *; grind)
            · try simp only [nn, Fd.rows_len, Fm.rows_len, V.rows_len] at hc18
              refine awp_seq (awp_region ?_)
              refine al_pure rfl rfl rfl (pure_cmp rfl rfl gU gU rfl) ?_
              refine al_pure rfl rfl rfl (pure_assign rfl gU) ?_
              refine al_nil ?_
              refine awp_sub (s := { t := [(4, _, _), (5, _, _), (7, _, _), (8, _, _), (37, _, _)], bx := [((.l 4), _), ((.l 5), _)], ow := [] }) (sub_mk (⟨sx rfl, ⟨sx rfl, ⟨sx rfl, ⟨sx rfl, ⟨sx rfl, trivial⟩⟩⟩⟩⟩) (⟨sx rfl, ⟨sx rfl, trivial⟩⟩) trivial) ?_
              refine awp_cond rfl (fun hc20 => ?_) (fun hc20 => ?_)
              · try simp only [nn, Fd.rows_len, Fm.rows_len, V.rows_len] at hc20
                refine awp_drawn' (by kernel_rfl) ?_
                refine dr_pure rfl rfl rfl rfl (pure_fieldPtr rfl gU rfl rfl) ?_
                refine dr_load rfl rfl rfl rfl rfl rfl rfl gU rfl rfl rfl rfl ?_
                refine dr_pure rfl rfl rfl rfl (pure_fieldPtr rfl gU rfl rfl) ?_
                refine dr_load rfl rfl rfl rfl rfl rfl rfl gU rfl rfl rfl rfl ?_
                refine dr_pure rfl rfl rfl rfl (pure_assign rfl gU) ?_
                refine dr_pure rfl rfl rfl rfl (pure_assign rfl gU) ?_
                refine dr_nil (by kernel_rfl) ?_
                refine awp_sub (s := { t := [(5, _, _), (7, _, _), (8, _, _)], bx := [((.l 5), _)], ow := [] }) (sub_mk (⟨sx rfl, ⟨sx rfl, ⟨sx rfl, trivial⟩⟩⟩) (⟨sx rfl, trivial⟩) trivial) ?_
                refine awp_seq (awp_region ?_)
                refine al_pure rfl rfl rfl (pure_fieldPtr rfl gU rfl rfl) ?_
                refine al_pure rfl rfl rfl (pure_loadBox rfl gU rfl rfl rfl rfl) ?_
                refine al_lenS rfl rfl rfl rfl rfl gU (Try.underlying9) ?_ (fun hh => by simp at hh); intro hlen
                refine al_pure rfl rfl rfl (pure_move rfl gU) ?_
                refine al_pure rfl rfl rfl (pure_cmp rfl rfl gU gU rfl) ?_
                refine al_pure rfl rfl rfl (pure_move rfl gU) ?_
                refine al_pure rfl rfl rfl (pure_fieldPtr rfl gU rfl rfl) ?_
                refine al_pure rfl rfl rfl (pure_loadBox rfl (fun hh => hh) rfl rfl rfl rfl) ?_
                refine al_pure rfl rfl rfl (pure_lenS rfl (fun hh => hh) (Try.underlying9)) ?_
                refine al_pure rfl rfl rfl (pure_move rfl gU) ?_
                refine al_pure rfl rfl rfl (pure_cmp rfl rfl (fun hh => hh) (fun hh => hh) rfl) ?_
                refine al_pure rfl rfl rfl (pure_or rfl rfl gU (fun _ hi => gP rfl hi)) ?_
                refine al_nil ?_
                refine awp_sub (s := { t := [(54, _, _)], bx := [], ow := [] }) (sub_mk (⟨sx rfl, trivial⟩) trivial trivial) ?_
                refine awp_cond rfl (fun hc21 => ?_) (fun hc21 => ?_)
                · try simp only [nn, Fd.rows_len, Fm.rows_len, V.rows_len] at hc21
                  refine awp_seq (awp_region ?_)
                  refine al_pure rfl rfl rfl (pure_assign rfl gU) ?_
                  refine al_nil ?_
                  refine awp_ret ?_
                  repeat (first | refine tR ?_ | refine bR ?_)
                  refine ret_ok rfl ?_ trivial
                  exact xi_eq (by simp only [fvE, fitsB, rngB, zeroB] at *; grind)
                · try simp only [nn, Fd.rows_len, Fm.rows_len, V.rows_len] at hc21
                  refine awp_skip ?_
                  refine awp_seq (awp_region ?_)
                  refine al_pure rfl rfl rfl (pure_assign rfl gU) ?_
                  refine al_nil ?_
                  refine awp_ret ?_
                  repeat (first | refine tR ?_ | refine bR ?_)
                  refine ret_ok rfl ?_ trivial
                  exact xi_eq (by simp only [fvE, fitsB, rngB, zeroB] at *; grind)
              · try simp only [nn, Fd.rows_len, Fm.rows_len, V.rows_len] at hc20
                refine awp_skip ?_
                refine awp_seq (awp_region ?_)
                refine al_pure rfl rfl rfl (pure_fieldPtr rfl gU rfl rfl) ?_
                refine al_pure rfl rfl rfl (pure_loadBox rfl gU rfl rfl rfl rfl) ?_
                refine al_lenS rfl rfl rfl rfl rfl gU (Try.underlying9) ?_ (fun hh => by simp at hh); intro hlen
                refine al_pure rfl rfl rfl (pure_move rfl gU) ?_
                refine al_pure rfl rfl rfl (pure_cmp rfl rfl gU gU rfl) ?_
                refine al_pure rfl rfl rfl (pure_move rfl gU) ?_
                refine al_pure rfl rfl rfl (pure_fieldPtr rfl gU rfl rfl) ?_
                refine al_pure rfl rfl rfl (pure_loadBox rfl (fun hh => hh) rfl rfl rfl rfl) ?_
                refine al_pure rfl rfl rfl (pure_lenS rfl (fun hh => hh) (Try.underlying9)) ?_
                refine al_pure rfl rfl rfl (pure_move rfl gU) ?_
                refine al_pure rfl rfl rfl (pure_cmp rfl rfl (fun hh => hh) (fun hh => hh) rfl) ?_
                refine al_pure rfl rfl rfl (pure_or rfl rfl gU (fun _ hi => gP rfl hi)) ?_
                refine al_nil ?_
                refine awp_sub (s := { t := [(54, _, _)], bx := [], ow := [] }) (sub_mk (⟨sx rfl, trivial⟩) trivial trivial) ?_
                refine awp_cond rfl (fun hc22 => ?_) (fun hc22 => ?_)
                · try simp only [nn, Fd.rows_len, Fm.rows_len, V.rows_len] at hc22
                  refine awp_seq (awp_region ?_)
                  refine al_pure rfl rfl rfl (pure_assign rfl gU) ?_
                  refine al_nil ?_
                  refine awp_ret ?_
                  repeat (first | refine tR ?_ | refine bR ?_)
                  refine ret_ok rfl ?_ trivial
                  exact xi_eq (by simp only [fvE, fitsB, rngB, zeroB] at *; grind)
                · try simp only [nn, Fd.rows_len, Fm.rows_len, V.rows_len] at hc22
                  refine awp_skip ?_
                  refine awp_seq (awp_region ?_)
                  refine al_pure rfl rfl rfl (pure_assign rfl gU) ?_
                  refine al_nil ?_
                  refine awp_ret ?_
                  repeat (first | refine tR ?_ | refine bR ?_)
                  refine ret_ok rfl ?_ trivial
                  exact xi_eq (by simp only [fvE, fitsB, rngB, zeroB] at *; grind)
        · try simp only [nn, Fd.rows_len, Fm.rows_len, V.rows_len] at hc16
          refine awp_seq (awp_region ?_)
          refine al_pure rfl rfl rfl (pure_cmp rfl rfl gU gU rfl) ?_
          refine al_pure rfl rfl rfl (pure_assign rfl gU) ?_
          refine al_nil ?_
          refine awp_cond rfl (fun hc23 => ?_) (fun hc23 => ?_)
          · try simp only [nn, Fd.rows_len, Fm.rows_len, V.rows_len] at hc23
            refine awp_seq ?_
            refine awp_seq (awp_region ?_)
            refine al_pure rfl rfl rfl (pure_fieldPtr rfl gU rfl rfl) ?_
            refine al_pure rfl rfl rfl (pure_loadBox rfl gU rfl rfl rfl rfl) ?_
            refine al_pure rfl rfl rfl (pure_cmpS rfl rfl gU gU rfl) ?_
            refine al_pure rfl rfl rfl (pure_move rfl gU) ?_
            refine al_pure rfl rfl rfl (pure_fieldPtr rfl gU rfl rfl) ?_
            refine al_pure rfl rfl rfl (pure_loadBox rfl (fun hh => hh) rfl rfl rfl rfl) ?_
            refine al_pure rfl rfl rfl (pure_lenSl rfl (fun hh => hh) rfl rfl) ?_
            refine al_pure rfl rfl rfl (pure_cmp rfl rfl (fun hh => hh) gU rfl) ?_
            refine al_pure rfl rfl rfl (pure_or rfl rfl gU (fun _ hi => gP rfl hi)) ?_
            refine al_nil ?_
            refine awp_sub (s := { t := [(4, _, _), (5, _, _), (65, _, _)], bx := [((.l 4), _), ((.l 5), _)], ow := [] }) (sub_mk (⟨sx rfl, ⟨sx rfl, ⟨sx rfl, trivial⟩⟩⟩) (⟨sx rfl, ⟨sx rfl, trivial⟩⟩) trivial) ?_
            refine awp_cond rfl (fun hc24 => ?_) (fun hc24 => ?_)
            · try simp only [nn, Fd.rows_len, Fm.rows_len, V.rows_len] at hc24
              refine awp_seq (awp_region ?_)
              refine al_pure rfl rfl rfl (pure_assign rfl gU) ?_
              refine al_nil ?_
              refine awp_ret ?_
              repeat (first | refine tR ?_ | refine bR ?_)
              refine ret_ok rfl ?_ trivial
              exact xi_eq (by simp only [fvE, fitsB, rngB, zeroB] at *; grind)
            · try simp only [nn, Fd.rows_len, Fm.rows_len, V.rows_len] at hc24
              refine awp_skip ?_
              refine awp_seq (awp_region ?_)
              refine al_pure rfl rfl rfl (pure_fieldPtr rfl gU rfl rfl) ?_
              refine al_pure rfl rfl rfl (pure_loadBox rfl gU rfl rfl rfl rfl) ?_
              refine al_pure rfl rfl rfl (pure_fieldPtr rfl gU rfl rfl) ?_
              refine al_pure rfl rfl rfl (pure_loadBox rfl gU rfl rfl rfl rfl) ?_
              refine al_pure rfl rfl rfl (pure_cmp rfl rfl gU gU rfl) ?_
              refine al_pure rfl rfl rfl (pure_move rfl gU) ?_
              refine al_pure rfl rfl rfl (pure_fieldPtr rfl gU rfl rfl) ?_
              refine al_pure rfl rfl rfl (pure_loadBox rfl (fun hh => hh) rfl rfl rfl rfl) ?_
              refine al_pure rfl rfl rfl (pure_fieldPtr rfl gU rfl rfl) ?_
              refine al_pure rfl rfl rfl (pure_loadBox rfl (fun hh => hh) rfl rfl rfl rfl) ?_
              refine al_pure rfl rfl rfl (pure_cmp rfl rfl (fun hh => hh) (fun hh => hh) rfl) ?_
              refine al_pure rfl rfl rfl (pure_or rfl rfl gU (fun _ hi => gP rfl hi)) ?_
              refine al_nil ?_
              refine awp_sub (s := { t := [(77, _, _)], bx := [], ow := [] }) (sub_mk (⟨sx rfl, trivial⟩) trivial trivial) ?_
              refine awp_cond rfl (fun hc25 => ?_) (fun hc25 => ?_)
              · try simp only [nn, Fd.rows_len, Fm.rows_len, V.rows_len] at hc25
                refine awp_seq (awp_region ?_)
                refine al_pure rfl rfl rfl (pure_assign rfl gU) ?_
                refine al_nil ?_
                refine awp_ret ?_
                repeat (first | refine tR ?_ | refine bR ?_)
                refine ret_ok rfl ?_ trivial
                exact xi_eq (by simp only [fvE, fitsB, rngB, zeroB] at *; grind)
              · try simp only [nn, Fd.rows_len, Fm.rows_len, V.rows_len] at hc25
                refine awp_skip ?_
                refine awp_seq (awp_region ?_)
                refine al_pure rfl rfl rfl (pure_assign rfl gU) ?_
                refine al_nil ?_
                refine awp_ret ?_
                repeat (first | refine tR ?_ | refine bR ?_)
                refine ret_ok rfl ?_ trivial
                exact xi_eq (by simp only [fvE, fitsB, rngB, zeroB] at *; grind)
          · try simp only [nn, Fd.rows_len, Fm.rows_len, V.rows_len] at hc23
            refine awp_seq (awp_region ?_)
            refine al_pure rfl rfl rfl (pure_cmp rfl rfl gU gU rfl) ?_
            refine al_pure rfl rfl rfl (pure_assign rfl gU) ?_
            refine al_nil ?_
            refine awp_cond rfl (fun hc26 => ?_) (fun hc26 => ?_)
            · try simp only [nn, Fd.rows_len, Fm.rows_len, V.rows_len] at hc26
              refine awp_seq (awp_region ?_)
              refine al_pure rfl rfl rfl (pure_move rfl gU) ?_
              refine al_pure rfl rfl rfl (pure_fieldPtr rfl gU rfl rfl) ?_
              refine al_pure rfl rfl rfl (pure_loadBox rfl gU rfl rfl rfl rfl) ?_
              refine al_pure rfl rfl rfl (pure_loadBoxRow rfl gU rfl rfl rfl rfl rfl) ?_
              refine al_call rfl rfl rfl rfl rfl rfl gU gU (hrec (by assumption)) rfl ?_
              refine al_pure rfl rfl rfl (pure_assign rfl gU) ?_
              refine al_nil ?_
              refine awp_ret ?_
              repeat (first | refine tR ?_ | refine bR ?_)
              refine ret_ok rfl ?_ trivial
              exact xi_eq (by simp only [fvE, fitsB, rngB, zeroB] at *; grind)
            · try simp only [nn, Fd.rows_len, Fm.rows_len, V.rows_len] at hc26
              refine awp_skip ?_
              refine awp_seq (awp_region ?_)
              refine al_pure rfl rfl rfl (pure_assign rfl gU) ?_
              refine al_nil ?_
              refine awp_ret ?_
              repeat (first | refine tR ?_ | refine bR ?_)
              refine ret_ok rfl ?_ trivial
              exact xi_eq (by simp only [fvE, fitsB, rngB, zeroB] at *; grind)
      · try simp only [nn, Fd.rows_len, Fm.rows_len, V.rows_len] at hc15
        refine awp_region ?_
        refine al_pure rfl rfl rfl (pure_cmp rfl rfl gU gU rfl) ?_
        refine al_pure rfl rfl rfl (pure_assign rfl gU) ?_
        refine al_nil ?_
        refine awp_cond rfl (fun hc27 => ?_) (fun hc27 => ?_)
        · try simp only [nn, Fd.rows_len, Fm.rows_len, V.rows_len] at hc27
          refine awp_seq ?_
          refine awp_seq (awp_region ?_)
          refine al_pure rfl rfl rfl (pure_fieldPtr rfl gU rfl rfl) ?_
          refine al_pure rfl rfl rfl (pure_loadBox rfl gU rfl rfl rfl rfl) ?_
          refine al_pure rfl rfl rfl (pure_cmp rfl rfl gU gU rfl) ?_
          refine al_pure rfl rfl rfl (pure_move rfl gU) ?_
          refine al_pure rfl rfl rfl (pure_fieldPtr rfl gU rfl rfl) ?_
          refine al_pure rfl rfl rfl (pure_loadBox rfl (fun hh => hh) rfl rfl rfl rfl) ?_
          refine al_pure rfl rfl rfl (pure_lenSl rfl (fun hh => hh) rfl rfl) ?_
          refine al_pure rfl rfl rfl (pure_cmp rfl rfl (fun hh => hh) gU rfl) ?_
          refine al_pure rfl rfl rfl (pure_or rfl rfl gU (fun _ hi => gP rfl hi)) ?_
          refine al_nil ?_
          refine awp_sub (s := { t := [(4, _, _), (5, _, _), (28, _, _)], bx := [((.l 4), _), ((.l 5), _)], ow := [] }) (sub_mk (⟨sx rfl, ⟨sx rfl, ⟨sx rfl, trivial⟩⟩⟩) (⟨sx rfl, ⟨sx rfl, trivial⟩⟩) trivial) ?_
          refine awp_cond rfl (fun hc28 => ?_) (fun hc28 => ?_)
          · try simp only [nn, Fd.rows_len, Fm.rows_len, V.rows_len] at hc28
            refine awp_seq (awp_region ?_)
            refine al_pure rfl rfl rfl (pure_assign rfl gU) ?_
            refine al_nil ?_
            refine awp_ret ?_
            repeat (first | refine tR ?_ | refine bR ?_)
            refine ret_ok rfl ?_ trivial
            exact xi_eq (by simp only [fvE, fitsB, rngB, zeroB] at *; grind)
          · try simp only [nn, Fd.rows_len, Fm.rows_len, V.rows_len] at hc28
            refine awp_skip ?_
            refine awp_seq ?_
            refine awp_drawn' (by kernel_rfl) ?_
            refine dr_pure rfl rfl rfl rfl (pure_fieldPtr rfl gU rfl rfl) ?_
            refine dr_load rfl rfl rfl rfl rfl rfl rfl gU rfl rfl rfl rfl ?_
            refine dr_pure rfl rfl rfl rfl (pure_fieldPtr rfl gU rfl rfl) ?_
            refine dr_load rfl rfl rfl rfl rfl rfl rfl gU rfl rfl rfl rfl ?_
            refine dr_pure rfl rfl rfl rfl (pure_assign rfl gU) ?_
            refine dr_pure rfl rfl rfl rfl (pure_assign rfl gU) ?_
            refine dr_nil (by kernel_rfl) ?_
            refine awp_sub (s := { t := [(4, _, _), (5, _, _), (7, _, _), (8, _, _)], bx := [((.l 4), _), ((.l 5), _)], ow := [] }) (sub_mk (⟨sx rfl, ⟨sx rfl, ⟨sx rfl, ⟨sx rfl, trivial⟩⟩⟩⟩) (⟨sx rfl, ⟨sx rfl, trivial⟩⟩) trivial) ?_
            refine awp_seq ?_
            refine awp_seq (awp_region ?_)
            refine al_pure rfl rfl rfl (pure_fieldPtr rfl gU rfl rfl) ?_
            refine al_pure rfl rfl rfl (pure_loadBox rfl gU rfl rfl rfl rfl) ?_
            refine al_nil ?_
            refine awp_block ?_
            refine awp_seq (awp_region ?_)
            refine al_pure rfl rfl rfl (pure_cmp rfl rfl gU gU rfl) ?_
            refine al_pure rfl rfl rfl (pure_assign rfl gU) ?_
            refine al_nil ?_
            refine awp_cond rfl (fun hc29 => ?_) (fun hc29 => ?_)
            · try simp only [nn, Fd.rows_len, Fm.rows_len, V.rows_len] at hc29
              refine awp_region ?_
              refine al_pure rfl rfl rfl (pure_assign rfl gU) ?_
              refine al_nil ?_
              refine awp_sub (s := { t := [(5, _, _), (7, _, _), (8, _, _)], bx := [((.l 5), _)], ow := [] }) (sub_mk (⟨sx rfl, ⟨sx rfl, ⟨sx rfl, trivial⟩⟩⟩) (⟨sx rfl, trivial⟩) trivial) ?_
              refine awp_seq (awp_region ?_)
              refine al_pure rfl rfl rfl (pure_fieldPtr rfl gU rfl rfl) ?_
              refine al_pure rfl rfl rfl (pure_loadBox rfl gU rfl rfl rfl rfl) ?_
              refine al_lenS rfl rfl rfl rfl rfl gU (Try.underlying9) ?_ (fun hh => by simp at hh); intro hlen
              refine al_pure rfl rfl rfl (pure_move rfl gU) ?_
              refine al_pure rfl rfl rfl (pure_cmp rfl rfl gU gU rfl) ?_
              refine al_pure rfl rfl rfl (pure_move rfl gU) ?_
              refine al_pure rfl rfl rfl (pure_fieldPtr rfl gU rfl rfl) ?_
              refine al_pure rfl rfl rfl (pure_loadBox rfl (fun hh => hh) rfl rfl rfl rfl) ?_
              refine al_pure rfl rfl rfl (pure_lenS rfl (fun hh => hh) (Try.underlying9)) ?_
              refine al_pure rfl rfl rfl (pure_move rfl gU) ?_
              refine al_pure rfl rfl rfl (pure_cmp rfl rfl (fun hh => hh) (fun hh => hh) rfl) ?_
              refine al_pure rfl rfl rfl (pure_or rfl rfl gU (fun _ hi => gP rfl hi)) ?_
              refine al_nil ?_
              refine awp_sub (s := { t := [(54, _, _)], bx := [], ow := [] }) (sub_mk (⟨sx rfl, trivial⟩) trivial trivial) ?_
              refine awp_cond rfl (fun hc30 => ?_) (fun hc30 => ?_)
              · try simp only [nn, Fd.rows_len, Fm.rows_len, V.rows_len] at hc30
                refine awp_seq (awp_region ?_)
                refine al_pure rfl rfl rfl (pure_assign rfl gU) ?_
                refine al_nil ?_
                refine awp_ret ?_
                repeat (first | refine tR ?_ | refine bR ?_)
                refine ret_ok rfl ?_ trivial
                exact xi_eq (by simp only [fvE, fitsB, rngB, zeroB] at *; grind)
              · try simp only [nn, Fd.rows_len, Fm.rows_len, V.rows_len] at hc30
                refine awp_skip ?_
                refine awp_seq (awp_region ?_)
                refine al_pure rfl rfl rfl (pure_assign rfl gU) ?_
                refine al_nil ?_
                refine awp_ret ?_
                repeat (first | refine tR ?_ | refine bR ?_)
                refine ret_ok rfl ?_ trivial
                exact xi_eq (by simp only [fvE, fitsB, rngB, zeroB] at *; grind)
            · try simp only [nn, Fd.rows_len, Fm.rows_len, V.rows_len] at hc29
              refine awp_seq (awp_region ?_)
              refine al_pure rfl rfl rfl (pure_cmp rfl rfl gU gU rfl) ?_
              refine al_pure rfl rfl rfl (pure_assign rfl gU) ?_
              refine al_nil ?_
              refine awp_sub (s := { t := [(4, _, _), (5, _, _), (7, _, _), (8, _, _), (37, _, _)], bx := [((.l 4), _), ((.l 5), _)], ow := [] }) (sub_mk (⟨sx rfl, ⟨sx rfl, ⟨sx rfl, ⟨sx rfl, ⟨sx rfl, trivial⟩⟩⟩⟩⟩) (⟨sx rfl, ⟨sx rfl, trivial⟩⟩) trivial) ?_
              refine awp_cond rfl (fun hc31 => ?_) (fun hc31 => ?_)
              · try simp only [nn, Fd.rows_len, Fm.rows_len, V.rows_len] at hc31
                refine awp_drawn' (by kernel_rfl) ?_
                refine dr_pure rfl rfl rfl rfl (pure_fieldPtr rfl gU rfl rfl) ?_
                refine dr_load rfl rfl rfl rfl rfl rfl rfl gU rfl rfl rfl rfl ?_
                refine dr_pure rfl rfl rfl rfl (pure_fieldPtr rfl gU rfl rfl) ?_
                refine dr_load rfl rfl rfl rfl rfl rfl rfl gU rfl rfl rfl rfl ?_
                refine dr_pure rfl rfl rfl rfl (pure_assign rfl gU) ?_
                refine dr_pure rfl rfl rfl rfl (pure_assign rfl gU) ?_
                refine dr_nil (by kernel_rfl) ?_
                refine awp_sub (s := { t := [(5, _, _), (7, _, _), (8, _, _)], bx := [((.l 5), _)], ow := [] }) (sub_mk (⟨sx rfl, ⟨sx rfl, ⟨sx rfl, trivial⟩⟩⟩) (⟨sx rfl, trivial⟩) trivial) ?_
                refine awp_seq (awp_region ?_)
                refine al_pure rfl rfl rfl (pure_fieldPtr rfl gU rfl rfl) ?_
                refine al_pure rfl rfl rfl (pure_loadBox rfl gU rfl rfl rfl rfl) ?_
                refine al_lenS rfl rfl rfl rfl rfl gU (Try.underlying9) ?_ (fun hh => by simp at hh); intro hlen
                refine al_pure rfl rfl rfl (pure_move rfl gU) ?_
                refine al_pure rfl rfl rfl (pure_cmp rfl rfl gU gU rfl) ?_
                refine al_pure rfl rfl rfl (pure_move rfl gU) ?_
                refine al_pure rfl rfl rfl (pure_fieldPtr rfl gU rfl rfl) ?_
                refine al_pure rfl rfl rfl (pure_loadBox rfl (fun hh => hh) rfl rfl rfl rfl) ?_
                refine al_pure rfl rfl rfl (pure_lenS rfl (fun hh => hh) (Try.underlying9)) ?_
                refine al_pure rfl rfl rfl (pure_move rfl gU) ?_
                refine al_pure rfl rfl rfl (pure_cmp rfl rfl (fun hh => hh) (fun hh => hh) rfl) ?_
                refine al_pure rfl rfl rfl (pure_or rfl rfl gU (fun _ hi => gP rfl hi)) ?_
                refine al_nil ?_
                refine awp_sub (s := { t := [(54, _, _)], bx := [], ow := [] }) (sub_mk (⟨sx rfl, trivial⟩) trivial trivial) ?_
                refine awp_cond rfl (fun hc32 => ?_) (fun hc32 => ?_)
                · try simp only [nn, Fd.rows_len, Fm.rows_len, V.rows_len] at hc32
                  refine awp_seq (awp_region ?_)
                  refine al_pure rfl rfl rfl (pure_assign rfl gU) ?_
                  refine al_nil ?_
                  refine awp_ret ?_
                  repeat (first | refine tR ?_ | refine bR ?_)
                  refine ret_ok rfl ?_ trivial
                  exact xi_eq (by simp only [fvE, fitsB, rngB, zeroB] at *; grind)
                · try simp only [nn, Fd.rows_len, Fm.rows_len, V.rows_len] at hc32
                  refine awp_skip ?_
                  refine awp_seq (awp_region ?_)
                  refine al_pure rfl rfl rfl (pure_assign rfl gU) ?_
                  refine al_nil ?_
                  refine awp_ret ?_
                  repeat (first | refine tR ?_ | refine bR ?_)
                  refine ret_ok rfl ?_ trivial
                  exact xi_eq (by simp only [fvE, fitsB, rngB, zeroB] at *; grind)
              · try simp only [nn, Fd.rows_len, Fm.rows_len, V.rows_len] at hc31
                refine awp_skip ?_
                refine awp_seq (awp_region ?_)
                refine al_pure rfl rfl rfl (pure_fieldPtr rfl gU rfl rfl) ?_
                refine al_pure rfl rfl rfl (pure_loadBox rfl gU rfl rfl rfl rfl) ?_
                refine al_lenS rfl rfl rfl rfl rfl gU (Try.underlying9) ?_ (fun hh => by simp at hh); intro hlen
                refine al_pure rfl rfl rfl (pure_move rfl gU) ?_
                refine al_pure rfl rfl rfl (pure_cmp rfl rfl gU gU rfl) ?_
                refine al_pure rfl rfl rfl (pure_move rfl gU) ?_
                refine al_pure rfl rfl rfl (pure_fieldPtr rfl gU rfl rfl) ?_
                refine al_pure rfl rfl rfl (pure_loadBox rfl (fun hh => hh) rfl rfl rfl rfl) ?_
                refine al_pure rfl rfl rfl (pure_lenS rfl (fun hh => hh) (Try.underlying9)) ?_
                refine al_pure rfl rfl rfl (pure_move rfl gU) ?_
                refine al_pure rfl rfl rfl (pure_cmp rfl rfl (fun hh => hh) (fun hh => hh) rfl) ?_
                refine al_pure rfl rfl rfl (pure_or rfl rfl gU (fun _ hi => gP rfl hi)) ?_
                refine al_nil ?_
                refine awp_sub (s := { t := [(54, _, _)], bx := [], ow := [] }) (sub_mk (⟨sx rfl, trivial⟩) trivial trivial) ?_
                refine awp_cond rfl (fun hc33 => ?_) (fun hc33 => ?_)
                · try simp only [nn, Fd.rows_len, Fm.rows_len, V.rows_len] at hc33
                  refine awp_seq (awp_region ?_)
                  refine al_pure rfl rfl rfl (pure_assign rfl gU) ?_
                  refine al_nil ?_
                  refine awp_ret ?_
                  repeat (first | refine tR ?_ | refine bR ?_)
                  refine ret_ok rfl ?_ trivial
                  exact xi_eq (by simp only [fvE, fitsB, rngB, zeroB] at *; grind)
                · try simp only [nn, Fd.rows_len, Fm.rows_len, V.rows_len] at hc33
                  refine awp_skip ?_
                  refine awp_seq (awp_region ?_)
                  refine al_pure rfl rfl rfl (pure_assign rfl gU) ?_
                  refine al_nil ?_
                  refine awp_ret ?_
                  repeat (first | refine tR ?_ | refine bR ?_)
                  refine ret_ok rfl ?_ trivial
                  exact xi_eq (by simp only [fvE, fitsB, rngB, zeroB] at *; grind)
        · try simp only [nn, Fd.rows_len, Fm.rows_len, V.rows_len] at hc27
          refine awp_seq (awp_region ?_)
          refine al_pure rfl rfl rfl (pure_cmp rfl rfl gU gU rfl) ?_
          refine al_pure rfl rfl rfl (pure_assign rfl gU) ?_
          refine al_nil ?_
          refine awp_cond rfl (fun hc34 => ?_) (fun hc34 => ?_)
          · try simp only [nn, Fd.rows_len, Fm.rows_len, V.rows_len] at hc34
            refine awp_seq ?_
            refine awp_seq (awp_region ?_)
            refine al_pure rfl rfl rfl (pure_fieldPtr rfl gU rfl rfl) ?_
            refine al_pure rfl rfl rfl (pure_loadBox rfl gU rfl rfl rfl rfl) ?_
            refine al_pure rfl rfl rfl (pure_cmpS rfl rfl gU gU rfl) ?_
            refine al_pure rfl rfl rfl (pure_move rfl gU) ?_
            refine al_pure rfl rfl rfl (pure_fieldPtr rfl gU rfl rfl) ?_
            refine al_pure rfl rfl rfl (pure_loadBox rfl (fun hh => hh) rfl rfl rfl rfl) ?_
            refine al_pure rfl rfl rfl (pure_lenSl rfl (fun hh => hh) rfl rfl) ?_
            refine al_pure rfl rfl rfl (pure_cmp rfl rfl (fun hh => hh) gU rfl) ?_
            refine al_sub (s := { t := [(4, _, _), (5, _, _), (60, _, _), (64, _, _)], bx := [((.l 4), _), ((.l 5), _)], ow := [] }) (sub_mk (⟨sx rfl, ⟨sx rfl, ⟨sx rfl, ⟨sx rfl, trivial⟩⟩⟩⟩) (⟨sx rfl, ⟨sx rfl, trivial⟩⟩) trivial) ?_
            refine al_pure rfl rfl rfl (pure_or rfl rfl gU (fun _ hi => gP rfl hi)) ?_
            refine al_nil ?_
            refine awp_cond rfl (fun hc35 => ?_) (fun hc35 => ?_)
            · try simp only [nn, Fd.rows_len, Fm.rows_len, V.rows_len] at hc35
              refine awp_seq (awp_region ?_)
              refine al_pure rfl rfl rfl (pure_assign rfl gU) ?_
              refine al_nil ?_
              refine awp_ret ?_
              repeat (first | refine tR ?_ | refine bR ?_)
              refine ret_ok rfl ?_ trivial
              exact xi_eq (by simp only [fvE, fitsB, rngB, zeroB] at *; grind)
            · try simp only [nn, Fd.rows_len, Fm.rows_len, V.rows_len] at hc35
              refine awp_skip ?_
              refine awp_seq (awp_region ?_)
              refine al_pure rfl rfl rfl (pure_fieldPtr rfl gU rfl rfl) ?_
              refine al_pure rfl rfl rfl (pure_loadBox rfl gU rfl rfl rfl rfl) ?_
              refine al_pure rfl rfl rfl (pure_fieldPtr rfl gU rfl rfl) ?_
              refine al_pure rfl rfl rfl (pure_loadBox rfl gU rfl rfl rfl rfl) ?_
              refine al_pure rfl rfl rfl (pure_cmp rfl rfl gU gU rfl) ?_
              refine al_pure rfl rfl rfl (pure_move rfl gU) ?_
              refine al_pure rfl rfl rfl (pure_fieldPtr rfl gU rfl rfl) ?_
              refine al_pure rfl rfl rfl (pure_loadBox rfl (fun hh => hh) rfl rfl rfl rfl) ?_
              refine al_pure rfl rfl rfl (pure_fieldPtr rfl gU rfl rfl) ?_
              refine al_pure rfl rfl rfl (pure_loadBox rfl (fun hh => hh) rfl rfl rfl rfl) ?_
              refine al_pure rfl rfl rfl (pure_cmp rfl rfl (fun hh => hh) (fun hh => hh) rfl) ?_
              refine al_sub (s := { t := [(71, _, _), (76, _, _)], bx := [], ow := [] }) (sub_mk (⟨sx rfl, ⟨sx rfl, trivial⟩⟩) trivial trivial) ?_
              refine al_pure rfl rfl rfl (pure_or rfl rfl gU (fun _ hi => gP rfl hi)) ?_
              refine al_nil ?_
              refine awp_cond rfl (fun hc36 => ?_) (fun hc36 => ?_)
              · try simp only [nn, Fd.rows_len, Fm.rows_len, V.rows_len] at hc36
                refine awp_seq (awp_region ?_)
                refine al_pure rfl rfl rfl (pure_assign rfl gU) ?_
                refine al_nil ?_
                refine awp_ret ?_
                repeat (first | refine tR ?_ | refine bR ?_)
                refine ret_ok rfl ?_ trivial
                exact xi_eq (by simp only [fvE, fitsB, rngB, zeroB] at *; grind)
              · try simp only [nn, Fd.rows_len, Fm.rows_len, V.rows_len] at hc36
                refine awp_skip ?_
                refine awp_seq (awp_region ?_)
                refine al_pure rfl rfl rfl (pure_assign rfl gU) ?_
                refine al_nil ?_
                refine awp_ret ?_
                repeat (first | refine tR ?_ | refine bR ?_)
                refine ret_ok rfl ?_ trivial
                exact xi_eq (by simp only [fvE, fitsB, rngB, zeroB] at *; grind)
          · try simp only [nn, Fd.rows_len, Fm.rows_len, V.rows_len] at hc34
            refine awp_seq (awp_region ?_)
            refine al_pure rfl rfl rfl (pure_cmp rfl rfl gU gU rfl) ?_
            refine al_pure rfl rfl rfl (pure_assign rfl gU) ?_
            refine al_nil ?_
            refine awp_sub (s := { t := [(0, _, _), (4, _, _), (5, _, _), (78, _, _)], bx := [((.l 4), _), ((.l 5), _)], ow := [] }) (sub_mk (⟨sx rfl, ⟨sx rfl, ⟨sx rfl, ⟨sx rfl, trivial⟩⟩⟩⟩) (⟨sx rfl, ⟨sx rfl, trivial⟩⟩) trivial) ?_
            refine awp_cond rfl (fun hc37 => ?_) (fun hc37 => ?_)
            · try simp only [nn, Fd.rows_len, Fm.rows_len, V.rows_len] at hc37
              refine awp_seq (awp_region ?_)
              refine al_pure rfl rfl rfl (pure_move rfl gU) ?_
              refine al_pure rfl rfl rfl (pure_fieldPtr rfl gU rfl rfl) ?_
              refine al_pure rfl rfl rfl (pure_loadBox rfl gU rfl rfl rfl rfl) ?_
              refine al_pure rfl rfl rfl (pure_loadBoxRow rfl gU rfl rfl rfl rfl rfl) ?_
              refine al_call rfl rfl rfl rfl rfl rfl gU gU (hrec (by assumption)) rfl ?_
              refine al_pure rfl rfl rfl (pure_assign rfl gU) ?_
              refine al_nil ?_
              refine awp_ret ?_
              repeat (first | refine tR ?_ | refine bR ?_)
              refine ret_ok rfl ?_ trivial
              exact xi_eq (by simp only [fvE, fitsB, rngB, zeroB] at *; grind)
            · try simp only [nn, Fd.rows_len, Fm.rows_len, V.rows_len] at hc37
              refine awp_skip ?_
              refine awp_seq (awp_region ?_)
              refine al_pure rfl rfl rfl (pure_assign rfl gU) ?_
              refine al_nil ?_
              refine awp_ret ?_
              repeat (first | refine tR ?_ | refine bR ?_)
              refine ret_ok rfl ?_ trivial
              exact xi_eq (by simp only [fvE, fitsB, rngB, zeroB] at *; grind)
theorem cvalue_gen (t : List Fm) (i : Int) (v : V) (rec : Int → V → Int) (hi : 0 ≤ i ∧ i < t.length) (hfd : ∀ k, k < (t.getD i.toNat default).fields.length → FdOk ((t.getD i.toNat default).fields.getD k default))
    (hrec : ∀ k, k < (t.getD i.toNat default).fields.length → ((t.getD i.toNat default).fields.getD k default).kind = 5 → ∀ u, Ctr sys 38 [xtab t, xi ((t.getD i.toNat default).fields.getD k default).n, xv u] [] (xi (rec ((t.getD i.toNat default).fields.getD k default).n u)) none []) :
    Ctr sys 38 [xtab t, xi i, xv v] [] (xi (valG rec t i v)) none [] := by
  have hr := V.rows_len v.kids
  have hrl := Fm.rows_len t
  have hrf := Fd.rows_len (t.getD i.toNat default).fields
  refine spec_intro Try.func38 rfl rfl rfl rfl rfl rfl ?_
  refine awp_seq (awp_region ?_)
  refine al_do rfl (does_box rfl rfl rfl rfl) ?_
  refine al_pure rfl rfl rfl (pure_assign rfl gU) ?_
  refine al_nil ?_
  refine awp_seq ?_
  refine awp_seq (awp_region ?_)
  refine al_pure rfl rfl rfl (pure_fieldPtr rfl gU rfl rfl) ?_
  refine al_pure rfl rfl rfl (pure_loadBox rfl gU rfl rfl rfl rfl) ?_
  refine al_pure rfl rfl rfl (pure_cmpS rfl rfl gU gU rfl) ?_
  refine al_pure rfl rfl rfl (pure_move rfl gU) ?_
  refine al_pure rfl rfl rfl (pure_fieldPtr rfl gU rfl rfl) ?_
  refine al_pure rfl rfl rfl (pure_loadBox rfl (fun hh => hh) rfl rfl rfl rfl) ?_
  refine al_pure rfl rfl rfl (pure_cmp rfl rfl (fun hh => hh) gU rfl) ?_
  refine al_pure rfl rfl rfl (pure_or rfl rfl gU (fun _ hi => gP rfl hi)) ?_
  refine al_nil ?_
  refine awp_sub (s := { t := [(0, _, _), (1, _, _), (5, _, _), (18, _, _)], bx := [((.l 5), _)], ow := [] }) (sub_mk (⟨sx rfl, ⟨sx rfl, ⟨sx rfl, ⟨sx rfl, trivial⟩⟩⟩⟩) (⟨sx rfl, trivial⟩) trivial) ?_
  refine awp_cond rfl (fun hc => ?_) (fun hc => ?_)
  · try simp only [nn, Fd.rows_len, Fm.rows_len, V.rows_len] at hc
    refine awp_seq (awp_region ?_)
    refine al_pure rfl rfl rfl (pure_assign rfl gU) ?_
    refine al_nil ?_
    refine awp_ret ?_
    repeat (first | refine tR ?_ | refine bR ?_)
    refine ret_ok rfl ?_ trivial
    exact xi_eq (by rw [valG, if_pos]; grind)
  · try simp only [nn, Fd.rows_len, Fm.rows_len, V.rows_len] at hc
    rw [valG, if_neg (by grind)]
    refine awp_skip ?_
    refine awp_seq (awp_region ?_)
    refine al_pure rfl rfl rfl (pure_move rfl gU) ?_
    refine al_pure rfl rfl rfl (pure_move rfl gU) ?_
    refine al_pure rfl rfl rfl (pure_indexAddr (j := i.toNat) rfl rfl gU gU rfl rfl (by omega) (fun hh => Fm.rows_at (by omega))) ?_
    refine al_pure rfl rfl rfl (pure_fieldRo rfl gU rfl rfl) ?_
    refine al_pure rfl rfl rfl (pure_loadRo rfl gU rfl rfl rfl) ?_
    refine al_pure rfl rfl rfl (pure_assign rfl gU) ?_
    refine al_nil ?_
    refine awp_sub (s := { t := [(0, _, _), (5, _, _), (7, _, _)], bx := [((.l 5), _)], ow := [] }) (sub_mk (⟨sx rfl, ⟨sx rfl, ⟨sx rfl, trivial⟩⟩⟩) (⟨sx rfl, trivial⟩) trivial) ?_
    refine awp_seq ?_
    refine awp_seq (awp_region ?_)
    refine al_pure rfl rfl rfl (pure_fieldPtr rfl gU rfl rfl) ?_
    refine al_pure rfl rfl rfl (pure_loadBox rfl gU rfl rfl rfl rfl) ?_
    refine al_lenSl rfl rfl rfl rfl rfl gU rfl rfl ?_ (fun hh => by simp at hh); intro hlen
    refine al_pure rfl rfl rfl (pure_move rfl gU) ?_
    refine al_lenSl rfl rfl rfl rfl rfl gU rfl rfl ?_ (fun hh => by simp at hh); intro hlen
    refine al_pure rfl rfl rfl (pure_cmp rfl rfl gU gU rfl) ?_
    refine al_nil ?_
    refine awp_sub (s := { t := [(0, _, _), (5, _, _), (7, _, _), (29, _, _)], bx := [((.l 5), _)], ow := [] }) (sub_mk (⟨sx rfl, ⟨sx rfl, ⟨sx rfl, ⟨sx rfl, trivial⟩⟩⟩⟩) (⟨sx rfl, trivial⟩) trivial) ?_
    refine awp_cond rfl (fun hc2 => ?_) (fun hc2 => ?_)
    · try simp only [nn, Fd.rows_len, Fm.rows_len, V.rows_len] at hc2
      refine awp_seq (awp_region ?_)
      refine al_pure rfl rfl rfl (pure_assign rfl gU) ?_
      refine al_nil ?_
      refine awp_ret ?_
      repeat (first | refine tR ?_ | refine bR ?_)
      refine ret_ok rfl ?_ trivial
      exact xi_eq (by rw [if_pos]; omega)
    · try simp only [nn, Fd.rows_len, Fm.rows_len, V.rows_len] at hc2
      rw [if_neg (by omega)]
      refine awp_skip ?_
      refine awp_seq ?_
      refine awp_seq (awp_region ?_)
      refine al_pure rfl rfl rfl (pure_move rfl gU) ?_
      refine al_lenSl rfl rfl rfl rfl rfl gU rfl rfl ?_ (fun hh => by simp at hh); intro hlen
      refine al_pure rfl rfl rfl (pure_move rfl gU) ?_
      refine al_nil ?_
      refine awp_block ?_
      refine awp_for (ι := Nat) { t := [(0, _, _), (5, _, _), (30, _, _), (31, _, _)], bx := [((.l 5), _)], ow := [] } (fun k => [(32, true, xi (k : Int))]) (fun k => []) (fun k => k ≤ (t.getD i.toNat default).fields.length ∧ kidsE rec ((t.getD i.toNat default).fields.drop k) (v.kids.drop k) = kidsE rec (t.getD i.toNat default).fields v.kids) (fun k => (t.getD i.toNat default).fields.length - k) (0) (by simp) (sub_mk (⟨sx rfl, ⟨sx rfl, ⟨sx rfl, ⟨sx rfl, ⟨sx rfl, trivial⟩⟩⟩⟩⟩) (⟨sx rfl, trivial⟩) trivial) ?_
      intro k hok
      dsimp only [List.cons_append, List.nil_append]
      obtain ⟨hk, hi2⟩ := hok
      refine awp_seq (awp_region ?_)
      refine al_pure rfl rfl rfl (pure_cmp rfl rfl gU gU rfl) ?_
      refine al_nil ?_
      refine awp_seq ?_
      refine awp_cond rfl (fun hc3 => ?_) (fun hc3 => ?_)
      · try simp only [nn, Fd.rows_len, Fm.rows_len, V.rows_len] at hc3
        rw [drop_getD (l := (t.getD i.toNat default).fields) (by omega), drop_getD (l := v.kids) (by omega), kidsE] at hi2
        refine awp_skip ?_
        refine awp_seq ?_
        refine awp_block ?_
        refine awp_seq (awp_region ?_)
        refine al_pure rfl rfl rfl (pure_move rfl gU) ?_
        refine al_pure rfl rfl rfl (pure_indexAddr rfl rfl gU gU rfl rfl rfl (fun hh => Fd.rows_at (by omega))) ?_
        refine al_pure rfl rfl rfl (pure_loadRoRow rfl gU rfl rfl rfl rfl) ?_
        refine al_do rfl (does_alloc rfl rfl rfl) ?_
        refine al_pure rfl rfl rfl (pure_assign rfl gU) ?_
        refine al_do rfl (does_store rfl rfl rfl rfl rfl rfl rfl) ?_
        refine al_nil ?_
        refine awp_sub (s := { t := [(0, _, _), (5, _, _), (8, _, _), (9, _, _), (30, _, _), (31, _, _), (32, _, _)], bx := [((.l 5), _), ((.l 9), _)], ow := [] }) (sub_mk (⟨sx rfl, ⟨sx rfl, ⟨sx rfl, ⟨sx rfl, ⟨sx rfl, ⟨sx rfl, ⟨sx rfl, trivial⟩⟩⟩⟩⟩⟩⟩) (⟨sx rfl, ⟨sx rfl, trivial⟩⟩) trivial) ?_
        refine awp_seq ?_
        refine awp_drawn' (by kernel_rfl) ?_
        refine dr_pure rfl rfl rfl rfl (pure_move rfl gU) ?_
        refine dr_loadRow rfl rfl rfl rfl rfl rfl rfl gU rfl rfl rfl rfl rfl ?_
        refine dr_pure rfl rfl rfl rfl (pure_fieldPtr rfl gU rfl rfl) ?_
        refine dr_load rfl rfl rfl rfl rfl rfl rfl gU rfl rfl rfl rfl ?_
        refine dr_pure rfl rfl rfl rfl (pure_move rfl gU) ?_
        refine dr_pure rfl rfl rfl rfl (pure_indexAddr rfl rfl gU gU rfl rfl rfl (fun hh => V.rows_at (by omega))) ?_
        refine dr_pure rfl rfl rfl rfl (pure_loadRoRow rfl gU rfl rfl rfl rfl) ?_
        refine dr_callN rfl rfl rfl rfl rfl rfl rfl gU gU (cfield_gen _ _ _ rec (hfd k (by omega)) (fun h5 => hrec k (by omega) h5 _)) rfl ?_
        refine dr_pure rfl rfl rfl rfl (pure_assign rfl gU) ?_
        refine dr_nil (by kernel_rfl) ?_
        refine awp_sub (s := { t := [(0, _, _), (5, _, _), (10, _, _), (30, _, _), (31, _, _), (32, _, _)], bx := [((.l 5), _)], ow := [] }) (sub_mk (⟨sx rfl, ⟨sx rfl, ⟨sx rfl, ⟨sx rfl, ⟨sx rfl, ⟨sx rfl, trivial⟩⟩⟩⟩⟩⟩) (⟨sx rfl, trivial⟩) trivial) ?_
        refine awp_seq (awp_region ?_)
        refine al_pure rfl rfl rfl (pure_move rfl gU) ?_
        refine al_pure rfl rfl rfl (pure_cmp rfl rfl gU gU rfl) ?_
        refine al_nil ?_
        refine awp_cond rfl (fun hc1 => ?_) (fun hc1 => ?_)
        · try simp only [nn, Fd.rows_len, Fm.rows_len, V.rows_len] at hc1
          refine awp_seq (awp_region ?_)
          refine al_pure rfl rfl rfl (pure_move rfl gU) ?_
          refine al_pure rfl rfl rfl (pure_assign rfl gU) ?_
          refine al_nil ?_
          refine awp_ret ?_
          repeat (first | refine tR ?_ | refine bR ?_)
          refine ret_ok rfl ?_ trivial
          exact xi_eq (by grind)
        · try simp only [nn, Fd.rows_len, Fm.rows_len, V.rows_len] at hc1
          refine awp_skip ?_
          refine awp_region ?_
          refine al_pure rfl rfl rfl (pure_arith rfl rfl gU gU rfl (IntWalk.i64_in _ (by omega))) ?_
          refine al_pure rfl rfl rfl (pure_move rfl gU) ?_
          refine al_nil ?_
          refine ⟨k + 1, ?_, ?_, sub_mk (⟨⟨_, rfl, ?_⟩, ⟨sx rfl, ⟨sx rfl, ⟨sx rfl, ⟨sx rfl, trivial⟩⟩⟩⟩⟩) (⟨sx rfl, trivial⟩) trivial⟩
          all_goals (first | rfl | omega | grind)
      · try simp only [nn, Fd.rows_len, Fm.rows_len, V.rows_len] at hc3
        rw [List.drop_of_length_le (l := (t.getD i.toNat default).fields) (by omega), kidsE] at hi2
        · refine awp_exit ?_
          repeat (first | refine thenS_exit ?_ | refine blockS_hit ?_ | refine blockS_miss rfl ?_)
          refine awp_seq (awp_region ?_)
          refine al_pure rfl rfl rfl (pure_assign rfl gU) ?_
          refine al_nil ?_
          refine awp_ret ?_
          repeat (first | refine tR ?_ | refine bR ?_)
          refine ret_ok rfl ?_ trivial
          exact xi_eq hi2
        · intro a b c d e; simp at e
end Go.Proofs.Ytgjclggjkhapfaa
/- Contracts: the errors of values, on both sides. -/
set_option linter.unusedVariables false
set_option linter.unusedSimpArgs false
namespace Go.Proofs.Ytgjclggjkhapfaa
open Go Go.Abs
theorem rvalue_gen (t : List Fm) (i : Int) (v : V) (rec : Int → V → Int) (hi : 0 ≤ i ∧ i < t.length) (hfd : ∀ k, k < (t.getD i.toNat default).fields.length → FdOk ((t.getD i.toNat default).fields.getD k default))
    (hrec : ∀ k, k < (t.getD i.toNat default).fields.length → ((t.getD i.toNat default).fields.getD k default).kind = 5 → ∀ u, Ctr sys 40 [xtab t, xi ((t.getD i.toNat default).fields.getD k default).n, xv u] [] (xi (rec ((t.getD i.toNat default).fields.getD k default).n u)) none []) :
    Ctr sys 40 [xtab t, xi i, xv v] [] (xi (valG rec t i v)) none [] := by
  have hr := V.rows_len v.kids
  have hrl := Fm.rows_len t
  have hrf := Fd.rows_len (t.getD i.toNat default).fields
  refine spec_intro Try.func40 rfl rfl rfl rfl rfl rfl ?_
  refine awp_seq (awp_region ?_)
  refine al_do rfl (does_box rfl rfl rfl rfl) ?_
  refine al_pure rfl rfl rfl (pure_assign rfl gU) ?_
  refine al_nil ?_
  refine awp_seq ?_
  refine awp_seq (awp_region ?_)
  refine al_pure rfl rfl rfl (pure_fieldPtr rfl gU rfl rfl) ?_
  refine al_pure rfl rfl rfl (pure_loadBox rfl gU rfl rfl rfl rfl) ?_
  refine al_pure rfl rfl rfl (pure_cmpS rfl rfl gU gU rfl) ?_
  refine al_pure rfl rfl rfl (pure_move rfl gU) ?_
  refine al_pure rfl rfl rfl (pure_fieldPtr rfl gU rfl rfl) ?_
  refine al_pure rfl rfl rfl (pure_loadBox rfl (fun hh => hh) rfl rfl rfl rfl) ?_
  refine al_pure rfl rfl rfl (pure_cmp rfl rfl (fun hh => hh) gU rfl) ?_
  refine al_pure rfl rfl rfl (pure_or rfl rfl gU (fun _ hi => gP rfl hi)) ?_
  refine al_nil ?_
  refine awp_sub (s := { t := [(0, _, _), (1, _, _), (5, _, _), (17, _, _)], bx := [((.l 5), _)], ow := [] }) (sub_mk (⟨sx rfl, ⟨sx rfl, ⟨sx rfl, ⟨sx rfl, trivial⟩⟩⟩⟩) (⟨sx rfl, trivial⟩) trivial) ?_
  refine awp_cond rfl (fun hc => ?_) (fun hc => ?_)
  · try simp only [nn, Fd.rows_len, Fm.rows_len, V.rows_len] at hc
    refine awp_seq (awp_region ?_)
    refine al_pure rfl rfl rfl (pure_assign rfl gU) ?_
    refine al_nil ?_
    refine awp_ret ?_
    repeat (first | refine tR ?_ | refine bR ?_)
    refine ret_ok rfl ?_ trivial
    exact xi_eq (by rw [valG, if_pos]; grind)
  · try simp only [nn, Fd.rows_len, Fm.rows_len, V.rows_len] at hc
    rw [valG, if_neg (by grind)]
    refine awp_skip ?_
    refine awp_seq ?_
    refine awp_seq ?_
    refine awp_drawn' (by kernel_rfl) ?_
    refine dr_pure rfl rfl rfl rfl (pure_fieldPtr rfl gU rfl rfl) ?_
    refine dr_load rfl rfl rfl rfl rfl rfl rfl gU rfl rfl rfl rfl ?_
    refine dr_pure rfl rfl rfl rfl (pure_lenSl rfl gU rfl rfl) ?_
    refine dr_pure rfl rfl rfl rfl (pure_move rfl gU) ?_
    refine dr_pure rfl rfl rfl rfl (pure_move rfl gU) ?_
    refine dr_pure rfl rfl rfl rfl (pure_indexAddr (j := i.toNat) rfl rfl gU gU rfl rfl (by omega) (fun hh => Fm.rows_at (by omega))) ?_
    refine dr_pure rfl rfl rfl rfl (pure_fieldRo rfl gU rfl rfl) ?_
    refine dr_pure rfl rfl rfl rfl (pure_loadRo rfl gU rfl rfl rfl) ?_
    refine dr_pure rfl rfl rfl rfl (pure_lenSl rfl gU rfl rfl) ?_
    refine dr_pure rfl rfl rfl rfl (pure_cmp rfl rfl gU gU rfl) ?_
    refine dr_nil (by kernel_rfl) ?_
    refine awp_sub (s := { t := [(0, _, _), (1, _, _), (5, _, _), (27, _, _)], bx := [((.l 5), _)], ow := [] }) (sub_mk (⟨sx rfl, ⟨sx rfl, ⟨sx rfl, ⟨sx rfl, trivial⟩⟩⟩⟩) (⟨sx rfl, trivial⟩) trivial) ?_
    refine awp_cond rfl (fun hc2 => ?_) (fun hc2 => ?_)
    · try simp only [nn, Fd.rows_len, Fm.rows_len, V.rows_len] at hc2
      refine awp_seq (awp_region ?_)
      refine al_pure rfl rfl rfl (pure_assign rfl gU) ?_
      refine al_nil ?_
      refine awp_ret ?_
      repeat (first | refine tR ?_ | refine bR ?_)
      refine ret_ok rfl ?_ trivial
      exact xi_eq (by rw [if_pos]; omega)
    · try simp only [nn, Fd.rows_len, Fm.rows_len, V.rows_len] at hc2
      rw [if_neg (by omega)]
      refine awp_skip ?_
      refine awp_seq ?_
      refine awp_seq (awp_region ?_)
      refine al_pure rfl rfl rfl (pure_assign rfl gU) ?_
      refine al_nil ?_
      refine awp_block ?_
      refine awp_for (ι := Nat) { t := [(0, _, _), (1, _, _), (5, _, _)], bx := [((.l 5), _)], ow := [] } (fun k => [(7, true, xi (k : Int))]) (fun k => []) (fun k => k ≤ (t.getD i.toNat default).fields.length ∧ kidsE rec ((t.getD i.toNat default).fields.drop k) (v.kids.drop k) = kidsE rec (t.getD i.toNat default).fields v.kids) (fun k => (t.getD i.toNat default).fields.length - k) (0) (by simp) (sub_mk (⟨sx rfl, ⟨sx rfl, ⟨sx rfl, ⟨sx rfl, trivial⟩⟩⟩⟩) (⟨sx rfl, trivial⟩) trivial) ?_
      intro k hok
      dsimp only [List.cons_append, List.nil_append]
      obtain ⟨hk, hi2⟩ := hok
      refine awp_seq ?_
      refine awp_seq (awp_region ?_)
      refine al_pure rfl rfl rfl (pure_move rfl gU) ?_
      refine al_pure rfl rfl rfl (pure_fieldPtr rfl gU rfl rfl) ?_
      refine al_pure rfl rfl rfl (pure_loadBox rfl gU rfl rfl rfl rfl) ?_
      refine al_lenSl rfl rfl rfl rfl rfl gU rfl rfl ?_ (fun hh => by simp at hh); intro hlen
      refine al_pure rfl rfl rfl (pure_cmp rfl rfl gU gU rfl) ?_
      refine al_nil ?_
      refine awp_sub (s := { t := [(0, _, _), (1, _, _), (5, _, _), (7, _, _), (32, _, _)], bx := [((.l 5), _)], ow := [] }) (sub_mk (⟨sx rfl, ⟨sx rfl, ⟨sx rfl, ⟨sx rfl, ⟨sx rfl, trivial⟩⟩⟩⟩⟩) (⟨sx rfl, trivial⟩) trivial) ?_
      refine awp_cond rfl (fun hc3 => ?_) (fun hc3 => ?_)
      · try simp only [nn, Fd.rows_len, Fm.rows_len, V.rows_len] at hc3
        rw [drop_getD (l := (t.getD i.toNat default).fields) (by omega), drop_getD (l := v.kids) (by omega), kidsE] at hi2
        unfold fvE at hi2
        refine awp_skip ?_
        refine awp_seq ?_
        refine awp_block ?_
        refine awp_seq (awp_region ?_)
        refine al_pure rfl rfl rfl (pure_move rfl gU) ?_
        refine al_pure rfl rfl rfl (pure_move rfl gU) ?_
        refine al_pure rfl rfl rfl (pure_indexAddr (j := i.toNat) rfl rfl gU gU rfl rfl (by omega) (fun hh => Fm.rows_at (by omega))) ?_
        refine al_pure rfl rfl rfl (pure_fieldRo rfl gU rfl rfl) ?_
        refine al_pure rfl rfl rfl (pure_loadRo rfl gU rfl rfl rfl) ?_
        refine al_pure rfl rfl rfl (pure_move rfl gU) ?_
        refine al_pure rfl rfl rfl (pure_indexAddr rfl rfl gU gU rfl rfl rfl (fun hh => Fd.rows_at (by omega))) ?_
        refine al_pure rfl rfl rfl (pure_loadRoRow rfl gU rfl rfl rfl rfl) ?_
        refine al_do rfl (does_alloc rfl rfl rfl) ?_
        refine al_do rfl (does_store rfl rfl rfl rfl rfl rfl rfl) ?_
        refine al_nil ?_
        refine awp_sub (s := { t := [(0, _, _), (1, _, _), (5, _, _), (7, _, _), (8, _, _)], bx := [((.l 5), _), ((.l 8), _)], ow := [] }) (sub_mk (⟨sx rfl, ⟨sx rfl, ⟨sx rfl, ⟨sx rfl, ⟨sx rfl, trivial⟩⟩⟩⟩⟩) (⟨sx rfl, ⟨sx rfl, trivial⟩⟩) trivial) ?_
        refine awp_seq ?_
        refine awp_seq ?_
        refine awp_drawn' (by kernel_rfl) ?_
        refine dr_loadRow rfl rfl rfl rfl rfl rfl rfl gU rfl rfl rfl rfl rfl ?_
        refine dr_pure rfl rfl rfl rfl (pure_fieldPtr rfl gU rfl rfl) ?_
        refine dr_load rfl rfl rfl rfl rfl rfl rfl gU rfl rfl rfl rfl ?_
        refine dr_pure rfl rfl rfl rfl (pure_move rfl gU) ?_
        refine dr_pure rfl rfl rfl rfl (pure_indexAddr rfl rfl gU gU rfl rfl rfl (fun hh => V.rows_at (by omega))) ?_
        refine dr_pure rfl rfl rfl rfl (pure_loadRoRow rfl gU rfl rfl rfl rfl) ?_
        refine dr_callN rfl rfl rfl rfl rfl rfl rfl gU gU (fits_spec _ _ (hfd k (by omega))) rfl ?_
        refine dr_pure rfl rfl rfl rfl (pure_not rfl gU) ?_
        refine dr_nil (by kernel_rfl) ?_
        refine awp_sub (s := { t := [(0, _, _), (1, _, _), (5, _, _), (7, _, _), (8, _, _), (50, _, _)], bx := [((.l 5), _), ((.l 8), _)], ow := [] }) (sub_mk (⟨sx rfl, ⟨sx rfl, ⟨sx rfl, ⟨sx rfl, ⟨sx rfl, ⟨sx rfl, trivial⟩⟩⟩⟩⟩⟩) (⟨sx rfl, ⟨sx rfl, trivial⟩⟩) trivial) ?_
        refine awp_cond rfl (fun hc1 => ?_) (fun hc1 => ?_)
        · try simp only [nn, Fd.rows_len, Fm.rows_len, V.rows_len] at hc1
          refine awp_seq (awp_region ?_)
          refine al_pure rfl rfl rfl (pure_assign rfl gU) ?_
          refine al_nil ?_
          refine awp_ret ?_
          repeat (first | refine tR ?_ | refine bR ?_)
          refine ret_ok rfl ?_ trivial
          exact xi_eq (by grind)
        · try simp only [nn, Fd.rows_len, Fm.rows_len, V.rows_len] at hc1
          refine awp_skip ?_
          refine awp_seq ?_
          refine awp_seq ?_
          refine awp_drawn' (by kernel_rfl) ?_
          refine dr_loadRow rfl rfl rfl rfl rfl rfl rfl gU rfl rfl rfl rfl rfl ?_
          refine dr_pure rfl rfl rfl rfl (pure_fieldPtr rfl gU rfl rfl) ?_
          refine dr_load rfl rfl rfl rfl rfl rfl rfl gU rfl rfl rfl rfl ?_
          refine dr_pure rfl rfl rfl rfl (pure_move rfl gU) ?_
          refine dr_pure rfl rfl rfl rfl (pure_indexAddr rfl rfl gU gU rfl rfl rfl (fun hh => V.rows_at (by omega))) ?_
          refine dr_pure rfl rfl rfl rfl (pure_loadRoRow rfl gU rfl rfl rfl rfl) ?_
          refine dr_callN rfl rfl rfl rfl rfl rfl rfl gU gU (rngs_spec _ _ (hfd k (by omega))) rfl ?_
          refine dr_pure rfl rfl rfl rfl (pure_not rfl gU) ?_
          refine dr_nil (by kernel_rfl) ?_
          refine awp_sub (s := { t := [(0, _, _), (1, _, _), (5, _, _), (7, _, _), (8, _, _), (58, _, _)], bx := [((.l 5), _), ((.l 8), _)], ow := [] }) (sub_mk (⟨sx rfl, ⟨sx rfl, ⟨sx rfl, ⟨sx rfl, ⟨sx rfl, ⟨sx rfl, trivial⟩⟩⟩⟩⟩⟩) (⟨sx rfl, ⟨sx rfl, trivial⟩⟩) trivial) ?_
          refine awp_cond rfl (fun hc2 => ?_) (fun hc2 => ?_)
          · try simp only [nn, Fd.rows_len, Fm.rows_len, V.rows_len] at hc2
            refine awp_seq (awp_region ?_)
            refine al_pure rfl rfl rfl (pure_assign rfl gU) ?_
            refine al_nil ?_
            refine awp_ret ?_
            repeat (first | refine tR ?_ | refine bR ?_)
            refine ret_ok rfl ?_ trivial
            exact xi_eq (by grind)
          · try simp only [nn, Fd.rows_len, Fm.rows_len, V.rows_len] at hc2
            refine awp_skip ?_
            refine awp_seq (awp_region ?_)
            refine al_pure rfl rfl rfl (pure_fieldPtr rfl gU rfl rfl) ?_
            refine al_pure rfl rfl rfl (pure_loadBox rfl gU rfl rfl rfl rfl) ?_
            refine al_pure rfl rfl rfl (pure_cmp rfl rfl gU gU rfl) ?_
            refine al_nil ?_
            refine awp_cond rfl (fun hc3 => ?_) (fun hc3 => ?_)
            · try simp only [nn, Fd.rows_len, Fm.rows_len, V.rows_len] at hc3
              refine awp_seq ?_
              refine awp_drawn' (by kernel_rfl) ?_
              refine dr_pure rfl rfl rfl rfl (pure_move rfl gU) ?_
              refine dr_pure rfl rfl rfl rfl (pure_fieldPtr rfl gU rfl rfl) ?_
              refine dr_load rfl rfl rfl rfl rfl rfl rfl gU rfl rfl rfl rfl ?_
              refine dr_pure rfl rfl rfl rfl (pure_fieldPtr rfl gU rfl rfl) ?_
              refine dr_load rfl rfl rfl rfl rfl rfl rfl gU rfl rfl rfl rfl ?_
              refine dr_pure rfl rfl rfl rfl (pure_move rfl gU) ?_
              refine dr_pure rfl rfl rfl rfl (pure_indexAddr rfl rfl gU gU rfl rfl rfl (fun hh => V.rows_at (by omega))) ?_
              refine dr_pure rfl rfl rfl rfl (pure_loadRoRow rfl gU rfl rfl rfl rfl) ?_
              refine dr_callN rfl rfl rfl rfl rfl rfl rfl gU gU (hrec k (by omega) (by assumption) _) rfl ?_
              refine dr_pure rfl rfl rfl rfl (pure_assign rfl gU) ?_
              refine dr_nil (by kernel_rfl) ?_
              refine awp_sub (s := { t := [(0, _, _), (1, _, _), (5, _, _), (7, _, _), (9, _, _)], bx := [((.l 5), _)], ow := [] }) (sub_mk (⟨sx rfl, ⟨sx rfl, ⟨sx rfl, ⟨sx rfl, ⟨sx rfl, trivial⟩⟩⟩⟩⟩) (⟨sx rfl, trivial⟩) trivial) ?_
              refine awp_seq (awp_region ?_)
              refine al_pure rfl rfl rfl (pure_move rfl gU) ?_
              refine al_pure rfl rfl rfl (pure_cmp rfl rfl gU gU rfl) ?_
              refine al_nil ?_
              refine awp_cond rfl (fun hc4 => ?_) (fun hc4 => ?_)
              · try simp only [nn, Fd.rows_len, Fm.rows_len, V.rows_len] at hc4
                refine awp_seq (awp_region ?_)
                refine al_pure rfl rfl rfl (pure_move rfl gU) ?_
                refine al_pure rfl rfl rfl (pure_assign rfl gU) ?_
                refine al_nil ?_
                refine awp_ret ?_
                repeat (first | refine tR ?_ | refine bR ?_)
                refine ret_ok rfl ?_ trivial
                exact xi_eq (by grind)
              · try simp only [nn, Fd.rows_len, Fm.rows_len, V.rows_len] at hc4
                refine awp_skip ?_
                refine awp_region ?_
                refine al_pure rfl rfl rfl (pure_move rfl gU) ?_
                refine al_pure rfl rfl rfl (pure_arith rfl rfl gU gU rfl (IntWalk.i64_in _ (by omega))) ?_
                refine al_pure rfl rfl rfl (pure_assign rfl gU) ?_
                refine al_nil ?_
                refine ⟨k + 1, ?_, ?_, sub_mk (⟨⟨_, rfl, ?_⟩, ⟨sx rfl, ⟨sx rfl, ⟨sx rfl, trivial⟩⟩⟩⟩) (⟨sx rfl, trivial⟩) trivial⟩
                all_goals (first | rfl | omega | grind)
            · try simp only [nn, Fd.rows_len, Fm.rows_len, V.rows_len] at hc3
              refine awp_skip ?_
              refine awp_region ?_
              refine al_pure rfl rfl rfl (pure_move rfl gU) ?_
              refine al_pure rfl rfl rfl (pure_arith rfl rfl gU gU rfl (IntWalk.i64_in _ (by omega))) ?_
              refine al_pure rfl rfl rfl (pure_assign rfl gU) ?_
              refine al_nil ?_
              refine ⟨k + 1, ?_, ?_, sub_mk (⟨⟨_, rfl, ?_⟩, ⟨sx rfl, ⟨sx rfl, ⟨sx rfl, trivial⟩⟩⟩⟩) (⟨sx rfl, trivial⟩) trivial⟩
              all_goals (first | rfl | omega | grind)
      · try simp only [nn, Fd.rows_len, Fm.rows_len, V.rows_len] at hc3
        rw [List.drop_of_length_le (l := (t.getD i.toNat default).fields) (by omega), kidsE] at hi2
        · refine awp_exit ?_
          repeat (first | refine thenS_exit ?_ | refine blockS_hit ?_ | refine blockS_miss rfl ?_)
          refine awp_seq (awp_region ?_)
          refine al_pure rfl rfl rfl (pure_assign rfl gU) ?_
          refine al_nil ?_
          refine awp_ret ?_
          repeat (first | refine tR ?_ | refine bR ?_)
          refine ret_ok rfl ?_ trivial
          exact xi_eq hi2
        · intro a b c d e; simp at e
theorem cvalue_spec (t : List Fm) (i : Int) (v : V) (hi : 0 ≤ i ∧ i < t.length) (h : Fds t (t.getD i.toNat default).fields) : Ctr sys 38 [xtab t, xi i, xv v] [] (xi (valT t i v)) none [] := by
  refine cvalue_gen t i v (val0 t) hi h.ok fun k hk h5 u => ?_
  obtain ⟨h1, h2⟩ := h.nest k hk h5
  have h3 := (h.ok k hk).n
  exact cvalue_gen t _ u (fun _ _ => 0) (by omega) (fun j hj => (h2.ok j hj).1) fun j hj h6 => absurd h6 (h2.ok j hj).2.1
theorem rvalue_spec (t : List Fm) (i : Int) (v : V) (hi : 0 ≤ i ∧ i < t.length) (h : Fds t (t.getD i.toNat default).fields) : Ctr sys 40 [xtab t, xi i, xv v] [] (xi (valT t i v)) none [] := by
  refine rvalue_gen t i v (val0 t) hi h.ok fun k hk h5 u => ?_
  obtain ⟨h1, h2⟩ := h.nest k hk h5
  have h3 := (h.ok k hk).n
  exact rvalue_gen t _ u (fun _ _ => 0) (by omega) (fun j hj => (h2.ok j hj).1) fun j hj h6 => absurd h6 (h2.ok j hj).2.1
theorem errE_fds {t : List Fm} {i : Int} (h : errE t i = 0) : (0 ≤ i ∧ i < t.length) ∧ Fds t (t.getD i.toNat default).fields := by
  obtain ⟨h1, h2, h3⟩ := errE_zero h
  exact ⟨⟨h2, h3⟩, h1.fds (by omega)⟩
theorem boundsE_err (t : List Fm) (i : Int) : (boundsE t i).2.2 = errE t i := by
  unfold boundsE; split
  · rfl
  · dsimp only; omega
theorem cValid_spec (t : List Fm) (i : Int) (v : V) : Ctr sys 15 [xtab t, xi i, xv v] [] (xi (valE t i v)) none [] := by
  have hb := boundsE_err t i
  refine spec_intro Try.func15 rfl rfl rfl rfl rfl rfl ?_
  refine awp_seq (awp_region ?_)
  refine al_do rfl (does_box rfl rfl rfl rfl) ?_
  refine al_pure rfl rfl rfl (pure_assign rfl gU) ?_
  refine al_nil ?_
  refine awp_seq ?_
  refine awp_seq (awp_region ?_)
  refine al_pure rfl rfl rfl (pure_move rfl gU) ?_
  refine al_pure rfl rfl rfl (pure_move rfl gU) ?_
  refine al_call rfl rfl rfl rfl rfl rfl gU gU (fBounds_spec _ _) rfl ?_
  refine al_pure rfl rfl rfl (pure_move rfl gU) ?_
  refine al_pure rfl rfl rfl (pure_extract rfl gU rfl) ?_
  refine al_pure rfl rfl rfl (pure_extract rfl gU rfl) ?_
  refine al_pure rfl rfl rfl (pure_extract rfl gU rfl) ?_
  refine al_pure rfl rfl rfl (pure_assign rfl gU) ?_
  refine al_pure rfl rfl rfl (pure_assign rfl gU) ?_
  refine al_pure rfl rfl rfl (pure_assign rfl gU) ?_
  refine al_nil ?_
  refine awp_sub (s := { t := [(0, _, _), (1, _, _), (5, _, _), (9, _, _)], bx := [((.l 5), _)], ow := [] }) (sub_mk (⟨sx rfl, ⟨sx rfl, ⟨sx rfl, ⟨sx rfl, trivial⟩⟩⟩⟩) (⟨sx rfl, trivial⟩) trivial) ?_
  refine awp_seq (awp_region ?_)
  refine al_pure rfl rfl rfl (pure_move rfl gU) ?_
  refine al_pure rfl rfl rfl (pure_cmp rfl rfl gU gU rfl) ?_
  refine al_nil ?_
  refine awp_cond rfl (fun hc => ?_) (fun hc => ?_)
  · try simp only [nn, Fd.rows_len, Fm.rows_len, V.rows_len] at hc
    refine awp_seq (awp_region ?_)
    refine al_pure rfl rfl rfl (pure_move rfl gU) ?_
    refine al_pure rfl rfl rfl (pure_assign rfl gU) ?_
    refine al_nil ?_
    refine awp_ret ?_
    repeat (first | refine tR ?_ | refine bR ?_)
    refine ret_ok rfl ?_ trivial
    exact xi_eq (by rw [valE, if_pos (by omega), hb])
  · try simp only [nn, Fd.rows_len, Fm.rows_len, V.rows_len] at hc
    have he : errE t i = 0 := by omega
    refine awp_skip ?_
    refine awp_seq (awp_region ?_)
    refine al_pure rfl rfl rfl (pure_move rfl gU) ?_
    refine al_pure rfl rfl rfl (pure_move rfl gU) ?_
    refine al_pure rfl rfl rfl (pure_loadBoxRow rfl gU rfl rfl rfl rfl rfl) ?_
    refine al_call rfl rfl rfl rfl rfl rfl gU gU (cvalue_spec _ _ _ (errE_fds he).1 (errE_fds he).2) rfl ?_
    refine al_pure rfl rfl rfl (pure_assign rfl gU) ?_
    refine al_nil ?_
    refine awp_ret ?_
    repeat (first | refine tR ?_ | refine bR ?_)
    refine ret_ok rfl ?_ trivial
    exact xi_eq (by rw [valE, if_neg (by omega)])
theorem rVal_spec (t : List Fm) (i : Int) (v : V) : Ctr sys 16 [xtab t, xi i, xv v] [] (xi (valE t i v)) none [] := by
  refine spec_intro Try.func16 rfl rfl rfl rfl rfl rfl ?_
  refine awp_seq (awp_region ?_)
  refine al_do rfl (does_box rfl rfl rfl rfl) ?_
  refine al_pure rfl rfl rfl (pure_assign rfl gU) ?_
  refine al_nil ?_
  refine awp_seq ?_
  refine awp_seq (awp_region ?_)
  refine al_pure rfl rfl rfl (pure_move rfl gU) ?_
  refine al_pure rfl rfl rfl (pure_move rfl gU) ?_
  refine al_call rfl rfl rfl rfl rfl rfl gU gU (rError_spec _ _) rfl ?_
  refine al_pure rfl rfl rfl (pure_assign rfl gU) ?_
  refine al_nil ?_
  refine awp_sub (s := { t := [(0, _, _), (1, _, _), (5, _, _), (7, _, _)], bx := [((.l 5), _)], ow := [] }) (sub_mk (⟨sx rfl, ⟨sx rfl, ⟨sx rfl, ⟨sx rfl, trivial⟩⟩⟩⟩) (⟨sx rfl, trivial⟩) trivial) ?_
  refine awp_seq (awp_region ?_)
  refine al_pure rfl rfl rfl (pure_move rfl gU) ?_
  refine al_pure rfl rfl rfl (pure_cmp rfl rfl gU gU rfl) ?_
  refine al_nil ?_
  refine awp_cond rfl (fun hc => ?_) (fun hc => ?_)
  · try simp only [nn, Fd.rows_len, Fm.rows_len, V.rows_len] at hc
    refine awp_seq (awp_region ?_)
    refine al_pure rfl rfl rfl (pure_move rfl gU) ?_
    refine al_pure rfl rfl rfl (pure_assign rfl gU) ?_
    refine al_nil ?_
    refine awp_ret ?_
    repeat (first | refine tR ?_ | refine bR ?_)
    refine ret_ok rfl ?_ trivial
    exact xi_eq (by rw [valE, if_pos (by omega)])
  · try simp only [nn, Fd.rows_len, Fm.rows_len, V.rows_len] at hc
    have he : errE t i = 0 := by omega
    refine awp_skip ?_
    refine awp_seq (awp_region ?_)
    refine al_pure rfl rfl rfl (pure_move rfl gU) ?_
    refine al_pure rfl rfl rfl (pure_move rfl gU) ?_
    refine al_pure rfl rfl rfl (pure_loadBoxRow rfl gU rfl rfl rfl rfl rfl) ?_
    refine al_call rfl rfl rfl rfl rfl rfl gU gU (rvalue_spec _ _ _ (errE_fds he).1 (errE_fds he).2) rfl ?_
    refine al_pure rfl rfl rfl (pure_assign rfl gU) ?_
    refine al_nil ?_
    refine awp_ret ?_
    repeat (first | refine tR ?_ | refine bR ?_)
    refine ret_ok rfl ?_ trivial
    exact xi_eq (by rw [valE, if_neg (by omega)])
end Go.Proofs.Ytgjclggjkhapfaa
/- Reading strings of formats: what both sides compute (plain). -/
set_option linter.unusedVariables false
set_option linter.unusedSimpArgs false
namespace Go.Proofs.Ytgjclggjkhapfaa
open Go Go.Abs
/-- A result of reading. -/
structure Pl where
  v : V
  p : Nat
  ok : Bool
  deriving Inhabited
def Pl.cells (p : Pl) : List C := p.v.cells ++ [.i .i64 p.p, .b p.ok]
abbrev failP (a : Nat) : Pl := ⟨v0, a, false⟩
abbrev bv (s : List UInt8) : V := .mk s 0 []
def takeP (s : List UInt8) (a n e : Nat) : Pl := if e < a + n then failP e else ⟨bv ((s.take (a + n)).drop a), a + n, true⟩
def tagP (s : List UInt8) (e : Nat) : List UInt8 → Nat → Pl
  | [], a => ⟨v0, a, true⟩
  | c :: l, a => if e ≤ a ∨ s.getD a 0 ≠ c then failP a else tagP s e l (a + 1)
/-- 'k': what was read is kept where it is too short; 'rec': reading a format. -/
def nestP (k : Bool) (rec : Int → Nat → Nat → Pl) (t : List Fm) (i : Int) (s : List UInt8) (a e : Nat) : Pl :=
  if e ≤ a then failP e else if ((s.getD a 0).toNat : Int) < (boundsE t i).1 ∨ (boundsE t i).2.1 < (s.getD a 0).toNat then failP a
  else if e < a + 1 + (s.getD a 0).toNat then failP e
  else if (rec i (a + 1) (a + 1 + (s.getD a 0).toNat)).ok = true ∧ (rec i (a + 1) (a + 1 + (s.getD a 0).toNat)).p < a + 1 + (s.getD a 0).toNat then
    ⟨if k then (rec i (a + 1) (a + 1 + (s.getD a 0).toNat)).v else v0, (rec i (a + 1) (a + 1 + (s.getD a 0).toNat)).p, false⟩
  else rec i (a + 1) (a + 1 + (s.getD a 0).toNat)
def fldP (k : Bool) (rec : Int → Nat → Nat → Pl) (t : List Fm) (f : Fd) (s : List UInt8) (a e : Nat) (pre : Bool) : Pl :=
  if f.kind = 1 then tagP s e f.bytes a
  else if f.kind = 2 then takeP s a f.n.toNat e
  else if f.kind = 3 then (if e ≤ a then failP e else if f.n < (s.getD a 0).toNat then failP a else takeP s (a + 1) (s.getD a 0).toNat e)
  else if f.kind = 4 then (if e ≤ a then failP e else if ((s.getD a 0).toNat : Int) < f.low ∨ f.high < (s.getD a 0).toNat then failP a else ⟨.mk [] (s.getD a 0).toNat [], a + 1, true⟩)
  else if f.kind = 5 then nestP k rec t f.n s a e
  else if ((e - a : Nat) : Int) < f.low then failP e else if f.high < ((e - a : Nat) : Int) ∧ pre = false then failP (a + f.high.toNat) else takeP s a (min (e - a) f.high.toNat) e
def readL (k : Bool) (rec : Int → Nat → Nat → Pl) (t : List Fm) (s : List UInt8) (e : Nat) (pre : Bool) : List Fd → List V → Nat → Pl
  | [], vs, a => ⟨.mk [] 0 vs, a, true⟩
  | f :: fs, vs, a => if (fldP k rec t f s a e pre).ok = true then readL k rec t s e pre fs (vs ++ [(fldP k rec t f s a e pre).v]) (fldP k rec t f s a e pre).p else failP (fldP k rec t f s a e pre).p
def read0 (k : Bool) (t : List Fm) (s : List UInt8) (i : Int) (a e : Nat) : Pl := readL k (fun _ _ _ => failP 0) t s e false (t.getD i.toNat default).fields [] a
def readT (k : Bool) (t : List Fm) (s : List UInt8) (pre : Bool) (i : Int) (a e : Nat) : Pl := readL k (read0 k t s) t s e pre (t.getD i.toNat default).fields [] a
/-- What is known of a result's position. -/
theorem takeP_le {s : List UInt8} {a n e : Nat} (h : a ≤ e) : a ≤ (takeP s a n e).p ∧ (takeP s a n e).p ≤ e := by
  unfold takeP; split <;> dsimp only <;> omega
theorem tagP_le {s : List UInt8} {e : Nat} : ∀ {l : List UInt8} {a : Nat}, a ≤ e → a ≤ (tagP s e l a).p ∧ (tagP s e l a).p ≤ e
  | [], a, h => by rw [tagP]; dsimp only; omega
  | c :: l, a, h => by
    rw [tagP]; split
    · dsimp only; omega
    · rename_i h1
      have := tagP_le (s := s) (e := e) (l := l) (a := a + 1) (by omega)
      omega
theorem nestP_le {k : Bool} {rec : Int → Nat → Nat → Pl} {t : List Fm} {i : Int} {s : List UInt8} {a e : Nat} (h : a ≤ e) (hr : ∀ b c, b ≤ c → b ≤ (rec i b c).p ∧ (rec i b c).p ≤ c) :
    a ≤ (nestP k rec t i s a e).p ∧ (nestP k rec t i s a e).p ≤ e := by
  have := hr (a + 1) (a + 1 + (s.getD a 0).toNat) (by omega)
  unfold nestP; split
  · dsimp only; omega
  split
  · dsimp only; omega
  split
  · dsimp only; omega
  split
  · dsimp only; omega
  · omega
theorem fldP_le {k : Bool} {rec : Int → Nat → Nat → Pl} {t : List Fm} {f : Fd} {s : List UInt8} {a e : Nat} {pre : Bool} (h : a ≤ e) (hr : f.kind = 5 → ∀ b c, b ≤ c → b ≤ (rec f.n b c).p ∧ (rec f.n b c).p ≤ c) :
    a ≤ (fldP k rec t f s a e pre).p ∧ (fldP k rec t f s a e pre).p ≤ e := by
  unfold fldP; split
  · exact tagP_le h
  split
  · exact takeP_le h
  split
  · split
    · dsimp only; omega
    split
    · dsimp only; omega
    · have := takeP_le (s := s) (a := a + 1) (n := (s.getD a 0).toNat) (e := e) (by omega); omega
  split
  · split
    · dsimp only; omega
    split
    · dsimp only; omega
    · dsimp only; omega
  split
  · rename_i h5; exact nestP_le h (hr h5)
  split
  · dsimp only; omega
  split
  · dsimp only; omega
  · exact takeP_le h
theorem readL_le {k : Bool} {rec : Int → Nat → Nat → Pl} {t : List Fm} {s : List UInt8} {e : Nat} {pre : Bool} : ∀ {fs : List Fd} {vs : List V} {a : Nat}, a ≤ e → (∀ j, j < fs.length → (fs.getD j default).kind = 5 → ∀ b c, b ≤ c → b ≤ (rec (fs.getD j default).n b c).p ∧ (rec (fs.getD j default).n b c).p ≤ c) →
    a ≤ (readL k rec t s e pre fs vs a).p ∧ (readL k rec t s e pre fs vs a).p ≤ e
  | [], vs, a, h, _ => by rw [readL]; dsimp only; omega
  | f :: fs, vs, a, h, hr => by
    have h1 := fldP_le (k := k) (t := t) (s := s) (pre := pre) h fun h5 b c hbc => by have := hr 0 (by simp) (by simpa using h5) b c hbc; simpa using this
    rw [readL]; split
    · have := readL_le (k := k) (rec := rec) (t := t) (s := s) (e := e) (pre := pre) (fs := fs) (vs := vs ++ [(fldP k rec t f s a e pre).v]) (a := (fldP k rec t f s a e pre).p) h1.2 fun j hj h5 b c hbc => by
        have := hr (j + 1) (by simpa using hj) (by simpa using h5) b c hbc; simpa using this
      omega
    · dsimp only; omega
theorem read0_le {k : Bool} {t : List Fm} {s : List UInt8} {i : Int} {a e : Nat} (h : a ≤ e) (hp : Plain1 (t.getD i.toNat default).fields) : a ≤ (read0 k t s i a e).p ∧ (read0 k t s i a e).p ≤ e :=
  readL_le h fun j hj h5 => absurd h5 (hp.ok j hj).2.1
theorem readT_le {k : Bool} {t : List Fm} {s : List UInt8} {pre : Bool} {i : Int} {a e : Nat} (h : a ≤ e) (hp : Fds t (t.getD i.toNat default).fields) : a ≤ (readT k t s pre i a e).p ∧ (readT k t s pre i a e).p ≤ e :=
  readL_le h fun j hj h5 b c hbc => read0_le hbc (hp.nest j hj h5).2
/-- Whether what was read is kept plays no part, but in what fails. -/
def Pl.sim (p q : Pl) : Prop := p.p = q.p ∧ p.ok = q.ok ∧ (q.ok = true → p.v = q.v)
theorem nestP_sim {rec rec' : Int → Nat → Nat → Pl} {t : List Fm} {i : Int} {s : List UInt8} {a e : Nat} (h : ∀ b c, rec i b c = rec' i b c) : (nestP true rec t i s a e).sim (nestP false rec' t i s a e) := by
  unfold nestP
  simp only [h]
  split
  · exact ⟨rfl, rfl, fun _ => rfl⟩
  split
  · exact ⟨rfl, rfl, fun _ => rfl⟩
  split
  · exact ⟨rfl, rfl, fun _ => rfl⟩
  split
  · exact ⟨rfl, rfl, fun h => by simp at h⟩
  · exact ⟨rfl, rfl, fun _ => rfl⟩
theorem fldP_sim {rec rec' : Int → Nat → Nat → Pl} {t : List Fm} {f : Fd} {s : List UInt8} {a e : Nat} {pre : Bool} (h : f.kind = 5 → ∀ b c, rec f.n b c = rec' f.n b c) : (fldP true rec t f s a e pre).sim (fldP false rec' t f s a e pre) := by
  by_cases h5 : f.kind = 5
  · simp only [fldP, h5]
    exact nestP_sim (h h5)
  · have : fldP true rec t f s a e pre = fldP false rec' t f s a e pre := by simp only [fldP, if_neg h5]
    rw [this]; exact ⟨rfl, rfl, fun _ => rfl⟩
theorem readL_sim {rec rec' : Int → Nat → Nat → Pl} {t : List Fm} {s : List UInt8} {e : Nat} {pre : Bool} : ∀ {fs : List Fd} {vs : List V} {a : Nat}, (∀ j, j < fs.length → (fs.getD j default).kind = 5 → ∀ b c, rec (fs.getD j default).n b c = rec' (fs.getD j default).n b c) →
    readL true rec t s e pre fs vs a = readL false rec' t s e pre fs vs a
  | [], vs, a, _ => by rw [readL, readL]
  | f :: fs, vs, a, h => by
    obtain ⟨h1, h2, h3⟩ := fldP_sim (t := t) (s := s) (a := a) (e := e) (pre := pre) (rec := rec) (rec' := rec') (f := f) fun h5 b c => by have := h 0 (by simp) (by simpa using h5) b c; simpa using this
    rw [readL, readL, h1, h2]
    split
    · rename_i h4
      rw [h3 h4]
      exact readL_sim fun j hj h5 b c => by have := h (j + 1) (by simpa using hj) (by simpa using h5) b c; simpa using this
    · rfl
theorem readT_sim {t : List Fm} {s : List UInt8} {pre : Bool} {i : Int} {a e : Nat} (h : Fds t (t.getD i.toNat default).fields) : readT true t s pre i a e = readT false t s pre i a e :=
  readL_sim fun j hj h5 b c => readL_sim fun l hl h6 => absurd h6 ((h.nest j hj h5).2.ok l hl).2.1
end Go.Proofs.Ytgjclggjkhapfaa
/- Contracts: reading strings of formats, as codec does. -/
set_option linter.unusedVariables false
set_option linter.unusedSimpArgs false
namespace Go.Proofs.Ytgjclggjkhapfaa
open Go Go.Abs
abbrev pp : X := .v (.ptr (.o 0) 0)
abbrev xnil : X := .tup []
abbrev rc (t : List Fm) (s : List UInt8) (a : Int) (b : Bool) : List C := [.sl 2 (Fm.rows t), .s s, .i .i64 a, .b b]
theorem rc_eq {t : List Fm} {s : List UInt8} {a a' : Int} {b b' : Bool} (h1 : a = a') (h2 : b = b') : some (rc t s a b) = some (rc t s a' b') := by rw [h1, h2]
theorem rc_eq' {t : List Fm} {s : List UInt8} {a a' : Int} {b b' : Bool} (h1 : a = a') (h2 : b = b') : rc t s a b = rc t s a' b' := by rw [h1, h2]
theorem u8_lt' (b : UInt8) : (b.toNat : Int) < 256 := by have := b.toNat_lt; omega
theorem cfail_spec (t : List Fm) (s : List UInt8) (a n : Int) (b : Bool) : Ctr sys 90 [pp, xi n] [rc t s a b] xnil none [rc t s n true] := by
  refine spec_intro Try.func90 rfl rfl rfl rfl rfl rfl ?_
  refine awp_region ?_
  refine al_pure rfl rfl rfl (pure_move rfl gU) ?_
  refine al_pure rfl rfl rfl (pure_move rfl gU) ?_
  refine al_pure rfl rfl rfl (pure_move rfl gU) ?_
  refine al_pure rfl rfl rfl (pure_nilCheck rfl gU) ?_
  refine al_pure rfl rfl rfl (pure_fieldPtr rfl gU rfl rfl) ?_
  refine al_do rfl (does_store rfl rfl rfl rfl rfl rfl rfl) ?_
  refine al_pure rfl rfl rfl (pure_nilCheck rfl gU) ?_
  refine al_pure rfl rfl rfl (pure_fieldPtr rfl gU rfl rfl) ?_
  refine al_do rfl (does_store rfl rfl rfl rfl rfl rfl rfl) ?_
  refine al_nil ?_
  refine retn_ok rfl ?_ (⟨⟨_, rfl, ?_⟩, trivial⟩)
  · rfl
  · rfl
theorem ctake_spec (t : List Fm) (s : List UInt8) (a n e : Nat) (ai ni ei : Int) (ha : ai = a) (hn : ni = n) (he : ei = e) (h1 : a ≤ e) (h2 : e ≤ s.length) (hs : s.length ≤ 100000) (hn2 : n ≤ 100000) :
    Ctr sys 87 [pp, xi ni, xi ei] [rc t s ai false] (xs (takeP s a n e).v.bytes) none [rc t s (takeP s a n e).p (!(takeP s a n e).ok)] := by
  subst ha; subst hn; subst he
  refine spec_intro Try.func87 rfl rfl rfl rfl rfl rfl ?_
  refine awp_seq (awp_region ?_)
  refine al_pure rfl rfl rfl (pure_assign rfl gU) ?_
  refine al_nil ?_
  refine awp_seq ?_
  refine awp_seq (awp_region ?_)
  refine al_pure rfl rfl rfl (pure_move rfl gU) ?_
  refine al_pure rfl rfl rfl (pure_move rfl gU) ?_
  refine al_pure rfl rfl rfl (pure_move rfl gU) ?_
  refine al_pure rfl rfl rfl (pure_nilCheck rfl gU) ?_
  refine al_pure rfl rfl rfl (pure_fieldPtr rfl gU rfl rfl) ?_
  refine al_pure rfl rfl rfl (pure_loadBox rfl gU rfl rfl rfl rfl) ?_
  refine al_pure rfl rfl rfl (pure_arith rfl rfl gU gU rfl (IntWalk.i64_in _ (by omega))) ?_
  refine al_pure rfl rfl rfl (pure_cmp rfl rfl gU gU rfl) ?_
  refine al_nil ?_
  refine awp_sub (s := { t := [(0, _, _), (1, _, _), (2, _, _), (15, _, _)], bx := [((.o 0), _)], ow := [] }) (sub_mk (⟨sx rfl, ⟨sx rfl, ⟨sx rfl, ⟨sx rfl, trivial⟩⟩⟩⟩) (⟨sx rfl, trivial⟩) trivial) ?_
  refine awp_cond rfl (fun hc => ?_) (fun hc => ?_)
  · try simp only [nn, Fd.rows_len, Fm.rows_len, V.rows_len] at hc
    rw [takeP, if_pos (by omega)]
    refine awp_seq (awp_region ?_)
    refine al_pure rfl rfl rfl (pure_move rfl gU) ?_
    refine al_pure rfl rfl rfl (pure_move rfl gU) ?_
    refine al_callB1 (.o 0) rfl rfl rfl rfl rfl rfl (cfail_spec _ _ _ _ _) rfl (by rfl) (by rfl) rfl rfl rfl ?_
    refine al_nil ?_
    refine awp_seq (awp_region ?_)
    refine al_pure rfl rfl rfl (pure_assign rfl gU) ?_
    refine al_nil ?_
    refine awp_ret ?_
    repeat (first | refine tR ?_ | refine bR ?_)
    refine ret_ok rfl ?_ (⟨⟨_, rfl, ?_⟩, trivial⟩)
    · rfl
    · rfl
  · try simp only [nn, Fd.rows_len, Fm.rows_len, V.rows_len] at hc
    rw [takeP, if_neg (by omega)]
    refine awp_skip ?_
    refine awp_seq ?_
    refine awp_drawn' (by kernel_rfl) ?_
    refine dr_pure rfl rfl rfl rfl (pure_move rfl gU) ?_
    refine dr_pure rfl rfl rfl rfl (pure_nilCheck rfl gU) ?_
    refine dr_pure rfl rfl rfl rfl (pure_fieldPtr rfl gU rfl rfl) ?_
    refine dr_load rfl rfl rfl rfl rfl rfl rfl gU rfl rfl rfl rfl ?_
    refine dr_pure rfl rfl rfl rfl (pure_move rfl gU) ?_
    refine dr_pure rfl rfl rfl rfl (pure_nilCheck rfl gU) ?_
    refine dr_pure rfl rfl rfl rfl (pure_fieldPtr rfl gU rfl rfl) ?_
    refine dr_load rfl rfl rfl rfl rfl rfl rfl gU rfl rfl rfl rfl ?_
    refine dr_pure rfl rfl rfl rfl (pure_move rfl gU) ?_
    refine dr_pure rfl rfl rfl rfl (pure_nilCheck rfl gU) ?_
    refine dr_pure rfl rfl rfl rfl (pure_fieldPtr rfl gU rfl rfl) ?_
    refine dr_load rfl rfl rfl rfl rfl rfl rfl gU rfl rfl rfl rfl ?_
    refine dr_pure rfl rfl rfl rfl (pure_move rfl gU) ?_
    refine dr_pure rfl rfl rfl rfl (pure_arith rfl rfl gU gU rfl (IntWalk.i64_in _ (by omega))) ?_
    refine dr_pure rfl rfl rfl rfl (pure_sliceS (l := a) (h' := (a + n)) rfl gU Try.underlying9 (fun _ => ⟨_, _, _, rfl, gU, by first | omega | (simp at hh; omega)⟩) (fun _ => ⟨_, _, _, rfl, gU, by first | omega | (simp at hh; omega)⟩) (fun hh => by first | omega | (simp at hh; omega)) (fun hh => by first | omega | (simp at hh; omega))) ?_
    refine dr_pure rfl rfl rfl rfl (pure_assign rfl gU) ?_
    refine dr_nil (by kernel_rfl) ?_
    refine awp_sub (s := { t := [(0, _, _), (1, _, _), (7, _, _)], bx := [((.o 0), _)], ow := [] }) (sub_mk (⟨sx rfl, ⟨sx rfl, ⟨sx rfl, trivial⟩⟩⟩) (⟨sx rfl, trivial⟩) trivial) ?_
    refine awp_seq (awp_region ?_)
    refine al_pure rfl rfl rfl (pure_move rfl gU) ?_
    refine al_pure rfl rfl rfl (pure_nilCheck rfl gU) ?_
    refine al_pure rfl rfl rfl (pure_fieldPtr rfl gU rfl rfl) ?_
    refine al_pure rfl rfl rfl (pure_loadBox rfl gU rfl rfl rfl rfl) ?_
    refine al_pure rfl rfl rfl (pure_move rfl gU) ?_
    refine al_pure rfl rfl rfl (pure_arith rfl rfl gU gU rfl (IntWalk.i64_in _ (by omega))) ?_
    refine al_pure rfl rfl rfl (pure_nilCheck rfl gU) ?_
    refine al_pure rfl rfl rfl (pure_fieldPtr rfl gU rfl rfl) ?_
    refine al_do rfl (does_store rfl rfl rfl rfl rfl rfl rfl) ?_
    refine al_nil ?_
    refine awp_sub (s := { t := [(7, _, _)], bx := [((.o 0), _)], ow := [] }) (sub_mk (⟨sx rfl, trivial⟩) (⟨sx rfl, trivial⟩) trivial) ?_
    refine awp_seq (awp_region ?_)
    refine al_pure rfl rfl rfl (pure_move rfl gU) ?_
    refine al_pure rfl rfl rfl (pure_assign rfl gU) ?_
    refine al_nil ?_
    refine awp_ret ?_
    repeat (first | refine tR ?_ | refine bR ?_)
    refine ret_ok rfl ?_ (⟨⟨_, rfl, ?_⟩, trivial⟩)
    · rfl
    · exact rc_eq' (by dsimp only; omega) rfl
def numP (s : List UInt8) (a e : Nat) (low high : Int) : Int × Nat × Bool := if e ≤ a then (0, e, false) else if ((s.getD a 0).toNat : Int) < low ∨ high < (s.getD a 0).toNat then (0, a, false) else ((s.getD a 0).toNat, a + 1, true)
theorem cnum_spec (t : List Fm) (s : List UInt8) (a e : Nat) (ai ei low high : Int) (ha : ai = a) (he : ei = e) (h1 : a ≤ e) (h2 : e ≤ s.length) (hs : s.length ≤ 100000) :
    Ctr sys 88 [pp, xi low, xi high, xi ei] [rc t s ai false] (xi (numP s a e low high).1) none [rc t s (numP s a e low high).2.1 (!(numP s a e low high).2.2)] := by
  subst ha; subst he
  have hu := u8_lt' (s.getD a 0)
  refine spec_intro Try.func88 rfl rfl rfl rfl rfl rfl ?_
  refine awp_seq (awp_region ?_)
  refine al_pure rfl rfl rfl (pure_assign rfl gU) ?_
  refine al_nil ?_
  refine awp_seq ?_
  refine awp_seq (awp_region ?_)
  refine al_pure rfl rfl rfl (pure_move rfl gU) ?_
  refine al_pure rfl rfl rfl (pure_nilCheck rfl gU) ?_
  refine al_pure rfl rfl rfl (pure_fieldPtr rfl gU rfl rfl) ?_
  refine al_pure rfl rfl rfl (pure_loadBox rfl gU rfl rfl rfl rfl) ?_
  refine al_pure rfl rfl rfl (pure_move rfl gU) ?_
  refine al_pure rfl rfl rfl (pure_cmp rfl rfl gU gU rfl) ?_
  refine al_nil ?_
  refine awp_sub (s := { t := [(0, _, _), (1, _, _), (2, _, _), (3, _, _), (15, _, _)], bx := [((.o 0), _)], ow := [] }) (sub_mk (⟨sx rfl, ⟨sx rfl, ⟨sx rfl, ⟨sx rfl, ⟨sx rfl, trivial⟩⟩⟩⟩⟩) (⟨sx rfl, trivial⟩) trivial) ?_
  refine awp_cond rfl (fun hc => ?_) (fun hc => ?_)
  · try simp only [nn, Fd.rows_len, Fm.rows_len, V.rows_len] at hc
    rw [numP, if_pos (by omega)]
    refine awp_seq (awp_region ?_)
    refine al_pure rfl rfl rfl (pure_move rfl gU) ?_
    refine al_pure rfl rfl rfl (pure_move rfl gU) ?_
    refine al_callB1 (.o 0) rfl rfl rfl rfl rfl rfl (cfail_spec _ _ _ _ _) rfl (by rfl) (by rfl) rfl rfl rfl ?_
    refine al_nil ?_
    refine awp_seq (awp_region ?_)
    refine al_pure rfl rfl rfl (pure_assign rfl gU) ?_
    refine al_nil ?_
    refine awp_ret ?_
    repeat (first | refine tR ?_ | refine bR ?_)
    refine ret_ok rfl ?_ (⟨⟨_, rfl, ?_⟩, trivial⟩)
    · rfl
    · rfl
  · try simp only [nn, Fd.rows_len, Fm.rows_len, V.rows_len] at hc
    rw [numP, if_neg (by omega)]
    refine awp_skip ?_
    refine awp_seq ?_
    refine awp_drawn' (by kernel_rfl) ?_
    refine dr_pure rfl rfl rfl rfl (pure_move rfl gU) ?_
    refine dr_pure rfl rfl rfl rfl (pure_nilCheck rfl gU) ?_
    refine dr_pure rfl rfl rfl rfl (pure_fieldPtr rfl gU rfl rfl) ?_
    refine dr_load rfl rfl rfl rfl rfl rfl rfl gU rfl rfl rfl rfl ?_
    refine dr_pure rfl rfl rfl rfl (pure_move rfl gU) ?_
    refine dr_pure rfl rfl rfl rfl (pure_nilCheck rfl gU) ?_
    refine dr_pure rfl rfl rfl rfl (pure_fieldPtr rfl gU rfl rfl) ?_
    refine dr_load rfl rfl rfl rfl rfl rfl rfl gU rfl rfl rfl rfl ?_
    refine dr_pure rfl rfl rfl rfl (pure_indexSg (j := a) rfl rfl gU gU Try.underlying9 (by first | omega | (simp at hh; omega)) (fun hh => by first | omega | (simp at hh; omega))) ?_
    refine dr_pure rfl rfl rfl rfl (pure_convInt rfl gU ⟨_, Try.underlying5⟩ (Try.underlying3) (IntWalk.i64_in _ (by omega))) ?_
    refine dr_pure rfl rfl rfl rfl (pure_assign rfl gU) ?_
    refine dr_nil (by kernel_rfl) ?_
    refine awp_sub (s := { t := [(0, _, _), (1, _, _), (2, _, _), (9, _, _)], bx := [((.o 0), _)], ow := [] }) (sub_mk (⟨sx rfl, ⟨sx rfl, ⟨sx rfl, ⟨sx rfl, trivial⟩⟩⟩⟩) (⟨sx rfl, trivial⟩) trivial) ?_
    refine awp_seq ?_
    refine awp_seq (awp_region ?_)
    refine al_pure rfl rfl rfl (pure_move rfl gU) ?_
    refine al_pure rfl rfl rfl (pure_move rfl gU) ?_
    refine al_pure rfl rfl rfl (pure_cmp rfl rfl gU gU rfl) ?_
    refine al_pure rfl rfl rfl (pure_move rfl gU) ?_
    refine al_pure rfl rfl rfl (pure_move rfl gU) ?_
    refine al_pure rfl rfl rfl (pure_move rfl gU) ?_
    refine al_pure rfl rfl rfl (pure_cmp rfl rfl (fun hh => hh) (fun hh => hh) rfl) ?_
    refine al_pure rfl rfl rfl (pure_or rfl rfl gU (fun _ hi => gP rfl hi)) ?_
    refine al_nil ?_
    refine awp_sub (s := { t := [(0, _, _), (9, _, _), (36, _, _)], bx := [((.o 0), _)], ow := [] }) (sub_mk (⟨sx rfl, ⟨sx rfl, ⟨sx rfl, trivial⟩⟩⟩) (⟨sx rfl, trivial⟩) trivial) ?_
    refine awp_cond rfl (fun hc2 => ?_) (fun hc2 => ?_)
    · try simp only [nn, Fd.rows_len, Fm.rows_len, V.rows_len] at hc2
      rw [if_pos (by omega)]
      refine awp_seq (awp_region ?_)
      refine al_pure rfl rfl rfl (pure_move rfl gU) ?_
      refine al_pure rfl rfl rfl (pure_move rfl gU) ?_
      refine al_pure rfl rfl rfl (pure_nilCheck rfl gU) ?_
      refine al_pure rfl rfl rfl (pure_fieldPtr rfl gU rfl rfl) ?_
      refine al_pure rfl rfl rfl (pure_loadBox rfl gU rfl rfl rfl rfl) ?_
      refine al_callB1 (.o 0) rfl rfl rfl rfl rfl rfl (cfail_spec _ _ _ _ _) rfl (by rfl) (by rfl) rfl rfl rfl ?_
      refine al_nil ?_
      refine awp_sub (s := { t := [], bx := [((.o 0), _)], ow := [] }) (sub_mk trivial (⟨sx rfl, trivial⟩) trivial) ?_
      refine awp_seq (awp_region ?_)
      refine al_pure rfl rfl rfl (pure_assign rfl gU) ?_
      refine al_nil ?_
      refine awp_ret ?_
      repeat (first | refine tR ?_ | refine bR ?_)
      refine ret_ok rfl ?_ (⟨⟨_, rfl, ?_⟩, trivial⟩)
      · rfl
      · rfl
    · try simp only [nn, Fd.rows_len, Fm.rows_len, V.rows_len] at hc2
      rw [if_neg (by omega)]
      refine awp_skip ?_
      refine awp_seq (awp_region ?_)
      refine al_pure rfl rfl rfl (pure_move rfl gU) ?_
      refine al_pure rfl rfl rfl (pure_nilCheck rfl gU) ?_
      refine al_pure rfl rfl rfl (pure_fieldPtr rfl gU rfl rfl) ?_
      refine al_pure rfl rfl rfl (pure_loadBox rfl gU rfl rfl rfl rfl) ?_
      refine al_pure rfl rfl rfl (pure_arith rfl rfl gU gU rfl (IntWalk.i64_in _ (by omega))) ?_
      refine al_pure rfl rfl rfl (pure_nilCheck rfl gU) ?_
      refine al_pure rfl rfl rfl (pure_fieldPtr rfl gU rfl rfl) ?_
      refine al_do rfl (does_store rfl rfl rfl rfl rfl rfl rfl) ?_
      refine al_nil ?_
      refine awp_sub (s := { t := [(9, _, _)], bx := [((.o 0), _)], ow := [] }) (sub_mk (⟨sx rfl, trivial⟩) (⟨sx rfl, trivial⟩) trivial) ?_
      refine awp_seq (awp_region ?_)
      refine al_pure rfl rfl rfl (pure_move rfl gU) ?_
      refine al_pure rfl rfl rfl (pure_assign rfl gU) ?_
      refine al_nil ?_
      refine awp_ret ?_
      repeat (first | refine tR ?_ | refine bR ?_)
      refine ret_ok rfl ?_ (⟨⟨_, rfl, ?_⟩, trivial⟩)
      · rfl
      · exact rc_eq' (by dsimp only; omega) rfl
theorem ctag_spec (t : List Fm) (s w : List UInt8) (a e : Nat) (ai ei : Int) (ha : ai = a) (he : ei = e) (h1 : a ≤ e) (h2 : e ≤ s.length) (hs : s.length ≤ 100000) (hw : w.length ≤ 100000) :
    Ctr sys 86 [pp, xs w, xi ei] [rc t s ai false] xnil none [rc t s (tagP s e w a).p (!(tagP s e w a).ok)] := by
  subst ha; subst he
  refine spec_intro Try.func86 rfl rfl rfl rfl rfl rfl ?_
  refine awp_seq (awp_region ?_)
  refine al_pure rfl rfl rfl (pure_move rfl gU) ?_
  refine al_lenS rfl rfl rfl rfl rfl gU (Try.underlying9) ?_ (fun hh => by simp at hh); intro hlen
  refine al_pure rfl rfl rfl (pure_move rfl gU) ?_
  refine al_nil ?_
  refine awp_block ?_
  refine awp_for (ι := Nat) { t := [(0, _, _), (1, _, _), (2, _, _), (8, _, _)], bx := [], ow := [] } (fun k => [(9, true, xi (k : Int))]) (fun k => [((.o 0), rc t s ((a + k : Nat) : Int) false)]) (fun k => k ≤ w.length ∧ a + k ≤ e ∧ tagP s e (w.drop k) (a + k) = tagP s e w a) (fun k => w.length - k) (0) (⟨by omega, by omega, rfl⟩) (sub_mk (⟨sx rfl, ⟨sx rfl, ⟨sx rfl, ⟨sx rfl, ⟨sx rfl, trivial⟩⟩⟩⟩⟩) (⟨sx rfl, trivial⟩) trivial) ?_
  intro k hok
  dsimp only [List.cons_append, List.nil_append]
  obtain ⟨hk, hk2, hi⟩ := hok
  refine awp_seq (awp_region ?_)
  refine al_pure rfl rfl rfl (pure_cmp rfl rfl gU gU rfl) ?_
  refine al_nil ?_
  refine awp_seq ?_
  refine awp_cond rfl (fun hc => ?_) (fun hc => ?_)
  · try simp only [nn, Fd.rows_len, Fm.rows_len, V.rows_len] at hc
    rw [drop_get0 (by omega), tagP] at hi
    refine awp_skip ?_
    refine awp_seq ?_
    refine awp_block ?_
    refine awp_seq (awp_region ?_)
    refine al_pure rfl rfl rfl (pure_move rfl gU) ?_
    refine al_pure rfl rfl rfl (pure_assign rfl gU) ?_
    refine al_nil ?_
    refine awp_seq ?_
    refine awp_seq ?_
    refine awp_drawn' (by kernel_rfl) ?_
    refine dr_pure rfl rfl rfl rfl (pure_move rfl gU) ?_
    refine dr_pure rfl rfl rfl rfl (pure_nilCheck rfl gU) ?_
    refine dr_pure rfl rfl rfl rfl (pure_fieldPtr rfl gU rfl rfl) ?_
    refine dr_load rfl rfl rfl rfl rfl rfl rfl gU rfl rfl rfl rfl ?_
    refine dr_pure rfl rfl rfl rfl (pure_move rfl gU) ?_
    refine dr_pure rfl rfl rfl rfl (pure_cmp rfl rfl gU gU rfl) ?_
    refine dr_pure rfl rfl rfl rfl (pure_move rfl gU) ?_
    refine dr_pure rfl rfl rfl rfl (pure_move rfl gU) ?_
    refine dr_pure rfl rfl rfl rfl (pure_nilCheck rfl (fun hh => hh)) ?_
    refine dr_pure rfl rfl rfl rfl (pure_fieldPtr rfl (fun hh => hh) rfl rfl) ?_
    refine dr_load rfl rfl rfl rfl rfl rfl rfl (fun hh => hh) rfl rfl rfl rfl ?_
    refine dr_pure rfl rfl rfl rfl (pure_move rfl gU) ?_
    refine dr_pure rfl rfl rfl rfl (pure_nilCheck rfl (fun hh => hh)) ?_
    refine dr_pure rfl rfl rfl rfl (pure_fieldPtr rfl (fun hh => hh) rfl rfl) ?_
    refine dr_load rfl rfl rfl rfl rfl rfl rfl (fun hh => hh) rfl rfl rfl rfl ?_
    refine dr_pure rfl rfl rfl rfl (pure_indexSg (j := (a + k)) rfl rfl (fun hh => hh) (fun hh => hh) Try.underlying9 (by first | omega | (simp at hh; omega)) (fun hh => by first | omega | (simp at hh; omega))) ?_
    refine dr_pure rfl rfl rfl rfl (pure_move rfl gU) ?_
    refine dr_pure rfl rfl rfl rfl (pure_move rfl gU) ?_
    refine dr_pure rfl rfl rfl rfl (pure_indexSg (j := k) rfl rfl (fun hh => hh) (fun hh => hh) Try.underlying9 (by first | omega | (simp at hh; omega)) (fun hh => by first | omega | (simp at hh; omega))) ?_
    refine dr_pure rfl rfl rfl rfl (pure_cmp rfl rfl (fun hh => hh) (fun hh => hh) rfl) ?_
    refine dr_pure rfl rfl rfl rfl (pure_or rfl rfl gU (fun _ hi => gP rfl hi)) ?_
    refine dr_nil (by kernel_rfl) ?_
    refine awp_sub (s := { t := [(0, _, _), (1, _, _), (2, _, _), (8, _, _), (9, _, _), (32, _, _)], bx := [((.o 0), _)], ow := [] }) (sub_mk (⟨sx rfl, ⟨sx rfl, ⟨sx rfl, ⟨sx rfl, ⟨sx rfl, ⟨sx rfl, trivial⟩⟩⟩⟩⟩⟩) (⟨sx rfl, trivial⟩) trivial) ?_
    refine awp_cond rfl (fun hc2 => ?_) (fun hc2 => ?_)
    · try simp only [nn, Fd.rows_len, Fm.rows_len, V.rows_len] at hc2
      have hq : e ≤ a + k ∨ s.getD (a + k) 0 ≠ w.getD k 0 := by
        rcases hc2 with h | h
        · left; omega
        · right; intro hq; rw [hq] at h; exact h rfl
      rw [if_pos hq] at hi
      rw [← hi]
      refine awp_seq (awp_region ?_)
      refine al_pure rfl rfl rfl (pure_move rfl gU) ?_
      refine al_pure rfl rfl rfl (pure_move rfl gU) ?_
      refine al_pure rfl rfl rfl (pure_nilCheck rfl gU) ?_
      refine al_pure rfl rfl rfl (pure_fieldPtr rfl gU rfl rfl) ?_
      refine al_pure rfl rfl rfl (pure_loadBox rfl gU rfl rfl rfl rfl) ?_
      refine al_pure rfl rfl rfl (pure_move rfl gU) ?_
      refine al_pure rfl rfl rfl (pure_min rfl rfl gU gU) ?_
      refine al_callB1 (.o 0) rfl rfl rfl rfl rfl rfl (cfail_spec _ _ _ _ _) rfl (by rfl) (by rfl) rfl rfl rfl ?_
      refine al_nil ?_
      refine awp_ret ?_
      repeat (first | refine tR ?_ | refine bR ?_)
      refine ret_ok rfl ?_ (⟨⟨_, rfl, ?_⟩, trivial⟩)
      · rfl
      · exact rc_eq' (by dsimp only; omega) rfl
    · try simp only [nn, Fd.rows_len, Fm.rows_len, V.rows_len] at hc2
      have hq : s.getD (a + k) 0 = w.getD k 0 := UInt8.toNat_inj.1 (by omega)
      rw [if_neg (by intro h; rcases h with h | h; omega; exact h hq)] at hi
      refine awp_skip ?_
      refine awp_region ?_
      refine al_pure rfl rfl rfl (pure_move rfl gU) ?_
      refine al_pure rfl rfl rfl (pure_nilCheck rfl gU) ?_
      refine al_pure rfl rfl rfl (pure_fieldPtr rfl gU rfl rfl) ?_
      refine al_pure rfl rfl rfl (pure_loadBox rfl gU rfl rfl rfl rfl) ?_
      refine al_pure rfl rfl rfl (pure_arith rfl rfl gU gU rfl (IntWalk.i64_in _ (by omega))) ?_
      refine al_pure rfl rfl rfl (pure_nilCheck rfl gU) ?_
      refine al_pure rfl rfl rfl (pure_fieldPtr rfl gU rfl rfl) ?_
      refine al_do rfl (does_store rfl rfl rfl rfl rfl rfl rfl) ?_
      refine al_nil ?_
      refine awp_sub (s := { t := [(0, _, _), (1, _, _), (2, _, _), (8, _, _), (9, _, _)], bx := [((.o 0), _)], ow := [] }) (sub_mk (⟨sx rfl, ⟨sx rfl, ⟨sx rfl, ⟨sx rfl, ⟨sx rfl, trivial⟩⟩⟩⟩⟩) (⟨sx rfl, trivial⟩) trivial) ?_
      refine awp_region ?_
      refine al_pure rfl rfl rfl (pure_arith rfl rfl gU gU rfl (IntWalk.i64_in _ (by omega))) ?_
      refine al_pure rfl rfl rfl (pure_move rfl gU) ?_
      refine al_nil ?_
      refine ⟨k + 1, ?_, ?_, sub_mk (⟨⟨_, rfl, ?_⟩, ⟨sx rfl, ⟨sx rfl, ⟨sx rfl, ⟨sx rfl, trivial⟩⟩⟩⟩⟩) (⟨⟨_, rfl, ?_⟩, trivial⟩) trivial⟩
      all_goals (first | rfl | omega | exact ⟨by omega, by omega, hi⟩ | exact rc_eq' (by omega) rfl)
  · try simp only [nn, Fd.rows_len, Fm.rows_len, V.rows_len] at hc
    rw [List.drop_of_length_le (by omega), tagP] at hi
    rw [← hi]
    refine awp_exit ?_
    repeat (first | refine thenS_exit ?_ | refine blockS_hit ?_ | refine blockS_miss rfl ?_)
    refine retn_ok rfl ?_ (⟨⟨_, rfl, ?_⟩, trivial⟩)
    · rfl
    · rfl
end Go.Proofs.Ytgjclggjkhapfaa
