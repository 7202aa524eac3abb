/- Our abstract program logic and contracts of this seat's functions, part 4: no statement of its own. -/
import Derived.Test.YtiiboiomiacibaaDoorM3
/- Contracts: the reference's parts of the lexer. -/
set_option linter.unusedVariables false
set_option linter.unusedSimpArgs false
namespace Go.Proofs.YtiiboiomiacibaaDoor
open Go Go.Abs
theorem symA : ∀ (l : List UInt8) (c : UInt8) (k : Nat), k ≤ l.length → (l.drop k).contains c = true → k < l.length := by
  intro l c k hk h
  rcases Nat.lt_or_ge k l.length with q | q
  · exact q
  · rw [List.drop_of_length_le q] at h; simp at h
theorem class_spec (c : UInt8) (n : Int) (h : n = (c.toNat : Int)) : Ctr sys 34 [xu n] [] (xi (clsE c)) none [] := by
  subst h
  have hu := c.toNat_lt
  have h18 : syms.length = 18 := rfl
  refine spec_intro Tryd.func34 rfl rfl rfl rfl rfl rfl ?_
  refine awp_seq (awp_region ?_)
  refine al_pure rfl rfl rfl (pure_assign rfl gU) ?_
  refine al_nil ?_
  refine awp_seq ?_
  refine awp_block ?_
  refine awp_seq (awp_region ?_)
  refine al_pure rfl rfl rfl (pure_move rfl gU) ?_
  refine al_pure rfl rfl rfl (pure_cmp rfl rfl gU gU rfl) ?_
  refine al_pure rfl rfl rfl (pure_move rfl gU) ?_
  refine al_pure rfl rfl rfl (pure_move rfl gU) ?_
  refine al_pure rfl rfl rfl (pure_cmp rfl rfl (fun hh => hh) gU rfl) ?_
  refine al_pure rfl rfl rfl (pure_or rfl rfl gU (fun _ hi => gP rfl hi)) ?_
  refine al_pure rfl rfl rfl (pure_move rfl gU) ?_
  refine al_pure rfl rfl rfl (pure_move rfl gU) ?_
  refine al_pure rfl rfl rfl (pure_cmp rfl rfl (fun hh => hh) gU rfl) ?_
  refine al_pure rfl rfl rfl (pure_or rfl rfl gU (fun _ hi => gP rfl hi)) ?_
  refine al_pure rfl rfl rfl (pure_move rfl gU) ?_
  refine al_sub (s := { t := [(0, _, _), (16, _, _)], bx := [], ow := [] }) (sub_mk (⟨sx rfl, ⟨sx rfl, trivial⟩⟩) trivial trivial) ?_
  refine al_pure rfl rfl rfl (pure_move rfl gU) ?_
  refine al_pure rfl rfl rfl (pure_cmp rfl rfl (fun hh => hh) gU rfl) ?_
  refine al_pure rfl rfl rfl (pure_or rfl rfl gU (fun _ hi => gP rfl hi)) ?_
  refine al_pure rfl rfl rfl (pure_assign rfl gU) ?_
  refine al_nil ?_
  refine awp_cond rfl (fun hc => ?_) (fun hc => ?_)
  · try simp only [nn] at hc
    refine awp_seq (awp_region ?_)
    refine al_pure rfl rfl rfl (pure_assign rfl gU) ?_
    refine al_nil ?_
    refine awp_ret ?_
    repeat (first | refine tR ?_ | refine bR ?_)
    refine ret_ok rfl ?_ trivial
    exact xi_eq (by rw [clsE, if_pos (by simp [whiteB]; omega)])
  · try simp only [nn] at hc
    have hw : ¬whiteB c = true := by simp [whiteB]; omega
    refine awp_seq (awp_region ?_)
    refine al_pure rfl rfl rfl (pure_move rfl gU) ?_
    refine al_pure rfl rfl rfl (pure_cmp rfl rfl gU gU rfl) ?_
    refine al_pure rfl rfl rfl (pure_move rfl gU) ?_
    refine al_pure rfl rfl rfl (pure_move rfl gU) ?_
    refine al_pure rfl rfl rfl (pure_cmp rfl rfl (fun hh => hh) gU rfl) ?_
    refine al_pure rfl rfl rfl (pure_and rfl rfl gU (fun _ hi => gP rfl hi)) ?_
    refine al_pure rfl rfl rfl (pure_move rfl gU) ?_
    refine al_pure rfl rfl rfl (pure_move rfl gU) ?_
    refine al_sub (s := { t := [(0, _, _), (27, _, _), (28, _, _)], bx := [], ow := [] }) (sub_mk (⟨sx rfl, ⟨sx rfl, ⟨sx rfl, trivial⟩⟩⟩) trivial trivial) ?_
    refine al_pure rfl rfl rfl (pure_cmp rfl rfl (fun hh => hh) gU rfl) ?_
    refine al_pure rfl rfl rfl (pure_move rfl (fun hh => hh)) ?_
    refine al_pure rfl rfl rfl (pure_move rfl gU) ?_
    refine al_pure rfl rfl rfl (pure_cmp rfl rfl (fun hh => hh) gU rfl) ?_
    refine al_pure rfl rfl rfl (pure_and rfl rfl (fun hh => hh) (fun hh hi => gP hh hi)) ?_
    refine al_pure rfl rfl rfl (pure_or rfl rfl gU (fun _ hi => gP rfl hi)) ?_
    refine al_pure rfl rfl rfl (pure_assign rfl gU) ?_
    refine al_nil ?_
    refine awp_sub (s := { t := [(0, _, _), (20, _, _)], bx := [], ow := [] }) (sub_mk (⟨sx rfl, ⟨sx rfl, trivial⟩⟩) trivial trivial) ?_
    refine awp_cond rfl (fun hc2 => ?_) (fun hc2 => ?_)
    · try simp only [nn] at hc2
      refine awp_seq (awp_region ?_)
      refine al_pure rfl rfl rfl (pure_assign rfl gU) ?_
      refine al_nil ?_
      refine awp_ret ?_
      repeat (first | refine tR ?_ | refine bR ?_)
      refine ret_ok rfl ?_ trivial
      exact xi_eq (by rw [clsE, if_neg hw, if_pos (by simp [letterB]; omega)])
    · try simp only [nn] at hc2
      have hl : ¬letterB (c.toNat : Int) = true := by simp [letterB]; omega
      refine awp_seq (awp_region ?_)
      refine al_pure rfl rfl rfl (pure_move rfl gU) ?_
      refine al_pure rfl rfl rfl (pure_cmp rfl rfl gU gU rfl) ?_
      refine al_pure rfl rfl rfl (pure_move rfl gU) ?_
      refine al_pure rfl rfl rfl (pure_move rfl gU) ?_
      refine al_pure rfl rfl rfl (pure_cmp rfl rfl (fun hh => hh) gU rfl) ?_
      refine al_pure rfl rfl rfl (pure_and rfl rfl gU (fun _ hi => gP rfl hi)) ?_
      refine al_pure rfl rfl rfl (pure_assign rfl gU) ?_
      refine al_nil ?_
      refine awp_sub (s := { t := [(0, _, _), (35, _, _)], bx := [], ow := [] }) (sub_mk (⟨sx rfl, ⟨sx rfl, trivial⟩⟩) trivial trivial) ?_
      refine awp_cond rfl (fun hc3 => ?_) (fun hc3 => ?_)
      · try simp only [nn] at hc3
        refine awp_seq (awp_region ?_)
        refine al_pure rfl rfl rfl (pure_assign rfl gU) ?_
        refine al_nil ?_
        refine awp_ret ?_
        repeat (first | refine tR ?_ | refine bR ?_)
        refine ret_ok rfl ?_ trivial
        exact xi_eq (by rw [clsE, if_neg hw, if_neg hl, if_pos (by simp [digitB]; omega)])
      · try simp only [nn] at hc3
        have hd : ¬digitB (c.toNat : Int) = true := by simp [digitB]; omega
        refine awp_seq (awp_region ?_)
        refine al_pure rfl rfl rfl (pure_move rfl gU) ?_
        refine al_pure rfl rfl rfl (pure_cmp rfl rfl gU gU rfl) ?_
        refine al_pure rfl rfl rfl (pure_assign rfl gU) ?_
        refine al_nil ?_
        refine awp_cond rfl (fun hc4 => ?_) (fun hc4 => ?_)
        · try simp only [nn] at hc4
          refine awp_seq (awp_region ?_)
          refine al_pure rfl rfl rfl (pure_assign rfl gU) ?_
          refine al_nil ?_
          refine awp_ret ?_
          repeat (first | refine tR ?_ | refine bR ?_)
          refine ret_ok rfl ?_ trivial
          exact xi_eq (by rw [clsE, if_neg hw, if_neg hl, if_neg hd, if_pos (by omega)])
        · try simp only [nn] at hc4
          have hx : clsE c = if symB c = true then 4 else 0 := by rw [clsE, if_neg hw, if_neg hl, if_neg hd, if_neg (by omega)]
          rw [hx]
          refine awp_skip ?_
          refine awp_seq (awp_region ?_)
          refine al_pure rfl rfl rfl (pure_assign rfl gU) ?_
          refine al_nil ?_
          refine awp_seq ?_
          refine awp_seq (awp_region ?_)
          refine al_pure rfl rfl rfl (pure_assign rfl gU) ?_
          refine al_nil ?_
          refine awp_sub (s := { t := [(0, _, _), (3, _, _), (4, _, _)], bx := [], ow := [] }) (sub_mk (⟨sx rfl, ⟨sx rfl, ⟨sx rfl, trivial⟩⟩⟩) trivial trivial) ?_
          refine awp_block ?_
          refine awp_for (ι := Nat) { t := [(0, _, _), (3, _, _)], bx := [], ow := [] } (fun k => [(4, true, xi (k : Int))]) (fun k => []) (fun k => k ≤ 18 ∧ (syms.drop k).contains c = symB c) (fun k => 18 - k) (0) (⟨by omega, rfl⟩) (sub_mk (⟨sx rfl, ⟨sx rfl, ⟨sx rfl, trivial⟩⟩⟩) trivial trivial) ?_
          intro k hok
          dsimp only [List.cons_append, List.nil_append]
          obtain ⟨hk, hi⟩ := hok
          refine awp_seq ?_
          refine awp_seq (awp_region ?_)
          refine al_pure rfl rfl rfl (pure_move rfl gU) ?_
          refine al_pure rfl rfl rfl (pure_move rfl gU) ?_
          refine al_lenS rfl rfl rfl rfl rfl gU (Tryd.underlying9) ?_ (fun hh => by simp at hh); intro hlen
          refine al_pure rfl rfl rfl (pure_cmp rfl rfl gU gU rfl) ?_
          refine al_nil ?_
          refine awp_cond rfl (fun hc5 => ?_) (fun hc5 => ?_)
          · try simp only [nn] at hc5
            have hk2 : k < syms.length := by rw [h18]; simp at hc5; omega
            rw [drop_get0 hk2, List.contains_cons] at hi
            refine awp_skip ?_
            refine awp_seq ?_
            refine awp_block ?_
            refine awp_seq (awp_region ?_)
            refine al_pure rfl rfl rfl (pure_move rfl gU) ?_
            refine al_pure rfl rfl rfl (pure_move rfl gU) ?_
            refine al_pure rfl rfl rfl (pure_indexSg (j := k) rfl rfl gU gU Tryd.underlying9 (by first | omega | (show _ < 18; omega) | (simp at hh ⊢; omega)) (fun hh => by first | omega | (show _ < 18; omega) | (simp at hh ⊢; omega))) ?_
            refine al_pure rfl rfl rfl (pure_move rfl gU) ?_
            refine al_pure rfl rfl rfl (pure_cmp rfl rfl gU gU rfl) ?_
            refine al_nil ?_
            refine awp_sub (s := { t := [(0, _, _), (3, _, _), (4, _, _), (55, _, _)], bx := [], ow := [] }) (sub_mk (⟨sx rfl, ⟨sx rfl, ⟨sx rfl, ⟨sx rfl, trivial⟩⟩⟩⟩) trivial trivial) ?_
            refine awp_cond rfl (fun hc6 => ?_) (fun hc6 => ?_)
            · try simp only [nn] at hc6
              have he : c = syms.getD k 0 := UInt8.toNat_inj.1 (by have : ((syms.getD k 0).toNat : Int) = (c.toNat : Int) := hc6; omega)
              refine awp_seq (awp_region ?_)
              refine al_pure rfl rfl rfl (pure_assign rfl gU) ?_
              refine al_nil ?_
              refine awp_ret ?_
              repeat (first | refine tR ?_ | refine bR ?_)
              refine ret_ok rfl ?_ trivial
              exact xi_eq (by rw [← hi, he]; simp)
            · try simp only [nn] at hc6
              have he : (c == syms.getD k 0) = false := by
                rw [beq_eq_false_iff_ne]
                intro q
                exact hc6 (by show ((syms.getD k 0).toNat : Int) = (c.toNat : Int); rw [q])
              rw [he, Bool.false_or] at hi
              refine awp_skip ?_
              refine awp_region ?_
              refine al_pure rfl rfl rfl (pure_move rfl gU) ?_
              refine al_pure rfl rfl rfl (pure_arith rfl rfl gU gU rfl (IntWalk.i64_in _ (by omega))) ?_
              refine al_pure rfl rfl rfl (pure_assign rfl gU) ?_
              refine al_nil ?_
              refine ⟨k + 1, ?_, ?_, sub_mk (⟨⟨_, rfl, ?_⟩, ⟨sx rfl, ⟨sx rfl, trivial⟩⟩⟩) trivial trivial⟩
              all_goals (first | rfl | omega | exact ⟨by omega, hi⟩)
          · try simp only [nn] at hc5
            have hk2 : k = 18 := by simp at hc5; omega
            rw [List.drop_of_length_le (by rw [h18]; omega)] at hi
            refine awp_exit ?_
            repeat (first | refine thenS_exit ?_ | refine blockS_hit ?_ | refine blockS_miss rfl ?_)
            refine awp_seq (awp_region ?_)
            refine al_pure rfl rfl rfl (pure_assign rfl gU) ?_
            refine al_nil ?_
            refine awp_ret ?_
            repeat (first | refine tR ?_ | refine bR ?_)
            refine ret_ok rfl ?_ trivial
            exact xi_eq (by rw [← hi]; rfl)
theorem cls_ne (c : UInt8) : (clsE c = 2 ↔ letterB (c.toNat : Int) = true) ∧ (clsE c = 3 ↔ digitB (c.toNat : Int) = true) ∧ (clsE c = 1 ↔ whiteB c = true) := by
  unfold clsE
  have h1 : whiteB c = true → letterB (c.toNat : Int) ≠ true ∧ digitB (c.toNat : Int) ≠ true := by simp [whiteB, letterB, digitB]; omega
  have h2 : letterB (c.toNat : Int) = true → digitB (c.toNat : Int) ≠ true := by simp [letterB, digitB]; omega
  refine ⟨?_, ?_, ?_⟩
  all_goals (repeat' split)
  all_goals simp_all
theorem part_cls (c : UInt8) : partB (c.toNat : Int) = true ↔ ((clsE c = 2 ∨ clsE c = 3) ∨ c.toNat = 95) ∨ c.toNat = 35 := by
  rw [(cls_ne c).1, (cls_ne c).2.1]
  have e1 : ((c.toNat : Int) = 95) = (c.toNat = 95) := propext (by omega)
  have e2 : ((c.toNat : Int) = 35) = (c.toNat = 35) := propext (by omega)
  simp only [partB, Bool.or_eq_true, beq_iff_eq, e1, e2]
theorem word_spec (s : List UInt8) (hs : s.length ≤ 1000000) : Ctr sys 55 [xs s] [] (xs (s.take (wdN s))) none [] := by
  refine spec_intro Tryd.func55 rfl rfl rfl rfl rfl rfl ?_
  refine awp_seq (awp_region ?_)
  refine al_pure rfl rfl rfl (pure_assign rfl gU) ?_
  refine al_nil ?_
  refine awp_seq (awp_region ?_)
  refine al_pure rfl rfl rfl (pure_assign rfl gU) ?_
  refine al_nil ?_
  refine awp_seq ?_
  refine awp_block ?_
  refine awp_for (ι := Nat) { t := [(0, _, _)], bx := [], ow := [] } (fun k => [(3, true, xi (k : Int))]) (fun k => []) (fun k => k ≤ s.length ∧ wdN (s.drop k) + k = wdN s) (fun k => s.length - k) (0) (⟨by omega, rfl⟩) (sub_mk (⟨sx rfl, ⟨sx rfl, trivial⟩⟩) trivial trivial) ?_
  intro k hok
  dsimp only [List.cons_append, List.nil_append]
  obtain ⟨hk, hi⟩ := hok
  refine awp_seq ?_
  refine awp_seq (awp_region ?_)
  refine al_pure rfl rfl rfl (pure_move rfl gU) ?_
  refine al_pure rfl rfl rfl (pure_move rfl gU) ?_
  refine al_lenS rfl rfl rfl rfl rfl gU (Tryd.underlying9) ?_ (fun hh => by simp at hh); intro hlen
  refine al_pure rfl rfl rfl (pure_cmp rfl rfl gU gU rfl) ?_
  refine al_pure rfl rfl rfl (pure_move rfl gU) ?_
  refine al_pure rfl rfl rfl (pure_move rfl gU) ?_
  refine al_pure rfl rfl rfl (pure_move rfl gU) ?_
  refine al_pure rfl rfl rfl (pure_indexSg (j := k) rfl rfl (fun hh => hh) (fun hh => hh) Tryd.underlying9 (by first | omega | (simp at hh ⊢; omega)) (fun hh => by first | omega | (simp at hh ⊢; omega))) ?_
  refine al_call rfl rfl rfl rfl rfl rfl gU (fun hh => gA ((fun hh => hh) hh) (rfl)) (class_spec _ _ rfl) rfl ?_
  refine al_pure rfl rfl rfl (pure_cmp rfl rfl (fun hh => hh) gU rfl) ?_
  refine al_pure rfl rfl rfl (pure_move rfl (fun hh => hh)) ?_
  refine al_pure rfl rfl rfl (pure_move rfl gU) ?_
  refine al_sub (s := { t := [(0, _, _), (3, _, _), (8, _, _), (14, _, _), (15, _, _)], bx := [], ow := [] }) (sub_mk (⟨sx rfl, ⟨sx rfl, ⟨sx rfl, ⟨sx rfl, ⟨sx rfl, trivial⟩⟩⟩⟩⟩) trivial trivial) ?_
  refine al_pure rfl rfl rfl (pure_move rfl gU) ?_
  refine al_pure rfl rfl rfl (pure_indexSg (j := k) rfl rfl (fun hh => hh) (fun hh => hh) Tryd.underlying9 (by first | omega | (simp at hh ⊢; omega)) (fun hh => by first | omega | (simp at hh ⊢; omega))) ?_
  refine al_call rfl rfl rfl rfl rfl rfl gU (fun hh => gA ((fun hh => hh) hh) (rfl)) (class_spec _ _ rfl) rfl ?_
  refine al_pure rfl rfl rfl (pure_cmp rfl rfl (fun hh => hh) gU rfl) ?_
  refine al_pure rfl rfl rfl (pure_or rfl rfl (fun hh => hh) (fun hh hi => gP hh hi)) ?_
  refine al_pure rfl rfl rfl (pure_move rfl (fun hh => hh)) ?_
  refine al_pure rfl rfl rfl (pure_move rfl gU) ?_
  refine al_pure rfl rfl rfl (pure_move rfl gU) ?_
  refine al_pure rfl rfl rfl (pure_indexSg (j := k) rfl rfl (fun hh => hh) (fun hh => hh) Tryd.underlying9 (by first | omega | (simp at hh ⊢; omega)) (fun hh => by first | omega | (simp at hh ⊢; omega))) ?_
  refine al_pure rfl rfl rfl (pure_cmp rfl rfl (fun hh => hh) gU rfl) ?_
  refine al_pure rfl rfl rfl (pure_or rfl rfl (fun hh => hh) (fun hh hi => gP hh hi)) ?_
  refine al_pure rfl rfl rfl (pure_move rfl (fun hh => hh)) ?_
  refine al_sub (s := { t := [(0, _, _), (3, _, _), (8, _, _), (27, _, _)], bx := [], ow := [] }) (sub_mk (⟨sx rfl, ⟨sx rfl, ⟨sx rfl, ⟨sx rfl, trivial⟩⟩⟩⟩) trivial trivial) ?_
  refine al_pure rfl rfl rfl (pure_move rfl gU) ?_
  refine al_pure rfl rfl rfl (pure_move rfl gU) ?_
  refine al_pure rfl rfl rfl (pure_indexSg (j := k) rfl rfl (fun hh => hh) (fun hh => hh) Tryd.underlying9 (by first | omega | (simp at hh ⊢; omega)) (fun hh => by first | omega | (simp at hh ⊢; omega))) ?_
  refine al_pure rfl rfl rfl (pure_cmp rfl rfl (fun hh => hh) gU rfl) ?_
  refine al_pure rfl rfl rfl (pure_or rfl rfl (fun hh => hh) (fun hh hi => gP hh hi)) ?_
  refine al_pure rfl rfl rfl (pure_and rfl rfl gU (fun _ hi => gP rfl hi)) ?_
  refine al_nil ?_
  refine awp_sub (s := { t := [(0, _, _), (3, _, _), (33, _, _)], bx := [], ow := [] }) (sub_mk (⟨sx rfl, ⟨sx rfl, ⟨sx rfl, trivial⟩⟩⟩) trivial trivial) ?_
  refine awp_cond rfl (fun hc => ?_) (fun hc => ?_)
  · try simp only [nn] at hc
    rw [drop_get0 (by omega), wdN, if_pos ((part_cls _).2 (by omega))] at hi
    refine awp_skip ?_
    refine awp_block ?_
    refine awp_region ?_
    refine al_pure rfl rfl rfl (pure_move rfl gU) ?_
    refine al_pure rfl rfl rfl (pure_arith rfl rfl gU gU rfl (IntWalk.i64_in _ (by omega))) ?_
    refine al_pure rfl rfl rfl (pure_assign rfl gU) ?_
    refine al_nil ?_
    refine ⟨k + 1, ?_, ?_, sub_mk (⟨⟨_, rfl, ?_⟩, ⟨sx rfl, trivial⟩⟩) trivial trivial⟩
    all_goals (first | rfl | omega)
  · try simp only [nn] at hc
    have hn : wdN (s.drop k) = 0 := by
      by_cases hlt : k < s.length
      · rw [drop_get0 hlt, wdN, if_neg (fun q => by have := (part_cls _).1 q; omega)]
      · rw [List.drop_of_length_le (by omega)]; rfl
    have hn2 : wdN s = k := by omega
    rw [hn2]
    refine awp_exit ?_
    repeat (first | refine thenS_exit ?_ | refine blockS_hit ?_ | refine blockS_miss rfl ?_)
    refine awp_seq (awp_region ?_)
    refine al_pure rfl rfl rfl (pure_move rfl gU) ?_
    refine al_pure rfl rfl rfl (pure_move rfl gU) ?_
    refine al_pure rfl rfl rfl (pure_sliceS (h' := k) rfl gU Tryd.underlying9 (fun _ => rfl) (fun _ => ⟨_, _, _, rfl, gU, by first | omega | (simp at hh ⊢; omega)⟩) (fun hh => by first | omega | (simp at hh ⊢; omega)) (fun hh => by first | omega | (simp at hh ⊢; omega))) ?_
    refine al_pure rfl rfl rfl (pure_assign rfl gU) ?_
    refine al_nil ?_
    refine awp_ret ?_
    repeat (first | refine tR ?_ | refine bR ?_)
    refine ret_ok rfl ?_ trivial
    rfl
theorem bare_spec (s : List UInt8) (hs : s.length ≤ 1000000) : Ctr sys 33 [xs s] [] (xs (bareE s)) none [] := by
  refine spec_intro Tryd.func33 rfl rfl rfl rfl rfl rfl ?_
  refine awp_seq (awp_region ?_)
  refine al_pure rfl rfl rfl (pure_assign rfl gU) ?_
  refine al_nil ?_
  refine awp_seq (awp_region ?_)
  refine al_pure rfl rfl rfl (pure_assign rfl gU) ?_
  refine al_nil ?_
  refine awp_seq ?_
  refine awp_seq (awp_region ?_)
  refine al_pure rfl rfl rfl (pure_assign rfl gU) ?_
  refine al_nil ?_
  refine awp_block ?_
  refine awp_for (ι := Nat × Bool) { t := [(0, _, _)], bx := [], ow := [] } (fun p => [(4, true, xi (p.1 : Int)), (3, true, xb p.2)]) (fun p => []) (fun p => p.1 ≤ s.length + 1 ∧ s.take (bareN p.2 (s.drop p.1) + p.1) = bareE s) (fun p => s.length + 1 - p.1) ((0, false)) (⟨by simp, rfl⟩) (sub_mk (⟨sx rfl, ⟨sx rfl, ⟨sx rfl, trivial⟩⟩⟩) trivial trivial) ?_
  intro p hok
  dsimp only [List.cons_append, List.nil_append] at *
  obtain ⟨k, ins⟩ := p
  dsimp only at hok ⊢
  obtain ⟨hk, hi⟩ := hok
  refine awp_seq ?_
  refine awp_seq (awp_region ?_)
  refine al_pure rfl rfl rfl (pure_move rfl gU) ?_
  refine al_pure rfl rfl rfl (pure_move rfl gU) ?_
  refine al_lenS rfl rfl rfl rfl rfl gU (Tryd.underlying9) ?_ (fun hh => by simp at hh); intro hlen
  refine al_pure rfl rfl rfl (pure_cmp rfl rfl gU gU rfl) ?_
  refine al_nil ?_
  refine awp_cond rfl (fun hc => ?_) (fun hc => ?_)
  · try simp only [nn] at hc
    have hd : s.drop k = s.getD k 0 :: s.drop (k + 1) := drop_get0 (by omega)
    refine awp_skip ?_
    refine awp_seq ?_
    refine awp_block ?_
    refine awp_seq ?_
    refine awp_seq (awp_region ?_)
    refine al_pure rfl rfl rfl (pure_move rfl gU) ?_
    refine al_pure rfl rfl rfl (pure_move rfl gU) ?_
    refine al_pure rfl rfl rfl (pure_move rfl gU) ?_
    refine al_pure rfl rfl rfl (pure_move rfl gU) ?_
    refine al_pure rfl rfl rfl (pure_indexSg (j := k) rfl rfl (fun hh => hh) (fun hh => hh) Tryd.underlying9 (by first | omega | (simp at hh ⊢; omega)) (fun hh => by first | omega | (simp at hh ⊢; omega))) ?_
    refine al_pure rfl rfl rfl (pure_cmp rfl rfl (fun hh => hh) gU rfl) ?_
    refine al_pure rfl rfl rfl (pure_and rfl rfl gU (fun _ hi => gP rfl hi)) ?_
    refine al_nil ?_
    refine awp_sub (s := { t := [(0, _, _), (3, _, _), (4, _, _), (17, _, _)], bx := [], ow := [] }) (sub_mk (⟨sx rfl, ⟨sx rfl, ⟨sx rfl, ⟨sx rfl, trivial⟩⟩⟩⟩) trivial trivial) ?_
    refine awp_cond rfl (fun hc2 => ?_) (fun hc2 => ?_)
    · try simp only [nn] at hc2
      have hq : ins = true ∧ (s.getD k 0).toNat = 92 := ⟨hc2.1, by omega⟩
      have hi2 : s.take (bareN true (s.drop (k + 2)) + (k + 2)) = bareE s := by
        rw [← hi, hd]
        by_cases hlt : k + 1 < s.length
        · rw [drop_get0 hlt, bareN, if_pos hq, show k + 1 + 1 = k + 2 from rfl]
          congr 1; omega
        · rw [List.drop_of_length_le (by omega), List.drop_of_length_le (by omega), bareN, bareN, List.take_of_length_le (by omega), List.take_of_length_le (by omega)]
      refine awp_seq (awp_region ?_)
      refine al_pure rfl rfl rfl (pure_move rfl gU) ?_
      refine al_pure rfl rfl rfl (pure_arith rfl rfl gU gU rfl (IntWalk.i64_in _ (by omega))) ?_
      refine al_pure rfl rfl rfl (pure_assign rfl gU) ?_
      refine al_nil ?_
      refine awp_exit ?_
      repeat (first | refine thenS_exit ?_ | refine blockS_hit ?_ | refine blockS_miss rfl ?_)
      refine awp_region ?_
      refine al_pure rfl rfl rfl (pure_move rfl gU) ?_
      refine al_pure rfl rfl rfl (pure_arith rfl rfl gU gU rfl (IntWalk.i64_in _ (by omega))) ?_
      refine al_pure rfl rfl rfl (pure_assign rfl gU) ?_
      refine al_nil ?_
      refine ⟨(k + 2, true), ?_, ?_, sub_mk (⟨⟨_, rfl, ?_⟩, ⟨⟨_, rfl, ?_⟩, ⟨sx rfl, trivial⟩⟩⟩) trivial trivial⟩
      all_goals (first | rfl | omega | exact ⟨by omega, hi2⟩ | exact tx (xb_eq hq.1))
    · try simp only [nn] at hc2
      have hq : ¬(ins = true ∧ (s.getD k 0).toNat = 92) := by
        rintro ⟨q1, q2⟩
        rcases hc2 with z | z
        · rw [q1] at z; simp at z
        · omega
      have hlast : k + 1 = s.length → ∀ i2 : Bool, s.take (bareN i2 (s.drop (k + 1)) + (k + 1)) = bareE s := by
        intro e i2
        rw [← hi, hd, List.drop_of_length_le (by omega), List.take_of_length_le (by omega), bareN, List.take_of_length_le (by omega)]
      have hcut : k + 1 < s.length → (if (s.getD k 0).toNat = 34 then !ins else ins) = false ∧ (s.getD k 0).toNat = 35 ∧ (s.getD (k + 1) 0).toNat = 35 → s.take k = bareE s := by
        intro e q
        rw [← hi, hd, drop_get0 e, bareN, if_neg hq, if_pos q, Nat.zero_add]
      have hnext : k + 1 < s.length → ¬((if (s.getD k 0).toNat = 34 then !ins else ins) = false ∧ (s.getD k 0).toNat = 35 ∧ (s.getD (k + 1) 0).toNat = 35) → s.take (bareN (if (s.getD k 0).toNat = 34 then !ins else ins) (s.drop (k + 1)) + (k + 1)) = bareE s := by
        intro e q
        rw [← hi, hd, drop_get0 e, bareN, if_neg hq, if_neg q]
        congr 1; omega
      have h35 : k + 1 < s.length → ((s.take (k + 2)).drop k = [35, 35] ↔ (s.getD k 0).toNat = 35 ∧ (s.getD (k + 1) 0).toNat = 35) := by
        intro e
        have e1 : (s.take (k + 2)).drop k = [s.getD k 0, s.getD (k + 1) 0] := by
          rw [drop_get0 (by simp; omega), drop_get0 (by simp; omega), List.drop_of_length_le (by simp; omega), getD_take _ _ (by omega), getD_take _ _ (by omega)]
        rw [e1]
        constructor
        · intro q; simp only [List.cons.injEq, and_true] at q; rw [q.1, q.2]; exact ⟨rfl, rfl⟩
        · rintro ⟨q1, q2⟩
          rw [UInt8.toNat_inj.1 (show (s.getD k 0).toNat = (35 : UInt8).toNat from q1), UInt8.toNat_inj.1 (show (s.getD (k + 1) 0).toNat = (35 : UInt8).toNat from q2)]
      refine awp_skip ?_
      refine awp_seq ?_
      refine awp_seq (awp_region ?_)
      refine al_pure rfl rfl rfl (pure_move rfl gU) ?_
      refine al_pure rfl rfl rfl (pure_move rfl gU) ?_
      refine al_pure rfl rfl rfl (pure_indexSg (j := k) rfl rfl gU gU Tryd.underlying9 (by first | omega | (simp at hh ⊢; omega)) (fun hh => by first | omega | (simp at hh ⊢; omega))) ?_
      refine al_pure rfl rfl rfl (pure_cmp rfl rfl gU gU rfl) ?_
      refine al_nil ?_
      refine awp_cond rfl (fun hc3 => ?_) (fun hc3 => ?_)
      · try simp only [nn] at hc3
        rw [if_pos (by omega)] at hcut hnext
        refine awp_region ?_
        refine al_pure rfl rfl rfl (pure_move rfl gU) ?_
        refine al_pure rfl rfl rfl (pure_not rfl gU) ?_
        refine al_pure rfl rfl rfl (pure_assign rfl gU) ?_
        refine al_nil ?_
        refine awp_sub (s := { t := [(0, _, _), (3, _, _), (4, _, _)], bx := [], ow := [] }) (sub_mk (⟨sx rfl, ⟨sx rfl, ⟨sx rfl, trivial⟩⟩⟩) trivial trivial) ?_
        refine awp_seq (awp_region ?_)
        refine al_pure rfl rfl rfl (pure_move rfl gU) ?_
        refine al_pure rfl rfl rfl (pure_not rfl gU) ?_
        refine al_pure rfl rfl rfl (pure_move rfl gU) ?_
        refine al_pure rfl rfl rfl (pure_move rfl gU) ?_
        refine al_pure rfl rfl rfl (pure_arith rfl rfl (fun hh => hh) gU rfl (IntWalk.i64_in _ (by omega))) ?_
        refine al_pure rfl rfl rfl (pure_move rfl gU) ?_
        refine al_pure rfl rfl rfl (pure_lenS rfl (fun hh => hh) (Tryd.underlying9)) ?_
        refine al_pure rfl rfl rfl (pure_cmp rfl rfl (fun hh => hh) (fun hh => hh) rfl) ?_
        refine al_pure rfl rfl rfl (pure_and rfl rfl gU (fun _ hi => gP rfl hi)) ?_
        refine al_pure rfl rfl rfl (pure_move rfl gU) ?_
        refine al_pure rfl rfl rfl (pure_move rfl gU) ?_
        refine al_pure rfl rfl rfl (pure_move rfl gU) ?_
        refine al_sub (s := { t := [(0, _, _), (3, _, _), (4, _, _), (35, _, _), (36, _, _), (37, _, _)], bx := [], ow := [] }) (sub_mk (⟨sx rfl, ⟨sx rfl, ⟨sx rfl, ⟨sx rfl, ⟨sx rfl, ⟨sx rfl, trivial⟩⟩⟩⟩⟩⟩) trivial trivial) ?_
        refine al_pure rfl rfl rfl (pure_move rfl gU) ?_
        refine al_pure rfl rfl rfl (pure_arith rfl rfl (fun hh => hh) gU rfl (IntWalk.i64_in _ (by omega))) ?_
        refine al_pure rfl rfl rfl (pure_sliceS (l := k) (h' := (k + 2)) rfl (fun hh => hh) Tryd.underlying9 (fun _ => ⟨_, _, _, rfl, (fun hh => hh), by first | omega | (simp at hh ⊢; omega)⟩) (fun _ => ⟨_, _, _, rfl, (fun hh => hh), by first | omega | (simp at hh ⊢; omega)⟩) (fun hh => by first | omega | (simp at hh ⊢; omega)) (fun hh => by first | omega | (simp at hh ⊢; omega))) ?_
        refine al_pure rfl rfl rfl (pure_cmpS rfl rfl (fun hh => hh) gU rfl) ?_
        refine al_pure rfl rfl rfl (pure_and rfl rfl gU (fun _ hi => gP rfl hi)) ?_
        refine al_nil ?_
        refine awp_sub (s := { t := [(0, _, _), (3, _, _), (4, _, _), (42, _, _)], bx := [], ow := [] }) (sub_mk (⟨sx rfl, ⟨sx rfl, ⟨sx rfl, ⟨sx rfl, trivial⟩⟩⟩⟩) trivial trivial) ?_
        refine awp_cond rfl (fun hc4 => ?_) (fun hc4 => ?_)
        · try simp only [nn] at hc4
          exfalso
          have := (h35 (by omega)).1 hc4.2
          omega
        · try simp only [nn] at hc4
          have hfin : s.take (bareN (!ins) (s.drop (k + 1)) + (k + 1)) = bareE s := by
            by_cases hlt : k + 1 < s.length
            · exact hnext hlt (by omega)
            · exact hlast (by omega) _
          refine awp_skip ?_
          refine awp_region ?_
          refine al_pure rfl rfl rfl (pure_move rfl gU) ?_
          refine al_pure rfl rfl rfl (pure_arith rfl rfl gU gU rfl (IntWalk.i64_in _ (by omega))) ?_
          refine al_pure rfl rfl rfl (pure_assign rfl gU) ?_
          refine al_nil ?_
          refine ⟨(k + 1, !ins), ?_, ?_, sub_mk (⟨⟨_, rfl, ?_⟩, ⟨⟨_, rfl, ?_⟩, ⟨sx rfl, trivial⟩⟩⟩) trivial trivial⟩
          all_goals (first | rfl | omega | exact ⟨by omega, hfin⟩)
      · try simp only [nn] at hc3
        rw [if_neg (by omega)] at hcut hnext
        refine awp_skip ?_
        refine awp_seq (awp_region ?_)
        refine al_pure rfl rfl rfl (pure_move rfl gU) ?_
        refine al_pure rfl rfl rfl (pure_not rfl gU) ?_
        refine al_pure rfl rfl rfl (pure_move rfl gU) ?_
        refine al_pure rfl rfl rfl (pure_move rfl gU) ?_
        refine al_pure rfl rfl rfl (pure_arith rfl rfl (fun hh => hh) gU rfl (IntWalk.i64_in _ (by omega))) ?_
        refine al_pure rfl rfl rfl (pure_move rfl gU) ?_
        refine al_pure rfl rfl rfl (pure_lenS rfl (fun hh => hh) (Tryd.underlying9)) ?_
        refine al_pure rfl rfl rfl (pure_cmp rfl rfl (fun hh => hh) (fun hh => hh) rfl) ?_
        refine al_sub (s := { t := [(0, _, _), (3, _, _), (4, _, _), (28, _, _), (33, _, _)], bx := [], ow := [] }) (sub_mk (⟨sx rfl, ⟨sx rfl, ⟨sx rfl, ⟨sx rfl, ⟨sx rfl, trivial⟩⟩⟩⟩⟩) trivial trivial) ?_
        refine al_pure rfl rfl rfl (pure_and rfl rfl gU (fun _ hi => gP rfl hi)) ?_
        refine al_pure rfl rfl rfl (pure_move rfl gU) ?_
        refine al_pure rfl rfl rfl (pure_move rfl gU) ?_
        refine al_pure rfl rfl rfl (pure_move rfl gU) ?_
        refine al_pure rfl rfl rfl (pure_move rfl gU) ?_
        refine al_pure rfl rfl rfl (pure_arith rfl rfl (fun hh => hh) gU rfl (IntWalk.i64_in _ (by omega))) ?_
        refine al_pure rfl rfl rfl (pure_sliceS (l := k) (h' := (k + 2)) rfl (fun hh => hh) Tryd.underlying9 (fun _ => ⟨_, _, _, rfl, (fun hh => hh), by first | omega | (simp at hh ⊢; omega)⟩) (fun _ => ⟨_, _, _, rfl, (fun hh => hh), by first | omega | (simp at hh ⊢; omega)⟩) (fun hh => by first | omega | (simp at hh ⊢; omega)) (fun hh => by first | omega | (simp at hh ⊢; omega))) ?_
        refine al_pure rfl rfl rfl (pure_cmpS rfl rfl (fun hh => hh) gU rfl) ?_
        refine al_pure rfl rfl rfl (pure_and rfl rfl gU (fun _ hi => gP rfl hi)) ?_
        refine al_nil ?_
        refine awp_sub (s := { t := [(0, _, _), (3, _, _), (4, _, _), (42, _, _)], bx := [], ow := [] }) (sub_mk (⟨sx rfl, ⟨sx rfl, ⟨sx rfl, ⟨sx rfl, trivial⟩⟩⟩⟩) trivial trivial) ?_
        refine awp_cond rfl (fun hc4 => ?_) (fun hc4 => ?_)
        · try simp only [nn] at hc4
          have := (h35 (by omega)).1 hc4.2
          have hfin := hcut (by omega) ⟨hc4.1.1, this⟩
          refine awp_seq (awp_region ?_)
          refine al_pure rfl rfl rfl (pure_move rfl gU) ?_
          refine al_pure rfl rfl rfl (pure_move rfl gU) ?_
          refine al_pure rfl rfl rfl (pure_sliceS (h' := k) rfl gU Tryd.underlying9 (fun _ => rfl) (fun _ => ⟨_, _, _, rfl, gU, by first | omega | (simp at hh ⊢; omega)⟩) (fun hh => by first | omega | (simp at hh ⊢; omega)) (fun hh => by first | omega | (simp at hh ⊢; omega))) ?_
          refine al_pure rfl rfl rfl (pure_assign rfl gU) ?_
          refine al_nil ?_
          refine awp_ret ?_
          repeat (first | refine tR ?_ | refine bR ?_)
          refine ret_ok rfl ?_ trivial
          (rw [← hfin]; rfl)
        · try simp only [nn] at hc4
          have hfin : s.take (bareN ins (s.drop (k + 1)) + (k + 1)) = bareE s := by
            by_cases hlt : k + 1 < s.length
            · refine hnext hlt ?_
              rintro ⟨q1, q2⟩
              have q3 := (h35 hlt).2 q2
              rcases hc4 with z | z
              · rcases z with z | z
                · rw [q1] at z; simp at z
                · omega
              · exact z q3
            · exact hlast (by omega) _
          refine awp_skip ?_
          refine awp_region ?_
          refine al_pure rfl rfl rfl (pure_move rfl gU) ?_
          refine al_pure rfl rfl rfl (pure_arith rfl rfl gU gU rfl (IntWalk.i64_in _ (by omega))) ?_
          refine al_pure rfl rfl rfl (pure_assign rfl gU) ?_
          refine al_nil ?_
          refine ⟨(k + 1, ins), ?_, ?_, sub_mk (⟨⟨_, rfl, ?_⟩, ⟨⟨_, rfl, ?_⟩, ⟨sx rfl, trivial⟩⟩⟩) trivial trivial⟩
          all_goals (first | rfl | omega | exact ⟨by omega, hfin⟩)
  · try simp only [nn] at hc
    rw [List.take_of_length_le (by omega)] at hi
    refine awp_exit ?_
    repeat (first | refine thenS_exit ?_ | refine blockS_hit ?_ | refine blockS_miss rfl ?_)
    refine awp_seq (awp_region ?_)
    refine al_pure rfl rfl rfl (pure_move rfl gU) ?_
    refine al_pure rfl rfl rfl (pure_assign rfl gU) ?_
    refine al_nil ?_
    refine awp_ret ?_
    repeat (first | refine tR ?_ | refine bR ?_)
    refine ret_ok rfl ?_ trivial
    (rw [← hi]; rfl)
/-- Hexadecimal digits, as the reference finds them: the last place that holds the byte. -/
def lastA : List UInt8 → Nat → UInt8 → Int → Int
  | [], _, _, r => r
  | b :: l, k, c, r => lastA l (k + 1) c (if c.toNat = b.toNat then (k : Int) else r)
theorem lastI : ∀ n : Fin 256, lastA hexs 0 (UInt8.ofNat n.val) (-1) = if hexB (UInt8.ofNat n.val) = true then hexV (UInt8.ofNat n.val) else -1 := by decide +kernel
theorem last_index (c : UInt8) : lastA hexs 0 c (-1) = if hexB c = true then hexV c else -1 := by
  have := lastI ⟨c.toNat, c.toNat_lt⟩
  rwa [show UInt8.ofNat c.toNat = c from UInt8.ofNat_toNat] at this
theorem lastA_le : ∀ (l : List UInt8) (k : Nat) (c : UInt8) (r : Int), -1 ≤ r → r ≤ k + l.length → -1 ≤ lastA l k c r ∧ lastA l k c r ≤ k + l.length
  | [], k, c, r, h1, h2 => by rw [lastA]; exact ⟨h1, h2⟩
  | b :: l, k, c, r, h1, h2 => by
    simp only [List.length_cons] at h2 ⊢
    have := lastA_le l (k + 1) c (if c.toNat = b.toNat then (k : Int) else r) (by split <;> omega) (by split <;> omega)
    rw [lastA]
    omega
def forms : List UInt8 := [110, 10, 116, 9, 34, 34, 92, 92]
def formA : List UInt8 → UInt8 → Option UInt8
  | a :: b :: l, c => if c.toNat = a.toNat then some b else formA l c
  | _, _ => none
theorem tupB_eq {a b : Int} {n m : Int} (h : a = b) (hn : n = m) : X.tup [.c (.i .u8 a), .c (.i .i64 n)] = X.tup [.c (.i .u8 b), .c (.i .i64 m)] := by rw [h, hn]
theorem escape_spec (s : List UInt8) (hs : s.length ≤ 1000000) : Ctr sys 60 [xs s] [] (.tup [.c (.i .u8 ((escE s).1.toNat : Int)), .c (.i .i64 ((escE s).2 : Int))]) none [] := by
  have h8 : forms.length = 8 := rfl
  have h16 : hexs.length = 16 := rfl
  refine spec_intro Tryd.func60 rfl rfl rfl rfl rfl rfl ?_
  refine awp_seq (awp_region ?_)
  refine al_pure rfl rfl rfl (pure_assign rfl gU) ?_
  refine al_pure rfl rfl rfl (pure_assign rfl gU) ?_
  refine al_nil ?_
  refine awp_seq ?_
  refine awp_seq (awp_region ?_)
  refine al_pure rfl rfl rfl (pure_move rfl gU) ?_
  refine al_lenS rfl rfl rfl rfl rfl gU (Tryd.underlying9) ?_ (fun hh => by simp at hh); intro hlen
  refine al_pure rfl rfl rfl (pure_cmp rfl rfl gU gU rfl) ?_
  refine al_nil ?_
  refine awp_sub (s := { t := [(0, _, _), (12, _, _)], bx := [], ow := [] }) (sub_mk (⟨sx rfl, ⟨sx rfl, trivial⟩⟩) trivial trivial) ?_
  refine awp_cond rfl (fun hc => ?_) (fun hc => ?_)
  · try simp only [nn] at hc
    have : s = [] := by cases s; rfl; simp at hc; omega
    subst this
    refine awp_seq (awp_region ?_)
    refine al_pure rfl rfl rfl (pure_assign rfl gU) ?_
    refine al_pure rfl rfl rfl (pure_assign rfl gU) ?_
    refine al_nil ?_
    refine awp_ret ?_
    repeat (first | refine tR ?_ | refine bR ?_)
    refine ret_ok rfl ?_ trivial
    rfl
  · try simp only [nn] at hc
    have he := escE_at (s := s) (k := 0) (by omega)
    rw [List.drop_zero, Nat.zero_add, Nat.zero_add] at he
    have hu := (s.getD 0 0).toNat_lt
    refine awp_skip ?_
    refine awp_seq (awp_region ?_)
    refine al_pure rfl rfl rfl (pure_assign rfl gU) ?_
    refine al_nil ?_
    refine awp_seq ?_
    refine awp_seq (awp_region ?_)
    refine al_pure rfl rfl rfl (pure_assign rfl gU) ?_
    refine al_nil ?_
    refine awp_block ?_
    refine awp_for (ι := Nat) { t := [(0, _, _), (4, _, _)], bx := [], ow := [] } (fun k => [(5, true, xi (k : Int))]) (fun k => []) (fun k => k ≤ 8 ∧ k % 2 = 0 ∧ formA (forms.drop k) (s.getD 0 0) = formA forms (s.getD 0 0)) (fun k => 8 - k) (0) (⟨by omega, by omega, rfl⟩) (sub_mk (⟨sx rfl, ⟨sx rfl, ⟨sx rfl, trivial⟩⟩⟩) trivial trivial) ?_
    intro k hok
    dsimp only [List.cons_append, List.nil_append]
    obtain ⟨hk, hk2, hi⟩ := hok
    refine awp_seq ?_
    refine awp_seq (awp_region ?_)
    refine al_pure rfl rfl rfl (pure_move rfl gU) ?_
    refine al_pure rfl rfl rfl (pure_move rfl gU) ?_
    refine al_lenS rfl rfl rfl rfl rfl gU (Tryd.underlying9) ?_ (fun hh => by simp at hh); intro hlen
    refine al_pure rfl rfl rfl (pure_cmp rfl rfl gU gU rfl) ?_
    refine al_nil ?_
    refine awp_cond rfl (fun hc2 => ?_) (fun hc2 => ?_)
    · try simp only [nn] at hc2
      have hk3 : k < 7 := by simp at hc2; omega
      rw [drop_get0 (by omega), drop_get0 (by omega), formA] at hi
      refine awp_skip ?_
      refine awp_seq ?_
      refine awp_block ?_
      refine awp_seq ?_
      refine awp_drawn' (by kernel_rfl) ?_
      refine dr_pure rfl rfl rfl rfl (pure_move rfl gU) ?_
      refine dr_pure rfl rfl rfl rfl (pure_indexSg (j := 0) rfl rfl gU gU Tryd.underlying9 (by first | omega | (show _ < 8; omega) | (simp at hh ⊢; omega)) (fun hh => by first | omega | (show _ < 8; omega) | (simp at hh ⊢; omega))) ?_
      refine dr_pure rfl rfl rfl rfl (pure_move rfl gU) ?_
      refine dr_pure rfl rfl rfl rfl (pure_move rfl gU) ?_
      refine dr_pure rfl rfl rfl rfl (pure_indexSg (j := k) rfl rfl gU gU Tryd.underlying9 (by first | omega | (show _ < 8; omega) | (simp at hh ⊢; omega)) (fun hh => by first | omega | (show _ < 8; omega) | (simp at hh ⊢; omega))) ?_
      refine dr_pure rfl rfl rfl rfl (pure_cmp rfl rfl gU gU rfl) ?_
      refine dr_nil (by kernel_rfl) ?_
      refine awp_sub (s := { t := [(0, _, _), (4, _, _), (5, _, _), (24, _, _)], bx := [], ow := [] }) (sub_mk (⟨sx rfl, ⟨sx rfl, ⟨sx rfl, ⟨sx rfl, trivial⟩⟩⟩⟩) trivial trivial) ?_
      refine awp_cond rfl (fun hc3 => ?_) (fun hc3 => ?_)
      · try simp only [nn] at hc3
        have hq : (s.getD 0 0).toNat = (forms.getD k 0).toNat := by have : ((s.getD 0 0).toNat : Int) = ((forms.getD k 0).toNat : Int) := hc3; omega
        rw [if_pos hq] at hi
        have hesc : escE s = (forms.getD (k + 1) 0, 1) := by
          have hks : k = 0 ∨ k = 2 ∨ k = 4 ∨ k = 6 := by omega
          rw [he]
          rcases hks with rfl | rfl | rfl | rfl
          · rw [if_pos (by rw [hq]; rfl)]; rfl
          · rw [if_neg (by rw [hq]; decide), if_pos (by rw [hq]; rfl)]; rfl
          · rw [if_neg (by rw [hq]; decide), if_neg (by rw [hq]; decide), if_pos (by rw [hq]; decide), UInt8.toNat_inj.1 hq]; rfl
          · rw [if_neg (by rw [hq]; decide), if_neg (by rw [hq]; decide), if_pos (by rw [hq]; decide), UInt8.toNat_inj.1 hq]; rfl
        rw [hesc]
        refine awp_seq (awp_region ?_)
        refine al_pure rfl rfl rfl (pure_move rfl gU) ?_
        refine al_pure rfl rfl rfl (pure_move rfl gU) ?_
        refine al_pure rfl rfl rfl (pure_arith rfl rfl gU gU rfl (IntWalk.i64_in _ (by omega))) ?_
        refine al_pure rfl rfl rfl (pure_indexSg (j := k + 1) rfl rfl gU gU Tryd.underlying9 (by first | omega | (show _ < 8; omega) | (simp at hh ⊢; omega)) (fun hh => by first | omega | (show _ < 8; omega) | (simp at hh ⊢; omega))) ?_
        refine al_pure rfl rfl rfl (pure_assign rfl gU) ?_
        refine al_pure rfl rfl rfl (pure_assign rfl gU) ?_
        refine al_nil ?_
        refine awp_ret ?_
        repeat (first | refine tR ?_ | refine bR ?_)
        refine ret_ok rfl ?_ trivial
        rfl
      · try simp only [nn] at hc3
        have hq : ¬(s.getD 0 0).toNat = (forms.getD k 0).toNat := by intro q; exact hc3 (by show ((s.getD 0 0).toNat : Int) = ((forms.getD k 0).toNat : Int); rw [q])
        rw [if_neg hq] at hi
        refine awp_skip ?_
        refine awp_region ?_
        refine al_pure rfl rfl rfl (pure_move rfl gU) ?_
        refine al_pure rfl rfl rfl (pure_arith rfl rfl gU gU rfl (IntWalk.i64_in _ (by omega))) ?_
        refine al_pure rfl rfl rfl (pure_assign rfl gU) ?_
        refine al_nil ?_
        refine ⟨k + 2, ?_, ?_, sub_mk (⟨⟨_, rfl, ?_⟩, ⟨sx rfl, ⟨sx rfl, trivial⟩⟩⟩) trivial trivial⟩
        all_goals (first | rfl | omega | exact ⟨by omega, by omega, hi⟩)
    · try simp only [nn] at hc2
      have hk3 : k = 8 := by simp at hc2; omega
      rw [List.drop_of_length_le (by omega), show formA [] (s.getD 0 0) = none from rfl] at hi
      have hno : (s.getD 0 0).toNat ≠ 110 ∧ (s.getD 0 0).toNat ≠ 116 ∧ (s.getD 0 0).toNat ≠ 34 ∧ (s.getD 0 0).toNat ≠ 92 := by
        have hf : ∀ c : UInt8, formA forms c = if c.toNat = 110 then some 10 else if c.toNat = 116 then some 9 else if c.toNat = 34 then some 34 else if c.toNat = 92 then some 92 else none := fun c => rfl
        rw [hf] at hi
        refine ⟨fun q => ?_, fun q => ?_, fun q => ?_, fun q => ?_⟩
        · rw [if_pos q] at hi; cases hi
        · rw [if_neg (by omega), if_pos q] at hi; cases hi
        · rw [if_neg (by omega), if_neg (by omega), if_pos q] at hi; cases hi
        · rw [if_neg (by omega), if_neg (by omega), if_neg (by omega), if_pos q] at hi; cases hi
      rw [if_neg hno.1, if_neg hno.2.1, if_neg (by omega)] at he
      refine awp_exit ?_
      repeat (first | refine thenS_exit ?_ | refine blockS_hit ?_ | refine blockS_miss rfl ?_)
      refine awp_seq (awp_region ?_)
      refine al_pure rfl rfl rfl (pure_assign rfl gU) ?_
      refine al_nil ?_
      refine awp_sub (s := { t := [(0, _, _), (6, _, _)], bx := [], ow := [] }) (sub_mk (⟨sx rfl, ⟨sx rfl, trivial⟩⟩) trivial trivial) ?_
      refine awp_seq ?_
      refine awp_seq (awp_region ?_)
      refine al_pure rfl rfl rfl (pure_move rfl gU) ?_
      refine al_pure rfl rfl rfl (pure_indexSg (j := 0) rfl rfl gU gU Tryd.underlying9 (by first | omega | (show _ < 16; omega) | (simp at hh ⊢; omega)) (fun hh => by first | omega | (show _ < 16; omega) | (simp at hh ⊢; omega))) ?_
      refine al_pure rfl rfl rfl (pure_cmp rfl rfl gU gU rfl) ?_
      refine al_pure rfl rfl rfl (pure_move rfl gU) ?_
      refine al_pure rfl rfl rfl (pure_move rfl gU) ?_
      refine al_pure rfl rfl rfl (pure_lenS rfl (fun hh => hh) (Tryd.underlying9)) ?_
      refine al_pure rfl rfl rfl (pure_cmp rfl rfl (fun hh => hh) gU rfl) ?_
      refine al_pure rfl rfl rfl (pure_or rfl rfl gU (fun _ hi => gP rfl hi)) ?_
      refine al_nil ?_
      refine awp_sub (s := { t := [(0, _, _), (6, _, _), (36, _, _)], bx := [], ow := [] }) (sub_mk (⟨sx rfl, ⟨sx rfl, ⟨sx rfl, trivial⟩⟩⟩) trivial trivial) ?_
      refine awp_cond rfl (fun hc3 => ?_) (fun hc3 => ?_)
      · try simp only [nn] at hc3
        rw [if_neg (by omega)] at he
        rw [he]
        refine awp_seq (awp_region ?_)
        refine al_pure rfl rfl rfl (pure_assign rfl gU) ?_
        refine al_pure rfl rfl rfl (pure_assign rfl gU) ?_
        refine al_nil ?_
        refine awp_ret ?_
        repeat (first | refine tR ?_ | refine bR ?_)
        refine ret_ok rfl ?_ trivial
        rfl
      · try simp only [nn] at hc3
        refine awp_skip ?_
        refine awp_seq (awp_region ?_)
        refine al_pure rfl rfl rfl (pure_assign rfl gU) ?_
        refine al_pure rfl rfl rfl (pure_assign rfl gU) ?_
        refine al_nil ?_
        refine awp_seq ?_
        refine awp_seq (awp_region ?_)
        refine al_pure rfl rfl rfl (pure_assign rfl gU) ?_
        refine al_nil ?_
        refine awp_block ?_
        refine awp_for (ι := Nat × Int × Int) { t := [(0, _, _), (6, _, _)], bx := [], ow := [] } (fun q => [(9, true, xi (q.1 : Int)), (7, true, xi q.2.1), (8, true, xi q.2.2)]) (fun q => []) (fun q => q.1 ≤ 16 ∧ -1 ≤ q.2.1 ∧ q.2.1 ≤ 16 ∧ -1 ≤ q.2.2 ∧ q.2.2 ≤ 16 ∧ lastA (hexs.drop q.1) q.1 (s.getD 1 0) q.2.1 = lastA hexs 0 (s.getD 1 0) (-1) ∧ lastA (hexs.drop q.1) q.1 (s.getD 2 0) q.2.2 = lastA hexs 0 (s.getD 2 0) (-1)) (fun q => 16 - q.1) ((0, -1, -1)) (⟨by simp, by simp, by simp, by simp, by simp, rfl, rfl⟩) (sub_mk (⟨sx rfl, ⟨sx rfl, ⟨sx rfl, ⟨sx rfl, ⟨sx rfl, trivial⟩⟩⟩⟩⟩) trivial trivial) ?_
        intro q hok
        dsimp only [List.cons_append, List.nil_append] at *
        obtain ⟨j, a, b⟩ := q
        dsimp only at hok ⊢
        obtain ⟨hj, ha0, ha1, hb0, hb1, hi1, hi2⟩ := hok
        refine awp_seq ?_
        refine awp_seq (awp_region ?_)
        refine al_pure rfl rfl rfl (pure_move rfl gU) ?_
        refine al_pure rfl rfl rfl (pure_move rfl gU) ?_
        refine al_lenS rfl rfl rfl rfl rfl gU (Tryd.underlying9) ?_ (fun hh => by simp at hh); intro hlen
        refine al_pure rfl rfl rfl (pure_cmp rfl rfl gU gU rfl) ?_
        refine al_nil ?_
        refine awp_cond rfl (fun hc4 => ?_) (fun hc4 => ?_)
        · try simp only [nn] at hc4
          have hj2 : j < 16 := by simp at hc4; omega
          rw [drop_get0 (by omega), lastA] at hi1 hi2
          refine awp_skip ?_
          refine awp_seq ?_
          refine awp_block ?_
          refine awp_seq ?_
          refine awp_seq ?_
          refine awp_drawn' (by kernel_rfl) ?_
          refine dr_pure rfl rfl rfl rfl (pure_move rfl gU) ?_
          refine dr_pure rfl rfl rfl rfl (pure_indexSg (j := 1) rfl rfl gU gU Tryd.underlying9 (by first | omega | (show _ < 16; omega) | (simp at hh ⊢; omega)) (fun hh => by first | omega | (show _ < 16; omega) | (simp at hh ⊢; omega))) ?_
          refine dr_pure rfl rfl rfl rfl (pure_move rfl gU) ?_
          refine dr_pure rfl rfl rfl rfl (pure_move rfl gU) ?_
          refine dr_pure rfl rfl rfl rfl (pure_indexSg (j := j) rfl rfl gU gU Tryd.underlying9 (by first | omega | (show _ < 16; omega) | (simp at hh ⊢; omega)) (fun hh => by first | omega | (show _ < 16; omega) | (simp at hh ⊢; omega))) ?_
          refine dr_pure rfl rfl rfl rfl (pure_cmp rfl rfl gU gU rfl) ?_
          refine dr_nil (by kernel_rfl) ?_
          refine awp_sub (s := { t := [(0, _, _), (6, _, _), (7, _, _), (8, _, _), (9, _, _), (48, _, _)], bx := [], ow := [] }) (sub_mk (⟨sx rfl, ⟨sx rfl, ⟨sx rfl, ⟨sx rfl, ⟨sx rfl, ⟨sx rfl, trivial⟩⟩⟩⟩⟩⟩) trivial trivial) ?_
          refine awp_cond rfl (fun hc5 => ?_) (fun hc5 => ?_)
          · try simp only [nn] at hc5
            rw [if_pos (by have : ((s.getD 1 0).toNat : Int) = ((hexs.getD j 0).toNat : Int) := hc5; omega)] at hi1
            refine awp_region ?_
            refine al_pure rfl rfl rfl (pure_move rfl gU) ?_
            refine al_pure rfl rfl rfl (pure_assign rfl gU) ?_
            refine al_nil ?_
            refine awp_seq ?_
            refine awp_drawn' (by kernel_rfl) ?_
            refine dr_pure rfl rfl rfl rfl (pure_move rfl gU) ?_
            refine dr_pure rfl rfl rfl rfl (pure_indexSg (j := 2) rfl rfl gU gU Tryd.underlying9 (by first | omega | (show _ < 16; omega) | (simp at hh ⊢; omega)) (fun hh => by first | omega | (show _ < 16; omega) | (simp at hh ⊢; omega))) ?_
            refine dr_pure rfl rfl rfl rfl (pure_move rfl gU) ?_
            refine dr_pure rfl rfl rfl rfl (pure_move rfl gU) ?_
            refine dr_pure rfl rfl rfl rfl (pure_indexSg (j := j) rfl rfl gU gU Tryd.underlying9 (by first | omega | (show _ < 16; omega) | (simp at hh ⊢; omega)) (fun hh => by first | omega | (show _ < 16; omega) | (simp at hh ⊢; omega))) ?_
            refine dr_pure rfl rfl rfl rfl (pure_cmp rfl rfl gU gU rfl) ?_
            refine dr_nil (by kernel_rfl) ?_
            refine awp_sub (s := { t := [(0, _, _), (6, _, _), (7, _, _), (8, _, _), (9, _, _), (55, _, _)], bx := [], ow := [] }) (sub_mk (⟨sx rfl, ⟨sx rfl, ⟨sx rfl, ⟨sx rfl, ⟨sx rfl, ⟨sx rfl, trivial⟩⟩⟩⟩⟩⟩) trivial trivial) ?_
            refine awp_cond rfl (fun hc6 => ?_) (fun hc6 => ?_)
            · try simp only [nn] at hc6
              rw [if_pos (by have : ((s.getD 2 0).toNat : Int) = ((hexs.getD j 0).toNat : Int) := hc6; omega)] at hi2
              refine awp_region ?_
              refine al_pure rfl rfl rfl (pure_move rfl gU) ?_
              refine al_pure rfl rfl rfl (pure_assign rfl gU) ?_
              refine al_nil ?_
              refine awp_region ?_
              refine al_pure rfl rfl rfl (pure_move rfl gU) ?_
              refine al_pure rfl rfl rfl (pure_arith rfl rfl gU gU rfl (IntWalk.i64_in _ (by omega))) ?_
              refine al_pure rfl rfl rfl (pure_assign rfl gU) ?_
              refine al_nil ?_
              refine ⟨(j + 1, (j : Int), (j : Int)), ?_, ?_, sub_mk (⟨⟨_, rfl, ?_⟩, ⟨⟨_, rfl, ?_⟩, ⟨⟨_, rfl, ?_⟩, ⟨sx rfl, ⟨sx rfl, trivial⟩⟩⟩⟩⟩) trivial trivial⟩
              all_goals (first | rfl | omega | (refine ⟨?_, ?_, ?_, ?_, ?_, hi1, hi2⟩ <;> (dsimp only; omega)))
            · try simp only [nn] at hc6
              rw [if_neg (by intro q; exact hc6 (by show ((s.getD 2 0).toNat : Int) = ((hexs.getD j 0).toNat : Int); rw [q]))] at hi2
              refine awp_skip ?_
              refine awp_region ?_
              refine al_pure rfl rfl rfl (pure_move rfl gU) ?_
              refine al_pure rfl rfl rfl (pure_arith rfl rfl gU gU rfl (IntWalk.i64_in _ (by omega))) ?_
              refine al_pure rfl rfl rfl (pure_assign rfl gU) ?_
              refine al_nil ?_
              refine ⟨(j + 1, (j : Int), b), ?_, ?_, sub_mk (⟨⟨_, rfl, ?_⟩, ⟨⟨_, rfl, ?_⟩, ⟨⟨_, rfl, ?_⟩, ⟨sx rfl, ⟨sx rfl, trivial⟩⟩⟩⟩⟩) trivial trivial⟩
              all_goals (first | rfl | omega | (refine ⟨?_, ?_, ?_, ?_, ?_, hi1, hi2⟩ <;> (dsimp only; omega)))
          · try simp only [nn] at hc5
            rw [if_neg (by intro q; exact hc5 (by show ((s.getD 1 0).toNat : Int) = ((hexs.getD j 0).toNat : Int); rw [q]))] at hi1
            refine awp_skip ?_
            refine awp_seq ?_
            refine awp_drawn' (by kernel_rfl) ?_
            refine dr_pure rfl rfl rfl rfl (pure_move rfl gU) ?_
            refine dr_pure rfl rfl rfl rfl (pure_indexSg (j := 2) rfl rfl gU gU Tryd.underlying9 (by first | omega | (show _ < 16; omega) | (simp at hh ⊢; omega)) (fun hh => by first | omega | (show _ < 16; omega) | (simp at hh ⊢; omega))) ?_
            refine dr_pure rfl rfl rfl rfl (pure_move rfl gU) ?_
            refine dr_pure rfl rfl rfl rfl (pure_move rfl gU) ?_
            refine dr_pure rfl rfl rfl rfl (pure_indexSg (j := j) rfl rfl gU gU Tryd.underlying9 (by first | omega | (show _ < 16; omega) | (simp at hh ⊢; omega)) (fun hh => by first | omega | (show _ < 16; omega) | (simp at hh ⊢; omega))) ?_
            refine dr_pure rfl rfl rfl rfl (pure_cmp rfl rfl gU gU rfl) ?_
            refine dr_nil (by kernel_rfl) ?_
            refine awp_sub (s := { t := [(0, _, _), (6, _, _), (7, _, _), (8, _, _), (9, _, _), (55, _, _)], bx := [], ow := [] }) (sub_mk (⟨sx rfl, ⟨sx rfl, ⟨sx rfl, ⟨sx rfl, ⟨sx rfl, ⟨sx rfl, trivial⟩⟩⟩⟩⟩⟩) trivial trivial) ?_
            refine awp_cond rfl (fun hc6 => ?_) (fun hc6 => ?_)
            · try simp only [nn] at hc6
              rw [if_pos (by have : ((s.getD 2 0).toNat : Int) = ((hexs.getD j 0).toNat : Int) := hc6; omega)] at hi2
              refine awp_region ?_
              refine al_pure rfl rfl rfl (pure_move rfl gU) ?_
              refine al_pure rfl rfl rfl (pure_assign rfl gU) ?_
              refine al_nil ?_
              refine awp_region ?_
              refine al_pure rfl rfl rfl (pure_move rfl gU) ?_
              refine al_pure rfl rfl rfl (pure_arith rfl rfl gU gU rfl (IntWalk.i64_in _ (by omega))) ?_
              refine al_pure rfl rfl rfl (pure_assign rfl gU) ?_
              refine al_nil ?_
              refine ⟨(j + 1, a, (j : Int)), ?_, ?_, sub_mk (⟨⟨_, rfl, ?_⟩, ⟨⟨_, rfl, ?_⟩, ⟨⟨_, rfl, ?_⟩, ⟨sx rfl, ⟨sx rfl, trivial⟩⟩⟩⟩⟩) trivial trivial⟩
              all_goals (first | rfl | omega | (refine ⟨?_, ?_, ?_, ?_, ?_, hi1, hi2⟩ <;> (dsimp only; omega)))
            · try simp only [nn] at hc6
              rw [if_neg (by intro q; exact hc6 (by show ((s.getD 2 0).toNat : Int) = ((hexs.getD j 0).toNat : Int); rw [q]))] at hi2
              refine awp_skip ?_
              refine awp_region ?_
              refine al_pure rfl rfl rfl (pure_move rfl gU) ?_
              refine al_pure rfl rfl rfl (pure_arith rfl rfl gU gU rfl (IntWalk.i64_in _ (by omega))) ?_
              refine al_pure rfl rfl rfl (pure_assign rfl gU) ?_
              refine al_nil ?_
              refine ⟨(j + 1, a, b), ?_, ?_, sub_mk (⟨⟨_, rfl, ?_⟩, ⟨⟨_, rfl, ?_⟩, ⟨⟨_, rfl, ?_⟩, ⟨sx rfl, ⟨sx rfl, trivial⟩⟩⟩⟩⟩) trivial trivial⟩
              all_goals (first | rfl | omega | (refine ⟨?_, ?_, ?_, ?_, ?_, hi1, hi2⟩ <;> (dsimp only; omega)))
        · try simp only [nn] at hc4
          have hj2 : j = 16 := by simp at hc4; omega
          rw [List.drop_of_length_le (by omega), lastA, last_index] at hi1 hi2
          refine awp_exit ?_
          repeat (first | refine thenS_exit ?_ | refine blockS_hit ?_ | refine blockS_miss rfl ?_)
          refine awp_seq ?_
          refine awp_seq (awp_region ?_)
          refine al_pure rfl rfl rfl (pure_move rfl gU) ?_
          refine al_pure rfl rfl rfl (pure_cmp rfl rfl gU gU rfl) ?_
          refine al_pure rfl rfl rfl (pure_move rfl gU) ?_
          refine al_pure rfl rfl rfl (pure_move rfl gU) ?_
          refine al_pure rfl rfl rfl (pure_cmp rfl rfl (fun hh => hh) gU rfl) ?_
          refine al_pure rfl rfl rfl (pure_or rfl rfl gU (fun _ hi => gP rfl hi)) ?_
          refine al_nil ?_
          refine awp_sub (s := { t := [(7, _, _), (8, _, _), (62, _, _)], bx := [], ow := [] }) (sub_mk (⟨sx rfl, ⟨sx rfl, ⟨sx rfl, trivial⟩⟩⟩) trivial trivial) ?_
          refine awp_cond rfl (fun hc5 => ?_) (fun hc5 => ?_)
          · try simp only [nn] at hc5
            rw [if_neg (by
              rintro ⟨-, -, q1, q2⟩
              have := hexV_le q1
              have := hexV_le q2
              rw [if_pos q1] at hi1
              rw [if_pos q2] at hi2
              omega)] at he
            rw [he]
            refine awp_seq (awp_region ?_)
            refine al_pure rfl rfl rfl (pure_assign rfl gU) ?_
            refine al_pure rfl rfl rfl (pure_assign rfl gU) ?_
            refine al_nil ?_
            refine awp_ret ?_
            repeat (first | refine tR ?_ | refine bR ?_)
            refine ret_ok rfl ?_ trivial
            rfl
          · try simp only [nn] at hc5
            have x1 : hexB (s.getD 1 0) = true := by
              by_cases q : hexB (s.getD 1 0) = true
              · exact q
              · rw [if_neg q] at hi1; omega
            have x2 : hexB (s.getD 2 0) = true := by
              by_cases q : hexB (s.getD 2 0) = true
              · exact q
              · rw [if_neg q] at hi2; omega
            have x3 := hexV_le x1
            have x4 := hexV_le x2
            rw [if_pos x1] at hi1
            rw [if_pos x2] at hi2
            rw [if_pos ⟨by omega, by omega, x1, x2⟩] at he
            rw [he]
            refine awp_skip ?_
            refine awp_seq (awp_region ?_)
            refine al_pure rfl rfl rfl (pure_move rfl gU) ?_
            refine al_pure rfl rfl rfl (pure_arith rfl rfl gU gU rfl (IntWalk.i64_in _ (by omega))) ?_
            refine al_pure rfl rfl rfl (pure_move rfl gU) ?_
            refine al_pure rfl rfl rfl (pure_arith rfl rfl gU gU rfl (IntWalk.i64_in _ (by omega))) ?_
            refine al_pure rfl rfl rfl (pure_convInt rfl gU ⟨_, Tryd.underlying3⟩ (Tryd.underlying5) (IntWalk.u8_in _ (by omega))) ?_
            refine al_pure rfl rfl rfl (pure_assign rfl gU) ?_
            refine al_pure rfl rfl rfl (pure_assign rfl gU) ?_
            refine al_nil ?_
            refine awp_ret ?_
            repeat (first | refine tR ?_ | refine bR ?_)
            refine ret_ok rfl ?_ trivial
            (refine tupB_eq ?_ rfl; exact u8_nat (by omega) (by omega))
theorem escape_at (s : List UInt8) (k : Nat) (hs : s.length ≤ 1000000) : Ctr sys 60 [xs ((s.take s.length).drop k)] [] (.tup [.c (.i .u8 ((escE (s.drop k)).1.toNat : Int)), .c (.i .i64 ((escE (s.drop k)).2 : Int))]) none [] := by
  rw [List.take_length]
  exact escape_spec _ (by simp; omega)
theorem rlit_spec (s : List UInt8) (h : 0 < s.length) (hs : s.length ≤ 1000000) : Ctr sys 43 [xs s] [] (xsn (litE s)) none [] := by
  refine spec_intro Tryd.func43 rfl rfl rfl rfl rfl rfl ?_
  refine awp_seq (awp_region ?_)
  refine al_pure rfl rfl rfl (pure_assign rfl gU) ?_
  refine al_pure rfl rfl rfl (pure_assign rfl gU) ?_
  refine al_nil ?_
  refine awp_seq (awp_region ?_)
  refine al_do rfl (does_nil (.inr rfl) rfl rfl) ?_
  refine al_nil ?_
  refine awp_seq ?_
  refine awp_seq (awp_region ?_)
  refine al_pure rfl rfl rfl (pure_assign rfl gU) ?_
  refine al_nil ?_
  refine awp_block ?_
  refine awp_for (ι := Nat × List UInt8) { t := [(0, _, _)], bx := [], ow := [((.t 4), _)] } (fun p => [(5, true, xi (p.1 : Int)), (4, true, xbs p.2)]) (fun p => []) (fun p => p.1 ≤ s.length ∧ p.2.length ≤ p.1 ∧ ∃ n, s.length < n + p.1 ∧ litA n (s.drop p.1) p.1 p.2 = litE s) (fun p => s.length - p.1) ((1, [])) (⟨by dsimp only; omega, by simp, s.length + 1, by dsimp only; omega, rfl⟩) (sub_mk (⟨sx rfl, ⟨sx rfl, ⟨sx rfl, trivial⟩⟩⟩) trivial (⟨rfl, trivial⟩)) ?_
  intro p hok
  dsimp only [List.cons_append, List.nil_append] at *
  obtain ⟨k, out⟩ := p
  dsimp only at hok ⊢
  obtain ⟨hk, ho, n, hn, hi⟩ := hok
  obtain ⟨n, rfl⟩ : ∃ m, n = m + 1 := ⟨n - 1, by omega⟩
  have hu := (s.getD k 0).toNat_lt
  refine awp_seq ?_
  refine awp_seq (awp_region ?_)
  refine al_pure rfl rfl rfl (pure_move rfl gU) ?_
  refine al_pure rfl rfl rfl (pure_move rfl gU) ?_
  refine al_lenS rfl rfl rfl rfl rfl gU (Tryd.underlying9) ?_ (fun hh => by simp at hh); intro hlen
  refine al_pure rfl rfl rfl (pure_cmp rfl rfl gU gU rfl) ?_
  refine al_nil ?_
  refine awp_cond rfl (fun hc => ?_) (fun hc => ?_)
  · try simp only [nn] at hc
    rw [litA_step (by omega)] at hi
    have hle := escE_le (s.drop (k + 1))
    rw [List.length_drop] at hle
    refine awp_skip ?_
    refine awp_seq ?_
    refine awp_block ?_
    refine awp_block ?_
    refine awp_seq (awp_region ?_)
    refine al_pure rfl rfl rfl (pure_move rfl gU) ?_
    refine al_pure rfl rfl rfl (pure_move rfl gU) ?_
    refine al_pure rfl rfl rfl (pure_indexSg (j := k) rfl rfl gU gU Tryd.underlying9 (by first | omega | (simp at hh ⊢; omega)) (fun hh => by first | omega | (simp at hh ⊢; omega))) ?_
    refine al_pure rfl rfl rfl (pure_cmp rfl rfl gU gU rfl) ?_
    refine al_pure rfl rfl rfl (pure_assign rfl gU) ?_
    refine al_nil ?_
    refine awp_sub (s := { t := [(0, _, _), (4, _, _), (5, _, _), (20, _, _)], bx := [], ow := [((.t 4), _)] }) (sub_mk (⟨sx rfl, ⟨sx rfl, ⟨sx rfl, ⟨sx rfl, trivial⟩⟩⟩⟩) trivial (⟨rfl, trivial⟩)) ?_
    refine awp_cond rfl (fun hc2 => ?_) (fun hc2 => ?_)
    · try simp only [nn] at hc2
      rw [if_pos (by omega)] at hi
      refine awp_seq (awp_region ?_)
      refine al_pure rfl rfl rfl (pure_move rfl gU) ?_
      refine al_pure rfl rfl rfl (pure_bytesStr (l := out) rfl (by rfl) gU Tryd.underlying35 Tryd.underlying5 Tryd.underlying9) ?_
      refine al_pure rfl rfl rfl (pure_move rfl gU) ?_
      refine al_pure rfl rfl rfl (pure_arith rfl rfl gU gU rfl (IntWalk.i64_in _ (by omega))) ?_
      refine al_pure rfl rfl rfl (pure_assign rfl gU) ?_
      refine al_pure rfl rfl rfl (pure_assign rfl gU) ?_
      refine al_nil ?_
      refine awp_ret ?_
      repeat (first | refine tR ?_ | refine bR ?_)
      refine ret_ok rfl ?_ trivial
      (rw [← hi]; rfl)
    · try simp only [nn] at hc2
      rw [if_neg (by omega)] at hi
      refine awp_seq (awp_region ?_)
      refine al_pure rfl rfl rfl (pure_move rfl gU) ?_
      refine al_pure rfl rfl rfl (pure_move rfl gU) ?_
      refine al_pure rfl rfl rfl (pure_indexSg (j := k) rfl rfl gU gU Tryd.underlying9 (by first | omega | (simp at hh ⊢; omega)) (fun hh => by first | omega | (simp at hh ⊢; omega))) ?_
      refine al_pure rfl rfl rfl (pure_cmp rfl rfl gU gU rfl) ?_
      refine al_pure rfl rfl rfl (pure_assign rfl gU) ?_
      refine al_nil ?_
      refine awp_sub (s := { t := [(0, _, _), (4, _, _), (5, _, _), (29, _, _)], bx := [], ow := [((.t 4), _)] }) (sub_mk (⟨sx rfl, ⟨sx rfl, ⟨sx rfl, ⟨sx rfl, trivial⟩⟩⟩⟩) trivial (⟨rfl, trivial⟩)) ?_
      refine awp_cond rfl (fun hc3 => ?_) (fun hc3 => ?_)
      · try simp only [nn] at hc3
        rw [if_pos (by omega)] at hi
        refine awp_seq (awp_region ?_)
        refine al_pure rfl rfl rfl (pure_move rfl gU) ?_
        refine al_pure rfl rfl rfl (pure_move rfl gU) ?_
        refine al_pure rfl rfl rfl (pure_arith rfl rfl gU gU rfl (IntWalk.i64_in _ (by omega))) ?_
        refine al_pure rfl rfl rfl (pure_sliceS (l := (k + 1)) rfl gU Tryd.underlying9 (fun _ => ⟨_, _, _, rfl, gU, by first | omega | (simp at hh ⊢; omega)⟩) (fun _ => rfl) (fun hh => by first | omega | (simp at hh ⊢; omega)) (fun hh => by first | omega | (simp at hh ⊢; omega))) ?_
        refine al_call rfl rfl rfl rfl rfl rfl gU gU (escape_at s (k + 1) (by omega)) rfl ?_
        refine al_pure rfl rfl rfl (pure_move rfl gU) ?_
        refine al_pure rfl rfl rfl (pure_extract rfl gU rfl) ?_
        refine al_pure rfl rfl rfl (pure_extract rfl gU rfl) ?_
        refine al_pure rfl rfl rfl (pure_assign rfl gU) ?_
        refine al_pure rfl rfl rfl (pure_assign rfl gU) ?_
        refine al_nil ?_
        refine awp_sub (s := { t := [(0, _, _), (4, _, _), (5, _, _), (6, _, _), (7, _, _)], bx := [], ow := [((.t 4), _)] }) (sub_mk (⟨sx rfl, ⟨sx rfl, ⟨sx rfl, ⟨sx rfl, ⟨sx rfl, trivial⟩⟩⟩⟩⟩) trivial (⟨rfl, trivial⟩)) ?_
        refine awp_seq ?_
        refine awp_seq (awp_region ?_)
        refine al_pure rfl rfl rfl (pure_move rfl gU) ?_
        refine al_pure rfl rfl rfl (pure_cmp rfl rfl gU gU rfl) ?_
        refine al_nil ?_
        refine awp_cond rfl (fun hc4 => ?_) (fun hc4 => ?_)
        · try simp only [nn] at hc4
          rw [if_pos (by omega)] at hi
          refine awp_seq (awp_region ?_)
          refine al_pure rfl rfl rfl (pure_assign rfl gU) ?_
          refine al_pure rfl rfl rfl (pure_assign rfl gU) ?_
          refine al_nil ?_
          refine awp_ret ?_
          repeat (first | refine tR ?_ | refine bR ?_)
          refine ret_ok rfl ?_ trivial
          (rw [← hi]; rfl)
        · try simp only [nn] at hc4
          rw [if_neg (by omega)] at hi
          refine awp_skip ?_
          refine awp_seq (awp_region ?_)
          refine al_do rfl (does_take (.inl rfl) rfl rfl rfl) ?_
          refine al_pure rfl rfl rfl (pure_move rfl gU) ?_
          refine al_buildSlice (xs := [_]) rfl rfl rfl rfl rfl rfl rfl rfl rfl gU rfl ?_
          refine al_do rfl (does_append rfl rfl rfl rfl rfl rfl rfl (by first | omega | (simp only [List.length_append, List.length_singleton, bytesR_len, strR_len]; omega)) (by first | omega | (simp only [List.length_append, List.length_singleton, bytesR_len, strR_len]; omega))) ?_
          refine al_do rfl (does_take (.inr rfl) rfl rfl rfl) ?_
          refine al_nil ?_
          refine awp_sub (s := { t := [(0, _, _), (4, _, _), (5, _, _), (7, _, _)], bx := [], ow := [((.t 4), _)] }) (sub_mk (⟨sx rfl, ⟨sx rfl, ⟨sx rfl, ⟨sx rfl, trivial⟩⟩⟩⟩) trivial (⟨rfl, trivial⟩)) ?_
          refine awp_region ?_
          refine al_pure rfl rfl rfl (pure_move rfl gU) ?_
          refine al_pure rfl rfl rfl (pure_move rfl gU) ?_
          refine al_pure rfl rfl rfl (pure_arith rfl rfl gU gU rfl (IntWalk.i64_in _ (by omega))) ?_
          refine al_pure rfl rfl rfl (pure_assign rfl gU) ?_
          refine al_nil ?_
          refine awp_region ?_
          refine al_pure rfl rfl rfl (pure_move rfl gU) ?_
          refine al_pure rfl rfl rfl (pure_arith rfl rfl gU gU rfl (IntWalk.i64_in _ (by omega))) ?_
          refine al_pure rfl rfl rfl (pure_assign rfl gU) ?_
          refine al_nil ?_
          refine ⟨(k + 1 + (escE (s.drop (k + 1))).2, out ++ [(escE (s.drop (k + 1))).1]), ?_, ?_, sub_mk (⟨⟨_, rfl, ?_⟩, ⟨⟨_, rfl, ?_⟩, ⟨sx rfl, trivial⟩⟩⟩) trivial (⟨rfl, trivial⟩)⟩
          all_goals (first | rfl | omega | exact tx (xbs_snoc out (escE (s.drop (k + 1))).1 _ rfl) | exact tx (xi_eq (by omega)) | (refine ⟨?_, ?_, n, ?_, hi⟩ <;> (simp only [List.length_append, List.length_singleton]; omega)))
      · try simp only [nn] at hc3
        rw [if_neg (by omega)] at hi
        refine awp_seq (awp_region ?_)
        refine al_pure rfl rfl rfl (pure_move rfl gU) ?_
        refine al_pure rfl rfl rfl (pure_move rfl gU) ?_
        refine al_pure rfl rfl rfl (pure_indexSg (j := k) rfl rfl gU gU Tryd.underlying9 (by first | omega | (simp at hh ⊢; omega)) (fun hh => by first | omega | (simp at hh ⊢; omega))) ?_
        refine al_pure rfl rfl rfl (pure_cmp rfl rfl gU gU rfl) ?_
        refine al_pure rfl rfl rfl (pure_move rfl gU) ?_
        refine al_pure rfl rfl rfl (pure_move rfl gU) ?_
        refine al_pure rfl rfl rfl (pure_move rfl gU) ?_
        refine al_pure rfl rfl rfl (pure_indexSg (j := k) rfl rfl (fun hh => hh) (fun hh => hh) Tryd.underlying9 (by first | omega | (simp at hh ⊢; omega)) (fun hh => by first | omega | (simp at hh ⊢; omega))) ?_
        refine al_pure rfl rfl rfl (pure_cmp rfl rfl (fun hh => hh) gU rfl) ?_
        refine al_pure rfl rfl rfl (pure_or rfl rfl gU (fun _ hi => gP rfl hi)) ?_
        refine al_pure rfl rfl rfl (pure_assign rfl gU) ?_
        refine al_nil ?_
        refine awp_sub (s := { t := [(0, _, _), (4, _, _), (5, _, _), (51, _, _)], bx := [], ow := [((.t 4), _)] }) (sub_mk (⟨sx rfl, ⟨sx rfl, ⟨sx rfl, ⟨sx rfl, trivial⟩⟩⟩⟩) trivial (⟨rfl, trivial⟩)) ?_
        refine awp_cond rfl (fun hc4 => ?_) (fun hc4 => ?_)
        · try simp only [nn] at hc4
          rw [if_pos (by omega)] at hi
          refine awp_seq (awp_region ?_)
          refine al_pure rfl rfl rfl (pure_assign rfl gU) ?_
          refine al_pure rfl rfl rfl (pure_assign rfl gU) ?_
          refine al_nil ?_
          refine awp_ret ?_
          repeat (first | refine tR ?_ | refine bR ?_)
          refine ret_ok rfl ?_ trivial
          (rw [← hi]; rfl)
        · try simp only [nn] at hc4
          rw [if_neg (by omega)] at hi
          refine awp_region ?_
          refine al_do rfl (does_take (.inl rfl) rfl rfl rfl) ?_
          refine al_pure rfl rfl rfl (pure_move rfl gU) ?_
          refine al_pure rfl rfl rfl (pure_move rfl gU) ?_
          refine al_pure rfl rfl rfl (pure_indexSg (j := k) rfl rfl gU gU Tryd.underlying9 (by first | omega | (simp at hh ⊢; omega)) (fun hh => by first | omega | (simp at hh ⊢; omega))) ?_
          refine al_buildSlice (xs := [_]) rfl rfl rfl rfl rfl rfl rfl rfl rfl gU rfl ?_
          refine al_do rfl (does_append rfl rfl rfl rfl rfl rfl rfl (by first | omega | (simp only [List.length_append, List.length_singleton, bytesR_len, strR_len]; omega)) (by first | omega | (simp only [List.length_append, List.length_singleton, bytesR_len, strR_len]; omega))) ?_
          refine al_do rfl (does_take (.inr rfl) rfl rfl rfl) ?_
          refine al_nil ?_
          refine awp_sub (s := { t := [(0, _, _), (4, _, _), (5, _, _)], bx := [], ow := [((.t 4), _)] }) (sub_mk (⟨sx rfl, ⟨sx rfl, ⟨sx rfl, trivial⟩⟩⟩) trivial (⟨rfl, trivial⟩)) ?_
          refine awp_region ?_
          refine al_pure rfl rfl rfl (pure_move rfl gU) ?_
          refine al_pure rfl rfl rfl (pure_arith rfl rfl gU gU rfl (IntWalk.i64_in _ (by omega))) ?_
          refine al_pure rfl rfl rfl (pure_assign rfl gU) ?_
          refine al_nil ?_
          refine ⟨(k + 1, out ++ [s.getD k 0]), ?_, ?_, sub_mk (⟨⟨_, rfl, ?_⟩, ⟨⟨_, rfl, ?_⟩, ⟨sx rfl, trivial⟩⟩⟩) trivial (⟨rfl, trivial⟩)⟩
          all_goals (first | rfl | omega | exact tx (xbs_snoc out (s.getD k 0) _ rfl) | (refine ⟨?_, ?_, n, ?_, hi⟩ <;> (simp only [List.length_append, List.length_singleton]; omega)))
  · try simp only [nn] at hc
    rw [litA_nil (List.drop_of_length_le (by omega))] at hi
    refine awp_exit ?_
    repeat (first | refine thenS_exit ?_ | refine blockS_hit ?_ | refine blockS_miss rfl ?_)
    refine awp_seq (awp_region ?_)
    refine al_pure rfl rfl rfl (pure_assign rfl gU) ?_
    refine al_pure rfl rfl rfl (pure_assign rfl gU) ?_
    refine al_nil ?_
    refine awp_ret ?_
    repeat (first | refine tR ?_ | refine bR ?_)
    refine ret_ok rfl ?_ trivial
    (rw [← hi]; rfl)
end Go.Proofs.YtiiboiomiacibaaDoor
/- Contracts: the tokens of a text, as the reference reads them. -/
set_option linter.unusedVariables false
set_option linter.unusedSimpArgs false
namespace Go.Proofs.YtiiboiomiacibaaDoor
open Go Go.Abs
abbrev xnum (s : List UInt8) (r : Bool × Nat × Int) : X := .tup [.c (.s (s.take r.2.1)), .c (.i .i64 r.2.2), .c (.b r.1)]
theorem number_spec (s : List UInt8) (hs : s.length ≤ 1000000) : Ctr sys 56 [xs s] [] (xnum s (numA s 0 0)) none [] := by
  refine spec_intro Tryd.func56 rfl rfl rfl rfl rfl rfl ?_
  refine awp_seq (awp_region ?_)
  refine al_pure rfl rfl rfl (pure_assign rfl gU) ?_
  refine al_pure rfl rfl rfl (pure_assign rfl gU) ?_
  refine al_pure rfl rfl rfl (pure_assign rfl gU) ?_
  refine al_nil ?_
  refine awp_seq (awp_region ?_)
  refine al_pure rfl rfl rfl (pure_assign rfl gU) ?_
  refine al_pure rfl rfl rfl (pure_assign rfl gU) ?_
  refine al_nil ?_
  refine awp_sub (s := { t := [(0, _, _), (5, _, _), (6, _, _)], bx := [], ow := [] }) (sub_mk (⟨sx rfl, ⟨sx rfl, ⟨sx rfl, trivial⟩⟩⟩) trivial trivial) ?_
  refine awp_seq ?_
  refine awp_block ?_
  refine awp_for (ι := Nat × Int) { t := [(0, _, _)], bx := [], ow := [] } (fun p => [(5, true, xi (p.1 : Int)), (6, true, xi p.2)]) (fun p => []) (fun p => p.1 ≤ s.length ∧ 0 ≤ p.2 ∧ p.2 ≤ 9223372036854775807 ∧ numA (s.drop p.1) p.1 p.2 = numA s 0 0) (fun p => s.length - p.1) ((0, 0)) (⟨by simp, by simp, by simp, rfl⟩) (sub_mk (⟨sx rfl, ⟨sx rfl, ⟨sx rfl, trivial⟩⟩⟩) trivial trivial) ?_
  intro p hok
  dsimp only [List.cons_append, List.nil_append] at *
  obtain ⟨k, v⟩ := p
  dsimp only at hok ⊢
  obtain ⟨hk, hv0, hv1, hi⟩ := hok
  refine awp_seq ?_
  refine awp_seq (awp_region ?_)
  refine al_pure rfl rfl rfl (pure_move rfl gU) ?_
  refine al_pure rfl rfl rfl (pure_move rfl gU) ?_
  refine al_lenS rfl rfl rfl rfl rfl gU (Tryd.underlying9) ?_ (fun hh => by simp at hh); intro hlen
  refine al_pure rfl rfl rfl (pure_cmp rfl rfl gU gU rfl) ?_
  refine al_pure rfl rfl rfl (pure_move rfl gU) ?_
  refine al_pure rfl rfl rfl (pure_move rfl gU) ?_
  refine al_pure rfl rfl rfl (pure_move rfl gU) ?_
  refine al_pure rfl rfl rfl (pure_indexSg (j := k) rfl rfl (fun hh => hh) (fun hh => hh) Tryd.underlying9 (by first | omega | (simp at hh ⊢; omega)) (fun hh => by first | omega | (simp at hh ⊢; omega))) ?_
  refine al_call rfl rfl rfl rfl rfl rfl gU (fun hh => gA ((fun hh => hh) hh) (rfl)) (class_spec _ _ rfl) rfl ?_
  refine al_pure rfl rfl rfl (pure_cmp rfl rfl (fun hh => hh) gU rfl) ?_
  refine al_pure rfl rfl rfl (pure_and rfl rfl gU (fun _ hi => gP rfl hi)) ?_
  refine al_nil ?_
  refine awp_sub (s := { t := [(0, _, _), (5, _, _), (6, _, _), (18, _, _)], bx := [], ow := [] }) (sub_mk (⟨sx rfl, ⟨sx rfl, ⟨sx rfl, ⟨sx rfl, trivial⟩⟩⟩⟩) trivial trivial) ?_
  refine awp_cond rfl (fun hc => ?_) (fun hc => ?_)
  · try simp only [nn, strR_len, Tk.rows_len] at hc
    have hd := (cls_ne (s.getD k 0)).2.1.1 hc.2
    have hd2 := digitB_le hd
    rw [drop_get0 (by omega), numA, if_pos hd] at hi
    refine awp_skip ?_
    refine awp_block ?_
    refine awp_seq (awp_region ?_)
    refine al_pure rfl rfl rfl (pure_move rfl gU) ?_
    refine al_pure rfl rfl rfl (pure_move rfl gU) ?_
    refine al_pure rfl rfl rfl (pure_indexSg (j := k) rfl rfl gU gU Tryd.underlying9 (by first | omega | (simp at hh ⊢; omega)) (fun hh => by first | omega | (simp at hh ⊢; omega))) ?_
    refine al_pure rfl rfl rfl (pure_arith rfl rfl gU gU rfl (IntWalk.u8_in _ (by omega))) ?_
    refine al_pure rfl rfl rfl (pure_convInt rfl gU ⟨_, Tryd.underlying5⟩ (Tryd.underlying2) (IntWalk.i64_in _ (by omega))) ?_
    refine al_pure rfl rfl rfl (pure_assign rfl gU) ?_
    refine al_nil ?_
    refine awp_sub (s := { t := [(0, _, _), (5, _, _), (6, _, _), (7, _, _)], bx := [], ow := [] }) (sub_mk (⟨sx rfl, ⟨sx rfl, ⟨sx rfl, ⟨sx rfl, trivial⟩⟩⟩⟩) trivial trivial) ?_
    refine awp_seq ?_
    refine awp_seq (awp_region ?_)
    refine al_pure rfl rfl rfl (pure_move rfl gU) ?_
    refine al_pure rfl rfl rfl (pure_move rfl gU) ?_
    refine al_pure rfl rfl rfl (pure_arith rfl rfl gU gU rfl (IntWalk.i64_in _ (by omega))) ?_
    refine al_pure rfl rfl rfl (pure_quoG rfl rfl gU gU (fun hh => by first | omega | (simp at hh ⊢; omega)) (fun hh => (congrArg IntKind.i64.wrap (Int.tdiv_eq_ediv_of_nonneg (by first | omega | (simp at hh ⊢; omega)))).trans (IntWalk.i64_in _ (by omega)))) ?_
    refine al_pure rfl rfl rfl (pure_cmp rfl rfl gU gU rfl) ?_
    refine al_nil ?_
    refine awp_sub (s := { t := [(0, _, _), (5, _, _), (6, _, _), (7, _, _), (28, _, _)], bx := [], ow := [] }) (sub_mk (⟨sx rfl, ⟨sx rfl, ⟨sx rfl, ⟨sx rfl, ⟨sx rfl, trivial⟩⟩⟩⟩⟩) trivial trivial) ?_
    refine awp_cond rfl (fun hc2 => ?_) (fun hc2 => ?_)
    · try simp only [nn, strR_len, Tk.rows_len] at hc2
      rw [if_pos (by omega)] at hi
      refine awp_seq (awp_region ?_)
      refine al_pure rfl rfl rfl (pure_assign rfl gU) ?_
      refine al_pure rfl rfl rfl (pure_assign rfl gU) ?_
      refine al_pure rfl rfl rfl (pure_assign rfl gU) ?_
      refine al_nil ?_
      refine awp_ret ?_
      repeat (first | refine tR ?_ | refine bR ?_)
      refine ret_ok rfl ?_ trivial
      (rw [← hi]; rfl)
    · try simp only [nn, strR_len, Tk.rows_len] at hc2
      rw [if_neg (by omega)] at hi
      refine awp_skip ?_
      refine awp_seq (awp_region ?_)
      refine al_pure rfl rfl rfl (pure_move rfl gU) ?_
      refine al_pure rfl rfl rfl (pure_arith rfl rfl gU gU rfl (IntWalk.i64_in _ (by omega))) ?_
      refine al_pure rfl rfl rfl (pure_move rfl gU) ?_
      refine al_pure rfl rfl rfl (pure_arith rfl rfl gU gU rfl (IntWalk.i64_in _ (by omega))) ?_
      refine al_pure rfl rfl rfl (pure_assign rfl gU) ?_
      refine al_nil ?_
      refine awp_sub (s := { t := [(0, _, _), (5, _, _), (6, _, _)], bx := [], ow := [] }) (sub_mk (⟨sx rfl, ⟨sx rfl, ⟨sx rfl, trivial⟩⟩⟩) trivial trivial) ?_
      refine awp_region ?_
      refine al_pure rfl rfl rfl (pure_move rfl gU) ?_
      refine al_pure rfl rfl rfl (pure_arith rfl rfl gU gU rfl (IntWalk.i64_in _ (by omega))) ?_
      refine al_pure rfl rfl rfl (pure_assign rfl gU) ?_
      refine al_nil ?_
      refine ⟨(k + 1, 10 * v + (((s.getD k 0).toNat : Int) - 48)), ?_, ?_, sub_mk (⟨⟨_, rfl, ?_⟩, ⟨⟨_, rfl, ?_⟩, ⟨sx rfl, trivial⟩⟩⟩) trivial trivial⟩
      all_goals (first | rfl | omega | exact ⟨by omega, by omega, by omega, hi⟩)
  · try simp only [nn, strR_len, Tk.rows_len] at hc
    have hn : numA (s.drop k) k v = (true, k, v) := by
      by_cases hlt : k < s.length
      · rw [drop_get0 hlt, numA, if_neg]
        intro q
        have := (cls_ne (s.getD k 0)).2.1.2 q
        omega
      · rw [List.drop_of_length_le (by omega)]; rfl
    rw [hn] at hi
    refine awp_exit ?_
    repeat (first | refine thenS_exit ?_ | refine blockS_hit ?_ | refine blockS_miss rfl ?_)
    refine awp_seq (awp_region ?_)
    refine al_pure rfl rfl rfl (pure_move rfl gU) ?_
    refine al_pure rfl rfl rfl (pure_move rfl gU) ?_
    refine al_pure rfl rfl rfl (pure_sliceS (h' := k) rfl gU Tryd.underlying9 (fun _ => rfl) (fun _ => ⟨_, _, _, rfl, gU, by first | omega | (simp at hh ⊢; omega)⟩) (fun hh => by first | omega | (simp at hh ⊢; omega)) (fun hh => by first | omega | (simp at hh ⊢; omega))) ?_
    refine al_pure rfl rfl rfl (pure_move rfl gU) ?_
    refine al_pure rfl rfl rfl (pure_assign rfl gU) ?_
    refine al_pure rfl rfl rfl (pure_assign rfl gU) ?_
    refine al_pure rfl rfl rfl (pure_assign rfl gU) ?_
    refine al_nil ?_
    refine awp_ret ?_
    repeat (first | refine tR ?_ | refine bR ?_)
    refine ret_ok rfl ?_ trivial
    (rw [← hi]; rfl)
theorem cls_all (c : UInt8) : (letterB (c.toNat : Int) = true → clsE c = 2) ∧ (digitB (c.toNat : Int) = true → clsE c = 3) ∧ (c.toNat = 34 → clsE c = 5) ∧ (letterB (c.toNat : Int) ≠ true → digitB (c.toNat : Int) ≠ true → c.toNat ≠ 34 → (symB c = true → clsE c = 4 ∨ clsE c = 1) ∧ (symB c ≠ true → clsE c = 0 ∨ clsE c = 1)) := by
  refine ⟨(cls_ne c).1.2, (cls_ne c).2.1.2, fun h => ?_, fun h1 h2 h3 => ⟨fun h4 => ?_, fun h4 => ?_⟩⟩
  · unfold clsE
    rw [if_neg (by simp [whiteB]; omega), if_neg (by simp [letterB]; omega), if_neg (by simp [digitB]; omega), if_pos h]
  · unfold clsE
    rw [if_neg h1, if_neg h2, if_neg h3, if_pos h4]
    split <;> simp
  · unfold clsE
    rw [if_neg h1, if_neg h2, if_neg h3, if_neg h4]
    split <;> simp
theorem nx_eq {t u : Tk} {a b e : Int} (h : t = u) (h2 : a = b) : X.tup [.agg t.cells, .c (.i .i64 a), .c (.i .i64 e)] = X.tup [.agg u.cells, .c (.i .i64 b), .c (.i .i64 e)] := by rw [h, h2]
theorem first_spec (s : List UInt8) (k ki : Int) (h : 0 < s.length) (hs : s.length ≤ 1000000) (hk : ki = k) (hw : clsE (s.getD 0 0) ≠ 1) : Ctr sys 35 [xs s, xi ki] [] (xnx (firstE s k)) none [] := by
  subst hk
  have h1 := wdN_le s
  have h2 : (s.take (wdN s)).length = wdN s := by rw [List.length_take]; omega
  have h3 := litE_le s h
  have h4 := numA_le s 0 0 (by omega)
  have h5 : (s.take (numA s 0 0).2.1).length = (numA s 0 0).2.1 := by rw [List.length_take]; omega
  obtain ⟨c1, c2, c3, c4⟩ := cls_all (s.getD 0 0)
  obtain ⟨d1, d2, -⟩ := cls_ne (s.getD 0 0)
  refine spec_intro Tryd.func35 rfl rfl rfl rfl rfl rfl ?_
  refine awp_seq (awp_region ?_)
  refine al_do rfl (does_alloc rfl rfl rfl) ?_
  refine al_pure rfl rfl rfl (pure_assign rfl gU) ?_
  refine al_pure rfl rfl rfl (pure_assign rfl gU) ?_
  refine al_nil ?_
  refine awp_seq ?_
  refine awp_seq (awp_region ?_)
  refine al_pure rfl rfl rfl (pure_move rfl gU) ?_
  refine al_pure rfl rfl rfl (pure_indexSg (j := 0) rfl rfl gU gU Tryd.underlying9 (by first | omega | (simp at hh ⊢; omega)) (fun hh => by first | omega | (simp at hh ⊢; omega))) ?_
  refine al_call rfl rfl rfl rfl rfl rfl gU gU (class_spec _ _ rfl) rfl ?_
  refine al_nil ?_
  refine awp_sub (s := { t := [(0, _, _), (1, _, _), (4, _, _), (15, _, _)], bx := [((.l 4), _)], ow := [] }) (sub_mk (⟨sx rfl, ⟨sx rfl, ⟨sx rfl, ⟨sx rfl, trivial⟩⟩⟩⟩) (⟨sx rfl, trivial⟩) trivial) ?_
  refine awp_block ?_
  refine awp_seq (awp_region ?_)
  refine al_pure rfl rfl rfl (pure_cmp rfl rfl gU gU rfl) ?_
  refine al_pure rfl rfl rfl (pure_assign rfl gU) ?_
  refine al_nil ?_
  refine awp_cond rfl (fun hc => ?_) (fun hc => ?_)
  · try simp only [nn, strR_len, Tk.rows_len] at hc
    rw [firstE, if_pos (d1.1 hc)]
    refine awp_seq (awp_region ?_)
    refine al_pure rfl rfl rfl (pure_move rfl gU) ?_
    refine al_call rfl rfl rfl rfl rfl rfl gU gU (word_spec _ (by omega)) rfl ?_
    refine al_pure rfl rfl rfl (pure_assign rfl gU) ?_
    refine al_nil ?_
    refine awp_sub (s := { t := [(1, _, _), (4, _, _), (7, _, _)], bx := [((.l 4), _)], ow := [] }) (sub_mk (⟨sx rfl, ⟨sx rfl, ⟨sx rfl, trivial⟩⟩⟩) (⟨sx rfl, trivial⟩) trivial) ?_
    refine awp_seq ?_
    refine awp_seq (awp_region ?_)
    refine al_pure rfl rfl rfl (pure_move rfl gU) ?_
    refine al_lenS rfl rfl rfl rfl rfl gU (Tryd.underlying9) ?_ (fun hh => by simp at hh); intro hlen
    refine al_pure rfl rfl rfl (pure_cmp rfl rfl gU gU rfl) ?_
    refine al_nil ?_
    refine awp_cond rfl (fun hc2 => ?_) (fun hc2 => ?_)
    · try simp only [nn, strR_len, Tk.rows_len] at hc2
      refine awp_seq (awp_region ?_)
      refine al_pure rfl rfl rfl (pure_build rfl Tryd.underlying37 rfl gU) ?_
      refine al_do rfl (does_store rfl rfl rfl rfl rfl rfl rfl) ?_
      refine al_pure rfl rfl rfl (pure_assign rfl gU) ?_
      refine al_pure rfl rfl rfl (pure_assign rfl gU) ?_
      refine al_nil ?_
      refine awp_ret ?_
      repeat (first | refine tR ?_ | refine bR ?_)
      refine ret_ok rfl ?_ trivial
      (rw [if_pos (by omega)]; rfl)
    · try simp only [nn, strR_len, Tk.rows_len] at hc2
      refine awp_skip ?_
      refine awp_seq (awp_region ?_)
      refine al_pure rfl rfl rfl (pure_move rfl gU) ?_
      refine al_pure rfl rfl rfl (pure_move rfl gU) ?_
      refine al_pure rfl rfl rfl (pure_build rfl Tryd.underlying37 rfl gU) ?_
      refine al_pure rfl rfl rfl (pure_move rfl gU) ?_
      refine al_lenS rfl rfl rfl rfl rfl gU (Tryd.underlying9) ?_ (fun hh => by simp at hh); intro hlen
      refine al_do rfl (does_store rfl rfl rfl rfl rfl rfl rfl) ?_
      refine al_pure rfl rfl rfl (pure_assign rfl gU) ?_
      refine al_pure rfl rfl rfl (pure_assign rfl gU) ?_
      refine al_nil ?_
      refine awp_ret ?_
      repeat (first | refine tR ?_ | refine bR ?_)
      refine ret_ok rfl ?_ trivial
      (rw [if_neg (by omega)]; exact nx_eq (t := ⟨1, s.take (wdN s), 0, [], ki⟩) (u := ⟨1, s.take (wdN s), 0, [], ki⟩) rfl (by dsimp only; omega))
  · try simp only [nn, strR_len, Tk.rows_len] at hc
    have e1 : ¬letterB ((s.getD 0 0).toNat : Int) = true := fun q => hc (c1 q)
    rw [firstE, if_neg e1]
    refine awp_seq (awp_region ?_)
    refine al_pure rfl rfl rfl (pure_cmp rfl rfl gU gU rfl) ?_
    refine al_pure rfl rfl rfl (pure_assign rfl gU) ?_
    refine al_nil ?_
    refine awp_cond rfl (fun hc2 => ?_) (fun hc2 => ?_)
    · try simp only [nn, strR_len, Tk.rows_len] at hc2
      rw [if_pos (d2.1 hc2)]
      refine awp_seq (awp_region ?_)
      refine al_pure rfl rfl rfl (pure_move rfl gU) ?_
      refine al_call rfl rfl rfl rfl rfl rfl gU gU (number_spec _ (by omega)) rfl ?_
      refine al_pure rfl rfl rfl (pure_move rfl gU) ?_
      refine al_pure rfl rfl rfl (pure_extract rfl gU rfl) ?_
      refine al_pure rfl rfl rfl (pure_extract rfl gU rfl) ?_
      refine al_pure rfl rfl rfl (pure_extract rfl gU rfl) ?_
      refine al_pure rfl rfl rfl (pure_assign rfl gU) ?_
      refine al_pure rfl rfl rfl (pure_assign rfl gU) ?_
      refine al_sub (s := { t := [(1, _, _), (4, _, _), (8, _, _), (9, _, _), (36, _, _)], bx := [((.l 4), _)], ow := [] }) (sub_mk (⟨sx rfl, ⟨sx rfl, ⟨sx rfl, ⟨sx rfl, ⟨sx rfl, trivial⟩⟩⟩⟩⟩) (⟨sx rfl, trivial⟩) trivial) ?_
      refine al_pure rfl rfl rfl (pure_assign rfl gU) ?_
      refine al_nil ?_
      refine awp_seq ?_
      refine awp_seq (awp_region ?_)
      refine al_pure rfl rfl rfl (pure_move rfl gU) ?_
      refine al_pure rfl rfl rfl (pure_not rfl gU) ?_
      refine al_nil ?_
      refine awp_cond rfl (fun hc3 => ?_) (fun hc3 => ?_)
      · try simp only [nn, strR_len, Tk.rows_len] at hc3
        refine awp_seq (awp_region ?_)
        refine al_pure rfl rfl rfl (pure_build rfl Tryd.underlying37 rfl gU) ?_
        refine al_do rfl (does_store rfl rfl rfl rfl rfl rfl rfl) ?_
        refine al_pure rfl rfl rfl (pure_assign rfl gU) ?_
        refine al_pure rfl rfl rfl (pure_assign rfl gU) ?_
        refine al_nil ?_
        refine awp_ret ?_
        repeat (first | refine tR ?_ | refine bR ?_)
        refine ret_ok rfl ?_ trivial
        (rw [if_neg (by rw [hc3]; exact Bool.false_ne_true)]; rfl)
      · try simp only [nn, strR_len, Tk.rows_len] at hc3
        refine awp_skip ?_
        refine awp_seq (awp_region ?_)
        refine al_pure rfl rfl rfl (pure_move rfl gU) ?_
        refine al_pure rfl rfl rfl (pure_move rfl gU) ?_
        refine al_pure rfl rfl rfl (pure_build rfl Tryd.underlying37 rfl gU) ?_
        refine al_pure rfl rfl rfl (pure_move rfl gU) ?_
        refine al_lenS rfl rfl rfl rfl rfl gU (Tryd.underlying9) ?_ (fun hh => by simp at hh); intro hlen
        refine al_do rfl (does_store rfl rfl rfl rfl rfl rfl rfl) ?_
        refine al_pure rfl rfl rfl (pure_assign rfl gU) ?_
        refine al_pure rfl rfl rfl (pure_assign rfl gU) ?_
        refine al_nil ?_
        refine awp_ret ?_
        repeat (first | refine tR ?_ | refine bR ?_)
        refine ret_ok rfl ?_ trivial
        (rw [if_pos hc3]; exact nx_eq (t := ⟨2, [], (numA s 0 0).2.2, [], ki⟩) (u := ⟨2, [], (numA s 0 0).2.2, [], ki⟩) rfl (by dsimp only; omega))
    · try simp only [nn, strR_len, Tk.rows_len] at hc2
      have e2 : ¬digitB ((s.getD 0 0).toNat : Int) = true := fun q => hc2 (c2 q)
      rw [if_neg e2]
      refine awp_seq (awp_region ?_)
      refine al_pure rfl rfl rfl (pure_cmp rfl rfl gU gU rfl) ?_
      refine al_pure rfl rfl rfl (pure_assign rfl gU) ?_
      refine al_nil ?_
      refine awp_sub (s := { t := [(0, _, _), (1, _, _), (4, _, _), (15, _, _), (45, _, _)], bx := [((.l 4), _)], ow := [] }) (sub_mk (⟨sx rfl, ⟨sx rfl, ⟨sx rfl, ⟨sx rfl, ⟨sx rfl, trivial⟩⟩⟩⟩⟩) (⟨sx rfl, trivial⟩) trivial) ?_
      refine awp_cond rfl (fun hc3 => ?_) (fun hc3 => ?_)
      · try simp only [nn, strR_len, Tk.rows_len] at hc3
        have e3 : (s.getD 0 0).toNat = 34 := by
          by_cases q : (s.getD 0 0).toNat = 34
          · exact q
          · have := c4 e1 e2 q
            by_cases q2 : symB (s.getD 0 0) = true
            · have := this.1 q2; omega
            · have := this.2 q2; omega
        rw [if_pos e3]
        refine awp_seq (awp_region ?_)
        refine al_pure rfl rfl rfl (pure_move rfl gU) ?_
        refine al_call rfl rfl rfl rfl rfl rfl gU gU (rlit_spec _ (by omega) (by omega)) rfl ?_
        refine al_pure rfl rfl rfl (pure_move rfl gU) ?_
        refine al_pure rfl rfl rfl (pure_extract rfl gU rfl) ?_
        refine al_pure rfl rfl rfl (pure_extract rfl gU rfl) ?_
        refine al_pure rfl rfl rfl (pure_assign rfl gU) ?_
        refine al_pure rfl rfl rfl (pure_assign rfl gU) ?_
        refine al_nil ?_
        refine awp_sub (s := { t := [(1, _, _), (4, _, _), (11, _, _), (12, _, _)], bx := [((.l 4), _)], ow := [] }) (sub_mk (⟨sx rfl, ⟨sx rfl, ⟨sx rfl, ⟨sx rfl, trivial⟩⟩⟩⟩) (⟨sx rfl, trivial⟩) trivial) ?_
        refine awp_seq (awp_region ?_)
        refine al_pure rfl rfl rfl (pure_move rfl gU) ?_
        refine al_pure rfl rfl rfl (pure_cmp rfl rfl gU gU rfl) ?_
        refine al_nil ?_
        refine awp_cond rfl (fun hc4 => ?_) (fun hc4 => ?_)
        · try simp only [nn, strR_len, Tk.rows_len] at hc4
          refine awp_seq (awp_region ?_)
          refine al_pure rfl rfl rfl (pure_move rfl gU) ?_
          refine al_pure rfl rfl rfl (pure_move rfl gU) ?_
          refine al_pure rfl rfl rfl (pure_build rfl Tryd.underlying37 rfl gU) ?_
          refine al_pure rfl rfl rfl (pure_move rfl gU) ?_
          refine al_do rfl (does_store rfl rfl rfl rfl rfl rfl rfl) ?_
          refine al_pure rfl rfl rfl (pure_assign rfl gU) ?_
          refine al_pure rfl rfl rfl (pure_assign rfl gU) ?_
          refine al_nil ?_
          refine awp_ret ?_
          repeat (first | refine tR ?_ | refine bR ?_)
          refine ret_ok rfl ?_ trivial
          (rw [if_neg (by omega)]; rfl)
        · try simp only [nn, strR_len, Tk.rows_len] at hc4
          refine awp_skip ?_
          refine awp_seq (awp_region ?_)
          refine al_pure rfl rfl rfl (pure_build rfl Tryd.underlying37 rfl gU) ?_
          refine al_do rfl (does_store rfl rfl rfl rfl rfl rfl rfl) ?_
          refine al_pure rfl rfl rfl (pure_assign rfl gU) ?_
          refine al_pure rfl rfl rfl (pure_assign rfl gU) ?_
          refine al_nil ?_
          refine awp_ret ?_
          repeat (first | refine tR ?_ | refine bR ?_)
          refine ret_ok rfl ?_ trivial
          (rw [if_pos (by omega)]; rfl)
      · try simp only [nn, strR_len, Tk.rows_len] at hc3
        have e3 : ¬(s.getD 0 0).toNat = 34 := fun q => hc3 (c3 q)
        rw [if_neg e3]
        refine awp_seq (awp_region ?_)
        refine al_pure rfl rfl rfl (pure_cmp rfl rfl gU gU rfl) ?_
        refine al_pure rfl rfl rfl (pure_assign rfl gU) ?_
        refine al_nil ?_
        refine awp_cond rfl (fun hc4 => ?_) (fun hc4 => ?_)
        · try simp only [nn, strR_len, Tk.rows_len] at hc4
          have e4 : symB (s.getD 0 0) = true := by
            by_cases q2 : symB (s.getD 0 0) = true
            · exact q2
            · have := (c4 e1 e2 e3).2 q2; omega
          refine awp_seq (awp_region ?_)
          refine al_pure rfl rfl rfl (pure_move rfl gU) ?_
          refine al_pure rfl rfl rfl (pure_sliceS (h' := 1) rfl gU Tryd.underlying9 (fun _ => rfl) (fun _ => ⟨_, _, _, rfl, gU, by first | omega | (simp at hh ⊢; omega)⟩) (fun hh => by first | omega | (simp at hh ⊢; omega)) (fun hh => by first | omega | (simp at hh ⊢; omega))) ?_
          refine al_pure rfl rfl rfl (pure_move rfl gU) ?_
          refine al_pure rfl rfl rfl (pure_build rfl Tryd.underlying37 rfl gU) ?_
          refine al_do rfl (does_store rfl rfl rfl rfl rfl rfl rfl) ?_
          refine al_pure rfl rfl rfl (pure_assign rfl gU) ?_
          refine al_pure rfl rfl rfl (pure_assign rfl gU) ?_
          refine al_nil ?_
          refine awp_ret ?_
          repeat (first | refine tR ?_ | refine bR ?_)
          refine ret_ok rfl ?_ trivial
          (rw [if_pos e4]; rfl)
        · try simp only [nn, strR_len, Tk.rows_len] at hc4
          have e4 : ¬symB (s.getD 0 0) = true := by
            intro q2
            have := (c4 e1 e2 e3).1 q2
            omega
          refine awp_skip ?_
          refine awp_seq (awp_region ?_)
          refine al_pure rfl rfl rfl (pure_build rfl Tryd.underlying37 rfl gU) ?_
          refine al_do rfl (does_store rfl rfl rfl rfl rfl rfl rfl) ?_
          refine al_pure rfl rfl rfl (pure_assign rfl gU) ?_
          refine al_pure rfl rfl rfl (pure_assign rfl gU) ?_
          refine al_nil ?_
          refine awp_ret ?_
          repeat (first | refine tR ?_ | refine bR ?_)
          refine ret_ok rfl ?_ trivial
          (rw [if_neg e4]; rfl)
theorem rlines_spec (s : List UInt8) (hs : s.length ≤ 1000000) : Ctr sys 19 [xs s] [] (xss (lnsR s)) none [] := by
  refine spec_intro Tryd.func19 rfl rfl rfl rfl rfl rfl ?_
  refine awp_seq (awp_region ?_)
  refine al_do rfl (does_nil (.inr rfl) rfl rfl) ?_
  refine al_nil ?_
  refine awp_seq (awp_region ?_)
  refine al_do rfl (does_nil (.inr rfl) rfl rfl) ?_
  refine al_nil ?_
  refine awp_seq (awp_region ?_)
  refine al_pure rfl rfl rfl (pure_assign rfl gU) ?_
  refine al_nil ?_
  refine awp_seq ?_
  refine awp_seq (awp_region ?_)
  refine al_pure rfl rfl rfl (pure_assign rfl gU) ?_
  refine al_nil ?_
  refine awp_block ?_
  refine awp_for (ι := Nat × List UInt8 × List (List UInt8)) { t := [(0, _, _)], bx := [], ow := [((.t 3), _)] } (fun p => [(5, true, xi (p.1 : Int)), (4, true, xs p.2.1), (3, true, xss p.2.2)]) (fun p => []) (fun p => p.1 ≤ s.length ∧ p.2.1.length ≤ p.1 ∧ p.2.2.length ≤ p.1 ∧ lnsA (s.drop p.1) p.2.1 p.2.2 = lnsR s) (fun p => s.length - p.1) ((0, [], [])) (⟨by simp, by simp, by simp, rfl⟩) (sub_mk (⟨sx rfl, ⟨sx rfl, ⟨sx rfl, ⟨sx rfl, trivial⟩⟩⟩⟩) trivial (⟨rfl, trivial⟩)) ?_
  intro p hok
  dsimp only [List.cons_append, List.nil_append] at *
  obtain ⟨k, line, out⟩ := p
  dsimp only at hok ⊢
  obtain ⟨hk, hl, ho, hi⟩ := hok
  refine awp_seq ?_
  refine awp_seq (awp_region ?_)
  refine al_pure rfl rfl rfl (pure_move rfl gU) ?_
  refine al_pure rfl rfl rfl (pure_move rfl gU) ?_
  refine al_lenS rfl rfl rfl rfl rfl gU (Tryd.underlying9) ?_ (fun hh => by simp at hh); intro hlen
  refine al_pure rfl rfl rfl (pure_cmp rfl rfl gU gU rfl) ?_
  refine al_nil ?_
  refine awp_cond rfl (fun hc => ?_) (fun hc => ?_)
  · try simp only [nn, strR_len, Tk.rows_len] at hc
    rw [drop_get0 (by omega), lnsA] at hi
    refine awp_skip ?_
    refine awp_seq ?_
    refine awp_block ?_
    refine awp_seq ?_
    refine awp_seq (awp_region ?_)
    refine al_pure rfl rfl rfl (pure_move rfl gU) ?_
    refine al_pure rfl rfl rfl (pure_move rfl gU) ?_
    refine al_pure rfl rfl rfl (pure_indexSg (j := k) rfl rfl gU gU Tryd.underlying9 (by first | omega | (simp at hh ⊢; omega)) (fun hh => by first | omega | (simp at hh ⊢; omega))) ?_
    refine al_pure rfl rfl rfl (pure_cmp rfl rfl gU gU rfl) ?_
    refine al_nil ?_
    refine awp_sub (s := { t := [(0, _, _), (3, _, _), (4, _, _), (5, _, _), (15, _, _)], bx := [], ow := [((.t 3), _)] }) (sub_mk (⟨sx rfl, ⟨sx rfl, ⟨sx rfl, ⟨sx rfl, ⟨sx rfl, trivial⟩⟩⟩⟩⟩) trivial (⟨rfl, trivial⟩)) ?_
    refine awp_cond rfl (fun hc2 => ?_) (fun hc2 => ?_)
    · try simp only [nn, strR_len, Tk.rows_len] at hc2
      rw [if_pos (by omega)] at hi
      refine awp_seq (awp_region ?_)
      refine al_do rfl (does_take (.inl rfl) rfl rfl rfl) ?_
      refine al_pure rfl rfl rfl (pure_move rfl gU) ?_
      refine al_buildSlice (xs := [_]) rfl rfl rfl rfl rfl rfl rfl rfl rfl gU rfl ?_
      refine al_do rfl (does_append rfl rfl rfl rfl rfl rfl rfl (by first | omega | (simp only [List.length_append, List.length_singleton, Tk.rows_len, strR_len]; omega)) (by first | omega | (simp only [List.length_append, List.length_singleton, Tk.rows_len, strR_len]; omega))) ?_
      refine al_do rfl (does_take (.inr rfl) rfl rfl rfl) ?_
      refine al_nil ?_
      refine awp_sub (s := { t := [(0, _, _), (3, _, _), (5, _, _)], bx := [], ow := [((.t 3), _)] }) (sub_mk (⟨sx rfl, ⟨sx rfl, ⟨sx rfl, trivial⟩⟩⟩) trivial (⟨rfl, trivial⟩)) ?_
      refine awp_seq (awp_region ?_)
      refine al_pure rfl rfl rfl (pure_assign rfl gU) ?_
      refine al_nil ?_
      refine awp_exit ?_
      repeat (first | refine thenS_exit ?_ | refine blockS_hit ?_ | refine blockS_miss rfl ?_)
      refine awp_region ?_
      refine al_pure rfl rfl rfl (pure_move rfl gU) ?_
      refine al_pure rfl rfl rfl (pure_arith rfl rfl gU gU rfl (IntWalk.i64_in _ (by omega))) ?_
      refine al_pure rfl rfl rfl (pure_assign rfl gU) ?_
      refine al_nil ?_
      refine ⟨(k + 1, [], out ++ [line]), ?_, ?_, sub_mk (⟨⟨_, rfl, ?_⟩, ⟨⟨_, rfl, ?_⟩, ⟨⟨_, rfl, ?_⟩, ⟨sx rfl, trivial⟩⟩⟩⟩) trivial (⟨rfl, trivial⟩)⟩
      all_goals (first | rfl | omega | exact tx (xss_snoc out line) | (refine ⟨?_, ?_, ?_, hi⟩ <;> (simp <;> omega)))
    · try simp only [nn, strR_len, Tk.rows_len] at hc2
      rw [if_neg (by omega)] at hi
      have e1 : (s.take (k + 1)).drop k = [s.getD k 0] := by
        rw [drop_get0 (by simp; omega), List.drop_of_length_le (by simp; omega), getD_take _ _ (by omega)]
      refine awp_skip ?_
      refine awp_region ?_
      refine al_pure rfl rfl rfl (pure_move rfl gU) ?_
      refine al_pure rfl rfl rfl (pure_move rfl gU) ?_
      refine al_pure rfl rfl rfl (pure_move rfl gU) ?_
      refine al_pure rfl rfl rfl (pure_move rfl gU) ?_
      refine al_pure rfl rfl rfl (pure_arith rfl rfl gU gU rfl (IntWalk.i64_in _ (by omega))) ?_
      refine al_pure rfl rfl rfl (pure_sliceS (l := k) (h' := (k + 1)) rfl gU Tryd.underlying9 (fun _ => ⟨_, _, _, rfl, gU, by first | omega | (simp at hh ⊢; omega)⟩) (fun _ => ⟨_, _, _, rfl, gU, by first | omega | (simp at hh ⊢; omega)⟩) (fun hh => by first | omega | (simp at hh ⊢; omega)) (fun hh => by first | omega | (simp at hh ⊢; omega))) ?_
      refine al_pure rfl rfl rfl (pure_concat rfl rfl gU gU (by first | omega | (simp only [List.length_append, List.length_drop, List.length_take]; omega))) ?_
      refine al_pure rfl rfl rfl (pure_assign rfl gU) ?_
      refine al_nil ?_
      refine awp_sub (s := { t := [(0, _, _), (3, _, _), (4, _, _), (5, _, _)], bx := [], ow := [((.t 3), _)] }) (sub_mk (⟨sx rfl, ⟨sx rfl, ⟨sx rfl, ⟨sx rfl, trivial⟩⟩⟩⟩) trivial (⟨rfl, trivial⟩)) ?_
      refine awp_region ?_
      refine al_pure rfl rfl rfl (pure_move rfl gU) ?_
      refine al_pure rfl rfl rfl (pure_arith rfl rfl gU gU rfl (IntWalk.i64_in _ (by omega))) ?_
      refine al_pure rfl rfl rfl (pure_assign rfl gU) ?_
      refine al_nil ?_
      refine ⟨(k + 1, line ++ [s.getD k 0], out), ?_, ?_, sub_mk (⟨⟨_, rfl, ?_⟩, ⟨⟨_, rfl, ?_⟩, ⟨⟨_, rfl, ?_⟩, ⟨sx rfl, trivial⟩⟩⟩⟩) trivial (⟨rfl, trivial⟩)⟩
      all_goals (first | rfl | omega | exact tx (congrArg xs (by rw [e1])) | (refine ⟨?_, ?_, ?_, hi⟩ <;> (simp <;> omega)))
  · try simp only [nn, strR_len, Tk.rows_len] at hc
    rw [List.drop_of_length_le (by omega), lnsA] at hi
    refine awp_exit ?_
    repeat (first | refine thenS_exit ?_ | refine blockS_hit ?_ | refine blockS_miss rfl ?_)
    refine awp_seq ?_
    refine awp_seq (awp_region ?_)
    refine al_pure rfl rfl rfl (pure_move rfl gU) ?_
    refine al_pure rfl rfl rfl (pure_cmpS rfl rfl gU gU rfl) ?_
    refine al_nil ?_
    refine awp_sub (s := { t := [(3, _, _), (4, _, _), (28, _, _)], bx := [], ow := [((.t 3), _)] }) (sub_mk (⟨sx rfl, ⟨sx rfl, ⟨sx rfl, trivial⟩⟩⟩) trivial (⟨rfl, trivial⟩)) ?_
    refine awp_cond rfl (fun hc2 => ?_) (fun hc2 => ?_)
    · try simp only [nn, strR_len, Tk.rows_len] at hc2
      rw [if_neg hc2] at hi
      refine awp_region ?_
      refine al_do rfl (does_take (.inl rfl) rfl rfl rfl) ?_
      refine al_pure rfl rfl rfl (pure_move rfl gU) ?_
      refine al_buildSlice (xs := [_]) rfl rfl rfl rfl rfl rfl rfl rfl rfl gU rfl ?_
      refine al_do rfl (does_append rfl rfl rfl rfl rfl rfl rfl (by first | omega | (simp only [List.length_append, List.length_singleton, Tk.rows_len, strR_len]; omega)) (by first | omega | (simp only [List.length_append, List.length_singleton, Tk.rows_len, strR_len]; omega))) ?_
      refine al_do rfl (does_take (.inr rfl) rfl rfl rfl) ?_
      refine al_nil ?_
      refine awp_sub (s := { t := [(3, _, _)], bx := [], ow := [((.t 3), _)] }) (sub_mk (⟨sx rfl, trivial⟩) trivial (⟨rfl, trivial⟩)) ?_
      refine awp_seq (awp_region ?_)
      refine al_do rfl (does_take (.inl rfl) rfl rfl rfl) ?_
      refine al_do rfl (does_take (.inr rfl) rfl rfl rfl) ?_
      refine al_nil ?_
      refine awp_ret ?_
      repeat (first | refine tR ?_ | refine bR ?_)
      refine ret_ok rfl ?_ trivial
      (rw [← hi]; exact xss_snoc out line)
    · try simp only [nn, strR_len, Tk.rows_len] at hc2
      rw [if_pos hc2] at hi
      refine awp_skip ?_
      refine awp_seq (awp_region ?_)
      refine al_do rfl (does_take (.inl rfl) rfl rfl rfl) ?_
      refine al_do rfl (does_take (.inr rfl) rfl rfl rfl) ?_
      refine al_nil ?_
      refine awp_ret ?_
      repeat (first | refine tR ?_ | refine bR ?_)
      refine ret_ok rfl ?_ trivial
      (rw [← hi]; rfl)
theorem bareE_len (s : List UInt8) : (bareE s).length ≤ s.length := by unfold bareE; rw [List.length_take]; omega
theorem rtokens_spec (s : List UInt8) (hs : s.length ≤ 1000000) : Ctr sys 13 [xs s] [] (xtoks (tokR s)) none [] := by
  have hsl := lnsR_len s
  refine spec_intro Tryd.func13 rfl rfl rfl rfl rfl rfl ?_
  refine awp_seq (awp_region ?_)
  refine al_do rfl (does_nil (.inr rfl) rfl rfl) ?_
  refine al_pure rfl rfl rfl (pure_assign rfl gU) ?_
  refine al_pure rfl rfl rfl (pure_assign rfl gU) ?_
  refine al_nil ?_
  refine awp_seq ?_
  refine awp_seq (awp_region ?_)
  refine al_pure rfl rfl rfl (pure_move rfl gU) ?_
  refine al_lenS rfl rfl rfl rfl rfl gU (Tryd.underlying9) ?_ (fun hh => by simp at hh); intro hlen
  refine al_pure rfl rfl rfl (pure_cmp rfl rfl gU gU rfl) ?_
  refine al_nil ?_
  refine awp_sub (s := { t := [(0, _, _), (14, _, _)], bx := [], ow := [] }) (sub_mk (⟨sx rfl, ⟨sx rfl, trivial⟩⟩) trivial trivial) ?_
  refine awp_cond rfl (fun hc => ?_) (fun hc => ?_)
  · try simp only [nn, strR_len, Tk.rows_len] at hc
    refine awp_seq (awp_region ?_)
    refine al_do rfl (does_nil (.inr rfl) rfl rfl) ?_
    refine al_pure rfl rfl rfl (pure_assign rfl gU) ?_
    refine al_pure rfl rfl rfl (pure_assign rfl gU) ?_
    refine al_nil ?_
    refine awp_ret ?_
    repeat (first | refine tR ?_ | refine bR ?_)
    refine ret_ok rfl ?_ trivial
    (rw [tokR, if_pos (by omega)]; rfl)
  · try simp only [nn, strR_len, Tk.rows_len] at hc
    rw [tokR, if_neg (by omega)]
    refine awp_skip ?_
    refine awp_seq (awp_region ?_)
    refine al_do rfl (does_nil (.inr rfl) rfl rfl) ?_
    refine al_nil ?_
    refine awp_seq (awp_region ?_)
    refine al_pure rfl rfl rfl (pure_move rfl gU) ?_
    refine al_call rfl rfl rfl rfl rfl rfl gU gU (rlines_spec _ (by omega)) rfl ?_
    refine al_pure rfl rfl rfl (pure_assign rfl gU) ?_
    refine al_nil ?_
    refine awp_seq ?_
    refine awp_seq (awp_region ?_)
    refine al_pure rfl rfl rfl (pure_assign rfl gU) ?_
    refine al_nil ?_
    refine awp_sub (s := { t := [(5, _, _), (6, _, _), (7, _, _)], bx := [], ow := [((.t 5), _)] }) (sub_mk (⟨sx rfl, ⟨sx rfl, ⟨sx rfl, trivial⟩⟩⟩) trivial (⟨rfl, trivial⟩)) ?_
    refine awp_block ?_
    refine awp_for (ι := Nat × List Tk) { t := [(6, _, _)], bx := [], ow := [((.t 5), _)] } (fun p => [(7, true, xi (p.1 : Int)), (5, true, xts p.2)]) (fun p => []) (fun p => p.1 ≤ (lnsR s).length ∧ p.2.length ≤ 70000 * p.1 ∧ toksR ((lnsR s).drop p.1) (p.1 + 1) p.2 = toksR (lnsR s) 1 []) (fun p => (lnsR s).length - p.1) ((0, [])) (⟨by simp, by simp, rfl⟩) (sub_mk (⟨sx rfl, ⟨sx rfl, ⟨sx rfl, trivial⟩⟩⟩) trivial (⟨rfl, trivial⟩)) ?_
    intro p hok
    dsimp only [List.cons_append, List.nil_append] at *
    obtain ⟨k, out⟩ := p
    dsimp only at hok ⊢
    obtain ⟨hk, ho, hi⟩ := hok
    have hL := lnsR_get s k
    have hB := bareE_len ((lnsR s).getD k [])
    refine awp_seq ?_
    refine awp_seq (awp_region ?_)
    refine al_pure rfl rfl rfl (pure_move rfl gU) ?_
    refine al_pure rfl rfl rfl (pure_move rfl gU) ?_
    refine al_lenSl rfl rfl rfl rfl rfl gU rfl rfl ?_ (fun hh => by simp at hh); intro hlen
    refine al_pure rfl rfl rfl (pure_cmp rfl rfl gU gU rfl) ?_
    refine al_nil ?_
    refine awp_cond rfl (fun hc2 => ?_) (fun hc2 => ?_)
    · try simp only [nn, strR_len, Tk.rows_len] at hc2
      rw [dropD (d := []) (by omega), toksR] at hi
      refine awp_skip ?_
      refine awp_seq ?_
      refine awp_block ?_
      refine awp_seq (awp_region ?_)
      refine al_pure rfl rfl rfl (pure_move rfl gU) ?_
      refine al_pure rfl rfl rfl (pure_move rfl gU) ?_
      refine al_pure rfl rfl rfl (pure_indexAddr rfl rfl gU gU rfl rfl rfl (fun hh => strR_at (by first | omega | (simp at hh ⊢; omega)))) ?_
      refine al_pure rfl rfl rfl (pure_loadRo rfl gU rfl rfl rfl) ?_
      refine al_call rfl rfl rfl rfl rfl rfl gU gU (bare_spec _ (by omega)) rfl ?_
      refine al_pure rfl rfl rfl (pure_assign rfl gU) ?_
      refine al_nil ?_
      refine awp_sub (s := { t := [(5, _, _), (6, _, _), (7, _, _), (8, _, _)], bx := [], ow := [((.t 5), _)] }) (sub_mk (⟨sx rfl, ⟨sx rfl, ⟨sx rfl, ⟨sx rfl, trivial⟩⟩⟩⟩) trivial (⟨rfl, trivial⟩)) ?_
      refine awp_block ?_
      refine awp_for (ι := List UInt8 × List Tk) { t := [(6, _, _), (7, _, _)], bx := [], ow := [((.t 5), _)] } (fun q => [(8, true, xs q.1), (5, true, xts q.2)]) (fun q => []) (fun q => q.1.length ≤ (bareE ((lnsR s).getD k [])).length ∧ q.2.length + q.1.length ≤ out.length + (bareE ((lnsR s).getD k [])).length ∧ ∃ n, q.1.length < n ∧ lineR n q.1 ((k + 1 : Nat) : Int) q.2 = lineR ((bareE ((lnsR s).getD k [])).length + 1) (bareE ((lnsR s).getD k [])) ((k + 1 : Nat) : Int) out) (fun q => q.1.length) ((bareE ((lnsR s).getD k []), out)) (⟨by simp, by simp, _, by dsimp only; omega, rfl⟩) (sub_mk (⟨sx rfl, ⟨sx rfl, ⟨sx rfl, ⟨sx rfl, trivial⟩⟩⟩⟩) trivial (⟨rfl, trivial⟩)) ?_
      intro q hokq
      dsimp only [List.cons_append, List.nil_append] at *
      obtain ⟨l, o2⟩ := q
      dsimp only at hokq ⊢
      obtain ⟨hl, ho2, n, hn, hi2⟩ := hokq
      obtain ⟨n, rfl⟩ : ∃ m, n = m + 1 := ⟨n - 1, by omega⟩
      refine awp_seq ?_
      refine awp_seq (awp_region ?_)
      refine al_pure rfl rfl rfl (pure_move rfl gU) ?_
      refine al_lenS rfl rfl rfl rfl rfl gU (Tryd.underlying9) ?_ (fun hh => by simp at hh); intro hlen
      refine al_pure rfl rfl rfl (pure_cmp rfl rfl gU gU rfl) ?_
      refine al_nil ?_
      refine awp_cond rfl (fun hc3 => ?_) (fun hc3 => ?_)
      · try simp only [nn, strR_len, Tk.rows_len] at hc3
        have hne : 0 < l.length := by omega
        have hcons : l = l.getD 0 0 :: l.drop 1 := by have := drop_get0 hne; rwa [List.drop_zero] at this
        have hx : lineR (n + 1) l ((k + 1 : Nat) : Int) o2 = if whiteB (l.getD 0 0) = true then lineR n (l.drop 1) ((k + 1 : Nat) : Int) o2 else if (firstE l ((k + 1 : Nat) : Int)).2.2 ≠ 0 then ([], (firstE l ((k + 1 : Nat) : Int)).2.2)
            else lineR n (l.drop (firstE l ((k + 1 : Nat) : Int)).2.1) ((k + 1 : Nat) : Int) (o2 ++ [(firstE l ((k + 1 : Nat) : Int)).1]) := by
          generalize hg : l.getD 0 0 = c at hcons ⊢
          generalize hg2 : l.drop 1 = r at hcons ⊢
          subst hcons
          rw [lineR]
        rw [hx] at hi2
        refine awp_skip ?_
        refine awp_block ?_
        refine awp_seq ?_
        refine awp_seq (awp_region ?_)
        refine al_pure rfl rfl rfl (pure_move rfl gU) ?_
        refine al_pure rfl rfl rfl (pure_indexSg (j := 0) rfl rfl gU gU Tryd.underlying9 (by first | omega | (simp at hh ⊢; omega)) (fun hh => by first | omega | (simp at hh ⊢; omega))) ?_
        refine al_call rfl rfl rfl rfl rfl rfl gU gU (class_spec _ _ rfl) rfl ?_
        refine al_pure rfl rfl rfl (pure_cmp rfl rfl gU gU rfl) ?_
        refine al_nil ?_
        refine awp_sub (s := { t := [(5, _, _), (6, _, _), (7, _, _), (8, _, _), (34, _, _)], bx := [], ow := [((.t 5), _)] }) (sub_mk (⟨sx rfl, ⟨sx rfl, ⟨sx rfl, ⟨sx rfl, ⟨sx rfl, trivial⟩⟩⟩⟩⟩) trivial (⟨rfl, trivial⟩)) ?_
        refine awp_cond rfl (fun hc4 => ?_) (fun hc4 => ?_)
        · try simp only [nn, strR_len, Tk.rows_len] at hc4
          rw [if_pos ((cls_ne _).2.2.1 hc4)] at hi2
          refine awp_seq (awp_region ?_)
          refine al_pure rfl rfl rfl (pure_move rfl gU) ?_
          refine al_pure rfl rfl rfl (pure_sliceS (l := 1) rfl gU Tryd.underlying9 (fun _ => ⟨_, _, _, rfl, gU, by first | omega | (simp at hh ⊢; omega)⟩) (fun _ => rfl) (fun hh => by first | omega | (simp at hh ⊢; omega)) (fun hh => by first | omega | (simp at hh ⊢; omega))) ?_
          refine al_pure rfl rfl rfl (pure_assign rfl gU) ?_
          refine al_nil ?_
          refine awp_exit ?_
          repeat (first | refine thenS_exit ?_ | refine blockS_hit ?_ | refine blockS_miss rfl ?_)
          refine ⟨(l.drop 1, o2), ?_, ?_, sub_mk (⟨⟨_, rfl, ?_⟩, ⟨⟨_, rfl, ?_⟩, ⟨sx rfl, ⟨sx rfl, trivial⟩⟩⟩⟩) trivial (⟨rfl, trivial⟩)⟩
          all_goals first | rfl | exact tx (congrArg xs (by rw [List.take_length])) | (simp only [List.take_length, List.length_drop]; omega) | (refine ⟨?_, ?_, n, ?_, hi2⟩ <;> (simp only [List.length_drop]; omega))
        · try simp only [nn, strR_len, Tk.rows_len] at hc4
          rw [if_neg (fun q => hc4 ((cls_ne _).2.2.2 q))] at hi2
          have hfl := firstE_le (s := l) (k := ((k + 1 : Nat) : Int)) hne
          refine awp_skip ?_
          refine awp_seq (awp_region ?_)
          refine al_pure rfl rfl rfl (pure_move rfl gU) ?_
          refine al_pure rfl rfl rfl (pure_move rfl gU) ?_
          refine al_pure rfl rfl rfl (pure_arith rfl rfl gU gU rfl (IntWalk.i64_in _ (by omega))) ?_
          refine al_call rfl rfl rfl rfl rfl rfl gU gU (first_spec _ ((k + 1 : Nat) : Int) _ hne (by omega) (by omega) hc4) rfl ?_
          refine al_pure rfl rfl rfl (pure_move rfl gU) ?_
          refine al_pure rfl rfl rfl (pure_extract rfl gU rfl) ?_
          refine al_pure rfl rfl rfl (pure_extract rfl gU rfl) ?_
          refine al_pure rfl rfl rfl (pure_extract rfl gU rfl) ?_
          refine al_do rfl (does_alloc rfl rfl rfl) ?_
          refine al_do rfl (does_store rfl rfl rfl rfl rfl rfl rfl) ?_
          refine al_pure rfl rfl rfl (pure_assign rfl gU) ?_
          refine al_pure rfl rfl rfl (pure_assign rfl gU) ?_
          refine al_nil ?_
          refine awp_sub (s := { t := [(5, _, _), (6, _, _), (7, _, _), (8, _, _), (9, _, _), (10, _, _), (11, _, _)], bx := [((.l 9), _)], ow := [((.t 5), _)] }) (sub_mk (⟨sx rfl, ⟨sx rfl, ⟨sx rfl, ⟨sx rfl, ⟨sx rfl, ⟨sx rfl, ⟨sx rfl, trivial⟩⟩⟩⟩⟩⟩⟩) (⟨sx rfl, trivial⟩) (⟨rfl, trivial⟩)) ?_
          refine awp_seq ?_
          refine awp_seq (awp_region ?_)
          refine al_pure rfl rfl rfl (pure_move rfl gU) ?_
          refine al_pure rfl rfl rfl (pure_cmp rfl rfl gU gU rfl) ?_
          refine al_nil ?_
          refine awp_cond rfl (fun hc5 => ?_) (fun hc5 => ?_)
          · try simp only [nn, strR_len, Tk.rows_len] at hc5
            rw [if_pos hc5] at hi2
            rw [← hi2, if_pos hc5] at hi
            refine awp_seq (awp_region ?_)
            refine al_pure rfl rfl rfl (pure_move rfl gU) ?_
            refine al_pure rfl rfl rfl (pure_arith rfl rfl gU gU rfl (IntWalk.i64_in _ (by omega))) ?_
            refine al_pure rfl rfl rfl (pure_move rfl gU) ?_
            refine al_do rfl (does_nil (.inr rfl) rfl rfl) ?_
            refine al_pure rfl rfl rfl (pure_assign rfl gU) ?_
            refine al_pure rfl rfl rfl (pure_assign rfl gU) ?_
            refine al_nil ?_
            refine awp_ret ?_
            repeat (first | refine tR ?_ | refine bR ?_)
            refine ret_ok rfl ?_ trivial
            (rw [← hi]; rfl)
          · try simp only [nn, strR_len, Tk.rows_len] at hc5
            have h4 := hfl.2 hc5
            rw [if_neg (fun q => q hc5)] at hi2
            refine awp_skip ?_
            refine awp_seq (awp_region ?_)
            refine al_do rfl (does_take (.inl rfl) rfl rfl rfl) ?_
            refine al_pure rfl rfl rfl (pure_loadBoxRow rfl gU rfl rfl rfl rfl rfl) ?_
            refine al_buildSlice (xs := [_]) rfl rfl rfl rfl rfl rfl rfl rfl rfl gU rfl ?_
            refine al_do rfl (does_append rfl rfl rfl rfl rfl rfl rfl (by first | omega | (simp only [List.length_append, List.length_singleton, Tk.rows_len, strR_len]; omega)) (by first | omega | (simp only [List.length_append, List.length_singleton, Tk.rows_len, strR_len]; omega))) ?_
            refine al_do rfl (does_take (.inr rfl) rfl rfl rfl) ?_
            refine al_nil ?_
            refine awp_sub (s := { t := [(5, _, _), (6, _, _), (7, _, _), (8, _, _), (10, _, _)], bx := [], ow := [((.t 5), _)] }) (sub_mk (⟨sx rfl, ⟨sx rfl, ⟨sx rfl, ⟨sx rfl, ⟨sx rfl, trivial⟩⟩⟩⟩⟩) trivial (⟨rfl, trivial⟩)) ?_
            refine awp_region ?_
            refine al_pure rfl rfl rfl (pure_move rfl gU) ?_
            refine al_pure rfl rfl rfl (pure_move rfl gU) ?_
            refine al_pure rfl rfl rfl (pure_sliceS (l := (firstE l ((k + 1 : Nat) : Int)).2.1) rfl gU Tryd.underlying9 (fun _ => ⟨_, _, _, rfl, gU, by first | omega | (simp at hh ⊢; omega)⟩) (fun _ => rfl) (fun hh => by first | omega | (simp at hh ⊢; omega)) (fun hh => by first | omega | (simp at hh ⊢; omega))) ?_
            refine al_pure rfl rfl rfl (pure_assign rfl gU) ?_
            refine al_nil ?_
            refine ⟨(l.drop (firstE l ((k + 1 : Nat) : Int)).2.1, o2 ++ [(firstE l ((k + 1 : Nat) : Int)).1]), ?_, ?_, sub_mk (⟨⟨_, rfl, ?_⟩, ⟨⟨_, rfl, ?_⟩, ⟨sx rfl, ⟨sx rfl, trivial⟩⟩⟩⟩) trivial (⟨rfl, trivial⟩)⟩
            all_goals first | rfl | exact tx (xts_snoc o2 (firstE l ((k + 1 : Nat) : Int)).1) | exact tx (congrArg xs (by rw [List.take_length])) | (simp only [List.take_length, List.length_drop, List.length_append, List.length_singleton]; omega) | (refine ⟨?_, ?_, n, ?_, hi2⟩ <;> (simp only [List.length_drop, List.length_append, List.length_singleton]; omega))
      · try simp only [nn, strR_len, Tk.rows_len] at hc3
        have hnil : l = [] := List.eq_nil_of_length_eq_zero (by omega)
        subst hnil
        rw [lineR] at hi2
        rw [← hi2] at hi
        refine awp_exit ?_
        repeat (first | refine thenS_exit ?_ | refine blockS_hit ?_ | refine blockS_miss rfl ?_)
        refine awp_region ?_
        refine al_pure rfl rfl rfl (pure_move rfl gU) ?_
        refine al_pure rfl rfl rfl (pure_arith rfl rfl gU gU rfl (IntWalk.i64_in _ (by omega))) ?_
        refine al_pure rfl rfl rfl (pure_assign rfl gU) ?_
        refine al_nil ?_
        refine ⟨(k + 1, o2), ?_, ?_, sub_mk (⟨⟨_, rfl, ?_⟩, ⟨⟨_, rfl, ?_⟩, ⟨sx rfl, trivial⟩⟩⟩) trivial (⟨rfl, trivial⟩)⟩
        all_goals first | rfl | omega | (refine ⟨by dsimp only; omega, by dsimp only; omega, ?_⟩; exact hi)
    · try simp only [nn, strR_len, Tk.rows_len] at hc2
      rw [List.drop_of_length_le (by omega), toksR] at hi
      refine awp_exit ?_
      repeat (first | refine thenS_exit ?_ | refine blockS_hit ?_ | refine blockS_miss rfl ?_)
      refine awp_seq (awp_region ?_)
      refine al_do rfl (does_take (.inl rfl) rfl rfl rfl) ?_
      refine al_do rfl (does_take (.inr rfl) rfl rfl rfl) ?_
      refine al_pure rfl rfl rfl (pure_assign rfl gU) ?_
      refine al_pure rfl rfl rfl (pure_assign rfl gU) ?_
      refine al_nil ?_
      refine awp_ret ?_
      repeat (first | refine tR ?_ | refine bR ?_)
      refine ret_ok rfl ?_ trivial
      (rw [← hi]; rfl)
end Go.Proofs.YtiiboiomiacibaaDoor
/- Contracts: literals of strings, on both sides. -/
set_option linter.unusedVariables false
set_option linter.unusedSimpArgs false
namespace Go.Proofs.YtiiboiomiacibaaDoor
open Go Go.Abs
theorem shrI : ∀ n : Fin 256, ((UInt8.ofNat n.val).toNat : Int).fdiv (2 ^ (min (Int.toNat 4) IntKind.u8.bits)) = (((UInt8.ofNat n.val).toNat / 16 : Nat) : Int) := by decide +kernel
theorem shr4 (c : UInt8) : (c.toNat : Int).fdiv (2 ^ (min (Int.toNat 4) IntKind.u8.bits)) = ((c.toNat / 16 : Nat) : Int) := by
  have := shrI ⟨c.toNat, c.toNat_lt⟩
  rwa [show UInt8.ofNat c.toNat = c from UInt8.ofNat_toNat] at this
theorem andI : ∀ n : Fin 256, IntKind.u8.wrap (BitVec.ofInt IntKind.u8.bits ((UInt8.ofNat n.val).toNat : Int) &&& BitVec.ofInt IntKind.u8.bits 15).toNat = (((UInt8.ofNat n.val).toNat % 16 : Nat) : Int) := by decide +kernel
theorem and15 (c : UInt8) : IntKind.u8.wrap (BitVec.ofInt IntKind.u8.bits (c.toNat : Int) &&& BitVec.ofInt IntKind.u8.bits 15).toNat = ((c.toNat % 16 : Nat) : Int) := by
  have := andI ⟨c.toNat, c.toNat_lt⟩
  rwa [show UInt8.ofNat c.toNat = c from UInt8.ofNat_toNat] at this
theorem quoB_take {s : List UInt8} {k : Nat} (h : k < s.length) : quoB (s.take (k + 1)) = quoB (s.take k) ++ quo1 (s.getD k 0) := by
  rw [take_getD (d := 0) h, quoB_snoc]
theorem lquote_spec (s : List UInt8) (hs : s.length ≤ 100000) : Ctr sys 20 [xs s] [] (xs (quoE s)) none [] := by
  have hq : ∀ k, (quoB (s.take k)).length ≤ 400000 := by
    intro k
    have := (quoB_len (s.take k)).2
    rw [List.length_take] at this
    omega
  refine spec_intro Tryd.func20 rfl rfl rfl rfl rfl rfl ?_
  refine awp_seq (awp_region ?_)
  refine al_pure rfl rfl rfl (pure_assign rfl gU) ?_
  refine al_nil ?_
  refine awp_seq (awp_region ?_)
  refine al_do rfl (does_allocBd (u := 217093) rfl rfl rfl rfl rfl) ?_
  refine al_nil ?_
  refine awp_seq (awp_region ?_)
  refine al_bwb bds (c := 34) rfl rfl rfl rfl rfl rfl rfl rfl rfl (by (try simp only [List.length_append, List.length_singleton]); (try simp) <;> omega) ?_
  refine al_nil ?_
  refine awp_seq ?_
  refine awp_seq (awp_region ?_)
  refine al_pure rfl rfl rfl (pure_move rfl gU) ?_
  refine al_lenS rfl rfl rfl rfl rfl gU (Tryd.underlying9) ?_ (fun hh => by simp at hh); intro hlen
  refine al_pure rfl rfl rfl (pure_move rfl gU) ?_
  refine al_nil ?_
  refine awp_sub (s := { t := [(0, _, _), (3, _, _), (8, _, _), (9, _, _)], bx := [((.bd 217093 3), _)], ow := [((.b (.bd 217093 3) 1), _)] }) (sub_mk (⟨sx rfl, ⟨sx rfl, ⟨sx rfl, ⟨sx rfl, trivial⟩⟩⟩⟩) (⟨sx rfl, trivial⟩) (⟨rfl, trivial⟩)) ?_
  refine awp_block ?_
  refine awp_for (ι := Nat) { t := [(0, _, _), (3, _, _), (8, _, _)], bx := [], ow := [((.b (.bd 217093 3) 1), _)] } (fun k => [(9, true, xi (k : Int))]) (fun k => [((.bd 217093 3), [.bl, .sl 1 (bytesR ([34] ++ quoB (s.take k)))])]) (fun k => k ≤ s.length) (fun k => s.length - k) (0) (by simp) (sub_mk (⟨sx rfl, ⟨sx rfl, ⟨sx rfl, ⟨sx rfl, trivial⟩⟩⟩⟩) (⟨sx rfl, trivial⟩) (⟨rfl, trivial⟩)) ?_
  intro k hok
  dsimp only [List.cons_append, List.nil_append]
  have hqk := hq k
  have hu := (s.getD k 0).toNat_lt
  refine awp_seq (awp_region ?_)
  refine al_pure rfl rfl rfl (pure_cmp rfl rfl gU gU rfl) ?_
  refine al_nil ?_
  refine awp_seq ?_
  refine awp_cond rfl (fun hc => ?_) (fun hc => ?_)
  · try simp only [nn, strR_len, Tk.rows_len] at hc
    have hT := quoB_take (s := s) (k := k) (by omega)
    refine awp_skip ?_
    refine awp_seq ?_
    refine awp_block ?_
    refine awp_seq (awp_region ?_)
    refine al_pure rfl rfl rfl (pure_move rfl gU) ?_
    refine al_pure rfl rfl rfl (pure_assign rfl gU) ?_
    refine al_nil ?_
    refine awp_seq (awp_region ?_)
    refine al_pure rfl rfl rfl (pure_move rfl gU) ?_
    refine al_pure rfl rfl rfl (pure_move rfl gU) ?_
    refine al_pure rfl rfl rfl (pure_indexSg (j := k) rfl rfl gU gU Tryd.underlying9 (by first | omega | (show _ ≤ 16; omega) | (simp; omega) | (simp at hh ⊢; omega)) (fun hh => by first | omega | (show _ ≤ 16; omega) | (simp; omega) | (simp at hh ⊢; omega))) ?_
    refine al_pure rfl rfl rfl (pure_assign rfl gU) ?_
    refine al_nil ?_
    refine awp_sub (s := { t := [(0, _, _), (3, _, _), (5, _, _), (8, _, _), (9, _, _)], bx := [((.bd 217093 3), _)], ow := [((.b (.bd 217093 3) 1), _)] }) (sub_mk (⟨sx rfl, ⟨sx rfl, ⟨sx rfl, ⟨sx rfl, ⟨sx rfl, trivial⟩⟩⟩⟩⟩) (⟨sx rfl, trivial⟩) (⟨rfl, trivial⟩)) ?_
    refine awp_block ?_
    refine awp_seq (awp_region ?_)
    refine al_pure rfl rfl rfl (pure_move rfl gU) ?_
    refine al_pure rfl rfl rfl (pure_cmp rfl rfl gU gU rfl) ?_
    refine al_pure rfl rfl rfl (pure_assign rfl gU) ?_
    refine al_nil ?_
    refine awp_cond rfl (fun hc2 => ?_) (fun hc2 => ?_)
    · try simp only [nn, strR_len, Tk.rows_len] at hc2
      have h1 : quo1 (s.getD k 0) = [92, 110] := by unfold quo1; rw [if_pos (by omega)]
      refine awp_region ?_
      refine al_bws bds rfl rfl rfl rfl rfl rfl rfl rfl (by (try simp only [List.length_append, List.length_singleton]); (try simp) <;> omega) ?_
      refine al_nil ?_
      refine awp_region ?_
      refine al_pure rfl rfl rfl (pure_arith rfl rfl gU gU rfl (IntWalk.i64_in _ (by omega))) ?_
      refine al_pure rfl rfl rfl (pure_move rfl gU) ?_
      refine al_nil ?_
      refine ⟨k + 1, ?_, ?_, sub_mk (⟨⟨_, rfl, ?_⟩, ⟨sx rfl, ⟨sx rfl, ⟨sx rfl, trivial⟩⟩⟩⟩) (⟨⟨_, rfl, ?_⟩, trivial⟩) (⟨rfl, trivial⟩)⟩
      all_goals (first | rfl | omega | (refine bdc ?_; rw [hT, h1]; simp only [List.append_assoc, List.cons_append, List.nil_append] <;> rfl))
    · try simp only [nn, strR_len, Tk.rows_len] at hc2
      refine awp_seq (awp_region ?_)
      refine al_pure rfl rfl rfl (pure_move rfl gU) ?_
      refine al_pure rfl rfl rfl (pure_cmp rfl rfl gU gU rfl) ?_
      refine al_pure rfl rfl rfl (pure_assign rfl gU) ?_
      refine al_nil ?_
      refine awp_sub (s := { t := [(0, _, _), (3, _, _), (5, _, _), (8, _, _), (9, _, _), (34, _, _)], bx := [((.bd 217093 3), _)], ow := [((.b (.bd 217093 3) 1), _)] }) (sub_mk (⟨sx rfl, ⟨sx rfl, ⟨sx rfl, ⟨sx rfl, ⟨sx rfl, ⟨sx rfl, trivial⟩⟩⟩⟩⟩⟩) (⟨sx rfl, trivial⟩) (⟨rfl, trivial⟩)) ?_
      refine awp_cond rfl (fun hc3 => ?_) (fun hc3 => ?_)
      · try simp only [nn, strR_len, Tk.rows_len] at hc3
        have h1 : quo1 (s.getD k 0) = [92, 116] := by unfold quo1; rw [if_neg (by omega), if_pos (by omega)]
        refine awp_region ?_
        refine al_bws bds rfl rfl rfl rfl rfl rfl rfl rfl (by (try simp only [List.length_append, List.length_singleton]); (try simp) <;> omega) ?_
        refine al_nil ?_
        refine awp_region ?_
        refine al_pure rfl rfl rfl (pure_arith rfl rfl gU gU rfl (IntWalk.i64_in _ (by omega))) ?_
        refine al_pure rfl rfl rfl (pure_move rfl gU) ?_
        refine al_nil ?_
        refine ⟨k + 1, ?_, ?_, sub_mk (⟨⟨_, rfl, ?_⟩, ⟨sx rfl, ⟨sx rfl, ⟨sx rfl, trivial⟩⟩⟩⟩) (⟨⟨_, rfl, ?_⟩, trivial⟩) (⟨rfl, trivial⟩)⟩
        all_goals (first | rfl | omega | (refine bdc ?_; rw [hT, h1]; simp only [List.append_assoc, List.cons_append, List.nil_append] <;> rfl))
      · try simp only [nn, strR_len, Tk.rows_len] at hc3
        refine awp_seq (awp_region ?_)
        refine al_pure rfl rfl rfl (pure_move rfl gU) ?_
        refine al_pure rfl rfl rfl (pure_cmp rfl rfl gU gU rfl) ?_
        refine al_pure rfl rfl rfl (pure_move rfl gU) ?_
        refine al_pure rfl rfl rfl (pure_move rfl gU) ?_
        refine al_pure rfl rfl rfl (pure_cmp rfl rfl (fun hh => hh) gU rfl) ?_
        refine al_pure rfl rfl rfl (pure_or rfl rfl gU (fun _ hi => gP rfl hi)) ?_
        refine al_pure rfl rfl rfl (pure_assign rfl gU) ?_
        refine al_nil ?_
        refine awp_sub (s := { t := [(0, _, _), (3, _, _), (5, _, _), (8, _, _), (9, _, _), (38, _, _)], bx := [((.bd 217093 3), _)], ow := [((.b (.bd 217093 3) 1), _)] }) (sub_mk (⟨sx rfl, ⟨sx rfl, ⟨sx rfl, ⟨sx rfl, ⟨sx rfl, ⟨sx rfl, trivial⟩⟩⟩⟩⟩⟩) (⟨sx rfl, trivial⟩) (⟨rfl, trivial⟩)) ?_
        refine awp_cond rfl (fun hc4 => ?_) (fun hc4 => ?_)
        · try simp only [nn, strR_len, Tk.rows_len] at hc4
          have h1 : quo1 (s.getD k 0) = [92, s.getD k 0] := by unfold quo1; rw [if_neg (by omega), if_neg (by omega), if_pos (by omega)]
          refine awp_seq (awp_region ?_)
          refine al_bwb bds (c := 92) rfl rfl rfl rfl rfl rfl rfl rfl rfl (by (try simp only [List.length_append, List.length_singleton]); (try simp) <;> omega) ?_
          refine al_nil ?_
          refine awp_region ?_
          refine al_pure rfl rfl rfl (pure_move rfl gU) ?_
          refine al_bwb bds (c := s.getD k 0) rfl rfl rfl rfl rfl rfl (by rfl) rfl rfl (by (try simp only [List.length_append, List.length_singleton]); (try simp) <;> omega) ?_
          refine al_nil ?_
          refine awp_region ?_
          refine al_pure rfl rfl rfl (pure_arith rfl rfl gU gU rfl (IntWalk.i64_in _ (by omega))) ?_
          refine al_pure rfl rfl rfl (pure_move rfl gU) ?_
          refine al_nil ?_
          refine ⟨k + 1, ?_, ?_, sub_mk (⟨⟨_, rfl, ?_⟩, ⟨sx rfl, ⟨sx rfl, ⟨sx rfl, trivial⟩⟩⟩⟩) (⟨⟨_, rfl, ?_⟩, trivial⟩) (⟨rfl, trivial⟩)⟩
          all_goals (first | rfl | omega | (refine bdc ?_; rw [hT, h1]; simp only [List.append_assoc, List.cons_append, List.nil_append] <;> rfl))
        · try simp only [nn, strR_len, Tk.rows_len] at hc4
          refine awp_seq (awp_region ?_)
          refine al_pure rfl rfl rfl (pure_move rfl gU) ?_
          refine al_pure rfl rfl rfl (pure_cmp rfl rfl gU gU rfl) ?_
          refine al_pure rfl rfl rfl (pure_move rfl gU) ?_
          refine al_pure rfl rfl rfl (pure_move rfl gU) ?_
          refine al_pure rfl rfl rfl (pure_cmp rfl rfl (fun hh => hh) gU rfl) ?_
          refine al_pure rfl rfl rfl (pure_and rfl rfl gU (fun _ hi => gP rfl hi)) ?_
          refine al_pure rfl rfl rfl (pure_assign rfl gU) ?_
          refine al_nil ?_
          refine awp_sub (s := { t := [(0, _, _), (3, _, _), (5, _, _), (8, _, _), (9, _, _), (48, _, _)], bx := [((.bd 217093 3), _)], ow := [((.b (.bd 217093 3) 1), _)] }) (sub_mk (⟨sx rfl, ⟨sx rfl, ⟨sx rfl, ⟨sx rfl, ⟨sx rfl, ⟨sx rfl, trivial⟩⟩⟩⟩⟩⟩) (⟨sx rfl, trivial⟩) (⟨rfl, trivial⟩)) ?_
          refine awp_cond rfl (fun hc5 => ?_) (fun hc5 => ?_)
          · try simp only [nn, strR_len, Tk.rows_len] at hc5
            have h1 : quo1 (s.getD k 0) = [s.getD k 0] := by unfold quo1; rw [if_neg (by omega), if_neg (by omega), if_neg (by omega), if_pos (by omega)]
            refine awp_region ?_
            refine al_pure rfl rfl rfl (pure_move rfl gU) ?_
            refine al_bwb bds (c := s.getD k 0) rfl rfl rfl rfl rfl rfl (by rfl) rfl rfl (by (try simp only [List.length_append, List.length_singleton]); (try simp) <;> omega) ?_
            refine al_nil ?_
            refine awp_region ?_
            refine al_pure rfl rfl rfl (pure_arith rfl rfl gU gU rfl (IntWalk.i64_in _ (by omega))) ?_
            refine al_pure rfl rfl rfl (pure_move rfl gU) ?_
            refine al_nil ?_
            refine ⟨k + 1, ?_, ?_, sub_mk (⟨⟨_, rfl, ?_⟩, ⟨sx rfl, ⟨sx rfl, ⟨sx rfl, trivial⟩⟩⟩⟩) (⟨⟨_, rfl, ?_⟩, trivial⟩) (⟨rfl, trivial⟩)⟩
            all_goals (first | rfl | omega | (refine bdc ?_; rw [hT, h1]; simp only [List.append_assoc, List.cons_append, List.nil_append] <;> rfl))
          · try simp only [nn, strR_len, Tk.rows_len] at hc5
            have h1 : quo1 (s.getD k 0) = [92, 120] ++ (hexs.take ((s.getD k 0).toNat / 16 + 1)).drop ((s.getD k 0).toNat / 16) ++ (hexs.take ((s.getD k 0).toNat % 16 + 1)).drop ((s.getD k 0).toNat % 16) := by unfold quo1; rw [if_neg (by omega), if_neg (by omega), if_neg (by omega), if_neg (by omega)]
            refine awp_drawn' (by kernel_rfl) ?_
            refine dr_pure rfl rfl rfl rfl (pure_move rfl gU) ?_
            refine dr_pure rfl rfl rfl rfl (pure_shr (s := (((s.getD k 0).toNat / 16 : Nat) : Int)) rfl rfl gU gU (by omega) (by first | exact shr4 _ | exact and15 _)) ?_
            refine dr_pure rfl rfl rfl rfl (pure_move rfl gU) ?_
            refine dr_pure rfl rfl rfl rfl (pure_shr (s := (((s.getD k 0).toNat / 16 : Nat) : Int)) rfl rfl gU gU (by omega) (by first | exact shr4 _ | exact and15 _)) ?_
            refine dr_pure rfl rfl rfl rfl (pure_arith rfl rfl gU gU rfl (IntWalk.u8_in _ (by omega))) ?_
            refine dr_pure rfl rfl rfl rfl (pure_sliceS (l := ((s.getD k 0).toNat / 16)) (h' := ((s.getD k 0).toNat / 16 + 1)) rfl gU Tryd.underlying9 (fun _ => ⟨_, _, _, rfl, gU, by first | omega | (show _ ≤ 16; omega) | (simp; omega) | (simp at hh ⊢; omega)⟩) (fun _ => ⟨_, _, _, rfl, gU, by first | omega | (show _ ≤ 16; omega) | (simp; omega) | (simp at hh ⊢; omega)⟩) (fun hh => by first | omega | (show _ ≤ 16; omega) | (simp; omega) | (simp at hh ⊢; omega)) (fun hh => by first | omega | (show _ ≤ 16; omega) | (simp; omega) | (simp at hh ⊢; omega))) ?_
            refine dr_pure rfl rfl rfl rfl (pure_concat rfl rfl gU gU (by simp; omega)) ?_
            refine dr_pure rfl rfl rfl rfl (pure_move rfl gU) ?_
            refine dr_pure rfl rfl rfl rfl (pure_bitAnd (s := (((s.getD k 0).toNat % 16 : Nat) : Int)) rfl rfl gU gU (by first | exact shr4 _ | exact and15 _)) ?_
            refine dr_pure rfl rfl rfl rfl (pure_move rfl gU) ?_
            refine dr_pure rfl rfl rfl rfl (pure_bitAnd (s := (((s.getD k 0).toNat % 16 : Nat) : Int)) rfl rfl gU gU (by first | exact shr4 _ | exact and15 _)) ?_
            refine dr_pure rfl rfl rfl rfl (pure_arith rfl rfl gU gU rfl (IntWalk.u8_in _ (by omega))) ?_
            refine dr_pure rfl rfl rfl rfl (pure_sliceS (l := ((s.getD k 0).toNat % 16)) (h' := ((s.getD k 0).toNat % 16 + 1)) rfl gU Tryd.underlying9 (fun _ => ⟨_, _, _, rfl, gU, by first | omega | (show _ ≤ 16; omega) | (simp; omega) | (simp at hh ⊢; omega)⟩) (fun _ => ⟨_, _, _, rfl, gU, by first | omega | (show _ ≤ 16; omega) | (simp; omega) | (simp at hh ⊢; omega)⟩) (fun hh => by first | omega | (show _ ≤ 16; omega) | (simp; omega) | (simp at hh ⊢; omega)) (fun hh => by first | omega | (show _ ≤ 16; omega) | (simp; omega) | (simp at hh ⊢; omega))) ?_
            refine dr_pure rfl rfl rfl rfl (pure_concat rfl rfl gU gU (by simp; omega)) ?_
            refine dr_bws (k := 3) bds rfl rfl rfl rfl rfl rfl rfl rfl (rko (ak rfl (ak rfl (ak rfl (ak rfl (ak rfl (ak rfl (ak rfl (ak rfl (ak rfl (ak rfl (ak rfl (ak rfl (ak rfl (ak rfl (rfl)))))))))))))))) (by (try simp only [List.length_append, List.length_singleton]); (try simp) <;> omega) ?_
            refine dr_nil (by kernel_rfl) ?_
            refine awp_sub (s := { t := [(0, _, _), (3, _, _), (8, _, _), (9, _, _)], bx := [((.bd 217093 3), _)], ow := [((.b (.bd 217093 3) 1), _)] }) (sub_mk (⟨sx rfl, ⟨sx rfl, ⟨sx rfl, ⟨sx rfl, trivial⟩⟩⟩⟩) (⟨sx rfl, trivial⟩) (⟨rfl, trivial⟩)) ?_
            refine awp_region ?_
            refine al_pure rfl rfl rfl (pure_arith rfl rfl gU gU rfl (IntWalk.i64_in _ (by omega))) ?_
            refine al_pure rfl rfl rfl (pure_move rfl gU) ?_
            refine al_nil ?_
            refine ⟨k + 1, ?_, ?_, sub_mk (⟨⟨_, rfl, ?_⟩, ⟨sx rfl, ⟨sx rfl, ⟨sx rfl, trivial⟩⟩⟩⟩) (⟨⟨_, rfl, ?_⟩, trivial⟩) (⟨rfl, trivial⟩)⟩
            all_goals (first | rfl | omega | (refine bdc ?_; rw [hT, h1]; simp only [List.append_assoc, List.cons_append, List.nil_append] <;> rfl))
  · try simp only [nn, strR_len, Tk.rows_len] at hc
    have hk : k = s.length := by omega
    rw [hk, List.take_length] at hqk ⊢
    refine awp_exit ?_
    repeat (first | refine thenS_exit ?_ | refine blockS_hit ?_ | refine blockS_miss rfl ?_)
    refine awp_seq (awp_region ?_)
    refine al_bwb bds (c := 34) rfl rfl rfl rfl rfl rfl rfl rfl rfl (by (try simp only [List.length_append, List.length_singleton]); (try simp) <;> omega) ?_
    refine al_nil ?_
    refine awp_seq (awp_region ?_)
    refine al_bst bds rfl rfl rfl rfl rfl rfl rfl rfl ?_
    refine al_pure rfl rfl rfl (pure_assign rfl gU) ?_
    refine al_nil ?_
    refine awp_ret ?_
    repeat (first | refine tR ?_ | refine bR ?_)
    refine ret_ok rfl ?_ trivial
    rfl
theorem rquote_spec (s : List UInt8) (hs : s.length ≤ 100000) : Ctr sys 22 [xs s] [] (xs (quoE s)) none [] := by
  have hq : ∀ k, (quoB (s.take k)).length ≤ 400000 := by
    intro k
    have := (quoB_len (s.take k)).2
    rw [List.length_take] at this
    omega
  refine spec_intro Tryd.func22 rfl rfl rfl rfl rfl rfl ?_
  refine awp_seq (awp_region ?_)
  refine al_pure rfl rfl rfl (pure_assign rfl gU) ?_
  refine al_nil ?_
  refine awp_seq (awp_region ?_)
  refine al_pure rfl rfl rfl (pure_assign rfl gU) ?_
  refine al_nil ?_
  refine awp_seq ?_
  refine awp_seq (awp_region ?_)
  refine al_pure rfl rfl rfl (pure_assign rfl gU) ?_
  refine al_nil ?_
  refine awp_block ?_
  refine awp_for (ι := Nat) { t := [(0, _, _)], bx := [], ow := [] } (fun k => [(4, true, xi (k : Int)), (3, true, xs ([34] ++ quoB (s.take k)))]) (fun k => []) (fun k => k ≤ s.length) (fun k => s.length - k) (0) (by simp) (sub_mk (⟨sx rfl, ⟨sx rfl, ⟨sx rfl, trivial⟩⟩⟩) trivial trivial) ?_
  intro k hok
  dsimp only [List.cons_append, List.nil_append]
  have hqk := hq k
  have hu := (s.getD k 0).toNat_lt
  refine awp_seq ?_
  refine awp_seq (awp_region ?_)
  refine al_pure rfl rfl rfl (pure_move rfl gU) ?_
  refine al_pure rfl rfl rfl (pure_move rfl gU) ?_
  refine al_lenS rfl rfl rfl rfl rfl gU (Tryd.underlying9) ?_ (fun hh => by simp at hh); intro hlen
  refine al_pure rfl rfl rfl (pure_cmp rfl rfl gU gU rfl) ?_
  refine al_nil ?_
  refine awp_cond rfl (fun hc => ?_) (fun hc => ?_)
  · try simp only [nn, strR_len, Tk.rows_len] at hc
    have hT := quoB_take (s := s) (k := k) (by omega)
    have e1 : (s.take (k + 1)).drop k = [s.getD k 0] := by
      rw [drop_get0 (by simp; omega), List.drop_of_length_le (by simp; omega), getD_take _ _ (by omega)]
    refine awp_skip ?_
    refine awp_seq ?_
    refine awp_block ?_
    refine awp_seq (awp_region ?_)
    refine al_pure rfl rfl rfl (pure_move rfl gU) ?_
    refine al_pure rfl rfl rfl (pure_move rfl gU) ?_
    refine al_pure rfl rfl rfl (pure_indexSg (j := k) rfl rfl gU gU Tryd.underlying9 (by first | omega | (show _ ≤ 16; omega) | (simp; omega) | (simp at hh ⊢; omega)) (fun hh => by first | omega | (show _ ≤ 16; omega) | (simp; omega) | (simp at hh ⊢; omega))) ?_
    refine al_pure rfl rfl rfl (pure_assign rfl gU) ?_
    refine al_nil ?_
    refine awp_sub (s := { t := [(0, _, _), (3, _, _), (4, _, _), (5, _, _)], bx := [], ow := [] }) (sub_mk (⟨sx rfl, ⟨sx rfl, ⟨sx rfl, ⟨sx rfl, trivial⟩⟩⟩⟩) trivial trivial) ?_
    refine awp_block ?_
    refine awp_seq (awp_region ?_)
    refine al_pure rfl rfl rfl (pure_move rfl gU) ?_
    refine al_pure rfl rfl rfl (pure_cmp rfl rfl gU gU rfl) ?_
    refine al_pure rfl rfl rfl (pure_assign rfl gU) ?_
    refine al_nil ?_
    refine awp_cond rfl (fun hc2 => ?_) (fun hc2 => ?_)
    · try simp only [nn, strR_len, Tk.rows_len] at hc2
      have h1 : quo1 (s.getD k 0) = [92, 110] := by unfold quo1; rw [if_pos (by omega)]
      refine awp_region ?_
      refine al_pure rfl rfl rfl (pure_move rfl gU) ?_
      refine al_pure rfl rfl rfl (pure_concat rfl rfl gU gU (by (try simp only [List.length_append, List.length_singleton]); (try simp); omega)) ?_
      refine al_pure rfl rfl rfl (pure_assign rfl gU) ?_
      refine al_nil ?_
      refine awp_sub (s := { t := [(0, _, _), (3, _, _), (4, _, _)], bx := [], ow := [] }) (sub_mk (⟨sx rfl, ⟨sx rfl, ⟨sx rfl, trivial⟩⟩⟩) trivial trivial) ?_
      refine awp_region ?_
      refine al_pure rfl rfl rfl (pure_move rfl gU) ?_
      refine al_pure rfl rfl rfl (pure_arith rfl rfl gU gU rfl (IntWalk.i64_in _ (by omega))) ?_
      refine al_pure rfl rfl rfl (pure_assign rfl gU) ?_
      refine al_nil ?_
      refine ⟨k + 1, ?_, ?_, sub_mk (⟨⟨_, rfl, ?_⟩, ⟨⟨_, rfl, ?_⟩, ⟨sx rfl, trivial⟩⟩⟩) trivial trivial⟩
      all_goals (first | rfl | omega | exact tx (congrArg xs (by rw [hT, h1]; simp only [List.append_assoc, List.cons_append, List.nil_append] <;> rfl)))
    · try simp only [nn, strR_len, Tk.rows_len] at hc2
      refine awp_seq (awp_region ?_)
      refine al_pure rfl rfl rfl (pure_move rfl gU) ?_
      refine al_pure rfl rfl rfl (pure_cmp rfl rfl gU gU rfl) ?_
      refine al_pure rfl rfl rfl (pure_assign rfl gU) ?_
      refine al_nil ?_
      refine awp_sub (s := { t := [(0, _, _), (3, _, _), (4, _, _), (5, _, _), (36, _, _)], bx := [], ow := [] }) (sub_mk (⟨sx rfl, ⟨sx rfl, ⟨sx rfl, ⟨sx rfl, ⟨sx rfl, trivial⟩⟩⟩⟩⟩) trivial trivial) ?_
      refine awp_cond rfl (fun hc3 => ?_) (fun hc3 => ?_)
      · try simp only [nn, strR_len, Tk.rows_len] at hc3
        have h1 : quo1 (s.getD k 0) = [92, 116] := by unfold quo1; rw [if_neg (by omega), if_pos (by omega)]
        refine awp_region ?_
        refine al_pure rfl rfl rfl (pure_move rfl gU) ?_
        refine al_pure rfl rfl rfl (pure_concat rfl rfl gU gU (by (try simp only [List.length_append, List.length_singleton]); (try simp); omega)) ?_
        refine al_pure rfl rfl rfl (pure_assign rfl gU) ?_
        refine al_nil ?_
        refine awp_region ?_
        refine al_pure rfl rfl rfl (pure_move rfl gU) ?_
        refine al_pure rfl rfl rfl (pure_arith rfl rfl gU gU rfl (IntWalk.i64_in _ (by omega))) ?_
        refine al_pure rfl rfl rfl (pure_assign rfl gU) ?_
        refine al_nil ?_
        refine ⟨k + 1, ?_, ?_, sub_mk (⟨⟨_, rfl, ?_⟩, ⟨⟨_, rfl, ?_⟩, ⟨sx rfl, trivial⟩⟩⟩) trivial trivial⟩
        all_goals (first | rfl | omega | exact tx (congrArg xs (by rw [hT, h1]; simp only [List.append_assoc, List.cons_append, List.nil_append] <;> rfl)))
      · try simp only [nn, strR_len, Tk.rows_len] at hc3
        refine awp_seq (awp_region ?_)
        refine al_pure rfl rfl rfl (pure_move rfl gU) ?_
        refine al_pure rfl rfl rfl (pure_cmp rfl rfl gU gU rfl) ?_
        refine al_pure rfl rfl rfl (pure_move rfl gU) ?_
        refine al_pure rfl rfl rfl (pure_move rfl gU) ?_
        refine al_pure rfl rfl rfl (pure_cmp rfl rfl (fun hh => hh) gU rfl) ?_
        refine al_pure rfl rfl rfl (pure_or rfl rfl gU (fun _ hi => gP rfl hi)) ?_
        refine al_pure rfl rfl rfl (pure_assign rfl gU) ?_
        refine al_nil ?_
        refine awp_sub (s := { t := [(0, _, _), (3, _, _), (4, _, _), (5, _, _), (41, _, _)], bx := [], ow := [] }) (sub_mk (⟨sx rfl, ⟨sx rfl, ⟨sx rfl, ⟨sx rfl, ⟨sx rfl, trivial⟩⟩⟩⟩⟩) trivial trivial) ?_
        refine awp_cond rfl (fun hc4 => ?_) (fun hc4 => ?_)
        · try simp only [nn, strR_len, Tk.rows_len] at hc4
          have h1 : quo1 (s.getD k 0) = [92, s.getD k 0] := by unfold quo1; rw [if_neg (by omega), if_neg (by omega), if_pos (by omega)]
          refine awp_region ?_
          refine al_pure rfl rfl rfl (pure_move rfl gU) ?_
          refine al_pure rfl rfl rfl (pure_concat rfl rfl gU gU (by (try simp only [List.length_append, List.length_singleton]); (try simp); omega)) ?_
          refine al_pure rfl rfl rfl (pure_move rfl gU) ?_
          refine al_pure rfl rfl rfl (pure_move rfl gU) ?_
          refine al_pure rfl rfl rfl (pure_move rfl gU) ?_
          refine al_pure rfl rfl rfl (pure_arith rfl rfl gU gU rfl (IntWalk.i64_in _ (by omega))) ?_
          refine al_pure rfl rfl rfl (pure_sliceS (l := k) (h' := (k + 1)) rfl gU Tryd.underlying9 (fun _ => ⟨_, _, _, rfl, gU, by first | omega | (show _ ≤ 16; omega) | (simp; omega) | (simp at hh ⊢; omega)⟩) (fun _ => ⟨_, _, _, rfl, gU, by first | omega | (show _ ≤ 16; omega) | (simp; omega) | (simp at hh ⊢; omega)⟩) (fun hh => by first | omega | (show _ ≤ 16; omega) | (simp; omega) | (simp at hh ⊢; omega)) (fun hh => by first | omega | (show _ ≤ 16; omega) | (simp; omega) | (simp at hh ⊢; omega))) ?_
          refine al_pure rfl rfl rfl (pure_concat rfl rfl gU gU (by (try simp only [List.length_append, List.length_singleton]); (try simp); omega)) ?_
          refine al_pure rfl rfl rfl (pure_assign rfl gU) ?_
          refine al_nil ?_
          refine awp_sub (s := { t := [(0, _, _), (3, _, _), (4, _, _)], bx := [], ow := [] }) (sub_mk (⟨sx rfl, ⟨sx rfl, ⟨sx rfl, trivial⟩⟩⟩) trivial trivial) ?_
          refine awp_region ?_
          refine al_pure rfl rfl rfl (pure_move rfl gU) ?_
          refine al_pure rfl rfl rfl (pure_arith rfl rfl gU gU rfl (IntWalk.i64_in _ (by omega))) ?_
          refine al_pure rfl rfl rfl (pure_assign rfl gU) ?_
          refine al_nil ?_
          refine ⟨k + 1, ?_, ?_, sub_mk (⟨⟨_, rfl, ?_⟩, ⟨⟨_, rfl, ?_⟩, ⟨sx rfl, trivial⟩⟩⟩) trivial trivial⟩
          all_goals (first | rfl | omega | exact tx (congrArg xs (by rw [hT, h1, e1]; simp only [List.append_assoc, List.cons_append, List.nil_append] <;> rfl)))
        · try simp only [nn, strR_len, Tk.rows_len] at hc4
          refine awp_seq (awp_region ?_)
          refine al_pure rfl rfl rfl (pure_move rfl gU) ?_
          refine al_pure rfl rfl rfl (pure_cmp rfl rfl gU gU rfl) ?_
          refine al_pure rfl rfl rfl (pure_move rfl gU) ?_
          refine al_pure rfl rfl rfl (pure_move rfl gU) ?_
          refine al_pure rfl rfl rfl (pure_cmp rfl rfl (fun hh => hh) gU rfl) ?_
          refine al_pure rfl rfl rfl (pure_and rfl rfl gU (fun _ hi => gP rfl hi)) ?_
          refine al_pure rfl rfl rfl (pure_assign rfl gU) ?_
          refine al_nil ?_
          refine awp_sub (s := { t := [(0, _, _), (3, _, _), (4, _, _), (5, _, _), (56, _, _)], bx := [], ow := [] }) (sub_mk (⟨sx rfl, ⟨sx rfl, ⟨sx rfl, ⟨sx rfl, ⟨sx rfl, trivial⟩⟩⟩⟩⟩) trivial trivial) ?_
          refine awp_cond rfl (fun hc5 => ?_) (fun hc5 => ?_)
          · try simp only [nn, strR_len, Tk.rows_len] at hc5
            have h1 : quo1 (s.getD k 0) = [s.getD k 0] := by unfold quo1; rw [if_neg (by omega), if_neg (by omega), if_neg (by omega), if_pos (by omega)]
            refine awp_region ?_
            refine al_pure rfl rfl rfl (pure_move rfl gU) ?_
            refine al_pure rfl rfl rfl (pure_move rfl gU) ?_
            refine al_pure rfl rfl rfl (pure_move rfl gU) ?_
            refine al_pure rfl rfl rfl (pure_move rfl gU) ?_
            refine al_pure rfl rfl rfl (pure_arith rfl rfl gU gU rfl (IntWalk.i64_in _ (by omega))) ?_
            refine al_pure rfl rfl rfl (pure_sliceS (l := k) (h' := (k + 1)) rfl gU Tryd.underlying9 (fun _ => ⟨_, _, _, rfl, gU, by first | omega | (show _ ≤ 16; omega) | (simp; omega) | (simp at hh ⊢; omega)⟩) (fun _ => ⟨_, _, _, rfl, gU, by first | omega | (show _ ≤ 16; omega) | (simp; omega) | (simp at hh ⊢; omega)⟩) (fun hh => by first | omega | (show _ ≤ 16; omega) | (simp; omega) | (simp at hh ⊢; omega)) (fun hh => by first | omega | (show _ ≤ 16; omega) | (simp; omega) | (simp at hh ⊢; omega))) ?_
            refine al_pure rfl rfl rfl (pure_concat rfl rfl gU gU (by (try simp only [List.length_append, List.length_singleton]); (try simp); omega)) ?_
            refine al_pure rfl rfl rfl (pure_assign rfl gU) ?_
            refine al_nil ?_
            refine awp_sub (s := { t := [(0, _, _), (3, _, _), (4, _, _)], bx := [], ow := [] }) (sub_mk (⟨sx rfl, ⟨sx rfl, ⟨sx rfl, trivial⟩⟩⟩) trivial trivial) ?_
            refine awp_region ?_
            refine al_pure rfl rfl rfl (pure_move rfl gU) ?_
            refine al_pure rfl rfl rfl (pure_arith rfl rfl gU gU rfl (IntWalk.i64_in _ (by omega))) ?_
            refine al_pure rfl rfl rfl (pure_assign rfl gU) ?_
            refine al_nil ?_
            refine ⟨k + 1, ?_, ?_, sub_mk (⟨⟨_, rfl, ?_⟩, ⟨⟨_, rfl, ?_⟩, ⟨sx rfl, trivial⟩⟩⟩) trivial trivial⟩
            all_goals (first | rfl | omega | exact tx (congrArg xs (by rw [hT, h1, e1]; simp only [List.append_assoc, List.cons_append, List.nil_append] <;> rfl)))
          · try simp only [nn, strR_len, Tk.rows_len] at hc5
            have h1 : quo1 (s.getD k 0) = [92, 120] ++ (hexs.take ((s.getD k 0).toNat / 16 + 1)).drop ((s.getD k 0).toNat / 16) ++ (hexs.take ((s.getD k 0).toNat % 16 + 1)).drop ((s.getD k 0).toNat % 16) := by unfold quo1; rw [if_neg (by omega), if_neg (by omega), if_neg (by omega), if_neg (by omega)]
            refine awp_drawn' (by kernel_rfl) ?_
            refine dr_pure rfl rfl rfl rfl (pure_move rfl gU) ?_
            refine dr_pure rfl rfl rfl rfl (pure_concat rfl rfl gU gU (by (try simp only [List.length_append, List.length_singleton]); (try simp); omega)) ?_
            refine dr_pure rfl rfl rfl rfl (pure_move rfl gU) ?_
            refine dr_pure rfl rfl rfl rfl (pure_quoG rfl rfl gU gU (fun hh => by first | omega | (show _ ≤ 16; omega) | (simp; omega) | (simp at hh ⊢; omega)) (fun hh => (congrArg IntKind.u8.wrap (Int.tdiv_eq_ediv_of_nonneg (by first | omega | (show _ ≤ 16; omega) | (simp; omega) | (simp at hh ⊢; omega)))).trans (IntWalk.u8_in _ (by omega)))) ?_
            refine dr_pure rfl rfl rfl rfl (pure_move rfl gU) ?_
            refine dr_pure rfl rfl rfl rfl (pure_quoG rfl rfl gU gU (fun hh => by first | omega | (show _ ≤ 16; omega) | (simp; omega) | (simp at hh ⊢; omega)) (fun hh => (congrArg IntKind.u8.wrap (Int.tdiv_eq_ediv_of_nonneg (by first | omega | (show _ ≤ 16; omega) | (simp; omega) | (simp at hh ⊢; omega)))).trans (IntWalk.u8_in _ (by omega)))) ?_
            refine dr_pure rfl rfl rfl rfl (pure_arith rfl rfl gU gU rfl (IntWalk.u8_in _ (by omega))) ?_
            refine dr_pure rfl rfl rfl rfl (pure_sliceS (l := ((s.getD k 0).toNat / 16)) (h' := ((s.getD k 0).toNat / 16 + 1)) rfl gU Tryd.underlying9 (fun _ => ⟨_, _, _, rfl, gU, by first | omega | (show _ ≤ 16; omega) | (simp; omega) | (simp at hh ⊢; omega)⟩) (fun _ => ⟨_, _, _, rfl, gU, by first | omega | (show _ ≤ 16; omega) | (simp; omega) | (simp at hh ⊢; omega)⟩) (fun hh => by first | omega | (show _ ≤ 16; omega) | (simp; omega) | (simp at hh ⊢; omega)) (fun hh => by first | omega | (show _ ≤ 16; omega) | (simp; omega) | (simp at hh ⊢; omega))) ?_
            refine dr_pure rfl rfl rfl rfl (pure_concat rfl rfl gU gU (by (try simp only [List.length_append, List.length_singleton]); (try simp); omega)) ?_
            refine dr_pure rfl rfl rfl rfl (pure_move rfl gU) ?_
            refine dr_pure rfl rfl rfl rfl (pure_remG rfl rfl gU gU (fun hh => by first | omega | (show _ ≤ 16; omega) | (simp; omega) | (simp at hh ⊢; omega)) (fun hh => Int.tmod_eq_emod_of_nonneg (by first | omega | (show _ ≤ 16; omega) | (simp; omega) | (simp at hh ⊢; omega)))) ?_
            refine dr_pure rfl rfl rfl rfl (pure_move rfl gU) ?_
            refine dr_pure rfl rfl rfl rfl (pure_remG rfl rfl gU gU (fun hh => by first | omega | (show _ ≤ 16; omega) | (simp; omega) | (simp at hh ⊢; omega)) (fun hh => Int.tmod_eq_emod_of_nonneg (by first | omega | (show _ ≤ 16; omega) | (simp; omega) | (simp at hh ⊢; omega)))) ?_
            refine dr_pure rfl rfl rfl rfl (pure_arith rfl rfl gU gU rfl (IntWalk.u8_in _ (by omega))) ?_
            refine dr_pure rfl rfl rfl rfl (pure_sliceS (l := ((s.getD k 0).toNat % 16)) (h' := ((s.getD k 0).toNat % 16 + 1)) rfl gU Tryd.underlying9 (fun _ => ⟨_, _, _, rfl, gU, by first | omega | (show _ ≤ 16; omega) | (simp; omega) | (simp at hh ⊢; omega)⟩) (fun _ => ⟨_, _, _, rfl, gU, by first | omega | (show _ ≤ 16; omega) | (simp; omega) | (simp at hh ⊢; omega)⟩) (fun hh => by first | omega | (show _ ≤ 16; omega) | (simp; omega) | (simp at hh ⊢; omega)) (fun hh => by first | omega | (show _ ≤ 16; omega) | (simp; omega) | (simp at hh ⊢; omega))) ?_
            refine dr_pure rfl rfl rfl rfl (pure_concat rfl rfl gU gU (by (try simp only [List.length_append, List.length_singleton]); (try simp); omega)) ?_
            refine dr_pure rfl rfl rfl rfl (pure_assign rfl gU) ?_
            refine dr_nil (by kernel_rfl) ?_
            refine awp_sub (s := { t := [(0, _, _), (3, _, _), (4, _, _)], bx := [], ow := [] }) (sub_mk (⟨sx rfl, ⟨sx rfl, ⟨sx rfl, trivial⟩⟩⟩) trivial trivial) ?_
            refine awp_region ?_
            refine al_pure rfl rfl rfl (pure_move rfl gU) ?_
            refine al_pure rfl rfl rfl (pure_arith rfl rfl gU gU rfl (IntWalk.i64_in _ (by omega))) ?_
            refine al_pure rfl rfl rfl (pure_assign rfl gU) ?_
            refine al_nil ?_
            refine ⟨k + 1, ?_, ?_, sub_mk (⟨⟨_, rfl, ?_⟩, ⟨⟨_, rfl, ?_⟩, ⟨sx rfl, trivial⟩⟩⟩) trivial trivial⟩
            all_goals (first | rfl | omega | exact tx (congrArg xs (by rw [hT, h1]; simp only [List.append_assoc, List.cons_append, List.nil_append] <;> rfl)))
  · try simp only [nn, strR_len, Tk.rows_len] at hc
    have hk : k = s.length := by omega
    rw [hk, List.take_length] at hqk ⊢
    refine awp_exit ?_
    repeat (first | refine thenS_exit ?_ | refine blockS_hit ?_ | refine blockS_miss rfl ?_)
    refine awp_seq (awp_region ?_)
    refine al_pure rfl rfl rfl (pure_move rfl gU) ?_
    refine al_pure rfl rfl rfl (pure_concat rfl rfl gU gU (by (try simp only [List.length_append, List.length_singleton]); (try simp); omega)) ?_
    refine al_pure rfl rfl rfl (pure_assign rfl gU) ?_
    refine al_nil ?_
    refine awp_ret ?_
    repeat (first | refine tR ?_ | refine bR ?_)
    refine ret_ok rfl ?_ trivial
    rfl
end Go.Proofs.YtiiboiomiacibaaDoor
/- The lexer and its reference read the same tokens and lines (plain). -/
set_option linter.unusedVariables false
set_option linter.unusedSimpArgs false
namespace Go.Proofs.YtiiboiomiacibaaDoor
open Go Go.Abs
def Tk.nl (t : Tk) (b : Bool) : Tk := if b = true then t else t.onl 0
def bareT (s : List UInt8) : List UInt8 := s.take (bareN true s)
theorem bareN_le : ∀ (i : Bool) (s : List UInt8), bareN i s ≤ s.length
  | _, [] => by simp [bareN]
  | _, [_] => by simp [bareN]
  | i, c :: d :: l => by
    have h1 := bareN_le true l
    have h2 := bareN_le (if c.toNat = 34 then !i else i) (d :: l)
    rw [bareN]
    simp only [List.length_cons] at h2 ⊢
    by_cases q1 : i = true ∧ c.toNat = 92
    · rw [if_pos q1]; omega
    · rw [if_neg q1]
      by_cases q2 : (if c.toNat = 34 then !i else i) = false ∧ c.toNat = 35 ∧ d.toNat = 35
      · rw [if_pos q2]; omega
      · rw [if_neg q2]; omega
theorem bareN_cons {i : Bool} {c : UInt8} {r : List UInt8} (h1 : ¬(i = true ∧ c.toNat = 92)) (h2 : ¬((if c.toNat = 34 then !i else i) = false ∧ c.toNat = 35 ∧ (r.getD 0 0).toNat = 35)) :
    bareN i (c :: r) = bareN (if c.toNat = 34 then !i else i) r + 1 := by
  cases r with
  | nil => simp [bareN]
  | cons d l =>
    rw [List.getD_cons_zero] at h2
    rw [bareN, if_neg h1, if_neg h2]
theorem bareE_cons {c : UInt8} {r : List UInt8} (hc : c.toNat ≠ 34) (h2 : ¬(c.toNat = 35 ∧ (r.getD 0 0).toNat = 35)) : bareE (c :: r) = c :: bareE r := by
  unfold bareE
  rw [bareN_cons (by simp) (by rw [if_neg hc]; rintro ⟨-, q⟩; exact h2 q), if_neg hc, List.take_succ_cons]
theorem bareE_quote {c : UInt8} {r : List UInt8} (hc : c.toNat = 34) : bareE (c :: r) = c :: bareT r := by
  unfold bareE bareT
  rw [bareN_cons (by simp) (by rintro ⟨-, q, -⟩; omega), if_pos hc, List.take_succ_cons]; rfl
theorem bareE_cut {c : UInt8} {r : List UInt8} (hc : c.toNat = 35) (hd : (r.getD 0 0).toNat = 35) : bareE (c :: r) = [] := by
  cases r with
  | nil => simp at hd
  | cons d l =>
    rw [List.getD_cons_zero] at hd
    unfold bareE
    rw [bareN, if_neg (by simp), if_pos ⟨by rw [if_neg (by omega)], hc, hd⟩]; rfl
theorem bareT_quote {c : UInt8} {r : List UInt8} (hc : c.toNat = 34) : bareT (c :: r) = c :: bareE r := by
  unfold bareE bareT
  rw [bareN_cons (by rintro ⟨-, q⟩; omega) (by rintro ⟨-, q, -⟩; omega), if_pos hc, List.take_succ_cons]; rfl
theorem bareT_cons {c : UInt8} {r : List UInt8} (h1 : c.toNat ≠ 34) (h2 : c.toNat ≠ 92) : bareT (c :: r) = c :: bareT r := by
  unfold bareT
  rw [bareN_cons (by rintro ⟨-, q⟩; omega) (by rw [if_neg h1]; rintro ⟨q, -⟩; simp at q), if_neg h1, List.take_succ_cons]
theorem bareT_esc {c d : UInt8} {r : List UInt8} (h : c.toNat = 92) : bareT (c :: d :: r) = c :: d :: bareT r := by
  unfold bareT
  rw [bareN, if_pos ⟨rfl, h⟩]; rfl
theorem bareT_one (c : UInt8) : bareT [c] = [c] := by unfold bareT; rw [bareN]; rfl
theorem bareE_nil : bareE [] = [] := rfl
theorem bareT_nil : bareT [] = [] := rfl
theorem pre35 (b : UInt8) (l : List UInt8) : ([35, 35] : List UInt8).isPrefixOf (b :: l) = (decide (b.toNat = 35) && decide ((l.getD 0 0).toNat = 35)) := by
  have hb : ∀ x : UInt8, ((35 : UInt8) == x) = decide (x.toNat = 35) := by
    intro x
    rw [Bool.eq_iff_iff]
    simp only [beq_iff_eq, decide_eq_true_eq]
    exact ⟨fun h => by subst h; rfl, fun h => UInt8.toNat_inj.1 (by rw [h]; rfl)⟩
  cases l with
  | nil => simp [List.isPrefixOf, hb]
  | cons c r => simp [List.isPrefixOf, hb]
/-- A name. -/
theorem name_bare : ∀ (l : List UInt8), wdN (bareE l) = nmP l ∧ (bareE l).take (nmP l) = l.take (nmP l) ∧ (bareE l).drop (nmP l) = bareE (l.drop (nmP l))
  | [] => by simp [bareE_nil, wdN, nmP]
  | b :: r => by
    by_cases h : partB (b.toNat : Int) = true ∧ ¬(b.toNat = 35 ∧ (r.getD 0 0).toNat = 35)
    · have h34 : b.toNat ≠ 34 := by
        intro q
        have := h.1
        rw [q] at this
        revert this; decide
      obtain ⟨i1, i2, i3⟩ := name_bare r
      rw [bareE_cons h34 h.2, wdN, if_pos h.1, nmP, if_pos h, i1]
      exact ⟨rfl, by rw [List.take_succ_cons, List.take_succ_cons, i2], by rw [List.drop_succ_cons, List.drop_succ_cons, i3]⟩
    · have hn : nmP (b :: r) = 0 := by rw [nmP, if_neg h]
      rw [hn]
      refine ⟨?_, by simp, by simp⟩
      by_cases hq : b.toNat = 35 ∧ (r.getD 0 0).toNat = 35
      · rw [bareE_cut hq.1 hq.2]; rfl
      · have hp : ¬partB (b.toNat : Int) = true := fun q => h ⟨q, hq⟩
        by_cases h34 : b.toNat = 34
        · rw [bareE_quote h34, wdN, if_neg hp]
        · rw [bareE_cons h34 hq, wdN, if_neg hp]
/-- A number. -/
theorem num_bare : ∀ (l : List UInt8) (n : Nat) (v : Int), numA (bareE l) n v = numA l n v ∧ ((numA l n v).1 = true → ∃ j, (numA l n v).2.1 = n + j ∧ (bareE l).drop j = bareE (l.drop j))
  | [], n, v => by rw [bareE_nil]; exact ⟨rfl, fun _ => ⟨0, rfl, rfl⟩⟩
  | b :: r, n, v => by
    by_cases h : digitB (b.toNat : Int) = true
    · have hd : (48 : Int) ≤ b.toNat ∧ (b.toNat : Int) ≤ 57 := by simpa [digitB] using h
      rw [bareE_cons (by omega) (by omega), numA, if_pos h, numA, if_pos h]
      split
      · exact ⟨rfl, fun q => by simp at q⟩
      · obtain ⟨i1, i2⟩ := num_bare r (n + 1) (10 * v + ((b.toNat : Int) - 48))
        refine ⟨i1, fun q => ?_⟩
        obtain ⟨j, q1, q2⟩ := i2 q
        exact ⟨j + 1, by omega, by rw [List.drop_succ_cons, List.drop_succ_cons, q2]⟩
    · have e : numA (b :: r) n v = (true, n, v) := by rw [numA, if_neg h]
      rw [e]
      refine ⟨?_, fun _ => ⟨0, rfl, rfl⟩⟩
      by_cases hq : b.toNat = 35 ∧ (r.getD 0 0).toNat = 35
      · rw [bareE_cut hq.1 hq.2]; rfl
      · by_cases h34 : b.toNat = 34
        · rw [bareE_quote h34, numA, if_neg h]
        · rw [bareE_cons h34 hq, numA, if_neg h]
theorem hex_ok {c : UInt8} (h : hexB c = true) : c.toNat ≠ 34 ∧ c.toNat ≠ 92 := by
  simp [hexB] at h
  omega
theorem take_getD' {α : Type} {l : List α} {d : α} {k j : Nat} (h : j < (l.take k).length) : (l.take k).getD j d = l.getD j d ∧ j < l.length := by
  rw [List.length_take] at h
  refine ⟨?_, by omega⟩
  simp only [List.getD_eq_getElem?_getD]; rw [List.getElem?_take, if_pos (by omega)]
/-- What stands behind a backslash within a literal. -/
theorem esc_bare (d : UInt8) (r : List UInt8) : escE (d :: bareT r) = escE (d :: r) ∧ ((escE (d :: r)).2 ≠ 0 → (d :: bareT r).drop (escE (d :: r)).2 = bareT ((d :: r).drop (escE (d :: r)).2)) := by
  have hx : (2 ≤ (bareT r).length ∧ hexB ((bareT r).getD 0 0) = true ∧ hexB ((bareT r).getD 1 0) = true) ↔ (2 ≤ r.length ∧ hexB (r.getD 0 0) = true ∧ hexB (r.getD 1 0) = true) := by
    constructor
    · rintro ⟨q1, q2, q3⟩
      obtain ⟨e1, e2⟩ := take_getD' (l := r) (d := 0) (k := bareN true r) (j := 0) (by show 0 < (bareT r).length; omega)
      obtain ⟨e3, e4⟩ := take_getD' (l := r) (d := 0) (k := bareN true r) (j := 1) (by show 1 < (bareT r).length; omega)
      exact ⟨by omega, by rw [← e1]; exact q2, by rw [← e3]; exact q3⟩
    · rintro ⟨q1, q2, q3⟩
      match r, q1 with
      | a :: b :: r, _ =>
        simp only [List.getD_cons_zero, List.getD_cons_succ] at q2 q3
        rw [bareT_cons (hex_ok q2).1 (hex_ok q2).2, bareT_cons (hex_ok q3).1 (hex_ok q3).2]
        exact ⟨by simp, q2, q3⟩
  by_cases hh : 2 ≤ r.length ∧ hexB (r.getD 0 0) = true ∧ hexB (r.getD 1 0) = true
  · have hb : ∃ a b t, r = a :: b :: t ∧ bareT r = a :: b :: bareT t := by
      match r, hh with
      | a :: b :: t, ⟨_, q2, q3⟩ =>
        simp only [List.getD_cons_zero, List.getD_cons_succ] at q2 q3
        exact ⟨a, b, t, rfl, by rw [bareT_cons (hex_ok q2).1 (hex_ok q2).2, bareT_cons (hex_ok q3).1 (hex_ok q3).2]⟩
    obtain ⟨a, b, t, rfl, hb⟩ := hb
    have e : escE (d :: bareT (a :: b :: t)) = escE (d :: a :: b :: t) := by
      rw [hb, escE, escE]
      simp
    refine ⟨e, fun _ => ?_⟩
    have h3 : (escE (d :: a :: b :: t)).2 = 1 ∨ (escE (d :: a :: b :: t)).2 = 3 ∨ (escE (d :: a :: b :: t)).2 = 0 := by
      rw [escE]
      repeat' split
      all_goals simp
    rcases h3 with h | h | h
    · rw [h]; rfl
    · rw [h, hb]; rfl
    · contradiction
  · have hh' : ¬(2 ≤ (bareT r).length ∧ hexB ((bareT r).getD 0 0) = true ∧ hexB ((bareT r).getD 1 0) = true) := fun q => hh (hx.1 q)
    have key : ∀ l : List UInt8, ¬(2 ≤ l.length ∧ hexB (l.getD 0 0) = true ∧ hexB (l.getD 1 0) = true) → escE (d :: l) = if d.toNat = 110 then (10, 1) else if d.toNat = 116 then (9, 1) else if d.toNat = 34 ∨ d.toNat = 92 then (d, 1) else (0, 0) := by
      intro l hl
      rw [escE]
      repeat' (split <;> try rfl)
      rename_i q
      exact absurd q.2 hl
    rw [key _ hh', key _ hh]
    refine ⟨rfl, fun q => ?_⟩
    have h1 : (if d.toNat = 110 then ((10 : UInt8), 1) else if d.toNat = 116 then (9, 1) else if d.toNat = 34 ∨ d.toNat = 92 then (d, 1) else (0, 0)).2 = 1 := by
      revert q
      repeat' split
      all_goals simp
    rw [h1]; rfl
/-- A literal. -/
theorem lit_bare : ∀ (N : Nat) (r : List UInt8), r.length ≤ N → ∀ (n m i : Nat) (out : List UInt8), r.length < n → (bareT r).length < m →
    litA m (bareT r) i out = litA n r i out ∧ ((litA n r i out).2 ≠ 0 → ∃ j, (litA n r i out).2 = i + j ∧ (bareT r).drop j = bareE (r.drop j))
  | N, [], _, n, m, i, out, hn, hm => by
    obtain ⟨n, rfl⟩ : ∃ k, n = k + 1 := ⟨n - 1, by simp at hn; omega⟩
    obtain ⟨m, rfl⟩ : ∃ k, m = k + 1 := ⟨m - 1, by omega⟩
    rw [bareT_nil]
    exact ⟨rfl, fun q => by simp [litA] at q⟩
  | 0, c :: r, h, _, _, _, _, _, _ => by simp at h
  | N + 1, c :: r, h, n, m, i, out, hn, hm => by
    obtain ⟨n, rfl⟩ : ∃ k, n = k + 1 := ⟨n - 1, by omega⟩
    obtain ⟨m, rfl⟩ : ∃ k, m = k + 1 := ⟨m - 1, by omega⟩
    simp only [List.length_cons] at h hn
    by_cases h34 : c.toNat = 34
    · rw [bareT_quote h34, litA, if_pos h34, litA, if_pos h34]
      exact ⟨rfl, fun _ => ⟨1, rfl, rfl⟩⟩
    by_cases h92 : c.toNat = 92
    · cases r with
      | nil =>
        rw [bareT_one, litA, if_neg h34, if_pos h92, litA, if_neg h34, if_pos h92]
        exact ⟨rfl, fun q => by simp [escE] at q⟩
      | cons d r =>
        obtain ⟨e1, e2⟩ := esc_bare d r
        rw [bareT_esc h92] at hm ⊢
        rw [litA, if_neg h34, if_pos h92, litA, if_neg h34, if_pos h92, e1]
        split
        · exact ⟨rfl, fun q => by simp at q⟩
        · rename_i hz
          rw [e2 hz]
          have hle := escE_le (d :: r)
          have hl2 : (bareT ((d :: r).drop (escE (d :: r)).2)).length < m := by
            rw [← e2 hz, List.length_drop]
            simp only [List.length_cons] at hm ⊢
            omega
          obtain ⟨i1, i2⟩ := lit_bare N ((d :: r).drop (escE (d :: r)).2) (by rw [List.length_drop]; omega) n m (i + 1 + (escE (d :: r)).2) (out ++ [(escE (d :: r)).1]) (by rw [List.length_drop]; omega) hl2
          refine ⟨i1, fun q => ?_⟩
          obtain ⟨j, q1, q2⟩ := i2 q
          refine ⟨1 + (escE (d :: r)).2 + j, by omega, ?_⟩
          rw [show 1 + (escE (d :: r)).2 + j = ((escE (d :: r)).2 + j) + 1 by omega, List.drop_succ_cons, List.drop_succ_cons, ← List.drop_drop, ← List.drop_drop, e2 hz, q2]
    · rw [bareT_cons h34 h92] at hm ⊢
      rw [litA, if_neg h34, if_neg h92, litA, if_neg h34, if_neg h92]
      split
      · exact ⟨rfl, fun q => by simp at q⟩
      · obtain ⟨i1, i2⟩ := lit_bare N r (by omega) n m (i + 1) (out ++ [c]) (by omega) (by simp only [List.length_cons] at hm; omega)
        refine ⟨i1, fun q => ?_⟩
        obtain ⟨j, q1, q2⟩ := i2 q
        exact ⟨j + 1, by omega, by rw [List.drop_succ_cons, List.drop_succ_cons, q2]⟩
theorem litE_bare {c : UInt8} {r : List UInt8} (hc : c.toNat = 34) : litE (bareE (c :: r)) = litE (c :: r) ∧ ((litE (c :: r)).2 ≠ 0 → (bareE (c :: r)).drop (litE (c :: r)).2 = bareE ((c :: r).drop (litE (c :: r)).2)) := by
  rw [bareE_quote hc]
  unfold litE
  simp only [List.drop_succ_cons, List.drop_zero, List.length_cons]
  obtain ⟨i1, i2⟩ := lit_bare r.length r (Nat.le_refl _) (r.length + 1 + 1) ((bareT r).length + 1 + 1) 1 [] (by omega) (by omega)
  refine ⟨i1, fun q => ?_⟩
  obtain ⟨j, q1, q2⟩ := i2 q
  rw [q1, Nat.add_comm, List.drop_succ_cons, List.drop_succ_cons, q2]
/-- The next token. -/
theorem next_bare {c : UInt8} {r : List UInt8} (k : Int) (h : ¬(c.toNat = 35 ∧ (r.getD 0 0).toNat = 35)) :
    (firstE (bareE (c :: r)) k).2.2 = (nextE (c :: r)).2.2 ∧ ((nextE (c :: r)).2.2 = 0 → (firstE (bareE (c :: r)) k).1 = (nextE (c :: r)).1.onl k ∧ (firstE (bareE (c :: r)) k).2.1 = (nextE (c :: r)).2.1 ∧
      (bareE (c :: r)).drop (nextE (c :: r)).2.1 = bareE ((c :: r).drop (nextE (c :: r)).2.1)) := by
  have h0 : (bareE (c :: r)).getD 0 0 = c := by
    by_cases h34 : c.toNat = 34
    · rw [bareE_quote h34]; rfl
    · rw [bareE_cons h34 h]; rfl
  unfold firstE nextE
  rw [h0, List.getD_cons_zero]
  by_cases hl : letterB (c.toNat : Int) = true
  · have hnl : nlE (c :: r) = nmP (c :: r) := by
      rw [nlE, nmP, if_pos ⟨by simp [partB, hl], h⟩]; simp; omega
    obtain ⟨i1, i2, i3⟩ := name_bare (c :: r)
    rw [if_pos hl, if_pos hl, i1, hnl]
    split
    · exact ⟨rfl, fun q => by simp at q⟩
    · rw [i2]
      exact ⟨rfl, fun _ => ⟨rfl, rfl, i3⟩⟩
  rw [if_neg hl, if_neg hl]
  by_cases hd : digitB (c.toNat : Int) = true
  · obtain ⟨i1, i2⟩ := num_bare (c :: r) 0 0
    rw [if_pos hd, if_pos hd, i1]
    split
    · rename_i hq
      obtain ⟨j, q1, q2⟩ := i2 hq
      refine ⟨rfl, fun _ => ⟨rfl, rfl, ?_⟩⟩
      dsimp only
      rw [q1, Nat.zero_add, q2]
    · exact ⟨rfl, fun q => by simp at q⟩
  rw [if_neg hd, if_neg hd]
  by_cases h34 : c.toNat = 34
  · obtain ⟨i1, i2⟩ := litE_bare (r := r) h34
    rw [if_pos h34, if_pos h34, i1]
    split
    · exact ⟨rfl, fun q => by simp at q⟩
    · rename_i hq
      exact ⟨rfl, fun _ => ⟨rfl, rfl, i2 hq⟩⟩
  rw [if_neg h34, if_neg h34]
  split
  · rw [bareE_cons h34 h]
    exact ⟨rfl, fun _ => ⟨rfl, rfl, rfl⟩⟩
  · exact ⟨rfl, fun q => by simp at q⟩
/-- A line. -/
theorem line_bare : ∀ (N : Nat) (l : List UInt8), l.length ≤ N → (∀ b ∈ l, b.toNat ≠ 10) → ∀ (n m : Nat) (k : Int) (out : List Tk), l.length < n → (bareE l).length < m → lineR m (bareE l) k out = lineP n l k out
  | N, [], _, _, n, m, k, out, hn, hm => by
    obtain ⟨n, rfl⟩ : ∃ k, n = k + 1 := ⟨n - 1, by simp at hn; omega⟩
    obtain ⟨m, rfl⟩ : ∃ k, m = k + 1 := ⟨m - 1, by omega⟩
    rw [bareE_nil, lineR, lineP, if_pos (.inl rfl)]
  | 0, c :: r, h, _, _, _, _, _, _, _ => by simp at h
  | N + 1, c :: r, h, hno, n, m, k, out, hn, hm => by
    obtain ⟨n, rfl⟩ : ∃ k, n = k + 1 := ⟨n - 1, by omega⟩
    obtain ⟨m, rfl⟩ : ∃ k, m = k + 1 := ⟨m - 1, by omega⟩
    simp only [List.length_cons] at h hn
    have hc10 := hno c (by simp)
    by_cases hw : whiteB c = true
    · have hw2 : c.toNat = 32 ∨ c.toNat = 9 ∨ c.toNat = 13 := by simp [whiteB] at hw; omega
      have hin : wsp.contains c = true := by
        rcases hw2 with q | q | q
        · rw [show c = 32 from UInt8.toNat_inj.1 q]; rfl
        · rw [show c = 9 from UInt8.toNat_inj.1 q]; rfl
        · rw [show c = 13 from UInt8.toNat_inj.1 q]; rfl
      have ht : trimE (c :: r) = trimE r := by
        unfold trimE
        rw [List.dropWhile_cons, if_pos hin]
      have e1 : lineP (n + 1) (c :: r) k out = lineP (n + 1) r k out := by rw [lineP, lineP, ht]
      have hb : bareE (c :: r) = c :: bareE r := bareE_cons (by omega) (by omega)
      rw [hb] at hm ⊢
      rw [lineR, if_pos hw, e1]
      exact line_bare N r (by omega) (fun b hb => hno b (by simp [hb])) (n + 1) m k out (by omega) (by simp only [List.length_cons] at hm; omega)
    · have hin : ¬wsp.contains c = true := by
        intro q
        apply hw
        have : c = 32 ∨ c = 9 ∨ c = 13 := by simpa [wsp] using q
        rcases this with rfl | rfl | rfl <;> rfl
      have ht : trimE (c :: r) = c :: r := by
        unfold trimE
        rw [List.dropWhile_cons, if_neg hin]
      by_cases h35 : c.toNat = 35 ∧ (r.getD 0 0).toNat = 35
      · rw [bareE_cut h35.1 h35.2, lineR, lineP, ht, if_pos (.inr (by rw [pre35]; simp only [h35.1, h35.2, decide_true, Bool.and_self]))]
      · obtain ⟨e1, e2⟩ := next_bare (c := c) (r := r) k h35
        have hne : 0 < (c :: r).length := by simp
        have hnx := nextE_le hne
        have hb : ∃ t, bareE (c :: r) = c :: t := by
          by_cases h34 : c.toNat = 34
          · exact ⟨_, bareE_quote h34⟩
          · exact ⟨_, bareE_cons h34 h35⟩
        obtain ⟨t, hb⟩ := hb
        have hb1 : 1 ≤ (bareE (c :: r)).length := by rw [hb]; simp
        rw [lineP, ht, if_neg (by
          rintro (q | q)
          · cases q
          · rw [pre35] at q; simp at q; exact h35 q)]
        have e3 : lineR (m + 1) (bareE (c :: r)) k out = if (firstE (bareE (c :: r)) k).2.2 ≠ 0 then ([], (firstE (bareE (c :: r)) k).2.2) else lineR m ((bareE (c :: r)).drop (firstE (bareE (c :: r)) k).2.1) k (out ++ [(firstE (bareE (c :: r)) k).1]) := by
          rw [hb, lineR, if_neg hw]
        rw [e3, e1]
        split
        · rfl
        · rename_i hz
          have hz := Decidable.not_not.1 hz
          obtain ⟨q1, q2, q3⟩ := e2 hz
          have hge := hnx.2 hz
          rw [q1, q2, q3]
          refine line_bare N _ (by rw [List.length_drop]; simp only [List.length_cons]; omega) (fun b hb => hno b (List.mem_of_mem_drop hb)) n m k _ (by rw [List.length_drop]; simp only [List.length_cons]; omega) ?_
          rw [← q3, List.length_drop]
          omega
/-- The lines. -/
def fin : List (List UInt8) → List (List UInt8)
  | [] => []
  | [x] => if x = [] then [] else [x]
  | x :: y :: r => x :: fin (y :: r)
theorem lnsA_fin : ∀ (s line : List UInt8) (out : List (List UInt8)), ∀ x r, spl s = x :: r → lnsA s line out = out ++ fin ((line ++ x) :: r)
  | [], line, out, x, r, h => by
    simp only [spl, List.cons.injEq] at h
    obtain ⟨rfl, rfl⟩ := h
    rw [lnsA, fin, List.append_nil]
    split <;> simp
  | b :: l, line, out, x, r, h => by
    rw [lnsA]
    rw [spl] at h
    split at h
    · rename_i hb
      rw [if_pos hb]
      simp only [List.cons.injEq] at h
      obtain ⟨rfl, rfl⟩ := h
      cases hs : spl l with
      | nil => exact absurd hs (spl_ne l)
      | cons y r =>
        rw [lnsA_fin l [] (out ++ [line]) y r hs, fin]
        simp
    · rename_i hb
      rw [if_neg hb]
      split at h
      · rename_i hs; exact absurd hs (spl_ne l)
      · rename_i y t hs
        simp only [List.cons.injEq] at h
        obtain ⟨rfl, rfl⟩ := h
        rw [lnsA_fin l (line ++ [b]) out y t hs]
        simp
theorem lnsR_fin (s : List UInt8) : lnsR s = fin (spl s) := by
  cases hs : spl s with
  | nil => exact absurd hs (spl_ne s)
  | cons x r =>
    unfold lnsR
    rw [lnsA_fin s [] [] x r hs]
    simp
theorem fin_last : ∀ (L : List (List UInt8)), L ≠ [] → fin L = if L.getD (L.length - 1) [] = [] then L.take (L.length - 1) else L
  | [], h => absurd rfl h
  | [x], _ => by rw [fin]; simp
  | x :: y :: r, _ => by
    have ih := fin_last (y :: r) (by simp)
    rw [fin, ih]
    have e : (x :: y :: r).length - 1 = ((y :: r).length - 1) + 1 := by simp
    rw [e, List.getD_cons_succ, List.take_succ_cons]
    split <;> rfl
theorem spl_no10 : ∀ (s : List UInt8), ∀ x ∈ spl s, ∀ b ∈ x, b.toNat ≠ 10
  | [], x, hx, b, hb => by simp [spl] at hx; subst hx; simp at hb
  | c :: l, x, hx, b, hb => by
    have ih := spl_no10 l
    rw [spl] at hx
    split at hx
    · rcases List.mem_cons.1 hx with q | q
      · subst q; simp at hb
      · exact ih x q b hb
    · rename_i hc
      split at hx
      · simp at hx; subst hx; simp at hb; subst hb; exact hc
      · rename_i y t hs
        rw [hs] at ih
        rcases List.mem_cons.1 hx with q | q
        · subst q
          rcases List.mem_cons.1 hb with z | z
          · subst z; exact hc
          · exact ih y (by simp) b z
        · exact ih x (by simp [q]) b hb
theorem toks_fin : ∀ (L : List (List UInt8)), (∀ x ∈ L, ∀ b ∈ x, b.toNat ≠ 10) → ∀ (k : Nat) (out : List Tk), toksR (fin L) k out = toksP L k out
  | [], _, k, out => rfl
  | [x], h, k, out => by
    have hl := line_bare x.length x (Nat.le_refl _) (h x (by simp)) (x.length + 1) ((bareE x).length + 1) (k : Int) out (by omega) (by omega)
    rw [fin]
    split
    · rename_i hx
      subst hx
      rw [toksP, show (lineP (([] : List UInt8).length + 1) [] (k : Int) out) = (out, 0) by rw [lineP, if_pos (.inl rfl)]]
      rfl
    · rw [toksP, toksR, hl]
      rfl
  | x :: y :: r, h, k, out => by
    have hl := line_bare x.length x (Nat.le_refl _) (h x (by simp)) (x.length + 1) ((bareE x).length + 1) (k : Int) out (by omega) (by omega)
    rw [fin, toksP, toksR, hl]
    split
    · rfl
    · exact toks_fin (y :: r) (fun z hz => h z (List.mem_cons_of_mem _ hz)) (k + 1) _
theorem tok_eq (s : List UInt8) : tokR s = tokP s := by
  unfold tokR tokP
  rw [lnsR_fin, toks_fin _ (spl_no10 s)]
/-- The text again. -/
def joinNL (L : List (List UInt8)) : List UInt8 := (L.map (· ++ [10])).flatten
theorem spl_join : ∀ (s : List UInt8), joinNL (spl s) = s ++ [10]
  | [] => rfl
  | c :: l => by
    have ih := spl_join l
    rw [spl]
    split
    · rename_i hc
      unfold joinNL at ih ⊢
      rw [List.map_cons, List.flatten_cons, ih, show c = 10 from UInt8.toNat_inj.1 hc]; rfl
    · split
      · rename_i hs; exact absurd hs (spl_ne l)
      · rename_i y t hs
        rw [hs] at ih
        unfold joinNL at ih ⊢
        rw [List.map_cons, List.flatten_cons] at ih ⊢
        rw [List.cons_append, List.cons_append, ih]; rfl
theorem fin_join : ∀ (L : List (List UInt8)) (t : List UInt8), joinNL L = t ++ [10] → joinNL (fin L) = t ∨ joinNL (fin L) = t ++ [10]
  | [], t, h => .inr h
  | [x], t, h => by
    rw [fin]
    split
    · rename_i hx
      subst hx
      left
      have : ([] : List UInt8) ++ [10] = t ++ [10] := h
      exact (List.append_cancel_right this)
    · exact .inr h
  | x :: y :: r, t, h => by
    have e1 : joinNL (x :: y :: r) = x ++ [10] ++ joinNL (y :: r) := rfl
    have hlast : ∃ u, joinNL (y :: r) = u ++ [10] := by
      have : ∀ (L : List (List UInt8)), L ≠ [] → ∃ u, joinNL L = u ++ [10] := by
        intro L
        induction L with
        | nil => intro h; exact absurd rfl h
        | cons a L ih =>
          intro _
          by_cases hL : L = []
          · subst hL; exact ⟨a, by simp [joinNL]⟩
          · obtain ⟨u, hu⟩ := ih hL
            exact ⟨a ++ [10] ++ u, by show (a ++ [10]) ++ joinNL L = _; rw [hu]; simp⟩
      exact this _ (by simp)
    obtain ⟨u, hu⟩ := hlast
    have ht : t = x ++ [10] ++ u := by
      rw [e1, hu, ← List.append_assoc] at h
      exact (List.append_cancel_right h).symm
    have e2 : joinNL (fin (x :: y :: r)) = x ++ [10] ++ joinNL (fin (y :: r)) := by rw [fin]; rfl
    rw [e2, ht]
    rcases fin_join (y :: r) u hu with q | q
    · left; rw [q]
    · right; rw [q, List.append_assoc (x ++ [10])]
theorem lnsR_join (s : List UInt8) : joinNL (lnsR s) = s ∨ joinNL (lnsR s) = s ++ [10] := by
  rw [lnsR_fin]
  exact fin_join _ _ (spl_join s)
end Go.Proofs.YtiiboiomiacibaaDoor
/- Literals of strings lead back; names (plain). -/
set_option linter.unusedVariables false
set_option linter.unusedSimpArgs false
namespace Go.Proofs.YtiiboiomiacibaaDoor
open Go Go.Abs
theorem hexdI : ∀ n : Fin 256, hexB (hexs.getD ((UInt8.ofNat n.val).toNat / 16) 0) = true ∧ hexB (hexs.getD ((UInt8.ofNat n.val).toNat % 16) 0) = true ∧
    UInt8.ofNat (16 * hexV (hexs.getD ((UInt8.ofNat n.val).toNat / 16) 0) + hexV (hexs.getD ((UInt8.ofNat n.val).toNat % 16) 0)).toNat = UInt8.ofNat n.val ∧
    (hexs.take ((UInt8.ofNat n.val).toNat / 16 + 1)).drop ((UInt8.ofNat n.val).toNat / 16) = [hexs.getD ((UInt8.ofNat n.val).toNat / 16) 0] ∧
    (hexs.take ((UInt8.ofNat n.val).toNat % 16 + 1)).drop ((UInt8.ofNat n.val).toNat % 16) = [hexs.getD ((UInt8.ofNat n.val).toNat % 16) 0] := by decide +kernel
theorem hexd (c : UInt8) : hexB (hexs.getD (c.toNat / 16) 0) = true ∧ hexB (hexs.getD (c.toNat % 16) 0) = true ∧
    UInt8.ofNat (16 * hexV (hexs.getD (c.toNat / 16) 0) + hexV (hexs.getD (c.toNat % 16) 0)).toNat = c ∧
    (hexs.take (c.toNat / 16 + 1)).drop (c.toNat / 16) = [hexs.getD (c.toNat / 16) 0] ∧
    (hexs.take (c.toNat % 16 + 1)).drop (c.toNat % 16) = [hexs.getD (c.toNat % 16) 0] := by
  have := hexdI ⟨c.toNat, c.toNat_lt⟩
  rwa [show UInt8.ofNat c.toNat = c from UInt8.ofNat_toNat] at this
/-- One byte of a literal, read again. -/
theorem lit_quo1 (c : UInt8) (t : List UInt8) (n i : Nat) (out : List UInt8) : litA (n + 1) (quo1 c ++ t) i out = litA n t (i + (quo1 c).length) (out ++ [c]) := by
  obtain ⟨x1, x2, x3, x4, x5⟩ := hexd c
  have esc : ∀ (d : UInt8) (l : List UInt8), litA (n + 1) (92 :: d :: l) i out = if (escE (d :: l)).2 = 0 then ([], 0) else litA n ((d :: l).drop (escE (d :: l)).2) (i + 1 + (escE (d :: l)).2) (out ++ [(escE (d :: l)).1]) := by
    intro d l
    rw [litA, if_neg (by decide), if_pos (by decide)]
  unfold quo1
  split
  · rename_i h
    show litA (n + 1) (92 :: 110 :: t) i out = _
    rw [esc, show escE (110 :: t) = (10, 1) from rfl, if_neg (by simp), show c = 10 from UInt8.toNat_inj.1 h]; rfl
  split
  · rename_i h
    show litA (n + 1) (92 :: 116 :: t) i out = _
    rw [esc, show escE (116 :: t) = (9, 1) from rfl, if_neg (by simp), show c = 9 from UInt8.toNat_inj.1 h]; rfl
  split
  · rename_i h1 h2 h
    show litA (n + 1) (92 :: c :: t) i out = _
    have he : escE (c :: t) = (c, 1) := by rw [escE, if_neg (by omega), if_neg (by omega), if_pos h]
    rw [esc, he, if_neg (by simp)]; rfl
  split
  · rename_i h1 h2 h3 h
    show litA (n + 1) (c :: t) i out = _
    rw [litA, if_neg (by omega), if_neg (by omega), if_neg (by omega)]; rfl
  · rename_i h1 h2 h3 h4
    rw [x4, x5]
    show litA (n + 1) (92 :: 120 :: hexs.getD (c.toNat / 16) 0 :: hexs.getD (c.toNat % 16) 0 :: t) i out = _
    have he : escE (120 :: hexs.getD (c.toNat / 16) 0 :: hexs.getD (c.toNat % 16) 0 :: t) = (c, 3) := by
      rw [escE, if_neg (by decide), if_neg (by decide), if_neg (by decide), if_pos ⟨by decide, by simp, x1, x2⟩]
      simp only [List.getD_cons_zero, List.getD_cons_succ]
      rw [x3]
    rw [esc, he, if_neg (by simp)]; rfl
theorem lit_quoB : ∀ (s t : List UInt8) (n i : Nat) (out : List UInt8), s.length ≤ n → litA (n + 1) (quoB s ++ 34 :: t) i out = (out ++ s, i + (quoB s).length + 1)
  | [], t, n, i, out, _ => by
    show litA (n + 1) (34 :: t) i out = _
    rw [litA, if_pos (by decide), List.append_nil]; rfl
  | c :: s, t, 0, i, out, h => by simp at h
  | c :: s, t, n + 1, i, out, h => by
    show litA (n + 1 + 1) (quo1 c ++ quoB s ++ 34 :: t) i out = _
    rw [List.append_assoc, lit_quo1, lit_quoB s t n _ _ (by simpa using h), List.append_assoc]
    show _ = (out ++ c :: s, i + (quo1 c ++ quoB s).length + 1)
    rw [List.length_append, ← Nat.add_assoc]; rfl
theorem quoE_len (s : List UInt8) : (quoE s).length = (quoB s).length + 2 := by simp [quoE]
theorem litE_quo (s t : List UInt8) : litE (quoE s ++ t) = (s, (quoE s).length) := by
  have e : quoE s ++ t = 34 :: (quoB s ++ 34 :: t) := by simp [quoE]
  rw [quoE_len, e, litE]
  simp only [List.drop_succ_cons, List.drop_zero, List.length_cons]
  rw [lit_quoB s t _ 1 [] (by have := quoB_len s; simp; omega)]
  rw [List.nil_append, Nat.add_comm 1]
theorem unq_quo (s : List UInt8) : unqE (quoE s) = (s, 0) := by
  have h := litE_quo s []
  rw [List.append_nil] at h
  unfold unqE
  rw [if_neg (by
    rintro (q | q)
    · simp [quoE] at q
    · exact q (by simp [quoE])), h, if_neg (by simp)]
/-- Names. -/
theorem nmP_all : ∀ (l : List UInt8), nmP l = l.length → l.all (fun b => partB (b.toNat : Int)) = true
  | [], _ => rfl
  | b :: l, h => by
    rw [nmP] at h
    split at h
    · rename_i hq
      rw [List.all_cons, hq.1, nmP_all l (by simpa using h)]; rfl
    · simp at h
theorem part_no10 {b : UInt8} (h : partB (b.toNat : Int) = true) : b.toNat ≠ 10 := by
  intro q
  rw [q] at h
  revert h; decide
theorem spl_one : ∀ (s : List UInt8), (∀ b ∈ s, b.toNat ≠ 10) → spl s = [s]
  | [], _ => rfl
  | c :: l, h => by
    rw [spl, if_neg (h c (by simp)), spl_one l fun b hb => h b (by simp [hb])]
theorem letter_white {c : UInt8} (h : letterB (c.toNat : Int) = true) : wsp.contains c = false := by
  rw [Bool.eq_false_iff]
  intro q
  have : c = 32 ∨ c = 9 ∨ c = 13 := by simpa [wsp] using q
  rcases this with rfl | rfl | rfl <;> revert h <;> decide
theorem lineP_nil (n : Nat) (k : Int) (out : List Tk) : lineP n [] k out = (out, 0) := by
  cases n with
  | zero => rfl
  | succ n => rw [lineP, if_pos (.inl rfl)]
theorem lineP_pre : ∀ (n : Nat) (l : List UInt8) (k : Int) (out : List Tk), (lineP n l k out).2 = 0 → ∃ e, (lineP n l k out).1 = out ++ e
  | 0, l, k, out, _ => ⟨[], by simp [lineP]⟩
  | n + 1, l, k, out, h => by
    rw [lineP] at h ⊢
    split
    · exact ⟨[], by simp⟩
    · rename_i h1
      rw [if_neg h1] at h
      split at h
      · rename_i h2; exact absurd h h2
      · rename_i h2
        rw [if_neg h2]
        obtain ⟨e, he⟩ := lineP_pre n _ k _ h
        exact ⟨[(nextE (trimE l)).1.onl k] ++ e, by rw [he, List.append_assoc]⟩
def isNmE (s : List UInt8) : Bool := (((decide (s ≠ [])) && letterB ((s.getD 0 0).toNat : Int)) && decide (nlE s = s.length)) && decide (s.length ≤ 24)
def rnmE (s : List UInt8) : Bool := (((decide ((tokR s).2.2 = 0) && decide ((tokR s).1.length = 1)) && decide (((tokR s).1.getD 0 tk0).kind = 1)) && decide (((tokR s).1.getD 0 tk0).text = s)) && nameB s
theorem name_line {s : List UInt8} (hl : letterB ((s.getD 0 0).toNat : Int) = true) (hne : s ≠ []) (hno : ∀ b ∈ s, b.toNat ≠ 10) (h24 : nlE s ≤ 24) (hs : s.length ≤ 65536) :
    ∃ n, tokP s = if (lineP n (s.drop (nlE s)) 1 [⟨1, s.take (nlE s), 0, [], 1⟩]).2 ≠ 0 then ([], 1, (lineP n (s.drop (nlE s)) 1 [⟨1, s.take (nlE s), 0, [], 1⟩]).2) else ((lineP n (s.drop (nlE s)) 1 [⟨1, s.take (nlE s), 0, [], 1⟩]).1, 0, 0) := by
  obtain ⟨c, r, rfl⟩ : ∃ c r, s = c :: r := by
    cases s with
    | nil => exact absurd rfl hne
    | cons c r => exact ⟨c, r, rfl⟩
  rw [List.getD_cons_zero] at hl
  have ht : trimE (c :: r) = c :: r := by
    unfold trimE
    rw [List.dropWhile_cons, letter_white hl]; rfl
  have hnx : nextE (c :: r) = (⟨1, (c :: r).take (nlE (c :: r)), 0, [], 0⟩, nlE (c :: r), 0) := by
    rw [nextE, List.getD_cons_zero, if_pos hl, if_neg (by omega)]
  have h35 : c.toNat ≠ 35 := by
    intro q
    rw [q] at hl
    revert hl; decide
  have hq1 : ¬(c :: r = [] ∨ [35, 35].isPrefixOf (c :: r) = true) := by
    rintro (q | q)
    · cases q
    · rw [pre35] at q
      simp only [Bool.and_eq_true, decide_eq_true_eq] at q
      exact h35 q.1
  have hL : lineP ((c :: r).length + 1) (c :: r) ((1 : Nat) : Int) [] = lineP (c :: r).length ((c :: r).drop (nlE (c :: r))) 1 [⟨1, (c :: r).take (nlE (c :: r)), 0, [], 1⟩] := by
    rw [lineP, ht, if_neg hq1, hnx, if_neg (by simp)]; rfl
  refine ⟨(c :: r).length, ?_⟩
  unfold tokP
  rw [if_neg (by omega), spl_one _ hno, toksP, hL]; rfl
theorem names_eq (s : List UInt8) (hs : s.length ≤ 65536) : isNmE s = rnmE s := by
  unfold rnmE
  rw [tok_eq, Bool.eq_iff_iff]
  constructor
  · intro h
    simp only [isNmE, Bool.and_eq_true, decide_eq_true_eq] at h
    obtain ⟨⟨⟨h1, h2⟩, h3⟩, h4⟩ := h
    have hp := List.length_pos_iff.2 h1
    have hall : s.all (fun b => partB (b.toNat : Int)) = true := by
      obtain ⟨c, r, rfl⟩ : ∃ c r, s = c :: r := by
        cases s with
        | nil => exact absurd rfl h1
        | cons c r => exact ⟨c, r, rfl⟩
      rw [List.getD_cons_zero] at h2
      have := nmP_all r (by unfold nlE at h3; simp at h3; omega)
      rw [List.all_cons, this, Bool.and_true]
      simp [partB, h2]
    have hno : ∀ b ∈ s, b.toNat ≠ 10 := fun b hb => part_no10 (by have := List.all_eq_true.1 hall b hb; exact this)
    obtain ⟨n, hn⟩ := name_line h2 h1 hno (by omega) hs
    rw [h3, List.drop_length, List.take_length, lineP_nil] at hn
    rw [if_neg (by simp)] at hn
    rw [hn]
    simp [nameB, hall, h4, h2]
    exact ⟨by omega, by simpa using h2⟩
  · intro h
    simp only [Bool.and_eq_true, decide_eq_true_eq] at h
    obtain ⟨⟨⟨⟨h1, h2⟩, h3⟩, h4⟩, h5⟩ := h
    simp only [nameB, Bool.and_eq_true, decide_eq_true_eq] at h5
    obtain ⟨⟨⟨g1, g2⟩, g3⟩, g4⟩ := h5
    have hne : s ≠ [] := fun q => by subst q; simp at g1
    have hno : ∀ b ∈ s, b.toNat ≠ 10 := fun b hb => part_no10 (by have := List.all_eq_true.1 g4 b hb; exact this)
    have hle := nlE_le (s := s) (by omega)
    obtain ⟨n, hn⟩ := name_line g3 hne hno (by omega) hs
    have hfull : nlE s = s.length := by
      by_cases hz : (lineP n (s.drop (nlE s)) 1 [⟨1, s.take (nlE s), 0, [], 1⟩]).2 = 0
      · obtain ⟨e, he⟩ := lineP_pre n _ 1 _ hz
        rw [if_neg (by rw [hz]; simp)] at hn
        rw [hn, he] at h4
        have h4 : s.take (nlE s) = s := h4
        have := congrArg List.length h4
        rw [List.length_take] at this
        omega
      · rw [if_pos hz] at hn
        rw [hn] at h1
        exact absurd h1 hz
    simp only [isNmE, Bool.and_eq_true, decide_eq_true_eq]
    exact ⟨⟨⟨hne, g3⟩, hfull⟩, g2⟩
end Go.Proofs.YtiiboiomiacibaaDoor
/- Contracts: names, lines, literals; the examples; the comparisons of the reference. -/
set_option linter.unusedVariables false
set_option linter.unusedSimpArgs false
namespace Go.Proofs.YtiiboiomiacibaaDoor
open Go Go.Abs
theorem lisName_spec (s : List UInt8) (hs : s.length ≤ 1000000) : Ctr sys 15 [xs s] [] (xb (isNmE s)) none [] := by
  refine spec_intro Tryd.func15 rfl rfl rfl rfl rfl rfl ?_
  refine awp_seq (awp_region ?_)
  refine al_pure rfl rfl rfl (pure_assign rfl gU) ?_
  refine al_nil ?_
  refine awp_seq (awp_region ?_)
  refine al_pure rfl rfl rfl (pure_move rfl gU) ?_
  refine al_pure rfl rfl rfl (pure_cmpS rfl rfl gU gU rfl) ?_
  refine al_pure rfl rfl rfl (pure_move rfl gU) ?_
  refine al_pure rfl rfl rfl (pure_move rfl gU) ?_
  refine al_pure rfl rfl rfl (pure_indexSg (j := 0) rfl rfl (fun hh => hh) gU Tryd.underlying9 (by first | omega | (simp at hh ⊢; exact List.length_pos_iff.2 hh) | (simp at hh ⊢; omega)) (fun hh => by first | omega | (simp at hh ⊢; exact List.length_pos_iff.2 hh) | (simp at hh ⊢; omega))) ?_
  refine al_call rfl rfl rfl rfl rfl rfl gU (fun hh => gA ((fun hh => hh) hh) (rfl)) (lletter_spec _) rfl ?_
  refine al_pure rfl rfl rfl (pure_and rfl rfl gU (fun _ hi => gP rfl hi)) ?_
  refine al_pure rfl rfl rfl (pure_move rfl gU) ?_
  refine al_pure rfl rfl rfl (pure_move rfl gU) ?_
  refine al_call rfl rfl rfl rfl rfl rfl gU (fun hh => gA ((fun hh => hh) hh) (rfl)) (nameLength_spec _ (by omega)) rfl ?_
  refine al_pure rfl rfl rfl (pure_move rfl gU) ?_
  refine al_sub (s := { t := [(0, _, _), (10, _, _), (12, _, _), (13, _, _)], bx := [], ow := [] }) (sub_mk (⟨sx rfl, ⟨sx rfl, ⟨sx rfl, ⟨sx rfl, trivial⟩⟩⟩⟩) trivial trivial) ?_
  refine al_pure rfl rfl rfl (pure_lenS rfl (fun hh => hh) (Tryd.underlying9)) ?_
  refine al_pure rfl rfl rfl (pure_cmp rfl rfl (fun hh => hh) (fun hh => hh) rfl) ?_
  refine al_pure rfl rfl rfl (pure_and rfl rfl gU (fun _ hi => gP rfl hi)) ?_
  refine al_pure rfl rfl rfl (pure_move rfl gU) ?_
  refine al_pure rfl rfl rfl (pure_move rfl gU) ?_
  refine al_pure rfl rfl rfl (pure_lenS rfl (fun hh => hh) (Tryd.underlying9)) ?_
  refine al_pure rfl rfl rfl (pure_cmp rfl rfl (fun hh => hh) gU rfl) ?_
  refine al_pure rfl rfl rfl (pure_and rfl rfl gU (fun _ hi => gP rfl hi)) ?_
  refine al_pure rfl rfl rfl (pure_assign rfl gU) ?_
  refine al_nil ?_
  refine awp_ret ?_
  repeat (first | refine tR ?_ | refine bR ?_)
  refine ret_ok rfl ?_ trivial
  refine xb_eq ?_
  unfold isNmE
  rw [Bool.eq_iff_iff]
  simp only [Bool.and_eq_true, decide_eq_true_eq, bne_iff_ne, ne_eq]
  constructor
  · rintro ⟨⟨⟨a, b⟩, c⟩, d⟩
    refine ⟨⟨⟨?_, b⟩, ?_⟩, ?_⟩
    · simpa using a
    · have c' := c; simp at c'; omega
    · omega
  · rintro ⟨⟨⟨a, b⟩, c⟩, d⟩
    refine ⟨⟨⟨?_, b⟩, ?_⟩, ?_⟩
    · simpa using a
    · simp; omega
    · omega
theorem len_pos {s : List UInt8} (h : s ≠ []) : 0 < s.length := List.length_pos_iff.2 h
theorem lunq_spec (s : List UInt8) (hs : s.length ≤ 1000000) : Ctr sys 21 [xs s] [] (xse (unqE s)) none [] := by
  refine spec_intro Tryd.func21 rfl rfl rfl rfl rfl rfl ?_
  refine awp_seq (awp_region ?_)
  refine al_pure rfl rfl rfl (pure_assign rfl gU) ?_
  refine al_pure rfl rfl rfl (pure_assign rfl gU) ?_
  refine al_nil ?_
  refine awp_seq ?_
  refine awp_seq (awp_region ?_)
  refine al_pure rfl rfl rfl (pure_move rfl gU) ?_
  refine al_pure rfl rfl rfl (pure_cmpS rfl rfl gU gU rfl) ?_
  refine al_pure rfl rfl rfl (pure_move rfl gU) ?_
  refine al_pure rfl rfl rfl (pure_move rfl gU) ?_
  refine al_pure rfl rfl rfl (pure_indexSg (j := 0) rfl rfl (fun hh => hh) gU Tryd.underlying9 (by first | omega | (simp at hh ⊢; exact List.length_pos_iff.2 hh)) (fun hh => by first | omega | (simp at hh ⊢; exact List.length_pos_iff.2 hh))) ?_
  refine al_pure rfl rfl rfl (pure_cmp rfl rfl (fun hh => hh) gU rfl) ?_
  refine al_pure rfl rfl rfl (pure_or rfl rfl gU (fun _ hi => gP rfl hi)) ?_
  refine al_nil ?_
  refine awp_sub (s := { t := [(0, _, _), (12, _, _)], bx := [], ow := [] }) (sub_mk (⟨sx rfl, ⟨sx rfl, trivial⟩⟩) trivial trivial) ?_
  refine awp_cond rfl (fun hc => ?_) (fun hc => ?_)
  · try simp only [nn, strR_len, Tk.rows_len] at hc
    refine awp_seq (awp_region ?_)
    refine al_pure rfl rfl rfl (pure_assign rfl gU) ?_
    refine al_pure rfl rfl rfl (pure_assign rfl gU) ?_
    refine al_nil ?_
    refine awp_ret ?_
    repeat (first | refine tR ?_ | refine bR ?_)
    refine ret_ok rfl ?_ trivial
    (rw [unqE, if_pos (by rcases hc with h | h; exact .inl h; exact .inr (by omega))]; rfl)
  · try simp only [nn, strR_len, Tk.rows_len] at hc
    have hp := len_pos (s := s) (by intro h; exact hc.1 h)
    rw [unqE, if_neg (by rintro (h | h); exact hc.1 h; have := hc.2; omega)]
    refine awp_skip ?_
    refine awp_seq (awp_region ?_)
    refine al_pure rfl rfl rfl (pure_move rfl gU) ?_
    refine al_call rfl rfl rfl rfl rfl rfl gU gU (llit_spec _ (by omega) (by omega)) rfl ?_
    refine al_pure rfl rfl rfl (pure_move rfl gU) ?_
    refine al_pure rfl rfl rfl (pure_extract rfl gU rfl) ?_
    refine al_pure rfl rfl rfl (pure_extract rfl gU rfl) ?_
    refine al_pure rfl rfl rfl (pure_assign rfl gU) ?_
    refine al_pure rfl rfl rfl (pure_assign rfl gU) ?_
    refine al_nil ?_
    refine awp_sub (s := { t := [(0, _, _), (4, _, _), (5, _, _)], bx := [], ow := [] }) (sub_mk (⟨sx rfl, ⟨sx rfl, ⟨sx rfl, trivial⟩⟩⟩) trivial trivial) ?_
    refine awp_seq ?_
    refine awp_seq (awp_region ?_)
    refine al_pure rfl rfl rfl (pure_move rfl gU) ?_
    refine al_pure rfl rfl rfl (pure_move rfl gU) ?_
    refine al_lenS rfl rfl rfl rfl rfl gU (Tryd.underlying9) ?_ (fun hh => by simp at hh); intro hlen
    refine al_pure rfl rfl rfl (pure_cmp rfl rfl gU gU rfl) ?_
    refine al_nil ?_
    refine awp_cond rfl (fun hc2 => ?_) (fun hc2 => ?_)
    · try simp only [nn, strR_len, Tk.rows_len] at hc2
      refine awp_seq (awp_region ?_)
      refine al_pure rfl rfl rfl (pure_assign rfl gU) ?_
      refine al_pure rfl rfl rfl (pure_assign rfl gU) ?_
      refine al_nil ?_
      refine awp_ret ?_
      repeat (first | refine tR ?_ | refine bR ?_)
      refine ret_ok rfl ?_ trivial
      (rw [if_pos (by omega)]; rfl)
    · try simp only [nn, strR_len, Tk.rows_len] at hc2
      refine awp_skip ?_
      refine awp_seq (awp_region ?_)
      refine al_pure rfl rfl rfl (pure_move rfl gU) ?_
      refine al_pure rfl rfl rfl (pure_assign rfl gU) ?_
      refine al_pure rfl rfl rfl (pure_assign rfl gU) ?_
      refine al_nil ?_
      refine awp_ret ?_
      repeat (first | refine tR ?_ | refine bR ?_)
      refine ret_ok rfl ?_ trivial
      (rw [if_neg (by omega)]; rfl)
theorem runq_spec (s : List UInt8) (hs : s.length ≤ 1000000) : Ctr sys 23 [xs s] [] (xse (unqE s)) none [] := by
  refine spec_intro Tryd.func23 rfl rfl rfl rfl rfl rfl ?_
  refine awp_seq (awp_region ?_)
  refine al_pure rfl rfl rfl (pure_assign rfl gU) ?_
  refine al_pure rfl rfl rfl (pure_assign rfl gU) ?_
  refine al_nil ?_
  refine awp_seq ?_
  refine awp_seq (awp_region ?_)
  refine al_pure rfl rfl rfl (pure_move rfl gU) ?_
  refine al_lenS rfl rfl rfl rfl rfl gU (Tryd.underlying9) ?_ (fun hh => by simp at hh); intro hlen
  refine al_pure rfl rfl rfl (pure_cmp rfl rfl gU gU rfl) ?_
  refine al_pure rfl rfl rfl (pure_move rfl gU) ?_
  refine al_pure rfl rfl rfl (pure_move rfl gU) ?_
  refine al_pure rfl rfl rfl (pure_indexSg (j := 0) rfl rfl (fun hh => hh) gU Tryd.underlying9 (by first | omega | (simp at hh ⊢; omega) | (simp at hh ⊢; exact List.length_pos_iff.2 hh)) (fun hh => by first | omega | (simp at hh ⊢; omega) | (simp at hh ⊢; exact List.length_pos_iff.2 hh))) ?_
  refine al_pure rfl rfl rfl (pure_cmp rfl rfl (fun hh => hh) gU rfl) ?_
  refine al_pure rfl rfl rfl (pure_or rfl rfl gU (fun _ hi => gP rfl hi)) ?_
  refine al_nil ?_
  refine awp_sub (s := { t := [(0, _, _), (13, _, _)], bx := [], ow := [] }) (sub_mk (⟨sx rfl, ⟨sx rfl, trivial⟩⟩) trivial trivial) ?_
  refine awp_cond rfl (fun hc => ?_) (fun hc => ?_)
  · try simp only [nn, strR_len, Tk.rows_len] at hc
    refine awp_seq (awp_region ?_)
    refine al_pure rfl rfl rfl (pure_assign rfl gU) ?_
    refine al_pure rfl rfl rfl (pure_assign rfl gU) ?_
    refine al_nil ?_
    refine awp_ret ?_
    repeat (first | refine tR ?_ | refine bR ?_)
    refine ret_ok rfl ?_ trivial
    (rw [unqE, if_pos (by rcases hc with h | h; exact .inl (List.eq_nil_of_length_eq_zero (by omega)); exact .inr (by omega))]; rfl)
  · try simp only [nn, strR_len, Tk.rows_len] at hc
    have hp : 0 < s.length := by omega
    rw [unqE, if_neg (by rintro (h | h); subst h; simp at hp; omega)]
    refine awp_skip ?_
    refine awp_seq (awp_region ?_)
    refine al_pure rfl rfl rfl (pure_move rfl gU) ?_
    refine al_call rfl rfl rfl rfl rfl rfl gU gU (rlit_spec _ (by omega) (by omega)) rfl ?_
    refine al_pure rfl rfl rfl (pure_move rfl gU) ?_
    refine al_pure rfl rfl rfl (pure_extract rfl gU rfl) ?_
    refine al_pure rfl rfl rfl (pure_extract rfl gU rfl) ?_
    refine al_pure rfl rfl rfl (pure_assign rfl gU) ?_
    refine al_pure rfl rfl rfl (pure_assign rfl gU) ?_
    refine al_nil ?_
    refine awp_sub (s := { t := [(0, _, _), (4, _, _), (5, _, _)], bx := [], ow := [] }) (sub_mk (⟨sx rfl, ⟨sx rfl, ⟨sx rfl, trivial⟩⟩⟩) trivial trivial) ?_
    refine awp_seq ?_
    refine awp_seq (awp_region ?_)
    refine al_pure rfl rfl rfl (pure_move rfl gU) ?_
    refine al_pure rfl rfl rfl (pure_cmp rfl rfl gU gU rfl) ?_
    refine al_pure rfl rfl rfl (pure_move rfl gU) ?_
    refine al_pure rfl rfl rfl (pure_move rfl gU) ?_
    refine al_pure rfl rfl rfl (pure_move rfl gU) ?_
    refine al_pure rfl rfl rfl (pure_lenS rfl (fun hh => hh) (Tryd.underlying9)) ?_
    refine al_pure rfl rfl rfl (pure_cmp rfl rfl (fun hh => hh) (fun hh => hh) rfl) ?_
    refine al_pure rfl rfl rfl (pure_or rfl rfl gU (fun _ hi => gP rfl hi)) ?_
    refine al_nil ?_
    refine awp_sub (s := { t := [(4, _, _), (26, _, _)], bx := [], ow := [] }) (sub_mk (⟨sx rfl, ⟨sx rfl, trivial⟩⟩) trivial trivial) ?_
    refine awp_cond rfl (fun hc2 => ?_) (fun hc2 => ?_)
    · try simp only [nn, strR_len, Tk.rows_len] at hc2
      refine awp_seq (awp_region ?_)
      refine al_pure rfl rfl rfl (pure_assign rfl gU) ?_
      refine al_pure rfl rfl rfl (pure_assign rfl gU) ?_
      refine al_nil ?_
      refine awp_ret ?_
      repeat (first | refine tR ?_ | refine bR ?_)
      refine ret_ok rfl ?_ trivial
      (rw [if_pos (by omega)]; rfl)
    · try simp only [nn, strR_len, Tk.rows_len] at hc2
      refine awp_skip ?_
      refine awp_seq (awp_region ?_)
      refine al_pure rfl rfl rfl (pure_move rfl gU) ?_
      refine al_pure rfl rfl rfl (pure_assign rfl gU) ?_
      refine al_pure rfl rfl rfl (pure_assign rfl gU) ?_
      refine al_nil ?_
      refine awp_ret ?_
      repeat (first | refine tR ?_ | refine bR ?_)
      refine ret_ok rfl ?_ trivial
      (rw [if_neg (by omega)]; rfl)
def lnsP (s : List UInt8) : List (List UInt8) := if (spl s).getD ((spl s).length - 1) [] = [] then (spl s).take ((spl s).length - 1) else spl s
theorem strR_take (l : List (List UInt8)) (k : Nat) : (strR l).take k = strR (l.take k) := by simp [strR, List.map_take]
theorem llines_spec (s : List UInt8) (hs : s.length ≤ 1000000) : Ctr sys 17 [xs s] [] (xss (lnsP s)) none [] := by
  have h1 := spl_len s
  have h2 : 0 < (spl s).length := List.length_pos_iff.2 (spl_ne s)
  refine spec_intro Tryd.func17 rfl rfl rfl rfl rfl rfl ?_
  refine awp_seq (awp_region ?_)
  refine al_pure rfl rfl rfl (pure_assign rfl gU) ?_
  refine al_nil ?_
  refine awp_seq (awp_region ?_)
  refine al_pure rfl rfl rfl (pure_move rfl gU) ?_
  refine al_call rfl rfl rfl rfl rfl rfl gU gU (split_spec _ (by omega)) rfl ?_
  refine al_pure rfl rfl rfl (pure_assign rfl gU) ?_
  refine al_nil ?_
  refine awp_seq ?_
  refine awp_seq (awp_region ?_)
  refine al_pure rfl rfl rfl (pure_move rfl gU) ?_
  refine al_pure rfl rfl rfl (pure_move rfl gU) ?_
  refine al_lenSl rfl rfl rfl rfl rfl gU rfl rfl ?_ (fun hh => by simp at hh); intro hlen
  refine al_pure rfl rfl rfl (pure_arith rfl rfl gU gU rfl (IntWalk.i64_in _ (by omega))) ?_
  refine al_pure rfl rfl rfl (pure_indexAddr (j := ((spl s).length - 1)) rfl rfl gU gU rfl rfl (by first | omega | (rw [strR_len]; omega) | (simp only [strR_len]; omega) | (simp at hh ⊢; omega)) (fun hh => strR_at (by first | omega | (rw [strR_len]; omega) | (simp only [strR_len]; omega) | (simp at hh ⊢; omega)))) ?_
  refine al_pure rfl rfl rfl (pure_loadRo rfl gU rfl rfl rfl) ?_
  refine al_pure rfl rfl rfl (pure_cmpS rfl rfl gU gU rfl) ?_
  refine al_nil ?_
  refine awp_sub (s := { t := [(3, _, _), (12, _, _)], bx := [], ow := [] }) (sub_mk (⟨sx rfl, ⟨sx rfl, trivial⟩⟩) trivial trivial) ?_
  refine awp_cond rfl (fun hc => ?_) (fun hc => ?_)
  · try simp only [nn, strR_len, Tk.rows_len] at hc
    refine awp_region ?_
    refine al_pure rfl rfl rfl (pure_move rfl gU) ?_
    refine al_pure rfl rfl rfl (pure_move rfl gU) ?_
    refine al_lenSl rfl rfl rfl rfl rfl gU rfl rfl ?_ (fun hh => by simp at hh); intro hlen
    refine al_pure rfl rfl rfl (pure_arith rfl rfl gU gU rfl (IntWalk.i64_in _ (by omega))) ?_
    refine al_pure rfl rfl rfl (pure_slice (h' := ((spl s).length - 1)) rfl gU rfl rfl (fun _ => rfl) (fun _ => ⟨_, _, _, rfl, gU, by first | omega | (rw [strR_len]; omega) | (simp only [strR_len]; omega) | (simp at hh ⊢; omega)⟩) (fun hh => by first | omega | (rw [strR_len]; omega) | (simp only [strR_len]; omega) | (simp at hh ⊢; omega)) (fun hh => by first | omega | (rw [strR_len]; omega) | (simp only [strR_len]; omega) | (simp at hh ⊢; omega))) ?_
    refine al_pure rfl rfl rfl (pure_assign rfl gU) ?_
    refine al_nil ?_
    refine awp_sub (s := { t := [(3, _, _)], bx := [], ow := [] }) (sub_mk (⟨sx rfl, trivial⟩) trivial trivial) ?_
    refine awp_seq (awp_region ?_)
    refine al_pure rfl rfl rfl (pure_move rfl gU) ?_
    refine al_pure rfl rfl rfl (pure_assign rfl gU) ?_
    refine al_nil ?_
    refine awp_ret ?_
    repeat (first | refine tR ?_ | refine bR ?_)
    refine ret_ok rfl ?_ trivial
    (rw [lnsP, if_pos (by simpa using hc), xss, ← strR_take]; rfl)
  · try simp only [nn, strR_len, Tk.rows_len] at hc
    refine awp_skip ?_
    refine awp_seq (awp_region ?_)
    refine al_pure rfl rfl rfl (pure_move rfl gU) ?_
    refine al_pure rfl rfl rfl (pure_assign rfl gU) ?_
    refine al_nil ?_
    refine awp_ret ?_
    repeat (first | refine tR ?_ | refine bR ?_)
    refine ret_ok rfl ?_ trivial
    (rw [lnsP, if_neg (by simpa using hc)]; rfl)
/-- Comparisons. -/
def sameE (a b : List Tk) (f : Bool) : Bool := decide (a.map (·.nl f) = b.map (·.nl f))
theorem map_ext_get {a b : List Tk} {f : Bool} (hl : a.length = b.length) (h : ∀ j, j < a.length → (a.getD j tk0).nl f = (b.getD j tk0).nl f) : a.map (·.nl f) = b.map (·.nl f) := by
  apply List.ext_getElem?
  intro i
  by_cases hi : i < a.length
  · have := h i hi
    rw [List.getD_eq_getElem?_getD, List.getD_eq_getElem?_getD, List.getElem?_eq_getElem hi, List.getElem?_eq_getElem (hl ▸ hi)] at this
    rw [List.getElem?_map, List.getElem?_map, List.getElem?_eq_getElem hi, List.getElem?_eq_getElem (hl ▸ hi)]
    exact congrArg some this
  · rw [List.getElem?_map, List.getElem?_map, List.getElem?_eq_none (by omega), List.getElem?_eq_none (by omega)]
theorem map_get_ne {a b : List Tk} {f : Bool} {j : Nat} (hl : a.length = b.length) (hj : j < a.length) (h : (a.getD j tk0).nl f ≠ (b.getD j tk0).nl f) : a.map (·.nl f) ≠ b.map (·.nl f) := by
  intro e
  apply h
  have := congrArg (fun l => l[j]?) e
  rw [List.getElem?_map, List.getElem?_map, List.getElem?_eq_getElem hj, List.getElem?_eq_getElem (hl ▸ hj)] at this
  rw [List.getD_eq_getElem?_getD, List.getD_eq_getElem?_getD, List.getElem?_eq_getElem hj, List.getElem?_eq_getElem (hl ▸ hj)]
  simpa using this
def strsE (a b : List (List UInt8)) : Bool := decide (a = b)
theorem rstrings_spec (a b : List (List UInt8)) : Ctr sys 18 [xss a, xss b] [] (xb (strsE a b)) none [] := by
  have la := strR_len a
  have lb := strR_len b
  refine spec_intro Tryd.func18 rfl rfl rfl rfl rfl rfl ?_
  refine awp_seq (awp_region ?_)
  refine al_pure rfl rfl rfl (pure_assign rfl gU) ?_
  refine al_nil ?_
  refine awp_seq ?_
  refine awp_seq (awp_region ?_)
  refine al_pure rfl rfl rfl (pure_move rfl gU) ?_
  refine al_lenSl rfl rfl rfl rfl rfl gU rfl rfl ?_ (fun hh => by simp at hh); intro hlen
  refine al_pure rfl rfl rfl (pure_move rfl gU) ?_
  refine al_lenSl rfl rfl rfl rfl rfl gU rfl rfl ?_ (fun hh => by simp at hh); intro hlen
  refine al_pure rfl rfl rfl (pure_cmp rfl rfl gU gU rfl) ?_
  refine al_nil ?_
  refine awp_sub (s := { t := [(0, _, _), (1, _, _), (10, _, _)], bx := [], ow := [] }) (sub_mk (⟨sx rfl, ⟨sx rfl, ⟨sx rfl, trivial⟩⟩⟩) trivial trivial) ?_
  refine awp_cond rfl (fun hc => ?_) (fun hc => ?_)
  · try simp only [nn, strR_len, Tk.rows_len] at hc
    refine awp_seq (awp_region ?_)
    refine al_pure rfl rfl rfl (pure_assign rfl gU) ?_
    refine al_nil ?_
    refine awp_ret ?_
    repeat (first | refine tR ?_ | refine bR ?_)
    refine ret_ok rfl ?_ trivial
    exact xb_eq (by symm; exact decide_eq_false (by intro e; rw [e] at hc; exact hc rfl))
  · try simp only [nn, strR_len, Tk.rows_len] at hc
    have hl : a.length = b.length := by omega
    refine awp_skip ?_
    refine awp_seq ?_
    refine awp_seq (awp_region ?_)
    refine al_pure rfl rfl rfl (pure_assign rfl gU) ?_
    refine al_nil ?_
    refine awp_block ?_
    refine awp_for (ι := Nat) { t := [(0, _, _), (1, _, _)], bx := [], ow := [] } (fun k => [(5, true, xi (k : Int))]) (fun k => []) (fun k => k ≤ a.length ∧ ∀ j, j < k → a.getD j [] = b.getD j []) (fun k => a.length - k) (0) (by simp) (sub_mk (⟨sx rfl, ⟨sx rfl, ⟨sx rfl, trivial⟩⟩⟩) trivial trivial) ?_
    intro k hok
    dsimp only [List.cons_append, List.nil_append]
    obtain ⟨hk, hi⟩ := hok
    refine awp_seq ?_
    refine awp_seq (awp_region ?_)
    refine al_pure rfl rfl rfl (pure_move rfl gU) ?_
    refine al_pure rfl rfl rfl (pure_move rfl gU) ?_
    refine al_lenSl rfl rfl rfl rfl rfl gU rfl rfl ?_ (fun hh => by simp at hh); intro hlen
    refine al_pure rfl rfl rfl (pure_cmp rfl rfl gU gU rfl) ?_
    refine al_nil ?_
    refine awp_cond rfl (fun hc2 => ?_) (fun hc2 => ?_)
    · try simp only [nn, strR_len, Tk.rows_len] at hc2
      refine awp_skip ?_
      refine awp_seq ?_
      refine awp_block ?_
      refine awp_seq ?_
      refine awp_drawn' (by kernel_rfl) ?_
      refine dr_pure rfl rfl rfl rfl (pure_move rfl gU) ?_
      refine dr_pure rfl rfl rfl rfl (pure_move rfl gU) ?_
      refine dr_pure rfl rfl rfl rfl (pure_indexAddr rfl rfl gU gU rfl rfl rfl (fun hh => strR_at (by first | omega | (rw [strR_len]; omega) | (simp only [strR_len]; omega) | (simp at hh ⊢; omega)))) ?_
      refine dr_pure rfl rfl rfl rfl (pure_loadRo rfl gU rfl rfl rfl) ?_
      refine dr_pure rfl rfl rfl rfl (pure_move rfl gU) ?_
      refine dr_pure rfl rfl rfl rfl (pure_move rfl gU) ?_
      refine dr_pure rfl rfl rfl rfl (pure_indexAddr rfl rfl gU gU rfl rfl rfl (fun hh => strR_at (by first | omega | (rw [strR_len]; omega) | (simp only [strR_len]; omega) | (simp at hh ⊢; omega)))) ?_
      refine dr_pure rfl rfl rfl rfl (pure_loadRo rfl gU rfl rfl rfl) ?_
      refine dr_pure rfl rfl rfl rfl (pure_cmpS rfl rfl gU gU rfl) ?_
      refine dr_nil (by kernel_rfl) ?_
      refine awp_sub (s := { t := [(0, _, _), (1, _, _), (5, _, _), (25, _, _)], bx := [], ow := [] }) (sub_mk (⟨sx rfl, ⟨sx rfl, ⟨sx rfl, ⟨sx rfl, trivial⟩⟩⟩⟩) trivial trivial) ?_
      refine awp_cond rfl (fun hc3 => ?_) (fun hc3 => ?_)
      · try simp only [nn, strR_len, Tk.rows_len] at hc3
        refine awp_seq (awp_region ?_)
        refine al_pure rfl rfl rfl (pure_assign rfl gU) ?_
        refine al_nil ?_
        refine awp_ret ?_
        repeat (first | refine tR ?_ | refine bR ?_)
        refine ret_ok rfl ?_ trivial
        exact xb_eq (by symm; exact decide_eq_false (by intro e; rw [e] at hc3; exact hc3 rfl))
      · try simp only [nn, strR_len, Tk.rows_len] at hc3
        refine awp_skip ?_
        refine awp_region ?_
        refine al_pure rfl rfl rfl (pure_move rfl gU) ?_
        refine al_pure rfl rfl rfl (pure_arith rfl rfl gU gU rfl (IntWalk.i64_in _ (by omega))) ?_
        refine al_pure rfl rfl rfl (pure_assign rfl gU) ?_
        refine al_nil ?_
        refine ⟨k + 1, ?_, ?_, sub_mk (⟨⟨_, rfl, ?_⟩, ⟨sx rfl, ⟨sx rfl, trivial⟩⟩⟩) trivial trivial⟩
        all_goals (first | rfl | omega | (refine ⟨by omega, fun j hj => ?_⟩; by_cases q : j = k; { subst q; exact hc3 }; { exact hi j (by omega) }))
    · try simp only [nn, strR_len, Tk.rows_len] at hc2
      have he : a = b := by
        apply List.ext_getElem?
        intro i
        by_cases hlt : i < a.length
        · have := hi i (by omega)
          rw [List.getD_eq_getElem?_getD, List.getD_eq_getElem?_getD, List.getElem?_eq_getElem hlt, List.getElem?_eq_getElem (hl ▸ hlt)] at this
          rw [List.getElem?_eq_getElem hlt, List.getElem?_eq_getElem (hl ▸ hlt)]
          exact congrArg some this
        · rw [List.getElem?_eq_none (by omega), List.getElem?_eq_none (by omega)]
      refine awp_exit ?_
      repeat (first | refine thenS_exit ?_ | refine blockS_hit ?_ | refine blockS_miss rfl ?_)
      refine awp_seq (awp_region ?_)
      refine al_pure rfl rfl rfl (pure_assign rfl gU) ?_
      refine al_nil ?_
      refine awp_ret ?_
      repeat (first | refine tR ?_ | refine bR ?_)
      refine ret_ok rfl ?_ trivial
      exact xb_eq (by symm; exact decide_eq_true he)
theorem rsame_spec (a b : List Tk) (f : Bool) : Ctr sys 14 [xts a, xts b, xb f] [] (xb (sameE a b f)) none [] := by
  have la := Tk.rows_len a
  have lb := Tk.rows_len b
  refine spec_intro Tryd.func14 rfl rfl rfl rfl rfl rfl ?_
  refine awp_seq (awp_region ?_)
  refine al_pure rfl rfl rfl (pure_assign rfl gU) ?_
  refine al_nil ?_
  refine awp_seq ?_
  refine awp_seq (awp_region ?_)
  refine al_pure rfl rfl rfl (pure_move rfl gU) ?_
  refine al_lenSl rfl rfl rfl rfl rfl gU rfl rfl ?_ (fun hh => by simp at hh); intro hlen
  refine al_pure rfl rfl rfl (pure_move rfl gU) ?_
  refine al_lenSl rfl rfl rfl rfl rfl gU rfl rfl ?_ (fun hh => by simp at hh); intro hlen
  refine al_pure rfl rfl rfl (pure_cmp rfl rfl gU gU rfl) ?_
  refine al_nil ?_
  refine awp_sub (s := { t := [(0, _, _), (1, _, _), (2, _, _), (14, _, _)], bx := [], ow := [] }) (sub_mk (⟨sx rfl, ⟨sx rfl, ⟨sx rfl, ⟨sx rfl, trivial⟩⟩⟩⟩) trivial trivial) ?_
  refine awp_cond rfl (fun hc => ?_) (fun hc => ?_)
  · try simp only [nn, strR_len, Tk.rows_len] at hc
    refine awp_seq (awp_region ?_)
    refine al_pure rfl rfl rfl (pure_assign rfl gU) ?_
    refine al_nil ?_
    refine awp_ret ?_
    repeat (first | refine tR ?_ | refine bR ?_)
    refine ret_ok rfl ?_ trivial
    exact xb_eq (by symm; exact decide_eq_false (by intro e; have := congrArg List.length e; simp at this; omega))
  · try simp only [nn, strR_len, Tk.rows_len] at hc
    have hl : a.length = b.length := by omega
    refine awp_skip ?_
    refine awp_seq ?_
    refine awp_seq (awp_region ?_)
    refine al_pure rfl rfl rfl (pure_assign rfl gU) ?_
    refine al_nil ?_
    refine awp_block ?_
    refine awp_for (ι := Nat) { t := [(0, _, _), (1, _, _), (2, _, _)], bx := [], ow := [] } (fun k => [(7, true, xi (k : Int))]) (fun k => []) (fun k => k ≤ a.length ∧ ∀ j, j < k → (a.getD j tk0).nl f = (b.getD j tk0).nl f) (fun k => a.length - k) (0) (by simp) (sub_mk (⟨sx rfl, ⟨sx rfl, ⟨sx rfl, ⟨sx rfl, trivial⟩⟩⟩⟩) trivial trivial) ?_
    intro k hok
    dsimp only [List.cons_append, List.nil_append]
    obtain ⟨hk, hi⟩ := hok
    refine awp_seq ?_
    refine awp_seq (awp_region ?_)
    refine al_pure rfl rfl rfl (pure_move rfl gU) ?_
    refine al_pure rfl rfl rfl (pure_move rfl gU) ?_
    refine al_lenSl rfl rfl rfl rfl rfl gU rfl rfl ?_ (fun hh => by simp at hh); intro hlen
    refine al_pure rfl rfl rfl (pure_cmp rfl rfl gU gU rfl) ?_
    refine al_nil ?_
    refine awp_cond rfl (fun hc2 => ?_) (fun hc2 => ?_)
    · try simp only [nn, strR_len, Tk.rows_len] at hc2
      have hka : k < a.length := by omega
      have hnx : (a.getD k tk0).nl f = (b.getD k tk0).nl f → ∀ j, j < k + 1 → (a.getD j tk0).nl f = (b.getD j tk0).nl f := by
        intro h j hj
        by_cases q : j = k
        · subst q; exact h
        · exact hi j (by omega)
      refine awp_skip ?_
      refine awp_seq ?_
      refine awp_block ?_
      refine awp_seq ?_
      refine awp_drawn' (by kernel_rfl) ?_
      refine dr_pure rfl rfl rfl rfl (pure_move rfl gU) ?_
      refine dr_pure rfl rfl rfl rfl (pure_move rfl gU) ?_
      refine dr_pure rfl rfl rfl rfl (pure_indexAddr rfl rfl gU gU rfl rfl rfl (fun hh => Tk.rows_at (by first | omega | (rw [strR_len]; omega) | (simp only [strR_len]; omega) | (simp at hh ⊢; omega)))) ?_
      refine dr_pure rfl rfl rfl rfl (pure_loadRoRow rfl gU rfl rfl rfl rfl) ?_
      refine dr_pure rfl rfl rfl rfl (pure_move rfl gU) ?_
      refine dr_pure rfl rfl rfl rfl (pure_move rfl gU) ?_
      refine dr_pure rfl rfl rfl rfl (pure_indexAddr rfl rfl gU gU rfl rfl rfl (fun hh => Tk.rows_at (by first | omega | (rw [strR_len]; omega) | (simp only [strR_len]; omega) | (simp at hh ⊢; omega)))) ?_
      refine dr_pure rfl rfl rfl rfl (pure_loadRoRow rfl gU rfl rfl rfl rfl) ?_
      refine dr_alloc rfl rfl rfl rfl rfl rfl rfl ?_
      refine dr_alloc rfl rfl rfl rfl rfl rfl rfl ?_
      refine dr_store rfl rfl rfl rfl rfl rfl rfl rfl rfl rfl rfl rfl ?_
      refine dr_store rfl rfl rfl rfl rfl rfl rfl rfl rfl rfl rfl rfl ?_
      refine dr_nil (by kernel_rfl) ?_
      refine awp_sub (s := { t := [(0, _, _), (1, _, _), (2, _, _), (7, _, _), (8, _, _), (9, _, _)], bx := [((.l 8), _), ((.l 9), _)], ow := [] }) (sub_mk (⟨sx rfl, ⟨sx rfl, ⟨sx rfl, ⟨sx rfl, ⟨sx rfl, ⟨sx rfl, trivial⟩⟩⟩⟩⟩⟩) (⟨sx rfl, ⟨sx rfl, trivial⟩⟩) trivial) ?_
      refine awp_seq ?_
      refine awp_seq (awp_region ?_)
      refine al_pure rfl rfl rfl (pure_move rfl gU) ?_
      refine al_pure rfl rfl rfl (pure_not rfl gU) ?_
      refine al_nil ?_
      refine awp_cond rfl (fun hc3 => ?_) (fun hc3 => ?_)
      · try simp only [nn, strR_len, Tk.rows_len] at hc3
        subst hc3
        have e0 : ∀ t : Tk, t.nl false = t.onl 0 := fun t => rfl
        have hcmp : (a.getD k tk0).nl false = (b.getD k tk0).nl false ↔ (a.getD k tk0).kind = (b.getD k tk0).kind ∧ (a.getD k tk0).text = (b.getD k tk0).text ∧ (a.getD k tk0).int = (b.getD k tk0).int ∧ (a.getD k tk0).str = (b.getD k tk0).str := by
          rw [e0, e0]; simp [Tk.onl]
        refine awp_region ?_
        refine al_pure rfl rfl rfl (pure_fieldPtr rfl gU rfl rfl) ?_
        refine al_do rfl (does_store rfl rfl rfl rfl rfl rfl rfl) ?_
        refine al_pure rfl rfl rfl (pure_fieldPtr rfl gU rfl rfl) ?_
        refine al_do rfl (does_store rfl rfl rfl rfl rfl rfl rfl) ?_
        refine al_nil ?_
        refine awp_seq (awp_region ?_)
        refine al_pure rfl rfl rfl (pure_loadBoxRow rfl gU rfl rfl rfl rfl rfl) ?_
        refine al_pure rfl rfl rfl (pure_loadBoxRow rfl gU rfl rfl rfl rfl rfl) ?_
        refine al_pure rfl rfl rfl (pure_eqStruct (ks := [1, 2, 1, 2, 1]) (.inr ⟨rfl, rfl⟩) rfl rfl gU gU Tryd.underlying37 (by kernel_rfl) (by kernel_rfl) (by kernel_rfl) rfl) ?_
        refine al_nil ?_
        refine awp_sub (s := { t := [(0, _, _), (1, _, _), (2, _, _), (7, _, _), (35, _, _)], bx := [], ow := [] }) (sub_mk (⟨sx rfl, ⟨sx rfl, ⟨sx rfl, ⟨sx rfl, ⟨sx rfl, trivial⟩⟩⟩⟩⟩) trivial trivial) ?_
        refine awp_cond rfl (fun hc4 => ?_) (fun hc4 => ?_)
        · try simp only [nn, strR_len, Tk.rows_len] at hc4
          refine awp_seq (awp_region ?_)
          refine al_pure rfl rfl rfl (pure_assign rfl gU) ?_
          refine al_nil ?_
          refine awp_ret ?_
          repeat (first | refine tR ?_ | refine bR ?_)
          refine ret_ok rfl ?_ trivial
          exact xb_eq (by symm; exact decide_eq_false (map_get_ne hl hka (by intro q; have q2 := hcmp.1 q; simp at hc4; exact hc4 q2.1 q2.2.1 q2.2.2.1 q2.2.2.2)))
        · try simp only [nn, strR_len, Tk.rows_len] at hc4
          have hq := hnx (hcmp.2 (by simp at hc4; simpa using hc4))
          refine awp_skip ?_
          refine awp_region ?_
          refine al_pure rfl rfl rfl (pure_move rfl gU) ?_
          refine al_pure rfl rfl rfl (pure_arith rfl rfl gU gU rfl (IntWalk.i64_in _ (by omega))) ?_
          refine al_pure rfl rfl rfl (pure_assign rfl gU) ?_
          refine al_nil ?_
          refine ⟨k + 1, ?_, ?_, sub_mk (⟨⟨_, rfl, ?_⟩, ⟨sx rfl, ⟨sx rfl, ⟨sx rfl, trivial⟩⟩⟩⟩) trivial trivial⟩
          all_goals (first | rfl | omega | exact ⟨by omega, hq⟩)
      · try simp only [nn, strR_len, Tk.rows_len] at hc3
        subst hc3
        have e0 : ∀ t : Tk, t.nl true = t := fun t => rfl
        have hcmp : (a.getD k tk0).nl true = (b.getD k tk0).nl true ↔ (a.getD k tk0).kind = (b.getD k tk0).kind ∧ (a.getD k tk0).text = (b.getD k tk0).text ∧ (a.getD k tk0).int = (b.getD k tk0).int ∧ (a.getD k tk0).str = (b.getD k tk0).str ∧ (a.getD k tk0).line = (b.getD k tk0).line := by
          rw [e0, e0]
          constructor
          · intro q; rw [q]; simp
          · rintro ⟨q1, q2, q3, q4, q5⟩
            cases h1 : a.getD k tk0
            cases h2 : b.getD k tk0
            rw [h1, h2] at q1 q2 q3 q4 q5
            dsimp only at q1 q2 q3 q4 q5
            rw [q1, q2, q3, q4, q5]
        refine awp_skip ?_
        refine awp_seq (awp_region ?_)
        refine al_pure rfl rfl rfl (pure_loadBoxRow rfl gU rfl rfl rfl rfl rfl) ?_
        refine al_pure rfl rfl rfl (pure_loadBoxRow rfl gU rfl rfl rfl rfl rfl) ?_
        refine al_pure rfl rfl rfl (pure_eqStruct (ks := [1, 2, 1, 2, 1]) (.inr ⟨rfl, rfl⟩) rfl rfl gU gU Tryd.underlying37 (by kernel_rfl) (by kernel_rfl) (by kernel_rfl) rfl) ?_
        refine al_nil ?_
        refine awp_sub (s := { t := [(0, _, _), (1, _, _), (2, _, _), (7, _, _), (35, _, _)], bx := [], ow := [] }) (sub_mk (⟨sx rfl, ⟨sx rfl, ⟨sx rfl, ⟨sx rfl, ⟨sx rfl, trivial⟩⟩⟩⟩⟩) trivial trivial) ?_
        refine awp_cond rfl (fun hc4 => ?_) (fun hc4 => ?_)
        · try simp only [nn, strR_len, Tk.rows_len] at hc4
          refine awp_seq (awp_region ?_)
          refine al_pure rfl rfl rfl (pure_assign rfl gU) ?_
          refine al_nil ?_
          refine awp_ret ?_
          repeat (first | refine tR ?_ | refine bR ?_)
          refine ret_ok rfl ?_ trivial
          exact xb_eq (by symm; exact decide_eq_false (map_get_ne hl hka (by intro q; have q2 := hcmp.1 q; simp at hc4; exact hc4 q2.1 q2.2.1 q2.2.2.1 q2.2.2.2.1 q2.2.2.2.2)))
        · try simp only [nn, strR_len, Tk.rows_len] at hc4
          have hq := hnx (hcmp.2 (by simp at hc4; simpa using hc4))
          refine awp_skip ?_
          refine awp_region ?_
          refine al_pure rfl rfl rfl (pure_move rfl gU) ?_
          refine al_pure rfl rfl rfl (pure_arith rfl rfl gU gU rfl (IntWalk.i64_in _ (by omega))) ?_
          refine al_pure rfl rfl rfl (pure_assign rfl gU) ?_
          refine al_nil ?_
          refine ⟨k + 1, ?_, ?_, sub_mk (⟨⟨_, rfl, ?_⟩, ⟨sx rfl, ⟨sx rfl, ⟨sx rfl, trivial⟩⟩⟩⟩) trivial trivial⟩
          all_goals (first | rfl | omega | exact ⟨by omega, hq⟩)
    · try simp only [nn, strR_len, Tk.rows_len] at hc2
      refine awp_exit ?_
      repeat (first | refine thenS_exit ?_ | refine blockS_hit ?_ | refine blockS_miss rfl ?_)
      refine awp_seq (awp_region ?_)
      refine al_pure rfl rfl rfl (pure_assign rfl gU) ?_
      refine al_nil ?_
      refine awp_ret ?_
      repeat (first | refine tR ?_ | refine bR ?_)
      refine ret_ok rfl ?_ trivial
      exact xb_eq (by symm; exact decide_eq_true (map_ext_get hl fun j hj => hi j (by omega)))
end Go.Proofs.YtiiboiomiacibaaDoor
