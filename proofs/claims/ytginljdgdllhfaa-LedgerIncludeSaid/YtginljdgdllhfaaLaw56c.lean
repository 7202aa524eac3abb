/- The law on proofs of inclusion: the contract. -/
import Derived.Test.YtginljdgdllhfaaLaw56
import Derived.Test.YtginljdgdllhfaaIncl
set_option linter.unusedVariables false
set_option linter.unusedSimpArgs false
namespace Go.Proofs.Ytginljdgdllhfaa
open Go Go.Abs
theorem chkI_honest {l : List T} {n : Nat} {x : T} (h : (incE l n).2 = 0) (hx : l[n]? = some x) : chkI (headT l) l.length n x (incE l n).1 = true := by
  obtain ⟨h1, h2, h3, h4⟩ := incE_ok h
  have h5 := rightE_len h1
  have h6 := incF_len l.length l n
  rw [h4]
  dsimp only
  rw [chkI, if_neg (by rw [List.length_reverse, Int.toNat_natCast]; omega)]
  have := incP_honest 32 l n x [] h5 hx
  rw [List.append_nil, incF_fuel 32 l.length l n (by omega) h5 (Nat.le_refl _)] at this
  rw [Int.toNat_natCast, Int.toNat_natCast, this]
  simp [T.cmp_self]
theorem LedgerInclude_spec (l : List T) (n : Int) : Ctr sys 5 [xl l, xi n] [] (xb true) none [] := by
  refine spec_intro Try.func5 rfl rfl rfl rfl rfl rfl ?_
  refine awp_seq ?_
  refine awp_region ?_
  refine al_pure rfl rfl rfl (pure_assign rfl (fun _ => rfl)) ?_
  refine al_nil ?_
  refine awp_seq ?_
  refine awp_seq ?_
  refine awp_region ?_
  refine al_call rfl rfl rfl rfl rfl rfl (fun _ => rfl) (fun _ => rfl) (awake_spec) rfl ?_
  refine al_pure rfl rfl rfl (pure_not rfl (fun _ => rfl)) ?_
  refine al_pure rfl rfl rfl (pure_move rfl (fun _ => rfl)) ?_
  refine al_pure rfl rfl rfl (pure_move rfl (fun _ => rfl)) ?_
  refine al_call rfl rfl rfl rfl rfl rfl (fun _ => rfl) (fun hh => gA ((fun hh => hh) hh) (rfl)) (few_spec l) rfl ?_
  refine al_pure rfl rfl rfl (pure_not rfl (fun hh => hh)) ?_
  refine al_pure rfl rfl rfl (pure_or rfl rfl (fun _ => rfl) (fun _ hi => gP rfl hi)) ?_
  refine al_nil ?_
  refine awp_sub (s := { t := [(0, _, _), (1, _, _), (4, _, _), (15, _, _)], bx := [], ow := [] }) (sub_mk (⟨⟨_, rfl, rfl⟩, ⟨⟨_, rfl, rfl⟩, ⟨⟨_, rfl, rfl⟩, ⟨⟨_, rfl, rfl⟩, trivial⟩⟩⟩⟩) trivial trivial) ?_
  refine awp_cond rfl (fun hc => ?_) (fun hc => ?_)
  · refine awp_seq ?_
    refine awp_region ?_
    refine al_call rfl rfl rfl rfl rfl rfl (fun _ => rfl) (fun _ => rfl) (awake_spec) rfl ?_
    refine al_pure rfl rfl rfl (pure_assign rfl (fun _ => rfl)) ?_
    refine al_nil ?_
    refine awp_ret ?_
    repeat (first | refine thenS_ret ?_ | refine blockS_ret ?_)
    refine ret_ok rfl ?_ trivial
    rfl
  · simp only [Bool.or_eq_false_iff, Bool.not_eq_false'] at hc
    obtain ⟨hl1, hl2⟩ := fewB_sizes hc.2
    have hhl := headT_size l
    have hls := incE_len l n
    have hsz := sizes_le (M := 1000) (incE l n).1 (fun x hx => by have := incE_mem l n x hx; omega)
    have hsz2 : T.sizes (incE l n).1 ≤ 1000000 := by omega
    refine awp_skip ?_
    refine awp_seq ?_
    refine awp_region ?_
    refine al_pure rfl rfl rfl (pure_move rfl (fun _ => rfl)) ?_
    refine al_call rfl rfl rfl rfl rfl rfl (fun _ => rfl) (fun _ => rfl) (Clone_spec l (by omega)) rfl ?_
    refine al_pure rfl rfl rfl (pure_move rfl (fun _ => rfl)) ?_
    refine al_call rfl rfl rfl rfl rfl rfl (fun _ => rfl) (fun _ => rfl) (Include_spec l n (by omega) (by omega)) rfl ?_
    refine al_pure rfl rfl rfl (pure_move rfl (fun _ => rfl)) ?_
    refine al_pure rfl rfl rfl (pure_extract rfl (fun _ => rfl) rfl) ?_
    refine al_pure rfl rfl rfl (pure_extract rfl (fun _ => rfl) rfl) ?_
    refine al_pure rfl rfl rfl (pure_assign rfl (fun _ => rfl)) ?_
    refine al_pure rfl rfl rfl (pure_assign rfl (fun _ => rfl)) ?_
    refine al_nil ?_
    refine awp_sub (s := { t := [(0, _, _), (1, _, _), (4, _, _), (5, _, _), (6, _, _)], bx := [], ow := [] }) (sub_mk (⟨⟨_, rfl, rfl⟩, ⟨⟨_, rfl, rfl⟩, ⟨⟨_, rfl, rfl⟩, ⟨⟨_, rfl, rfl⟩, ⟨⟨_, rfl, rfl⟩, trivial⟩⟩⟩⟩⟩) trivial trivial) ?_
    refine awp_seq ?_
    refine awp_region ?_
    refine al_pure rfl rfl rfl (pure_move rfl (fun _ => rfl)) ?_
    refine al_pure rfl rfl rfl (pure_move rfl (fun _ => rfl)) ?_
    refine al_call rfl rfl rfl rfl rfl rfl (fun _ => rfl) (fun _ => rfl) (rInclude_spec l n (by omega) (by omega)) rfl ?_
    refine al_pure rfl rfl rfl (pure_move rfl (fun _ => rfl)) ?_
    refine al_pure rfl rfl rfl (pure_extract rfl (fun _ => rfl) rfl) ?_
    refine al_pure rfl rfl rfl (pure_extract rfl (fun _ => rfl) rfl) ?_
    refine al_pure rfl rfl rfl (pure_assign rfl (fun _ => rfl)) ?_
    refine al_pure rfl rfl rfl (pure_assign rfl (fun _ => rfl)) ?_
    refine al_nil ?_
    refine awp_sub (s := { t := [(0, _, _), (1, _, _), (4, _, _), (5, _, _), (6, _, _), (7, _, _), (8, _, _)], bx := [], ow := [] }) (sub_mk (⟨⟨_, rfl, rfl⟩, ⟨⟨_, rfl, rfl⟩, ⟨⟨_, rfl, rfl⟩, ⟨⟨_, rfl, rfl⟩, ⟨⟨_, rfl, rfl⟩, ⟨⟨_, rfl, rfl⟩, ⟨⟨_, rfl, rfl⟩, trivial⟩⟩⟩⟩⟩⟩⟩) trivial trivial) ?_
    refine awp_seq ?_
    refine awp_seq ?_
    refine awp_region ?_
    refine al_pure rfl rfl rfl (pure_move rfl (fun _ => rfl)) ?_
    refine al_pure rfl rfl rfl (pure_move rfl (fun _ => rfl)) ?_
    refine al_pure rfl rfl rfl (pure_cmp rfl rfl (fun _ => rfl) (fun _ => rfl) rfl) ?_
    refine al_pure rfl rfl rfl (pure_move rfl (fun _ => rfl)) ?_
    refine al_pure rfl rfl rfl (pure_move rfl (fun _ => rfl)) ?_
    refine al_pure rfl rfl rfl (pure_move rfl (fun _ => rfl)) ?_
    refine al_call rfl rfl rfl rfl rfl rfl (fun _ => rfl) (fun hh => gA ((fun hh => hh) hh) (gA ((fun hh => hh) hh) (rfl))) (Lists_spec (incE l n).1 (incE l n).1 (by omega) (by omega)) rfl ?_
    refine al_pure rfl rfl rfl (pure_not rfl (fun hh => hh)) ?_
    refine al_pure rfl rfl rfl (pure_or rfl rfl (fun _ => rfl) (fun _ hi => gP rfl hi)) ?_
    refine al_pure rfl rfl rfl (pure_move rfl (fun _ => rfl)) ?_
    refine al_pure rfl rfl rfl (pure_move rfl (fun _ => rfl)) ?_
    refine al_pure rfl rfl rfl (pure_cmp rfl rfl (fun hh => hh) (fun _ => rfl) rfl) ?_
    refine al_pure rfl rfl rfl (pure_or rfl rfl (fun _ => rfl) (fun _ hi => gP rfl hi)) ?_
    refine al_nil ?_
    refine awp_sub (s := { t := [(0, _, _), (1, _, _), (4, _, _), (5, _, _), (6, _, _), (7, _, _), (8, _, _), (42, _, _)], bx := [], ow := [] }) (sub_mk (⟨⟨_, rfl, rfl⟩, ⟨⟨_, rfl, rfl⟩, ⟨⟨_, rfl, rfl⟩, ⟨⟨_, rfl, rfl⟩, ⟨⟨_, rfl, rfl⟩, ⟨⟨_, rfl, rfl⟩, ⟨⟨_, rfl, rfl⟩, ⟨⟨_, rfl, rfl⟩, trivial⟩⟩⟩⟩⟩⟩⟩⟩) trivial trivial) ?_
    refine awp_cond rfl (fun hc2 => ?_) (fun hc2 => ?_)
    · refine awp_seq ?_
      refine awp_region ?_
      refine al_pure rfl rfl rfl (pure_move rfl (fun _ => rfl)) ?_
      refine al_pure rfl rfl rfl (pure_move rfl (fun _ => rfl)) ?_
      refine al_pure rfl rfl rfl (pure_cmp rfl rfl (fun _ => rfl) (fun _ => rfl) rfl) ?_
      refine al_pure rfl rfl rfl (pure_move rfl (fun _ => rfl)) ?_
      refine al_pure rfl rfl rfl (pure_move rfl (fun _ => rfl)) ?_
      refine al_pure rfl rfl rfl (pure_move rfl (fun _ => rfl)) ?_
      refine al_call rfl rfl rfl rfl rfl rfl (fun _ => rfl) (fun hh => gA ((fun hh => hh) hh) (gA ((fun hh => hh) hh) (rfl))) (Lists_spec (incE l n).1 (incE l n).1 (by omega) (by omega)) rfl ?_
      refine al_pure rfl rfl rfl (pure_and rfl rfl (fun _ => rfl) (fun _ hi => gP rfl hi)) ?_
      refine al_pure rfl rfl rfl (pure_assign rfl (fun _ => rfl)) ?_
      refine al_nil ?_
      refine awp_ret ?_
      repeat (first | refine thenS_ret ?_ | refine blockS_ret ?_)
      refine ret_ok rfl ?_ trivial
      refine xb_eq ?_
      rw [(listsB_iff _ _).2 rfl]; simp
    · rw [(listsB_iff _ _).2 rfl] at hc2
      have he : (incE l n).2 = 0 := by simpa using hc2
      obtain ⟨q1, q2, q3, _⟩ := incE_ok he
      have hrl := T.rows_len l
      obtain ⟨m, rfl⟩ : ∃ m : Nat, n = m := ⟨n.toNat, by omega⟩
      have hx := List.getElem?_eq_getElem (l := l) (i := m) (by omega)
      have hch := chkI_honest he hx
      have hxs := size_get l m _ hx
      refine awp_skip ?_
      refine awp_seq ?_
      refine awp_drawn' (by kernel_rfl) ?_
      refine dr_pure rfl rfl rfl rfl (pure_move rfl (fun _ => rfl)) ?_
      refine dr_callN rfl rfl rfl rfl rfl rfl rfl (fun _ => rfl) (fun _ => rfl) (Of_spec _ l _ rfl (Nat.le_refl _) (by omega)) rfl ?_
      refine dr_pure rfl rfl rfl rfl (pure_move rfl (fun _ => rfl)) ?_
      refine dr_pure rfl rfl rfl rfl (pure_lenSl rfl (fun _ => rfl) rfl rfl) ?_
      refine dr_pure rfl rfl rfl rfl (pure_move rfl (fun _ => rfl)) ?_
      refine dr_pure rfl rfl rfl rfl (pure_move rfl (fun _ => rfl)) ?_
      refine dr_pure rfl rfl rfl rfl (pure_move rfl (fun _ => rfl)) ?_
      refine dr_pure rfl rfl rfl rfl (pure_indexAddr rfl rfl (fun _ => rfl) (fun _ => rfl) rfl rfl rfl (fun _ => T.rows_get hx)) ?_
      refine dr_pure rfl rfl rfl rfl (pure_loadRoRow rfl (fun _ => rfl) rfl rfl rfl rfl) ?_
      refine dr_pure rfl rfl rfl rfl (pure_move rfl (fun _ => rfl)) ?_
      rw [hrl]
      refine dr_callN rfl rfl rfl rfl rfl rfl rfl (fun _ => rfl) (fun _ => rfl) (CheckInclude_spec (headT l) l.length m l[m] (incE l m).1 (by omega) (by omega) (fun x hx => by have := incE_mem l m x hx; omega)) rfl ?_
      refine dr_pure rfl rfl rfl rfl (pure_assign rfl (fun _ => rfl)) ?_
      refine dr_nil (by kernel_rfl) ?_
      refine awp_ret ?_
      repeat (first | refine thenS_ret ?_ | refine blockS_ret ?_)
      refine ret_ok rfl ?_ trivial
      exact xb_eq hch
end Go.Proofs.Ytginljdgdllhfaa
