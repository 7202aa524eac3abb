/- Contracts: Head, on both sides. -/
import Derived.Test.YtginljdgdllhfaaRight
set_option linter.unusedVariables false
set_option linter.unusedSimpArgs false
namespace Go.Proofs.Ytginljdgdllhfaa
open Go Go.Abs
theorem large_spec (t : T) (h : t.size ≤ 900000) : Ctr sys 38 [xt t] [] (xi (largeE t)) none [] := by
  refine spec_intro Try.func38 rfl rfl rfl rfl rfl rfl ?_
  refine awp_seq ?_
  refine awp_region ?_
  refine al_do rfl (does_box rfl rfl rfl rfl) ?_
  refine al_pure rfl rfl rfl (pure_assign rfl (fun _ => rfl)) ?_
  refine al_nil ?_
  refine awp_seq ?_
  refine awp_seq ?_
  refine awp_region ?_
  refine al_pure rfl rfl rfl (pure_loadBoxRow rfl (fun _ => rfl) rfl rfl rfl rfl rfl) ?_
  refine al_call rfl rfl rfl rfl rfl rfl (fun _ => rfl) (fun _ => rfl) (valid_spec t (by omega)) rfl ?_
  refine al_pure rfl rfl rfl (pure_cmp rfl rfl (fun _ => rfl) (fun _ => rfl) rfl) ?_
  refine al_nil ?_
  refine awp_cond rfl (fun hc => ?_) (fun hc => ?_)
  · refine awp_seq ?_
    refine awp_region ?_
    refine al_pure rfl rfl rfl (pure_assign rfl (fun _ => rfl)) ?_
    refine al_nil ?_
    refine awp_ret ?_
    repeat (first | refine thenS_ret ?_ | refine blockS_ret ?_)
    refine ret_ok rfl ?_ trivial
    exact xi_eq (by rw [largeE, if_pos (by simpa using hc)])
  · refine awp_skip ?_
    refine awp_seq ?_
    refine awp_region ?_
    refine al_pure rfl rfl rfl (pure_assign rfl (fun _ => rfl)) ?_
    refine al_nil ?_
    refine awp_ret ?_
    repeat (first | refine thenS_ret ?_ | refine blockS_ret ?_)
    refine ret_ok rfl ?_ trivial
    exact xi_eq (by rw [largeE, if_neg (by simpa using hc)])
theorem sized_spec (l : List T) (h : T.sizes l ≤ 10000) (h2 : l.length ≤ 10000) : Ctr sys 34 [xl l] [] (xi (largeE (headT l))) none [] := by
  have hs := headT_size l
  refine spec_intro Try.func34 rfl rfl rfl rfl rfl rfl ?_
  refine awp_seq ?_
  refine awp_region ?_
  refine al_pure rfl rfl rfl (pure_assign rfl (fun _ => rfl)) ?_
  refine al_nil ?_
  refine awp_seq ?_
  refine awp_seq ?_
  refine awp_region ?_
  refine al_pure rfl rfl rfl (pure_move rfl (fun _ => rfl)) ?_
  refine al_call rfl rfl rfl rfl rfl rfl (fun _ => rfl) (fun _ => rfl) (head_spec _ l _ rfl (Nat.le_refl _) (by omega)) rfl ?_
  refine al_call rfl rfl rfl rfl rfl rfl (fun _ => rfl) (fun _ => rfl) (tvalid_spec _ (by omega)) rfl ?_
  refine al_pure rfl rfl rfl (pure_cmp rfl rfl (fun _ => rfl) (fun _ => rfl) rfl) ?_
  refine al_nil ?_
  refine awp_cond rfl (fun hc => ?_) (fun hc => ?_)
  · refine awp_seq ?_
    refine awp_region ?_
    refine al_pure rfl rfl rfl (pure_assign rfl (fun _ => rfl)) ?_
    refine al_nil ?_
    refine awp_ret ?_
    repeat (first | refine thenS_ret ?_ | refine blockS_ret ?_)
    refine ret_ok rfl ?_ trivial
    exact xi_eq (by rw [largeE, if_pos (by simpa using hc)])
  · refine awp_skip ?_
    refine awp_seq ?_
    refine awp_region ?_
    refine al_pure rfl rfl rfl (pure_assign rfl (fun _ => rfl)) ?_
    refine al_nil ?_
    refine awp_ret ?_
    repeat (first | refine thenS_ret ?_ | refine blockS_ret ?_)
    refine ret_ok rfl ?_ trivial
    exact xi_eq (by rw [largeE, if_neg (by simpa using hc)])
def noT : T := .mk 0 [] 0 []
def headE (l : List T) : T × Int := if rightE l ≠ 0 then (noT, rightE l) else if largeE (headT l) ≠ 0 then (noT, largeE (headT l)) else (headT l, 0)
theorem rHead_spec (l : List T) (h : T.sizes l ≤ 10000) (h2 : l.length ≤ 10000) : Ctr sys 14 [xl l] [] (.tup [.agg (headE l).1.cells, .c (.i .i64 (headE l).2)]) none [] := by
  have hs := headT_size l
  refine spec_intro Try.func14 rfl rfl rfl rfl rfl rfl ?_
  refine awp_seq ?_
  refine awp_region ?_
  refine al_do rfl (does_alloc rfl rfl rfl) ?_
  refine al_pure rfl rfl rfl (pure_assign rfl (fun _ => rfl)) ?_
  refine al_nil ?_
  refine awp_seq ?_
  refine awp_seq ?_
  refine awp_region ?_
  refine al_pure rfl rfl rfl (pure_move rfl (fun _ => rfl)) ?_
  refine al_call rfl rfl rfl rfl rfl rfl (fun _ => rfl) (fun _ => rfl) (entries_spec l (by omega)) rfl ?_
  refine al_pure rfl rfl rfl (pure_assign rfl (fun _ => rfl)) ?_
  refine al_nil ?_
  refine awp_seq ?_
  refine awp_region ?_
  refine al_pure rfl rfl rfl (pure_move rfl (fun _ => rfl)) ?_
  refine al_pure rfl rfl rfl (pure_cmp rfl rfl (fun _ => rfl) (fun _ => rfl) rfl) ?_
  refine al_nil ?_
  refine awp_cond rfl (fun hc => ?_) (fun hc => ?_)
  · refine awp_seq ?_
    refine awp_region ?_
    refine al_pure rfl rfl rfl (pure_build rfl Try.underlying26 rfl (fun _ => rfl)) ?_
    refine al_pure rfl rfl rfl (pure_move rfl (fun _ => rfl)) ?_
    refine al_do rfl (does_store rfl rfl rfl rfl rfl rfl rfl) ?_
    refine al_pure rfl rfl rfl (pure_assign rfl (fun _ => rfl)) ?_
    refine al_nil ?_
    refine awp_ret ?_
    repeat (first | refine thenS_ret ?_ | refine blockS_ret ?_)
    refine ret_ok rfl ?_ trivial
    rw [headE, if_pos (by simpa using hc)]; rfl
  · refine awp_skip ?_
    refine awp_seq ?_
    refine awp_region ?_
    refine al_pure rfl rfl rfl (pure_move rfl (fun _ => rfl)) ?_
    refine al_call rfl rfl rfl rfl rfl rfl (fun _ => rfl) (fun _ => rfl) (Of_spec _ l _ rfl (Nat.le_refl _) (by omega)) rfl ?_
    refine al_do rfl (does_alloc rfl rfl rfl) ?_
    refine al_do rfl (does_store rfl rfl rfl rfl rfl rfl rfl) ?_
    refine al_nil ?_
    refine awp_sub (s := { t := [(2, _, _), (3, _, _), (5, _, _)], bx := [((.l 2), _), ((.l 5), _)], ow := [] }) (sub_mk (⟨⟨_, rfl, rfl⟩, ⟨⟨_, rfl, rfl⟩, ⟨⟨_, rfl, rfl⟩, trivial⟩⟩⟩) (⟨⟨_, rfl, rfl⟩, ⟨⟨_, rfl, rfl⟩, trivial⟩⟩) trivial) ?_
    refine awp_seq ?_
    refine awp_seq ?_
    refine awp_region ?_
    refine al_pure rfl rfl rfl (pure_loadBoxRow rfl (fun _ => rfl) rfl rfl rfl rfl rfl) ?_
    refine al_call rfl rfl rfl rfl rfl rfl (fun _ => rfl) (fun _ => rfl) (large_spec _ (by omega)) rfl ?_
    refine al_pure rfl rfl rfl (pure_assign rfl (fun _ => rfl)) ?_
    refine al_nil ?_
    refine awp_seq ?_
    refine awp_region ?_
    refine al_pure rfl rfl rfl (pure_move rfl (fun _ => rfl)) ?_
    refine al_pure rfl rfl rfl (pure_cmp rfl rfl (fun _ => rfl) (fun _ => rfl) rfl) ?_
    refine al_nil ?_
    refine awp_cond rfl (fun hc2 => ?_) (fun hc2 => ?_)
    · refine awp_seq ?_
      refine awp_region ?_
      refine al_pure rfl rfl rfl (pure_build rfl Try.underlying26 rfl (fun _ => rfl)) ?_
      refine al_pure rfl rfl rfl (pure_move rfl (fun _ => rfl)) ?_
      refine al_do rfl (does_store rfl rfl rfl rfl rfl rfl rfl) ?_
      refine al_pure rfl rfl rfl (pure_assign rfl (fun _ => rfl)) ?_
      refine al_nil ?_
      refine awp_ret ?_
      repeat (first | refine thenS_ret ?_ | refine blockS_ret ?_)
      refine ret_ok rfl ?_ trivial
      rw [headE, if_neg (by simpa using hc), if_pos (by simpa using hc2)]; rfl
    · refine awp_skip ?_
      refine awp_seq ?_
      refine awp_region ?_
      refine al_pure rfl rfl rfl (pure_loadBoxRow rfl (fun _ => rfl) rfl rfl rfl rfl rfl) ?_
      refine al_do rfl (does_store rfl rfl rfl rfl rfl rfl rfl) ?_
      refine al_pure rfl rfl rfl (pure_assign rfl (fun _ => rfl)) ?_
      refine al_nil ?_
      refine awp_ret ?_
      repeat (first | refine thenS_ret ?_ | refine blockS_ret ?_)
      refine ret_ok rfl ?_ trivial
      rw [headE, if_neg (by simpa using hc), if_neg (by simpa using hc2)]; rfl
end Go.Proofs.Ytginljdgdllhfaa
