/- Contracts: copies of lists. -/
import Derived.Test.YtginljdgdllhfaaFew
set_option linter.unusedVariables false
set_option linter.unusedSimpArgs false
namespace Go.Proofs.Ytginljdgdllhfaa
open Go Go.Abs
theorem Clone_spec (l : List T) (h : l.length ≤ 100000) : Ctr sys 13 [xl l] [] (xl l) none [] := by
  have hr : (T.rows l).length ≤ 100000 := by rw [T.rows_len]; exact h
  refine spec_intro Try.func13 rfl rfl rfl rfl rfl rfl ?_
  refine awp_seq ?_
  refine awp_region ?_
  refine al_do rfl (does_nil (.inr rfl) rfl rfl) ?_
  refine al_nil ?_
  refine awp_seq ?_
  refine awp_seq ?_
  refine awp_region ?_
  refine al_pure rfl rfl rfl (pure_move rfl (fun _ => rfl)) ?_
  refine al_eqNil rfl rfl rfl rfl rfl (rfl) rfl rfl (fun b hb => ?_)
  refine al_nil ?_
  refine awp_cond rfl (fun hc => ?_) (fun hc => ?_)
  · refine awp_seq ?_
    refine awp_region ?_
    refine al_do rfl (does_nil (.inr rfl) rfl rfl) ?_
    refine al_nil ?_
    refine awp_ret ?_
    repeat (first | refine thenS_ret ?_ | refine blockS_ret ?_)
    refine ret_ok rfl ?_ trivial
    have := hb hc
    show X.v (.c (.sl 4 [])) = X.v (.c (.sl 4 (T.rows l)))
    rw [this]
  · refine awp_skip ?_
    refine awp_seq ?_
    refine awp_region ?_
    refine al_buildSlice (xs := []) rfl rfl rfl rfl rfl rfl rfl rfl rfl (fun _ => rfl) rfl ?_
    refine al_pure rfl rfl rfl (pure_move rfl (fun _ => rfl)) ?_
    refine al_do rfl (does_append rfl rfl rfl rfl rfl rfl rfl (by simp; omega) (by simp; omega)) ?_
    refine al_do rfl (does_take (.inr rfl) rfl rfl rfl) ?_
    refine al_nil ?_
    refine awp_ret ?_
    repeat (first | refine thenS_ret ?_ | refine blockS_ret ?_)
    refine ret_ok rfl ?_ trivial
    rfl
end Go.Proofs.Ytginljdgdllhfaa
