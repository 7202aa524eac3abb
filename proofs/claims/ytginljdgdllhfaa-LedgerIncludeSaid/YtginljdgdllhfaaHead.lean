/- Contracts: the head of a list. -/
import Derived.Test.YtginljdgdllhfaaMake
set_option linter.unusedVariables false
set_option linter.unusedSimpArgs false
namespace Go.Proofs.Ytginljdgdllhfaa
open Go Go.Abs
def halfF : Nat → Nat → Nat → Nat
  | 0, k, _ => k
  | f + 1, k, n => if 2 * k < n then halfF f (2 * k) n else k
def half (n : Nat) : Nat := halfF n 1 n
theorem halfF_bound : ∀ (f k n : Nat), 1 ≤ k → k < n → 1 ≤ halfF f k n ∧ halfF f k n < n
  | 0, k, n, h1, h2 => ⟨h1, h2⟩
  | f + 1, k, n, h1, h2 => by
    rw [halfF]
    split
    · exact halfF_bound f (2 * k) n (by omega) (by assumption)
    · exact ⟨h1, h2⟩
theorem half_bound {n : Nat} (h : 2 ≤ n) : 1 ≤ half n ∧ half n < n := halfF_bound n 1 n (by omega) (by omega)

def halfS (n : Nat) (p : Nat × Nat) : St := { t := [(0, true, xi n), (3, true, xi p.2)], bx := [], ow := [] }
theorem Split_spec (n : Nat) (h : 2 ≤ n) (hn : n ≤ 1000000) : Ctr sys 48 [xi n] [] (xi (half n)) none [] := by
  refine spec_intro Try.func48 rfl rfl rfl rfl rfl rfl ?_
  refine awp_seq ?_
  refine awp_region ?_
  refine al_pure rfl rfl rfl (pure_assign rfl (fun _ => rfl)) ?_
  refine al_nil ?_
  refine awp_seq ?_
  refine awp_region ?_
  refine al_pure rfl rfl rfl (pure_assign rfl (fun _ => rfl)) ?_
  refine al_nil ?_
  refine awp_seq ?_
  refine awp_block ?_
  refine awp_loop (halfS n) (fun p => halfF p.1 p.2 n = half n ∧ 1 ≤ p.2 ∧ p.2 < n ∧ n ≤ p.1 + p.2) (fun p => p.1) (n, 1) ⟨rfl, by omega, by omega, by omega⟩ ?_ ?_
  · refine sub_mk ⟨⟨_, rfl, rfl⟩, ⟨_, rfl, rfl⟩, trivial⟩ trivial trivial
  · rintro ⟨f, k⟩ ⟨h1, h2, h3, h4⟩
    dsimp only at h1 h2 h3 h4
    refine awp_seq ?_
    refine awp_seq ?_
    refine awp_region ?_
    refine al_pure rfl rfl rfl (pure_move rfl (fun _ => rfl)) ?_
    refine al_pure rfl rfl rfl (pure_arith rfl rfl (fun _ => rfl) (fun _ => rfl) rfl (IntWalk.i64_in _ (by omega))) ?_
    refine al_pure rfl rfl rfl (pure_move rfl (fun _ => rfl)) ?_
    refine al_pure rfl rfl rfl (pure_cmp rfl rfl (fun _ => rfl) (fun _ => rfl) rfl) ?_
    refine al_nil ?_
    refine awp_cond rfl (fun hc => ?_) (fun hc => ?_)
    · refine awp_skip ?_
      refine awp_block ?_
      refine awp_region ?_
      refine al_pure rfl rfl rfl (pure_move rfl (fun _ => rfl)) ?_
      refine al_pure rfl rfl rfl (pure_arith rfl rfl (fun _ => rfl) (fun _ => rfl) rfl (IntWalk.i64_in _ (by omega))) ?_
      refine al_pure rfl rfl rfl (pure_assign rfl (fun _ => rfl)) ?_
      refine al_nil ?_
      simp only [decide_eq_true_eq] at hc
      obtain ⟨f, rfl⟩ : ∃ g, f = g + 1 := ⟨f - 1, by omega⟩
      rw [halfF, if_pos (by omega)] at h1
      refine ⟨(f, 2 * k), ⟨h1, by dsimp only; omega, by dsimp only; omega, by dsimp only; omega⟩, by dsimp only; omega, ?_⟩
      refine sub_mk ⟨⟨_, rfl, rfl⟩, ⟨_, rfl, rfl⟩, trivial⟩ trivial trivial
    · refine awp_exit ?_
      repeat (first | refine thenS_exit ?_ | refine blockS_hit ?_ | refine blockS_miss rfl ?_)
      refine awp_seq ?_
      refine awp_region ?_
      refine al_pure rfl rfl rfl (pure_move rfl (fun _ => rfl)) ?_
      refine al_pure rfl rfl rfl (pure_assign rfl (fun _ => rfl)) ?_
      refine al_nil ?_
      refine awp_ret ?_
      repeat (first | refine thenS_ret ?_ | refine blockS_ret ?_)
      refine ret_ok rfl ?_ trivial
      simp only [decide_eq_false_iff_not] at hc
      refine xi_eq ?_
      rw [← h1]
      cases f with
      | zero => rfl
      | succ f => rw [halfF, if_neg (by omega)]
theorem half_spec (n : Nat) (h : 2 ≤ n) (hn : n ≤ 1000000) : Ctr sys 42 [xi n] [] (xi (half n)) none [] := by
  refine spec_intro Try.func42 rfl rfl rfl rfl rfl rfl ?_
  refine awp_seq ?_
  refine awp_region ?_
  refine al_pure rfl rfl rfl (pure_assign rfl (fun _ => rfl)) ?_
  refine al_nil ?_
  refine awp_seq ?_
  refine awp_region ?_
  refine al_pure rfl rfl rfl (pure_assign rfl (fun _ => rfl)) ?_
  refine al_nil ?_
  refine awp_seq ?_
  refine awp_block ?_
  refine awp_loop (halfS n) (fun p => halfF p.1 p.2 n = half n ∧ 1 ≤ p.2 ∧ p.2 < n ∧ n ≤ p.1 + p.2) (fun p => p.1) (n, 1) ⟨rfl, by omega, by omega, by omega⟩ ?_ ?_
  · refine sub_mk ⟨⟨_, rfl, rfl⟩, ⟨_, rfl, rfl⟩, trivial⟩ trivial trivial
  · rintro ⟨f, k⟩ ⟨h1, h2, h3, h4⟩
    dsimp only at h1 h2 h3 h4
    refine awp_seq ?_
    refine awp_seq ?_
    refine awp_region ?_
    refine al_pure rfl rfl rfl (pure_move rfl (fun _ => rfl)) ?_
    refine al_pure rfl rfl rfl (pure_arith rfl rfl (fun _ => rfl) (fun _ => rfl) rfl (IntWalk.i64_in _ (by omega))) ?_
    refine al_pure rfl rfl rfl (pure_move rfl (fun _ => rfl)) ?_
    refine al_pure rfl rfl rfl (pure_cmp rfl rfl (fun _ => rfl) (fun _ => rfl) rfl) ?_
    refine al_nil ?_
    refine awp_cond rfl (fun hc => ?_) (fun hc => ?_)
    · refine awp_skip ?_
      refine awp_block ?_
      refine awp_region ?_
      refine al_pure rfl rfl rfl (pure_move rfl (fun _ => rfl)) ?_
      refine al_pure rfl rfl rfl (pure_arith rfl rfl (fun _ => rfl) (fun _ => rfl) rfl (IntWalk.i64_in _ (by omega))) ?_
      refine al_pure rfl rfl rfl (pure_assign rfl (fun _ => rfl)) ?_
      refine al_nil ?_
      simp only [decide_eq_true_eq] at hc
      obtain ⟨f, rfl⟩ : ∃ g, f = g + 1 := ⟨f - 1, by omega⟩
      rw [halfF, if_pos (by omega)] at h1
      refine ⟨(f, 2 * k), ⟨h1, by dsimp only; omega, by dsimp only; omega, by dsimp only; omega⟩, by dsimp only; omega, ?_⟩
      refine sub_mk ⟨⟨_, rfl, rfl⟩, ⟨_, rfl, ?_⟩, trivial⟩ trivial trivial
      refine congrArg (fun z => (true, xi z)) ?_
      dsimp only; omega
    · refine awp_exit ?_
      repeat (first | refine thenS_exit ?_ | refine blockS_hit ?_ | refine blockS_miss rfl ?_)
      refine awp_seq ?_
      refine awp_region ?_
      refine al_pure rfl rfl rfl (pure_move rfl (fun _ => rfl)) ?_
      refine al_pure rfl rfl rfl (pure_assign rfl (fun _ => rfl)) ?_
      refine al_nil ?_
      refine awp_ret ?_
      repeat (first | refine thenS_ret ?_ | refine blockS_ret ?_)
      refine ret_ok rfl ?_ trivial
      simp only [decide_eq_false_iff_not] at hc
      refine xi_eq ?_
      rw [← h1]
      cases f with
      | zero => rfl
      | succ f => rw [halfF, if_neg (by omega)]
theorem Node_spec (a b : T) : Ctr sys 30 [xt a, xt b] [] (xt (nodeT a b)) none [] := by
  refine spec_intro Try.func30 rfl rfl rfl rfl rfl rfl ?_
  refine awp_seq ?_
  refine awp_region ?_
  refine al_do rfl (does_box rfl rfl rfl rfl) ?_
  refine al_do rfl (does_box rfl rfl rfl rfl) ?_
  refine al_do rfl (does_alloc rfl rfl rfl) ?_
  refine al_nil ?_
  refine awp_seq ?_
  refine awp_drawn' (by kernel_rfl) ?_
  refine dr_callN rfl rfl rfl rfl rfl rfl rfl (fun _ => rfl) (fun _ => rfl) (rtag_spec sNode) rfl ?_
  refine dr_loadRow rfl rfl rfl rfl rfl rfl rfl (fun _ => rfl) rfl rfl rfl rfl rfl ?_
  refine dr_loadRow rfl rfl rfl rfl rfl rfl rfl (fun _ => rfl) rfl rfl rfl rfl rfl ?_
  refine dr_build (xs := [_, _]) rfl rfl rfl rfl rfl rfl rfl rfl rfl rfl (fun _ => rfl) rfl ?_
  refine dr_callN rfl rfl rfl rfl rfl rfl rfl (fun _ => rfl) (fun _ => rfl) (App_spec sPair [a, b] _ (by simp [T.rows_eq, T.take4]) (by simp)) rfl ?_
  refine dr_callN rfl rfl rfl rfl rfl rfl rfl (fun _ => rfl) (fun _ => rfl) (hash_spec _ _) rfl ?_
  refine dr_store rfl rfl rfl rfl rfl rfl rfl rfl rfl rfl rfl rfl ?_
  refine dr_nil (by kernel_rfl) ?_
  refine awp_ret ?_
  repeat (first | refine thenS_ret ?_ | refine blockS_ret ?_)
  refine ret_ok rfl ?_ trivial
  rfl
theorem node2_spec (a b : T) : Ctr sys 60 [xt a, xt b] [] (xt (nodeT a b)) none [] := by
  refine spec_intro Try.func60 rfl rfl rfl rfl rfl rfl ?_
  refine awp_seq ?_
  refine awp_region ?_
  refine al_do rfl (does_box rfl rfl rfl rfl) ?_
  refine al_do rfl (does_box rfl rfl rfl rfl) ?_
  refine al_do rfl (does_alloc rfl rfl rfl) ?_
  refine al_nil ?_
  refine awp_seq ?_
  refine awp_drawn' (by kernel_rfl) ?_
  refine dr_callN rfl rfl rfl rfl rfl rfl rfl (fun _ => rfl) (fun _ => rfl) (tag_spec sNode) rfl ?_
  refine dr_loadRow rfl rfl rfl rfl rfl rfl rfl (fun _ => rfl) rfl rfl rfl rfl rfl ?_
  refine dr_loadRow rfl rfl rfl rfl rfl rfl rfl (fun _ => rfl) rfl rfl rfl rfl rfl ?_
  refine dr_build (xs := [_, _]) rfl rfl rfl rfl rfl rfl rfl rfl rfl rfl (fun _ => rfl) rfl ?_
  refine dr_callN rfl rfl rfl rfl rfl rfl rfl (fun _ => rfl) (fun _ => rfl) (app_spec sPair [a, b] _ (by simp [T.rows_eq, T.take4])) rfl ?_
  refine dr_build (xs := [_, _]) rfl rfl rfl rfl rfl rfl rfl rfl rfl rfl (fun _ => rfl) rfl ?_
  refine dr_callN rfl rfl rfl rfl rfl rfl rfl (fun _ => rfl) (fun _ => rfl) (app_spec sPair [T.atom sNode 5, T.app sPair [a, b]] _ (by simp [T.rows_eq, T.take4])) rfl ?_
  refine dr_build (xs := [_]) rfl rfl rfl rfl rfl rfl rfl rfl rfl rfl (fun _ => rfl) rfl ?_
  refine dr_callN rfl rfl rfl rfl rfl rfl rfl (fun _ => rfl) (fun _ => rfl) (app_spec sHash [T.app sPair [T.atom sNode 5, T.app sPair [a, b]]] _ (by simp [T.rows_eq, T.take4])) rfl ?_
  refine dr_store rfl rfl rfl rfl rfl rfl rfl rfl rfl rfl rfl rfl ?_
  refine dr_nil (by kernel_rfl) ?_
  refine awp_ret ?_
  repeat (first | refine thenS_ret ?_ | refine blockS_ret ?_)
  refine ret_ok rfl ?_ trivial
  rfl
def headF : Nat → List T → T
  | 0, _ => T.app sHash [T.atom sNone 5]
  | f + 1, l => match l with
    | [] => T.app sHash [T.atom sNone 5]
    | [t] => leafT t
    | l => nodeT (headF f (l.take (half l.length))) (headF f (l.drop (half l.length)))
def headT (l : List T) : T := headF l.length l
end Go.Proofs.Ytginljdgdllhfaa
