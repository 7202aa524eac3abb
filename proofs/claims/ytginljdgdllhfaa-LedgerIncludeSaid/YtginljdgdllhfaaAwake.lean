/- Contracts: the examples hold. -/
import Derived.Test.YtginljdgdllhfaaInclude
set_option linter.unusedVariables false
set_option linter.unusedSimpArgs false
namespace Go.Proofs.Ytginljdgdllhfaa
open Go Go.Abs
def tA : T := T.atom [97] 0
def tB : T := T.atom [98] 0
def tC : T := T.atom [99] 0
theorem ex1 : headE [tA, tB] = (nodeT (leafT tA) (leafT tB), 0) := by kernel_rfl
theorem ex2 : incE [tA, tB, tC] 2 = ([nodeT (leafT tA) (leafT tB)], 0) := by kernel_rfl
theorem ex3 : extE [tA, tB, tC] 2 = ([leafT tC], 0) := by kernel_rfl
theorem ex4 : (nodeT (leafT tA) (leafT tB)).cmp (nodeT (leafT tA) (leafT tB)) = 0 := by kernel_rfl
theorem ex5 : listsB [nodeT (leafT tA) (leafT tB)] [nodeT (leafT tA) (leafT tB)] = true := by kernel_rfl
theorem ex6 : listsB [leafT tC] [leafT tC] = true := by kernel_rfl
theorem awake_spec : Ctr sys 10 [] [] (xb true) none [] := by
  have h1 := Head_spec [tA, tB] (by decide) (by decide)
  rw [ex1] at h1
  have h2 := Include1_spec [tA, tB, tC] 2 (by decide) (by decide) (by decide)
  rw [ex2] at h2
  have h3 := Extend_spec [tA, tB, tC] 2 (by decide) (by decide)
  rw [ex3] at h3
  refine spec_intro Try.func10 rfl rfl rfl rfl rfl rfl ?_
  refine awp_seq ?_
  refine awp_region ?_
  refine al_pure rfl rfl rfl (pure_assign rfl (fun _ => rfl)) ?_
  refine al_nil ?_
  refine awp_seq ?_
  refine awp_region ?_
  refine al_call rfl rfl rfl rfl rfl rfl (fun _ => rfl) (fun _ => rfl) (atom_spec [97] 0) rfl ?_
  refine al_call rfl rfl rfl rfl rfl rfl (fun _ => rfl) (fun _ => rfl) (atom_spec [98] 0) rfl ?_
  refine al_call rfl rfl rfl rfl rfl rfl (fun _ => rfl) (fun _ => rfl) (atom_spec [99] 0) rfl ?_
  refine al_do rfl (does_alloc rfl rfl rfl) ?_
  refine al_do rfl (does_alloc rfl rfl rfl) ?_
  refine al_do rfl (does_alloc rfl rfl rfl) ?_
  refine al_do rfl (does_store rfl rfl rfl rfl rfl rfl rfl) ?_
  refine al_do rfl (does_store rfl rfl rfl rfl rfl rfl rfl) ?_
  refine al_do rfl (does_store rfl rfl rfl rfl rfl rfl rfl) ?_
  refine al_nil ?_
  refine awp_seq ?_
  refine awp_region ?_
  refine al_pure rfl rfl rfl (pure_loadBoxRow rfl (fun _ => rfl) rfl rfl rfl rfl rfl) ?_
  refine al_pure rfl rfl rfl (pure_loadBoxRow rfl (fun _ => rfl) rfl rfl rfl rfl rfl) ?_
  refine al_buildSlice (xs := [_, _]) rfl rfl rfl rfl rfl rfl rfl rfl rfl (fun _ => rfl) rfl ?_
  refine al_call rfl rfl rfl rfl rfl rfl (fun _ => rfl) (fun _ => rfl) (h1) rfl ?_
  refine al_pure rfl rfl rfl (pure_move rfl (fun _ => rfl)) ?_
  refine al_pure rfl rfl rfl (pure_extract rfl (fun _ => rfl) rfl) ?_
  refine al_pure rfl rfl rfl (pure_extract rfl (fun _ => rfl) rfl) ?_
  refine al_do rfl (does_alloc rfl rfl rfl) ?_
  refine al_do rfl (does_store rfl rfl rfl rfl rfl rfl rfl) ?_
  refine al_pure rfl rfl rfl (pure_assign rfl (fun _ => rfl)) ?_
  refine al_nil ?_
  refine awp_sub (s := { t := [(0, _, _), (1, _, _), (2, _, _), (3, _, _), (4, _, _), (5, _, _)], bx := [((.l 1), _), ((.l 2), _), ((.l 3), _), ((.l 4), _)], ow := [] }) (sub_mk (⟨⟨_, rfl, rfl⟩, ⟨⟨_, rfl, rfl⟩, ⟨⟨_, rfl, rfl⟩, ⟨⟨_, rfl, rfl⟩, ⟨⟨_, rfl, rfl⟩, ⟨⟨_, rfl, rfl⟩, trivial⟩⟩⟩⟩⟩⟩) (⟨⟨_, rfl, rfl⟩, ⟨⟨_, rfl, rfl⟩, ⟨⟨_, rfl, rfl⟩, ⟨⟨_, rfl, rfl⟩, trivial⟩⟩⟩⟩) trivial) ?_
  refine awp_seq ?_
  refine awp_region ?_
  refine al_pure rfl rfl rfl (pure_loadBoxRow rfl (fun _ => rfl) rfl rfl rfl rfl rfl) ?_
  refine al_pure rfl rfl rfl (pure_loadBoxRow rfl (fun _ => rfl) rfl rfl rfl rfl rfl) ?_
  refine al_pure rfl rfl rfl (pure_loadBoxRow rfl (fun _ => rfl) rfl rfl rfl rfl rfl) ?_
  refine al_buildSlice (xs := [_, _, _]) rfl rfl rfl rfl rfl rfl rfl rfl rfl (fun _ => rfl) rfl ?_
  refine al_call rfl rfl rfl rfl rfl rfl (fun _ => rfl) (fun _ => rfl) (h2) rfl ?_
  refine al_pure rfl rfl rfl (pure_move rfl (fun _ => rfl)) ?_
  refine al_pure rfl rfl rfl (pure_extract rfl (fun _ => rfl) rfl) ?_
  refine al_pure rfl rfl rfl (pure_extract rfl (fun _ => rfl) rfl) ?_
  refine al_pure rfl rfl rfl (pure_assign rfl (fun _ => rfl)) ?_
  refine al_pure rfl rfl rfl (pure_assign rfl (fun _ => rfl)) ?_
  refine al_nil ?_
  refine awp_sub (s := { t := [(0, _, _), (1, _, _), (2, _, _), (3, _, _), (4, _, _), (5, _, _), (6, _, _), (7, _, _)], bx := [((.l 1), _), ((.l 2), _), ((.l 3), _), ((.l 4), _)], ow := [] }) (sub_mk (⟨⟨_, rfl, rfl⟩, ⟨⟨_, rfl, rfl⟩, ⟨⟨_, rfl, rfl⟩, ⟨⟨_, rfl, rfl⟩, ⟨⟨_, rfl, rfl⟩, ⟨⟨_, rfl, rfl⟩, ⟨⟨_, rfl, rfl⟩, ⟨⟨_, rfl, rfl⟩, trivial⟩⟩⟩⟩⟩⟩⟩⟩) (⟨⟨_, rfl, rfl⟩, ⟨⟨_, rfl, rfl⟩, ⟨⟨_, rfl, rfl⟩, ⟨⟨_, rfl, rfl⟩, trivial⟩⟩⟩⟩) trivial) ?_
  refine awp_seq ?_
  refine awp_region ?_
  refine al_pure rfl rfl rfl (pure_loadBoxRow rfl (fun _ => rfl) rfl rfl rfl rfl rfl) ?_
  refine al_pure rfl rfl rfl (pure_loadBoxRow rfl (fun _ => rfl) rfl rfl rfl rfl rfl) ?_
  refine al_pure rfl rfl rfl (pure_loadBoxRow rfl (fun _ => rfl) rfl rfl rfl rfl rfl) ?_
  refine al_buildSlice (xs := [_, _, _]) rfl rfl rfl rfl rfl rfl rfl rfl rfl (fun _ => rfl) rfl ?_
  refine al_call rfl rfl rfl rfl rfl rfl (fun _ => rfl) (fun _ => rfl) (h3) rfl ?_
  refine al_pure rfl rfl rfl (pure_move rfl (fun _ => rfl)) ?_
  refine al_pure rfl rfl rfl (pure_extract rfl (fun _ => rfl) rfl) ?_
  refine al_pure rfl rfl rfl (pure_extract rfl (fun _ => rfl) rfl) ?_
  refine al_pure rfl rfl rfl (pure_assign rfl (fun _ => rfl)) ?_
  refine al_pure rfl rfl rfl (pure_assign rfl (fun _ => rfl)) ?_
  refine al_nil ?_
  refine awp_sub (s := { t := [(0, _, _), (1, _, _), (2, _, _), (3, _, _), (4, _, _), (5, _, _), (6, _, _), (7, _, _), (8, _, _), (9, _, _)], bx := [((.l 1), _), ((.l 2), _), ((.l 3), _), ((.l 4), _)], ow := [] }) (sub_mk (⟨⟨_, rfl, rfl⟩, ⟨⟨_, rfl, rfl⟩, ⟨⟨_, rfl, rfl⟩, ⟨⟨_, rfl, rfl⟩, ⟨⟨_, rfl, rfl⟩, ⟨⟨_, rfl, rfl⟩, ⟨⟨_, rfl, rfl⟩, ⟨⟨_, rfl, rfl⟩, ⟨⟨_, rfl, rfl⟩, ⟨⟨_, rfl, rfl⟩, trivial⟩⟩⟩⟩⟩⟩⟩⟩⟩⟩) (⟨⟨_, rfl, rfl⟩, ⟨⟨_, rfl, rfl⟩, ⟨⟨_, rfl, rfl⟩, ⟨⟨_, rfl, rfl⟩, trivial⟩⟩⟩⟩) trivial) ?_
  refine awp_seq ?_
  refine awp_drawn' (by kernel_rfl) ?_
  refine dr_pure rfl rfl rfl rfl (pure_move rfl (fun _ => rfl)) ?_
  refine dr_pure rfl rfl rfl rfl (pure_cmp rfl rfl (fun _ => rfl) (fun _ => rfl) rfl) ?_
  refine dr_pure rfl rfl rfl rfl (pure_move rfl (fun _ => rfl)) ?_
  refine dr_loadRow rfl rfl rfl rfl rfl rfl rfl (fun _ => rfl) rfl rfl rfl rfl rfl ?_
  refine dr_loadRow rfl rfl rfl rfl rfl rfl rfl (fun _ => rfl) rfl rfl rfl rfl rfl ?_
  refine dr_callN rfl rfl rfl rfl rfl rfl rfl (fun _ => rfl) (fun hh => gA ((fun hh => hh) hh) (rfl)) (Leaf_spec tA) rfl ?_
  refine dr_loadRow rfl rfl rfl rfl rfl rfl rfl (fun _ => rfl) rfl rfl rfl rfl rfl ?_
  refine dr_callN rfl rfl rfl rfl rfl rfl rfl (fun _ => rfl) (fun hh => gA ((fun hh => hh) hh) (rfl)) (Leaf_spec tB) rfl ?_
  refine dr_callN rfl rfl rfl rfl rfl rfl rfl (fun _ => rfl) (fun hh => gA ((fun hh => hh) hh) (gA ((fun hh => hh) hh) (rfl))) (Node_spec (leafT tA) (leafT tB)) rfl ?_
  refine dr_callN rfl rfl rfl rfl rfl rfl rfl (fun _ => rfl) (fun hh => gA ((fun hh => hh) hh) (gA ((fun hh => hh) hh) (rfl))) (Same_spec (nodeT (leafT tA) (leafT tB)) (nodeT (leafT tA) (leafT tB)) (by decide) (by decide)) rfl ?_
  refine dr_pure rfl rfl rfl rfl (pure_and rfl rfl (fun _ => rfl) (fun _ hi => gP rfl hi)) ?_
  refine dr_pure rfl rfl rfl rfl (pure_move rfl (fun _ => rfl)) ?_
  refine dr_pure rfl rfl rfl rfl (pure_move rfl (fun _ => rfl)) ?_
  refine dr_pure rfl rfl rfl rfl (pure_cmp rfl rfl (fun hh => hh) (fun _ => rfl) rfl) ?_
  refine dr_pure rfl rfl rfl rfl (pure_and rfl rfl (fun _ => rfl) (fun _ hi => gP rfl hi)) ?_
  refine dr_pure rfl rfl rfl rfl (pure_move rfl (fun _ => rfl)) ?_
  refine dr_pure rfl rfl rfl rfl (pure_move rfl (fun _ => rfl)) ?_
  refine dr_loadRow rfl rfl rfl rfl rfl rfl rfl (fun _ => rfl) rfl rfl rfl rfl rfl ?_
  refine dr_build (xs := [_]) rfl rfl rfl rfl rfl rfl rfl rfl rfl rfl (by first | exact fun hh => hh | exact fun _ => rfl | exact fun hh => gL hh | exact fun hh => gL (gL hh) | (intro hh; simp_all)) rfl ?_
  refine dr_callN rfl rfl rfl rfl rfl rfl rfl (fun _ => rfl) (fun hh => gA ((fun hh => hh) hh) (gA ((fun hh => hh) hh) (rfl))) (Lists_spec [nodeT (leafT tA) (leafT tB)] [nodeT (leafT tA) (leafT tB)] (by decide) (by decide)) rfl ?_
  refine dr_pure rfl rfl rfl rfl (pure_and rfl rfl (fun _ => rfl) (fun _ hi => gP rfl hi)) ?_
  refine dr_pure rfl rfl rfl rfl (pure_move rfl (fun _ => rfl)) ?_
  refine dr_pure rfl rfl rfl rfl (pure_move rfl (fun _ => rfl)) ?_
  refine dr_pure rfl rfl rfl rfl (pure_cmp rfl rfl (fun hh => hh) (fun _ => rfl) rfl) ?_
  refine dr_pure rfl rfl rfl rfl (pure_and rfl rfl (fun _ => rfl) (fun _ hi => gP rfl hi)) ?_
  refine dr_pure rfl rfl rfl rfl (pure_move rfl (fun _ => rfl)) ?_
  refine dr_pure rfl rfl rfl rfl (pure_move rfl (fun _ => rfl)) ?_
  refine dr_loadRow rfl rfl rfl rfl rfl rfl rfl (fun _ => rfl) rfl rfl rfl rfl rfl ?_
  refine dr_callN rfl rfl rfl rfl rfl rfl rfl (fun _ => rfl) (fun hh => gA ((fun hh => hh) hh) (rfl)) (Leaf_spec tC) rfl ?_
  refine dr_build (xs := [_]) rfl rfl rfl rfl rfl rfl rfl rfl rfl rfl (by first | exact fun hh => hh | exact fun _ => rfl | exact fun hh => gL hh | exact fun hh => gL (gL hh) | (intro hh; simp_all)) rfl ?_
  refine dr_callN rfl rfl rfl rfl rfl rfl rfl (fun _ => rfl) (fun hh => gA ((fun hh => hh) hh) (gA ((fun hh => hh) hh) (rfl))) (Lists_spec [leafT tC] [leafT tC] (by decide) (by decide)) rfl ?_
  refine dr_pure rfl rfl rfl rfl (pure_and rfl rfl (fun _ => rfl) (fun _ hi => gP rfl hi)) ?_
  refine dr_pure rfl rfl rfl rfl (pure_assign rfl (fun _ => rfl)) ?_
  refine dr_nil (by kernel_rfl) ?_
  refine awp_ret ?_
  repeat (first | refine thenS_ret ?_ | refine blockS_ret ?_)
  refine ret_ok rfl ?_ trivial
  rw [ex4, ex5, ex6]
  rfl
end Go.Proofs.Ytginljdgdllhfaa
