/- Contracts: reading proofs, as ledger does. -/
import Derived.Test.YtginljdgdllhfaaCmp
set_option linter.unusedVariables false
set_option linter.unusedSimpArgs false
namespace Go.Proofs.Ytginljdgdllhfaa
open Go Go.Abs
/-- What is left of a proof, and whether it was too short. -/
abbrev pc (l : List T) (b : Bool) : List C := [.sl 4 (T.rows l), .b b]
abbrev pp : X := .v (.ptr (.o 0) 0)
def nextT : List T → T
  | [] => noT
  | t :: _ => t
theorem next_spec (l : List T) (b : Bool) : Ctr sys 65 [pp] [pc l b] (xt (nextT l)) none [pc l.tail (b || l.isEmpty)] := by
  refine spec_intro Try.func65 rfl rfl rfl rfl rfl rfl ?_
  refine awp_seq ?_
  refine awp_region ?_
  refine al_do rfl (does_alloc rfl rfl rfl) ?_
  refine al_nil ?_
  refine awp_seq ?_
  refine awp_seq ?_
  refine awp_region ?_
  refine al_pure rfl rfl rfl (pure_move rfl (fun _ => rfl)) ?_
  refine al_pure rfl rfl rfl (pure_nilCheck rfl (fun _ => rfl)) ?_
  refine al_pure rfl rfl rfl (pure_fieldPtr rfl (fun _ => rfl) rfl rfl) ?_
  refine al_pure rfl rfl rfl (pure_loadBox rfl (fun _ => rfl) rfl rfl rfl rfl) ?_
  refine al_lenSl rfl rfl rfl rfl rfl (fun _ => rfl) rfl rfl ?_ (fun hh => by simp at hh); intro hlen
  refine al_pure rfl rfl rfl (pure_cmp rfl rfl (fun _ => rfl) (fun _ => rfl) rfl) ?_
  refine al_nil ?_
  refine awp_cond rfl (fun hc => ?_) (fun hc => ?_)
  · simp only [T.rows_len, beq_iff_eq] at hc
    have : l = [] := List.eq_nil_of_length_eq_zero (by omega)
    subst this
    refine awp_seq ?_
    refine awp_region ?_
    refine al_pure rfl rfl rfl (pure_move rfl (fun _ => rfl)) ?_
    refine al_pure rfl rfl rfl (pure_nilCheck rfl (fun _ => rfl)) ?_
    refine al_pure rfl rfl rfl (pure_fieldPtr rfl (fun _ => rfl) rfl rfl) ?_
    refine al_do rfl (does_store rfl rfl rfl rfl rfl rfl rfl) ?_
    refine al_nil ?_
    refine awp_sub (s := { t := [(0, _, _), (2, _, _)], bx := [((.l 2), _), ((.o 0), _)], ow := [] }) (sub_mk (⟨⟨_, rfl, rfl⟩, ⟨⟨_, rfl, rfl⟩, trivial⟩⟩) (⟨⟨_, rfl, rfl⟩, ⟨⟨_, rfl, rfl⟩, trivial⟩⟩) trivial) ?_
    refine awp_seq ?_
    refine awp_region ?_
    refine al_pure rfl rfl rfl (pure_build rfl Try.underlying26 rfl (fun _ => rfl)) ?_
    refine al_do rfl (does_store rfl rfl rfl rfl rfl rfl rfl) ?_
    refine al_nil ?_
    refine awp_ret ?_
    repeat (first | refine thenS_ret ?_ | refine blockS_ret ?_)
    refine ret_ok rfl ?_ (⟨⟨_, rfl, ?_⟩, trivial⟩)
    · rfl
    · simp [setAt, pc]
  · simp only [T.rows_len, beq_eq_false_iff_ne, ne_eq] at hc
    match l, hc with
    | [], hc => simp at hc
    | t :: r, hc =>
      refine awp_skip ?_
      refine awp_seq ?_
      refine awp_region ?_
      refine al_pure rfl rfl rfl (pure_move rfl (fun _ => rfl)) ?_
      refine al_pure rfl rfl rfl (pure_nilCheck rfl (fun _ => rfl)) ?_
      refine al_pure rfl rfl rfl (pure_fieldPtr rfl (fun _ => rfl) rfl rfl) ?_
      refine al_pure rfl rfl rfl (pure_loadBox rfl (fun _ => rfl) rfl rfl rfl rfl) ?_
      refine al_pure rfl rfl rfl (pure_indexAddr rfl rfl (fun _ => rfl) (fun _ => rfl) rfl rfl rfl (fun _ => T.rows_get rfl)) ?_
      refine al_pure rfl rfl rfl (pure_loadRoRow rfl (fun _ => rfl) rfl rfl rfl rfl) ?_
      refine al_do rfl (does_alloc rfl rfl rfl) ?_
      refine al_do rfl (does_store rfl rfl rfl rfl rfl rfl rfl) ?_
      refine al_nil ?_
      refine awp_sub (s := { t := [(0, _, _), (2, _, _), (3, _, _)], bx := [((.l 2), _), ((.l 3), _), ((.o 0), _)], ow := [] }) (sub_mk (⟨⟨_, rfl, rfl⟩, ⟨⟨_, rfl, rfl⟩, ⟨⟨_, rfl, rfl⟩, trivial⟩⟩⟩) (⟨⟨_, rfl, rfl⟩, ⟨⟨_, rfl, rfl⟩, ⟨⟨_, rfl, rfl⟩, trivial⟩⟩⟩) trivial) ?_
      refine awp_seq ?_
      refine awp_region ?_
      refine al_pure rfl rfl rfl (pure_move rfl (fun _ => rfl)) ?_
      refine al_pure rfl rfl rfl (pure_move rfl (fun _ => rfl)) ?_
      refine al_pure rfl rfl rfl (pure_nilCheck rfl (fun _ => rfl)) ?_
      refine al_pure rfl rfl rfl (pure_fieldPtr rfl (fun _ => rfl) rfl rfl) ?_
      refine al_pure rfl rfl rfl (pure_loadBox rfl (fun _ => rfl) rfl rfl rfl rfl) ?_
      refine al_pure rfl rfl rfl (pure_slice rfl (fun _ => rfl) rfl rfl (fun _ => ⟨_, _, _, rfl, (fun _ => rfl), rfl⟩) (fun _ => rfl) (fun _ => by simp [T.rows_len]) (fun _ => by simp [T.rows_len])) ?_
      refine al_pure rfl rfl rfl (pure_nilCheck rfl (fun _ => rfl)) ?_
      refine al_pure rfl rfl rfl (pure_fieldPtr rfl (fun _ => rfl) rfl rfl) ?_
      refine al_do rfl (does_store rfl rfl rfl rfl rfl rfl rfl) ?_
      refine al_nil ?_
      refine awp_sub (s := { t := [(2, _, _), (3, _, _)], bx := [((.l 2), _), ((.l 3), _), ((.o 0), _)], ow := [] }) (sub_mk (⟨⟨_, rfl, rfl⟩, ⟨⟨_, rfl, rfl⟩, trivial⟩⟩) (⟨⟨_, rfl, rfl⟩, ⟨⟨_, rfl, rfl⟩, ⟨⟨_, rfl, rfl⟩, trivial⟩⟩⟩) trivial) ?_
      refine awp_seq ?_
      refine awp_region ?_
      refine al_pure rfl rfl rfl (pure_loadBoxRow rfl (fun _ => rfl) rfl rfl rfl rfl rfl) ?_
      refine al_do rfl (does_store rfl rfl rfl rfl rfl rfl rfl) ?_
      refine al_nil ?_
      refine awp_ret ?_
      repeat (first | refine thenS_ret ?_ | refine blockS_ret ?_)
      refine ret_ok rfl ?_ (⟨⟨_, rfl, ?_⟩, trivial⟩)
      · rfl
      · simp [setAt, pc, T.rows_eq]
        exact List.take_of_length_le (by simp)
/-- What stands behind 'include': the head, what is left, whether the proof was too short. -/
def incP : Nat → Nat → Nat → T → List T → Bool → T × List T × Bool
  | 0, _, _, t, l, b => (leafT t, l, b)
  | f + 1, n, i, t, l, b => if n = 1 then (leafT t, l, b) else
    if i < half n then (nodeT (incP f (half n) i t l b).1 (nextT (incP f (half n) i t l b).2.1), (incP f (half n) i t l b).2.1.tail, (incP f (half n) i t l b).2.2 || (incP f (half n) i t l b).2.1.isEmpty)
    else (nodeT (nextT (incP f (n - half n) (i - half n) t l b).2.1) (incP f (n - half n) (i - half n) t l b).1, (incP f (n - half n) (i - half n) t l b).2.1.tail,
      (incP f (n - half n) (i - half n) t l b).2.2 || (incP f (n - half n) (i - half n) t l b).2.1.isEmpty)
theorem include_spec : ∀ (f n i : Nat) (t : T) (l : List T) (b : Bool), 1 ≤ n → n ≤ f + 1 → i < n → n ≤ 100000 → l.length ≤ 100000 →
    Ctr sys 44 [pp, xi n, xi i, xt t] [pc l b] (xt (incP f n i t l b).1) none [pc (incP f n i t l b).2.1 (incP f n i t l b).2.2] := by
  intro f
  induction f with
  | zero =>
    intro n i t l b hn hf hi hnm hl
    obtain rfl : n = 1 := by omega
    refine spec_intro Try.func44 rfl rfl rfl rfl rfl rfl ?_
    refine awp_seq ?_
    refine awp_region ?_
    refine al_do rfl (does_box rfl rfl rfl rfl) ?_
    refine al_do rfl (does_alloc rfl rfl rfl) ?_
    refine al_nil ?_
    refine awp_seq ?_
    refine awp_seq ?_
    refine awp_region ?_
    refine al_pure rfl rfl rfl (pure_move rfl (fun _ => rfl)) ?_
    refine al_pure rfl rfl rfl (pure_cmp rfl rfl (fun _ => rfl) (fun _ => rfl) rfl) ?_
    refine al_nil ?_
    refine awp_cond rfl (fun hc => ?_) (fun hc => ?_)
    · refine awp_seq ?_
      refine awp_region ?_
      refine al_pure rfl rfl rfl (pure_loadBoxRow rfl (fun _ => rfl) rfl rfl rfl rfl rfl) ?_
      refine al_call rfl rfl rfl rfl rfl rfl (fun _ => rfl) (fun _ => rfl) (leaf_spec t) rfl ?_
      refine al_do rfl (does_store rfl rfl rfl rfl rfl rfl rfl) ?_
      refine al_nil ?_
      refine awp_ret ?_
      repeat (first | refine thenS_ret ?_ | refine blockS_ret ?_)
      refine ret_ok rfl ?_ (⟨⟨_, rfl, ?_⟩, trivial⟩)
      · rfl
      · rfl
    · simp at hc
  | succ f ih =>
    intro n i t l b hn hf hi hnm hl
    refine spec_intro Try.func44 rfl rfl rfl rfl rfl rfl ?_
    refine awp_seq ?_
    refine awp_region ?_
    refine al_do rfl (does_box rfl rfl rfl rfl) ?_
    refine al_do rfl (does_alloc rfl rfl rfl) ?_
    refine al_nil ?_
    refine awp_seq ?_
    refine awp_seq ?_
    refine awp_region ?_
    refine al_pure rfl rfl rfl (pure_move rfl (fun _ => rfl)) ?_
    refine al_pure rfl rfl rfl (pure_cmp rfl rfl (fun _ => rfl) (fun _ => rfl) rfl) ?_
    refine al_nil ?_
    refine awp_cond rfl (fun hc => ?_) (fun hc => ?_)
    · simp only [beq_iff_eq] at hc
      refine awp_seq ?_
      refine awp_region ?_
      refine al_pure rfl rfl rfl (pure_loadBoxRow rfl (fun _ => rfl) rfl rfl rfl rfl rfl) ?_
      refine al_call rfl rfl rfl rfl rfl rfl (fun _ => rfl) (fun _ => rfl) (leaf_spec t) rfl ?_
      refine al_do rfl (does_store rfl rfl rfl rfl rfl rfl rfl) ?_
      refine al_nil ?_
      refine awp_ret ?_
      repeat (first | refine thenS_ret ?_ | refine blockS_ret ?_)
      refine ret_ok rfl ?_ (⟨⟨_, rfl, ?_⟩, trivial⟩)
      · rw [incP, if_pos (by omega)]; rfl
      · rw [incP, if_pos (by omega)]
    · simp only [beq_eq_false_iff_ne, ne_eq] at hc
      have hb := half_bound (n := n) (by omega)
      refine awp_skip ?_
      refine awp_seq ?_
      refine awp_region ?_
      refine al_pure rfl rfl rfl (pure_move rfl (fun _ => rfl)) ?_
      refine al_call rfl rfl rfl rfl rfl rfl (fun _ => rfl) (fun _ => rfl) (half_spec n (by omega) (by omega)) rfl ?_
      refine al_pure rfl rfl rfl (pure_assign rfl (fun _ => rfl)) ?_
      refine al_nil ?_
      refine awp_seq ?_
      refine awp_seq ?_
      refine awp_region ?_
      refine al_pure rfl rfl rfl (pure_move rfl (fun _ => rfl)) ?_
      refine al_pure rfl rfl rfl (pure_move rfl (fun _ => rfl)) ?_
      refine al_pure rfl rfl rfl (pure_cmp rfl rfl (fun _ => rfl) (fun _ => rfl) rfl) ?_
      refine al_nil ?_
      refine awp_sub (s := { t := [(0, _, _), (1, _, _), (2, _, _), (7, _, _), (8, _, _), (9, _, _), (20, _, _)], bx := [((.l 7), _), ((.l 8), _), ((.o 0), _)], ow := [] }) (sub_mk (⟨⟨_, rfl, rfl⟩, ⟨⟨_, rfl, rfl⟩, ⟨⟨_, rfl, rfl⟩, ⟨⟨_, rfl, rfl⟩, ⟨⟨_, rfl, rfl⟩, ⟨⟨_, rfl, rfl⟩, ⟨⟨_, rfl, rfl⟩, trivial⟩⟩⟩⟩⟩⟩⟩) (⟨⟨_, rfl, rfl⟩, ⟨⟨_, rfl, rfl⟩, ⟨⟨_, rfl, rfl⟩, trivial⟩⟩⟩) trivial) ?_
      refine awp_cond rfl (fun hc2 => ?_) (fun hc2 => ?_)
      · simp only [decide_eq_true_eq] at hc2
        rw [incP, if_neg (by omega), if_pos (by omega)]
        refine awp_seq ?_
        refine awp_region ?_
        refine al_pure rfl rfl rfl (pure_move rfl (fun _ => rfl)) ?_
        refine al_pure rfl rfl rfl (pure_move rfl (fun _ => rfl)) ?_
        refine al_pure rfl rfl rfl (pure_move rfl (fun _ => rfl)) ?_
        refine al_pure rfl rfl rfl (pure_loadBoxRow rfl (fun _ => rfl) rfl rfl rfl rfl rfl) ?_
        refine al_callB [⟨.o 0, 0, pc l b, pc (incP f (half n) i t l b).2.1 (incP f (half n) i t l b).2.2⟩] rfl rfl rfl rfl (by rfl) (by rfl) (by intro p hp; simp only [List.mem_cons, List.not_mem_nil, or_false] at hp; first | (subst hp; rfl) | (rcases hp with hp | hp <;> subst hp <;> rfl)) (by rfl) (ih (half n) i t l b (by omega) (by omega) (by omega) (by omega) (by omega)) rfl rfl rfl ?_
        refine al_do rfl (does_alloc rfl rfl rfl) ?_
        refine al_do rfl (does_store rfl rfl rfl rfl rfl rfl rfl) ?_
        refine al_nil ?_
        refine awp_seq ?_
        refine awp_drawn' (by kernel_rfl) ?_
        refine dr_loadRow rfl rfl rfl rfl rfl rfl rfl (fun _ => rfl) rfl rfl rfl rfl rfl ?_
        refine dr_pure rfl rfl rfl rfl (pure_move rfl (fun _ => rfl)) ?_
        refine dr_callB ⟨.o 0, 0, pc (incP f (half n) i t l b).2.1 (incP f (half n) i t l b).2.2, pc (incP f (half n) i t l b).2.1.tail ((incP f (half n) i t l b).2.2 || (incP f (half n) i t l b).2.1.isEmpty)⟩ rfl rfl rfl rfl rfl (by rfl) (by rfl) rfl rfl (next_spec _ _) rfl rfl rfl ?_
        refine dr_callN rfl rfl rfl rfl rfl rfl rfl (fun _ => rfl) (fun _ => rfl) (node2_spec _ _) rfl ?_
        refine dr_store rfl rfl rfl rfl rfl rfl rfl rfl rfl rfl rfl rfl ?_
        refine dr_nil (by kernel_rfl) ?_
        refine awp_ret ?_
        repeat (first | refine thenS_ret ?_ | refine blockS_ret ?_)
        refine ret_ok rfl ?_ (⟨⟨_, rfl, ?_⟩, trivial⟩)
        · rfl
        · rfl
      · simp only [decide_eq_false_iff_not] at hc2
        rw [incP, if_neg (by omega), if_neg (by omega)]
        have hc1 : (n : Int) - (half n : Nat) = ((n - half n : Nat) : Int) := by omega
        have hc3 : (i : Int) - (half n : Nat) = ((i - half n : Nat) : Int) := by omega
        refine awp_skip ?_
        refine awp_seq ?_
        refine awp_region ?_
        refine al_pure rfl rfl rfl (pure_move rfl (fun _ => rfl)) ?_
        refine al_pure rfl rfl rfl (pure_move rfl (fun _ => rfl)) ?_
        refine al_pure rfl rfl rfl (pure_move rfl (fun _ => rfl)) ?_
        refine al_pure rfl rfl rfl (pure_arith rfl rfl (fun _ => rfl) (fun _ => rfl) rfl (IntWalk.i64_in _ (by omega))) ?_
        refine al_pure rfl rfl rfl (pure_move rfl (fun _ => rfl)) ?_
        refine al_pure rfl rfl rfl (pure_move rfl (fun _ => rfl)) ?_
        refine al_pure rfl rfl rfl (pure_arith rfl rfl (fun _ => rfl) (fun _ => rfl) rfl (IntWalk.i64_in _ (by omega))) ?_
        refine al_pure rfl rfl rfl (pure_loadBoxRow rfl (fun _ => rfl) rfl rfl rfl rfl rfl) ?_
        rw [hc1, hc3]
        refine al_callB [⟨.o 0, 0, pc l b, pc (incP f (n - half n) (i - half n) t l b).2.1 (incP f (n - half n) (i - half n) t l b).2.2⟩] rfl rfl rfl rfl (by rfl) (by rfl) (by intro p hp; simp only [List.mem_cons, List.not_mem_nil, or_false] at hp; first | (subst hp; rfl) | (rcases hp with hp | hp <;> subst hp <;> rfl)) (by rfl) (ih (n - half n) (i - half n) t l b (by omega) (by omega) (by omega) (by omega) (by omega)) rfl rfl rfl ?_
        refine al_do rfl (does_alloc rfl rfl rfl) ?_
        refine al_do rfl (does_store rfl rfl rfl rfl rfl rfl rfl) ?_
        refine al_nil ?_
        refine awp_sub (s := { t := [(0, _, _), (8, _, _), (11, _, _)], bx := [((.l 8), _), ((.l 11), _), ((.o 0), _)], ow := [] }) (sub_mk (⟨⟨_, rfl, rfl⟩, ⟨⟨_, rfl, rfl⟩, ⟨⟨_, rfl, rfl⟩, trivial⟩⟩⟩) (⟨⟨_, rfl, rfl⟩, ⟨⟨_, rfl, rfl⟩, ⟨⟨_, rfl, rfl⟩, trivial⟩⟩⟩) trivial) ?_
        refine awp_seq ?_
        refine awp_drawn' (by kernel_rfl) ?_
        refine dr_pure rfl rfl rfl rfl (pure_move rfl (fun _ => rfl)) ?_
        refine dr_callB ⟨.o 0, 0, pc (incP f (n - half n) (i - half n) t l b).2.1 (incP f (n - half n) (i - half n) t l b).2.2, pc (incP f (n - half n) (i - half n) t l b).2.1.tail ((incP f (n - half n) (i - half n) t l b).2.2 || (incP f (n - half n) (i - half n) t l b).2.1.isEmpty)⟩ rfl rfl rfl rfl rfl (by rfl) (by rfl) rfl rfl (next_spec _ _) rfl rfl rfl ?_
        refine dr_loadRow rfl rfl rfl rfl rfl rfl rfl (fun _ => rfl) rfl rfl rfl rfl rfl ?_
        refine dr_callN rfl rfl rfl rfl rfl rfl rfl (fun _ => rfl) (fun _ => rfl) (node2_spec _ _) rfl ?_
        refine dr_store rfl rfl rfl rfl rfl rfl rfl rfl rfl rfl rfl rfl ?_
        refine dr_nil (by kernel_rfl) ?_
        refine awp_ret ?_
        repeat (first | refine thenS_ret ?_ | refine blockS_ret ?_)
        refine ret_ok rfl ?_ (⟨⟨_, rfl, ?_⟩, trivial⟩)
        · rfl
        · rfl
end Go.Proofs.Ytginljdgdllhfaa
