/- Contracts: the proofs, as the reference reads them. -/
import Derived.Test.YtginljdgdllhfaaProof2
set_option linter.unusedVariables false
set_option linter.unusedSimpArgs false
namespace Go.Proofs.Ytginljdgdllhfaa
open Go Go.Abs
structure CP where
  h : T
  r : List T
  ok : Bool
def cStep (p : CP) (q : T) : CP := if (!p.ok || p.r.isEmpty) = true then ⟨p.h, p.r, false⟩ else ⟨q, p.r.tail, true⟩
def climbP : Nat → Nat → Nat → T → List T → CP
  | 0, _, _, t, l => ⟨leafT t, l, true⟩
  | f + 1, n, i, t, l => if n = 1 then ⟨leafT t, l, true⟩ else
    if i < half n then cStep (climbP f (half n) i t l) (nodeT (climbP f (half n) i t l).h (nextT (climbP f (half n) i t l).r))
    else cStep (climbP f (n - half n) (i - half n) t l) (nodeT (nextT (climbP f (n - half n) (i - half n) t l).r) (climbP f (n - half n) (i - half n) t l).h)
theorem rows_head {r : List T} (h : r.isEmpty = false) : (T.rows r)[0]? = some (nextT r).cells := by
  cases r with
  | nil => simp at h
  | cons a r => rw [T.rows_eq]; rfl
theorem rows_tail (r : List T) : ((T.rows r).take (T.rows r).length).drop 1 = T.rows r.tail := by
  rw [List.take_length]
  cases r with
  | nil => simp [T.rows]
  | cons a r => simp [T.rows_eq]
theorem rows_pos {r : List T} (h : r.isEmpty = false) : 1 ≤ (T.rows r).length := by
  cases r with
  | nil => simp at h
  | cons a r => simp [T.rows_eq]
set_option maxHeartbeats 1000000 in
theorem climb_spec : ∀ (f n i : Nat) (t : T) (l : List T), 1 ≤ n → n ≤ f + 1 → i < n → n ≤ 100000 → l.length ≤ 100000 →
    Ctr sys 52 [xi n, xi i, xt t, xl l] [] (.tup [.agg (climbP f n i t l).h.cells, .c (.sl 4 (T.rows (climbP f n i t l).r)), .c (.b (climbP f n i t l).ok)]) none [] := by
  intro f
  induction f with
  | zero =>
    intro n i t l hn hf hi hnm hl
    obtain rfl : n = 1 := by omega
    refine spec_intro Try.func52 rfl rfl rfl rfl rfl rfl ?_
    refine awp_seq ?_
    refine awp_region ?_
    refine al_do rfl (does_box rfl rfl rfl rfl) ?_
    refine al_do rfl (does_alloc rfl rfl rfl) ?_
    refine al_pure rfl rfl rfl (pure_assign rfl (fun _ => rfl)) ?_
    refine al_pure rfl rfl rfl (pure_assign rfl (fun _ => rfl)) ?_
    refine al_nil ?_
    refine awp_seq ?_
    refine awp_seq ?_
    refine awp_region ?_
    refine al_pure rfl rfl rfl (pure_move rfl (fun _ => rfl)) ?_
    refine al_pure rfl rfl rfl (pure_cmp rfl rfl (fun _ => rfl) (fun _ => rfl) rfl) ?_
    refine al_nil ?_
    refine awp_cond rfl (fun hc => ?_) (fun hc => ?_)
    · refine awp_seq ?_
      refine awp_region ?_
      refine al_pure rfl rfl rfl (pure_loadBoxRow rfl (fun _ => rfl) rfl rfl rfl rfl rfl) ?_
      refine al_call rfl rfl rfl rfl rfl rfl (fun _ => rfl) (fun _ => rfl) (Leaf_spec t) rfl ?_
      refine al_pure rfl rfl rfl (pure_move rfl (fun _ => rfl)) ?_
      refine al_do rfl (does_store rfl rfl rfl rfl rfl rfl rfl) ?_
      refine al_pure rfl rfl rfl (pure_assign rfl (fun _ => rfl)) ?_
      refine al_pure rfl rfl rfl (pure_assign rfl (fun _ => rfl)) ?_
      refine al_nil ?_
      refine awp_ret ?_
      repeat (first | refine thenS_ret ?_ | refine blockS_ret ?_)
      refine ret_ok rfl ?_ trivial
      rfl
    · simp at hc
  | succ f ih =>
    intro n i t l hn hf hi hnm hl
    refine spec_intro Try.func52 rfl rfl rfl rfl rfl rfl ?_
    refine awp_seq ?_
    refine awp_region ?_
    refine al_do rfl (does_box rfl rfl rfl rfl) ?_
    refine al_do rfl (does_alloc rfl rfl rfl) ?_
    refine al_pure rfl rfl rfl (pure_assign rfl (fun _ => rfl)) ?_
    refine al_pure rfl rfl rfl (pure_assign rfl (fun _ => rfl)) ?_
    refine al_nil ?_
    refine awp_seq ?_
    refine awp_seq ?_
    refine awp_region ?_
    refine al_pure rfl rfl rfl (pure_move rfl (fun _ => rfl)) ?_
    refine al_pure rfl rfl rfl (pure_cmp rfl rfl (fun _ => rfl) (fun _ => rfl) rfl) ?_
    refine al_nil ?_
    refine awp_cond rfl (fun hc => ?_) (fun hc => ?_)
    · simp only [beq_iff_eq] at hc
      refine awp_seq ?_
      refine awp_region ?_
      refine al_pure rfl rfl rfl (pure_loadBoxRow rfl (fun _ => rfl) rfl rfl rfl rfl rfl) ?_
      refine al_call rfl rfl rfl rfl rfl rfl (fun _ => rfl) (fun _ => rfl) (Leaf_spec t) rfl ?_
      refine al_pure rfl rfl rfl (pure_move rfl (fun _ => rfl)) ?_
      refine al_do rfl (does_store rfl rfl rfl rfl rfl rfl rfl) ?_
      refine al_pure rfl rfl rfl (pure_assign rfl (fun _ => rfl)) ?_
      refine al_pure rfl rfl rfl (pure_assign rfl (fun _ => rfl)) ?_
      refine al_nil ?_
      refine awp_ret ?_
      repeat (first | refine thenS_ret ?_ | refine blockS_ret ?_)
      refine ret_ok rfl ?_ trivial
      rw [climbP, if_pos (by omega)]; rfl
    · simp only [beq_eq_false_iff_ne, ne_eq] at hc
      have hb := half_bound (n := n) (by omega)
      refine awp_skip ?_
      refine awp_seq ?_
      refine awp_region ?_
      refine al_pure rfl rfl rfl (pure_move rfl (fun _ => rfl)) ?_
      refine al_call rfl rfl rfl rfl rfl rfl (fun _ => rfl) (fun _ => rfl) (Split_spec n (by omega) (by omega)) rfl ?_
      refine al_pure rfl rfl rfl (pure_assign rfl (fun _ => rfl)) ?_
      refine al_nil ?_
      refine awp_sub (s := { t := [(0, _, _), (1, _, _), (3, _, _), (6, _, _), (8, _, _), (9, _, _), (10, _, _), (11, _, _)], bx := [((.l 6), _), ((.l 8), _)], ow := [] }) (sub_mk (⟨⟨_, rfl, rfl⟩, ⟨⟨_, rfl, rfl⟩, ⟨⟨_, rfl, rfl⟩, ⟨⟨_, rfl, rfl⟩, ⟨⟨_, rfl, rfl⟩, ⟨⟨_, rfl, rfl⟩, ⟨⟨_, rfl, rfl⟩, ⟨⟨_, rfl, rfl⟩, trivial⟩⟩⟩⟩⟩⟩⟩⟩) (⟨⟨_, rfl, rfl⟩, ⟨⟨_, rfl, rfl⟩, trivial⟩⟩) trivial) ?_
      refine awp_seq ?_
      refine awp_region ?_
      refine al_pure rfl rfl rfl (pure_move rfl (fun _ => rfl)) ?_
      refine al_pure rfl rfl rfl (pure_move rfl (fun _ => rfl)) ?_
      refine al_pure rfl rfl rfl (pure_cmp rfl rfl (fun _ => rfl) (fun _ => rfl) rfl) ?_
      refine al_pure rfl rfl rfl (pure_assign rfl (fun _ => rfl)) ?_
      refine al_nil ?_
      refine awp_seq ?_
      refine awp_seq ?_
      refine awp_region ?_
      refine al_pure rfl rfl rfl (pure_move rfl (fun _ => rfl)) ?_
      refine al_nil ?_
      refine awp_cond rfl (fun hc2 => ?_) (fun hc2 => ?_)
      · have hc2' := hc2
        simp only [decide_eq_true_eq] at hc2
        rw [climbP, if_neg (by omega), if_pos (by omega)]
        have hs := ih (half n) i t l (by omega) (by omega) (by omega) (by omega) (by omega)
        generalize climbP f (half n) i t l = p at hs
        refine awp_region ?_
        refine al_pure rfl rfl rfl (pure_move rfl (fun _ => rfl)) ?_
        refine al_pure rfl rfl rfl (pure_assign rfl (fun _ => rfl)) ?_
        refine al_nil ?_
        refine awp_seq ?_
        refine awp_region ?_
        refine al_pure rfl rfl rfl (pure_move rfl (fun _ => rfl)) ?_
        refine al_pure rfl rfl rfl (pure_move rfl (fun _ => rfl)) ?_
        refine al_pure rfl rfl rfl (pure_loadBoxRow rfl (fun _ => rfl) rfl rfl rfl rfl rfl) ?_
        refine al_pure rfl rfl rfl (pure_move rfl (fun _ => rfl)) ?_
        refine al_call rfl rfl rfl rfl rfl rfl (fun _ => rfl) (fun _ => rfl) (hs) rfl ?_
        refine al_pure rfl rfl rfl (pure_move rfl (fun _ => rfl)) ?_
        refine al_pure rfl rfl rfl (pure_extract rfl (fun _ => rfl) rfl) ?_
        refine al_pure rfl rfl rfl (pure_extract rfl (fun _ => rfl) rfl) ?_
        refine al_pure rfl rfl rfl (pure_extract rfl (fun _ => rfl) rfl) ?_
        refine al_do rfl (does_alloc rfl rfl rfl) ?_
        refine al_do rfl (does_store rfl rfl rfl rfl rfl rfl rfl) ?_
        refine al_pure rfl rfl rfl (pure_assign rfl (fun _ => rfl)) ?_
        refine al_pure rfl rfl rfl (pure_assign rfl (fun _ => rfl)) ?_
        refine al_nil ?_
        refine awp_sub (s := { t := [(8, _, _), (9, _, _), (10, _, _), (12, _, _), (13, _, _), (14, _, _), (15, _, _)], bx := [((.l 8), _), ((.l 13), _)], ow := [] }) (sub_mk (⟨⟨_, rfl, rfl⟩, ⟨⟨_, rfl, rfl⟩, ⟨⟨_, rfl, rfl⟩, ⟨⟨_, rfl, rfl⟩, ⟨⟨_, rfl, rfl⟩, ⟨⟨_, rfl, rfl⟩, ⟨⟨_, rfl, rfl⟩, trivial⟩⟩⟩⟩⟩⟩⟩) (⟨⟨_, rfl, rfl⟩, ⟨⟨_, rfl, rfl⟩, trivial⟩⟩) trivial) ?_
        refine awp_seq ?_
        refine awp_seq ?_
        refine awp_region ?_
        refine al_pure rfl rfl rfl (pure_move rfl (fun _ => rfl)) ?_
        refine al_pure rfl rfl rfl (pure_not rfl (fun _ => rfl)) ?_
        refine al_pure rfl rfl rfl (pure_move rfl (fun _ => rfl)) ?_
        refine al_pure rfl rfl rfl (pure_move rfl (fun _ => rfl)) ?_
        refine al_pure rfl rfl rfl (pure_lenSl rfl (fun hh => hh) rfl rfl) ?_
        refine al_pure rfl rfl rfl (pure_cmp rfl rfl (fun hh => hh) (fun _ => rfl) rfl) ?_
        refine al_pure rfl rfl rfl (pure_or rfl rfl (fun _ => rfl) (fun _ hi => gP rfl hi)) ?_
        refine al_nil ?_
        refine awp_cond rfl (fun hc3 => ?_) (fun hc3 => ?_)
        · simp only [T.rows_len, lenZero] at hc3
          refine awp_seq ?_
          refine awp_region ?_
          refine al_pure rfl rfl rfl (pure_loadBoxRow rfl (fun _ => rfl) rfl rfl rfl rfl rfl) ?_
          refine al_pure rfl rfl rfl (pure_move rfl (fun _ => rfl)) ?_
          refine al_do rfl (does_store rfl rfl rfl rfl rfl rfl rfl) ?_
          refine al_pure rfl rfl rfl (pure_assign rfl (fun _ => rfl)) ?_
          refine al_pure rfl rfl rfl (pure_assign rfl (fun _ => rfl)) ?_
          refine al_nil ?_
          refine awp_ret ?_
          repeat (first | refine thenS_ret ?_ | refine blockS_ret ?_)
          refine ret_ok rfl ?_ trivial
          rw [cStep, if_pos hc3]; rfl
        · simp only [T.rows_len, lenZero] at hc3
          have he : p.r.isEmpty = false := by rw [Bool.or_eq_false_iff] at hc3; exact hc3.2
          have hlp := rows_pos he
          refine awp_skip ?_
          refine awp_seq ?_
          refine awp_seq ?_
          refine awp_region ?_
          refine al_pure rfl rfl rfl (pure_move rfl (fun _ => rfl)) ?_
          refine al_nil ?_
          refine awp_sub (s := { t := [(8, _, _), (9, _, _), (10, _, _), (13, _, _), (14, _, _), (52, _, _)], bx := [((.l 8), _), ((.l 13), _)], ow := [] }) (sub_mk (⟨⟨_, rfl, rfl⟩, ⟨⟨_, rfl, rfl⟩, ⟨⟨_, rfl, rfl⟩, ⟨⟨_, rfl, rfl⟩, ⟨⟨_, rfl, rfl⟩, ⟨⟨_, rfl, rfl⟩, trivial⟩⟩⟩⟩⟩⟩) (⟨⟨_, rfl, rfl⟩, ⟨⟨_, rfl, rfl⟩, trivial⟩⟩) trivial) ?_
          refine awp_cond rfl (fun hc4 => ?_) (fun hc4 => ?_)
          · refine awp_seq ?_
            refine awp_drawn' (by kernel_rfl) ?_
            refine dr_loadRow rfl rfl rfl rfl rfl rfl rfl (fun _ => rfl) rfl rfl rfl rfl rfl ?_
            refine dr_pure rfl rfl rfl rfl (pure_move rfl (fun _ => rfl)) ?_
            refine dr_pure rfl rfl rfl rfl (pure_indexAddr rfl rfl (fun _ => rfl) (fun _ => rfl) rfl rfl rfl (fun _ => rows_head he)) ?_
            refine dr_pure rfl rfl rfl rfl (pure_loadRoRow rfl (fun _ => rfl) rfl rfl rfl rfl) ?_
            refine dr_callN rfl rfl rfl rfl rfl rfl rfl (fun _ => rfl) (fun _ => rfl) (Node_spec _ _) rfl ?_
            refine dr_pure rfl rfl rfl rfl (pure_move rfl (fun _ => rfl)) ?_
            refine dr_pure rfl rfl rfl rfl (pure_slice rfl (fun _ => rfl) rfl rfl (fun _ => ⟨_, _, _, rfl, (fun _ => rfl), rfl⟩) (fun _ => rfl) (fun _ => by omega) (fun _ => by omega)) ?_
            refine dr_store rfl rfl rfl rfl rfl rfl rfl rfl rfl rfl rfl rfl ?_
            refine dr_pure rfl rfl rfl rfl (pure_assign rfl (fun _ => rfl)) ?_
            refine dr_pure rfl rfl rfl rfl (pure_assign rfl (fun _ => rfl)) ?_
            refine dr_nil (by kernel_rfl) ?_
            refine awp_ret ?_
            repeat (first | refine thenS_ret ?_ | refine blockS_ret ?_)
            refine ret_ok rfl ?_ trivial
            rw [cStep, if_neg (by rw [hc3]; simp), rows_tail]; rfl
          · rw [hc2'] at hc4; simp at hc4
      · have hc2' := hc2
        simp only [decide_eq_false_iff_not] at hc2
        rw [climbP, if_neg (by omega), if_neg (by omega)]
        have hc1 : (n : Int) - (half n : Nat) = ((n - half n : Nat) : Int) := by omega
        have hcx : (i : Int) - (half n : Nat) = ((i - half n : Nat) : Int) := by omega
        have hs := ih (n - half n) (i - half n) t l (by omega) (by omega) (by omega) (by omega) (by omega)
        generalize climbP f (n - half n) (i - half n) t l = p at hs
        refine awp_seq ?_
        refine awp_region ?_
        refine al_pure rfl rfl rfl (pure_move rfl (fun _ => rfl)) ?_
        refine al_pure rfl rfl rfl (pure_move rfl (fun _ => rfl)) ?_
        refine al_pure rfl rfl rfl (pure_arith rfl rfl (fun _ => rfl) (fun _ => rfl) rfl (IntWalk.i64_in _ (by omega))) ?_
        refine al_pure rfl rfl rfl (pure_assign rfl (fun _ => rfl)) ?_
        refine al_nil ?_
        refine awp_sub (s := { t := [(0, _, _), (1, _, _), (3, _, _), (6, _, _), (8, _, _), (9, _, _), (10, _, _), (11, _, _), (12, _, _)], bx := [((.l 6), _), ((.l 8), _)], ow := [] }) (sub_mk (⟨⟨_, rfl, rfl⟩, ⟨⟨_, rfl, rfl⟩, ⟨⟨_, rfl, rfl⟩, ⟨⟨_, rfl, rfl⟩, ⟨⟨_, rfl, rfl⟩, ⟨⟨_, rfl, rfl⟩, ⟨⟨_, rfl, rfl⟩, ⟨⟨_, rfl, rfl⟩, ⟨⟨_, rfl, rfl⟩, trivial⟩⟩⟩⟩⟩⟩⟩⟩⟩) (⟨⟨_, rfl, rfl⟩, ⟨⟨_, rfl, rfl⟩, trivial⟩⟩) trivial) ?_
        refine awp_region ?_
        refine al_pure rfl rfl rfl (pure_move rfl (fun _ => rfl)) ?_
        refine al_pure rfl rfl rfl (pure_move rfl (fun _ => rfl)) ?_
        refine al_pure rfl rfl rfl (pure_arith rfl rfl (fun _ => rfl) (fun _ => rfl) rfl (IntWalk.i64_in _ (by omega))) ?_
        refine al_pure rfl rfl rfl (pure_assign rfl (fun _ => rfl)) ?_
        refine al_nil ?_
        refine awp_seq ?_
        refine awp_region ?_
        refine al_pure rfl rfl rfl (pure_move rfl (fun _ => rfl)) ?_
        refine al_pure rfl rfl rfl (pure_move rfl (fun _ => rfl)) ?_
        refine al_pure rfl rfl rfl (pure_loadBoxRow rfl (fun _ => rfl) rfl rfl rfl rfl rfl) ?_
        refine al_pure rfl rfl rfl (pure_move rfl (fun _ => rfl)) ?_
        rw [hc1, hcx]
        refine al_call rfl rfl rfl rfl rfl rfl (fun _ => rfl) (fun _ => rfl) (hs) rfl ?_
        refine al_pure rfl rfl rfl (pure_move rfl (fun _ => rfl)) ?_
        refine al_pure rfl rfl rfl (pure_extract rfl (fun _ => rfl) rfl) ?_
        refine al_pure rfl rfl rfl (pure_extract rfl (fun _ => rfl) rfl) ?_
        refine al_pure rfl rfl rfl (pure_extract rfl (fun _ => rfl) rfl) ?_
        refine al_do rfl (does_alloc rfl rfl rfl) ?_
        refine al_do rfl (does_store rfl rfl rfl rfl rfl rfl rfl) ?_
        refine al_pure rfl rfl rfl (pure_assign rfl (fun _ => rfl)) ?_
        refine al_pure rfl rfl rfl (pure_assign rfl (fun _ => rfl)) ?_
        refine al_nil ?_
        refine awp_sub (s := { t := [(8, _, _), (9, _, _), (10, _, _), (12, _, _), (13, _, _), (14, _, _), (15, _, _)], bx := [((.l 8), _), ((.l 13), _)], ow := [] }) (sub_mk (⟨⟨_, rfl, rfl⟩, ⟨⟨_, rfl, rfl⟩, ⟨⟨_, rfl, rfl⟩, ⟨⟨_, rfl, rfl⟩, ⟨⟨_, rfl, rfl⟩, ⟨⟨_, rfl, rfl⟩, ⟨⟨_, rfl, rfl⟩, trivial⟩⟩⟩⟩⟩⟩⟩) (⟨⟨_, rfl, rfl⟩, ⟨⟨_, rfl, rfl⟩, trivial⟩⟩) trivial) ?_
        refine awp_seq ?_
        refine awp_seq ?_
        refine awp_region ?_
        refine al_pure rfl rfl rfl (pure_move rfl (fun _ => rfl)) ?_
        refine al_pure rfl rfl rfl (pure_not rfl (fun _ => rfl)) ?_
        refine al_pure rfl rfl rfl (pure_move rfl (fun _ => rfl)) ?_
        refine al_pure rfl rfl rfl (pure_move rfl (fun _ => rfl)) ?_
        refine al_pure rfl rfl rfl (pure_lenSl rfl (fun hh => hh) rfl rfl) ?_
        refine al_pure rfl rfl rfl (pure_cmp rfl rfl (fun hh => hh) (fun _ => rfl) rfl) ?_
        refine al_pure rfl rfl rfl (pure_or rfl rfl (fun _ => rfl) (fun _ hi => gP rfl hi)) ?_
        refine al_nil ?_
        refine awp_cond rfl (fun hc3 => ?_) (fun hc3 => ?_)
        · simp only [T.rows_len, lenZero] at hc3
          refine awp_seq ?_
          refine awp_region ?_
          refine al_pure rfl rfl rfl (pure_loadBoxRow rfl (fun _ => rfl) rfl rfl rfl rfl rfl) ?_
          refine al_pure rfl rfl rfl (pure_move rfl (fun _ => rfl)) ?_
          refine al_do rfl (does_store rfl rfl rfl rfl rfl rfl rfl) ?_
          refine al_pure rfl rfl rfl (pure_assign rfl (fun _ => rfl)) ?_
          refine al_pure rfl rfl rfl (pure_assign rfl (fun _ => rfl)) ?_
          refine al_nil ?_
          refine awp_ret ?_
          repeat (first | refine thenS_ret ?_ | refine blockS_ret ?_)
          refine ret_ok rfl ?_ trivial
          rw [cStep, if_pos hc3]; rfl
        · simp only [T.rows_len, lenZero] at hc3
          have he : p.r.isEmpty = false := by rw [Bool.or_eq_false_iff] at hc3; exact hc3.2
          have hlp := rows_pos he
          refine awp_skip ?_
          refine awp_seq ?_
          refine awp_seq ?_
          refine awp_region ?_
          refine al_pure rfl rfl rfl (pure_move rfl (fun _ => rfl)) ?_
          refine al_nil ?_
          refine awp_sub (s := { t := [(8, _, _), (9, _, _), (10, _, _), (13, _, _), (14, _, _), (52, _, _)], bx := [((.l 8), _), ((.l 13), _)], ow := [] }) (sub_mk (⟨⟨_, rfl, rfl⟩, ⟨⟨_, rfl, rfl⟩, ⟨⟨_, rfl, rfl⟩, ⟨⟨_, rfl, rfl⟩, ⟨⟨_, rfl, rfl⟩, ⟨⟨_, rfl, rfl⟩, trivial⟩⟩⟩⟩⟩⟩) (⟨⟨_, rfl, rfl⟩, ⟨⟨_, rfl, rfl⟩, trivial⟩⟩) trivial) ?_
          refine awp_cond rfl (fun hc4 => ?_) (fun hc4 => ?_)
          · rw [hc2'] at hc4; simp at hc4
          · refine awp_skip ?_
            refine awp_seq ?_
            refine awp_drawn' (by kernel_rfl) ?_
            refine dr_pure rfl rfl rfl rfl (pure_move rfl (fun _ => rfl)) ?_
            refine dr_pure rfl rfl rfl rfl (pure_indexAddr rfl rfl (fun _ => rfl) (fun _ => rfl) rfl rfl rfl (fun _ => rows_head he)) ?_
            refine dr_pure rfl rfl rfl rfl (pure_loadRoRow rfl (fun _ => rfl) rfl rfl rfl rfl) ?_
            refine dr_loadRow rfl rfl rfl rfl rfl rfl rfl (fun _ => rfl) rfl rfl rfl rfl rfl ?_
            refine dr_callN rfl rfl rfl rfl rfl rfl rfl (fun _ => rfl) (fun _ => rfl) (Node_spec _ _) rfl ?_
            refine dr_pure rfl rfl rfl rfl (pure_move rfl (fun _ => rfl)) ?_
            refine dr_pure rfl rfl rfl rfl (pure_slice rfl (fun _ => rfl) rfl rfl (fun _ => ⟨_, _, _, rfl, (fun _ => rfl), rfl⟩) (fun _ => rfl) (fun _ => by omega) (fun _ => by omega)) ?_
            refine dr_store rfl rfl rfl rfl rfl rfl rfl rfl rfl rfl rfl rfl ?_
            refine dr_pure rfl rfl rfl rfl (pure_assign rfl (fun _ => rfl)) ?_
            refine dr_pure rfl rfl rfl rfl (pure_assign rfl (fun _ => rfl)) ?_
            refine dr_nil (by kernel_rfl) ?_
            refine awp_ret ?_
            repeat (first | refine thenS_ret ?_ | refine blockS_ret ?_)
            refine ret_ok rfl ?_ trivial
            rw [cStep, if_neg (by rw [hc3]; simp), rows_tail]; rfl
theorem climb_inc : ∀ (f n i : Nat) (t : T) (l : List T), (climbP f n i t l).ok = !(incP f n i t l false).2.2 ∧ ((climbP f n i t l).ok = true → (climbP f n i t l).h = (incP f n i t l false).1 ∧ (climbP f n i t l).r = (incP f n i t l false).2.1) := by
  intro f
  induction f with
  | zero => intro n i t l; simp [climbP, incP]
  | succ f ih =>
    intro n i t l
    rw [climbP, incP]
    split
    · simp
    · split
      · obtain ⟨h1, h2⟩ := ih (half n) i t l
        generalize climbP f (half n) i t l = p at h1 h2
        generalize incP f (half n) i t l false = q at h1 h2
        unfold cStep
        cases hp : p.ok with
        | false =>
          rw [hp] at h1
          have : q.2.2 = true := by simpa using h1.symm
          simp [this]
        | true =>
          obtain ⟨e1, e2⟩ := h2 hp
          rw [hp] at h1
          have : q.2.2 = false := by simpa using h1.symm
          rw [this, ← e2, ← e1]
          cases he : p.r.isEmpty <;> simp
      · obtain ⟨h1, h2⟩ := ih (n - half n) (i - half n) t l
        generalize climbP f (n - half n) (i - half n) t l = p at h1 h2
        generalize incP f (n - half n) (i - half n) t l false = q at h1 h2
        unfold cStep
        cases hp : p.ok with
        | false =>
          rw [hp] at h1
          have : q.2.2 = true := by simpa using h1.symm
          simp [this]
        | true =>
          obtain ⟨e1, e2⟩ := h2 hp
          rw [hp] at h1
          have : q.2.2 = false := by simpa using h1.symm
          rw [this, ← e2, ← e1]
          cases he : p.r.isEmpty <;> simp
theorem cStep_size {p : CP} {q : T} {B : Nat} (h1 : p.h.size ≤ B) (h2 : q.size ≤ B) : (cStep p q).h.size ≤ B := by
  unfold cStep; split <;> assumption
theorem climbP_mem : ∀ (f n i : Nat) (t : T) (l : List T) (x : T), x ∈ (climbP f n i t l).r → x ∈ l := by
  have hst : ∀ (p : CP) (q : T) (l : List T), (∀ x ∈ p.r, x ∈ l) → ∀ x ∈ (cStep p q).r, x ∈ l := by
    intro p q l h x hx
    unfold cStep at hx
    split at hx
    · exact h x hx
    · exact h x (List.mem_of_mem_tail hx)
  intro f
  induction f with
  | zero => intro n i t l x h; exact h
  | succ f ih =>
    intro n i t l x h
    rw [climbP] at h
    split at h
    · exact h
    · split at h
      · exact hst _ _ l (fun y hy => ih _ _ _ _ y hy) x h
      · exact hst _ _ l (fun y hy => ih _ _ _ _ y hy) x h
theorem climbP_size {M : Nat} (hM : 1 ≤ M) : ∀ (f n i : Nat) (t : T) (l : List T), (∀ x ∈ l, x.size ≤ M) → (climbP f n i t l).h.size ≤ t.size + 4 + f * (M + 5) := by
  intro f
  induction f with
  | zero => intro n i t l h; rw [climbP]; simp only [leafT_size]; omega
  | succ f ih =>
    intro n i t l h
    have e : (f + 1) * (M + 5) = f * (M + 5) + (M + 5) := by rw [Nat.succ_mul]
    rw [climbP]
    split
    · simp only [leafT_size]; omega
    · split
      · have h1 := ih (half n) i t l h
        have h2 := nextT_size hM fun x hx => h x (climbP_mem f (half n) i t l x hx)
        exact cStep_size (by omega) (by rw [nodeT_size]; omega)
      · have h1 := ih (n - half n) (i - half n) t l h
        have h2 := nextT_size hM fun x hx => h x (climbP_mem f (n - half n) (i - half n) t l x hx)
        exact cStep_size (by omega) (by rw [nodeT_size]; omega)
theorem rCheckInclude_spec (h : T) (n i : Int) (t : T) (l : List T) (hh : h.size ≤ 500000) (ht : t.size ≤ 100000) (hl : ∀ x ∈ l, x.size ≤ 10000) :
    Ctr sys 27 [xt h, xi n, xi i, xt t, xl l] [] (xb (chkI h n i t l)) none [] := by
  refine spec_intro Try.func27 rfl rfl rfl rfl rfl rfl ?_
  refine awp_seq ?_
  refine awp_region ?_
  refine al_do rfl (does_box rfl rfl rfl rfl) ?_
  refine al_do rfl (does_box rfl rfl rfl rfl) ?_
  refine al_pure rfl rfl rfl (pure_assign rfl (fun _ => rfl)) ?_
  refine al_nil ?_
  refine awp_seq ?_
  refine awp_seq ?_
  refine awp_region ?_
  refine al_pure rfl rfl rfl (pure_move rfl (fun _ => rfl)) ?_
  refine al_pure rfl rfl rfl (pure_cmp rfl rfl (fun _ => rfl) (fun _ => rfl) rfl) ?_
  refine al_pure rfl rfl rfl (pure_move rfl (fun _ => rfl)) ?_
  refine al_pure rfl rfl rfl (pure_move rfl (fun _ => rfl)) ?_
  refine al_pure rfl rfl rfl (pure_cmp rfl rfl (fun hh => hh) (fun _ => rfl) rfl) ?_
  refine al_pure rfl rfl rfl (pure_or rfl rfl (fun _ => rfl) (fun _ hi => gP rfl hi)) ?_
  refine al_pure rfl rfl rfl (pure_move rfl (fun _ => rfl)) ?_
  refine al_pure rfl rfl rfl (pure_move rfl (fun _ => rfl)) ?_
  refine al_pure rfl rfl rfl (pure_cmp rfl rfl (fun hh => hh) (fun _ => rfl) rfl) ?_
  refine al_pure rfl rfl rfl (pure_or rfl rfl (fun _ => rfl) (fun _ hi => gP rfl hi)) ?_
  refine al_pure rfl rfl rfl (pure_move rfl (fun _ => rfl)) ?_
  refine al_pure rfl rfl rfl (pure_move rfl (fun _ => rfl)) ?_
  refine al_pure rfl rfl rfl (pure_move rfl (fun _ => rfl)) ?_
  refine al_pure rfl rfl rfl (pure_cmp rfl rfl (fun hh => hh) (fun hh => hh) rfl) ?_
  refine al_pure rfl rfl rfl (pure_or rfl rfl (fun _ => rfl) (fun _ hi => gP rfl hi)) ?_
  refine al_pure rfl rfl rfl (pure_move rfl (fun _ => rfl)) ?_
  refine al_pure rfl rfl rfl (pure_move rfl (fun _ => rfl)) ?_
  refine al_pure rfl rfl rfl (pure_lenSl rfl (fun hh => hh) rfl rfl) ?_
  refine al_pure rfl rfl rfl (pure_cmp rfl rfl (fun hh => hh) (fun _ => rfl) rfl) ?_
  refine al_pure rfl rfl rfl (pure_or rfl rfl (fun _ => rfl) (fun _ hi => gP rfl hi)) ?_
  refine al_nil ?_
  refine awp_sub (s := { t := [(1, _, _), (2, _, _), (4, _, _), (5, _, _), (8, _, _), (10, _, _), (33, _, _)], bx := [((.l 5), _), ((.l 8), _)], ow := [] }) (sub_mk (⟨⟨_, rfl, rfl⟩, ⟨⟨_, rfl, rfl⟩, ⟨⟨_, rfl, rfl⟩, ⟨⟨_, rfl, rfl⟩, ⟨⟨_, rfl, rfl⟩, ⟨⟨_, rfl, rfl⟩, ⟨⟨_, rfl, rfl⟩, trivial⟩⟩⟩⟩⟩⟩⟩) (⟨⟨_, rfl, rfl⟩, ⟨⟨_, rfl, rfl⟩, trivial⟩⟩) trivial) ?_
  refine awp_cond rfl (fun hc => ?_) (fun hc => ?_)
  · refine awp_seq ?_
    refine awp_region ?_
    refine al_pure rfl rfl rfl (pure_assign rfl (fun _ => rfl)) ?_
    refine al_nil ?_
    refine awp_ret ?_
    repeat (first | refine thenS_ret ?_ | refine blockS_ret ?_)
    refine ret_ok rfl ?_ trivial
    refine xb_eq ?_
    simp only [Bool.or_eq_true, decide_eq_true_eq, T.rows_len] at hc
    rw [chkI, if_pos (by omega)]
  · simp only [Bool.or_eq_false_iff, decide_eq_false_iff_not, T.rows_len] at hc
    obtain ⟨n, rfl⟩ : ∃ m : Nat, n = m := ⟨n.toNat, by omega⟩
    obtain ⟨i, rfl⟩ : ∃ m : Nat, i = m := ⟨i.toNat, by omega⟩
    rw [chkI, if_neg (by omega), Int.toNat_natCast, Int.toNat_natCast]
    have hsz := climbP_size (M := 10000) (by omega) 32 n i t l hl
    have hs := climb_spec 32 n i t l (by omega) (by omega) (by omega) (by omega) (by omega)
    obtain ⟨e1, e2⟩ := climb_inc 32 n i t l
    generalize climbP 32 n i t l = p at hs hsz e1 e2
    generalize incP 32 n i t l false = q at e1 e2
    refine awp_skip ?_
    refine awp_seq ?_
    refine awp_region ?_
    refine al_pure rfl rfl rfl (pure_move rfl (fun _ => rfl)) ?_
    refine al_pure rfl rfl rfl (pure_move rfl (fun _ => rfl)) ?_
    refine al_pure rfl rfl rfl (pure_loadBoxRow rfl (fun _ => rfl) rfl rfl rfl rfl rfl) ?_
    refine al_pure rfl rfl rfl (pure_move rfl (fun _ => rfl)) ?_
    refine al_call rfl rfl rfl rfl rfl rfl (fun _ => rfl) (fun _ => rfl) (hs) rfl ?_
    refine al_pure rfl rfl rfl (pure_move rfl (fun _ => rfl)) ?_
    refine al_pure rfl rfl rfl (pure_extract rfl (fun _ => rfl) rfl) ?_
    refine al_pure rfl rfl rfl (pure_extract rfl (fun _ => rfl) rfl) ?_
    refine al_pure rfl rfl rfl (pure_extract rfl (fun _ => rfl) rfl) ?_
    refine al_do rfl (does_alloc rfl rfl rfl) ?_
    refine al_do rfl (does_store rfl rfl rfl rfl rfl rfl rfl) ?_
    refine al_pure rfl rfl rfl (pure_assign rfl (fun _ => rfl)) ?_
    refine al_pure rfl rfl rfl (pure_assign rfl (fun _ => rfl)) ?_
    refine al_nil ?_
    refine awp_sub (s := { t := [(5, _, _), (10, _, _), (11, _, _), (12, _, _), (13, _, _)], bx := [((.l 5), _), ((.l 11), _)], ow := [] }) (sub_mk (⟨⟨_, rfl, rfl⟩, ⟨⟨_, rfl, rfl⟩, ⟨⟨_, rfl, rfl⟩, ⟨⟨_, rfl, rfl⟩, ⟨⟨_, rfl, rfl⟩, trivial⟩⟩⟩⟩⟩) (⟨⟨_, rfl, rfl⟩, ⟨⟨_, rfl, rfl⟩, trivial⟩⟩) trivial) ?_
    refine awp_seq ?_
    refine awp_region ?_
    refine al_pure rfl rfl rfl (pure_move rfl (fun _ => rfl)) ?_
    refine al_pure rfl rfl rfl (pure_move rfl (fun _ => rfl)) ?_
    refine al_pure rfl rfl rfl (pure_move rfl (fun _ => rfl)) ?_
    refine al_pure rfl rfl rfl (pure_lenSl rfl (fun hh => hh) rfl rfl) ?_
    refine al_pure rfl rfl rfl (pure_cmp rfl rfl (fun hh => hh) (fun _ => rfl) rfl) ?_
    refine al_pure rfl rfl rfl (pure_and rfl rfl (fun _ => rfl) (fun _ hi => gP rfl hi)) ?_
    refine al_pure rfl rfl rfl (pure_move rfl (fun _ => rfl)) ?_
    refine al_pure rfl rfl rfl (pure_loadBoxRow rfl (fun _ => rfl) rfl rfl rfl rfl rfl) ?_
    refine al_pure rfl rfl rfl (pure_loadBoxRow rfl (fun _ => rfl) rfl rfl rfl rfl rfl) ?_
    refine al_call rfl rfl rfl rfl rfl rfl (fun _ => rfl) (fun hh => gA ((fun hh => hh) hh) (gA ((fun hh => hh) hh) (rfl))) (Same_spec p.h h (by omega) (by omega)) rfl ?_
    refine al_pure rfl rfl rfl (pure_and rfl rfl (fun _ => rfl) (fun _ hi => gP rfl hi)) ?_
    refine al_pure rfl rfl rfl (pure_assign rfl (fun _ => rfl)) ?_
    refine al_nil ?_
    refine awp_ret ?_
    repeat (first | refine thenS_ret ?_ | refine blockS_ret ?_)
    refine ret_ok rfl ?_ trivial
    refine xb_eq ?_
    rw [T.rows_len, lenZero, ← e1]
    cases hp : p.ok with
    | false => rfl
    | true =>
      obtain ⟨k1, k2⟩ := e2 hp
      rw [k1, k2]
end Go.Proofs.Ytginljdgdllhfaa
