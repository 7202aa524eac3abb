/- Contracts: Valid, on both sides. -/
import Derived.Test.YtginljdgdllhfaaValid
set_option linter.unusedVariables false
set_option linter.unusedSimpArgs false
namespace Go.Proofs.Ytginljdgdllhfaa
open Go Go.Abs

def nodesS (t : T) (k : Nat) : St := { t := [(1, true, .v (.ptr (.l 1) 0)), (4, true, xi k)], bx := [(.l 1, t.cells)], ow := [] }
theorem nodes_spec : ∀ (n : Nat) (t : T), t.size ≤ n → n ≤ 1000000 → Ctr sys 68 [xt t] [] (xi t.nodesE) none [] := by
  intro n
  induction n with
  | zero => intro t h _; have := t.size_pos; omega
  | succ n ih =>
    intro t ht hn
    refine spec_intro Try.func68 rfl rfl rfl rfl rfl rfl ?_
    refine awp_seq ?_
    refine awp_region ?_
    refine al_do rfl (does_box rfl rfl rfl rfl) ?_
    refine al_pure rfl rfl rfl (pure_assign rfl (fun _ => rfl)) ?_
    refine al_nil ?_
    refine awp_seq ?_
    refine awp_seq ?_
    refine awp_region ?_
    refine al_pure rfl rfl rfl (pure_loadBoxRow rfl (fun _ => rfl) rfl rfl rfl rfl rfl) ?_
    refine al_call rfl rfl rfl rfl rfl rfl (fun _ => rfl) (fun _ => rfl) (node_spec t) rfl ?_
    refine al_pure rfl rfl rfl (pure_assign rfl (fun _ => rfl)) ?_
    refine al_nil ?_
    refine awp_seq ?_
    refine awp_region ?_
    refine al_pure rfl rfl rfl (pure_move rfl (fun _ => rfl)) ?_
    refine al_pure rfl rfl rfl (pure_cmp rfl rfl (fun _ => rfl) (fun _ => rfl) rfl) ?_
    refine al_nil ?_
    refine awp_cond rfl (fun hc => ?_) (fun hc => ?_)
    · refine awp_seq ?_
      refine awp_region ?_
      refine al_pure rfl rfl rfl (pure_move rfl (fun _ => rfl)) ?_
      refine al_pure rfl rfl rfl (pure_assign rfl (fun _ => rfl)) ?_
      refine al_nil ?_
      refine awp_ret ?_
      repeat (first | refine thenS_ret ?_ | refine blockS_ret ?_)
      refine ret_ok rfl ?_ trivial
      refine xi_eq ?_
      rw [T.nodesE_eq, if_pos (by simpa using hc)]
    · refine awp_skip ?_
      refine awp_seq ?_
      refine awp_seq ?_
      refine awp_region ?_
      refine al_pure rfl rfl rfl (pure_assign rfl (fun _ => rfl)) ?_
      refine al_nil ?_
      refine awp_sub (s := { t := [(1, _, _), (2, _, _), (4, _, _)], bx := [((.l 1), _)], ow := [] }) (sub_mk (⟨⟨_, rfl, rfl⟩, ⟨⟨_, rfl, rfl⟩, ⟨⟨_, rfl, rfl⟩, trivial⟩⟩⟩) (⟨⟨_, rfl, rfl⟩, trivial⟩) trivial) ?_
      refine awp_block ?_
      have hz : nodeE t = 0 := by simpa using hc
      refine awp_loop (nodesS t) (fun k => k ≤ t.kids.length ∧ T.nodesEs (t.kids.take k) = 0) (fun k => t.kids.length - k) 0 ⟨Nat.zero_le _, by simp [T.nodesEs]⟩ ?_ ?_
      · refine sub_mk ⟨⟨_, rfl, rfl⟩, ⟨_, rfl, rfl⟩, trivial⟩ ⟨⟨_, rfl, rfl⟩, trivial⟩ trivial
      · rintro k ⟨hk, h0⟩
        refine awp_seq ?_
        refine awp_seq ?_
        refine awp_region ?_
        refine al_pure rfl rfl rfl (pure_move rfl (fun _ => rfl)) ?_
        refine al_pure rfl rfl rfl (pure_fieldPtr rfl (fun _ => rfl) rfl rfl) ?_
        refine al_pure rfl rfl rfl (pure_loadBox rfl (fun _ => rfl) rfl rfl rfl rfl) ?_
        refine al_lenSl rfl rfl rfl rfl rfl (fun _ => rfl) rfl rfl ?_ (fun hh => by simp at hh); intro hlen
        refine al_pure rfl rfl rfl (pure_cmp rfl rfl (fun _ => rfl) (fun _ => rfl) rfl) ?_
        refine al_nil ?_
        refine awp_cond rfl (fun hc2 => ?_) (fun hc2 => ?_)
        · rw [T.rows_len] at hlen hc2
          have hlt : k < t.kids.length := by simpa using hc2
          obtain ⟨x, hx⟩ : ∃ x, t.kids[k]? = some x := ⟨_, List.getElem?_eq_getElem hlt⟩
          have h3 := T.size_kid hx
          refine awp_skip ?_
          refine awp_seq ?_
          refine awp_block ?_
          refine awp_seq ?_
          refine awp_region ?_
          refine al_pure rfl rfl rfl (pure_fieldPtr rfl (fun _ => rfl) rfl rfl) ?_
          refine al_pure rfl rfl rfl (pure_loadBox rfl (fun _ => rfl) rfl rfl rfl rfl) ?_
          refine al_pure rfl rfl rfl (pure_move rfl (fun _ => rfl)) ?_
          refine al_pure rfl rfl rfl (pure_indexAddr rfl rfl (fun _ => rfl) (fun _ => rfl) rfl rfl rfl (fun _ => T.rows_get hx)) ?_
          refine al_pure rfl rfl rfl (pure_loadRoRow rfl (fun _ => rfl) rfl rfl rfl rfl) ?_
          refine al_call rfl rfl rfl rfl rfl rfl (fun _ => rfl) (fun _ => rfl) (ih x (by omega) (by omega)) rfl ?_
          refine al_pure rfl rfl rfl (pure_assign rfl (fun _ => rfl)) ?_
          refine al_nil ?_
          refine awp_sub (s := { t := [(1, _, _), (4, _, _), (5, _, _), (11, _, _), (12, _, _), (13, _, _), (14, _, _), (15, _, _), (18, _, _), (19, _, _), (20, _, _), (21, _, _), (22, _, _), (23, _, _)], bx := [((.l 1), _)], ow := [] }) (sub_mk (⟨⟨_, rfl, rfl⟩, ⟨⟨_, rfl, rfl⟩, ⟨⟨_, rfl, rfl⟩, ⟨⟨_, rfl, rfl⟩, ⟨⟨_, rfl, rfl⟩, ⟨⟨_, rfl, rfl⟩, ⟨⟨_, rfl, rfl⟩, ⟨⟨_, rfl, rfl⟩, ⟨⟨_, rfl, rfl⟩, ⟨⟨_, rfl, rfl⟩, ⟨⟨_, rfl, rfl⟩, ⟨⟨_, rfl, rfl⟩, ⟨⟨_, rfl, rfl⟩, ⟨⟨_, rfl, rfl⟩, trivial⟩⟩⟩⟩⟩⟩⟩⟩⟩⟩⟩⟩⟩⟩) (⟨⟨_, rfl, rfl⟩, trivial⟩) trivial) ?_
          refine awp_seq ?_
          refine awp_region ?_
          refine al_pure rfl rfl rfl (pure_move rfl (fun _ => rfl)) ?_
          refine al_pure rfl rfl rfl (pure_cmp rfl rfl (fun _ => rfl) (fun _ => rfl) rfl) ?_
          refine al_nil ?_
          refine awp_cond rfl (fun hc3 => ?_) (fun hc3 => ?_)
          · refine awp_seq ?_
            refine awp_region ?_
            refine al_pure rfl rfl rfl (pure_move rfl (fun _ => rfl)) ?_
            refine al_pure rfl rfl rfl (pure_assign rfl (fun _ => rfl)) ?_
            refine al_nil ?_
            refine awp_ret ?_
            repeat (first | refine thenS_ret ?_ | refine blockS_ret ?_)
            refine ret_ok rfl ?_ trivial
            refine xi_eq ?_
            rw [T.nodesE_eq t, if_neg (by simpa using hz), T.nodesEs_hit _ _ _ hx h0 (by simpa using hc3)]
          · refine awp_skip ?_
            refine awp_region ?_
            refine al_pure rfl rfl rfl (pure_move rfl (fun _ => rfl)) ?_
            refine al_pure rfl rfl rfl (pure_arith rfl rfl (fun _ => rfl) (fun _ => rfl) rfl (IntWalk.i64_in _ (by omega))) ?_
            refine al_pure rfl rfl rfl (pure_assign rfl (fun _ => rfl)) ?_
            refine al_nil ?_
            refine ⟨k + 1, ⟨by omega, T.nodesEs_step _ _ _ hx h0 (by simpa using hc3)⟩, by omega, ?_⟩
            refine sub_mk ⟨⟨_, rfl, rfl⟩, ⟨_, rfl, rfl⟩, trivial⟩ ⟨⟨_, rfl, rfl⟩, trivial⟩ trivial
        · refine awp_exit ?_
          repeat (first | refine thenS_exit ?_ | refine blockS_hit ?_ | refine blockS_miss rfl ?_)
          refine awp_seq ?_
          refine awp_region ?_
          refine al_pure rfl rfl rfl (pure_assign rfl (fun _ => rfl)) ?_
          refine al_nil ?_
          refine awp_ret ?_
          repeat (first | refine thenS_ret ?_ | refine blockS_ret ?_)
          refine ret_ok rfl ?_ trivial
          rw [T.rows_len] at hc2
          have : k = t.kids.length := by simp at hc2; omega
          subst this
          rw [List.take_length] at h0
          refine xi_eq ?_
          rw [T.nodesE_eq t, if_neg (by simpa using hz), h0]
def depthS (t : T) (k : Nat) : St := { t := [(1, true, .v (.ptr (.l 1) 0)), (3, true, xi (T.depths (t.kids.take k))), (4, true, xi k)], bx := [(.l 1, t.cells)], ow := [] }
theorem depth_spec : ∀ (n : Nat) (t : T), t.size ≤ n → n ≤ 1000000 → Ctr sys 69 [xt t] [] (xi t.depth) none [] := by
  intro n
  induction n with
  | zero => intro t h _; have := t.size_pos; omega
  | succ n ih =>
    intro t ht hn
    refine spec_intro Try.func69 rfl rfl rfl rfl rfl rfl ?_
    refine awp_seq ?_
    refine awp_region ?_
    refine al_do rfl (does_box rfl rfl rfl rfl) ?_
    refine al_pure rfl rfl rfl (pure_assign rfl (fun _ => rfl)) ?_
    refine al_nil ?_
    refine awp_seq ?_
    refine awp_region ?_
    refine al_pure rfl rfl rfl (pure_assign rfl (fun _ => rfl)) ?_
    refine al_nil ?_
    refine awp_seq ?_
    refine awp_seq ?_
    refine awp_region ?_
    refine al_pure rfl rfl rfl (pure_assign rfl (fun _ => rfl)) ?_
    refine al_nil ?_
    refine awp_block ?_
    refine awp_loop (depthS t) (fun k => k ≤ t.kids.length) (fun k => t.kids.length - k) 0 (Nat.zero_le _) ?_ ?_
    · refine sub_mk ⟨⟨_, rfl, rfl⟩, ⟨_, rfl, rfl⟩, ⟨_, rfl, rfl⟩, trivial⟩ ⟨⟨_, rfl, rfl⟩, trivial⟩ trivial
    · intro k hk
      have hd1 := T.depths_take_le t.kids k
      have hd2 := t.depth_le
      have hd3 := t.depth_eq
      refine awp_seq ?_
      refine awp_seq ?_
      refine awp_region ?_
      refine al_pure rfl rfl rfl (pure_move rfl (fun _ => rfl)) ?_
      refine al_pure rfl rfl rfl (pure_fieldPtr rfl (fun _ => rfl) rfl rfl) ?_
      refine al_pure rfl rfl rfl (pure_loadBox rfl (fun _ => rfl) rfl rfl rfl rfl) ?_
      refine al_lenSl rfl rfl rfl rfl rfl (fun _ => rfl) rfl rfl ?_ (fun hh => by simp at hh); intro hlen
      refine al_pure rfl rfl rfl (pure_cmp rfl rfl (fun _ => rfl) (fun _ => rfl) rfl) ?_
      refine al_nil ?_
      refine awp_cond rfl (fun hc => ?_) (fun hc => ?_)
      · rw [T.rows_len] at hlen hc
        have hlt : k < t.kids.length := by simpa using hc
        obtain ⟨x, hx⟩ : ∃ x, t.kids[k]? = some x := ⟨_, List.getElem?_eq_getElem hlt⟩
        have h1 := T.depths_take _ _ _ hx
        have h3 := T.size_kid hx
        refine awp_skip ?_
        refine awp_seq ?_
        refine awp_block ?_
        refine awp_region ?_
        refine al_pure rfl rfl rfl (pure_move rfl (fun _ => rfl)) ?_
        refine al_pure rfl rfl rfl (pure_fieldPtr rfl (fun _ => rfl) rfl rfl) ?_
        refine al_pure rfl rfl rfl (pure_loadBox rfl (fun _ => rfl) rfl rfl rfl rfl) ?_
        refine al_pure rfl rfl rfl (pure_move rfl (fun _ => rfl)) ?_
        refine al_pure rfl rfl rfl (pure_indexAddr rfl rfl (fun _ => rfl) (fun _ => rfl) rfl rfl rfl (fun _ => T.rows_get hx)) ?_
        refine al_pure rfl rfl rfl (pure_loadRoRow rfl (fun _ => rfl) rfl rfl rfl rfl) ?_
        refine al_call rfl rfl rfl rfl rfl rfl (fun _ => rfl) (fun _ => rfl) (ih x (by omega) (by omega)) rfl ?_
        refine al_pure rfl rfl rfl (pure_max rfl rfl (fun _ => rfl) (fun _ => rfl)) ?_
        refine al_pure rfl rfl rfl (pure_assign rfl (fun _ => rfl)) ?_
        refine al_nil ?_
        refine awp_sub (s := { t := [(1, _, _), (3, _, _), (4, _, _), (5, _, _), (6, _, _), (7, _, _), (8, _, _), (9, _, _), (12, _, _), (13, _, _), (14, _, _), (15, _, _), (16, _, _), (17, _, _), (18, _, _), (19, _, _)], bx := [((.l 1), _)], ow := [] }) (sub_mk (⟨⟨_, rfl, rfl⟩, ⟨⟨_, rfl, rfl⟩, ⟨⟨_, rfl, rfl⟩, ⟨⟨_, rfl, rfl⟩, ⟨⟨_, rfl, rfl⟩, ⟨⟨_, rfl, rfl⟩, ⟨⟨_, rfl, rfl⟩, ⟨⟨_, rfl, rfl⟩, ⟨⟨_, rfl, rfl⟩, ⟨⟨_, rfl, rfl⟩, ⟨⟨_, rfl, rfl⟩, ⟨⟨_, rfl, rfl⟩, ⟨⟨_, rfl, rfl⟩, ⟨⟨_, rfl, rfl⟩, ⟨⟨_, rfl, rfl⟩, ⟨⟨_, rfl, rfl⟩, trivial⟩⟩⟩⟩⟩⟩⟩⟩⟩⟩⟩⟩⟩⟩⟩⟩) (⟨⟨_, rfl, rfl⟩, trivial⟩) trivial) ?_
        refine awp_region ?_
        refine al_pure rfl rfl rfl (pure_move rfl (fun _ => rfl)) ?_
        refine al_pure rfl rfl rfl (pure_arith rfl rfl (fun _ => rfl) (fun _ => rfl) rfl (IntWalk.i64_in _ (by omega))) ?_
        refine al_pure rfl rfl rfl (pure_assign rfl (fun _ => rfl)) ?_
        refine al_nil ?_
        refine ⟨k + 1, by omega, by omega, ?_⟩
        refine sub_mk ⟨⟨_, rfl, rfl⟩, ⟨_, rfl, ?_⟩, ⟨_, rfl, rfl⟩, trivial⟩ ⟨⟨_, rfl, rfl⟩, trivial⟩ trivial
        rw [h1]; simp; omega
      · refine awp_exit ?_
        repeat (first | refine thenS_exit ?_ | refine blockS_hit ?_ | refine blockS_miss rfl ?_)
        refine awp_seq ?_
        refine awp_region ?_
        refine al_pure rfl rfl rfl (pure_move rfl (fun _ => rfl)) ?_
        refine al_pure rfl rfl rfl (pure_arith rfl rfl (fun _ => rfl) (fun _ => rfl) rfl (IntWalk.i64_in _ (by omega))) ?_
        refine al_pure rfl rfl rfl (pure_assign rfl (fun _ => rfl)) ?_
        refine al_nil ?_
        refine awp_ret ?_
        repeat (first | refine thenS_ret ?_ | refine blockS_ret ?_)
        refine ret_ok rfl ?_ trivial
        rw [T.rows_len] at hc
        have : k = t.kids.length := by simp at hc; omega
        subst this
        refine xi_eq ?_
        rw [List.take_length, t.depth_eq]
        simp
theorem valid_spec (t : T) (h : t.size ≤ 1000000) : Ctr sys 61 [xt t] [] (xi (validE t)) none [] := by
  refine spec_intro Try.func61 rfl rfl rfl rfl rfl rfl ?_
  refine awp_seq ?_
  refine awp_region ?_
  refine al_do rfl (does_box rfl rfl rfl rfl) ?_
  refine al_pure rfl rfl rfl (pure_assign rfl (fun _ => rfl)) ?_
  refine al_nil ?_
  refine awp_seq ?_
  refine awp_seq ?_
  refine awp_region ?_
  refine al_pure rfl rfl rfl (pure_loadBoxRow rfl (fun _ => rfl) rfl rfl rfl rfl rfl) ?_
  refine al_call rfl rfl rfl rfl rfl rfl (fun _ => rfl) (fun _ => rfl) (nodes_spec _ t (Nat.le_refl _) h) rfl ?_
  refine al_pure rfl rfl rfl (pure_assign rfl (fun _ => rfl)) ?_
  refine al_nil ?_
  refine awp_seq ?_
  refine awp_region ?_
  refine al_pure rfl rfl rfl (pure_move rfl (fun _ => rfl)) ?_
  refine al_pure rfl rfl rfl (pure_cmp rfl rfl (fun _ => rfl) (fun _ => rfl) rfl) ?_
  refine al_nil ?_
  refine awp_cond rfl (fun hc => ?_) (fun hc => ?_)
  · refine awp_seq ?_
    refine awp_region ?_
    refine al_pure rfl rfl rfl (pure_move rfl (fun _ => rfl)) ?_
    refine al_pure rfl rfl rfl (pure_assign rfl (fun _ => rfl)) ?_
    refine al_nil ?_
    refine awp_ret ?_
    repeat (first | refine thenS_ret ?_ | refine blockS_ret ?_)
    refine ret_ok rfl ?_ trivial
    refine xi_eq ?_
    rw [validE, if_pos (by simpa using hc)]
  · refine awp_skip ?_
    refine awp_seq ?_
    refine awp_seq ?_
    refine awp_region ?_
    refine al_pure rfl rfl rfl (pure_loadBoxRow rfl (fun _ => rfl) rfl rfl rfl rfl rfl) ?_
    refine al_call rfl rfl rfl rfl rfl rfl (fun _ => rfl) (fun _ => rfl) (size_spec _ t (Nat.le_refl _) h) rfl ?_
    refine al_pure rfl rfl rfl (pure_cmp rfl rfl (fun _ => rfl) (fun _ => rfl) rfl) ?_
    refine al_pure rfl rfl rfl (pure_move rfl (fun _ => rfl)) ?_
    refine al_pure rfl rfl rfl (pure_loadBoxRow rfl (fun _ => rfl) rfl rfl rfl rfl rfl) ?_
    refine al_call rfl rfl rfl rfl rfl rfl (fun _ => rfl) (fun hh => gA ((fun hh => hh) hh) (rfl)) (depth_spec _ t (Nat.le_refl _) h) rfl ?_
    refine al_pure rfl rfl rfl (pure_cmp rfl rfl (fun hh => hh) (fun _ => rfl) rfl) ?_
    refine al_pure rfl rfl rfl (pure_or rfl rfl (fun _ => rfl) (fun _ hi => gP rfl hi)) ?_
    refine al_nil ?_
    refine awp_sub (s := { t := [(2, _, _), (16, _, _)], bx := [], ow := [] }) (sub_mk (⟨⟨_, rfl, rfl⟩, ⟨⟨_, rfl, rfl⟩, trivial⟩⟩) trivial trivial) ?_
    have hz : t.nodesE = 0 := by simpa using hc
    refine awp_cond rfl (fun hc2 => ?_) (fun hc2 => ?_)
    · refine awp_seq ?_
      refine awp_region ?_
      refine al_pure rfl rfl rfl (pure_assign rfl (fun _ => rfl)) ?_
      refine al_nil ?_
      refine awp_ret ?_
      repeat (first | refine thenS_ret ?_ | refine blockS_ret ?_)
      refine ret_ok rfl ?_ trivial
      refine xi_eq ?_
      simp only [Bool.or_eq_true, decide_eq_true_eq] at hc2
      rw [validE, if_neg (by simpa using hz), if_pos (by omega)]
    · refine awp_skip ?_
      refine awp_seq ?_
      refine awp_region ?_
      refine al_pure rfl rfl rfl (pure_assign rfl (fun _ => rfl)) ?_
      refine al_nil ?_
      refine awp_ret ?_
      repeat (first | refine thenS_ret ?_ | refine blockS_ret ?_)
      refine ret_ok rfl ?_ trivial
      refine xi_eq ?_
      simp only [Bool.or_eq_false_iff, decide_eq_false_iff_not] at hc2
      rw [validE, if_neg (by simpa using hz), if_neg (by omega)]

def checkJ (t : T) (lv n d : Int) : St := { t := [(1, true, xi lv), (2, true, .v (.ptr (.o 0) 0)), (3, true, .v (.ptr (.o 1) 0)), (4, true, .v (.ptr (.l 4) 0))], bx := [(.l 4, t.cells), (.o 0, [.i .i64 (n + 1)]), (.o 1, [.i .i64 (max d lv)])], ow := [] }
def checkS (t : T) (lv n d : Int) (k : Nat) : St := { t := [(1, true, xi lv), (2, true, .v (.ptr (.o 0) 0)), (3, true, .v (.ptr (.o 1) 0)), (57, true, xl t.kids), (58, true, xi t.kids.length), (59, true, xi k)], bx := [(.o 0, [.i .i64 (T.chks (t.kids.take k) (lv + 1) (n + 1) (max d lv)).n]), (.o 1, [.i .i64 (T.chks (t.kids.take k) (lv + 1) (n + 1) (max d lv)).d])], ow := [] }
theorem check_spec : ∀ (b : Nat) (t : T) (lv n d : Int), t.size ≤ b → b ≤ 1000000 → 0 ≤ n → n + t.size ≤ 1000000 → 0 ≤ lv → lv + t.size ≤ 1000000 →
    Ctr sys 67 [xt t, xi lv, .v (.ptr (.o 0) 0), .v (.ptr (.o 1) 0)] [[.i .i64 n], [.i .i64 d]] (xi t.nodesE) none [[.i .i64 (t.chk lv n d).n], [.i .i64 (t.chk lv n d).d]] := by
  intro b
  induction b with
  | zero => intro t _ _ _ h; have := t.size_pos; omega
  | succ b ih =>
    intro t lv n d ht hb hn hn2 hl hl2
    have hsz := t.size_pos
    have hbad : nodeE t ≠ 0 → t.nodesE = nodeE t ∧ t.chk lv n d = ⟨nodeE t, n + 1, max d lv⟩ := fun h => ⟨by rw [T.nodesE_eq, if_pos h], by rw [T.chk_eq, if_pos h]⟩
    refine spec_intro Try.func67 rfl rfl rfl rfl rfl rfl ?_
    refine awp_seq ?_
    refine awp_region ?_
    refine al_do rfl (does_box rfl rfl rfl rfl) ?_
    refine al_pure rfl rfl rfl (pure_assign rfl (fun _ => rfl)) ?_
    refine al_nil ?_
    refine awp_seq ?_
    refine awp_region ?_
    refine al_pure rfl rfl rfl (pure_move rfl (fun _ => rfl)) ?_
    refine al_pure rfl rfl rfl (pure_nilCheck rfl (fun _ => rfl)) ?_
    refine al_pure rfl rfl rfl (pure_loadBox rfl (fun _ => rfl) rfl rfl rfl rfl) ?_
    refine al_pure rfl rfl rfl (pure_arith rfl rfl (fun _ => rfl) (fun _ => rfl) rfl (IntWalk.i64_in _ (by omega))) ?_
    refine al_pure rfl rfl rfl (pure_nilCheck rfl (fun _ => rfl)) ?_
    refine al_do rfl (does_store rfl rfl rfl rfl rfl rfl rfl) ?_
    refine al_nil ?_
    refine awp_seq ?_
    refine awp_region ?_
    refine al_pure rfl rfl rfl (pure_move rfl (fun _ => rfl)) ?_
    refine al_pure rfl rfl rfl (pure_move rfl (fun _ => rfl)) ?_
    refine al_pure rfl rfl rfl (pure_nilCheck rfl (fun _ => rfl)) ?_
    refine al_pure rfl rfl rfl (pure_loadBox rfl (fun _ => rfl) rfl rfl rfl rfl) ?_
    refine al_pure rfl rfl rfl (pure_move rfl (fun _ => rfl)) ?_
    refine al_pure rfl rfl rfl (pure_max rfl rfl (fun _ => rfl) (fun _ => rfl)) ?_
    refine al_pure rfl rfl rfl (pure_nilCheck rfl (fun _ => rfl)) ?_
    refine al_do rfl (does_store rfl rfl rfl rfl rfl rfl rfl) ?_
    refine al_nil ?_
    refine awp_sub (s := { t := [(1, _, _), (2, _, _), (3, _, _), (4, _, _), (8, _, _)], bx := [((.l 4), _), ((.o 0), _), ((.o 1), _)], ow := [] }) (sub_mk (⟨⟨_, rfl, rfl⟩, ⟨⟨_, rfl, rfl⟩, ⟨⟨_, rfl, rfl⟩, ⟨⟨_, rfl, rfl⟩, ⟨⟨_, rfl, rfl⟩, trivial⟩⟩⟩⟩⟩) (⟨⟨_, rfl, rfl⟩, ⟨⟨_, rfl, rfl⟩, ⟨⟨_, rfl, rfl⟩, trivial⟩⟩⟩) trivial) ?_
    refine awp_cut (checkJ t lv n d) ((t.kind = 1 ∨ t.kind = 2) ∧ 0 ≤ t.sort ∧ t.sort ≤ 5 ∧ t.kids.length = 0 ∨ t.kind = 3 ∧ t.sort = 0) ?_ (fun hj => ?_)
    · have h1 : ∀ h : ¬ ((t.kind = 1 ∨ t.kind = 2) ∧ 0 ≤ t.sort ∧ t.sort ≤ 5 ∧ t.kids.length = 0 ∨ t.kind = 3 ∧ t.sort = 0), t.nodesE = 1 ∧ t.chk lv n d = ⟨1, n + 1, max d lv⟩ := by
        intro h
        have hq : nodeE t = 1 := by rw [nodeE, if_neg h]
        have := hbad (by rw [hq]; omega)
        rw [hq] at this; exact this
      refine awp_seq ?_
      refine awp_region ?_
      refine al_pure rfl rfl rfl (pure_fieldPtr rfl (fun _ => rfl) rfl rfl) ?_
      refine al_pure rfl rfl rfl (pure_loadBox rfl (fun _ => rfl) rfl rfl rfl rfl) ?_
      refine al_nil ?_
      refine awp_block ?_
      refine awp_seq ?_
      refine awp_seq ?_
      refine awp_region ?_
      refine al_pure rfl rfl rfl (pure_cmp rfl rfl (fun _ => rfl) (fun _ => rfl) rfl) ?_
      refine al_pure rfl rfl rfl (pure_assign rfl (fun _ => rfl)) ?_
      refine al_nil ?_
      refine awp_cond rfl (fun hc => ?_) (fun hc => ?_)
      · refine awp_skip ?_
        refine awp_cond rfl (fun hc2 => ?_) (fun hc2 => ?_)
        · refine awp_seq ?_
          refine awp_region ?_
          refine al_pure rfl rfl rfl (pure_fieldPtr rfl (fun _ => rfl) rfl rfl) ?_
          refine al_pure rfl rfl rfl (pure_loadBox rfl (fun _ => rfl) rfl rfl rfl rfl) ?_
          refine al_pure rfl rfl rfl (pure_cmp rfl rfl (fun _ => rfl) (fun _ => rfl) rfl) ?_
          refine al_pure rfl rfl rfl (pure_move rfl (fun _ => rfl)) ?_
          refine al_pure rfl rfl rfl (pure_fieldPtr rfl (fun _ => rfl) rfl rfl) ?_
          refine al_pure rfl rfl rfl (pure_loadBox rfl (fun hh => hh) rfl rfl rfl rfl) ?_
          refine al_pure rfl rfl rfl (pure_cmp rfl rfl (fun hh => hh) (fun _ => rfl) rfl) ?_
          refine al_pure rfl rfl rfl (pure_or rfl rfl (fun _ => rfl) (fun _ hi => gP rfl hi)) ?_
          refine al_pure rfl rfl rfl (pure_move rfl (fun _ => rfl)) ?_
          refine al_pure rfl rfl rfl (pure_fieldPtr rfl (fun _ => rfl) rfl rfl) ?_
          refine al_pure rfl rfl rfl (pure_loadBox rfl (fun hh => hh) rfl rfl rfl rfl) ?_
          refine al_pure rfl rfl rfl (pure_lenSl rfl (fun hh => hh) rfl rfl) ?_
          refine al_pure rfl rfl rfl (pure_cmp rfl rfl (fun hh => hh) (fun _ => rfl) rfl) ?_
          refine al_pure rfl rfl rfl (pure_or rfl rfl (fun _ => rfl) (fun _ hi => gP rfl hi)) ?_
          refine al_nil ?_
          refine awp_sub (s := { t := [(1, _, _), (2, _, _), (3, _, _), (4, _, _), (8, _, _), (42, _, _)], bx := [((.l 4), _), ((.o 0), _), ((.o 1), _)], ow := [] }) (sub_mk (⟨⟨_, rfl, rfl⟩, ⟨⟨_, rfl, rfl⟩, ⟨⟨_, rfl, rfl⟩, ⟨⟨_, rfl, rfl⟩, ⟨⟨_, rfl, rfl⟩, ⟨⟨_, rfl, rfl⟩, trivial⟩⟩⟩⟩⟩⟩) (⟨⟨_, rfl, rfl⟩, ⟨⟨_, rfl, rfl⟩, ⟨⟨_, rfl, rfl⟩, trivial⟩⟩⟩) trivial) ?_
          refine awp_cond rfl (fun hc3 => ?_) (fun hc3 => ?_)
          · refine awp_seq ?_
            refine awp_region ?_
            refine al_pure rfl rfl rfl (pure_assign rfl (fun _ => rfl)) ?_
            refine al_nil ?_
            refine awp_ret ?_
            repeat (first | refine thenS_ret ?_ | refine blockS_ret ?_)
            refine ret_ok rfl ?_ (⟨⟨_, rfl, ?_⟩, ⟨⟨_, rfl, ?_⟩, trivial⟩⟩)
            all_goals (
              have hno := h1 (by
                simp only [Bool.or_eq_true, decide_eq_true_eq, decide_eq_false_iff_not, beq_iff_eq, bne_iff_ne, ne_eq, beq_eq_false_iff_ne, T.rows_len] at hc hc3
                rintro (⟨q1, q2, q3, q4⟩ | ⟨q1, q2⟩) <;> omega)
              first | exact xi_eq hno.1.symm | (rw [hno.2]; done) | (rw [hno.2]; rfl))
          · refine awp_skip ?_
            refine ⟨.inl ?_, ?_⟩
            · simp only [Bool.or_eq_false_iff, decide_eq_false_iff_not, beq_iff_eq, T.rows_len] at hc hc3
              omega
            · refine sub_mk ⟨⟨_, rfl, rfl⟩, ⟨_, rfl, rfl⟩, ⟨_, rfl, rfl⟩, ⟨_, rfl, rfl⟩, trivial⟩ ⟨⟨_, rfl, rfl⟩, ⟨_, rfl, rfl⟩, ⟨_, rfl, rfl⟩, trivial⟩ trivial
        · rw [hc] at hc2; simp at hc2
      · refine awp_region ?_
        refine al_pure rfl rfl rfl (pure_cmp rfl rfl (fun _ => rfl) (fun _ => rfl) rfl) ?_
        refine al_pure rfl rfl rfl (pure_assign rfl (fun _ => rfl)) ?_
        refine al_nil ?_
        refine awp_cond rfl (fun hc2 => ?_) (fun hc2 => ?_)
        · refine awp_seq ?_
          refine awp_region ?_
          refine al_pure rfl rfl rfl (pure_fieldPtr rfl (fun _ => rfl) rfl rfl) ?_
          refine al_pure rfl rfl rfl (pure_loadBox rfl (fun _ => rfl) rfl rfl rfl rfl) ?_
          refine al_pure rfl rfl rfl (pure_cmp rfl rfl (fun _ => rfl) (fun _ => rfl) rfl) ?_
          refine al_pure rfl rfl rfl (pure_move rfl (fun _ => rfl)) ?_
          refine al_pure rfl rfl rfl (pure_fieldPtr rfl (fun _ => rfl) rfl rfl) ?_
          refine al_pure rfl rfl rfl (pure_loadBox rfl (fun hh => hh) rfl rfl rfl rfl) ?_
          refine al_pure rfl rfl rfl (pure_cmp rfl rfl (fun hh => hh) (fun _ => rfl) rfl) ?_
          refine al_pure rfl rfl rfl (pure_or rfl rfl (fun _ => rfl) (fun _ hi => gP rfl hi)) ?_
          refine al_pure rfl rfl rfl (pure_move rfl (fun _ => rfl)) ?_
          refine al_pure rfl rfl rfl (pure_fieldPtr rfl (fun _ => rfl) rfl rfl) ?_
          refine al_pure rfl rfl rfl (pure_loadBox rfl (fun hh => hh) rfl rfl rfl rfl) ?_
          refine al_pure rfl rfl rfl (pure_lenSl rfl (fun hh => hh) rfl rfl) ?_
          refine al_pure rfl rfl rfl (pure_cmp rfl rfl (fun hh => hh) (fun _ => rfl) rfl) ?_
          refine al_pure rfl rfl rfl (pure_or rfl rfl (fun _ => rfl) (fun _ hi => gP rfl hi)) ?_
          refine al_nil ?_
          refine awp_sub (s := { t := [(1, _, _), (2, _, _), (3, _, _), (4, _, _), (8, _, _), (42, _, _)], bx := [((.l 4), _), ((.o 0), _), ((.o 1), _)], ow := [] }) (sub_mk (⟨⟨_, rfl, rfl⟩, ⟨⟨_, rfl, rfl⟩, ⟨⟨_, rfl, rfl⟩, ⟨⟨_, rfl, rfl⟩, ⟨⟨_, rfl, rfl⟩, ⟨⟨_, rfl, rfl⟩, trivial⟩⟩⟩⟩⟩⟩) (⟨⟨_, rfl, rfl⟩, ⟨⟨_, rfl, rfl⟩, ⟨⟨_, rfl, rfl⟩, trivial⟩⟩⟩) trivial) ?_
          refine awp_cond rfl (fun hc3 => ?_) (fun hc3 => ?_)
          · refine awp_seq ?_
            refine awp_region ?_
            refine al_pure rfl rfl rfl (pure_assign rfl (fun _ => rfl)) ?_
            refine al_nil ?_
            refine awp_ret ?_
            repeat (first | refine thenS_ret ?_ | refine blockS_ret ?_)
            refine ret_ok rfl ?_ (⟨⟨_, rfl, ?_⟩, ⟨⟨_, rfl, ?_⟩, trivial⟩⟩)
            all_goals (
              have hno := h1 (by
                simp only [Bool.or_eq_true, decide_eq_true_eq, decide_eq_false_iff_not, beq_iff_eq, bne_iff_ne, ne_eq, beq_eq_false_iff_ne, T.rows_len] at hc hc2 hc3
                rintro (⟨q1, q2, q3, q4⟩ | ⟨q1, q2⟩) <;> omega)
              first | exact xi_eq hno.1.symm | (rw [hno.2]; done) | (rw [hno.2]; rfl))
          · refine awp_skip ?_
            refine ⟨.inl ?_, ?_⟩
            · simp only [Bool.or_eq_false_iff, decide_eq_false_iff_not, beq_iff_eq, T.rows_len] at hc2 hc3
              omega
            · refine sub_mk ⟨⟨_, rfl, rfl⟩, ⟨_, rfl, rfl⟩, ⟨_, rfl, rfl⟩, ⟨_, rfl, rfl⟩, trivial⟩ ⟨⟨_, rfl, rfl⟩, ⟨_, rfl, rfl⟩, ⟨_, rfl, rfl⟩, trivial⟩ trivial
        · refine awp_seq ?_
          refine awp_region ?_
          refine al_pure rfl rfl rfl (pure_cmp rfl rfl (fun _ => rfl) (fun _ => rfl) rfl) ?_
          refine al_pure rfl rfl rfl (pure_assign rfl (fun _ => rfl)) ?_
          refine al_nil ?_
          refine awp_sub (s := { t := [(1, _, _), (2, _, _), (3, _, _), (4, _, _), (8, _, _), (43, _, _)], bx := [((.l 4), _), ((.o 0), _), ((.o 1), _)], ow := [] }) (sub_mk (⟨⟨_, rfl, rfl⟩, ⟨⟨_, rfl, rfl⟩, ⟨⟨_, rfl, rfl⟩, ⟨⟨_, rfl, rfl⟩, ⟨⟨_, rfl, rfl⟩, ⟨⟨_, rfl, rfl⟩, trivial⟩⟩⟩⟩⟩⟩) (⟨⟨_, rfl, rfl⟩, ⟨⟨_, rfl, rfl⟩, ⟨⟨_, rfl, rfl⟩, trivial⟩⟩⟩) trivial) ?_
          refine awp_cond rfl (fun hc3 => ?_) (fun hc3 => ?_)
          · refine awp_seq ?_
            refine awp_region ?_
            refine al_pure rfl rfl rfl (pure_fieldPtr rfl (fun _ => rfl) rfl rfl) ?_
            refine al_pure rfl rfl rfl (pure_loadBox rfl (fun _ => rfl) rfl rfl rfl rfl) ?_
            refine al_pure rfl rfl rfl (pure_cmp rfl rfl (fun _ => rfl) (fun _ => rfl) rfl) ?_
            refine al_nil ?_
            refine awp_cond rfl (fun hc4 => ?_) (fun hc4 => ?_)
            · refine awp_seq ?_
              refine awp_region ?_
              refine al_pure rfl rfl rfl (pure_assign rfl (fun _ => rfl)) ?_
              refine al_nil ?_
              refine awp_ret ?_
              repeat (first | refine thenS_ret ?_ | refine blockS_ret ?_)
              refine ret_ok rfl ?_ (⟨⟨_, rfl, ?_⟩, ⟨⟨_, rfl, ?_⟩, trivial⟩⟩)
              all_goals (
                have hno := h1 (by
                  simp only [Bool.or_eq_true, decide_eq_true_eq, decide_eq_false_iff_not, beq_iff_eq, bne_iff_ne, ne_eq, beq_eq_false_iff_ne, T.rows_len] at hc hc2 hc3 hc4
                  rintro (⟨q1, q2, q3, q4⟩ | ⟨q1, q2⟩) <;> omega)
                first | exact xi_eq hno.1.symm | (rw [hno.2]; done) | (rw [hno.2]; rfl))
            · refine awp_skip ?_
              refine ⟨.inr ?_, ?_⟩
              · simp only [bne_eq_false_iff_eq, beq_iff_eq] at hc3 hc4
                exact ⟨hc3, hc4⟩
              · refine sub_mk ⟨⟨_, rfl, rfl⟩, ⟨_, rfl, rfl⟩, ⟨_, rfl, rfl⟩, ⟨_, rfl, rfl⟩, trivial⟩ ⟨⟨_, rfl, rfl⟩, ⟨_, rfl, rfl⟩, ⟨_, rfl, rfl⟩, trivial⟩ trivial
          · refine awp_seq ?_
            refine awp_region ?_
            refine al_pure rfl rfl rfl (pure_assign rfl (fun _ => rfl)) ?_
            refine al_nil ?_
            refine awp_ret ?_
            repeat (first | refine thenS_ret ?_ | refine blockS_ret ?_)
            refine ret_ok rfl ?_ (⟨⟨_, rfl, ?_⟩, ⟨⟨_, rfl, ?_⟩, trivial⟩⟩)
            all_goals (
              have hno := h1 (by
                simp only [Bool.or_eq_true, decide_eq_true_eq, decide_eq_false_iff_not, beq_iff_eq, bne_iff_ne, ne_eq, beq_eq_false_iff_ne, T.rows_len] at hc hc2 hc3
                rintro (⟨q1, q2, q3, q4⟩ | ⟨q1, q2⟩) <;> omega)
              first | exact xi_eq hno.1.symm | (rw [hno.2]; done) | (rw [hno.2]; rfl))
    · refine awp_seq ?_
      refine awp_seq ?_
      refine awp_region ?_
      refine al_pure rfl rfl rfl (pure_fieldPtr rfl (fun _ => rfl) rfl rfl) ?_
      refine al_pure rfl rfl rfl (pure_loadBox rfl (fun _ => rfl) rfl rfl rfl rfl) ?_
      refine al_call rfl rfl rfl rfl rfl rfl (fun _ => rfl) (fun _ => rfl) (tisName_spec _) rfl ?_
      refine al_pure rfl rfl rfl (pure_not rfl (fun _ => rfl)) ?_
      refine al_nil ?_
      refine awp_cond rfl (fun hc => ?_) (fun hc => ?_)
      · refine awp_seq ?_
        refine awp_region ?_
        refine al_pure rfl rfl rfl (pure_assign rfl (fun _ => rfl)) ?_
        refine al_nil ?_
        refine awp_ret ?_
        repeat (first | refine thenS_ret ?_ | refine blockS_ret ?_)
        refine ret_ok rfl ?_ (⟨⟨_, rfl, ?_⟩, ⟨⟨_, rfl, ?_⟩, trivial⟩⟩)
        all_goals (
          have hq : nodeE t = 2 := by
            simp only [Bool.not_eq_true'] at hc
            rw [nodeE, if_pos hj, if_neg (by rw [hc]; simp)]
          have hno := hbad (by rw [hq]; omega)
          rw [hq] at hno
          first | exact xi_eq hno.1.symm | (rw [hno.2]; done) | (rw [hno.2]; rfl))
      · simp only [Bool.not_eq_false'] at hc
        refine awp_skip ?_
        refine awp_seq ?_
        refine awp_seq ?_
        refine awp_region ?_
        refine al_pure rfl rfl rfl (pure_fieldPtr rfl (fun _ => rfl) rfl rfl) ?_
        refine al_pure rfl rfl rfl (pure_loadBox rfl (fun _ => rfl) rfl rfl rfl rfl) ?_
        refine al_lenSl rfl rfl rfl rfl rfl (fun _ => rfl) rfl rfl ?_ (fun hh => by simp at hh); intro hlen
        refine al_pure rfl rfl rfl (pure_cmp rfl rfl (fun _ => rfl) (fun _ => rfl) rfl) ?_
        refine al_nil ?_
        refine awp_sub (s := { t := [(1, _, _), (2, _, _), (3, _, _), (4, _, _), (55, _, _)], bx := [((.l 4), _), ((.o 0), _), ((.o 1), _)], ow := [] }) (sub_mk (⟨⟨_, rfl, rfl⟩, ⟨⟨_, rfl, rfl⟩, ⟨⟨_, rfl, rfl⟩, ⟨⟨_, rfl, rfl⟩, ⟨⟨_, rfl, rfl⟩, trivial⟩⟩⟩⟩⟩) (⟨⟨_, rfl, rfl⟩, ⟨⟨_, rfl, rfl⟩, ⟨⟨_, rfl, rfl⟩, trivial⟩⟩⟩) trivial) ?_
        refine awp_cond rfl (fun hc2 => ?_) (fun hc2 => ?_)
        · refine awp_seq ?_
          refine awp_region ?_
          refine al_pure rfl rfl rfl (pure_assign rfl (fun _ => rfl)) ?_
          refine al_nil ?_
          refine awp_ret ?_
          repeat (first | refine thenS_ret ?_ | refine blockS_ret ?_)
          refine ret_ok rfl ?_ (⟨⟨_, rfl, ?_⟩, ⟨⟨_, rfl, ?_⟩, trivial⟩⟩)
          all_goals (
            have hq : nodeE t = 3 := by
              simp only [T.rows_len, decide_eq_true_eq] at hc2
              rw [nodeE, if_pos hj, if_pos hc, if_pos (by omega)]
            have hno := hbad (by rw [hq]; omega)
            rw [hq] at hno
            first | exact xi_eq hno.1.symm | (rw [hno.2]; done) | (rw [hno.2]; rfl))
        · have hz : nodeE t = 0 := by
            simp only [T.rows_len, decide_eq_false_iff_not] at hc2
            rw [nodeE, if_pos hj, if_pos hc, if_neg (by omega)]
          have hchk : t.chk lv n d = T.chks t.kids (lv + 1) (n + 1) (max d lv) := by rw [T.chk_eq, if_neg (by simpa using hz)]
          have hE : t.nodesE = T.nodesEs t.kids := by rw [T.nodesE_eq, if_neg (by simpa using hz)]
          have hsE := t.size_eq
          refine awp_skip ?_
          refine awp_seq ?_
          refine awp_seq ?_
          refine awp_region ?_
          refine al_pure rfl rfl rfl (pure_fieldPtr rfl (fun _ => rfl) rfl rfl) ?_
          refine al_pure rfl rfl rfl (pure_loadBox rfl (fun _ => rfl) rfl rfl rfl rfl) ?_
          refine al_lenSl rfl rfl rfl rfl rfl (fun _ => rfl) rfl rfl ?_ (fun hh => by simp at hh); intro hlen
          refine al_pure rfl rfl rfl (pure_move rfl (fun _ => rfl)) ?_
          refine al_nil ?_
          refine awp_block ?_
          have hlk : t.kids.length ≤ 9223372036854775807 := by rw [T.rows_len] at hlen; exact hlen
          refine awp_loop (checkS t lv n d) (fun k => k ≤ t.kids.length ∧ (T.chks (t.kids.take k) (lv + 1) (n + 1) (max d lv)).e = 0) (fun k => t.kids.length - k) 0 ⟨Nat.zero_le _, by simp [T.chks]⟩ ?_ ?_
          · refine sub_mk ⟨⟨_, rfl, rfl⟩, ⟨_, rfl, rfl⟩, ⟨_, rfl, rfl⟩, ⟨_, rfl, rfl⟩, ⟨_, rfl, by rw [T.rows_len]⟩, ⟨_, rfl, rfl⟩, trivial⟩ ⟨⟨_, rfl, by simp [T.chks]⟩, ⟨_, rfl, by simp [T.chks]⟩, trivial⟩ trivial
          · rintro k ⟨hk, h0⟩
            have hr := T.chks_n (t.kids.take k) (lv + 1) (n + 1) (max d lv)
            have hrE := T.chks_e (t.kids.take k) (lv + 1) (n + 1) (max d lv)
            refine awp_seq ?_
            refine awp_region ?_
            refine al_pure rfl rfl rfl (pure_cmp rfl rfl (fun _ => rfl) (fun _ => rfl) rfl) ?_
            refine al_nil ?_
            refine awp_seq ?_
            refine awp_cond rfl (fun hc3 => ?_) (fun hc3 => ?_)
            · have hlt : k < t.kids.length := by simpa using hc3
              obtain ⟨x, hx⟩ : ∃ x, t.kids[k]? = some x := ⟨_, List.getElem?_eq_getElem hlt⟩
              have q1 := T.sizes_take _ _ _ hx
              have q2 := T.sizes_take_le t.kids (k + 1)
              have q4 := x.size_pos
              refine awp_skip ?_
              refine awp_seq ?_
              refine awp_block ?_
              refine awp_seq ?_
              refine awp_region ?_
              refine al_pure rfl rfl rfl (pure_indexAddr rfl rfl (fun _ => rfl) (fun _ => rfl) rfl rfl rfl (fun _ => T.rows_get hx)) ?_
              refine al_pure rfl rfl rfl (pure_loadRoRow rfl (fun _ => rfl) rfl rfl rfl rfl) ?_
              refine al_do rfl (does_alloc rfl rfl rfl) ?_
              refine al_do rfl (does_store rfl rfl rfl rfl rfl rfl rfl) ?_
              refine al_nil ?_
              refine awp_seq ?_
              refine awp_region ?_
              refine al_pure rfl rfl rfl (pure_loadBoxRow rfl (fun _ => rfl) rfl rfl rfl rfl rfl) ?_
              refine al_pure rfl rfl rfl (pure_move rfl (fun _ => rfl)) ?_
              refine al_pure rfl rfl rfl (pure_arith rfl rfl (fun _ => rfl) (fun _ => rfl) rfl (IntWalk.i64_in _ (by omega))) ?_
              refine al_pure rfl rfl rfl (pure_move rfl (fun _ => rfl)) ?_
              refine al_pure rfl rfl rfl (pure_move rfl (fun _ => rfl)) ?_
              refine al_callB [⟨.o 0, 0, [.i .i64 (T.chks (t.kids.take k) (lv + 1) (n + 1) (max d lv)).n], [.i .i64 (x.chk (lv + 1) (T.chks (t.kids.take k) (lv + 1) (n + 1) (max d lv)).n (T.chks (t.kids.take k) (lv + 1) (n + 1) (max d lv)).d).n]⟩, ⟨.o 1, 0, [.i .i64 (T.chks (t.kids.take k) (lv + 1) (n + 1) (max d lv)).d], [.i .i64 (x.chk (lv + 1) (T.chks (t.kids.take k) (lv + 1) (n + 1) (max d lv)).n (T.chks (t.kids.take k) (lv + 1) (n + 1) (max d lv)).d).d]⟩] rfl rfl rfl rfl (by rfl) (by rfl) (by intro p hp; simp only [List.mem_cons, List.not_mem_nil, or_false] at hp; first | (subst hp; rfl) | (rcases hp with hp | hp <;> subst hp <;> rfl)) (by rfl) (ih x (lv + 1) (T.chks (t.kids.take k) (lv + 1) (n + 1) (max d lv)).n (T.chks (t.kids.take k) (lv + 1) (n + 1) (max d lv)).d (by omega) (by omega) (by omega) (by omega) (by omega) (by omega)) rfl rfl rfl ?_
              refine al_pure rfl rfl rfl (pure_assign rfl (fun _ => rfl)) ?_
              refine al_nil ?_
              refine awp_sub (s := { t := [(1, _, _), (2, _, _), (3, _, _), (10, _, _), (11, _, _), (57, _, _), (58, _, _), (59, _, _), (60, _, _), (61, _, _), (62, _, _), (63, _, _), (64, _, _), (65, _, _), (66, _, _), (67, _, _), (68, _, _)], bx := [((.l 10), _), ((.o 0), _), ((.o 1), _)], ow := [] }) (sub_mk (⟨⟨_, rfl, rfl⟩, ⟨⟨_, rfl, rfl⟩, ⟨⟨_, rfl, rfl⟩, ⟨⟨_, rfl, rfl⟩, ⟨⟨_, rfl, rfl⟩, ⟨⟨_, rfl, rfl⟩, ⟨⟨_, rfl, rfl⟩, ⟨⟨_, rfl, rfl⟩, ⟨⟨_, rfl, rfl⟩, ⟨⟨_, rfl, rfl⟩, ⟨⟨_, rfl, rfl⟩, ⟨⟨_, rfl, rfl⟩, ⟨⟨_, rfl, rfl⟩, ⟨⟨_, rfl, rfl⟩, ⟨⟨_, rfl, rfl⟩, ⟨⟨_, rfl, rfl⟩, ⟨⟨_, rfl, rfl⟩, trivial⟩⟩⟩⟩⟩⟩⟩⟩⟩⟩⟩⟩⟩⟩⟩⟩⟩) (⟨⟨_, rfl, rfl⟩, ⟨⟨_, rfl, rfl⟩, ⟨⟨_, rfl, rfl⟩, trivial⟩⟩⟩) trivial) ?_
              refine awp_seq ?_
              refine awp_region ?_
              refine al_pure rfl rfl rfl (pure_move rfl (fun _ => rfl)) ?_
              refine al_pure rfl rfl rfl (pure_cmp rfl rfl (fun _ => rfl) (fun _ => rfl) rfl) ?_
              refine al_nil ?_
              refine awp_cond rfl (fun hc4 => ?_) (fun hc4 => ?_)
              · refine awp_seq ?_
                refine awp_region ?_
                refine al_pure rfl rfl rfl (pure_move rfl (fun _ => rfl)) ?_
                refine al_pure rfl rfl rfl (pure_assign rfl (fun _ => rfl)) ?_
                refine al_nil ?_
                refine awp_ret ?_
                repeat (first | refine thenS_ret ?_ | refine blockS_ret ?_)
                refine ret_ok rfl ?_ (⟨⟨_, rfl, ?_⟩, ⟨⟨_, rfl, ?_⟩, trivial⟩⟩)
                · have := T.chks_hit (lv := lv + 1) (n := n + 1) (d := max d lv) hx h0 (by simpa using hc4)
                  refine xi_eq ?_
                  rw [hE, ← T.chks_e t.kids (lv + 1) (n + 1) (max d lv), this, T.chk_e]
                · have := T.chks_hit (lv := lv + 1) (n := n + 1) (d := max d lv) hx h0 (by simpa using hc4)
                  rw [hchk, this]; rfl
                · have := T.chks_hit (lv := lv + 1) (n := n + 1) (d := max d lv) hx h0 (by simpa using hc4)
                  rw [hchk, this]; rfl
              · have hx0 : x.nodesE = 0 := by simpa using hc4
                have hst := T.chks_step (lv := lv + 1) (n := n + 1) (d := max d lv) hx h0 hx0
                refine awp_skip ?_
                refine awp_region ?_
                refine al_pure rfl rfl rfl (pure_arith rfl rfl (fun _ => rfl) (fun _ => rfl) rfl (IntWalk.i64_in _ (by omega))) ?_
                refine al_pure rfl rfl rfl (pure_move rfl (fun _ => rfl)) ?_
                refine al_nil ?_
                refine ⟨k + 1, ⟨by omega, by rw [hst, T.chk_e, hx0]⟩, by omega, ?_⟩
                refine sub_mk ⟨⟨_, rfl, rfl⟩, ⟨_, rfl, rfl⟩, ⟨_, rfl, rfl⟩, ⟨_, rfl, rfl⟩, ⟨_, rfl, rfl⟩, ⟨_, rfl, rfl⟩, trivial⟩ ⟨⟨_, rfl, by rw [hst]; rfl⟩, ⟨_, rfl, by rw [hst]; rfl⟩, trivial⟩ trivial
            · have hk' : k = t.kids.length := by simp at hc3; omega
              subst hk'
              rw [List.take_length] at h0
              refine awp_exit ?_
              repeat (first | refine thenS_exit ?_ | refine blockS_hit ?_ | refine blockS_miss rfl ?_)
              refine awp_seq ?_
              refine awp_region ?_
              refine al_pure rfl rfl rfl (pure_assign rfl (fun _ => rfl)) ?_
              refine al_nil ?_
              refine awp_ret ?_
              repeat (first | refine thenS_ret ?_ | refine blockS_ret ?_)
              refine ret_ok rfl ?_ (⟨⟨_, rfl, ?_⟩, ⟨⟨_, rfl, ?_⟩, trivial⟩⟩)
              · refine xi_eq ?_
                rw [hE, ← T.chks_e t.kids (lv + 1) (n + 1) (max d lv), h0]
              · rw [hchk, List.take_length]
              · rw [hchk, List.take_length]
theorem tvalid_spec (t : T) (h : t.size ≤ 900000) : Ctr sys 56 [xt t] [] (xi (validE t)) none [] := by
  have q1 := T.chk_n t 1 0 0
  have q2 := T.chk_d t 1 0 0
  have q3 := t.depth_eq
  refine spec_intro Try.func56 rfl rfl rfl rfl rfl rfl ?_
  refine awp_seq ?_
  refine awp_region ?_
  refine al_do rfl (does_box rfl rfl rfl rfl) ?_
  refine al_pure rfl rfl rfl (pure_assign rfl (fun _ => rfl)) ?_
  refine al_nil ?_
  refine awp_seq ?_
  refine awp_region ?_
  refine al_do rfl (does_alloc rfl rfl rfl) ?_
  refine al_do rfl (does_alloc rfl rfl rfl) ?_
  refine al_do rfl (does_store rfl rfl rfl rfl rfl rfl rfl) ?_
  refine al_do rfl (does_store rfl rfl rfl rfl rfl rfl rfl) ?_
  refine al_nil ?_
  refine awp_seq ?_
  refine awp_seq ?_
  refine awp_region ?_
  refine al_pure rfl rfl rfl (pure_loadBoxRow rfl (fun _ => rfl) rfl rfl rfl rfl rfl) ?_
  refine al_callB [⟨.l 3, 0, [.i .i64 0], [.i .i64 (t.chk 1 0 0).n]⟩, ⟨.l 4, 0, [.i .i64 0], [.i .i64 (t.chk 1 0 0).d]⟩] rfl rfl rfl rfl (by rfl) (by rfl) (by intro p hp; simp only [List.mem_cons, List.not_mem_nil, or_false] at hp; first | (subst hp; rfl) | (rcases hp with hp | hp <;> subst hp <;> rfl)) (by rfl) (check_spec _ t 1 0 0 (Nat.le_refl _) (by omega) (by omega) (by omega) (by omega) (by omega)) rfl rfl rfl ?_
  refine al_pure rfl rfl rfl (pure_assign rfl (fun _ => rfl)) ?_
  refine al_nil ?_
  refine awp_seq ?_
  refine awp_region ?_
  refine al_pure rfl rfl rfl (pure_move rfl (fun _ => rfl)) ?_
  refine al_pure rfl rfl rfl (pure_cmp rfl rfl (fun _ => rfl) (fun _ => rfl) rfl) ?_
  refine al_nil ?_
  refine awp_sub (s := { t := [(2, _, _), (3, _, _), (4, _, _), (5, _, _), (9, _, _)], bx := [((.l 3), _), ((.l 4), _)], ow := [] }) (sub_mk (⟨⟨_, rfl, rfl⟩, ⟨⟨_, rfl, rfl⟩, ⟨⟨_, rfl, rfl⟩, ⟨⟨_, rfl, rfl⟩, ⟨⟨_, rfl, rfl⟩, trivial⟩⟩⟩⟩⟩) (⟨⟨_, rfl, rfl⟩, ⟨⟨_, rfl, rfl⟩, trivial⟩⟩) trivial) ?_
  refine awp_cond rfl (fun hc => ?_) (fun hc => ?_)
  · refine awp_seq ?_
    refine awp_region ?_
    refine al_pure rfl rfl rfl (pure_move rfl (fun _ => rfl)) ?_
    refine al_pure rfl rfl rfl (pure_assign rfl (fun _ => rfl)) ?_
    refine al_nil ?_
    refine awp_ret ?_
    repeat (first | refine thenS_ret ?_ | refine blockS_ret ?_)
    refine ret_ok rfl ?_ trivial
    refine xi_eq ?_
    rw [validE, if_pos (by simpa using hc)]
  · have hz : t.nodesE = 0 := by simpa using hc
    have q4 := q1.2.2 hz
    have q5 := q2 hz
    refine awp_skip ?_
    refine awp_seq ?_
    refine awp_seq ?_
    refine awp_region ?_
    refine al_pure rfl rfl rfl (pure_loadBox rfl (fun _ => rfl) rfl rfl rfl rfl) ?_
    refine al_pure rfl rfl rfl (pure_cmp rfl rfl (fun _ => rfl) (fun _ => rfl) rfl) ?_
    refine al_pure rfl rfl rfl (pure_move rfl (fun _ => rfl)) ?_
    refine al_pure rfl rfl rfl (pure_loadBox rfl (fun _ => rfl) rfl rfl rfl rfl) ?_
    refine al_pure rfl rfl rfl (pure_cmp rfl rfl (fun hh => hh) (fun _ => rfl) rfl) ?_
    refine al_pure rfl rfl rfl (pure_or rfl rfl (fun _ => rfl) (fun _ hi => gP rfl hi)) ?_
    refine al_nil ?_
    refine awp_cond rfl (fun hc2 => ?_) (fun hc2 => ?_)
    · refine awp_seq ?_
      refine awp_region ?_
      refine al_pure rfl rfl rfl (pure_assign rfl (fun _ => rfl)) ?_
      refine al_nil ?_
      refine awp_ret ?_
      repeat (first | refine thenS_ret ?_ | refine blockS_ret ?_)
      refine ret_ok rfl ?_ trivial
      refine xi_eq ?_
      simp only [Bool.or_eq_true, decide_eq_true_eq] at hc2
      rw [validE, if_neg (by simpa using hz), if_pos (by omega)]
    · refine awp_skip ?_
      refine awp_seq ?_
      refine awp_region ?_
      refine al_pure rfl rfl rfl (pure_assign rfl (fun _ => rfl)) ?_
      refine al_nil ?_
      refine awp_ret ?_
      repeat (first | refine thenS_ret ?_ | refine blockS_ret ?_)
      refine ret_ok rfl ?_ trivial
      refine xi_eq ?_
      simp only [Bool.or_eq_false_iff, decide_eq_false_iff_not] at hc2
      rw [validE, if_neg (by simpa using hz), if_neg (by omega)]
end Go.Proofs.Ytginljdgdllhfaa
