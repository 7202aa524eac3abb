/- Contracts: lists that are small. -/
import Derived.Test.YtginljdgdllhfaaLists
set_option linter.unusedVariables false
set_option linter.unusedSimpArgs false
namespace Go.Proofs.Ytginljdgdllhfaa
open Go Go.Abs
namespace T
mutual
def bud : T → Int → Int
  | mk _ nm _ ks, m => if m ≤ 0 ∨ 40 < nm.length then -1 else buds ks (m - 1)
def buds : List T → Int → Int
  | [], m => m
  | t :: ts, m => if bud t m < 0 then -1 else buds ts (bud t m)
end
theorem bud_eq (t : T) (m : Int) : t.bud m = if m ≤ 0 ∨ 40 < t.name.length then -1 else buds t.kids (m - 1) := by cases t; rw [bud]; rfl
mutual
theorem bud_le : ∀ (t : T) (m : Int), 0 ≤ t.bud m → t.bud m + t.size ≤ m
  | mk _ nm _ ks, m, h => by
    rw [bud] at h ⊢
    rw [size]
    split at h
    · omega
    · rename_i hn
      rw [if_neg hn]
      have := buds_le ks (m - 1) h
      omega
theorem buds_le : ∀ (ts : List T) (m : Int), 0 ≤ buds ts m → buds ts m + sizes ts ≤ m
  | [], m, _ => by rw [buds, sizes]; omega
  | t :: ts, m, h => by
    rw [buds] at h ⊢
    rw [sizes]
    split at h
    · omega
    · rename_i hn
      rw [if_neg hn]
      have h1 := bud_le t m (by omega)
      have h2 := buds_le ts (t.bud m) h
      omega
end
theorem buds_step : ∀ (ts : List T) (k : Nat) (x : T) (m : Int), ts[k]? = some x → 0 ≤ buds (ts.take k) m → 0 ≤ x.bud (buds (ts.take k) m) → buds (ts.take (k + 1)) m = x.bud (buds (ts.take k) m)
  | [], k, x, m, h, _, _ => by simp at h
  | t :: ts, 0, x, m, h, h0, hx => by
    simp at h; subst h
    simp only [List.take_zero, buds] at hx ⊢
    simp only [List.take_succ_cons, List.take_zero, buds]
    rw [if_neg (by omega)]
  | t :: ts, k + 1, x, m, h, h0, hx => by
    rw [List.take_succ_cons, buds] at h0 hx ⊢
    rw [List.take_succ_cons, buds]
    split at h0
    · omega
    · rename_i hn
      rw [if_neg hn] at hx ⊢
      rw [if_neg hn]
      exact buds_step ts k x _ (by simpa using h) h0 hx
theorem buds_hit : ∀ (ts : List T) (k : Nat) (x : T) (m : Int), ts[k]? = some x → 0 ≤ buds (ts.take k) m → x.bud (buds (ts.take k) m) < 0 → buds ts m = -1
  | [], k, x, m, h, _, _ => by simp at h
  | t :: ts, 0, x, m, h, h0, hx => by
    simp at h; subst h
    simp only [List.take_zero, buds] at hx
    rw [buds, if_pos hx]
  | t :: ts, k + 1, x, m, h, h0, hx => by
    rw [List.take_succ_cons, buds] at h0 hx
    rw [buds]
    split at h0
    · omega
    · rename_i hn
      rw [if_neg hn] at hx ⊢
      exact buds_hit ts k x _ (by simpa using h) h0 hx
end T
def fewB (l : List T) (n : Nat) (m : Int) : Bool := decide (l.length ≤ n) && decide (0 ≤ T.buds l m)
theorem fewB_sizes {l : List T} {n : Nat} {m : Int} (h : fewB l n m = true) : l.length ≤ n ∧ T.sizes l ≤ m := by
  simp only [fewB, Bool.and_eq_true, decide_eq_true_eq] at h
  have := T.buds_le l m h.2
  exact ⟨h.1, by omega⟩
def budS (t : T) (m : Int) (k : Nat) : St := { t := [(1, true, xi (T.buds (t.kids.take k) (m - 1))), (2, true, .v (.ptr (.l 2) 0)), (5, true, xi k)], bx := [(.l 2, t.cells)], ow := [] }
theorem budget_spec : ∀ (n : Nat) (t : T) (m : Int), m ≤ n → n ≤ 1000000 → -1000000 ≤ m → Ctr sys 55 [xt t, xi m] [] (xi (t.bud m)) none [] := by
  intro n
  induction n with
  | zero =>
    intro t m hm _ _
    refine spec_intro Try.func55 rfl rfl rfl rfl rfl rfl ?_
    refine awp_seq ?_
    refine awp_region ?_
    refine al_do rfl (does_box rfl rfl rfl rfl) ?_
    refine al_pure rfl rfl rfl (pure_assign rfl (fun _ => rfl)) ?_
    refine al_nil ?_
    refine awp_seq ?_
    refine awp_seq ?_
    refine awp_region ?_
    refine al_pure rfl rfl rfl (pure_move rfl (fun _ => rfl)) ?_
    refine al_pure rfl rfl rfl (pure_cmp rfl rfl (fun _ => rfl) (fun _ => rfl) rfl) ?_
    refine al_pure rfl rfl rfl (pure_move rfl (fun _ => rfl)) ?_
    refine al_pure rfl rfl rfl (pure_fieldPtr rfl (fun _ => rfl) rfl rfl) ?_
    refine al_pure rfl rfl rfl (pure_loadBox rfl (fun hh => hh) rfl rfl rfl rfl) ?_
    refine al_pure rfl rfl rfl (pure_lenS rfl (fun hh => hh) (Try.underlying9)) ?_
    refine al_pure rfl rfl rfl (pure_cmp rfl rfl (fun hh => hh) (fun _ => rfl) rfl) ?_
    refine al_pure rfl rfl rfl (pure_or rfl rfl (fun _ => rfl) (fun _ hi => gP rfl hi)) ?_
    refine al_nil ?_
    refine awp_sub (s := { t := [(1, _, _), (2, _, _), (4, _, _), (13, _, _)], bx := [((.l 2), _)], ow := [] }) (sub_mk (⟨⟨_, rfl, rfl⟩, ⟨⟨_, rfl, rfl⟩, ⟨⟨_, rfl, rfl⟩, ⟨⟨_, rfl, rfl⟩, trivial⟩⟩⟩⟩) (⟨⟨_, rfl, rfl⟩, trivial⟩) trivial) ?_
    refine awp_cond rfl (fun hc => ?_) (fun hc => ?_)
    · refine awp_seq ?_
      refine awp_region ?_
      refine al_pure rfl rfl rfl (pure_assign rfl (fun _ => rfl)) ?_
      refine al_nil ?_
      refine awp_ret ?_
      repeat (first | refine thenS_ret ?_ | refine blockS_ret ?_)
      refine ret_ok rfl ?_ trivial
      refine xi_eq ?_
      rw [T.bud_eq, if_pos (by omega)]
    · simp only [Bool.or_eq_false_iff, decide_eq_false_iff_not] at hc
      omega
  | succ n ih =>
    intro t m hm hn hm2
    refine spec_intro Try.func55 rfl rfl rfl rfl rfl rfl ?_
    refine awp_seq ?_
    refine awp_region ?_
    refine al_do rfl (does_box rfl rfl rfl rfl) ?_
    refine al_pure rfl rfl rfl (pure_assign rfl (fun _ => rfl)) ?_
    refine al_nil ?_
    refine awp_seq ?_
    refine awp_seq ?_
    refine awp_region ?_
    refine al_pure rfl rfl rfl (pure_move rfl (fun _ => rfl)) ?_
    refine al_pure rfl rfl rfl (pure_cmp rfl rfl (fun _ => rfl) (fun _ => rfl) rfl) ?_
    refine al_pure rfl rfl rfl (pure_move rfl (fun _ => rfl)) ?_
    refine al_pure rfl rfl rfl (pure_fieldPtr rfl (fun _ => rfl) rfl rfl) ?_
    refine al_pure rfl rfl rfl (pure_loadBox rfl (fun hh => hh) rfl rfl rfl rfl) ?_
    refine al_pure rfl rfl rfl (pure_lenS rfl (fun hh => hh) (Try.underlying9)) ?_
    refine al_pure rfl rfl rfl (pure_cmp rfl rfl (fun hh => hh) (fun _ => rfl) rfl) ?_
    refine al_pure rfl rfl rfl (pure_or rfl rfl (fun _ => rfl) (fun _ hi => gP rfl hi)) ?_
    refine al_nil ?_
    refine awp_sub (s := { t := [(1, _, _), (2, _, _), (4, _, _), (13, _, _)], bx := [((.l 2), _)], ow := [] }) (sub_mk (⟨⟨_, rfl, rfl⟩, ⟨⟨_, rfl, rfl⟩, ⟨⟨_, rfl, rfl⟩, ⟨⟨_, rfl, rfl⟩, trivial⟩⟩⟩⟩) (⟨⟨_, rfl, rfl⟩, trivial⟩) trivial) ?_
    refine awp_cond rfl (fun hc => ?_) (fun hc => ?_)
    · refine awp_seq ?_
      refine awp_region ?_
      refine al_pure rfl rfl rfl (pure_assign rfl (fun _ => rfl)) ?_
      refine al_nil ?_
      refine awp_ret ?_
      repeat (first | refine thenS_ret ?_ | refine blockS_ret ?_)
      refine ret_ok rfl ?_ trivial
      refine xi_eq ?_
      simp only [Bool.or_eq_true, decide_eq_true_eq] at hc
      rw [T.bud_eq, if_pos (by omega)]
    · simp only [Bool.or_eq_false_iff, decide_eq_false_iff_not] at hc
      have hB : t.bud m = T.buds t.kids (m - 1) := by rw [T.bud_eq, if_neg (by omega)]
      refine awp_skip ?_
      refine awp_seq ?_
      refine awp_region ?_
      refine al_pure rfl rfl rfl (pure_move rfl (fun _ => rfl)) ?_
      refine al_pure rfl rfl rfl (pure_arith rfl rfl (fun _ => rfl) (fun _ => rfl) rfl (IntWalk.i64_in _ (by omega))) ?_
      refine al_pure rfl rfl rfl (pure_assign rfl (fun _ => rfl)) ?_
      refine al_nil ?_
      refine awp_seq ?_
      refine awp_seq ?_
      refine awp_region ?_
      refine al_pure rfl rfl rfl (pure_assign rfl (fun _ => rfl)) ?_
      refine al_nil ?_
      refine awp_block ?_
      refine awp_loop (budS t m) (fun k => k ≤ t.kids.length ∧ 0 ≤ T.buds (t.kids.take k) (m - 1)) (fun k => t.kids.length - k) 0 ⟨Nat.zero_le _, by simp [T.buds]; omega⟩ ?_ ?_
      · refine sub_mk ⟨⟨_, rfl, rfl⟩, ⟨_, rfl, rfl⟩, ⟨_, rfl, rfl⟩, trivial⟩ ⟨⟨_, rfl, rfl⟩, trivial⟩ trivial
      · rintro k ⟨hk, hz⟩
        have hbl := T.buds_le _ _ hz
        refine awp_seq ?_
        refine awp_seq ?_
        refine awp_region ?_
        refine al_pure rfl rfl rfl (pure_move rfl (fun _ => rfl)) ?_
        refine al_pure rfl rfl rfl (pure_fieldPtr rfl (fun _ => rfl) rfl rfl) ?_
        refine al_pure rfl rfl rfl (pure_loadBox rfl (fun _ => rfl) rfl rfl rfl rfl) ?_
        refine al_lenSl rfl rfl rfl rfl rfl (fun _ => rfl) rfl rfl ?_ (fun hh => by simp at hh); intro hlen
        refine al_pure rfl rfl rfl (pure_cmp rfl rfl (fun _ => rfl) (fun _ => rfl) rfl) ?_
        refine al_nil ?_
        refine awp_cond rfl (fun hc2 => ?_) (fun hc2 => ?_)
        · rw [T.rows_len] at hlen hc2
          have hlt : k < t.kids.length := by simpa using hc2
          obtain ⟨x, hx⟩ : ∃ x, t.kids[k]? = some x := ⟨_, List.getElem?_eq_getElem hlt⟩
          refine awp_skip ?_
          refine awp_seq ?_
          refine awp_block ?_
          refine awp_seq ?_
          refine awp_region ?_
          refine al_pure rfl rfl rfl (pure_fieldPtr rfl (fun _ => rfl) rfl rfl) ?_
          refine al_pure rfl rfl rfl (pure_loadBox rfl (fun _ => rfl) rfl rfl rfl rfl) ?_
          refine al_pure rfl rfl rfl (pure_move rfl (fun _ => rfl)) ?_
          refine al_pure rfl rfl rfl (pure_indexAddr rfl rfl (fun _ => rfl) (fun _ => rfl) rfl rfl rfl (fun _ => T.rows_get hx)) ?_
          refine al_pure rfl rfl rfl (pure_loadRoRow rfl (fun _ => rfl) rfl rfl rfl rfl) ?_
          refine al_pure rfl rfl rfl (pure_move rfl (fun _ => rfl)) ?_
          refine al_call rfl rfl rfl rfl rfl rfl (fun _ => rfl) (fun _ => rfl) (ih x _ (by omega) (by omega) (by omega)) rfl ?_
          refine al_pure rfl rfl rfl (pure_assign rfl (fun _ => rfl)) ?_
          refine al_nil ?_
          refine awp_sub (s := { t := [(1, _, _), (2, _, _), (5, _, _), (16, _, _), (17, _, _), (18, _, _), (19, _, _), (20, _, _), (23, _, _), (24, _, _), (25, _, _), (26, _, _), (27, _, _), (28, _, _), (29, _, _)], bx := [((.l 2), _)], ow := [] }) (sub_mk (⟨⟨_, rfl, rfl⟩, ⟨⟨_, rfl, rfl⟩, ⟨⟨_, rfl, rfl⟩, ⟨⟨_, rfl, rfl⟩, ⟨⟨_, rfl, rfl⟩, ⟨⟨_, rfl, rfl⟩, ⟨⟨_, rfl, rfl⟩, ⟨⟨_, rfl, rfl⟩, ⟨⟨_, rfl, rfl⟩, ⟨⟨_, rfl, rfl⟩, ⟨⟨_, rfl, rfl⟩, ⟨⟨_, rfl, rfl⟩, ⟨⟨_, rfl, rfl⟩, ⟨⟨_, rfl, rfl⟩, ⟨⟨_, rfl, rfl⟩, trivial⟩⟩⟩⟩⟩⟩⟩⟩⟩⟩⟩⟩⟩⟩⟩) (⟨⟨_, rfl, rfl⟩, trivial⟩) trivial) ?_
          refine awp_seq ?_
          refine awp_region ?_
          refine al_pure rfl rfl rfl (pure_move rfl (fun _ => rfl)) ?_
          refine al_pure rfl rfl rfl (pure_cmp rfl rfl (fun _ => rfl) (fun _ => rfl) rfl) ?_
          refine al_nil ?_
          refine awp_cond rfl (fun hc3 => ?_) (fun hc3 => ?_)
          · refine awp_seq ?_
            refine awp_region ?_
            refine al_pure rfl rfl rfl (pure_assign rfl (fun _ => rfl)) ?_
            refine al_nil ?_
            refine awp_ret ?_
            repeat (first | refine thenS_ret ?_ | refine blockS_ret ?_)
            refine ret_ok rfl ?_ trivial
            refine xi_eq ?_
            simp only [decide_eq_true_eq] at hc3
            rw [hB, T.buds_hit _ _ _ _ hx hz hc3]
          · simp only [decide_eq_false_iff_not] at hc3
            have hst := T.buds_step _ _ _ _ hx hz (by omega)
            refine awp_skip ?_
            refine awp_region ?_
            refine al_pure rfl rfl rfl (pure_move rfl (fun _ => rfl)) ?_
            refine al_pure rfl rfl rfl (pure_arith rfl rfl (fun _ => rfl) (fun _ => rfl) rfl (IntWalk.i64_in _ (by omega))) ?_
            refine al_pure rfl rfl rfl (pure_assign rfl (fun _ => rfl)) ?_
            refine al_nil ?_
            refine ⟨k + 1, ⟨by omega, by rw [hst]; omega⟩, by omega, ?_⟩
            refine sub_mk ⟨⟨_, rfl, by rw [hst]⟩, ⟨_, rfl, rfl⟩, ⟨_, rfl, rfl⟩, trivial⟩ ⟨⟨_, rfl, rfl⟩, trivial⟩ trivial
        · refine awp_exit ?_
          repeat (first | refine thenS_exit ?_ | refine blockS_hit ?_ | refine blockS_miss rfl ?_)
          refine awp_seq ?_
          refine awp_region ?_
          refine al_pure rfl rfl rfl (pure_move rfl (fun _ => rfl)) ?_
          refine al_pure rfl rfl rfl (pure_assign rfl (fun _ => rfl)) ?_
          refine al_nil ?_
          refine awp_ret ?_
          repeat (first | refine thenS_ret ?_ | refine blockS_ret ?_)
          refine ret_ok rfl ?_ trivial
          rw [T.rows_len] at hc2
          have : k = t.kids.length := by simp at hc2; omega
          subst this
          exact xi_eq (by rw [hB, List.take_length])
def fewS (l : List T) (n : Nat) (m : Int) (k : Nat) : St := { t := [(0, true, xl l), (2, true, xi (T.buds (l.take k) m)), (7, true, xi k)], bx := [], ow := [] }
theorem Few_spec (l : List T) (n : Nat) (m : Nat) (hm : m ≤ 1000000) : Ctr sys 32 [xl l, xi n, xi m] [] (xb (fewB l n m)) none [] := by
  refine spec_intro Try.func32 rfl rfl rfl rfl rfl rfl ?_
  refine awp_seq ?_
  refine awp_region ?_
  refine al_pure rfl rfl rfl (pure_assign rfl (fun _ => rfl)) ?_
  refine al_nil ?_
  refine awp_seq ?_
  refine awp_seq ?_
  refine awp_region ?_
  refine al_pure rfl rfl rfl (pure_move rfl (fun _ => rfl)) ?_
  refine al_lenSl rfl rfl rfl rfl rfl (fun _ => rfl) rfl rfl ?_ (fun hh => by simp at hh); intro hlen
  refine al_pure rfl rfl rfl (pure_move rfl (fun _ => rfl)) ?_
  refine al_pure rfl rfl rfl (pure_cmp rfl rfl (fun _ => rfl) (fun _ => rfl) rfl) ?_
  refine al_nil ?_
  refine awp_cond rfl (fun hc => ?_) (fun hc => ?_)
  · refine awp_seq ?_
    refine awp_region ?_
    refine al_pure rfl rfl rfl (pure_assign rfl (fun _ => rfl)) ?_
    refine al_nil ?_
    refine awp_ret ?_
    repeat (first | refine thenS_ret ?_ | refine blockS_ret ?_)
    refine ret_ok rfl ?_ trivial
    refine xb_eq ?_
    simp only [T.rows_len, decide_eq_true_eq] at hc
    have : ¬ l.length ≤ n := by omega
    simp [fewB, this]
  · simp only [T.rows_len, decide_eq_false_iff_not] at hc
    have hn : l.length ≤ n := by omega
    refine awp_skip ?_
    refine awp_seq ?_
    refine awp_seq ?_
    refine awp_region ?_
    refine al_pure rfl rfl rfl (pure_assign rfl (fun _ => rfl)) ?_
    refine al_nil ?_
    refine awp_block ?_
    refine awp_loop (fewS l n m) (fun k => k ≤ l.length ∧ 0 ≤ T.buds (l.take k) m) (fun k => l.length - k) 0 ⟨Nat.zero_le _, by simp [T.buds]⟩ ?_ ?_
    · refine sub_mk ⟨⟨_, rfl, rfl⟩, ⟨_, rfl, rfl⟩, ⟨_, rfl, rfl⟩, trivial⟩ trivial trivial
    · rintro k ⟨hk, hz⟩
      have hbl := T.buds_le _ _ hz
      refine awp_seq ?_
      refine awp_seq ?_
      refine awp_region ?_
      refine al_pure rfl rfl rfl (pure_move rfl (fun _ => rfl)) ?_
      refine al_pure rfl rfl rfl (pure_move rfl (fun _ => rfl)) ?_
      refine al_lenSl rfl rfl rfl rfl rfl (fun _ => rfl) rfl rfl ?_ (fun hh => by simp at hh); intro hlen
      refine al_pure rfl rfl rfl (pure_cmp rfl rfl (fun _ => rfl) (fun _ => rfl) rfl) ?_
      refine al_nil ?_
      refine awp_cond rfl (fun hc2 => ?_) (fun hc2 => ?_)
      · rw [T.rows_len] at hlen hc2
        have hlt : k < l.length := by simpa using hc2
        obtain ⟨x, hx⟩ : ∃ x, l[k]? = some x := ⟨_, List.getElem?_eq_getElem hlt⟩
        refine awp_skip ?_
        refine awp_seq ?_
        refine awp_block ?_
        refine awp_seq ?_
        refine awp_region ?_
        refine al_pure rfl rfl rfl (pure_move rfl (fun _ => rfl)) ?_
        refine al_pure rfl rfl rfl (pure_move rfl (fun _ => rfl)) ?_
        refine al_pure rfl rfl rfl (pure_indexAddr rfl rfl (fun _ => rfl) (fun _ => rfl) rfl rfl rfl (fun _ => T.rows_get hx)) ?_
        refine al_pure rfl rfl rfl (pure_loadRoRow rfl (fun _ => rfl) rfl rfl rfl rfl) ?_
        refine al_pure rfl rfl rfl (pure_move rfl (fun _ => rfl)) ?_
        refine al_call rfl rfl rfl rfl rfl rfl (fun _ => rfl) (fun _ => rfl) (budget_spec m x _ (by omega) (by omega) (by omega)) rfl ?_
        refine al_pure rfl rfl rfl (pure_assign rfl (fun _ => rfl)) ?_
        refine al_nil ?_
        refine awp_sub (s := { t := [(0, _, _), (2, _, _), (7, _, _), (12, _, _), (13, _, _), (14, _, _), (15, _, _), (18, _, _), (19, _, _), (20, _, _), (21, _, _), (22, _, _), (23, _, _)], bx := [], ow := [] }) (sub_mk (⟨⟨_, rfl, rfl⟩, ⟨⟨_, rfl, rfl⟩, ⟨⟨_, rfl, rfl⟩, ⟨⟨_, rfl, rfl⟩, ⟨⟨_, rfl, rfl⟩, ⟨⟨_, rfl, rfl⟩, ⟨⟨_, rfl, rfl⟩, ⟨⟨_, rfl, rfl⟩, ⟨⟨_, rfl, rfl⟩, ⟨⟨_, rfl, rfl⟩, ⟨⟨_, rfl, rfl⟩, ⟨⟨_, rfl, rfl⟩, ⟨⟨_, rfl, rfl⟩, trivial⟩⟩⟩⟩⟩⟩⟩⟩⟩⟩⟩⟩⟩) trivial trivial) ?_
        refine awp_seq ?_
        refine awp_region ?_
        refine al_pure rfl rfl rfl (pure_move rfl (fun _ => rfl)) ?_
        refine al_pure rfl rfl rfl (pure_cmp rfl rfl (fun _ => rfl) (fun _ => rfl) rfl) ?_
        refine al_nil ?_
        refine awp_cond rfl (fun hc3 => ?_) (fun hc3 => ?_)
        · refine awp_seq ?_
          refine awp_region ?_
          refine al_pure rfl rfl rfl (pure_assign rfl (fun _ => rfl)) ?_
          refine al_nil ?_
          refine awp_ret ?_
          repeat (first | refine thenS_ret ?_ | refine blockS_ret ?_)
          refine ret_ok rfl ?_ trivial
          refine xb_eq ?_
          simp only [decide_eq_true_eq] at hc3
          simp [fewB, T.buds_hit _ _ _ _ hx hz hc3]
        · simp only [decide_eq_false_iff_not] at hc3
          have hst := T.buds_step _ _ _ _ hx hz (by omega)
          refine awp_skip ?_
          refine awp_region ?_
          refine al_pure rfl rfl rfl (pure_move rfl (fun _ => rfl)) ?_
          refine al_pure rfl rfl rfl (pure_arith rfl rfl (fun _ => rfl) (fun _ => rfl) rfl (IntWalk.i64_in _ (by omega))) ?_
          refine al_pure rfl rfl rfl (pure_assign rfl (fun _ => rfl)) ?_
          refine al_nil ?_
          refine ⟨k + 1, ⟨by omega, by rw [hst]; omega⟩, by omega, ?_⟩
          refine sub_mk ⟨⟨_, rfl, rfl⟩, ⟨_, rfl, by rw [hst]⟩, ⟨_, rfl, rfl⟩, trivial⟩ trivial trivial
      · refine awp_exit ?_
        repeat (first | refine thenS_exit ?_ | refine blockS_hit ?_ | refine blockS_miss rfl ?_)
        refine awp_seq ?_
        refine awp_region ?_
        refine al_pure rfl rfl rfl (pure_assign rfl (fun _ => rfl)) ?_
        refine al_nil ?_
        refine awp_ret ?_
        repeat (first | refine thenS_ret ?_ | refine blockS_ret ?_)
        refine ret_ok rfl ?_ trivial
        rw [T.rows_len] at hc2
        have : k = l.length := by simp at hc2; omega
        subst this
        rw [List.take_length] at hz
        exact xb_eq (by simp [fewB, hn, hz])
theorem few_spec (l : List T) : Ctr sys 11 [xl l] [] (xb (fewB l 40 300)) none [] := by
  refine spec_intro Try.func11 rfl rfl rfl rfl rfl rfl ?_
  refine awp_seq ?_
  refine awp_region ?_
  refine al_pure rfl rfl rfl (pure_assign rfl (fun _ => rfl)) ?_
  refine al_nil ?_
  refine awp_seq ?_
  refine awp_region ?_
  refine al_pure rfl rfl rfl (pure_move rfl (fun _ => rfl)) ?_
  refine al_call rfl rfl rfl rfl rfl rfl (fun _ => rfl) (fun _ => rfl) (Few_spec l 40 300 (by omega)) rfl ?_
  refine al_pure rfl rfl rfl (pure_assign rfl (fun _ => rfl)) ?_
  refine al_nil ?_
  refine awp_ret ?_
  repeat (first | refine thenS_ret ?_ | refine blockS_ret ?_)
  refine ret_ok rfl ?_ trivial
  rfl
end Go.Proofs.Ytginljdgdllhfaa
