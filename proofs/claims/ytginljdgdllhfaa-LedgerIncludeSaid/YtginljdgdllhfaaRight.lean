/- Contracts: the errors of logs. -/
import Derived.Test.YtginljdgdllhfaaHead2
set_option linter.unusedVariables false
set_option linter.unusedSimpArgs false
namespace Go.Proofs.Ytginljdgdllhfaa
open Go Go.Abs
def firstV : List T → Int
  | [] => 0
  | t :: ts => if validE t ≠ 0 then validE t else firstV ts
def rightE (l : List T) : Int := if 32 < l.length then 3 else firstV l
def largeE (t : T) : Int := if validE t ≠ 0 then 3 else 0
theorem firstV_hit : ∀ (ts : List T) (k : Nat) (x : T), ts[k]? = some x → firstV (ts.take k) = 0 → validE x ≠ 0 → firstV ts = validE x
  | [], k, x, h, _, _ => by simp at h
  | t :: ts, 0, x, h, _, hx => by simp at h; subst h; rw [firstV, if_pos hx]
  | t :: ts, k + 1, x, h, h0, hx => by
    rw [List.take_succ_cons, firstV] at h0
    rw [firstV]
    by_cases ht : validE t = 0
    · rw [if_neg (by simpa using ht)] at h0
      rw [if_neg (by simpa using ht)]
      exact firstV_hit ts k x (by simpa using h) h0 hx
    · rw [if_pos ht] at h0; exact absurd h0 ht
theorem firstV_step : ∀ (ts : List T) (k : Nat) (x : T), ts[k]? = some x → firstV (ts.take k) = 0 → validE x = 0 → firstV (ts.take (k + 1)) = 0
  | [], k, x, h, _, _ => by simp at h
  | t :: ts, 0, x, h, _, hx => by simp at h; subst h; simp [firstV, hx]
  | t :: ts, k + 1, x, h, h0, hx => by
    rw [List.take_succ_cons, firstV] at h0
    rw [List.take_succ_cons, firstV]
    by_cases ht : validE t = 0
    · rw [if_neg (by simpa using ht)] at h0
      rw [if_neg (by simpa using ht)]
      exact firstV_step ts k x (by simpa using h) h0 hx
    · rw [if_pos ht] at h0; exact absurd h0 ht
theorem sizes_append : ∀ a b : List T, T.sizes (a ++ b) = T.sizes a + T.sizes b
  | [], b => by simp [T.sizes]
  | t :: a, b => by have := sizes_append a b; simp only [List.cons_append, T.sizes]; omega
theorem sizes_split (l : List T) (k : Nat) : T.sizes (l.take k) + T.sizes (l.drop k) = T.sizes l := by
  rw [← sizes_append, List.take_append_drop]
theorem size_get : ∀ (l : List T) (k : Nat) (x : T), l[k]? = some x → x.size ≤ T.sizes l
  | [], k, x, h => by simp at h
  | t :: l, 0, x, h => by simp at h; subst h; simp [T.sizes]
  | t :: l, k + 1, x, h => by have := size_get l k x (by simpa using h); simp only [T.sizes]; omega
theorem leafT_size (t : T) : (leafT t).size = t.size + 3 := by
  simp only [leafT, hashT, T.app, T.atom, T.size, T.sizes]; omega
theorem nodeT_size (a b : T) : (nodeT a b).size = a.size + b.size + 4 := by
  simp only [nodeT, hashT, T.app, T.atom, T.size, T.sizes]; omega
theorem headF_size : ∀ (f : Nat) (l : List T), l.length ≤ f → 1 ≤ l.length → (headF f l).size + 4 ≤ T.sizes l + 7 * l.length
  | 0, l, h, h1 => by omega
  | f + 1, l, h, h1 => by
    match l with
    | [] => simp at h1
    | [t] => simp only [headF]; rw [leafT_size]; simp [T.sizes]
    | a :: b :: r =>
      have hb := half_bound (n := (a :: b :: r).length) (by simp)
      rw [headF.eq_4 _ _ (by simp) (by simp), nodeT_size]
      have q1 := headF_size f ((a :: b :: r).take (half (a :: b :: r).length)) (by rw [List.length_take]; omega) (by rw [List.length_take]; omega)
      have q2 := headF_size f ((a :: b :: r).drop (half (a :: b :: r).length)) (by rw [List.length_drop]; omega) (by rw [List.length_drop]; omega)
      have q3 := sizes_split (a :: b :: r) (half (a :: b :: r).length)
      rw [List.length_take] at q1
      rw [List.length_drop] at q2
      generalize (a :: b :: r).length = n at *
      generalize half n = k at *
      omega
theorem headT_size (l : List T) : (headT l).size ≤ T.sizes l + 7 * l.length + 2 := by
  by_cases h : 1 ≤ l.length
  · have := headF_size _ l (Nat.le_refl _) h
    unfold headT; omega
  · have : l = [] := List.eq_nil_of_length_eq_zero (by omega)
    subst this
    simp [headT, headF, T.app, T.atom, T.size, T.sizes]

def entriesS (l : List T) (k : Nat) : St := { t := [(0, true, xl l), (3, true, xi k)], bx := [], ow := [] }
theorem entries_spec (l : List T) (h : T.sizes l ≤ 900000) : Ctr sys 37 [xl l] [] (xi (rightE l)) none [] := by
  refine spec_intro Try.func37 rfl rfl rfl rfl rfl rfl ?_
  refine awp_seq ?_
  refine awp_region ?_
  refine al_pure rfl rfl rfl (pure_assign rfl (fun _ => rfl)) ?_
  refine al_nil ?_
  refine awp_seq ?_
  refine awp_seq ?_
  refine awp_region ?_
  refine al_pure rfl rfl rfl (pure_move rfl (fun _ => rfl)) ?_
  refine al_lenSl rfl rfl rfl rfl rfl (fun _ => rfl) rfl rfl ?_ (fun hh => by simp at hh); intro hlen
  refine al_pure rfl rfl rfl (pure_cmp rfl rfl (fun _ => rfl) (fun _ => rfl) rfl) ?_
  refine al_nil ?_
  rw [T.rows_len] at hlen
  refine awp_cond rfl (fun hc => ?_) (fun hc => ?_)
  · refine awp_seq ?_
    refine awp_region ?_
    refine al_pure rfl rfl rfl (pure_assign rfl (fun _ => rfl)) ?_
    refine al_nil ?_
    refine awp_ret ?_
    repeat (first | refine thenS_ret ?_ | refine blockS_ret ?_)
    refine ret_ok rfl ?_ trivial
    refine xi_eq ?_
    rw [T.rows_len] at hc
    simp only [decide_eq_true_eq] at hc
    rw [rightE, if_pos (by omega)]
  · rw [T.rows_len] at hc
    simp only [decide_eq_false_iff_not] at hc
    have hR : rightE l = firstV l := by rw [rightE, if_neg (by omega)]
    refine awp_skip ?_
    refine awp_seq ?_
    refine awp_seq ?_
    refine awp_region ?_
    refine al_pure rfl rfl rfl (pure_assign rfl (fun _ => rfl)) ?_
    refine al_nil ?_
    refine awp_block ?_
    refine awp_loop (entriesS l) (fun k => k ≤ l.length ∧ firstV (l.take k) = 0) (fun k => l.length - k) 0 ⟨Nat.zero_le _, by simp [firstV]⟩ ?_ ?_
    · refine sub_mk ⟨⟨_, rfl, rfl⟩, ⟨_, rfl, rfl⟩, trivial⟩ trivial trivial
    · rintro k ⟨hk, h0⟩
      refine awp_seq ?_
      refine awp_seq ?_
      refine awp_region ?_
      refine al_pure rfl rfl rfl (pure_move rfl (fun _ => rfl)) ?_
      refine al_pure rfl rfl rfl (pure_move rfl (fun _ => rfl)) ?_
      refine al_lenSl rfl rfl rfl rfl rfl (fun _ => rfl) rfl rfl ?_ (fun hh => by simp at hh); intro hlen
      refine al_pure rfl rfl rfl (pure_cmp rfl rfl (fun _ => rfl) (fun _ => rfl) rfl) ?_
      refine al_nil ?_
      refine awp_cond rfl (fun hc2 => ?_) (fun hc2 => ?_)
      · rw [T.rows_len] at hc2
        have hlt : k < l.length := by simpa using hc2
        obtain ⟨x, hx⟩ : ∃ x, l[k]? = some x := ⟨_, List.getElem?_eq_getElem hlt⟩
        have h3 := size_get _ _ _ hx
        refine awp_skip ?_
        refine awp_seq ?_
        refine awp_block ?_
        refine awp_seq ?_
        refine awp_region ?_
        refine al_pure rfl rfl rfl (pure_move rfl (fun _ => rfl)) ?_
        refine al_pure rfl rfl rfl (pure_move rfl (fun _ => rfl)) ?_
        refine al_pure rfl rfl rfl (pure_indexAddr rfl rfl (fun _ => rfl) (fun _ => rfl) rfl rfl rfl (fun _ => T.rows_get hx)) ?_
        refine al_pure rfl rfl rfl (pure_loadRoRow rfl (fun _ => rfl) rfl rfl rfl rfl) ?_
        refine al_call rfl rfl rfl rfl rfl rfl (fun _ => rfl) (fun _ => rfl) (valid_spec x (by omega)) rfl ?_
        refine al_pure rfl rfl rfl (pure_assign rfl (fun _ => rfl)) ?_
        refine al_nil ?_
        refine awp_sub (s := { t := [(0, _, _), (3, _, _), (4, _, _), (8, _, _), (9, _, _), (10, _, _), (11, _, _), (14, _, _), (15, _, _), (16, _, _), (17, _, _), (18, _, _)], bx := [], ow := [] }) (sub_mk (⟨⟨_, rfl, rfl⟩, ⟨⟨_, rfl, rfl⟩, ⟨⟨_, rfl, rfl⟩, ⟨⟨_, rfl, rfl⟩, ⟨⟨_, rfl, rfl⟩, ⟨⟨_, rfl, rfl⟩, ⟨⟨_, rfl, rfl⟩, ⟨⟨_, rfl, rfl⟩, ⟨⟨_, rfl, rfl⟩, ⟨⟨_, rfl, rfl⟩, ⟨⟨_, rfl, rfl⟩, ⟨⟨_, rfl, rfl⟩, trivial⟩⟩⟩⟩⟩⟩⟩⟩⟩⟩⟩⟩) trivial trivial) ?_
        refine awp_seq ?_
        refine awp_region ?_
        refine al_pure rfl rfl rfl (pure_move rfl (fun _ => rfl)) ?_
        refine al_pure rfl rfl rfl (pure_cmp rfl rfl (fun _ => rfl) (fun _ => rfl) rfl) ?_
        refine al_nil ?_
        refine awp_cond rfl (fun hc3 => ?_) (fun hc3 => ?_)
        · refine awp_seq ?_
          refine awp_region ?_
          refine al_pure rfl rfl rfl (pure_move rfl (fun _ => rfl)) ?_
          refine al_pure rfl rfl rfl (pure_assign rfl (fun _ => rfl)) ?_
          refine al_nil ?_
          refine awp_ret ?_
          repeat (first | refine thenS_ret ?_ | refine blockS_ret ?_)
          refine ret_ok rfl ?_ trivial
          refine xi_eq ?_
          rw [hR, firstV_hit _ _ _ hx h0 (by simpa using hc3)]
        · refine awp_skip ?_
          refine awp_region ?_
          refine al_pure rfl rfl rfl (pure_move rfl (fun _ => rfl)) ?_
          refine al_pure rfl rfl rfl (pure_arith rfl rfl (fun _ => rfl) (fun _ => rfl) rfl (IntWalk.i64_in _ (by omega))) ?_
          refine al_pure rfl rfl rfl (pure_assign rfl (fun _ => rfl)) ?_
          refine al_nil ?_
          refine ⟨k + 1, ⟨by omega, firstV_step _ _ _ hx h0 (by simpa using hc3)⟩, by omega, ?_⟩
          refine sub_mk ⟨⟨_, rfl, rfl⟩, ⟨_, rfl, rfl⟩, trivial⟩ trivial trivial
      · refine awp_exit ?_
        repeat (first | refine thenS_exit ?_ | refine blockS_hit ?_ | refine blockS_miss rfl ?_)
        refine awp_seq ?_
        refine awp_region ?_
        refine al_pure rfl rfl rfl (pure_assign rfl (fun _ => rfl)) ?_
        refine al_nil ?_
        refine awp_ret ?_
        repeat (first | refine thenS_ret ?_ | refine blockS_ret ?_)
        refine ret_ok rfl ?_ trivial
        rw [T.rows_len] at hc2
        have : k = l.length := by simp at hc2; omega
        subst this
        rw [List.take_length] at h0
        exact xi_eq (by rw [hR, h0])
def rightS (l : List T) (k : Nat) : St := { t := [(9, true, xl l), (10, true, xi (T.rows l).length), (11, true, xi k)], bx := [], ow := [] }
theorem right_spec (l : List T) (h : T.sizes l ≤ 900000) : Ctr sys 33 [xl l] [] (xi (rightE l)) none [] := by
  refine spec_intro Try.func33 rfl rfl rfl rfl rfl rfl ?_
  refine awp_seq ?_
  refine awp_region ?_
  refine al_pure rfl rfl rfl (pure_assign rfl (fun _ => rfl)) ?_
  refine al_nil ?_
  refine awp_seq ?_
  refine awp_seq ?_
  refine awp_region ?_
  refine al_pure rfl rfl rfl (pure_move rfl (fun _ => rfl)) ?_
  refine al_lenSl rfl rfl rfl rfl rfl (fun _ => rfl) rfl rfl ?_ (fun hh => by simp at hh); intro hlen
  refine al_pure rfl rfl rfl (pure_cmp rfl rfl (fun _ => rfl) (fun _ => rfl) rfl) ?_
  refine al_nil ?_
  rw [T.rows_len] at hlen
  refine awp_cond rfl (fun hc => ?_) (fun hc => ?_)
  · refine awp_seq ?_
    refine awp_region ?_
    refine al_pure rfl rfl rfl (pure_assign rfl (fun _ => rfl)) ?_
    refine al_nil ?_
    refine awp_ret ?_
    repeat (first | refine thenS_ret ?_ | refine blockS_ret ?_)
    refine ret_ok rfl ?_ trivial
    refine xi_eq ?_
    rw [T.rows_len] at hc
    simp only [decide_eq_true_eq] at hc
    rw [rightE, if_pos (by omega)]
  · rw [T.rows_len] at hc
    simp only [decide_eq_false_iff_not] at hc
    have hR : rightE l = firstV l := by rw [rightE, if_neg (by omega)]
    refine awp_skip ?_
    refine awp_seq ?_
    refine awp_seq ?_
    refine awp_region ?_
    refine al_pure rfl rfl rfl (pure_move rfl (fun _ => rfl)) ?_
    refine al_lenSl rfl rfl rfl rfl rfl (fun _ => rfl) rfl rfl ?_ (fun hh => by simp at hh); intro hlen
    refine al_pure rfl rfl rfl (pure_move rfl (fun _ => rfl)) ?_
    refine al_nil ?_
    refine awp_block ?_
    refine awp_loop (rightS l) (fun k => k ≤ l.length ∧ firstV (l.take k) = 0) (fun k => l.length - k) 0 ⟨Nat.zero_le _, by simp [firstV]⟩ ?_ ?_
    · refine sub_mk ⟨⟨_, rfl, rfl⟩, ⟨_, rfl, rfl⟩, ⟨_, rfl, rfl⟩, trivial⟩ trivial trivial
    · rintro k ⟨hk, h0⟩
      refine awp_seq ?_
      refine awp_region ?_
      refine al_pure rfl rfl rfl (pure_cmp rfl rfl (fun _ => rfl) (fun _ => rfl) rfl) ?_
      refine al_nil ?_
      refine awp_seq ?_
      refine awp_cond rfl (fun hc2 => ?_) (fun hc2 => ?_)
      · rw [T.rows_len] at hc2
        have hlt : k < l.length := by simpa using hc2
        obtain ⟨x, hx⟩ : ∃ x, l[k]? = some x := ⟨_, List.getElem?_eq_getElem hlt⟩
        have h3 := size_get _ _ _ hx
        refine awp_skip ?_
        refine awp_seq ?_
        refine awp_block ?_
        refine awp_seq ?_
        refine awp_region ?_
        refine al_pure rfl rfl rfl (pure_indexAddr rfl rfl (fun _ => rfl) (fun _ => rfl) rfl rfl rfl (fun _ => T.rows_get hx)) ?_
        refine al_pure rfl rfl rfl (pure_loadRoRow rfl (fun _ => rfl) rfl rfl rfl rfl) ?_
        refine al_do rfl (does_alloc rfl rfl rfl) ?_
        refine al_do rfl (does_store rfl rfl rfl rfl rfl rfl rfl) ?_
        refine al_nil ?_
        refine awp_seq ?_
        refine awp_region ?_
        refine al_pure rfl rfl rfl (pure_loadBoxRow rfl (fun _ => rfl) rfl rfl rfl rfl rfl) ?_
        refine al_call rfl rfl rfl rfl rfl rfl (fun _ => rfl) (fun _ => rfl) (tvalid_spec x (by omega)) rfl ?_
        refine al_pure rfl rfl rfl (pure_assign rfl (fun _ => rfl)) ?_
        refine al_nil ?_
        refine awp_seq ?_
        refine awp_region ?_
        refine al_pure rfl rfl rfl (pure_move rfl (fun _ => rfl)) ?_
        refine al_pure rfl rfl rfl (pure_cmp rfl rfl (fun _ => rfl) (fun _ => rfl) rfl) ?_
        refine al_nil ?_
        refine awp_sub (s := { t := [(4, _, _), (5, _, _), (9, _, _), (10, _, _), (11, _, _), (12, _, _), (13, _, _), (14, _, _), (15, _, _), (16, _, _), (17, _, _), (18, _, _)], bx := [((.l 4), _)], ow := [] }) (sub_mk (⟨⟨_, rfl, rfl⟩, ⟨⟨_, rfl, rfl⟩, ⟨⟨_, rfl, rfl⟩, ⟨⟨_, rfl, rfl⟩, ⟨⟨_, rfl, rfl⟩, ⟨⟨_, rfl, rfl⟩, ⟨⟨_, rfl, rfl⟩, ⟨⟨_, rfl, rfl⟩, ⟨⟨_, rfl, rfl⟩, ⟨⟨_, rfl, rfl⟩, ⟨⟨_, rfl, rfl⟩, ⟨⟨_, rfl, rfl⟩, trivial⟩⟩⟩⟩⟩⟩⟩⟩⟩⟩⟩⟩) (⟨⟨_, rfl, rfl⟩, trivial⟩) trivial) ?_
        refine awp_cond rfl (fun hc3 => ?_) (fun hc3 => ?_)
        · refine awp_seq ?_
          refine awp_region ?_
          refine al_pure rfl rfl rfl (pure_move rfl (fun _ => rfl)) ?_
          refine al_pure rfl rfl rfl (pure_assign rfl (fun _ => rfl)) ?_
          refine al_nil ?_
          refine awp_ret ?_
          repeat (first | refine thenS_ret ?_ | refine blockS_ret ?_)
          refine ret_ok rfl ?_ trivial
          refine xi_eq ?_
          rw [hR, firstV_hit _ _ _ hx h0 (by simpa using hc3)]
        · refine awp_skip ?_
          refine awp_region ?_
          refine al_pure rfl rfl rfl (pure_arith rfl rfl (fun _ => rfl) (fun _ => rfl) rfl (IntWalk.i64_in _ (by omega))) ?_
          refine al_pure rfl rfl rfl (pure_move rfl (fun _ => rfl)) ?_
          refine al_nil ?_
          refine ⟨k + 1, ⟨by omega, firstV_step _ _ _ hx h0 (by simpa using hc3)⟩, by omega, ?_⟩
          refine sub_mk ⟨⟨_, rfl, rfl⟩, ⟨_, rfl, rfl⟩, ⟨_, rfl, rfl⟩, trivial⟩ trivial trivial
      · refine awp_exit ?_
        repeat (first | refine thenS_exit ?_ | refine blockS_hit ?_ | refine blockS_miss rfl ?_)
        refine awp_seq ?_
        refine awp_region ?_
        refine al_pure rfl rfl rfl (pure_assign rfl (fun _ => rfl)) ?_
        refine al_nil ?_
        refine awp_ret ?_
        repeat (first | refine thenS_ret ?_ | refine blockS_ret ?_)
        refine ret_ok rfl ?_ trivial
        rw [T.rows_len] at hc2
        have : k = l.length := by simp at hc2; omega
        subst this
        rw [List.take_length] at h0
        exact xi_eq (by rw [hR, h0])
end Go.Proofs.Ytginljdgdllhfaa
