/- Contracts: the head of a list, on both sides. -/
import Derived.Test.YtginljdgdllhfaaHead
set_option linter.unusedVariables false
set_option linter.unusedSimpArgs false
namespace Go.Proofs.Ytginljdgdllhfaa
open Go Go.Abs
theorem headF_fuel : ∀ (f g : Nat) (l : List T), l.length ≤ f → l.length ≤ g → headF f l = headF g l
  | 0, 0, l, _, _ => rfl
  | 0, g + 1, l, h, _ => by
    have : l = [] := List.eq_nil_of_length_eq_zero (by omega)
    subst this; rfl
  | f + 1, 0, l, _, h => by
    have : l = [] := List.eq_nil_of_length_eq_zero (by omega)
    subst this; rfl
  | f + 1, g + 1, l, h1, h2 => by
    match l with
    | [] => rfl
    | [t] => rfl
    | a :: b :: r =>
      have hb := half_bound (n := (a :: b :: r).length) (by simp)
      rw [headF, headF]
      · rw [headF_fuel f g ((a :: b :: r).take (half (a :: b :: r).length)) (by rw [List.length_take]; omega) (by rw [List.length_take]; omega),
          headF_fuel f g ((a :: b :: r).drop (half (a :: b :: r).length)) (by rw [List.length_drop]; omega) (by rw [List.length_drop]; omega)]
      all_goals simp
theorem headT_eq (l : List T) (h : 2 ≤ l.length) : headT l = nodeT (headT (l.take (half l.length))) (headT (l.drop (half l.length))) := by
  match l with
  | [] => simp at h
  | [t] => simp at h
  | a :: b :: r =>
    have hb := half_bound (n := (a :: b :: r).length) (by simp)
    unfold headT
    conv => lhs; rw [show (a :: b :: r).length = (b :: r).length + 1 from rfl]; rw [headF.eq_4 _ _ (by simp) (by simp)]
    rw [headF_fuel (b :: r).length ((a :: b :: r).take (half (a :: b :: r).length)).length ((a :: b :: r).take (half (a :: b :: r).length)) (by rw [List.length_take]; simp at hb ⊢; omega) (Nat.le_refl _),
      headF_fuel (b :: r).length ((a :: b :: r).drop (half (a :: b :: r).length)).length ((a :: b :: r).drop (half (a :: b :: r).length)) (by rw [List.length_drop]; simp at hb ⊢; omega) (Nat.le_refl _)]
theorem rows_part (l : List T) (i j : Nat) : ((T.rows l).take j).drop i = T.rows ((l.take j).drop i) := by
  simp [T.rows_eq, List.map_take, List.map_drop]

theorem Of_spec : ∀ (n : Nat) (l : List T) (rs : List (List C)), rs = T.rows l → l.length ≤ n → n ≤ 100000 → Ctr sys 23 [.v (.c (.sl 4 rs))] [] (xt (headT l)) none [] := by
  intro n
  induction n with
  | zero =>
    intro l rs hrs hl _
    have : l = [] := List.eq_nil_of_length_eq_zero (by omega)
    subst this
    have hr0 : rs.length = 0 := by rw [hrs]; rfl
    refine spec_intro Try.func23 rfl rfl rfl rfl rfl rfl ?_
    refine awp_seq ?_
    refine awp_region ?_
    refine al_do rfl (does_alloc rfl rfl rfl) ?_
    refine al_nil ?_
    refine awp_seq ?_
    refine awp_seq ?_
    refine awp_region ?_
    refine al_pure rfl rfl rfl (pure_move rfl (fun _ => rfl)) ?_
    refine al_lenSl rfl rfl rfl rfl rfl (fun _ => rfl) rfl rfl ?_ (fun hh => by simp at hh); intro hlen
    refine al_pure rfl rfl rfl (pure_cmp rfl rfl (fun _ => rfl) (fun _ => rfl) rfl) ?_
    refine al_nil ?_
    refine awp_cond rfl (fun hc => ?_) (fun hc => ?_)
    · refine awp_seq ?_
      refine awp_region ?_
      refine al_call rfl rfl rfl rfl rfl rfl (fun _ => rfl) (fun _ => rfl) (rtag_spec sNone) rfl ?_
      refine al_buildSlice (xs := [_]) rfl rfl rfl rfl rfl rfl rfl rfl rfl (fun _ => rfl) rfl ?_
      refine al_call rfl rfl rfl rfl rfl rfl (fun _ => rfl) (fun _ => rfl) (App_spec sHash [T.atom sNone 5] _ (by simp [T.rows_eq]) (by simp)) rfl ?_
      refine al_do rfl (does_store rfl rfl rfl rfl rfl rfl rfl) ?_
      refine al_nil ?_
      refine awp_ret ?_
      repeat (first | refine thenS_ret ?_ | refine blockS_ret ?_)
      refine ret_ok rfl ?_ trivial
      rfl
    · rw [hr0] at hc; simp at hc
  | succ n ih =>
    intro l rs hrs hl hn
    have hlen' : rs.length = l.length := by rw [hrs, T.rows_len]
    refine spec_intro Try.func23 rfl rfl rfl rfl rfl rfl ?_
    refine awp_seq ?_
    refine awp_region ?_
    refine al_do rfl (does_alloc rfl rfl rfl) ?_
    refine al_nil ?_
    refine awp_seq ?_
    refine awp_seq ?_
    refine awp_region ?_
    refine al_pure rfl rfl rfl (pure_move rfl (fun _ => rfl)) ?_
    refine al_lenSl rfl rfl rfl rfl rfl (fun _ => rfl) rfl rfl ?_ (fun hh => by simp at hh); intro hlen
    refine al_pure rfl rfl rfl (pure_cmp rfl rfl (fun _ => rfl) (fun _ => rfl) rfl) ?_
    refine al_nil ?_
    refine awp_cond rfl (fun hc => ?_) (fun hc => ?_)
    · refine awp_seq ?_
      refine awp_region ?_
      refine al_call rfl rfl rfl rfl rfl rfl (fun _ => rfl) (fun _ => rfl) (rtag_spec sNone) rfl ?_
      refine al_buildSlice (xs := [_]) rfl rfl rfl rfl rfl rfl rfl rfl rfl (fun _ => rfl) rfl ?_
      refine al_call rfl rfl rfl rfl rfl rfl (fun _ => rfl) (fun _ => rfl) (App_spec sHash [T.atom sNone 5] _ (by simp [T.rows_eq]) (by simp)) rfl ?_
      refine al_do rfl (does_store rfl rfl rfl rfl rfl rfl rfl) ?_
      refine al_nil ?_
      refine awp_ret ?_
      repeat (first | refine thenS_ret ?_ | refine blockS_ret ?_)
      refine ret_ok rfl ?_ trivial
      have : l = [] := List.eq_nil_of_length_eq_zero (by simp only [beq_iff_eq] at hc; omega)
      subst this
      rfl
    · refine awp_skip ?_
      refine awp_seq ?_
      refine awp_seq ?_
      refine awp_region ?_
      refine al_pure rfl rfl rfl (pure_move rfl (fun _ => rfl)) ?_
      refine al_lenSl rfl rfl rfl rfl rfl (fun _ => rfl) rfl rfl ?_ (fun hh => by simp at hh); intro hlen
      refine al_pure rfl rfl rfl (pure_cmp rfl rfl (fun _ => rfl) (fun _ => rfl) rfl) ?_
      refine al_nil ?_
      refine awp_cond rfl (fun hc2 => ?_) (fun hc2 => ?_)
      · have h1 : l.length = 1 := by simp only [beq_iff_eq] at hc2; omega
        obtain ⟨t, rfl⟩ := List.length_eq_one_iff.1 h1
        refine awp_seq ?_
        refine awp_region ?_
        refine al_pure rfl rfl rfl (pure_move rfl (fun _ => rfl)) ?_
        refine al_pure rfl rfl rfl (pure_indexAddr rfl rfl (fun _ => rfl) (fun _ => rfl) rfl rfl rfl (fun _ => (show rs[0]? = some t.cells by rw [hrs]; exact T.rows_get rfl))) ?_
        refine al_pure rfl rfl rfl (pure_loadRoRow rfl (fun _ => rfl) rfl rfl rfl rfl) ?_
        refine al_call rfl rfl rfl rfl rfl rfl (fun _ => rfl) (fun _ => rfl) (Leaf_spec t) rfl ?_
        refine al_do rfl (does_store rfl rfl rfl rfl rfl rfl rfl) ?_
        refine al_nil ?_
        refine awp_ret ?_
        repeat (first | refine thenS_ret ?_ | refine blockS_ret ?_)
        refine ret_ok rfl ?_ trivial
        rfl
      · have h2 : 2 ≤ rs.length := by simp only [beq_eq_false_iff_ne, ne_eq] at hc hc2; omega
        have hb := half_bound h2
        refine awp_skip ?_
        refine awp_seq ?_
        refine awp_region ?_
        refine al_pure rfl rfl rfl (pure_move rfl (fun _ => rfl)) ?_
        refine al_lenSl rfl rfl rfl rfl rfl (fun _ => rfl) rfl rfl ?_ (fun hh => by simp at hh); intro hlen
        refine al_call rfl rfl rfl rfl rfl rfl (fun _ => rfl) (fun _ => rfl) (Split_spec rs.length h2 (by omega)) rfl ?_
        refine al_pure rfl rfl rfl (pure_assign rfl (fun _ => rfl)) ?_
        refine al_nil ?_
        refine awp_sub (s := { t := [(0, _, _), (2, _, _), (3, _, _)], bx := [((.l 2), _)], ow := [] }) (sub_mk (⟨⟨_, rfl, rfl⟩, ⟨⟨_, rfl, rfl⟩, ⟨⟨_, rfl, rfl⟩, trivial⟩⟩⟩) (⟨⟨_, rfl, rfl⟩, trivial⟩) trivial) ?_
        refine awp_seq ?_
        refine awp_drawn' (by kernel_rfl) ?_
        refine dr_pure rfl rfl rfl rfl (pure_move rfl (fun _ => rfl)) ?_
        refine dr_pure rfl rfl rfl rfl (pure_move rfl (fun _ => rfl)) ?_
        refine dr_pure rfl rfl rfl rfl (pure_slice rfl (fun _ => rfl) rfl rfl (fun _ => rfl) (fun _ => ⟨_, _, _, rfl, (fun _ => rfl), rfl⟩) (fun _ => by omega) (fun _ => by omega)) ?_
        refine dr_callN rfl rfl rfl rfl rfl rfl rfl (fun _ => rfl) (fun _ => rfl) (ih (l.take (half rs.length)) _ (by rw [hrs, rows_part]; rfl) (by rw [List.length_take]; omega) (by omega)) rfl ?_
        refine dr_pure rfl rfl rfl rfl (pure_move rfl (fun _ => rfl)) ?_
        refine dr_pure rfl rfl rfl rfl (pure_move rfl (fun _ => rfl)) ?_
        refine dr_pure rfl rfl rfl rfl (pure_slice rfl (fun _ => rfl) rfl rfl (fun _ => ⟨_, _, _, rfl, (fun _ => rfl), rfl⟩) (fun _ => rfl) (fun _ => by omega) (fun _ => by omega)) ?_
        refine dr_callN rfl rfl rfl rfl rfl rfl rfl (fun _ => rfl) (fun _ => rfl) (ih (l.drop (half rs.length)) _ (by rw [hrs, rows_part, T.rows_len, List.take_length]) (by rw [List.length_drop]; omega) (by omega)) rfl ?_
        refine dr_callN rfl rfl rfl rfl rfl rfl rfl (fun _ => rfl) (fun _ => rfl) (Node_spec _ _) rfl ?_
        refine dr_store rfl rfl rfl rfl rfl rfl rfl rfl rfl rfl rfl rfl ?_
        refine dr_nil (by kernel_rfl) ?_
        refine awp_ret ?_
        repeat (first | refine thenS_ret ?_ | refine blockS_ret ?_)
        refine ret_ok rfl ?_ trivial
        show xt _ = xt _
        rw [headT_eq l (by omega), hlen']
theorem head_spec : ∀ (n : Nat) (l : List T) (rs : List (List C)), rs = T.rows l → l.length ≤ n → n ≤ 100000 → Ctr sys 36 [.v (.c (.sl 4 rs))] [] (xt (headT l)) none [] := by
  intro n
  induction n with
  | zero =>
    intro l rs hrs hl _
    have : l = [] := List.eq_nil_of_length_eq_zero (by omega)
    subst this
    have hr0 : rs.length = 0 := by rw [hrs]; rfl
    refine spec_intro Try.func36 rfl rfl rfl rfl rfl rfl ?_
    refine awp_seq ?_
    refine awp_region ?_
    refine al_do rfl (does_alloc rfl rfl rfl) ?_
    refine al_nil ?_
    refine awp_seq ?_
    refine awp_seq ?_
    refine awp_region ?_
    refine al_pure rfl rfl rfl (pure_move rfl (fun _ => rfl)) ?_
    refine al_lenSl rfl rfl rfl rfl rfl (fun _ => rfl) rfl rfl ?_ (fun hh => by simp at hh); intro hlen
    refine al_nil ?_
    refine awp_block ?_
    refine awp_seq ?_
    refine awp_region ?_
    refine al_pure rfl rfl rfl (pure_cmp rfl rfl (fun _ => rfl) (fun _ => rfl) rfl) ?_
    refine al_pure rfl rfl rfl (pure_assign rfl (fun _ => rfl)) ?_
    refine al_nil ?_
    refine awp_cond rfl (fun hc => ?_) (fun hc => ?_)
    · refine awp_seq ?_
      refine awp_region ?_
      refine al_call rfl rfl rfl rfl rfl rfl (fun _ => rfl) (fun _ => rfl) (tag_spec sNone) rfl ?_
      refine al_buildSlice (xs := [_]) rfl rfl rfl rfl rfl rfl rfl rfl rfl (fun _ => rfl) rfl ?_
      refine al_call rfl rfl rfl rfl rfl rfl (fun _ => rfl) (fun _ => rfl) (app_spec sHash [T.atom sNone 5] _ (by simp [T.rows_eq])) rfl ?_
      refine al_do rfl (does_store rfl rfl rfl rfl rfl rfl rfl) ?_
      refine al_nil ?_
      refine awp_ret ?_
      repeat (first | refine thenS_ret ?_ | refine blockS_ret ?_)
      refine ret_ok rfl ?_ trivial
      rfl
    · rw [hr0] at hc; simp at hc
  | succ n ih =>
    intro l rs hrs hl hn
    have hlen' : rs.length = l.length := by rw [hrs, T.rows_len]
    refine spec_intro Try.func36 rfl rfl rfl rfl rfl rfl ?_
    refine awp_seq ?_
    refine awp_region ?_
    refine al_do rfl (does_alloc rfl rfl rfl) ?_
    refine al_nil ?_
    refine awp_seq ?_
    refine awp_seq ?_
    refine awp_region ?_
    refine al_pure rfl rfl rfl (pure_move rfl (fun _ => rfl)) ?_
    refine al_lenSl rfl rfl rfl rfl rfl (fun _ => rfl) rfl rfl ?_ (fun hh => by simp at hh); intro hlen
    refine al_nil ?_
    refine awp_block ?_
    refine awp_seq ?_
    refine awp_region ?_
    refine al_pure rfl rfl rfl (pure_cmp rfl rfl (fun _ => rfl) (fun _ => rfl) rfl) ?_
    refine al_pure rfl rfl rfl (pure_assign rfl (fun _ => rfl)) ?_
    refine al_nil ?_
    refine awp_cond rfl (fun hc => ?_) (fun hc => ?_)
    · refine awp_seq ?_
      refine awp_region ?_
      refine al_call rfl rfl rfl rfl rfl rfl (fun _ => rfl) (fun _ => rfl) (tag_spec sNone) rfl ?_
      refine al_buildSlice (xs := [_]) rfl rfl rfl rfl rfl rfl rfl rfl rfl (fun _ => rfl) rfl ?_
      refine al_call rfl rfl rfl rfl rfl rfl (fun _ => rfl) (fun _ => rfl) (app_spec sHash [T.atom sNone 5] _ (by simp [T.rows_eq])) rfl ?_
      refine al_do rfl (does_store rfl rfl rfl rfl rfl rfl rfl) ?_
      refine al_nil ?_
      refine awp_ret ?_
      repeat (first | refine thenS_ret ?_ | refine blockS_ret ?_)
      refine ret_ok rfl ?_ trivial
      have : l = [] := List.eq_nil_of_length_eq_zero (by simp only [beq_iff_eq] at hc; omega)
      subst this
      rfl
    · refine awp_seq ?_
      refine awp_region ?_
      refine al_pure rfl rfl rfl (pure_cmp rfl rfl (fun _ => rfl) (fun _ => rfl) rfl) ?_
      refine al_pure rfl rfl rfl (pure_assign rfl (fun _ => rfl)) ?_
      refine al_nil ?_
      refine awp_cond rfl (fun hc2 => ?_) (fun hc2 => ?_)
      · have h1 : l.length = 1 := by simp only [beq_iff_eq] at hc2; omega
        obtain ⟨t, rfl⟩ := List.length_eq_one_iff.1 h1
        refine awp_seq ?_
        refine awp_region ?_
        refine al_pure rfl rfl rfl (pure_move rfl (fun _ => rfl)) ?_
        refine al_pure rfl rfl rfl (pure_indexAddr rfl rfl (fun _ => rfl) (fun _ => rfl) rfl rfl rfl (fun _ => (show rs[0]? = some t.cells by rw [hrs]; exact T.rows_get rfl))) ?_
        refine al_pure rfl rfl rfl (pure_loadRoRow rfl (fun _ => rfl) rfl rfl rfl rfl) ?_
        refine al_call rfl rfl rfl rfl rfl rfl (fun _ => rfl) (fun _ => rfl) (leaf_spec t) rfl ?_
        refine al_do rfl (does_store rfl rfl rfl rfl rfl rfl rfl) ?_
        refine al_nil ?_
        refine awp_ret ?_
        repeat (first | refine thenS_ret ?_ | refine blockS_ret ?_)
        refine ret_ok rfl ?_ trivial
        rfl
      · have h2 : 2 ≤ rs.length := by simp only [beq_eq_false_iff_ne, ne_eq] at hc hc2; omega
        have hb := half_bound h2
        refine awp_skip ?_
        refine awp_seq ?_
        refine awp_region ?_
        refine al_pure rfl rfl rfl (pure_move rfl (fun _ => rfl)) ?_
        refine al_lenSl rfl rfl rfl rfl rfl (fun _ => rfl) rfl rfl ?_ (fun hh => by simp at hh); intro hlen
        refine al_call rfl rfl rfl rfl rfl rfl (fun _ => rfl) (fun _ => rfl) (half_spec rs.length h2 (by omega)) rfl ?_
        refine al_pure rfl rfl rfl (pure_assign rfl (fun _ => rfl)) ?_
        refine al_nil ?_
        refine awp_sub (s := { t := [(0, _, _), (2, _, _), (3, _, _)], bx := [((.l 2), _)], ow := [] }) (sub_mk (⟨⟨_, rfl, rfl⟩, ⟨⟨_, rfl, rfl⟩, ⟨⟨_, rfl, rfl⟩, trivial⟩⟩⟩) (⟨⟨_, rfl, rfl⟩, trivial⟩) trivial) ?_
        refine awp_seq ?_
        refine awp_drawn' (by kernel_rfl) ?_
        refine dr_pure rfl rfl rfl rfl (pure_move rfl (fun _ => rfl)) ?_
        refine dr_pure rfl rfl rfl rfl (pure_move rfl (fun _ => rfl)) ?_
        refine dr_pure rfl rfl rfl rfl (pure_slice rfl (fun _ => rfl) rfl rfl (fun _ => rfl) (fun _ => ⟨_, _, _, rfl, (fun _ => rfl), rfl⟩) (fun _ => by omega) (fun _ => by omega)) ?_
        refine dr_callN rfl rfl rfl rfl rfl rfl rfl (fun _ => rfl) (fun _ => rfl) (ih (l.take (half rs.length)) _ (by rw [hrs, rows_part]; rfl) (by rw [List.length_take]; omega) (by omega)) rfl ?_
        refine dr_pure rfl rfl rfl rfl (pure_move rfl (fun _ => rfl)) ?_
        refine dr_pure rfl rfl rfl rfl (pure_move rfl (fun _ => rfl)) ?_
        refine dr_pure rfl rfl rfl rfl (pure_slice rfl (fun _ => rfl) rfl rfl (fun _ => ⟨_, _, _, rfl, (fun _ => rfl), rfl⟩) (fun _ => rfl) (fun _ => by omega) (fun _ => by omega)) ?_
        refine dr_callN rfl rfl rfl rfl rfl rfl rfl (fun _ => rfl) (fun _ => rfl) (ih (l.drop (half rs.length)) _ (by rw [hrs, rows_part, T.rows_len, List.take_length]) (by rw [List.length_drop]; omega) (by omega)) rfl ?_
        refine dr_callN rfl rfl rfl rfl rfl rfl rfl (fun _ => rfl) (fun _ => rfl) (node2_spec _ _) rfl ?_
        refine dr_store rfl rfl rfl rfl rfl rfl rfl rfl rfl rfl rfl rfl ?_
        refine dr_nil (by kernel_rfl) ?_
        refine awp_ret ?_
        repeat (first | refine thenS_ret ?_ | refine blockS_ret ?_)
        refine ret_ok rfl ?_ trivial
        show xt _ = xt _
        rw [headT_eq l (by omega), hlen']
end Go.Proofs.Ytginljdgdllhfaa
