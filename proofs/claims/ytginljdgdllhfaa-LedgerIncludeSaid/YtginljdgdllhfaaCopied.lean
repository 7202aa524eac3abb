/- Contracts: copies of terms. -/
import Derived.Test.YtginljdgdllhfaaHeadE
set_option linter.unusedVariables false
set_option linter.unusedSimpArgs false
namespace Go.Proofs.Ytginljdgdllhfaa
open Go Go.Abs
theorem T.len_sizes : ∀ l : List T, l.length ≤ T.sizes l
  | [] => by simp [T.sizes]
  | t :: l => by have h1 := T.len_sizes l; have h2 := t.size_pos; simp only [T.sizes, List.length_cons]; omega
theorem T.rows_succ {ts : List T} {k : Nat} {x : T} (h : ts[k]? = some x) : T.rows (ts.take (k + 1)) = T.rows (ts.take k) ++ [x.cells] := by
  rw [T.take_succ h, T.rows_eq, T.rows_eq, List.map_append]; rfl
def copiedS (t : T) (k : Nat) : St := { t := [(2, true, .v (.ptr (.l 2) 0)), (3, true, .v (.ptr (.l 3) 0)), (9, true, xl t.kids), (10, true, xi (T.rows t.kids).length), (11, true, xi k)], bx := [(.l 2, [.i .i64 0, .s [], .i .i64 0, .sl 4 []]), (.l 3, [.i .i64 t.kind, .s t.name, .i .i64 t.sort, .sl 4 (T.rows (t.kids.take k))])], ow := [(.b (.l 3) 3, 4)] }
theorem copied_spec : ∀ (n : Nat) (t : T), t.size ≤ n → n ≤ 1000000 → Ctr sys 35 [xt t] [] (xt t) none [] := by
  intro n
  induction n with
  | zero => intro t h _; have := t.size_pos; omega
  | succ n ih =>
    intro t ht hn
    have hls := T.len_sizes t.kids
    have hse := t.size_eq
    refine spec_intro Try.func35 rfl rfl rfl rfl rfl rfl ?_
    refine awp_seq ?_
    refine awp_region ?_
    refine al_do rfl (does_box rfl rfl rfl rfl) ?_
    refine al_do rfl (does_alloc rfl rfl rfl) ?_
    refine al_nil ?_
    refine awp_seq ?_
    refine awp_region ?_
    refine al_pure rfl rfl rfl (pure_loadBoxRow rfl (fun _ => rfl) rfl rfl rfl rfl rfl) ?_
    refine al_do rfl (does_alloc rfl rfl rfl) ?_
    refine al_do rfl (does_store rfl rfl rfl rfl rfl rfl rfl) ?_
    refine al_nil ?_
    refine awp_seq ?_
    refine awp_region ?_
    refine al_pure rfl rfl rfl (pure_fieldPtr rfl (fun _ => rfl) rfl rfl) ?_
    refine al_do rfl (does_storeNil rfl rfl rfl rfl rfl rfl) ?_
    refine al_nil ?_
    refine awp_seq ?_
    refine awp_seq ?_
    refine awp_region ?_
    refine al_pure rfl rfl rfl (pure_fieldPtr rfl (fun _ => rfl) rfl rfl) ?_
    refine al_pure rfl rfl rfl (pure_loadBox rfl (fun _ => rfl) rfl rfl rfl rfl) ?_
    refine al_lenSl rfl rfl rfl rfl rfl (fun _ => rfl) rfl rfl ?_ (fun hh => by simp at hh); intro hlen
    refine al_pure rfl rfl rfl (pure_move rfl (fun _ => rfl)) ?_
    refine al_nil ?_
    refine awp_sub (s := { t := [(2, _, _), (3, _, _), (9, _, _), (10, _, _), (11, _, _)], bx := [((.l 2), _), ((.l 3), _)], ow := [((.b (.l 3) 3), _)] }) (sub_mk (⟨⟨_, rfl, rfl⟩, ⟨⟨_, rfl, rfl⟩, ⟨⟨_, rfl, rfl⟩, ⟨⟨_, rfl, rfl⟩, ⟨⟨_, rfl, rfl⟩, trivial⟩⟩⟩⟩⟩) (⟨⟨_, rfl, rfl⟩, ⟨⟨_, rfl, rfl⟩, trivial⟩⟩) (⟨rfl, trivial⟩)) ?_
    refine awp_block ?_
    refine awp_loop (copiedS t) (fun k => k ≤ t.kids.length) (fun k => t.kids.length - k) 0 (Nat.zero_le _) ?_ ?_
    · refine sub_mk ⟨⟨_, rfl, rfl⟩, ⟨_, rfl, rfl⟩, ⟨_, rfl, rfl⟩, ⟨_, rfl, rfl⟩, ⟨_, rfl, rfl⟩, trivial⟩ ⟨⟨_, rfl, rfl⟩, ⟨_, rfl, rfl⟩, trivial⟩ ⟨rfl, trivial⟩
    · intro k hk
      refine awp_seq ?_
      refine awp_region ?_
      refine al_pure rfl rfl rfl (pure_cmp rfl rfl (fun _ => rfl) (fun _ => rfl) rfl) ?_
      refine al_nil ?_
      refine awp_seq ?_
      refine awp_cond rfl (fun hc => ?_) (fun hc => ?_)
      · rw [T.rows_len] at hc
        have hlt : k < t.kids.length := by simpa using hc
        obtain ⟨x, hx⟩ : ∃ x, t.kids[k]? = some x := ⟨_, List.getElem?_eq_getElem hlt⟩
        have h3 := T.size_kid hx
        have h4 : (T.rows (t.kids.take k)).length ≤ 1000000 := by rw [T.rows_len, List.length_take]; omega
        refine awp_skip ?_
        refine awp_seq ?_
        refine awp_block ?_
        refine awp_seq ?_
        refine awp_region ?_
        refine al_pure rfl rfl rfl (pure_indexAddr rfl rfl (fun _ => rfl) (fun _ => rfl) rfl rfl rfl (fun _ => T.rows_get hx)) ?_
        refine al_pure rfl rfl rfl (pure_loadRoRow rfl (fun _ => rfl) rfl rfl rfl rfl) ?_
        refine al_do rfl (does_alloc rfl rfl rfl) ?_
        refine al_do rfl (does_store rfl rfl rfl rfl rfl rfl rfl) ?_
        refine al_nil ?_
        refine awp_drawn' (by kernel_rfl) ?_
        refine dr_pure rfl rfl rfl rfl (pure_fieldPtr rfl (fun _ => rfl) rfl rfl) ?_
        refine dr_loadTake rfl rfl rfl rfl rfl rfl rfl rfl rfl rfl rfl rfl ?_
        refine dr_loadRow rfl rfl rfl rfl rfl rfl rfl (fun _ => rfl) rfl rfl rfl rfl rfl ?_
        refine dr_callN rfl rfl rfl rfl rfl rfl rfl (fun _ => rfl) (fun _ => rfl) (ih x (by omega) (by omega)) rfl ?_
        refine dr_build (xs := [_]) rfl rfl rfl rfl rfl rfl rfl rfl rfl rfl (fun _ => rfl) rfl ?_
        refine dr_append rfl rfl rfl rfl rfl rfl rfl rfl rfl rfl rfl (by simp; omega) (by simp; omega) ?_
        refine dr_pure rfl rfl rfl rfl (pure_fieldPtr rfl (fun _ => rfl) rfl rfl) ?_
        refine dr_storeOwn rfl rfl rfl rfl rfl rfl rfl rfl rfl rfl rfl rfl ?_
        refine dr_nil (by kernel_rfl) ?_
        refine awp_sub (s := { t := [(2, _, _), (3, _, _), (5, _, _), (9, _, _), (10, _, _), (11, _, _), (12, _, _), (13, _, _), (14, _, _), (15, _, _), (16, _, _), (17, _, _), (18, _, _), (19, _, _), (20, _, _), (21, _, _)], bx := [((.l 2), _), ((.l 3), _), ((.l 5), _)], ow := [((.b (.l 3) 3), _), ((.t 19), _)] }) (sub_mk (⟨⟨_, rfl, rfl⟩, ⟨⟨_, rfl, rfl⟩, ⟨⟨_, rfl, rfl⟩, ⟨⟨_, rfl, rfl⟩, ⟨⟨_, rfl, rfl⟩, ⟨⟨_, rfl, rfl⟩, ⟨⟨_, rfl, rfl⟩, ⟨⟨_, rfl, rfl⟩, ⟨⟨_, rfl, rfl⟩, ⟨⟨_, rfl, rfl⟩, ⟨⟨_, rfl, rfl⟩, ⟨⟨_, rfl, rfl⟩, ⟨⟨_, rfl, rfl⟩, ⟨⟨_, rfl, rfl⟩, ⟨⟨_, rfl, rfl⟩, ⟨⟨_, rfl, rfl⟩, trivial⟩⟩⟩⟩⟩⟩⟩⟩⟩⟩⟩⟩⟩⟩⟩⟩) (⟨⟨_, rfl, rfl⟩, ⟨⟨_, rfl, rfl⟩, ⟨⟨_, rfl, rfl⟩, trivial⟩⟩⟩) (⟨rfl, ⟨rfl, trivial⟩⟩)) ?_
        refine awp_region ?_
        refine al_pure rfl rfl rfl (pure_arith rfl rfl (fun _ => rfl) (fun _ => rfl) rfl (IntWalk.i64_in _ (by omega))) ?_
        refine al_pure rfl rfl rfl (pure_move rfl (fun _ => rfl)) ?_
        refine al_nil ?_
        refine ⟨k + 1, by omega, by omega, ?_⟩
        refine sub_mk ⟨⟨_, rfl, rfl⟩, ⟨_, rfl, rfl⟩, ⟨_, rfl, rfl⟩, ⟨_, rfl, rfl⟩, ⟨_, rfl, rfl⟩, trivial⟩ ⟨⟨_, rfl, rfl⟩, ⟨_, rfl, ?_⟩, trivial⟩ ⟨rfl, trivial⟩
        rw [T.rows_succ hx]; rfl
      · refine awp_exit ?_
        repeat (first | refine thenS_exit ?_ | refine blockS_hit ?_ | refine blockS_miss rfl ?_)
        refine awp_seq ?_
        refine awp_region ?_
        refine al_pure rfl rfl rfl (pure_loadBoxRow rfl (fun _ => rfl) rfl rfl rfl rfl rfl) ?_
        refine al_do rfl (does_store rfl rfl rfl rfl rfl rfl rfl) ?_
        refine al_nil ?_
        refine awp_ret ?_
        repeat (first | refine thenS_ret ?_ | refine blockS_ret ?_)
        refine ret_ok rfl ?_ trivial
        rw [T.rows_len] at hc
        have : k = t.kids.length := by simp at hc; omega
        subst this
        rw [List.take_length]
        rfl
theorem Head_spec (l : List T) (h : T.sizes l ≤ 10000) (h2 : l.length ≤ 10000) : Ctr sys 12 [xl l] [] (.tup [.agg (headE l).1.cells, .c (.i .i64 (headE l).2)]) none [] := by
  have hs := headT_size l
  refine spec_intro Try.func12 rfl rfl rfl rfl rfl rfl ?_
  refine awp_seq ?_
  refine awp_region ?_
  refine al_do rfl (does_alloc rfl rfl rfl) ?_
  refine al_pure rfl rfl rfl (pure_assign rfl (fun _ => rfl)) ?_
  refine al_nil ?_
  refine awp_seq ?_
  refine awp_seq ?_
  refine awp_region ?_
  refine al_pure rfl rfl rfl (pure_move rfl (fun _ => rfl)) ?_
  refine al_call rfl rfl rfl rfl rfl rfl (fun _ => rfl) (fun _ => rfl) (right_spec l (by omega)) rfl ?_
  refine al_pure rfl rfl rfl (pure_assign rfl (fun _ => rfl)) ?_
  refine al_nil ?_
  refine awp_seq ?_
  refine awp_region ?_
  refine al_pure rfl rfl rfl (pure_move rfl (fun _ => rfl)) ?_
  refine al_pure rfl rfl rfl (pure_cmp rfl rfl (fun _ => rfl) (fun _ => rfl) rfl) ?_
  refine al_nil ?_
  refine awp_cond rfl (fun hc => ?_) (fun hc => ?_)
  · refine awp_seq ?_
    refine awp_region ?_
    refine al_pure rfl rfl rfl (pure_build rfl Try.underlying26 rfl (fun _ => rfl)) ?_
    refine al_pure rfl rfl rfl (pure_move rfl (fun _ => rfl)) ?_
    refine al_do rfl (does_store rfl rfl rfl rfl rfl rfl rfl) ?_
    refine al_pure rfl rfl rfl (pure_assign rfl (fun _ => rfl)) ?_
    refine al_nil ?_
    refine awp_ret ?_
    repeat (first | refine thenS_ret ?_ | refine blockS_ret ?_)
    refine ret_ok rfl ?_ trivial
    rw [headE, if_pos (by simpa using hc)]; rfl
  · refine awp_skip ?_
    refine awp_seq ?_
    refine awp_seq ?_
    refine awp_region ?_
    refine al_pure rfl rfl rfl (pure_move rfl (fun _ => rfl)) ?_
    refine al_call rfl rfl rfl rfl rfl rfl (fun _ => rfl) (fun _ => rfl) (sized_spec l (by omega) (by omega)) rfl ?_
    refine al_pure rfl rfl rfl (pure_assign rfl (fun _ => rfl)) ?_
    refine al_nil ?_
    refine awp_sub (s := { t := [(0, _, _), (2, _, _), (3, _, _), (5, _, _)], bx := [((.l 2), _)], ow := [] }) (sub_mk (⟨⟨_, rfl, rfl⟩, ⟨⟨_, rfl, rfl⟩, ⟨⟨_, rfl, rfl⟩, ⟨⟨_, rfl, rfl⟩, trivial⟩⟩⟩⟩) (⟨⟨_, rfl, rfl⟩, trivial⟩) trivial) ?_
    refine awp_seq ?_
    refine awp_region ?_
    refine al_pure rfl rfl rfl (pure_move rfl (fun _ => rfl)) ?_
    refine al_pure rfl rfl rfl (pure_cmp rfl rfl (fun _ => rfl) (fun _ => rfl) rfl) ?_
    refine al_nil ?_
    refine awp_cond rfl (fun hc2 => ?_) (fun hc2 => ?_)
    · refine awp_seq ?_
      refine awp_region ?_
      refine al_pure rfl rfl rfl (pure_build rfl Try.underlying26 rfl (fun _ => rfl)) ?_
      refine al_pure rfl rfl rfl (pure_move rfl (fun _ => rfl)) ?_
      refine al_do rfl (does_store rfl rfl rfl rfl rfl rfl rfl) ?_
      refine al_pure rfl rfl rfl (pure_assign rfl (fun _ => rfl)) ?_
      refine al_nil ?_
      refine awp_ret ?_
      repeat (first | refine thenS_ret ?_ | refine blockS_ret ?_)
      refine ret_ok rfl ?_ trivial
      rw [headE, if_neg (by simpa using hc), if_pos (by simpa using hc2)]; rfl
    · refine awp_skip ?_
      refine awp_seq ?_
      refine awp_region ?_
      refine al_pure rfl rfl rfl (pure_move rfl (fun _ => rfl)) ?_
      refine al_call rfl rfl rfl rfl rfl rfl (fun _ => rfl) (fun _ => rfl) (head_spec _ l _ rfl (Nat.le_refl _) (by omega)) rfl ?_
      refine al_call rfl rfl rfl rfl rfl rfl (fun _ => rfl) (fun _ => rfl) (copied_spec _ _ (Nat.le_refl _) (by omega)) rfl ?_
      refine al_do rfl (does_store rfl rfl rfl rfl rfl rfl rfl) ?_
      refine al_pure rfl rfl rfl (pure_assign rfl (fun _ => rfl)) ?_
      refine al_nil ?_
      refine awp_ret ?_
      repeat (first | refine thenS_ret ?_ | refine blockS_ret ?_)
      refine ret_ok rfl ?_ trivial
      rw [headE, if_neg (by simpa using hc), if_neg (by simpa using hc2)]; rfl
end Go.Proofs.Ytginljdgdllhfaa
