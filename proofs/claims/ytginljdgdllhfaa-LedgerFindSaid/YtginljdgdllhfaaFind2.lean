/- Contracts: the subterms of a term, and lists in order. -/
import Derived.Test.YtginljdgdllhfaaFind
namespace Go.Proofs.Ytginljdgdllhfaa
open Go Go.Abs
theorem T.rows_app (a b : List T) : T.rows (a ++ b) = T.rows a ++ T.rows b := by simp [T.rows_eq, T.take4]
theorem xl_app (a b : List T) : X.v (.c (.sl 4 (T.rows a ++ T.rows b))) = xl (a ++ b) := by rw [← T.rows_app]
theorem T.rows_one (a : T) : T.rows [a] = [a.cells] := by rw [T.rows_eq]; rfl
def allS (t : T) (k : Nat) : St := { t := [(1, true, .v (.ptr (.l 1) 0)), (3, true, xl (t :: T.alls (t.kids.take k))), (4, true, xi k)], bx := [(.l 1, t.cells)], ow := [(.t 3, 4)] }
theorem All_spec : ∀ (n : Nat) (t : T), t.size ≤ n → n ≤ 100000 → Ctr sys 70 [xt t] [] (xl t.all) none [] := by
  intro n
  induction n with
  | zero => intro t h; have := t.size_pos; omega
  | succ n ih =>
    intro t ht hn
    have hls := T.len_sizes t.kids
    have hse := t.size_eq
    refine spec_intro Try.func70 rfl rfl rfl rfl rfl rfl ?_
    refine awp_seq ?_
    refine awp_region ?_
    refine al_do rfl (does_box rfl rfl rfl rfl) ?_
    refine al_do rfl (does_nil (.inr rfl) rfl rfl) ?_
    refine al_nil ?_
    refine awp_seq ?_
    refine awp_region ?_
    refine al_pure rfl rfl rfl (pure_loadBoxRow rfl (fun _ => rfl) rfl rfl rfl rfl rfl) ?_
    refine al_buildSlice (xs := [_]) rfl rfl rfl rfl rfl rfl rfl rfl rfl (fun _ => rfl) rfl ?_
    refine al_do rfl (does_take (.inr rfl) rfl rfl rfl) ?_
    refine al_nil ?_
    refine awp_seq ?_
    refine awp_seq ?_
    refine awp_region ?_
    refine al_pure rfl rfl rfl (pure_assign rfl (fun _ => rfl)) ?_
    refine al_nil ?_
    refine awp_block ?_
    refine awp_loop (allS t) (fun k => k ≤ t.kids.length) (fun k => t.kids.length - k) 0 (Nat.zero_le _) ?_ ?_
    · refine sub_mk ⟨⟨_, rfl, rfl⟩, ⟨_, rfl, ?_⟩, ⟨_, rfl, rfl⟩, trivial⟩ ⟨⟨_, rfl, rfl⟩, trivial⟩ ⟨rfl, trivial⟩
      simp [T.alls, T.rows_eq, T.take4]
    · intro k hk
      refine awp_seq ?_
      refine awp_seq ?_
      refine awp_region ?_
      refine al_pure rfl rfl rfl (pure_move rfl (fun _ => rfl)) ?_
      refine al_pure rfl rfl rfl (pure_fieldPtr rfl (fun _ => rfl) rfl rfl) ?_
      refine al_pure rfl rfl rfl (pure_loadBox rfl (fun _ => rfl) rfl rfl rfl rfl) ?_
      refine al_lenSl rfl rfl rfl rfl rfl (fun _ => rfl) rfl rfl ?_ (fun hh => by simp at hh); intro hlen
      refine al_pure rfl rfl rfl (pure_cmp rfl rfl (fun _ => rfl) (fun _ => rfl) rfl) ?_
      refine al_nil ?_
      refine awp_cond rfl (fun hc => ?_) (fun hc => ?_)
      · rw [T.rows_len] at hc
        have hlt : k < t.kids.length := by simpa using hc
        obtain ⟨x, hx⟩ : ∃ x, t.kids[k]? = some x := ⟨_, List.getElem?_eq_getElem hlt⟩
        have h3 := T.size_kid hx
        have h4 := T.all_len x
        have h5 := T.alls_len (t.kids.take k)
        have h6 := T.sizes_take_le t.kids k
        have h7 := T.rows_len x.all
        have h8 := T.rows_len (t :: T.alls (t.kids.take k))
        rw [List.length_cons] at h8
        refine awp_skip ?_
        refine awp_seq ?_
        refine awp_block ?_
        refine awp_region ?_
        refine al_do rfl (does_take (.inl rfl) rfl rfl rfl) ?_
        refine al_pure rfl rfl rfl (pure_fieldPtr rfl (fun _ => rfl) rfl rfl) ?_
        refine al_pure rfl rfl rfl (pure_loadBox rfl (fun _ => rfl) rfl rfl rfl rfl) ?_
        refine al_pure rfl rfl rfl (pure_move rfl (fun _ => rfl)) ?_
        refine al_pure rfl rfl rfl (pure_indexAddr rfl rfl (fun _ => rfl) (fun _ => rfl) rfl rfl rfl (fun _ => T.rows_get hx)) ?_
        refine al_pure rfl rfl rfl (pure_loadRoRow rfl (fun _ => rfl) rfl rfl rfl rfl) ?_
        refine al_call rfl rfl rfl rfl rfl rfl (fun _ => rfl) (fun _ => rfl) (ih x (by omega) (by omega)) rfl ?_
        refine al_do rfl (does_append rfl rfl rfl rfl rfl rfl rfl (by omega) (by omega)) ?_
        refine al_do rfl (does_take (.inr rfl) rfl rfl rfl) ?_
        refine al_nil ?_
        refine awp_sub (s := { t := [(1, _, _), (3, _, _), (4, _, _), (7, _, _), (8, _, _), (9, _, _), (10, _, _), (11, _, _), (14, _, _), (15, _, _), (16, _, _), (17, _, _), (18, _, _), (19, _, _), (20, _, _), (21, _, _)], bx := [((.l 1), _)], ow := [((.t 3), _)] }) (sub_mk (⟨⟨_, rfl, rfl⟩, ⟨⟨_, rfl, rfl⟩, ⟨⟨_, rfl, rfl⟩, ⟨⟨_, rfl, rfl⟩, ⟨⟨_, rfl, rfl⟩, ⟨⟨_, rfl, rfl⟩, ⟨⟨_, rfl, rfl⟩, ⟨⟨_, rfl, rfl⟩, ⟨⟨_, rfl, rfl⟩, ⟨⟨_, rfl, rfl⟩, ⟨⟨_, rfl, rfl⟩, ⟨⟨_, rfl, rfl⟩, ⟨⟨_, rfl, rfl⟩, ⟨⟨_, rfl, rfl⟩, ⟨⟨_, rfl, rfl⟩, ⟨⟨_, rfl, rfl⟩, trivial⟩⟩⟩⟩⟩⟩⟩⟩⟩⟩⟩⟩⟩⟩⟩⟩) (⟨⟨_, rfl, rfl⟩, trivial⟩) (⟨rfl, trivial⟩)) ?_
        refine awp_region ?_
        refine al_pure rfl rfl rfl (pure_move rfl (fun _ => rfl)) ?_
        refine al_pure rfl rfl rfl (pure_arith rfl rfl (fun _ => rfl) (fun _ => rfl) rfl (IntWalk.i64_in _ (by omega))) ?_
        refine al_pure rfl rfl rfl (pure_assign rfl (fun _ => rfl)) ?_
        refine al_nil ?_
        refine ⟨k + 1, by omega, by omega, ?_⟩
        refine sub_mk ⟨⟨_, rfl, rfl⟩, ⟨_, rfl, ?_⟩, ⟨_, rfl, rfl⟩, trivial⟩ ⟨⟨_, rfl, rfl⟩, trivial⟩ ⟨rfl, trivial⟩
        rw [T.alls_take hx, ← List.cons_append, xl_app]
      · refine awp_exit ?_
        repeat (first | refine thenS_exit ?_ | refine blockS_hit ?_ | refine blockS_miss rfl ?_)
        refine awp_seq ?_
        refine awp_region ?_
        refine al_do rfl (does_take (.inl rfl) rfl rfl rfl) ?_
        refine al_do rfl (does_take (.inr rfl) rfl rfl rfl) ?_
        refine al_nil ?_
        refine awp_ret ?_
        repeat (first | refine thenS_ret ?_ | refine blockS_ret ?_)
        refine ret_ok rfl ?_ trivial
        rw [T.rows_len] at hc
        have : k = t.kids.length := by simp at hc; omega
        subst this
        rw [List.take_length, T.all_eq]; rfl
structure AddI where
  k : Nat
  out : List T
  d : Bool
def addS (l : List T) (t : T) (p : AddI) : St := { t := [(0, true, xl l), (3, true, .v (.ptr (.l 3) 0)), (5, true, xl p.out), (6, true, xb p.d), (7, true, xi p.k)], bx := [(.l 3, t.cells)], ow := [(.t 5, 4)] }
theorem Add_spec (l : List T) (t : T) (hl : l.length ≤ 100000) (hs : ∀ x ∈ l, x.size ≤ 1000000) (ht : t.size ≤ 1000000) : Ctr sys 77 [xl l, xt t] [] (xl (addG false l t)) none [] := by
  refine spec_intro Try.func77 rfl rfl rfl rfl rfl rfl ?_
  refine awp_seq ?_
  refine awp_region ?_
  refine al_do rfl (does_box rfl rfl rfl rfl) ?_
  refine al_do rfl (does_nil (.inr rfl) rfl rfl) ?_
  refine al_nil ?_
  refine awp_seq ?_
  refine awp_region ?_
  refine al_do rfl (does_nil (.inr rfl) rfl rfl) ?_
  refine al_nil ?_
  refine awp_seq ?_
  refine awp_region ?_
  refine al_pure rfl rfl rfl (pure_assign rfl (fun _ => rfl)) ?_
  refine al_nil ?_
  refine awp_seq ?_
  refine awp_seq ?_
  refine awp_region ?_
  refine al_pure rfl rfl rfl (pure_assign rfl (fun _ => rfl)) ?_
  refine al_nil ?_
  refine awp_block ?_
  refine awp_loop (addS l t) (fun p => p.k ≤ l.length ∧ p.out ++ addG p.d (l.drop p.k) t = addG false l t) (fun p => l.length - p.k) ⟨0, [], false⟩ ⟨Nat.zero_le _, by simp⟩ ?_ ?_
  · refine sub_mk ⟨⟨_, rfl, rfl⟩, ⟨_, rfl, rfl⟩, ⟨_, rfl, rfl⟩, ⟨_, rfl, rfl⟩, ⟨_, rfl, rfl⟩, trivial⟩ ⟨⟨_, rfl, rfl⟩, trivial⟩ ⟨rfl, trivial⟩
  · rintro ⟨k, out, d⟩ ⟨hk, hz⟩
    dsimp only at hk hz
    dsimp only [addS]
    have hrl := T.rows_len out
    have hlong : (addG false l t).length ≤ l.length + 1 := addG_len _ _ _
    have hle := congrArg List.length hz
    rw [List.length_append] at hle
    refine awp_seq ?_
    refine awp_seq ?_
    refine awp_region ?_
    refine al_pure rfl rfl rfl (pure_move rfl (fun _ => rfl)) ?_
    refine al_pure rfl rfl rfl (pure_move rfl (fun _ => rfl)) ?_
    refine al_lenSl rfl rfl rfl rfl rfl (fun _ => rfl) rfl rfl ?_ (fun hh => by simp at hh); intro hlen
    refine al_pure rfl rfl rfl (pure_cmp rfl rfl (fun _ => rfl) (fun _ => rfl) rfl) ?_
    refine al_nil ?_
    refine awp_cond rfl (fun hc => ?_) (fun hc => ?_)
    · rw [T.rows_len] at hc
      have hlt : k < l.length := by simpa using hc
      obtain ⟨x, hx⟩ : ∃ x, l[k]? = some x := ⟨_, List.getElem?_eq_getElem hlt⟩
      have hxs := hs x (List.mem_of_getElem? hx)
      rw [drop_get hx, addG] at hz
      refine awp_skip ?_
      refine awp_seq ?_
      refine awp_block ?_
      refine awp_seq ?_
      refine awp_drawn' (by kernel_rfl) ?_
      refine dr_loadRow rfl rfl rfl rfl rfl rfl rfl (fun _ => rfl) rfl rfl rfl rfl rfl ?_
      refine dr_pure rfl rfl rfl rfl (pure_move rfl (fun _ => rfl)) ?_
      refine dr_pure rfl rfl rfl rfl (pure_move rfl (fun _ => rfl)) ?_
      refine dr_pure rfl rfl rfl rfl (pure_indexAddr rfl rfl (fun _ => rfl) (fun _ => rfl) rfl rfl rfl (fun _ => T.rows_get hx)) ?_
      refine dr_pure rfl rfl rfl rfl (pure_loadRoRow rfl (fun _ => rfl) rfl rfl rfl rfl) ?_
      refine dr_call rfl rfl rfl rfl rfl rfl rfl (fun _ => rfl) (fun _ => rfl) (Compare_spec _ t x ht (Nat.le_refl _) hxs) rfl ?_
      refine dr_pure rfl rfl rfl rfl (pure_assign rfl (fun _ => rfl)) ?_
      refine dr_nil (by kernel_rfl) ?_
      refine awp_sub (s := { t := [(0, _, _), (3, _, _), (5, _, _), (6, _, _), (7, _, _), (8, _, _), (9, _, _), (10, _, _), (11, _, _), (12, _, _), (15, _, _), (16, _, _), (17, _, _), (18, _, _), (19, _, _), (20, _, _)], bx := [((.l 3), _)], ow := [((.t 5), _)] }) (sub_mk (⟨⟨_, rfl, rfl⟩, ⟨⟨_, rfl, rfl⟩, ⟨⟨_, rfl, rfl⟩, ⟨⟨_, rfl, rfl⟩, ⟨⟨_, rfl, rfl⟩, ⟨⟨_, rfl, rfl⟩, ⟨⟨_, rfl, rfl⟩, ⟨⟨_, rfl, rfl⟩, ⟨⟨_, rfl, rfl⟩, ⟨⟨_, rfl, rfl⟩, ⟨⟨_, rfl, rfl⟩, ⟨⟨_, rfl, rfl⟩, ⟨⟨_, rfl, rfl⟩, ⟨⟨_, rfl, rfl⟩, ⟨⟨_, rfl, rfl⟩, ⟨⟨_, rfl, rfl⟩, trivial⟩⟩⟩⟩⟩⟩⟩⟩⟩⟩⟩⟩⟩⟩⟩⟩) (⟨⟨_, rfl, rfl⟩, trivial⟩) (⟨rfl, trivial⟩)) ?_
      refine awp_seq ?_
      refine awp_seq ?_
      refine awp_region ?_
      refine al_pure rfl rfl rfl (pure_move rfl (fun _ => rfl)) ?_
      refine al_pure rfl rfl rfl (pure_not rfl (fun _ => rfl)) ?_
      refine al_pure rfl rfl rfl (pure_move rfl (fun _ => rfl)) ?_
      refine al_pure rfl rfl rfl (pure_move rfl (fun _ => rfl)) ?_
      refine al_pure rfl rfl rfl (pure_cmp rfl rfl (fun hh => hh) (fun _ => rfl) rfl) ?_
      refine al_pure rfl rfl rfl (pure_and rfl rfl (fun _ => rfl) (fun _ hi => gP rfl hi)) ?_
      refine al_nil ?_
      refine awp_cond rfl (fun hc2 => ?_) (fun hc2 => ?_)
      · simp only [Bool.and_eq_true, Bool.not_eq_true', decide_eq_true_eq] at hc2
        rw [if_pos hc2] at hz
        refine awp_seq ?_
        refine awp_region ?_
        refine al_pure rfl rfl rfl (pure_assign rfl (fun _ => rfl)) ?_
        refine al_nil ?_
        refine awp_seq ?_
        refine awp_region ?_
        refine al_pure rfl rfl rfl (pure_move rfl (fun _ => rfl)) ?_
        refine al_pure rfl rfl rfl (pure_cmp rfl rfl (fun _ => rfl) (fun _ => rfl) rfl) ?_
        refine al_nil ?_
        refine awp_sub (s := { t := [(0, _, _), (3, _, _), (5, _, _), (6, _, _), (7, _, _), (8, _, _), (9, _, _), (10, _, _), (11, _, _), (12, _, _), (15, _, _), (16, _, _), (17, _, _), (18, _, _), (19, _, _), (20, _, _), (21, _, _), (22, _, _), (23, _, _), (24, _, _), (25, _, _), (26, _, _), (27, _, _), (28, _, _)], bx := [((.l 3), _)], ow := [((.t 5), _)] }) (sub_mk (⟨⟨_, rfl, rfl⟩, ⟨⟨_, rfl, rfl⟩, ⟨⟨_, rfl, rfl⟩, ⟨⟨_, rfl, rfl⟩, ⟨⟨_, rfl, rfl⟩, ⟨⟨_, rfl, rfl⟩, ⟨⟨_, rfl, rfl⟩, ⟨⟨_, rfl, rfl⟩, ⟨⟨_, rfl, rfl⟩, ⟨⟨_, rfl, rfl⟩, ⟨⟨_, rfl, rfl⟩, ⟨⟨_, rfl, rfl⟩, ⟨⟨_, rfl, rfl⟩, ⟨⟨_, rfl, rfl⟩, ⟨⟨_, rfl, rfl⟩, ⟨⟨_, rfl, rfl⟩, ⟨⟨_, rfl, rfl⟩, ⟨⟨_, rfl, rfl⟩, ⟨⟨_, rfl, rfl⟩, ⟨⟨_, rfl, rfl⟩, ⟨⟨_, rfl, rfl⟩, ⟨⟨_, rfl, rfl⟩, ⟨⟨_, rfl, rfl⟩, ⟨⟨_, rfl, rfl⟩, trivial⟩⟩⟩⟩⟩⟩⟩⟩⟩⟩⟩⟩⟩⟩⟩⟩⟩⟩⟩⟩⟩⟩⟩⟩) (⟨⟨_, rfl, rfl⟩, trivial⟩) (⟨rfl, trivial⟩)) ?_
        refine awp_cond rfl (fun hc3 => ?_) (fun hc3 => ?_)
        · simp only [decide_eq_true_eq] at hc3
          rw [if_pos hc3] at hz
          refine awp_region ?_
          refine al_do rfl (does_take (.inl rfl) rfl rfl rfl) ?_
          refine al_pure rfl rfl rfl (pure_loadBoxRow rfl (fun _ => rfl) rfl rfl rfl rfl rfl) ?_
          refine al_buildSlice (xs := [_]) rfl rfl rfl rfl rfl rfl rfl rfl rfl (fun _ => rfl) rfl ?_
          refine al_do rfl (does_append rfl rfl rfl rfl rfl rfl rfl (by simp; omega) (by simp; omega)) ?_
          refine al_do rfl (does_take (.inr rfl) rfl rfl rfl) ?_
          refine al_nil ?_
          refine awp_region ?_
          refine al_do rfl (does_take (.inl rfl) rfl rfl rfl) ?_
          refine al_pure rfl rfl rfl (pure_move rfl (fun _ => rfl)) ?_
          refine al_pure rfl rfl rfl (pure_move rfl (fun _ => rfl)) ?_
          refine al_pure rfl rfl rfl (pure_indexAddr rfl rfl (fun _ => rfl) (fun _ => rfl) rfl rfl rfl (fun _ => T.rows_get hx)) ?_
          refine al_pure rfl rfl rfl (pure_loadRoRow rfl (fun _ => rfl) rfl rfl rfl rfl) ?_
          refine al_buildSlice (xs := [_]) rfl rfl rfl rfl rfl rfl rfl rfl rfl (fun _ => rfl) rfl ?_
          refine al_do rfl (does_append rfl rfl rfl rfl rfl rfl rfl (by simp; omega) (by simp; omega)) ?_
          refine al_do rfl (does_take (.inr rfl) rfl rfl rfl) ?_
          refine al_nil ?_
          refine awp_sub (s := { t := [(0, _, _), (3, _, _), (5, _, _), (6, _, _), (7, _, _), (8, _, _), (9, _, _), (10, _, _), (11, _, _), (12, _, _), (15, _, _), (16, _, _), (17, _, _), (18, _, _), (19, _, _), (20, _, _), (21, _, _), (22, _, _), (23, _, _), (24, _, _), (25, _, _), (26, _, _), (27, _, _), (28, _, _), (29, _, _), (30, _, _), (31, _, _), (32, _, _), (33, _, _), (34, _, _), (35, _, _), (36, _, _), (37, _, _), (38, _, _), (39, _, _)], bx := [((.l 3), _)], ow := [((.t 31), _), ((.t 38), _), ((.t 5), _)] }) (sub_mk (⟨⟨_, rfl, rfl⟩, ⟨⟨_, rfl, rfl⟩, ⟨⟨_, rfl, rfl⟩, ⟨⟨_, rfl, rfl⟩, ⟨⟨_, rfl, rfl⟩, ⟨⟨_, rfl, rfl⟩, ⟨⟨_, rfl, rfl⟩, ⟨⟨_, rfl, rfl⟩, ⟨⟨_, rfl, rfl⟩, ⟨⟨_, rfl, rfl⟩, ⟨⟨_, rfl, rfl⟩, ⟨⟨_, rfl, rfl⟩, ⟨⟨_, rfl, rfl⟩, ⟨⟨_, rfl, rfl⟩, ⟨⟨_, rfl, rfl⟩, ⟨⟨_, rfl, rfl⟩, ⟨⟨_, rfl, rfl⟩, ⟨⟨_, rfl, rfl⟩, ⟨⟨_, rfl, rfl⟩, ⟨⟨_, rfl, rfl⟩, ⟨⟨_, rfl, rfl⟩, ⟨⟨_, rfl, rfl⟩, ⟨⟨_, rfl, rfl⟩, ⟨⟨_, rfl, rfl⟩, ⟨⟨_, rfl, rfl⟩, ⟨⟨_, rfl, rfl⟩, ⟨⟨_, rfl, rfl⟩, ⟨⟨_, rfl, rfl⟩, ⟨⟨_, rfl, rfl⟩, ⟨⟨_, rfl, rfl⟩, ⟨⟨_, rfl, rfl⟩, ⟨⟨_, rfl, rfl⟩, ⟨⟨_, rfl, rfl⟩, ⟨⟨_, rfl, rfl⟩, ⟨⟨_, rfl, rfl⟩, trivial⟩⟩⟩⟩⟩⟩⟩⟩⟩⟩⟩⟩⟩⟩⟩⟩⟩⟩⟩⟩⟩⟩⟩⟩⟩⟩⟩⟩⟩⟩⟩⟩⟩⟩⟩) (⟨⟨_, rfl, rfl⟩, trivial⟩) (⟨rfl, ⟨rfl, ⟨rfl, trivial⟩⟩⟩)) ?_
          refine awp_region ?_
          refine al_pure rfl rfl rfl (pure_move rfl (fun _ => rfl)) ?_
          refine al_pure rfl rfl rfl (pure_arith rfl rfl (fun _ => rfl) (fun _ => rfl) rfl (IntWalk.i64_in _ (by omega))) ?_
          refine al_pure rfl rfl rfl (pure_assign rfl (fun _ => rfl)) ?_
          refine al_nil ?_
          refine ⟨⟨k + 1, out ++ [t, x], true⟩, ⟨by dsimp only; omega, by simpa using hz⟩, by dsimp only; omega, ?_⟩
          · refine sub_mk ⟨⟨_, rfl, rfl⟩, ⟨_, rfl, rfl⟩, ⟨_, rfl, ?_⟩, ⟨_, rfl, rfl⟩, ⟨_, rfl, rfl⟩, trivial⟩ ⟨⟨_, rfl, rfl⟩, trivial⟩ ⟨rfl, trivial⟩
            simp [T.rows_eq, T.take4]
        · simp only [decide_eq_false_iff_not] at hc3
          rw [if_neg hc3] at hz
          refine awp_skip ?_
          refine awp_region ?_
          refine al_do rfl (does_take (.inl rfl) rfl rfl rfl) ?_
          refine al_pure rfl rfl rfl (pure_move rfl (fun _ => rfl)) ?_
          refine al_pure rfl rfl rfl (pure_move rfl (fun _ => rfl)) ?_
          refine al_pure rfl rfl rfl (pure_indexAddr rfl rfl (fun _ => rfl) (fun _ => rfl) rfl rfl rfl (fun _ => T.rows_get hx)) ?_
          refine al_pure rfl rfl rfl (pure_loadRoRow rfl (fun _ => rfl) rfl rfl rfl rfl) ?_
          refine al_buildSlice (xs := [_]) rfl rfl rfl rfl rfl rfl rfl rfl rfl (fun _ => rfl) rfl ?_
          refine al_do rfl (does_append rfl rfl rfl rfl rfl rfl rfl (by simp; omega) (by simp; omega)) ?_
          refine al_do rfl (does_take (.inr rfl) rfl rfl rfl) ?_
          refine al_nil ?_
          refine awp_sub (s := { t := [(0, _, _), (3, _, _), (5, _, _), (6, _, _), (7, _, _), (8, _, _), (9, _, _), (10, _, _), (11, _, _), (12, _, _), (15, _, _), (16, _, _), (17, _, _), (18, _, _), (19, _, _), (20, _, _), (21, _, _), (22, _, _), (23, _, _), (24, _, _), (25, _, _), (26, _, _), (27, _, _), (28, _, _), (33, _, _), (34, _, _), (35, _, _), (36, _, _), (37, _, _), (38, _, _), (39, _, _)], bx := [((.l 3), _)], ow := [((.t 38), _), ((.t 5), _)] }) (sub_mk (⟨⟨_, rfl, rfl⟩, ⟨⟨_, rfl, rfl⟩, ⟨⟨_, rfl, rfl⟩, ⟨⟨_, rfl, rfl⟩, ⟨⟨_, rfl, rfl⟩, ⟨⟨_, rfl, rfl⟩, ⟨⟨_, rfl, rfl⟩, ⟨⟨_, rfl, rfl⟩, ⟨⟨_, rfl, rfl⟩, ⟨⟨_, rfl, rfl⟩, ⟨⟨_, rfl, rfl⟩, ⟨⟨_, rfl, rfl⟩, ⟨⟨_, rfl, rfl⟩, ⟨⟨_, rfl, rfl⟩, ⟨⟨_, rfl, rfl⟩, ⟨⟨_, rfl, rfl⟩, ⟨⟨_, rfl, rfl⟩, ⟨⟨_, rfl, rfl⟩, ⟨⟨_, rfl, rfl⟩, ⟨⟨_, rfl, rfl⟩, ⟨⟨_, rfl, rfl⟩, ⟨⟨_, rfl, rfl⟩, ⟨⟨_, rfl, rfl⟩, ⟨⟨_, rfl, rfl⟩, ⟨⟨_, rfl, rfl⟩, ⟨⟨_, rfl, rfl⟩, ⟨⟨_, rfl, rfl⟩, ⟨⟨_, rfl, rfl⟩, ⟨⟨_, rfl, rfl⟩, ⟨⟨_, rfl, rfl⟩, ⟨⟨_, rfl, rfl⟩, trivial⟩⟩⟩⟩⟩⟩⟩⟩⟩⟩⟩⟩⟩⟩⟩⟩⟩⟩⟩⟩⟩⟩⟩⟩⟩⟩⟩⟩⟩⟩⟩) (⟨⟨_, rfl, rfl⟩, trivial⟩) (⟨rfl, ⟨rfl, trivial⟩⟩)) ?_
          refine awp_region ?_
          refine al_pure rfl rfl rfl (pure_move rfl (fun _ => rfl)) ?_
          refine al_pure rfl rfl rfl (pure_arith rfl rfl (fun _ => rfl) (fun _ => rfl) rfl (IntWalk.i64_in _ (by omega))) ?_
          refine al_pure rfl rfl rfl (pure_assign rfl (fun _ => rfl)) ?_
          refine al_nil ?_
          refine ⟨⟨k + 1, out ++ [x], true⟩, ⟨by dsimp only; omega, by simpa using hz⟩, by dsimp only; omega, ?_⟩
          refine sub_mk ⟨⟨_, rfl, rfl⟩, ⟨_, rfl, rfl⟩, ⟨_, rfl, ?_⟩, ⟨_, rfl, rfl⟩, ⟨_, rfl, rfl⟩, trivial⟩ ⟨⟨_, rfl, rfl⟩, trivial⟩ ⟨rfl, trivial⟩
          simp [T.rows_eq, T.take4]
      · have hn : ¬ (d = false ∧ t.cmp x ≤ 0) := by
          intro h; rw [h.1] at hc2; simp [h.2] at hc2
        rw [if_neg hn] at hz
        refine awp_skip ?_
        refine awp_region ?_
        refine al_do rfl (does_take (.inl rfl) rfl rfl rfl) ?_
        refine al_pure rfl rfl rfl (pure_move rfl (fun _ => rfl)) ?_
        refine al_pure rfl rfl rfl (pure_move rfl (fun _ => rfl)) ?_
        refine al_pure rfl rfl rfl (pure_indexAddr rfl rfl (fun _ => rfl) (fun _ => rfl) rfl rfl rfl (fun _ => T.rows_get hx)) ?_
        refine al_pure rfl rfl rfl (pure_loadRoRow rfl (fun _ => rfl) rfl rfl rfl rfl) ?_
        refine al_buildSlice (xs := [_]) rfl rfl rfl rfl rfl rfl rfl rfl rfl (fun _ => rfl) rfl ?_
        refine al_do rfl (does_append rfl rfl rfl rfl rfl rfl rfl (by simp; omega) (by simp; omega)) ?_
        refine al_do rfl (does_take (.inr rfl) rfl rfl rfl) ?_
        refine al_nil ?_
        refine awp_sub (s := { t := [(0, _, _), (3, _, _), (5, _, _), (6, _, _), (7, _, _), (8, _, _), (9, _, _), (10, _, _), (11, _, _), (12, _, _), (15, _, _), (16, _, _), (17, _, _), (18, _, _), (19, _, _), (20, _, _), (21, _, _), (22, _, _), (23, _, _), (24, _, _), (25, _, _), (26, _, _), (33, _, _), (34, _, _), (35, _, _), (36, _, _), (37, _, _), (38, _, _), (39, _, _)], bx := [((.l 3), _)], ow := [((.t 38), _), ((.t 5), _)] }) (sub_mk (⟨⟨_, rfl, rfl⟩, ⟨⟨_, rfl, rfl⟩, ⟨⟨_, rfl, rfl⟩, ⟨⟨_, rfl, rfl⟩, ⟨⟨_, rfl, rfl⟩, ⟨⟨_, rfl, rfl⟩, ⟨⟨_, rfl, rfl⟩, ⟨⟨_, rfl, rfl⟩, ⟨⟨_, rfl, rfl⟩, ⟨⟨_, rfl, rfl⟩, ⟨⟨_, rfl, rfl⟩, ⟨⟨_, rfl, rfl⟩, ⟨⟨_, rfl, rfl⟩, ⟨⟨_, rfl, rfl⟩, ⟨⟨_, rfl, rfl⟩, ⟨⟨_, rfl, rfl⟩, ⟨⟨_, rfl, rfl⟩, ⟨⟨_, rfl, rfl⟩, ⟨⟨_, rfl, rfl⟩, ⟨⟨_, rfl, rfl⟩, ⟨⟨_, rfl, rfl⟩, ⟨⟨_, rfl, rfl⟩, ⟨⟨_, rfl, rfl⟩, ⟨⟨_, rfl, rfl⟩, ⟨⟨_, rfl, rfl⟩, ⟨⟨_, rfl, rfl⟩, ⟨⟨_, rfl, rfl⟩, ⟨⟨_, rfl, rfl⟩, ⟨⟨_, rfl, rfl⟩, trivial⟩⟩⟩⟩⟩⟩⟩⟩⟩⟩⟩⟩⟩⟩⟩⟩⟩⟩⟩⟩⟩⟩⟩⟩⟩⟩⟩⟩⟩) (⟨⟨_, rfl, rfl⟩, trivial⟩) (⟨rfl, ⟨rfl, trivial⟩⟩)) ?_
        refine awp_region ?_
        refine al_pure rfl rfl rfl (pure_move rfl (fun _ => rfl)) ?_
        refine al_pure rfl rfl rfl (pure_arith rfl rfl (fun _ => rfl) (fun _ => rfl) rfl (IntWalk.i64_in _ (by omega))) ?_
        refine al_pure rfl rfl rfl (pure_assign rfl (fun _ => rfl)) ?_
        refine al_nil ?_
        refine ⟨⟨k + 1, out ++ [x], d⟩, ⟨by dsimp only; omega, by simpa using hz⟩, by dsimp only; omega, ?_⟩
        refine sub_mk ⟨⟨_, rfl, rfl⟩, ⟨_, rfl, rfl⟩, ⟨_, rfl, ?_⟩, ⟨_, rfl, rfl⟩, ⟨_, rfl, rfl⟩, trivial⟩ ⟨⟨_, rfl, rfl⟩, trivial⟩ ⟨rfl, trivial⟩
        simp [T.rows_eq, T.take4]
    · rw [T.rows_len] at hc
      have : k = l.length := by simp at hc; omega
      subst this
      rw [List.drop_length, addG] at hz
      refine awp_exit ?_
      repeat (first | refine thenS_exit ?_ | refine blockS_hit ?_ | refine blockS_miss rfl ?_)
      refine awp_seq ?_
      refine awp_seq ?_
      refine awp_region ?_
      refine al_pure rfl rfl rfl (pure_move rfl (fun _ => rfl)) ?_
      refine al_pure rfl rfl rfl (pure_not rfl (fun _ => rfl)) ?_
      refine al_nil ?_
      refine awp_cond rfl (fun hc2 => ?_) (fun hc2 => ?_)
      · simp only [Bool.not_eq_true'] at hc2
        subst hc2
        refine awp_region ?_
        refine al_do rfl (does_take (.inl rfl) rfl rfl rfl) ?_
        refine al_pure rfl rfl rfl (pure_loadBoxRow rfl (fun _ => rfl) rfl rfl rfl rfl rfl) ?_
        refine al_buildSlice (xs := [_]) rfl rfl rfl rfl rfl rfl rfl rfl rfl (fun _ => rfl) rfl ?_
        refine al_do rfl (does_append rfl rfl rfl rfl rfl rfl rfl (by simp; omega) (by simp; omega)) ?_
        refine al_do rfl (does_take (.inr rfl) rfl rfl rfl) ?_
        refine al_nil ?_
        refine awp_sub (s := { t := [(5, _, _)], bx := [], ow := [((.t 5), _)] }) (sub_mk (⟨⟨_, rfl, rfl⟩, trivial⟩) trivial (⟨rfl, trivial⟩)) ?_
        refine awp_seq ?_
        refine awp_region ?_
        refine al_do rfl (does_take (.inl rfl) rfl rfl rfl) ?_
        refine al_do rfl (does_take (.inr rfl) rfl rfl rfl) ?_
        refine al_nil ?_
        refine awp_ret ?_
        repeat (first | refine thenS_ret ?_ | refine blockS_ret ?_)
        refine ret_ok rfl ?_ trivial
        rw [← hz, if_neg (by simp), ← xl_app, T.rows_one]; rfl
      · simp only [Bool.not_eq_false'] at hc2
        subst hc2
        refine awp_skip ?_
        refine awp_seq ?_
        refine awp_region ?_
        refine al_do rfl (does_take (.inl rfl) rfl rfl rfl) ?_
        refine al_do rfl (does_take (.inr rfl) rfl rfl rfl) ?_
        refine al_nil ?_
        refine awp_ret ?_
        repeat (first | refine thenS_ret ?_ | refine blockS_ret ?_)
        refine ret_ok rfl ?_ trivial
        rw [← hz]; simp; rfl
end Go.Proofs.Ytginljdgdllhfaa
