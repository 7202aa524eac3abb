/- Contracts: the proof of inclusion, of any log. -/
import Derived.Test.YtginljdgdllhfaaInclude
import Derived.Test.YtginljdgdllhfaaAbs22
set_option linter.unusedVariables false
set_option linter.unusedSimpArgs false
namespace Go.Proofs.Ytginljdgdllhfaa
open Go Go.Abs
def inclS (p : IncI) : St := { t := [(0, true, xl p.l), (1, true, xi p.i), (8, true, .v (.ms (.l 1001) 4 0 p.out.length))], bx := [((.l 1001), (T.rows p.out).flatten)], ow := [(.t 8, 4)] }
structure RevI where
  a : Nat
  b : Int
  out : List T
def revsS (p : RevI) : St := { t := [(8, true, .v (.ms (.l 1000) 4 0 p.out.length)), (10, true, xi p.a), (11, true, xi p.b)], bx := [((.l 1000), (T.rows p.out).flatten)], ow := [] }
theorem rows4 (l : List T) : ∀ (i : Nat) (row : List C), (T.rows l)[i]? = some row → row.length = 4 := by
  intro i row h
  rw [T.rows_eq, List.getElem?_map, Option.map_eq_some_iff] at h
  obtain ⟨t, _, rfl⟩ := h
  rfl
theorem rows_flat_len (l : List T) : (T.rows l).flatten.length = l.length * 4 := by rw [flat_len (rows4 l), T.rows_len]
theorem rows_set (l : List T) (i : Nat) (t : T) : (T.rows l).set i t.cells = T.rows (l.set i t) := by
  rw [T.rows_eq, T.rows_eq, List.map_set]
theorem rows_setAt (l : List T) (i : Nat) (t : T) (h : i < l.length) : setAt (T.rows l).flatten (i * 4) t.cells = (T.rows (l.set i t)).flatten := by
  rw [setAt_flat (rows4 l) (by rw [T.rows_len]; exact h) rfl, rows_set]
theorem rows_at (l : List T) (i : Nat) (t : T) (h : l[i]? = some t) : ((T.rows l).flatten.drop (0 + i * 4)).take 4 = t.cells := by
  rw [Nat.zero_add, flat_row (rows4 l) (T.rows_get h)]
theorem row_fits (l : List T) (i : Nat) (t : T) (h : i < l.length) : Nat.ble (0 + i * 4 + t.cells.length) (T.rows l).flatten.length = true := by
  rw [rows_flat_len]
  exact Nat.ble_eq_true_of_le (by show 0 + i * 4 + 4 ≤ _; omega)
theorem Include_spec (l : List T) (n : Int) (h : T.sizes l ≤ 10000) (h2 : l.length ≤ 10000) : Ctr sys 20 [xl l, xi n] [] (.tup [.c (.sl 4 (T.rows (incE l n).1)), .c (.i .i64 (incE l n).2)]) none [] := by
  refine spec_intro Try.func20 rfl rfl rfl rfl rfl rfl ?_
  refine awp_seq ?_
  refine awp_region ?_
  refine al_do rfl (does_nil (.inr rfl) rfl rfl) ?_
  refine al_pure rfl rfl rfl (pure_assign rfl (fun _ => rfl)) ?_
  refine al_nil ?_
  refine awp_seq ?_
  refine awp_seq ?_
  refine awp_region ?_
  refine al_pure rfl rfl rfl (pure_move rfl (fun _ => rfl)) ?_
  refine al_call rfl rfl rfl rfl rfl rfl (fun _ => rfl) (fun _ => rfl) (right_spec l (by omega)) rfl ?_
  refine al_pure rfl rfl rfl (pure_assign rfl (fun _ => rfl)) ?_
  refine al_nil ?_
  refine awp_seq ?_
  refine awp_region ?_
  refine al_pure rfl rfl rfl (pure_move rfl (fun _ => rfl)) ?_
  refine al_pure rfl rfl rfl (pure_cmp rfl rfl (fun _ => rfl) (fun _ => rfl) rfl) ?_
  refine al_nil ?_
  refine awp_cond rfl (fun hc => ?_) (fun hc => ?_)
  · refine awp_seq ?_
    refine awp_region ?_
    refine al_pure rfl rfl rfl (pure_move rfl (fun _ => rfl)) ?_
    refine al_do rfl (does_nil (.inr rfl) rfl rfl) ?_
    refine al_pure rfl rfl rfl (pure_assign rfl (fun _ => rfl)) ?_
    refine al_nil ?_
    refine awp_ret ?_
    repeat (first | refine thenS_ret ?_ | refine blockS_ret ?_)
    refine ret_ok rfl ?_ trivial
    rw [incE, if_pos (by simpa using hc)]; rfl
  · refine awp_skip ?_
    refine awp_seq ?_
    refine awp_seq ?_
    refine awp_region ?_
    refine al_pure rfl rfl rfl (pure_move rfl (fun _ => rfl)) ?_
    refine al_pure rfl rfl rfl (pure_cmp rfl rfl (fun _ => rfl) (fun _ => rfl) rfl) ?_
    refine al_pure rfl rfl rfl (pure_move rfl (fun _ => rfl)) ?_
    refine al_pure rfl rfl rfl (pure_move rfl (fun _ => rfl)) ?_
    refine al_pure rfl rfl rfl (pure_move rfl (fun _ => rfl)) ?_
    refine al_pure rfl rfl rfl (pure_lenSl rfl (fun hh => hh) rfl rfl) ?_
    refine al_pure rfl rfl rfl (pure_cmp rfl rfl (fun hh => hh) (fun hh => hh) rfl) ?_
    refine al_pure rfl rfl rfl (pure_or rfl rfl (fun _ => rfl) (fun _ hi => gP rfl hi)) ?_
    refine al_nil ?_
    refine awp_sub (s := { t := [(0, _, _), (1, _, _), (4, _, _), (5, _, _), (24, _, _)], bx := [], ow := [((.t 4), _)] }) (sub_mk (⟨⟨_, rfl, rfl⟩, ⟨⟨_, rfl, rfl⟩, ⟨⟨_, rfl, rfl⟩, ⟨⟨_, rfl, rfl⟩, ⟨⟨_, rfl, rfl⟩, trivial⟩⟩⟩⟩⟩) trivial (⟨rfl, trivial⟩)) ?_
    refine awp_cond rfl (fun hc2 => ?_) (fun hc2 => ?_)
    · refine awp_seq ?_
      refine awp_region ?_
      refine al_do rfl (does_nil (.inr rfl) rfl rfl) ?_
      refine al_pure rfl rfl rfl (pure_assign rfl (fun _ => rfl)) ?_
      refine al_nil ?_
      refine awp_ret ?_
      repeat (first | refine thenS_ret ?_ | refine blockS_ret ?_)
      refine ret_ok rfl ?_ trivial
      simp only [Bool.or_eq_true, decide_eq_true_eq, T.rows_len] at hc2
      rw [incE, if_neg (by simpa using hc), if_pos hc2]; rfl
    · simp only [Bool.or_eq_false_iff, decide_eq_false_iff_not, T.rows_len] at hc2
      refine awp_skip ?_
      refine awp_seq ?_
      refine awp_seq ?_
      refine awp_region ?_
      refine al_pure rfl rfl rfl (pure_move rfl (fun _ => rfl)) ?_
      refine al_call rfl rfl rfl rfl rfl rfl (fun _ => rfl) (fun _ => rfl) (sized_spec l h h2) rfl ?_
      refine al_pure rfl rfl rfl (pure_assign rfl (fun _ => rfl)) ?_
      refine al_nil ?_
      refine awp_seq ?_
      refine awp_region ?_
      refine al_pure rfl rfl rfl (pure_move rfl (fun _ => rfl)) ?_
      refine al_pure rfl rfl rfl (pure_cmp rfl rfl (fun _ => rfl) (fun _ => rfl) rfl) ?_
      refine al_nil ?_
      refine awp_cond rfl (fun hc3 => ?_) (fun hc3 => ?_)
      · refine awp_seq ?_
        refine awp_region ?_
        refine al_pure rfl rfl rfl (pure_move rfl (fun _ => rfl)) ?_
        refine al_do rfl (does_nil (.inr rfl) rfl rfl) ?_
        refine al_pure rfl rfl rfl (pure_assign rfl (fun _ => rfl)) ?_
        refine al_nil ?_
        refine awp_ret ?_
        repeat (first | refine thenS_ret ?_ | refine blockS_ret ?_)
        refine ret_ok rfl ?_ trivial
        rw [incE, if_neg (by simpa using hc), if_neg (by omega), if_pos (by simpa using hc3)]; rfl
      · obtain ⟨m, rfl⟩ : ∃ m : Nat, n = m := ⟨n.toNat, by omega⟩
        have hE : incE l m = ((incF l.length l m).reverse, 0) := by
          rw [incE, if_neg (by simpa using hc), if_neg (by omega), if_neg (by simpa using hc3)]; rfl
        refine awp_skip ?_
        refine awp_seq ?_
        refine awp_region ?_
        refine al_do rfl (does_nil (.inr rfl) rfl rfl) ?_
        refine al_nil ?_
        refine awp_seq ?_
        refine awp_block ?_
        refine awp_thaw 8 1001 rfl rfl rfl ?_
        refine awp_loop (inclS) (fun p => p.out ++ incF p.f p.l p.i = incF l.length l m ∧ p.l.length ≤ p.f ∧ p.i < p.l.length ∧ T.sizes p.l ≤ 10000 ∧ p.f + p.out.length ≤ 10000) (fun p => p.f) ⟨l.length, l, m, []⟩ ⟨by simp, by simp, by dsimp only; omega, h, by simpa using h2⟩ ?_ ?_
        · refine sub_mk ⟨⟨_, rfl, rfl⟩, ⟨_, rfl, rfl⟩, ⟨_, rfl, rfl⟩, trivial⟩ ⟨⟨_, rfl, rfl⟩, trivial⟩ ⟨rfl, trivial⟩
        · rintro ⟨f, l', i, out⟩ ⟨q1, q2, q3, q4, q5⟩
          dsimp only at q1 q2 q3 q4 q5
          dsimp only [inclS]
          have hrl := T.rows_len l'
          refine awp_rename 8 1001 1000 rfl rfl rfl rfl ?_
          refine awp_sub (s := { t := [(0, _, _), (1, _, _), (8, _, _)], bx := [((.l 1000), _)], ow := [((.t 8), _)] }) (sub_mk (⟨⟨_, rfl, rfl⟩, ⟨⟨_, rfl, rfl⟩, ⟨⟨_, rfl, rfl⟩, trivial⟩⟩⟩) (⟨⟨_, rfl, rfl⟩, trivial⟩) (⟨rfl, trivial⟩)) ?_
          refine awp_seq ?_
          refine awp_seq ?_
          refine awp_region ?_
          refine al_pure rfl rfl rfl (pure_move rfl (fun _ => rfl)) ?_
          refine al_lenSl rfl rfl rfl rfl rfl (fun _ => rfl) rfl rfl ?_ (fun hh => by simp at hh); intro hlen
          refine al_pure rfl rfl rfl (pure_cmp rfl rfl (fun _ => rfl) (fun _ => rfl) rfl) ?_
          refine al_nil ?_
          refine awp_cond rfl (fun hc4 => ?_) (fun hc4 => ?_)
          · simp only [decide_eq_true_eq] at hc4
            have h2' : 2 ≤ (T.rows l').length := by omega
            have hb := half_bound h2'
            have hsp := sizes_split l' (half (T.rows l').length)
            have hk1 := headT_size (l'.take (half (T.rows l').length))
            have hk2 := headT_size (l'.drop (half (T.rows l').length))
            have hl1 : (l'.take (half (T.rows l').length)).length = half (T.rows l').length := by rw [List.length_take]; omega
            have hl2 : (l'.drop (half (T.rows l').length)).length = l'.length - half (T.rows l').length := by rw [List.length_drop]
            obtain ⟨f, rfl⟩ : ∃ g, f = g + 1 := ⟨f - 1, by omega⟩
            rw [incF, if_neg (by omega), ← hrl] at q1
            refine awp_skip ?_
            refine awp_block ?_
            refine awp_seq ?_
            refine awp_region ?_
            refine al_pure rfl rfl rfl (pure_move rfl (fun _ => rfl)) ?_
            refine al_lenSl rfl rfl rfl rfl rfl (fun _ => rfl) rfl rfl ?_ (fun hh => by simp at hh); intro hlen
            refine al_call rfl rfl rfl rfl rfl rfl (fun _ => rfl) (fun _ => rfl) (half_spec (T.rows l').length h2' (by omega)) rfl ?_
            refine al_pure rfl rfl rfl (pure_assign rfl (fun _ => rfl)) ?_
            refine al_nil ?_
            refine awp_seq ?_
            refine awp_region ?_
            refine al_pure rfl rfl rfl (pure_move rfl (fun _ => rfl)) ?_
            refine al_pure rfl rfl rfl (pure_move rfl (fun _ => rfl)) ?_
            refine al_pure rfl rfl rfl (pure_cmp rfl rfl (fun _ => rfl) (fun _ => rfl) rfl) ?_
            refine al_nil ?_
            refine awp_sub (s := { t := [(0, _, _), (1, _, _), (8, _, _), (9, _, _), (30, _, _), (31, _, _), (32, _, _), (33, _, _), (34, _, _), (35, _, _), (36, _, _), (37, _, _), (38, _, _)], bx := [((.l 1000), _)], ow := [((.t 8), _)] }) (sub_mk (⟨⟨_, rfl, rfl⟩, ⟨⟨_, rfl, rfl⟩, ⟨⟨_, rfl, rfl⟩, ⟨⟨_, rfl, rfl⟩, ⟨⟨_, rfl, rfl⟩, ⟨⟨_, rfl, rfl⟩, ⟨⟨_, rfl, rfl⟩, ⟨⟨_, rfl, rfl⟩, ⟨⟨_, rfl, rfl⟩, ⟨⟨_, rfl, rfl⟩, ⟨⟨_, rfl, rfl⟩, ⟨⟨_, rfl, rfl⟩, ⟨⟨_, rfl, rfl⟩, trivial⟩⟩⟩⟩⟩⟩⟩⟩⟩⟩⟩⟩⟩) (⟨⟨_, rfl, rfl⟩, trivial⟩) (⟨rfl, trivial⟩)) ?_
            refine awp_cond rfl (fun hc5 => ?_) (fun hc5 => ?_)
            · simp only [decide_eq_true_eq] at hc5
              rw [if_pos (by omega)] at q1
              refine awp_drawn' (by kernel_rfl) ?_
              refine dr_take rfl (.inl rfl) rfl rfl rfl rfl rfl ?_
              refine dr_pure rfl rfl rfl rfl (pure_move rfl (fun _ => rfl)) ?_
              refine dr_pure rfl rfl rfl rfl (pure_move rfl (fun _ => rfl)) ?_
              refine dr_pure rfl rfl rfl rfl (pure_slice rfl (fun _ => rfl) rfl rfl (fun _ => ⟨_, _, _, rfl, (fun _ => rfl), rfl⟩) (fun _ => rfl) (fun _ => by omega) (fun _ => by omega)) ?_
              refine dr_callN rfl rfl rfl rfl rfl rfl rfl (fun _ => rfl) (fun _ => rfl) (head_spec _ (l'.drop (half (T.rows l').length)) _ (by rw [rows_part, T.rows_len, List.take_length]) (Nat.le_refl _) (by omega)) rfl ?_
              refine dr_callN rfl rfl rfl rfl rfl rfl rfl (fun _ => rfl) (fun _ => rfl) (copied_spec _ _ (Nat.le_refl _) (by omega)) rfl ?_
              refine dr_build (xs := [_]) rfl rfl rfl rfl rfl rfl rfl rfl rfl rfl (fun _ => rfl) rfl ?_
              refine dr_appendMs 1001 rfl rfl rfl rfl rfl rfl rfl rfl rfl rfl rfl rfl rfl rfl rfl (rows_flat_len _) (by simp) (by simp; omega) (by simp; omega) ?_
              refine dr_pure rfl rfl rfl rfl (pure_move rfl (fun _ => rfl)) ?_
              refine dr_pure rfl rfl rfl rfl (pure_move rfl (fun _ => rfl)) ?_
              refine dr_pure rfl rfl rfl rfl (pure_slice rfl (fun _ => rfl) rfl rfl (fun _ => rfl) (fun _ => ⟨_, _, _, rfl, (fun _ => rfl), rfl⟩) (fun _ => by omega) (fun _ => by omega)) ?_
              refine dr_take rfl (.inr rfl) rfl rfl rfl rfl rfl ?_
              refine dr_pure rfl rfl rfl rfl (pure_assign rfl (fun _ => rfl)) ?_
              refine dr_nil (by kernel_rfl) ?_
              refine ⟨⟨f, l'.take (half (T.rows l').length), i, out ++ [headT (l'.drop (half (T.rows l').length))]⟩, ⟨by simpa using q1, by dsimp only; omega, by dsimp only; omega, by dsimp only; omega, by simp; omega⟩, by dsimp only; omega, ?_⟩
              refine sub_mk ⟨⟨_, rfl, ?_⟩, ⟨_, rfl, rfl⟩, ⟨_, rfl, ?_⟩, trivial⟩ ⟨⟨_, rfl, ?_⟩, trivial⟩ ⟨rfl, trivial⟩
              · rw [List.drop_zero]; congr 5; exact rows_part l' 0 _
              · simp
              · simp [T.rows_eq]
            · simp only [decide_eq_false_iff_not] at hc5
              rw [if_neg (by omega)] at q1
              have hcast : (i : Int) - (half (T.rows l').length : Nat) = ((i - half (T.rows l').length : Nat) : Int) := by omega
              refine awp_drawn' (by kernel_rfl) ?_
              refine dr_take rfl (.inl rfl) rfl rfl rfl rfl rfl ?_
              refine dr_pure rfl rfl rfl rfl (pure_move rfl (fun _ => rfl)) ?_
              refine dr_pure rfl rfl rfl rfl (pure_move rfl (fun _ => rfl)) ?_
              refine dr_pure rfl rfl rfl rfl (pure_slice rfl (fun _ => rfl) rfl rfl (fun _ => rfl) (fun _ => ⟨_, _, _, rfl, (fun _ => rfl), rfl⟩) (fun _ => by omega) (fun _ => by omega)) ?_
              refine dr_callN rfl rfl rfl rfl rfl rfl rfl (fun _ => rfl) (fun _ => rfl) (head_spec _ (l'.take (half (T.rows l').length)) _ (by rw [rows_part]; rfl) (Nat.le_refl _) (by omega)) rfl ?_
              refine dr_callN rfl rfl rfl rfl rfl rfl rfl (fun _ => rfl) (fun _ => rfl) (copied_spec _ _ (Nat.le_refl _) (by omega)) rfl ?_
              refine dr_build (xs := [_]) rfl rfl rfl rfl rfl rfl rfl rfl rfl rfl (fun _ => rfl) rfl ?_
              refine dr_appendMs 1001 rfl rfl rfl rfl rfl rfl rfl rfl rfl rfl rfl rfl rfl rfl rfl (rows_flat_len _) (by simp) (by simp; omega) (by simp; omega) ?_
              refine dr_pure rfl rfl rfl rfl (pure_move rfl (fun _ => rfl)) ?_
              refine dr_pure rfl rfl rfl rfl (pure_move rfl (fun _ => rfl)) ?_
              refine dr_pure rfl rfl rfl rfl (pure_slice rfl (fun _ => rfl) rfl rfl (fun _ => ⟨_, _, _, rfl, (fun _ => rfl), rfl⟩) (fun _ => rfl) (fun _ => by omega) (fun _ => by omega)) ?_
              refine dr_pure rfl rfl rfl rfl (pure_move rfl (fun _ => rfl)) ?_
              refine dr_pure rfl rfl rfl rfl (pure_move rfl (fun _ => rfl)) ?_
              refine dr_pure rfl rfl rfl rfl (pure_arith rfl rfl (fun _ => rfl) (fun _ => rfl) rfl (IntWalk.i64_in _ (by omega))) ?_
              refine dr_take rfl (.inr rfl) rfl rfl rfl rfl rfl ?_
              refine dr_pure rfl rfl rfl rfl (pure_assign rfl (fun _ => rfl)) ?_
              refine dr_pure rfl rfl rfl rfl (pure_assign rfl (fun _ => rfl)) ?_
              refine dr_nil (by kernel_rfl) ?_
              refine ⟨⟨f, l'.drop (half (T.rows l').length), i - half (T.rows l').length, out ++ [headT (l'.take (half (T.rows l').length))]⟩, ⟨by simpa using q1, by dsimp only; omega, by dsimp only; omega, by dsimp only; omega, by simp; omega⟩, by dsimp only; omega, ?_⟩
              refine sub_mk ⟨⟨_, rfl, ?_⟩, ⟨_, rfl, ?_⟩, ⟨_, rfl, ?_⟩, trivial⟩ ⟨⟨_, rfl, ?_⟩, trivial⟩ ⟨rfl, trivial⟩
              · refine congrArg (fun z => (true, X.v (.c (.sl 4 z)))) ?_
                rw [rows_part, List.take_of_length_le (by omega)]
              · rw [hcast]
              · simp
              · simp [T.rows_eq]
          · simp only [decide_eq_false_iff_not] at hc4
            rw [incF_small _ _ _ (by omega), List.append_nil] at q1
            subst q1
            generalize hO : incF l.length l m = O at *
            refine awp_exit ?_
            repeat (first | refine thenS_exit ?_ | refine blockS_hit ?_ | refine blockS_miss rfl ?_)
            refine awp_seq ?_
            refine awp_seq ?_
            refine awp_region ?_
            refine al_do rfl (does_take (.inl rfl) rfl rfl rfl) ?_
            refine al_pure rfl rfl rfl (pure_lenMs rfl (fun _ => rfl) rfl rfl) ?_
            refine al_pure rfl rfl rfl (pure_arith rfl rfl (fun _ => rfl) (fun _ => rfl) rfl (IntWalk.i64_in _ (by omega))) ?_
            refine al_pure rfl rfl rfl (pure_assign rfl (fun _ => rfl)) ?_
            refine al_pure rfl rfl rfl (pure_assign rfl (fun _ => rfl)) ?_
            refine al_nil ?_
            refine awp_sub (s := { t := [(8, _, _), (10, _, _), (11, _, _)], bx := [((.l 1000), _)], ow := [] }) (sub_mk (⟨⟨_, rfl, rfl⟩, ⟨⟨_, rfl, rfl⟩, ⟨⟨_, rfl, rfl⟩, trivial⟩⟩⟩) (⟨⟨_, rfl, rfl⟩, trivial⟩) trivial) ?_
            refine awp_block ?_
            refine awp_loop (revsS) (fun p => p.out.length = O.length ∧ (p.a : Int) + p.b = O.length - 1 ∧ (p.a : Int) ≤ p.b + 1 ∧ (∀ k, (k < p.a ∨ p.b < k) → p.out[k]? = O.reverse[k]?) ∧ ∀ k, p.a ≤ k → (k : Int) ≤ p.b → p.out[k]? = O[k]?) (fun p => O.length - p.a) ⟨0, O.length - 1, O⟩ ⟨rfl, by dsimp only; omega, by dsimp only; omega, by intro k hk; rw [List.getElem?_eq_none (by dsimp only at hk ⊢; omega), List.getElem?_eq_none (by rw [List.length_reverse]; dsimp only at hk; omega)], fun _ _ _ => rfl⟩ ?_ ?_
            · refine sub_mk ⟨⟨_, rfl, rfl⟩, ⟨_, rfl, rfl⟩, ⟨_, rfl, rfl⟩, trivial⟩ ⟨⟨_, rfl, rfl⟩, trivial⟩ trivial
            · rintro ⟨a, b, out⟩ ⟨p1, p2, p3, p4, p5⟩
              dsimp only at p1 p2 p3 p4 p5
              dsimp only [revsS]
              refine awp_seq ?_
              refine awp_seq ?_
              refine awp_region ?_
              refine al_pure rfl rfl rfl (pure_move rfl (fun _ => rfl)) ?_
              refine al_pure rfl rfl rfl (pure_move rfl (fun _ => rfl)) ?_
              refine al_pure rfl rfl rfl (pure_cmp rfl rfl (fun _ => rfl) (fun _ => rfl) rfl) ?_
              refine al_nil ?_
              refine awp_cond rfl (fun hc6 => ?_) (fun hc6 => ?_)
              · simp only [decide_eq_true_eq] at hc6
                obtain ⟨b, rfl⟩ : ∃ c : Nat, b = c := ⟨b.toNat, by omega⟩
                have hx := List.getElem?_eq_getElem (l := out) (i := a) (by omega)
                have hy := List.getElem?_eq_getElem (l := out) (i := b) (by omega)
                refine awp_skip ?_
                refine awp_seq ?_
                refine awp_block ?_
                refine awp_drawn' (by kernel_rfl) ?_
                refine dr_pure rfl rfl rfl rfl (pure_move rfl (fun _ => rfl)) ?_
                refine dr_pure rfl rfl rfl rfl (pure_move rfl (fun _ => rfl)) ?_
                refine dr_pure rfl rfl rfl rfl (pure_move rfl (fun _ => rfl)) ?_
                refine dr_pure rfl rfl rfl rfl (pure_move rfl (fun _ => rfl)) ?_
                refine dr_pure rfl rfl rfl rfl (pure_move rfl (fun _ => rfl)) ?_
                refine dr_pure rfl rfl rfl rfl (pure_move rfl (fun _ => rfl)) ?_
                refine dr_pure rfl rfl rfl rfl (pure_indexMs rfl rfl (fun _ => rfl) (fun _ => rfl) rfl rfl rfl (fun _ => by omega)) ?_
                refine dr_loadRow rfl rfl rfl rfl rfl rfl rfl (fun _ => rfl) rfl rfl rfl (rows_at _ _ _ hy) rfl ?_
                refine dr_pure rfl rfl rfl rfl (pure_move rfl (fun _ => rfl)) ?_
                refine dr_pure rfl rfl rfl rfl (pure_move rfl (fun _ => rfl)) ?_
                refine dr_pure rfl rfl rfl rfl (pure_indexMs rfl rfl (fun _ => rfl) (fun _ => rfl) rfl rfl rfl (fun _ => by omega)) ?_
                refine dr_loadRow rfl rfl rfl rfl rfl rfl rfl (fun _ => rfl) rfl rfl rfl (rows_at _ _ _ hx) rfl ?_
                refine dr_pure rfl rfl rfl rfl (pure_indexMs rfl rfl (fun _ => rfl) (fun _ => rfl) rfl rfl rfl (fun _ => by omega)) ?_
                refine dr_store rfl rfl rfl rfl rfl rfl rfl rfl rfl rfl rfl (row_fits _ _ _ (by omega)) ?_
                refine dr_pure rfl rfl rfl rfl (pure_indexMs rfl rfl (fun _ => rfl) (fun _ => rfl) rfl rfl rfl (fun _ => by omega)) ?_
                refine dr_store rfl rfl rfl rfl rfl rfl rfl rfl rfl rfl rfl (by rw [setAt_length]; exact row_fits _ _ _ (by omega)) ?_
                refine dr_nil (by kernel_rfl) ?_
                refine awp_sub (s := { t := [(8, _, _), (10, _, _), (11, _, _), (67, _, _), (68, _, _), (69, _, _), (74, _, _), (75, _, _), (76, _, _), (77, _, _), (78, _, _), (79, _, _), (80, _, _), (81, _, _), (82, _, _), (83, _, _), (84, _, _), (85, _, _), (86, _, _), (87, _, _)], bx := [((.l 1000), _)], ow := [] }) (sub_mk (⟨⟨_, rfl, rfl⟩, ⟨⟨_, rfl, rfl⟩, ⟨⟨_, rfl, rfl⟩, ⟨⟨_, rfl, rfl⟩, ⟨⟨_, rfl, rfl⟩, ⟨⟨_, rfl, rfl⟩, ⟨⟨_, rfl, rfl⟩, ⟨⟨_, rfl, rfl⟩, ⟨⟨_, rfl, rfl⟩, ⟨⟨_, rfl, rfl⟩, ⟨⟨_, rfl, rfl⟩, ⟨⟨_, rfl, rfl⟩, ⟨⟨_, rfl, rfl⟩, ⟨⟨_, rfl, rfl⟩, ⟨⟨_, rfl, rfl⟩, ⟨⟨_, rfl, rfl⟩, ⟨⟨_, rfl, rfl⟩, ⟨⟨_, rfl, rfl⟩, ⟨⟨_, rfl, rfl⟩, ⟨⟨_, rfl, rfl⟩, trivial⟩⟩⟩⟩⟩⟩⟩⟩⟩⟩⟩⟩⟩⟩⟩⟩⟩⟩⟩⟩) (⟨⟨_, rfl, rfl⟩, trivial⟩) trivial) ?_
                refine awp_region ?_
                refine al_pure rfl rfl rfl (pure_move rfl (fun _ => rfl)) ?_
                refine al_pure rfl rfl rfl (pure_arith rfl rfl (fun _ => rfl) (fun _ => rfl) rfl (IntWalk.i64_in _ (by omega))) ?_
                refine al_pure rfl rfl rfl (pure_move rfl (fun _ => rfl)) ?_
                refine al_pure rfl rfl rfl (pure_arith rfl rfl (fun _ => rfl) (fun _ => rfl) rfl (IntWalk.i64_in _ (by omega))) ?_
                refine al_pure rfl rfl rfl (pure_assign rfl (fun _ => rfl)) ?_
                refine al_pure rfl rfl rfl (pure_assign rfl (fun _ => rfl)) ?_
                refine al_nil ?_
                refine ⟨⟨a + 1, (b : Int) - 1, (out.set a out[b]).set b out[a]⟩, ⟨by simp; omega, by dsimp only; omega, by dsimp only; omega, ?_, ?_⟩, by dsimp only; omega, ?_⟩
                · intro k hk
                  dsimp only at hk ⊢
                  rw [List.getElem?_set, List.getElem?_set]
                  have hr : ∀ j, j < O.length → O.reverse[j]? = O[O.length - 1 - j]? := fun j hj => List.getElem?_reverse hj
                  by_cases hb : b = k
                  · subst hb
                    rw [if_pos rfl, if_pos (by rw [List.length_set]; omega), hr _ (by omega), ← hx, p5 a (Nat.le_refl _) (by omega)]
                    congr 1; omega
                  · rw [if_neg hb]
                    by_cases ha : a = k
                    · subst ha
                      rw [if_pos rfl, if_pos (by omega), hr _ (by omega), ← hy, p5 b (by omega) (Int.le_refl _)]
                      congr 1; omega
                    · rw [if_neg ha]
                      exact p4 k (by omega)
                · intro k hk1 hk2
                  dsimp only at hk1 hk2 ⊢
                  rw [List.getElem?_set, List.getElem?_set, if_neg (by omega), if_neg (by omega)]
                  exact p5 k (by omega) (by omega)
                · refine sub_mk ⟨⟨_, rfl, ?_⟩, ⟨_, rfl, rfl⟩, ⟨_, rfl, rfl⟩, trivial⟩ ⟨⟨_, rfl, ?_⟩, trivial⟩ trivial
                  · simp
                  · rw [Nat.zero_add, Nat.zero_add, rows_setAt _ _ _ (by omega), rows_setAt _ _ _ (by rw [List.length_set]; omega)]
              · simp only [decide_eq_false_iff_not] at hc6
                have hfin : out = O.reverse := by
                  refine List.ext_getElem? fun k => ?_
                  by_cases hk : k < a ∨ b < k
                  · exact p4 k hk
                  · rw [p5 k (by omega) (by omega), List.getElem?_reverse (by omega)]
                    congr 1; omega
                subst hfin
                refine awp_exit ?_
                repeat (first | refine thenS_exit ?_ | refine blockS_hit ?_ | refine blockS_miss rfl ?_)
                refine awp_seq ?_
                refine awp_region ?_
                refine al_freeze 8 1000 (T.rows O.reverse) rfl rfl (T.rows_len _) (by simp; omega) (rows4 _) rfl ?_
                refine al_pure rfl rfl rfl (pure_move rfl (fun _ => rfl)) ?_
                refine al_pure rfl rfl rfl (pure_assign rfl (fun _ => rfl)) ?_
                refine al_pure rfl rfl rfl (pure_assign rfl (fun _ => rfl)) ?_
                refine al_nil ?_
                refine awp_ret ?_
                repeat (first | refine thenS_ret ?_ | refine blockS_ret ?_)
                refine ret_ok rfl ?_ trivial
                rw [hE]; rfl
end Go.Proofs.Ytginljdgdllhfaa
