/- Contracts: the proof of inclusion, as ledger makes it, where it has one entry at most. -/
import Derived.Test.YtginljdgdllhfaaExtend
set_option linter.unusedVariables false
set_option linter.unusedSimpArgs false
namespace Go.Proofs.Ytginljdgdllhfaa
open Go Go.Abs
/-- The proof, from the outside to the inside. -/
def incF : Nat → List T → Nat → List T
  | 0, _, _ => []
  | f + 1, l, i => if l.length ≤ 1 then [] else
    if i < half l.length then headT (l.drop (half l.length)) :: incF f (l.take (half l.length)) i
    else headT (l.take (half l.length)) :: incF f (l.drop (half l.length)) (i - half l.length)
theorem incF_small (f : Nat) (l : List T) (i : Nat) (h : l.length ≤ 1) : incF f l i = [] := by
  cases f with
  | zero => rfl
  | succ f => rw [incF, if_pos h]
structure IncI where
  f : Nat
  l : List T
  i : Nat
  out : List T
def incS (p : IncI) : St := { t := [(0, true, xl p.l), (1, true, xi p.i), (8, true, xl p.out)], bx := [], ow := [(.t 8, 4)] }
def incE (l : List T) (n : Int) : List T × Int :=
  if rightE l ≠ 0 then ([], rightE l) else if n < 0 ∨ (l.length : Int) ≤ n then ([], 7) else if largeE (headT l) ≠ 0 then ([], largeE (headT l)) else ((incF l.length l n.toNat).reverse, 0)
def revS (out : List T) (_u : Unit) : St := { t := [(8, true, xl out), (10, true, xi 0), (11, true, xi ((out.length : Int) - 1))], bx := [], ow := [] }
theorem Include1_spec (l : List T) (n : Int) (h : T.sizes l ≤ 10000) (h2 : l.length ≤ 10000) (h1 : (incF l.length l n.toNat).length ≤ 1) : Ctr sys 20 [xl l, xi n] [] (.tup [.c (.sl 4 (T.rows (incE l n).1)), .c (.i .i64 (incE l n).2)]) none [] := by
  refine spec_intro Try.func20 rfl rfl rfl rfl rfl rfl ?_
  refine awp_seq ?_
  refine awp_region ?_
  refine al_do rfl (does_nil (.inr rfl) rfl rfl) ?_
  refine al_pure rfl rfl rfl (pure_assign rfl (fun _ => rfl)) ?_
  refine al_nil ?_
  refine awp_seq ?_
  refine awp_seq ?_
  refine awp_region ?_
  refine al_pure rfl rfl rfl (pure_move rfl (fun _ => rfl)) ?_
  refine al_call rfl rfl rfl rfl rfl rfl (fun _ => rfl) (fun _ => rfl) (right_spec l (by omega)) rfl ?_
  refine al_pure rfl rfl rfl (pure_assign rfl (fun _ => rfl)) ?_
  refine al_nil ?_
  refine awp_seq ?_
  refine awp_region ?_
  refine al_pure rfl rfl rfl (pure_move rfl (fun _ => rfl)) ?_
  refine al_pure rfl rfl rfl (pure_cmp rfl rfl (fun _ => rfl) (fun _ => rfl) rfl) ?_
  refine al_nil ?_
  refine awp_cond rfl (fun hc => ?_) (fun hc => ?_)
  · refine awp_seq ?_
    refine awp_region ?_
    refine al_pure rfl rfl rfl (pure_move rfl (fun _ => rfl)) ?_
    refine al_do rfl (does_nil (.inr rfl) rfl rfl) ?_
    refine al_pure rfl rfl rfl (pure_assign rfl (fun _ => rfl)) ?_
    refine al_nil ?_
    refine awp_ret ?_
    repeat (first | refine thenS_ret ?_ | refine blockS_ret ?_)
    refine ret_ok rfl ?_ trivial
    rw [incE, if_pos (by simpa using hc)]; rfl
  · refine awp_skip ?_
    refine awp_seq ?_
    refine awp_seq ?_
    refine awp_region ?_
    refine al_pure rfl rfl rfl (pure_move rfl (fun _ => rfl)) ?_
    refine al_pure rfl rfl rfl (pure_cmp rfl rfl (fun _ => rfl) (fun _ => rfl) rfl) ?_
    refine al_pure rfl rfl rfl (pure_move rfl (fun _ => rfl)) ?_
    refine al_pure rfl rfl rfl (pure_move rfl (fun _ => rfl)) ?_
    refine al_pure rfl rfl rfl (pure_move rfl (fun _ => rfl)) ?_
    refine al_pure rfl rfl rfl (pure_lenSl rfl (fun hh => hh) rfl rfl) ?_
    refine al_pure rfl rfl rfl (pure_cmp rfl rfl (fun hh => hh) (fun hh => hh) rfl) ?_
    refine al_pure rfl rfl rfl (pure_or rfl rfl (fun _ => rfl) (fun _ hi => gP rfl hi)) ?_
    refine al_nil ?_
    refine awp_sub (s := { t := [(0, _, _), (1, _, _), (4, _, _), (5, _, _), (24, _, _)], bx := [], ow := [((.t 4), _)] }) (sub_mk (⟨⟨_, rfl, rfl⟩, ⟨⟨_, rfl, rfl⟩, ⟨⟨_, rfl, rfl⟩, ⟨⟨_, rfl, rfl⟩, ⟨⟨_, rfl, rfl⟩, trivial⟩⟩⟩⟩⟩) trivial (⟨rfl, trivial⟩)) ?_
    refine awp_cond rfl (fun hc2 => ?_) (fun hc2 => ?_)
    · refine awp_seq ?_
      refine awp_region ?_
      refine al_do rfl (does_nil (.inr rfl) rfl rfl) ?_
      refine al_pure rfl rfl rfl (pure_assign rfl (fun _ => rfl)) ?_
      refine al_nil ?_
      refine awp_ret ?_
      repeat (first | refine thenS_ret ?_ | refine blockS_ret ?_)
      refine ret_ok rfl ?_ trivial
      simp only [Bool.or_eq_true, decide_eq_true_eq, T.rows_len] at hc2
      rw [incE, if_neg (by simpa using hc), if_pos hc2]; rfl
    · simp only [Bool.or_eq_false_iff, decide_eq_false_iff_not, T.rows_len] at hc2
      refine awp_skip ?_
      refine awp_seq ?_
      refine awp_seq ?_
      refine awp_region ?_
      refine al_pure rfl rfl rfl (pure_move rfl (fun _ => rfl)) ?_
      refine al_call rfl rfl rfl rfl rfl rfl (fun _ => rfl) (fun _ => rfl) (sized_spec l h h2) rfl ?_
      refine al_pure rfl rfl rfl (pure_assign rfl (fun _ => rfl)) ?_
      refine al_nil ?_
      refine awp_seq ?_
      refine awp_region ?_
      refine al_pure rfl rfl rfl (pure_move rfl (fun _ => rfl)) ?_
      refine al_pure rfl rfl rfl (pure_cmp rfl rfl (fun _ => rfl) (fun _ => rfl) rfl) ?_
      refine al_nil ?_
      refine awp_cond rfl (fun hc3 => ?_) (fun hc3 => ?_)
      · refine awp_seq ?_
        refine awp_region ?_
        refine al_pure rfl rfl rfl (pure_move rfl (fun _ => rfl)) ?_
        refine al_do rfl (does_nil (.inr rfl) rfl rfl) ?_
        refine al_pure rfl rfl rfl (pure_assign rfl (fun _ => rfl)) ?_
        refine al_nil ?_
        refine awp_ret ?_
        repeat (first | refine thenS_ret ?_ | refine blockS_ret ?_)
        refine ret_ok rfl ?_ trivial
        rw [incE, if_neg (by simpa using hc), if_neg (by omega), if_pos (by simpa using hc3)]; rfl
      · obtain ⟨m, rfl⟩ : ∃ m : Nat, n = m := ⟨n.toNat, by omega⟩
        have hE : incE l m = ((incF l.length l m).reverse, 0) := by
          rw [incE, if_neg (by simpa using hc), if_neg (by omega), if_neg (by simpa using hc3)]; rfl
        rw [Int.toNat_natCast] at h1
        refine awp_skip ?_
        refine awp_seq ?_
        refine awp_region ?_
        refine al_do rfl (does_nil (.inr rfl) rfl rfl) ?_
        refine al_nil ?_
        refine awp_seq ?_
        refine awp_block ?_
        refine awp_loop (incS) (fun p => p.out ++ incF p.f p.l p.i = incF l.length l m ∧ p.l.length ≤ p.f ∧ p.i < p.l.length ∧ T.sizes p.l ≤ 10000 ∧ p.f ≤ 10000) (fun p => p.f) ⟨l.length, l, m, []⟩ ⟨by simp, by simp, by dsimp only; omega, h, h2⟩ ?_ ?_
        · refine sub_mk ⟨⟨_, rfl, rfl⟩, ⟨_, rfl, rfl⟩, ⟨_, rfl, rfl⟩, trivial⟩ trivial ⟨rfl, trivial⟩
        · rintro ⟨f, l', i, out⟩ ⟨q1, q2, q3, q4, q5⟩
          dsimp only at q1 q2 q3 q4 q5
          dsimp only [incS]
          have hrl := T.rows_len l'
          refine awp_seq ?_
          refine awp_seq ?_
          refine awp_region ?_
          refine al_pure rfl rfl rfl (pure_move rfl (fun _ => rfl)) ?_
          refine al_lenSl rfl rfl rfl rfl rfl (fun _ => rfl) rfl rfl ?_ (fun hh => by simp at hh); intro hlen
          refine al_pure rfl rfl rfl (pure_cmp rfl rfl (fun _ => rfl) (fun _ => rfl) rfl) ?_
          refine al_nil ?_
          refine awp_cond rfl (fun hc4 => ?_) (fun hc4 => ?_)
          · simp only [decide_eq_true_eq] at hc4
            have h2' : 2 ≤ (T.rows l').length := by omega
            have hb := half_bound h2'
            have hsp := sizes_split l' (half (T.rows l').length)
            have hk1 := headT_size (l'.take (half (T.rows l').length))
            have hk2 := headT_size (l'.drop (half (T.rows l').length))
            have hl1 : (l'.take (half (T.rows l').length)).length = half (T.rows l').length := by rw [List.length_take]; omega
            have hl2 : (l'.drop (half (T.rows l').length)).length = l'.length - half (T.rows l').length := by rw [List.length_drop]
            obtain ⟨f, rfl⟩ : ∃ g, f = g + 1 := ⟨f - 1, by omega⟩
            rw [incF, if_neg (by omega), ← hrl] at q1
            have hol : out.length ≤ 1 := by have := congrArg List.length q1; rw [List.length_append] at this; omega
            have hor := T.rows_len out
            refine awp_skip ?_
            refine awp_block ?_
            refine awp_seq ?_
            refine awp_region ?_
            refine al_pure rfl rfl rfl (pure_move rfl (fun _ => rfl)) ?_
            refine al_lenSl rfl rfl rfl rfl rfl (fun _ => rfl) rfl rfl ?_ (fun hh => by simp at hh); intro hlen
            refine al_call rfl rfl rfl rfl rfl rfl (fun _ => rfl) (fun _ => rfl) (half_spec (T.rows l').length h2' (by omega)) rfl ?_
            refine al_pure rfl rfl rfl (pure_assign rfl (fun _ => rfl)) ?_
            refine al_nil ?_
            refine awp_seq ?_
            refine awp_region ?_
            refine al_pure rfl rfl rfl (pure_move rfl (fun _ => rfl)) ?_
            refine al_pure rfl rfl rfl (pure_move rfl (fun _ => rfl)) ?_
            refine al_pure rfl rfl rfl (pure_cmp rfl rfl (fun _ => rfl) (fun _ => rfl) rfl) ?_
            refine al_nil ?_
            refine awp_sub (s := { t := [(0, _, _), (1, _, _), (8, _, _), (9, _, _), (30, _, _), (31, _, _), (32, _, _), (33, _, _), (34, _, _), (35, _, _), (36, _, _), (37, _, _), (38, _, _)], bx := [], ow := [((.t 8), _)] }) (sub_mk (⟨⟨_, rfl, rfl⟩, ⟨⟨_, rfl, rfl⟩, ⟨⟨_, rfl, rfl⟩, ⟨⟨_, rfl, rfl⟩, ⟨⟨_, rfl, rfl⟩, ⟨⟨_, rfl, rfl⟩, ⟨⟨_, rfl, rfl⟩, ⟨⟨_, rfl, rfl⟩, ⟨⟨_, rfl, rfl⟩, ⟨⟨_, rfl, rfl⟩, ⟨⟨_, rfl, rfl⟩, ⟨⟨_, rfl, rfl⟩, ⟨⟨_, rfl, rfl⟩, trivial⟩⟩⟩⟩⟩⟩⟩⟩⟩⟩⟩⟩⟩) trivial (⟨rfl, trivial⟩)) ?_
            refine awp_cond rfl (fun hc5 => ?_) (fun hc5 => ?_)
            · simp only [decide_eq_true_eq] at hc5
              rw [if_pos (by omega)] at q1
              refine awp_drawn' (by kernel_rfl) ?_
              refine dr_take rfl (.inl rfl) rfl rfl rfl rfl rfl ?_
              refine dr_pure rfl rfl rfl rfl (pure_move rfl (fun _ => rfl)) ?_
              refine dr_pure rfl rfl rfl rfl (pure_move rfl (fun _ => rfl)) ?_
              refine dr_pure rfl rfl rfl rfl (pure_slice rfl (fun _ => rfl) rfl rfl (fun _ => ⟨_, _, _, rfl, (fun _ => rfl), rfl⟩) (fun _ => rfl) (fun _ => by omega) (fun _ => by omega)) ?_
              refine dr_callN rfl rfl rfl rfl rfl rfl rfl (fun _ => rfl) (fun _ => rfl) (head_spec _ (l'.drop (half (T.rows l').length)) _ (by rw [rows_part, T.rows_len, List.take_length]) (Nat.le_refl _) (by omega)) rfl ?_
              refine dr_callN rfl rfl rfl rfl rfl rfl rfl (fun _ => rfl) (fun _ => rfl) (copied_spec _ _ (Nat.le_refl _) (by omega)) rfl ?_
              refine dr_build (xs := [_]) rfl rfl rfl rfl rfl rfl rfl rfl rfl rfl (fun _ => rfl) rfl ?_
              refine dr_append rfl rfl rfl rfl rfl rfl rfl rfl rfl rfl rfl (by simp; omega) (by simp; omega) ?_
              refine dr_pure rfl rfl rfl rfl (pure_move rfl (fun _ => rfl)) ?_
              refine dr_pure rfl rfl rfl rfl (pure_move rfl (fun _ => rfl)) ?_
              refine dr_pure rfl rfl rfl rfl (pure_slice rfl (fun _ => rfl) rfl rfl (fun _ => rfl) (fun _ => ⟨_, _, _, rfl, (fun _ => rfl), rfl⟩) (fun _ => by omega) (fun _ => by omega)) ?_
              refine dr_take rfl (.inr rfl) rfl rfl rfl rfl rfl ?_
              refine dr_pure rfl rfl rfl rfl (pure_assign rfl (fun _ => rfl)) ?_
              refine dr_nil (by kernel_rfl) ?_
              refine ⟨⟨f, l'.take (half (T.rows l').length), i, out ++ [headT (l'.drop (half (T.rows l').length))]⟩, ⟨by simpa using q1, by dsimp only; omega, by dsimp only; omega, by dsimp only; omega, by dsimp only; omega⟩, by dsimp only; omega, ?_⟩
              refine sub_mk ⟨⟨_, rfl, ?_⟩, ⟨_, rfl, rfl⟩, ⟨_, rfl, ?_⟩, trivial⟩ trivial ⟨rfl, trivial⟩
              · rw [List.drop_zero]; congr 5; exact rows_part l' 0 _
              · simp [T.rows_eq]
            · simp only [decide_eq_false_iff_not] at hc5
              rw [if_neg (by omega)] at q1
              have hcast : (i : Int) - (half (T.rows l').length : Nat) = ((i - half (T.rows l').length : Nat) : Int) := by omega
              refine awp_drawn' (by kernel_rfl) ?_
              refine dr_take rfl (.inl rfl) rfl rfl rfl rfl rfl ?_
              refine dr_pure rfl rfl rfl rfl (pure_move rfl (fun _ => rfl)) ?_
              refine dr_pure rfl rfl rfl rfl (pure_move rfl (fun _ => rfl)) ?_
              refine dr_pure rfl rfl rfl rfl (pure_slice rfl (fun _ => rfl) rfl rfl (fun _ => rfl) (fun _ => ⟨_, _, _, rfl, (fun _ => rfl), rfl⟩) (fun _ => by omega) (fun _ => by omega)) ?_
              refine dr_callN rfl rfl rfl rfl rfl rfl rfl (fun _ => rfl) (fun _ => rfl) (head_spec _ (l'.take (half (T.rows l').length)) _ (by rw [rows_part]; rfl) (Nat.le_refl _) (by omega)) rfl ?_
              refine dr_callN rfl rfl rfl rfl rfl rfl rfl (fun _ => rfl) (fun _ => rfl) (copied_spec _ _ (Nat.le_refl _) (by omega)) rfl ?_
              refine dr_build (xs := [_]) rfl rfl rfl rfl rfl rfl rfl rfl rfl rfl (fun _ => rfl) rfl ?_
              refine dr_append rfl rfl rfl rfl rfl rfl rfl rfl rfl rfl rfl (by simp; omega) (by simp; omega) ?_
              refine dr_pure rfl rfl rfl rfl (pure_move rfl (fun _ => rfl)) ?_
              refine dr_pure rfl rfl rfl rfl (pure_move rfl (fun _ => rfl)) ?_
              refine dr_pure rfl rfl rfl rfl (pure_slice rfl (fun _ => rfl) rfl rfl (fun _ => ⟨_, _, _, rfl, (fun _ => rfl), rfl⟩) (fun _ => rfl) (fun _ => by omega) (fun _ => by omega)) ?_
              refine dr_pure rfl rfl rfl rfl (pure_move rfl (fun _ => rfl)) ?_
              refine dr_pure rfl rfl rfl rfl (pure_move rfl (fun _ => rfl)) ?_
              refine dr_pure rfl rfl rfl rfl (pure_arith rfl rfl (fun _ => rfl) (fun _ => rfl) rfl (IntWalk.i64_in _ (by omega))) ?_
              refine dr_take rfl (.inr rfl) rfl rfl rfl rfl rfl ?_
              refine dr_pure rfl rfl rfl rfl (pure_assign rfl (fun _ => rfl)) ?_
              refine dr_pure rfl rfl rfl rfl (pure_assign rfl (fun _ => rfl)) ?_
              refine dr_nil (by kernel_rfl) ?_
              refine ⟨⟨f, l'.drop (half (T.rows l').length), i - half (T.rows l').length, out ++ [headT (l'.take (half (T.rows l').length))]⟩, ⟨by simpa using q1, by dsimp only; omega, by dsimp only; omega, by dsimp only; omega, by dsimp only; omega⟩, by dsimp only; omega, ?_⟩
              refine sub_mk ⟨⟨_, rfl, ?_⟩, ⟨_, rfl, ?_⟩, ⟨_, rfl, ?_⟩, trivial⟩ trivial ⟨rfl, trivial⟩
              · refine congrArg (fun z => (true, X.v (.c (.sl 4 z)))) ?_
                rw [rows_part, List.take_of_length_le (by omega)]
              · rw [hcast]
              · simp [T.rows_eq]
          · simp only [decide_eq_false_iff_not] at hc4
            rw [incF_small _ _ _ (by omega), List.append_nil] at q1
            subst q1
            have hor := T.rows_len (incF l.length l m)
            refine awp_exit ?_
            repeat (first | refine thenS_exit ?_ | refine blockS_hit ?_ | refine blockS_miss rfl ?_)
            refine awp_seq ?_
            refine awp_seq ?_
            refine awp_region ?_
            refine al_do rfl (does_take (.inl rfl) rfl rfl rfl) ?_
            refine al_lenSl rfl rfl rfl rfl rfl (fun _ => rfl) rfl rfl ?_ (fun hh => by simp at hh); intro hlen
            refine al_pure rfl rfl rfl (pure_arith rfl rfl (fun _ => rfl) (fun _ => rfl) rfl (IntWalk.i64_in _ (by omega))) ?_
            refine al_pure rfl rfl rfl (pure_assign rfl (fun _ => rfl)) ?_
            refine al_pure rfl rfl rfl (pure_assign rfl (fun _ => rfl)) ?_
            refine al_nil ?_
            refine awp_sub (s := { t := [(8, _, _), (10, _, _), (11, _, _)], bx := [], ow := [] }) (sub_mk (⟨⟨_, rfl, rfl⟩, ⟨⟨_, rfl, rfl⟩, ⟨⟨_, rfl, rfl⟩, trivial⟩⟩⟩) trivial trivial) ?_
            refine awp_block ?_
            refine awp_loop (revS (incF l.length l m)) (fun _ => True) (fun _ => 0) () trivial ?_ ?_
            · refine sub_mk ⟨⟨_, rfl, rfl⟩, ⟨_, rfl, rfl⟩, ⟨_, rfl, ?_⟩, trivial⟩ trivial trivial
              rw [hor]
            · intro _ _
              dsimp only [revS]
              refine awp_seq ?_
              refine awp_seq ?_
              refine awp_region ?_
              refine al_pure rfl rfl rfl (pure_move rfl (fun _ => rfl)) ?_
              refine al_pure rfl rfl rfl (pure_move rfl (fun _ => rfl)) ?_
              refine al_pure rfl rfl rfl (pure_cmp rfl rfl (fun _ => rfl) (fun _ => rfl) rfl) ?_
              refine al_nil ?_
              refine awp_cond rfl (fun hc6 => ?_) (fun hc6 => ?_)
              · simp only [decide_eq_true_eq] at hc6
                omega
              · refine awp_exit ?_
                repeat (first | refine thenS_exit ?_ | refine blockS_hit ?_ | refine blockS_miss rfl ?_)
                refine awp_seq ?_
                refine awp_region ?_
                refine al_pure rfl rfl rfl (pure_move rfl (fun _ => rfl)) ?_
                refine al_pure rfl rfl rfl (pure_assign rfl (fun _ => rfl)) ?_
                refine al_pure rfl rfl rfl (pure_assign rfl (fun _ => rfl)) ?_
                refine al_nil ?_
                refine awp_ret ?_
                repeat (first | refine thenS_ret ?_ | refine blockS_ret ?_)
                refine ret_ok rfl ?_ trivial
                rw [hE]
                have hrev : (incF l.length l m).reverse = incF l.length l m := by
                  match incF l.length l m, h1 with
                  | [], _ => rfl
                  | [_], _ => rfl
                  | _ :: _ :: _, hh => simp at hh
                rw [hrev]; rfl
end Go.Proofs.Ytginljdgdllhfaa
