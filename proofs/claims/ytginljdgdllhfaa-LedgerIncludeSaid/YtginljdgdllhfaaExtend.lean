/- Contracts: proofs of extensions, as ledger makes them. -/
import Derived.Test.YtginljdgdllhfaaFew
set_option linter.unusedVariables false
set_option linter.unusedSimpArgs false
namespace Go.Proofs.Ytginljdgdllhfaa
open Go Go.Abs
def extF : Nat → List T → Nat → Bool → List T
  | 0, l, _, w => if w then [] else [headT l]
  | f + 1, l, n, w => if n = l.length then (if w then [] else [headT l]) else
    if n ≤ half l.length then extF f (l.take (half l.length)) n w ++ [headT (l.drop (half l.length))]
    else extF f (l.drop (half l.length)) (n - half l.length) false ++ [headT (l.take (half l.length))]
theorem extF_len : ∀ (f : Nat) (l : List T) (n : Nat) (w : Bool), (extF f l n w).length ≤ f + 1
  | 0, l, n, w => by rw [extF]; cases w <;> simp
  | f + 1, l, n, w => by
    have h1 := extF_len f (l.take (half l.length)) n w
    have h2 := extF_len f (l.drop (half l.length)) (n - half l.length) false
    rw [extF]
    split
    · cases w <;> simp
    · split <;> simp <;> omega
theorem extend_spec : ∀ (f : Nat) (l : List T) (rs : List (List C)) (n : Nat) (w : Bool), rs = T.rows l → l.length ≤ f → 1 ≤ n → n ≤ l.length → f ≤ 10000 → T.sizes l ≤ 10000 →
    Ctr sys 49 [.v (.c (.sl 4 rs)), xi n, xb w] [] (xl (extF f l n w)) (some 4) [] := by
  intro f
  induction f with
  | zero => intro l rs n w _ h1 h2 h3; omega
  | succ f ih =>
    intro l rs n w hrs hl hn1 hn2 hf hsz
    have hlen' : rs.length = l.length := by rw [hrs, T.rows_len]
    refine spec_intro Try.func49 rfl rfl rfl rfl rfl rfl ?_
    refine awp_seq ?_
    refine awp_region ?_
    refine al_do rfl (does_nil (.inr rfl) rfl rfl) ?_
    refine al_nil ?_
    refine awp_seq ?_
    refine awp_seq ?_
    refine awp_region ?_
    refine al_pure rfl rfl rfl (pure_move rfl (fun _ => rfl)) ?_
    refine al_pure rfl rfl rfl (pure_move rfl (fun _ => rfl)) ?_
    refine al_lenSl rfl rfl rfl rfl rfl (fun _ => rfl) rfl rfl ?_ (fun hh => by simp at hh); intro hlen
    refine al_pure rfl rfl rfl (pure_cmp rfl rfl (fun _ => rfl) (fun _ => rfl) rfl) ?_
    refine al_nil ?_
    refine awp_cond rfl (fun hc => ?_) (fun hc => ?_)
    · refine awp_seq ?_
      refine awp_seq ?_
      refine awp_region ?_
      refine al_pure rfl rfl rfl (pure_move rfl (fun _ => rfl)) ?_
      refine al_nil ?_
      refine awp_cond rfl (fun hc2 => ?_) (fun hc2 => ?_)
      · refine awp_seq ?_
        refine awp_region ?_
        refine al_do rfl (does_nil (.inr rfl) rfl rfl) ?_
        refine al_nil ?_
        refine awp_ret ?_
        repeat (first | refine thenS_ret ?_ | refine blockS_ret ?_)
        refine ret_own rfl ?_ rfl
        simp only [beq_iff_eq] at hc
        rw [extF, if_pos (by omega), if_pos hc2]; rfl
      · refine awp_skip ?_
        refine awp_seq ?_
        refine awp_region ?_
        refine al_pure rfl rfl rfl (pure_move rfl (fun _ => rfl)) ?_
        refine al_call rfl rfl rfl rfl rfl rfl (fun _ => rfl) (fun _ => rfl) (head_spec _ l _ hrs (Nat.le_refl _) (by omega)) rfl ?_
        refine al_call rfl rfl rfl rfl rfl rfl (fun _ => rfl) (fun _ => rfl) (copied_spec _ _ (Nat.le_refl _) (by have := headT_size l; omega)) rfl ?_
        refine al_buildSlice (xs := [_]) rfl rfl rfl rfl rfl rfl rfl rfl rfl (fun _ => rfl) rfl ?_
        refine al_do rfl (does_take (.inr rfl) rfl rfl rfl) ?_
        refine al_nil ?_
        refine awp_ret ?_
        repeat (first | refine thenS_ret ?_ | refine blockS_ret ?_)
        refine ret_own rfl ?_ rfl
        simp only [beq_iff_eq] at hc
        rw [extF, if_pos (by omega), if_neg (by rw [hc2]; simp)]
        show X.v (.c (.sl 4 [(headT l).cells])) = X.v (.c (.sl 4 (T.rows [headT l])))
        rw [T.rows_eq]; rfl
    · simp only [beq_eq_false_iff_ne, ne_eq] at hc
      have h2 : 2 ≤ rs.length := by omega
      have hb := half_bound h2
      have hsp := sizes_split l (half rs.length)
      have hk1 := headT_size (l.take (half rs.length))
      have hk2 := headT_size (l.drop (half rs.length))
      have hl1 : (l.take (half rs.length)).length ≤ l.length := by rw [List.length_take]; omega
      have hl2 : (l.drop (half rs.length)).length ≤ l.length := by rw [List.length_drop]; omega
      refine awp_skip ?_
      refine awp_seq ?_
      refine awp_region ?_
      refine al_pure rfl rfl rfl (pure_move rfl (fun _ => rfl)) ?_
      refine al_lenSl rfl rfl rfl rfl rfl (fun _ => rfl) rfl rfl ?_ (fun hh => by simp at hh); intro hlen
      refine al_call rfl rfl rfl rfl rfl rfl (fun _ => rfl) (fun _ => rfl) (half_spec rs.length h2 (by omega)) rfl ?_
      refine al_pure rfl rfl rfl (pure_assign rfl (fun _ => rfl)) ?_
      refine al_nil ?_
      refine awp_sub (s := { t := [(0, _, _), (1, _, _), (2, _, _), (6, _, _), (7, _, _)], bx := [], ow := [((.t 6), _)] }) (sub_mk (⟨⟨_, rfl, rfl⟩, ⟨⟨_, rfl, rfl⟩, ⟨⟨_, rfl, rfl⟩, ⟨⟨_, rfl, rfl⟩, ⟨⟨_, rfl, rfl⟩, trivial⟩⟩⟩⟩⟩) trivial (⟨rfl, trivial⟩)) ?_
      refine awp_seq ?_
      refine awp_seq ?_
      refine awp_region ?_
      refine al_pure rfl rfl rfl (pure_move rfl (fun _ => rfl)) ?_
      refine al_pure rfl rfl rfl (pure_move rfl (fun _ => rfl)) ?_
      refine al_pure rfl rfl rfl (pure_cmp rfl rfl (fun _ => rfl) (fun _ => rfl) rfl) ?_
      refine al_nil ?_
      refine awp_cond rfl (fun hc2 => ?_) (fun hc2 => ?_)
      · simp only [decide_eq_true_eq] at hc2
        have hxl := extF_len f (l.take (half rs.length)) n w
        refine awp_seq ?_
        refine awp_drawn' (by kernel_rfl) ?_
        refine dr_pure rfl rfl rfl rfl (pure_move rfl (fun _ => rfl)) ?_
        refine dr_pure rfl rfl rfl rfl (pure_move rfl (fun _ => rfl)) ?_
        refine dr_pure rfl rfl rfl rfl (pure_slice rfl (fun _ => rfl) rfl rfl (fun _ => rfl) (fun _ => ⟨_, _, _, rfl, (fun _ => rfl), rfl⟩) (fun _ => by omega) (fun _ => by omega)) ?_
        refine dr_pure rfl rfl rfl rfl (pure_move rfl (fun _ => rfl)) ?_
        refine dr_pure rfl rfl rfl rfl (pure_move rfl (fun _ => rfl)) ?_
        refine dr_call rfl rfl rfl rfl rfl rfl rfl (fun _ => rfl) (fun _ => rfl) (ih (l.take (half rs.length)) _ n w (by rw [hrs, rows_part]; rfl) (by rw [List.length_take]; omega) hn1 (by rw [List.length_take]; omega) (by omega) (by omega)) rfl ?_
        refine dr_pure rfl rfl rfl rfl (pure_move rfl (fun _ => rfl)) ?_
        refine dr_pure rfl rfl rfl rfl (pure_move rfl (fun _ => rfl)) ?_
        refine dr_pure rfl rfl rfl rfl (pure_slice rfl (fun _ => rfl) rfl rfl (fun _ => ⟨_, _, _, rfl, (fun _ => rfl), rfl⟩) (fun _ => rfl) (fun _ => by omega) (fun _ => by omega)) ?_
        refine dr_callN rfl rfl rfl rfl rfl rfl rfl (fun _ => rfl) (fun _ => rfl) (head_spec _ (l.drop (half rs.length)) _ (by rw [hrs, rows_part, T.rows_len, List.take_length]) (Nat.le_refl _) (by omega)) rfl ?_
        refine dr_callN rfl rfl rfl rfl rfl rfl rfl (fun _ => rfl) (fun _ => rfl) (copied_spec _ _ (Nat.le_refl _) (by omega)) rfl ?_
        refine dr_build (xs := [_]) rfl rfl rfl rfl rfl rfl rfl rfl rfl rfl (fun _ => rfl) rfl ?_
        refine dr_append rfl rfl rfl rfl rfl rfl rfl rfl rfl rfl rfl (by rw [T.rows_len]; simp; omega) (by rw [T.rows_len]; simp; omega) ?_
        refine dr_take rfl (.inr rfl) rfl rfl rfl rfl rfl ?_
        refine dr_nil (by kernel_rfl) ?_
        refine awp_ret ?_
        repeat (first | refine thenS_ret ?_ | refine blockS_ret ?_)
        refine ret_own rfl ?_ rfl
        rw [extF, if_neg (by omega), ← hlen', if_pos (by omega)]
        show X.v (.c (.sl 4 (T.rows _ ++ [(headT _).cells]))) = X.v (.c (.sl 4 (T.rows _)))
        simp [T.rows_eq]
      · simp only [decide_eq_false_iff_not] at hc2
        have hxl := extF_len f (l.drop (half rs.length)) (n - half rs.length) false
        refine awp_skip ?_
        refine awp_seq ?_
        refine awp_drawn' (by kernel_rfl) ?_
        refine dr_pure rfl rfl rfl rfl (pure_move rfl (fun _ => rfl)) ?_
        refine dr_pure rfl rfl rfl rfl (pure_move rfl (fun _ => rfl)) ?_
        refine dr_pure rfl rfl rfl rfl (pure_slice rfl (fun _ => rfl) rfl rfl (fun _ => ⟨_, _, _, rfl, (fun _ => rfl), rfl⟩) (fun _ => rfl) (fun _ => by omega) (fun _ => by omega)) ?_
        refine dr_pure rfl rfl rfl rfl (pure_move rfl (fun _ => rfl)) ?_
        refine dr_pure rfl rfl rfl rfl (pure_move rfl (fun _ => rfl)) ?_
        refine dr_pure rfl rfl rfl rfl (pure_arith rfl rfl (fun _ => rfl) (fun _ => rfl) rfl (IntWalk.i64_in _ (by omega))) ?_
        have hcast : (n : Int) - (half rs.length : Nat) = ((n - half rs.length : Nat) : Int) := by omega
        rw [hcast]
        refine dr_call rfl rfl rfl rfl rfl rfl rfl (fun _ => rfl) (fun _ => rfl) (ih (l.drop (half rs.length)) _ (n - half rs.length) false (by rw [hrs, rows_part, T.rows_len, List.take_length]) (by rw [List.length_drop]; omega) (by omega) (by rw [List.length_drop]; omega) (by omega) (by omega)) rfl ?_
        refine dr_pure rfl rfl rfl rfl (pure_move rfl (fun _ => rfl)) ?_
        refine dr_pure rfl rfl rfl rfl (pure_move rfl (fun _ => rfl)) ?_
        refine dr_pure rfl rfl rfl rfl (pure_slice rfl (fun _ => rfl) rfl rfl (fun _ => rfl) (fun _ => ⟨_, _, _, rfl, (fun _ => rfl), rfl⟩) (fun _ => by omega) (fun _ => by omega)) ?_
        refine dr_callN rfl rfl rfl rfl rfl rfl rfl (fun _ => rfl) (fun _ => rfl) (head_spec _ (l.take (half rs.length)) _ (by rw [hrs, rows_part]; rfl) (Nat.le_refl _) (by omega)) rfl ?_
        refine dr_callN rfl rfl rfl rfl rfl rfl rfl (fun _ => rfl) (fun _ => rfl) (copied_spec _ _ (Nat.le_refl _) (by omega)) rfl ?_
        refine dr_build (xs := [_]) rfl rfl rfl rfl rfl rfl rfl rfl rfl rfl (fun _ => rfl) rfl ?_
        refine dr_append rfl rfl rfl rfl rfl rfl rfl rfl rfl rfl rfl (by rw [T.rows_len]; simp; omega) (by rw [T.rows_len]; simp; omega) ?_
        refine dr_take rfl (.inr rfl) rfl rfl rfl rfl rfl ?_
        refine dr_nil (by kernel_rfl) ?_
        refine awp_ret ?_
        repeat (first | refine thenS_ret ?_ | refine blockS_ret ?_)
        refine ret_own rfl ?_ rfl
        rw [extF, if_neg (by omega), ← hlen', if_neg (by omega)]
        show X.v (.c (.sl 4 (T.rows _ ++ [(headT _).cells]))) = X.v (.c (.sl 4 (T.rows _)))
        simp [T.rows_eq]
def extE (l : List T) (n : Int) : List T × Int :=
  if rightE l ≠ 0 then ([], rightE l) else if n < 1 ∨ (l.length : Int) < n then ([], 7) else if largeE (headT l) ≠ 0 then ([], largeE (headT l)) else (extF l.length l n.toNat true, 0)
theorem Extend_spec (l : List T) (n : Int) (h : T.sizes l ≤ 10000) (h2 : l.length ≤ 10000) : Ctr sys 24 [xl l, xi n] [] (.tup [.c (.sl 4 (T.rows (extE l n).1)), .c (.i .i64 (extE l n).2)]) none [] := by
  refine spec_intro Try.func24 rfl rfl rfl rfl rfl rfl ?_
  refine awp_seq ?_
  refine awp_region ?_
  refine al_pure rfl rfl rfl (pure_assign rfl (fun _ => rfl)) ?_
  refine al_pure rfl rfl rfl (pure_assign rfl (fun _ => rfl)) ?_
  refine al_nil ?_
  refine awp_seq ?_
  refine awp_seq ?_
  refine awp_region ?_
  refine al_pure rfl rfl rfl (pure_move rfl (fun _ => rfl)) ?_
  refine al_call rfl rfl rfl rfl rfl rfl (fun _ => rfl) (fun _ => rfl) (right_spec l (by omega)) rfl ?_
  refine al_pure rfl rfl rfl (pure_assign rfl (fun _ => rfl)) ?_
  refine al_nil ?_
  refine awp_seq ?_
  refine awp_region ?_
  refine al_pure rfl rfl rfl (pure_move rfl (fun _ => rfl)) ?_
  refine al_pure rfl rfl rfl (pure_cmp rfl rfl (fun _ => rfl) (fun _ => rfl) rfl) ?_
  refine al_nil ?_
  refine awp_cond rfl (fun hc => ?_) (fun hc => ?_)
  · refine awp_seq ?_
    refine awp_region ?_
    refine al_pure rfl rfl rfl (pure_move rfl (fun _ => rfl)) ?_
    refine al_pure rfl rfl rfl (pure_assign rfl (fun _ => rfl)) ?_
    refine al_pure rfl rfl rfl (pure_assign rfl (fun _ => rfl)) ?_
    refine al_nil ?_
    refine awp_ret ?_
    repeat (first | refine thenS_ret ?_ | refine blockS_ret ?_)
    refine ret_ok rfl ?_ trivial
    rw [extE, if_pos (by simpa using hc)]; rfl
  · refine awp_skip ?_
    refine awp_seq ?_
    refine awp_seq ?_
    refine awp_region ?_
    refine al_pure rfl rfl rfl (pure_move rfl (fun _ => rfl)) ?_
    refine al_pure rfl rfl rfl (pure_cmp rfl rfl (fun _ => rfl) (fun _ => rfl) rfl) ?_
    refine al_pure rfl rfl rfl (pure_move rfl (fun _ => rfl)) ?_
    refine al_pure rfl rfl rfl (pure_move rfl (fun _ => rfl)) ?_
    refine al_pure rfl rfl rfl (pure_move rfl (fun _ => rfl)) ?_
    refine al_pure rfl rfl rfl (pure_lenSl rfl (fun hh => hh) rfl rfl) ?_
    refine al_pure rfl rfl rfl (pure_cmp rfl rfl (fun hh => hh) (fun hh => hh) rfl) ?_
    refine al_pure rfl rfl rfl (pure_or rfl rfl (fun _ => rfl) (fun _ hi => gP rfl hi)) ?_
    refine al_nil ?_
    refine awp_sub (s := { t := [(0, _, _), (1, _, _), (4, _, _), (5, _, _), (20, _, _)], bx := [], ow := [] }) (sub_mk (⟨⟨_, rfl, rfl⟩, ⟨⟨_, rfl, rfl⟩, ⟨⟨_, rfl, rfl⟩, ⟨⟨_, rfl, rfl⟩, ⟨⟨_, rfl, rfl⟩, trivial⟩⟩⟩⟩⟩) trivial trivial) ?_
    refine awp_cond rfl (fun hc2 => ?_) (fun hc2 => ?_)
    · refine awp_seq ?_
      refine awp_region ?_
      refine al_pure rfl rfl rfl (pure_assign rfl (fun _ => rfl)) ?_
      refine al_pure rfl rfl rfl (pure_assign rfl (fun _ => rfl)) ?_
      refine al_nil ?_
      refine awp_ret ?_
      repeat (first | refine thenS_ret ?_ | refine blockS_ret ?_)
      refine ret_ok rfl ?_ trivial
      simp only [Bool.or_eq_true, decide_eq_true_eq, T.rows_len] at hc2
      rw [extE, if_neg (by simpa using hc), if_pos hc2]; rfl
    · simp only [Bool.or_eq_false_iff, decide_eq_false_iff_not, T.rows_len] at hc2
      refine awp_skip ?_
      refine awp_seq ?_
      refine awp_seq ?_
      refine awp_region ?_
      refine al_pure rfl rfl rfl (pure_move rfl (fun _ => rfl)) ?_
      refine al_call rfl rfl rfl rfl rfl rfl (fun _ => rfl) (fun _ => rfl) (sized_spec l h h2) rfl ?_
      refine al_pure rfl rfl rfl (pure_assign rfl (fun _ => rfl)) ?_
      refine al_nil ?_
      refine awp_seq ?_
      refine awp_region ?_
      refine al_pure rfl rfl rfl (pure_move rfl (fun _ => rfl)) ?_
      refine al_pure rfl rfl rfl (pure_cmp rfl rfl (fun _ => rfl) (fun _ => rfl) rfl) ?_
      refine al_nil ?_
      refine awp_cond rfl (fun hc3 => ?_) (fun hc3 => ?_)
      · refine awp_seq ?_
        refine awp_region ?_
        refine al_pure rfl rfl rfl (pure_move rfl (fun _ => rfl)) ?_
        refine al_pure rfl rfl rfl (pure_assign rfl (fun _ => rfl)) ?_
        refine al_pure rfl rfl rfl (pure_assign rfl (fun _ => rfl)) ?_
        refine al_nil ?_
        refine awp_ret ?_
        repeat (first | refine thenS_ret ?_ | refine blockS_ret ?_)
        refine ret_ok rfl ?_ trivial
        rw [extE, if_neg (by simpa using hc), if_neg (by omega), if_pos (by simpa using hc3)]; rfl
      · refine awp_skip ?_
        refine awp_seq ?_
        refine awp_region ?_
        refine al_pure rfl rfl rfl (pure_move rfl (fun _ => rfl)) ?_
        refine al_pure rfl rfl rfl (pure_move rfl (fun _ => rfl)) ?_
        obtain ⟨m, rfl⟩ : ∃ m : Nat, n = m := ⟨n.toNat, by omega⟩
        refine al_call rfl rfl rfl rfl rfl rfl (fun _ => rfl) (fun _ => rfl) (extend_spec l.length l _ m true rfl (Nat.le_refl _) (by omega) (by omega) (by omega) h) rfl ?_
        refine al_pure rfl rfl rfl (pure_assign rfl (fun _ => rfl)) ?_
        refine al_pure rfl rfl rfl (pure_assign rfl (fun _ => rfl)) ?_
        refine al_nil ?_
        refine awp_ret ?_
        repeat (first | refine thenS_ret ?_ | refine blockS_ret ?_)
        refine ret_ok rfl ?_ trivial
        rw [extE, if_neg (by simpa using hc), if_neg (by omega), if_neg (by simpa using hc3)]; rfl
end Go.Proofs.Ytginljdgdllhfaa
