/- Contracts: the proofs that the reference makes. -/
import Derived.Test.YtginljdgdllhfaaRef2
set_option linter.unusedVariables false
set_option linter.unusedSimpArgs false
namespace Go.Proofs.Ytginljdgdllhfaa
open Go Go.Abs
theorem rextend_spec : ∀ (f : Nat) (l : List T) (rs : List (List C)) (n : Nat) (w : Bool), rs = T.rows l → l.length ≤ f → 1 ≤ n → n ≤ l.length → f ≤ 10000 → T.sizes l ≤ 10000 →
    Ctr sys 50 [.v (.c (.sl 4 rs)), xi n, xb w] [] (xl (extF f l n w)) (some 4) [] := by
  intro f
  induction f with
  | zero => intro l rs n w _ h1 h2 h3; omega
  | succ f ih =>
    intro l rs n w hrs hl hn1 hn2 hf hsz
    have hlen' : rs.length = l.length := by rw [hrs, T.rows_len]
    refine spec_intro Try.func50 rfl rfl rfl rfl rfl rfl ?_
    refine awp_seq ?_
    refine awp_region ?_
    refine al_do rfl (does_nil (.inr rfl) rfl rfl) ?_
    refine al_nil ?_
    refine awp_seq ?_
    refine awp_seq ?_
    refine awp_region ?_
    refine al_pure rfl rfl rfl (pure_move rfl (fun _ => rfl)) ?_
    refine al_pure rfl rfl rfl (pure_move rfl (fun _ => rfl)) ?_
    refine al_lenSl rfl rfl rfl rfl rfl (fun _ => rfl) rfl rfl ?_ (fun hh => by simp at hh); intro hlen
    refine al_pure rfl rfl rfl (pure_cmp rfl rfl (fun _ => rfl) (fun _ => rfl) rfl) ?_
    refine al_nil ?_
    refine awp_cond rfl (fun hc => ?_) (fun hc => ?_)
    · refine awp_seq ?_
      refine awp_seq ?_
      refine awp_region ?_
      refine al_pure rfl rfl rfl (pure_move rfl (fun _ => rfl)) ?_
      refine al_nil ?_
      refine awp_cond rfl (fun hc2 => ?_) (fun hc2 => ?_)
      · refine awp_seq ?_
        refine awp_region ?_
        refine al_do rfl (does_nil (.inr rfl) rfl rfl) ?_
        refine al_nil ?_
        refine awp_ret ?_
        repeat (first | refine thenS_ret ?_ | refine blockS_ret ?_)
        refine ret_own rfl ?_ rfl
        simp only [beq_iff_eq] at hc
        rw [extF, if_pos (by omega), if_pos hc2]; rfl
      · refine awp_skip ?_
        refine awp_seq ?_
        refine awp_region ?_
        refine al_pure rfl rfl rfl (pure_move rfl (fun _ => rfl)) ?_
        refine al_call rfl rfl rfl rfl rfl rfl (fun _ => rfl) (fun _ => rfl) (Of_spec _ l _ hrs (Nat.le_refl _) (by omega)) rfl ?_
        refine al_buildSlice (xs := [_]) rfl rfl rfl rfl rfl rfl rfl rfl rfl (fun _ => rfl) rfl ?_
        refine al_do rfl (does_take (.inr rfl) rfl rfl rfl) ?_
        refine al_nil ?_
        refine awp_ret ?_
        repeat (first | refine thenS_ret ?_ | refine blockS_ret ?_)
        refine ret_own rfl ?_ rfl
        simp only [beq_iff_eq] at hc
        rw [extF, if_pos (by omega), if_neg (by rw [hc2]; simp)]
        show X.v (.c (.sl 4 [(headT l).cells])) = X.v (.c (.sl 4 (T.rows [headT l])))
        rw [T.rows_eq]; rfl
    · simp only [beq_eq_false_iff_ne, ne_eq] at hc
      have h2 : 2 ≤ rs.length := by omega
      have hb := half_bound h2
      have hsp := sizes_split l (half rs.length)
      have hl1 : (l.take (half rs.length)).length ≤ l.length := by rw [List.length_take]; omega
      have hl2 : (l.drop (half rs.length)).length ≤ l.length := by rw [List.length_drop]; omega
      refine awp_skip ?_
      refine awp_seq ?_
      refine awp_region ?_
      refine al_pure rfl rfl rfl (pure_move rfl (fun _ => rfl)) ?_
      refine al_lenSl rfl rfl rfl rfl rfl (fun _ => rfl) rfl rfl ?_ (fun hh => by simp at hh); intro hlen
      refine al_call rfl rfl rfl rfl rfl rfl (fun _ => rfl) (fun _ => rfl) (Split_spec rs.length h2 (by omega)) rfl ?_
      refine al_pure rfl rfl rfl (pure_assign rfl (fun _ => rfl)) ?_
      refine al_nil ?_
      refine awp_sub (s := { t := [(0, _, _), (1, _, _), (2, _, _), (6, _, _), (7, _, _)], bx := [], ow := [((.t 6), _)] }) (sub_mk (⟨⟨_, rfl, rfl⟩, ⟨⟨_, rfl, rfl⟩, ⟨⟨_, rfl, rfl⟩, ⟨⟨_, rfl, rfl⟩, ⟨⟨_, rfl, rfl⟩, trivial⟩⟩⟩⟩⟩) trivial (⟨rfl, trivial⟩)) ?_
      refine awp_seq ?_
      refine awp_seq ?_
      refine awp_region ?_
      refine al_pure rfl rfl rfl (pure_move rfl (fun _ => rfl)) ?_
      refine al_pure rfl rfl rfl (pure_move rfl (fun _ => rfl)) ?_
      refine al_pure rfl rfl rfl (pure_cmp rfl rfl (fun _ => rfl) (fun _ => rfl) rfl) ?_
      refine al_nil ?_
      refine awp_cond rfl (fun hc2 => ?_) (fun hc2 => ?_)
      · simp only [decide_eq_true_eq] at hc2
        have hxl := extF_len f (l.take (half rs.length)) n w
        refine awp_seq ?_
        refine awp_drawn' (by kernel_rfl) ?_
        refine dr_pure rfl rfl rfl rfl (pure_move rfl (fun _ => rfl)) ?_
        refine dr_pure rfl rfl rfl rfl (pure_move rfl (fun _ => rfl)) ?_
        refine dr_pure rfl rfl rfl rfl (pure_slice rfl (fun _ => rfl) rfl rfl (fun _ => rfl) (fun _ => ⟨_, _, _, rfl, (fun _ => rfl), rfl⟩) (fun _ => by omega) (fun _ => by omega)) ?_
        refine dr_pure rfl rfl rfl rfl (pure_move rfl (fun _ => rfl)) ?_
        refine dr_pure rfl rfl rfl rfl (pure_move rfl (fun _ => rfl)) ?_
        refine dr_call rfl rfl rfl rfl rfl rfl rfl (fun _ => rfl) (fun _ => rfl) (ih (l.take (half rs.length)) _ n w (by rw [hrs, rows_part]; rfl) (by rw [List.length_take]; omega) hn1 (by rw [List.length_take]; omega) (by omega) (by omega)) rfl ?_
        refine dr_pure rfl rfl rfl rfl (pure_move rfl (fun _ => rfl)) ?_
        refine dr_pure rfl rfl rfl rfl (pure_move rfl (fun _ => rfl)) ?_
        refine dr_pure rfl rfl rfl rfl (pure_slice rfl (fun _ => rfl) rfl rfl (fun _ => ⟨_, _, _, rfl, (fun _ => rfl), rfl⟩) (fun _ => rfl) (fun _ => by omega) (fun _ => by omega)) ?_
        refine dr_callN rfl rfl rfl rfl rfl rfl rfl (fun _ => rfl) (fun _ => rfl) (Of_spec _ (l.drop (half rs.length)) _ (by rw [hrs, rows_part, T.rows_len, List.take_length]) (Nat.le_refl _) (by omega)) rfl ?_
        refine dr_build (xs := [_]) rfl rfl rfl rfl rfl rfl rfl rfl rfl rfl (fun _ => rfl) rfl ?_
        refine dr_append rfl rfl rfl rfl rfl rfl rfl rfl rfl rfl rfl (by rw [T.rows_len]; simp; omega) (by rw [T.rows_len]; simp; omega) ?_
        refine dr_take rfl (.inr rfl) rfl rfl rfl rfl rfl ?_
        refine dr_nil (by kernel_rfl) ?_
        refine awp_ret ?_
        repeat (first | refine thenS_ret ?_ | refine blockS_ret ?_)
        refine ret_own rfl ?_ rfl
        rw [extF, if_neg (by omega), ← hlen', if_pos (by omega)]
        show X.v (.c (.sl 4 (T.rows _ ++ [(headT _).cells]))) = X.v (.c (.sl 4 (T.rows _)))
        simp [T.rows_eq]
      · simp only [decide_eq_false_iff_not] at hc2
        have hxl := extF_len f (l.drop (half rs.length)) (n - half rs.length) false
        have hcast : (n : Int) - (half rs.length : Nat) = ((n - half rs.length : Nat) : Int) := by omega
        refine awp_skip ?_
        refine awp_seq ?_
        refine awp_drawn' (by kernel_rfl) ?_
        refine dr_pure rfl rfl rfl rfl (pure_move rfl (fun _ => rfl)) ?_
        refine dr_pure rfl rfl rfl rfl (pure_move rfl (fun _ => rfl)) ?_
        refine dr_pure rfl rfl rfl rfl (pure_slice rfl (fun _ => rfl) rfl rfl (fun _ => ⟨_, _, _, rfl, (fun _ => rfl), rfl⟩) (fun _ => rfl) (fun _ => by omega) (fun _ => by omega)) ?_
        refine dr_pure rfl rfl rfl rfl (pure_move rfl (fun _ => rfl)) ?_
        refine dr_pure rfl rfl rfl rfl (pure_move rfl (fun _ => rfl)) ?_
        refine dr_pure rfl rfl rfl rfl (pure_arith rfl rfl (fun _ => rfl) (fun _ => rfl) rfl (IntWalk.i64_in _ (by omega))) ?_
        rw [hcast]
        refine dr_call rfl rfl rfl rfl rfl rfl rfl (fun _ => rfl) (fun _ => rfl) (ih (l.drop (half rs.length)) _ (n - half rs.length) false (by rw [hrs, rows_part, T.rows_len, List.take_length]) (by rw [List.length_drop]; omega) (by omega) (by rw [List.length_drop]; omega) (by omega) (by omega)) rfl ?_
        refine dr_pure rfl rfl rfl rfl (pure_move rfl (fun _ => rfl)) ?_
        refine dr_pure rfl rfl rfl rfl (pure_move rfl (fun _ => rfl)) ?_
        refine dr_pure rfl rfl rfl rfl (pure_slice rfl (fun _ => rfl) rfl rfl (fun _ => rfl) (fun _ => ⟨_, _, _, rfl, (fun _ => rfl), rfl⟩) (fun _ => by omega) (fun _ => by omega)) ?_
        refine dr_callN rfl rfl rfl rfl rfl rfl rfl (fun _ => rfl) (fun _ => rfl) (Of_spec _ (l.take (half rs.length)) _ (by rw [hrs, rows_part]; rfl) (Nat.le_refl _) (by omega)) rfl ?_
        refine dr_build (xs := [_]) rfl rfl rfl rfl rfl rfl rfl rfl rfl rfl (fun _ => rfl) rfl ?_
        refine dr_append rfl rfl rfl rfl rfl rfl rfl rfl rfl rfl rfl (by rw [T.rows_len]; simp; omega) (by rw [T.rows_len]; simp; omega) ?_
        refine dr_take rfl (.inr rfl) rfl rfl rfl rfl rfl ?_
        refine dr_nil (by kernel_rfl) ?_
        refine awp_ret ?_
        repeat (first | refine thenS_ret ?_ | refine blockS_ret ?_)
        refine ret_own rfl ?_ rfl
        rw [extF, if_neg (by omega), ← hlen', if_neg (by omega)]
        show X.v (.c (.sl 4 (T.rows _ ++ [(headT _).cells]))) = X.v (.c (.sl 4 (T.rows _)))
        simp [T.rows_eq]
theorem rExtend_spec (l : List T) (n : Int) (h : T.sizes l ≤ 10000) (h2 : l.length ≤ 10000) : Ctr sys 25 [xl l, xi n] [] (.tup [.c (.sl 4 (T.rows (extE l n).1)), .c (.i .i64 (extE l n).2)]) none [] := by
  have hs := headT_size l
  refine spec_intro Try.func25 rfl rfl rfl rfl rfl rfl ?_
  refine awp_seq ?_
  refine awp_region ?_
  refine al_pure rfl rfl rfl (pure_assign rfl (fun _ => rfl)) ?_
  refine al_pure rfl rfl rfl (pure_assign rfl (fun _ => rfl)) ?_
  refine al_nil ?_
  refine awp_seq ?_
  refine awp_seq ?_
  refine awp_region ?_
  refine al_pure rfl rfl rfl (pure_move rfl (fun _ => rfl)) ?_
  refine al_call rfl rfl rfl rfl rfl rfl (fun _ => rfl) (fun _ => rfl) (entries_spec l (by omega)) rfl ?_
  refine al_pure rfl rfl rfl (pure_assign rfl (fun _ => rfl)) ?_
  refine al_nil ?_
  refine awp_seq ?_
  refine awp_region ?_
  refine al_pure rfl rfl rfl (pure_move rfl (fun _ => rfl)) ?_
  refine al_pure rfl rfl rfl (pure_cmp rfl rfl (fun _ => rfl) (fun _ => rfl) rfl) ?_
  refine al_nil ?_
  refine awp_cond rfl (fun hc => ?_) (fun hc => ?_)
  · refine awp_seq ?_
    refine awp_region ?_
    refine al_pure rfl rfl rfl (pure_move rfl (fun _ => rfl)) ?_
    refine al_pure rfl rfl rfl (pure_assign rfl (fun _ => rfl)) ?_
    refine al_pure rfl rfl rfl (pure_assign rfl (fun _ => rfl)) ?_
    refine al_nil ?_
    refine awp_ret ?_
    repeat (first | refine thenS_ret ?_ | refine blockS_ret ?_)
    refine ret_ok rfl ?_ trivial
    rw [extE, if_pos (by simpa using hc)]; rfl
  · refine awp_skip ?_
    refine awp_seq ?_
    refine awp_seq ?_
    refine awp_region ?_
    refine al_pure rfl rfl rfl (pure_move rfl (fun _ => rfl)) ?_
    refine al_pure rfl rfl rfl (pure_cmp rfl rfl (fun _ => rfl) (fun _ => rfl) rfl) ?_
    refine al_pure rfl rfl rfl (pure_move rfl (fun _ => rfl)) ?_
    refine al_pure rfl rfl rfl (pure_move rfl (fun _ => rfl)) ?_
    refine al_pure rfl rfl rfl (pure_move rfl (fun _ => rfl)) ?_
    refine al_pure rfl rfl rfl (pure_lenSl rfl (fun hh => hh) rfl rfl) ?_
    refine al_pure rfl rfl rfl (pure_cmp rfl rfl (fun hh => hh) (fun hh => hh) rfl) ?_
    refine al_pure rfl rfl rfl (pure_or rfl rfl (fun _ => rfl) (fun _ hi => gP rfl hi)) ?_
    refine al_nil ?_
    refine awp_sub (s := { t := [(0, _, _), (1, _, _), (4, _, _), (5, _, _), (20, _, _)], bx := [], ow := [] }) (sub_mk (⟨⟨_, rfl, rfl⟩, ⟨⟨_, rfl, rfl⟩, ⟨⟨_, rfl, rfl⟩, ⟨⟨_, rfl, rfl⟩, ⟨⟨_, rfl, rfl⟩, trivial⟩⟩⟩⟩⟩) trivial trivial) ?_
    refine awp_cond rfl (fun hc2 => ?_) (fun hc2 => ?_)
    · refine awp_seq ?_
      refine awp_region ?_
      refine al_pure rfl rfl rfl (pure_assign rfl (fun _ => rfl)) ?_
      refine al_pure rfl rfl rfl (pure_assign rfl (fun _ => rfl)) ?_
      refine al_nil ?_
      refine awp_ret ?_
      repeat (first | refine thenS_ret ?_ | refine blockS_ret ?_)
      refine ret_ok rfl ?_ trivial
      simp only [Bool.or_eq_true, decide_eq_true_eq, T.rows_len] at hc2
      rw [extE, if_neg (by simpa using hc), if_pos hc2]; rfl
    · simp only [Bool.or_eq_false_iff, decide_eq_false_iff_not, T.rows_len] at hc2
      refine awp_skip ?_
      refine awp_seq ?_
      refine awp_seq ?_
      refine awp_region ?_
      refine al_pure rfl rfl rfl (pure_move rfl (fun _ => rfl)) ?_
      refine al_call rfl rfl rfl rfl rfl rfl (fun _ => rfl) (fun _ => rfl) (Of_spec _ l _ rfl (Nat.le_refl _) (by omega)) rfl ?_
      refine al_call rfl rfl rfl rfl rfl rfl (fun _ => rfl) (fun _ => rfl) (large_spec _ (by omega)) rfl ?_
      refine al_pure rfl rfl rfl (pure_assign rfl (fun _ => rfl)) ?_
      refine al_nil ?_
      refine awp_seq ?_
      refine awp_region ?_
      refine al_pure rfl rfl rfl (pure_move rfl (fun _ => rfl)) ?_
      refine al_pure rfl rfl rfl (pure_cmp rfl rfl (fun _ => rfl) (fun _ => rfl) rfl) ?_
      refine al_nil ?_
      refine awp_cond rfl (fun hc3 => ?_) (fun hc3 => ?_)
      · refine awp_seq ?_
        refine awp_region ?_
        refine al_pure rfl rfl rfl (pure_move rfl (fun _ => rfl)) ?_
        refine al_pure rfl rfl rfl (pure_assign rfl (fun _ => rfl)) ?_
        refine al_pure rfl rfl rfl (pure_assign rfl (fun _ => rfl)) ?_
        refine al_nil ?_
        refine awp_ret ?_
        repeat (first | refine thenS_ret ?_ | refine blockS_ret ?_)
        refine ret_ok rfl ?_ trivial
        rw [extE, if_neg (by simpa using hc), if_neg (by omega), if_pos (by simpa using hc3)]; rfl
      · refine awp_skip ?_
        refine awp_seq ?_
        refine awp_region ?_
        refine al_pure rfl rfl rfl (pure_move rfl (fun _ => rfl)) ?_
        refine al_pure rfl rfl rfl (pure_move rfl (fun _ => rfl)) ?_
        obtain ⟨m, rfl⟩ : ∃ m : Nat, n = m := ⟨n.toNat, by omega⟩
        refine al_call rfl rfl rfl rfl rfl rfl (fun _ => rfl) (fun _ => rfl) (rextend_spec l.length l _ m true rfl (Nat.le_refl _) (by omega) (by omega) (by omega) h) rfl ?_
        refine al_pure rfl rfl rfl (pure_assign rfl (fun _ => rfl)) ?_
        refine al_pure rfl rfl rfl (pure_assign rfl (fun _ => rfl)) ?_
        refine al_nil ?_
        refine awp_ret ?_
        repeat (first | refine thenS_ret ?_ | refine blockS_ret ?_)
        refine ret_ok rfl ?_ trivial
        rw [extE, if_neg (by simpa using hc), if_neg (by omega), if_neg (by simpa using hc3)]; rfl
theorem incF_len : ∀ (f : Nat) (l : List T) (i : Nat), (incF f l i).length ≤ f
  | 0, l, i => by rw [incF]; simp
  | f + 1, l, i => by
    have h1 := incF_len f (l.take (half l.length)) i
    have h2 := incF_len f (l.drop (half l.length)) (i - half l.length)
    rw [incF]
    split
    · simp
    · split <;> simp <;> omega
theorem rinclude_spec : ∀ (f : Nat) (l : List T) (rs : List (List C)) (i : Nat), rs = T.rows l → l.length ≤ f → i < l.length → f ≤ 10000 → T.sizes l ≤ 10000 →
    Ctr sys 43 [.v (.c (.sl 4 rs)), xi i] [] (xl (incF f l i).reverse) (some 4) [] := by
  intro f
  induction f with
  | zero => intro l rs i _ h1 h2 h3; omega
  | succ f ih =>
    intro l rs i hrs hl hi hf hsz
    have hlen' : rs.length = l.length := by rw [hrs, T.rows_len]
    refine spec_intro Try.func43 rfl rfl rfl rfl rfl rfl ?_
    refine awp_seq ?_
    refine awp_region ?_
    refine al_do rfl (does_nil (.inr rfl) rfl rfl) ?_
    refine al_nil ?_
    refine awp_seq ?_
    refine awp_seq ?_
    refine awp_region ?_
    refine al_pure rfl rfl rfl (pure_move rfl (fun _ => rfl)) ?_
    refine al_lenSl rfl rfl rfl rfl rfl (fun _ => rfl) rfl rfl ?_ (fun hh => by simp at hh); intro hlen
    refine al_pure rfl rfl rfl (pure_cmp rfl rfl (fun _ => rfl) (fun _ => rfl) rfl) ?_
    refine al_nil ?_
    refine awp_cond rfl (fun hc => ?_) (fun hc => ?_)
    · simp only [beq_iff_eq] at hc
      refine awp_seq ?_
      refine awp_region ?_
      refine al_do rfl (does_nil (.inr rfl) rfl rfl) ?_
      refine al_nil ?_
      refine awp_ret ?_
      repeat (first | refine thenS_ret ?_ | refine blockS_ret ?_)
      refine ret_own rfl ?_ rfl
      rw [incF, if_pos (by omega)]; simp [T.rows]; rfl
    · simp only [beq_eq_false_iff_ne, ne_eq] at hc
      have h2 : 2 ≤ rs.length := by omega
      have hb := half_bound h2
      have hsp := sizes_split l (half rs.length)
      have hl1 : (l.take (half rs.length)).length ≤ l.length := by rw [List.length_take]; omega
      have hl2 : (l.drop (half rs.length)).length ≤ l.length := by rw [List.length_drop]; omega
      refine awp_skip ?_
      refine awp_seq ?_
      refine awp_region ?_
      refine al_pure rfl rfl rfl (pure_move rfl (fun _ => rfl)) ?_
      refine al_lenSl rfl rfl rfl rfl rfl (fun _ => rfl) rfl rfl ?_ (fun hh => by simp at hh); intro hlen
      refine al_call rfl rfl rfl rfl rfl rfl (fun _ => rfl) (fun _ => rfl) (Split_spec rs.length h2 (by omega)) rfl ?_
      refine al_pure rfl rfl rfl (pure_assign rfl (fun _ => rfl)) ?_
      refine al_nil ?_
      refine awp_sub (s := { t := [(0, _, _), (1, _, _), (4, _, _), (5, _, _)], bx := [], ow := [((.t 4), _)] }) (sub_mk (⟨⟨_, rfl, rfl⟩, ⟨⟨_, rfl, rfl⟩, ⟨⟨_, rfl, rfl⟩, ⟨⟨_, rfl, rfl⟩, trivial⟩⟩⟩⟩) trivial (⟨rfl, trivial⟩)) ?_
      refine awp_seq ?_
      refine awp_seq ?_
      refine awp_region ?_
      refine al_pure rfl rfl rfl (pure_move rfl (fun _ => rfl)) ?_
      refine al_pure rfl rfl rfl (pure_move rfl (fun _ => rfl)) ?_
      refine al_pure rfl rfl rfl (pure_cmp rfl rfl (fun _ => rfl) (fun _ => rfl) rfl) ?_
      refine al_nil ?_
      refine awp_cond rfl (fun hc2 => ?_) (fun hc2 => ?_)
      · simp only [decide_eq_true_eq] at hc2
        have hxl := incF_len f (l.take (half rs.length)) i
        refine awp_seq ?_
        refine awp_drawn' (by kernel_rfl) ?_
        refine dr_pure rfl rfl rfl rfl (pure_move rfl (fun _ => rfl)) ?_
        refine dr_pure rfl rfl rfl rfl (pure_move rfl (fun _ => rfl)) ?_
        refine dr_pure rfl rfl rfl rfl (pure_slice rfl (fun _ => rfl) rfl rfl (fun _ => rfl) (fun _ => ⟨_, _, _, rfl, (fun _ => rfl), rfl⟩) (fun _ => by omega) (fun _ => by omega)) ?_
        refine dr_pure rfl rfl rfl rfl (pure_move rfl (fun _ => rfl)) ?_
        refine dr_call rfl rfl rfl rfl rfl rfl rfl (fun _ => rfl) (fun _ => rfl) (ih (l.take (half rs.length)) _ i (by rw [hrs, rows_part]; rfl) (by rw [List.length_take]; omega) (by rw [List.length_take]; omega) (by omega) (by omega)) rfl ?_
        refine dr_pure rfl rfl rfl rfl (pure_move rfl (fun _ => rfl)) ?_
        refine dr_pure rfl rfl rfl rfl (pure_move rfl (fun _ => rfl)) ?_
        refine dr_pure rfl rfl rfl rfl (pure_slice rfl (fun _ => rfl) rfl rfl (fun _ => ⟨_, _, _, rfl, (fun _ => rfl), rfl⟩) (fun _ => rfl) (fun _ => by omega) (fun _ => by omega)) ?_
        refine dr_callN rfl rfl rfl rfl rfl rfl rfl (fun _ => rfl) (fun _ => rfl) (Of_spec _ (l.drop (half rs.length)) _ (by rw [hrs, rows_part, T.rows_len, List.take_length]) (Nat.le_refl _) (by omega)) rfl ?_
        refine dr_build (xs := [_]) rfl rfl rfl rfl rfl rfl rfl rfl rfl rfl (fun _ => rfl) rfl ?_
        refine dr_append rfl rfl rfl rfl rfl rfl rfl rfl rfl rfl rfl (by rw [T.rows_len]; simp; omega) (by rw [T.rows_len]; simp; omega) ?_
        refine dr_take rfl (.inr rfl) rfl rfl rfl rfl rfl ?_
        refine dr_nil (by kernel_rfl) ?_
        refine awp_ret ?_
        repeat (first | refine thenS_ret ?_ | refine blockS_ret ?_)
        refine ret_own rfl ?_ rfl
        rw [incF, if_neg (by omega), ← hlen', if_pos (by omega), List.reverse_cons]
        show X.v (.c (.sl 4 (T.rows _ ++ [(headT _).cells]))) = X.v (.c (.sl 4 (T.rows _)))
        simp [T.rows_eq]
      · simp only [decide_eq_false_iff_not] at hc2
        have hxl := incF_len f (l.drop (half rs.length)) (i - half rs.length)
        have hcast : (i : Int) - (half rs.length : Nat) = ((i - half rs.length : Nat) : Int) := by omega
        refine awp_skip ?_
        refine awp_seq ?_
        refine awp_drawn' (by kernel_rfl) ?_
        refine dr_pure rfl rfl rfl rfl (pure_move rfl (fun _ => rfl)) ?_
        refine dr_pure rfl rfl rfl rfl (pure_move rfl (fun _ => rfl)) ?_
        refine dr_pure rfl rfl rfl rfl (pure_slice rfl (fun _ => rfl) rfl rfl (fun _ => ⟨_, _, _, rfl, (fun _ => rfl), rfl⟩) (fun _ => rfl) (fun _ => by omega) (fun _ => by omega)) ?_
        refine dr_pure rfl rfl rfl rfl (pure_move rfl (fun _ => rfl)) ?_
        refine dr_pure rfl rfl rfl rfl (pure_move rfl (fun _ => rfl)) ?_
        refine dr_pure rfl rfl rfl rfl (pure_arith rfl rfl (fun _ => rfl) (fun _ => rfl) rfl (IntWalk.i64_in _ (by omega))) ?_
        rw [hcast]
        refine dr_call rfl rfl rfl rfl rfl rfl rfl (fun _ => rfl) (fun _ => rfl) (ih (l.drop (half rs.length)) _ (i - half rs.length) (by rw [hrs, rows_part, T.rows_len, List.take_length]) (by rw [List.length_drop]; omega) (by rw [List.length_drop]; omega) (by omega) (by omega)) rfl ?_
        refine dr_pure rfl rfl rfl rfl (pure_move rfl (fun _ => rfl)) ?_
        refine dr_pure rfl rfl rfl rfl (pure_move rfl (fun _ => rfl)) ?_
        refine dr_pure rfl rfl rfl rfl (pure_slice rfl (fun _ => rfl) rfl rfl (fun _ => rfl) (fun _ => ⟨_, _, _, rfl, (fun _ => rfl), rfl⟩) (fun _ => by omega) (fun _ => by omega)) ?_
        refine dr_callN rfl rfl rfl rfl rfl rfl rfl (fun _ => rfl) (fun _ => rfl) (Of_spec _ (l.take (half rs.length)) _ (by rw [hrs, rows_part]; rfl) (Nat.le_refl _) (by omega)) rfl ?_
        refine dr_build (xs := [_]) rfl rfl rfl rfl rfl rfl rfl rfl rfl rfl (fun _ => rfl) rfl ?_
        refine dr_append rfl rfl rfl rfl rfl rfl rfl rfl rfl rfl rfl (by rw [T.rows_len]; simp; omega) (by rw [T.rows_len]; simp; omega) ?_
        refine dr_take rfl (.inr rfl) rfl rfl rfl rfl rfl ?_
        refine dr_nil (by kernel_rfl) ?_
        refine awp_ret ?_
        repeat (first | refine thenS_ret ?_ | refine blockS_ret ?_)
        refine ret_own rfl ?_ rfl
        rw [incF, if_neg (by omega), ← hlen', if_neg (by omega), List.reverse_cons]
        show X.v (.c (.sl 4 (T.rows _ ++ [(headT _).cells]))) = X.v (.c (.sl 4 (T.rows _)))
        simp [T.rows_eq]
theorem rInclude_spec (l : List T) (n : Int) (h : T.sizes l ≤ 10000) (h2 : l.length ≤ 10000) : Ctr sys 21 [xl l, xi n] [] (.tup [.c (.sl 4 (T.rows (incE l n).1)), .c (.i .i64 (incE l n).2)]) none [] := by
  have hs := headT_size l
  refine spec_intro Try.func21 rfl rfl rfl rfl rfl rfl ?_
  refine awp_seq ?_
  refine awp_region ?_
  refine al_pure rfl rfl rfl (pure_assign rfl (fun _ => rfl)) ?_
  refine al_pure rfl rfl rfl (pure_assign rfl (fun _ => rfl)) ?_
  refine al_nil ?_
  refine awp_seq ?_
  refine awp_seq ?_
  refine awp_region ?_
  refine al_pure rfl rfl rfl (pure_move rfl (fun _ => rfl)) ?_
  refine al_call rfl rfl rfl rfl rfl rfl (fun _ => rfl) (fun _ => rfl) (entries_spec l (by omega)) rfl ?_
  refine al_pure rfl rfl rfl (pure_assign rfl (fun _ => rfl)) ?_
  refine al_nil ?_
  refine awp_seq ?_
  refine awp_region ?_
  refine al_pure rfl rfl rfl (pure_move rfl (fun _ => rfl)) ?_
  refine al_pure rfl rfl rfl (pure_cmp rfl rfl (fun _ => rfl) (fun _ => rfl) rfl) ?_
  refine al_nil ?_
  refine awp_cond rfl (fun hc => ?_) (fun hc => ?_)
  · refine awp_seq ?_
    refine awp_region ?_
    refine al_pure rfl rfl rfl (pure_move rfl (fun _ => rfl)) ?_
    refine al_pure rfl rfl rfl (pure_assign rfl (fun _ => rfl)) ?_
    refine al_pure rfl rfl rfl (pure_assign rfl (fun _ => rfl)) ?_
    refine al_nil ?_
    refine awp_ret ?_
    repeat (first | refine thenS_ret ?_ | refine blockS_ret ?_)
    refine ret_ok rfl ?_ trivial
    rw [incE, if_pos (by simpa using hc)]; rfl
  · refine awp_skip ?_
    refine awp_seq ?_
    refine awp_seq ?_
    refine awp_region ?_
    refine al_pure rfl rfl rfl (pure_move rfl (fun _ => rfl)) ?_
    refine al_pure rfl rfl rfl (pure_cmp rfl rfl (fun _ => rfl) (fun _ => rfl) rfl) ?_
    refine al_pure rfl rfl rfl (pure_move rfl (fun _ => rfl)) ?_
    refine al_pure rfl rfl rfl (pure_move rfl (fun _ => rfl)) ?_
    refine al_pure rfl rfl rfl (pure_move rfl (fun _ => rfl)) ?_
    refine al_pure rfl rfl rfl (pure_lenSl rfl (fun hh => hh) rfl rfl) ?_
    refine al_pure rfl rfl rfl (pure_cmp rfl rfl (fun hh => hh) (fun hh => hh) rfl) ?_
    refine al_pure rfl rfl rfl (pure_or rfl rfl (fun _ => rfl) (fun _ hi => gP rfl hi)) ?_
    refine al_nil ?_
    refine awp_sub (s := { t := [(0, _, _), (1, _, _), (4, _, _), (5, _, _), (20, _, _)], bx := [], ow := [] }) (sub_mk (⟨⟨_, rfl, rfl⟩, ⟨⟨_, rfl, rfl⟩, ⟨⟨_, rfl, rfl⟩, ⟨⟨_, rfl, rfl⟩, ⟨⟨_, rfl, rfl⟩, trivial⟩⟩⟩⟩⟩) trivial trivial) ?_
    refine awp_cond rfl (fun hc2 => ?_) (fun hc2 => ?_)
    · refine awp_seq ?_
      refine awp_region ?_
      refine al_pure rfl rfl rfl (pure_assign rfl (fun _ => rfl)) ?_
      refine al_pure rfl rfl rfl (pure_assign rfl (fun _ => rfl)) ?_
      refine al_nil ?_
      refine awp_ret ?_
      repeat (first | refine thenS_ret ?_ | refine blockS_ret ?_)
      refine ret_ok rfl ?_ trivial
      simp only [Bool.or_eq_true, decide_eq_true_eq, T.rows_len] at hc2
      rw [incE, if_neg (by simpa using hc), if_pos hc2]; rfl
    · simp only [Bool.or_eq_false_iff, decide_eq_false_iff_not, T.rows_len] at hc2
      refine awp_skip ?_
      refine awp_seq ?_
      refine awp_seq ?_
      refine awp_region ?_
      refine al_pure rfl rfl rfl (pure_move rfl (fun _ => rfl)) ?_
      refine al_call rfl rfl rfl rfl rfl rfl (fun _ => rfl) (fun _ => rfl) (Of_spec _ l _ rfl (Nat.le_refl _) (by omega)) rfl ?_
      refine al_call rfl rfl rfl rfl rfl rfl (fun _ => rfl) (fun _ => rfl) (large_spec _ (by omega)) rfl ?_
      refine al_pure rfl rfl rfl (pure_assign rfl (fun _ => rfl)) ?_
      refine al_nil ?_
      refine awp_seq ?_
      refine awp_region ?_
      refine al_pure rfl rfl rfl (pure_move rfl (fun _ => rfl)) ?_
      refine al_pure rfl rfl rfl (pure_cmp rfl rfl (fun _ => rfl) (fun _ => rfl) rfl) ?_
      refine al_nil ?_
      refine awp_cond rfl (fun hc3 => ?_) (fun hc3 => ?_)
      · refine awp_seq ?_
        refine awp_region ?_
        refine al_pure rfl rfl rfl (pure_move rfl (fun _ => rfl)) ?_
        refine al_pure rfl rfl rfl (pure_assign rfl (fun _ => rfl)) ?_
        refine al_pure rfl rfl rfl (pure_assign rfl (fun _ => rfl)) ?_
        refine al_nil ?_
        refine awp_ret ?_
        repeat (first | refine thenS_ret ?_ | refine blockS_ret ?_)
        refine ret_ok rfl ?_ trivial
        rw [incE, if_neg (by simpa using hc), if_neg (by omega), if_pos (by simpa using hc3)]; rfl
      · refine awp_skip ?_
        refine awp_seq ?_
        refine awp_region ?_
        refine al_pure rfl rfl rfl (pure_move rfl (fun _ => rfl)) ?_
        refine al_pure rfl rfl rfl (pure_move rfl (fun _ => rfl)) ?_
        obtain ⟨m, rfl⟩ : ∃ m : Nat, n = m := ⟨n.toNat, by omega⟩
        refine al_call rfl rfl rfl rfl rfl rfl (fun _ => rfl) (fun _ => rfl) (rinclude_spec l.length l _ m rfl (Nat.le_refl _) (by omega) (by omega) h) rfl ?_
        refine al_pure rfl rfl rfl (pure_assign rfl (fun _ => rfl)) ?_
        refine al_pure rfl rfl rfl (pure_assign rfl (fun _ => rfl)) ?_
        refine al_nil ?_
        refine awp_ret ?_
        repeat (first | refine thenS_ret ?_ | refine blockS_ret ?_)
        refine ret_ok rfl ?_ trivial
        rw [incE, if_neg (by simpa using hc), if_neg (by omega), if_neg (by simpa using hc3)]; rfl
end Go.Proofs.Ytginljdgdllhfaa
