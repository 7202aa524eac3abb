/- The laws on proofs: the contracts. -/
import Derived.Test.YtginljdgdllhfaaRef5
import Derived.Test.YtginljdgdllhfaaClone
set_option linter.unusedVariables false
set_option linter.unusedSimpArgs false
namespace Go.Proofs.Ytginljdgdllhfaa
open Go Go.Abs
theorem few_specR (l : List T) (rs : List (List C)) (h : rs = T.rows l) : Ctr sys 11 [.v (.c (.sl 4 rs))] [] (xb (fewB l 40 300)) none [] := by
  rw [h]; exact few_spec l
theorem fewB_mem {l : List T} {n : Nat} {m : Int} (h : fewB l n m = true) : ∀ x ∈ l, (x.size : Int) ≤ m := by
  intro x hx
  obtain ⟨k, hk⟩ := List.getElem?_of_mem hx
  have h1 := size_get l k x hk
  have h2 := (fewB_sizes h).2
  omega
theorem sizes_le {M : Nat} : ∀ (l : List T), (∀ x ∈ l, x.size ≤ M) → T.sizes l ≤ l.length * M
  | [], _ => by simp [T.sizes]
  | t :: l, h => by
    have h1 := sizes_le l fun x hx => h x (List.mem_cons_of_mem _ hx)
    have h2 := h t (List.mem_cons_self ..)
    rw [T.sizes, List.length_cons, Nat.succ_mul]; omega
theorem part_le (l : List T) (k : Nat) : T.sizes (l.take k) + 7 * (l.take k).length + 2 ≤ T.sizes l + 7 * l.length + 2 ∧ T.sizes (l.drop k) + 7 * (l.drop k).length + 2 ≤ T.sizes l + 7 * l.length + 2 := by
  have h1 := sizes_split l k
  rw [List.length_take, List.length_drop]
  omega
theorem extF_mem : ∀ (f : Nat) (l : List T) (n : Nat) (w : Bool) (x : T), x ∈ extF f l n w → x.size ≤ T.sizes l + 7 * l.length + 2 := by
  have hst : ∀ (l : List T) (w : Bool) (x : T), x ∈ (if w = true then [] else [headT l]) → x.size ≤ T.sizes l + 7 * l.length + 2 := by
    intro l w x hx
    cases w with
    | true => simp at hx
    | false => simp at hx; subst hx; exact headT_size l
  intro f
  induction f with
  | zero => intro l n w x hx; exact hst l w x hx
  | succ f ih =>
    intro l n w x hx
    obtain ⟨p1, p2⟩ := part_le l (half l.length)
    rw [extF] at hx
    split at hx
    · exact hst l w x hx
    · split at hx
      · rcases List.mem_append.1 hx with h | h
        · exact Nat.le_trans (ih _ _ _ _ h) p1
        · simp only [List.mem_singleton] at h; subst h; exact Nat.le_trans (headT_size _) p2
      · rcases List.mem_append.1 hx with h | h
        · exact Nat.le_trans (ih _ _ _ _ h) p2
        · simp only [List.mem_singleton] at h; subst h; exact Nat.le_trans (headT_size _) p1
theorem incF_mem : ∀ (f : Nat) (l : List T) (i : Nat) (x : T), x ∈ incF f l i → x.size ≤ T.sizes l + 7 * l.length + 2 := by
  intro f
  induction f with
  | zero => intro l i x hx; simp [incF] at hx
  | succ f ih =>
    intro l i x hx
    obtain ⟨p1, p2⟩ := part_le l (half l.length)
    rw [incF] at hx
    split at hx
    · simp at hx
    · split at hx
      · rcases List.mem_cons.1 hx with h | h
        · subst h; exact Nat.le_trans (headT_size _) p2
        · exact Nat.le_trans (ih _ _ _ h) p1
      · rcases List.mem_cons.1 hx with h | h
        · subst h; exact Nat.le_trans (headT_size _) p1
        · exact Nat.le_trans (ih _ _ _ h) p2
theorem extF_fuel : ∀ (f g : Nat) (l : List T) (n : Nat) (w : Bool), 1 ≤ n → n ≤ l.length → l.length ≤ f → l.length ≤ g → extF f l n w = extF g l n w
  | 0, g, l, n, w, h1, h2, h3, _ => by omega
  | f + 1, 0, l, n, w, h1, h2, _, h4 => by omega
  | f + 1, g + 1, l, n, w, h1, h2, h3, h4 => by
    rw [extF, extF]
    split
    · rfl
    · rename_i hne
      have hb := half_bound (n := l.length) (by omega)
      split
      · rw [extF_fuel f g (l.take (half l.length)) n w h1 (by rw [List.length_take]; omega) (by rw [List.length_take]; omega) (by rw [List.length_take]; omega)]
      · rw [extF_fuel f g (l.drop (half l.length)) (n - half l.length) false (by omega) (by rw [List.length_drop]; omega) (by rw [List.length_drop]; omega) (by rw [List.length_drop]; omega)]
theorem incF_fuel : ∀ (f g : Nat) (l : List T) (i : Nat), i < l.length → l.length ≤ f → l.length ≤ g → incF f l i = incF g l i
  | 0, g, l, i, h2, h3, _ => by omega
  | f + 1, 0, l, i, h2, _, h4 => by omega
  | f + 1, g + 1, l, i, h2, h3, h4 => by
    rw [incF, incF]
    split
    · rfl
    · rename_i hne
      have hb := half_bound (n := l.length) (by omega)
      split
      · rw [incF_fuel f g (l.take (half l.length)) i (by rw [List.length_take]; omega) (by rw [List.length_take]; omega) (by rw [List.length_take]; omega)]
      · rw [incF_fuel f g (l.drop (half l.length)) (i - half l.length) (by rw [List.length_drop]; omega) (by rw [List.length_drop]; omega) (by rw [List.length_drop]; omega)]
theorem rightE_len {l : List T} (h : rightE l = 0) : l.length ≤ 32 := by
  unfold rightE at h
  split at h
  · simp at h
  · omega
theorem extE_ok {l : List T} {n : Int} (h : (extE l n).2 = 0) : rightE l = 0 ∧ 1 ≤ n ∧ n ≤ l.length ∧ extE l n = (extF l.length l n.toNat true, 0) := by
  unfold extE at h ⊢
  split at h
  · rename_i h1; exact absurd h h1
  rename_i h1
  split at h
  · simp at h
  rename_i h2
  split at h
  · rename_i h3; exact absurd h h3
  rename_i h3
  rw [if_neg h1, if_neg h2, if_neg h3]
  exact ⟨Decidable.not_not.1 h1, by omega, by omega, rfl⟩
theorem incE_ok {l : List T} {n : Int} (h : (incE l n).2 = 0) : rightE l = 0 ∧ 0 ≤ n ∧ n < l.length ∧ incE l n = ((incF l.length l n.toNat).reverse, 0) := by
  unfold incE at h ⊢
  split at h
  · rename_i h1; exact absurd h h1
  rename_i h1
  split at h
  · simp at h
  rename_i h2
  split at h
  · rename_i h3; exact absurd h h3
  rename_i h3
  rw [if_neg h1, if_neg h2, if_neg h3]
  exact ⟨Decidable.not_not.1 h1, by omega, by omega, rfl⟩
theorem extE_mem (l : List T) (n : Int) : ∀ x ∈ (extE l n).1, x.size ≤ T.sizes l + 7 * l.length + 2 := by
  intro x hx
  unfold extE at hx
  split at hx
  · simp at hx
  split at hx
  · simp at hx
  split at hx
  · simp at hx
  · exact extF_mem _ _ _ _ _ hx
theorem incE_mem (l : List T) (n : Int) : ∀ x ∈ (incE l n).1, x.size ≤ T.sizes l + 7 * l.length + 2 := by
  intro x hx
  unfold incE at hx
  split at hx
  · simp at hx
  split at hx
  · simp at hx
  split at hx
  · simp at hx
  · exact incF_mem _ _ _ _ (List.mem_reverse.1 hx)
theorem extE_len (l : List T) (n : Int) : (extE l n).1.length ≤ l.length + 1 := by
  have := extF_len l.length l n.toNat true
  unfold extE
  split
  · simp
  split
  · simp
  split
  · simp
  · exact this
theorem incE_len (l : List T) (n : Int) : (incE l n).1.length ≤ l.length := by
  have := incF_len l.length l n.toNat
  unfold incE
  split
  · simp
  split
  · simp
  split
  · simp
  · simpa using this
theorem chkE_honest {l : List T} {n : Int} (h : (extE l n).2 = 0) : chkE (headT (l.take n.toNat)) n (headT l) l.length (extE l n).1 = true := by
  obtain ⟨h1, h2, h3, h4⟩ := extE_ok h
  have h5 := rightE_len h1
  have h6 := extF_len l.length l n.toNat true
  rw [h4]
  dsimp only
  have h7 : (extF l.length l n.toNat true).length ≤ 32 := by
    obtain ⟨k, hk⟩ : ∃ k, l.length = k + 1 := ⟨l.length - 1, by omega⟩
    have : ∀ (f : Nat) (l : List T) (n : Nat) (w : Bool), l.length ≤ f + 1 → 1 ≤ n → n ≤ l.length → (extF (f + 1) l n w).length ≤ f + 1 := by
      intro f
      induction f with
      | zero =>
        intro l n w hl h1 h2
        rw [extF, if_pos (by omega)]; split <;> simp
      | succ f ih =>
        intro l n w hl h1 h2
        rw [extF]
        split
        · split <;> simp
        · rename_i hne
          have hb := half_bound (n := l.length) (by omega)
          split
          · have := ih (l.take (half l.length)) n w (by rw [List.length_take]; omega) h1 (by rw [List.length_take]; omega)
            rw [List.length_append, List.length_singleton]; omega
          · have := ih (l.drop (half l.length)) (n - half l.length) false (by rw [List.length_drop]; omega) (by omega) (by rw [List.length_drop]; omega)
            rw [List.length_append, List.length_singleton]; omega
    have := this k l n.toNat true (by omega) (by omega) (by omega)
    rw [hk]; omega
  rw [chkE, if_neg (by omega)]
  have := extP_honest 32 l n.toNat true (headT (l.take n.toNat)) [] h5 (by omega) (by omega) (fun _ => rfl)
  rw [List.append_nil, extF_fuel 32 l.length l n.toNat true (by omega) (by omega) h5 (Nat.le_refl _)] at this
  rw [Int.toNat_natCast, this]
  simp [T.cmp_self]
theorem LedgerExtend_spec (l : List T) (n : Int) : Ctr sys 7 [xl l, xi n] [] (xb true) none [] := by
  refine spec_intro Try.func7 rfl rfl rfl rfl rfl rfl ?_
  refine awp_seq ?_
  refine awp_region ?_
  refine al_pure rfl rfl rfl (pure_assign rfl (fun _ => rfl)) ?_
  refine al_nil ?_
  refine awp_seq ?_
  refine awp_seq ?_
  refine awp_region ?_
  refine al_call rfl rfl rfl rfl rfl rfl (fun _ => rfl) (fun _ => rfl) (awake_spec) rfl ?_
  refine al_pure rfl rfl rfl (pure_not rfl (fun _ => rfl)) ?_
  refine al_pure rfl rfl rfl (pure_move rfl (fun _ => rfl)) ?_
  refine al_pure rfl rfl rfl (pure_move rfl (fun _ => rfl)) ?_
  refine al_call rfl rfl rfl rfl rfl rfl (fun _ => rfl) (fun hh => gA ((fun hh => hh) hh) (rfl)) (few_spec l) rfl ?_
  refine al_pure rfl rfl rfl (pure_not rfl (fun hh => hh)) ?_
  refine al_pure rfl rfl rfl (pure_or rfl rfl (fun _ => rfl) (fun _ hi => gP rfl hi)) ?_
  refine al_nil ?_
  refine awp_sub (s := { t := [(0, _, _), (1, _, _), (4, _, _), (15, _, _)], bx := [], ow := [] }) (sub_mk (⟨⟨_, rfl, rfl⟩, ⟨⟨_, rfl, rfl⟩, ⟨⟨_, rfl, rfl⟩, ⟨⟨_, rfl, rfl⟩, trivial⟩⟩⟩⟩) trivial trivial) ?_
  refine awp_cond rfl (fun hc => ?_) (fun hc => ?_)
  · refine awp_seq ?_
    refine awp_region ?_
    refine al_call rfl rfl rfl rfl rfl rfl (fun _ => rfl) (fun _ => rfl) (awake_spec) rfl ?_
    refine al_pure rfl rfl rfl (pure_assign rfl (fun _ => rfl)) ?_
    refine al_nil ?_
    refine awp_ret ?_
    repeat (first | refine thenS_ret ?_ | refine blockS_ret ?_)
    refine ret_ok rfl ?_ trivial
    rfl
  · simp only [Bool.or_eq_false_iff, Bool.not_eq_false'] at hc
    obtain ⟨hl1, hl2⟩ := fewB_sizes hc.2
    have hhl := headT_size l
    have hls := extE_len l n
    have hsz := sizes_le (M := 1000) (extE l n).1 (fun x hx => by have := extE_mem l n x hx; omega)
    have hsz2 : T.sizes (extE l n).1 ≤ 1000000 := by omega
    refine awp_skip ?_
    refine awp_seq ?_
    refine awp_region ?_
    refine al_pure rfl rfl rfl (pure_move rfl (fun _ => rfl)) ?_
    refine al_call rfl rfl rfl rfl rfl rfl (fun _ => rfl) (fun _ => rfl) (Clone_spec l (by omega)) rfl ?_
    refine al_pure rfl rfl rfl (pure_move rfl (fun _ => rfl)) ?_
    refine al_call rfl rfl rfl rfl rfl rfl (fun _ => rfl) (fun _ => rfl) (Extend_spec l n (by omega) (by omega)) rfl ?_
    refine al_pure rfl rfl rfl (pure_move rfl (fun _ => rfl)) ?_
    refine al_pure rfl rfl rfl (pure_extract rfl (fun _ => rfl) rfl) ?_
    refine al_pure rfl rfl rfl (pure_extract rfl (fun _ => rfl) rfl) ?_
    refine al_pure rfl rfl rfl (pure_assign rfl (fun _ => rfl)) ?_
    refine al_pure rfl rfl rfl (pure_assign rfl (fun _ => rfl)) ?_
    refine al_nil ?_
    refine awp_sub (s := { t := [(0, _, _), (1, _, _), (4, _, _), (5, _, _), (6, _, _)], bx := [], ow := [] }) (sub_mk (⟨⟨_, rfl, rfl⟩, ⟨⟨_, rfl, rfl⟩, ⟨⟨_, rfl, rfl⟩, ⟨⟨_, rfl, rfl⟩, ⟨⟨_, rfl, rfl⟩, trivial⟩⟩⟩⟩⟩) trivial trivial) ?_
    refine awp_seq ?_
    refine awp_region ?_
    refine al_pure rfl rfl rfl (pure_move rfl (fun _ => rfl)) ?_
    refine al_pure rfl rfl rfl (pure_move rfl (fun _ => rfl)) ?_
    refine al_call rfl rfl rfl rfl rfl rfl (fun _ => rfl) (fun _ => rfl) (rExtend_spec l n (by omega) (by omega)) rfl ?_
    refine al_pure rfl rfl rfl (pure_move rfl (fun _ => rfl)) ?_
    refine al_pure rfl rfl rfl (pure_extract rfl (fun _ => rfl) rfl) ?_
    refine al_pure rfl rfl rfl (pure_extract rfl (fun _ => rfl) rfl) ?_
    refine al_pure rfl rfl rfl (pure_assign rfl (fun _ => rfl)) ?_
    refine al_pure rfl rfl rfl (pure_assign rfl (fun _ => rfl)) ?_
    refine al_nil ?_
    refine awp_sub (s := { t := [(0, _, _), (1, _, _), (4, _, _), (5, _, _), (6, _, _), (7, _, _), (8, _, _)], bx := [], ow := [] }) (sub_mk (⟨⟨_, rfl, rfl⟩, ⟨⟨_, rfl, rfl⟩, ⟨⟨_, rfl, rfl⟩, ⟨⟨_, rfl, rfl⟩, ⟨⟨_, rfl, rfl⟩, ⟨⟨_, rfl, rfl⟩, ⟨⟨_, rfl, rfl⟩, trivial⟩⟩⟩⟩⟩⟩⟩) trivial trivial) ?_
    refine awp_seq ?_
    refine awp_seq ?_
    refine awp_region ?_
    refine al_pure rfl rfl rfl (pure_move rfl (fun _ => rfl)) ?_
    refine al_pure rfl rfl rfl (pure_move rfl (fun _ => rfl)) ?_
    refine al_pure rfl rfl rfl (pure_cmp rfl rfl (fun _ => rfl) (fun _ => rfl) rfl) ?_
    refine al_pure rfl rfl rfl (pure_move rfl (fun _ => rfl)) ?_
    refine al_pure rfl rfl rfl (pure_move rfl (fun _ => rfl)) ?_
    refine al_pure rfl rfl rfl (pure_move rfl (fun _ => rfl)) ?_
    refine al_call rfl rfl rfl rfl rfl rfl (fun _ => rfl) (fun hh => gA ((fun hh => hh) hh) (gA ((fun hh => hh) hh) (rfl))) (Lists_spec (extE l n).1 (extE l n).1 (by omega) (by omega)) rfl ?_
    refine al_pure rfl rfl rfl (pure_not rfl (fun hh => hh)) ?_
    refine al_pure rfl rfl rfl (pure_or rfl rfl (fun _ => rfl) (fun _ hi => gP rfl hi)) ?_
    refine al_pure rfl rfl rfl (pure_move rfl (fun _ => rfl)) ?_
    refine al_pure rfl rfl rfl (pure_move rfl (fun _ => rfl)) ?_
    refine al_pure rfl rfl rfl (pure_cmp rfl rfl (fun hh => hh) (fun _ => rfl) rfl) ?_
    refine al_pure rfl rfl rfl (pure_or rfl rfl (fun _ => rfl) (fun _ hi => gP rfl hi)) ?_
    refine al_nil ?_
    refine awp_sub (s := { t := [(0, _, _), (1, _, _), (4, _, _), (5, _, _), (6, _, _), (7, _, _), (8, _, _), (42, _, _)], bx := [], ow := [] }) (sub_mk (⟨⟨_, rfl, rfl⟩, ⟨⟨_, rfl, rfl⟩, ⟨⟨_, rfl, rfl⟩, ⟨⟨_, rfl, rfl⟩, ⟨⟨_, rfl, rfl⟩, ⟨⟨_, rfl, rfl⟩, ⟨⟨_, rfl, rfl⟩, ⟨⟨_, rfl, rfl⟩, trivial⟩⟩⟩⟩⟩⟩⟩⟩) trivial trivial) ?_
    refine awp_cond rfl (fun hc2 => ?_) (fun hc2 => ?_)
    · refine awp_seq ?_
      refine awp_region ?_
      refine al_pure rfl rfl rfl (pure_move rfl (fun _ => rfl)) ?_
      refine al_pure rfl rfl rfl (pure_move rfl (fun _ => rfl)) ?_
      refine al_pure rfl rfl rfl (pure_cmp rfl rfl (fun _ => rfl) (fun _ => rfl) rfl) ?_
      refine al_pure rfl rfl rfl (pure_move rfl (fun _ => rfl)) ?_
      refine al_pure rfl rfl rfl (pure_move rfl (fun _ => rfl)) ?_
      refine al_pure rfl rfl rfl (pure_move rfl (fun _ => rfl)) ?_
      refine al_call rfl rfl rfl rfl rfl rfl (fun _ => rfl) (fun hh => gA ((fun hh => hh) hh) (gA ((fun hh => hh) hh) (rfl))) (Lists_spec (extE l n).1 (extE l n).1 (by omega) (by omega)) rfl ?_
      refine al_pure rfl rfl rfl (pure_and rfl rfl (fun _ => rfl) (fun _ hi => gP rfl hi)) ?_
      refine al_pure rfl rfl rfl (pure_assign rfl (fun _ => rfl)) ?_
      refine al_nil ?_
      refine awp_ret ?_
      repeat (first | refine thenS_ret ?_ | refine blockS_ret ?_)
      refine ret_ok rfl ?_ trivial
      refine xb_eq ?_
      rw [(listsB_iff _ _).2 rfl]; simp
    · rw [(listsB_iff _ _).2 rfl] at hc2
      have he : (extE l n).2 = 0 := by simpa using hc2
      have hch := chkE_honest he
      obtain ⟨q1, q2, q3, _⟩ := extE_ok he
      have hrl := T.rows_len l
      obtain ⟨m, rfl⟩ : ∃ m : Nat, n = m := ⟨n.toNat, by omega⟩
      have hht := headT_size (l.take m)
      have hsp := sizes_split l m
      rw [List.length_take] at hht
      refine awp_skip ?_
      refine awp_seq ?_
      refine awp_region ?_
      refine al_pure rfl rfl rfl (pure_move rfl (fun _ => rfl)) ?_
      refine al_pure rfl rfl rfl (pure_move rfl (fun _ => rfl)) ?_
      refine al_pure rfl rfl rfl (pure_slice rfl (fun _ => rfl) rfl rfl (fun _ => rfl) (fun _ => ⟨_, _, _, rfl, (fun _ => rfl), rfl⟩) (fun _ => by omega) (fun _ => by omega)) ?_
      refine al_call rfl rfl rfl rfl rfl rfl (fun _ => rfl) (fun _ => rfl) (Of_spec _ (l.take m) _ (by rw [rows_part]; rfl) (Nat.le_refl _) (by rw [List.length_take]; omega)) rfl ?_
      refine al_pure rfl rfl rfl (pure_move rfl (fun _ => rfl)) ?_
      refine al_pure rfl rfl rfl (pure_move rfl (fun _ => rfl)) ?_
      refine al_call rfl rfl rfl rfl rfl rfl (fun _ => rfl) (fun _ => rfl) (Of_spec _ l _ rfl (Nat.le_refl _) (by omega)) rfl ?_
      refine al_pure rfl rfl rfl (pure_move rfl (fun _ => rfl)) ?_
      refine al_lenSl rfl rfl rfl rfl rfl (fun _ => rfl) rfl rfl ?_ (fun hh => by simp at hh); intro hlen
      refine al_pure rfl rfl rfl (pure_move rfl (fun _ => rfl)) ?_
      rw [hrl]
      refine al_call rfl rfl rfl rfl rfl rfl (fun _ => rfl) (fun _ => rfl) (CheckExtend_spec (headT (l.take m)) m (headT l) l.length (extE l m).1 (by omega) (by omega) (fun x hx => by have := extE_mem l m x hx; omega)) rfl ?_
      refine al_pure rfl rfl rfl (pure_assign rfl (fun _ => rfl)) ?_
      refine al_nil ?_
      refine awp_ret ?_
      repeat (first | refine thenS_ret ?_ | refine blockS_ret ?_)
      refine ret_ok rfl ?_ trivial
      exact xb_eq hch
end Go.Proofs.Ytginljdgdllhfaa
