/- Contracts: the check of an extension, as the reference does it; and, plain, what honest proofs and accepted proofs say. -/
import Derived.Test.YtginljdgdllhfaaRef4
set_option linter.unusedVariables false
set_option linter.unusedSimpArgs false
namespace Go.Proofs.Ytginljdgdllhfaa
open Go Go.Abs
theorem growP_gz : ∀ (f n m : Nat) (w : Bool) (old : T) (l : List T), (growP f n m w old l).ok = false → growP f n m w old l = gz := by
  have hst : ∀ (w : Bool) (old : T) (l : List T), (gStop w old l).ok = false → gStop w old l = gz := by
    intro w old l h
    unfold gStop at h ⊢
    cases w with
    | true => simp at h
    | false => cases l <;> simp [gz] at h ⊢
  have hL : ∀ p : GP, (gL' p).ok = false → gL' p = gz := by
    intro p h
    unfold gL' at h ⊢
    split at h
    · rename_i h1; rw [if_pos h1]
    · simp at h
  have hR : ∀ p : GP, (gR' p).ok = false → gR' p = gz := by
    intro p h
    unfold gR' at h ⊢
    split at h
    · rename_i h1; rw [if_pos h1]
    · simp at h
  intro f
  induction f with
  | zero => intro n m w old l h; exact hst w old l h
  | succ f ih =>
    intro n m w old l h
    rw [growP] at h ⊢
    split
    · rename_i h1; rw [if_pos h1] at h; exact hst w old l h
    · rename_i h1
      rw [if_neg h1] at h
      split
      · rename_i h2; rw [if_pos h2] at h; exact hL _ h
      · rename_i h2; rw [if_neg h2] at h; exact hR _ h
theorem rCheckExtend_spec (old : T) (n : Int) (h : T) (m : Int) (l : List T) (hh : h.size ≤ 500000) (ho : old.size ≤ 10000) (hl : ∀ x ∈ l, x.size ≤ 10000) :
    Ctr sys 28 [xt old, xi n, xt h, xi m, xl l] [] (xb (chkE old n h m l)) none [] := by
  refine spec_intro Try.func28 rfl rfl rfl rfl rfl rfl ?_
  refine awp_seq ?_
  refine awp_region ?_
  refine al_do rfl (does_box rfl rfl rfl rfl) ?_
  refine al_do rfl (does_box rfl rfl rfl rfl) ?_
  refine al_pure rfl rfl rfl (pure_assign rfl (fun _ => rfl)) ?_
  refine al_nil ?_
  refine awp_seq ?_
  refine awp_seq ?_
  refine awp_region ?_
  refine al_pure rfl rfl rfl (pure_move rfl (fun _ => rfl)) ?_
  refine al_pure rfl rfl rfl (pure_cmp rfl rfl (fun _ => rfl) (fun _ => rfl) rfl) ?_
  refine al_pure rfl rfl rfl (pure_move rfl (fun _ => rfl)) ?_
  refine al_pure rfl rfl rfl (pure_move rfl (fun _ => rfl)) ?_
  refine al_pure rfl rfl rfl (pure_cmp rfl rfl (fun hh => hh) (fun _ => rfl) rfl) ?_
  refine al_pure rfl rfl rfl (pure_or rfl rfl (fun _ => rfl) (fun _ hi => gP rfl hi)) ?_
  refine al_pure rfl rfl rfl (pure_move rfl (fun _ => rfl)) ?_
  refine al_pure rfl rfl rfl (pure_move rfl (fun _ => rfl)) ?_
  refine al_pure rfl rfl rfl (pure_cmp rfl rfl (fun hh => hh) (fun _ => rfl) rfl) ?_
  refine al_pure rfl rfl rfl (pure_or rfl rfl (fun _ => rfl) (fun _ hi => gP rfl hi)) ?_
  refine al_pure rfl rfl rfl (pure_move rfl (fun _ => rfl)) ?_
  refine al_pure rfl rfl rfl (pure_move rfl (fun _ => rfl)) ?_
  refine al_pure rfl rfl rfl (pure_move rfl (fun _ => rfl)) ?_
  refine al_pure rfl rfl rfl (pure_cmp rfl rfl (fun hh => hh) (fun hh => hh) rfl) ?_
  refine al_pure rfl rfl rfl (pure_or rfl rfl (fun _ => rfl) (fun _ hi => gP rfl hi)) ?_
  refine al_pure rfl rfl rfl (pure_move rfl (fun _ => rfl)) ?_
  refine al_pure rfl rfl rfl (pure_move rfl (fun _ => rfl)) ?_
  refine al_pure rfl rfl rfl (pure_lenSl rfl (fun hh => hh) rfl rfl) ?_
  refine al_pure rfl rfl rfl (pure_cmp rfl rfl (fun hh => hh) (fun _ => rfl) rfl) ?_
  refine al_pure rfl rfl rfl (pure_or rfl rfl (fun _ => rfl) (fun _ hi => gP rfl hi)) ?_
  refine al_nil ?_
  refine awp_sub (s := { t := [(1, _, _), (3, _, _), (4, _, _), (5, _, _), (7, _, _), (10, _, _), (31, _, _)], bx := [((.l 5), _), ((.l 7), _)], ow := [] }) (sub_mk (⟨⟨_, rfl, rfl⟩, ⟨⟨_, rfl, rfl⟩, ⟨⟨_, rfl, rfl⟩, ⟨⟨_, rfl, rfl⟩, ⟨⟨_, rfl, rfl⟩, ⟨⟨_, rfl, rfl⟩, ⟨⟨_, rfl, rfl⟩, trivial⟩⟩⟩⟩⟩⟩⟩) (⟨⟨_, rfl, rfl⟩, ⟨⟨_, rfl, rfl⟩, trivial⟩⟩) trivial) ?_
  refine awp_cond rfl (fun hc => ?_) (fun hc => ?_)
  · refine awp_seq ?_
    refine awp_region ?_
    refine al_pure rfl rfl rfl (pure_assign rfl (fun _ => rfl)) ?_
    refine al_nil ?_
    refine awp_ret ?_
    repeat (first | refine thenS_ret ?_ | refine blockS_ret ?_)
    refine ret_ok rfl ?_ trivial
    refine xb_eq ?_
    simp only [Bool.or_eq_true, decide_eq_true_eq, T.rows_len] at hc
    rw [chkE, if_pos (by omega)]
  · simp only [Bool.or_eq_false_iff, decide_eq_false_iff_not, T.rows_len] at hc
    obtain ⟨n, rfl⟩ : ∃ m : Nat, n = m := ⟨n.toNat, by omega⟩
    obtain ⟨m, rfl⟩ : ∃ k : Nat, m = k := ⟨m.toNat, by omega⟩
    rw [chkE, if_neg (by omega), Int.toNat_natCast, Int.toNat_natCast]
    have hsz : (growP 32 n m true old l).x.size ≤ 400000 ∧ (growP 32 n m true old l).y.size ≤ 400000 := by
      cases hok : (growP 32 n m true old l).ok with
      | true => have := growP_size (M := 10000) (by omega) 32 n m true old l hl ho hok; omega
      | false =>
        rw [growP_gz _ _ _ _ _ _ hok]
        have : noT.size = 1 := by simp [noT, T.size, T.sizes]
        simp only [gz, this]; omega
    have hs := grow_spec 32 n m true old l (by omega) (by omega) (by omega) (by omega) (by omega)
    obtain ⟨e1, e2⟩ := grow_ext 32 n m true old l
    generalize growP 32 n m true old l = p at hs hsz e1 e2
    generalize extP 32 n m true old l false = q at e1 e2
    refine awp_skip ?_
    refine awp_seq ?_
    refine awp_region ?_
    refine al_pure rfl rfl rfl (pure_loadBoxRow rfl (fun _ => rfl) rfl rfl rfl rfl rfl) ?_
    refine al_pure rfl rfl rfl (pure_move rfl (fun _ => rfl)) ?_
    refine al_pure rfl rfl rfl (pure_move rfl (fun _ => rfl)) ?_
    refine al_pure rfl rfl rfl (pure_move rfl (fun _ => rfl)) ?_
    refine al_call rfl rfl rfl rfl rfl rfl (fun _ => rfl) (fun _ => rfl) (hs) rfl ?_
    refine al_do rfl (does_alloc rfl rfl rfl) ?_
    refine al_do rfl (does_store rfl rfl rfl rfl rfl rfl rfl) ?_
    refine al_nil ?_
    refine awp_seq ?_
    refine awp_region ?_
    refine al_pure rfl rfl rfl (pure_fieldPtr rfl (fun _ => rfl) rfl rfl) ?_
    refine al_pure rfl rfl rfl (pure_loadBox rfl (fun _ => rfl) rfl rfl rfl rfl) ?_
    refine al_pure rfl rfl rfl (pure_move rfl (fun _ => rfl)) ?_
    refine al_pure rfl rfl rfl (pure_fieldPtr rfl (fun _ => rfl) rfl rfl) ?_
    refine al_pure rfl rfl rfl (pure_loadBox rfl (fun hh => hh) rfl rfl rfl rfl) ?_
    refine al_pure rfl rfl rfl (pure_lenSl rfl (fun hh => hh) rfl rfl) ?_
    refine al_pure rfl rfl rfl (pure_cmp rfl rfl (fun hh => hh) (fun _ => rfl) rfl) ?_
    refine al_pure rfl rfl rfl (pure_and rfl rfl (fun _ => rfl) (fun _ hi => gP rfl hi)) ?_
    refine al_pure rfl rfl rfl (pure_move rfl (fun _ => rfl)) ?_
    refine al_pure rfl rfl rfl (pure_fieldPtr rfl (fun _ => rfl) rfl rfl) ?_
    refine al_pure rfl rfl rfl (pure_loadBoxRow rfl (fun hh => hh) rfl rfl rfl rfl rfl) ?_
    refine al_pure rfl rfl rfl (pure_loadBoxRow rfl (fun _ => rfl) rfl rfl rfl rfl rfl) ?_
    refine al_call rfl rfl rfl rfl rfl rfl (fun _ => rfl) (fun hh => gA ((fun hh => hh) hh) (gA ((fun hh => hh) hh) (rfl))) (Same_spec p.x old (by omega) (by omega)) rfl ?_
    refine al_pure rfl rfl rfl (pure_and rfl rfl (fun _ => rfl) (fun _ hi => gP rfl hi)) ?_
    refine al_pure rfl rfl rfl (pure_move rfl (fun _ => rfl)) ?_
    refine al_pure rfl rfl rfl (pure_fieldPtr rfl (fun _ => rfl) rfl rfl) ?_
    refine al_pure rfl rfl rfl (pure_loadBoxRow rfl (fun hh => hh) rfl rfl rfl rfl rfl) ?_
    refine al_pure rfl rfl rfl (pure_loadBoxRow rfl (fun _ => rfl) rfl rfl rfl rfl rfl) ?_
    refine al_call rfl rfl rfl rfl rfl rfl (fun _ => rfl) (fun hh => gA ((fun hh => hh) hh) (gA ((fun hh => hh) hh) (rfl))) (Same_spec p.y h (by omega) (by omega)) rfl ?_
    refine al_pure rfl rfl rfl (pure_and rfl rfl (fun _ => rfl) (fun _ hi => gP rfl hi)) ?_
    refine al_pure rfl rfl rfl (pure_assign rfl (fun _ => rfl)) ?_
    refine al_nil ?_
    refine awp_ret ?_
    repeat (first | refine thenS_ret ?_ | refine blockS_ret ?_)
    refine ret_ok rfl ?_ trivial
    refine xb_eq ?_
    rw [T.rows_len, lenZero, ← e1]
    cases hp : p.ok with
    | false => rfl
    | true =>
      obtain ⟨k1, k2, k3⟩ := e2 hp
      rw [k1, k2, k3]
theorem halfF_mono : ∀ (f j n : Nat), j ≤ halfF f j n
  | 0, j, n => Nat.le_refl _
  | f + 1, j, n => by
    rw [halfF]
    split
    · have := halfF_mono f (2 * j) n; omega
    · exact Nat.le_refl _
theorem halfF_stable : ∀ (f g j n : Nat), 1 ≤ j → n ≤ f + j → f ≤ g → halfF f j n = halfF g j n
  | 0, 0, j, n, _, _, _ => rfl
  | 0, g + 1, j, n, hj, hn, _ => by rw [halfF, halfF, if_neg (by omega)]
  | f + 1, 0, j, n, _, _, h => by omega
  | f + 1, g + 1, j, n, hj, hn, h => by
    rw [halfF, halfF]
    split
    · exact halfF_stable f g (2 * j) n (by omega) (by omega) (by omega)
    · rfl
theorem halfF_same : ∀ (f j m n : Nat), n ≤ m → halfF f j m < n → halfF f j n = halfF f j m
  | 0, j, m, n, _, _ => rfl
  | f + 1, j, m, n, hnm, h => by
    rw [halfF] at h
    rw [halfF, halfF]
    by_cases h1 : 2 * j < m
    · rw [if_pos h1] at h
      have := halfF_mono f (2 * j) m
      rw [if_pos h1, if_pos (by omega)]
      exact halfF_same f (2 * j) m n hnm h
    · rw [if_neg h1] at h
      rw [if_neg h1, if_neg (by omega)]
theorem half_same {n m : Nat} (h1 : half m < n) (h2 : n ≤ m) : half n = half m := by
  unfold half at h1 ⊢
  rw [halfF_stable n m 1 n (by omega) (by omega) h2]
  exact halfF_same m 1 m n h2 h1
/-- The head of the first entries, where they reach over the half. -/
theorem headT_over {l : List T} {n : Nat} (h2 : 2 ≤ l.length) (h1 : half l.length < n) (hn : n ≤ l.length) :
    headT (l.take n) = nodeT (headT (l.take (half l.length))) (headT ((l.drop (half l.length)).take (n - half l.length))) := by
  have hb := half_bound h2
  have hl : (l.take n).length = n := by rw [List.length_take]; omega
  have e : half n = half l.length := half_same h1 hn
  rw [headT_eq (l.take n) (by omega), hl, e, List.take_take, List.drop_take]
  rw [show min (half l.length) n = half l.length by omega]
theorem take_half {l : List T} {n : Nat} (h : n ≤ half l.length) : (l.take (half l.length)).take n = l.take n := by
  rw [List.take_take, show min n (half l.length) = n by omega]
/-- An honest proof of an extension is accepted. -/
theorem extP_honest : ∀ (f : Nat) (l : List T) (n : Nat) (w : Bool) (old : T) (rest : List T), l.length ≤ f → 1 ≤ n → n ≤ l.length → (w = true → old = headT (l.take n)) →
    extP f n l.length w old (extF f l n w ++ rest) false = ⟨headT (l.take n), headT l, rest, false⟩ := by
  have hst : ∀ (l : List T) (w : Bool) (old : T) (rest : List T), (w = true → old = headT l) → stop w old ((if w = true then [] else [headT l]) ++ rest) false = ⟨headT l, headT l, rest, false⟩ := by
    intro l w old rest h
    unfold stop
    cases w with
    | true => simp [h rfl]
    | false => simp [nextT]
  intro f
  induction f with
  | zero => intro l n w old rest hl h1 h2; omega
  | succ f ih =>
    intro l n w old rest hl h1 h2 ho
    rw [extP, extF]
    by_cases he : n = l.length
    · subst he
      rw [if_pos rfl, if_pos rfl]
      rw [List.take_length] at ho ⊢
      exact hst l w old rest ho
    · have h2' : 2 ≤ l.length := by omega
      have hb := half_bound h2'
      rw [if_neg he, if_neg he]
      by_cases hk : n ≤ half l.length
      · rw [if_pos hk, if_pos hk]
        have hlt : (l.take (half l.length)).length = half l.length := by rw [List.length_take]; omega
        have := ih (l.take (half l.length)) n w old ([headT (l.drop (half l.length))] ++ rest) (by omega) h1 (by omega) (by rw [take_half hk]; exact ho)
        rw [hlt] at this
        rw [List.append_assoc, this, take_half hk, headT_eq l h2']
        rfl
      · rw [if_neg hk, if_neg hk]
        have hlt : (l.drop (half l.length)).length = l.length - half l.length := by rw [List.length_drop]
        have := ih (l.drop (half l.length)) (n - half l.length) false old ([headT (l.take (half l.length))] ++ rest) (by omega) (by omega) (by omega) (by simp)
        rw [hlt] at this
        rw [List.append_assoc, this, headT_over h2' (by omega) h2, headT_eq l h2']
        rfl
/-- What an accepted proof of an extension says. -/
theorem extP_sound : ∀ (f : Nat) (l : List T) (n : Nat) (w : Bool) (old : T) (p : List T) (b : Bool), l.length ≤ f → 1 ≤ n → n ≤ l.length →
    (extP f n l.length w old p b).y = headT l → (extP f n l.length w old p b).x = headT (l.take n) := by
  have hst : ∀ (w : Bool) (old : T) (p : List T) (b : Bool), (stop w old p b).x = (stop w old p b).y := by
    intro w old p b; unfold stop; split <;> rfl
  intro f
  induction f with
  | zero => intro l n w old p b hl h1 h2; omega
  | succ f ih =>
    intro l n w old p b hl h1 h2 h
    rw [extP] at h ⊢
    by_cases he : n = l.length
    · subst he
      rw [if_pos rfl] at h ⊢
      rw [hst, h, List.take_length]
    · have h2' : 2 ≤ l.length := by omega
      have hb := half_bound h2'
      rw [if_neg he] at h ⊢
      by_cases hk : n ≤ half l.length
      · rw [if_pos hk] at h ⊢
        have hlt : (l.take (half l.length)).length = half l.length := by rw [List.length_take]; omega
        rw [headT_eq l h2'] at h
        have := ih (l.take (half l.length)) n w old p b (by omega) h1 (by omega) (by rw [hlt]; exact (nodeT_inj h).1)
        rw [hlt, take_half hk] at this
        exact this
      · rw [if_neg hk] at h ⊢
        have hlt : (l.drop (half l.length)).length = l.length - half l.length := by rw [List.length_drop]
        rw [headT_eq l h2'] at h
        have hr := (nodeT_inj h).1
        have := ih (l.drop (half l.length)) (n - half l.length) false old p b (by omega) (by omega) (by omega) (by rw [hlt]; exact (nodeT_inj h).2)
        rw [hlt] at this
        rw [headT_over h2' (by omega) h2, ← this, ← hr]
        rfl
theorem incP_honest : ∀ (f : Nat) (l : List T) (i : Nat) (t : T) (rest : List T), l.length ≤ f → l[i]? = some t →
    incP f l.length i t ((incF f l i).reverse ++ rest) false = (headT l, rest, false) := by
  intro f
  induction f with
  | zero => intro l i t rest hl h; have := (List.getElem?_eq_some_iff.1 h).1; omega
  | succ f ih =>
    intro l i t rest hl h
    have hi := (List.getElem?_eq_some_iff.1 h).1
    rw [incP, incF]
    by_cases h1 : l.length = 1
    · rw [if_pos h1, if_pos (show l.length ≤ 1 by omega)]
      match l, h1, h with
      | [a], _, h =>
        have : i = 0 := by simpa using hi
        subst this
        simp at h
        subst h
        rfl
    · have h2' : 2 ≤ l.length := by omega
      have hb := half_bound h2'
      rw [if_neg h1, if_neg (show ¬ l.length ≤ 1 by omega)]
      by_cases hk : i < half l.length
      · rw [if_pos hk, if_pos hk, List.reverse_cons, List.append_assoc]
        have hlt : (l.take (half l.length)).length = half l.length := by rw [List.length_take]; omega
        have := ih (l.take (half l.length)) i t ([headT (l.drop (half l.length))] ++ rest) (by omega) (by rw [List.getElem?_take, if_pos hk]; exact h)
        rw [hlt] at this
        rw [this, headT_eq l h2']
        rfl
      · rw [if_neg hk, if_neg hk, List.reverse_cons, List.append_assoc]
        have hlt : (l.drop (half l.length)).length = l.length - half l.length := by rw [List.length_drop]
        have := ih (l.drop (half l.length)) (i - half l.length) t ([headT (l.take (half l.length))] ++ rest) (by omega) (by rw [List.getElem?_drop, show half l.length + (i - half l.length) = i by omega]; exact h)
        rw [hlt] at this
        rw [this, headT_eq l h2']
        rfl
theorem incP_sound : ∀ (f : Nat) (l : List T) (i : Nat) (t : T) (p : List T) (b : Bool), l.length ≤ f → i < l.length → (incP f l.length i t p b).1 = headT l → l[i]? = some t := by
  intro f
  induction f with
  | zero => intro l i t p b hl h; omega
  | succ f ih =>
    intro l i t p b hl hi h
    rw [incP] at h
    by_cases h1 : l.length = 1
    · rw [if_pos h1] at h
      match l, h1, h with
      | [a], _, h =>
        have : i = 0 := by simpa using hi
        subst this
        rw [leafT_inj h]; rfl
    · have h2' : 2 ≤ l.length := by omega
      have hb := half_bound h2'
      rw [if_neg h1, headT_eq l h2'] at h
      by_cases hk : i < half l.length
      · rw [if_pos hk] at h
        have hlt : (l.take (half l.length)).length = half l.length := by rw [List.length_take]; omega
        have := ih (l.take (half l.length)) i t p b (by omega) (by omega) (by rw [hlt]; exact (nodeT_inj h).1)
        rw [List.getElem?_take, if_pos hk] at this
        exact this
      · rw [if_neg hk] at h
        have hlt : (l.drop (half l.length)).length = l.length - half l.length := by rw [List.length_drop]
        have := ih (l.drop (half l.length)) (i - half l.length) t p b (by omega) (by omega) (by rw [hlt]; exact (nodeT_inj h).2)
        rw [List.getElem?_drop, show half l.length + (i - half l.length) = i by omega] at this
        exact this
end Go.Proofs.Ytginljdgdllhfaa
