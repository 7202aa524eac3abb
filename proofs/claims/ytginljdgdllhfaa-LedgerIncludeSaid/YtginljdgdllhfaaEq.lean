/- Plain: when terms are the same, and when heads are. -/
import Derived.Test.YtginljdgdllhfaaAwake
set_option linter.unusedVariables false
set_option linter.unusedSimpArgs false
namespace Go.Proofs.Ytginljdgdllhfaa
open Go Go.Abs
theorem number_self (a : Int) : number a a = 0 := by
  unfold number; simp
theorem less_irrefl : ∀ (l : List UInt8), Op.bytesLess l l = false
  | [] => rfl
  | x :: xs => by
    have := less_irrefl xs
    simp [Op.bytesLess, this]
theorem T.cmp0_self (a : T) : T.cmp0 a a = 0 := by
  simp [T.cmp0, number_self, less_irrefl]
mutual
theorem T.cmp_self : ∀ a : T, a.cmp a = 0
  | .mk k n s ks => by
    rw [T.cmp, if_neg (by simp [T.cmp0_self])]
    exact T.cmps_self ks
theorem T.cmps_self : ∀ l : List T, T.cmps l l = 0
  | [] => by rw [T.cmps]
  | x :: xs => by
    rw [T.cmps, if_neg (by simp [T.cmp_self x])]
    exact T.cmps_self xs
end
theorem T.cmp0_zero {a b : T} (h : T.cmp0 a b = 0) : a.kind = b.kind ∧ a.name = b.name ∧ a.sort = b.sort ∧ a.kids.length = b.kids.length := by
  unfold T.cmp0 at h
  split at h
  · rename_i h1; exact absurd h h1
  split at h
  · rename_i h1; exact absurd h h1
  rename_i h2
  split at h
  · simp at h
  rename_i h3
  split at h
  · simp at h
  rename_i h4
  split at h
  · rename_i h1; exact absurd h h1
  rename_i h5
  have k1 := number_zero (Decidable.not_not.1 h2)
  have k2 := number_zero (Decidable.not_not.1 h5)
  have k3 := number_zero h
  simp only [Bool.not_eq_true', Bool.not_eq_false] at h4
  simp only [Bool.or_eq_true, beq_iff_eq] at h4
  refine ⟨k1, ?_, k2, by omega⟩
  rcases h4 with h4 | h4
  · exact absurd h4 h3
  · exact h4
mutual
theorem T.cmp_zero : ∀ (a b : T), a.cmp b = 0 → a = b
  | .mk k n s ks, .mk k' n' s' ks', h => by
    rw [T.cmp] at h
    split at h
    · rename_i h1; exact absurd h h1
    · rename_i h1
      obtain ⟨q1, q2, q3, q4⟩ := T.cmp0_zero (Decidable.not_not.1 h1)
      simp only [T.kind, T.name, T.sort, T.kids] at q1 q2 q3 q4 h
      rw [q1, q2, q3, T.cmps_zero ks ks' q4 h]
theorem T.cmps_zero : ∀ (a b : List T), a.length = b.length → T.cmps a b = 0 → a = b
  | [], [], _, _ => rfl
  | [], _ :: _, hl, _ => by simp at hl
  | _ :: _, [], hl, _ => by simp at hl
  | x :: xs, y :: ys, hl, h => by
    rw [T.cmps] at h
    split at h
    · rename_i h1; exact absurd h h1
    · rename_i h1
      rw [T.cmp_zero x y (Decidable.not_not.1 h1), T.cmps_zero xs ys (by simpa using hl) h]
end
theorem T.cmp_iff (a b : T) : a.cmp b = 0 ↔ a = b := ⟨T.cmp_zero a b, fun h => by rw [h]; exact T.cmp_self b⟩
theorem listsB_iff (a b : List T) : listsB a b = true ↔ a = b := by
  simp only [listsB, Bool.and_eq_true, decide_eq_true_eq, beq_iff_eq]
  exact ⟨fun h => T.cmps_zero a b h.1 h.2, fun h => by rw [h]; exact ⟨rfl, T.cmps_self b⟩⟩
theorem nodeT_inj {a b a' b' : T} (h : nodeT a b = nodeT a' b') : a = a' ∧ b = b' := by
  simp only [nodeT, hashT, T.app, T.mk.injEq, List.cons.injEq] at h
  obtain ⟨_, _, _, ⟨_, _, _, _, h, _⟩, _⟩ := h
  obtain ⟨_, _, _, h1, h2, _⟩ := h
  exact ⟨h1, h2⟩
theorem leafT_inj {a b : T} (h : leafT a = leafT b) : a = b := by
  simp only [leafT, hashT, T.app, T.mk.injEq, List.cons.injEq] at h
  obtain ⟨_, _, _, ⟨_, _, _, _, h, _⟩, _⟩ := h
  exact h
theorem leafT_node {a b c : T} (h : leafT a = nodeT b c) : False := by
  simp [leafT, nodeT, hashT, T.app, T.atom, sLeaf, sNode] at h
theorem headT_one (t : T) : headT [t] = leafT t := rfl
theorem headT_inj : ∀ (n : Nat) (l m : List T), l.length ≤ n → headT l = headT m → l = m := by
  intro n
  induction n with
  | zero =>
    intro l m hl h
    obtain rfl : l = [] := List.eq_nil_of_length_eq_zero (by omega)
    match m with
    | [] => rfl
    | [t] => rw [headT_one] at h; simp [headT, headF, leafT, hashT, T.app, T.atom] at h
    | a :: b :: r => rw [headT_eq (a :: b :: r) (by simp)] at h; simp [headT, headF, nodeT, hashT, T.app, T.atom] at h
  | succ n ih =>
    intro l m hl h
    match l, m with
    | [], [] => rfl
    | [], [t] => rw [headT_one] at h; simp [headT, headF, leafT, hashT, T.app, T.atom] at h
    | [], a :: b :: r => rw [headT_eq (a :: b :: r) (by simp)] at h; simp [headT, headF, nodeT, hashT, T.app, T.atom] at h
    | [t], [] => rw [headT_one] at h; simp [headT, headF, leafT, hashT, T.app, T.atom] at h
    | [t], [u] => rw [headT_one, headT_one] at h; rw [leafT_inj h]
    | [t], a :: b :: r => rw [headT_eq (a :: b :: r) (by simp), headT_one] at h; exact (leafT_node h).elim
    | a :: b :: r, [] => rw [headT_eq (a :: b :: r) (by simp)] at h; simp [headT, headF, nodeT, hashT, T.app, T.atom] at h
    | a :: b :: r, [t] => rw [headT_eq (a :: b :: r) (by simp), headT_one] at h; exact (leafT_node h.symm).elim
    | a :: b :: r, a' :: b' :: r' =>
      rw [headT_eq (a :: b :: r) (by simp), headT_eq (a' :: b' :: r') (by simp)] at h
      have hb := half_bound (n := (a :: b :: r).length) (by simp)
      obtain ⟨h1, h2⟩ := nodeT_inj h
      have k1 := ih _ _ (by rw [List.length_take]; omega) h1
      have k2 := ih _ _ (by rw [List.length_drop]; omega) h2
      rw [← List.take_append_drop (half (a :: b :: r).length) (a :: b :: r), k1, k2, List.take_append_drop]
theorem headE_ok {l : List T} (h : (headE l).2 = 0) : headE l = (headT l, 0) := by
  unfold headE at h ⊢
  split at h
  · rename_i h1; exact absurd h h1
  · split at h
    · rename_i h1; exact absurd h h1
    · rename_i h1 h2; rw [if_neg h1, if_neg h2]
theorem headE_size (l : List T) : (headE l).1.size ≤ (headT l).size := by
  have : 1 ≤ (headT l).size := T.size_pos _
  unfold headE
  split
  · exact this
  · split
    · exact this
    · exact Nat.le_refl _
end Go.Proofs.Ytginljdgdllhfaa
