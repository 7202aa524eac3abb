/- Contracts: the order of terms, as the package term has it. -/
import Derived.Test.YtginljdgdllhfaaEq
import Derived.Test.YtginljdgdllhfaaAbs20
set_option linter.unusedVariables false
set_option linter.unusedSimpArgs false
namespace Go.Proofs.Ytginljdgdllhfaa
open Go Go.Abs
theorem cmpL_eq : ∀ l m : List UInt8, cmpL l m = if Op.bytesLess l m = true then -1 else if (!(Op.bytesLess l m || l == m)) = true then 1 else 0
  | [], [] => rfl
  | [], _ :: _ => rfl
  | _ :: _, [] => rfl
  | x :: xs, y :: ys => by
    have ih := cmpL_eq xs ys
    have h1 : cmpL (x :: xs) (y :: ys) = if x < y then -1 else if y < x then 1 else cmpL xs ys := rfl
    have h2 : Op.bytesLess (x :: xs) (y :: ys) = (decide (x < y) || (x == y && Op.bytesLess xs ys)) := rfl
    rw [h1, h2, ih]
    by_cases hxy : x = y
    · subst hxy
      have : ¬ x < x := UInt8.lt_irrefl x
      simp [this]
    · by_cases hlt : x < y
      · simp [hlt]
      · have hgt : y < x := UInt8.lt_of_le_of_ne (UInt8.not_lt.1 hlt) (Ne.symm hxy)
        simp [hlt, hgt, hxy]
theorem sign_spec (a b : Int) : Ctr sys 72 [xi a, xi b] [] (xi (number a b)) none [] := by
  refine spec_intro Try.func72 rfl rfl rfl rfl rfl rfl ?_
  refine awp_seq ?_
  refine awp_region ?_
  refine al_pure rfl rfl rfl (pure_assign rfl (fun _ => rfl)) ?_
  refine al_nil ?_
  refine awp_seq ?_
  refine awp_block ?_
  refine awp_seq ?_
  refine awp_region ?_
  refine al_pure rfl rfl rfl (pure_move rfl (fun _ => rfl)) ?_
  refine al_pure rfl rfl rfl (pure_move rfl (fun _ => rfl)) ?_
  refine al_pure rfl rfl rfl (pure_cmp rfl rfl (fun _ => rfl) (fun _ => rfl) rfl) ?_
  refine al_pure rfl rfl rfl (pure_assign rfl (fun _ => rfl)) ?_
  refine al_nil ?_
  refine awp_cond rfl (fun hc => ?_) (fun hc => ?_)
  · refine awp_seq ?_
    refine awp_region ?_
    refine al_pure rfl rfl rfl (pure_assign rfl (fun _ => rfl)) ?_
    refine al_nil ?_
    refine awp_ret ?_
    repeat (first | refine thenS_ret ?_ | refine blockS_ret ?_)
    refine ret_ok rfl ?_ trivial
    simp only [decide_eq_true_eq] at hc
    exact xi_eq (by rw [number, if_pos hc])
  · refine awp_seq ?_
    refine awp_region ?_
    refine al_pure rfl rfl rfl (pure_move rfl (fun _ => rfl)) ?_
    refine al_pure rfl rfl rfl (pure_move rfl (fun _ => rfl)) ?_
    refine al_pure rfl rfl rfl (pure_cmp rfl rfl (fun _ => rfl) (fun _ => rfl) rfl) ?_
    refine al_pure rfl rfl rfl (pure_assign rfl (fun _ => rfl)) ?_
    refine al_nil ?_
    refine awp_sub (s := { t := [(4, _, _), (9, _, _)], bx := [], ow := [] }) (sub_mk (⟨⟨_, rfl, rfl⟩, ⟨⟨_, rfl, rfl⟩, trivial⟩⟩) trivial trivial) ?_
    refine awp_cond rfl (fun hc2 => ?_) (fun hc2 => ?_)
    · refine awp_seq ?_
      refine awp_region ?_
      refine al_pure rfl rfl rfl (pure_assign rfl (fun _ => rfl)) ?_
      refine al_nil ?_
      refine awp_ret ?_
      repeat (first | refine thenS_ret ?_ | refine blockS_ret ?_)
      refine ret_ok rfl ?_ trivial
      simp only [decide_eq_true_eq, decide_eq_false_iff_not] at hc hc2
      exact xi_eq (by rw [number, if_neg hc, if_pos (by omega)])
    · refine awp_skip ?_
      refine awp_seq ?_
      refine awp_region ?_
      refine al_pure rfl rfl rfl (pure_assign rfl (fun _ => rfl)) ?_
      refine al_nil ?_
      refine awp_ret ?_
      repeat (first | refine thenS_ret ?_ | refine blockS_ret ?_)
      refine ret_ok rfl ?_ trivial
      simp only [decide_eq_false_iff_not] at hc hc2
      exact xi_eq (by rw [number, if_neg hc, if_neg (by omega)])
def tsizeS (t : T) (k : Nat) : St := { t := [(3, true, xi (1 + T.sizes (t.kids.take k))), (7, true, xl t.kids), (8, true, xi t.kids.length), (9, true, xi k)], bx := [], ow := [] }
theorem tsize_spec : ∀ (n : Nat) (t : T), t.size ≤ n → n ≤ 1000000 → Ctr sys 73 [xt t] [] (xi t.size) none [] := by
  intro n
  induction n with
  | zero => intro t h; have := t.size_pos; omega
  | succ n ih =>
    intro t ht hn
    have hse := t.size_eq
    refine spec_intro Try.func73 rfl rfl rfl rfl rfl rfl ?_
    refine awp_seq ?_
    refine awp_region ?_
    refine al_do rfl (does_box rfl rfl rfl rfl) ?_
    refine al_pure rfl rfl rfl (pure_assign rfl (fun _ => rfl)) ?_
    refine al_nil ?_
    refine awp_seq ?_
    refine awp_region ?_
    refine al_pure rfl rfl rfl (pure_assign rfl (fun _ => rfl)) ?_
    refine al_nil ?_
    refine awp_seq ?_
    refine awp_seq ?_
    refine awp_region ?_
    refine al_pure rfl rfl rfl (pure_fieldPtr rfl (fun _ => rfl) rfl rfl) ?_
    refine al_pure rfl rfl rfl (pure_loadBox rfl (fun _ => rfl) rfl rfl rfl rfl) ?_
    refine al_lenSl rfl rfl rfl rfl rfl (fun _ => rfl) rfl rfl ?_ (fun hh => by simp at hh); intro hlen
    refine al_pure rfl rfl rfl (pure_move rfl (fun _ => rfl)) ?_
    refine al_nil ?_
    refine awp_block ?_
    refine awp_loop (tsizeS t) (fun k => k ≤ t.kids.length) (fun k => t.kids.length - k) 0 (Nat.zero_le _) ?_ ?_
    · refine sub_mk ⟨⟨_, rfl, rfl⟩, ⟨_, rfl, rfl⟩, ⟨_, rfl, by rw [T.rows_len]⟩, ⟨_, rfl, rfl⟩, trivial⟩ trivial trivial
    · intro k hk
      refine awp_seq ?_
      refine awp_region ?_
      refine al_pure rfl rfl rfl (pure_cmp rfl rfl (fun _ => rfl) (fun _ => rfl) rfl) ?_
      refine al_nil ?_
      refine awp_seq ?_
      refine awp_cond rfl (fun hc => ?_) (fun hc => ?_)
      · have hlt : k < t.kids.length := by simpa using hc
        obtain ⟨x, hx⟩ : ∃ x, t.kids[k]? = some x := ⟨_, List.getElem?_eq_getElem hlt⟩
        have h3 := T.size_kid hx
        have h4 := T.sizes_take _ _ _ hx
        have h5 := T.sizes_take_le t.kids (k + 1)
        have hls := T.len_sizes t.kids
        refine awp_skip ?_
        refine awp_seq ?_
        refine awp_block ?_
        refine awp_seq ?_
        refine awp_region ?_
        refine al_pure rfl rfl rfl (pure_indexAddr rfl rfl (fun _ => rfl) (fun _ => rfl) rfl rfl rfl (fun _ => T.rows_get hx)) ?_
        refine al_pure rfl rfl rfl (pure_loadRoRow rfl (fun _ => rfl) rfl rfl rfl rfl) ?_
        refine al_do rfl (does_alloc rfl rfl rfl) ?_
        refine al_do rfl (does_store rfl rfl rfl rfl rfl rfl rfl) ?_
        refine al_nil ?_
        refine awp_region ?_
        refine al_pure rfl rfl rfl (pure_move rfl (fun _ => rfl)) ?_
        refine al_pure rfl rfl rfl (pure_loadBoxRow rfl (fun _ => rfl) rfl rfl rfl rfl rfl) ?_
        refine al_call rfl rfl rfl rfl rfl rfl (fun _ => rfl) (fun _ => rfl) (ih x (by omega) (by omega)) rfl ?_
        refine al_pure rfl rfl rfl (pure_arith rfl rfl (fun _ => rfl) (fun _ => rfl) rfl (IntWalk.i64_in _ (by omega))) ?_
        refine al_pure rfl rfl rfl (pure_assign rfl (fun _ => rfl)) ?_
        refine al_nil ?_
        refine awp_sub (s := { t := [(3, _, _), (5, _, _), (7, _, _), (8, _, _), (9, _, _), (10, _, _), (11, _, _), (12, _, _), (13, _, _), (14, _, _), (15, _, _), (16, _, _)], bx := [((.l 5), _)], ow := [] }) (sub_mk (⟨⟨_, rfl, rfl⟩, ⟨⟨_, rfl, rfl⟩, ⟨⟨_, rfl, rfl⟩, ⟨⟨_, rfl, rfl⟩, ⟨⟨_, rfl, rfl⟩, ⟨⟨_, rfl, rfl⟩, ⟨⟨_, rfl, rfl⟩, ⟨⟨_, rfl, rfl⟩, ⟨⟨_, rfl, rfl⟩, ⟨⟨_, rfl, rfl⟩, ⟨⟨_, rfl, rfl⟩, ⟨⟨_, rfl, rfl⟩, trivial⟩⟩⟩⟩⟩⟩⟩⟩⟩⟩⟩⟩) (⟨⟨_, rfl, rfl⟩, trivial⟩) trivial) ?_
        refine awp_region ?_
        refine al_pure rfl rfl rfl (pure_arith rfl rfl (fun _ => rfl) (fun _ => rfl) rfl (IntWalk.i64_in _ (by omega))) ?_
        refine al_pure rfl rfl rfl (pure_move rfl (fun _ => rfl)) ?_
        refine al_nil ?_
        refine ⟨k + 1, by omega, by omega, ?_⟩
        refine sub_mk ⟨⟨_, rfl, ?_⟩, ⟨_, rfl, rfl⟩, ⟨_, rfl, rfl⟩, ⟨_, rfl, rfl⟩, trivial⟩ trivial trivial
        rw [h4]; congr 4; omega
      · refine awp_exit ?_
        repeat (first | refine thenS_exit ?_ | refine blockS_hit ?_ | refine blockS_miss rfl ?_)
        refine awp_seq ?_
        refine awp_region ?_
        refine al_pure rfl rfl rfl (pure_move rfl (fun _ => rfl)) ?_
        refine al_pure rfl rfl rfl (pure_assign rfl (fun _ => rfl)) ?_
        refine al_nil ?_
        refine awp_ret ?_
        repeat (first | refine thenS_ret ?_ | refine blockS_ret ?_)
        refine ret_ok rfl ?_ trivial
        have : k = t.kids.length := by simp at hc; omega
        subst this
        rw [List.take_length]
        exact xi_eq (by omega)
theorem cmpString_spec (l m : List UInt8) : Ctr sys 78 [xs l, xs m] [] (xi (cmpL l m)) none [] := by
  refine spec_intro Try.func78 rfl rfl rfl rfl rfl rfl ?_
  refine awp_seq ?_
  refine awp_region ?_
  refine al_pure rfl rfl rfl (pure_assign rfl (fun _ => rfl)) ?_
  refine al_nil ?_
  refine awp_seq ?_
  refine awp_region ?_
  refine al_pure rfl rfl rfl (pure_move rfl (fun _ => rfl)) ?_
  refine al_pure rfl rfl rfl (pure_move rfl (fun _ => rfl)) ?_
  refine al_pure rfl rfl rfl (pure_extern rfl rfl (fun _ => rfl) (fun _ => rfl) Try.func81 (by kernel_rfl) (by kernel_rfl) (by kernel_rfl) (ext := Extern.BytealgCompare.compare) (by kernel_rfl) (fun w G vs h => run_cmp _ l m w G vs h)) ?_
  refine al_pure rfl rfl rfl (pure_assign rfl (fun _ => rfl)) ?_
  refine al_nil ?_
  refine awp_ret ?_
  repeat (first | refine thenS_ret ?_ | refine blockS_ret ?_)
  refine ret_ok rfl ?_ trivial
  rfl
theorem sCompare_spec (l m : List UInt8) : Ctr sys 74 [xs l, xs m] [] (xi (cmpL l m)) none [] := by
  refine spec_intro Try.func74 rfl rfl rfl rfl rfl rfl ?_
  refine awp_seq ?_
  refine awp_region ?_
  refine al_pure rfl rfl rfl (pure_assign rfl (fun _ => rfl)) ?_
  refine al_nil ?_
  refine awp_seq ?_
  refine awp_region ?_
  refine al_pure rfl rfl rfl (pure_move rfl (fun _ => rfl)) ?_
  refine al_pure rfl rfl rfl (pure_move rfl (fun _ => rfl)) ?_
  refine al_call rfl rfl rfl rfl rfl rfl (fun _ => rfl) (fun _ => rfl) (cmpString_spec l m) rfl ?_
  refine al_pure rfl rfl rfl (pure_assign rfl (fun _ => rfl)) ?_
  refine al_nil ?_
  refine awp_ret ?_
  repeat (first | refine thenS_ret ?_ | refine blockS_ret ?_)
  refine ret_ok rfl ?_ trivial
  rfl
theorem T.cmps_pre : ∀ (a b : List T) (k : Nat), T.cmps (a.take k) (b.take k) ≠ 0 → T.cmps a b = T.cmps (a.take k) (b.take k)
  | [], b, k, h => by simp [T.cmps] at h
  | _ :: _, [], k, h => by cases k <;> simp [T.cmps] at h
  | a :: ar, b :: br, 0, h => by simp [T.cmps] at h
  | a :: ar, b :: br, k + 1, h => by
    rw [List.take_succ_cons, List.take_succ_cons, T.cmps] at h ⊢
    rw [T.cmps]
    split
    · rfl
    · rename_i h0
      rw [if_neg h0] at h
      exact T.cmps_pre ar br k h
theorem T.cmps_snoc {a b : List T} {k : Nat} {x y : T} (hx : a[k]? = some x) (hy : b[k]? = some y) (h : T.cmps (a.take k) (b.take k) = 0) : T.cmps (a.take (k + 1)) (b.take (k + 1)) = x.cmp y := by
  by_cases h0 : x.cmp y = 0
  · rw [T.cmps_step _ _ _ _ _ hx hy h h0, h0]
  · refine T.cmps_hit _ _ k x y ?_ ?_ ?_ h0
    · rw [List.getElem?_take, if_pos (by omega)]; exact hx
    · rw [List.getElem?_take, if_pos (by omega)]; exact hy
    · rw [List.take_take, List.take_take, show min k (k + 1) = k by omega]; exact h
def cJ (a b : T) (c : Int) : St := { t := [(2, true, .v (.ptr (.l 2) 0)), (3, true, .v (.ptr (.l 3) 0)), (5, true, xi c)], bx := [(.l 2, a.cells), (.l 3, b.cells)], ow := [] }
structure CmpI where
  k : Nat
  c : Int
def cLS (a b : T) (p : CmpI) : St := { t := [(2, true, .v (.ptr (.l 2) 0)), (3, true, .v (.ptr (.l 3) 0)), (5, true, xi p.c), (6, true, xi p.k)], bx := [(.l 2, a.cells), (.l 3, b.cells)], ow := [] }
def nz (a b : Int) : Int := if a = 0 then b else a
theorem nz_pos {a b : Int} (h : (a == 0) = true) : nz a b = b := by rw [nz, if_pos (by simpa using h)]
theorem nz_neg {a b : Int} (h : (a == 0) = false) : nz a b = a := by rw [nz, if_neg (by simpa using h)]
theorem T.cmp0_nz (a b : T) : T.cmp0 a b = nz (nz (nz (nz (number a.size b.size) (number a.kind b.kind)) (cmpL a.name b.name)) (number a.sort b.sort)) (number a.kids.length b.kids.length) := by
  unfold T.cmp0
  rw [cmpL_eq]
  simp only [nz]
  split
  · rename_i h; simp [h]
  rename_i h1
  rw [Decidable.not_not.1 h1]
  split
  · rename_i h; simp [h]
  rename_i h2
  rw [Decidable.not_not.1 h2]
  split
  · simp
  split
  · simp
  split
  · rename_i h; simp [h]
  · rename_i h; simp [Decidable.not_not.1 h]
theorem tCompare_spec : ∀ (n : Nat) (a b : T), a.size ≤ n → n ≤ 1000000 → b.size ≤ 1000000 → Ctr sys 66 [xt a, xt b] [] (xi (a.cmp b)) none [] := by
  intro n
  induction n with
  | zero => intro t _ h; have := t.size_pos; omega
  | succ n ih =>
    intro a b ha hn hb
    have hls := T.len_sizes a.kids
    have hse := a.size_eq
    refine spec_intro Try.func66 rfl rfl rfl rfl rfl rfl ?_
    refine awp_seq ?_
    refine awp_region ?_
    refine al_do rfl (does_box rfl rfl rfl rfl) ?_
    refine al_do rfl (does_box rfl rfl rfl rfl) ?_
    refine al_pure rfl rfl rfl (pure_assign rfl (fun _ => rfl)) ?_
    refine al_nil ?_
    refine awp_seq ?_
    refine awp_drawn' (by kernel_rfl) ?_
    refine dr_loadRow rfl rfl rfl rfl rfl rfl rfl (fun _ => rfl) rfl rfl rfl rfl rfl ?_
    refine dr_callN rfl rfl rfl rfl rfl rfl rfl (fun _ => rfl) (fun _ => rfl) (tsize_spec _ a (Nat.le_refl _) (by omega)) rfl ?_
    refine dr_loadRow rfl rfl rfl rfl rfl rfl rfl (fun _ => rfl) rfl rfl rfl rfl rfl ?_
    refine dr_callN rfl rfl rfl rfl rfl rfl rfl (fun _ => rfl) (fun _ => rfl) (tsize_spec _ b (Nat.le_refl _) hb) rfl ?_
    refine dr_callN rfl rfl rfl rfl rfl rfl rfl (fun _ => rfl) (fun _ => rfl) (sign_spec _ _) rfl ?_
    refine dr_pure rfl rfl rfl rfl (pure_assign rfl (fun _ => rfl)) ?_
    refine dr_nil (by kernel_rfl) ?_
    refine awp_sub (s := { t := [(2, _, _), (3, _, _), (4, _, _), (5, _, _)], bx := [((.l 2), _), ((.l 3), _)], ow := [] }) (sub_mk (⟨⟨_, rfl, rfl⟩, ⟨⟨_, rfl, rfl⟩, ⟨⟨_, rfl, rfl⟩, ⟨⟨_, rfl, rfl⟩, trivial⟩⟩⟩⟩) (⟨⟨_, rfl, rfl⟩, ⟨⟨_, rfl, rfl⟩, trivial⟩⟩) trivial) ?_
    refine awp_cut (cJ a b (nz (number a.size b.size) (number a.kind b.kind))) (True) ?_ (fun hj => ?_)
    · refine awp_seq ?_
      refine awp_region ?_
      refine al_pure rfl rfl rfl (pure_move rfl (fun _ => rfl)) ?_
      refine al_pure rfl rfl rfl (pure_cmp rfl rfl (fun _ => rfl) (fun _ => rfl) rfl) ?_
      refine al_nil ?_
      refine awp_cond rfl (fun hc => ?_) (fun hc => ?_)
      · refine awp_region ?_
        refine al_pure rfl rfl rfl (pure_fieldPtr rfl (fun _ => rfl) rfl rfl) ?_
        refine al_pure rfl rfl rfl (pure_loadBox rfl (fun _ => rfl) rfl rfl rfl rfl) ?_
        refine al_pure rfl rfl rfl (pure_fieldPtr rfl (fun _ => rfl) rfl rfl) ?_
        refine al_pure rfl rfl rfl (pure_loadBox rfl (fun _ => rfl) rfl rfl rfl rfl) ?_
        refine al_call rfl rfl rfl rfl rfl rfl (fun _ => rfl) (fun _ => rfl) (sign_spec _ _) rfl ?_
        refine al_pure rfl rfl rfl (pure_assign rfl (fun _ => rfl)) ?_
        refine al_nil ?_
        exact ⟨trivial, sub_mk ⟨⟨_, rfl, rfl⟩, ⟨_, rfl, rfl⟩, ⟨_, rfl, by rw [nz_pos hc]⟩, trivial⟩ ⟨⟨_, rfl, rfl⟩, ⟨_, rfl, rfl⟩, trivial⟩ trivial⟩
      · refine awp_skip ?_
        exact ⟨trivial, sub_mk ⟨⟨_, rfl, rfl⟩, ⟨_, rfl, rfl⟩, ⟨_, rfl, by rw [nz_neg hc]⟩, trivial⟩ ⟨⟨_, rfl, rfl⟩, ⟨_, rfl, rfl⟩, trivial⟩ trivial⟩
    · generalize hd1 : nz (number (a.size : Int) (b.size : Int)) (number a.kind b.kind) = d1
      refine awp_cut (cJ a b (nz d1 (cmpL a.name b.name))) (True) ?_ (fun hj => ?_)
      · refine awp_seq ?_
        refine awp_region ?_
        refine al_pure rfl rfl rfl (pure_move rfl (fun _ => rfl)) ?_
        refine al_pure rfl rfl rfl (pure_cmp rfl rfl (fun _ => rfl) (fun _ => rfl) rfl) ?_
        refine al_nil ?_
        refine awp_cond rfl (fun hc => ?_) (fun hc => ?_)
        · refine awp_region ?_
          refine al_pure rfl rfl rfl (pure_fieldPtr rfl (fun _ => rfl) rfl rfl) ?_
          refine al_pure rfl rfl rfl (pure_loadBox rfl (fun _ => rfl) rfl rfl rfl rfl) ?_
          refine al_pure rfl rfl rfl (pure_fieldPtr rfl (fun _ => rfl) rfl rfl) ?_
          refine al_pure rfl rfl rfl (pure_loadBox rfl (fun _ => rfl) rfl rfl rfl rfl) ?_
          refine al_call rfl rfl rfl rfl rfl rfl (fun _ => rfl) (fun _ => rfl) (sCompare_spec _ _) rfl ?_
          refine al_pure rfl rfl rfl (pure_assign rfl (fun _ => rfl)) ?_
          refine al_nil ?_
          exact ⟨trivial, sub_mk ⟨⟨_, rfl, rfl⟩, ⟨_, rfl, rfl⟩, ⟨_, rfl, by rw [nz_pos hc]⟩, trivial⟩ ⟨⟨_, rfl, rfl⟩, ⟨_, rfl, rfl⟩, trivial⟩ trivial⟩
        · refine awp_skip ?_
          exact ⟨trivial, sub_mk ⟨⟨_, rfl, rfl⟩, ⟨_, rfl, rfl⟩, ⟨_, rfl, by rw [nz_neg hc]⟩, trivial⟩ ⟨⟨_, rfl, rfl⟩, ⟨_, rfl, rfl⟩, trivial⟩ trivial⟩
      · generalize hd2 : nz d1 (cmpL a.name b.name) = d2
        refine awp_cut (cJ a b (nz d2 (number a.sort b.sort))) (True) ?_ (fun hj => ?_)
        · refine awp_seq ?_
          refine awp_region ?_
          refine al_pure rfl rfl rfl (pure_move rfl (fun _ => rfl)) ?_
          refine al_pure rfl rfl rfl (pure_cmp rfl rfl (fun _ => rfl) (fun _ => rfl) rfl) ?_
          refine al_nil ?_
          refine awp_cond rfl (fun hc => ?_) (fun hc => ?_)
          · refine awp_region ?_
            refine al_pure rfl rfl rfl (pure_fieldPtr rfl (fun _ => rfl) rfl rfl) ?_
            refine al_pure rfl rfl rfl (pure_loadBox rfl (fun _ => rfl) rfl rfl rfl rfl) ?_
            refine al_pure rfl rfl rfl (pure_fieldPtr rfl (fun _ => rfl) rfl rfl) ?_
            refine al_pure rfl rfl rfl (pure_loadBox rfl (fun _ => rfl) rfl rfl rfl rfl) ?_
            refine al_call rfl rfl rfl rfl rfl rfl (fun _ => rfl) (fun _ => rfl) (sign_spec _ _) rfl ?_
            refine al_pure rfl rfl rfl (pure_assign rfl (fun _ => rfl)) ?_
            refine al_nil ?_
            exact ⟨trivial, sub_mk ⟨⟨_, rfl, rfl⟩, ⟨_, rfl, rfl⟩, ⟨_, rfl, by rw [nz_pos hc]⟩, trivial⟩ ⟨⟨_, rfl, rfl⟩, ⟨_, rfl, rfl⟩, trivial⟩ trivial⟩
          · refine awp_skip ?_
            exact ⟨trivial, sub_mk ⟨⟨_, rfl, rfl⟩, ⟨_, rfl, rfl⟩, ⟨_, rfl, by rw [nz_neg hc]⟩, trivial⟩ ⟨⟨_, rfl, rfl⟩, ⟨_, rfl, rfl⟩, trivial⟩ trivial⟩
        · generalize hd3 : nz d2 (number a.sort b.sort) = d3
          refine awp_cut (cJ a b (nz d3 (number a.kids.length b.kids.length))) (True) ?_ (fun hj => ?_)
          · refine awp_seq ?_
            refine awp_region ?_
            refine al_pure rfl rfl rfl (pure_move rfl (fun _ => rfl)) ?_
            refine al_pure rfl rfl rfl (pure_cmp rfl rfl (fun _ => rfl) (fun _ => rfl) rfl) ?_
            refine al_nil ?_
            refine awp_cond rfl (fun hc => ?_) (fun hc => ?_)
            · refine awp_region ?_
              refine al_pure rfl rfl rfl (pure_fieldPtr rfl (fun _ => rfl) rfl rfl) ?_
              refine al_pure rfl rfl rfl (pure_loadBox rfl (fun _ => rfl) rfl rfl rfl rfl) ?_
              refine al_lenSl rfl rfl rfl rfl rfl (fun _ => rfl) rfl rfl ?_ (fun hh => by simp at hh); intro hlen
              refine al_pure rfl rfl rfl (pure_fieldPtr rfl (fun _ => rfl) rfl rfl) ?_
              refine al_pure rfl rfl rfl (pure_loadBox rfl (fun _ => rfl) rfl rfl rfl rfl) ?_
              refine al_lenSl rfl rfl rfl rfl rfl (fun _ => rfl) rfl rfl ?_ (fun hh => by simp at hh); intro hlen
              refine al_call rfl rfl rfl rfl rfl rfl (fun _ => rfl) (fun _ => rfl) (sign_spec _ _) rfl ?_
              refine al_pure rfl rfl rfl (pure_assign rfl (fun _ => rfl)) ?_
              refine al_nil ?_
              exact ⟨trivial, sub_mk ⟨⟨_, rfl, rfl⟩, ⟨_, rfl, rfl⟩, ⟨_, rfl, by rw [nz_pos hc, T.rows_len, T.rows_len]⟩, trivial⟩ ⟨⟨_, rfl, rfl⟩, ⟨_, rfl, rfl⟩, trivial⟩ trivial⟩
            · refine awp_skip ?_
              exact ⟨trivial, sub_mk ⟨⟨_, rfl, rfl⟩, ⟨_, rfl, rfl⟩, ⟨_, rfl, by rw [nz_neg hc]⟩, trivial⟩ ⟨⟨_, rfl, rfl⟩, ⟨_, rfl, rfl⟩, trivial⟩ trivial⟩
          · have h0 : T.cmp0 a b = nz d3 (number a.kids.length b.kids.length) := by rw [T.cmp0_nz, hd1, hd2, hd3]
            rw [← h0]
            have hC : a.cmp b = nz (T.cmp0 a b) (T.cmps a.kids b.kids) := by
              rw [T.cmp_eq, nz]
              by_cases hz : T.cmp0 a b = 0
              · rw [if_neg (by simpa using hz), if_pos hz]
              · rw [if_pos hz, if_neg hz]
            have hll : T.cmp0 a b = 0 → a.kids.length = b.kids.length := fun h => (T.cmp0_zero h).2.2.2
            refine awp_seq ?_
            refine awp_seq ?_
            refine awp_region ?_
            refine al_pure rfl rfl rfl (pure_assign rfl (fun _ => rfl)) ?_
            refine al_nil ?_
            refine awp_block ?_
            refine awp_loop (cLS a b) (fun p => p.k ≤ a.kids.length ∧ p.c = nz (T.cmp0 a b) (T.cmps (a.kids.take p.k) (b.kids.take p.k))) (fun p => a.kids.length - p.k) ⟨0, T.cmp0 a b⟩ ⟨Nat.zero_le _, by simp [T.cmps, nz]⟩ ?_ ?_
            · refine sub_mk ⟨⟨_, rfl, rfl⟩, ⟨_, rfl, rfl⟩, ⟨_, rfl, rfl⟩, ⟨_, rfl, rfl⟩, trivial⟩ ⟨⟨_, rfl, rfl⟩, ⟨_, rfl, rfl⟩, trivial⟩ trivial
            · rintro ⟨k, c⟩ ⟨hk, hz⟩
              dsimp only at hk hz
              dsimp only [cLS]
              refine awp_seq ?_
              refine awp_seq ?_
              refine awp_region ?_
              refine al_pure rfl rfl rfl (pure_move rfl (fun _ => rfl)) ?_
              refine al_pure rfl rfl rfl (pure_cmp rfl rfl (fun _ => rfl) (fun _ => rfl) rfl) ?_
              refine al_pure rfl rfl rfl (pure_move rfl (fun _ => rfl)) ?_
              refine al_pure rfl rfl rfl (pure_move rfl (fun _ => rfl)) ?_
              refine al_pure rfl rfl rfl (pure_fieldPtr rfl (fun _ => rfl) rfl rfl) ?_
              refine al_pure rfl rfl rfl (pure_loadBox rfl (fun hh => hh) rfl rfl rfl rfl) ?_
              refine al_pure rfl rfl rfl (pure_lenSl rfl (fun hh => hh) rfl rfl) ?_
              refine al_pure rfl rfl rfl (pure_cmp rfl rfl (fun hh => hh) (fun hh => hh) rfl) ?_
              refine al_pure rfl rfl rfl (pure_and rfl rfl (fun _ => rfl) (fun _ hi => gP rfl hi)) ?_
              refine al_nil ?_
              refine awp_sub (s := { t := [(2, _, _), (3, _, _), (5, _, _), (6, _, _), (42, _, _), (43, _, _), (44, _, _), (45, _, _), (46, _, _), (47, _, _), (48, _, _), (49, _, _), (50, _, _)], bx := [((.l 2), _), ((.l 3), _)], ow := [] }) (sub_mk (⟨⟨_, rfl, rfl⟩, ⟨⟨_, rfl, rfl⟩, ⟨⟨_, rfl, rfl⟩, ⟨⟨_, rfl, rfl⟩, ⟨⟨_, rfl, rfl⟩, ⟨⟨_, rfl, rfl⟩, ⟨⟨_, rfl, rfl⟩, ⟨⟨_, rfl, rfl⟩, ⟨⟨_, rfl, rfl⟩, ⟨⟨_, rfl, rfl⟩, ⟨⟨_, rfl, rfl⟩, ⟨⟨_, rfl, rfl⟩, ⟨⟨_, rfl, rfl⟩, trivial⟩⟩⟩⟩⟩⟩⟩⟩⟩⟩⟩⟩⟩) (⟨⟨_, rfl, rfl⟩, ⟨⟨_, rfl, rfl⟩, trivial⟩⟩) trivial) ?_
              refine awp_cond rfl (fun hc => ?_) (fun hc => ?_)
              · simp only [Bool.and_eq_true, beq_iff_eq, decide_eq_true_eq, T.rows_len] at hc
                obtain ⟨hc0, hc1⟩ := hc
                have hlt : k < a.kids.length := by omega
                have hz0 : T.cmp0 a b = 0 := by
                  by_cases h : T.cmp0 a b = 0
                  · exact h
                  · rw [nz, if_neg h] at hz; exact absurd (hz.symm.trans hc0) h
                have hz1 : T.cmps (a.kids.take k) (b.kids.take k) = 0 := by
                  rw [nz, if_pos hz0] at hz; exact hz.symm.trans hc0
                have hl := hll hz0
                obtain ⟨x, hx⟩ : ∃ x, a.kids[k]? = some x := ⟨_, List.getElem?_eq_getElem hlt⟩
                obtain ⟨y, hy⟩ : ∃ y, b.kids[k]? = some y := ⟨_, List.getElem?_eq_getElem (by omega)⟩
                have q1 := T.size_kid hx
                have q2 := T.size_kid hy
                refine awp_skip ?_
                refine awp_seq ?_
                refine awp_block ?_
                refine awp_drawn' (by kernel_rfl) ?_
                refine dr_pure rfl rfl rfl rfl (pure_fieldPtr rfl (fun _ => rfl) rfl rfl) ?_
                refine dr_load rfl rfl rfl rfl rfl rfl rfl (fun _ => rfl) rfl rfl rfl rfl ?_
                refine dr_pure rfl rfl rfl rfl (pure_move rfl (fun _ => rfl)) ?_
                refine dr_pure rfl rfl rfl rfl (pure_indexAddr rfl rfl (fun _ => rfl) (fun _ => rfl) rfl rfl rfl (fun _ => T.rows_get hx)) ?_
                refine dr_pure rfl rfl rfl rfl (pure_loadRoRow rfl (fun _ => rfl) rfl rfl rfl rfl) ?_
                refine dr_pure rfl rfl rfl rfl (pure_fieldPtr rfl (fun _ => rfl) rfl rfl) ?_
                refine dr_load rfl rfl rfl rfl rfl rfl rfl (fun _ => rfl) rfl rfl rfl rfl ?_
                refine dr_pure rfl rfl rfl rfl (pure_move rfl (fun _ => rfl)) ?_
                refine dr_pure rfl rfl rfl rfl (pure_indexAddr rfl rfl (fun _ => rfl) (fun _ => rfl) rfl rfl rfl (fun _ => T.rows_get hy)) ?_
                refine dr_pure rfl rfl rfl rfl (pure_loadRoRow rfl (fun _ => rfl) rfl rfl rfl rfl) ?_
                refine dr_callN rfl rfl rfl rfl rfl rfl rfl (fun _ => rfl) (fun _ => rfl) (ih x y (by omega) (by omega) (by omega)) rfl ?_
                refine dr_pure rfl rfl rfl rfl (pure_assign rfl (fun _ => rfl)) ?_
                refine dr_nil (by kernel_rfl) ?_
                refine awp_sub (s := { t := [(2, _, _), (3, _, _), (5, _, _), (6, _, _), (42, _, _), (43, _, _), (44, _, _), (45, _, _), (46, _, _), (47, _, _), (48, _, _), (49, _, _), (50, _, _), (53, _, _), (54, _, _), (55, _, _), (56, _, _), (57, _, _), (58, _, _), (59, _, _), (60, _, _), (61, _, _), (62, _, _), (63, _, _)], bx := [((.l 2), _), ((.l 3), _)], ow := [] }) (sub_mk (⟨⟨_, rfl, rfl⟩, ⟨⟨_, rfl, rfl⟩, ⟨⟨_, rfl, rfl⟩, ⟨⟨_, rfl, rfl⟩, ⟨⟨_, rfl, rfl⟩, ⟨⟨_, rfl, rfl⟩, ⟨⟨_, rfl, rfl⟩, ⟨⟨_, rfl, rfl⟩, ⟨⟨_, rfl, rfl⟩, ⟨⟨_, rfl, rfl⟩, ⟨⟨_, rfl, rfl⟩, ⟨⟨_, rfl, rfl⟩, ⟨⟨_, rfl, rfl⟩, ⟨⟨_, rfl, rfl⟩, ⟨⟨_, rfl, rfl⟩, ⟨⟨_, rfl, rfl⟩, ⟨⟨_, rfl, rfl⟩, ⟨⟨_, rfl, rfl⟩, ⟨⟨_, rfl, rfl⟩, ⟨⟨_, rfl, rfl⟩, ⟨⟨_, rfl, rfl⟩, ⟨⟨_, rfl, rfl⟩, ⟨⟨_, rfl, rfl⟩, ⟨⟨_, rfl, rfl⟩, trivial⟩⟩⟩⟩⟩⟩⟩⟩⟩⟩⟩⟩⟩⟩⟩⟩⟩⟩⟩⟩⟩⟩⟩⟩) (⟨⟨_, rfl, rfl⟩, ⟨⟨_, rfl, rfl⟩, trivial⟩⟩) trivial) ?_
                refine awp_region ?_
                refine al_pure rfl rfl rfl (pure_move rfl (fun _ => rfl)) ?_
                refine al_pure rfl rfl rfl (pure_arith rfl rfl (fun _ => rfl) (fun _ => rfl) rfl (IntWalk.i64_in _ (by omega))) ?_
                refine al_pure rfl rfl rfl (pure_assign rfl (fun _ => rfl)) ?_
                refine al_nil ?_
                refine ⟨⟨k + 1, x.cmp y⟩, ⟨by dsimp only; omega, ?_⟩, by dsimp only; omega, ?_⟩
                · dsimp only; rw [T.cmps_snoc hx hy hz1, nz, if_pos hz0]
                · refine sub_mk ⟨⟨_, rfl, rfl⟩, ⟨_, rfl, rfl⟩, ⟨_, rfl, rfl⟩, ⟨_, rfl, rfl⟩, trivial⟩ ⟨⟨_, rfl, rfl⟩, ⟨_, rfl, rfl⟩, trivial⟩ trivial
              · simp only [Bool.and_eq_false_iff, beq_eq_false_iff_ne, ne_eq, decide_eq_false_iff_not, T.rows_len] at hc
                refine awp_exit ?_
                repeat (first | refine thenS_exit ?_ | refine blockS_hit ?_ | refine blockS_miss rfl ?_)
                refine awp_seq ?_
                refine awp_region ?_
                refine al_pure rfl rfl rfl (pure_move rfl (fun _ => rfl)) ?_
                refine al_pure rfl rfl rfl (pure_assign rfl (fun _ => rfl)) ?_
                refine al_nil ?_
                refine awp_ret ?_
                repeat (first | refine thenS_ret ?_ | refine blockS_ret ?_)
                refine ret_ok rfl ?_ trivial
                refine xi_eq ?_
                rw [hC, hz]
                by_cases h : T.cmp0 a b = 0
                · have hl := hll h
                  rw [nz, if_pos h, nz, if_pos h]
                  rw [nz, if_pos h] at hz
                  by_cases h2 : c = 0
                  · have hke : k = a.kids.length := by
                      rcases hc with hc | hc
                      · exact absurd h2 hc
                      · omega
                    rw [hke, List.take_length, hl, List.take_length]
                  · rw [T.cmps_pre a.kids b.kids k (by rw [← hz]; exact h2)]
                · rw [nz, if_neg h, nz, if_neg h]
theorem same_spec (a b : T) (ha : a.size ≤ 1000000) (hb : b.size ≤ 1000000) : Ctr sys 45 [xt a, xt b] [] (xb (a.cmp b == 0)) none [] := by
  refine spec_intro Try.func45 rfl rfl rfl rfl rfl rfl ?_
  refine awp_seq ?_
  refine awp_region ?_
  refine al_do rfl (does_box rfl rfl rfl rfl) ?_
  refine al_do rfl (does_box rfl rfl rfl rfl) ?_
  refine al_pure rfl rfl rfl (pure_assign rfl (fun _ => rfl)) ?_
  refine al_nil ?_
  refine awp_seq ?_
  refine awp_region ?_
  refine al_pure rfl rfl rfl (pure_loadBoxRow rfl (fun _ => rfl) rfl rfl rfl rfl rfl) ?_
  refine al_pure rfl rfl rfl (pure_loadBoxRow rfl (fun _ => rfl) rfl rfl rfl rfl rfl) ?_
  refine al_call rfl rfl rfl rfl rfl rfl (fun _ => rfl) (fun _ => rfl) (tCompare_spec _ a b ha (Nat.le_refl _) hb) rfl ?_
  refine al_pure rfl rfl rfl (pure_cmp rfl rfl (fun _ => rfl) (fun _ => rfl) rfl) ?_
  refine al_pure rfl rfl rfl (pure_assign rfl (fun _ => rfl)) ?_
  refine al_nil ?_
  refine awp_ret ?_
  repeat (first | refine thenS_ret ?_ | refine blockS_ret ?_)
  refine ret_ok rfl ?_ trivial
  rfl
end Go.Proofs.Ytginljdgdllhfaa
