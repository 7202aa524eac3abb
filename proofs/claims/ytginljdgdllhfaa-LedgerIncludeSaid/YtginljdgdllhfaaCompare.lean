/- Contracts: the order of terms. -/
import Derived.Test.YtginljdgdllhfaaCopied
set_option linter.unusedVariables false
set_option linter.unusedSimpArgs false
namespace Go.Proofs.Ytginljdgdllhfaa
open Go Go.Abs
namespace T
/-- What stands before the kids. -/
def cmp0 (a b : T) : Int :=
  if number a.size b.size ≠ 0 then number a.size b.size else if number a.kind b.kind ≠ 0 then number a.kind b.kind
  else if Op.bytesLess a.name b.name = true then -1 else if (!(Op.bytesLess a.name b.name || a.name == b.name)) = true then 1
  else if number a.sort b.sort ≠ 0 then number a.sort b.sort else number a.kids.length b.kids.length
mutual
def cmp : T → T → Int
  | mk k n s ks, b => if cmp0 (mk k n s ks) b ≠ 0 then cmp0 (mk k n s ks) b else cmps ks b.kids
def cmps : List T → List T → Int
  | [], _ => 0
  | _ :: _, [] => 0
  | x :: xs, y :: ys => if cmp x y ≠ 0 then cmp x y else cmps xs ys
end
theorem cmp_eq (a b : T) : a.cmp b = if cmp0 a b ≠ 0 then cmp0 a b else cmps a.kids b.kids := by cases a; rw [cmp]; rfl
theorem cmps_hit : ∀ (a b : List T) (k : Nat) (x y : T), a[k]? = some x → b[k]? = some y → cmps (a.take k) (b.take k) = 0 → x.cmp y ≠ 0 → cmps a b = x.cmp y
  | [], b, k, x, y, h, _, _, _ => by simp at h
  | _ :: _, [], k, x, y, _, h, _, _ => by simp at h
  | a :: ar, b :: br, 0, x, y, h, h', _, hx => by simp at h h'; subst h; subst h'; rw [cmps, if_pos hx]
  | a :: ar, b :: br, k + 1, x, y, h, h', h0, hx => by
    rw [List.take_succ_cons, List.take_succ_cons, cmps] at h0
    rw [cmps]
    by_cases ht : a.cmp b = 0
    · rw [if_neg (by simpa using ht)] at h0
      rw [if_neg (by simpa using ht)]
      exact cmps_hit ar br k x y (by simpa using h) (by simpa using h') h0 hx
    · rw [if_pos ht] at h0; exact absurd h0 ht
theorem cmps_step : ∀ (a b : List T) (k : Nat) (x y : T), a[k]? = some x → b[k]? = some y → cmps (a.take k) (b.take k) = 0 → x.cmp y = 0 → cmps (a.take (k + 1)) (b.take (k + 1)) = 0
  | [], b, k, x, y, h, _, _, _ => by simp at h
  | _ :: _, [], k, x, y, _, h, _, _ => by simp at h
  | a :: ar, b :: br, 0, x, y, h, h', _, hx => by simp at h h'; subst h; subst h'; simp [cmps, hx]
  | a :: ar, b :: br, k + 1, x, y, h, h', h0, hx => by
    rw [List.take_succ_cons, List.take_succ_cons, cmps] at h0
    rw [List.take_succ_cons, List.take_succ_cons, cmps]
    by_cases ht : a.cmp b = 0
    · rw [if_neg (by simpa using ht)] at h0
      rw [if_neg (by simpa using ht)]
      exact cmps_step ar br k x y (by simpa using h) (by simpa using h') h0 hx
    · rw [if_pos ht] at h0; exact absurd h0 ht
end T
theorem number_zero {a b : Int} (h : number a b = 0) : a = b := by
  unfold number at h; split at h
  · omega
  · split at h <;> omega
def cmpLS (a b : T) (k : Nat) : St := { t := [(2, true, .v (.ptr (.l 2) 0)), (3, true, .v (.ptr (.l 3) 0)), (9, true, xi k)], bx := [(.l 2, a.cells), (.l 3, b.cells)], ow := [] }
theorem Compare_spec : ∀ (n : Nat) (a b : T), a.size ≤ n → n ≤ 1000000 → b.size ≤ 1000000 → Ctr sys 39 [xt a, xt b] [] (xi (a.cmp b)) none [] := by
  intro n
  induction n with
  | zero => intro t _ h; have := t.size_pos; omega
  | succ n ih =>
    intro a b ha hn hb
    have hls := T.len_sizes a.kids
    have hse := a.size_eq
    refine spec_intro Try.func39 rfl rfl rfl rfl rfl rfl ?_
    refine awp_seq ?_
    refine awp_region ?_
    refine al_do rfl (does_box rfl rfl rfl rfl) ?_
    refine al_do rfl (does_box rfl rfl rfl rfl) ?_
    refine al_pure rfl rfl rfl (pure_assign rfl (fun _ => rfl)) ?_
    refine al_nil ?_
    refine awp_seq ?_
    refine awp_seq ?_
    refine awp_drawn' (by kernel_rfl) ?_
    refine dr_loadRow rfl rfl rfl rfl rfl rfl rfl (fun _ => rfl) rfl rfl rfl rfl rfl ?_
    refine dr_callN rfl rfl rfl rfl rfl rfl rfl (fun _ => rfl) (fun _ => rfl) (size_spec _ a (Nat.le_refl _) (by omega)) rfl ?_
    refine dr_loadRow rfl rfl rfl rfl rfl rfl rfl (fun _ => rfl) rfl rfl rfl rfl rfl ?_
    refine dr_callN rfl rfl rfl rfl rfl rfl rfl (fun _ => rfl) (fun _ => rfl) (size_spec _ b (Nat.le_refl _) hb) rfl ?_
    refine dr_callN rfl rfl rfl rfl rfl rfl rfl (fun _ => rfl) (fun _ => rfl) (number_spec _ _) rfl ?_
    refine dr_pure rfl rfl rfl rfl (pure_assign rfl (fun _ => rfl)) ?_
    refine dr_nil (by kernel_rfl) ?_
    refine awp_sub (s := { t := [(2, _, _), (3, _, _), (4, _, _), (5, _, _)], bx := [((.l 2), _), ((.l 3), _)], ow := [] }) (sub_mk (⟨⟨_, rfl, rfl⟩, ⟨⟨_, rfl, rfl⟩, ⟨⟨_, rfl, rfl⟩, ⟨⟨_, rfl, rfl⟩, trivial⟩⟩⟩⟩) (⟨⟨_, rfl, rfl⟩, ⟨⟨_, rfl, rfl⟩, trivial⟩⟩) trivial) ?_
    refine awp_seq ?_
    refine awp_region ?_
    refine al_pure rfl rfl rfl (pure_move rfl (fun _ => rfl)) ?_
    refine al_pure rfl rfl rfl (pure_cmp rfl rfl (fun _ => rfl) (fun _ => rfl) rfl) ?_
    refine al_nil ?_
    refine awp_cond rfl (fun hc => ?_) (fun hc => ?_)
    · refine awp_seq ?_
      refine awp_region ?_
      refine al_pure rfl rfl rfl (pure_move rfl (fun _ => rfl)) ?_
      refine al_pure rfl rfl rfl (pure_assign rfl (fun _ => rfl)) ?_
      refine al_nil ?_
      refine awp_ret ?_
      repeat (first | refine thenS_ret ?_ | refine blockS_ret ?_)
      refine ret_ok rfl ?_ trivial
      refine xi_eq ?_
      rw [T.cmp_eq]
      have h0 : T.cmp0 a b = number a.size b.size := by rw [T.cmp0, if_pos (by simpa using hc)]
      rw [h0, if_pos (by simpa using hc)]
    · have e1 : ¬ number (a.size : Int) (b.size : Int) ≠ 0 := by simpa using hc
      refine awp_skip ?_
      refine awp_seq ?_
      refine awp_seq ?_
      refine awp_region ?_
      refine al_pure rfl rfl rfl (pure_fieldPtr rfl (fun _ => rfl) rfl rfl) ?_
      refine al_pure rfl rfl rfl (pure_loadBox rfl (fun _ => rfl) rfl rfl rfl rfl) ?_
      refine al_pure rfl rfl rfl (pure_fieldPtr rfl (fun _ => rfl) rfl rfl) ?_
      refine al_pure rfl rfl rfl (pure_loadBox rfl (fun _ => rfl) rfl rfl rfl rfl) ?_
      refine al_call rfl rfl rfl rfl rfl rfl (fun _ => rfl) (fun _ => rfl) (number_spec _ _) rfl ?_
      refine al_pure rfl rfl rfl (pure_assign rfl (fun _ => rfl)) ?_
      refine al_nil ?_
      refine awp_sub (s := { t := [(2, _, _), (3, _, _), (4, _, _), (6, _, _)], bx := [((.l 2), _), ((.l 3), _)], ow := [] }) (sub_mk (⟨⟨_, rfl, rfl⟩, ⟨⟨_, rfl, rfl⟩, ⟨⟨_, rfl, rfl⟩, ⟨⟨_, rfl, rfl⟩, trivial⟩⟩⟩⟩) (⟨⟨_, rfl, rfl⟩, ⟨⟨_, rfl, rfl⟩, trivial⟩⟩) trivial) ?_
      refine awp_seq ?_
      refine awp_region ?_
      refine al_pure rfl rfl rfl (pure_move rfl (fun _ => rfl)) ?_
      refine al_pure rfl rfl rfl (pure_cmp rfl rfl (fun _ => rfl) (fun _ => rfl) rfl) ?_
      refine al_nil ?_
      refine awp_cond rfl (fun hc2 => ?_) (fun hc2 => ?_)
      · refine awp_seq ?_
        refine awp_region ?_
        refine al_pure rfl rfl rfl (pure_move rfl (fun _ => rfl)) ?_
        refine al_pure rfl rfl rfl (pure_assign rfl (fun _ => rfl)) ?_
        refine al_nil ?_
        refine awp_ret ?_
        repeat (first | refine thenS_ret ?_ | refine blockS_ret ?_)
        refine ret_ok rfl ?_ trivial
        refine xi_eq ?_
        have h0 : T.cmp0 a b = number a.kind b.kind := by rw [T.cmp0, if_neg e1, if_pos (by simpa using hc2)]
        rw [T.cmp_eq, h0, if_pos (by simpa using hc2)]
      · have e2 : ¬ number a.kind b.kind ≠ 0 := by simpa using hc2
        refine awp_skip ?_
        refine awp_seq ?_
        refine awp_seq ?_
        refine awp_region ?_
        refine al_pure rfl rfl rfl (pure_fieldPtr rfl (fun _ => rfl) rfl rfl) ?_
        refine al_pure rfl rfl rfl (pure_loadBox rfl (fun _ => rfl) rfl rfl rfl rfl) ?_
        refine al_pure rfl rfl rfl (pure_fieldPtr rfl (fun _ => rfl) rfl rfl) ?_
        refine al_pure rfl rfl rfl (pure_loadBox rfl (fun _ => rfl) rfl rfl rfl rfl) ?_
        refine al_pure rfl rfl rfl (pure_cmpS rfl rfl (fun _ => rfl) (fun _ => rfl) rfl) ?_
        refine al_nil ?_
        refine awp_cond rfl (fun hc3 => ?_) (fun hc3 => ?_)
        · refine awp_seq ?_
          refine awp_region ?_
          refine al_pure rfl rfl rfl (pure_assign rfl (fun _ => rfl)) ?_
          refine al_nil ?_
          refine awp_ret ?_
          repeat (first | refine thenS_ret ?_ | refine blockS_ret ?_)
          refine ret_ok rfl ?_ trivial
          refine xi_eq ?_
          have h0 : T.cmp0 a b = -1 := by rw [T.cmp0, if_neg e1, if_neg e2, if_pos hc3]
          rw [T.cmp_eq, h0]; rfl
        · refine awp_skip ?_
          refine awp_seq ?_
          refine awp_seq ?_
          refine awp_region ?_
          refine al_pure rfl rfl rfl (pure_fieldPtr rfl (fun _ => rfl) rfl rfl) ?_
          refine al_pure rfl rfl rfl (pure_loadBox rfl (fun _ => rfl) rfl rfl rfl rfl) ?_
          refine al_pure rfl rfl rfl (pure_fieldPtr rfl (fun _ => rfl) rfl rfl) ?_
          refine al_pure rfl rfl rfl (pure_loadBox rfl (fun _ => rfl) rfl rfl rfl rfl) ?_
          refine al_pure rfl rfl rfl (pure_cmpS rfl rfl (fun _ => rfl) (fun _ => rfl) rfl) ?_
          refine al_nil ?_
          refine awp_sub (s := { t := [(2, _, _), (3, _, _), (4, _, _), (36, _, _)], bx := [((.l 2), _), ((.l 3), _)], ow := [] }) (sub_mk (⟨⟨_, rfl, rfl⟩, ⟨⟨_, rfl, rfl⟩, ⟨⟨_, rfl, rfl⟩, ⟨⟨_, rfl, rfl⟩, trivial⟩⟩⟩⟩) (⟨⟨_, rfl, rfl⟩, ⟨⟨_, rfl, rfl⟩, trivial⟩⟩) trivial) ?_
          refine awp_cond rfl (fun hc4 => ?_) (fun hc4 => ?_)
          · refine awp_seq ?_
            refine awp_region ?_
            refine al_pure rfl rfl rfl (pure_assign rfl (fun _ => rfl)) ?_
            refine al_nil ?_
            refine awp_ret ?_
            repeat (first | refine thenS_ret ?_ | refine blockS_ret ?_)
            refine ret_ok rfl ?_ trivial
            refine xi_eq ?_
            have h0 : T.cmp0 a b = 1 := by rw [T.cmp0, if_neg e1, if_neg e2, if_neg (by rw [hc3]; simp), if_pos hc4]
            rw [T.cmp_eq, h0]; rfl
          · refine awp_skip ?_
            refine awp_seq ?_
            refine awp_seq ?_
            refine awp_region ?_
            refine al_pure rfl rfl rfl (pure_fieldPtr rfl (fun _ => rfl) rfl rfl) ?_
            refine al_pure rfl rfl rfl (pure_loadBox rfl (fun _ => rfl) rfl rfl rfl rfl) ?_
            refine al_pure rfl rfl rfl (pure_fieldPtr rfl (fun _ => rfl) rfl rfl) ?_
            refine al_pure rfl rfl rfl (pure_loadBox rfl (fun _ => rfl) rfl rfl rfl rfl) ?_
            refine al_call rfl rfl rfl rfl rfl rfl (fun _ => rfl) (fun _ => rfl) (number_spec _ _) rfl ?_
            refine al_pure rfl rfl rfl (pure_assign rfl (fun _ => rfl)) ?_
            refine al_nil ?_
            refine awp_seq ?_
            refine awp_region ?_
            refine al_pure rfl rfl rfl (pure_move rfl (fun _ => rfl)) ?_
            refine al_pure rfl rfl rfl (pure_cmp rfl rfl (fun _ => rfl) (fun _ => rfl) rfl) ?_
            refine al_nil ?_
            refine awp_sub (s := { t := [(2, _, _), (3, _, _), (4, _, _), (7, _, _), (43, _, _)], bx := [((.l 2), _), ((.l 3), _)], ow := [] }) (sub_mk (⟨⟨_, rfl, rfl⟩, ⟨⟨_, rfl, rfl⟩, ⟨⟨_, rfl, rfl⟩, ⟨⟨_, rfl, rfl⟩, ⟨⟨_, rfl, rfl⟩, trivial⟩⟩⟩⟩⟩) (⟨⟨_, rfl, rfl⟩, ⟨⟨_, rfl, rfl⟩, trivial⟩⟩) trivial) ?_
            refine awp_cond rfl (fun hc5 => ?_) (fun hc5 => ?_)
            · refine awp_seq ?_
              refine awp_region ?_
              refine al_pure rfl rfl rfl (pure_move rfl (fun _ => rfl)) ?_
              refine al_pure rfl rfl rfl (pure_assign rfl (fun _ => rfl)) ?_
              refine al_nil ?_
              refine awp_ret ?_
              repeat (first | refine thenS_ret ?_ | refine blockS_ret ?_)
              refine ret_ok rfl ?_ trivial
              refine xi_eq ?_
              have h0 : T.cmp0 a b = number a.sort b.sort := by rw [T.cmp0, if_neg e1, if_neg e2, if_neg (by rw [hc3]; simp), if_neg (by rw [hc4]; simp), if_pos (by simpa using hc5)]
              rw [T.cmp_eq, h0, if_pos (by simpa using hc5)]
            · have e5 : ¬ number a.sort b.sort ≠ 0 := by simpa using hc5
              have h0 : T.cmp0 a b = number a.kids.length b.kids.length := by rw [T.cmp0, if_neg e1, if_neg e2, if_neg (by rw [hc3]; simp), if_neg (by rw [hc4]; simp), if_neg e5]
              refine awp_skip ?_
              refine awp_seq ?_
              refine awp_seq ?_
              refine awp_region ?_
              refine al_pure rfl rfl rfl (pure_fieldPtr rfl (fun _ => rfl) rfl rfl) ?_
              refine al_pure rfl rfl rfl (pure_loadBox rfl (fun _ => rfl) rfl rfl rfl rfl) ?_
              refine al_lenSl rfl rfl rfl rfl rfl (fun _ => rfl) rfl rfl ?_ (fun hh => by simp at hh); intro hlen
              refine al_pure rfl rfl rfl (pure_fieldPtr rfl (fun _ => rfl) rfl rfl) ?_
              refine al_pure rfl rfl rfl (pure_loadBox rfl (fun _ => rfl) rfl rfl rfl rfl) ?_
              refine al_lenSl rfl rfl rfl rfl rfl (fun _ => rfl) rfl rfl ?_ (fun hh => by simp at hh); intro hlen
              refine al_call rfl rfl rfl rfl rfl rfl (fun _ => rfl) (fun _ => rfl) (number_spec _ _) rfl ?_
              refine al_pure rfl rfl rfl (pure_assign rfl (fun _ => rfl)) ?_
              refine al_nil ?_
              refine awp_sub (s := { t := [(2, _, _), (3, _, _), (4, _, _), (8, _, _)], bx := [((.l 2), _), ((.l 3), _)], ow := [] }) (sub_mk (⟨⟨_, rfl, rfl⟩, ⟨⟨_, rfl, rfl⟩, ⟨⟨_, rfl, rfl⟩, ⟨⟨_, rfl, rfl⟩, trivial⟩⟩⟩⟩) (⟨⟨_, rfl, rfl⟩, ⟨⟨_, rfl, rfl⟩, trivial⟩⟩) trivial) ?_
              refine awp_seq ?_
              refine awp_region ?_
              refine al_pure rfl rfl rfl (pure_move rfl (fun _ => rfl)) ?_
              refine al_pure rfl rfl rfl (pure_cmp rfl rfl (fun _ => rfl) (fun _ => rfl) rfl) ?_
              refine al_nil ?_
              refine awp_cond rfl (fun hc6 => ?_) (fun hc6 => ?_)
              · refine awp_seq ?_
                refine awp_region ?_
                refine al_pure rfl rfl rfl (pure_move rfl (fun _ => rfl)) ?_
                refine al_pure rfl rfl rfl (pure_assign rfl (fun _ => rfl)) ?_
                refine al_nil ?_
                refine awp_ret ?_
                repeat (first | refine thenS_ret ?_ | refine blockS_ret ?_)
                refine ret_ok rfl ?_ trivial
                refine xi_eq ?_
                simp only [T.rows_len] at hc6 ⊢
                rw [T.cmp_eq, h0, if_pos (by simpa using hc6)]
              · simp only [T.rows_len] at hc6
                have e6 : number (a.kids.length : Int) (b.kids.length : Int) = 0 := by simpa using hc6
                have hll := number_zero e6
                have hll' : a.kids.length = b.kids.length := by omega
                have hC : a.cmp b = T.cmps a.kids b.kids := by rw [T.cmp_eq, h0, if_neg (by simpa using e6)]
                refine awp_skip ?_
                refine awp_seq ?_
                refine awp_seq ?_
                refine awp_region ?_
                refine al_pure rfl rfl rfl (pure_assign rfl (fun _ => rfl)) ?_
                refine al_nil ?_
                refine awp_block ?_
                refine awp_loop (cmpLS a b) (fun k => k ≤ a.kids.length ∧ T.cmps (a.kids.take k) (b.kids.take k) = 0) (fun k => a.kids.length - k) 0 ⟨Nat.zero_le _, by simp [T.cmps]⟩ ?_ ?_
                · refine sub_mk ⟨⟨_, rfl, rfl⟩, ⟨_, rfl, rfl⟩, ⟨_, rfl, rfl⟩, trivial⟩ ⟨⟨_, rfl, rfl⟩, ⟨_, rfl, rfl⟩, trivial⟩ trivial
                · rintro k ⟨hk, hz⟩
                  refine awp_seq ?_
                  refine awp_seq ?_
                  refine awp_region ?_
                  refine al_pure rfl rfl rfl (pure_move rfl (fun _ => rfl)) ?_
                  refine al_pure rfl rfl rfl (pure_fieldPtr rfl (fun _ => rfl) rfl rfl) ?_
                  refine al_pure rfl rfl rfl (pure_loadBox rfl (fun _ => rfl) rfl rfl rfl rfl) ?_
                  refine al_lenSl rfl rfl rfl rfl rfl (fun _ => rfl) rfl rfl ?_ (fun hh => by simp at hh); intro hlen
                  refine al_pure rfl rfl rfl (pure_cmp rfl rfl (fun _ => rfl) (fun _ => rfl) rfl) ?_
                  refine al_nil ?_
                  refine awp_cond rfl (fun hc7 => ?_) (fun hc7 => ?_)
                  · rw [T.rows_len] at hc7
                    have hlt : k < a.kids.length := by simpa using hc7
                    obtain ⟨x, hx⟩ : ∃ x, a.kids[k]? = some x := ⟨_, List.getElem?_eq_getElem hlt⟩
                    obtain ⟨y, hy⟩ : ∃ y, b.kids[k]? = some y := ⟨_, List.getElem?_eq_getElem (by omega)⟩
                    have q1 := T.size_kid hx
                    have q2 := T.size_kid hy
                    refine awp_skip ?_
                    refine awp_seq ?_
                    refine awp_block ?_
                    refine awp_seq ?_
                    refine awp_drawn' (by kernel_rfl) ?_
                    refine dr_pure rfl rfl rfl rfl (pure_fieldPtr rfl (fun _ => rfl) rfl rfl) ?_
                    refine dr_load rfl rfl rfl rfl rfl rfl rfl (fun _ => rfl) rfl rfl rfl rfl ?_
                    refine dr_pure rfl rfl rfl rfl (pure_move rfl (fun _ => rfl)) ?_
                    refine dr_pure rfl rfl rfl rfl (pure_indexAddr rfl rfl (fun _ => rfl) (fun _ => rfl) rfl rfl rfl (fun _ => T.rows_get hx)) ?_
                    refine dr_pure rfl rfl rfl rfl (pure_loadRoRow rfl (fun _ => rfl) rfl rfl rfl rfl) ?_
                    refine dr_pure rfl rfl rfl rfl (pure_fieldPtr rfl (fun _ => rfl) rfl rfl) ?_
                    refine dr_load rfl rfl rfl rfl rfl rfl rfl (fun _ => rfl) rfl rfl rfl rfl ?_
                    refine dr_pure rfl rfl rfl rfl (pure_move rfl (fun _ => rfl)) ?_
                    refine dr_pure rfl rfl rfl rfl (pure_indexAddr rfl rfl (fun _ => rfl) (fun _ => rfl) rfl rfl rfl (fun _ => T.rows_get hy)) ?_
                    refine dr_pure rfl rfl rfl rfl (pure_loadRoRow rfl (fun _ => rfl) rfl rfl rfl rfl) ?_
                    refine dr_callN rfl rfl rfl rfl rfl rfl rfl (fun _ => rfl) (fun _ => rfl) (ih x y (by omega) (by omega) (by omega)) rfl ?_
                    refine dr_pure rfl rfl rfl rfl (pure_assign rfl (fun _ => rfl)) ?_
                    refine dr_nil (by kernel_rfl) ?_
                    refine awp_sub (s := { t := [(2, _, _), (3, _, _), (9, _, _), (10, _, _), (55, _, _), (56, _, _), (57, _, _), (58, _, _), (59, _, _), (62, _, _), (63, _, _), (64, _, _), (65, _, _), (66, _, _), (67, _, _), (68, _, _), (69, _, _), (70, _, _), (71, _, _), (72, _, _)], bx := [((.l 2), _), ((.l 3), _)], ow := [] }) (sub_mk (⟨⟨_, rfl, rfl⟩, ⟨⟨_, rfl, rfl⟩, ⟨⟨_, rfl, rfl⟩, ⟨⟨_, rfl, rfl⟩, ⟨⟨_, rfl, rfl⟩, ⟨⟨_, rfl, rfl⟩, ⟨⟨_, rfl, rfl⟩, ⟨⟨_, rfl, rfl⟩, ⟨⟨_, rfl, rfl⟩, ⟨⟨_, rfl, rfl⟩, ⟨⟨_, rfl, rfl⟩, ⟨⟨_, rfl, rfl⟩, ⟨⟨_, rfl, rfl⟩, ⟨⟨_, rfl, rfl⟩, ⟨⟨_, rfl, rfl⟩, ⟨⟨_, rfl, rfl⟩, ⟨⟨_, rfl, rfl⟩, ⟨⟨_, rfl, rfl⟩, ⟨⟨_, rfl, rfl⟩, ⟨⟨_, rfl, rfl⟩, trivial⟩⟩⟩⟩⟩⟩⟩⟩⟩⟩⟩⟩⟩⟩⟩⟩⟩⟩⟩⟩) (⟨⟨_, rfl, rfl⟩, ⟨⟨_, rfl, rfl⟩, trivial⟩⟩) trivial) ?_
                    refine awp_seq ?_
                    refine awp_region ?_
                    refine al_pure rfl rfl rfl (pure_move rfl (fun _ => rfl)) ?_
                    refine al_pure rfl rfl rfl (pure_cmp rfl rfl (fun _ => rfl) (fun _ => rfl) rfl) ?_
                    refine al_nil ?_
                    refine awp_cond rfl (fun hc8 => ?_) (fun hc8 => ?_)
                    · refine awp_seq ?_
                      refine awp_region ?_
                      refine al_pure rfl rfl rfl (pure_move rfl (fun _ => rfl)) ?_
                      refine al_pure rfl rfl rfl (pure_assign rfl (fun _ => rfl)) ?_
                      refine al_nil ?_
                      refine awp_ret ?_
                      repeat (first | refine thenS_ret ?_ | refine blockS_ret ?_)
                      refine ret_ok rfl ?_ trivial
                      exact xi_eq (by rw [hC, T.cmps_hit _ _ _ _ _ hx hy hz (by simpa using hc8)])
                    · refine awp_skip ?_
                      refine awp_region ?_
                      refine al_pure rfl rfl rfl (pure_move rfl (fun _ => rfl)) ?_
                      refine al_pure rfl rfl rfl (pure_arith rfl rfl (fun _ => rfl) (fun _ => rfl) rfl (IntWalk.i64_in _ (by omega))) ?_
                      refine al_pure rfl rfl rfl (pure_assign rfl (fun _ => rfl)) ?_
                      refine al_nil ?_
                      refine ⟨k + 1, ⟨by omega, T.cmps_step _ _ _ _ _ hx hy hz (by simpa using hc8)⟩, by omega, ?_⟩
                      refine sub_mk ⟨⟨_, rfl, rfl⟩, ⟨_, rfl, rfl⟩, ⟨_, rfl, rfl⟩, trivial⟩ ⟨⟨_, rfl, rfl⟩, ⟨_, rfl, rfl⟩, trivial⟩ trivial
                  · refine awp_exit ?_
                    repeat (first | refine thenS_exit ?_ | refine blockS_hit ?_ | refine blockS_miss rfl ?_)
                    refine awp_seq ?_
                    refine awp_region ?_
                    refine al_pure rfl rfl rfl (pure_assign rfl (fun _ => rfl)) ?_
                    refine al_nil ?_
                    refine awp_ret ?_
                    repeat (first | refine thenS_ret ?_ | refine blockS_ret ?_)
                    refine ret_ok rfl ?_ trivial
                    rw [T.rows_len] at hc7
                    have hke : k = a.kids.length := by simp at hc7; omega
                    subst hke
                    rw [List.take_length, hll', List.take_length] at hz
                    exact xi_eq (by rw [hC, hz])
theorem Same_spec (a b : T) (ha : a.size ≤ 1000000) (hb : b.size ≤ 1000000) : Ctr sys 15 [xt a, xt b] [] (xb (a.cmp b == 0)) none [] := by
  refine spec_intro Try.func15 rfl rfl rfl rfl rfl rfl ?_
  refine awp_seq ?_
  refine awp_region ?_
  refine al_do rfl (does_box rfl rfl rfl rfl) ?_
  refine al_do rfl (does_box rfl rfl rfl rfl) ?_
  refine al_pure rfl rfl rfl (pure_assign rfl (fun _ => rfl)) ?_
  refine al_nil ?_
  refine awp_seq ?_
  refine awp_region ?_
  refine al_pure rfl rfl rfl (pure_loadBoxRow rfl (fun _ => rfl) rfl rfl rfl rfl rfl) ?_
  refine al_pure rfl rfl rfl (pure_loadBoxRow rfl (fun _ => rfl) rfl rfl rfl rfl rfl) ?_
  refine al_call rfl rfl rfl rfl rfl rfl (fun _ => rfl) (fun _ => rfl) (Compare_spec _ a b (Nat.le_refl _) ha hb) rfl ?_
  refine al_pure rfl rfl rfl (pure_cmp rfl rfl (fun _ => rfl) (fun _ => rfl) rfl) ?_
  refine al_pure rfl rfl rfl (pure_assign rfl (fun _ => rfl)) ?_
  refine al_nil ?_
  refine awp_ret ?_
  repeat (first | refine thenS_ret ?_ | refine blockS_ret ?_)
  refine ret_ok rfl ?_ trivial
  rfl
end Go.Proofs.Ytginljdgdllhfaa
