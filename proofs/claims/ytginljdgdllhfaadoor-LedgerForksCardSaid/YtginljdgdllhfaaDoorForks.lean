/- Contracts: signed heads, and forks of them. -/
import Derived.Test.YtginljdgdllhfaaDoorCmp
set_option linter.unusedVariables false
set_option linter.unusedSimpArgs false
namespace Go.Proofs.YtginljdgdllhfaaDoor
open Go Go.Abs
def dg : List UInt8 := [48, 49, 50, 51, 52, 53, 54, 55, 56, 57, 97, 98, 99, 100, 101, 102, 103, 104, 105, 106, 107, 108, 109, 110, 111, 112, 113, 114, 115, 116, 117, 118, 119, 120, 121, 122]
def smalls : List UInt8 := (List.range 100).flatMap fun n => [UInt8.ofNat (48 + n / 10), UInt8.ofNat (48 + n % 10)]
def smallL (n : Nat) : List UInt8 := if n < 10 then (dg.take (n + 1)).drop n else (smalls.take (2 * n + 2)).drop (2 * n)
set_option maxRecDepth 100000 in
theorem small_spec (n : Nat) (h : n < 100) : Ctr sys 57 [xi n] [] (xs (smallL n)) none [] := by
  refine spec_intro Tryd.func57 rfl rfl rfl rfl rfl rfl ?_
  refine awp_seq ?_
  refine awp_region ?_
  refine al_pure rfl rfl rfl (pure_assign rfl (fun _ => rfl)) ?_
  refine al_nil ?_
  refine awp_seq ?_
  refine awp_seq ?_
  refine awp_region ?_
  refine al_pure rfl rfl rfl (pure_move rfl (fun _ => rfl)) ?_
  refine al_pure rfl rfl rfl (pure_cmp rfl rfl (fun _ => rfl) (fun _ => rfl) rfl) ?_
  refine al_nil ?_
  refine awp_cond rfl (fun hc => ?_) (fun hc => ?_)
  · simp only [decide_eq_true_eq] at hc
    refine awp_seq ?_
    refine awp_region ?_
    refine al_pure rfl rfl rfl (pure_move rfl (fun _ => rfl)) ?_
    refine al_pure rfl rfl rfl (pure_move rfl (fun _ => rfl)) ?_
    refine al_pure rfl rfl rfl (pure_arith rfl rfl (fun _ => rfl) (fun _ => rfl) rfl (IntWalk.i64_in _ (by omega))) ?_
    rw [show (n : Int) + 1 = ((n + 1 : Nat) : Int) from by omega]
    refine al_pure rfl rfl rfl (pure_sliceS rfl (fun _ => rfl) Tryd.underlying9 (fun _ => ⟨_, _, _, rfl, (fun _ => rfl), rfl⟩) (fun _ => ⟨_, _, _, rfl, (fun _ => rfl), rfl⟩) (fun _ => by omega) (fun _ => by show _ ≤ 36; omega)) ?_
    refine al_pure rfl rfl rfl (pure_assign rfl (fun _ => rfl)) ?_
    refine al_nil ?_
    refine awp_ret ?_
    repeat (first | refine thenS_ret ?_ | refine blockS_ret ?_)
    refine ret_ok rfl ?_ trivial
    rw [smallL, if_pos (by omega)]; rfl
  · simp only [decide_eq_false_iff_not] at hc
    refine awp_skip ?_
    refine awp_seq ?_
    refine awp_region ?_
    refine al_pure rfl rfl rfl (pure_move rfl (fun _ => rfl)) ?_
    refine al_pure rfl rfl rfl (pure_arith rfl rfl (fun _ => rfl) (fun _ => rfl) rfl (IntWalk.i64_in _ (by omega))) ?_
    refine al_pure rfl rfl rfl (pure_move rfl (fun _ => rfl)) ?_
    refine al_pure rfl rfl rfl (pure_arith rfl rfl (fun _ => rfl) (fun _ => rfl) rfl (IntWalk.i64_in _ (by omega))) ?_
    refine al_pure rfl rfl rfl (pure_arith rfl rfl (fun _ => rfl) (fun _ => rfl) rfl (IntWalk.i64_in _ (by omega))) ?_
    rw [show (n : Int) * 2 + 2 = ((2 * n + 2 : Nat) : Int) from by omega, show (n : Int) * 2 = ((2 * n : Nat) : Int) from by omega]
    refine al_pure rfl rfl rfl (pure_sliceS rfl (fun _ => rfl) Tryd.underlying9 (fun _ => ⟨_, _, _, rfl, (fun _ => rfl), rfl⟩) (fun _ => ⟨_, _, _, rfl, (fun _ => rfl), rfl⟩) (fun _ => by omega) (fun _ => by show _ ≤ 200; omega)) ?_
    refine al_pure rfl rfl rfl (pure_assign rfl (fun _ => rfl)) ?_
    refine al_nil ?_
    refine awp_ret ?_
    repeat (first | refine thenS_ret ?_ | refine blockS_ret ?_)
    refine ret_ok rfl ?_ trivial
    rw [smallL, if_neg (by omega)]; rfl
theorem formatInt_spec (n : Nat) (h : n < 100) : Ctr sys 51 [xi n, xi 10] [] (xs (smallL n)) none [] := by
  refine spec_intro Tryd.func51 rfl rfl rfl rfl rfl rfl ?_
  refine awp_seq ?_
  refine awp_region ?_
  refine al_pure rfl rfl rfl (pure_assign rfl (fun _ => rfl)) ?_
  refine al_nil ?_
  refine awp_seq ?_
  refine awp_seq ?_
  refine awp_region ?_
  refine al_pure rfl rfl rfl (pure_move rfl (fun _ => rfl)) ?_
  refine al_pure rfl rfl rfl (pure_cmp rfl rfl (fun _ => rfl) (fun _ => rfl) rfl) ?_
  refine al_nil ?_
  refine awp_cond rfl (fun hc => ?_) (fun hc => ?_)
  · refine awp_seq ?_
    refine awp_seq ?_
    refine awp_region ?_
    refine al_pure rfl rfl rfl (pure_move rfl (fun _ => rfl)) ?_
    refine al_pure rfl rfl rfl (pure_cmp rfl rfl (fun _ => rfl) (fun _ => rfl) rfl) ?_
    refine al_pure rfl rfl rfl (pure_move rfl (fun _ => rfl)) ?_
    refine al_pure rfl rfl rfl (pure_move rfl (fun _ => rfl)) ?_
    refine al_pure rfl rfl rfl (pure_cmp rfl rfl (fun hh => hh) (fun _ => rfl) rfl) ?_
    refine al_pure rfl rfl rfl (pure_and rfl rfl (fun _ => rfl) (fun _ hi => gP rfl hi)) ?_
    refine al_nil ?_
    refine awp_sub (s := { t := [(0, _, _), (1, _, _), (4, _, _), (17, _, _)], bx := [], ow := [] }) (sub_mk (⟨⟨_, rfl, rfl⟩, ⟨⟨_, rfl, rfl⟩, ⟨⟨_, rfl, rfl⟩, ⟨⟨_, rfl, rfl⟩, trivial⟩⟩⟩⟩) trivial trivial) ?_
    refine awp_cond rfl (fun hc2 => ?_) (fun hc2 => ?_)
    · refine awp_seq ?_
      refine awp_region ?_
      refine al_pure rfl rfl rfl (pure_move rfl (fun _ => rfl)) ?_
      refine al_call rfl rfl rfl rfl rfl rfl (fun _ => rfl) (fun _ => rfl) (small_spec n h) rfl ?_
      refine al_pure rfl rfl rfl (pure_assign rfl (fun _ => rfl)) ?_
      refine al_nil ?_
      refine awp_ret ?_
      repeat (first | refine thenS_ret ?_ | refine blockS_ret ?_)
      refine ret_ok rfl ?_ trivial
      rfl
    · simp at hc2; omega
  · simp at hc
theorem itoa1_spec (n : Nat) (h : n < 100) : Ctr sys 41 [xi n] [] (xs (smallL n)) none [] := by
  refine spec_intro Tryd.func41 rfl rfl rfl rfl rfl rfl ?_
  refine awp_seq ?_
  refine awp_region ?_
  refine al_pure rfl rfl rfl (pure_assign rfl (fun _ => rfl)) ?_
  refine al_nil ?_
  refine awp_seq ?_
  refine awp_region ?_
  refine al_pure rfl rfl rfl (pure_move rfl (fun _ => rfl)) ?_
  refine al_call rfl rfl rfl rfl rfl rfl (fun _ => rfl) (fun _ => rfl) (formatInt_spec n h) rfl ?_
  refine al_pure rfl rfl rfl (pure_assign rfl (fun _ => rfl)) ?_
  refine al_nil ?_
  refine awp_ret ?_
  repeat (first | refine thenS_ret ?_ | refine blockS_ret ?_)
  refine ret_ok rfl ?_ trivial
  rfl
theorem itoa_spec (n : Nat) (h : n < 100) : Ctr sys 22 [xi n] [] (xs (smallL n)) none [] := by
  refine spec_intro Tryd.func22 rfl rfl rfl rfl rfl rfl ?_
  refine awp_seq ?_
  refine awp_region ?_
  refine al_pure rfl rfl rfl (pure_assign rfl (fun _ => rfl)) ?_
  refine al_nil ?_
  refine awp_seq ?_
  refine awp_region ?_
  refine al_pure rfl rfl rfl (pure_move rfl (fun _ => rfl)) ?_
  refine al_call rfl rfl rfl rfl rfl rfl (fun _ => rfl) (fun _ => rfl) (itoa1_spec n h) rfl ?_
  refine al_pure rfl rfl rfl (pure_assign rfl (fun _ => rfl)) ?_
  refine al_nil ?_
  refine awp_ret ?_
  repeat (first | refine thenS_ret ?_ | refine blockS_ret ?_)
  refine ret_ok rfl ?_ trivial
  rfl
theorem smallL_len (n : Nat) : (smallL n).length ≤ 2 := by
  unfold smallL
  split <;> rw [List.length_drop, List.length_take] <;> omega
def sSign : List UInt8 := [115, 105, 103, 110]
def sLedger : List UInt8 := [108, 101, 100, 103, 101, 114]
def szT (n : Nat) : T := T.atom (110 :: smallL n) 4
def signT (sz h key : T) : T := T.app sSign [T.app sPair [T.atom sLedger 5, T.app sPair [sz, h]], key]
theorem signT_size (sz h key : T) : (signT sz h key).size = sz.size + h.size + key.size + 4 := by
  simp only [signT, T.app, T.atom, T.size, T.sizes]; omega
theorem szT_size (n : Nat) : (szT n).size = 1 := by simp [szT, T.atom, T.size, T.sizes]
def signE (h : T) (n : Nat) (key : T) : T × Int :=
  if validE h ≠ 0 then (noT, validE h) else if validE key ≠ 0 then (noT, validE key) else if 32 < n then (noT, 7) else
    if validE (signT (szT n) h key) ≠ 0 then (noT, 3) else (signT (szT n) h key, 0)
theorem Sign_spec (h : T) (n : Nat) (key : T) (h1 : h.size ≤ 400000) (h2 : key.size ≤ 400000) : Ctr sys 7 [xt h, xi n, xt key] [] (.tup [.agg (signE h n key).1.cells, .c (.i .i64 (signE h n key).2)]) none [] := by
  have hsz := signT_size (szT n) h key
  have hs1 := szT_size n
  refine spec_intro Tryd.func7 rfl rfl rfl rfl rfl rfl ?_
  refine awp_seq ?_
  refine awp_region ?_
  refine al_do rfl (does_box rfl rfl rfl rfl) ?_
  refine al_do rfl (does_box rfl rfl rfl rfl) ?_
  refine al_do rfl (does_alloc rfl rfl rfl) ?_
  refine al_pure rfl rfl rfl (pure_assign rfl (fun _ => rfl)) ?_
  refine al_nil ?_
  refine awp_seq ?_
  refine awp_seq ?_
  refine awp_region ?_
  refine al_pure rfl rfl rfl (pure_loadBoxRow rfl (fun _ => rfl) rfl rfl rfl rfl rfl) ?_
  refine al_call rfl rfl rfl rfl rfl rfl (fun _ => rfl) (fun _ => rfl) (tvalid_spec h (by omega)) rfl ?_
  refine al_pure rfl rfl rfl (pure_assign rfl (fun _ => rfl)) ?_
  refine al_nil ?_
  refine awp_seq ?_
  refine awp_region ?_
  refine al_pure rfl rfl rfl (pure_move rfl (fun _ => rfl)) ?_
  refine al_pure rfl rfl rfl (pure_cmp rfl rfl (fun _ => rfl) (fun _ => rfl) rfl) ?_
  refine al_nil ?_
  refine awp_sub (s := { t := [(1, _, _), (3, _, _), (5, _, _), (6, _, _), (7, _, _), (8, _, _), (15, _, _)], bx := [((.l 3), _), ((.l 5), _), ((.l 6), _)], ow := [] }) (sub_mk (⟨⟨_, rfl, rfl⟩, ⟨⟨_, rfl, rfl⟩, ⟨⟨_, rfl, rfl⟩, ⟨⟨_, rfl, rfl⟩, ⟨⟨_, rfl, rfl⟩, ⟨⟨_, rfl, rfl⟩, ⟨⟨_, rfl, rfl⟩, trivial⟩⟩⟩⟩⟩⟩⟩) (⟨⟨_, rfl, rfl⟩, ⟨⟨_, rfl, rfl⟩, ⟨⟨_, rfl, rfl⟩, trivial⟩⟩⟩) trivial) ?_
  refine awp_cond rfl (fun hc => ?_) (fun hc => ?_)
  · refine awp_seq ?_
    refine awp_region ?_
    refine al_pure rfl rfl rfl (pure_build rfl Tryd.underlying24 rfl (fun _ => rfl)) ?_
    refine al_pure rfl rfl rfl (pure_move rfl (fun _ => rfl)) ?_
    refine al_do rfl (does_store rfl rfl rfl rfl rfl rfl rfl) ?_
    refine al_pure rfl rfl rfl (pure_assign rfl (fun _ => rfl)) ?_
    refine al_nil ?_
    refine awp_ret ?_
    repeat (first | refine thenS_ret ?_ | refine blockS_ret ?_)
    refine ret_ok rfl ?_ trivial
    rw [signE, if_pos (by simpa using hc)]; rfl
  · refine awp_skip ?_
    refine awp_seq ?_
    refine awp_seq ?_
    refine awp_region ?_
    refine al_pure rfl rfl rfl (pure_loadBoxRow rfl (fun _ => rfl) rfl rfl rfl rfl rfl) ?_
    refine al_call rfl rfl rfl rfl rfl rfl (fun _ => rfl) (fun _ => rfl) (tvalid_spec key (by omega)) rfl ?_
    refine al_pure rfl rfl rfl (pure_assign rfl (fun _ => rfl)) ?_
    refine al_nil ?_
    refine awp_seq ?_
    refine awp_region ?_
    refine al_pure rfl rfl rfl (pure_move rfl (fun _ => rfl)) ?_
    refine al_pure rfl rfl rfl (pure_cmp rfl rfl (fun _ => rfl) (fun _ => rfl) rfl) ?_
    refine al_nil ?_
    refine awp_cond rfl (fun hc2 => ?_) (fun hc2 => ?_)
    · refine awp_seq ?_
      refine awp_region ?_
      refine al_pure rfl rfl rfl (pure_build rfl Tryd.underlying24 rfl (fun _ => rfl)) ?_
      refine al_pure rfl rfl rfl (pure_move rfl (fun _ => rfl)) ?_
      refine al_do rfl (does_store rfl rfl rfl rfl rfl rfl rfl) ?_
      refine al_pure rfl rfl rfl (pure_assign rfl (fun _ => rfl)) ?_
      refine al_nil ?_
      refine awp_ret ?_
      repeat (first | refine thenS_ret ?_ | refine blockS_ret ?_)
      refine ret_ok rfl ?_ trivial
      rw [signE, if_neg (by simpa using hc), if_pos (by simpa using hc2)]; rfl
    · refine awp_skip ?_
      refine awp_seq ?_
      refine awp_seq ?_
      refine awp_region ?_
      refine al_pure rfl rfl rfl (pure_move rfl (fun _ => rfl)) ?_
      refine al_pure rfl rfl rfl (pure_cmp rfl rfl (fun _ => rfl) (fun _ => rfl) rfl) ?_
      refine al_pure rfl rfl rfl (pure_move rfl (fun _ => rfl)) ?_
      refine al_pure rfl rfl rfl (pure_move rfl (fun _ => rfl)) ?_
      refine al_pure rfl rfl rfl (pure_cmp rfl rfl (fun hh => hh) (fun _ => rfl) rfl) ?_
      refine al_pure rfl rfl rfl (pure_or rfl rfl (fun _ => rfl) (fun _ hi => gP rfl hi)) ?_
      refine al_nil ?_
      refine awp_sub (s := { t := [(1, _, _), (3, _, _), (5, _, _), (6, _, _), (7, _, _), (29, _, _)], bx := [((.l 3), _), ((.l 5), _), ((.l 6), _)], ow := [] }) (sub_mk (⟨⟨_, rfl, rfl⟩, ⟨⟨_, rfl, rfl⟩, ⟨⟨_, rfl, rfl⟩, ⟨⟨_, rfl, rfl⟩, ⟨⟨_, rfl, rfl⟩, ⟨⟨_, rfl, rfl⟩, trivial⟩⟩⟩⟩⟩⟩) (⟨⟨_, rfl, rfl⟩, ⟨⟨_, rfl, rfl⟩, ⟨⟨_, rfl, rfl⟩, trivial⟩⟩⟩) trivial) ?_
      refine awp_cond rfl (fun hc3 => ?_) (fun hc3 => ?_)
      · refine awp_seq ?_
        refine awp_region ?_
        refine al_pure rfl rfl rfl (pure_build rfl Tryd.underlying24 rfl (fun _ => rfl)) ?_
        refine al_do rfl (does_store rfl rfl rfl rfl rfl rfl rfl) ?_
        refine al_pure rfl rfl rfl (pure_assign rfl (fun _ => rfl)) ?_
        refine al_nil ?_
        refine awp_ret ?_
        repeat (first | refine thenS_ret ?_ | refine blockS_ret ?_)
        refine ret_ok rfl ?_ trivial
        simp only [Bool.or_eq_true, decide_eq_true_eq] at hc3
        rw [signE, if_neg (by simpa using hc), if_neg (by simpa using hc2), if_pos (by omega)]; rfl
      · simp only [Bool.or_eq_false_iff, decide_eq_false_iff_not] at hc3
        refine awp_skip ?_
        refine awp_seq ?_
        refine awp_region ?_
        refine al_pure rfl rfl rfl (pure_move rfl (fun _ => rfl)) ?_
        refine al_call rfl rfl rfl rfl rfl rfl (fun _ => rfl) (fun _ => rfl) (itoa_spec n (by omega)) rfl ?_
        have hsl := smallL_len n
        refine al_pure rfl rfl rfl (pure_concat rfl rfl (fun _ => rfl) (fun _ => rfl) (by simp; omega)) ?_
        refine al_pure rfl rfl rfl (pure_build rfl Tryd.underlying24 rfl (fun _ => rfl)) ?_
        refine al_do rfl (does_alloc rfl rfl rfl) ?_
        refine al_do rfl (does_store rfl rfl rfl rfl rfl rfl rfl) ?_
        refine al_nil ?_
        refine awp_seq ?_
        refine awp_drawn' (by kernel_rfl) ?_
        refine dr_callN rfl rfl rfl rfl rfl rfl rfl (fun _ => rfl) (fun _ => rfl) (tag_spec sLedger) rfl ?_
        refine dr_loadRow rfl rfl rfl rfl rfl rfl rfl (fun _ => rfl) rfl rfl rfl rfl rfl ?_
        refine dr_loadRow rfl rfl rfl rfl rfl rfl rfl (fun _ => rfl) rfl rfl rfl rfl rfl ?_
        refine dr_callN rfl rfl rfl rfl rfl rfl rfl (fun _ => rfl) (fun _ => rfl) (copied_spec _ h (Nat.le_refl _) (by omega)) rfl ?_
        refine dr_build (xs := [_, _]) rfl rfl rfl rfl rfl rfl rfl rfl rfl rfl (fun _ => rfl) rfl ?_
        refine dr_callN rfl rfl rfl rfl rfl rfl rfl (fun _ => rfl) (fun _ => rfl) (app_spec sPair [szT n, h] _ (by simp [T.rows_eq, T.take4]; rfl)) rfl ?_
        refine dr_build (xs := [_, _]) rfl rfl rfl rfl rfl rfl rfl rfl rfl rfl (fun _ => rfl) rfl ?_
        refine dr_callN rfl rfl rfl rfl rfl rfl rfl (fun _ => rfl) (fun _ => rfl) (app_spec sPair [T.atom sLedger 5, T.app sPair [szT n, h]] _ (by simp [T.rows_eq, T.take4])) rfl ?_
        refine dr_loadRow rfl rfl rfl rfl rfl rfl rfl (fun _ => rfl) rfl rfl rfl rfl rfl ?_
        refine dr_callN rfl rfl rfl rfl rfl rfl rfl (fun _ => rfl) (fun _ => rfl) (copied_spec _ key (Nat.le_refl _) (by omega)) rfl ?_
        refine dr_build (xs := [_, _]) rfl rfl rfl rfl rfl rfl rfl rfl rfl rfl (fun _ => rfl) rfl ?_
        refine dr_callN rfl rfl rfl rfl rfl rfl rfl (fun _ => rfl) (fun _ => rfl) (app_spec sSign [T.app sPair [T.atom sLedger 5, T.app sPair [szT n, h]], key] _ (by simp [T.rows_eq, T.take4])) rfl ?_
        refine dr_alloc rfl rfl rfl rfl rfl rfl rfl ?_
        refine dr_store rfl rfl rfl rfl rfl rfl rfl rfl rfl rfl rfl rfl ?_
        refine dr_nil (by kernel_rfl) ?_
        refine awp_sub (s := { t := [(6, _, _), (7, _, _), (11, _, _)], bx := [((.l 6), _), ((.l 11), _)], ow := [] }) (sub_mk (⟨⟨_, rfl, rfl⟩, ⟨⟨_, rfl, rfl⟩, ⟨⟨_, rfl, rfl⟩, trivial⟩⟩⟩) (⟨⟨_, rfl, rfl⟩, ⟨⟨_, rfl, rfl⟩, trivial⟩⟩) trivial) ?_
        refine awp_seq ?_
        refine awp_seq ?_
        refine awp_region ?_
        refine al_pure rfl rfl rfl (pure_loadBoxRow rfl (fun _ => rfl) rfl rfl rfl rfl rfl) ?_
        refine al_call rfl rfl rfl rfl rfl rfl (fun _ => rfl) (fun _ => rfl) (tvalid_spec (signT (szT n) h key) (by omega)) rfl ?_
        refine al_pure rfl rfl rfl (pure_cmp rfl rfl (fun _ => rfl) (fun _ => rfl) rfl) ?_
        refine al_nil ?_
        refine awp_cond rfl (fun hc4 => ?_) (fun hc4 => ?_)
        · refine awp_seq ?_
          refine awp_region ?_
          refine al_pure rfl rfl rfl (pure_build rfl Tryd.underlying24 rfl (fun _ => rfl)) ?_
          refine al_do rfl (does_store rfl rfl rfl rfl rfl rfl rfl) ?_
          refine al_pure rfl rfl rfl (pure_assign rfl (fun _ => rfl)) ?_
          refine al_nil ?_
          refine awp_ret ?_
          repeat (first | refine thenS_ret ?_ | refine blockS_ret ?_)
          refine ret_ok rfl ?_ trivial
          rw [signE, if_neg (by simpa using hc), if_neg (by simpa using hc2), if_neg (by omega), if_pos (by simpa using hc4)]; rfl
        · refine awp_skip ?_
          refine awp_seq ?_
          refine awp_region ?_
          refine al_pure rfl rfl rfl (pure_loadBoxRow rfl (fun _ => rfl) rfl rfl rfl rfl rfl) ?_
          refine al_do rfl (does_store rfl rfl rfl rfl rfl rfl rfl) ?_
          refine al_pure rfl rfl rfl (pure_assign rfl (fun _ => rfl)) ?_
          refine al_nil ?_
          refine awp_ret ?_
          repeat (first | refine thenS_ret ?_ | refine blockS_ret ?_)
          refine ret_ok rfl ?_ trivial
          rw [signE, if_neg (by simpa using hc), if_neg (by simpa using hc2), if_neg (by omega), if_neg (by simpa using hc4)]; rfl
end Go.Proofs.YtginljdgdllhfaaDoor
