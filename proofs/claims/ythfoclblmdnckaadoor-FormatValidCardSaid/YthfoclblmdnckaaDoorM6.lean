/- Our abstract program logic and contracts of this seat's functions, part 6: no statement of its own. -/
import Derived.Test.YthfoclblmdnckaaDoorM5
import Derived.Test.YthfoclblmdnckaaDoorRows
import Derived.Test.YthfoclblmdnckaaDoorChecked
import Derived.Handed
import Derived.LaidSub
import Derived.MakeChecks
import Derived.Lib.LaidTab
import Derived.Stop.LaidErr
/- Contracts: the examples hold; the laws on formats. -/
set_option linter.unusedVariables false
set_option linter.unusedSimpArgs false
namespace Go.Proofs.YthfoclblmdnckaaDoor
open Go Go.Abs
theorem slEqB_spec (a : List UInt8) : Ctr sys 18 [xbs a, xbs a] [] (xb true) none [] := by
  have hra := bytesR_len a
  refine spec_intro Tryd.func18 rfl rfl rfl rfl rfl rfl ?_
  refine awp_seq (awp_region ?_)
  refine al_pure rfl rfl rfl (pure_assign rfl gU) ?_
  refine al_nil ?_
  refine awp_seq ?_
  refine awp_seq (awp_region ?_)
  refine al_pure rfl rfl rfl (pure_move rfl gU) ?_
  refine al_lenSl rfl rfl rfl rfl rfl gU rfl rfl ?_ (fun hh => by simp at hh); intro hlen
  refine al_pure rfl rfl rfl (pure_move rfl gU) ?_
  refine al_lenSl rfl rfl rfl rfl rfl gU rfl rfl ?_ (fun hh => by simp at hh); intro hlen
  refine al_pure rfl rfl rfl (pure_cmp rfl rfl gU gU rfl) ?_
  refine al_nil ?_
  refine awp_sub (s := { t := [(0, _, _), (1, _, _), (10, _, _)], bx := [], ow := [] }) (sub_mk (⟨sx rfl, ⟨sx rfl, ⟨sx rfl, trivial⟩⟩⟩) trivial trivial) ?_
  refine awp_cond rfl (fun hc => ?_) (fun hc => ?_)
  · try simp only [nn, Fd.rows_len, Fm.rows_len, bytesR_len, strR_len, ffR_len, ddR_len] at hc
    exact (hc trivial).elim
  · refine awp_skip ?_
    refine awp_seq ?_
    refine awp_seq (awp_region ?_)
    refine al_pure rfl rfl rfl (pure_move rfl gU) ?_
    refine al_lenSl rfl rfl rfl rfl rfl gU rfl rfl ?_ (fun hh => by simp at hh); intro hlen
    refine al_pure rfl rfl rfl (pure_move rfl gU) ?_
    refine al_nil ?_
    refine awp_block ?_
    refine awp_for (ι := Nat) { t := [(0, _, _), (1, _, _), (12, _, _)], bx := [], ow := [] } (fun k => [(13, true, xi (k : Int))]) (fun k => []) (fun k => k ≤ a.length) (fun k => a.length - k) (0) (by simp) (sub_mk (⟨sx rfl, ⟨sx rfl, ⟨sx rfl, ⟨sx rfl, trivial⟩⟩⟩⟩) trivial trivial) ?_
    intro k hok
    dsimp only [List.cons_append, List.nil_append]
    refine awp_seq (awp_region ?_)
    refine al_pure rfl rfl rfl (pure_cmp rfl rfl gU gU rfl) ?_
    refine al_nil ?_
    refine awp_seq ?_
    refine awp_cond rfl (fun hca => ?_) (fun hca => ?_)
    · try simp only [nn, Fd.rows_len, Fm.rows_len, bytesR_len, strR_len, ffR_len, ddR_len] at hca
      refine awp_skip ?_
      refine awp_seq ?_
      refine awp_block ?_
      refine awp_seq (awp_region ?_)
      refine al_pure rfl rfl rfl (pure_move rfl gU) ?_
      refine al_pure rfl rfl rfl (pure_assign rfl gU) ?_
      refine al_nil ?_
      refine awp_seq ?_
      refine awp_drawn' (by kernel_rfl) ?_
      refine dr_pure rfl rfl rfl rfl (pure_move rfl gU) ?_
      refine dr_pure rfl rfl rfl rfl (pure_move rfl gU) ?_
      refine dr_pure rfl rfl rfl rfl (pure_indexAddr rfl rfl gU gU rfl rfl rfl (fun hh => bytesR_at (by first | omega | (simp at hh; omega)))) ?_
      refine dr_pure rfl rfl rfl rfl (pure_loadRo rfl gU rfl rfl rfl) ?_
      refine dr_pure rfl rfl rfl rfl (pure_move rfl gU) ?_
      refine dr_pure rfl rfl rfl rfl (pure_move rfl gU) ?_
      refine dr_pure rfl rfl rfl rfl (pure_indexAddr rfl rfl gU gU rfl rfl rfl (fun hh => bytesR_at (by first | omega | (simp at hh; omega)))) ?_
      refine dr_pure rfl rfl rfl rfl (pure_loadRo rfl gU rfl rfl rfl) ?_
      refine dr_pure rfl rfl rfl rfl (pure_cmp rfl rfl gU gU rfl) ?_
      refine dr_nil (by kernel_rfl) ?_
      refine awp_sub (s := { t := [(0, _, _), (1, _, _), (12, _, _), (13, _, _), (24, _, _)], bx := [], ow := [] }) (sub_mk (⟨sx rfl, ⟨sx rfl, ⟨sx rfl, ⟨sx rfl, ⟨sx rfl, trivial⟩⟩⟩⟩⟩) trivial trivial) ?_
      refine awp_cond rfl (fun hcb => ?_) (fun hcb => ?_)
      · try simp only [nn, Fd.rows_len, Fm.rows_len, bytesR_len, strR_len, ffR_len, ddR_len] at hcb
        exact (hcb trivial).elim
      · refine awp_skip ?_
        refine awp_region ?_
        refine al_pure rfl rfl rfl (pure_arith rfl rfl gU gU rfl (IntWalk.i64_in _ (by omega))) ?_
        refine al_pure rfl rfl rfl (pure_move rfl gU) ?_
        refine al_nil ?_
        refine ⟨k + 1, ?_, ?_, sub_mk (⟨⟨_, rfl, ?_⟩, ⟨sx rfl, ⟨sx rfl, ⟨sx rfl, trivial⟩⟩⟩⟩) trivial trivial⟩
        · omega
        · omega
        · rfl
    · refine awp_exit ?_
      repeat (first | refine thenS_exit ?_ | refine blockS_hit ?_ | refine blockS_miss rfl ?_)
      refine awp_seq (awp_region ?_)
      refine al_pure rfl rfl rfl (pure_assign rfl gU) ?_
      refine al_nil ?_
      refine awp_ret ?_
      repeat (first | refine tR ?_ | refine bR ?_)
      refine ret_ok rfl ?_ trivial
      rfl
def txtA : List UInt8 := [97, 58, 32, 116, 97, 103, 32, 48, 49, 44, 32, 98, 121, 116, 101, 115, 32, 51, 10, 98, 58, 32, 110, 117, 109, 98, 101, 114, 32, 53, 32, 55, 44, 32, 110, 101, 115, 116, 101, 100, 32, 97, 10]
def tabA : List Fm := [⟨[97], [⟨1, [1], 0, 0, 0⟩, ⟨3, [], 3, 0, 0⟩]⟩, ⟨[98], [⟨4, [], 0, 5, 7⟩, ⟨5, [], 0, 0, 0⟩]⟩]
theorem exA0 : validE tabA = 0 := by kernel_rfl
theorem dec1 {n : Nat} (h : n < 10) : Lib.decDigits n = [UInt8.ofNat (48 + n)] := by rw [Lib.decDigits, dif_pos h]
theorem exA1 : txtP tabA tabA.length = txtA := by
  have h : txtP tabA tabA.length = [] ++ ([97] ++ [58, 32] ++ Lib.join [[116, 97, 103, 32] ++ hexE [1], [98, 121, 116, 101, 115, 32] ++ Lib.decDigits 3] [44, 32] ++ [10]) ++
      ([98] ++ [58, 32] ++ Lib.join [[110, 117, 109, 98, 101, 114, 32] ++ Lib.decDigits 5 ++ [32] ++ Lib.decDigits 7, [110, 101, 115, 116, 101, 100, 32] ++ [97]] [44, 32] ++ [10]) := rfl
  rw [h, dec1 (by decide), dec1 (by decide), dec1 (by decide)]
  decide +kernel
theorem exA2 : boundsE tabA 0 = (2, 5, 0) := by kernel_rfl
theorem exA3 : boundsE tabA 1 = (4, 7, 0) := by kernel_rfl
theorem exA4 : firstE tabA 1 = ([5, 6, 7], 0) := by kernel_rfl
theorem exA5 : taggedB tabA = false := tagged_false fun h => by
  have := (h.2 1 (by decide)).1
  revert this; decide
theorem awake_spec : Ctr sys 9 [] [] (xb true) none [] := by
  have h1 := Parse_spec tabA exA0
  rw [exA1] at h1
  have h2 := fBounds_spec tabA 0
  rw [exA2] at h2
  have h3 := fBounds_spec tabA 1
  rw [exA3] at h3
  have h4 := fFirst_spec tabA 1
  rw [exA4] at h4
  have h5 := fTagged_spec tabA
  rw [exA5] at h5
  have h6 := slEqB_spec [5, 6, 7]
  refine spec_intro Tryd.func9 rfl rfl rfl rfl rfl rfl ?_
  refine awp_seq (awp_region ?_)
  refine al_pure rfl rfl rfl (pure_assign rfl gU) ?_
  refine al_nil ?_
  refine awp_seq (awp_region ?_)
  refine al_call rfl rfl rfl rfl rfl rfl gU gU (h1) rfl ?_
  refine al_pure rfl rfl rfl (pure_move rfl gU) ?_
  refine al_pure rfl rfl rfl (pure_extract rfl gU rfl) ?_
  refine al_pure rfl rfl rfl (pure_extract rfl gU rfl) ?_
  refine al_pure rfl rfl rfl (pure_assign rfl gU) ?_
  refine al_pure rfl rfl rfl (pure_assign rfl gU) ?_
  refine al_nil ?_
  refine awp_sub (s := { t := [(1, _, _), (2, _, _)], bx := [], ow := [] }) (sub_mk (⟨sx rfl, ⟨sx rfl, trivial⟩⟩) trivial trivial) ?_
  refine awp_seq ?_
  refine awp_seq (awp_region ?_)
  refine al_pure rfl rfl rfl (pure_move rfl gU) ?_
  refine al_pure rfl rfl rfl (pure_cmp rfl rfl gU gU rfl) ?_
  refine al_pure rfl rfl rfl (pure_move rfl gU) ?_
  refine al_pure rfl rfl rfl (pure_move rfl gU) ?_
  refine al_pure rfl rfl rfl (pure_lenSl rfl (fun hh => hh) rfl rfl) ?_
  refine al_pure rfl rfl rfl (pure_cmp rfl rfl (fun hh => hh) gU rfl) ?_
  refine al_pure rfl rfl rfl (pure_or rfl rfl gU (fun _ hi => gP rfl hi)) ?_
  refine al_nil ?_
  refine awp_sub (s := { t := [(1, _, _), (21, _, _)], bx := [], ow := [] }) (sub_mk (⟨sx rfl, ⟨sx rfl, trivial⟩⟩) trivial trivial) ?_
  refine awp_cond rfl (fun hc => ?_) (fun hc => ?_)
  · exfalso; revert hc; simp [Fm.rows, tabA]
  · refine awp_skip ?_
    refine awp_seq (awp_region ?_)
    refine al_pure rfl rfl rfl (pure_move rfl gU) ?_
    refine al_call rfl rfl rfl rfl rfl rfl gU gU (h2) rfl ?_
    refine al_pure rfl rfl rfl (pure_move rfl gU) ?_
    refine al_pure rfl rfl rfl (pure_extract rfl gU rfl) ?_
    refine al_pure rfl rfl rfl (pure_extract rfl gU rfl) ?_
    refine al_pure rfl rfl rfl (pure_extract rfl gU rfl) ?_
    refine al_pure rfl rfl rfl (pure_assign rfl gU) ?_
    refine al_pure rfl rfl rfl (pure_assign rfl gU) ?_
    refine al_pure rfl rfl rfl (pure_assign rfl gU) ?_
    refine al_nil ?_
    refine awp_sub (s := { t := [(1, _, _), (3, _, _), (4, _, _), (5, _, _)], bx := [], ow := [] }) (sub_mk (⟨sx rfl, ⟨sx rfl, ⟨sx rfl, ⟨sx rfl, trivial⟩⟩⟩⟩) trivial trivial) ?_
    refine awp_seq (awp_region ?_)
    refine al_pure rfl rfl rfl (pure_move rfl gU) ?_
    refine al_call rfl rfl rfl rfl rfl rfl gU gU (h3) rfl ?_
    refine al_pure rfl rfl rfl (pure_move rfl gU) ?_
    refine al_pure rfl rfl rfl (pure_extract rfl gU rfl) ?_
    refine al_pure rfl rfl rfl (pure_extract rfl gU rfl) ?_
    refine al_pure rfl rfl rfl (pure_extract rfl gU rfl) ?_
    refine al_pure rfl rfl rfl (pure_assign rfl gU) ?_
    refine al_pure rfl rfl rfl (pure_assign rfl gU) ?_
    refine al_pure rfl rfl rfl (pure_assign rfl gU) ?_
    refine al_nil ?_
    refine awp_sub (s := { t := [(1, _, _), (3, _, _), (4, _, _), (5, _, _), (6, _, _), (7, _, _), (8, _, _)], bx := [], ow := [] }) (sub_mk (⟨sx rfl, ⟨sx rfl, ⟨sx rfl, ⟨sx rfl, ⟨sx rfl, ⟨sx rfl, ⟨sx rfl, trivial⟩⟩⟩⟩⟩⟩⟩) trivial trivial) ?_
    refine awp_seq (awp_region ?_)
    refine al_pure rfl rfl rfl (pure_move rfl gU) ?_
    refine al_call rfl rfl rfl rfl rfl rfl gU gU (h4) rfl ?_
    refine al_pure rfl rfl rfl (pure_move rfl gU) ?_
    refine al_pure rfl rfl rfl (pure_extract rfl gU rfl) ?_
    refine al_pure rfl rfl rfl (pure_extract rfl gU rfl) ?_
    refine al_pure rfl rfl rfl (pure_assign rfl gU) ?_
    refine al_pure rfl rfl rfl (pure_assign rfl gU) ?_
    refine al_nil ?_
    refine awp_sub (s := { t := [(1, _, _), (3, _, _), (4, _, _), (5, _, _), (6, _, _), (7, _, _), (8, _, _), (9, _, _), (10, _, _)], bx := [], ow := [] }) (sub_mk (⟨sx rfl, ⟨sx rfl, ⟨sx rfl, ⟨sx rfl, ⟨sx rfl, ⟨sx rfl, ⟨sx rfl, ⟨sx rfl, ⟨sx rfl, trivial⟩⟩⟩⟩⟩⟩⟩⟩⟩) trivial trivial) ?_
    refine awp_seq (awp_region ?_)
    refine al_pure rfl rfl rfl (pure_move rfl gU) ?_
    refine al_pure rfl rfl rfl (pure_cmp rfl rfl gU gU rfl) ?_
    refine al_pure rfl rfl rfl (pure_move rfl gU) ?_
    refine al_pure rfl rfl rfl (pure_move rfl gU) ?_
    refine al_pure rfl rfl rfl (pure_cmp rfl rfl (fun hh => hh) gU rfl) ?_
    refine al_pure rfl rfl rfl (pure_and rfl rfl gU (fun _ hi => gP rfl hi)) ?_
    refine al_pure rfl rfl rfl (pure_move rfl gU) ?_
    refine al_pure rfl rfl rfl (pure_move rfl gU) ?_
    refine al_pure rfl rfl rfl (pure_cmp rfl rfl (fun hh => hh) gU rfl) ?_
    refine al_pure rfl rfl rfl (pure_and rfl rfl gU (fun _ hi => gP rfl hi)) ?_
    refine al_pure rfl rfl rfl (pure_move rfl gU) ?_
    refine al_pure rfl rfl rfl (pure_move rfl gU) ?_
    refine al_sub (s := { t := [(1, _, _), (6, _, _), (7, _, _), (9, _, _), (10, _, _), (49, _, _), (50, _, _)], bx := [], ow := [] }) (sub_mk (⟨sx rfl, ⟨sx rfl, ⟨sx rfl, ⟨sx rfl, ⟨sx rfl, ⟨sx rfl, ⟨sx rfl, trivial⟩⟩⟩⟩⟩⟩⟩) trivial trivial) ?_
    refine al_pure rfl rfl rfl (pure_cmp rfl rfl (fun hh => hh) gU rfl) ?_
    refine al_pure rfl rfl rfl (pure_and rfl rfl gU (fun _ hi => gP rfl hi)) ?_
    refine al_pure rfl rfl rfl (pure_move rfl gU) ?_
    refine al_pure rfl rfl rfl (pure_move rfl gU) ?_
    refine al_pure rfl rfl rfl (pure_cmp rfl rfl (fun hh => hh) gU rfl) ?_
    refine al_pure rfl rfl rfl (pure_and rfl rfl gU (fun _ hi => gP rfl hi)) ?_
    refine al_pure rfl rfl rfl (pure_move rfl gU) ?_
    refine al_pure rfl rfl rfl (pure_move rfl gU) ?_
    refine al_pure rfl rfl rfl (pure_cmp rfl rfl (fun hh => hh) gU rfl) ?_
    refine al_pure rfl rfl rfl (pure_and rfl rfl gU (fun _ hi => gP rfl hi)) ?_
    refine al_pure rfl rfl rfl (pure_move rfl gU) ?_
    refine al_pure rfl rfl rfl (pure_move rfl gU) ?_
    refine al_sub (s := { t := [(1, _, _), (9, _, _), (61, _, _), (62, _, _)], bx := [], ow := [] }) (sub_mk (⟨sx rfl, ⟨sx rfl, ⟨sx rfl, ⟨sx rfl, trivial⟩⟩⟩⟩) trivial trivial) ?_
    refine al_pure rfl rfl rfl (pure_cmp rfl rfl (fun hh => hh) gU rfl) ?_
    refine al_pure rfl rfl rfl (pure_and rfl rfl gU (fun _ hi => gP rfl hi)) ?_
    refine al_pure rfl rfl rfl (pure_move rfl gU) ?_
    refine al_pure rfl rfl rfl (pure_move rfl gU) ?_
    refine al_buildSliceG (xs := [_, _, _]) rfl rfl rfl rfl rfl rfl rfl rfl rfl (by first | exact fun hh => hh | exact fun _ => rfl | exact fun hh => gL hh | exact fun hh => gL (gL hh) | (intro hh; simp_all)) rfl ?_
    refine al_call rfl rfl rfl rfl rfl rfl gU (fun hh => gA ((fun hh => hh) hh) (gA ((fun hh => hh) hh) (rfl))) (h6) rfl ?_
    refine al_pure rfl rfl rfl (pure_and rfl rfl gU (fun _ hi => gP rfl hi)) ?_
    refine al_pure rfl rfl rfl (pure_move rfl gU) ?_
    refine al_pure rfl rfl rfl (pure_move rfl gU) ?_
    refine al_call rfl rfl rfl rfl rfl rfl gU (fun hh => gA ((fun hh => hh) hh) (rfl)) (h5) rfl ?_
    refine al_pure rfl rfl rfl (pure_not rfl (fun hh => hh)) ?_
    refine al_pure rfl rfl rfl (pure_and rfl rfl gU (fun _ hi => gP rfl hi)) ?_
    refine al_sub (s := { t := [(74, _, _)], bx := [], ow := [] }) (sub_mk (⟨sx rfl, trivial⟩) trivial trivial) ?_
    refine al_pure rfl rfl rfl (pure_assign rfl gU) ?_
    refine al_nil ?_
    refine awp_ret ?_
    repeat (first | refine tR ?_ | refine bR ?_)
    refine ret_ok rfl ?_ trivial
    rfl
theorem FormatFirst_spec (t : List Fm) (i : Int) : Ctr sys 4 [xtab t, xi i] [] (xb true) none [] := by
  refine spec_intro Tryd.func4 rfl rfl rfl rfl rfl rfl ?_
  refine awp_seq (awp_region ?_)
  refine al_pure rfl rfl rfl (pure_assign rfl gU) ?_
  refine al_nil ?_
  refine awp_seq ?_
  refine awp_seq (awp_region ?_)
  refine al_call rfl rfl rfl rfl rfl rfl gU gU (awake_spec) rfl ?_
  refine al_pure rfl rfl rfl (pure_not rfl gU) ?_
  refine al_pure rfl rfl rfl (pure_move rfl gU) ?_
  refine al_pure rfl rfl rfl (pure_move rfl gU) ?_
  refine al_call rfl rfl rfl rfl rfl rfl gU (fun hh => gA ((fun hh => hh) hh) (rfl)) (few_spec _) rfl ?_
  refine al_pure rfl rfl rfl (pure_not rfl (fun hh => hh)) ?_
  refine al_pure rfl rfl rfl (pure_or rfl rfl gU (fun _ hi => gP rfl hi)) ?_
  refine al_nil ?_
  refine awp_sub (s := { t := [(0, _, _), (1, _, _), (15, _, _)], bx := [], ow := [] }) (sub_mk (⟨sx rfl, ⟨sx rfl, ⟨sx rfl, trivial⟩⟩⟩) trivial trivial) ?_
  refine awp_cond rfl (fun hc => ?_) (fun hc => ?_)
  · refine awp_seq (awp_region ?_)
    refine al_call rfl rfl rfl rfl rfl rfl gU gU (awake_spec) rfl ?_
    refine al_pure rfl rfl rfl (pure_assign rfl gU) ?_
    refine al_nil ?_
    refine awp_ret ?_
    repeat (first | refine tR ?_ | refine bR ?_)
    refine ret_ok rfl ?_ trivial
    rfl
  · refine awp_skip ?_
    refine awp_seq (awp_region ?_)
    refine al_pure rfl rfl rfl (pure_move rfl gU) ?_
    refine al_pure rfl rfl rfl (pure_move rfl gU) ?_
    refine al_call rfl rfl rfl rfl rfl rfl gU gU (fFirst_spec _ _) rfl ?_
    refine al_pure rfl rfl rfl (pure_move rfl gU) ?_
    refine al_pure rfl rfl rfl (pure_extract rfl gU rfl) ?_
    refine al_pure rfl rfl rfl (pure_extract rfl gU rfl) ?_
    refine al_pure rfl rfl rfl (pure_assign rfl gU) ?_
    refine al_pure rfl rfl rfl (pure_assign rfl gU) ?_
    refine al_nil ?_
    refine awp_sub (s := { t := [(0, _, _), (1, _, _), (5, _, _), (6, _, _)], bx := [], ow := [] }) (sub_mk (⟨sx rfl, ⟨sx rfl, ⟨sx rfl, ⟨sx rfl, trivial⟩⟩⟩⟩) trivial trivial) ?_
    refine awp_seq (awp_region ?_)
    refine al_pure rfl rfl rfl (pure_move rfl gU) ?_
    refine al_pure rfl rfl rfl (pure_move rfl gU) ?_
    refine al_call rfl rfl rfl rfl rfl rfl gU gU (rFirst_spec _ _) rfl ?_
    refine al_pure rfl rfl rfl (pure_move rfl gU) ?_
    refine al_pure rfl rfl rfl (pure_extract rfl gU rfl) ?_
    refine al_pure rfl rfl rfl (pure_extract rfl gU rfl) ?_
    refine al_pure rfl rfl rfl (pure_assign rfl gU) ?_
    refine al_pure rfl rfl rfl (pure_assign rfl gU) ?_
    refine al_nil ?_
    refine awp_sub (s := { t := [(5, _, _), (6, _, _), (7, _, _), (8, _, _)], bx := [], ow := [] }) (sub_mk (⟨sx rfl, ⟨sx rfl, ⟨sx rfl, ⟨sx rfl, trivial⟩⟩⟩⟩) trivial trivial) ?_
    refine awp_seq (awp_region ?_)
    refine al_pure rfl rfl rfl (pure_move rfl gU) ?_
    refine al_pure rfl rfl rfl (pure_move rfl gU) ?_
    refine al_pure rfl rfl rfl (pure_cmp rfl rfl gU gU rfl) ?_
    refine al_pure rfl rfl rfl (pure_move rfl gU) ?_
    refine al_pure rfl rfl rfl (pure_move rfl gU) ?_
    refine al_pure rfl rfl rfl (pure_move rfl gU) ?_
    refine al_call rfl rfl rfl rfl rfl rfl gU (fun hh => gA ((fun hh => hh) hh) (gA ((fun hh => hh) hh) (rfl))) (slEqB_spec _) rfl ?_
    refine al_pure rfl rfl rfl (pure_and rfl rfl gU (fun _ hi => gP rfl hi)) ?_
    refine al_pure rfl rfl rfl (pure_assign rfl gU) ?_
    refine al_nil ?_
    refine awp_ret ?_
    repeat (first | refine tR ?_ | refine bR ?_)
    refine ret_ok rfl ?_ trivial
    exact xb_eq (by simp)
theorem fFixed_spec (t : List Fm) (i : Int) : Ctr sys 23 [xtab t, xi i] [] (xb ((boundsE t i).2.2 == 0 && (boundsE t i).1 == (boundsE t i).2.1)) none [] := by
  refine spec_intro Tryd.func23 rfl rfl rfl rfl rfl rfl ?_
  refine awp_seq (awp_region ?_)
  refine al_pure rfl rfl rfl (pure_assign rfl gU) ?_
  refine al_nil ?_
  refine awp_seq (awp_region ?_)
  refine al_pure rfl rfl rfl (pure_move rfl gU) ?_
  refine al_pure rfl rfl rfl (pure_move rfl gU) ?_
  refine al_call rfl rfl rfl rfl rfl rfl gU gU (fBounds_spec _ _) rfl ?_
  refine al_pure rfl rfl rfl (pure_move rfl gU) ?_
  refine al_pure rfl rfl rfl (pure_extract rfl gU rfl) ?_
  refine al_pure rfl rfl rfl (pure_extract rfl gU rfl) ?_
  refine al_pure rfl rfl rfl (pure_extract rfl gU rfl) ?_
  refine al_pure rfl rfl rfl (pure_assign rfl gU) ?_
  refine al_pure rfl rfl rfl (pure_assign rfl gU) ?_
  refine al_pure rfl rfl rfl (pure_assign rfl gU) ?_
  refine al_nil ?_
  refine awp_sub (s := { t := [(5, _, _), (6, _, _), (7, _, _)], bx := [], ow := [] }) (sub_mk (⟨sx rfl, ⟨sx rfl, ⟨sx rfl, trivial⟩⟩⟩) trivial trivial) ?_
  refine awp_seq (awp_region ?_)
  refine al_pure rfl rfl rfl (pure_move rfl gU) ?_
  refine al_pure rfl rfl rfl (pure_cmp rfl rfl gU gU rfl) ?_
  refine al_pure rfl rfl rfl (pure_move rfl gU) ?_
  refine al_pure rfl rfl rfl (pure_move rfl gU) ?_
  refine al_pure rfl rfl rfl (pure_move rfl gU) ?_
  refine al_pure rfl rfl rfl (pure_cmp rfl rfl (fun hh => hh) (fun hh => hh) rfl) ?_
  refine al_pure rfl rfl rfl (pure_and rfl rfl gU (fun _ hi => gP rfl hi)) ?_
  refine al_pure rfl rfl rfl (pure_assign rfl gU) ?_
  refine al_nil ?_
  refine awp_ret ?_
  repeat (first | refine tR ?_ | refine bR ?_)
  refine ret_ok rfl ?_ trivial
  rfl
theorem bounds_le (t : List Fm) (i : Int) : (boundsE t i).1 ≤ (boundsE t i).2.1 := by
  unfold boundsE
  split
  · simp
  · rename_i h
    obtain ⟨hv, h0, h1⟩ := errE_zero (t := t) (i := i) (by omega)
    have := (hv.fds (i := i.toNat) (by omega)).bnd (t.getD i.toNat default).fields.length
    rw [List.take_length] at this
    exact this.2.1
theorem FormatBounds_spec (t : List Fm) (i : Int) : Ctr sys 6 [xtab t, xi i] [] (xb true) none [] := by
  have hb := bounds_le t i
  refine spec_intro Tryd.func6 rfl rfl rfl rfl rfl rfl ?_
  refine awp_seq (awp_region ?_)
  refine al_pure rfl rfl rfl (pure_assign rfl gU) ?_
  refine al_nil ?_
  refine awp_seq ?_
  refine awp_seq (awp_region ?_)
  refine al_call rfl rfl rfl rfl rfl rfl gU gU (awake_spec) rfl ?_
  refine al_pure rfl rfl rfl (pure_not rfl gU) ?_
  refine al_pure rfl rfl rfl (pure_move rfl gU) ?_
  refine al_pure rfl rfl rfl (pure_move rfl gU) ?_
  refine al_call rfl rfl rfl rfl rfl rfl gU (fun hh => gA ((fun hh => hh) hh) (rfl)) (few_spec _) rfl ?_
  refine al_pure rfl rfl rfl (pure_not rfl (fun hh => hh)) ?_
  refine al_pure rfl rfl rfl (pure_or rfl rfl gU (fun _ hi => gP rfl hi)) ?_
  refine al_nil ?_
  refine awp_sub (s := { t := [(0, _, _), (1, _, _), (17, _, _)], bx := [], ow := [] }) (sub_mk (⟨sx rfl, ⟨sx rfl, ⟨sx rfl, trivial⟩⟩⟩) trivial trivial) ?_
  refine awp_cond rfl (fun hc => ?_) (fun hc => ?_)
  · refine awp_seq (awp_region ?_)
    refine al_call rfl rfl rfl rfl rfl rfl gU gU (awake_spec) rfl ?_
    refine al_pure rfl rfl rfl (pure_assign rfl gU) ?_
    refine al_nil ?_
    refine awp_ret ?_
    repeat (first | refine tR ?_ | refine bR ?_)
    refine ret_ok rfl ?_ trivial
    rfl
  · refine awp_skip ?_
    refine awp_seq (awp_region ?_)
    refine al_pure rfl rfl rfl (pure_move rfl gU) ?_
    refine al_pure rfl rfl rfl (pure_move rfl gU) ?_
    refine al_call rfl rfl rfl rfl rfl rfl gU gU (fBounds_spec _ _) rfl ?_
    refine al_pure rfl rfl rfl (pure_move rfl gU) ?_
    refine al_pure rfl rfl rfl (pure_extract rfl gU rfl) ?_
    refine al_pure rfl rfl rfl (pure_extract rfl gU rfl) ?_
    refine al_pure rfl rfl rfl (pure_extract rfl gU rfl) ?_
    refine al_pure rfl rfl rfl (pure_assign rfl gU) ?_
    refine al_pure rfl rfl rfl (pure_assign rfl gU) ?_
    refine al_pure rfl rfl rfl (pure_assign rfl gU) ?_
    refine al_nil ?_
    refine awp_sub (s := { t := [(0, _, _), (1, _, _), (5, _, _), (6, _, _), (7, _, _)], bx := [], ow := [] }) (sub_mk (⟨sx rfl, ⟨sx rfl, ⟨sx rfl, ⟨sx rfl, ⟨sx rfl, trivial⟩⟩⟩⟩⟩) trivial trivial) ?_
    refine awp_seq (awp_region ?_)
    refine al_pure rfl rfl rfl (pure_move rfl gU) ?_
    refine al_pure rfl rfl rfl (pure_move rfl gU) ?_
    refine al_call rfl rfl rfl rfl rfl rfl gU gU (rBounds_spec _ _) rfl ?_
    refine al_pure rfl rfl rfl (pure_move rfl gU) ?_
    refine al_pure rfl rfl rfl (pure_extract rfl gU rfl) ?_
    refine al_pure rfl rfl rfl (pure_extract rfl gU rfl) ?_
    refine al_pure rfl rfl rfl (pure_extract rfl gU rfl) ?_
    refine al_pure rfl rfl rfl (pure_assign rfl gU) ?_
    refine al_pure rfl rfl rfl (pure_assign rfl gU) ?_
    refine al_pure rfl rfl rfl (pure_assign rfl gU) ?_
    refine al_nil ?_
    refine awp_sub (s := { t := [(0, _, _), (1, _, _), (5, _, _), (6, _, _), (7, _, _), (8, _, _), (9, _, _), (10, _, _)], bx := [], ow := [] }) (sub_mk (⟨sx rfl, ⟨sx rfl, ⟨sx rfl, ⟨sx rfl, ⟨sx rfl, ⟨sx rfl, ⟨sx rfl, ⟨sx rfl, trivial⟩⟩⟩⟩⟩⟩⟩⟩) trivial trivial) ?_
    refine awp_seq (awp_region ?_)
    refine al_pure rfl rfl rfl (pure_move rfl gU) ?_
    refine al_pure rfl rfl rfl (pure_move rfl gU) ?_
    refine al_pure rfl rfl rfl (pure_cmp rfl rfl gU gU rfl) ?_
    refine al_pure rfl rfl rfl (pure_move rfl gU) ?_
    refine al_pure rfl rfl rfl (pure_move rfl gU) ?_
    refine al_pure rfl rfl rfl (pure_move rfl gU) ?_
    refine al_pure rfl rfl rfl (pure_cmp rfl rfl (fun hh => hh) (fun hh => hh) rfl) ?_
    refine al_pure rfl rfl rfl (pure_and rfl rfl gU (fun _ hi => gP rfl hi)) ?_
    refine al_pure rfl rfl rfl (pure_move rfl gU) ?_
    refine al_pure rfl rfl rfl (pure_move rfl gU) ?_
    refine al_pure rfl rfl rfl (pure_move rfl gU) ?_
    refine al_pure rfl rfl rfl (pure_cmp rfl rfl (fun hh => hh) (fun hh => hh) rfl) ?_
    refine al_sub (s := { t := [(0, _, _), (1, _, _), (5, _, _), (6, _, _), (7, _, _), (41, _, _), (44, _, _)], bx := [], ow := [] }) (sub_mk (⟨sx rfl, ⟨sx rfl, ⟨sx rfl, ⟨sx rfl, ⟨sx rfl, ⟨sx rfl, ⟨sx rfl, trivial⟩⟩⟩⟩⟩⟩⟩) trivial trivial) ?_
    refine al_pure rfl rfl rfl (pure_and rfl rfl gU (fun _ hi => gP rfl hi)) ?_
    refine al_pure rfl rfl rfl (pure_move rfl gU) ?_
    refine al_pure rfl rfl rfl (pure_move rfl gU) ?_
    refine al_pure rfl rfl rfl (pure_move rfl gU) ?_
    refine al_pure rfl rfl rfl (pure_cmp rfl rfl (fun hh => hh) (fun hh => hh) rfl) ?_
    refine al_pure rfl rfl rfl (pure_and rfl rfl gU (fun _ hi => gP rfl hi)) ?_
    refine al_pure rfl rfl rfl (pure_move rfl gU) ?_
    refine al_pure rfl rfl rfl (pure_move rfl gU) ?_
    refine al_pure rfl rfl rfl (pure_move rfl gU) ?_
    refine al_call rfl rfl rfl rfl rfl rfl gU (fun hh => gA ((fun hh => hh) hh) (gA ((fun hh => hh) hh) (rfl))) (fFixed_spec _ _) rfl ?_
    refine al_pure rfl rfl rfl (pure_move rfl gU) ?_
    refine al_pure rfl rfl rfl (pure_cmp rfl rfl (fun hh => hh) gU rfl) ?_
    refine al_sub (s := { t := [(5, _, _), (6, _, _), (51, _, _), (54, _, _), (56, _, _)], bx := [], ow := [] }) (sub_mk (⟨sx rfl, ⟨sx rfl, ⟨sx rfl, ⟨sx rfl, ⟨sx rfl, trivial⟩⟩⟩⟩⟩) trivial trivial) ?_
    refine al_pure rfl rfl rfl (pure_move rfl (fun hh => hh)) ?_
    refine al_pure rfl rfl rfl (pure_move rfl gU) ?_
    refine al_pure rfl rfl rfl (pure_move rfl gU) ?_
    refine al_pure rfl rfl rfl (pure_cmp rfl rfl (fun hh => hh) (fun hh => hh) rfl) ?_
    refine al_pure rfl rfl rfl (pure_and rfl rfl (fun hh => hh) (fun hh hi => gP hh hi)) ?_
    refine al_pure rfl rfl rfl (pure_eqBool rfl rfl (fun hh => hh) (fun hh => hh) (Tryd.underlying4)) ?_
    refine al_pure rfl rfl rfl (pure_and rfl rfl gU (fun _ hi => gP rfl hi)) ?_
    refine al_pure rfl rfl rfl (pure_assign rfl gU) ?_
    refine al_nil ?_
    refine awp_ret ?_
    repeat (first | refine tR ?_ | refine bR ?_)
    refine ret_ok rfl ?_ trivial
    exact xb_eq (by simp [hb])
theorem tableE_take : ∀ (T l : List Fm) (k n : Nat), k + n ≤ T.length → tableE T l k = 0 → tableE (T.take (k + n)) (l.take n) k = 0
  | T, [], k, n, _, _ => by simp [tableE]
  | T, f :: l, k, 0, _, _ => by simp [tableE]
  | T, f :: l, k, n + 1, hk, h => by
    rw [tableE] at h
    split at h
    · rename_i h1; exact absurd h h1
    · rename_i h1
      rw [List.take_succ_cons, tableE, List.take_take, Nat.min_eq_left (by omega), if_neg h1]
      have := tableE_take T l (k + 1) n (by omega) h
      rwa [show k + 1 + n = k + (n + 1) by omega] at this
theorem valid_take {t : List Fm} (h : validE t = 0) (n : Nat) (hn : n ≤ t.length) : validE (t.take n) = 0 := by
  unfold validE at h ⊢
  split at h
  · simp at h
  · rename_i h1
    rw [List.length_take, if_neg (by omega)]
    have := tableE_take t t 0 n (by omega) h
    rwa [Nat.zero_add] at this
theorem tagged_take {t : List Fm} (h : taggedB t = true) (n : Nat) (hn : n ≤ t.length) : taggedB (t.take n) = true := by
  obtain ⟨h1, h2⟩ := tagged_iff.1 h
  refine tagged_true ⟨valid_take h1 n hn, fun i hi => ?_⟩
  rw [List.length_take] at hi
  have e : ∀ j, j < n → f0 (t.take n) j = f0 t j := fun j hj => by
    show ((t.take n).getD j default).fields.getD 0 default = _
    rw [getD_takeF t hj]
  obtain ⟨q1, q2⟩ := h2 i (by omega)
  exact ⟨by rw [e i (by omega)]; exact q1, fun k hk => by rw [e i (by omega), e k (by omega)]; exact q2 k hk⟩
theorem FormatTagged_spec (t : List Fm) (k : UInt8) : Ctr sys 5 [xtab t, xu (k.toNat : Int)] [] (xb true) none [] := by
  have hrl := Fm.rows_len t
  have hk := k.toNat_lt
  refine spec_intro Tryd.func5 rfl rfl rfl rfl rfl rfl ?_
  refine awp_seq (awp_region ?_)
  refine al_pure rfl rfl rfl (pure_assign rfl gU) ?_
  refine al_nil ?_
  refine awp_seq ?_
  refine awp_seq (awp_region ?_)
  refine al_call rfl rfl rfl rfl rfl rfl gU gU (awake_spec) rfl ?_
  refine al_pure rfl rfl rfl (pure_not rfl gU) ?_
  refine al_pure rfl rfl rfl (pure_move rfl gU) ?_
  refine al_pure rfl rfl rfl (pure_move rfl gU) ?_
  refine al_call rfl rfl rfl rfl rfl rfl gU (fun hh => gA ((fun hh => hh) hh) (rfl)) (few_spec _) rfl ?_
  refine al_pure rfl rfl rfl (pure_not rfl (fun hh => hh)) ?_
  refine al_pure rfl rfl rfl (pure_or rfl rfl gU (fun _ hi => gP rfl hi)) ?_
  refine al_nil ?_
  refine awp_sub (s := { t := [(0, _, _), (1, _, _), (13, _, _)], bx := [], ow := [] }) (sub_mk (⟨sx rfl, ⟨sx rfl, ⟨sx rfl, trivial⟩⟩⟩) trivial trivial) ?_
  refine awp_cond rfl (fun hc => ?_) (fun hc => ?_)
  · refine awp_seq (awp_region ?_)
    refine al_call rfl rfl rfl rfl rfl rfl gU gU (awake_spec) rfl ?_
    refine al_pure rfl rfl rfl (pure_assign rfl gU) ?_
    refine al_nil ?_
    refine awp_ret ?_
    repeat (first | refine tR ?_ | refine bR ?_)
    refine ret_ok rfl ?_ trivial
    rfl
  · try simp only [nn, Fd.rows_len, Fm.rows_len, bytesR_len, strR_len, ffR_len, ddR_len] at hc
    have hf : fewT t = true := by simpa using hc
    have hl : t.length ≤ 12 := by
      unfold fewT at hf
      simp only [Bool.and_eq_true, decide_eq_true_eq] at hf
      exact hf.1
    refine awp_skip ?_
    refine awp_seq (awp_region ?_)
    refine al_pure rfl rfl rfl (pure_move rfl gU) ?_
    refine al_call rfl rfl rfl rfl rfl rfl gU gU (fTagged_spec _) rfl ?_
    refine al_pure rfl rfl rfl (pure_assign rfl gU) ?_
    refine al_nil ?_
    refine awp_seq ?_
    refine awp_seq (awp_region ?_)
    refine al_pure rfl rfl rfl (pure_move rfl gU) ?_
    refine al_pure rfl rfl rfl (pure_move rfl gU) ?_
    refine al_call rfl rfl rfl rfl rfl rfl gU gU (rTagged_spec _) rfl ?_
    refine al_pure rfl rfl rfl (pure_neBool rfl rfl gU gU (Tryd.underlying4)) ?_
    refine al_nil ?_
    refine awp_sub (s := { t := [(0, _, _), (1, _, _), (5, _, _), (20, _, _)], bx := [], ow := [] }) (sub_mk (⟨sx rfl, ⟨sx rfl, ⟨sx rfl, ⟨sx rfl, trivial⟩⟩⟩⟩) trivial trivial) ?_
    refine awp_cond rfl (fun hc2 => ?_) (fun hc2 => ?_)
    · try simp only [nn, Fd.rows_len, Fm.rows_len, bytesR_len, strR_len, ffR_len, ddR_len] at hc2
      simp at hc2
    · try simp only [nn, Fd.rows_len, Fm.rows_len, bytesR_len, strR_len, ffR_len, ddR_len] at hc2
      have hmod : ((k.toNat : Int) % ((t.length : Int) + 1)) = ((k.toNat % (t.length + 1) : Nat) : Int) := by rw [Int.natCast_emod]; rfl
      have hmlt : k.toNat % (t.length + 1) ≤ t.length := by have := Nat.mod_lt k.toNat (show 0 < t.length + 1 by omega); omega
      refine awp_skip ?_
      refine awp_seq (awp_region ?_)
      refine al_pure rfl rfl rfl (pure_move rfl gU) ?_
      refine al_pure rfl rfl rfl (pure_convInt rfl gU ⟨_, Tryd.underlying5⟩ (Tryd.underlying3) (IntWalk.i64_in _ (by omega))) ?_
      refine al_pure rfl rfl rfl (pure_move rfl gU) ?_
      refine al_lenSl rfl rfl rfl rfl rfl gU rfl rfl ?_ (fun hh => by simp at hh); intro hlen
      refine al_pure rfl rfl rfl (pure_arith rfl rfl gU gU rfl (IntWalk.i64_in _ (by omega))) ?_
      refine al_pure rfl rfl rfl (pure_remG rfl rfl gU gU (fun hh => by first | omega | (simp at hh; omega) | (rw [Fm.rows_len, hmod])) (fun hh => Int.tmod_eq_emod_of_nonneg (by first | omega | (simp at hh; omega) | (rw [Fm.rows_len, hmod])))) ?_
      refine al_pure rfl rfl rfl (pure_assign rfl gU) ?_
      refine al_nil ?_
      refine awp_sub (s := { t := [(0, _, _), (5, _, _), (6, _, _)], bx := [], ow := [] }) (sub_mk (⟨sx rfl, ⟨sx rfl, ⟨sx rfl, trivial⟩⟩⟩) trivial trivial) ?_
      refine awp_seq (awp_region ?_)
      refine al_pure rfl rfl rfl (pure_move rfl gU) ?_
      refine al_pure rfl rfl rfl (pure_not rfl gU) ?_
      refine al_pure rfl rfl rfl (pure_move rfl gU) ?_
      refine al_pure rfl rfl rfl (pure_move rfl gU) ?_
      refine al_pure rfl rfl rfl (pure_move rfl gU) ?_
      refine al_pure rfl rfl rfl (pure_slice (h' := k.toNat % (t.length + 1)) rfl (fun hh => hh) rfl rfl (fun _ => rfl) (fun _ => ⟨_, _, _, rfl, (fun hh => hh), by first | omega | (simp at hh; omega) | (rw [Fm.rows_len, hmod])⟩) (fun hh => by first | omega | (simp at hh; omega) | (rw [Fm.rows_len, hmod])) (fun hh => by first | omega | (simp at hh; omega) | (rw [Fm.rows_len, hmod]))) ?_
      have htk : ((Fm.rows t).take (k.toNat % (t.length + 1))).drop 0 = Fm.rows (t.take (k.toNat % (t.length + 1))) := by rw [List.drop_zero, Fm.rows_take]
      have hsp := fTagged_spec (t.take (k.toNat % (t.length + 1)))
      unfold xtab at hsp
      rw [← htk] at hsp
      refine al_call rfl rfl rfl rfl rfl rfl gU (fun hh => gA ((fun hh => hh) hh) (rfl)) (hsp) rfl ?_
      refine al_pure rfl rfl rfl (pure_or rfl rfl gU (fun _ hi => gP rfl hi)) ?_
      refine al_pure rfl rfl rfl (pure_assign rfl gU) ?_
      refine al_nil ?_
      refine awp_ret ?_
      repeat (first | refine tR ?_ | refine bR ?_)
      refine ret_ok rfl ?_ trivial
      (refine xb_eq ?_; cases hb : taggedB t with | false => rfl | true => (rw [tagged_take hb _ hmlt]; rfl))
theorem FormatMade_spec (d : List (List Dr)) : Ctr sys 3 [xdd d] [] (xb true) none [] := by
  obtain ⟨hv, _⟩ := made_valid d
  have hp := Parse_spec (madeE d) hv
  have hF := fFormat_spec (madeE d)
  rw [show formatE (madeE d) = (txtP (madeE d) (madeE d).length, 0) by rw [formatE, if_neg (by omega)]] at hF
  have hV := fValid_spec (madeE d)
  rw [hv] at hV
  refine spec_intro Tryd.func3 rfl rfl rfl rfl rfl rfl ?_
  refine awp_seq (awp_region ?_)
  refine al_pure rfl rfl rfl (pure_assign rfl gU) ?_
  refine al_nil ?_
  refine awp_seq ?_
  refine awp_seq (awp_region ?_)
  refine al_call rfl rfl rfl rfl rfl rfl gU gU (awake_spec) rfl ?_
  refine al_pure rfl rfl rfl (pure_not rfl gU) ?_
  refine al_pure rfl rfl rfl (pure_move rfl gU) ?_
  refine al_pure rfl rfl rfl (pure_move rfl gU) ?_
  refine al_pure rfl rfl rfl (pure_lenSl rfl (fun hh => hh) rfl rfl) ?_
  refine al_pure rfl rfl rfl (pure_cmp rfl rfl (fun hh => hh) gU rfl) ?_
  refine al_pure rfl rfl rfl (pure_or rfl rfl gU (fun _ hi => gP rfl hi)) ?_
  refine al_nil ?_
  refine awp_sub (s := { t := [(0, _, _), (14, _, _)], bx := [], ow := [] }) (sub_mk (⟨sx rfl, ⟨sx rfl, trivial⟩⟩) trivial trivial) ?_
  refine awp_cond rfl (fun hc => ?_) (fun hc => ?_)
  · refine awp_seq (awp_region ?_)
    refine al_call rfl rfl rfl rfl rfl rfl gU gU (awake_spec) rfl ?_
    refine al_pure rfl rfl rfl (pure_assign rfl gU) ?_
    refine al_nil ?_
    refine awp_ret ?_
    repeat (first | refine tR ?_ | refine bR ?_)
    refine ret_ok rfl ?_ trivial
    rfl
  · refine awp_skip ?_
    refine awp_seq (awp_region ?_)
    refine al_pure rfl rfl rfl (pure_move rfl gU) ?_
    refine al_call rfl rfl rfl rfl rfl rfl gU gU (Made_spec _) rfl ?_
    refine al_pure rfl rfl rfl (pure_assign rfl gU) ?_
    refine al_nil ?_
    refine awp_seq (awp_region ?_)
    refine al_pure rfl rfl rfl (pure_move rfl gU) ?_
    refine al_call rfl rfl rfl rfl rfl rfl gU gU (hF) rfl ?_
    refine al_pure rfl rfl rfl (pure_move rfl gU) ?_
    refine al_pure rfl rfl rfl (pure_extract rfl gU rfl) ?_
    refine al_pure rfl rfl rfl (pure_extract rfl gU rfl) ?_
    refine al_pure rfl rfl rfl (pure_assign rfl gU) ?_
    refine al_pure rfl rfl rfl (pure_assign rfl gU) ?_
    refine al_nil ?_
    refine awp_sub (s := { t := [(3, _, _), (4, _, _), (5, _, _)], bx := [], ow := [] }) (sub_mk (⟨sx rfl, ⟨sx rfl, ⟨sx rfl, trivial⟩⟩⟩) trivial trivial) ?_
    refine awp_seq (awp_region ?_)
    refine al_pure rfl rfl rfl (pure_move rfl gU) ?_
    refine al_call rfl rfl rfl rfl rfl rfl gU gU (hp) rfl ?_
    refine al_pure rfl rfl rfl (pure_move rfl gU) ?_
    refine al_pure rfl rfl rfl (pure_extract rfl gU rfl) ?_
    refine al_pure rfl rfl rfl (pure_extract rfl gU rfl) ?_
    refine al_pure rfl rfl rfl (pure_assign rfl gU) ?_
    refine al_pure rfl rfl rfl (pure_assign rfl gU) ?_
    refine al_nil ?_
    refine awp_sub (s := { t := [(3, _, _), (5, _, _), (6, _, _), (7, _, _)], bx := [], ow := [] }) (sub_mk (⟨sx rfl, ⟨sx rfl, ⟨sx rfl, ⟨sx rfl, trivial⟩⟩⟩⟩) trivial trivial) ?_
    refine awp_seq (awp_region ?_)
    refine al_pure rfl rfl rfl (pure_move rfl gU) ?_
    refine al_call rfl rfl rfl rfl rfl rfl gU gU (hV) rfl ?_
    refine al_pure rfl rfl rfl (pure_cmp rfl rfl gU gU rfl) ?_
    refine al_pure rfl rfl rfl (pure_move rfl gU) ?_
    refine al_pure rfl rfl rfl (pure_move rfl gU) ?_
    refine al_pure rfl rfl rfl (pure_cmp rfl rfl (fun hh => hh) gU rfl) ?_
    refine al_pure rfl rfl rfl (pure_and rfl rfl gU (fun _ hi => gP rfl hi)) ?_
    refine al_pure rfl rfl rfl (pure_move rfl gU) ?_
    refine al_pure rfl rfl rfl (pure_move rfl gU) ?_
    refine al_pure rfl rfl rfl (pure_cmp rfl rfl (fun hh => hh) gU rfl) ?_
    refine al_pure rfl rfl rfl (pure_and rfl rfl gU (fun _ hi => gP rfl hi)) ?_
    refine al_pure rfl rfl rfl (pure_move rfl gU) ?_
    refine al_sub (s := { t := [(3, _, _), (6, _, _), (39, _, _)], bx := [], ow := [] }) (sub_mk (⟨sx rfl, ⟨sx rfl, ⟨sx rfl, trivial⟩⟩⟩) trivial trivial) ?_
    refine al_pure rfl rfl rfl (pure_move rfl gU) ?_
    refine al_pure rfl rfl rfl (pure_move rfl gU) ?_
    refine al_call rfl rfl rfl rfl rfl rfl gU (fun hh => gA ((fun hh => hh) hh) (gA ((fun hh => hh) hh) (rfl))) (same_spec _) rfl ?_
    refine al_pure rfl rfl rfl (pure_and rfl rfl gU (fun _ hi => gP rfl hi)) ?_
    refine al_pure rfl rfl rfl (pure_assign rfl gU) ?_
    refine al_nil ?_
    refine awp_ret ?_
    repeat (first | refine tR ?_ | refine bR ?_)
    refine ret_ok rfl ?_ trivial
    rfl
theorem FormatValid_spec (t : List Fm) : Ctr sys 8 [xtab t] [] (xb true) none [] := by
  refine spec_intro Tryd.func8 rfl rfl rfl rfl rfl rfl ?_
  refine awp_seq (awp_region ?_)
  refine al_pure rfl rfl rfl (pure_assign rfl gU) ?_
  refine al_nil ?_
  refine awp_seq ?_
  refine awp_seq (awp_region ?_)
  refine al_call rfl rfl rfl rfl rfl rfl gU gU (awake_spec) rfl ?_
  refine al_pure rfl rfl rfl (pure_not rfl gU) ?_
  refine al_pure rfl rfl rfl (pure_move rfl gU) ?_
  refine al_pure rfl rfl rfl (pure_move rfl gU) ?_
  refine al_call rfl rfl rfl rfl rfl rfl gU (fun hh => gA ((fun hh => hh) hh) (rfl)) (few_spec _) rfl ?_
  refine al_pure rfl rfl rfl (pure_not rfl (fun hh => hh)) ?_
  refine al_pure rfl rfl rfl (pure_or rfl rfl gU (fun _ hi => gP rfl hi)) ?_
  refine al_nil ?_
  refine awp_sub (s := { t := [(0, _, _), (15, _, _)], bx := [], ow := [] }) (sub_mk (⟨sx rfl, ⟨sx rfl, trivial⟩⟩) trivial trivial) ?_
  refine awp_cond rfl (fun hc => ?_) (fun hc => ?_)
  · refine awp_seq (awp_region ?_)
    refine al_call rfl rfl rfl rfl rfl rfl gU gU (awake_spec) rfl ?_
    refine al_pure rfl rfl rfl (pure_assign rfl gU) ?_
    refine al_nil ?_
    refine awp_ret ?_
    repeat (first | refine tR ?_ | refine bR ?_)
    refine ret_ok rfl ?_ trivial
    rfl
  · refine awp_skip ?_
    refine awp_seq (awp_region ?_)
    refine al_pure rfl rfl rfl (pure_move rfl gU) ?_
    refine al_call rfl rfl rfl rfl rfl rfl gU gU (fFormat_spec _) rfl ?_
    refine al_pure rfl rfl rfl (pure_move rfl gU) ?_
    refine al_pure rfl rfl rfl (pure_extract rfl gU rfl) ?_
    refine al_pure rfl rfl rfl (pure_extract rfl gU rfl) ?_
    refine al_pure rfl rfl rfl (pure_assign rfl gU) ?_
    refine al_pure rfl rfl rfl (pure_assign rfl gU) ?_
    refine al_nil ?_
    refine awp_sub (s := { t := [(0, _, _), (3, _, _), (4, _, _)], bx := [], ow := [] }) (sub_mk (⟨sx rfl, ⟨sx rfl, ⟨sx rfl, trivial⟩⟩⟩) trivial trivial) ?_
    refine awp_seq (awp_region ?_)
    refine al_pure rfl rfl rfl (pure_move rfl gU) ?_
    refine al_call rfl rfl rfl rfl rfl rfl gU gU (rFormat_spec _) rfl ?_
    refine al_pure rfl rfl rfl (pure_move rfl gU) ?_
    refine al_pure rfl rfl rfl (pure_extract rfl gU rfl) ?_
    refine al_pure rfl rfl rfl (pure_extract rfl gU rfl) ?_
    refine al_pure rfl rfl rfl (pure_assign rfl gU) ?_
    refine al_pure rfl rfl rfl (pure_assign rfl gU) ?_
    refine al_nil ?_
    refine awp_sub (s := { t := [(0, _, _), (3, _, _), (4, _, _), (5, _, _), (6, _, _)], bx := [], ow := [] }) (sub_mk (⟨sx rfl, ⟨sx rfl, ⟨sx rfl, ⟨sx rfl, ⟨sx rfl, trivial⟩⟩⟩⟩⟩) trivial trivial) ?_
    refine awp_seq ?_
    refine awp_seq (awp_region ?_)
    refine al_pure rfl rfl rfl (pure_move rfl gU) ?_
    refine al_call rfl rfl rfl rfl rfl rfl gU gU (fValid_spec _) rfl ?_
    refine al_pure rfl rfl rfl (pure_move rfl gU) ?_
    refine al_call rfl rfl rfl rfl rfl rfl gU gU (rValid_spec _) rfl ?_
    refine al_pure rfl rfl rfl (pure_cmp rfl rfl gU gU rfl) ?_
    refine al_pure rfl rfl rfl (pure_move rfl gU) ?_
    refine al_pure rfl rfl rfl (pure_move rfl gU) ?_
    refine al_pure rfl rfl rfl (pure_move rfl gU) ?_
    refine al_pure rfl rfl rfl (pure_cmpS rfl rfl (fun hh => hh) (fun hh => hh) rfl) ?_
    refine al_pure rfl rfl rfl (pure_or rfl rfl gU (fun _ hi => gP rfl hi)) ?_
    refine al_pure rfl rfl rfl (pure_move rfl gU) ?_
    refine al_pure rfl rfl rfl (pure_move rfl gU) ?_
    refine al_sub (s := { t := [(0, _, _), (3, _, _), (4, _, _), (5, _, _), (6, _, _), (37, _, _), (38, _, _)], bx := [], ow := [] }) (sub_mk (⟨sx rfl, ⟨sx rfl, ⟨sx rfl, ⟨sx rfl, ⟨sx rfl, ⟨sx rfl, ⟨sx rfl, trivial⟩⟩⟩⟩⟩⟩⟩) trivial trivial) ?_
    refine al_pure rfl rfl rfl (pure_move rfl gU) ?_
    refine al_pure rfl rfl rfl (pure_cmp rfl rfl (fun hh => hh) (fun hh => hh) rfl) ?_
    refine al_pure rfl rfl rfl (pure_or rfl rfl gU (fun _ hi => gP rfl hi)) ?_
    refine al_pure rfl rfl rfl (pure_move rfl gU) ?_
    refine al_pure rfl rfl rfl (pure_move rfl gU) ?_
    refine al_pure rfl rfl rfl (pure_cmp rfl rfl (fun hh => hh) gU rfl) ?_
    refine al_pure rfl rfl rfl (pure_or rfl rfl gU (fun _ hi => gP rfl hi)) ?_
    refine al_nil ?_
    refine awp_sub (s := { t := [(0, _, _), (3, _, _), (4, _, _), (5, _, _), (6, _, _), (45, _, _)], bx := [], ow := [] }) (sub_mk (⟨sx rfl, ⟨sx rfl, ⟨sx rfl, ⟨sx rfl, ⟨sx rfl, ⟨sx rfl, trivial⟩⟩⟩⟩⟩⟩) trivial trivial) ?_
    refine awp_cond rfl (fun hc2 => ?_) (fun hc2 => ?_)
    · refine awp_seq (awp_region ?_)
      refine al_pure rfl rfl rfl (pure_move rfl gU) ?_
      refine al_call rfl rfl rfl rfl rfl rfl gU gU (fValid_spec _) rfl ?_
      refine al_pure rfl rfl rfl (pure_move rfl gU) ?_
      refine al_call rfl rfl rfl rfl rfl rfl gU gU (rValid_spec _) rfl ?_
      refine al_pure rfl rfl rfl (pure_cmp rfl rfl gU gU rfl) ?_
      refine al_pure rfl rfl rfl (pure_move rfl gU) ?_
      refine al_pure rfl rfl rfl (pure_move rfl gU) ?_
      refine al_pure rfl rfl rfl (pure_move rfl gU) ?_
      refine al_pure rfl rfl rfl (pure_cmpS rfl rfl (fun hh => hh) (fun hh => hh) rfl) ?_
      refine al_pure rfl rfl rfl (pure_and rfl rfl gU (fun _ hi => gP rfl hi)) ?_
      refine al_pure rfl rfl rfl (pure_move rfl gU) ?_
      refine al_pure rfl rfl rfl (pure_move rfl gU) ?_
      refine al_sub (s := { t := [(6, _, _), (56, _, _), (57, _, _)], bx := [], ow := [] }) (sub_mk (⟨sx rfl, ⟨sx rfl, ⟨sx rfl, trivial⟩⟩⟩) trivial trivial) ?_
      refine al_pure rfl rfl rfl (pure_move rfl gU) ?_
      refine al_pure rfl rfl rfl (pure_cmp rfl rfl (fun hh => hh) (fun hh => hh) rfl) ?_
      refine al_pure rfl rfl rfl (pure_and rfl rfl gU (fun _ hi => gP rfl hi)) ?_
      refine al_pure rfl rfl rfl (pure_assign rfl gU) ?_
      refine al_nil ?_
      refine awp_ret ?_
      repeat (first | refine tR ?_ | refine bR ?_)
      refine ret_ok rfl ?_ trivial
      exact xb_eq (by simp)
    · try simp only [nn, Fd.rows_len, Fm.rows_len, bytesR_len, strR_len, ffR_len, ddR_len] at hc2
      have h0 : (formatE t).2 = 0 := by simpa using hc2
      have hv : validE t = 0 := by
        unfold formatE at h0
        split at h0
        · exact h0
        · omega
      have e : formatE t = (txtP t t.length, 0) := by rw [formatE, if_neg (by omega)]
      rw [e]
      refine awp_skip ?_
      refine awp_seq (awp_region ?_)
      refine al_pure rfl rfl rfl (pure_move rfl gU) ?_
      refine al_call rfl rfl rfl rfl rfl rfl gU gU (Parse_spec t hv) rfl ?_
      refine al_pure rfl rfl rfl (pure_move rfl gU) ?_
      refine al_pure rfl rfl rfl (pure_extract rfl gU rfl) ?_
      refine al_pure rfl rfl rfl (pure_extract rfl gU rfl) ?_
      refine al_pure rfl rfl rfl (pure_assign rfl gU) ?_
      refine al_pure rfl rfl rfl (pure_assign rfl gU) ?_
      refine al_nil ?_
      refine awp_sub (s := { t := [(0, _, _), (7, _, _), (8, _, _)], bx := [], ow := [] }) (sub_mk (⟨sx rfl, ⟨sx rfl, ⟨sx rfl, trivial⟩⟩⟩) trivial trivial) ?_
      refine awp_seq (awp_region ?_)
      refine al_pure rfl rfl rfl (pure_move rfl gU) ?_
      refine al_pure rfl rfl rfl (pure_cmp rfl rfl gU gU rfl) ?_
      refine al_pure rfl rfl rfl (pure_move rfl gU) ?_
      refine al_pure rfl rfl rfl (pure_move rfl gU) ?_
      refine al_pure rfl rfl rfl (pure_move rfl gU) ?_
      refine al_call rfl rfl rfl rfl rfl rfl gU (fun hh => gA ((fun hh => hh) hh) (gA ((fun hh => hh) hh) (rfl))) (same_spec _) rfl ?_
      refine al_pure rfl rfl rfl (pure_and rfl rfl gU (fun _ hi => gP rfl hi)) ?_
      refine al_pure rfl rfl rfl (pure_assign rfl gU) ?_
      refine al_nil ?_
      refine awp_ret ?_
      repeat (first | refine tR ?_ | refine bR ?_)
      refine ret_ok rfl ?_ trivial
      rfl
theorem few_len {t : List Fm} (h : fewT t = true) : t.length ≤ 12 ∧ ∀ i, i < t.length → (t.getD i default).fields.length ≤ 12 := by
  unfold fewT at h
  simp only [Bool.and_eq_true, decide_eq_true_eq, List.all_eq_true] at h
  refine ⟨h.1, fun i hi => ?_⟩
  have := h.2 (t.getD i default) (by rw [List.getD_eq_getElem?_getD, List.getElem?_eq_getElem hi]; exact List.getElem_mem _)
  unfold fewM at this
  simp only [Bool.and_eq_true, decide_eq_true_eq] at this
  exact this.1.2
/-- Formats without names. -/
def bareT (shapes : List (List Fd)) (k : Nat) : List Fm := (shapes.take k).map fun l => ⟨[], l⟩
theorem bareT_len (shapes : List (List Fd)) (k : Nat) : (bareT shapes k).length = min k shapes.length := by simp [bareT]
theorem bareT_snoc {shapes : List (List Fd)} {k : Nat} (h : k < shapes.length) : bareT shapes (k + 1) = bareT shapes k ++ [⟨[], shapes.getD k []⟩] := by
  rw [bareT, take_getD (d := []) h, List.map_append]; rfl
theorem FormatGenerate_spec (names : List (List UInt8)) (shapes : List (List Fd)) : Ctr sys 7 [xss names, xff shapes] [] (xb true) none [] := by
  have hsl := strR_len names
  have hfl := ffR_len shapes
  refine spec_intro Tryd.func7 rfl rfl rfl rfl rfl rfl ?_
  refine awp_seq (awp_region ?_)
  refine al_pure rfl rfl rfl (pure_assign rfl gU) ?_
  refine al_nil ?_
  refine awp_seq ?_
  refine awp_seq (awp_region ?_)
  refine al_call rfl rfl rfl rfl rfl rfl gU gU (awake_spec) rfl ?_
  refine al_pure rfl rfl rfl (pure_not rfl gU) ?_
  refine al_pure rfl rfl rfl (pure_move rfl gU) ?_
  refine al_pure rfl rfl rfl (pure_move rfl gU) ?_
  refine al_pure rfl rfl rfl (pure_lenSl rfl (fun hh => hh) rfl rfl) ?_
  refine al_pure rfl rfl rfl (pure_cmp rfl rfl (fun hh => hh) gU rfl) ?_
  refine al_pure rfl rfl rfl (pure_or rfl rfl gU (fun _ hi => gP rfl hi)) ?_
  refine al_pure rfl rfl rfl (pure_move rfl gU) ?_
  refine al_pure rfl rfl rfl (pure_move rfl gU) ?_
  refine al_pure rfl rfl rfl (pure_lenSl rfl (fun hh => hh) rfl rfl) ?_
  refine al_pure rfl rfl rfl (pure_cmp rfl rfl (fun hh => hh) gU rfl) ?_
  refine al_sub (s := { t := [(0, _, _), (1, _, _), (20, _, _), (23, _, _)], bx := [], ow := [] }) (sub_mk (⟨sx rfl, ⟨sx rfl, ⟨sx rfl, ⟨sx rfl, trivial⟩⟩⟩⟩) trivial trivial) ?_
  refine al_pure rfl rfl rfl (pure_or rfl rfl gU (fun _ hi => gP rfl hi)) ?_
  refine al_nil ?_
  refine awp_cond rfl (fun hc => ?_) (fun hc => ?_)
  · refine awp_seq (awp_region ?_)
    refine al_call rfl rfl rfl rfl rfl rfl gU gU (awake_spec) rfl ?_
    refine al_pure rfl rfl rfl (pure_assign rfl gU) ?_
    refine al_nil ?_
    refine awp_ret ?_
    repeat (first | refine tR ?_ | refine bR ?_)
    refine ret_ok rfl ?_ trivial
    rfl
  · try simp only [nn, Fd.rows_len, Fm.rows_len, bytesR_len, strR_len, ffR_len, ddR_len] at hc
    have hl : names.length ≤ 12 ∧ shapes.length ≤ 12 := by simp at hc; omega
    refine awp_skip ?_
    refine awp_seq (awp_region ?_)
    refine al_do rfl (does_nil (.inr rfl) rfl rfl) ?_
    refine al_nil ?_
    refine awp_seq ?_
    refine awp_seq (awp_region ?_)
    refine al_pure rfl rfl rfl (pure_move rfl gU) ?_
    refine al_lenSl rfl rfl rfl rfl rfl gU rfl rfl ?_ (fun hh => by simp at hh); intro hlen
    refine al_pure rfl rfl rfl (pure_move rfl gU) ?_
    refine al_nil ?_
    refine awp_sub (s := { t := [(0, _, _), (1, _, _), (5, _, _), (27, _, _), (28, _, _)], bx := [], ow := [((.t 5), _)] }) (sub_mk (⟨sx rfl, ⟨sx rfl, ⟨sx rfl, ⟨sx rfl, ⟨sx rfl, trivial⟩⟩⟩⟩⟩) trivial (⟨rfl, trivial⟩)) ?_
    refine awp_block ?_
    refine awp_for (ι := Nat) { t := [(0, _, _), (1, _, _), (27, _, _)], bx := [], ow := [((.t 5), _)] } (fun k => [(28, true, xi (k : Int)), (5, true, xtab (bareT shapes k))]) (fun k => []) (fun k => k ≤ shapes.length) (fun k => shapes.length - k) (0) (by simp) (sub_mk (⟨sx rfl, ⟨sx rfl, ⟨sx rfl, ⟨sx rfl, ⟨sx rfl, trivial⟩⟩⟩⟩⟩) trivial (⟨rfl, trivial⟩)) ?_
    intro k hok
    dsimp only [List.cons_append, List.nil_append]
    have hbl := bareT_len shapes k
    have hbr := Fm.rows_len (bareT shapes k)
    refine awp_seq (awp_region ?_)
    refine al_pure rfl rfl rfl (pure_cmp rfl rfl gU gU rfl) ?_
    refine al_nil ?_
    refine awp_seq ?_
    refine awp_cond rfl (fun hc2 => ?_) (fun hc2 => ?_)
    · try simp only [nn, Fd.rows_len, Fm.rows_len, bytesR_len, strR_len, ffR_len, ddR_len] at hc2
      refine awp_skip ?_
      refine awp_seq ?_
      refine awp_block ?_
      refine awp_seq (awp_region ?_)
      refine al_pure rfl rfl rfl (pure_move rfl gU) ?_
      refine al_pure rfl rfl rfl (pure_assign rfl gU) ?_
      refine al_nil ?_
      refine awp_region ?_
      refine al_do rfl (does_take (.inl rfl) rfl rfl rfl) ?_
      refine al_pure rfl rfl rfl (pure_move rfl gU) ?_
      refine al_pure rfl rfl rfl (pure_move rfl gU) ?_
      refine al_pure rfl rfl rfl (pure_indexAddr rfl rfl gU gU rfl rfl rfl (fun hh => ffR_at (by first | omega | (simp at hh; omega) | (rw [Fm.rows_len, hmod])))) ?_
      refine al_pure rfl rfl rfl (pure_loadRo rfl gU rfl rfl rfl) ?_
      refine al_pure rfl rfl rfl (pure_build rfl Tryd.underlying47 rfl gU) ?_
      refine al_buildSlice (xs := [_]) rfl rfl rfl rfl rfl rfl rfl rfl rfl gU rfl ?_
      refine al_do rfl (does_append rfl rfl rfl rfl rfl rfl rfl (by first | omega | (simp only [List.length_append, List.length_singleton, Fm.rows_len, bareT_len]; omega)) (by first | omega | (simp only [List.length_append, List.length_singleton, Fm.rows_len, bareT_len]; omega))) ?_
      refine al_do rfl (does_take (.inr rfl) rfl rfl rfl) ?_
      refine al_nil ?_
      refine awp_sub (s := { t := [(0, _, _), (1, _, _), (5, _, _), (27, _, _), (28, _, _)], bx := [], ow := [((.t 5), _)] }) (sub_mk (⟨sx rfl, ⟨sx rfl, ⟨sx rfl, ⟨sx rfl, ⟨sx rfl, trivial⟩⟩⟩⟩⟩) trivial (⟨rfl, trivial⟩)) ?_
      refine awp_region ?_
      refine al_pure rfl rfl rfl (pure_arith rfl rfl gU gU rfl (IntWalk.i64_in _ (by omega))) ?_
      refine al_pure rfl rfl rfl (pure_move rfl gU) ?_
      refine al_nil ?_
      refine ⟨k + 1, ?_, ?_, sub_mk (⟨⟨_, rfl, ?_⟩, ⟨⟨_, rfl, ?_⟩, ⟨sx rfl, ⟨sx rfl, ⟨sx rfl, trivial⟩⟩⟩⟩⟩) trivial (⟨rfl, trivial⟩)⟩
      · omega
      · omega
      · rfl
      · exact tx ((tab_next (t := bareT shapes k) (f := ⟨[], shapes.getD k []⟩) rfl).trans (congrArg xtab (bareT_snoc (by omega)).symm))
    · try simp only [nn, Fd.rows_len, Fm.rows_len, bytesR_len, strR_len, ffR_len, ddR_len] at hc2
      have hk : k = shapes.length := by omega
      subst hk
      refine awp_exit ?_
      repeat (first | refine thenS_exit ?_ | refine blockS_hit ?_ | refine blockS_miss rfl ?_)
      refine awp_seq ?_
      refine awp_seq (awp_region ?_)
      refine al_pure rfl rfl rfl (pure_move rfl gU) ?_
      refine al_lenSl rfl rfl rfl rfl rfl gU rfl rfl ?_ (fun hh => by simp at hh); intro hlen
      refine al_pure rfl rfl rfl (pure_move rfl gU) ?_
      refine al_nil ?_
      refine awp_block ?_
      refine awp_for (ι := Nat) { t := [(0, _, _), (1, _, _), (5, _, _), (40, _, _), (41, _, _)], bx := [], ow := [((.t 5), _)] } (fun j => [(42, true, xi (j : Int))]) (fun j => []) (fun j => j ≤ names.length) (fun j => names.length - j) (0) (by simp) (sub_mk (⟨sx rfl, ⟨sx rfl, ⟨sx rfl, ⟨sx rfl, ⟨sx rfl, ⟨sx rfl, trivial⟩⟩⟩⟩⟩⟩) trivial (⟨rfl, trivial⟩)) ?_
      intro j hok2
      dsimp only [List.cons_append, List.nil_append]
      refine awp_seq (awp_region ?_)
      refine al_pure rfl rfl rfl (pure_cmp rfl rfl gU gU rfl) ?_
      refine al_nil ?_
      refine awp_seq ?_
      refine awp_cond rfl (fun hc3 => ?_) (fun hc3 => ?_)
      · try simp only [nn, Fd.rows_len, Fm.rows_len, bytesR_len, strR_len, ffR_len, ddR_len] at hc3
        refine awp_skip ?_
        refine awp_seq ?_
        refine awp_block ?_
        refine awp_seq (awp_region ?_)
        refine al_pure rfl rfl rfl (pure_indexAddr rfl rfl gU gU rfl rfl rfl (fun hh => strR_at (by first | omega | (simp at hh; omega) | (rw [Fm.rows_len, hmod])))) ?_
        refine al_pure rfl rfl rfl (pure_loadRo rfl gU rfl rfl rfl) ?_
        refine al_pure rfl rfl rfl (pure_assign rfl gU) ?_
        refine al_nil ?_
        refine awp_seq (awp_region ?_)
        refine al_pure rfl rfl rfl (pure_move rfl gU) ?_
        refine al_lenS rfl rfl rfl rfl rfl gU (Tryd.underlying9) ?_ (fun hh => by simp at hh); intro hlen
        refine al_pure rfl rfl rfl (pure_cmp rfl rfl gU gU rfl) ?_
        refine al_nil ?_
        refine awp_sub (s := { t := [(0, _, _), (1, _, _), (5, _, _), (40, _, _), (41, _, _), (42, _, _), (48, _, _)], bx := [], ow := [((.t 5), _)] }) (sub_mk (⟨sx rfl, ⟨sx rfl, ⟨sx rfl, ⟨sx rfl, ⟨sx rfl, ⟨sx rfl, ⟨sx rfl, trivial⟩⟩⟩⟩⟩⟩⟩) trivial (⟨rfl, trivial⟩)) ?_
        refine awp_cond rfl (fun hc4 => ?_) (fun hc4 => ?_)
        · refine awp_seq (awp_region ?_)
          refine al_pure rfl rfl rfl (pure_assign rfl gU) ?_
          refine al_nil ?_
          refine awp_ret ?_
          repeat (first | refine tR ?_ | refine bR ?_)
          refine ret_ok rfl ?_ trivial
          rfl
        · try simp only [nn, Fd.rows_len, Fm.rows_len, bytesR_len, strR_len, ffR_len, ddR_len] at hc4
          refine awp_skip ?_
          refine awp_region ?_
          refine al_pure rfl rfl rfl (pure_arith rfl rfl gU gU rfl (IntWalk.i64_in _ (by omega))) ?_
          refine al_pure rfl rfl rfl (pure_move rfl gU) ?_
          refine al_nil ?_
          refine ⟨j + 1, ?_, ?_, sub_mk (⟨⟨_, rfl, ?_⟩, ⟨sx rfl, ⟨sx rfl, ⟨sx rfl, ⟨sx rfl, ⟨sx rfl, trivial⟩⟩⟩⟩⟩⟩) trivial (⟨rfl, trivial⟩)⟩
          all_goals (first | rfl | omega)
      · try simp only [nn, Fd.rows_len, Fm.rows_len, bytesR_len, strR_len, ffR_len, ddR_len] at hc3
        refine awp_exit ?_
        repeat (first | refine thenS_exit ?_ | refine blockS_hit ?_ | refine blockS_miss rfl ?_)
        refine awp_seq ?_
        refine awp_seq (awp_region ?_)
        refine al_pure rfl rfl rfl (pure_move rfl gU) ?_
        refine al_call rfl rfl rfl rfl rfl rfl gU gU (few_spec _) rfl ?_
        refine al_pure rfl rfl rfl (pure_not rfl gU) ?_
        refine al_nil ?_
        refine awp_cond rfl (fun hc5 => ?_) (fun hc5 => ?_)
        · refine awp_seq (awp_region ?_)
          refine al_pure rfl rfl rfl (pure_assign rfl gU) ?_
          refine al_nil ?_
          refine awp_ret ?_
          repeat (first | refine tR ?_ | refine bR ?_)
          refine ret_ok rfl ?_ trivial
          rfl
        · try simp only [nn, Fd.rows_len, Fm.rows_len, bytesR_len, strR_len, ffR_len, ddR_len] at hc5
          have hfw : fewT (bareT shapes shapes.length) = true := by simpa using hc5
          have hff : ∀ i, i < shapes.length → (shapes.getD i []).length ≤ 12 := fun i hi => by
            have := (few_len hfw).2 i (by rw [hbl]; omega)
            rw [show (bareT shapes shapes.length).getD i default = ⟨[], shapes.getD i []⟩ by
              rw [bareT, List.take_length, List.getD_eq_getElem?_getD, List.getElem?_map, List.getElem?_eq_getElem hi, List.getD_eq_getElem?_getD, List.getElem?_eq_getElem hi]; rfl] at this
            exact this
          refine awp_skip ?_
          refine awp_seq (awp_region ?_)
          refine al_pure rfl rfl rfl (pure_move rfl gU) ?_
          refine al_pure rfl rfl rfl (pure_move rfl gU) ?_
          refine al_call rfl rfl rfl rfl rfl rfl gU gU (fGen_spec _ _ hl.1 hff) rfl ?_
          refine al_pure rfl rfl rfl (pure_move rfl gU) ?_
          refine al_pure rfl rfl rfl (pure_extract rfl gU rfl) ?_
          refine al_pure rfl rfl rfl (pure_extract rfl gU rfl) ?_
          refine al_pure rfl rfl rfl (pure_assign rfl gU) ?_
          refine al_pure rfl rfl rfl (pure_assign rfl gU) ?_
          refine al_nil ?_
          refine awp_sub (s := { t := [(0, _, _), (1, _, _), (9, _, _), (10, _, _)], bx := [], ow := [] }) (sub_mk (⟨sx rfl, ⟨sx rfl, ⟨sx rfl, ⟨sx rfl, trivial⟩⟩⟩⟩) trivial trivial) ?_
          refine awp_seq (awp_region ?_)
          refine al_pure rfl rfl rfl (pure_move rfl gU) ?_
          refine al_pure rfl rfl rfl (pure_move rfl gU) ?_
          refine al_call rfl rfl rfl rfl rfl rfl gU gU (rGen_spec _ _ hl.1 hff) rfl ?_
          refine al_pure rfl rfl rfl (pure_move rfl gU) ?_
          refine al_pure rfl rfl rfl (pure_extract rfl gU rfl) ?_
          refine al_pure rfl rfl rfl (pure_extract rfl gU rfl) ?_
          refine al_pure rfl rfl rfl (pure_assign rfl gU) ?_
          refine al_pure rfl rfl rfl (pure_assign rfl gU) ?_
          refine al_nil ?_
          refine awp_sub (s := { t := [(9, _, _), (10, _, _), (11, _, _), (12, _, _)], bx := [], ow := [] }) (sub_mk (⟨sx rfl, ⟨sx rfl, ⟨sx rfl, ⟨sx rfl, trivial⟩⟩⟩⟩) trivial trivial) ?_
          refine awp_seq (awp_region ?_)
          refine al_pure rfl rfl rfl (pure_move rfl gU) ?_
          refine al_pure rfl rfl rfl (pure_move rfl gU) ?_
          refine al_pure rfl rfl rfl (pure_cmp rfl rfl gU gU rfl) ?_
          refine al_pure rfl rfl rfl (pure_move rfl gU) ?_
          refine al_pure rfl rfl rfl (pure_move rfl gU) ?_
          refine al_pure rfl rfl rfl (pure_move rfl gU) ?_
          refine al_call rfl rfl rfl rfl rfl rfl gU (fun hh => gA ((fun hh => hh) hh) (gA ((fun hh => hh) hh) (rfl))) (same_spec _) rfl ?_
          refine al_pure rfl rfl rfl (pure_and rfl rfl gU (fun _ hi => gP rfl hi)) ?_
          refine al_pure rfl rfl rfl (pure_move rfl gU) ?_
          refine al_pure rfl rfl rfl (pure_move rfl gU) ?_
          refine al_pure rfl rfl rfl (pure_cmp rfl rfl (fun hh => hh) gU rfl) ?_
          refine al_pure rfl rfl rfl (pure_move rfl (fun hh => hh)) ?_
          refine al_sub (s := { t := [(9, _, _), (73, _, _), (76, _, _)], bx := [], ow := [] }) (sub_mk (⟨sx rfl, ⟨sx rfl, ⟨sx rfl, trivial⟩⟩⟩) trivial trivial) ?_
          refine al_pure rfl rfl rfl (pure_move rfl gU) ?_
          refine al_call rfl rfl rfl rfl rfl rfl gU (fun hh => gA ((fun hh => hh) hh) (rfl)) (fTagged_spec _) rfl ?_
          refine al_pure rfl rfl rfl (pure_or rfl rfl (fun hh => hh) (fun hh hi => gP hh hi)) ?_
          refine al_pure rfl rfl rfl (pure_and rfl rfl gU (fun _ hi => gP rfl hi)) ?_
          refine al_pure rfl rfl rfl (pure_assign rfl gU) ?_
          refine al_nil ?_
          refine awp_ret ?_
          repeat (first | refine tR ?_ | refine bR ?_)
          refine ret_ok rfl ?_ trivial
          (refine xb_eq ?_; by_cases hz : (genE names shapes).2 = 0; (rw [gen_tagged hz]; simp); (simp [hz]))
end Go.Proofs.YthfoclblmdnckaaDoor
/- From readings to tables, shapes, drafts, strings and numbers; what the package's variables hold. -/
set_option linter.unusedVariables false
set_option linter.unusedSimpArgs false
namespace Go.Proofs.YthfoclblmdnckaaDoor
open Go Go.Abs
theorem plainL : closedB Tryd.prog [3, 4, 9, 24, 47, 45, 53, 5, 43, 44, 56, 51, 22] = true := by kernel_rfl
theorem cellsStr : Tryd.prog.cellsOf 9 = 1 := by kernel_rfl
theorem cellsFl : Tryd.prog.cellsOf 45 = 1 := by kernel_rfl
theorem cellsFm : Tryd.prog.cellsOf 47 = 2 := by kernel_rfl
theorem cellsFd : Tryd.prog.cellsOf 53 = 5 := by kernel_rfl
theorem int_of {n : Nat} {cs : List C} (h : hasTy Tryd.prog n 3 cs) : ∃ m, cs = [.i .i64 m] ∧ (Lit.int .i64 m).wf = true := by
  cases n with
  | zero => exact h.elim
  | succ n => simp only [hasTy, Tryd.underlying3] at h; exact h
theorem str_of {n : Nat} {cs : List C} (h : hasTy Tryd.prog n 9 cs) : ∃ l, cs = [.s l] := by
  cases n with
  | zero => exact h.elim
  | succ n => simp only [hasTy, Tryd.underlying9] at h; exact h
theorem list_of {α : Type} {f : α → List C} {R : List C → Prop} (h : ∀ row, R row → ∃ t : α, row = f t) : ∀ es : List (List C), (∀ row, row ∈ es → R row) → ∃ ts : List α, es = ts.map f
  | [], _ => ⟨[], rfl⟩
  | e :: es, he => by
    obtain ⟨t, ht⟩ := h e (he e (List.mem_cons_self ..))
    obtain ⟨ts, hts⟩ := list_of h es fun row hr => he row (List.mem_cons_of_mem _ hr)
    exact ⟨t :: ts, by rw [List.map_cons, ← hts, ht]⟩
theorem field_of {n : Nat} {cs : List C} (h : hasTy Tryd.prog n 53 cs) : ∃ f : Fd, cs = f.cells := by
  cases n with
  | zero => exact h.elim
  | succ n =>
    simp only [hasTy, Tryd.underlying53, hasFs] at h
    obtain ⟨a, b, rfl, h1, c, d, rfl, h2, e, f, rfl, h3, g, k, rfl, h4, u, v, rfl, h5, rfl⟩ := h
    obtain ⟨m1, rfl, _⟩ := int_of h1
    obtain ⟨m2, rfl⟩ := str_of h2
    obtain ⟨m3, rfl, _⟩ := int_of h3
    obtain ⟨m4, rfl, _⟩ := int_of h4
    obtain ⟨m5, rfl, _⟩ := int_of h5
    exact ⟨⟨m1, m2, m3, m4, m5⟩, rfl⟩
theorem fields_of {n : Nat} {cs : List C} (h : hasTy Tryd.prog n 45 cs) : ∃ l : List Fd, cs = [.sl 5 (Fd.rows l)] := by
  cases n with
  | zero => exact h.elim
  | succ n =>
    simp only [hasTy, Tryd.underlying45, cellsFd] at h
    obtain ⟨es, h1, h5⟩ := h
    obtain ⟨ts, rfl⟩ := list_of (f := Fd.cells) (fun row hr => field_of hr) es h5
    exact ⟨ts, h1⟩
theorem format_of {n : Nat} {cs : List C} (h : hasTy Tryd.prog n 47 cs) : ∃ f : Fm, cs = f.cells := by
  cases n with
  | zero => exact h.elim
  | succ n =>
    simp only [hasTy, Tryd.underlying47, hasFs] at h
    obtain ⟨a, b, rfl, h1, c, d, rfl, h2, rfl⟩ := h
    obtain ⟨m1, rfl⟩ := str_of h1
    obtain ⟨m2, rfl⟩ := fields_of h2
    exact ⟨⟨m1, m2⟩, rfl⟩
theorem table_of {n : Nat} {c : C} (h : hasTy Tryd.prog n 24 [c]) : ∃ t : List Fm, c = .sl 2 (Fm.rows t) := by
  cases n with
  | zero => exact h.elim
  | succ n =>
    simp only [hasTy, Tryd.underlying24, cellsFm] at h
    obtain ⟨es, h1, h5⟩ := h
    obtain ⟨ts, rfl⟩ := list_of (f := Fm.cells) (fun row hr => format_of hr) es h5
    exact ⟨ts, by simp only [List.cons.injEq, and_true] at h1; exact h1⟩
theorem str1_of {n : Nat} {c : C} (h : hasTy Tryd.prog n 9 [c]) : ∃ l, c = .s l := by
  obtain ⟨l, hl⟩ := str_of h
  exact ⟨l, by simpa using hl⟩
theorem int1_of {n : Nat} {c : C} (h : hasTy Tryd.prog n 3 [c]) : ∃ m, c = .i .i64 m := by
  obtain ⟨l, hl, _⟩ := int_of h
  exact ⟨l, by simpa using hl⟩
theorem own : ownKnob Tryd.prog.godebug = none := by kernel_rfl
theorem laidOut : laidOutB Tryd.prog = true := by kernel_rfl
theorem cellsDr : Tryd.prog.cellsOf 56 = 3 := by kernel_rfl
theorem cellsDl : Tryd.prog.cellsOf 51 = 1 := by kernel_rfl
theorem byteD_of {n : Nat} {cs : List C} (h : hasTy Tryd.prog n 5 cs) : ∃ b : UInt8, cs = [.i .u8 (b.toNat : Int)] := by
  cases n with
  | zero => exact h.elim
  | succ n =>
    simp only [hasTy, Tryd.underlying5] at h
    obtain ⟨m, rfl, hm⟩ := h
    have hb : 0 ≤ m ∧ m < 256 := by
      have h1 : IntKind.u8.min = 0 := by kernel_rfl
      have h2 : IntKind.u8.max = 255 := by kernel_rfl
      simp only [Lit.wf, h1, h2, Bool.and_eq_true, decide_eq_true_eq] at hm
      omega
    exact ⟨UInt8.ofNat m.toNat, by rw [UInt8.toNat_ofNat']; congr 2; omega⟩
theorem draft_of {n : Nat} {cs : List C} (h : hasTy Tryd.prog n 56 cs) : ∃ d : Dr, cs = d.cells := by
  cases n with
  | zero => exact h.elim
  | succ n =>
    simp only [hasTy, Tryd.underlying56, hasFs] at h
    obtain ⟨a, b, rfl, h1, c, d, rfl, h2, e, f, rfl, h3, rfl⟩ := h
    obtain ⟨m1, rfl⟩ := byteD_of h1
    obtain ⟨m2, rfl⟩ := byteD_of h2
    obtain ⟨m3, rfl⟩ := byteD_of h3
    exact ⟨⟨m1, m2, m3⟩, rfl⟩
theorem drafts_of {n : Nat} {cs : List C} (h : hasTy Tryd.prog n 51 cs) : ∃ l : List Dr, cs = [.sl 3 (Dr.rows l)] := by
  cases n with
  | zero => exact h.elim
  | succ n =>
    simp only [hasTy, Tryd.underlying51, cellsDr] at h
    obtain ⟨es, h1, h5⟩ := h
    obtain ⟨ts, rfl⟩ := list_of (f := Dr.cells) (fun row hr => draft_of hr) es h5
    exact ⟨ts, h1⟩
theorem dd_of {n : Nat} {c : C} (h : hasTy Tryd.prog n 22 [c]) : ∃ d : List (List Dr), c = .sl 1 (ddR d) := by
  cases n with
  | zero => exact h.elim
  | succ n =>
    simp only [hasTy, Tryd.underlying22, cellsDl] at h
    obtain ⟨es, h1, h5⟩ := h
    obtain ⟨ts, rfl⟩ := list_of (f := fun l => [C.sl 3 (Dr.rows l)]) (fun row hr => drafts_of hr) es h5
    exact ⟨ts, by simp only [List.cons.injEq, and_true] at h1; exact h1⟩
theorem byte1_of {n : Nat} {c : C} (h : hasTy Tryd.prog n 5 [c]) : ∃ b : UInt8, c = .i .u8 (b.toNat : Int) := by
  obtain ⟨b, hb⟩ := byteD_of h
  exact ⟨b, by simpa using hb⟩
theorem strs_of {n : Nat} {c : C} (h : hasTy Tryd.prog n 43 [c]) : ∃ l : List (List UInt8), c = .sl 1 (strR l) := by
  cases n with
  | zero => exact h.elim
  | succ n =>
    simp only [hasTy, Tryd.underlying43, cellsStr] at h
    obtain ⟨es, h1, h5⟩ := h
    obtain ⟨ts, rfl⟩ := list_of (f := fun s : List UInt8 => [C.s s]) (fun row hr => str_of hr) es h5
    exact ⟨ts, by simp only [List.cons.injEq, and_true] at h1; exact h1⟩
theorem shapes_of {n : Nat} {c : C} (h : hasTy Tryd.prog n 44 [c]) : ∃ l : List (List Fd), c = .sl 1 (ffR l) := by
  cases n with
  | zero => exact h.elim
  | succ n =>
    simp only [hasTy, Tryd.underlying44, cellsFl] at h
    obtain ⟨es, h1, h5⟩ := h
    obtain ⟨ts, rfl⟩ := list_of (f := fun l => [C.sl 5 (Fd.rows l)]) (fun row hr => fields_of hr) es h5
    exact ⟨ts, by simp only [List.cons.injEq, and_true] at h1; exact h1⟩
theorem returnsShaped {H : Type} {enc : TypeId × Value → H} {a : Assume} {C : Checked} {os : Os} {f : FuncId} {fn : Func} {s : ChangeSpec} {conds : List PathCond} {apart fresh handsOn again : Bool} {X : World → Array Value → Prop}
    (hX : ∀ (w w' : World) (args : Array Value), w.heap = w'.heap → X w args → X w' args)
    (own : ownKnob C.prog.godebug = none) (started : os.Started) (noInit : C.prog.inits.idxOf? f = none) (hfn : C.prog.funcs[f]? = some fn)
    (witness : ∃ (w : World) (tape : Tape) (i : Input), w.os = os ∧ (w.forCall tape i).Shaped C.prog ∧ i.vars = [] ∧ Input.okWide C.prog (w.forCall tape i) .any w.heap.size f i ∧
      ((s.pre enc C.prog fn conds apart (w.forCall tape i).memory i.args ∧ X (w.forCall tape i).memory i.args) ∧ sizedMet enc C.prog fn (OpenSpec.ofChange s) apart (w.forCall tape i).memory i.args) ∧ a.holds C.prog (lone (Frame.enter C.prog f i.args .normal) [] (w.forCall tape i)))
    (contract : ∀ (W : World) (base : Nat) (args : Array Value) (ds gs : List (DataW H)) (before : List MemPlace),
      (∀ (j : Nat) t v, fn.params[j]? = some t → args[j]? = some v → Value.okWide C.prog W .any base t v) →
      DataW.Whole enc C.prog fn.params.toList s.vars apart W args.toList ds gs before → X W args → W.ShapedOpen C.prog →
      Calls C.prog f args W fun e W' => ∃ v, e = .returned v ∧ s.post enc C.prog fn apart fresh handsOn again W args v W') :
    ReturnsInHanded a C os f .any (fun w args => (s.pre enc C.prog fn conds apart w args ∧ X w args) ∧ sizedMet enc C.prog fn (OpenSpec.ofChange s) apart w args) (s.post enc C.prog fn apart fresh handsOn again) := by
  refine returnsInHanded_of_calls own started noInit witness ?_
  intro w tape i _ hsh _ hok hpre hholds
  obtain ⟨_, _, _, fn', hfn', _, _, _, _, hval⟩ := hok
  have e : fn' = fn := Option.some.inj (hfn'.symm.trans hfn)
  subst e
  obtain ⟨⟨⟨ds, gs, before, hw, hc⟩, hx⟩, hz⟩ := hpre
  have hw' := DataW.Whole.of_heap (w' := w.forCall tape i) (by rfl) hw
  refine (contract (w.forCall tape i) w.heap.size i.args ds gs before hval hw' (hX _ _ _ (by rfl) hx) hsh).mono fun e W' ⟨v, he, hp⟩ => ?_
  subst he
  exact ChangeSpec.post_blind hp
theorem pow_named : Tryd.prog.globalNamed "internal/strconv.uint64pow10" = some 1 := by kernel_rfl
theorem pow_type : (Tryd.prog.globals[1]?).map (·.type) = some 123 := by kernel_rfl
theorem pow_cells : Tryd.prog.cellsOf 123 = 20 := by kernel_rfl
theorem pow_cell : Tryd.prog.cellsOf 108 = 1 := by kernel_rfl
theorem gl_var {W : World} {l : List (String × DataW Unit)} (hl : l = Rows.formatMadeRow.laid) (hL : laidMetH Tryd.prog l W) (h : W.ShapedOpen Tryd.prog) : ∀ g ∈ sys.gv, g.1 < W.heap.size ∧ g.2 W.heap[g.1]? := by
  intro g hg
  have hg : g ∈ ([(0, intAt), (1, rowIs (Lib.pow10Tab.map fun z => Value.int .u64 z).toArray)] : List (Nat × (Option Obj → Prop))) := hg
  rcases List.mem_cons.1 hg with q | q
  · subst q
    obtain ⟨m, hm⟩ : ∃ m, W.cell? ⟨0, 0, none⟩ = some (.int .i64 m) := laysM146.s1_3 W h
    exact ⟨World.block_lt_of_cell? (a := ⟨0, 0, none⟩) W hm, intAt.of hm⟩
  · obtain rfl : g = (1, rowIs (Lib.pow10Tab.map fun z => Value.int .u64 z).toArray) := by simpa using q
    subst hl
    rw [MakeChecks.laidMetH_plain _ _ _ (by kernel_rfl)] at hL
    have ht : Lib.TabIs Tryd.prog W "internal/strconv.uint64pow10" .u64 Lib.pow10Tab :=
      Lib.tabIs_of_head pow_named pow_type Tryd.underlying123 Tryd.underlying108 pow_cell pow_cells (laidMet.tail (laidMet.tail hL))
    unfold Lib.TabIs World.var? at ht
    rw [pow_named] at ht
    have ht : (match W.heap[1]? with | some (Obj.cells cs _ _) => some cs | _ => none) = some (Lib.pow10Tab.map fun z => Value.int .u64 z).toArray := ht
    split at ht
    · rename_i cs t s hc
      simp only [Option.some.injEq] at ht
      subst ht
      exact ⟨(Array.getElem?_eq_some_iff.1 hc).1, t, s, hc⟩
    · cases ht
end Go.Proofs.YthfoclblmdnckaaDoor
