/- The laws on accepted proofs: the contracts. -/
import Derived.Test.YtginljdgdllhfaaLaw56
namespace Go.Proofs.Ytginljdgdllhfaa
open Go Go.Abs
/-- A claim's cells. -/
def claimC (i : Int) (t : T) (p : List T) (r : Bool) : List C := [.i .i64 i, .i .i64 t.kind, .s t.name, .i .i64 t.sort, .sl 4 (T.rows t.kids), .sl 4 (T.rows p), .b r]
theorem few1 (t : T) : Ctr sys 11 [.v (.c (.sl 4 [t.cells]))] [] (xb (fewB [t] 40 300)) none [] := few_specR [t] _ (by rw [T.rows_eq]; rfl)
theorem few2 (a b : T) : Ctr sys 11 [.v (.c (.sl 4 [a.cells, b.cells]))] [] (xb (fewB [a, b] 40 300)) none [] := few_specR [a, b] _ (by rw [T.rows_eq]; rfl)
theorem chkI_sound {l : List T} {n : Int} {t : T} {p : List T} (hn : 0 ≤ n) (hl : n < l.length) (hs : l.length ≤ 32) (h : chkI (headT l) l.length n t p = true) : l[n.toNat]? = some t := by
  unfold chkI at h
  split at h
  · simp at h
  · simp only [Bool.and_eq_true, beq_iff_eq, Int.toNat_natCast] at h
    exact incP_sound 32 l n.toNat t p false hs (by omega) (T.cmp_zero _ _ h.2)
theorem chkE_sound {l : List T} {n : Int} {t : T} {p : List T} (hn : 1 ≤ n) (hl : n ≤ l.length) (hs : l.length ≤ 32) (h : chkE t n (headT l) l.length p = true) : t = headT (l.take n.toNat) := by
  unfold chkE at h
  split at h
  · simp at h
  · simp only [Bool.and_eq_true, beq_iff_eq, Int.toNat_natCast] at h
    have h1 := T.cmp_zero _ _ h.1.2
    have h2 := extP_sound 32 l n.toNat true t p false hs (by omega) (by omega) (T.cmp_zero _ _ h.2)
    rw [← h1, h2]
def incJ (l : List T) (i : Int) (t : T) (c p : List T) (r : Bool) (n : Int) : St := { t := [(0, true, xl l), (3, true, .v (.ptr (.l 3) 0)), (5, true, xi n), (6, true, xl p)], bx := [(.l 3, claimC i t c r)], ow := [] }
theorem LedgerIncluded_spec (l : List T) (i : Int) (t : T) (c : List T) (r : Bool) : Ctr sys 6 [xl l, .v (.agg (claimC i t c r))] [] (xb true) none [] := by
  refine spec_intro Try.func6 rfl rfl rfl rfl rfl rfl ?_
  refine awp_seq ?_
  refine awp_region ?_
  refine al_do rfl (does_box rfl rfl rfl rfl) ?_
  refine al_pure rfl rfl rfl (pure_assign rfl (fun _ => rfl)) ?_
  refine al_nil ?_
  refine awp_seq ?_
  refine awp_seq ?_
  refine awp_region ?_
  refine al_call rfl rfl rfl rfl rfl rfl (fun _ => rfl) (fun _ => rfl) (awake_spec) rfl ?_
  refine al_pure rfl rfl rfl (pure_not rfl (fun _ => rfl)) ?_
  refine al_pure rfl rfl rfl (pure_move rfl (fun _ => rfl)) ?_
  refine al_pure rfl rfl rfl (pure_move rfl (fun _ => rfl)) ?_
  refine al_call rfl rfl rfl rfl rfl rfl (fun _ => rfl) (fun hh => gA ((fun hh => hh) hh) (rfl)) (few_spec l) rfl ?_
  refine al_pure rfl rfl rfl (pure_not rfl (fun hh => hh)) ?_
  refine al_pure rfl rfl rfl (pure_or rfl rfl (fun _ => rfl) (fun _ hi => gP rfl hi)) ?_
  refine al_pure rfl rfl rfl (pure_move rfl (fun _ => rfl)) ?_
  refine al_pure rfl rfl rfl (pure_fieldPtr rfl (fun _ => rfl) rfl rfl) ?_
  refine al_pure rfl rfl rfl (pure_loadBox rfl (fun hh => hh) rfl rfl rfl rfl) ?_
  refine al_call rfl rfl rfl rfl rfl rfl (fun _ => rfl) (fun hh => gA ((fun hh => hh) hh) (rfl)) (few_spec c) rfl ?_
  refine al_pure rfl rfl rfl (pure_not rfl (fun hh => hh)) ?_
  refine al_pure rfl rfl rfl (pure_or rfl rfl (fun _ => rfl) (fun _ hi => gP rfl hi)) ?_
  refine al_pure rfl rfl rfl (pure_move rfl (fun _ => rfl)) ?_
  refine al_pure rfl rfl rfl (pure_fieldPtr rfl (fun _ => rfl) rfl rfl) ?_
  refine al_pure rfl rfl rfl (pure_loadBoxRow rfl (fun hh => hh) rfl rfl rfl rfl rfl) ?_
  refine al_buildSliceG (xs := [_]) rfl rfl rfl rfl rfl rfl rfl rfl rfl (by first | exact fun hh => hh | exact fun _ => rfl | exact fun hh => gL hh | exact fun hh => gL (gL hh) | (intro hh; simp_all)) rfl ?_
  refine al_call rfl rfl rfl rfl rfl rfl (fun _ => rfl) (fun hh => gA ((fun hh => hh) hh) (rfl)) (few1 t) rfl ?_
  refine al_pure rfl rfl rfl (pure_not rfl (fun hh => hh)) ?_
  refine al_pure rfl rfl rfl (pure_or rfl rfl (fun _ => rfl) (fun _ hi => gP rfl hi)) ?_
  refine al_pure rfl rfl rfl (pure_move rfl (fun _ => rfl)) ?_
  refine al_pure rfl rfl rfl (pure_move rfl (fun _ => rfl)) ?_
  refine al_pure rfl rfl rfl (pure_lenSl rfl (fun hh => hh) rfl rfl) ?_
  refine al_pure rfl rfl rfl (pure_cmp rfl rfl (fun hh => hh) (fun _ => rfl) rfl) ?_
  refine al_pure rfl rfl rfl (pure_or rfl rfl (fun _ => rfl) (fun _ hi => gP rfl hi)) ?_
  refine al_pure rfl rfl rfl (pure_move rfl (fun _ => rfl)) ?_
  refine al_pure rfl rfl rfl (pure_move rfl (fun _ => rfl)) ?_
  refine al_pure rfl rfl rfl (pure_lenSl rfl (fun hh => hh) rfl rfl) ?_
  refine al_pure rfl rfl rfl (pure_cmp rfl rfl (fun hh => hh) (fun _ => rfl) rfl) ?_
  refine al_pure rfl rfl rfl (pure_or rfl rfl (fun _ => rfl) (fun _ hi => gP rfl hi)) ?_
  refine al_nil ?_
  refine awp_sub (s := { t := [(0, _, _), (3, _, _), (4, _, _), (38, _, _)], bx := [((.l 3), _)], ow := [] }) (sub_mk (⟨⟨_, rfl, rfl⟩, ⟨⟨_, rfl, rfl⟩, ⟨⟨_, rfl, rfl⟩, ⟨⟨_, rfl, rfl⟩, trivial⟩⟩⟩⟩) (⟨⟨_, rfl, rfl⟩, trivial⟩) trivial) ?_
  refine awp_cond rfl (fun hc => ?_) (fun hc => ?_)
  · refine awp_seq ?_
    refine awp_region ?_
    refine al_call rfl rfl rfl rfl rfl rfl (fun _ => rfl) (fun _ => rfl) (awake_spec) rfl ?_
    refine al_pure rfl rfl rfl (pure_assign rfl (fun _ => rfl)) ?_
    refine al_nil ?_
    refine awp_ret ?_
    repeat (first | refine thenS_ret ?_ | refine blockS_ret ?_)
    refine ret_ok rfl ?_ trivial
    rfl
  · simp only [Bool.or_eq_false_iff, Bool.not_eq_false', beq_eq_false_iff_ne, ne_eq, decide_eq_false_iff_not, T.rows_len] at hc
    obtain ⟨hl1, hl2⟩ := fewB_sizes hc.1.1.1.1.2
    obtain ⟨hc1, hc2⟩ := fewB_sizes hc.1.1.1.2
    have hcm := fewB_mem hc.1.1.1.2
    have htm := fewB_mem hc.1.1.2 t (List.mem_cons_self ..)
    have hhl := headT_size l
    have hrl := T.rows_len l
    have hmn : ∃ n : Nat, min (max i 0) ((l.length : Int) - 1) = n ∧ n < l.length := ⟨(min (max i 0) ((l.length : Int) - 1)).toNat, by omega, by omega⟩
    obtain ⟨n, hn, hnl⟩ := hmn
    obtain ⟨x, hx⟩ : ∃ x, l[n]? = some x := ⟨_, List.getElem?_eq_getElem hnl⟩
    have hxs := size_get l n x hx
    refine awp_skip ?_
    refine awp_seq ?_
    refine awp_region ?_
    refine al_pure rfl rfl rfl (pure_fieldPtr rfl (fun _ => rfl) rfl rfl) ?_
    refine al_pure rfl rfl rfl (pure_loadBox rfl (fun _ => rfl) rfl rfl rfl rfl) ?_
    refine al_pure rfl rfl rfl (pure_max rfl rfl (fun _ => rfl) (fun _ => rfl)) ?_
    refine al_pure rfl rfl rfl (pure_move rfl (fun _ => rfl)) ?_
    refine al_lenSl rfl rfl rfl rfl rfl (fun _ => rfl) rfl rfl ?_ (fun hh => by simp at hh); intro hlen
    refine al_pure rfl rfl rfl (pure_arith rfl rfl (fun _ => rfl) (fun _ => rfl) rfl (IntWalk.i64_in _ (by omega))) ?_
    refine al_pure rfl rfl rfl (pure_min rfl rfl (fun _ => rfl) (fun _ => rfl)) ?_
    refine al_pure rfl rfl rfl (pure_assign rfl (fun _ => rfl)) ?_
    refine al_nil ?_
    refine awp_sub (s := { t := [(0, _, _), (3, _, _), (4, _, _), (5, _, _)], bx := [((.l 3), _)], ow := [] }) (sub_mk (⟨⟨_, rfl, rfl⟩, ⟨⟨_, rfl, rfl⟩, ⟨⟨_, rfl, rfl⟩, ⟨⟨_, rfl, rfl⟩, trivial⟩⟩⟩⟩) (⟨⟨_, rfl, rfl⟩, trivial⟩) trivial) ?_
    refine awp_seq ?_
    refine awp_region ?_
    refine al_pure rfl rfl rfl (pure_fieldPtr rfl (fun _ => rfl) rfl rfl) ?_
    refine al_pure rfl rfl rfl (pure_loadBox rfl (fun _ => rfl) rfl rfl rfl rfl) ?_
    refine al_pure rfl rfl rfl (pure_assign rfl (fun _ => rfl)) ?_
    refine al_nil ?_
    rw [hrl, hn]
    refine awp_cut (incJ l i t c (if (r && ((incE l n).2 == 0)) = true then (incE l n).1 else c) r n) (True) ?_ (fun hj => ?_)
    · refine awp_seq ?_
      refine awp_region ?_
      refine al_pure rfl rfl rfl (pure_move rfl (fun _ => rfl)) ?_
      refine al_pure rfl rfl rfl (pure_move rfl (fun _ => rfl)) ?_
      refine al_call rfl rfl rfl rfl rfl rfl (fun _ => rfl) (fun _ => rfl) (rInclude_spec l n (by omega) (by omega)) rfl ?_
      refine al_pure rfl rfl rfl (pure_move rfl (fun _ => rfl)) ?_
      refine al_pure rfl rfl rfl (pure_extract rfl (fun _ => rfl) rfl) ?_
      refine al_pure rfl rfl rfl (pure_extract rfl (fun _ => rfl) rfl) ?_
      refine al_pure rfl rfl rfl (pure_assign rfl (fun _ => rfl)) ?_
      refine al_pure rfl rfl rfl (pure_assign rfl (fun _ => rfl)) ?_
      refine al_nil ?_
      refine awp_sub (s := { t := [(0, _, _), (3, _, _), (4, _, _), (5, _, _), (6, _, _), (7, _, _), (8, _, _)], bx := [((.l 3), _)], ow := [] }) (sub_mk (⟨⟨_, rfl, rfl⟩, ⟨⟨_, rfl, rfl⟩, ⟨⟨_, rfl, rfl⟩, ⟨⟨_, rfl, rfl⟩, ⟨⟨_, rfl, rfl⟩, ⟨⟨_, rfl, rfl⟩, ⟨⟨_, rfl, rfl⟩, trivial⟩⟩⟩⟩⟩⟩⟩) (⟨⟨_, rfl, rfl⟩, trivial⟩) trivial) ?_
      refine awp_seq ?_
      refine awp_region ?_
      refine al_pure rfl rfl rfl (pure_fieldPtr rfl (fun _ => rfl) rfl rfl) ?_
      refine al_pure rfl rfl rfl (pure_loadBox rfl (fun _ => rfl) rfl rfl rfl rfl) ?_
      refine al_pure rfl rfl rfl (pure_move rfl (fun _ => rfl)) ?_
      refine al_pure rfl rfl rfl (pure_move rfl (fun _ => rfl)) ?_
      refine al_pure rfl rfl rfl (pure_cmp rfl rfl (fun hh => hh) (fun _ => rfl) rfl) ?_
      refine al_pure rfl rfl rfl (pure_and rfl rfl (fun _ => rfl) (fun _ hi => gP rfl hi)) ?_
      refine al_nil ?_
      refine awp_cond rfl (fun hc3 => ?_) (fun hc3 => ?_)
      · refine awp_region ?_
        refine al_pure rfl rfl rfl (pure_move rfl (fun _ => rfl)) ?_
        refine al_pure rfl rfl rfl (pure_assign rfl (fun _ => rfl)) ?_
        refine al_nil ?_
        refine ⟨trivial, sub_mk ⟨⟨_, rfl, rfl⟩, ⟨_, rfl, rfl⟩, ⟨_, rfl, rfl⟩, ⟨_, rfl, by rw [if_pos hc3]⟩, trivial⟩ ⟨⟨_, rfl, rfl⟩, trivial⟩ trivial⟩
      · refine awp_skip ?_
        refine ⟨trivial, sub_mk ⟨⟨_, rfl, rfl⟩, ⟨_, rfl, rfl⟩, ⟨_, rfl, rfl⟩, ⟨_, rfl, by rw [if_neg (by rw [hc3]; simp)]⟩, trivial⟩ ⟨⟨_, rfl, rfl⟩, trivial⟩ trivial⟩
    · have hp : ∀ y ∈ (if (r && ((incE l n).2 == 0)) = true then (incE l n).1 else c), y.size ≤ 10000 := by
        intro y hy
        split at hy
        · have := incE_mem l n y hy; omega
        · have := hcm y hy; omega
      have hpl : (if (r && ((incE l n).2 == 0)) = true then (incE l n).1 else c).length ≤ 1000 := by
        split
        · have := incE_len l n; omega
        · omega
      generalize (if (r && ((incE l n).2 == 0)) = true then (incE l n).1 else c) = p at hp hpl
      refine awp_seq ?_
      refine awp_drawn' (by kernel_rfl) ?_
      refine dr_pure rfl rfl rfl rfl (pure_move rfl (fun _ => rfl)) ?_
      refine dr_callN rfl rfl rfl rfl rfl rfl rfl (fun _ => rfl) (fun _ => rfl) (Of_spec _ l _ rfl (Nat.le_refl _) (by omega)) rfl ?_
      refine dr_pure rfl rfl rfl rfl (pure_move rfl (fun _ => rfl)) ?_
      refine dr_pure rfl rfl rfl rfl (pure_lenSl rfl (fun _ => rfl) rfl rfl) ?_
      refine dr_pure rfl rfl rfl rfl (pure_move rfl (fun _ => rfl)) ?_
      refine dr_pure rfl rfl rfl rfl (pure_fieldPtr rfl (fun _ => rfl) rfl rfl) ?_
      refine dr_loadRow rfl rfl rfl rfl rfl rfl rfl (fun _ => rfl) rfl rfl rfl rfl rfl ?_
      refine dr_pure rfl rfl rfl rfl (pure_move rfl (fun _ => rfl)) ?_
      refine dr_callN rfl rfl rfl rfl rfl rfl rfl (fun _ => rfl) (fun _ => rfl) (Clone_spec p (by omega)) rfl ?_
      rw [hrl]
      refine dr_callN rfl rfl rfl rfl rfl rfl rfl (fun _ => rfl) (fun _ => rfl) (CheckInclude_spec (headT l) l.length n t p (by omega) (by omega) hp) rfl ?_
      refine dr_pure rfl rfl rfl rfl (pure_not rfl (fun _ => rfl)) ?_
      refine dr_pure rfl rfl rfl rfl (pure_move rfl (fun _ => rfl)) ?_
      refine dr_pure rfl rfl rfl rfl (pure_fieldPtr rfl (fun _ => rfl) rfl rfl) ?_
      refine dr_loadRow rfl rfl rfl rfl rfl rfl rfl (fun hh => hh) rfl rfl rfl rfl rfl ?_
      refine dr_pure rfl rfl rfl rfl (pure_move rfl (fun _ => rfl)) ?_
      refine dr_pure rfl rfl rfl rfl (pure_move rfl (fun _ => rfl)) ?_
      refine dr_pure rfl rfl rfl rfl (pure_indexAddr rfl rfl (fun hh => hh) (fun hh => hh) rfl rfl rfl (fun _ => T.rows_get hx)) ?_
      refine dr_pure rfl rfl rfl rfl (pure_loadRoRow rfl (fun hh => hh) rfl rfl rfl rfl) ?_
      refine dr_callN rfl rfl rfl rfl rfl rfl rfl (fun _ => rfl) (fun hh => gA ((fun hh => hh) hh) (gA ((fun hh => hh) hh) (rfl))) (Same_spec t x (by omega) (by omega)) rfl ?_
      refine dr_pure rfl rfl rfl rfl (pure_or rfl rfl (fun _ => rfl) (fun _ hi => gP rfl hi)) ?_
      refine dr_pure rfl rfl rfl rfl (pure_assign rfl (fun _ => rfl)) ?_
      refine dr_nil (by kernel_rfl) ?_
      refine awp_ret ?_
      repeat (first | refine thenS_ret ?_ | refine blockS_ret ?_)
      refine ret_ok rfl ?_ trivial
      refine xb_eq ?_
      cases hk : chkI (headT l) l.length n t p with
      | false => rfl
      | true =>
        have := chkI_sound (by omega) (by omega) (by omega) hk
        rw [Int.toNat_natCast, hx] at this
        simp only [Option.some.injEq] at this
        subst this
        simp [T.cmp_self]
theorem LedgerExtended_spec (l : List T) (i : Int) (t : T) (c : List T) (r : Bool) : Ctr sys 8 [xl l, .v (.agg (claimC i t c r))] [] (xb true) none [] := by
  refine spec_intro Try.func8 rfl rfl rfl rfl rfl rfl ?_
  refine awp_seq ?_
  refine awp_region ?_
  refine al_do rfl (does_box rfl rfl rfl rfl) ?_
  refine al_pure rfl rfl rfl (pure_assign rfl (fun _ => rfl)) ?_
  refine al_nil ?_
  refine awp_seq ?_
  refine awp_seq ?_
  refine awp_region ?_
  refine al_call rfl rfl rfl rfl rfl rfl (fun _ => rfl) (fun _ => rfl) (awake_spec) rfl ?_
  refine al_pure rfl rfl rfl (pure_not rfl (fun _ => rfl)) ?_
  refine al_pure rfl rfl rfl (pure_move rfl (fun _ => rfl)) ?_
  refine al_pure rfl rfl rfl (pure_move rfl (fun _ => rfl)) ?_
  refine al_call rfl rfl rfl rfl rfl rfl (fun _ => rfl) (fun hh => gA ((fun hh => hh) hh) (rfl)) (few_spec l) rfl ?_
  refine al_pure rfl rfl rfl (pure_not rfl (fun hh => hh)) ?_
  refine al_pure rfl rfl rfl (pure_or rfl rfl (fun _ => rfl) (fun _ hi => gP rfl hi)) ?_
  refine al_pure rfl rfl rfl (pure_move rfl (fun _ => rfl)) ?_
  refine al_pure rfl rfl rfl (pure_fieldPtr rfl (fun _ => rfl) rfl rfl) ?_
  refine al_pure rfl rfl rfl (pure_loadBox rfl (fun hh => hh) rfl rfl rfl rfl) ?_
  refine al_call rfl rfl rfl rfl rfl rfl (fun _ => rfl) (fun hh => gA ((fun hh => hh) hh) (rfl)) (few_spec c) rfl ?_
  refine al_pure rfl rfl rfl (pure_not rfl (fun hh => hh)) ?_
  refine al_pure rfl rfl rfl (pure_or rfl rfl (fun _ => rfl) (fun _ hi => gP rfl hi)) ?_
  refine al_pure rfl rfl rfl (pure_move rfl (fun _ => rfl)) ?_
  refine al_pure rfl rfl rfl (pure_fieldPtr rfl (fun _ => rfl) rfl rfl) ?_
  refine al_pure rfl rfl rfl (pure_loadBoxRow rfl (fun hh => hh) rfl rfl rfl rfl rfl) ?_
  refine al_buildSliceG (xs := [_]) rfl rfl rfl rfl rfl rfl rfl rfl rfl (by first | exact fun hh => hh | exact fun _ => rfl | exact fun hh => gL hh | exact fun hh => gL (gL hh) | (intro hh; simp_all)) rfl ?_
  refine al_call rfl rfl rfl rfl rfl rfl (fun _ => rfl) (fun hh => gA ((fun hh => hh) hh) (rfl)) (few1 t) rfl ?_
  refine al_pure rfl rfl rfl (pure_not rfl (fun hh => hh)) ?_
  refine al_pure rfl rfl rfl (pure_or rfl rfl (fun _ => rfl) (fun _ hi => gP rfl hi)) ?_
  refine al_pure rfl rfl rfl (pure_move rfl (fun _ => rfl)) ?_
  refine al_pure rfl rfl rfl (pure_move rfl (fun _ => rfl)) ?_
  refine al_pure rfl rfl rfl (pure_lenSl rfl (fun hh => hh) rfl rfl) ?_
  refine al_pure rfl rfl rfl (pure_cmp rfl rfl (fun hh => hh) (fun _ => rfl) rfl) ?_
  refine al_pure rfl rfl rfl (pure_or rfl rfl (fun _ => rfl) (fun _ hi => gP rfl hi)) ?_
  refine al_pure rfl rfl rfl (pure_move rfl (fun _ => rfl)) ?_
  refine al_pure rfl rfl rfl (pure_move rfl (fun _ => rfl)) ?_
  refine al_pure rfl rfl rfl (pure_lenSl rfl (fun hh => hh) rfl rfl) ?_
  refine al_pure rfl rfl rfl (pure_cmp rfl rfl (fun hh => hh) (fun _ => rfl) rfl) ?_
  refine al_pure rfl rfl rfl (pure_or rfl rfl (fun _ => rfl) (fun _ hi => gP rfl hi)) ?_
  refine al_nil ?_
  refine awp_sub (s := { t := [(0, _, _), (3, _, _), (4, _, _), (38, _, _)], bx := [((.l 3), _)], ow := [] }) (sub_mk (⟨⟨_, rfl, rfl⟩, ⟨⟨_, rfl, rfl⟩, ⟨⟨_, rfl, rfl⟩, ⟨⟨_, rfl, rfl⟩, trivial⟩⟩⟩⟩) (⟨⟨_, rfl, rfl⟩, trivial⟩) trivial) ?_
  refine awp_cond rfl (fun hc => ?_) (fun hc => ?_)
  · refine awp_seq ?_
    refine awp_region ?_
    refine al_call rfl rfl rfl rfl rfl rfl (fun _ => rfl) (fun _ => rfl) (awake_spec) rfl ?_
    refine al_pure rfl rfl rfl (pure_assign rfl (fun _ => rfl)) ?_
    refine al_nil ?_
    refine awp_ret ?_
    repeat (first | refine thenS_ret ?_ | refine blockS_ret ?_)
    refine ret_ok rfl ?_ trivial
    rfl
  · simp only [Bool.or_eq_false_iff, Bool.not_eq_false', beq_eq_false_iff_ne, ne_eq, decide_eq_false_iff_not, T.rows_len] at hc
    obtain ⟨hl1, hl2⟩ := fewB_sizes hc.1.1.1.1.2
    obtain ⟨hc1, hc2⟩ := fewB_sizes hc.1.1.1.2
    have hcm := fewB_mem hc.1.1.1.2
    have htm := fewB_mem hc.1.1.2 t (List.mem_cons_self ..)
    have hhl := headT_size l
    have hrl := T.rows_len l
    have hmn : ∃ n : Nat, min (max i 1) (l.length : Int) = n ∧ 1 ≤ n ∧ n ≤ l.length := ⟨(min (max i 1) (l.length : Int)).toNat, by omega, by omega, by omega⟩
    obtain ⟨n, hn, hn1, hnl⟩ := hmn
    have hht := headT_size (l.take n)
    have hsp := sizes_split l n
    rw [List.length_take] at hht
    refine awp_skip ?_
    refine awp_seq ?_
    refine awp_region ?_
    refine al_pure rfl rfl rfl (pure_fieldPtr rfl (fun _ => rfl) rfl rfl) ?_
    refine al_pure rfl rfl rfl (pure_loadBox rfl (fun _ => rfl) rfl rfl rfl rfl) ?_
    refine al_pure rfl rfl rfl (pure_max rfl rfl (fun _ => rfl) (fun _ => rfl)) ?_
    refine al_pure rfl rfl rfl (pure_move rfl (fun _ => rfl)) ?_
    refine al_lenSl rfl rfl rfl rfl rfl (fun _ => rfl) rfl rfl ?_ (fun hh => by simp at hh); intro hlen
    refine al_pure rfl rfl rfl (pure_min rfl rfl (fun _ => rfl) (fun _ => rfl)) ?_
    refine al_pure rfl rfl rfl (pure_assign rfl (fun _ => rfl)) ?_
    refine al_nil ?_
    refine awp_seq ?_
    refine awp_region ?_
    refine al_pure rfl rfl rfl (pure_fieldPtr rfl (fun _ => rfl) rfl rfl) ?_
    refine al_pure rfl rfl rfl (pure_loadBox rfl (fun _ => rfl) rfl rfl rfl rfl) ?_
    refine al_pure rfl rfl rfl (pure_assign rfl (fun _ => rfl)) ?_
    refine al_nil ?_
    refine awp_sub (s := { t := [(0, _, _), (3, _, _), (4, _, _), (5, _, _), (6, _, _)], bx := [((.l 3), _)], ow := [] }) (sub_mk (⟨⟨_, rfl, rfl⟩, ⟨⟨_, rfl, rfl⟩, ⟨⟨_, rfl, rfl⟩, ⟨⟨_, rfl, rfl⟩, ⟨⟨_, rfl, rfl⟩, trivial⟩⟩⟩⟩⟩) (⟨⟨_, rfl, rfl⟩, trivial⟩) trivial) ?_
    rw [hrl, hn]
    refine awp_cut (incJ l i t c (if (r && ((extE l n).2 == 0)) = true then (extE l n).1 else c) r n) (True) ?_ (fun hj => ?_)
    · refine awp_seq ?_
      refine awp_region ?_
      refine al_pure rfl rfl rfl (pure_move rfl (fun _ => rfl)) ?_
      refine al_pure rfl rfl rfl (pure_move rfl (fun _ => rfl)) ?_
      refine al_call rfl rfl rfl rfl rfl rfl (fun _ => rfl) (fun _ => rfl) (rExtend_spec l n (by omega) (by omega)) rfl ?_
      refine al_pure rfl rfl rfl (pure_move rfl (fun _ => rfl)) ?_
      refine al_pure rfl rfl rfl (pure_extract rfl (fun _ => rfl) rfl) ?_
      refine al_pure rfl rfl rfl (pure_extract rfl (fun _ => rfl) rfl) ?_
      refine al_pure rfl rfl rfl (pure_assign rfl (fun _ => rfl)) ?_
      refine al_pure rfl rfl rfl (pure_assign rfl (fun _ => rfl)) ?_
      refine al_nil ?_
      refine awp_sub (s := { t := [(0, _, _), (3, _, _), (4, _, _), (5, _, _), (6, _, _), (7, _, _), (8, _, _)], bx := [((.l 3), _)], ow := [] }) (sub_mk (⟨⟨_, rfl, rfl⟩, ⟨⟨_, rfl, rfl⟩, ⟨⟨_, rfl, rfl⟩, ⟨⟨_, rfl, rfl⟩, ⟨⟨_, rfl, rfl⟩, ⟨⟨_, rfl, rfl⟩, ⟨⟨_, rfl, rfl⟩, trivial⟩⟩⟩⟩⟩⟩⟩) (⟨⟨_, rfl, rfl⟩, trivial⟩) trivial) ?_
      refine awp_seq ?_
      refine awp_region ?_
      refine al_pure rfl rfl rfl (pure_fieldPtr rfl (fun _ => rfl) rfl rfl) ?_
      refine al_pure rfl rfl rfl (pure_loadBox rfl (fun _ => rfl) rfl rfl rfl rfl) ?_
      refine al_pure rfl rfl rfl (pure_move rfl (fun _ => rfl)) ?_
      refine al_pure rfl rfl rfl (pure_move rfl (fun _ => rfl)) ?_
      refine al_pure rfl rfl rfl (pure_cmp rfl rfl (fun hh => hh) (fun _ => rfl) rfl) ?_
      refine al_pure rfl rfl rfl (pure_and rfl rfl (fun _ => rfl) (fun _ hi => gP rfl hi)) ?_
      refine al_nil ?_
      refine awp_cond rfl (fun hc3 => ?_) (fun hc3 => ?_)
      · refine awp_region ?_
        refine al_pure rfl rfl rfl (pure_move rfl (fun _ => rfl)) ?_
        refine al_pure rfl rfl rfl (pure_assign rfl (fun _ => rfl)) ?_
        refine al_nil ?_
        refine ⟨trivial, sub_mk ⟨⟨_, rfl, rfl⟩, ⟨_, rfl, rfl⟩, ⟨_, rfl, rfl⟩, ⟨_, rfl, by rw [if_pos hc3]⟩, trivial⟩ ⟨⟨_, rfl, rfl⟩, trivial⟩ trivial⟩
      · refine awp_skip ?_
        refine ⟨trivial, sub_mk ⟨⟨_, rfl, rfl⟩, ⟨_, rfl, rfl⟩, ⟨_, rfl, rfl⟩, ⟨_, rfl, by rw [if_neg (by rw [hc3]; simp)]⟩, trivial⟩ ⟨⟨_, rfl, rfl⟩, trivial⟩ trivial⟩
    · have hp : ∀ y ∈ (if (r && ((extE l n).2 == 0)) = true then (extE l n).1 else c), y.size ≤ 10000 := by
        intro y hy
        split at hy
        · have := extE_mem l n y hy; omega
        · have := hcm y hy; omega
      have hpl : (if (r && ((extE l n).2 == 0)) = true then (extE l n).1 else c).length ≤ 1000 := by
        split
        · have := extE_len l n; omega
        · omega
      generalize (if (r && ((extE l n).2 == 0)) = true then (extE l n).1 else c) = p at hp hpl
      refine awp_seq ?_
      refine awp_drawn' (by kernel_rfl) ?_
      refine dr_pure rfl rfl rfl rfl (pure_fieldPtr rfl (fun _ => rfl) rfl rfl) ?_
      refine dr_loadRow rfl rfl rfl rfl rfl rfl rfl (fun _ => rfl) rfl rfl rfl rfl rfl ?_
      refine dr_pure rfl rfl rfl rfl (pure_move rfl (fun _ => rfl)) ?_
      refine dr_pure rfl rfl rfl rfl (pure_move rfl (fun _ => rfl)) ?_
      refine dr_callN rfl rfl rfl rfl rfl rfl rfl (fun _ => rfl) (fun _ => rfl) (Of_spec _ l _ rfl (Nat.le_refl _) (by omega)) rfl ?_
      refine dr_pure rfl rfl rfl rfl (pure_move rfl (fun _ => rfl)) ?_
      refine dr_pure rfl rfl rfl rfl (pure_lenSl rfl (fun _ => rfl) rfl rfl) ?_
      refine dr_pure rfl rfl rfl rfl (pure_move rfl (fun _ => rfl)) ?_
      refine dr_callN rfl rfl rfl rfl rfl rfl rfl (fun _ => rfl) (fun _ => rfl) (Clone_spec p (by omega)) rfl ?_
      rw [hrl]
      refine dr_callN rfl rfl rfl rfl rfl rfl rfl (fun _ => rfl) (fun _ => rfl) (CheckExtend_spec t n (headT l) l.length p (by omega) (by omega) hp) rfl ?_
      refine dr_pure rfl rfl rfl rfl (pure_not rfl (fun _ => rfl)) ?_
      refine dr_pure rfl rfl rfl rfl (pure_move rfl (fun _ => rfl)) ?_
      refine dr_pure rfl rfl rfl rfl (pure_fieldPtr rfl (fun _ => rfl) rfl rfl) ?_
      refine dr_loadRow rfl rfl rfl rfl rfl rfl rfl (fun hh => hh) rfl rfl rfl rfl rfl ?_
      refine dr_pure rfl rfl rfl rfl (pure_move rfl (fun _ => rfl)) ?_
      refine dr_pure rfl rfl rfl rfl (pure_move rfl (fun _ => rfl)) ?_
      refine dr_pure rfl rfl rfl rfl (pure_slice rfl (by first | exact fun hh => hh | exact fun _ => rfl | exact fun hh => gL hh | exact fun hh => gL (gL hh) | (intro hh; simp_all)) rfl rfl (fun _ => rfl) (fun _ => ⟨_, _, _, rfl, (by first | exact fun hh => hh | exact fun _ => rfl | exact fun hh => gL hh | exact fun hh => gL (gL hh) | (intro hh; simp_all)), rfl⟩) (fun _ => by omega) (fun _ => by omega)) ?_
      refine dr_callN rfl rfl rfl rfl rfl rfl rfl (fun _ => rfl) (fun hh => gA ((fun hh => hh) hh) (rfl)) (Of_spec _ (l.take n) _ (by rw [rows_part]; rfl) (Nat.le_refl _) (by rw [List.length_take]; omega)) rfl ?_
      refine dr_callN rfl rfl rfl rfl rfl rfl rfl (fun _ => rfl) (fun hh => gA ((fun hh => hh) hh) (gA ((fun hh => hh) hh) (rfl))) (Same_spec t (headT (l.take n)) (by omega) (by omega)) rfl ?_
      refine dr_pure rfl rfl rfl rfl (pure_or rfl rfl (fun _ => rfl) (fun _ hi => gP rfl hi)) ?_
      refine dr_pure rfl rfl rfl rfl (pure_assign rfl (fun _ => rfl)) ?_
      refine dr_nil (by kernel_rfl) ?_
      refine awp_ret ?_
      repeat (first | refine thenS_ret ?_ | refine blockS_ret ?_)
      refine ret_ok rfl ?_ trivial
      refine xb_eq ?_
      cases hk : chkE t n (headT l) l.length p with
      | false => rfl
      | true =>
        have := chkE_sound (by omega) (by omega) (by omega) hk
        rw [Int.toNat_natCast] at this
        rw [this, T.cmp_self]
        simp
/-- A question's cells. -/
def checkC (h o : T) (n i : Int) (p : List T) : List C := h.cells ++ (o.cells ++ [.i .i64 n, .i .i64 i, .sl 4 (T.rows p)])
theorem LedgerChecks_spec (h o : T) (n i : Int) (p : List T) : Ctr sys 9 [.v (.agg (checkC h o n i p))] [] (xb true) none [] := by
  refine spec_intro Try.func9 rfl rfl rfl rfl rfl rfl ?_
  refine awp_seq ?_
  refine awp_region ?_
  refine al_do rfl (does_box rfl rfl rfl rfl) ?_
  refine al_pure rfl rfl rfl (pure_assign rfl (fun _ => rfl)) ?_
  refine al_nil ?_
  refine awp_seq ?_
  refine awp_seq ?_
  refine awp_region ?_
  refine al_call rfl rfl rfl rfl rfl rfl (fun _ => rfl) (fun _ => rfl) (awake_spec) rfl ?_
  refine al_pure rfl rfl rfl (pure_not rfl (fun _ => rfl)) ?_
  refine al_pure rfl rfl rfl (pure_move rfl (fun _ => rfl)) ?_
  refine al_pure rfl rfl rfl (pure_fieldPtr rfl (fun _ => rfl) rfl rfl) ?_
  refine al_pure rfl rfl rfl (pure_loadBox rfl (fun hh => hh) rfl rfl rfl rfl) ?_
  refine al_call rfl rfl rfl rfl rfl rfl (fun _ => rfl) (fun hh => gA ((fun hh => hh) hh) (rfl)) (few_spec p) rfl ?_
  refine al_pure rfl rfl rfl (pure_not rfl (fun hh => hh)) ?_
  refine al_pure rfl rfl rfl (pure_or rfl rfl (fun _ => rfl) (fun _ hi => gP rfl hi)) ?_
  refine al_pure rfl rfl rfl (pure_move rfl (fun _ => rfl)) ?_
  refine al_pure rfl rfl rfl (pure_fieldPtr rfl (fun _ => rfl) rfl rfl) ?_
  refine al_pure rfl rfl rfl (pure_loadBoxRow rfl (fun hh => hh) rfl rfl rfl rfl rfl) ?_
  refine al_pure rfl rfl rfl (pure_fieldPtr rfl (fun _ => rfl) rfl rfl) ?_
  refine al_pure rfl rfl rfl (pure_loadBoxRow rfl (fun hh => hh) rfl rfl rfl rfl rfl) ?_
  refine al_buildSliceG (xs := [_, _]) rfl rfl rfl rfl rfl rfl rfl rfl rfl (by first | exact fun hh => hh | exact fun _ => rfl | exact fun hh => gL hh | exact fun hh => gL (gL hh) | (intro hh; simp_all)) rfl ?_
  refine al_call rfl rfl rfl rfl rfl rfl (fun _ => rfl) (fun hh => gA ((fun hh => hh) hh) (rfl)) (few2 h o) rfl ?_
  refine al_pure rfl rfl rfl (pure_not rfl (fun hh => hh)) ?_
  refine al_pure rfl rfl rfl (pure_or rfl rfl (fun _ => rfl) (fun _ hi => gP rfl hi)) ?_
  refine al_nil ?_
  refine awp_sub (s := { t := [(1, _, _), (2, _, _), (19, _, _)], bx := [((.l 1), _)], ow := [] }) (sub_mk (⟨⟨_, rfl, rfl⟩, ⟨⟨_, rfl, rfl⟩, ⟨⟨_, rfl, rfl⟩, trivial⟩⟩⟩) (⟨⟨_, rfl, rfl⟩, trivial⟩) trivial) ?_
  refine awp_cond rfl (fun hc => ?_) (fun hc => ?_)
  · refine awp_seq ?_
    refine awp_region ?_
    refine al_call rfl rfl rfl rfl rfl rfl (fun _ => rfl) (fun _ => rfl) (awake_spec) rfl ?_
    refine al_pure rfl rfl rfl (pure_assign rfl (fun _ => rfl)) ?_
    refine al_nil ?_
    refine awp_ret ?_
    repeat (first | refine thenS_ret ?_ | refine blockS_ret ?_)
    refine ret_ok rfl ?_ trivial
    rfl
  · simp only [Bool.or_eq_false_iff, Bool.not_eq_false'] at hc
    obtain ⟨hc1, hc2⟩ := fewB_sizes hc.1.2
    have hcm := fewB_mem hc.1.2
    have hhm := fewB_mem hc.2 h (List.mem_cons_self ..)
    have hom := fewB_mem hc.2 o (List.mem_cons_of_mem _ (List.mem_cons_self ..))
    have hp : ∀ y ∈ p, y.size ≤ 10000 := fun y hy => by have := hcm y hy; omega
    refine awp_skip ?_
    refine awp_seq ?_
    refine awp_drawn' (by kernel_rfl) ?_
    refine dr_pure rfl rfl rfl rfl (pure_fieldPtr rfl (fun _ => rfl) rfl rfl) ?_
    refine dr_loadRow rfl rfl rfl rfl rfl rfl rfl (fun _ => rfl) rfl rfl rfl rfl rfl ?_
    refine dr_pure rfl rfl rfl rfl (pure_fieldPtr rfl (fun _ => rfl) rfl rfl) ?_
    refine dr_load rfl rfl rfl rfl rfl rfl rfl (fun _ => rfl) rfl rfl rfl rfl ?_
    refine dr_pure rfl rfl rfl rfl (pure_fieldPtr rfl (fun _ => rfl) rfl rfl) ?_
    refine dr_load rfl rfl rfl rfl rfl rfl rfl (fun _ => rfl) rfl rfl rfl rfl ?_
    refine dr_pure rfl rfl rfl rfl (pure_fieldPtr rfl (fun _ => rfl) rfl rfl) ?_
    refine dr_loadRow rfl rfl rfl rfl rfl rfl rfl (fun _ => rfl) rfl rfl rfl rfl rfl ?_
    refine dr_pure rfl rfl rfl rfl (pure_fieldPtr rfl (fun _ => rfl) rfl rfl) ?_
    refine dr_load rfl rfl rfl rfl rfl rfl rfl (fun _ => rfl) rfl rfl rfl rfl ?_
    refine dr_callN rfl rfl rfl rfl rfl rfl rfl (fun _ => rfl) (fun _ => rfl) (Clone_spec p (by omega)) rfl ?_
    refine dr_callN rfl rfl rfl rfl rfl rfl rfl (fun _ => rfl) (fun _ => rfl) (CheckInclude_spec h n i o p (by omega) (by omega) hp) rfl ?_
    refine dr_pure rfl rfl rfl rfl (pure_fieldPtr rfl (fun _ => rfl) rfl rfl) ?_
    refine dr_loadRow rfl rfl rfl rfl rfl rfl rfl (fun _ => rfl) rfl rfl rfl rfl rfl ?_
    refine dr_pure rfl rfl rfl rfl (pure_fieldPtr rfl (fun _ => rfl) rfl rfl) ?_
    refine dr_load rfl rfl rfl rfl rfl rfl rfl (fun _ => rfl) rfl rfl rfl rfl ?_
    refine dr_pure rfl rfl rfl rfl (pure_fieldPtr rfl (fun _ => rfl) rfl rfl) ?_
    refine dr_load rfl rfl rfl rfl rfl rfl rfl (fun _ => rfl) rfl rfl rfl rfl ?_
    refine dr_pure rfl rfl rfl rfl (pure_fieldPtr rfl (fun _ => rfl) rfl rfl) ?_
    refine dr_loadRow rfl rfl rfl rfl rfl rfl rfl (fun _ => rfl) rfl rfl rfl rfl rfl ?_
    refine dr_pure rfl rfl rfl rfl (pure_fieldPtr rfl (fun _ => rfl) rfl rfl) ?_
    refine dr_load rfl rfl rfl rfl rfl rfl rfl (fun _ => rfl) rfl rfl rfl rfl ?_
    refine dr_callN rfl rfl rfl rfl rfl rfl rfl (fun _ => rfl) (fun _ => rfl) (rCheckInclude_spec h n i o p (by omega) (by omega) hp) rfl ?_
    refine dr_pure rfl rfl rfl rfl (pure_eqBool rfl rfl (fun _ => rfl) (fun _ => rfl) (Try.underlying4)) ?_
    refine dr_pure rfl rfl rfl rfl (pure_move rfl (fun _ => rfl)) ?_
    refine dr_pure rfl rfl rfl rfl (pure_fieldPtr rfl (fun _ => rfl) rfl rfl) ?_
    refine dr_loadRow rfl rfl rfl rfl rfl rfl rfl (fun hh => hh) rfl rfl rfl rfl rfl ?_
    refine dr_pure rfl rfl rfl rfl (pure_fieldPtr rfl (fun _ => rfl) rfl rfl) ?_
    refine dr_load rfl rfl rfl rfl rfl rfl rfl (fun hh => hh) rfl rfl rfl rfl ?_
    refine dr_pure rfl rfl rfl rfl (pure_fieldPtr rfl (fun _ => rfl) rfl rfl) ?_
    refine dr_loadRow rfl rfl rfl rfl rfl rfl rfl (fun hh => hh) rfl rfl rfl rfl rfl ?_
    refine dr_pure rfl rfl rfl rfl (pure_fieldPtr rfl (fun _ => rfl) rfl rfl) ?_
    refine dr_load rfl rfl rfl rfl rfl rfl rfl (fun hh => hh) rfl rfl rfl rfl ?_
    refine dr_pure rfl rfl rfl rfl (pure_fieldPtr rfl (fun _ => rfl) rfl rfl) ?_
    refine dr_load rfl rfl rfl rfl rfl rfl rfl (fun hh => hh) rfl rfl rfl rfl ?_
    refine dr_callN rfl rfl rfl rfl rfl rfl rfl (fun _ => rfl) (fun hh => gA ((fun hh => hh) hh) (rfl)) (Clone_spec p (by omega)) rfl ?_
    refine dr_callN rfl rfl rfl rfl rfl rfl rfl (fun _ => rfl) (fun hh => gA ((fun hh => hh) hh) (gA ((fun hh => hh) hh) (gA ((fun hh => hh) hh) (gA ((fun hh => hh) hh) (gA ((fun hh => hh) hh) (rfl)))))) (CheckExtend_spec o i h n p (by omega) (by omega) hp) rfl ?_
    refine dr_pure rfl rfl rfl rfl (pure_fieldPtr rfl (fun _ => rfl) rfl rfl) ?_
    refine dr_loadRow rfl rfl rfl rfl rfl rfl rfl (fun hh => hh) rfl rfl rfl rfl rfl ?_
    refine dr_pure rfl rfl rfl rfl (pure_fieldPtr rfl (fun _ => rfl) rfl rfl) ?_
    refine dr_load rfl rfl rfl rfl rfl rfl rfl (fun hh => hh) rfl rfl rfl rfl ?_
    refine dr_pure rfl rfl rfl rfl (pure_fieldPtr rfl (fun _ => rfl) rfl rfl) ?_
    refine dr_loadRow rfl rfl rfl rfl rfl rfl rfl (fun hh => hh) rfl rfl rfl rfl rfl ?_
    refine dr_pure rfl rfl rfl rfl (pure_fieldPtr rfl (fun _ => rfl) rfl rfl) ?_
    refine dr_load rfl rfl rfl rfl rfl rfl rfl (fun hh => hh) rfl rfl rfl rfl ?_
    refine dr_pure rfl rfl rfl rfl (pure_fieldPtr rfl (fun _ => rfl) rfl rfl) ?_
    refine dr_load rfl rfl rfl rfl rfl rfl rfl (fun hh => hh) rfl rfl rfl rfl ?_
    refine dr_callN rfl rfl rfl rfl rfl rfl rfl (fun _ => rfl) (fun hh => gA ((fun hh => hh) hh) (gA ((fun hh => hh) hh) (gA ((fun hh => hh) hh) (gA ((fun hh => hh) hh) (gA ((fun hh => hh) hh) (rfl)))))) (rCheckExtend_spec o i h n p (by omega) (by omega) hp) rfl ?_
    refine dr_pure rfl rfl rfl rfl (pure_eqBool rfl rfl (fun hh => hh) (fun hh => hh) (Try.underlying4)) ?_
    refine dr_pure rfl rfl rfl rfl (pure_and rfl rfl (fun _ => rfl) (fun _ hi => gP rfl hi)) ?_
    refine dr_pure rfl rfl rfl rfl (pure_assign rfl (fun _ => rfl)) ?_
    refine dr_nil (by kernel_rfl) ?_
    refine awp_ret ?_
    repeat (first | refine thenS_ret ?_ | refine blockS_ret ?_)
    refine ret_ok rfl ?_ trivial
    refine xb_eq ?_
    simp
end Go.Proofs.Ytginljdgdllhfaa
