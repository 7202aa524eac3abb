/- Contracts: forks of signed heads, and the law on them. -/
import Derived.Test.YtginljdgdllhfaaDoorForks
set_option linter.unusedVariables false
set_option linter.unusedSimpArgs false
namespace Go.Proofs.YtginljdgdllhfaaDoor
open Go Go.Abs
def isB (t : T) (name : List UInt8) : Bool := t.kind == 3 && t.name == name && (t.kids.length : Int) == 2
theorem is_spec (t : T) (name : List UInt8) : Ctr sys 42 [xt t, xs name] [] (xb (isB t name)) none [] := by
  refine spec_intro Tryd.func42 rfl rfl rfl rfl rfl rfl ?_
  refine awp_seq ?_
  refine awp_region ?_
  refine al_do rfl (does_box rfl rfl rfl rfl) ?_
  refine al_pure rfl rfl rfl (pure_assign rfl (fun _ => rfl)) ?_
  refine al_nil ?_
  refine awp_seq ?_
  refine awp_region ?_
  refine al_pure rfl rfl rfl (pure_fieldPtr rfl (fun _ => rfl) rfl rfl) ?_
  refine al_pure rfl rfl rfl (pure_loadBox rfl (fun _ => rfl) rfl rfl rfl rfl) ?_
  refine al_pure rfl rfl rfl (pure_cmp rfl rfl (fun _ => rfl) (fun _ => rfl) rfl) ?_
  refine al_pure rfl rfl rfl (pure_move rfl (fun _ => rfl)) ?_
  refine al_pure rfl rfl rfl (pure_fieldPtr rfl (fun _ => rfl) rfl rfl) ?_
  refine al_pure rfl rfl rfl (pure_loadBox rfl (fun hh => hh) rfl rfl rfl rfl) ?_
  refine al_pure rfl rfl rfl (pure_move rfl (fun _ => rfl)) ?_
  refine al_pure rfl rfl rfl (pure_cmpS rfl rfl (fun hh => hh) (fun hh => hh) rfl) ?_
  refine al_pure rfl rfl rfl (pure_and rfl rfl (fun _ => rfl) (fun _ hi => gP rfl hi)) ?_
  refine al_pure rfl rfl rfl (pure_move rfl (fun _ => rfl)) ?_
  refine al_pure rfl rfl rfl (pure_fieldPtr rfl (fun _ => rfl) rfl rfl) ?_
  refine al_pure rfl rfl rfl (pure_loadBox rfl (fun hh => hh) rfl rfl rfl rfl) ?_
  refine al_pure rfl rfl rfl (pure_lenSl rfl (fun hh => hh) rfl rfl) ?_
  refine al_pure rfl rfl rfl (pure_cmp rfl rfl (fun hh => hh) (fun _ => rfl) rfl) ?_
  refine al_pure rfl rfl rfl (pure_and rfl rfl (fun _ => rfl) (fun _ hi => gP rfl hi)) ?_
  refine al_pure rfl rfl rfl (pure_assign rfl (fun _ => rfl)) ?_
  refine al_nil ?_
  refine awp_ret ?_
  repeat (first | refine thenS_ret ?_ | refine blockS_ret ?_)
  refine ret_ok rfl ?_ trivial
  refine xb_eq ?_
  rw [T.rows_len, isB]
theorem is_true (t : T) (name : List UInt8) (h : isB t name = true) : Ctr sys 42 [xt t, xs name] [] (xb true) none [] := by
  rw [← h]; exact is_spec t name
theorem same_self (t : T) (ht : t.size ≤ 1000000) : Ctr sys 27 [xt t, xt t] [] (xb true) none [] := by
  have := same_spec t t ht ht
  rw [T.cmp_self] at this
  exact this
theorem signed_spec (n : Nat) (h key : T) (hk : key.size ≤ 400000) : Ctr sys 26 [xt (signT (szT n) h key), xt key] [] (.tup [.agg (szT n).cells, .agg h.cells, .c (.b true)]) none [] := by
  have h1 := is_true (signT (szT n) h key) sSign rfl
  have h2 := is_true (T.app sPair [T.atom sLedger 5, T.app sPair [szT n, h]]) sPair rfl
  have h3 := is_true (T.app sPair [szT n, h]) sPair rfl
  have h4 := same_self (T.atom sLedger 5) (by decide)
  refine spec_intro Tryd.func26 rfl rfl rfl rfl rfl rfl ?_
  refine awp_seq ?_
  refine awp_region ?_
  refine al_do rfl (does_box rfl rfl rfl rfl) ?_
  refine al_do rfl (does_box rfl rfl rfl rfl) ?_
  refine al_do rfl (does_alloc rfl rfl rfl) ?_
  refine al_do rfl (does_alloc rfl rfl rfl) ?_
  refine al_pure rfl rfl rfl (pure_assign rfl (fun _ => rfl)) ?_
  refine al_nil ?_
  refine awp_seq ?_
  refine awp_seq ?_
  refine awp_drawn' (by kernel_rfl) ?_
  refine dr_loadRow rfl rfl rfl rfl rfl rfl rfl (fun _ => rfl) rfl rfl rfl rfl rfl ?_
  refine dr_callN rfl rfl rfl rfl rfl rfl rfl (fun _ => rfl) (fun _ => rfl) (h1) rfl ?_
  refine dr_pure rfl rfl rfl rfl (pure_not rfl (fun _ => rfl)) ?_
  refine dr_pure rfl rfl rfl rfl (pure_move rfl (fun _ => rfl)) ?_
  refine dr_pure rfl rfl rfl rfl (pure_fieldPtr rfl (fun _ => rfl) rfl rfl) ?_
  refine dr_load rfl rfl rfl rfl rfl rfl rfl (fun hh => hh) rfl rfl rfl rfl ?_
  refine dr_pure rfl rfl rfl rfl (pure_indexAddr rfl rfl (fun hh => hh) (fun _ => rfl) rfl rfl rfl (fun _ => T.rows_get (ts := [T.app sPair [T.atom sLedger 5, T.app sPair [szT n, h]], key]) (k := 1) rfl)) ?_
  refine dr_pure rfl rfl rfl rfl (pure_loadRoRow rfl (fun hh => hh) rfl rfl rfl rfl) ?_
  refine dr_loadRow rfl rfl rfl rfl rfl rfl rfl (fun _ => rfl) rfl rfl rfl rfl rfl ?_
  refine dr_callN rfl rfl rfl rfl rfl rfl rfl (fun _ => rfl) (fun hh => gA ((fun hh => hh) hh) (gA ((fun hh => hh) hh) (rfl))) (same_self key (by omega)) rfl ?_
  refine dr_pure rfl rfl rfl rfl (pure_not rfl (fun hh => hh)) ?_
  refine dr_pure rfl rfl rfl rfl (pure_or rfl rfl (fun _ => rfl) (fun _ hi => gP rfl hi)) ?_
  refine dr_pure rfl rfl rfl rfl (pure_move rfl (fun _ => rfl)) ?_
  refine dr_pure rfl rfl rfl rfl (pure_fieldPtr rfl (fun _ => rfl) rfl rfl) ?_
  refine dr_load rfl rfl rfl rfl rfl rfl rfl (fun hh => hh) rfl rfl rfl rfl ?_
  refine dr_pure rfl rfl rfl rfl (pure_indexAddr rfl rfl (fun hh => hh) (fun _ => rfl) rfl rfl rfl (fun _ => T.rows_get (ts := [T.app sPair [T.atom sLedger 5, T.app sPair [szT n, h]], key]) (k := 0) rfl)) ?_
  refine dr_pure rfl rfl rfl rfl (pure_loadRoRow rfl (fun hh => hh) rfl rfl rfl rfl) ?_
  refine dr_callN rfl rfl rfl rfl rfl rfl rfl (fun _ => rfl) (fun hh => gA ((fun hh => hh) hh) (gA rfl (rfl))) (h2) rfl ?_
  refine dr_pure rfl rfl rfl rfl (pure_not rfl (fun hh => hh)) ?_
  refine dr_pure rfl rfl rfl rfl (pure_or rfl rfl (fun _ => rfl) (fun _ hi => gP rfl hi)) ?_
  refine dr_pure rfl rfl rfl rfl (pure_move rfl (fun _ => rfl)) ?_
  refine dr_pure rfl rfl rfl rfl (pure_fieldPtr rfl (fun _ => rfl) rfl rfl) ?_
  refine dr_load rfl rfl rfl rfl rfl rfl rfl (fun hh => hh) rfl rfl rfl rfl ?_
  refine dr_pure rfl rfl rfl rfl (pure_indexAddr rfl rfl (fun hh => hh) (fun _ => rfl) rfl rfl rfl (fun _ => T.rows_get (ts := [T.app sPair [T.atom sLedger 5, T.app sPair [szT n, h]], key]) (k := 0) rfl)) ?_
  refine dr_pure rfl rfl rfl rfl (pure_fieldRo rfl (fun hh => hh) rfl rfl) ?_
  refine dr_pure rfl rfl rfl rfl (pure_loadRo rfl (fun hh => hh) rfl rfl rfl) ?_
  refine dr_pure rfl rfl rfl rfl (pure_indexAddr rfl rfl (fun hh => hh) (fun _ => rfl) rfl rfl rfl (fun _ => T.rows_get (ts := [T.atom sLedger 5, T.app sPair [szT n, h]]) (k := 0) rfl)) ?_
  refine dr_pure rfl rfl rfl rfl (pure_loadRoRow rfl (fun hh => hh) rfl rfl rfl rfl) ?_
  refine dr_callN rfl rfl rfl rfl rfl rfl rfl (fun _ => rfl) (fun _ => rfl) (tag_spec sLedger) rfl ?_
  refine dr_callN rfl rfl rfl rfl rfl rfl rfl (fun _ => rfl) (fun hh => gA ((fun hh => hh) hh) (gA ((fun hh => hh) hh) (rfl))) (h4) rfl ?_
  refine dr_pure rfl rfl rfl rfl (pure_not rfl (fun hh => hh)) ?_
  refine dr_pure rfl rfl rfl rfl (pure_or rfl rfl (fun _ => rfl) (fun _ hi => gP rfl hi)) ?_
  refine dr_nil (by kernel_rfl) ?_
  refine awp_sub (s := { t := [(2, _, _), (4, _, _), (5, _, _), (6, _, _), (39, _, _)], bx := [((.l 2), _), ((.l 4), _), ((.l 5), _)], ow := [] }) (sub_mk (⟨⟨_, rfl, rfl⟩, ⟨⟨_, rfl, rfl⟩, ⟨⟨_, rfl, rfl⟩, ⟨⟨_, rfl, rfl⟩, ⟨⟨_, rfl, rfl⟩, trivial⟩⟩⟩⟩⟩) (⟨⟨_, rfl, rfl⟩, ⟨⟨_, rfl, rfl⟩, ⟨⟨_, rfl, rfl⟩, trivial⟩⟩⟩) trivial) ?_
  refine awp_cond rfl (fun hc => ?_) (fun hc => ?_)
  · simp at hc
  · refine awp_skip ?_
    refine awp_seq ?_
    refine awp_region ?_
    refine al_pure rfl rfl rfl (pure_fieldPtr rfl (fun _ => rfl) rfl rfl) ?_
    refine al_pure rfl rfl rfl (pure_loadBox rfl (fun _ => rfl) rfl rfl rfl rfl) ?_
    refine al_pure rfl rfl rfl (pure_indexAddr rfl rfl (fun _ => rfl) (fun _ => rfl) rfl rfl rfl (fun _ => T.rows_get (ts := [T.app sPair [T.atom sLedger 5, T.app sPair [szT n, h]], key]) (k := 0) rfl)) ?_
    refine al_pure rfl rfl rfl (pure_fieldRo rfl (fun _ => rfl) rfl rfl) ?_
    refine al_pure rfl rfl rfl (pure_loadRo rfl (fun _ => rfl) rfl rfl rfl) ?_
    refine al_pure rfl rfl rfl (pure_indexAddr rfl rfl (fun _ => rfl) (fun _ => rfl) rfl rfl rfl (fun _ => T.rows_get (ts := [T.atom sLedger 5, T.app sPair [szT n, h]]) (k := 1) rfl)) ?_
    refine al_pure rfl rfl rfl (pure_loadRoRow rfl (fun _ => rfl) rfl rfl rfl rfl) ?_
    refine al_do rfl (does_alloc rfl rfl rfl) ?_
    refine al_do rfl (does_store rfl rfl rfl rfl rfl rfl rfl) ?_
    refine al_nil ?_
    refine awp_sub (s := { t := [(4, _, _), (5, _, _), (6, _, _), (7, _, _)], bx := [((.l 4), _), ((.l 5), _), ((.l 7), _)], ow := [] }) (sub_mk (⟨⟨_, rfl, rfl⟩, ⟨⟨_, rfl, rfl⟩, ⟨⟨_, rfl, rfl⟩, ⟨⟨_, rfl, rfl⟩, trivial⟩⟩⟩⟩) (⟨⟨_, rfl, rfl⟩, ⟨⟨_, rfl, rfl⟩, ⟨⟨_, rfl, rfl⟩, trivial⟩⟩⟩) trivial) ?_
    refine awp_seq ?_
    refine awp_seq ?_
    refine awp_region ?_
    refine al_pure rfl rfl rfl (pure_loadBoxRow rfl (fun _ => rfl) rfl rfl rfl rfl rfl) ?_
    refine al_call rfl rfl rfl rfl rfl rfl (fun _ => rfl) (fun _ => rfl) (h3) rfl ?_
    refine al_pure rfl rfl rfl (pure_not rfl (fun _ => rfl)) ?_
    refine al_pure rfl rfl rfl (pure_move rfl (fun _ => rfl)) ?_
    refine al_pure rfl rfl rfl (pure_fieldPtr rfl (fun _ => rfl) rfl rfl) ?_
    refine al_pure rfl rfl rfl (pure_loadBox rfl (fun hh => hh) rfl rfl rfl rfl) ?_
    refine al_pure rfl rfl rfl (pure_indexAddr rfl rfl (fun hh => hh) (fun _ => rfl) rfl rfl rfl (fun _ => T.rows_get (ts := [szT n, h]) (k := 0) rfl)) ?_
    refine al_pure rfl rfl rfl (pure_fieldRo rfl (fun hh => hh) rfl rfl) ?_
    refine al_pure rfl rfl rfl (pure_loadRo rfl (fun hh => hh) rfl rfl rfl) ?_
    refine al_pure rfl rfl rfl (pure_cmp rfl rfl (fun hh => hh) (fun _ => rfl) rfl) ?_
    refine al_pure rfl rfl rfl (pure_or rfl rfl (fun _ => rfl) (fun _ hi => gP rfl hi)) ?_
    refine al_pure rfl rfl rfl (pure_move rfl (fun _ => rfl)) ?_
    refine al_pure rfl rfl rfl (pure_fieldPtr rfl (fun _ => rfl) rfl rfl) ?_
    refine al_pure rfl rfl rfl (pure_loadBox rfl (fun hh => hh) rfl rfl rfl rfl) ?_
    refine al_pure rfl rfl rfl (pure_indexAddr rfl rfl (fun hh => hh) (fun _ => rfl) rfl rfl rfl (fun _ => T.rows_get (ts := [szT n, h]) (k := 0) rfl)) ?_
    refine al_pure rfl rfl rfl (pure_fieldRo rfl (fun hh => hh) rfl rfl) ?_
    refine al_pure rfl rfl rfl (pure_loadRo rfl (fun hh => hh) rfl rfl rfl) ?_
    refine al_pure rfl rfl rfl (pure_cmp rfl rfl (fun hh => hh) (fun _ => rfl) rfl) ?_
    refine al_pure rfl rfl rfl (pure_or rfl rfl (fun _ => rfl) (fun _ hi => gP rfl hi)) ?_
    refine al_nil ?_
    refine awp_sub (s := { t := [(4, _, _), (5, _, _), (6, _, _), (7, _, _), (67, _, _)], bx := [((.l 4), _), ((.l 5), _), ((.l 7), _)], ow := [] }) (sub_mk (⟨⟨_, rfl, rfl⟩, ⟨⟨_, rfl, rfl⟩, ⟨⟨_, rfl, rfl⟩, ⟨⟨_, rfl, rfl⟩, ⟨⟨_, rfl, rfl⟩, trivial⟩⟩⟩⟩⟩) (⟨⟨_, rfl, rfl⟩, ⟨⟨_, rfl, rfl⟩, ⟨⟨_, rfl, rfl⟩, trivial⟩⟩⟩) trivial) ?_
    refine awp_cond rfl (fun hc2 => ?_) (fun hc2 => ?_)
    · simp [szT, T.atom, T.kind, T.sort] at hc2
    · refine awp_skip ?_
      refine awp_seq ?_
      refine awp_drawn' (by kernel_rfl) ?_
      refine dr_pure rfl rfl rfl rfl (pure_fieldPtr rfl (fun _ => rfl) rfl rfl) ?_
      refine dr_load rfl rfl rfl rfl rfl rfl rfl (fun _ => rfl) rfl rfl rfl rfl ?_
      refine dr_pure rfl rfl rfl rfl (pure_indexAddr rfl rfl (fun _ => rfl) (fun _ => rfl) rfl rfl rfl (fun _ => T.rows_get (ts := [szT n, h]) (k := 0) rfl)) ?_
      refine dr_pure rfl rfl rfl rfl (pure_loadRoRow rfl (fun _ => rfl) rfl rfl rfl rfl) ?_
      refine dr_pure rfl rfl rfl rfl (pure_fieldPtr rfl (fun _ => rfl) rfl rfl) ?_
      refine dr_load rfl rfl rfl rfl rfl rfl rfl (fun _ => rfl) rfl rfl rfl rfl ?_
      refine dr_pure rfl rfl rfl rfl (pure_indexAddr rfl rfl (fun _ => rfl) (fun _ => rfl) rfl rfl rfl (fun _ => T.rows_get (ts := [szT n, h]) (k := 1) rfl)) ?_
      refine dr_pure rfl rfl rfl rfl (pure_loadRoRow rfl (fun _ => rfl) rfl rfl rfl rfl) ?_
      refine dr_store rfl rfl rfl rfl rfl rfl rfl rfl rfl rfl rfl rfl ?_
      refine dr_store rfl rfl rfl rfl rfl rfl rfl rfl rfl rfl rfl rfl ?_
      refine dr_pure rfl rfl rfl rfl (pure_assign rfl (fun _ => rfl)) ?_
      refine dr_nil (by kernel_rfl) ?_
      refine awp_ret ?_
      repeat (first | refine thenS_ret ?_ | refine blockS_ret ?_)
      refine ret_ok rfl ?_ trivial
      rfl
end Go.Proofs.YtginljdgdllhfaaDoor
