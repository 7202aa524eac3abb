/- Our abstract program logic and contracts of this seat's functions, part 5: no statement of its own. -/
import Derived.Test.YthfoclblmdnckaaDoorM4
import Derived.WalkKit
import Derived.Lib.Builder
import Derived.Lib.UnsafeStr
import Derived.Laws.Externs
import Derived.KernelRfl
/- The methods of strings.Builder, step by step: what they do to a world. -/
set_option linter.unusedVariables false
set_option linter.unusedSimpArgs false
namespace Go.Proofs.YthfoclblmdnckaaDoor
open Go Go.Proofs Go.RowKit
open Go.Abs (Checked1 BdSys)
theorem infoB0 : (Tryd.prog.info? 59).map (·.size) = some 2 := by kernel_rfl
theorem infoB : ∃ j, Tryd.prog.info? 59 = some j ∧ j.size = 2 := Option.map_eq_some_iff.1 infoB0
set_option maxHeartbeats 1000000 in
set_option maxRecDepth 100000 in
theorem copyCheck_used (b : Nat) (w : World) (h0 : w.cell? ⟨b, 0, none⟩ = some (.pointer (some ⟨b, 0, none⟩))) :
    Calls Tryd.prog 52 #[.pointer (some ⟨b, 0, none⟩)] w fun e w' => e = .returned (.tuple #[]) ∧ w' = w := by
  obtain ⟨j, hj, _⟩ := infoB
  go_enter Tryd.func52, Tryd.ntmps52
  go_wp2
  rw [Lib.run_neq_ptr_same w _ Tryd.underlying57 hj]
  go_wp2
  go_end0
  exact ⟨rfl, rfl⟩
set_option maxHeartbeats 1000000 in
set_option maxRecDepth 100000 in
theorem copyCheck_fresh (b : Nat) (w : World) (h0 : w.cell? ⟨b, 0, none⟩ = some (.pointer none)) (hsh : w.shape? b = some (59, 2)) (hfz : w.frozen? ⟨b, 0, none⟩ = false) :
    Calls Tryd.prog 52 #[.pointer (some ⟨b, 0, none⟩)] w fun e w' => e = .returned (.tuple #[]) ∧ w' = w.setCell ⟨b, 0, none⟩ (.pointer (some ⟨b, 0, none⟩)) := by
  obtain ⟨j, hj, hjs⟩ := infoB
  go_enter Tryd.func52, Tryd.ntmps52
  go_wp2
  rw [Lib.run_to_unsafe w ⟨b, 0, none⟩ Tryd.underlying57 Tryd.underlying94 hj (by rw [hjs]; decide) hsh (Nat.zero_lt_succ 1)]
  simp only [Result.andThen]
  rw [Oper.upon_value]
  go_wp2
  rw [run_callFunc_extern Tryd.func64 (by kernel_rfl) (by kernel_rfl) (by kernel_rfl) (e := Extern.AbiNoEscape.same) (by kernel_rfl)]
  rw [Lib.run_noEscape]
  simp only [Result.andThen]
  rw [Oper.upon_value]
  go_wp2
  rw [Lib.run_from_unsafe w ⟨b, 0, none⟩ Tryd.underlying94 Tryd.underlying57 hj hsh (by kernel_rfl)]
  simp only [Result.andThen]
  rw [Oper.upon_value]
  go_wp2
  go_end0
  exact ⟨rfl, rfl⟩
theorem wpList_run {P : Program} {ops : Array Oper} {rest : List Oper} {o : Oper} {a : Act} {w w1 : World} {Q : Exit → Act → World → Prop} {v : Value} (hgd : o.guard = none)
    (hrun : (execOp a.eval o).run P w = .ok (.value v) w1) (h : wpList P ops Q rest (a.put o.dst v) w1) : wpList P ops Q (o :: rest) a w := by
  unfold wpList
  have hw : Region.wanted o (yielded ops a.tmps) = true := by simp [Region.wanted, hgd]
  rw [hw]
  simp only [if_true]
  refine .inl ?_
  unfold Oper.wp
  rw [hrun, Oper.upon_value]
  exact h
theorem copyCheck_any (b : Nat) (w w0 : World) (h : Checked1 b w w0) (hsh : w.shape? b = some (59, 2)) (hfz : w.frozen? ⟨b, 0, none⟩ = false) :
    Calls Tryd.prog 52 #[.pointer (some ⟨b, 0, none⟩)] w fun e w' => e = .returned (.tuple #[]) ∧ w' = w0 := by
  rcases h with ⟨h, rfl⟩ | ⟨h, rfl⟩
  · exact copyCheck_fresh b w h hsh hfz
  · exact copyCheck_used b _ h
set_option maxHeartbeats 1000000 in
set_option maxRecDepth 100000 in
theorem writeString_walk (b : Nat) (w w0 w1 : World) (v' : Value) (uo : Option Addr) (un uc : Nat) (s : ByteArray) (h : Checked1 b w w0) (hsh : w.shape? b = some (59, 2)) (hfz : w.frozen? ⟨b, 0, none⟩ = false)
    (h1 : w0.cell? ⟨b, 1, none⟩ = some v') (hap : (Builtin.append_ #[35, 9] 35 #[v', .string s]).run Tryd.prog w0 = .ok (.slice uo un uc) w1) (h2 : w1.cell? ⟨b, 1, none⟩ = some v') (hf1 : w1.frozen? ⟨b, 1, none⟩ = false) :
    Calls Tryd.prog 31 #[.pointer (some ⟨b, 0, none⟩), .string s] w fun e w' => e = .returned (.tuple #[.int .i64 s.size, .nilIface]) ∧ w' = w1.setCell ⟨b, 1, none⟩ (.slice uo un uc) := by
  go_enter Tryd.func31, Tryd.ntmps31
  go_wp2_with (go_at_call 52; refine (copyCheck_any b w w0 h hsh hfz).mono ?_)
  rintro e w' ⟨rfl, rfl⟩
  go_wp2_with (at_builtin; refine wpList_run rfl (v := .slice uo un uc) (w1 := w1) ?hr ?_)
  case hr => simp [execOp, Go.resolve, invoke, builtin, Act.eval, Act.put, hap]
  go_wp2
  go_ret2
  exact ⟨rfl, rfl⟩
set_option maxHeartbeats 1000000 in
set_option maxRecDepth 100000 in
theorem string_walk (b : Nat) (w w1 w2 : World) (ao : Option Addr) (n cap : Nat) (p : Value) (s : ByteArray) (h1 : w.cell? ⟨b, 1, none⟩ = some (.slice ao n cap))
    (hsd : (Builtin.unsafeSliceData_ #[35] 85 #[.slice ao n cap]).run Tryd.prog w.drew = .ok p w1) (h2 : w1.cell? ⟨b, 1, none⟩ = some (.slice ao n cap))
    (hus : (Builtin.unsafeString_ #[85, 3] 9 #[p, .int .i64 n]).run Tryd.prog w1 = .ok (.string s) w2) :
    Calls Tryd.prog 33 #[.pointer (some ⟨b, 0, none⟩)] w fun e w' => e = .returned (.string s) ∧ w' = w2 := by
  have c1 : w.drew.cell? ⟨b, 1, none⟩ = some (.slice ao n cap) := h1
  go_enter Tryd.func33, Tryd.ntmps33
  go_wp2
  go_region
  all_goals (go_wp2; go_ret; exact ⟨rfl, rfl⟩)
theorem infoU0 : (Tryd.prog.info? 5).map (fun j => (j.size, j.bytes, j.zero)) = some (1, 1, some (.int .u8 0)) := by kernel_rfl
theorem infoU : ∃ j, Tryd.prog.info? 5 = some j ∧ j.size = 1 ∧ j.bytes = 1 ∧ j.zero = some (.int .u8 0) := by
  obtain ⟨j, h1, h2⟩ := Option.map_eq_some_iff.1 infoU0
  simp only [Prod.mk.injEq] at h2
  exact ⟨j, h1, h2⟩
theorem enW0 : Abs.Enters sys 31 := ⟨_, Tryd.func31, by kernel_rfl, by kernel_rfl⟩
theorem enS0 : Abs.Enters sys 33 := ⟨_, Tryd.func33, by kernel_rfl, by kernel_rfl⟩
/-- What the steps of a Builder lean on, of this program. -/
noncomputable def bds : BdSys sys where
  tB := 59
  tS := 35
  tStr := 9
  tU := 5
  tPU := 85
  tI := 3
  tN := 59 * 4096 + 5
  hN1 := rfl
  hN2 := rfl
  fW := 31
  fB := 0
  hasB := false
  fS := 33
  jf := infoU.choose
  hu := Tryd.underlying35
  hstr := Tryd.underlying9
  hpu := Tryd.underlying85
  hinfo := infoU.choose_spec.1
  hsz := infoU.choose_spec.2.1
  hby := infoU.choose_spec.2.2.1
  hze := infoU.choose_spec.2.2.2
  hcells := (show Tryd.prog.cellsOf 5 = 1 by kernel_rfl)
  enW := enW0
  enB := fun h => by cases h
  enS := enS0
  ws := fun b w w0 w1 v' uo un uc s h1 h2 h3 h4 h5 h6 h7 => writeString_walk b w w0 w1 v' uo un uc s h1 h2 h3 h4 h5 h6 h7
  wb := fun h => by cases h
  st := fun b w w1 w2 ao n cap p s h1 h2 h3 h4 => string_walk b w w1 w2 ao n cap p s h1 h2 h3 h4
end Go.Proofs.YthfoclblmdnckaaDoor
/- Contracts: texts of tables, on both sides. -/
set_option linter.unusedVariables false
set_option linter.unusedSimpArgs false
namespace Go.Proofs.YthfoclblmdnckaaDoor
open Go Go.Abs
theorem rtext_spec (t : List Fm) (f : Fd) (hv : validE t = 0) (hf : FdOk f) (hnst : f.kind = 5 → f.n < t.length) : Ctr sys 45 [xtab t, xf f] [] (xs (txtF t f)) none [] := by
  have hrl := Fm.rows_len t
  obtain ⟨h1, h2, h3, h4, h5, h6, h7⟩ := hf
  have d1 := rdig_spec f.n.toNat (by omega) f.n (by omega)
  have d2 := rdig_spec f.low.toNat (by omega) f.low (by omega)
  have d3 := rdig_spec f.high.toNat (by omega) f.high (by omega)
  have a1 : (Lib.decDigits f.n.toNat).length ≤ 4 := decN_len (n := f.n) (by omega) (by omega)
  have a2 : (Lib.decDigits f.low.toNat).length ≤ 4 := decN_len (n := f.low) (by omega) (by omega)
  have a3 : (Lib.decDigits f.high.toNat).length ≤ 4 := decN_len (n := f.high) (by omega) (by omega)
  have a4 := hexE_len f.bytes
  refine spec_intro Tryd.func45 rfl rfl rfl rfl rfl rfl ?_
  refine awp_seq (awp_region ?_)
  refine al_do rfl (does_box rfl rfl rfl rfl) ?_
  refine al_pure rfl rfl rfl (pure_assign rfl gU) ?_
  refine al_nil ?_
  refine awp_seq ?_
  refine awp_seq (awp_region ?_)
  refine al_pure rfl rfl rfl (pure_fieldPtr rfl gU rfl rfl) ?_
  refine al_pure rfl rfl rfl (pure_loadBox rfl gU rfl rfl rfl rfl) ?_
  refine al_nil ?_
  refine awp_block ?_
  refine awp_seq (awp_region ?_)
  refine al_pure rfl rfl rfl (pure_cmp rfl rfl gU gU rfl) ?_
  refine al_pure rfl rfl rfl (pure_assign rfl gU) ?_
  refine al_nil ?_
  refine awp_sub (s := { t := [(0, _, _), (3, _, _), (6, _, _), (7, _, _)], bx := [((.l 3), _)], ow := [] }) (sub_mk (⟨sx rfl, ⟨sx rfl, ⟨sx rfl, ⟨sx rfl, trivial⟩⟩⟩⟩) (⟨sx rfl, trivial⟩) trivial) ?_
  refine awp_cond rfl (fun hc => ?_) (fun hc => ?_)
  · try simp only [nn, Fm.rows_len, Fd.rows_len, strR_len] at hc
    refine awp_seq (awp_region ?_)
    refine al_pure rfl rfl rfl (pure_fieldPtr rfl gU rfl rfl) ?_
    refine al_pure rfl rfl rfl (pure_loadBox rfl gU rfl rfl rfl rfl) ?_
    refine al_call rfl rfl rfl rfl rfl rfl gU gU (rhex_spec _ (by omega)) rfl ?_
    refine al_pure rfl rfl rfl (pure_concat rfl rfl gU gU (by first | omega | (simp only [List.length_append, Array.length_toList, List.size_toArray, List.length_cons, List.length_nil]; omega))) ?_
    refine al_pure rfl rfl rfl (pure_assign rfl gU) ?_
    refine al_nil ?_
    refine awp_ret ?_
    repeat (first | refine tR ?_ | refine bR ?_)
    refine ret_ok rfl ?_ trivial
    (rw [txtF, if_pos hc]; rfl)
  · try simp only [nn, Fm.rows_len, Fd.rows_len, strR_len] at hc
    rw [txtF, if_neg hc]
    refine awp_seq (awp_region ?_)
    refine al_pure rfl rfl rfl (pure_cmp rfl rfl gU gU rfl) ?_
    refine al_pure rfl rfl rfl (pure_assign rfl gU) ?_
    refine al_nil ?_
    refine awp_cond rfl (fun hc2 => ?_) (fun hc2 => ?_)
    · try simp only [nn, Fm.rows_len, Fd.rows_len, strR_len] at hc2
      refine awp_seq (awp_region ?_)
      refine al_pure rfl rfl rfl (pure_fieldPtr rfl gU rfl rfl) ?_
      refine al_pure rfl rfl rfl (pure_loadBox rfl gU rfl rfl rfl rfl) ?_
      refine al_call rfl rfl rfl rfl rfl rfl gU gU (d1) rfl ?_
      refine al_pure rfl rfl rfl (pure_concat rfl rfl gU gU (by first | omega | (simp only [List.length_append, Array.length_toList, List.size_toArray, List.length_cons, List.length_nil]; omega))) ?_
      refine al_pure rfl rfl rfl (pure_assign rfl gU) ?_
      refine al_nil ?_
      refine awp_ret ?_
      repeat (first | refine tR ?_ | refine bR ?_)
      refine ret_ok rfl ?_ trivial
      (rw [if_pos hc2]; rfl)
    · try simp only [nn, Fm.rows_len, Fd.rows_len, strR_len] at hc2
      rw [if_neg hc2]
      refine awp_seq (awp_region ?_)
      refine al_pure rfl rfl rfl (pure_cmp rfl rfl gU gU rfl) ?_
      refine al_pure rfl rfl rfl (pure_assign rfl gU) ?_
      refine al_nil ?_
      refine awp_cond rfl (fun hc3 => ?_) (fun hc3 => ?_)
      · try simp only [nn, Fm.rows_len, Fd.rows_len, strR_len] at hc3
        refine awp_seq (awp_region ?_)
        refine al_pure rfl rfl rfl (pure_fieldPtr rfl gU rfl rfl) ?_
        refine al_pure rfl rfl rfl (pure_loadBox rfl gU rfl rfl rfl rfl) ?_
        refine al_call rfl rfl rfl rfl rfl rfl gU gU (d1) rfl ?_
        refine al_pure rfl rfl rfl (pure_concat rfl rfl gU gU (by first | omega | (simp only [List.length_append, Array.length_toList, List.size_toArray, List.length_cons, List.length_nil]; omega))) ?_
        refine al_pure rfl rfl rfl (pure_assign rfl gU) ?_
        refine al_nil ?_
        refine awp_ret ?_
        repeat (first | refine tR ?_ | refine bR ?_)
        refine ret_ok rfl ?_ trivial
        (rw [if_pos hc3]; rfl)
      · try simp only [nn, Fm.rows_len, Fd.rows_len, strR_len] at hc3
        rw [if_neg hc3]
        refine awp_seq (awp_region ?_)
        refine al_pure rfl rfl rfl (pure_cmp rfl rfl gU gU rfl) ?_
        refine al_pure rfl rfl rfl (pure_assign rfl gU) ?_
        refine al_nil ?_
        refine awp_sub (s := { t := [(0, _, _), (3, _, _), (6, _, _), (25, _, _)], bx := [((.l 3), _)], ow := [] }) (sub_mk (⟨sx rfl, ⟨sx rfl, ⟨sx rfl, ⟨sx rfl, trivial⟩⟩⟩⟩) (⟨sx rfl, trivial⟩) trivial) ?_
        refine awp_cond rfl (fun hc4 => ?_) (fun hc4 => ?_)
        · try simp only [nn, Fm.rows_len, Fd.rows_len, strR_len] at hc4
          rw [if_pos hc4]
          refine awp_seq ?_
          refine awp_drawn' (by kernel_rfl) ?_
          refine dr_pure rfl rfl rfl rfl (pure_fieldPtr rfl gU rfl rfl) ?_
          refine dr_load rfl rfl rfl rfl rfl rfl rfl gU rfl rfl rfl rfl ?_
          refine dr_callN rfl rfl rfl rfl rfl rfl rfl gU gU (d2) rfl ?_
          refine dr_pure rfl rfl rfl rfl (pure_concat rfl rfl gU gU (by first | omega | (simp only [List.length_append, Array.length_toList, List.size_toArray, List.length_cons, List.length_nil]; omega))) ?_
          refine dr_pure rfl rfl rfl rfl (pure_concat rfl rfl gU gU (by first | omega | (simp only [List.length_append, Array.length_toList, List.size_toArray, List.length_cons, List.length_nil]; omega))) ?_
          refine dr_pure rfl rfl rfl rfl (pure_fieldPtr rfl gU rfl rfl) ?_
          refine dr_load rfl rfl rfl rfl rfl rfl rfl gU rfl rfl rfl rfl ?_
          refine dr_callN rfl rfl rfl rfl rfl rfl rfl gU gU (d3) rfl ?_
          refine dr_pure rfl rfl rfl rfl (pure_concat rfl rfl gU gU (by first | omega | (simp only [List.length_append, Array.length_toList, List.size_toArray, List.length_cons, List.length_nil]; omega))) ?_
          refine dr_pure rfl rfl rfl rfl (pure_assign rfl gU) ?_
          refine dr_nil (by kernel_rfl) ?_
          refine awp_ret ?_
          repeat (first | refine tR ?_ | refine bR ?_)
          refine ret_ok rfl ?_ trivial
          rfl
        · try simp only [nn, Fm.rows_len, Fd.rows_len, strR_len] at hc4
          rw [if_neg hc4]
          refine awp_seq (awp_region ?_)
          refine al_pure rfl rfl rfl (pure_cmp rfl rfl gU gU rfl) ?_
          refine al_pure rfl rfl rfl (pure_assign rfl gU) ?_
          refine al_nil ?_
          refine awp_cond rfl (fun hc5 => ?_) (fun hc5 => ?_)
          · try simp only [nn, Fm.rows_len, Fd.rows_len, strR_len] at hc5
            rw [if_pos hc5]
            have hlt := hnst hc5
            have hnm := fname_le (Tab.name hv (i := f.n.toNat) (by omega)).1
            refine awp_seq (awp_region ?_)
            refine al_pure rfl rfl rfl (pure_move rfl gU) ?_
            refine al_pure rfl rfl rfl (pure_fieldPtr rfl gU rfl rfl) ?_
            refine al_pure rfl rfl rfl (pure_loadBox rfl gU rfl rfl rfl rfl) ?_
            refine al_pure rfl rfl rfl (pure_indexAddr (j := f.n.toNat) rfl rfl gU gU rfl rfl (by first | omega | (simp at hh; omega)) (fun hh => Fm.rows_at (by first | omega | (simp at hh; omega)))) ?_
            refine al_pure rfl rfl rfl (pure_fieldRo rfl gU rfl rfl) ?_
            refine al_pure rfl rfl rfl (pure_loadRo rfl gU rfl rfl rfl) ?_
            refine al_pure rfl rfl rfl (pure_concat rfl rfl gU gU (by first | omega | (simp only [List.length_append, Array.length_toList, List.size_toArray, List.length_cons, List.length_nil]; omega))) ?_
            refine al_pure rfl rfl rfl (pure_assign rfl gU) ?_
            refine al_nil ?_
            refine awp_ret ?_
            repeat (first | refine tR ?_ | refine bR ?_)
            refine ret_ok rfl ?_ trivial
            rfl
          · try simp only [nn, Fm.rows_len, Fd.rows_len, strR_len] at hc5
            rw [if_neg hc5]
            refine awp_skip ?_
            refine awp_seq ?_
            refine awp_drawn' (by kernel_rfl) ?_
            refine dr_pure rfl rfl rfl rfl (pure_fieldPtr rfl gU rfl rfl) ?_
            refine dr_load rfl rfl rfl rfl rfl rfl rfl gU rfl rfl rfl rfl ?_
            refine dr_callN rfl rfl rfl rfl rfl rfl rfl gU gU (d2) rfl ?_
            refine dr_pure rfl rfl rfl rfl (pure_concat rfl rfl gU gU (by first | omega | (simp only [List.length_append, Array.length_toList, List.size_toArray, List.length_cons, List.length_nil]; omega))) ?_
            refine dr_pure rfl rfl rfl rfl (pure_concat rfl rfl gU gU (by first | omega | (simp only [List.length_append, Array.length_toList, List.size_toArray, List.length_cons, List.length_nil]; omega))) ?_
            refine dr_pure rfl rfl rfl rfl (pure_fieldPtr rfl gU rfl rfl) ?_
            refine dr_load rfl rfl rfl rfl rfl rfl rfl gU rfl rfl rfl rfl ?_
            refine dr_callN rfl rfl rfl rfl rfl rfl rfl gU gU (d3) rfl ?_
            refine dr_pure rfl rfl rfl rfl (pure_concat rfl rfl gU gU (by first | omega | (simp only [List.length_append, Array.length_toList, List.size_toArray, List.length_cons, List.length_nil]; omega))) ?_
            refine dr_pure rfl rfl rfl rfl (pure_assign rfl gU) ?_
            refine dr_nil (by kernel_rfl) ?_
            refine awp_ret ?_
            repeat (first | refine tR ?_ | refine bR ?_)
            refine ret_ok rfl ?_ trivial
            rfl
theorem ftext_spec (t : List Fm) (f : Fd) (hv : validE t = 0) (hf : FdOk f) (hnst : f.kind = 5 → f.n < t.length) : Ctr sys 30 [xtab t, xf f] [] (xs (txtF t f)) none [] := by
  have hrl := Fm.rows_len t
  obtain ⟨h1, h2, h3, h4, h5, h6, h7⟩ := hf
  have d1 := itoa_spec f.n.toNat (by omega) f.n (by omega)
  have d2 := itoa_spec f.low.toNat (by omega) f.low (by omega)
  have d3 := itoa_spec f.high.toNat (by omega) f.high (by omega)
  have a1 : (Lib.decDigits f.n.toNat).length ≤ 4 := decN_len (n := f.n) (by omega) (by omega)
  have a2 : (Lib.decDigits f.low.toNat).length ≤ 4 := decN_len (n := f.low) (by omega) (by omega)
  have a3 : (Lib.decDigits f.high.toNat).length ≤ 4 := decN_len (n := f.high) (by omega) (by omega)
  have a4 := hexE_len f.bytes
  refine spec_intro Tryd.func30 rfl rfl rfl rfl rfl rfl ?_
  refine awp_seq (awp_region ?_)
  refine al_do rfl (does_box rfl rfl rfl rfl) ?_
  refine al_pure rfl rfl rfl (pure_assign rfl gU) ?_
  refine al_nil ?_
  refine awp_seq ?_
  refine awp_seq (awp_region ?_)
  refine al_pure rfl rfl rfl (pure_fieldPtr rfl gU rfl rfl) ?_
  refine al_pure rfl rfl rfl (pure_loadBox rfl gU rfl rfl rfl rfl) ?_
  refine al_nil ?_
  refine awp_block ?_
  refine awp_seq (awp_region ?_)
  refine al_pure rfl rfl rfl (pure_cmp rfl rfl gU gU rfl) ?_
  refine al_pure rfl rfl rfl (pure_assign rfl gU) ?_
  refine al_nil ?_
  refine awp_sub (s := { t := [(0, _, _), (3, _, _), (6, _, _), (7, _, _)], bx := [((.l 3), _)], ow := [] }) (sub_mk (⟨sx rfl, ⟨sx rfl, ⟨sx rfl, ⟨sx rfl, trivial⟩⟩⟩⟩) (⟨sx rfl, trivial⟩) trivial) ?_
  refine awp_cond rfl (fun hc => ?_) (fun hc => ?_)
  · try simp only [nn, Fm.rows_len, Fd.rows_len, strR_len] at hc
    refine awp_seq (awp_region ?_)
    refine al_pure rfl rfl rfl (pure_fieldPtr rfl gU rfl rfl) ?_
    refine al_pure rfl rfl rfl (pure_loadBox rfl gU rfl rfl rfl rfl) ?_
    refine al_call rfl rfl rfl rfl rfl rfl gU gU (fhex_spec _ (by omega)) rfl ?_
    refine al_pure rfl rfl rfl (pure_concat rfl rfl gU gU (by first | omega | (simp only [List.length_append, Array.length_toList, List.size_toArray, List.length_cons, List.length_nil]; omega))) ?_
    refine al_pure rfl rfl rfl (pure_assign rfl gU) ?_
    refine al_nil ?_
    refine awp_ret ?_
    repeat (first | refine tR ?_ | refine bR ?_)
    refine ret_ok rfl ?_ trivial
    (rw [txtF, if_pos hc]; rfl)
  · try simp only [nn, Fm.rows_len, Fd.rows_len, strR_len] at hc
    rw [txtF, if_neg hc]
    refine awp_seq (awp_region ?_)
    refine al_pure rfl rfl rfl (pure_cmp rfl rfl gU gU rfl) ?_
    refine al_pure rfl rfl rfl (pure_assign rfl gU) ?_
    refine al_nil ?_
    refine awp_cond rfl (fun hc2 => ?_) (fun hc2 => ?_)
    · try simp only [nn, Fm.rows_len, Fd.rows_len, strR_len] at hc2
      refine awp_seq (awp_region ?_)
      refine al_pure rfl rfl rfl (pure_fieldPtr rfl gU rfl rfl) ?_
      refine al_pure rfl rfl rfl (pure_loadBox rfl gU rfl rfl rfl rfl) ?_
      refine al_call rfl rfl rfl rfl rfl rfl gU gU (d1) rfl ?_
      refine al_pure rfl rfl rfl (pure_concat rfl rfl gU gU (by first | omega | (simp only [List.length_append, Array.length_toList, List.size_toArray, List.length_cons, List.length_nil]; omega))) ?_
      refine al_pure rfl rfl rfl (pure_assign rfl gU) ?_
      refine al_nil ?_
      refine awp_ret ?_
      repeat (first | refine tR ?_ | refine bR ?_)
      refine ret_ok rfl ?_ trivial
      (rw [if_pos hc2]; rfl)
    · try simp only [nn, Fm.rows_len, Fd.rows_len, strR_len] at hc2
      rw [if_neg hc2]
      refine awp_seq (awp_region ?_)
      refine al_pure rfl rfl rfl (pure_cmp rfl rfl gU gU rfl) ?_
      refine al_pure rfl rfl rfl (pure_assign rfl gU) ?_
      refine al_nil ?_
      refine awp_cond rfl (fun hc3 => ?_) (fun hc3 => ?_)
      · try simp only [nn, Fm.rows_len, Fd.rows_len, strR_len] at hc3
        refine awp_seq (awp_region ?_)
        refine al_pure rfl rfl rfl (pure_fieldPtr rfl gU rfl rfl) ?_
        refine al_pure rfl rfl rfl (pure_loadBox rfl gU rfl rfl rfl rfl) ?_
        refine al_call rfl rfl rfl rfl rfl rfl gU gU (d1) rfl ?_
        refine al_pure rfl rfl rfl (pure_concat rfl rfl gU gU (by first | omega | (simp only [List.length_append, Array.length_toList, List.size_toArray, List.length_cons, List.length_nil]; omega))) ?_
        refine al_pure rfl rfl rfl (pure_assign rfl gU) ?_
        refine al_nil ?_
        refine awp_ret ?_
        repeat (first | refine tR ?_ | refine bR ?_)
        refine ret_ok rfl ?_ trivial
        (rw [if_pos hc3]; rfl)
      · try simp only [nn, Fm.rows_len, Fd.rows_len, strR_len] at hc3
        rw [if_neg hc3]
        refine awp_seq (awp_region ?_)
        refine al_pure rfl rfl rfl (pure_cmp rfl rfl gU gU rfl) ?_
        refine al_pure rfl rfl rfl (pure_assign rfl gU) ?_
        refine al_nil ?_
        refine awp_sub (s := { t := [(0, _, _), (3, _, _), (6, _, _), (25, _, _)], bx := [((.l 3), _)], ow := [] }) (sub_mk (⟨sx rfl, ⟨sx rfl, ⟨sx rfl, ⟨sx rfl, trivial⟩⟩⟩⟩) (⟨sx rfl, trivial⟩) trivial) ?_
        refine awp_cond rfl (fun hc4 => ?_) (fun hc4 => ?_)
        · try simp only [nn, Fm.rows_len, Fd.rows_len, strR_len] at hc4
          rw [if_pos hc4]
          refine awp_seq ?_
          refine awp_drawn' (by kernel_rfl) ?_
          refine dr_pure rfl rfl rfl rfl (pure_fieldPtr rfl gU rfl rfl) ?_
          refine dr_load rfl rfl rfl rfl rfl rfl rfl gU rfl rfl rfl rfl ?_
          refine dr_callN rfl rfl rfl rfl rfl rfl rfl gU gU (d2) rfl ?_
          refine dr_pure rfl rfl rfl rfl (pure_concat rfl rfl gU gU (by first | omega | (simp only [List.length_append, Array.length_toList, List.size_toArray, List.length_cons, List.length_nil]; omega))) ?_
          refine dr_pure rfl rfl rfl rfl (pure_concat rfl rfl gU gU (by first | omega | (simp only [List.length_append, Array.length_toList, List.size_toArray, List.length_cons, List.length_nil]; omega))) ?_
          refine dr_pure rfl rfl rfl rfl (pure_fieldPtr rfl gU rfl rfl) ?_
          refine dr_load rfl rfl rfl rfl rfl rfl rfl gU rfl rfl rfl rfl ?_
          refine dr_callN rfl rfl rfl rfl rfl rfl rfl gU gU (d3) rfl ?_
          refine dr_pure rfl rfl rfl rfl (pure_concat rfl rfl gU gU (by first | omega | (simp only [List.length_append, Array.length_toList, List.size_toArray, List.length_cons, List.length_nil]; omega))) ?_
          refine dr_pure rfl rfl rfl rfl (pure_assign rfl gU) ?_
          refine dr_nil (by kernel_rfl) ?_
          refine awp_ret ?_
          repeat (first | refine tR ?_ | refine bR ?_)
          refine ret_ok rfl ?_ trivial
          rfl
        · try simp only [nn, Fm.rows_len, Fd.rows_len, strR_len] at hc4
          rw [if_neg hc4]
          refine awp_seq (awp_region ?_)
          refine al_pure rfl rfl rfl (pure_cmp rfl rfl gU gU rfl) ?_
          refine al_pure rfl rfl rfl (pure_assign rfl gU) ?_
          refine al_nil ?_
          refine awp_cond rfl (fun hc5 => ?_) (fun hc5 => ?_)
          · try simp only [nn, Fm.rows_len, Fd.rows_len, strR_len] at hc5
            rw [if_pos hc5]
            have hlt := hnst hc5
            have hnm := fname_le (Tab.name hv (i := f.n.toNat) (by omega)).1
            refine awp_seq (awp_region ?_)
            refine al_pure rfl rfl rfl (pure_move rfl gU) ?_
            refine al_pure rfl rfl rfl (pure_fieldPtr rfl gU rfl rfl) ?_
            refine al_pure rfl rfl rfl (pure_loadBox rfl gU rfl rfl rfl rfl) ?_
            refine al_pure rfl rfl rfl (pure_indexAddr (j := f.n.toNat) rfl rfl gU gU rfl rfl (by first | omega | (simp at hh; omega)) (fun hh => Fm.rows_at (by first | omega | (simp at hh; omega)))) ?_
            refine al_pure rfl rfl rfl (pure_fieldRo rfl gU rfl rfl) ?_
            refine al_pure rfl rfl rfl (pure_loadRo rfl gU rfl rfl rfl) ?_
            refine al_pure rfl rfl rfl (pure_concat rfl rfl gU gU (by first | omega | (simp only [List.length_append, Array.length_toList, List.size_toArray, List.length_cons, List.length_nil]; omega))) ?_
            refine al_pure rfl rfl rfl (pure_assign rfl gU) ?_
            refine al_nil ?_
            refine awp_ret ?_
            repeat (first | refine tR ?_ | refine bR ?_)
            refine ret_ok rfl ?_ trivial
            rfl
          · try simp only [nn, Fm.rows_len, Fd.rows_len, strR_len] at hc5
            rw [if_neg hc5]
            refine awp_skip ?_
            refine awp_seq ?_
            refine awp_drawn' (by kernel_rfl) ?_
            refine dr_pure rfl rfl rfl rfl (pure_fieldPtr rfl gU rfl rfl) ?_
            refine dr_load rfl rfl rfl rfl rfl rfl rfl gU rfl rfl rfl rfl ?_
            refine dr_callN rfl rfl rfl rfl rfl rfl rfl gU gU (d2) rfl ?_
            refine dr_pure rfl rfl rfl rfl (pure_concat rfl rfl gU gU (by first | omega | (simp only [List.length_append, Array.length_toList, List.size_toArray, List.length_cons, List.length_nil]; omega))) ?_
            refine dr_pure rfl rfl rfl rfl (pure_concat rfl rfl gU gU (by first | omega | (simp only [List.length_append, Array.length_toList, List.size_toArray, List.length_cons, List.length_nil]; omega))) ?_
            refine dr_pure rfl rfl rfl rfl (pure_fieldPtr rfl gU rfl rfl) ?_
            refine dr_load rfl rfl rfl rfl rfl rfl rfl gU rfl rfl rfl rfl ?_
            refine dr_callN rfl rfl rfl rfl rfl rfl rfl gU gU (d3) rfl ?_
            refine dr_pure rfl rfl rfl rfl (pure_concat rfl rfl gU gU (by first | omega | (simp only [List.length_append, Array.length_toList, List.size_toArray, List.length_cons, List.length_nil]; omega))) ?_
            refine dr_pure rfl rfl rfl rfl (pure_assign rfl gU) ?_
            refine dr_nil (by kernel_rfl) ?_
            refine awp_ret ?_
            repeat (first | refine tR ?_ | refine bR ?_)
            refine ret_ok rfl ?_ trivial
            rfl
theorem joinE_snoc (p : List UInt8) (l : List (List UInt8)) (x : List UInt8) : Lib.join (l ++ [x]) p = (if 0 < l.length then Lib.join l p ++ p else Lib.join l p) ++ x := by
  cases l with
  | nil => simp [Lib.join_nil, Lib.join_one]
  | cons y l =>
    rw [if_pos (by simp), List.cons_append, Lib.join_cons, Lib.join_cons]
    simp [Lib.joinTail]
theorem map_take {α β : Type} (f : α → β) (d : α) {l : List α} {k : Nat} (h : k < l.length) : (l.take (k + 1)).map f = (l.take k).map f ++ [f (l.getD k d)] := by
  rw [take_getD (d := d) h, List.map_append]; rfl
theorem take_len31 {t : List Fm} (hv : validE t = 0) {i : Nat} (hi : i < t.length) (k : Nat) : (Lib.join (((t.getD i default).fields.take k).map (txtF t)) [44, 32]).length ≤ 198 := by
  have h1 := join_len [44, 32] (((t.getD i default).fields.take k).map (txtF t))
  have h2 : sumL (((t.getD i default).fields.take k).map (txtF t)) ≤ 31 * (((t.getD i default).fields.take k).map (txtF t)).length := sumL_le fun x hx => by
    obtain ⟨f, hf, rfl⟩ := List.mem_map.1 hx
    exact txts_len hv hi _ (List.mem_map_of_mem (List.mem_of_mem_take hf))
  have h3 := (Tab.of hv).nf i hi
  simp only [List.length_map, List.length_take, List.length_cons, List.length_nil] at h1 h2
  omega
theorem rFormat_spec (t : List Fm) : Ctr sys 26 [xtab t] [] (xse (formatE t)) none [] := by
  have hrl := Fm.rows_len t
  refine spec_intro Tryd.func26 rfl rfl rfl rfl rfl rfl ?_
  refine awp_seq (awp_region ?_)
  refine al_pure rfl rfl rfl (pure_assign rfl gU) ?_
  refine al_pure rfl rfl rfl (pure_assign rfl gU) ?_
  refine al_nil ?_
  refine awp_seq ?_
  refine awp_seq (awp_region ?_)
  refine al_pure rfl rfl rfl (pure_move rfl gU) ?_
  refine al_call rfl rfl rfl rfl rfl rfl gU gU (rValid_spec _) rfl ?_
  refine al_pure rfl rfl rfl (pure_assign rfl gU) ?_
  refine al_nil ?_
  refine awp_sub (s := { t := [(0, _, _), (4, _, _)], bx := [], ow := [] }) (sub_mk (⟨sx rfl, ⟨sx rfl, trivial⟩⟩) trivial trivial) ?_
  refine awp_seq (awp_region ?_)
  refine al_pure rfl rfl rfl (pure_move rfl gU) ?_
  refine al_pure rfl rfl rfl (pure_cmp rfl rfl gU gU rfl) ?_
  refine al_nil ?_
  refine awp_cond rfl (fun hc => ?_) (fun hc => ?_)
  · try simp only [nn, Fm.rows_len, Fd.rows_len, strR_len] at hc
    refine awp_seq (awp_region ?_)
    refine al_pure rfl rfl rfl (pure_move rfl gU) ?_
    refine al_pure rfl rfl rfl (pure_assign rfl gU) ?_
    refine al_pure rfl rfl rfl (pure_assign rfl gU) ?_
    refine al_nil ?_
    refine awp_ret ?_
    repeat (first | refine tR ?_ | refine bR ?_)
    refine ret_ok rfl ?_ trivial
    (rw [formatE, if_pos hc]; rfl)
  · try simp only [nn, Fm.rows_len, Fd.rows_len, strR_len] at hc
    have hT := Tab.of hc
    have hl8 := hT.len
    rw [formatE, if_neg (by omega)]
    refine awp_skip ?_
    refine awp_seq (awp_region ?_)
    refine al_pure rfl rfl rfl (pure_assign rfl gU) ?_
    refine al_nil ?_
    refine awp_seq ?_
    refine awp_seq (awp_region ?_)
    refine al_pure rfl rfl rfl (pure_assign rfl gU) ?_
    refine al_nil ?_
    refine awp_block ?_
    refine awp_for (ι := Nat) { t := [(0, _, _)], bx := [], ow := [] } (fun i => [(6, true, xi (i : Int)), (5, true, xs (txtP t i))]) (fun i => []) (fun i => i ≤ t.length) (fun i => t.length - i) (0) (by simp) (sub_mk (⟨sx rfl, ⟨sx rfl, ⟨sx rfl, trivial⟩⟩⟩) trivial trivial) ?_
    intro i hok
    dsimp only [List.cons_append, List.nil_append]
    have htl := txtP_len hc i hok
    refine awp_seq ?_
    refine awp_seq (awp_region ?_)
    refine al_pure rfl rfl rfl (pure_move rfl gU) ?_
    refine al_pure rfl rfl rfl (pure_move rfl gU) ?_
    refine al_lenSl rfl rfl rfl rfl rfl gU rfl rfl ?_ (fun hh => by simp at hh); intro hlen
    refine al_pure rfl rfl rfl (pure_cmp rfl rfl gU gU rfl) ?_
    refine al_nil ?_
    refine awp_cond rfl (fun hc2 => ?_) (fun hc2 => ?_)
    · try simp only [nn, Fm.rows_len, Fd.rows_len, strR_len] at hc2
      have hnf := hT.nf i (by omega)
      have hnm := fname_le (Tab.name hc (i := i) (by omega)).1
      have hrf := Fd.rows_len (t.getD i default).fields
      refine awp_skip ?_
      refine awp_seq ?_
      refine awp_block ?_
      refine awp_seq (awp_region ?_)
      refine al_pure rfl rfl rfl (pure_move rfl gU) ?_
      refine al_pure rfl rfl rfl (pure_move rfl gU) ?_
      refine al_pure rfl rfl rfl (pure_move rfl gU) ?_
      refine al_pure rfl rfl rfl (pure_indexAddr rfl rfl gU gU rfl rfl rfl (fun hh => Fm.rows_at (by first | omega | (simp at hh; omega)))) ?_
      refine al_pure rfl rfl rfl (pure_fieldRo rfl gU rfl rfl) ?_
      refine al_pure rfl rfl rfl (pure_loadRo rfl gU rfl rfl rfl) ?_
      refine al_pure rfl rfl rfl (pure_concat rfl rfl gU gU (by first | omega | (simp only [List.length_append, Array.length_toList, List.size_toArray, List.length_cons, List.length_nil]; omega))) ?_
      refine al_pure rfl rfl rfl (pure_concat rfl rfl gU gU (by first | omega | (simp only [List.length_append, Array.length_toList, List.size_toArray, List.length_cons, List.length_nil]; omega))) ?_
      refine al_sub (s := { t := [(0, _, _), (6, _, _), (26, _, _)], bx := [], ow := [] }) (sub_mk (⟨sx rfl, ⟨sx rfl, ⟨sx rfl, trivial⟩⟩⟩) trivial trivial) ?_
      refine al_pure rfl rfl rfl (pure_assign rfl gU) ?_
      refine al_nil ?_
      refine awp_seq ?_
      refine awp_seq (awp_region ?_)
      refine al_pure rfl rfl rfl (pure_assign rfl gU) ?_
      refine al_nil ?_
      refine awp_block ?_
      refine awp_for (ι := Nat) { t := [(0, _, _), (6, _, _)], bx := [], ow := [] } (fun k => [(7, true, xi (k : Int)), (5, true, xs (txtP t i ++ (t.getD i default).name ++ [58, 32] ++ Lib.join (((t.getD i default).fields.take k).map (txtF t)) [44, 32]))]) (fun k => []) (fun k => k ≤ (t.getD i default).fields.length) (fun k => (t.getD i default).fields.length - k) (0) (by simp) (sub_mk (⟨sx rfl, ⟨⟨_, rfl, by simp [Lib.join_nil]⟩, ⟨sx rfl, ⟨sx rfl, trivial⟩⟩⟩⟩) trivial trivial) ?_
      intro k hok2
      dsimp only [List.cons_append, List.nil_append]
      have hjl := take_len31 hc (i := i) (by omega) k
      refine awp_seq ?_
      refine awp_seq (awp_region ?_)
      refine al_pure rfl rfl rfl (pure_move rfl gU) ?_
      refine al_pure rfl rfl rfl (pure_move rfl gU) ?_
      refine al_pure rfl rfl rfl (pure_move rfl gU) ?_
      refine al_pure rfl rfl rfl (pure_indexAddr rfl rfl gU gU rfl rfl rfl (fun hh => Fm.rows_at (by first | omega | (simp at hh; omega)))) ?_
      refine al_pure rfl rfl rfl (pure_fieldRo rfl gU rfl rfl) ?_
      refine al_pure rfl rfl rfl (pure_loadRo rfl gU rfl rfl rfl) ?_
      refine al_lenSl rfl rfl rfl rfl rfl gU rfl rfl ?_ (fun hh => by simp at hh); intro hlen
      refine al_pure rfl rfl rfl (pure_cmp rfl rfl gU gU rfl) ?_
      refine al_nil ?_
      refine awp_sub (s := { t := [(0, _, _), (5, _, _), (6, _, _), (7, _, _), (34, _, _)], bx := [], ow := [] }) (sub_mk (⟨sx rfl, ⟨sx rfl, ⟨sx rfl, ⟨sx rfl, ⟨sx rfl, trivial⟩⟩⟩⟩⟩) trivial trivial) ?_
      refine awp_cond rfl (fun hc3 => ?_) (fun hc3 => ?_)
      · try simp only [nn, Fm.rows_len, Fd.rows_len, strR_len] at hc3
        have hfo := hT.fdOk (i := i) (by omega) (k := k) (by omega)
        have hns := (hT.fds (i := i) (by omega)).nest k (by omega)
        have hJ := joinE_snoc [44, 32] (((t.getD i default).fields.take k).map (txtF t)) (txtF t ((t.getD i default).fields.getD k default))
        rw [← map_take (txtF t) default (by omega), List.length_map, List.length_take] at hJ
        have hx := txtF_len hc hfo fun h => (hns h).1
        refine awp_skip ?_
        refine awp_seq ?_
        refine awp_block ?_
        refine awp_seq ?_
        refine awp_seq (awp_region ?_)
        refine al_pure rfl rfl rfl (pure_move rfl gU) ?_
        refine al_pure rfl rfl rfl (pure_cmp rfl rfl gU gU rfl) ?_
        refine al_nil ?_
        refine awp_cond rfl (fun hc4 => ?_) (fun hc4 => ?_)
        · try simp only [nn, Fm.rows_len, Fd.rows_len, strR_len] at hc4
          rw [if_pos (by omega)] at hJ
          refine awp_region ?_
          refine al_pure rfl rfl rfl (pure_move rfl gU) ?_
          refine al_pure rfl rfl rfl (pure_concat rfl rfl gU gU (by first | omega | (simp only [List.length_append, Array.length_toList, List.size_toArray, List.length_cons, List.length_nil]; omega))) ?_
          refine al_pure rfl rfl rfl (pure_assign rfl gU) ?_
          refine al_nil ?_
          refine awp_sub (s := { t := [(0, _, _), (5, _, _), (6, _, _), (7, _, _)], bx := [], ow := [] }) (sub_mk (⟨sx rfl, ⟨sx rfl, ⟨sx rfl, ⟨sx rfl, trivial⟩⟩⟩⟩) trivial trivial) ?_
          refine awp_region ?_
          refine al_pure rfl rfl rfl (pure_move rfl gU) ?_
          refine al_pure rfl rfl rfl (pure_move rfl gU) ?_
          refine al_pure rfl rfl rfl (pure_move rfl gU) ?_
          refine al_pure rfl rfl rfl (pure_move rfl gU) ?_
          refine al_pure rfl rfl rfl (pure_indexAddr rfl rfl gU gU rfl rfl rfl (fun hh => Fm.rows_at (by first | omega | (simp at hh; omega)))) ?_
          refine al_pure rfl rfl rfl (pure_fieldRo rfl gU rfl rfl) ?_
          refine al_pure rfl rfl rfl (pure_loadRo rfl gU rfl rfl rfl) ?_
          refine al_pure rfl rfl rfl (pure_move rfl gU) ?_
          refine al_pure rfl rfl rfl (pure_indexAddr rfl rfl gU gU rfl rfl rfl (fun hh => Fd.rows_at (by first | omega | (simp at hh; omega)))) ?_
          refine al_pure rfl rfl rfl (pure_loadRoRow rfl gU rfl rfl rfl rfl) ?_
          refine al_call rfl rfl rfl rfl rfl rfl gU gU (rtext_spec _ _ hc hfo (fun h => (hns h).1)) rfl ?_
          refine al_pure rfl rfl rfl (pure_concat rfl rfl gU gU (by first | omega | (simp only [List.length_append, Array.length_toList, List.size_toArray, List.length_cons, List.length_nil]; omega))) ?_
          refine al_sub (s := { t := [(0, _, _), (6, _, _), (7, _, _), (52, _, _)], bx := [], ow := [] }) (sub_mk (⟨sx rfl, ⟨sx rfl, ⟨sx rfl, ⟨sx rfl, trivial⟩⟩⟩⟩) trivial trivial) ?_
          refine al_pure rfl rfl rfl (pure_assign rfl gU) ?_
          refine al_nil ?_
          refine awp_region ?_
          refine al_pure rfl rfl rfl (pure_move rfl gU) ?_
          refine al_pure rfl rfl rfl (pure_arith rfl rfl gU gU rfl (IntWalk.i64_in _ (by omega))) ?_
          refine al_pure rfl rfl rfl (pure_assign rfl gU) ?_
          refine al_nil ?_
          refine ⟨k + 1, ?_, ?_, sub_mk (⟨⟨_, rfl, ?_⟩, ⟨⟨_, rfl, ?_⟩, ⟨sx rfl, ⟨sx rfl, trivial⟩⟩⟩⟩) trivial trivial⟩
          all_goals (first | rfl | omega | exact tx (congrArg xs (by rw [hJ]; simp only [List.append_assoc] <;> rfl)))
        · try simp only [nn, Fm.rows_len, Fd.rows_len, strR_len] at hc4
          rw [if_neg (by omega)] at hJ
          refine awp_skip ?_
          refine awp_region ?_
          refine al_pure rfl rfl rfl (pure_move rfl gU) ?_
          refine al_pure rfl rfl rfl (pure_move rfl gU) ?_
          refine al_pure rfl rfl rfl (pure_move rfl gU) ?_
          refine al_pure rfl rfl rfl (pure_move rfl gU) ?_
          refine al_pure rfl rfl rfl (pure_indexAddr rfl rfl gU gU rfl rfl rfl (fun hh => Fm.rows_at (by first | omega | (simp at hh; omega)))) ?_
          refine al_pure rfl rfl rfl (pure_fieldRo rfl gU rfl rfl) ?_
          refine al_pure rfl rfl rfl (pure_loadRo rfl gU rfl rfl rfl) ?_
          refine al_pure rfl rfl rfl (pure_move rfl gU) ?_
          refine al_pure rfl rfl rfl (pure_indexAddr rfl rfl gU gU rfl rfl rfl (fun hh => Fd.rows_at (by first | omega | (simp at hh; omega)))) ?_
          refine al_pure rfl rfl rfl (pure_loadRoRow rfl gU rfl rfl rfl rfl) ?_
          refine al_sub (s := { t := [(0, _, _), (6, _, _), (7, _, _), (41, _, _), (42, _, _), (50, _, _)], bx := [], ow := [] }) (sub_mk (⟨sx rfl, ⟨sx rfl, ⟨sx rfl, ⟨sx rfl, ⟨sx rfl, ⟨sx rfl, trivial⟩⟩⟩⟩⟩⟩) trivial trivial) ?_
          refine al_call rfl rfl rfl rfl rfl rfl gU gU (rtext_spec _ _ hc hfo (fun h => (hns h).1)) rfl ?_
          refine al_pure rfl rfl rfl (pure_concat rfl rfl gU gU (by first | omega | (simp only [List.length_append, Array.length_toList, List.size_toArray, List.length_cons, List.length_nil]; omega))) ?_
          refine al_pure rfl rfl rfl (pure_assign rfl gU) ?_
          refine al_nil ?_
          refine awp_region ?_
          refine al_pure rfl rfl rfl (pure_move rfl gU) ?_
          refine al_pure rfl rfl rfl (pure_arith rfl rfl gU gU rfl (IntWalk.i64_in _ (by omega))) ?_
          refine al_pure rfl rfl rfl (pure_assign rfl gU) ?_
          refine al_nil ?_
          refine ⟨k + 1, ?_, ?_, sub_mk (⟨⟨_, rfl, ?_⟩, ⟨⟨_, rfl, ?_⟩, ⟨sx rfl, ⟨sx rfl, trivial⟩⟩⟩⟩) trivial trivial⟩
          all_goals (first | rfl | omega | exact tx (congrArg xs (by rw [hJ]; simp only [List.append_assoc] <;> rfl)))
      · try simp only [nn, Fm.rows_len, Fd.rows_len, strR_len] at hc3
        have hk : k = (t.getD i default).fields.length := by omega
        rw [hk, List.take_length] at hjl ⊢
        refine awp_exit ?_
        repeat (first | refine thenS_exit ?_ | refine blockS_hit ?_ | refine blockS_miss rfl ?_)
        refine awp_region ?_
        refine al_pure rfl rfl rfl (pure_move rfl gU) ?_
        refine al_pure rfl rfl rfl (pure_concat rfl rfl gU gU (by first | omega | (simp only [List.length_append, Array.length_toList, List.size_toArray, List.length_cons, List.length_nil]; omega))) ?_
        refine al_pure rfl rfl rfl (pure_assign rfl gU) ?_
        refine al_nil ?_
        refine awp_region ?_
        refine al_pure rfl rfl rfl (pure_move rfl gU) ?_
        refine al_pure rfl rfl rfl (pure_arith rfl rfl gU gU rfl (IntWalk.i64_in _ (by omega))) ?_
        refine al_pure rfl rfl rfl (pure_assign rfl gU) ?_
        refine al_nil ?_
        refine ⟨i + 1, ?_, ?_, sub_mk (⟨⟨_, rfl, ?_⟩, ⟨⟨_, rfl, ?_⟩, ⟨sx rfl, trivial⟩⟩⟩) trivial trivial⟩
        all_goals (first | rfl | omega | exact tx (congrArg xs (by rw [txtP, lineF]; simp only [List.append_assoc] <;> rfl)))
    · try simp only [nn, Fm.rows_len, Fd.rows_len, strR_len] at hc2
      have hi : i = t.length := by omega
      rw [hi]
      refine awp_exit ?_
      repeat (first | refine thenS_exit ?_ | refine blockS_hit ?_ | refine blockS_miss rfl ?_)
      refine awp_seq (awp_region ?_)
      refine al_pure rfl rfl rfl (pure_move rfl gU) ?_
      refine al_pure rfl rfl rfl (pure_assign rfl gU) ?_
      refine al_pure rfl rfl rfl (pure_assign rfl gU) ?_
      refine al_nil ?_
      refine awp_ret ?_
      repeat (first | refine tR ?_ | refine bR ?_)
      refine ret_ok rfl ?_ trivial
      rfl
theorem bdc {a b : List UInt8} (h : a = b) : some [C.bl, C.sl 1 (bytesR a)] = some [C.bl, C.sl 1 (bytesR b)] := by rw [h]
theorem fFormat_spec (t : List Fm) : Ctr sys 11 [xtab t] [] (xse (formatE t)) none [] := by
  have hrl := Fm.rows_len t
  refine spec_intro Tryd.func11 rfl rfl rfl rfl rfl rfl ?_
  refine awp_seq (awp_region ?_)
  refine al_pure rfl rfl rfl (pure_assign rfl gU) ?_
  refine al_pure rfl rfl rfl (pure_assign rfl gU) ?_
  refine al_nil ?_
  refine awp_seq ?_
  refine awp_seq (awp_region ?_)
  refine al_pure rfl rfl rfl (pure_move rfl gU) ?_
  refine al_call rfl rfl rfl rfl rfl rfl gU gU (fValid_spec _) rfl ?_
  refine al_pure rfl rfl rfl (pure_assign rfl gU) ?_
  refine al_nil ?_
  refine awp_sub (s := { t := [(0, _, _), (4, _, _)], bx := [], ow := [] }) (sub_mk (⟨sx rfl, ⟨sx rfl, trivial⟩⟩) trivial trivial) ?_
  refine awp_seq (awp_region ?_)
  refine al_pure rfl rfl rfl (pure_move rfl gU) ?_
  refine al_pure rfl rfl rfl (pure_cmp rfl rfl gU gU rfl) ?_
  refine al_nil ?_
  refine awp_cond rfl (fun hc => ?_) (fun hc => ?_)
  · try simp only [nn, Fm.rows_len, Fd.rows_len, strR_len] at hc
    refine awp_seq (awp_region ?_)
    refine al_pure rfl rfl rfl (pure_move rfl gU) ?_
    refine al_pure rfl rfl rfl (pure_assign rfl gU) ?_
    refine al_pure rfl rfl rfl (pure_assign rfl gU) ?_
    refine al_nil ?_
    refine awp_ret ?_
    repeat (first | refine tR ?_ | refine bR ?_)
    refine ret_ok rfl ?_ trivial
    (rw [formatE, if_pos hc]; rfl)
  · try simp only [nn, Fm.rows_len, Fd.rows_len, strR_len] at hc
    have hT := Tab.of hc
    have hl8 := hT.len
    rw [formatE, if_neg (by omega)]
    refine awp_skip ?_
    refine awp_seq (awp_region ?_)
    refine al_do rfl (does_allocBd (u := 241669) rfl rfl rfl rfl rfl) ?_
    refine al_nil ?_
    refine awp_seq ?_
    refine awp_seq (awp_region ?_)
    refine al_pure rfl rfl rfl (pure_move rfl gU) ?_
    refine al_lenSl rfl rfl rfl rfl rfl gU rfl rfl ?_ (fun hh => by simp at hh); intro hlen
    refine al_pure rfl rfl rfl (pure_move rfl gU) ?_
    refine al_nil ?_
    refine awp_sub (s := { t := [(0, _, _), (5, _, _), (16, _, _), (17, _, _), (18, _, _)], bx := [((.bd 241669 5), _)], ow := [((.b (.bd 241669 5) 1), _)] }) (sub_mk (⟨sx rfl, ⟨sx rfl, ⟨sx rfl, ⟨sx rfl, ⟨sx rfl, trivial⟩⟩⟩⟩⟩) (⟨sx rfl, trivial⟩) (⟨rfl, trivial⟩)) ?_
    refine awp_block ?_
    refine awp_for (ι := Nat) { t := [(0, _, _), (5, _, _), (16, _, _), (17, _, _)], bx := [], ow := [((.b (.bd 241669 5) 1), _)] } (fun i => [(18, true, xi (i : Int))]) (fun i => [((.bd 241669 5), [.bl, .sl 1 (bytesR (txtP t i))])]) (fun i => i ≤ t.length) (fun i => t.length - i) (0) (by simp) (sub_mk (⟨sx rfl, ⟨sx rfl, ⟨sx rfl, ⟨sx rfl, ⟨sx rfl, trivial⟩⟩⟩⟩⟩) (⟨sx rfl, trivial⟩) (⟨rfl, trivial⟩)) ?_
    intro i hok
    dsimp only [List.cons_append, List.nil_append]
    have htl := txtP_len hc i hok
    refine awp_seq (awp_region ?_)
    refine al_pure rfl rfl rfl (pure_cmp rfl rfl gU gU rfl) ?_
    refine al_nil ?_
    refine awp_seq ?_
    refine awp_cond rfl (fun hc2 => ?_) (fun hc2 => ?_)
    · try simp only [nn, Fm.rows_len, Fd.rows_len, strR_len] at hc2
      have hnf := hT.nf i (by omega)
      have hnm := fname_le (Tab.name hc (i := i) (by omega)).1
      have hrf := Fd.rows_len (t.getD i default).fields
      refine awp_skip ?_
      refine awp_seq ?_
      refine awp_block ?_
      refine awp_seq (awp_region ?_)
      refine al_pure rfl rfl rfl (pure_indexAddr rfl rfl gU gU rfl rfl rfl (fun hh => Fm.rows_at (by first | omega | (simp at hh; omega)))) ?_
      refine al_pure rfl rfl rfl (pure_loadRoRow rfl gU rfl rfl rfl rfl) ?_
      refine al_do rfl (does_alloc rfl rfl rfl) ?_
      refine al_do rfl (does_store rfl rfl rfl rfl rfl rfl rfl) ?_
      refine al_nil ?_
      refine awp_seq (awp_region ?_)
      refine al_do rfl (does_nil (.inr rfl) rfl rfl) ?_
      refine al_nil ?_
      refine awp_sub (s := { t := [(0, _, _), (5, _, _), (7, _, _), (8, _, _), (16, _, _), (17, _, _), (18, _, _)], bx := [((.bd 241669 5), _), ((.l 7), _)], ow := [((.b (.bd 241669 5) 1), _), ((.t 8), _)] }) (sub_mk (⟨sx rfl, ⟨sx rfl, ⟨sx rfl, ⟨sx rfl, ⟨sx rfl, ⟨sx rfl, ⟨sx rfl, trivial⟩⟩⟩⟩⟩⟩⟩) (⟨sx rfl, ⟨sx rfl, trivial⟩⟩) (⟨rfl, ⟨rfl, trivial⟩⟩)) ?_
      refine awp_seq ?_
      refine awp_seq (awp_region ?_)
      refine al_pure rfl rfl rfl (pure_fieldPtr rfl gU rfl rfl) ?_
      refine al_pure rfl rfl rfl (pure_loadBox rfl gU rfl rfl rfl rfl) ?_
      refine al_lenSl rfl rfl rfl rfl rfl gU rfl rfl ?_ (fun hh => by simp at hh); intro hlen
      refine al_pure rfl rfl rfl (pure_move rfl gU) ?_
      refine al_nil ?_
      refine awp_block ?_
      refine awp_for (ι := Nat) { t := [(0, _, _), (5, _, _), (7, _, _), (16, _, _), (17, _, _), (18, _, _), (23, _, _), (24, _, _)], bx := [((.bd 241669 5), _), ((.l 7), _)], ow := [((.b (.bd 241669 5) 1), _), ((.t 8), _)] } (fun k => [(25, true, xi (k : Int)), (8, true, xss (((t.getD i default).fields.take k).map (txtF t)))]) (fun k => []) (fun k => k ≤ (t.getD i default).fields.length) (fun k => (t.getD i default).fields.length - k) (0) (by simp) (sub_mk (⟨sx rfl, ⟨sx rfl, ⟨sx rfl, ⟨sx rfl, ⟨sx rfl, ⟨sx rfl, ⟨sx rfl, ⟨sx rfl, ⟨sx rfl, ⟨sx rfl, trivial⟩⟩⟩⟩⟩⟩⟩⟩⟩⟩) (⟨sx rfl, ⟨sx rfl, trivial⟩⟩) (⟨rfl, ⟨rfl, trivial⟩⟩)) ?_
      intro k hok2
      dsimp only [List.cons_append, List.nil_append]
      refine awp_seq (awp_region ?_)
      refine al_pure rfl rfl rfl (pure_cmp rfl rfl gU gU rfl) ?_
      refine al_nil ?_
      refine awp_seq ?_
      refine awp_cond rfl (fun hc3 => ?_) (fun hc3 => ?_)
      · try simp only [nn, Fm.rows_len, Fd.rows_len, strR_len] at hc3
        have hfo := hT.fdOk (i := i) (by omega) (k := k) (by omega)
        have hns := (hT.fds (i := i) (by omega)).nest k (by omega)
        refine awp_skip ?_
        refine awp_seq ?_
        refine awp_block ?_
        refine awp_seq (awp_region ?_)
        refine al_pure rfl rfl rfl (pure_indexAddr rfl rfl gU gU rfl rfl rfl (fun hh => Fd.rows_at (by first | omega | (simp at hh; omega)))) ?_
        refine al_pure rfl rfl rfl (pure_loadRoRow rfl gU rfl rfl rfl rfl) ?_
        refine al_do rfl (does_alloc rfl rfl rfl) ?_
        refine al_do rfl (does_store rfl rfl rfl rfl rfl rfl rfl) ?_
        refine al_nil ?_
        refine awp_region ?_
        refine al_do rfl (does_take (.inl rfl) rfl rfl rfl) ?_
        refine al_pure rfl rfl rfl (pure_move rfl gU) ?_
        refine al_pure rfl rfl rfl (pure_loadBoxRow rfl gU rfl rfl rfl rfl rfl) ?_
        refine al_call rfl rfl rfl rfl rfl rfl gU gU (ftext_spec _ _ hc hfo (fun h => (hns h).1)) rfl ?_
        refine al_buildSlice (xs := [_]) rfl rfl rfl rfl rfl rfl rfl rfl rfl gU rfl ?_
        refine al_do rfl (does_append rfl rfl rfl rfl rfl rfl rfl (by first | omega | (simp only [List.length_append, List.length_singleton, strR_len, List.length_map, List.length_take]; omega)) (by first | omega | (simp only [List.length_append, List.length_singleton, strR_len, List.length_map, List.length_take]; omega))) ?_
        refine al_do rfl (does_take (.inr rfl) rfl rfl rfl) ?_
        refine al_nil ?_
        refine awp_sub (s := { t := [(0, _, _), (5, _, _), (7, _, _), (8, _, _), (16, _, _), (17, _, _), (18, _, _), (23, _, _), (24, _, _), (25, _, _)], bx := [((.bd 241669 5), _), ((.l 7), _)], ow := [((.b (.bd 241669 5) 1), _), ((.t 8), _)] }) (sub_mk (⟨sx rfl, ⟨sx rfl, ⟨sx rfl, ⟨sx rfl, ⟨sx rfl, ⟨sx rfl, ⟨sx rfl, ⟨sx rfl, ⟨sx rfl, ⟨sx rfl, trivial⟩⟩⟩⟩⟩⟩⟩⟩⟩⟩) (⟨sx rfl, ⟨sx rfl, trivial⟩⟩) (⟨rfl, ⟨rfl, trivial⟩⟩)) ?_
        refine awp_region ?_
        refine al_pure rfl rfl rfl (pure_arith rfl rfl gU gU rfl (IntWalk.i64_in _ (by omega))) ?_
        refine al_pure rfl rfl rfl (pure_move rfl gU) ?_
        refine al_nil ?_
        refine ⟨k + 1, ?_, ?_, sub_mk (⟨⟨_, rfl, ?_⟩, ⟨⟨_, rfl, ?_⟩, ⟨sx rfl, ⟨sx rfl, ⟨sx rfl, ⟨sx rfl, ⟨sx rfl, ⟨sx rfl, ⟨sx rfl, ⟨sx rfl, trivial⟩⟩⟩⟩⟩⟩⟩⟩⟩⟩) (⟨sx rfl, ⟨sx rfl, trivial⟩⟩) (⟨rfl, ⟨rfl, trivial⟩⟩)⟩
        all_goals (first | rfl | omega | exact tx (by rw [map_take (txtF t) default (by omega)]; exact xss_snoc _ _))
      · try simp only [nn, Fm.rows_len, Fd.rows_len, strR_len] at hc3
        have hk : k = (t.getD i default).fields.length := by omega
        have hjl := take_len31 hc (i := i) (by omega) (t.getD i default).fields.length
        rw [List.take_length] at hjl
        rw [hk, List.take_length]
        refine awp_exit ?_
        repeat (first | refine thenS_exit ?_ | refine blockS_hit ?_ | refine blockS_miss rfl ?_)
        refine awp_drawn' (by kernel_rfl) ?_
        refine dr_pure rfl rfl rfl rfl (pure_fieldPtr rfl gU rfl rfl) ?_
        refine dr_load rfl rfl rfl rfl rfl rfl rfl gU rfl rfl rfl rfl ?_
        refine dr_pure rfl rfl rfl rfl (pure_concat rfl rfl gU gU (by first | omega | (simp only [List.length_append, Array.length_toList, List.size_toArray, List.length_cons, List.length_nil]; omega))) ?_
        refine dr_pure rfl rfl rfl rfl (pure_move rfl gU) ?_
        refine dr_callN rfl rfl rfl rfl rfl rfl rfl gU gU (join_spec _ (by rw [List.length_map]; omega) _ (by show (Lib.join ((t.getD i default).fields.map (txtF t)) [44, 32]).length ≤ _; omega)) rfl ?_
        refine dr_pure rfl rfl rfl rfl (pure_concat rfl rfl gU gU (by first | omega | (simp only [List.length_append, Array.length_toList, List.size_toArray, List.length_cons, List.length_nil]; omega))) ?_
        refine dr_pure rfl rfl rfl rfl (pure_concat rfl rfl gU gU (by first | omega | (simp only [List.length_append, Array.length_toList, List.size_toArray, List.length_cons, List.length_nil]; omega))) ?_
        refine dr_bws (k := 5) bds rfl rfl rfl rfl rfl rfl rfl rfl (rko (ak rfl (ak rfl (ak rfl (ak rfl (ak rfl (ak rfl (ak rfl (rfl))))))))) (by first | omega | (simp only [List.length_append, Array.length_toList, List.size_toArray, List.length_cons, List.length_nil]; omega)) ?_
        refine dr_nil (by kernel_rfl) ?_
        refine awp_sub (s := { t := [(0, _, _), (5, _, _), (16, _, _), (17, _, _), (18, _, _)], bx := [((.bd 241669 5), _)], ow := [((.b (.bd 241669 5) 1), _)] }) (sub_mk (⟨sx rfl, ⟨sx rfl, ⟨sx rfl, ⟨sx rfl, ⟨sx rfl, trivial⟩⟩⟩⟩⟩) (⟨sx rfl, trivial⟩) (⟨rfl, trivial⟩)) ?_
        refine awp_region ?_
        refine al_pure rfl rfl rfl (pure_arith rfl rfl gU gU rfl (IntWalk.i64_in _ (by omega))) ?_
        refine al_pure rfl rfl rfl (pure_move rfl gU) ?_
        refine al_nil ?_
        refine ⟨i + 1, ?_, ?_, sub_mk (⟨⟨_, rfl, ?_⟩, ⟨sx rfl, ⟨sx rfl, ⟨sx rfl, ⟨sx rfl, trivial⟩⟩⟩⟩⟩) (⟨⟨_, rfl, ?_⟩, trivial⟩) (⟨rfl, trivial⟩)⟩
        all_goals (first | rfl | omega | (refine bdc ?_; rw [txtP, lineF]; simp only [List.append_assoc] <;> rfl))
    · try simp only [nn, Fm.rows_len, Fd.rows_len, strR_len] at hc2
      have hi : i = t.length := by omega
      rw [hi]
      refine awp_exit ?_
      repeat (first | refine thenS_exit ?_ | refine blockS_hit ?_ | refine blockS_miss rfl ?_)
      refine awp_seq (awp_region ?_)
      refine al_bst bds rfl rfl rfl rfl rfl rfl rfl rfl ?_
      refine al_pure rfl rfl rfl (pure_assign rfl gU) ?_
      refine al_pure rfl rfl rfl (pure_assign rfl gU) ?_
      refine al_nil ?_
      refine awp_ret ?_
      repeat (first | refine tR ?_ | refine bR ?_)
      refine ret_ok rfl ?_ trivial
      rfl
end Go.Proofs.YthfoclblmdnckaaDoor
/- Contracts: fields read from their texts. -/
set_option linter.unusedVariables false
set_option linter.unusedSimpArgs false
namespace Go.Proofs.YthfoclblmdnckaaDoor
open Go Go.Abs
theorem digitI : ∀ n : Fin 10, Lib.digitVal (UInt8.ofNat (48 + n.val)) = some n.val ∧ (UInt8.ofNat (48 + n.val)).toNat = 48 + n.val := by decide +kernel
theorem dec_digit (n : Nat) : ∀ b ∈ Lib.decDigits n, 48 ≤ b.toNat ∧ b.toNat ≤ 57 := by
  induction n using Nat.strongRecOn with
  | ind n ih =>
    intro b hb
    rw [Lib.decDigits] at hb
    split at hb
    · rename_i h
      simp only [List.mem_singleton] at hb
      have := (digitI ⟨n, h⟩).2
      dsimp only at this
      subst hb; omega
    · rename_i h
      rcases List.mem_append.1 hb with q | q
      · exact ih (n / 10) (by omega) b q
      · simp only [List.mem_singleton] at q
        have := (digitI ⟨n % 10, by omega⟩).2
        subst q; dsimp only at this; omega
theorem decFrom_snoc : ∀ (l : List UInt8) (b : UInt8) (a m d : Nat), Lib.decFrom a l = some m → Lib.digitVal b = some d → Lib.decFrom a (l ++ [b]) = some (m * 10 + d)
  | [], b, a, m, d, h, hd => by
    simp only [Lib.decFrom, Option.some.injEq] at h
    subst h
    simp [Lib.decFrom, hd]
  | c :: l, b, a, m, d, h, hd => by
    cases hc : Lib.digitVal c with
    | none => simp only [Lib.decFrom, hc] at h; cases h
    | some e =>
      simp only [List.cons_append, Lib.decFrom, hc] at h ⊢
      exact decFrom_snoc l b _ m d h hd
theorem decFrom_dec (n : Nat) : Lib.decFrom 0 (Lib.decDigits n) = some n := by
  induction n using Nat.strongRecOn with
  | ind n ih =>
    rw [Lib.decDigits]
    split
    · rename_i h
      have := (digitI ⟨n, h⟩).1
      dsimp only at this
      simp only [Lib.decFrom, this, Nat.zero_mul, Nat.zero_add]
    · rename_i h
      rw [decFrom_snoc _ _ 0 (n / 10) (n % 10) (ih (n / 10) (by omega)) (digitI ⟨n % 10, by omega⟩).1]
      congr 1; omega
theorem dec_ne (n : Nat) : ∃ b r, Lib.decDigits n = b :: r := by
  cases h : Lib.decDigits n with
  | nil =>
    rw [Lib.decDigits] at h
    split at h <;> simp at h
  | cons b r => exact ⟨b, r, rfl⟩
theorem atoi_dec (n : Nat) : Lib.atoi (Lib.decDigits n) = some (n : Int) := by
  obtain ⟨b, r, h⟩ := dec_ne n
  have h1 := dec_digit n b (by rw [h]; simp)
  have h2 := decFrom_dec n
  rw [h] at h2 ⊢
  have e1 : (b == 45) = false := by
    rw [beq_eq_false_iff_ne]; intro q; subst q; revert h1; decide
  have e2 : (b == 43) = false := by
    rw [beq_eq_false_iff_ne]; intro q; subst q; revert h1; decide
  simp only [Lib.atoi, e1, e2, Bool.false_eq_true, if_false, Lib.decNat, List.isEmpty_cons, h2, Option.map_some]
theorem number_spec (n : Nat) (h : n ≤ 1000) : Ctr sys 57 [xs (Lib.decDigits n)] [] (.tup [.c (.i .i64 (n : Int)), .c (.b true)]) none [] := by
  have hl := dec_len 3 n (by omega)
  refine spec_intro Tryd.func57 rfl rfl rfl rfl rfl rfl ?_
  refine awp_seq (awp_region ?_)
  refine al_pure rfl rfl rfl (pure_assign rfl gU) ?_
  refine al_pure rfl rfl rfl (pure_assign rfl gU) ?_
  refine al_nil ?_
  refine awp_seq ?_
  refine awp_seq (awp_region ?_)
  refine al_pure rfl rfl rfl (pure_move rfl gU) ?_
  refine al_lenS rfl rfl rfl rfl rfl gU (Tryd.underlying9) ?_ (fun hh => by simp at hh); intro hlen
  refine al_pure rfl rfl rfl (pure_cmp rfl rfl gU gU rfl) ?_
  refine al_nil ?_
  refine awp_sub (s := { t := [(0, _, _), (8, _, _)], bx := [], ow := [] }) (sub_mk (⟨sx rfl, ⟨sx rfl, trivial⟩⟩) trivial trivial) ?_
  refine awp_cond rfl (fun hc => ?_) (fun hc => ?_)
  · try simp only [nn] at hc
    exfalso; omega
  · try simp only [nn] at hc
    refine awp_skip ?_
    refine awp_seq (awp_region ?_)
    refine al_pure rfl rfl rfl (pure_move rfl gU) ?_
    refine al_call rfl rfl rfl rfl rfl rfl gU gU (atoi_spec _ _ (by omega) (atoi_dec n)) rfl ?_
    refine al_pure rfl rfl rfl (pure_move rfl gU) ?_
    refine al_pure rfl rfl rfl (pure_extract rfl gU rfl) ?_
    refine al_pure rfl rfl rfl (pure_extract rfl gU rfl) ?_
    refine al_pure rfl rfl rfl (pure_assign rfl gU) ?_
    refine al_pure rfl rfl rfl (pure_assign rfl gU) ?_
    refine al_nil ?_
    refine awp_sub (s := { t := [(0, _, _), (4, _, _), (5, _, _)], bx := [], ow := [] }) (sub_mk (⟨sx rfl, ⟨sx rfl, ⟨sx rfl, trivial⟩⟩⟩) trivial trivial) ?_
    refine awp_seq (awp_region ?_)
    refine al_pure rfl rfl rfl (pure_move rfl gU) ?_
    refine al_pure rfl rfl rfl (pure_move rfl gU) ?_
    refine al_pure rfl rfl rfl (pure_eqNilIface rfl gU Tryd.underlying62) ?_
    refine al_pure rfl rfl rfl (pure_move rfl gU) ?_
    refine al_pure rfl rfl rfl (pure_move rfl gU) ?_
    refine al_call rfl rfl rfl rfl rfl rfl gU (fun hh => gA ((fun hh => hh) hh) (rfl)) (itoa_spec n (by omega) _ rfl) rfl ?_
    refine al_pure rfl rfl rfl (pure_move rfl gU) ?_
    refine al_pure rfl rfl rfl (pure_cmpS rfl rfl (fun hh => hh) (fun hh => hh) rfl) ?_
    refine al_pure rfl rfl rfl (pure_and rfl rfl gU (fun _ hi => gP rfl hi)) ?_
    refine al_pure rfl rfl rfl (pure_move rfl gU) ?_
    refine al_pure rfl rfl rfl (pure_move rfl gU) ?_
    refine al_pure rfl rfl rfl (pure_cmp rfl rfl (fun hh => hh) gU rfl) ?_
    refine al_sub (s := { t := [(14, _, _), (23, _, _), (25, _, _)], bx := [], ow := [] }) (sub_mk (⟨sx rfl, ⟨sx rfl, ⟨sx rfl, trivial⟩⟩⟩) trivial trivial) ?_
    refine al_pure rfl rfl rfl (pure_and rfl rfl gU (fun _ hi => gP rfl hi)) ?_
    refine al_pure rfl rfl rfl (pure_assign rfl gU) ?_
    refine al_pure rfl rfl rfl (pure_assign rfl gU) ?_
    refine al_nil ?_
    refine awp_ret ?_
    repeat (first | refine tR ?_ | refine bR ?_)
    refine ret_ok rfl ?_ trivial
    (simp; rfl)
theorem hexE_get : ∀ {s : List UInt8} {k : Nat}, k < s.length → (hexE s).getD (2 * k) 0 = hexs.getD ((s.getD k 0).toNat / 16) 0 ∧ (hexE s).getD (2 * k + 1) 0 = hexs.getD ((s.getD k 0).toNat % 16) 0
  | b :: s, 0, _ => ⟨rfl, rfl⟩
  | b :: s, k + 1, h => by
    have ih := hexE_get (s := s) (k := k) (by simpa using h)
    rw [show 2 * (k + 1) = 2 * k + 1 + 1 by omega, hexE]
    simp only [List.getD_cons_succ]
    exact ih
theorem ixI : ∀ n : Fin 16, Lib.indexByte hexs (hexs.getD n.val 0) = n.val := by decide +kernel
theorem ix16 {n : Nat} (h : n < 16) : Lib.indexByte hexs (hexs.getD n 0) = n := ixI ⟨n, h⟩
theorem rng16 (c : UInt8) : (c.toNat : Int) = 16 * ((c.toNat / 16 : Nat) : Int) + ((c.toNat % 16 : Nat) : Int) := by omega
theorem bytes_spec (s : List UInt8) (hs : s.length ≤ 1000) : Ctr sys 58 [xs (hexE s)] [] (.tup [.c (.s s), .c (.b true)]) none [] := by
  have hl := hexE_len s
  refine spec_intro Tryd.func58 rfl rfl rfl rfl rfl rfl ?_
  refine awp_seq (awp_region ?_)
  refine al_pure rfl rfl rfl (pure_assign rfl gU) ?_
  refine al_pure rfl rfl rfl (pure_assign rfl gU) ?_
  refine al_nil ?_
  refine awp_seq (awp_region ?_)
  refine al_do rfl (does_nil (.inr rfl) rfl rfl) ?_
  refine al_nil ?_
  refine awp_seq ?_
  refine awp_seq (awp_region ?_)
  refine al_pure rfl rfl rfl (pure_assign rfl gU) ?_
  refine al_nil ?_
  refine awp_block ?_
  refine awp_for (ι := Nat) { t := [(0, _, _)], bx := [], ow := [((.t 4), _)] } (fun k => [(5, true, xi (2 * (k : Int))), (4, true, xbs (s.take k))]) (fun k => []) (fun k => k ≤ s.length) (fun k => s.length - k) (0) (by simp) (sub_mk (⟨sx rfl, ⟨sx rfl, ⟨sx rfl, trivial⟩⟩⟩) trivial (⟨rfl, trivial⟩)) ?_
  intro k hok
  dsimp only [List.cons_append, List.nil_append]
  have hu := (s.getD k 0).toNat_lt
  have hbl := bytesR_len (s.take k)
  have htl : (s.take k).length = k := by rw [List.length_take]; omega
  refine awp_seq ?_
  refine awp_seq (awp_region ?_)
  refine al_pure rfl rfl rfl (pure_move rfl gU) ?_
  refine al_pure rfl rfl rfl (pure_arith rfl rfl gU gU rfl (IntWalk.i64_in _ (by omega))) ?_
  refine al_pure rfl rfl rfl (pure_move rfl gU) ?_
  refine al_lenS rfl rfl rfl rfl rfl gU (Tryd.underlying9) ?_ (fun hh => by simp at hh); intro hlen
  refine al_pure rfl rfl rfl (pure_cmp rfl rfl gU gU rfl) ?_
  refine al_nil ?_
  refine awp_sub (s := { t := [(0, _, _), (4, _, _), (5, _, _), (12, _, _)], bx := [], ow := [((.t 4), _)] }) (sub_mk (⟨sx rfl, ⟨sx rfl, ⟨sx rfl, ⟨sx rfl, trivial⟩⟩⟩⟩) trivial (⟨rfl, trivial⟩)) ?_
  refine awp_cond rfl (fun hc => ?_) (fun hc => ?_)
  · try simp only [nn] at hc
    obtain ⟨g1, g2⟩ := hexE_get (s := s) (k := k) (by omega)
    have i1 := indexByte_spec hexs ((hexE s).getD (2 * k) 0) _ rfl
    have i2 := indexByte_spec hexs ((hexE s).getD (2 * k + 1) 0) _ rfl
    have x1 : Lib.indexByte hexs ((hexE s).getD (2 * k) 0) = (((s.getD k 0).toNat / 16 : Nat) : Int) := by rw [g1]; exact ix16 (by omega)
    have x2 : Lib.indexByte hexs ((hexE s).getD (2 * k + 1) 0) = (((s.getD k 0).toNat % 16 : Nat) : Int) := by rw [g2]; exact ix16 (by omega)
    rw [x1] at i1
    rw [x2] at i2
    refine awp_skip ?_
    refine awp_seq ?_
    refine awp_block ?_
    refine awp_seq ?_
    refine awp_drawn' (by kernel_rfl) ?_
    refine dr_pure rfl rfl rfl rfl (pure_move rfl gU) ?_
    refine dr_pure rfl rfl rfl rfl (pure_move rfl gU) ?_
    refine dr_pure rfl rfl rfl rfl (pure_indexSg (j := 2 * k) rfl rfl gU gU Tryd.underlying9 (by first | omega | (simp at hh; omega)) (fun hh => by first | omega | (simp at hh; omega))) ?_
    refine dr_callN rfl rfl rfl rfl rfl rfl rfl gU gU (i1) rfl ?_
    refine dr_pure rfl rfl rfl rfl (pure_move rfl gU) ?_
    refine dr_pure rfl rfl rfl rfl (pure_move rfl gU) ?_
    refine dr_pure rfl rfl rfl rfl (pure_arith rfl rfl gU gU rfl (IntWalk.i64_in _ (by omega))) ?_
    refine dr_pure rfl rfl rfl rfl (pure_indexSg (j := 2 * k + 1) rfl rfl gU gU Tryd.underlying9 (by first | omega | (simp at hh; omega)) (fun hh => by first | omega | (simp at hh; omega))) ?_
    refine dr_callN rfl rfl rfl rfl rfl rfl rfl gU gU (i2) rfl ?_
    refine dr_pure rfl rfl rfl rfl (pure_assign rfl gU) ?_
    refine dr_pure rfl rfl rfl rfl (pure_assign rfl gU) ?_
    refine dr_nil (by kernel_rfl) ?_
    refine awp_sub (s := { t := [(0, _, _), (4, _, _), (5, _, _), (6, _, _), (7, _, _)], bx := [], ow := [((.t 4), _)] }) (sub_mk (⟨sx rfl, ⟨sx rfl, ⟨sx rfl, ⟨sx rfl, ⟨sx rfl, trivial⟩⟩⟩⟩⟩) trivial (⟨(ak rfl (ak rfl (ak rfl (ak rfl (ak rfl (ak rfl (ak rfl (ak rfl (ak rfl (ak rfl (ak rfl (rfl)))))))))))), trivial⟩)) ?_
    refine awp_seq ?_
    refine awp_seq (awp_region ?_)
    refine al_pure rfl rfl rfl (pure_move rfl gU) ?_
    refine al_pure rfl rfl rfl (pure_cmp rfl rfl gU gU rfl) ?_
    refine al_pure rfl rfl rfl (pure_move rfl gU) ?_
    refine al_pure rfl rfl rfl (pure_move rfl gU) ?_
    refine al_pure rfl rfl rfl (pure_cmp rfl rfl (fun hh => hh) gU rfl) ?_
    refine al_pure rfl rfl rfl (pure_or rfl rfl gU (fun _ hi => gP rfl hi)) ?_
    refine al_nil ?_
    refine awp_sub (s := { t := [(0, _, _), (4, _, _), (5, _, _), (6, _, _), (7, _, _), (29, _, _)], bx := [], ow := [((.t 4), _)] }) (sub_mk (⟨sx rfl, ⟨sx rfl, ⟨sx rfl, ⟨sx rfl, ⟨sx rfl, ⟨sx rfl, trivial⟩⟩⟩⟩⟩⟩) trivial (⟨rfl, trivial⟩)) ?_
    refine awp_cond rfl (fun hc2 => ?_) (fun hc2 => ?_)
    · try simp only [nn] at hc2
      exfalso; omega
    · try simp only [nn] at hc2
      refine awp_skip ?_
      refine awp_region ?_
      refine al_do rfl (does_take (.inl rfl) rfl rfl rfl) ?_
      refine al_pure rfl rfl rfl (pure_move rfl gU) ?_
      refine al_pure rfl rfl rfl (pure_arith rfl rfl gU gU rfl (IntWalk.i64_in _ (by omega))) ?_
      refine al_pure rfl rfl rfl (pure_move rfl gU) ?_
      refine al_pure rfl rfl rfl (pure_arith rfl rfl gU gU rfl (IntWalk.i64_in _ (by omega))) ?_
      refine al_pure rfl rfl rfl (pure_convInt rfl gU ⟨_, Tryd.underlying3⟩ (Tryd.underlying5) (IntWalk.u8_in _ (by omega))) ?_
      refine al_buildSlice (xs := [_]) rfl rfl rfl rfl rfl rfl rfl rfl rfl gU rfl ?_
      refine al_do rfl (does_append rfl rfl rfl rfl rfl rfl rfl (by first | omega | (rw [bytesR_len]; simp; omega)) (by first | omega | (rw [bytesR_len]; simp; omega))) ?_
      refine al_do rfl (does_take (.inr rfl) rfl rfl rfl) ?_
      refine al_nil ?_
      refine awp_sub (s := { t := [(0, _, _), (4, _, _), (5, _, _)], bx := [], ow := [((.t 4), _)] }) (sub_mk (⟨sx rfl, ⟨sx rfl, ⟨sx rfl, trivial⟩⟩⟩) trivial (⟨rfl, trivial⟩)) ?_
      refine awp_region ?_
      refine al_pure rfl rfl rfl (pure_move rfl gU) ?_
      refine al_pure rfl rfl rfl (pure_arith rfl rfl gU gU rfl (IntWalk.i64_in _ (by omega))) ?_
      refine al_pure rfl rfl rfl (pure_assign rfl gU) ?_
      refine al_nil ?_
      refine ⟨k + 1, ?_, ?_, sub_mk (⟨⟨_, rfl, ?_⟩, ⟨⟨_, rfl, ?_⟩, ⟨sx rfl, trivial⟩⟩⟩) trivial (⟨rfl, trivial⟩)⟩
      all_goals (first | omega | rfl | exact tx (xi_eq (by omega)) | exact tx ((xbs_snoc _ (s.getD k 0) _ (rng16 _)).trans (by rw [take_getD (d := 0) (by omega)])))
  · try simp only [nn] at hc
    have hk : k = s.length := by omega
    rw [hk, List.take_length]
    have hr : ((hexE s).length : Int) % 2 = 0 := by omega
    refine awp_exit ?_
    repeat (first | refine thenS_exit ?_ | refine blockS_hit ?_ | refine blockS_miss rfl ?_)
    refine awp_seq (awp_region ?_)
    refine al_pure rfl rfl rfl (pure_move rfl gU) ?_
    refine al_pure rfl rfl rfl (pure_bytesStr rfl (rfl) gU Tryd.underlying35 Tryd.underlying5 Tryd.underlying9) ?_
    refine al_pure rfl rfl rfl (pure_move rfl gU) ?_
    refine al_lenS rfl rfl rfl rfl rfl gU (Tryd.underlying9) ?_ (fun hh => by simp at hh); intro hlen
    refine al_pure rfl rfl rfl (pure_remG rfl rfl gU gU (fun hh => by first | omega | (simp at hh; omega)) (fun hh => Int.tmod_eq_emod_of_nonneg (by first | omega | (simp at hh; omega)))) ?_
    refine al_pure rfl rfl rfl (pure_cmp rfl rfl gU gU rfl) ?_
    refine al_pure rfl rfl rfl (pure_assign rfl gU) ?_
    refine al_pure rfl rfl rfl (pure_assign rfl gU) ?_
    refine al_nil ?_
    refine awp_ret ?_
    repeat (first | refine tR ?_ | refine bR ?_)
    refine ret_ok rfl ?_ trivial
    (rw [hr]; rfl)
end Go.Proofs.YthfoclblmdnckaaDoor
/- Contracts: fields read from their texts, kind by kind. -/
set_option linter.unusedVariables false
set_option linter.unusedSimpArgs false
namespace Go.Proofs.YthfoclblmdnckaaDoor
open Go Go.Abs
abbrev xfb (f : Fd) : X := .tup [.agg f.cells, .c (.b true)]
def wNum : List UInt8 := [110, 117, 109, 98, 101, 114]
def wRest : List UInt8 := [114, 101, 115, 116]
def wTag : List UInt8 := [116, 97, 103]
def wFix : List UInt8 := [102, 105, 120, 101, 100]
def wByt : List UInt8 := [98, 121, 116, 101, 115]
def wNst : List UInt8 := [110, 101, 115, 116, 101, 100]
theorem fieldNum_spec (t : List Fm) (s : List UInt8) (lo hi : Nat) (hl : s.length ≤ 1000) (h1 : lo ≤ 1000) (h2 : hi ≤ 1000) (hs : Lib.split s [32] = [wNum, Lib.decDigits lo, Lib.decDigits hi]) :
    Ctr sys 37 [xtab t, xs s] [] (xfb ⟨4, [], 0, lo, hi⟩) none [] := by
  have hp := split_spec s [32] (by omega) (by decide)
  rw [hs] at hp
  refine spec_intro Tryd.func37 rfl rfl rfl rfl rfl rfl ?_
  refine awp_seq (awp_region ?_)
  refine al_do rfl (does_alloc rfl rfl rfl) ?_
  refine al_pure rfl rfl rfl (pure_assign rfl gU) ?_
  refine al_nil ?_
  refine awp_seq (awp_region ?_)
  refine al_pure rfl rfl rfl (pure_move rfl gU) ?_
  refine al_call rfl rfl rfl rfl rfl rfl gU gU (hp) rfl ?_
  refine al_pure rfl rfl rfl (pure_assign rfl gU) ?_
  refine al_nil ?_
  refine awp_sub (s := { t := [(0, _, _), (4, _, _), (6, _, _)], bx := [((.l 4), _)], ow := [] }) (sub_mk (⟨sx rfl, ⟨sx rfl, ⟨sx rfl, trivial⟩⟩⟩) (⟨sx rfl, trivial⟩) trivial) ?_
  refine awp_seq (awp_region ?_)
  refine al_do rfl (does_alloc rfl rfl rfl) ?_
  refine al_nil ?_
  refine awp_seq (awp_region ?_)
  refine al_pure rfl rfl rfl (pure_assign rfl gU) ?_
  refine al_nil ?_
  refine awp_seq ?_
  refine awp_seq (awp_region ?_)
  refine al_pure rfl rfl rfl (pure_move rfl gU) ?_
  refine al_lenSl rfl rfl rfl rfl rfl gU rfl rfl ?_ (fun hh => by simp at hh); intro hlen
  refine al_pure rfl rfl rfl (pure_cmp rfl rfl gU gU rfl) ?_
  refine al_pure rfl rfl rfl (pure_move rfl gU) ?_
  refine al_pure rfl rfl rfl (pure_move rfl gU) ?_
  refine al_pure rfl rfl rfl (pure_indexAddr (j := 0) rfl rfl (fun hh => hh) gU rfl rfl (by first | omega | (simp [strR]; done) | (simp at hh; omega)) (fun hh => strR_at (by first | omega | (simp [strR]; done) | (simp at hh; omega)))) ?_
  refine al_pure rfl rfl rfl (pure_loadRo rfl (fun hh => hh) rfl rfl rfl) ?_
  refine al_pure rfl rfl rfl (pure_cmpS rfl rfl (fun hh => hh) gU rfl) ?_
  refine al_pure rfl rfl rfl (pure_move rfl (fun hh => hh)) ?_
  refine al_pure rfl rfl rfl (pure_move rfl gU) ?_
  refine al_sub (s := { t := [(0, _, _), (4, _, _), (6, _, _), (7, _, _), (8, _, _), (15, _, _), (20, _, _), (21, _, _)], bx := [((.l 4), _), ((.l 7), _)], ow := [] }) (sub_mk (⟨sx rfl, ⟨sx rfl, ⟨sx rfl, ⟨sx rfl, ⟨sx rfl, ⟨sx rfl, ⟨sx rfl, ⟨sx rfl, trivial⟩⟩⟩⟩⟩⟩⟩⟩) (⟨sx rfl, ⟨sx rfl, trivial⟩⟩) trivial) ?_
  refine al_pure rfl rfl rfl (pure_indexAddr (j := 0) rfl rfl (fun hh => hh) gU rfl rfl (by first | omega | (simp [strR]; done) | (simp at hh; omega)) (fun hh => strR_at (by first | omega | (simp [strR]; done) | (simp at hh; omega)))) ?_
  refine al_pure rfl rfl rfl (pure_loadRo rfl (fun hh => hh) rfl rfl rfl) ?_
  refine al_pure rfl rfl rfl (pure_cmpS rfl rfl (fun hh => hh) gU rfl) ?_
  refine al_pure rfl rfl rfl (pure_or rfl rfl (fun hh => hh) (fun hh hi => gP hh hi)) ?_
  refine al_pure rfl rfl rfl (pure_and rfl rfl gU (fun _ hi => gP rfl hi)) ?_
  refine al_nil ?_
  refine awp_sub (s := { t := [(0, _, _), (4, _, _), (6, _, _), (7, _, _), (8, _, _), (26, _, _)], bx := [((.l 4), _), ((.l 7), _)], ow := [] }) (sub_mk (⟨sx rfl, ⟨sx rfl, ⟨sx rfl, ⟨sx rfl, ⟨sx rfl, ⟨sx rfl, trivial⟩⟩⟩⟩⟩⟩) (⟨sx rfl, ⟨sx rfl, trivial⟩⟩) trivial) ?_
  refine awp_cond rfl (fun hc => ?_) (fun hc => ?_)
  · refine awp_seq (awp_region ?_)
    refine al_pure rfl rfl rfl (pure_fieldPtr rfl gU rfl rfl) ?_
    refine al_do rfl (does_store rfl rfl rfl rfl rfl rfl rfl) ?_
    refine al_nil ?_
    refine awp_seq ?_
    refine awp_seq (awp_region ?_)
    refine al_pure rfl rfl rfl (pure_move rfl gU) ?_
    refine al_pure rfl rfl rfl (pure_indexAddr (j := 0) rfl rfl gU gU rfl rfl (by first | omega | (simp [strR]; done) | (simp at hh; omega)) (fun hh => strR_at (by first | omega | (simp [strR]; done) | (simp at hh; omega)))) ?_
    refine al_pure rfl rfl rfl (pure_loadRo rfl gU rfl rfl rfl) ?_
    refine al_pure rfl rfl rfl (pure_cmpS rfl rfl gU gU rfl) ?_
    refine al_nil ?_
    refine awp_sub (s := { t := [(4, _, _), (6, _, _), (7, _, _), (31, _, _)], bx := [((.l 4), _), ((.l 7), _)], ow := [] }) (sub_mk (⟨sx rfl, ⟨sx rfl, ⟨sx rfl, ⟨sx rfl, trivial⟩⟩⟩⟩) (⟨sx rfl, ⟨sx rfl, trivial⟩⟩) trivial) ?_
    refine awp_cond rfl (fun hc2 => ?_) (fun hc2 => ?_)
    · exfalso; revert hc2; simp [wNum]
    · refine awp_skip ?_
      refine awp_seq (awp_region ?_)
      refine al_pure rfl rfl rfl (pure_assign rfl gU) ?_
      refine al_nil ?_
      refine awp_seq (awp_region ?_)
      refine al_pure rfl rfl rfl (pure_move rfl gU) ?_
      refine al_pure rfl rfl rfl (pure_indexAddr (j := 1) rfl rfl gU gU rfl rfl (by first | omega | (simp [strR]; done) | (simp at hh; omega)) (fun hh => strR_at (by first | omega | (simp [strR]; done) | (simp at hh; omega)))) ?_
      refine al_pure rfl rfl rfl (pure_loadRo rfl gU rfl rfl rfl) ?_
      refine al_call rfl rfl rfl rfl rfl rfl gU gU (number_spec lo h1) rfl ?_
      refine al_pure rfl rfl rfl (pure_move rfl gU) ?_
      refine al_pure rfl rfl rfl (pure_extract rfl gU rfl) ?_
      refine al_pure rfl rfl rfl (pure_extract rfl gU rfl) ?_
      refine al_pure rfl rfl rfl (pure_fieldPtr rfl gU rfl rfl) ?_
      refine al_do rfl (does_store rfl rfl rfl rfl rfl rfl rfl) ?_
      refine al_pure rfl rfl rfl (pure_assign rfl gU) ?_
      refine al_nil ?_
      refine awp_sub (s := { t := [(4, _, _), (6, _, _), (7, _, _), (8, _, _)], bx := [((.l 4), _), ((.l 7), _)], ow := [] }) (sub_mk (⟨sx rfl, ⟨sx rfl, ⟨sx rfl, ⟨sx rfl, trivial⟩⟩⟩⟩) (⟨sx rfl, ⟨sx rfl, trivial⟩⟩) trivial) ?_
      refine awp_seq (awp_region ?_)
      refine al_pure rfl rfl rfl (pure_move rfl gU) ?_
      refine al_pure rfl rfl rfl (pure_indexAddr (j := 2) rfl rfl gU gU rfl rfl (by first | omega | (simp [strR]; done) | (simp at hh; omega)) (fun hh => strR_at (by first | omega | (simp [strR]; done) | (simp at hh; omega)))) ?_
      refine al_pure rfl rfl rfl (pure_loadRo rfl gU rfl rfl rfl) ?_
      refine al_call rfl rfl rfl rfl rfl rfl gU gU (number_spec hi h2) rfl ?_
      refine al_pure rfl rfl rfl (pure_move rfl gU) ?_
      refine al_pure rfl rfl rfl (pure_extract rfl gU rfl) ?_
      refine al_pure rfl rfl rfl (pure_extract rfl gU rfl) ?_
      refine al_pure rfl rfl rfl (pure_fieldPtr rfl gU rfl rfl) ?_
      refine al_do rfl (does_store rfl rfl rfl rfl rfl rfl rfl) ?_
      refine al_pure rfl rfl rfl (pure_assign rfl gU) ?_
      refine al_nil ?_
      refine awp_sub (s := { t := [(4, _, _), (7, _, _), (8, _, _), (9, _, _)], bx := [((.l 4), _), ((.l 7), _)], ow := [] }) (sub_mk (⟨sx rfl, ⟨sx rfl, ⟨sx rfl, ⟨sx rfl, trivial⟩⟩⟩⟩) (⟨sx rfl, ⟨sx rfl, trivial⟩⟩) trivial) ?_
      refine awp_seq (awp_region ?_)
      refine al_pure rfl rfl rfl (pure_loadBoxRow rfl gU rfl rfl rfl rfl rfl) ?_
      refine al_pure rfl rfl rfl (pure_move rfl gU) ?_
      refine al_pure rfl rfl rfl (pure_move rfl gU) ?_
      refine al_pure rfl rfl rfl (pure_move rfl gU) ?_
      refine al_pure rfl rfl rfl (pure_and rfl rfl gU (fun _ hi => gP rfl hi)) ?_
      refine al_do rfl (does_store rfl rfl rfl rfl rfl rfl rfl) ?_
      refine al_pure rfl rfl rfl (pure_assign rfl gU) ?_
      refine al_nil ?_
      refine awp_ret ?_
      repeat (first | refine tR ?_ | refine bR ?_)
      refine ret_ok rfl ?_ trivial
      rfl
  · exfalso; revert hc; simp [strR, wNum]
theorem fieldRest_spec (t : List Fm) (s : List UInt8) (lo hi : Nat) (hl : s.length ≤ 1000) (h1 : lo ≤ 1000) (h2 : hi ≤ 1000) (hs : Lib.split s [32] = [wRest, Lib.decDigits lo, Lib.decDigits hi]) :
    Ctr sys 37 [xtab t, xs s] [] (xfb ⟨6, [], 0, lo, hi⟩) none [] := by
  have hp := split_spec s [32] (by omega) (by decide)
  rw [hs] at hp
  refine spec_intro Tryd.func37 rfl rfl rfl rfl rfl rfl ?_
  refine awp_seq (awp_region ?_)
  refine al_do rfl (does_alloc rfl rfl rfl) ?_
  refine al_pure rfl rfl rfl (pure_assign rfl gU) ?_
  refine al_nil ?_
  refine awp_seq (awp_region ?_)
  refine al_pure rfl rfl rfl (pure_move rfl gU) ?_
  refine al_call rfl rfl rfl rfl rfl rfl gU gU (hp) rfl ?_
  refine al_pure rfl rfl rfl (pure_assign rfl gU) ?_
  refine al_nil ?_
  refine awp_sub (s := { t := [(0, _, _), (4, _, _), (6, _, _)], bx := [((.l 4), _)], ow := [] }) (sub_mk (⟨sx rfl, ⟨sx rfl, ⟨sx rfl, trivial⟩⟩⟩) (⟨sx rfl, trivial⟩) trivial) ?_
  refine awp_seq (awp_region ?_)
  refine al_do rfl (does_alloc rfl rfl rfl) ?_
  refine al_nil ?_
  refine awp_seq (awp_region ?_)
  refine al_pure rfl rfl rfl (pure_assign rfl gU) ?_
  refine al_nil ?_
  refine awp_seq ?_
  refine awp_seq (awp_region ?_)
  refine al_pure rfl rfl rfl (pure_move rfl gU) ?_
  refine al_lenSl rfl rfl rfl rfl rfl gU rfl rfl ?_ (fun hh => by simp at hh); intro hlen
  refine al_pure rfl rfl rfl (pure_cmp rfl rfl gU gU rfl) ?_
  refine al_pure rfl rfl rfl (pure_move rfl gU) ?_
  refine al_pure rfl rfl rfl (pure_move rfl gU) ?_
  refine al_pure rfl rfl rfl (pure_indexAddr (j := 0) rfl rfl (fun hh => hh) gU rfl rfl (by first | omega | (simp [strR]; done) | (simp at hh; omega)) (fun hh => strR_at (by first | omega | (simp [strR]; done) | (simp at hh; omega)))) ?_
  refine al_pure rfl rfl rfl (pure_loadRo rfl (fun hh => hh) rfl rfl rfl) ?_
  refine al_pure rfl rfl rfl (pure_cmpS rfl rfl (fun hh => hh) gU rfl) ?_
  refine al_pure rfl rfl rfl (pure_move rfl (fun hh => hh)) ?_
  refine al_pure rfl rfl rfl (pure_move rfl gU) ?_
  refine al_sub (s := { t := [(0, _, _), (4, _, _), (6, _, _), (7, _, _), (8, _, _), (15, _, _), (20, _, _), (21, _, _)], bx := [((.l 4), _), ((.l 7), _)], ow := [] }) (sub_mk (⟨sx rfl, ⟨sx rfl, ⟨sx rfl, ⟨sx rfl, ⟨sx rfl, ⟨sx rfl, ⟨sx rfl, ⟨sx rfl, trivial⟩⟩⟩⟩⟩⟩⟩⟩) (⟨sx rfl, ⟨sx rfl, trivial⟩⟩) trivial) ?_
  refine al_pure rfl rfl rfl (pure_indexAddr (j := 0) rfl rfl (fun hh => hh) gU rfl rfl (by first | omega | (simp [strR]; done) | (simp at hh; omega)) (fun hh => strR_at (by first | omega | (simp [strR]; done) | (simp at hh; omega)))) ?_
  refine al_pure rfl rfl rfl (pure_loadRo rfl (fun hh => hh) rfl rfl rfl) ?_
  refine al_pure rfl rfl rfl (pure_cmpS rfl rfl (fun hh => hh) gU rfl) ?_
  refine al_pure rfl rfl rfl (pure_or rfl rfl (fun hh => hh) (fun hh hi => gP hh hi)) ?_
  refine al_pure rfl rfl rfl (pure_and rfl rfl gU (fun _ hi => gP rfl hi)) ?_
  refine al_nil ?_
  refine awp_sub (s := { t := [(0, _, _), (4, _, _), (6, _, _), (7, _, _), (8, _, _), (26, _, _)], bx := [((.l 4), _), ((.l 7), _)], ow := [] }) (sub_mk (⟨sx rfl, ⟨sx rfl, ⟨sx rfl, ⟨sx rfl, ⟨sx rfl, ⟨sx rfl, trivial⟩⟩⟩⟩⟩⟩) (⟨sx rfl, ⟨sx rfl, trivial⟩⟩) trivial) ?_
  refine awp_cond rfl (fun hc => ?_) (fun hc => ?_)
  · refine awp_seq (awp_region ?_)
    refine al_pure rfl rfl rfl (pure_fieldPtr rfl gU rfl rfl) ?_
    refine al_do rfl (does_store rfl rfl rfl rfl rfl rfl rfl) ?_
    refine al_nil ?_
    refine awp_seq ?_
    refine awp_seq (awp_region ?_)
    refine al_pure rfl rfl rfl (pure_move rfl gU) ?_
    refine al_pure rfl rfl rfl (pure_indexAddr (j := 0) rfl rfl gU gU rfl rfl (by first | omega | (simp [strR]; done) | (simp at hh; omega)) (fun hh => strR_at (by first | omega | (simp [strR]; done) | (simp at hh; omega)))) ?_
    refine al_pure rfl rfl rfl (pure_loadRo rfl gU rfl rfl rfl) ?_
    refine al_pure rfl rfl rfl (pure_cmpS rfl rfl gU gU rfl) ?_
    refine al_nil ?_
    refine awp_sub (s := { t := [(4, _, _), (6, _, _), (7, _, _), (31, _, _)], bx := [((.l 4), _), ((.l 7), _)], ow := [] }) (sub_mk (⟨sx rfl, ⟨sx rfl, ⟨sx rfl, ⟨sx rfl, trivial⟩⟩⟩⟩) (⟨sx rfl, ⟨sx rfl, trivial⟩⟩) trivial) ?_
    refine awp_cond rfl (fun hc2 => ?_) (fun hc2 => ?_)
    · refine awp_region ?_
      refine al_pure rfl rfl rfl (pure_fieldPtr rfl gU rfl rfl) ?_
      refine al_do rfl (does_store rfl rfl rfl rfl rfl rfl rfl) ?_
      refine al_nil ?_
      refine awp_seq (awp_region ?_)
      refine al_pure rfl rfl rfl (pure_assign rfl gU) ?_
      refine al_nil ?_
      refine awp_seq (awp_region ?_)
      refine al_pure rfl rfl rfl (pure_move rfl gU) ?_
      refine al_pure rfl rfl rfl (pure_indexAddr (j := 1) rfl rfl gU gU rfl rfl (by first | omega | (simp [strR]; done) | (simp at hh; omega)) (fun hh => strR_at (by first | omega | (simp [strR]; done) | (simp at hh; omega)))) ?_
      refine al_pure rfl rfl rfl (pure_loadRo rfl gU rfl rfl rfl) ?_
      refine al_call rfl rfl rfl rfl rfl rfl gU gU (number_spec lo h1) rfl ?_
      refine al_pure rfl rfl rfl (pure_move rfl gU) ?_
      refine al_pure rfl rfl rfl (pure_extract rfl gU rfl) ?_
      refine al_pure rfl rfl rfl (pure_extract rfl gU rfl) ?_
      refine al_pure rfl rfl rfl (pure_fieldPtr rfl gU rfl rfl) ?_
      refine al_do rfl (does_store rfl rfl rfl rfl rfl rfl rfl) ?_
      refine al_pure rfl rfl rfl (pure_assign rfl gU) ?_
      refine al_nil ?_
      refine awp_sub (s := { t := [(4, _, _), (6, _, _), (7, _, _), (8, _, _)], bx := [((.l 4), _), ((.l 7), _)], ow := [] }) (sub_mk (⟨sx rfl, ⟨sx rfl, ⟨sx rfl, ⟨sx rfl, trivial⟩⟩⟩⟩) (⟨sx rfl, ⟨sx rfl, trivial⟩⟩) trivial) ?_
      refine awp_seq (awp_region ?_)
      refine al_pure rfl rfl rfl (pure_move rfl gU) ?_
      refine al_pure rfl rfl rfl (pure_indexAddr (j := 2) rfl rfl gU gU rfl rfl (by first | omega | (simp [strR]; done) | (simp at hh; omega)) (fun hh => strR_at (by first | omega | (simp [strR]; done) | (simp at hh; omega)))) ?_
      refine al_pure rfl rfl rfl (pure_loadRo rfl gU rfl rfl rfl) ?_
      refine al_call rfl rfl rfl rfl rfl rfl gU gU (number_spec hi h2) rfl ?_
      refine al_pure rfl rfl rfl (pure_move rfl gU) ?_
      refine al_pure rfl rfl rfl (pure_extract rfl gU rfl) ?_
      refine al_pure rfl rfl rfl (pure_extract rfl gU rfl) ?_
      refine al_pure rfl rfl rfl (pure_fieldPtr rfl gU rfl rfl) ?_
      refine al_do rfl (does_store rfl rfl rfl rfl rfl rfl rfl) ?_
      refine al_pure rfl rfl rfl (pure_assign rfl gU) ?_
      refine al_nil ?_
      refine awp_sub (s := { t := [(4, _, _), (7, _, _), (8, _, _), (9, _, _)], bx := [((.l 4), _), ((.l 7), _)], ow := [] }) (sub_mk (⟨sx rfl, ⟨sx rfl, ⟨sx rfl, ⟨sx rfl, trivial⟩⟩⟩⟩) (⟨sx rfl, ⟨sx rfl, trivial⟩⟩) trivial) ?_
      refine awp_seq (awp_region ?_)
      refine al_pure rfl rfl rfl (pure_loadBoxRow rfl gU rfl rfl rfl rfl rfl) ?_
      refine al_pure rfl rfl rfl (pure_move rfl gU) ?_
      refine al_pure rfl rfl rfl (pure_move rfl gU) ?_
      refine al_pure rfl rfl rfl (pure_move rfl gU) ?_
      refine al_pure rfl rfl rfl (pure_and rfl rfl gU (fun _ hi => gP rfl hi)) ?_
      refine al_do rfl (does_store rfl rfl rfl rfl rfl rfl rfl) ?_
      refine al_pure rfl rfl rfl (pure_assign rfl gU) ?_
      refine al_nil ?_
      refine awp_ret ?_
      repeat (first | refine tR ?_ | refine bR ?_)
      refine ret_ok rfl ?_ trivial
      rfl
    · exfalso; revert hc2; simp [wRest]
  · exfalso; revert hc; simp [strR, wRest]
theorem fieldTag_spec (t : List Fm) (s b : List UInt8) (hl : s.length ≤ 1000) (h1 : b.length ≤ 8) (hs : Lib.split s [32] = [wTag, hexE b]) :
    Ctr sys 37 [xtab t, xs s] [] (xfb ⟨1, b, 0, 0, 0⟩) none [] := by
  have hp := split_spec s [32] (by omega) (by decide)
  rw [hs] at hp
  refine spec_intro Tryd.func37 rfl rfl rfl rfl rfl rfl ?_
  refine awp_seq (awp_region ?_)
  refine al_do rfl (does_alloc rfl rfl rfl) ?_
  refine al_pure rfl rfl rfl (pure_assign rfl gU) ?_
  refine al_nil ?_
  refine awp_seq (awp_region ?_)
  refine al_pure rfl rfl rfl (pure_move rfl gU) ?_
  refine al_call rfl rfl rfl rfl rfl rfl gU gU (hp) rfl ?_
  refine al_pure rfl rfl rfl (pure_assign rfl gU) ?_
  refine al_nil ?_
  refine awp_sub (s := { t := [(0, _, _), (4, _, _), (6, _, _)], bx := [((.l 4), _)], ow := [] }) (sub_mk (⟨sx rfl, ⟨sx rfl, ⟨sx rfl, trivial⟩⟩⟩) (⟨sx rfl, trivial⟩) trivial) ?_
  refine awp_seq (awp_region ?_)
  refine al_do rfl (does_alloc rfl rfl rfl) ?_
  refine al_nil ?_
  refine awp_seq (awp_region ?_)
  refine al_pure rfl rfl rfl (pure_assign rfl gU) ?_
  refine al_nil ?_
  refine awp_seq ?_
  refine awp_seq (awp_region ?_)
  refine al_pure rfl rfl rfl (pure_move rfl gU) ?_
  refine al_lenSl rfl rfl rfl rfl rfl gU rfl rfl ?_ (fun hh => by simp at hh); intro hlen
  refine al_pure rfl rfl rfl (pure_cmp rfl rfl gU gU rfl) ?_
  refine al_pure rfl rfl rfl (pure_move rfl gU) ?_
  refine al_pure rfl rfl rfl (pure_move rfl gU) ?_
  refine al_pure rfl rfl rfl (pure_indexAddr (j := 0) rfl rfl (fun hh => hh) gU rfl rfl (by first | omega | (simp [strR]; done) | (simp at hh; omega)) (fun hh => strR_at (by first | omega | (simp [strR]; done) | (simp at hh; omega)))) ?_
  refine al_pure rfl rfl rfl (pure_loadRo rfl (fun hh => hh) rfl rfl rfl) ?_
  refine al_pure rfl rfl rfl (pure_cmpS rfl rfl (fun hh => hh) gU rfl) ?_
  refine al_pure rfl rfl rfl (pure_move rfl (fun hh => hh)) ?_
  refine al_pure rfl rfl rfl (pure_move rfl gU) ?_
  refine al_sub (s := { t := [(0, _, _), (4, _, _), (6, _, _), (7, _, _), (8, _, _), (15, _, _), (20, _, _), (21, _, _)], bx := [((.l 4), _), ((.l 7), _)], ow := [] }) (sub_mk (⟨sx rfl, ⟨sx rfl, ⟨sx rfl, ⟨sx rfl, ⟨sx rfl, ⟨sx rfl, ⟨sx rfl, ⟨sx rfl, trivial⟩⟩⟩⟩⟩⟩⟩⟩) (⟨sx rfl, ⟨sx rfl, trivial⟩⟩) trivial) ?_
  refine al_pure rfl rfl rfl (pure_indexAddr (j := 0) rfl rfl (fun hh => hh) gU rfl rfl (by first | omega | (simp [strR]; done) | (simp at hh; omega)) (fun hh => strR_at (by first | omega | (simp [strR]; done) | (simp at hh; omega)))) ?_
  refine al_pure rfl rfl rfl (pure_loadRo rfl (fun hh => hh) rfl rfl rfl) ?_
  refine al_pure rfl rfl rfl (pure_cmpS rfl rfl (fun hh => hh) gU rfl) ?_
  refine al_pure rfl rfl rfl (pure_or rfl rfl (fun hh => hh) (fun hh hi => gP hh hi)) ?_
  refine al_pure rfl rfl rfl (pure_and rfl rfl gU (fun _ hi => gP rfl hi)) ?_
  refine al_nil ?_
  refine awp_sub (s := { t := [(0, _, _), (4, _, _), (6, _, _), (7, _, _), (8, _, _), (26, _, _)], bx := [((.l 4), _), ((.l 7), _)], ow := [] }) (sub_mk (⟨sx rfl, ⟨sx rfl, ⟨sx rfl, ⟨sx rfl, ⟨sx rfl, ⟨sx rfl, trivial⟩⟩⟩⟩⟩⟩) (⟨sx rfl, ⟨sx rfl, trivial⟩⟩) trivial) ?_
  refine awp_cond rfl (fun hc => ?_) (fun hc => ?_)
  · exfalso; revert hc; simp [strR]
  · refine awp_skip ?_
    refine awp_seq ?_
    refine awp_seq (awp_region ?_)
    refine al_pure rfl rfl rfl (pure_move rfl gU) ?_
    refine al_lenSl rfl rfl rfl rfl rfl gU rfl rfl ?_ (fun hh => by simp at hh); intro hlen
    refine al_pure rfl rfl rfl (pure_cmp rfl rfl gU gU rfl) ?_
    refine al_nil ?_
    refine awp_cond rfl (fun hc2 => ?_) (fun hc2 => ?_)
    · exfalso; revert hc2; simp [strR]
    · refine awp_skip ?_
      refine awp_seq ?_
      refine awp_seq (awp_region ?_)
      refine al_pure rfl rfl rfl (pure_move rfl gU) ?_
      refine al_pure rfl rfl rfl (pure_indexAddr (j := 0) rfl rfl gU gU rfl rfl (by first | omega | (simp [strR]; done) | (simp at hh; omega)) (fun hh => strR_at (by first | omega | (simp [strR]; done) | (simp at hh; omega)))) ?_
      refine al_pure rfl rfl rfl (pure_loadRo rfl gU rfl rfl rfl) ?_
      refine al_nil ?_
      refine awp_sub (s := { t := [(0, _, _), (4, _, _), (6, _, _), (7, _, _), (8, _, _), (60, _, _)], bx := [((.l 4), _), ((.l 7), _)], ow := [] }) (sub_mk (⟨sx rfl, ⟨sx rfl, ⟨sx rfl, ⟨sx rfl, ⟨sx rfl, ⟨sx rfl, trivial⟩⟩⟩⟩⟩⟩) (⟨sx rfl, ⟨sx rfl, trivial⟩⟩) trivial) ?_
      refine awp_block ?_
      refine awp_seq (awp_region ?_)
      refine al_pure rfl rfl rfl (pure_cmpS rfl rfl gU gU rfl) ?_
      refine al_pure rfl rfl rfl (pure_assign rfl gU) ?_
      refine al_nil ?_
      refine awp_cond rfl (fun hc3 => ?_) (fun hc3 => ?_)
      · refine awp_seq (awp_region ?_)
        refine al_pure rfl rfl rfl (pure_fieldPtr rfl gU rfl rfl) ?_
        refine al_do rfl (does_store rfl rfl rfl rfl rfl rfl rfl) ?_
        refine al_nil ?_
        refine awp_region ?_
        refine al_pure rfl rfl rfl (pure_move rfl gU) ?_
        refine al_pure rfl rfl rfl (pure_indexAddr (j := 1) rfl rfl gU gU rfl rfl (by first | omega | (simp [strR]; done) | (simp at hh; omega)) (fun hh => strR_at (by first | omega | (simp [strR]; done) | (simp at hh; omega)))) ?_
        refine al_pure rfl rfl rfl (pure_loadRo rfl gU rfl rfl rfl) ?_
        refine al_call rfl rfl rfl rfl rfl rfl gU gU (bytes_spec b (by omega)) rfl ?_
        refine al_pure rfl rfl rfl (pure_move rfl gU) ?_
        refine al_pure rfl rfl rfl (pure_extract rfl gU rfl) ?_
        refine al_pure rfl rfl rfl (pure_extract rfl gU rfl) ?_
        refine al_pure rfl rfl rfl (pure_fieldPtr rfl gU rfl rfl) ?_
        refine al_do rfl (does_store rfl rfl rfl rfl rfl rfl rfl) ?_
        refine al_pure rfl rfl rfl (pure_assign rfl gU) ?_
        refine al_nil ?_
        refine awp_sub (s := { t := [(4, _, _), (7, _, _), (8, _, _)], bx := [((.l 4), _), ((.l 7), _)], ow := [] }) (sub_mk (⟨sx rfl, ⟨sx rfl, ⟨sx rfl, trivial⟩⟩⟩) (⟨sx rfl, ⟨sx rfl, trivial⟩⟩) trivial) ?_
        refine awp_seq (awp_region ?_)
        refine al_pure rfl rfl rfl (pure_loadBoxRow rfl gU rfl rfl rfl rfl rfl) ?_
        refine al_pure rfl rfl rfl (pure_move rfl gU) ?_
        refine al_do rfl (does_store rfl rfl rfl rfl rfl rfl rfl) ?_
        refine al_pure rfl rfl rfl (pure_assign rfl gU) ?_
        refine al_nil ?_
        refine awp_ret ?_
        repeat (first | refine tR ?_ | refine bR ?_)
        refine ret_ok rfl ?_ trivial
        rfl
      · exfalso; revert hc3; simp [wTag]
theorem fieldFix_spec (t : List Fm) (s : List UInt8) (n : Nat) (hl : s.length ≤ 1000) (h1 : n ≤ 1000) (hs : Lib.split s [32] = [wFix, Lib.decDigits n]) :
    Ctr sys 37 [xtab t, xs s] [] (xfb ⟨2, [], n, 0, 0⟩) none [] := by
  have hp := split_spec s [32] (by omega) (by decide)
  rw [hs] at hp
  refine spec_intro Tryd.func37 rfl rfl rfl rfl rfl rfl ?_
  refine awp_seq (awp_region ?_)
  refine al_do rfl (does_alloc rfl rfl rfl) ?_
  refine al_pure rfl rfl rfl (pure_assign rfl gU) ?_
  refine al_nil ?_
  refine awp_seq (awp_region ?_)
  refine al_pure rfl rfl rfl (pure_move rfl gU) ?_
  refine al_call rfl rfl rfl rfl rfl rfl gU gU (hp) rfl ?_
  refine al_pure rfl rfl rfl (pure_assign rfl gU) ?_
  refine al_nil ?_
  refine awp_sub (s := { t := [(0, _, _), (4, _, _), (6, _, _)], bx := [((.l 4), _)], ow := [] }) (sub_mk (⟨sx rfl, ⟨sx rfl, ⟨sx rfl, trivial⟩⟩⟩) (⟨sx rfl, trivial⟩) trivial) ?_
  refine awp_seq (awp_region ?_)
  refine al_do rfl (does_alloc rfl rfl rfl) ?_
  refine al_nil ?_
  refine awp_seq (awp_region ?_)
  refine al_pure rfl rfl rfl (pure_assign rfl gU) ?_
  refine al_nil ?_
  refine awp_seq ?_
  refine awp_seq (awp_region ?_)
  refine al_pure rfl rfl rfl (pure_move rfl gU) ?_
  refine al_lenSl rfl rfl rfl rfl rfl gU rfl rfl ?_ (fun hh => by simp at hh); intro hlen
  refine al_pure rfl rfl rfl (pure_cmp rfl rfl gU gU rfl) ?_
  refine al_pure rfl rfl rfl (pure_move rfl gU) ?_
  refine al_pure rfl rfl rfl (pure_move rfl gU) ?_
  refine al_pure rfl rfl rfl (pure_indexAddr (j := 0) rfl rfl (fun hh => hh) gU rfl rfl (by first | omega | (simp [strR]; done) | (simp at hh; omega)) (fun hh => strR_at (by first | omega | (simp [strR]; done) | (simp at hh; omega)))) ?_
  refine al_pure rfl rfl rfl (pure_loadRo rfl (fun hh => hh) rfl rfl rfl) ?_
  refine al_pure rfl rfl rfl (pure_cmpS rfl rfl (fun hh => hh) gU rfl) ?_
  refine al_pure rfl rfl rfl (pure_move rfl (fun hh => hh)) ?_
  refine al_pure rfl rfl rfl (pure_move rfl gU) ?_
  refine al_sub (s := { t := [(0, _, _), (4, _, _), (6, _, _), (7, _, _), (8, _, _), (15, _, _), (20, _, _), (21, _, _)], bx := [((.l 4), _), ((.l 7), _)], ow := [] }) (sub_mk (⟨sx rfl, ⟨sx rfl, ⟨sx rfl, ⟨sx rfl, ⟨sx rfl, ⟨sx rfl, ⟨sx rfl, ⟨sx rfl, trivial⟩⟩⟩⟩⟩⟩⟩⟩) (⟨sx rfl, ⟨sx rfl, trivial⟩⟩) trivial) ?_
  refine al_pure rfl rfl rfl (pure_indexAddr (j := 0) rfl rfl (fun hh => hh) gU rfl rfl (by first | omega | (simp [strR]; done) | (simp at hh; omega)) (fun hh => strR_at (by first | omega | (simp [strR]; done) | (simp at hh; omega)))) ?_
  refine al_pure rfl rfl rfl (pure_loadRo rfl (fun hh => hh) rfl rfl rfl) ?_
  refine al_pure rfl rfl rfl (pure_cmpS rfl rfl (fun hh => hh) gU rfl) ?_
  refine al_pure rfl rfl rfl (pure_or rfl rfl (fun hh => hh) (fun hh hi => gP hh hi)) ?_
  refine al_pure rfl rfl rfl (pure_and rfl rfl gU (fun _ hi => gP rfl hi)) ?_
  refine al_nil ?_
  refine awp_sub (s := { t := [(0, _, _), (4, _, _), (6, _, _), (7, _, _), (8, _, _), (26, _, _)], bx := [((.l 4), _), ((.l 7), _)], ow := [] }) (sub_mk (⟨sx rfl, ⟨sx rfl, ⟨sx rfl, ⟨sx rfl, ⟨sx rfl, ⟨sx rfl, trivial⟩⟩⟩⟩⟩⟩) (⟨sx rfl, ⟨sx rfl, trivial⟩⟩) trivial) ?_
  refine awp_cond rfl (fun hc => ?_) (fun hc => ?_)
  · exfalso; revert hc; simp [strR]
  · refine awp_skip ?_
    refine awp_seq ?_
    refine awp_seq (awp_region ?_)
    refine al_pure rfl rfl rfl (pure_move rfl gU) ?_
    refine al_lenSl rfl rfl rfl rfl rfl gU rfl rfl ?_ (fun hh => by simp at hh); intro hlen
    refine al_pure rfl rfl rfl (pure_cmp rfl rfl gU gU rfl) ?_
    refine al_nil ?_
    refine awp_cond rfl (fun hc2 => ?_) (fun hc2 => ?_)
    · exfalso; revert hc2; simp [strR]
    · refine awp_skip ?_
      refine awp_seq ?_
      refine awp_seq (awp_region ?_)
      refine al_pure rfl rfl rfl (pure_move rfl gU) ?_
      refine al_pure rfl rfl rfl (pure_indexAddr (j := 0) rfl rfl gU gU rfl rfl (by first | omega | (simp [strR]; done) | (simp at hh; omega)) (fun hh => strR_at (by first | omega | (simp [strR]; done) | (simp at hh; omega)))) ?_
      refine al_pure rfl rfl rfl (pure_loadRo rfl gU rfl rfl rfl) ?_
      refine al_nil ?_
      refine awp_sub (s := { t := [(0, _, _), (4, _, _), (6, _, _), (7, _, _), (8, _, _), (60, _, _)], bx := [((.l 4), _), ((.l 7), _)], ow := [] }) (sub_mk (⟨sx rfl, ⟨sx rfl, ⟨sx rfl, ⟨sx rfl, ⟨sx rfl, ⟨sx rfl, trivial⟩⟩⟩⟩⟩⟩) (⟨sx rfl, ⟨sx rfl, trivial⟩⟩) trivial) ?_
      refine awp_block ?_
      refine awp_seq (awp_region ?_)
      refine al_pure rfl rfl rfl (pure_cmpS rfl rfl gU gU rfl) ?_
      refine al_pure rfl rfl rfl (pure_assign rfl gU) ?_
      refine al_nil ?_
      refine awp_cond rfl (fun hc3 => ?_) (fun hc3 => ?_)
      · exfalso; revert hc3; simp [wFix]
      · refine awp_seq (awp_region ?_)
        refine al_pure rfl rfl rfl (pure_cmpS rfl rfl gU gU rfl) ?_
        refine al_pure rfl rfl rfl (pure_assign rfl gU) ?_
        refine al_nil ?_
        refine awp_cond rfl (fun hc4 => ?_) (fun hc4 => ?_)
        · refine awp_seq (awp_region ?_)
          refine al_pure rfl rfl rfl (pure_fieldPtr rfl gU rfl rfl) ?_
          refine al_do rfl (does_store rfl rfl rfl rfl rfl rfl rfl) ?_
          refine al_nil ?_
          refine awp_sub (s := { t := [(4, _, _), (6, _, _), (7, _, _)], bx := [((.l 4), _), ((.l 7), _)], ow := [] }) (sub_mk (⟨sx rfl, ⟨sx rfl, ⟨sx rfl, trivial⟩⟩⟩) (⟨sx rfl, ⟨sx rfl, trivial⟩⟩) trivial) ?_
          refine awp_region ?_
          refine al_pure rfl rfl rfl (pure_move rfl gU) ?_
          refine al_pure rfl rfl rfl (pure_indexAddr (j := 1) rfl rfl gU gU rfl rfl (by first | omega | (simp [strR]; done) | (simp at hh; omega)) (fun hh => strR_at (by first | omega | (simp [strR]; done) | (simp at hh; omega)))) ?_
          refine al_pure rfl rfl rfl (pure_loadRo rfl gU rfl rfl rfl) ?_
          refine al_call rfl rfl rfl rfl rfl rfl gU gU (number_spec n h1) rfl ?_
          refine al_pure rfl rfl rfl (pure_move rfl gU) ?_
          refine al_pure rfl rfl rfl (pure_extract rfl gU rfl) ?_
          refine al_pure rfl rfl rfl (pure_extract rfl gU rfl) ?_
          refine al_pure rfl rfl rfl (pure_fieldPtr rfl gU rfl rfl) ?_
          refine al_do rfl (does_store rfl rfl rfl rfl rfl rfl rfl) ?_
          refine al_pure rfl rfl rfl (pure_assign rfl gU) ?_
          refine al_nil ?_
          refine awp_sub (s := { t := [(4, _, _), (7, _, _), (8, _, _)], bx := [((.l 4), _), ((.l 7), _)], ow := [] }) (sub_mk (⟨sx rfl, ⟨sx rfl, ⟨sx rfl, trivial⟩⟩⟩) (⟨sx rfl, ⟨sx rfl, trivial⟩⟩) trivial) ?_
          refine awp_seq (awp_region ?_)
          refine al_pure rfl rfl rfl (pure_loadBoxRow rfl gU rfl rfl rfl rfl rfl) ?_
          refine al_pure rfl rfl rfl (pure_move rfl gU) ?_
          refine al_do rfl (does_store rfl rfl rfl rfl rfl rfl rfl) ?_
          refine al_pure rfl rfl rfl (pure_assign rfl gU) ?_
          refine al_nil ?_
          refine awp_ret ?_
          repeat (first | refine tR ?_ | refine bR ?_)
          refine ret_ok rfl ?_ trivial
          rfl
        · exfalso; revert hc4; simp [wFix]
theorem fieldByt_spec (t : List Fm) (s : List UInt8) (n : Nat) (hl : s.length ≤ 1000) (h1 : n ≤ 1000) (hs : Lib.split s [32] = [wByt, Lib.decDigits n]) :
    Ctr sys 37 [xtab t, xs s] [] (xfb ⟨3, [], n, 0, 0⟩) none [] := by
  have hp := split_spec s [32] (by omega) (by decide)
  rw [hs] at hp
  refine spec_intro Tryd.func37 rfl rfl rfl rfl rfl rfl ?_
  refine awp_seq (awp_region ?_)
  refine al_do rfl (does_alloc rfl rfl rfl) ?_
  refine al_pure rfl rfl rfl (pure_assign rfl gU) ?_
  refine al_nil ?_
  refine awp_seq (awp_region ?_)
  refine al_pure rfl rfl rfl (pure_move rfl gU) ?_
  refine al_call rfl rfl rfl rfl rfl rfl gU gU (hp) rfl ?_
  refine al_pure rfl rfl rfl (pure_assign rfl gU) ?_
  refine al_nil ?_
  refine awp_sub (s := { t := [(0, _, _), (4, _, _), (6, _, _)], bx := [((.l 4), _)], ow := [] }) (sub_mk (⟨sx rfl, ⟨sx rfl, ⟨sx rfl, trivial⟩⟩⟩) (⟨sx rfl, trivial⟩) trivial) ?_
  refine awp_seq (awp_region ?_)
  refine al_do rfl (does_alloc rfl rfl rfl) ?_
  refine al_nil ?_
  refine awp_seq (awp_region ?_)
  refine al_pure rfl rfl rfl (pure_assign rfl gU) ?_
  refine al_nil ?_
  refine awp_seq ?_
  refine awp_seq (awp_region ?_)
  refine al_pure rfl rfl rfl (pure_move rfl gU) ?_
  refine al_lenSl rfl rfl rfl rfl rfl gU rfl rfl ?_ (fun hh => by simp at hh); intro hlen
  refine al_pure rfl rfl rfl (pure_cmp rfl rfl gU gU rfl) ?_
  refine al_pure rfl rfl rfl (pure_move rfl gU) ?_
  refine al_pure rfl rfl rfl (pure_move rfl gU) ?_
  refine al_pure rfl rfl rfl (pure_indexAddr (j := 0) rfl rfl (fun hh => hh) gU rfl rfl (by first | omega | (simp [strR]; done) | (simp at hh; omega)) (fun hh => strR_at (by first | omega | (simp [strR]; done) | (simp at hh; omega)))) ?_
  refine al_pure rfl rfl rfl (pure_loadRo rfl (fun hh => hh) rfl rfl rfl) ?_
  refine al_pure rfl rfl rfl (pure_cmpS rfl rfl (fun hh => hh) gU rfl) ?_
  refine al_pure rfl rfl rfl (pure_move rfl (fun hh => hh)) ?_
  refine al_pure rfl rfl rfl (pure_move rfl gU) ?_
  refine al_sub (s := { t := [(0, _, _), (4, _, _), (6, _, _), (7, _, _), (8, _, _), (15, _, _), (20, _, _), (21, _, _)], bx := [((.l 4), _), ((.l 7), _)], ow := [] }) (sub_mk (⟨sx rfl, ⟨sx rfl, ⟨sx rfl, ⟨sx rfl, ⟨sx rfl, ⟨sx rfl, ⟨sx rfl, ⟨sx rfl, trivial⟩⟩⟩⟩⟩⟩⟩⟩) (⟨sx rfl, ⟨sx rfl, trivial⟩⟩) trivial) ?_
  refine al_pure rfl rfl rfl (pure_indexAddr (j := 0) rfl rfl (fun hh => hh) gU rfl rfl (by first | omega | (simp [strR]; done) | (simp at hh; omega)) (fun hh => strR_at (by first | omega | (simp [strR]; done) | (simp at hh; omega)))) ?_
  refine al_pure rfl rfl rfl (pure_loadRo rfl (fun hh => hh) rfl rfl rfl) ?_
  refine al_pure rfl rfl rfl (pure_cmpS rfl rfl (fun hh => hh) gU rfl) ?_
  refine al_pure rfl rfl rfl (pure_or rfl rfl (fun hh => hh) (fun hh hi => gP hh hi)) ?_
  refine al_pure rfl rfl rfl (pure_and rfl rfl gU (fun _ hi => gP rfl hi)) ?_
  refine al_nil ?_
  refine awp_sub (s := { t := [(0, _, _), (4, _, _), (6, _, _), (7, _, _), (8, _, _), (26, _, _)], bx := [((.l 4), _), ((.l 7), _)], ow := [] }) (sub_mk (⟨sx rfl, ⟨sx rfl, ⟨sx rfl, ⟨sx rfl, ⟨sx rfl, ⟨sx rfl, trivial⟩⟩⟩⟩⟩⟩) (⟨sx rfl, ⟨sx rfl, trivial⟩⟩) trivial) ?_
  refine awp_cond rfl (fun hc => ?_) (fun hc => ?_)
  · exfalso; revert hc; simp [strR]
  · refine awp_skip ?_
    refine awp_seq ?_
    refine awp_seq (awp_region ?_)
    refine al_pure rfl rfl rfl (pure_move rfl gU) ?_
    refine al_lenSl rfl rfl rfl rfl rfl gU rfl rfl ?_ (fun hh => by simp at hh); intro hlen
    refine al_pure rfl rfl rfl (pure_cmp rfl rfl gU gU rfl) ?_
    refine al_nil ?_
    refine awp_cond rfl (fun hc2 => ?_) (fun hc2 => ?_)
    · exfalso; revert hc2; simp [strR]
    · refine awp_skip ?_
      refine awp_seq ?_
      refine awp_seq (awp_region ?_)
      refine al_pure rfl rfl rfl (pure_move rfl gU) ?_
      refine al_pure rfl rfl rfl (pure_indexAddr (j := 0) rfl rfl gU gU rfl rfl (by first | omega | (simp [strR]; done) | (simp at hh; omega)) (fun hh => strR_at (by first | omega | (simp [strR]; done) | (simp at hh; omega)))) ?_
      refine al_pure rfl rfl rfl (pure_loadRo rfl gU rfl rfl rfl) ?_
      refine al_nil ?_
      refine awp_sub (s := { t := [(0, _, _), (4, _, _), (6, _, _), (7, _, _), (8, _, _), (60, _, _)], bx := [((.l 4), _), ((.l 7), _)], ow := [] }) (sub_mk (⟨sx rfl, ⟨sx rfl, ⟨sx rfl, ⟨sx rfl, ⟨sx rfl, ⟨sx rfl, trivial⟩⟩⟩⟩⟩⟩) (⟨sx rfl, ⟨sx rfl, trivial⟩⟩) trivial) ?_
      refine awp_block ?_
      refine awp_seq (awp_region ?_)
      refine al_pure rfl rfl rfl (pure_cmpS rfl rfl gU gU rfl) ?_
      refine al_pure rfl rfl rfl (pure_assign rfl gU) ?_
      refine al_nil ?_
      refine awp_cond rfl (fun hc3 => ?_) (fun hc3 => ?_)
      · exfalso; revert hc3; simp [wByt]
      · refine awp_seq (awp_region ?_)
        refine al_pure rfl rfl rfl (pure_cmpS rfl rfl gU gU rfl) ?_
        refine al_pure rfl rfl rfl (pure_assign rfl gU) ?_
        refine al_nil ?_
        refine awp_cond rfl (fun hc4 => ?_) (fun hc4 => ?_)
        · exfalso; revert hc4; simp [wByt]
        · refine awp_seq (awp_region ?_)
          refine al_pure rfl rfl rfl (pure_cmpS rfl rfl gU gU rfl) ?_
          refine al_pure rfl rfl rfl (pure_assign rfl gU) ?_
          refine al_nil ?_
          refine awp_sub (s := { t := [(0, _, _), (4, _, _), (6, _, _), (7, _, _), (8, _, _), (60, _, _), (83, _, _)], bx := [((.l 4), _), ((.l 7), _)], ow := [] }) (sub_mk (⟨sx rfl, ⟨sx rfl, ⟨sx rfl, ⟨sx rfl, ⟨sx rfl, ⟨sx rfl, ⟨sx rfl, trivial⟩⟩⟩⟩⟩⟩⟩) (⟨sx rfl, ⟨sx rfl, trivial⟩⟩) trivial) ?_
          refine awp_cond rfl (fun hc5 => ?_) (fun hc5 => ?_)
          · refine awp_seq (awp_region ?_)
            refine al_pure rfl rfl rfl (pure_fieldPtr rfl gU rfl rfl) ?_
            refine al_do rfl (does_store rfl rfl rfl rfl rfl rfl rfl) ?_
            refine al_nil ?_
            refine awp_region ?_
            refine al_pure rfl rfl rfl (pure_move rfl gU) ?_
            refine al_pure rfl rfl rfl (pure_indexAddr (j := 1) rfl rfl gU gU rfl rfl (by first | omega | (simp [strR]; done) | (simp at hh; omega)) (fun hh => strR_at (by first | omega | (simp [strR]; done) | (simp at hh; omega)))) ?_
            refine al_pure rfl rfl rfl (pure_loadRo rfl gU rfl rfl rfl) ?_
            refine al_call rfl rfl rfl rfl rfl rfl gU gU (number_spec n h1) rfl ?_
            refine al_pure rfl rfl rfl (pure_move rfl gU) ?_
            refine al_pure rfl rfl rfl (pure_extract rfl gU rfl) ?_
            refine al_pure rfl rfl rfl (pure_extract rfl gU rfl) ?_
            refine al_pure rfl rfl rfl (pure_fieldPtr rfl gU rfl rfl) ?_
            refine al_do rfl (does_store rfl rfl rfl rfl rfl rfl rfl) ?_
            refine al_pure rfl rfl rfl (pure_assign rfl gU) ?_
            refine al_nil ?_
            refine awp_sub (s := { t := [(4, _, _), (7, _, _), (8, _, _)], bx := [((.l 4), _), ((.l 7), _)], ow := [] }) (sub_mk (⟨sx rfl, ⟨sx rfl, ⟨sx rfl, trivial⟩⟩⟩) (⟨sx rfl, ⟨sx rfl, trivial⟩⟩) trivial) ?_
            refine awp_seq (awp_region ?_)
            refine al_pure rfl rfl rfl (pure_loadBoxRow rfl gU rfl rfl rfl rfl rfl) ?_
            refine al_pure rfl rfl rfl (pure_move rfl gU) ?_
            refine al_do rfl (does_store rfl rfl rfl rfl rfl rfl rfl) ?_
            refine al_pure rfl rfl rfl (pure_assign rfl gU) ?_
            refine al_nil ?_
            refine awp_ret ?_
            repeat (first | refine tR ?_ | refine bR ?_)
            refine ret_ok rfl ?_ trivial
            rfl
          · exfalso; revert hc5; simp [wByt]
theorem fieldNst_spec (t : List Fm) (s nm : List UInt8) (n : Nat) (hl : s.length ≤ 1000) (hf : findF nm 0 t = n) (hs : Lib.split s [32] = [wNst, nm]) :
    Ctr sys 37 [xtab t, xs s] [] (xfb ⟨5, [], n, 0, 0⟩) none [] := by
  have hp := split_spec s [32] (by omega) (by decide)
  rw [hs] at hp
  have hix := index_spec t nm _ rfl
  rw [hf] at hix
  refine spec_intro Tryd.func37 rfl rfl rfl rfl rfl rfl ?_
  refine awp_seq (awp_region ?_)
  refine al_do rfl (does_alloc rfl rfl rfl) ?_
  refine al_pure rfl rfl rfl (pure_assign rfl gU) ?_
  refine al_nil ?_
  refine awp_seq (awp_region ?_)
  refine al_pure rfl rfl rfl (pure_move rfl gU) ?_
  refine al_call rfl rfl rfl rfl rfl rfl gU gU (hp) rfl ?_
  refine al_pure rfl rfl rfl (pure_assign rfl gU) ?_
  refine al_nil ?_
  refine awp_sub (s := { t := [(0, _, _), (4, _, _), (6, _, _)], bx := [((.l 4), _)], ow := [] }) (sub_mk (⟨sx rfl, ⟨sx rfl, ⟨sx rfl, trivial⟩⟩⟩) (⟨sx rfl, trivial⟩) trivial) ?_
  refine awp_seq (awp_region ?_)
  refine al_do rfl (does_alloc rfl rfl rfl) ?_
  refine al_nil ?_
  refine awp_seq (awp_region ?_)
  refine al_pure rfl rfl rfl (pure_assign rfl gU) ?_
  refine al_nil ?_
  refine awp_seq ?_
  refine awp_seq (awp_region ?_)
  refine al_pure rfl rfl rfl (pure_move rfl gU) ?_
  refine al_lenSl rfl rfl rfl rfl rfl gU rfl rfl ?_ (fun hh => by simp at hh); intro hlen
  refine al_pure rfl rfl rfl (pure_cmp rfl rfl gU gU rfl) ?_
  refine al_pure rfl rfl rfl (pure_move rfl gU) ?_
  refine al_pure rfl rfl rfl (pure_move rfl gU) ?_
  refine al_pure rfl rfl rfl (pure_indexAddr (j := 0) rfl rfl (fun hh => hh) gU rfl rfl (by first | omega | (simp [strR]; done) | (simp at hh; omega)) (fun hh => strR_at (by first | omega | (simp [strR]; done) | (simp at hh; omega)))) ?_
  refine al_pure rfl rfl rfl (pure_loadRo rfl (fun hh => hh) rfl rfl rfl) ?_
  refine al_pure rfl rfl rfl (pure_cmpS rfl rfl (fun hh => hh) gU rfl) ?_
  refine al_pure rfl rfl rfl (pure_move rfl (fun hh => hh)) ?_
  refine al_pure rfl rfl rfl (pure_move rfl gU) ?_
  refine al_sub (s := { t := [(0, _, _), (4, _, _), (6, _, _), (7, _, _), (8, _, _), (15, _, _), (20, _, _), (21, _, _)], bx := [((.l 4), _), ((.l 7), _)], ow := [] }) (sub_mk (⟨sx rfl, ⟨sx rfl, ⟨sx rfl, ⟨sx rfl, ⟨sx rfl, ⟨sx rfl, ⟨sx rfl, ⟨sx rfl, trivial⟩⟩⟩⟩⟩⟩⟩⟩) (⟨sx rfl, ⟨sx rfl, trivial⟩⟩) trivial) ?_
  refine al_pure rfl rfl rfl (pure_indexAddr (j := 0) rfl rfl (fun hh => hh) gU rfl rfl (by first | omega | (simp [strR]; done) | (simp at hh; omega)) (fun hh => strR_at (by first | omega | (simp [strR]; done) | (simp at hh; omega)))) ?_
  refine al_pure rfl rfl rfl (pure_loadRo rfl (fun hh => hh) rfl rfl rfl) ?_
  refine al_pure rfl rfl rfl (pure_cmpS rfl rfl (fun hh => hh) gU rfl) ?_
  refine al_pure rfl rfl rfl (pure_or rfl rfl (fun hh => hh) (fun hh hi => gP hh hi)) ?_
  refine al_pure rfl rfl rfl (pure_and rfl rfl gU (fun _ hi => gP rfl hi)) ?_
  refine al_nil ?_
  refine awp_sub (s := { t := [(0, _, _), (4, _, _), (6, _, _), (7, _, _), (8, _, _), (26, _, _)], bx := [((.l 4), _), ((.l 7), _)], ow := [] }) (sub_mk (⟨sx rfl, ⟨sx rfl, ⟨sx rfl, ⟨sx rfl, ⟨sx rfl, ⟨sx rfl, trivial⟩⟩⟩⟩⟩⟩) (⟨sx rfl, ⟨sx rfl, trivial⟩⟩) trivial) ?_
  refine awp_cond rfl (fun hc => ?_) (fun hc => ?_)
  · exfalso; revert hc; simp [strR]
  · refine awp_skip ?_
    refine awp_seq ?_
    refine awp_seq (awp_region ?_)
    refine al_pure rfl rfl rfl (pure_move rfl gU) ?_
    refine al_lenSl rfl rfl rfl rfl rfl gU rfl rfl ?_ (fun hh => by simp at hh); intro hlen
    refine al_pure rfl rfl rfl (pure_cmp rfl rfl gU gU rfl) ?_
    refine al_nil ?_
    refine awp_cond rfl (fun hc2 => ?_) (fun hc2 => ?_)
    · exfalso; revert hc2; simp [strR]
    · refine awp_skip ?_
      refine awp_seq ?_
      refine awp_seq (awp_region ?_)
      refine al_pure rfl rfl rfl (pure_move rfl gU) ?_
      refine al_pure rfl rfl rfl (pure_indexAddr (j := 0) rfl rfl gU gU rfl rfl (by first | omega | (simp [strR]; done) | (simp at hh; omega)) (fun hh => strR_at (by first | omega | (simp [strR]; done) | (simp at hh; omega)))) ?_
      refine al_pure rfl rfl rfl (pure_loadRo rfl gU rfl rfl rfl) ?_
      refine al_nil ?_
      refine awp_sub (s := { t := [(0, _, _), (4, _, _), (6, _, _), (7, _, _), (8, _, _), (60, _, _)], bx := [((.l 4), _), ((.l 7), _)], ow := [] }) (sub_mk (⟨sx rfl, ⟨sx rfl, ⟨sx rfl, ⟨sx rfl, ⟨sx rfl, ⟨sx rfl, trivial⟩⟩⟩⟩⟩⟩) (⟨sx rfl, ⟨sx rfl, trivial⟩⟩) trivial) ?_
      refine awp_block ?_
      refine awp_seq (awp_region ?_)
      refine al_pure rfl rfl rfl (pure_cmpS rfl rfl gU gU rfl) ?_
      refine al_pure rfl rfl rfl (pure_assign rfl gU) ?_
      refine al_nil ?_
      refine awp_cond rfl (fun hc3 => ?_) (fun hc3 => ?_)
      · exfalso; revert hc3; simp [wNst]
      · refine awp_seq (awp_region ?_)
        refine al_pure rfl rfl rfl (pure_cmpS rfl rfl gU gU rfl) ?_
        refine al_pure rfl rfl rfl (pure_assign rfl gU) ?_
        refine al_nil ?_
        refine awp_cond rfl (fun hc4 => ?_) (fun hc4 => ?_)
        · exfalso; revert hc4; simp [wNst]
        · refine awp_seq (awp_region ?_)
          refine al_pure rfl rfl rfl (pure_cmpS rfl rfl gU gU rfl) ?_
          refine al_pure rfl rfl rfl (pure_assign rfl gU) ?_
          refine al_nil ?_
          refine awp_sub (s := { t := [(0, _, _), (4, _, _), (6, _, _), (7, _, _), (8, _, _), (60, _, _), (83, _, _)], bx := [((.l 4), _), ((.l 7), _)], ow := [] }) (sub_mk (⟨sx rfl, ⟨sx rfl, ⟨sx rfl, ⟨sx rfl, ⟨sx rfl, ⟨sx rfl, ⟨sx rfl, trivial⟩⟩⟩⟩⟩⟩⟩) (⟨sx rfl, ⟨sx rfl, trivial⟩⟩) trivial) ?_
          refine awp_cond rfl (fun hc5 => ?_) (fun hc5 => ?_)
          · exfalso; revert hc5; simp [wNst]
          · refine awp_seq (awp_region ?_)
            refine al_pure rfl rfl rfl (pure_cmpS rfl rfl gU gU rfl) ?_
            refine al_pure rfl rfl rfl (pure_assign rfl gU) ?_
            refine al_nil ?_
            refine awp_cond rfl (fun hc6 => ?_) (fun hc6 => ?_)
            · refine awp_seq (awp_region ?_)
              refine al_pure rfl rfl rfl (pure_move rfl gU) ?_
              refine al_pure rfl rfl rfl (pure_move rfl gU) ?_
              refine al_pure rfl rfl rfl (pure_indexAddr (j := 1) rfl rfl gU gU rfl rfl (by first | omega | (simp [strR]; done) | (simp at hh; omega)) (fun hh => strR_at (by first | omega | (simp [strR]; done) | (simp at hh; omega)))) ?_
              refine al_pure rfl rfl rfl (pure_loadRo rfl gU rfl rfl rfl) ?_
              refine al_call rfl rfl rfl rfl rfl rfl gU gU (hix) rfl ?_
              refine al_pure rfl rfl rfl (pure_fieldPtr rfl gU rfl rfl) ?_
              refine al_do rfl (does_store rfl rfl rfl rfl rfl rfl rfl) ?_
              refine al_pure rfl rfl rfl (pure_fieldPtr rfl gU rfl rfl) ?_
              refine al_do rfl (does_store rfl rfl rfl rfl rfl rfl rfl) ?_
              refine al_nil ?_
              refine awp_sub (s := { t := [(4, _, _), (7, _, _)], bx := [((.l 4), _), ((.l 7), _)], ow := [] }) (sub_mk (⟨sx rfl, ⟨sx rfl, trivial⟩⟩) (⟨sx rfl, ⟨sx rfl, trivial⟩⟩) trivial) ?_
              refine awp_region ?_
              refine al_pure rfl rfl rfl (pure_fieldPtr rfl gU rfl rfl) ?_
              refine al_pure rfl rfl rfl (pure_loadBox rfl gU rfl rfl rfl rfl) ?_
              refine al_pure rfl rfl rfl (pure_cmp rfl rfl gU gU rfl) ?_
              refine al_pure rfl rfl rfl (pure_assign rfl gU) ?_
              refine al_nil ?_
              refine awp_seq (awp_region ?_)
              refine al_pure rfl rfl rfl (pure_loadBoxRow rfl gU rfl rfl rfl rfl rfl) ?_
              refine al_pure rfl rfl rfl (pure_move rfl gU) ?_
              refine al_do rfl (does_store rfl rfl rfl rfl rfl rfl rfl) ?_
              refine al_pure rfl rfl rfl (pure_assign rfl gU) ?_
              refine al_nil ?_
              refine awp_ret ?_
              repeat (first | refine tR ?_ | refine bR ?_)
              refine ret_ok rfl ?_ trivial
              (rw [show decide ((n : Int) ≥ 0) = true from decide_eq_true (by omega)]; rfl)
            · exfalso; revert hc6; simp [wNst]
end Go.Proofs.YthfoclblmdnckaaDoor
/- Contracts: tables read from their texts. -/
set_option linter.unusedVariables false
set_option linter.unusedSimpArgs false
namespace Go.Proofs.YthfoclblmdnckaaDoor
open Go Go.Abs
/-- A byte that divides nothing; one that divides no words. -/
def plB (b : UInt8) : Prop := b ≠ 10 ∧ b ≠ 32 ∧ b ≠ 44 ∧ b ≠ 58
def wdB (b : UInt8) : Prop := b ≠ 10 ∧ b ≠ 44 ∧ b ≠ 58
theorem plB.wd {b : UInt8} (h : plB b) : wdB b := ⟨h.1, h.2.2.1, h.2.2.2⟩
theorem plB_of {b : UInt8} (h : b.toNat ≠ 10 ∧ b.toNat ≠ 32 ∧ b.toNat ≠ 44 ∧ b.toNat ≠ 58) : plB b := by
  refine ⟨fun q => ?_, fun q => ?_, fun q => ?_, fun q => ?_⟩ <;> subst q <;> revert h <;> decide
theorem fparts_pl : ∀ (l : List UInt8) (k : Nat), fpartsB k l = true → ∀ b ∈ l, plB b
  | [], _, _, b, hb => by cases hb
  | c :: l, k, h, b, hb => by
    rw [fpartsB, Bool.and_eq_true] at h
    rcases List.mem_cons.1 hb with q | q
    · subst q
      have h1 := h.1
      simp only [fpartB, letterB, digitB, Bool.or_eq_true, Bool.and_eq_true, decide_eq_true_eq, beq_iff_eq] at h1
      refine plB_of ?_
      omega
    · exact fparts_pl l (k + 1) h.2 b q
theorem fname_pl {l : List UInt8} (h : fnameB l = true) : ∀ b ∈ l, plB b := by
  rw [fname_eq] at h
  simp only [Bool.and_eq_true] at h
  exact fparts_pl l 0 h.2
theorem dec_pl (n : Nat) : ∀ b ∈ Lib.decDigits n, plB b := fun b hb => plB_of (by have := dec_digit n b hb; omega)
theorem hexs_pl : ∀ n : Fin 16, plB (hexs.getD n.val 0) := by
  intro n; refine plB_of ?_; revert n; decide +kernel
theorem hex_pl : ∀ l : List UInt8, ∀ b ∈ hexE l, plB b
  | [], b, hb => by cases hb
  | c :: l, b, hb => by
    have hc := c.toNat_lt
    rw [hexE] at hb
    rcases List.mem_cons.1 hb with q | q
    · subst q; exact hexs_pl ⟨c.toNat / 16, by omega⟩
    · rcases List.mem_cons.1 q with q | q
      · subst q; exact hexs_pl ⟨c.toNat % 16, by omega⟩
      · exact hex_pl l b q
theorem wd_app {a b : List UInt8} (ha : ∀ x ∈ a, wdB x) (hb : ∀ x ∈ b, wdB x) : ∀ x ∈ a ++ b, wdB x := fun x hx => by
  rcases List.mem_append.1 hx with q | q
  · exact ha x q
  · exact hb x q
theorem txtF_wd {t : List Fm} (hv : validE t = 0) {f : Fd} (hn : f.kind = 5 → 0 ≤ f.n ∧ f.n < t.length) : ∀ b ∈ txtF t f, wdB b := by
  have hd : ∀ n : Int, ∀ b ∈ decN n, wdB b := fun n b hb => (dec_pl _ b hb).wd
  have h32 : ∀ x ∈ ([32] : List UInt8), wdB x := by
    intro x hx; simp at hx; subst hx; exact ⟨by decide, by decide, by decide⟩
  have hlit : ∀ l : List UInt8, (l.all fun x => decide (x ≠ 10 ∧ x ≠ 44 ∧ x ≠ 58)) = true → ∀ x ∈ l, wdB x := fun l h x hx => by
    have := List.all_eq_true.1 h x hx
    simpa [wdB] using this
  unfold txtF
  split
  · exact wd_app (hlit _ (by decide)) fun b hb => (hex_pl _ b hb).wd
  split
  · exact wd_app (hlit _ (by decide)) (hd _)
  split
  · exact wd_app (hlit _ (by decide)) (hd _)
  split
  · exact wd_app (wd_app (wd_app (hlit _ (by decide)) (hd _)) h32) (hd _)
  split
  · rename_i h
    have := hn h
    exact wd_app (hlit _ (by decide)) fun b hb => (fname_pl (Tab.name hv (i := f.n.toNat) (by omega)).1 b hb).wd
  · exact wd_app (wd_app (wd_app (hlit _ (by decide)) (hd _)) h32) (hd _)
theorem findF_ge (nm : List UInt8) : ∀ (l : List Fm) (k : Int), 0 ≤ k → findF nm k l < 0 → ∀ j, j < l.length → (l.getD j default).name ≠ nm
  | [], _, _, _, j, hj => by simp at hj
  | f :: l, k, hk, h, j, hj => by
    rw [findF] at h
    split at h
    · omega
    · rename_i hne
      cases j with
      | zero => simpa using hne
      | succ j => simpa using findF_ge nm l (k + 1) (by omega) h j (by simpa using hj)
theorem findF_hit (nm : List UInt8) : ∀ (l : List Fm) (k : Int) (n : Nat), n < l.length → (l.getD n default).name = nm → (∀ j, j < n → (l.getD j default).name ≠ nm) → findF nm k l = k + n
  | [], _, n, hn, _, _ => by simp at hn
  | f :: l, k, 0, _, h, _ => by
    rw [findF, if_pos (by simpa using h)]; simp
  | f :: l, k, n + 1, hn, h, hj => by
    have h0 := hj 0 (by omega)
    rw [findF, if_neg (by simpa using h0), findF_hit nm l (k + 1) n (by simpa using hn) (by simpa using h) fun j hjn => by simpa using hj (j + 1) (by omega)]
    omega
theorem getD_takeF (t : List Fm) {i j : Nat} (h : j < i) : (t.take i).getD j default = t.getD j default := by
  simp only [List.getD_eq_getElem?_getD]; rw [List.getElem?_take, if_pos h]
theorem name_ne {t : List Fm} (hv : validE t = 0) {i j : Nat} (hi : i < t.length) (hj : j < i) : (t.getD j default).name ≠ (t.getD i default).name := by
  have h := findF_ge _ _ 0 (by omega) (Tab.name hv hi).2 j (by rw [List.length_take]; omega)
  rwa [getD_takeF t hj] at h
/-- A field of a valid table is read again from its text. -/
theorem field_txt {t : List Fm} (hv : validE t = 0) {i k : Nat} (hi : i < t.length) (hk : k < (t.getD i default).fields.length) :
    Ctr sys 37 [xtab (t.take i), xs (txtF t ((t.getD i default).fields.getD k default))] [] (xfb ((t.getD i default).fields.getD k default)) none [] := by
  have hT := Tab.of hv
  have hfo := hT.fdOk hi hk
  have hns := (hT.fds hi).nest k hk
  have hnn := hT.nest hi hk
  have hlen := txtF_len hv hfo fun h => (hns h).1
  obtain ⟨hsh, _, _⟩ := fieldE_rng (hT.fd i hi k hk)
  generalize hfe : (t.getD i default).fields.getD k default = f at *
  obtain ⟨g1, g2, g3, g4, g5, g6, g7⟩ := hfo
  have one : ∀ (w p : List UInt8), noC 32 w → noC 32 p → Lib.split (w ++ [32] ++ p) [32] = [w, p] := fun w p hw hp => by
    have := split_parts (c := 32) (t := []) [p] w hw (by intro q hq; simp at hq; subst hq; exact hp)
    rwa [show w ++ Lib.joinTail [32] [p] = w ++ [32] ++ p by simp [Lib.joinTail]] at this
  have two : ∀ (w p q : List UInt8), noC 32 w → noC 32 p → noC 32 q → Lib.split (w ++ [32] ++ p ++ [32] ++ q) [32] = [w, p, q] := fun w p q hw hp hq => by
    have := split_parts (c := 32) (t := []) [p, q] w hw (by
      intro x hx
      simp at hx
      rcases hx with e | e
      · subst e; exact hp
      · subst e; exact hq)
    rwa [show w ++ Lib.joinTail [32] [p, q] = w ++ [32] ++ p ++ [32] ++ q by simp [Lib.joinTail]] at this
  have hdc : ∀ n, noC 32 (Lib.decDigits n) := fun n b hb => (dec_pl n b hb).2.1
  simp only [shapeB, Bool.or_eq_true, Bool.and_eq_true, beq_iff_eq] at hsh
  obtain ⟨kd, bs, n, lo, hi2⟩ := f
  dsimp only at *
  have hks : kd = 1 ∨ kd = 2 ∨ kd = 3 ∨ kd = 4 ∨ kd = 5 ∨ kd = 6 := by omega
  rcases hks with rfl | rfl | rfl | rfl | rfl | rfl
  · obtain ⟨rfl, rfl, rfl⟩ : n = 0 ∧ lo = 0 ∧ hi2 = 0 := by simp at hsh; omega
    exact fieldTag_spec _ _ bs (show (txtF t ⟨1, bs, 0, 0, 0⟩).length ≤ 1000 by omega) g2 (one wTag (hexE bs) (by unfold noC; decide) fun b hb => (hex_pl _ b hb).2.1)
  · obtain ⟨⟨rfl, rfl⟩, rfl⟩ : (bs = [] ∧ lo = 0) ∧ hi2 = 0 := by simp at hsh; exact hsh
    have := fieldFix_spec (t.take i) _ n.toNat (show (txtF t ⟨2, [], n, 0, 0⟩).length ≤ 1000 by omega) (by omega) (one wFix (Lib.decDigits n.toNat) (by unfold noC; decide) (hdc _))
    rwa [show ((n.toNat : Nat) : Int) = n by omega] at this
  · obtain ⟨⟨rfl, rfl⟩, rfl⟩ : (bs = [] ∧ lo = 0) ∧ hi2 = 0 := by simp at hsh; exact hsh
    have := fieldByt_spec (t.take i) _ n.toNat (show (txtF t ⟨3, [], n, 0, 0⟩).length ≤ 1000 by omega) (by omega) (one wByt (Lib.decDigits n.toNat) (by unfold noC; decide) (hdc _))
    rwa [show ((n.toNat : Nat) : Int) = n by omega] at this
  · obtain ⟨rfl, rfl⟩ : bs = [] ∧ n = 0 := by simp at hsh; exact hsh
    have := fieldNum_spec (t.take i) _ lo.toNat hi2.toNat (show (txtF t ⟨4, [], 0, lo, hi2⟩).length ≤ 1000 by omega) (by omega) (by omega) (two wNum (Lib.decDigits lo.toNat) (Lib.decDigits hi2.toNat) (by unfold noC; decide) (hdc _) (hdc _))
    rwa [show ((lo.toNat : Nat) : Int) = lo by omega, show ((hi2.toNat : Nat) : Int) = hi2 by omega] at this
  · obtain ⟨⟨rfl, rfl⟩, rfl⟩ : (bs = [] ∧ lo = 0) ∧ hi2 = 0 := by simp at hsh; exact hsh
    obtain ⟨q1, q2, _⟩ := hnn rfl
    have hin : n.toNat < t.length := by omega
    have hfd : findF (t.getD n.toNat default).name 0 (t.take i) = (n.toNat : Int) := by
      rw [findF_hit _ (t.take i) 0 n.toNat (by rw [List.length_take]; omega) (by rw [getD_takeF t (by omega)]) fun j hj => by
        rw [getD_takeF t (by omega)]; exact name_ne hv hin hj]
      omega
    have := fieldNst_spec (t.take i) _ _ n.toNat (show (txtF t ⟨5, [], n, 0, 0⟩).length ≤ 1000 by omega) hfd (one wNst (t.getD n.toNat default).name (by unfold noC; decide) fun b hb => (fname_pl (Tab.name hv hin).1 b hb).2.1)
    rwa [show ((n.toNat : Nat) : Int) = n by omega] at this
  · obtain ⟨rfl, rfl⟩ : bs = [] ∧ n = 0 := by simp at hsh; exact hsh
    have := fieldRest_spec (t.take i) _ lo.toNat hi2.toNat (show (txtF t ⟨6, [], 0, lo, hi2⟩).length ≤ 1000 by omega) (by omega) (by omega) (two wRest (Lib.decDigits lo.toNat) (Lib.decDigits hi2.toNat) (by unfold noC; decide) (hdc _) (hdc _))
    rwa [show ((lo.toNat : Nat) : Int) = lo by omega, show ((hi2.toNat : Nat) : Int) = hi2 by omega] at this
end Go.Proofs.YthfoclblmdnckaaDoor
/- Contracts: a valid table's text leads to it again. -/
set_option linter.unusedVariables false
set_option linter.unusedSimpArgs false
namespace Go.Proofs.YthfoclblmdnckaaDoor
open Go Go.Abs
def bodyF (t : List Fm) (f : Fm) : List UInt8 := f.name ++ [58, 32] ++ Lib.join (f.fields.map (txtF t)) [44, 32]
def txtS (t : List Fm) : List Fm → List UInt8
  | [] => []
  | f :: l => lineF t f ++ txtS t l
theorem txtS_app (t : List Fm) : ∀ a b : List Fm, txtS t (a ++ b) = txtS t a ++ txtS t b
  | [], b => rfl
  | f :: a, b => by rw [List.cons_append, txtS, txtS, txtS_app t a b, List.append_assoc]
theorem txtP_S (t : List Fm) : ∀ k, k ≤ t.length → txtP t k = txtS t (t.take k)
  | 0, _ => rfl
  | k + 1, hk => by rw [txtP, txtP_S t k (by omega), take_getD (d := default) (by omega), txtS_app]; simp [txtS]
theorem line_body (t : List Fm) (f : Fm) : lineF t f = bodyF t f ++ [10] := rfl
theorem words_wd {t : List Fm} (hv : validE t = 0) {i : Nat} (hi : i < t.length) : ∀ w ∈ (t.getD i default).fields.map (txtF t), ∀ b ∈ w, wdB b := by
  intro w hw
  obtain ⟨f, hf, rfl⟩ := List.mem_map.1 hw
  obtain ⟨k, hk, e⟩ := List.mem_iff_getElem.1 hf
  have he : (t.getD i default).fields.getD k default = f := by rw [List.getD_eq_getElem?_getD, List.getElem?_eq_getElem hk, e]; rfl
  have h1 := (Tab.of hv).nest hi hk
  have hlt : i < t.length := hi
  rw [he] at h1
  exact txtF_wd hv fun h => ⟨(h1 h).1, by have := (h1 h).2.1; omega⟩
theorem joinT_wd : ∀ (l : List (List UInt8)), (∀ w ∈ l, ∀ b ∈ w, wdB b) → ∀ b ∈ Lib.joinTail [44, 32] l, b ≠ 10 ∧ b ≠ 58
  | [], _, b, hb => by simp [Lib.joinTail] at hb
  | w :: l, h, b, hb => by
    have e : Lib.joinTail [44, 32] (w :: l) = [44, 32] ++ (w ++ Lib.joinTail [44, 32] l) := by simp [Lib.joinTail]
    rw [e] at hb
    rcases List.mem_append.1 hb with q | q
    · simp at q; rcases q with rfl | rfl <;> exact ⟨by decide, by decide⟩
    · rcases List.mem_append.1 q with q | q
      · have := h w (by simp) b q; exact ⟨this.1, this.2.2⟩
      · exact joinT_wd l (fun x hx => h x (by simp [hx])) b q
theorem join_wd {l : List (List UInt8)} (h : ∀ w ∈ l, ∀ b ∈ w, wdB b) : ∀ b ∈ Lib.join l [44, 32], b ≠ 10 ∧ b ≠ 58 := by
  cases l with
  | nil => intro b hb; simp [Lib.join_nil] at hb
  | cons w l =>
    intro b hb
    rw [Lib.join_cons] at hb
    rcases List.mem_append.1 hb with q | q
    · have := h w (by simp) b q; exact ⟨this.1, this.2.2⟩
    · exact joinT_wd l (fun x hx => h x (by simp [hx])) b q
theorem body_no10 {t : List Fm} (hv : validE t = 0) {i : Nat} (hi : i < t.length) : noC 10 (bodyF t (t.getD i default)) := by
  intro b hb
  unfold bodyF at hb
  rcases List.mem_append.1 hb with q | q
  · rcases List.mem_append.1 q with q | q
    · exact (fname_pl (Tab.name hv hi).1 b q).1
    · simp at q; rcases q with rfl | rfl <;> decide
  · exact (join_wd (words_wd hv hi) b q).1
theorem body_split {t : List Fm} (hv : validE t = 0) {i : Nat} (hi : i < t.length) : Lib.split (bodyF t (t.getD i default)) [58, 32] = [(t.getD i default).name, Lib.join ((t.getD i default).fields.map (txtF t)) [44, 32]] := by
  have := split_parts (c := 58) (t := [32]) [Lib.join ((t.getD i default).fields.map (txtF t)) [44, 32]] (t.getD i default).name (fun b hb => (fname_pl (Tab.name hv hi).1 b hb).2.2.2)
    (by intro q hq; simp at hq; subst hq; exact fun b hb => (join_wd (words_wd hv hi) b hb).2)
  rwa [show (t.getD i default).name ++ Lib.joinTail [58, 32] [Lib.join ((t.getD i default).fields.map (txtF t)) [44, 32]] = bodyF t (t.getD i default) by simp [Lib.joinTail, bodyF]] at this
theorem words_split {t : List Fm} (hv : validE t = 0) {i : Nat} (hi : i < t.length) : Lib.split (Lib.join ((t.getD i default).fields.map (txtF t)) [44, 32]) [44, 32] = (t.getD i default).fields.map (txtF t) := by
  have hw := words_wd hv hi
  have hne := ((Tab.of hv).nf i hi).1
  cases h : (t.getD i default).fields.map (txtF t) with
  | nil =>
    have := congrArg List.length h
    rw [List.length_map, List.length_nil] at this; omega
  | cons w l =>
    rw [h] at hw
    rw [Lib.join_cons]
    exact split_parts (c := 44) (t := [32]) l w (fun b hb => (hw w (by simp) b hb).2.1) fun q hq b hb => (hw q (by simp [hq]) b hb).2.1
theorem suffix_nl {t : List Fm} : ∀ {l : List Fm}, l ≠ [] → ([10] : List UInt8).isSuffixOf (txtS t l) = true
  | [], h => absurd rfl h
  | [f], _ => by
    rw [txtS, txtS, List.append_nil, line_body]
    exact List.isSuffixOf_iff_suffix.2 ⟨_, rfl⟩
  | f :: g :: l, _ => by
    have ih := suffix_nl (t := t) (l := g :: l) (by simp)
    rw [txtS]
    exact List.isSuffixOf_iff_suffix.2 ((List.isSuffixOf_iff_suffix.1 ih).trans ⟨_, rfl⟩)
theorem map_getD {α β : Type} (f : α → β) {d : α} {e : β} {l : List α} {k : Nat} (h : k < l.length) : (l.map f).getD k e = f (l.getD k d) := by
  rw [List.getD_eq_getElem?_getD, List.getD_eq_getElem?_getD, List.getElem?_map, List.getElem?_eq_getElem h]; rfl
theorem Parse_spec (t : List Fm) (hv : validE t = 0) : Ctr sys 12 [xs (txtP t t.length)] [] (xte (t, 0)) none [] := by
  have hT := Tab.of hv
  have hl8 := hT.len
  have hlen := txtP_len hv t.length (Nat.le_refl _)
  have hrl := Fm.rows_len t
  have hS : ∀ i, i ≤ t.length → (txtS t (t.drop i)).length ≤ 1800 := fun i hi => by
    have h1 := txtP_S t t.length (Nat.le_refl _)
    rw [List.take_length] at h1
    have h2 := txtS_app t (t.take i) (t.drop i)
    rw [List.take_append_drop] at h2
    rw [h1, h2, List.length_append] at hlen
    omega
  have hP : txtP t t.length = txtS t t := by
    have h1 := txtP_S t t.length (Nat.le_refl _)
    rwa [List.take_length] at h1
  rw [hP] at hlen ⊢
  refine spec_intro Tryd.func12 rfl rfl rfl rfl rfl rfl ?_
  refine awp_seq (awp_region ?_)
  refine al_do rfl (does_nil (.inr rfl) rfl rfl) ?_
  refine al_pure rfl rfl rfl (pure_assign rfl gU) ?_
  refine al_nil ?_
  refine awp_seq ?_
  refine awp_seq (awp_region ?_)
  refine al_pure rfl rfl rfl (pure_move rfl gU) ?_
  refine al_lenS rfl rfl rfl rfl rfl gU (Tryd.underlying9) ?_ (fun hh => by simp at hh); intro hlen
  refine al_pure rfl rfl rfl (pure_cmp rfl rfl gU gU rfl) ?_
  refine al_nil ?_
  refine awp_sub (s := { t := [(0, _, _), (17, _, _)], bx := [], ow := [] }) (sub_mk (⟨sx rfl, ⟨sx rfl, trivial⟩⟩) trivial trivial) ?_
  refine awp_cond rfl (fun hc => ?_) (fun hc => ?_)
  · try simp only [nn, strR_len, Fm.rows_len, Fd.rows_len] at hc
    exfalso; omega
  · try simp only [nn, strR_len, Fm.rows_len, Fd.rows_len] at hc
    refine awp_skip ?_
    refine awp_seq ?_
    refine awp_seq (awp_region ?_)
    refine al_pure rfl rfl rfl (pure_move rfl gU) ?_
    refine al_pure rfl rfl rfl (pure_cmpS rfl rfl gU gU rfl) ?_
    refine al_pure rfl rfl rfl (pure_move rfl gU) ?_
    refine al_pure rfl rfl rfl (pure_move rfl gU) ?_
    refine al_call rfl rfl rfl rfl rfl rfl gU (fun hh => gA ((fun hh => hh) hh) (gA rfl (rfl))) (hasSuffix_spec _ _ (by omega)) rfl ?_
    refine al_pure rfl rfl rfl (pure_not rfl (fun hh => hh)) ?_
    refine al_pure rfl rfl rfl (pure_and rfl rfl gU (fun _ hi => gP rfl hi)) ?_
    refine al_nil ?_
    refine awp_sub (s := { t := [(0, _, _), (24, _, _)], bx := [], ow := [] }) (sub_mk (⟨sx rfl, ⟨sx rfl, trivial⟩⟩) trivial trivial) ?_
    refine awp_cond rfl (fun hc2 => ?_) (fun hc2 => ?_)
    · try simp only [nn, strR_len, Fm.rows_len, Fd.rows_len] at hc2
      have h2 : txtS t t ≠ [] := hc2.1
      have h3 : t ≠ [] := fun e => h2 (by rw [e]; rfl)
      have h4 := suffix_nl (t := t) h3
      exact absurd (h4.symm.trans hc2.2) (by simp)
    · try simp only [nn, strR_len, Fm.rows_len, Fd.rows_len] at hc2
      refine awp_skip ?_
      refine awp_seq (awp_region ?_)
      refine al_do rfl (does_nil (.inr rfl) rfl rfl) ?_
      refine al_nil ?_
      refine awp_seq ?_
      refine awp_block ?_
      refine awp_for (ι := Nat) { t := [], bx := [], ow := [((.t 4), _)] } (fun i => [(0, true, xs (txtS t (t.drop i))), (4, true, xtab (t.take i))]) (fun i => []) (fun i => i ≤ t.length) (fun i => t.length - i) (0) (by simp) (sub_mk (⟨sx rfl, ⟨sx rfl, trivial⟩⟩) trivial (⟨rfl, trivial⟩)) ?_
      intro i hok
      dsimp only [List.cons_append, List.nil_append]
      have hsl := hS i hok
      have hri := Fm.rows_len (t.take i)
      have htl : (t.take i).length = i := by rw [List.length_take]; omega
      refine awp_seq ?_
      refine awp_seq (awp_region ?_)
      refine al_pure rfl rfl rfl (pure_move rfl gU) ?_
      refine al_lenS rfl rfl rfl rfl rfl gU (Tryd.underlying9) ?_ (fun hh => by simp at hh); intro hlen
      refine al_pure rfl rfl rfl (pure_cmp rfl rfl gU gU rfl) ?_
      refine al_nil ?_
      refine awp_cond rfl (fun hc3 => ?_) (fun hc3 => ?_)
      · try simp only [nn, strR_len, Fm.rows_len, Fd.rows_len] at hc3
        have hit : i < t.length := by
          rcases Nat.lt_or_ge i t.length with q | q
          · exact q
          · exfalso
            rw [List.drop_eq_nil_of_le q, txtS] at hc3
            simp at hc3
        have hd : txtS t (t.drop i) = bodyF t (t.getD i default) ++ 10 :: txtS t (t.drop (i + 1)) := by
          rw [dropD (d := default) hit, txtS, line_body, List.append_assoc]; rfl
        have hbl : (bodyF t (t.getD i default)).length ≤ 225 := by
          have := lineF_len hv hit
          rw [line_body, List.length_append] at this; omega
        have hcut := cut_spec (txtS t (t.drop i)) [10] (by omega)
        rw [show Lib.cut (txtS t (t.drop i)) [10] = (bodyF t (t.getD i default), txtS t (t.drop (i + 1)), true) by rw [hd]; exact cut_at (body_no10 hv hit)] at hcut
        have hsp := split_spec (bodyF t (t.getD i default)) [58, 32] (by omega) (by decide)
        rw [body_split hv hit] at hsp
        have hjl := take_len31 hv hit (t.getD i default).fields.length
        rw [List.take_length] at hjl
        have hsp2 := split_spec (Lib.join ((t.getD i default).fields.map (txtF t)) [44, 32]) [44, 32] (by omega) (by decide)
        rw [words_split hv hit] at hsp2
        have hnf := hT.nf i hit
        have hwl : (strR ((t.getD i default).fields.map (txtF t))).length = (t.getD i default).fields.length := by rw [strR_len, List.length_map]
        have hml : ((t.getD i default).fields.map (txtF t)).length = (t.getD i default).fields.length := List.length_map ..
        refine awp_skip ?_
        refine awp_block ?_
        refine awp_seq (awp_region ?_)
        refine al_pure rfl rfl rfl (pure_move rfl gU) ?_
        refine al_call rfl rfl rfl rfl rfl rfl gU gU (hcut) rfl ?_
        refine al_pure rfl rfl rfl (pure_move rfl gU) ?_
        refine al_pure rfl rfl rfl (pure_extract rfl gU rfl) ?_
        refine al_pure rfl rfl rfl (pure_extract rfl gU rfl) ?_
        refine al_pure rfl rfl rfl (pure_extract rfl gU rfl) ?_
        refine al_pure rfl rfl rfl (pure_assign rfl gU) ?_
        refine al_pure rfl rfl rfl (pure_assign rfl gU) ?_
        refine al_pure rfl rfl rfl (pure_assign rfl gU) ?_
        refine al_nil ?_
        refine awp_sub (s := { t := [(4, _, _), (5, _, _), (6, _, _)], bx := [], ow := [((.t 4), _)] }) (sub_mk (⟨sx rfl, ⟨sx rfl, ⟨sx rfl, trivial⟩⟩⟩) trivial (⟨rfl, trivial⟩)) ?_
        refine awp_seq (awp_region ?_)
        refine al_pure rfl rfl rfl (pure_move rfl gU) ?_
        refine al_pure rfl rfl rfl (pure_assign rfl gU) ?_
        refine al_nil ?_
        refine awp_seq (awp_region ?_)
        refine al_pure rfl rfl rfl (pure_move rfl gU) ?_
        refine al_call rfl rfl rfl rfl rfl rfl gU gU (hsp) rfl ?_
        refine al_pure rfl rfl rfl (pure_assign rfl gU) ?_
        refine al_nil ?_
        refine awp_sub (s := { t := [(0, _, _), (4, _, _), (8, _, _)], bx := [], ow := [((.t 4), _)] }) (sub_mk (⟨sx rfl, ⟨sx rfl, ⟨sx rfl, trivial⟩⟩⟩) trivial (⟨rfl, trivial⟩)) ?_
        refine awp_seq ?_
        refine awp_seq (awp_region ?_)
        refine al_pure rfl rfl rfl (pure_move rfl gU) ?_
        refine al_lenSl rfl rfl rfl rfl rfl gU rfl rfl ?_ (fun hh => by simp at hh); intro hlen
        refine al_pure rfl rfl rfl (pure_cmp rfl rfl gU gU rfl) ?_
        refine al_nil ?_
        refine awp_cond rfl (fun hc4 => ?_) (fun hc4 => ?_)
        · exfalso; revert hc4; simp [strR]
        · refine awp_skip ?_
          refine awp_seq (awp_region ?_)
          refine al_pure rfl rfl rfl (pure_move rfl gU) ?_
          refine al_pure rfl rfl rfl (pure_indexAddr rfl rfl gU gU rfl rfl rfl (fun hh => strR_at (k := 0) (by simp))) ?_
          refine al_pure rfl rfl rfl (pure_loadRo rfl gU rfl rfl rfl) ?_
          refine al_pure rfl rfl rfl (pure_buildX rfl Tryd.underlying47 rfl gU) ?_
          refine al_do rfl (does_alloc rfl rfl rfl) ?_
          refine al_do rfl (does_store rfl rfl rfl rfl rfl rfl rfl) ?_
          refine al_nil ?_
          refine awp_sub (s := { t := [(0, _, _), (4, _, _), (8, _, _), (9, _, _)], bx := [((.l 9), _)], ow := [((.t 4), _)] }) (sub_mk (⟨sx rfl, ⟨sx rfl, ⟨sx rfl, ⟨sx rfl, trivial⟩⟩⟩⟩) (⟨sx rfl, trivial⟩) (⟨rfl, trivial⟩)) ?_
          refine awp_seq ?_
          refine awp_seq (awp_region ?_)
          refine al_pure rfl rfl rfl (pure_move rfl gU) ?_
          refine al_pure rfl rfl rfl (pure_indexAddr rfl rfl gU gU rfl rfl rfl (fun hh => strR_at (k := 1) (by simp))) ?_
          refine al_pure rfl rfl rfl (pure_loadRo rfl gU rfl rfl rfl) ?_
          refine al_call rfl rfl rfl rfl rfl rfl gU gU (hsp2) rfl ?_
          refine al_lenSl rfl rfl rfl rfl rfl gU rfl rfl ?_ (fun hh => by simp at hh); intro hlen
          refine al_pure rfl rfl rfl (pure_move rfl gU) ?_
          refine al_nil ?_
          refine awp_sub (s := { t := [(0, _, _), (4, _, _), (9, _, _), (47, _, _), (48, _, _), (49, _, _)], bx := [((.l 9), _)], ow := [((.t 4), _)] }) (sub_mk (⟨sx rfl, ⟨sx rfl, ⟨sx rfl, ⟨sx rfl, ⟨sx rfl, ⟨sx rfl, trivial⟩⟩⟩⟩⟩⟩) (⟨sx rfl, trivial⟩) (⟨rfl, trivial⟩)) ?_
          refine awp_block ?_
          refine awp_own (.l 9) 1 5 rfl rfl rfl ?_
          refine awp_for (ι := Nat) { t := [(0, _, _), (4, _, _), (9, _, _), (47, _, _), (48, _, _)], bx := [], ow := [((.b (.l 9) 1), _), ((.t 4), _)] } (fun k => [(49, true, xi (k : Int))]) (fun k => [((.l 9), [.s (t.getD i default).name, .sl 5 (Fd.rows ((t.getD i default).fields.take k))])]) (fun k => k ≤ (t.getD i default).fields.length) (fun k => (t.getD i default).fields.length - k) (0) (by simp) (sub_mk (⟨sx rfl, ⟨sx rfl, ⟨sx rfl, ⟨sx rfl, ⟨sx rfl, ⟨sx rfl, trivial⟩⟩⟩⟩⟩⟩) (⟨sx rfl, trivial⟩) (⟨rfl, ⟨rfl, trivial⟩⟩)) ?_
          intro k hok2
          dsimp only [List.cons_append, List.nil_append]
          refine awp_seq (awp_region ?_)
          refine al_pure rfl rfl rfl (pure_cmp rfl rfl gU gU rfl) ?_
          refine al_nil ?_
          refine awp_seq ?_
          refine awp_cond rfl (fun hc5 => ?_) (fun hc5 => ?_)
          · try simp only [nn, strR_len, Fm.rows_len, Fd.rows_len] at hc5
            have hkl : k < (t.getD i default).fields.length := by omega
            have hfl : Ctr sys 37 [xtab (t.take i), xs (((t.getD i default).fields.map (txtF t)).getD k [])] [] (xfb ((t.getD i default).fields.getD k default)) none [] := by
              rw [show ((t.getD i default).fields.map (txtF t)).getD k [] = txtF t ((t.getD i default).fields.getD k default) from map_getD (txtF t) hkl]
              exact field_txt hv hit hkl
            have hrk := Fd.rows_len ((t.getD i default).fields.take k)
            have htk : ((t.getD i default).fields.take k).length = k := by rw [List.length_take]; omega
            refine awp_skip ?_
            refine awp_seq ?_
            refine awp_block ?_
            refine awp_seq (awp_region ?_)
            refine al_pure rfl rfl rfl (pure_indexAddr rfl rfl gU gU rfl rfl rfl (fun hh => strR_at (by first | omega | (simp at hh; omega)))) ?_
            refine al_pure rfl rfl rfl (pure_loadRo rfl gU rfl rfl rfl) ?_
            refine al_pure rfl rfl rfl (pure_assign rfl gU) ?_
            refine al_nil ?_
            refine awp_seq (awp_region ?_)
            refine al_pure rfl rfl rfl (pure_move rfl gU) ?_
            refine al_pure rfl rfl rfl (pure_move rfl gU) ?_
            refine al_call rfl rfl rfl rfl rfl rfl gU gU (hfl) rfl ?_
            refine al_pure rfl rfl rfl (pure_move rfl gU) ?_
            refine al_pure rfl rfl rfl (pure_extract rfl gU rfl) ?_
            refine al_pure rfl rfl rfl (pure_extract rfl gU rfl) ?_
            refine al_do rfl (does_alloc rfl rfl rfl) ?_
            refine al_do rfl (does_store rfl rfl rfl rfl rfl rfl rfl) ?_
            refine al_pure rfl rfl rfl (pure_assign rfl gU) ?_
            refine al_nil ?_
            refine awp_sub (s := { t := [(0, _, _), (4, _, _), (9, _, _), (12, _, _), (13, _, _), (47, _, _), (48, _, _), (49, _, _)], bx := [((.l 12), _), ((.l 9), _)], ow := [((.b (.l 9) 1), _), ((.t 4), _)] }) (sub_mk (⟨sx rfl, ⟨sx rfl, ⟨sx rfl, ⟨sx rfl, ⟨sx rfl, ⟨sx rfl, ⟨sx rfl, ⟨sx rfl, trivial⟩⟩⟩⟩⟩⟩⟩⟩) (⟨sx rfl, ⟨sx rfl, trivial⟩⟩) (⟨rfl, ⟨rfl, trivial⟩⟩)) ?_
            refine awp_seq ?_
            refine awp_seq (awp_region ?_)
            refine al_pure rfl rfl rfl (pure_move rfl gU) ?_
            refine al_pure rfl rfl rfl (pure_not rfl gU) ?_
            refine al_nil ?_
            refine awp_cond rfl (fun hc6 => ?_) (fun hc6 => ?_)
            · exfalso; revert hc6; simp
            · refine awp_skip ?_
              refine awp_region ?_
              refine al_pure rfl rfl rfl (pure_fieldPtr rfl gU rfl rfl) ?_
              refine al_do rfl (does_loadTake rfl rfl rfl rfl rfl rfl rfl) ?_
              refine al_pure rfl rfl rfl (pure_loadBoxRow rfl gU rfl rfl rfl rfl rfl) ?_
              refine al_buildSlice (xs := [_]) rfl rfl rfl rfl rfl rfl rfl rfl rfl gU rfl ?_
              refine al_do rfl (does_append rfl rfl rfl rfl rfl rfl rfl (by first | omega | (simp only [List.length_append, List.length_singleton]; omega)) (by first | omega | (simp only [List.length_append, List.length_singleton]; omega))) ?_
              refine al_pure rfl rfl rfl (pure_fieldPtr rfl gU rfl rfl) ?_
              refine al_do rfl (does_storeOwn rfl rfl rfl rfl rfl rfl rfl) ?_
              refine al_nil ?_
              refine awp_sub (s := { t := [(0, _, _), (4, _, _), (9, _, _), (47, _, _), (48, _, _), (49, _, _)], bx := [((.l 9), _)], ow := [((.b (.l 9) 1), _), ((.t 4), _)] }) (sub_mk (⟨sx rfl, ⟨sx rfl, ⟨sx rfl, ⟨sx rfl, ⟨sx rfl, ⟨sx rfl, trivial⟩⟩⟩⟩⟩⟩) (⟨sx rfl, trivial⟩) (⟨rfl, ⟨rfl, trivial⟩⟩)) ?_
              refine awp_region ?_
              refine al_pure rfl rfl rfl (pure_arith rfl rfl gU gU rfl (IntWalk.i64_in _ (by omega))) ?_
              refine al_pure rfl rfl rfl (pure_move rfl gU) ?_
              refine al_nil ?_
              refine ⟨k + 1, ?_, ?_, sub_mk (⟨⟨_, rfl, ?_⟩, ⟨sx rfl, ⟨sx rfl, ⟨sx rfl, ⟨sx rfl, ⟨sx rfl, trivial⟩⟩⟩⟩⟩⟩) (⟨⟨_, rfl, ?_⟩, trivial⟩) (⟨rfl, ⟨rfl, trivial⟩⟩)⟩
              · omega
              · omega
              · rfl
              · rw [take_getD (d := default) hkl, Fd.rows_app]; rfl
          · try simp only [nn, strR_len, Fm.rows_len, Fd.rows_len] at hc5
            have hkl : k = (t.getD i default).fields.length := by omega
            rw [hkl, List.take_length]
            refine awp_exit ?_
            repeat (first | refine thenS_exit ?_ | refine blockS_hit ?_ | refine blockS_miss rfl ?_)
            refine awp_region ?_
            refine al_do rfl (does_take (.inl rfl) rfl rfl rfl) ?_
            refine al_pure rfl rfl rfl (pure_loadBoxRow rfl gU rfl rfl rfl rfl rfl) ?_
            refine al_buildSlice (xs := [_]) rfl rfl rfl rfl rfl rfl rfl rfl rfl gU rfl ?_
            refine al_do rfl (does_append rfl rfl rfl rfl rfl rfl rfl (by first | omega | (simp only [List.length_append, List.length_singleton]; omega)) (by first | omega | (simp only [List.length_append, List.length_singleton]; omega))) ?_
            refine al_do rfl (does_take (.inr rfl) rfl rfl rfl) ?_
            refine al_nil ?_
            refine ⟨i + 1, ?_, ?_, sub_mk (⟨⟨_, rfl, ?_⟩, ⟨⟨_, rfl, ?_⟩, trivial⟩⟩) trivial (⟨rfl, trivial⟩)⟩
            · omega
            · omega
            · rfl
            · refine tx ((tab_next (t := t.take i) (f := t.getD i default) rfl).trans ?_)
              rw [take_getD (d := default) hit]
      · try simp only [nn, strR_len, Fm.rows_len, Fd.rows_len] at hc3
        have hit : t.length ≤ i := by
          rcases Nat.lt_or_ge i t.length with q | q
          · exfalso
            have hd : txtS t (t.drop i) = bodyF t (t.getD i default) ++ 10 :: txtS t (t.drop (i + 1)) := by
              rw [dropD (d := default) q, txtS, line_body, List.append_assoc]; rfl
            rw [hd, List.length_append, List.length_cons] at hc3
            omega
          · exact q
        rw [List.take_of_length_le hit]
        refine awp_exit ?_
        repeat (first | refine thenS_exit ?_ | refine blockS_hit ?_ | refine blockS_miss rfl ?_)
        refine awp_seq ?_
        refine awp_seq (awp_region ?_)
        refine al_pure rfl rfl rfl (pure_move rfl gU) ?_
        refine al_call rfl rfl rfl rfl rfl rfl gU gU (fValid_spec _) rfl ?_
        refine al_pure rfl rfl rfl (pure_assign rfl gU) ?_
        refine al_nil ?_
        refine awp_sub (s := { t := [(4, _, _), (14, _, _)], bx := [], ow := [((.t 4), _)] }) (sub_mk (⟨sx rfl, ⟨sx rfl, trivial⟩⟩) trivial (⟨rfl, trivial⟩)) ?_
        refine awp_seq (awp_region ?_)
        refine al_pure rfl rfl rfl (pure_move rfl gU) ?_
        refine al_pure rfl rfl rfl (pure_cmp rfl rfl gU gU rfl) ?_
        refine al_nil ?_
        refine awp_cond rfl (fun hc7 => ?_) (fun hc7 => ?_)
        · try simp only [nn, strR_len, Fm.rows_len, Fd.rows_len] at hc7
          exact absurd hv hc7
        · try simp only [nn, strR_len, Fm.rows_len, Fd.rows_len] at hc7
          refine awp_skip ?_
          refine awp_seq (awp_region ?_)
          refine al_do rfl (does_take (.inl rfl) rfl rfl rfl) ?_
          refine al_do rfl (does_take (.inr rfl) rfl rfl rfl) ?_
          refine al_pure rfl rfl rfl (pure_assign rfl gU) ?_
          refine al_nil ?_
          refine awp_ret ?_
          repeat (first | refine tR ?_ | refine bR ?_)
          refine ret_ok rfl ?_ trivial
          rfl
end Go.Proofs.YthfoclblmdnckaaDoor
/- Tables of drafts: as data, what is made of them, that it is valid; contracts. -/
set_option linter.unusedVariables false
set_option linter.unusedSimpArgs false
namespace Go.Proofs.YthfoclblmdnckaaDoor
open Go Go.Abs
theorem u8_nat {x : Int} {n : Nat} (h : x = n) (hn : n < 256) : x = ((UInt8.ofNat n).toNat : Int) := by
  rw [h, UInt8.toNat_ofNat']; omega
theorem byte1 {x : Int} {n : Nat} (h : x = n) (hn : n < 256) : [[C.i .u8 x]] = bytesR [UInt8.ofNat n] := by
  rw [u8_nat h hn]; rfl
structure Dr where
  kind : UInt8
  a : UInt8
  b : UInt8
  deriving Inhabited
def Dr.cells (d : Dr) : List C := [.i .u8 (d.kind.toNat : Int), .i .u8 (d.a.toNat : Int), .i .u8 (d.b.toNat : Int)]
def Dr.rows (l : List Dr) : List (List C) := l.map Dr.cells
theorem Dr.rows_len (l : List Dr) : (Dr.rows l).length = l.length := by simp [Dr.rows]
theorem Dr.rows_at {l : List Dr} {k : Nat} (h : k < l.length) : (Dr.rows l)[k]? = some (l.getD k default).cells := by
  rw [Dr.rows, List.getElem?_map, List.getD_eq_getElem?_getD, List.getElem?_eq_getElem h]; rfl
def ddR (d : List (List Dr)) : List (List C) := d.map fun l => [C.sl 3 (Dr.rows l)]
theorem ddR_len (d : List (List Dr)) : (ddR d).length = d.length := by simp [ddR]
theorem ddR_at {d : List (List Dr)} {k : Nat} (h : k < d.length) : (ddR d)[k]? = some [C.sl 3 (Dr.rows (d.getD k []))] := by
  rw [ddR, List.getElem?_map, List.getD_eq_getElem?_getD, List.getElem?_eq_getElem h]; rfl
abbrev xdd (d : List (List Dr)) : X := .v (.c (.sl 1 (ddR d)))
def tagB (d : Dr) : List UInt8 := if d.b.toNat % 3 = 0 then [UInt8.ofNat (d.a.toNat % 4)] ++ [UInt8.ofNat (d.b.toNat % 4)] else [UInt8.ofNat (d.a.toNat % 4)]
def madeF (t : List Fm) (d : Dr) (last : Bool) : Fd :=
  if d.kind.toNat % 6 = 1 then ⟨2, [], 1 + (d.a.toNat % 3 : Nat), 0, 0⟩
  else if d.kind.toNat % 6 = 2 then ⟨3, [], (d.a.toNat % 4 : Nat), 0, 0⟩
  else if d.kind.toNat % 6 = 3 then ⟨4, [], 0, (d.a.toNat % 8 : Nat), (d.a.toNat % 8 : Nat) + (d.b.toNat % 8 : Nat)⟩
  else if d.kind.toNat % 6 = 4 ∧ 0 < t.length ∧ plainB (t.getD (d.a.toNat % t.length) default).fields = true then ⟨5, [], (d.a.toNat % t.length : Nat), 0, 0⟩
  else if d.kind.toNat % 6 = 5 ∧ last = true then ⟨6, [], 0, (d.a.toNat % 3 : Nat), (d.a.toNat % 3 : Nat) + (d.b.toNat % 4 : Nat)⟩
  else ⟨1, tagB d, 0, 0, 0⟩
def madeP (t : List Fm) (l : List Dr) (k : Nat) : List Fd := (List.range k).map fun j => madeF t (l.getD j default) (decide (j + 1 = l.length) || decide (j = 3))
def tagT : Fd := ⟨1, [116], 0, 0, 0⟩
def madeL (t : List Fm) (l : List Dr) : List Fd := if min l.length 4 = 0 then [tagT] else madeP t l (min l.length 4)
def nameI (i : Nat) : List UInt8 := [102, UInt8.ofNat (48 + i)]
def madeT (d : List (List Dr)) : Nat → List Fm
  | 0 => []
  | n + 1 => madeT d n ++ [⟨nameI n, madeL (madeT d n) (d.getD n [])⟩]
def madeE (d : List (List Dr)) : List Fm := madeT d (min d.length 4)
theorem madeP_len (t : List Fm) (l : List Dr) (k : Nat) : (madeP t l k).length = k := by simp [madeP]
theorem madeP_get {t : List Fm} {l : List Dr} {k j : Nat} (h : j < k) : (madeP t l k).getD j default = madeF t (l.getD j default) (decide (j + 1 = l.length) || decide (j = 3)) := by
  unfold madeP
  rw [List.getD_eq_getElem?_getD, List.getElem?_map, List.getElem?_range h]; rfl
theorem madeP_snoc (t : List Fm) (l : List Dr) (k : Nat) : madeP t l (k + 1) = madeP t l k ++ [madeF t (l.getD k default) (decide (k + 1 = l.length) || decide (k = 3))] := by
  simp [madeP, List.range_succ]
theorem madeF_ok (t : List Fm) (d : Dr) (last last' : Bool) (h : last = true → last' = true) : fieldE t (madeF t d last) last' = 0 := by
  have h2 : d.a.toNat < 256 := d.a.toNat_lt
  have h3 : d.b.toNat < 256 := d.b.toNat_lt
  have hml : 0 < t.length → d.a.toNat % t.length < t.length := fun q => Nat.mod_lt _ q
  have ht : 1 ≤ (tagB d).length ∧ (tagB d).length ≤ 2 := by unfold tagB; split <;> simp
  have key : ∀ f : Fd, shapeB f = true → rangeB f last' = true → (f.kind = 5 → 0 ≤ f.n ∧ f.n < t.length ∧ plainB (fmAt t f.n).fields = true) → fieldE t f last' = 0 := by
    intro f q1 q2 q3
    unfold fieldE
    rw [q1, q2, if_neg (by simp), if_neg (by simp)]
    split
    · rfl
    · rename_i q4
      obtain ⟨a1, a2, a3⟩ := q3 (Decidable.not_not.1 q4)
      rw [if_neg (by omega), a3, if_neg (by simp)]
  unfold madeF
  split
  · refine key _ (by simp [shapeB]) ?_ (fun q => by simp at q)
    simp [rangeB]; omega
  split
  · refine key _ (by simp [shapeB]) ?_ (fun q => by simp at q)
    simp [rangeB]; omega
  split
  · refine key _ (by simp [shapeB]) ?_ (fun q => by simp at q)
    simp [rangeB]; omega
  split
  · rename_i q
    refine key _ (by simp [shapeB]) (by simp [rangeB]) (fun _ => ⟨by dsimp only; omega, by dsimp only; have := hml q.2.1; omega, ?_⟩)
    exact q.2.2
  split
  · rename_i q
    refine key _ (by simp [shapeB]) ?_ (fun q => by simp at q)
    simp [rangeB, h q.2]; omega
  · refine key _ (by simp [shapeB]) ?_ (fun q => by simp at q)
    simp [rangeB]; omega
theorem tagT_ok (t : List Fm) (last : Bool) : fieldE t tagT last = 0 := by unfold fieldE; simp [tagT, shapeB, rangeB]
theorem fieldsE_of : ∀ {t : List Fm} {l : List Fd}, (∀ k, k < l.length → fieldE t (l.getD k default) (decide (k + 1 = l.length)) = 0) → fieldsE t l = 0
  | t, [], _ => rfl
  | t, f :: l, h => by
    have h0 := h 0 (by simp)
    have ih := fieldsE_of (t := t) (l := l) fun k hk => by have := h (k + 1) (by simpa using hk); simpa using this
    have he : decide (0 + 1 = (f :: l).length) = l.isEmpty := by cases l <;> simp
    rw [List.getD_cons_zero, he] at h0
    rw [fieldsE, if_neg (by omega)]
    exact ih
theorem madeL_ok (t : List Fm) (l : List Dr) : 1 ≤ (madeL t l).length ∧ (madeL t l).length ≤ 4 ∧ fieldsE t (madeL t l) = 0 := by
  unfold madeL
  split
  · refine ⟨by simp, by simp, fieldsE_of fun k hk => ?_⟩
    obtain rfl : k = 0 := by simp at hk; omega
    exact tagT_ok t _
  · refine ⟨by rw [madeP_len]; omega, by rw [madeP_len]; omega, fieldsE_of fun k hk => ?_⟩
    rw [madeP_len] at hk ⊢
    rw [madeP_get hk]
    refine madeF_ok _ _ _ _ fun q => ?_
    simp only [Bool.or_eq_true, decide_eq_true_eq] at q ⊢
    omega
theorem getD_snoc {α : Type} {l : List α} {x d : α} {n : Nat} (h : l.length = n) : (l ++ [x]).getD n d = x := by subst h; simp
theorem madeT_len (d : List (List Dr)) : ∀ n, (madeT d n).length = n
  | 0 => rfl
  | n + 1 => by rw [madeT, List.length_append, madeT_len d n]; rfl
theorem madeT_take (d : List (List Dr)) : ∀ {n m : Nat}, n ≤ m → (madeT d m).take n = madeT d n
  | n, 0, h => by
    obtain rfl : n = 0 := by omega
    rfl
  | n, m + 1, h => by
    by_cases e : n = m + 1
    · subst e; exact List.take_of_length_le (by rw [madeT_len]; omega)
    · rw [madeT, List.take_append_of_le_length (by rw [madeT_len]; omega)]
      exact madeT_take d (by omega)
theorem madeT_get (d : List (List Dr)) {j n : Nat} (h : j < n) : (madeT d n).getD j default = ⟨nameI j, madeL (madeT d j) (d.getD j [])⟩ := by
  have h1 : (madeT d n).getD j default = ((madeT d n).take (j + 1)).getD j default := (getD_take _ _ (by omega)).symm
  rw [h1, madeT_take d (by omega), madeT, getD_snoc (madeT_len d j)]
theorem findF_none {nm : List UInt8} : ∀ {l : List Fm} {k : Int}, (∀ j, j < l.length → (l.getD j default).name ≠ nm) → findF nm k l = -1
  | [], k, _ => rfl
  | f :: l, k, h => by
    have h0 := h 0 (by simp)
    rw [List.getD_cons_zero] at h0
    rw [findF, if_neg h0]
    exact findF_none fun j hj => by have := h (j + 1) (by simpa using hj); simpa using this
theorem nameI_ne {i j : Nat} (hi : i < j) (hj : j < 4) : nameI i ≠ nameI j := by
  match j, hj, i, hi with
  | 1, _, 0, _ => decide
  | 2, _, 0, _ => decide
  | 2, _, 1, _ => decide
  | 3, _, 0, _ => decide
  | 3, _, 1, _ => decide
  | 3, _, 2, _ => decide
theorem nameI_ok {i : Nat} (hi : i < 4) : fnameB (nameI i) = true := by
  match i, hi with
  | 0, _ => exact (show fnameB (nameI 0) = true by kernel_rfl)
  | 1, _ => exact (show fnameB (nameI 1) = true by kernel_rfl)
  | 2, _ => exact (show fnameB (nameI 2) = true by kernel_rfl)
  | 3, _ => exact (show fnameB (nameI 3) = true by kernel_rfl)
theorem madeFm_ok (d : List (List Dr)) {i : Nat} (hi : i < 4) : fmE (madeT d i) ⟨nameI i, madeL (madeT d i) (d.getD i [])⟩ = 0 := by
  obtain ⟨h1, h2, h3⟩ := madeL_ok (madeT d i) (d.getD i [])
  have hf : findF (nameI i) 0 (madeT d i) = -1 := findF_none fun j hj => by
    rw [madeT_len] at hj
    rw [madeT_get d hj]
    exact nameI_ne hj hi
  unfold fmE
  rw [if_neg (by rw [nameI_ok hi]; simp), if_neg (by dsimp only; rw [hf]; omega), if_neg (by dsimp only; omega), if_neg (by dsimp only; omega)]
  exact h3
theorem tableE_of : ∀ {t l : List Fm} {k : Nat}, (∀ i, i < l.length → fmE (t.take (k + i)) (l.getD i default) = 0) → tableE t l k = 0
  | t, [], k, _ => rfl
  | t, f :: l, k, h => by
    have h0 := h 0 (by simp)
    rw [Nat.add_zero, List.getD_cons_zero] at h0
    rw [tableE, if_neg (by omega)]
    exact tableE_of fun i hi => by
      have := h (i + 1) (by simpa using hi)
      rw [List.getD_cons_succ] at this
      rw [show k + 1 + i = k + (i + 1) by omega]; exact this
theorem made_valid (d : List (List Dr)) : validE (madeE d) = 0 ∧ (madeE d).length ≤ 4 := by
  have hl := madeT_len d (min d.length 4)
  unfold madeE validE
  refine ⟨?_, by omega⟩
  rw [if_neg (by omega)]
  refine tableE_of fun i hi => ?_
  rw [hl] at hi
  rw [Nat.zero_add, madeT_take d (by omega), madeT_get d hi]
  exact madeFm_ok d (by omega)
theorem digits_spec (n : Nat) (h : n < 10) : Ctr sys 28 [xi (n : Int)] [] (xs [UInt8.ofNat (48 + n)]) none [] := by
  refine spec_intro Tryd.func28 rfl rfl rfl rfl rfl rfl ?_
  refine awp_seq (awp_region ?_)
  refine al_pure rfl rfl rfl (pure_assign rfl gU) ?_
  refine al_nil ?_
  refine awp_seq ?_
  refine awp_seq (awp_region ?_)
  refine al_pure rfl rfl rfl (pure_move rfl gU) ?_
  refine al_pure rfl rfl rfl (pure_cmp rfl rfl gU gU rfl) ?_
  refine al_nil ?_
  refine awp_cond rfl (fun hc => ?_) (fun hc => ?_)
  · refine awp_seq (awp_region ?_)
    refine al_pure rfl rfl rfl (pure_move rfl gU) ?_
    refine al_pure rfl rfl rfl (pure_move rfl gU) ?_
    refine al_pure rfl rfl rfl (pure_arith rfl rfl gU gU rfl (IntWalk.i64_in _ (by omega))) ?_
    refine al_pure rfl rfl rfl (pure_sliceS (l := n) (h' := (n + 1)) rfl gU Tryd.underlying9 (fun _ => ⟨_, _, _, rfl, gU, by first | omega | (simp at hh; omega) | (simp; omega)⟩) (fun _ => ⟨_, _, _, rfl, gU, by first | omega | (simp at hh; omega) | (simp; omega)⟩) (fun hh => by first | omega | (simp at hh; omega) | (simp; omega)) (fun hh => by first | omega | (simp at hh; omega) | (simp; omega))) ?_
    refine al_pure rfl rfl rfl (pure_assign rfl gU) ?_
    refine al_nil ?_
    refine awp_ret ?_
    repeat (first | refine tR ?_ | refine bR ?_)
    refine ret_ok rfl ?_ trivial
    match n, h with
    | 0, _ => rfl
    | 1, _ => rfl
    | 2, _ => rfl
    | 3, _ => rfl
    | 4, _ => rfl
    | 5, _ => rfl
    | 6, _ => rfl
    | 7, _ => rfl
    | 8, _ => rfl
    | 9, _ => rfl
  · try simp only [nn, Fd.rows_len, Fm.rows_len, Dr.rows_len, ddR_len] at hc
    exfalso; omega
abbrev xdr (d : Dr) : X := .v (.agg d.cells)
theorem xf_eq {a b : Fd} (h : a = b) : xf a = xf b := by rw [h]
theorem made_spec (t : List Fm) (d : Dr) (last : Bool) (ht : t.length ≤ 100) : Ctr sys 29 [xtab t, xdr d, xb last] [] (xf (madeF t d last)) none [] := by
  have hrl := Fm.rows_len t
  have h1 : d.kind.toNat < 256 := d.kind.toNat_lt
  have h2 : d.a.toNat < 256 := d.a.toNat_lt
  have h3 : d.b.toNat < 256 := d.b.toNat_lt
  have hm : (d.a.toNat : Int) % ((Fm.rows t).length : Int) = ((d.a.toNat % t.length : Nat) : Int) := by rw [hrl, Int.natCast_emod]
  have hk : ∀ q : Int, q = (d.kind.toNat : Int) % 6 → q = ((d.kind.toNat % 6 : Nat) : Int) := fun q e => by omega
  have hml : t.length = 0 ∨ (0 < t.length ∧ d.a.toNat % t.length < t.length) := by
    by_cases q : t.length = 0
    · exact .inl q
    · exact .inr ⟨by omega, Nat.mod_lt _ (by omega)⟩
  refine spec_intro Tryd.func29 rfl rfl rfl rfl rfl rfl ?_
  refine awp_seq (awp_region ?_)
  refine al_do rfl (does_box rfl rfl rfl rfl) ?_
  refine al_do rfl (does_alloc rfl rfl rfl) ?_
  refine al_nil ?_
  refine awp_seq ?_
  refine awp_drawn' (by kernel_rfl) ?_
  refine dr_pure rfl rfl rfl rfl (pure_fieldPtr rfl gU rfl rfl) ?_
  refine dr_load rfl rfl rfl rfl rfl rfl rfl gU rfl rfl rfl rfl ?_
  refine dr_pure rfl rfl rfl rfl (pure_convInt rfl gU ⟨_, Tryd.underlying5⟩ (Tryd.underlying3) (IntWalk.i64_in _ (by omega))) ?_
  refine dr_pure rfl rfl rfl rfl (pure_fieldPtr rfl gU rfl rfl) ?_
  refine dr_load rfl rfl rfl rfl rfl rfl rfl gU rfl rfl rfl rfl ?_
  refine dr_pure rfl rfl rfl rfl (pure_convInt rfl gU ⟨_, Tryd.underlying5⟩ (Tryd.underlying3) (IntWalk.i64_in _ (by omega))) ?_
  refine dr_pure rfl rfl rfl rfl (pure_assign rfl gU) ?_
  refine dr_pure rfl rfl rfl rfl (pure_assign rfl gU) ?_
  refine dr_nil (by kernel_rfl) ?_
  refine awp_sub (s := { t := [(0, _, _), (2, _, _), (4, _, _), (6, _, _), (7, _, _), (8, _, _)], bx := [((.l 4), _), ((.l 6), _)], ow := [] }) (sub_mk (⟨sx rfl, ⟨sx rfl, ⟨sx rfl, ⟨sx rfl, ⟨sx rfl, ⟨sx rfl, trivial⟩⟩⟩⟩⟩⟩) (⟨sx rfl, ⟨sx rfl, trivial⟩⟩) trivial) ?_
  refine awp_seq ?_
  refine awp_seq (awp_region ?_)
  refine al_pure rfl rfl rfl (pure_fieldPtr rfl gU rfl rfl) ?_
  refine al_pure rfl rfl rfl (pure_loadBox rfl gU rfl rfl rfl rfl) ?_
  refine al_pure rfl rfl rfl (pure_remG rfl rfl gU gU (fun hh => by first | omega | (simp at hh; omega)) (fun hh => Int.tmod_eq_emod_of_nonneg (by first | omega | (simp at hh; omega)))) ?_
  refine al_nil ?_
  refine awp_block ?_
  refine awp_seq (awp_region ?_)
  refine al_pure rfl rfl rfl (pure_cmp rfl rfl gU gU rfl) ?_
  refine al_pure rfl rfl rfl (pure_assign rfl gU) ?_
  refine al_nil ?_
  refine awp_sub (s := { t := [(0, _, _), (2, _, _), (6, _, _), (7, _, _), (8, _, _), (18, _, _), (19, _, _)], bx := [((.l 6), _)], ow := [] }) (sub_mk (⟨sx rfl, ⟨sx rfl, ⟨sx rfl, ⟨sx rfl, ⟨sx rfl, ⟨sx rfl, ⟨sx rfl, trivial⟩⟩⟩⟩⟩⟩⟩) (⟨sx rfl, trivial⟩) trivial) ?_
  refine awp_cond rfl (fun hca => ?_) (fun hca => ?_)
  · try simp only [nn, Fd.rows_len, Fm.rows_len, Dr.rows_len, ddR_len] at hca
    have hF : madeF t d last = ⟨2, [], 1 + (d.a.toNat % 3 : Nat), 0, 0⟩ := by unfold madeF; rw [if_pos (by omega)]
    refine awp_seq (awp_region ?_)
    refine al_pure rfl rfl rfl (pure_move rfl gU) ?_
    refine al_pure rfl rfl rfl (pure_remG rfl rfl gU gU (fun hh => by first | omega | (simp at hh; omega)) (fun hh => Int.tmod_eq_emod_of_nonneg (by first | omega | (simp at hh; omega)))) ?_
    refine al_pure rfl rfl rfl (pure_arith rfl rfl gU gU rfl (IntWalk.i64_in _ (by omega))) ?_
    refine al_pure rfl rfl rfl (pure_build rfl Tryd.underlying53 rfl gU) ?_
    refine al_do rfl (does_store rfl rfl rfl rfl rfl rfl rfl) ?_
    refine al_nil ?_
    refine awp_ret ?_
    repeat (first | refine tR ?_ | refine bR ?_)
    refine ret_ok rfl ?_ trivial
    (rw [hF]; rfl)
  · try simp only [nn, Fd.rows_len, Fm.rows_len, Dr.rows_len, ddR_len] at hca
    refine awp_seq (awp_region ?_)
    refine al_pure rfl rfl rfl (pure_cmp rfl rfl gU gU rfl) ?_
    refine al_pure rfl rfl rfl (pure_assign rfl gU) ?_
    refine al_nil ?_
    refine awp_cond rfl (fun hcb => ?_) (fun hcb => ?_)
    · try simp only [nn, Fd.rows_len, Fm.rows_len, Dr.rows_len, ddR_len] at hcb
      have hF : madeF t d last = ⟨3, [], (d.a.toNat % 4 : Nat), 0, 0⟩ := by unfold madeF; rw [if_neg (by omega), if_pos (by omega)]
      refine awp_seq (awp_region ?_)
      refine al_pure rfl rfl rfl (pure_move rfl gU) ?_
      refine al_pure rfl rfl rfl (pure_remG rfl rfl gU gU (fun hh => by first | omega | (simp at hh; omega)) (fun hh => Int.tmod_eq_emod_of_nonneg (by first | omega | (simp at hh; omega)))) ?_
      refine al_pure rfl rfl rfl (pure_build rfl Tryd.underlying53 rfl gU) ?_
      refine al_do rfl (does_store rfl rfl rfl rfl rfl rfl rfl) ?_
      refine al_nil ?_
      refine awp_ret ?_
      repeat (first | refine tR ?_ | refine bR ?_)
      refine ret_ok rfl ?_ trivial
      (rw [hF]; rfl)
    · try simp only [nn, Fd.rows_len, Fm.rows_len, Dr.rows_len, ddR_len] at hcb
      refine awp_seq (awp_region ?_)
      refine al_pure rfl rfl rfl (pure_cmp rfl rfl gU gU rfl) ?_
      refine al_pure rfl rfl rfl (pure_assign rfl gU) ?_
      refine al_nil ?_
      refine awp_cond rfl (fun hcc => ?_) (fun hcc => ?_)
      · try simp only [nn, Fd.rows_len, Fm.rows_len, Dr.rows_len, ddR_len] at hcc
        have hF : madeF t d last = ⟨4, [], 0, (d.a.toNat % 8 : Nat), (d.a.toNat % 8 : Nat) + (d.b.toNat % 8 : Nat)⟩ := by unfold madeF; rw [if_neg (by omega), if_neg (by omega), if_pos (by omega)]
        refine awp_seq (awp_region ?_)
        refine al_pure rfl rfl rfl (pure_move rfl gU) ?_
        refine al_pure rfl rfl rfl (pure_remG rfl rfl gU gU (fun hh => by first | omega | (simp at hh; omega)) (fun hh => Int.tmod_eq_emod_of_nonneg (by first | omega | (simp at hh; omega)))) ?_
        refine al_pure rfl rfl rfl (pure_move rfl gU) ?_
        refine al_pure rfl rfl rfl (pure_remG rfl rfl gU gU (fun hh => by first | omega | (simp at hh; omega)) (fun hh => Int.tmod_eq_emod_of_nonneg (by first | omega | (simp at hh; omega)))) ?_
        refine al_pure rfl rfl rfl (pure_move rfl gU) ?_
        refine al_pure rfl rfl rfl (pure_remG rfl rfl gU gU (fun hh => by first | omega | (simp at hh; omega)) (fun hh => Int.tmod_eq_emod_of_nonneg (by first | omega | (simp at hh; omega)))) ?_
        refine al_pure rfl rfl rfl (pure_arith rfl rfl gU gU rfl (IntWalk.i64_in _ (by omega))) ?_
        refine al_pure rfl rfl rfl (pure_build rfl Tryd.underlying53 rfl gU) ?_
        refine al_sub (s := { t := [(6, _, _), (39, _, _)], bx := [((.l 6), _)], ow := [] }) (sub_mk (⟨sx rfl, ⟨sx rfl, trivial⟩⟩) (⟨sx rfl, trivial⟩) trivial) ?_
        refine al_do rfl (does_store rfl rfl rfl rfl rfl rfl rfl) ?_
        refine al_nil ?_
        refine awp_ret ?_
        repeat (first | refine tR ?_ | refine bR ?_)
        refine ret_ok rfl ?_ trivial
        (rw [hF]; rfl)
      · try simp only [nn, Fd.rows_len, Fm.rows_len, Dr.rows_len, ddR_len] at hcc
        refine awp_seq (awp_region ?_)
        refine al_pure rfl rfl rfl (pure_cmp rfl rfl gU gU rfl) ?_
        refine al_pure rfl rfl rfl (pure_assign rfl gU) ?_
        refine al_nil ?_
        refine awp_sub (s := { t := [(0, _, _), (2, _, _), (6, _, _), (7, _, _), (8, _, _), (18, _, _), (40, _, _)], bx := [((.l 6), _)], ow := [] }) (sub_mk (⟨sx rfl, ⟨sx rfl, ⟨sx rfl, ⟨sx rfl, ⟨sx rfl, ⟨sx rfl, ⟨sx rfl, trivial⟩⟩⟩⟩⟩⟩⟩) (⟨sx rfl, trivial⟩) trivial) ?_
        refine awp_cond rfl (fun hcd => ?_) (fun hcd => ?_)
        · try simp only [nn, Fd.rows_len, Fm.rows_len, Dr.rows_len, ddR_len] at hcd
          have hk4 : d.kind.toNat % 6 = 4 := by omega
          refine awp_seq (awp_region ?_)
          refine al_pure rfl rfl rfl (pure_move rfl gU) ?_
          refine al_lenSl rfl rfl rfl rfl rfl gU rfl rfl ?_ (fun hh => by simp at hh); intro hlen
          refine al_pure rfl rfl rfl (pure_cmp rfl rfl gU gU rfl) ?_
          refine al_pure rfl rfl rfl (pure_move rfl gU) ?_
          refine al_pure rfl rfl rfl (pure_move rfl gU) ?_
          refine al_pure rfl rfl rfl (pure_move rfl gU) ?_
          refine al_pure rfl rfl rfl (pure_move rfl gU) ?_
          refine al_pure rfl rfl rfl (pure_lenSl rfl (fun hh => hh) rfl rfl) ?_
          refine al_pure rfl rfl rfl (pure_remG rfl rfl (fun hh => hh) (fun hh => hh) (fun hh => by first | omega | (simp at hh; omega)) (fun hh => Int.tmod_eq_emod_of_nonneg (by first | omega | (simp at hh; omega)))) ?_
          refine al_pure rfl rfl rfl (pure_indexAddr (j := d.a.toNat % t.length) rfl rfl (fun hh => hh) (fun hh => hh) rfl rfl (by first | omega | (simp at hh; omega)) (fun hh => Fm.rows_at (by first | omega | (simp at hh; omega)))) ?_
          refine al_pure rfl rfl rfl (pure_loadRoRow rfl (fun hh => hh) rfl rfl rfl rfl) ?_
          refine al_call rfl rfl rfl rfl rfl rfl gU (fun hh => gA ((fun hh => hh) hh) (rfl)) (plain_spec _) rfl ?_
          refine al_sub (s := { t := [(0, _, _), (6, _, _), (7, _, _), (8, _, _), (45, _, _), (53, _, _)], bx := [((.l 6), _)], ow := [] }) (sub_mk (⟨sx rfl, ⟨sx rfl, ⟨sx rfl, ⟨sx rfl, ⟨sx rfl, ⟨sx rfl, trivial⟩⟩⟩⟩⟩⟩) (⟨sx rfl, trivial⟩) trivial) ?_
          refine al_pure rfl rfl rfl (pure_and rfl rfl gU (fun _ hi => gP rfl hi)) ?_
          refine al_nil ?_
          refine awp_cond rfl (fun hce => ?_) (fun hce => ?_)
          · try simp only [nn, Fd.rows_len, Fm.rows_len, Dr.rows_len, ddR_len] at hce
            have hF : madeF t d last = ⟨5, [], (d.a.toNat % t.length : Nat), 0, 0⟩ := by unfold madeF; rw [if_neg (by omega), if_neg (by omega), if_neg (by omega), if_pos ⟨hk4, by omega, hce.2⟩]
            refine awp_seq (awp_region ?_)
            refine al_pure rfl rfl rfl (pure_move rfl gU) ?_
            refine al_pure rfl rfl rfl (pure_move rfl gU) ?_
            refine al_lenSl rfl rfl rfl rfl rfl gU rfl rfl ?_ (fun hh => by simp at hh); intro hlen
            refine al_pure rfl rfl rfl (pure_remG rfl rfl gU gU (fun hh => by first | omega | (simp at hh; omega)) (fun hh => Int.tmod_eq_emod_of_nonneg (by first | omega | (simp at hh; omega)))) ?_
            refine al_pure rfl rfl rfl (pure_build rfl Tryd.underlying53 rfl gU) ?_
            refine al_do rfl (does_store rfl rfl rfl rfl rfl rfl rfl) ?_
            refine al_nil ?_
            refine awp_ret ?_
            repeat (first | refine tR ?_ | refine bR ?_)
            refine ret_ok rfl ?_ trivial
            (rw [hF, ← hm]; rfl)
          · try simp only [nn, Fd.rows_len, Fm.rows_len, Dr.rows_len, ddR_len] at hce
            have hF : madeF t d last = ⟨1, tagB d, 0, 0, 0⟩ := by
              unfold madeF
              rw [if_neg (by omega), if_neg (by omega), if_neg (by omega), if_neg (by rintro ⟨_, q1, q2⟩; rcases hce with h | h; omega; rw [q2] at h; simp at h), if_neg (by omega)]
            rw [hF]
            refine awp_skip ?_
            refine awp_seq (awp_region ?_)
            refine al_pure rfl rfl rfl (pure_move rfl gU) ?_
            refine al_pure rfl rfl rfl (pure_remG rfl rfl gU gU (fun hh => by first | omega | (simp at hh; omega)) (fun hh => Int.tmod_eq_emod_of_nonneg (by first | omega | (simp at hh; omega)))) ?_
            refine al_pure rfl rfl rfl (pure_convInt rfl gU ⟨_, Tryd.underlying3⟩ (Tryd.underlying5) (IntWalk.u8_in _ (by omega))) ?_
            refine al_buildSlice (xs := [_]) rfl rfl rfl rfl rfl rfl rfl rfl rfl gU rfl ?_
            refine al_pure rfl rfl rfl (pure_bytesStr (l := [UInt8.ofNat (d.a.toNat % 4)]) rfl (by exact byte1 (by omega) (by omega)) gU Tryd.underlying35 Tryd.underlying5 Tryd.underlying9) ?_
            refine al_pure rfl rfl rfl (pure_assign rfl gU) ?_
            refine al_nil ?_
            refine awp_sub (s := { t := [(6, _, _), (8, _, _), (9, _, _)], bx := [((.l 6), _)], ow := [] }) (sub_mk (⟨sx rfl, ⟨sx rfl, ⟨sx rfl, trivial⟩⟩⟩) (⟨sx rfl, trivial⟩) trivial) ?_
            refine awp_seq ?_
            refine awp_seq (awp_region ?_)
            refine al_pure rfl rfl rfl (pure_move rfl gU) ?_
            refine al_pure rfl rfl rfl (pure_remG rfl rfl gU gU (fun hh => by first | omega | (simp at hh; omega)) (fun hh => Int.tmod_eq_emod_of_nonneg (by first | omega | (simp at hh; omega)))) ?_
            refine al_pure rfl rfl rfl (pure_cmp rfl rfl gU gU rfl) ?_
            refine al_nil ?_
            refine awp_cond rfl (fun hcz => ?_) (fun hcz => ?_)
            · try simp only [nn, Fd.rows_len, Fm.rows_len, Dr.rows_len, ddR_len] at hcz
              refine awp_region ?_
              refine al_pure rfl rfl rfl (pure_move rfl gU) ?_
              refine al_pure rfl rfl rfl (pure_move rfl gU) ?_
              refine al_pure rfl rfl rfl (pure_remG rfl rfl gU gU (fun hh => by first | omega | (simp at hh; omega)) (fun hh => Int.tmod_eq_emod_of_nonneg (by first | omega | (simp at hh; omega)))) ?_
              refine al_pure rfl rfl rfl (pure_convInt rfl gU ⟨_, Tryd.underlying3⟩ (Tryd.underlying5) (IntWalk.u8_in _ (by omega))) ?_
              refine al_buildSlice (xs := [_]) rfl rfl rfl rfl rfl rfl rfl rfl rfl gU rfl ?_
              refine al_pure rfl rfl rfl (pure_bytesStr (l := [UInt8.ofNat (d.b.toNat % 4)]) rfl (by exact byte1 (by omega) (by omega)) gU Tryd.underlying35 Tryd.underlying5 Tryd.underlying9) ?_
              refine al_pure rfl rfl rfl (pure_concat rfl rfl gU gU (by first | (simp; done) | (simp; omega))) ?_
              refine al_pure rfl rfl rfl (pure_assign rfl gU) ?_
              refine al_nil ?_
              refine awp_sub (s := { t := [(6, _, _), (9, _, _)], bx := [((.l 6), _)], ow := [] }) (sub_mk (⟨sx rfl, ⟨sx rfl, trivial⟩⟩) (⟨sx rfl, trivial⟩) trivial) ?_
              refine awp_seq (awp_region ?_)
              refine al_pure rfl rfl rfl (pure_move rfl gU) ?_
              refine al_pure rfl rfl rfl (pure_build rfl Tryd.underlying53 rfl gU) ?_
              refine al_do rfl (does_store rfl rfl rfl rfl rfl rfl rfl) ?_
              refine al_nil ?_
              refine awp_ret ?_
              repeat (first | refine tR ?_ | refine bR ?_)
              refine ret_ok rfl ?_ trivial
              (exact xf_eq (congrArg (fun b => Fd.mk 1 b 0 0 0) (by rw [tagB, if_pos (by omega)]; try rfl)))
            · try simp only [nn, Fd.rows_len, Fm.rows_len, Dr.rows_len, ddR_len] at hcz
              refine awp_skip ?_
              refine awp_seq (awp_region ?_)
              refine al_pure rfl rfl rfl (pure_move rfl gU) ?_
              refine al_pure rfl rfl rfl (pure_build rfl Tryd.underlying53 rfl gU) ?_
              refine al_do rfl (does_store rfl rfl rfl rfl rfl rfl rfl) ?_
              refine al_nil ?_
              refine awp_ret ?_
              repeat (first | refine tR ?_ | refine bR ?_)
              refine ret_ok rfl ?_ trivial
              (exact xf_eq (congrArg (fun b => Fd.mk 1 b 0 0 0) (by rw [tagB, if_neg (by omega)]; try rfl)))
        · try simp only [nn, Fd.rows_len, Fm.rows_len, Dr.rows_len, ddR_len] at hcd
          refine awp_seq (awp_region ?_)
          refine al_pure rfl rfl rfl (pure_cmp rfl rfl gU gU rfl) ?_
          refine al_pure rfl rfl rfl (pure_assign rfl gU) ?_
          refine al_nil ?_
          refine awp_cond rfl (fun hcf => ?_) (fun hcf => ?_)
          · try simp only [nn, Fd.rows_len, Fm.rows_len, Dr.rows_len, ddR_len] at hcf
            refine awp_seq (awp_region ?_)
            refine al_pure rfl rfl rfl (pure_move rfl gU) ?_
            refine al_nil ?_
            refine awp_cond rfl (fun hcg => ?_) (fun hcg => ?_)
            · try simp only [nn, Fd.rows_len, Fm.rows_len, Dr.rows_len, ddR_len] at hcg
              have hF : madeF t d last = ⟨6, [], 0, (d.a.toNat % 3 : Nat), (d.a.toNat % 3 : Nat) + (d.b.toNat % 4 : Nat)⟩ := by unfold madeF; rw [if_neg (by omega), if_neg (by omega), if_neg (by omega), if_neg (by omega), if_pos ⟨by omega, hcg⟩]
              refine awp_seq (awp_region ?_)
              refine al_pure rfl rfl rfl (pure_move rfl gU) ?_
              refine al_pure rfl rfl rfl (pure_remG rfl rfl gU gU (fun hh => by first | omega | (simp at hh; omega)) (fun hh => Int.tmod_eq_emod_of_nonneg (by first | omega | (simp at hh; omega)))) ?_
              refine al_pure rfl rfl rfl (pure_move rfl gU) ?_
              refine al_pure rfl rfl rfl (pure_remG rfl rfl gU gU (fun hh => by first | omega | (simp at hh; omega)) (fun hh => Int.tmod_eq_emod_of_nonneg (by first | omega | (simp at hh; omega)))) ?_
              refine al_pure rfl rfl rfl (pure_move rfl gU) ?_
              refine al_pure rfl rfl rfl (pure_remG rfl rfl gU gU (fun hh => by first | omega | (simp at hh; omega)) (fun hh => Int.tmod_eq_emod_of_nonneg (by first | omega | (simp at hh; omega)))) ?_
              refine al_pure rfl rfl rfl (pure_arith rfl rfl gU gU rfl (IntWalk.i64_in _ (by omega))) ?_
              refine al_pure rfl rfl rfl (pure_build rfl Tryd.underlying53 rfl gU) ?_
              refine al_do rfl (does_store rfl rfl rfl rfl rfl rfl rfl) ?_
              refine al_nil ?_
              refine awp_ret ?_
              repeat (first | refine tR ?_ | refine bR ?_)
              refine ret_ok rfl ?_ trivial
              (rw [hF]; rfl)
            · try simp only [nn, Fd.rows_len, Fm.rows_len, Dr.rows_len, ddR_len] at hcg
              have hF : madeF t d last = ⟨1, tagB d, 0, 0, 0⟩ := by
                unfold madeF
                rw [if_neg (by omega), if_neg (by omega), if_neg (by omega), if_neg (by omega), if_neg (by rintro ⟨_, q⟩; rw [q] at hcg; simp at hcg)]
              rw [hF]
              refine awp_skip ?_
              refine awp_seq (awp_region ?_)
              refine al_pure rfl rfl rfl (pure_move rfl gU) ?_
              refine al_pure rfl rfl rfl (pure_remG rfl rfl gU gU (fun hh => by first | omega | (simp at hh; omega)) (fun hh => Int.tmod_eq_emod_of_nonneg (by first | omega | (simp at hh; omega)))) ?_
              refine al_pure rfl rfl rfl (pure_convInt rfl gU ⟨_, Tryd.underlying3⟩ (Tryd.underlying5) (IntWalk.u8_in _ (by omega))) ?_
              refine al_buildSlice (xs := [_]) rfl rfl rfl rfl rfl rfl rfl rfl rfl gU rfl ?_
              refine al_pure rfl rfl rfl (pure_bytesStr (l := [UInt8.ofNat (d.a.toNat % 4)]) rfl (by exact byte1 (by omega) (by omega)) gU Tryd.underlying35 Tryd.underlying5 Tryd.underlying9) ?_
              refine al_pure rfl rfl rfl (pure_assign rfl gU) ?_
              refine al_nil ?_
              refine awp_sub (s := { t := [(6, _, _), (8, _, _), (9, _, _)], bx := [((.l 6), _)], ow := [] }) (sub_mk (⟨sx rfl, ⟨sx rfl, ⟨sx rfl, trivial⟩⟩⟩) (⟨sx rfl, trivial⟩) trivial) ?_
              refine awp_seq ?_
              refine awp_seq (awp_region ?_)
              refine al_pure rfl rfl rfl (pure_move rfl gU) ?_
              refine al_pure rfl rfl rfl (pure_remG rfl rfl gU gU (fun hh => by first | omega | (simp at hh; omega)) (fun hh => Int.tmod_eq_emod_of_nonneg (by first | omega | (simp at hh; omega)))) ?_
              refine al_pure rfl rfl rfl (pure_cmp rfl rfl gU gU rfl) ?_
              refine al_nil ?_
              refine awp_cond rfl (fun hcz => ?_) (fun hcz => ?_)
              · try simp only [nn, Fd.rows_len, Fm.rows_len, Dr.rows_len, ddR_len] at hcz
                refine awp_region ?_
                refine al_pure rfl rfl rfl (pure_move rfl gU) ?_
                refine al_pure rfl rfl rfl (pure_move rfl gU) ?_
                refine al_pure rfl rfl rfl (pure_remG rfl rfl gU gU (fun hh => by first | omega | (simp at hh; omega)) (fun hh => Int.tmod_eq_emod_of_nonneg (by first | omega | (simp at hh; omega)))) ?_
                refine al_pure rfl rfl rfl (pure_convInt rfl gU ⟨_, Tryd.underlying3⟩ (Tryd.underlying5) (IntWalk.u8_in _ (by omega))) ?_
                refine al_buildSlice (xs := [_]) rfl rfl rfl rfl rfl rfl rfl rfl rfl gU rfl ?_
                refine al_pure rfl rfl rfl (pure_bytesStr (l := [UInt8.ofNat (d.b.toNat % 4)]) rfl (by exact byte1 (by omega) (by omega)) gU Tryd.underlying35 Tryd.underlying5 Tryd.underlying9) ?_
                refine al_pure rfl rfl rfl (pure_concat rfl rfl gU gU (by first | (simp; done) | (simp; omega))) ?_
                refine al_pure rfl rfl rfl (pure_assign rfl gU) ?_
                refine al_nil ?_
                refine awp_sub (s := { t := [(6, _, _), (9, _, _)], bx := [((.l 6), _)], ow := [] }) (sub_mk (⟨sx rfl, ⟨sx rfl, trivial⟩⟩) (⟨sx rfl, trivial⟩) trivial) ?_
                refine awp_seq (awp_region ?_)
                refine al_pure rfl rfl rfl (pure_move rfl gU) ?_
                refine al_pure rfl rfl rfl (pure_build rfl Tryd.underlying53 rfl gU) ?_
                refine al_do rfl (does_store rfl rfl rfl rfl rfl rfl rfl) ?_
                refine al_nil ?_
                refine awp_ret ?_
                repeat (first | refine tR ?_ | refine bR ?_)
                refine ret_ok rfl ?_ trivial
                (exact xf_eq (congrArg (fun b => Fd.mk 1 b 0 0 0) (by rw [tagB, if_pos (by omega)]; try rfl)))
              · try simp only [nn, Fd.rows_len, Fm.rows_len, Dr.rows_len, ddR_len] at hcz
                refine awp_skip ?_
                refine awp_seq (awp_region ?_)
                refine al_pure rfl rfl rfl (pure_move rfl gU) ?_
                refine al_pure rfl rfl rfl (pure_build rfl Tryd.underlying53 rfl gU) ?_
                refine al_do rfl (does_store rfl rfl rfl rfl rfl rfl rfl) ?_
                refine al_nil ?_
                refine awp_ret ?_
                repeat (first | refine tR ?_ | refine bR ?_)
                refine ret_ok rfl ?_ trivial
                (exact xf_eq (congrArg (fun b => Fd.mk 1 b 0 0 0) (by rw [tagB, if_neg (by omega)]; try rfl)))
          · try simp only [nn, Fd.rows_len, Fm.rows_len, Dr.rows_len, ddR_len] at hcf
            have hF : madeF t d last = ⟨1, tagB d, 0, 0, 0⟩ := by
              unfold madeF
              rw [if_neg (by omega), if_neg (by omega), if_neg (by omega), if_neg (by omega), if_neg (by omega)]
            rw [hF]
            refine awp_skip ?_
            refine awp_seq (awp_region ?_)
            refine al_pure rfl rfl rfl (pure_move rfl gU) ?_
            refine al_pure rfl rfl rfl (pure_remG rfl rfl gU gU (fun hh => by first | omega | (simp at hh; omega)) (fun hh => Int.tmod_eq_emod_of_nonneg (by first | omega | (simp at hh; omega)))) ?_
            refine al_pure rfl rfl rfl (pure_convInt rfl gU ⟨_, Tryd.underlying3⟩ (Tryd.underlying5) (IntWalk.u8_in _ (by omega))) ?_
            refine al_buildSlice (xs := [_]) rfl rfl rfl rfl rfl rfl rfl rfl rfl gU rfl ?_
            refine al_pure rfl rfl rfl (pure_bytesStr (l := [UInt8.ofNat (d.a.toNat % 4)]) rfl (by exact byte1 (by omega) (by omega)) gU Tryd.underlying35 Tryd.underlying5 Tryd.underlying9) ?_
            refine al_pure rfl rfl rfl (pure_assign rfl gU) ?_
            refine al_nil ?_
            refine awp_sub (s := { t := [(6, _, _), (8, _, _), (9, _, _)], bx := [((.l 6), _)], ow := [] }) (sub_mk (⟨sx rfl, ⟨sx rfl, ⟨sx rfl, trivial⟩⟩⟩) (⟨sx rfl, trivial⟩) trivial) ?_
            refine awp_seq ?_
            refine awp_seq (awp_region ?_)
            refine al_pure rfl rfl rfl (pure_move rfl gU) ?_
            refine al_pure rfl rfl rfl (pure_remG rfl rfl gU gU (fun hh => by first | omega | (simp at hh; omega)) (fun hh => Int.tmod_eq_emod_of_nonneg (by first | omega | (simp at hh; omega)))) ?_
            refine al_pure rfl rfl rfl (pure_cmp rfl rfl gU gU rfl) ?_
            refine al_nil ?_
            refine awp_cond rfl (fun hcz => ?_) (fun hcz => ?_)
            · try simp only [nn, Fd.rows_len, Fm.rows_len, Dr.rows_len, ddR_len] at hcz
              refine awp_region ?_
              refine al_pure rfl rfl rfl (pure_move rfl gU) ?_
              refine al_pure rfl rfl rfl (pure_move rfl gU) ?_
              refine al_pure rfl rfl rfl (pure_remG rfl rfl gU gU (fun hh => by first | omega | (simp at hh; omega)) (fun hh => Int.tmod_eq_emod_of_nonneg (by first | omega | (simp at hh; omega)))) ?_
              refine al_pure rfl rfl rfl (pure_convInt rfl gU ⟨_, Tryd.underlying3⟩ (Tryd.underlying5) (IntWalk.u8_in _ (by omega))) ?_
              refine al_buildSlice (xs := [_]) rfl rfl rfl rfl rfl rfl rfl rfl rfl gU rfl ?_
              refine al_pure rfl rfl rfl (pure_bytesStr (l := [UInt8.ofNat (d.b.toNat % 4)]) rfl (by exact byte1 (by omega) (by omega)) gU Tryd.underlying35 Tryd.underlying5 Tryd.underlying9) ?_
              refine al_pure rfl rfl rfl (pure_concat rfl rfl gU gU (by first | (simp; done) | (simp; omega))) ?_
              refine al_pure rfl rfl rfl (pure_assign rfl gU) ?_
              refine al_nil ?_
              refine awp_sub (s := { t := [(6, _, _), (9, _, _)], bx := [((.l 6), _)], ow := [] }) (sub_mk (⟨sx rfl, ⟨sx rfl, trivial⟩⟩) (⟨sx rfl, trivial⟩) trivial) ?_
              refine awp_seq (awp_region ?_)
              refine al_pure rfl rfl rfl (pure_move rfl gU) ?_
              refine al_pure rfl rfl rfl (pure_build rfl Tryd.underlying53 rfl gU) ?_
              refine al_do rfl (does_store rfl rfl rfl rfl rfl rfl rfl) ?_
              refine al_nil ?_
              refine awp_ret ?_
              repeat (first | refine tR ?_ | refine bR ?_)
              refine ret_ok rfl ?_ trivial
              (exact xf_eq (congrArg (fun b => Fd.mk 1 b 0 0 0) (by rw [tagB, if_pos (by omega)]; try rfl)))
            · try simp only [nn, Fd.rows_len, Fm.rows_len, Dr.rows_len, ddR_len] at hcz
              refine awp_skip ?_
              refine awp_seq (awp_region ?_)
              refine al_pure rfl rfl rfl (pure_move rfl gU) ?_
              refine al_pure rfl rfl rfl (pure_build rfl Tryd.underlying53 rfl gU) ?_
              refine al_do rfl (does_store rfl rfl rfl rfl rfl rfl rfl) ?_
              refine al_nil ?_
              refine awp_ret ?_
              repeat (first | refine tR ?_ | refine bR ?_)
              refine ret_ok rfl ?_ trivial
              (exact xf_eq (congrArg (fun b => Fd.mk 1 b 0 0 0) (by rw [tagB, if_neg (by omega)]; try rfl)))
end Go.Proofs.YthfoclblmdnckaaDoor
/- Contracts: Made. -/
set_option linter.unusedVariables false
set_option linter.unusedSimpArgs false
namespace Go.Proofs.YthfoclblmdnckaaDoor
open Go Go.Abs
theorem Fd.rows_snoc (l : List Fd) (f : Fd) : Fd.rows l ++ [f.cells] = Fd.rows (l ++ [f]) := by simp [Fd.rows]
theorem fm_row {nm nm' : List UInt8} {rs : List (List C)} {fs : List Fd} (h1 : nm = nm') (h2 : rs = Fd.rows fs) : [C.s nm, C.sl 5 rs] = (⟨nm', fs⟩ : Fm).cells := by rw [h1, h2]; rfl
theorem Made_spec (d : List (List Dr)) : Ctr sys 10 [xdd d] [] (xtab (madeE d)) none [] := by
  have hdl := ddR_len d
  refine spec_intro Tryd.func10 rfl rfl rfl rfl rfl rfl ?_
  refine awp_seq (awp_region ?_)
  refine al_do rfl (does_nil (.inr rfl) rfl rfl) ?_
  refine al_nil ?_
  refine awp_seq (awp_region ?_)
  refine al_do rfl (does_nil (.inr rfl) rfl rfl) ?_
  refine al_nil ?_
  refine awp_seq ?_
  refine awp_seq (awp_region ?_)
  refine al_pure rfl rfl rfl (pure_assign rfl gU) ?_
  refine al_nil ?_
  refine awp_block ?_
  refine awp_for (ι := Nat) { t := [(0, _, _)], bx := [], ow := [((.t 3), _)] } (fun i => [(4, true, xi (i : Int)), (3, true, xtab (madeT d i))]) (fun i => []) (fun i => i ≤ min d.length 4) (fun i => min d.length 4 - i) (0) (Nat.zero_le _) (sub_mk (⟨sx rfl, ⟨sx rfl, ⟨sx rfl, trivial⟩⟩⟩) trivial (⟨rfl, trivial⟩)) ?_
  intro i hok
  dsimp only [List.cons_append, List.nil_append]
  have hT := madeT_len d i
  have hTr := Fm.rows_len (madeT d i)
  refine awp_seq ?_
  refine awp_seq (awp_region ?_)
  refine al_pure rfl rfl rfl (pure_move rfl gU) ?_
  refine al_pure rfl rfl rfl (pure_move rfl gU) ?_
  refine al_lenSl rfl rfl rfl rfl rfl gU rfl rfl ?_ (fun hh => by simp at hh); intro hlen
  refine al_pure rfl rfl rfl (pure_cmp rfl rfl gU gU rfl) ?_
  refine al_pure rfl rfl rfl (pure_move rfl gU) ?_
  refine al_pure rfl rfl rfl (pure_move rfl gU) ?_
  refine al_pure rfl rfl rfl (pure_cmp rfl rfl (fun hh => hh) gU rfl) ?_
  refine al_pure rfl rfl rfl (pure_and rfl rfl gU (fun _ hi => gP rfl hi)) ?_
  refine al_nil ?_
  refine awp_sub (s := { t := [(0, _, _), (3, _, _), (4, _, _), (14, _, _)], bx := [], ow := [((.t 3), _)] }) (sub_mk (⟨sx rfl, ⟨sx rfl, ⟨sx rfl, ⟨sx rfl, trivial⟩⟩⟩⟩) trivial (⟨rfl, trivial⟩)) ?_
  refine awp_cond rfl (fun hc => ?_) (fun hc => ?_)
  · try simp only [nn, Fd.rows_len, Fm.rows_len, Dr.rows_len, ddR_len] at hc
    refine awp_skip ?_
    refine awp_seq ?_
    refine awp_block ?_
    refine awp_seq (awp_region ?_)
    refine al_pure rfl rfl rfl (pure_move rfl gU) ?_
    refine al_call rfl rfl rfl rfl rfl rfl gU gU (digits_spec i (by omega)) rfl ?_
    refine al_pure rfl rfl rfl (pure_concat rfl rfl gU gU (by first | (simp; done) | (simp; omega))) ?_
    refine al_pure rfl rfl rfl (pure_buildX rfl Tryd.underlying47 rfl gU) ?_
    refine al_do rfl (does_alloc rfl rfl rfl) ?_
    refine al_do rfl (does_store rfl rfl rfl rfl rfl rfl rfl) ?_
    refine al_nil ?_
    refine awp_sub (s := { t := [(0, _, _), (3, _, _), (4, _, _), (5, _, _)], bx := [((.l 5), _)], ow := [((.t 3), _)] }) (sub_mk (⟨sx rfl, ⟨sx rfl, ⟨sx rfl, ⟨sx rfl, trivial⟩⟩⟩⟩) (⟨sx rfl, trivial⟩) (⟨rfl, trivial⟩)) ?_
    refine awp_seq ?_
    refine awp_seq (awp_region ?_)
    refine al_pure rfl rfl rfl (pure_assign rfl gU) ?_
    refine al_nil ?_
    refine awp_block ?_
    refine awp_own (.l 5) 1 5 rfl rfl rfl ?_
    have hLr := Dr.rows_len (d.getD i [])
    refine awp_for (ι := Nat) { t := [(0, _, _), (3, _, _), (4, _, _), (5, _, _)], bx := [], ow := [((.b (.l 5) 1), _), ((.t 3), _)] } (fun k => [(6, true, xi (k : Int))]) (fun k => [((.l 5), [.s ([102] ++ [UInt8.ofNat (48 + i)]), .sl 5 (Fd.rows (madeP (madeT d i) (d.getD i []) k))])]) (fun k => k ≤ min (d.getD i []).length 4) (fun k => min (d.getD i []).length 4 - k) (0) (Nat.zero_le _) (sub_mk (⟨sx rfl, ⟨sx rfl, ⟨sx rfl, ⟨sx rfl, ⟨sx rfl, trivial⟩⟩⟩⟩⟩) (⟨sx rfl, trivial⟩) (⟨rfl, ⟨rfl, trivial⟩⟩)) ?_
    intro k hok2
    dsimp only [List.cons_append, List.nil_append]
    have hPr := Fd.rows_len (madeP (madeT d i) (d.getD i []) k)
    have hPl := madeP_len (madeT d i) (d.getD i []) k
    refine awp_seq ?_
    refine awp_seq (awp_region ?_)
    refine al_pure rfl rfl rfl (pure_move rfl gU) ?_
    refine al_pure rfl rfl rfl (pure_move rfl gU) ?_
    refine al_pure rfl rfl rfl (pure_move rfl gU) ?_
    refine al_pure rfl rfl rfl (pure_indexAddr (j := i) rfl rfl gU gU rfl rfl (by first | omega | (simp at hh; omega)) (fun hh => ddR_at (by first | omega | (simp at hh; omega)))) ?_
    refine al_pure rfl rfl rfl (pure_loadRo rfl gU rfl rfl rfl) ?_
    refine al_lenSl rfl rfl rfl rfl rfl gU rfl rfl ?_ (fun hh => by simp at hh); intro hlen
    refine al_pure rfl rfl rfl (pure_cmp rfl rfl gU gU rfl) ?_
    refine al_pure rfl rfl rfl (pure_move rfl gU) ?_
    refine al_pure rfl rfl rfl (pure_move rfl gU) ?_
    refine al_pure rfl rfl rfl (pure_cmp rfl rfl (fun hh => hh) gU rfl) ?_
    refine al_pure rfl rfl rfl (pure_and rfl rfl gU (fun _ hi => gP rfl hi)) ?_
    refine al_nil ?_
    refine awp_sub (s := { t := [(0, _, _), (3, _, _), (4, _, _), (5, _, _), (6, _, _), (31, _, _)], bx := [((.l 5), _)], ow := [((.b (.l 5) 1), _), ((.t 3), _)] }) (sub_mk (⟨sx rfl, ⟨sx rfl, ⟨sx rfl, ⟨sx rfl, ⟨sx rfl, ⟨sx rfl, trivial⟩⟩⟩⟩⟩⟩) (⟨sx rfl, trivial⟩) (⟨rfl, ⟨rfl, trivial⟩⟩)) ?_
    refine awp_cond rfl (fun hca => ?_) (fun hca => ?_)
    · try simp only [nn, Fd.rows_len, Fm.rows_len, Dr.rows_len, ddR_len] at hca
      refine awp_skip ?_
      refine awp_seq ?_
      refine awp_block ?_
      refine awp_drawn' (by kernel_rfl) ?_
      refine dr_pure rfl rfl rfl rfl (pure_fieldPtr rfl gU rfl rfl) ?_
      refine dr_loadTake rfl rfl rfl rfl rfl rfl rfl rfl rfl rfl rfl rfl ?_
      refine dr_pure rfl rfl rfl rfl (pure_move rfl gU) ?_
      refine dr_pure rfl rfl rfl rfl (pure_move rfl gU) ?_
      refine dr_pure rfl rfl rfl rfl (pure_move rfl gU) ?_
      refine dr_pure rfl rfl rfl rfl (pure_indexAddr (j := i) rfl rfl gU gU rfl rfl (by first | omega | (simp at hh; omega)) (fun hh => ddR_at (by first | omega | (simp at hh; omega)))) ?_
      refine dr_pure rfl rfl rfl rfl (pure_loadRo rfl gU rfl rfl rfl) ?_
      refine dr_pure rfl rfl rfl rfl (pure_move rfl gU) ?_
      refine dr_pure rfl rfl rfl rfl (pure_indexAddr (j := k) rfl rfl gU gU rfl rfl (by first | omega | (simp at hh; omega)) (fun hh => Dr.rows_at (by first | omega | (simp at hh; omega)))) ?_
      refine dr_pure rfl rfl rfl rfl (pure_loadRoRow rfl gU rfl rfl rfl rfl) ?_
      refine dr_pure rfl rfl rfl rfl (pure_move rfl gU) ?_
      refine dr_pure rfl rfl rfl rfl (pure_move rfl gU) ?_
      refine dr_pure rfl rfl rfl rfl (pure_move rfl gU) ?_
      refine dr_pure rfl rfl rfl rfl (pure_indexAddr (j := i) rfl rfl gU gU rfl rfl (by first | omega | (simp at hh; omega)) (fun hh => ddR_at (by first | omega | (simp at hh; omega)))) ?_
      refine dr_pure rfl rfl rfl rfl (pure_loadRo rfl gU rfl rfl rfl) ?_
      refine dr_pure rfl rfl rfl rfl (pure_lenSl rfl gU rfl rfl) ?_
      refine dr_pure rfl rfl rfl rfl (pure_arith rfl rfl gU gU rfl (IntWalk.i64_in _ (by omega))) ?_
      refine dr_pure rfl rfl rfl rfl (pure_cmp rfl rfl gU gU rfl) ?_
      refine dr_pure rfl rfl rfl rfl (pure_move rfl gU) ?_
      refine dr_pure rfl rfl rfl rfl (pure_move rfl gU) ?_
      refine dr_pure rfl rfl rfl rfl (pure_cmp rfl rfl (fun hh => hh) gU rfl) ?_
      refine dr_pure rfl rfl rfl rfl (pure_or rfl rfl gU (fun _ hi => gP rfl hi)) ?_
      refine dr_callN rfl rfl rfl rfl rfl rfl rfl gU gU (made_spec _ _ _ (by omega)) rfl ?_
      refine dr_build (xs := [_]) rfl rfl rfl rfl rfl rfl rfl rfl rfl rfl gU rfl ?_
      refine dr_append rfl rfl rfl rfl rfl (rko (ak2 rfl (ak rfl (ak rfl (ak rfl (ak rfl (ak rfl (ak rfl (ak rfl (ak rfl (ak rfl (ak rfl (ak rfl (ak rfl (ak rfl (ak rfl (ak rfl (ak rfl (ak rfl (ak rfl (ak rfl (ak rfl (ak rfl (rfl)))))))))))))))))))))))) rfl rfl rfl rfl rfl (by simp [Fd.rows_len, Fm.rows_len, madeP_len, madeT_len]; omega) (by simp [Fd.rows_len, Fm.rows_len, madeP_len, madeT_len]; omega) ?_
      refine dr_pure rfl rfl rfl rfl (pure_fieldPtr rfl gU rfl rfl) ?_
      refine dr_storeOwn rfl rfl rfl rfl rfl rfl rfl rfl rfl rfl rfl rfl ?_
      refine dr_nil (by kernel_rfl) ?_
      refine awp_sub (s := { t := [(0, _, _), (3, _, _), (4, _, _), (5, _, _), (6, _, _)], bx := [((.l 5), _)], ow := [((.b (.l 5) 1), _), ((.t 3), _)] }) (sub_mk (⟨sx rfl, ⟨sx rfl, ⟨sx rfl, ⟨sx rfl, ⟨sx rfl, trivial⟩⟩⟩⟩⟩) (⟨sx rfl, trivial⟩) (⟨rfl, ⟨(ak2 rfl (ak rfl (ak2 rfl (ak2 rfl (ak rfl (ak rfl (ak rfl (ak rfl (ak rfl (ak rfl (ak rfl (ak rfl (ak rfl (ak rfl (ak rfl (ak rfl (ak rfl (ak rfl (ak rfl (ak rfl (ak rfl (ak rfl (ak rfl (ak rfl (ak rfl (ak2 rfl (ak rfl (rfl)))))))))))))))))))))))))))), trivial⟩⟩)) ?_
      refine awp_region ?_
      refine al_pure rfl rfl rfl (pure_move rfl gU) ?_
      refine al_pure rfl rfl rfl (pure_arith rfl rfl gU gU rfl (IntWalk.i64_in _ (by omega))) ?_
      refine al_pure rfl rfl rfl (pure_assign rfl gU) ?_
      refine al_nil ?_
      refine ⟨k + 1, ?_, ?_, sub_mk (⟨⟨_, rfl, ?_⟩, ⟨sx rfl, ⟨sx rfl, ⟨sx rfl, ⟨sx rfl, trivial⟩⟩⟩⟩⟩) (⟨⟨_, rfl, ?_⟩, trivial⟩) (⟨rfl, ⟨rfl, trivial⟩⟩)⟩
      · omega
      · omega
      · rfl
      · rw [madeP_snoc, ← Fd.rows_snoc]
        have hb : (decide ((k : Int) = ((Dr.rows (d.getD i [])).length : Int) - 1) || decide ((k : Int) = 3)) = (decide (k + 1 = (d.getD i []).length) || decide (k = 3)) := by
          congr 1
          · exact decide_eq_decide.2 (by omega)
          · exact decide_eq_decide.2 (by omega)
        rw [← hb]
        rfl
    · try simp only [nn, Fd.rows_len, Fm.rows_len, Dr.rows_len, ddR_len] at hca
      have hk : k = min (d.getD i []).length 4 := by omega
      refine awp_exit ?_
      repeat (first | refine thenS_exit ?_ | refine blockS_hit ?_ | refine blockS_miss rfl ?_)
      refine awp_seq ?_
      refine awp_seq (awp_region ?_)
      refine al_pure rfl rfl rfl (pure_fieldPtr rfl gU rfl rfl) ?_
      refine al_do rfl (does_loadTake rfl rfl rfl rfl rfl rfl rfl) ?_
      refine al_lenSl rfl rfl rfl rfl rfl gU rfl rfl ?_ (fun hh => by simp at hh); intro hlen
      refine al_pure rfl rfl rfl (pure_cmp rfl rfl gU gU rfl) ?_
      refine al_nil ?_
      refine awp_cond rfl (fun hcb => ?_) (fun hcb => ?_)
      · try simp only [nn, Fd.rows_len, Fm.rows_len, Dr.rows_len, ddR_len] at hcb
        have h0 : min (d.getD i []).length 4 = 0 := by omega
        refine awp_region ?_
        refine al_pure rfl rfl rfl (pure_build rfl Tryd.underlying53 rfl gU) ?_
        refine al_buildSlice (xs := [_]) rfl rfl rfl rfl rfl rfl rfl rfl rfl gU rfl ?_
        refine al_pure rfl rfl rfl (pure_fieldPtr rfl gU rfl rfl) ?_
        refine al_do rfl (does_storeOwn rfl rfl rfl rfl rfl rfl rfl) ?_
        refine al_nil ?_
        refine awp_sub (s := { t := [(0, _, _), (3, _, _), (4, _, _), (5, _, _)], bx := [((.l 5), _)], ow := [((.b (.l 5) 1), _), ((.t 3), _)] }) (sub_mk (⟨sx rfl, ⟨sx rfl, ⟨sx rfl, ⟨sx rfl, trivial⟩⟩⟩⟩) (⟨sx rfl, trivial⟩) (⟨rfl, ⟨rfl, trivial⟩⟩)) ?_
        refine awp_region ?_
        refine al_do rfl (does_take (.inl rfl) rfl rfl rfl) ?_
        refine al_pure rfl rfl rfl (pure_loadBoxRow rfl gU rfl rfl rfl rfl rfl) ?_
        refine al_buildSlice (xs := [_]) rfl rfl rfl rfl rfl rfl rfl rfl rfl gU rfl ?_
        refine al_do rfl (does_append rfl rfl rfl rfl rfl rfl rfl (by simp [Fd.rows_len, Fm.rows_len, madeP_len, madeT_len]; omega) (by simp [Fd.rows_len, Fm.rows_len, madeP_len, madeT_len]; omega)) ?_
        refine al_do rfl (does_take (.inr rfl) rfl rfl rfl) ?_
        refine al_nil ?_
        refine awp_sub (s := { t := [(0, _, _), (3, _, _), (4, _, _)], bx := [], ow := [((.t 3), _)] }) (sub_mk (⟨sx rfl, ⟨sx rfl, ⟨sx rfl, trivial⟩⟩⟩) trivial (⟨rfl, trivial⟩)) ?_
        refine awp_region ?_
        refine al_pure rfl rfl rfl (pure_move rfl gU) ?_
        refine al_pure rfl rfl rfl (pure_arith rfl rfl gU gU rfl (IntWalk.i64_in _ (by omega))) ?_
        refine al_pure rfl rfl rfl (pure_assign rfl gU) ?_
        refine al_nil ?_
        refine ⟨i + 1, ?_, ?_, sub_mk (⟨⟨_, rfl, ?_⟩, ⟨⟨_, rfl, ?_⟩, ⟨sx rfl, trivial⟩⟩⟩) trivial (⟨rfl, trivial⟩)⟩
        · omega
        · omega
        · rfl
        · refine tx (tab_next (fm_row rfl ?_))
          rw [madeL, if_pos h0]; rfl
      · try simp only [nn, Fd.rows_len, Fm.rows_len, Dr.rows_len, ddR_len] at hcb
        have h0 : ¬ min (d.getD i []).length 4 = 0 := by omega
        refine awp_skip ?_
        refine awp_region ?_
        refine al_do rfl (does_take (.inl rfl) rfl rfl rfl) ?_
        refine al_pure rfl rfl rfl (pure_loadBoxRow rfl gU rfl rfl rfl rfl rfl) ?_
        refine al_buildSlice (xs := [_]) rfl rfl rfl rfl rfl rfl rfl rfl rfl gU rfl ?_
        refine al_do rfl (does_append rfl rfl rfl rfl rfl rfl rfl (by simp [Fd.rows_len, Fm.rows_len, madeP_len, madeT_len]; omega) (by simp [Fd.rows_len, Fm.rows_len, madeP_len, madeT_len]; omega)) ?_
        refine al_do rfl (does_take (.inr rfl) rfl rfl rfl) ?_
        refine al_nil ?_
        refine awp_sub (s := { t := [(0, _, _), (3, _, _), (4, _, _)], bx := [], ow := [((.t 3), _)] }) (sub_mk (⟨sx rfl, ⟨sx rfl, ⟨sx rfl, trivial⟩⟩⟩) trivial (⟨rfl, trivial⟩)) ?_
        refine awp_region ?_
        refine al_pure rfl rfl rfl (pure_move rfl gU) ?_
        refine al_pure rfl rfl rfl (pure_arith rfl rfl gU gU rfl (IntWalk.i64_in _ (by omega))) ?_
        refine al_pure rfl rfl rfl (pure_assign rfl gU) ?_
        refine al_nil ?_
        refine ⟨i + 1, ?_, ?_, sub_mk (⟨⟨_, rfl, ?_⟩, ⟨⟨_, rfl, ?_⟩, ⟨sx rfl, trivial⟩⟩⟩) trivial (⟨rfl, trivial⟩)⟩
        · omega
        · omega
        · rfl
        · refine tx (tab_next (fm_row rfl ?_))
          rw [madeL, if_neg h0, ← hk]
  · try simp only [nn, Fd.rows_len, Fm.rows_len, Dr.rows_len, ddR_len] at hc
    have hi : i = min d.length 4 := by omega
    refine awp_exit ?_
    repeat (first | refine thenS_exit ?_ | refine blockS_hit ?_ | refine blockS_miss rfl ?_)
    refine awp_seq (awp_region ?_)
    refine al_do rfl (does_take (.inl rfl) rfl rfl rfl) ?_
    refine al_do rfl (does_take (.inr rfl) rfl rfl rfl) ?_
    refine al_nil ?_
    refine awp_ret ?_
    repeat (first | refine tR ?_ | refine bR ?_)
    refine ret_ok rfl ?_ trivial
    (rw [madeE, ← hi]; rfl)
end Go.Proofs.YthfoclblmdnckaaDoor
